/- A library of the proof, and the functions' values and contracts. -/
import Derived.WalkKit
import Derived.Below
import Derived.WalkSpells
import Derived.WalkLawsBesides
import Derived.Maps.AppendAt
import Derived.OwnWalk
import Derived.OrdersHeld
import Derived.LoopN
import Derived.Deep.AppendSrc
import Derived.MapKept
set_option linter.unusedSimpArgs false
set_option linter.unusedVariables false
set_option linter.unusedSectionVars false
set_option linter.defProp false
namespace Go.Proofs.YtiepllpgifnloaaGreat.Vx
def zM8.{u}:=@Option.some.inj.{u}
def zM9:=@Nat.eq_of_beq_eq_true
def zNa.{u}:=@List.getElem?_eq_some_iff.{u}
def zNb.{u,v}:=@Prod.mk.inj.{u,v}
def zNc:=@Nat.le_of_ble_eq_true
def zNd:=@Nat.lt_of_lt_of_le
def zNe:=@Nat.mul_le_mul_right
def zNf:=@Nat.le_trans
def zNg.{u}:=@List.getElem?_eq_getElem.{u}
def zNh.{u}:=@List.getElem?_append_left.{u}
def zNi.{u}:=@Array.getElem?_eq_getElem.{u}
def zNj.{u}:=@List.length_eq_zero_iff.{u}
def zNk:=@Nat.zero_le
def zNl:=@Nat.eq_zero_or_pos
def zNm:=@Nat.le_refl
def zNn.{u}:=@Option.some.injEq.{u}
def zNo.{u}:=@List.length_append.{u}
def zNp.{u}:=@List.getElem?_append_right.{u}
def zNq.{u}:=@List.nodup_append.{u}
def zNr:=@Nat.add_mul
end Go.Proofs.YtiepllpgifnloaaGreat.Vx
namespace Go.Proofs.YtiepllpgifnloaaGreat.Vx
inductive T (α:Type) where
 |e
 |n (v:Option α) (l r:T α)
variable {α β:Type}
def T.get:T α→Nat→Option α
 | .e,_=>none
 | .n v l r,k=>match Nat.beq k 0 with
   |true=>v
   |false=>match Nat.beq (Nat.mod k 2) 1 with
    |true=>l.get (Nat.div k 2)
    |false=>r.get (Nat.sub (Nat.div k 2) 1)
def T.setF (v:Option α):Nat→T α→Nat→T α
 |0,t,_=>t
 |f+1, .e,k=>match Nat.beq k 0 with
  |true=> .n v .e .e
  |false=>match Nat.beq (Nat.mod k 2) 1 with
   |true=> .n none (T.setF v f .e (Nat.div k 2)) .e
   |false=> .n none .e (T.setF v f .e (Nat.sub (Nat.div k 2) 1))
 |f+1, .n u l r,k=>match Nat.beq k 0 with
  |true=> .n v l r
  |false=>match Nat.beq (Nat.mod k 2) 1 with
   |true=> .n u (T.setF v f l (Nat.div k 2)) r
   |false=> .n u l (T.setF v f r (Nat.sub (Nat.div k 2) 1))
def T.put (t:T α) (k:Nat) (v:Option α):T α:=T.setF v (Nat.succ k) t k
abbrev T.set (t:T α) (k:Nat) (v:α):T α:=t.put k (some v)
theorem T.get_e (k:Nat):(T.e:T α).get k=none:=by simp [T.get]
theorem zeT {a b:Nat} (h:a≠b):Nat.beq a b=false:=by cases hb:Nat.beq a b;rfl;exact absurd (zM9 hb) h
theorem T.get_setF (v:Option α):∀(f:Nat) (t:T α) (k j:Nat),k<f→(T.setF v f t k).get j=if j=k then v else t.get j:=by
 intro f
 induction f with
 |zero=>intro t k j h;omega
 |succ f ih=>
  intro t k j h;by_cases hk:k=0
  ·subst hk;cases t with
   |e=>
    simp only [T.setF,Nat.beq_refl,T.get];by_cases hj:j=0
    ·subst hj;simp
    ·simp only [zeT hj,hj,if_false];split<;>rfl
   |n u l r=>
    simp only [T.setF,Nat.beq_refl,T.get];by_cases hj:j=0
    ·subst hj;simp
    ·simp only [zeT hj,hj,if_false]
  ·have hdm:∀n:Nat,Nat.mod n 2=n%2:=fun _=>rfl;have hdd:∀n:Nat,Nat.div n 2=n / 2:=fun _=>rfl;have hds:∀n m:Nat,Nat.sub n m=n - m:=fun _ _=>rfl;have key:∀(u:Option α) (l r:T α),
     (match Nat.beq (Nat.mod k 2) 1 with
      |true=>T.n u (T.setF v f l (Nat.div k 2)) r
      |false=>T.n u l (T.setF v f r (Nat.sub (Nat.div k 2) 1))).get j=if j=k then v else (T.n u l r).get j:=by
    intro u l r;by_cases ho:k%2=1
    ·have hb:Nat.beq (Nat.mod k 2) 1=true:=by rw [hdm,ho];rfl
     simp only [hb];by_cases hj:j=0
     ·subst hj;simp only [T.get,Nat.beq_refl];rw [if_neg (fun e=>hk e.symm)]
     ·simp only [T.get,zeT hj];by_cases hjo:j%2=1
      ·have hbj:Nat.beq (Nat.mod j 2) 1=true:=by rw [hdm,hjo];rfl
       simp only [hbj,hdd];rw [ih l (k / 2) (j / 2) (by omega)]
       by_cases hjk:j=k
       ·subst hjk;simp
       ·rw [if_neg hjk,if_neg (by omega)]
      ·have hbj:Nat.beq (Nat.mod j 2) 1=false:=by rw [hdm];exact zeT hjo
       simp only [hbj];rw [if_neg (fun e=>hjo (by rw [e];exact ho))]
    ·have hb:Nat.beq (Nat.mod k 2) 1=false:=by rw [hdm];exact zeT ho
     simp only [hb];by_cases hj:j=0
     ·subst hj;simp only [T.get,Nat.beq_refl];rw [if_neg (fun e=>hk e.symm)]
     ·simp only [T.get,zeT hj];by_cases hjo:j%2=1
      ·have hbj:Nat.beq (Nat.mod j 2) 1=true:=by rw [hdm,hjo];rfl
       simp only [hbj];rw [if_neg (fun e=>ho (by rw [←e];exact hjo))]
      ·have hbj:Nat.beq (Nat.mod j 2) 1=false:=by rw [hdm];exact zeT hjo
       simp only [hbj,hdd,hds];rw [ih r (k / 2 - 1) (j / 2 - 1) (by omega)]
       by_cases hjk:j=k
       ·subst hjk;simp
       ·rw [if_neg hjk,if_neg (by omega)]
   cases t with
   |e=>
    have:=key none .e .e;simp only [T.setF,zeT hk];rw [this];by_cases hjk:j=k
    ·simp [hjk]
    ·rw [if_neg hjk,if_neg hjk,T.get_e];simp only [T.get];split
     ·rfl
     ·split<;>rfl
   |n u l r=>
    have:=key u l r;simp only [T.setF,zeT hk];exact this
theorem T.get_put (t:T α) (k j:Nat) (v:Option α):(t.put k v).get j=if j=k then v else t.get j:=T.get_setF v _ t k j (Nat.lt_succ_self k)
class Fast (P:Program) where
 inf:T TypeInfo
 inf_ok:∀t i,inf.get t=some i→P.info? t=some i
 fns:T Func
 fns_ok:∀f x,fns.get f=some x→P.funcs[f]? =some x
 plain:Bool
def zd0 (P:Program) [Fast P] (t:TypeId):Option TypeInfo:=(Fast.inf P).get t
def zeo (P:Program) [Fast P] (t:TypeId):Option TypeDesc:=match zd0 P t with
 |some i=>match i.desc with
  | .named _ u=>match zd0 P u with
    |some j=>some j.desc
    |none=>none
  |d=>some d
 |none=>none
def zJg (P:Program) [Fast P] (f:FuncId):Option Func:=(Fast.fns P).get f
theorem zad {P:Program} [Fast P] {t:TypeId} {i:TypeInfo} (h:zd0 P t=some i):P.info? t=some i:=Fast.inf_ok _ _ h
theorem zFH {P:Program} [Fast P] {f:FuncId} {x:Func} (h:zJg P f=some x):P.funcs[f]? =some x:=Fast.fns_ok _ _ h
theorem zn {P:Program} [Fast P] {t:TypeId} {d:TypeDesc} (h:zeo P t=some d):P.underlying t=some d:=by
 unfold zeo at h;unfold Program.underlying;split at h
 ·rename_i i hi;rw [zad hi];split at h
  ·rename_i u hd;split at h
   ·rename_i j hj;have hj:=zad hj;cases i;simp only at hd;subst hd;simp only [hj,Option.map_some];exact h
   ·cases h
  ·rename_i hd;cases i;simp only at h hd ⊢;split
   ·rename_i e;cases e;exact absurd rfl (hd _ _)
   ·rename_i e;cases e;exact h
   ·rename_i e;cases e
 ·cases h
def ofL:List α→Nat→T α→T α
 |[],_,t=>t
 |a::l,k,t=>ofL l (Nat.succ k) (t.set k a)
theorem zx8:∀{l:List α} {k:Nat} {t:T α} {j:Nat} {x:α},(ofL l k t).get j=some x→(k≤j∧l[j - k]? =some x)∨t.get j=some x
 |[],_,_,_,_,h=> .inr h
 |a::l,k,t,j,x,h=>by
  rcases zx8 (l:=l) h with ⟨h1,h2⟩|h1
  ·refine .inl ⟨by omega,?_⟩
   have:j - k=(j - (k+1))+1:=by omega
   rw [this,List.getElem?_cons_succ];exact h2
  ·rw [T.get_put] at h1;split at h1
   ·rename_i e;subst e;refine .inl ⟨zNm _,?_⟩;rw [Nat.sub_self];exact h1
   ·exact .inr h1
open Go.RowKit
structure Val where
 kind:Int
 n:Int
 off:Int
structure Wtr where
 g:Int
 case_:Int
 val:Val
structure Pck where
 g:Int
 case_:Int
structure Ins where
 op:Int
 a:Int
 b:Int
 c:Int
 at_:Int
structure Ev where
 g:Int
 kind:Int
 obj:Int
 off:Int
 k:Int
 n:Int
 fn:Int
 pc:Int
 stack:Int
structure Ob where
 id:Int
 cells_:List Val
 chan:Bool
 cap:Int
 queue:List Val
 closed:Bool
 sent:Int
 received:Int
 senders:List Wtr
 receivers:List Wtr
structure Syn where
 obj:Int
 off:Int
 kind:Int
 owner:Int
 readers:List Int
 count_:Int
structure Dfr where
 fn:Int
 args:List Val
structure Frm where
 fn:Int
 pc:Int
 regs:List Val
 dest:Int
 defers:List Dfr
 leaving:Bool
 result:Val
structure Gor where
 state:Int
 fault:Int
 allocs:Int
 frames:List Frm
structure Trf where
 status:Int
 value:Val
 ok:Bool
 number:Int
 paired:Bool
 partner:Wtr
 partnerNumber:Int
 woken:List Wtr
 failed:List Wtr
structure Fnc where
 name:ByteArray
 params:Int
 regs:Int
 code:List Ins
structure Glb where
 name:ByteArray
 kind:Int
structure Prg where
 funcs:List Fnc
 globals:List Glb
 layouts:List (List Int)
 main:Int
structure Mac where
 objects:List Ob
 syncs:List Syn
 goroutines:List Gor
 output:List Int
abbrev Mco:=Mac
structure Vmx where
 m:Mac
 events:List Ev
 gs:List Int
structure Vm where
 p:Prg
 m:Mac
 events:List Ev
 gs:List Int
structure Opn where
 o:Ob
 w:Wtr
structure Smp where
 op:Int
 var:Int
 val:Int
structure Sta where
 threads:List (List Smp)
 script:List Int
inductive SN where
 |val
 |wtr
 |pck
 |ins
 |ev
 |ob
 |syn
 |dfr
 |frm
 |gor
 |trf
 |fnc
 |glb
 |prg
 |mac
 |mco
 |vmx
 |vm
 |opn
 |smp
 |sta
 deriving DecidableEq
def SN.ty:SN→Type
 | .val=>Val
 | .wtr=>Wtr
 | .pck=>Pck
 | .ins=>Ins
 | .ev=>Ev
 | .ob=>Ob
 | .syn=>Syn
 | .dfr=>Dfr
 | .frm=>Frm
 | .gor=>Gor
 | .trf=>Trf
 | .fnc=>Fnc
 | .glb=>Glb
 | .prg=>Prg
 | .mac=>Mac
 | .mco=>Mco
 | .vmx=>Vmx
 | .vm=>Vm
 | .opn=>Opn
 | .smp=>Smp
 | .sta=>Sta
inductive RT where
 |int (k:IntKind)
 |bool
 |str
 |list (t:RT)
 |st (n:SN)
def RT.ty:RT→Type
 | .int _=>Int
 | .bool=>Bool
 | .str=>ByteArray
 | .list t=>List t.ty
 | .st n=>n.ty
inductive Leaf where
 |int (k:IntKind) (n:Int)
 |bool (b:Bool)
 |str (s:ByteArray)
 |list (t:RT) (l:List t.ty)
def SN.dflt:(n:SN)→n.ty
 | .val=>(⟨0,0,0⟩:Val)
 | .wtr=>(⟨0,0,⟨0,0,0⟩⟩:Wtr)
 | .pck=>(⟨0,0⟩:Pck)
 | .ins=>(⟨0,0,0,0,0⟩:Ins)
 | .ev=>(⟨0,0,0,0,0,0,0,0,0⟩:Ev)
 | .ob=>(⟨0,[],false,0,[],false,0,0,[],[]⟩:Ob)
 | .syn=>(⟨0,0,0,0,[],0⟩:Syn)
 | .dfr=>(⟨0,[]⟩:Dfr)
 | .frm=>(⟨0,0,[],0,[],false,⟨0,0,0⟩⟩:Frm)
 | .gor=>(⟨0,0,0,[]⟩:Gor)
 | .trf=>(⟨0,⟨0,0,0⟩,false,0,false,⟨0,0,⟨0,0,0⟩⟩,0,[],[]⟩:Trf)
 | .fnc=>(⟨ByteArray.empty,0,0,[]⟩:Fnc)
 | .glb=>(⟨ByteArray.empty,0⟩:Glb)
 | .prg=>(⟨[],[],[],0⟩:Prg)
 | .mac=>(⟨[],[],[],[]⟩:Mac)
 | .mco=>(⟨[],[],[],[]⟩:Mco)
 | .vmx=>(⟨⟨[],[],[],[]⟩,[],[]⟩:Vmx)
 | .vm=>(⟨⟨[],[],[],0⟩,⟨[],[],[],[]⟩,[],[]⟩:Vm)
 | .opn=>(⟨⟨0,[],false,0,[],false,0,0,[],[]⟩,⟨0,0,⟨0,0,0⟩⟩⟩:Opn)
 | .smp=>(⟨0,0,0⟩:Smp)
 | .sta=>(⟨[],[]⟩:Sta)
def SN.size:SN→Nat
 | .val=>3
 | .wtr=>5
 | .pck=>2
 | .ins=>5
 | .ev=>9
 | .ob=>10
 | .syn=>6
 | .dfr=>2
 | .frm=>9
 | .gor=>4
 | .trf=>15
 | .fnc=>4
 | .glb=>2
 | .prg=>4
 | .mac=>4
 | .mco=>4
 | .vmx=>6
 | .vm=>10
 | .opn=>15
 | .smp=>3
 | .sta=>2
def SN.leaves:(n:SN)→n.ty→List Leaf
 | .val,(x:Val)=>[.int .i64 x.kind, .int .i64 x.n, .int .i64 x.off]
 | .wtr,(x:Wtr)=>[.int .i64 x.g, .int .i64 x.case_, .int .i64 x.val.kind, .int .i64 x.val.n, .int .i64 x.val.off]
 | .pck,(x:Pck)=>[.int .i64 x.g, .int .i64 x.case_]
 | .ins,(x:Ins)=>[.int .i64 x.op, .int .i64 x.a, .int .i64 x.b, .int .i64 x.c, .int .i64 x.at_]
 | .ev,(x:Ev)=>[.int .i64 x.g, .int .i64 x.kind, .int .i64 x.obj, .int .i64 x.off, .int .i64 x.k, .int .i64 x.n, .int .i64 x.fn, .int .i64 x.pc, .int .i64 x.stack]
 | .ob,(x:Ob)=>[.int .i64 x.id, .list (.st .val) x.cells_, .bool x.chan, .int .i64 x.cap, .list (.st .val) x.queue, .bool x.closed, .int .i64 x.sent, .int .i64 x.received, .list (.st .wtr) x.senders, .list (.st .wtr) x.receivers]
 | .syn,(x:Syn)=>[.int .i64 x.obj, .int .i64 x.off, .int .i64 x.kind, .int .i64 x.owner, .list (.int .i64) x.readers, .int .i64 x.count_]
 | .dfr,(x:Dfr)=>[.int .i64 x.fn, .list (.st .val) x.args]
 | .frm,(x:Frm)=>[.int .i64 x.fn, .int .i64 x.pc, .list (.st .val) x.regs, .int .i64 x.dest, .list (.st .dfr) x.defers, .bool x.leaving, .int .i64 x.result.kind, .int .i64 x.result.n, .int .i64 x.result.off]
 | .gor,(x:Gor)=>[.int .i64 x.state, .int .i64 x.fault, .int .i64 x.allocs, .list (.st .frm) x.frames]
 | .trf,(x:Trf)=>[.int .i64 x.status, .int .i64 x.value.kind, .int .i64 x.value.n, .int .i64 x.value.off, .bool x.ok, .int .i64 x.number, .bool x.paired, .int .i64 x.partner.g, .int .i64 x.partner.case_, .int .i64 x.partner.val.kind, .int .i64 x.partner.val.n, .int .i64 x.partner.val.off, .int .i64 x.partnerNumber, .list (.st .wtr) x.woken, .list (.st .wtr) x.failed]
 | .fnc,(x:Fnc)=>[.str x.name, .int .i64 x.params, .int .i64 x.regs, .list (.st .ins) x.code]
 | .glb,(x:Glb)=>[.str x.name, .int .i64 x.kind]
 | .prg,(x:Prg)=>[.list (.st .fnc) x.funcs, .list (.st .glb) x.globals, .list (.list (.int .i64)) x.layouts, .int .i64 x.main]
 | .mac,(x:Mac)=>[.list (.st .ob) x.objects, .list (.st .syn) x.syncs, .list (.st .gor) x.goroutines, .list (.int .i64) x.output]
 | .mco,(x:Mco)=>[.list (.st .ob) x.objects, .list (.st .syn) x.syncs, .list (.st .gor) x.goroutines, .list (.int .i64) x.output]
 | .vmx,(x:Vmx)=>[.list (.st .ob) x.m.objects, .list (.st .syn) x.m.syncs, .list (.st .gor) x.m.goroutines, .list (.int .i64) x.m.output, .list (.st .ev) x.events, .list (.int .i64) x.gs]
 | .vm,(x:Vm)=>[.list (.st .fnc) x.p.funcs, .list (.st .glb) x.p.globals, .list (.list (.int .i64)) x.p.layouts, .int .i64 x.p.main, .list (.st .ob) x.m.objects, .list (.st .syn) x.m.syncs, .list (.st .gor) x.m.goroutines, .list (.int .i64) x.m.output, .list (.st .ev) x.events, .list (.int .i64) x.gs]
 | .opn,(x:Opn)=>[.int .i64 x.o.id, .list (.st .val) x.o.cells_, .bool x.o.chan, .int .i64 x.o.cap, .list (.st .val) x.o.queue, .bool x.o.closed, .int .i64 x.o.sent, .int .i64 x.o.received, .list (.st .wtr) x.o.senders, .list (.st .wtr) x.o.receivers, .int .i64 x.w.g, .int .i64 x.w.case_, .int .i64 x.w.val.kind, .int .i64 x.w.val.n, .int .i64 x.w.val.off]
 | .smp,(x:Smp)=>[.int .u8 x.op, .int .u8 x.var, .int .u8 x.val]
 | .sta,(x:Sta)=>[.list (.list (.st .smp)) x.threads, .list (.int .u8) x.script]
theorem SN.leaves_len:∀(n:SN) (x:n.ty),(n.leaves x).length=n.size
 | .val,_=>rfl
 | .wtr,_=>rfl
 | .pck,_=>rfl
 | .ins,_=>rfl
 | .ev,_=>rfl
 | .ob,_=>rfl
 | .syn,_=>rfl
 | .dfr,_=>rfl
 | .frm,_=>rfl
 | .gor,_=>rfl
 | .trf,_=>rfl
 | .fnc,_=>rfl
 | .glb,_=>rfl
 | .prg,_=>rfl
 | .mac,_=>rfl
 | .mco,_=>rfl
 | .vmx,_=>rfl
 | .vm,_=>rfl
 | .opn,_=>rfl
 | .smp,_=>rfl
 | .sta,_=>rfl
def RT.same:(t u:RT)→Option (PLift (t=u))
 | .int k, .int j=>if h:k=j then some ⟨by rw [h]⟩ else none
 | .bool, .bool=>some ⟨rfl⟩
 | .str, .str=>some ⟨rfl⟩
 | .list t, .list u=>match RT.same t u with
   |some h=>some ⟨by rw [h.down]⟩
   |none=>none
 | .st n, .st m=>if h:n=m then some ⟨by rw [h]⟩ else none
 |_,_=>none
def zqO {t u:RT} (h:PLift (t=u)) (l:List t.ty):List u.ty:=h.down▸l
def Leaf.asInt (k:IntKind):Leaf→Option Int
 | .int j n=>if j=k then some n else none
 |_=>none
def Leaf.asBool:Leaf→Option Bool
 | .bool b=>some b
 |_=>none
def Leaf.asStr:Leaf→Option ByteArray
 | .str b=>some b
 |_=>none
def Leaf.asList (t:RT):Leaf→Option (List t.ty)
 | .list u l=>match RT.same u t with
   |some h=>some (zqO h l)
   |none=>none
 |_=>none
theorem Leaf.asInt_eq {k:IntKind} {l:Leaf} {n:Int} (h:l.asInt k=some n):l= .int k n:=by
 unfold Leaf.asInt at h;split at h
 ·split at h
  ·rename_i e;obtain rfl:=zM8 h;rw [e]
  ·cases h
 ·cases h
theorem Leaf.asBool_eq {l:Leaf} {b:Bool} (h:l.asBool=some b):l= .bool b:=by
 unfold Leaf.asBool at h;split at h
 ·obtain rfl:=zM8 h;rfl
 ·cases h
theorem Leaf.asStr_eq {l:Leaf} {b:ByteArray} (h:l.asStr=some b):l= .str b:=by
 unfold Leaf.asStr at h;split at h
 ·obtain rfl:=zM8 h;rfl
 ·cases h
theorem Leaf.asList_eq {t:RT} {l:Leaf} {b:List t.ty} (h:l.asList t=some b):l= .list t b:=by
 unfold Leaf.asList at h;split at h
 ·split at h
  ·rename_i e _;obtain rfl:=zM8 h;obtain ⟨e⟩:=e;subst e;rfl
  ·cases h
 ·cases h
def zs1:List Leaf→Option Val
 |[c0,c1,c2]=>match c0.asInt .i64 with|some v0=>(match c1.asInt .i64 with|some v1=>(match c2.asInt .i64 with|some v2=>(some ⟨v0,v1,v2⟩)|none=>none)|none=>none)|none=>none
 |_=>none
theorem zxx {ls:List Leaf} {x:Val} (h:zs1 ls=some x):SN.leaves .val x=ls:=by
 unfold zs1 at h;split at h
 ·rename_i c0 c1 c2;cases e0:c0.asInt .i64 with
  |none=>rw [e0] at h;cases h
  |some v0=>
  rw [e0] at h;simp only at h;cases e1:c1.asInt .i64 with
  |none=>rw [e1] at h;cases h
  |some v1=>
  rw [e1] at h;simp only at h;cases e2:c2.asInt .i64 with
  |none=>rw [e2] at h;cases h
  |some v2=>
  rw [e2] at h;simp only at h;obtain rfl:=zM8 h;rw [Leaf.asInt_eq e0];rw [Leaf.asInt_eq e1];rw [Leaf.asInt_eq e2];rfl
 ·cases h
def zs3:List Leaf→Option Wtr
 |[c0,c1,c2,c3,c4]=>match c0.asInt .i64 with|some v0=>(match c1.asInt .i64 with|some v1=>(match c2.asInt .i64 with|some v2=>(match c3.asInt .i64 with|some v3=>(match c4.asInt .i64 with|some v4=>(some ⟨v0,v1,⟨v2,v3,v4⟩⟩)|none=>none)|none=>none)|none=>none)|none=>none)|none=>none
 |_=>none
theorem zxA {ls:List Leaf} {x:Wtr} (h:zs3 ls=some x):SN.leaves .wtr x=ls:=by
 unfold zs3 at h;split at h
 ·rename_i c0 c1 c2 c3 c4;cases e0:c0.asInt .i64 with
  |none=>rw [e0] at h;cases h
  |some v0=>
  rw [e0] at h;simp only at h;cases e1:c1.asInt .i64 with
  |none=>rw [e1] at h;cases h
  |some v1=>
  rw [e1] at h;simp only at h;cases e2:c2.asInt .i64 with
  |none=>rw [e2] at h;cases h
  |some v2=>
  rw [e2] at h;simp only at h;cases e3:c3.asInt .i64 with
  |none=>rw [e3] at h;cases h
  |some v3=>
  rw [e3] at h;simp only at h;cases e4:c4.asInt .i64 with
  |none=>rw [e4] at h;cases h
  |some v4=>
  rw [e4] at h;simp only at h;obtain rfl:=zM8 h;rw [Leaf.asInt_eq e0];rw [Leaf.asInt_eq e1];rw [Leaf.asInt_eq e2];rw [Leaf.asInt_eq e3];rw [Leaf.asInt_eq e4];rfl
 ·cases h
def zsV:List Leaf→Option Pck
 |[c0,c1]=>match c0.asInt .i64 with|some v0=>(match c1.asInt .i64 with|some v1=>(some ⟨v0,v1⟩)|none=>none)|none=>none
 |_=>none
theorem zxr {ls:List Leaf} {x:Pck} (h:zsV ls=some x):SN.leaves .pck x=ls:=by
 unfold zsV at h;split at h
 ·rename_i c0 c1;cases e0:c0.asInt .i64 with
  |none=>rw [e0] at h;cases h
  |some v0=>
  rw [e0] at h;simp only at h;cases e1:c1.asInt .i64 with
  |none=>rw [e1] at h;cases h
  |some v1=>
  rw [e1] at h;simp only at h;obtain rfl:=zM8 h;rw [Leaf.asInt_eq e0];rw [Leaf.asInt_eq e1];rfl
 ·cases h
def zsR:List Leaf→Option Ins
 |[c0,c1,c2,c3,c4]=>match c0.asInt .i64 with|some v0=>(match c1.asInt .i64 with|some v1=>(match c2.asInt .i64 with|some v2=>(match c3.asInt .i64 with|some v3=>(match c4.asInt .i64 with|some v4=>(some ⟨v0,v1,v2,v3,v4⟩)|none=>none)|none=>none)|none=>none)|none=>none)|none=>none
 |_=>none
theorem zxm {ls:List Leaf} {x:Ins} (h:zsR ls=some x):SN.leaves .ins x=ls:=by
 unfold zsR at h;split at h
 ·rename_i c0 c1 c2 c3 c4;cases e0:c0.asInt .i64 with
  |none=>rw [e0] at h;cases h
  |some v0=>
  rw [e0] at h;simp only at h;cases e1:c1.asInt .i64 with
  |none=>rw [e1] at h;cases h
  |some v1=>
  rw [e1] at h;simp only at h;cases e2:c2.asInt .i64 with
  |none=>rw [e2] at h;cases h
  |some v2=>
  rw [e2] at h;simp only at h;cases e3:c3.asInt .i64 with
  |none=>rw [e3] at h;cases h
  |some v3=>
  rw [e3] at h;simp only at h;cases e4:c4.asInt .i64 with
  |none=>rw [e4] at h;cases h
  |some v4=>
  rw [e4] at h;simp only at h;obtain rfl:=zM8 h;rw [Leaf.asInt_eq e0];rw [Leaf.asInt_eq e1];rw [Leaf.asInt_eq e2];rw [Leaf.asInt_eq e3];rw [Leaf.asInt_eq e4];rfl
 ·cases h
def zxh:List Leaf→Option Ev
 |[c0,c1,c2,c3,c4,c5,c6,c7,c8]=>match c0.asInt .i64 with|some v0=>(match c1.asInt .i64 with|some v1=>(match c2.asInt .i64 with|some v2=>(match c3.asInt .i64 with|some v3=>(match c4.asInt .i64 with|some v4=>(match c5.asInt .i64 with|some v5=>(match c6.asInt .i64 with|some v6=>(match c7.asInt .i64 with|some v7=>(match c8.asInt .i64 with|some v8=>(some ⟨v0,v1,v2,v3,v4,v5,v6,v7,v8⟩)|none=>none)|none=>none)|none=>none)|none=>none)|none=>none)|none=>none)|none=>none)|none=>none)|none=>none
 |_=>none
theorem zAw {ls:List Leaf} {x:Ev} (h:zxh ls=some x):SN.leaves .ev x=ls:=by
 unfold zxh at h;split at h
 ·rename_i c0 c1 c2 c3 c4 c5 c6 c7 c8;cases e0:c0.asInt .i64 with
  |none=>rw [e0] at h;cases h
  |some v0=>
  rw [e0] at h;simp only at h;cases e1:c1.asInt .i64 with
  |none=>rw [e1] at h;cases h
  |some v1=>
  rw [e1] at h;simp only at h;cases e2:c2.asInt .i64 with
  |none=>rw [e2] at h;cases h
  |some v2=>
  rw [e2] at h;simp only at h;cases e3:c3.asInt .i64 with
  |none=>rw [e3] at h;cases h
  |some v3=>
  rw [e3] at h;simp only at h;cases e4:c4.asInt .i64 with
  |none=>rw [e4] at h;cases h
  |some v4=>
  rw [e4] at h;simp only at h;cases e5:c5.asInt .i64 with
  |none=>rw [e5] at h;cases h
  |some v5=>
  rw [e5] at h;simp only at h;cases e6:c6.asInt .i64 with
  |none=>rw [e6] at h;cases h
  |some v6=>
  rw [e6] at h;simp only at h;cases e7:c7.asInt .i64 with
  |none=>rw [e7] at h;cases h
  |some v7=>
  rw [e7] at h;simp only at h;cases e8:c8.asInt .i64 with
  |none=>rw [e8] at h;cases h
  |some v8=>
  rw [e8] at h;simp only at h;obtain rfl:=zM8 h;rw [Leaf.asInt_eq e0];rw [Leaf.asInt_eq e1];rw [Leaf.asInt_eq e2];rw [Leaf.asInt_eq e3];rw [Leaf.asInt_eq e4];rw [Leaf.asInt_eq e5];rw [Leaf.asInt_eq e6];rw [Leaf.asInt_eq e7];rw [Leaf.asInt_eq e8];rfl
 ·cases h
def zxp:List Leaf→Option Ob
 |[c0,c1,c2,c3,c4,c5,c6,c7,c8,c9]=>match c0.asInt .i64 with|some v0=>(match c1.asList (.st .val) with|some v1=>(match c2.asBool with|some v2=>(match c3.asInt .i64 with|some v3=>(match c4.asList (.st .val) with|some v4=>(match c5.asBool with|some v5=>(match c6.asInt .i64 with|some v6=>(match c7.asInt .i64 with|some v7=>(match c8.asList (.st .wtr) with|some v8=>(match c9.asList (.st .wtr) with|some v9=>(some ⟨v0,v1,v2,v3,v4,v5,v6,v7,v8,v9⟩)|none=>none)|none=>none)|none=>none)|none=>none)|none=>none)|none=>none)|none=>none)|none=>none)|none=>none)|none=>none
 |_=>none
theorem zAx {ls:List Leaf} {x:Ob} (h:zxp ls=some x):SN.leaves .ob x=ls:=by
 unfold zxp at h;split at h
 ·rename_i c0 c1 c2 c3 c4 c5 c6 c7 c8 c9;cases e0:c0.asInt .i64 with
  |none=>rw [e0] at h;cases h
  |some v0=>
  rw [e0] at h;simp only at h;cases e1:c1.asList (.st .val) with
  |none=>rw [e1] at h;cases h
  |some v1=>
  rw [e1] at h;simp only at h;cases e2:c2.asBool with
  |none=>rw [e2] at h;cases h
  |some v2=>
  rw [e2] at h;simp only at h;cases e3:c3.asInt .i64 with
  |none=>rw [e3] at h;cases h
  |some v3=>
  rw [e3] at h;simp only at h;cases e4:c4.asList (.st .val) with
  |none=>rw [e4] at h;cases h
  |some v4=>
  rw [e4] at h;simp only at h;cases e5:c5.asBool with
  |none=>rw [e5] at h;cases h
  |some v5=>
  rw [e5] at h;simp only at h;cases e6:c6.asInt .i64 with
  |none=>rw [e6] at h;cases h
  |some v6=>
  rw [e6] at h;simp only at h;cases e7:c7.asInt .i64 with
  |none=>rw [e7] at h;cases h
  |some v7=>
  rw [e7] at h;simp only at h;cases e8:c8.asList (.st .wtr) with
  |none=>rw [e8] at h;cases h
  |some v8=>
  rw [e8] at h;simp only at h;cases e9:c9.asList (.st .wtr) with
  |none=>rw [e9] at h;cases h
  |some v9=>
  rw [e9] at h;simp only at h;obtain rfl:=zM8 h;rw [Leaf.asInt_eq e0];rw [Leaf.asList_eq e1];rw [Leaf.asBool_eq e2];rw [Leaf.asInt_eq e3];rw [Leaf.asList_eq e4];rw [Leaf.asBool_eq e5];rw [Leaf.asInt_eq e6];rw [Leaf.asInt_eq e7];rw [Leaf.asList_eq e8];rw [Leaf.asList_eq e9];rfl
 ·cases h
def zsZ:List Leaf→Option Syn
 |[c0,c1,c2,c3,c4,c5]=>match c0.asInt .i64 with|some v0=>(match c1.asInt .i64 with|some v1=>(match c2.asInt .i64 with|some v2=>(match c3.asInt .i64 with|some v3=>(match c4.asList (.int .i64) with|some v4=>(match c5.asInt .i64 with|some v5=>(some ⟨v0,v1,v2,v3,v4,v5⟩)|none=>none)|none=>none)|none=>none)|none=>none)|none=>none)|none=>none
 |_=>none
theorem zxv {ls:List Leaf} {x:Syn} (h:zsZ ls=some x):SN.leaves .syn x=ls:=by
 unfold zsZ at h;split at h
 ·rename_i c0 c1 c2 c3 c4 c5;cases e0:c0.asInt .i64 with
  |none=>rw [e0] at h;cases h
  |some v0=>
  rw [e0] at h;simp only at h;cases e1:c1.asInt .i64 with
  |none=>rw [e1] at h;cases h
  |some v1=>
  rw [e1] at h;simp only at h;cases e2:c2.asInt .i64 with
  |none=>rw [e2] at h;cases h
  |some v2=>
  rw [e2] at h;simp only at h;cases e3:c3.asInt .i64 with
  |none=>rw [e3] at h;cases h
  |some v3=>
  rw [e3] at h;simp only at h;cases e4:c4.asList (.int .i64) with
  |none=>rw [e4] at h;cases h
  |some v4=>
  rw [e4] at h;simp only at h;cases e5:c5.asInt .i64 with
  |none=>rw [e5] at h;cases h
  |some v5=>
  rw [e5] at h;simp only at h;obtain rfl:=zM8 h;rw [Leaf.asInt_eq e0];rw [Leaf.asInt_eq e1];rw [Leaf.asInt_eq e2];rw [Leaf.asInt_eq e3];rw [Leaf.asList_eq e4];rw [Leaf.asInt_eq e5];rfl
 ·cases h
def zsM:List Leaf→Option Dfr
 |[c0,c1]=>match c0.asInt .i64 with|some v0=>(match c1.asList (.st .val) with|some v1=>(some ⟨v0,v1⟩)|none=>none)|none=>none
 |_=>none
theorem zxg {ls:List Leaf} {x:Dfr} (h:zsM ls=some x):SN.leaves .dfr x=ls:=by
 unfold zsM at h;split at h
 ·rename_i c0 c1;cases e0:c0.asInt .i64 with
  |none=>rw [e0] at h;cases h
  |some v0=>
  rw [e0] at h;simp only at h;cases e1:c1.asList (.st .val) with
  |none=>rw [e1] at h;cases h
  |some v1=>
  rw [e1] at h;simp only at h;obtain rfl:=zM8 h;rw [Leaf.asInt_eq e0];rw [Leaf.asList_eq e1];rfl
 ·cases h
def zsO:List Leaf→Option Frm
 |[c0,c1,c2,c3,c4,c5,c6,c7,c8]=>match c0.asInt .i64 with|some v0=>(match c1.asInt .i64 with|some v1=>(match c2.asList (.st .val) with|some v2=>(match c3.asInt .i64 with|some v3=>(match c4.asList (.st .dfr) with|some v4=>(match c5.asBool with|some v5=>(match c6.asInt .i64 with|some v6=>(match c7.asInt .i64 with|some v7=>(match c8.asInt .i64 with|some v8=>(some ⟨v0,v1,v2,v3,v4,v5,⟨v6,v7,v8⟩⟩)|none=>none)|none=>none)|none=>none)|none=>none)|none=>none)|none=>none)|none=>none)|none=>none)|none=>none
 |_=>none
theorem zxj {ls:List Leaf} {x:Frm} (h:zsO ls=some x):SN.leaves .frm x=ls:=by
 unfold zsO at h;split at h
 ·rename_i c0 c1 c2 c3 c4 c5 c6 c7 c8;cases e0:c0.asInt .i64 with
  |none=>rw [e0] at h;cases h
  |some v0=>
  rw [e0] at h;simp only at h;cases e1:c1.asInt .i64 with
  |none=>rw [e1] at h;cases h
  |some v1=>
  rw [e1] at h;simp only at h;cases e2:c2.asList (.st .val) with
  |none=>rw [e2] at h;cases h
  |some v2=>
  rw [e2] at h;simp only at h;cases e3:c3.asInt .i64 with
  |none=>rw [e3] at h;cases h
  |some v3=>
  rw [e3] at h;simp only at h;cases e4:c4.asList (.st .dfr) with
  |none=>rw [e4] at h;cases h
  |some v4=>
  rw [e4] at h;simp only at h;cases e5:c5.asBool with
  |none=>rw [e5] at h;cases h
  |some v5=>
  rw [e5] at h;simp only at h;cases e6:c6.asInt .i64 with
  |none=>rw [e6] at h;cases h
  |some v6=>
  rw [e6] at h;simp only at h;cases e7:c7.asInt .i64 with
  |none=>rw [e7] at h;cases h
  |some v7=>
  rw [e7] at h;simp only at h;cases e8:c8.asInt .i64 with
  |none=>rw [e8] at h;cases h
  |some v8=>
  rw [e8] at h;simp only at h;obtain rfl:=zM8 h;rw [Leaf.asInt_eq e0];rw [Leaf.asInt_eq e1];rw [Leaf.asList_eq e2];rw [Leaf.asInt_eq e3];rw [Leaf.asList_eq e4];rw [Leaf.asBool_eq e5];rw [Leaf.asInt_eq e6];rw [Leaf.asInt_eq e7];rw [Leaf.asInt_eq e8];rfl
 ·cases h
def zsQ:List Leaf→Option Gor
 |[c0,c1,c2,c3]=>match c0.asInt .i64 with|some v0=>(match c1.asInt .i64 with|some v1=>(match c2.asInt .i64 with|some v2=>(match c3.asList (.st .frm) with|some v3=>(some ⟨v0,v1,v2,v3⟩)|none=>none)|none=>none)|none=>none)|none=>none
 |_=>none
theorem zxl {ls:List Leaf} {x:Gor} (h:zsQ ls=some x):SN.leaves .gor x=ls:=by
 unfold zsQ at h;split at h
 ·rename_i c0 c1 c2 c3;cases e0:c0.asInt .i64 with
  |none=>rw [e0] at h;cases h
  |some v0=>
  rw [e0] at h;simp only at h;cases e1:c1.asInt .i64 with
  |none=>rw [e1] at h;cases h
  |some v1=>
  rw [e1] at h;simp only at h;cases e2:c2.asInt .i64 with
  |none=>rw [e2] at h;cases h
  |some v2=>
  rw [e2] at h;simp only at h;cases e3:c3.asList (.st .frm) with
  |none=>rw [e3] at h;cases h
  |some v3=>
  rw [e3] at h;simp only at h;obtain rfl:=zM8 h;rw [Leaf.asInt_eq e0];rw [Leaf.asInt_eq e1];rw [Leaf.asInt_eq e2];rw [Leaf.asList_eq e3];rfl
 ·cases h
def zs0:List Leaf→Option Trf
 |[c0,c1,c2,c3,c4,c5,c6,c7,c8,c9,c10,c11,c12,c13,c14]=>match c0.asInt .i64 with|some v0=>(match c1.asInt .i64 with|some v1=>(match c2.asInt .i64 with|some v2=>(match c3.asInt .i64 with|some v3=>(match c4.asBool with|some v4=>(match c5.asInt .i64 with|some v5=>(match c6.asBool with|some v6=>(match c7.asInt .i64 with|some v7=>(match c8.asInt .i64 with|some v8=>(match c9.asInt .i64 with|some v9=>(match c10.asInt .i64 with|some v10=>(match c11.asInt .i64 with|some v11=>(match c12.asInt .i64 with|some v12=>(match c13.asList (.st .wtr) with|some v13=>(match c14.asList (.st .wtr) with|some v14=>(some ⟨v0,⟨v1,v2,v3⟩,v4,v5,v6,⟨v7,v8,⟨v9,v10,v11⟩⟩,v12,v13,v14⟩)|none=>none)|none=>none)|none=>none)|none=>none)|none=>none)|none=>none)|none=>none)|none=>none)|none=>none)|none=>none)|none=>none)|none=>none)|none=>none)|none=>none)|none=>none
 |_=>none
theorem zxw {ls:List Leaf} {x:Trf} (h:zs0 ls=some x):SN.leaves .trf x=ls:=by
 unfold zs0 at h;split at h
 ·rename_i c0 c1 c2 c3 c4 c5 c6 c7 c8 c9 c10 c11 c12 c13 c14;cases e0:c0.asInt .i64 with
  |none=>rw [e0] at h;cases h
  |some v0=>
  rw [e0] at h;simp only at h;cases e1:c1.asInt .i64 with
  |none=>rw [e1] at h;cases h
  |some v1=>
  rw [e1] at h;simp only at h;cases e2:c2.asInt .i64 with
  |none=>rw [e2] at h;cases h
  |some v2=>
  rw [e2] at h;simp only at h;cases e3:c3.asInt .i64 with
  |none=>rw [e3] at h;cases h
  |some v3=>
  rw [e3] at h;simp only at h;cases e4:c4.asBool with
  |none=>rw [e4] at h;cases h
  |some v4=>
  rw [e4] at h;simp only at h;cases e5:c5.asInt .i64 with
  |none=>rw [e5] at h;cases h
  |some v5=>
  rw [e5] at h;simp only at h;cases e6:c6.asBool with
  |none=>rw [e6] at h;cases h
  |some v6=>
  rw [e6] at h;simp only at h;cases e7:c7.asInt .i64 with
  |none=>rw [e7] at h;cases h
  |some v7=>
  rw [e7] at h;simp only at h;cases e8:c8.asInt .i64 with
  |none=>rw [e8] at h;cases h
  |some v8=>
  rw [e8] at h;simp only at h;cases e9:c9.asInt .i64 with
  |none=>rw [e9] at h;cases h
  |some v9=>
  rw [e9] at h;simp only at h;cases e10:c10.asInt .i64 with
  |none=>rw [e10] at h;cases h
  |some v10=>
  rw [e10] at h;simp only at h;cases e11:c11.asInt .i64 with
  |none=>rw [e11] at h;cases h
  |some v11=>
  rw [e11] at h;simp only at h;cases e12:c12.asInt .i64 with
  |none=>rw [e12] at h;cases h
  |some v12=>
  rw [e12] at h;simp only at h;cases e13:c13.asList (.st .wtr) with
  |none=>rw [e13] at h;cases h
  |some v13=>
  rw [e13] at h;simp only at h;cases e14:c14.asList (.st .wtr) with
  |none=>rw [e14] at h;cases h
  |some v14=>
  rw [e14] at h;simp only at h;obtain rfl:=zM8 h;rw [Leaf.asInt_eq e0];rw [Leaf.asInt_eq e1];rw [Leaf.asInt_eq e2];rw [Leaf.asInt_eq e3];rw [Leaf.asBool_eq e4];rw [Leaf.asInt_eq e5];rw [Leaf.asBool_eq e6];rw [Leaf.asInt_eq e7];rw [Leaf.asInt_eq e8];rw [Leaf.asInt_eq e9];rw [Leaf.asInt_eq e10];rw [Leaf.asInt_eq e11];rw [Leaf.asInt_eq e12];rw [Leaf.asList_eq e13];rw [Leaf.asList_eq e14];rfl
 ·cases h
def zsN:List Leaf→Option Fnc
 |[c0,c1,c2,c3]=>match c0.asStr with|some v0=>(match c1.asInt .i64 with|some v1=>(match c2.asInt .i64 with|some v2=>(match c3.asList (.st .ins) with|some v3=>(some ⟨v0,v1,v2,v3⟩)|none=>none)|none=>none)|none=>none)|none=>none
 |_=>none
theorem zxi {ls:List Leaf} {x:Fnc} (h:zsN ls=some x):SN.leaves .fnc x=ls:=by
 unfold zsN at h;split at h
 ·rename_i c0 c1 c2 c3;cases e0:c0.asStr with
  |none=>rw [e0] at h;cases h
  |some v0=>
  rw [e0] at h;simp only at h;cases e1:c1.asInt .i64 with
  |none=>rw [e1] at h;cases h
  |some v1=>
  rw [e1] at h;simp only at h;cases e2:c2.asInt .i64 with
  |none=>rw [e2] at h;cases h
  |some v2=>
  rw [e2] at h;simp only at h;cases e3:c3.asList (.st .ins) with
  |none=>rw [e3] at h;cases h
  |some v3=>
  rw [e3] at h;simp only at h;obtain rfl:=zM8 h;rw [Leaf.asStr_eq e0];rw [Leaf.asInt_eq e1];rw [Leaf.asInt_eq e2];rw [Leaf.asList_eq e3];rfl
 ·cases h
def zsP:List Leaf→Option Glb
 |[c0,c1]=>match c0.asStr with|some v0=>(match c1.asInt .i64 with|some v1=>(some ⟨v0,v1⟩)|none=>none)|none=>none
 |_=>none
theorem zxk {ls:List Leaf} {x:Glb} (h:zsP ls=some x):SN.leaves .glb x=ls:=by
 unfold zsP at h;split at h
 ·rename_i c0 c1;cases e0:c0.asStr with
  |none=>rw [e0] at h;cases h
  |some v0=>
  rw [e0] at h;simp only at h;cases e1:c1.asInt .i64 with
  |none=>rw [e1] at h;cases h
  |some v1=>
  rw [e1] at h;simp only at h;obtain rfl:=zM8 h;rw [Leaf.asStr_eq e0];rw [Leaf.asInt_eq e1];rfl
 ·cases h
def zsW:List Leaf→Option Prg
 |[c0,c1,c2,c3]=>match c0.asList (.st .fnc) with|some v0=>(match c1.asList (.st .glb) with|some v1=>(match c2.asList (.list (.int .i64)) with|some v2=>(match c3.asInt .i64 with|some v3=>(some ⟨v0,v1,v2,v3⟩)|none=>none)|none=>none)|none=>none)|none=>none
 |_=>none
theorem zxs {ls:List Leaf} {x:Prg} (h:zsW ls=some x):SN.leaves .prg x=ls:=by
 unfold zsW at h;split at h
 ·rename_i c0 c1 c2 c3;cases e0:c0.asList (.st .fnc) with
  |none=>rw [e0] at h;cases h
  |some v0=>
  rw [e0] at h;simp only at h;cases e1:c1.asList (.st .glb) with
  |none=>rw [e1] at h;cases h
  |some v1=>
  rw [e1] at h;simp only at h;cases e2:c2.asList (.list (.int .i64)) with
  |none=>rw [e2] at h;cases h
  |some v2=>
  rw [e2] at h;simp only at h;cases e3:c3.asInt .i64 with
  |none=>rw [e3] at h;cases h
  |some v3=>
  rw [e3] at h;simp only at h;obtain rfl:=zM8 h;rw [Leaf.asList_eq e0];rw [Leaf.asList_eq e1];rw [Leaf.asList_eq e2];rw [Leaf.asInt_eq e3];rfl
 ·cases h
def zsS:List Leaf→Option Mac
 |[c0,c1,c2,c3]=>match c0.asList (.st .ob) with|some v0=>(match c1.asList (.st .syn) with|some v1=>(match c2.asList (.st .gor) with|some v2=>(match c3.asList (.int .i64) with|some v3=>(some ⟨v0,v1,v2,v3⟩)|none=>none)|none=>none)|none=>none)|none=>none
 |_=>none
theorem zxn {ls:List Leaf} {x:Mac} (h:zsS ls=some x):SN.leaves .mac x=ls:=by
 unfold zsS at h;split at h
 ·rename_i c0 c1 c2 c3;cases e0:c0.asList (.st .ob) with
  |none=>rw [e0] at h;cases h
  |some v0=>
  rw [e0] at h;simp only at h;cases e1:c1.asList (.st .syn) with
  |none=>rw [e1] at h;cases h
  |some v1=>
  rw [e1] at h;simp only at h;cases e2:c2.asList (.st .gor) with
  |none=>rw [e2] at h;cases h
  |some v2=>
  rw [e2] at h;simp only at h;cases e3:c3.asList (.int .i64) with
  |none=>rw [e3] at h;cases h
  |some v3=>
  rw [e3] at h;simp only at h;obtain rfl:=zM8 h;rw [Leaf.asList_eq e0];rw [Leaf.asList_eq e1];rw [Leaf.asList_eq e2];rw [Leaf.asList_eq e3];rfl
 ·cases h
def zsT:List Leaf→Option Mco
 |[c0,c1,c2,c3]=>match c0.asList (.st .ob) with|some v0=>(match c1.asList (.st .syn) with|some v1=>(match c2.asList (.st .gor) with|some v2=>(match c3.asList (.int .i64) with|some v3=>(some ⟨v0,v1,v2,v3⟩)|none=>none)|none=>none)|none=>none)|none=>none
 |_=>none
theorem zxo {ls:List Leaf} {x:Mco} (h:zsT ls=some x):SN.leaves .mco x=ls:=by
 unfold zsT at h;split at h
 ·rename_i c0 c1 c2 c3;cases e0:c0.asList (.st .ob) with
  |none=>rw [e0] at h;cases h
  |some v0=>
  rw [e0] at h;simp only at h;cases e1:c1.asList (.st .syn) with
  |none=>rw [e1] at h;cases h
  |some v1=>
  rw [e1] at h;simp only at h;cases e2:c2.asList (.st .gor) with
  |none=>rw [e2] at h;cases h
  |some v2=>
  rw [e2] at h;simp only at h;cases e3:c3.asList (.int .i64) with
  |none=>rw [e3] at h;cases h
  |some v3=>
  rw [e3] at h;simp only at h;obtain rfl:=zM8 h;rw [Leaf.asList_eq e0];rw [Leaf.asList_eq e1];rw [Leaf.asList_eq e2];rw [Leaf.asList_eq e3];rfl
 ·cases h
def zs2:List Leaf→Option Vmx
 |[c0,c1,c2,c3,c4,c5]=>match c0.asList (.st .ob) with|some v0=>(match c1.asList (.st .syn) with|some v1=>(match c2.asList (.st .gor) with|some v2=>(match c3.asList (.int .i64) with|some v3=>(match c4.asList (.st .ev) with|some v4=>(match c5.asList (.int .i64) with|some v5=>(some ⟨⟨v0,v1,v2,v3⟩,v4,v5⟩)|none=>none)|none=>none)|none=>none)|none=>none)|none=>none)|none=>none
 |_=>none
theorem zxz {ls:List Leaf} {x:Vmx} (h:zs2 ls=some x):SN.leaves .vmx x=ls:=by
 unfold zs2 at h;split at h
 ·rename_i c0 c1 c2 c3 c4 c5;cases e0:c0.asList (.st .ob) with
  |none=>rw [e0] at h;cases h
  |some v0=>
  rw [e0] at h;simp only at h;cases e1:c1.asList (.st .syn) with
  |none=>rw [e1] at h;cases h
  |some v1=>
  rw [e1] at h;simp only at h;cases e2:c2.asList (.st .gor) with
  |none=>rw [e2] at h;cases h
  |some v2=>
  rw [e2] at h;simp only at h;cases e3:c3.asList (.int .i64) with
  |none=>rw [e3] at h;cases h
  |some v3=>
  rw [e3] at h;simp only at h;cases e4:c4.asList (.st .ev) with
  |none=>rw [e4] at h;cases h
  |some v4=>
  rw [e4] at h;simp only at h;cases e5:c5.asList (.int .i64) with
  |none=>rw [e5] at h;cases h
  |some v5=>
  rw [e5] at h;simp only at h;obtain rfl:=zM8 h;rw [Leaf.asList_eq e0];rw [Leaf.asList_eq e1];rw [Leaf.asList_eq e2];rw [Leaf.asList_eq e3];rw [Leaf.asList_eq e4];rw [Leaf.asList_eq e5];rfl
 ·cases h
def zxy:List Leaf→Option Vm
 |[c0,c1,c2,c3,c4,c5,c6,c7,c8,c9]=>match c0.asList (.st .fnc) with|some v0=>(match c1.asList (.st .glb) with|some v1=>(match c2.asList (.list (.int .i64)) with|some v2=>(match c3.asInt .i64 with|some v3=>(match c4.asList (.st .ob) with|some v4=>(match c5.asList (.st .syn) with|some v5=>(match c6.asList (.st .gor) with|some v6=>(match c7.asList (.int .i64) with|some v7=>(match c8.asList (.st .ev) with|some v8=>(match c9.asList (.int .i64) with|some v9=>(some ⟨⟨v0,v1,v2,v3⟩,⟨v4,v5,v6,v7⟩,v8,v9⟩)|none=>none)|none=>none)|none=>none)|none=>none)|none=>none)|none=>none)|none=>none)|none=>none)|none=>none)|none=>none
 |_=>none
theorem zAy {ls:List Leaf} {x:Vm} (h:zxy ls=some x):SN.leaves .vm x=ls:=by
 unfold zxy at h;split at h
 ·rename_i c0 c1 c2 c3 c4 c5 c6 c7 c8 c9;cases e0:c0.asList (.st .fnc) with
  |none=>rw [e0] at h;cases h
  |some v0=>
  rw [e0] at h;simp only at h;cases e1:c1.asList (.st .glb) with
  |none=>rw [e1] at h;cases h
  |some v1=>
  rw [e1] at h;simp only at h;cases e2:c2.asList (.list (.int .i64)) with
  |none=>rw [e2] at h;cases h
  |some v2=>
  rw [e2] at h;simp only at h;cases e3:c3.asInt .i64 with
  |none=>rw [e3] at h;cases h
  |some v3=>
  rw [e3] at h;simp only at h;cases e4:c4.asList (.st .ob) with
  |none=>rw [e4] at h;cases h
  |some v4=>
  rw [e4] at h;simp only at h;cases e5:c5.asList (.st .syn) with
  |none=>rw [e5] at h;cases h
  |some v5=>
  rw [e5] at h;simp only at h;cases e6:c6.asList (.st .gor) with
  |none=>rw [e6] at h;cases h
  |some v6=>
  rw [e6] at h;simp only at h;cases e7:c7.asList (.int .i64) with
  |none=>rw [e7] at h;cases h
  |some v7=>
  rw [e7] at h;simp only at h;cases e8:c8.asList (.st .ev) with
  |none=>rw [e8] at h;cases h
  |some v8=>
  rw [e8] at h;simp only at h;cases e9:c9.asList (.int .i64) with
  |none=>rw [e9] at h;cases h
  |some v9=>
  rw [e9] at h;simp only at h;obtain rfl:=zM8 h;rw [Leaf.asList_eq e0];rw [Leaf.asList_eq e1];rw [Leaf.asList_eq e2];rw [Leaf.asInt_eq e3];rw [Leaf.asList_eq e4];rw [Leaf.asList_eq e5];rw [Leaf.asList_eq e6];rw [Leaf.asList_eq e7];rw [Leaf.asList_eq e8];rw [Leaf.asList_eq e9];rfl
 ·cases h
def zsU:List Leaf→Option Opn
 |[c0,c1,c2,c3,c4,c5,c6,c7,c8,c9,c10,c11,c12,c13,c14]=>match c0.asInt .i64 with|some v0=>(match c1.asList (.st .val) with|some v1=>(match c2.asBool with|some v2=>(match c3.asInt .i64 with|some v3=>(match c4.asList (.st .val) with|some v4=>(match c5.asBool with|some v5=>(match c6.asInt .i64 with|some v6=>(match c7.asInt .i64 with|some v7=>(match c8.asList (.st .wtr) with|some v8=>(match c9.asList (.st .wtr) with|some v9=>(match c10.asInt .i64 with|some v10=>(match c11.asInt .i64 with|some v11=>(match c12.asInt .i64 with|some v12=>(match c13.asInt .i64 with|some v13=>(match c14.asInt .i64 with|some v14=>(some ⟨⟨v0,v1,v2,v3,v4,v5,v6,v7,v8,v9⟩,⟨v10,v11,⟨v12,v13,v14⟩⟩⟩)|none=>none)|none=>none)|none=>none)|none=>none)|none=>none)|none=>none)|none=>none)|none=>none)|none=>none)|none=>none)|none=>none)|none=>none)|none=>none)|none=>none)|none=>none
 |_=>none
theorem zxq {ls:List Leaf} {x:Opn} (h:zsU ls=some x):SN.leaves .opn x=ls:=by
 unfold zsU at h;split at h
 ·rename_i c0 c1 c2 c3 c4 c5 c6 c7 c8 c9 c10 c11 c12 c13 c14;cases e0:c0.asInt .i64 with
  |none=>rw [e0] at h;cases h
  |some v0=>
  rw [e0] at h;simp only at h;cases e1:c1.asList (.st .val) with
  |none=>rw [e1] at h;cases h
  |some v1=>
  rw [e1] at h;simp only at h;cases e2:c2.asBool with
  |none=>rw [e2] at h;cases h
  |some v2=>
  rw [e2] at h;simp only at h;cases e3:c3.asInt .i64 with
  |none=>rw [e3] at h;cases h
  |some v3=>
  rw [e3] at h;simp only at h;cases e4:c4.asList (.st .val) with
  |none=>rw [e4] at h;cases h
  |some v4=>
  rw [e4] at h;simp only at h;cases e5:c5.asBool with
  |none=>rw [e5] at h;cases h
  |some v5=>
  rw [e5] at h;simp only at h;cases e6:c6.asInt .i64 with
  |none=>rw [e6] at h;cases h
  |some v6=>
  rw [e6] at h;simp only at h;cases e7:c7.asInt .i64 with
  |none=>rw [e7] at h;cases h
  |some v7=>
  rw [e7] at h;simp only at h;cases e8:c8.asList (.st .wtr) with
  |none=>rw [e8] at h;cases h
  |some v8=>
  rw [e8] at h;simp only at h;cases e9:c9.asList (.st .wtr) with
  |none=>rw [e9] at h;cases h
  |some v9=>
  rw [e9] at h;simp only at h;cases e10:c10.asInt .i64 with
  |none=>rw [e10] at h;cases h
  |some v10=>
  rw [e10] at h;simp only at h;cases e11:c11.asInt .i64 with
  |none=>rw [e11] at h;cases h
  |some v11=>
  rw [e11] at h;simp only at h;cases e12:c12.asInt .i64 with
  |none=>rw [e12] at h;cases h
  |some v12=>
  rw [e12] at h;simp only at h;cases e13:c13.asInt .i64 with
  |none=>rw [e13] at h;cases h
  |some v13=>
  rw [e13] at h;simp only at h;cases e14:c14.asInt .i64 with
  |none=>rw [e14] at h;cases h
  |some v14=>
  rw [e14] at h;simp only at h;obtain rfl:=zM8 h;rw [Leaf.asInt_eq e0];rw [Leaf.asList_eq e1];rw [Leaf.asBool_eq e2];rw [Leaf.asInt_eq e3];rw [Leaf.asList_eq e4];rw [Leaf.asBool_eq e5];rw [Leaf.asInt_eq e6];rw [Leaf.asInt_eq e7];rw [Leaf.asList_eq e8];rw [Leaf.asList_eq e9];rw [Leaf.asInt_eq e10];rw [Leaf.asInt_eq e11];rw [Leaf.asInt_eq e12];rw [Leaf.asInt_eq e13];rw [Leaf.asInt_eq e14];rfl
 ·cases h
def zsX:List Leaf→Option Smp
 |[c0,c1,c2]=>match c0.asInt .u8 with|some v0=>(match c1.asInt .u8 with|some v1=>(match c2.asInt .u8 with|some v2=>(some ⟨v0,v1,v2⟩)|none=>none)|none=>none)|none=>none
 |_=>none
theorem zxt {ls:List Leaf} {x:Smp} (h:zsX ls=some x):SN.leaves .smp x=ls:=by
 unfold zsX at h;split at h
 ·rename_i c0 c1 c2;cases e0:c0.asInt .u8 with
  |none=>rw [e0] at h;cases h
  |some v0=>
  rw [e0] at h;simp only at h;cases e1:c1.asInt .u8 with
  |none=>rw [e1] at h;cases h
  |some v1=>
  rw [e1] at h;simp only at h;cases e2:c2.asInt .u8 with
  |none=>rw [e2] at h;cases h
  |some v2=>
  rw [e2] at h;simp only at h;obtain rfl:=zM8 h;rw [Leaf.asInt_eq e0];rw [Leaf.asInt_eq e1];rw [Leaf.asInt_eq e2];rfl
 ·cases h
def zsY:List Leaf→Option Sta
 |[c0,c1]=>match c0.asList (.list (.st .smp)) with|some v0=>(match c1.asList (.int .u8) with|some v1=>(some ⟨v0,v1⟩)|none=>none)|none=>none
 |_=>none
theorem zxu {ls:List Leaf} {x:Sta} (h:zsY ls=some x):SN.leaves .sta x=ls:=by
 unfold zsY at h;split at h
 ·rename_i c0 c1;cases e0:c0.asList (.list (.st .smp)) with
  |none=>rw [e0] at h;cases h
  |some v0=>
  rw [e0] at h;simp only at h;cases e1:c1.asList (.int .u8) with
  |none=>rw [e1] at h;cases h
  |some v1=>
  rw [e1] at h;simp only at h;obtain rfl:=zM8 h;rw [Leaf.asList_eq e0];rw [Leaf.asList_eq e1];rfl
 ·cases h
def SN.build:(n:SN)→List Leaf→Option n.ty
 | .val,l=>zs1 l
 | .wtr,l=>zs3 l
 | .pck,l=>zsV l
 | .ins,l=>zsR l
 | .ev,l=>zxh l
 | .ob,l=>zxp l
 | .syn,l=>zsZ l
 | .dfr,l=>zsM l
 | .frm,l=>zsO l
 | .gor,l=>zsQ l
 | .trf,l=>zs0 l
 | .fnc,l=>zsN l
 | .glb,l=>zsP l
 | .prg,l=>zsW l
 | .mac,l=>zsS l
 | .mco,l=>zsT l
 | .vmx,l=>zs2 l
 | .vm,l=>zxy l
 | .opn,l=>zsU l
 | .smp,l=>zsX l
 | .sta,l=>zsY l
theorem SN.build_ok:∀{n:SN} {ls:List Leaf} {x:n.ty},n.build ls=some x→n.leaves x=ls
 | .val,_,_,h=>zxx h
 | .wtr,_,_,h=>zxA h
 | .pck,_,_,h=>zxr h
 | .ins,_,_,h=>zxm h
 | .ev,_,_,h=>zAw h
 | .ob,_,_,h=>zAx h
 | .syn,_,_,h=>zxv h
 | .dfr,_,_,h=>zxg h
 | .frm,_,_,h=>zxj h
 | .gor,_,_,h=>zxl h
 | .trf,_,_,h=>zxw h
 | .fnc,_,_,h=>zxi h
 | .glb,_,_,h=>zxk h
 | .prg,_,_,h=>zxs h
 | .mac,_,_,h=>zxn h
 | .mco,_,_,h=>zxo h
 | .vmx,_,_,h=>zxz h
 | .vm,_,_,h=>zAy h
 | .opn,_,_,h=>zxq h
 | .smp,_,_,h=>zxt h
 | .sta,_,_,h=>zxu h
def RT.dflt:(t:RT)→t.ty
 | .int _=>(0:Int)
 | .bool=>false
 | .str=>ByteArray.empty
 | .list _=>[]
 | .st n=>n.dflt
def RT.size:RT→Nat
 | .st n=>n.size
 |_=>1
def RT.leaves:(t:RT)→t.ty→List Leaf
 | .int k,n=>[.int k n]
 | .bool,b=>[.bool b]
 | .str,s=>[.str s]
 | .list t,l=>[.list t l]
 | .st n,x=>n.leaves x
theorem RT.leaves_len:∀(t:RT) (x:t.ty),(t.leaves x).length=t.size
 | .int _,_| .bool,_| .str,_| .list _,_=>rfl
 | .st n,x=>n.leaves_len x
def RT.build:(t:RT)→List Leaf→Option t.ty
 | .int k,ls=>match ls with|[l]=>l.asInt k|_=>none
 | .bool,ls=>match ls with|[l]=>l.asBool|_=>none
 | .str,ls=>match ls with|[l]=>l.asStr|_=>none
 | .list t,ls=>match ls with|[l]=>l.asList t|_=>none
 | .st n,ls=>n.build ls
theorem RT.build_ok:∀{t:RT} {ls:List Leaf} {x:t.ty},t.build ls=some x→t.leaves x=ls
 | .int k,[l],x,h=>by have e:=Leaf.asInt_eq (show l.asInt k=some x from h);rw [e];rfl
 | .bool,[l],x,h=>by have e:=Leaf.asBool_eq (show l.asBool=some x from h);rw [e];rfl
 | .str,[l],x,h=>by have e:=Leaf.asStr_eq (show l.asStr=some x from h);rw [e];rfl
 | .list t,[l],x,h=>by have e:=Leaf.asList_eq (show l.asList t=some x from h);rw [e];rfl
 | .st n,ls,x,h=>SN.build_ok h
 | .int _,[],_,h| .bool,[],_,h| .str,[],_,h| .list _,[],_,h=>nomatch h
 | .int _,_::_::_,_,h| .bool,_::_::_,_,h| .str,_::_::_,_,h| .list _,_::_::_,_,h=>nomatch h
inductive LfR (w:World) (F:Nat→Prop):Leaf→Value→Prop
 |int (k:IntKind) (n:Int):LfR w F (.int k n) (.int k n)
 |bool (b:Bool):LfR w F (.bool b) (.bool b)
 |str (s:ByteArray):LfR w F (.str s) (.string s)
 |list (t:RT) (l:List t.ty) (A:Option Addr) (c:Nat) (vf:Nat→Nat→Value) (h1:l.length≤c) (h2:l.length≤maxLen) (h3:l≠[]→∃b o,A=some ⟨b,o,none⟩∧F b∧b<w.heap.size)
  (hc:∀b o,A=some ⟨b,o,none⟩→∀(i:Nat) (x:t.ty),l[i]? =some x→∀(j:Nat) (lf:Leaf),(t.leaves x)[j]? =some lf→w.cell? ⟨b,o+i*t.size+j,none⟩=some (vf i j))
  (hr:∀(i:Nat) (x:t.ty),l[i]? =some x→∀(j:Nat) (lf:Leaf),(t.leaves x)[j]? =some lf→LfR w F lf (vf i j)):LfR w F (.list t l) (.slice A l.length c)
def Rd (w:World) (F:Nat→Prop) (t:RT) (x:t.ty) (vs:List Value):Prop:=vs.length=t.size∧∀(j:Nat) (lf:Leaf),(t.leaves x)[j]? =some lf→∃v,vs[j]? =some v∧LfR w F lf v
theorem zer {w w':World} {b:Nat} (h:w'.heap[b]? =w.heap[b]?) (p:Addr) (hp:p.block=b):w'.cell? p=w.cell? p:=World.cell?_of_block (by rw [hp];exact h)
theorem zo7 {w w':World} {b:Nat} (h:w'.heap[b]? =w.heap[b]?) (hb:b<w.heap.size):b<w'.heap.size:=by
 rw [zNi hb] at h;exact (Array.getElem?_eq_some_iff.1 h).1
theorem LfR.keep {w w':World} {F F':Nat→Prop} {lf:Leaf} {v:Value} (h:LfR w F lf v) (hF:∀b,F b→F' b) (hk:∀b,F b→b<w.heap.size→w'.heap[b]? =w.heap[b]?):LfR w' F' lf v:=by
 induction h with
 |int k n=>exact .int k n
 |bool b=>exact .bool b
 |str s=>exact .str s
 |list t l A c vf h1 h2 h3 hc hr ih=>
  refine .list t l A c vf h1 h2 (fun hl=>?_) (fun b o hA i x hx j lf hj=>?_) ih
  ·obtain ⟨b,o,hA,hb,hlt⟩:=h3 hl;exact ⟨b,o,hA,hF b hb,zo7 (hk b hb hlt) hlt⟩
  ·obtain ⟨b',o',hA',hb,hlt⟩:=h3 (by rintro rfl;simp at hx)
   rw [hA'] at hA;simp only [zNn,Addr.mk.injEq,and_true] at hA;obtain ⟨rfl,rfl⟩:=hA;exact (zer (hk b' hb hlt) _ rfl).trans (hc b' o' hA' i x hx j lf hj)
theorem Rd.keep {w w':World} {F F':Nat→Prop} {t:RT} {x:t.ty} {vs:List Value} (h:Rd w F t x vs) (hF:∀b,F b→F' b) (hk:∀b,F b→b<w.heap.size→w'.heap[b]? =w.heap[b]?):Rd w' F' t x vs:=
 ⟨h.1,fun j lf hj=>let ⟨v,h1,h2⟩:=h.2 j lf hj;⟨v,h1,h2.keep hF hk⟩⟩
abbrev Hdr:=Option Addr×Nat×Nat
abbrev Hdr.val (h:Hdr):Value:= .slice h.1 h.2.1 h.2.2
theorem LfR.slice {w:World} {F:Nat→Prop} {t:RT} {l:List t.ty} {v:Value} (h:LfR w F (.list t l) v):∃A c,v= .slice A l.length c∧l.length≤c∧l.length≤maxLen:=by
 cases h with
 |list _ _ A c vf h1 h2 h3 hc hr=>exact ⟨A,c,rfl,h1,h2⟩
theorem LfR.elem {w:World} {F:Nat→Prop} {t:RT} {l:List t.ty} {A:Option Addr} {m c:Nat} (h:LfR w F (.list t l) (.slice A m c)) {i:Nat} {x:t.ty} (hx:l[i]? =some x):
  ∃b o,A=some ⟨b,o,none⟩∧F b∧b<w.heap.size∧∀(j:Nat) (lf:Leaf),(t.leaves x)[j]? =some lf→∃v,w.cell? ⟨b,o+i*t.size+j,none⟩=some v∧LfR w F lf v:=by
 cases h with
 |list _ _ _ _ vf h1 h2 h3 hc hr=>
  obtain ⟨b,o,hA,hb,hlt⟩:=h3 (by rintro rfl;simp at hx)
  exact ⟨b,o,hA,hb,hlt,fun j lf hj=>⟨_,hc b o hA i x hx j lf hj,hr i x hx j lf hj⟩⟩
theorem LfR.lenEq {w:World} {F:Nat→Prop} {t:RT} {l:List t.ty} {A:Option Addr} {m c:Nat} (h:LfR w F (.list t l) (.slice A m c)):m=l.length:=by
 cases h with
 |list _ _ _ _ vf h1 h2 h3 hc hr=>rfl
def Blk (w:World) (g:Nat) (t:TypeId) (cs:Array Value):Prop:=∃fz:Nat×Nat,w.heap[g]? =some (.cells cs t fz)∧fz.1=fz.2
theorem Blk.lt {w:World} {g:Nat} {t:TypeId} {cs:Array Value} (h:Blk w g t cs):g<w.heap.size:=by
 obtain ⟨fz,h,_⟩:=h;rcases Nat.lt_or_ge g w.heap.size with hlt|hge
 ·exact hlt
 ·rw [Array.getElem?_eq_none hge] at h;cases h
theorem Blk.cell {w:World} {g:Nat} {t:TypeId} {cs:Array Value} (h:Blk w g t cs) (i:Nat):w.cell? ⟨g,i,none⟩=cs[i]? :=by
 obtain ⟨fz,h,_⟩:=h;exact cell_of_row w g i cs t fz h
theorem Blk.same {w w':World} {x:Nat} {t:TypeId} {cs:Array Value} (h:Blk w x t cs) (e:w'.heap[x]? =w.heap[x]?):Blk w' x t cs:=by
 obtain ⟨fz,h,hf⟩:=h;exact ⟨fz,e.trans h,hf⟩
abbrev Path:=List (Nat×Nat)
def RT.elemAt (t:RT) (j:Nat):Option RT:=match (t.leaves t.dflt)[j]? with
 |some (.list u _)=>some u
 |_=>none
def shT:RT→Nat→Bool
 | .st .syn,4=>true
 | .st .mac,0=>true
 | .st .dfr,1=>true
 |_,_=>false
def owT:RT→Path→Bool
 |_,[]=>true
 |t,(_,j)::p=>match shT t j,t.elemAt j with
  |false,some u=>owT u p
  |_,_=>false
inductive Ow where
 |all
 |none
 |fn (f:Path→Bool)
 |ro
 |top
 |bor
 |dc (i:Nat) (l:List Nat)
def zJW:Path→Bool
 |[]=>true
 |_::_=>false
def Ow.f:Ow→RT→Path→Bool
 | .all,t=>owT t
 | .none,_=>fun _=>false
 | .ro,_=>fun _=>false
 | .top,_=>zJW
 | .bor,t=>owT t
 | .dc _ _,t=>owT t
 | .fn f,_=>f
inductive LfO (w:World) (S:Nat→Prop):Leaf→(Path→Bool)→(Nat→Prop)→Value→Prop
 |int (k:IntKind) (n:Int) (ow:Path→Bool) (F:Nat→Prop):LfO w S (.int k n) ow F (.int k n)
 |bool (b:Bool) (ow:Path→Bool) (F:Nat→Prop):LfO w S (.bool b) ow F (.bool b)
 |str (s:ByteArray) (ow:Path→Bool) (F:Nat→Prop):LfO w S (.str s) ow F (.string s)
 |shr (t:RT) (l:List t.ty) (ow:Path→Bool) (F:Nat→Prop) (v:Value) (h0:ow []=false) (h:LfR w S (.list t l) v):LfO w S (.list t l) ow F v
 |nil (t:RT) (ow:Path→Bool) (F:Nat→Prop) (A:Option Addr) (h0:ow []=true):LfO w S (.list t []) ow F (.slice A 0 0)
 |list (t:RT) (l:List t.ty) (ow:Path→Bool) (F:Nat→Prop) (c b:Nat) (T:TypeId) (cs:Array Value) (G:Nat→Nat→Nat→Prop) (h0:ow []=true) (h1:l.length≤c) (h2:l.length≤maxLen) (hb:F b) (hk:Blk w b T cs) (hs:cs.size=c*t.size)
  (hG:∀i j y,G i j y→F y∧y≠b) (hd:∀i j i' j' y,G i j y→G i' j' y→i=i'∧j=j')
  (hr:∀(i:Nat) (x:t.ty),l[i]? =some x→∀(j:Nat) (lf:Leaf),(t.leaves x)[j]? =some lf→LfO w S lf (fun q=>ow ((i,j)::q)) (G i j) (cs.getD (i*t.size+j) undef)):LfO w S (.list t l) ow F (.slice (some ⟨b,0,none⟩) l.length c)
theorem LfO.wide {w:World} {S F F':Nat→Prop} {ow:Path→Bool} {lf:Leaf} {v:Value} (h:LfO w S lf ow F v) (hF:∀b,F b→F' b):LfO w S lf ow F' v:=by
 cases h with
 |int k n=>exact .int k n _ _
 |bool b=>exact .bool b _ _
 |str s=>exact .str s _ _
 |shr t l _ _ _ h0 h=>exact .shr t l _ _ _ h0 h
 |nil t _ _ A h0=>exact .nil t _ _ A h0
 |list t l _ _ c b T cs G h0 h1 h2 hb hk hs hG hd hr=>exact .list t l _ F' c b T cs G h0 h1 h2 (hF b hb) hk hs (fun i j y hy=>⟨hF y (hG i j y hy).1,(hG i j y hy).2⟩) hd hr
theorem LfO.keep {w w':World} {S S' F:Nat→Prop} {ow:Path→Bool} {lf:Leaf} {v:Value} (h:LfO w S lf ow F v) (hk:∀b,F b→b<w.heap.size→w'.heap[b]? =w.heap[b]?) (hS:∀b,S b→S' b) (hsk:∀b,S b→b<w.heap.size→w'.heap[b]? =w.heap[b]?):LfO w' S' lf ow F v:=by
 induction h with
 |int k n=>exact .int k n _ _
 |bool b=>exact .bool b _ _
 |str s=>exact .str s _ _
 |shr t l _ _ _ h0 h=>exact .shr t l _ _ _ h0 (h.keep hS hsk)
 |nil t _ _ A h0=>exact .nil t _ _ A h0
 |list t l ow F c b T cs G h0 h1 h2 hb hbk hs hG hd hr ih=>exact .list t l ow F c b T cs G h0 h1 h2 hb (hbk.same (hk b hb hbk.lt)) hs hG hd fun i x hx j lf hj=>ih i x hx j lf hj fun y hy=>hk y (hG i j y hy).1
theorem LfO.cut {w:World} {S F:Nat→Prop} {ow:Path→Bool} {lf:Leaf} {v:Value} (h:LfO w S lf ow F v):LfO w S lf ow (fun y=>F y∧y<w.heap.size) v:=by
 induction h with
 |int k n=>exact .int k n _ _
 |bool b=>exact .bool b _ _
 |str s=>exact .str s _ _
 |shr t l _ _ _ h0 h=>exact .shr t l _ _ _ h0 h
 |nil t _ _ A h0=>exact .nil t _ _ A h0
 |list t l ow F c b T cs G h0 h1 h2 hb hk hs hG hd hr ih=>exact .list t l _ _ c b T cs (fun i j y=>G i j y∧y<w.heap.size) h0 h1 h2 ⟨hb,hk.lt⟩ hk hs (fun i j y hy=>⟨⟨(hG i j y hy.1).1,hy.2⟩,(hG i j y hy.1).2⟩) (fun i j i' j' y h h'=>hd i j i' j' y h.1 h'.1) ih
theorem LfO.rd {w:World} {S F:Nat→Prop} {ow:Path→Bool} {lf:Leaf} {v:Value} (h:LfO w S lf ow F v):LfR w (fun y=>F y∨S y) lf v:=by
 induction h with
 |int k n=>exact .int k n
 |bool b=>exact .bool b
 |str s=>exact .str s
 |shr t l _ _ _ h0 h=>exact h.keep (fun _ h=> .inr h) fun _ _ _=>rfl
 |nil t _ _ A h0=>exact .list t [] A 0 (fun _ _=>undef) (zNm _) (by simp [maxLen]) (fun h=>absurd rfl h) (fun _ _ _ i x hx=>by simp at hx) (fun i x hx=>by simp at hx)
 |list t l ow F c b T cs G h0 h1 h2 hb hbk hs hG hd hr ih=>
  refine .list t l _ c (fun i j=>cs.getD (i*t.size+j) undef) h1 h2 (fun _=>⟨b,0,rfl, .inl hb,hbk.lt⟩) (fun b' o' e i x hx j lf hj=>?_) fun i x hx j lf hj=>(ih i x hx j lf hj).keep (fun y hy=>hy.imp (fun h=>(hG i j y h).1) id) (fun _ _ _=>rfl);simp only [zNn,Addr.mk.injEq,and_true] at e;obtain ⟨rfl,rfl⟩:=e;rw [hbk.cell,Nat.zero_add];have hi:=(zNa.1 hx).1;have hj':=(zNa.1 hj).1;rw [RT.leaves_len] at hj';have hlt:i*t.size+j<cs.size:=by
   rw [hs];have:(i+1)*t.size≤c*t.size:=zNe _ (by omega)
   rw [Nat.succ_mul] at this;omega
  rw [Array.getD_eq_getD_getElem?,zNi hlt];rfl
theorem LfO.release {w:World} {S F:Nat→Prop} {ow ow':Path→Bool} {lf:Leaf} {v:Value} (h:LfO w S lf ow F v) (F':Nat→Prop) (h0:ow' []=false):LfO w (fun y=>F y∨S y) lf ow' F' v:=by
 have hr:=h.rd;cases h with
 |int k n=>exact .int k n _ _
 |bool b=>exact .bool b _ _
 |str s=>exact .str s _ _
 |shr t l=>exact .shr t l _ _ _ h0 hr
 |nil t=>exact .shr t [] _ _ _ h0 hr
 |list t l=>exact .shr t l _ _ _ h0 hr
def Own (w:World) (S:Nat→Prop) (t:RT) (x:t.ty) (ow:Nat→Path→Bool) (F:Nat→Prop) (vs:List Value):Prop:=vs.length=t.size∧∃G:Nat→Nat→Prop,(∀j y,G j y→F y)∧(∀i j y,G i y→G j y→i=j)∧
 ∀(j:Nat) (lf:Leaf),(t.leaves x)[j]? =some lf→∃v,vs[j]? =some v∧LfO w S lf (ow j) (G j) v
def hdrs (w:World):Path→(t:RT)→List t.ty→Hdr→Option Hdr
 |[],_,_,h=>some h
 |(i,j)::p,t,l,h=>match h.1,l[i]? with
  |some ⟨b,o,none⟩,some x=>match (t.leaves x)[j]? with
   |some (.list t' l')=>match w.cell? ⟨b,o+i*t.size+j,none⟩ with
    |some (.slice A m c)=>hdrs w p t' l' (A,m,c)
    |_=>none
   |_=>none
  |_,_=>none
def zpb:List Leaf→Nat→Leaf
 |[],_=> .bool false
 |x::l,j=>match j with
  |0=>x
  |j+1=>zpb l j
def sub:Path→(t:RT)→List t.ty→(u:RT)×List u.ty
 |[],t,l=>⟨t,l⟩
 |(i,j)::p,t,l=>match zpb (t.leaves (l.getD i t.dflt)) j with
  | .list t' l'=>sub p t' l'
  |_=>⟨.bool,[]⟩
theorem zc5:∀{l:List Leaf} {j:Nat} {x:Leaf},l[j]? =some x→zpb l j=x
 |[],_,_,h=>by simp at h
 |y::l,0,x,h=>by simpa [zpb] using h
 |y::l,j+1,x,h=>by rw [zpb];exact zc5 (by simpa using h)
theorem znx {w:World} {F:Nat→Prop}:∀{p:Path} {t:RT} {l:List t.ty} {h h':Hdr},LfR w F (.list t l) h.val→hdrs w p t l h=some h'→LfR w F (.list (sub p t l).1 (sub p t l).2) h'.val
 |[],t,l,h,h',hr,e=>by obtain rfl:=zM8 e;exact hr
 |(i,j)::p,t,l,(A,m,c),h',hr,e=>by
  simp only [hdrs] at e;split at e
  ·rename_i b o x hx;split at e
   ·rename_i t' l' hl;obtain ⟨b',o',hA,hb,hlt,hc⟩:=hr.elem hx;simp only [zNn,Addr.mk.injEq,and_true] at hA;obtain ⟨rfl,rfl⟩:=hA;obtain ⟨v,hcv,hlf⟩:=hc j _ hl;obtain ⟨A2,c2,rfl,_⟩:=hlf.slice;rw [hcv] at e;simp only at e;have hg:l.getD i t.dflt=x:=by rw [List.getD_eq_getElem?_getD,hx];rfl
    have hn:zpb (t.leaves (l.getD i t.dflt)) j= .list t' l':=by rw [hg];exact zc5 hl
    rw [sub,hn];exact znx (h:=(A2,List.length (α:=t'.ty) l',c2)) hlf e
   ·cases e
  ·cases e
theorem ziB {w w':World} {F:Nat→Prop} (hk:∀b,F b→b<w.heap.size→w'.heap[b]? =w.heap[b]?):∀{p:Path} {t:RT} {l:List t.ty} {h:Hdr},LfR w F (.list t l) h.val→hdrs w' p t l h=hdrs w p t l h
 |[],_,_,_,_=>rfl
 |(i,j)::p,t,l,(A,m,c),hr=>by
  simp only [hdrs];split
  ·rename_i b o x hx;split
   ·rename_i t' l' hl;obtain ⟨b',o',hA,hb,hlt,hc⟩:=hr.elem hx;simp only [zNn,Addr.mk.injEq,and_true] at hA;obtain ⟨rfl,rfl⟩:=hA;obtain ⟨v,hcv,hlf⟩:=hc j _ hl;obtain ⟨A2,c2,rfl,_⟩:=hlf.slice;rw [zer (hk b hb hlt) _ rfl,hcv];exact ziB (h:=(A2,List.length (α:=t'.ty) l',c2)) hk hlf
   ·rfl
  ·rfl
theorem zHD {w:World} {F:Nat→Prop} {t:RT} {l:List t.ty} {h:Hdr} (hr:LfR w F (.list t l) h.val) {i:Nat} (hi:i<h.2.1):
  ∃b o,h.1=some ⟨b,o,none⟩∧F b∧l[i]? =some (l.getD i t.dflt)∧∀(j:Nat) (lf:Leaf),(t.leaves (l.getD i t.dflt))[j]? =some lf→∃v,w.cell? ⟨b,o+i*t.size+j,none⟩=some v∧LfR w F lf v:=by
 have hl:=hr.lenEq;have hx:l[i]? =some (l.getD i t.dflt):=by rw [List.getD_eq_getElem?_getD,zNg (by omega)];rfl
 obtain ⟨b,o,h1,h2,_,h3⟩:=hr.elem hx;exact ⟨b,o,h1,h2,hx,h3⟩
theorem zaV (b o n:Nat):(⟨b,o,none⟩:Addr).add n=⟨b,o+n,none⟩:=by unfold Addr.add;split<;>simp_all
section
variable {w w':World} {g:Nat} {t:TypeId} {cs:Array Value}
theorem Blk.new (w:World) (t:TypeId) (cs:Array Value):Blk (w.alloc (.cells cs t)) w.heap.size t cs:=⟨(0,0),heap_alloc_new w _,rfl⟩
theorem Blk.setRow (h:Blk w g t cs) (cs':Array Value) (hs:cs'.size=cs.size):Blk (w.setRow g cs') g t cs':=by
 obtain ⟨fz,h,hf⟩:=h;exact ⟨fz,setRow_heap w g cs cs' t fz h,hf⟩
theorem Blk.frozen (h:Blk w g t cs) {i:Nat} (hi:i<cs.size):w.frozen? ⟨g,i,none⟩=false:=by
 obtain ⟨⟨lo,hi'⟩,h,hf⟩:=h;simp only [World.frozen?,h,Bool.and_eq_false_iff,decide_eq_false_iff_not];simp only at hf;omega
theorem Blk.frozen_ (h:Blk w g t cs) (i:Nat):w.frozen? ⟨g,i,none⟩=false:=by
 obtain ⟨⟨lo,hi'⟩,h,hf⟩:=h;simp only [World.frozen?,h,Bool.and_eq_false_iff,decide_eq_false_iff_not];simp only at hf;omega
theorem zcs (P:Program) [Fast P] (g o:Nat) (t:TypeId):∀(vs:List Value) (i:Nat) (cur:Array Value) (w:World),Blk w g t cur→o+i+vs.length≤cur.size→(∀v∈vs,v.oneCell'=true)→
  (storeCells ⟨g,o,none⟩ vs i).run P w= .ok () (w.setRow g (cur.toList.take (o+i)++vs++cur.toList.drop (o+i+vs.length)).toArray)
 |[],i,cur,w,hg,_,_=>by
  obtain ⟨fz,hg,_⟩:=hg;simp only [storeCells,List.append_nil,List.length_nil,Nat.add_zero,List.take_append_drop,Array.toArray_toList];rw [setRow_self w g cur t fz hg];rfl
 |v::rest,i,cur,w,hb,hl,h1=>by
  have hi:o+i<cur.size:=by simp at hl;omega
  have hadd:(⟨g,o,none⟩:Addr).add i=⟨g,o+i,none⟩:=by unfold Addr.add;split<;>simp_all
  have hcell:w.cell? ⟨g,o+i,none⟩=some cur[o+i]:=by rw [hb.cell];simp [hi]
  have hfro:=hb.frozen hi;have hst:(store ((⟨g,o,none⟩:Addr).add i) v).run P w= .ok () (w.setRow g (cur.setIfInBounds (o+i) v)):=by
   obtain ⟨fz,hg,_⟩:=hb;rw [hadd,run_store P w _ v _ (h1 v (by simp)),hcell]
   simp [hfro,setCell_eq_setRow w g (o+i) cur t fz v hg]
  have ih:=zcs P g o t rest (i+1) (cur.setIfInBounds (o+i) v) (w.setRow g (cur.setIfInBounds (o+i) v)) (hb.setRow _ (by simp)) (by simp at hl ⊢;omega) (fun x hx=>h1 x (by simp [hx]))
  simp only [storeCells,Sem.run_bind,hst,Result.andThen_ok,ih,setRow_setRow];congr 3;have e:=list_seg_step cur.toList (o+i) v rest (by simp at hl ⊢;omega)
  simpa [Array.toList_setIfInBounds,Nat.add_assoc] using e
end
structure Kp (K:Nat→Prop) (w w':World):Prop where
 os:w'.os=w.os
 tape:w'.tape=w.tape
 output:w'.output=w.output
 size:w.heap.size≤w'.heap.size
 block:∀k,K k→w'.heap[k]? =w.heap[k]?
theorem Kp.refl (K:Nat→Prop) (w:World):Kp K w w:=⟨rfl,rfl,rfl,zNm _,fun _ _=>rfl⟩
theorem Kp.trans {K:Nat→Prop} {a b c:World} (h:Kp K a b) (k:Kp K b c):Kp K a c:=
 ⟨k.os.trans h.os,k.tape.trans h.tape,k.output.trans h.output,zNf h.size k.size,fun i hi=>(k.block i hi).trans (h.block i hi)⟩
theorem Kp.mono {K K':Nat→Prop} {a b:World} (h:Kp K a b) (hk:∀k,K' k→K k):Kp K' a b:=⟨h.os,h.tape,h.output,h.size,fun k hk'=>h.block k (hk k hk')⟩
abbrev lt (B:Nat):Nat→Prop:=fun b=>b<B
structure KS where
 k:Nat→Prop
 s:Nat→Prop
 p:Nat→Prop
theorem Kp.below {B:Nat} {a b:World} (h:Kp (lt B) a b):Below B a b:=⟨h.os,h.tape,h.output,h.size,h.block⟩
theorem Kp.of_below {B:Nat} {a b:World} (h:Below B a b):Kp (lt B) a b:=⟨h.os,h.tape,h.output,h.size,h.block⟩
theorem Kp.alloc {K:Nat→Prop} (w:World) (o:Obj) (hK:∀b,K b→b<w.heap.size):Kp K w (w.alloc o):=
 ⟨rfl,rfl,rfl,(Below.alloc (Below.refl w.heap.size w) (zNm _) o).size,fun k hk=>Below.heap_alloc w o k (hK k hk)⟩
theorem Kp.drew (K:Nat→Prop) (w:World):Kp K w w.drew:=⟨rfl,rfl,rfl,zNm _,fun _ _=>rfl⟩
inductive AV where
 |lit (v:Value)
 |sint (k:IntKind) (n:Int)
 |sbool (b:Bool)
 |sstr (s:ByteArray)
 |ptr (b off:Nat)
 |sl (b off len cap:Nat) (op:Bool)
 |emp
 |mp (b:Nat)
 |fn (f:FuncId) (caps:List AV)
 |bm (f:FuncId) (l:List AV)
 |agg (l:List AV)
 |tup (l:List AV)
 |lv (i k:Nat) (p:Path) (sz lo n:Nat)
 |lw (i k:Nat) (p:Path) (sz n:Nat)
 |emz
 |ep (i k:Nat) (p:Path) (sz idx cell:Nat)
 |tre (ow:Ow) (t:RT) (xs:List t.ty) (k:Nat)
 |ver
 |dead
structure Cap where
 n:Nat
 m:Nat
 A:Option Addr
 hd:Path→Option Hdr
 mm:Nat→Prop
def Cap.of (n:Nat):Cap:=⟨n,0,none,fun _=>none,fun _=>False⟩
abbrev Rho:=Nat→Option (Nat×Cap)
def Rho.le (ρ ρ':Rho):Prop:=∀i x,ρ i=some x→ρ' i=some x
theorem Rho.le.refl (ρ:Rho):ρ.le ρ:=fun _ _ h=>h
theorem Rho.le.trans {a b c:Rho} (h:a.le b) (k:b.le c):a.le c:=fun i x e=>k i x (h i x e)
def zal (_:Nat) (c:Cap):Hdr:=(c.A,c.m,c.n)
def hdrOf (ρ:Rho) (i k:Nat) (p:Path) (h:Hdr):Prop:=∃x c y d,ρ i=some (x,c)∧ρ k=some (y,d)∧match p with
 |[]=>h=zal x c
 |p=>d.hd p=some h
theorem hdrOf.mono {ρ ρ':Rho} (hl:ρ.le ρ') {i k:Nat} {p:Path} {h:Hdr}:hdrOf ρ i k p h→hdrOf ρ' i k p h:=fun ⟨x,c,y,d,h1,h2,h3⟩=>⟨x,c,y,d,hl _ _ h1,hl _ _ h2,h3⟩
def LvR (h:Hdr) (sz lo n:Nat) (v:Value):Prop:=lo+n≤h.2.1∧h.2.1≤h.2.2∧∃A',v= .slice A' n (h.2.2 - lo)∧(lo=0→A'=h.1)∧(n≠0→∃b o,h.1=some ⟨b,o,none⟩∧A'=some ⟨b,o+lo*sz,none⟩)
def EpR (h:Hdr) (sz idx cell:Nat) (v:Value):Prop:=idx<h.2.1∧∃b o,h.1=some ⟨b,o,none⟩∧v= .pointer (some ⟨b,o+idx*sz+cell,none⟩)
mutual
def den (ρ:Rho):AV→Value→Prop
 | .lit u,v=>v=u
 | .sint k n,v=>v= .int k n
 | .sbool b,v=>v= .bool b
 | .sstr s,v=>v= .string s
 | .ptr b off,v=>∃x c,ρ b=some (x,c)∧v= .pointer (some ⟨x,off,none⟩)
 | .sl b off len cap op,v=>∃x c,ρ b=some (x,c)∧v= .slice (some ⟨x,off,none⟩) len (if op then c.n - cap else cap)∧(op=true→cap≤c.n)∧len≤(if op then c.n - cap else cap)
 | .emp,v=>∃A c,v= .slice A 0 c
 | .mp b,v=>∃x c,ρ b=some (x,c)∧v= .map (some x)
 | .fn f caps,v=>∃vs,v= .func (.func f) #[] vs.toArray∧dens ρ caps vs
 | .bm f l,v=>∃vs,v= .func (.func f) vs.toArray #[]∧dens ρ l vs
 | .agg l,v=>∃vs,v= .agg vs.toArray∧dens ρ l vs
 | .tup l,v=>∃vs,v= .tuple vs.toArray∧dens ρ l vs
 | .lv i k p sz lo n,v=>∃h,hdrOf ρ i k p h∧LvR h sz lo n v
 | .lw i k p sz n,v=>∃h,hdrOf ρ i k p h∧LvR h sz 0 n v∧h.2.1=n
 | .emz,v=>∃A,v= .slice A 0 0
 | .ep i k p sz idx cell,v=>∃h,hdrOf ρ i k p h∧EpR h sz idx cell v
 | .tre ..,_=>False
 | .ver,_=>False
 | .dead,_=>True
def dens (ρ:Rho):List AV→List Value→Prop
 |[],vs=>vs=[]
 |a::l,vs=>∃v vs',vs=v::vs'∧den ρ a v∧dens ρ l vs'
end
mutual
theorem zbn {ρ ρ':Rho} (h:ρ.le ρ'):∀{a:AV} {v:Value},den ρ a v→den ρ' a v
 | .lit _,_,hd=>by simpa only [den] using hd
 | .sint ..,_,hd=>by simpa only [den] using hd
 | .sbool _,_,hd=>by simpa only [den] using hd
 | .sstr _,_,hd=>by simpa only [den] using hd
 | .ptr b off,_,hd=>by
   simp only [den] at hd ⊢;obtain ⟨x,c,e,r⟩:=hd;exact ⟨x,c,h _ _ e,r⟩
 | .sl ..,_,hd=>by
   simp only [den] at hd ⊢;obtain ⟨x,c,e,r⟩:=hd;exact ⟨x,c,h _ _ e,r⟩
 | .emp,_,hd=>by simpa only [den] using hd
 | .emz,_,hd=>by simpa only [den] using hd
 | .lw ..,_,hd=>by
   simp only [den] at hd ⊢;obtain ⟨x,e,r⟩:=hd;exact ⟨x,e.mono h,r⟩
 | .mp b,_,hd=>by
   simp only [den] at hd ⊢;obtain ⟨x,c,e,r⟩:=hd;exact ⟨x,c,h _ _ e,r⟩
 | .fn f caps,_,hd=>by
   simp only [den] at hd ⊢;obtain ⟨vs,e,r⟩:=hd;exact ⟨vs,e,dens_mono h r⟩
 | .bm f l,_,hd=>by
   simp only [den] at hd ⊢;obtain ⟨vs,e,r⟩:=hd;exact ⟨vs,e,dens_mono h r⟩
 | .agg l,_,hd=>by
   simp only [den] at hd ⊢;obtain ⟨vs,e,r⟩:=hd;exact ⟨vs,e,dens_mono h r⟩
 | .tup l,_,hd=>by
   simp only [den] at hd ⊢;obtain ⟨vs,e,r⟩:=hd;exact ⟨vs,e,dens_mono h r⟩
 | .lv ..,_,hd=>by
   simp only [den] at hd ⊢;obtain ⟨x,e,r⟩:=hd;exact ⟨x,e.mono h,r⟩
 | .ep ..,_,hd=>by
   simp only [den] at hd ⊢;obtain ⟨x,e,r⟩:=hd;exact ⟨x,e.mono h,r⟩
 | .tre ..,_,hd=>by simp only [den] at hd
 | .ver,_,hd=>by simp only [den] at hd
 | .dead,_,_=>by simp only [den]
theorem dens_mono {ρ ρ':Rho} (h:ρ.le ρ'):∀{l:List AV} {vs:List Value},dens ρ l vs→dens ρ' l vs
 |[],_,hd=>by simpa only [dens] using hd
 |a::l,_,hd=>by
  simp only [dens] at hd ⊢;obtain ⟨v,vs',e,h1,h2⟩:=hd;exact ⟨v,vs',e,zbn h h1,dens_mono h h2⟩
end
theorem zL {ρ:Rho}:∀{l:List AV} {vs:List Value},dens ρ l vs→vs.length=l.length
 |[],_,h=>by simp only [dens] at h;subst h;rfl
 |a::l,_,h=>by simp only [dens] at h;obtain ⟨v,vs',rfl,_,h2⟩:=h;simp [zL h2]
theorem zeX {ρ:Rho}:∀{l:List AV} {vs:List Value} (i:Nat) {a:AV},dens ρ l vs→l[i]? =some a→∃v,vs[i]? =some v∧den ρ a v
 |[],_,i,a,h,e=>by simp at e
 |a::l,_,i,b,h,e=>by
  simp only [dens] at h;obtain ⟨v,vs',rfl,h1,h2⟩:=h;cases i with
  |zero=>simp at e;subst e;exact ⟨v,rfl,h1⟩
  |succ i=>obtain ⟨u,hu,hd⟩:=zeX i h2 (by simpa using e);exact ⟨u,by simpa using hu,hd⟩
theorem zuW {ρ:Rho}:∀{l:List AV} {vs:List Value} (i:Nat) {v:Value},dens ρ l vs→vs[i]? =some v→∃a,l[i]? =some a∧den ρ a v
 |[],_,i,a,h,e=>by simp only [dens] at h;subst h;simp at e
 |a::l,_,i,b,h,e=>by
  simp only [dens] at h;obtain ⟨v,vs',rfl,h1,h2⟩:=h;cases i with
  |zero=>simp at e;subst e;exact ⟨a,rfl,h1⟩
  |succ i=>obtain ⟨u,hu,hd⟩:=zuW i h2 (by simpa using e);exact ⟨u,by simpa using hu,hd⟩
theorem zaq {ρ:Rho}:∀{l m:List AV} {us vs:List Value},dens ρ l us→dens ρ m vs→dens ρ (l++m) (us++vs)
 |[],m,_,vs,h,k=>by simp only [dens] at h;subst h;exact k
 |a::l,m,_,vs,h,k=>by
  simp only [dens] at h;obtain ⟨v,vs',rfl,h1,h2⟩:=h;simp only [List.cons_append,dens];exact ⟨v,_,rfl,h1,zaq h2 k⟩
theorem zcb {ρ:Rho}:∀(n:Nat) {l:List AV} {us:List Value},dens ρ l us→dens ρ (l.take n) (us.take n)
 |0,l,us,h=>by simp [dens]
 |n+1,[],_,h=>by simp only [dens] at h;subst h;simp [dens]
 |n+1,a::l,_,h=>by
  simp only [dens] at h;obtain ⟨v,vs',rfl,h1,h2⟩:=h;simp only [List.take_succ_cons,dens];exact ⟨v,_,rfl,h1,zcb n h2⟩
theorem zbA {ρ:Rho}:∀(n:Nat) {l:List AV} {us:List Value},dens ρ l us→dens ρ (l.drop n) (us.drop n)
 |0,l,us,h=>by simpa using h
 |n+1,[],_,h=>by simp only [dens] at h;subst h;simp [dens]
 |n+1,a::l,_,h=>by
  simp only [dens] at h;obtain ⟨v,vs',rfl,h1,h2⟩:=h;simpa using zbA n h2
theorem zaE {ρ:Rho}:∀(vs:List Value),dens ρ (vs.map AV.lit) vs
 |[]=>by simp [dens]
 |v::vs=>by simp only [List.map_cons,dens];exact ⟨v,vs,rfl,by simp only [den],zaE vs⟩
def AV.of:Value→AV
 | .agg cs=> .agg (cs.toList.map .lit)
 |v=> .lit v
theorem zeU {ρ:Rho} (v:Value):den ρ (AV.of v) v:=by
 cases v<;>simp only [AV.of,den];exact ⟨_,by simp,zaE _⟩
def AV.cells:AV→List AV
 | .agg l=>l
 |a=>[a]
def AV.one:AV→Bool
 | .lit v=>v.oneCell'
 | .agg _| .tup _| .dead| .tre .. | .ver=>false
 |_=>true
def AV.flat:AV→Bool
 | .agg l=>l.all AV.one
 |a=>a.one
theorem zCH {ρ:Rho} {a:AV} {v:Value} (h:den ρ a v) (h1:a.one=true):v.oneCell'=true:=by
 cases a with
 |lit u=>simp only [den] at h;subst h;exact h1
 |sint k n=>simp only [den] at h;subst h;rfl
 |sstr k=>simp only [den] at h;subst h;rfl
 |lv i k p sz lo n=>simp only [den,LvR] at h;obtain ⟨_,_,_,_,_,rfl,_⟩:=h;rfl
 |lw i k p sz n=>simp only [den,LvR] at h;obtain ⟨_,_,⟨_,_,_,rfl,_⟩,_⟩:=h;rfl
 |emz=>simp only [den] at h;obtain ⟨A,rfl⟩:=h;rfl
 |ep i k p sz lo n=>simp only [den,EpR] at h;obtain ⟨_,_,_,_,_,_,rfl⟩:=h;rfl
 |tre own t xs k=>cases h1
 |ver=>cases h1
 |sbool b=>simp only [den] at h;subst h;rfl
 |ptr b off=>simp only [den] at h;obtain ⟨x,c,_,rfl⟩:=h;rfl
 |sl b off len cap op=>simp only [den] at h;obtain ⟨x,c,_,rfl,_⟩:=h;rfl
 |emp=>simp only [den] at h;obtain ⟨A,c,rfl⟩:=h;rfl
 |mp b=>simp only [den] at h;obtain ⟨x,c,_,rfl⟩:=h;rfl
 |fn f caps=>simp only [den] at h;obtain ⟨vs,rfl,_⟩:=h;rfl
 |bm f caps=>simp only [den] at h;obtain ⟨vs,rfl,_⟩:=h;rfl
 |agg l=>cases h1
 |tup l=>cases h1
 |dead=>cases h1
theorem zhH {ρ:Rho}:∀{l:List AV} {vs:List Value},dens ρ l vs→l.all AV.one=true→∀v∈vs,v.oneCell'=true
 |[],_,h,_=>by simp only [dens] at h;subst h;simp
 |a::l,_,h,h1=>by
  simp only [dens] at h;obtain ⟨v,vs',rfl,h2,h3⟩:=h;simp only [List.all_cons,Bool.and_eq_true] at h1;intro u hu;rcases List.mem_cons.1 hu with rfl|hu
  ·exact zCH h2 h1.1
  ·exact zhH h3 h1.2 u hu
theorem zuR {v:Value} (h:v.oneCell'=true):v.cells= #[v]:=by cases v<;>first|rfl|cases h
theorem ziy {ρ:Rho} {a:AV} {v:Value} (h:den ρ a v) (hf:a.flat=true):dens ρ a.cells v.cells.toList∧∀u∈v.cells.toList,u.oneCell'=true:=by
 cases a with
 |agg l=>
  simp only [den] at h;obtain ⟨vs,rfl,h⟩:=h;exact ⟨by simpa [AV.cells,Value.cells] using h,by simpa [Value.cells] using zhH h hf⟩
 |tup l=>cases hf
 |dead=>cases hf
 |_=>
  have h1:=zCH h hf;rw [zuR h1];refine ⟨?_,by simpa using h1⟩
  simp only [AV.cells,dens];exact ⟨v,[],by simp,h,rfl⟩
structure Bk where
 ty:TypeId
 cells:List AV
 op:Option Nat
structure St where
 h:T Bk
 n:Nat
 wr:Nat→Bool
inductive Kd where
 |tree (ow:Ow) (t:RT) (xs:List t.ty) (k:Nat)
 |ver
 |map
 |verp (k:Nat)
 |pend (ow:Ow) (t:RT) (xs:List t.ty) (k i kk:Nat) (p:Path) (sz idx cell j:Nat)
def zu:List AV→Kd
 |[.tre ow t xs k]=> .tree ow t xs k
 |[.ver]=> .ver
 |[.ver, .ptr k _, .ver]=> .verp k
 |[.tre ow t xs k, .ep i kk p sz idx cell, .ptr j _]=> .pend ow t xs k i kk p sz idx cell j
 |_=> .map
theorem zoU {l:List AV} {own:Ow} {t:RT} {xs:List t.ty} {k:Nat} (h:zu l= .tree own t xs k):l=[.tre own t xs k]:=by
 unfold zu at h;split at h<;>first|(cases h;done)|(cases h;rfl)
theorem zzC {l:List AV} (h:zu l= .ver):l=[.ver]:=by
 unfold zu at h;split at h<;>first|(cases h;done)|rfl
theorem zoV {l:List AV} {k:Nat} (h:zu l= .verp k):∃q,l=[.ver, .ptr k q, .ver]:=by
 unfold zu at h;split at h<;>first|(cases h;done)|(cases h;exact ⟨_,rfl⟩)
theorem zvl {l:List AV} {ow:Ow} {t:RT} {xs:List t.ty} {k i kk:Nat} {p:Path} {sz idx cell j:Nat} (h:zu l= .pend ow t xs k i kk p sz idx cell j):∃q,l=[.tre ow t xs k, .ep i kk p sz idx cell, .ptr j q]:=by
 unfold zu at h;split at h<;>first|(cases h;done)|(cases h;exact ⟨_,rfl⟩)
def CellsR (ρ:Rho) (w:World) (x:Nat) (c:Cap) (bk:Bk):Prop:=
 ∃vs rest,dens ρ bk.cells vs∧Blk w x bk.ty (vs++rest).toArray∧(∀v∈vs,v.oneCell'=true)∧(bk.op=none→rest=[])∧(∀s,bk.op=some s→(vs++rest).length=c.n*s)
def zI:Nat→List Value→List MapEntry
 |i,k::v::l=>{key:=k,val:=v,born:=i}::zI (i+1) l
 |_,_=>[]
def MapR (ρ:Rho) (w:World) (x:Nat) (bk:Bk):Prop:=
 ∃vs n,dens ρ bk.cells vs∧vs.length=2*n∧w.heap[x]? =some (.map (zI 0 vs).toArray n)
def Mr (ρ:Rho) (y:Nat):Prop:=∃x c,ρ 0=some (x,c)∧c.mm y
theorem Mr.mono {ρ ρ':Rho} (h:ρ.le ρ') {y:Nat}:Mr ρ y→Mr ρ' y:=fun ⟨x,c,h1,h2⟩=>⟨x,c,h _ _ h1,h2⟩
def DcR (w:World) (S M F:Nat→Prop) (i:Nat) (l:List Nat) (t:RT) (xs:List t.ty) (v:Value):Prop:=
 (xs=[]∧∃A,v= .slice A 0 0)∨∃(c b:Nat) (T:TypeId) (cs:Array Value) (G:Nat→Nat→Nat→Prop),v= .slice (some ⟨b,0,none⟩) xs.length c∧xs.length≤c∧xs.length≤maxLen∧F b∧Blk w b T cs∧cs.size=c*t.size∧
  (∀e j y,G e j y→F y∧y≠b)∧(∀e j e' j' y,G e j y→G e' j' y→e=e'∧j=j')∧
  ∀(e:Nat) (x:t.ty),xs[e]? =some x→∀(j:Nat) (lf:Leaf),(t.leaves x)[j]? =some lf→
   (e<i∨(e=i∧j∈l)→LfO w S lf (fun q=>owT t ((e,j)::q)) (G e j) (cs.getD (e*t.size+j) undef))∧LfO w S lf (fun q=>owT t ((e,j)::q)) (fun y=>G e j y∨M y) (cs.getD (e*t.size+j) undef)
theorem LfO.wide' {w:World} {S S' F F':Nat→Prop} {ow:Path→Bool} {lf:Leaf} {v:Value} (h:LfO w S lf ow F v) (hS:∀b,S b→S' b) (hF:∀b,F b→F' b):LfO w S' lf ow F' v:=(h.wide hF).keep (fun _ _ _=>rfl) hS fun _ _ _=>rfl
theorem DcR.keep {w w':World} {S S' M M' F:Nat→Prop} {i:Nat} {l:List Nat} {t:RT} {xs:List t.ty} {v:Value} (h:DcR w S M F i l t xs v) (hF:∀b,F b→w'.heap[b]? =w.heap[b]?) (hS:∀b,S b→S' b) (eS:∀b,S b→w'.heap[b]? =w.heap[b]?) (hM:∀b,M b→M' b) (eM:∀b,M b→w'.heap[b]? =w.heap[b]?):DcR w' S' M' F i l t xs v:=by
 rcases h with h|⟨c,b,T,cs,G,h1,h2,h3,h4,h5,h6,h7,h8,h9⟩
 ·exact .inl h
 ·refine .inr ⟨c,b,T,cs,G,h1,h2,h3,h4,h5.same (hF b h4),h6,h7,h8,fun e x hx j lf hj=>?_⟩;obtain ⟨g1,g2⟩:=h9 e x hx j lf hj;refine ⟨fun hd=>(g1 hd).keep (fun b hb _=>hF b (h7 e j b hb).1) hS fun b hb _=>eS b hb,?_⟩;exact (g2.keep (fun b hb _=>hb.elim (fun hb=>hF b (h7 e j b hb).1) (eM b)) hS fun b hb _=>eS b hb).wide fun b hb=>hb.imp id (hM b)
theorem DcR.rd {w:World} {S M F:Nat→Prop} {i:Nat} {l:List Nat} {t:RT} {xs:List t.ty} {v:Value} (h:DcR w S M F i l t xs v):LfR w (fun y=>(F y∨M y)∨S y) (.list t xs) v:=by
 rcases h with ⟨rfl,A,rfl⟩|⟨c,b,T,cs,G,rfl,h2,h3,h4,h5,h6,h7,h8,h9⟩
 ·exact .list t [] A 0 (fun _ _=>undef) (zNk _) (by simp [maxLen]) (fun h=>absurd rfl h) (fun _ _ _ i x hx=>by simp at hx) (fun i x hx=>by simp at hx)
 ·refine .list t xs _ c (fun e j=>cs.getD (e*t.size+j) undef) h2 h3 (fun _=>⟨b,0,rfl, .inl (.inl h4),h5.lt⟩) (fun b' o' e=>?_) (fun e x hx j lf hj=>(h9 e x hx j lf hj).2.rd.keep (fun y hy=>?_) fun _ _ _=>rfl)
  ·simp only [zNn,Addr.mk.injEq] at e;obtain ⟨rfl,rfl,_⟩:=e;intro e x hx j lf hj;have he:=(zNa.1 hx).1;have hjl:=(zNa.1 hj).1;rw [RT.leaves_len] at hjl;have:e*t.size+j<cs.size:=by
    rw [h6]
    calc e*t.size+j<e*t.size+t.size:=by omega
     _=(e+1)*t.size:=by rw [zNr,Nat.one_mul]
     _≤c*t.size:=zNe _ (by omega)
   rw [h5.cell,Nat.zero_add,zNi this,Array.getD_eq_getD_getElem?,zNi this];rfl
  ·rcases hy with (hy|hy)|hy
   ·exact .inl (.inl (h7 e j y hy).1)
   ·exact .inl (.inr hy)
   ·exact .inr hy
def OwnR (w:World) (S M F:Nat→Prop) (ow:Ow) (t:RT) (xs:List t.ty) (v:Value):Prop:=match ow with
 | .ro=>LfR w F (.list t xs) v
 | .bor=>LfO w S (.list t xs) (owT t) M v
 | .dc i l=>DcR w S M F i l t xs v
 |ow=>LfO w S (.list t xs) (ow.f t) F v
theorem OwnR.more {w:World} {S M M' F:Nat→Prop} {ow:Ow} {t:RT} {xs:List t.ty} {v:Value} (h:OwnR w S M F ow t xs v) (hM:∀b,M b→M' b):OwnR w S M' F ow t xs v:=by
 cases ow with
 |bor=>exact LfO.wide h hM
 |dc i l=>exact DcR.keep h (fun _ _=>rfl) (fun _ h=>h) (fun _ _=>rfl) hM (fun _ _=>rfl)
 |_=>exact h
theorem OwnR.rd {w:World} {S M F:Nat→Prop} {ow:Ow} {t:RT} {xs:List t.ty} {v:Value} (h:OwnR w S M F ow t xs v):LfR w (fun y=>(F y∨M y)∨S y) (.list t xs) v:=by
 cases ow with
 |ro=>exact LfR.keep h (fun y hy=> .inl (.inl hy)) fun _ _ _=>rfl
 |bor=>exact (LfO.rd h).keep (fun y hy=>hy.imp .inr id) fun _ _ _=>rfl
 |dc i l=>exact DcR.rd h
 |_=>exact (LfO.rd h).keep (fun y hy=>hy.imp .inl id) fun _ _ _=>rfl
structure TreeR (ρ:Rho) (w:World) (S F:Nat→Prop) (x:Nat) (c:Cap) (ow:Ow) (t:RT) (xs:List t.ty) (k:Nat):Prop where
 len:c.m=xs.length
 own:OwnR w S (Mr ρ) F ow t xs (zal x c).val
 lt:∀y,F y→y<w.heap.size
 hds:∃y d,ρ k=some (y,d)∧d.hd=fun p=>hdrs w p t xs (zal x c)
theorem TreeR.rd {ρ:Rho} {w:World} {S F:Nat→Prop} {x:Nat} {c:Cap} {ow:Ow} {t:RT} {xs:List t.ty} {k:Nat} (h:TreeR ρ w S F x c ow t xs k):LfR w (fun y=>(F y∨Mr ρ y)∨S y) (.list t xs) (zal x c).val:=h.own.rd
def PendR (ρ:Rho) (w:World) (S F:Nat→Prop) (x:Nat) (c:Cap) (ow:Ow) (t:RT) (xs:List t.ty) (k i kk:Nat) (p:Path) (sz idx cell j:Nat):Prop:=
 ∃g b T cs xj cj,hdrOf ρ i kk p g∧g.1=some ⟨b,0,none⟩∧F b∧Blk w b T cs∧idx*sz+cell<cs.size∧ρ j=some (xj,cj)∧
  TreeR ρ (w.setRow b (cs.toList.take (idx*sz+cell)++[(zal xj cj).val]++cs.toList.drop (idx*sz+cell+1)).toArray) S F x c ow t xs k
def zED:Path→Bool
 |[]=>true
 |[_]=>true
 |_=>false
def KdR (ρ:Rho) (w:World) (S F:Nat→Prop) (x:Nat) (c:Cap) (bk:Bk):Kd→Prop
 | .tree ow t xs k=>TreeR ρ w S F x c ow t xs k
 | .ver=>∀y,¬F y
 | .verp k=>(∀y,¬F y)∧∃y d,ρ k=some (y,d)∧∀q,zED q=true→c.hd q=d.hd q
 | .map=>(∀y,F y↔y=x)∧MapR ρ w x bk
 | .pend ow t xs k i kk p sz idx cell j=>PendR ρ w S F x c ow t xs k i kk p sz idx cell j
def BkR (ρ:Rho) (w:World) (S F:Nat→Prop) (x:Nat) (c:Cap) (bk:Bk):Prop:=(bk.op≠some 0→(∀y,F y↔y=x)∧CellsR ρ w x c bk)∧(bk.op=some 0→KdR ρ w S F x c bk (zu bk.cells))
theorem zC5 {w:World} {x:Nat} {o:Obj} (h:w.heap[x]? =some o):x<w.heap.size:=by
 rcases Nat.lt_or_ge x w.heap.size with hlt|hge
 ·exact hlt
 ·rw [Array.getElem?_eq_none hge] at h;cases h
theorem CellsR.lt {ρ:Rho} {w:World} {x:Nat} {c:Cap} {bk:Bk} (h:CellsR ρ w x c bk):x<w.heap.size:=by
 obtain ⟨vs,rest,h1,h2,_⟩:=h;exact h2.lt
theorem MapR.lt {ρ:Rho} {w:World} {x:Nat} {bk:Bk} (h:MapR ρ w x bk):x<w.heap.size:=by
 obtain ⟨vs,n,h1,h2,h3⟩:=h;exact zC5 h3
theorem CellsR.mono {ρ ρ':Rho} {w w':World} {x:Nat} {c:Cap} {bk:Bk} (h:CellsR ρ w x c bk) (hr:ρ.le ρ') (e:w'.heap[x]? =w.heap[x]?):CellsR ρ' w' x c bk:=by
 obtain ⟨vs,rest,h1,h2,h3,h4,h5⟩:=h;exact ⟨vs,rest,dens_mono hr h1,h2.same e,h3,h4,h5⟩
theorem TreeR.mono {ρ ρ':Rho} {w w':World} {S S' F:Nat→Prop} {x:Nat} {c:Cap} {ow:Ow} {t:RT} {xs:List t.ty} {k:Nat} (h:TreeR ρ w S F x c ow t xs k) (hr:ρ.le ρ') (e:∀y,F y→w'.heap[y]? =w.heap[y]?) (hS:∀y,S y→S' y) (eS:∀y,S y→w'.heap[y]? =w.heap[y]?) (eM:∀y,Mr ρ y→w'.heap[y]? =w.heap[y]?):TreeR ρ' w' S' F x c ow t xs k:=by
 obtain ⟨y,d,h1,h2⟩:=h.hds;refine ⟨h.len,?_,fun y hy=>zo7 (e y hy) (h.lt y hy),y,d,hr _ _ h1,h2.trans ?_⟩
 ·have h3:=h.own;cases ow with
  |ro=>exact LfR.keep h3 (fun _ h=>h) (fun b hb _=>e b hb)
  |bor=>exact (LfO.keep h3 (fun b hb _=>eM b hb) hS (fun b hb _=>eS b hb)).wide fun b hb=>hb.mono hr
  |dc i l=>exact DcR.keep h3 e hS eS (fun b hb=>hb.mono hr) eM
  |_=>exact LfO.keep h3 (fun b hb _=>e b hb) hS (fun b hb _=>eS b hb)
 funext p
 exact (ziB (fun b hb _=>hb.elim (fun hb=>hb.elim (e b) (eM b)) (eS b)) h.rd).symm
theorem zh0 (w:World) (b:Nat) (cs:Array Value):(w.setRow b cs).heap.size=w.heap.size:=by simp [World.setRow]
theorem zkI {w w':World} {b:Nat} (cs:Array Value) (e:w'.heap[b]? =w.heap[b]?) {y:Nat} (ey:w'.heap[y]? =w.heap[y]?):(w'.setRow b cs).heap[y]? =(w.setRow b cs).heap[y]? :=by
 unfold World.setRow;simp only [Array.getElem?_modify];by_cases h:b=y
 ·subst h;simp only [if_true,e]
 ·simp only [if_neg h,ey]
theorem PendR.mono {ρ ρ':Rho} {w w':World} {S S' F:Nat→Prop} {x:Nat} {c:Cap} {ow:Ow} {t:RT} {xs:List t.ty} {k i kk:Nat} {p:Path} {sz idx cell j:Nat} (h:PendR ρ w S F x c ow t xs k i kk p sz idx cell j) (hr:ρ.le ρ') (e:∀y,F y→w'.heap[y]? =w.heap[y]?) (hS:∀y,S y→S' y) (eS:∀y,S y→w'.heap[y]? =w.heap[y]?) (eM:∀y,Mr ρ y→w'.heap[y]? =w.heap[y]?):PendR ρ' w' S' F x c ow t xs k i kk p sz idx cell j:=by
 obtain ⟨g,b,T,cs,xj,cj,h1,h2,h3,h4,h5,h6,h7⟩:=h;exact ⟨g,b,T,cs,xj,cj,h1.mono hr,h2,h3,h4.same (e b h3),h5,hr _ _ h6,h7.mono hr (fun y hy=>zkI _ (e b h3) (e y hy)) hS (fun y hy=>zkI _ (e b h3) (eS y hy)) fun y hy=>zkI _ (e b h3) (eM y hy)⟩
theorem BkR.mono {ρ ρ':Rho} {w w':World} {S S' F:Nat→Prop} {x:Nat} {c:Cap} {bk:Bk} (h:BkR ρ w S F x c bk) (hr:ρ.le ρ') (e:∀y,F y→w'.heap[y]? =w.heap[y]?) (hS:∀y,S y→S' y) (eS:∀y,S y→w'.heap[y]? =w.heap[y]?) (eM:∀y,Mr ρ y→w'.heap[y]? =w.heap[y]?):BkR ρ' w' S' F x c bk:=by
 refine ⟨fun hn=>⟨(h.1 hn).1,(h.1 hn).2.mono hr (e x (((h.1 hn).1 x).2 rfl))⟩,fun hn=>?_⟩;have h2:=h.2 hn;revert h2;cases zu bk.cells with
 |tree own t xs k=>exact fun h2=>TreeR.mono h2 hr e hS eS eM
 |pend=>exact fun h2=>PendR.mono h2 hr e hS eS eM
 |ver=>exact id
 |verp k=>exact fun ⟨h1,y,d,h2,h3⟩=>⟨h1,y,d,hr _ _ h2,h3⟩
 |map=>
  rintro ⟨hF,vs,n,h1,h2,h3⟩
  exact ⟨hF,vs,n,dens_mono hr h1,h2,(e x ((hF x).2 rfl)).trans h3⟩
theorem BkR.lt {ρ:Rho} {w:World} {S F:Nat→Prop} {x:Nat} {c:Cap} {bk:Bk} (h:BkR ρ w S F x c bk):∀y,F y→y<w.heap.size:=by
 intro y hy;by_cases hn:bk.op=some 0
 ·have h2:=h.2 hn;revert h2;cases zu bk.cells with
  |tree own t xs k=>exact fun h2=>TreeR.lt h2 y hy
  |ver=>exact fun h2=>(h2 y hy).elim
  |verp k=>exact fun h2=>(h2.1 y hy).elim
  |map=>exact fun h2=>(h2.1 y).1 hy▸h2.2.lt
  |pend=>
   intro ⟨_,_,_,_,_,_,_,_,_,_,_,_,h⟩;have:=TreeR.lt h y hy
   rwa [zh0] at this
 ·exact ((h.1 hn).1 y).1 hy▸(h.1 hn).2.lt
def zk4 (h:T Bk) (b:Nat):Option Bk:=match h.get b with
 |some bk=>match bk.op with
  |some 0=>none
  |_=>some bk
 |none=>none
theorem za5 {h:T Bk} {b:Nat} {bk:Bk} (e:zk4 h b=some bk):h.get b=some bk∧bk.op≠some 0:=by
 unfold zk4 at e;split at e
 ·rename_i bk' hb;split at e
  ·cases e
  ·rename_i hn;obtain rfl:=zM8 e;exact ⟨hb,fun h=>hn h⟩
 ·cases e
def zJh (h:T Bk) (b:Nat):Option (List AV):=match h.get b with
 |some bk=>match bk.op with
  |some 0=>match zu bk.cells with
   | .map=>some bk.cells
   |_=>none
  |_=>none
 |none=>none
theorem zC0 {h:T Bk} {b:Nat} {l:List AV} (e:zJh h b=some l):∃bk,h.get b=some bk∧bk.op=some 0∧zu bk.cells= .map∧bk.cells=l:=by
 unfold zJh at e;split at e
 ·rename_i bk' hb;split at e
  ·rename_i hn;split at e
   ·rename_i hk;obtain rfl:=zM8 e;exact ⟨_,hb,hn,hk,rfl⟩
   ·cases e
  ·cases e
 ·cases e
structure SimF (K:KS) (w0:World) (ρ:Rho) (S:Nat→Prop) (F:Nat→Nat→Prop) (st:St) (w:World):Prop where
 kp:Kp K.k w0 w
 lt:∀b,K.k b→b<w0.heap.size
 ss:∀b,K.s b→S b
 sk:∀b,S b→K.k b→K.s b
 sl:∀b,S b→b<w.heap.size
 blk:∀i bk,st.h.get i=some bk→∃x c,ρ i=some (x,c)∧BkR ρ w S (F i) x c bk∧(st.wr i=true→∀y,F i y→¬K.k y)
 sd:∀i bk y,st.h.get i=some bk→st.wr i=true→F i y→¬S y
 sep:∀i j bi bj y,st.h.get i=some bi→st.h.get j=some bj→i≠j→(st.wr i=true∨st.wr j=true)→F i y→F j y→False
 dom:∀i,ρ i≠none→i<st.n
 pn:0<st.n∧∀x c,ρ 0=some (x,c)→K.p x∧∀y,c.mm y→K.k y
def Sim (K:KS) (w0:World) (ρ:Rho) (st:St) (w:World):Prop:=∃S F,SimF K w0 ρ S F st w
variable {K:KS} {w0 w:World} {ρ:Rho} {S:Nat→Prop} {F:Nat→Nat→Prop} {st:St}
theorem Sim.dom (h:Sim K w0 ρ st w):∀i,ρ i≠none→i<st.n:=let ⟨_,_,h⟩:=h;h.dom
theorem SimF.ltw (h:SimF K w0 ρ S F st w):∀b,K.k b→b<w.heap.size:=fun b hb=>zNd (h.lt b hb) h.kp.size
theorem SimF.mk_ (h:SimF K w0 ρ S F st w) {y:Nat}:Mr ρ y→K.k y:=fun ⟨x,c,h1,h2⟩=>(h.pn.2 x c h1).2 y h2
theorem SimF.to {w':World} (h:SimF K w0 ρ S F st w) (hk:Kp (fun b=>b<w.heap.size) w w'):SimF K w0 ρ S F st w':=
 ⟨h.kp.trans (hk.mono h.ltw),h.lt,h.ss,h.sk,fun b hb=>zNd (h.sl b hb) hk.size,fun i bk hi=>by
  obtain ⟨x,c,e,hb,hn⟩:=h.blk i bk hi;exact ⟨x,c,e,hb.mono (.refl ρ) (fun y hy=>hk.block y (hb.lt y hy)) (fun _ h=>h) (fun y hy=>hk.block y (h.sl y hy)) (fun y hy=>hk.block y (h.ltw y (h.mk_ hy))),hn⟩,h.sd,h.sep,h.dom,h.pn⟩
theorem Sim.to {w':World} (h:Sim K w0 ρ st w) (hk:Kp (fun b=>b<w.heap.size) w w'):Sim K w0 ρ st w':=let ⟨S,F,h⟩:=h;⟨S,F,h.to hk⟩
theorem Sim.drew (h:Sim K w0 ρ st w):Sim K w0 ρ st w.drew:=h.to (Kp.drew _ w)
def Rho.up (ρ:Rho) (n:Nat) (x:Nat×Cap):Rho:=fun i=>if i=n then some x else ρ i
theorem Rho.le_up {ρ:Rho} {n:Nat} {x:Nat×Cap} (h:ρ n=none):ρ.le (ρ.up n x):=fun i y e=>by
 unfold Rho.up;by_cases hi:i=n
 ·subst hi;rw [h] at e;cases e
 ·rw [if_neg hi];exact e
theorem Sim.fresh (h:Sim K w0 ρ st w):ρ st.n=none:=by
 cases e:ρ st.n with
 |none=>rfl
 |some x=>exact absurd (h.dom st.n (by rw [e];simp)) (Nat.lt_irrefl _)
structure Ext (n n':Nat) (ρ ρ':Rho):Prop where
 le:ρ.le ρ'
 same:∀i,i<n→ρ' i=ρ i
 num:n≤n'
theorem Ext.refl (n:Nat) (ρ:Rho):Ext n n ρ ρ:=⟨.refl ρ,fun _ _=>rfl,zNm n⟩
theorem Ext.trans {n n' n'':Nat} {ρ ρ' ρ'':Rho} (h:Ext n n' ρ ρ') (k:Ext n' n'' ρ' ρ''):Ext n n'' ρ ρ'':=
 ⟨h.le.trans k.le,fun i hi=>(k.same i (zNd hi h.num)).trans (h.same i hi),zNf h.num k.num⟩
theorem Ext.up {ρ:Rho} {n:Nat} (x:Nat×Cap) (h:ρ n=none):Ext n (n+1) ρ (ρ.up n x):=
 ⟨Rho.le_up h,fun i hi=>by unfold Rho.up;rw [if_neg (by omega)],by omega⟩
def Fup (F:Nat→Nat→Prop) (n:Nat) (G:Nat→Prop):Nat→Nat→Prop:=fun i y=>if i=n then G y else F i y
theorem zV {F:Nat→Nat→Prop} {n:Nat} {G:Nat→Prop}:Fup F n G n=G:=by funext y;simp [Fup]
theorem zap {F:Nat→Nat→Prop} {n i:Nat} {G:Nat→Prop} (h:i≠n):Fup F n G i=F i:=by funext y;simp [Fup,h]
theorem zrI {l:List AV} (h:l.length≠1) (h3:l.length≠3):zu l= .map:=by
 unfold zu;split
 ·exact absurd rfl h
 ·exact absurd rfl h
 ·exact absurd rfl h3
 ·exact absurd rfl h3
 ·rfl
theorem zoD {ρ:Rho}:∀{l:List AV} {vs:List Value},dens ρ l vs→vs.length=l.length
 |[],_,h=>by simp only [dens] at h;subst h;rfl
 |a::l,_,h=>by simp only [dens] at h;obtain ⟨v,vs',rfl,_,h2⟩:=h;simp [zoD h2]
theorem BkR.map {w:World} {S:Nat→Prop} {x:Nat} {c:Cap} {ty:TypeId} {cells:List AV} {vs:List Value} {n:Nat} (hd:dens ρ cells vs) (hl:vs.length=2*n) (hh:w.heap[x]? =some (.map (zI 0 vs).toArray n)):BkR ρ w S (fun y=>y=x) x c ⟨ty,cells,some 0⟩:=by
 refine ⟨fun e=>absurd rfl e,fun _=>?_⟩;have:zu cells= .map:=zrI (by have:=zoD hd;omega) (by have:=zoD hd;omega)
 show KdR _ _ _ _ _ _ _ (zu cells);rw [this];exact ⟨fun _=>Iff.rfl,vs,n,hd,hl,hh⟩
theorem Sim.blkM (h:Sim K w0 ρ st w) {i:Nat} {l:List AV} (hi:zJh st.h i=some l):∃bk x c,st.h.get i=some bk∧bk.cells=l∧zu bk.cells= .map∧ρ i=some (x,c)∧MapR ρ w x bk∧(st.wr i=true→¬K.k x):=by
 obtain ⟨S,F,h⟩:=h;obtain ⟨bk,h1,h2,h3,h4⟩:=zC0 hi;obtain ⟨x,c,h5,h6,h7⟩:=h.blk i bk h1;have h8:=h6.2 h2;rw [h3] at h8;exact ⟨bk,x,c,h1,h4,h3,h5,h8.2,fun hw=>h7 hw x ((h8.1 x).2 rfl)⟩
theorem Sim.blk (h:Sim K w0 ρ st w) (i:Nat) (bk:Bk) (hi:st.h.get i=some bk):∃x c,ρ i=some (x,c)∧∃S G,BkR ρ w S G x c bk∧(st.wr i=true→∀y,G y→¬K.k y):=by
 obtain ⟨S,F,h⟩:=h;obtain ⟨x,c,h1,h2⟩:=h.blk i bk hi;exact ⟨x,c,h1,_,_,h2⟩
theorem SimF.less (h:SimF K w0 ρ S F st w) (st':St) (hg:∀i bk,st'.h.get i=some bk→st.h.get i=some bk) (hn:st.n≤st'.n) (hl:∀i,st'.wr i=true→st.wr i=true):SimF K w0 ρ S F st' w:=
 ⟨h.kp,h.lt,h.ss,h.sk,h.sl,fun i bk hi=>by
  obtain ⟨x,c,e,hb,hk⟩:=h.blk i bk (hg i bk hi);exact ⟨x,c,e,hb,fun hli=>hk (hl i hli)⟩,fun i bk y hi hw=>h.sd i bk y (hg i bk hi) (hl i hw),fun i j bi bj y hi hj hij hw=>h.sep i j bi bj y (hg i bi hi) (hg j bj hj) hij (hw.imp (hl i) (hl j)),fun i hi=>zNd (h.dom i hi) hn,zNd h.pn.1 hn,h.pn.2⟩
theorem Sim.less (h:Sim K w0 ρ st w) (st':St) (hg:∀i bk,st'.h.get i=some bk→st.h.get i=some bk) (hn:st.n≤st'.n) (hl:∀i,st'.wr i=true→st.wr i=true):Sim K w0 ρ st' w:=let ⟨S,F,h⟩:=h;⟨S,F,h.less st' hg hn hl⟩
theorem SimF.share (h:SimF K w0 ρ S F st w) (S':Nat→Prop) (hS:∀y,S y→S' y) (hk:∀y,S' y→S y∨(¬K.k y∧y<w.heap.size)) (hd:∀i bk y,st.h.get i=some bk→st.wr i=true→F i y→¬S' y):SimF K w0 ρ S' F st w:=
 ⟨h.kp,h.lt,fun b hb=>hS b (h.ss b hb),fun b hb hK=>(hk b hb).elim (fun h1=>h.sk b h1 hK) (fun h1=>absurd hK h1.1),fun b hb=>(hk b hb).elim (h.sl b) (fun h1=>h1.2),fun i bk hi=>by
  obtain ⟨x,c,e,hb,hn⟩:=h.blk i bk hi;exact ⟨x,c,e,hb.mono (.refl ρ) (fun _ _=>rfl) hS (fun _ _=>rfl) (fun _ _=>rfl),hn⟩,hd,h.sep,h.dom,h.pn⟩
theorem SimF.nameG {w':World} (h:SimF K w0 ρ S F st w) (hkp:Kp K.k w w') (hk:∀j bj,st.h.get j=some bj→∀y,F j y→w'.heap[y]? =w.heap[y]?) (hkS:∀y,S y→w'.heap[y]? =w.heap[y]?) (bk0:Bk) (x:Nat) (c:Cap) (G:Nat→Prop) (hb0:BkR (ρ.up st.n (x,c)) w' S G x c bk0)
  (hG:∀y,G y→(st.wr st.n=true→¬K.k y∧¬S y)∧∀j bj,st.h.get j=some bj→(st.wr st.n=true∨st.wr j=true)→¬F j y):
  SimF K w0 (ρ.up st.n (x,c)) S (Fup F st.n G) ⟨st.h.set st.n bk0,st.n+1,st.wr⟩ w'∧Ext st.n (st.n+1) ρ (ρ.up st.n (x,c)):=by
 have hf:ρ st.n=none:=Sim.fresh ⟨S,F,h⟩;have hle:ρ.le (ρ.up st.n (x,c)):=Rho.le_up hf;refine ⟨⟨h.kp.trans hkp,h.lt,h.ss,h.sk,fun b hb=>zo7 (hkS b hb) (h.sl b hb),fun i bk hi=>?_,fun i bk y hi hw hy=>?_,fun i j bi bj y hi hj hij hw hyi hyj=>?_,fun i hi=>?_,Nat.lt_succ_of_lt h.pn.1,fun z cz e=>?_⟩,Ext.up _ hf⟩
 ·rw [T.get_put] at hi;by_cases hin:i=st.n
  ·subst hin;rw [if_pos rfl] at hi;obtain rfl:=zM8 hi;refine ⟨x,c,by simp [Rho.up],by rw [zV];exact hb0,fun hwr y hy=>?_⟩
   rw [zV] at hy;exact ((hG y hy).1 hwr).1
  ·rw [if_neg hin] at hi;obtain ⟨x,c',e,hb,hn⟩:=h.blk i bk hi;rw [zap hin];exact ⟨x,c',hle _ _ e,hb.mono hle (hk i bk hi) (fun _ h=>h) hkS (fun y hy=>hkp.block y (h.mk_ hy)),hn⟩
 ·rw [T.get_put] at hi;by_cases hin:i=st.n
  ·rw [hin,zV] at hy;rw [hin] at hw;exact ((hG y hy).1 hw).2
  ·rw [if_neg hin] at hi;rw [zap hin] at hy;exact h.sd i bk y hi hw hy
 ·rw [T.get_put] at hi hj;by_cases hin:i=st.n
  ·by_cases hjn:j=st.n
   ·exact hij (hin.trans hjn.symm)
   ·rw [if_neg hjn] at hj;rw [hin,zV] at hyi;rw [zap hjn] at hyj;rw [hin] at hw;exact (hG y hyi).2 j bj hj hw hyj
  ·rw [if_neg hin] at hi;rw [zap hin] at hyi;by_cases hjn:j=st.n
   ·rw [hjn,zV] at hyj;rw [hjn] at hw;exact (hG y hyj).2 i bi hi hw.symm hyi
   ·rw [if_neg hjn] at hj;rw [zap hjn] at hyj;exact h.sep i j bi bj y hi hj hij hw hyi hyj
 ·show i<st.n+1;simp only [Rho.up] at hi;by_cases hin:i=st.n
  ·omega
  ·rw [if_neg hin] at hi;have:=h.dom i hi;omega
 ·have h0:=h.pn.1;simp only [Rho.up] at e;rw [if_neg (by omega)] at e
  exact h.pn.2 z cz e
theorem SimF.name {w':World} (h:SimF K w0 ρ S F st w) (hk:Kp (fun b=>b<w.heap.size) w w') (bk0:Bk) (x:Nat) (c:Cap) (G:Nat→Prop) (hb0:BkR (ρ.up st.n (x,c)) w' S G x c bk0) (hG:∀y,G y→w.heap.size≤y):
  SimF K w0 (ρ.up st.n (x,c)) S (Fup F st.n G) ⟨st.h.set st.n bk0,st.n+1,st.wr⟩ w'∧Ext st.n (st.n+1) ρ (ρ.up st.n (x,c)):=by
 have hlt:∀j bj,st.h.get j=some bj→∀y,F j y→y<w.heap.size:=fun j bj hj y hy=>by
  obtain ⟨_,_,_,hb,_⟩:=h.blk j bj hj;exact hb.lt y hy
 refine h.nameG (hk.mono h.ltw) (fun j bj hj y hy=>hk.block y (hlt j bj hj y hy)) (fun y hy=>hk.block y (h.sl y hy)) bk0 x c G hb0 fun y hy=>⟨fun _=>⟨fun hK=>?_,fun hS=>?_⟩,fun j bj hj _ hyj=>?_⟩
 ·have:=h.ltw y hK;have:=hG y hy;omega
 ·have:=h.sl y hS;have:=hG y hy;omega
 ·have:=hlt j bj hj y hyj;have:=hG y hy;omega
theorem SimF.turn {w':World} (h:SimF K w0 ρ S F st w) (i:Nat) {bk:Bk} (hi:st.h.get i=some bk) (hl:st.wr i=true) (hw:Kp (fun b=>b<w.heap.size∧¬F i b) w w') (bk0:Bk) (x:Nat) (c:Cap) (G:Nat→Prop) (hG:∀y,G y→F i y∨w.heap.size≤y)
  (hb0:BkR (ρ.up st.n (x,c)) w' S G x c bk0):
  SimF K w0 (ρ.up st.n (x,c)) S (Fup F st.n G) ⟨(st.h.put i none).set st.n bk0,st.n+1,st.wr⟩ w'∧Ext st.n (st.n+1) ρ (ρ.up st.n (x,c)):=by
 obtain ⟨_,_,_,hbi,hn⟩:=h.blk i bk hi;have hnk:=hn hl;have hsub:∀j bj,(st.h.put i none).get j=some bj→j≠i∧st.h.get j=some bj:=fun j bj hj=>by
  rw [T.get_put] at hj;by_cases hji:j=i
  ·rw [if_pos hji] at hj;cases hj
  ·rw [if_neg hji] at hj;exact ⟨hji,hj⟩
 have h1:SimF K w0 ρ S F ⟨st.h.put i none,st.n,st.wr⟩ w:=h.less _ (fun j bj hj=>(hsub j bj hj).2) (zNm _) (fun _ h=>h);refine h1.nameG (hw.mono fun b hb=>⟨h.ltw b hb,fun e=>hnk b e hb⟩) (fun j bj hj y hy=>?_) (fun y hy=>hw.block y ⟨h.sl y hy,fun e=>h.sd i bk y hi hl e hy⟩) bk0 x c G hb0 fun y hy=>⟨fun _=>⟨fun hK=>?_,fun hS=>?_⟩,fun j bj hj _ hyj=>?_⟩
 ·obtain ⟨h2,h3⟩:=hsub j bj hj;obtain ⟨_,_,_,hb,_⟩:=h.blk j bj h3;exact hw.block y ⟨hb.lt y hy,fun e=>h.sep j i bj bk y h3 hi h2 (.inr hl) hy e⟩
 ·rcases hG y hy with h2|h2
  ·exact hnk y h2 hK
  ·have:=h.ltw y hK;omega
 ·rcases hG y hy with h2|h2
  ·exact h.sd i bk y hi hl h2 hS
  ·have:=h.sl y hS;omega
 ·obtain ⟨h2,h3⟩:=hsub j bj hj;obtain ⟨_,_,_,hb,_⟩:=h.blk j bj h3;rcases hG y hy with h4|h4
  ·exact h.sep j i bj bk y h3 hi h2 (.inr hl) hyj h4
  ·have:=hb.lt y hyj;omega
theorem Sim.new (h:Sim K w0 ρ st w) (bk0:Bk) (c:Cap) (o:Obj) (hb0:∀S,BkR (ρ.up st.n (w.heap.size,c)) (w.alloc o) S (fun y=>y=w.heap.size) w.heap.size c bk0):
  Sim K w0 (ρ.up st.n (w.heap.size,c)) ⟨st.h.set st.n bk0,st.n+1,st.wr⟩ (w.alloc o)∧Ext st.n (st.n+1) ρ (ρ.up st.n (w.heap.size,c)):=by
 obtain ⟨S,F,h⟩:=h;obtain ⟨h1,h2⟩:=h.name (Kp.alloc w o (fun _ h=>h)) bk0 _ c _ (hb0 S) (fun y hy=>by omega)
 exact ⟨⟨_,_,h1⟩,h2⟩
theorem Sim.alloc (h:Sim K w0 ρ st w) (ty:TypeId) (cells:List AV) (op:Option Nat) (hop:op≠some 0) (c:Nat) (vs rest:List Value) (hd:dens ρ cells vs) (h1:∀v∈vs,v.oneCell'=true) (ho:op=none→rest=[]) (hs:∀s,op=some s→(vs++rest).length=c*s):
  Sim K w0 (ρ.up st.n (w.heap.size, .of c)) ⟨st.h.set st.n ⟨ty,cells,op⟩,st.n+1,st.wr⟩ (w.alloc (.cells (vs++rest).toArray ty))∧Ext st.n (st.n+1) ρ (ρ.up st.n (w.heap.size, .of c)):=
 h.new _ (.of c) _ fun _=>⟨fun _=>⟨fun _=>Iff.rfl,vs,rest,dens_mono (Rho.le_up h.fresh) hd,Blk.new w ty _,h1,ho,hs⟩,fun e=>absurd e hop⟩
theorem SimF.blkC (h:SimF K w0 ρ S F st w) {i:Nat} {bk:Bk} (hi:zk4 st.h i=some bk):∃x c,ρ i=some (x,c)∧(∀y,F i y↔y=x)∧CellsR ρ w x c bk∧(st.wr i=true→¬K.k x):=by
 obtain ⟨h1,h2⟩:=za5 hi;obtain ⟨x,c,h3,h4,h5⟩:=h.blk i bk h1;exact ⟨x,c,h3,(h4.1 h2).1,(h4.1 h2).2,fun hw=>h5 hw x (((h4.1 h2).1 x).2 rfl)⟩
theorem Sim.blkC (h:Sim K w0 ρ st w) {i:Nat} {bk:Bk} (hi:zk4 st.h i=some bk):∃x c,ρ i=some (x,c)∧CellsR ρ w x c bk∧(st.wr i=true→¬K.k x):=by
 obtain ⟨S,F,h⟩:=h;obtain ⟨x,c,h1,_,h2⟩:=h.blkC hi;exact ⟨x,c,h1,h2⟩
theorem SimF.write (h:SimF K w0 ρ S F st w) (i:Nat) {bk:Bk} {x:Nat} {c:Cap} (hi:st.h.get i=some bk) (hl:st.wr i=true) (he:ρ i=some (x,c)) (bk':Bk) (w':World) (G:Nat→Prop) (hG:∀y,G y→F i y∨w.heap.size≤y)
  (hw:Kp (fun b=>b<w.heap.size∧¬F i b) w w') (hb':BkR ρ w' S G x c bk'):
  SimF K w0 ρ S (Fup F i G) ⟨st.h.set i bk',st.n,st.wr⟩ w':=by
 obtain ⟨x',c',e,hb,hn⟩:=h.blk i bk hi;have hnk:=hn hl;have hSk:∀y,S y→w'.heap[y]? =w.heap[y]? :=fun y hy=>hw.block y ⟨h.sl y hy,fun e=>h.sd i bk y hi hl e hy⟩;refine ⟨h.kp.trans (hw.mono fun b hb=>⟨h.ltw b hb,fun e=>hnk b e hb⟩),h.lt,h.ss,h.sk,fun y hy=>zo7 (hSk y hy) (h.sl y hy),fun j bj hj=>?_,fun j bj y hj hwj hy=>?_,fun j k bj bk2 y hj hk hjk hww hyj hyk=>?_,h.dom,h.pn⟩
 ·rw [T.get_put] at hj;by_cases hji:j=i
  ·subst hji;rw [if_pos rfl] at hj;obtain rfl:=zM8 hj;rw [zV];refine ⟨x,c,he,hb',fun _ y hy hK=>?_⟩;rcases hG y hy with h1|h1
   ·exact hnk y h1 hK
   ·have:=h.ltw y hK;omega
  ·rw [if_neg hji] at hj;obtain ⟨y,cy,ey,hby,hny⟩:=h.blk j bj hj;rw [zap hji];exact ⟨y,cy,ey,hby.mono (.refl ρ) (fun z hz=>hw.block z ⟨hby.lt z hz,fun e=>h.sep j i bj bk z hj hi hji (.inr hl) hz e⟩) (fun _ h=>h) hSk (fun z hz=>hw.block z ⟨h.ltw z (h.mk_ hz),fun e=>hnk z e (h.mk_ hz)⟩),hny⟩
 ·rw [T.get_put] at hj;by_cases hji:j=i
  ·subst hji;rw [zV] at hy;rcases hG y hy with h1|h1
   ·exact h.sd j bk y hi hl h1
   ·intro hS;have:=h.sl y hS;omega
  ·rw [if_neg hji] at hj;rw [zap hji] at hy;exact h.sd j bj y hj hwj hy
 ·have key:∀{k bk2} {y:Nat},k≠i→st.h.get k=some bk2→G y→F k y→False:=fun {k bk2 y} hki hk hy hyk=>by
   rcases hG y hy with h1|h1
   ·exact h.sep k i bk2 bk y hk hi hki (.inr hl) hyk h1
   ·obtain ⟨_,_,_,hbk,_⟩:=h.blk k bk2 hk;have:=hbk.lt y hyk;omega
  rw [T.get_put] at hj hk;by_cases hji:j=i
  ·subst hji;have hki:k≠j:=fun e=>hjk e.symm;rw [if_neg hki] at hk;rw [zV] at hyj;rw [zap hki] at hyk;exact key hki hk hyj hyk
  ·rw [if_neg hji] at hj;rw [zap hji] at hyj;by_cases hki:k=i
   ·subst hki;rw [zV] at hyk;exact key hji hj hyk hyj
   ·rw [if_neg hki] at hk;rw [zap hki] at hyk;exact h.sep j k bj bk2 y hj hk hjk hww hyj hyk
theorem Sim.write (h:Sim K w0 ρ st w) (i:Nat) {bk:Bk} {x:Nat} {c:Cap} (hi:st.h.get i=some bk) (hl:st.wr i=true) (he:ρ i=some (x,c)) (hx:bk.op≠some 0∨zu bk.cells= .map) (bk':Bk) (w':World) (hw:Kp (fun b=>b<w.heap.size∧b≠x) w w') (hb':∀S,BkR ρ w' S (fun y=>y=x) x c bk'):
  Sim K w0 ρ ⟨st.h.set i bk',st.n,st.wr⟩ w':=by
 obtain ⟨S,F,h⟩:=h;obtain ⟨x',c',e,hb,hn⟩:=h.blk i bk hi;rw [he] at e;obtain ⟨rfl,rfl⟩:=zNb (zM8 e);have hF:∀y,F i y↔y=x:=by
  by_cases ho:bk.op=some 0
  ·have h2:=hb.2 ho;rcases hx with hx|hx
   ·exact absurd ho hx
   ·rw [hx] at h2;exact h2.1
  ·exact (hb.1 ho).1
 exact ⟨_,_,h.write i hi hl he bk' w' _ (fun y hy=> .inl ((hF y).2 hy)) (hw.mono fun b hb=>⟨hb.1,fun e=>hb.2 ((hF b).2 e)⟩) (hb' S)⟩
inductive VT (α:Type) where
 |ret (a:α)
 |fork (c:Bool) (t e:VT α)
 |must (p:Prop) (d:Decidable p) (t:VT α)
 |fail (k:Nat) (o:Option Oper)
def VT.bind {α β:Type}:VT α→(α→VT β)→VT β
 | .ret a,f=>f a
 | .fork c t e,f=> .fork c (t.bind f) (e.bind f)
 | .must p d t,f=> .must p d (t.bind f)
 | .fail k o,_=> .fail k o
structure MP where
 p:Prop
 d:Decidable p
def VT.opt {α:Type} (x:Oper):Option α→VT α
 |some a=> .ret a
 |none=> .fail 0 (some x)
def zbW {α:Type} (P:Program) [Fast P]:Sem α→Option α
 | .pure a=>some a
 | .program k=>zbW P (k P)
 |_=>none
theorem z2 {α:Type} {P:Program} [Fast P]:∀{m:Sem α} {v:α},zbW P m=some v→∀w,m.run P w= .ok v w
 | .pure a,v,h,w=>by obtain rfl:=zM8 h;rfl
 | .program k,v,h,w=>z2 (m:=k P) h w
 | .load ..,_,h,_=>nomatch h
 | .store ..,_,h,_=>nomatch h
 | .new ..,_,h,_=>nomatch h
 | .shape ..,_,h,_=>nomatch h
 | .freeze ..,_,h,_=>nomatch h
 | .frozen ..,_,h,_=>nomatch h
 | .getObj ..,_,h,_=>nomatch h
 | .setObj ..,_,h,_=>nomatch h
 | .choose ..,_,h,_=>nomatch h
 | .sys ..,_,h,_=>nomatch h
 | .mark ..,_,h,_=>nomatch h
 | .halt ..,_,h,_=>nomatch h
def TR (ρ:Rho) (nt:Nat) (tm:T AV) (a:Act):Prop:=a.tmps.size=nt∧∀t v,tm.get t=some v→den ρ v (a.tmps.getD t undef)
def ev (tm:T AV):Operand→AV
 | .tmp t=>match tm.get t with|some v=>v|none=> .dead
 | .const v=>AV.of v
 | .global _=> .dead
 | .func f=> .fn f []
variable {P:Program} [Fast P] {ρ ρ':Rho} {nt:Nat} {tm:T AV} {a:Act} {w:World}
theorem TR.mono (h:TR ρ nt tm a) (hr:ρ.le ρ'):TR ρ' nt tm a:=⟨h.1,fun t v e=>zbn hr (h.2 t v e)⟩
theorem TR.ev (h:TR ρ nt tm a) (x:Operand):den ρ (ev tm x) (a.eval x):=by
 cases x with
 |tmp t=>
  simp only [Vx.ev,Act.eval];cases e:tm.get t with
  |none=>simp only [den]
  |some v=>exact h.2 t v e
 |const v=>exact zeU v
 |global g=>simp only [Vx.ev,den]
 |func f=>simp only [Vx.ev,Act.eval,den];exact ⟨[],rfl,by simp only [dens]⟩
theorem TR.put (h:TR ρ nt tm a) {d:Nat} (hd:d<nt) {v:AV} {u:Value} (hv:den ρ v u):TR ρ nt (tm.set d v) (a.put (some d) u):=by
 refine ⟨by simp [Act.put,h.1],fun t x e=>?_⟩
 rw [T.get_put] at e;have hs:=h.1;by_cases ht:t=d
 ·subst ht;rw [if_pos rfl] at e;obtain rfl:=zM8 e;simpa [Act.put,Array.getD_eq_getD_getElem?,Array.getElem?_setIfInBounds,hs,hd] using hv
 ·rw [if_neg ht] at e;have:=h.2 t x e;have htd:¬d=t:=fun e=>ht e.symm;simpa [Act.put,Array.getD_eq_getD_getElem?,Array.getElem?_setIfInBounds,htd] using this
def lits:List AV→Option (List Value)
 |[]=>some []
 | .lit v::l=>match lits l with|some vs=>some (v::vs)|none=>none
 |_::_=>none
def zgV:AV→Option Value
 | .lit v=>some v
 | .agg l=>match lits l with|some vs=>some (.agg vs.toArray)|none=>none
 |_=>none
theorem zn0:∀{l:List AV} {vs us:List Value},lits l=some vs→dens ρ l us→us=vs
 |[],_,_,h,hd=>by simp only [dens] at hd;obtain rfl:=zM8 h;exact hd
 |a::l,vs,us,h,hd=>by
  simp only [dens] at hd;obtain ⟨v,vs',rfl,h1,h2⟩:=hd;cases a with
  |lit u=>
   simp only [lits] at h;cases hl:lits l with
   |none=>rw [hl] at h;cases h
   |some xs=>
    rw [hl] at h;obtain rfl:=zM8 h;simp only [den] at h1;rw [h1,zn0 hl h2]
  |_=>simp [lits] at h
theorem zaU {x:AV} {v u:Value} (h:zgV x=some v) (hd:den ρ x u):u=v:=by
 cases x with
 |lit z=>simp only [zgV] at h;obtain rfl:=zM8 h;simpa only [den] using hd
 |agg l=>
  simp only [zgV] at h;simp only [den] at hd;obtain ⟨vs,rfl,hd⟩:=hd;cases hl:lits l with
  |none=>rw [hl] at h;cases h
  |some xs=>rw [hl] at h;obtain rfl:=zM8 h;rw [zn0 hl hd]
 |_=>simp [zgV] at h
def Yields (P:Program) [Fast P] (ρ:Rho) (o:Oper) (a:Act) (v:AV):Prop:=∀w,∃u,(execOp a.eval o).run P w= .ok (.value u) w∧den ρ v u
def zLb (P:Program) [Fast P] (op:BinOp) (t:TypeId) (x y:Operand) (u v:AV):Option AV:=
 match zgV u,zgV v with
 |some a,some b=>match zbW P (do eqGuard op t x y a b;binOp op t a b) with
  |some r=>some (AV.of r)
  |none=>none
 |_,_=>none
theorem zHl {o:Oper} {op:BinOp} {t yt:TypeId} {x y:Operand} {v:AV} (ho:o.op= .binOp op t x y yt) (h:TR ρ nt tm a) (hb:zLb P op t x y (ev tm x) (ev tm y)=some v):Yields P ρ o a v:=by
 intro w;unfold zLb at hb;cases h1:zgV (ev tm x) with
 |none=>rw [h1] at hb;cases hb
 |some u1=>
  cases h2:zgV (ev tm y) with
  |none=>rw [h1,h2] at hb;cases hb
  |some u2=>
   rw [h1,h2] at hb;simp only at hb;have e1:=zaU h1 (h.ev x);have e2:=zaU h2 (h.ev y);cases hv:zbW P (do eqGuard op t x y u1 u2;binOp op t u1 u2) with
   |none=>rw [hv] at hb;cases hb
   |some r=>
    rw [hv] at hb;obtain rfl:=zM8 hb;refine ⟨r,?_,zeU r⟩;have hr:=z2 hv w;unfold execOp;simp only [ho,e1,e2];simp only [Sem.run_bind] at hr ⊢;rw [hr];rfl
def unA (P:Program) [Fast P] (op:UnOp) (u:AV):Option AV:=
 match zgV u with
 |some a=>match zbW P (Op.unary op a) with
  |some r=>some (AV.of r)
  |none=>none
 |none=>none
theorem zJ6 {o:Oper} {op:UnOp} {t:TypeId} {x:Operand} {v:AV} (ho:o.op= .unOp op t x) (h:TR ρ nt tm a) (hb:unA P op (ev tm x)=some v):Yields P ρ o a v:=by
 intro w;unfold unA at hb;cases h1:zgV (ev tm x) with
 |none=>rw [h1] at hb;cases hb
 |some u1=>
  rw [h1] at hb;have e1:=zaU h1 (h.ev x);cases hv:zbW P (Op.unary op u1) with
  |none=>simp only [hv] at hb;cases hb
  |some r=>
   simp only [hv] at hb;obtain rfl:=zM8 hb;refine ⟨r,?_,zeU r⟩;unfold execOp;simp only [ho,e1,Sem.run_bind,z2 hv w];rfl
def zHw (P:Program) [Fast P] (s t:TypeId) (u:AV):Option AV:=
 match zgV u with
 |some a=>match zbW P (convert s t a) with
  |some r=>some (AV.of r)
  |none=>none
 |none=>none
theorem zFp {o:Oper} {s t:TypeId} {x:Operand} {v:AV} (ho:o.op= .convert s t x) (h:TR ρ nt tm a) (hb:zHw P s t (ev tm x)=some v):Yields P ρ o a v:=by
 intro w;unfold zHw at hb;cases h1:zgV (ev tm x) with
 |none=>rw [h1] at hb;cases hb
 |some u1=>
  rw [h1] at hb;have e1:=zaU h1 (h.ev x);cases hv:zbW P (convert s t u1) with
  |none=>simp only [hv] at hb;cases hb
  |some r=>
   simp only [hv] at hb;obtain rfl:=zM8 hb;refine ⟨r,?_,zeU r⟩;unfold execOp;simp only [ho,e1,Sem.run_bind,z2 hv w];rfl
def zC9 (P:Program) [Fast P] (t:TypeId) (u i:AV):Option AV:=
 match zgV u,zgV i with
 |some a,some b=>match zbW P (Instr.index t a b) with
  |some r=>some (AV.of r)
  |none=>none
 |_,_=>none
theorem zDa {o:Oper} {t:TypeId} {x i:Operand} {v:AV} (ho:o.op= .index t x i) (h:TR ρ nt tm a) (hb:zC9 P t (ev tm x) (ev tm i)=some v):Yields P ρ o a v:=by
 intro w;unfold zC9 at hb;split at hb
 ·rename_i u1 u2 h1 h2;have e1:=zaU h1 (h.ev x);have e2:=zaU h2 (h.ev i);cases hv:zbW P (Instr.index t u1 u2) with
  |none=>simp only [hv] at hb;cases hb
  |some r=>
   simp only [hv] at hb;obtain rfl:=zM8 hb;refine ⟨r,?_,zeU r⟩;unfold execOp;simp only [ho,e1,e2,Sem.run_bind,z2 hv w];rfl
 ·cases hb
theorem zDv {o:Oper} {x:Operand} (ho:o.op= .move x∨o.op= .assign x) (h:TR ρ nt tm a):Yields P ρ o a (ev tm x):=by
 intro w;refine ⟨a.eval x,?_,h.ev x⟩;unfold execOp;rcases ho with ho|ho<;>simp only [ho]<;>rfl
def zy6:AV→Option Bool
 | .lit (.bool b)=>some b
 |_=>none
theorem zAs {x:AV} {b:Bool} {u:Value} (h:zy6 x=some b) (hd:den ρ x u):u= .bool b:=by
 unfold zy6 at h;split at h
 ·obtain rfl:=zM8 h;simpa only [den] using hd
 ·cases h
def zDd:AV→Option (IntKind×Int)
 | .lit (.int k n)=>some (k,n)
 |_=>none
theorem zk7 {x:AV} {k:IntKind} {n:Int} {u:Value} (h:zDd x=some (k,n)) (hd:den ρ x u):u= .int k n:=by
 unfold zDd at h;split at h
 ·obtain ⟨rfl,rfl⟩:=zNb (zM8 h);simpa only [den] using hd
 ·cases h
theorem zDM {o:Oper} {c x y:Operand} {b:Bool} (ho:o.op= .pick c x y) (h:TR ρ nt tm a) (hc:zy6 (ev tm c)=some b):Yields P ρ o a (match b with|true=>ev tm x|false=>ev tm y):=by
 intro w;have e:=zAs hc (h.ev c);cases b with
 |true=>
  refine ⟨a.eval x,?_,h.ev x⟩;unfold execOp;simp only [ho,e];rfl
 |false=>
  refine ⟨a.eval y,?_,h.ev y⟩;unfold execOp;simp only [ho,e];rfl
theorem zAW {o:Oper} {x:Operand} {i:Nat} {l:List AV} {v:AV} (ho:o.op= .extract x i) (h:TR ρ nt tm a) (hx:ev tm x= .tup l) (hi:l[i]? =some v):Yields P ρ o a v:=by
 intro w;have hd:=h.ev x;rw [hx] at hd;simp only [den] at hd;obtain ⟨vs,e,hd⟩:=hd;obtain ⟨u,hu,hdu⟩:=zeX i hd hi;refine ⟨u,?_,hdu⟩;unfold execOp;simp only [ho,e,Instr.extract,List.getElem?_toArray,hu];rfl
theorem zDe {t:TypeId} {d:TypeDesc} (h:P.underlying t=some d) (w:World):(isAgg t).run P w= .ok (match d with| .struct _| .array _ _=>true|_=>false) w:=by
 unfold isAgg;rw [Sem.run_bind,run_underlying h];cases d<;>rfl
def zHh (P:Program) [Fast P] (t:TypeId):Option Bool:=match zeo P t with
 |some (.struct _)|some (.array _ _)=>some true
 |some _=>some false
 |none=>none
theorem zkO {t:TypeId} {b:Bool} (h:zHh P t=some b) (w:World):(isAgg t).run P w= .ok b w:=by
 unfold zHh at h;cases hu:zeo P t with
 |none=>rw [hu] at h;cases h
 |some d=>rw [hu] at h;rw [zDe (zn hu) w];cases d<;>simp_all
def zeg (P:Program) [Fast P] (t:TypeId):Option Nat:=match zd0 P t with|some i=>some i.size|none=>none
theorem znZ {t:TypeId} {i:TypeInfo} (h:P.info? t=some i) (w:World):(typeInfo t).run P w= .ok i w:=by
 simp [typeInfo,Sem.run_bind,h]
theorem zaa {t:TypeId} {n:Nat} (h:zeg P t=some n) (w:World):(sizeOf t).run P w= .ok n w:=by
 unfold zeg at h;cases hi:zd0 P t with
 |none=>rw [hi] at h;cases h
 |some i=>
  rw [hi] at h;obtain rfl:=zM8 h;simp [sizeOf,Sem.run_bind,znZ (zad hi)]
def zDL (P:Program) [Fast P] (t:TypeId) (l:List AV) (off:Nat):Option AV:=
 match zHh P t with
 |some true=>match zeg P t with
  |some n=>some (.agg ((l.drop off).take n))
  |none=>none
 |some false=>l[off]?
 |none=>none
theorem ztH {t:TypeId} {l:List AV} {vs:List Value} {off:Nat} {v:AV} (h:zDL P t l off=some v) (hd:dens ρ l vs) (w:World):∃u,(part t vs.toArray off).run P w= .ok u w∧den ρ v u:=by
 unfold zDL at h;unfold part;cases ha:zHh P t with
 |none=>rw [ha] at h;cases h
 |some b=>
  simp only [Sem.run_bind,zkO ha,Result.andThen_ok];cases b with
  |true=>
   simp only [ha] at h;cases hs:zeg P t with
   |none=>rw [hs] at h;cases h
   |some n=>
    rw [hs] at h;obtain rfl:=zM8 h;simp only [if_true,Sem.run_bind,zaa hs,Result.andThen_ok];refine ⟨_,rfl,?_⟩;simp only [den];refine ⟨(vs.drop off).take n,?_,zcb n (zbA off hd)⟩;simp
  |false=>
   simp only [ha] at h;obtain ⟨u,hu,hdu⟩:=zeX off hd h;refine ⟨u,?_,hdu⟩;simp [hu]
def zCR (P:Program) [Fast P] (t:TypeId) (f:Nat) (x:AV):Option AV:=
 match zeo P t,x with
 |some (.struct fs), .agg l=>match fs[f]? with
  |some fd=>zDL P fd.type l fd.offset
  |none=>none
 |_,_=>none
theorem zCS {o:Oper} {t:TypeId} {x:Operand} {f:Nat} {v:AV} (ho:o.op= .field t x f) (h:TR ρ nt tm a) (hf:zCR P t f (ev tm x)=some v):Yields P ρ o a v:=by
 intro w;have hd:=h.ev x;unfold zCR at hf;split at hf
 ·rename_i fs l hu hx;rw [hx] at hd;simp only [den] at hd;obtain ⟨vs,e,hd⟩:=hd;cases hfd:fs[f]? with
  |none=>rw [hfd] at hf;cases hf
  |some fd=>
   rw [hfd] at hf;obtain ⟨u,hr,hu'⟩:=ztH hf hd w;refine ⟨u,?_,hu'⟩;unfold execOp;simp only [ho,e,Instr.field,asAgg,Sem.run_bind,run_underlying (zn hu),Result.andThen_ok,hfd,Sem.run_pure,hr]
 ·cases hf
def zmk (P:Program) [Fast P] (t:TypeId) (f:Nat) (x:AV):Option AV:=
 match zeo P t,x with
 |some (.struct fs), .ptr b off=>match fs[f]? with
  |some fd=>match zeg P fd.type with
   |some (_+1)=>some (.ptr b (off+fd.offset))
   |_=>none
  |none=>none
 |_,_=>none
theorem zth {o:Oper} {t:TypeId} {x:Operand} {f:Nat} {v:AV} (ho:o.op= .fieldAddr t x f) (h:TR ρ nt tm a) (hf:zmk P t f (ev tm x)=some v):Yields P ρ o a v:=by
 intro w;have hd:=h.ev x;unfold zmk at hf;split at hf
 ·rename_i fs b off hu hx;rw [hx] at hd;simp only [den] at hd;obtain ⟨y,c,hy,e⟩:=hd;cases hfd:fs[f]? with
  |none=>rw [hfd] at hf;cases hf
  |some fd=>
   rw [hfd] at hf;simp only at hf;cases hs:zeg P fd.type with
   |none=>rw [hs] at hf;cases hf
   |some n=>
    cases n with
    |zero=>rw [hs] at hf;cases hf
    |succ n=>
     rw [hs] at hf;obtain rfl:=zM8 hf;refine ⟨.pointer (some ⟨y,off+fd.offset,none⟩),?_,by simp only [den];exact ⟨y,c,hy,rfl⟩⟩
     unfold execOp;simp [ho,e,Instr.fieldAt,Sem.run_bind,run_underlying (zn hu),hfd,Instr.sureAddr,fieldPlace,zaa hs,zaV]
 ·cases hf
def zmo (P:Program) [Fast P] (t:TypeId) (x i:AV):Option AV:=
 match zeo P t,x,zDd i with
 |some (.slice e), .sl b off len _ _,some (_, .ofNat k)=>match Nat.blt k len,zeg P e with
  |true,some s=>some (.ptr b (Nat.add off (Nat.mul k s)))
  |_,_=>none
 |some (.array len e), .ptr b off,some (_, .ofNat k)=>match Nat.blt k len,zeg P e with
  |true,some s=>some (.ptr b (Nat.add off (Nat.mul k s)))
  |_,_=>none
 |_,_,_=>none
theorem ztn {o:Oper} {t:TypeId} {x i:Operand} {v:AV} (ho:o.op= .indexAddr t x i) (h:TR ρ nt tm a) (hf:zmo P t (ev tm x) (ev tm i)=some v):Yields P ρ o a v:=by
 intro w;have hd:=h.ev x;unfold zmo at hf;split at hf
 ·rename_i e b off len c op ik k hu hx hi;rw [hx] at hd;simp only [den] at hd;obtain ⟨y,c',hy,ex,_⟩:=hd;have ei:=zk7 hi (h.ev i);split at hf
  ·rename_i s hb hs;obtain rfl:=zM8 hf;have hk:k<len:=zNc hb;refine ⟨.pointer (some ⟨y,off+k*s,none⟩),?_,by simp only [den];exact ⟨y,c',hy,rfl⟩⟩
   unfold execOp;simp [ho,ex,ei,Instr.indexAt,asIntOf,Sem.run_bind,run_underlying (zn hu),zaa hs,zaV,hk]
  ·cases hf
 ·rename_i len e b off ik k hu hx hi;rw [hx] at hd;simp only [den] at hd;obtain ⟨y,c',hy,ex⟩:=hd;have ei:=zk7 hi (h.ev i);split at hf
  ·rename_i s hb hs;obtain rfl:=zM8 hf;have hk:k<len:=zNc hb;refine ⟨.pointer (some ⟨y,off+k*s,none⟩),?_,by simp only [den];exact ⟨y,c',hy,rfl⟩⟩
   unfold execOp;simp [ho,ex,ei,Instr.indexAt,Instr.sureAddr,asIntOf,Sem.run_bind,run_underlying (zn hu),zaa hs,zaV,hk]
  ·cases hf
 ·cases hf
def zlj:AV→Option AV
 | .ptr b off=>some (.ptr b off)
 | .fn f l=>some (.fn f l)
 | .ep i k p sz x j=>some (.ep i k p sz x j)
 |_=>none
theorem zvE {o:Oper} {x:Operand} {v:AV} (ho:o.op= .nilCheck x) (h:TR ρ nt tm a) (hf:zlj (ev tm x)=some v):Yields P ρ o a v:=by
 intro w;have hd:=h.ev x;refine ⟨a.eval x,?_,?_⟩
 ·unfold zlj at hf;split at hf
  ·rename_i hx;rw [hx] at hd;simp only [den] at hd;obtain ⟨y,c,hy,e⟩:=hd;unfold execOp;simp only [ho,e];rfl
  ·rename_i hx;rw [hx] at hd;simp only [den] at hd;obtain ⟨vs,e,hd⟩:=hd;unfold execOp;simp only [ho,e];rfl
  ·rename_i hx;rw [hx] at hd;simp only [den] at hd;obtain ⟨_,_,_,_,_,_,e⟩:=hd;unfold execOp;simp only [ho,e];rfl
  ·cases hf
 ·have:v=ev tm x:=by
   unfold zlj at hf;split at hf
   ·rename_i hx;rw [hx];exact (zM8 hf).symm
   ·rename_i hx;rw [hx];exact (zM8 hf).symm
   ·rename_i hx;rw [hx];exact (zM8 hf).symm
   ·cases hf
  rw [this];exact hd
theorem zbZ (h:TR ρ nt tm a):∀(xs:List Operand),dens ρ (xs.map (ev tm)) (xs.map a.eval)
 |[]=>by simp [dens]
 |x::xs=>by simp only [List.map_cons,dens];exact ⟨_,_,rfl,h.ev x,zbZ h xs⟩
theorem zx3 {o:Oper} {f:FuncId} {caps:Array Operand} (ho:o.op= .makeFunc (.func f) #[] caps) (h:TR ρ nt tm a):Yields P ρ o a (.fn f (caps.toList.map (ev tm))):=by
 intro w;refine ⟨.func (.func f) #[] (caps.map a.eval),?_,?_⟩
 ·unfold execOp;simp only [ho,Instr.makeFunc,Array.map_empty];rfl
 ·simp only [den];refine ⟨caps.toList.map a.eval,by rw [←Array.toList_map],zbZ h _⟩
theorem zvy {o:Oper} {f:FuncId} {first:Array Operand} (ho:o.op= .makeFunc (.func f) first #[]) (h:TR ρ nt tm a):Yields P ρ o a (.bm f (first.toList.map (ev tm))):=by
 intro w;refine ⟨.func (.func f) (first.map a.eval) #[],?_,?_⟩
 ·unfold execOp;simp only [ho,Instr.makeFunc,Array.map_empty];rfl
 ·simp only [den];refine ⟨first.toList.map a.eval,by rw [←Array.toList_map],zbZ h _⟩
variable {P:Program} [Fast P] {ρ ρ':Rho} {nt:Nat} {tm:T AV} {a:Act} {w:World}
def zje (l:List AV) (off:Nat) (m:List AV):List AV:=l.take off++(m++l.drop (Nat.add off m.length))
def zu2 (place:Nat→Option (Nat×Nat)):List AV→List (Nat×AV)→Option (List AV)
 |cells,[]=>some cells
 |cells,(i,v)::rest=>match place i with
  |none=>none
  |some (off,size)=>match v.flat,Nat.beq v.cells.length size,Nat.ble (Nat.add off v.cells.length) cells.length with
   |true,true,true=>zu2 place (zje cells off v.cells) rest
   |_,_,_=>none
theorem zu4:∀(m:List Value) (k off:Nat) (l:Array Value),off+k+m.length≤l.size→
  (m.zipIdx k).foldl (fun cs (x:Value×Nat)=>cs.setIfInBounds (off+x.2) x.1) l=(l.toList.take (off+k)++(m++l.toList.drop (off+k+m.length))).toArray
 |[],k,off,l,h=>by simp
 |x::m,k,off,l,h=>by
  simp only [List.zipIdx_cons,List.foldl_cons];rw [zu4 m (k+1) off _ (by simp at h ⊢;omega)]
  have e:=list_seg_step l.toList (off+k) x m (by simp at h ⊢;omega)
  simp only [Array.toList_setIfInBounds,List.length_cons];rw [←List.append_assoc, ←Nat.add_assoc off k 1,e,List.append_assoc]
theorem znY {place:Nat→Option (Nat×Nat)}:∀{parts:List (Nat×AV)} {ps:List (Nat×Value)} {cells:List AV} {cs:List Value} {r:List AV},
  dens ρ cells cs→(ps.map Prod.fst=parts.map Prod.fst)→dens ρ (parts.map Prod.snd) (ps.map Prod.snd)→zu2 place cells parts=some r→∃rs:List Value,Instr.fill place cs.toArray ps=some rs.toArray∧dens ρ r rs
 |[],ps,cells,cs,r,hc,hi,hp,h=>by
  obtain rfl:ps=[]:=by simpa using hi
  obtain rfl:=zM8 h;exact ⟨cs,rfl,hc⟩
 |(i,v)::parts,ps,cells,cs,r,hc,hi,hp,h=>by
  cases ps with
  |nil=>simp at hi
  |cons p ps=>
   obtain ⟨j,u⟩:=p;simp only [List.map_cons,List.cons.injEq] at hi;obtain ⟨rfl,hi⟩:=hi;simp only [List.map_cons,dens] at hp;obtain ⟨u',us',he,hv,hp⟩:=hp;obtain ⟨rfl,rfl⟩:=List.cons.inj he;simp only [zu2] at h;cases hpl:place j with
   |none=>rw [hpl] at h;cases h
   |some os=>
    obtain ⟨off,size⟩:=os;rw [hpl] at h;simp only at h;split at h
    ·rename_i hf hs hb;have hs:=zM9 hs;have hb:off+v.cells.length≤cells.length:=zNc hb;obtain ⟨hcv,_⟩:=ziy hv hf;have hl:=zL hcv;have hlc:=zL hc;have hn:dens ρ (zje cells off v.cells) (cs.take off++(u.cells.toList++cs.drop (off+v.cells.length))):=zaq (zcb off hc) (zaq hcv (zbA _ hc));obtain ⟨rs,hr,hd⟩:=znY hn hi hp h;refine ⟨rs,?_,hd⟩;have hsz:u.cells.size=v.cells.length:=by rw [←hl];simp
     simp only [Instr.fill,hpl];rw [if_neg (by simp only [List.size_toArray,Bool.or_eq_true,decide_eq_true_eq,not_or];exact ⟨by omega,by omega⟩)]
     rw [←hr];congr 1;rw [←Array.foldl_toList,Array.toList_zipIdx];rw [zu4 u.cells.toList 0 off cs.toArray (by simp;omega)]
     simp only [Nat.add_zero,Array.length_toList];rw [hsz]
    ·cases h
def zks (P:Program) [Fast P]:List Field→Option (List (Nat×Nat))
 |[]=>some []
 |f::fs=>match zd0 P f.type,zks P fs with
  |some i,some l=>some ((f.offset,i.size)::l)
  |_,_=>none
theorem zrX:∀(fs:List Field) {l:List (Nat×Nat)},zks P fs=some l→fs.mapM (fun f=>(P.info? f.type).map fun i=>(f.offset,i.size))=some l
 |[],l,h=>by simp only [zks] at h;simpa using h
 |f::fs,l,h=>by
  simp only [zks] at h;cases hi:zd0 P f.type with
  |none=>rw [hi] at h;cases h
  |some i=>
   cases hr:zks P fs with
   |none=>rw [hi,hr] at h;cases h
   |some l'=>
    rw [hi,hr] at h;obtain rfl:=zM8 h;simp [List.mapM_cons,zad hi,zrX fs hr]
def znf (P:Program) [Fast P] (t:TypeId):Option (List AV):=match zd0 P t with
 |some i=>match i.zero with
  |some z=>some (z.cells.toList.map AV.lit)
  |none=>none
 |none=>none
def zg5 {α:Type}:List α→Nat→Option α
 |[],_=>none
 |x::l,k=>match Nat.beq k 0 with
  |true=>some x
  |false=>zg5 l (Nat.sub k 1)
theorem zei {α:Type}:∀(l:List α) (k:Nat),zg5 l k=l[k]?
 |[],k=>by simp [zg5]
 |x::l,k=>by
  simp only [zg5];cases k with
  |zero=>simp
  |succ k=>
   rw [zeT (by omega:k+1≠0)]
   simp only;rw [show Nat.sub (k+1) 1=k from rfl,zei l k];simp
def zCq (P:Program) [Fast P] (t:TypeId) (parts:List (Nat×AV)):Option AV:=
 match zeo P t,znf P t with
 |some (.struct fs),some z=>match zks P fs.toList with
  |some pl=>match zu2 (zg5 pl) z parts with
   |some l=>some (.agg l)
   |none=>none
  |none=>none
 |some (.array _ e),some z=>match zeg P e with
  |some s=>match zu2 (fun i=>some (Nat.mul i s,s)) z parts with
   |some l=>some (.agg l)
   |none=>none
  |none=>none
 |_,_=>none
theorem zCr {o:Oper} {t:TypeId} {parts:Array (Nat×Operand)} {v:AV} (ho:o.op= .build t parts) (h:TR ρ nt tm a) (hf:zCq P t (parts.toList.map fun p=>(p.1,ev tm p.2))=some v):Yields P ρ o a v:=by
 intro w;unfold zCq at hf;split at hf
 ·rename_i fs z hu hz;cases hp:zks P fs.toList with
  |none=>rw [hp] at hf;cases hf
  |some pl=>
   rw [hp] at hf;simp only at hf;cases hl:zu2 (zg5 pl) z (parts.toList.map fun p=>(p.1,ev tm p.2)) with
   |none=>rw [hl] at hf;cases hf
   |some l=>
    rw [hl] at hf;obtain rfl:=zM8 hf;unfold znf at hz;cases hi:zd0 P t with
    |none=>rw [hi] at hz;cases hz
    |some i=>
     cases hzz:i.zero with
     |none=>rw [hi] at hz;simp only [hzz] at hz;cases hz
     |some zz=>
      rw [hi] at hz;simp only [hzz] at hz;obtain rfl:=zM8 hz;obtain ⟨rs,hr,hd⟩:=znY (place:=zg5 pl) (ps:=parts.toList.map fun p=>(p.1,a.eval p.2)) (zaE _) (by simp) (by
       simp only [List.map_map];have:=zbZ h (parts.toList.map Prod.snd);simpa [List.map_map,Function.comp_def] using this) hl
      refine ⟨.agg rs.toArray,?_,by simp only [den];exact ⟨rs,rfl,hd⟩⟩
      have hb:P.built t (parts.map fun p=>(p.1,a.eval p.2)).toList=some rs.toArray:=by
       unfold Program.built;rw [(zad hi),(zn hu)];simp only [hzz,zrX _ hp];rw [←hr];have:(fun x=>pl.toArray[x]?)=zg5 pl:=by funext k;simp [zei]
       rw [this];simp
      unfold execOp;simp only [ho,Sem.run_bind,run_build w t _ _ hb,Result.andThen_ok];rfl
 ·rename_i ln e z hu hz;cases hse:zeg P e with
  |none=>rw [hse] at hf;cases hf
  |some s=>
   rw [hse] at hf;simp only at hf;cases hl:zu2 (fun i=>some (Nat.mul i s,s)) z (parts.toList.map fun p=>(p.1,ev tm p.2)) with
   |none=>rw [hl] at hf;cases hf
   |some l=>
    rw [hl] at hf;obtain rfl:=zM8 hf;unfold znf at hz;cases hi:zd0 P t with
    |none=>rw [hi] at hz;cases hz
    |some i=>
     cases hzz:i.zero with
     |none=>rw [hi] at hz;simp only [hzz] at hz;cases hz
     |some zz=>
      rw [hi] at hz;simp only [hzz] at hz;obtain rfl:=zM8 hz;obtain ⟨rs,hr,hd⟩:=znY (place:=fun i=>some (Nat.mul i s,s)) (ps:=parts.toList.map fun p=>(p.1,a.eval p.2)) (zaE _) (by simp) (by
       simp only [List.map_map];have:=zbZ h (parts.toList.map Prod.snd);simpa [List.map_map,Function.comp_def] using this) hl
      refine ⟨.agg rs.toArray,?_,by simp only [den];exact ⟨rs,rfl,hd⟩⟩
      have hb:P.built t (parts.map fun p=>(p.1,a.eval p.2)).toList=some rs.toArray:=by
       unfold zeg at hse;cases hie:zd0 P e with
       |none=>rw [hie] at hse;cases hse
       |some ie=>
        rw [hie] at hse;obtain rfl:=zM8 hse;unfold Program.built;rw [(zad hi),(zn hu)];simp only [hzz,zad hie];rw [←hr];simp
      unfold execOp;simp only [ho,Sem.run_bind,run_build w t _ _ hb,Result.andThen_ok];rfl
 ·cases hf
def zvH (tm:T AV) (d:Nat):Option Operand→Option Nat
 |none=>some d
 |some x=>match zDd (ev tm x) with
  |some (_, .ofNat n)=>some n
  |_=>none
theorem zjC (h:TR ρ nt tm a) {d n y:Nat} {x:Option Operand} {code:BoundsCode} (hx:zvH tm d x=some n) (hy:n≤y) (w:World):
  (x=none∧n=d)∨(∃x' k,x=some x'∧a.eval x'= .int k (n:Int)∧(Instr.sliceBound (a.eval x') y code).run P w= .ok n w):=by
 cases x with
 |none=>exact .inl ⟨rfl,(zM8 hx).symm⟩
 |some x'=>
  unfold zvH at hx;simp only at hx;split at hx
  ·rename_i k m hi;obtain rfl:=zM8 hx;have e:=zk7 hi (h.ev x');refine .inr ⟨x',k,rfl,e,?_⟩;rw [e];simp [Instr.sliceBound,asIntOf,Sem.run_bind,hy]
  ·cases hx
def zza (op:Bool) (len cap:Nat):Nat:=match op with|true=>len|false=>cap
def zEG (P:Program) [Fast P] (tm:T AV) (t:TypeId) (x:AV) (lo hi mx:Option Operand):Option AV:=
 match zeo P t,x with
 |some (.slice e), .sl b off len cap op=>
  match zvH tm 0 lo,zvH tm len hi,zeg P e with
  |some l,some h,some s=>
   match mx with
   |some m=>match hi,zvH tm 0 (some m) with
    |some _,some m=>match Nat.ble l h&&(Nat.ble h m&&Nat.ble m (zza op len cap)) with
     |true=>match Nat.beq m l with
      |true=>some (.sl b off (Nat.sub h l) (Nat.sub m l) false)
      |false=>some (.sl b (Nat.add off (Nat.mul l s)) (Nat.sub h l) (Nat.sub m l) false)
     |false=>none
    |_,_=>none
   |none=>match Nat.ble l h&&Nat.ble h (zza op len cap) with
    |true=>match op with
     |true=>match Nat.beq l 0 with
      |true=>some (.sl b off h cap true)
      |false=>match Nat.blt l h with
       |true=>some (.sl b (Nat.add off (Nat.mul l s)) (Nat.sub h l) (Nat.add cap l) true)
       |false=>some .emp
     |false=>match Nat.beq cap l with
      |true=>some (.sl b off (Nat.sub h l) (Nat.sub cap l) false)
      |false=>some (.sl b (Nat.add off (Nat.mul l s)) (Nat.sub h l) (Nat.sub cap l) false)
    |false=>none
  |_,_,_=>none
 |some _, .lit v=>match mx with
  |some _=>none
  |none=>match lo,hi with
   |none,none=>match zbW P (Instr.sliceAt t v none none none) with|some r=>some (AV.of r)|none=>none
   |some l,none=>match zgV (ev tm l) with
    |some l=>match zbW P (Instr.sliceAt t v (some l) none none) with|some r=>some (AV.of r)|none=>none
    |none=>none
   |none,some h=>match zgV (ev tm h) with
    |some h=>match zbW P (Instr.sliceAt t v none (some h) none) with|some r=>some (AV.of r)|none=>none
    |none=>none
   |some l,some h=>match zgV (ev tm l),zgV (ev tm h) with
    |some l,some h=>match zbW P (Instr.sliceAt t v (some l) (some h) none) with|some r=>some (AV.of r)|none=>none
    |_,_=>none
 |_,_=>none
theorem zDj {op:Bool} {len cap c h:Nat} (h1:len≤(if op then c - cap else cap)) (h2:h≤zza op len cap):h≤(if op then c - cap else cap):=by
 cases op<;>simp only [zza,if_true,Bool.false_eq_true,if_false] at* <;>omega
theorem zEH {o:Oper} {t:TypeId} {x:Operand} {lo hi mx:Option Operand} {v:AV} (ho:o.op= .slice t x lo hi mx) (h:TR ρ nt tm a) (hf:zEG P tm t (ev tm x) lo hi mx=some v):Yields P ρ o a v:=by
 intro w;have hd:=h.ev x;unfold zEG at hf;split at hf
 ·rename_i e b off len cap op hu hx;rw [hx] at hd;simp only [den] at hd;obtain ⟨y,c,hy,ex,hoc,hlen⟩:=hd;split at hf
  ·rename_i l hh s hl hhi hs;have key:∀(m:Nat),l≤hh→hh≤m→(Instr.sliceBounds true len (if op then c.n - cap else cap) (lo.map a.eval) (hi.map a.eval) (mx.map a.eval)).run P w= .ok (l,hh,m) w→
     (execOp a.eval o).run P w= .ok (.value (.slice (some (if m=l then ⟨y,off,none⟩ else ⟨y,off+l*s,none⟩)) (hh - l) (m - l))) w:=by
    intro m _ _ hb;unfold execOp;simp only [ho,ex,Instr.sliceAt,Sem.run_bind,run_underlying (zn hu),Result.andThen_ok,Instr.slice,hb,zaa hs];by_cases hml:m=l
    ·simp [hml]
    ·simp [hml,zaV]
   have low:l≤hh→∀code,(match lo.map a.eval with|some v=>Instr.sliceBound v hh code|none=>pure 0:Sem Nat).run P w= .ok l w:=by
    intro hlh code;rcases zjC (P:=P) (code:=code) h hl hlh w with ⟨rfl,rfl⟩|⟨x',k,rfl,_,hr⟩
    ·rfl
    ·exact hr
   cases mx with
   |some mxo=>
    simp only at hf;split at hf
    ·rename_i hio m hm;split at hf
     ·rename_i bb;simp only [Bool.and_eq_true] at bb;have b1:=zNc bb.1;have b2:=zNc bb.2.1;have b3:=zDj hlen (zNc bb.2.2);have hbounds:(Instr.sliceBounds true len (if op then c.n - cap else cap) (lo.map a.eval) ((some hio).map a.eval) ((some mxo).map a.eval)).run P w= .ok (l,hh,m) w:=by
       rcases zjC (P:=P) (code:= .slice3Acap) h hm b3 w with ⟨hc,_⟩|⟨x1,k1,hx1,_,r1⟩
       ·cases hc
       rcases zjC (P:=P) (code:= .slice3B) h hhi b2 w with ⟨hc,_⟩|⟨x2,k2,hx2,_,r2⟩
       ·cases hc
       obtain rfl:=zM8 hx1;obtain rfl:=zM8 hx2;have r3:=low b1 .slice3C;cases lo with
       |none=>simp [Instr.sliceBounds,Sem.run_bind,r1,r2];simpa using r3
       |some lo=>simp only [Option.map_some] at r3;simp [Instr.sliceBounds,Sem.run_bind,r1,r2,r3]
      have hr:=key m b1 b2 hbounds;split at hf
      ·rename_i hml;obtain rfl:=zM8 hf;have hml:=zM9 hml;rw [if_pos hml] at hr;refine ⟨_,hr,?_⟩;simp only [den,Bool.false_eq_true,if_false];exact ⟨y,c,hy,rfl,fun e=>e.elim,Nat.sub_le_sub_right b2 l⟩
      ·rename_i hml;obtain rfl:=zM8 hf;have hml:=Nat.ne_of_beq_eq_false hml;rw [if_neg hml] at hr;refine ⟨_,hr,?_⟩;simp only [den,Bool.false_eq_true,if_false];exact ⟨y,c,hy,rfl,fun e=>e.elim,Nat.sub_le_sub_right b2 l⟩
     ·cases hf
    ·cases hf
   |none=>
    simp only at hf;have hbounds:l≤hh→hh≤(if op then c.n - cap else cap)→(Instr.sliceBounds true len (if op then c.n - cap else cap) (lo.map a.eval) (hi.map a.eval) ((none:Option Operand).map a.eval)).run P w= .ok (l,hh,(if op then c.n - cap else cap)) w:=by
     intro b1 b2;have r3:=low b1 .sliceB;rcases zjC (P:=P) (code:= .sliceAcap) h hhi b2 w with ⟨rfl,rfl⟩|⟨x2,k2,rfl,_,r2⟩
     ·cases lo with
      |none=>simp [Instr.sliceBounds,Sem.run_bind];simpa using r3
      |some lo=>simp only [Option.map_some] at r3;simp [Instr.sliceBounds,Sem.run_bind,r3]
     ·cases lo with
      |none=>simp [Instr.sliceBounds,Sem.run_bind,r2];simpa using r3
      |some lo=>simp only [Option.map_some] at r3;simp [Instr.sliceBounds,Sem.run_bind,r2,r3]
    split at hf
    ·rename_i bb;simp only [Bool.and_eq_true] at bb;have b1:=zNc bb.1;have b2:=zDj hlen (zNc bb.2);have hr:=key _ b1 b2 (hbounds b1 b2);cases op with
     |true=>
      simp only [if_true] at hr b2 hlen;have hc:=hoc rfl;simp only at hf;split at hf
      ·rename_i b3;have hl0:=zM9 b3;subst hl0;obtain rfl:=zM8 hf;simp only [Nat.zero_mul,Nat.add_zero,ite_self,Nat.sub_zero] at hr;refine ⟨_,hr,?_⟩;simp only [den,if_true];exact ⟨y,c,hy,rfl,fun _=>hc,b2⟩
      ·split at hf
       ·rename_i b4;have b4:l<hh:=zNc b4;obtain rfl:=zM8 hf;rw [if_neg (by omega)] at hr
        refine ⟨_,hr,?_⟩;simp only [den,if_true];refine ⟨y,c,hy,?_,fun _=>?_,?_⟩
        ·rw [show c.n - cap - l=c.n - (Nat.add cap l) from Nat.sub_sub c.n cap l];rfl
        ·show cap+l≤c.n;omega
        ·show hh - l≤c.n - (cap+l);omega
       ·rename_i b4;have b4:¬l<hh:=fun e=>by rw [show Nat.blt l hh=true from Nat.ble_eq_true_of_le e] at b4;cases b4
        obtain rfl:=zM8 hf;refine ⟨_,hr,?_⟩;simp only [den];exact ⟨_,_,by rw [show hh - l=0 by omega]⟩
     |false=>
      simp only [Bool.false_eq_true,if_false] at hr b2 hlen;simp only at hf;split at hf
      ·rename_i hml;obtain rfl:=zM8 hf;have hml:=zM9 hml;rw [if_pos hml] at hr;refine ⟨_,hr,?_⟩;simp only [den,Bool.false_eq_true,if_false];exact ⟨y,c,hy,rfl,fun e=>e.elim,Nat.sub_le_sub_right b2 l⟩
      ·rename_i hml;obtain rfl:=zM8 hf;have hml:=Nat.ne_of_beq_eq_false hml;rw [if_neg hml] at hr;refine ⟨_,hr,?_⟩;simp only [den,Bool.false_eq_true,if_false];exact ⟨y,c,hy,rfl,fun e=>e.elim,Nat.sub_le_sub_right b2 l⟩
    ·cases hf
  ·cases hf
 ·rename_i d vl hu hx;rw [hx] at hd;simp only [den] at hd;have fin:∀{r:Value} {l h':Option Value},lo.map a.eval=l→hi.map a.eval=h'→mx=none→zbW P (Instr.sliceAt t vl l h' none)=some r→∃u,(execOp a.eval o).run P w= .ok (.value u) w∧den ρ (AV.of r) u:=by
   intro r l h' e1 e2 e3 hv;subst e3;refine ⟨r,?_,zeU r⟩;unfold execOp;simp only [ho,hd,e1,e2,Option.map_none,Sem.run_bind,z2 hv w];rfl
  cases mx with
  |some _=>cases hf
  |none=>
   simp only at hf;cases lo with
   |none=>
    cases hi with
    |none=>
     simp only at hf;split at hf
     ·rename_i r hv;obtain rfl:=zM8 hf;exact fin rfl rfl rfl hv
     ·cases hf
    |some hi=>
     simp only at hf;split at hf
     ·rename_i hv' hl;split at hf
      ·rename_i r hv;obtain rfl:=zM8 hf;exact fin rfl (by rw [Option.map_some,zaU hl (h.ev hi)]) rfl hv
      ·cases hf
     ·cases hf
   |some lo=>
    cases hi with
    |none=>
     simp only at hf;split at hf
     ·rename_i hv' hl;split at hf
      ·rename_i r hv;obtain rfl:=zM8 hf;exact fin (by rw [Option.map_some,zaU hl (h.ev lo)]) rfl rfl hv
      ·cases hf
     ·cases hf
    |some hi=>
     simp only at hf;split at hf
     ·rename_i lv' hv' hl1 hl2;split at hf
      ·rename_i r hv;obtain rfl:=zM8 hf;exact fin (by rw [Option.map_some,zaU hl1 (h.ev lo)]) (by rw [Option.map_some,zaU hl2 (h.ev hi)]) rfl hv
      ·cases hf
     ·cases hf
 ·cases hf
def zrQ:TypeDesc→AV→AV→Bool
 | .pointer _, .ptr .., .lit (.pointer none)=>true
 | .pointer _, .ep .., .lit (.pointer none)=>true
 | .slice _, .sl .., .lit (.slice none _ _)=>true
 | .func _ _ _, .fn .., .lit .nilFunc=>true
 |_,_,_=>false
def zx7 (P:Program) [Fast P] (op:BinOp) (t:TypeId) (u v:AV):Option AV:=
 match zeo P t with
 |some d=>match zrQ d u v||zrQ d v u,op with
  |true, .eql=>some (.lit (.bool false))
  |true, .neq=>some (.lit (.bool true))
  |_,_=>none
 |none=>none
theorem zgj (t:TypeId) (x y:Value):Op.equal t x y=Op.equalIn ((Op.maxDepth - 1)+1) t x y:=rfl
theorem zrR {d:TypeDesc} {t:TypeId} {u v:AV} {x y:Value} (hu:P.underlying t=some d) (hf:zrQ d u v=true) (hx:den ρ u x) (hy:den ρ v y) (w:World):
  ((Op.equal t x y).run P w= .ok false w∧(Op.equal t y x).run P w= .ok false w)∧(∀op,op= .eql∨op= .neq→(∀e f,(eqGuard op t e f x y).run P w= .ok () w)∧(∀e f,(eqGuard op t e f y x).run P w= .ok () w))∧(∀op,op= .eql∨op= .neq→binOp op t x y=(if op= .eql then (do pure (.bool (←Op.equal t x y))) else (do pure (.bool (!(←Op.equal t x y)))))∧binOp op t y x=(if op= .eql then (do pure (.bool (←Op.equal t y x))) else (do pure (.bool (!(←Op.equal t y x)))))):=by
 unfold zrQ at hf;split at hf
 ·simp only [den] at hx hy;obtain ⟨z,c,_,rfl⟩:=hx;subst hy;refine ⟨⟨?_,?_⟩,fun op ho=>⟨?_,?_⟩,fun op ho=>?_⟩
  ·rw [zgj];simp only [Op.equalIn,Sem.run_bind,run_underlying hu,Result.andThen_ok];rfl
  ·rw [zgj];simp only [Op.equalIn,Sem.run_bind,run_underlying hu,Result.andThen_ok];rfl
  ·intro e f;rcases ho with rfl|rfl<;>simp [eqGuard]
  ·intro e f;rcases ho with rfl|rfl<;>simp [eqGuard]
  ·rcases ho with rfl|rfl<;>exact ⟨rfl,rfl⟩
 ·simp only [den] at hx hy;obtain ⟨_,_,_,_,_,_,rfl⟩:=hx;subst hy;refine ⟨⟨?_,?_⟩,fun op ho=>⟨?_,?_⟩,fun op ho=>?_⟩
  ·rw [zgj];simp only [Op.equalIn,Sem.run_bind,run_underlying hu,Result.andThen_ok];rfl
  ·rw [zgj];simp only [Op.equalIn,Sem.run_bind,run_underlying hu,Result.andThen_ok];rfl
  ·intro e f;rcases ho with rfl|rfl<;>simp [eqGuard]
  ·intro e f;rcases ho with rfl|rfl<;>simp [eqGuard]
  ·rcases ho with rfl|rfl<;>exact ⟨rfl,rfl⟩
 ·simp only [den] at hx hy;obtain ⟨z,c,_,rfl,_⟩:=hx;subst hy;refine ⟨⟨?_,?_⟩,fun op ho=>⟨?_,?_⟩,fun op ho=>?_⟩
  ·rw [zgj];simp only [Op.equalIn,Sem.run_bind,run_underlying hu,Result.andThen_ok];rfl
  ·rw [zgj];simp only [Op.equalIn,Sem.run_bind,run_underlying hu,Result.andThen_ok];rfl
  ·intro e f;rcases ho with rfl|rfl<;>simp [eqGuard]
  ·intro e f;rcases ho with rfl|rfl<;>simp [eqGuard]
  ·rcases ho with rfl|rfl<;>exact ⟨rfl,rfl⟩
 ·simp only [den] at hx hy;obtain ⟨vs,rfl,_⟩:=hx;subst hy;refine ⟨⟨?_,?_⟩,fun op ho=>⟨?_,?_⟩,fun op ho=>?_⟩
  ·rw [zgj];simp only [Op.equalIn,Sem.run_bind,run_underlying hu,Result.andThen_ok];rfl
  ·rw [zgj];simp only [Op.equalIn,Sem.run_bind,run_underlying hu,Result.andThen_ok];rfl
  ·intro e f;rcases ho with rfl|rfl<;>simp [eqGuard]
  ·intro e f;rcases ho with rfl|rfl<;>simp [eqGuard]
  ·rcases ho with rfl|rfl<;>exact ⟨rfl,rfl⟩
 ·cases hf
theorem zBc {o:Oper} {op:BinOp} {t yt:TypeId} {x y:Operand} {v:AV} (ho:o.op= .binOp op t x y yt) (h:TR ρ nt tm a) (hb:zx7 P op t (ev tm x) (ev tm y)=some v):Yields P ρ o a v:=by
 intro w;unfold zx7 at hb;cases hu:zeo P t with
 |none=>rw [hu] at hb;cases hb
 |some d=>
  rw [hu] at hb;simp only at hb;have main:∀b:Bool,(op= .eql∧b=false∨op= .neq∧b=true)→(zrQ d (ev tm x) (ev tm y)||zrQ d (ev tm y) (ev tm x))=true→∃u,(execOp a.eval o).run P w= .ok (.value u) w∧den ρ (.lit (.bool b)) u:=by
   intro b hob hf;refine ⟨.bool b,?_,by simp only [den]⟩
   have hop:op= .eql∨op= .neq:=hob.imp (·.1) (·.1)
   rcases Bool.or_eq_true _ _ |>.mp hf with hf|hf
   ·obtain ⟨⟨he,_⟩,hg,hbn⟩:=zrR (zn hu) hf (h.ev x) (h.ev y) w;unfold execOp;simp only [ho,Sem.run_bind,(hg op hop).1 x y,Result.andThen_ok,(hbn op hop).1];rcases hob with ⟨rfl,rfl⟩|⟨rfl,rfl⟩<;>simp [Sem.run_bind,he]
   ·obtain ⟨⟨_,he⟩,hg,hbn⟩:=zrR (zn hu) hf (h.ev y) (h.ev x) w;unfold execOp;simp only [ho,Sem.run_bind,(hg op hop).2 x y,Result.andThen_ok,(hbn op hop).2];rcases hob with ⟨rfl,rfl⟩|⟨rfl,rfl⟩<;>simp [Sem.run_bind,he]
  split at hb
  ·rename_i hf;obtain rfl:=zM8 hb;exact main false (.inl ⟨rfl,rfl⟩) hf
  ·rename_i hf;obtain rfl:=zM8 hb;exact main true (.inr ⟨rfl,rfl⟩) hf
  ·cases hb
def zs4 (P:Program) [Fast P] (b:Builtin) (ts:Array TypeId) (ty:TypeId) (args:List AV):Option AV:=
 match b,ts[0]?,args with
 | .len,some t,[.sl _ _ len _ _]=>match zeo P t with
   |some (.slice _)=>some (.lit (.int .i64 (Int.ofNat len)))
   |_=>none
 | .len,some t,[.emp]=>match zeo P t with
   |some (.slice _)=>some (.lit (.int .i64 (Int.ofNat 0)))
   |_=>none
 | .cap,some t,[.sl _ _ _ cap false]=>match zeo P t with
   |some (.slice _)=>some (.lit (.int .i64 (Int.ofNat cap)))
   |_=>none
 | .len,some _,[.lit v]=>match zbW P (Builtin.len_ ts ty #[v]) with|some r=>some (AV.of r)|none=>none
 | .cap,some _,[.lit v]=>match zbW P (Builtin.cap_ ts ty #[v]) with|some r=>some (AV.of r)|none=>none
 | .min,some _,l=>match lits l with
   |some vs=>match zbW P (Builtin.min_ ts ty vs.toArray) with|some r=>some (AV.of r)|none=>none
   |none=>none
 | .max,some _,l=>match lits l with
   |some vs=>match zbW P (Builtin.max_ ts ty vs.toArray) with|some r=>some (AV.of r)|none=>none
   |none=>none
 |_,_,_=>none
theorem zxB {o:Oper} {b:Builtin} {args:Array Operand} {ts:Array TypeId} {v:AV} (ho:o.op= .call {callee:= .builtin b,args:=args,argTypes:=ts}) (h:TR ρ nt tm a) (hf:zs4 P b ts o.type (args.toList.map (ev tm))=some v):Yields P ρ o a v:=by
 intro w;have hd:=zbZ h args.toList;have hex:∀(consts:Array Bool),(execOp a.eval o).run P w=(builtin b ts o.type (args.map fun| .const _=>true|_=>false) (args.map a.eval)).run P w:=by
  intro _;unfold execOp;simp only [ho,resolve,Sem.run_bind,Sem.run_pure,Result.andThen_ok,invoke];rfl
 rw [hex #[]];have hargs:args.map a.eval=(args.toList.map a.eval).toArray:=by rw [←Array.toList_map]
 rw [hargs];generalize args.toList.map a.eval=vs at hd;generalize args.toList.map (ev tm)=l at hd hf;generalize (args.map fun| .const _=>true|_=>false)=cs
 unfold zs4 at hf;split at hf
 ·rename_i t x off len cap op ht;simp only [dens,den] at hd;obtain ⟨v1,vs',rfl,⟨y,c,hy,rfl,_⟩,rfl⟩:=hd;split at hf
  ·rename_i e hu;obtain rfl:=zM8 hf;refine ⟨.int .i64 len,?_,by simp only [den];rfl⟩
   simp [builtin,Builtin.len_,ht,Sem.run_bind,run_underlying (zn hu),goInt]
  ·cases hf
 ·rename_i t ht;simp only [dens,den] at hd;obtain ⟨v1,vs',rfl,⟨A,c,rfl⟩,rfl⟩:=hd;split at hf
  ·rename_i e hu;obtain rfl:=zM8 hf;refine ⟨.int .i64 0,?_,by simp only [den];rfl⟩
   simp [builtin,Builtin.len_,ht,Sem.run_bind,run_underlying (zn hu),goInt]
  ·cases hf
 ·rename_i t x off len cap ht;simp only [dens,den] at hd;obtain ⟨v1,vs',rfl,⟨y,c,hy,rfl,_⟩,rfl⟩:=hd;split at hf
  ·rename_i e hu;obtain rfl:=zM8 hf;refine ⟨.int .i64 cap,?_,by simp only [den];rfl⟩
   simp [builtin,Builtin.cap_,ht,Sem.run_bind,run_underlying (zn hu),goInt]
  ·cases hf
 ·rename_i t v1 ht;simp only [dens,den] at hd;obtain ⟨v2,vs',rfl,rfl,rfl⟩:=hd;split at hf
  ·rename_i r hv;obtain rfl:=zM8 hf;refine ⟨r,?_,zeU r⟩;simp only [builtin,Sem.run_bind,z2 hv w];rfl
  ·cases hf
 ·rename_i t v1 ht;simp only [dens,den] at hd;obtain ⟨v2,vs',rfl,rfl,rfl⟩:=hd;split at hf
  ·rename_i r hv;obtain rfl:=zM8 hf;refine ⟨r,?_,zeU r⟩;simp only [builtin,Sem.run_bind,z2 hv w];rfl
  ·cases hf
 ·rename_i t ht;split at hf
  ·rename_i us hl;obtain rfl:=zn0 hl hd;split at hf
   ·rename_i r hv;obtain rfl:=zM8 hf;refine ⟨r,?_,zeU r⟩;simp only [builtin,Sem.run_bind,z2 hv w];rfl
   ·cases hf
  ·cases hf
 ·rename_i t ht;split at hf
  ·rename_i us hl;obtain rfl:=zn0 hl hd;split at hf
   ·rename_i r hv;obtain rfl:=zM8 hf;refine ⟨r,?_,zeU r⟩;simp only [builtin,Sem.run_bind,z2 hv w];rfl
   ·cases hf
  ·cases hf
 ·cases hf
variable {P:Program} [Fast P] {ρ ρ':Rho} {nt:Nat} {tm:T AV} {a:Act} {w w0 w':World} {K:KS} {st st':St}
theorem znU {x:Nat} {c:Cap} {bk:Bk} (h:CellsR ρ w x c bk) {off n:Nat} (hn:off+n≤bk.cells.length):
  ∃us,dens ρ ((bk.cells.drop off).take n) us∧us.length=n∧(∀u∈us,u.oneCell'=true)∧∀j u,us[j]? =some u→w.cell? ((⟨x,off,none⟩:Addr).add j)=some u:=by
 obtain ⟨vs,rest,h1,h2,h3,h4,h5⟩:=h;have hl:=zL h1;refine ⟨(vs.drop off).take n,zcb n (zbA off h1),by simp;omega,fun u hu=>h3 u (List.mem_of_mem_drop (List.mem_of_mem_take hu)),fun j u hj=>?_⟩
 rw [List.getElem?_take] at hj;split at hj
 ·rw [List.getElem?_drop] at hj;rw [zaV,h2.cell];rw [List.getElem?_toArray,zNh (by have:=(zNa.1 hj).1;omega)]
  exact hj
 ·cases hj
def zDp (P:Program) [Fast P] (t:TypeId) (x:AV) (st:St):Option AV:=
 match x with
 | .ptr b off=>match zk4 st.h b with
   |some bk=>match zHh P t with
    |some true=>match zeg P t with
     |some n=>match Nat.ble (Nat.add off n) bk.cells.length with
      |true=>some (.agg ((bk.cells.drop off).take n))
      |false=>none
     |none=>none
    |some false=>zg5 bk.cells off
    |none=>none
   |none=>none
 |_=>none
theorem zrK {t:TypeId} {z:AV} {v:AV} {uz:Value} (hd:den ρ z uz) (hs:Sim K w0 ρ st w) (hf:zDp P t z st=some v):
  ∃u y,uz= .pointer (some y)∧(loadVar t y).run P w= .ok u w∧den ρ v u:=by
 unfold zDp at hf;split at hf
 ·rename_i b off;simp only [den] at hd;obtain ⟨y,c,hy,e⟩:=hd;cases hb:zk4 st.h b with
  |none=>rw [hb] at hf;cases hf
  |some bk=>
   rw [hb] at hf;simp only at hf;obtain ⟨y',c',hy',hbk,_⟩:=hs.blkC hb;rw [hy] at hy';obtain ⟨rfl,rfl⟩:=zNb (zM8 hy');cases ha:zHh P t with
   |none=>rw [ha] at hf;cases hf
   |some g=>
    rw [ha] at hf;cases g with
    |true=>
     simp only at hf;cases hz:zeg P t with
     |none=>rw [hz] at hf;cases hf
     |some n=>
      rw [hz] at hf;simp only at hf;split at hf
      ·rename_i hle;obtain rfl:=zM8 hf;obtain ⟨us,hdu,hul,_,hc⟩:=znU hbk (zNc hle);refine ⟨.agg us.toArray,_,e,?_,by simp only [den];exact ⟨us,rfl,hdu⟩⟩
       have hr:=run_loadCells_list (P:=P) w ⟨y,off,none⟩ us hc;rw [hul] at hr;simp [Sem.run_bind,loadVar,zkO ha,zaa hz,hr]
      ·cases hf
    |false=>
     simp only at hf;rw [zei] at hf;obtain ⟨vs,rest,h1,h2,h3,_⟩:=hbk;obtain ⟨u,hu,hdu⟩:=zeX off h1 hf;refine ⟨u,_,e,?_,hdu⟩;have hc:w.cell? ⟨y,off,none⟩=some u:=by
      rw [h2.cell,List.getElem?_toArray,zNh (zNa.1 hu).1];exact hu
     simp [Sem.run_bind,loadVar,zkO ha,run_load,hc]
 ·cases hf
theorem zF4 {o:Oper} {t:TypeId} {x:Operand} {v:AV} (ho:o.op= .load t x) (h:TR ρ nt tm a) (hs:Sim K w0 ρ st w) (hf:zDp P t (ev tm x) st=some v):
  ∃u,(execOp a.eval o).run P w= .ok (.value u) w∧den ρ v u:=by
 obtain ⟨u,y,e,hr,hd⟩:=zrK (P:=P) (h.ev x) hs hf;refine ⟨u,?_,hd⟩;unfold execOp;simp [ho,e,Instr.loadAt,Instr.sureAddr,Sem.run_bind,hr]
theorem zwz (w:World) (g k:Nat) (cs:Array Value) (h:k≠g):(w.setRow g cs).heap[k]? =w.heap[k]? :=by
 unfold World.setRow;simp only [Array.getElem?_modify];rw [if_neg (fun e=>h e.symm)]
theorem Kp.setRow (w:World) (g:Nat) (cs:Array Value):Kp (fun b=>b<w.heap.size∧b≠g) w (w.setRow g cs):=
 ⟨rfl,rfl,rfl,by simp [World.setRow],fun k hk=>zwz w g k cs hk.2⟩
theorem Sim.cells {b off x:Nat} {c:Cap} {bk:Bk} {l:List AV} {us:List Value} (hs:Sim K w0 ρ st w) (hb:zk4 st.h b=some bk) (hl:st.wr b=true) (hx:ρ b=some (x,c)) (hd:dens ρ l us) (h1:∀u∈us,u.oneCell'=true) (hn:off+l.length≤bk.cells.length):
  ∃w',(storeCells ⟨x,off,none⟩ us).run P w= .ok () w'∧Sim K w0 ρ ⟨st.h.set b ⟨bk.ty,zje bk.cells off l,bk.op⟩,st.n,st.wr⟩ w':=by
 obtain ⟨x',c',hx',hbk,_⟩:=hs.blkC hb;rw [hx] at hx';obtain ⟨rfl,rfl⟩:=zNb (zM8 hx');obtain ⟨vs,rest,h2,h3,h4,h5,h6⟩:=hbk;have hlv:=zL h2;have hlu:=zL hd;have hr:=zcs P x off bk.ty us 0 (vs++rest).toArray w h3 (by simp;omega) h1
 simp only [Nat.add_zero] at hr;have e:((vs++rest).toArray.toList.take off++us++(vs++rest).toArray.toList.drop (off+us.length))=(vs.take off++(us++vs.drop (off+l.length)))++rest:=by
  simp only [List.toList_toArray];rw [List.take_append_of_le_length (by omega),List.drop_append_of_le_length (by omega),hlu]
  simp [List.append_assoc]
 rw [e] at hr;refine ⟨_,hr,hs.write b (za5 hb).1 hl hx (.inl (za5 hb).2) _ _ (Kp.setRow w x _) fun S=>⟨fun _=>⟨fun _=>Iff.rfl,?_⟩,fun e=>absurd e (za5 hb).2⟩⟩;refine ⟨vs.take off++(us++vs.drop (off+l.length)),rest,?_,?_,?_,h5,fun s hs'=>?_⟩
 ·exact zaq (zcb off h2) (zaq hd (zbA _ h2))
 ·exact h3.setRow _ (by simp;omega)
 ·intro v hv;rcases List.mem_append.1 hv with hv|hv
  ·exact h4 v (List.mem_of_mem_take hv)
  ·rcases List.mem_append.1 hv with hv|hv
   ·exact h1 v hv
   ·exact h4 v (List.mem_of_mem_drop hv)
 ·rw [←h6 s hs'];simp only [zNo,List.length_take,List.length_drop];omega
def zwR (P:Program) [Fast P] (t:TypeId) (x v:AV) (st:St):Option St:=
 match x with
 | .ptr b off=>match zk4 st.h b,zeg P t with
   |some bk,some n=>match st.wr b&&(v.flat&&(Nat.beq v.cells.length n&&Nat.ble (Nat.add off v.cells.length) bk.cells.length)) with
    |true=>some ⟨st.h.set b ⟨bk.ty,zje bk.cells off v.cells,bk.op⟩,st.n,st.wr⟩
    |false=>none
   |_,_=>none
 |_=>none
theorem zEO {o:Oper} {t:TypeId} {x y:Operand} (ho:o.op= .store t x y) (h:TR ρ nt tm a) (hs:Sim K w0 ρ st w) (hf:zwR P t (ev tm x) (ev tm y) st=some st'):
  ∃w',(execOp a.eval o).run P w= .ok .skip w'∧Sim K w0 ρ st' w':=by
 have hd:=h.ev x;have hv:=h.ev y;unfold zwR at hf;split at hf
 ·rename_i b off hx;rw [hx] at hd;simp only [den] at hd;obtain ⟨z,c,hz,e⟩:=hd;split at hf
  ·rename_i bk n hb hn;split at hf
   ·rename_i hc;simp only [Bool.and_eq_true] at hc;obtain ⟨c1,c2,c3,c4⟩:=hc;have c3:=zM9 c3;obtain rfl:=zM8 hf;obtain ⟨hdc,h1⟩:=ziy hv c2;obtain ⟨w',hr,hsim⟩:=hs.cells (P:=P) hb c1 hz hdc h1 (zNc c4);refine ⟨w',?_,hsim⟩;have hl:=zL hdc;have hsz:(a.eval y).cells.size=n:=by rw [←c3, ←hl];simp
    unfold execOp;simp [ho,e,Instr.storeAt,Instr.sureAddr,Sem.run_bind,storeVar,zaa hn,hsz,hr]
   ·cases hf
  ·cases hf
 ·cases hf
theorem zuq {ρ:Rho} {n:Nat} {x:Nat×Cap}:(ρ.up n x) n=some x:=by simp [Rho.up]
def zB8 (ty:TypeId) (cells:List AV) (op:Option Nat) (st:St):St:=⟨st.h.set st.n ⟨ty,cells,op⟩,st.n+1,st.wr⟩
def zy1 (P:Program) [Fast P] (t:TypeId) (st:St):Option (AV×St):=match znf P t with
 |some z=>match z.all AV.one with
  |true=>some (.ptr st.n 0,zB8 t z none st)
  |false=>none
 |none=>none
theorem zCj {o:Oper} {t:TypeId} {v:AV} (ho:o.op= .alloc t) (hs:Sim K w0 ρ st w) (hf:zy1 P t st=some (v,st')):
  ∃u w' ρ',(execOp a.eval o).run P w= .ok (.value u) w'∧Ext st.n st'.n ρ ρ'∧Sim K w0 ρ' st' w'∧den ρ' v u:=by
 unfold zy1 znf at hf;cases hi:zd0 P t with
 |none=>rw [hi] at hf;cases hf
 |some i=>
  cases hz:i.zero with
  |none=>rw [hi] at hf;simp only [hz] at hf;cases hf
  |some z=>
   rw [hi] at hf;simp only [hz] at hf;split at hf
   ·rename_i h1;obtain ⟨rfl,rfl⟩:=zNb (zM8 hf);obtain ⟨h2,hle⟩:=hs.alloc t (z.cells.toList.map AV.lit) none (by simp) 0 z.cells.toList [] (zaE _) (zhH (zaE (ρ:=ρ) _) h1) (fun _=>rfl) (fun s hs=>nomatch hs)
    refine ⟨.pointer (some ⟨w.heap.size,0,none⟩),_,_,?_,hle,h2,?_⟩
    ·unfold execOp;simp [ho,Instr.alloc,Sem.run_bind,zeroValue,znZ (zad hi),hz,newVar,newRow]
    ·simp only [den];exact ⟨_,_,zuq,rfl⟩
   ·cases hf
def zKf (t:TypeId) (v:AV) (st:St):Option (AV×St):=match v.flat with
 |true=>some (.ptr st.n 0,zB8 t v.cells none st)
 |false=>none
theorem zHp {o:Oper} {t:TypeId} {x:Operand} {v:AV} (ho:o.op= .box t x) (h:TR ρ nt tm a) (hs:Sim K w0 ρ st w) (hf:zKf t (ev tm x) st=some (v,st')):
  ∃u w' ρ',(execOp a.eval o).run P w= .ok (.value u) w'∧Ext st.n st'.n ρ ρ'∧Sim K w0 ρ' st' w'∧den ρ' v u:=by
 unfold zKf at hf;split at hf
 ·rename_i hfl;obtain ⟨rfl,rfl⟩:=zNb (zM8 hf);obtain ⟨hd,h1⟩:=ziy (h.ev x) hfl;obtain ⟨h2,hle⟩:=hs.alloc t (ev tm x).cells none (by simp) 0 (a.eval x).cells.toList [] hd h1 (fun _=>rfl) (fun s hs=>nomatch hs)
  refine ⟨.pointer (some ⟨w.heap.size,0,none⟩),_,_,?_,hle,h2,?_⟩
  ·unfold execOp;simp [ho,Instr.box,Sem.run_bind,newVar,newRow]
  ·simp only [den];exact ⟨_,_,zuq,rfl⟩
 ·cases hf
def zCa (z:List AV):Nat→List AV
 |0=>[]
 |n+1=>z++zCa z n
theorem zkq (z:List Value):∀n,(madeCells z.toArray (n*z.length)).toList=(List.replicate n z).flatten
 |0=>by simp [madeCells]
 |n+1=>by
  have ih:=zkq z n;rw [List.replicate_succ',List.flatten_append, ←ih];simp only [madeCells,Array.toList_map,Array.toList_range,List.size_toArray,List.flatten_cons,List.flatten_nil,List.append_nil];rw [Nat.succ_mul,List.range_add,List.map_append];congr 1;rcases zNl z.length with h0|h0
  ·have:z=[]:=List.eq_nil_of_length_eq_zero h0;subst this;simp
  ·rw [List.map_map];apply List.ext_getElem?;intro j;simp only [List.getElem?_map,List.getElem?_range',Function.comp_def];rcases Nat.lt_or_ge j z.length with hj|hj
   ·rw [List.getElem?_range hj];simp only [Option.map_some];rw [Nat.mul_comm n,Nat.mul_add_mod,Nat.mod_eq_of_lt hj];simp [hj]
   ·rw [List.getElem?_eq_none (by simpa using hj),List.getElem?_eq_none hj]
    rfl
theorem zlK {z:List AV} {zs:List Value} (h:dens ρ z zs):∀n,dens ρ (zCa z n) (List.replicate n zs).flatten
 |0=>by simp [zCa,dens]
 |n+1=>by simp only [zCa,List.replicate_succ,List.flatten_cons];exact zaq h (zlK h n)
def zhF (P:Program) [Fast P] (t:TypeId) (len:Nat) (parts:List (Nat×AV)) (st:St):Option (AV×St):=
 match zeo P t with
 |some (.slice e)=>match zeg P e,znf P e with
  |some s,some z=>match Nat.ble (Nat.mul len s) 16777216&&(Nat.beq z.length s&&Nat.blt 0 s) with
   |true=>match zu2 (fun i=>some (Nat.mul i s,s)) (zCa z len) parts with
    |some l=>match l.all AV.one with
     |true=>some (.sl st.n 0 len len false,zB8 e l none st)
     |false=>none
    |none=>none
   |false=>none
  |_,_=>none
 |_=>none
theorem zqM {o:Oper} {t:TypeId} {len:Nat} {parts:Array (Nat×Operand)} {v:AV} (ho:o.op= .buildSlice t len parts) (h:TR ρ nt tm a) (hs:Sim K w0 ρ st w) (hf:zhF P t len (parts.toList.map fun p=>(p.1,ev tm p.2)) st=some (v,st')):
  ∃u w' ρ',(execOp a.eval o).run P w= .ok (.value u) w'∧Ext st.n st'.n ρ ρ'∧Sim K w0 ρ' st' w'∧den ρ' v u:=by
 unfold zhF at hf;split at hf
 ·rename_i e hu;split at hf
  ·rename_i s z hsz hz;split at hf
   ·rename_i hc;simp only [Bool.and_eq_true] at hc;obtain ⟨c1,c2,c3⟩:=hc;have c1:len*s≤16777216:=zNc c1;have c2:=zM9 c2;have c3:0<s:=zNc c3;split at hf
    ·rename_i l hl;split at hf
     ·rename_i h1;obtain ⟨rfl,rfl⟩:=zNb (zM8 hf);unfold znf at hz;cases hi:zd0 P e with
      |none=>rw [hi] at hz;cases hz
      |some i=>
       cases hzz:i.zero with
       |none=>rw [hi] at hz;simp only [hzz] at hz;cases hz
       |some zz=>
        rw [hi] at hz;simp only [hzz] at hz;obtain rfl:=zM8 hz;simp only [List.length_map,Array.length_toList] at c2;obtain ⟨rs,hr,hd⟩:=znY (ρ:=ρ) (place:=fun i=>some (Nat.mul i s,s)) (ps:=parts.toList.map fun p=>(p.1,a.eval p.2)) (zlK (zaE zz.cells.toList) len) (by simp) (by
         simp only [List.map_map];have:=zbZ h (parts.toList.map Prod.snd);simpa [List.map_map,Function.comp_def] using this) hl
        obtain ⟨h2,hle⟩:=hs.alloc e l none (by simp) 0 rs [] hd (zhH hd h1) (fun _=>rfl) (fun s hs=>nomatch hs)
        refine ⟨.slice (some ⟨w.heap.size,0,none⟩) len len,_,_,?_,hle,h2,?_⟩
        ·have hm:(List.replicate len zz.cells.toList).flatten.toArray=(if len*s=0 then (#[]:Array Value).map id else Array.map (fun x=>zz.cells[x%zz.cells.size]!) (Array.range (len*s))):=by
          have:=zkq zz.cells.toList len;apply Array.ext';rw [List.toList_toArray, ←this];split
          ·rename_i h0;have:len=0:=by
            rcases Nat.mul_eq_zero.1 h0 with h|h
            ·exact h
            ·omega
           subst this;simp [madeCells]
          ·simp [madeCells,c2]
         have e1:¬(16777216<len*s):=by omega
         unfold execOp;by_cases h0:len*s=0
         ·have hr0:Instr.fill (fun i=>some (Nat.mul i s,s)) (Array.map (fun x=>(#[]:Array Value)[x%(#[]:Array Value).size]!) (Array.range (len*s))) (parts.toList.map fun p=>(p.1,a.eval p.2))=some rs.toArray:=by
           rw [←hr,hm,if_pos h0,h0];simp [Array.range_zero']
          simp only [ho,Instr.buildSlice,Sem.run_bind,run_underlying (zn hu),Result.andThen_ok,zaa hsz];rw [if_neg e1,if_pos h0];simp only [Sem.run_bind,Sem.run_pure,Result.andThen_ok,Array.toList_map];have hr0':=hr0;simp only [Nat.mul_eq] at hr0';rw [hr0'];simp [newRow]
         ·have hr0:Instr.fill (fun i=>some (Nat.mul i s,s)) (Array.map (fun x=>zz.cells[x%zz.cells.size]!) (Array.range (len*s))) (parts.toList.map fun p=>(p.1,a.eval p.2))=some rs.toArray:=by
           rw [←hr,hm,if_neg h0]
          simp only [ho,Instr.buildSlice,Sem.run_bind,run_underlying (zn hu),Result.andThen_ok,zaa hsz];rw [if_neg e1,if_neg h0];simp only [Sem.run_bind,Sem.run_pure,Result.andThen_ok,Array.toList_map,zeroValue,znZ (zad hi),hzz];have hr0':=hr0;simp only [Nat.mul_eq] at hr0';rw [hr0'];simp [newRow]
        ·simp only [den,Bool.false_eq_true,if_false];exact ⟨_,_,zuq,rfl,fun e=>e.elim,zNm _⟩
     ·cases hf
    ·cases hf
   ·cases hf
  ·cases hf
 ·cases hf
def zGf:AV→Option Nat
 | .lit (.int _ (.ofNat n))=>some n
 |_=>none
theorem zvA {x:AV} {n:Nat} {u:Value} (h:zGf x=some n) (hd:den ρ x u):∃k,u= .int k (n:Int):=by
 unfold zGf at h;split at h
 ·rename_i k m;obtain rfl:=zM8 h;simp only [den] at hd;exact ⟨k,hd⟩
 ·cases h
def zjA (P:Program) [Fast P] (t:TypeId) (l c:AV) (st:St):Option (AV×St):=
 match zeo P t,zGf l,zGf c with
 |some (.slice e),some l,some c=>match zd0 P e,znf P e with
  |some i,some z=>match Nat.ble l c&&(Nat.beq z.length i.size&&(z.all AV.one&&(Nat.ble (Nat.mul i.bytes c) 281474976710656&&Nat.ble c 9223372036854775807))) with
   |true=>some (.sl st.n 0 l c false,zB8 e (zCa z c) none st)
   |false=>none
  |_,_=>none
 |_,_,_=>none
theorem zoc {z:List AV} (h:z.all AV.one=true):∀n,(zCa z n).all AV.one=true
 |0=>rfl
 |n+1=>by simp only [zCa,List.all_append,h,zoc h n,Bool.and_self]
theorem ztA {o:Oper} {t:TypeId} {x y:Operand} {v:AV} (ho:o.op= .makeSlice t x y) (h:TR ρ nt tm a) (hs:Sim K w0 ρ st w) (hf:zjA P t (ev tm x) (ev tm y) st=some (v,st')):
  ∃u w' ρ',(execOp a.eval o).run P w= .ok (.value u) w'∧Ext st.n st'.n ρ ρ'∧Sim K w0 ρ' st' w'∧den ρ' v u:=by
 unfold zjA at hf;split at hf
 ·rename_i e l c hu hl hc;obtain ⟨kl,el⟩:=zvA hl (h.ev x);obtain ⟨kc,ec⟩:=zvA hc (h.ev y);split at hf
  ·rename_i i z hi hz;split at hf
   ·rename_i hcc;simp only [Bool.and_eq_true] at hcc;obtain ⟨c1,c2,c3,c4,c5⟩:=hcc;have c1:=zNc c1;have c2:=zM9 c2;have c4:i.bytes*c≤281474976710656:=zNc c4;have c5:=zNc c5;obtain ⟨rfl,rfl⟩:=zNb (zM8 hf);unfold znf at hz;rw [hi] at hz;simp only at hz;cases hzz:i.zero with
    |none=>rw [hzz] at hz;cases hz
    |some zz=>
     rw [hzz] at hz;simp only at hz;obtain rfl:=zM8 hz;simp only [List.length_map,Array.length_toList] at c2;have hd:=zlK (ρ:=ρ) (zaE zz.cells.toList) c;obtain ⟨h2,hle⟩:=hs.alloc e _ none (by simp) 0 _ [] hd (zhH hd (zoc c3 c)) (fun _=>rfl) (fun s hs=>nomatch hs)
     refine ⟨.slice (some ⟨w.heap.size,0,none⟩) l c,_,_,?_,hle,h2,?_⟩
     ·have hb:(i.bytes:Int)*(c:Int)≤281474976710656:=by
       have h:((i.bytes*c:Nat):Int)≤281474976710656:=by omega
       rwa [Int.natCast_mul] at h
      have hr:=run_make (P:=P) w t e i zz (zn hu) (zad hi) hzz kl kc l c (by omega) (by omega) hb (by omega)
      have hm:=zkq zz.cells.toList c;have e3:madeCells zz.cells (c*i.size)=(List.replicate c zz.cells.toList).flatten.toArray:=by
       apply Array.ext';rw [List.toList_toArray, ←hm];simp [c2]
      unfold execOp;simp only [ho,el,ec,Sem.run_bind,hr,Result.andThen_ok,Int.toNat_natCast,e3];simp
     ·simp only [den,Bool.false_eq_true,if_false];exact ⟨_,_,zuq,rfl,fun e=>e.elim,c1⟩
   ·cases hf
  ·cases hf
 ·cases hf
def zme:List AV→Option (List UInt8)
 |[]=>some []
 | .lit (.int .u8 n)::l=>match zme l with
   |some r=>some (UInt8.ofNat n.toNat::r)
   |none=>none
 |_=>none
def zEV (P:Program) [Fast P] (s t:TypeId) (x:AV) (st:St):Option AV:=
 match zeo P s,zeo P t,x with
 |some (.slice e),some .string, .sl b off len _ _=>match zeo P e,zk4 st.h b with
  |some (.int .u8),some bk=>match Nat.ble (Nat.add off len) bk.cells.length with
   |true=>match zme ((bk.cells.drop off).take len) with
    |some l=>some (.lit (.string ⟨l.toArray⟩))
    |none=>none
   |false=>none
  |_,_=>none
 |_,_,_=>none
theorem zrv {P:Program} [Fast P]:∀{l:List AV} {bs:List UInt8} {us:List Value} (s:ByteArray) (w:World),dens ρ l us→zme l=some bs→
  (forIn us s (fun c (s:ByteArray)=>match c with
   | .int .u8 n=>do pure (ForInStep.yield (s.push (UInt8.ofNat n.toNat)))
   |_=>do let r ←stuck "bytesToString: byte expected";pure r):Sem ByteArray).run P w= .ok ⟨s.data++bs.toArray⟩ w
 |[],bs,us,s,w,hd,h=>by
  simp only [dens] at hd;subst hd;obtain rfl:=zM8 h;simp
 |a::l,bs,us,s,w,hd,h=>by
  simp only [dens] at hd;obtain ⟨v,vs',rfl,h1,h2⟩:=hd;unfold zme at h;split at h
  ·rename_i heq;cases heq
  ·rename_i n l' heq;obtain ⟨rfl,rfl⟩:=List.cons.inj heq;simp only [den] at h1;subst h1;cases hb:zme l with
   |none=>rw [hb] at h;cases h
   |some r=>
    rw [hb] at h;obtain rfl:=zM8 h;have ih:=zrv (P:=P) (s.push (UInt8.ofNat n.toNat)) w h2 hb;simp only [List.forIn_cons,Sem.run_bind,Sem.run_pure,Result.andThen_ok];rw [ih];congr 1;apply ByteArray.ext;apply Array.ext';simp [ByteArray.push]
  ·cases h
theorem zEW {o:Oper} {s t:TypeId} {x:Operand} {v:AV} (ho:o.op= .convert s t x) (h:TR ρ nt tm a) (hs:Sim K w0 ρ st w) (hf:zEV P s t (ev tm x) st=some v):
  ∃u,(execOp a.eval o).run P w= .ok (.value u) w∧den ρ v u:=by
 have hd:=h.ev x;unfold zEV at hf;split at hf
 ·rename_i e b off len cap op hus hut hx;rw [hx] at hd;simp only [den] at hd;obtain ⟨y,c,hy,ex,_⟩:=hd;split at hf
  ·rename_i bk hue hb;split at hf
   ·rename_i hle;split at hf
    ·rename_i l hl;obtain rfl:=zM8 hf;obtain ⟨y',c',hy',hbk,_⟩:=hs.blkC hb;rw [hy] at hy';obtain ⟨rfl,rfl⟩:=zNb (zM8 hy');obtain ⟨us,hdu,hul,_,hc⟩:=znU hbk (zNc hle);have hr:=run_loadCells_list (P:=P) w ⟨y,off,none⟩ us hc;rw [hul] at hr;have hloop:=zrv (P:=P) ByteArray.empty w hdu hl;refine ⟨.string ⟨l.toArray⟩,?_,by simp only [den]⟩
     unfold execOp;simp only [ho,ex,convert,Sem.run_bind,run_underlying (zn hus),run_underlying (zn hut),run_underlying (zn hue),Result.andThen_ok,Conv.bytesToString,hr];have e2:(ByteArray.mk (ByteArray.empty.data++l.toArray))=⟨l.toArray⟩:=by
      apply ByteArray.ext;apply Array.ext';simp [ByteArray.empty,ByteArray.emptyWithCapacity]
      try rfl
     rw [e2] at hloop;simp only [List.forIn_toArray] at hloop ⊢;have hh:=hloop
     erw [hh]
     rfl
    ·cases hf
   ·cases hf
  ·cases hf
 ·cases hf
variable {P:Program} [Fast P] {ρ ρ':Rho} {nt:Nat} {tm:T AV} {a:Act} {w w0 w':World} {K:KS} {st st':St}
def zKA (size:Nat) (x:AV) (st:St):Option (Nat×List AV):=match x with
 | .sl b off len _ _=>match zk4 st.h b with
   |some bk=>match Nat.ble (Nat.add off (Nat.mul len size)) bk.cells.length with
    |true=>some (len,(bk.cells.drop off).take (Nat.mul len size))
    |false=>none
   |none=>none
 | .emp=>some (0,[])
 | .lit (.slice none 0 _)=>some (0,[])
 |_=>none
theorem zEL {size n:Nat} {x:AV} {l:List AV} {u:Value} (hs:Sim K w0 ρ st w) (hd:den ρ x u) (hf:zKA size x st=some (n,l)):
  ∃A c us,u= .slice A n c∧dens ρ l us∧us.length=n*size∧(∀v∈us,v.oneCell'=true)∧(0<n→∃ad,A=some ad∧∀j v,us[j]? =some v→w.cell? (ad.add j)=some v):=by
 unfold zKA at hf;split at hf
 ·rename_i b off len cap op;simp only [den] at hd;obtain ⟨x,c,hx,rfl,_⟩:=hd;split at hf
  ·rename_i bk hb;split at hf
   ·rename_i hle;obtain ⟨rfl,rfl⟩:=zNb (zM8 hf);obtain ⟨x',c',hx',hbk,_⟩:=hs.blkC hb;rw [hx] at hx';obtain ⟨rfl,rfl⟩:=zNb (zM8 hx');obtain ⟨us,h1,h2,h3,h4⟩:=znU hbk (zNc hle);exact ⟨_,_,us,rfl,h1,h2,h3,fun _=>⟨_,rfl,h4⟩⟩
   ·cases hf
  ·cases hf
 ·simp only [den] at hd;obtain ⟨A,c,rfl⟩:=hd;obtain ⟨rfl,rfl⟩:=zNb (zM8 hf);exact ⟨A,c,[],rfl,by simp [dens],by simp,by simp,fun h=>absurd h (Nat.lt_irrefl 0)⟩
 ·rename_i c;simp only [den] at hd;subst hd;obtain ⟨rfl,rfl⟩:=zNb (zM8 hf);exact ⟨none,c,[],rfl,by simp [dens],by simp,by simp,fun h=>absurd h (Nat.lt_irrefl 0)⟩
 ·cases hf
def zgz (n:Nat):Bool:=Nat.blt 0 n
def zI7 (size bytes:Nat) (E:TypeId) (s:AV) (n:Nat) (l:List AV) (st:St):Option (AV×St):=
 match s with
 | .lit (.slice none 0 0)=>match Nat.beq n 0 with
   |true=>some (s,st)
   |false=>match Nat.ble (Nat.mul n bytes) 140737488355328&&Nat.ble n 9223372036854775807 with
    |true=>some (.sl st.n 0 n 0 true,zB8 E l (some size) st)
    |false=>none
 | .sl b off len cap op=>match Nat.beq n 0 with
   |true=>some (s,st)
   |false=>match zk4 st.h b with
    |none=>none
    |some bk=>match Nat.ble (Nat.mul (Nat.add len n) bytes) 140737488355328&&Nat.ble (Nat.add len n) 9223372036854775807 with
     |false=>none
     |true=>match op with
      |false=>match Nat.ble (Nat.add len n) cap with
       |true=>match Nat.ble (Nat.add (Nat.add off (Nat.mul len size)) l.length) bk.cells.length&&st.wr b with
        |true=>some (.sl b off (Nat.add len n) cap false,⟨st.h.set b ⟨bk.ty,zje bk.cells (Nat.add off (Nat.mul len size)) l,bk.op⟩,st.n,st.wr⟩)
        |false=>none
       |false=>match Nat.ble (Nat.add off (Nat.mul len size)) bk.cells.length with
        |true=>some (.sl st.n 0 (Nat.add len n) 0 true,zB8 E ((bk.cells.drop off).take (Nat.mul len size)++l) (some size) st)
        |false=>none
      |true=>match bk.op with
       |none=>none
       |some size'=>match Nat.beq off 0&&(Nat.beq cap 0&&(Nat.beq size' size&&(st.wr b&&zgz size))) with
        |false=>none
        |true=>match Nat.ble (Nat.mul (Nat.add len n) size) bk.cells.length with
         |true=>some (.sl b 0 (Nat.add len n) 0 true,⟨st.h.set b ⟨bk.ty,zje bk.cells (Nat.mul len size) l,bk.op⟩,st.n,st.wr⟩)
         |false=>match Nat.beq (Nat.mul len size) bk.cells.length&&Nat.beq bk.ty E with
          |true=>some (.sl st.n 0 (Nat.add len n) 0 true,⟨(st.h.put b none).set st.n ⟨E,bk.cells++l,some size⟩,st.n+1,st.wr⟩)
          |false=>none
 |_=>none
theorem Src.ofEmp {size:Nat} {tx e':TypeId} (hk:P.underlying tx=some (.slice e')) (A:Option Addr) (c:Nat) (w:World):Src P size tx (.slice A 0 c) 0 [] w:=by
 refine ⟨.inl ⟨e',hk⟩,fun _=>rfl,?_,?_,by simp,fun _ h=>by cases h⟩<;>cases A<;>simp [Builtin.firstCells,loadCells,loadCellsFrom]
theorem zdJ {t tx ty E:TypeId} {i:TypeInfo} (ht:P.underlying t=some (.slice E)) (hi:P.info? E=some i) {x:Value} {news:List Value} (hs:Src P i.size tx x 0 news w) (A:Option Addr) (n c:Nat) (hn:n≤c):
  (Builtin.append_ #[t,tx] ty #[.slice A n c,x]).run P w= .ok (.slice A n c) w:=by
 have hnil:news=[]:=zNj.1 (by rw [hs.newsLen,Nat.zero_mul])
 subst hnil;cases A<;>rcases hs.kind with ⟨e',hk⟩|hk<;>simp [Builtin.append_,run_underlying ht,run_underlying hk,sizeOf,typeInfo,hi,hs.len,hn,hs.cells,storeCells]
theorem ze2 {t tx ty E:TypeId} {i:TypeInfo} (ht:P.underlying t=some (.slice E)) (hi:P.info? E=some i) (b:Addr) (sLen sCap:Nat)
  {x:Value} {m:Nat} {news:List Value} (hs:Src P i.size tx x m news w)
  (hroom:sLen+m≤sCap) (hst:(storeCells (b.add (sLen*i.size)) news).run P w= .ok () w'):
  (Builtin.append_ #[t,tx] ty #[.slice (some b) sLen sCap,x]).run P w= .ok (.slice (some b) (sLen+m) sCap) w':=by
 rcases hs.kind with ⟨e',hk⟩|hk<;>simp [Builtin.append_,run_underlying ht,run_underlying hk,sizeOf,typeInfo,hi,hs.len,hroom,hs.cells,hst]
theorem zaB (z:Array Value) (n:Nat):(Builtin.zeroCells z n).size=n*z.size:=by simp [Builtin.zeroCells]
structure zKF (P:Program) [Fast P] (t E:TypeId) (size bytes:Nat):Prop where
 ht:P.underlying t=some (.slice E)
 pos:0<size
 hi:∃i z,P.info? E=some i∧i.zero=some z∧i.size=size∧i.bytes=bytes∧z.cells.size=size
theorem zHs {t tx ty E:TypeId} {size bytes:Nat} (he:zKF P t E size bytes) {s v:AV} {n:Nat} {l:List AV} {us:List Value} {su xu:Value}
  (hs:Sim K w0 ρ st w) (hds:den ρ s su) (hdl:dens ρ l us) (hsrc:Src P size tx xu n us w)
  (hf:zI7 size bytes E s n l st=some (v,st')):
  ∃u w' ρ',(Builtin.append_ #[t,tx] ty #[su,xu]).run P w= .ok u w'∧Ext st.n st'.n ρ ρ'∧Sim K w0 ρ' st' w'∧den ρ' v u:=by
 obtain ⟨ht,hpos,i,z,hi,hz,hsz,hby,hzs⟩:=he;have hop0:(some size:Option Nat)≠some 0:=by simp;omega
 have hll:=zL hdl;have hl:=hsrc.newsLen;have h1:=hsrc.one;have hsrc':Src P i.size tx xu n us w:=by rw [hsz];exact hsrc
 unfold zI7 at hf;split at hf
 ·simp only [den] at hds;subst hds;split at hf
  ·rename_i hn;have hn:=zM9 hn;subst hn;obtain ⟨rfl,rfl⟩:=zNb (zM8 hf);exact ⟨_,w,ρ,zdJ ht hi hsrc' none 0 0 (zNm _), .refl _ ρ,hs,by simp only [den]⟩
  ·rename_i hn;have hn:0<n:=Nat.pos_of_ne_zero (Nat.ne_of_beq_eq_false hn);split at hf
   ·rename_i hb;simp only [Bool.and_eq_true] at hb;have hb1:n*bytes≤140737488355328:=zNc hb.1;have hb2:n≤9223372036854775807:=zNc hb.2;obtain ⟨rfl,rfl⟩:=zNb (zM8 hf);have hr:=run_append_grow_src (P:=P) w t tx ty E i z ht hi hz none 0 0 [] (run_firstCells_none w.drew i.size 0 0 0) xu n us hsrc' (by omega) (by omega) (growslice_fits (by omega) (by rw [hby];simpa using hb1))
    simp only [Nat.zero_add,List.nil_append] at hr;obtain ⟨h2,hle⟩:=hs.drew.alloc E l (some size) hop0 (grownCap w n 0 E) us (Builtin.zeroCells z.cells (grownCap w n 0 E - n)).toList hdl h1 (fun e=>nomatch e) (fun s hs'=>by
     obtain rfl:=zM8 hs';have:=grownCap_ge w n 0 E;rw [zNo,hl,Array.length_toList,zaB,hzs, ←zNr];congr 1;omega)
    refine ⟨_,_,_,hr,hle,?_,?_⟩
    ·have e:(us.toArray++Builtin.zeroCells z.cells (grownCap w n 0 E - n))=(us++(Builtin.zeroCells z.cells (grownCap w n 0 E - n)).toList).toArray:=by apply Array.ext';simp
     rw [e];exact h2
    ·simp only [den,if_true,Nat.sub_zero];exact ⟨_,_,zuq,rfl,fun _=>zNk _,grownCap_ge w n 0 E⟩
   ·cases hf
 ·rename_i b off len cap op;simp only [den] at hds;obtain ⟨x,c,hx,rfl,hoc,hlen⟩:=hds;split at hf
  ·rename_i hn;have hn:=zM9 hn;subst hn;obtain ⟨rfl,rfl⟩:=zNb (zM8 hf);exact ⟨_,w,ρ,zdJ ht hi hsrc' _ len _ hlen, .refl _ ρ,hs,by simp only [den];exact ⟨x,c,hx,rfl,hoc,hlen⟩⟩
  ·rename_i hn;have hn:0<n:=Nat.pos_of_ne_zero (Nat.ne_of_beq_eq_false hn);split at hf
   ·cases hf
   ·rename_i bk hb;obtain ⟨x',c1,hx',hbk,hnk⟩:=hs.blkC hb;rw [hx] at hx';obtain ⟨rfl,rfl⟩:=zNb (zM8 hx');split at hf
    ·cases hf
    ·rename_i hbb;simp only [Bool.and_eq_true] at hbb;have hb1:(len+n)*bytes≤140737488355328:=zNc hbb.1;have hb2:len+n≤9223372036854775807:=zNc hbb.2;have grow:∀{olds:List Value} {ol:List AV} {oldcap:Nat} {off:Nat},dens ρ ol olds→olds.length=len*size→(∀v∈olds,v.oneCell'=true)→(∀j v,olds[j]? =some v→w.cell? ((⟨x,off,none⟩:Addr).add j)=some v)→oldcap<len+n→
       ∃u w' ρ' x2 c2,(Builtin.append_ #[t,tx] ty #[.slice (some ⟨x,off,none⟩) len oldcap,xu]).run P w= .ok u w'∧ρ'=ρ.up st.n (x2,c2)∧Kp (fun b=>b<w.heap.size) w w'∧w.heap.size=x2∧Ext st.n (st.n+1) ρ ρ'∧Sim K w0 ρ' (zB8 E (ol++l) (some size) st) w'∧den ρ' (.sl st.n 0 (Nat.add len n) 0 true) u:=by
      intro olds ol oldcap off h2 h3 h4 h5 h6;have hr:=run_append_grow_src (P:=P) w t tx ty E i z ht hi hz (some ⟨x,off,none⟩) len oldcap olds (run_firstCells_some w.drew i.size len _ len oldcap olds (by rw [hsz];exact h3) (by simpa using h5)) xu n us hsrc' h6 (by omega) (growslice_fits h6 (by rw [hby];exact hb1))
      obtain ⟨h7,hle⟩:=hs.drew.alloc E (ol++l) (some size) hop0 (grownCap w (len+n) oldcap E) (olds++us) (Builtin.zeroCells z.cells (grownCap w (len+n) oldcap E - (len+n))).toList (zaq h2 hdl) (fun v hv=>(List.mem_append.1 hv).elim (h4 v) (h1 v)) (fun e=>nomatch e) (fun s hs'=>by
       obtain rfl:=zM8 hs';have:=grownCap_ge w (len+n) oldcap E;rw [zNo,zNo,h3,hl,Array.length_toList,zaB,hzs, ←zNr, ←zNr];congr 1;omega)
      have e:((olds++us).toArray++Builtin.zeroCells z.cells (grownCap w (len+n) oldcap E - (len+n)))=(olds++us++(Builtin.zeroCells z.cells (grownCap w (len+n) oldcap E - (len+n))).toList).toArray:=by apply Array.ext';simp
      rw [e] at hr;refine ⟨_,_,_,_,_,hr,rfl,?_,rfl,hle,h7,?_⟩
      ·exact (Kp.drew _ w).trans (Kp.alloc w.drew _ fun b hb=>hb)
      ·simp only [den,if_true,Nat.sub_zero];exact ⟨_,_,zuq,rfl,fun _=>zNk _,grownCap_ge w (len+n) oldcap E⟩
     split at hf
     ·
      simp only [Bool.false_eq_true,if_false] at hlen;split at hf
      ·rename_i hroom;have hroom:len+n≤cap:=zNc hroom;split at hf
       ·rename_i hcc;simp only [Bool.and_eq_true] at hcc;obtain ⟨rfl,rfl⟩:=zNb (zM8 hf);obtain ⟨w',hst,hsim⟩:=hs.cells (P:=P) hb hcc.2 hx hdl h1 (zNc hcc.1);refine ⟨.slice (some ⟨x,off,none⟩) (len+n) cap,w',ρ,?_, .refl _ ρ,hsim,?_⟩
        ·simp only [Bool.false_eq_true,if_false];exact ze2 ht hi ⟨x,off,none⟩ len cap hsrc' hroom (by rw [zaV,hsz];exact hst)
        ·simp only [den,Bool.false_eq_true,if_false];exact ⟨x,c,hx,rfl,fun e=>e.elim,hroom⟩
       ·cases hf
      ·rename_i hroom;have hroom:cap<len+n:=Nat.lt_of_not_le fun e=>by rw [show Nat.ble (Nat.add len n) cap=true from Nat.ble_eq_true_of_le e] at hroom;cases hroom
       split at hf
       ·rename_i hle;obtain ⟨rfl,rfl⟩:=zNb (zM8 hf);obtain ⟨olds,h2,h3,h4,h5⟩:=znU hbk (zNc hle);obtain ⟨u,w',ρ',x2,c2,hr,_,_,_,hle',hsim,hdu⟩:=grow h2 h3 h4 h5 hroom;exact ⟨u,w',ρ',by simpa only [Bool.false_eq_true,if_false] using hr,hle',hsim,hdu⟩
       ·cases hf
     ·split at hf
      ·cases hf
      ·rename_i size' hop;split at hf
       ·cases hf
       ·rename_i hcc;simp only [Bool.and_eq_true] at hcc;obtain ⟨c1,c2,c3,c4,c5⟩:=hcc;have c1:=zM9 c1;have c2:=zM9 c2;have c3:=zM9 c3;have c5:0<size:=zNc c5;subst c1;subst c2;subst c3;simp only [if_true,Nat.sub_zero] at hlen ⊢;have hbk':=hbk;obtain ⟨vs,rest,b1,b2,b3,b4,b5⟩:=hbk';have b5:=b5 size' hop;have hlv:=zL b1;split at hf
        ·rename_i hin;have hin:(len+n)*size'≤bk.cells.length:=zNc hin;obtain ⟨rfl,rfl⟩:=zNb (zM8 hf);have hroom:len+n≤c.n:=by
          have:(len+n)*size'≤c.n*size':=by rw [←b5,zNo];omega
          exact Nat.le_of_mul_le_mul_right this c5
         have hfit:len*size'+l.length≤bk.cells.length:=by rw [←hll,hl, ←zNr];exact hin
         obtain ⟨w',hst,hsim⟩:=hs.cells (P:=P) hb c4 hx hdl h1 hfit;refine ⟨.slice (some ⟨x,0,none⟩) (len+n) c.n,w',ρ,?_, .refl _ ρ,hsim,?_⟩
         ·exact ze2 ht hi ⟨x,0,none⟩ len c.n hsrc' hroom (by rw [zaV,hsz,Nat.zero_add];exact hst)
         ·simp only [den,if_true,Nat.sub_zero];exact ⟨x,c,hx,rfl,fun _=>zNk _,hroom⟩
        ·split at hf
         ·rename_i hfull;simp only [Bool.and_eq_true] at hfull;have hfull1:len*size'=bk.cells.length:=zM9 hfull.1;have hfull2:=zM9 hfull.2;obtain ⟨rfl,rfl⟩:=zNb (zM8 hf);have holds:∀j v,vs[j]? =some v→w.cell? ((⟨x,0,none⟩:Addr).add j)=some v:=fun j v hj=>by
           rw [zaV,Nat.zero_add,b2.cell,List.getElem?_toArray,zNh (zNa.1 hj).1];exact hj
          have hnk:=hnk c4;rcases Nat.lt_or_ge c.n (len+n) with hroom|hroom
          ·obtain ⟨u,w',ρ',x2,c2,hr,hρ,hkp,hx2,hle',hsim,hdu⟩:=grow b1 (by rw [hlv,hfull1]) b3 holds hroom
           refine ⟨u,w',ρ',hr,hle',?_,hdu⟩;refine hsim.less _ (fun k bk' hk=>?_) (zNm _) (fun _ h=>h);simp only [zB8];rw [T.get_put] at hk ⊢;split at hk
           ·rename_i hkn;rw [if_pos hkn];exact hk
           ·rename_i hkn;rw [if_neg hkn];rw [T.get_put] at hk;split at hk
            ·cases hk
            ·exact hk
          ·
           have hst:=zcs P x (len*size') bk.ty us 0 (vs++rest).toArray w b2 (by
            simp only [List.size_toArray,Nat.add_zero];rw [b5,hl, ←zNr];exact zNe _ hroom) h1
           simp only [Nat.add_zero,List.toList_toArray] at hst;have e:((vs++rest).take (len*size')++us++(vs++rest).drop (len*size'+us.length))=(vs++us)++rest.drop us.length:=by
            rw [hfull1, ←hlv,List.take_left, ←List.drop_drop,List.drop_left]
           rw [e] at hst;have hup:ρ.le (ρ.up st.n (x,c)):=Rho.le_up hs.fresh;obtain ⟨S,F,hsF⟩:=hs;obtain ⟨x',c',hx',hF,_,_⟩:=hsF.blkC hb;rw [hx] at hx';obtain ⟨rfl,rfl⟩:=zNb (zM8 hx');have hkp:=Kp.setRow w x ((vs++us)++rest.drop us.length).toArray;have h9:(len+n)*size'≤c.n*size':=zNe _ hroom;rw [←b5,zNo,hlv, ←hfull1,zNr, ←hl] at h9;obtain ⟨hsim,hupE⟩:=hsF.turn b (za5 hb).1 c4 (hkp.mono fun k hk=>⟨hk.1,fun e=>hk.2 ((hF k).2 e)⟩) ⟨E,bk.cells++l,some size'⟩ x c (fun y=>y=x) (fun y hy=> .inl ((hF y).2 hy))
            ⟨fun _=>⟨fun _=>Iff.rfl,vs++us,rest.drop us.length,dens_mono hup (zaq b1 hdl),by
             rw [←hfull2];refine b2.setRow _ ?_;simp;omega,fun v hv=>(List.mem_append.1 hv).elim (b3 v) (h1 v),(fun e=>nomatch e),fun s hs'=>by
             obtain rfl:=zM8 hs';rw [←b5];simp only [zNo,List.length_drop];omega⟩,fun e=>absurd e hop0⟩
           refine ⟨.slice (some ⟨x,0,none⟩) (len+n) c.n,_,ρ.up st.n (x,c),ze2 ht hi ⟨x,0,none⟩ len c.n hsrc' hroom (by rw [zaV,hsz,Nat.zero_add];exact hst),hupE,⟨_,_,hsim⟩,?_⟩
           simp only [den,if_true,Nat.sub_zero];exact ⟨x,c,zuq,rfl,fun _=>zNk _,hroom⟩
         ·cases hf
 ·cases hf
def zLD (P:Program) [Fast P] (t:TypeId) (size:Nat) (x:AV) (st:St):Option (Nat×List AV):=match zeo P t with
 |some (.slice _)=>zKA size x st
 |some .string=>match x,size with
  | .lit (.string s),1=>some (s.size,(byteCells s).map AV.lit)
  |_,_=>none
 |_=>none
theorem zIx {t:TypeId} {size n:Nat} {x:AV} {l:List AV} {u:Value} (hs:Sim K w0 ρ st w) (hd:den ρ x u) (hf:zLD P t size x st=some (n,l)):
  ∃us,dens ρ l us∧Src P size t u n us w:=by
 unfold zLD at hf;split at hf
 ·rename_i e hu;obtain ⟨A,c,us,rfl,h1,h2,h3,h4⟩:=zEL hs hd hf;refine ⟨us,h1,?_⟩;rcases zNl n with hn|hn
  ·subst hn;obtain rfl:us=[]:=zNj.1 (by rw [h2,Nat.zero_mul])
   exact Src.ofEmp (zn hu) A c w
  ·obtain ⟨ad,rfl,h5⟩:=h4 hn;exact Src.ofSlice w (zn hu) ad n c us h2 h5 h3
 ·rename_i hu;split at hf
  ·rename_i s;obtain ⟨rfl,rfl⟩:=zNb (zM8 hf);simp only [den] at hd;subst hd;exact ⟨byteCells s,zaE _,Src.ofString w (zn hu) s⟩
  ·cases hf
 ·cases hf
def zsD (P:Program) [Fast P] (ts:Array TypeId) (args:List AV) (st:St):Option (AV×St):=
 match ts[0]?,ts[1]?,args with
 |some t,some t',[s,x]=>match zeo P t with
  |some (.slice E)=>match zd0 P E with
   |some i=>match i.zero with
    |some z=>match Nat.beq z.cells.size i.size&&zgz i.size,zLD P t' i.size x st with
     |true,some (n,l)=>zI7 i.size i.bytes E s n l st
     |_,_=>none
    |none=>none
   |none=>none
  |_=>none
 |_,_,_=>none
theorem zAh {o:Oper} {args:Array Operand} {ts:Array TypeId} {v:AV} (ho:o.op= .call {callee:= .builtin .append,args:=args,argTypes:=ts}) (h2:ts.size=2) (h:TR ρ nt tm a) (hs:Sim K w0 ρ st w) (hf:zsD P ts (args.toList.map (ev tm)) st=some (v,st')):
  ∃u w' ρ',(execOp a.eval o).run P w= .ok (.value u) w'∧Ext st.n st'.n ρ ρ'∧Sim K w0 ρ' st' w'∧den ρ' v u:=by
 have hd:=zbZ h args.toList;have hex:(execOp a.eval o).run P w=(builtin .append ts o.type (args.map fun| .const _=>true|_=>false) (args.map a.eval)).run P w:=by
  unfold execOp;simp only [ho,resolve,Sem.run_bind,Sem.run_pure,Result.andThen_ok,invoke];rfl
 rw [hex];have hargs:args.map a.eval=(args.toList.map a.eval).toArray:=by rw [←Array.toList_map]
 rw [hargs];generalize args.toList.map a.eval=vs at hd;generalize args.toList.map (ev tm)=l at hd hf;generalize (args.map fun| .const _=>true|_=>false)=cs
 unfold zsD at hf;split at hf
 ·rename_i t t' s x ht0 ht1;simp only [dens] at hd;obtain ⟨su,vs',rfl,hsu,xu,vs'',rfl,hxu,rfl⟩:=hd;split at hf
  ·rename_i E hu;have hts:ts= #[t,t']:=by
    apply Array.ext
    ·simpa using h2
    ·intro k hk1 hk2;simp at hk2;rcases k with _|k
     ·have:=ht0;rw [zNi (by omega)] at this;simpa using this
     ·rcases k with _|k
      ·have:=ht1;rw [zNi (by omega)] at this;simpa using this
      ·omega
   split at hf
   ·rename_i i hi;split at hf
    ·rename_i z hz;split at hf
     ·rename_i n l hzs hsrc;simp only [Bool.and_eq_true] at hzs;have hpos:0<i.size:=zNc hzs.2;have hzs:=zM9 hzs.1;obtain ⟨us,hdl,hS⟩:=zIx hs hxu hsrc;obtain ⟨u,w',ρ',hr,hle,hsim,hdu⟩:=zHs (ty:=o.type) ⟨(zn hu),hpos,i,z,(zad hi),hz,rfl,rfl,hzs⟩ hs hsu hdl hS hf;refine ⟨u,w',ρ',?_,hle,hsim,hdu⟩;subst hts;simp only [builtin,Sem.run_bind,hr];rfl
     ·cases hf
    ·cases hf
   ·cases hf
  ·cases hf
 ·cases hf
variable {P:Program} [Fast P] {ρ ρ':Rho} {nt:Nat} {tm:T AV} {a:Act} {w w0 w':World} {K:KS} {st st':St}
theorem zoI:∀(n i:Nat) (vs:List Value),vs.length=2*n→(zI i vs).length=n
 |0,i,vs,h=>by
  obtain rfl:=zNj.1 (by simpa using h)
  rfl
 |n+1,i,[],h=>by simp at h
 |n+1,i,[_],h=>by simp at h;omega
 |n+1,i,k::v::l,h=>by
  simp only [zI,List.length_cons];rw [zoI n (i+1) l (by simp at h;omega)]
theorem znk (k v:Value):∀(n i:Nat) (vs:List Value),vs.length=2*n→zI i (vs++[k,v])=zI i vs++[{key:=k,val:=v,born:=i+n}]
 |0,i,vs,h=>by
  obtain rfl:=zNj.1 (by simpa using h)
  rfl
 |n+1,i,[],h=>by simp at h
 |n+1,i,[_],h=>by simp at h;omega
 |n+1,i,k'::v'::l,h=>by
  simp only [zI,List.cons_append];rw [znk k v n (i+1) l (by simp at h;omega)]
  simp only [List.cons.injEq,true_and];congr 3;omega
theorem zoH:∀(n i j:Nat) (vs:List Value),vs.length=2*n→j<n→∃k v,vs[2*j]? =some k∧vs[2*j+1]? =some v∧(zI i vs)[j]? =some {key:=k,val:=v,born:=i+j}
 |0,i,j,vs,h,hj=>by omega
 |n+1,i,j,[],h,hj=>by simp at h
 |n+1,i,j,[_],h,hj=>by simp at h;omega
 |n+1,i,0,k::v::l,h,hj=>⟨k,v,rfl,rfl,rfl⟩
 |n+1,i,j+1,k::v::l,h,hj=>by
  obtain ⟨k',v',h1,h2,h3⟩:=zoH n (i+1) j l (by simp at h;omega) (by omega)
  refine ⟨k',v',?_,?_,?_⟩
  ·rw [show 2*(j+1)=2*j+1+1 by omega];simpa using h1
  ·rw [show 2*(j+1)+1=2*j+1+1+1 by omega];simpa using h2
  ·simp only [zI,List.getElem?_cons_succ,h3];congr 2;omega
theorem zoJ (k v:Value):∀(n i j:Nat) (vs:List Value),vs.length=2*n→j<n→(zI i vs).modify j (fun e=>{e with key:=k,val:=v})=zI i ((vs.set (2*j) k).set (2*j+1) v)
 |0,i,j,vs,h,hj=>by omega
 |n+1,i,j,[],h,hj=>by simp at h
 |n+1,i,j,[_],h,hj=>by simp at h;omega
 |n+1,i,0,k'::v'::l,h,hj=>by simp [zI]
 |n+1,i,j+1,k'::v'::l,h,hj=>by
  have:=zoJ k v n (i+1) j l (by simp at h;omega) (by omega)
  rw [show 2*(j+1)+1=2*j+1+1+1 by omega,show 2*(j+1)=2*j+1+1 by omega]
  simp only [zI,List.modify_succ_cons,List.set_cons_succ,this]
def zjZ:List AV→Option (List Value)
 |[]=>some []
 |k::_::l=>match zgV k,zjZ l with
  |some kv,some ks=>some (kv::ks)
  |_,_=>none
 |[_]=>none
def zrG (kind:TypeDesc) (k:Value):List Value→Nat→Option (Option Nat)
 |[],_=>some none
 |e::es,i=>match Instr.sameNow kind k e with
  |some true=>some (some i)
  |some false=>zrG kind k es (Nat.succ i)
  |none=>none
def zzB (P:Program) [Fast P] (t:TypeId) (k:Value):List Value→Nat→Option (Option Nat)
 |[],_=>some none
 |e::es,i=>match zbW P (Op.equal t k e) with
  |some true=>some (some i)
  |some false=>zzB P t k es (Nat.succ i)
  |none=>none
def zKo (P:Program) [Fast P] (kind:TypeDesc) (t:TypeId) (k:Value) (ks:List Value):Option (Option Nat):=match zrG kind k ks 0 with
 |some r=>some r
 |none=>zzB P t k ks 0
def hit (i:Nat) (vs:List Value):Option Nat→Option (Nat×Value)
 |none=>none
 |some j=>some (j,vs.getD (2*(j - i)+1) undef)
theorem zzz {i:Nat} {k v:Value} {l:List Value} {r:Option Nat} (h:∀j,r=some j→i+1≤j):hit i (k::v::l) r=hit (i+1) l r:=by
 cases r with
 |none=>rfl
 |some j=>
  have:=h j rfl;simp only [hit];congr 2;rw [show 2*(j - i)+1=2*(j - (i+1))+1+1+1 by omega]
  simp [List.getD]
theorem zvf {kind:TypeDesc} {k:Value}:∀{cells:List AV} {vs ks:List Value} (b i:Nat),zjZ cells=some ks→dens ρ cells vs→
  (∀r,zrG kind k ks i=some r→Instr.findNow kind k (zI b vs) i=some (hit i vs r)∧∀j,r=some j→i≤j∧2*(j - i)+1<vs.length)∧(zrG kind k ks i=none→Instr.findNow kind k (zI b vs) i=none)
 |[],vs,ks,b,i,h,hd=>by
  simp only [dens] at hd;subst hd;obtain rfl:=zM8 h;refine ⟨fun r hr=>?_,fun hr=>nomatch hr⟩;obtain rfl:=zM8 hr;exact ⟨rfl,(fun j h=>nomatch h)⟩
 |[_],vs,ks,b,i,h,hd=>by simp [zjZ] at h
 |x::y::l,vs,ks,b,i,h,hd=>by
  simp only [zjZ] at h;split at h
  ·rename_i kv ks' hk hks;obtain rfl:=zM8 h;simp only [dens] at hd;obtain ⟨v1,_,rfl,d1,v2,vs',rfl,d2,d3⟩:=hd;have e1:=zaU hk d1;subst e1;obtain ⟨h1,h2⟩:=zvf (b+1) (i+1) hks d3 (kind:=kind) (k:=k);simp only [zrG,zI,Instr.findNow];cases hs:Instr.sameNow kind k v1 with
   |none=>exact ⟨(fun r hr=>nomatch hr),fun _=>rfl⟩
   |some bb=>
    cases bb with
    |true=>
     refine ⟨fun r hr=>?_,fun hr=>nomatch hr⟩;obtain rfl:=zM8 hr;refine ⟨by simp [hit,List.getD],fun j hj=>?_⟩
     obtain rfl:=zM8 hj;exact ⟨zNm _,by simp⟩
    |false=>
     refine ⟨fun r hr=>?_,h2⟩;obtain ⟨g1,g2⟩:=h1 r hr;refine ⟨by rw [zzz fun j hj=>(g2 j hj).1];exact g1,fun j hj=>?_⟩
     have:=g2 j hj;simp only [List.length_cons];omega
  ·cases h
theorem zve {t:TypeId} {k:Value} (w:World):∀{cells:List AV} {vs ks:List Value} (b i:Nat) (r:Option Nat),zjZ cells=some ks→dens ρ cells vs→
  zzB P t k ks i=some r→(Instr.findAsking t k (zI b vs) i).run P w= .ok (hit i vs r) w∧∀j,r=some j→i≤j∧2*(j - i)+1<vs.length
 |[],vs,ks,b,i,r,h,hd,hr=>by
  simp only [dens] at hd;subst hd;obtain rfl:=zM8 h;obtain rfl:=zM8 hr;exact ⟨rfl,(fun j h=>nomatch h)⟩
 |[_],vs,ks,b,i,r,h,hd,hr=>by simp [zjZ] at h
 |x::y::l,vs,ks,b,i,r,h,hd,hr=>by
  simp only [zjZ] at h;split at h
  ·rename_i kv ks' hk hks;obtain rfl:=zM8 h;simp only [dens] at hd;obtain ⟨v1,_,rfl,d1,v2,vs',rfl,d2,d3⟩:=hd;have e1:=zaU hk d1;subst e1;simp only [zzB] at hr;simp only [zI,Instr.findAsking,Sem.run_bind];cases hs:zbW P (Op.equal t k v1) with
   |none=>rw [hs] at hr;cases hr
   |some bb=>
    rw [hs] at hr;rw [z2 hs w];cases bb with
    |true=>
     obtain rfl:=zM8 hr;refine ⟨by simp [hit,List.getD],fun j hj=>?_⟩
     obtain rfl:=zM8 hj;exact ⟨zNm _,by simp⟩
    |false=>
     obtain ⟨g1,g2⟩:=zve w (b+1) (i+1) r hks d3 hr;refine ⟨by rw [zzz fun j hj=>(g2 j hj).1];simpa using g1,fun j hj=>?_⟩
     have:=g2 j hj;simp only [List.length_cons];omega
  ·cases h
theorem ztm {kind:TypeDesc} {t:TypeId} {k:Value} (hk:P.underlying t=some kind) (w:World) {cells:List AV} {vs ks:List Value} {r:Option Nat} (h:zjZ cells=some ks) (hd:dens ρ cells vs) (hr:zKo P kind t k ks=some r):
  (Instr.findKey t k (zI 0 vs)).run P w= .ok (hit 0 vs r) w∧∀j,r=some j→2*j+1<vs.length:=by
 unfold zKo at hr;obtain ⟨h1,h2⟩:=zvf 0 0 h hd (kind:=kind) (k:=k);cases hn:zrG kind k ks 0 with
 |some r'=>
  rw [hn] at hr;obtain rfl:=zM8 hr;obtain ⟨g1,g2⟩:=h1 _ hn;refine ⟨?_,fun j hj=>by simpa using (g2 j hj).2⟩
  unfold Instr.findKey;rw [Sem.run_bind,run_underlying hk];simp only [Result.andThen_ok,g1];rfl
 |none=>
  rw [hn] at hr;obtain ⟨g1,g2⟩:=zve w 0 0 r h hd hr;refine ⟨?_,fun j hj=>by simpa using (g2 j hj).2⟩
  unfold Instr.findKey;rw [Sem.run_bind,run_underlying hk];simp only [Result.andThen_ok,h2 hn];exact g1
theorem zoT:∀{cells:List AV} {vs ks:List Value},zjZ cells=some ks→dens ρ cells vs→vs.length=2*ks.length
 |[],vs,ks,h,hd=>by simp only [dens] at hd;subst hd;obtain rfl:=zM8 h;rfl
 |[_],vs,ks,h,hd=>by simp [zjZ] at h
 |x::y::l,vs,ks,h,hd=>by
  simp only [zjZ] at h;split at h
  ·rename_i kv ks' hk hks;obtain rfl:=zM8 h;simp only [dens] at hd;obtain ⟨v1,_,rfl,d1,v2,vs',rfl,d2,d3⟩:=hd;have:=zoT hks d3;simp only [List.length_cons];omega
  ·cases h
def zKp:List Value→Bool
 |[]=>true
 |_=>false
def zKC (ok:Bool) (v:AV) (b:Bool):AV:=match ok with
 |true=> .tup [v, .lit (.bool b)]
 |false=>v
def zkp (P:Program) [Fast P] (t:TypeId) (x k:AV) (ok:Bool) (st:St):Option AV:=
 match zeo P t,zgV k,x with
 |some (.map key elem),some kv, .mp b=>match zJh st.h b with
  |some cells=>match zjZ cells,zeo P key with
   |some ks,some kind=>match zbW P (Instr.checkKey (zKp ks) 10000 key kv),zKo P kind key kv ks with
    |some _,some (some i)=>match zg5 cells (Nat.succ (Nat.mul 2 i)) with
     |some v=>some (zKC ok v true)
     |none=>none
    |some _,some none=>match zbW P (zeroValue elem) with
     |some z=>some (zKC ok (AV.of z) false)
     |none=>none
    |_,_=>none
   |_,_=>none
  |none=>none
 |some (.map _ _),some kv, .lit v=>match zbW P (Instr.lookup t v kv ok) with
  |some (.tuple cs)=>some (.tup (cs.toList.map AV.of))
  |some r=>some (AV.of r)
  |none=>none
 |_,_,_=>none
theorem zoE:∀(vs:List Value),dens ρ (vs.map AV.of) vs
 |[]=>by simp [dens]
 |v::vs=>by simp only [List.map_cons,dens];exact ⟨v,vs,rfl,zeU v,zoE vs⟩
theorem zrL {o:Oper} {t:TypeId} {x k:Operand} {ok:Bool} {v:AV} (ho:o.op= .lookup t x k ok) (h:TR ρ nt tm a) (hs:Sim K w0 ρ st w) (hf:zkp P t (ev tm x) (ev tm k) ok st=some v):
  ∃u,(execOp a.eval o).run P w= .ok (.value u) w∧den ρ v u:=by
 have hex:∀u,(Instr.lookup t (a.eval x) (a.eval k) ok).run P w= .ok u w→(execOp a.eval o).run P w= .ok (.value u) w:=fun u hu=>by
  unfold execOp;simp only [ho,Sem.run_bind,hu];rfl
 have hdx:=h.ev x;unfold zkp at hf;split at hf
 ·rename_i key elem kv b hu hk hx;have ek:=zaU hk (h.ev k);rw [hx] at hdx;simp only [den] at hdx;obtain ⟨y,c,hy,ex⟩:=hdx;split at hf
  ·rename_i cells hm;obtain ⟨bk,y',c',hb,rfl,hkd,hy',⟨vs,n,hd,hl,hh⟩,_⟩:=hs.blkM hm;rw [hy] at hy';obtain ⟨rfl,rfl⟩:=zNb (zM8 hy');split at hf
   ·rename_i ks kind hks hkind;have hemp:(zI 0 vs).toArray.isEmpty=zKp ks:=by
     have h1:=zoT hks hd;have h2:=zoI _ 0 vs h1;cases ks with
     |nil=>simp [zKp,zNj.1 h2]
     |cons k0 ks=>
      simp only [zKp];cases he:zI 0 vs with
      |nil=>rw [he] at h2;simp at h2
      |cons e l=>rfl
    split at hf
    ·rename_i u1 i hck hi;obtain ⟨hfind,hlt⟩:=ztm (zn hkind) w hks hd hi;rw [zei] at hf;split at hf
     ·rename_i v' hv;obtain rfl:=zM8 hf;obtain ⟨u,hu',hdu⟩:=zeX _ hd hv;have hu'':vs[2*i+1]? =some u:=hu';refine ⟨if ok then .tuple #[u, .bool true] else u,hex _ ?_,?_⟩
      ·unfold Instr.lookup;simp [Sem.run_bind,run_underlying (zn hu),ex,ek,MapKept.run_getObj_map (P:=P) hh, -List.isEmpty_toArray,hemp,z2 hck,hfind,hit,hu'']
      ·cases ok
       ·exact hdu
       ·simp only [zKC,den,if_true,dens];exact ⟨_,rfl,u,_,rfl,hdu, .bool true,[],rfl,rfl,rfl⟩
     ·cases hf
    ·rename_i u1 hck hi;obtain ⟨hfind,_⟩:=ztm (zn hkind) w hks hd hi;split at hf
     ·rename_i z hz;obtain rfl:=zM8 hf;refine ⟨if ok then .tuple #[z, .bool false] else z,hex _ ?_,?_⟩
      ·unfold Instr.lookup;simp [Sem.run_bind,run_underlying (zn hu),ex,ek,MapKept.run_getObj_map (P:=P) hh, -List.isEmpty_toArray,hemp,z2 hck,hfind,hit,z2 hz]
      ·cases ok
       ·exact zeU z
       ·simp only [zKC,den,if_true,dens];exact ⟨_,rfl,z,_,rfl,zeU z, .bool false,[],rfl,rfl,rfl⟩
     ·cases hf
    ·cases hf
   ·cases hf
  ·cases hf
 ·rename_i kv v' hu hk hx;have ek:=zaU hk (h.ev k);rw [hx] at hdx;simp only [den] at hdx;split at hf
  ·rename_i cs hv;obtain rfl:=zM8 hf;refine ⟨_,hex _ (by rw [hdx,ek];exact z2 hv w),?_⟩
   simp only [den];exact ⟨_,by simp,zoE _⟩
  ·rename_i r _ hv;obtain rfl:=zM8 hf;exact ⟨_,hex _ (by rw [hdx,ek];exact z2 hv w),zeU _⟩
  ·cases hf
 ·cases hf
theorem zta {x:AV} {u:Value} (hx:den ρ x u):∀{l:List AV} {vs:List Value} (i:Nat),dens ρ l vs→dens ρ (l.set i x) (vs.set i u)
 |[],vs,i,h=>by simp only [dens] at h;subst h;simp [dens]
 |y::l,vs,0,h=>by
  simp only [dens] at h;obtain ⟨v,vs',rfl,h1,h2⟩:=h;simp only [List.set_cons_zero,dens];exact ⟨u,vs',rfl,hx,h2⟩
 |y::l,vs,i+1,h=>by
  simp only [dens] at h;obtain ⟨v,vs',rfl,h1,h2⟩:=h;simp only [List.set_cons_succ,dens];exact ⟨v,_,rfl,h1,zta hx i h2⟩
def zrM (P:Program) [Fast P] (t:TypeId) (x k v:AV) (st:St):Option St:=
 match zeo P t,zgV k,x with
 |some (.map key _),some kv, .mp b=>match zJh st.h b,st.wr b with
  |some cells,true=>match zjZ cells,zeo P key with
   |some ks,some kind=>match zbW P (Instr.checkKey false 10000 key kv),zKo P kind key kv ks with
    |some _,some (some i)=>match zg5 ks i with
     |some old=>match zbW P (Instr.keyThatStays old kv) with
      |some kk=>some ⟨st.h.set b ⟨0,(cells.set (Nat.mul 2 i) (AV.of kk)).set (Nat.succ (Nat.mul 2 i)) v,some 0⟩,st.n,st.wr⟩
      |none=>none
     |none=>none
    |some _,some none=>some ⟨st.h.set b ⟨0,cells++[AV.of kv,v],some 0⟩,st.n,st.wr⟩
    |_,_=>none
   |_,_=>none
  |_,_=>none
 |_,_,_=>none
theorem zvk:∀{cells:List AV} {vs ks:List Value} (i:Nat) {k:Value},zjZ cells=some ks→dens ρ cells vs→ks[i]? =some k→vs[2*i]? =some k
 |[],vs,ks,i,k,h,hd,hk=>by obtain rfl:=zM8 h;simp at hk
 |[_],vs,ks,i,k,h,hd,hk=>by simp [zjZ] at h
 |x::y::l,vs,ks,i,k,h,hd,hk=>by
  simp only [zjZ] at h;split at h
  ·rename_i kv ks' hk' hks;obtain rfl:=zM8 h;simp only [dens] at hd;obtain ⟨v1,_,rfl,d1,v2,vs',rfl,d2,d3⟩:=hd;have e1:=zaU hk' d1;subst e1;cases i with
   |zero=>simpa using hk
   |succ i=>
    have:=zvk i hks d3 (by simpa using hk)
    rw [show 2*(i+1)=2*i+1+1 by omega]
    simpa using this
  ·cases h
theorem zEu (w:World) (r:Nat) (o:Obj):Kp (fun b=>b<w.heap.size∧b≠r) w {w with heap:=w.heap.setIfInBounds r o}:=
 ⟨rfl,rfl,rfl,by simp,fun k hk=>by simp only;rw [Array.getElem?_setIfInBounds_ne (fun e=>hk.2 e.symm)]⟩
theorem zvz {o:Oper} {t:TypeId} {x k y:Operand} (ho:o.op= .mapUpdate t x k y∨o.op= .insert t x k y) (h:TR ρ nt tm a) (hs:Sim K w0 ρ st w) (hf:zrM P t (ev tm x) (ev tm k) (ev tm y) st=some st'):
  ∃w',(execOp a.eval o).run P w= .ok .skip w'∧Sim K w0 ρ st' w'∧st'.n=st.n∧st'.wr=st.wr:=by
 have hex:∀w',(Instr.mapUpdate t (a.eval x) (a.eval k) (a.eval y)).run P w= .ok () w'→(execOp a.eval o).run P w= .ok .skip w':=fun w' hu=>by
  unfold execOp;rcases ho with ho|ho<;>simp only [ho,Sem.run_bind,hu]<;>rfl
 have hdx:=h.ev x;have hdy:=h.ev y;unfold zrM at hf;split at hf
 ·rename_i key elem kv b hu hk hx;have ek:=zaU hk (h.ev k);rw [hx] at hdx;simp only [den] at hdx;obtain ⟨z,c,hz,ex⟩:=hdx;split at hf
  ·rename_i cells hm hwr;obtain ⟨bk,z',c',hb,rfl,hkd,hz',⟨vs,n,hd,hl,hh⟩,_⟩:=hs.blkM hm;rw [hz] at hz';obtain ⟨rfl,rfl⟩:=zNb (zM8 hz');have hlt:=zC5 hh;have fin:∀(cells':List AV) (vs':List Value) (n':Nat),dens ρ cells' vs'→vs'.length=2*n'→(Instr.mapUpdate t (a.eval x) (a.eval k) (a.eval y)).run P w= .ok () {w with heap:=w.heap.setIfInBounds z (.map (zI 0 vs').toArray n')}→
     st'=⟨st.h.set b ⟨0,cells',some 0⟩,st.n,st.wr⟩→∃w',(execOp a.eval o).run P w= .ok .skip w'∧Sim K w0 ρ st' w'∧st'.n=st.n∧st'.wr=st.wr:=by
    rintro cells' vs' n' hd' hl' hr rfl
    refine ⟨_,hex _ hr,hs.write b hb hwr hz (.inr hkd) _ _ (zEu w z _) (fun S=>BkR.map hd' hl' ?_),rfl,rfl⟩;simp [Array.getElem?_setIfInBounds_self_of_lt hlt]
   split at hf
   ·rename_i ks kind hks hkind;have hn:n=ks.length:=by have:=zoT hks hd;omega
    split at hf
    ·rename_i u1 i hck hi;obtain ⟨hfind,hlti⟩:=ztm (zn hkind) w hks hd hi;have hin:i<n:=by have:=hlti i rfl;omega
     split at hf
     ·rename_i old hold;rw [zei] at hold;split at hf
      ·rename_i kk hkk;have hvs:=zvk i hks hd hold;obtain ⟨k0,v0,g1,g2,g3⟩:=zoH n 0 i vs hl hin;rw [hvs] at g1;obtain rfl:=zM8 g1;refine fin ((bk.cells.set (2*i) (AV.of kk)).set (2*i+1) (ev tm y)) ((vs.set (2*i) kk).set (2*i+1) (a.eval y)) n (zta hdy _ (zta (zeU kk) _ hd)) (by simpa using hl) ?_ (zM8 hf).symm
       unfold Instr.mapUpdate;simp [Sem.run_bind,run_underlying (zn hu),ex,ek,MapKept.run_getObj_map (P:=P) hh,z2 hck,hfind,hit,g3,z2 hkk,MapKept.run_setObj_map (P:=P) _ hh];rw [←zoJ kk (a.eval y) n 0 i vs hl hin]
      ·cases hf
     ·cases hf
    ·rename_i u1 hck hi;obtain ⟨hfind,_⟩:=ztm (zn hkind) w hks hd hi;refine fin (bk.cells++[AV.of kv,ev tm y]) (vs++[kv,a.eval y]) (n+1) (zaq hd (by simp only [dens];exact ⟨kv,_,rfl,zeU kv,_,_,rfl,hdy,rfl⟩)) (by simp;omega) ?_ (zM8 hf).symm
     unfold Instr.mapUpdate;simp [Sem.run_bind,run_underlying (zn hu),ex,ek,MapKept.run_getObj_map (P:=P) hh,z2 hck,hfind,hit,MapKept.run_setObj_map (P:=P) _ hh];rw [znk kv (a.eval y) n 0 vs hl];simp
    ·cases hf
   ·cases hf
  ·cases hf
 ·cases hf
def zn2 (P:Program) [Fast P] (tm:T AV) (t:TypeId) (r:Option Operand) (st:St):Option (AV×St):=
 match zeo P t,r with
 |some (.map _ _),none=>some (.mp st.n,zB8 0 [] (some 0) st)
 |some (.map _ _),some x=>match zDd (ev tm x) with
  |some _=>some (.mp st.n,zB8 0 [] (some 0) st)
  |none=>none
 |_,_=>none
theorem zx4 {o:Oper} {t:TypeId} {r:Option Operand} {v:AV} (ho:o.op= .makeMap t r) (h:TR ρ nt tm a) (hs:Sim K w0 ρ st w) (hf:zn2 P tm t r st=some (v,st')):
  ∃u w' ρ',(execOp a.eval o).run P w= .ok (.value u) w'∧Ext st.n st'.n ρ ρ'∧Sim K w0 ρ' st' w'∧den ρ' v u:=by
 have new:=hs.new ⟨0,[],some 0⟩ (.of 0) (.map #[] 0) (fun S=>BkR.map (vs:=[]) (n:=0) (by simp only [dens]) rfl (heap_alloc_new w _))
 have fin:(Instr.makeMap t (r.map a.eval)).run P w= .ok (.map (some w.heap.size)) (w.alloc (.map #[] 0))→v= .mp st.n→st'=zB8 0 [] (some 0) st→∃u w' ρ',(execOp a.eval o).run P w= .ok (.value u) w'∧Ext st.n st'.n ρ ρ'∧Sim K w0 ρ' st' w'∧den ρ' v u:=by
  rintro hr rfl rfl
  refine ⟨_,_,_,?_,new.2,new.1,by simp only [den];exact ⟨_,_,zuq,rfl⟩⟩
  unfold execOp;simp only [ho,Sem.run_bind,hr];rfl
 unfold zn2 at hf;split at hf
 ·obtain ⟨e1,e2⟩:=zNb (zM8 hf);exact fin (by simp [Instr.makeMap]) e1.symm e2.symm
 ·rename_i k e x hu;split at hf
  ·rename_i p hp;obtain ⟨e1,e2⟩:=zNb (zM8 hf);obtain ⟨ik,n⟩:=p;have ei:=zk7 hp (h.ev x);exact fin (by simp [Instr.makeMap,Sem.run_bind,run_underlying (zn hu),ei,asInt,asIntOf]) e1.symm e2.symm
  ·cases hf
 ·cases hf
def zFq (P:Program) [Fast P] (ts:Array TypeId) (args:List AV) (st:St):Option (AV×St):=
 match ts[0]?,args with
 |some t,[.sl b off len _ _,s]=>match zeo P t with
  |some (.slice E)=>match zeg P E with
   |some size=>match zKA size s st with
    |some (m,l)=>match Nat.min m len with
     |0=>some (.lit (.int .i64 (Int.ofNat 0)),st)
     |n+1=>match zk4 st.h b with
      |some bk=>match st.wr b&&Nat.ble (Nat.add off (Nat.mul (Nat.succ n) size)) bk.cells.length with
       |true=>some (.lit (.int .i64 (Int.ofNat (Nat.succ n))),⟨st.h.set b ⟨bk.ty,zje bk.cells off (l.take (Nat.mul (Nat.succ n) size)),bk.op⟩,st.n,st.wr⟩)
       |false=>none
      |none=>none
    |none=>none
   |none=>none
  |_=>none
 |_,_=>none
theorem zFr {o:Oper} {args:Array Operand} {ts:Array TypeId} {v:AV} (ho:o.op= .call {callee:= .builtin .copy,args:=args,argTypes:=ts}) (h:TR ρ nt tm a) (hs:Sim K w0 ρ st w) (hf:zFq P ts (args.toList.map (ev tm)) st=some (v,st')):
  ∃u w',(execOp a.eval o).run P w= .ok (.value u) w'∧Sim K w0 ρ st' w'∧st'.n=st.n∧st'.wr=st.wr∧den ρ v u:=by
 have hd:=zbZ h args.toList;have hex:(execOp a.eval o).run P w=(builtin .copy ts o.type (args.map fun| .const _=>true|_=>false) (args.map a.eval)).run P w:=by
  unfold execOp;simp only [ho,resolve,Sem.run_bind,Sem.run_pure,Result.andThen_ok,invoke];rfl
 rw [hex];have hargs:args.map a.eval=(args.toList.map a.eval).toArray:=by rw [←Array.toList_map]
 rw [hargs];generalize args.toList.map a.eval=vs at hd;generalize args.toList.map (ev tm)=l at hd hf;generalize (args.map fun| .const _=>true|_=>false)=cs
 unfold zFq at hf;split at hf
 ·rename_i t b off len cap op s ht;simp only [dens] at hd;obtain ⟨du,_,rfl,hdu,su,_,rfl,hsu,rfl⟩:=hd;simp only [den] at hdu;obtain ⟨x,c,hx,rfl,_⟩:=hdu;split at hf
  ·rename_i E hu;split at hf
   ·rename_i size hsz;split at hf
    ·rename_i m l hsrc;obtain ⟨A,c',us,rfl,hdl,hul,h1,hB⟩:=zEL hs hsu hsrc;have fc:∀n,n≤m→(Builtin.firstCells size n (.slice A m c')).run P w= .ok (us.take (n*size)).toArray w:=by
      intro n hn;rcases zNl m with hm|hm
      ·obtain rfl:n=0:=by omega
       cases A with
       |none=>simp [Builtin.firstCells]
       |some ad=>
        have:=run_firstCells_some (P:=P) (w:=w) size 0 ad m c' [] (by simp) (by intro j v h;simp at h)
        simpa using this
      ·obtain ⟨ad,rfl,hc⟩:=hB hm;refine run_firstCells_some (P:=P) (w:=w) size n ad m c' _ ?_ ?_
       ·rw [List.length_take,hul];have:n*size≤m*size:=zNe _ hn;omega
       ·intro j v hj;rw [List.getElem?_take] at hj;split at hj
        ·exact hc j v hj
        ·cases hj
     have hrun:∀(n:Nat) (w':World),Nat.min m len=n→(storeCells ⟨x,off,none⟩ (us.take (n*size))).run P w= .ok () w'→
       (builtin .copy ts o.type cs #[.slice (some ⟨x,off,none⟩) len (if op then c.n - cap else cap), .slice A m c']).run P w= .ok (.value (goInt n)) w':=by
      intro n w' hn hst;have hnm:n≤m:=by rw [←hn];exact Nat.min_le_left _ _
      simp [builtin,Builtin.copy_,Sem.run_bind,ht,run_underlying (zn hu),Builtin.lenOf,zaa hsz,hn,fc n hnm,hst]
     split at hf
     ·rename_i hn;obtain ⟨rfl,rfl⟩:=zNb (zM8 hf);exact ⟨_,w,hrun 0 w hn (by simp [storeCells]),hs,rfl,rfl,by simp only [den];rfl⟩
     ·rename_i n hn;split at hf
      ·rename_i bk hb;split at hf
       ·rename_i hcc;simp only [Bool.and_eq_true] at hcc;obtain ⟨rfl,rfl⟩:=zNb (zM8 hf);have hle:off+(n+1)*size≤bk.cells.length:=zNc hcc.2;have hnm:n+1≤m:=by
         have h9:Nat.min m len≤m:=Nat.min_le_left m len;have hn':Nat.min m len=n+1:=hn;omega
        have hll:=zL hdl;obtain ⟨w',hst,hsim⟩:=hs.cells (P:=P) hb hcc.1 hx (zcb ((n+1)*size) hdl) (fun u hu=>h1 u (List.mem_of_mem_take hu)) (by
         exact zNf (Nat.add_le_add_left (List.length_take_le _ _) _) hle)
        exact ⟨_,w',hrun (n+1) w' hn hst,hsim,rfl,rfl,by simp only [den];rfl⟩
       ·cases hf
      ·cases hf
    ·cases hf
   ·cases hf
  ·cases hf
 ·cases hf
def zCu (P:Program) [Fast P] (ts:Array TypeId) (args:List AV):Option AV:=
 match ts[0]?,args with
 |some t,[.emp]=>match zeo P t with|some _=>some (.lit (.tuple #[]))|none=>none
 |some t,[.sl _ _ 0 _ _]=>match zeo P t with|some _=>some (.lit (.tuple #[]))|none=>none
 |some t,[.lit (.slice none _ _)]=>match zeo P t with|some _=>some (.lit (.tuple #[]))|none=>none
 |_,_=>none
theorem zCv {o:Oper} {args:Array Operand} {ts:Array TypeId} {v:AV} (ho:o.op= .call {callee:= .builtin .clear,args:=args,argTypes:=ts}) (h:TR ρ nt tm a) (hf:zCu P ts (args.toList.map (ev tm))=some v):Yields P ρ o a v:=by
 intro w;have hd:=zbZ h args.toList;have hex:(execOp a.eval o).run P w=(builtin .clear ts o.type (args.map fun| .const _=>true|_=>false) (args.map a.eval)).run P w:=by
  unfold execOp;simp only [ho,resolve,Sem.run_bind,Sem.run_pure,Result.andThen_ok,invoke];rfl
 rw [hex];have hargs:args.map a.eval=(args.toList.map a.eval).toArray:=by rw [←Array.toList_map]
 rw [hargs];generalize args.toList.map a.eval=vs at hd;generalize args.toList.map (ev tm)=l at hd hf;generalize (args.map fun| .const _=>true|_=>false)=cs
 have fin:∀(t:TypeId) (d:TypeDesc) (A:Option Addr) (n c:Nat),ts[0]? =some t→P.underlying t=some d→(A=none∨n=0)→(builtin .clear ts o.type cs #[.slice A n c]).run P w= .ok (.value (.tuple #[])) w:=by
  intro t d A n c ht hu hor;rcases hor with rfl|rfl
  ·simp [builtin,Builtin.clear_,Sem.run_bind,ht,run_underlying hu]
  ·cases A<;>simp [builtin,Builtin.clear_,Sem.run_bind,ht,run_underlying hu]
 unfold zCu at hf;split at hf
 ·rename_i t ht;simp only [dens,den] at hd;obtain ⟨_,_,rfl,⟨A,c,rfl⟩,rfl⟩:=hd;split at hf
  ·rename_i d hu;obtain rfl:=zM8 hf;exact ⟨_,fin t d A 0 c ht (zn hu) (.inr rfl),by simp only [den]⟩
  ·cases hf
 ·rename_i t b off cap op ht;simp only [dens,den] at hd;obtain ⟨_,_,rfl,⟨y,c,hy,rfl,_⟩,rfl⟩:=hd;split at hf
  ·rename_i d hu;obtain rfl:=zM8 hf;exact ⟨_,fin t d _ 0 _ ht (zn hu) (.inr rfl),by simp only [den]⟩
  ·cases hf
 ·rename_i t n c ht;simp only [dens,den] at hd;obtain ⟨_,_,rfl,rfl,rfl⟩:=hd;split at hf
  ·rename_i d hu;obtain rfl:=zM8 hf;exact ⟨_,fin t d none n c ht (zn hu) (.inl rfl),by simp only [den]⟩
  ·cases hf
 ·cases hf
def zze (P:Program) [Fast P] (ts:Array TypeId) (args:List AV) (st:St):Option (AV×St):=
 match ts[0]?,args with
 |some t,[.sl b off (n+1) _ _]=>match zeo P t with
  |some (.slice E)=>match znf P E,zk4 st.h b with
   |some z,some bk=>match st.wr b&&(z.all AV.one&&Nat.ble (Nat.add off (zCa z (Nat.succ n)).length) bk.cells.length) with
    |true=>some (.lit (.tuple #[]),⟨st.h.set b ⟨bk.ty,zje bk.cells off (zCa z (Nat.succ n)),bk.op⟩,st.n,st.wr⟩)
    |false=>none
   |_,_=>none
  |_=>none
 |_,_=>none
theorem zCw {o:Oper} {args:Array Operand} {ts:Array TypeId} {v:AV} (ho:o.op= .call {callee:= .builtin .clear,args:=args,argTypes:=ts}) (h:TR ρ nt tm a) (hs:Sim K w0 ρ st w) (hf:zze P ts (args.toList.map (ev tm)) st=some (v,st')):
  ∃u w',(execOp a.eval o).run P w= .ok (.value u) w'∧Sim K w0 ρ st' w'∧st'.n=st.n∧st'.wr=st.wr∧den ρ v u:=by
 have hd:=zbZ h args.toList;have hex:(execOp a.eval o).run P w=(builtin .clear ts o.type (args.map fun| .const _=>true|_=>false) (args.map a.eval)).run P w:=by
  unfold execOp;simp only [ho,resolve,Sem.run_bind,Sem.run_pure,Result.andThen_ok,invoke];rfl
 rw [hex];have hargs:args.map a.eval=(args.toList.map a.eval).toArray:=by rw [←Array.toList_map]
 rw [hargs];generalize args.toList.map a.eval=vs at hd;generalize args.toList.map (ev tm)=l at hd hf;generalize (args.map fun| .const _=>true|_=>false)=cs
 unfold zze at hf;split at hf
 ·rename_i t b off n cap op ht;simp only [dens,den] at hd;obtain ⟨_,_,rfl,⟨y,c,hy,rfl,_⟩,rfl⟩:=hd;split at hf
  ·rename_i E hu;split at hf
   ·rename_i z bk hz hb;split at hf
    ·rename_i hcc;simp only [Bool.and_eq_true] at hcc;obtain ⟨c1,c2,c3⟩:=hcc;have c3:off+(zCa z (n+1)).length≤bk.cells.length:=zNc c3;obtain ⟨rfl,rfl⟩:=zNb (zM8 hf);unfold znf at hz;cases hi:zd0 P E with
     |none=>rw [hi] at hz;cases hz
     |some i=>
      rw [hi] at hz;simp only at hz;cases hzz:i.zero with
      |none=>rw [hzz] at hz;cases hz
      |some zz=>
       rw [hzz] at hz;simp only at hz;obtain rfl:=zM8 hz;have hdz:=zlK (ρ:=ρ) (zaE zz.cells.toList) (n+1);have h1:=zhH hdz (zoc c2 (n+1));obtain ⟨w',hst,hsim⟩:=hs.cells (P:=P) hb c1 hy hdz h1 c3;refine ⟨.tuple #[],w',?_,hsim,rfl,rfl,by simp only [den]⟩
       have hm:(Builtin.zeroCells zz.cells (n+1)).toList=(List.replicate (n+1) zz.cells.toList).flatten:=by
        have:=zkq zz.cells.toList (n+1);simpa [madeCells,Builtin.zeroCells] using this
       simp [builtin,Builtin.clear_,Sem.run_bind,ht,run_underlying (zn hu),zeroValue,znZ (zad hi),hzz,hm,hst]
    ·cases hf
   ·cases hf
  ·cases hf
 ·cases hf
def zxJ (P:Program) [Fast P] (s t:TypeId) (x:AV) (st:St):Option (AV×St):=none
theorem zAH {o:Oper} {s t:TypeId} {x:Operand} {v:AV} (ho:o.op= .convert s t x) (h:TR ρ nt tm a) (hs:Sim K w0 ρ st w) (hf:zxJ P s t (ev tm x) st=some (v,st')):
 ∃u w',(execOp a.eval o).run P w= .ok (.value u) w'∧Sim K w0 ρ st' w'∧st'.n=st.n∧st'.wr=st.wr∧den ρ v u:=by cases hf
variable {P:Program} [Fast P] {ρ ρ':Rho} {nt:Nat} {tm:T AV} {a:Act} {w w0 w':World} {K:KS} {st st':St}
def zLf (op:BinOp) (u v:AV):Option (Bool×AV):=match op,u,v with
 | .quo, .lit (.int k a), .lit (.int j b)=>match decide (k=j) with
   |true=>some (decide (b≠0), .lit (.int k (k.wrap (a.tdiv b))))
   |false=>none
 | .rem, .lit (.int k a), .lit (.int j b)=>match decide (k=j) with
   |true=>some (decide (b≠0), .lit (.int k (a.tmod b)))
   |false=>none
 |_,_,_=>none
theorem zHC {o:Oper} {op:BinOp} {t yt:TypeId} {x y:Operand} {v:AV} {p:Bool} (ho:o.op= .binOp op t x y yt) (h:TR ρ nt tm a) (hf:zLf op (ev tm x) (ev tm y)=some (p,v)) (hp:p=true):Yields P ρ o a v:=by
 intro w;have hx:=h.ev x;have hy:=h.ev y;unfold zLf at hf;split at hf
 all_goals first
  |(cases hf;done)
  |(rename_i k m j n e1 e2
    rw [e1] at hx;rw [e2] at hy;simp only [den] at hx hy;split at hf
    ·rename_i hk;have hk:=of_decide_eq_true hk;subst hk;obtain ⟨rfl,rfl⟩:=zNb (zM8 hf);have hp:=of_decide_eq_true hp;refine ⟨_,?_,by simp only [den];exact rfl⟩
     unfold execOp;simp [ho,hx,hy,binOp,eqGuard,Op.intDiv,Sem.run_bind,hp]
    ·cases hf)
def zKk (P:Program) [Fast P] (e:TypeId→AV→AV→Option Bool) (xs ys:List AV):List Field→Option Bool
 |[]=>some true
 |f::fs=>match f.name== "_",zDL P f.type xs f.offset,zDL P f.type ys f.offset with
  |false,some u,some v=>match e f.type u v,zKk P e xs ys fs with
   |some b,some r=>some (and b r)
   |_,_=>none
  |_,_,_=>none
def eqT (P:Program) [Fast P]:Nat→TypeId→AV→AV→Option Bool
 |0,_,_,_=>none
 |d+1,t,x,y=>match zeo P t with
  |some .bool=>match x,y with
   | .lit (.bool a), .lit (.bool b)=>some (a==b)
   |_,_=>none
  |some (.int _)=>match x,y with
   | .lit (.int k a), .lit (.int j b)=>match decide (k=j) with
     |true=>some (a==b)
     |false=>none
   |_,_=>none
  |some .string=>match x,y with
   | .lit (.string a), .lit (.string b)=>some (a==b)
   |_,_=>none
  |some (.struct fs)=>match x,y,P.stoodInHeld t with
   | .agg xs, .agg ys,false=>zKk P (fun t x y=>eqT P d t x y) xs ys fs.toList
   |_,_,_=>none
  |_=>none
theorem zGV:∀(n:Nat) {d:Nat} (hd:n≤d) {t:TypeId} {x y:AV} {r:Bool} {u v:Value},eqT P n t x y=some r→den ρ x u→den ρ y v→∀w,(Op.equalIn d t u v).run P w= .ok r w
 |0,_,_,_,_,_,_,_,_,h,_,_,_=>nomatch h
 |n+1,0,hd,_,_,_,_,_,_,_,_,_,_=>by omega
 |n+1,d+1,hd,t,x,y,r,u,v,h,hx,hy,w=>by
  unfold eqT at h;split at h
  ·rename_i hu;split at h
   ·rename_i a b;obtain rfl:=zM8 h;simp only [den] at hx hy;subst hx;subst hy;unfold Op.equalIn;simp [Sem.run_bind,run_underlying (zn hu)]
   ·cases h
  ·rename_i k0 hu;split at h
   ·rename_i k a j b;split at h
    ·rename_i hk;have hk:=of_decide_eq_true hk;subst hk;obtain rfl:=zM8 h;simp only [den] at hx hy;subst hx;subst hy;unfold Op.equalIn;simp [Sem.run_bind,run_underlying (zn hu)]
    ·cases h
   ·cases h
  ·rename_i hu;split at h
   ·rename_i a b;obtain rfl:=zM8 h;simp only [den] at hx hy;subst hx;subst hy;unfold Op.equalIn;simp [Sem.run_bind,run_underlying (zn hu)]
   ·cases h
  ·rename_i fs hu;split at h
   ·rename_i xs ys hst;simp only [den] at hx hy;obtain ⟨us,rfl,hus⟩:=hx;obtain ⟨vs,rfl,hvs⟩:=hy;have loop:∀(l:List Field) (r:Bool),zKk P (fun t x y=>eqT P n t x y) xs ys l=some r→
      (forIn l ((none,()):Option Bool×Unit) (fun f (_:Option Bool×Unit)=>if f.name= "_" then (pure (ForInStep.yield (none,())):Sem _) else do
       let b ←Op.equalIn d f.type (←part f.type us.toArray f.offset) (←part f.type vs.toArray f.offset)
       if b=false then pure (ForInStep.done (some false,())) else pure (ForInStep.yield (none,())))).run P w= .ok (if r then none else some false,()) w:=by
     intro l
     induction l with
     |nil=>intro r h;obtain rfl:=zM8 h;rfl
     |cons f l ih=>
      intro r h;simp only [zKk] at h;split at h
      ·rename_i u1 v1 hn hpu hpv;split at h
       ·rename_i b r' hb hr;obtain rfl:=zM8 h;obtain ⟨u2,hru,hdu⟩:=ztH hpu hus w;obtain ⟨v2,hrv,hdv⟩:=ztH hpv hvs w;have h1:=zGV n (d:=d) (by omega) hb hdu hdv w
        have hn':¬f.name= "_" :=by simpa using hn
        cases b
        ·simp [List.forIn_cons,hn',Sem.run_bind,hru,hrv,h1]
        ·simp [List.forIn_cons,hn',Sem.run_bind,hru,hrv,h1,ih r' hr]
       ·cases h
      ·cases h
    have hl:=loop fs.toList r h;unfold Op.equalIn;simp [Sem.run_bind,run_underlying (zn hu),hst];rw [←Array.forIn_toList,hl];cases r<;>rfl
   ·cases h
  ·cases h
def zvh:AV→Bool
 | .agg _=>true
 |_=>false
def eqA (P:Program) [Fast P] (op:BinOp) (t:TypeId) (u v:AV):Option AV:=match op,zvh u&&zvh v,P.eqGuardType P.depth t with
 | .eql,true,false=>match eqT P 100 t u v with
   |some b=>some (.lit (.bool b))
   |none=>none
 | .neq,true,false=>match eqT P 100 t u v with
   |some b=>some (.lit (.bool (!b)))
   |none=>none
 |_,_,_=>none
theorem zJc {o:Oper} {op:BinOp} {t yt:TypeId} {x y:Operand} {v:AV} (ho:o.op= .binOp op t x y yt) (h:TR ρ nt tm a) (hf:eqA P op t (ev tm x) (ev tm y)=some v):Yields P ρ o a v:=by
 intro w;have hx:=h.ev x;have hy:=h.ev y;have key:∀{b},eqT P 100 t (ev tm x) (ev tm y)=some b→(zvh (ev tm x)&&zvh (ev tm y))=true→P.eqGuardType P.depth t=false→∃us vs:Array Value,a.eval x= .agg us∧a.eval y= .agg vs∧(Op.equal t (.agg us) (.agg vs)).run P w= .ok b w∧(eqGuard op t x y (.agg us) (.agg vs)).run P w= .ok () w:=by
  intro b hb hg hq;have hr:=zGV 100 (d:=Op.maxDepth) (by decide) hb hx hy w
  simp only [Bool.and_eq_true] at hg;obtain ⟨hg1,hg2⟩:=hg;unfold zvh at hg1 hg2;split at hg1
  ·rename_i xs hxs;split at hg2
   ·rename_i ys hys;rw [hxs] at hx;rw [hys] at hy;simp only [den] at hx hy;obtain ⟨us,eu,_⟩:=hx;obtain ⟨vs,ev',_⟩:=hy;refine ⟨us.toArray,vs.toArray,eu,ev',by rw [←eu, ←ev'];exact hr,?_⟩
    unfold eqGuard;split<;>simp [Sem.run_bind,run_program,hq]
   ·cases hg2
  ·cases hg1
 unfold eqA at hf;split at hf
 ·rename_i hg hq;split at hf
  ·rename_i b hb;obtain rfl:=zM8 hf;obtain ⟨us,vs,e1,e2,h1,h2⟩:=key hb hg hq;refine ⟨.bool b,?_,by simp only [den]⟩
   unfold execOp;simp [ho,e1,e2,Sem.run_bind,h2,binOp,h1]
  ·cases hf
 ·rename_i hg hq;split at hf
  ·rename_i b hb;obtain rfl:=zM8 hf;obtain ⟨us,vs,e1,e2,h1,h2⟩:=key hb hg hq;refine ⟨.bool (!b),?_,by simp only [den]⟩
   unfold execOp;simp [ho,e1,e2,Sem.run_bind,h2,binOp,h1]
  ·cases hf
 ·cases hf
variable {P:Program} [Fast P] {ρ ρ':Rho} {nt:Nat} {tm:T AV} {a:Act} {w w0 w':World} {K:KS} {st st':St}
def zrW:AV→Option (Nat×Nat×Path×Nat×Nat×(Nat→Nat))
 | .lv j k p sz lo n=>some (j,k,p,sz,n,fun i=>lo+i)
 | .lw j k p sz n=>some (j,k,p,sz,n,fun i=>i)
 |_=>none
theorem zmt {x:AV} {v:Value} {j k:Nat} {p:Path} {sz n:Nat} {f:Nat→Nat} (h:zrW x=some (j,k,p,sz,n,f)) (hd:den ρ x v):∃lo,(∀i,f i=lo+i)∧∃g,hdrOf ρ j k p g∧LvR g sz lo n v:=by
 cases x with
 |lv j k p sz lo n=>
  simp only [zrW,zNn,Prod.mk.injEq] at h;obtain ⟨rfl,rfl,rfl,rfl,rfl,rfl⟩:=h;simp only [den] at hd;exact ⟨lo,fun _=>rfl,hd⟩
 |lw j k p sz n=>
  simp only [zrW,zNn,Prod.mk.injEq] at h;obtain ⟨rfl,rfl,rfl,rfl,rfl,rfl⟩:=h;simp only [den] at hd;obtain ⟨g,h1,h2,_⟩:=hd;exact ⟨0,fun i=>(Nat.zero_add i).symm,g,h1,h2⟩
 |_=>cases h
def zh7 (s:ByteArray) (n:Nat):Int:=match s[n]? with
 |some b=>(b.toNat:Int)
 |none=>0
def zET (P:Program) [Fast P] (t:TypeId) (x i:AV):Option (Bool×AV):=match x,i with
 | .lit (.string s), .lit (.int _ z)=>match zeo P t with
   |some .string=>some (decide (0≤z∧z<(s.size:Int)), .lit (.int .u8 (zh7 s z.toNat)))
   |_=>none
 |_,_=>none
theorem zEU {o:Oper} {t:TypeId} {x i:Operand} {v:AV} {p:Bool} (ho:o.op= .index t x i) (h:TR ρ nt tm a) (hf:zET P t (ev tm x) (ev tm i)=some (p,v)) (hp:p=true):Yields P ρ o a v:=by
 intro w;have hx:=h.ev x;have hi:=h.ev i;unfold zET at hf;split at hf
 ·rename_i s k z ex ei;rw [ex] at hx;rw [ei] at hi;simp only [den] at hx hi;split at hf
  ·rename_i hu;obtain ⟨rfl,rfl⟩:=zNb (zM8 hf);have hp:=of_decide_eq_true hp;have hlt:z.toNat<s.size:=by omega
   have hg:s[z.toNat]? =some s[z.toNat]:=getElem?_pos s z.toNat hlt;refine ⟨.int .u8 (zh7 s z.toNat),?_,by simp only [den]⟩
   unfold execOp zh7;rw [hg];simp only [ho,hx,hi,Instr.index,asIntOf,Sem.run_bind,run_underlying (zn hu),Result.andThen_ok,Sem.run_pure,if_pos hp.1,hg]
  ·cases hf
 ·cases hf
def zxS (P:Program) [Fast P] (t:TypeId) (x i:AV):Option (Bool×AV):=match zrW x,i with
 |some (j,k,p,sz,n,f), .lit (.int _ z)=>match zeo P t with
  |some (.slice e)=>match zeg P e with
   |some s=>match Nat.beq s sz with
    |true=>some (decide (0≤z∧z<(n:Int)), .ep j k p sz (f z.toNat) 0)
    |false=>none
   |none=>none
  |_=>none
 |_,_=>none
theorem zA2 {o:Oper} {t:TypeId} {x i:Operand} {v:AV} {p:Bool} (ho:o.op= .indexAddr t x i) (h:TR ρ nt tm a) (hf:zxS P t (ev tm x) (ev tm i)=some (p,v)) (hp:p=true):Yields P ρ o a v:=by
 intro w;have hx:=h.ev x;have hi:=h.ev i;unfold zxS at hf;split at hf
 ·rename_i j k pp sz n f kk z ex ei;rw [ei] at hi;simp only [den] at hi;obtain ⟨lo,hf0,hx⟩:=zmt ex hx;split at hf
  ·rename_i e hu;split at hf
   ·rename_i s hs;split at hf
    ·rename_i hb;have hb:=zM9 hb;subst hb;obtain ⟨rfl,rfl⟩:=zNb (zM8 hf);obtain ⟨g,hg,h1,h2,A',e1,h3,h4⟩:=hx;obtain ⟨z0,z1⟩:=of_decide_eq_true hp;have z1:z<(n:Int):=z1;obtain ⟨b,of,e2,rfl⟩:=h4 (by omega)
     refine ⟨.pointer (some ⟨b,of+lo*s+z.toNat*s,none⟩),?_,?_⟩
     ·unfold execOp;simp [ho,e1,hi,Instr.indexAt,asIntOf,Sem.run_bind,run_underlying (zn hu),zaa hs,zaV,z0,z1]
     ·simp only [den,hf0];refine ⟨g,hg,?_,b,of,e2,?_⟩
      ·show lo+z.toNat<g.2.1;omega
      ·show _=Value.pointer (some ⟨b,of+(lo+z.toNat)*s+0,none⟩);rw [zNr];simp [Nat.add_assoc]
    ·cases hf
   ·cases hf
  ·cases hf
 ·cases hf
def zxQ (P:Program) [Fast P] (t:TypeId) (f:Nat) (x:AV):Option AV:=match x with
 | .ep j k p sz idx cell=>match zeo P t with
   |some (.struct fs)=>match fs[f]? with
    |some fd=>match zeg P fd.type with
     |some (_+1)=>some (.ep j k p sz idx (Nat.add cell fd.offset))
     |_=>none
    |none=>none
   |_=>none
 |_=>none
theorem zAX {o:Oper} {t:TypeId} {x:Operand} {f:Nat} {v:AV} (ho:o.op= .fieldAddr t x f) (h:TR ρ nt tm a) (hf:zxQ P t f (ev tm x)=some v):Yields P ρ o a v:=by
 intro w;have hd:=h.ev x;unfold zxQ at hf;split at hf
 ·rename_i j k p sz idx cell hx;rw [hx] at hd;simp only [den] at hd;obtain ⟨g,hg,hlt,b,of,e2,e⟩:=hd;split at hf
  ·rename_i fs hu;split at hf
   ·rename_i fd hfd;split at hf
    ·rename_i n hs;obtain rfl:=zM8 hf;refine ⟨.pointer (some ⟨b,of+idx*sz+(cell+fd.offset),none⟩),?_,by simp only [den];exact ⟨g,hg,hlt,b,of,e2,rfl⟩⟩
     unfold execOp;simp [ho,e,Instr.fieldAt,Sem.run_bind,run_underlying (zn hu),hfd,Instr.sureAddr,fieldPlace,zaa hs,zaV,Nat.add_assoc]
    ·cases hf
   ·cases hf
  ·cases hf
 ·cases hf
def zHm (tm:T AV) (d:Int):Option Operand→Option Int
 |none=>some d
 |some x=>match ev tm x with
  | .lit (.int _ z)=>some z
  |_=>none
theorem zkR (h:TR ρ nt tm a) {d z:Int} {y:Nat} {x:Option Operand} {code:BoundsCode} (hx:zHm tm d x=some z) (h0:0≤z) (hy:z≤y) (w:World):
  (x=none∧z=d)∨(∃x' k,x=some x'∧a.eval x'= .int k z∧(Instr.sliceBound (a.eval x') y code).run P w= .ok z.toNat w):=by
 cases x with
 |none=>exact .inl ⟨rfl,(zM8 hx).symm⟩
 |some x'=>
  unfold zHm at hx;simp only at hx;split at hx
  ·rename_i k m hi;obtain rfl:=zM8 hx;have e:=h.ev x';rw [hi] at e;simp only [den] at e;refine .inr ⟨x',k,rfl,e,?_⟩;rw [e];simp [Instr.sliceBound,asIntOf,Sem.run_bind,h0,hy]
  ·cases hx
def zyL (P:Program) [Fast P] (tm:T AV) (t:TypeId) (x:AV) (lo hi mx:Option Operand):Option (Bool×AV):=match zrW x with
 |some (j,k,p,sz,n,f)=>match zeo P t with
  |some (.slice e)=>match mx with
   |none=>match zeg P e,zHm tm 0 lo,zHm tm (n:Int) hi with
    |some s,some l,some h=>match Nat.beq s sz with
     |true=>some (decide (0≤l∧l≤h∧h≤(n:Int)), .lv j k p sz (f l.toNat) (h - l).toNat)
     |false=>none
    |_,_,_=>none
   |some m=>match zeg P e,zHm tm 0 lo,hi,zHm tm 1 hi,zHm tm 0 (some m) with
    |some s,some l,some _,some h,some m=>match decide (l=0),decide (h=0),decide (m=0) with
     |true,true,true=>some (true, .emz)
     |_,_,_=>none
    |_,_,_,_,_=>none
  |_=>none
 |_=>none
theorem zBY {o:Oper} {t:TypeId} {x:Operand} {lo hi mx:Option Operand} {v:AV} {p:Bool} (ho:o.op= .slice t x lo hi mx) (h:TR ρ nt tm a) (hf:zyL P tm t (ev tm x) lo hi mx=some (p,v)) (hp:p=true):Yields P ρ o a v:=by
 intro w;have hx:=h.ev x;unfold zyL at hf;split at hf
 ·rename_i j k pp sz n f ex;obtain ⟨of,hf0,hx⟩:=zmt ex hx;split at hf
  ·rename_i e hu;split at hf
   case h_2=>
    rename_i m;split at hf
    ·rename_i s l h' hh mm hs hl hm hhi;split at hf
     ·rename_i el eh em;have el:=of_decide_eq_true el;have eh:=of_decide_eq_true eh;have em:=of_decide_eq_true em;subst el;subst eh;subst em;obtain ⟨rfl,rfl⟩:=zNb (zM8 hf);obtain ⟨g,hg,h1,h2,A',e1,h3,h4⟩:=hx;have q3:∀code,(Instr.sliceBound (a.eval m) (g.2.2 - of) code).run P w= .ok 0 w:=fun code=>by
       rcases zkR (P:=P) (y:=g.2.2 - of) (code:=code) h hm (Int.le_refl 0) (by omega) w with ⟨e,_⟩|⟨x',k,e,_,hr⟩
       ·cases e
       ·obtain rfl:=zM8 e;exact hr
      have q1:∀code,(Instr.sliceBound (a.eval h') 0 code).run P w= .ok 0 w:=fun code=>by
       rcases zkR (P:=P) (y:=0) (code:=code) h hhi (Int.le_refl 0) (by omega) w with ⟨e,_⟩|⟨x',k,e,_,hr⟩
       ·cases e
       ·obtain rfl:=zM8 e;exact hr
      have q2:∀code,(match lo.map a.eval with|some v=>Instr.sliceBound v 0 code|none=>pure 0:Sem Nat).run P w= .ok 0 w:=fun code=>by
       rcases zkR (P:=P) (y:=0) (code:=code) h hl (Int.le_refl 0) (by omega) w with ⟨rfl,_⟩|⟨x',k,rfl,_,hr⟩
       ·rfl
       ·exact hr
      have rh:(Instr.sliceBounds true n (g.2.2 - of) (lo.map a.eval) (some (a.eval h')) (some (a.eval m))).run P w= .ok (0,0,0) w:=by
       unfold Instr.sliceBounds;cases lo<;>simp_all [Sem.run_bind]
      refine ⟨.slice A' 0 0,?_,by simp only [den];exact ⟨A',rfl⟩⟩
      unfold execOp;simp [ho,e1,Instr.sliceAt,Instr.slice,Sem.run_bind,run_underlying (zn hu),zaa hs,rh]
     ·cases hf
    ·cases hf
   split at hf
   ·rename_i s l hh hs hl hhi;split at hf
    ·rename_i hb;have hb:=zM9 hb;subst hb;obtain ⟨rfl,rfl⟩:=zNb (zM8 hf);obtain ⟨g,hg,h1,h2,A',e1,h3,h4⟩:=hx;obtain ⟨p1,p2,p3⟩:=of_decide_eq_true hp;have p3:hh≤(n:Int):=p3;have hcap:(n:Int)≤((g.2.2 - of:Nat):Int):=by omega
     have rh:(Instr.sliceBounds true n (g.2.2 - of) (lo.map a.eval) (hi.map a.eval) none).run P w= .ok (l.toNat,hh.toNat,g.2.2 - of) w:=by
      have q1:∀code,(match hi.map a.eval with|some v=>Instr.sliceBound v (g.2.2 - of) code|none=>pure n:Sem Nat).run P w= .ok hh.toNat w:=fun code=>by
       rcases zkR (P:=P) (y:=g.2.2 - of) (code:=code) h hhi (by omega) (by omega) w with ⟨rfl,rfl⟩|⟨x',k,rfl,_,hr⟩
       ·rfl
       ·exact hr
      have q2:∀code,(match lo.map a.eval with|some v=>Instr.sliceBound v hh.toNat code|none=>pure 0:Sem Nat).run P w= .ok l.toNat w:=fun code=>by
       rcases zkR (P:=P) (y:=hh.toNat) (code:=code) h hl (by omega) (by omega) w with ⟨rfl,rfl⟩|⟨x',k,rfl,_,hr⟩
       ·rfl
       ·exact hr
      unfold Instr.sliceBounds;cases lo<;>cases hi<;>simp_all [Sem.run_bind]
     refine ⟨.slice (if g.2.2 - of=l.toNat then A' else A'.map (·.add (l.toNat*s))) (hh.toNat - l.toNat) (g.2.2 - of - l.toNat),?_,?_⟩
     ·unfold execOp;simp [ho,e1,Instr.sliceAt,Instr.slice,Sem.run_bind,run_underlying (zn hu),zaa hs,rh]
     ·simp only [den,hf0];refine ⟨g,hg,?_,h2,(if g.2.2 - of=l.toNat then A' else A'.map (·.add (l.toNat*s))),?_,?_,?_⟩
      ·show of+l.toNat+(hh - l).toNat≤g.2.1;omega
      ·congr 1
       ·show hh.toNat - l.toNat=(hh - l).toNat;omega
       ·show g.2.2 - of - l.toNat=g.2.2 - (of+l.toNat);omega
      ·intro h0;have h0:of+l.toNat=0:=h0;have ho:of=0:=by omega
       have hl0:l.toNat=0:=by omega
       rw [h3 ho,hl0];split
       ·rfl
       ·cases g.1 with
        |none=>rfl
        |some A=>show some (A.add (0*s))=some A;rw [Nat.zero_mul];unfold Addr.add;simp
      ·intro hn;have hn:(hh - l).toNat≠0:=hn;obtain ⟨b,ob,e2,rfl⟩:=h4 (by omega)
       refine ⟨b,ob,e2,?_⟩;rw [if_neg (by omega)]
       show some ((⟨b,ob+of*s,none⟩:Addr).add (l.toNat*s))=some ⟨b,ob+(of+l.toNat)*s,none⟩;rw [zaV,zNr,Nat.add_assoc]
    ·cases hf
   ·cases hf
  ·cases hf
 ·cases hf
def zH0 (P:Program) [Fast P] (b:Builtin) (ts:Array TypeId) (args:List AV):Option AV:=match b,ts[0]?,args with
 | .len,some t,[x]=>match zrW x,zeo P t with
   |some (_,_,_,_,n,_),some (.slice _)=>some (.lit (.int .i64 (n:Int)))
   |_,_=>match x,zeo P t with
    | .emz,some (.slice _)=>some (.lit (.int .i64 0))
    |_,_=>none
 | .max,some _,[.lit (.int k a), .lit (.int _ b)]=>some (.lit (.int k (cond (decide (b>a)) b a)))
 | .min,some _,[.lit (.int k a), .lit (.int _ b)]=>some (.lit (.int k (cond (decide (b<a)) b a)))
 |_,_,_=>none
theorem zFZ {o:Oper} {b:Builtin} {args:Array Operand} {ts:Array TypeId} {v:AV} (ho:o.op= .call {callee:= .builtin b,args:=args,argTypes:=ts}) (h:TR ρ nt tm a) (hf:zH0 P b ts (args.toList.map (ev tm))=some v):Yields P ρ o a v:=by
 intro w;have hd:=zbZ h args.toList;have hex:(execOp a.eval o).run P w=(builtin b ts o.type (args.map fun| .const _=>true|_=>false) (args.map a.eval)).run P w:=by
  unfold execOp;simp [ho,resolve,invoke];rfl
 unfold zH0 at hf;split at hf
 ·rename_i t x ht hargs;rw [hargs] at hd;simp only [dens] at hd;obtain ⟨u,vs',e,hx,rfl⟩:=hd;split at hf
  ·rename_i j k p sz n f E hpo hu;obtain ⟨lo,_,g,hg,h1,h2,A',rfl,_⟩:=zmt hpo hx;obtain rfl:=zM8 hf;have ea:args.map a.eval= #[.slice A' n (g.2.2 - lo)]:=by
    apply Array.ext';simpa using e
   refine ⟨.int .i64 (n:Int),?_,by simp only [den]⟩
   rw [hex,ea];simp [builtin,Builtin.len_,Sem.run_bind,ht,run_underlying (zn hu),Builtin.lenOf,goInt]
  ·split at hf
   ·rename_i E hu _;obtain rfl:=zM8 hf;simp only [den] at hx;obtain ⟨A',rfl⟩:=hx;have ea:args.map a.eval= #[.slice A' 0 0]:=by
     apply Array.ext';simpa using e
    refine ⟨.int .i64 0,?_,by simp only [den]⟩
    rw [hex,ea];simp [builtin,Builtin.len_,Sem.run_bind,ht,run_underlying (zn hu),Builtin.lenOf,goInt]
   ·cases hf
 ·rename_i k x k' y ht hargs;rw [hargs] at hd;simp only [dens,den] at hd;obtain ⟨u,vs',e,rfl,u',vs'',rfl,rfl,rfl⟩:=hd;obtain rfl:=zM8 hf;have ea:args.map a.eval= #[.int k x, .int k' y]:=by
   apply Array.ext';simpa using e
  refine ⟨_,?_,by simp only [den];rfl⟩
  rw [hex,ea];simp [builtin,Builtin.max_,Builtin.max2,Sem.run_bind]
 ·rename_i k x k' y ht hargs;rw [hargs] at hd;simp only [dens,den] at hd;obtain ⟨u,vs',e,rfl,u',vs'',rfl,rfl,rfl⟩:=hd;obtain rfl:=zM8 hf;have ea:args.map a.eval= #[.int k x, .int k' y]:=by
   apply Array.ext';simpa using e
  refine ⟨_,?_,by simp only [den];rfl⟩
  rw [hex,ea];simp [builtin,Builtin.min_,Builtin.min2,Sem.run_bind]
 ·cases hf
def zxV (i k:Nat) (p:Path) (idx j:Nat):Leaf→AV
 | .int k n=> .lit (.int k n)
 | .bool b=> .lit (.bool b)
 | .str s=> .lit (.string s)
 | .list t l=> .lw i k (p++[(idx,j)]) t.size l.length
def zgA (i k:Nat) (p:Path) (idx:Nat):List Leaf→Nat→List AV
 |[],_=>[]
 |l::ls,j=>zxV i k p idx j l::zgA i k p idx ls (Nat.succ j)
def ze1 (k kv:Nat):Path→Bool
 |[]=>true
 |_=>Nat.beq k kv
def zvp (P:Program) [Fast P] (t:TypeId) (x:AV) (st:St):Option AV:=match x with
 | .ep i k p sz idx cell=>match st.h.get i with
   |some bk=>match bk.op,zu bk.cells with
    |some 0, .tree _ rt xs kv=>match ze1 k kv p,Nat.beq (sub p rt xs).1.size sz with
     |true,true=>match zHh P t with
      |some true=>match zeg P t with
       |some n=>match Nat.ble (Nat.add cell n) sz with
        |true=>some (.agg (((zgA i kv p idx ((sub p rt xs).1.leaves ((sub p rt xs).2.getD idx (sub p rt xs).1.dflt)) 0).drop cell).take n))
        |false=>none
       |none=>none
      |some false=>zg5 (zgA i kv p idx ((sub p rt xs).1.leaves ((sub p rt xs).2.getD idx (sub p rt xs).1.dflt)) 0) cell
      |none=>none
     |_,_=>none
    |_,_=>none
   |none=>none
 |_=>none
theorem zo2 {i k:Nat} {p:Path} {idx:Nat}:∀{ls:List Leaf} {j:Nat},(zgA i k p idx ls j).length=ls.length
 |[],_=>rfl
 |_::ls,j=>by simp only [zgA,List.length_cons,zo2 (ls:=ls)]
theorem zk6 {w:World} {F:Nat→Prop} {idx j b o m c:Nat} {A:Option Addr}:∀{p:Path} {t:RT} {l:List t.ty} {h h':Hdr},LfR w F (.list t l) h.val→hdrs w p t l h=some h'→idx<(sub p t l).2.length→
  (∃u' l',((sub p t l).1.leaves ((sub p t l).2.getD idx (sub p t l).1.dflt))[j]? =some (.list u' l'))→h'.1=some ⟨b,o,none⟩→w.cell? ⟨b,o+idx*(sub p t l).1.size+j,none⟩=some (.slice A m c)→hdrs w (p++[(idx,j)]) t l h=some (A,m,c)
 |[],t,l,h,h',hr,e,hi,⟨u',l',hl⟩,hA,hc=>by
  obtain rfl:=zM8 e;have hi:idx<l.length:=hi;have hx:l[idx]? =some (l.getD idx t.dflt):=by rw [List.getD_eq_getElem?_getD,zNg hi];rfl
  have hl:(t.leaves (l.getD idx t.dflt))[j]? =some (.list u' l'):=hl;have hc:w.cell? ⟨b,o+idx*t.size+j,none⟩=some (.slice A m c):=hc;simp only [List.nil_append,hdrs,hA,hx,hl,hc]
 |(i,q)::p,t,l,(A0,m0,c0),h',hr,e,hi,hl,hA,hc=>by
  simp only [hdrs] at e;simp only [List.cons_append,hdrs];split at e
  ·rename_i b1 o1 x hx;split at e
   ·rename_i t' l1 hl1;obtain ⟨b',o',hA',hb,hlt,hcc⟩:=hr.elem hx;simp only [zNn,Addr.mk.injEq,and_true] at hA';obtain ⟨rfl,rfl⟩:=hA';obtain ⟨v,hcv,hlf⟩:=hcc q _ hl1;obtain ⟨A2,c2,rfl,_⟩:=hlf.slice;rw [hcv] at e;simp only at e;have hg:l.getD i t.dflt=x:=by rw [List.getD_eq_getElem?_getD,hx];rfl
    have hn:zpb (t.leaves (l.getD i t.dflt)) q= .list t' l1:=by rw [hg];exact zc5 hl1
    rw [sub,hn] at hi hl hc;simp only [hl1,hcv];exact zk6 (h:=(A2,List.length (α:=t'.ty) l1,c2)) hlf e hi hl hA hc
   ·cases e
  ·cases e
theorem Sim.at_ {S:Nat→Prop} {F:Nat→Nat→Prop} (hs:SimF K w0 ρ S F st w) {i k kv:Nat} {p:Path} {g:Hdr} {bk:Bk} {own:Ow} {rt:RT} {xs:List rt.ty} (hb:st.h.get i=some bk) (hop:bk.op=some 0) (hk:zu bk.cells= .tree own rt xs kv) (hv:ze1 k kv p=true) (hg:hdrOf ρ i k p g):
  ∃x c,ρ i=some (x,c)∧TreeR ρ w S (F i) x c own rt xs kv∧hdrs w p rt xs (zal x c)=some g∧(st.wr i=true→∀y,F i y→¬K.k y):=by
 obtain ⟨x,c,h1,h2,h3⟩:=hs.blk i bk hb;have h4:=h2.2 hop;rw [hk] at h4;have h5:TreeR ρ w S (F i) x c own rt xs kv:=h4;refine ⟨x,c,h1,h5,?_,h3⟩;obtain ⟨x',c',y,d,e1,e2,e3⟩:=hg;rw [h1] at e1;obtain ⟨rfl,rfl⟩:=zNb (zM8 e1);cases p with
 |nil=>rw [e3];rfl
 |cons q p=>
  have hv:Nat.beq k kv=true:=hv;have hv:=zM9 hv;subst hv;obtain ⟨y',d',e4,e5⟩:=h5.hds;rw [e2] at e4;obtain ⟨rfl,rfl⟩:=zNb (zM8 e4);have e3:d.hd (q::p)=some g:=e3;rw [e5] at e3;exact e3
theorem zFY {S F F2:Nat→Prop} {i k idx j b o:Nat} {p:Path} {x:Nat} {c:Cap} {own:Ow} {rt:RT} {xs:List rt.ty} {g:Hdr} (hi:ρ i=some (x,c)) (ht:TreeR ρ w S F x c own rt xs k) (hg:hdrs w p rt xs (zal x c)=some g) (hlt:idx<g.2.1)
  (hgb:g.1=some ⟨b,o,none⟩) {v:Value} (hcell:w.cell? ⟨b,o+idx*(sub p rt xs).1.size+j,none⟩=some v) {l:Leaf} (hl:((sub p rt xs).1.leaves ((sub p rt xs).2.getD idx (sub p rt xs).1.dflt))[j]? =some l) (hlv:LfR w F2 l v):den ρ (zxV i k p idx j l) v:=by
 have hsub:=znx ht.rd hg;have hlen:=hsub.lenEq;cases hlv with
 |int kk n=>simp only [zxV,den]
 |bool b=>simp only [zxV,den]
 |str s=>simp only [zxV,den]
 |list t' l' A c2 vf h1 h2 h3 hc hr=>
  simp only [zxV,den];have hh:=zk6 (j:=j) (idx:=idx) ht.rd hg (by omega) ⟨t',l',hl⟩ hgb hcell
  obtain ⟨y,d,e1,e2⟩:=ht.hds;refine ⟨(A,List.length (α:=t'.ty) l',c2),⟨x,c,y,d,hi,e1,?_⟩,⟨by simp,h1,A,by simp,fun _=>rfl,fun hn=>?_⟩,rfl⟩
  ·cases p with
   |nil=>show d.hd ([]++[(idx,j)])=_;rw [e2];exact hh
   |cons q p=>show d.hd (q::p++[(idx,j)])=_;rw [e2];exact hh
  ·obtain ⟨b',o',rfl,_⟩:=h3 (by rintro rfl;exact hn rfl)
   exact ⟨b',o',rfl,by simp⟩
theorem zo1 {i k:Nat} {p:Path} {idx:Nat}:∀{ls:List Leaf} {j q:Nat} {v:AV},(zgA i k p idx ls j)[q]? =some v→∃l,ls[q]? =some l∧v=zxV i k p idx (j+q) l
 |[],_,_,_,h=>by simp [zgA] at h
 |l::ls,j,0,v,h=>by simp only [zgA,List.getElem?_cons_zero,zNn] at h;exact ⟨l,rfl,h.symm⟩
 |l::ls,j,q+1,v,h=>by
  simp only [zgA,List.getElem?_cons_succ] at h;obtain ⟨l',h1,h2⟩:=zo1 h;exact ⟨l',by simpa using h1,by rw [h2];congr 1;omega⟩
theorem zoF:∀{l:List AV} {us:List Value},l.length=us.length→(∀(j:Nat) v u,l[j]? =some v→us[j]? =some u→den ρ v u)→dens ρ l us
 |[],us,h,_=>by simp only [dens];exact zNj.1 h.symm
 |v::l,u::us,h,hd=>by
  simp only [dens];exact ⟨u,us,rfl,hd 0 v u rfl rfl,zoF (by simpa using h) fun j v u h1 h2=>hd (j+1) v u (by simpa using h1) (by simpa using h2)⟩
theorem zvq {t:TypeId} {z:AV} {v:AV} {uz:Value} (hd:den ρ z uz) (hs:Sim K w0 ρ st w) (hf:zvp P t z st=some v):
  ∃u y,uz= .pointer (some y)∧(loadVar t y).run P w= .ok u w∧den ρ v u:=by
 obtain ⟨S,F,hs⟩:=hs;unfold zvp at hf;split at hf
 ·rename_i i k p sz idx cell;simp only [den] at hd;obtain ⟨g,hg,hlt,b,o,hgb,rfl⟩:=hd;split at hf
  ·rename_i bk hb;split at hf
   ·rename_i own rt xs kv hop hkd;split at hf
    ·rename_i hver hsz;have hsz:=zM9 hsz;obtain ⟨x,c,hi,ht,hh,_⟩:=Sim.at_ hs hb hop hkd hver hg;have hsub:=znx ht.rd hh;obtain ⟨b',o',e1,_,_,hcell0⟩:=zHD hsub hlt;rw [hgb] at e1;simp only [zNn,Addr.mk.injEq,and_true] at e1;obtain ⟨rfl,rfl⟩:=e1;have hll:=RT.leaves_len (sub p rt xs).1 ((sub p rt xs).2.getD idx (sub p rt xs).1.dflt);obtain ⟨us,hlen,hcell,hul⟩:∃us:List Value,us.length=(sub p rt xs).1.size∧(∀j u,us[j]? =some u→w.cell? ⟨b,o+idx*(sub p rt xs).1.size+j,none⟩=some u)∧
       ∀j u lf,us[j]? =some u→((sub p rt xs).1.leaves ((sub p rt xs).2.getD idx (sub p rt xs).1.dflt))[j]? =some lf→LfR w (fun y=>(F i y∨Mr ρ y)∨S y) lf u:=by
      refine ⟨(List.range (sub p rt xs).1.size).map fun j=>(w.cell? ⟨b,o+idx*(sub p rt xs).1.size+j,none⟩).getD undef,by simp,fun j u hu=>?_,fun j u lf hu hlf=>?_⟩
      ·rw [List.getElem?_map] at hu;have hj:j<(sub p rt xs).1.size:=by
        rcases Nat.lt_or_ge j (sub p rt xs).1.size with h|h
        ·exact h
        ·rw [List.getElem?_eq_none (by simpa using h)] at hu;cases hu
       rw [List.getElem?_range hj] at hu;obtain ⟨v,hv,_⟩:=hcell0 j _ (zNg (by rw [hll];exact hj))
       simp only [Option.map_some,hv,Option.getD_some,zNn] at hu;rw [←hu];exact hv
      ·rw [List.getElem?_map] at hu;have hj:j<(sub p rt xs).1.size:=by rw [←hll];exact (zNa.1 hlf).1
       rw [List.getElem?_range hj] at hu;obtain ⟨v,hv,hr⟩:=hcell0 j _ hlf;simp only [Option.map_some,hv,Option.getD_some,zNn] at hu;rw [←hu];exact hr
     have hall:dens ρ (zgA i kv p idx ((sub p rt xs).1.leaves ((sub p rt xs).2.getD idx (sub p rt xs).1.dflt)) 0) us:=by
      refine zoF (by rw [zo2,RT.leaves_len,hlen]) fun j v u h1 h2=>?_
      obtain ⟨l,h3,rfl⟩:=zo1 h1;rw [Nat.zero_add];exact zFY hi ht hh hlt hgb (hcell j u h2) h3 (hul j u l h2 h3)
     split at hf
     ·rename_i hag;split at hf
      ·rename_i n hn;split at hf
       ·rename_i hle;have hle:cell+n≤sz:=zNc hle;obtain rfl:=zM8 hf;refine ⟨.agg ((us.drop cell).take n).toArray,_,rfl,?_,by simp only [den];exact ⟨_,rfl,zcb n (zbA cell hall)⟩⟩
        have hr:=run_loadCells_list (P:=P) w ⟨b,o+idx*sz+cell,none⟩ ((us.drop cell).take n) (fun j u hj=>by
         rw [List.getElem?_take] at hj;split at hj
         ·rw [List.getElem?_drop] at hj;rw [zaV];have:=hcell _ _ hj;rw [hsz] at this;rw [Nat.add_assoc];exact this
         ·cases hj)
        have hl2:((us.drop cell).take n).length=n:=by rw [List.length_take,List.length_drop];omega
        rw [hl2] at hr;simp [Sem.run_bind,loadVar,zkO hag,zaa hn,hr]
       ·cases hf
      ·cases hf
     ·rename_i hag;rw [zei] at hf;obtain ⟨u,hu,hdu⟩:=zeX cell hall hf;refine ⟨u,_,rfl,?_,hdu⟩;have hc:=hcell cell u hu;rw [hsz] at hc;simp [Sem.run_bind,loadVar,zkO hag,run_load,hc]
     ·cases hf
    ·cases hf
   ·cases hf
  ·cases hf
 ·cases hf
theorem zvr {o:Oper} {t:TypeId} {x:Operand} {v:AV} (ho:o.op= .load t x) (h:TR ρ nt tm a) (hs:Sim K w0 ρ st w) (hf:zvp P t (ev tm x) st=some v):
  ∃u,(execOp a.eval o).run P w= .ok (.value u) w∧den ρ v u:=by
 obtain ⟨u,y,e,hr,hd⟩:=zvq (P:=P) (h.ev x) hs hf;refine ⟨u,?_,hd⟩;unfold execOp;simp [ho,e,Instr.loadAt,Instr.sureAddr,Sem.run_bind,hr]
def Leaf.elem:Leaf→Option RT
 | .list u _=>some u
 |_=>none
theorem zb1 (t:RT) (x:t.ty):(t.leaves x).map Leaf.elem=(t.leaves t.dflt).map Leaf.elem:=by
 cases t with
 |st n=>cases n<;>rfl
 |_=>rfl
theorem zbo {t:RT} {x:t.ty} {j:Nat} {u:RT} {l:List u.ty} (h:(t.leaves x)[j]? =some (.list u l)):t.elemAt j=some u:=by
 have h1:((t.leaves x).map Leaf.elem)[j]? =some (some u):=by rw [List.getElem?_map,h];rfl
 rw [zb1,List.getElem?_map] at h1;unfold RT.elemAt;cases e:(t.leaves t.dflt)[j]? with
 |none=>rw [e] at h1;cases h1
 |some lf=>
  rw [e] at h1;cases lf with
  |list v l=>simp only [Option.map_some,Leaf.elem,zNn] at h1;subst h1;rfl
  |_=>simp [Leaf.elem] at h1
theorem zkJ {w:World} {S:Nat→Prop}:∀{p:Path} {t:RT} {l:List t.ty} {ow:Path→Bool} {F:Nat→Prop} {h h':Hdr},LfO w S (.list t l) ow F h.val→ow p=false→hdrs w p t l h=some h'→LfR w S (.list (sub p t l).1 (sub p t l).2) h'.val
 |[],t,l,ow,F,(A,m,c),h',ho,hp,e=>by
  obtain rfl:=zM8 e;cases ho with
  |shr _ _ _ _ _ h0 hr=>exact hr
  |nil _ _ _ _ h0=>rw [hp] at h0;cases h0
  |list _ _ _ _ c b T cs G h0=>rw [hp] at h0;cases h0
 |(i,j)::p,t,l,ow,F,(A,m,c),h',ho,hp,e=>by
  cases ho with
  |shr _ _ _ _ _ h0 hr=>exact znx hr e
  |nil _ _ _ _ h0=>simp [hdrs] at e
  |list _ _ _ _ c b T cs G h0 h1 h2 hb hk hs hG hd hr=>
   simp only [hdrs] at e;split at e
   ·rename_i b' o x hA hx;obtain ⟨rfl,rfl⟩:b=b'∧0=o:=by simpa using hA
    split at e
    ·rename_i t' l' hl;have hg:l.getD i t.dflt=x:=by rw [List.getD_eq_getElem?_getD,hx];rfl
     have hn:zpb (t.leaves (l.getD i t.dflt)) j= .list t' l':=by rw [hg];exact zc5 hl
     have hc:=hr i x hx j _ hl;have hcell:w.cell? ⟨b,0+i*t.size+j,none⟩=cs[i*t.size+j]? :=by rw [hk.cell,Nat.zero_add]
     rw [hcell] at e;have hgd:cs.getD (i*t.size+j) undef=(cs[i*t.size+j]?).getD undef:=by rw [Array.getD_eq_getD_getElem?]
     rw [hgd] at hc;cases ec:cs[i*t.size+j]? with
     |none=>rw [ec] at e;cases e
     |some v=>
      rw [ec] at e hc;simp only [Option.getD_some] at hc;cases v with
      |slice A2 m2 c2=>
       rw [sub,hn];exact zkJ (p:=p) (h:=(A2,m2,c2)) hc hp e
      |_=>cases e
    ·cases e
   ·cases e
def splice {α:Type} (l:List α) (k:Nat) (m:List α):List α:=l.take k++m++l.drop (k+m.length)
theorem zam {α:Type} {l m:List α} {k:Nat} (h:k+m.length≤l.length):(splice l k m).length=l.length:=by
 simp only [splice,zNo,List.length_take,List.length_drop];omega
theorem zcP {α:Type} {l m:List α} {k q:Nat} (h:k+m.length≤l.length) (hq:q<m.length):(splice l k m)[k+q]? =m[q]? :=by
 unfold splice;rw [List.append_assoc,zNp (by rw [List.length_take];omega),zNh (by rw [List.length_take];omega)]
 congr 1;rw [List.length_take];omega
theorem zaO {α:Type} {l m:List α} {k j:Nat} (h:k+m.length≤l.length) (hj:j<k∨k+m.length≤j):(splice l k m)[j]? =l[j]? :=by
 unfold splice;rcases hj with hj|hj
 ·rw [List.append_assoc,zNh (by rw [List.length_take];omega),List.getElem?_take,if_pos hj]
 ·rw [zNp (by simp only [zNo,List.length_take];omega),List.getElem?_drop]
  congr 1;simp only [zNo,List.length_take];omega
theorem LfO.row {w:World} {S G:Nat→Prop} {u:RT} {ys:List u.ty} {ow:Path→Bool} {h:Hdr} (ho:LfO w S (.list u ys) ow G h.val) (h0:ow []=true) {idx:Nat} (hidx:idx<ys.length) (hGS:∀y,G y→¬S y):
  ∃(b:Nat) (cs:Array Value) (T:TypeId) (Gi:Nat→Nat→Prop),h.1=some ⟨b,0,none⟩∧G b∧Blk w b T cs∧(idx+1)*u.size≤cs.size∧(∀j y,Gi j y→G y∧y≠b)∧(∀i j y,Gi i y→Gi j y→i=j)∧
   (∀(j:Nat) (lf:Leaf),(u.leaves (ys.getD idx u.dflt))[j]? =some lf→LfO w S lf (fun q=>ow ((idx,j)::q)) (Gi j) (cs.getD (idx*u.size+j) undef))∧
   ∀(w':World) (S' H:Nat→Prop) (ow2:Path→Bool) (k:Nat) (us:List Value) (nl:List Leaf) (y':u.ty) (Hq:Nat→Nat→Prop),us.length=nl.length→k+nl.length≤u.size→u.leaves y'=splice (u.leaves (ys.getD idx u.dflt)) k nl→
    (∀q y,Hq q y→H y∨Gi (k+q) y)→(∀q q' y,Hq q y→Hq q' y→q=q')→(∀y,H y→¬G y)→(∀y,S y→S' y)→(∀q,(∀r,r<nl.length→∀q',q≠(idx,k+r)::q')→ow2 q=ow q)→
    (∀y,y<w.heap.size→y≠b→(∀q,q<nl.length→¬Gi (k+q) y)→w'.heap[y]? =w.heap[y]?)→Blk w' b T (splice cs.toList (idx*u.size+k) us).toArray→
    (∀q lf v,nl[q]? =some lf→us[q]? =some v→LfO w' S' lf (fun p=>ow2 ((idx,k+q)::p)) (Hq q) v)→
    LfO w' S' (.list u (ys.set idx y')) ow2 (fun y=>G y∨H y) h.val:=by
 obtain ⟨A,m,c⟩:=h;cases ho with
 |shr _ _ _ _ _ h1=>rw [h0] at h1;cases h1
 |nil=>simp at hidx
 |list _ _ _ _ _ b T cs Gc _ h1 h2 hb hbk hs hG hd hr=>
  have h1:ys.length≤c:=h1;have hs:cs.size=c*u.size:=hs;have hlt0:(idx+1)*u.size≤c*u.size:=zNe _ (by omega)
  have hlt:=hlt0;rw [Nat.succ_mul] at hlt;have hyd:ys[idx]? =some (ys.getD idx u.dflt):=by rw [List.getD_eq_getElem?_getD,zNg hidx];rfl
  refine ⟨b,cs,T,Gc idx,rfl,hb,hbk,by rw [hs];exact hlt0,hG idx,fun i j y hi hj=>(hd _ _ _ _ y hi hj).2,fun j lf hj=>hr idx _ hyd j lf hj,fun w' S' H ow2 k us nl y' Hq hlen hk hy hH hHd hHG hSS hout hkp hbk' hnew=>?_⟩
  have hroom:idx*u.size+k+us.length≤cs.size:=by rw [hs];omega
  have hl':(ys.set idx y').length=ys.length:=by simp
  have hroom':idx*u.size+k+us.length≤cs.toList.length:=by simpa using hroom
  have hv:(Hdr.val (some ⟨b,0,none⟩,ys.length,c))= .slice (some ⟨b,0,none⟩) (ys.set idx y').length c:=by rw [hl']
  rw [hv];have hcs:∀i j:Nat,j<u.size→i<ys.length→((splice cs.toList (idx*u.size+k) us).toArray).getD (i*u.size+j) undef=if i=idx∧k≤j∧j<k+us.length then us.getD (j - k) undef else cs.getD (i*u.size+j) undef:=by
   intro i j hj hi;rw [Array.getD_eq_getD_getElem?,List.getElem?_toArray];by_cases hin:i=idx∧k≤j∧j<k+us.length
   ·rw [if_pos hin];obtain ⟨rfl,hj1,hj2⟩:=hin;have e:i*u.size+j=i*u.size+k+(j - k):=by omega
    rw [e,zcP hroom' (by omega),List.getD_eq_getElem?_getD]
   ·rw [if_neg hin,zaO hroom',Array.getD_eq_getD_getElem?,Array.getElem?_toList];by_cases hi':i=idx
    ·subst hi';rcases Nat.lt_or_ge j k with h|h
     ·exact .inl (by omega)
     ·exact .inr (by have:¬j<k+us.length:=fun h'=>hin ⟨rfl,h,h'⟩;omega)
    ·rcases Nat.lt_or_gt_of_ne hi' with h|h
     ·have:(i+1)*u.size≤idx*u.size:=zNe _ h;rw [Nat.succ_mul] at this;exact .inl (by omega)
     ·have:(idx+1)*u.size≤i*u.size:=zNe _ h;rw [Nat.succ_mul] at this;exact .inr (by omega)
  have key:∀{i j i' j' y},(i=idx∧k≤j∧j<k+us.length)→Hq (j - k) y→¬(i'=idx∧k≤j'∧j'<k+us.length)→Gc i' j' y→False:=by
   intro i j i' j' y hin hy hin' hy';rcases hH _ _ hy with h|h
   ·exact hHG y h (hG i' j' y hy').1
   ·obtain ⟨rfl,e⟩:=hd _ _ _ _ y h hy';exact hin' ⟨rfl,by omega,by omega⟩
  refine .list u _ ow2 _ c b T _ (fun i j y=>if i=idx∧k≤j∧j<k+us.length then Hq (j - k) y else Gc i j y) ?_ (by rw [hl'];exact h1) (by rw [hl'];exact h2) (.inl hb) hbk' (by rw [List.size_toArray,zam hroom',Array.length_toList];exact hs) (fun i j y hy=>?_) (fun i j i' j' y hy hy'=>?_) (fun i x hx j lf hj=>?_)
  ·rw [hout [] (fun r _ q' e=>nomatch e)];exact h0
  ·split at hy
   ·rcases hH _ _ hy with h|h
    ·exact ⟨.inr h,fun e=>hHG y h (e▸hb)⟩
    ·exact ⟨.inl (hG _ _ y h).1,(hG _ _ y h).2⟩
   ·exact ⟨.inl (hG i j y hy).1,(hG i j y hy).2⟩
  ·by_cases hin:i=idx∧k≤j∧j<k+us.length
   ·rw [if_pos hin] at hy;by_cases hin':i'=idx∧k≤j'∧j'<k+us.length
    ·rw [if_pos hin'] at hy';have:=hHd _ _ y hy hy';omega
    ·rw [if_neg hin'] at hy';exact (key hin hy hin' hy').elim
   ·rw [if_neg hin] at hy;by_cases hin':i'=idx∧k≤j'∧j'<k+us.length
    ·rw [if_pos hin'] at hy';exact (key hin' hy' hin hy).elim
    ·rw [if_neg hin'] at hy';exact hd i j i' j' y hy hy'
  ·have hjs:j<u.size:=by have:=(zNa.1 hj).1;rwa [RT.leaves_len] at this
   have hi:i<ys.length:=by have:=(zNa.1 hx).1;rwa [hl'] at this
   rw [hcs i j hjs hi];have hlv:(u.leaves (ys.getD idx u.dflt)).length=u.size:=RT.leaves_len _ _;by_cases hin:i=idx∧k≤j∧j<k+us.length
   ·rw [if_pos hin];obtain ⟨rfl,hj1,hj2⟩:=hin;have hq:j - k<nl.length:=by omega
    rw [List.getElem?_set_self hidx] at hx;obtain rfl:=zM8 hx;rw [hy] at hj;have e:j=k+(j - k):=by omega
    rw [e,zcP (by rw [hlv];exact hk) hq] at hj
    have:=hnew (j - k) lf _ hj (zNg (by omega))
    rw [←e] at this;have e2:us.getD (j - k) undef=us[j - k]'(by omega):=by rw [List.getD_eq_getElem?_getD,zNg (by omega)];rfl
    rw [e2];refine LfO.wide this fun y hy=>?_;show if _ then _ else _
    rw [if_pos ⟨rfl,hj1,hj2⟩];exact hy
   ·rw [if_neg hin];have hold:∃x0,ys[i]? =some x0∧(u.leaves x0)[j]? =some lf:=by
     by_cases hi':i=idx
     ·subst hi';rw [List.getElem?_set_self hidx] at hx;obtain rfl:=zM8 hx;refine ⟨ys.getD i u.dflt,hyd,?_⟩;rw [hy,zaO (by rw [hlv];exact hk)] at hj
      ·exact hj
      ·rcases Nat.lt_or_ge j k with h|h
       ·exact .inl h
       ·exact .inr (by have:¬j<k+us.length:=fun h'=>hin ⟨rfl,h,h'⟩;omega)
     ·rw [List.getElem?_set_ne (fun e=>hi' e.symm)] at hx;exact ⟨x,hx,hj⟩
    obtain ⟨x0,hx0,hj0⟩:=hold;have h3:=hr i x0 hx0 j lf hj0;have h4:LfO w' S' lf (fun q=>ow ((i,j)::q)) (Gc i j) (cs.getD (i*u.size+j) undef):=h3.keep (fun y hy hlt=>hkp y hlt (hG i j y hy).2 fun q hq hy'=>by
     obtain ⟨e1,e2⟩:=hd _ _ _ _ y hy' hy;exact hin ⟨e1.symm,by omega,by omega⟩) hSS (fun y hy hlt=>hkp y hlt (fun e=>hGS b hb (e▸hy)) fun q hq hy'=>hGS y (hG _ _ y hy').1 hy)
    have eo:(fun q=>ow2 ((i,j)::q))=fun q=>ow ((i,j)::q):=by
     funext q
     refine hout _ fun r hr q' e=>?_;obtain ⟨e1,_⟩:=List.cons.inj e;obtain ⟨e1,e2⟩:=zNb e1;exact hin ⟨e1,by omega,by omega⟩
    rw [eo];refine LfO.wide h4 fun y hy=>?_;show if _ then _ else _
    rw [if_neg hin];exact hy
theorem LfO.take {w:World} {S F:Nat→Prop} {t:RT} {l:List t.ty} {ow:Path→Bool} {A:Option Addr} {m c n:Nat} (h:LfO w S (.list t l) ow F (.slice A m c)) (h0:ow []=true) (hn:n≤l.length):LfO w S (.list t (l.take n)) ow F (.slice A n c):=by
 cases h with
 |shr _ _ _ _ _ h1=>rw [h0] at h1;cases h1
 |nil=>obtain rfl:n=0:=by simpa using hn
       exact .nil t _ _ _ h0
 |list _ _ _ _ _ b T cs G _ h1 h2 hb hk hs hG hd hr=>
  have hl:(l.take n).length=n:=by rw [List.length_take];omega
  have hv:Value.slice (some ⟨b,0,none⟩) n c= .slice (some ⟨b,0,none⟩) (l.take n).length c:=by rw [hl]
  rw [hv];exact .list t _ ow F c b T cs G h0 (by omega) (by omega) hb hk hs hG hd fun i x hx=>hr i x (by
   rw [List.getElem?_take] at hx;split at hx
   ·exact hx
   ·cases hx)
theorem LfO.cat {w:World} {S F H:Nat→Prop} {t:RT} {xs ys:List t.ty} {ow:Path→Bool} {A:Option Addr} {m c b' c':Nat} {T':TypeId} {cs':Array Value} {F':Nat→Prop} (h:LfO w S (.list t xs) ow F (.slice A m c)) (h0:ow []=true) (hb:Blk w b' T' cs') (hs:cs'.size=c'*t.size)
  (hlen:xs.length+ys.length≤c') (hmax:xs.length+ys.length≤maxLen) (hF:∀y,F y→F' y) (hH:∀y,H y→F' y) (hb':F' b') (hFb:∀y,F y→y=b'→A=some ⟨b',0,none⟩) (hHb:¬H b') (hHF:∀y,H y→¬F y)
  (hold:∀b cs T,A=some ⟨b,0,none⟩→Blk w b T cs→∀i j,i<xs.length→j<t.size→cs'.getD (i*t.size+j) undef=cs.getD (i*t.size+j) undef)
  (Hc:Nat→Nat→Nat→Prop) (hHc:∀i j y,Hc i j y→H y) (hHd:∀i j i' j' y,Hc i j y→Hc i' j' y→i=i'∧j=j')
  (hnew:∀i x,ys[i]? =some x→∀j lf,(t.leaves x)[j]? =some lf→LfO w S lf (fun q=>ow ((xs.length+i,j)::q)) (Hc i j) (cs'.getD ((xs.length+i)*t.size+j) undef)):
  LfO w S (.list t (xs++ys)) ow F' (.slice (some ⟨b',0,none⟩) (xs.length+ys.length) c'):=by
 obtain ⟨Gc,hG,hd,hr⟩:∃Gc:Nat→Nat→Nat→Prop,(∀i j y,Gc i j y→F y∧y≠b')∧(∀i j i' j' y,Gc i j y→Gc i' j' y→i=i'∧j=j')∧∀i x,xs[i]? =some x→∀j lf,(t.leaves x)[j]? =some lf→LfO w S lf (fun q=>ow ((i,j)::q)) (Gc i j) (cs'.getD (i*t.size+j) undef):=by
  cases h with
  |shr _ _ _ _ _ h1=>rw [h0] at h1;cases h1
  |nil=>exact ⟨fun _ _ _=>False,fun _ _ _ h=>h.elim,fun _ _ _ _ _ h=>h.elim,fun i x hx=>by simp at hx⟩
  |list _ _ _ _ _ b T cs Gc _ h1 h2 hb2 hk hs2 hG hd hr=>
   refine ⟨Gc,fun i j y hy=>⟨(hG i j y hy).1,fun e=>?_⟩,hd,fun i x hx j lf hj=>?_⟩
   ·have:=hFb y (hG i j y hy).1 e;simp only [zNn,Addr.mk.injEq,and_true] at this;exact (hG i j y hy).2 (e.trans this.symm)
   ·have hi:=(zNa.1 hx).1;have hj':=(zNa.1 hj).1;rw [RT.leaves_len] at hj';rw [hold b cs T rfl hk i j hi hj'];exact hr i x hx j lf hj
 have hl:(xs++ys).length=xs.length+ys.length:=zNo;rw [←hl];refine .list t _ ow F' c' b' T' cs' (fun i j y=>(i<xs.length∧Gc i j y)∨(xs.length≤i∧Hc (i - xs.length) j y)) h0 (by omega) (by omega) hb' hb hs (fun i j y hy=>?_) (fun i j i' j' y hy hy'=>?_) (fun i x hx j lf hj=>?_)
 ·rcases hy with ⟨_,hy⟩|⟨_,hy⟩
  ·exact ⟨hF y (hG i j y hy).1,(hG i j y hy).2⟩
  ·exact ⟨hH y (hHc _ _ y hy),fun e=>hHb (e▸hHc _ _ y hy)⟩
 ·rcases hy with ⟨_,hy⟩|⟨h1,hy⟩
  ·rcases hy' with ⟨_,hy'⟩|⟨_,hy'⟩
   ·exact hd _ _ _ _ y hy hy'
   ·exact (hHF y (hHc _ _ y hy') (hG _ _ y hy).1).elim
  ·rcases hy' with ⟨_,hy'⟩|⟨h2,hy'⟩
   ·exact (hHF y (hHc _ _ y hy) (hG _ _ y hy').1).elim
   ·have:=hHd _ _ _ _ y hy hy';omega
 ·by_cases hi:i<xs.length
  ·rw [zNh hi] at hx;exact (hr i x hx j lf hj).wide fun y hy=> .inl ⟨hi,hy⟩
  ·rw [zNp (by omega)] at hx
   have:=hnew (i - xs.length) x hx j lf hj;rw [show xs.length+(i - xs.length)=i by omega] at this
   exact this.wide fun y hy=> .inr ⟨by omega,hy⟩
def zEp {α:Type}:List α→Nat→α→List α
 |[],_,_=>[]
 |x::l,j,y=>match j with
  |0=>y::l
  |j+1=>x::zEp l j y
theorem zoe {α:Type}:∀(l:List α) (j:Nat) (y:α),zEp l j y=l.set j y
 |[],_,_=>rfl
 |_::_,0,_=>rfl
 |_::l,j+1,y=>by rw [zEp,zoe l j y];rfl
def zur (f:(u:RT)→List u.ty→Option (List u.ty)):Path→(t:RT)→List t.ty→Option (List t.ty)
 |[],t,l=>f t l
 |(i,j)::p,t,l=>match zpb (t.leaves (l.getD i t.dflt)) j with
  | .list t' l'=>match zur f p t' l' with
    |some l2=>match t.build (zEp (t.leaves (l.getD i t.dflt)) j (.list t' l2)) with
     |some x=>some (l.set i x)
     |none=>none
    |none=>none
  |_=>none
def zdx (ow:Path→Bool):Path→Bool
 |[]=>ow []
 |e::p=>ow []&&zdx (fun q=>ow (e::q)) p
theorem LfO.focus {w:World} {S:Nat→Prop}:∀{p:Path} {t:RT} {l:List t.ty} {ow:Path→Bool} {F:Nat→Prop} {h h':Hdr},LfO w S (.list t l) ow F h.val→zdx ow p=true→hdrs w p t l h=some h'→(∀y,F y→¬S y)→
  ∃G:Nat→Prop,(∀y,G y→F y)∧LfO w S (.list (sub p t l).1 (sub p t l).2) (fun q=>ow (p++q)) G h'.val∧
   ∀(w':World) (S' H:Nat→Prop) (ow2:Path→Bool) (f:(u:RT)→List u.ty→Option (List u.ty)) (ys':List (sub p t l).1.ty) (l2:List t.ty),
    (∀y,F y→¬G y→w'.heap[y]? =w.heap[y]?)→(∀y,S y→w'.heap[y]? =w.heap[y]?)→(∀y,S y→S' y)→(∀y,H y→¬F y)→(∀q,¬p<+:q→ow2 q=ow q)→
    f (sub p t l).1 (sub p t l).2=some ys'→LfO w' S' (.list (sub p t l).1 ys') (fun q=>ow2 (p++q)) (fun y=>G y∨H y) h'.val→zur f p t l=some l2→
    LfO w' S' (.list t l2) ow2 (fun y=>F y∨H y) h.val
 |[],t,l,ow,F,h,h',ho,hp,e,hFS=>by
  obtain rfl:=zM8 e;refine ⟨F,fun _ h=>h,ho,fun w' S' H ow2 f ys' l2 h1 h2 h3 h4 h5 h6 h7 h8=>?_⟩;have h6:f t l=some ys':=h6;have h8:f t l=some l2:=h8;rw [h6] at h8;obtain rfl:=zM8 h8;exact h7
 |(i,j)::p,t,l,ow,F,(A,m,c),h',ho,hp,e,hFS=>by
  simp only [zdx,Bool.and_eq_true] at hp;cases ho with
  |shr _ _ _ _ _ h0=>rw [hp.1] at h0;cases h0
  |nil _ _ _ _ h0=>simp [hdrs] at e
  |list _ _ _ _ _ b T cs Gc h0 h1 h2 hb hk hs hG hd hr=>
   simp only [hdrs] at e;split at e
   ·rename_i b' o x hA hx;obtain ⟨rfl,rfl⟩:b=b'∧0=o:=by simpa using hA
    split at e
    ·rename_i t' l' hl;have hg:l.getD i t.dflt=x:=by rw [List.getD_eq_getElem?_getD,hx];rfl
     have hn:zpb (t.leaves (l.getD i t.dflt)) j= .list t' l':=by rw [hg];exact zc5 hl
     have hjs:=(zNa.1 hl).1;have hi:=(zNa.1 hx).1;have hc:=hr i x hx j _ hl;have hcell:w.cell? ⟨b,0+i*t.size+j,none⟩=cs[i*t.size+j]? :=by rw [hk.cell,Nat.zero_add]
     rw [hcell] at e;have hgd:cs.getD (i*t.size+j) undef=(cs[i*t.size+j]?).getD undef:=by rw [Array.getD_eq_getD_getElem?]
     cases ec:cs[i*t.size+j]? with
     |none=>rw [ec] at e;cases e
     |some v=>
      rw [ec] at e;rw [hgd,ec] at hc;simp only [Option.getD_some] at hc;cases v with
      |slice A2 m2 c2=>
       obtain ⟨G,g1,g2,g3⟩:=LfO.focus (p:=p) (h:=(A2,m2,c2)) hc hp.2 e (fun y hy=>hFS y (hG i j y hy).1);rw [sub,hn];refine ⟨G,fun y hy=>(hG i j y (g1 y hy)).1,g2,fun w' S' H ow2 f ys' l2 a1 a2 a3 a4 a5 a6 a7 a8=>?_⟩;simp only [zur] at a8;rw [hn] at a8;simp only at a8;split at a8
       ·rename_i l3 hl3;split at a8
        ·rename_i x' hx';obtain rfl:=zM8 a8;have hlv:=RT.build_ok hx';rw [zoe,hg] at hlv;have hch:=g3 w' S' H (fun q=>ow2 ((i,j)::q)) f ys' l3 (fun y hy hn=>a1 y (hG i j y hy).1 hn) a2 a3 (fun y hy hy'=>a4 y hy (hG i j y hy').1) (fun q hq=>a5 _ (fun hq'=>hq ((List.prefix_cons_inj _).1 hq'))) a6 a7 hl3;have hnb:¬G b:=fun e=>(hG i j b (g1 b e)).2 rfl;have hl':(l.set i x').length=l.length:=by simp
         have hv:(Hdr.val (some ⟨b,0,none⟩,l.length,c))= .slice (some ⟨b,0,none⟩) (l.set i x').length c:=by rw [hl']
         rw [hv];refine .list t _ ow2 _ c b T cs (fun i' j' y=>if i'=i∧j'=j then Gc i j y∨H y else Gc i' j' y) ?_ (by rw [hl'];exact h1) (by rw [hl'];exact h2) (.inl hb) (hk.same (a1 b hb hnb)) hs (fun i' j' y hy=>?_) (fun i1 j1 i2 j2 y hy hy'=>?_) (fun i' y hy j' lf hj=>?_)
         ·rw [a5 [] (fun h=>by simp at h)];exact h0
         ·split at hy
          ·rcases hy with hy|hy
           ·exact ⟨.inl (hG i j y hy).1,(hG i j y hy).2⟩
           ·exact ⟨.inr hy,fun e=>a4 y hy (e▸hb)⟩
          ·exact ⟨.inl (hG i' j' y hy).1,(hG i' j' y hy).2⟩
         ·by_cases q1:i1=i∧j1=j
          ·rw [if_pos q1] at hy;by_cases q2:i2=i∧j2=j
           ·exact ⟨q1.1.trans q2.1.symm,q1.2.trans q2.2.symm⟩
           ·rw [if_neg q2] at hy';rcases hy with hy|hy
            ·exact absurd (hd i2 j2 i j y hy' hy) q2
            ·exact (a4 y hy (hG i2 j2 y hy').1).elim
          ·rw [if_neg q1] at hy;by_cases q2:i2=i∧j2=j
           ·rw [if_pos q2] at hy';rcases hy' with hy'|hy'
            ·exact absurd (hd i1 j1 i j y hy hy') q1
            ·exact (a4 y hy' (hG i1 j1 y hy).1).elim
           ·rw [if_neg q2] at hy';exact hd i1 j1 i2 j2 y hy hy'
         ·by_cases q1:i'=i∧j'=j
          ·obtain ⟨rfl,rfl⟩:=q1;rw [List.getElem?_set_self hi] at hy;obtain rfl:=zM8 hy;rw [hlv,List.getElem?_set_self hjs] at hj;obtain rfl:=zM8 hj;have:cs.getD (i'*t.size+j') undef= .slice A2 m2 c2:=by rw [hgd,ec];rfl
           rw [this];refine LfO.wide hch fun y hy=>?_;show if _ then _ else _
           rw [if_pos ⟨rfl,rfl⟩];exact hy
          ·have hold:∃x0,l[i']? =some x0∧(t.leaves x0)[j']? =some lf:=by
            by_cases hi':i'=i
            ·subst hi';have hj':j'≠j:=fun e=>q1 ⟨rfl,e⟩;rw [List.getElem?_set_self hi] at hy;obtain rfl:=zM8 hy;rw [hlv,List.getElem?_set_ne (fun e=>hj' e.symm)] at hj;exact ⟨x,hx,hj⟩
            ·rw [List.getElem?_set_ne (fun e=>hi' e.symm)] at hy;exact ⟨y,hy,hj⟩
           obtain ⟨x0,hx0,hj0⟩:=hold;have hng:∀y,Gc i' j' y→¬G y:=fun y hy hy'=>q1 (hd i' j' i j y hy (g1 y hy'));have h4:LfO w' S' lf (fun q=>ow ((i',j')::q)) (Gc i' j') (cs.getD (i'*t.size+j') undef):=(hr i' x0 hx0 j' lf hj0).keep (fun y hy _=>a1 y (hG i' j' y hy).1 (hng y hy)) a3 (fun y hy _=>a2 y hy);have eo:(fun q=>ow2 ((i',j')::q))=fun q=>ow ((i',j')::q):=by
            funext q
            refine a5 _ fun hq=>?_;rw [List.cons_prefix_cons] at hq;obtain ⟨e1,e2⟩:=zNb hq.1;exact q1 ⟨e1.symm,e2.symm⟩
           rw [eo];refine LfO.wide h4 fun y hy=>?_;show if _ then _ else _
           rw [if_neg q1];exact hy
        ·cases a8
       ·cases a8
      |_=>cases e
    ·cases e
   ·cases e
theorem LfO.rowBlk {w:World} {S G:Nat→Prop} {u:RT} {ys:List u.ty} {ow:Path→Bool} {b o m c:Nat} (h:LfO w S (.list u ys) ow G (.slice (some ⟨b,o,none⟩) m c)) (h0:ow []=true) (hne:ys≠[]):G b∧o=0:=by
 cases h with
 |shr _ _ _ _ _ h1=>rw [h0] at h1;cases h1
 |nil=>exact absurd rfl hne
 |list _ _ _ _ _ _ _ _ _ _ _ _ hb=>exact ⟨hb,rfl⟩
theorem zzy {w:World} {S:Nat→Prop}:∀{p:Path} {t:RT} {l:List t.ty} {ow:Path→Bool} {F:Nat→Prop} {h h':Hdr},LfO w S (.list t l) ow F h.val→zdx ow p=true→hdrs w p t l h=some h'→(∀y,F y→¬S y)→
  ∀(w':World) (f:(u:RT)→List u.ty→Option (List u.ty)) (ys':List (sub p t l).1.ty) (l2:List t.ty) (bt ot:Nat),h'.1=some ⟨bt,ot,none⟩→(sub p t l).2≠[]→(∀y,y≠bt→y<w.heap.size→w'.heap[y]? =w.heap[y]?)→(∀y,S y→y≠bt)→
   f (sub p t l).1 (sub p t l).2=some ys'→zur f p t l=some l2→(∀p',hdrs w' p' (sub p t l).1 ys' h'=hdrs w p' (sub p t l).1 (sub p t l).2 h')→
   ∀p',hdrs w' p' t l2 h=hdrs w p' t l h
 |[],t,l,ow,F,h,h',ho,hp,e,hFS=>by
  obtain rfl:=zM8 e;intro w' f ys' l2 bt ot h1 h2 h3 h4 h5 h6 h7 p';have h5:f t l=some ys':=h5;have h6:f t l=some l2:=h6;rw [h5] at h6;obtain rfl:=zM8 h6;exact h7 p'
 |(i,j)::p,t,l,ow,F,(A,m,c),h',ho,hp,e,hFS=>by
  simp only [zdx,Bool.and_eq_true] at hp;cases ho with
  |shr _ _ _ _ _ h0=>rw [hp.1] at h0;cases h0
  |nil _ _ _ _ h0=>simp [hdrs] at e
  |list _ _ _ _ _ b T cs Gc h0 h1 h2 hb hk hs hG hd hr=>
   have ho':LfO w S (.list t l) ow F (Hdr.val (some ⟨b,0,none⟩,l.length,c)):= .list t l ow F c b T cs Gc h0 h1 h2 hb hk hs hG hd hr;simp only [hdrs] at e;split at e
   ·rename_i b' o x hA hx;obtain ⟨rfl,rfl⟩:b=b'∧0=o:=by simpa using hA
    split at e
    ·rename_i t' l' hl;have hg:l.getD i t.dflt=x:=by rw [List.getD_eq_getElem?_getD,hx];rfl
     have hn:zpb (t.leaves (l.getD i t.dflt)) j= .list t' l':=by rw [hg];exact zc5 hl
     have hjs:=(zNa.1 hl).1;have hi:=(zNa.1 hx).1;have hc:=hr i x hx j _ hl;have hcell:w.cell? ⟨b,0+i*t.size+j,none⟩=cs[i*t.size+j]? :=by rw [hk.cell,Nat.zero_add]
     have e0:=e;rw [hcell] at e;have hgd:cs.getD (i*t.size+j) undef=(cs[i*t.size+j]?).getD undef:=by rw [Array.getD_eq_getD_getElem?]
     cases ec:cs[i*t.size+j]? with
     |none=>rw [ec] at e;cases e
     |some v=>
      rw [ec] at e;rw [hgd,ec] at hc;simp only [Option.getD_some] at hc;cases v with
      |slice A2 m2 c2=>
       rw [sub,hn];intro w' f ys' l2 bt ot a1 a2 a3 a4 a5 a6 a7 p';obtain ⟨G,g1,g2,_⟩:=LfO.focus (p:=p) (h:=(A2,m2,c2)) hc hp.2 e (fun y hy=>hFS y (hG i j y hy).1);have hbt:Gc i j bt:=by
        obtain ⟨A3,m3,c3⟩:=h';simp only at a1;subst a1;refine g1 bt (LfO.rowBlk g2 ?_ a2).1;show (fun q=>ow ((i,j)::q)) (p++[])=true;rw [List.append_nil];clear a7 a6 a5 a3 e e0;have:∀(p:Path) (ow:Path→Bool),zdx ow p=true→ow p=true:=by
         intro p
         induction p with
         |nil=>exact fun _ h=>h
         |cons e p ih=>intro ow h;simp only [zdx,Bool.and_eq_true] at h;exact ih _ h.2
        exact this p _ hp.2
       have hbne:b≠bt:=fun e=>(hG i j bt hbt).2 e.symm;simp only [zur] at a6;rw [hn] at a6;simp only at a6;split at a6
       ·rename_i l3 hl3;split at a6
        ·rename_i x' hx';obtain rfl:=zM8 a6;have hlv:=RT.build_ok hx';rw [zoe,hg] at hlv;have hch:=zzy (p:=p) (h:=(A2,m2,c2)) hc hp.2 e (fun y hy=>hFS y (hG i j y hy).1) w' f ys' l3 bt ot a1 a2 a3 a4 a5 hl3 a7;have hcw:∀q:Nat,w'.cell? ⟨b,q,none⟩=w.cell? ⟨b,q,none⟩:=fun q=>zer (a3 b hbne hk.lt) _ rfl
         match p' with
         |[]=>rfl
         |(i',j')::p''=>
          simp only [hdrs];by_cases hi':i'=i
          ·subst hi';rw [List.getElem?_set_self hi,hx];simp only;by_cases hj':j'=j
           ·subst hj';rw [hlv,List.getElem?_set_self hjs,hl];simp only;rw [hcw,hcell,ec];exact hch p''
           ·rw [hlv,List.getElem?_set_ne (fun e=>hj' e.symm)];cases el:(t.leaves x)[j']? with
            |none=>rfl
            |some lf=>
             cases lf with
             |list t4 l4=>
              simp only;have h3:=hr i' x hx j' _ el;rw [hcw];have hcell4:w.cell? ⟨b,0+i'*t.size+j',none⟩=cs[i'*t.size+j']? :=by rw [hk.cell,Nat.zero_add]
              rw [hcell4];have hgd4:cs.getD (i'*t.size+j') undef=(cs[i'*t.size+j']?).getD undef:=by rw [Array.getD_eq_getD_getElem?]
              rw [hgd4] at h3;cases ec4:cs[i'*t.size+j']? with
              |none=>rfl
              |some v4=>
               rw [ec4] at h3;simp only [Option.getD_some] at h3;cases v4 with
               |slice A4 m4 c4=>
                exact ziB (h:=(A4,m4,c4)) (fun y hy hlt=>a3 y (fun e=>by
                 rcases hy with hy|hy
                 ·rw [e] at hy;exact hj' (hd i' j' i' j bt hy hbt).2
                 ·exact a4 y hy e) hlt) h3.rd
               |_=>rfl
             |_=>rfl
          ·rw [List.getElem?_set_ne (fun e=>hi' e.symm)];cases ex:l[i']? with
           |none=>rfl
           |some x0=>
            simp only;cases el:(t.leaves x0)[j']? with
            |none=>rfl
            |some lf=>
             cases lf with
             |list t4 l4=>
              simp only;have h3:=hr i' x0 ex j' _ el;rw [hcw];have hcell4:w.cell? ⟨b,0+i'*t.size+j',none⟩=cs[i'*t.size+j']? :=by rw [hk.cell,Nat.zero_add]
              rw [hcell4];have hgd4:cs.getD (i'*t.size+j') undef=(cs[i'*t.size+j']?).getD undef:=by rw [Array.getD_eq_getD_getElem?]
              rw [hgd4] at h3;cases ec4:cs[i'*t.size+j']? with
              |none=>rfl
              |some v4=>
               rw [ec4] at h3;simp only [Option.getD_some] at h3;cases v4 with
               |slice A4 m4 c4=>
                exact ziB (h:=(A4,m4,c4)) (fun y hy hlt=>a3 y (fun e=>by
                 rcases hy with hy|hy
                 ·rw [e] at hy;exact hi' (hd i' j' i j bt hy hbt).1
                 ·exact a4 y hy e) hlt) h3.rd
               |_=>rfl
             |_=>rfl
        ·cases a6
       ·cases a6
      |_=>cases e
    ·cases e
   ·cases e
theorem zFK {w w':World} {S G:Nat→Prop} {u:RT} {ys:List u.ty} {ow:Path→Bool} {h:Hdr} (ho:LfO w S (.list u ys) ow G h.val) (h0:ow []=true) {idx k:Nat} (hidx:idx<ys.length) {us:List Value} {nl:List Leaf} {y':u.ty} (hlen:us.length=nl.length) (hk:k+nl.length≤u.size)
  (hy:u.leaves y'=splice (u.leaves (ys.getD idx u.dflt)) k nl) (hflat:∀lf∈nl,lf.elem=none) {b:Nat} {cs:Array Value} {T:TypeId} (hA:h.1=some ⟨b,0,none⟩) (hb:Blk w b T cs) (hroom:idx*u.size+k+us.length≤cs.size)
  (hb':Blk w' b T (splice cs.toList (idx*u.size+k) us).toArray) (hkp:∀y,y≠b→y<w.heap.size→w'.heap[y]? =w.heap[y]?) (hS:∀y,S y→y≠b):∀p',hdrs w' p' u (ys.set idx y') h=hdrs w p' u ys h:=by
 obtain ⟨A,m,c⟩:=h;simp only at hA;subst hA;intro p'
 match p' with
 |[]=>rfl
 |(i,j)::p''=>
  cases ho with
  |shr _ _ _ _ _ h1=>rw [h0] at h1;cases h1
  |nil=>simp at hidx
  |list _ _ _ _ _ b2 T2 cs2 Gc _ h1 h2 hb2 hbk hs hG hd hr=>
   simp only [hdrs];have hroom':idx*u.size+k+us.length≤cs.toList.length:=by simpa using hroom
   have hlv:(u.leaves (ys.getD idx u.dflt)).length=u.size:=RT.leaves_len _ _;have hyd:ys[idx]? =some (ys.getD idx u.dflt):=by rw [List.getD_eq_getElem?_getD,zNg hidx];rfl
   obtain ⟨rfl,rfl⟩:T=T2∧cs=cs2:=by
    obtain ⟨_,e1,_⟩:=hb;obtain ⟨_,e2,_⟩:=hbk;rw [e1] at e2;simp only [zNn,Obj.cells.injEq] at e2;exact ⟨e2.2.1,e2.1⟩
   have go:∀x0,ys[i]? =some x0→∀x1,(ys.set idx y')[i]? =some x1→(u.leaves x1)[j]? =(u.leaves x0)[j]? →w'.cell? ⟨b,0+i*u.size+j,none⟩=w.cell? ⟨b,0+i*u.size+j,none⟩→
     (match (u.leaves x1)[j]? with
      |some (.list t' l')=>(match w'.cell? ⟨b,0+i*u.size+j,none⟩ with|some (.slice A m c)=>hdrs w' p'' t' l' (A,m,c)|_=>none)
      |_=>none)=(match (u.leaves x0)[j]? with
      |some (.list t' l')=>(match w.cell? ⟨b,0+i*u.size+j,none⟩ with|some (.slice A m c)=>hdrs w p'' t' l' (A,m,c)|_=>none)
      |_=>none):=fun x0 hx0 x1 hx1 e1 e2=>by
    rw [e1,e2];cases el:(u.leaves x0)[j]? with
    |none=>rfl
    |some lf=>
     cases lf with
     |list t4 l4=>
      simp only;have h3:=hr i x0 hx0 j _ el;have hcell4:w.cell? ⟨b,0+i*u.size+j,none⟩=cs[i*u.size+j]? :=by rw [hbk.cell,Nat.zero_add]
      rw [hcell4];have hgd4:cs.getD (i*u.size+j) undef=(cs[i*u.size+j]?).getD undef:=by rw [Array.getD_eq_getD_getElem?]
      rw [hgd4] at h3;cases ec4:cs[i*u.size+j]? with
      |none=>rfl
      |some v4=>
       rw [ec4] at h3;simp only [Option.getD_some] at h3;cases v4 with
       |slice A4 m4 c4=>
        exact ziB (h:=(A4,m4,c4)) (fun y hy hlt=>hkp y (fun e=>by
         rcases hy with hy|hy
         ·exact (hG i j y hy).2 e
         ·exact hS y hy e) hlt) h3.rd
       |_=>rfl
     |_=>rfl
   have hcs:∀q,(q<idx*u.size+k∨idx*u.size+k+us.length≤q)→w'.cell? ⟨b,q,none⟩=w.cell? ⟨b,q,none⟩:=fun q hq=>by
    rw [hb'.cell,hbk.cell,List.getElem?_toArray,zaO hroom' hq,Array.getElem?_toList]
   by_cases hi:i=idx
   ·subst hi;rw [List.getElem?_set_self hidx,hyd];simp only;by_cases hj:k≤j∧j<k+nl.length
    ·have e1:j=k+(j - k):=by omega
     have hq:j - k<nl.length:=by omega
     have h5:(u.leaves y')[j]? =nl[j - k]? :=by
      have:=zcP (l:=u.leaves (ys.getD i u.dflt)) (m:=nl) (k:=k) (by rw [hlv];exact hk) hq
      rw [←e1, ←hy] at this;exact this
     rw [h5,zNg hq];have h6:=hflat _ (List.getElem_mem hq);have h7:(u.leaves (ys.getD i u.dflt)).map Leaf.elem=(u.leaves y').map Leaf.elem:=(zb1 u _).trans (zb1 u _).symm;have h8:((u.leaves (ys.getD i u.dflt)).map Leaf.elem)[j]? =some none:=by
      rw [h7,List.getElem?_map,h5,zNg hq];simp only [Option.map_some,h6]
     rw [List.getElem?_map] at h8;cases e9:(u.leaves (ys.getD i u.dflt))[j]? with
     |none=>rw [e9] at h8;cases h8
     |some lf9=>
      rw [e9] at h8;simp only [Option.map_some,zNn] at h8;generalize nl[j - k]'hq=lf0 at h6;cases lf9<;>cases lf0<;>first|rfl|(simp [Leaf.elem] at h6 h8)
    ·have hj':j<k∨k+nl.length≤j:=by omega
     by_cases hjs:j<u.size
     ·refine go _ hyd _ (by rw [List.getElem?_set_self hidx]) (by rw [hy,zaO (by rw [hlv];exact hk) hj']) (hcs _ ?_)
      rcases hj' with h|h
      ·exact .inl (by omega)
      ·exact .inr (by omega)
     ·have n1:(u.leaves y')[j]? =none:=List.getElem?_eq_none (by rw [RT.leaves_len];omega)
      have n2:(u.leaves (ys.getD i u.dflt))[j]? =none:=List.getElem?_eq_none (by rw [RT.leaves_len];omega)
      rw [n1,n2]
   ·rw [List.getElem?_set_ne (fun e=>hi e.symm)];cases ex:ys[i]? with
    |none=>rfl
    |some x0=>
     simp only;by_cases hjs:j<u.size
     ·refine go x0 ex x0 (by rw [List.getElem?_set_ne (fun e=>hi e.symm)];exact ex) rfl (hcs _ ?_)
      rcases Nat.lt_or_gt_of_ne hi with h|h
      ·have:(i+1)*u.size≤idx*u.size:=zNe _ h;rw [Nat.succ_mul] at this;exact .inl (by omega)
      ·have:(idx+1)*u.size≤i*u.size:=zNe _ h;rw [Nat.succ_mul] at this;exact .inr (by omega)
     ·have n2:(u.leaves x0)[j]? =none:=List.getElem?_eq_none (by rw [RT.leaves_len];omega)
      rw [n2]
def zkM (sh:Bool) (t:RT) (j:Nat):Path→Bool:=match sh||shT t j,t.elemAt j with
 |false,some u=>owT u
 |_,_=>fun _=>false
inductive RM where
 |own (t:RT)
 |shr (t:RT)
 |no
 |box (T:TypeId) (n1 n2:SN)
def RM.ty:RM→Type
 | .own t=>t.ty
 | .shr t=>t.ty
 | .no=>Unit
 | .box _ n1 n2=>n1.ty×n2.ty
def Args:List RM→Type
 |[]=>Unit
 |t::ts=>t.ty×Args ts
def ziH (t:RT) (us:List Value):Value:=match t with
 | .st _=> .agg us.toArray
 |_=>us.headD undef
def zFb (w:World) (F:Nat→Prop) (t:RT) (x:t.ty) (v:Value):Prop:=∃us,Rd w F t x us∧v=ziH t us
def ValO (w:World) (S F:Nat→Prop):(m:RM)→m.ty→Value→Prop
 | .own t,x,v=>∃us,Own w S t x (zkM false t) F us∧v=ziH t us
 | .shr t,x,v=>∃us,Own w S t x (zkM true t) F us∧v=ziH t us
 | .no,_,_=>True
 | .box T n1 n2,x,v=>∃b us1 us2 G,v= .pointer (some ⟨b,0,none⟩)∧F b∧Blk w b T (us1++us2).toArray∧(∀v∈us1++us2,v.oneCell'=true)∧(∀y,G y→F y∧y≠b)∧
  Own w S (.st n1) x.1 (zkM true (.st n1)) (fun _=>False) us1∧Own w S (.st n2) x.2 (zkM false (.st n2)) G us2
def ValsO (w:World) (S:Nat→Prop):(F:Nat→Prop)→(ts:List RM)→Args ts→List Value→Prop
 |_,[],_,vs=>vs=[]
 |F,t::ts,x,vs=>∃v vs' G1 G2,vs=v::vs'∧(∀y,G1 y→F y)∧(∀y,G2 y→F y)∧(∀y:Nat,G1 y→G2 y→False)∧ValO w S G1 t x.1 v∧ValsO w S G2 ts x.2 vs'
def ResO (w:World) (S F:Nat→Prop):(rs:List RM)→Args rs→Value→Prop
 |[t],y,v=>ValO w S F t y.1 v
 |rs,y,v=>∃vs,v= .tuple vs.toArray∧ValsO w S F rs y vs
def zCb (P:Program) [Fast P] (f:FuncId):Prop:=∃fn c,P.funcs[f]? =some fn∧(fn.name== "runtime.NumGoroutine")=false∧fn.body=some c
def elems {α:Type} (f:List AV→Option α) (sz:Nat):Nat→List AV→Option (List α)
 |0,_=>some []
 |n+1,l=>match f (l.take sz),elems f sz n (l.drop sz) with
  |some x,some r=>some (x::r)
  |_,_=>none
def zag (f:(t:RT)→AV→Option (List t.ty)):List Leaf→List AV→Option (List Leaf)
 |[],[]=>some []
 | .int k _::ls, .lit (.int j n)::zas=>match decide (k=j),zag f ls zas with
   |true,some r=>some (.int k n::r)
   |_,_=>none
 | .bool _::ls, .lit (.bool b)::zas=>match zag f ls zas with
   |some r=>some (.bool b::r)
   |none=>none
 | .str _::ls, .lit (.string s)::zas=>match zag f ls zas with
   |some r=>some (.str s::r)
   |none=>none
 | .list t _::ls,a::zas=>match f t a,zag f ls zas with
   |some l,some r=>some (.list t l::r)
   |_,_=>none
 |_,_=>none
def zbO:Nat→St→(t:RT)→AV→Option (List t.ty)
 |0,_,_,_=>none
 |d+1,st,t,a=>match a with
  | .lit (.slice none 0 0)=>some []
  | .emp=>some []
  | .emz=>some []
  | .lw i k p sz _=>match st.h.get i with
    |some bk=>match bk.op,zu bk.cells with
     |some 0, .tree _ rt xs kv=>match ze1 k kv p&&Nat.beq sz (sub p rt xs).1.size,RT.same (sub p rt xs).1 t with
      |true,some h=>some (zqO h (sub p rt xs).2)
      |_,_=>none
     |_,_=>none
    |none=>none
  | .lv i k p sz lo n=>match st.h.get i with
    |some bk=>match bk.op,zu bk.cells with
     |some 0, .tree _ rt xs kv=>match ze1 k kv p&&Nat.beq sz (sub p rt xs).1.size,RT.same (sub p rt xs).1 t with
      |true,some h=>some (((zqO h (sub p rt xs).2).drop lo).take n)
      |_,_=>none
     |_,_=>none
    |none=>none
  | .sl b off len _ _=>match zk4 st.h b with
    |some bk=>match Nat.ble len 1000000,elems (fun l=>match zag (zbO d st) (t.leaves t.dflt) l with|some ls=>t.build ls|none=>none) t.size len (bk.cells.drop off) with
     |true,some l=>some l
     |_,_=>none
    |none=>none
  |_=>none
def zkK (st:St):(t:RT)→AV→Option t.ty
 | .st n, .agg l=>match zag (zbO 5 st) ((RT.st n).leaves (RT.st n).dflt) l with
   |some ls=>RT.build (.st n) ls
   |none=>none
 | .st _,_=>none
 |t,a=>match zag (zbO 5 st) (t.leaves t.dflt) [a] with
  |some ls=>t.build ls
  |none=>none
theorem LfR.view {w:World} {F:Nat→Prop} {t:RT} {l:List t.ty} {g:Hdr} (h:LfR w F (.list t l) g.val) {lo n:Nat} {v:Value} (hv:LvR g t.size lo n v):LfR w F (.list t ((l.drop lo).take n)) v:=by
 obtain ⟨h1,h2,A',rfl,h3,h4⟩:=hv;obtain ⟨A,m,c⟩:=g;have hm:=h.lenEq;simp only at h1 h2 h3 h4 hm;have hlen:((l.drop lo).take n).length=n:=by rw [List.length_take,List.length_drop];omega
 have hmax:l.length≤maxLen:=by obtain ⟨_,_,_,_,h5⟩:=h.slice;exact h5
 have at_:∀(i:Nat) (x:t.ty),((l.drop lo).take n)[i]? =some x→l[lo+i]? =some x∧i<n:=fun i x hx=>by
  rw [List.getElem?_take] at hx;split at hx
  ·rw [List.getElem?_drop] at hx;exact ⟨hx,by assumption⟩
  ·cases hx
 rw [show (Value.slice A' n (c - lo))= .slice A' ((l.drop lo).take n).length (c - lo) by rw [hlen]]
 refine .list t _ A' (c - lo) (fun i j=>(match A with|some ⟨b,o,_⟩=>w.cell? ⟨b,o+(lo+i)*t.size+j,none⟩|none=>none).getD undef) (by rw [hlen];omega) (by rw [hlen];omega) (fun hl=>?_) (fun b o hA i x hx j lf hj=>?_) (fun i x hx j lf hj=>?_)
 ·have hn:n≠0:=by rintro rfl;exact hl (by simp)
  obtain ⟨b,o,rfl,rfl⟩:=h4 hn;obtain ⟨b',o',e,hb,hlt,_⟩:=h.elem (i:=lo) (x:=l[lo]'(by omega)) (zNg (by omega))
  simp only [zNn,Addr.mk.injEq,and_true] at e;obtain ⟨rfl,rfl⟩:=e;exact ⟨_,_,rfl,hb,hlt⟩
 ·obtain ⟨hx',hi⟩:=at_ i x hx;obtain ⟨b1,o1,rfl,e2⟩:=h4 (by omega)
  rw [hA] at e2;simp only [zNn,Addr.mk.injEq,and_true] at e2;obtain ⟨rfl,rfl⟩:=e2;obtain ⟨b',o',e,hb,hlt,hc⟩:=h.elem hx';simp only [zNn,Addr.mk.injEq,and_true] at e;obtain ⟨rfl,rfl⟩:=e;obtain ⟨v,hv,_⟩:=hc j lf hj;have e3:o1+lo*t.size+i*t.size+j=o1+(lo+i)*t.size+j:=by rw [zNr];omega
  simp only [e3,hv,Option.getD_some]
 ·obtain ⟨hx',hi⟩:=at_ i x hx;obtain ⟨b',o',rfl,hb,hlt,hc⟩:=h.elem hx';obtain ⟨v,hv,hr⟩:=hc j lf hj;simp only [hv,Option.getD_some];exact hr
variable {P:Program} [Fast P] {ρ ρ':Rho} {w w0 w':World} {K:KS} {st st':St} {S:Nat→Prop} {F:Nat→Nat→Prop}
theorem LfR.any {F:Nat→Prop} {lf:Leaf} {v:Value} (h:LfR w F lf v):LfR w (lt w.heap.size) lf v:=by
 induction h with
 |int k n=>exact .int k n
 |bool b=>exact .bool b
 |str s=>exact .str s
 |list t l A c vf h1 h2 h3 hc hr ih=>exact .list t l A c vf h1 h2 (fun hl=>let ⟨b,o,e,_,hlt⟩:=h3 hl;⟨b,o,e,hlt,hlt⟩) hc ih
theorem zor {G:Nat→Prop} {f:(t:RT)→AV→Option (List t.ty)} (hf:∀t a v l,f t a=some l→den ρ a v→LfR w G (.list t l) v):∀{ls:List Leaf} {zas:List AV} {us:List Value} {r:List Leaf},zag f ls zas=some r→dens ρ zas us→
  r.length=us.length∧∀(j:Nat) lf u,r[j]? =some lf→us[j]? =some u→LfR w G lf u
 |[],[],us,r,h,hd=>by
  simp only [zag,zNn] at h;simp only [dens] at hd;subst h;subst hd;exact ⟨rfl,fun j lf u h=>by simp at h⟩
 |[],_::_,_,_,h,_=>by simp [zag] at h
 |l::ls,[],_,_,h,_=>by cases l<;>simp [zag] at h
 |l::ls,a::zas,us,r,h,hd=>by
  simp only [dens] at hd;obtain ⟨u0,us',rfl,hd1,hd2⟩:=hd;have fin:∀{lf:Leaf} {r':List Leaf},LfR w G lf u0→zag f ls zas=some r'→r=lf::r'→r.length=(u0::us').length∧∀(j:Nat) lf u,r[j]? =some lf→(u0::us')[j]? =some u→LfR w G lf u:=by
   rintro lf r' h1 h2 rfl
   obtain ⟨h3,h4⟩:=zor hf h2 hd2;refine ⟨by simp [h3],fun j lf' u e1 e2=>?_⟩
   cases j with
   |zero=>simp at e1 e2;subst e1;subst e2;exact h1
   |succ j=>exact h4 j lf' u (by simpa using e1) (by simpa using e2)
  unfold zag at h;split at h
  ·rename_i heq _;cases heq
  ·rename_i k n0 ls' j n as' e1 e2;obtain ⟨rfl,rfl⟩:=List.cons.inj e1;obtain ⟨rfl,rfl⟩:=List.cons.inj e2;split at h
   ·rename_i r' hk hr;have hk:=of_decide_eq_true hk;subst hk;simp only [den] at hd1;subst hd1;exact fin (.int _ _) hr (zM8 h).symm
   ·cases h
  ·rename_i b0 ls' b as' e1 e2;obtain ⟨rfl,rfl⟩:=List.cons.inj e1;obtain ⟨rfl,rfl⟩:=List.cons.inj e2;split at h
   ·rename_i r' hr;simp only [den] at hd1;subst hd1;exact fin (.bool _) hr (zM8 h).symm
   ·cases h
  ·rename_i b0 ls' b as' e1 e2;obtain ⟨rfl,rfl⟩:=List.cons.inj e1;obtain ⟨rfl,rfl⟩:=List.cons.inj e2;split at h
   ·rename_i r' hr;simp only [den] at hd1;subst hd1;exact fin (.str _) hr (zM8 h).symm
   ·cases h
  ·rename_i t l0 ls' a' as' e1 e2;obtain ⟨rfl,rfl⟩:=List.cons.inj e1;obtain ⟨rfl,rfl⟩:=List.cons.inj e2;split at h
   ·rename_i l1 r' hl hr;exact fin (hf _ _ _ _ hl hd1) hr (zM8 h).symm
   ·cases h
  ·cases h
theorem ztd {α:Type} {f:List AV→Option α} {sz:Nat}:∀{n:Nat} {l:List AV} {xs:List α},elems f sz n l=some xs→xs.length=n∧∀(i:Nat) x,xs[i]? =some x→f ((l.drop (i*sz)).take sz)=some x
 |0,l,xs,h=>by obtain rfl:=zM8 h;exact ⟨rfl,fun i x hx=>by simp at hx⟩
 |n+1,l,xs,h=>by
  simp only [elems] at h;split at h
  ·rename_i x r h1 h2;obtain rfl:=zM8 h;obtain ⟨h3,h4⟩:=ztd h2;refine ⟨by simp [h3],fun i y hy=>?_⟩
   cases i with
   |zero=>simp at hy;subst hy;simpa using h1
   |succ i=>
    have:=h4 i y (by simpa using hy)
    rw [List.drop_drop] at this;rw [Nat.succ_mul,Nat.add_comm];exact this
  ·cases h
theorem zFk {t u:RT} (h:PLift (t=u)) (l:List t.ty) {w:World} {G:Nat→Prop} {v:Value} (hr:LfR w G (.list t l) v):LfR w G (.list u (zqO h l)) v:=by
 obtain ⟨rfl⟩:=h;exact hr
theorem zep (hs:SimF K w0 ρ S F st w):∀(d:Nat) {t:RT} {a:AV} {v:Value} {l:List t.ty},zbO d st t a=some l→den ρ a v→LfR w (lt w.heap.size) (.list t l) v
 |0,_,_,_,_,h,_=>nomatch h
 |d+1,t,a,v,l,h,hd=>by
  have nil_:∀A c,LfR w (lt w.heap.size) (.list t []) (.slice A 0 c):=fun A c=> .list t [] A c (fun _ _=>undef) (zNk _) (by simp [maxLen]) (fun h=>absurd rfl h) (fun _ _ _ i x hx=>by simp at hx) (fun i x hx=>by simp at hx)
  unfold zbO at h;split at h
  ·obtain rfl:=zM8 h;simp only [den] at hd;subst hd;exact nil_ _ _
  ·obtain rfl:=zM8 h;simp only [den] at hd;obtain ⟨A,c,rfl⟩:=hd;exact nil_ _ _
  ·obtain rfl:=zM8 h;simp only [den] at hd;obtain ⟨A,rfl⟩:=hd;exact nil_ _ _
  ·rename_i i k p sz n;simp only [den] at hd;obtain ⟨g,hg,hlv,hgn⟩:=hd;split at h
   ·rename_i bk hb;split at h
    ·rename_i own rt xs kv hop hkd;split at h
     ·rename_i hh hver hsame;simp only [Bool.and_eq_true] at hver;have hsz:=zM9 hver.2;subst hsz;obtain rfl:=zM8 h;obtain ⟨x,c,_,ht,hhd,_⟩:=Sim.at_ hs hb hop hkd hver.1 hg;have h0:=znx ht.rd hhd;have h1:=h0.view hlv;rw [List.drop_zero, ←hgn,h0.lenEq,List.take_length] at h1;obtain ⟨e⟩:=hh;subst e;exact h1.any
     ·cases h
    ·cases h
   ·cases h
  ·rename_i i k p sz lo n;simp only [den] at hd;obtain ⟨g,hg,hlv⟩:=hd;split at h
   ·rename_i bk hb;split at h
    ·rename_i own rt xs kv hop hkd;split at h
     ·rename_i hh hver hsame;simp only [Bool.and_eq_true] at hver;have hsz:=zM9 hver.2;subst hsz;obtain rfl:=zM8 h;obtain ⟨x,c,_,ht,hhd,_⟩:=Sim.at_ hs hb hop hkd hver.1 hg;have h1:=(znx ht.rd hhd).view hlv;obtain ⟨e⟩:=hh;subst e;exact h1.any
     ·cases h
    ·cases h
   ·cases h
  ·rename_i b off len cap op;simp only [den] at hd;obtain ⟨x,c,hx,rfl,_,hlen⟩:=hd;split at h
   ·rename_i bk hb;split at h
    ·rename_i l' hle hel;obtain rfl:=zM8 h;obtain ⟨hl1,hl2⟩:=ztd hel;obtain ⟨x',c',hx',_,hbk,_⟩:=hs.blkC hb;rw [hx] at hx';obtain ⟨rfl,rfl⟩:=zNb (zM8 hx');have hlt:=hbk.lt;obtain ⟨vs,rest,b1,b2,b3,b4,b5⟩:=hbk;have hle:len≤1000000:=zNc hle;have hlv:=zL b1;have el:∀(i:Nat) (y:t.ty),l'[i]? =some y→∀(j:Nat) lf,(t.leaves y)[j]? =some lf→∃u,w.cell? ⟨x,off+i*t.size+j,none⟩=some u∧LfR w (lt w.heap.size) lf u:=fun i y hy j lf hj=>by
      have h1:=hl2 i y hy;split at h1
      ·rename_i ls hls;have hleaf:=RT.build_ok h1;have hdd:=zcb t.size (zbA (i*t.size) (zbA off b1));obtain ⟨h2,h3⟩:=zor (w:=w) (G:=lt w.heap.size) (fun t a v l h hd=>zep hs d h hd) hls hdd;rw [←hleaf] at h2 h3;have hjl:=(zNa.1 hj).1;have hju:j<(((vs.drop off).drop (i*t.size)).take t.size).length:=by rw [←h2];exact hjl
       refine ⟨_,?_,h3 j lf _ hj (zNg hju)⟩;have hjt:j<t.size:=by rw [List.length_take] at hju;omega
       rw [b2.cell,List.getElem?_toArray];have e:(((vs.drop off).drop (i*t.size)).take t.size)[j]? =vs[off+i*t.size+j]? :=by
        rw [List.getElem?_take,if_pos hjt,List.getElem?_drop,List.getElem?_drop];congr 1;omega
       rw [←zNg hju,e];rw [zNh];have:vs[off+i*t.size+j]?.isSome:=by rw [←e,zNg hju];rfl
       rcases Nat.lt_or_ge (off+i*t.size+j) vs.length with h|h
       ·exact h
       ·rw [List.getElem?_eq_none h] at this;cases this
      ·cases h1
     subst hl1;refine .list t l' _ _ (fun i j=>(w.cell? ⟨x,off+i*t.size+j,none⟩).getD undef) hlen (by simp only [maxLen];omega) (fun _=>⟨x,off,rfl,hlt,hlt⟩) (fun b' o' hA i y hy j lf hj=>?_) (fun i y hy j lf hj=>?_)
     ·simp only [zNn,Addr.mk.injEq,and_true] at hA;obtain ⟨rfl,rfl⟩:=hA;obtain ⟨u,hu,_⟩:=el i y hy j lf hj;rw [hu];rfl
     ·obtain ⟨u,hu,hr⟩:=el i y hy j lf hj;rw [hu];exact hr
    ·cases h
   ·cases h
  ·cases h
def zIC (st:St) (t:RT):AV→Option t.ty
 | .ep i k p sz idx cell=>match Nat.beq cell 0,zbO 1 st t (.lw i k p sz 0) with
   |true,some l=>some (l.getD idx t.dflt)
   |_,_=>none
 |_=>none
theorem zGQ (hs:SimF K w0 ρ S F st w) {t:RT} {a:AV} {v:Value} {x:t.ty} (h:zIC st t a=some x) (hd:den ρ a v):∃b o,v= .pointer (some ⟨b,o,none⟩)∧LfR w (lt w.heap.size) (.list t [x]) (.slice (some ⟨b,o,none⟩) 1 1):=by
 cases a with
 |ep i k p sz idx cell=>
  simp only [zIC] at h;split at h
  ·rename_i l hcell hl;obtain rfl:=zM8 h;have hcell:=zM9 hcell;subst hcell;simp only [den] at hd;obtain ⟨g,hg,hidx,b,o,hA,rfl⟩:=hd;unfold zbO at hl;simp only at hl;split at hl
   ·rename_i bk hb;split at hl
    ·rename_i own rt xs kv hop hkd;split at hl
     ·rename_i hh hver hsame;simp only [Bool.and_eq_true] at hver;have hsz:=zM9 hver.2;subst hsz;obtain rfl:=zM8 hl;obtain ⟨x,c,_,ht,hhd,_⟩:=Sim.at_ hs hb hop hkd hver.1 hg;have h0:=znx ht.rd hhd;have hlen:=h0.lenEq;have hcap:g.2.1≤g.2.2:=by
       obtain ⟨A1,c1,e1,h1,_⟩:=h0.slice;obtain ⟨A,m,c⟩:=g;simp only [Hdr.val,Value.slice.injEq] at e1;obtain ⟨_,e2,e3⟩:=e1;simp only;omega
      have h1:=h0.view (lo:=idx) (n:=1) (v:= .slice (some ⟨b,o+idx*(sub p rt xs).1.size,none⟩) 1 (g.2.2 - idx)) ⟨by omega,hcap,_,rfl,fun e=>by rw [hA,e,Nat.zero_mul,Nat.add_zero],fun _=>⟨b,o,hA,rfl⟩⟩
      obtain ⟨e⟩:=hh;subst e;refine ⟨b,_,rfl,?_⟩;have hi:idx<(sub p rt xs).2.length:=by omega
      have e1:((sub p rt xs).2.drop idx).take 1=[(sub p rt xs).2.getD idx (sub p rt xs).1.dflt]:=by
       rw [List.take_one,List.head?_drop,zNg hi,List.getD_eq_getElem?_getD,zNg hi];rfl
      rw [e1] at h1;have h2:=h1.any;cases h2 with
      |list _ _ _ _ vf a1 a2 a3 a4 a5=>exact .list _ _ _ 1 vf (zNm _) a2 a3 a4 a5
     ·cases hl
    ·cases hl
   ·cases hl
  ·cases h
 |_=>cases h
theorem zus (hs:SimF K w0 ρ S F st w) {t:RT} {zas:List AV} {us:List Value} {ls:List Leaf} {x:t.ty} (h:zag (zbO 5 st) (t.leaves t.dflt) zas=some ls) (hb:t.build ls=some x) (hd:dens ρ zas us):Rd w (lt w.heap.size) t x us:=by
 obtain ⟨h1,h2⟩:=zor (w:=w) (G:=lt w.heap.size) (fun t a v l h hd=>zep hs 5 h hd) h hd;have h3:=RT.build_ok hb;rw [←h3] at h1 h2;refine ⟨by rw [←h1,RT.leaves_len],fun j lf hj=>?_⟩
 have hlt:=(zNa.1 hj).1;exact ⟨us[j]'(by omega),zNg _,h2 j lf _ hj (zNg _)⟩
theorem zGO (hs:SimF K w0 ρ S F st w) {t:RT} {a:AV} {v:Value} {x:t.ty} (h:zkK st t a=some x) (hd:den ρ a v):zFb w (lt w.heap.size) t x v:=by
 have one:∀{t:RT} {x:t.ty},(match zag (zbO 5 st) (t.leaves t.dflt) [a] with|some ls=>t.build ls|none=>none)=some x→(∀us,ziH t us=us.headD undef)→zFb w (lt w.heap.size) t x v:=fun {t x} h hm=>by
  split at h
  ·rename_i ls hls;exact ⟨[v],zus hs hls h (by simp only [dens];exact ⟨v,[],rfl,hd,rfl⟩),by rw [hm];rfl⟩
  ·cases h
 cases t with
 |st n=>
  cases a with
  |agg l=>
   simp only [zkK] at h;split at h
   ·rename_i ls hls;simp only [den] at hd;obtain ⟨us,rfl,hd⟩:=hd;exact ⟨us,zus hs hls h hd,rfl⟩
   ·cases h
  |_=>cases h
 |int k=>exact one (by simpa only [zkK] using h) fun _=>rfl
 |bool=>exact one (by simpa only [zkK] using h) fun _=>rfl
 |str=>exact one (by simpa only [zkK] using h) fun _=>rfl
 |list t=>exact one (by simpa only [zkK] using h) fun _=>rfl
end Go.Proofs.YtiepllpgifnloaaGreat.Vx

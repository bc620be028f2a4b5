/- A library of the proof, and the functions' values and contracts. -/
import Derived.Test.YtiepllpgifnloaaGreatA3
import Derived.Test.YtiepllpgifnloaaGreatProg
import Derived.WalkKit
import Derived.Lib.Overlaps
import Derived.Lib.AppendZerosOnto
import Derived.Shelf.RegionOpenPlain
import Derived.Laws.Externs
set_option linter.unusedSimpArgs false
set_option linter.unusedVariables false
set_option linter.unusedSectionVars false
set_option linter.defProp false
namespace Go.Proofs.YtiepllpgifnloaaGreat.Vx
open Go.RowKit
structure Pr where
 α:Type
 a:α
 b:α
def zsC:List Pr→Prop
 |[]=>True
 |p::l=>p.a=p.b∧zsC l
def dups:List Pr→List Pr
 |[]=>[]
 |p::l=>⟨p.α,p.a,p.a⟩::dups l
theorem zy0:∀{l:List Pr},l=dups l→zsC l
 |[],_=>trivial
 |⟨α,a,b⟩::l,h=>by
  simp only [dups,List.cons.injEq,Pr.mk.injEq,heq_eq_eq,true_and] at h;exact ⟨h.1.symm,zy0 h.2⟩
inductive Qr where
 |eq (p:Pr)
 |so (m:MP)
def zki:List Qr→Prop
 |[]=>True
 | .eq p::l=>p.a=p.b∧zki l
 | .so m::l=>m.p∧zki l
def hards:List Qr→List Pr
 |[]=>[]
 | .eq p::l=>p::hards l
 | .so _::l=>hards l
def znO:List Qr→Bool
 |[]=>true
 | .eq _::l=>znO l
 | .so m::l=>match hasSo l with
   |true=>@decide m.p m.d&&znO l
   |false=>@decide m.p m.d
 where hasSo:List Qr→Bool
 |[]=>false
 | .eq _::l=>hasSo l
 | .so _::_=>true
theorem zm5:∀{l:List Qr},znO.hasSo l=false→znO l=true
 |[],_=>rfl
 | .eq _::l,h=>zm5 (l:=l) h
theorem zw8:∀{l:List Qr},zsC (hards l)→znO l=true→zki l
 |[],_,_=>trivial
 | .eq p::l,h,hs=>⟨h.1,zw8 h.2 hs⟩
 | .so m::l,h,hs=>by
   have h2:m.p∧znO l=true:=by
    simp only [znO] at hs;split at hs
    ·simp only [Bool.and_eq_true] at hs;exact ⟨@of_decide_eq_true _ m.d hs.1,hs.2⟩
    ·rename_i h;exact ⟨@of_decide_eq_true _ m.d hs,zm5 h⟩
   exact ⟨h2.1,zw8 h h2.2⟩
theorem zoj:∀{l m:List Pr},zsC (l++m)↔zsC l∧zsC m
 |[],m=>by simp [zsC]
 |p::l,m=>by simp only [List.cons_append,zsC,zoj (l:=l),and_assoc]
theorem znS:∀{l m:List Qr},zki (l++m)↔zki l∧zki m
 |[],m=>by simp [zki]
 | .eq p::l,m=>by simp only [List.cons_append,zki,znS (l:=l),and_assoc]
 | .so p::l,m=>by simp only [List.cons_append,zki,znS (l:=l),and_assoc]
def zuF:Option (List Qr)→Option (List Qr)→Option (List Qr)
 |some l,some m=>some (l++m)
 |_,_=>none
theorem za0 {x y:Option (List Qr)} {l:List Qr} (h:zuF x y=some l) (hl:zki l):∃a b,x=some a∧y=some b∧zki a∧zki b:=by
 unfold zuF at h;split at h
 ·rename_i a b;obtain rfl:=zM8 h;exact ⟨a,b,rfl,rfl,(znS.1 hl).1,(znS.1 hl).2⟩
 ·cases h
def one {α:Type} (a b:α):Option (List Qr):=some [.eq ⟨α,a,b⟩]
theorem zeW {α:Type} {a b:α} {l:List Qr} (h:one a b=some l) (hl:zki l):a=b:=by
 obtain rfl:=zM8 h;exact hl.1
def tru (b:Bool):Option (List Qr):=match b with
 |true=>some []
 |false=>none
def zHK:Value→Value→Option (List Qr)
 | .int k n, .int j m=>match decide (k=j) with
   |true=>one n m
   |false=>none
 | .bool b, .bool c=>one b c
 | .string s, .string r=>one s r
 |v,u=>one v u
theorem zFE {v u:Value} {l:List Qr} (h:zHK v u=some l) (hl:zki l):zqa v u:=by
 unfold zHK at h;unfold zqa;split at h
 ·split at h
  ·rename_i hk;simp only [hk];exact zeW h hl
  ·cases h
 ·exact zeW h hl
 ·exact zeW h hl
 ·rename_i h1 h2 h3;split
  ·exact absurd rfl (h1 _ _ _ _ rfl)
  ·exact absurd rfl (h2 _ _ rfl)
  ·exact absurd rfl (h3 _ _ rfl)
  ·exact zeW h hl
def eqP:Path→Path→Option (List Qr)
 |[],[]=>some []
 |(i,j)::p,(i',j')::p'=>zuF (zuF (one i i') (one j j')) (eqP p p')
 |_,_=>none
theorem zu0:∀{p p':Path} {l:List Qr},eqP p p'=some l→zki l→zq9 p p'
 |[],[],_,_,_=>trivial
 |[],_::_,_,h,_=>nomatch h
 |_::_,[],_,h,_=>nomatch h
 |(i,j)::p,(i',j')::p',l,h,hl=>by
  simp only [eqP] at h;obtain ⟨a,b,h1,h2,h3,h4⟩:=za0 h hl;obtain ⟨c,d,h5,h6,h7,h8⟩:=za0 h1 h3;exact ⟨⟨zeW h5 h7,zeW h6 h8⟩,zu0 h2 h4⟩
def zIw (p:Path) (a b:Nat):Option (List Qr):=match p with
 |[]=>some [.so ⟨a=b,inferInstance⟩]
 |_=>one a b
theorem zGG {p:Path} {a b:Nat} {l:List Qr} (h:zIw p a b=some l) (hl:zki l):a=b:=by
 unfold zIw at h;split at h
 ·obtain rfl:=zM8 h;exact hl.1
 ·exact zeW h hl
mutual
def zKi:AV→AV→Option (List Qr)
 | .dead,_=>some []
 | .lit v, .lit u=>zHK v u
 | .ptr b o, .ptr b' o'=>match Nat.beq b b',Nat.beq o o' with
   |true,true=>some []
   |_,_=>none
 | .lv i k p sz lo n, .lv i' k' p' sz' lo' n'=>match Nat.beq i i',Nat.beq k k',Nat.beq sz sz' with
   |true,true,true=>zuF (eqP p p') (zuF (one lo lo') (one n n'))
   |_,_,_=>none
 | .lv i k p sz lo n, .lw i' k' p' sz' n'=>match Nat.beq i i',Nat.beq k k',Nat.beq sz sz' with
   |true,true,true=>zuF (eqP p p') (zuF (one lo 0) (one n n'))
   |_,_,_=>none
 | .ep i k p sz lo n, .ep i' k' p' sz' lo' n'=>match Nat.beq i i',Nat.beq k k',Nat.beq sz sz' with
   |true,true,true=>zuF (eqP p p') (zuF (zIw p lo lo') (one n n'))
   |_,_,_=>none
 | .agg l, .agg m=>eqAVs l m
 | .tup l, .tup m=>eqAVs l m
 | .fn f l, .fn g m=>match Nat.beq f g with
   |true=>eqAVs l m
   |false=>none
 | .lw i k p sz n, .lw i' k' p' sz' n'=>match Nat.beq i i',Nat.beq k k',Nat.beq sz sz' with
   |true,true,true=>zuF (eqP p p') (one n n')
   |_,_,_=>none
 | .ver, .ver=>some []
 | .emz, .emz=>some []
 | .ep _ _ _ _ _ _, .lit _=>none
 | .lit _, .ep _ _ _ _ _ _=>none
 | .ptr _ _, .lit _=>none
 | .lit _, .ptr _ _=>none
 |v,u=>one v u
def eqAVs:List AV→List AV→Option (List Qr)
 |[],[]=>some []
 |a::l,b::m=>zuF (zKi a b) (eqAVs l m)
 |_,_=>none
end
mutual
theorem zCK:∀{a b:AV} {l:List Qr},zKi a b=some l→zki l→z5 a b:=by
 intro a b l h hl;unfold zKi at h;split at h
 ·simp only [z5]
 ·simp only [z5];exact zFE h hl
 ·split at h
  ·rename_i h1 h2;simp only [z5,h1,h2]
  ·cases h
 ·split at h
  ·rename_i h1 h2 h3;obtain ⟨c,d,h5,h6,h7,h8⟩:=za0 h hl;obtain ⟨c',d',g5,g6,g7,g8⟩:=za0 h6 h8;simp only [z5,h1,h2,h3];exact ⟨zu0 h5 h7,zeW g5 g7,zeW g6 g8⟩
  ·cases h
 ·split at h
  ·rename_i h1 h2 h3;obtain ⟨c,d,h5,h6,h7,h8⟩:=za0 h hl;obtain ⟨c',d',g5,g6,g7,g8⟩:=za0 h6 h8;simp only [z5,h1,h2,h3];exact ⟨zu0 h5 h7,zeW g5 g7,zeW g6 g8⟩
  ·cases h
 ·split at h
  ·rename_i h1 h2 h3;obtain ⟨c,d,h5,h6,h7,h8⟩:=za0 h hl;obtain ⟨c',d',g5,g6,g7,g8⟩:=za0 h6 h8;simp only [z5,h1,h2,h3];exact ⟨zu0 h5 h7,zGG g5 g7,zeW g6 g8⟩
  ·cases h
 ·simp only [z5];exact eqAVs_ok h hl
 ·simp only [z5];exact eqAVs_ok h hl
 ·split at h
  ·rename_i h1;simp only [z5,h1];exact eqAVs_ok h hl
  ·cases h
 ·split at h
  ·rename_i h1 h2 h3;obtain ⟨c,d,h5,h6,h7,h8⟩:=za0 h hl;simp only [z5,h1,h2,h3];exact ⟨zu0 h5 h7,zeW h6 h8⟩
  ·cases h
 ·simp only [z5]
 ·simp only [z5]
 ·cases h
 ·cases h
 ·cases h
 ·cases h
 ·rename_i v u h1 h2 h3 h4 h5 h6 h7 h8 h9 h10 h11 h12 k1 k2 k3 k4;have e:=zeW h hl;subst e;cases v<;>simp only [z5]<;>first
   |exact absurd rfl (h1 _ _)
   |exact (h2 _ _ rfl rfl).elim
   |exact (h3 _ _ _ _ rfl rfl).elim
   |exact (h4 _ _ _ _ _ _ _ _ _ _ _ _ rfl rfl).elim
   |exact (h6 _ _ _ _ _ _ _ _ _ _ _ _ rfl rfl).elim
   |exact (h7 _ _ rfl rfl).elim
   |exact (h8 _ _ rfl rfl).elim
   |exact (h9 _ _ _ _ rfl rfl).elim
   |exact (h10 _ _ _ _ _ _ _ _ _ _ rfl rfl).elim
   |trivial
theorem eqAVs_ok:∀{a b:List AV} {l:List Qr},eqAVs a b=some l→zki l→sameAVs a b
 |[],[],_,_,_=>by simp only [sameAVs]
 |[],_::_,_,h,_=>by simp [eqAVs] at h
 |_::_,[],_,h,_=>by simp [eqAVs] at h
 |a::l,b::m,r,h,hr=>by
  simp only [eqAVs] at h;obtain ⟨c,d,h5,h6,h7,h8⟩:=za0 h hr;simp only [sameAVs];exact ⟨zCK h5 h7,eqAVs_ok h6 h8⟩
end
def zMU:Ow→Ow→Option (List Qr)
 | .all, .all=>some []
 | .none, .none=>some []
 | .ro, .ro=>some []
 | .top, .top=>some []
 | .fn f, .fn g=>one f g
 | .bor, .bor=>some []
 |_,_=>none
def zHI (t:RT) (n:Nat) (o o':Ow):Option (List Qr):=match zCy t n o o' with
 |some m=>some [.so m]
 |none=>zMU o o'
theorem zHJ {o p:Ow} {l:List Qr} (h:zMU o p=some l) (hl:zki l):zEn o p:=by
 cases o<;>cases p<;>first|trivial|(cases h;done)|exact zeW h hl
theorem zFD {t:RT} {n:Nat} {o p:Ow} {l:List Qr} (h:zHI t n o p=some l) (hl:zki l):zm2 t n o p:=by
 unfold zHI at h;unfold zm2;split at h
 ·rename_i m hm;obtain rfl:=zM8 h;rw [hm];exact hl.1
 ·rename_i hm;rw [hm];exact zHJ h hl
def zxN:List AV→List AV→Option (List Qr)
 |[.tre own t xs k],[.tre own' t' xs' k']=>match Nat.beq k k',RT.same t' t with
  |true,some h=>zuF (zHI t' xs'.length own own') (one xs (zqO h xs'))
  |_,_=>none
 |l,m=>match zEm (zu l) (zu m) with
  |true=>eqAVs l m
  |false=>none
theorem zAR {a b:List AV} {l:List Qr} (h:zxN a b=some l) (hl:zki l):zf3 a b:=by
 unfold zxN at h;unfold zf3;split at h
 ·split at h
  ·rename_i h1 h3;simp only [h1,h3];obtain ⟨c,d,h5,h6,h7,h8⟩:=za0 h hl;exact ⟨zFD h5 h7,zeW h6 h8⟩
  ·cases h
 ·rename_i hn;split
  ·exact (hn _ _ _ _ _ _ _ _ rfl rfl).elim
  ·split at h
   ·rename_i h1;simp only [h1];exact eqAVs_ok h hl
   ·cases h
def zKm (L:List (Nat×Nat)) (tm:T AV):List (Nat×AV)→Option (List Qr)
 |[]=>some []
 |(t,v)::l=>zuF (match tm.get t with|some a=>zKi v (zm0 (zmu L) a)|none=>none) (zKm L tm l)
theorem zCN {L:List (Nat×Nat)} {tm:T AV}:∀{l:List (Nat×AV)} {r:List Qr},zKm L tm l=some r→zki r→leT L tm l
 |[],_,_,_=>trivial
 |(t,v)::l,r,h,hr=>by
  simp only [zKm] at h;obtain ⟨c,d,h5,h6,h7,h8⟩:=za0 h hr;simp only [leT];refine ⟨?_,zCN h6 h8⟩;split at h5
  ·rename_i a ha;rw [ha];exact zCK h5 h7
  ·cases h5
def zKj (L:List (Nat×Nat)) (h:T Bk) (wr:Nat→Bool) (n:Nat):List (Nat×Bk)→Option (List Qr)
 |[]=>some []
 |(b,bk)::l=>zuF (match zhD L b with
  |some b'=>match h.get b' with
   |some bk'=>match Nat.beq bk.ty bk'.ty&&(zHc bk.op bk'.op&&(undersB n bk.cells&&(Nat.blt b n&&((!wr b||wr b')&&zwv (zmu L) (zu bk'.cells))))) with
    |true=>zxN bk.cells (renL (zmu L) bk'.cells)
    |false=>none
   |none=>none
  |none=>none) (zKj L h wr n l)
theorem zCL {L:List (Nat×Nat)} {h:T Bk} {wr:Nat→Bool} {n:Nat}:∀{l:List (Nat×Bk)} {r:List Qr},zKj L h wr n l=some r→zki r→leB L h wr n l
 |[],_,_,_=>trivial
 |(b,bk)::l,r,e,hr=>by
  simp only [zKj] at e;obtain ⟨c,d,h5,h6,h7,h8⟩:=za0 e hr;simp only [leB];refine ⟨?_,zCL h6 h8⟩;split at h5
  ·rename_i b' hb';rw [hb'];simp only;split at h5
   ·rename_i bk' hbk;rw [hbk];simp only;split at h5
    ·rename_i h1;rw [h1];exact zAR h5 h7
    ·cases h5
   ·cases h5
  ·cases h5
def eqR (s:Snap) (L:List (Nat×Nat)) (tm:T AV) (st:St):Option (List Qr):=zuF (zKm L tm s.t) (zuF (zKj L st.h st.wr s.n s.b) (tru (zcA (zE8 L)&&(zcA (zFo L)&&(zuJ s.n (zE8 L)&&zKu s.n L)))))
def soM:List MP→List Qr→List Qr
 |[],l=>l
 |m::ms,l=> .so m::soM ms l
theorem zEI:∀{ms:List MP} {l:List Qr},zki (soM ms l)→zI0 ms∧zki l
 |[],_,h=>⟨trivial,h⟩
 |_::_,_,h=>⟨⟨h.1,(zEI h.2).1⟩,(zEI h.2).2⟩
def eqS (s:Snap) (tm:T AV) (st:St):Option (List Qr):=match zio (blS s.b) [] s.t tm st with
 |(tm1,st1,ms)=>match zB7 (blS s.b) st1.h 1000 (zzS tm1 s.t) [] with
  |L=>match eqR s L tm1 ⟨zns st1.h (zFo L),st1.n,st1.wr⟩ with
   |some l=>some (soM ms l)
   |none=>none
theorem zu1 {s:Snap} {tm:T AV} {st:St} {l:List Qr} (h:eqS s tm st=some l) (hl:zki l):leS s tm st:=by
 unfold eqS at h;unfold leS;generalize zio (blS s.b) [] s.t tm st=r at*;obtain ⟨tm1,st1,ms⟩:=r;simp only at h ⊢;split at h
 case h_2=>cases h
 rename_i l1 h0;obtain rfl:=zM8 h;have h:=h0;have hl:=zEI hl;refine ⟨hl.1,?_⟩;have hl:=hl.2;unfold eqR at h;unfold leR;obtain ⟨c,d,h5,h6,h7,h8⟩:=za0 h hl;obtain ⟨c',d',g5,g6,g7,g8⟩:=za0 h6 h8;refine ⟨zCN h5 h7,zCL g5 g7,?_⟩;unfold tru at g6;split at g6
 ·rename_i h1;exact h1
 ·cases g6
inductive FI where
 |none
 |op (o:Oper)
 |at (ex:EX) (tm:T AV) (st:St)
inductive VU (α:Type):Type 1 where
 |ret (a:α)
 |fork (c:Bool) (t e:VU α)
 |eqs (l:List Qr) (t:VU α)
 |must (p:Prop) (d:Decidable p) (t:VU α)
 |fail (k:Nat) (o:FI)
def VU.bind {α β:Type}:VU α→(α→VU β)→VU β
 | .ret a,f=>f a
 | .fork c t e,f=> .fork c (t.bind f) (e.bind f)
 | .eqs l t,f=> .eqs l (t.bind f)
 | .must p d t,f=> .must p d (t.bind f)
 | .fail k o,_=> .fail k o
noncomputable def VU.out {α:Type}:VU α→Option α
 | .ret a=>some a
 | .fork c t e=>match c with
   |true=>t.out
   |false=>e.out
 | .eqs l t=>open Classical in if zki l then t.out else none
 | .must p d t=>match d with
   | .isTrue _=>t.out
   | .isFalse _=>none
 | .fail _ _=>none
theorem VU.out_bind {α β:Type}:∀{t:VU α} {f:α→VU β} {b:β},(t.bind f).out=some b→∃a,t.out=some a∧(f a).out=some b
 | .ret a,f,b,h=>⟨a,rfl,h⟩
 | .fork c t e,f,b,h=>by
   cases c with
   |true=>exact out_bind (t:=t) h
   |false=>exact out_bind (t:=e) h
 | .eqs l t,f,b,h=>by
   simp only [VU.bind,VU.out] at h ⊢;split at h
   ·rename_i hl;rw [if_pos hl];exact out_bind h
   ·cases h
 | .must p d t,f,b,h=>by
   cases d with
   |isTrue _=>exact out_bind (t:=t) h
   |isFalse _=>cases h
 | .fail _ _,f,b,h=>nomatch h
def VT.u {α:Type}:VT α→VU α
 | .ret a=> .ret a
 | .fork c t e=> .fork c t.u e.u
 | .must p d t=> .must p d t.u
 | .fail k o=> .fail k (match o with
   |some o=> .op o
   |none=> .none)
theorem VT.u_out {α:Type}:∀{t:VT α} {a:α},t.u.out=some a→t.out=some a
 | .ret _,_,h=>h
 | .fork c t e,a,h=>by
   cases c with
   |true=>exact u_out (t:=t) h
   |false=>exact u_out (t:=e) h
 | .must p d t,a,h=>by
   cases d with
   |isTrue hp=>
    simp only [VT.out];rw [if_pos hp];exact u_out (t:=t) h
   |isFalse _=>cases h
 | .fail _ _,_,h=>nomatch h
def VU.isFail {α:Type}:VU α→Bool
 | .fail _ _=>true
 | .eqs _ t=>t.isFail
 | .must _ _ t=>t.isFail
 |_=>false
def VU.plain {α:Type}:VU α→Bool
 | .ret _=>true
 | .fork _ t e=>match t.plain with
   |true=>e.plain
   |false=>false
 | .eqs l t=>match znO.hasSo l with
   |true=>false
   |false=>t.plain
 | .must _ _ _=>false
 | .fail _ _=>false
def VU.okb {α:Type}:VU α→Bool
 | .ret _=>true
 | .fork c t e=>match t.plain,e.plain with
   |true,true=>true
   |pt,pe=>match e.isFail,t.isFail with
    |true,_=>match pt with
     |true=>c
     |false=>c&&t.okb
    |false,true=>match pe with
     |true=> !c
     |false=> !c&&e.okb
    |false,false=>cond c t.okb e.okb
 | .eqs l t=>match znO.hasSo l with
   |false=>t.okb
   |true=>match t.plain with
    |true=>znO l
    |false=>znO l&&t.okb
 | .must p d t=>match t.plain with
   |true=>@decide p d
   |false=>@decide p d&&t.okb
 | .fail _ _=>false
def VU.val {α:Type} (d:α):VU α→α
 | .ret a=>a
 | .fork c t e=>match e.isFail,t.isFail with
   |true,_=>t.val d
   |false,true=>e.val d
   |false,false=>cond c (t.val d) (e.val d)
 | .eqs _ t=>t.val d
 | .must _ _ t=>t.val d
 | .fail _ _=>d
def VU.sides {α:Type}:VU α→List Pr
 | .ret _=>[]
 | .fork _ t e=>t.sides++e.sides
 | .eqs l t=>hards l++t.sides
 | .must _ _ t=>t.sides
 | .fail _ _=>[]
theorem VU.plain_ok {α:Type}:∀{t:VU α},t.plain=true→t.okb=true
 | .ret _,_=>rfl
 | .fork c t e,h=>by
   simp only [VU.plain] at h;split at h
   ·rename_i h1;simp only [VU.okb,h1,h]
   ·cases h
 | .eqs l t,h=>by
   simp only [VU.plain] at h;split at h
   ·cases h
   ·rename_i h1;simp only [VU.okb,h1];exact plain_ok h
 | .must _ _ _,h=>nomatch h
 | .fail _ _,h=>nomatch h
theorem VU.isFail_okb {α:Type}:∀{t:VU α},t.isFail=true→t.okb=true→False
 | .ret _,h,_=>nomatch h
 | .fork ..,h,_=>nomatch h
 | .eqs l t,h,g=>by
   have h2:t.okb=true:=by
    simp only [VU.okb] at g;split at g
    ·exact g
    ·split at g
     ·rename_i h1;exact plain_ok h1
     ·simp only [Bool.and_eq_true] at g;exact g.2
   exact isFail_okb (t:=t) h h2
 | .must p d t,h,g=>by
   simp only [VU.okb] at g;cases hp:t.plain with
   |true=>exact isFail_okb (t:=t) h (plain_ok hp)
   |false=>
    rw [hp] at g;simp only [Bool.and_eq_true] at g;exact isFail_okb (t:=t) h g.2
 | .fail _ _,_,g=>nomatch g
theorem VU.okb_out {α:Type} {d:α}:∀{t:VU α},t.okb=true→zsC t.sides→t.out=some (t.val d)
 | .ret _,_,_=>rfl
 | .eqs l t,h,hs=>by
   simp only [VU.sides,zoj] at hs;have h2:znO l=true∧t.okb=true:=by
    simp only [VU.okb] at h;split at h
    ·rename_i h1;exact ⟨zm5 h1,h⟩
    ·split at h
     ·rename_i h1;exact ⟨h,plain_ok h1⟩
     ·simp only [Bool.and_eq_true] at h;exact h
   simp only [VU.out,VU.val,if_pos (zw8 hs.1 h2.1)];exact okb_out h2.2 hs.2
 | .must p dd t,h,hs=>by
   have h2:p∧t.okb=true:=by
    simp only [VU.okb] at h;split at h
    ·rename_i h1;exact ⟨of_decide_eq_true h,plain_ok h1⟩
    ·simp only [Bool.and_eq_true] at h;exact ⟨of_decide_eq_true h.1,h.2⟩
   cases dd with
   |isTrue hp=>exact okb_out (t:=t) h2.2 hs
   |isFalse hn=>exact absurd h2.1 hn
 | .fail _ _,h,_=>nomatch h
 | .fork c t e,h,hs=>by
   simp only [VU.sides,zoj] at hs;have key:(c=true→t.okb=true)∧(c=false→e.okb=true)∧(e.isFail=true→c=true)∧(e.isFail=false→t.isFail=true→c=false):=by
    simp only [VU.okb] at h;split at h
    ·rename_i h1 h2;refine ⟨fun _=>plain_ok h1,fun _=>plain_ok h2,fun hf=>?_,fun _ hf=>?_⟩
     ·exact (isFail_okb hf (plain_ok h2)).elim
     ·exact (isFail_okb hf (plain_ok h1)).elim
    ·split at h
     ·rename_i hf;split at h
      ·rename_i h1;exact ⟨fun _=>plain_ok h1,fun e=>(by rw [h] at e;cases e),fun _=>h,fun g=>(by rw [hf] at g;cases g)⟩
      ·simp only [Bool.and_eq_true] at h;exact ⟨fun _=>h.2,fun e=>(by rw [h.1] at e;cases e),fun _=>h.1,fun g=>(by rw [hf] at g;cases g)⟩
     ·rename_i hf ht;split at h
      ·rename_i h1;have hc:c=false:=by simpa using h
       exact ⟨fun e=>(by rw [hc] at e;cases e),fun _=>plain_ok h1,fun g=>(by rw [hf] at g;cases g),fun _ _=>hc⟩
      ·simp only [Bool.and_eq_true,Bool.not_eq_true'] at h;exact ⟨fun e=>(by rw [h.1] at e;cases e),fun _=>h.2,fun g=>(by rw [hf] at g;cases g),fun _ _=>h.1⟩
     ·rename_i hf ht;refine ⟨fun e=>by rw [e] at h;exact h,fun e=>by rw [e] at h;exact h,fun g=>(by rw [hf] at g;cases g),fun _ g=>by rw [ht] at g;cases g⟩
   obtain ⟨k1,k2,k3,k4⟩:=key;simp only [VU.val];split
   ·rename_i hf;have hc:=k3 hf;subst hc;exact okb_out (k1 rfl) hs.1
   ·rename_i hf ht;have hc:=k4 hf ht;subst hc;exact okb_out (k2 rfl) hs.2
   ·cases c with
    |true=>exact okb_out (k1 rfl) hs.1
    |false=>exact okb_out (k2 rfl) hs.2
def zLv:List (Bool×Bool)→Nat→Option (Bool×Bool)
 |[],_=>none
 |x::l,n=>match n with
  |0=>some x
  |n+1=>zLv l n
theorem zzO:∀{l:List (Bool×Bool)} {n:Nat} {x:Bool×Bool},zLv l n=some x→x∈l
 |[],_,_,h=>nomatch h
 |x::l,0,y,h=>by obtain rfl:=zM8 h;simp
 |x::l,n+1,y,h=>List.mem_cons_of_mem _ (zzO (l:=l) h)
def VU.prune {α:Type}:VU α→List (Bool×Bool)→List Nat→VU α×List Nat
 | .ret a,_,h=>(.ret a,h)
 | .fork c t e,p,h=>match h with
   |[]=>(.fail 71 .none,[])
   |d::h=>match d with
    |0=>match t.prune ((c,true)::p) h with
     |(t',h1)=>match e.prune ((c,false)::p) h1 with
      |(e',h2)=>(.fork c t' e',h2)
    |1=>match t.prune p h with
     |(t',h1)=>(.eqs [.eq ⟨Bool,c,true⟩] t',h1)
    |2=>match e.prune p h with
     |(e',h1)=>(.eqs [.eq ⟨Bool,c,false⟩] e',h1)
    |n+3=>match zLv p n with
     |some (c',b)=>match b with
      |true=>match t.prune p h with
       |(t',h1)=>(.eqs [.eq ⟨Bool,c,c'⟩] t',h1)
      |false=>match e.prune p h with
       |(e',h1)=>(.eqs [.eq ⟨Bool,c,c'⟩] e',h1)
     |none=>(.fail 72 .none,h)
 | .eqs l t,p,h=>match t.prune p h with
   |(t',h1)=>(.eqs l t',h1)
 | .must q d t,p,h=>match t.prune p h with
   |(t',h1)=>(.must q d t',h1)
 | .fail k o,_,h=>(.fail k o,h)
theorem zeE {α:Type} {l:List Qr} {t:VU α} {a:α} (h:(VU.eqs l t).out=some a):zki l∧t.out=some a:=by
 simp only [VU.out] at h;split at h
 ·rename_i hl;exact ⟨hl,h⟩
 ·cases h
theorem zJe {α:Type} {l:List Qr} {t:VU α} {a:α} (hl:zki l) (h:t.out=some a):(VU.eqs l t).out=some a:=by
 simp only [VU.out];rw [if_pos hl];exact h
theorem VU.prune_out {α:Type} {a:α}:∀{t:VU α} {p:List (Bool×Bool)} {h:List Nat},(∀q∈p,q.1=q.2)→(t.prune p h).1.out=some a→t.out=some a
 | .ret _,_,_,_,e=>e
 | .fail _ _,_,_,_,e=>e
 | .eqs l t,p,h,hp,e=>by
   have e:(VU.eqs l (t.prune p h).1).out=some a:=e;obtain ⟨h1,h2⟩:=zeE e;exact zJe h1 (prune_out hp h2)
 | .must q d t,p,h,hp,e=>by
   have e:(VU.must q d (t.prune p h).1).out=some a:=e;cases d with
   |isTrue _=>exact prune_out (t:=t) hp e
   |isFalse _=>cases e
 | .fork c t e,p,h,hp,ho=>by
   simp only [VU.prune] at ho;have yes:∀{p h},(∀q∈p,q.1=q.2)→c=true→(t.prune p h).1.out=some a→(VU.fork c t e).out=some a:=fun hp hc h=>by
    subst hc;exact prune_out (t:=t) hp h
   have no:∀{p h},(∀q∈p,q.1=q.2)→c=false→(e.prune p h).1.out=some a→(VU.fork c t e).out=some a:=fun hp hc h=>by
    subst hc;exact prune_out (t:=e) hp h
   split at ho
   ·cases ho
   ·rename_i d h;split at ho
    ·cases c with
     |true=>exact yes (p:=(true,true)::p) (List.forall_mem_cons.2 ⟨rfl,hp⟩) rfl ho
     |false=>exact no (p:=(false,false)::p) (List.forall_mem_cons.2 ⟨rfl,hp⟩) rfl ho
    ·obtain ⟨h1,h2⟩:=zeE ho;exact yes hp h1.1 h2
    ·obtain ⟨h1,h2⟩:=zeE ho;exact no hp h1.1 h2
    ·split at ho
     ·rename_i c' b hn;have hb:c'=b:=hp _ (zzO hn);split at ho
      ·obtain ⟨h1,h2⟩:=zeE ho;exact yes hp ((show c=c' from h1.1).trans hb) h2
      ·obtain ⟨h1,h2⟩:=zeE ho;exact no hp ((show c=c' from h1.1).trans hb) h2
     ·cases ho
def VU.force.{u} {α:Type} {β:Sort u}:VU α→(VU α→β)→β
 | .ret a,k=>k (.ret a)
 | .fork c t e,k=>t.force fun t=>e.force fun e=>k (.fork c t e)
 | .eqs l t,k=>t.force fun t=>k (.eqs l t)
 | .must p d t,k=>t.force fun t=>k (.must p d t)
 | .fail n o,k=>k (.fail n o)
theorem VU.force_eq.{u} {α:Type} {β:Sort u}:∀{t:VU α} {k:VU α→β},t.force k=k t
 | .ret _,_=>rfl
 | .fork c t e,k=>by simp only [VU.force,force_eq (t:=t),force_eq (t:=e)]
 | .eqs l t,k=>by simp only [VU.force,force_eq (t:=t)]
 | .must p d t,k=>by simp only [VU.force,force_eq (t:=t)]
 | .fail _ _,_=>rfl
structure Var where
 t:Nat
 q:Option Nat
 rt:RT
def Tys:List Var→Type
 |[]=>Unit
 |v::l=>v.rt.ty×Tys l
def zFy:(l:List Var)→Tys l
 |[]=>()
 |v::l=>(v.rt.dflt,zFy l)
def zLc (rt:RT) (q:Nat) (cells:List AV):Option AV:=match rt with
 | .st n=>some (.agg ((cells.drop q).take n.size))
 |_=>zg5 cells q
def rd1 (tm:T AV) (st:St) (v:Var):Option v.rt.ty:=match tm.get v.t with
 |some a=>match v.q with
  |none=>zkK st v.rt a
  |some q=>match a with
   | .ptr b _=>match zk4 st.h b with
     |some bk=>match zLc v.rt q bk.cells with
      |some c=>zkK st v.rt c
      |none=> .none
     |none=> .none
   |_=> .none
 |none=> .none
def rdV (tm:T AV) (st:St):(l:List Var)→Option (Tys l)
 |[]=>some ()
 |v::l=>match rd1 tm st v,rdV tm st l with
  |some x,some y=>some (x,y)
  |_,_=> .none
structure Exi where
 ex:EX
 vs:List Var
 U:Tys vs→Snap
def ETy:List Exi→Type
 |[]=>Unit
 |[x]=>Tys x.vs
 |x::y::l=>Bool×Tys x.vs×ETy (y::l)
def zAM:(l:List Exi)→ETy l
 |[]=>()
 |[x]=>zFy x.vs
 |x::y::l=>(false,zFy x.vs,zAM (y::l))
def zIv (wr:Nat→Bool) (ex:EX) (s:Snap):VU (EX×T AV×St):= .ret (ex,tmS s.t,⟨blS s.b,s.n,wr⟩)
def zBe (wr:Nat→Bool):(l:List Exi)→ETy l→VU (EX×T AV×St)
 |[],_=> .fail 50 .none
 |[x],e=>zIv wr x.ex (x.U e)
 |x::y::l,e=> .fork e.1 (zIv wr x.ex (x.U e.2.1)) (zBe wr (y::l) e.2.2)
def zHb:EX→EX→Bool
 | .normal, .normal=>true
 | .exit i, .exit j=>Nat.beq i j
 | .ret, .ret=>true
 |_,_=>false
theorem zEl {a b:EX} (h:zHb a b=true):a=b:=by
 cases a<;>cases b<;>first|rfl|(cases h;done)|(rw [zM9 h])
def rdX (ex:EX) (tm:T AV) (st:St) (x:Exi):Option (Tys x.vs×List Qr):=match zHb x.ex ex with
 |true=>match rdV tm st x.vs with
  |some e=>match eqS (x.U e) tm st with
   |some l=>some (e,l)
   |none=> .none
  |none=> .none
 |false=> .none
def rdE (ex:EX) (tm:T AV) (st:St):(l:List Exi)→Option (ETy l×List Qr)
 |[]=> .none
 |[x]=>rdX ex tm st x
 |x::y::l=>match rdX ex tm st x with
  |some (e,r)=>some ((true,e,zAM (y::l)),r)
  |none=>match rdE ex tm st (y::l) with
   |some (e,r)=>some ((false,zFy x.vs,e),r)
   |none=> .none
def X_N:Nat:=4611686018427387904
def zd {ι ε:Type} (step:ι→ι⊕ε) (d:ε):Nat→ι→ε
 |0,_=>d
 |n+1,i=>match step i with
  | .inl j=>zd step d n j
  | .inr e=>e
def X_wok {ι ε:Type} (step:ι→ι⊕ε) (ok:ι→Bool):Nat→ι→Bool
 |0,_=>false
 |n+1,i=>ok i&&match step i with
  | .inl j=>X_wok step ok n j
  | .inr _=>true
inductive ze5:Type 1 where
 |no
 |mk (vs:List Var) (S:Tys vs→Snap) (es:List Exi) (step:Tys vs→Tys vs⊕ETy es) (ok:Tys vs→Bool) (hs:List Nat) (sub:Tys vs→Nat→ze5)
 |tw (t:Nat) (vs:List Var) (S:Tys vs→Snap) (es:List Exi) (step:Tys vs→Tys vs⊕ETy es) (ok:Tys vs→Bool) (hs:List Nat) (sub:Tys vs→Nat→ze5)
def zLt:AV→Bool
 | .lit (.pointer none)=>true
 |_=>false
def zf9 (P:Program) [Fast P] (own:Nat→Bool) (call:zbx) (nt:Nat) (ann:Nat→ze5):Nat→Code→T AV→St→VU (EX×T AV×St)
 |_, .skip,tm,st=> .ret (.normal,tm,st)
 |_, .label _,tm,st=> .ret (.normal,tm,st)
 |_, .exit id,tm,st=> .ret (.exit id,tm,st)
 |_, .ret,tm,st=> .ret (.ret,tm,st)
 |_, .region _ ops draw,tm,st=>(zkH P own call nt ops.toList draw tm st).u.bind fun r=> .ret (.normal,r)
 |cur, .seq x y,tm,st=>(zf9 P own call nt ann cur x tm st).bind fun r=>match r.1 with
  | .normal=>zf9 P own call nt ann cur y r.2.1 r.2.2
  |e=> .ret (e,r.2)
 |cur, .cond c x y,tm,st=>match ev tm c with
  | .lit (.bool b)=> .fork b (zA7 c true tm fun tm=>zf9 P own call nt ann cur x tm st) (zA7 c false tm fun tm=>zf9 P own call nt ann cur y tm st)
  |_=> .fail 12 .none
 |_, .block id c,tm,st=>(zf9 P own call nt ann id c tm st).bind fun r=>match r.1 with
  | .exit i=>match Nat.beq i id with
    |true=> .ret (.normal,r.2)
    |false=> .ret r
  |_=> .ret r
 |cur, .loop _,tm,st=>match ann cur with
  | .no=> .fail (Nat.add 2000 cur) (.at .normal tm st)
  | .mk vs S es step ok hs sub=>match rdV tm st vs with
    |some i=>match eqS (S i) tm st with
     |some l=> .eqs l (.fork (X_wok step ok X_N i) (zBe st.wr es (zd step (zAM es) X_N i)) (.fail 55 .none))
     |none=> .fail 54 (.at .normal tm st)
    |none=> .fail 53 (.at .normal tm st)
  | .tw _ vs S es step ok hs sub=>match rdV tm st vs with
    |some i=>match eqS (S i) tm st with
     |some l=> .eqs l (.fork (X_wok step ok X_N i) (zBe st.wr es (zd step (zAM es) X_N i)) (.fail 55 .none))
     |none=> .fail 54 (.at .normal tm st)
    |none=> .fail 53 (.at .normal tm st)
 |cur, .scope c,tm,st=>zf9 P own call nt ann cur c tm st
 |_, .rangeFunc ..,_,_=> .fail 14 .none
 |_, .goto _,_,_=> .fail 16 .none
 |_, .refuse _,_,_=> .fail 17 .none
def zxW (vs:List Var) (S:Tys vs→Snap) (es:List Exi) (r:EX×T AV×St):VU (Tys vs⊕ETy es):=match r.1 with
 | .normal=>match rdV r.2.1 r.2.2 vs with
   |some j=>match eqS (S j) r.2.1 r.2.2 with
    |some l=> .eqs l (.ret (.inl j))
    |none=> .fail 52 (.at .normal r.2.1 r.2.2)
   |none=> .fail 51 (.at .normal r.2.1 r.2.2)
 |ex=>match rdE ex r.2.1 r.2.2 es with
  |some (e,l)=> .eqs l (.ret (.inr e))
  |none=> .fail 50 (.at ex r.2.1 r.2.2)
def zum {α:Type} (t:VU α) (h:List Nat) (d:α):α×Bool×List Pr:=(t.prune [] h).1.force fun t=>(t.val d,t.okb,t.sides)
def zun {α:Type} (t:VU α) (h:List Nat) (y:α) (o:Bool):α×Bool×List Pr:=(t.prune [] h).1.force fun t=>(y,o,dups t.sides)
def zHn (P:Program) [Fast P] (own:Nat→Bool) (call:zbx) (nt:Nat) (wr:Nat→Bool) (sub:Nat→ze5) (cur:Nat) (c:Code) (vs:List Var) (S:Tys vs→Snap) (es:List Exi) (i:Tys vs):VU (Tys vs⊕ETy es):=
 (zg4 (tmS (S i).t) fun tm=>znl ⟨blS (S i).b,(S i).n,wr⟩ wr fun st=>zf9 P own call nt sub cur c tm st).bind (zxW vs S es)
def zCn (P:Program) [Fast P] (own:Nat→Bool) (call:zbx) (nt:Nat) (wr:Nat→Bool) (sub:Nat→ze5) (t:Nat) (cur:Nat) (c:Code) (vs:List Var) (S:Tys vs→Snap) (es:List Exi) (i:Tys vs):VU (Tys vs⊕ETy es):=
 (zg4 (tmS (S i).t) fun tm=>znl ⟨blS (S i).b,(S i).n,wr⟩ wr fun st=>zf9 P own call nt sub cur c tm st).bind fun r=>match r.1 with
  | .normal=>match zLt (ev r.2.1 (.tmp t)) with
    |true=>(zf9 P own call nt sub cur c r.2.1 r.2.2).bind (zxW vs S es)
    |false=>zxW vs S es r
  |_=>zxW vs S es r
def loopsOf:Nat→Code→List (Nat×Code)
 |cur, .seq x y=>loopsOf cur x++loopsOf cur y
 |cur, .cond _ x y=>loopsOf cur x++loopsOf cur y
 |_, .block id c=>loopsOf id c
 |cur, .scope c=>loopsOf cur c
 |cur, .loop c=>[(cur,c)]
 |_,_=>[]
def zMX:List (Nat×Code)→Nat→Code
 |[],_=> .skip
 |x::l,k=>match k with
  |0=>x.2
  |k+1=>zMX l k
def zaP (k:Nat) (c:Code):Code:=zMX (loopsOf 0 c) k
def zcU (P:Program) [Fast P] (own:Nat→Bool) (call:zbx) (nt:Nat) (wr:Nat→Bool):(Nat→ze5)→Nat→Code→Prop
 |ann,cur, .seq x y=>both (zrE x) (zrE y) (zcU P own call nt wr ann cur x) (zcU P own call nt wr ann cur y)
 |ann,cur, .cond _ x y=>both (zrE x) (zrE y) (zcU P own call nt wr ann cur x) (zcU P own call nt wr ann cur y)
 |ann,_, .block id c=>zcU P own call nt wr ann id c
 |ann,cur, .scope c=>zcU P own call nt wr ann cur c
 |ann,cur, .loop c=>match ann cur with
  | .no=>True
  | .mk vs S es step ok hs sub=>∀i,zum (zHn P own call nt wr (sub i) cur c vs S es i) hs (.inl i)=zun (zHn P own call nt wr (sub i) cur c vs S es i) hs (step i) (ok i)∧zcU P own call nt wr (sub i) cur c
  | .tw t vs S es step ok hs sub=>∀i,zum (zCn P own call nt wr (sub i) t cur c vs S es i) hs (.inl i)=zun (zCn P own call nt wr (sub i) t cur c vs S es i) hs (step i) (ok i)∧zcU P own call nt wr (sub i) cur c
 |_,_,_=>True
theorem zm {P:Program} [Fast P] {own:Nat→Bool} {call:zbx} {nt:Nat} {wr:Nat→Bool}:∀{c:Code} {ann:Nat→ze5} {cur:Nat},zrE c=false→zcU P own call nt wr ann cur c
 | .seq x y,ann,cur,h=>by
   simp only [zrE,Bool.or_eq_false_iff] at h;simp only [zcU,h.1,h.2,both]
 | .cond _ x y,ann,cur,h=>by
   simp only [zrE,Bool.or_eq_false_iff] at h;simp only [zcU,h.1,h.2,both]
 | .block id c,ann,cur,h=>by simp only [zrE] at h;simp only [zcU];exact zm h
 | .scope c,ann,cur,h=>by simp only [zrE] at h;simp only [zcU];exact zm h
 | .loop _,_,_,h=>by simp only [zrE] at h;cases h
 | .skip,_,_,_=>trivial
 | .label _,_,_,_=>trivial
 | .exit _,_,_,_=>trivial
 | .ret,_,_,_=>trivial
 | .region ..,_,_,_=>trivial
 | .rangeFunc ..,_,_,_=>trivial
 | .goto _,_,_,_=>trivial
 | .refuse _,_,_,_=>trivial
theorem zne {α β γ:Type} {a a':α} {b b':β} {c c':γ} (h:(VU.ret (a,b,c)).out=some (a',b',c')):a=a'∧b=b'∧c=c':=by
 obtain ⟨h1,h2⟩:=zNb (zM8 h);exact ⟨h1,zNb h2⟩
section
variable {P:Program} [Fast P] {K:KS} {w0:World} {own:Nat→Bool} {call:zbx} {nt:Nat}
theorem zu8 {α:Type} {c:Bool} {t:VU α} {k:Nat} {o:FI} {a:α} (h:(VU.fork c t (.fail k o)).out=some a):c=true∧t.out=some a:=by
 cases c with
 |true=>exact ⟨rfl,h⟩
 |false=>cases h
theorem zG8 {ex:EX} {tm:T AV} {st:St} {x:Exi} {e:Tys x.vs} {l:List Qr} (h:rdX ex tm st x=some (e,l)) (hl:zki l):x.ex=ex∧leS (x.U e) tm st:=by
 unfold rdX at h;split at h
 ·rename_i h1;split at h
  ·split at h
   ·rename_i h2;obtain ⟨rfl,rfl⟩:=zNb (zM8 h);exact ⟨zEl h1,zu1 h2 hl⟩
   ·cases h
  ·cases h
 ·cases h
theorem zEc {wr:Nat→Bool} {ex:EX} {tm:T AV} {st:St} {ex':EX} {tm':T AV} {st':St}:∀{es:List Exi} {e:ETy es} {l:List Qr},rdE ex tm st es=some (e,l)→zki l→(zBe wr es e).out=some (ex',tm',st')→∃s,leS s tm st∧ex'=ex∧tm'=tmS s.t∧st'=⟨blS s.b,s.n,wr⟩
 |[],_,_,h,_,_=>nomatch h
 |[x],e,l,h,hl,hp=>by
  obtain ⟨h1,h2⟩:=zG8 h hl;obtain ⟨rfl,rfl,rfl⟩:=zne hp;exact ⟨_,h2,h1,rfl,rfl⟩
 |x::y::es,e,l,h,hl,hp=>by
  simp only [rdE] at h;split at h
  ·rename_i e1 r1 hx;obtain ⟨rfl,rfl⟩:=zNb (zM8 h);obtain ⟨h1,h2⟩:=zG8 hx hl;obtain ⟨rfl,rfl,rfl⟩:=zne (show (zIv wr x.ex (x.U e1)).out=_ from hp);exact ⟨_,h2,h1,rfl,rfl⟩
  ·split at h
   ·rename_i e1 r1 hx;obtain ⟨rfl,rfl⟩:=zNb (zM8 h);exact zEc hx hl hp
   ·cases h
theorem zuo {α:Type} {t:VU α} {hs:List Nat} {d y:α} {o:Bool} (h:zum t hs d=zun t hs y o) (ho:o=true):t.out=some y:=by
 unfold zum zun at h;rw [VU.force_eq,VU.force_eq] at h;obtain ⟨h1,h2⟩:=zNb h;obtain ⟨h2,h3⟩:=zNb h2;refine VU.prune_out (p:=[]) (h:=hs) (fun _ h=>nomatch h) ?_;rw [VU.okb_out (d:=d) (h2.trans ho) (zy0 h3),h1]
theorem zfF {P:Program} [Fast P] {own:Nat→Bool} {call:zbx} {nt:Nat} {wr:Nat→Bool} {ann:Nat→ze5}:∀{c:Code} {cur:Nat},(∀p∈loopsOf cur c,zcU P own call nt wr ann p.1 (.loop p.2))→zcU P own call nt wr ann cur c
 | .seq x y,cur,h=>by
   simp only [loopsOf,List.mem_append] at h;have h1:=zfF (c:=x) fun p hp=>h p (.inl hp);have h2:=zfF (c:=y) fun p hp=>h p (.inr hp);simp only [zcU];cases zrE x<;>cases zrE y<;>simp only [both]<;>first|trivial|exact h1|exact h2|exact ⟨h1,h2⟩
 | .cond _ x y,cur,h=>by
   simp only [loopsOf,List.mem_append] at h;have h1:=zfF (c:=x) fun p hp=>h p (.inl hp);have h2:=zfF (c:=y) fun p hp=>h p (.inr hp);simp only [zcU];cases zrE x<;>cases zrE y<;>simp only [both]<;>first|trivial|exact h1|exact h2|exact ⟨h1,h2⟩
 | .block id c,cur,h=>by simp only [zcU];exact zfF h
 | .scope c,cur,h=>by simp only [zcU];exact zfF h
 | .loop c,cur,h=>h (cur,c) (by simp [loopsOf])
 | .skip,_,_=>trivial
 | .label _,_,_=>trivial
 | .exit _,_,_=>trivial
 | .ret,_,_=>trivial
 | .region ..,_,_=>trivial
 | .rangeFunc ..,_,_=>trivial
 | .goto _,_,_=>trivial
 | .refuse _,_,_=>trivial
def zMY (P:Program) [Fast P] (own:Nat→Bool) (call:zbx) (nt:Nat) (wr:Nat→Bool) (ann:Nat→ze5):List (Nat×Code)→Prop
 |[]=>True
 |p::l=>zcU P own call nt wr ann p.1 (.loop p.2)∧zMY P own call nt wr ann l
theorem zC {P:Program} [Fast P] {own:Nat→Bool} {call:zbx} {nt:Nat} {wr:Nat→Bool} {ann:Nat→ze5} {c:Code} {cur:Nat} (l:List (Nat×Code)) (h:loopsOf cur c=l) (H:zMY P own call nt wr ann l):zcU P own call nt wr ann cur c:=by
 refine zfF ?_;rw [h];clear h
 induction l with
 |nil=>intro p hp;cases hp
 |cons q l ih=>
  intro p hp;rcases List.mem_cons.1 hp with rfl|hp
  ·exact H.1
  ·exact ih H.2 p hp
theorem zdr (hm:P.follows .mixedOrders=true) (hc:zdl P call) {ds:List Deferred}:∀(c:Code) {ann:Nat→ze5} {cur:Nat} {tm:T AV} {st:St} {ρ:Rho} {a:Act} {w:World} {ex:EX} {tm':T AV} {st':St},(zf9 P own call nt ann cur c tm st).out=some (ex,tm',st')→zcU P own call nt st.wr ann cur c→TR ρ nt tm a→Sim K w0 ρ st w→a.defers=ds→∀{R:Exit→Act→World→Prop},
  (∀ρ' a' w',st'.wr=st.wr→TR ρ' nt tm' a'→Sim K w0 ρ' st' w'→a'.defers=ds→R ex.to a' w')→c.wp P R a w
 | .skip,_,_,tm,st,ρ,a,w,ex,tm',st',h,hl,ht,hs,hd,R,hR=>by
   simp only [zf9] at h;obtain ⟨rfl,rfl,rfl⟩:=zne h;exact wp_skip (hR ρ a w rfl ht hs hd)
 | .label _,_,_,tm,st,ρ,a,w,ex,tm',st',h,hl,ht,hs,hd,R,hR=>by
   simp only [zf9] at h;obtain ⟨rfl,rfl,rfl⟩:=zne h;exact wp_label (hR ρ a w rfl ht hs hd)
 | .exit _,_,_,tm,st,ρ,a,w,ex,tm',st',h,hl,ht,hs,hd,R,hR=>by
   simp only [zf9] at h;obtain ⟨rfl,rfl,rfl⟩:=zne h;exact wp_exit (hR ρ a w rfl ht hs hd)
 | .ret,_,_,tm,st,ρ,a,w,ex,tm',st',h,hl,ht,hs,hd,R,hR=>by
   simp only [zf9] at h;obtain ⟨rfl,rfl,rfl⟩:=zne h;exact wp_ret (hR ρ a w rfl ht hs hd)
 | .region id ops draw,_,_,tm,st,ρ,a,w,ex,tm',st',h,hl,ht,hs,hd,R,hR=>by
   simp only [zf9] at h;obtain ⟨⟨tm1,st1⟩,h1,h⟩:=VU.out_bind h;obtain ⟨rfl,rfl,rfl⟩:=zne h;have h1:=VT.u_out h1;exact zwu hm hc h1 ht hs fun ρ' a' w' _ ht' hs' hd'=>hR ρ' a' w' (zsm hc h1) ht' hs' (hd'.trans hd)
 | .seq x y,ann,cur,tm,st,ρ,a,w,ex,tm',st',h,hl,ht,hs,hd,R,hR=>by
   simp only [zf9] at h;simp only [zcU] at hl;have hl:=zCo zm zm hl;obtain ⟨⟨e1,tm1,st1⟩,h1,h⟩:=VU.out_bind h;simp only at h;refine wp_seq (zdr hm hc x h1 hl.1 ht hs hd fun ρ1 a1 w1 hw1 ht1 hs1 hd1=>?_);cases e1 with
   |normal=>exact zdr hm hc y h (by rw [hw1];exact hl.2) ht1 hs1 hd1 fun ρ2 a2 w2 hw2=>hR ρ2 a2 w2 (hw2.trans hw1)
   |exit i=>
    obtain ⟨rfl,rfl,rfl⟩:=zne h;exact hR ρ1 a1 w1 hw1 ht1 hs1 hd1
   |ret=>
    obtain ⟨rfl,rfl,rfl⟩:=zne h;exact hR ρ1 a1 w1 hw1 ht1 hs1 hd1
 | .cond c x y,ann,cur,tm,st,ρ,a,w,ex,tm',st',h,hl,ht,hs,hd,R,hR=>by
   have hv:=ht.ev c;simp only [zf9] at h;simp only [zcU] at hl;have hl:=zCo zm zm hl;split at h
   ·rename_i b he;rw [he] at hv;simp only [den] at hv;simp only [ztr] at h;cases b
    ·exact wp_cond_false hv (zdr hm hc y h hl.2 (ht.know hv) hs hd hR)
    ·exact wp_cond_true hv (zdr hm hc x h hl.1 (ht.know hv) hs hd hR)
   ·cases h
 | .block id c,ann,cur,tm,st,ρ,a,w,ex,tm',st',h,hl,ht,hs,hd,R,hR=>by
   simp only [zf9] at h;simp only [zcU] at hl;obtain ⟨⟨e1,tm1,st1⟩,h1,h⟩:=VU.out_bind h;refine wp_block (zdr hm hc c h1 hl ht hs hd fun ρ1 a1 w1 hw1 ht1 hs1 hd1=>?_);simp only at h;cases e1 with
   |normal=>
    obtain ⟨rfl,rfl,rfl⟩:=zne h;exact hR ρ1 a1 w1 hw1 ht1 hs1 hd1
   |ret=>
    obtain ⟨rfl,rfl,rfl⟩:=zne h;exact hR ρ1 a1 w1 hw1 ht1 hs1 hd1
   |exit i=>
    simp only at h;by_cases hi:i=id
    ·subst hi;rw [Nat.beq_refl] at h;obtain ⟨rfl,rfl,rfl⟩:=zne h;simp only [EX.to,Exit.inBlock,if_true];exact hR ρ1 a1 w1 hw1 ht1 hs1 hd1
    ·rw [zeT hi] at h;obtain ⟨rfl,rfl,rfl⟩:=zne h;simp only [EX.to,Exit.inBlock,hi,if_false];exact hR ρ1 a1 w1 hw1 ht1 hs1 hd1
 | .scope c,ann,cur,tm,st,ρ,a,w,ex,tm',st',h,hl,ht,hs,hd,R,hR=>by
   simp only [zf9] at h;simp only [zcU] at hl;refine wp_scope_straight (zdr hm hc c h hl ht hs hd fun ρ1 a1 w1 hw1 ht1 hs1 hd1=>?_);have:=hR ρ1 a1 w1 hw1 ht1 hs1 hd1;cases ex<;>exact this
 | .loop c,ann,cur,tm,st,ρ,a,w,ex,tm',st',h,hl,ht,hs,hd,R,hR=>by
   simp only [zf9] at h;simp only [zcU] at hl;split at h
   ·cases h
   ·rename_i vs S es step ok hn sub hA;rw [hA] at hl;simp only at hl;split at h
    case h_2=>cases h
    rename_i i0 hi0;split at h
    case h_2=>cases h
    rename_i l0 hl0;obtain ⟨hle,h⟩:=zeE h;obtain ⟨hok,h⟩:=zu8 h;have hle:=zu1 hl0 hle;refine wp_loop_rounds X_N ?_;have key:∀(n:Nat) (i:Tys vs) {tm:T AV} {st1:St} {ρ:Rho} {a:Act} {w:World},X_wok step ok n i=true→(zBe st.wr es (zd step (zAM es) n i)).out=some (ex,tm',st')→leS (S i) tm st1→st1.wr=st.wr→TR ρ nt tm a→Sim K w0 ρ st1 w→a.defers=ds→Code.rounds P c R n a w:=by
     intro n
     induction n with
     |zero=>intro i _ _ _ _ _ h;cases h
     |succ n ih=>
      intro i tm st1 ρ a w hok hp hle hw ht hs hd;rw [rounds_succ];simp only [X_wok,Bool.and_eq_true] at hok;obtain ⟨hok1,hok2⟩:=hok;obtain ⟨ρ2',ht',hs'⟩:=zt9 hle ht hs;rw [hw] at hs';obtain ⟨hb1,hb2⟩:=hl i;have hb1:=zuo hb1 hok1;unfold zHn at hb1;obtain ⟨⟨e1,tm1,st2⟩,hb1,hb3⟩:=VU.out_bind hb1;rw [zdt,zg3 _ _ rfl] at hb1;refine zdr hm hc c hb1 hb2 ht' hs' hd fun ρ2 a2 w2 hw2 ht2 hs2 hd2=>?_;have hw2:st2.wr=st.wr:=hw2;unfold zxW at hb3;simp only at hb3;have exits:∀{e:ETy es} {l:List Qr},rdE e1 tm1 st2 es=some (e,l)→(VU.eqs l (.ret (.inr e))).out=some (step i)→R e1.to a2 w2:=by
       intro e l he hb3;obtain ⟨hl3,hb3⟩:=zeE hb3;have hb3:Sum.inr e=step i:=zM8 hb3;simp only [zd, ←hb3] at hp;obtain ⟨s,g1,g2,g3,g4⟩:=zEc he hl3 hp;subst g2 g3 g4;obtain ⟨ρ3,ht3,hs3⟩:=zt9 g1 ht2 hs2;rw [hw2] at hs3;exact hR ρ3 a2 w2 rfl ht3 hs3 hd2
      cases e1 with
      |normal=>
       simp only at hb3;split at hb3
       case h_2=>cases hb3
       rename_i j hj;split at hb3
       case h_2=>cases hb3
       rename_i l3 hl3;obtain ⟨hl4,hb3⟩:=zeE hb3;have hb3:Sum.inl j=step i:=zM8 hb3;simp only [←hb3] at hok2;simp only [zd, ←hb3] at hp;exact ih j hok2 hp (zu1 hl3 hl4) hw2 ht2 hs2 hd2
      |exit k=>
       simp only at hb3;split at hb3
       case h_2=>cases hb3
       rename_i e l he;exact exits he hb3
      |ret=>
       simp only at hb3;split at hb3
       case h_2=>cases hb3
       rename_i e l he;exact exits he hb3
    exact key _ i0 hok h hle rfl ht hs hd
   ·rename_i t2 vs S es step ok hn sub hA;rw [hA] at hl;simp only at hl;split at h
    case h_2=>cases h
    rename_i i0 hi0;split at h
    case h_2=>cases h
    rename_i l0 hl0;obtain ⟨hle,h⟩:=zeE h;obtain ⟨hok,h⟩:=zu8 h;have hle:=zu1 hl0 hle;refine wp_loop_rounds (2*X_N) ?_;have key:∀(n m:Nat) (i:Tys vs) {tm:T AV} {st1:St} {ρ:Rho} {a:Act} {w:World},2*n≤m→X_wok step ok n i=true→(zBe st.wr es (zd step (zAM es) n i)).out=some (ex,tm',st')→leS (S i) tm st1→st1.wr=st.wr→TR ρ nt tm a→Sim K w0 ρ st1 w→a.defers=ds→Code.rounds P c R m a w:=by
     intro n
     induction n with
     |zero=>intro m i _ _ _ _ _ _ h;cases h
     |succ n ih=>
      intro m i tm st1 ρ a w hm2 hok hp hle hw ht hs hd;obtain ⟨m,rfl⟩:∃m',m=m'+1:=⟨m - 1,by omega⟩
      rw [rounds_succ];simp only [X_wok,Bool.and_eq_true] at hok;obtain ⟨hok1,hok2⟩:=hok;obtain ⟨ρ2',ht',hs'⟩:=zt9 hle ht hs;rw [hw] at hs';obtain ⟨hb1,hb2⟩:=hl i;have hb1:=zuo hb1 hok1;unfold zCn at hb1;obtain ⟨⟨e1,tm1,st2⟩,hb1,hb3⟩:=VU.out_bind hb1;rw [zdt,zg3 _ _ rfl] at hb1;have leaf:∀{e1:EX} {tm1:T AV} {st2:St} {m1:Nat},2*n≤m1→(zxW vs S es (e1,tm1,st2)).out=some (step i)→st2.wr=st.wr→∀{ρ2:Rho} {a2:Act} {w2:World},TR ρ2 nt tm1 a2→Sim K w0 ρ2 st2 w2→a2.defers=ds→(match e1 with
        | .normal=>Code.rounds P c R m1 a2 w2
        |e=>R e.to a2 w2):=by
       intro e1 tm1 st2 m1 hm1 hb3 hw2 ρ2 a2 w2 ht2 hs2 hd2;unfold zxW at hb3;simp only at hb3;have exits:∀{e:ETy es} {l:List Qr},rdE e1 tm1 st2 es=some (e,l)→(VU.eqs l (.ret (.inr e))).out=some (step i)→R e1.to a2 w2:=by
        intro e l he hb3;obtain ⟨hl3,hb3⟩:=zeE hb3;have hb3:Sum.inr e=step i:=zM8 hb3;simp only [zd, ←hb3] at hp;obtain ⟨s,g1,g2,g3,g4⟩:=zEc he hl3 hp;subst g2 g3 g4;obtain ⟨ρ3,ht3,hs3⟩:=zt9 g1 ht2 hs2;rw [hw2] at hs3;exact hR ρ3 a2 w2 rfl ht3 hs3 hd2
       cases e1 with
       |normal=>
        simp only at hb3;split at hb3
        case h_2=>cases hb3
        rename_i j hj;split at hb3
        case h_2=>cases hb3
        rename_i l3 hl3;obtain ⟨hl4,hb3⟩:=zeE hb3;have hb3:Sum.inl j=step i:=zM8 hb3;simp only [←hb3] at hok2;simp only [zd, ←hb3] at hp;exact ih m1 j hm1 hok2 hp (zu1 hl3 hl4) hw2 ht2 hs2 hd2
       |exit k=>
        simp only at hb3;split at hb3
        case h_2=>cases hb3
        rename_i e l he;exact exits he hb3
       |ret=>
        simp only at hb3;split at hb3
        case h_2=>cases hb3
        rename_i e l he;exact exits he hb3
      refine zdr hm hc c hb1 hb2 ht' hs' hd fun ρ2 a2 w2 hw2 ht2 hs2 hd2=>?_;have hw2:st2.wr=st.wr:=hw2;simp only at hb3;cases e1 with
      |normal=>
       simp only at hb3;split at hb3
       ·
        obtain ⟨⟨e3,tm3,st3⟩,hb4,hb5⟩:=VU.out_bind hb3;obtain ⟨m,rfl⟩:∃m',m=m'+1:=⟨m - 1,by omega⟩
        show Code.rounds P c R (m+1) a2 w2;rw [rounds_succ];have hb2':zcU P own call nt st2.wr (sub i) cur c:=by rw [hw2];exact hb2
        refine zdr hm hc c hb4 hb2' ht2 hs2 hd2 fun ρ3 a3 w3 hw3 ht3 hs3 hd3=>?_;have:=leaf (m1:=m) (by omega) hb5 (hw3.trans hw2) ht3 hs3 hd3
        cases e3<;>exact this
       ·exact leaf (m1:=m) (by omega) hb3 hw2 ht2 hs2 hd2
      |exit k=>exact leaf (m1:=m) (by omega) hb3 hw2 ht2 hs2 hd2
      |ret=>exact leaf (m1:=m) (by omega) hb3 hw2 ht2 hs2 hd2
    exact key _ _ i0 (zNm _) hok h hle rfl ht hs hd
 | .rangeFunc ..,_,_,_,_,_,_,_,_,_,_,h,_,_,_,_,_,_=>nomatch h
 | .goto _,_,_,_,_,_,_,_,_,_,_,h,_,_,_,_,_,_=>nomatch h
 | .refuse _,_,_,_,_,_,_,_,_,_,_,h,_,_,_,_,_,_=>nomatch h
end
end Go.Proofs.YtiepllpgifnloaaGreat.Vx
namespace Go.Proofs.YtiepllpgifnloaaGreat.Px
open Go Go.Proofs.YtiepllpgifnloaaGreat.Vx Go.RowKit
theorem zav {n:Int} (h1: -9223372036854775808≤n) (h2:n≤9223372036854775807):IntKind.wrap .i64 n=n:=by
 first
 |(simp only [IntKind.wrap];simp [IntKind.bits,IntKind.signed];omega)
 |(unfold IntKind.wrap;simp;omega)
theorem getD_mem {α:Type} {l:List α} {i:Nat} {d:α} (h:i<l.length):l.getD i d∈l:=by
 rw [List.getD_eq_getElem?_getD,zNg h];exact List.getElem_mem h
theorem zeS {ι ε:Type} {step:ι→ι⊕ε} {ok:ι→Bool} {d:ε} (Inv:ι→Prop) (μ:ι→Nat) (F:ι→ε)
  (h:∀i,Inv i→ok i=true∧((∃j,step i= .inl j∧Inv j∧μ j<μ i∧F j=F i)∨∃e,step i= .inr e∧F i=e)):
  ∀{n:Nat} {i:ι},Inv i→μ i<n→X_wok step ok n i=true∧zd step d n i=F i
 |0,_,_,hn=>absurd hn (Nat.not_lt_zero _)
 |n+1,i,hi,hn=>by
  obtain ⟨h1,h2⟩:=h i hi;simp only [X_wok,zd,h1,Bool.true_and];rcases h2 with ⟨j,hj,h3,h4,h5⟩|⟨e,he,h3⟩
  ·rw [hj];simp only;have:=zeS (d:=d) Inv μ F h (n:=n) h3 (by omega)
   exact ⟨this.1,this.2.trans h5⟩
  ·rw [he];exact ⟨rfl,h3.symm⟩
theorem zIY {α σ ε:Type} {l:List α} {step:Int×σ→(Int×σ)⊕ε} {ok:Int×σ→Bool} {d:ε} {n:Nat}
  (Inv:Nat→σ→Prop) (F:Nat→σ→ε) (hl:l.length<n) (hb:l.length<9223372036854775807)
  (hs:∀(i:Nat) (s:σ) (h:i<l.length),Inv i s→ok ((i:Int),s)=true∧
   ((∃s',step ((i:Int),s)= .inl (IntKind.i64.wrap ((i:Int)+1),s')∧Inv (i+1) s'∧F (i+1) s'=F i s)∨∃e,step ((i:Int),s)= .inr e∧F i s=e))
  (he:∀(s:σ),Inv l.length s→ok ((l.length:Int),s)=true∧∃e,step ((l.length:Int),s)= .inr e∧F l.length s=e)
  {i:Nat} {s:σ} (hi:i≤l.length) (h0:Inv i s):X_wok step ok n ((i:Int),s)=true∧zd step d n ((i:Int),s)=F i s:=by
 have:=zeS (step:=step) (ok:=ok) (d:=d) (fun x=>∃j:Nat,x.1=(j:Int)∧j≤l.length∧Inv j x.2) (fun x=>l.length - x.1.toNat) (fun x=>F x.1.toNat x.2)
  (fun x ⟨j,hj,hjl,hI⟩=>by
   obtain ⟨x1,s⟩:=x;simp only at hj hI ⊢;subst hj;simp only [Int.toNat_natCast];by_cases hlt:j<l.length
   ·obtain ⟨h1,h2⟩:=hs j s hlt hI;refine ⟨h1,?_⟩;rcases h2 with ⟨s',hst,h3,h4⟩|⟨e,hst,h3⟩
    ·have hw:IntKind.i64.wrap ((j:Int)+1)=((j+1:Nat):Int):=by rw [zav (by omega) (by omega)];rfl
     refine Or.inl ⟨_,hst,⟨j+1,hw,by omega,h3⟩,?_,?_⟩
     ·rw [hw];simp only [Int.toNat_natCast];omega
     ·rw [hw];simp only [Int.toNat_natCast];exact h4
    ·exact Or.inr ⟨e,hst,h3⟩
   ·have:j=l.length:=by omega
    subst this;obtain ⟨h1,e,h2,h3⟩:=he s hI;exact ⟨h1,Or.inr ⟨e,h2,h3⟩⟩) (n:=n) (i:=((i:Int),s)) ⟨i,rfl,hi,h0⟩ (by simp only [Int.toNat_natCast];omega)
 simpa only [Int.toNat_natCast] using this
open Go Go.Proofs.YtiepllpgifnloaaGreat.Vx
abbrev BIG:Nat:=68719476736
def zB5 (N:Nat) (o:Ob):Prop:=o.cells_.length≤N∧o.queue.length≤N∧o.senders.length≤N∧o.receivers.length≤N
def zGK (N:Nat) (s:Syn):Prop:=s.readers.length≤N
def zGJ (N:Nat) (d:Dfr):Prop:=d.args.length≤N
def zgU (N:Nat) (f:Frm):Prop:=f.regs.length≤N∧f.defers.length≤N∧∀d∈f.defers,zGJ N d
def zaW (N:Nat) (g:Gor):Prop:=g.frames.length≤N∧∀f∈g.frames,zgU N f
def zau (N:Nat) (m:Mac):Prop:=(m.objects.length≤N∧∀o∈m.objects,zB5 N o)∧(m.syncs.length≤N∧∀s∈m.syncs,zGK N s)∧(m.goroutines.length≤N∧∀g∈m.goroutines,zaW N g)∧m.output.length≤N
def zLE (N:Nat) (f:Fnc):Prop:=f.code.length≤N
def zqC (N:Nat) (p:Prg):Prop:=(p.funcs.length≤N∧∀f∈p.funcs,zLE N f)∧p.globals.length≤N∧(p.layouts.length≤N∧∀l∈p.layouts,l.length≤N)
theorem zkf {α:Type} {l:List α} {i:Nat} {d:α} (h:i<l.length):l.take (i+1)=l.take i++[l.getD i d]:=by
 rw [List.take_succ_eq_append_getElem h];congr 2;simp [List.getD,h]
theorem zrp {α β:Type} {l:List α} {d0:α} {f:α→β} {step:Int×List β×Unit→(Int×List β×Unit)⊕(List β×Unit)} {ok:Int×List β×Unit→Bool} {d:List β×Unit} (hl:l.length≤BIG)
  (h1:∀(i:Nat) (acc:List β),i<l.length→acc.length=i→step ((i:Int),acc,())= .inl (IntKind.i64.wrap ((i:Int)+1),acc++[f (l.getD i d0)],())∧ok ((i:Int),acc,())=true)
  (h2:∀acc:List β,step ((l.length:Int),acc,())= .inr (acc,())∧ok ((l.length:Int),acc,())=true):
  X_wok step ok X_N ((0:Int),[],())=true∧zd step d X_N ((0:Int),[],())=(l.map f,()):=by
 have hb:l.length<9223372036854775807:=Nat.lt_of_le_of_lt hl (by decide)
 have:=zIY (l:=l) (step:=step) (ok:=ok) (d:=d) (n:=X_N) (fun i s=>s.1=(l.take i).map f) (fun _ _=>(l.map f,())) (Nat.lt_of_le_of_lt hl (by decide)) hb
  (fun i s hi hI=>by
   obtain ⟨acc,u⟩:=s;simp only at hI;have hlen:acc.length=i:=by rw [hI,List.length_map,List.length_take];omega
   obtain ⟨g1,g2⟩:=h1 i acc hi hlen;refine ⟨g2, .inl ⟨_,g1,?_,rfl⟩⟩;show acc++[f (l.getD i d0)]=(l.take (i+1)).map f;rw [zkf (d:=d0) hi,List.map_append,hI];rfl)
  (fun s hI=>by
   obtain ⟨acc,u⟩:=s;simp only at hI;obtain ⟨g1,g2⟩:=h2 acc;refine ⟨g2,_,g1,?_⟩;show (l.map f,())=(acc,());rw [hI,List.take_length])
  (i:=0) (s:=([],())) (zNk _) (by simp)
 simpa using this
theorem zsA {α β:Type} {l:List α} {d0:α} {f:α→β} {step:List β×Int×Unit→(List β×Int×Unit)⊕(List β×Unit)} {ok:List β×Int×Unit→Bool} {d:List β×Unit} (hl:l.length≤BIG)
  (h1:∀(i:Nat) (acc:List β),i<l.length→acc.length=i→step (acc,(i:Int),())= .inl (acc++[f (l.getD i d0)],IntKind.i64.wrap ((i:Int)+1),())∧ok (acc,(i:Int),())=true)
  (h2:∀acc:List β,step (acc,(l.length:Int),())= .inr (acc,())∧ok (acc,(l.length:Int),())=true):
  X_wok step ok X_N ([],(0:Int),())=true∧zd step d X_N ([],(0:Int),())=(l.map f,()):=by
 have:=zeS (step:=step) (ok:=ok) (d:=d) (fun x=>∃j:Nat,x.2.1=(j:Int)∧j≤l.length∧x.1=(l.take j).map f) (fun x=>l.length - x.2.1.toNat) (fun _=>(l.map f,()))
  (fun x ⟨j,hj,hjl,hI⟩=>by
   obtain ⟨acc,x1,u⟩:=x;simp only at hj hI ⊢;subst hj;have hlen:acc.length=j:=by rw [hI,List.length_map,List.length_take];omega
   by_cases hlt:j<l.length
   ·obtain ⟨g1,g2⟩:=h1 j acc hlt hlen;have hB:l.length≤68719476736:=hl;have hw:IntKind.i64.wrap ((j:Int)+1)=((j+1:Nat):Int):=by rw [zav (by omega) (by omega)];rfl
    refine ⟨g2, .inl ⟨_,g1,⟨j+1,hw,by omega,?_⟩,?_,trivial⟩⟩
    ·show acc++[f (l.getD j d0)]=(l.take (j+1)).map f;rw [zkf (d:=d0) hlt,List.map_append,hI];rfl
    ·show l.length - (IntKind.i64.wrap ((j:Int)+1)).toNat<l.length - (j:Int).toNat;rw [hw];simp only [Int.toNat_natCast];omega
   ·obtain rfl:j=l.length:=by omega
    obtain ⟨g1,g2⟩:=h2 acc;refine ⟨g2, .inr ⟨_,g1,?_⟩⟩;rw [hI,List.take_length]) (n:=X_N) (i:=([],(0:Int),())) ⟨0,rfl,zNk _,by simp⟩ (by
   show l.length - 0<X_N;have hB:l.length≤68719476736:=hl;have:X_N=4611686018427387904:=rfl;omega)
 exact this
end Go.Proofs.YtiepllpgifnloaaGreat.Px
namespace Go.Proofs.YtiepllpgifnloaaGreat.Vx
open Go.RowKit
variable {P:Program} [Fast P] {K:KS} {w0 w:World} {ρ:Rho} {st:St} {S:Nat→Prop} {F:Nat→Nat→Prop}
def rdT (st:St) (sh:Bool) (t:RT) (a:AV):Option (t.ty×List Tk):=match zdg t a with
 |some zas=>match zcz st sh t 0 (t.leaves t.dflt) zas with
  |some ks=>match t.build (zcT ks) with
   |some y=>some (y,ks)
   |none=>none
  |none=>none
 |none=>none
theorem zG7 {sh:Bool} {t:RT} {a:AV} {y:t.ty} {ks:List Tk} (h:rdT st sh t a=some (y,ks)):zHa st sh t y a=some (y=y,ks):=by
 unfold rdT at h;unfold zHa;split at h
 case h_2=>cases h
 rename_i zas h1;split at h
 case h_2=>cases h
 rename_i ks' h2;split at h
 case h_2=>cases h
 rename_i y' h3;obtain ⟨rfl,rfl⟩:=zNb (zM8 h);rw [h1];dsimp only;rw [h2];dsimp only;rw [h3]
def rdM (st:St):(m:RM)→AV→Option (m.ty×List Tk)
 | .own t,a=>rdT st false t a
 | .shr t,a=>rdT st true t a
 | .no,_=>some ((),[])
 | .box T n1 n2,a=>match a with
   | .ptr b off=>match Nat.beq off 0&&st.wr b,zk4 st.h b with
     |true,some bk=>match Nat.beq bk.ty T&&zvF bk.op,zj1 st true n1 (bk.cells.take n1.size),zj1 st false n2 (bk.cells.drop n1.size) with
      |true,some (p,k1),some (y,k2)=>some ((p,y),⟨.bool false,[b],[]⟩::(k1++k2))
      |_,_,_=>none
     |_,_=>none
   |_=>none
theorem zG6:∀{m:RM} {a:AV} {y:m.ty} {ks:List Tk},rdM st m a=some (y,ks)→∃p,zIq st m y a=some (p,ks)∧p
 | .own t,a,y,ks,h=>⟨_,zG7 h,rfl⟩
 | .shr t,a,y,ks,h=>⟨_,zG7 h,rfl⟩
 | .no,a,y,ks,h=>by
   obtain ⟨_,rfl⟩:=zNb (zM8 h);exact ⟨True,rfl,trivial⟩
 | .box T n1 n2,a,y,ks,h=>by
   simp only [rdM] at h;split at h
   case h_2=>cases h
   rename_i b off;split at h
   case h_2=>cases h
   rename_i bk hw hb;split at h
   case h_2=>cases h
   rename_i p1 k1 y1 k2 hc hk1 hk2;obtain ⟨rfl,rfl⟩:=zNb (zM8 h);refine ⟨p1=p1∧y1=y1,?_,rfl,rfl⟩;unfold zIq;dsimp only;rw [hw,hb];dsimp only;rw [hc,hk1,hk2]
def zIW (st:St):(ms:List RM)→List AV→Option (Args ms×List Tk)
 |[],[]=>some ((),[])
 |m::ms,a::zas=>match rdM st m a,zIW st ms zas with
  |some (x,ks),some (y,ls)=>some ((x,y),ks++ls)
  |_,_=>none
 |_,_=>none
theorem zyw:∀{ms:List RM} {zas:List AV} {y:Args ms} {ks:List Tk},zIW st ms zas=some (y,ks)→∃p,zq7 st ms y zas=some (p,ks)∧p
 |[],[],y,ks,h=>by
  obtain ⟨_,rfl⟩:=zNb (zM8 h);exact ⟨True,rfl,trivial⟩
 |[],_::_,_,_,h=>by simp [zIW] at h
 |_::_,[],_,_,h=>by simp [zIW] at h
 |m::ms,a::zas,y,ks,h=>by
  simp only [zIW] at h;split at h
  ·rename_i x k1 y2 k2 h1 h2;obtain ⟨rfl,rfl⟩:=zNb (zM8 h);obtain ⟨p,g1,g2⟩:=zG6 h1;obtain ⟨q,g3,g4⟩:=zyw h2;refine ⟨p∧q,?_,g2,g4⟩;show (match zIq st m x a,zq7 st ms y2 zas with|some (p,ks),some (q,ls)=>some (p∧q,ks++ls)|_,_=>none)=_
   rw [g1,g3]
  ·cases h
def zwp (st:St):(ms:List RM)→AV→Option (Args ms×List Tk)
 |[m],v=>match rdM st m v with
  |some (x,ks)=>some ((x,()),ks)
  |none=>none
 |ms, .tup l=>zIW st ms l
 |_,_=>none
theorem zzX {ms:List RM} {v:AV} {y:Args ms} {ks:List Tk} (h:zwp st ms v=some (y,ks)):∃p,znt st ms y v=some (p,ks)∧p:=by
 match ms,y,h with
 |[m],y,h=>
  simp only [zwp] at h;split at h
  ·rename_i x k hx;obtain ⟨rfl,rfl⟩:=zNb (zM8 h);exact zG6 hx
  ·cases h
 |[],y,h=>
  cases v with
  |tup l=>exact zyw (ms:=[]) h
  |_=>simp [zwp] at h
 |_::_::_,y,h=>
  cases v with
  |tup l=>exact zyw h
  |_=>simp [zwp] at h
def zLe:(m:RM)→m.ty
 | .own t=>t.dflt
 | .shr t=>t.dflt
 | .no=>()
 | .box _ n1 n2=>(SN.dflt n1,SN.dflt n2)
def zAL:(ms:List RM)→Args ms
 |[]=>()
 |m::ms=>(zLe m,zAL ms)
def zLg (P:Program) [Fast P] (fn:Func) (rs:List RM) (r:EX×T AV×St):VU (Args rs):=
 let fin:VU (Args rs):=match zz0 P r.2.1 r.2.2 fn.results.toList with
  |some v=>match zwp r.2.2 rs v with
   |some (y,ks)=>match zcA (zk ks++zh ks) with
    |true=> .ret y
    |false=> .fail 62 (.at .ret r.2.1 r.2.2)
   |none=> .fail 61 (.at .ret r.2.1 r.2.2)
  |none=> .fail 60 (.at .ret r.2.1 r.2.2)
 match r.1 with
 | .exit _=> .fail 63 .none
 | .normal=>fin
 | .ret=>fin
theorem zHF {fn:Func} {rs:List RM} {ex:EX} {tm:T AV} {st:St} {y:Args rs} (h:(zLg P fn rs (ex,tm,st)).out=some y):(∀i,ex≠ .exit i)∧∃v,zz0 P tm st fn.results.toList=some v∧zvJ st rs y v:=by
 have key:∀{y:Args rs},(match zz0 P tm st fn.results.toList with
  |some v=>match zwp st rs v with
   |some (y,ks)=>match zcA (zk ks++zh ks) with
    |true=>VU.ret y
    |false=> .fail 62 (.at .ret tm st)
   |none=> .fail 61 (.at .ret tm st)
  |none=> .fail 60 (.at .ret tm st)).out=some y→∃v,zz0 P tm st fn.results.toList=some v∧zvJ st rs y v:=by
  intro y h;split at h
  case h_2=>cases h
  rename_i v hv;split at h
  case h_2=>cases h
  rename_i y' ks hr;split at h
  case h_2=>cases h
  rename_i ha;obtain rfl:=zM8 h;obtain ⟨p,h1,h2⟩:=zzX hr;refine ⟨v,hv,?_⟩;unfold zvJ;rw [h1];exact ⟨h2,ha⟩
 unfold zLg at h;cases ex with
 |exit i=>cases h
 |normal=>exact ⟨fun i e=>(nomatch e),key h⟩
 |ret=>exact ⟨fun i e=>(nomatch e),key h⟩
def zx2 (P:Program) [Fast P] (own:Nat→Bool) (call:zbx) (nt n0:Nat) (fn:Func) (c:Code) (ps:List Pat) (rs:List RM) (ann:Nat→ze5) (x:zdW ps):VU (Args rs):=
 (zg4 (zsI (zoo ps n0 x).1 0 .e) fun tm=>znl (zoo ps n0 x).2 (zoo ps n0 x).2.wr fun st=>zf9 P own call nt ann 0 c tm st).bind (zLg P fn rs)
theorem zGH (hm:P.follows .mixedOrders=true) {own:Nat→Bool} {call:zbx} (hc:zdl P call) {f:FuncId} {fn:Func} {c:Code} (hf:zkY P f=some (fn,c)) {ps:List Pat} {rs:List RM} {ok:zdW ps→Bool} {fs:zdW ps→Args rs} (n0 nt:Nat)
  (hn:∀x,(zoo ps n0 x).2.n≤n0) (hnt:nt=Nat.add ps.length (Nat.sub fn.ntmps ps.length)) (ann:zdW ps→Nat→ze5)
  (hs:List Nat) (hrun:∀x,zum (zx2 P own call nt n0 fn c ps rs (ann x) x) hs (zAL rs)=zun (zx2 P own call nt n0 fn c ps rs (ann x) x) hs (fs x) (ok x)) (hlo:∀x,zcU P own call nt (wr0 n0) (ann x) 0 c):zAe P f ps rs (fun x=>ok x=true) fs:=by
 obtain ⟨hfn,hname,hbody⟩:=zoO hf;refine ⟨⟨fn,c,hfn,hname,hbody⟩,fun w S x vs hS hv hp=>?_⟩;cases e:zoo ps n0 x with
 |mk zas st1=>
 have hn':=hn x;have e':ze0 ps x ⟨.e,1,wr0 n0⟩=(zas,st1):=e;obtain ⟨ρ,F,he,hs,hd⟩:=zwr (n0:=n0) (st:=⟨.e,1,wr0 n0⟩) rfl (fun y hy=>zIr hy) (zEE hS n0) hv hn';rw [e'] at hs hd;have hr:=zuo (hrun x) hp;have hlo:=hlo x;unfold zx2 at hr;obtain ⟨⟨ex,tm',st'⟩,hr,hend⟩:=VU.out_bind hr;rw [zdt,zg3 _ _ rfl] at hr;rw [e] at hr;have hlen:zas.length=ps.length:=by
  have:=zpa (ts:=ps) (x:=x) (st:=⟨.e,1,wr0 n0⟩);rw [e'] at this;exact this
 subst hnt;rw [←hlen] at hr hlo;have hwr1:st1.wr=wr0 n0:=by
  have:=ztE (ts:=ps) (x:=x) (st:=⟨.e,1,wr0 n0⟩);rw [e'] at this;exact this
 obtain ⟨hex,v,hv1,hv2⟩:=zHF hend;refine calls_of_wp hfn hbody (zdr hm hc c hr (by rw [hwr1];exact hlo) (zxd hd fn.ntmps) ⟨S,F,hs⟩ rfl fun ρ' a' w' hw ht' hs' hdf=>?_)
 have fin:∃u,(results fn a'.tmps).run P w'= .ok u w'∧∃v S' F,Ending.returned u= .returned v∧Below w.heap.size w w'∧(∀y,F y→w.heap.size≤y∧y<w'.heap.size∧¬S' y)∧(∀y,S' y→(S y∨w.heap.size≤y)∧y<w'.heap.size)∧ResO w' S' F rs (fs x) v:=by
  obtain ⟨u,hru,hdu⟩:=zyB ht' hs' hv1;obtain ⟨S2,F',hsF⟩:=hs';obtain ⟨l,m,hnd,hro⟩:=zDI hsF hv2 hdu;have hb:=hsF.kp.below;refine ⟨u,hru,u,_,_,rfl,hb,fun y hy=>?_,fun y hy=>?_,hro⟩
  ·obtain ⟨g1,g2,g3⟩:=hy.lt hsF;refine ⟨Nat.le_of_not_lt g2,g1,fun hS=>?_⟩;rcases hS with hS|hS
   ·exact g3 hS
   ·exact Gn.apart hsF (fun q q1 q2=>(zNq.1 hnd).2.2 q q1 q q2 rfl) hy hS
  ·rcases hy with hy|hy
   ·refine ⟨?_,hsF.sl y hy⟩;rcases Nat.lt_or_ge y w.heap.size with h|h
    ·exact .inl (hsF.sk y hy h)
    ·exact .inr h
   ·obtain ⟨g1,g2,g3⟩:=hy.lt hsF;exact ⟨.inr (Nat.le_of_not_lt g2),g1⟩
 cases ex with
 |exit i=>exact (hex i rfl).elim
 |normal=>
  obtain ⟨u,h1,h2⟩:=fin;exact ⟨hdf,u,h1,h2⟩
 |ret=>
  obtain ⟨u,h1,h2⟩:=fin;exact ⟨hdf,u,h1,h2⟩
def zcB (ps:List Pat) (rs:List RM) (ok:zdW ps→Bool) (fn:zdW ps→Args rs):Ctr:=fun args st=>match znB st ps args with
 |some x=>match zhd rs (fn x) st with
  |(v,st')=>match zyV st.wr st.n (Nat.sub st'.n st.n) with
   |true=> .fork (ok x) (.ret (v,st')) (.fail 31 none)
   |false=> .fail 31 none
 |none=> .fail 30 none
theorem zCD {f:FuncId} {ps:List Pat} {rs:List RM} {pre:zdW ps→Prop} {ok:zdW ps→Bool} {fn:zdW ps→Args rs} (h:zAe P f ps rs pre fn) (hok:∀x,ok x=true→pre x):zi P f (zcB ps rs ok fn):=by
 intro args st v st' hf;refine zFu h args st v st' ?_;unfold zcB at hf;unfold zHy;split at hf
 case h_2=>cases hf
 rename_i x hx;cases hn:zhd rs (fn x) st with
 |mk v1 st1=>
 rw [hx];dsimp only;rw [hn] at hf ⊢;dsimp only at hf ⊢;split at hf
 case h_2=>cases hf
 rename_i hw;rw [hw];simp only;cases ho:ok x with
 |false=>rw [ho] at hf;cases hf
 |true=>
  rw [ho] at hf;simp only [VT.out] at hf ⊢;rw [if_pos (hok x ho)];exact hf
variable {P:Program} [Fast P] {ρ ρ':Rho} {w w0 w':World} {K:KS} {st st':St} {S:Nat→Prop} {F:Nat→Nat→Prop}
def zHE (P:Program) [Fast P] (fn:Func) (T:TypeId) (n1 n2:SN) (rs:List RM) (p:n1.ty) (r:EX×Go.Proofs.YtiepllpgifnloaaGreat.Vx.T AV×St):VU (n2.ty×Args rs):=
 let fin:VU (n2.ty×Args rs):=match zz0 P r.2.1 r.2.2 fn.results.toList with
  |some v=>match zk4 r.2.2.h 0 with
   |some bk=>match Nat.beq bk.ty T&&zvF bk.op,zj1 r.2.2 true n1 (bk.cells.take n1.size),zj1 r.2.2 false n2 (bk.cells.drop n1.size),zwp r.2.2 rs v with
    |true,some (p1,k1),some (x1,k2),some (y,k3)=>match zcA (0::((zk k1++zk k2)++(zk k3++(zh k1++(zh k2++zh k3))))) with
     |true=> .eqs [.eq ⟨n1.ty,p1,p⟩] (.ret (x1,y))
     |false=> .fail 62 (.at .ret r.2.1 r.2.2)
    |_,_,_,_=> .fail 61 (.at .ret r.2.1 r.2.2)
   |none=> .fail 64 (.at .ret r.2.1 r.2.2)
  |none=> .fail 60 (.at .ret r.2.1 r.2.2)
 match r.1 with
 | .exit _=> .fail 63 .none
 | .normal=>fin
 | .ret=>fin
theorem zFA {fn:Func} {T:TypeId} {n1 n2:SN} {rs:List RM} {p:n1.ty} {ex:EX} {tm:Go.Proofs.YtiepllpgifnloaaGreat.Vx.T AV} {st:St} {z:n2.ty×Args rs} (h:(zHE P fn T n1 n2 rs p (ex,tm,st)).out=some z):(∀i,ex≠ .exit i)∧∃v,zz0 P tm st fn.results.toList=some v∧zJN st T n1 n2 rs p z.1 z.2 v:=by
 have key:∀{t:VU (n2.ty×Args rs)},t=(match zz0 P tm st fn.results.toList with
  |some v=>match zk4 st.h 0 with
   |some bk=>match Nat.beq bk.ty T&&zvF bk.op,zj1 st true n1 (bk.cells.take n1.size),zj1 st false n2 (bk.cells.drop n1.size),zwp st rs v with
    |true,some (p1,k1),some (x1,k2),some (y,k3)=>match zcA (0::((zk k1++zk k2)++(zk k3++(zh k1++(zh k2++zh k3))))) with
     |true=> .eqs [.eq ⟨n1.ty,p1,p⟩] (.ret (x1,y))
     |false=> .fail 62 (.at .ret tm st)
    |_,_,_,_=> .fail 61 (.at .ret tm st)
   |none=> .fail 64 (.at .ret tm st)
  |none=> .fail 60 (.at .ret tm st))→t.out=some z→∃v,zz0 P tm st fn.results.toList=some v∧zJN st T n1 n2 rs p z.1 z.2 v:=by
  intro t ht h;subst ht;split at h
  case h_2=>cases h
  rename_i v hv;refine ⟨v,hv,?_⟩;unfold zJN;split at h
  case h_2=>cases h
  rename_i bk hb;rw [hb];simp only;split at h
  case h_2=>cases h
  rename_i p1 k1 x1 k2 y k3 h1 h2 h3 h4;split at h
  case h_2=>cases h
  rename_i ha;obtain ⟨he,h⟩:=zeE h;obtain rfl:=zM8 h;obtain ⟨q,g1,g2⟩:=zzX h4;rw [h1,h2,h3,g1];exact ⟨he.1,rfl,g2,ha⟩
 unfold zHE at h;cases ex with
 |exit i=>cases h
 |normal=>exact ⟨fun i e=>(nomatch e),key rfl h⟩
 |ret=>exact ⟨fun i e=>(nomatch e),key rfl h⟩
def zvx (P:Program) [Fast P] (own:Nat→Bool) (call:zbx) (nt n0:Nat) (fn:Func) (c:Code) (T:TypeId) (n1 n2:SN) (ps:List Pat) (rs:List RM) (ann:Nat→ze5) (p:n1.ty) (x:n2.ty) (y:zdW ps):VU (n2.ty×Args rs):=
 (zg4 (zsI (zuI T n1 n2 ps n0 p x y).1 0 .e) fun tm=>znl (zuI T n1 n2 ps n0 p x y).2 (zuI T n1 n2 ps n0 p x y).2.wr fun st=>zf9 P own call nt ann 0 c tm st).bind (zHE P fn T n1 n2 rs p)
theorem zEK (hm:P.follows .mixedOrders=true) {own:Nat→Bool} {call:zbx} (hc:zdl P call) {f:FuncId} {fn:Func} {c:Code} (hf:zkY P f=some (fn,c)) {T:TypeId} {n1 n2:SN} {ps:List Pat} {rs:List RM} {ok:n1.ty→n2.ty→zdW ps→Bool} {fs:n1.ty→n2.ty→zdW ps→n2.ty×Args rs} (hfl:zu3 ps=true) (n0 nt:Nat)
  (hn:∀p (y:zdW ps),(zv (zgW true (.st n1)) 0 ((RT.st n1).leaves p) (ze0 ps y ⟨.e,1,wrB n0⟩).2).2.n=n0) (hnt:nt=Nat.add (Nat.succ ps.length) (Nat.sub fn.ntmps (Nat.succ ps.length))) (ann:n1.ty→n2.ty→zdW ps→Nat→ze5)
  (hsx:List Nat) (hrun:∀p x y,zum (zvx P own call nt n0 fn c T n1 n2 ps rs (ann p x y) p x y) hsx (SN.dflt n2,zAL rs)=zun (zvx P own call nt n0 fn c T n1 n2 ps rs (ann p x y) p x y) hsx (fs p x y) (ok p x y))
  (hlo:∀p x y,zcU P own call nt (wrB n0) (ann p x y) 0 c):zHf P f T n1 n2 ps rs (fun p x y=>ok p x y=true) fs:=by
 obtain ⟨hfn,hname,hbody⟩:=zoO hf;refine ⟨⟨fn,c,hfn,hname,hbody⟩,fun w S G b p x y vs hS hG hbox hv hp=>?_⟩;obtain ⟨us1,us2,hblk,hone,⟨hl1,Gs1,_,_,o1⟩,⟨hl2,Gs2,g21,g22,o2⟩⟩:=hbox;have hr:=zuo (hrun p x y) hp;have hlo:=hlo p x y;unfold zvx at hr;obtain ⟨⟨ex,tm',st'⟩,hr,hend⟩:=VU.out_bind hr;rw [zdt,zg3 _ _ rfl] at hr;obtain ⟨hex,v0,hv1,hv2⟩:=zFA hend;let K:KS:=⟨fun z=>z<w.heap.size∧z≠b∧¬G z,S,fun z=>z=b⟩;let ρ0:Rho:=fun i=>if i=0 then some (b,Cap.of 0) else none
 have s0:SimF K w ρ0 S (fun _ _=>False) ⟨.e,1,wrB n0⟩ w:=
  ⟨Kp.refl _ w,fun _ h=>h.1,fun _ h=>h,fun _ h _=>h,fun z hz=>(hS z hz).1,fun i bk h=>by simp [Go.Proofs.YtiepllpgifnloaaGreat.Vx.T.get_e] at h,fun i bk y h=>by simp [Go.Proofs.YtiepllpgifnloaaGreat.Vx.T.get_e] at h,fun i j bi bj y h=>by simp [Go.Proofs.YtiepllpgifnloaaGreat.Vx.T.get_e] at h,fun i h=>by
   by_cases hi:i=0
   ·subst hi;exact Nat.zero_lt_one
   ·exact absurd (if_neg hi) h,Nat.zero_lt_one,fun z c e=>by
   obtain ⟨rfl,rfl⟩:=zNb (zM8 e);exact ⟨rfl,fun _ h=>h.elim⟩⟩
 have hn0:=hn p y;cases e0:ze0 ps y ⟨.e,1,wrB n0⟩ with
 |mk zas st1=>
 rw [e0] at hn0;cases e1:zv (zgW true (.st n1)) 0 ((RT.st n1).leaves p) st1 with
 |mk as1 st2=>
 rw [e1] at hn0;have hn0:st2.n=n0:=hn0;cases e2:zv (zgW false (.st n2)) 0 ((RT.st n2).leaves x) st2 with
 |mk as2 st3=>
 have eb:zuI T n1 n2 ps n0 p x y=(.ptr 0 0::zas,⟨st3.h.set 0 ⟨T,as1++as2,none⟩,st3.n,st3.wr⟩):=by
  unfold zuI;rw [e0];simp only;rw [e1];simp only;rw [e2]
 have m1:1≤st1.n:=by have:=ztD (ts:=ps) (x:=y) (st:=⟨.e,1,wrB n0⟩);rw [e0] at this;exact this
 have m2:st1.n≤st2.n:=by have:=zaQ (f:=zgW true (.st n1)) (j:=0) (ls:=(RT.st n1).leaves p) (st:=st1);rw [e1] at this;exact this
 have w1:st1.wr=wrB n0:=by have:=ztE (ts:=ps) (x:=y) (st:=⟨.e,1,wrB n0⟩);rw [e0] at this;exact this
 have w2:st2.wr=wrB n0:=by have:=zbT (f:=zgW true (.st n1)) (j:=0) (ls:=(RT.st n1).leaves p) (st:=st1);rw [e1] at this;exact this.trans w1
 have w3:st3.wr=wrB n0:=by have:=zbT (f:=zgW false (.st n2)) (j:=0) (ls:=(RT.st n2).leaves x) (st:=st2);rw [e2] at this;exact this.trans w2
 obtain ⟨ρ1,F1,x1,s1,d1,c1⟩:=zzY (n0:=n0) (st:=⟨.e,1,wrB n0⟩) hfl rfl (zNm _) s0 hv (by rw [e0];show st1.n≤n0;omega)
 rw [e0] at x1 s1 d1 c1;obtain ⟨ρ2,F2,x2,s2,d2,_,c2⟩:=zaF (f:=zgW true (.st n1)) false (G:=fun _ _=>False) (j:=0) s1 (hl1.trans (RT.leaves_len (.st n1) p).symm) (fun q lf hq=>by
  obtain ⟨u,h1,h2⟩:=o1 q lf hq;rw [Nat.zero_add];exact ⟨u,h1,zo5 hq (LfO.noF h2)⟩) (fun _ _ h=>h.elim) (fun n h1 h2=>by rw [e1] at h2;rw [w1];exact zJS (by show n<n0;rw [←hn0];exact h2) (zNf m1 h1)) (fun e=>nomatch e) (fun _ _ h=>h.elim) e1
 have emp2:∀i bi z,st2.h.get i=some bi→¬F2 i z:=fun i bi z hi hz=>by
  rcases c2 i bi hi with ⟨h1,h2⟩|⟨_,_,h3⟩
  ·rw [h2] at hz;rcases c1 i bi h1 with ⟨h3,h4⟩|h3
   ·simp [Go.Proofs.YtiepllpgifnloaaGreat.Vx.T.get_e] at h3
   ·exact h3 z hz
  ·exact ((h3 z hz).elim fun _ h=>h.elim)
 obtain ⟨ρ3,F3,x3,s3,d3,_,c3⟩:=zaF (f:=zgW false (.st n2)) true (G:=Gs2) (j:=0) s2 (hl2.trans (RT.leaves_len (.st n2) x).symm) (fun q lf hq=>by
  obtain ⟨u,h1,h2⟩:=o2 q lf hq;rw [Nat.zero_add];exact ⟨u,h1,zo5 hq h2⟩) (fun q z hz=>(hG z (g21 q z hz)).1) (fun n h1 h2=>by rw [w2];exact zLw (by omega)) (fun _ i j z hi hj=>g22 i j z hi hj) (fun q z hz=>by
   obtain ⟨h1,h2,h3⟩:=hG z (g21 q z hz);exact ⟨fun _=>⟨fun hK=>hK.2.2 (g21 q z hz),h2⟩,fun i bi hi _=>emp2 i bi z hi⟩) e2
 have hbS:¬S b:=fun h=>(hS b h).2 rfl;have hρ3:ρ3 0=some (b,Cap.of 0):=x3.le _ _ (x2.le _ _ (x1.le _ _ (if_pos rfl)));have s4:=s3.back hρ3 ⟨T,as1++as2,none⟩ ⟨fun _=>⟨fun z=>Iff.rfl,us1++us2,[],zaq (dens_mono x3.le d2) d3,by rw [List.append_nil];exact hblk,hone,fun _=>rfl,fun s e=>nomatch e⟩,fun e=>nomatch e⟩ (fun hK=>hK.2.1 rfl) hbS (fun j bj hj hz=>by
  rcases c3 j bj hj with ⟨h1,h2⟩|⟨_,_,h3⟩
  ·rw [h2] at hz;exact emp2 j bj b h1 hz
  ·obtain ⟨q,hq⟩:=h3 b hz;exact (hG b (g21 q b hq)).2.2 rfl)
 rw [eb] at hr;have hlen:zas.length=ps.length:=by
  have:=zpa (ts:=ps) (x:=y) (st:=⟨.e,1,wrB n0⟩);rw [e0] at this;exact this
 subst hnt;rw [←hlen] at hr hlo;have hd:dens ρ3 (.ptr 0 0::zas) (Value.pointer (some ⟨b,0,none⟩)::vs):=by
  simp only [dens];exact ⟨_,vs,rfl,by simp only [den];exact ⟨b,_,hρ3,rfl⟩,dens_mono x3.le (dens_mono x2.le d1)⟩
 refine calls_of_wp hfn hbody (zdr hm hc c hr (by show zcU P own call _ st3.wr _ _ _;rw [w3];exact hlo) (zxd hd fn.ntmps) ⟨S,_,s4⟩ rfl fun ρ' a' w' hw ht' hs' hdf=>?_)
 have hwr':st'.wr=wrB n0:=hw.trans w3;have fin:∀{v:AV},zz0 P tm' st' fn.results.toList=some v→zJN st' T n1 n2 rs p (fs p x y).1 (fs p x y).2 v→∃u,(results fn a'.tmps).run P w'= .ok u w'∧∃v S' H G',Ending.returned u= .returned v∧Kp (fun z=>z<w.heap.size∧z≠b∧¬G z) w w'∧(∀z,S z→S' z)∧(∀z,S' z→(S z∨G z∨w.heap.size≤z)∧z<w'.heap.size∧z≠b)∧
   (∀z,G' z→(G z∨w.heap.size≤z)∧z<w'.heap.size∧¬S' z∧z≠b)∧(∀z,H z→(G z∨w.heap.size≤z)∧z<w'.heap.size∧¬S' z∧¬G' z∧z≠b)∧zKE w' S' G' T n1 n2 p (fs p x y).1 b∧ResO w' S' H rs (fs p x y).2 v:=fun {v} h1 h2=>by
  obtain ⟨u,hru,hdu⟩:=zyB ht' hs' h1;obtain ⟨S2,F',hsF⟩:=hs';unfold zJN at h2;split at h2
  case h_2=>exact h2.elim
  rename_i bk hb;split at h2
  case h_2=>exact h2.elim
  rename_i p1 k1 x1' k2 q k3 hty hp1 hx1 hq1;obtain ⟨rfl,rfl,hq,hap⟩:=h2;simp only [Bool.and_eq_true] at hty;obtain ⟨hty,hop⟩:=hty;have hty:=zM9 hty;have hop:bk.op=none:=by
   revert hop;cases bk.op<;>intro e
   ·rfl
   ·cases e
  obtain ⟨hb0,hnd⟩:=zzH hap;simp only [List.mem_append,not_or] at hb0;obtain ⟨⟨hb1,hb2⟩,hb3,hb4,hb5,hb6⟩:=hb0;have nd1:=zNq.1 hnd;have nd2:=zNq.1 nd1.1;have nd3:=zNq.1 nd1.2.1;obtain ⟨xb,cb,hρb,hFb,⟨us,rest,hds,hblk',hone',hrest,_⟩,hnK⟩:=hsF.blkC hb;obtain rfl:xb=b:=(hsF.pn.2 xb cb hρb).1;have hb':=(za5 hb).1;rw [hrest hop,List.append_nil,hty] at hblk';have t1:=zjT hsF hp1 nd2.1 (zcb n1.size hds);have t2:=zjT hsF hx1 nd2.2.1 (zbA n1.size hds);have t3:=zEk hsF hq1 hq nd3.1 hdu;have hw0:st'.wr 0=true:=by rw [hwr'];unfold wrB;rw [Nat.beq_refl,Bool.or_true]
  have sepB:∀{l:List Nat} {z:Nat},0∉l→Gn F' st' l z→z≠xb:=fun hl ⟨i,a1,a2,⟨bi,a3⟩,a4⟩ e=>by
   subst e;exact hsF.sep i 0 bi bk _ a3 hb' (fun e=>hl (e▸a1)) (.inl a2) a4 ((hFb _).2 rfl)
  have nk:∀{z:Nat},¬K.k z→z≠xb→G z∨w.heap.size≤z:=fun {z} h1 h2=>by
   rcases Nat.lt_or_ge z w.heap.size with h3|h3
   ·refine .inl (Classical.byContradiction fun h4=>h1 ⟨h3,h2,h4⟩)
   ·exact .inr h3
  have inG:∀{l:List Nat} {z:Nat},0∉l→Gn F' st' l z→(G z∨w.heap.size≤z)∧z<w'.heap.size∧z≠xb:=fun hl hz=>⟨nk (hz.lt hsF).2.1 (sepB hl hz),(hz.lt hsF).1,sepB hl hz⟩;have r1:∀z,Gn F' st' (zh k1) z∨Gn F' st' (zh k2) z∨Gn F' st' (zh k3) z→Gn F' st' (zh k1++(zh k2++zh k3)) z:=fun z hz=>by
   rcases hz with hz|hz|hz<;>exact hz.mono fun q hq=>by simp [hq]
  have hR0:0∉zh k1++(zh k2++zh k3):=by simp [hb4,hb5,hb6]
  have offS:∀{l:List Nat} {z:Nat},(∀q,q∈l→q∈zh k1++(zh k2++zh k3)→False)→Gn F' st' l z→¬(S2 z∨Gn F' st' (zh k1++(zh k2++zh k3)) z):=fun hl hz h=>h.elim (hz.lt hsF).2.2 fun h=>Gn.apart hsF hl hz h;refine ⟨u,hru,u,fun z=>S2 z∨Gn F' st' (zh k1++(zh k2++zh k3)) z,Gn F' st' (zk k3),Gn F' st' (zk k1++zk k2),rfl,hsF.kp,fun z hz=> .inl (hsF.ss z hz),fun z hz=>?_,fun z hz=>?_,fun z hz=>?_,⟨us.take n1.size,us.drop n1.size,by rw [List.take_append_drop];exact hblk',by rw [List.take_append_drop];exact hone',(t1.more fun z hz=>hz.imp id fun hz=>r1 z (.inl hz)).noF,?_⟩,?_⟩
  ·rcases hz with hz|hz
   ·have h3:z≠xb:=fun e=>hsF.sd 0 bk z hb' hw0 ((hFb z).2 e) hz;refine ⟨?_,hsF.sl z hz,h3⟩;by_cases hK:K.k z
    ·exact .inl (hsF.sk z hz hK)
    ·exact .inr (nk hK h3)
   ·obtain ⟨h3,h4,h5⟩:=inG hR0 hz;exact ⟨.inr h3,h4,h5⟩
  ·obtain ⟨h3,h4,h5⟩:=inG (by simp [hb1,hb2]) hz
   exact ⟨h3,h4,offS (fun q q1 q2=>nd1.2.2 q q1 q (List.mem_append_right _ q2) rfl) hz,h5⟩
  ·obtain ⟨h3,h4,h5⟩:=inG hb3 hz;exact ⟨h3,h4,offS (fun q q1 q2=>nd3.2.2 q q1 q q2 rfl) hz,fun h=>Gn.apart hsF (fun q q1 q2=>nd1.2.2 q q1 q (List.mem_append_left _ q2) rfl) h hz,h5⟩
  ·obtain ⟨f1,Gs,f2,f3⟩:=t2.more fun z hz=>hz.imp id fun hz=>r1 z (.inr (.inl hz));exact ⟨f1,Gs,fun j z hz=>(f2 j z hz).mono fun q hq=>by simp [hq],f3⟩
  ·exact t3.more fun z hz=>hz.imp id fun hz=>r1 z (.inr (.inr hz))
 obtain ⟨u,h1,h2⟩:=fin hv1 hv2;cases ex with
 |exit i=>exact (hex i rfl).elim
 |normal=>exact ⟨hdf,u,h1,h2⟩
 |ret=>exact ⟨hdf,u,h1,h2⟩
def zqP (T:TypeId) (n1 n2:SN) (ps:List Pat) (rs:List RM) (ok:n1.ty→n2.ty→zdW ps→Bool) (fn:n1.ty→n2.ty→zdW ps→n2.ty×Args rs):Ctr:=fun args st=>match args with
 | .ptr b off::zas=>match Nat.beq off 0&&st.wr b,zk4 st.h b,znB st ps zas with
   |true,some bk,some y=>match Nat.beq bk.ty T&&zvF bk.op,zj1 st true n1 (bk.cells.take n1.size),zj1 st false n2 (bk.cells.drop n1.size) with
    |true,some (p,k1),some (x,k2)=>match zcA (b::((zk k1++zk k2)++(zh k1++zh k2))) with
     |true=>match zv (zgW true (.st n1)) 0 ((RT.st n1).leaves p) ⟨zaz (zaz st.h ((zk k1++zk k2)++(zh k1++zh k2))) [b],st.n,st.wr⟩ with
      |(as1,st1)=>match zv (zgW false (.st n2)) 0 ((RT.st n2).leaves (fn p x y).1) st1 with
       |(as2,st2)=>match zhd rs (fn p x y).2 ⟨st2.h.set b ⟨T,as1++as2,none⟩,st2.n,st2.wr⟩ with
        |(v,st3)=>match zyV st.wr st.n (Nat.sub st3.n st.n) with
         |true=> .fork (ok p x y) (.ret (v,st3)) (.fail 55 none)
         |false=> .fail 35 none
     |false=> .fail 34 none
    |_,_,_=> .fail 33 none
   |_,_,_=> .fail 32 none
 |_=> .fail 31 none
theorem zFv {f:FuncId} {T:TypeId} {n1 n2:SN} {ps:List Pat} {rs:List RM} {pre:n1.ty→n2.ty→zdW ps→Prop} {ok:n1.ty→n2.ty→zdW ps→Bool} {fn:n1.ty→n2.ty→zdW ps→n2.ty×Args rs} (h:zHf P f T n1 n2 ps rs pre fn) (hok:∀p x y,ok p x y=true→pre p x y):zi P f (zqP T n1 n2 ps rs ok fn):=by
 intro args st v st' hf;refine zHx h args st v st' ?_;unfold zqP at hf;unfold zLd;split at hf
 case h_2=>cases hf
 rename_i b off zas;simp only;split at hf
 case h_2=>cases hf
 rename_i bk y hoff hb hy;rw [hoff,hb,hy];simp only;split at hf
 case h_2=>cases hf
 rename_i p k1 x k2 hty hp hx;rw [hty,hp,hx];simp only;split at hf
 case h_2=>cases hf
 rename_i hap;rw [hap];simp only;cases e1:zv (zgW true (.st n1)) 0 ((RT.st n1).leaves p) ⟨zaz (zaz st.h ((zk k1++zk k2)++(zh k1++zh k2))) [b],st.n,st.wr⟩ with
 |mk as1 st1=>
 rw [e1] at hf;simp only at hf ⊢;cases e2:zv (zgW false (.st n2)) 0 ((RT.st n2).leaves (fn p x y).1) st1 with
 |mk as2 st2=>
 rw [e2] at hf;simp only at hf ⊢;cases e3:zhd rs (fn p x y).2 ⟨st2.h.set b ⟨T,as1++as2,none⟩,st2.n,st2.wr⟩ with
 |mk v1 st3=>
 rw [e3] at hf;simp only at hf ⊢;split at hf
 case h_2=>cases hf
 rename_i hw;rw [hw];simp only;cases hq:ok p x y with
 |false=>rw [hq] at hf;cases hf
 |true=>
  rw [hq] at hf;have hpp:=hok p x y hq;show (VT.must (pre p x y) (Classical.propDecidable _) (VT.ret (v1,st3))).out=some (v,st');unfold VT.out;split
  ·exact hf
  ·rename_i hne;exact absurd hpp hne
def zI9 (a:AV) (r:List AV×St):List AV×St:=match r with
 |(zas,st)=>(a::zas,st)
def zjc (st:St) (lf:Leaf) (a:AV):AV×St:=match lf with
 | .list t _=>match zj2 st (.v true (.list t)) a with
   |some _=>(a,st)
   |none=>match zvo st t a with
    |some r=>r
    |none=>(a,st)
 |_=>(a,st)
def zjd (st:St):List Leaf→List AV→List AV×St
 |lf::ls,a::zas=>match zjc st lf a with
  |(v,st1)=>zI9 v (zjd st1 ls zas)
 |_,zas=>(zas,st)
def zrc (st:St) (p:Pat) (a:AV):AV×St:=match p with
 | .v true t=>match t with
   | .list u=>zjc st (.list u []) a
   | .st n=>match a with
     | .agg l=>match zjd st ((RT.st n).leaves (RT.st n).dflt) l with
       |(l',st1)=>(.agg l',st1)
     |a=>(a,st)
   |_=>(a,st)
 |_=>(a,st)
def znu (st:St):List Pat→List AV→List AV×St
 |p::ps,a::zas=>match zrc st p a with
  |(v,st1)=>zI9 v (znu st1 ps zas)
 |_,zas=>(zas,st)
theorem zwG {st:St} {ρ:Rho} {lf:Leaf} {a:AV} {u:Value} (hs:Sim K w0 ρ st w) (hd:den ρ a u):∃ρ',Ext st.n (zjc st lf a).2.n ρ ρ'∧Sim K w0 ρ' (zjc st lf a).2 w∧den ρ' (zjc st lf a).1 u∧(zjc st lf a).2.wr=st.wr:=by
 have stay:∃ρ',Ext st.n st.n ρ ρ'∧Sim K w0 ρ' st w∧den ρ' a u∧st.wr=st.wr:=⟨ρ, .refl _ ρ,hs,hd,rfl⟩;unfold zjc;split
 ·split
  ·exact stay
  ·split
   ·rename_i r hl;exact ztv hs hd hl
   ·exact stay
 ·exact stay
theorem zss:∀{ls:List Leaf} {zas:List AV} {st:St} {ρ:Rho} {vs:List Value},Sim K w0 ρ st w→dens ρ zas vs→∃ρ',Ext st.n (zjd st ls zas).2.n ρ ρ'∧Sim K w0 ρ' (zjd st ls zas).2 w∧dens ρ' (zjd st ls zas).1 vs∧(zjd st ls zas).2.wr=st.wr
 |[],zas,st,ρ,vs,hs,hd=>⟨ρ, .refl _ ρ,hs,hd,rfl⟩
 |_::_,[],st,ρ,vs,hs,hd=>⟨ρ, .refl _ ρ,hs,hd,rfl⟩
 |p::ps,a::zas,st,ρ,vs,hs,hd=>by
  simp only [dens] at hd;obtain ⟨u,vs',rfl,h1,h2⟩:=hd;obtain ⟨ρ1,e1,s1,d1,w1⟩:=zwG (lf:=p) hs h1;obtain ⟨ρ',e2,s2,d2,w2⟩:=zss (ls:=ps) s1 (dens_mono e1.le h2);refine ⟨ρ',e1.trans e2,s2,?_,w2.trans w1⟩;show dens ρ' ((zjc st p a).1::(zjd (zjc st p a).2 ps zas).1) (u::vs');simp only [dens];exact ⟨u,vs',rfl,zbn e2.le d1,d2⟩
theorem zGC {st:St} {ρ:Rho} {p:Pat} {a:AV} {u:Value} (hs:Sim K w0 ρ st w) (hd:den ρ a u):∃ρ',Ext st.n (zrc st p a).2.n ρ ρ'∧Sim K w0 ρ' (zrc st p a).2 w∧den ρ' (zrc st p a).1 u∧(zrc st p a).2.wr=st.wr:=by
 have stay:∃ρ',Ext st.n st.n ρ ρ'∧Sim K w0 ρ' st w∧den ρ' a u∧st.wr=st.wr:=⟨ρ, .refl _ ρ,hs,hd,rfl⟩;unfold zrc;split
 ·split
  ·exact zwG hs hd
  ·split
   ·simp only [den] at hd;obtain ⟨vs,rfl,hd⟩:=hd;rename_i n a0 l;obtain ⟨ρ',e,s,d,w1⟩:=zss (ls:=(RT.st n).leaves (RT.st n).dflt) hs hd;exact ⟨ρ',e,s,by simp only [den];exact ⟨vs,rfl,d⟩,w1⟩
   ·exact stay
  ·exact stay
 ·exact stay
theorem zwE:∀{ps:List Pat} {zas:List AV} {st:St} {ρ:Rho} {vs:List Value},Sim K w0 ρ st w→dens ρ zas vs→∃ρ',Ext st.n (znu st ps zas).2.n ρ ρ'∧Sim K w0 ρ' (znu st ps zas).2 w∧dens ρ' (znu st ps zas).1 vs∧(znu st ps zas).2.wr=st.wr
 |[],zas,st,ρ,vs,hs,hd=>⟨ρ, .refl _ ρ,hs,hd,rfl⟩
 |_::_,[],st,ρ,vs,hs,hd=>⟨ρ, .refl _ ρ,hs,hd,rfl⟩
 |p::ps,a::zas,st,ρ,vs,hs,hd=>by
  simp only [dens] at hd;obtain ⟨u,vs',rfl,h1,h2⟩:=hd;obtain ⟨ρ1,e1,s1,d1,w1⟩:=zGC (p:=p) hs h1;obtain ⟨ρ',e2,s2,d2,w2⟩:=zwE (ps:=ps) s1 (dens_mono e1.le h2);refine ⟨ρ',e1.trans e2,s2,?_,w2.trans w1⟩;show dens ρ' ((zrc st p a).1::(znu (zrc st p a).2 ps zas).1) (u::vs');simp only [dens];exact ⟨u,vs',rfl,zbn e2.le d1,d2⟩
theorem zF3 {st:St} {rt:RT} {a:AV} {r:AV×St} (h:zvo st rt a=some r):r.2.wr=st.wr:=by
 unfold zvo at h;split at h
 ·split at h
  ·obtain rfl:=zM8 h;rfl
  ·cases h
 ·cases h
theorem zwH {st:St} {lf:Leaf} {a:AV}:(zjc st lf a).2.wr=st.wr:=by
 unfold zjc;split
 ·split
  ·rfl
  ·split
   ·rename_i r hl;exact zF3 hl
   ·rfl
 ·rfl
theorem zst:∀{ls:List Leaf} {zas:List AV} {st:St},(zjd st ls zas).2.wr=st.wr
 |[],_,_=>rfl
 |_::_,[],_=>rfl
 |_::ls,_::zas,_=>(zst (ls:=ls) (zas:=zas)).trans zwH
theorem zGD {st:St} {p:Pat} {a:AV}:(zrc st p a).2.wr=st.wr:=by
 unfold zrc;split
 ·split
  ·exact zwH
  ·split
   ·exact zst
   ·rfl
  ·rfl
 ·rfl
theorem zwF:∀{ps:List Pat} {zas:List AV} {st:St},(znu st ps zas).2.wr=st.wr
 |[],_,_=>rfl
 |_::_,[],_=>rfl
 |_::ps,_::zas,_=>(zwF (ps:=ps) (zas:=zas)).trans zGD
def shC (ps:List Pat) (c:Ctr):Ctr:=fun args st=>match znu st ps args with
 |(args',st')=>c args' st'
theorem zJR {f:FuncId} {ps:List Pat} {c:Ctr} (h:zi P f c):zi P f (shC ps c):=by
 intro args st v st' hf;unfold shC at hf;obtain ⟨h1,h2,h3⟩:=h _ _ v st' hf;refine ⟨h1.trans zwF,h2,fun K w0 w ρ vs hs hd=>?_⟩;obtain ⟨ρ1,e1,s1,d1,_⟩:=zwE (ps:=ps) hs hd;refine (h3 K w0 w ρ1 vs s1 d1).mono ?_
 rintro e w' ⟨u,ρ',he,e2,s2,d2⟩
 exact ⟨u,ρ',he,e1.trans e2,s2,d2⟩
end Go.Proofs.YtiepllpgifnloaaGreat.Vx
namespace Go.Proofs.YtiepllpgifnloaaGreat.Px
open Go Go.Proofs.YtiepllpgifnloaaGreat.Vx Go.Proofs
set_option maxRecDepth 1000000
noncomputable def zJi:T TypeInfo:=(.n (some Tryz.t0) (.n (some Tryz.t1) (.n (some Tryz.t3) (.n (some Tryz.t7) (.n (some Tryz.t15) (.n (some Tryz.t31) (.n (some Tryz.t63) (.n (some Tryz.t127) (.n (some Tryz.t255) .e .e) .e) (.n (some Tryz.t191) (.n (some Tryz.t319) .e .e) .e)) (.n (some Tryz.t95) (.n (some Tryz.t159) (.n (some Tryz.t287) .e .e) .e) (.n (some Tryz.t223) .e .e))) (.n (some Tryz.t47) (.n (some Tryz.t79) (.n (some Tryz.t143) (.n (some Tryz.t271) .e .e) .e) (.n (some Tryz.t207) .e .e)) (.n (some Tryz.t111) (.n (some Tryz.t175) (.n (some Tryz.t303) .e .e) .e) (.n (some Tryz.t239) .e .e)))) (.n (some Tryz.t23) (.n (some Tryz.t39) (.n (some Tryz.t71) (.n (some Tryz.t135) (.n (some Tryz.t263) .e .e) .e) (.n (some Tryz.t199) .e .e)) (.n (some Tryz.t103) (.n (some Tryz.t167) (.n (some Tryz.t295) .e .e) .e) (.n (some Tryz.t231) .e .e))) (.n (some Tryz.t55) (.n (some Tryz.t87) (.n (some Tryz.t151) (.n (some Tryz.t279) .e .e) .e) (.n (some Tryz.t215) .e .e)) (.n (some Tryz.t119) (.n (some Tryz.t183) (.n (some Tryz.t311) .e .e) .e) (.n (some Tryz.t247) .e .e))))) (.n (some Tryz.t11) (.n (some Tryz.t19) (.n (some Tryz.t35) (.n (some Tryz.t67) (.n (some Tryz.t131) (.n (some Tryz.t259) .e .e) .e) (.n (some Tryz.t195) .e .e)) (.n (some Tryz.t99) (.n (some Tryz.t163) (.n (some Tryz.t291) .e .e) .e) (.n (some Tryz.t227) .e .e))) (.n (some Tryz.t51) (.n (some Tryz.t83) (.n (some Tryz.t147) (.n (some Tryz.t275) .e .e) .e) (.n (some Tryz.t211) .e .e)) (.n (some Tryz.t115) (.n (some Tryz.t179) (.n (some Tryz.t307) .e .e) .e) (.n (some Tryz.t243) .e .e)))) (.n (some Tryz.t27) (.n (some Tryz.t43) (.n (some Tryz.t75) (.n (some Tryz.t139) (.n (some Tryz.t267) .e .e) .e) (.n (some Tryz.t203) .e .e)) (.n (some Tryz.t107) (.n (some Tryz.t171) (.n (some Tryz.t299) .e .e) .e) (.n (some Tryz.t235) .e .e))) (.n (some Tryz.t59) (.n (some Tryz.t91) (.n (some Tryz.t155) (.n (some Tryz.t283) .e .e) .e) (.n (some Tryz.t219) .e .e)) (.n (some Tryz.t123) (.n (some Tryz.t187) (.n (some Tryz.t315) .e .e) .e) (.n (some Tryz.t251) .e .e)))))) (.n (some Tryz.t5) (.n (some Tryz.t9) (.n (some Tryz.t17) (.n (some Tryz.t33) (.n (some Tryz.t65) (.n (some Tryz.t129) (.n (some Tryz.t257) .e .e) .e) (.n (some Tryz.t193) (.n (some Tryz.t321) .e .e) .e)) (.n (some Tryz.t97) (.n (some Tryz.t161) (.n (some Tryz.t289) .e .e) .e) (.n (some Tryz.t225) .e .e))) (.n (some Tryz.t49) (.n (some Tryz.t81) (.n (some Tryz.t145) (.n (some Tryz.t273) .e .e) .e) (.n (some Tryz.t209) .e .e)) (.n (some Tryz.t113) (.n (some Tryz.t177) (.n (some Tryz.t305) .e .e) .e) (.n (some Tryz.t241) .e .e)))) (.n (some Tryz.t25) (.n (some Tryz.t41) (.n (some Tryz.t73) (.n (some Tryz.t137) (.n (some Tryz.t265) .e .e) .e) (.n (some Tryz.t201) .e .e)) (.n (some Tryz.t105) (.n (some Tryz.t169) (.n (some Tryz.t297) .e .e) .e) (.n (some Tryz.t233) .e .e))) (.n (some Tryz.t57) (.n (some Tryz.t89) (.n (some Tryz.t153) (.n (some Tryz.t281) .e .e) .e) (.n (some Tryz.t217) .e .e)) (.n (some Tryz.t121) (.n (some Tryz.t185) (.n (some Tryz.t313) .e .e) .e) (.n (some Tryz.t249) .e .e))))) (.n (some Tryz.t13) (.n (some Tryz.t21) (.n (some Tryz.t37) (.n (some Tryz.t69) (.n (some Tryz.t133) (.n (some Tryz.t261) .e .e) .e) (.n (some Tryz.t197) .e .e)) (.n (some Tryz.t101) (.n (some Tryz.t165) (.n (some Tryz.t293) .e .e) .e) (.n (some Tryz.t229) .e .e))) (.n (some Tryz.t53) (.n (some Tryz.t85) (.n (some Tryz.t149) (.n (some Tryz.t277) .e .e) .e) (.n (some Tryz.t213) .e .e)) (.n (some Tryz.t117) (.n (some Tryz.t181) (.n (some Tryz.t309) .e .e) .e) (.n (some Tryz.t245) .e .e)))) (.n (some Tryz.t29) (.n (some Tryz.t45) (.n (some Tryz.t77) (.n (some Tryz.t141) (.n (some Tryz.t269) .e .e) .e) (.n (some Tryz.t205) .e .e)) (.n (some Tryz.t109) (.n (some Tryz.t173) (.n (some Tryz.t301) .e .e) .e) (.n (some Tryz.t237) .e .e))) (.n (some Tryz.t61) (.n (some Tryz.t93) (.n (some Tryz.t157) (.n (some Tryz.t285) .e .e) .e) (.n (some Tryz.t221) .e .e)) (.n (some Tryz.t125) (.n (some Tryz.t189) (.n (some Tryz.t317) .e .e) .e) (.n (some Tryz.t253) .e .e))))))) (.n (some Tryz.t2) (.n (some Tryz.t4) (.n (some Tryz.t8) (.n (some Tryz.t16) (.n (some Tryz.t32) (.n (some Tryz.t64) (.n (some Tryz.t128) (.n (some Tryz.t256) .e .e) .e) (.n (some Tryz.t192) (.n (some Tryz.t320) .e .e) .e)) (.n (some Tryz.t96) (.n (some Tryz.t160) (.n (some Tryz.t288) .e .e) .e) (.n (some Tryz.t224) .e .e))) (.n (some Tryz.t48) (.n (some Tryz.t80) (.n (some Tryz.t144) (.n (some Tryz.t272) .e .e) .e) (.n (some Tryz.t208) .e .e)) (.n (some Tryz.t112) (.n (some Tryz.t176) (.n (some Tryz.t304) .e .e) .e) (.n (some Tryz.t240) .e .e)))) (.n (some Tryz.t24) (.n (some Tryz.t40) (.n (some Tryz.t72) (.n (some Tryz.t136) (.n (some Tryz.t264) .e .e) .e) (.n (some Tryz.t200) .e .e)) (.n (some Tryz.t104) (.n (some Tryz.t168) (.n (some Tryz.t296) .e .e) .e) (.n (some Tryz.t232) .e .e))) (.n (some Tryz.t56) (.n (some Tryz.t88) (.n (some Tryz.t152) (.n (some Tryz.t280) .e .e) .e) (.n (some Tryz.t216) .e .e)) (.n (some Tryz.t120) (.n (some Tryz.t184) (.n (some Tryz.t312) .e .e) .e) (.n (some Tryz.t248) .e .e))))) (.n (some Tryz.t12) (.n (some Tryz.t20) (.n (some Tryz.t36) (.n (some Tryz.t68) (.n (some Tryz.t132) (.n (some Tryz.t260) .e .e) .e) (.n (some Tryz.t196) .e .e)) (.n (some Tryz.t100) (.n (some Tryz.t164) (.n (some Tryz.t292) .e .e) .e) (.n (some Tryz.t228) .e .e))) (.n (some Tryz.t52) (.n (some Tryz.t84) (.n (some Tryz.t148) (.n (some Tryz.t276) .e .e) .e) (.n (some Tryz.t212) .e .e)) (.n (some Tryz.t116) (.n (some Tryz.t180) (.n (some Tryz.t308) .e .e) .e) (.n (some Tryz.t244) .e .e)))) (.n (some Tryz.t28) (.n (some Tryz.t44) (.n (some Tryz.t76) (.n (some Tryz.t140) (.n (some Tryz.t268) .e .e) .e) (.n (some Tryz.t204) .e .e)) (.n (some Tryz.t108) (.n (some Tryz.t172) (.n (some Tryz.t300) .e .e) .e) (.n (some Tryz.t236) .e .e))) (.n (some Tryz.t60) (.n (some Tryz.t92) (.n (some Tryz.t156) (.n (some Tryz.t284) .e .e) .e) (.n (some Tryz.t220) .e .e)) (.n (some Tryz.t124) (.n (some Tryz.t188) (.n (some Tryz.t316) .e .e) .e) (.n (some Tryz.t252) .e .e)))))) (.n (some Tryz.t6) (.n (some Tryz.t10) (.n (some Tryz.t18) (.n (some Tryz.t34) (.n (some Tryz.t66) (.n (some Tryz.t130) (.n (some Tryz.t258) .e .e) .e) (.n (some Tryz.t194) .e .e)) (.n (some Tryz.t98) (.n (some Tryz.t162) (.n (some Tryz.t290) .e .e) .e) (.n (some Tryz.t226) .e .e))) (.n (some Tryz.t50) (.n (some Tryz.t82) (.n (some Tryz.t146) (.n (some Tryz.t274) .e .e) .e) (.n (some Tryz.t210) .e .e)) (.n (some Tryz.t114) (.n (some Tryz.t178) (.n (some Tryz.t306) .e .e) .e) (.n (some Tryz.t242) .e .e)))) (.n (some Tryz.t26) (.n (some Tryz.t42) (.n (some Tryz.t74) (.n (some Tryz.t138) (.n (some Tryz.t266) .e .e) .e) (.n (some Tryz.t202) .e .e)) (.n (some Tryz.t106) (.n (some Tryz.t170) (.n (some Tryz.t298) .e .e) .e) (.n (some Tryz.t234) .e .e))) (.n (some Tryz.t58) (.n (some Tryz.t90) (.n (some Tryz.t154) (.n (some Tryz.t282) .e .e) .e) (.n (some Tryz.t218) .e .e)) (.n (some Tryz.t122) (.n (some Tryz.t186) (.n (some Tryz.t314) .e .e) .e) (.n (some Tryz.t250) .e .e))))) (.n (some Tryz.t14) (.n (some Tryz.t22) (.n (some Tryz.t38) (.n (some Tryz.t70) (.n (some Tryz.t134) (.n (some Tryz.t262) .e .e) .e) (.n (some Tryz.t198) .e .e)) (.n (some Tryz.t102) (.n (some Tryz.t166) (.n (some Tryz.t294) .e .e) .e) (.n (some Tryz.t230) .e .e))) (.n (some Tryz.t54) (.n (some Tryz.t86) (.n (some Tryz.t150) (.n (some Tryz.t278) .e .e) .e) (.n (some Tryz.t214) .e .e)) (.n (some Tryz.t118) (.n (some Tryz.t182) (.n (some Tryz.t310) .e .e) .e) (.n (some Tryz.t246) .e .e)))) (.n (some Tryz.t30) (.n (some Tryz.t46) (.n (some Tryz.t78) (.n (some Tryz.t142) (.n (some Tryz.t270) .e .e) .e) (.n (some Tryz.t206) .e .e)) (.n (some Tryz.t110) (.n (some Tryz.t174) (.n (some Tryz.t302) .e .e) .e) (.n (some Tryz.t238) .e .e))) (.n (some Tryz.t62) (.n (some Tryz.t94) (.n (some Tryz.t158) (.n (some Tryz.t286) .e .e) .e) (.n (some Tryz.t222) .e .e)) (.n (some Tryz.t126) (.n (some Tryz.t190) (.n (some Tryz.t318) .e .e) .e) (.n (some Tryz.t254) .e .e))))))))
noncomputable def zJf:T Func:=(.n (some Tryz.f0) (.n (some Tryz.f1) (.n (some Tryz.f3) (.n (some Tryz.f7) (.n (some Tryz.f15) (.n (some Tryz.f31) (.n (some Tryz.f63) (.n (some Tryz.f127) (.n (some Tryz.f255) .e .e) .e) (.n (some Tryz.f191) (.n (some Tryz.f319) .e .e) .e)) (.n (some Tryz.f95) (.n (some Tryz.f159) (.n (some Tryz.f287) .e .e) .e) (.n (some Tryz.f223) .e .e))) (.n (some Tryz.f47) (.n (some Tryz.f79) (.n (some Tryz.f143) (.n (some Tryz.f271) .e .e) .e) (.n (some Tryz.f207) .e .e)) (.n (some Tryz.f111) (.n (some Tryz.f175) (.n (some Tryz.f303) .e .e) .e) (.n (some Tryz.f239) .e .e)))) (.n (some Tryz.f23) (.n (some Tryz.f39) (.n (some Tryz.f71) (.n (some Tryz.f135) (.n (some Tryz.f263) .e .e) .e) (.n (some Tryz.f199) .e .e)) (.n (some Tryz.f103) (.n (some Tryz.f167) (.n (some Tryz.f295) .e .e) .e) (.n (some Tryz.f231) .e .e))) (.n (some Tryz.f55) (.n (some Tryz.f87) (.n (some Tryz.f151) (.n (some Tryz.f279) .e .e) .e) (.n (some Tryz.f215) .e .e)) (.n (some Tryz.f119) (.n (some Tryz.f183) (.n (some Tryz.f311) .e .e) .e) (.n (some Tryz.f247) .e .e))))) (.n (some Tryz.f11) (.n (some Tryz.f19) (.n (some Tryz.f35) (.n (some Tryz.f67) (.n (some Tryz.f131) (.n (some Tryz.f259) .e .e) .e) (.n (some Tryz.f195) .e .e)) (.n (some Tryz.f99) (.n (some Tryz.f163) (.n (some Tryz.f291) .e .e) .e) (.n (some Tryz.f227) .e .e))) (.n (some Tryz.f51) (.n (some Tryz.f83) (.n (some Tryz.f147) (.n (some Tryz.f275) .e .e) .e) (.n (some Tryz.f211) .e .e)) (.n (some Tryz.f115) (.n (some Tryz.f179) (.n (some Tryz.f307) .e .e) .e) (.n (some Tryz.f243) .e .e)))) (.n (some Tryz.f27) (.n (some Tryz.f43) (.n (some Tryz.f75) (.n (some Tryz.f139) (.n (some Tryz.f267) .e .e) .e) (.n (some Tryz.f203) .e .e)) (.n (some Tryz.f107) (.n (some Tryz.f171) (.n (some Tryz.f299) .e .e) .e) (.n (some Tryz.f235) .e .e))) (.n (some Tryz.f59) (.n (some Tryz.f91) (.n (some Tryz.f155) (.n (some Tryz.f283) .e .e) .e) (.n (some Tryz.f219) .e .e)) (.n (some Tryz.f123) (.n (some Tryz.f187) (.n (some Tryz.f315) .e .e) .e) (.n (some Tryz.f251) .e .e)))))) (.n (some Tryz.f5) (.n (some Tryz.f9) (.n (some Tryz.f17) (.n (some Tryz.f33) (.n (some Tryz.f65) (.n (some Tryz.f129) (.n (some Tryz.f257) .e .e) .e) (.n (some Tryz.f193) .e .e)) (.n (some Tryz.f97) (.n (some Tryz.f161) (.n (some Tryz.f289) .e .e) .e) (.n (some Tryz.f225) .e .e))) (.n (some Tryz.f49) (.n (some Tryz.f81) (.n (some Tryz.f145) (.n (some Tryz.f273) .e .e) .e) (.n (some Tryz.f209) .e .e)) (.n (some Tryz.f113) (.n (some Tryz.f177) (.n (some Tryz.f305) .e .e) .e) (.n (some Tryz.f241) .e .e)))) (.n (some Tryz.f25) (.n (some Tryz.f41) (.n (some Tryz.f73) (.n (some Tryz.f137) (.n (some Tryz.f265) .e .e) .e) (.n (some Tryz.f201) .e .e)) (.n (some Tryz.f105) (.n (some Tryz.f169) (.n (some Tryz.f297) .e .e) .e) (.n (some Tryz.f233) .e .e))) (.n (some Tryz.f57) (.n (some Tryz.f89) (.n (some Tryz.f153) (.n (some Tryz.f281) .e .e) .e) (.n (some Tryz.f217) .e .e)) (.n (some Tryz.f121) (.n (some Tryz.f185) (.n (some Tryz.f313) .e .e) .e) (.n (some Tryz.f249) .e .e))))) (.n (some Tryz.f13) (.n (some Tryz.f21) (.n (some Tryz.f37) (.n (some Tryz.f69) (.n (some Tryz.f133) (.n (some Tryz.f261) .e .e) .e) (.n (some Tryz.f197) .e .e)) (.n (some Tryz.f101) (.n (some Tryz.f165) (.n (some Tryz.f293) .e .e) .e) (.n (some Tryz.f229) .e .e))) (.n (some Tryz.f53) (.n (some Tryz.f85) (.n (some Tryz.f149) (.n (some Tryz.f277) .e .e) .e) (.n (some Tryz.f213) .e .e)) (.n (some Tryz.f117) (.n (some Tryz.f181) (.n (some Tryz.f309) .e .e) .e) (.n (some Tryz.f245) .e .e)))) (.n (some Tryz.f29) (.n (some Tryz.f45) (.n (some Tryz.f77) (.n (some Tryz.f141) (.n (some Tryz.f269) .e .e) .e) (.n (some Tryz.f205) .e .e)) (.n (some Tryz.f109) (.n (some Tryz.f173) (.n (some Tryz.f301) .e .e) .e) (.n (some Tryz.f237) .e .e))) (.n (some Tryz.f61) (.n (some Tryz.f93) (.n (some Tryz.f157) (.n (some Tryz.f285) .e .e) .e) (.n (some Tryz.f221) .e .e)) (.n (some Tryz.f125) (.n (some Tryz.f189) (.n (some Tryz.f317) .e .e) .e) (.n (some Tryz.f253) .e .e))))))) (.n (some Tryz.f2) (.n (some Tryz.f4) (.n (some Tryz.f8) (.n (some Tryz.f16) (.n (some Tryz.f32) (.n (some Tryz.f64) (.n (some Tryz.f128) (.n (some Tryz.f256) .e .e) .e) (.n (some Tryz.f192) (.n (some Tryz.f320) .e .e) .e)) (.n (some Tryz.f96) (.n (some Tryz.f160) (.n (some Tryz.f288) .e .e) .e) (.n (some Tryz.f224) .e .e))) (.n (some Tryz.f48) (.n (some Tryz.f80) (.n (some Tryz.f144) (.n (some Tryz.f272) .e .e) .e) (.n (some Tryz.f208) .e .e)) (.n (some Tryz.f112) (.n (some Tryz.f176) (.n (some Tryz.f304) .e .e) .e) (.n (some Tryz.f240) .e .e)))) (.n (some Tryz.f24) (.n (some Tryz.f40) (.n (some Tryz.f72) (.n (some Tryz.f136) (.n (some Tryz.f264) .e .e) .e) (.n (some Tryz.f200) .e .e)) (.n (some Tryz.f104) (.n (some Tryz.f168) (.n (some Tryz.f296) .e .e) .e) (.n (some Tryz.f232) .e .e))) (.n (some Tryz.f56) (.n (some Tryz.f88) (.n (some Tryz.f152) (.n (some Tryz.f280) .e .e) .e) (.n (some Tryz.f216) .e .e)) (.n (some Tryz.f120) (.n (some Tryz.f184) (.n (some Tryz.f312) .e .e) .e) (.n (some Tryz.f248) .e .e))))) (.n (some Tryz.f12) (.n (some Tryz.f20) (.n (some Tryz.f36) (.n (some Tryz.f68) (.n (some Tryz.f132) (.n (some Tryz.f260) .e .e) .e) (.n (some Tryz.f196) .e .e)) (.n (some Tryz.f100) (.n (some Tryz.f164) (.n (some Tryz.f292) .e .e) .e) (.n (some Tryz.f228) .e .e))) (.n (some Tryz.f52) (.n (some Tryz.f84) (.n (some Tryz.f148) (.n (some Tryz.f276) .e .e) .e) (.n (some Tryz.f212) .e .e)) (.n (some Tryz.f116) (.n (some Tryz.f180) (.n (some Tryz.f308) .e .e) .e) (.n (some Tryz.f244) .e .e)))) (.n (some Tryz.f28) (.n (some Tryz.f44) (.n (some Tryz.f76) (.n (some Tryz.f140) (.n (some Tryz.f268) .e .e) .e) (.n (some Tryz.f204) .e .e)) (.n (some Tryz.f108) (.n (some Tryz.f172) (.n (some Tryz.f300) .e .e) .e) (.n (some Tryz.f236) .e .e))) (.n (some Tryz.f60) (.n (some Tryz.f92) (.n (some Tryz.f156) (.n (some Tryz.f284) .e .e) .e) (.n (some Tryz.f220) .e .e)) (.n (some Tryz.f124) (.n (some Tryz.f188) (.n (some Tryz.f316) .e .e) .e) (.n (some Tryz.f252) .e .e)))))) (.n (some Tryz.f6) (.n (some Tryz.f10) (.n (some Tryz.f18) (.n (some Tryz.f34) (.n (some Tryz.f66) (.n (some Tryz.f130) (.n (some Tryz.f258) .e .e) .e) (.n (some Tryz.f194) .e .e)) (.n (some Tryz.f98) (.n (some Tryz.f162) (.n (some Tryz.f290) .e .e) .e) (.n (some Tryz.f226) .e .e))) (.n (some Tryz.f50) (.n (some Tryz.f82) (.n (some Tryz.f146) (.n (some Tryz.f274) .e .e) .e) (.n (some Tryz.f210) .e .e)) (.n (some Tryz.f114) (.n (some Tryz.f178) (.n (some Tryz.f306) .e .e) .e) (.n (some Tryz.f242) .e .e)))) (.n (some Tryz.f26) (.n (some Tryz.f42) (.n (some Tryz.f74) (.n (some Tryz.f138) (.n (some Tryz.f266) .e .e) .e) (.n (some Tryz.f202) .e .e)) (.n (some Tryz.f106) (.n (some Tryz.f170) (.n (some Tryz.f298) .e .e) .e) (.n (some Tryz.f234) .e .e))) (.n (some Tryz.f58) (.n (some Tryz.f90) (.n (some Tryz.f154) (.n (some Tryz.f282) .e .e) .e) (.n (some Tryz.f218) .e .e)) (.n (some Tryz.f122) (.n (some Tryz.f186) (.n (some Tryz.f314) .e .e) .e) (.n (some Tryz.f250) .e .e))))) (.n (some Tryz.f14) (.n (some Tryz.f22) (.n (some Tryz.f38) (.n (some Tryz.f70) (.n (some Tryz.f134) (.n (some Tryz.f262) .e .e) .e) (.n (some Tryz.f198) .e .e)) (.n (some Tryz.f102) (.n (some Tryz.f166) (.n (some Tryz.f294) .e .e) .e) (.n (some Tryz.f230) .e .e))) (.n (some Tryz.f54) (.n (some Tryz.f86) (.n (some Tryz.f150) (.n (some Tryz.f278) .e .e) .e) (.n (some Tryz.f214) .e .e)) (.n (some Tryz.f118) (.n (some Tryz.f182) (.n (some Tryz.f310) .e .e) .e) (.n (some Tryz.f246) .e .e)))) (.n (some Tryz.f30) (.n (some Tryz.f46) (.n (some Tryz.f78) (.n (some Tryz.f142) (.n (some Tryz.f270) .e .e) .e) (.n (some Tryz.f206) .e .e)) (.n (some Tryz.f110) (.n (some Tryz.f174) (.n (some Tryz.f302) .e .e) .e) (.n (some Tryz.f238) .e .e))) (.n (some Tryz.f62) (.n (some Tryz.f94) (.n (some Tryz.f158) (.n (some Tryz.f286) .e .e) .e) (.n (some Tryz.f222) .e .e)) (.n (some Tryz.f126) (.n (some Tryz.f190) (.n (some Tryz.f318) .e .e) .e) (.n (some Tryz.f254) .e .e))))))))
theorem zFL:ofL Tryz.prog.types.toList 0 .e=zJi:=by kernel_rfl
theorem zFG:ofL Tryz.prog.funcs.toList 0 .e=zJf:=by kernel_rfl
noncomputable instance:Fast Tryz.prog where
 inf:=zJi
 inf_ok:=fun t i h=>by
  rw [←zFL] at h;rcases zx8 h with ⟨_,h⟩|h
  ·rw [Nat.sub_zero] at h;have hl:=(zNa.1 h).1;rw [Array.length_toList] at hl;show Tables.info? _ t=some i;unfold Tables.info?;rw [if_pos hl, ←Array.getElem?_toList];exact h
  ·rw [T.get_e] at h;cases h
 plain:=false
 fns:=zJf
 fns_ok:=fun t i h=>by
  rw [←zFG] at h;rcases zx8 h with ⟨_,h⟩|h
  ·rw [Nat.sub_zero] at h;rw [←Array.getElem?_toList];exact h
  ·rw [T.get_e] at h;cases h
noncomputable abbrev zp:Fast Tryz.prog:={(inferInstance:Fast Tryz.prog) with plain:=true}
def zM4:List Nat:=[38,79,88,156,158,61,62,63,64,65,124,125,126,127,130,131,134,190,193,195,196,197,198,200,210,222,225,255,256,258,259,268,279,298]
def zzR:Nat→Bool:=fun i=>mem i zM4
theorem tset {P:Program} [Fast P] {tb:T Ctr} {f:Nat} {c:Ctr} (h:∀f c,tb.get f=some c→zi P f c) (hc:zi P f c):∀f' c',(tb.set f c).get f'=some c'→zi P f' c':=fun f' c' e=>by
 rw [T.get_put] at e;split at e
 ·rename_i e';subst e';obtain rfl:=zM8 e;exact hc
 ·exact h f' c' e
theorem zJV:∀f c,(T.e:T Ctr).get f=some c→zi Tryz.prog f c:=fun f c h=>by rw [T.get_e] at h;cases h
theorem zn4:Tryz.prog.follows .mixedOrders=true:=by kernel_rfl
abbrev zjY:Val:=⟨0,0,0⟩
abbrev zMS:Wtr:=⟨0,0,⟨0,0,0⟩⟩
abbrev dIns:Ins:=⟨0,0,0,0,0⟩
abbrev dOb:Ob:=⟨0,[],false,0,[],false,0,0,[],[]⟩
abbrev zzk:Syn:=⟨0,0,0,0,[],0⟩
abbrev zoB:Dfr:=⟨0,[]⟩
abbrev zo:Frm:=⟨0,0,[],0,[],false,⟨0,0,0⟩⟩
abbrev zan:Gor:=⟨0,0,0,[]⟩
abbrev dFnc:Fnc:=⟨ByteArray.empty,0,0,[]⟩
abbrev znW:Glb:=⟨ByteArray.empty,0⟩
def zMT:Nat→Nat→List Nat
 |0,_=>[]
 |f+1,n=>match Nat.ble n 1 with
  |true=>[]
  |false=>Nat.mod n 64::zMT f (Nat.div n 64)
abbrev vI (n:Int):AV:= .lit (.int .i64 n)
abbrev vB (b:Bool):AV:= .lit (.bool b)
abbrev vN:AV:= .lit (.slice none 0 0)
abbrev bV:Bk:=⟨0,[.ver],some 0⟩
abbrev bT (ow:Ow) (t:RT) (xs:List t.ty) (k:Nat):Bk:=⟨0,[.tre ow t xs k],some 0⟩
abbrev bC (t:TypeId) (l:List AV):Bk:=⟨t,l,none⟩
def H (n:Nat):List Nat:=zMT 100000 n
theorem zC6 {α:Type} (a:α):∃x,x=a:=⟨a,rfl⟩
noncomputable def hide {α:Type} (a:α):α:=Classical.choose (zC6 a)
theorem zb {α:Type} (a:α):hide a=a:=Classical.choose_spec (zC6 a)
abbrev uu1.{i} {a:Type} {r:Type i} (f:a→r) (z:a×Unit):r:=f z.1
abbrev uu2.{i} {a b:Type} {r:Type i} (f:a→b→r) (z:a×b×Unit):r:=f z.1 z.2.1
abbrev uu3.{i} {a b c:Type} {r:Type i} (f:a→b→c→r) (z:a×b×c×Unit):r:=f z.1 z.2.1 z.2.2.1
abbrev uu4.{i} {a b c d:Type} {r:Type i} (f:a→b→c→d→r) (z:a×b×c×d×Unit):r:=f z.1 z.2.1 z.2.2.1 z.2.2.2.1
abbrev uu5.{i} {a b c d e:Type} {r:Type i} (f:a→b→c→d→e→r) (z:a×b×c×d×e×Unit):r:=f z.1 z.2.1 z.2.2.1 z.2.2.2.1 z.2.2.2.2.1
abbrev uu6.{i} {a b c d e g:Type} {r:Type i} (f:a→b→c→d→e→g→r) (z:a×b×c×d×e×g×Unit):r:=f z.1 z.2.1 z.2.2.1 z.2.2.2.1 z.2.2.2.2.1 z.2.2.2.2.2.1
abbrev vv1.{i} {p x a:Type} {r:Type i} (f:p→x→a→r) (y:p) (w:x) (z:a×Unit):r:=f y w z.1
abbrev vv2.{i} {p x a b:Type} {r:Type i} (f:p→x→a→b→r) (y:p) (w:x) (z:a×b×Unit):r:=f y w z.1 z.2.1
abbrev vv3.{i} {p x a b c:Type} {r:Type i} (f:p→x→a→b→c→r) (y:p) (w:x) (z:a×b×c×Unit):r:=f y w z.1 z.2.1 z.2.2.1
abbrev vv4.{i} {p x a b c d:Type} {r:Type i} (f:p→x→a→b→c→d→r) (y:p) (w:x) (z:a×b×c×d×Unit):r:=f y w z.1 z.2.1 z.2.2.1 z.2.2.2.1
structure TT where
 t:T Ctr
 ok:∀f c,t.get f=some c→zi Tryz.prog f c
noncomputable def T0:TT:=⟨T.e,zJV⟩
noncomputable def TT.a (t:TT) {f:Nat} {c:Ctr} (h:zi Tryz.prog f c):TT:=⟨t.t.set f c,tset t.ok h⟩
def bd (fn:Func):Code:=fn.body.getD .skip
def noA:Nat→ze5:=fun _=> .no
noncomputable abbrev zs5 (t:TT):zbx:=zAz Tryz.prog t.t zzR 100 30
theorem zJT {f:Nat} {ps:List Pat} {rs:List RM} {o ob:zdW ps→Bool} {s b:zdW ps→Args rs} (fn:Func) (t:TT) (eo:o=ob) (es:s=b) (n0 nt:Nat) (ann:zdW ps→Nat→ze5) (hs:Nat)
  (hlo:∀x,zcU Tryz.prog zzR (zs5 t) nt (wr0 n0) (ann x) 0 (bd fn):=by intro x;exact zm (by kernel_rfl)) (hf:zkY Tryz.prog f=some (fn,bd fn):=by kernel_rfl)
  (hn:∀x,(zoo ps n0 x).2.n≤n0:=by exact fun _=>zNm _) (hnt:nt=Nat.add ps.length (Nat.sub fn.ntmps ps.length):=by rfl)
  (hrun:∀x,zum (zx2 Tryz.prog zzR (zs5 t) nt n0 fn (bd fn) ps rs (ann x) x) (H hs) (zAL rs)=zun (zx2 Tryz.prog zzR (zs5 t) nt n0 fn (bd fn) ps rs (ann x) x) (H hs) (b x) (ob x):=by intro x;kernel_rfl):zAe Tryz.prog f ps rs (fun x=>o x=true) s:=by
 subst eo es;exact zGH (own:=zzR) zn4 (zoq zn4 t.ok zzR 100 30) hf n0 nt hn hnt ann (H hs) hrun hlo
theorem zcS {f:Nat} {ps:List Pat} {rs:List RM} {o ob:zdW ps→Bool} {s b:zdW ps→Args rs} (fn:Func) (t:TT) (eo:o=ob) (es:s=b) (n0 nt:Nat) (ann:zdW ps→Nat→ze5) (hs:Nat)
  (hlo:∀x,zcU Tryz.prog zzR (zs5 t) nt (wr0 n0) (ann x) 0 (bd fn):=by intro x;exact zm (by kernel_rfl)) (hf:zkY Tryz.prog f=some (fn,bd fn):=by kernel_rfl)
  (hn:∀x,(zoo ps n0 x).2.n≤n0:=by exact fun _=>zNm _) (hnt:nt=Nat.add ps.length (Nat.sub fn.ntmps ps.length):=by rfl)
  (hrun:∀x,zum (zx2 Tryz.prog zzR (zs5 t) nt n0 fn (bd fn) ps rs (ann x) x) (H hs) (zAL rs)=zun (zx2 Tryz.prog zzR (zs5 t) nt n0 fn (bd fn) ps rs (ann x) x) (H hs) (b x) (ob x):=by intro x;kernel_rfl):zi Tryz.prog f (zcB ps rs o s):=
 zCD (zJT fn t eo es n0 nt ann hs hlo hf hn hnt hrun) fun _ h=>h
theorem zHu {f:Nat} {ps:List Pat} {rs:List RM} {o ob:Prg→Vmx→zdW ps→Bool} {s b:Prg→Vmx→zdW ps→Vmx×Args rs} (fn:Func) (t:TT) (eo:o=ob) (es:s=b) (n0 nt:Nat) (ann:Prg→Vmx→zdW ps→Nat→ze5) (hs:Nat)
  (hlo:∀p x y,zcU Tryz.prog zzR (zs5 t) nt (wrB n0) (ann p x y) 0 (bd fn):=by intro p x y;exact zm (by kernel_rfl)) (hf:zkY Tryz.prog f=some (fn,bd fn):=by kernel_rfl)
  (hfl:zu3 ps=true:=by kernel_rfl)
  (hn:∀p (y:zdW ps),(zv (zgW true (.st .prg)) 0 ((RT.st .prg).leaves p) (ze0 ps y ⟨.e,1,wrB n0⟩).2).2.n=n0:=by exact fun _ _=>rfl) (hnt:nt=Nat.add (Nat.succ ps.length) (Nat.sub fn.ntmps (Nat.succ ps.length)):=by rfl)
  (hrun:∀p x y,zum (zvx Tryz.prog zzR (zs5 t) nt n0 fn (bd fn) 120 .prg .vmx ps rs (ann p x y) p x y) (H hs) (SN.dflt .vmx,zAL rs)=zun (zvx Tryz.prog zzR (zs5 t) nt n0 fn (bd fn) 120 .prg .vmx ps rs (ann p x y) p x y) (H hs) (b p x y) (ob p x y):=by intro p x y;kernel_rfl):zi Tryz.prog f (zqP 120 .prg .vmx ps rs o s):=by
 subst eo es;exact zFv (zEK (own:=zzR) zn4 (zoq zn4 t.ok zzR 100 30) hf hfl n0 nt hn hnt ann (H hs) hrun hlo) fun _ _ _ h=>h
set_option maxHeartbeats 0
noncomputable def zku (a:Gor) (i0:(List Frm)×Int×Unit):Snap:=⟨[(1, .ptr 3 0),(2, .ptr 4 0),(3, .lw 6 6 [] 9 (List.length (i0.1))),(4,vI (i0.2.1))],[(1,bV),(2,bT .ro (.st .frm) a.frames 1),(3,bC 63 [vI a.state,vI a.fault,vI a.allocs, .lw 2 2 [] 9 a.frames.length]),(4,bC 63 [vI 0,vI 0,vI 0,vN]),(5,bV),(6,bT .all (.st .frm) (i0.1) 5)],7⟩
noncomputable def zkv (a:Gor) (i0:(List Frm)×Int×Unit) (i2:(List Dfr)×Int×Unit):Snap:=⟨[(1, .ptr 3 0),(2, .ptr 4 0),(3, .lw 6 6 [] 9 i0.fst.length),(4,vI i0.snd.fst),(5, .ptr 7 0),(6, .lw 12 12 [] 2 (List.length (i2.1))),(7,vI (i2.2.1))],[(1,bV),(2,bT .ro (.st .frm) a.frames 1),(3,bC 63 [vI a.state,vI a.fault,vI a.allocs, .lw 2 2 [] 9 a.frames.length]),(4,bC 63 [vI 0,vI 0,vI 0,vN]),(5,bV),(6,bT .all (.st .frm) i0.fst 5),(7,bC 134 [vI ((List.getD a.frames (Int.toNat i0.snd.fst) zo).fn),vI ((List.getD a.frames (Int.toNat i0.snd.fst) zo).pc), .lw 10 10 [] 3 (List.length (List.getD a.frames (Int.toNat i0.snd.fst) zo).regs),vI ((List.getD a.frames (Int.toNat i0.snd.fst) zo).dest), .lw 2 1 [(Int.toNat i0.snd.fst,4)] 2 (List.length (List.getD a.frames (Int.toNat i0.snd.fst) zo).defers),vB ((List.getD a.frames (Int.toNat i0.snd.fst) zo).leaving),vI ((List.getD a.frames (Int.toNat i0.snd.fst) zo).result.kind),vI ((List.getD a.frames (Int.toNat i0.snd.fst) zo).result.n),vI ((List.getD a.frames (Int.toNat i0.snd.fst) zo).result.off)]),(9,bV),(10,bT .all (.st .val) (List.getD a.frames (Int.toNat i0.snd.fst) zo).regs 9),(11,bV),(12,bT .all (.st .dfr) (i2.1) 11)],13⟩
noncomputable def ziQ (a:Gor) (i0:(List Frm)×Int×Unit) (u9:(List Dfr)×Unit):Snap:=⟨[(1, .ptr 3 0),(2, .ptr 4 0),(3, .lw 6 6 [] 9 i0.fst.length),(4,vI i0.snd.fst),(5, .ptr 7 0),(6, .lw 14 14 [] 2 (List.length (u9.1)))],[(1,bV),(2,bT .ro (.st .frm) a.frames 1),(3,bC 63 [vI a.state,vI a.fault,vI a.allocs, .lw 2 2 [] 9 a.frames.length]),(4,bC 63 [vI 0,vI 0,vI 0,vN]),(5,bV),(6,bT .all (.st .frm) i0.fst 5),(7,bC 134 [vI ((List.getD a.frames (Int.toNat i0.snd.fst) zo).fn),vI ((List.getD a.frames (Int.toNat i0.snd.fst) zo).pc), .lw 10 10 [] 3 (List.length (List.getD a.frames (Int.toNat i0.snd.fst) zo).regs),vI ((List.getD a.frames (Int.toNat i0.snd.fst) zo).dest), .lw 2 1 [(Int.toNat i0.snd.fst,4)] 2 (List.length (List.getD a.frames (Int.toNat i0.snd.fst) zo).defers),vB ((List.getD a.frames (Int.toNat i0.snd.fst) zo).leaving),vI ((List.getD a.frames (Int.toNat i0.snd.fst) zo).result.kind),vI ((List.getD a.frames (Int.toNat i0.snd.fst) zo).result.n),vI ((List.getD a.frames (Int.toNat i0.snd.fst) zo).result.off)]),(9,bV),(10,bT .all (.st .val) (List.getD a.frames (Int.toNat i0.snd.fst) zo).regs 9),(13,bV),(14,bT .all (.st .dfr) (u9.1) 13)],15⟩
noncomputable def zay (a:Gor) (i0:(List Frm)×Int×Unit) (i2:(List Dfr)×Int×Unit):((List Dfr)×Int×Unit)⊕((List Dfr)×Unit):=let x1:=i2.snd.fst;
let x2:=(List.getD a.frames (Int.toNat i0.snd.fst) zo).defers;
let x3:=(x2.length:Int);
bif decide (x1<x3) then Sum.inl (i2.fst++[List.getD x2 (Int.toNat x1) zoB],IntKind.i64.wrap (x1+(1:Int)),()) else Sum.inr (i2.fst,())
noncomputable def za8 (a:Gor) (i0:(List Frm)×Int×Unit) (i2:(List Dfr)×Int×Unit):Bool:=let x1:=i2.snd.fst;
let x2:=(List.getD a.frames (Int.toNat i0.snd.fst) zo).defers;
let x3:=(x2.length:Int);
let x4:=(i2.fst.length+(1:Nat))*(32:Nat);
let x5:=List.length (List.getD x2 (Int.toNat x1) zoB).args*(24:Nat);
bif decide (x1<x3) then decide ((0:Int)≤x1∧x1<x3)&&(decide (x5≤(140737488355328:Nat))&&decide (x4≤(140737488355328:Nat))) else true
noncomputable def ziP (a:Gor) (u9:(List Frm)×Unit):Snap:=⟨[(1, .ptr 3 0),(2, .ptr 4 0),(3, .lw 8 8 [] 9 (List.length (u9.1)))],[(1,bV),(2,bT .ro (.st .frm) a.frames 1),(3,bC 63 [vI a.state,vI a.fault,vI a.allocs, .lw 2 2 [] 9 a.frames.length]),(4,bC 63 [vI 0,vI 0,vI 0,vN]),(7,bV),(8,bT .all (.st .frm) (u9.1) 7)],9⟩
noncomputable def zax (a:Gor) (i0:(List Frm)×Int×Unit):((List Frm)×Int×Unit)⊕((List Frm)×Unit):=let x1:=i0.snd.fst;
let x2:=List.getD a.frames (Int.toNat x1) zo;
bif decide (x1<(a.frames.length:Int)) then Sum.inl (i0.fst++[Frm.mk x2.fn x2.pc x2.regs x2.dest (zd (zay a i0) ([],()) X_N ([],(0:Int),())).fst x2.leaving x2.result],IntKind.i64.wrap (x1+(1:Int)),()) else Sum.inr (i0.fst,())
noncomputable def za7 (a:Gor) (i0:(List Frm)×Int×Unit):Bool:=let x1:=i0.snd.fst;
let x2:=List.length (List.getD a.frames (Int.toNat x1) zo).regs*(24:Nat);
let x3:=(i0.fst.length+(1:Nat))*(104:Nat);
bif decide (x1<(a.frames.length:Int)) then decide ((0:Int)≤x1∧x1<(a.frames.length:Int))&&(decide (x2≤(140737488355328:Nat))&&(X_wok (zay a i0) (za8 a i0) X_N ([],(0:Int),())&&decide (x3≤(140737488355328:Nat)))) else true
noncomputable def zdy (a:Gor):Gor×Unit:=(Gor.mk a.state a.fault a.allocs (zd (zax a) ([],()) X_N ([],(0:Int),())).fst,())
noncomputable def zdz (a:Gor):Bool:=X_wok (zax a) (za7 a) X_N ([],(0:Int),())
noncomputable def za:=hide zdy
noncomputable def zS:=hide zdz
theorem zfK:za=zdy:=zb _
theorem zfJ:zS=zdz:=zb _
noncomputable def zlp:Ctr:=zcB [.v false (.st .gor)] [.own (.st .gor)] (uu1 zS) (uu1 za)
noncomputable def zlo (a:Gor):Nat→ze5:=fun q=>match q with|0=> .mk [⟨3,none,(.list (.st .frm))⟩,⟨4,none,(.int .i64)⟩] (zku a) [⟨.exit 0,[⟨3,none,(.list (.st .frm))⟩],ziP a⟩] (zax a) (za7 a) (H 0x40000) (fun (i0:(List Frm)×Int×Unit)=>fun q=>match q with|2=> .mk [⟨6,none,(.list (.st .dfr))⟩,⟨7,none,(.int .i64)⟩] (zkv a i0) [⟨.exit 2,[⟨6,none,(.list (.st .dfr))⟩],ziQ a i0⟩] (zay a i0) (za8 a i0) (H 0x43000) (fun (_:(List Dfr)×Int×Unit)=>fun _=> .no)|_=> .no)|_=> .no
theorem zat:zi Tryz.prog 71 zlp:=zcS Tryz.f71 T0 (congrArg uu1 zfJ) (congrArg uu1 zfK) 3 59 (uu1 zlo) 0x40 (fun zz=>zC [(0,(zaP 0 (bd Tryz.f71)))] (by kernel_rfl) ⟨fun _=>⟨by kernel_rfl,zC [(2,(zaP 0 (zaP 0 (bd Tryz.f71))))] (by kernel_rfl) ⟨fun _=>⟨by kernel_rfl,zm (by kernel_rfl)⟩,trivial⟩⟩,trivial⟩)
noncomputable def zyh (a:Prg) (b:Gor) (c:Int) (d:List Val) (e:Int) (i0:(List Val)×Unit):Snap:=⟨[(2,vI c),(5, .ptr 11 0),(6, .ptr 12 0),(10, .ptr 13 0),(12, .ptr 19 0)],[(1,bV),(2,bT .none (.st .fnc) a.funcs 1),(3,bV),(4,bT .none (.st .glb) a.globals 3),(5,bV),(6,bT .none (RT.list (RT.int IntKind.i64)) a.layouts 5),(11,bC 32 [.lw 2 2 [] 4 a.funcs.length, .lw 4 4 [] 2 a.globals.length, .lw 6 6 [] 1 a.layouts.length,vI a.main]),(12,bC 63 [vI ((za b).fst.state),vI ((za b).fst.fault),vI ((za b).fst.allocs), .lw 15 15 [] 9 (List.length (za b).fst.frames)]),(13,bC 63 [vI 0,vI 0,vI 0,vN]),(14,bV),(15,bT (Bool.rec .all .none (Bool.false||Bool.false)) (.st .frm) (za b).fst.frames 14),(19,bC 134 [vI c,vI 0, .lw 21 21 [] 3 (List.length (i0.1)),vI e,vN,vB Bool.false,vI 0,vI 0,vI 0]),(20,bV),(21,bT .all (.st .val) (i0.1) 20)],22⟩
noncomputable def ztN (a:Prg) (b:Gor) (c:Int) (d:List Val) (e:Int) (u9:(List Val)×Unit):Snap:=⟨[(6, .ptr 12 0),(10, .ptr 13 0),(12, .ptr 19 0)],[(12,bC 63 [vI ((za b).fst.state),vI ((za b).fst.fault),vI ((za b).fst.allocs), .lw 15 15 [] 9 (List.length (za b).fst.frames)]),(13,bC 63 [vI 0,vI 0,vI 0,vN]),(14,bV),(15,bT (Bool.rec .all .none (Bool.false||Bool.false)) (.st .frm) (za b).fst.frames 14),(19,bC 134 [vI c,vI 0, .lw 23 23 [] 3 (List.length (u9.1)),vI e,vN,vB Bool.false,vI 0,vI 0,vI 0]),(22,bV),(23,bT .all (.st .val) (u9.1) 22)],24⟩
noncomputable def zd7 (a:Prg) (b:Gor) (c:Int) (d:List Val) (e:Int) (i0:(List Val)×Unit):((List Val)×Unit)⊕((List Val)×Unit):=bif decide ((i0.fst.length:Int)<(List.getD a.funcs (Int.toNat c) dFnc).regs) then Sum.inl (i0.fst++[Val.mk (0:Int) (0:Int) (0:Int)],()) else Sum.inr (i0.fst,())
noncomputable def zfY (a:Prg) (b:Gor) (c:Int) (d:List Val) (e:Int) (i0:(List Val)×Unit):Bool:=let x1:=(i0.fst.length+(1:Nat))*(24:Nat);
decide ((0:Int)≤c∧c<(a.funcs.length:Int))&&bif decide ((i0.fst.length:Int)<(List.getD a.funcs (Int.toNat c) dFnc).regs) then decide (x1≤(140737488355328:Nat)) else true
noncomputable def zmK (a:Prg) (b:Gor) (c:Int) (d:List Val) (e:Int):Gor×Int×Unit:=bif !decide (c<(0:Int)) then bif !decide (c≥(a.funcs.length:Int)) then bif !(d.length:Int) != (List.getD a.funcs (Int.toNat c) dFnc).params then bif decide ((d.length:Int)>(List.getD a.funcs (Int.toNat c) dFnc).regs) then (Gor.mk (0:Int) (0:Int) (0:Int) [],(1:Int),()) else bif decide ((b.frames.length:Int)≥(32:Int)) then (Gor.mk (0:Int) (0:Int) (0:Int) [],(3:Int),()) else (Gor.mk (za b).fst.state (za b).fst.fault (za b).fst.allocs ((za b).fst.frames++[Frm.mk c (0:Int) (zd (zd7 a b c d e) ([],()) X_N (d,())).fst e [] false (Val.mk (0:Int) (0:Int) (0:Int))]),(0:Int),()) else (Gor.mk (0:Int) (0:Int) (0:Int) [],(1:Int),()) else (Gor.mk (0:Int) (0:Int) (0:Int) [],(1:Int),()) else (Gor.mk (0:Int) (0:Int) (0:Int) [],(1:Int),())
noncomputable def zmL (a:Prg) (b:Gor) (c:Int) (d:List Val) (e:Int):Bool:=let x1:=(a.funcs.length:Int);
let x2:=d.length*(24:Nat);
let x3:=(List.length (za b).fst.frames+(1:Nat))*(104:Nat);
bif !decide (c<(0:Int)) then bif !decide (c≥x1) then decide ((0:Int)≤c∧c<x1)&&bif !(d.length:Int) != (List.getD a.funcs (Int.toNat c) dFnc).params then bif decide ((d.length:Int)>(List.getD a.funcs (Int.toNat c) dFnc).regs) then true else bif decide ((b.frames.length:Int)≥(32:Int)) then true else zS b&&(decide (x2≤(140737488355328:Nat))&&(X_wok (zd7 a b c d e) (zfY a b c d e) X_N (d,())&&decide (x3≤(140737488355328:Nat)))) else true else true else true
noncomputable def zbk:=hide zmK
noncomputable def zff:=hide zmL
theorem zpG:zbk=zmK:=zb _
theorem zpF:zff=zmL:=zb _
noncomputable def zBw:Ctr:=zcB [.v true (.st .prg), .v false (.st .gor), .v false (.int .i64), .v false (.list (.st .val)), .v false (.int .i64)] [.own (.st .gor), .own (.int .i64)] (uu5 zff) (uu5 zbk)
noncomputable def zBv (a:Prg) (b:Gor) (c:Int) (d:List Val) (e:Int):Nat→ze5:=fun q=>match q with|0=> .mk [⟨12,some 2,(.list (.st .val))⟩] (zyh a b c d e) [⟨.exit 0,[⟨12,some 2,(.list (.st .val))⟩],ztN a b c d e⟩] (zd7 a b c d e) (zfY a b c d e) (H 0x1000) (fun (_:(List Val)×Unit)=>fun _=> .no)|_=> .no
noncomputable def zBx:TT:=T0.a zat
theorem ziU:zi Tryz.prog 28 zBw:=zcS Tryz.f28 zBx (congrArg uu5 zpF) (congrArg uu5 zpG) 11 81 (uu5 zBv) 0x1041082082082082081082082082082081082082041082082082082081082082082082041082082082082000000081041101041041002041040041041040081041040 (fun zz=>zC [(0,(zaP 0 (bd Tryz.f28)))] (by kernel_rfl) ⟨fun _=>⟨by kernel_rfl,zm (by kernel_rfl)⟩,trivial⟩)
noncomputable def zfL (a:Ob):Ob×Unit:=(a,())
noncomputable def zfM (a:Ob):Bool:=let x1:=a.queue.length*(24:Nat);
let x2:=a.cells_.length*(24:Nat);
let x3:=a.receivers.length*(40:Nat);
let x4:=a.senders.length*(40:Nat);
decide (x2≤(140737488355328:Nat))&&(decide (x1≤(140737488355328:Nat))&&(decide (x4≤(140737488355328:Nat))&&decide (x3≤(140737488355328:Nat))))
noncomputable def zaG:=hide zfL
noncomputable def za9:=hide zfM
theorem zia:zaG=zfL:=zb _
theorem zh9:za9=zfM:=zb _
noncomputable def zpl:Ctr:=zcB [.v false (.st .ob)] [.own (.st .ob)] (uu1 za9) (uu1 zaG)
theorem zd6:zi Tryz.prog 72 zpl:=zcS Tryz.f72 T0 (congrArg uu1 zh9) (congrArg uu1 zia) 9 24 (fun _=>noA) 0
noncomputable def zBn (a:Mac) (i0:Int×(List Ob)×Unit):Snap:=⟨[(1, .ptr 9 0),(2, .ptr 10 0),(3, .ptr 14 0),(4,vI (i0.1))],[(1,bV),(2,bT .ro (.st .ob) a.objects 1),(3,bV),(4,bT .ro (.st .syn) a.syncs 3),(5,bV),(6,bT .ro (.st .gor) a.goroutines 5),(7,bV),(8,bT .ro (RT.int IntKind.i64) a.output 7),(9,bC 38 [.lw 2 2 [] 10 a.objects.length, .lw 4 4 [] 6 a.syncs.length, .lw 6 6 [] 4 a.goroutines.length, .lw 8 8 [] 1 a.output.length]),(10,bC 38 [vN,vN,vN,vN]),(12,bV),(13,bT .all (RT.int IntKind.i64) a.output 12),(14,bC 38 [.lw 16 16 [] 10 (List.length (i0.2.1)),vN,vN, .lw 13 13 [] 1 a.output.length]),(15,bV),(16,bT .all (.st .ob) (i0.2.1) 15)],17⟩
noncomputable def zvS (a:Mac) (u9:(List Ob)×Unit):Snap:=⟨[(1, .ptr 9 0),(2, .ptr 10 0),(3, .ptr 14 0)],[(1,bV),(2,bT .ro (.st .ob) a.objects 1),(3,bV),(4,bT .ro (.st .syn) a.syncs 3),(5,bV),(6,bT .ro (.st .gor) a.goroutines 5),(7,bV),(8,bT .ro (RT.int IntKind.i64) a.output 7),(9,bC 38 [.lw 2 2 [] 10 a.objects.length, .lw 4 4 [] 6 a.syncs.length, .lw 6 6 [] 4 a.goroutines.length, .lw 8 8 [] 1 a.output.length]),(10,bC 38 [vN,vN,vN,vN]),(12,bV),(13,bT .all (RT.int IntKind.i64) a.output 12),(14,bC 38 [.lw 18 18 [] 10 (List.length (u9.1)),vN,vN, .lw 13 13 [] 1 a.output.length]),(17,bV),(18,bT .all (.st .ob) (u9.1) 17)],19⟩
noncomputable def zaL (a:Mac) (i0:Int×(List Ob)×Unit):(Int×(List Ob)×Unit)⊕((List Ob)×Unit):=let x1:=i0.fst;
bif decide (x1<(a.objects.length:Int)) then Sum.inl (IntKind.i64.wrap (x1+(1:Int)),i0.snd.fst++[(zaG (List.getD a.objects (Int.toNat x1) dOb)).fst],()) else Sum.inr (i0.snd.fst,())
noncomputable def zhi (a:Mac) (i0:Int×(List Ob)×Unit):Bool:=let x1:=i0.fst;
let x2:=(i0.snd.fst.length+(1:Nat))*(144:Nat);
bif decide (x1<(a.objects.length:Int)) then decide ((0:Int)≤x1∧x1<(a.objects.length:Int))&&(za9 (List.getD a.objects (Int.toNat x1) dOb)&&decide (x2≤(140737488355328:Nat))) else true
noncomputable def zBo (a:Mac) (i2:Int×(List Syn)×Unit):Snap:=⟨[(1, .ptr 9 0),(2, .ptr 10 0),(3, .ptr 14 0),(5,vI (i2.1))],[(1,bV),(2,bT .ro (.st .ob) a.objects 1),(3,bV),(4,bT .ro (.st .syn) a.syncs 3),(5,bV),(6,bT .ro (.st .gor) a.goroutines 5),(7,bV),(8,bT .ro (RT.int IntKind.i64) a.output 7),(9,bC 38 [.lw 2 2 [] 10 a.objects.length, .lw 4 4 [] 6 a.syncs.length, .lw 6 6 [] 4 a.goroutines.length, .lw 8 8 [] 1 a.output.length]),(10,bC 38 [vN,vN,vN,vN]),(12,bV),(13,bT .all (RT.int IntKind.i64) a.output 12),(14,bC 38 [.lw 18 18 [] 10 (List.length (zd (zaL a) ([],()) X_N (0,[],())).fst), .lw 20 20 [] 6 (List.length (i2.2.1)),vN, .lw 13 13 [] 1 a.output.length]),(17,bV),(18,bT .all (.st .ob) (zd (zaL a) ([],()) X_N (0,[],())).fst 17),(19,bV),(20,bT .all (.st .syn) (i2.2.1) 19)],21⟩
noncomputable def zvT (a:Mac) (u9:(List Syn)×Unit):Snap:=⟨[(1, .ptr 9 0),(2, .ptr 10 0),(3, .ptr 14 0)],[(1,bV),(2,bT .ro (.st .ob) a.objects 1),(3,bV),(4,bT .ro (.st .syn) a.syncs 3),(5,bV),(6,bT .ro (.st .gor) a.goroutines 5),(7,bV),(8,bT .ro (RT.int IntKind.i64) a.output 7),(9,bC 38 [.lw 2 2 [] 10 a.objects.length, .lw 4 4 [] 6 a.syncs.length, .lw 6 6 [] 4 a.goroutines.length, .lw 8 8 [] 1 a.output.length]),(10,bC 38 [vN,vN,vN,vN]),(12,bV),(13,bT .all (RT.int IntKind.i64) a.output 12),(14,bC 38 [.lw 18 18 [] 10 (List.length (zd (zaL a) ([],()) X_N (0,[],())).fst), .lw 22 22 [] 6 (List.length (u9.1)),vN, .lw 13 13 [] 1 a.output.length]),(17,bV),(18,bT .all (.st .ob) (zd (zaL a) ([],()) X_N (0,[],())).fst 17),(21,bV),(22,bT .all (.st .syn) (u9.1) 21)],23⟩
noncomputable def zcq (a:Mac) (i2:Int×(List Syn)×Unit):(Int×(List Syn)×Unit)⊕((List Syn)×Unit):=let x1:=i2.fst;
bif decide (x1<(a.syncs.length:Int)) then Sum.inl (IntKind.i64.wrap (x1+(1:Int)),i2.snd.fst++[List.getD a.syncs (Int.toNat x1) zzk],()) else Sum.inr (i2.snd.fst,())
noncomputable def zhj (a:Mac) (i2:Int×(List Syn)×Unit):Bool:=let x1:=i2.fst;
let x2:=List.length (List.getD a.syncs (Int.toNat x1) zzk).readers*(8:Nat);
let x3:=(i2.snd.fst.length+(1:Nat))*(64:Nat);
bif decide (x1<(a.syncs.length:Int)) then decide ((0:Int)≤x1∧x1<(a.syncs.length:Int))&&(decide (x2≤(140737488355328:Nat))&&decide (x3≤(140737488355328:Nat))) else true
noncomputable def zBp (a:Mac) (i4:Int×(List Gor)×Unit):Snap:=⟨[(1, .ptr 9 0),(2, .ptr 10 0),(3, .ptr 14 0),(7,vI (i4.1))],[(1,bV),(2,bT .ro (.st .ob) a.objects 1),(3,bV),(4,bT .ro (.st .syn) a.syncs 3),(5,bV),(6,bT .ro (.st .gor) a.goroutines 5),(7,bV),(8,bT .ro (RT.int IntKind.i64) a.output 7),(9,bC 38 [.lw 2 2 [] 10 a.objects.length, .lw 4 4 [] 6 a.syncs.length, .lw 6 6 [] 4 a.goroutines.length, .lw 8 8 [] 1 a.output.length]),(10,bC 38 [vN,vN,vN,vN]),(12,bV),(13,bT .all (RT.int IntKind.i64) a.output 12),(14,bC 38 [.lw 18 18 [] 10 (List.length (zd (zaL a) ([],()) X_N (0,[],())).fst), .lw 22 22 [] 6 (List.length (zd (zcq a) ([],()) X_N (0,[],())).fst), .lw 24 24 [] 4 (List.length (i4.2.1)), .lw 13 13 [] 1 a.output.length]),(17,bV),(18,bT .all (.st .ob) (zd (zaL a) ([],()) X_N (0,[],())).fst 17),(21,bV),(22,bT .all (.st .syn) (zd (zcq a) ([],()) X_N (0,[],())).fst 21),(23,bV),(24,bT .all (.st .gor) (i4.2.1) 23)],25⟩
noncomputable def zvU (a:Mac) (u9:(List Gor)×Unit):Snap:=⟨[(2, .ptr 10 0),(3, .ptr 14 0)],[(10,bC 38 [vN,vN,vN,vN]),(12,bV),(13,bT .all (RT.int IntKind.i64) a.output 12),(14,bC 38 [.lw 18 18 [] 10 (List.length (zd (zaL a) ([],()) X_N (0,[],())).fst), .lw 22 22 [] 6 (List.length (zd (zcq a) ([],()) X_N (0,[],())).fst), .lw 26 26 [] 4 (List.length (u9.1)), .lw 13 13 [] 1 a.output.length]),(17,bV),(18,bT .all (.st .ob) (zd (zaL a) ([],()) X_N (0,[],())).fst 17),(21,bV),(22,bT .all (.st .syn) (zd (zcq a) ([],()) X_N (0,[],())).fst 21),(25,bV),(26,bT .all (.st .gor) (u9.1) 25)],27⟩
noncomputable def zfb (a:Mac) (i4:Int×(List Gor)×Unit):(Int×(List Gor)×Unit)⊕((List Gor)×Unit):=let x1:=i4.fst;
bif decide (x1<(a.goroutines.length:Int)) then Sum.inl (IntKind.i64.wrap (x1+(1:Int)),i4.snd.fst++[(za (List.getD a.goroutines (Int.toNat x1) zan)).fst],()) else Sum.inr (i4.snd.fst,())
noncomputable def zhk (a:Mac) (i4:Int×(List Gor)×Unit):Bool:=let x1:=i4.fst;
let x2:=(i4.snd.fst.length+(1:Nat))*(48:Nat);
bif decide (x1<(a.goroutines.length:Int)) then decide ((0:Int)≤x1∧x1<(a.goroutines.length:Int))&&(zS (List.getD a.goroutines (Int.toNat x1) zan)&&decide (x2≤(140737488355328:Nat))) else true
noncomputable def zpm (a:Mac):Mac×Unit:=(Mac.mk (zd (zaL a) ([],()) X_N ((0:Int),[],())).fst (zd (zcq a) ([],()) X_N ((0:Int),[],())).fst (zd (zfb a) ([],()) X_N ((0:Int),[],())).fst a.output,())
noncomputable def zpn (a:Mac):Bool:=let x1:=a.output.length*(8:Nat);
decide (x1≤(140737488355328:Nat))&&(X_wok (zaL a) (zhi a) X_N ((0:Int),[],())&&(X_wok (zcq a) (zhj a) X_N ((0:Int),[],())&&X_wok (zfb a) (zhk a) X_N ((0:Int),[],())))
noncomputable def zj:=hide zpm
noncomputable def zdA:=hide zpn
theorem zr2:zj=zpm:=zb _
theorem zr1:zdA=zpn:=zb _
noncomputable def zDT:Ctr:=zcB [.v false (.st .mac)] [.own (.st .mac)] (uu1 zdA) (uu1 zj)
noncomputable def zDS (a:Mac):Nat→ze5:=fun q=>match q with|0=> .mk [⟨4,none,(.int .i64)⟩,⟨3,some 0,(.list (.st .ob))⟩] (zBn a) [⟨.exit 0,[⟨3,some 0,(.list (.st .ob))⟩],zvS a⟩] (zaL a) (zhi a) (H 0x40000) (fun (_:Int×(List Ob)×Unit)=>fun _=> .no)|2=> .mk [⟨5,none,(.int .i64)⟩,⟨3,some 1,(.list (.st .syn))⟩] (zBo a) [⟨.exit 2,[⟨3,some 1,(.list (.st .syn))⟩],zvT a⟩] (zcq a) (zhj a) (H 0x1000) (fun (_:Int×(List Syn)×Unit)=>fun _=> .no)|4=> .mk [⟨7,none,(.int .i64)⟩,⟨3,some 2,(.list (.st .gor))⟩] (zBp a) [⟨.exit 4,[⟨3,some 2,(.list (.st .gor))⟩],zvU a⟩] (zfb a) (zhk a) (H 0x40000) (fun (_:Int×(List Gor)×Unit)=>fun _=> .no)|_=> .no
noncomputable def zDU:TT:=(T0.a zat).a zd6
theorem zfN:zi Tryz.prog 30 zDT:=zcS Tryz.f30 zDU (congrArg uu1 zr1) (congrArg uu1 zr2) 9 73 (uu1 zDS) 0x40000 (fun zz=>zC [(0,(zaP 0 (bd Tryz.f30))),(2,(zaP 1 (bd Tryz.f30))),(4,(zaP 2 (bd Tryz.f30)))] (by kernel_rfl) ⟨fun _=>⟨by kernel_rfl,zm (by kernel_rfl)⟩,⟨fun _=>⟨by kernel_rfl,zm (by kernel_rfl)⟩,⟨fun _=>⟨by kernel_rfl,zm (by kernel_rfl)⟩,trivial⟩⟩⟩)
noncomputable def ziV (a:Prg) (b:Mac) (c:Int):Ins×Bool×Unit:=let x1:=List.getD (List.getD b.goroutines (Int.toNat c) zan).frames (Int.toNat (IntKind.i64.wrap ((↑(List.length (List.getD b.goroutines (Int.toNat c) zan).frames):Int) - (1:Int)))) zo;
let x2:=x1.fn;
let x3:=x1.pc;
let x4:=(List.getD a.funcs (Int.toNat x2) dFnc).code;
let x5:=(x4.length:Int);
bif !decide (c<(0:Int)) then bif !decide (c≥(b.goroutines.length:Int)) then bif !(List.getD b.goroutines (Int.toNat c) zan).state != (0:Int) then bif (↑(List.length (List.getD b.goroutines (Int.toNat c) zan).frames):Int)==(0:Int) then (Ins.mk (0:Int) (0:Int) (0:Int) (0:Int) (0:Int),false,()) else bif !decide (x2<(0:Int)) then bif !decide (x2≥(a.funcs.length:Int)) then bif !decide (x3<(0:Int)) then bif decide (x3≥x5) then (Ins.mk (0:Int) (0:Int) (0:Int) (0:Int) (0:Int),false,()) else (List.getD x4 (Int.toNat x3) dIns,true,()) else (Ins.mk (0:Int) (0:Int) (0:Int) (0:Int) (0:Int),false,()) else (Ins.mk (0:Int) (0:Int) (0:Int) (0:Int) (0:Int),false,()) else (Ins.mk (0:Int) (0:Int) (0:Int) (0:Int) (0:Int),false,()) else (Ins.mk (0:Int) (0:Int) (0:Int) (0:Int) (0:Int),false,()) else (Ins.mk (0:Int) (0:Int) (0:Int) (0:Int) (0:Int),false,()) else (Ins.mk (0:Int) (0:Int) (0:Int) (0:Int) (0:Int),false,())
noncomputable def ziW (a:Prg) (b:Mac) (c:Int):Bool:=let x1:=(a.funcs.length:Int);
let x2:=(b.goroutines.length:Int);
let x3:=(↑(List.length (List.getD b.goroutines (Int.toNat c) zan).frames):Int);
let x4:=IntKind.i64.wrap (x3 - (1:Int));
let x5:=List.getD (List.getD b.goroutines (Int.toNat c) zan).frames (Int.toNat x4) zo;
let x6:=x5.pc;
let x7:=x5.fn;
let x8:=(↑(List.length (List.getD a.funcs (Int.toNat x7) dFnc).code):Int);
bif !decide (c<(0:Int)) then bif !decide (c≥x2) then decide ((0:Int)≤c∧c<x2)&&bif !(List.getD b.goroutines (Int.toNat c) zan).state != (0:Int) then bif x3==(0:Int) then true else decide ((0:Int)≤x4∧x4<x3)&&bif !decide (x7<(0:Int)) then bif !decide (x7≥x1) then bif !decide (x6<(0:Int)) then decide ((0:Int)≤x7∧x7<x1)&&bif decide (x6≥x8) then true else decide ((0:Int)≤x6∧x6<x8) else true else true else true else true else true else true
noncomputable def zcM:=hide ziV
noncomputable def zgo:=hide ziW
theorem zhU:zcM=ziV:=zb _
theorem zhT:zgo=ziW:=zb _
noncomputable def zv9:Ctr:=zcB [.v true (.st .prg), .v false (.st .mac), .v false (.int .i64)] [.own (.st .ins), .own (.bool)] (uu3 zgo) (uu3 zcM)
theorem zqX:zi Tryz.prog 73 zv9:=zcS Tryz.f73 T0 (congrArg uu3 zhT) (congrArg uu3 zhU) 15 95 (fun _=>noA) 0x1041082082082082042082082082042082081042082082082081082082082041082082082081042082082082082082042082042082082041082082082082082081082041082082082082082004002041041001041041040081040081041041000145002041041101041002041040041040081041040
open Go Go.Proofs.YtiepllpgifnloaaGreat.Vx
theorem zdS {n k:Nat} (h:n≤BIG+1) (hk:k≤200):decide (n*k≤140737488355328)=true:=by
 have hB:n≤68719476737:=h;have:n*k≤68719476737*200:=Nat.mul_le_mul hB hk;exact decide_eq_true (by omega)
theorem zaj {i n:Nat} (h:i<n):decide ((0:Int)≤(i:Int)∧(i:Int)<(n:Int))=true:=decide_eq_true ⟨by omega,by omega⟩
theorem zcI {i n:Nat} (h:i<n):decide ((i:Int)<(n:Int))=true:=decide_eq_true (by omega)
theorem zcV {n:Nat}:decide ((n:Int)<(n:Int))=false:=decide_eq_false (by omega)
theorem zgl {α:Type} (l:List α):l.map (fun x=>x)=l:=List.map_id' l
theorem zde {o:Ob} (h:zB5 BIG o):za9 o=true∧zaG o=(o,()):=by
 obtain ⟨h1,h2,h3,h4⟩:=h;rw [zia,zh9];unfold zfL zfM;refine ⟨?_,rfl⟩;simp only [zdS (Nat.le_succ_of_le h1) (show 24≤200 by decide),zdS (Nat.le_succ_of_le h2) (show 24≤200 by decide),zdS (Nat.le_succ_of_le h3) (show 40≤200 by decide),zdS (Nat.le_succ_of_le h4) (show 40≤200 by decide),Bool.and_self]
theorem zuk {N:Nat} {l:List Frm} (h:∀f∈l,zgU N f) {i:Nat} (hi:i<l.length):zgU N (l.getD i zo):=h _ (getD_mem hi)
theorem zah {g:Gor} (h:zaW BIG g):zS g=true∧za g=(g,()):=by
 obtain ⟨h1,h2⟩:=h;rw [zfK,zfJ];unfold zdy zdz;have key:=zsA (l:=g.frames) (d0:=zo) (f:=fun x=>x) (step:=zax g) (ok:=za7 g) (d:=([],())) h1
  (fun i acc hi ha=>by
   have hf:=zuk h2 hi;have inner:=zsA (l:=(g.frames.getD i zo).defers) (d0:=zoB) (f:=fun x=>x) (step:=zay g (acc,(i:Int),())) (ok:=za8 g (acc,(i:Int),())) (d:=([],())) hf.2.1
    (fun j ac hj hac=>by
     have hd:zGJ BIG ((g.frames.getD i zo).defers.getD j zoB):=hf.2.2 _ (getD_mem hj);unfold zay za8;simp only [Int.toNat_natCast,zcI hj,zaj hj,cond_true,Bool.true_and];refine ⟨by trivial,?_⟩
     rw [zdS (Nat.le_succ_of_le hd) (by decide),zdS (by rw [hac];exact Nat.succ_le_succ (Nat.le_of_lt (zNd hj hf.2.1))) (by decide)]
     rfl)
    (fun ac=>by
     unfold zay za8;simp only [Int.toNat_natCast,zcV,cond_false,and_self])
   unfold zax za7;simp only [Int.toNat_natCast,zcI hi,zaj hi,cond_true,Bool.true_and,inner.1,inner.2,zgl];refine ⟨by trivial,?_⟩
   rw [zdS (Nat.le_succ_of_le hf.1) (by decide),zdS (by rw [ha];exact Nat.succ_le_succ (Nat.le_of_lt (zNd hi h1))) (by decide)]
   rfl)
  (fun acc=>by
   unfold zax za7;simp only [zcV,cond_false,and_self])
 rw [key.1,key.2,zgl];exact ⟨rfl,rfl⟩
theorem zfa {m:Mac} (h:zau BIG m):zdA m=true∧zj m=(m,()):=by
 obtain ⟨⟨h1,h2⟩,⟨h3,h4⟩,⟨h5,h6⟩,h7⟩:=h;rw [zr2,zr1];unfold zpm zpn;have k0:=zrp (l:=m.objects) (d0:=dOb) (f:=fun x=>x) (step:=zaL m) (ok:=zhi m) (d:=([],())) h1
  (fun i acc hi ha=>by
   have hc:=zde (h2 (m.objects.getD i dOb) (getD_mem hi));unfold zaL zhi;simp only [Int.toNat_natCast,zcI hi,zaj hi,cond_true,Bool.true_and,hc.1,hc.2];exact ⟨by trivial,zdS (by rw [ha];exact Nat.succ_le_succ (Nat.le_of_lt (zNd hi h1))) (by decide)⟩)
  (fun acc=>by
   unfold zaL zhi;simp only [zcV,cond_false,and_self])
 have k2:=zrp (l:=m.syncs) (d0:=zzk) (f:=fun x=>x) (step:=zcq m) (ok:=zhj m) (d:=([],())) h3
  (fun i acc hi ha=>by
   have hc:zGK BIG (m.syncs.getD i zzk):=h4 _ (getD_mem hi);unfold zcq zhj;simp only [Int.toNat_natCast,zcI hi,zaj hi,cond_true,Bool.true_and];refine ⟨by trivial,?_⟩
   rw [zdS (Nat.le_succ_of_le hc) (by decide),zdS (by rw [ha];exact Nat.succ_le_succ (Nat.le_of_lt (zNd hi h3))) (by decide)]
   rfl)
  (fun acc=>by
   unfold zcq zhj;simp only [zcV,cond_false,and_self])
 have k4:=zrp (l:=m.goroutines) (d0:=zan) (f:=fun x=>x) (step:=zfb m) (ok:=zhk m) (d:=([],())) h5
  (fun i acc hi ha=>by
   have hc:=zah (h6 (m.goroutines.getD i zan) (getD_mem hi));unfold zfb zhk;simp only [Int.toNat_natCast,zcI hi,zaj hi,cond_true,Bool.true_and,hc.1,hc.2];exact ⟨by trivial,zdS (by rw [ha];exact Nat.succ_le_succ (Nat.le_of_lt (zNd hi h5))) (by decide)⟩)
  (fun acc=>by
   unfold zfb zhk;simp only [zcV,cond_false,and_self])
 rw [k0.1,k0.2,k2.1,k2.2,k4.1,k4.2,zgl,zgl,zgl];exact ⟨by simp only [zdS (Nat.le_succ_of_le h7) (show 8≤200 by decide),Bool.and_self],rfl⟩
noncomputable def ziM (a:Int):Bool×Unit:=bif !a==(31:Int) then bif !a==(32:Int) then bif decide (a≥(33:Int)) then bif !decide (a≤(50:Int)) then (a==(52:Int),()) else (true,()) else (a==(52:Int),()) else (true,()) else (true,())
noncomputable def znm (a:Int):Bool:=true
noncomputable def zey:=hide ziM
noncomputable def zgn:=hide znm
theorem zlm:zey=ziM:=zb _
theorem zll:zgn=znm:=zb _
noncomputable def zvO:Ctr:=zcB [.v false (.int .i64)] [.own (.bool)] (uu1 zgn) (uu1 zey)
theorem zqS:zi Tryz.prog 74 zvO:=zcS Tryz.f74 T0 (congrArg uu1 zll) (congrArg uu1 zlm) 1 21 (fun _=>noA) 0x1042081082082082042042081082082082041082042042081002041040041002040
noncomputable def zp3 (a:Mac) (b:Int) (c:Gor):Mac×Unit:=(Mac.mk (zj a).fst.objects (zj a).fst.syncs (List.set (zj a).fst.goroutines (Int.toNat b) (za c).fst) (zj a).fst.output,())
noncomputable def zp4 (a:Mac) (b:Int) (c:Gor):Bool:=zdA a&&(zS c&&decide ((0:Int)≤b∧b<(↑(List.length (zj a).fst.goroutines):Int)))
noncomputable def zaT:=hide zp3
noncomputable def zcn:=hide zp4
theorem zsh:zaT=zp3:=zb _
theorem zsg:zcn=zp4:=zb _
noncomputable def zD9:Ctr:=zcB [.v false (.st .mac), .v false (.int .i64), .v false (.st .gor)] [.own (.st .mac)] (uu3 zcn) (uu3 zaT)
noncomputable def zEa:TT:=(T0.a zat).a zfN
theorem zhY:zi Tryz.prog 137 zD9:=zcS Tryz.f137 zEa (congrArg uu3 zsg) (congrArg uu3 zsh) 11 17 (fun _=>noA) 0x40000
noncomputable def zpM (a:Mac) (b:Int) (c:Int):Mac×Unit:=((zaT a b (Gor.mk (3:Int) c (List.getD a.goroutines (Int.toNat b) zan).allocs (List.getD a.goroutines (Int.toNat b) zan).frames)).fst,())
noncomputable def zpN (a:Mac) (b:Int) (c:Int):Bool:=decide ((0:Int)≤b∧b<(a.goroutines.length:Int))&&zcn a b (Gor.mk (3:Int) c (List.getD a.goroutines (Int.toNat b) zan).allocs (List.getD a.goroutines (Int.toNat b) zan).frames)
noncomputable def zK:=hide zpM
noncomputable def zbb:=hide zpN
theorem zsc:zK=zpM:=zb _
theorem zsb:zbb=zpN:=zb _
noncomputable def zD5:Ctr:=zcB [.v false (.st .mac), .v false (.int .i64), .v false (.int .i64)] [.own (.st .mac)] (uu3 zbb) (uu3 zK)
noncomputable def zD6:TT:=T0.a zhY
theorem zf0:zi Tryz.prog 75 zD5:=zcS Tryz.f75 zD6 (congrArg uu3 zsb) (congrArg uu3 zsc) 9 20 (fun _=>noA) 0x1000
noncomputable def ztQ (a:Gor) (b:Int):Val×Unit:=let x1:=(List.getD a.frames (Int.toNat (IntKind.i64.wrap ((a.frames.length:Int) - (1:Int)))) zo).regs;
let x2:=(x1.length:Int);
bif (a.frames.length:Int)==(0:Int) then (Val.mk (0:Int) (0:Int) (0:Int),()) else bif !decide (b<(0:Int)) then bif decide (b≥x2) then (Val.mk (0:Int) (0:Int) (0:Int),()) else (List.getD x1 (Int.toNat b) zjY,()) else (Val.mk (0:Int) (0:Int) (0:Int),())
noncomputable def ztR (a:Gor) (b:Int):Bool:=let x1:=(a.frames.length:Int);
let x2:=IntKind.i64.wrap (x1 - (1:Int));
let x3:=(↑(List.length (List.getD a.frames (Int.toNat x2) zo).regs):Int);
bif x1==(0:Int) then true else decide ((0:Int)≤x2∧x2<x1)&&bif !decide (b<(0:Int)) then bif decide (b≥x3) then true else decide ((0:Int)≤b∧b<x3) else true
noncomputable def zZ:=hide ztQ
noncomputable def zek:=hide ztR
theorem zv4:zZ=ztQ:=zb _
theorem zv3:zek=ztR:=zb _
noncomputable def zGr:Ctr:=zcB [.v false (.st .gor), .v false (.int .i64)] [.own (.st .val)] (uu2 zek) (uu2 zZ)
theorem zmO:zi Tryz.prog 67 zGr:=zcS Tryz.f67 T0 (congrArg uu2 zv3) (congrArg uu2 zv4) 3 34 (fun _=>noA) 0x1041082082000081041040000
noncomputable def zpO (a:Mac) (b:Int) (c:Int):Mac×Unit:=let x1:=List.getD (zj a).fst.goroutines (Int.toNat b) zan;
let x2:=x1.frames;
let x3:=Int.toNat (IntKind.i64.wrap ((x2.length:Int) - (1:Int)));
let x4:=List.getD x2 x3 zo;
(Mac.mk (zj a).fst.objects (zj a).fst.syncs (List.set (zj a).fst.goroutines (Int.toNat b) (Gor.mk x1.state x1.fault x1.allocs (List.set x2 x3 (Frm.mk x4.fn c x4.regs x4.dest x4.defers x4.leaving x4.result)))) (zj a).fst.output,())
noncomputable def zpP (a:Mac) (b:Int) (c:Int):Bool:=let x1:=(↑(List.length (List.getD (zj a).fst.goroutines (Int.toNat b) zan).frames):Int);
let x2:=IntKind.i64.wrap (x1 - (1:Int));
zdA a&&(decide ((0:Int)≤b∧b<(↑(List.length (zj a).fst.goroutines):Int))&&decide ((0:Int)≤x2∧x2<x1))
noncomputable def zbL:=hide zpO
noncomputable def zcm:=hide zpP
theorem zse:zbL=zpO:=zb _
theorem zsd:zcm=zpP:=zb _
noncomputable def zD7:Ctr:=zcB [.v false (.st .mac), .v false (.int .i64), .v false (.int .i64)] [.own (.st .mac)] (uu3 zcm) (uu3 zbL)
noncomputable def zD8:TT:=T0.a zfN
theorem zkC:zi Tryz.prog 91 zD7:=zcS Tryz.f91 zD8 (congrArg uu3 zsd) (congrArg uu3 zse) 9 25 (fun _=>noA) 0x40000
noncomputable def zys (a:Mac) (b:Int):Int×Unit:=((List.getD (List.getD a.goroutines (Int.toNat b) zan).frames (Int.toNat (IntKind.i64.wrap ((↑(List.length (List.getD a.goroutines (Int.toNat b) zan).frames):Int) - (1:Int)))) zo).pc,())
noncomputable def zyt (a:Mac) (b:Int):Bool:=let x1:=(↑(List.length (List.getD a.goroutines (Int.toNat b) zan).frames):Int);
let x2:=IntKind.i64.wrap (x1 - (1:Int));
decide ((0:Int)≤b∧b<(a.goroutines.length:Int))&&decide ((0:Int)≤x2∧x2<x1)
noncomputable def zhX:=hide zys
noncomputable def zi6:=hide zyt
theorem zzW:zhX=zys:=zb _
theorem zzV:zi6=zyt:=zb _
noncomputable def zIi:Ctr:=zcB [.v false (.st .mac), .v false (.int .i64)] [.own (.int .i64)] (uu2 zi6) (uu2 zhX)
theorem zpX:zi Tryz.prog 92 zIi:=zcS Tryz.f92 T0 (congrArg uu2 zzV) (congrArg uu2 zzW) 9 19 (fun _=>noA) 0x1000
noncomputable def zi4 (a:Val):Int×Unit:=bif a.kind==(0:Int) then (a.n,()) else ((0:Int),())
noncomputable def zi5 (a:Val):Bool:=true
noncomputable def zg:=hide zi4
noncomputable def zbr:=hide zi5
theorem zlG:zg=zi4:=zb _
theorem zlF:zbr=zi5:=zb _
noncomputable def zwh:Ctr:=zcB [.v false (.st .val)] [.own (.int .i64)] (uu1 zbr) (uu1 zg)
theorem zgH:zi Tryz.prog 93 zwh:=zcS Tryz.f93 T0 (congrArg uu1 zlF) (congrArg uu1 zlG) 1 8 (fun _=>noA) 0x40
noncomputable def zzT (a:Int):Val×Unit:=(Val.mk (0:Int) a (0:Int),())
noncomputable def zzU (a:Int):Bool:=true
noncomputable def zaM:=hide zzT
noncomputable def zb7:=hide zzU
theorem zwj:zaM=zzT:=zb _
theorem zwi:zb7=zzU:=zb _
noncomputable def zGu:Ctr:=zcB [.v false (.int .i64)] [.own (.st .val)] (uu1 zb7) (uu1 zaM)
theorem zjN:zi Tryz.prog 138 zGu:=zcS Tryz.f138 T0 (congrArg uu1 zwi) (congrArg uu1 zwj) 1 5 (fun _=>noA) 0
noncomputable def zBq (a:Mac) (b:Int) (i0:Int×Unit):Snap:=⟨[(1,vI b),(2, .ptr 9 0),(4, .ptr 10 0),(6,vI (i0.1))],[(1,bV),(2,bT .ro (.st .ob) a.objects 1),(3,bV),(4,bT .ro (.st .syn) a.syncs 3),(5,bV),(6,bT .ro (.st .gor) a.goroutines 5),(7,bV),(8,bT .ro (RT.int IntKind.i64) a.output 7),(9,bC 38 [.lw 2 2 [] 10 a.objects.length, .lw 4 4 [] 6 a.syncs.length, .lw 6 6 [] 4 a.goroutines.length, .lw 8 8 [] 1 a.output.length]),(10,bC 80 [vI 0,vN,vB Bool.false,vI 0,vN,vB Bool.false,vI 0,vI 0,vN,vN])],11⟩
noncomputable def zvV (a:Mac) (b:Int) (u9:Unit):Snap:=⟨[(4, .ptr 10 0)],[(10,bC 80 [vI 0,vN,vB Bool.false,vI 0,vN,vB Bool.false,vI 0,vI 0,vN,vN])],11⟩
noncomputable def zvW (a:Mac) (b:Int) (u9:Bool×Int×(List Val)×Bool×Int×(List Val)×Bool×Int×Int×(List Wtr)×(List Wtr)×Unit):Snap:=⟨[(4, .ptr 10 0),(5,vB (u9.1))],[(10,bC 80 [vI (u9.2.1), .lw 20 20 [] 3 (List.length (u9.2.2.1)),vB (u9.2.2.2.1),vI (u9.2.2.2.2.1), .lw 22 22 [] 3 (List.length (u9.2.2.2.2.2.1)),vB (u9.2.2.2.2.2.2.1),vI (u9.2.2.2.2.2.2.2.1),vI (u9.2.2.2.2.2.2.2.2.1), .lw 24 24 [] 5 (List.length (u9.2.2.2.2.2.2.2.2.2.1)), .lw 26 26 [] 5 (List.length (u9.2.2.2.2.2.2.2.2.2.2.1))]),(19,bV),(20,bT .all (.st .val) (u9.2.2.1) 19),(21,bV),(22,bT .all (.st .val) (u9.2.2.2.2.2.1) 21),(23,bV),(24,bT .all (.st .wtr) (u9.2.2.2.2.2.2.2.2.2.1) 23),(25,bV),(26,bT .all (.st .wtr) (u9.2.2.2.2.2.2.2.2.2.2.1) 25)],27⟩
noncomputable def zfc (a:Mac) (b:Int) (i0:Int×Unit):(Int×Unit)⊕(Bool×(Unit)×(Bool×Int×(List Val)×Bool×Int×(List Val)×Bool×Int×Int×(List Wtr)×(List Wtr)×Unit)):=let x1:=(zaG (List.getD a.objects (Int.toNat i0.fst) dOb)).fst;
bif decide (i0.fst<(a.objects.length:Int)) then bif (List.getD a.objects (Int.toNat i0.fst) dOb).id==b then Sum.inr (false,(),true,x1.id,x1.cells_,x1.chan,x1.cap,x1.queue,x1.closed,x1.sent,x1.received,x1.senders,x1.receivers,()) else Sum.inl (IntKind.i64.wrap (i0.fst+(1:Int)),()) else Sum.inr (true,(),false,(0:Int),[],false,(0:Int),[],false,(0:Int),(0:Int),[],[],())
noncomputable def zhl (a:Mac) (b:Int) (i0:Int×Unit):Bool:=bif decide (i0.fst<(a.objects.length:Int)) then decide ((0:Int)≤i0.fst∧i0.fst<(a.objects.length:Int))&&bif (List.getD a.objects (Int.toNat i0.fst) dOb).id==b then za9 (List.getD a.objects (Int.toNat i0.fst) dOb) else true else true
noncomputable def zpo (a:Mac) (b:Int):Ob×Bool×Unit:=let y1:=zd (zfc a b) (false,(),false,(0:Int),[],false,(0:Int),[],false,(0:Int),(0:Int),[],[],()) X_N ((0:Int),());
bif y1.fst then (Ob.mk (0:Int) [] false (0:Int) [] false (0:Int) (0:Int) [] [],false,()) else (Ob.mk y1.snd.snd.snd.fst y1.snd.snd.snd.snd.fst y1.snd.snd.snd.snd.snd.fst y1.snd.snd.snd.snd.snd.snd.fst y1.snd.snd.snd.snd.snd.snd.snd.fst y1.snd.snd.snd.snd.snd.snd.snd.snd.fst y1.snd.snd.snd.snd.snd.snd.snd.snd.snd.fst y1.snd.snd.snd.snd.snd.snd.snd.snd.snd.snd.fst y1.snd.snd.snd.snd.snd.snd.snd.snd.snd.snd.snd.fst y1.snd.snd.snd.snd.snd.snd.snd.snd.snd.snd.snd.snd.fst,y1.snd.snd.fst,())
noncomputable def zpp (a:Mac) (b:Int):Bool:=X_wok (zfc a b) (zhl a b) X_N ((0:Int),())
noncomputable def zaS:=hide zpo
noncomputable def zfO:=hide zpp
theorem zr4:zaS=zpo:=zb _
theorem zr3:zfO=zpp:=zb _
noncomputable def zDW:Ctr:=zcB [.v false (.st .mac), .v false (.int .i64)] [.own (.st .ob), .own (.bool)] (uu2 zfO) (uu2 zaS)
noncomputable def zDV (a:Mac) (b:Int):Nat→ze5:=fun q=>match q with|0=> .mk [⟨6,none,(.int .i64)⟩] (zBq a b) [⟨.exit 0,[],zvV a b⟩,⟨.ret,[⟨5,none, .bool⟩,⟨4,some 0,(.int .i64)⟩,⟨4,some 1,(.list (.st .val))⟩,⟨4,some 2, .bool⟩,⟨4,some 3,(.int .i64)⟩,⟨4,some 4,(.list (.st .val))⟩,⟨4,some 5, .bool⟩,⟨4,some 6,(.int .i64)⟩,⟨4,some 7,(.int .i64)⟩,⟨4,some 8,(.list (.st .wtr))⟩,⟨4,some 9,(.list (.st .wtr))⟩],zvW a b⟩] (zfc a b) (zhl a b) (H 0x40100000) (fun (_:Int×Unit)=>fun _=> .no)|_=> .no
noncomputable def zDX:TT:=T0.a zd6
theorem zkw:zi Tryz.prog 139 zDW:=zcS Tryz.f139 zDX (congrArg uu2 zr3) (congrArg uu2 zr4) 9 29 (uu2 zDV) 0x1000 (fun zz=>zC [(0,(zaP 0 (bd Tryz.f139)))] (by kernel_rfl) ⟨fun _=>⟨by kernel_rfl,zm (by kernel_rfl)⟩,trivial⟩)
noncomputable def zmW (a:Mac) (b:Val) (c:Int):Val×Int×Unit:=let x1:=(↑(List.length (zaS a b.n).fst.cells_):Int);
bif b.kind != (2:Int) then (b,(1:Int),()) else bif !!(zaS a b.n).snd.fst then bif (zaS a b.n).fst.chan then (b,(1:Int),()) else bif !decide (c<(0:Int)) then bif decide (c≥x1) then (b,(2:Int),()) else (Val.mk (2:Int) b.n c,(0:Int),()) else (b,(2:Int),()) else (b,(1:Int),())
noncomputable def zmX (a:Mac) (b:Val) (c:Int):Bool:=bif b.kind != (2:Int) then true else zfO a b.n
noncomputable def zbl:=hide zmW
noncomputable def zfh:=hide zmX
theorem zpZ:zbl=zmW:=zb _
theorem zpY:zfh=zmX:=zb _
noncomputable def zBI:Ctr:=zcB [.v false (.st .mac), .v false (.st .val), .v false (.int .i64)] [.own (.st .val), .own (.int .i64)] (uu3 zfh) (uu3 zbl)
noncomputable def zBJ:TT:=T0.a zkw
theorem zwn:zi Tryz.prog 140 zBI:=zcS Tryz.f140 zBJ (congrArg uu3 zpY) (congrArg uu3 zpZ) 9 42 (fun _=>noA) 0x1041081042082080081041040002040000
noncomputable def zmz (a:Mac) (b:Val):Ob×Int×Unit:=let x1:=(zaS a b.n).fst;
let x2:=(x1.cells_.length:Int);
bif b.kind != (2:Int) then (Ob.mk (0:Int) [] false (0:Int) [] false (0:Int) (0:Int) [] [],(1:Int),()) else bif !!(zaS a b.n).snd.fst then bif x1.chan then (Ob.mk (0:Int) [] false (0:Int) [] false (0:Int) (0:Int) [] [],(1:Int),()) else bif !decide (b.off<(0:Int)) then bif decide (b.off≥x2) then (Ob.mk (0:Int) [] false (0:Int) [] false (0:Int) (0:Int) [] [],(2:Int),()) else (x1,(0:Int),()) else (Ob.mk (0:Int) [] false (0:Int) [] false (0:Int) (0:Int) [] [],(2:Int),()) else (Ob.mk (0:Int) [] false (0:Int) [] false (0:Int) (0:Int) [] [],(1:Int),())
noncomputable def zmA (a:Mac) (b:Val):Bool:=bif b.kind != (2:Int) then true else zfO a b.n
noncomputable def zcW:=hide zmz
noncomputable def zjI:=hide zmA
theorem zpk:zcW=zmz:=zb _
theorem zpj:zjI=zmA:=zb _
noncomputable def zBl:Ctr:=zcB [.v false (.st .mac), .v false (.st .val)] [.own (.st .ob), .own (.int .i64)] (uu2 zjI) (uu2 zcW)
noncomputable def zBm:TT:=T0.a zkw
theorem zvR:zi Tryz.prog 77 zBl:=zcS Tryz.f77 zBm (congrArg uu2 zpj) (congrArg uu2 zpk) 9 39 (fun _=>noA) 0x1041081042082082002041041040002040000
noncomputable def zpq (a:Mac) (b:Val):Val×Int×Unit:=bif (zcW a b).snd.fst != (0:Int) then (Val.mk (0:Int) (0:Int) (0:Int),(zcW a b).snd.fst,()) else (List.getD (zcW a b).fst.cells_ (Int.toNat b.off) zjY,(zcW a b).snd.fst,())
noncomputable def zps (a:Mac) (b:Val):Bool:=let x1:=(↑(List.length (zcW a b).fst.cells_):Int);
zjI a b&&bif (zcW a b).snd.fst != (0:Int) then true else decide ((0:Int)≤b.off∧b.off<x1)
noncomputable def zcg:=hide zpq
noncomputable def zhm:=hide zps
theorem zr7:zcg=zpq:=zb _
theorem zr6:zhm=zps:=zb _
noncomputable def zDY:Ctr:=zcB [.v false (.st .mac), .v false (.st .val)] [.own (.st .val), .own (.int .i64)] (uu2 zhm) (uu2 zcg)
noncomputable def zDZ:TT:=T0.a zvR
theorem zpr:zi Tryz.prog 141 zDY:=zcS Tryz.f141 zDZ (congrArg uu2 zr6) (congrArg uu2 zr7) 9 25 (fun _=>noA) 0x40000
noncomputable def zp5 (a:Int):Val×Unit:=bif a==(1:Int) then (Val.mk (1:Int) (0:Int) (0:Int),()) else (Val.mk (0:Int) (0:Int) (0:Int),())
noncomputable def zp6 (a:Int):Bool:=true
noncomputable def zlI:=hide zp5
noncomputable def zlH:=hide zp6
theorem zsk:zlI=zp5:=zb _
theorem zsj:zlH=zp6:=zb _
noncomputable def zEb:Ctr:=zcB [.v false (.int .i64)] [.own (.st .val)] (uu1 zlH) (uu1 zlI)
theorem zyv:zi Tryz.prog 86 zEb:=zcS Tryz.f86 T0 (congrArg uu1 zsj) (congrArg uu1 zsk) 1 7 (fun _=>noA) 0x40
noncomputable def zyk (a:List Int) (i0:(List Val)×Int×Unit):Snap:=⟨[(0, .lw 2 2 [] 1 a.length),(3, .lw 4 4 [] 3 (List.length (i0.1))),(4,vI (i0.2.1))],[(1,bV),(2,bT .ro (RT.int IntKind.i64) a 1),(3,bV),(4,bT .all (.st .val) (i0.1) 3)],5⟩
noncomputable def ztU (a:List Int) (u9:(List Val)×Unit):Snap:=⟨[(3, .lw 6 6 [] 3 (List.length (u9.1)))],[(5,bV),(6,bT .all (.st .val) (u9.1) 5)],7⟩
noncomputable def zd8 (a:List Int) (i0:(List Val)×Int×Unit):((List Val)×Int×Unit)⊕((List Val)×Unit):=let x1:=i0.snd.fst;
bif decide (x1<(a.length:Int)) then Sum.inl (i0.fst++[(zlI (List.getD a (Int.toNat x1) (0:Int))).fst],IntKind.i64.wrap (x1+(1:Int)),()) else Sum.inr (i0.fst,())
noncomputable def zfZ (a:List Int) (i0:(List Val)×Int×Unit):Bool:=let x1:=i0.snd.fst;
let x2:=(i0.fst.length+(1:Nat))*(24:Nat);
bif decide (x1<(a.length:Int)) then decide ((0:Int)≤x1∧x1<(a.length:Int))&&(zlH (List.getD a (Int.toNat x1) (0:Int))&&decide (x2≤(140737488355328:Nat))) else true
noncomputable def zmP (a:List Int):(List Val)×Unit:=((zd (zd8 a) ([],()) X_N ([],(0:Int),())).fst,())
noncomputable def zmQ (a:List Int):Bool:=X_wok (zd8 a) (zfZ a) X_N ([],(0:Int),())
noncomputable def zht:=hide zmP
noncomputable def zjJ:=hide zmQ
theorem zpL:zht=zmP:=zb _
theorem zpK:zjJ=zmQ:=zb _
noncomputable def zBC:Ctr:=zcB [.v false (.list (.int .i64))] [.own (.list (.st .val))] (uu1 zjJ) (uu1 zht)
noncomputable def zBB (a:List Int):Nat→ze5:=fun q=>match q with|0=> .mk [⟨3,none,(.list (.st .val))⟩,⟨4,none,(.int .i64)⟩] (zyk a) [⟨.exit 0,[⟨3,none,(.list (.st .val))⟩],ztU a⟩] (zd8 a) (zfZ a) (H 0x40000) (fun (_:(List Val)×Int×Unit)=>fun _=> .no)|_=> .no
noncomputable def zBD:TT:=T0.a zyv
theorem zv8:zi Tryz.prog 41 zBC:=zcS Tryz.f41 zBD (congrArg uu1 zpK) (congrArg uu1 zpL) 3 20 (uu1 zBB) 0x40 (fun zz=>zC [(0,(zaP 0 (bd Tryz.f41)))] (by kernel_rfl) ⟨fun _=>⟨by kernel_rfl,zm (by kernel_rfl)⟩,trivial⟩)
noncomputable def zpT (a:Gor) (b:Int) (c:Int) (i0:(List Val)×Int×Unit):Snap:=⟨[(1,vI b),(2,vI c),(3, .ptr 3 0),(7, .lw 5 5 [] 3 (List.length (i0.1))),(8,vI (i0.2.1))],[(1,bV),(2,bT .ro (.st .frm) a.frames 1),(3,bC 63 [vI a.state,vI a.fault,vI a.allocs, .lw 2 2 [] 9 a.frames.length]),(4,bV),(5,bT .all (.st .val) (i0.1) 4)],6⟩
noncomputable def zmT (a:Gor) (b:Int) (c:Int) (u9:(List Val)×Unit):Snap:=⟨[(7, .lw 7 7 [] 3 (List.length (u9.1)))],[(6,bV),(7,bT .all (.st .val) (u9.1) 6)],8⟩
noncomputable def zbM (a:Gor) (b:Int) (c:Int) (i0:(List Val)×Int×Unit):((List Val)×Int×Unit)⊕((List Val)×Unit):=let x1:=i0.snd.fst;
bif decide (x1<c) then Sum.inl (i0.fst++[(zZ a (IntKind.i64.wrap (b+x1))).fst],IntKind.i64.wrap (x1+(1:Int)),()) else Sum.inr (i0.fst,())
noncomputable def zcO (a:Gor) (b:Int) (c:Int) (i0:(List Val)×Int×Unit):Bool:=let x1:=i0.snd.fst;
let x2:=(i0.fst.length+(1:Nat))*(24:Nat);
bif decide (x1<c) then zek a (IntKind.i64.wrap (b+x1))&&decide (x2≤(140737488355328:Nat)) else true
noncomputable def zgD (a:Gor) (b:Int) (c:Int):(List Val)×Unit:=((zd (zbM a b c) ([],()) X_N ([],(0:Int),())).fst,())
noncomputable def zgE (a:Gor) (b:Int) (c:Int):Bool:=X_wok (zbM a b c) (zcO a b c) X_N ([],(0:Int),())
noncomputable def r23arguments_s:=hide zgD
noncomputable def zbu:=hide zgE
theorem ziY:r23arguments_s=zgD:=zb _
theorem ziX:zbu=zgE:=zb _
noncomputable def zq1:Ctr:=zcB [.v false (.st .gor), .v false (.int .i64), .v false (.int .i64)] [.own (.list (.st .val))] (uu3 zbu) (uu3 r23arguments_s)
noncomputable def zq0 (a:Gor) (b:Int) (c:Int):Nat→ze5:=fun q=>match q with|0=> .mk [⟨7,none,(.list (.st .val))⟩,⟨8,none,(.int .i64)⟩] (zpT a b c) [⟨.exit 0,[⟨7,none,(.list (.st .val))⟩],zmT a b c⟩] (zbM a b c) (zcO a b c) (H 0x1000) (fun (_:(List Val)×Int×Unit)=>fun _=> .no)|_=> .no
noncomputable def zq2:TT:=T0.a zmO
theorem zih:zi Tryz.prog 144 zq1:=zcS Tryz.f144 zq2 (congrArg uu3 ziX) (congrArg uu3 ziY) 3 23 (uu3 zq0) 0x40 (fun zz=>zC [(0,(zaP 0 (bd Tryz.f144)))] (by kernel_rfl) ⟨fun _=>⟨by kernel_rfl,zm (by kernel_rfl)⟩,trivial⟩)
noncomputable def ztS (a:Gor) (b:Int) (c:Val):Gor×Unit:=let x1:=(↑(List.length (za a).fst.frames):Int);
let x2:=Int.toNat (IntKind.i64.wrap (x1 - (1:Int)));
let x3:=List.getD (za a).fst.frames x2 zo;
let x4:=x3.regs;
let x5:=(x4.length:Int);
bif decide (x1>(0:Int)) then bif decide (b≥(0:Int)) then bif decide (b<x5) then (Gor.mk (za a).fst.state (za a).fst.fault (za a).fst.allocs (List.set (za a).fst.frames x2 (Frm.mk x3.fn x3.pc (List.set x4 (Int.toNat b) c) x3.dest x3.defers x3.leaving x3.result)),()) else ((za a).fst,()) else ((za a).fst,()) else ((za a).fst,())
noncomputable def ztT (a:Gor) (b:Int) (c:Val):Bool:=let x1:=(↑(List.length (za a).fst.frames):Int);
let x2:=IntKind.i64.wrap (x1 - (1:Int));
let x3:=(↑(List.length (List.getD (za a).fst.frames (Int.toNat x2) zo).regs):Int);
zS a&&bif decide (x1>(0:Int)) then decide ((0:Int)≤x2∧x2<x1)&&bif decide (b≥(0:Int)) then bif decide (b<x3) then decide ((0:Int)≤b∧b<x3) else true else true else true
noncomputable def zhS:=hide ztS
noncomputable def zlB:=hide ztT
theorem zv7:zhS=ztS:=zb _
theorem zv6:zlB=ztT:=zb _
noncomputable def zGs:Ctr:=zcB [.v false (.st .gor), .v false (.int .i64), .v false (.st .val)] [.own (.st .gor)] (uu3 zlB) (uu3 zhS)
noncomputable def zGt:TT:=T0.a zat
theorem zsa:zi Tryz.prog 29 zGs:=zcS Tryz.f29 zGt (congrArg uu3 zv6) (congrArg uu3 zv7) 3 37 (fun _=>noA) 0x42082082080001041041000000
noncomputable def zt1 (a:Mac) (b:Int) (c:Int) (d:Val):Mac×Unit:=let x1:=(zaT a b (zhS (List.getD a.goroutines (Int.toNat b) zan) c d).fst).fst;
((zbL x1 b (IntKind.i64.wrap ((zhX x1 b).fst+(1:Int)))).fst,())
noncomputable def zt2 (a:Mac) (b:Int) (c:Int) (d:Val):Bool:=let x1:=(zaT a b (zhS (List.getD a.goroutines (Int.toNat b) zan) c d).fst).fst;
decide ((0:Int)≤b∧b<(a.goroutines.length:Int))&&(zlB (List.getD a.goroutines (Int.toNat b) zan) c d&&(zcn a b (zhS (List.getD a.goroutines (Int.toNat b) zan) c d).fst&&(zi6 x1 b&&zcm x1 b (IntKind.i64.wrap ((zhX x1 b).fst+(1:Int))))))
noncomputable def zaf:=hide zt1
noncomputable def zbs:=hide zt2
theorem zwm:zaf=zt1:=zb _
theorem zwl:zbs=zt2:=zb _
noncomputable def zGv:Ctr:=zcB [.v false (.st .mac), .v false (.int .i64), .v false (.int .i64), .v false (.st .val)] [.own (.st .mac)] (uu4 zbs) (uu4 zaf)
noncomputable def zGw:TT:=(((T0.a zhY).a zkC).a zpX).a zsa
theorem zsf:zi Tryz.prog 149 zGv:=zcS Tryz.f149 zGw (congrArg uu4 zwl) (congrArg uu4 zwm) 9 27 (fun _=>noA) 0x40000000
noncomputable def zD0 (a:Mac) (b:Ob) (i0:(List Ob)×Bool×Int×Unit):Snap:=⟨[(3, .ptr 18 0),(4, .ptr 19 0),(5, .ptr 28 0),(6, .lw 30 30 [] 10 (List.length (i0.1))),(7,vB (i0.2.1)),(8,vI (i0.2.2.1))],[(9,bV),(10,bT .ro (.st .val) b.cells_ 9),(11,bV),(12,bT .ro (.st .val) b.queue 11),(13,bV),(14,bT .ro (.st .wtr) b.senders 13),(15,bV),(16,bT .ro (.st .wtr) b.receivers 15),(18,bC 80 [vI b.id, .lw 10 10 [] 3 b.cells_.length,vB b.chan,vI b.cap, .lw 12 12 [] 3 b.queue.length,vB b.closed,vI b.sent,vI b.received, .lw 14 14 [] 5 b.senders.length, .lw 16 16 [] 5 b.receivers.length]),(19,bC 38 [vN,vN,vN,vN]),(20,bV),(21,bT (Bool.rec .all .none (Bool.false||Bool.true)) (.st .ob) (zj a).fst.objects 20),(22,bV),(23,bT (Bool.rec .all .none (Bool.false||Bool.false)) (.st .syn) (zj a).fst.syncs 22),(24,bV),(25,bT (Bool.rec .all .none (Bool.false||Bool.false)) (.st .gor) (zj a).fst.goroutines 24),(26,bV),(27,bT (Bool.rec .all .none (Bool.false||Bool.false)) (RT.int IntKind.i64) (zj a).fst.output 26),(28,bC 38 [.lw 21 21 [] 10 (List.length (zj a).fst.objects), .lw 23 23 [] 6 (List.length (zj a).fst.syncs), .lw 25 25 [] 4 (List.length (zj a).fst.goroutines), .lw 27 27 [] 1 (List.length (zj a).fst.output)]),(29,bV),(30,bT .top (.st .ob) (i0.1) 29)],31⟩
noncomputable def zye (a:Mac) (b:Ob) (u9:(List Ob)×Bool×Unit):Snap:=⟨[(3, .ptr 18 0),(4, .ptr 19 0),(5, .ptr 28 0),(6, .lw 32 32 [] 10 (List.length (u9.1))),(7,vB (u9.2.1))],[(9,bV),(10,bT .ro (.st .val) b.cells_ 9),(11,bV),(12,bT .ro (.st .val) b.queue 11),(13,bV),(14,bT .ro (.st .wtr) b.senders 13),(15,bV),(16,bT .ro (.st .wtr) b.receivers 15),(18,bC 80 [vI b.id, .lw 10 10 [] 3 b.cells_.length,vB b.chan,vI b.cap, .lw 12 12 [] 3 b.queue.length,vB b.closed,vI b.sent,vI b.received, .lw 14 14 [] 5 b.senders.length, .lw 16 16 [] 5 b.receivers.length]),(19,bC 38 [vN,vN,vN,vN]),(20,bV),(21,bT (Bool.rec .all .none (Bool.false||Bool.true)) (.st .ob) (zj a).fst.objects 20),(22,bV),(23,bT (Bool.rec .all .none (Bool.false||Bool.false)) (.st .syn) (zj a).fst.syncs 22),(24,bV),(25,bT (Bool.rec .all .none (Bool.false||Bool.false)) (.st .gor) (zj a).fst.goroutines 24),(26,bV),(27,bT (Bool.rec .all .none (Bool.false||Bool.false)) (RT.int IntKind.i64) (zj a).fst.output 26),(28,bC 38 [.lw 21 21 [] 10 (List.length (zj a).fst.objects), .lw 23 23 [] 6 (List.length (zj a).fst.syncs), .lw 25 25 [] 4 (List.length (zj a).fst.goroutines), .lw 27 27 [] 1 (List.length (zj a).fst.output)]),(31,bV),(32,bT .top (.st .ob) (u9.1) 31)],33⟩
noncomputable def zda (a:Mac) (b:Ob) (i0:(List Ob)×Bool×Int×Unit):((List Ob)×Bool×Int×Unit)⊕((List Ob)×Bool×Unit):=let x1:=i0.fst;
let x2:=i0.snd.fst;
let x3:=i0.snd.snd.fst;
let x4:=List.getD (zj a).fst.objects (Int.toNat x3) dOb;
let x5:=x4.id;
let x6:=x1++[(zaG b).fst];
let x7:=[x4];
let x8:=x5 != b.id;
bif decide (x3<(↑(List.length (zj a).fst.objects):Int)) then bif !x2 then bif decide (x5≥b.id) then bif x8 then Sum.inl (x6++x7,true,IntKind.i64.wrap (x3+(1:Int)),()) else Sum.inl (x6,true,IntKind.i64.wrap (x3+(1:Int)),()) else bif x8 then Sum.inl (x1++x7,x2,IntKind.i64.wrap (x3+(1:Int)),()) else Sum.inl (x1,x2,IntKind.i64.wrap (x3+(1:Int)),()) else bif x8 then Sum.inl (x1++x7,x2,IntKind.i64.wrap (x3+(1:Int)),()) else Sum.inl (x1,x2,IntKind.i64.wrap (x3+(1:Int)),()) else Sum.inr (x1,x2,())
noncomputable def ziR (a:Mac) (b:Ob) (i0:(List Ob)×Bool×Int×Unit):Bool:=let x1:=i0.snd.snd.fst;
let x2:=(List.getD (zj a).fst.objects (Int.toNat x1) dOb).id;
let x3:=x2 != b.id;
let x4:=(i0.fst.length+(1:Nat))*(144:Nat);
let x5:=(List.length (i0.fst++[(zaG b).fst])+(1:Nat))*(144:Nat);
let x6:=decide (x4≤(140737488355328:Nat));
let x7:=bif x3 then x6 else true;
let x8:=decide ((0:Int)≤x1∧x1<(↑(List.length (zj a).fst.objects):Int));
bif decide (x1<(↑(List.length (zj a).fst.objects):Int)) then bif !i0.snd.fst then x8&&bif decide (x2≥b.id) then za9 b&&(x6&&bif x3 then decide (x5≤(140737488355328:Nat)) else true) else x7 else x8&&x7 else true
noncomputable def ztL (a:Mac) (b:Ob):Mac×Unit:=let x1:=(zd (zda a b) ([],false,()) X_N ([],false,(0:Int),())).fst;
bif !(zd (zda a b) ([],false,()) X_N ([],false,(0:Int),())).snd.fst then (Mac.mk (x1++[(zaG b).fst]) (zj a).fst.syncs (zj a).fst.goroutines (zj a).fst.output,()) else (Mac.mk x1 (zj a).fst.syncs (zj a).fst.goroutines (zj a).fst.output,())
noncomputable def ztM (a:Mac) (b:Ob):Bool:=let x1:=(List.length (zd (zda a b) ([],false,()) X_N ([],false,(0:Int),())).fst+(1:Nat))*(144:Nat);
zdA a&&(X_wok (zda a b) (ziR a b) X_N ([],false,(0:Int),())&&bif !(zd (zda a b) ([],false,()) X_N ([],false,(0:Int),())).snd.fst then za9 b&&decide (x1≤(140737488355328:Nat)) else true)
noncomputable def zlq:=hide ztL
noncomputable def zoa:=hide ztM
theorem zvY:zlq=ztL:=zb _
theorem zvX:zoa=ztM:=zb _
noncomputable def zGp:Ctr:=zcB [.v false (.st .mac), .v false (.st .ob)] [.own (.st .mac)] (uu2 zoa) (uu2 zlq)
noncomputable def zGo (a:Mac) (b:Ob):Nat→ze5:=fun q=>match q with|0=> .mk [⟨6,none,(.list (.st .ob))⟩,⟨7,none, .bool⟩,⟨8,none,(.int .i64)⟩] (zD0 a b) [⟨.exit 0,[⟨6,none,(.list (.st .ob))⟩,⟨7,none, .bool⟩],zye a b⟩] (zda a b) (ziR a b) (H 0x44000082082082082082140106005000041041041001041000) (fun (_:(List Ob)×Bool×Int×Unit)=>fun _=> .no)|_=> .no
noncomputable def zGq:TT:=(T0.a zd6).a zfN
theorem zBr:zi Tryz.prog 155 zGp:=zcS Tryz.f155 zGq (congrArg uu2 zvX) (congrArg uu2 zvY) 17 63 (uu2 zGo) 0x1000000 (fun zz=>zC [(0,(zaP 0 (bd Tryz.f155)))] (by kernel_rfl) ⟨fun _=>⟨by kernel_rfl,zm (by kernel_rfl)⟩,trivial⟩)
theorem zc4:BIG=68719476736:=rfl
theorem zb0 {n:Nat} (h:n≤BIG) (h0:0<n):IntKind.i64.wrap ((n:Int) - (1:Int))=((n - 1:Nat):Int):=by
 have hB:n≤68719476736:=h;rw [zav (by omega) (by omega)];omega
theorem zbq {i n:Nat} (h:i<n):decide ((0:Int)≤(i:Int)∧(i:Int)<(n:Int))=true:=zaj h
def topK (g:Gor):Frm:=g.frames.getD (g.frames.length - 1) zo
def zbX (g:Gor) (f:Frm):Gor:=⟨g.state,g.fault,g.allocs,g.frames.set (g.frames.length - 1) f⟩
def inR {α:Type} (l:List α) (r:Int):Bool:=decide ((0:Int)≤r∧r<(l.length:Int))
def zac (g:Gor) (r:Int):Val:=bif g.frames.isEmpty then zjY else bif inR (topK g).regs r then (topK g).regs.getD r.toNat zjY else zjY
def zai (m:Mac) (k:Nat) (x:Gor):Mac:=⟨m.objects,m.syncs,m.goroutines.set k x,m.output⟩
def gorK (m:Mac) (k:Nat):Gor:=m.goroutines.getD k zan
def pcF (f:Frm) (pc:Int):Frm:=⟨f.fn,pc,f.regs,f.dest,f.defers,f.leaving,f.result⟩
def zk8 (m:Mac) (k:Nat) (pc:Int):Mac:=zai m k (zbX (gorK m k) (pcF (topK (gorK m k)) pc))
def zds (m:Mac) (k:Nat) (fault:Int):Mac:=zai m k ⟨3,fault,(gorK m k).allocs,(gorK m k).frames⟩
def zz2 (f:Frm) (r:Int) (v:Val):Frm:=bif inR f.regs r then ⟨f.fn,f.pc,f.regs.set r.toNat v,f.dest,f.defers,f.leaving,f.result⟩ else f
def zir (g:Gor) (r:Int) (v:Val):Gor:=zbX g (zz2 (topK g) r v)
theorem zaN (r:Int) (n:Nat):(r<0)∨((n:Int)≤r)∨(0≤r∧r<(n:Int)):=by omega
theorem zpJ {g:Gor} {r:Int} (h:g.frames.length≤BIG):zek g r=true∧zZ g r=(zac g r,()):=by
 rw [zv4,zv3];unfold ztQ ztR zac topK inR;rcases zNl g.frames.length with h0|h0
 ·have e:g.frames=[]:=zNj.1 h0;simp [e]
 ·have e1:g.frames.isEmpty=false:=by
   cases hf:g.frames with
   |nil=>rw [hf] at h0;simp at h0
   |cons a l=>rfl
  have e2:((g.frames.length:Int)==0)=false:=by simp;intro e;rw [e] at h0;simp at h0
  simp only [zb0 h h0,Int.toNat_natCast,e1,e2,cond_false,zbq (show g.frames.length - 1<g.frames.length by omega),Bool.true_and]
  generalize (g.frames.getD (g.frames.length - 1) zo).regs=R;rcases zaN r R.length with h1|h1|⟨h1,h2⟩
  ·simp [h1,show ¬(0≤r) by omega]
  ·simp [h1,show ¬r<0 by omega,show ¬(r<(R.length:Int)) by omega]
  ·simp [h1,h2,show ¬r<0 by omega,show ¬(R.length:Int)≤r by omega]
theorem zcD {m:Mac} {k:Nat} {N:Nat} (h:zau N m) (hk:k<m.goroutines.length):zaW N (gorK m k):=h.2.2.1.2 _ (getD_mem hk)
theorem zhv {m:Mac} {k:Nat} {x:Gor} (h:zau BIG m) (hx:zaW BIG x) (hk:k<m.goroutines.length):zcn m k x=true∧zaT m k x=(zai m k x,()):=by
 rw [zsh,zsg];unfold zp3 zp4;have h1:=zfa h;have h2:=zah hx;simp only [h1.1,h1.2,h2.1,h2.2,Bool.true_and,Int.toNat_natCast,zbq hk];exact ⟨by trivial,by trivial⟩
theorem zhu {m:Mac} {k:Nat} {fault:Int} (h:zau BIG m) (hk:k<m.goroutines.length):zbb m k fault=true∧zK m k fault=(zds m k fault,()):=by
 rw [zsc,zsb];unfold zpM zpN;have h2:=zhv (x:=⟨3,fault,(gorK m k).allocs,(gorK m k).frames⟩) h (zcD h hk) hk;unfold gorK at h2;simp only [Int.toNat_natCast,h2.1,h2.2,zbq hk,Bool.true_and,Bool.and_self];exact ⟨by trivial,by trivial⟩
theorem zt0 {m:Mac} {k:Nat} (h:zau BIG m) (hk:k<m.goroutines.length) (hf:0<(gorK m k).frames.length):zi6 m k=true∧zhX m k=((topK (gorK m k)).pc,()):=by
 rw [zzW,zzV];unfold zys zyt;have hl:=(zcD h hk).1;unfold gorK at hl hf;unfold topK gorK;simp only [Int.toNat_natCast,zb0 hl hf,zbq hk,zbq (show (m.goroutines.getD k zan).frames.length - 1<(m.goroutines.getD k zan).frames.length by omega),Bool.and_self]
 exact ⟨by trivial,by trivial⟩
theorem zjK {m:Mac} {k:Nat} {pc:Int} (h:zau BIG m) (hk:k<m.goroutines.length) (hf:0<(gorK m k).frames.length):zcm m k pc=true∧zbL m k pc=(zk8 m k pc,()):=by
 rw [zse,zsd];unfold zpO zpP;have h1:=zfa h;have hl:=(zcD h hk).1;unfold gorK at hl hf;simp only [h1.1,h1.2,Int.toNat_natCast,zb0 hl hf,zbq hk,zbq (show (m.goroutines.getD k zan).frames.length - 1<(m.goroutines.getD k zan).frames.length by omega),Bool.and_self]
 exact ⟨by trivial,by trivial⟩
theorem zv5 {g:Gor} {r:Int} {v:Val} (h:zaW BIG g) (hf:0<g.frames.length):zlB g r v=true∧zhS g r v=(zir g r v,()):=by
 rw [zv7,zv6];unfold ztS ztT zir zz2 zbX;have h1:=zah h;have e2:decide ((g.frames.length:Int)>(0:Int))=true:=decide_eq_true (by omega)
 simp only [h1.1,h1.2,Int.toNat_natCast,zb0 h.1 hf,e2,cond_true,zbq (show g.frames.length - 1<g.frames.length by omega),Bool.true_and]
 have hset:g.frames.set (g.frames.length - 1) (topK g)=g.frames:=by
  unfold topK;rw [List.getD_eq_getElem?_getD,zNg (show g.frames.length - 1<g.frames.length by omega)]
  exact List.set_getElem_self _
 unfold inR;rw [show g.frames.getD (g.frames.length - 1) zo=topK g from rfl];rcases zaN r (topK g).regs.length with h1|h1|⟨h1,h2⟩
 ·have e1:decide (r≥(0:Int))=false:=decide_eq_false (by omega)
  have e3:decide ((0:Int)≤r∧r<((topK g).regs.length:Int))=false:=decide_eq_false (by omega)
  simp only [e1,e3,cond_false,hset];exact ⟨by trivial,by trivial⟩
 ·have e1:decide (r≥(0:Int))=true:=decide_eq_true (by omega)
  have e4:decide (r<((topK g).regs.length:Int))=false:=decide_eq_false (by omega)
  have e3:decide ((0:Int)≤r∧r<((topK g).regs.length:Int))=false:=decide_eq_false (by omega)
  simp only [e1,e3,e4,cond_false,cond_true,hset];exact ⟨by trivial,by trivial⟩
 ·have e1:decide (r≥(0:Int))=true:=decide_eq_true (by omega)
  have e4:decide (r<((topK g).regs.length:Int))=true:=decide_eq_true (by omega)
  have e3:decide ((0:Int)≤r∧r<((topK g).regs.length:Int))=true:=decide_eq_true (by omega)
  simp only [e1,e3,e4,cond_true];exact ⟨by trivial,by trivial⟩
theorem zT {m:Mac} {k:Nat} {x:Gor} (hk:k<m.goroutines.length):gorK (zai m k x) k=x:=by
 unfold gorK zai;simp [List.getD,hk]
theorem zh6 (m:Mac) (k:Nat) (x y:Gor):zai (zai m k x) k y=zai m k y:=by
 unfold zai;simp
theorem zas {m:Mac} {k:Nat} {x:Gor}:(zai m k x).goroutines.length=m.goroutines.length:=by
 unfold zai;simp
theorem zf8 {g:Gor} {f:Frm} (h:0<g.frames.length):topK (zbX g f)=f:=by
 unfold topK zbX;simp [List.getD,show g.frames.length - 1<g.frames.length by omega]
theorem zlN (g:Gor) (f f':Frm):zbX (zbX g f) f'=zbX g f':=by
 unfold zbX;simp
theorem zco (g:Gor) (f:Frm):(zbX g f).frames.length=g.frames.length:=by unfold zbX;simp
theorem zyG (g:Gor) (h:0<g.frames.length):zbX g (topK g)=g:=by
 have hset:g.frames.set (g.frames.length - 1) (topK g)=g.frames:=by
  unfold topK;rw [List.getD_eq_getElem?_getD,zNg (show g.frames.length - 1<g.frames.length by omega)]
  exact List.set_getElem_self _
 unfold zbX;rw [hset]
theorem zim {N:Nat} {g:Gor} (h:zaW N g) (hf:0<g.frames.length):zgU N (topK g):=h.2 _ (getD_mem (by omega))
theorem zmp {α:Type} {l:List α} {k:Nat} {x y:α} (h:y∈l.set k x):y=x∨y∈l:=by
 rcases List.mem_or_eq_of_mem_set h with h|h
 ·exact .inr h
 ·exact .inl h
theorem zf7 {N:Nat} {g:Gor} {f:Frm} (h:zaW N g) (hf:zgU N f):zaW N (zbX g f):=by
 refine ⟨by rw [zco];exact h.1,fun x hx=>?_⟩
 unfold zbX at hx;rcases zmp hx with rfl|hx
 ·exact hf
 ·exact h.2 x hx
theorem zjS {N:Nat} {m:Mac} {k:Nat} {x:Gor} (h:zau N m) (hx:zaW N x):zau N (zai m k x):=by
 refine ⟨h.1,h.2.1,⟨by rw [zas];exact h.2.2.1.1,fun y hy=>?_⟩,h.2.2.2⟩
 unfold zai at hy;rcases zmp hy with rfl|hy
 ·exact hx
 ·exact h.2.2.1.2 y hy
theorem zz9 {N:Nat} {f:Frm} {pc:Int} (h:zgU N f):zgU N (pcF f pc):=h
theorem zyR {N:Nat} {f:Frm} {r:Int} {v:Val} (h:zgU N f):zgU N (zz2 f r v):=by
 unfold zz2;cases inR f.regs r with
 |true=>exact ⟨by show (f.regs.set r.toNat v).length≤N;rw [List.length_set];exact h.1,h.2⟩
 |false=>exact h
def zn9 (m:Mac) (k:Nat) (r:Int) (v:Val):Mac:=zai m k (zbX (gorK m k) (pcF (zz2 (topK (gorK m k)) r v) (IntKind.i64.wrap ((topK (gorK m k)).pc+(1:Int)))))
theorem zyE (f:Frm) (r:Int) (v:Val):(zz2 f r v).pc=f.pc:=by
 unfold zz2;cases inR f.regs r<;>rfl
theorem zwk {m:Mac} {k:Nat} {r:Int} {v:Val} (h:zau BIG m) (hk:k<m.goroutines.length) (hf:0<(gorK m k).frames.length):zbs m k r v=true∧zaf m k r v=(zn9 m k r v,()):=by
 rw [zwm,zwl];unfold zt1 zt2;have hg:=zcD h hk;have h1:=zv5 (r:=r) (v:=v) hg hf;have hs:zaW BIG (zir (gorK m k) r v):=zf7 hg (zyR (zim hg hf));have h2:=zhv h hs hk;have hm1:zau BIG (zai m k (zir (gorK m k) r v)):=zjS h hs;have hk1:k<(zai m k (zir (gorK m k) r v)).goroutines.length:=by rw [zas];exact hk
 have hf1:0<(gorK (zai m k (zir (gorK m k) r v)) k).frames.length:=by rw [zT hk];unfold zir;rw [zco];exact hf
 have h3:=zt0 hm1 hk1 hf1;have h4:=zjK (pc:=IntKind.i64.wrap ((topK (gorK m k)).pc+(1:Int))) hm1 hk1 hf1;have e1:(topK (gorK (zai m k (zir (gorK m k) r v)) k)).pc=(topK (gorK m k)).pc:=by
  rw [zT hk];unfold zir;rw [zf8 hf,zyE]
 rw [e1] at h3;rw [show m.goroutines.getD (Int.toNat (k:Int)) zan=gorK m k from rfl];simp only [h1.1,h1.2,h2.1,h2.2,h3.1,h3.2,h4.1,h4.2,zbq hk,Bool.and_self,Bool.true_and];refine ⟨by trivial,?_⟩
 unfold zk8 zn9;rw [zT hk,zh6];unfold zir;rw [zf8 hf,zlN]
def zG1:Ob:=⟨0,[],false,0,[],false,0,0,[],[]⟩
def zin (l:List Ob) (id:Int):Option Ob:=l.find? fun o=>o.id==id
theorem zCT {l:List Ob} {id:Int} {i:Nat} (hi:i≤l.length) (h:∀j:Nat,j<i→(l.getD j dOb).id≠id):zin l id=zin (l.drop i) id:=by
 induction i with
 |zero=>rfl
 |succ i ih=>
  have hlt:i<l.length:=hi;rw [ih (Nat.le_of_lt hi) fun j hj=>h j (by omega)]
  unfold zin;rw [List.drop_eq_getElem_cons hlt];have:=h i (by omega)
  rw [List.getD_eq_getElem?_getD,zNg hlt,Option.getD_some] at this;rw [List.find?_cons_of_neg (by simpa using this)]
def zM7 (o:Ob):Bool×Int×(List Val)×Bool×Int×(List Val)×Bool×Int×Int×(List Wtr)×(List Wtr)×Unit:=(true,o.id,o.cells_,o.chan,o.cap,o.queue,o.closed,o.sent,o.received,o.senders,o.receivers,())
theorem zmB {m:Mac} {id:Int} (h:zau BIG m):zfO m id=true∧zaS m id=(match zin m.objects id with|some o=>(o,true,())|none=>(zG1,false,())):=by
 rw [zr4,zr3];unfold zpo zpp;have key:=zIY (l:=m.objects) (σ:=Unit) (step:=zfc m id) (ok:=zhl m id) (d:=(false,(),false,(0:Int),[],false,(0:Int),[],false,(0:Int),(0:Int),[],[],())) (n:=X_N)
  (fun i _=>∀j:Nat,j<i→(m.objects.getD j dOb).id≠id)
  (fun i _=>match zin (m.objects.drop i) id with|some o=>(false,(),zM7 o)|none=>(true,(),false,(0:Int),[],false,(0:Int),[],false,(0:Int),(0:Int),[],[],()))
  (Nat.lt_of_le_of_lt h.1.1 (by decide)) (Nat.lt_of_le_of_lt h.1.1 (by decide))
  (fun i s hi hI=>by
   have hc:=zde (h.1.2 (m.objects.getD i dOb) (getD_mem hi));unfold zfc zhl;simp only [Int.toNat_natCast,zcI hi,zaj hi,cond_true,Bool.true_and,hc.1,hc.2];have hd:m.objects.drop i=m.objects.getD i dOb::m.objects.drop (i+1):=by
    rw [List.drop_eq_getElem_cons hi,List.getD_eq_getElem?_getD,zNg hi];rfl
   rw [hd];unfold zin;by_cases he:(m.objects.getD i dOb).id=id
   ·have hb:((m.objects.getD i dOb).id==id)=true:=by simpa using he
    rw [List.find?_cons_of_pos (by simpa using he)]
    simp only [hb,cond_true];exact ⟨by trivial, .inr ⟨_,rfl,rfl⟩⟩
   ·have hb:((m.objects.getD i dOb).id==id)=false:=by simpa using he
    rw [List.find?_cons_of_neg (by simpa using he)]
    simp only [hb,cond_false];refine ⟨by trivial, .inl ⟨(),by trivial,fun j hj=>?_,by trivial⟩⟩
    rcases Nat.lt_or_ge j i with h1|h1
    ·exact hI j h1
    ·obtain rfl:j=i:=by omega
     exact he)
  (fun s hI=>by
   unfold zfc zhl;simp only [zcV,cond_false];refine ⟨by trivial,_,rfl,?_⟩
   rw [List.drop_length];rfl)
  (i:=0) (s:=()) (zNk _) (fun j hj=>absurd hj (Nat.not_lt_zero j))
 have k1:=key.1;have k2:=key.2;rw [List.drop_zero] at k2;rw [show ((0:Nat):Int)=(0:Int) from rfl] at k1 k2;refine ⟨k1,?_⟩;rw [k2];cases zin m.objects id with
 |none=>rfl
 |some o=>rfl
def zgg (m:Mac) (v:Val):Ob×Int:=
 bif v.kind != 2 then (zG1,1) else match zin m.objects v.n with
  |none=>(zG1,1)
  |some o=>bif o.chan then (zG1,1) else bif inR o.cells_ v.off then (o,0) else (zG1,2)
theorem zyd {m:Mac} {v:Val} (h:zau BIG m):zjI m v=true∧zcW m v=((zgg m v).1,(zgg m v).2,()):=by
 have hf:=zmB (id:=v.n) h;rw [zpk,zpj];unfold zmz zmA zgg;simp only [hf.1,hf.2];refine ⟨by cases (v.kind != 2)<;>rfl,?_⟩
 cases (v.kind != 2) with
 |true=>rfl
 |false=>
  cases zin m.objects v.n with
  |none=>rfl
  |some o=>
   simp only [cond_false,Bool.not_not,cond_true];cases o.chan with
   |true=>rfl
   |false=>
    simp only [cond_false];unfold inR;rcases zaN v.off o.cells_.length with h1|h1|⟨h1,h2⟩
    ·simp [h1,show ¬(0≤v.off) by omega,zG1]
    ·simp [h1,show ¬v.off<0 by omega,show ¬(v.off<(o.cells_.length:Int)) by omega,zG1]
    ·simp [h1,h2,show ¬v.off<0 by omega,show ¬(o.cells_.length:Int)≤v.off by omega]
def loadK (m:Mac) (v:Val):Val×Int:=bif (zgg m v).2 != 0 then (zjY,(zgg m v).2) else ((zgg m v).1.cells_.getD v.off.toNat zjY,0)
theorem zCt {m:Mac} {v:Val} (h:(zgg m v).2=0):inR (zgg m v).1.cells_ v.off=true:=by
 revert h;unfold zgg;cases (v.kind != 2) with
 |true=>intro h;simp at h
 |false=>
  cases zin m.objects v.n with
  |none=>intro h;simp at h
  |some o=>
   simp only [cond_false];cases o.chan with
   |true=>intro h;simp at h
   |false=>
    simp only [cond_false];cases hi:inR o.cells_ v.off with
    |true=>intro _;simpa using hi
    |false=>intro h;simp at h
theorem zr5 {m:Mac} {v:Val} (h:zau BIG m):zhm m v=true∧zcg m v=((loadK m v).1,(loadK m v).2,()):=by
 have hf:=zyd (v:=v) h;rw [zr7,zr6];unfold zpq zps loadK;simp only [hf.1,hf.2,Bool.true_and];by_cases h0:(zgg m v).2=0
 ·have e:((zgg m v).2 != 0)=false:=by simp [h0]
  have:=zCt h0;unfold inR at this;simp only [e,cond_false,this];exact ⟨by trivial,by rw [h0]⟩
 ·have e:((zgg m v).2 != 0)=true:=by simp [h0]
  simp only [e,cond_true];exact ⟨by trivial,by trivial⟩
def zgp (m:Mac) (v:Val) (off:Int):Val×Int:=
 bif v.kind != 2 then (v,1) else match zin m.objects v.n with
  |none=>(v,1)
  |some o=>bif o.chan then (v,1) else bif inR o.cells_ off then (⟨2,v.n,off⟩,0) else (v,2)
theorem zyu {m:Mac} {v:Val} {off:Int} (h:zau BIG m):zfh m v off=true∧zbl m v off=((zgp m v off).1,(zgp m v off).2,()):=by
 have hf:=zmB (id:=v.n) h;rw [zpZ,zpY];unfold zmW zmX zgp;simp only [hf.1,hf.2];refine ⟨by cases (v.kind != 2)<;>rfl,?_⟩
 cases (v.kind != 2) with
 |true=>rfl
 |false=>
  cases zin m.objects v.n with
  |none=>rfl
  |some o=>
   simp only [cond_false,Bool.not_not,cond_true];cases o.chan with
   |true=>rfl
   |false=>
    simp only [cond_false];unfold inR;rcases zaN off o.cells_.length with h1|h1|⟨h1,h2⟩
    ·simp [h1,show ¬(0≤off) by omega]
    ·simp [h1,show ¬off<0 by omega,show ¬(off<(o.cells_.length:Int)) by omega]
    ·simp [h1,h2,show ¬off<0 by omega,show ¬(o.cells_.length:Int)≤off by omega]
def argsK (g:Gor) (from_ n:Int):List Val:=(List.range n.toNat).map fun (i:Nat)=>zac g (IntKind.i64.wrap (from_+(i:Int)))
end Go.Proofs.YtiepllpgifnloaaGreat.Px
namespace Go.Proofs.YtiepllpgifnloaaGreat.Vx
open Go.RowKit
def zCx (T:TypeId):Code:=
((Go.Code.region 0
   #[{dst:=some 2,op:=Go.Op.assign (Go.Operand.const (Go.Value.slice none 0 0)),type:=T,
      pos:= "slices.go:355",after:= #[],guard:=none}]
   false).seq
 (((Go.Code.region 1
      #[{dst:=some 3,op:=Go.Op.move (Go.Operand.tmp 0),type:=T,pos:= "slices.go:357",
         after:= #[],guard:=none},
       {dst:=some 4,
        op:=
         Go.Op.binOp Go.BinOp.eql T (Go.Operand.tmp 3) (Go.Operand.const (Go.Value.slice none 0 0)) T,
        type:=4,pos:= "slices.go:357",after:= #[{on:=0,ground:=Go.Ground.data}],
        guard:=none}]
      false).seq
    (Go.Code.cond (Go.Operand.tmp 4)
     ((Go.Code.region 2
       #[{dst:=some 2,op:=Go.Op.assign (Go.Operand.const (Go.Value.slice none 0 0)),type:=T,
          pos:= "slices.go:358",after:= #[],guard:=none}]
       false).seq
      Go.Code.ret)
     Go.Code.skip)).seq
  ((Go.Code.region 3
    #[{dst:=some 5,op:=Go.Op.buildSlice T 0 #[],type:=T,pos:= "slices.go:362",after:= #[],
       guard:=none},
     {dst:=some 6,op:=Go.Op.move (Go.Operand.tmp 0),type:=T,pos:= "slices.go:362",
      after:= #[],guard:=none},
     {dst:=some 7,
      op:=
       Go.Op.call
        {callee:=Go.Callee.builtin Go.Builtin.append,args:= #[Go.Operand.tmp 5,Go.Operand.tmp 6],
         argTypes:= #[T,T]},
      type:=T,pos:= "slices.go:362",
      after:= #[{on:=0,ground:=Go.Ground.data},{on:=1,ground:=Go.Ground.data}],
      guard:=none},
     {dst:=some 2,op:=Go.Op.assign (Go.Operand.tmp 7),type:=T,pos:= "slices.go:362",
      after:=
       #[{on:=2,ground:=Go.Ground.data},{on:=2,ground:=Go.Ground.chain},
         {on:=0,ground:=Go.Ground.phase},{on:=1,ground:=Go.Ground.phase},
         {on:=2,ground:=Go.Ground.phase}],
      guard:=none}]
    false).seq
   Go.Code.ret)))
variable {P:Program} [Fast P] {ρ ρ':Rho} {nt:Nat} {tm:Go.Proofs.YtiepllpgifnloaaGreat.Vx.T AV} {a:Act} {w w0 w':World} {K:KS} {st st':St} {S:Nat→Prop} {F:Nat→Nat→Prop}
theorem zBR (w:World) (t e:TypeId) (a:Option Addr) (n c:Nat) (h:P.underlying t=some (.slice e)):(binOp .eql t (.slice a n c) (.slice none 0 0)).run P w= .ok (.bool a.isNone) w:=by
 unfold binOp;simp [run_equal_slice_nil w t e a n c h]
theorem zcy (w:World) {ops:Array Oper} {rest:List Oper} {o:Oper} {a:Act} {Q:Exit→Act→World→Prop} (hgd:o.guard=none) (d s:Operand) (t t':TypeId)
  (ho:o.op= .call {callee:= .builtin .append,args:= #[d,s],argTypes:= #[t,t']}) (v u:Value) (hd:a.eval d=v) (hs:a.eval s=u) {v':Value} {w':World}
  (hr:(Builtin.append_ #[t,t'] o.type #[v,u]).run P w= .ok v' w') (h:wpList P ops Q rest (a.put o.dst v') w'):wpList P ops Q (o::rest) a w:=
 wpList_plain hgd fun _ hK=>by
  unfold Oper.wp execOp;simp only [ho,resolve,invoke,builtin,Sem.run_bind,Sem.run_pure,Result.andThen_ok,List.map_toArray,List.map_cons,List.map_nil,hd,hs,hr];exact hK _ _ h
def zGS (E:TypeId) (sz n:Nat) (us:List Value) (w:World) (e:Ending) (w':World):Prop:=∃A' c',e= .returned (.slice A' n c')∧Kp (fun b=>b<w.heap.size) w w'∧(n=0∧c'=0∨0<n∧∃b cs,A'=some ⟨b,0,none⟩∧w.heap.size≤b∧Blk w' b E (us.toArray++cs)∧us.length+cs.size=c'*sz∧n≤c')
set_option maxHeartbeats 4000000 in
theorem zxF {f:FuncId} {fn:Func} {T E:TypeId} {i:TypeInfo} {z:Value} (hfn:P.funcs[f]? =some fn) (hb:fn.body=some (zCx T)) (hres:fn.results= #[.tmp 2]) (hnt:fn.ntmps=8) (hu:P.underlying T=some (.slice E)) (hi:P.info? E=some i) (hz:i.zero=some z)
  {A:Option Addr} {n c:Nat} {us:List Value} (hsrc:∀w',Kp (fun b=>b<w.heap.size) w w'→Src P i.size T (.slice A n c) n us w') (h0:A=none→n=0) (c3:0<i.size) (c4:0<i.bytes) (hpb:n*i.bytes≤140737488355328) (hul:us.length=n*i.size) (hzs:z.cells.size=i.size):
  Calls P f #[.slice A n c] w fun e w'=>zGS E i.size n us w e w':=by
 refine calls_of_wp hfn hb ?_;rw [hnt];unfold zCx;have he:=zBR (P:=P) w T E A n c hu;have u0:=run_underlying hu;have hs0:∀w,(sizeOf E).run P w= .ok i.size w:=fun w=>by
  have:=run_sizeOf (w:=w) hi;rw [this,Program.cellsOf,hi];rfl
 cases A with
 |none=>
  obtain rfl:=h0 rfl
  go_wp2
  refine bodyPost_ret (v:= .slice none 0 0) (by simp [results,hres,go_sem]) rfl ?_
  exact ⟨none,0,rfl,Kp.refl _ w, .inl ⟨rfl,rfl⟩⟩
 |some ad=>
  have hk1:Kp (fun b=>b<w.heap.size) w (w.alloc (.cells #[] E)):=Kp.alloc w _ fun b hb=>hb;rcases zNl n with hn|hn
  ·subst hn;obtain rfl:us=[]:=zNj.1 (by rw [hul,Nat.zero_mul])
   have hr:=zdJ (P:=P) (ty:=T) hu hi (hsrc _ hk1) (some ⟨w.heap.size,0,none⟩) 0 0 (zNm _)
   go_wp2_with (at_builtin;refine zcy _ rfl (.tmp 5) (.tmp 6) T T rfl _ _ rfl rfl hr ?_)
   refine bodyPost_ret (v:= .slice (some ⟨w.heap.size,0,none⟩) 0 0) (by simp [results,hres,go_sem]) rfl ?_
   exact ⟨_,0,rfl,hk1, .inl ⟨rfl,rfl⟩⟩
  ·have hr:=run_append_grow_src (P:=P) (w.alloc (.cells #[] E)) T T T E i z hu hi hz (some ⟨w.heap.size,0,none⟩) 0 0 [] (run_firstCells_some _ i.size 0 _ 0 0 [] (by simp) (fun j v hj=>by simp at hj)) (.slice (some ad) n c) n us (hsrc _ hk1) (by omega) (by have:=Nat.le_mul_of_pos_right n c4;omega) (growslice_fits (by omega) (by simpa using hpb))
   have hge:=grownCap_ge (w.alloc (.cells #[] E)) (0+n) 0 E;generalize hgc:grownCap (w.alloc (.cells #[] E)) (0+n) 0 E=gc at hr hge;have hsz:(w.alloc (.cells #[] E)).heap.size=w.heap.size+1:=Array.size_push _;have hk2:Kp (fun b=>b<w.heap.size) w ((w.alloc (.cells #[] E)).drew.alloc (.cells (([]++us).toArray++Builtin.zeroCells z.cells (gc - (0+n))) E)):=hk1.trans ((Kp.drew (fun b=>b<w.heap.size) _).trans (Kp.alloc (K:=fun b=>b<w.heap.size) _ _ fun b hb=>by show b<(w.alloc (.cells #[] E)).heap.size;omega))
   have hbk:Blk ((w.alloc (.cells #[] E)).drew.alloc (.cells (([]++us).toArray++Builtin.zeroCells z.cells (gc - (0+n))) E)) (w.alloc (.cells #[] E)).heap.size E (([]++us).toArray++Builtin.zeroCells z.cells (gc - (0+n))):=Blk.new (w.alloc (.cells #[] E)).drew E _;have hfin:zGS E i.size n us w (.returned (.slice (some ⟨(w.alloc (.cells #[] E)).heap.size,0,none⟩) (0+n) gc)) ((w.alloc (.cells #[] E)).drew.alloc (.cells (([]++us).toArray++Builtin.zeroCells z.cells (gc - (0+n))) E)):=by
    refine ⟨_,gc,by rw [Nat.zero_add],hk2, .inr ⟨hn,_,_,rfl,by omega,hbk,?_,by omega⟩⟩
    rw [zaB,hul,hzs, ←zNr];congr 1;omega
   generalize ((w.alloc (.cells #[] E)).drew.alloc (.cells (([]++us).toArray++Builtin.zeroCells z.cells (gc - (0+n))) E))=w2 at hr hfin;generalize Value.slice (some ⟨(w.alloc (.cells #[] E)).heap.size,0,none⟩) (0+n) gc=v2 at hr hfin;clear hk2 hbk hsrc hul
   go_wp2_with (at_builtin;refine zcy _ rfl (.tmp 5) (.tmp 6) T T rfl (.slice (some ⟨w.heap.size,0,none⟩) 0 0) (.slice (some ad) n c) rfl rfl hr ?_)
   refine bodyPost_ret (v:=v2) (by simp [results,hres,go_sem]) rfl hfin
theorem LfO.rows {S F:Nat→Prop} {t:RT} {l:List t.ty} {ow:Path→Bool} {A:Option Addr} {n c:Nat} (h:LfO w S (.list t l) ow F (.slice A n c)) (h0:ow []=true) (hpos:0<t.size):∃us:List Value,us.length=n*t.size∧(∀v∈us,v.oneCell'=true)∧(0<n→∃b o,A=some ⟨b,o,none⟩∧∀j v,us[j]? =some v→w.cell? ⟨b,o+j,none⟩=some v)∧
  ∀(i:Nat) x,l[i]? =some x→∀(j:Nat) lf,(t.leaves x)[j]? =some lf→∃v,us[i*t.size+j]? =some v∧LfO w S lf (fun q=>ow ((i,j)::q)) F v:=by
 obtain ⟨us,h1,h2,h3,h4⟩:=h.rd.rows hpos;refine ⟨us,h1,h2,h3,fun i x hx j lf hj=>?_⟩;obtain ⟨v,hv,hr⟩:=h4 i x hx j lf hj;refine ⟨v,hv,?_⟩;cases h with
 |shr _ _ _ _ _ h5=>rw [h0] at h5;cases h5
 |nil=>simp at hx
 |list _ _ _ _ _ b T cs G _ g1 g2 gb gk gs gG gd gr=>
  have hi:=(zNa.1 hx).1;obtain ⟨b',o',e,hc⟩:=h3 (by omega)
  simp only [zNn,Addr.mk.injEq,and_true] at e;obtain ⟨rfl,rfl⟩:=e;have h5:=hc _ _ hv;rw [Nat.zero_add,gk.cell] at h5;have h6:=gr i x hx j lf hj;rw [Array.getD_eq_getD_getElem?,h5,Option.getD_some] at h6;exact h6.wide fun y hy=>(gG i j y hy).1
def zI4 (st:St) (t:RT):AV→Bool
 | .lw i k p _ _=>at_ i k p
 | .lv i k p _ lo _=>Nat.beq lo 0&&at_ i k p
 |_=>false
 where at_ (i k:Nat) (p:Path):Bool:=match st.h.get i with
 |some bk=>match bk.op,zu bk.cells with
  |some 0, .tree ow rt _ kv=>match ow with
   | .bor=>zdx (owT rt) p&&ze1 k kv p
   |_=>false
  |_,_=>false
 |none=>false
theorem zHo (hs:SimF K w0 ρ S F st w) {d:Nat} {t:RT} {a:AV} {v:Value} {l:List t.ty} (h:zbO d st t a=some l) (hb:zI4 st t a=true) (hd:den ρ a v):LfO w S (.list t l) (owT t) (Mr ρ) v:=by
 have key:∀{i k:Nat} {p:Path} {g:Hdr} {bk:Bk} {ow:Ow} {rt:RT} {xs:List rt.ty} {kv:Nat},st.h.get i=some bk→bk.op=some 0→zu bk.cells= .tree ow rt xs kv→zI4.at_ st i k p=true→hdrOf ρ i k p g→
   LfO w S (.list (sub p rt xs).1 (sub p rt xs).2) (owT (sub p rt xs).1) (Mr ρ) g.val:=by
  intro i k p g bk ow rt xs kv hb hop hkd h hg;unfold zI4.at_ at h;rw [hb] at h;simp only [hop,hkd] at h;cases ow with
  |bor=>
   simp only [Bool.and_eq_true] at h;obtain ⟨x,c,_,ht,hhd,_⟩:=Sim.at_ hs hb hop hkd h.2 hg;have:=LfO.at_ ht.own h.1 hhd;rw [show (fun q=>owT rt (p++q))=owT (sub p rt xs).1 from funext (owT_sub0 (ownsP_nil0 h.1) hhd)] at this;exact this
  |_=>cases h
 match d,h with
 |0,h=>nomatch h
 |d+1,h=>
  unfold zbO at h;split at h
  ·cases hb
  ·cases hb
  ·cases hb
  ·rename_i i k p sz n _;simp only [den] at hd;obtain ⟨g,hg,hlv,hgn⟩:=hd;split at h
   case h_2=>cases h
   rename_i bk hbk;split at h
   case h_2=>cases h
   rename_i own rt xs kv hop hkd;split at h
   case h_2=>cases h
   rename_i hh hver hsame;obtain rfl:=zM8 h;have h0:=key hbk hop hkd hb hg;obtain ⟨e⟩:=hh;subst e;obtain ⟨h1,h2,A',rfl,h3,h4⟩:=hlv;have e2:g.val= .slice A' n (g.2.2 - 0):=by rw [←hgn,h3 rfl];rfl
   rw [e2] at h0;exact h0
  ·rename_i i k p sz lo n _;simp only [den] at hd;obtain ⟨g,hg,hlv⟩:=hd;simp only [zI4,Bool.and_eq_true] at hb;obtain rfl:=zM9 hb.1;split at h
   case h_2=>cases h
   rename_i bk hbk;split at h
   case h_2=>cases h
   rename_i own rt xs kv hop hkd;split at h
   case h_2=>cases h
   rename_i hh hver hsame;obtain rfl:=zM8 h;have h0:=key hbk hop hkd hb.2 hg;obtain ⟨e⟩:=hh;subst e;obtain ⟨h1,h2,A',rfl,h3,h4⟩:=hlv;have hl:g.2.1=(sub p rt xs).2.length:=h0.rd.lenEq;have h5:=h0.take (n:=n) (zb3 _) (by omega)
   rw [←h3 rfl] at h5;exact h5
  ·cases hb
  ·cases h
def zzf (st:St) (rt:RT) (a:AV):Option Ow:=match zdX (rt.leaves rt.dflt) with
 |true=>some .all
 |false=>match zen rt 0 (rt.leaves rt.dflt)&&(zz4 st a||zAt st rt a||dcOk a) with
  |true=>some .all
  |false=>match zI4 st rt a with
   |true=>some (.dc 0 [])
   |false=>none
 where dcOk:AV→Bool
 | .lw i k p _ _=>match p with
   |[(e,j)]=>match st.h.get i with
    |some bk=>match bk.op,zu bk.cells with
     |some 0, .tree (.dc _ _) rt0 _ kv=>ze1 k kv p&& !shT rt0 j
     |_,_=>false
    |none=>false
   |_=>false
 |_=>false
def zot (P:Program) [Fast P] (T:TypeId):Ctr:=fun args st=>match args with
 |[a]=>match zeo P T with
  |some (.slice E)=>match zd0 P E,zGA P 4 E with
   |some i,some rt=>match i.zero with
    |some z=>match Nat.beq z.cells.size i.size&&(Nat.beq i.size rt.size&&(zgz i.size&&zgz i.bytes)),zbO 5 st rt a,zzf st rt a with
     |true,some xs,some ow=>match zeM ow rt xs st.h st.n st.wr with
      |(v,st')=> .must (xs.length*i.bytes≤140737488355328) inferInstance (.ret (v,st'))
     |_,_,_=> .fail 43 none
    |none=> .fail 42 none
   |_,_=> .fail 41 none
  |_=> .fail 40 none
 |_=> .fail 40 none
theorem DcR.leaf {M G:Nat→Prop} {i e j:Nat} {l:List Nat} {t:RT} {xs:List t.ty} {h h':Hdr} (hr:DcR w S M G i l t xs h.val) (e0:hdrs w [(e,j)] t xs h=some h') (hsh:shT t j=false):LfO w S (.list (sub [(e,j)] t xs).1 (sub [(e,j)] t xs).2) (owT (sub [(e,j)] t xs).1) (fun y=>G y∨M y) h'.val:=by
 obtain ⟨A,m,c⟩:=h;rcases hr with ⟨rfl,_⟩|⟨c',b,T,cs,H,h1,h2,h3,h4,h5,h6,h7,h8,h9⟩
 ·simp only [hdrs] at e0;split at e0
  ·rename_i h1 h2;simp at h1
  ·cases e0
 ·simp only [Value.slice.injEq] at h1;obtain ⟨rfl,rfl,rfl⟩:=h1;simp only [hdrs] at e0;split at e0
  case h_2=>cases e0
  rename_i b' o' x hb' hx;simp only [zNn,Addr.mk.injEq] at hb';obtain ⟨rfl,rfl,_⟩:=hb';split at e0
  case h_2=>cases e0
  rename_i t' l' hj;split at e0
  case h_2=>cases e0
  rename_i A2 m2 c2 hc;obtain rfl:(A2,m2,c2)=h':=zM8 e0;have g:=(h9 e x hx j _ hj).2;have ha:=(zNa.1 hx).1;have hjl:=(zNa.1 hj).1;rw [RT.leaves_len] at hjl;have hlt:e*t.size+j<cs.size:=by
   rw [h6]
   calc e*t.size+j<e*t.size+t.size:=by omega
    _=(e+1)*t.size:=by rw [zNr,Nat.one_mul]
    _≤c*t.size:=zNe _ (by omega)
  rw [h5.cell,Nat.zero_add,zNi hlt] at hc;rw [Array.getD_eq_getD_getElem?,zNi hlt,Option.getD_some,zM8 hc] at g;have hg:xs.getD e t.dflt=x:=by rw [List.getD_eq_getElem?_getD,hx];rfl
  have hs:sub [(e,j)] t xs=⟨t',l'⟩:=zEX (by rw [hg];exact zc5 hj)
  rw [hs];have hel:=zbo (x:=x) hj;have e5:(fun q=>owT t ((e,j)::q))=owT t':=by funext q;rw [owT,hsh,hel]
  rw [e5] at g;exact g.wide fun y hy=>hy.imp (fun hy=>(h7 e j y hy).1) id
theorem zAC (hs:SimF K w0 ρ S F st w) {d:Nat} {t:RT} {a:AV} {v:Value} {l:List t.ty} (h:zbO d st t a=some l) (hsh:zen t 0 (t.leaves t.dflt)=true) (hb:(zz4 st a||zAt st t a||zzf.dcOk st a)=true) (hd:den ρ a v) (hpos:0<t.size):
  ∃(A:Option Addr) (n c:Nat) (us:List Value),v= .slice A n c∧us.length=n*t.size∧(∀v∈us,v.oneCell'=true)∧(0<n→∃b o,A=some ⟨b,o,none⟩∧b<w.heap.size∧∀j v,us[j]? =some v→w.cell? ⟨b,o+j,none⟩=some v)∧n=l.length∧n≤maxLen∧
   ∀(i:Nat) x,l[i]? =some x→∀(j:Nat) lf,(t.leaves x)[j]? =some lf→∃v,us[i*t.size+j]? =some v∧LfO w S lf (fun q=>owT t ((i,j)::q)) (fun _=>False) v:=by
 have hrd:=zep hs _ h hd;obtain ⟨A,c,rfl,hc,hm⟩:=hrd.slice;obtain ⟨us,u1,u2,u3,u4⟩:=hrd.rows hpos;refine ⟨A,l.length,c,us,rfl,u1,u2,fun hn=>?_,rfl,hm,fun i x hx j lf hj=>?_⟩
 ·obtain ⟨b,o,e,hcell⟩:=u3 hn;refine ⟨b,o,e,?_,hcell⟩;obtain ⟨b',o',e',_,hlt,_⟩:=hrd.elem (zNg hn);rw [e] at e';simp only [zNn,Addr.mk.injEq,and_true] at e';obtain ⟨rfl,rfl⟩:=e';exact hlt
 ·obtain ⟨v,hv,hr⟩:=u4 i x hx j lf hj;refine ⟨v,hv,?_⟩;cases he:lf.elem with
  |none=>exact zkX hr he
  |some u=>
   have hel:t.elemAt j=some u:=by
    cases lf with
    |list u' l'=>simp only [Leaf.elem,zNn] at he;subst he;exact zbo hj
    |_=>cases he
   have hs':shT t j=true:=by
    have hj0:∃lf0,(t.leaves t.dflt)[j]? =some lf0∧lf0.elem=some u:=by
     have:=congrArg (fun z=>z[j]?) (zb1 t x);simp only [List.getElem?_map,hj,Option.map_some,he] at this;cases e0:(t.leaves t.dflt)[j]? with
     |none=>rw [e0] at this;cases this
     |some lf0=>rw [e0] at this;exact ⟨lf0,rfl,(zM8 this).symm⟩
    obtain ⟨lf0,h1,h2⟩:=hj0;have:=zef hsh j lf0 h1 (by rw [h2];simp)
    rwa [Nat.zero_add] at this
   have e5:(fun q=>owT t ((i,j)::q))=fun _=>false:=by funext q;rw [owT,hs']
   rw [e5];have go:∀{ow:Path→Bool} {G:Nat→Prop},LfO w S (.list t l) ow G (.slice A l.length c)→ow []=true→(∀q,ow ((i,j)::q)=false)→LfO w S lf (fun _=>false) (fun _=>False) v:=by
    intro ow G ho h0 h1;obtain ⟨vs,v1,v2,v3,v4⟩:=ho.rows h0 hpos;obtain ⟨v',hv',hr'⟩:=v4 i x hx j lf hj;have hi:=(zNa.1 hx).1;obtain ⟨b,o,e,hc1⟩:=u3 (by omega)
    obtain ⟨b',o',e',hc2⟩:=v3 (by omega)
    rw [e] at e';simp only [zNn,Addr.mk.injEq,and_true] at e';obtain ⟨rfl,rfl⟩:=e';have q1:=hc1 _ _ hv;rw [hc2 _ _ hv'] at q1;obtain rfl:=zM8 q1;rw [show (fun q=>ow ((i,j)::q))=fun _=>false from funext h1] at hr';cases hr' with
    |shr _ _ _ _ _ h0 h=>exact .shr _ _ _ _ _ rfl h
    |int k n=>exact .int ..
    |bool b=>exact .bool ..
    |str s=>exact .str ..
    |nil _ _ _ _ h0=>cases h0
    |list _ _ _ _ _ _ _ _ _ h0=>cases h0
   simp only [Bool.or_eq_true] at hb;rcases hb with (hb|hb)|hb
   ·have hl:=zt8 hs h hb hd;obtain ⟨vs,v1,v2,v3,v4⟩:=hl.rows hpos;obtain ⟨v',hv',hr'⟩:=v4 i x hx j lf hj;have hi:=(zNa.1 hx).1;obtain ⟨b,o,e,hc1⟩:=u3 (by omega)
    obtain ⟨b',o',e',hc2⟩:=v3 (by omega)
    rw [e] at e';simp only [zNn,Addr.mk.injEq,and_true] at e';obtain ⟨rfl,rfl⟩:=e';have q1:=hc1 _ _ hv;rw [hc2 _ _ hv'] at q1;obtain rfl:=zM8 q1;cases lf with
    |list u' l'=>exact .shr _ _ _ _ _ rfl hr'
    |_=>cases he
   ·exact go (zy8 hs h hb hd) (zb3 t) fun q=>congrFun e5 q
   ·cases a with
    |lw i0 k p sz n0=>
     simp only [zzf.dcOk] at hb;split at hb
     case h_2=>cases hb
     rename_i e j0;split at hb
     case h_2=>cases hb
     rename_i bk hbk;split at hb
     case h_2=>cases hb
     rename_i ii ll rt0 xs0 kv hop hkd;simp only [Bool.and_eq_true,Bool.not_eq_true'] at hb;simp only [den] at hd;obtain ⟨g,hg,hlv,hgn⟩:=hd;obtain ⟨x1,c1,_,ht,hhd,_⟩:=Sim.at_ hs hbk hop hkd hb.1 hg;have h0:=DcR.leaf ht.own hhd hb.2;cases d with
     |zero=>cases h
     |succ d=>
      simp only [zbO,hbk,hop,hkd] at h;split at h
      case h_2=>cases h
      rename_i hh hver hsame;obtain rfl:=zM8 h;obtain ⟨e'⟩:=hh;subst e';obtain ⟨h1,h2,A',e1,h3,h4⟩:=hlv;have e1:Value.slice A (List.length (sub [(e,j0)] rt0 xs0).2) c=Value.slice A' n0 (g.2.2 - 0):=e1;have e2:g.val= .slice A (List.length (sub [(e,j0)] rt0 xs0).2) c:=by rw [e1, ←hgn,h3 rfl];rfl
      rw [e2] at h0;exact go h0 (zb3 _) fun q=>congrFun e5 q
    |_=>cases hb
theorem zix {f:FuncId} {fn:Func} {T:TypeId} (hfn:P.funcs[f]? =some fn) (hb:fn.body=some (zCx T)) (hname:(fn.name== "runtime.NumGoroutine")=false) (hres:fn.results= #[.tmp 2]) (hnt:fn.ntmps=8):zi P f (zot P T):=by
 intro args st v st' hf;unfold zot at hf;split at hf
 case h_2=>cases hf
 rename_i a;split at hf
 case h_2=>cases hf
 rename_i E hu;split at hf
 case h_2=>cases hf
 rename_i i rt hi hrt;split at hf
 case h_2=>cases hf
 rename_i z hz;split at hf
 case h_2=>cases hf
 rename_i xs ow hc hxs how;split at hf;rename_i v1 st1 hn;obtain ⟨hpb,hf⟩:=VT.out_must hf;obtain ⟨rfl,rfl⟩:=zNb (zM8 hf);simp only [Bool.and_eq_true] at hc;obtain ⟨c1,c2,c3,c4⟩:=hc;have c1:=zM9 c1;have c2:=zM9 c2;have c3:0<i.size:=zNc c3;have c4:0<i.bytes:=zNc c4;refine ⟨ze7 hn,⟨fn,_,hfn,hname,hb⟩,fun K w0 w ρ vs hs hd=>?_⟩;simp only [dens] at hd;obtain ⟨va,vs',rfl,hd,rfl⟩:=hd;obtain ⟨S,F,hs⟩:=hs;have hpos:0<rt.size:=by omega
 have src:∃(A:Option Addr) (n c:Nat) (us:List Value),va= .slice A n c∧us.length=n*rt.size∧(∀v∈us,v.oneCell'=true)∧(0<n→∃b o,A=some ⟨b,o,none⟩∧b<w.heap.size∧∀j v,us[j]? =some v→w.cell? ⟨b,o+j,none⟩=some v)∧n=xs.length∧n≤maxLen∧
   ((ow= .all∧∀(i:Nat) x,xs[i]? =some x→∀(j:Nat) lf,(rt.leaves x)[j]? =some lf→∃v,us[i*rt.size+j]? =some v∧LfO w S lf (fun q=>owT rt ((i,j)::q)) (fun _=>False) v)∨
    (ow= .dc 0 []∧∀(i:Nat) x,xs[i]? =some x→∀(j:Nat) lf,(rt.leaves x)[j]? =some lf→∃v,us[i*rt.size+j]? =some v∧LfO w S lf (fun q=>owT rt ((i,j)::q)) (Mr ρ) v)):=by
  have hrd:=zep hs _ hxs hd;obtain ⟨A,c,rfl,hcl,hmx⟩:=hrd.slice;have inW:∀{b o:Nat},0<xs.length→A=some ⟨b,o,none⟩→b<w.heap.size:=fun hn e=>by
   obtain ⟨b',o',e',_,hlt,_⟩:=hrd.elem (zNg hn);rw [e] at e';simp only [zNn,Addr.mk.injEq,and_true] at e';obtain ⟨rfl,rfl⟩:=e';exact hlt
  unfold zzf at how;split at how
  ·rename_i hfl;obtain rfl:=zM8 how;obtain ⟨us,u1,u2,u3,u4⟩:=hrd.rows hpos;exact ⟨A,_,c,us,rfl,u1,u2,fun hn=>let ⟨b,o,e,h⟩:=u3 hn;⟨b,o,e,inW hn e,h⟩,rfl,hmx, .inl ⟨rfl,fun i x hx j lf hj=>let ⟨v,hv,hr⟩:=u4 i x hx j lf hj;⟨v,hv,zkX hr (zg1 hfl hj)⟩⟩⟩
  ·split at how
   ·rename_i hk;obtain rfl:=zM8 how;simp only [Bool.and_eq_true] at hk;obtain ⟨A',n,c',us,h1,h2,h3,h4,h5,h6,h7⟩:=zAC hs hxs hk.1 hk.2 hd hpos;exact ⟨A',n,c',us,h1,h2,h3,h4,h5,h6, .inl ⟨rfl,h7⟩⟩
   ·split at how
    ·rename_i hk;obtain rfl:=zM8 how;have hl:=zHo hs hxs hk hd;obtain ⟨us,u1,u2,u3,u4⟩:=hl.rows (zb3 rt) hpos;exact ⟨A,_,c,us,rfl,u1,u2,fun hn=>let ⟨b,o,e,h⟩:=u3 hn;⟨b,o,e,inW hn e,h⟩,rfl,hmx, .inr ⟨rfl,u4⟩⟩
    ·cases how
 obtain ⟨A,n,c,us,rfl,u1,u2,u3,rfl,hmx,hleaf⟩:=src;have hnone:A=none→xs.length=0:=fun e=>by
  rcases zNl xs.length with h|h
  ·exact h
  ·obtain ⟨b,o,e',_⟩:=u3 h;rw [e] at e';cases e'
 refine (zxF hfn hb hres hnt (zn hu) (zad hi) hz (A:=A) (n:=xs.length) (c:=c) (us:=us) (fun w' hk=>?_) hnone c3 c4 hpb (by rw [c2];exact u1) c1).mono ?_
 ·rcases zNl xs.length with h|h
  ·rw [h];have:us=[]:=zNj.1 (by rw [u1,h,Nat.zero_mul])
   subst this;exact Src.ofEmp (zn hu) A c w'
  ·obtain ⟨b,o,rfl,hlt,hc⟩:=u3 h;exact Src.ofSlice w' (zn hu) _ _ _ us (by rw [u1,c2]) (fun j v hj=>by rw [zaV,zer (hk.block b hlt) _ rfl];exact hc j v hj) u2
 ·rintro e w' ⟨A',c',rfl,hkp,hres⟩
  have s1:=hs.to hkp;have hOwn:∃G:Nat→Prop,OwnR w' S (Mr ρ) G ow rt xs (.slice A' xs.length c')∧(∀y,G y→w.heap.size≤y∧y<w'.heap.size):=by
   rcases hres with ⟨h0,rfl⟩|⟨hpos',b,cs,rfl,hbl,hblk,hcs,hcl⟩
   ·have hx0:xs=[]:=zNj.1 h0;refine ⟨fun _=>False,?_,fun _ h=>h.elim⟩;rw [h0];rcases hleaf with ⟨rfl,_⟩|⟨rfl,_⟩
    ·subst hx0;exact LfO.nil rt _ _ A' (zb3 rt)
    ·exact .inl ⟨hx0,A',rfl⟩
   ·refine ⟨fun y=>y=b,?_,fun y hy=>hy▸⟨hbl,hblk.lt⟩⟩;have hsz:(us.toArray++cs).size=c'*rt.size:=by rw [Array.size_append,List.size_toArray,hcs,c2]
    have hget:∀q v,us[q]? =some v→(us.toArray++cs).getD q undef=v:=fun q v hq=>by
     have hlt:=(zNa.1 hq).1;rw [Array.getD_eq_getD_getElem?,Array.getElem?_append_left (by simpa using hlt),List.getElem?_toArray,hq];rfl
    have keepS:∀y,S y→w'.heap[y]? =w.heap[y]? :=fun y hy=>hkp.block y (hs.sl y hy);rcases hleaf with ⟨rfl,hl⟩|⟨rfl,hl⟩
    ·refine LfO.list rt xs (owT rt) _ c' b E (us.toArray++cs) (fun _ _ _=>False) (zb3 rt) hcl hmx rfl hblk hsz (fun _ _ _ h=>h.elim) (fun _ _ _ _ _ h=>h.elim) fun i x hx j lf hj=>?_;obtain ⟨v,hv,hr⟩:=hl i x hx j lf hj;rw [hget _ v hv];exact hr.keep (fun _ h=>h.elim) (fun _ h=>h) fun y hy _=>keepS y hy
    ·refine .inr ⟨c',b,E,us.toArray++cs,fun _ _ _=>False,rfl,hcl,hmx,rfl,hblk,hsz,fun _ _ _ h=>h.elim,fun _ _ _ _ _ h=>h.elim,fun i x hx j lf hj=>?_⟩;obtain ⟨v,hv,hr⟩:=hl i x hx j lf hj;rw [hget _ v hv];refine ⟨fun h=>?_,(hr.keep (fun y hy _=>hkp.block y (hs.ltw y (hs.mk_ hy))) (fun _ h=>h) fun y hy _=>keepS y hy).wide fun y hy=> .inr hy⟩;rcases h with h|⟨_,h⟩
     ·omega
     ·cases h
  obtain ⟨G,hO,hG⟩:=hOwn;obtain ⟨ρ',F',e1,s2,d2,_⟩:=s1.tree (G:=G) hO (fun y hy=>(hG y hy).2) (fun y hy=>⟨fun _=>⟨fun hK=>by have:=hs.ltw y hK;have:=(hG y hy).1;omega,fun hS=>by have:=hs.sl y hS;have:=(hG y hy).1;omega⟩,fun j bj hj _ hyj=>by
   obtain ⟨_,_,_,hbj,_⟩:=hs.blk j bj hj;have:=hbj.lt y hyj;have:=(hG y hy).1;omega⟩) hn
  exact ⟨_,ρ',rfl,e1,⟨S,F',s2⟩,d2⟩
variable {P:Program} [Fast P] {ρ ρ':Rho} {nt:Nat} {tm:T AV} {a:Act} {w w0 w':World} {K:KS} {st st':St} {S:Nat→Prop} {F:Nat→Nat→Prop}
def zJD (st:St) (own rel:List Nat) (i k ty:Nat) (p:Path) (rt:RT) (xs xs':List rt.ty) (idx cell:Nat):St:=
 ⟨(((zaz st.h (own++rel)).set st.n ⟨0,[.ver],some 0⟩).set (Nat.succ st.n) ⟨0,[.ver],some 0⟩).set i ⟨ty,[.tre .all rt xs' st.n, .ep i k p (sub p rt xs).1.size idx cell, .ptr (Nat.succ st.n) 0],some 0⟩,Nat.succ (Nat.succ st.n),st.wr⟩
theorem zJC {i kv sz0 n0 idx cell:Nat} {bk:Bk} {p:Path} {rt:RT} {xs:List rt.ty} {r2:RT} {l2:List r2.ty} {su:Value} (hs:Sim K w0 ρ st w) (hwi:st.wr i=true) (hb:st.h.get i=some bk) (hop:bk.op=some 0)
  (hkd:zu bk.cells= .tree .all rt xs kv) (c7:zdx (owT rt) p=true) (c8:owT rt (p++[(idx,cell)])=true)
  (hnl:zpb ((sub p rt xs).1.leaves ((sub p rt xs).2.getD idx (sub p rt xs).1.dflt)) cell= .list r2 l2) (hsu:den ρ (.lw i kv (p++[(idx,cell)]) sz0 n0) su):
  ∃S F A2 c2' Gc,SimF K w0 ρ S F st w∧su= .slice A2 l2.length c2'∧LfO w S (.list r2 l2) (fun q=>owT rt (p++(idx,cell)::q)) Gc su∧(∀y,Gc y→F i y)∧(∀y,Gc y→y<w.heap.size)∧(∀y,Gc y→¬S y)∧
   (∀q,owT rt (p++(idx,cell)::q)=owT r2 q)∧
   ∀(own rel:List Nat) (zs:List r2.ty) (xs':List rt.ty),zcA (i::(own++rel))=true→zur (zcf idx cell [.list r2 zs]) p rt xs=some xs'→
    ∀(w1:World) (A1:Option Addr) (cn:Nat) (G2:Nat→Prop),Kp (fun y=>y<w.heap.size∧¬Gc y) w w1→LfO w1 (fun y=>S y∨Gn F st rel y) (.list r2 zs) (fun q=>owT rt (p++(idx,cell)::q)) G2 (.slice A1 zs.length cn)→
     (∀y,G2 y→y<w1.heap.size∧((Gc y∨Gn F st own y)∨w.heap.size≤y))→
     ∃ρ',Ext st.n (Nat.succ (Nat.succ st.n)) ρ ρ'∧Sim K w0 ρ' (zJD st own rel i kv bk.ty p rt xs xs' idx cell) w1∧den ρ' (.lw (Nat.succ st.n) (Nat.succ st.n) [] r2.size zs.length) (.slice A1 zs.length cn):=by
 obtain ⟨S,F,hs⟩:=hs;simp only [den] at hsu;obtain ⟨g',hg',hlv,hgn⟩:=hsu;have hver:ze1 kv kv (p++[(idx,cell)])=true:=by cases p<;>exact Nat.beq_refl kv
 obtain ⟨x',c,hi,ht,hhd',hK⟩:=Sim.at_ hs hb hop hkd hver hg';obtain ⟨g,hhd,hst⟩:=ztk hhd';have hFS:∀y,F i y→¬S y:=fun y hy=>hs.sd i bk y hb hwi hy;obtain ⟨G,g1,g2,g3⟩:=LfO.focus (ow:=owT rt) ht.own c7 hhd hFS;have hGS:∀y,G y→¬S y:=fun y hy=>hFS y (g1 y hy);have hop0:(fun q=>owT rt (p++q)) []=true:=by
  show owT rt (p++[])=true;rw [List.append_nil];exact zhQ c7
 have hleaf:=zpc hnl;obtain ⟨gA,gm,gc⟩:=g;simp only [hdrs] at hst;split at hst
 case h_2=>cases hst
 rename_i b1 o1 x1 hx1;have hidx:idx<(sub p rt xs).2.length:=(zNa.1 hx1).1;have hx1':(sub p rt xs).2.getD idx (sub p rt xs).1.dflt=x1:=by rw [List.getD_eq_getElem?_getD,hx1];rfl
 obtain ⟨b,cs,T,Gi,hA,hGb,hblk,hroom,hGi,hGd,hold,hrow⟩:=LfO.row g2 hop0 hidx hGS;simp only [zNn,Addr.mk.injEq,and_true] at hA;obtain ⟨rfl,rfl⟩:=hA;split at hst
 case h_2=>cases hst
 rename_i t3 l3 hl3;split at hst
 case h_2=>cases hst
 rename_i A2 m2 c2' hcell;obtain rfl:=zM8 hst;rw [hx1'] at hleaf;rw [hleaf] at hl3;obtain ⟨rfl,hl3⟩:=Leaf.list.inj (zM8 hl3);obtain rfl:=eq_of_heq hl3;have hleaf':=hleaf;rw [←hx1'] at hleaf';have hlo:=hold cell _ hleaf';have hcsz:idx*(sub p rt xs).1.size+cell<cs.size:=by
  have:=(zNa.1 hleaf).1;rw [RT.leaves_len] at this;rw [Nat.succ_mul] at hroom;omega
 have hcv:cs.getD (idx*(sub p rt xs).1.size+cell) undef= .slice A2 m2 c2':=by
  rw [hblk.cell,Nat.zero_add] at hcell;rw [Array.getD_eq_getD_getElem?,hcell];rfl
 rw [hcv] at hlo;obtain ⟨A3,c3',e3,hcl,hmx⟩:=hlo.rd.slice;simp only [Value.slice.injEq] at e3;obtain ⟨rfl,rfl,rfl⟩:=e3;have hsv:su= .slice A2 l2.length c2':=by
  obtain ⟨_,_,A',e,hA',_⟩:=hlv;have h1:A'=A2:=hA' rfl;rw [e,h1, ←hgn];rfl
 subst hsv;have hGF:∀y,Gi cell y→F i y:=fun y hy=>g1 y (hGi cell y hy).1;have howp:∀q,owT rt (p++(idx,cell)::q)=owT r2 q:=fun q=>by
  have e:=zms (p:=p++[(idx,cell)]) c8 hhd' q;rw [List.append_assoc] at e;rw [show p++(idx,cell)::q=p++([(idx,cell)]++q) from rfl,e,zog,hnl]
 have hFb:F i b1:=g1 b1 hGb;refine ⟨S,F,A2,c2',Gi cell,hs,rfl,hlo,hGF,fun y hy=>ht.lt y (hGF y hy),fun y hy=>hFS y (hGF y hy),howp,?_⟩;intro own rel zs xs' hap hxs' w1 A1 cn G2 r2' r3 r4;have hnd:=zbm hap;have hni:i∉own++rel:=(List.nodup_cons.1 hnd).1;have hnd2:=zNq.1 (List.nodup_cons.1 hnd).2;have hoff:∀{l:List Nat},(∀j,j∈l→j≠i)→∀y,Gn F st l y→¬F i y:=fun {l} hl y hy hy'=>by
  obtain ⟨j,j1,j2,⟨bj,j3⟩,j4⟩:=hy;exact hs.sep j i bj bk y j3 hb (hl j j1) (.inl j2) j4 hy'
 have hHF:∀y,Gn F st own y→¬F i y:=hoff fun j hj e=>hni (by rw [←e];simp [hj])
 have hRF:∀y,Gn F st rel y→¬F i y:=hoff fun j hj e=>hni (by rw [←e];simp [hj])
 have hb1G:¬Gi cell b1:=fun hy=>(hGi cell b1 hy).2 rfl;have hblk1:Blk w1 b1 T cs:=hblk.same (r2'.block b1 ⟨hblk.lt,hb1G⟩);have hroom2:idx*(sub p rt xs).1.size+cell+1≤cs.size:=hcsz;have hkp2:=Kp.setRow w1 b1 (splice cs.toList (idx*(sub p rt xs).1.size+cell) [.slice A1 zs.length cn]).toArray;have hblk2:Blk (w1.setRow b1 (splice cs.toList (idx*(sub p rt xs).1.size+cell) [.slice A1 zs.length cn]).toArray) b1 T (splice cs.toList (idx*(sub p rt xs).1.size+cell) [.slice A1 zs.length cn]).toArray:=hblk1.setRow _ (by rw [List.size_toArray,zam (by simpa using hroom2),Array.length_toList])
 generalize hw2:w1.setRow b1 (splice cs.toList (idx*(sub p rt xs).1.size+cell) [.slice A1 zs.length cn]).toArray=w2 at hkp2 hblk2;have hHnF:∀y,(Gn F st own y∨(w.heap.size≤y∧y<w1.heap.size))→¬F i y:=fun y h hy=>by
  rcases h with h|h
  ·exact hHF y h hy
  ·have:=ht.lt y hy;omega
 have he:∀y,y<w.heap.size→y≠b1→¬Gi cell y→w2.heap[y]? =w.heap[y]? :=fun y h1 h2 h3=>(hkp2.block y ⟨zNd h1 r2'.size,h2⟩).trans (r2'.block y ⟨h1,h3⟩);have hS':∀y,(S y∨Gn F st rel y)→y<w.heap.size∧¬F i y:=fun y hy=>by
  rcases hy with hy|hy
  ·exact ⟨hs.sl y hy,fun h=>hFS y h hy⟩
  ·exact ⟨(hy.lt hs).1,hRF y hy⟩
 have hG2:∀y,G2 y→y≠b1:=fun y hy e=>by
  rcases (r4 y hy).2 with (h|h)|h
  ·exact (hGi cell y h).2 e
  ·exact hHF y h (e▸hFb)
  ·have:=hblk.lt;omega
 have hkn:cell+1≤(sub p rt xs).1.size:=by
  have:=(zNa.1 hleaf).1;rw [RT.leaves_len] at this;exact this
 obtain ⟨ys',hys'⟩:=zjU hxs';obtain ⟨y',hy',rfl⟩:∃y',(sub p rt xs).1.build (splice ((sub p rt xs).1.leaves ((sub p rt xs).2.getD idx (sub p rt xs).1.dflt)) cell [.list r2 zs])=some y'∧ys'=(sub p rt xs).2.set idx y':=by
  have h2:=hys';unfold zcf at h2;split at h2
  ·rename_i y' hy';exact ⟨y',hy',(zM8 h2).symm⟩
  ·cases h2
 have hyl:=RT.build_ok hy';have hcLen:c.m=xs'.length:=by
  rw [ht.len,zl0 (f:=zcf idx cell [.list r2 zs]) (fun u l l' h=>by
   unfold zcf at h;split at h
   ·obtain rfl:=zM8 h;simp
   ·cases h) hxs']
 have hd:LfO w2 (fun y=>S y∨Gn F st rel y) (.list rt xs') (owT rt) (fun y=>F i y∨(Gn F st own y∨(w.heap.size≤y∧y<w1.heap.size))) (zal x' c).val:=by
  refine g3 w2 _ _ (owT rt) _ _ xs' (fun y hy hny=>he y (ht.lt y hy) (fun e=>hny (e▸hGb)) (fun h=>hny (hGi cell y h).1)) (fun y hy=>he y (hs.sl y hy) (fun e=>hFS b1 hFb (e▸hy)) (fun h=>hFS y (hGF y h) hy)) (fun y hy=> .inl hy) hHnF (fun q _=>rfl) hys' ?_ hxs';refine hrow w2 _ _ (fun q=>owT rt (p++q)) cell [.slice A1 zs.length cn] [.list r2 zs] y' (fun q y=>q=0∧G2 y) rfl hkn hyl (fun q y ⟨e,hy⟩=>?_) (fun q q' y ⟨e,_⟩ ⟨e',_⟩=>e.trans e'.symm) (fun y hy hGy=>hHnF y hy (g1 y hGy)) (fun y hy=> .inl hy) (fun q _=>rfl) (fun y h1 h2 h3=>he y h1 h2 (by simpa using h3 0 (by simp))) hblk2 (fun q lf v hq hvq=>?_)
  ·subst e;obtain ⟨h1,h2⟩:=r4 y hy;rcases h2 with (h2|h2)|h2
   ·exact .inr h2
   ·exact .inl (.inl h2)
   ·exact .inl (.inr ⟨h2,h1⟩)
  ·cases q with
   |zero=>
    simp only [List.getElem?_cons_zero,zNn] at hq hvq;subst hq;subst hvq;exact (r3.keep (fun y hy hlt=>hkp2.block y ⟨hlt,hG2 y hy⟩) (fun y hy=>hy) (fun y hy hlt=>hkp2.block y ⟨hlt,fun e=>(hS' y hy).2 (e▸hFb)⟩)).wide fun y hy=>⟨rfl,hy⟩
   |succ q=>simp at hq
 have s1:=hs.give own rel;obtain ⟨s2,e2⟩:=s1.nameG (Kp.refl _ w) (fun _ _ _ _ _=>rfl) (fun _ _=>rfl) ⟨0,[.ver],some 0⟩ 0 ⟨0,0,none,fun p'=>hdrs w2 p' rt xs' (zal x' c),fun _=>False⟩ (fun _=>False) ⟨fun e=>absurd rfl e,fun _=>fun y hy=>hy⟩ (fun y hy=>hy.elim);obtain ⟨s3,e3⟩:=s2.nameG (Kp.refl _ w) (fun _ _ _ _ _=>rfl) (fun _ _=>rfl) ⟨0,[.ver],some 0⟩ 0 ⟨cn,zs.length,A1,fun _=>none,fun _=>False⟩ (fun _=>False) ⟨fun e=>absurd rfl e,fun _=>fun y hy=>hy⟩ (fun y hy=>hy.elim);have hin:i<st.n:=hs.dom i (by rw [hi];simp)
 have hbi:(((zaz st.h (own++rel)).set st.n ⟨0,[.ver],some 0⟩).set (st.n+1) ⟨0,[.ver],some 0⟩).get i=some bk:=by
  rw [Go.Proofs.YtiepllpgifnloaaGreat.Vx.T.get_put,if_neg (by omega),Go.Proofs.YtiepllpgifnloaaGreat.Vx.T.get_put,if_neg (by omega),zg0 hni];exact hb
 have hFi2:Fup (Fup F st.n (fun _=>False)) (st.n+1) (fun _=>False) i=F i:=by rw [zap (by omega),zap (by omega)]
 have e4:=e2.trans e3;have hiU:=e4.le _ _ hi;obtain ⟨g0,hg0⟩:∃g0,hdrOf ρ i kv p g0∧g0=(some ⟨b1,0,none⟩,gm,gc):=by
  obtain ⟨xa,ca,ya,da,q1,q2,q3⟩:=hg';rw [hi] at q1;obtain ⟨rfl,rfl⟩:=zNb (zM8 q1);obtain ⟨yk,dk,hk1,hk2⟩:=ht.hds;refine ⟨_,⟨x',c,yk,dk,hi,hk1,?_⟩,rfl⟩;cases p with
  |nil=>exact (zM8 hhd).symm
  |cons e p=>show dk.hd (e::p)=_;rw [hk2];exact hhd
 obtain ⟨hg0,rfl⟩:=hg0;have s4:=s3.write2 i hbi hwi hiU ⟨bk.ty,[.tre .all rt xs' st.n, .ep i kv p (sub p rt xs).1.size idx cell, .ptr (Nat.succ st.n) 0],some 0⟩ w1 (fun y=>F i y∨(Gn F st own y∨(w.heap.size≤y∧y<w1.heap.size))) (fun y hy=>?_) (by rw [hFi2];exact r2'.mono fun y hy=>⟨hy.1,fun h=>hy.2 (hGF y h)⟩) ⟨fun e=>absurd rfl e,fun _=>?_⟩
 ·refine ⟨_,e4,⟨_,_,s4⟩,?_⟩
  ·simp only [den];have hrd:=r3.rd;obtain ⟨A',c',ee,hh1,hh2⟩:=hrd.slice;simp only [Value.slice.injEq] at ee;obtain ⟨rfl,_,rfl⟩:=ee;refine ⟨(A1,zs.length,cn),⟨0,⟨cn,zs.length,A1,fun _=>none,fun _=>False⟩,0,⟨cn,zs.length,A1,fun _=>none,fun _=>False⟩,by simp [Rho.up],by simp [Rho.up],rfl⟩,⟨by simp,by simpa using hh1,A1,by simp,fun _=>rfl,fun hn=>?_⟩,rfl⟩
   have hne:zs≠[]:=fun e=>hn (by have:=congrArg List.length e;simpa using this)
   cases hrd with
   |list _ _ _ _ vf h1 h2 h3 hc hr=>
    obtain ⟨b,o,e,_⟩:=h3 hne;exact ⟨b,o,e,by simpa using e⟩
 ·rcases hy with hy|hy|hy
  ·exact .inl (by rw [hFi2];exact hy)
  ·refine .inr (.inr ⟨(hy.lt hs).2.1,fun hS=>?_,fun j bj hj hyj=>?_⟩)
   ·rcases hS with hS|hS
    ·exact (hy.lt hs).2.2 hS
    ·refine Gn.apart hs (fun q h1 h2=>?_) hy hS;exact hnd2.2.2 q h1 q h2 rfl
   ·rw [Go.Proofs.YtiepllpgifnloaaGreat.Vx.T.get_put] at hj;by_cases hjn:j=st.n+1
    ·rw [hjn,zV] at hyj;exact hyj
    ·rw [if_neg hjn] at hj;rw [zap hjn] at hyj;rw [Go.Proofs.YtiepllpgifnloaaGreat.Vx.T.get_put] at hj;by_cases hjn:j=st.n
     ·rw [hjn,zV] at hyj;exact hyj
     ·rw [if_neg hjn] at hj;rw [zap hjn] at hyj;obtain ⟨h3,h4⟩:=za2 hj;obtain ⟨q,q1,q2,⟨bq,q3⟩,q4⟩:=hy;exact hs.sep q j bq bj y q3 h3 (fun e=>h4 (by rw [←e];simp [q1])) (.inl q2) q4 hyj
  ·exact .inr (.inl hy.1)
 ·refine ⟨_,b1,T,cs,0,⟨cn,zs.length,A1,fun _=>none,fun _=>False⟩,hg0.mono e4.le,rfl, .inl hFb,hblk1,hcsz,by simp [Rho.up],?_⟩
  have hw2':w1.setRow b1 (cs.toList.take (idx*(sub p rt xs).1.size+cell)++[(zal 0 ⟨cn,zs.length,A1,fun _=>none,fun _=>False⟩).val]++cs.toList.drop (idx*(sub p rt xs).1.size+cell+1)).toArray=w2:=hw2;rw [hw2'];refine ⟨hcLen,hd,fun y hy=>?_,0,⟨0,0,none,fun p'=>hdrs w2 p' rt xs' (zal x' c),fun _=>False⟩,by simp [Rho.up],rfl⟩
  have hsz:w2.heap.size=w1.heap.size:=by rw [←hw2];exact zh0 _ _ _
  rw [hsz];rcases hy with hy|hy|hy
  ·exact zNd (ht.lt y hy) r2'.size
  ·exact zNd (hy.lt hs).1 r2'.size
  ·exact hy.2
theorem LfO.rowsG {w:World} {S G0:Nat→Prop} {t:RT} {l:List t.ty} {ow:Path→Bool} {A:Option Addr} {c:Nat} (h:LfO w S (.list t l) ow G0 (.slice A l.length c)) (h0:ow []=true):
  ∃Gc:Nat→Nat→Nat→Prop,(∀i j y,Gc i j y→G0 y∧A≠some ⟨y,0,none⟩)∧(∀i j i' j' y,Gc i j y→Gc i' j' y→i=i'∧j=j')∧
   (l=[]∧c=0∨∃b T cs,A=some ⟨b,0,none⟩∧G0 b∧Blk w b T cs∧cs.size=c*t.size∧l.length≤c∧
    ∀(i:Nat) x,l[i]? =some x→∀(j:Nat) lf,(t.leaves x)[j]? =some lf→LfO w S lf (fun q=>ow ((i,j)::q)) (Gc i j) (cs.getD (i*t.size+j) undef)):=by
 generalize hn:l.length=n at h;cases h with
 |shr _ _ _ _ _ h1=>rw [h0] at h1;cases h1
 |nil=>exact ⟨fun _ _ _=>False,fun _ _ _ h=>h.elim,fun _ _ _ _ _ h=>h.elim, .inl ⟨rfl,rfl⟩⟩
 |list _ _ _ _ _ b T cs G _ h1 h2 hb hk hs hG hd hr=>
  exact ⟨G,fun i j y hy=>⟨(hG i j y hy).1,fun e=>(hG i j y hy).2 (by simp at e;exact e.symm)⟩,hd, .inr ⟨b,T,cs,rfl,hb,hk,hs,h1,hr⟩⟩
theorem LfO.pick {w w1:World} {S S' G0 H:Nat→Prop} {rt:RT} {xs ys zs:List rt.ty} {ow:Path→Bool} {A:Option Addr} {c b1 c1:Nat} {T1:TypeId} {cs1:Array Value} {us olds:List Value} {Hc:Nat→Nat→Nat→Prop}
  (hbase:LfO w S (.list rt xs) ow G0 (.slice A xs.length c)) (h0:ow []=true) (how:∀i i' j q,ow ((i,j)::q)=ow ((i',j)::q)) (hSS:∀y,S y→S' y) (hSl:∀y,S' y→y<w.heap.size)
  (hGl:∀y,G0 y→y<w.heap.size) (hHl:∀y,H y→y<w.heap.size)
  (hH1:∀i j y,Hc i j y→H y) (hH2:∀i j i' j' y,j<rt.size→j'<rt.size→Hc i j y→Hc i' j' y→i=i'∧j=j')
  (hH3:∀(i:Nat) x,ys[i]? =some x→∀(j:Nat) lf,(rt.leaves x)[j]? =some lf→∃v,us[i*rt.size+j]? =some v∧LfO w S' lf (fun q=>ow ((xs.length+i,j)::q)) (Hc i j) v)
  (hGH:∀y,H y→¬G0 y) (src:Nat→Bool×Nat) (hinj:∀e e',e<zs.length→e'<zs.length→src e=src e'→e=e')
  (hz:∀e z,zs[e]? =some z→(src e).1=true∧ys[(src e).2]? =some z∨(src e).1=false∧xs[(src e).2]? =some z)
  (hblk:Blk w1 b1 T1 cs1) (hsz:cs1.size=c1*rt.size) (hc1:zs.length≤c1) (hmx:zs.length≤maxLen)
  (hold:∀(b:Nat) (T:TypeId) (cs:Array Value),A=some ⟨b,0,none⟩→Blk w b T cs→∀(q:Nat) (v:Value),olds[q]? =some v→cs[q]? =some v) (hol:olds.length=xs.length*rt.size)
  (hcell:∀e j,e<zs.length→j<rt.size→cs1.getD (e*rt.size+j) undef=bif (src e).1 then us.getD ((src e).2*rt.size+j) undef else olds.getD ((src e).2*rt.size+j) undef)
  (keep:∀y,y<w.heap.size→A≠some ⟨y,0,none⟩→w1.heap[y]? =w.heap[y]?) (hAS:∀y,S' y→A≠some ⟨y,0,none⟩) (hAH:∀y,H y→A≠some ⟨y,0,none⟩)
  (hb1:A=some ⟨b1,0,none⟩∨w.heap.size≤b1):
  LfO w1 S' (.list rt zs) ow (fun y=>G0 y∨H y∨y=b1) (.slice (some ⟨b1,0,none⟩) zs.length c1):=by
 obtain ⟨Gc,g1,g2,g3⟩:=hbase.rowsG h0;have nb:∀y,y<w.heap.size→A≠some ⟨y,0,none⟩→y≠b1:=fun y hy hA e=>by
  rcases hb1 with h|h
  ·exact hA (e▸h)
  ·omega
 refine .list rt zs ow _ c1 b1 T1 cs1 (fun e j y=>(j<rt.size∧e<zs.length)∧((src e).1=true∧Hc (src e).2 j y∨(src e).1=false∧Gc (src e).2 j y)) h0 hc1 hmx (.inr (.inr rfl)) hblk hsz ?_ ?_ ?_
 ·rintro e j y ⟨_,⟨_,hy⟩|⟨_,hy⟩⟩
  ·exact ⟨.inr (.inl (hH1 _ _ _ hy)),nb y (hHl _ (hH1 _ _ _ hy)) (hAH _ (hH1 _ _ _ hy))⟩
  ·exact ⟨.inl (g1 _ _ _ hy).1,nb y (hGl _ (g1 _ _ _ hy).1) (g1 _ _ _ hy).2⟩
 ·rintro e j e' j' y ⟨⟨k1,k2⟩,h⟩ ⟨⟨k3,k4⟩,h'⟩
  have key:src e=src e'∧j=j':=by
   rcases h with ⟨a1,a2⟩|⟨a1,a2⟩<;>rcases h' with ⟨a3,a4⟩|⟨a3,a4⟩
   ·obtain ⟨e1,e2⟩:=hH2 _ _ _ _ _ k1 k3 a2 a4;exact ⟨Prod.ext (a1.trans a3.symm) e1,e2⟩
   ·exact absurd (g1 _ _ _ a4).1 (hGH _ (hH1 _ _ _ a2))
   ·exact absurd (g1 _ _ _ a2).1 (hGH _ (hH1 _ _ _ a4))
   ·obtain ⟨e1,e2⟩:=g2 _ _ _ _ _ a2 a4;exact ⟨Prod.ext (a1.trans a3.symm) e1,e2⟩
  exact ⟨hinj e e' k2 k4 key.1,key.2⟩
 ·intro e z hez j lf hj;have hel:=(zNa.1 hez).1;have hjl:=(zNa.1 hj).1;rw [RT.leaves_len] at hjl;rw [hcell e j hel hjl];rcases hz e z hez with ⟨k1,k2⟩|⟨k1,k2⟩
  ·rw [k1];obtain ⟨v,hv,hl⟩:=hH3 _ _ k2 _ _ hj;have e1:us.getD ((src e).2*rt.size+j) undef=v:=by rw [List.getD_eq_getElem?_getD,hv];rfl
   simp only [cond_true,e1];rw [show (fun q=>ow ((e,j)::q))=fun q=>ow ((xs.length+(src e).2,j)::q) from funext fun q=>how _ _ _ _];exact (hl.keep (fun y hy hlt=>keep y hlt (hAH y (hH1 _ _ _ hy))) (fun y hy=>hy) (fun y hy hlt=>keep y hlt (hAS y hy))).wide fun y hy=>⟨⟨hjl,hel⟩, .inl ⟨by trivial,hy⟩⟩
  ·rw [k1];simp only [cond_false];have hxl:=(zNa.1 k2).1;rcases g3 with ⟨h,_⟩|⟨b,T,cs,hA,hGb,hb,hcs,hlc,hr⟩
   ·rw [h] at hxl;simp at hxl
   ·have hl:=hr _ _ k2 _ _ hj;have hlt:(src e).2*rt.size+j<olds.length:=by
     rw [hol]
     calc (src e).2*rt.size+j<(src e).2*rt.size+rt.size:=by omega
      _=((src e).2+1)*rt.size:=by rw [zNr,Nat.one_mul]
      _≤xs.length*rt.size:=zNe _ hxl
    have e1:olds.getD ((src e).2*rt.size+j) undef=cs.getD ((src e).2*rt.size+j) undef:=by
     rw [List.getD_eq_getElem?_getD,zNg hlt,Array.getD_eq_getD_getElem?,hold b T cs hA hb _ _ (zNg hlt)]
    rw [e1];rw [show (fun q=>ow ((e,j)::q))=fun q=>ow (((src e).2,j)::q) from funext fun q=>how _ _ _ _];exact (hl.keep (fun y hy hlt=>keep y hlt (g1 _ _ _ hy).2) hSS (fun y hy hlt=>keep y hlt (hAS y (hSS y hy)))).wide fun y hy=>⟨⟨hjl,hel⟩, .inr ⟨by trivial,hy⟩⟩
open Go.RowKit Go.Proofs
set_option maxRecDepth 100000
@[irreducible] def zMV (T O R:Nat):Code:=
 (((Go.Code.region 13
  #[{dst:=some 56,op:=Go.Op.move (Go.Operand.tmp 0),type:=T,pos:= "slices.go:157",
     after:= #[],guard:=none},
   {dst:=some 57,op:=Go.Op.move (Go.Operand.tmp 8),type:=3,pos:= "slices.go:157",
    after:= #[],guard:=none},
   {dst:=some 58,op:=Go.Op.move (Go.Operand.tmp 7),type:=3,pos:= "slices.go:157",
    after:= #[],guard:=none},
   {dst:=some 59,
    op:=Go.Op.binOp Go.BinOp.add 3 (Go.Operand.tmp 57) (Go.Operand.tmp 58) 3,type:=3,
    pos:= "slices.go:157",
    after:= #[{on:=1,ground:=Go.Ground.data},{on:=2,ground:=Go.Ground.data}],
    guard:=none},
   {dst:=some 60,
    op:=Go.Op.slice T (Go.Operand.tmp 56) none (some (Go.Operand.tmp 59)) none,type:=T,
    pos:= "slices.go:157",
    after:= #[{on:=0,ground:=Go.Ground.data},{on:=3,ground:=Go.Ground.data}],
    guard:=none},
   {dst:=some 0,op:=Go.Op.assign (Go.Operand.tmp 60),type:=T,pos:= "slices.go:157",
    after:=
     #[{on:=4,ground:=Go.Ground.data},{on:=0,ground:=Go.Ground.phase},
       {on:=1,ground:=Go.Ground.phase},{on:=2,ground:=Go.Ground.phase},
       {on:=3,ground:=Go.Ground.phase},{on:=4,ground:=Go.Ground.phase}],
    guard:=none}]
  false)).seq (((((Go.Code.region 14
        #[{dst:=some 61,op:=Go.Op.move (Go.Operand.tmp 2),type:=T,
           pos:= "slices.go:173",after:= #[],guard:=none},
         {dst:=some 62,op:=Go.Op.move (Go.Operand.tmp 0),type:=T,
          pos:= "slices.go:173",after:= #[],guard:=none},
         {dst:=some 63,op:=Go.Op.move (Go.Operand.tmp 1),type:=3,
          pos:= "slices.go:173",after:= #[],guard:=none},
         {dst:=some 64,op:=Go.Op.move (Go.Operand.tmp 7),type:=3,
          pos:= "slices.go:173",after:= #[],guard:=none},
         {dst:=some 65,
          op:=Go.Op.binOp Go.BinOp.add 3 (Go.Operand.tmp 63) (Go.Operand.tmp 64) 3,
          type:=3,pos:= "slices.go:173",
          after:=
           #[{on:=2,ground:=Go.Ground.data},{on:=3,ground:=Go.Ground.data}],
          guard:=none},
         {dst:=some 66,
          op:=Go.Op.slice T (Go.Operand.tmp 62) (some (Go.Operand.tmp 65)) none none,
          type:=T,pos:= "slices.go:173",
          after:=
           #[{on:=1,ground:=Go.Ground.data},{on:=4,ground:=Go.Ground.data}],
          guard:=none},
         {dst:=some 67,
          op:=
           Go.Op.call
            {callee:=Go.Callee.value (Go.Operand.func O),
             args:= #[Go.Operand.tmp 61,Go.Operand.tmp 66],argTypes:= #[T,T]},
          type:=4,pos:= "slices.go:173",
          after:=
           #[{on:=0,ground:=Go.Ground.data},{on:=5,ground:=Go.Ground.data}],
          guard:=none},
         {dst:=some 68,op:=Go.Op.unOp Go.UnOp.not 4 (Go.Operand.tmp 67),type:=4,
          pos:= "slices.go:173",after:= #[{on:=6,ground:=Go.Ground.data}],
          guard:=none}]
        false).seq
   (Go.Code.cond (Go.Operand.tmp 68)
    ((Go.Code.region 15
       #[{dst:=some 69,op:=Go.Op.move (Go.Operand.tmp 0),type:=T,
          pos:= "slices.go:178",after:= #[],guard:=none},
        {dst:=some 70,op:=Go.Op.move (Go.Operand.tmp 1),type:=3,
         pos:= "slices.go:178",after:= #[],guard:=none},
        {dst:=some 71,op:=Go.Op.move (Go.Operand.tmp 7),type:=3,
         pos:= "slices.go:178",after:= #[],guard:=none},
        {dst:=some 72,
         op:=Go.Op.binOp Go.BinOp.add 3 (Go.Operand.tmp 70) (Go.Operand.tmp 71) 3,
         type:=3,pos:= "slices.go:178",
         after:=
          #[{on:=1,ground:=Go.Ground.data},
            {on:=2,ground:=Go.Ground.data}],
         guard:=none},
        {dst:=some 73,
         op:=Go.Op.slice T (Go.Operand.tmp 69) (some (Go.Operand.tmp 72)) none none,
         type:=T,pos:= "slices.go:178",
         after:=
          #[{on:=0,ground:=Go.Ground.data},
            {on:=3,ground:=Go.Ground.data}],
         guard:=none},
        {dst:=some 74,op:=Go.Op.move (Go.Operand.tmp 0),type:=T,
         pos:= "slices.go:178",after:= #[],guard:=none},
        {dst:=some 75,op:=Go.Op.move (Go.Operand.tmp 1),type:=3,
         pos:= "slices.go:178",after:= #[],guard:=none},
        {dst:=some 76,
         op:=Go.Op.slice T (Go.Operand.tmp 74) (some (Go.Operand.tmp 75)) none none,
         type:=T,pos:= "slices.go:178",
         after:=
          #[{on:=5,ground:=Go.Ground.data},
            {on:=6,ground:=Go.Ground.data}],
         guard:=none},
        {dst:=some 77,
         op:=
          Go.Op.call
           {callee:=Go.Callee.builtin Go.Builtin.copy,
            args:= #[Go.Operand.tmp 73,Go.Operand.tmp 76],argTypes:= #[T,T]},
         type:=3,pos:= "slices.go:178",
         after:=
          #[{on:=4,ground:=Go.Ground.data},
            {on:=7,ground:=Go.Ground.data}],
         guard:=none}]
       true).seq
     ((Go.Code.region 16
        #[{dst:=some 78,op:=Go.Op.move (Go.Operand.tmp 0),type:=T,
           pos:= "slices.go:186",after:= #[],guard:=none},
         {dst:=some 79,op:=Go.Op.move (Go.Operand.tmp 1),type:=3,
          pos:= "slices.go:186",after:= #[],guard:=none},
         {dst:=some 80,
          op:=Go.Op.slice T (Go.Operand.tmp 78) (some (Go.Operand.tmp 79)) none none,
          type:=T,pos:= "slices.go:186",
          after:=
           #[{on:=0,ground:=Go.Ground.data},
             {on:=1,ground:=Go.Ground.data}],
          guard:=none},
         {dst:=some 81,op:=Go.Op.move (Go.Operand.tmp 2),type:=T,
          pos:= "slices.go:186",after:= #[],guard:=none},
         {dst:=some 82,
          op:=
           Go.Op.call
            {callee:=Go.Callee.builtin Go.Builtin.copy,
             args:= #[Go.Operand.tmp 80,Go.Operand.tmp 81],
             argTypes:= #[T,T]},
          type:=3,pos:= "slices.go:186",
          after:=
           #[{on:=2,ground:=Go.Ground.data},
             {on:=3,ground:=Go.Ground.data}],
          guard:=none}]
        false).seq
      ((Go.Code.region 17
        #[{dst:=some 83,op:=Go.Op.move (Go.Operand.tmp 0),type:=T,
           pos:= "slices.go:193",after:= #[],guard:=none},
         {dst:=some 6,op:=Go.Op.assign (Go.Operand.tmp 83),type:=T,
          pos:= "slices.go:193",
          after:=
           #[{on:=0,ground:=Go.Ground.data},
             {on:=0,ground:=Go.Ground.phase}],
          guard:=none}]
        false).seq
       Go.Code.ret)))
    Go.Code.skip))).seq ((((Go.Code.region 18
    #[{dst:=some 84,op:=Go.Op.move (Go.Operand.tmp 0),type:=T,
       pos:= "slices.go:200",after:= #[],guard:=none},
     {dst:=some 85,op:=Go.Op.move (Go.Operand.tmp 8),type:=3,
      pos:= "slices.go:200",after:= #[],guard:=none},
     {dst:=some 86,
      op:=Go.Op.slice T (Go.Operand.tmp 84) (some (Go.Operand.tmp 85)) none none,
      type:=T,pos:= "slices.go:200",
      after:=
       #[{on:=0,ground:=Go.Ground.data},{on:=1,ground:=Go.Ground.data}],
      guard:=none},
     {dst:=some 87,op:=Go.Op.move (Go.Operand.tmp 2),type:=T,
      pos:= "slices.go:200",after:= #[],guard:=none},
     {dst:=some 88,
      op:=
       Go.Op.call
        {callee:=Go.Callee.builtin Go.Builtin.copy,
         args:= #[Go.Operand.tmp 86,Go.Operand.tmp 87],argTypes:= #[T,T]},
      type:=3,pos:= "slices.go:200",
      after:=
       #[{on:=2,ground:=Go.Ground.data},{on:=3,ground:=Go.Ground.data}],
      guard:=none}]
    false)).seq ((((Go.Code.region 19
     #[{dst:=some 89,op:=Go.Op.move (Go.Operand.tmp 0),type:=T,
        pos:= "slices.go:207",after:= #[],guard:=none},
      {dst:=some 90,op:=Go.Op.move (Go.Operand.tmp 1),type:=3,
       pos:= "slices.go:207",after:= #[],guard:=none},
      {dst:=some 91,
       op:=Go.Op.slice T (Go.Operand.tmp 89) (some (Go.Operand.tmp 90)) none none,
       type:=T,pos:= "slices.go:207",
       after:=
        #[{on:=0,ground:=Go.Ground.data},{on:=1,ground:=Go.Ground.data}],
       guard:=none},
      {dst:=some 92,op:=Go.Op.move (Go.Operand.tmp 7),type:=3,
       pos:= "slices.go:207",after:= #[],guard:=none},
      {dst:=some 93,
       op:=
        Go.Op.call
         {callee:=Go.Callee.value (Go.Operand.func R),
          args:= #[Go.Operand.tmp 91,Go.Operand.tmp 92],argTypes:= #[T,3]},
       type:=0,pos:= "slices.go:207",
       after:=
        #[{on:=2,ground:=Go.Ground.data},{on:=3,ground:=Go.Ground.data}],
       guard:=none}]
     false)).seq ((((Go.Code.region 20
      #[{dst:=some 94,op:=Go.Op.move (Go.Operand.tmp 0),type:=T,
         pos:= "slices.go:214",after:= #[],guard:=none},
       {dst:=some 6,op:=Go.Op.assign (Go.Operand.tmp 94),type:=T,
        pos:= "slices.go:214",
        after:=
         #[{on:=0,ground:=Go.Ground.data},
           {on:=0,ground:=Go.Ground.phase}],
        guard:=none}]
      false)).seq (Go.Code.ret))))))))))
@[irreducible] def zHP (T O R:Nat):Code:=
 ((((Go.Code.region 8
    #[{dst:=some 26,op:=Go.Op.move (Go.Operand.tmp 8),type:=3,pos:= "slices.go:147",
       after:= #[],guard:=none},
     {dst:=some 27,op:=Go.Op.move (Go.Operand.tmp 7),type:=3,pos:= "slices.go:147",
      after:= #[],guard:=none},
     {dst:=some 28,
      op:=Go.Op.binOp Go.BinOp.add 3 (Go.Operand.tmp 26) (Go.Operand.tmp 27) 3,type:=3,
      pos:= "slices.go:147",
      after:=
       #[{on:=0,ground:=Go.Ground.data},{on:=1,ground:=Go.Ground.data}],
      guard:=none},
     {dst:=some 29,op:=Go.Op.move (Go.Operand.tmp 0),type:=T,pos:= "slices.go:147",
      after:= #[],guard:=none},
     {dst:=some 30,
      op:=
       Go.Op.call
        {callee:=Go.Callee.builtin Go.Builtin.cap,args:= #[Go.Operand.tmp 29],
         argTypes:= #[T]},
      type:=3,pos:= "slices.go:147",after:= #[{on:=3,ground:=Go.Ground.data}],
      guard:=none},
     {dst:=some 31,
      op:=Go.Op.binOp Go.BinOp.gtr 3 (Go.Operand.tmp 28) (Go.Operand.tmp 30) 3,type:=4,
      pos:= "slices.go:147",
      after:=
       #[{on:=2,ground:=Go.Ground.data},{on:=4,ground:=Go.Ground.data}],
      guard:=none}]
    false).seq
  (Go.Code.cond (Go.Operand.tmp 31)
   ((Go.Code.region 9
      #[{dst:=some 32,op:=Go.Op.move (Go.Operand.tmp 0),type:=T,
         pos:= "slices.go:152",after:= #[],guard:=none},
       {dst:=some 33,op:=Go.Op.move (Go.Operand.tmp 1),type:=3,
        pos:= "slices.go:152",after:= #[],guard:=none},
       {dst:=some 34,
        op:=Go.Op.slice T (Go.Operand.tmp 32) none (some (Go.Operand.tmp 33)) none,
        type:=T,pos:= "slices.go:152",
        after:=
         #[{on:=0,ground:=Go.Ground.data},{on:=1,ground:=Go.Ground.data}],
        guard:=none},
       {dst:=some 35,op:=Go.Op.move (Go.Operand.tmp 8),type:=3,
        pos:= "slices.go:152",after:= #[],guard:=none},
       {dst:=some 36,op:=Go.Op.move (Go.Operand.tmp 7),type:=3,
        pos:= "slices.go:152",after:= #[],guard:=none},
       {dst:=some 37,
        op:=Go.Op.binOp Go.BinOp.add 3 (Go.Operand.tmp 35) (Go.Operand.tmp 36) 3,
        type:=3,pos:= "slices.go:152",
        after:=
         #[{on:=3,ground:=Go.Ground.data},{on:=4,ground:=Go.Ground.data}],
        guard:=none},
       {dst:=some 38,op:=Go.Op.move (Go.Operand.tmp 1),type:=3,
        pos:= "slices.go:152",after:= #[],guard:=none},
       {dst:=some 39,
        op:=Go.Op.binOp Go.BinOp.sub 3 (Go.Operand.tmp 37) (Go.Operand.tmp 38) 3,
        type:=3,pos:= "slices.go:152",
        after:=
         #[{on:=5,ground:=Go.Ground.data},{on:=6,ground:=Go.Ground.data}],
        guard:=none},
       {dst:=some 40,
        op:=
         Go.Op.call
          {callee:=Go.Callee.builtin Go.Builtin.append,
           args:= #[Go.Operand.tmp 34,Go.Operand.tmp 39],argTypes:= #[T,3]},
        type:=T,pos:= "slices.go:152",
        after:=
         #[{on:=2,ground:=Go.Ground.data},{on:=7,ground:=Go.Ground.data}],
        guard:=none},
       {dst:=some 9,op:=Go.Op.assign (Go.Operand.tmp 40),type:=T,
        pos:= "slices.go:152",
        after:=
         #[{on:=8,ground:=Go.Ground.data},{on:=8,ground:=Go.Ground.chain},
           {on:=0,ground:=Go.Ground.phase},{on:=1,ground:=Go.Ground.phase},
           {on:=2,ground:=Go.Ground.phase},{on:=3,ground:=Go.Ground.phase},
           {on:=4,ground:=Go.Ground.phase},{on:=5,ground:=Go.Ground.phase},
           {on:=6,ground:=Go.Ground.phase},{on:=7,ground:=Go.Ground.phase},
           {on:=8,ground:=Go.Ground.phase}],
        guard:=none}]
      false).seq
    ((Go.Code.region 10
       #[{dst:=some 41,op:=Go.Op.move (Go.Operand.tmp 9),type:=T,
          pos:= "slices.go:153",after:= #[],guard:=none},
        {dst:=some 42,op:=Go.Op.move (Go.Operand.tmp 1),type:=3,
         pos:= "slices.go:153",after:= #[],guard:=none},
        {dst:=some 43,
         op:=Go.Op.slice T (Go.Operand.tmp 41) (some (Go.Operand.tmp 42)) none none,
         type:=T,pos:= "slices.go:153",
         after:=
          #[{on:=0,ground:=Go.Ground.data},{on:=1,ground:=Go.Ground.data}],
         guard:=none},
        {dst:=some 44,op:=Go.Op.move (Go.Operand.tmp 2),type:=T,
         pos:= "slices.go:153",after:= #[],guard:=none},
        {dst:=some 45,
         op:=
          Go.Op.call
           {callee:=Go.Callee.builtin Go.Builtin.copy,
            args:= #[Go.Operand.tmp 43,Go.Operand.tmp 44],argTypes:= #[T,T]},
         type:=3,pos:= "slices.go:153",
         after:=
          #[{on:=2,ground:=Go.Ground.data},{on:=3,ground:=Go.Ground.data}],
         guard:=none}]
       false).seq
     ((Go.Code.region 11
        #[{dst:=some 46,op:=Go.Op.move (Go.Operand.tmp 9),type:=T,
           pos:= "slices.go:154",after:= #[],guard:=none},
         {dst:=some 47,op:=Go.Op.move (Go.Operand.tmp 1),type:=3,
          pos:= "slices.go:154",after:= #[],guard:=none},
         {dst:=some 48,op:=Go.Op.move (Go.Operand.tmp 7),type:=3,
          pos:= "slices.go:154",after:= #[],guard:=none},
         {dst:=some 49,
          op:=Go.Op.binOp Go.BinOp.add 3 (Go.Operand.tmp 47) (Go.Operand.tmp 48) 3,
          type:=3,pos:= "slices.go:154",
          after:=
           #[{on:=1,ground:=Go.Ground.data},
             {on:=2,ground:=Go.Ground.data}],
          guard:=none},
         {dst:=some 50,
          op:=Go.Op.slice T (Go.Operand.tmp 46) (some (Go.Operand.tmp 49)) none none,
          type:=T,pos:= "slices.go:154",
          after:=
           #[{on:=0,ground:=Go.Ground.data},
             {on:=3,ground:=Go.Ground.data}],
          guard:=none},
         {dst:=some 51,op:=Go.Op.move (Go.Operand.tmp 0),type:=T,
          pos:= "slices.go:154",after:= #[],guard:=none},
         {dst:=some 52,op:=Go.Op.move (Go.Operand.tmp 1),type:=3,
          pos:= "slices.go:154",after:= #[],guard:=none},
         {dst:=some 53,
          op:=Go.Op.slice T (Go.Operand.tmp 51) (some (Go.Operand.tmp 52)) none none,
          type:=T,pos:= "slices.go:154",
          after:=
           #[{on:=5,ground:=Go.Ground.data},
             {on:=6,ground:=Go.Ground.data}],
          guard:=none},
         {dst:=some 54,
          op:=
           Go.Op.call
            {callee:=Go.Callee.builtin Go.Builtin.copy,
             args:= #[Go.Operand.tmp 50,Go.Operand.tmp 53],argTypes:= #[T,T]},
          type:=3,pos:= "slices.go:154",
          after:=
           #[{on:=4,ground:=Go.Ground.data},
             {on:=7,ground:=Go.Ground.data}],
          guard:=none}]
        true).seq
      ((Go.Code.region 12
        #[{dst:=some 55,op:=Go.Op.move (Go.Operand.tmp 9),type:=T,
           pos:= "slices.go:155",after:= #[],guard:=none},
         {dst:=some 6,op:=Go.Op.assign (Go.Operand.tmp 55),type:=T,
          pos:= "slices.go:155",
          after:=
           #[{on:=0,ground:=Go.Ground.data},
             {on:=0,ground:=Go.Ground.phase}],
          guard:=none}]
        false).seq
       Go.Code.ret))))
   Go.Code.skip))).seq (zMV T O R))
def zhL (T O R:Nat):Code:=
 (((Go.Code.region 0
  #[{dst:=some 6,op:=Go.Op.assign (Go.Operand.const (Go.Value.slice none 0 0)),type:=T,
     pos:= "slices.go:136",after:= #[],guard:=none}]
  false)).seq ((((Go.Code.region 1
   #[{dst:=some 10,op:=Go.Op.move (Go.Operand.tmp 0),type:=T,pos:= "slices.go:137",after:= #[],
      guard:=none},
    {dst:=some 11,op:=Go.Op.move (Go.Operand.tmp 1),type:=3,pos:= "slices.go:137",after:= #[],
     guard:=none},
    {dst:=some 12,op:=Go.Op.slice T (Go.Operand.tmp 10) (some (Go.Operand.tmp 11)) none none,
     type:=T,pos:= "slices.go:137",
     after:= #[{on:=0,ground:=Go.Ground.data},{on:=1,ground:=Go.Ground.data}],
     guard:=none}]
   false)).seq ((((Go.Code.region 2
    #[{dst:=some 13,op:=Go.Op.move (Go.Operand.tmp 2),type:=T,pos:= "slices.go:139",
       after:= #[],guard:=none},
     {dst:=some 14,
      op:=
       Go.Op.call
        {callee:=Go.Callee.builtin Go.Builtin.len,args:= #[Go.Operand.tmp 13],argTypes:= #[T]},
      type:=3,pos:= "slices.go:139",after:= #[{on:=0,ground:=Go.Ground.data}],
      guard:=none},
     {dst:=some 7,op:=Go.Op.assign (Go.Operand.tmp 14),type:=3,pos:= "slices.go:139",
      after:=
       #[{on:=1,ground:=Go.Ground.data},{on:=0,ground:=Go.Ground.phase},
         {on:=1,ground:=Go.Ground.phase}],
      guard:=none}]
    false)).seq (((((Go.Code.region 3
          #[{dst:=some 15,op:=Go.Op.move (Go.Operand.tmp 7),type:=3,pos:= "slices.go:140",
             after:= #[],guard:=none},
           {dst:=some 16,
            op:=
             Go.Op.binOp Go.BinOp.eql 3 (Go.Operand.tmp 15)
              (Go.Operand.const (Go.Value.int Go.IntKind.i64 0)) 3,
            type:=4,pos:= "slices.go:140",after:= #[{on:=0,ground:=Go.Ground.data}],
            guard:=none}]
          false).seq
     (Go.Code.cond (Go.Operand.tmp 16)
      ((Go.Code.region 4
        #[{dst:=some 17,op:=Go.Op.move (Go.Operand.tmp 0),type:=T,pos:= "slices.go:141",
           after:= #[],guard:=none},
         {dst:=some 6,op:=Go.Op.assign (Go.Operand.tmp 17),type:=T,pos:= "slices.go:141",
          after:= #[{on:=0,ground:=Go.Ground.data},{on:=0,ground:=Go.Ground.phase}],
          guard:=none}]
        false).seq
       Go.Code.ret)
      Go.Code.skip))).seq ((((Go.Code.region 5
      #[{dst:=some 18,op:=Go.Op.move (Go.Operand.tmp 0),type:=T,pos:= "slices.go:143",
         after:= #[],guard:=none},
       {dst:=some 19,
        op:=
         Go.Op.call
          {callee:=Go.Callee.builtin Go.Builtin.len,args:= #[Go.Operand.tmp 18],
           argTypes:= #[T]},
        type:=3,pos:= "slices.go:143",after:= #[{on:=0,ground:=Go.Ground.data}],
        guard:=none},
       {dst:=some 8,op:=Go.Op.assign (Go.Operand.tmp 19),type:=3,pos:= "slices.go:143",
        after:=
         #[{on:=1,ground:=Go.Ground.data},{on:=0,ground:=Go.Ground.phase},
           {on:=1,ground:=Go.Ground.phase}],
        guard:=none}]
      false)).seq (((((Go.Code.region 6
            #[{dst:=some 20,op:=Go.Op.move (Go.Operand.tmp 1),type:=3,pos:= "slices.go:144",
               after:= #[],guard:=none},
             {dst:=some 21,op:=Go.Op.move (Go.Operand.tmp 8),type:=3,pos:= "slices.go:144",
              after:= #[],guard:=none},
             {dst:=some 22,
              op:=Go.Op.binOp Go.BinOp.eql 3 (Go.Operand.tmp 20) (Go.Operand.tmp 21) 3,type:=4,
              pos:= "slices.go:144",
              after:= #[{on:=0,ground:=Go.Ground.data},{on:=1,ground:=Go.Ground.data}],
              guard:=none}]
            false).seq
       (Go.Code.cond (Go.Operand.tmp 22)
        ((Go.Code.region 7
          #[{dst:=some 23,op:=Go.Op.move (Go.Operand.tmp 0),type:=T,
             pos:= "slices.go:145",after:= #[],guard:=none},
           {dst:=some 24,op:=Go.Op.move (Go.Operand.tmp 2),type:=T,
            pos:= "slices.go:145",after:= #[],guard:=none},
           {dst:=some 25,
            op:=
             Go.Op.call
              {callee:=Go.Callee.builtin Go.Builtin.append,
               args:= #[Go.Operand.tmp 23,Go.Operand.tmp 24],argTypes:= #[T,T]},
            type:=T,pos:= "slices.go:145",
            after:=
             #[{on:=0,ground:=Go.Ground.data},{on:=1,ground:=Go.Ground.data}],
            guard:=none},
           {dst:=some 6,op:=Go.Op.assign (Go.Operand.tmp 25),type:=T,
            pos:= "slices.go:145",
            after:=
             #[{on:=2,ground:=Go.Ground.data},{on:=2,ground:=Go.Ground.chain},
               {on:=0,ground:=Go.Ground.phase},{on:=1,ground:=Go.Ground.phase},
               {on:=2,ground:=Go.Ground.phase}],
            guard:=none}]
          false).seq
         Go.Code.ret)
        Go.Code.skip))).seq (zHP T O R))))))))))))
variable {P:Program} [Fast P] {ρ ρ':Rho} {nt:Nat} {tm:Go.Proofs.YtiepllpgifnloaaGreat.Vx.T AV} {a:Act} {w w0 w':World} {K:KS} {st st':St} {S:Nat→Prop} {F:Nat→Nat→Prop}
theorem zlL {t E:TypeId} {size:Nat} (hu:P.underlying t=some (.slice E)) (hsz:∀w,(sizeOf E).run P w= .ok size w) (w:World) {b:Nat} {T0:TypeId} {cs:Array Value} (hk:Blk w b T0 cs) (o ld cd:Nat) (ad:Addr) (ls lc q:Nat) (news:List Value) (hq:q=min ld ls)
  (hn:news.length=q*size) (hs:∀j v,news[j]? =some v→w.cell? (ad.add j)=some v) (hfit:o+news.length≤cs.size) (h1:∀v∈news,v.oneCell'=true) (ty:TypeId):
  (Builtin.copy_ #[t,t] ty #[.slice (some ⟨b,o,none⟩) ld cd, .slice (some ad) ls lc]).run P w= .ok (goInt q) (w.setRow b (splice cs.toList o news).toArray):=by
 have hle:q≤ls:=by omega
 have fc:=run_firstCells_some (P:=P) (w:=w) size q ad ls lc news hn hs;have hst:=zcs P b o T0 news 0 cs w hk (by omega) h1
 simp only [Nat.add_zero] at hst;have hspl:cs.toList.take o++news++cs.toList.drop (o+news.length)=splice cs.toList o news:=rfl;rw [hspl] at hst;have e:Nat.min ls ld=q:=by show min ls ld=q;omega
 have e2:Nat.min ld ls=q:=by show min ld ls=q;omega
 have e3:min ls ld=q:=by omega
 have e4:min ld ls=q:=by omega
 simp [Builtin.copy_,Sem.run_bind,run_underlying hu,Builtin.lenOf,hsz,e,e2,e3,e4,fc,hst]
set_option maxHeartbeats 1000000 in
theorem zvg {f T O R E:Nat} {fn:Func} {i0:TypeInfo} (hfn:P.funcs[f]? =some fn) (hb:fn.body=some (zhL T O R)) (hres:fn.results= #[.tmp 6]) (hnt:fn.ntmps=95) (hu:P.underlying T=some (.slice E)) (hi:P.info? E=some i0)
  (h3:P.underlying 3=some (.int .i64)) (h4:P.underlying 4=some .bool) (mixed:P.follows .mixedOrders=true)
  {b vb voff n m c vc i:Nat} {T0:TypeId} {cs:Array Value} {vs:List Value} (hk:Blk w b T0 cs) (hcs:cs.size=c*i0.size) (hs0:0<i0.size) (hin:i<n) (hm:0<m) (hroom:n+m≤c) (hc63:n+m≤140737488355328) (hvb:vb≠b)
  (hvl:vs.length=m*i0.size) (hvs:∀j v,vs[j]? =some v→w.cell? ⟨vb,voff+j,none⟩=some v) (h1v:∀v∈vs,v.oneCell'=true) (h1c:∀v∈cs.toList.take (n*i0.size),v.oneCell'=true)
  (hov:∀lb cb,(callFunc O #[.slice (some ⟨vb,voff,none⟩) m vc, .slice (some ⟨b,(i+m)*i0.size,none⟩) lb cb]).run P w= .ok (.value (.bool false)) w):
  Calls P f #[.slice (some ⟨b,0,none⟩) n c, .int .i64 i, .slice (some ⟨vb,voff,none⟩) m vc] w fun e w'=>e= .returned (.slice (some ⟨b,0,none⟩) (n+m) c)∧
   w'=(w.drew.setRow b (splice cs.toList ((i+m)*i0.size) ((cs.toList.take (n*i0.size)).drop (i*i0.size))).toArray).setRow b (splice (splice cs.toList ((i+m)*i0.size) ((cs.toList.take (n*i0.size)).drop (i*i0.size))) (i*i0.size) vs).toArray:=by
 have u0:=run_underlying hu;have u3:=run_underlying h3;have u4:=run_underlying h4;have hsz:∀w,(sizeOf E).run P w= .ok i0.size w:=fun w=>by
  have:=run_sizeOf (w:=w) hi;rw [this,Program.cellsOf,hi];rfl
 have hz1:¬((m:Int)=0):=by omega
 have hz2:¬((i:Int)=(n:Int)):=by omega
 have hw1:IntKind.i64.wrap ((i:Int)+(m:Int))=(i:Int)+(m:Int):=by rw [IntKind.wrap_i64];omega
 have hw2:IntKind.i64.wrap ((n:Int)+(m:Int))=(n:Int)+(m:Int):=by rw [IntKind.wrap_i64];omega
 have hb1:(0:Int)≤(i:Int)+(m:Int):=by omega
 have hb11:(0:Int)≤(n:Int)+(m:Int):=by omega
 have hin':i≤n:=by omega
 have htn:((i:Int)+(m:Int)).toNat=i+m:=by omega
 have htn2:((n:Int)+(m:Int)).toNat=n+m:=by omega
 have hb2:¬(c=i+m):=by omega
 have hb3:(i:Int)≤(n:Int)+(m:Int):=by omega
 have hb4:¬(c=i):=by omega
 have hb5:¬((c:Int)<(n:Int)+(m:Int)):=by omega
 have hb6:(n:Int)+(m:Int)≤(c:Int):=by omega
 have hb7:(i:Int)+(m:Int)≤(n:Int)+(m:Int):=by omega
 have hle1:(n - i)*i0.size+i*i0.size=n*i0.size:=by rw [←zNr];congr 1;omega
 have hle2:n*i0.size≤cs.size:=by rw [hcs];exact zNe _ (by omega)
 have hle3:(n+m)*i0.size≤cs.size:=by rw [hcs];exact zNe _ hroom
 have hle4:(i+m)*i0.size+(n - i)*i0.size=(n+m)*i0.size:=by rw [←zNr];congr 1;omega
 have hle5:i*i0.size+m*i0.size≤(n+m)*i0.size:=by rw [←zNr];exact zNe _ (by omega)
 generalize hmid:(cs.toList.take (n*i0.size)).drop (i*i0.size)=mid;have hml:mid.length=(n - i)*i0.size:=by rw [←hmid,List.length_drop,List.length_take,Array.length_toList];omega
 have hkd:Blk w.drew b T0 cs:=hk.same rfl;have hcp1:∀ty dc sc,(Builtin.copy_ #[T,T] ty #[.slice (some ⟨b,(i+m)*i0.size,none⟩) (n+m - (i+m)) dc, .slice (some ⟨b,i*i0.size,none⟩) (n+m - i) sc]).run P w.drew= .ok (goInt ((n - i:Nat):Int)) (w.drew.setRow b (splice cs.toList ((i+m)*i0.size) mid).toArray):=fun ty dc sc=>
  zlL hu hsz w.drew hkd ((i+m)*i0.size) (n+m - (i+m)) dc ⟨b,i*i0.size,none⟩ (n+m - i) sc (n - i) mid (by omega) hml (fun j v hj=>by
   rw [zaV,hkd.cell];rw [←hmid,List.getElem?_drop,List.getElem?_take] at hj;split at hj
   ·rw [←Array.getElem?_toList];exact hj
   ·cases hj) (by rw [hml];omega) (fun v hv=>h1c v (by rw [←hmid] at hv;exact List.mem_of_mem_drop hv)) ty
 generalize hcs1:splice cs.toList ((i+m)*i0.size) mid=cs1 at hcp1 ⊢;have hcs1l:cs1.length=cs.size:=by
  have hz:(i+m)*i0.size+mid.length≤cs.toList.length:=by
   have e:cs.toList.length=cs.size:=Array.length_toList;omega
  rw [←hcs1,zam hz,Array.length_toList]
 generalize hW1:w.drew.setRow b cs1.toArray=W1 at hcp1 ⊢;have hk1:Blk W1 b T0 cs1.toArray:=by rw [←hW1];exact hkd.setRow _ (by rw [List.size_toArray];exact hcs1l)
 have hv1:∀j v,vs[j]? =some v→W1.cell? ⟨vb,voff+j,none⟩=some v:=fun j v hj=>by
  rw [←hvs j v hj, ←hW1];have hvw:vb<w.heap.size:=by
   have:=hvs j v hj;rcases Nat.lt_or_ge vb w.heap.size with h|h
   ·exact h
   ·simp [World.cell?,Array.getElem?_eq_none h] at this
  exact zer ((Kp.setRow w.drew b cs1.toArray).block vb ⟨hvw,hvb⟩) _ rfl
 have hcp2:∀ty dc,(Builtin.copy_ #[T,T] ty #[.slice (some ⟨b,i*i0.size,none⟩) (n+m - i) dc, .slice (some ⟨vb,voff,none⟩) m vc]).run P W1= .ok (goInt m) (W1.setRow b (splice cs1 (i*i0.size) vs).toArray):=fun ty dc=>
  zlL hu hsz W1 hk1 (i*i0.size) (n+m - i) dc ⟨vb,voff,none⟩ m vc m vs (by omega) hvl (fun j v hj=>by rw [zaV];exact hv1 j v hj) (by rw [List.size_toArray,hcs1l,hvl];omega) h1v ty
 clear hv1 hk1 hW1 hcs1l hcs1 hkd hml hmid hle1 hle2 hle3 hle4 hle5 h1c h1v hvs hvl hcs hk;refine calls_of_wp hfn hb ?_;simp only [hnt,List.size_toArray,List.length_cons,List.length_nil,Nat.reduceAdd,Nat.reduceSub,Array.replicate_succ,Array.replicate_zero,List.push_toArray,List.append_toArray,List.nil_append,List.cons_append];unfold zhL
 go_wp2
 unfold zHP
 go_wp2
 unfold zMV
 go_wp2_with (simp only [hov])
 go_region_law_o (refine step_copy_runB rfl _ _ T T rfl _ _ (by simp [Act.eval,Act.put]) (by simp [Act.eval,Act.put]) (hcp1 _ _ _) ?_)
 go_wp2_with (at_builtin;refine wpList_copy_runB _ rfl _ _ T T rfl _ _ rfl rfl (hcp2 _ _) ?_)
 refine bodyPost_ret (v:= .slice (some ⟨b,0,none⟩) (n+m) c) (by simp [results,hres,go_sem]) rfl ?_
 exact ⟨rfl,rfl⟩
set_option maxHeartbeats 1000000 in
theorem zxU {f T O R E:Nat} {fn:Func} {i0:TypeInfo} {z:Value} (hfn:P.funcs[f]? =some fn) (hb:fn.body=some (zhL T O R)) (hres:fn.results= #[.tmp 6]) (hnt:fn.ntmps=95) (hu:P.underlying T=some (.slice E)) (hi:P.info? E=some i0) (hz:i0.zero=some z)
  (h3:P.underlying 3=some (.int .i64)) (h4:P.underlying 4=some .bool) (mixed:P.follows .mixedOrders=true)
  {b vb voff n m c vc i:Nat} {T0:TypeId} {cs:Array Value} {vs:List Value} (hk:Blk w b T0 cs) (hcs:cs.size=c*i0.size) (hs0:0<i0.size) (hby:0<i0.bytes) (hzs:z.cells.size=i0.size) (hin:i<n) (hm:0<m) (hnc:n≤c) (hroom:c<n+m) (hpb:(n+m)*i0.bytes≤140737488355328)
  (hvl:vs.length=m*i0.size) (hvs:∀j v,vs[j]? =some v→w.cell? ⟨vb,voff+j,none⟩=some v) (h1v:∀v∈vs,v.oneCell'=true) (h1c:∀v∈cs.toList.take (n*i0.size),v.oneCell'=true):
  Calls P f #[.slice (some ⟨b,0,none⟩) n c, .int .i64 i, .slice (some ⟨vb,voff,none⟩) m vc] w fun e w'=>∃gc cs1,e= .returned (.slice (some ⟨w.heap.size,0,none⟩) (n+m) gc)∧n+m≤gc∧cs1.length=gc*i0.size∧Kp (fun y=>y<w.heap.size) w w'∧
   Blk w' w.heap.size E (splice (splice cs1 (i*i0.size) vs) ((i+m)*i0.size) ((cs.toList.take (n*i0.size)).drop (i*i0.size))).toArray∧cs1.take (i*i0.size)=cs.toList.take (i*i0.size):=by
 have u0:=run_underlying hu;have u3:=run_underlying h3;have u4:=run_underlying h4;have hsz:∀w,(sizeOf E).run P w= .ok i0.size w:=fun w=>by
  have:=run_sizeOf (w:=w) hi;rw [this,Program.cellsOf,hi];rfl
 have hz1:¬((m:Int)=0):=by omega
 have hz2:¬((i:Int)=(n:Int)):=by omega
 have hlen:n+m≤140737488355328:=zNf (Nat.le_mul_of_pos_right _ hby) hpb;have hw1:IntKind.i64.wrap ((i:Int)+(m:Int))=(i:Int)+(m:Int):=by rw [IntKind.wrap_i64];omega
 have hw2:IntKind.i64.wrap ((n:Int)+(m:Int))=(n:Int)+(m:Int):=by rw [IntKind.wrap_i64];omega
 have hw3:IntKind.i64.wrap ((n:Int)+(m:Int) - (i:Int))=(n:Int)+(m:Int) - (i:Int):=by rw [IntKind.wrap_i64];omega
 have hb1:(0:Int)≤(i:Int)+(m:Int):=by omega
 have hb11:(0:Int)≤(n:Int)+(m:Int):=by omega
 have hin':i≤n:=by omega
 have htn:((i:Int)+(m:Int)).toNat=i+m:=by omega
 have htn2:((n:Int)+(m:Int)).toNat=n+m:=by omega
 have hb3:(i:Int)≤(n:Int)+(m:Int):=by omega
 have hb4:¬(c=i):=by omega
 have hb5:(c:Int)<(n:Int)+(m:Int):=by omega
 have hb7:(i:Int)+(m:Int)≤(n:Int)+(m:Int):=by omega
 have hb8:(i:Int)≤(c:Int):=by omega
 have hb9:i≤n+m:=by omega
 have hb10:(i:Int)≤(n:Int):=by omega
 have hkk:(n:Int)+(m:Int) - (i:Int)=((n+m - i:Nat):Int):=by omega
 have hik:i+(n+m - i)=n+m:=by omega
 have hle1:(n - i)*i0.size+i*i0.size=n*i0.size:=by rw [←zNr];congr 1;omega
 have hle2:n*i0.size≤cs.size:=by rw [hcs];exact zNe _ hnc
 have hle3:i*i0.size≤n*i0.size:=zNe _ hin';have hcl:cs.toList.length=cs.size:=Array.length_toList;have hold:(Builtin.firstCells i0.size i (.slice (some ⟨b,0,none⟩) i c)).run P w.drew= .ok (cs.toList.take (i*i0.size)).toArray w.drew:=
  run_firstCells_some (w:=w.drew) i0.size i ⟨b,0,none⟩ i c (cs.toList.take (i*i0.size)) (by rw [List.length_take];omega) (fun j v hj=>by
   rw [zaV,Nat.zero_add];rw [List.getElem?_take] at hj;split at hj
   ·have e:=hk.cell j;rw [←Array.getElem?_toList] at e;exact e.trans hj
   ·cases hj)
 have hrz:∀ty,(Builtin.append_ #[T,3] ty #[.slice (some ⟨b,0,none⟩) i c, .int .i64 ((n:Int)+(m:Int) - (i:Int))]).run P w= .ok (.slice (some ⟨w.heap.size,0,none⟩) (n+m) (grownCap w (n+m) c E)) (w.drew.alloc (.cells ((cs.toList.take (i*i0.size)).toArray++Builtin.zeroCells z.cells (n+m - i)++Builtin.zeroCells z.cells (grownCap w (n+m) c E - (n+m))) E)):=fun ty=>by
  have h:=Lib.run_append_grow_zeros w T 3 ty E i0 z .i64 .i64 hu h3 hi hz (some ⟨b,0,none⟩) i c (cs.toList.take (i*i0.size)) hold (n+m - i) (by omega) hs0 (by omega) (by omega) (by
   have:(n+m - i)*i0.bytes≤(n+m)*i0.bytes:=zNe _ (by omega)
   omega) (by rw [hik];exact growslice_fits hroom hpb)
  rw [hik] at h;rw [hkk];exact h
 have hge:=grownCap_ge w (n+m) c E;have hmx:=grownCap_le_maxLen w (n+m) c E (by unfold maxLen;omega)
 generalize hgc:grownCap w (n+m) c E=gc at hrz hge hmx;have hROWl:((cs.toList.take (i*i0.size)).toArray++Builtin.zeroCells z.cells (n+m - i)++Builtin.zeroCells z.cells (gc - (n+m))).size=gc*i0.size:=by
  rw [Array.size_append,Array.size_append,zaB,zaB,hzs,List.size_toArray,List.length_take,Nat.min_eq_left (by omega), ←zNr, ←zNr]
  congr 1;omega
 have hROWt:((cs.toList.take (i*i0.size)).toArray++Builtin.zeroCells z.cells (n+m - i)++Builtin.zeroCells z.cells (gc - (n+m))).toList.take (i*i0.size)=cs.toList.take (i*i0.size):=by
  have hl:(cs.toList.take (i*i0.size)).length=i*i0.size:=by rw [List.length_take];omega
  simp only [Array.toList_append,List.append_assoc];rw [List.take_append_of_le_length (by omega),List.take_of_length_le (by omega)]
 generalize hROW:(cs.toList.take (i*i0.size)).toArray++Builtin.zeroCells z.cells (n+m - i)++Builtin.zeroCells z.cells (gc - (n+m))=ROW at hrz hROWl hROWt;have kp1:Kp (fun y=>y<w.heap.size) w (w.drew.alloc (.cells ROW E)):=(Kp.drew _ w).trans (Kp.alloc w.drew _ fun b hb=>hb);have hk1:Blk (w.drew.alloc (.cells ROW E)) w.heap.size E ROW:=Blk.new w.drew E ROW;generalize w.drew.alloc (.cells ROW E)=W1 at hrz kp1 hk1;have hsl:ROW.toList.length=gc*i0.size:=by rw [Array.length_toList];exact hROWl
 have hle4:(i+m)*i0.size+(n - i)*i0.size≤gc*i0.size:=by rw [←zNr];exact zNe _ (by omega)
 have hle5:i*i0.size+m*i0.size≤gc*i0.size:=by rw [←zNr];exact zNe _ (by omega)
 have hcpA:∀ty dc,(Builtin.copy_ #[T,T] ty #[.slice (some ⟨w.heap.size,i*i0.size,none⟩) (n+m - i) dc, .slice (some ⟨vb,voff,none⟩) m vc]).run P W1= .ok (goInt m) (W1.setRow w.heap.size (splice ROW.toList (i*i0.size) vs).toArray):=fun ty dc=>
  zlL hu hsz W1 hk1 (i*i0.size) (n+m - i) dc ⟨vb,voff,none⟩ m vc m vs (by omega) hvl (fun j v hj=>by
   rw [zaV, ←hvs j v hj];have hvw:vb<w.heap.size:=by
    have:=hvs j v hj;rcases Nat.lt_or_ge vb w.heap.size with h|h
    ·exact h
    ·simp [World.cell?,Array.getElem?_eq_none h] at this
   exact zer (kp1.block vb hvw) _ rfl) (by rw [hROWl,hvl];omega) h1v ty
 have hk2:Blk (W1.setRow w.heap.size (splice ROW.toList (i*i0.size) vs).toArray) w.heap.size E (splice ROW.toList (i*i0.size) vs).toArray:=hk1.setRow _ (by
  have hz:i*i0.size+vs.length≤ROW.toList.length:=by omega
  rw [List.size_toArray,zam hz,Array.length_toList])
 have kp2:Kp (fun y=>y<w.heap.size) w (W1.setRow w.heap.size (splice ROW.toList (i*i0.size) vs).toArray):=kp1.trans ((Kp.setRow W1 w.heap.size _).mono fun y hy=>⟨zNd hy kp1.size,by omega⟩)
 have hl2:(splice ROW.toList (i*i0.size) vs).length=gc*i0.size:=by
  have hz:i*i0.size+vs.length≤ROW.toList.length:=by omega
  rw [zam hz,hsl]
 generalize W1.setRow w.heap.size (splice ROW.toList (i*i0.size) vs).toArray=W2 at hcpA hk2 kp2;generalize hmid:(cs.toList.take (n*i0.size)).drop (i*i0.size)=mid;have hml:mid.length=(n - i)*i0.size:=by rw [←hmid,List.length_drop,List.length_take,Array.length_toList];omega
 have hbw:b<w.heap.size:=hk.lt;have kp3:Kp (fun y=>y<w.heap.size) w W2.drew:=kp2.trans (Kp.drew _ W2);have hkb:Blk W2.drew b T0 cs:=hk.same (kp3.block b hbw);have hk3:Blk W2.drew w.heap.size E (splice ROW.toList (i*i0.size) vs).toArray:=hk2.same rfl;have hcpB:∀ty dc sc,(Builtin.copy_ #[T,T] ty #[.slice (some ⟨w.heap.size,(i+m)*i0.size,none⟩) (n+m - (i+m)) dc, .slice (some ⟨b,i*i0.size,none⟩) (n - i) sc]).run P W2.drew= .ok (goInt ((n - i:Nat):Int)) (W2.drew.setRow w.heap.size (splice (splice ROW.toList (i*i0.size) vs) ((i+m)*i0.size) mid).toArray):=fun ty dc sc=>
  zlL hu hsz W2.drew hk3 ((i+m)*i0.size) (n+m - (i+m)) dc ⟨b,i*i0.size,none⟩ (n - i) sc (n - i) mid (by omega) hml (fun j v hj=>by
   rw [zaV,hkb.cell];rw [←hmid,List.getElem?_drop,List.getElem?_take] at hj;split at hj
   ·rw [←Array.getElem?_toList];exact hj
   ·cases hj) (by rw [List.size_toArray,hl2,hml];omega) (fun v hv=>h1c v (by rw [←hmid] at hv;exact List.mem_of_mem_drop hv)) ty
 have hk4:Blk (W2.drew.setRow w.heap.size (splice (splice ROW.toList (i*i0.size) vs) ((i+m)*i0.size) mid).toArray) w.heap.size E (splice (splice ROW.toList (i*i0.size) vs) ((i+m)*i0.size) mid).toArray:=hk3.setRow _ (by
  have hz:(i+m)*i0.size+mid.length≤(splice ROW.toList (i*i0.size) vs).length:=by omega
  rw [List.size_toArray,zam hz,List.size_toArray])
 have kp4:Kp (fun y=>y<w.heap.size) w (W2.drew.setRow w.heap.size (splice (splice ROW.toList (i*i0.size) vs) ((i+m)*i0.size) mid).toArray):=kp3.trans ((Kp.setRow W2.drew w.heap.size _).mono fun y hy=>⟨zNd hy kp3.size,by omega⟩)
 generalize W2.drew.setRow w.heap.size (splice (splice ROW.toList (i*i0.size) vs) ((i+m)*i0.size) mid).toArray=W3 at hcpB hk4 kp4;have hfin:∃gc' cs1,Ending.returned (.slice (some ⟨w.heap.size,0,none⟩) (n+m) gc)= .returned (.slice (some ⟨w.heap.size,0,none⟩) (n+m) gc')∧n+m≤gc'∧cs1.length=gc'*i0.size∧Kp (fun y=>y<w.heap.size) w W3∧
  Blk W3 w.heap.size E (splice (splice cs1 (i*i0.size) vs) ((i+m)*i0.size) mid).toArray∧cs1.take (i*i0.size)=cs.toList.take (i*i0.size):=⟨gc,ROW.toList,rfl,hge,hsl,kp4,hk4,hROWt⟩
 have hG63:gc≤9223372036854775807:=by unfold maxLen at hmx;omega
 have hGi:¬(gc=i):=by omega
 have hGim:¬(gc=i+m):=by omega
 have hG2:(n:Int)+(m:Int)≤(gc:Int):=by omega
 clear kp1 kp2 kp3 kp4 hk1 hk2 hk3 hk4 hkb hl2 hml hsl hle1 hle2 hle3 hle4 hle5 hROW hROWt hROWl hgc hge hmx hold hcl hkk hik h1c h1v hvs hvl hcs hk hpb hmid;generalize w.heap.size=N at hrz hcpA hcpB hfin;refine calls_of_wp hfn hb ?_;simp only [hnt,List.size_toArray,List.length_cons,List.length_nil,Nat.reduceAdd,Nat.reduceSub,Array.replicate_succ,Array.replicate_zero,List.push_toArray,List.append_toArray,List.nil_append,List.cons_append];unfold zhL
 go_wp2
 unfold zHP
 go_wp2_with (first
  |(at_builtin;refine zcy _ rfl (.tmp 34) (.tmp 39) T 3 rfl _ _ rfl rfl (hrz _) ?_)
  |(at_builtin;refine wpList_copy_runB _ rfl _ _ T T rfl _ _ rfl rfl (hcpA _ _) ?_))
 go_region_law_o (refine step_copy_runB rfl _ _ T T rfl _ _ (by simp [Act.eval,Act.put]) (by simp [Act.eval,Act.put]) (hcpB _ _ _) ?_)
 go_wp2
 refine bodyPost_ret (v:= .slice (some ⟨N,0,none⟩) (n+m) gc) (by simp [results,hres,go_sem]) rfl ?_
 exact hfin
variable {P:Program} [Fast P] {ρ ρ':Rho} {nt:Nat} {tm:Go.Proofs.YtiepllpgifnloaaGreat.Vx.T AV} {a:Act} {w w0 w':World} {K:KS} {st st':St} {S:Nat→Prop} {F:Nat→Nat→Prop}
theorem zIc (rt:RT) (i i' j:Nat) (q:Path):owT rt ((i,j)::q)=owT rt ((i',j)::q):=rfl
set_option maxHeartbeats 1000000 in
theorem zA6 {f T O R E:Nat} {fn:Func} {i0:TypeInfo} (hfn:P.funcs[f]? =some fn) (hb:fn.body=some (zhL T O R)) (hres:fn.results= #[.tmp 6]) (hnt:fn.ntmps=95) (hu:P.underlying T=some (.slice E)) (hi:P.info? E=some i0)
  (h3:P.underlying 3=some (.int .i64)) (h4:P.underlying 4=some .bool) {A:Option Addr} {vb voff n m c vc:Nat} (hA:A=none→n=0∧c=0) (hm:0<m) (hnc:n≤c) {v':Value} {w1:World}
  (hr:(Builtin.append_ #[T,T] T #[.slice A n c, .slice (some ⟨vb,voff,none⟩) m vc]).run P w= .ok v' w1):
  Calls P f #[.slice A n c, .int .i64 n, .slice (some ⟨vb,voff,none⟩) m vc] w fun e w'=>e= .returned v'∧w'=w1:=by
 have u0:=run_underlying hu;have u3:=run_underlying h3;have u4:=run_underlying h4;have hsz:∀w,(sizeOf E).run P w= .ok i0.size w:=fun w=>by
  have:=run_sizeOf (w:=w) hi;rw [this,Program.cellsOf,hi];rfl
 have hz1:¬((m:Int)=0):=by omega
 refine calls_of_wp hfn hb ?_;simp only [hnt,List.size_toArray,List.length_cons,List.length_nil,Nat.reduceAdd,Nat.reduceSub,Array.replicate_succ,Array.replicate_zero,List.push_toArray,List.append_toArray,List.nil_append,List.cons_append];unfold zhL;cases A with
 |none=>
  obtain ⟨rfl,rfl⟩:=hA rfl
  go_wp2_with (at_builtin;refine zcy _ rfl (.tmp 23) (.tmp 24) T T rfl _ _ rfl rfl hr ?_)
  refine bodyPost_ret (v:=v') (by simp [results,hres,go_sem]) rfl ?_
  exact ⟨rfl,rfl⟩
 |some ad=>
  by_cases hcn:c=n
  ·subst hcn
   go_wp2_with (at_builtin;refine zcy _ rfl (.tmp 23) (.tmp 24) T T rfl _ _ rfl rfl hr ?_)
   refine bodyPost_ret (v:=v') (by simp [results,hres,go_sem]) rfl ?_
   exact ⟨rfl,rfl⟩
  ·go_wp2_with (at_builtin;refine zcy _ rfl (.tmp 23) (.tmp 24) T T rfl _ _ rfl rfl hr ?_)
   refine bodyPost_ret (v:=v') (by simp [results,hres,go_sem]) rfl ?_
   exact ⟨rfl,rfl⟩
theorem zww {e i j s:Nat} (h:e<i) (hj:j<s):e*s+j<i*s:=calc
 e*s+j<e*s+s:=by omega
 _=(e+1)*s:=by rw [zNr,Nat.one_mul]
 _≤i*s:=zNe _ h
theorem zDc {w w1:World} {S S' G0 H:Nat→Prop} {rt:RT} {xs ys:List rt.ty} {b c b1 c1 i:Nat} {T0 T1:TypeId} {cs L2:List Value} {us:List Value} {Hc:Nat→Nat→Nat→Prop}
  (hbase:LfO w S (.list rt xs) (owT rt) G0 (.slice (some ⟨b,0,none⟩) xs.length c)) (hk:Blk w b T0 cs.toArray) (hcs:cs.length=c*rt.size) (hnc:xs.length≤c) (hSS:∀y,S y→S' y) (hSl:∀y,S' y→y<w.heap.size)
  (hGl:∀y,G0 y→y<w.heap.size) (hHl:∀y,H y→y<w.heap.size) (hG0b:G0 b) (hGS:∀y,G0 y→¬S' y)
  (hH1:∀i j y,Hc i j y→H y) (hH2:∀i j i' j' y,j<rt.size→j'<rt.size→Hc i j y→Hc i' j' y→i=i'∧j=j')
  (hul:us.length=ys.length*rt.size)
  (hH3:∀(i:Nat) x,ys[i]? =some x→∀(j:Nat) lf,(rt.leaves x)[j]? =some lf→∃v,us[i*rt.size+j]? =some v∧LfO w S' lf (fun q=>owT rt ((xs.length+i,j)::q)) (Hc i j) v)
  (hGH:∀y,H y→¬G0 y) (hin:i≤xs.length)
  (hblk:Blk w1 b1 T1 L2.toArray) (hsz:L2.length=c1*rt.size) (hc1:xs.length+ys.length≤c1) (hmx:xs.length+ys.length≤maxLen)
  (k1:∀q,q<i*rt.size→L2[q]? =cs[q]?) (k2:∀q,q<ys.length*rt.size→L2[i*rt.size+q]? =us[q]?) (k3:∀q,q<(xs.length - i)*rt.size→L2[(i+ys.length)*rt.size+q]? =cs[i*rt.size+q]?)
  (keep:∀y,y<w.heap.size→y≠b→w1.heap[y]? =w.heap[y]?) (hb1:b1=b∨w.heap.size≤b1):
  LfO w1 S' (.list rt (xs.take i++ys++xs.drop i)) (owT rt) (fun y=>G0 y∨H y∨y=b1) (.slice (some ⟨b1,0,none⟩) (xs.take i++ys++xs.drop i).length c1):=by
 have hzl:(xs.take i++ys++xs.drop i).length=xs.length+ys.length:=by rw [zNo,zNo,List.length_take,List.length_drop];omega
 have hadd:∀y:Nat,(some (⟨b,0,none⟩:Addr)≠some ⟨y,0,none⟩)↔y≠b:=fun y=>by simp [eq_comm]
 refine LfO.pick (olds:=cs.take (xs.length*rt.size)) (us:=us) (ys:=ys) (Hc:=Hc) (H:=H) hbase (zb3 rt) (zIc rt) hSS hSl hGl hHl hH1 hH2 hH3 hGH
  (fun e=>if e<i then (false,e) else if e<i+ys.length then (true,e - i) else (false,e - ys.length)) ?_ ?_ hblk (by rw [List.size_toArray];exact hsz) (by omega) (by omega) ?_ ?_ ?_
  (fun y hy hA=>keep y hy ((hadd y).1 hA)) (fun y hy=>(hadd y).2 fun e=>hGS b hG0b (e▸hy)) (fun y hy=>(hadd y).2 fun e=>hGH y hy (e▸hG0b)) (hb1.imp (fun e=>by rw [e]) id)
 ·intro e e' h h' he;rw [hzl] at h h';split at he<;>split at he<;>(try split at he)<;>(try split at he)<;>simp only [Prod.mk.injEq,Bool.true_eq_false,Bool.false_eq_true,false_and,true_and] at he<;>omega
 ·intro e z hez;have hel:=(zNa.1 hez).1;rw [hzl] at hel;split
  ·rename_i h;refine .inr ⟨rfl,?_⟩;rw [List.append_assoc,zNh (by rw [List.length_take];omega),List.getElem?_take,if_pos h] at hez
   exact hez
  ·split
   ·rename_i h h2;refine .inl ⟨rfl,?_⟩;rw [List.append_assoc,zNp (by rw [List.length_take];omega),List.length_take,Nat.min_eq_left hin,zNh (by omega)] at hez
    exact hez
   ·rename_i h h2;refine .inr ⟨rfl,?_⟩;rw [zNp (by rw [zNo,List.length_take];omega),zNo,List.length_take,Nat.min_eq_left hin,List.getElem?_drop] at hez
    rw [←hez];congr 1;omega
 ·intro b' T' cs' hA hb' q v hq;simp only [zNn,Addr.mk.injEq,and_true] at hA;subst hA;obtain ⟨fz,h1,_⟩:=hk;obtain ⟨fz',h2,_⟩:=hb';rw [h1] at h2;simp only [zNn,Obj.cells.injEq] at h2;obtain ⟨rfl,_⟩:=h2;rw [List.getElem?_take] at hq;split at hq
  ·rw [List.getElem?_toArray];exact hq
  ·cases hq
 ·rw [List.length_take,hcs];exact Nat.min_eq_left (zNe _ hnc)
 ·intro e j he hj;rw [hzl] at he;have hg:∀{l:List Value} {q:Nat},l.toArray.getD q undef=(l[q]?).getD undef:=fun {l q}=>by rw [Array.getD_eq_getD_getElem?,List.getElem?_toArray]
  rw [hg];split
  ·rename_i h;have h1:=zww h hj;have h2:=zww (show e<xs.length by omega) hj
   simp only [cond_false];rw [k1 _ h1,List.getD_eq_getElem?_getD,List.getElem?_take,if_pos h2]
  ·split
   ·rename_i h h2;simp only [cond_true];have h3:=zww (show e - i<ys.length by omega) hj
    have e1:e*rt.size+j=i*rt.size+((e - i)*rt.size+j):=by
     rw [←Nat.add_assoc, ←zNr];congr 2;omega
    rw [e1,k2 _ h3,List.getD_eq_getElem?_getD]
   ·rename_i h h2;simp only [cond_false];have h3:=zww (show e - (i+ys.length)<xs.length - i by omega) hj
    have h4:=zww (show e - ys.length<xs.length by omega) hj
    have e1:e*rt.size+j=(i+ys.length)*rt.size+((e - (i+ys.length))*rt.size+j):=by
     rw [←Nat.add_assoc, ←zNr];congr 2;omega
    have e2:(e - ys.length)*rt.size+j=i*rt.size+((e - (i+ys.length))*rt.size+j):=by
     rw [←Nat.add_assoc, ←zNr];congr 2;omega
    rw [e1,k3 _ h3,List.getD_eq_getElem?_getD,List.getElem?_take,if_pos h4,e2]
theorem zoS {f T O R E:Nat} {fn:Func} {i0:TypeInfo} {rt:RT} {z:Value} (hfn:P.funcs[f]? =some fn) (hb:fn.body=some (zhL T O R)) (hres:fn.results= #[.tmp 6]) (hnt:fn.ntmps=95) (hu:zeo P T=some (.slice E)) (hi:zd0 P E=some i0) (hz:i0.zero=some z)
  (h3:P.underlying 3=some (.int .i64)) (h4:P.underlying 4=some .bool) (mixed:P.follows .mixedOrders=true)
  (hO:∀args w,(callFunc O args).run P w=((Extern.SlicesOverlaps.overlaps #[T,T] #[4] args).run P w).andThen fun v w'=> .ok (.value v) w')
  (c1:z.cells.size=i0.size) (c2:i0.size=rt.size) (c3:0<i0.size) (c4:0<i0.bytes) {A:Option Addr} {c vb voff vc i:Nat} {xs ys:List rt.ty} {us:List Value} {S R' H G0:Nat→Prop} {Hc:Nat→Nat→Nat→Prop} {TB:TypeId} {csB:Array Value}
  (hpb:(xs.length+ys.length)*i0.bytes≤140737488355328) (hbase:LfO w S (.list rt xs) (owT rt) G0 (.slice A xs.length c))
  (hSl:∀y,S y→y<w.heap.size) (hRl:∀y,R' y→y<w.heap.size) (hHl:∀y,H y→y<w.heap.size) (hGl:∀y,G0 y→y<w.heap.size) (hGS:∀y,G0 y→¬S y) (hGR:∀y,G0 y→¬R' y) (hGH:∀y,H y→¬G0 y)
  (hm:0<ys.length) (hin:i≤xs.length) (hvB:Blk w vb TB csB) (hvb:¬G0 vb) (hkc:voff<csB.size)
  (u1:us.length=ys.length*rt.size) (u2:∀v∈us,v.oneCell'=true) (u3:∀j v,us[j]? =some v→w.cell? ⟨vb,voff+j,none⟩=some v)
  (hH1:∀i j y,Hc i j y→H y) (hH2:∀i j i' j' y,j<rt.size→j'<rt.size→Hc i j y→Hc i' j' y→i=i'∧j=j')
  (hH3:∀(i:Nat) x,ys[i]? =some x→∀(j:Nat) lf,(rt.leaves x)[j]? =some lf→∃v,us[i*rt.size+j]? =some v∧LfO w (fun y=>S y∨R' y) lf (fun q=>owT rt ((xs.length+i,j)::q)) (Hc i j) v):
  Calls P f #[.slice A xs.length c, .int .i64 i, .slice (some ⟨vb,voff,none⟩) ys.length vc] w fun e w1=>∃(A1:Option Addr) (c1:Nat) (G:Nat→Prop),e= .returned (.slice A1 (xs.take i++ys++xs.drop i).length c1)∧Kp (fun b=>b<w.heap.size∧¬G0 b) w w1∧
   LfO w1 (fun y=>S y∨R' y) (.list rt (xs.take i++ys++xs.drop i)) (owT rt) G (.slice A1 (xs.take i++ys++xs.drop i).length c1)∧∀y,G y→y<w1.heap.size∧((G0 y∨H y)∨w.heap.size≤y):=by
 have hzl:(xs.take i++ys++xs.drop i).length=xs.length+ys.length:=by rw [zNo,zNo,List.length_take,List.length_drop];omega
 have hpos:0<rt.size:=by omega
 have hbrd:=hbase.rd;obtain ⟨A',c',e,hcl,hmx⟩:=hbrd.slice;simp only [Value.slice.injEq] at e;obtain ⟨rfl,_,rfl⟩:=e;have hlen63:xs.length+ys.length≤140737488355328:=zNf (Nat.le_mul_of_pos_right _ c4) hpb;have hmax:xs.length+ys.length≤maxLen:=by simp only [maxLen];omega
 obtain ⟨Gc,g1,g2,g3⟩:=hbase.rowsG (zb3 rt);rcases Nat.eq_or_lt_of_le hin with rfl|hlt
 ·
  obtain ⟨w1,A1,cn,G,r1,r2,r3,r4⟩:=zkj (ty:=T) (A2:=some ⟨vb,voff,none⟩) (c2':=vc) (R:=R') (H:=H) (Hc:=Hc) hu hu hi hz c1 c2 c3 c4 (zb3 rt) hpb hbase hSl hRl hHl hGl hGS hGR hGH u1 u2 (fun _=>⟨vb,voff,rfl,u3⟩) hH1 hH2 hH3;have hA0:A=none→xs.length=0∧c=0:=fun e=>by
   rcases g3 with ⟨h1,h2⟩|⟨b,T0,cs,h1,_⟩
   ·exact ⟨by rw [h1];rfl,h2⟩
   ·rw [e] at h1;cases h1
  refine (zA6 hfn hb hres hnt (zn hu) (zad hi) h3 h4 hA0 hm hcl r1).mono ?_
  rintro e w' ⟨rfl,rfl⟩
  have e1:xs.take xs.length++ys++xs.drop xs.length=xs++ys:=by rw [List.take_length,List.drop_length,List.append_nil]
  rw [e1,zNo];exact ⟨A1,cn,G,rfl,r2,r3,r4⟩
 ·rcases g3 with ⟨h1,_⟩|⟨b,T0,cs,rfl,hG0b,hk,hcs,hnc,hr⟩
  ·rw [h1] at hlt;simp at hlt
  have hkL:Blk w b T0 cs.toList.toArray:=by rw [Array.toArray_toList];exact hk
  have hcl':cs.toList.length=cs.size:=Array.length_toList;have hs':cs.toList.length=c*rt.size:=by rw [hcl'];exact hcs
  have hvne:vb≠b:=fun e=>hvb (e▸hG0b);have hcs0:cs.size=c*i0.size:=by rw [hcs,c2]
  have u1':us.length=ys.length*i0.size:=by rw [u1,c2]
  have hGS':∀y,G0 y→¬(S y∨R' y):=fun y h1 h2=>h2.elim (hGS y h1) (hGR y h1);have hSl':∀y,(S y∨R' y)→y<w.heap.size:=fun y h=>h.elim (hSl y) (hRl y);have h1c:∀v∈cs.toList.take (xs.length*i0.size),v.oneCell'=true:=by
   obtain ⟨vs,v1,v2,v3,_⟩:=hbrd.rows hpos;obtain ⟨b',o',e,hc⟩:=v3 (by omega)
   simp only [zNn,Addr.mk.injEq,and_true] at e;obtain ⟨rfl,rfl⟩:=e;have:cs.toList.take (xs.length*i0.size)=vs:=by
    apply List.ext_getElem?;intro q;rw [List.getElem?_take];split
    ·rename_i hq;have hq':q<vs.length:=by rw [v1, ←c2];exact hq
     have h5:=hc q _ (zNg hq');rw [Nat.zero_add,hk.cell, ←Array.getElem?_toList] at h5;rw [h5,zNg hq']
    ·rename_i hq;rw [List.getElem?_eq_none (by rw [v1, ←c2];omega)]
   rw [this];exact v2
  have hle1:(xs.length - i)*i0.size+i*i0.size=xs.length*i0.size:=by rw [←zNr];congr 1;omega
  have hle2:xs.length*i0.size≤cs.size:=by rw [hcs0];exact zNe _ hnc
  have hmid:((cs.toList.take (xs.length*i0.size)).drop (i*i0.size)).length=(xs.length - i)*i0.size:=by rw [List.length_drop,List.length_take];omega
  have hmidg:∀q,q<(xs.length - i)*i0.size→((cs.toList.take (xs.length*i0.size)).drop (i*i0.size))[q]? =cs.toList[i*i0.size+q]? :=fun q hq=>by
   rw [List.getElem?_drop,List.getElem?_take,if_pos (by omega)]
  have hiy:(i+ys.length)*i0.size=i*i0.size+ys.length*i0.size:=zNr _ _ _;by_cases hroom:xs.length+ys.length≤c
  ·
   have hov:∀lb cb,(callFunc O #[.slice (some ⟨vb,voff,none⟩) ys.length vc, .slice (some ⟨b,(i+ys.length)*i0.size,none⟩) lb cb]).run P w= .ok (.value (.bool false)) w:=fun lb cb=>by
    obtain ⟨fz,q1,q2⟩:=hk;obtain ⟨fzB,q3,q4⟩:=hvB;have hk':Blk w b T0 cs:=⟨fz,q1,q2⟩;have hvB':Blk w vb TB csB:=⟨fzB,q3,q4⟩;rw [hO,Lib.run_overlaps_apart w T 4 E (zn hu) i0.size (fun w=>by
     have:=run_sizeOf (w:=w) (zad hi);rw [this,Program.cellsOf,zad hi];rfl) ⟨vb,voff,none⟩ ⟨b,(i+ys.length)*i0.size,none⟩ ys.length vc lb cb hvne TB T0 csB.size cs.size (by simp [World.shape?,q3]) (by simp [World.shape?,q1]) (by
      have:0<xs.length*i0.size:=Nat.mul_pos (by omega) c3
      omega) (hvB'.frozen_ _) (hvB'.frozen_ _)]
    rfl
   have hle3:(xs.length+ys.length)*i0.size≤cs.size:=by rw [hcs0];exact zNe _ hroom
   have hle4:(i+ys.length)*i0.size+(xs.length - i)*i0.size=(xs.length+ys.length)*i0.size:=by rw [←zNr];congr 1;omega
   refine (zvg hfn hb hres hnt (zn hu) (zad hi) h3 h4 mixed hk hcs0 c3 hlt hm hroom hlen63 hvne u1' u3 u2 h1c hov).mono ?_
   rintro e w' ⟨rfl,rfl⟩
   have hz1:(i+ys.length)*i0.size+((cs.toList.take (xs.length*i0.size)).drop (i*i0.size)).length≤cs.toList.length:=by omega
   have hl1:=zam hz1;have hz2:i*i0.size+us.length≤(splice cs.toList ((i+ys.length)*i0.size) ((cs.toList.take (xs.length*i0.size)).drop (i*i0.size))).length:=by omega
   have hl2:=zam hz2;have hkd:Blk w.drew b T0 cs:=hk.same rfl;have hk1:Blk (w.drew.setRow b (splice cs.toList ((i+ys.length)*i0.size) ((cs.toList.take (xs.length*i0.size)).drop (i*i0.size))).toArray) b T0 _:=hkd.setRow _ (by rw [List.size_toArray,hl1,hcl'])
   have hk2:=hk1.setRow (splice (splice cs.toList ((i+ys.length)*i0.size) ((cs.toList.take (xs.length*i0.size)).drop (i*i0.size))) (i*i0.size) us).toArray (by rw [List.size_toArray,List.size_toArray,hl2])
   have kp:Kp (fun y=>y<w.heap.size∧y≠b) w ((w.drew.setRow b (splice cs.toList ((i+ys.length)*i0.size) ((cs.toList.take (xs.length*i0.size)).drop (i*i0.size))).toArray).setRow b (splice (splice cs.toList ((i+ys.length)*i0.size) ((cs.toList.take (xs.length*i0.size)).drop (i*i0.size))) (i*i0.size) us).toArray):=
    (Kp.drew _ w).trans (((Kp.setRow w.drew b _).mono fun y hy=>⟨hy.1,hy.2⟩).trans ((Kp.setRow _ b _).mono fun y hy=>⟨by rw [zh0];exact hy.1,hy.2⟩))
   refine ⟨_,_,_,by rw [hzl],kp.mono fun y hy=>⟨hy.1,fun e=>hy.2 (e▸hG0b)⟩,zDc hbase hkL hs' hnc (fun y hy=> .inl hy) hSl' hGl hHl hG0b hGS' hH1 hH2 u1 hH3 hGH hin hk2 (by rw [hl2,hl1];exact hs') hroom hmax (fun q hq=>?_) (fun q hq=>?_) (fun q hq=>?_) (fun y h1 h2=>kp.block y ⟨h1,h2⟩) (.inl rfl),fun y hy=>?_⟩
   ·rw [←c2] at hq;rw [zaO hz2 (.inl hq),zaO hz1 (.inl (by omega))]
   ·rw [←c2] at hq ⊢;rw [zcP hz2 (by omega)]
   ·rw [←c2] at hq ⊢;rw [zaO hz2 (.inr (by omega)),zcP hz1 (by omega),hmidg q hq]
   ·rcases hy with hy|hy|rfl
    ·exact ⟨zNd (hGl y hy) kp.size, .inl (.inl hy)⟩
    ·exact ⟨zNd (hHl y hy) kp.size, .inl (.inr hy)⟩
    ·exact ⟨hk2.lt, .inl (.inl hG0b)⟩
  ·have hroom:c<xs.length+ys.length:=by omega
   refine (zxU hfn hb hres hnt (zn hu) (zad hi) hz h3 h4 mixed hk hcs0 c3 c4 c1 hlt hm hnc hroom hpb u1' u3 u2 h1c).mono ?_
   rintro e w' ⟨gc,cs1,rfl,q1,q2,q3,q4,q5⟩
   have hle4:(i+ys.length)*i0.size+(xs.length - i)*i0.size≤gc*i0.size:=by rw [←zNr];exact zNe _ (by omega)
   have hz2:i*i0.size+us.length≤cs1.length:=by omega
   have hl2:=zam hz2;have hz1:(i+ys.length)*i0.size+((cs.toList.take (xs.length*i0.size)).drop (i*i0.size)).length≤(splice cs1 (i*i0.size) us).length:=by omega
   have hl1:=zam hz1;refine ⟨_,_,_,by rw [hzl],q3.mono fun y hy=>hy.1,zDc hbase hkL hs' hnc (fun y hy=> .inl hy) hSl' hGl hHl hG0b hGS' hH1 hH2 u1 hH3 hGH hin q4 (by rw [hl1,hl2,q2,c2]) q1 hmax (fun q hq=>?_) (fun q hq=>?_) (fun q hq=>?_) (fun y h1 _=>q3.block y h1) (.inr (zNm _)),fun y hy=>?_⟩
   ·rw [←c2] at hq;rw [zaO hz1 (.inl (by omega)),zaO hz2 (.inl hq)]
    have:=congrArg (fun l=>l[q]?) q5;simp only [List.getElem?_take,if_pos hq] at this;exact this
   ·rw [←c2] at hq ⊢;rw [zaO hz1 (.inl (by omega)),zcP hz2 (by omega)]
   ·rw [←c2] at hq ⊢;rw [zcP hz1 (by omega),hmidg q hq]
   ·rcases hy with hy|hy|rfl
    ·exact ⟨zNd (hGl y hy) q3.size, .inl (.inl hy)⟩
    ·exact ⟨zNd (hHl y hy) q3.size, .inl (.inr hy)⟩
    ·exact ⟨q4.lt, .inr (zNm _)⟩
def zzb (st:St) (b:Nat):Bool:=match st.h.get b with
 |some bk=>match bk.op with
  |some (Nat.succ _)=>true
  |some 0=>false
  |none=>true
 |none=>false
def zto (P:Program) [Fast P] (T:TypeId):Ctr:=fun args st=>match args with
 |[.lw i k p' sz0 n0, .lit (.int .i64 at_), .sl vb off len cap op]=>match zeo P T,unsnoc p' with
  |some (.slice E),some (p,idx,cell)=>match zd0 P E,zGA P 4 E,st.wr i,st.h.get i with
   |some i0,some r2,true,some bk=>match i0.zero,bk.op,zu bk.cells with
    |some z,some 0, .tree ow rt xs kv=>match isK false ow&&(Nat.beq z.cells.size i0.size&&(Nat.beq i0.size r2.size&&(zgz i0.size&&(zgz i0.bytes&&(Nat.beq k kv&&(zdx (owT rt) p&&(owT rt p'&&(!Nat.beq vb i&&zzb st vb)))))))),zpb ((sub p rt xs).1.leaves ((sub p rt xs).2.getD idx (sub p rt xs).1.dflt)) cell,zIM st false r2 (.sl vb off len cap op) with
     |true, .list t2 l2,some (ys,ks)=>match RT.same r2 t2 with
      |some hh=>match zur (zcf idx cell [.list t2 (l2.take at_.toNat++zqO hh ys++l2.drop at_.toNat)]) p rt xs,zcA (i::(zk ks++zh ks)),zgz ys.length with
       |some xs',true,true=> .must (0≤at_∧at_.toNat≤l2.length∧(l2.length+ys.length)*i0.bytes≤140737488355328) inferInstance
        (.ret (.lw (Nat.succ st.n) (Nat.succ st.n) [] t2.size (l2.take at_.toNat++zqO hh ys++l2.drop at_.toNat).length,zJD st (zk ks) (zh ks) i kv bk.ty p rt xs xs' idx cell))
       |_,_,_=> .fail 56 none
      |none=> .fail 55 none
     |_,_,_=> .fail 54 none
    |_,_,_=> .fail 53 none
   |_,_,_,_=> .fail 52 none
  |_,_=> .fail 51 none
 |_=> .fail 50 none
theorem zA4 {f T O R:Nat} {fn:Func} (hfn:P.funcs[f]? =some fn) (hb:fn.body=some (zhL T O R)) (hname:(fn.name== "runtime.NumGoroutine")=false) (hres:fn.results= #[.tmp 6]) (hnt:fn.ntmps=95)
  (h3:P.underlying 3=some (.int .i64)) (h4:P.underlying 4=some .bool) (mixed:P.follows .mixedOrders=true)
  (hO:∀args w,(callFunc O args).run P w=((Extern.SlicesOverlaps.overlaps #[T,T] #[4] args).run P w).andThen fun v w'=> .ok (.value v) w'):zi P f (zto P T):=by
 intro args st v st' hf;unfold zto at hf;split at hf
 case h_2=>cases hf
 rename_i i k p' sz0 n0 at_ vb off len cap op;split at hf
 case h_2=>cases hf
 rename_i E p idx cell hu hup;split at hf
 case h_2=>cases hf
 rename_i i0 r2 bk hi0 hrt hwi hbk;split at hf
 case h_2=>cases hf
 rename_i z ow rt xs kv hz hop hkd;split at hf
 case h_2=>cases hf
 rename_i t2 l2 ys ks hc hnl hys;split at hf
 case h_2=>cases hf
 rename_i hh _;obtain ⟨hh⟩:=hh;subst hh;split at hf
 case h_2=>cases hf
 rename_i xs' hxs' hap hyp;obtain ⟨⟨ha0,hal,hpb⟩,hf⟩:=VT.out_must hf;obtain ⟨rfl,rfl⟩:=zNb (zM8 hf);have hxs':zur (zcf idx cell [.list r2 (l2.take at_.toNat++ys++l2.drop at_.toNat)]) p rt xs=some xs':=hxs';simp only [Bool.and_eq_true,Bool.not_eq_true'] at hc;obtain ⟨hk0,c1,c2,c3,c4,c6,c7,c8,c9,c10⟩:=hc;obtain rfl:ow= .all:=zDf hk0;have c1:=zM9 c1;have c2:=zM9 c2;have c3:0<i0.size:=zNc c3;have c4:0<i0.bytes:=zNc c4;have c6:=zM9 c6;have hyp:0<ys.length:=zNc hyp;subst c6;have hp':=zqF hup;subst hp';refine ⟨rfl,⟨fn,_,hfn,hname,hb⟩,fun K w0 w ρ vs hs hd=>?_⟩;simp only [dens] at hd;obtain ⟨su,_,rfl,hsu,xu,_,rfl,hxu,yu,_,rfl,hyu,rfl⟩:=hd;have hxe:xu= .int .i64 at_:=by simpa only [den] using hxu
 subst hxe;obtain ⟨S,F,A2,c2',Gc,hsF,rfl,hlo,hGF,hGl,hGS,howp,fin⟩:=zJC hs hwi hbk hop hkd c7 c8 hnl hsu;have hE:(fun q=>owT rt (p++(idx,cell)::q))=owT r2:=funext howp;rw [hE] at hlo fin;have hpos:0<r2.size:=by omega
 have hyu0:=hyu;obtain ⟨Ay,cy,us,rfl,u1,u2,u3,Hc,hH1,hH2,hH3⟩:=zsB hsF hpos hys hyu;simp only [den] at hyu0;obtain ⟨xb,cb,hρ,ey,_⟩:=hyu0;simp only [Value.slice.injEq] at ey;obtain ⟨rfl,hlen,rfl⟩:=ey;obtain ⟨b',o',e,hcell⟩:=u3 hyp;simp only [zNn,Addr.mk.injEq,and_true] at e;obtain ⟨rfl,rfl⟩:=e;have hvb:∃bkv,st.h.get vb=some bkv∧bkv.op≠some 0:=by
  unfold zzb at c10;split at c10
  ·rename_i bkv hbv;refine ⟨bkv,hbv,fun e=>?_⟩;rw [e] at c10;cases c10
  ·cases c10
 obtain ⟨bkv,hbv,hopv⟩:=hvb;obtain ⟨x2,cc,hρ2,hBR,_⟩:=hsF.blk vb bkv hbv;rw [hρ] at hρ2;obtain ⟨rfl,rfl⟩:=zNb (zM8 hρ2);obtain ⟨hF1,vsB,restB,_,hBlk,_⟩:=hBR.1 hopv;have hne:vb≠i:=fun e=>by rw [e,Nat.beq_refl] at c9;cases c9
 have hvG:¬Gc xb:=fun h=>hsF.sep vb i bkv bk xb hbv hbk hne (.inr hwi) ((hF1 xb).2 rfl) (hGF xb h);have hus0:0<us.length:=by rw [u1];exact Nat.mul_pos hyp hpos
 have hoff:off<(vsB++restB).toArray.size:=by
  have h0:=hcell 0 _ (zNg hus0);rw [hBlk.cell] at h0;exact (Array.getElem?_eq_some_iff.1 h0).1
 have hnd:=zbm hap;have hni:i∉zk ks++zh ks:=(List.nodup_cons.1 hnd).1;have hnd2:=zNq.1 (List.nodup_cons.1 hnd).2;have hoffG:∀{l:List Nat},(∀j,j∈l→j≠i)→∀y,Gn F st l y→¬F i y:=fun {l} hl y hy hy'=>by
  obtain ⟨j,j1,j2,⟨bj,j3⟩,j4⟩:=hy;exact hsF.sep j i bj bk y j3 hbk (hl j j1) (.inl j2) j4 hy'
 have hHF:∀y,Gn F st (zk ks) y→¬F i y:=hoffG fun j hj e=>hni (by rw [←e];simp [hj])
 have hRF:∀y,Gn F st (zh ks) y→¬F i y:=hoffG fun j hj e=>hni (by rw [←e];simp [hj])
 obtain ⟨na,rfl⟩:∃na:Nat,at_=(na:Int):=⟨at_.toNat,by omega⟩
 rw [Int.toNat_natCast] at hal hxs';refine (zoS hfn hb hres hnt hu hi0 hz h3 h4 mixed hO c1 c2 c3 c4 (R':=Gn F st (zh ks)) (H:=Gn F st (zk ks)) (Hc:=Hc) hpb hlo (fun y hy=>hsF.sl y hy) (fun y hy=>(hy.lt hsF).1) (fun y hy=>(hy.lt hsF).1) hGl hGS (fun y hy hr=>hRF y hr (hGF y hy)) (fun y hy hg=>hHF y hy (hGF y hg)) hyp hal hBlk hvG hoff u1 u2 hcell hH1 (hH2 hnd2.1) (fun i1 x1 hx1 j1 lf hj1=>by
  obtain ⟨v1,hv1,hlf⟩:=hH3 i1 x1 hx1 j1 lf hj1;refine ⟨v1,hv1,?_⟩;have h5:=zn7 (i:=l2.length+i1) hj1 hlf;exact h5)).mono ?_
 rintro e w1 ⟨A1,cn,G2,rfl,kp,hl,hG2⟩
 obtain ⟨ρ',e1,s1,d1⟩:=fin (zk ks) (zh ks) _ xs' hap hxs' w1 A1 cn G2 kp hl hG2;rw [Int.toNat_natCast];exact ⟨_,ρ',rfl,e1,s1,d1⟩
variable {P:Program} [Fast P] {ρ ρ':Rho} {nt:Nat} {tm:Go.Proofs.YtiepllpgifnloaaGreat.Vx.T AV} {a:Act} {w w0 w':World} {K:KS} {st st':St} {S:Nat→Prop} {F:Nat→Nat→Prop}
theorem zID (hs:SimF K w0 ρ S F st w) {is own rel:List Nat} (hap:zcA (is++(own++rel))=true) {w1:World} {A1:Option Addr} {c1:Nat} {G:Nat→Prop} {rt:RT} {zs:List rt.ty} {v1:AV} {st1:St}
  (hnt:zeM (owK false) rt zs (zaz st.h (is++(own++rel))) st.n st.wr=(v1,st1)) (hkp:Kp (fun b=>b<w.heap.size∧¬Gn F st is b) w w1)
  (hlf:LfO w1 (fun y=>S y∨Gn F st rel y) (.list rt zs) ((owK false).f rt) G (.slice A1 zs.length c1)) (hG:∀y,G y→y<w1.heap.size∧((Gn F st is y∨Gn F st own y)∨w.heap.size≤y)):
  ∃ρ',Ext st.n st1.n ρ ρ'∧Sim K w0 ρ' st1 w1∧den ρ' v1 (.slice A1 zs.length c1):=by
 have hnd:=zbm hap;have hnd1:=zNq.1 hnd;have hnd2:=zNq.1 hnd1.2.1;have g1:=hs.give (is++own) rel;rw [List.append_assoc] at g1;have g2:SimF K w0 ρ (fun y=>S y∨Gn F st rel y) F ⟨zaz st.h (is++(own++rel)),st.n,st.wr⟩ w1:=by
  have hk2:∀y,y<w.heap.size→¬Gn F st is y→w1.heap[y]? =w.heap[y]? :=fun y h1 h2=>hkp.block y ⟨h1,h2⟩;have hSk:∀y,(S y∨Gn F st rel y)→y<w.heap.size∧¬Gn F st is y:=fun y hy=>by
   refine ⟨g1.sl y hy,fun h2=>?_⟩;rcases hy with hy|hy
   ·exact (h2.lt hs).2.2 hy
   ·exact Gn.apart hs (fun q h3 h4=>hnd1.2.2 q h3 q (by simp [h4]) rfl) h2 hy
  refine ⟨g1.kp.trans (hkp.mono fun b hb=>⟨g1.ltw b hb,fun h2=>(h2.lt hs).2.1 hb⟩),g1.lt,g1.ss,g1.sk,fun y hy=>zNd (g1.sl y hy) hkp.size,fun j bj hj=>?_,g1.sd,g1.sep,g1.dom,g1.pn⟩;obtain ⟨x,c,e,hb,hn⟩:=g1.blk j bj hj;obtain ⟨h3,h4⟩:=za2 hj;refine ⟨x,c,e,hb.mono (.refl ρ) (fun y hy=>hk2 y (hb.lt y hy) ?_) (fun _ h=>h) (fun y hy=>hk2 y (hSk y hy).1 (hSk y hy).2) (fun y hy=>hk2 y (hs.ltw y (hs.mk_ hy)) fun h2=>(h2.lt hs).2.1 (hs.mk_ hy)),hn⟩
  rintro ⟨q,q1,q2,⟨bq,q3⟩,q4⟩
  exact hs.sep q j bq bj y q3 h3 (fun e=>h4 (by rw [←e];simp [q1])) (.inl q2) q4 hy
 have hlf':=hlf;have hGG:∀y,G y→(st.wr (Nat.succ st.n)=true→¬K.k y∧¬(S y∨Gn F st rel y))∧∀j bj,(zaz st.h (is++(own++rel))).get j=some bj→(st.wr (Nat.succ st.n)=true∨st.wr j=true)→¬F j y:=fun y hy=>by
  refine ⟨fun _=>?_,fun j bj hj hw hyj=>?_⟩
  ·rcases (hG y hy).2 with (h3|h3)|h3
   ·refine ⟨(h3.lt hs).2.1,fun hS=>?_⟩;rcases hS with hS|hS
    ·exact (h3.lt hs).2.2 hS
    ·exact Gn.apart hs (fun q h4 h5=>hnd1.2.2 q h4 q (by simp [h5]) rfl) h3 hS
   ·refine ⟨(h3.lt hs).2.1,fun hS=>?_⟩;rcases hS with hS|hS
    ·exact (h3.lt hs).2.2 hS
    ·exact Gn.apart hs (fun q h4 h5=>hnd2.2.2 q h4 q h5 rfl) h3 hS
   ·refine ⟨fun hK=>by have:=hs.ltw y hK;omega,fun hS=>?_⟩
    have:=g1.sl y hS;omega
  ·obtain ⟨h5,h6⟩:=za2 hj;have off:∀{l:List Nat},(∀q,q∈l→q∈is++(own++rel))→Gn F st l y→False:=fun {l} hl ⟨q,q1,q2,⟨bq,q3⟩,q4⟩=>hs.sep q j bq bj y q3 h5 (fun e=>h6 (by rw [←e];exact hl q q1)) (.inl q2) q4 hyj
   rcases (hG y hy).2 with (h3|h3)|h3
   ·exact off (fun q hq=>by simp [hq]) h3
   ·exact off (fun q hq=>by simp [hq]) h3
   ·obtain ⟨_,_,_,hb,_⟩:=hs.blk j bj h5;have:=hb.lt y hyj;omega
 obtain ⟨ρ',F',t1,t2,t3,_,_⟩:=g2.tree (ow:=owK false) (G:=G) (zyb hlf') (fun y hy=>(hG y hy).1) hGG hnt;exact ⟨ρ',t1,⟨_,_,t2⟩,t3⟩
def zM1 (st:St) (s:AV):Nat:=match s with
 | .lw i _ p _ _=>match p with
   |[]=>match st.wr i,st.h.get i with
    |true,some bk=>match zu bk.cells with
     | .tree ow _ _ _=>match ow with
       | .all=>101
       | .none=>102
       | .fn _=>103
       | .ro=>104
       | .top=>105
       | .dc _ _=>106
       | .bor=>107
     |_=>108
    |false,_=>1000+i
    |_,none=>110
   |_=>111
 | .lv _ _ _ _ _ _=>112
 | .sl .. =>113
 |_=>114
def ztp (P:Program) [Fast P] (T:TypeId):Ctr:=fun args st=>match args with
 |[s, .lit (.int .i64 at_), .sl vb off len cap op]=>match zeo P T with
  |some (.slice E)=>match zd0 P E,zGA P 4 E with
   |some i0,some rt=>match i0.zero with
    |some z=>match Nat.beq z.cells.size i0.size&&(Nat.beq i0.size rt.size&&(zgz i0.size&&(zgz i0.bytes&&(st.wr (Nat.succ st.n)&&zzb st vb)))),zbO 5 st rt s,zeN st false rt s,zIM st false rt (.sl vb off len cap op) with
     |true,some xs,some is,some (ys,ks)=>match zcA (is++(zk ks++zh ks))&&(zgz ys.length&&is.all fun j=> !Nat.beq vb j&&st.wr j),zeM (owK false) rt (xs.take at_.toNat++ys++xs.drop at_.toNat) (zaz st.h (is++(zk ks++zh ks))) st.n st.wr with
      |true,(v,st')=> .must (0≤at_∧at_.toNat≤xs.length∧(xs.length+ys.length)*i0.bytes≤140737488355328) inferInstance (.ret (v,st'))
      |false,_=> .fail 66 none
     |false,_,_,_=> .fail 65 none
     |true,none,_,_=> .fail 68 none
     |true,some _,none,_=> .fail (zM1 st s) none
     |true,some _,some _,none=> .fail 70 none
    |none=> .fail 64 none
   |_,_=> .fail 63 none
  |_=> .fail 62 none
 |_=> .fail 61 none
theorem zA5 {f T O R:Nat} {fn:Func} (hfn:P.funcs[f]? =some fn) (hb:fn.body=some (zhL T O R)) (hname:(fn.name== "runtime.NumGoroutine")=false) (hres:fn.results= #[.tmp 6]) (hnt:fn.ntmps=95)
  (h3:P.underlying 3=some (.int .i64)) (h4:P.underlying 4=some .bool) (mixed:P.follows .mixedOrders=true)
  (hO:∀args w,(callFunc O args).run P w=((Extern.SlicesOverlaps.overlaps #[T,T] #[4] args).run P w).andThen fun v w'=> .ok (.value v) w'):zi P f (ztp P T):=by
 intro args st v st' hf;unfold ztp at hf;split at hf
 case h_2=>cases hf
 rename_i s at_ vb off len cap op;split at hf
 case h_2=>cases hf
 rename_i E hu;split at hf
 case h_2=>cases hf
 rename_i i0 rt hi0 hrt;split at hf
 case h_2=>cases hf
 rename_i z hz;split at hf
 any_goals (cases hf;done)
 rename_i xs is ys ks hc hxs his hys;split at hf
 case h_2=>cases hf
 rename_i v1 st1 hap hnew;obtain ⟨⟨ha0,hal,hpb⟩,hf⟩:=VT.out_must hf;obtain ⟨rfl,rfl⟩:=zNb (zM8 hf);simp only [Bool.and_eq_true] at hc hap;obtain ⟨c1,c2,c3,c4,c5,c10⟩:=hc;obtain ⟨hap,hyp,hall⟩:=hap;have c1:=zM9 c1;have c2:=zM9 c2;have c3:0<i0.size:=zNc c3;have c4:0<i0.bytes:=zNc c4;have hyp:0<ys.length:=zNc hyp;refine ⟨ze7 hnew,⟨fn,_,hfn,hname,hb⟩,fun K w0 w ρ vs hs hd=>?_⟩;simp only [dens] at hd;obtain ⟨su,_,rfl,hsu,xu,_,rfl,hxu,yu,_,rfl,hyu,rfl⟩:=hd;have hxe:xu= .int .i64 at_:=by simpa only [den] using hxu
 subst hxe;obtain ⟨S,F,hsF⟩:=hs;have hbase:=zd4 hsF hxs his hsu;have hbrd:=zep hsF _ hxs hsu;obtain ⟨A2,c2',rfl,hcl,hmx⟩:=hbrd.slice;have hpos:0<rt.size:=by omega
 have hyu0:=hyu;obtain ⟨Ay,cy,us,rfl,u1,u2,u3,Hc,hH1,hH2,hH3⟩:=zsB hsF hpos hys hyu;simp only [den] at hyu0;obtain ⟨xb,cb,hρ,ey,_⟩:=hyu0;simp only [Value.slice.injEq] at ey;obtain ⟨rfl,hlen,rfl⟩:=ey;obtain ⟨b',o',e,hcell⟩:=u3 hyp;simp only [zNn,Addr.mk.injEq,and_true] at e;obtain ⟨rfl,rfl⟩:=e;have hvb:∃bkv,st.h.get vb=some bkv∧bkv.op≠some 0:=by
  unfold zzb at c10;split at c10
  ·rename_i bkv hbv;refine ⟨bkv,hbv,fun e=>?_⟩;rw [e] at c10;cases c10
  ·cases c10
 obtain ⟨bkv,hbv,hopv⟩:=hvb;obtain ⟨x2,cc,hρ2,hBR,_⟩:=hsF.blk vb bkv hbv;rw [hρ] at hρ2;obtain ⟨rfl,rfl⟩:=zNb (zM8 hρ2);obtain ⟨hF1,vsB,restB,_,hBlk,_⟩:=hBR.1 hopv;have hvG:¬Gn F st is xb:=fun ⟨j,j1,j2,⟨bj,j3⟩,j4⟩=>by
  have h5:=List.all_eq_true.1 hall j j1;simp only [Bool.and_eq_true,Bool.not_eq_true'] at h5;have hne:vb≠j:=fun e=>by rw [e,Nat.beq_refl] at h5;cases h5.1
  exact hsF.sep vb j bkv bj xb hbv j3 hne (.inr h5.2) ((hF1 xb).2 rfl) j4
 have hus0:0<us.length:=by rw [u1];exact Nat.mul_pos hyp hpos
 have hoff:off<(vsB++restB).toArray.size:=by
  have h0:=hcell 0 _ (zNg hus0);rw [hBlk.cell] at h0;exact (Array.getElem?_eq_some_iff.1 h0).1
 have hnd:=zbm hap;have hnd1:=zNq.1 hnd;have hnd2:=zNq.1 hnd1.2.1;obtain ⟨na,rfl⟩:∃na:Nat,at_=(na:Int):=⟨at_.toNat,by omega⟩
 rw [Int.toNat_natCast] at hal hnew;refine (zoS hfn hb hres hnt hu hi0 hz h3 h4 mixed hO c1 c2 c3 c4 (R':=Gn F st (zh ks)) (H:=Gn F st (zk ks)) (Hc:=Hc) hpb hbase (fun y hy=>hsF.sl y hy) (fun y hy=>(hy.lt hsF).1) (fun y hy=>(hy.lt hsF).1) (fun y hy=>(hy.lt hsF).1) (fun y hy=>(hy.lt hsF).2.2)
  (fun y h1 h2=>Gn.apart hsF (fun q h3 h4=>hnd1.2.2 q h4 q (by simp [h3]) rfl) h2 h1) (fun y h1 h2=>Gn.apart hsF (fun q h3 h4=>hnd1.2.2 q h4 q (by simp [h3]) rfl) h1 h2) hyp hal hBlk hvG hoff u1 u2 hcell hH1 (hH2 hnd2.1) (fun i1 x1 hx1 j1 lf hj1=>by
   obtain ⟨v1,hv1,hlf⟩:=hH3 i1 x1 hx1 j1 lf hj1;exact ⟨v1,hv1,zn7 (i:=xs.length+i1) hj1 hlf⟩)).mono ?_
 rintro e w1 ⟨A1,cn,G2,rfl,kp,hl,hG2⟩
 obtain ⟨ρ',e1,s1,d1⟩:=zID hsF hap hnew kp hl hG2;exact ⟨_,ρ',rfl,e1,s1,d1⟩
def zxT (P:Program) [Fast P] (T:TypeId):Ctr:=fun args st=>match args with
 | .lw _ _ (_::_) _ _::_=>zto P T args st
 |_=>ztp P T args st
theorem zA3 {f:FuncId} {T:TypeId} (h1:zi P f (zto P T)) (h2:zi P f (ztp P T)):zi P f (zxT P T):=fun args st v st' hf=>by
 unfold zxT at hf;split at hf
 ·exact h1 _ st v st' hf
 ·exact h2 _ st v st' hf
end Go.Proofs.YtiepllpgifnloaaGreat.Vx
namespace Go.Proofs.YtiepllpgifnloaaGreat.Px
open Go Go.Proofs.YtiepllpgifnloaaGreat.Vx Go.Proofs
set_option maxRecDepth 1000000
theorem zFm:zi Tryz.prog 108 (zot Tryz.prog 36):=zix (fn:=Tryz.f108) (by kernel_rfl) (by kernel_rfl) (by kernel_rfl) (by kernel_rfl) rfl
theorem zs6:zi Tryz.prog 109 (zot Tryz.prog 73):=zix (fn:=Tryz.f109) (by kernel_rfl) (by kernel_rfl) (by kernel_rfl) (by kernel_rfl) rfl
theorem zFn:zi Tryz.prog 110 (zot Tryz.prog 78):=zix (fn:=Tryz.f110) (by kernel_rfl) (by kernel_rfl) (by kernel_rfl) (by kernel_rfl) rfl
theorem zzc:zi Tryz.prog 111 (zot Tryz.prog 61):=zix (fn:=Tryz.f111) (by kernel_rfl) (by kernel_rfl) (by kernel_rfl) (by kernel_rfl) rfl
theorem zzd:zi Tryz.prog 112 (zot Tryz.prog 132):=zix (fn:=Tryz.f112) (by kernel_rfl) (by kernel_rfl) (by kernel_rfl) (by kernel_rfl) rfl
theorem zJj {O T:Nat} {fn:Func} (hf:Tryz.prog.funcs[O]? =some fn) (hname:(fn.name== "runtime.NumGoroutine")=false) (hb:fn.body.isNone=true) (hn:Extern.findNext fn=none) (he:Extern.find fn=some (Extern.SlicesOverlaps.overlaps #[T,T] #[4])) (args:Array Value) (w:World):
 (callFunc O args).run Tryz.prog w=((Extern.SlicesOverlaps.overlaps #[T,T] #[4] args).run Tryz.prog w).andThen fun v w'=> .ok (.value v) w':=run_callFunc_extern hf hname hb hn he args w
theorem zDb:zi Tryz.prog 298 (zxT Tryz.prog 33):=by
 have hO:=zJj (O:=300) (T:=33) (fn:=Tryz.f300) (by kernel_rfl) (by kernel_rfl) (by kernel_rfl) (by kernel_rfl) (by kernel_rfl)
 exact zA3 (zA4 (fn:=Tryz.f298) (O:=300) (R:=301) (by kernel_rfl) (by kernel_rfl) (by kernel_rfl) rfl rfl (by kernel_rfl) (by kernel_rfl) (by kernel_rfl) hO)
  (zA5 (fn:=Tryz.f298) (O:=300) (R:=301) (by kernel_rfl) (by kernel_rfl) (by kernel_rfl) rfl rfl (by kernel_rfl) (by kernel_rfl) (by kernel_rfl) hO)
set_option maxHeartbeats 0
noncomputable def zua (a:Gor) (i0:(List Frm)×Int×Unit):Snap:=⟨[(1, .ptr 3 0),(2, .ptr 4 0),(3, .lw 8 8 [] 9 (List.length (i0.1))),(11,vI (↑a.frames.length)),(12,vI (i0.2.1))],[(1,bV),(2,bT Ow.bor (.st .frm) a.frames 1),(3,bC 63 [vI a.state,vI a.fault,vI a.allocs, .lw 2 2 [] 9 a.frames.length]),(4,bC 63 [vI 0,vI 0,vI 0,vN]),(7,bV),(8,bT (Ow.dc (Int.toNat (i0.2.1)) []) (.st .frm) (i0.1) 7)],9⟩
noncomputable def zub (a:Gor) (i0:(List Frm)×Int×Unit) (i2:(List Frm)×Int×Unit):Snap:=⟨[(1, .ptr 3 0),(2, .ptr 4 0),(3, .lw 16 16 [] 9 (List.length (i2.1))),(4,vI i0.snd.fst),(11,vI (↑a.frames.length)),(12,vI i0.snd.fst),(39, .lw 16 15 [(Int.toNat i0.snd.fst,4)] 2 (List.length (List.getD (List.set (List.set i0.fst (Int.toNat i0.snd.fst) (List.getD i0.fst (Int.toNat i0.snd.fst) zo)) (Int.toNat i0.snd.fst) (List.getD (List.set i0.fst (Int.toNat i0.snd.fst) (List.getD i0.fst (Int.toNat i0.snd.fst) zo)) (Int.toNat i0.snd.fst) zo)) (Int.toNat i0.snd.fst) zo).defers)),(40,vI (↑(List.length (List.getD (List.set (List.set i0.fst (Int.toNat i0.snd.fst) (List.getD i0.fst (Int.toNat i0.snd.fst) zo)) (Int.toNat i0.snd.fst) (List.getD (List.set i0.fst (Int.toNat i0.snd.fst) (List.getD i0.fst (Int.toNat i0.snd.fst) zo)) (Int.toNat i0.snd.fst) zo)) (Int.toNat i0.snd.fst) zo).defers))),(41,vI (i2.2.1))],[(1,bV),(2,bT Ow.bor (.st .frm) a.frames 1),(3,bC 63 [vI a.state,vI a.fault,vI a.allocs, .lw 2 2 [] 9 a.frames.length]),(4,bC 63 [vI 0,vI 0,vI 0,vN]),(15,bV),(16,bT (Ow.dc (Int.toNat i0.snd.fst) [4,2]) (.st .frm) (i2.1) 15)],17⟩
noncomputable def zql (a:Gor) (i0:(List Frm)×Int×Unit) (u9:(List Frm)×Unit):Snap:=⟨[(1, .ptr 3 0),(2, .ptr 4 0),(3, .lw 18 18 [] 9 (List.length (u9.1))),(11,vI (↑a.frames.length)),(12,vI i0.snd.fst)],[(1,bV),(2,bT Ow.bor (.st .frm) a.frames 1),(3,bC 63 [vI a.state,vI a.fault,vI a.allocs, .lw 2 2 [] 9 a.frames.length]),(4,bC 63 [vI 0,vI 0,vI 0,vN]),(17,bV),(18,bT (Ow.dc (Int.toNat i0.snd.fst) [4,2]) (.st .frm) (u9.1) 17)],19⟩
noncomputable def zcZ (a:Gor) (i0:(List Frm)×Int×Unit) (i2:(List Frm)×Int×Unit):((List Frm)×Int×Unit)⊕((List Frm)×Unit):=let x1:=i2.fst;
let x2:=i2.snd.fst;
let x3:=Int.toNat i0.snd.fst;
let x4:=List.getD x1 x3 zo;
let x5:=x4.defers;
let x6:=List.set i0.fst x3 (List.getD i0.fst x3 zo);
let x7:=(↑(List.length (List.getD (List.set x6 x3 (List.getD x6 x3 zo)) x3 zo).defers):Int);
bif decide (x2<x7) then Sum.inl (List.set x1 x3 (Frm.mk x4.fn x4.pc x4.regs x4.dest (List.set x5 (Int.toNat x2) (List.getD x5 (Int.toNat x2) zoB)) x4.leaving x4.result),IntKind.i64.wrap (x2+(1:Int)),()) else Sum.inr (x1,())
noncomputable def zdL (a:Gor) (i0:(List Frm)×Int×Unit) (i2:(List Frm)×Int×Unit):Bool:=let x1:=i2.snd.fst;
let x2:=i0.snd.fst;
let x3:=Int.toNat x2;
let x4:=(List.getD i2.fst x3 zo).defers;
let x5:=(x4.length:Int);
let x6:=List.set i0.fst x3 (List.getD i0.fst x3 zo);
let x7:=decide (x3=x3);
let x8:=List.length (List.getD x4 (Int.toNat x1) zoB).args*(24:Nat);
let x9:=(↑(List.length (List.getD (List.set x6 x3 (List.getD x6 x3 zo)) x3 zo).defers):Int);
bif decide (x1<x9) then decide ((0:Int)≤x1∧x1<x9)&&(decide ((0:Int)≤x2∧x2<(i2.fst.length:Int))&&(decide (x8≤(140737488355328:Nat))&&(decide ((0:Int)≤x1∧x1<x5)&&(x7&&x7)))) else x7
noncomputable def zqk (a:Gor) (u9:(List Frm)×Unit):Snap:=⟨[(1, .ptr 3 0),(2, .ptr 4 0),(3, .lw 10 10 [] 9 (List.length (u9.1)))],[(1,bV),(2,bT Ow.bor (.st .frm) a.frames 1),(3,bC 63 [vI a.state,vI a.fault,vI a.allocs, .lw 2 2 [] 9 a.frames.length]),(4,bC 63 [vI 0,vI 0,vI 0,vN]),(9,bV),(10,bT .all (.st .frm) (u9.1) 9)],11⟩
noncomputable def zcY (a:Gor) (i0:(List Frm)×Int×Unit):((List Frm)×Int×Unit)⊕((List Frm)×Unit):=let x1:=i0.fst;
let x2:=i0.snd.fst;
let x3:=Int.toNat x2;
let x4:=List.set x1 x3 (List.getD x1 x3 zo);
bif decide (x2<(a.frames.length:Int)) then Sum.inl ((zd (zcZ a i0) ([],()) X_N (List.set x4 x3 (List.getD x4 x3 zo),(0:Int),())).fst,IntKind.i64.wrap (x2+(1:Int)),()) else Sum.inr (x1,())
noncomputable def zdK (a:Gor) (i0:(List Frm)×Int×Unit):Bool:=let x1:=i0.fst;
let x2:=x1.length;
let x3:=i0.snd.fst;
let x4:=Int.toNat x3;
let x5:=List.getD x1 x4 zo;
let x6:=Int.toNat (IntKind.i64.wrap (x3+(1:Int)));
let x7:=x5.regs.length*(24:Nat);
let x8:=List.set x1 x4 x5;
let x9:=decide (x4=x4);
let x10:=List.getD x8 x4 zo;
let x11:=x10.defers.length*(32:Nat);
bif decide (x3<(a.frames.length:Int)) then decide ((0:Int)≤x3∧x3<(↑x2:Int))&&(decide (x7≤(140737488355328:Nat))&&(x9&&(decide (x11≤(140737488355328:Nat))&&(x9&&(x9&&(X_wok (zcZ a i0) (zdL a i0) X_N (List.set x8 x4 x10,(0:Int),())&&decide (x6=Nat.succ x4))))))) else decide (x2≤x4)
noncomputable def zjk (a:Gor):Gor×Unit:=(Gor.mk a.state a.fault a.allocs (zd (zcY a) ([],()) X_N (a.frames,(0:Int),())).fst,())
noncomputable def zjl (a:Gor):Bool:=let x1:=a.frames.length*(104:Nat);
decide (x1≤(140737488355328:Nat))&&(decide (Int.toNat (0:Int)=(0:Nat))&&X_wok (zcY a) (zdK a) X_N (a.frames,(0:Int),()))
noncomputable def zf:=hide zjk
noncomputable def zdp:=hide zjl
theorem zlR:zf=zjk:=zb _
theorem zlQ:zdp=zjl:=zb _
noncomputable def zwL:Ctr:=zcB [.bor (.st .gor)] [.own (.st .gor)] (uu1 zdp) (uu1 zf)
noncomputable def zwK (a:Gor):Nat→ze5:=fun q=>match q with|0=> .mk [⟨3,none,(.list (.st .frm))⟩,⟨12,none,(.int .i64)⟩] (zua a) [⟨.exit 0,[⟨3,none,(.list (.st .frm))⟩],zqk a⟩] (zcY a) (zdK a) (H 0x400c30c3000) (fun (i0:(List Frm)×Int×Unit)=>fun q=>match q with|2=> .mk [⟨3,none,(.list (.st .frm))⟩,⟨41,none,(.int .i64)⟩] (zub a i0) [⟨.exit 2,[⟨3,none,(.list (.st .frm))⟩],zql a i0⟩] (zcZ a i0) (zdL a i0) (H 0x1000000) (fun (_:(List Frm)×Int×Unit)=>fun _=> .no)|_=> .no)|_=> .no
noncomputable def zwM:TT:=((T0.a zs6).a zzc).a zzd
theorem zgP:zi Tryz.prog 243 zwL:=zcS Tryz.f243 zwM (congrArg uu1 zlQ) (congrArg uu1 zlR) 3 62 (uu1 zwK) 0x40 (fun zz=>zC [(0,(zaP 0 (bd Tryz.f243)))] (by kernel_rfl) ⟨fun _=>⟨by kernel_rfl,zC [(2,(zaP 0 (zaP 0 (bd Tryz.f243))))] (by kernel_rfl) ⟨fun _=>⟨by kernel_rfl,zm (by kernel_rfl)⟩,trivial⟩⟩,trivial⟩)
end Go.Proofs.YtiepllpgifnloaaGreat.Px

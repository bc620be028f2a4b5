/- A library of the proof, and the functions' values and contracts. -/
import Derived.Test.YtiepllpgifnloaaGreatA1
import Derived.Lib.AppendZerosOnto
set_option linter.unusedSimpArgs false
set_option linter.unusedVariables false
set_option linter.unusedSectionVars false
set_option linter.defProp false
namespace Go.Proofs.YtiepllpgifnloaaGreat.Vx
open Go.RowKit
variable {P:Program} [Fast P] {ρ ρ':Rho} {w w0 w':World} {K:KS} {st st':St} {S:Nat→Prop} {F:Nat→Nat→Prop}
def zH3 (i:Nat):List Nat→Bool
 |[]=>false
 |j::l=>match Nat.beq i j with
  |true=>true
  |false=>zH3 i l
theorem zn3 {i:Nat}:∀{l:List Nat},zH3 i l=true↔i∈l
 |[]=>by simp [zH3]
 |j::l=>by
  simp only [zH3];by_cases h:i=j
  ·subst h;simp
  ·rw [zeT h];simp [h,zn3 (l:=l)]
def zcA:List Nat→Bool
 |[]=>true
 |i::l=>match zH3 i l with
  |true=>false
  |false=>zcA l
theorem zbm:∀{l:List Nat},zcA l=true→l.Nodup
 |[],_=>List.nodup_nil
 |i::l,h=>by
  simp only [zcA] at h;split at h
  ·cases h
  ·rename_i hm;rw [List.nodup_cons];refine ⟨fun hi=>?_,zbm h⟩;rw [zn3.2 hi] at hm;cases hm
def Gn (F:Nat→Nat→Prop) (st:St) (l:List Nat) (y:Nat):Prop:=∃i,i∈l∧st.wr i=true∧(∃bk,st.h.get i=some bk)∧F i y
theorem Gn.mono {l m:List Nat} (h:∀i,i∈l→i∈m) {y:Nat}:Gn F st l y→Gn F st m y:=fun ⟨i,h1,h2⟩=>⟨i,h i h1,h2⟩
theorem Gn.apart (hs:SimF K w0 ρ S F st w) {l m:List Nat} (h:∀i,i∈l→i∈m→False) {y:Nat} (h1:Gn F st l y) (h2:Gn F st m y):False:=by
 obtain ⟨i,a1,a2,⟨bi,a3⟩,a4⟩:=h1;obtain ⟨j,b1,b2,⟨bj,b3⟩,b4⟩:=h2;by_cases hij:i=j
 ·subst hij;exact h i a1 b1
 ·exact hs.sep i j bi bj y a3 b3 hij (.inl a2) a4 b4
theorem Gn.lt (hs:SimF K w0 ρ S F st w) {l:List Nat} {y:Nat} (h:Gn F st l y):y<w.heap.size∧¬K.k y∧¬S y:=by
 obtain ⟨i,_,h2,⟨bk,h3⟩,h4⟩:=h;obtain ⟨x,c,_,hb,hn⟩:=hs.blk i bk h3;exact ⟨hb.lt y h4,hn h2 y h4,hs.sd i bk y h3 h2 h4⟩
def zaz (h:T Bk):List Nat→T Bk
 |[]=>h
 |b::l=>(zaz h l).put b none
theorem za2 {h:T Bk}:∀{l:List Nat} {k:Nat} {bk:Bk},(zaz h l).get k=some bk→h.get k=some bk∧k∉l
 |[],k,bk,e=>⟨e,by simp⟩
 |b::l,k,bk,e=>by
  simp only [zaz,T.get_put] at e;split at e
  ·cases e
  ·rename_i hk;obtain ⟨h1,h2⟩:=za2 e;exact ⟨h1,by simp [hk,h2]⟩
theorem zg0 {h:T Bk}:∀{l:List Nat} {k:Nat},k∉l→(zaz h l).get k=h.get k
 |[],k,_=>rfl
 |b::l,k,hk=>by
  simp only [List.mem_cons,not_or] at hk;simp only [zaz,T.get_put,if_neg hk.1];exact zg0 hk.2
theorem SimF.give (h:SimF K w0 ρ S F st w) (own rel:List Nat):SimF K w0 ρ (fun y=>S y∨Gn F st rel y) F ⟨zaz st.h (own++rel),st.n,st.wr⟩ w:=by
 have h1:SimF K w0 ρ S F ⟨zaz st.h (own++rel),st.n,st.wr⟩ w:=h.less _ (fun i bk hi=>(za2 hi).1) (zNm _) (fun _ h=>h);refine h1.share _ (fun y hy=> .inl hy) (fun y hy=>hy.imp id fun hy=>⟨(hy.lt h).2.1,(hy.lt h).1⟩) fun i bk y hi hw hy hy'=>?_;obtain ⟨h2,h3⟩:=za2 hi;rcases hy' with hy'|⟨j,j1,j2,⟨bj,j3⟩,j4⟩
 ·exact h1.sd i bk y hi hw hy hy'
 ·refine h.sep i j bk bj y h2 j3 (fun e=>h3 ?_) (.inl hw) hy j4;rw [e];simp [j1]
def zJQ (st:St) (i k:Nat) (p:Path):Bool:=match st.h.get i with
 |some bk=>match bk.op,zu bk.cells with
  |some 0, .tree ow rt _ kv=>match ow with
   | .none=>ze1 k kv p
   | .all=> !owT rt p&&ze1 k kv p
   | .fn _=>false
   | .ro=>false
   | .top=> !zJW p&&ze1 k kv p
   | .bor=> !owT rt p&&ze1 k kv p
   | .dc _ _=> !owT rt p&&ze1 k kv p
  |_,_=>false
 |none=>false
theorem DcR.shr {M G:Nat→Prop} {i:Nat} {l:List Nat} {p:Path} {t:RT} {xs:List t.ty} {h h':Hdr} (hr:DcR w S M G i l t xs h.val) (hp:owT t p=false) (e:hdrs w p t xs h=some h'):LfR w S (.list (sub p t xs).1 (sub p t xs).2) h'.val:=by
 cases p with
 |nil=>simp [owT] at hp
 |cons q p=>
  obtain ⟨a,j⟩:=q;obtain ⟨A,m,c⟩:=h;rcases hr with ⟨rfl,_⟩|⟨c',b,T,cs,H,h1,h2,h3,h4,h5,h6,h7,h8,h9⟩
  ·simp only [hdrs] at e;split at e
   ·rename_i h1 h2;simp at h1
   ·cases e
  ·simp only [Value.slice.injEq] at h1;obtain ⟨rfl,rfl,rfl⟩:=h1;simp only [hdrs] at e;split at e
   case h_2=>cases e
   rename_i b' o' x hb' hx;simp only [zNn,Addr.mk.injEq] at hb';obtain ⟨rfl,rfl,_⟩:=hb';split at e
   case h_2=>cases e
   rename_i t' l' hj;split at e
   case h_2=>cases e
   rename_i A2 m2 c2 hc;have g:=(h9 a x hx j _ hj).2;have ha:=(zNa.1 hx).1;have hjl:=(zNa.1 hj).1;rw [RT.leaves_len] at hjl;have hlt:a*t.size+j<cs.size:=by
    rw [h6]
    calc a*t.size+j<a*t.size+t.size:=by omega
     _=(a+1)*t.size:=by rw [zNr,Nat.one_mul]
     _≤c*t.size:=zNe _ (by omega)
   rw [h5.cell,Nat.zero_add,zNi hlt] at hc;obtain hc:=zM8 hc;rw [Array.getD_eq_getD_getElem?,zNi hlt,Option.getD_some,hc] at g;have hg:xs.getD a t.dflt=x:=by rw [List.getD_eq_getElem?_getD,hx];rfl
   have:=zkJ (ow:=fun q=>owT t ((a,j)::q)) (h:=(A2,m2,c2)) g hp e;have hs:sub ((a,j)::p) t xs=sub p t' l':=by rw [sub,hg,zc5 hj]
   rw [hs];exact this
def zz4 (st:St):AV→Bool
 | .lit (.slice none 0 0)=>true
 | .emp=>true
 | .emz=>true
 | .lw i k p _ _=>zJQ st i k p
 | .lv i k p _ _ _=>zJQ st i k p
 |_=>false
theorem zzM {F:Nat→Prop} {t:RT} (A:Option Addr) (c:Nat):LfR w F (.list t []) (.slice A 0 c):= .list t [] A c (fun _ _=>undef) (zNk _) (by simp [maxLen]) (fun h=>absurd rfl h) (fun _ _ _ i x hx=>by simp at hx) (fun i x hx=>by simp at hx)
theorem zFl {t u:RT} (h:PLift (t=u)) (l:List t.ty) {G:Nat→Prop} {v:Value} (hr:LfR w G (.list t l) v):LfR w G (.list u (zqO h l)) v:=zFk h l hr
theorem zEA (hs:SimF K w0 ρ S F st w) {i k:Nat} {p:Path} {g:Hdr} {bk:Bk} {ow:Ow} {rt:RT} {xs:List rt.ty} {kv:Nat} (hb:st.h.get i=some bk) (hop:bk.op=some 0) (hkd:zu bk.cells= .tree ow rt xs kv) (h:zJQ st i k p=true) (hg:hdrOf ρ i k p g):
  LfR w S (.list (sub p rt xs).1 (sub p rt xs).2) g.val:=by
 unfold zJQ at h;rw [hb] at h;simp only [hop,hkd] at h;cases ow with
 |none=>
  simp only at h;obtain ⟨x,c,_,ht,hhd,_⟩:=Sim.at_ hs hb hop hkd h hg;exact zkJ (ow:=Ow.none.f rt) ht.own rfl hhd
 |all=>
  simp only [Bool.and_eq_true,Bool.not_eq_true'] at h;obtain ⟨x,c,_,ht,hhd,_⟩:=Sim.at_ hs hb hop hkd h.2 hg;exact zkJ (ow:=owT rt) ht.own h.1 hhd
 |fn f=>cases h
 |ro=>cases h
 |top=>
  simp only [Bool.and_eq_true,Bool.not_eq_true'] at h;obtain ⟨x,c,_,ht,hhd,_⟩:=Sim.at_ hs hb hop hkd h.2 hg;exact zkJ (ow:=zJW) ht.own h.1 hhd
 |bor=>
  simp only [Bool.and_eq_true,Bool.not_eq_true'] at h;obtain ⟨x,c,_,ht,hhd,_⟩:=Sim.at_ hs hb hop hkd h.2 hg;exact zkJ (ow:=owT rt) ht.own h.1 hhd
 |dc i l=>
  simp only [Bool.and_eq_true,Bool.not_eq_true'] at h;obtain ⟨x,c,_,ht,hhd,_⟩:=Sim.at_ hs hb hop hkd h.2 hg;exact DcR.shr ht.own h.1 hhd
theorem zt8 (hs:SimF K w0 ρ S F st w) {d:Nat} {t:RT} {a:AV} {v:Value} {l:List t.ty} (h:zbO d st t a=some l) (hsh:zz4 st a=true) (hd:den ρ a v):LfR w S (.list t l) v:=by
 match d,h with
 |0,h=>nomatch h
 |d+1,h=>
  unfold zbO at h;split at h
  ·obtain rfl:=zM8 h;simp only [den] at hd;subst hd;exact zzM _ _
  ·obtain rfl:=zM8 h;simp only [den] at hd;obtain ⟨A,c,rfl⟩:=hd;exact zzM _ _
  ·obtain rfl:=zM8 h;simp only [den] at hd;obtain ⟨A,rfl⟩:=hd;exact zzM _ _
  ·rename_i i k p sz n;simp only [den] at hd;obtain ⟨g,hg,hlv,hgn⟩:=hd;split at h
   ·rename_i bk hb;split at h
    ·rename_i own rt xs kv hop hkd;split at h
     ·rename_i hh hver hsame;simp only [Bool.and_eq_true] at hver;have hsz:=zM9 hver.2;subst hsz;obtain rfl:=zM8 h;have h0:=zEA hs hb hop hkd hsh hg;have h1:=h0.view hlv;rw [List.drop_zero, ←hgn,h0.lenEq,List.take_length] at h1;exact zFl hh _ h1
     ·cases h
    ·cases h
   ·cases h
  ·rename_i i k p sz lo n;simp only [den] at hd;obtain ⟨g,hg,hlv⟩:=hd;split at h
   ·rename_i bk hb;split at h
    ·rename_i own rt xs kv hop hkd;split at h
     ·rename_i hh hver hsame;simp only [Bool.and_eq_true] at hver;have hsz:=zM9 hver.2;subst hsz;obtain rfl:=zM8 h;have h1:=(zEA hs hb hop hkd hsh hg).view hlv;obtain ⟨e⟩:=hh;subst e;exact h1
     ·cases h
    ·cases h
   ·cases h
  ·cases hsh
  ·cases h
def zdX (l:List Leaf):Bool:=match l with
 |[]=>true
 | .list .. ::_=>false
 |_::l=>zdX l
theorem zfE:∀{l:List Leaf},zdX l=true→∀lf,lf∈l→lf.elem=none
 |[],_,_,h=>nomatch h
 | .list .. ::l,h,_,_=>by simp [zdX] at h
 | .int .. ::l,h,x,hx=>by
   rcases List.mem_cons.1 hx with e|hx
   ·rw [e];rfl
   ·exact zfE (l:=l) h x hx
 | .bool _::l,h,x,hx=>by
   rcases List.mem_cons.1 hx with e|hx
   ·rw [e];rfl
   ·exact zfE (l:=l) h x hx
 | .str _::l,h,x,hx=>by
   rcases List.mem_cons.1 hx with e|hx
   ·rw [e];rfl
   ·exact zfE (l:=l) h x hx
def owK:Bool→Ow
 |false=> .all
 |true=> .top
def isK:Bool→Ow→Bool
 |false, .all=>true
 |true, .top=>true
 |_,_=>false
theorem zDf {sh:Bool} {ow:Ow} (h:isK sh ow=true):ow=owK sh:=by
 cases sh<;>cases ow<;>first|rfl|cases h
theorem zmr (sh:Bool) (t:RT):(owK sh).f t []=true:=by cases sh<;>cases t<;>rfl
def ztG (st:St) (sh:Bool) (i:Nat) (t:RT):Option (List Nat):=match st.wr i,st.h.get i with
 |true,some bk=>match bk.op,zu bk.cells with
  |some 0, .tree ow rt _ _=>match isK sh ow,RT.same rt t with
   |true,some _=>some [i]
   |_,_=>none
  |_,_=>none
 |_,_=>none
def zeN (st:St) (sh:Bool) (t:RT):AV→Option (List Nat)
 | .lit (.slice none 0 0)=>some []
 | .emz=>some []
 | .lw i _ p _ _=>match p with
   |[]=>ztG st sh i t
   |_=>none
 | .lv i _ p _ lo _=>match p,lo with
   |[],0=>ztG st sh i t
   |_,_=>none
 | .sl b off len cap op=>match st.wr b,zk4 st.h b with
   |true,some bk=>match zdX (t.leaves t.dflt)&&Nat.beq off 0,op,bk.op with
    |true,true,some s=>match Nat.beq s t.size&&Nat.beq cap 0 with
     |true=>some [b]
     |false=>none
    |true,false,none=>match Nat.beq (Nat.mul cap t.size) bk.cells.length with
     |true=>some [b]
     |false=>none
    |false,false,_=>match Nat.beq len 0&&Nat.beq cap 0 with
     |true=>some []
     |false=>none
    |_,_,_=>none
   |_,_=>none
 |_=>none
theorem zkX {G F':Nat→Prop} {lf:Leaf} {v:Value} {ow:Path→Bool} (h:LfR w G lf v) (hf:lf.elem=none):LfO w S lf ow F' v:=by
 cases h with
 |int k n=>exact .int k n _ _
 |bool b=>exact .bool b _ _
 |str s=>exact .str s _ _
 |list=>cases hf
theorem zb3 (t:RT):owT t []=true:=by cases t<;>rfl
theorem zg1 {t:RT} (hf:zdX (t.leaves t.dflt)=true) {x:t.ty} {j:Nat} {lf:Leaf} (h:(t.leaves x)[j]? =some lf):lf.elem=none:=by
 have h1:((t.leaves x).map Leaf.elem)[j]? =some lf.elem:=by rw [List.getElem?_map,h];rfl
 rw [zb1,List.getElem?_map] at h1;cases e:(t.leaves t.dflt)[j]? with
 |none=>rw [e] at h1;cases h1
 |some l0=>
  rw [e] at h1;have:=zfE hf l0 (List.mem_of_getElem? e);simp only [Option.map_some,this,zNn] at h1;exact h1.symm
theorem zDG {sh:Bool} {M G:Nat→Prop} {t:RT} {l:List t.ty} {v:Value} (h:OwnR w S M G (owK sh) t l v):LfO w S (.list t l) ((owK sh).f t) G v:=by
 cases sh<;>exact h
theorem zyb {sh:Bool} {M G:Nat→Prop} {t:RT} {l:List t.ty} {v:Value} (h:LfO w S (.list t l) ((owK sh).f t) G v):OwnR w S M G (owK sh) t l v:=by
 cases sh<;>exact h
theorem zrV {sh:Bool} {i:Nat} {t:RT} {is:List Nat} (h:ztG st sh i t=some is):∃bk rt xs kv,∃hh:rt=t,st.wr i=true∧st.h.get i=some bk∧bk.op=some 0∧zu bk.cells= .tree (owK sh) rt xs kv∧is=[i]:=by
 unfold ztG at h;split at h
 ·rename_i bk hw hb;split at h
  ·rename_i ow rt xs kv hop hkd;split at h
   ·rename_i hh hk _;obtain rfl:=zDf hk;exact ⟨bk,rt,xs,kv,hh.down,hw,hb,hop,hkd,(zM8 h).symm⟩
   ·cases h
  ·cases h
 ·cases h
theorem zd4 (hs:SimF K w0 ρ S F st w) {d:Nat} {sh:Bool} {t:RT} {a:AV} {v:Value} {l:List t.ty} {is:List Nat} (h:zbO d st t a=some l) (ho:zeN st sh t a=some is) (hd:den ρ a v):LfO w S (.list t l) ((owK sh).f t) (Gn F st is) v:=by
 cases d with
 |zero=>cases h
 |succ d=>
  have hrd:=zep hs _ h hd;unfold zbO at h;split at h
  ·obtain rfl:=zM8 h;simp only [den] at hd;subst hd;exact .nil t _ _ none (zmr sh t)
  ·cases ho
  ·obtain rfl:=zM8 h;simp only [den] at hd;obtain ⟨A,rfl⟩:=hd;exact .nil t _ _ A (zmr sh t)
  ·rename_i i k p sz n;simp only [den] at hd;obtain ⟨g,hg,hlv,hgn⟩:=hd;simp only [zeN] at ho;split at ho
   ·obtain ⟨bk,rt,xs,kv,e,hw,hb,hop,hkd,rfl⟩:=zrV ho;subst e;rw [hb] at h;simp only [hop,hkd] at h;split at h
    ·rename_i hh hver hsame;simp only [Bool.and_eq_true] at hver;obtain rfl:=zM8 h;obtain ⟨x,c,_,ht,hhd,_⟩:=Sim.at_ hs hb hop hkd hver.1 hg;obtain rfl:zal x c=g:=zM8 hhd;obtain ⟨h1,h2,A',rfl,h3,h4⟩:=hlv;have e1:A'=c.A:=h3 rfl;subst e1;have ho:LfO w S (.list rt xs) ((owK sh).f rt) (F i) (zal x c).val:=zDG ht.own;have e2:(zal x c).val= .slice c.A n ((zal x c).2.2 - 0):=by rw [←hgn];rfl
     rw [e2] at ho;obtain ⟨e⟩:=hh;exact LfO.wide ho fun y hy=>⟨i,by simp,hw,⟨bk,hb⟩,hy⟩
    ·cases h
   ·cases ho
  ·rename_i i k p sz lo n;simp only [den] at hd;obtain ⟨g,hg,hlv⟩:=hd;simp only [zeN] at ho;split at ho
   ·obtain ⟨bk,rt,xs,kv,e,hw,hb,hop,hkd,rfl⟩:=zrV ho;subst e;rw [hb] at h;simp only [hop,hkd] at h;split at h
    ·rename_i hh hver hsame;simp only [Bool.and_eq_true] at hver;obtain rfl:=zM8 h;obtain ⟨x,c,_,ht,hhd,_⟩:=Sim.at_ hs hb hop hkd hver.1 hg;obtain rfl:zal x c=g:=zM8 hhd;obtain ⟨h1,h2,A',rfl,h3,h4⟩:=hlv;have e1:A'=c.A:=h3 rfl;subst e1;have hn:n≤xs.length:=by have:=ht.len;have h1:0+n≤c.m:=h1;omega
     have ho:LfO w S (.list rt xs) ((owK sh).f rt) (F i) (.slice c.A c.m c.n):=zDG ht.own;have:=ho.take (zmr sh rt) hn;obtain ⟨e⟩:=hh;exact LfO.wide this fun y hy=>⟨i,by simp,hw,⟨bk,hb⟩,hy⟩
    ·cases h
   ·cases ho
  ·rename_i b off len cap op;simp only [den] at hd;obtain ⟨x,c,hx,rfl,hoc,hle⟩:=hd;simp only [zeN] at ho;split at ho
   ·rename_i bk hw hb;obtain ⟨x',c',hx',hF,⟨vs,rest,b1,b2,b3,b4,b5⟩,_⟩:=hs.blkC hb;rw [hx] at hx';obtain ⟨rfl,rfl⟩:=zNb (zM8 hx');have fin:∀{q:Nat},off=0→zdX (t.leaves t.dflt)=true→(vs++rest).length=q*t.size→(if op=true then c.n - cap else cap)=q→LfO w S (.list t l) ((owK sh).f t) (Gn F st [b]) (.slice (some ⟨x,off,none⟩) len (if op=true then c.n - cap else cap)):=by
     rintro q rfl hfl hsz hq
     rw [hq] at hrd ⊢;obtain ⟨A,c3,e,h1,h2⟩:=hrd.slice;simp only [Value.slice.injEq] at e;obtain ⟨rfl,rfl,rfl⟩:=e;refine .list t l _ _ q x bk.ty (vs++rest).toArray (fun _ _ _=>False) (zmr sh t) h1 h2 ⟨b,by simp,hw,⟨bk,(za5 hb).1⟩,(hF x).2 rfl⟩ b2 (by simpa using hsz) (fun _ _ _ h=>h.elim) (fun _ _ _ _ _ h=>h.elim) fun i y hy j lf hj=>?_
     obtain ⟨b0,o0,e,_,_,hc⟩:=hrd.elem hy;simp only [zNn,Addr.mk.injEq,and_true] at e;obtain ⟨rfl,rfl⟩:=e;obtain ⟨u,hu,hr⟩:=hc j lf hj;rw [b2.cell,Nat.zero_add] at hu;rw [Array.getD_eq_getD_getElem?,hu];exact zkX hr (zg1 hfl hj)
    split at ho
    ·rename_i s hbf hop;simp only [Bool.and_eq_true] at hbf;split at ho
     ·rename_i hbb;simp only [Bool.and_eq_true] at hbb;obtain rfl:=zM8 ho;have e1:=zM9 hbb.1;have e2:=zM9 hbb.2;subst e1;subst e2;exact fin (zM9 hbf.2) hbf.1 (b5 _ hop) (by simp)
     ·cases ho
    ·rename_i hbf hop;simp only [Bool.and_eq_true] at hbf;split at ho
     ·rename_i hbb;obtain rfl:=zM8 ho;have e1:=zM9 hbb;refine fin (zM9 hbf.2) hbf.1 ?_ (by simp;rfl)
      rw [b4 hop,List.append_nil,zL b1];exact e1.symm
     ·cases ho
    ·split at ho
     ·rename_i hbb;simp only [Bool.and_eq_true] at hbb;have e1:=zM9 hbb.1;have e2:=zM9 hbb.2;subst e1;subst e2;obtain rfl:=zM8 ho;obtain ⟨A,c3,e,h1,h2⟩:=hrd.slice;simp only [Value.slice.injEq] at e;obtain ⟨rfl,e0,rfl⟩:=e;obtain rfl:=zNj.1 e0.symm;exact .nil t _ _ _ (zmr sh t)
     ·cases ho
    ·cases ho
   ·cases ho
  ·cases h
theorem LfO.at_ {w:World} {S:Nat→Prop}:∀{p:Path} {t:RT} {l:List t.ty} {ow:Path→Bool} {F:Nat→Prop} {h h':Hdr},LfO w S (.list t l) ow F h.val→zdx ow p=true→hdrs w p t l h=some h'→LfO w S (.list (sub p t l).1 (sub p t l).2) (fun q=>ow (p++q)) F h'.val
 |[],t,l,ow,F,h,h',ho,hp,e=>by
  obtain rfl:h=h':=zM8 e;exact ho
 |(i,j)::p,t,l,ow,F,(A,m,c),h',ho,hp,e=>by
  simp only [zdx,Bool.and_eq_true] at hp;simp only [hdrs] at e;split at e
  case h_2=>cases e
  rename_i b o x hx;split at e
  case h_2=>cases e
  rename_i t' l' hj;split at e
  case h_2=>cases e
  rename_i A2 m2 c2 hc;have hg:l.getD i t.dflt=x:=by rw [List.getD_eq_getElem?_getD,hx];rfl
  have hs:sub ((i,j)::p) t l=sub p t' l':=by rw [sub,hg,zc5 hj]
  cases ho with
  |shr _ _ _ _ _ h0=>rw [hp.1] at h0;cases h0
  |nil=>simp at hx
  |list _ _ _ _ _ b' T cs G h0 h1 h2 hb hk hs' hG hd hr=>
   have h1:l.length≤c:=h1;have hs':cs.size=c*t.size:=hs';have hi:=(zNa.1 hx).1;have hjl:=(zNa.1 hj).1;rw [RT.leaves_len] at hjl;have hlt:i*t.size+j<cs.size:=by
    rw [hs']
    calc i*t.size+j<i*t.size+t.size:=by omega
     _=(i+1)*t.size:=by rw [zNr,Nat.one_mul]
     _≤c*t.size:=zNe _ (by omega)
   rw [hk.cell,Nat.zero_add,zNi hlt] at hc;have g:=hr i x hx j _ hj;rw [Array.getD_eq_getD_getElem?,zNi hlt,Option.getD_some,zM8 hc] at g;have:=LfO.at_ (p:=p) (h:=(A2,m2,c2)) g hp.2 e;rw [hs];exact this.wide fun y hy=>(hG i j y hy).1
theorem ownsP_nil0:∀{p:Path} {ow:Path→Bool},zdx ow p=true→ow p=true
 |[],_,h=>h
 |e::p,ow,h=>by simp only [zdx,Bool.and_eq_true] at h;exact ownsP_nil0 (p:=p) h.2
theorem owT_sub0 {w:World}:∀{p:Path} {t:RT} {l:List t.ty} {h h':Hdr},owT t p=true→hdrs w p t l h=some h'→∀q,owT t (p++q)=owT (sub p t l).1 q
 |[],_,_,_,_,_,_,_=>rfl
 |(i,j)::p,t,l,(A,m,c),h',hp,e,q=>by
  simp only [hdrs] at e;split at e
  case h_2=>cases e
  rename_i b o x hx;split at e
  case h_2=>cases e
  rename_i t' l' hj;split at e
  case h_2=>cases e
  rename_i A2 m2 c2 hc;have hg:l.getD i t.dflt=x:=by rw [List.getD_eq_getElem?_getD,hx];rfl
  rw [sub,hg,zc5 hj];have he:=zbo hj;simp only [List.cons_append,owT,he] at hp ⊢;cases hsh:shT t j with
  |true=>rw [hsh] at hp;cases hp
  |false=>
   rw [hsh] at hp;exact owT_sub0 (p:=p) hp e q
def zFh (st:St) (i k:Nat) (p:Path):Bool:=match st.h.get i with
 |some bk=>match bk.op,zu bk.cells with
  |some 0, .tree ow rt _ kv=>match ow with
   | .all=>zdx (owT rt) p&&ze1 k kv p
   | .bor=>zdx (owT rt) p&&ze1 k kv p
   |_=>false
  |_,_=>false
 |none=>false
def zAt (st:St) (t:RT):AV→Bool
 | .lw i k p _ _=>zFh st i k p
 | .lv i k p _ lo _=>Nat.beq lo 0&&zFh st i k p
 |a=>match zeN st false t a with
  |some _=>true
  |none=>false
theorem zy7 (hs:SimF K w0 ρ S F st w) {i k:Nat} {p:Path} {g:Hdr} {bk:Bk} {ow:Ow} {rt:RT} {xs:List rt.ty} {kv:Nat} (hb:st.h.get i=some bk) (hop:bk.op=some 0) (hkd:zu bk.cells= .tree ow rt xs kv) (h:zFh st i k p=true) (hg:hdrOf ρ i k p g):
  ∃G,LfO w S (.list (sub p rt xs).1 (sub p rt xs).2) (owT (sub p rt xs).1) G g.val:=by
 unfold zFh at h;rw [hb] at h;simp only [hop,hkd] at h;have key:∀{G:Nat→Prop} {x:Nat} {c:Cap},zdx (owT rt) p=true→hdrs w p rt xs (zal x c)=some g→LfO w S (.list rt xs) (owT rt) G (zal x c).val→∃G,LfO w S (.list (sub p rt xs).1 (sub p rt xs).2) (owT (sub p rt xs).1) G g.val:=fun h1 h2 h3=>by
  have:=LfO.at_ h3 h1 h2;rw [show (fun q=>owT rt (p++q))=owT (sub p rt xs).1 from funext (owT_sub0 (ownsP_nil0 h1) h2)] at this;exact ⟨_,this⟩
 cases ow with
 |all=>
  simp only [Bool.and_eq_true] at h;obtain ⟨x,c,_,ht,hhd,_⟩:=Sim.at_ hs hb hop hkd h.2 hg;exact key h.1 hhd ht.own
 |bor=>
  simp only [Bool.and_eq_true] at h;obtain ⟨x,c,_,ht,hhd,_⟩:=Sim.at_ hs hb hop hkd h.2 hg;exact key h.1 hhd ht.own
 |_=>cases h
theorem zy8 (hs:SimF K w0 ρ S F st w) {d:Nat} {t:RT} {a:AV} {v:Value} {l:List t.ty} (h:zbO d st t a=some l) (hb:zAt st t a=true) (hd:den ρ a v):LfO w S (.list t l) (owT t) (lt w.heap.size) v:=by
 have fin:∀{G:Nat→Prop},LfO w S (.list t l) (owT t) G v→LfO w S (.list t l) (owT t) (lt w.heap.size) v:=fun hl=>hl.cut.wide fun y hy=>hy.2;have other:(match zeN st false t a with|some _=>true|none=>false)=true→LfO w S (.list t l) (owT t) (lt w.heap.size) v:=fun he=>by
  split at he
  ·rename_i is hi;exact fin (zd4 hs h hi hd)
  ·cases he
 match d,h with
 |0,h=>nomatch h
 |d+1,h=>
  unfold zbO at h;split at h
  ·exact other hb
  ·exact other hb
  ·exact other hb
  ·rename_i i k p sz n _;simp only [den] at hd;obtain ⟨g,hg,hlv,hgn⟩:=hd;split at h
   case h_2=>cases h
   rename_i bk hbk;split at h
   case h_2=>cases h
   rename_i own rt xs kv hop hkd;split at h
   case h_2=>cases h
   rename_i hh hver hsame;obtain rfl:=zM8 h;obtain ⟨G,h0⟩:=zy7 hs hbk hop hkd hb hg;obtain ⟨e⟩:=hh;subst e;obtain ⟨h1,h2,A',rfl,h3,h4⟩:=hlv;have e2:g.val= .slice A' n (g.2.2 - 0):=by rw [←hgn,h3 rfl];rfl
   rw [e2] at h0;exact h0.cut.wide fun y hy=>hy.2
  ·rename_i i k p sz lo n _;simp only [den] at hd;obtain ⟨g,hg,hlv⟩:=hd;simp only [zAt,Bool.and_eq_true] at hb;obtain rfl:=zM9 hb.1;split at h
   case h_2=>cases h
   rename_i bk hbk;split at h
   case h_2=>cases h
   rename_i own rt xs kv hop hkd;split at h
   case h_2=>cases h
   rename_i hh hver hsame;obtain rfl:=zM8 h;obtain ⟨G,h0⟩:=zy7 hs hbk hop hkd hb.2 hg;obtain ⟨e⟩:=hh;subst e;obtain ⟨h1,h2,A',rfl,h3,h4⟩:=hlv;have hl:g.2.1=(sub p rt xs).2.length:=h0.rd.lenEq;have h5:=h0.take (n:=n) (zb3 _) (by omega)
   rw [←h3 rfl] at h5;exact h5.cut.wide fun y hy=>hy.2
  ·exact other hb
  ·cases h
def zj5 (st:St) (t:RT):Nat→List Leaf→List AV→Bool
 |j, .list u _::ls,a::zas=>(match shT t j with|true=>zz4 st a|false=>zAt st u a)&&zj5 st t (Nat.succ j) ls zas
 |j,_::ls,_::zas=>zj5 st t (Nat.succ j) ls zas
 |_,[],[]=>true
 |_,_,_=>false
theorem zuM {t:RT}:∀{j:Nat} {ls:List Leaf} {zas:List AV},zj5 st t j ls zas=true→∀(q:Nat) u l a,ls[q]? =some (.list u l)→zas[q]? =some a→(match shT t (j+q) with|true=>zz4 st a|false=>zAt st u a)=true
 |_,[],_,_,q,u,l,a,h,_=>by simp at h
 |_,_::_,[],_,q,u,l,a,_,h=>by simp at h
 |j,lf::ls,a::zas,h,q,u,l,b,h1,h2=>by
  have key:zj5 st t (Nat.succ j) ls zas=true:=by
   cases lf<;>simp only [zj5,Bool.and_eq_true] at h<;>first|exact h|exact h.2
  cases q with
  |zero=>
   simp only [List.getElem?_cons_zero,zNn] at h1 h2;subst h1;subst h2;simp only [zj5,Bool.and_eq_true] at h;exact h.1
  |succ q=>
   have:=zuM key q u l b (by simpa using h1) (by simpa using h2)
   rwa [show j+(q+1)=j.succ+q by omega]
def ziK (sh:Bool) (lf:Leaf):Path→Bool:=match sh,lf.elem with
 |false,some u=>owT u
 |_,_=>fun _=>false
structure Tk where
 lf:Leaf
 own:List Nat
 rel:List Nat
def zsx (st:St) (sh:Bool):Leaf→AV→Option Tk
 | .int k _, .lit (.int j n)=>match decide (k=j) with
   |true=>some ⟨.int k n,[],[]⟩
   |false=>none
 | .bool _, .lit (.bool b)=>some ⟨.bool b,[],[]⟩
 | .str _, .lit (.string s)=>some ⟨.str s,[],[]⟩
 | .list t _,a=>match zbO 5 st t a with
   |some l=>match sh with
    |true=>match zz4 st a with
     |true=>some ⟨.list t l,[],[]⟩
     |false=>match zeN st false t a with
      |some is=>some ⟨.list t l,[],is⟩
      |none=>match zeN st true t a with
       |some is=>some ⟨.list t l,[],is⟩
       |none=>none
    |false=>match zeN st false t a with
     |some is=>some ⟨.list t l,is,[]⟩
     |none=>none
   |none=>none
 |_,_=>none
theorem LfO.more {w:World} {S S' F:Nat→Prop} {lf:Leaf} {ow:Path→Bool} {v:Value} (h:LfO w S lf ow F v) (hS:∀y,S y→S' y):LfO w S' lf ow F v:=h.keep (fun _ _ _=>rfl) hS (fun _ _ _=>rfl)
theorem zwZ (hs:SimF K w0 ρ S F st w) {sh:Bool} {lf0:Leaf} {a:AV} {v:Value} {k:Tk} (h:zsx st sh lf0 a=some k) (hd:den ρ a v):LfO w (fun y=>S y∨Gn F st k.rel y) k.lf (ziK sh k.lf) (Gn F st k.own) v∧k.lf.elem=lf0.elem:=by
 unfold zsx at h;split at h
 ·split at h
  ·rename_i hk;have hk:=of_decide_eq_true hk;subst hk;obtain rfl:=zM8 h;simp only [den] at hd;subst hd;exact ⟨.int _ _ _ _,rfl⟩
  ·cases h
 ·obtain rfl:=zM8 h;simp only [den] at hd;subst hd;exact ⟨.bool _ _ _,rfl⟩
 ·obtain rfl:=zM8 h;simp only [den] at hd;subst hd;exact ⟨.str _ _ _,rfl⟩
 ·rename_i t l0 a';split at h
  ·rename_i l hl;split at h
   ·split at h
    ·rename_i hsh;obtain rfl:=zM8 h;exact ⟨.shr _ _ _ _ _ rfl ((zt8 hs hl hsh hd).keep (fun y hy=> .inl hy) fun _ _ _=>rfl),rfl⟩
    ·split at h
     ·rename_i is hn;obtain rfl:=zM8 h;refine ⟨((zd4 hs hl hn hd).release _ rfl).more fun y hy=>hy.symm,rfl⟩
     ·split at h
      ·rename_i is hn;obtain rfl:=zM8 h;refine ⟨((zd4 hs hl hn hd).release _ rfl).more fun y hy=>hy.symm,rfl⟩
      ·cases h
   ·split at h
    ·rename_i is hn;obtain rfl:=zM8 h;exact ⟨(zd4 hs hl hn hd).more fun y hy=> .inl hy,rfl⟩
    ·cases h
  ·cases h
 ·cases h
def zcz (st:St) (sh:Bool) (t:RT):Nat→List Leaf→List AV→Option (List Tk)
 |_,[],[]=>some []
 |j,lf::ls,a::zas=>match zsx st (sh||shT t j) lf a,zcz st sh t (Nat.succ j) ls zas with
  |some k,some ks=>some (k::ks)
  |_,_=>none
 |_,_,_=>none
def zcT:List Tk→List Leaf
 |[]=>[]
 |k::ks=>k.lf::zcT ks
def zk:List Tk→List Nat
 |[]=>[]
 |k::ks=>k.own++zk ks
def zh:List Tk→List Nat
 |[]=>[]
 |k::ks=>k.rel++zh ks
theorem zle:∀{ks:List Tk},(zcT ks).length=ks.length
 |[]=>rfl
 |_::ks=>by simp [zcT,zle (ks:=ks)]
theorem ziG:∀{ks:List Tk} {q:Nat},(zcT ks)[q]? =(ks[q]?).map (·.lf)
 |[],q=>by simp [zcT]
 |k::ks,0=>rfl
 |k::ks,q+1=>by simp [zcT,ziG (ks:=ks)]
theorem zd5:∀{ks:List Tk} {q:Nat} {k:Tk} {i:Nat},ks[q]? =some k→i∈k.own→i∈zk ks
 |[],q,k,i,h,_=>by simp at h
 |k0::ks,0,k,i,h,hi=>by simp at h;subst h;simp [zk,hi]
 |k0::ks,q+1,k,i,h,hi=>by simp only [zk,List.mem_append];exact .inr (zd5 (by simpa using h) hi)
theorem zhw:∀{ks:List Tk} {q:Nat} {k:Tk} {i:Nat},ks[q]? =some k→i∈k.rel→i∈zh ks
 |[],q,k,i,h,_=>by simp at h
 |k0::ks,0,k,i,h,hi=>by simp at h;subst h;simp [zh,hi]
 |k0::ks,q+1,k,i,h,hi=>by simp only [zh,List.mem_append];exact .inr (zhw (by simpa using h) hi)
theorem zjD:∀{ks:List Tk} {q q':Nat} {k k':Tk} {i:Nat},(zk ks).Nodup→ks[q]? =some k→ks[q']? =some k'→i∈k.own→i∈k'.own→q=q'
 |[],q,_,k,_,i,_,h,_,_,_=>by simp at h
 |k0::ks,0,0,k,k',i,_,_,_,_,_=>rfl
 |k0::ks,0,q+1,k,k',i,hn,h,h',hi,hi'=>by
  simp at h;subst h;have:=zNq.1 hn;exact absurd rfl (this.2.2 i hi i (zd5 (by simpa using h') hi'))
 |k0::ks,q+1,0,k,k',i,hn,h,h',hi,hi'=>by
  simp at h';subst h';have:=zNq.1 hn;exact absurd rfl (this.2.2 i hi' i (zd5 (by simpa using h) hi))
 |k0::ks,q+1,q'+1,k,k',i,hn,h,h',hi,hi'=>by
  have:=zNq.1 hn;exact congrArg Nat.succ (zjD (q:=q) (q':=q') this.2.1 (by simpa using h) (by simpa using h') hi hi')
theorem zhz (hs:SimF K w0 ρ S F st w) {sh:Bool} {t:RT}:∀{j:Nat} {ls:List Leaf} {zas:List AV} {us:List Value} {ks:List Tk},zcz st sh t j ls zas=some ks→dens ρ zas us→
  ks.length=ls.length∧ks.length=us.length∧∀(q:Nat) k v,ks[q]? =some k→us[q]? =some v→LfO w (fun y=>S y∨Gn F st k.rel y) k.lf (ziK (sh||shT t (j+q)) k.lf) (Gn F st k.own) v∧∃lf0,ls[q]? =some lf0∧k.lf.elem=lf0.elem
 |_,[],[],us,ks,h,hd=>by
  simp only [dens] at hd;subst hd;simp only [zcz,zNn] at h;subst h;exact ⟨rfl,rfl,fun q k v h=>by simp at h⟩
 |_,[],_::_,_,_,h,_=>by simp [zcz] at h
 |_,_::_,[],_,_,h,_=>by simp [zcz] at h
 |j,lf::ls,a::zas,us,ks,h,hd=>by
  simp only [dens] at hd;obtain ⟨u,us',rfl,hd1,hd2⟩:=hd;simp only [zcz] at h;split at h
  ·rename_i k ks' h1 h2;obtain rfl:=zM8 h;obtain ⟨g1,g2,g3⟩:=zhz hs h2 hd2;refine ⟨by simp [g1],by simp [g2],fun q k v e1 e2=>?_⟩
   cases q with
   |zero=>
    simp at e1 e2;subst e1;subst e2;have:=zwZ hs h1 hd1;exact ⟨this.1,lf,rfl,this.2⟩
   |succ q=>
    have:=g3 q k v (by simpa using e1) (by simpa using e2)
    rw [show j.succ+q=j+(q+1) by omega] at this
    obtain ⟨h3,lf0,h4,h5⟩:=this;exact ⟨h3,lf0,by simpa using h4,h5⟩
  ·cases h
variable {P:Program} [Fast P] {ρ ρ':Rho} {nt:Nat} {tm:T AV} {a:Act} {w w0 w':World} {K:KS} {st st':St} {S:Nat→Prop} {F:Nat→Nat→Prop}
theorem zhQ:∀{p:Path} {ow:Path→Bool},zdx ow p=true→ow p=true
 |[],_,h=>h
 |e::p,ow,h=>by simp only [zdx,Bool.and_eq_true] at h;exact zhQ (p:=p) h.2
theorem zms {w:World}:∀{p:Path} {t:RT} {l:List t.ty} {h h':Hdr},owT t p=true→hdrs w p t l h=some h'→∀q,owT t (p++q)=owT (sub p t l).1 q
 |[],_,_,_,_,_,_,_=>rfl
 |(i,j)::p,t,l,(A,m,c),h',hp,e,q=>by
  simp only [hdrs] at e;split at e
  ·rename_i b o x hx;split at e
   ·rename_i t' l' hl;have hg:l.getD i t.dflt=x:=by rw [List.getD_eq_getElem?_getD,hx];rfl
    have hn:zpb (t.leaves (l.getD i t.dflt)) j= .list t' l':=by rw [hg];exact zc5 hl
    split at e
    ·rename_i A2 m2 c2 _;rw [sub,hn];have he:=zbo hl;have h1:owT t ((i,j)::p)=owT t' p:=by
      simp only [owT] at hp ⊢;rw [he] at hp ⊢;split at hp
      ·rename_i h1 h2;simp only [zNn] at h2;subst h2;rfl
      ·cases hp
     have h2:owT t ((i,j)::p++q)=owT t' (p++q):=by
      rw [List.cons_append];simp only [owT] at hp ⊢;rw [he] at hp ⊢;split at hp
      ·rename_i h1 h2;simp only [zNn] at h2;subst h2;rfl
      ·cases hp
     rw [h2];exact zms (p:=p) (h1▸hp) e q
    ·cases e
   ·cases e
  ·cases e
theorem SimF.write2 (h:SimF K w0 ρ S F st w) (i:Nat) {bk:Bk} {x:Nat} {c:Cap} (hi:st.h.get i=some bk) (hl:st.wr i=true) (he:ρ i=some (x,c)) (bk':Bk) (w':World) (G:Nat→Prop) (hG:∀y,G y→F i y∨w.heap.size≤y∨(¬K.k y∧¬S y∧∀j bj,st.h.get j=some bj→¬F j y))
  (hw:Kp (fun b=>b<w.heap.size∧¬F i b) w w') (hb':BkR ρ w' S G x c bk'):
  SimF K w0 ρ S (Fup F i G) ⟨st.h.set i bk',st.n,st.wr⟩ w':=by
 obtain ⟨x',c',e,hb,hn⟩:=h.blk i bk hi;have hnk:=hn hl;have hSk:∀y,S y→w'.heap[y]? =w.heap[y]? :=fun y hy=>hw.block y ⟨h.sl y hy,fun e=>h.sd i bk y hi hl e hy⟩;refine ⟨h.kp.trans (hw.mono fun b hb=>⟨h.ltw b hb,fun e=>hnk b e hb⟩),h.lt,h.ss,h.sk,fun y hy=>zo7 (hSk y hy) (h.sl y hy),fun j bj hj=>?_,fun j bj y hj hwj hy=>?_,fun j k bj bk2 y hj hk hjk hww hyj hyk=>?_,h.dom,h.pn⟩
 ·rw [T.get_put] at hj;by_cases hji:j=i
  ·subst hji;rw [if_pos rfl] at hj;obtain rfl:=zM8 hj;rw [zV];refine ⟨x,c,he,hb',fun _ y hy hK=>?_⟩;rcases hG y hy with h1|h1|h1
   ·exact hnk y h1 hK
   ·have:=h.ltw y hK;omega
   ·exact h1.1 hK
  ·rw [if_neg hji] at hj;obtain ⟨y,cy,ey,hby,hny⟩:=h.blk j bj hj;rw [zap hji];exact ⟨y,cy,ey,hby.mono (.refl ρ) (fun z hz=>hw.block z ⟨hby.lt z hz,fun e=>h.sep j i bj bk z hj hi hji (.inr hl) hz e⟩) (fun _ h=>h) hSk (fun z hz=>hw.block z ⟨h.ltw z (h.mk_ hz),fun e=>hnk z e (h.mk_ hz)⟩),hny⟩
 ·rw [T.get_put] at hj;by_cases hji:j=i
  ·subst hji;rw [zV] at hy;rcases hG y hy with h1|h1|h1
   ·exact h.sd j bk y hi hl h1
   ·intro hS;have:=h.sl y hS;omega
   ·exact h1.2.1
  ·rw [if_neg hji] at hj;rw [zap hji] at hy;exact h.sd j bj y hj hwj hy
 ·have key:∀{k bk2} {y:Nat},k≠i→st.h.get k=some bk2→G y→F k y→False:=fun {k bk2 y} hki hk hy hyk=>by
   rcases hG y hy with h1|h1|h1
   ·exact h.sep k i bk2 bk y hk hi hki (.inr hl) hyk h1
   ·obtain ⟨_,_,_,hbk,_⟩:=h.blk k bk2 hk;have:=hbk.lt y hyk;omega
   ·exact h1.2.2 k bk2 hk hyk
  rw [T.get_put] at hj hk;by_cases hji:j=i
  ·subst hji;have hki:k≠j:=fun e=>hjk e.symm;rw [if_neg hki] at hk;rw [zV] at hyj;rw [zap hki] at hyk;exact key hki hk hyj hyk
  ·rw [if_neg hji] at hj;rw [zap hji] at hyj;by_cases hki:k=i
   ·subst hki;rw [zV] at hyk;exact key hji hj hyk hyj
   ·rw [if_neg hki] at hk;rw [zap hki] at hyk;exact h.sep j k bj bk2 y hj hk hjk hww hyj hyk
theorem LfO.scal {w:World} {S F:Nat→Prop} {lf:Leaf} {ow ow':Path→Bool} {v:Value} (h:LfO w S lf ow F v) (hf:lf.elem=none):LfO w S lf ow' F v:=by
 cases h with
 |int k n=>exact .int k n _ _
 |bool b=>exact .bool b _ _
 |str s=>exact .str s _ _
 |shr=>cases hf
 |nil=>cases hf
 |list=>cases hf
theorem zl0 {f:(u:RT)→List u.ty→Option (List u.ty)} (hf:∀u l l',f u l=some l'→l'.length=l.length):∀{p:Path} {t:RT} {l l2:List t.ty},zur f p t l=some l2→l2.length=l.length
 |[],t,l,l2,h=>hf t l l2 h
 |(i,j)::p,t,l,l2,h=>by
  simp only [zur] at h;split at h
  ·split at h
   ·split at h
    ·obtain rfl:=zM8 h;simp
    ·cases h
   ·cases h
  ·cases h
theorem zjU {f:(u:RT)→List u.ty→Option (List u.ty)}:∀{p:Path} {t:RT} {l l2:List t.ty},zur f p t l=some l2→∃ys',f (sub p t l).1 (sub p t l).2=some ys'
 |[],t,l,l2,h=>⟨l2,h⟩
 |(i,j)::p,t,l,l2,h=>by
  simp only [zur] at h;split at h
  ·rename_i t' l' hn;rw [sub,hn];split at h
   ·rename_i l3 h3;exact zjU (p:=p) h3
   ·cases h
  ·cases h
def zcf (idx cell:Nat) (nl:List Leaf):(u:RT)→List u.ty→Option (List u.ty):=fun u ys=>match u.build (splice (u.leaves (ys.getD idx u.dflt)) cell nl) with
 |some y=>some (ys.set idx y)
 |none=>none
def zH7 (ow:Ow) (rt:RT) (p:Path):Bool:=match ow with
 | .all=>zdx (owT rt) p
 |_=>false
def zzI (ow:Ow) (rt:RT) (p:Path):Bool:=match ow with
 | .all=>zdx (owT rt) p
 | .fn f=>zdx f p
 | .top=>zdx zJW p
 |_=>false
theorem zDu {ow:Ow} {rt:RT} {p:Path} (h:zzI ow rt p=true):zdx (ow.f rt) p=true:=by
 cases ow with
 |none=>cases h
 |ro=>cases h
 |bor=>cases h
 |dc=>cases h
 |all=>exact h
 |fn f=>exact h
 |top=>exact h
def zqA:Path→Path→Option Path
 |[],q=>some q
 |(i,j)::p,q=>match q with
  |[]=>none
  |(i',j')::q=>match Nat.beq i i'&&Nat.beq j j' with
   |true=>zqA p q
   |false=>none
theorem zna:∀(p q:Path),zqA p (p++q)=some q
 |[],q=>rfl
 |(i,j)::p,q=>by
  simp only [List.cons_append,zqA,Nat.beq_refl,Bool.and_self];exact zna p q
theorem zqB:∀{p q r:Path},zqA p q=some r→q=p++r
 |[],q,r,h=>by obtain rfl:=zM8 h;rfl
 |(i,j)::p,[],r,h=>by simp [zqA] at h
 |(i,j)::p,(i',j')::q,r,h=>by
  simp only [zqA] at h;split at h
  ·rename_i hb;simp only [Bool.and_eq_true] at hb;rw [zM9 hb.1,zM9 hb.2,zqB h];rfl
  ·cases h
def zw0 (idx cell n:Nat):Path→Bool
 |[]=>false
 |(i,j)::_=>Nat.beq i idx&&(Nat.ble cell j&&Nat.blt j (Nat.add cell n))
def zE6 (u:RT) (p:Path) (idx cell n:Nat) (f:Path→Bool):Path→Bool:=fun q=>match zqA p q with
 |some r=>match zw0 idx cell n r with
  |true=>owT u r
  |false=>f q
 |none=>f q
def zLx (u:RT) (p:Path) (idx cell n:Nat):Ow→Ow
 | .fn f=> .fn (zE6 u p idx cell n f)
 | .top=> .fn (zE6 u p idx cell n zJW)
 |o=>o
theorem zyY {u:RT} {p:Path} {idx cell n:Nat} {f:Path→Bool} {q:Path} (h:¬p<+:q):zE6 u p idx cell n f q=f q:=by
 unfold zE6;split
 ·rename_i r hr;exact absurd ⟨r,(zqB hr).symm⟩ h
 ·rfl
theorem zyZ {u:RT} {p:Path} {idx cell n:Nat} {f:Path→Bool} {q:Path} (h:∀r,r<n→∀q',q≠(idx,cell+r)::q'):zE6 u p idx cell n f (p++q)=f (p++q):=by
 unfold zE6;rw [zna];simp only;cases hu:zw0 idx cell n q with
 |false=>rfl
 |true=>
  match q,hu with
  |(i,j)::q',hu=>
   simp only [zw0,Bool.and_eq_true] at hu;obtain ⟨h1,h2,h3⟩:=hu;have h1:=zM9 h1;have h2:=zNc h2;have h3:j+1≤cell+n:=zNc h3;have hj:cell+(j - cell)=j:=by omega
   exact absurd (by rw [h1,hj]) (h (j - cell) (by omega) q')
theorem zCg {u:RT} {p:Path} {idx cell n q:Nat} {f:Path→Bool} {r:Path} (h:q<n):zE6 u p idx cell n f (p++(idx,cell+q)::r)=owT u ((idx,cell+q)::r):=by
 unfold zE6;rw [zna];have:zw0 idx cell n ((idx,cell+q)::r)=true:=by
  simp only [zw0,Bool.and_eq_true];exact ⟨Nat.beq_refl idx,Nat.ble_eq_true_of_le (by omega),Nat.ble_eq_true_of_le (by show cell+q+1≤cell+n;omega)⟩
 simp only [this]
def zuj (P:Program) [Fast P] (t:TypeId) (x y:AV) (st:St):Option St:=match x with
 | .ep i k p sz idx cell=>match st.wr i,st.h.get i,zeg P t with
   |true,some bk,some n=>match bk.op,zu bk.cells with
    |some 0, .tree ow rt xs kv=>match ze1 k kv p&&(zzI ow rt p&&(Nat.beq (sub p rt xs).1.size sz&&(y.flat&&(Nat.beq y.cells.length n&&Nat.ble (Nat.add cell n) sz)))) with
     |true=>match zcz st false (sub p rt xs).1 cell ((((sub p rt xs).1.leaves ((sub p rt xs).2.getD idx (sub p rt xs).1.dflt)).drop cell).take n) y.cells with
      |some ks=>match zur (zcf idx cell (zcT ks)) p rt xs with
       |some xs'=>match zdX (zcT ks) with
        |true=>some ⟨st.h.set i ⟨bk.ty,[.tre ow rt xs' kv],some 0⟩,st.n,st.wr⟩
        |false=>match zcA (i::(zk ks++zh ks)) with
         |true=>some ⟨((zaz st.h (zk ks++zh ks)).set st.n ⟨0,[.ver],some 0⟩).set i ⟨bk.ty,[.tre (zLx (sub p rt xs).1 p idx cell ks.length ow) rt xs' st.n],some 0⟩,Nat.succ st.n,st.wr⟩
         |false=>none
       |none=>none
      |none=>none
     |false=>none
    |_,_=>none
   |_,_,_=>none
 |_=>none
theorem zyS {sh:Bool} {lf0:Leaf} {a:AV} {k:Tk} (h:zsx st sh lf0 a=some k) (hf:k.lf.elem=none):k.own=[]∧k.rel=[]:=by
 unfold zsx at h;split at h
 ·split at h
  ·obtain rfl:=zM8 h;exact ⟨rfl,rfl⟩
  ·cases h
 ·obtain rfl:=zM8 h;exact ⟨rfl,rfl⟩
 ·obtain rfl:=zM8 h;exact ⟨rfl,rfl⟩
 ·split at h
  ·split at h
   ·split at h
    ·obtain rfl:=zM8 h;exact ⟨rfl,rfl⟩
    ·split at h
     ·obtain rfl:=zM8 h;cases hf
     ·split at h
      ·obtain rfl:=zM8 h;cases hf
      ·cases h
   ·split at h
    ·obtain rfl:=zM8 h;cases hf
    ·cases h
  ·cases h
 ·cases h
theorem zny {sh:Bool} {t:RT}:∀{j:Nat} {ls:List Leaf} {zas:List AV} {ks:List Tk},zcz st sh t j ls zas=some ks→zdX (zcT ks)=true→zk ks=[]∧zh ks=[]
 |_,[],[],ks,h,_=>by simp only [zcz,zNn] at h;subst h;exact ⟨rfl,rfl⟩
 |_,[],_::_,_,h,_=>by simp [zcz] at h
 |_,_::_,[],_,h,_=>by simp [zcz] at h
 |j,lf::ls,a::zas,ks,h,hf=>by
  simp only [zcz] at h;split at h
  ·rename_i k ks' h1 h2;obtain rfl:=zM8 h;have hk:k.lf.elem=none:=zfE hf k.lf (by simp [zcT])
   have hf':zdX (zcT ks')=true:=by
    simp only [zcT] at hf;cases hl:k.lf<;>rw [hl] at hf<;>first|exact hf|(simp [zdX] at hf)
   obtain ⟨e1,e2⟩:=zyS h1 hk;obtain ⟨e3,e4⟩:=zny h2 hf';exact ⟨by simp [zk,e1,e3],by simp [zh,e2,e4]⟩
  ·cases h
theorem zDJ:∀{p:Path} {ow:Path→Bool},zdx ow p=true→ow []=true
 |[],_,h=>h
 |e::p,ow,h=>by simp only [zdx,Bool.and_eq_true] at h;exact h.1
theorem zyX {u:RT} {p:Path} {idx cell n:Nat} {f:Path→Bool} (h:f []=true):zE6 u p idx cell n f []=true:=by
 unfold zE6;cases p with
 |nil=>exact h
 |cons e p=>exact h
theorem zDH {ow:Ow} {rt:RT} {p:Path} {M G:Nat→Prop} {xs:List rt.ty} {v:Value} (hm:zzI ow rt p=true) (h:LfO w S (.list rt xs) (ow.f rt) G v):OwnR w S M G ow rt xs v:=by
 cases ow with
 |ro=>cases hm
 |bor=>cases hm
 |dc=>cases hm
 |_=>exact h
theorem zB3 {o:Oper} {t:TypeId} {x y:Operand} (ho:o.op= .store t x y) (h:TR ρ nt tm a) (hs:Sim K w0 ρ st w) (hf:zuj P t (ev tm x) (ev tm y) st=some st'):
  ∃w' ρ',(execOp a.eval o).run P w= .ok .skip w'∧Ext st.n st'.n ρ ρ'∧Sim K w0 ρ' st' w':=by
 have hdx:=h.ev x;have hdy:=h.ev y;generalize ev tm y=yv at hdy hf;unfold zuj at hf;split at hf
 case h_2=>cases hf
 rename_i i k p sz idx cell hx;rw [hx] at hdx;simp only [den] at hdx;obtain ⟨g,hg,hlt,b,o',hgb,hav⟩:=hdx;split at hf
 case h_2=>cases hf
 rename_i bk n hwi hb hn;split at hf
 case h_2=>cases hf
 rename_i ow rt xs kv hop hkd;split at hf
 case h_2=>cases hf
 rename_i hcc;simp only [Bool.and_eq_true] at hcc;obtain ⟨c1,c2,c3,c4,c5,c6⟩:=hcc;have c3:=zM9 c3;have c5:=zM9 c5;have c6:cell+n≤sz:=zNc c6;subst c3;have hm:=c2;have c2:zdx (ow.f rt) p=true:=zDu c2;split at hf
 case h_2=>cases hf
 rename_i ks hks;split at hf
 case h_2=>cases hf
 rename_i xs' hxs';obtain ⟨S,F,hs⟩:=hs;obtain ⟨x',c,hi,ht,hhd,hK⟩:=Sim.at_ hs hb hop hkd c1 hg;have hFS:∀y,F i y→¬S y:=fun y hy=>hs.sd i bk y hb hwi hy;have hOwn:LfO w S (.list rt xs) (ow.f rt) (F i) (zal x' c).val:=by
  have:=ht.own;cases ow with
  |ro=>cases hm
  |bor=>cases hm
  |dc=>cases hm
  |_=>exact this
 obtain ⟨G,g1,g2,g3⟩:=LfO.focus (ow:=ow.f rt) hOwn c2 hhd hFS;have hsub:=g2.rd;have hlen:=hsub.lenEq;have hidx:idx<(sub p rt xs).2.length:=by omega
 have hGS:∀y,G y→¬S y:=fun y hy=>hFS y (g1 y hy);have hop0:(fun q=>ow.f rt (p++q)) []=true:=by
  show ow.f rt (p++[])=true;rw [List.append_nil];exact zhQ c2
 obtain ⟨b',cs,T,Gi,hA,hGb,hblk,hroom,hGi,hGd,hold,hrow⟩:=LfO.row g2 hop0 hidx hGS;rw [hgb] at hA;simp only [zNn,Addr.mk.injEq,and_true] at hA;obtain ⟨rfl,rfl⟩:=hA;obtain ⟨hdc,h1⟩:=ziy hdy c4;generalize hus:(a.eval y).cells.toList=us at hdc h1;obtain ⟨k1,k2,k3⟩:=zhz hs hks hdc;have hul:=zL hdc;have hnl:us.length=(zcT ks).length:=by rw [zle,k2]
 have hn':us.length=n:=by omega
 have hkn:cell+(zcT ks).length≤(sub p rt xs).1.size:=by omega
 have hroom2:idx*(sub p rt xs).1.size+cell+us.length≤cs.size:=by rw [Nat.succ_mul] at hroom;omega
 have hupd:=hxs';obtain ⟨ys',hys'⟩:=zjU hxs';obtain ⟨y',hy',rfl⟩:∃y',(sub p rt xs).1.build (splice ((sub p rt xs).1.leaves ((sub p rt xs).2.getD idx (sub p rt xs).1.dflt)) cell (zcT ks))=some y'∧ys'=(sub p rt xs).2.set idx y':=by
  have h2:=hys';unfold zcf at h2;split at h2
  ·rename_i y' hy';exact ⟨y',hy',(zM8 h2).symm⟩
  ·cases h2
 have hyl:=RT.build_ok hy';have hrun:=zcs P b (idx*(sub p rt xs).1.size+cell) T us 0 cs w hblk (by omega) h1
 simp only [Nat.add_zero] at hrun;have hspl:cs.toList.take (idx*(sub p rt xs).1.size+cell)++us++cs.toList.drop (idx*(sub p rt xs).1.size+cell+us.length)=splice cs.toList (idx*(sub p rt xs).1.size+cell) us:=rfl;rw [hspl] at hrun;have hkp:=Kp.setRow w b (splice cs.toList (idx*(sub p rt xs).1.size+cell) us).toArray;have hblk':Blk (w.setRow b (splice cs.toList (idx*(sub p rt xs).1.size+cell) us).toArray) b T (splice cs.toList (idx*(sub p rt xs).1.size+cell) us).toArray:=hblk.setRow _ (by rw [List.size_toArray,zam (by simpa using hroom2),Array.length_toList])
 generalize hw':w.setRow b (splice cs.toList (idx*(sub p rt xs).1.size+cell) us).toArray=w' at hrun hkp hblk';have hex:(execOp a.eval o).run P w= .ok .skip w':=by
  have hsz:(a.eval y).cells.size=n:=by rw [←hn', ←hus];simp
  rw [←hus] at hrun;unfold execOp;simp [ho,hav,Instr.storeAt,Instr.sureAddr,Sem.run_bind,storeVar,zaa hn,hsz,hrun]
 have hFi:F i b:=g1 b hGb;have hkF:Kp (fun y=>y<w.heap.size∧¬F i y) w w':=hkp.mono fun y hy=>⟨hy.1,fun e=>hy.2 (e▸hFi)⟩;have hSb:∀y,S y→y≠b:=fun y hy e=>hFS b hFi (e▸hy);have hcLen:c.m=xs'.length:=by
  rw [ht.len,zl0 (f:=zcf idx cell (zcT ks)) (fun u l l' h=>by
   unfold zcf at h;split at h
   ·obtain rfl:=zM8 h;simp
   ·cases h) hxs']
 have data:∀(hap:(i::(zk ks++zh ks)).Nodup) (ow2:Path→Bool),(∀q,¬p<+:q→ow2 q=ow.f rt q)→(∀q,(∀r,r<(zcT ks).length→∀q',q≠(idx,cell+r)::q')→ow2 (p++q)=ow.f rt (p++q))→
   (zdX (zcT ks)=true∨∀q r,q<(zcT ks).length→ow2 (p++(idx,cell+q)::r)=owT (sub p rt xs).1 ((idx,cell+q)::r))→LfO w' (fun y=>S y∨Gn F st (zh ks) y) (.list rt xs') ow2 (fun y=>F i y∨Gn F st (zk ks) y) (zal x' c).val:=by
  intro hap ow2 ho1 ho2 ho3;have hni:i∉zk ks++zh ks:=(List.nodup_cons.1 hap).1;have hap2:=zNq.1 (List.nodup_cons.1 hap).2;have hoff:∀{l:List Nat},(∀j,j∈l→j≠i)→∀y,Gn F st l y→¬F i y:=fun {l} hl y hy hy'=>by
   obtain ⟨j,j1,j2,⟨bj,j3⟩,j4⟩:=hy;exact hs.sep j i bj bk y j3 hb (hl j j1) (.inl j2) j4 hy'
  have hH:∀y,Gn F st (zk ks) y→¬F i y:=hoff fun j hj e=>hni (by rw [←e];simp [hj])
  have hR:∀y,Gn F st (zh ks) y→¬F i y:=hoff fun j hj e=>hni (by rw [←e];simp [hj])
  have hgb':∀{l:List Nat} {y},Gn F st l y→¬F i y→w'.heap[y]? =w.heap[y]? :=fun hy hn=>hkF.block _ ⟨(hy.lt hs).1,hn⟩;refine g3 w' _ _ ow2 _ _ xs' (fun y hy hny=>hkp.block y ⟨ht.lt y hy,fun e=>hny (e▸hGb)⟩) (fun y hy=>hkp.block y ⟨hs.sl y hy,hSb y hy⟩) (fun y hy=> .inl hy) hH ho1 hys' ?_ hxs';refine hrow w' _ (Gn F st (zk ks)) (fun q=>ow2 (p++q)) cell us (zcT ks) y' (fun q y=>∃kq,ks[q]? =some kq∧Gn F st kq.own y) hnl hkn hyl (fun q y ⟨kq,e1,e2⟩=> .inl (e2.mono fun j hj=>zd5 e1 hj)) (fun q q' y ⟨k1,e1,e2⟩ ⟨k2,e3,e4⟩=>?_) (fun y hy hGy=>hH y hy (g1 y hGy)) (fun y hy=> .inl hy) (fun q hq=>ho2 q hq) (fun y h1 h2 _=>hkp.block y ⟨h1,h2⟩) hblk' (fun q lf v hq hv=>?_)
  ·obtain ⟨j1,m1,m2,⟨b1,m3⟩,m4⟩:=e2;obtain ⟨j2,n1,n2,⟨b2,n3⟩,n4⟩:=e4;by_cases hj:j1=j2
   ·subst hj;exact zjD hap2.1 e1 e3 m1 n1
   ·exact (hs.sep j1 j2 b1 b2 y m3 n3 hj (.inl m2) m4 n4).elim
  ·rw [ziG] at hq;cases hkq:ks[q]? with
   |none=>rw [hkq] at hq;cases hq
   |some kq=>
    rw [hkq] at hq;obtain rfl:=zM8 hq;obtain ⟨l1,lf0,l2,l3⟩:=k3 q kq v hkq hv;have l4:LfO w' (fun y=>S y∨Gn F st (zh ks) y) kq.lf (ziK (false||shT (sub p rt xs).1 (cell+q)) kq.lf) (Gn F st kq.own) v:=by
     refine l1.keep (fun y hy _=>hgb' hy (hH y (hy.mono fun j hj=>zd5 hkq hj))) (fun y hy=>hy.imp id fun hy=>hy.mono fun j hj=>zhw hkq hj) (fun y hy _=>?_);rcases hy with hy|hy
     ·exact hkp.block y ⟨hs.sl y hy,hSb y hy⟩
     ·exact hgb' hy (hR y (hy.mono fun j hj=>zhw hkq hj))
    have l5:LfO w' (fun y=>S y∨Gn F st (zh ks) y) kq.lf (fun r=>ow2 (p++(idx,cell+q)::r)) (Gn F st kq.own) v:=by
     cases he:kq.lf.elem with
     |none=>exact l4.scal he
     |some t'=>
      have hel:(sub p rt xs).1.elemAt (cell+q)=some t':=by
       rw [List.getElem?_take] at l2;split at l2
       ·rw [List.getElem?_drop] at l2;rw [he] at l3;cases lf0 with
        |list u2 ll=>simp only [Leaf.elem,zNn] at l3;subst l3;exact zbo l2
        |_=>cases l3
       ·cases l2
      have hql:q<(zcT ks).length:=by rw [zle];exact (zNa.1 hkq).1
      have ho3:∀q r,q<(zcT ks).length→ow2 (p++(idx,cell+q)::r)=owT (sub p rt xs).1 ((idx,cell+q)::r):=by
       rcases ho3 with hfl|h3
       ·have:=zfE hfl kq.lf (List.mem_of_getElem? (by rw [ziG,hkq];rfl))
        rw [he] at this;cases this
       ·exact h3
      have e5:(fun r=>ow2 (p++(idx,cell+q)::r))=ziK (false||shT (sub p rt xs).1 (cell+q)) kq.lf:=by
       funext r
       rw [ho3 q r hql];simp only [owT,ziK,hel,he,Bool.false_or];cases shT (sub p rt xs).1 (cell+q)<;>rfl
      rw [e5];exact l4
    exact l5.wide fun y hy=>⟨kq,rfl,hy⟩
 split at hf
 ·
  rename_i hfl;obtain rfl:=zM8 hf;obtain ⟨e1,e2⟩:=zny hks hfl;have hd:=data (by rw [e1,e2];simp) (ow.f rt) (fun _ _=>rfl) (fun _ _=>rfl) (.inl hfl)
  rw [e1,e2] at hd;have hd2:LfO w' S (.list rt xs') (ow.f rt) (F i) (zal x' c).val:=by
   have:=hd.wide (F':=F i) fun y hy=>hy.elim id fun ⟨j,hj,_⟩=>nomatch hj;exact this.keep (fun _ _ _=>rfl) (fun y hy=>hy.elim id fun ⟨j,hj,_⟩=>nomatch hj) (fun _ _ _=>rfl)
  obtain ⟨yk,d,hk1,hk2⟩:=ht.hds;have hh:∀p',hdrs w' p' rt xs' (zal x' c)=hdrs w p' rt xs (zal x' c):=by
   refine zzy (ow:=ow.f rt) hOwn c2 hhd hFS w' _ _ xs' b 0 hgb (fun e=>by rw [e] at hidx;simp at hidx) (fun y hy hlt=>hkp.block y ⟨hlt,hy⟩) hSb hys' hxs' ?_
   exact zFK g2 hop0 hidx hnl hkn hyl (zfE hfl) hgb hblk hroom2 hblk' (fun y hy hlt=>hkp.block y ⟨hlt,hy⟩) hSb
  refine ⟨w',ρ,hex, .refl _ ρ,S,_,hs.write i hb hwi hi _ w' (F i) (fun y hy=> .inl hy) hkF ⟨fun e=>absurd rfl e,fun _=>?_⟩⟩;exact ⟨hcLen,zDH hm hd2,fun y hy=>zNd (ht.lt y hy) hkp.size,yk,d,hk1,by rw [hk2];funext p';exact (hh p').symm⟩
 ·split at hf
  ·rename_i hap;obtain rfl:=zM8 hf;have hkl:ks.length=(zcT ks).length:=zle.symm;have hd:=data (zbm hap) ((zLx (sub p rt xs).1 p idx cell ks.length ow).f rt) (fun q hq=>by
    cases ow with
    |none=>cases hm
    |ro=>cases hm
    |bor=>cases hm
    |dc=>cases hm
    |all=>rfl
    |fn f=>exact zyY hq
    |top=>exact zyY hq) (fun q hq=>by
    rw [←hkl] at hq;cases ow with
    |none=>cases hm
    |ro=>cases hm
    |bor=>cases hm
    |dc=>cases hm
    |all=>rfl
    |fn f=>exact zyZ hq
    |top=>exact zyZ hq) (.inr fun q r hq=>by
    rw [←hkl] at hq;cases ow with
    |none=>cases hm
    |ro=>cases hm
    |bor=>cases hm
    |dc=>cases hm
    |all=>exact zms (zhQ c2) hhd _
    |fn f=>exact zCg hq
    |top=>exact zCg hq)
   have hm':zzI (zLx (sub p rt xs).1 p idx cell ks.length ow) rt []=true:=by
    have h0:=zDJ c2;cases ow with
    |none=>cases hm
    |ro=>cases hm
    |bor=>cases hm
    |dc=>cases hm
    |all=>exact h0
    |fn f=>exact zyX h0
    |top=>exact zyX h0
   have hap':=List.nodup_cons.1 (zbm hap);have s1:=hs.give (zk ks) (zh ks);obtain ⟨s2,e2⟩:=s1.nameG (Kp.refl _ w) (fun _ _ _ _ _=>rfl) (fun _ _=>rfl) ⟨0,[.ver],some 0⟩ 0 ⟨0,0,none,fun p'=>hdrs w' p' rt xs' (zal x' c),fun _=>False⟩ (fun _=>False) ⟨fun e=>absurd rfl e,fun _=>fun y hy=>hy⟩ (fun y hy=>hy.elim);have hin:i<st.n:=hs.dom i (by rw [hi];simp)
   have hbi:((zaz st.h (zk ks++zh ks)).set st.n ⟨0,[.ver],some 0⟩).get i=some bk:=by
    rw [Go.Proofs.YtiepllpgifnloaaGreat.Vx.T.get_put,if_neg (by omega),zg0 hap'.1];exact hb
   have hFi2:Fup F st.n (fun _=>False) i=F i:=zap (by omega)
   refine ⟨w',_,hex,e2,_,_,s2.write2 i hbi hwi (e2.le _ _ hi) _ w' (fun y=>F i y∨Gn F st (zk ks) y) (fun y hy=>?_) (by rw [hFi2];exact hkF) ⟨fun e=>absurd rfl e,fun _=>?_⟩⟩
   ·rcases hy with hy|hy
    ·exact .inl (by rw [hFi2];exact hy)
    ·refine .inr (.inr ⟨(hy.lt hs).2.1,fun hS=>?_,fun j bj hj hyj=>?_⟩)
     ·rcases hS with hS|hS
      ·exact (hy.lt hs).2.2 hS
      ·refine Gn.apart hs (fun q h1 h2=>?_) hy hS;exact (zNq.1 hap'.2).2.2 q h1 q h2 rfl
     ·rw [Go.Proofs.YtiepllpgifnloaaGreat.Vx.T.get_put] at hj;by_cases hjn:j=st.n
      ·rw [hjn,zV] at hyj;exact hyj
      ·rw [if_neg hjn] at hj;rw [zap hjn] at hyj;obtain ⟨h3,h4⟩:=za2 hj;obtain ⟨q,q1,q2,⟨bq,q3⟩,q4⟩:=hy;exact hs.sep q j bq bj y q3 h3 (fun e=>h4 (by rw [←e];simp [q1])) (.inl q2) q4 hyj
   ·refine ⟨hcLen,zDH hm' hd,fun y hy=>?_,0,⟨0,0,none,fun p'=>hdrs w' p' rt xs' (zal x' c),fun _=>False⟩,by simp [Rho.up],rfl⟩
    rcases hy with hy|hy
    ·exact zNd (ht.lt y hy) hkp.size
    ·exact zNd (hy.lt hs).1 hkp.size
  ·cases hf
variable {P:Program} [Fast P] {ρ ρ':Rho} {nt:Nat} {tm:T AV} {a:Act} {w w0 w':World} {K:KS} {st st':St} {S:Nat→Prop} {F:Nat→Nat→Prop}
def zof (P:Program) [Fast P] (t:TypeId) (x y:AV) (st:St):Option (MP×St):=match x,y with
 | .ep i k p sz idx cell, .lv i' k' p' _ lo n'=>match st.wr i,st.h.get i,zeg P t with
   |true,some bk,some n=>match bk.op,zu bk.cells with
    |some 0, .tree ow rt xs kv=>match ze1 k kv p&&(zH7 ow rt p&&(Nat.beq (sub p rt xs).1.size sz&&(Nat.beq n 1&&(Nat.beq i i'&&(Nat.beq k' kv&&(Nat.beq lo 0&&(Nat.ble (Nat.succ cell) sz&& !shT (sub p rt xs).1 cell))))))) with
     |true=>match zpb ((sub p rt xs).1.leaves ((sub p rt xs).2.getD idx (sub p rt xs).1.dflt)) cell with
      | .list t' l'=>match zur (zcf idx cell [.list t' (l'.take n')]) p rt xs with
        |some xs'=>some (⟨p'=p++[(idx,cell)],inferInstance⟩,⟨(st.h.set st.n ⟨0,[.ver],some 0⟩).set i ⟨bk.ty,[.tre ow rt xs' st.n],some 0⟩,Nat.succ st.n,st.wr⟩)
        |none=>none
      |_=>none
     |false=>none
    |_,_=>none
   |_,_,_=>none
 |_,_=>none
theorem zIb {ls:List Leaf} {j:Nat} {x:Leaf} (h:zpb ls j=x) (hj:j<ls.length):ls[j]? =some x:=by
 rw [zNg hj, ←h,zc5 (zNg hj)]
theorem zyP {o:Oper} {t:TypeId} {x y:Operand} {pp:MP} (ho:o.op= .store t x y) (h:TR ρ nt tm a) (hs:Sim K w0 ρ st w) (hf:zof P t (ev tm x) (ev tm y) st=some (pp,st')) (hpp:pp.p):
  ∃w' ρ',(execOp a.eval o).run P w= .ok .skip w'∧Ext st.n st'.n ρ ρ'∧Sim K w0 ρ' st' w':=by
 have hdx:=h.ev x;have hdy:=h.ev y;unfold zof at hf;split at hf
 case h_2=>cases hf
 rename_i i k p sz idx cell i' k' p' sz' lo n' hx hy;rw [hx] at hdx;rw [hy] at hdy;simp only [den] at hdx hdy;obtain ⟨g,hg,hlt,b,o',hgb,hav⟩:=hdx;obtain ⟨g',hg',hlv⟩:=hdy;split at hf
 case h_2=>cases hf
 rename_i bk n hwi hb hn;split at hf
 case h_2=>cases hf
 rename_i ow rt xs kv hop hkd;split at hf
 case h_2=>cases hf
 rename_i hcc;simp only [Bool.and_eq_true] at hcc;obtain ⟨c1,c2,c3,c4,c5,c6,c7,c8,c9⟩:=hcc;have c3:=zM9 c3;have c4:=zM9 c4;have c5:=zM9 c5;have c6:=zM9 c6;have c7:=zM9 c7;have c8:cell+1≤sz:=zNc c8;have c9:shT (sub p rt xs).1 cell=false:=by simpa using c9
 subst c3;subst c4;subst c5;subst c6;subst c7;cases ow with
 |none=>cases c2
 |fn f=>cases c2
 |ro=>cases c2
 |bor=>cases c2
 |dc=>cases c2
 |top=>cases c2
 |all=>
 have c2:zdx (owT rt) p=true:=c2;split at hf
 case h_2=>cases hf
 rename_i t' l' hnl;split at hf
 case h_2=>cases hf
 rename_i xs' hxs';obtain ⟨rfl,rfl⟩:=zNb (zM8 hf);have hpp:p'=p++[(idx,cell)]:=hpp;subst hpp;obtain ⟨S,F,hs⟩:=hs;obtain ⟨x',c,hi,ht,hhd,hK⟩:=Sim.at_ hs hb hop hkd c1 hg;have hok:ze1 k' k' (p++[(idx,cell)])=true:=by
  cases p<;>exact Nat.beq_refl k'
 obtain ⟨x2,c2',hi2,_,hhd2,_⟩:=Sim.at_ hs hb hop hkd hok hg';rw [hi] at hi2;obtain ⟨rfl,rfl⟩:=zNb (zM8 hi2);have hFS:∀y,F i y→¬S y:=fun y hy=>hs.sd i bk y hb hwi hy;obtain ⟨G,g1,g2,g3⟩:=LfO.focus (ow:=owT rt) ht.own c2 hhd hFS;have hsub:=g2.rd;have hlen:=hsub.lenEq;have hidx:idx<(sub p rt xs).2.length:=by omega
 have hGS:∀y,G y→¬S y:=fun y hy=>hFS y (g1 y hy);have hop0:(fun q=>Ow.all.f rt (p++q)) []=true:=by
  show owT rt (p++[])=true;rw [List.append_nil];exact zhQ c2
 obtain ⟨b',cs,T,Gi,hA,hGb,hblk,hroom,hGi,hGd,hold,hrow⟩:=LfO.row g2 hop0 hidx hGS;rw [hgb] at hA;simp only [zNn,Addr.mk.injEq,and_true] at hA;obtain ⟨rfl,rfl⟩:=hA;have hleaf:((sub p rt xs).1.leaves ((sub p rt xs).2.getD idx (sub p rt xs).1.dflt))[cell]? =some (.list t' l'):=zIb hnl (by rw [RT.leaves_len];omega)
 have hlo:=hold cell _ hleaf;obtain ⟨A,c0,hA0,hle,_⟩:=hlo.rd.slice;have hcsz:idx*(sub p rt xs).1.size+cell<cs.size:=by rw [Nat.succ_mul] at hroom;omega
 have hcell:w.cell? ⟨b,0+idx*(sub p rt xs).1.size+cell,none⟩=some (.slice A l'.length c0):=by
  rw [hblk.cell,Nat.zero_add, ←hA0,Array.getD_eq_getD_getElem?,zNi hcsz];rfl
 have hsn:=zk6 (h:=zal x' c) ht.rd hhd hidx ⟨t',l',hleaf⟩ hgb hcell;rw [hsn] at hhd2;obtain rfl:=zM8 hhd2;obtain ⟨hn1,_,A',hv,hA',_⟩:=hlv;have hn1:0+n'≤l'.length:=hn1;obtain rfl:A'=A:=hA' rfl;have hv:a.eval y= .slice A' n' c0:=hv;have hnew:LfO w S (.list t' (l'.take n')) (fun q=>owT rt (p++(idx,cell)::q)) (Gi cell) (.slice A' n' c0):=by
  rw [hA0] at hlo;refine LfO.take hlo ?_ (by omega)
  show owT rt (p++[(idx,cell)])=true;rw [zms (zhQ c2) hhd];simp only [owT,c9,zbo hleaf]
 have hus:(a.eval y).cells.toList=[.slice A' n' c0]:=by rw [hv];rfl
 have hkn:cell+1≤(sub p rt xs).1.size:=c8;have hroom2:idx*(sub p rt xs).1.size+cell+1≤cs.size:=by omega
 obtain ⟨ys',hys'⟩:=zjU hxs';obtain ⟨y',hy',rfl⟩:∃y',(sub p rt xs).1.build (splice ((sub p rt xs).1.leaves ((sub p rt xs).2.getD idx (sub p rt xs).1.dflt)) cell [.list t' (l'.take n')])=some y'∧ys'=(sub p rt xs).2.set idx y':=by
  have h2:=hys';unfold zcf at h2;split at h2
  ·rename_i y' hy';exact ⟨y',hy',(zM8 h2).symm⟩
  ·cases h2
 have hyl:=RT.build_ok hy';have hrun:=zcs P b (idx*(sub p rt xs).1.size+cell) T [.slice A' n' c0] 0 cs w hblk (by simpa using hroom2) (by simp [Value.oneCell'])
 simp only [Nat.add_zero] at hrun;have hspl:cs.toList.take (idx*(sub p rt xs).1.size+cell)++[.slice A' n' c0]++cs.toList.drop (idx*(sub p rt xs).1.size+cell+([.slice A' n' c0]:List Value).length)=splice cs.toList (idx*(sub p rt xs).1.size+cell) [.slice A' n' c0]:=rfl;rw [hspl] at hrun;have hkp:=Kp.setRow w b (splice cs.toList (idx*(sub p rt xs).1.size+cell) [.slice A' n' c0]).toArray;have hblk':Blk (w.setRow b (splice cs.toList (idx*(sub p rt xs).1.size+cell) [.slice A' n' c0]).toArray) b T (splice cs.toList (idx*(sub p rt xs).1.size+cell) [.slice A' n' c0]).toArray:=hblk.setRow _ (by rw [List.size_toArray,zam (by simpa using hroom2),Array.length_toList])
 generalize hw':w.setRow b (splice cs.toList (idx*(sub p rt xs).1.size+cell) [.slice A' n' c0]).toArray=w' at hrun hkp hblk';have hex:(execOp a.eval o).run P w= .ok .skip w':=by
  have hsz:(a.eval y).cells.size=1:=by rw [hv];rfl
  rw [←hus] at hrun;unfold execOp;simp [ho,hav,Instr.storeAt,Instr.sureAddr,Sem.run_bind,storeVar,zaa hn,hsz,hrun]
 have hFi:F i b:=g1 b hGb;have hkF:Kp (fun y=>y<w.heap.size∧¬F i y) w w':=hkp.mono fun y hy=>⟨hy.1,fun e=>hy.2 (e▸hFi)⟩;have hSb:∀y,S y→y≠b:=fun y hy e=>hFS b hFi (e▸hy);have hcLen:c.m=xs'.length:=by
  rw [ht.len,zl0 (f:=zcf idx cell [.list t' (l'.take n')]) (fun u l l' h=>by
   unfold zcf at h;split at h
   ·obtain rfl:=zM8 h;simp
   ·cases h) hxs']
 have hd:LfO w' S (.list rt xs') (owT rt) (F i) (zal x' c).val:=by
  have:=g3 w' S (fun _=>False) (owT rt) _ _ xs' (fun y hy hny=>hkp.block y ⟨ht.lt y hy,fun e=>hny (e▸hGb)⟩) (fun y hy=>hkp.block y ⟨hs.sl y hy,hSb y hy⟩) (fun y hy=>hy) (fun y h=>h.elim) (fun q _=>rfl) hys' ?_ hxs'
  ·exact this.wide fun y hy=>hy.elim id fun h=>h.elim
  refine hrow w' S (fun _=>False) (fun q=>owT rt (p++q)) cell [.slice A' n' c0] [.list t' (l'.take n')] y' (fun q y=>q=0∧Gi cell y) rfl hkn hyl (fun q y ⟨e,hy⟩=> .inr (by rw [e];exact hy)) (fun q q' y ⟨e,_⟩ ⟨e',_⟩=>e.trans e'.symm) (fun y h=>h.elim) (fun y hy=>hy) (fun q _=>rfl) (fun y h1 h2 _=>hkp.block y ⟨h1,h2⟩) hblk' (fun q lf v hq hvq=>?_)
  cases q with
  |zero=>
   simp only [List.getElem?_cons_zero,zNn] at hq hvq;subst hq;subst hvq;exact (hnew.keep (fun y hy hlt=>hkp.block y ⟨hlt,(hGi cell y hy).2⟩) (fun y hy=>hy) (fun y hy hlt=>hkp.block y ⟨hlt,hSb y hy⟩)).wide fun y hy=>⟨rfl,hy⟩
  |succ q=>simp at hq
 obtain ⟨s2,e2⟩:=hs.nameG (Kp.refl _ w) (fun _ _ _ _ _=>rfl) (fun _ _=>rfl) ⟨0,[.ver],some 0⟩ 0 ⟨0,0,none,fun p'=>hdrs w' p' rt xs' (zal x' c),fun _=>False⟩ (fun _=>False) ⟨fun e=>absurd rfl e,fun _=>fun y hy=>hy⟩ (fun y hy=>hy.elim);have hin:i<st.n:=hs.dom i (by rw [hi];simp)
 have hbi:(st.h.set st.n ⟨0,[.ver],some 0⟩).get i=some bk:=by
  rw [Go.Proofs.YtiepllpgifnloaaGreat.Vx.T.get_put,if_neg (by omega)];exact hb
 have hFi2:Fup F st.n (fun _=>False) i=F i:=zap (by omega)
 refine ⟨w',_,hex,e2,_,_,s2.write2 i hbi hwi (e2.le _ _ hi) _ w' (F i) (fun y hy=> .inl (by rw [hFi2];exact hy)) (by rw [hFi2];exact hkF) ⟨fun e=>absurd rfl e,fun _=>?_⟩⟩
 exact ⟨hcLen,hd,fun y hy=>zNd (ht.lt y hy) hkp.size,0,⟨0,0,none,fun p'=>hdrs w' p' rt xs' (zal x' c),fun _=>False⟩,by simp [Rho.up],rfl⟩
variable {P:Program} [Fast P] {ρ ρ':Rho} {nt:Nat} {tm:T AV} {a:Act} {w w0 w':World} {K:KS} {st st':St} {S:Nat→Prop} {F:Nat→Nat→Prop}
def zM5 (s:String):Option SN:=
 if s= "interleave/api.Value" then some .val else if s= "interleave/api.Waiter" then some .wtr else if s= "interleave/api.Instr" then some .ins else if s= "interleave/api.Event" then some .ev else if s= "interleave/api.Frame" then some .frm
 else if s= "interleave/api.Object" then some .ob else if s= "interleave/api.Sync" then some .syn else if s= "interleave/api.Deferred" then some .dfr else if s= "interleave/api.Goroutine" then some .gor else if s= "interleave/api.Pick" then some .pck
 else if s= "interleave/api.Transfer" then some .trf else if s= "interleave/api.Func" then some .fnc else if s= "interleave/api.Global" then some .glb else if s= "interleave/api.Program" then some .prg else if s= "interleave/api.Machine" then some .mac else none
def zGA (P:Program) [Fast P]:Nat→TypeId→Option RT
 |0,_=>none
 |d+1,t=>match zd0 P t with
  |some i=>match i.desc with
   | .named s u=>match zM5 s with
     |some n=>some (.st n)
     |none=>zGA P d u
   | .int k=>some (.int k)
   | .bool=>some .bool
   | .string=>some .str
   | .slice e=>match zGA P d e with
     |some r=>some (.list r)
     |none=>none
   |_=>none
  |none=>none
theorem LfR.rows {G:Nat→Prop} {t:RT} {l:List t.ty} {A:Option Addr} {n c:Nat} (h:LfR w G (.list t l) (.slice A n c)) (hpos:0<t.size):∃us:List Value,us.length=n*t.size∧(∀v∈us,v.oneCell'=true)∧(0<n→∃b o,A=some ⟨b,o,none⟩∧∀j v,us[j]? =some v→w.cell? ⟨b,o+j,none⟩=some v)∧
  ∀(i:Nat) x,l[i]? =some x→∀(j:Nat) lf,(t.leaves x)[j]? =some lf→∃v,us[i*t.size+j]? =some v∧LfR w G lf v:=by
 have hn:=h.lenEq;rcases zNl n with h0|h0
 ·subst h0;have:l=[]:=zNj.1 hn.symm;subst this;exact ⟨[],by simp,by simp,fun h=>absurd h (Nat.lt_irrefl 0),fun i x hx=>by simp at hx⟩
 ·have hx0:l[0]? =some (l[0]'(by omega)):=zNg _
  obtain ⟨b,o,rfl,_,_,_⟩:=h.elem hx0;have hcell:∀q,q<n*t.size→∃v lf,w.cell? ⟨b,o+q,none⟩=some v∧LfR w G lf v:=fun q hq=>by
   have hi:q / t.size<l.length:=by rw [←hn];exact (Nat.div_lt_iff_lt_mul hpos).2 hq
   obtain ⟨b',o',e,_,_,hc⟩:=h.elem (zNg hi);simp only [zNn,Addr.mk.injEq,and_true] at e;obtain ⟨rfl,rfl⟩:=e;have hj:q%t.size<(t.leaves l[q / t.size]).length:=by rw [RT.leaves_len];exact Nat.mod_lt _ hpos
   obtain ⟨v,h1,h2⟩:=hc _ _ (zNg hj);refine ⟨v,_,?_,h2⟩;rw [←h1];congr 2;have:=Nat.div_add_mod q t.size;rw [Nat.mul_comm] at this;omega
  refine ⟨(List.range (n*t.size)).map fun q=>(w.cell? ⟨b,o+q,none⟩).getD undef,by simp,fun v hv=>?_,fun _=>⟨b,o,rfl,fun j v hv=>?_⟩,fun i x hx j lf hj=>?_⟩
  ·obtain ⟨q,hq,rfl⟩:=List.mem_map.1 hv;obtain ⟨v,lf,h1,h2⟩:=hcell q (List.mem_range.1 hq);rw [h1];cases h2<;>rfl
  ·rw [List.getElem?_map] at hv;have hj:j<n*t.size:=by
    rcases Nat.lt_or_ge j (n*t.size) with h|h
    ·exact h
    ·rw [List.getElem?_eq_none (by simpa using h)] at hv;cases hv
   rw [List.getElem?_range hj] at hv;obtain ⟨v',lf,h1,h2⟩:=hcell j hj;simp only [Option.map_some,h1,Option.getD_some,zNn] at hv;rw [←hv];exact h1
  ·have hi:=(zNa.1 hx).1;have hj':=(zNa.1 hj).1;rw [RT.leaves_len] at hj';have hq:i*t.size+j<n*t.size:=by
    have:(i+1)*t.size≤n*t.size:=zNe _ (by omega)
    rw [Nat.succ_mul] at this;omega
   obtain ⟨b',o',e,_,_,hc⟩:=h.elem hx;simp only [zNn,Addr.mk.injEq,and_true] at e;obtain ⟨rfl,rfl⟩:=e;obtain ⟨v,h1,h2⟩:=hc j lf hj;refine ⟨v,?_,h2⟩;rw [List.getElem?_map,List.getElem?_range hq,Option.map_some];congr 1;rw [show o+(i*t.size+j)=o+i*t.size+j by omega,h1]
   rfl
def zen (t:RT):Nat→List Leaf→Bool
 |_,[]=>true
 |j, .list .. ::l=>shT t j&&zen t (Nat.succ j) l
 |j,_::l=>zen t (Nat.succ j) l
theorem zef {t:RT}:∀{j:Nat} {l:List Leaf},zen t j l=true→∀(q:Nat) lf,l[q]? =some lf→lf.elem≠none→shT t (j+q)=true
 |_,[],_,q,lf,hq,_=>by simp at hq
 |j, .list u x::l,h,q,lf,hq,he=>by
  simp only [zen,Bool.and_eq_true] at h;cases q with
  |zero=>exact h.1
  |succ q=>have:=zef h.2 q lf (by simpa using hq) he;rwa [show j.succ+q=j+(q+1) by omega] at this
 |j, .int .. ::l,h,q,lf,hq,he=>by
  cases q with
  |zero=>simp at hq;subst hq;exact absurd rfl he
  |succ q=>have:=zef (l:=l) (j:=j+1) h q lf (by simpa using hq) he;rwa [show j+1+q=j+(q+1) by omega] at this
 |j, .bool _::l,h,q,lf,hq,he=>by
  cases q with
  |zero=>simp at hq;subst hq;exact absurd rfl he
  |succ q=>have:=zef (l:=l) (j:=j+1) h q lf (by simpa using hq) he;rwa [show j+1+q=j+(q+1) by omega] at this
 |j, .str _::l,h,q,lf,hq,he=>by
  cases q with
  |zero=>simp at hq;subst hq;exact absurd rfl he
  |succ q=>have:=zef (l:=l) (j:=j+1) h q lf (by simpa using hq) he;rwa [show j+1+q=j+(q+1) by omega] at this
def zgs (st:St) (sh:Bool) (t:RT):Nat→List AV→Option (List (t.ty×List Tk))
 |0,_=>some []
 |n+1,l=>match zcz st sh t 0 (t.leaves t.dflt) (l.take t.size),zgs st sh t n (l.drop t.size) with
  |some ks,some r=>match t.build (zcT ks) with
   |some x=>some ((x,ks)::r)
   |none=>none
  |_,_=>none
def zi8 {t:RT}:List (t.ty×List Tk)→List t.ty
 |[]=>[]
 |(x,_)::l=>x::zi8 l
def zso {t:RT}:List (t.ty×List Tk)→List Tk
 |[]=>[]
 |(_,ks)::l=>ks++zso l
def zqI (st:St) (sh:Bool):AV→Bool
 | .lw i k p _ _=>viewAt i k p
 | .lv i k p _ _ _=>viewAt i k p
 |_=>false
 where viewAt (i k:Nat) (p:Path):Bool:=match st.h.get i with
 |some bk=>match bk.op,zu bk.cells with
  |some 0, .tree ow _ _ kv=>match ow with
   | .none=>ze1 k kv p
   | .all=> !sh&&ze1 k kv p
   | .fn _=>false
   | .ro=>false
   | .top=>sh&&ze1 k kv p
   | .bor=>false
   | .dc _ _=>false
  |_,_=>false
 |none=>false
def zIM (st:St) (sh:Bool) (t:RT) (x:AV):Option (List t.ty×List Tk):=match x with
 | .lit (.slice none 0 0)=>some ([],[])
 | .emz=>some ([],[])
 | .sl b off len _ _=>match zk4 st.h b with
   |some bk=>match Nat.ble len 1000000&&Nat.ble (Nat.add off (Nat.mul len t.size)) bk.cells.length,zgs st sh t len (bk.cells.drop off) with
    |true,some r=>some (zi8 r,zso r)
    |_,_=>none
   |none=>none
 |x=>match zdX (t.leaves t.dflt)||((sh||zen t 0 (t.leaves t.dflt))&&zqI st sh x),zbO 5 st t x with
  |true,some l=>some (l,[])
  |_,_=>none
theorem zog {idx j:Nat}:∀{p:Path} {t:RT} {l:List t.ty},sub (p++[(idx,j)]) t l=match zpb ((sub p t l).1.leaves ((sub p t l).2.getD idx (sub p t l).1.dflt)) j with
  | .list t' l'=>⟨t',l'⟩
  |_=>⟨.bool,[]⟩
 |[],t,l=>by
  show sub [(idx,j)] t l=_;simp only [sub];cases zpb (t.leaves (l.getD idx t.dflt)) j<;>rfl
 |(i,q)::p,t,l=>by
  rw [List.cons_append,sub,sub];cases hn:zpb (t.leaves (l.getD i t.dflt)) q with
  |list t' l'=>exact zog (p:=p)
  |_=>cases j<;>rfl
theorem zzQ {idx j:Nat}:∀{p:Path} {t:RT},owT t p=false→owT t (p++[(idx,j)])=false
 |[],t,h=>by rw [zb3] at h;cases h
 |(i,q)::p,t,h=>by
  rw [List.cons_append];simp only [owT] at h ⊢;split
  ·rename_i h1 h2;rw [h1,h2] at h;exact zzQ h
  ·rfl
theorem zCI (hs:SimF K w0 ρ S F st w) {sh:Bool} {i k:Nat} {p:Path} {g:Hdr} {bk:Bk} {ow:Ow} {rt:RT} {xs:List rt.ty} {kv idx j b o:Nat} {u':RT} {l':List u'.ty} {v:Value} (hb:st.h.get i=some bk) (hop:bk.op=some 0) (hkd:zu bk.cells= .tree ow rt xs kv) (hv:ze1 k kv p=true) (how:ow= .none∨ow= .all∧sh=false∨ow= .top)
  (hg:hdrOf ρ i k p g) (hgb:g.1=some ⟨b,o,none⟩) (hidx:idx<(sub p rt xs).2.length) (hl:((sub p rt xs).1.leaves ((sub p rt xs).2.getD idx (sub p rt xs).1.dflt))[j]? =some (.list u' l')) (hsh:sh=false→shT (sub p rt xs).1 j=true)
  (hc:w.cell? ⟨b,o+idx*(sub p rt xs).1.size+j,none⟩=some v) (hr:∃G,LfR w G (.list u' l') v):LfR w S (.list u' l') v:=by
 obtain ⟨x,c,_,ht,hhd,_⟩:=Sim.at_ hs hb hop hkd hv hg;obtain ⟨G,hr⟩:=hr;obtain ⟨A2,c2,rfl,_⟩:=hr.slice;have h1:=zk6 (j:=j) (idx:=idx) ht.rd hhd hidx ⟨u',l',hl⟩ hgb hc;have h2:(sub (p++[(idx,j)]) rt xs)=⟨u',l'⟩:=by rw [zog,zc5 hl]
 have h3:ow.f rt (p++[(idx,j)])=false:=by
  rcases how with rfl|⟨rfl,e0⟩|rfl
  ·rfl
  ·show owT rt (p++[(idx,j)])=false;cases e:owT rt p with
   |false=>exact zzQ e
   |true=>
    rw [zms e hhd];simp only [owT,hsh e0]
  ·cases p<;>rfl
 have hown:LfO w S (.list rt xs) (ow.f rt) (F i) (zal x c).val:=by
  rcases how with rfl|⟨rfl,_⟩|rfl
  ·exact ht.own
  ·exact ht.own
  ·exact ht.own
 have h4:=zkJ hown h3 h1;rw [h2] at h4;exact h4
theorem znz {sh:Bool} {t:RT}:∀{n:Nat} {l:List AV} {r:List (t.ty×List Tk)},zgs st sh t n l=some r→(zi8 r).length=n
 |0,_,_,h=>by simp only [zgs,zNn] at h;subst h;rfl
 |n+1,l,r,h=>by
  simp only [zgs] at h;split at h
  ·split at h
   ·rename_i h2 _ _ _;obtain rfl:=zM8 h;simp [zi8,znz h2]
   ·cases h
  ·cases h
theorem zqE (hs:SimF K w0 ρ S F st w) {sh:Bool} {t:RT}:∀{n:Nat} {l:List AV} {us:List Value} {r:List (t.ty×List Tk)},zgs st sh t n l=some r→dens ρ l us→n*t.size≤us.length→
  ∀(i:Nat) x,(zi8 r)[i]? =some x→∀(j:Nat) lf,(t.leaves x)[j]? =some lf→∃v kq,us[i*t.size+j]? =some v∧(zso r)[i*t.size+j]? =some kq∧LfO w (fun y=>S y∨Gn F st kq.rel y) lf (zkM sh t j) (Gn F st kq.own) v
 |0,_,_,_,h,_,_=>by
  simp only [zgs,zNn] at h;subst h;intro i x hx;simp [zi8] at hx
 |n+1,l,us,r,h,hd,hle=>by
  simp only [zgs] at h;split at h
  ·rename_i ks r' h1 h2;split at h
   ·rename_i x0 hx0;obtain rfl:=zM8 h;rw [Nat.succ_mul] at hle;have hkl:=zhz hs h1 (zcb t.size hd);have hks:ks.length=t.size:=by rw [hkl.1,RT.leaves_len]
    intro i x hx j lf hj;have hjs:j<t.size:=by have:=(zNa.1 hj).1;rwa [RT.leaves_len] at this
    cases i with
    |zero=>
     simp only [zi8,List.getElem?_cons_zero,zNn] at hx;subst hx;have hlv:=RT.build_ok hx0;rw [hlv,ziG] at hj;obtain ⟨kq,hkq⟩:∃kq,ks[j]? =some kq:=⟨_,zNg (by omega)⟩
     obtain ⟨v,hv⟩:∃v,us[j]? =some v:=⟨_,zNg (by omega)⟩
     rw [hkq] at hj;obtain rfl:=zM8 hj;have hu:(us.take t.size)[j]? =some v:=by rw [List.getElem?_take,if_pos hjs,hv]
     obtain ⟨l1,lf0,l2,l3⟩:=hkl.2.2 j _ _ hkq hu;refine ⟨v,kq,by rw [Nat.zero_mul,Nat.zero_add];exact hv,by rw [Nat.zero_mul,Nat.zero_add];show (ks++zso r')[j]? =_;rw [zNh (by omega)];exact hkq,?_⟩
     rw [Nat.zero_add] at l1;cases he:kq.lf.elem with
     |none=>exact l1.scal he
     |some t'=>
      rw [he] at l3;have hel:t.elemAt j=some t':=by
       cases lf0 with
       |list u2 ll=>simp only [Leaf.elem,zNn] at l3;subst l3;exact zbo l2
       |_=>cases l3
      have e5:zkM sh t j=ziK (sh||shT t j) kq.lf:=by
       funext r
       simp only [zkM,ziK,hel,he]
       all_goals (cases sh<;>cases shT t j<;>rfl)
      rw [e5];exact l1
    |succ i=>
     simp only [zi8,List.getElem?_cons_succ] at hx;obtain ⟨v,kq,e1,e2,e3⟩:=zqE hs h2 (zbA t.size hd) (by rw [List.length_drop];omega) i x hx j lf hj
     refine ⟨v,kq,?_,?_,e3⟩
     ·rw [List.getElem?_drop] at e1;rw [←e1,Nat.succ_mul];congr 1;omega
     ·show (ks++zso r')[_]? =_;rw [zNp (by rw [hks,Nat.succ_mul];omega), ←e2,hks,Nat.succ_mul]
      congr 1;omega
   ·cases h
  ·cases h
theorem zsB (hs:SimF K w0 ρ S F st w) {sh:Bool} {t:RT} (hpos:0<t.size) {x:AV} {u:Value} {ys:List t.ty} {ks:List Tk} (h:zIM st sh t x=some (ys,ks)) (hd:den ρ x u):∃(A:Option Addr) (c:Nat) (us:List Value),u= .slice A ys.length c∧us.length=ys.length*t.size∧(∀v∈us,v.oneCell'=true)∧(0<ys.length→∃b o,A=some ⟨b,o,none⟩∧∀j v,us[j]? =some v→w.cell? ⟨b,o+j,none⟩=some v)∧
  ∃Hc:Nat→Nat→Nat→Prop,(∀i j y,Hc i j y→Gn F st (zk ks) y)∧((zk ks).Nodup→∀i j i' j' y,j<t.size→j'<t.size→Hc i j y→Hc i' j' y→i=i'∧j=j')∧
   ∀(i:Nat) x,ys[i]? =some x→∀(j:Nat) lf,(t.leaves x)[j]? =some lf→∃v,us[i*t.size+j]? =some v∧LfO w (fun y=>S y∨Gn F st (zh ks) y) lf (zkM sh t j) (Hc i j) v:=by
 have nil_:∀(A:Option Addr) (c:Nat),∃(A':Option Addr) (c':Nat) (us:List Value),(Value.slice A 0 c)= .slice A' (List.length ([]:List t.ty)) c'∧us.length=(List.length ([]:List t.ty))*t.size∧(∀v∈us,v.oneCell'=true)∧(0<(List.length ([]:List t.ty))→∃b o,A'=some ⟨b,o,none⟩∧∀j v,us[j]? =some v→w.cell? ⟨b,o+j,none⟩=some v)∧
   ∃Hc:Nat→Nat→Nat→Prop,(∀i j y,Hc i j y→Gn F st (zk []) y)∧((zk []).Nodup→∀i j i' j' y,j<t.size→j'<t.size→Hc i j y→Hc i' j' y→i=i'∧j=j')∧
    ∀(i:Nat) x,([]:List t.ty)[i]? =some x→∀(j:Nat) lf,(t.leaves x)[j]? =some lf→∃v,us[i*t.size+j]? =some v∧LfO w (fun y=>S y∨Gn F st (zh []) y) lf (zkM sh t j) (Hc i j) v:=
  fun A c=>⟨A,c,[],rfl,by simp,by simp,fun h=>absurd h (Nat.lt_irrefl 0),fun _ _ _=>False,fun _ _ _ h=>h.elim,fun _ _ _ _ _ _ _ _ h=>h.elim,fun i x hx=>by simp at hx⟩
 unfold zIM at h;split at h
 ·obtain ⟨rfl,rfl⟩:=zNb (zM8 h);simp only [den] at hd;subst hd;exact nil_ none 0
 ·obtain ⟨rfl,rfl⟩:=zNb (zM8 h);simp only [den] at hd;obtain ⟨A,rfl⟩:=hd;exact nil_ A 0
 ·rename_i b off len cap op;simp only [den] at hd;obtain ⟨x,c,hx,rfl,_⟩:=hd;split at h
  ·rename_i bk hb;split at h
   ·rename_i r hc hr;obtain ⟨rfl,rfl⟩:=zNb (zM8 h);simp only [Bool.and_eq_true] at hc;have hle:off+len*t.size≤bk.cells.length:=zNc hc.2;obtain ⟨x',c',hx',hbk,_⟩:=SimF.blkC hs hb;rw [hx] at hx';obtain ⟨rfl,rfl⟩:=zNb (zM8 hx');obtain ⟨hbk,_⟩:= ‹_∧_›;obtain ⟨vs,rest,b1,b2,b3,b4,b5⟩:=hbk;have hvl:=zL b1;have hlen:=znz hr;have hrows:=zqE hs hr (zbA off b1) (by rw [List.length_drop];omega)
    refine ⟨_,_,(vs.drop off).take (len*t.size),by rw [hlen],by rw [hlen,List.length_take,List.length_drop];omega,fun v hv=>b3 v (List.mem_of_mem_drop (List.mem_of_mem_take hv)),fun _=>⟨x,off,rfl,fun j v hj=>?_⟩,
     fun i j y=>j<t.size∧∃kq,(zso r)[i*t.size+j]? =some kq∧Gn F st kq.own y,fun i j y ⟨_,kq,e1,e2⟩=>e2.mono fun q hq=>zd5 e1 hq,fun hnd i j i' j' y hj1 hj2 ⟨_,k1,e1,e2⟩ ⟨_,k2,e3,e4⟩=>?_,fun i x hx j lf hj=>?_⟩
    ·rw [List.getElem?_take] at hj;split at hj
     ·rw [List.getElem?_drop] at hj;rw [b2.cell,List.getElem?_toArray,zNh (zNa.1 hj).1];exact hj
     ·cases hj
    ·have hq:i*t.size+j=i'*t.size+j':=by
      obtain ⟨q1,m1,m2,⟨c1,m3⟩,m4⟩:=e2;obtain ⟨q2,n1,n2,⟨c2,n3⟩,n4⟩:=e4;by_cases hq:q1=q2
      ·subst hq;exact zjD hnd e1 e3 m1 n1
      ·exact (hs.sep q1 q2 c1 c2 y m3 n3 hq (.inl m2) m4 n4).elim
     have h1:(i*t.size+j) / t.size=i:=by rw [Nat.mul_comm,Nat.mul_add_div hpos,Nat.div_eq_of_lt hj1,Nat.add_zero]
     have h2:(i'*t.size+j') / t.size=i':=by rw [Nat.mul_comm,Nat.mul_add_div hpos,Nat.div_eq_of_lt hj2,Nat.add_zero]
     rw [hq,h2] at h1;subst h1;exact ⟨rfl,by omega⟩
    ·have hi:=(zNa.1 hx).1;have hj':=(zNa.1 hj).1;rw [RT.leaves_len] at hj';rw [hlen] at hi;obtain ⟨v,kq,e1,e2,e3⟩:=hrows i x hx j lf hj;refine ⟨v,?_,(e3.wide fun y hy=>⟨hj',kq,e2,hy⟩).more fun y hy=>hy.imp id fun hy=>hy.mono fun q hq=>zhw e2 hq⟩;rw [List.getElem?_take,if_pos,e1];have:(i+1)*t.size≤len*t.size:=zNe _ hi;rw [Nat.succ_mul] at this;omega
   ·cases h
  ·cases h
 ·rename_i _ n1 n2 n3;clear n1 n2 n3;cases hc0:(zdX (t.leaves t.dflt)||((sh||zen t 0 (t.leaves t.dflt))&&zqI st sh x)) with
  |false=>simp only [hc0] at h;cases h
  |true=>
  cases hl:zbO 5 st t x with
  |none=>simp only [hc0,hl] at h;cases h
  |some l=>
   simp only [hc0,hl] at h;have hc:=hc0;obtain ⟨rfl,rfl⟩:=zNb (zM8 h);simp only [Bool.or_eq_true,Bool.and_eq_true] at hc;have hrd:=zep hs _ hl hd;obtain ⟨A,c,rfl,hle,hmx⟩:=hrd.slice;obtain ⟨us,r1,r2,r3,r4⟩:=hrd.rows hpos;refine ⟨A,c,us,rfl,r1,r2,r3,fun _ _ _=>False,fun _ _ _ h=>h.elim,fun _ _ _ _ _ _ _ _ h=>h.elim,fun i y hy j lf hj=>?_⟩;obtain ⟨v,hv,hr⟩:=r4 i y hy j lf hj;refine ⟨v,hv,?_⟩;cases he:lf.elem with
   |none=>exact zkX hr he
   |some u'=>
    replace hc:(sh=true∨zen t 0 (t.leaves t.dflt)=true)∧zqI st sh x=true:=by
     rcases hc with hc|hc
     ·rw [zg1 hc hj] at he;cases he
     ·exact hc
    have hsh:sh=false→shT t j=true:=fun e0=>by
     have hc1:zen t 0 (t.leaves t.dflt)=true:=hc.1.resolve_left (by rw [e0];intro h;cases h)
     have h7:((t.leaves y).map Leaf.elem)[j]? =some (some u'):=by rw [List.getElem?_map,hj,Option.map_some,he]
     rw [zb1,List.getElem?_map] at h7;cases e0:(t.leaves t.dflt)[j]? with
     |none=>rw [e0] at h7;cases h7
     |some l0=>
      rw [e0] at h7;have:=zef hc1 j l0 e0 (by simp only [Option.map_some,zNn] at h7;rw [h7];simp)
      rwa [Nat.zero_add] at this
    cases lf with
    |list u2 l2=>
     simp only [Leaf.elem,zNn] at he;subst he;have hi:=(zNa.1 hy).1;obtain ⟨b,o,rfl,hcells⟩:=r3 (by omega)
     have hcell:=hcells _ _ hv;refine .shr _ _ _ _ _ (by cases sh with|true=>rfl|false=>simp [zkM,hsh rfl]) (LfR.keep (F:=S) (F':=fun y=>S y∨Gn F st (zh []) y) ?_ (fun y hy=> .inl hy) fun _ _ _=>rfl)
     have hvo:=hc.2;unfold zbO at hl;split at hl
     ·cases hvo
     ·cases hvo
     ·cases hvo
     ·rename_i i0 k0 p0 sz n0;simp only [den] at hd;obtain ⟨g,hg,hlv,hgn⟩:=hd;split at hl
      ·rename_i bk hb;split at hl
       ·rename_i ow rt xs kv hop hkd;split at hl
        ·rename_i hh hver hsame;simp only [Bool.and_eq_true] at hver;have hsz:=zM9 hver.2;subst hsz;obtain rfl:=zM8 hl;have how:ow= .none∨ow= .all∧sh=false∨ow= .top:=by
          simp only [zqI,zqI.viewAt,hb,hop,hkd] at hvo;cases ow with
          |none=>exact .inl rfl
          |all=>cases sh with
           |false=>exact .inr (.inl ⟨rfl,rfl⟩)
           |true=>cases hvo
          |fn f=>cases hvo
          |ro=>cases hvo
          |bor=>cases hvo
          |dc=>cases hvo
          |top=>exact .inr (.inr rfl)
         obtain ⟨e⟩:=hh;subst e;obtain ⟨h1,h2,A',e1,h3,h4⟩:=hlv;simp only [Value.slice.injEq] at e1;obtain ⟨rfl,rfl,rfl⟩:=e1;have hgb:g.1=some ⟨b,o,none⟩:=(h3 rfl).symm;refine zCI hs hb hop hkd hver.1 how hg hgb (idx:=i) (j:=j) hi ?_ hsh ?_ ⟨_,hr⟩
         ·have:(sub p0 rt xs).2.getD i (sub p0 rt xs).1.dflt=y:=by rw [List.getD_eq_getElem?_getD];have hy:(sub p0 rt xs).2[i]? =some y:=hy;rw [hy];rfl
          rw [this];exact hj
         ·rw [←hcell];congr 2;omega
        ·cases hl
       ·cases hl
      ·cases hl
     ·rename_i i0 k0 p0 sz lo n0;simp only [den] at hd;obtain ⟨g,hg,hlv⟩:=hd;split at hl
      ·rename_i bk hb;split at hl
       ·rename_i ow rt xs kv hop hkd;split at hl
        ·rename_i hh hver hsame;simp only [Bool.and_eq_true] at hver;have hsz:=zM9 hver.2;subst hsz;obtain rfl:=zM8 hl;have how:ow= .none∨ow= .all∧sh=false∨ow= .top:=by
          simp only [zqI,zqI.viewAt,hb,hop,hkd] at hvo;cases ow with
          |none=>exact .inl rfl
          |all=>cases sh with
           |false=>exact .inr (.inl ⟨rfl,rfl⟩)
           |true=>cases hvo
          |fn f=>cases hvo
          |ro=>cases hvo
          |bor=>cases hvo
          |dc=>cases hvo
          |top=>exact .inr (.inr rfl)
         obtain ⟨e⟩:=hh;subst e;obtain ⟨h1,h2,A',e1,h3,h4⟩:=hlv;simp only [Value.slice.injEq] at e1;obtain ⟨rfl,hln,rfl⟩:=e1;obtain ⟨b2,o2,hgb,e2⟩:=h4 (by omega)
         simp only [zNn,Addr.mk.injEq,and_true] at e2;obtain ⟨rfl,rfl⟩:=e2;have hy:(((sub p0 rt xs).2.drop lo).take n0)[i]? =some y:=hy;rw [List.getElem?_take] at hy;split at hy
         ·rw [List.getElem?_drop] at hy;refine zCI hs hb hop hkd hver.1 how hg hgb (idx:=lo+i) (j:=j) (zNa.1 hy).1 ?_ hsh ?_ ⟨_,hr⟩
          ·have:(sub p0 rt xs).2.getD (lo+i) (sub p0 rt xs).1.dflt=y:=by rw [List.getD_eq_getElem?_getD,hy];rfl
           rw [this];exact hj
          ·rw [←hcell];congr 2;rw [zNr];omega
         ·cases hy
        ·cases hl
       ·cases hl
      ·cases hl
     ·cases hvo
     ·cases hl
    |_=>cases he
def zeM (ow:Ow) (t:RT) (l:List t.ty) (h:T Bk) (n:Nat) (wr:Nat→Bool):AV×St:=
 (.lw (Nat.succ n) (Nat.succ n) [] t.size l.length,⟨(h.set n ⟨0,[.ver],some 0⟩).set (Nat.succ n) ⟨0,[.tre ow t l n],some 0⟩,Nat.succ (Nat.succ n),wr⟩)
theorem SimF.tree (h:SimF K w0 ρ S F st w) {ow:Ow} {t:RT} {l:List t.ty} {A:Option Addr} {c:Nat} {G:Nat→Prop} (hl:OwnR w S (Mr ρ) G ow t l (.slice A l.length c)) (hlt:∀y,G y→y<w.heap.size)
  (hG:∀y,G y→(st.wr (Nat.succ st.n)=true→¬K.k y∧¬S y)∧∀j bj,st.h.get j=some bj→(st.wr (Nat.succ st.n)=true∨st.wr j=true)→¬F j y) {a:AV} {st':St} (hn:zeM ow t l st.h st.n st.wr=(a,st')):
  ∃ρ' F',Ext st.n st'.n ρ ρ'∧SimF K w0 ρ' S F' st' w∧den ρ' a (.slice A l.length c)∧st'.wr=st.wr∧(∀j bj,st'.h.get j=some bj→(st.h.get j=some bj∧F' j=F j)∨(st.n≤j∧j<st'.n∧∀y,F' j y→G y)):=by
 obtain ⟨rfl,rfl⟩:=zNb hn;have hrd:=hl.rd;have hkp:Kp K.k w w:=Kp.refl K.k w;obtain ⟨s1,e1⟩:=h.nameG hkp (fun _ _ _ _ _=>rfl) (fun _ _=>rfl) ⟨0,[.ver],some 0⟩ 0 ⟨0,0,none,fun p=>hdrs w p t l (A,l.length,c),fun _=>False⟩ (fun _=>False) ⟨fun e=>absurd rfl e,fun _=>fun y hy=>hy⟩ (fun y hy=>hy.elim);obtain ⟨s2,e2⟩:=s1.nameG hkp (fun _ _ _ _ _=>rfl) (fun _ _=>rfl) ⟨0,[.tre ow t l st.n],some 0⟩ 0 ⟨c,l.length,A,fun _=>none,fun _=>False⟩ G ⟨fun e=>absurd rfl e,fun _=>by
   refine ⟨rfl,hl.more fun b hb=>(hb.mono e1.le).mono (Rho.le_up (Sim.fresh ⟨S,_,s1⟩)),hlt,0,⟨0,0,none,fun p=>hdrs w p t l (A,l.length,c),fun _=>False⟩,?_,rfl⟩;simp [Rho.up]⟩ (fun y hy=>⟨(hG y hy).1,fun j bj hj hw=>by
  rw [T.get_put] at hj;by_cases hjn:j=st.n
  ·rw [hjn,zV];exact id
  ·rw [if_neg hjn] at hj;rw [zap hjn];exact (hG y hy).2 j bj hj hw⟩)
 obtain ⟨A',c',he,h1,h2⟩:=hrd.slice;simp only [Value.slice.injEq] at he;obtain ⟨rfl,_,rfl⟩:=he;refine ⟨_,_,e1.trans e2,s2,?_,rfl,fun j bj hj=>?_⟩
 ·simp only [den];refine ⟨(A,l.length,c),⟨0,⟨c,l.length,A,fun _=>none,fun _=>False⟩,0,⟨c,l.length,A,fun _=>none,fun _=>False⟩,by simp [Rho.up],by simp [Rho.up],rfl⟩,⟨by simp,h1,A,by simp,fun _=>rfl,fun hn=>?_⟩,rfl⟩
  cases hrd with
  |list _ _ _ _ vf h1 h2 h3 hc hr=>
   obtain ⟨b,o,e,_⟩:=h3 (by rintro rfl;exact hn rfl)
   exact ⟨b,o,e,by simpa using e⟩
 ·simp only [T.get_put] at hj;by_cases hj1:j=st.n+1
  ·subst hj1;refine .inr ⟨by omega,by show st.n+1<st.n+1+1;omega,fun y hy=>?_⟩
   have hy:Fup (Fup F st.n fun _=>False) (st.n+1) G (st.n+1) y:=hy;rw [zV] at hy;exact hy
  ·have hj1':¬j=Nat.succ st.n:=hj1;rw [if_neg hj1'] at hj;by_cases hj2:j=st.n
   ·subst hj2;refine .inr ⟨zNm _,by show st.n<st.n+1+1;omega,fun y hy=>?_⟩
    have hy:Fup (Fup F st.n fun _=>False) (st.n+1) G st.n y:=hy;rw [zap (by omega),zV] at hy
    exact hy.elim
   ·rw [if_neg hj2] at hj;refine .inl ⟨hj,?_⟩;show Fup (Fup F st.n fun _=>False) (st.n+1) G j=F j;rw [zap hj1,zap hj2]
def zMW:AV→Bool
 | .lit _=>true
 | .emz=>true
 | .emp=>true
 | .sl _ _ n _ _=>Nat.beq n 0
 |_=>false
theorem zIa {d:Nat} {t:RT} {a:AV} {l:List t.ty} (h:zbO d st t a=some l) (hn:zMW a=true):l=[]:=by
 cases d with
 |zero=>cases h
 |succ d=>
  unfold zbO at h;split at h
  ·exact (zM8 h).symm
  ·exact (zM8 h).symm
  ·exact (zM8 h).symm
  ·cases hn
  ·cases hn
  ·rename_i b off len cap op;have h0:len=0:=zM9 hn;subst h0;split at h
   ·split at h
    ·rename_i l' hle hel;obtain rfl:=zM8 h;have:=(ztd hel).1;exact zNj.1 this
    ·cases h
   ·cases h
  ·cases h
def zol (sh:Bool) (i:TypeInfo) (rt:RT) (st:St) (is:List Nat) (ks:List Tk) (zs:List rt.ty) (m:Nat):Option (MP×AV×St):=match zcA (is++(zk ks++zh ks)),zeM (owK sh) rt zs (zaz st.h (is++(zk ks++zh ks))) st.n st.wr with
 |true,(v,st')=>match st.wr (Nat.succ st.n) with
  |true=>some (⟨m*i.bytes≤140737488355328,inferInstance⟩,v,st')
  |false=>none
 |false,_=>none
def zmb (P:Program) [Fast P] (sh:Bool) (ts:Array TypeId) (args:List AV) (st:St):Option (MP×AV×St):=match ts[0]?,ts[1]?,args with
 |some t,some t',[s,x]=>match zeo P t,zeo P t' with
  |some (.slice E),some (.slice _)=>match zd0 P E,zGA P 4 E with
   |some i,some rt=>match i.zero with
    |some z=>match Nat.beq z.cells.size i.size&&(Nat.beq i.size rt.size&&(zgz i.size&&(zgz i.bytes&&Nat.beq ts.size 2))),zbO 5 st rt s,zeN st sh rt s,zIM st sh rt x with
     |true,some xs,some is,some (ys,ks)=>match zMW s with
      |true=>zol sh i rt st is ks ys ys.length
      |false=>zol sh i rt st is ks (xs++ys) (xs.length+ys.length)
     |_,_,_,_=>none
    |none=>none
   |_,_=>none
  |_,_=>none
 |_,_,_=>none
theorem zn7 {sh:Bool} {t:RT} {S G:Nat→Prop} {lf:Leaf} {v:Value} {i j:Nat} {x:t.ty} (hj:(t.leaves x)[j]? =some lf) (h:LfO w S lf (zkM sh t j) G v):LfO w S lf (fun q=>(owK sh).f t ((i,j)::q)) G v:=by
 cases sh with
 |true=>exact h
 |false=>
 show LfO w S lf (fun q=>owT t ((i,j)::q)) G v;cases he:lf.elem with
 |none=>exact h.scal he
 |some t'=>
  have hel:t.elemAt j=some t':=by
   cases lf with
   |list u2 ll=>simp only [Leaf.elem,zNn] at he;subst he;exact zbo hj
   |_=>cases he
  have e:(fun q=>owT t ((i,j)::q))=zkM false t j:=by
   funext r
   simp only [owT,zkM,hel,Bool.false_or]
   all_goals (cases shT t j<;>rfl)
  rw [e];exact h
theorem zkj {t t' E E':TypeId} {ty:TypeId} {i:TypeInfo} {rt:RT} {z:Value} {A A2:Option Addr} {c c2':Nat} {xs ys:List rt.ty} {us:List Value} {ow:Path→Bool} {S R H G0:Nat→Prop} {Hc:Nat→Nat→Nat→Prop}
  (hu:zeo P t=some (.slice E)) (hu':zeo P t'=some (.slice E')) (hi:zd0 P E=some i) (hz:i.zero=some z) (c1:z.cells.size=i.size) (c2:i.size=rt.size) (c3:0<i.size) (c4:0<i.bytes) (hw0:ow []=true)
  (hpb:(xs.length+ys.length)*i.bytes≤140737488355328) (hbase:LfO w S (.list rt xs) ow G0 (.slice A xs.length c))
  (hSl:∀y,S y→y<w.heap.size) (hRl:∀y,R y→y<w.heap.size) (hHl:∀y,H y→y<w.heap.size) (hGl:∀y,G0 y→y<w.heap.size) (hGS:∀y,G0 y→¬S y) (hGR:∀y,G0 y→¬R y) (hGH:∀y,H y→¬G0 y)
  (u1:us.length=ys.length*rt.size) (u2:∀v∈us,v.oneCell'=true) (u3:0<ys.length→∃b o,A2=some ⟨b,o,none⟩∧∀j v,us[j]? =some v→w.cell? ⟨b,o+j,none⟩=some v)
  (hH1:∀i j y,Hc i j y→H y) (hH2:∀i j i' j' y,j<rt.size→j'<rt.size→Hc i j y→Hc i' j' y→i=i'∧j=j')
  (hH3:∀(i:Nat) x,ys[i]? =some x→∀(j:Nat) lf,(rt.leaves x)[j]? =some lf→∃v,us[i*rt.size+j]? =some v∧LfO w (fun y=>S y∨R y) lf (fun q=>ow ((xs.length+i,j)::q)) (Hc i j) v):
  ∃(w1:World) (A1:Option Addr) (c1:Nat) (G:Nat→Prop),(Builtin.append_ #[t,t'] ty #[.slice A xs.length c, .slice A2 ys.length c2']).run P w= .ok (.slice A1 (xs.length+ys.length) c1) w1∧Kp (fun b=>b<w.heap.size∧¬G0 b) w w1∧
   LfO w1 (fun y=>S y∨R y) (.list rt (xs++ys)) ow G (.slice A1 (xs.length+ys.length) c1)∧∀y,G y→y<w1.heap.size∧((G0 y∨H y)∨w.heap.size≤y):=by
 have hpos:0<rt.size:=by omega
 have hbrd:=hbase.rd;obtain ⟨A',c',e,hcl,hmx⟩:=hbrd.slice;simp only [Value.slice.injEq] at e;obtain ⟨rfl,_,rfl⟩:=e;obtain ⟨olds,o1,o2,o3,o4⟩:=hbrd.rows hpos;have hsrc:Src P i.size t' (.slice A2 ys.length c2') ys.length us w:=by
  rcases zNl ys.length with h0|h0
  ·rw [h0];have:us=[]:=zNj.1 (by rw [u1,h0,Nat.zero_mul])
   subst this;exact Src.ofEmp (zn hu') A2 c2' w
  ·obtain ⟨b,o,rfl,hc⟩:=u3 h0;exact Src.ofSlice w (zn hu') _ _ _ us (by rw [u1,c2]) (fun j v hj=>by rw [zaV];exact hc j v hj) u2
 have hlen63:xs.length+ys.length≤140737488355328:=zNf (Nat.le_mul_of_pos_right _ c4) hpb;have hmax:xs.length+ys.length≤maxLen:=by simp only [maxLen];omega
 have hS_off:∀y,(S y∨R y)→¬G0 y:=fun y h1 h2=>h1.elim (hGS y h2) (hGR y h2);have fin:∀{w1:World} {A1:Option Addr} {c1:Nat} {G:Nat→Prop},(Builtin.append_ #[t,t'] ty #[.slice A xs.length c, .slice A2 ys.length c2']).run P w= .ok (.slice A1 (xs.length+ys.length) c1) w1→Kp (fun b=>b<w.heap.size∧¬G0 b) w w1→
   LfO w1 (fun y=>S y∨R y) (.list rt (xs++ys)) ow G (.slice A1 (xs.length+ys.length) c1)→(∀y,G y→y<w1.heap.size∧((G0 y∨H y)∨w.heap.size≤y))→
   ∃(w1:World) (A1:Option Addr) (c1:Nat) (G:Nat→Prop),(Builtin.append_ #[t,t'] ty #[.slice A xs.length c, .slice A2 ys.length c2']).run P w= .ok (.slice A1 (xs.length+ys.length) c1) w1∧Kp (fun b=>b<w.heap.size∧¬G0 b) w w1∧
    LfO w1 (fun y=>S y∨R y) (.list rt (xs++ys)) ow G (.slice A1 (xs.length+ys.length) c1)∧∀y,G y→y<w1.heap.size∧((G0 y∨H y)∨w.heap.size≤y):=
  fun h1 h2 h3 h4=>⟨_,_,_,_,h1,h2,h3,h4⟩
 have u1':us.length=ys.length*i.size:=by rw [c2];exact u1
 have hHrows:∀{w1:World} {cs':Array Value},(∀y,H y→w1.heap[y]? =w.heap[y]?)→(∀y,(S y∨R y)→w1.heap[y]? =w.heap[y]?)→(∀(q:Nat) v,us[q]? =some v→cs'.getD (xs.length*rt.size+q) undef=v)→
   ∀(i:Nat) x,ys[i]? =some x→∀(j:Nat) lf,(rt.leaves x)[j]? =some lf→LfO w1 (fun y=>S y∨R y) lf (fun q=>ow ((xs.length+i,j)::q)) (fun y=>j<rt.size∧Hc i j y) (cs'.getD ((xs.length+i)*rt.size+j) undef):=by
  intro w1 cs' k1 k2 k3 i x hx j lf hj;have hj':=(zNa.1 hj).1;rw [RT.leaves_len] at hj';obtain ⟨v,hv,hlf⟩:=hH3 i x hx j lf hj;have e:(xs.length+i)*rt.size+j=xs.length*rt.size+(i*rt.size+j):=by rw [zNr];omega
  rw [e,k3 _ v hv];exact ((hlf.keep (fun y hy _=>k1 y (hH1 i j y hy)) (fun _ h=>h) (fun y hy _=>k2 y hy)).wide fun y hy=>⟨hj',hy⟩)
 rcases Nat.lt_or_ge c (xs.length+ys.length) with hgrow|hroom
 ·
  have hold:(Builtin.firstCells i.size xs.length (.slice A xs.length c)).run P w.drew= .ok olds.toArray w.drew:=by
   rcases zNl xs.length with h0|h0
   ·have:olds=[]:=zNj.1 (by rw [o1,h0,Nat.zero_mul])
    subst this;rw [h0];cases A with
    |none=>exact run_firstCells_none w.drew i.size 0 0 c
    |some ad=>exact run_firstCells_some w.drew i.size 0 ad 0 c [] (by simp) (fun j v hj=>by simp at hj)
   ·obtain ⟨b,o,rfl,hc⟩:=o3 h0;exact run_firstCells_some w.drew i.size _ _ _ c olds (by rw [o1,c2]) (fun j v hj=>by rw [zaV];simpa using hc j v hj)
  have hr:=run_append_grow_src (P:=P) w t t' ty E i z (zn hu) (zad hi) hz A xs.length c olds hold (.slice A2 ys.length c2') ys.length us hsrc hgrow (by omega) (growslice_fits hgrow hpb)
  have hge:=grownCap_ge w (xs.length+ys.length) c E;generalize hgc:grownCap w (xs.length+ys.length) c E=gc at hr hge;generalize hcs:(olds++us).toArray++Builtin.zeroCells z.cells (gc - (xs.length+ys.length))=cs' at hr;have hcsz:cs'.size=gc*rt.size:=by
   rw [←hcs,Array.size_append,List.size_toArray,zNo,zaB,o1,u1,c1,c2, ←zNr, ←zNr];congr 1;omega
  have hkp:Kp (fun b=>b<w.heap.size) w (w.drew.alloc (.cells cs' E)):=(Kp.drew _ w).trans (Kp.alloc w.drew _ fun b hb=>hb);have hnew:Blk (w.drew.alloc (.cells cs' E)) w.heap.size E cs':=Blk.new w.drew E cs';generalize hw1:w.drew.alloc (.cells cs' E)=w1 at hr hkp hnew;refine fin (G:=fun y=>(G0 y∨H y)∨y=w.heap.size) hr (hkp.mono fun b hb=>hb.1) ?_ fun y hy=>?_
  ·have hb1:=(hbase.keep (w':=w1) (fun y hy _=>hkp.block y (by first|exact hGl _ hy|exact hHl _ hy|exact hRl _ hy)) (fun y hy=> .inl hy) (fun y hy _=>hkp.block y (hSl y hy)):LfO w1 (fun y=>S y∨R y) _ _ _ _)
   refine hb1.cat (H:=H) (ys:=ys) hw0 hnew hcsz hge hmax (fun y hy=> .inl (.inl hy)) (fun y hy=> .inl (.inr hy)) (.inr rfl) (fun y hy e=>by have:=(by first|exact hGl _ hy|exact hHl _ hy|exact hRl _ hy);omega) (fun hy=>by have:=(by first|exact hGl _ hy|exact hHl _ hy|exact hRl _ hy);omega) hGH (fun b cs2 T hA hb2 i j hi hj=>?_)
    (fun i j y=>j<rt.size∧Hc i j y) (fun i j y hy=>hH1 i j y hy.2) (fun i j i' j' y hy hy'=>hH2 i j i' j' y hy.1 hy'.1 hy.2 hy'.2) (hHrows (fun y hy=>hkp.block y (by first|exact hGl _ hy|exact hHl _ hy|exact hRl _ hy)) (fun y hy=>hkp.block y ?_) (fun q v hq=>?_))
   ·subst hA;have hlt:i*rt.size+j<olds.length:=by
     rw [o1];have:(i+1)*rt.size≤xs.length*rt.size:=zNe _ hi;rw [Nat.succ_mul] at this;omega
    obtain ⟨b',o',e,hc⟩:=o3 (by omega)
    simp only [zNn,Addr.mk.injEq,and_true] at e;obtain ⟨rfl,rfl⟩:=e;have h1:=hc _ _ (zNg hlt);have hbl:w.heap[b]? =w1.heap[b]? :=by
     have hb3:b<w.heap.size:=by
      obtain ⟨_,_,e,_,h,_⟩:=hbrd.elem (zNg hi);simp only [zNn,Addr.mk.injEq,and_true] at e;obtain ⟨rfl,rfl⟩:=e;exact h
     exact (hkp.block b hb3).symm
    have h2:w.cell? ⟨b,0+(i*rt.size+j),none⟩=cs2[i*rt.size+j]? :=by rw [←zer hbl.symm _ rfl,hb2.cell,Nat.zero_add]
    rw [h2] at h1;rw [←hcs,Array.getD_eq_getD_getElem?,Array.getD_eq_getD_getElem?,h1,Array.getElem?_append_left (by simp;omega),List.getElem?_toArray,zNh hlt,zNg hlt]
   ·rcases hy with hy|hy
    ·exact hSl y hy
    ·exact (by first|exact hGl _ hy|exact hHl _ hy|exact hRl _ hy)
   ·have hlt:=(zNa.1 hq).1;rw [←hcs,Array.getD_eq_getD_getElem?,Array.getElem?_append_left (by simp [o1];omega),List.getElem?_toArray, ←o1,zNp (by omega),Nat.add_sub_cancel_left,hq]
    rfl
  ·rcases hy with hy|rfl
   ·refine ⟨?_, .inl hy⟩;rcases hy with hy|hy
    ·exact zNd (by first|exact hGl _ hy|exact hHl _ hy|exact hRl _ hy) hkp.size
    ·exact zNd (by first|exact hGl _ hy|exact hHl _ hy|exact hRl _ hy) hkp.size
   ·exact ⟨hnew.lt, .inr (zNm _)⟩
 ·
  rcases zNl ys.length with h0|h0
  ·
   have hys0:ys=[]:=zNj.1 h0;have hr:(Builtin.append_ #[t,t'] ty #[.slice A xs.length c, .slice A2 ys.length c2']).run P w= .ok (.slice A (xs.length+ys.length) c) w:=by
    rw [h0] at hsrc ⊢;exact zdJ (zn hu) (zad hi) hsrc A xs.length c hcl
   refine fin (G:=G0) hr (Kp.refl _ w) ?_ fun y hy=>⟨(by first|exact hGl _ hy|exact hHl _ hy|exact hRl _ hy), .inl (.inl hy)⟩
   rw [hys0,List.append_nil];exact hbase.more fun y hy=> .inl hy
  ·
   cases hbase with
   |shr _ _ _ _ _ h1=>rw [hw0] at h1;cases h1
   |nil=>
    have h1:0+ys.length≤0:=hroom;omega
   |list _ _ _ _ _ b T cs0 Gc g0 g1 g2 gb gk gs gG gd gr=>
    have hbase':LfO w S (.list rt xs) (ow) (G0) (.slice (some ⟨b,0,none⟩) xs.length c):= .list rt xs _ _ c b T cs0 Gc g0 g1 g2 gb gk gs gG gd gr;have hfit:xs.length*rt.size+us.length≤cs0.size:=by rw [gs,u1, ←zNr];exact zNe _ hroom
    have hst:=zcs P b (xs.length*rt.size) T us 0 cs0 w gk (by omega) u2
    simp only [Nat.add_zero] at hst;have hspl:cs0.toList.take (xs.length*rt.size)++us++cs0.toList.drop (xs.length*rt.size+us.length)=splice cs0.toList (xs.length*rt.size) us:=rfl;rw [hspl] at hst;have hkp:=Kp.setRow w b (splice cs0.toList (xs.length*rt.size) us).toArray;have hfit':xs.length*rt.size+us.length≤cs0.toList.length:=by simpa using hfit
    have hblk':Blk (w.setRow b (splice cs0.toList (xs.length*rt.size) us).toArray) b T (splice cs0.toList (xs.length*rt.size) us).toArray:=gk.setRow _ (by rw [List.size_toArray,zam hfit',Array.length_toList])
    generalize hw1:w.setRow b (splice cs0.toList (xs.length*rt.size) us).toArray=w1 at hst hkp hblk';have hr:=ze2 (ty:=ty) (zn hu) (zad hi) ⟨b,0,none⟩ xs.length c hsrc hroom (w':=w1) (by rw [zaV,Nat.zero_add,c2];exact hst)
    have hne:∀y,¬G0 y→y≠b:=fun y hy e=>hy (e▸gb);refine fin (G:=fun y=>G0 y∨H y) hr (hkp.mono fun y hy=>⟨hy.1,hne y hy.2⟩) ?_ fun y hy=>⟨?_, .inl hy⟩
    ·
     have elen:(xs++ys).length=xs.length+ys.length:=by simp
     rw [←elen];refine .list rt (xs++ys) _ _ c b T _ (fun i j y=>(i<xs.length∧Gc i j y)∨(xs.length≤i∧j<rt.size∧Hc (i - xs.length) j y)) g0 (by simpa using hroom) (by simpa using hmax) (.inl gb) hblk' (by rw [List.size_toArray,zam hfit',Array.length_toList];exact gs) (fun i j y hy=>?_) (fun i j i' j' y hy hy'=>?_) (fun i x hx j lf hj=>?_)
     ·rcases hy with ⟨_,hy⟩|⟨_,_,hy⟩
      ·exact ⟨.inl (gG i j y hy).1,(gG i j y hy).2⟩
      ·have h1:=hH1 _ _ y hy;exact ⟨.inr h1,hne y (hGH y h1)⟩
     ·rcases hy with ⟨_,hy⟩|⟨h1,h2,hy⟩
      ·rcases hy' with ⟨_,hy'⟩|⟨_,_,hy'⟩
       ·exact gd _ _ _ _ y hy hy'
       ·exact (hGH y (hH1 _ _ y hy') (gG _ _ y hy).1).elim
      ·rcases hy' with ⟨_,hy'⟩|⟨h3,h4,hy'⟩
       ·exact (hGH y (hH1 _ _ y hy) (gG _ _ y hy').1).elim
       ·have:=hH2 _ _ _ _ y h2 h4 hy hy';omega
     ·have hj':=(zNa.1 hj).1;rw [RT.leaves_len] at hj';by_cases hi:i<xs.length
      ·rw [zNh hi] at hx;have hlt:i*rt.size+j<xs.length*rt.size:=by
        have:(i+1)*rt.size≤xs.length*rt.size:=zNe _ hi;rw [Nat.succ_mul] at this;omega
       have e:(splice cs0.toList (xs.length*rt.size) us).toArray.getD (i*rt.size+j) undef=cs0.getD (i*rt.size+j) undef:=by
        rw [Array.getD_eq_getD_getElem?,Array.getD_eq_getD_getElem?,List.getElem?_toArray,zaO hfit' (.inl hlt),Array.getElem?_toList]
       rw [e];have h5:=gr i x hx j lf hj;exact (h5.keep (w':=w1) (fun y hy hl=>hkp.block y ⟨hl,(gG i j y hy).2⟩) (fun y hy=> .inl hy) (fun y hy hl=>hkp.block y ⟨hl,hne y (hS_off y (.inl hy))⟩)).wide fun y hy=> .inl ⟨hi,hy⟩
      ·rw [zNp (by omega)] at hx
       have h5:=hHrows (w1:=w1) (cs':=(splice cs0.toList (xs.length*rt.size) us).toArray) (fun y hy=>hkp.block y ⟨(by first|exact hGl _ hy|exact hHl _ hy|exact hRl _ hy),hne y (hGH y hy)⟩) (fun y hy=>hkp.block y ⟨by rcases hy with hy|hy;exact hSl y hy;exact (by first|exact hGl _ hy|exact hHl _ hy|exact hRl _ hy),hne y (hS_off y hy)⟩) (fun q v hq=>by
        rw [Array.getD_eq_getD_getElem?,List.getElem?_toArray,zcP hfit' (zNa.1 hq).1,hq];rfl) (i - xs.length) x hx j lf hj
       rw [show xs.length+(i - xs.length)=i by omega] at h5
       exact h5.wide fun y hy=> .inr ⟨by omega,hy.1,hy.2⟩
    ·rcases hy with hy|hy
     ·exact zNd (by first|exact hGl _ hy|exact hHl _ hy|exact hRl _ hy) hkp.size
     ·exact zNd (by first|exact hGl _ hy|exact hHl _ hy|exact hRl _ hy) hkp.size
theorem zrq {sh:Bool} {o:Oper} {args:Array Operand} {ts:Array TypeId} {v:AV} {p:MP} (ho:o.op= .call {callee:= .builtin .append,args:=args,argTypes:=ts}) (h:TR ρ nt tm a) (hs:Sim K w0 ρ st w) (hf:zmb P sh ts (args.toList.map (ev tm)) st=some (p,v,st')) (hp:p.p):
  ∃u w' ρ',(execOp a.eval o).run P w= .ok (.value u) w'∧Ext st.n st'.n ρ ρ'∧Sim K w0 ρ' st' w'∧den ρ' v u:=by
 have hd:=zbZ h args.toList;have hex:(execOp a.eval o).run P w=(builtin .append ts o.type (args.map fun| .const _=>true|_=>false) (args.map a.eval)).run P w:=by
  unfold execOp;simp only [ho,resolve,Sem.run_bind,Sem.run_pure,Result.andThen_ok,invoke];rfl
 rw [hex];have hargs:args.map a.eval=(args.toList.map a.eval).toArray:=by rw [←Array.toList_map]
 rw [hargs];generalize args.toList.map a.eval=vs at hd;generalize args.toList.map (ev tm)=l at hd hf;generalize (args.map fun| .const _=>true|_=>false)=cs
 unfold zmb at hf;split at hf
 case h_2=>cases hf
 rename_i t t' s x ht0 ht1;simp only [dens] at hd;obtain ⟨su,vs',rfl,hsu,xu,vs'',rfl,hxu,rfl⟩:=hd;split at hf
 case h_2=>cases hf
 rename_i E E' hu hu';split at hf
 case h_2=>cases hf
 rename_i i rt hi hrt;split at hf
 case h_2=>cases hf
 rename_i z hz;split at hf
 case h_2=>cases hf
 rename_i xs is ys ks hc hxs his hys;have hf:zol sh i rt st is ks (xs++ys) (xs.length+ys.length)=some (p,v,st'):=by
  split at hf
  ·rename_i hn;have:=zIa hxs hn;subst this;simpa using hf
  ·exact hf
 unfold zol at hf;simp only [Bool.and_eq_true] at hc;obtain ⟨c1,c2,c3,c4,c5⟩:=hc;have c1:=zM9 c1;have c2:=zM9 c2;have c3:0<i.size:=zNc c3;have c4:0<i.bytes:=zNc c4;have c5:=zM9 c5;split at hf
 case h_2=>cases hf
 rename_i v1 st1 hap hnt;split at hf
 case h_2=>cases hf
 rename_i hwr;simp only [zNn,Prod.mk.injEq] at hf;obtain ⟨rfl,rfl,rfl⟩:=hf;have hts:ts= #[t,t']:=by
  apply Array.ext
  ·simpa using c5
  ·intro k hk1 hk2;simp at hk2;rcases k with _|k
   ·have:=ht0;rw [zNi (by omega)] at this;simpa using this
   ·rcases k with _|k
    ·have:=ht1;rw [zNi (by omega)] at this;simpa using this
    ·omega
 obtain ⟨S,F,hs⟩:=hs;have hpos:0<rt.size:=by omega
 have hbase:=zd4 hs hxs his hsu;have hbrd:=zep hs _ hxs hsu;obtain ⟨A,c,rfl,hcl,hmx⟩:=hbrd.slice;obtain ⟨olds,o1,o2,o3,o4⟩:=hbrd.rows hpos;obtain ⟨A2,c2',us,rfl,u1,u2,u3,Hc,hH1,hH2,hH3⟩:=zsB hs hpos hys hxu;have hnd:=zbm hap;have hnd1:=zNq.1 hnd;have hnd2:=zNq.1 hnd1.2.1;have hpb:(xs.length+ys.length)*i.bytes≤140737488355328:=hp;have hlen63:xs.length+ys.length≤140737488355328:=zNf (Nat.le_mul_of_pos_right _ c4) hpb;have hmax:xs.length+ys.length≤maxLen:=by simp only [maxLen];omega
 have s1:=hs.give is [];have fin:∀{w1:World} {A1:Option Addr} {c1:Nat} {G:Nat→Prop},(Builtin.append_ #[t,t'] o.type #[.slice A xs.length c, .slice A2 ys.length c2']).run P w= .ok (.slice A1 (xs.length+ys.length) c1) w1→Kp (fun b=>b<w.heap.size∧¬Gn F st is b) w w1→
   LfO w1 (fun y=>S y∨Gn F st (zh ks) y) (.list rt (xs++ys)) ((owK sh).f rt) G (.slice A1 (xs.length+ys.length) c1)→(∀y,G y→y<w1.heap.size∧((Gn F st is y∨Gn F st (zk ks) y)∨w.heap.size≤y))→
   ∃u w' ρ',(builtin .append ts o.type cs [Value.slice A xs.length c,Value.slice A2 ys.length c2'].toArray).run P w= .ok (.value u) w'∧Ext st.n st1.n ρ ρ'∧Sim K w0 ρ' st1 w'∧den ρ' v1 u:=by
  intro w1 A1 c1 G hr hkp hlf hG;have g1:=hs.give (is++zk ks) (zh ks);rw [List.append_assoc] at g1;have g2:SimF K w0 ρ (fun y=>S y∨Gn F st (zh ks) y) F ⟨zaz st.h (is++(zk ks++zh ks)),st.n,st.wr⟩ w1:=by
   have hk2:∀y,y<w.heap.size→¬Gn F st is y→w1.heap[y]? =w.heap[y]? :=fun y h1 h2=>hkp.block y ⟨h1,h2⟩;have hSk:∀y,(S y∨Gn F st (zh ks) y)→y<w.heap.size∧¬Gn F st is y:=fun y hy=>by
    refine ⟨g1.sl y hy,fun h2=>?_⟩;rcases hy with hy|hy
    ·exact (h2.lt hs).2.2 hy
    ·exact Gn.apart hs (fun q h3 h4=>hnd1.2.2 q h3 q (by simp [h4]) rfl) h2 hy
   refine ⟨g1.kp.trans (hkp.mono fun b hb=>⟨g1.ltw b hb,fun h2=>(h2.lt hs).2.1 hb⟩),g1.lt,g1.ss,g1.sk,fun y hy=>zNd (g1.sl y hy) hkp.size,fun j bj hj=>?_,g1.sd,g1.sep,g1.dom,g1.pn⟩;obtain ⟨x,c,e,hb,hn⟩:=g1.blk j bj hj;obtain ⟨h3,h4⟩:=za2 hj;refine ⟨x,c,e,hb.mono (.refl ρ) (fun y hy=>hk2 y (hb.lt y hy) ?_) (fun _ h=>h) (fun y hy=>hk2 y (hSk y hy).1 (hSk y hy).2) (fun y hy=>hk2 y (hs.ltw y (hs.mk_ hy)) fun h2=>(h2.lt hs).2.1 (hs.mk_ hy)),hn⟩
   rintro ⟨q,q1,q2,⟨bq,q3⟩,q4⟩
   exact hs.sep q j bq bj y q3 h3 (fun e=>h4 (by rw [←e];simp [q1])) (.inl q2) q4 hy
  have hlen:xs.length+ys.length=(xs++ys).length:=by simp
  have hlf':=hlf;rw [hlen] at hlf';have hGG:∀y,G y→(st.wr (Nat.succ st.n)=true→¬K.k y∧¬(S y∨Gn F st (zh ks) y))∧∀j bj,(zaz st.h (is++(zk ks++zh ks))).get j=some bj→(st.wr (Nat.succ st.n)=true∨st.wr j=true)→¬F j y:=fun y hy=>by
   refine ⟨fun _=>?_,fun j bj hj hw hyj=>?_⟩
   ·rcases (hG y hy).2 with (h3|h3)|h3
    ·refine ⟨(h3.lt hs).2.1,fun hS=>?_⟩;rcases hS with hS|hS
     ·exact (h3.lt hs).2.2 hS
     ·exact Gn.apart hs (fun q h4 h5=>hnd1.2.2 q h4 q (by simp [h5]) rfl) h3 hS
    ·refine ⟨(h3.lt hs).2.1,fun hS=>?_⟩;rcases hS with hS|hS
     ·exact (h3.lt hs).2.2 hS
     ·exact Gn.apart hs (fun q h4 h5=>hnd2.2.2 q h4 q h5 rfl) h3 hS
    ·refine ⟨fun hK=>by have:=hs.ltw y hK;omega,fun hS=>?_⟩
     have:=g1.sl y hS;omega
   ·obtain ⟨h5,h6⟩:=za2 hj;have off:∀{l:List Nat},(∀q,q∈l→q∈is++(zk ks++zh ks))→Gn F st l y→False:=fun {l} hl ⟨q,q1,q2,⟨bq,q3⟩,q4⟩=>hs.sep q j bq bj y q3 h5 (fun e=>h6 (by rw [←e];exact hl q q1)) (.inl q2) q4 hyj
    rcases (hG y hy).2 with (h3|h3)|h3
    ·exact off (fun q hq=>by simp [hq]) h3
    ·exact off (fun q hq=>by simp [hq]) h3
    ·obtain ⟨_,_,_,hb,_⟩:=hs.blk j bj h5;have:=hb.lt y hyj;omega
  obtain ⟨ρ',F',t1,t2,t3,_,_⟩:=g2.tree (ow:=owK sh) (G:=G) (zyb hlf') (fun y hy=>(hG y hy).1) hGG hnt;refine ⟨_,w1,ρ',?_,t1,⟨_,_,t2⟩,t3⟩;subst hts;simp only [builtin,Sem.run_bind];rw [←hlen];have e:[Value.slice A xs.length c,Value.slice A2 ys.length c2'].toArray= #[.slice A xs.length c, .slice A2 ys.length c2']:=rfl;rw [e,hr];rfl
 have core:=zkj (ty:=o.type) hu hu' hi hz c1 c2 c3 c4 (zmr sh rt) hpb hbase (c2':=c2') (R:=Gn F st (zh ks)) (H:=Gn F st (zk ks)) (Hc:=Hc) (fun y hy=>hs.sl y hy) (fun y hy=>(hy.lt hs).1) (fun y hy=>(hy.lt hs).1) (fun y hy=>(hy.lt hs).1) (fun y hy=>(hy.lt hs).2.2)
  (fun y h1 h2=>Gn.apart hs (fun q h3 h4=>hnd1.2.2 q h4 q (by simp [h3]) rfl) h2 h1) (fun y h1 h2=>Gn.apart hs (fun q h3 h4=>hnd1.2.2 q h4 q (by simp [h3]) rfl) h1 h2) u1 u2 u3 hH1 (hH2 hnd2.1) (fun i x hx j lf hj=>by
   obtain ⟨v,hv,hlf⟩:=hH3 i x hx j lf hj;exact ⟨v,hv,zn7 hj hlf⟩)
 obtain ⟨w1,A1,c1',G,r1,r2,r3,r4⟩:=core;exact fin r1 r2 r3 r4
def zl7:List Value→List Leaf→Bool
 |[],[]=>true
 | .int k n::vs, .int j m::ls=>decide (k=j)&&(decide (n=m)&&zl7 vs ls)
 | .bool b::vs, .bool c::ls=>decide (b=c)&&zl7 vs ls
 |_,_=>false
theorem zqK {w:World} {S F:Nat→Prop} {ow:Path→Bool}:∀{vs:List Value} {ls:List Leaf},zl7 vs ls=true→vs.length=ls.length∧∀(j:Nat) lf,ls[j]? =some lf→LfO w S lf ow F (vs.getD j undef)
 |[],[],_=>⟨rfl,fun j lf h=>by simp at h⟩
 |v::vs,[],h=>by cases v<;>simp [zl7] at h
 |[],_::_,h=>by simp [zl7] at h
 |v::vs,l::ls,h=>by
  have key:LfO w S l ow F v∧zl7 vs ls=true:=by
   unfold zl7 at h;split at h
   ·rename_i e _;cases e
   ·rename_i e1 e2;obtain ⟨rfl,rfl⟩:=List.cons.inj e1;obtain ⟨rfl,rfl⟩:=List.cons.inj e2;simp only [Bool.and_eq_true] at h;have h1:=of_decide_eq_true h.1;have h2:=of_decide_eq_true h.2.1;subst h1;subst h2;exact ⟨.int _ _ _ _,h.2.2⟩
   ·rename_i e1 e2;obtain ⟨rfl,rfl⟩:=List.cons.inj e1;obtain ⟨rfl,rfl⟩:=List.cons.inj e2;simp only [Bool.and_eq_true] at h;have h1:=of_decide_eq_true h.1;subst h1;exact ⟨.bool _ _ _,h.2⟩
   ·cases h
  obtain ⟨h1,h2⟩:=zqK (w:=w) (S:=S) (F:=F) (ow:=ow) key.2;refine ⟨by simp [h1],fun j lf hj=>?_⟩
  cases j with
  |zero=>simp at hj;subst hj;exact key.1
  |succ j=>exact h2 j lf (by simpa using hj)
def zM3:RT→Bool
 | .st _=>true
 |_=>false
def zGa (P:Program) [Fast P] (t:TypeId) (l c:AV) (st:St):Option (MP×AV×St):=match zeo P t,l,c with
 |some (.slice E), .lit (.int _ zl), .lit (.int _ zc)=>match zd0 P E,zGA P 4 E with
  |some i,some rt=>match i.zero with
   |some z=>match zM3 rt&&(Nat.beq z.cells.size i.size&&(Nat.beq i.size rt.size&&(zgz i.size&&(zgz i.bytes&&(zl7 z.cells.toList (rt.leaves rt.dflt)&&st.wr (Nat.succ st.n)))))),zeM .all rt (List.replicate zl.toNat rt.dflt) st.h st.n st.wr with
    |true,(v,st')=>some (⟨zl=zc∧0≤zl∧(i.bytes:Int)*zl≤281474976710656,inferInstance⟩,v,st')
    |_,_=>none
   |none=>none
  |_,_=>none
 |_,_,_=>none
theorem zzs {α:Type} {l:List α} {d:α} {n i j:Nat} (hi:i<n) (hj:j<l.length):((List.replicate n l).flatten).getD (i*l.length+j) d=l.getD j d:=by
 induction n generalizing i with
 |zero=>omega
 |succ n ih=>
  rw [List.replicate_succ,List.flatten_cons];cases i with
  |zero=>rw [Nat.zero_mul,Nat.zero_add,List.getD_eq_getElem?_getD,List.getD_eq_getElem?_getD,zNh hj]
  |succ i=>
   have e:(i+1)*l.length+j=l.length+(i*l.length+j):=by rw [Nat.succ_mul];omega
   have h2:=ih (i:=i) (by omega)
   rw [List.getD_eq_getElem?_getD] at h2 ⊢;rw [e,zNp (by omega),Nat.add_sub_cancel_left,h2]
theorem zGb {o:Oper} {t:TypeId} {x y:Operand} {v:AV} {p:MP} (ho:o.op= .makeSlice t x y) (h:TR ρ nt tm a) (hs:Sim K w0 ρ st w) (hf:zGa P t (ev tm x) (ev tm y) st=some (p,v,st')) (hp:p.p):
  ∃u w' ρ',(execOp a.eval o).run P w= .ok (.value u) w'∧Ext st.n st'.n ρ ρ'∧Sim K w0 ρ' st' w'∧den ρ' v u:=by
 have hdx:=h.ev x;have hdy:=h.ev y;unfold zGa at hf;split at hf
 case h_2=>cases hf
 rename_i E kl zl kc zc hu ex ey;rw [ex] at hdx;rw [ey] at hdy;simp only [den] at hdx hdy;split at hf
 case h_2=>cases hf
 rename_i i rt hi hrt;split at hf
 case h_2=>cases hf
 rename_i z hz;split at hf
 case h_2=>cases hf
 rename_i v1 st1 hc hnt;simp only [Bool.and_eq_true] at hc;obtain ⟨c0,c1,c2,c3,c4,c5,c6⟩:=hc;have c1:=zM9 c1;have c2:=zM9 c2;have c3:0<i.size:=zNc c3;have c4:0<i.bytes:=zNc c4;simp only [zNn,Prod.mk.injEq] at hf;obtain ⟨rfl,rfl,rfl⟩:=hf;obtain ⟨p1,p2,p3⟩:=hp;subst p1;have hn:zl=(zl.toNat:Int):=by omega
 generalize zl.toNat=n at*;subst hn;have hb:n≤281474976710656:=by
  have h1:((i.bytes*n:Nat):Int)≤281474976710656:=by rw [Int.natCast_mul];exact p3
  have h2:n≤i.bytes*n:=Nat.le_mul_of_pos_left _ c4;omega
 obtain ⟨S,F,hs⟩:=hs;have hr:=run_make (P:=P) w t E i z (zn hu) (zad hi) hz kl kc n n (by omega) (by omega) p3 (by omega)
 have hm:=zkq z.cells.toList n;have e3:madeCells z.cells (n*i.size)=(List.replicate n z.cells.toList).flatten.toArray:=by
  apply Array.ext';rw [List.toList_toArray, ←hm];simp [c1]
 have hzl:z.cells.toList.length=rt.size:=by simp [c1,c2]
 have hkp:Kp (fun b=>b<w.heap.size) w (w.alloc (.cells (List.replicate n z.cells.toList).flatten.toArray E)):=Kp.alloc w _ fun _ h=>h;have hnew:=Blk.new w E (List.replicate n z.cells.toList).flatten.toArray;have hex:(execOp a.eval o).run P w= .ok (.value (.slice (some ⟨w.heap.size,0,none⟩) n n)) (w.alloc (.cells (List.replicate n z.cells.toList).flatten.toArray E)):=by
  unfold execOp;simp only [ho,hdx,hdy,Sem.run_bind,hr,Result.andThen_ok,Int.toNat_natCast,e3];simp
 generalize hw1:w.alloc (.cells (List.replicate n z.cells.toList).flatten.toArray E)=w1 at hkp hnew hex;have hs1:=hs.to hkp;have hl:LfO w1 S (.list rt (List.replicate n rt.dflt)) (owT rt) (fun y=>y=w.heap.size) (.slice (some ⟨w.heap.size,0,none⟩) (List.replicate n rt.dflt).length n):=by
  refine .list rt _ _ _ n w.heap.size E _ (fun _ _ _=>False) (zb3 rt) (by simp) (by simp only [List.length_replicate,maxLen];omega) rfl hnew (by simp [hzl]) (fun _ _ _ h=>h.elim) (fun _ _ _ _ _ h=>h.elim) fun i2 x2 hx2 j lf hj=>?_
  have hi2:=(zNa.1 hx2).1;simp only [List.length_replicate] at hi2;have hx3:x2=rt.dflt:=by
   rw [List.getElem?_replicate,if_pos hi2] at hx2;exact (zM8 hx2).symm
  subst hx3;have hj':=(zNa.1 hj).1;rw [RT.leaves_len] at hj';have e5:(List.replicate n z.cells.toList).flatten.toArray.getD (i2*rt.size+j) undef=z.cells.toList.getD j undef:=by
   rw [←hzl,Array.getD_eq_getD_getElem?,List.getElem?_toArray, ←List.getD_eq_getElem?_getD];exact zzs hi2 (by rw [hzl];exact hj')
  rw [e5];exact (zqK c5).2 j lf hj
 obtain ⟨ρ',F',t1,t2,t3,_,_⟩:=hs1.tree (ow:= .all) hl (fun y hy=>by rw [hy];exact hnew.lt) (fun y hy=>⟨fun _=>⟨fun hK=>by have:=hs.ltw y hK;omega,fun hS=>by have:=hs.sl y hS;omega⟩,fun j bj hj _ hyj=>by
  obtain ⟨_,_,_,hb,_⟩:=hs.blk j bj hj;have:=hb.lt y hyj;omega⟩) hnt
 refine ⟨_,w1,ρ',hex,t1,⟨_,_,t2⟩,?_⟩;rw [List.length_replicate] at t3;exact t3
theorem ze7 {ow:Ow} {t:RT} {l:List t.ty} {h:T Bk} {n:Nat} {wr:Nat→Bool} {a:AV} {st':St} (hn:zeM ow t l h n wr=(a,st')):st'.wr=wr:=by
 obtain ⟨_,rfl⟩:=zNb hn;rfl
def zsG (P:Program) [Fast P] (ts:Array TypeId) (args:List AV) (st:St):Option (MP×AV×St):=match ts[0]?,ts[1]?,args with
 |some t,some t',[.lit (.slice none 0 0), .lit (.int kq zl)]=>match zeo P t,zeo P t' with
  |some (.slice E),some (.int _)=>match zd0 P E,zGA P 4 E with
   |some i,some rt=>match i.zero with
    |some z=>match Nat.beq ts.size 2&&(Nat.beq z.cells.size i.size&&(Nat.beq i.size rt.size&&(zgz i.size&&(zgz i.bytes&&(zl7 z.cells.toList (rt.leaves rt.dflt)&&st.wr (Nat.succ st.n)))))),zeM .all rt (List.replicate zl.toNat rt.dflt) st.h st.n st.wr with
     |true,(v,st')=>some (⟨0≤zl∧(i.bytes:Int)*zl≤140737488355328,inferInstance⟩,v,st')
     |_,_=>none
    |none=>none
   |_,_=>none
  |_,_=>none
 |_,_,_=>none
theorem zAo {o:Oper} {args:Array Operand} {ts:Array TypeId} {v:AV} {p:MP} (ho:o.op= .call {callee:= .builtin .append,args:=args,argTypes:=ts}) (h:TR ρ nt tm a) (hs:Sim K w0 ρ st w) (hf:zsG P ts (args.toList.map (ev tm)) st=some (p,v,st')) (hp:p.p):
  ∃u w' ρ',(execOp a.eval o).run P w= .ok (.value u) w'∧Ext st.n st'.n ρ ρ'∧Sim K w0 ρ' st' w'∧den ρ' v u:=by
 have hd:=zbZ h args.toList;have hex:(execOp a.eval o).run P w=(builtin .append ts o.type (args.map fun| .const _=>true|_=>false) (args.map a.eval)).run P w:=by
  unfold execOp;simp only [ho,resolve,Sem.run_bind,Sem.run_pure,Result.andThen_ok,invoke];rfl
 rw [hex];have hargs:args.map a.eval=(args.toList.map a.eval).toArray:=by rw [←Array.toList_map]
 rw [hargs];generalize args.toList.map a.eval=vs at hd;generalize args.toList.map (ev tm)=l at hd hf;generalize (args.map fun| .const _=>true|_=>false)=cs
 unfold zsG at hf;split at hf
 case h_2=>cases hf
 rename_i t t' kq zl ht0 ht1;simp only [dens,den] at hd;obtain ⟨su,vs',rfl,rfl,xu,vs'',rfl,rfl,rfl⟩:=hd;split at hf
 case h_2=>cases hf
 rename_i E kn hu hu';split at hf
 case h_2=>cases hf
 rename_i i rt hi hrt;split at hf
 case h_2=>cases hf
 rename_i z hz;split at hf
 case h_2=>cases hf
 rename_i v1 st1 hc hnt;simp only [Bool.and_eq_true] at hc;obtain ⟨c0,c1,c2,c3,c4,c5,c6⟩:=hc;have c0:=zM9 c0;have c1:=zM9 c1;have c2:=zM9 c2;have c3:0<i.size:=zNc c3;have c4:0<i.bytes:=zNc c4;simp only [zNn,Prod.mk.injEq] at hf;obtain ⟨rfl,rfl,rfl⟩:=hf;obtain ⟨p2,p3⟩:=hp;have hn:zl=(zl.toNat:Int):=by omega
 generalize zl.toNat=n at*;subst hn;have hts:ts= #[t,t']:=by
  apply Array.ext
  ·simpa using c0
  ·intro k hk1 hk2;simp at hk2;rcases k with _|k
   ·have:=ht0;rw [zNi (by omega)] at this;simpa using this
   ·rcases k with _|k
    ·have:=ht1;rw [zNi (by omega)] at this;simpa using this
    ·omega
 have hb1:n*i.bytes≤140737488355328:=by
  have h1:((i.bytes*n:Nat):Int)≤140737488355328:=by rw [Int.natCast_mul];exact p3
  rw [Nat.mul_comm];omega
 have hb:n≤140737488355328:=zNf (Nat.le_mul_of_pos_right _ c4) hb1;obtain ⟨S,F,hs⟩:=hs;have hzl:z.cells.toList.length=rt.size:=by simp [c1,c2]
 rcases zNl n with h0|h0
 ·subst h0;have hr:(Builtin.append_ #[t,t'] o.type #[.slice none 0 0, .int kq ((0:Nat):Int)]).run P w= .ok (.slice none 0 0) w:=by
   simp [Builtin.append_,run_underlying (zn hu),run_underlying (zn hu'),sizeOf,typeInfo,zad hi,asInt,asIntOf,IntKind.wrap_i64]
  obtain ⟨ρ',F',t1,t2,t3,_,_⟩:=hs.tree (ow:= .all) (t:=rt) (l:=List.replicate 0 rt.dflt) (A:=none) (c:=0) (G:=fun _=>False) (LfO.nil rt _ _ none (zb3 rt)) (fun _ hy=>hy.elim) (fun _ hy=>hy.elim) hnt;refine ⟨_,w,ρ',?_,t1,⟨_,_,t2⟩,t3⟩;subst hts;simp only [builtin,Sem.run_bind];have e:[Value.slice none 0 0,Value.int kq ((0:Nat):Int)].toArray= #[.slice none 0 0, .int kq ((0:Nat):Int)]:=rfl;rw [e,hr];rfl
 have hr:=Lib.run_append_grow_zeros (P:=P) w t t' o.type E i z kq kn (zn hu) (zn hu') (zad hi) hz none 0 0 [] (run_firstCells_none w.drew i.size 0 0 0) n h0 c3 (by omega) (by omega) (by omega) (growslice_fits (by omega) (by rw [Nat.zero_add];exact hb1))
 rw [Nat.zero_add] at hr;have hge:=grownCap_ge w n 0 E;generalize hgc:grownCap w n 0 E=gc at hr hge;have ze:∀m,(Builtin.zeroCells z.cells m).toList=(List.replicate m z.cells.toList).flatten:=fun m=>by
  have:=zkq z.cells.toList m;rw [←this];simp [Builtin.zeroCells,madeCells]
 generalize hcs:([]:List Value).toArray++Builtin.zeroCells z.cells n++Builtin.zeroCells z.cells (gc - n)=cs' at hr;have hcl:cs'.toList=(List.replicate n z.cells.toList).flatten++(Builtin.zeroCells z.cells (gc - n)).toList:=by
  rw [←hcs];simp [ze]
 have hcsz:cs'.size=gc*rt.size:=by
  rw [←hcs,Array.size_append,Array.size_append,zaB,zaB,c1,c2];simp only [List.size_toArray,List.length_nil,Nat.zero_add];rw [←zNr];congr 1;omega
 have hkp:Kp (fun b=>b<w.heap.size) w (w.drew.alloc (.cells cs' E)):=(Kp.drew _ w).trans (Kp.alloc w.drew _ fun b hb=>hb);have hnew:Blk (w.drew.alloc (.cells cs' E)) w.heap.size E cs':=Blk.new w.drew E cs';generalize hw1:w.drew.alloc (.cells cs' E)=w1 at hr hkp hnew;have hs1:=hs.to hkp;have hl:LfO w1 S (.list rt (List.replicate n rt.dflt)) (owT rt) (fun y=>y=w.heap.size) (.slice (some ⟨w.heap.size,0,none⟩) (List.replicate n rt.dflt).length gc):=by
  refine .list rt _ _ _ gc w.heap.size E _ (fun _ _ _=>False) (zb3 rt) (by simp;omega) (by simp only [List.length_replicate,maxLen];omega) rfl hnew hcsz (fun _ _ _ h=>h.elim) (fun _ _ _ _ _ h=>h.elim) fun i2 x2 hx2 j lf hj=>?_
  have hi2:=(zNa.1 hx2).1;simp only [List.length_replicate] at hi2;have hx3:x2=rt.dflt:=by
   rw [List.getElem?_replicate,if_pos hi2] at hx2;exact (zM8 hx2).symm
  subst hx3;have hj':=(zNa.1 hj).1;rw [RT.leaves_len] at hj';have e5:cs'.getD (i2*rt.size+j) undef=z.cells.toList.getD j undef:=by
   rw [←zzs hi2 (by rw [hzl];exact hj'),Array.getD_eq_getD_getElem?, ←Array.getElem?_toList,hcl,List.getD_eq_getElem?_getD,hzl,zNh]
   have e6:(List.replicate n z.cells.toList).flatten.length=n*rt.size:=by simp [hzl]
   rw [e6];have:(i2+1)*rt.size≤n*rt.size:=zNe _ hi2;rw [Nat.succ_mul] at this;omega
  rw [e5];exact (zqK c5).2 j lf hj
 obtain ⟨ρ',F',t1,t2,t3,_,_⟩:=hs1.tree (ow:= .all) hl (fun y hy=>by rw [hy];exact hnew.lt) (fun y hy=>⟨fun _=>⟨fun hK=>by have:=hs.ltw y hK;omega,fun hS=>by have:=hs.sl y hS;omega⟩,fun j bj hj _ hyj=>by
  obtain ⟨_,_,_,hb,_⟩:=hs.blk j bj hj;have:=hb.lt y hyj;omega⟩) hnt
 rw [List.length_replicate] at t3;refine ⟨_,w1,ρ',?_,t1,⟨_,_,t2⟩,t3⟩;subst hts;simp only [builtin,Sem.run_bind];have e:[Value.slice none 0 0,Value.int kq (n:Int)].toArray= #[.slice none 0 0, .int kq (n:Int)]:=rfl;rw [e,hr];rfl
def zom (P:Program) [Fast P] (ts:Array TypeId) (args:List AV) (st:St):Option (MP×AV×St):=match zsG P ts args st with
 |some r=>some r
 |none=>match zmb P false ts args st with
  |some r=>some r
  |none=>zmb P true ts args st
theorem zAk {o:Oper} {args:Array Operand} {ts:Array TypeId} {v:AV} {p:MP} (ho:o.op= .call {callee:= .builtin .append,args:=args,argTypes:=ts}) (h:TR ρ nt tm a) (hs:Sim K w0 ρ st w) (hf:zom P ts (args.toList.map (ev tm)) st=some (p,v,st')) (hp:p.p):
  ∃u w' ρ',(execOp a.eval o).run P w= .ok (.value u) w'∧Ext st.n st'.n ρ ρ'∧Sim K w0 ρ' st' w'∧den ρ' v u:=by
 unfold zom at hf;split at hf
 ·rename_i hz;obtain rfl:=zM8 hf;exact zAo ho h hs hz hp
 ·split at hf
  ·rename_i hz;obtain rfl:=zM8 hf;exact zrq ho h hs hz hp
  ·exact zrq ho h hs hf hp
theorem zrr {sh:Bool} {ts:Array TypeId} {l:List AV} {v:AV} {p:MP} (hx:zmb P sh ts l st=some (p,v,st')):st'.wr=st.wr:=by
 unfold zmb at hx
 repeat' split at hx
 all_goals try unfold zol at hx
 all_goals try split at hx
 all_goals try split at hx
 all_goals first
  |(cases hx;done)
  |(rename_i hn _ _;simp only [zNn,Prod.mk.injEq] at hx;obtain ⟨_,_,rfl⟩:=hx;exact ze7 hn)
theorem zAl {ts:Array TypeId} {l:List AV} {v:AV} {p:MP} (hx:zom P ts l st=some (p,v,st')):st'.wr=st.wr:=by
 unfold zom at hx;split at hx
 ·rename_i hz;obtain rfl:=zM8 hx;unfold zsG at hz
  repeat' split at hz
  all_goals first
   |(cases hz;done)
   |(rename_i hn;simp only [zNn,Prod.mk.injEq] at hz;obtain ⟨_,_,rfl⟩:=hz;exact ze7 hn)
 ·split at hx
  ·rename_i hz;obtain rfl:=zM8 hx;exact zrr hz
  ·exact zrr hx
variable {P:Program} [Fast P] {ρ ρ':Rho} {nt:Nat} {tm:T AV} {a:Act} {w w0 w':World} {K:KS} {st st':St}
def zsE (P:Program) [Fast P] (ts:Array TypeId) (args:List AV) (st:St):Option (AV×St):=match ts[0]?,ts[1]?,args with
 |some t,some t',[.lit (.slice none 0 0), .lit (.int kq (Int.ofNat (n+1)))]=>match zeo P t,zeo P t' with
  |some (.slice E),some (.int _)=>match zd0 P E,znf P E with
   |some i,some z=>match Nat.beq ts.size 2&&(Nat.beq z.length i.size&&(z.all AV.one&&(zgz i.size&&(zgz i.bytes&&Nat.ble (Nat.mul (Nat.succ n) i.bytes) 140737488355328)))) with
    |true=>some (.sl st.n 0 (Nat.succ n) 0 true,zB8 E (zCa z (Nat.succ n)) (some i.size) st)
    |false=>none
   |_,_=>none
  |_,_=>none
 |_,_,_=>none
theorem zAi {o:Oper} {args:Array Operand} {ts:Array TypeId} {v:AV} (ho:o.op= .call {callee:= .builtin .append,args:=args,argTypes:=ts}) (h:TR ρ nt tm a) (hs:Sim K w0 ρ st w) (hf:zsE P ts (args.toList.map (ev tm)) st=some (v,st')):
  ∃u w' ρ',(execOp a.eval o).run P w= .ok (.value u) w'∧Ext st.n st'.n ρ ρ'∧Sim K w0 ρ' st' w'∧den ρ' v u:=by
 have hd:=zbZ h args.toList;have hex:(execOp a.eval o).run P w=(builtin .append ts o.type (args.map fun| .const _=>true|_=>false) (args.map a.eval)).run P w:=by
  unfold execOp;simp only [ho,resolve,Sem.run_bind,Sem.run_pure,Result.andThen_ok,invoke];rfl
 rw [hex];have hargs:args.map a.eval=(args.toList.map a.eval).toArray:=by rw [←Array.toList_map]
 rw [hargs];generalize args.toList.map a.eval=vs at hd;generalize args.toList.map (ev tm)=l at hd hf;generalize (args.map fun| .const _=>true|_=>false)=cs
 unfold zsE at hf;split at hf
 case h_2=>cases hf
 rename_i t t' kq n ht0 ht1;simp only [dens,den] at hd;obtain ⟨su,vs',rfl,rfl,xu,vs'',rfl,rfl,rfl⟩:=hd;split at hf
 case h_2=>cases hf
 rename_i E kn hu hu';split at hf
 case h_2=>cases hf
 rename_i i z hi hz;split at hf
 case h_2=>cases hf
 rename_i hc;simp only [Bool.and_eq_true] at hc;obtain ⟨c0,c1,c2,c3,c4,c5⟩:=hc;have c0:=zM9 c0;have c1:=zM9 c1;have c3:0<i.size:=zNc c3;have c4:0<i.bytes:=zNc c4;have hb1:(n+1)*i.bytes≤140737488355328:=zNc c5;have hb:n+1≤140737488355328:=zNf (Nat.le_mul_of_pos_right _ c4) hb1;obtain ⟨rfl,rfl⟩:=zNb (zM8 hf);have hts:ts= #[t,t']:=by
  apply Array.ext
  ·simpa using c0
  ·intro k hk1 hk2;simp at hk2;rcases k with _|k
   ·have:=ht0;rw [zNi (by omega)] at this;simpa using this
   ·rcases k with _|k
    ·have:=ht1;rw [zNi (by omega)] at this;simpa using this
    ·omega
 unfold znf at hz;rw [hi] at hz;simp only at hz;cases hzz:i.zero with
 |none=>rw [hzz] at hz;cases hz
 |some zz=>
  rw [hzz] at hz;simp only at hz;obtain rfl:=zM8 hz;simp only [List.length_map,Array.length_toList] at c1;have hr:=Lib.run_append_grow_zeros (P:=P) w t t' o.type E i zz kq kn (zn hu) (zn hu') (zad hi) hzz none 0 0 [] (run_firstCells_none w.drew i.size 0 0 0) (n+1) (by omega) c3 (by omega) (by omega) (by omega) (growslice_fits (by omega) (by rw [Nat.zero_add];exact hb1))
  rw [Nat.zero_add] at hr;have ze:∀m,(Builtin.zeroCells zz.cells m).toList=(List.replicate m zz.cells.toList).flatten:=fun m=>by
   have:=zkq zz.cells.toList m;rw [←this];simp [Builtin.zeroCells,madeCells]
  have hdz:=zlK (ρ:=ρ) (zaE zz.cells.toList) (n+1);have hop0:(some i.size:Option Nat)≠some 0:=by simp;omega
  obtain ⟨h2,hle⟩:=hs.drew.alloc E _ (some i.size) hop0 (grownCap w (n+1) 0 E) _ (Builtin.zeroCells zz.cells (grownCap w (n+1) 0 E - (n+1))).toList hdz (zhH hdz (zoc c2 (n+1))) (fun e=>nomatch e) (fun s hs'=>by
   obtain rfl:=zM8 hs';have:=grownCap_ge w (n+1) 0 E;rw [zNo, ←ze,Array.length_toList,Array.length_toList,zaB,zaB,c1, ←zNr];congr 1;omega)
  refine ⟨.slice (some ⟨w.heap.size,0,none⟩) (n+1) (grownCap w (n+1) 0 E),_,_,?_,hle,h2,?_⟩
  ·subst hts;simp only [builtin,Sem.run_bind];have e:[Value.slice none 0 0,Value.int kq (Int.ofNat (n+1))].toArray= #[.slice none 0 0, .int kq ((n+1:Nat):Int)]:=rfl;rw [e,hr];have e2:([]:List Value).toArray++Builtin.zeroCells zz.cells (n+1)++Builtin.zeroCells zz.cells (grownCap w (n+1) 0 E - (n+1))=((List.replicate (n+1) zz.cells.toList).flatten++(Builtin.zeroCells zz.cells (grownCap w (n+1) 0 E - (n+1))).toList).toArray:=by
    apply Array.ext';simp [ze]
   rw [e2];rfl
  ·simp only [den,if_true,Nat.sub_zero];exact ⟨_,_,zuq,rfl,fun _=>zNk _,grownCap_ge w (n+1) 0 E⟩
variable {P:Program} [Fast P] {ρ ρ':Rho} {nt:Nat} {tm:T AV} {a:Act} {w w0 w':World} {K:KS} {st st':St} {S:Nat→Prop} {F:Nat→Nat→Prop}
def unsnoc:Path→Option (Path×(Nat×Nat))
 |[]=>none
 |x::p=>match unsnoc p with
  |some (q,z)=>some (x::q,z)
  |none=>some ([],x)
theorem zyU:∀{p:Path},unsnoc p=none→p=[]
 |[],_=>rfl
 |x::p,h=>by
  simp only [unsnoc] at h;split at h<;>cases h
theorem zqF:∀{p q:Path} {z:Nat×Nat},unsnoc p=some (q,z)→p=q++[z]
 |[],_,_,h=>nomatch h
 |x::p,q,z,h=>by
  simp only [unsnoc] at h;split at h
  ·rename_i q' z' hq;obtain ⟨rfl,rfl⟩:=zNb (zM8 h);rw [zqF hq];rfl
  ·rename_i hn;obtain ⟨rfl,rfl⟩:=zNb (zM8 h);rw [zyU hn];rfl
theorem zpc {u:RT} {l:List u.ty}:∀{ls:List Leaf} {j:Nat},zpb ls j= .list u l→ls[j]? =some (.list u l)
 |[],_,h=>nomatch h
 |x::ls,0,h=>by have h:x=_:=h;rw [h];rfl
 |x::ls,j+1,h=>by rw [List.getElem?_cons_succ];exact zpc (ls:=ls) h
theorem ztk {w:World} {q:Path}:∀{p:Path} {t:RT} {l:List t.ty} {h h':Hdr},hdrs w (p++q) t l h=some h'→∃g,hdrs w p t l h=some g∧hdrs w q (sub p t l).1 (sub p t l).2 g=some h'
 |[],t,l,h,h',e=>⟨h,rfl,e⟩
 |(i,j)::p,t,l,(A,m,c),h',e=>by
  rw [List.cons_append] at e;simp only [hdrs] at e ⊢;split at e
  ·rename_i b o x hx;split at e
   ·rename_i t' l' hl;split at e
    ·rename_i A2 m2 c2 hc;obtain ⟨g,g1,g2⟩:=ztk (p:=p) e;have hg:l.getD i t.dflt=x:=by rw [List.getD_eq_getElem?_getD,hx];rfl
     have hn:zpb (t.leaves (l.getD i t.dflt)) j= .list t' l':=by rw [hg];exact zc5 hl
     refine ⟨g,?_,?_⟩
     ·exact g1
     ·rw [sub,hn];exact g2
    ·cases e
   ·cases e
  ·cases e
def zsF (P:Program) [Fast P] (ts:Array TypeId) (args:List AV) (st:St):Option (MP×AV×St):=match ts[0]?,ts[1]?,args with
 |some t,some t',[.lw i k p' sz0 n0,x]=>match zeo P t,zeo P t' with
  |some (.slice E),some (.slice _)=>match zd0 P E,zGA P 4 E,unsnoc p' with
   |some i0,some r2,some (p,idx,cell)=>match i0.zero,st.wr i,st.h.get i with
    |some z,true,some bk=>match bk.op,zu bk.cells with
     |some 0, .tree ow rt xs kv=>match isK false ow&&(Nat.beq z.cells.size i0.size&&(Nat.beq i0.size r2.size&&(zgz i0.size&&(zgz i0.bytes&&(Nat.beq ts.size 2&&(Nat.beq k kv&&(zdx (owT rt) p&&owT rt p'))))))),zpb ((sub p rt xs).1.leaves ((sub p rt xs).2.getD idx (sub p rt xs).1.dflt)) cell,zIM st false r2 x with
      |true, .list t2 l2,some (ys,ks)=>match RT.same r2 t2 with
       |some hh=>match zur (zcf idx cell [.list t2 (l2++zqO hh ys)]) p rt xs,zcA (i::(zk ks++zh ks)) with
        |some xs',true=>some (⟨(l2.length+ys.length)*i0.bytes≤140737488355328,inferInstance⟩, .lw (Nat.succ st.n) (Nat.succ st.n) [] r2.size (l2.length+ys.length),
         ⟨(((zaz st.h (zk ks++zh ks)).set st.n ⟨0,[.ver],some 0⟩).set (Nat.succ st.n) ⟨0,[.ver],some 0⟩).set i ⟨bk.ty,[.tre .all rt xs' st.n, .ep i k p (sub p rt xs).1.size idx cell, .ptr (Nat.succ st.n) 0],some 0⟩,Nat.succ (Nat.succ st.n),st.wr⟩)
        |_,_=>none
       |none=>none
      |_,_,_=>none
     |_,_=>none
    |_,_,_=>none
   |_,_,_=>none
  |_,_=>none
 |_,_,_=>none
def zIf (p p':Path) (idx idx':Nat):MP:=match p,p' with
 |[],[]=>⟨idx=idx',inferInstance⟩
 |p,p'=>⟨p=p'∧idx=idx',inferInstance⟩
theorem zGk {p p':Path} {idx idx':Nat} (h:(zIf p p' idx idx').p):p=p'∧idx=idx':=by
 unfold zIf at h;split at h
 ·exact ⟨rfl,h⟩
 ·exact h
def zlX (P:Program) [Fast P] (t:TypeId) (x y:AV) (st:St):Option (MP×St):=match x,y with
 | .ep i k p sz idx cell, .lw j _ q _ _=>match st.wr i,st.h.get i,zeg P t,q with
   |true,some bk,some n,[]=>match bk.op,zu bk.cells with
    |some 0, .pend ow rt xs kv i' kk p' sz' idx' cell' j'=>match Nat.beq i i'&&(ze1 k kk p&&(Nat.beq j j'&&(Nat.beq sz sz'&&(Nat.beq n 1&&Nat.beq cell cell')))) with
     |true=>some (zIf p p' idx idx',⟨st.h.set i ⟨bk.ty,[.tre ow rt xs kv],some 0⟩,st.n,st.wr⟩)
     |false=>none
    |_,_=>none
   |_,_,_,_=>none
 |_,_=>none
theorem hdrOf.uniq {i k:Nat} {p:Path} {g g':Hdr} (h:hdrOf ρ i k p g) (h':hdrOf ρ i k p g'):g=g':=by
 obtain ⟨x,c,y,d,a1,a2,a3⟩:=h;obtain ⟨x',c',y',d',b1,b2,b3⟩:=h';rw [a1] at b1;rw [a2] at b2;obtain ⟨rfl,rfl⟩:=zNb (zM8 b1);obtain ⟨rfl,rfl⟩:=zNb (zM8 b2);cases p with
 |nil=>have a3:g=_:=a3;have b3:g'=_:=b3;rw [a3,b3]
 |cons e p=>have a3:d.hd (e::p)=some g:=a3;have b3:d.hd (e::p)=some g':=b3;rw [a3] at b3;exact zM8 b3
theorem zwS {o:Oper} {t:TypeId} {x y:Operand} {pp:MP} (ho:o.op= .store t x y) (h:TR ρ nt tm a) (hs:Sim K w0 ρ st w) (hf:zlX P t (ev tm x) (ev tm y) st=some (pp,st')) (hpp:pp.p):
  ∃w' ρ',(execOp a.eval o).run P w= .ok .skip w'∧Ext st.n st'.n ρ ρ'∧Sim K w0 ρ' st' w':=by
 have hdx:=h.ev x;have hdy:=h.ev y;unfold zlX at hf;split at hf
 case h_2=>cases hf
 rename_i i k p sz idx cell j kj q szj nj hx hy;rw [hx] at hdx;rw [hy] at hdy;simp only [den] at hdx hdy;obtain ⟨g,hg,hlt,b,o',hgb,hav⟩:=hdx;obtain ⟨g2,hg2,hlv,hgn⟩:=hdy;split at hf
 case h_2=>cases hf
 rename_i bk n hwi hb hn;split at hf
 case h_2=>cases hf
 rename_i ow rt xs kv i' kk p' sz' idx' cell' j' hop hkd;split at hf
 case h_2=>cases hf
 rename_i hcc;simp only [Bool.and_eq_true] at hcc;obtain ⟨c1,c2,c3,c4,c5,c6⟩:=hcc;have c6:=zM9 c6;subst c6;have c1:=zM9 c1;have c3:=zM9 c3;have c4:=zM9 c4;have c5:=zM9 c5;subst c1;subst c3;subst c4;subst c5;obtain ⟨rfl,rfl⟩:=zNb (zM8 hf);obtain ⟨rfl,rfl⟩:=zGk hpp;obtain ⟨S,F,hs⟩:=hs;obtain ⟨x',c,hi,hbr,hnk⟩:=hs.blk i bk hb;have hp:=hbr.2 hop;rw [hkd] at hp;obtain ⟨g',b',T,cs,xj,cj,h1,h2,h3,h4,h5,h6,h7⟩:=hp;obtain rfl:g=g':=by
  cases p with
  |nil=>
   obtain ⟨xa,ca,ya,da,q1,q2,q3⟩:=hg;obtain ⟨xb,cb,yb,db,q4,q5,q6⟩:=h1;rw [q1] at q4;obtain ⟨rfl,rfl⟩:=zNb (zM8 q4);have q3:g=_:=q3;have q6:g'=_:=q6;rw [q3,q6]
  |cons e p=>
   have c2:=zM9 (show Nat.beq k kk=true from c2);subst c2;exact hg.uniq h1
 rw [hgb] at h2;simp only [zNn,Addr.mk.injEq,and_true] at h2;obtain ⟨rfl,rfl⟩:=h2;obtain ⟨x2,c2,y2,d2,k1,k2,k3⟩:=hg2;rw [h6] at k1;obtain ⟨rfl,rfl⟩:=zNb (zM8 k1);have k3:g2=zal xj cj:=k3;subst k3;have hv:a.eval y=(zal xj cj).val:=by
  obtain ⟨_,_,A',e,hA,_⟩:=hlv;rw [e,hA rfl, ←hgn];rfl
 have hus:(a.eval y).cells.toList=[(zal xj cj).val]:=by rw [hv];rfl
 have hrun:=zcs P b (idx*sz+cell) T [(zal xj cj).val] 0 cs w h4 (by show idx*sz+cell+0+1≤cs.size;omega) (by simp [Hdr.val,Value.oneCell'])
 simp only [Nat.add_zero] at hrun;have e1:cs.toList.drop (idx*sz+cell+([(zal xj cj).val]:List Value).length)=cs.toList.drop (idx*sz+cell+1):=rfl;rw [e1] at hrun;have hkp:=Kp.setRow w b (cs.toList.take (idx*sz+cell)++[(zal xj cj).val]++cs.toList.drop (idx*sz+cell+1)).toArray;generalize hw':w.setRow b (cs.toList.take (idx*sz+cell)++[(zal xj cj).val]++cs.toList.drop (idx*sz+cell+1)).toArray=w' at hrun hkp h7;have hex:(execOp a.eval o).run P w= .ok .skip w':=by
  have hsz:(a.eval y).cells.size=1:=by rw [hv];rfl
  rw [←hus] at hrun;unfold execOp;simp [ho,hav,Instr.storeAt,Instr.sureAddr,Sem.run_bind,storeVar,zaa hn,hsz,hrun]
 have hkF:Kp (fun y=>y<w.heap.size∧¬F i y) w w':=hkp.mono fun y hy=>⟨hy.1,fun e=>hy.2 (e▸h3)⟩;exact ⟨w',ρ,hex, .refl _ ρ,S,_,hs.write i hb hwi hi _ w' (F i) (fun y hy=> .inl hy) hkF ⟨fun e=>absurd rfl e,fun _=>h7⟩⟩
theorem zAj {o:Oper} {args:Array Operand} {ts:Array TypeId} {v:AV} {pp:MP} (ho:o.op= .call {callee:= .builtin .append,args:=args,argTypes:=ts}) (h:TR ρ nt tm a) (hs:Sim K w0 ρ st w) (hf:zsF P ts (args.toList.map (ev tm)) st=some (pp,v,st')) (hpp:pp.p):
  ∃u w' ρ',(execOp a.eval o).run P w= .ok (.value u) w'∧Ext st.n st'.n ρ ρ'∧Sim K w0 ρ' st' w'∧den ρ' v u:=by
 have hd:=zbZ h args.toList;have hex:(execOp a.eval o).run P w=(builtin .append ts o.type (args.map fun| .const _=>true|_=>false) (args.map a.eval)).run P w:=by
  unfold execOp;simp only [ho,resolve,Sem.run_bind,Sem.run_pure,Result.andThen_ok,invoke];rfl
 rw [hex];have hargs:args.map a.eval=(args.toList.map a.eval).toArray:=by rw [←Array.toList_map]
 rw [hargs];generalize args.toList.map a.eval=vs at hd;generalize args.toList.map (ev tm)=l at hd hf;generalize (args.map fun| .const _=>true|_=>false)=cs0
 unfold zsF at hf;split at hf
 case h_2=>cases hf
 rename_i t t' i k p' sz0 n0 x ht0 ht1;simp only [dens] at hd;obtain ⟨su,vs',rfl,hsu,xu,vs'',rfl,hxu,rfl⟩:=hd;split at hf
 case h_2=>cases hf
 rename_i E E' hu hu';split at hf
 case h_2=>cases hf
 rename_i i0 r2 p idx cell hi0 hrt hup;split at hf
 case h_2=>cases hf
 rename_i z bk hz hwi hb;split at hf
 case h_2=>cases hf
 rename_i ow rt xs kv hop hkd;split at hf
 case h_2=>cases hf
 rename_i t2 l2 ys ks hc hnl hys;split at hf
 case h_2=>cases hf
 rename_i hh _;obtain ⟨hh⟩:=hh;subst hh;split at hf
 case h_2=>cases hf
 rename_i xs' hxs' hap;simp only [zNn,Prod.mk.injEq] at hf;obtain ⟨rfl,rfl,rfl⟩:=hf;have hxs':zur (zcf idx cell [.list r2 (l2++ys)]) p rt xs=some xs':=hxs';simp only [Bool.and_eq_true] at hc;obtain ⟨hk0,c1,c2,c3,c4,c5,c6,c7,c8⟩:=hc;obtain rfl:ow= .all:=zDf hk0;have c1:=zM9 c1;have c2:=zM9 c2;have c3:0<i0.size:=zNc c3;have c4:0<i0.bytes:=zNc c4;have c5:=zM9 c5;have c6:=zM9 c6;subst c6;have hp':=zqF hup;subst hp';have hts:ts= #[t,t']:=by
  apply Array.ext
  ·simpa using c5
  ·intro q hq1 hq2;simp at hq2;rcases q with _|q
   ·have:=ht0;rw [zNi (by omega)] at this;simpa using this
   ·rcases q with _|q
    ·have:=ht1;rw [zNi (by omega)] at this;simpa using this
    ·omega
 subst hts;obtain ⟨S,F,hs⟩:=hs;have hpos:0<r2.size:=by omega
 simp only [den] at hsu;obtain ⟨g',hg',hlv,hgn⟩:=hsu;have hver:ze1 k k (p++[(idx,cell)])=true:=by cases p<;>exact Nat.beq_refl k
 obtain ⟨x',c,hi,ht,hhd',hK⟩:=Sim.at_ hs hb hop hkd hver hg';obtain ⟨g,hhd,hst⟩:=ztk hhd';have hFS:∀y,F i y→¬S y:=fun y hy=>hs.sd i bk y hb hwi hy;obtain ⟨G,g1,g2,g3⟩:=LfO.focus (ow:=owT rt) ht.own c7 hhd hFS;have hGS:∀y,G y→¬S y:=fun y hy=>hFS y (g1 y hy);have hop0:(fun q=>owT rt (p++q)) []=true:=by
  show owT rt (p++[])=true;rw [List.append_nil];exact zhQ c7
 have hleaf:=zpc hnl;obtain ⟨gA,gm,gc⟩:=g;simp only [hdrs] at hst;split at hst
 case h_2=>cases hst
 rename_i b1 o1 x1 hx1;have hidx:idx<(sub p rt xs).2.length:=(zNa.1 hx1).1;have hx1':(sub p rt xs).2.getD idx (sub p rt xs).1.dflt=x1:=by rw [List.getD_eq_getElem?_getD,hx1];rfl
 obtain ⟨b,cs,T,Gi,hA,hGb,hblk,hroom,hGi,hGd,hold,hrow⟩:=LfO.row g2 hop0 hidx hGS;simp only [zNn,Addr.mk.injEq,and_true] at hA;obtain ⟨rfl,rfl⟩:=hA;split at hst
 case h_2=>cases hst
 rename_i t3 l3 hl3;split at hst
 case h_2=>cases hst
 rename_i A2 m2 c2' hcell;obtain rfl:=zM8 hst;rw [hx1'] at hleaf;rw [hleaf] at hl3;obtain ⟨rfl,hl3⟩:=Leaf.list.inj (zM8 hl3);obtain rfl:=eq_of_heq hl3;have hleaf':=hleaf;rw [←hx1'] at hleaf';have hlo:=hold cell _ hleaf';have hcsz:idx*(sub p rt xs).1.size+cell<cs.size:=by
  have:=(zNa.1 hleaf).1;rw [RT.leaves_len] at this;rw [Nat.succ_mul] at hroom;omega
 have hcv:cs.getD (idx*(sub p rt xs).1.size+cell) undef= .slice A2 m2 c2':=by
  rw [hblk.cell,Nat.zero_add] at hcell;rw [Array.getD_eq_getD_getElem?,hcell];rfl
 rw [hcv] at hlo;obtain ⟨A3,c3',e3,hcl,hmx⟩:=hlo.rd.slice;simp only [Value.slice.injEq] at e3;obtain ⟨rfl,rfl,rfl⟩:=e3;have hsv:su= .slice A2 l2.length c2':=by
  obtain ⟨_,_,A',e,hA',_⟩:=hlv;have h1:A'=A2:=hA' rfl;rw [e,h1, ←hgn];rfl
 subst hsv;obtain ⟨Ay,cy,us,rfl,u1,u2,u3,Hc,hH1,hH2,hH3⟩:=zsB hs hpos hys hxu;have hnd:=zbm hap;have hni:i∉zk ks++zh ks:=(List.nodup_cons.1 hnd).1;have hnd2:=zNq.1 (List.nodup_cons.1 hnd).2;have hoff:∀{l:List Nat},(∀j,j∈l→j≠i)→∀y,Gn F st l y→¬F i y:=fun {l} hl y hy hy'=>by
  obtain ⟨j,j1,j2,⟨bj,j3⟩,j4⟩:=hy;exact hs.sep j i bj bk y j3 hb (hl j j1) (.inl j2) j4 hy'
 have hHF:∀y,Gn F st (zk ks) y→¬F i y:=hoff fun j hj e=>hni (by rw [←e];simp [hj])
 have hRF:∀y,Gn F st (zh ks) y→¬F i y:=hoff fun j hj e=>hni (by rw [←e];simp [hj])
 have hGF:∀y,Gi cell y→F i y:=fun y hy=>g1 y (hGi cell y hy).1;have howp:∀q,owT rt (p++(idx,cell)::q)=owT r2 q:=fun q=>by
  have e:=zms (p:=p++[(idx,cell)]) c8 hhd' q;rw [List.append_assoc] at e;rw [show p++(idx,cell)::q=p++([(idx,cell)]++q) from rfl,e,zog,hnl]
 have hFb:F i b1:=g1 b1 hGb;obtain ⟨w1,A1,cn,G2,r1,r2',r3,r4⟩:=zkj (ty:=o.type) (ow:=fun q=>owT rt (p++(idx,cell)::q)) hu hu' hi0 hz c1 c2 c3 c4 c8 hpp hlo (c2':=cy) (R:=Gn F st (zh ks)) (H:=Gn F st (zk ks)) (Hc:=Hc) (fun y hy=>hs.sl y hy) (fun y hy=>(hy.lt hs).1) (fun y hy=>(hy.lt hs).1) (fun y hy=>ht.lt y (hGF y hy))
  (fun y hy=>hFS y (hGF y hy)) (fun y hy hr=>hRF y hr (hGF y hy)) (fun y hy hg=>hHF y hy (hGF y hg)) u1 u2 u3 hH1 (hH2 hnd2.1) (fun i1 x1 hx1 j1 lf hj1=>by
   obtain ⟨v1,hv1,hlf⟩:=hH3 i1 x1 hx1 j1 lf hj1;refine ⟨v1,hv1,?_⟩;have h5:=zn7 (i:=l2.length+i1) hj1 hlf;have e5:(fun q=>owT rt (p++(idx,cell)::(l2.length+i1,j1)::q))=fun q=>(owK false).f r2 ((l2.length+i1,j1)::q):=by
    funext q;exact howp _
   show LfO w _ lf (fun q=>owT rt (p++(idx,cell)::(l2.length+i1,j1)::q)) _ v1;rw [e5];exact h5)
 have hb1G:¬Gi cell b1:=fun hy=>(hGi cell b1 hy).2 rfl;have hblk1:Blk w1 b1 T cs:=hblk.same (r2'.block b1 ⟨hblk.lt,hb1G⟩);have hroom2:idx*(sub p rt xs).1.size+cell+1≤cs.size:=hcsz;have hkp2:=Kp.setRow w1 b1 (splice cs.toList (idx*(sub p rt xs).1.size+cell) [.slice A1 (l2.length+ys.length) cn]).toArray;have hblk2:Blk (w1.setRow b1 (splice cs.toList (idx*(sub p rt xs).1.size+cell) [.slice A1 (l2.length+ys.length) cn]).toArray) b1 T (splice cs.toList (idx*(sub p rt xs).1.size+cell) [.slice A1 (l2.length+ys.length) cn]).toArray:=hblk1.setRow _ (by rw [List.size_toArray,zam (by simpa using hroom2),Array.length_toList])
 generalize hw2:w1.setRow b1 (splice cs.toList (idx*(sub p rt xs).1.size+cell) [.slice A1 (l2.length+ys.length) cn]).toArray=w2 at hkp2 hblk2;have hHnF:∀y,(Gn F st (zk ks) y∨(w.heap.size≤y∧y<w1.heap.size))→¬F i y:=fun y h hy=>by
  rcases h with h|h
  ·exact hHF y h hy
  ·have:=ht.lt y hy;omega
 have he:∀y,y<w.heap.size→y≠b1→¬Gi cell y→w2.heap[y]? =w.heap[y]? :=fun y h1 h2 h3=>(hkp2.block y ⟨zNd h1 r2'.size,h2⟩).trans (r2'.block y ⟨h1,h3⟩);have hS':∀y,(S y∨Gn F st (zh ks) y)→y<w.heap.size∧¬F i y:=fun y hy=>by
  rcases hy with hy|hy
  ·exact ⟨hs.sl y hy,fun h=>hFS y h hy⟩
  ·exact ⟨(hy.lt hs).1,hRF y hy⟩
 have hG2:∀y,G2 y→y≠b1:=fun y hy e=>by
  rcases (r4 y hy).2 with (h|h)|h
  ·exact (hGi cell y h).2 e
  ·exact hHF y h (e▸hFb)
  ·have:=hblk.lt;omega
 have hkn:cell+1≤(sub p rt xs).1.size:=by
  have:=(zNa.1 hleaf).1;rw [RT.leaves_len] at this;exact this
 obtain ⟨ys',hys'⟩:=zjU hxs';obtain ⟨y',hy',rfl⟩:∃y',(sub p rt xs).1.build (splice ((sub p rt xs).1.leaves ((sub p rt xs).2.getD idx (sub p rt xs).1.dflt)) cell [.list r2 (l2++ys)])=some y'∧ys'=(sub p rt xs).2.set idx y':=by
  have h2:=hys';unfold zcf at h2;split at h2
  ·rename_i y' hy';exact ⟨y',hy',(zM8 h2).symm⟩
  ·cases h2
 have hyl:=RT.build_ok hy';have hcLen:c.m=xs'.length:=by
  rw [ht.len,zl0 (f:=zcf idx cell [.list r2 (l2++ys)]) (fun u l l' h=>by
   unfold zcf at h;split at h
   ·obtain rfl:=zM8 h;simp
   ·cases h) hxs']
 have hd:LfO w2 (fun y=>S y∨Gn F st (zh ks) y) (.list rt xs') (owT rt) (fun y=>F i y∨(Gn F st (zk ks) y∨(w.heap.size≤y∧y<w1.heap.size))) (zal x' c).val:=by
  refine g3 w2 _ _ (owT rt) _ _ xs' (fun y hy hny=>he y (ht.lt y hy) (fun e=>hny (e▸hGb)) (fun h=>hny (hGi cell y h).1)) (fun y hy=>he y (hs.sl y hy) (fun e=>hFS b1 hFb (e▸hy)) (fun h=>hFS y (hGF y h) hy)) (fun y hy=> .inl hy) hHnF (fun q _=>rfl) hys' ?_ hxs';refine hrow w2 _ _ (fun q=>owT rt (p++q)) cell [.slice A1 (l2.length+ys.length) cn] [.list r2 (l2++ys)] y' (fun q y=>q=0∧G2 y) rfl hkn hyl (fun q y ⟨e,hy⟩=>?_) (fun q q' y ⟨e,_⟩ ⟨e',_⟩=>e.trans e'.symm) (fun y hy hGy=>hHnF y hy (g1 y hGy)) (fun y hy=> .inl hy) (fun q _=>rfl) (fun y h1 h2 h3=>he y h1 h2 (by simpa using h3 0 (by simp))) hblk2 (fun q lf v hq hvq=>?_)
  ·subst e;obtain ⟨h1,h2⟩:=r4 y hy;rcases h2 with (h2|h2)|h2
   ·exact .inr h2
   ·exact .inl (.inl h2)
   ·exact .inl (.inr ⟨h2,h1⟩)
  ·cases q with
   |zero=>
    simp only [List.getElem?_cons_zero,zNn] at hq hvq;subst hq;subst hvq;exact (r3.keep (fun y hy hlt=>hkp2.block y ⟨hlt,hG2 y hy⟩) (fun y hy=>hy) (fun y hy hlt=>hkp2.block y ⟨hlt,fun e=>(hS' y hy).2 (e▸hFb)⟩)).wide fun y hy=>⟨rfl,hy⟩
   |succ q=>simp at hq
 have s1:=hs.give (zk ks) (zh ks);obtain ⟨s2,e2⟩:=s1.nameG (Kp.refl _ w) (fun _ _ _ _ _=>rfl) (fun _ _=>rfl) ⟨0,[.ver],some 0⟩ 0 ⟨0,0,none,fun p'=>hdrs w2 p' rt xs' (zal x' c),fun _=>False⟩ (fun _=>False) ⟨fun e=>absurd rfl e,fun _=>fun y hy=>hy⟩ (fun y hy=>hy.elim);obtain ⟨s3,e3⟩:=s2.nameG (Kp.refl _ w) (fun _ _ _ _ _=>rfl) (fun _ _=>rfl) ⟨0,[.ver],some 0⟩ 0 ⟨cn,l2.length+ys.length,A1,fun _=>none,fun _=>False⟩ (fun _=>False) ⟨fun e=>absurd rfl e,fun _=>fun y hy=>hy⟩ (fun y hy=>hy.elim);have hin:i<st.n:=hs.dom i (by rw [hi];simp)
 have hbi:(((zaz st.h (zk ks++zh ks)).set st.n ⟨0,[.ver],some 0⟩).set (st.n+1) ⟨0,[.ver],some 0⟩).get i=some bk:=by
  rw [Go.Proofs.YtiepllpgifnloaaGreat.Vx.T.get_put,if_neg (by omega),Go.Proofs.YtiepllpgifnloaaGreat.Vx.T.get_put,if_neg (by omega),zg0 hni];exact hb
 have hFi2:Fup (Fup F st.n (fun _=>False)) (st.n+1) (fun _=>False) i=F i:=by rw [zap (by omega),zap (by omega)]
 have e4:=e2.trans e3;have hiU:=e4.le _ _ hi;obtain ⟨g0,hg0⟩:∃g0,hdrOf ρ i k p g0∧g0=(some ⟨b1,0,none⟩,gm,gc):=by
  obtain ⟨xa,ca,ya,da,q1,q2,q3⟩:=hg';rw [hi] at q1;obtain ⟨rfl,rfl⟩:=zNb (zM8 q1);obtain ⟨yk,dk,hk1,hk2⟩:=ht.hds;refine ⟨_,⟨x',c,yk,dk,hi,hk1,?_⟩,rfl⟩;cases p with
  |nil=>exact (zM8 hhd).symm
  |cons e p=>show dk.hd (e::p)=_;rw [hk2];exact hhd
 obtain ⟨hg0,rfl⟩:=hg0;have s4:=s3.write2 i hbi hwi hiU ⟨bk.ty,[.tre .all rt xs' st.n, .ep i k p (sub p rt xs).1.size idx cell, .ptr (Nat.succ st.n) 0],some 0⟩ w1 (fun y=>F i y∨(Gn F st (zk ks) y∨(w.heap.size≤y∧y<w1.heap.size))) (fun y hy=>?_) (by rw [hFi2];exact r2'.mono fun y hy=>⟨hy.1,fun h=>hy.2 (hGF y h)⟩) ⟨fun e=>absurd rfl e,fun _=>?_⟩
 ·refine ⟨.slice A1 (l2.length+ys.length) cn,w1,_,?_,e4,⟨_,_,s4⟩,?_⟩
  ·simp only [builtin,Sem.run_bind];have e:[Value.slice A2 l2.length c2',Value.slice Ay ys.length cy].toArray= #[.slice A2 l2.length c2', .slice Ay ys.length cy]:=rfl;rw [e,r1];rfl
  ·simp only [den];have hrd:=r3.rd;rw [show l2.length+ys.length=(l2++ys).length by simp] at hrd
   obtain ⟨A',c',ee,hh1,hh2⟩:=hrd.slice;simp only [Value.slice.injEq] at ee;obtain ⟨rfl,_,rfl⟩:=ee;refine ⟨(A1,l2.length+ys.length,cn),⟨0,⟨cn,l2.length+ys.length,A1,fun _=>none,fun _=>False⟩,0,⟨cn,l2.length+ys.length,A1,fun _=>none,fun _=>False⟩,by simp [Rho.up],by simp [Rho.up],rfl⟩,⟨by simp,by simpa using hh1,A1,by simp,fun _=>rfl,fun hn=>?_⟩,rfl⟩
   have hne:(l2++ys)≠[]:=fun e=>hn (by have:=congrArg List.length e;simpa using this)
   cases hrd with
   |list _ _ _ _ vf h1 h2 h3 hc hr=>
    obtain ⟨b,o,e,_⟩:=h3 hne;exact ⟨b,o,e,by simpa using e⟩
 ·rcases hy with hy|hy|hy
  ·exact .inl (by rw [hFi2];exact hy)
  ·refine .inr (.inr ⟨(hy.lt hs).2.1,fun hS=>?_,fun j bj hj hyj=>?_⟩)
   ·rcases hS with hS|hS
    ·exact (hy.lt hs).2.2 hS
    ·refine Gn.apart hs (fun q h1 h2=>?_) hy hS;exact hnd2.2.2 q h1 q h2 rfl
   ·rw [Go.Proofs.YtiepllpgifnloaaGreat.Vx.T.get_put] at hj;by_cases hjn:j=st.n+1
    ·rw [hjn,zV] at hyj;exact hyj
    ·rw [if_neg hjn] at hj;rw [zap hjn] at hyj;rw [Go.Proofs.YtiepllpgifnloaaGreat.Vx.T.get_put] at hj;by_cases hjn:j=st.n
     ·rw [hjn,zV] at hyj;exact hyj
     ·rw [if_neg hjn] at hj;rw [zap hjn] at hyj;obtain ⟨h3,h4⟩:=za2 hj;obtain ⟨q,q1,q2,⟨bq,q3⟩,q4⟩:=hy;exact hs.sep q j bq bj y q3 h3 (fun e=>h4 (by rw [←e];simp [q1])) (.inl q2) q4 hyj
  ·exact .inr (.inl hy.1)
 ·refine ⟨_,b1,T,cs,0,⟨cn,l2.length+ys.length,A1,fun _=>none,fun _=>False⟩,hg0.mono e4.le,rfl, .inl hFb,hblk1,hcsz,by simp [Rho.up],?_⟩
  have hw2':w1.setRow b1 (cs.toList.take (idx*(sub p rt xs).1.size+cell)++[(zal 0 ⟨cn,l2.length+ys.length,A1,fun _=>none,fun _=>False⟩).val]++cs.toList.drop (idx*(sub p rt xs).1.size+cell+1)).toArray=w2:=hw2;rw [hw2'];refine ⟨hcLen,hd,fun y hy=>?_,0,⟨0,0,none,fun p'=>hdrs w2 p' rt xs' (zal x' c),fun _=>False⟩,by simp [Rho.up],rfl⟩
  have hsz:w2.heap.size=w1.heap.size:=by rw [←hw2];exact zh0 _ _ _
  rw [hsz];rcases hy with hy|hy|hy
  ·exact zNd (ht.lt y hy) r2'.size
  ·exact zNd (hy.lt hs).1 r2'.size
  ·exact hy.2
def zwT (P:Program) [Fast P] (t:TypeId) (x y:AV) (st:St):Option (MP×St):=match zof P t x y st with
 |some r=>some r
 |none=>zlX P t x y st
theorem zEP {o:Oper} {t:TypeId} {x y:Operand} {pp:MP} (ho:o.op= .store t x y) (h:TR ρ nt tm a) (hs:Sim K w0 ρ st w) (hf:zwT P t (ev tm x) (ev tm y) st=some (pp,st')) (hpp:pp.p):
  ∃w' ρ',(execOp a.eval o).run P w= .ok .skip w'∧Ext st.n st'.n ρ ρ'∧Sim K w0 ρ' st' w':=by
 unfold zwT at hf;split at hf
 ·rename_i hz;obtain rfl:=zM8 hf;exact zyP ho h hs hz hpp
 ·exact zwS ho h hs hf hpp
theorem zEQ {t:TypeId} {x y:AV} {p:MP} (hst:zwT P t x y st=some (p,st')):st'.wr=st.wr:=by
 unfold zwT at hst;split at hst
 ·rename_i hz;obtain rfl:=zM8 hst;unfold zof at hz
  repeat' split at hz
  all_goals first
   |(cases hz;done)
   |(simp only [zNn,Prod.mk.injEq] at hz;obtain ⟨_,rfl⟩:=hz;rfl)
 ·unfold zlX at hst
  repeat' split at hst
  all_goals first
   |(cases hst;done)
   |(simp only [zNn,Prod.mk.injEq] at hst;obtain ⟨_,rfl⟩:=hst;rfl)
def zvo (st:St) (rt:RT) (a:AV):Option (AV×St):=match zsx st true (.list rt []) a with
 |some k=>match k.lf,k.own with
  | .list t l,[]=>some (zeM .none t l (zaz st.h k.rel) st.n st.wr)
  |_,_=>none
 |none=>none
theorem ztv {st:St} (hs:Sim K w0 ρ st w) {rt:RT} {a v:AV} {st1:St} {u:Value} (hd:den ρ a u) (h:zvo st rt a=some (v,st1)):∃ρ',Ext st.n st1.n ρ ρ'∧Sim K w0 ρ' st1 w∧den ρ' v u∧st1.wr=st.wr:=by
 unfold zvo at h;split at h
 case h_2=>cases h
 rename_i k hk;split at h
 case h_2=>cases h
 rename_i t l hkl hko;obtain ⟨S,F,hs⟩:=hs;obtain ⟨ho,_⟩:=zwZ hs hk hd;rw [hkl,hko] at ho;have ho:LfO w (fun y=>S y∨Gn F st k.rel y) (.list t l) (fun _=>false) (fun _=>False) u:=LfO.wide (show LfO w (fun y=>S y∨Gn F st k.rel y) (.list t l) (fun _=>false) (Gn F st []) u from ho) fun y hy=>by
  obtain ⟨_,hj,_⟩:=hy;cases hj
 obtain ⟨A,c,rfl,_⟩:=ho.rd.slice;have g:=hs.give [] k.rel;rw [List.nil_append] at g;obtain ⟨ρ',F',t1,t2,t3,t4,_⟩:=g.tree (ow:= .none) (G:=fun _=>False) ho (fun y hy=>hy.elim) (fun y hy=>hy.elim) (zM8 h);exact ⟨ρ',t1,⟨_,_,t2⟩,t3,t4⟩
def zwI (st:St) (a:AV):Option (AV×St):=match a with
 | .lw i k p _ _=>match st.h.get i with
   |some bk=>match bk.op,zu bk.cells with
    |some 0, .tree ow rt xs kv=>match isK false ow&&zJQ st i k p with
     |true=>zvo st (sub p rt xs).1 a
     |false=>none
    |_,_=>none
   |none=>none
 |_=>none
theorem zEC {a v:AV} {st1:St} {u:Value} (hs:Sim K w0 ρ st w) (hd:den ρ a u) (h:zwI st a=some (v,st1)):∃ρ',Ext st.n st1.n ρ ρ'∧Sim K w0 ρ' st1 w∧den ρ' v u∧st1.wr=st.wr:=by
 unfold zwI at h
 repeat' split at h
 all_goals first
  |(cases h;done)
  |exact ztv hs hd h
def zkc:List AV→St→List AV×St
 |[],st=>([],st)
 |a::l,st=>match zwI st a with
  |some (v,st1)=>match zkc l st1 with
   |(vs,st2)=>(v::vs,st2)
  |none=>match zkc l st with
   |(vs,st2)=>(a::vs,st2)
theorem zqf:∀{l:List AV} {us:List Value} {ρ:Rho} {st:St},Sim K w0 ρ st w→dens ρ l us→∃ρ',Ext st.n (zkc l st).2.n ρ ρ'∧Sim K w0 ρ' (zkc l st).2 w∧dens ρ' (zkc l st).1 us∧(zkc l st).2.wr=st.wr
 |[],us,ρ,st,hs,hd=>⟨ρ, .refl _ ρ,hs,hd,rfl⟩
 |a::l,us,ρ,st,hs,hd=>by
  simp only [dens] at hd;obtain ⟨u,us',rfl,h1,h2⟩:=hd;simp only [zkc];split
  ·rename_i v st1 hv;obtain ⟨ρ1,e1,s1,d1,w1⟩:=zEC hs h1 hv;obtain ⟨ρ2,e2,s2,d2,w2⟩:=zqf (l:=l) s1 (dens_mono e1.le h2);refine ⟨ρ2,e1.trans e2,s2,?_,w2.trans w1⟩;simp only [dens];exact ⟨u,us',rfl,zbn e2.le d1,d2⟩
  ·obtain ⟨ρ2,e2,s2,d2,w2⟩:=zqf (l:=l) hs h2;refine ⟨ρ2,e2,s2,?_,w2⟩;simp only [dens];exact ⟨u,us',rfl,zbn e2.le h1,d2⟩
theorem zqg:∀{l:List AV} {st:St},(zkc l st).2.wr=st.wr
 |[],_=>rfl
 |a::l,st=>by
  simp only [zkc];split
  ·rename_i v st1 hv;refine (zqg (l:=l) (st:=st1)).trans ?_;unfold zwI at hv
   repeat' split at hv
   all_goals first
    |(cases hv;done)
    |(unfold zvo at hv
      repeat' split at hv
      all_goals first
       |(cases hv;done)
       |(exact ze7 (zM8 hv)))
  ·exact zqg (l:=l)
def zy3 (st:St):List AV→Bool
 |[]=>false
 |a::l=>match zwI st a with
  |some _=>true
  |none=>zy3 st l
def zDq (P:Program) [Fast P] (t:TypeId) (x:AV) (st:St):Option (AV×St):=match zvp P t x st with
 |some (.agg l)=>match zy3 st l with
  |true=>match zkc l st with
   |(vs,st')=>some (.agg vs,st')
  |false=>none
 |_=>none
theorem zF5 {o:Oper} {t:TypeId} {x:Operand} {v:AV} (ho:o.op= .load t x) (h:TR ρ nt tm a) (hs:Sim K w0 ρ st w) (hf:zDq P t (ev tm x) st=some (v,st')):
  ∃u ρ',(execOp a.eval o).run P w= .ok (.value u) w∧Ext st.n st'.n ρ ρ'∧Sim K w0 ρ' st' w∧den ρ' v u∧st'.wr=st.wr:=by
 unfold zDq at hf;split at hf
 case h_2=>cases hf
 rename_i l hl;split at hf
 case h_2=>cases hf
 obtain ⟨rfl,rfl⟩:=zNb (zM8 hf);obtain ⟨u,hr,hd⟩:=zvr (P:=P) ho h hs hl;simp only [den] at hd;obtain ⟨us,rfl,hd⟩:=hd;obtain ⟨ρ2,e2,s2,d2,w2⟩:=zqf hs hd;exact ⟨_,ρ2,hr,e2,s2,by simp only [den];exact ⟨us,rfl,d2⟩,w2⟩
theorem zF6 {t:TypeId} {x v:AV} (hf:zDq P t x st=some (v,st')):st'.wr=st.wr:=by
 unfold zDq at hf;split at hf
 case h_2=>cases hf
 rename_i l hl;split at hf
 case h_2=>cases hf
 obtain ⟨_,rfl⟩:=zNb (zM8 hf);exact zqg
def zon (P:Program) [Fast P] (ts:Array TypeId) (args:List AV) (st:St):Option (MP×AV×St):=match zom P ts args st with
 |some r=>some r
 |none=>zsF P ts args st
theorem zAm {o:Oper} {args:Array Operand} {ts:Array TypeId} {v:AV} {p:MP} (ho:o.op= .call {callee:= .builtin .append,args:=args,argTypes:=ts}) (h:TR ρ nt tm a) (hs:Sim K w0 ρ st w) (hf:zon P ts (args.toList.map (ev tm)) st=some (p,v,st')) (hp:p.p):
  ∃u w' ρ',(execOp a.eval o).run P w= .ok (.value u) w'∧Ext st.n st'.n ρ ρ'∧Sim K w0 ρ' st' w'∧den ρ' v u:=by
 unfold zon at hf;split at hf
 ·rename_i hz;obtain rfl:=zM8 hf;exact zAk ho h hs hz hp
 ·exact zAj ho h hs hf hp
theorem zAn {ts:Array TypeId} {l:List AV} {v:AV} {p:MP} (hx:zon P ts l st=some (p,v,st')):st'.wr=st.wr:=by
 unfold zon at hx;split at hx
 ·rename_i hz;obtain rfl:=zM8 hx;exact zAl hz
 ·unfold zsF at hx
  repeat' split at hx
  all_goals first
   |(cases hx;done)
   |(simp only [zNn,Prod.mk.injEq] at hx;obtain ⟨_,_,rfl⟩:=hx;rfl)
variable {P:Program} [Fast P] {ρ ρ':Rho} {nt:Nat} {tm:T AV} {a:Act} {w w0 w':World} {K:KS} {st st':St} {S:Nat→Prop} {F:Nat→Nat→Prop}
theorem zA0 {w w':World} {t:RT} {xs xs':List t.ty} {h:Hdr} {b o:Nat} (hb:h.1=some ⟨b,o,none⟩) (hw:w'.heap[b]? =w.heap[b]?) (hl:xs'.length=xs.length):∀{q:Path},zED q=true→hdrs w' q t xs' h=hdrs w q t xs h
 |[],_=>rfl
 |[(i,j)],_=>by
  obtain ⟨A,m,c⟩:=h;simp only at hb;subst hb;simp only [hdrs];cases e:xs[i]? with
  |none=>
   have:xs'[i]? =none:=List.getElem?_eq_none (by rw [hl];exact List.getElem?_eq_none_iff.1 e)
   rw [this]
  |some x=>
   have hi:=(zNa.1 e).1;obtain ⟨x',e'⟩:∃x',xs'[i]? =some x':=⟨_,zNg (by rw [hl];exact hi)⟩
   rw [e'];simp only;have hc:w'.cell? ⟨b,o+i*t.size+j,none⟩=w.cell? ⟨b,o+i*t.size+j,none⟩:=zer hw _ rfl;have he:((t.leaves x)[j]?).map Leaf.elem=((t.leaves x')[j]?).map Leaf.elem:=by
    have:=congrArg (fun z=>z[j]?) ((zb1 t x).trans (zb1 t x').symm);simpa only [List.getElem?_map] using this
   cases e1:(t.leaves x)[j]? with
   |none=>
    rw [e1] at he;cases e2:(t.leaves x')[j]? with
    |none=>rfl
    |some lf=>rw [e2] at he;cases he
   |some lf=>
    rw [e1] at he;cases e2:(t.leaves x')[j]? with
    |none=>rw [e2] at he;cases he
    |some lf'=>
     rw [e2] at he;simp only [Option.map_some,zNn] at he;cases lf<;>cases lf'<;>first|rfl|(cases he;done)|skip
     simp only [hc]
def zJB (st:St) (kv:Nat):Nat:=match st.h.get kv with
 |some bk=>match bk.op,zu bk.cells with
  |some 0, .verp k=>k
  |_,_=>kv
 |none=>kv
theorem zDK (hs:SimF K w0 ρ S F st w) {kv y:Nat} {d:Cap} (h:ρ kv=some (y,d)):∃y' d',ρ (zJB st kv)=some (y',d')∧∀q,zED q=true→d.hd q=d'.hd q:=by
 unfold zJB;split
 ·rename_i bk hb;split
  ·rename_i k hop hk;obtain ⟨x,c,e,hB,_⟩:=hs.blk kv bk hb;rw [h] at e;obtain ⟨rfl,rfl⟩:=zNb (zM8 e);have h2:=hB.2 hop;rw [hk] at h2;obtain ⟨_,y',d',e',h3⟩:=h2;exact ⟨y',d',e',h3⟩
  ·exact ⟨y,d,h,fun _ _=>rfl⟩
 ·exact ⟨y,d,h,fun _ _=>rfl⟩
def zqz (P:Program) [Fast P] (t:TypeId) (x y:AV) (st:St):Option (MP×St):=match x with
 | .ep i k p sz idx cell=>match st.wr i,st.h.get i,zeg P t with
   |true,some bk,some n=>match bk.op,zu bk.cells with
    |some 0, .tree ow rt xs kv=>match ow with
     | .dc ii l=>match ze1 k kv p&&(Nat.beq (sub p rt xs).1.size sz&&(y.flat&&(Nat.beq y.cells.length n&&(Nat.beq n 1&&Nat.blt cell sz)))) with
       |true=>match zcz st false (sub p rt xs).1 cell ((((sub p rt xs).1.leaves ((sub p rt xs).2.getD idx (sub p rt xs).1.dflt)).drop cell).take n) y.cells with
        |some ks=>match zur (zcf idx cell (zcT ks)) p rt xs,zcA (i::(zk ks++zh ks)) with
         |some xs',true=>match p with
          |[]=>some (⟨idx=ii,inferInstance⟩,⟨((zaz st.h (zk ks++zh ks)).set st.n ⟨0,[.ver],some 0⟩).set i ⟨bk.ty,[.tre (.dc ii (cell::l)) rt xs' st.n],some 0⟩,Nat.succ st.n,st.wr⟩)
          |[(e,j)]=>match zH3 j l&& !shT rt j with
           |true=>some (⟨e=ii,inferInstance⟩,⟨((zaz st.h (zk ks++zh ks)).set st.n ⟨0,[.ver, .ptr (zJB st kv) 0, .ver],some 0⟩).set i ⟨bk.ty,[.tre (.dc ii l) rt xs' st.n],some 0⟩,Nat.succ st.n,st.wr⟩)
           |false=>none
          |_=>none
         |_,_=>none
        |none=>none
       |false=>none
     |_=>none
    |_,_=>none
   |_,_,_=>none
 |_=>none
theorem DcR.put {M R H:Nat→Prop} {ii:Nat} {l:List Nat} {t:RT} {xs:List t.ty} {b c:Nat} {T:TypeId} {cs:Array Value} {Fi F':Nat→Prop} {G:Nat→Nat→Nat→Prop} {cell:Nat} {u:Value} {lf:Leaf} {y':t.ty}
  (h2:xs.length≤c) (h3:xs.length≤maxLen) (h4:Fi b) (h6:cs.size=c*t.size) (h7:∀e j y,G e j y→Fi y∧y≠b) (h8:∀e j e' j' y,G e j y→G e' j' y→e=e'∧j=j')
  (h9:∀(e:Nat) (x:t.ty),xs[e]? =some x→∀(j:Nat) (lf:Leaf),(t.leaves x)[j]? =some lf→
   (e<ii∨(e=ii∧j∈l)→LfO w S lf (fun q=>owT t ((e,j)::q)) (G e j) (cs.getD (e*t.size+j) undef))∧LfO w S lf (fun q=>owT t ((e,j)::q)) (fun y=>G e j y∨M y) (cs.getD (e*t.size+j) undef))
  (hi:ii<xs.length) (hc:cell<t.size) (hy:t.leaves y'=splice (t.leaves (xs.getD ii t.dflt)) cell [lf])
  (hb':Blk w' b T (splice cs.toList (ii*t.size+cell) [u]).toArray) (hF':∀y,Fi y∨H y→F' y) (hH:∀y,H y→¬Fi y) (hk:∀y,Fi y→y≠b→w'.heap[y]? =w.heap[y]?) (hkS:∀y,S y→w'.heap[y]? =w.heap[y]?) (hkM:∀y,M y→w'.heap[y]? =w.heap[y]?)
  (hu:LfO w' (fun y=>S y∨R y) lf (fun q=>owT t ((ii,cell)::q)) H u):
  DcR w' (fun y=>S y∨R y) M F' ii (cell::l) t (xs.set ii y') (.slice (some ⟨b,0,none⟩) xs.length c):=by
 have hll:(t.leaves (xs.getD ii t.dflt)).length=t.size:=RT.leaves_len _ _;have hroom:ii*t.size+cell+1≤cs.size:=by
  rw [h6]
  calc ii*t.size+cell+1≤ii*t.size+t.size:=by omega
   _=(ii+1)*t.size:=by rw [zNr,Nat.one_mul]
   _≤c*t.size:=zNe _ (by omega)
 have hsz:(splice cs.toList (ii*t.size+cell) [u]).toArray.size=cs.size:=by rw [List.size_toArray,zam (by simpa using hroom),Array.length_toList]
 have hat:∀q,q≠ii*t.size+cell→(splice cs.toList (ii*t.size+cell) [u]).toArray.getD q undef=cs.getD q undef:=fun q hq=>by
  have:=zaO (l:=cs.toList) (m:=[u]) (k:=ii*t.size+cell) (j:=q) (by simpa using hroom) (by simp only [List.length_singleton];omega)
  rw [Array.getD_eq_getD_getElem?,Array.getD_eq_getD_getElem?,List.getElem?_toArray,this,Array.getElem?_toList]
 have hin:(splice cs.toList (ii*t.size+cell) [u]).toArray.getD (ii*t.size+cell) undef=u:=by
  have:=zcP (l:=cs.toList) (m:=[u]) (k:=ii*t.size+cell) (q:=0) (by simpa using hroom) (by simp)
  rw [Array.getD_eq_getD_getElem?,List.getElem?_toArray];simp only [Nat.add_zero] at this;rw [this];rfl
 refine .inr ⟨c,b,T,_,fun e j=>if e=ii∧j=cell then H else G e j,by rw [List.length_set],by rw [List.length_set];exact h2,by rw [List.length_set];exact h3,hF' b (.inl h4),hb',by rw [hsz,h6],fun e j y hy=>?_,fun e j e' j' y hy hy'=>?_,fun e x hx j lf' hj=>?_⟩
 ·simp only at hy;split at hy
  ·exact ⟨hF' y (.inr hy),fun e0=>hH y hy (e0▸h4)⟩
  ·exact ⟨hF' y (.inl (h7 e j y hy).1),(h7 e j y hy).2⟩
 ·simp only at hy hy';split at hy
  ·rename_i e1;split at hy'
   ·rename_i e2;exact ⟨e1.1.trans e2.1.symm,e1.2.trans e2.2.symm⟩
   ·exact absurd (h7 _ _ _ hy').1 (hH y hy)
  ·split at hy'
   ·exact absurd (h7 _ _ _ hy).1 (hH y hy')
   ·exact h8 _ _ _ _ y hy hy'
 ·have old:∀{x0:t.ty},xs[e]? =some x0→(t.leaves x0)[j]? =some lf'→¬(e=ii∧j=cell)→j<t.size→
    (e<ii∨(e=ii∧j∈cell::l)→LfO w' (fun y=>S y∨R y) lf' (fun q=>owT t ((e,j)::q)) (if e=ii∧j=cell then H else G e j) ((splice cs.toList (ii*t.size+cell) [u]).toArray.getD (e*t.size+j) undef))∧
    LfO w' (fun y=>S y∨R y) lf' (fun q=>owT t ((e,j)::q)) (fun y=>(if e=ii∧j=cell then H else G e j) y∨M y) ((splice cs.toList (ii*t.size+cell) [u]).toArray.getD (e*t.size+j) undef):=by
   intro x0 hx0 hj0 hne hjs;have hq:e*t.size+j≠ii*t.size+cell:=fun e0=>hne (by
    rcases Nat.lt_trichotomy e ii with h|h|h
    ·have:(e+1)*t.size≤ii*t.size:=zNe _ h;rw [zNr,Nat.one_mul] at this;omega
    ·subst h;exact ⟨rfl,by omega⟩
    ·have:(ii+1)*t.size≤e*t.size:=zNe _ h;rw [zNr,Nat.one_mul] at this;omega)
   rw [hat _ hq,if_neg hne];obtain ⟨g1,g2⟩:=h9 e x0 hx0 j lf' hj0;refine ⟨fun hd=>?_,?_⟩
   ·have hd':e<ii∨(e=ii∧j∈l):=by
     rcases hd with hd|⟨hd1,hd2⟩
     ·exact .inl hd
     ·rcases List.mem_cons.1 hd2 with e0|h0
      ·exact absurd ⟨hd1,e0⟩ hne
      ·exact .inr ⟨hd1,h0⟩
    exact (g1 hd').keep (fun y hy _=>hk y (h7 e j y hy).1 (h7 e j y hy).2) (fun y hy=> .inl hy) fun y hy _=>hkS y hy
   ·exact g2.keep (fun y hy _=>hy.elim (fun hy=>hk y (h7 e j y hy).1 (h7 e j y hy).2) (hkM y)) (fun y hy=> .inl hy) fun y hy _=>hkS y hy
  have hjs:j<t.size:=by have:=(zNa.1 hj).1;rwa [RT.leaves_len] at this
  rw [List.getElem?_set] at hx;by_cases he:ii=e
  ·subst he;rw [if_pos rfl,if_pos hi] at hx;obtain rfl:=zM8 hx;by_cases hjc:j=cell
   ·subst hjc;rw [hy] at hj;have:=zcP (l:=t.leaves (xs.getD ii t.dflt)) (m:=[lf]) (k:=j) (q:=0) (by rw [hll,List.length_singleton];omega) (by simp)
    simp only [Nat.add_zero,List.getElem?_cons_zero] at this;rw [this] at hj;obtain rfl:=zM8 hj;simp only [true_and,if_true,hin];exact ⟨fun _=>hu,hu.wide fun y hy=> .inl hy⟩
   ·rw [hy,zaO (by rw [hll,List.length_singleton];omega) (by rw [List.length_singleton];omega)] at hj
    have hx0:xs[ii]? =some (xs.getD ii t.dflt):=by rw [List.getD_eq_getElem?_getD,zNg hi];rfl
    exact old hx0 hj (fun h=>hjc h.2) hjs
  ·rw [if_neg he] at hx;exact old hx hj (fun h=>he h.1.symm) hjs
theorem DcR.put2 {M R H:Nat→Prop} {ii:Nat} {l:List Nat} {t:RT} {xs:List t.ty} {b c:Nat} {T:TypeId} {cs:Array Value} {Fi F':Nat→Prop} {G:Nat→Nat→Nat→Prop} {cell:Nat} {lf:Leaf} {y':t.ty}
  (h2:xs.length≤c) (h3:xs.length≤maxLen) (h4:Fi b) (h5:Blk w b T cs) (h6:cs.size=c*t.size) (h7:∀e j y,G e j y→Fi y∧y≠b) (h8:∀e j e' j' y,G e j y→G e' j' y→e=e'∧j=j')
  (h9:∀(e:Nat) (x:t.ty),xs[e]? =some x→∀(j:Nat) (lf:Leaf),(t.leaves x)[j]? =some lf→
   (e<ii∨(e=ii∧j∈l)→LfO w S lf (fun q=>owT t ((e,j)::q)) (G e j) (cs.getD (e*t.size+j) undef))∧LfO w S lf (fun q=>owT t ((e,j)::q)) (fun y=>G e j y∨M y) (cs.getD (e*t.size+j) undef))
  (hi:ii<xs.length) (hc:cell<t.size) (hcl:cell∈l) (hy:t.leaves y'=splice (t.leaves (xs.getD ii t.dflt)) cell [lf])
  (hF':∀y,Fi y∨H y→F' y) (hH:∀y,H y→¬Fi y) (hk:∀y,Fi y→¬G ii cell y→w'.heap[y]? =w.heap[y]?) (hkS:∀y,S y→w'.heap[y]? =w.heap[y]?) (hkM:∀y,M y→w'.heap[y]? =w.heap[y]?)
  (hu:LfO w' (fun y=>S y∨R y) lf (fun q=>owT t ((ii,cell)::q)) (fun y=>G ii cell y∨H y) (cs.getD (ii*t.size+cell) undef)):
  DcR w' (fun y=>S y∨R y) M F' ii l t (xs.set ii y') (.slice (some ⟨b,0,none⟩) xs.length c):=by
 have hll:(t.leaves (xs.getD ii t.dflt)).length=t.size:=RT.leaves_len _ _;refine .inr ⟨c,b,T,cs,fun e j y=>if e=ii∧j=cell then G e j y∨H y else G e j y,by rw [List.length_set],by rw [List.length_set];exact h2,by rw [List.length_set];exact h3,hF' b (.inl h4),h5.same (hk b h4 fun hg=>(h7 _ _ _ hg).2 rfl),h6,fun e j y hy=>?_,fun e j e' j' y hy hy'=>?_,fun e x hx j lf' hj=>?_⟩
 ·simp only at hy;have a1:∀{y},G e j y→F' y∧y≠b:=fun hy=>⟨hF' _ (.inl (h7 e j _ hy).1),(h7 e j _ hy).2⟩;split at hy
  ·rcases hy with hy|hy
   ·exact a1 hy
   ·exact ⟨hF' y (.inr hy),fun e0=>hH y hy (e0▸h4)⟩
  ·exact a1 hy
 ·simp only at hy hy';split at hy
  ·rename_i e1;split at hy'
   ·rename_i e2;exact ⟨e1.1.trans e2.1.symm,e1.2.trans e2.2.symm⟩
   ·rcases hy with hy|hy
    ·exact h8 _ _ _ _ y hy hy'
    ·exact absurd (h7 _ _ _ hy').1 (hH y hy)
  ·split at hy'
   ·rcases hy' with hy'|hy'
    ·exact h8 _ _ _ _ y hy hy'
    ·exact absurd (h7 _ _ _ hy).1 (hH y hy')
   ·exact h8 _ _ _ _ y hy hy'
 ·have old:∀{x0:t.ty},xs[e]? =some x0→(t.leaves x0)[j]? =some lf'→¬(e=ii∧j=cell)→
    (e<ii∨(e=ii∧j∈l)→LfO w' (fun y=>S y∨R y) lf' (fun q=>owT t ((e,j)::q)) (fun y=>if e=ii∧j=cell then G e j y∨H y else G e j y) (cs.getD (e*t.size+j) undef))∧
    LfO w' (fun y=>S y∨R y) lf' (fun q=>owT t ((e,j)::q)) (fun y=>(if e=ii∧j=cell then G e j y∨H y else G e j y)∨M y) (cs.getD (e*t.size+j) undef):=by
   intro x0 hx0 hj0 hne;simp only [if_neg hne];obtain ⟨g1,g2⟩:=h9 e x0 hx0 j lf' hj0;have kp:∀y,G e j y→w'.heap[y]? =w.heap[y]? :=fun y hy=>hk y (h7 e j y hy).1 fun hg=>hne (h8 _ _ _ _ y hy hg);exact ⟨fun hd=>(g1 hd).keep (fun y hy _=>kp y hy) (fun y hy=> .inl hy) fun y hy _=>hkS y hy,g2.keep (fun y hy _=>hy.elim (kp y) (hkM y)) (fun y hy=> .inl hy) fun y hy _=>hkS y hy⟩
  rw [List.getElem?_set] at hx;by_cases he:ii=e
  ·subst he;rw [if_pos rfl,if_pos hi] at hx;obtain rfl:=zM8 hx;by_cases hjc:j=cell
   ·subst hjc;rw [hy] at hj;have:=zcP (l:=t.leaves (xs.getD ii t.dflt)) (m:=[lf]) (k:=j) (q:=0) (by rw [hll,List.length_singleton];omega) (by simp)
    simp only [Nat.add_zero,List.getElem?_cons_zero] at this;rw [this] at hj;obtain rfl:=zM8 hj;simp only [and_self,if_true];exact ⟨fun _=>hu,hu.wide fun y hy=> .inl hy⟩
   ·rw [hy,zaO (by rw [hll,List.length_singleton];omega) (by rw [List.length_singleton];omega)] at hj
    have hx0:xs[ii]? =some (xs.getD ii t.dflt):=by rw [List.getD_eq_getElem?_getD,zNg hi];rfl
    exact old hx0 hj fun h=>hjc h.2
  ·rw [if_neg he] at hx;exact old hx hj fun h=>he h.1.symm
theorem zEX {e j:Nat} {rt:RT} {xs:List rt.ty} {u:RT} {l':List u.ty} (h:zpb (rt.leaves (xs.getD e rt.dflt)) j= .list u l'):sub [(e,j)] rt xs=⟨u,l'⟩:=by rw [sub,h];rfl
theorem zB1 {o:Oper} {t:TypeId} {x y:Operand} {pp:MP} (ho:o.op= .store t x y) (h:TR ρ nt tm a) (hs:Sim K w0 ρ st w) (hf:zqz P t (ev tm x) (ev tm y) st=some (pp,st')) (hpp:pp.p):
  ∃w' ρ',(execOp a.eval o).run P w= .ok .skip w'∧Ext st.n st'.n ρ ρ'∧Sim K w0 ρ' st' w':=by
 have hdx:=h.ev x;have hdy:=h.ev y;generalize ev tm y=yv at hdy hf;unfold zqz at hf;split at hf
 case h_2=>cases hf
 rename_i i k p sz idx cell hx;rw [hx] at hdx;simp only [den] at hdx;obtain ⟨g,hg,hlt,b,o',hgb,hav⟩:=hdx;split at hf
 case h_2=>cases hf
 rename_i bk n hwi hb hn;split at hf
 case h_2=>cases hf
 rename_i ow rt xs kv hop hkd;split at hf
 case h_2=>cases hf
 rename_i ii l;split at hf
 case h_2=>cases hf
 rename_i hcc;simp only [Bool.and_eq_true] at hcc;obtain ⟨c1,c3,c4,c5,c7,c6⟩:=hcc;have c3:=zM9 c3;have c5:=zM9 c5;have c7:=zM9 c7;have c6:cell<sz:=zNc c6;subst c3;subst c7;split at hf
 case h_2=>cases hf
 rename_i ks hks;split at hf
 case h_2=>cases hf
 rename_i xs' hxs' hap;obtain ⟨S,F,hs⟩:=hs;obtain ⟨x',c,hi,ht,hhd,hK⟩:=Sim.at_ hs hb hop hkd c1 hg;have hFS:∀y,F i y→¬S y:=fun y hy=>hs.sd i bk y hb hwi hy;have hFM:∀y,Mr ρ y→¬F i y:=fun y hy hF=>hK hwi y hF (hs.mk_ hy);have hrd0:=ht.rd;have hown:DcR w S (Mr ρ) (F i) ii l rt xs (zal x' c).val:=ht.own;have hsub:=znx hrd0 hhd;have hlen:=hsub.lenEq;have hidx:idx<(sub p rt xs).2.length:=by omega
 obtain ⟨hdc,h1⟩:=ziy hdy c4;generalize hus:(a.eval y).cells.toList=us at hdc h1;obtain ⟨k1,k2,k3⟩:=zhz hs hks hdc;have hul:=zL hdc;have hu1:us.length=1:=by omega
 obtain ⟨u,rfl⟩:∃u,us=[u]:=by
  match us,hu1 with
  |[u],_=>exact ⟨u,rfl⟩
 obtain ⟨kq,rfl⟩:∃kq,ks=[kq]:=by
  match ks,k2 with
  |[kq],_=>exact ⟨kq,rfl⟩
 obtain ⟨l1,lf0,l2,l3⟩:=k3 0 kq u rfl rfl;have hown1:zk [kq]=kq.own:=by simp [zk]
 have hrel1:zh [kq]=kq.rel:=by simp [zh]
 rw [hown1,hrel1] at hap hf;obtain ⟨ys',hys'⟩:=zjU hxs';obtain ⟨y',hy',rfl⟩:∃y',(sub p rt xs).1.build (splice ((sub p rt xs).1.leaves ((sub p rt xs).2.getD idx (sub p rt xs).1.dflt)) cell (zcT [kq]))=some y'∧ys'=(sub p rt xs).2.set idx y':=by
  have h2:=hys';unfold zcf at h2;split at h2
  ·rename_i y' hy';exact ⟨y',hy',(zM8 h2).symm⟩
  ·cases h2
 have hyl:=RT.build_ok hy';have hlfs:zcT [kq]=[kq.lf]:=rfl;rw [hlfs] at hyl;have hcLen:c.m=xs'.length:=by
  rw [ht.len,zl0 (f:=zcf idx cell (zcT [kq])) (fun u l l' h=>by
   unfold zcf at h;split at h
   ·obtain rfl:=zM8 h;simp
   ·cases h) hxs']
 have hl0:((sub p rt xs).1.leaves ((sub p rt xs).2.getD idx (sub p rt xs).1.dflt))[cell]? =some lf0:=by
  rw [List.getElem?_take] at l2;split at l2
  ·rw [List.getElem?_drop,Nat.add_zero] at l2;exact l2
  ·cases l2
 have how:ziK (false||shT (sub p rt xs).1 (cell+0)) kq.lf=(fun r=>owT (sub p rt xs).1 ((idx,cell)::r))∨kq.lf.elem=none:=by
  cases he:kq.lf.elem with
  |none=>exact .inr rfl
  |some t'=>
   refine .inl ?_;have hel:(sub p rt xs).1.elemAt cell=some t':=by
    rw [he] at l3;cases lf0 with
    |list u2 ll=>simp only [Leaf.elem,zNn] at l3;subst l3;exact zbo hl0
    |_=>cases l3
   funext r
   simp only [owT,ziK,hel,he,Bool.false_or,Nat.add_zero];cases shT (sub p rt xs).1 cell<;>rfl
 have hap':=List.nodup_cons.1 (zbm hap);have hap2:=zNq.1 hap'.2;have hoff:∀{l:List Nat},(∀j,j∈l→j≠i)→∀y,Gn F st l y→¬F i y:=fun {l} hl y hy hy'=>by
  obtain ⟨j,j1,j2,⟨bj,j3⟩,j4⟩:=hy;exact hs.sep j i bj bk y j3 hb (hl j j1) (.inl j2) j4 hy'
 have hH:∀y,Gn F st kq.own y→¬F i y:=hoff fun j hj e=>hap'.1 (by rw [←e];simp [hj])
 have hR:∀y,Gn F st kq.rel y→¬F i y:=hoff fun j hj e=>hap'.1 (by rw [←e];simp [hj])
 have fin:∀{w':World} {bw:Nat} {ow':Ow} {st2:St} (vb:List AV),(∀ρ2:Rho,ρ.le ρ2→KdR ρ2 w (fun y=>S y∨Gn F st kq.rel y) (fun _=>False) 0 ⟨0,0,none,fun p'=>hdrs w' p' rt xs' (zal x' c),fun _=>False⟩ ⟨0,vb,some 0⟩ (zu vb))→(execOp a.eval o).run P w= .ok .skip w'→Kp (fun y=>y<w.heap.size∧y≠bw) w w'→F i bw→OwnR w' (fun y=>S y∨Gn F st kq.rel y) (Mr ρ) (fun y=>F i y∨Gn F st kq.own y) ow' rt xs' (zal x' c).val→
   st2=⟨((zaz st.h (kq.own++kq.rel)).set st.n ⟨0,vb,some 0⟩).set i ⟨bk.ty,[.tre ow' rt xs' st.n],some 0⟩,Nat.succ st.n,st.wr⟩→∃w' ρ',(execOp a.eval o).run P w= .ok .skip w'∧Ext st.n st2.n ρ ρ'∧Sim K w0 ρ' st2 w':=by
  intro w' bw ow' st2 vb hvb hex hkp hFb hd e;subst e;have hkF:Kp (fun y=>y<w.heap.size∧¬F i y) w w':=hkp.mono fun y hy=>⟨hy.1,fun e=>hy.2 (e▸hFb)⟩;have s1:=hs.give kq.own kq.rel;obtain ⟨s2,e2⟩:=s1.nameG (Kp.refl _ w) (fun _ _ _ _ _=>rfl) (fun _ _=>rfl) ⟨0,vb,some 0⟩ 0 ⟨0,0,none,fun p'=>hdrs w' p' rt xs' (zal x' c),fun _=>False⟩ (fun _=>False) ⟨fun e=>absurd rfl e,fun _=>hvb _ (Rho.le_up (show ρ st.n=none from Sim.fresh ⟨S,F,hs⟩))⟩ (fun y hy=>hy.elim);have hin:i<st.n:=hs.dom i (by rw [hi];simp)
  have hbi:((zaz st.h (kq.own++kq.rel)).set st.n ⟨0,vb,some 0⟩).get i=some bk:=by
   rw [Go.Proofs.YtiepllpgifnloaaGreat.Vx.T.get_put,if_neg (by omega),zg0 hap'.1];exact hb
  have hFi2:Fup F st.n (fun _=>False) i=F i:=zap (by omega)
  refine ⟨w',_,hex,e2,_,_,s2.write2 i hbi hwi (e2.le _ _ hi) _ w' (fun y=>F i y∨Gn F st kq.own y) (fun y hy=>?_) (by rw [hFi2];exact hkF) ⟨fun e=>absurd rfl e,fun _=>?_⟩⟩
  ·rcases hy with hy|hy
   ·exact .inl (by rw [hFi2];exact hy)
   ·refine .inr (.inr ⟨(hy.lt hs).2.1,fun hS=>?_,fun j bj hj hyj=>?_⟩)
    ·rcases hS with hS|hS
     ·exact (hy.lt hs).2.2 hS
     ·refine Gn.apart hs (fun q h1 h2=>?_) hy hS;exact hap2.2.2 q h1 q h2 rfl
    ·rw [Go.Proofs.YtiepllpgifnloaaGreat.Vx.T.get_put] at hj;by_cases hjn:j=st.n
     ·rw [hjn,zV] at hyj;exact hyj
     ·rw [if_neg hjn] at hj;rw [zap hjn] at hyj;obtain ⟨h3,h4⟩:=za2 hj;obtain ⟨q,q1,q2,⟨bq,q3⟩,q4⟩:=hy;exact hs.sep q j bq bj y q3 h3 (fun e=>h4 (by rw [←e];simp [q1])) (.inl q2) q4 hyj
  ·refine ⟨hcLen,hd.more fun y hy=>hy.mono e2.le,fun y hy=>?_,0,⟨0,0,none,fun p'=>hdrs w' p' rt xs' (zal x' c),fun _=>False⟩,by simp [Rho.up],rfl⟩
   rcases hy with hy|hy
   ·exact zNd (ht.lt y hy) hkp.size
   ·exact zNd (hy.lt hs).1 hkp.size
 have world:∀{T:TypeId} {cs:Array Value},F i b→o'=0→Blk w b T cs→idx*(sub p rt xs).1.size+cell+1≤cs.size→∃w',(execOp a.eval o).run P w= .ok .skip w'∧Kp (fun y=>y<w.heap.size∧y≠b) w w'∧Blk w' b T (splice cs.toList (idx*(sub p rt xs).1.size+cell) [u]).toArray:=by
  intro T cs hFb ho' hblk hroom;subst ho';have hrun:=zcs P b (idx*(sub p rt xs).1.size+cell) T [u] 0 cs w hblk (by simp only [List.length_singleton];omega) h1
  simp only [Nat.add_zero] at hrun;have hspl:cs.toList.take (idx*(sub p rt xs).1.size+cell)++[u]++cs.toList.drop (idx*(sub p rt xs).1.size+cell+[u].length)=splice cs.toList (idx*(sub p rt xs).1.size+cell) [u]:=rfl;rw [hspl] at hrun;have hkp:=Kp.setRow w b (splice cs.toList (idx*(sub p rt xs).1.size+cell) [u]).toArray;have hblk':Blk (w.setRow b (splice cs.toList (idx*(sub p rt xs).1.size+cell) [u]).toArray) b T (splice cs.toList (idx*(sub p rt xs).1.size+cell) [u]).toArray:=hblk.setRow _ (by rw [List.size_toArray,zam (by simpa using hroom),Array.length_toList])
  refine ⟨_,?_,hkp,hblk'⟩;have hsz:(a.eval y).cells.size=1:=by rw [show (1:Nat)=[u].length from rfl, ←hus];simp
  rw [←hus] at hrun;unfold execOp;simp [ho,hav,Instr.storeAt,Instr.sureAddr,Sem.run_bind,storeVar,zaa hn,hsz,hrun];rw [hus]
 have keepLeaf:∀{w':World} {bw:Nat},Kp (fun y=>y<w.heap.size∧y≠bw) w w'→F i bw→LfO w' (fun y=>S y∨Gn F st kq.rel y) kq.lf (fun r=>owT (sub p rt xs).1 ((idx,cell)::r)) (Gn F st kq.own) u:=by
  intro w' bw hkp hFb;have hkb:∀y,y<w.heap.size→¬F i y→w'.heap[y]? =w.heap[y]? :=fun y h1 h2=>hkp.block y ⟨h1,fun e=>h2 (e▸hFb)⟩;have l4:=l1.keep (w':=w') (fun y hy _=>hkb y (hy.lt hs).1 (hH y hy)) (fun _ h=>h) (fun y hy _=>hy.elim (fun hy=>hkb y (hs.sl y hy) fun e=>hFS y e hy) (fun hy=>hkb y (hy.lt hs).1 (hR y hy)));rcases how with e|e
  ·rw [e] at l4;exact l4
  ·exact l4.scal e
 rcases hown with ⟨rfl,_⟩|⟨cc,b0,T,cs,G,hv,h2,h3,h4,h5,h6,h7,h8,h9⟩
 ·exfalso;cases p with
  |nil=>simp [sub] at hidx
  |cons e p=>
   obtain ⟨e,j⟩:=e;simp only [hdrs] at hhd;split at hhd
   ·rename_i hx0;simp at hx0
   ·cases hhd
 simp only [Hdr.val,zal,Value.slice.injEq] at hv;obtain ⟨hv1,hv2,hv3⟩:=hv;have hroot:(zal x' c).val= .slice (some ⟨b0,0,none⟩) xs.length cc:=by simp only [Hdr.val,zal,hv1,hv2,hv3]
 split at hf
 ·
  obtain ⟨rfl,rfl⟩:=zNb (zM8 hf);have hpp:idx=ii:=hpp;subst hpp;obtain rfl:zal x' c=g:=zM8 hhd;have hgb':some (⟨b0,0,none⟩:Addr)=some ⟨b,o',none⟩:=by rw [←hv1];exact hgb
  simp only [zNn,Addr.mk.injEq,and_true] at hgb';obtain ⟨rfl,rfl⟩:=hgb';have hidx:idx<xs.length:=hidx;have c6:cell<rt.size:=c6;have hroom:idx*rt.size+cell+1≤cs.size:=by
   rw [h6]
   calc idx*rt.size+cell+1≤idx*rt.size+rt.size:=by omega
    _=(idx+1)*rt.size:=by rw [zNr,Nat.one_mul]
    _≤cc*rt.size:=zNe _ (by omega)
  obtain ⟨w',hex,hkp,hblk'⟩:=world h4 rfl h5 hroom;obtain rfl:xs.set idx y'=xs':=zM8 (hys'.symm.trans hxs');refine fin (ow':= .dc idx (cell::l)) [.ver] (fun _ _=>fun _ h=>h) hex hkp h4 ?_ rfl;show DcR w' _ _ _ idx (cell::l) rt _ _;rw [hroot];exact DcR.put h2 h3 h4 h6 h7 h8 h9 hidx c6 hyl hblk' (fun y hy=>hy) hH (fun y hy hne=>hkp.block y ⟨ht.lt y hy,hne⟩) (fun y hy=>hkp.block y ⟨hs.sl y hy,fun e=>hFS b0 h4 (e▸hy)⟩) (fun y hy=>hkp.block y ⟨hs.ltw y (hs.mk_ hy),fun e=>hFM y hy (e▸h4)⟩) (keepLeaf hkp h4)
 ·
  rename_i e j _;split at hf
  case h_2=>cases hf
  rename_i hjl;obtain ⟨rfl,rfl⟩:=zNb (zM8 hf);have hpp:e=ii:=hpp;subst hpp;simp only [Bool.and_eq_true,Bool.not_eq_true'] at hjl;have hjl1:j∈l:=zn3.1 hjl.1;have hhd0:=hhd;simp only [hdrs,zal,hv1] at hhd;split at hhd
  case h_2=>cases hhd
  rename_i b' o2 x0 hbo hx0;simp only [zNn,Addr.mk.injEq,and_true] at hbo;obtain ⟨rfl,rfl⟩:=hbo;split at hhd
  case h_2=>cases hhd
  rename_i t' l' hj;split at hhd
  case h_2=>cases hhd
  rename_i A2 m2 c2 hc2;obtain rfl:(A2,m2,c2)=g:=zM8 hhd;have hgd:xs.getD e rt.dflt=x0:=by rw [List.getD_eq_getElem?_getD,hx0];rfl
  have hsu:sub [(e,j)] rt xs=⟨t',l'⟩:=zEX (by rw [hgd];exact zc5 hj)
  have he:=(zNa.1 hx0).1;have hjs:=(zNa.1 hj).1;rw [RT.leaves_len] at hjs;have hlt2:e*rt.size+j<cs.size:=by
   rw [h6]
   calc e*rt.size+j<e*rt.size+rt.size:=by omega
    _=(e+1)*rt.size:=by rw [zNr,Nat.one_mul]
    _≤cc*rt.size:=zNe _ (by omega)
  rw [h5.cell,Nat.zero_add,zNi hlt2] at hc2;have hcell:cs.getD (e*rt.size+j) undef= .slice A2 m2 c2:=by rw [Array.getD_eq_getD_getElem?,zNi hlt2,Option.getD_some];exact zM8 hc2
  have g0:=(h9 e x0 hx0 j _ hj).1 (.inr ⟨rfl,hjl1⟩);rw [hcell] at g0;have hel:rt.elemAt j=some t':=zbo (x:=x0) hj;have hop0:(fun q=>owT rt ((e,j)::q)) []=true:=by
   show owT rt [(e,j)]=true;simp only [owT,hjl.2,hel]
  have hx1:∃x2 l2,xs'=xs.set e x2∧rt.build (zEp (rt.leaves (xs.getD e rt.dflt)) j (.list t' l2))=some x2∧zcf idx cell (zcT [kq]) t' l'=some l2:=by
   have h0:=hxs';rw [zur,hgd,zc5 hj] at h0;simp only [zur] at h0;split at h0
   ·rename_i l2 h1;split at h0
    ·rename_i x2 h2;exact ⟨x2,l2,(zM8 h0).symm,by rw [hgd];exact h2,h1⟩
    ·cases h0
   ·cases h0
  obtain ⟨x2,l3',rfl,hbd,hpr⟩:=hx1;clear hsub hrd0;generalize sub [(e,j)] rt xs=q at*;subst hsu;have hidx:idx<l'.length:=hidx;have c6:cell<t'.size:=c6;have hl2:l3'=l'.set idx y':=by
   have hy':t'.build (splice (t'.leaves (l'.getD idx t'.dflt)) cell (zcT [kq]))=some y':=hy';unfold zcf at hpr;rw [hy'] at hpr;exact (zM8 hpr).symm
  subst hl2;have hGS:∀y,G e j y→¬S y:=fun y hy=>hFS y (h7 _ _ _ hy).1;obtain ⟨b2,cs2,T2,Gi,hA,hGb,hblk2,hroom2,hGi,hGd,hold,hrow⟩:=LfO.row (h:=(A2,m2,c2)) g0 hop0 hidx hGS;rw [hgb] at hA;simp only [zNn,Addr.mk.injEq,and_true] at hA;obtain ⟨rfl,rfl⟩:=hA;have hFb:=(h7 _ _ _ hGb).1;obtain ⟨w',hex,hkp,hblk'⟩:=world hFb rfl hblk2 (by
   show idx*t'.size+cell+1≤cs2.size;rw [zNr,Nat.one_mul] at hroom2;omega)
  refine fin (ow':= .dc e l) [.ver, .ptr (zJB st kv) 0, .ver] (fun ρ2 hle=>?_) hex hkp hFb ?_ rfl
  ·obtain ⟨yk,dk,hk1,hk2⟩:=ht.hds;obtain ⟨y',d',hp1,hp2⟩:=zDK hs hk1;refine ⟨fun _ h=>h,y',d',hle _ _ hp1,fun q hq=>?_⟩;rw [←hp2 q hq,hk2];exact zA0 (h:=zal x' c) (by exact hv1) (hkp.block _ ⟨h5.lt,fun e0=>(h7 _ _ _ hGb).2 e0.symm⟩) (by simp) hq
  show DcR w' _ _ _ e l rt _ _;rw [hroot];refine DcR.put2 (cell:=j) (lf:= .list t' (l'.set idx y')) h2 h3 h4 h5 h6 h7 h8 h9 he hjs hjl1 ?_ (fun y hy=>hy) hH (fun y hy hn=>hkp.block y ⟨ht.lt y hy,fun e0=>hn (e0▸hGb)⟩) (fun y hy=>hkp.block y ⟨hs.sl y hy,fun e0=>hFS _ hFb (e0▸hy)⟩) (fun y hy=>hkp.block y ⟨hs.ltw y (hs.mk_ hy),fun e0=>hFM y hy (e0▸hFb)⟩) ?_
  ·rw [RT.build_ok hbd,zoe,List.set_eq_take_append_cons_drop,if_pos (by rw [RT.leaves_len];exact hjs)]
   simp [splice]
  ·rw [hcell];exact hrow w' (fun y=>S y∨Gn F st kq.rel y) (Gn F st kq.own) (fun q=>owT rt ((e,j)::q)) cell [u] [kq.lf] y' (fun q y=>q=0∧Gn F st kq.own y) rfl (by simp only [List.length_singleton];omega) hyl (fun q y hq=> .inl hq.2) (fun q q' y h1 h2=>h1.1.trans h2.1.symm) (fun y hy hG=>hH y hy (h7 _ _ _ hG).1) (fun y hy=> .inl hy) (fun _ _=>rfl) (fun y h1 h2 _=>hkp.block y ⟨h1,h2⟩) hblk' (fun q lf v hq hv=>by
    cases q with
    |succ q=>simp at hq
    |zero=>
     simp only [List.getElem?_cons_zero,zNn] at hq hv;subst hq;subst hv;have h5:=keepLeaf hkp hFb;have e5:(fun p=>owT rt ((e,j)::(idx,cell+0)::p))=fun r=>owT t' ((idx,cell)::r):=by
      funext r
      rw [owT,hjl.2,hel];rfl
     rw [e5];exact h5.wide fun y hy=>⟨rfl,hy⟩)
 ·cases hf
def zwU (P:Program) [Fast P] (t:TypeId) (x y:AV) (st:St):Option (MP×St):=match zwT P t x y st with
 |some r=>some r
 |none=>zqz P t x y st
theorem zER {o:Oper} {t:TypeId} {x y:Operand} {pp:MP} (ho:o.op= .store t x y) (h:TR ρ nt tm a) (hs:Sim K w0 ρ st w) (hf:zwU P t (ev tm x) (ev tm y) st=some (pp,st')) (hpp:pp.p):
  ∃w' ρ',(execOp a.eval o).run P w= .ok .skip w'∧Ext st.n st'.n ρ ρ'∧Sim K w0 ρ' st' w':=by
 unfold zwU at hf;split at hf
 ·rename_i hz;obtain rfl:=zM8 hf;exact zEP ho h hs hz hpp
 ·exact zB1 ho h hs hf hpp
theorem zB2 {t:TypeId} {x y:AV} {p:MP} (hst:zqz P t x y st=some (p,st')):st'.wr=st.wr:=by
 unfold zqz at hst;split at hst
 case h_2=>cases hst
 split at hst
 case h_2=>cases hst
 split at hst
 case h_2=>cases hst
 split at hst
 case h_2=>cases hst
 split at hst
 case h_2=>cases hst
 split at hst
 case h_2=>cases hst
 split at hst
 case h_2=>cases hst
 split at hst
 ·obtain ⟨rfl,rfl⟩:=zNb (zM8 hst);rfl
 ·split at hst
  ·obtain ⟨rfl,rfl⟩:=zNb (zM8 hst);rfl
  ·cases hst
 ·cases hst
theorem zES {t:TypeId} {x y:AV} {p:MP} (hst:zwU P t x y st=some (p,st')):st'.wr=st.wr:=by
 unfold zwU at hst;split at hst
 ·rename_i hz;obtain rfl:=zM8 hst;exact zEQ hz
 ·exact zB2 hst
variable {P:Program} [Fast P] {ρ ρ':Rho} {nt:Nat} {tm:T AV} {a:Act} {w w0 w':World} {K:KS} {st st':St} {S:Nat→Prop} {F:Nat→Nat→Prop}
def zCz (P:Program) [Fast P] (ts:Array TypeId) (args:List AV) (st:St):Option (AV×St):=match ts[0]?,args with
 |some t,[.lw i k p sz n,s]=>match p,zeo P t,st.wr i,st.h.get i with
  |[],some (.slice E),true,some bk=>match bk.op,zu bk.cells with
   |some 0, .tree ow rt xs kv=>match ow with
    | .all=>match zeg P E,zbO 5 st rt s with
      |some size,some ys=>match Nat.beq size rt.size&&(zgz size&&(Nat.beq sz rt.size&&zdX (rt.leaves rt.dflt))) with
       |true=>some (.lit (.int .i64 (Int.ofNat (Nat.min ys.length xs.length))),⟨st.h.set i ⟨bk.ty,[.tre .all rt (ys.take xs.length++xs.drop ys.length) kv],some 0⟩,st.n,st.wr⟩)
       |false=>none
      |_,_=>none
    |_=>none
   |_,_=>none
  |_,_,_,_=>none
 |_,_=>none
theorem zzr {w w':World} {S G F':Nat→Prop} {lf:Leaf} {v:Value} {ow:Path→Bool} (h:LfR w G lf v) (hf:lf.elem=none):LfO w' S lf ow F' v:=by
 cases h with
 |int k n=>exact .int ..
 |bool b=>exact .bool ..
 |str s=>exact .str ..
 |list=>cases hf
theorem zvd {w:World} {t:RT} {l:List t.ty} {h:Hdr} (hf:zdX (t.leaves t.dflt)=true):∀{e:Nat×Nat} {p:Path},hdrs w (e::p) t l h=none
 |(i,j),p=>by
  obtain ⟨A,m,c⟩:=h;simp only [hdrs];split
  ·rename_i x hx;split
   ·rename_i t' l' hj;have:=zg1 hf hj;cases this
   ·rfl
  ·rfl
theorem zFs {o:Oper} {args:Array Operand} {ts:Array TypeId} {v:AV} (ho:o.op= .call {callee:= .builtin .copy,args:=args,argTypes:=ts}) (h:TR ρ nt tm a) (hs:Sim K w0 ρ st w) (hf:zCz P ts (args.toList.map (ev tm)) st=some (v,st')):
  ∃u w',(execOp a.eval o).run P w= .ok (.value u) w'∧Ext st.n st'.n ρ ρ∧Sim K w0 ρ st' w'∧den ρ v u:=by
 have hd:=zbZ h args.toList;have hex:(execOp a.eval o).run P w=(builtin .copy ts o.type (args.map fun| .const _=>true|_=>false) (args.map a.eval)).run P w:=by
  unfold execOp;simp only [ho,resolve,Sem.run_bind,Sem.run_pure,Result.andThen_ok,invoke];rfl
 rw [hex];have hargs:args.map a.eval=(args.toList.map a.eval).toArray:=by rw [←Array.toList_map]
 rw [hargs];generalize args.toList.map a.eval=vs at hd;generalize args.toList.map (ev tm)=l at hd hf;generalize (args.map fun| .const _=>true|_=>false)=cs
 unfold zCz at hf;split at hf
 case h_2=>cases hf
 rename_i t i k p sz n s ht;simp only [dens] at hd;obtain ⟨du,_,rfl,hdu,su,_,rfl,hsu,rfl⟩:=hd;split at hf
 case h_2=>cases hf
 rename_i E bk hu hwi hb;split at hf
 case h_2=>cases hf
 rename_i ow rt xs kv hop hkd;split at hf
 case h_2=>cases hf
 split at hf
 case h_2=>cases hf
 rename_i size ys hsz hys;split at hf
 case h_2=>cases hf
 rename_i hc;obtain ⟨rfl,rfl⟩:=zNb (zM8 hf);simp only [Bool.and_eq_true] at hc;obtain ⟨c1,c2,c3,c4⟩:=hc;have c1:=zM9 c1;have c2:0<size:=zNc c2;subst c1;obtain ⟨S,F,hs⟩:=hs;simp only [den] at hdu;obtain ⟨g,hg,hlv,hgn⟩:=hdu;obtain ⟨x',c,hi,ht',hhd,hK⟩:=Sim.at_ (p:=[]) (k:=kv) hs hb hop hkd rfl (by
  obtain ⟨x,c,y,d,e1,e2,e3⟩:=hg;obtain ⟨x2,c2',e4,hB,_⟩:=hs.blk i bk hb;have hT:=hB.2 hop;rw [hkd] at hT;obtain ⟨yk,dk,hk1,_⟩:=TreeR.hds hT;exact ⟨x,c,yk,dk,e1,hk1,e3⟩)
 obtain rfl:zal x' c=g:=zM8 hhd;have hlen:c.m=xs.length:=ht'.len;have hnx:n=xs.length:=hgn.symm.trans hlen;obtain ⟨l1,l2,A',rfl,l3,l4⟩:=hlv;have eA:A'=c.A:=l3 rfl;subst eA;have hyr:=zep hs _ hys hsu;obtain ⟨B,cb,rfl,hcb,hmb⟩:=hyr.slice;obtain ⟨us,u1,u2,u3,u4⟩:=hyr.rows c2;have hown:LfO w S (.list rt xs) (owT rt) (F i) (zal x' c).val:=ht'.own;have fc:∀q,q≤ys.length→(Builtin.firstCells rt.size q (.slice B ys.length cb)).run P w= .ok (us.take (q*rt.size)).toArray w:=by
  intro q hq;rcases zNl ys.length with hm|hm
  ·obtain rfl:q=0:=by omega
   cases B with
   |none=>simp [Builtin.firstCells]
   |some ad=>
    have:=run_firstCells_some (P:=P) (w:=w) rt.size 0 ad ys.length cb [] (by simp) (by intro j v h;simp at h)
    simpa using this
  ·obtain ⟨b,o',rfl,hcell⟩:=u3 hm;refine run_firstCells_some (P:=P) (w:=w) rt.size q _ ys.length cb _ ?_ ?_
   ·rw [List.length_take,u1];have:q*rt.size≤ys.length*rt.size:=zNe _ hq;omega
   ·intro j v hj;rw [List.getElem?_take] at hj;split at hj
    ·rw [zaV];exact hcell j v hj
    ·cases hj
 have hrun:∀(w':World),(match c.A with|some ad=>(storeCells ad (us.take (Nat.min ys.length n*rt.size))).run P w= .ok () w'|none=>w'=w)→
   (builtin .copy ts o.type cs #[.slice c.A n ((zal x' c).2.2 - 0), .slice B ys.length cb]).run P w= .ok (.value (goInt (Nat.min ys.length n))) w':=by
  intro w' hst;have hle:Nat.min ys.length n≤ys.length:=Nat.min_le_left _ _;cases hA:c.A with
  |none=>
   rw [hA] at hst;subst hst;simp [builtin,Builtin.copy_,Sem.run_bind,ht,run_underlying (zn hu),Builtin.lenOf,zaa hsz,fc _ hle]
  |some ad=>
   rw [hA] at hst;simp [builtin,Builtin.copy_,Sem.run_bind,ht,run_underlying (zn hu),Builtin.lenOf,zaa hsz,fc _ hle,hst]
 have hval:den ρ (.lit (.int .i64 (Int.ofNat (Nat.min ys.length xs.length)))) (goInt (Nat.min ys.length n)):=by simp only [den,goInt,hnx];rfl
 have hlenz:(ys.take xs.length++xs.drop ys.length).length=xs.length:=by rw [zNo,List.length_take,List.length_drop];omega
 obtain ⟨yk,dk,hk1,hk2⟩:=ht'.hds;have fin:∀{w':World},(builtin .copy ts o.type cs #[.slice c.A n ((zal x' c).2.2 - 0), .slice B ys.length cb]).run P w= .ok (.value (goInt (Nat.min ys.length n))) w'→Kp (fun b=>b<w.heap.size∧¬F i b) w w'→
   LfO w' S (.list rt (ys.take xs.length++xs.drop ys.length)) (owT rt) (F i) (zal x' c).val→∃u w',(builtin .copy ts o.type cs #[.slice c.A n ((zal x' c).2.2 - 0), .slice B ys.length cb]).run P w= .ok (.value u) w'∧Ext st.n st.n ρ ρ∧
    Sim K w0 ρ ⟨st.h.set i ⟨bk.ty,[.tre .all rt (ys.take xs.length++xs.drop ys.length) kv],some 0⟩,st.n,st.wr⟩ w'∧den ρ (.lit (.int .i64 (Int.ofNat (Nat.min ys.length xs.length)))) u:=by
  intro w' hr hkp hl;refine ⟨_,w',hr, .refl _ ρ,⟨S,_,hs.write i hb hwi hi _ w' (F i) (fun y hy=> .inl hy) hkp ⟨fun e=>absurd rfl e,fun _=>?_⟩⟩,hval⟩;refine ⟨by rw [hlen,hlenz],hl,fun y hy=>zNd (ht'.lt y hy) hkp.size,yk,dk,hk1,?_⟩
  rw [hk2]
  funext q
  cases q with
  |nil=>rfl
  |cons e q=>rw [zvd c4,zvd c4]
 have hv0:(zal x' c).val= .slice c.A xs.length ((zal x' c).2.2):=by rw [←hlen];rfl
 rw [hv0] at hown fin;generalize hcp:(zal x' c).2.2=cp at hown fin hrun;rw [show (cp - 0:Nat)=cp from rfl] at hrun fin ⊢;generalize hcA:c.A=A at hown fin hrun ⊢;cases hown with
 |shr _ _ _ _ _ h0=>rw [zb3] at h0;cases h0
 |nil=>
  have hn0:n=0:=hnx;subst hn0;refine fin (hrun w ?_) (Kp.refl _ w) ?_
  ·cases A with
   |none=>rfl
   |some ad=>simp [storeCells]
  ·simp only [List.length_nil,List.take_zero,List.nil_append,List.drop_nil];exact .nil rt _ _ A (zb3 rt)
 |list _ _ _ _ _ b T cs' G _ g1 g2 gb gk gs gG gd gr=>
  have hkn:Nat.min ys.length n*rt.size≤us.length:=by rw [u1];exact zNe _ (Nat.min_le_left _ _)
  have hkc:Nat.min ys.length n*rt.size≤cs'.size:=by
   rw [gs];refine zNe _ (zNf (Nat.min_le_right _ _) ?_);omega
  generalize hq:us.take (Nat.min ys.length n*rt.size)=news at hrun;have hnl:news.length=Nat.min ys.length n*rt.size:=by rw [←hq,List.length_take];omega
  have hst:=zcs P b 0 T news 0 cs' w gk (by omega) (fun v hv=>u2 v (by rw [←hq] at hv;exact List.mem_of_mem_take hv))
  generalize harr:(cs'.toList.take (0+0)++news++cs'.toList.drop (0+0+news.length)).toArray=arr at hst;have hasz:arr.size=cs'.size:=by
   rw [←harr,List.size_toArray,zNo,zNo,List.length_take,List.length_drop,Array.length_toList];omega
  have hain:∀k,k<news.length→arr.getD k undef=news.getD k undef:=fun k hk=>by
   rw [←harr,Array.getD_eq_getD_getElem?,List.getElem?_toArray,List.getD_eq_getElem?_getD];congr 1;simp only [Nat.add_zero,List.take_zero,List.nil_append];rw [zNh hk]
  have haout:∀k,news.length≤k→arr.getD k undef=cs'.getD k undef:=fun k hk=>by
   rw [←harr,Array.getD_eq_getD_getElem?,List.getElem?_toArray,Array.getD_eq_getD_getElem?];congr 1;simp only [Nat.add_zero,List.take_zero,List.nil_append,Nat.zero_add];rw [zNp hk,List.getElem?_drop, ←Array.getElem?_toList];congr 1;omega
  have hblk':=gk.setRow arr hasz;have hkp:=Kp.setRow w b arr;generalize w.setRow b arr=w' at hst hblk' hkp;refine fin (hrun w' hst) (hkp.mono fun y hy=>⟨hy.1,fun e=>hy.2 (e▸gb)⟩) ?_;have hlv:Value.slice (some ⟨b,0,none⟩) xs.length cp= .slice (some ⟨b,0,none⟩) (ys.take xs.length++xs.drop ys.length).length cp:=by rw [hlenz]
  rw [hlv];refine .list rt _ (owT rt) _ cp b T _ (fun _ _ _=>False) (zb3 rt) (by rw [hlenz];exact g1) (by rw [hlenz];exact g2) gb hblk' ?_ (fun _ _ _ h=>h.elim) (fun _ _ _ _ _ h=>h.elim) fun e x hx j lf hj=>?_
  ·rw [hasz,gs]
  ·have hjs:j<rt.size:=by have:=(zNa.1 hj).1;rwa [RT.leaves_len] at this
   have hfl:=zg1 c4 hj;by_cases he:e<Nat.min ys.length n
   ·have hey:e<ys.length:=zNd he (Nat.min_le_left _ _);have hen:e<n:=zNd he (Nat.min_le_right _ _);have hxy:ys[e]? =some x:=by
     rw [zNh (by rw [List.length_take];omega),List.getElem?_take,if_pos (by omega)] at hx
     exact hx
    obtain ⟨v,hv,hr⟩:=u4 e x hxy j lf hj;have hlt:e*rt.size+j<news.length:=by
     rw [hnl]
     calc e*rt.size+j<e*rt.size+rt.size:=by omega
      _=(e+1)*rt.size:=by rw [zNr,Nat.one_mul]
      _≤_:=zNe _ he
    rw [hain _ hlt,List.getD_eq_getElem?_getD, ←hq,List.getElem?_take,if_pos (by rw [←hnl];exact hlt),hv]
    exact zzr hr hfl
   ·have hge:Nat.min ys.length n≤e:=Nat.le_of_not_lt he;have hel:=(zNa.1 hx).1;rw [hlenz] at hel;have hye:ys.length≤e:=by
     have hge':min ys.length n≤e:=hge;omega
    have hxx:xs[e]? =some x:=by
     rw [zNp (by rw [List.length_take];omega),List.getElem?_drop,List.length_take] at hx
     rw [←hx];congr 1;omega
    have hk:news.length≤e*rt.size+j:=by
     rw [hnl];exact zNf (zNe _ hge) (Nat.le_add_right _ _)
    rw [haout _ hk];exact zzr (gr e x hxx j lf hj).rd hfl
theorem zFt {ts:Array TypeId} {args:List AV} {v:AV} (hf:zCz P ts args st=some (v,st')):st'.wr=st.wr:=by
 unfold zCz at hf
 repeat' split at hf
 all_goals first
  |(cases hf;done)
  |(obtain ⟨rfl,rfl⟩:=zNb (zM8 hf);rfl)
def zbB.{u} {α:Sort u}:Nat→(Nat→α)→α
 |0,k=>k 0
 |n+1,k=>k (Nat.succ n)
theorem za3.{u} {α:Sort u}:∀(n:Nat) (k:Nat→α),zbB n k=k n
 |0,_=>rfl
 |_+1,_=>rfl
def zrC.{u} {α:Sort u}:Path→(Path→α)→α
 |[],k=>k []
 |(i,j)::p,k=>zrC p fun p=>zbB j fun j=>k ((i,j)::p)
theorem zk1.{u} {α:Sort u}:∀(p:Path) (k:Path→α),zrC p k=k p
 |[],_=>rfl
 |(i,j)::p,k=>by simp only [zrC,za3,zk1 p]
mutual
def zcC.{u} {α:Sort u}:AV→(AV→α)→α
 | .lit (.int kd n),k=>k (.lit (.int kd n))
 | .lit (.bool b),k=>k (.lit (.bool b))
 | .lit (.string s),k=>k (.lit (.string s))
 | .lit v,k=>k (.lit v)
 | .ptr b o,k=>zbB b fun b=>zbB o fun o=>k (.ptr b o)
 | .sl b o l c op,k=>zbB b fun b=>zbB o fun o=>zbB l fun l=>zbB c fun c=>k (.sl b o l c op)
 | .mp b,k=>zbB b fun b=>k (.mp b)
 | .fn f l,k=>forceAs l fun l=>k (.fn f l)
 | .bm f l,k=>forceAs l fun l=>k (.bm f l)
 | .agg l,k=>forceAs l fun l=>k (.agg l)
 | .tup l,k=>forceAs l fun l=>k (.tup l)
 | .lv i j p sz lo n,k=>zbB i fun i=>zbB j fun j=>zrC p fun p=>zbB sz fun sz=>k (.lv i j p sz lo n)
 | .lw i j p sz n,k=>zbB i fun i=>zbB j fun j=>zrC p fun p=>zbB sz fun sz=>k (.lw i j p sz n)
 | .ep i j p sz lo n,k=>zbB i fun i=>zbB j fun j=>zrC p fun p=>zbB sz fun sz=>zbB n fun n=>k (.ep i j p sz lo n)
 | .tre own t xs n,k=>zbB n fun n=>k (.tre own t xs n)
 |v,k=>k v
def forceAs.{u} {α:Sort u}:List AV→(List AV→α)→α
 |[],k=>k []
 |a::l,k=>zcC a fun a=>forceAs l fun l=>k (a::l)
end
mutual
theorem zkZ.{u} {α:Sort u}:∀(v:AV) (k:AV→α),zcC v k=k v
 | .lit v,k=>by cases v<;>simp only [zcC]
 | .ptr b o,k=>by simp only [zcC,za3]
 | .sl b o l c op,k=>by simp only [zcC,za3]
 | .mp b,k=>by simp only [zcC,za3]
 | .fn f l,k=>by simp only [zcC,forceAs_eq l]
 | .bm f l,k=>by simp only [zcC,forceAs_eq l]
 | .agg l,k=>by simp only [zcC,forceAs_eq l]
 | .tup l,k=>by simp only [zcC,forceAs_eq l]
 | .lv ..,k=>by simp only [zcC,za3,zk1]
 | .lw ..,k=>by simp only [zcC,za3,zk1]
 | .emz,k=>by simp only [zcC]
 | .ep ..,k=>by simp only [zcC,za3,zk1]
 | .tre ..,k=>by simp only [zcC,za3]
 | .sint ..,k=>by simp only [zcC]
 | .sbool ..,k=>by simp only [zcC]
 | .sstr ..,k=>by simp only [zcC]
 | .emp,k=>by simp only [zcC]
 | .ver,k=>by simp only [zcC]
 | .dead,k=>by simp only [zcC]
theorem forceAs_eq.{u} {α:Sort u}:∀(l:List AV) (k:List AV→α),forceAs l k=k l
 |[],k=>by simp only [forceAs]
 |a::l,k=>by simp only [forceAs,zkZ a,forceAs_eq l]
end
def zCW.{u} {α:Sort u}:Option Nat→(Option Nat→α)→α
 |none,k=>k none
 |some n,k=>zbB n fun n=>k (some n)
theorem zu7.{u} {α:Sort u}:∀(o:Option Nat) (k:Option Nat→α),zCW o k=k o
 |none,_=>rfl
 |some n,k=>za3 n _
def zu5.{u} {α:Sort u}:Bk→(Bk→α)→α
 |⟨t,c,o⟩,k=>zbB t fun t=>forceAs c fun c=>zCW o fun o=>k ⟨t,c,o⟩
theorem zoP.{u} {α:Sort u} (b:Bk) (k:Bk→α):zu5 b k=k b:=by
 cases b;simp only [zu5,za3,forceAs_eq,zu7]
def zg4.{u} {α:Sort u}:T AV→(T AV→α)→α
 | .e,k=>k .e
 | .n none l r,k=>zg4 l fun l=>zg4 r fun r=>k (.n none l r)
 | .n (some v) l r,k=>zcC v fun v=>zg4 l fun l=>zg4 r fun r=>k (.n (some v) l r)
theorem zdt.{u} {α:Sort u}:∀(t:T AV) (k:T AV→α),zg4 t k=k t
 | .e,k=>by simp only [zg4]
 | .n none l r,k=>by simp only [zg4,zdt l,zdt r]
 | .n (some v) l r,k=>by simp only [zg4,zdt l,zdt r,zkZ]
def zk0.{u} {α:Sort u}:T Bk→(T Bk→α)→α
 | .e,k=>k .e
 | .n none l r,k=>zk0 l fun l=>zk0 r fun r=>k (.n none l r)
 | .n (some v) l r,k=>zu5 v fun v=>zk0 l fun l=>zk0 r fun r=>k (.n (some v) l r)
theorem ziA.{u} {α:Sort u}:∀(t:T Bk) (k:T Bk→α),zk0 t k=k t
 | .e,k=>by simp only [zk0]
 | .n none l r,k=>by simp only [zk0,ziA l,ziA r]
 | .n (some v) l r,k=>by simp only [zk0,ziA l,ziA r,zoP]
def znl.{u} {α:Sort u} (st:St) (wr:Nat→Bool) (k:St→α):α:=zk0 st.h fun h=>zbB st.n fun n=>k ⟨h,n,wr⟩
theorem zg3.{u} {α:Sort u} (st:St) (wr:Nat→Bool) (hw:st.wr=wr) (k:St→α):znl st wr k=k st:=by
 subst hw;simp only [znl,ziA,za3]
def zir.{u} {α:Type} {β:Sort u} (v:Option α):Nat→T α→Nat→(T α→β)→β
 |0,t,_,c=>c t
 |f+1, .e,k,c=>match Nat.beq k 0 with
  |true=>c (.n v .e .e)
  |false=>match Nat.beq (Nat.mod k 2) 1 with
   |true=>zir v f .e (Nat.div k 2) fun l=>c (.n none l .e)
   |false=>zir v f .e (Nat.sub (Nat.div k 2) 1) fun r=>c (.n none .e r)
 |f+1, .n u l r,k,c=>match Nat.beq k 0 with
  |true=>c (.n v l r)
  |false=>match Nat.beq (Nat.mod k 2) 1 with
   |true=>zir v f l (Nat.div k 2) fun l=>c (.n u l r)
   |false=>zir v f r (Nat.sub (Nat.div k 2) 1) fun r=>c (.n u l r)
theorem zyD.{u} {α:Type} {β:Sort u} (v:Option α):∀(f:Nat) (t:T α) (k:Nat) (c:T α→β),zir v f t k c=c (T.setF v f t k)
 |0,_,_,_=>rfl
 |f+1, .e,k,c=>by
  simp only [zir,T.setF];cases Nat.beq k 0 with
  |true=>rfl
  |false=>
   simp only;cases Nat.beq (Nat.mod k 2) 1<;>simp only [zyD v f]
 |f+1, .n u l r,k,c=>by
  simp only [zir,T.setF];cases Nat.beq k 0 with
  |true=>rfl
  |false=>
   simp only;cases Nat.beq (Nat.mod k 2) 1<;>simp only [zyD v f]
def zKz.{u} {α:Type} {β:Sort u} (t:T α) (k:Nat) (v:α) (c:T α→β):β:=zir (some v) (Nat.succ k) t k c
theorem zyF.{u} {α:Type} {β:Sort u} (t:T α) (k:Nat) (v:α) (c:T α→β):zKz t k v c=c (t.set k v):=zyD _ _ _ _ _
def zzu.{u} {α:Sort u}:List (Nat×Bk)→(List (Nat×Bk)→α)→α
 |[],k=>k []
 |(i,b)::l,k=>zbB i fun i=>zu5 b fun b=>zzu l fun l=>k ((i,b)::l)
theorem zu6.{u} {α:Sort u}:∀(l:List (Nat×Bk)) (k:List (Nat×Bk)→α),zzu l k=k l
 |[],_=>rfl
 |(i,b)::l,k=>by simp only [zzu,za3,zoP,zu6 l]
def zrB.{u} {α:Sort u}:List (Nat×Option Bk)→(List (Nat×Option Bk)→α)→α
 |[],k=>k []
 |(i,some b)::l,k=>zbB i fun i=>zu5 b fun b=>zrB l fun l=>k ((i,some b)::l)
 |(i,none)::l,k=>zbB i fun i=>zrB l fun l=>k ((i,none)::l)
theorem zoQ.{u} {α:Sort u}:∀(l:List (Nat×Option Bk)) (k:List (Nat×Option Bk)→α),zrB l k=k l
 |[],_=>rfl
 |(i,some b)::l,k=>by simp only [zrB,za3,zoP,zoQ l]
 |(i,none)::l,k=>by simp only [zrB,za3,zoQ l]
abbrev zbx:=FuncId→List AV→St→VT (AV×St)
def zG4 {α:Type}:Option α→Option α→Option α
 |some a,_=>some a
 |none,b=>b
def zIg (P:Program) [Fast P] (tm:T AV):Op→Option AV
 | .move x=>some (ev tm x)
 | .assign x=>some (ev tm x)
 | .pick c x y=>match zy6 (ev tm c) with
   |some b=>some (match b with|true=>ev tm x|false=>ev tm y)
   |none=>none
 | .binOp op t x y _=>zG4 (zLb P op t x y (ev tm x) (ev tm y)) (zx7 P op t (ev tm x) (ev tm y))
 | .unOp op _ x=>unA P op (ev tm x)
 | .convert s t x=>zHw P s t (ev tm x)
 | .extract x i=>match ev tm x with
   | .tup l=>zg5 l i
   |_=>none
 | .field t x f=>zCR P t f (ev tm x)
 | .fieldAddr t x f=>zmk P t f (ev tm x)
 | .indexAddr t x i=>zmo P t (ev tm x) (ev tm i)
 | .nilCheck x=>zlj (ev tm x)
 | .index t x i=>zC9 P t (ev tm x) (ev tm i)
 | .makeFunc (.func f) first caps=>match first.toList with
   |[]=>some (.fn f (caps.toList.map (ev tm)))
   |l=>match caps.toList with
    |[]=>some (.bm f (l.map (ev tm)))
    |_=>none
 | .build t parts=>zCq P t (parts.toList.map fun p=>(p.1,ev tm p.2))
 | .slice t x lo hi mx=>zEG P tm t (ev tm x) lo hi mx
 |_=>none
def zw2 (st:St):Option AV→Option (AV×St)
 |some v=>some (v,st)
 |none=>none
def zJv (P:Program) [Fast P] (tm:T AV) (st:St):Op→Option (AV×St)
 | .load t x=>zw2 st (zDp P t (ev tm x) st)
 | .lookup t x k ok=>zw2 st (zkp P t (ev tm x) (ev tm k) ok st)
 | .makeMap t r=>zn2 P tm t r st
 | .mapUpdate t x k v=>match zrM P t (ev tm x) (ev tm k) (ev tm v) st with
   |some st'=>some (.lit undef,st')
   |none=>none
 | .insert t x k v=>match zrM P t (ev tm x) (ev tm k) (ev tm v) st with
   |some st'=>some (.lit undef,st')
   |none=>none
 | .convert s t x=>match zEV P s t (ev tm x) st with
   |some v=>some (v,st)
   |none=>zxJ P s t (ev tm x) st
 | .alloc t=>zy1 P t st
 | .box t x=>zKf t (ev tm x) st
 | .buildSlice t len parts=>zhF P t len (parts.toList.map fun p=>(p.1,ev tm p.2)) st
 | .makeSlice t l c=>zjA P t (ev tm l) (ev tm c) st
 | .store t x y=>match zwR P t (ev tm x) (ev tm y) st with
   |some st'=>some (.lit undef,st')
   |none=>none
 |_=>none
def test (b:Bool) (v:AV) (st:St) (o:Oper):VT (AV×St):= .fork b (.ret (v,st)) (.fail 20 (some o))
def zCE (P:Program) [Fast P] (tm:T AV) (st:St) (o:Oper):Option (VT (AV×St)):=match o.op with
 | .binOp op t x y _=>match zLf op (ev tm x) (ev tm y) with
   |some (p,v)=>some (test p v st o)
   |none=>match eqA P op t (ev tm x) (ev tm y) with
    |some v=>some (.ret (v,st))
    |none=>none
 | .indexAddr t x i=>match zxS P t (ev tm x) (ev tm i) with
   |some (p,v)=>some (test p v st o)
   |none=>none
 | .index t x i=>match zET P t (ev tm x) (ev tm i) with
   |some (p,v)=>some (test p v st o)
   |none=>none
 | .fieldAddr t x f=>match zxQ P t f (ev tm x) with
   |some v=>some (.ret (v,st))
   |none=>none
 | .slice t x lo hi mx=>match zyL P tm t (ev tm x) lo hi mx with
   |some (p,v)=>some (test p v st o)
   |none=>none
 | .load t x=>match zvp P t (ev tm x) st with
   |some v=>some (.ret (v,st))
   |none=>none
 | .pick c x y=>match ev tm c with
   | .lit (.bool b)=>some (.fork b (.ret (ev tm x,st)) (.ret (ev tm y,st)))
   |_=>none
 | .call c=>match c.callee with
   | .builtin b=>match zH0 P b c.argTypes (c.args.toList.map (ev tm)) with
     |some v=>some (.ret (v,st))
     |none=>none
   |_=>none
 |_=>none
def opO (P:Program) [Fast P] (call:zbx) (o:Oper) (tm:T AV) (st:St):VT (AV×St):=
 match o.op with
 | .call c=>match c.callee with
   | .builtin b=>match b with
     | .append=>match Nat.beq c.argTypes.size 2 with
       |true=>VT.opt o (match zsE P c.argTypes (c.args.toList.map (ev tm)) st with
        |some r=>some r
        |none=>zsD P c.argTypes (c.args.toList.map (ev tm)) st)
       |false=> .fail 1 none
     | .copy=>VT.opt o (zFq P c.argTypes (c.args.toList.map (ev tm)) st)
     | .clear=>VT.opt o (match zze P c.argTypes (c.args.toList.map (ev tm)) st with
       |some r=>some r
       |none=>zw2 st (zCu P c.argTypes (c.args.toList.map (ev tm))))
     |b=>VT.opt o (zw2 st (zs4 P b c.argTypes o.type (c.args.toList.map (ev tm))))
   | .value f=>match ev tm f with
     | .fn g caps=>call g (c.args.toList.map (ev tm)++caps) st
     | .bm g l=>call g (l++c.args.toList.map (ev tm)) st
     |_=> .fail 2 (some o)
   | .invoke _ _=> .fail 3 none
 |op=>match zIg P tm op with
  |some v=> .ret (v,st)
  |none=>VT.opt o (zJv P tm st op)
def zGe:Option (MP×AV×St)→Option (VT (AV×St))
 |some (p,v,st)=>some (.must p.p p.d (.ret (v,st)))
 |none=>none
def zHZ:List AV→List Int
 |k::_::l=>match k with
  | .lit (.int _ n)=>n::zHZ l
  |_=>zHZ l
 |_=>[]
def zF9 (P:Program) [Fast P] (t:TypeId) (x:AV) (kd:IntKind) (z:Int) (ok:Bool) (st:St):List Int→VT (AV×St)
 |[]=> .fail 71 none
 |k::l=> .fork (decide (z=k)) (match zkp P t x (.lit (.int kd k)) ok st with
  |some v=> .ret (v,st)
  |none=> .fail 72 none) (zF9 P t x kd z ok st l)
def zH2 (P:Program) [Fast P] (t:TypeId) (x k:AV) (ok:Bool) (st:St):Option (VT (AV×St)):=match x,k with
 | .mp b, .lit (.int kd z)=>match st.h.get b with
   |some bk=>some (zF9 P t x kd z ok st (zHZ bk.cells))
   |none=>none
 |_,_=>none
def zIT (P:Program) [Fast P] (tm:T AV) (st:St) (o:Oper):Option (VT (AV×St)):=match o.op with
 | .lookup t x k ok=>zH2 P t (ev tm x) (ev tm k) ok st
 | .store t x y=>match zuj P t (ev tm x) (ev tm y) st with
   |some st'=>some (.ret (.lit undef,st'))
   |none=>match zwU P t (ev tm x) (ev tm y) st with
    |some (p,st')=>some (.must p.p p.d (.ret (.lit undef,st')))
    |none=>none
 | .load t x=>match zDq P t (ev tm x) st with
   |some r=>some (.ret r)
   |none=>none
 | .makeSlice t l c=>zGe (zGa P t (ev tm l) (ev tm c) st)
 | .call c=>match c.callee with
   | .builtin .append=>zGe (zon P c.argTypes (c.args.toList.map (ev tm)) st)
   | .builtin .copy=>match zCz P c.argTypes (c.args.toList.map (ev tm)) st with
     |some r=>some (.ret r)
     |none=>none
   |_=>none
 |_=>none
def zLy (P:Program) [Fast P] (tm:T AV) (st:St) (o:Oper):Option (VT (AV×St)):=match Fast.plain P with
 |true=>none
 |false=>zIT P tm st o
def opX (P:Program) [Fast P] (call:zbx) (o:Oper) (tm:T AV) (st:St):VT (AV×St):=match zLy P tm st o with
 |some t=>t
 |none=>match zCE P tm st o with
  |some t=>t
  |none=>opO P call o tm st
def zkL (ops:List Oper) (o:Oper) (tm:T AV):Option Bool:=match o.guard with
 |none=>some true
 |some (j,want)=>match zg5 ops j with
  |some oj=>match oj.dst with
   |some d=>match tm.get d with
    |some (.lit (.bool b))=>some (match want with|true=>b|false=> !b)
    |some (.lit _)=>some false
    |_=>none
   |none=>some false
  |none=>some false
def zIV (nt:Nat) (dst:Option Nat) (tm:T AV) (v:AV):Option (T AV):=match dst with
 |none=>some tm
 |some d=>match Nat.blt d nt with
  |true=>some (tm.set d v)
  |false=>none
def zG9 (all:List Oper) (o:Oper) (q:Bool) (tm:T AV):T AV:=match o.guard with
 |none=>tm
 |some (j,want)=>match zg5 all j with
  |some oj=>match oj.dst with
   |some d=>match tm.get d with
    |some (.lit (.bool _))=>tm.set d (.lit (.bool (match q with|true=>want|false=> !want)))
    |_=>tm
   |none=>tm
  |none=>tm
def gate {α:Type} (g:Option (Nat×Bool)) (q:Option Bool) (A B:VT α):VT α:=match g with
 |none=>A
 |some _=>match q with
  |some b=> .fork b A B
  |none=> .fail 6 none
def zI6:Op→Bool
 | .move _| .assign _| .pick .. | .load .. | .binOp .. | .unOp .. | .fieldAddr .. | .indexAddr .. | .field .. | .index .. | .slice .. =>true
 |_=>false
def zEM {β:Type} (pl:Bool) (o:Op) (st:St) (k:St→β):β:=match pl with
 |true=>k st
 |false=>match zI6 o with
  |true=>k st
  |false=>znl st st.wr k
theorem zEN {β:Type} (pl:Bool) (o:Op) (st:St) (k:St→β):zEM pl o st k=k st:=by
 unfold zEM;split
 ·rfl
 ·split
  ·rfl
  ·exact zg3 st st.wr rfl k
def zIB {β:Type} (pl:Bool) (tm:T AV) (st:St) (k:T AV→St→β):β:=match pl with
 |true=>k tm st
 |false=>zg4 tm fun tm=>znl st st.wr fun st=>k tm st
theorem zAa {β:Type} (pl:Bool) (tm:T AV) (st:St) (k:T AV→St→β):zIB pl tm st k=k tm st:=by
 unfold zIB;split
 ·rfl
 ·rw [zdt,zg3 _ _ rfl]
def zn9 {β:Type} (nt:Nat) (dst:Option Nat) (tm:T AV) (v:AV) (e:Nat) (k:T AV→VT β):VT β:=match dst with
 |none=>k tm
 |some d=>match Nat.blt d nt with
  |true=>zKz tm d v k
  |false=> .fail e none
theorem zIh {β:Type} (nt:Nat) (dst:Option Nat) (tm:T AV) (v:AV) (e:Nat) (k:T AV→VT β):zn9 nt dst tm v e k=match zIV nt dst tm v with
  |some tm'=>k tm'
  |none=> .fail e none:=by
 unfold zn9 zIV;cases dst with
 |none=>rfl
 |some d=>
  simp only;cases Nat.blt d nt with
  |true=>simp only [zyF]
  |false=>rfl
def zKw {β:Type} (all:List Oper) (o:Oper) (q:Bool) (tm:T AV) (k:T AV→β):β:=match o.guard with
 |none=>k tm
 |some (j,want)=>match zg5 all j with
  |some oj=>match oj.dst with
   |some d=>match tm.get d with
    |some (.lit (.bool _))=>zKz tm d (.lit (.bool (match q with|true=>want|false=> !want))) k
    |_=>k tm
   |none=>k tm
  |none=>k tm
theorem zIp {β:Type} (all:List Oper) (o:Oper) (q:Bool) (tm:T AV) (k:T AV→β):zKw all o q tm k=k (zG9 all o q tm):=by
 unfold zKw zG9;split
 ·rfl
 ·split
  ·split
   ·split<;>simp only [zyF]
   ·rfl
  ·rfl
def zDD (P:Program) [Fast P] (call:zbx) (nt:Nat) (all:List Oper):List Oper→T AV→St→VT (T AV×St)
 |[],tm,st=> .ret (tm,st)
 |o::rest,tm,st=>gate o.guard (zkL all o tm) (zKw all o true tm fun tm=>(opX P call o tm st).bind fun r=>match r with
   |(v,st1)=>zcC v fun v=>zn9 nt o.dst tm v 4 fun tm'=>zEM (Fast.plain P) o.op st1 fun st2=>zDD P call nt all rest tm' st2)
  (zKw all o false tm fun tm=>zn9 nt o.dst tm (.lit undef) 5 fun tm'=>zDD P call nt all rest tm' st)
theorem zvG {P:Program} [Fast P] {call:zbx} {nt:Nat} {all:List Oper} {o:Oper} {rest:List Oper} {tm:T AV} {st:St}:zDD P call nt all (o::rest) tm st=gate o.guard (zkL all o tm) (match zG9 all o true tm with
   |tm=>(opX P call o tm st).bind fun r=>match zIV nt o.dst tm r.1 with
    |some tm'=>zDD P call nt all rest tm' r.2
    |none=> .fail 4 none)
  (match zG9 all o false tm with
   |tm=>match zIV nt o.dst tm (.lit undef) with
    |some tm'=>zDD P call nt all rest tm' st
    |none=> .fail 5 none):=by
 simp only [zDD,zIp,zIh,zkZ,zEN]
def mem (i:Nat):List Nat→Bool
 |[]=>false
 |j::l=>match Nat.beq i j with
  |true=>true
  |false=>mem i l
def zhB (i c:Nat):Bool:=Nat.beq (Nat.land (Nat.shiftRight c i) 1) 1
def zIN (cls:T Nat):List Edge→Option Nat
 |[]=>some 0
 |e::es=>match zIN cls es with
  |none=>none
  |some l=>match Region.binds .any e with
   |false=>some l
   |true=>match cls.get e.on with
    |none=>none
    |some c=>some (Nat.lor (Nat.shiftLeft 1 e.on) (Nat.lor c l))
def zGW {β:Type} (n:Nat) (k:Nat→β):β:=match n with
 |0=>k 0
 |n+1=>k (n+1)
theorem zCV {β:Type} (n:Nat) (k:Nat→β):zGW n k=k n:=by cases n<;>rfl
def zIO:List Oper→Nat→T Nat→Option (List (Oper×Nat))
 |[],_,_=>some []
 |o::ops,i,cls=>match zIN cls o.after.toList with
  |some c=>zGW c fun c=>match zIO ops (Nat.succ i) (cls.set i c) with
   |some l=>some ((o,c)::l)
   |none=>none
  |none=>none
structure Re where
 i:Nat
 o:Oper
 c:Nat
 n:Nat
 m:Nat
 v:AV
 D:List (Nat×Bk)
 tg:List (Nat×Option Bk)
 rd:Option Nat
def news (h:T Bk) (lo:Nat):Nat→List (Nat×Bk)
 |0=>[]
 |k+1=>match h.get (Nat.add lo k) with
  |some bk=>(Nat.add lo k,bk)::news h lo k
  |none=>news h lo k
def zhx (h:T Bk):List (Nat×Bk)→T Bk
 |[]=>h
 |(i,bk)::l=>(zhx h l).set i bk
def zDO (h:T Bk):List (Nat×Option Bk)→T Bk
 |[]=>h
 |(b,x)::l=>(zDO h l).put b x
def zGj (h:T Bk):List (Nat×Option Bk)→T Bk
 |[]=>h
 |(b,_)::l=>(zGj h l).put b none
def zj3 (c:Nat) (tm:T AV):List Re→T AV
 |[]=>tm
 |e::recs=>match e.o.dst with
  |none=>zj3 c tm recs
  |some d=>match zhB e.i c with
   |true=>(zj3 c tm recs).set d e.v
   |false=>(zj3 c tm recs).put d none
def zh5 (c:Nat) (h:T Bk):List Re→T Bk
 |[]=>h
 |e::recs=>match zhB e.i c with
  |true=>zDO (zhx (zh5 c h recs) e.D) e.tg
  |false=>zGj (zh5 c h recs) e.tg
def zkh (L:Nat→Bool) (tm:T AV):List Re→T AV
 |[]=>tm
 |e::recs=>match L e.i,e.o.dst with
  |true,some d=>(zkh L tm recs).set d e.v
  |_,_=>zkh L tm recs
def zjV (L:Nat→Bool) (h:T Bk):List Re→T Bk
 |[]=>h
 |e::recs=>match L e.i with
  |true=>zDO (zhx (zjV L h recs) e.D) e.tg
  |false=>zjV L h recs
def ztc (h:T Bk):List Nat→T Bk
 |[]=>h
 |b::l=>(ztc h l).put b none
def zrJ (i:Nat):List (Nat×Nat×Nat)→List Nat
 |[]=>[]
 |(j,cj,b)::l=>match Nat.blt i j,zhB i cj with
  |true,false=>b::zrJ i l
  |_,_=>zrJ i l
def zj7 (i:Nat) (tm:T AV):List (Oper×Nat)→T AV
 |[]=>tm
 |(o,c)::l=>match zhB i c,o.dst with
  |false,some d=>(zj7 i tm l).put d none
  |_,_=>zj7 i tm l
def zvi (o:Oper):Bool:=match o.op with
 | .move _| .assign _| .pick .. | .binOp .. | .unOp .. | .index .. | .extract .. | .field .. | .fieldAddr .. | .indexAddr .. | .nilCheck _| .makeFunc .. | .build .. | .slice .. =>true
 | .call c=>match c.callee with
   | .builtin .append=>false
   | .builtin .copy=>false
   | .builtin _=>true
   |_=>false
 |_=>false
def zLA:AV→Option Nat
 | .ptr b _=>some b
 | .ep i _ _ _ _ _=>some i
 |_=>none
def zA8:AV→Option Nat
 | .sl _ _ len _ _=>some len
 | .emp=>some 0
 | .lit (.slice _ len _)=>some len
 |_=>none
mutual
def zKn:AV→List Nat→List Nat
 | .ptr b _,acc=>b::acc
 | .sl b _ _ _ _,acc=>b::acc
 | .mp b,acc=>b::acc
 | .lv i k _ _ _ _,acc=>i::k::acc
 | .lw i k _ _ _,acc=>i::k::acc
 | .ep i k _ _ _ _,acc=>i::k::acc
 | .tre _ _ _ k,acc=>k::acc
 | .fn _ l,acc=>idsL l acc
 | .bm _ l,acc=>idsL l acc
 | .agg l,acc=>idsL l acc
 | .tup l,acc=>idsL l acc
 |_,acc=>acc
def idsL:List AV→List Nat→List Nat
 |[],acc=>acc
 |a::l,acc=>zKn a (idsL l acc)
end
def zsl (h:T Bk):Nat→List Nat→T Nat→List Nat→List Nat
 |0,_,_,acc=>acc
 |_+1,[],_,acc=>acc
 |f+1,i::l,m,acc=>match m.get i,h.get i with
  |none,some bk=>zsl h f (idsL bk.cells l) (m.set i 0) (i::acc)
  |_,_=>zsl h f l m acc
def zIA (own:Nat→Bool) (o:Oper) (tm:T AV) (h:T Bk):List Nat:=match o.op with
 | .store _ x y=>match ev tm x with
   | .ptr b _=>[b]
   | .ep i _ _ _ _ _=>zsl h 1000000 (i::zKn (ev tm y) []) .e []
   |_=>[]
 | .call c=>match c.callee with
   | .builtin .append=>zsl h 1000000 (idsL (c.args.toList.map (ev tm)) []) .e []
   | .builtin .copy=>match c.args.toList.map (ev tm) with
     |[.sl b _ _ _ _,_]=>[b]
     |[.lw i _ _ _ _,_]=>[i]
     |_=>[]
   | .builtin .clear=>match c.args.toList.map (ev tm) with
     |[.sl b _ _ _ _]=>[b]
     |_=>[]
   | .value f=>match ev tm f with
     | .fn g caps=>match own g with
       |true=>zsl h 1000000 (idsL (c.args.toList.map (ev tm)) (idsL caps [])) .e []
       |false=>[]
     | .bm g l=>match own g with
       |true=>zsl h 1000000 (idsL (c.args.toList.map (ev tm)) (idsL l [])) .e []
       |false=>[]
     |_=>[]
   |_=>[]
 | .convert s t x=>match Nat.beq s t,ev tm x with
   |true, .sl b _ _ _ _=>[b]
   |_,_=>[]
 | .mapUpdate _ x _ _| .insert _ x _ _=>match ev tm x with
   | .mp b=>[b]
   |_=>[]
 |_=>[]
def zDg (h:T Bk) (wr:Nat→Bool):List Nat→List Nat
 |[]=>[]
 |b::l=>match wr b,h.get b with
  |true,some _=>b::zDg h wr l
  |_,_=>zDg h wr l
def zKB (own:Nat→Bool) (o:Oper) (tm:T AV) (h:T Bk) (wr:Nat→Bool):List Nat:=zDg h wr (zIA own o tm h)
def wrX (n:Nat) (b:List Nat):Nat→Bool:=fun k=>match Nat.ble n k with
 |true=>true
 |false=>mem k b
def told (b:Nat) (i j:Nat):List (Nat×Nat×Nat)→Bool
 |[]=>false
 |p::l=>match Nat.beq p.1 j,Nat.beq p.2.2 b,zhB i p.2.1 with
  |true,true,false=>true
  |_,_,_=>told b i j l
def offB (b:Nat):List (Nat×Option Bk)→Bool
 |(b',_)::l=>match Nat.beq b b' with
  |true=>false
  |false=>offB b l
 |[]=>true
def zKq (b:Nat):Option Nat→Bool
 |some b'=>match Nat.beq b b' with
  |true=>false
  |false=>true
 |none=>false
def zp7 (o:Oper) (tm:T AV):Option Nat:=match o.op with
 | .load _ x=>zLA (ev tm x)
 |_=>none
def zJx (h:T Bk):Option Nat→T Bk
 |none=>h
 |some b=>match h.get b with
  |some bk=>T.e.set b bk
  |none=> .e
def zBZ (i:Nat) (c:Nat) (pre:List (Nat×Nat×Nat)) (b:Nat):List Re→Bool
 |[]=>true
 |e::recs=>(zhB e.i c||(zvi e.o||(zKq b e.rd||(told b e.i i pre&&offB b e.tg))))&&zBZ i c pre b recs
def zEJ (i:Nat) (c:Nat) (pre:List (Nat×Nat×Nat)) (recs:List Re):List Nat→Bool
 |[]=>true
 |b::l=>zBZ i c pre b recs&&zEJ i c pre recs l
def ztl (o:Oper) (i:Nat) (c:Nat) (pre:List (Nat×Nat×Nat)) (h0:T Bk) (recs:List Re) (rd:Option Nat):T Bk:=match zvi o with
 |true=> .e
 |false=>zJx (ztc (zh5 c h0 recs) (zrJ i pre)) rd
def tgV (h:T Bk):List Nat→List (Nat×Option Bk)
 |[]=>[]
 |b::l=>(b,h.get b)::tgV h l
def zJL (d:Nat) (c:Nat) (v:AV):List Re→List Re
 |[]=>[]
 |e::recs=>match e.o.dst with
  |some d'=>match Nat.beq d' d with
   |true=>match zhB e.i c,e.v with
    |true, .lit (.bool _)=>{e with v:=v}::recs
    |_,_=>e::recs
   |false=>e::zJL d c v recs
  |none=>e::zJL d c v recs
def zKv (all:List Oper) (o:Oper) (tm:T AV) (c:Nat) (q:Bool) (recs:List Re):List Re:=match o.guard with
 |none=>recs
 |some (j,want)=>match zg5 all j with
  |some oj=>match oj.dst with
   |some d=>match tm.get d with
    |some (.lit (.bool _))=>zJL d c (.lit (.bool (match q with|true=>want|false=> !want))) recs
    |_=>recs
   |none=>recs
  |none=>recs
def ze8:Operand→List Nat→List Nat
 | .tmp t,l=>t::l
 |_,l=>l
def zBd:List Operand→List Nat→List Nat
 |[],l=>l
 |x::xs,l=>ze8 x (zBd xs l)
def zLz:List (Nat×Operand)→List Nat→List Nat
 |[],l=>l
 |x::xs,l=>ze8 x.2 (zLz xs l)
def zKr:Option Operand→List Nat→List Nat
 |some x,l=>ze8 x l
 |none,l=>l
def zM6 (o:Oper) (l:List Nat):List Nat:=match o.op with
 | .move x=>ze8 x l
 | .assign x=>ze8 x l
 | .pick x y z=>ze8 x (ze8 y (ze8 z l))
 | .box _ x=>ze8 x l
 | .build _ xs=>zLz xs.toList l
 | .buildSlice _ _ xs=>zLz xs.toList l
 | .insert _ x y z=>ze8 x (ze8 y (ze8 z l))
 | .load _ x=>ze8 x l
 | .store _ x y=>ze8 x (ze8 y l)
 | .nilCheck x=>ze8 x l
 | .binOp _ _ x y _=>ze8 x (ze8 y l)
 | .unOp _ _ x=>ze8 x l
 | .convert _ _ x=>ze8 x l
 | .sliceToArrayPointer _ x=>ze8 x l
 | .makeInterface _ x=>ze8 x l
 | .makeFunc _ xs ys=>zBd xs.toList (zBd ys.toList l)
 | .makeMap _ x=>zKr x l
 | .makeSlice _ x y=>ze8 x (ze8 y l)
 | .slice _ x a b c=>ze8 x (zKr a (zKr b (zKr c l)))
 | .fieldAddr _ x _=>ze8 x l
 | .field _ x _=>ze8 x l
 | .indexAddr _ x y=>ze8 x (ze8 y l)
 | .index _ x y=>ze8 x (ze8 y l)
 | .lookup _ x y _=>ze8 x (ze8 y l)
 | .mapUpdate _ x y z=>ze8 x (ze8 y (ze8 z l))
 | .mapEntry _ x y=>ze8 x (ze8 y l)
 | .entryStore _ x y z=>ze8 x (ze8 y (ze8 z l))
 | .range _ x=>ze8 x l
 | .next x _=>ze8 x l
 | .entry x=>ze8 x l
 | .typeAssert x _ _ _=>ze8 x l
 | .extract x _=>ze8 x l
 | .call c=>match c.callee with
   | .value f=>ze8 f (zBd c.args.toList l)
   | .invoke f _=>ze8 f (zBd c.args.toList l)
   | .builtin _=>zBd c.args.toList l
 |_=>l
def gdT (all:List Oper) (o:Oper):List Nat:=match o.guard with
 |none=>[]
 |some (j,_)=>match zg5 all j with
  |some oj=>match oj.dst with
   |some d=>[d]
   |none=>[]
  |none=>[]
def zDs (c:Nat) (t:Nat) (b:Option AV):List Re→Option AV
 |[]=>b
 |e::recs=>match e.o.dst with
  |none=>zDs c t b recs
  |some d=>match Nat.beq d t with
   |true=>match zhB e.i c with
    |true=>some e.v
    |false=>none
   |false=>zDs c t b recs
def zBa (i t:Nat) (b:Option AV):List (Oper×Nat)→Option AV
 |[]=>b
 |(o,c)::l=>match o.dst with
  |some d=>match Nat.beq d t with
   |true=>match zhB i c with
    |true=>zBa i t b l
    |false=>none
   |false=>zBa i t b l
  |none=>zBa i t b l
def zBf (f:Nat→Option AV):List Nat→T AV
 |[]=> .e
 |t::ts=>match f t with
  |some v=>(zBf f ts).set t v
  |none=>zBf f ts
def zhA (all:List Oper) (o:Oper) (c:Nat) (i:Nat) (tm0:T AV) (rest:List (Oper×Nat)) (recs:List Re):T AV:=zBf (fun t=>zDs c t (zBa i t (tm0.get t) rest) recs) (zM6 o (gdT all o))
def zAN (P:Program) [Fast P] (own:Nat→Bool) (call:zbx) (all:List Oper) (pre:List (Nat×Nat×Nat)) (tm0:T AV) (h0:T Bk) (wr:Nat→Bool):List (Oper×Nat)→Nat→Nat→List Re→VT (Nat×List Re)
 |[],_,n,recs=> .ret (n,recs)
 |(o,c)::rest,i,n,recs=>match zhA all o c i tm0 rest recs with
  |tm0'=>gate o.guard (zkL all o tm0') (match zKv all o tm0' c true recs with
   |recs=>match zhA all o c i tm0 rest recs with
    |tm=>match ztl o i c pre h0 recs (zp7 o tm) with
     |h=>match zKB own o tm h wr with
      |b=>(opX P call o tm ⟨h,n,wrX n b⟩).bind fun r=>zcC r.1 fun v=>match zEJ i c pre recs b&&Nat.ble n r.2.n with
       |true=>zbB r.2.n fun m=>zzu (news r.2.h n (Nat.sub m n)) fun D=>zrB (tgV r.2.h b) fun tg=>zCW (zp7 o tm) fun rd=>zAN P own call all pre tm0 h0 wr rest (Nat.succ i) m (⟨i,o,c,n,m,v,D,tg,rd⟩::recs)
       |false=> .fail 8 (some o))
   (match zKv all o tm0' c false recs with
   |recs=>zAN P own call all pre tm0 h0 wr rest (Nat.succ i) n (⟨i,o,c,n,n, .lit undef,[],[],none⟩::recs))
def zJE (tm:T AV):List (Oper×Nat)→Nat→List (Nat×Nat×Nat)
 |[],_=>[]
 |(o,c)::l,i=>match o.op with
  | .store _ (.tmp t) _=>match tm.get t with
    |some (.ptr b _)=>(i,c,b)::zJE tm l (Nat.succ i)
    |_=>zJE tm l (Nat.succ i)
  |_=>zJE tm l (Nat.succ i)
def zGi:List Oper→T AV→T AV
 |[],tm=>tm
 |o::l,tm=>match o.dst with
  |some d=>zGi l (tm.put d none)
  |none=>zGi l tm
def zH4 (d:Nat):List (Option Nat)→Bool
 |[]=>false
 |none::l=>zH4 d l
 |some e::l=>match Nat.beq d e with
  |true=>true
  |false=>zH4 d l
def zkU (nt:Nat):List (Option Nat)→Bool
 |[]=>true
 |none::l=>zkU nt l
 |some d::l=>match zH4 d l,Nat.blt d nt with
  |false,true=>zkU nt l
  |_,_=>false
def zkH (P:Program) [Fast P] (own:Nat→Bool) (call:zbx) (nt:Nat) (ops:List Oper) (draw:Bool) (tm:T AV) (st:St):VT (T AV×St):=
 match draw with
 |false=>zDD P call nt ops ops tm st
 |true=>match zIO ops 0 .e,zkU nt (ops.map (·.dst)) with
  |some l,true=>(zAN P own call ops (zJE (zGi ops tm) l 0) tm st.h st.wr l 0 st.n []).bind fun r=>zIB (Fast.plain P) (zkh (fun _=>true) tm r.2) ⟨zjV (fun _=>true) st.h r.2,r.1,st.wr⟩ fun tm' st'=> .ret (tm',st')
  |_,_=> .fail 9 ops.head?
def zFX (c:Operand) (q:Bool) (tm:T AV):T AV:=match c with
 | .tmp t=>tm.set t (.lit (.bool q))
 |_=>tm
def zA7.{u} {β:Sort u} (c:Operand) (q:Bool) (tm:T AV) (k:T AV→β):β:=match c with
 | .tmp t=>zKz tm t (.lit (.bool q)) k
 |_=>k tm
theorem ztr.{u} {β:Sort u} (c:Operand) (q:Bool) (tm:T AV) (k:T AV→β):zA7 c q tm k=k (zFX c q tm):=by
 unfold zA7 zFX;cases c with
 |tmp t=>exact zyF _ _ _ _
 |_=>rfl
inductive EX where
 |normal
 |exit (id:Nat)
 |ret
def zBb (body:T AV→St→VT (EX×T AV×St)):Nat→T AV→St→VT (EX×T AV×St)
 |0,_,_=> .fail 11 none
 |n+1,tm,st=>(body tm st).bind fun r=>match r.1 with
  | .normal=>zBb body n r.2.1 r.2.2
  |e=> .ret (e,r.2)
def zdU (P:Program) [Fast P] (own:Nat→Bool) (call:zbx) (nt:Nat) (fuel:Nat):Code→T AV→St→VT (EX×T AV×St)
 | .skip,tm,st=> .ret (.normal,tm,st)
 | .region _ ops draw,tm,st=>(zkH P own call nt ops.toList draw tm st).bind fun r=> .ret (.normal,r)
 | .seq x y,tm,st=>(zdU P own call nt fuel x tm st).bind fun r=>match r.1 with
   | .normal=>zdU P own call nt fuel y r.2.1 r.2.2
   |e=> .ret (e,r.2)
 | .cond c x y,tm,st=>match ev tm c with
   | .lit (.bool b)=> .fork b (zA7 c true tm fun tm=>zdU P own call nt fuel x tm st) (zA7 c false tm fun tm=>zdU P own call nt fuel y tm st)
   |_=> .fail 12 none
 | .block id c,tm,st=>(zdU P own call nt fuel c tm st).bind fun r=>match r.1 with
   | .exit i=>match Nat.beq i id with
     |true=> .ret (.normal,r.2)
     |false=> .ret r
   |_=> .ret r
 | .loop c,tm,st=>zBb (zdU P own call nt fuel c) fuel tm st
 | .exit id,tm,st=> .ret (.exit id,tm,st)
 | .label _,tm,st=> .ret (.normal,tm,st)
 | .ret,tm,st=> .ret (.ret,tm,st)
 |_,_,_=> .fail 13 none
def zsI:List AV→Nat→T AV→T AV
 |[],_,tm=>tm
 |a::l,k,tm=>zsI l (Nat.succ k) (tm.set k a)
def zEj (P:Program) [Fast P] (tm:T AV) (st:St):ResultVar→Option AV
 | .tmp t=>some (ev tm (.tmp t))
 | .cell x t=>zDp P t (ev tm (.tmp x)) st
def zz0 (P:Program) [Fast P] (tm:T AV) (st:St):List ResultVar→Option AV
 |[]=>some (.tup [])
 |[r]=>zEj P tm st r
 |[r,s]=>match zEj P tm st r,zEj P tm st s with
  |some a,some b=>some (.tup [a,b])
  |_,_=>none
 |[r,s,t]=>match zEj P tm st r,zEj P tm st s,zEj P tm st t with
  |some a,some b,some c=>some (.tup [a,b,c])
  |_,_,_=>none
 |[r,s,t,u]=>match zEj P tm st r,zEj P tm st s,zEj P tm st t,zEj P tm st u with
  |some a,some b,some c,some d=>some (.tup [a,b,c,d])
  |_,_,_,_=>none
 |_=>none
def zkY (P:Program) [Fast P] (f:FuncId):Option (Func×Code):=match zJg P f with
 |some fn=>match fn.name== "runtime.NumGoroutine",fn.body with
  |false,some c=>some (fn,c)
  |_,_=>none
 |none=>none
mutual
def zm0 (f:Nat→Option Nat):AV→AV
 | .ptr b off=>match f b with|some b'=> .ptr b' off|none=> .dead
 | .sl b off len cap op=>match f b with|some b'=> .sl b' off len cap op|none=>match Nat.beq len 0 with|true=> .emp|false=> .dead
 | .mp b=>match f b with|some b'=> .mp b'|none=> .dead
 | .lv i k p sz lo n=>match f i,f k with|some i',some k'=> .lv i' k' p sz lo n|_,_=> .dead
 | .lw i k p sz n=>match f i,f k with|some i',some k'=> .lw i' k' p sz n|_,_=> .dead
 | .ep i k p sz x j=>match f i,f k with|some i',some k'=> .ep i' k' p sz x j|_,_=> .dead
 | .tre o t xs k=>match f k with|some k'=> .tre o t xs k'|none=> .dead
 | .fn g l=> .fn g (renL f l)
 | .bm g l=> .bm g (renL f l)
 | .agg l=> .agg (renL f l)
 | .tup l=> .tup (renL f l)
 |a=>a
def renL (f:Nat→Option Nat):List AV→List AV
 |[]=>[]
 |a::l=>zm0 f a::renL f l
end
def zvj (h:T Bk) (n0:Nat):Nat→List Nat→T Nat→Nat→List (Nat×Nat×Bk)→T Nat×Nat×List (Nat×Nat×Bk)
 |0,_,m,k,acc=>(m,k,acc)
 |_+1,[],m,k,acc=>(m,k,acc)
 |f+1,i::l,m,k,acc=>match Nat.blt i n0,m.get i,h.get i with
  |false,none,some bk=>zvj h n0 f (idsL bk.cells l) (m.set i k) (Nat.succ k) ((k,i,bk)::acc)
  |_,_,_=>zvj h n0 f l m k acc
def zwv (f:Nat→Option Nat):Kd→Bool
 | .tree _ _ _ k=>match f k with|some _=>true|none=>false
 | .verp k=>match f k with|some _=>true|none=>false
 | .pend .. =>false
 |_=>true
def zqc (f:Nat→Option Nat) (h:T Bk):List (Nat×Nat×Bk)→T Bk
 |[]=>h
 |(k,_,bk)::l=>match zwv f (zu bk.cells) with
  |true=>zqc f (h.set k ⟨bk.ty,renL f bk.cells,bk.op⟩) l
  |false=>zqc f h l
def zGU (st:St) (r:AV×St):AV×St:=
 match zvj r.2.h st.n 1000000 (zKn r.1 []) .e st.n [] with
 |(m,k,acc)=>
  let f:Nat→Option Nat:=fun i=>match Nat.blt i st.n with|true=>some i|false=>m.get i
  (zm0 f r.1,⟨zqc f st.h acc,k,st.wr⟩)
def zxD (P:Program) [Fast P] (own:Nat→Bool) (fuel:Nat) (call:zbx):zbx:=fun f args st=>match zkY P f with
 |none=> .fail (Nat.add 2000 f) none
 |some (fn,c)=>
  let body (st:St):VT (AV×St):=(zdU P own call (Nat.add args.length (Nat.sub fn.ntmps args.length)) fuel c (zsI args 0 .e) st).bind fun r=>match r.1 with
   | .exit _=> .fail 16 none
   |_=>match zz0 P r.2.1 r.2.2 fn.results.toList with
    |some v=> .ret (v,r.2.2)
    |none=> .fail (Nat.add 1000 f) none
  match own f with
  |true=>body st
  |false=>(body ⟨st.h,st.n,fun k=>Nat.ble st.n k⟩).bind fun r=> .ret (zGU st r)
abbrev Ctr:=List AV→St→VT (AV×St)
def zAz (P:Program) [Fast P] (tbl:T Ctr) (own:Nat→Bool) (fuel:Nat):Nat→zbx
 |0=>fun f args st=>match tbl.get f with
  |some c=>c args st
  |none=> .fail 14 none
 |d+1=>fun f args st=>match tbl.get f with
  |some c=>c args st
  |none=>zxD P own fuel (zAz P tbl own fuel d) f args st
open Classical in
noncomputable def VT.out {α:Type}:VT α→Option α
 | .ret a=>some a
 | .fork c t e=>match c with
   |true=>t.out
   |false=>e.out
 | .must p _ t=>if p then t.out else none
 | .fail _ _=>none
theorem VT.out_bind {α β:Type}:∀(t:VT α) (f:α→VT β),(t.bind f).out=t.out.bind fun a=>(f a).out
 | .ret a,f=>rfl
 | .fork c t e,f=>by
   cases c with
   |true=>exact out_bind t f
   |false=>exact out_bind e f
 | .must p _ t,f=>by
   simp only [VT.bind,VT.out];by_cases h:p
   ·rw [if_pos h,if_pos h];exact out_bind t f
   ·rw [if_neg h,if_neg h];rfl
 | .fail _ _,f=>rfl
theorem VT.out_bind_some {α β:Type} {t:VT α} {f:α→VT β} {b:β} (h:(t.bind f).out=some b):∃a,t.out=some a∧(f a).out=some b:=by
 rw [VT.out_bind] at h;cases ht:t.out with
 |none=>rw [ht] at h;cases h
 |some a=>rw [ht] at h;exact ⟨a,rfl,h⟩
theorem VT.out_opt {α:Type} {o:Oper} {x:Option α} {a:α} (h:(VT.opt o x).out=some a):x=some a:=by
 cases x with
 |none=>cases h
 |some b=>exact h
variable {P:Program} [Fast P] {K:KS} {w0 w:World} {ρ:Rho} {st:St} {nt:Nat} {tm:T AV} {a:Act}
def zdl (P:Program) [Fast P] (call:zbx):Prop:=∀f args st v st',(call f args st).out=some (v,st')→
 st'.wr=st.wr∧(∃fn c,P.funcs[f]? =some fn∧(fn.name== "runtime.NumGoroutine")=false∧fn.body=some c)∧
 ∀K w0 w ρ vs,Sim K w0 ρ st w→dens ρ args vs→Calls P f vs.toArray w fun e w'=>∃u ρ',e= .returned u∧Ext st.n st'.n ρ ρ'∧Sim K w0 ρ' st' w'∧den ρ' v u
theorem zDF {α:Type} {x y:Option α} {a:α} (h:zG4 x y=some a):x=some a∨y=some a:=by
 cases x with
 |none=>exact .inr h
 |some b=>exact .inl h
theorem zGm {o:Oper} {v:AV} (h:TR ρ nt tm a) (hf:zIg P tm o.op=some v):Yields P ρ o a v:=by
 unfold zIg at hf;split at hf
 ·rename_i x hop;obtain rfl:=zM8 hf;exact zDv (.inl hop) h
 ·rename_i x hop;obtain rfl:=zM8 hf;exact zDv (.inr hop) h
 ·rename_i c x y hop;split at hf
  ·rename_i b hb;obtain rfl:=zM8 hf;have hp:=zDM (P:=P) hop h hb;cases b<;>exact hp
  ·cases hf
 ·rename_i op t x y yt hop;rcases zDF hf with hf|hf
  ·exact zHl hop h hf
  ·exact zBc hop h hf
 ·rename_i op t x hop;exact zJ6 hop h hf
 ·rename_i s t x hop;exact zFp hop h hf
 ·rename_i x i hop;split at hf
  ·rename_i l hl;rw [zei] at hf;exact zAW hop h hl hf
  ·cases hf
 ·rename_i t x f hop;exact zCS hop h hf
 ·rename_i t x f hop;exact zth hop h hf
 ·rename_i t x i hop;exact ztn hop h hf
 ·rename_i x hop;exact zvE hop h hf
 ·rename_i t x i hop;exact zDa hop h hf
 ·rename_i f first caps hop
  split at hf
  ·rename_i hfi;obtain rfl:=zM8 hf;have:first= #[]:=by apply Array.ext';simpa using hfi
   subst this;exact zx3 hop h
  ·split at hf
   ·rename_i hca;obtain rfl:=zM8 hf;have:caps= #[]:=by apply Array.ext';simpa using hca
    subst this;exact zvy hop h
   ·cases hf
 ·rename_i t parts hop;exact zCr hop h hf
 ·rename_i t x lo hi mx hop;exact zEH hop h hf
 ·cases hf
def Does (P:Program) [Fast P] (K:KS) (w0 w:World) (ρ:Rho) (st st':St) (o:Oper) (a:Act) (v:AV):Prop:=
 ∃u w' ρ',((execOp a.eval o).run P w= .ok (.value u) w'∨((execOp a.eval o).run P w= .ok .skip w'∧u=undef))∧Ext st.n st'.n ρ ρ'∧Sim K w0 ρ' st' w'∧den ρ' v u
theorem zcR {st st':St} {x:Option AV} {v:AV} (h:zw2 st x=some (v,st')):x=some v∧st'=st:=by
 cases x with
 |none=>cases h
 |some y=>obtain ⟨rfl,rfl⟩:=zNb (zM8 h);exact ⟨rfl,rfl⟩
theorem Yields.does {o:Oper} {v:AV} (h:Yields P ρ o a v) (hs:Sim K w0 ρ st w):Does P K w0 w ρ st st o a v:=by
 obtain ⟨u,hr,hd⟩:=h w;exact ⟨u,w,ρ, .inl hr, .refl _ ρ,hs,hd⟩
theorem zH5 {o:Oper} {v:AV} {st':St} (h:TR ρ nt tm a) (hs:Sim K w0 ρ st w) (hf:zJv P tm st o.op=some (v,st')):Does P K w0 w ρ st st' o a v:=by
 unfold zJv at hf;split at hf
 ·rename_i t x hop;obtain ⟨hf,rfl⟩:=zcR hf;obtain ⟨u,hr,hd⟩:=zF4 hop h hs hf;exact ⟨u,w,ρ, .inl hr, .refl _ ρ,hs,hd⟩
 ·rename_i t x k ok hop;obtain ⟨hf,rfl⟩:=zcR hf;obtain ⟨u,hr,hd⟩:=zrL hop h hs hf;exact ⟨u,w,ρ, .inl hr, .refl _ ρ,hs,hd⟩
 ·rename_i t r hop;obtain ⟨u,w',ρ',hr,he,hs',hd⟩:=zx4 hop h hs hf;exact ⟨u,w',ρ', .inl hr,he,hs',hd⟩
 ·rename_i t x k v' hop;split at hf
  ·rename_i st1 hst;obtain ⟨rfl,he⟩:=zNb (zM8 hf);subst he;obtain ⟨w',hr,hs',hn,_⟩:=zvz (.inl hop) h hs hst;exact ⟨undef,w',ρ, .inr ⟨hr,rfl⟩,by rw [hn];exact .refl _ ρ,hs',by simp only [den]⟩
  ·cases hf
 ·rename_i t x k v' hop;split at hf
  ·rename_i st1 hst;obtain ⟨rfl,he⟩:=zNb (zM8 hf);subst he;obtain ⟨w',hr,hs',hn,_⟩:=zvz (.inr hop) h hs hst;exact ⟨undef,w',ρ, .inr ⟨hr,rfl⟩,by rw [hn];exact .refl _ ρ,hs',by simp only [den]⟩
  ·cases hf
 ·rename_i s t x hop;split at hf
  ·rename_i v' hv;obtain ⟨rfl,he⟩:=zNb (zM8 hf);subst he;obtain ⟨u,hr,hd⟩:=zEW hop h hs hv;exact ⟨u,w,ρ, .inl hr, .refl _ ρ,hs,hd⟩
  ·obtain ⟨u,w',hr,hs',hn,_,hd⟩:=zAH hop h hs hf;exact ⟨u,w',ρ, .inl hr,by rw [hn];exact .refl _ ρ,hs',hd⟩
 ·rename_i t hop;obtain ⟨u,w',ρ',hr,he,hs',hd⟩:=zCj (a:=a) hop hs hf;exact ⟨u,w',ρ', .inl hr,he,hs',hd⟩
 ·rename_i t x hop;obtain ⟨u,w',ρ',hr,he,hs',hd⟩:=zHp (P:=P) hop h hs hf;exact ⟨u,w',ρ', .inl hr,he,hs',hd⟩
 ·rename_i t len parts hop;obtain ⟨u,w',ρ',hr,he,hs',hd⟩:=zqM hop h hs hf;exact ⟨u,w',ρ', .inl hr,he,hs',hd⟩
 ·rename_i t l c hop;obtain ⟨u,w',ρ',hr,he,hs',hd⟩:=ztA hop h hs hf;exact ⟨u,w',ρ', .inl hr,he,hs',hd⟩
 ·rename_i t x y hop;split at hf
  ·rename_i st1 hst;obtain ⟨rfl,he⟩:=zNb (zM8 hf);subst he;obtain ⟨w',hr,hs'⟩:=zEO hop h hs hst;have hn:st1.n=st.n:=by
    unfold zwR at hst
    repeat' split at hst
    all_goals first
     |(cases hst;done)
     |(obtain rfl:=zM8 hst;rfl)
   exact ⟨undef,w',ρ, .inr ⟨hr,rfl⟩,by rw [hn];exact .refl _ ρ,hs',by simp only [den]⟩
  ·cases hf
 ·cases hf
theorem zbY {o:Oper} {c:Call} {b:Builtin} (hop:o.op= .call c) (hb:c.callee= .builtin b):o.op= .call {callee:= .builtin b,args:=c.args,argTypes:=c.argTypes}:=by
 rw [hop, ←hb]
theorem zJy {call:zbx} (hc:zdl P call) {o:Oper} {v:AV} {st':St} (h:TR ρ nt tm a) (hs:Sim K w0 ρ st w) (hf:(opO P call o tm st).out=some (v,st'))
  {next:Act→World→Prop} {Q:Exit→Act→World→Prop} (hK:∀u w' ρ',Ext st.n st'.n ρ ρ'→Sim K w0 ρ' st' w'→den ρ' v u→next (a.put o.dst u) w'):o.wp P a w next Q:=by
 have fin:Does P K w0 w ρ st st' o a v→o.wp P a w next Q:=by
  rintro ⟨u,w',ρ',hr,he,hs',hd⟩
  unfold Oper.wp;rcases hr with hr|⟨hr,rfl⟩
  ·rw [hr,Oper.upon_value];exact hK u w' ρ' he hs' hd
  ·rw [hr,Oper.upon_skip];exact hK _ w' ρ' he hs' hd
 unfold opO at hf;split at hf
 ·rename_i c hop;split at hf
  ·rename_i b hb;split at hf
   ·split at hf
    ·rename_i h2;have hf1:=VT.out_opt hf;split at hf1
     ·rename_i r hr0;obtain rfl:=zM8 hf1;obtain ⟨u,w',ρ',hr,he,hs',hd⟩:=zAi (zbY hop hb) h hs hr0;exact fin ⟨u,w',ρ', .inl hr,he,hs',hd⟩
     ·obtain ⟨u,w',ρ',hr,he,hs',hd⟩:=zAh (zbY hop hb) (zM9 h2) h hs hf1;exact fin ⟨u,w',ρ', .inl hr,he,hs',hd⟩
    ·cases hf
   ·have hf1:=VT.out_opt hf;obtain ⟨u,w',hr,hs',hn,_,hd⟩:=zFr (zbY hop hb) h hs hf1;exact fin ⟨u,w',ρ, .inl hr,by rw [hn];exact .refl _ ρ,hs',hd⟩
   ·have hf1:=VT.out_opt hf;split at hf1
    ·rename_i r hr0;obtain rfl:=zM8 hf1;obtain ⟨u,w',hr,hs',hn,_,hd⟩:=zCw (zbY hop hb) h hs hr0;exact fin ⟨u,w',ρ, .inl hr,by rw [hn];exact .refl _ ρ,hs',hd⟩
    ·obtain ⟨hf2,he⟩:=zcR hf1;subst he;exact fin ((zCv (zbY hop hb) h hf2).does hs)
   ·have hf1:=VT.out_opt hf;obtain ⟨hf2,he⟩:=zcR hf1;subst he;exact fin ((zxB (zbY hop hb) h hf2).does hs)
  ·rename_i f hcal;split at hf
   ·rename_i g caps hg;obtain ⟨_,⟨fn,code,hfn,hname,hbody⟩,hcall⟩:=hc _ _ _ _ _ hf;have hd:=h.ev f;rw [hg] at hd;simp only [den] at hd;obtain ⟨us,hfu,hus⟩:=hd;have hargs:=zbZ h c.args.toList;have hall:=zaq hargs hus;have hr:(execOp a.eval o).run P w= .ok (.enter g (c.args.toList.map a.eval++us).toArray) w:=by
     unfold execOp;simp only [hop,resolve,hcal,hfu,Deferred.ofValue,Sem.run_bind,Sem.run_pure,Result.andThen_ok,invoke,callFunc,run_program,hfn,hname,hbody];simp
    unfold Oper.wp;rw [hr,Oper.upon_enter];refine (hcall K w0 w ρ _ hs hall).mono ?_
    rintro e w' ⟨u,ρ',rfl,he,hs',hd'⟩
    exact hK u w' ρ' he hs' hd'
   ·rename_i g l hg;obtain ⟨_,⟨fn,code,hfn,hname,hbody⟩,hcall⟩:=hc _ _ _ _ _ hf;have hd:=h.ev f;rw [hg] at hd;simp only [den] at hd;obtain ⟨us,hfu,hus⟩:=hd;have hargs:=zbZ h c.args.toList;have hall:=zaq hus hargs;have hr:(execOp a.eval o).run P w= .ok (.enter g (us++c.args.toList.map a.eval).toArray) w:=by
     unfold execOp;simp only [hop,resolve,hcal,hfu,Deferred.ofValue,Sem.run_bind,Sem.run_pure,Result.andThen_ok,invoke,callFunc,run_program,hfn,hname,hbody];simp
    unfold Oper.wp;rw [hr,Oper.upon_enter];refine (hcall K w0 w ρ _ hs hall).mono ?_
    rintro e w' ⟨u,ρ',rfl,he,hs',hd'⟩
    exact hK u w' ρ' he hs' hd'
   ·cases hf
  ·cases hf
 ·rename_i op hnc;split at hf
  ·rename_i v' hv;obtain ⟨rfl,rfl⟩:=zNb (zM8 hf);exact fin ((zGm h hv).does hs)
  ·exact fin (zH5 h hs (VT.out_opt hf))
theorem zH6 {o:Op} {v:AV} {st':St} (hf:zJv P tm st o=some (v,st')):st'.wr=st.wr:=by
 unfold zJv at hf;split at hf
 ·exact congrArg St.wr (zcR hf).2
 ·exact congrArg St.wr (zcR hf).2
 ·unfold zn2 at hf
  repeat' split at hf
  all_goals first
   |(cases hf;done)
   |(obtain ⟨_,rfl⟩:=zNb (zM8 hf);rfl)
 ·split at hf
  ·rename_i st1 hst;obtain ⟨_,rfl⟩:=zNb (zM8 hf);unfold zrM at hst
   repeat' split at hst
   all_goals first
    |(cases hst;done)
    |(obtain rfl:=zM8 hst;rfl)
  ·cases hf
 ·split at hf
  ·rename_i st1 hst;obtain ⟨_,rfl⟩:=zNb (zM8 hf);unfold zrM at hst
   repeat' split at hst
   all_goals first
    |(cases hst;done)
    |(obtain rfl:=zM8 hst;rfl)
  ·cases hf
 ·split at hf
  ·obtain ⟨_,rfl⟩:=zNb (zM8 hf);rfl
  ·unfold zxJ at hf
   repeat' split at hf
   all_goals first
    |(cases hf;done)
    |(obtain ⟨_,rfl⟩:=zNb (zM8 hf);rfl)
 ·unfold zy1 at hf
  repeat' split at hf
  all_goals first
   |(cases hf;done)
   |(obtain ⟨_,rfl⟩:=zNb (zM8 hf);rfl)
 ·unfold zKf at hf
  repeat' split at hf
  all_goals first
   |(cases hf;done)
   |(obtain ⟨_,rfl⟩:=zNb (zM8 hf);rfl)
 ·unfold zhF at hf
  repeat' split at hf
  all_goals first
   |(cases hf;done)
   |(obtain ⟨_,rfl⟩:=zNb (zM8 hf);rfl)
 ·unfold zjA at hf
  repeat' split at hf
  all_goals first
   |(cases hf;done)
   |(obtain ⟨_,rfl⟩:=zNb (zM8 hf);rfl)
 ·split at hf
  ·rename_i st1 hst;obtain ⟨_,rfl⟩:=zNb (zM8 hf);unfold zwR at hst
   repeat' split at hst
   all_goals first
    |(cases hst;done)
    |(obtain rfl:=zM8 hst;rfl)
  ·cases hf
 ·cases hf
theorem zHt {size bytes:Nat} {E:TypeId} {s v:AV} {n:Nat} {l:List AV} {st st':St} (hf:zI7 size bytes E s n l st=some (v,st')):st'.wr=st.wr:=by
 unfold zI7 at hf
 repeat' split at hf
 all_goals first
  |(cases hf;done)
  |(obtain ⟨_,rfl⟩:=zNb (zM8 hf);rfl)
theorem zJz {call:zbx} (hc:zdl P call) {o:Oper} {v:AV} {st':St} (hf:(opO P call o tm st).out=some (v,st')):st'.wr=st.wr:=by
 unfold opO at hf;split at hf
 ·rename_i c hop;split at hf
  ·rename_i b hb;split at hf
   ·split at hf
    ·have hf:=VT.out_opt hf;split at hf
     ·rename_i r hr0;obtain rfl:=zM8 hf;unfold zsE at hr0
      repeat' split at hr0
      all_goals first
       |(cases hr0;done)
       |(obtain ⟨_,rfl⟩:=zNb (zM8 hr0);rfl)
     ·unfold zsD at hf
      repeat' split at hf
      all_goals first
       |(cases hf;done)
       |exact zHt hf
    ·cases hf
   ·have hf:=VT.out_opt hf;unfold zFq at hf
    repeat' split at hf
    all_goals first
     |(cases hf;done)
     |(obtain ⟨_,rfl⟩:=zNb (zM8 hf);rfl)
   ·have hf:=VT.out_opt hf;split at hf
    ·rename_i r hr0;obtain rfl:=zM8 hf;unfold zze at hr0
     repeat' split at hr0
     all_goals first
      |(cases hr0;done)
      |(obtain ⟨_,rfl⟩:=zNb (zM8 hr0);rfl)
    ·exact congrArg St.wr (zcR hf).2
   ·exact congrArg St.wr (zcR (VT.out_opt hf)).2
  ·split at hf
   ·exact (hc _ _ _ _ _ hf).1
   ·exact (hc _ _ _ _ _ hf).1
   ·cases hf
  ·cases hf
 ·split at hf
  ·obtain ⟨rfl,rfl⟩:=zNb (zM8 hf);rfl
  ·exact zH6 (VT.out_opt hf)
theorem zlY {p:Bool} {v0 v:AV} {st st':St} {o:Oper} (h:(test p v0 st o).out=some (v,st')):p=true∧v=v0∧st'=st:=by
 unfold test at h;cases p with
 |true=>obtain ⟨rfl,rfl⟩:=zNb (zM8 h);exact ⟨rfl,rfl,rfl⟩
 |false=>cases h
theorem zdj {v0 v:AV} {st st':St} (h:(VT.ret (v0,st)).out=some (v,st')):v=v0∧st'=st:=by
 obtain ⟨rfl,rfl⟩:=zNb (zM8 h);exact ⟨rfl,rfl⟩
theorem zFw {o:Oper} {t:VT (AV×St)} {v:AV} {st':St} (h:TR ρ nt tm a) (hs:Sim K w0 ρ st w) (hf:zCE P tm st o=some t) (ho:t.out=some (v,st')):Does P K w0 w ρ st st' o a v∧st'=st:=by
 unfold zCE at hf;split at hf
 ·rename_i op ty x y yt hop;split at hf
  ·rename_i p v0 hd;obtain rfl:=zM8 hf;obtain ⟨hp,rfl,rfl⟩:=zlY ho;exact ⟨(zHC hop h hd hp).does hs,rfl⟩
  ·split at hf
   ·rename_i v0 hd;obtain rfl:=zM8 hf;obtain ⟨rfl,rfl⟩:=zdj ho;exact ⟨(zJc hop h hd).does hs,rfl⟩
   ·cases hf
 ·rename_i ty x i hop;split at hf
  ·rename_i p v0 hd;obtain rfl:=zM8 hf;obtain ⟨hp,rfl,rfl⟩:=zlY ho;exact ⟨(zA2 hop h hd hp).does hs,rfl⟩
  ·cases hf
 ·rename_i ty x i hop;split at hf
  ·rename_i p v0 hd;obtain rfl:=zM8 hf;obtain ⟨hp,rfl,rfl⟩:=zlY ho;exact ⟨(zEU hop h hd hp).does hs,rfl⟩
  ·cases hf
 ·rename_i ty x f hop;split at hf
  ·rename_i v0 hd;obtain rfl:=zM8 hf;obtain ⟨rfl,rfl⟩:=zdj ho;exact ⟨(zAX hop h hd).does hs,rfl⟩
  ·cases hf
 ·rename_i ty x lo hi mx hop;split at hf
  ·rename_i p v0 hd;obtain rfl:=zM8 hf;obtain ⟨hp,rfl,rfl⟩:=zlY ho;exact ⟨(zBY hop h hd hp).does hs,rfl⟩
  ·cases hf
 ·rename_i ty x hop;split at hf
  ·rename_i v0 hd;obtain rfl:=zM8 hf;obtain ⟨rfl,rfl⟩:=zdj ho;obtain ⟨u,hr,hdu⟩:=zvr hop h hs hd;exact ⟨⟨u,w,ρ, .inl hr, .refl _ ρ,hs,hdu⟩,rfl⟩
  ·cases hf
 ·rename_i c x y hop;split at hf
  ·rename_i b hb;obtain rfl:=zM8 hf;have hp:=zDM (P:=P) hop h (b:=b) (by rw [hb];rfl)
   cases b with
   |true=>obtain ⟨rfl,rfl⟩:=zdj ho;exact ⟨Yields.does hp hs,rfl⟩
   |false=>obtain ⟨rfl,rfl⟩:=zdj ho;exact ⟨Yields.does hp hs,rfl⟩
  ·cases hf
 ·rename_i c hop;split at hf
  ·rename_i b hb;split at hf
   ·rename_i v0 hd;obtain rfl:=zM8 hf;obtain ⟨rfl,rfl⟩:=zdj ho;exact ⟨(zFZ (zbY hop hb) h hd).does hs,rfl⟩
   ·cases hf
  ·cases hf
 ·cases hf
theorem Does.wp {o:Oper} {v:AV} {st':St} (h:Does P K w0 w ρ st st' o a v) {next:Act→World→Prop} {Q:Exit→Act→World→Prop} (hK:∀u w' ρ',Ext st.n st'.n ρ ρ'→Sim K w0 ρ' st' w'→den ρ' v u→next (a.put o.dst u) w'):o.wp P a w next Q:=by
 obtain ⟨u,w',ρ',hr,he,hs',hd⟩:=h;unfold Oper.wp;rcases hr with hr|⟨hr,rfl⟩
 ·rw [hr,Oper.upon_value];exact hK u w' ρ' he hs' hd
 ·rw [hr,Oper.upon_skip];exact hK _ w' ρ' he hs' hd
theorem zhc {x:Option (MP×AV×St)} {t:VT (AV×St)} {v:AV} {st':St} (hf:zGe x=some t) (ho:t.out=some (v,st')):∃p:MP,x=some (p,v,st')∧p.p:=by
 unfold zGe at hf;split at hf
 ·rename_i p v0 st0;obtain rfl:=zM8 hf;unfold VT.out at ho;split at ho
  ·rename_i hp;obtain ⟨rfl,rfl⟩:=zNb (zM8 ho);exact ⟨p,rfl,hp⟩
  ·cases ho
 ·cases hf
theorem zvv {t:TypeId} {x:AV} {kd:IntKind} {z:Int} {ok:Bool} {v:AV} {st':St}:∀{l:List Int},(zF9 P t x kd z ok st l).out=some (v,st')→zkp P t x (.lit (.int kd z)) ok st=some v∧st'=st
 |[],h=>by cases h
 |k::l,h=>by
  unfold zF9 at h;by_cases hz:z=k
  ·subst hz;simp only [VT.out,decide_true] at h;cases hv:zkp P t x (.lit (.int kd z)) ok st with
   |none=>rw [hv] at h;cases h
   |some v'=>
    rw [hv] at h;obtain ⟨rfl,rfl⟩:=zdj h;exact ⟨rfl,rfl⟩
  ·simp only [VT.out,hz,decide_false] at h;exact zvv h
theorem zvw {t:TypeId} {x k:AV} {ok:Bool} {v:AV} {st':St} {r:VT (AV×St)} (h:zH2 P t x k ok st=some r) (ho:r.out=some (v,st')):zkp P t x k ok st=some v∧st'=st:=by
 unfold zH2 at h;split at h
 ·split at h
  ·obtain rfl:=zM8 h;exact zvv ho
  ·cases h
 ·cases h
theorem zId {o:Oper} {t:VT (AV×St)} {v:AV} {st':St} (h:TR ρ nt tm a) (hs:Sim K w0 ρ st w) (hf:zIT P tm st o=some t) (ho:t.out=some (v,st')):Does P K w0 w ρ st st' o a v:=by
 unfold zIT at hf;split at hf
 ·rename_i ty x k ok hop;obtain ⟨hl,rfl⟩:=zvw hf ho;obtain ⟨u,hr,hd⟩:=zrL hop h hs hl;exact ⟨u,w,ρ, .inl hr, .refl _ ρ,hs,hd⟩
 ·rename_i ty x y hop;split at hf
  ·rename_i st1 hst;obtain rfl:=zM8 hf;obtain ⟨rfl,rfl⟩:=zdj ho;obtain ⟨w',ρ',hr,he,hs'⟩:=zB3 hop h hs hst;exact ⟨undef,w',ρ', .inr ⟨hr,rfl⟩,he,hs',by simp only [den]⟩
  ·split at hf
   ·rename_i p st1 hst;obtain rfl:=zM8 hf;obtain ⟨q,hx,hp⟩:=zhc (x:=some (p, .lit undef,st1)) rfl ho;obtain ⟨rfl,e⟩:=zNb (zM8 hx);obtain ⟨rfl,rfl⟩:=zNb e;obtain ⟨w',ρ',hr,he,hs'⟩:=zER hop h hs hst hp;exact ⟨undef,w',ρ', .inr ⟨hr,rfl⟩,he,hs',by simp only [den]⟩
   ·cases hf
 ·rename_i ty x hop;split at hf
  ·rename_i r hr;obtain rfl:=zM8 hf;obtain ⟨v1,st1⟩:=r;obtain ⟨rfl,rfl⟩:=zdj ho;obtain ⟨u,ρ',h1,h2,h3,h4,_⟩:=zF5 hop h hs hr;exact ⟨u,w,ρ', .inl h1,h2,h3,h4⟩
  ·cases hf
 ·rename_i ty l c hop;obtain ⟨p,hx,hp⟩:=zhc hf ho;obtain ⟨u,w',ρ',hr,he,hs',hd⟩:=zGb hop h hs hx hp;exact ⟨u,w',ρ', .inl hr,he,hs',hd⟩
 ·rename_i c hop;split at hf
  ·rename_i hcal;obtain ⟨p,hx,hp⟩:=zhc hf ho;obtain ⟨u,w',ρ',hr,he,hs',hd⟩:=zAm (zbY hop hcal) h hs hx hp;exact ⟨u,w',ρ', .inl hr,he,hs',hd⟩
  ·rename_i hcal;split at hf
   ·rename_i r hr;obtain rfl:=zM8 hf;obtain ⟨v1,st1⟩:=r;obtain ⟨rfl,rfl⟩:=zdj ho;obtain ⟨u,w',h1,h2,h3,h4⟩:=zFs (zbY hop hcal) h hs hr;exact ⟨u,w',ρ, .inl h1,h2,h3,h4⟩
   ·cases hf
  ·cases hf
 ·cases hf
theorem zIe {o:Oper} {t:VT (AV×St)} {v:AV} {st':St} (hf:zIT P tm st o=some t) (ho:t.out=some (v,st')):st'.wr=st.wr:=by
 unfold zIT at hf;split at hf
 ·obtain ⟨_,rfl⟩:=zvw hf ho;rfl
 ·rename_i ty x y hop;split at hf
  ·rename_i st1 hst;obtain rfl:=zM8 hf;obtain ⟨rfl,rfl⟩:=zdj ho;unfold zuj at hst
   repeat' split at hst
   all_goals first
    |(cases hst;done)
    |(obtain rfl:=zM8 hst;rfl)
  ·split at hf
   ·rename_i p st1 hst;obtain rfl:=zM8 hf;obtain ⟨q,hx,hp⟩:=zhc (x:=some (p, .lit undef,st1)) rfl ho;obtain ⟨rfl,e⟩:=zNb (zM8 hx);obtain ⟨rfl,rfl⟩:=zNb e;exact zES hst
   ·cases hf
 ·rename_i ty x hop;split at hf
  ·rename_i r hr;obtain rfl:=zM8 hf;obtain ⟨v1,st1⟩:=r;obtain ⟨rfl,rfl⟩:=zdj ho;exact zF6 hr
  ·cases hf
 ·obtain ⟨p,hx,hp⟩:=zhc hf ho;unfold zGa at hx
  repeat' split at hx
  all_goals first
   |(cases hx;done)
   |(rename_i hn;simp only [zNn,Prod.mk.injEq] at hx;obtain ⟨_,_,rfl⟩:=hx;exact ze7 hn)
 ·rename_i c hop;split at hf
  ·obtain ⟨p,hx,hp⟩:=zhc hf ho;exact zAn hx
  ·split at hf
   ·rename_i r hr;obtain rfl:=zM8 hf;obtain ⟨v1,st1⟩:=r;obtain ⟨rfl,rfl⟩:=zdj ho;exact zFt hr
   ·cases hf
  ·cases hf
 ·cases hf
theorem zG5 {o:Oper} {t:VT (AV×St)} (h:zLy P tm st o=some t):zIT P tm st o=some t:=by
 unfold zLy at h;split at h
 ·cases h
 ·exact h
theorem zG2 {call:zbx} (hc:zdl P call) {o:Oper} {v:AV} {st':St} (h:TR ρ nt tm a) (hs:Sim K w0 ρ st w) (hf:(opX P call o tm st).out=some (v,st'))
  {next:Act→World→Prop} {Q:Exit→Act→World→Prop} (hK:∀u w' ρ',Ext st.n st'.n ρ ρ'→Sim K w0 ρ' st' w'→den ρ' v u→next (a.put o.dst u) w'):o.wp P a w next Q:=by
 unfold opX at hf;split at hf
 ·rename_i t hd;exact (zId h hs (zG5 hd) hf).wp hK
 ·split at hf
  ·rename_i t hd;exact (zFw h hs hd hf).1.wp hK
  ·exact zJy hc h hs hf hK
theorem zFx {o:Oper} {t:VT (AV×St)} {v:AV} {st':St} (hf:zCE P tm st o=some t) (ho:t.out=some (v,st')):st'=st:=by
 unfold zCE at hf
 repeat' split at hf
 all_goals first
  |(cases hf;done)
  |(obtain rfl:=zM8 hf;exact (zlY ho).2.2)
  |(obtain rfl:=zM8 hf;exact (zdj ho).2)
  |(obtain rfl:=zM8 hf;rename_i b _;cases b<;>exact (zdj ho).2)
theorem zG3 {call:zbx} (hc:zdl P call) {o:Oper} {v:AV} {st':St} (hf:(opX P call o tm st).out=some (v,st')):st'.wr=st.wr:=by
 unfold opX at hf;split at hf
 ·rename_i t hd;exact zIe (zG5 hd) hf
 ·split at hf
  ·rename_i t hd;rw [zFx hd hf]
  ·exact zJz hc hf
theorem zzZ {all:List Oper} {o:Oper} {tm:T AV} {q:Bool} (h:zkL all o tm=some q) (t:Nat):(zG9 all o q tm).get t=tm.get t:=by
 unfold zG9;split
 ·rfl
 ·rename_i j want hg;unfold zkL at h;rw [hg] at h;simp only at h;split
  ·rename_i oj hj;rw [hj] at h;simp only at h;split
   ·rename_i d hd;rw [hd] at h;simp only at h;split
    ·rename_i b hb;rw [hb] at h;simp only [zNn] at h;rw [T.get_put];split
     ·rename_i e;rw [e,hb];subst h;cases want<;>cases b<;>rfl
     ·rfl
    ·rfl
   ·rfl
  ·rfl
theorem zyx {d:Nat} {c:Nat} {tm:T AV} {b:Bool}:∀{recs:List Re},(zj3 c tm recs).get d=some (.lit (.bool b))→zJL d c (.lit (.bool b)) recs=recs
 |[],_=>rfl
 |e::recs,h=>by
  simp only [zj3] at h;simp only [zJL];split
  ·rename_i d' hd;rw [hd] at h;simp only at h;split
   ·rename_i hdd;have hdd:=zM9 hdd;subst hdd;split
    ·rename_i v hm hv;rw [hm] at h;simp only [T.get_put,if_true] at h;have:=zM8 h;cases e;simp only at this;subst this;rfl
    ·rfl
   ·rename_i hdd;have hdd:d'≠d:=Nat.ne_of_beq_eq_false hdd;have:(zj3 c tm recs).get d=some (.lit (.bool b)):=by
     split at h
     ·rw [T.get_put,if_neg (fun e=>hdd e.symm)] at h;exact h
     ·rw [T.get_put,if_neg (fun e=>hdd e.symm)] at h;exact h
    rw [zyx this]
  ·rename_i hd;rw [hd] at h;rw [zyx h]
theorem TR.know {ρ:Rho} {nt:Nat} {tm:T AV} {a:Act} (h:TR ρ nt tm a) {c:Operand} {b:Bool} (hv:a.eval c= .bool b):TR ρ nt (zFX c b tm) a:=by
 unfold zFX;cases c with
 |tmp t=>
  refine ⟨h.1,fun u v e=>?_⟩;rw [T.get_put] at e;split at e
  ·rename_i e';subst e';obtain rfl:=zM8 e;simp only [den];exact hv
  ·exact h.2 u v e
 |_=>exact h
theorem ztz {c:Nat} {t:Nat} {tm:T AV}:∀{recs:List Re},zDs c t (tm.get t) recs=(zj3 c tm recs).get t
 |[]=>rfl
 |e::recs=>by
  simp only [zDs,zj3];split
  ·exact ztz
  ·rename_i d hd;split
   ·rename_i hb;have hb:=zM9 hb;subst hb;split<;>simp [T.get_put]
   ·rename_i hb;have hb:d≠t:=Nat.ne_of_beq_eq_false hb;rw [ztz];split<;>rw [T.get_put,if_neg (fun e=>hb e.symm)]
theorem zzF {i t:Nat} {tm:T AV}:∀{rest:List (Oper×Nat)},zBa i t (tm.get t) rest=(zj7 i tm rest).get t
 |[]=>rfl
 |(o,c)::l=>by
  have ih:=zzF (i:=i) (t:=t) (tm:=tm) (rest:=l);simp only [zBa,zj7];cases hd:o.dst with
  |none=>
   simp only;rw [ih];split
   ·rename_i e;cases e
   ·rfl
  |some d=>
   simp only;cases hb:Nat.beq d t with
   |true=>
    have hb:=zM9 hb;subst hb;simp only;cases zhB i c with
    |true=>simp only;exact ih
    |false=>simp [T.get_put]
   |false=>
    have hb:d≠t:=Nat.ne_of_beq_eq_false hb;simp only;cases zhB i c with
    |true=>simp only;exact ih
    |false=>simp only;rw [ih,T.get_put,if_neg (fun e=>hb e.symm)]
theorem ztI {f:Nat→Option AV}:∀{ts:List Nat} {t:Nat} {v:AV},(zBf f ts).get t=some v→f t=some v
 |[],t,v,h=>by simp [zBf,T.get_e] at h
 |u::ts,t,v,h=>by
  simp only [zBf] at h;split at h
  ·rename_i x hx;rw [T.get_put] at h;split at h
   ·rename_i e;subst e;rw [hx];exact h
   ·exact ztI h
  ·exact ztI h
theorem zuu {all:List Oper} {o:Oper} {c:Nat} {i:Nat} {tm0:T AV} {rest:List (Oper×Nat)} {recs:List Re} {t:Nat} {v:AV} (h:(zhA all o c i tm0 rest recs).get t=some v):(zj3 c (zj7 i tm0 rest) recs).get t=some v:=by
 have:=ztI h;simp only [zzF,ztz] at this;exact this
theorem zIo {all:List Oper} {o:Oper} {c:Nat} {tm tm':T AV} {q:Bool} {recs:List Re} (hsub:∀t v,tm'.get t=some v→(zj3 c tm recs).get t=some v) (h:zkL all o tm'=some q):zKv all o tm' c q recs=recs:=by
 unfold zKv;split
 ·rfl
 ·rename_i j want hg;unfold zkL at h;rw [hg] at h;simp only at h;split
  ·rename_i oj hj;rw [hj] at h;simp only at h;split
   ·rename_i d hd;rw [hd] at h;simp only at h;split
    ·rename_i b hb;rw [hb] at h;simp only [zNn] at h;refine zyx (tm:=tm) ?_;rw [hsub _ _ hb];subst h;cases want<;>cases b<;>rfl
    ·rfl
   ·rfl
  ·rfl
theorem zti {α:Type} {all:List Oper} {o:Oper} {tm:T AV} {A B:VT α} {r:α} (h:(gate o.guard (zkL all o tm) A B).out=some r):(zkL all o tm=some true∧A.out=some r)∨(zkL all o tm=some false∧B.out=some r):=by
 unfold gate at h;split at h
 ·rename_i hg;exact .inl ⟨by unfold zkL;rw [hg],h⟩
 ·split at h
  ·rename_i b hb;cases b with
   |true=>exact .inl ⟨hb,h⟩
   |false=>exact .inr ⟨hb,h⟩
  ·cases h
theorem zoi {ops:List Oper} {o:Oper} {b:Bool} (h:TR ρ nt tm a) (hf:zkL ops o tm=some b):Region.wanted o (yielded ops.toArray a.tmps)=b:=by
 unfold zkL at hf;unfold Region.wanted;split at hf
 ·rename_i hg;obtain rfl:=zM8 hf;simp only [hg]
 ·rename_i j want hg;simp only [hg];split at hf
  ·rename_i oj hj;rw [zei] at hj;have hj':ops.toArray[j]? =some oj:=by simpa using hj
   split at hf
   ·rename_i d hd;split at hf
    ·rename_i x hx;obtain rfl:=zM8 hf;have he:=h.2 d _ hx;simp only [den] at he;have hy:yielded ops.toArray a.tmps j=some x:=by
      unfold yielded;simp only [hj',Option.bind_some,hd];rw [Array.getD_eq_getD_getElem?] at he;cases ht:a.tmps[d]? with
      |none=>rw [ht] at he;cases he
      |some u=>rw [ht] at he;simp only [Option.getD_some] at he;subst he;rfl
     rw [hy];cases x<;>cases want<;>rfl
    ·rename_i u hne hx;obtain rfl:=zM8 hf;have he:=h.2 d _ hx;simp only [den] at he;have hy:yielded ops.toArray a.tmps j=none:=by
      unfold yielded;simp only [hj',Option.bind_some,hd];rw [Array.getD_eq_getD_getElem?] at he;cases ht:a.tmps[d]? with
      |none=>rfl
      |some u'=>
       rw [ht] at he;simp only [Option.getD_some] at he;subst he;cases u' with
       |bool x=>exact absurd rfl (hne x)
       |_=>rfl
     rw [hy];rfl
    ·cases hf
   ·rename_i hd;obtain rfl:=zM8 hf;unfold yielded;simp only [hj',Option.bind_some,hd,Option.bind_none];rfl
  ·rename_i hj;obtain rfl:=zM8 hf;rw [zei] at hj;have hj':ops.toArray[j]? =none:=by simpa using hj
   unfold yielded;simp only [hj',Option.bind_none];rfl
mutual
def AV.under (n:Nat):AV→Prop
 | .ptr b _=>b<n
 | .sl b _ _ _ _=>b<n
 | .mp b=>b<n
 | .lv i k _ _ _ _=>i<n∧k<n
 | .lw i k _ _ _=>i<n∧k<n
 | .ep i k _ _ _ _=>i<n∧k<n
 | .tre _ _ _ k=>k<n
 | .fn _ l=>belows n l
 | .bm _ l=>belows n l
 | .agg l=>belows n l
 | .tup l=>belows n l
 | .lit _| .sint _ _| .sbool _| .sstr _| .ver| .emp| .emz| .dead=>True
def belows (n:Nat):List AV→Prop
 |[]=>True
 |a::l=>a.under n∧belows n l
end
def Rho.cut (ρ:Rho) (n:Nat):Rho:=fun i=>if i<n then ρ i else none
theorem Rho.cut_le (ρ:Rho) (n:Nat):(ρ.cut n).le ρ:=fun i x h=>by
 unfold Rho.cut at h;split at h
 ·exact h
 ·cases h
mutual
theorem zoC {ρ:Rho} {n:Nat} (hn:∀k,ρ k≠none→k<n):∀{a:AV} {v:Value},den ρ a v→a.under n
 | .ptr b off,v,h=>by simp only [den] at h;obtain ⟨x,c,e,_⟩:=h;simp only [AV.under];exact hn b (by rw [e];simp)
 | .sl b off len cap op,v,h=>by simp only [den] at h;obtain ⟨x,c,e,_⟩:=h;simp only [AV.under];exact hn b (by rw [e];simp)
 | .mp b,v,h=>by simp only [den] at h;obtain ⟨x,c,e,_⟩:=h;simp only [AV.under];exact hn b (by rw [e];simp)
 | .fn _ l,v,h=>by simp only [den] at h;obtain ⟨vs,_,h⟩:=h;simp only [AV.under];exact dens_below hn h
 | .bm _ l,v,h=>by simp only [den] at h;obtain ⟨vs,_,h⟩:=h;simp only [AV.under];exact dens_below hn h
 | .agg l,v,h=>by simp only [den] at h;obtain ⟨vs,_,h⟩:=h;simp only [AV.under];exact dens_below hn h
 | .tup l,v,h=>by simp only [den] at h;obtain ⟨vs,_,h⟩:=h;simp only [AV.under];exact dens_below hn h
 | .lv ..,v,h=>by simp only [den] at h;obtain ⟨_,⟨x,c,y,d,h1,h2,_⟩,_⟩:=h;simp only [AV.under];exact ⟨hn _ (by rw [h1];simp),hn _ (by rw [h2];simp)⟩
 | .ep ..,v,h=>by simp only [den] at h;obtain ⟨_,⟨x,c,y,d,h1,h2,_⟩,_⟩:=h;simp only [AV.under];exact ⟨hn _ (by rw [h1];simp),hn _ (by rw [h2];simp)⟩
 | .tre ..,_,h=>by simp only [den] at h
 | .ver,_,h=>by simp only [den] at h
 | .sstr _,_,_=>by simp only [AV.under]
 | .lit _,_,_=>by simp only [AV.under]
 | .sint _ _,_,_=>by simp only [AV.under]
 | .sbool _,_,_=>by simp only [AV.under]
 | .emp,_,_=>by simp only [AV.under]
 | .emz,_,_=>by simp only [AV.under]
 | .lw ..,v,h=>by simp only [den] at h;obtain ⟨_,⟨x,c,y,d,h1,h2,_⟩,_⟩:=h;simp only [AV.under];exact ⟨hn _ (by rw [h1];simp),hn _ (by rw [h2];simp)⟩
 | .dead,_,_=>by simp only [AV.under]
theorem dens_below {ρ:Rho} {n:Nat} (hn:∀k,ρ k≠none→k<n):∀{l:List AV} {vs:List Value},dens ρ l vs→belows n l
 |[],_,_=>by simp only [belows]
 |a::l,_,h=>by simp only [dens] at h;obtain ⟨v,vs,_,h1,h2⟩:=h;simp only [belows];exact ⟨zoC hn h1,dens_below hn h2⟩
end
theorem hdrOf.cut {ρ:Rho} {n i k:Nat} {p:Path} {g:Hdr} (h:hdrOf ρ i k p g) (hi:i<n) (hk:k<n):hdrOf (ρ.cut n) i k p g:=by
 obtain ⟨x,c,y,d,h1,h2,h3⟩:=h;exact ⟨x,c,y,d,by simp only [Rho.cut,hi,if_true];exact h1,by simp only [Rho.cut,hk,if_true];exact h2,h3⟩
mutual
theorem zCG {ρ:Rho} {n:Nat}:∀{a:AV} {v:Value},den ρ a v→a.under n→den (ρ.cut n) a v
 | .ptr b off,v,h,hb=>by simp only [AV.under] at hb;simp only [den] at h ⊢;obtain ⟨x,c,e,r⟩:=h;exact ⟨x,c,by simp only [Rho.cut,hb,if_true];exact e,r⟩
 | .sl b off len cap op,v,h,hb=>by simp only [AV.under] at hb;simp only [den] at h ⊢;obtain ⟨x,c,e,r⟩:=h;exact ⟨x,c,by simp only [Rho.cut,hb,if_true];exact e,r⟩
 | .mp b,v,h,hb=>by simp only [AV.under] at hb;simp only [den] at h ⊢;obtain ⟨x,c,e,r⟩:=h;exact ⟨x,c,by simp only [Rho.cut,hb,if_true];exact e,r⟩
 | .fn _ l,v,h,hb=>by simp only [AV.under] at hb;simp only [den] at h ⊢;obtain ⟨vs,e,h⟩:=h;exact ⟨vs,e,dens_cut h hb⟩
 | .bm _ l,v,h,hb=>by simp only [AV.under] at hb;simp only [den] at h ⊢;obtain ⟨vs,e,h⟩:=h;exact ⟨vs,e,dens_cut h hb⟩
 | .agg l,v,h,hb=>by simp only [AV.under] at hb;simp only [den] at h ⊢;obtain ⟨vs,e,h⟩:=h;exact ⟨vs,e,dens_cut h hb⟩
 | .tup l,v,h,hb=>by simp only [AV.under] at hb;simp only [den] at h ⊢;obtain ⟨vs,e,h⟩:=h;exact ⟨vs,e,dens_cut h hb⟩
 | .lv ..,v,h,hb=>by simp only [AV.under] at hb;simp only [den] at h ⊢;obtain ⟨g,h1,h2⟩:=h;exact ⟨g,h1.cut hb.1 hb.2,h2⟩
 | .ep ..,v,h,hb=>by simp only [AV.under] at hb;simp only [den] at h ⊢;obtain ⟨g,h1,h2⟩:=h;exact ⟨g,h1.cut hb.1 hb.2,h2⟩
 | .tre ..,_,h,_=>by simp only [den] at h
 | .ver,_,h,_=>by simp only [den] at h
 | .sstr _,_,h,_=>by simpa only [den] using h
 | .lit _,_,h,_=>by simpa only [den] using h
 | .sint _ _,_,h,_=>by simpa only [den] using h
 | .sbool _,_,h,_=>by simpa only [den] using h
 | .emp,_,h,_=>by simpa only [den] using h
 | .emz,_,h,_=>by simpa only [den] using h
 | .lw ..,v,h,hb=>by simp only [AV.under] at hb;simp only [den] at h ⊢;obtain ⟨g,h1,h2⟩:=h;exact ⟨g,h1.cut hb.1 hb.2,h2⟩
 | .dead,_,_,_=>by simp only [den]
theorem dens_cut {ρ:Rho} {n:Nat}:∀{l:List AV} {vs:List Value},dens ρ l vs→belows n l→dens (ρ.cut n) l vs
 |[],_,h,_=>by simpa only [dens] using h
 |a::l,_,h,hb=>by simp only [belows] at hb;simp only [dens] at h ⊢;obtain ⟨v,vs,e,h1,h2⟩:=h;exact ⟨v,vs,e,zCG h1 hb.1,dens_cut h2 hb.2⟩
end
mutual
theorem zmc {n m:Nat} (hnm:n≤m):∀{a:AV},a.under n→a.under m
 | .ptr b off,hb=>by simp only [AV.under] at hb ⊢;omega
 | .sl b off len cap op,hb=>by simp only [AV.under] at hb ⊢;omega
 | .mp b,hb=>by simp only [AV.under] at hb ⊢;omega
 | .lv ..,hb=>by simp only [AV.under] at hb ⊢;omega
 | .ep ..,hb=>by simp only [AV.under] at hb ⊢;omega
 | .tre ..,hb=>by simp only [AV.under] at hb ⊢;omega
 | .ver,_=>by simp only [AV.under]
 | .sstr _,_=>by simp only [AV.under]
 | .fn _ l,hb=>by simp only [AV.under] at hb ⊢;exact belows_mono hnm hb
 | .bm _ l,hb=>by simp only [AV.under] at hb ⊢;exact belows_mono hnm hb
 | .agg l,hb=>by simp only [AV.under] at hb ⊢;exact belows_mono hnm hb
 | .tup l,hb=>by simp only [AV.under] at hb ⊢;exact belows_mono hnm hb
 | .lit _,_=>by simp only [AV.under]
 | .sint _ _,_=>by simp only [AV.under]
 | .sbool _,_=>by simp only [AV.under]
 | .emp,_=>by simp only [AV.under]
 | .emz,_=>by simp only [AV.under]
 | .lw ..,hb=>by simp only [AV.under] at hb ⊢;omega
 | .dead,_=>by simp only [AV.under]
theorem belows_mono {n m:Nat} (hnm:n≤m):∀{l:List AV},belows n l→belows m l
 |[],_=>by simp only [belows]
 |a::l,hb=>by simp only [belows] at hb ⊢;exact ⟨zmc hnm hb.1,belows_mono hnm hb.2⟩
end
theorem zo8 {i:Nat}:∀{l:List Nat},mem i l=true↔i∈l
 |[]=>by simp [mem]
 |j::l=>by
  simp only [mem];by_cases h:i=j
  ·subst h;simp
  ·rw [zeT h];simp [h,zo8 (l:=l)]
def lk (D:List (Nat×Bk)) (k:Nat):Option Bk:=(zhx .e D).get k
theorem zct (h:T Bk):∀(D:List (Nat×Bk)) (k:Nat),(zhx h D).get k=match lk D k with|some b=>some b|none=>h.get k
 |[],k=>by simp [zhx,lk,T.get_e]
 |(i,bk)::D,k=>by
  have ih:=zct h D k;unfold lk at ih ⊢;simp only [zhx,T.get_put];by_cases hk:k=i
  ·rw [if_pos hk,if_pos hk]
  ·rw [if_neg hk,if_neg hk,ih]
theorem zx1 (h:T Bk) (lo:Nat):∀(c k:Nat),lk (news h lo c) k=if lo≤k∧k<lo+c then h.get k else none
 |0,k=>by rw [if_neg (by omega)];simp [news,lk,zhx,T.get_e]
 |c+1,k=>by
  have ih:=zx1 h lo c k;have hlo:Nat.add lo c=lo+c:=rfl;simp only [news,hlo];cases e:h.get (lo+c) with
  |none=>
   simp only;rw [ih];by_cases hk:k=lo+c
   ·subst hk;rw [if_neg (by omega),if_pos (by omega),e]
   ·by_cases h1:lo≤k∧k<lo+c
    ·rw [if_pos h1,if_pos (by omega)]
    ·rw [if_neg h1,if_neg (by omega)]
  |some bk=>
   simp only [lk,zhx,T.get_put];by_cases hk:k=lo+c
   ·subst hk;rw [if_pos rfl,if_pos (by omega),e]
   ·rw [if_neg hk];have:((zhx .e (news h lo c)).get k)=lk (news h lo c) k:=rfl;rw [this,ih];by_cases h1:lo≤k∧k<lo+c
    ·rw [if_pos h1,if_pos (by omega)]
    ·rw [if_neg h1,if_neg (by omega)]
def lkT:List (Nat×Option Bk)→Nat→Option (Option Bk)
 |[],_=>none
 |(b,x)::l,k=>if k=b then some x else lkT l k
theorem zcJ (h:T Bk):∀(tg:List (Nat×Option Bk)) (k:Nat),(zDO h tg).get k=match lkT tg k with|some x=>x|none=>h.get k
 |[],k=>rfl
 |(b,x)::l,k=>by
  simp only [zDO,T.get_put,lkT];by_cases hk:k=b
  ·rw [if_pos hk,if_pos hk]
  ·rw [if_neg hk,if_neg hk];exact zcJ h l k
theorem ziJ (h:T Bk):∀(tg:List (Nat×Option Bk)) (k:Nat),(zGj h tg).get k=match lkT tg k with|some _=>none|none=>h.get k
 |[],k=>rfl
 |(b,x)::l,k=>by
  simp only [zGj,T.get_put,lkT];by_cases hk:k=b
  ·rw [if_pos hk,if_pos hk]
  ·rw [if_neg hk,if_neg hk];exact ziJ h l k
theorem zhN:∀{tg:List (Nat×Option Bk)} {k:Nat} {x:Option Bk},lkT tg k=some x→(k,x)∈tg
 |[],_,_,h=>nomatch h
 |(b,y)::l,k,x,h=>by
  simp only [lkT] at h;split at h
  ·rename_i hk;subst hk;obtain rfl:=zM8 h;simp
  ·simp [zhN h]
theorem zDm (h:T Bk):∀(bs:List Nat) (k:Nat),lkT (tgV h bs) k=if k∈bs then some (h.get k) else none
 |[],k=>by simp [tgV,lkT]
 |b::l,k=>by
  simp only [tgV,lkT,zDm h l k];by_cases hk:k=b
  ·subst hk;simp
  ·simp [hk]
theorem zup {h:T Bk}:∀{bs:List Nat} {p:Nat×Option Bk},p∈tgV h bs→p.1∈bs∧p.2=h.get p.1
 |[],_,hp=>nomatch hp
 |b::l,p,hp=>by
  simp only [tgV] at hp;rcases List.mem_cons.1 hp with rfl|hp
  ·exact ⟨by simp,rfl⟩
  ·exact ⟨by simp [(zup hp).1],(zup hp).2⟩
theorem zzP {b:Nat} {x:Option Bk}:∀{tg:List (Nat×Option Bk)},offB b tg=true→(b,x)∉tg
 |[],_=>by simp
 |(b',y)::l,h=>by
  simp only [offB] at h;split at h
  ·cases h
  ·rename_i hb;intro hm;rcases List.mem_cons.1 hm with hm|hm
   ·obtain ⟨rfl,_⟩:=zNb hm;simp at hb
   ·exact zzP h hm
theorem zfq {h:T Bk}:∀{l:List Nat} {k:Nat} {bk:Bk},(ztc h l).get k=some bk→h.get k=some bk∧k∉l
 |[],k,bk,e=>⟨e,by simp⟩
 |b::l,k,bk,e=>by
  simp only [ztc,T.get_put] at e;split at e
  ·cases e
  ·rename_i hk;obtain ⟨h1,h2⟩:=zfq e;exact ⟨h1,by simp [hk,h2]⟩
theorem zE1 {b i j:Nat}:∀{pre:List (Nat×Nat×Nat)},told b i j pre=true→i<j→b∈zrJ i pre
 |[],h,_=>nomatch h
 |p::l,h,hij=>by
  obtain ⟨pj,pc,pb⟩:=p;simp only [told] at h;simp only [zrJ];split at h
  ·rename_i h1 h2 h3;have h1:=zM9 h1;have h2:=zM9 h2;subst h1;subst h2;have:Nat.blt i pj=true:=by simpa [Nat.blt_eq] using hij
   rw [this,h3];simp
  ·have ih:=zE1 h hij;split
   ·simp [ih]
   ·exact ih
theorem zqi {i b:Nat} {c:Nat} {pre:List (Nat×Nat×Nat)}:∀{recs:List Re} {e:Re},zBZ i c pre b recs=true→e∈recs→zhB e.i c=true∨zvi e.o=true∨zKq b e.rd=true∨(told b e.i i pre=true∧offB b e.tg=true)
 |[],_,_,h=>nomatch h
 |x::recs,e,hs,he=>by
  simp only [zBZ,Bool.and_eq_true,Bool.or_eq_true] at hs;rcases List.mem_cons.1 he with rfl|he
  ·rcases hs.1 with h|h|h
   ·exact .inl h
   ·exact .inr (.inl h)
   ·exact .inr (.inr (h.imp id id))
  ·exact zqi hs.2 he
section
variable (P:Program) [Fast P] (own:Nat→Bool) (call:zbx) (all:List Oper) (pre:List (Nat×Nat×Nat)) (tm0:T AV) (h0:T Bk) (wr:Nat→Bool) (n0:Nat)
structure Ran (e:Re) (recs:List Re) (tm:T AV) (h:T Bk) (b:List Nat) (st':St):Prop where
 run:(opX P call e.o tm ⟨h,e.n,wrX e.n b⟩).out=some (e.v,st')
 num:e.m=st'.n
 made:e.D=news st'.h e.n (st'.n - e.n)
 tg:e.tg=tgV st'.h b
 soon:zEJ e.i e.c pre recs b=true
 rd:e.rd=zp7 e.o tm
structure Entry (e:Re) (recs:List Re) (rest:List (Oper×Nat)):Prop where
 idx:e.i=recs.length
 le:e.n≤e.m
 how:(zkL all e.o (zhA all e.o e.c e.i tm0 rest recs)=some false∧e.v= .lit undef∧e.D=[]∧e.tg=[])∨
  (zkL all e.o (zhA all e.o e.c e.i tm0 rest recs)=some true∧
   ∃st',Ran P call pre e recs (zhA all e.o e.c e.i tm0 rest recs) (ztl e.o e.i e.c pre h0 recs (zp7 e.o (zhA all e.o e.c e.i tm0 rest recs))) (zKB own e.o (zhA all e.o e.c e.i tm0 rest recs) (ztl e.o e.i e.c pre h0 recs (zp7 e.o (zhA all e.o e.c e.i tm0 rest recs))) wr) st')
def Ok:List (Oper×Nat)→List Re→Nat→Prop
 |_,[],n=>n=n0
 |rest,e::recs,n=>n=e.m∧Entry P own call all pre tm0 h0 wr e recs rest∧Ok ((e.o,e.c)::rest) recs e.n
end
section
variable {P:Program} [Fast P] {own:Nat→Bool} {call:zbx} {all:List Oper} {pre:List (Nat×Nat×Nat)} {tm0:T AV} {h0:T Bk} {wr:Nat→Bool} {n0:Nat}
theorem ztb:∀(l:List (Oper×Nat)) (recs:List Re) (n:Nat) {m:Nat} {R:List Re},Ok P own call all pre tm0 h0 wr n0 l recs n→
  (zAN P own call all pre tm0 h0 wr l recs.length n recs).out=some (m,R)→Ok P own call all pre tm0 h0 wr n0 [] R m∧R.reverse.map (fun e=>(e.o,e.c))=recs.reverse.map (fun e=>(e.o,e.c))++l
 |[],recs,n,m,R,hok,h=>by
  simp only [zAN,VT.out] at h;obtain ⟨rfl,rfl⟩:=zNb (zM8 h);exact ⟨hok,by simp⟩
 |(o,c)::rest,recs,n,m,R,hok,h=>by
  simp only [zAN,zkZ,za3,zu6,zoQ,zu7] at h;rcases zti h with ⟨hw,h⟩|⟨hw,h⟩<;>rw [zIo (tm:=zj7 recs.length tm0 rest) (fun t v h=>zuu h) hw] at h
  ·obtain ⟨⟨v,st'⟩,hr,h⟩:=VT.out_bind_some h;simp only at h;split at h
   ·rename_i hs;simp only [Bool.and_eq_true] at hs;obtain ⟨h1,h2⟩:=ztb rest (⟨recs.length,o,c,n,st'.n,v,news st'.h n (Nat.sub st'.n n),tgV st'.h (zKB own o (zhA all o c recs.length tm0 rest recs) (ztl o recs.length c pre h0 recs (zp7 o (zhA all o c recs.length tm0 rest recs))) wr),zp7 o (zhA all o c recs.length tm0 rest recs)⟩::recs) st'.n (by
     simp only [Ok];exact ⟨trivial,⟨rfl,zNc hs.2, .inr ⟨hw,st',hr,rfl,rfl,rfl,hs.1,rfl⟩⟩,hok⟩) (by simpa using h)
    exact ⟨h1,by rw [h2];simp⟩
   ·cases h
  ·obtain ⟨h1,h2⟩:=ztb rest (⟨recs.length,o,c,n,n, .lit undef,[],[],none⟩::recs) n (by
    simp only [Ok];exact ⟨trivial,⟨rfl,zNm n, .inl ⟨hw,rfl,rfl,rfl⟩⟩,hok⟩) (by simpa using h)
   exact ⟨h1,by rw [h2];simp⟩
variable {rest:List (Oper×Nat)} {recs R:List Re} {e:Re} {n m:Nat}
theorem zk9 {h:T Bk} {b:Nat}:∀{l:List Nat},b∈zDg h wr l→wr b=true∧∃bk,h.get b=some bk
 |[],hm=>nomatch hm
 |x::l,hm=>by
  simp only [zDg] at hm;split at hm
  ·rename_i hw hb;rcases List.mem_cons.1 hm with rfl|hm
   ·exact ⟨hw,_,hb⟩
   ·exact zk9 hm
  ·exact zk9 hm
theorem zwJ {i b:Nat} {c:Nat}:∀{l:List Nat},zEJ i c pre recs l=true→b∈l→zBZ i c pre b recs=true
 |[],_,h=>nomatch h
 |x::l,hs,h=>by
  simp only [zEJ,Bool.and_eq_true] at hs;rcases List.mem_cons.1 h with rfl|h
  ·exact hs.1
  ·exact zwJ hs.2 h
theorem zrF {o:Oper} {i:Nat} {c:Nat} {rd:Option Nat} {k:Nat} {bk:Bk} (h:(ztl o i c pre h0 recs rd).get k=some bk):zvi o=false∧(zh5 c h0 recs).get k=some bk∧k∉zrJ i pre∧∀b,rd=some b→k=b:=by
 unfold ztl at h;split at h
 ·rw [T.get_e] at h;cases h
 ·rename_i hp;cases rd with
  |none=>exact ⟨hp,(zfq h).1,(zfq h).2,fun _ e=>nomatch e⟩
  |some b=>
   simp only [zJx] at h;split at h
   ·rename_i bk' hb;rw [T.get_put] at h;split at h
    ·rename_i hk;subst hk;obtain rfl:=zM8 h;exact ⟨hp,(zfq hb).1,(zfq hb).2,fun _ e=>zM8 e⟩
    ·rw [T.get_e] at h;cases h
   ·rw [T.get_e] at h;cases h
theorem Entry.tgt (he:Entry P own call all pre tm0 h0 wr e recs rest) {b:Nat} {x:Option Bk} (ht:(b,x)∈e.tg):
  zvi e.o=false∧wr b=true∧(∃bk,(zh5 e.c h0 recs).get b=some bk)∧zBZ e.i e.c pre b recs=true∧∀b',e.rd=some b'→b=b':=by
 rcases he.how with ⟨_,_,_,h⟩|⟨_,st',h⟩
 ·rw [h] at ht;cases ht
 ·rw [h.tg] at ht;obtain ⟨hb,hx⟩:=zup ht;simp only at hb hx;obtain ⟨hw,bk,hbk⟩:=zk9 hb;obtain ⟨hp,hv,_,hr⟩:=zrF hbk;exact ⟨hp,hw,⟨bk,hv⟩,zwJ h.soon hb,fun b' he=>hr b' (by rw [←h.rd];exact he)⟩
theorem Entry.made_in (he:Entry P own call all pre tm0 h0 wr e recs rest) {k:Nat} {bk:Bk} (h:lk e.D k=some bk):e.n≤k∧k<e.m:=by
 rcases he.how with ⟨_,_,hD,_⟩|⟨_,st',hr⟩
 ·rw [hD] at h;simp [lk,zhx,T.get_e] at h
 ·rw [hr.made,zx1] at h;split at h
  ·rename_i hk;have:=hr.num;have:=he.le;omega
  ·cases h
theorem Ok.le:∀{recs:List Re} {rest:List (Oper×Nat)} {n:Nat},Ok P own call all pre tm0 h0 wr n0 rest recs n→n0≤n
 |[],_,_,h=>by simp only [Ok] at h;omega
 |e::recs,_,_,h=>by simp only [Ok] at h;have:=Ok.le h.2.2;have:=h.2.1.le;omega
theorem Ok.in_:∀{recs:List Re} {rest:List (Oper×Nat)} {n:Nat},Ok P own call all pre tm0 h0 wr n0 rest recs n→∀e∈recs,n0≤e.n∧e.n≤e.m∧e.m≤n∧e.i<recs.length
 |[],_,_,_,_,h=>nomatch h
 |x::recs,_,_,h,e,he=>by
  simp only [Ok] at h;have hx:=h.2.1.idx;have hle:=h.2.1.le;rcases List.mem_cons.1 he with rfl|he
  ·exact ⟨h.2.2.le,hle,by omega,by simp [hx]⟩
  ·have:=Ok.in_ h.2.2 e he;refine ⟨this.1,this.2.1,by omega,by simp;omega⟩
theorem Ok.split:∀{later:List Re} {rest:List (Oper×Nat)} {m:Nat},Ok P own call all pre tm0 h0 wr n0 rest (later++e::recs) m→
  Entry P own call all pre tm0 h0 wr e recs (later.reverse.map (fun e=>(e.o,e.c))++rest)∧Ok P own call all pre tm0 h0 wr n0 ((e.o,e.c)::(later.reverse.map (fun e=>(e.o,e.c))++rest)) recs e.n∧
  ∀x∈later,e.m≤x.n∧e.i<x.i∧x.n≤x.m∧∃recs' rest',e∈recs'∧Entry P own call all pre tm0 h0 wr x recs' rest'∧Ok P own call all pre tm0 h0 wr n0 ((x.o,x.c)::rest') recs' x.n∧∃l2,recs'=l2++e::recs∧∀y∈l2,y∈later
 |[],rest,m,h=>by
  simp only [List.nil_append,Ok] at h;exact ⟨h.2.1,h.2.2,fun _ hx=>nomatch hx⟩
 |y::later,rest,m,h=>by
  simp only [List.cons_append,Ok] at h;obtain ⟨h1,h2,h3⟩:=h;obtain ⟨h4,h5,h6⟩:=Ok.split h3;have hrw:later.reverse.map (fun e=>(e.o,e.c))++(y.o,y.c)::rest=(y::later).reverse.map (fun e=>(e.o,e.c))++rest:=by simp
  rw [hrw] at h4 h5;refine ⟨h4,h5,fun x hx=>?_⟩;rcases List.mem_cons.1 hx with rfl|hx
  ·have hin:=Ok.in_ h3 e (by simp)
   exact ⟨hin.2.2.1,by rw [h2.idx];exact hin.2.2.2,h2.le,later++e::recs,rest,by simp,h2,h3,later,rfl,fun y hy=>by simp [hy]⟩
  ·obtain ⟨a1,a2,a3,recs',rest',a4,a5,a6,l2,a7,a8⟩:=h6 x hx;exact ⟨a1,a2,a3,recs',rest',a4,a5,a6,l2,a7,fun y hy=>by simp [a8 y hy]⟩
theorem zut (hk0:∀k bk,h0.get k=some bk→k<n0):∀{recs:List Re} {rest:List (Oper×Nat)} {n:Nat},Ok P own call all pre tm0 h0 wr n0 rest recs n→∀(c:Nat) {k:Nat} {bk:Bk},(zh5 c h0 recs).get k=some bk→k<n
 |[],_,n,h,c,k,bk,hk=>by simp only [Ok] at h;have:=hk0 k bk hk;omega
 |e::recs,_,n,h,c,k,bk,hk=>by
  simp only [Ok] at h;obtain ⟨rfl,h2,h3⟩:=h;have hle:=h2.le;have ih:∀c bk,(zh5 c h0 recs).get k=some bk→k<e.m:=fun c bk hk=>zNd (zut hk0 h3 c hk) hle;have hD:∀h:T Bk,(zhx h e.D).get k=some bk→k<e.m∨h.get k=some bk:=fun h hx=>by
   rw [zct] at hx;split at hx
   ·rename_i hl;exact .inl (h2.made_in hl).2
   ·exact .inr hx
  simp only [zh5] at hk;split at hk
  ·rw [zcJ] at hk;split at hk
   ·rename_i x htg;obtain ⟨_,_,⟨bk',hb⟩,_⟩:=h2.tgt (zhN htg);exact ih _ _ hb
   ·rcases hD _ hk with h|h
    ·exact h
    ·exact ih _ _ h
  ·rw [ziJ] at hk;split at hk
   ·cases hk
   ·exact ih _ _ hk
end
section
variable {P:Program} [Fast P] {own:Nat→Bool} {call:zbx} {all:List Oper} {pre:List (Nat×Nat×Nat)} {tm0 tm:T AV} {h0:T Bk} {wr:Nat→Bool} {n0:Nat}
variable {rest:List (Oper×Nat)} {recs R later:List Re} {e:Re} {n m k t i:Nat} {bk:Bk} {v:AV} {c:Nat} {L L':Nat→Bool}
theorem ztw (h:Entry P own call all pre tm0 h0 wr e recs rest) (hk:k<e.n∨e.m≤k):lk e.D k=none:=by
 cases hl:lk e.D k with
 |none=>rfl
 |some bk=>have:=h.made_in hl;omega
theorem zqG (hk0:∀k bk,h0.get k=some bk→k<n0) (hc:∀k,zhB k c=true→L k=true):∀{recs:List Re} {rest:List (Oper×Nat)} {n:Nat},Ok P own call all pre tm0 h0 wr n0 rest recs n→
  (zh5 c h0 recs).get k=some bk→(zjV L h0 recs).get k=some bk
 |[],_,_,_,hk=>hk
 |e::recs,_,_,h,hk=>by
  simp only [Ok] at h;obtain ⟨_,h2,h3⟩:=h;simp only [zh5] at hk;split at hk
  ·rename_i hm;simp only [zjV,hc _ hm];rw [zcJ,zct] at hk ⊢;cases htg:lkT e.tg k with
   |some x=>rw [htg] at hk;exact hk
   |none=>
    rw [htg] at hk;simp only at hk ⊢;cases hl:lk e.D k with
    |some b=>rw [hl] at hk;exact hk
    |none=>rw [hl] at hk;exact zqG hk0 hc h3 hk
  ·have hk':(zh5 c h0 recs).get k=some bk∧lkT e.tg k=none:=by
    rw [ziJ] at hk;cases htg:lkT e.tg k with
    |some x=>rw [htg] at hk;cases hk
    |none=>rw [htg] at hk;exact ⟨hk,rfl⟩
   have ih:=zqG hk0 hc h3 hk'.1;simp only [zjV];split
   ·rw [zcJ,hk'.2,zct,ztw h2 (.inl (zut hk0 h3 c hk'.1))];exact ih
   ·exact ih
theorem zw1 (hk0:∀k bk,h0.get k=some bk→k<n0):∀{recs:List Re} {rest:List (Oper×Nat)} {n:Nat},Ok P own call all pre tm0 h0 wr n0 rest recs n→
  (∀x∈recs,L x.i=true→∀k,zhB k x.c=true→L k=true)→∀(c:Nat) {k:Nat} {bk:Bk},(∀k,zhB k c=true→L k=true)→(zh5 c h0 recs).get k=some bk→k<n0∨∃x∈recs,L x.i=true∧x.n≤k∧k<x.m
 |[],_,_,_,_,c,k,bk,_,hk=> .inl (hk0 _ _ hk)
 |e::recs,_,_,h,hcl,c,k,bk,hc,hk=>by
  simp only [Ok] at h;obtain ⟨_,h2,h3⟩:=h;have up:(k<n0∨∃x∈recs,L x.i=true∧x.n≤k∧k<x.m)→k<n0∨∃x∈e::recs,L x.i=true∧x.n≤k∧k<x.m:=fun h=>h.imp id fun ⟨x,hx,r⟩=>⟨x,by simp [hx],r⟩
  have ih:∀c bk,(∀k,zhB k c=true→L k=true)→(zh5 c h0 recs).get k=some bk→k<n0∨∃x∈e::recs,L x.i=true∧x.n≤k∧k<x.m:=fun c bk hc hk=>up (zw1 hk0 h3 (fun x hx=>hcl x (by simp [hx])) c hc hk)
  simp only [zh5] at hk;split at hk
  ·rename_i hm;rw [zcJ,zct] at hk;have hD:(match lk e.D k with|some b=>some b|none=>(zh5 c h0 recs).get k)=some bk→k<n0∨∃x∈e::recs,L x.i=true∧x.n≤k∧k<x.m:=fun hx=>by
    cases hl:lk e.D k with
    |some b=>exact .inr ⟨e,by simp,hc _ hm,h2.made_in hl⟩
    |none=>rw [hl] at hx;exact ih c _ hc hx
   cases htg:lkT e.tg k with
   |none=>rw [htg] at hk;exact hD hk
   |some x=>
    obtain ⟨_,_,⟨bk',hb⟩,_⟩:=h2.tgt (zhN htg);exact ih e.c _ (hcl e (by simp) (hc _ hm)) hb
  ·rw [ziJ] at hk;cases htg:lkT e.tg k with
   |none=>rw [htg] at hk;exact ih c _ hc hk
   |some x=>rw [htg] at hk;cases hk
def Stat (L:Nat→Bool) (recs:List Re):Prop:=∀x∈recs,L x.i=true→x.v.under x.m∧(∀k bk,lk x.D k=some bk→belows x.m bk.cells)∧∀b bk,(b,some bk)∈x.tg→belows x.m bk.cells
theorem zqH (hb0:∀k bk,h0.get k=some bk→belows n0 bk.cells) (hc:∀k,zhB k c=true→L k=true):∀{recs:List Re} {rest:List (Oper×Nat)} {n:Nat},Ok P own call all pre tm0 h0 wr n0 rest recs n→Stat L recs→
  (zh5 c h0 recs).get k=some bk→belows n bk.cells
 |[],_,_,h,_,hk=>by simp only [Ok] at h;subst h;exact hb0 _ _ hk
 |e::recs,_,_,h,hst,hk=>by
  simp only [Ok] at h;obtain ⟨rfl,h2,h3⟩:=h;have ih:(zh5 c h0 recs).get k=some bk→belows e.m bk.cells:=fun hk=>belows_mono h2.le (zqH hb0 hc h3 (fun x hx=>hst x (by simp [hx])) hk)
  simp only [zh5] at hk;split at hk
  ·rename_i hm;obtain ⟨_,s2,s3⟩:=hst e (by simp) (hc _ hm)
   rw [zcJ,zct] at hk;have hD:(match lk e.D k with|some b=>some b|none=>(zh5 c h0 recs).get k)=some bk→belows e.m bk.cells:=fun hx=>by
    cases hl:lk e.D k with
    |some b=>rw [hl] at hx;obtain rfl:=zM8 hx;exact s2 _ _ hl
    |none=>rw [hl] at hx;exact ih hx
   cases htg:lkT e.tg k with
   |none=>rw [htg] at hk;exact hD hk
   |some x=>rw [htg] at hk;simp only at hk;subst hk;exact s3 _ _ (zhN htg)
  ·rw [ziJ] at hk;cases htg:lkT e.tg k with
   |none=>rw [htg] at hk;exact ih hk
   |some x=>rw [htg] at hk;cases hk
theorem zl5:∀{recs:List Re},(zj3 c tm recs).get t=some v→tm.get t=some v∨∃x∈recs,zhB x.i c=true∧v=x.v
 |[],h=> .inl h
 |e::recs,h=>by
  have up:(tm.get t=some v∨∃x∈recs,zhB x.i c=true∧v=x.v)→tm.get t=some v∨∃x∈e::recs,zhB x.i c=true∧v=x.v:=fun h=>h.imp id fun ⟨x,hx,r⟩=>⟨x,by simp [hx],r⟩
  simp only [zj3] at h;split at h
  ·exact up (zl5 h)
  ·split at h
   ·rename_i hm;rw [T.get_put] at h;split at h
    ·exact .inr ⟨e,by simp,hm,(zM8 h).symm⟩
    ·exact up (zl5 h)
   ·rw [T.get_put] at h;split at h
    ·cases h
    ·exact up (zl5 h)
theorem zl4 (hc:∀k,zhB k c=true→L k=true) (hs:∀t v,tm.get t=some v→tm0.get t=some v):∀{recs:List Re},(zj3 c tm recs).get t=some v→(zkh L tm0 recs).get t=some v
 |[],h=>hs _ _ h
 |e::recs,h=>by
  simp only [zj3] at h;simp only [zkh];split at h
  ·rename_i hd;have:=zl4 hc hs h;split
   ·rename_i hd';rw [hd] at hd';cases hd'
   ·exact this
  ·rename_i d hd;split at h
   ·rename_i hm;simp only [hc _ hm,hd];rw [T.get_put] at h ⊢;split
    ·rename_i ht;rw [if_pos ht] at h;exact h
    ·rename_i ht;rw [if_neg ht] at h;exact zl4 hc hs h
   ·rw [T.get_put] at h;split at h
    ·cases h
    ·rename_i ht;have:=zl4 hc hs h;split
     ·rename_i d' _ hd';rw [hd] at hd';obtain rfl:=zM8 hd';rw [T.get_put,if_neg ht];exact this
     ·exact this
theorem zsy (hn:tm.get t=none):∀{recs:List Re},(∀x∈recs,x.o.dst≠some t)→(zj3 c tm recs).get t=none
 |[],_=>hn
 |e::recs,h=>by
  have ih:=zsy hn (recs:=recs) fun x hx=>h x (by simp [hx])
  have he:=h e (by simp)
  simp only [zj3];split
  ·exact ih
  ·rename_i d hd;have:t≠d:=fun e=>he (e▸hd);split<;>rw [T.get_put,if_neg this]<;>exact ih
theorem zjz:∀{rest:List (Oper×Nat)},(zj7 i tm rest).get t=some v→tm.get t=some v
 |[],h=>h
 |(o,c)::rest,h=>by
  simp only [zj7] at h;split at h
  ·rw [T.get_put] at h;split at h
   ·cases h
   ·exact zjz h
  ·exact zjz h
theorem zoW {o:Oper}:∀{rest:List (Oper×Nat)},(o,c)∈rest→zhB i c=false→o.dst=some t→(zj7 i tm rest).get t=none
 |[],h,_,_=>nomatch h
 |(o',c')::rest,h,hm,hd=>by
  simp only [zj7];rcases List.mem_cons.1 h with he|h
  ·obtain ⟨rfl,rfl⟩:=zNb he;rw [hm,hd];simp only;rw [T.get_put,if_pos rfl]
  ·have ih:=zoW h hm hd;split
   ·rw [T.get_put];split
    ·rfl
    ·exact ih
   ·exact ih
theorem zma:∀{later:List Re},(∀x∈later,L x.i=true→x.o.dst≠some t)→(zkh L tm0 (later++R)).get t=(zkh L tm0 R).get t
 |[],_=>rfl
 |x::later,h=>by
  have ih:=zma (later:=later) fun y hy=>h y (by simp [hy])
  have hx:=h x (by simp)
  simp only [List.cons_append,zkh];split
  ·rename_i d hL hd;rw [T.get_put,if_neg (by rintro rfl;exact hx hL hd)]
   exact ih
  ·exact ih
theorem zl9:∀{recs:List Re},(∀x∈recs,L x.i=L' x.i)→zkh L tm0 recs=zkh L' tm0 recs
 |[],_=>rfl
 |x::recs,h=>by simp only [zkh,h x (by simp),zl9 (recs:=recs) fun y hy=>h y (by simp [hy])]
theorem zl8:∀{recs:List Re},(∀x∈recs,L x.i=L' x.i)→zjV L h0 recs=zjV L' h0 recs
 |[],_=>rfl
 |x::recs,h=>by simp only [zjV,h x (by simp),zl8 (recs:=recs) fun y hy=>h y (by simp [hy])]
theorem zFd (hd:e.o.dst=some t) (hL:L e.i=true):(zkh L tm0 (e::recs)).get t=some e.v:=by simp only [zkh,hL,hd,T.get_put,if_pos]
theorem zuD (hne:e.o.dst≠some t) (h1:∀x∈recs,L' x.i=L x.i):∀{later:List Re},(∀x∈later,L' x.i=L x.i)→(zkh L' tm0 (later++e::recs)).get t=(zkh L tm0 (later++e::recs)).get t
 |[],_=>by
  have hc:=zl9 (tm0:=tm0) h1;have key:∀L:Nat→Bool,(zkh L tm0 (e::recs)).get t=(zkh L tm0 recs).get t:=fun L=>by
   simp only [zkh];split
   ·rename_i d _ hd;rw [T.get_put,if_neg (by rintro rfl;exact hne hd)]
   ·rfl
  simp only [List.nil_append,key,hc]
 |x::later,h=>by
  have ih:=zuD hne h1 (later:=later) fun y hy=>h y (by simp [hy])
  simp only [List.cons_append,zkh,h x (by simp)]
  split
  ·simp only [T.get_put,ih]
  ·exact ih
theorem zjs:∀{later:List Re},(∀x∈later,L x.i=true→lk x.D k=none∧lkT x.tg k=none)→(zjV L h0 (later++R)).get k=(zjV L h0 R).get k
 |[],_=>rfl
 |x::later,h=>by
  have ih:=zjs (later:=later) fun y hy=>h y (by simp [hy])
  simp only [List.cons_append,zjV];split
  ·rename_i hL;obtain ⟨h1,h2⟩:=h x (by simp) hL
   rw [zcJ,h2,zct,h1];exact ih
  ·exact ih
theorem zkN (hD:lk e.D k=none) (hT:lkT e.tg k=none) (h1:∀x∈recs,L' x.i=L x.i):∀{later:List Re},(∀x∈later,L' x.i=L x.i)→(zjV L' h0 (later++e::recs)).get k=(zjV L h0 (later++e::recs)).get k
 |[],_=>by
  have hc:=zl8 (h0:=h0) h1;have key:∀L:Nat→Bool,(zjV L h0 (e::recs)).get k=(zjV L h0 recs).get k:=fun L=>by
   simp only [zjV];split
   ·rw [zcJ,hT,zct,hD]
   ·rfl
  simp only [List.nil_append,key,hc]
 |x::later,h=>by
  have ih:=zkN hD hT h1 (later:=later) fun y hy=>h y (by simp [hy])
  simp only [List.cons_append,zjV,h x (by simp)]
  split
  ·simp only [zcJ,zct,ih]
  ·exact ih
structure Fix (P:Program) [Fast P] (own:Nat→Bool) (call:zbx) (all:List Oper) (pre:List (Nat×Nat×Nat)) (tm0:T AV) (h0:T Bk) (wr:Nat→Bool) (n0:Nat) (R:List Re) (m nt:Nat):Prop where
 ok:Ok P own call all pre tm0 h0 wr n0 [] R m
 keys:∀k bk,h0.get k=some bk→k<n0
 cells:∀k bk,h0.get k=some bk→belows n0 bk.cells
 tmps:∀t v,tm0.get t=some v→v.under n0
 dst:∀e∈R,∀d,e.o.dst=some d→d<nt
 apart:R.Pairwise fun e e'=>∀d,e.o.dst=some d→e'.o.dst≠some d
 pos:0<n0
structure Inv (tm0:T AV) (h0:T Bk) (wr:Nat→Bool) (n0:Nat) (R:List Re) (m nt:Nat) (K:KS) (w0:World) (ρ0:Rho) (ds:List Deferred) (L:Nat→Bool) (ρ:Rho) (a:Act) (w:World):Prop where
 closed:∀x∈R,L x.i=true→∀k,zhB k x.c=true→L k=true
 tr:TR ρ nt (zkh L tm0 R) a
 sim:Sim K w0 ρ ⟨zjV L h0 R,m,wr⟩ w
 free:∀e∈R,L e.i=false→∀k,e.n≤k→k<e.m→ρ k=none
 ext:Ext n0 m ρ0 ρ
 ds:a.defers=ds
 stat:Stat L R
theorem TR.congr {ρ:Rho} {nt:Nat} {tm tm':T AV} {a:Act} (h:TR ρ nt tm a) (he:∀t v,tm'.get t=some v→tm.get t=some v):TR ρ nt tm' a:=⟨h.1,fun t v hv=>h.2 t v (he t v hv)⟩
theorem zjG (a:Act) (d:Option Tmp) (v:Value):(a.put d v).defers=a.defers:=by cases d<;>rfl
theorem Mr.cut {ρ:Rho} (hn:0<n) {y:Nat} (h:Mr ρ y):Mr (ρ.cut n) y:=let ⟨x,c,e1,e2⟩:=h;⟨x,c,by simp only [Rho.cut,hn,if_true];exact e1,e2⟩
theorem BkR.cut {ρ:Rho} {w:World} {S F:Nat→Prop} {x:Nat} {c:Cap} {bk:Bk} (h:BkR ρ w S F x c bk) (hb:belows n bk.cells):BkR (ρ.cut n) w S F x c bk:=by
 refine ⟨fun hn=>?_,fun hn=>?_⟩
 ·obtain ⟨hF,vs,rest,h1,h2⟩:=h.1 hn;exact ⟨hF,vs,rest,dens_cut h1 hb,h2⟩
 ·have h2:=h.2 hn;cases hk:zu bk.cells with
  |tree own t xs k=>
   rw [hk] at h2;have h3:TreeR ρ w S F x c own t xs k:=h2;obtain ⟨y,d,h4,h5⟩:=h3.hds;have hkn:k<n:=by
    rw [zoU hk] at hb;simp only [belows,AV.under] at hb;exact hb.1
   exact ⟨h3.len,h3.own.more fun _=>Mr.cut (by omega),h3.lt,y,d,by simp only [Rho.cut,hkn,if_true];exact h4,h5⟩
  |ver=>rw [hk] at h2;exact h2
  |verp k=>
   rw [hk] at h2;obtain ⟨_,e⟩:=zoV hk;rw [e] at hb;simp only [belows,AV.under] at hb;obtain ⟨h3,y,d,h4,h5⟩:=h2;exact ⟨h3,y,d,by simp only [Rho.cut,hb.2.1,if_true];exact h4,h5⟩
  |pend ow t xs k i kk p sz idx cell j=>
   rw [hk] at h2;obtain ⟨q,e⟩:=zvl hk;rw [e] at hb;simp only [belows,AV.under] at hb;obtain ⟨g,b,T,cs,xj,cj,h1,h2,h3,h4,h5,h6,h7⟩:=h2;obtain ⟨y,d,h8,h9⟩:=h7.hds;obtain ⟨x1,c1,y1,d1,a1,a2,a3⟩:=h1;exact ⟨g,b,T,cs,xj,cj,⟨x1,c1,y1,d1,by simp only [Rho.cut,hb.2.1.1,if_true];exact a1,by simp only [Rho.cut,hb.2.1.2,if_true];exact a2,a3⟩,h2,h3,h4,h5,by simp only [Rho.cut,hb.2.2.1,if_true];exact h6,h7.len,h7.own.more fun _=>Mr.cut (by have:=hb.1;omega),h7.lt,y,d,by simp only [Rho.cut,hb.1,if_true];exact h8,h9⟩
  |map=>
   rw [hk] at h2;obtain ⟨hF,vs,n',h1,h2⟩:=h2;exact ⟨hF,vs,n',dens_cut h1 hb,h2⟩
theorem BkR.belows {ρ:Rho} {w:World} {S F:Nat→Prop} {x:Nat} {c:Cap} {bk:Bk} (h:BkR ρ w S F x c bk) (hn:∀k,ρ k≠none→k<n):belows n bk.cells:=by
 by_cases hop:bk.op=some 0
 ·have h2:=h.2 hop;cases hk:zu bk.cells with
  |tree own t xs k=>
   rw [hk] at h2;obtain ⟨y,d,h4,h5⟩:=TreeR.hds h2;have hkn:=hn k (by rw [h4];simp)
   rw [zoU hk];simp only [Go.Proofs.YtiepllpgifnloaaGreat.Vx.belows,AV.under];exact ⟨hkn,trivial⟩
  |ver=>
   rw [zzC hk];simp only [Go.Proofs.YtiepllpgifnloaaGreat.Vx.belows,AV.under];exact ⟨trivial,trivial⟩
  |verp k=>
   rw [hk] at h2;obtain ⟨_,e⟩:=zoV hk;rw [e];obtain ⟨h3,y,d,h4,h5⟩:=h2;simp only [Go.Proofs.YtiepllpgifnloaaGreat.Vx.belows,AV.under];exact ⟨trivial,hn k (by rw [h4];simp),trivial,trivial⟩
  |pend ow t xs k i kk p sz idx cell j=>
   rw [hk] at h2;obtain ⟨q,e⟩:=zvl hk;rw [e];obtain ⟨g,b,T,cs,xj,cj,h1,h2,h3,h4,h5,h6,h7⟩:=h2;obtain ⟨y,d,h8,h9⟩:=h7.hds;obtain ⟨x1,c1,y1,d1,a1,a2,a3⟩:=h1;simp only [Go.Proofs.YtiepllpgifnloaaGreat.Vx.belows,AV.under];exact ⟨hn k (by rw [h8];simp),⟨hn i (by rw [a1];simp),hn kk (by rw [a2];simp)⟩,hn j (by rw [h6];simp),trivial⟩
  |map=>
   rw [hk] at h2;obtain ⟨hF,vs,n',h1,h2⟩:=h2;exact dens_below hn h1
 ·obtain ⟨hF,vs,rest,h1,h2⟩:=h.1 hop;exact dens_below hn h1
end
end Go.Proofs.YtiepllpgifnloaaGreat.Vx

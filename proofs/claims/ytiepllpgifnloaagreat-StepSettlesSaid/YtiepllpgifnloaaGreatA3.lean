/- A library of the proof, and the functions' values and contracts. -/
import Derived.Test.YtiepllpgifnloaaGreatA2
set_option linter.unusedSimpArgs false
set_option linter.unusedVariables false
set_option linter.unusedSectionVars false
set_option linter.defProp false
namespace Go.Proofs.YtiepllpgifnloaaGreat.Vx
open Go.RowKit
section
variable {P:Program} [Fast P] {own:Nat→Bool} {call:zbx} {all:List Oper} {pre:List (Nat×Nat×Nat)} {tm0 tm:T AV} {h0:T Bk} {wr:Nat→Bool} {n0:Nat}
variable {recs R later:List Re} {e:Re} {n m nt:Nat} {L L':Nat→Bool}
variable {K:KS} {w0 w:World} {ρ0 ρ:Rho} {ds:List Deferred} {a:Act}
theorem Inv.step (hcall:zdl P call) (F:Fix P own call all pre tm0 h0 wr n0 R m nt) (hI:Inv tm0 h0 wr n0 R m nt K w0 ρ0 ds L ρ a w) (hR:R=later++e::recs) (hLe:L e.i=false)
  (hc:∀k,zhB k e.c=true→L k=true) (hL1:L' e.i=true) (hL2:∀j,j≠e.i→L' j=L j) (Q:Exit→Act→World→Prop):
  if Region.wanted e.o (yielded all.toArray a.tmps)=true then e.o.wp P a w (fun a' w'=>∃ρ',Inv tm0 h0 wr n0 R m nt K w0 ρ0 ds L' ρ' a' w') Q
  else ∃ρ',Inv tm0 h0 wr n0 R m nt K w0 ρ0 ds L' ρ' (a.put e.o.dst undef) w:=by
 subst hR;have hok0:=F.ok;obtain ⟨hE,hok,hlat⟩:=hok0.split;have hinR:=F.ok.in_;have heR:e∈later++e::recs:=by simp
 have hrecs:=hok.in_;have hidx:=hE.idx;have l2l:∀x∈later,L' x.i=L x.i:=fun x hx=>hL2 _ (by have:=(hlat x hx).2.1;omega)
 have l2r:∀x∈recs,L' x.i=L x.i:=fun x hx=>hL2 _ (by have:=(hrecs x hx).2.2.2;omega)
 have up:∀k,L k=true→L' k=true:=fun k hk=>by
  by_cases h:k=e.i
  ·rw [h];exact hL1
  ·rw [hL2 k h];exact hk
 obtain ⟨_,hap1,hap2⟩:=List.pairwise_append.1 F.apart;have hap3:=(List.pairwise_cons.1 hap1).1;have hnot:∀x∈later,L x.i=true→zhB e.i x.c=false:=fun x hx hLx=>by
  cases hm:zhB e.i x.c with
  |false=>rfl
  |true=>have:=hI.closed x (by simp [hx]) hLx _ hm;rw [hLe] at this;cases this
 have skipT:∀t,(zkh L tm0 (e::recs)).get t=(zkh L tm0 recs).get t:=fun t=>by simp only [zkh,hLe]
 have skipH:∀t,(zjV L h0 (e::recs)).get t=(zjV L h0 recs).get t:=fun t=>by simp only [zjV,hLe]
 have TV:∀t v,(zhA all e.o e.c e.i tm0 (later.reverse.map (fun e=>(e.o,e.c))++[]) recs).get t=some v→(zkh L tm0 (later++e::recs)).get t=some v:=by
  intro t v h;have h:=zuu h;have h1:=zl4 hc (fun t v h=>zjz h) h;rw [zma,skipT]
  ·exact h1
  ·intro x hx hLx hd;have hn:=zoW (tm:=tm0) (rest:=later.reverse.map (fun e=>(e.o,e.c))++[]) (o:=x.o) (c:=x.c) (by simp;exact ⟨x,hx,rfl,rfl⟩) (hnot x hx hLx) hd
   have:=zsy (c:=e.c) hn (recs:=recs) fun y hy=>hap2 x hx y (by simp [hy]) t hd
   rw [this] at h;cases h
 have UN:∀t v,(zhA all e.o e.c e.i tm0 (later.reverse.map (fun e=>(e.o,e.c))++[]) recs).get t=some v→v.under e.n:=by
  intro t v h;have h:=zuu h;rcases zl5 h with h|⟨x,hx,hm,rfl⟩
  ·exact zmc (hinR e heR).1 (F.tmps t v (zjz h))
  ·exact zmc (hrecs x hx).2.2.1 (hI.stat x (by simp [hx]) (hc _ hm)).1
 have closed':∀x∈later++e::recs,L' x.i=true→∀k,zhB k x.c=true→L' k=true:=fun x hx hLx k hk=>by
  rcases List.mem_append.1 hx with h|h
  ·rw [l2l x h] at hLx;exact up k (hI.closed x hx hLx k hk)
  ·rcases List.mem_cons.1 h with rfl|h
   ·exact up k (hc k hk)
   ·rw [l2r x h] at hLx;exact up k (hI.closed x hx hLx k hk)
 have newT:∀t v,(zkh L' tm0 (later++e::recs)).get t=some v→if e.o.dst=some t then v=e.v else (zkh L tm0 (later++e::recs)).get t=some v:=by
  intro t v h;split
  ·rename_i hd;rw [zma (fun x hx _=>fun hx'=>hap2 x hx e (by simp) t hx' hd),zFd hd hL1] at h
   exact (zM8 h).symm
  ·rename_i hd;rw [zuD hd l2r l2l] at h;exact h
 have htr0:TR (ρ.cut e.n) nt (zhA all e.o e.c e.i tm0 (later.reverse.map (fun e=>(e.o,e.c))++[]) recs) a:=⟨hI.tr.1,fun t v h=>zCG (hI.tr.2 t v (TV t v h)) (UN t v h)⟩;have newTR:∀ρ'' u,ρ.le ρ''→den ρ'' e.v u→TR ρ'' nt (zkh L' tm0 (later++e::recs)) (a.put e.o.dst u):=by
  intro ρ'' u hle hd;cases hdst:e.o.dst with
  |none=>
   refine (hI.tr.mono hle).congr fun t v h=>?_;have:=newT t v h;rw [hdst,if_neg (by simp)] at this
   exact this
  |some d=>
   refine ((hI.tr.mono hle).put (F.dst e heR d hdst) hd).congr fun t v h=>?_;have:=newT t v h;rw [hdst] at this;rw [T.get_put];by_cases ht:t=d
   ·subst ht;rw [if_pos rfl] at this ⊢;rw [this]
   ·rw [if_neg (by simpa using fun e=>ht e.symm)] at this;rw [if_neg ht];exact this
 rcases hE.how with ⟨hw,hv,hD,hT⟩|⟨hw,st',hr⟩
 ·rw [if_neg (by rw [zoi htr0 hw];simp)]
  refine ⟨ρ,closed',newTR ρ undef (.refl ρ) (by rw [hv];simp only [den]),?_,fun x hx hLx=>?_,hI.ext,by rw [zjG];exact hI.ds,fun x hx hLx=>?_⟩
  ·refine hI.sim.less _ (fun k bk hk=>?_) (zNm _) fun _ h=>h;rw [zkN (by rw [hD];rfl) (by rw [hT];rfl) l2r l2l] at hk
   exact hk
  ·refine hI.free x hx ?_;by_cases hxe:x.i=e.i
   ·rw [hxe,hL1] at hLx;cases hLx
   ·rw [hL2 _ hxe] at hLx;exact hLx
  ·rcases List.mem_append.1 hx with h|h
   ·rw [l2l x h] at hLx;exact hI.stat x hx hLx
   ·rcases List.mem_cons.1 h with rfl|h
    ·rw [hv,hD,hT];exact ⟨by simp only [AV.under],fun k bk h=>by simp [lk,zhx,T.get_e] at h,fun b bk h=>(by cases h)⟩
    ·rw [l2r x h] at hLx;exact hI.stat x hx hLx
 ·rw [if_pos (zoi htr0 hw)];have HV:∀k bk,(ztl e.o e.i e.c pre h0 recs (zp7 e.o (zhA all e.o e.c e.i tm0 (later.reverse.map (fun e=>(e.o,e.c))++[]) recs))).get k=some bk→(zjV L h0 (later++e::recs)).get k=some bk∧k<e.n∧belows e.n bk.cells:=by
   intro k bk hk;obtain ⟨hp,hk,hnl,hrd⟩:=zrF hk;have hlt:=zut F.keys hok e.c hk;refine ⟨?_,hlt,zqH F.cells hc hok (fun x hx=>hI.stat x (by simp [hx])) hk⟩
   rw [zjs,skipH]
   ·exact zqG F.keys hc hok hk
   ·intro x hx hLx;obtain ⟨h1,h2,h3,recs',rest',h4,h5,h6,l2,h7,h8⟩:=hlat x hx;refine ⟨ztw h5 (.inl (by have:=hE.le;omega)),?_⟩
    cases htg:lkT x.tg k with
    |none=>rfl
    |some y=>
    exfalso;obtain ⟨_,_,_,hs,_⟩:=h5.tgt (zhN htg);rcases zqi hs h4 with h|h|h|⟨h,_⟩
    ·rw [hnot x hx hLx] at h;cases h
    ·rw [hp] at h;cases h
    ·rw [hr.rd] at h;cases hrx:zp7 e.o (zhA all e.o e.c e.i tm0 (later.reverse.map (fun e=>(e.o,e.c))++[]) recs) with
     |none=>rw [hrx] at h;cases h
     |some b'=>rw [hrx] at h;rw [hrd b' hrx] at h;simp [zKq] at h
    ·exact hnl (zE1 h h2)
  generalize hb:zKB own e.o (zhA all e.o e.c e.i tm0 (later.reverse.map (fun e=>(e.o,e.c))++[]) recs) (ztl e.o e.i e.c pre h0 recs (zp7 e.o (zhA all e.o e.c e.i tm0 (later.reverse.map (fun e=>(e.o,e.c))++[]) recs))) wr=b at hr;obtain ⟨So,Fo,hF⟩:=hI.sim;have hbt:∀b',b'∈b→∃bk,(zjV L h0 (later++e::recs)).get b'=some bk∧b'<e.n∧wr b'=true∧∀y,Fo b' y→¬K.k y:=by
   intro b' hb';rw [←hb] at hb';obtain ⟨hwb,bk,hbk⟩:=zk9 hb';obtain ⟨h1,h2,_⟩:=HV _ _ hbk;obtain ⟨xb,cb,h3,_,h4⟩:=hF.blk _ _ h1;exact ⟨bk,h1,h2,hwb,h4 hwb⟩
  let Kb:Nat→Prop:=fun y=>y<w.heap.size∧∀b',b'∈b→¬Fo b' y;have hKK:∀y,K.k y→Kb y:=fun y hy=>⟨hF.ltw y hy,fun b' hb' hy'=>by
   obtain ⟨_,_,_,_,h2⟩:=hbt b' hb';exact h2 y hy' hy⟩
  have hSK:∀y,So y→Kb y:=fun y hy=>⟨hF.sl y hy,fun b' hb' hy'=>by
   obtain ⟨bk,h1,_,h2,_⟩:=hbt b' hb';exact hF.sd b' bk y h1 h2 hy' hy⟩
  have hsim:Sim ⟨Kb,So,K.p⟩ w (ρ.cut e.n) ⟨ztl e.o e.i e.c pre h0 recs (zp7 e.o (zhA all e.o e.c e.i tm0 (later.reverse.map (fun e=>(e.o,e.c))++[]) recs)),e.n,wrX e.n b⟩ w:=by
   refine ⟨So,Fo,Kp.refl _ w,fun y hy=>hy.1,fun _ h=>h,fun _ h _=>h,hF.sl,fun k bk hk=>?_,fun k bk y hk hwk hy=>?_,fun i j bi bj y hi hj hij hw hyi hyj=>?_,fun i hi=>?_,zNd F.pos (hinR e heR).1,fun z cz e0=>?_⟩
   ·obtain ⟨h1,h2,h3⟩:=HV k bk hk;obtain ⟨x,c,h4,h5,_⟩:=hF.blk k bk h1;refine ⟨x,c,by simp only [Rho.cut,h2,if_true];exact h4,h5.cut h3,fun hwr y hy hK=>?_⟩
    simp only [wrX] at hwr;split at hwr
    ·rename_i h;have:=zNc h;omega
    ·exact hK.2 _ (zo8.1 hwr) hy
   ·obtain ⟨h1,h2,_⟩:=HV k bk hk;simp only [wrX] at hwk;split at hwk
    ·rename_i h;have:=zNc h;omega
    ·obtain ⟨_,_,_,h,_⟩:=hbt k (zo8.1 hwk);exact hF.sd k bk y h1 h hy
   ·obtain ⟨h1,h2,_⟩:=HV _ _ hi;obtain ⟨g1,g2,_⟩:=HV _ _ hj;have key:∀k,k<e.n→wrX e.n b k=true→wr k=true:=fun k hk hw=>by
     simp only [wrX] at hw;split at hw
     ·rename_i h;have:=zNc h;omega
     ·obtain ⟨_,_,_,h,_⟩:=hbt k (zo8.1 hw);exact h
    exact hF.sep i j bi bj y h1 g1 hij (hw.imp (key i h2) (key j g2)) hyi hyj
   ·simp only [Rho.cut] at hi;split at hi
    ·assumption
    ·exact absurd rfl hi
   ·simp only [Rho.cut] at e0;split at e0
    ·exact ⟨(hF.pn.2 z cz e0).1,fun y hy=>hKK y ((hF.pn.2 z cz e0).2 y hy)⟩
    ·cases e0
  refine zG2 hcall htr0 hsim hr.run (fun u w' ρ' hext hs' hd=>?_);have hwr':st'.wr=wrX e.n b:=zG3 hcall hr.run;have hm:=hr.num;have hdom:∀k,ρ' k≠none→k<e.m:=fun k hk=>by rw [hm];exact hs'.dom k hk
  have hfree:=hI.free e heR hLe;have eq1:∀k,¬(e.n≤k∧k<e.m)→(fun k=>if e.n≤k∧k<e.m then ρ' k else ρ k) k=ρ k:=fun k hk=>if_neg hk
  generalize hρ'':(fun k=>if e.n≤k∧k<e.m then ρ' k else ρ k:Rho)=ρ'' at eq1
  have le1:ρ.le ρ'':=fun k x h=>by
   rw [←hρ''];simp only;split
   ·rename_i hk;rw [hfree k hk.1 hk.2] at h;cases h
   ·exact h
  have le2:ρ'.le ρ'':=fun k x h=>by
   have hk:=hdom k (by rw [h];simp)
   rw [←hρ''];simp only;split
   ·exact h
   ·have:ρ' k=(ρ.cut e.n) k:=hext.same k (show k<e.n by omega)
    rw [this] at h;exact Rho.cut_le ρ _ _ _ h
  have hlk:∀k,lk e.D k=if e.n≤k∧k<e.m then st'.h.get k else none:=fun k=>by
   rw [hr.made,zx1];have:=hE.le;by_cases h:e.n≤k∧k<e.m
   ·rw [if_pos h,if_pos (by omega)]
   ·rw [if_neg h,if_neg (by omega)]
  have htgk:∀k y,(k,y)∈e.tg→k∈b∧y=st'.h.get k:=fun k y h=>by
   rw [hr.tg] at h;exact zup h
  have hlt:∀k,lkT e.tg k=if k∈b then some (st'.h.get k) else none:=fun k=>by rw [hr.tg,zDm]
  have hcls:∀k bk,(zjV L' h0 (later++e::recs)).get k=some bk→(st'.h.get k=some bk∧(k∈b∨(e.n≤k∧k<e.m)))∨((zjV L h0 (later++e::recs)).get k=some bk∧k∉b∧¬(e.n≤k∧k<e.m)):=by
   intro k bk hk;by_cases hbk:k∈b
   ·have htg:lkT e.tg k=some (st'.h.get k):=by rw [hlt,if_pos hbk]
    obtain ⟨hp,_,_,_,htgr⟩:=hE.tgt (zhN htg);obtain ⟨_,_,hkn,_⟩:=hbt k hbk;rw [zjs] at hk
    ·simp only [zjV,hL1] at hk;rw [zcJ,htg] at hk;exact .inl ⟨hk, .inl hbk⟩
    ·intro x hx hLx;rw [l2l x hx] at hLx;obtain ⟨h1,h2,h3,recs',rest',h4,h5,h6,l2,h7,h8⟩:=hlat x hx;refine ⟨ztw h5 (.inl (by have:=hE.le;omega)),?_⟩
     cases htg':lkT x.tg k with
     |none=>rfl
     |some y=>
     exfalso;obtain ⟨_,_,_,hs,_⟩:=h5.tgt (zhN htg');rcases zqi hs h4 with h|h|h|⟨_,h⟩
     ·rw [hnot x hx hLx] at h;cases h
     ·rw [hp] at h;cases h
     ·cases hrx:e.rd with
      |none=>rw [hrx] at h;cases h
      |some b'=>rw [hrx,htgr b' hrx] at h;simp [zKq] at h
     ·exact zzP h (zhN htg)
   ·by_cases hin:e.n≤k∧k<e.m
    ·have hnt:lkT e.tg k=none:=by rw [hlt,if_neg hbk]
     cases hst:st'.h.get k with
     |none=>
      rw [zkN (by rw [hlk,if_pos hin,hst]) hnt l2r l2l] at hk
      obtain ⟨x,c,hx,_⟩:=hF.blk k bk hk;rw [hfree k hin.1 hin.2] at hx;cases hx
     |some z=>
      rw [zjs] at hk
      ·simp only [zjV,hL1] at hk;rw [zcJ,hnt,zct,hlk,if_pos hin,hst] at hk;exact .inl ⟨hk, .inr hin⟩
      ·intro x hx hLx;rw [l2l x hx] at hLx;obtain ⟨h1,h2,h3,recs',rest',h4,h5,h6,l2,h7,h8⟩:=hlat x hx;refine ⟨ztw h5 (.inl (by omega)),?_⟩
       cases htg':lkT x.tg k with
       |none=>rfl
       |some y=>
       exfalso;obtain ⟨_,_,⟨bk',hbk'⟩,_⟩:=h5.tgt (zhN htg');have hsub:∀y∈recs',y∈later++e::recs:=fun y hy=>by
        rw [h7] at hy;rcases List.mem_append.1 hy with hy|hy
        ·simp [h8 y hy]
        ·rcases List.mem_cons.1 hy with rfl|hy
         ·simp
         ·simp [hy]
       rcases zw1 (L:=L) F.keys h6 (fun y hy=>hI.closed y (hsub y hy)) x.c (hI.closed x (by simp [hx]) hLx) hbk' with h|⟨y,hy,hLy,hy1,hy2⟩
       ·have:=(hinR e heR).1;omega
       ·have hspl:=h6;rw [h7] at hspl hy;obtain ⟨_,_,hl2⟩:=hspl.split;rcases List.mem_append.1 hy with hy|hy
        ·have:=(hl2 y hy).1;omega
        ·rcases List.mem_cons.1 hy with rfl|hy
         ·rw [hLe] at hLy;cases hLy
         ·have:=(hrecs y hy).2.2.1;omega
    ·rw [zkN (by rw [hlk,if_neg hin]) (by rw [hlt,if_neg hbk]) l2r l2l] at hk
     exact .inr ⟨hk,hbk,hin⟩
  obtain ⟨S',F',hF'⟩:=hs';have hold:∀k bk,(zjV L h0 (later++e::recs)).get k=some bk→k∉b→∃x c,ρ k=some (x,c)∧BkR ρ w So (Fo k) x c bk∧(wr k=true→∀y,Fo k y→¬K.k y)∧∀y,Fo k y→Kb y:=by
   intro k bk hk hbk;obtain ⟨x,c,h1,h2,h3⟩:=hF.blk k bk hk;refine ⟨x,c,h1,h2,h3,fun y hy=>⟨h2.lt y hy,fun b' hb' hy'=>?_⟩⟩;obtain ⟨bk',h4,_,h5,_⟩:=hbt b' hb';exact hF.sep k b' bk bk' y hk h4 (fun e=>hbk (by rw [e];exact hb')) (.inr h5) hy hy'
  have hwrN:∀k,(k∈b∨(e.n≤k∧k<e.m))→st'.wr k=true:=fun k hor=>by
   rw [hwr'];simp only [wrX];rcases hor with h|h
   ·split
    ·rfl
    ·exact zo8.2 h
   ·rw [Nat.ble_eq_true_of_le h.1]
  have hnew:∀k bk,st'.h.get k=some bk→(k∈b∨(e.n≤k∧k<e.m))→∃x c,ρ' k=some (x,c)∧BkR ρ' w' S' (F' k) x c bk∧∀y,F' k y→¬Kb y:=by
   intro k bk hk hor;obtain ⟨x,c,h1,h2,h3⟩:=hF'.blk k bk hk;exact ⟨x,c,h1,h2,h3 (hwrN k hor)⟩
  let F2:Nat→Nat→Prop:=fun k y=>((k∈b∨(e.n≤k∧k<e.m))∧F' k y)∨(¬(k∈b∨(e.n≤k∧k<e.m))∧Fo k y);have F2n:∀k,(k∈b∨(e.n≤k∧k<e.m))→F2 k=F' k:=fun k h=>by
   funext y
   exact propext ⟨fun h1=>h1.elim (fun h=>h.2) (fun h2=>absurd h h2.1),fun h1=> .inl ⟨h,h1⟩⟩
  have F2o:∀k,k∉b→¬(e.n≤k∧k<e.m)→F2 k=Fo k:=fun k h h'=>by
   funext y
   exact propext ⟨fun h1=>h1.elim (fun h2=>absurd h2.1 (fun e=>e.elim h h')) (fun h=>h.2),fun h1=> .inr ⟨fun e=>e.elim h h',h1⟩⟩
  refine ⟨ρ'',closed',newTR ρ'' u le1 (zbn le2 hd),⟨S',F2,hF.kp.trans (hF'.kp.mono hKK),hF.lt,fun y hy=>hF'.ss y (hF.ss y hy),fun y hy hK=>hF.sk y (hF'.sk y hy (hKK y hK)) hK,hF'.sl,fun k bk hk=>?_,fun k bk y hk hwk hy hS=>?_,fun i j bi bj y hi hj hij hw hyi hyj=>?_,fun k hk=>?_,hF.pn.1,fun z cz e0=>?_⟩,fun x hx hLx=>?_,?_,by rw [zjG];exact hI.ds,fun x hx hLx=>?_⟩
  ·rcases hcls k bk hk with ⟨h1,h2⟩|⟨h1,h2,h3⟩
   ·obtain ⟨x,c,h4,h5,h6⟩:=hnew k bk h1 h2;rw [F2n k h2];exact ⟨x,c,le2 _ _ h4,h5.mono le2 (fun _ _=>rfl) (fun _ h=>h) (fun _ _=>rfl) (fun _ _=>rfl),fun _ y hy hK=>h6 y hy (hKK y hK)⟩
   ·obtain ⟨x,c,h4,h5,h6,h7⟩:=hold k bk h1 h2;rw [F2o k h2 h3];exact ⟨x,c,le1 _ _ h4,h5.mono le1 (fun y hy=>hF'.kp.block y (h7 y hy)) hF'.ss (fun y hy=>hF'.kp.block y (hSK y hy)) (fun y hy=>hF'.kp.block y (hKK y (hF.mk_ hy))),h6⟩
  ·rcases hcls k bk hk with ⟨h1,h2⟩|⟨h1,h2,h3⟩
   ·rw [F2n k h2] at hy;exact hF'.sd k bk y h1 (hwrN k h2) hy hS
   ·rw [F2o k h2 h3] at hy;obtain ⟨_,_,_,_,_,h7⟩:=hold k bk h1 h2;exact hF.sd k bk y h1 hwk hy (hF'.sk y hS (h7 y hy))
  ·rcases hcls i bi hi with ⟨h1,h2⟩|⟨h1,h2,h3⟩
   ·rw [F2n i h2] at hyi;rcases hcls j bj hj with ⟨g1,g2⟩|⟨g1,g2,g3⟩
    ·rw [F2n j g2] at hyj;exact hF'.sep i j bi bj y h1 g1 hij (.inl (hwrN i h2)) hyi hyj
    ·rw [F2o j g2 g3] at hyj;obtain ⟨_,_,_,_,h6⟩:=hnew i bi h1 h2;obtain ⟨_,_,_,_,_,g7⟩:=hold j bj g1 g2;exact h6 y hyi (g7 y hyj)
   ·rw [F2o i h2 h3] at hyi;rcases hcls j bj hj with ⟨g1,g2⟩|⟨g1,g2,g3⟩
    ·rw [F2n j g2] at hyj;obtain ⟨_,_,_,_,g6⟩:=hnew j bj g1 g2;obtain ⟨_,_,_,_,_,h7⟩:=hold i bi h1 h2;exact g6 y hyj (h7 y hyi)
    ·rw [F2o j g2 g3] at hyj;exact hF.sep i j bi bj y h1 g1 hij hw hyi hyj
  ·have:=(hinR e heR).2.2.1;by_cases hin:e.n≤k∧k<e.m
   ·show k<m;omega
   ·rw [eq1 k hin] at hk;exact hF.dom k hk
  ·have h0:=zNd F.pos (hinR e heR).1;rw [eq1 0 (by omega)] at e0
   exact hF.pn.2 z cz e0
  ·have hxe:x.i≠e.i:=fun h=>by rw [h,hL1] at hLx;cases hLx
   rw [hL2 _ hxe] at hLx;intro k hk1 hk2;have hdis:¬(e.n≤k∧k<e.m):=by
    rcases List.mem_append.1 hx with h|h
    ·have:=(hlat x h).1;omega
    ·rcases List.mem_cons.1 h with h|h
     ·exact absurd (congrArg Re.i h) hxe
     ·have:=(hrecs x h).2.2.1;omega
   rw [eq1 k hdis];exact hI.free x hx hLx k hk1 hk2
  ·refine ⟨hI.ext.le.trans le1,fun k hk=>?_,hI.ext.num⟩;have:=(hinR e heR).1;rw [eq1 k (by omega)]
   exact hI.ext.same k hk
  ·have old:L x.i=true→x.v.under x.m∧(∀k bk,lk x.D k=some bk→belows x.m bk.cells)∧∀b bk,(b,some bk)∈x.tg→belows x.m bk.cells:=hI.stat x hx;rcases List.mem_append.1 hx with h|h
   ·rw [l2l x h] at hLx;exact old hLx
   ·rcases List.mem_cons.1 h with rfl|h
    ·refine ⟨zoC hdom hd,fun k bk h=>?_,fun b' bk h=>?_⟩
     ·rw [hlk] at h;split at h
      ·obtain ⟨x,c,h1,h2,_⟩:=hF'.blk k bk h;exact h2.belows hdom
      ·cases h
     ·obtain ⟨_,hy⟩:=htgk _ _ h;obtain ⟨x,c,h1,h2,_⟩:=hF'.blk b' bk hy.symm;exact h2.belows hdom
    ·rw [l2r x h] at hLx;exact old hLx
end
section
variable {P:Program} [Fast P] {own:Nat→Bool} {call:zbx}
theorem zx5 (i c:Nat):zhB i c=c.testBit i:=by
 unfold zhB Nat.testBit;show (Nat.beq (c>>>i&&& 1) 1)=(1&&& c>>>i != 0);rw [Nat.and_comm 1,Nat.and_one_is_mod];rcases Nat.mod_two_eq_zero_or_one (c>>>i) with h|h<;>rw [h]<;>rfl
theorem zGc {k i c l:Nat} (h:zhB k (Nat.lor (Nat.shiftLeft 1 i) (Nat.lor c l))=true):k=i∨zhB k c=true∨zhB k l=true:=by
 rw [zx5] at h ⊢;rw [zx5];have h:((1<<<i)|||(c|||l)).testBit k=true:=h
 rw [Nat.testBit_or,Nat.testBit_or,Nat.testBit_shiftLeft] at h;simp only [Bool.or_eq_true,Bool.and_eq_true,decide_eq_true_eq] at h;rcases h with ⟨h1,h2⟩|h|h
 ·left;rcases zNl (k - i) with h0|h0
  ·omega
  ·have:(1:Nat).testBit (k - i)=false:=by
    obtain ⟨j,hj⟩:∃j,k - i=j+1:=⟨k - i - 1,by omega⟩
    rw [hj,Nat.testBit_succ];simp
   rw [this] at h2;cases h2
 ·exact .inr (.inl h)
 ·exact .inr (.inr h)
theorem zCm {cls:T Nat}:∀{es:List Edge} {l:Nat},zIN cls es=some l→
  (∀e∈es,Region.binds .any e=true→∃c,cls.get e.on=some c)∧∀k,zhB k l=true→∃e∈es,Region.binds .any e=true∧(k=e.on∨∃c,cls.get e.on=some c∧zhB k c=true)
 |[],l,h=>by
  obtain rfl:=zM8 h;refine ⟨(fun _ h=>nomatch h),fun k hk=>?_⟩;rw [zx5] at hk;simp at hk
 |e::es,l,h=>by
  simp only [zIN] at h;cases hr:zIN cls es with
  |none=>rw [hr] at h;cases h
  |some l'=>
   rw [hr] at h;obtain ⟨h1,h2⟩:=zCm hr;have up:∀k,zhB k l'=true→∃e'∈e::es,Region.binds .any e'=true∧(k=e'.on∨∃c,cls.get e'.on=some c∧zhB k c=true):=fun k hk=>let ⟨e',he',r⟩:=h2 k hk;⟨e',by simp [he'],r⟩
   simp only at h;split at h
   ·rename_i hb;obtain rfl:=zM8 h;refine ⟨fun x hx hbx=>?_,up⟩;rcases List.mem_cons.1 hx with rfl|hx
    ·rw [hb] at hbx;cases hbx
    ·exact h1 x hx hbx
   ·rename_i hb;cases hg:cls.get e.on with
    |none=>rw [hg] at h;cases h
    |some c=>
     rw [hg] at h;obtain rfl:=zM8 h;refine ⟨fun x hx hbx=>?_,fun k hk=>?_⟩
     ·rcases List.mem_cons.1 hx with rfl|hx
      ·exact ⟨c,hg⟩
      ·exact h1 x hx hbx
     ·rcases zGc hk with rfl|hk|hk
      ·exact ⟨e,by simp,hb, .inl rfl⟩
      ·exact ⟨e,by simp,hb, .inr ⟨c,hg,hk⟩⟩
      ·exact up k hk
theorem zxH:∀{ops:List Oper} {done:List (Oper×Nat)} {cls:T Nat} {l:List (Oper×Nat)},(∀j,cls.get j=(done[j]?).map (·.2))→zIO ops done.length cls=some l→
  l.map Prod.fst=ops∧∀j o c,l[j]? =some (o,c)→(∀e∈o.after,Region.binds .any e=true→e.on<done.length+j)∧∀k,zhB k c=true→∃e∈o.after,Region.binds .any e=true∧(k=e.on∨∃c' o',(done++l)[e.on]? =some (o',c')∧zhB k c'=true)
 |[],done,cls,l,hd,h=>by
  obtain rfl:=zM8 h;exact ⟨rfl,fun j o c h=>by simp at h⟩
 |o::ops,done,cls,l,hd,h=>by
  simp only [zIO] at h;cases hb:zIN cls o.after.toList with
  |none=>rw [hb] at h;cases h
  |some c=>
   rw [hb] at h;simp only [zCV] at h;have hd':∀j,(cls.set done.length c).get j=((done++[(o,c)])[j]?).map (·.2):=fun j=>by
    rw [T.get_put];by_cases hj:j=done.length
    ·subst hj;simp
    ·rw [if_neg hj,hd j];rcases Nat.lt_or_ge j done.length with h|h
     ·rw [zNh h]
     ·rw [List.getElem?_eq_none h,List.getElem?_eq_none (by simp;omega)]
   cases hr:zIO ops (Nat.succ done.length) (cls.set done.length c) with
   |none=>rw [hr] at h;cases h
   |some l'=>
    rw [hr] at h;obtain rfl:=zM8 h;obtain ⟨h1,h2⟩:=zxH (done:=done++[(o,c)]) hd' (by rw [zNo];exact hr)
    refine ⟨by simp [h1],fun j o' c' hj=>?_⟩
    cases j with
    |zero=>
     simp at hj;obtain ⟨rfl,rfl⟩:=hj;obtain ⟨b1,b2⟩:=zCm hb;have key:∀{q:Nat} {c:Nat},cls.get q=some c→q<done.length∧∃o',done[q]? =some (o',c):=fun {q c} hq=>by
      rw [hd q] at hq;cases hdq:done[q]? with
      |none=>rw [hdq] at hq;cases hq
      |some p=>
       rw [hdq] at hq;obtain rfl:=zM8 hq;exact ⟨(zNa.1 hdq).1,p.1,rfl⟩
     refine ⟨fun e he hbd=>?_,fun k hk=>?_⟩
     ·obtain ⟨c1,hc1⟩:=b1 e (by simpa using he) hbd
      exact (key hc1).1
     ·obtain ⟨e,he,hbd,h4⟩:=b2 k hk;refine ⟨e,by simpa using he,hbd,h4.imp id fun ⟨c1,hc1,hk1⟩=>?_⟩
      obtain ⟨g1,o1,g2⟩:=key hc1;exact ⟨c1,o1,by rw [zNh g1];exact g2,hk1⟩
    |succ j=>
     have:=h2 j o' c' (by simpa using hj)
     simp only [List.append_assoc,List.cons_append,List.nil_append,zNo,List.length_cons,List.length_nil] at this ⊢;rw [show done.length+(j+1)=done.length+(0+1)+j by omega]
     exact this
theorem ztB {d:Nat}:∀{l:List (Option Nat)},zH4 d l=true↔some d∈l
 |[]=>by simp [zH4]
 |none::l=>by simp [zH4,ztB (l:=l)]
 |some e::l=>by
  simp only [zH4];by_cases h:d=e
  ·subst h;simp
  ·rw [zeT h];simp [h,ztB (l:=l)]
theorem zkm {nt:Nat}:∀{l:List (Option Nat)},zkU nt l=true→(∀d,some d∈l→d<nt)∧l.Pairwise fun x y=>∀d,x=some d→y≠some d
 |[],_=>⟨(fun _ h=>nomatch h), .nil⟩
 |none::l,h=>by
  obtain ⟨h1,h2⟩:=zkm (l:=l) h;exact ⟨fun d hd=>h1 d (by simpa using hd),List.pairwise_cons.2 ⟨(fun _ _ _ e=>nomatch e),h2⟩⟩
 |some d::l,h=>by
  simp only [zkU] at h;split at h
  ·rename_i hm hlt;obtain ⟨h1,h2⟩:=zkm (l:=l) h;refine ⟨fun x hx=>?_,List.pairwise_cons.2 ⟨fun y hy x hx=>?_,h2⟩⟩
   ·rcases List.mem_cons.1 hx with hx|hx
    ·obtain rfl:=zM8 hx;exact zNc hlt
    ·exact h1 x hx
   ·obtain rfl:=zM8 hx
    rintro rfl
    rw [ztB.2 hy] at hm;cases hm
  ·cases h
section
variable {all:List Oper} {pre:List (Nat×Nat×Nat)} {tm0 tm:T AV} {h0:T Bk} {wr:Nat→Bool} {n0:Nat}
variable {R:List Re} {m nt:Nat} {l:List (Oper×Nat)}
variable {K:KS} {w0:World} {ρ0:Rho} {ds:List Deferred}
theorem zI2 (F:Fix P own call all pre tm0 h0 wr n0 R m nt) {i:Nat} (hi:i<R.length):∃later e recs,R=later++e::recs∧e.i=i∧R.reverse[i]? =some e:=by
 have hlt:R.length - 1 - i<R.length:=by omega
 refine ⟨R.take (R.length - 1 - i),R[R.length - 1 - i],R.drop (R.length - 1 - i+1),?_,?_,?_⟩
 ·rw [List.getElem_cons_drop,List.take_append_drop]
 ·have h:R=R.take (R.length - 1 - i)++R[R.length - 1 - i]::R.drop (R.length - 1 - i+1):=by rw [List.getElem_cons_drop,List.take_append_drop]
  have hok:=F.ok;rw [h] at hok;have:=hok.split.1.idx;rw [List.length_drop] at this;omega
 ·rw [List.getElem?_reverse hi,zNg hlt]
theorem zFz (hcall:zdl P call) (F:Fix P own call all pre tm0 h0 wr n0 R m nt) (hl:R.reverse.map (fun e=>(e.o,e.c))=l) (hcls:zIO all 0 .e=some l) {Q:Exit→Act→World→Prop}
  (hfin:∀L ρ a w,(∀x∈R,L x.i=true)→Inv tm0 h0 wr n0 R m nt K w0 ρ0 ds L ρ a w→Q .normal a w):
  ∀(fuel:Nat) (listed:Array Bool) (todo:List Nat) (ρ:Rho) (a:Act) (w:World),listed.size=all.length→todo.length≤fuel→(∀j,listed.getD j true=false→j∈todo)→
   Inv tm0 h0 wr n0 R m nt K w0 ρ0 ds (fun j=>listed.getD j false) ρ a w→wpAny P .any all.toArray Q fuel listed a w:=by
 obtain ⟨hf,hbef⟩:=zxH (done:=[]) (fun j=>by rw [T.get_e];rfl) hcls
 have hlen:R.length=all.length:=by rw [←hf, ←hl];simp
 have hboth:∀(listed:Array Bool) (j:Nat),listed.size=all.length→j<all.length→listed.getD j true=listed.getD j false:=fun listed j hs hj=>by
  rw [Array.getD_eq_getD_getElem?,Array.getD_eq_getD_getElem?,zNi (by omega)]
  rfl
 have hat:∀i,i<all.length→∃later e recs,R=later++e::recs∧e.i=i∧all[i]? =some e.o∧l[i]? =some (e.o,e.c):=fun i hi=>by
  obtain ⟨later,e,recs,h1,h2,h3⟩:=zI2 F (i:=i) (by omega)
  have h4:l[i]? =some (e.o,e.c):=by rw [←hl,List.getElem?_map,h3];rfl
  exact ⟨later,e,recs,h1,h2,by rw [←hf,List.getElem?_map,h4];rfl,h4⟩
 have hedge:∀i o c,l[i]? =some (o,c)→(∀e∈o.after,Region.binds .any e=true→e.on<i)∧∀k,zhB k c=true→∃e∈o.after,Region.binds .any e=true∧(k=e.on∨∃c' o',l[e.on]? =some (o',c')∧zhB k c'=true):=fun i o c h=>by
  have h1:=hbef i o c h;simp only [List.nil_append,List.length_nil,Nat.zero_add] at h1;exact h1
 have hdone:∀(listed:Array Bool),listed.size=all.length→Region.ready .any all.toArray listed=[]→∀x∈R,listed.getD x.i false=true:=fun listed hs hr x hx=>by
  have key:∀i,i<all.length→listed.getD i false=true:=fun i=>by
   induction i using Nat.strongRecOn with
   |_ i ih=>
    intro hi;cases hb:listed.getD i false with
    |true=>rfl
    |false=>
     obtain ⟨later,e,recs,h1,h2,h3,h4⟩:=hat i hi;obtain ⟨h5,_⟩:=hedge i _ _ h4;have:i∈Region.ready .any all.toArray listed:=mem_ready.2 ⟨by rw [hboth listed i hs hi,hb],e.o,by simpa using h3,fun ed hed hbd=>by
      have:=h5 ed hed hbd;exact ih ed.on this (by omega)⟩
     rw [hr] at this;cases this
  obtain ⟨s1,s2,h⟩:=List.append_of_mem hx;have hok:=F.ok;rw [h] at hok;have hi:=hok.split.1.idx;have:R.length=s1.length+(s2.length+1):=by rw [h];simp
  exact key x.i (by omega)
 have hready:∀(listed:Array Bool) (ρ:Rho) (a:Act) (w:World) (i:Nat),listed.size=all.length→Inv tm0 h0 wr n0 R m nt K w0 ρ0 ds (fun j=>listed.getD j false) ρ a w→i∈Region.ready .any all.toArray listed→
   wpOp P all.toArray Q i (fun a' w'=>∃ρ',Inv tm0 h0 wr n0 R m nt K w0 ρ0 ds (fun j=>(listed.setIfInBounds i true).getD j false) ρ' a' w') a w:=by
  intro listed ρ a w i hs hI hi;obtain ⟨hun,o,ho,hall⟩:=mem_ready.1 hi;have hilt:i<all.length:=by
   rcases Nat.lt_or_ge i all.length with h|h
   ·exact h
   ·rw [Array.getElem?_eq_none (by simpa using h)] at ho;cases ho
  obtain ⟨later,e,recs,h1,h2,h3,h4⟩:=hat i hilt;have hoe:o=e.o:=by
   have:all.toArray[i]? =some e.o:=by simpa using h3
   rw [this] at ho;exact (zM8 ho).symm
  subst hoe;obtain ⟨_,h6⟩:=hedge i _ _ h4;have hst:=Inv.step (L':=fun j=>(listed.setIfInBounds i true).getD j false) hcall F hI h1 (by rw [h2, ←hboth listed i hs hilt];exact hun) (fun k hk=>by
   obtain ⟨ed,hed,hbd,hor⟩:=h6 k hk;have hLe:=hall ed hed hbd;rcases hor with rfl|⟨c',o',hc',hk'⟩
   ·exact hLe
   ·have hlt:ed.on<all.length:=by
     rw [←hf,List.length_map];exact (zNa.1 hc').1
    obtain ⟨later',e',recs',g1,g2,g3,g4⟩:=hat ed.on hlt;rw [hc'] at g4;obtain ⟨rfl,rfl⟩:=zNb (zM8 g4);exact hI.closed e' (by rw [g1];simp) (by rw [g2];exact hLe) k hk') (by
   rw [h2,Array.getD_eq_getD_getElem?,Array.getElem?_setIfInBounds_self_of_lt (by omega)];rfl) (fun j hj=>by
   rw [h2] at hj;rw [Array.getD_eq_getD_getElem?,Array.getD_eq_getD_getElem?,Array.getElem?_setIfInBounds_ne (fun h=>hj h.symm)]) Q
  unfold wpOp;simp only [ho];split
  ·rename_i hw;rw [if_pos hw] at hst;exact .inl hst
  ·rename_i hw;rw [if_neg hw] at hst;exact hst
 intro fuel
 induction fuel with
 |zero=>
  intro listed todo ρ a w hs htd hcov hI;have hnil:todo=[]:=zNj.1 (by omega)
  have hr:Region.ready .any all.toArray listed=[]:=by
   cases hr:Region.ready .any all.toArray listed with
   |nil=>rfl
   |cons i rs=>
    have:=(mem_ready.1 (show i∈Region.ready .any all.toArray listed by rw [hr];simp)).1
    have:=hcov i this;rw [hnil] at this;cases this
  exact ⟨hr,hfin _ ρ a w (hdone listed hs hr) hI⟩
 |succ fuel ih=>
  intro listed todo ρ a w hs htd hcov hI;refine ⟨fun hr=>hfin _ ρ a w (hdone listed hs hr) hI,fun i hi=>?_⟩;refine wpOp_mono (fun a' w' ⟨ρ',hI'⟩=>?_) (hready listed ρ a w i hs hI hi);have hit:=hcov i (mem_ready.1 hi).1;refine ih _ (todo.erase i) ρ' a' w' (by simpa using hs) (by rw [List.length_erase_of_mem hit];omega) (fun j hj=>?_) hI'
  by_cases hji:j=i
  ·subst hji;have hlt:j<listed.size:=by
    obtain ⟨_,o,ho,_⟩:=mem_ready.1 hi;rcases Nat.lt_or_ge j all.length with h|h
    ·omega
    ·rw [Array.getElem?_eq_none (by simpa using h)] at ho;cases ho
   rw [Array.getD_eq_getD_getElem?,Array.getElem?_setIfInBounds_self_of_lt hlt] at hj;cases hj
  ·rw [Array.getD_eq_getD_getElem?,Array.getElem?_setIfInBounds_ne (fun h=>hji h.symm), ←Array.getD_eq_getD_getElem?] at hj;exact (List.mem_erase_of_ne hji).2 (hcov j hj)
end
variable {K:KS} {w0 w:World} {ρ:Rho} {st:St} {nt:Nat} {tm:T AV} {a:Act}
theorem zGM (h:TR ρ nt tm a) (hs:Sim K w0 ρ st w):∀t v,tm.get t=some v→v.under st.n:=fun t v hv=>zoC hs.dom (h.2 t v hv)
theorem zuC:∀{R:List Re} {tm:T AV},zkh (fun _=>false) tm R=tm
 |[],_=>rfl
 |e::R,tm=>by simp only [zkh,zuC (R:=R)]
theorem zuB:∀{R:List Re} {h:T Bk},zjV (fun _=>false) h R=h
 |[],_=>rfl
 |e::R,tm=>by simp only [zjV,zuB (R:=R)]
theorem zq6 (hm:P.follows .mixedOrders=true) (hcall:zdl P call) {ops:List Oper} {tm':T AV} {st':St} (hf:(zkH P own call nt ops true tm st).out=some (tm',st')) (h:TR ρ nt tm a) (hs:Sim K w0 ρ st w) {id:Nat} {Q:Exit→Act→World→Prop}
  (hQ:∀ρ' a' w',Ext st.n st'.n ρ ρ'→TR ρ' nt tm' a'→Sim K w0 ρ' st' w'→a'.defers=a.defers→Q .normal a' w'):(Code.region id ops.toArray true).wp P Q a w:=by
 unfold zkH at hf;simp only at hf;split at hf
 ·rename_i l hcls hdst;obtain ⟨⟨m,R⟩,hr,hf⟩:=VT.out_bind_some hf;rw [zAa] at hf;obtain ⟨rfl,rfl⟩:=zNb (zM8 hf);obtain ⟨hok,hl⟩:=ztb (n0:=st.n) l [] st.n rfl hr;simp only [List.reverse_nil,List.map_nil,List.nil_append] at hl;obtain ⟨hd1,hd2⟩:=zkm hdst;have hops:R.reverse.map (fun e=>e.o.dst)=ops.map (·.dst):=by
   rw [←(zxH (done:=[]) (fun j=>by rw [T.get_e];rfl) hcls).1, ←hl]
   simp [Function.comp_def]
  have F:Fix P own call ops (zJE (zGi ops tm) l 0) tm st.h st.wr st.n R m nt:=by
   refine ⟨hok,fun k bk hk=>?_,fun k bk hk=>?_,zGM h hs,fun e he d hd=>?_,?_,(let ⟨_,_,hF⟩:=hs;hF.pn.1)⟩
   ·obtain ⟨x,c,hx,_⟩:=hs.blk k bk hk;exact hs.dom k (by rw [hx];simp)
   ·obtain ⟨x,c,hx,S,G,hb,_⟩:=hs.blk k bk hk;exact hb.belows hs.dom
   ·refine hd1 d ?_;rw [←hops];exact List.mem_map.2 ⟨e,by simpa using he,hd⟩
   ·rw [←hops,List.pairwise_map,List.pairwise_reverse] at hd2;exact hd2.imp fun h d h1 h2=>h d h2 h1
  refine wp_region_any hm ?_;refine zFz hcall F hl hcls (K:=K) (w0:=w0) (ρ0:=ρ) (ds:=a.defers) (fun L ρ' a' w' hL hI=>?_) _ _ (List.range ops.length) ρ a w.drew (by simp) (by simp) (fun j hj=>?_) ?_
  ·have e1:zkh L tm R=zkh (fun _=>true) tm R:=zl9 hL;have e2:zjV L st.h R=zjV (fun _=>true) st.h R:=zl8 hL;refine hQ ρ' a' w' hI.ext (by rw [←e1];exact hI.tr) (by rw [←e2];exact hI.sim) hI.ds
  ·rw [List.mem_range];rcases Nat.lt_or_ge j ops.length with h|h
   ·exact h
   ·rw [Array.getD_eq_getD_getElem?,Array.getElem?_eq_none (by simpa using h)] at hj;cases hj
  ·have hL:(fun j=>(Array.replicate ops.toArray.size false).getD j false)=fun _=>false:=by
    funext j
    rw [Array.getD_eq_getD_getElem?,Array.getElem?_replicate];split<;>rfl
   rw [hL];refine ⟨(fun _ _ h=>nomatch h),by rw [zuC];exact h,?_,fun e he _ k h1 h2=>?_,⟨.refl ρ,fun _ _=>rfl,hok.le⟩,rfl,fun _ _ h=>nomatch h⟩
   ·rw [zuB];exact hs.drew.less _ (fun _ _ h=>h) hok.le fun _ h=>h
   ·have:=(hok.in_ e he).1;cases hk:ρ k with
    |none=>rfl
    |some x=>have:=hs.dom k (by rw [hk];simp);omega
 ·cases hf
theorem zDP {dst:Option Nat} {v:AV} {tm':T AV} {u:Value} (hf:zIV nt dst tm v=some tm') (h:TR ρ nt tm a) (hd:den ρ v u):TR ρ nt tm' (a.put dst u):=by
 cases dst with
 |none=>obtain rfl:=zM8 hf;exact h
 |some d=>
  simp only [zIV] at hf;split at hf
  ·rename_i hlt;obtain rfl:=zM8 hf;exact h.put (zNc hlt) hd
  ·cases hf
theorem zDE (hcall:zdl P call) {all:List Oper}:∀{rest:List Oper} {k:Nat} {tm:T AV} {st:St} {tm':T AV} {st':St} {ρ:Rho} {a:Act} {w:World},all.drop k=rest→(zDD P call nt all rest tm st).out=some (tm',st')→TR ρ nt tm a→Sim K w0 ρ st w→∀{Q:Exit→Act→World→Prop},
  (∀ρ' a' w',Ext st.n st'.n ρ ρ'→TR ρ' nt tm' a'→Sim K w0 ρ' st' w'→a'.defers=a.defers→Q .normal a' w')→wpOps P all.toArray Q (List.range' k rest.length) a w
 |[],k,tm,st,tm',st',ρ,a,w,hd,hf,h,hs,Q,hQ=>by
  simp only [zDD,VT.out] at hf;obtain ⟨rfl,rfl⟩:=zNb (zM8 hf);exact hQ ρ a w (.refl _ ρ) h hs rfl
 |o::rest,k,tm,st,tm',st',ρ,a,w,hd,hf,h,hs,Q,hQ=>by
  have hk:all.toArray[k]? =some o:=by
   have:(all.drop k)[0]? =some o:=by rw [hd];rfl
   simpa using this
  have hd':all.drop (k+1)=rest:=by
   have:(all.drop k).drop 1=rest:=by rw [hd];rfl
   simpa [Nat.add_comm] using this
  simp only [List.length_cons,List.range'_succ,wpOps,hk];rw [zvG] at hf;rcases zti hf with ⟨hw,hf⟩|⟨hw,hf⟩
  ·rw [if_pos (zoi h hw)];have h:TR ρ nt (zG9 all o true tm) a:=h.congr fun t v hv=>by rw [zzZ hw] at hv;exact hv
   obtain ⟨⟨v,st1⟩,h1,hf⟩:=VT.out_bind_some hf;simp only at hf;split at hf
   ·rename_i tm1 hput;refine .inl (zG2 hcall h hs h1 fun u w' ρ' he hs' hdu=>?_);refine zDE hcall hd' hf (zDP hput (h.mono he.le) hdu) hs' fun ρ2 a2 w2 he2 h2 hs2 hdf=>?_;exact hQ ρ2 a2 w2 (he.trans he2) h2 hs2 (by rw [hdf,zjG])
   ·cases hf
  ·rw [if_neg (by rw [zoi h hw];simp)]
   have h:TR ρ nt (zG9 all o false tm) a:=h.congr fun t v hv=>by rw [zzZ hw] at hv;exact hv
   simp only at hf;split at hf
   ·rename_i tm1 hput;refine zDE hcall hd' hf (zDP hput h (by simp only [den])) hs fun ρ2 a2 w2 he2 h2 hs2 hdf=>?_
    exact hQ ρ2 a2 w2 he2 h2 hs2 (by rw [hdf,zjG])
   ·cases hf
theorem zwu (hm:P.follows .mixedOrders=true) (hcall:zdl P call) {ops:Array Oper} {draw:Bool} {tm':T AV} {st':St} (hf:(zkH P own call nt ops.toList draw tm st).out=some (tm',st')) (h:TR ρ nt tm a) (hs:Sim K w0 ρ st w) {id:Nat} {Q:Exit→Act→World→Prop}
  (hQ:∀ρ' a' w',Ext st.n st'.n ρ ρ'→TR ρ' nt tm' a'→Sim K w0 ρ' st' w'→a'.defers=a.defers→Q .normal a' w'):(Code.region id ops draw).wp P Q a w:=by
 cases draw with
 |true=>exact zq6 hm hcall hf h hs hQ
 |false=>
  refine wp_region ?_;have:=zDE hcall (all:=ops.toList) (k:=0) rfl hf h hs hQ;simpa [List.range_eq_range'] using this
end
section
variable {P:Program} [Fast P] {own:Nat→Bool} {call:zbx} {nt:Nat}
theorem zx9 (hc:zdl P call) {all:List Oper}:∀{rest:List Oper} {tm:T AV} {st:St} {tm':T AV} {st':St},(zDD P call nt all rest tm st).out=some (tm',st')→st'.wr=st.wr
 |[],tm,st,tm',st',hf=>by
  simp only [zDD,VT.out] at hf;obtain ⟨rfl,rfl⟩:=zNb (zM8 hf);rfl
 |o::rest,tm,st,tm',st',hf=>by
  rw [zvG] at hf;rcases zti hf with ⟨_,hf⟩|⟨_,hf⟩
  ·obtain ⟨⟨v,st1⟩,h1,hf⟩:=VT.out_bind_some hf;simp only at hf;split at hf
   ·exact (zx9 hc hf).trans (zG3 hc h1)
   ·cases hf
  ·simp only at hf;split at hf
   ·exact zx9 hc hf
   ·cases hf
theorem zsm (hc:zdl P call) {ops:List Oper} {draw:Bool} {tm:T AV} {st:St} {tm':T AV} {st':St} (hf:(zkH P own call nt ops draw tm st).out=some (tm',st')):st'.wr=st.wr:=by
 unfold zkH at hf;split at hf
 ·exact zx9 hc hf
 ·split at hf
  ·obtain ⟨⟨m,R⟩,hr,hf⟩:=VT.out_bind_some hf;rw [zAa] at hf;obtain ⟨_,rfl⟩:=zNb (zM8 hf);rfl
  ·cases hf
theorem zzG {body:T AV→St→VT (EX×T AV×St)} (hb:∀{tm st ex tm' st'},(body tm st).out=some (ex,tm',st')→st'.wr=st.wr):∀{n:Nat} {tm:T AV} {st:St} {ex:EX} {tm':T AV} {st':St},(zBb body n tm st).out=some (ex,tm',st')→st'.wr=st.wr
 |0,_,_,_,_,_,h=>nomatch h
 |n+1,tm,st,ex,tm',st',h=>by
  simp only [zBb] at h;obtain ⟨⟨e1,tm1,st1⟩,h1,h2⟩:=VT.out_bind_some h;simp only at h2;split at h2
  ·exact (zzG hb h2).trans (hb h1)
  ·obtain ⟨_,h3⟩:=zNb (zM8 h2);obtain ⟨_,rfl⟩:=zNb h3;exact hb h1
theorem zgh (hc:zdl P call) {fuel:Nat}:∀(c:Code) {tm:T AV} {st:St} {ex:EX} {tm':T AV} {st':St},(zdU P own call nt fuel c tm st).out=some (ex,tm',st')→st'.wr=st.wr
 | .skip,_,_,_,_,_,h| .label _,_,_,_,_,_,h| .exit _,_,_,_,_,_,h| .ret,_,_,_,_,_,h=>by
   simp only [zdU,VT.out] at h;obtain ⟨_,h⟩:=zNb (zM8 h);obtain ⟨_,rfl⟩:=zNb h;rfl
 | .region _ ops draw,_,_,_,_,_,h=>by
   simp only [zdU] at h;obtain ⟨⟨tm1,st1⟩,h1,h⟩:=VT.out_bind_some h;obtain ⟨_,h⟩:=zNb (zM8 h);obtain ⟨rfl,rfl⟩:=zNb h;exact zsm hc h1
 | .seq x y,_,_,_,_,_,h=>by
   simp only [zdU] at h;obtain ⟨⟨e1,tm1,st1⟩,h1,h⟩:=VT.out_bind_some h;simp only at h;split at h
   ·exact (zgh hc y h).trans (zgh hc x h1)
   ·obtain ⟨_,h⟩:=zNb (zM8 h);obtain ⟨_,rfl⟩:=zNb h;exact zgh hc x h1
 | .cond c x y,_,_,_,_,_,h=>by
   simp only [zdU] at h;split at h
   ·rename_i b _;simp only [ztr] at h;cases b
    ·exact zgh hc y h
    ·exact zgh hc x h
   ·cases h
 | .block id c,_,_,_,_,_,h=>by
   simp only [zdU] at h;obtain ⟨⟨e1,tm1,st1⟩,h1,h⟩:=VT.out_bind_some h;have:=zgh hc c h1;simp only at h
   repeat' split at h
   all_goals
    obtain ⟨_,h⟩:=zNb (zM8 h);obtain ⟨_,rfl⟩:=zNb h;exact this
 | .loop c,_,_,_,_,_,h=>by
   simp only [zdU] at h;exact zzG (fun h=>zgh hc c h) h
 | .rangeFunc ..,_,_,_,_,_,h| .scope _,_,_,_,_,_,h| .goto _,_,_,_,_,_,h| .refuse _,_,_,_,_,_,h=>by simp [zdU,VT.out] at h
def EX.to:EX→Exit
 | .normal=> .normal
 | .exit id=> .exit id
 | .ret=> .ret
theorem zBP {α β γ:Type} {a a':α} {b b':β} {c c':γ} (h:(VT.ret (a,b,c)).out=some (a',b',c')):a=a'∧b=b'∧c=c':=by
 obtain ⟨h1,h2⟩:=zNb (zM8 h);exact ⟨h1,zNb h2⟩
theorem zkl (hm:P.follows .mixedOrders=true) (hc:zdl P call) {fuel:Nat} {K:KS} {w0:World}:∀(c:Code) {tm:T AV} {st:St} {ρ:Rho} {a:Act} {w:World} {ex:EX} {tm':T AV} {st':St},(zdU P own call nt fuel c tm st).out=some (ex,tm',st')→TR ρ nt tm a→Sim K w0 ρ st w→∀{Q:Exit→Act→World→Prop},
  (∀ρ' a' w',Ext st.n st'.n ρ ρ'→TR ρ' nt tm' a'→Sim K w0 ρ' st' w'→a'.defers=a.defers→Q ex.to a' w')→c.wp P Q a w
 | .skip,tm,st,ρ,a,w,ex,tm',st',h,ht,hs,Q,hQ=>by
   simp only [zdU] at h;obtain ⟨rfl,rfl,rfl⟩:=zBP h;exact wp_skip (hQ ρ a w (.refl _ ρ) ht hs rfl)
 | .label _,tm,st,ρ,a,w,ex,tm',st',h,ht,hs,Q,hQ=>by
   simp only [zdU] at h;obtain ⟨rfl,rfl,rfl⟩:=zBP h;exact wp_label (hQ ρ a w (.refl _ ρ) ht hs rfl)
 | .exit _,tm,st,ρ,a,w,ex,tm',st',h,ht,hs,Q,hQ=>by
   simp only [zdU] at h;obtain ⟨rfl,rfl,rfl⟩:=zBP h;exact wp_exit (hQ ρ a w (.refl _ ρ) ht hs rfl)
 | .ret,tm,st,ρ,a,w,ex,tm',st',h,ht,hs,Q,hQ=>by
   simp only [zdU] at h;obtain ⟨rfl,rfl,rfl⟩:=zBP h;exact wp_ret (hQ ρ a w (.refl _ ρ) ht hs rfl)
 | .region id ops draw,tm,st,ρ,a,w,ex,tm',st',h,ht,hs,Q,hQ=>by
   simp only [zdU] at h;obtain ⟨⟨tm1,st1⟩,h1,h⟩:=VT.out_bind_some h;obtain ⟨rfl,rfl,rfl⟩:=zBP h;exact zwu hm hc h1 ht hs hQ
 | .seq x y,tm,st,ρ,a,w,ex,tm',st',h,ht,hs,Q,hQ=>by
   simp only [zdU] at h;obtain ⟨⟨e1,tm1,st1⟩,h1,h⟩:=VT.out_bind_some h;simp only at h;refine wp_seq (zkl hm hc x h1 ht hs fun ρ1 a1 w1 he1 ht1 hs1 hd1=>?_);cases e1 with
   |normal=>exact zkl hm hc y h ht1 hs1 fun ρ2 a2 w2 he2 ht2 hs2 hd2=>hQ ρ2 a2 w2 (he1.trans he2) ht2 hs2 (hd2.trans hd1)
   |exit i=>
    obtain ⟨rfl,rfl,rfl⟩:=zBP h;exact hQ ρ1 a1 w1 he1 ht1 hs1 hd1
   |ret=>
    obtain ⟨rfl,rfl,rfl⟩:=zBP h;exact hQ ρ1 a1 w1 he1 ht1 hs1 hd1
 | .cond c x y,tm,st,ρ,a,w,ex,tm',st',h,ht,hs,Q,hQ=>by
   simp only [zdU] at h;have hv:=ht.ev c;split at h
   ·rename_i b he;rw [he] at hv;simp only [den] at hv;simp only [ztr] at h;cases b
    ·exact wp_cond_false hv (zkl hm hc y h (ht.know hv) hs hQ)
    ·exact wp_cond_true hv (zkl hm hc x h (ht.know hv) hs hQ)
   ·cases h
 | .block id c,tm,st,ρ,a,w,ex,tm',st',h,ht,hs,Q,hQ=>by
   simp only [zdU] at h;obtain ⟨⟨e1,tm1,st1⟩,h1,h⟩:=VT.out_bind_some h;refine wp_block (zkl hm hc c h1 ht hs fun ρ1 a1 w1 he1 ht1 hs1 hd1=>?_);simp only at h;cases e1 with
   |normal=>
    obtain ⟨rfl,rfl,rfl⟩:=zBP h;exact hQ ρ1 a1 w1 he1 ht1 hs1 hd1
   |ret=>
    obtain ⟨rfl,rfl,rfl⟩:=zBP h;exact hQ ρ1 a1 w1 he1 ht1 hs1 hd1
   |exit i=>
    simp only at h;by_cases hi:i=id
    ·subst hi;rw [Nat.beq_refl] at h;obtain ⟨rfl,rfl,rfl⟩:=zBP h;simp only [EX.to,Exit.inBlock,if_true];exact hQ ρ1 a1 w1 he1 ht1 hs1 hd1
    ·rw [zeT hi] at h;obtain ⟨rfl,rfl,rfl⟩:=zBP h;simp only [EX.to,Exit.inBlock,hi,if_false];exact hQ ρ1 a1 w1 he1 ht1 hs1 hd1
 | .loop c,tm,st,ρ,a,w,ex,tm',st',h,ht,hs,Q,hQ=>by
   simp only [zdU] at h;refine wp_loop_rounds fuel ?_;have key:∀(n:Nat) {tm:T AV} {st:St} {ρ:Rho} {a:Act} {w:World},(zBb (zdU P own call nt fuel c) n tm st).out=some (ex,tm',st')→TR ρ nt tm a→Sim K w0 ρ st w→
     (∀ρ' a' w',Ext st.n st'.n ρ ρ'→TR ρ' nt tm' a'→Sim K w0 ρ' st' w'→a'.defers=a.defers→Q ex.to a' w')→Code.rounds P c Q n a w:=by
    intro n
    induction n with
    |zero=>intro tm st ρ a w h;cases h
    |succ n ih=>
     intro tm st ρ a w h ht hs hQ;simp only [zBb] at h;obtain ⟨⟨e1,tm1,st1⟩,h1,h⟩:=VT.out_bind_some h;simp only at h;rw [rounds_succ];refine zkl hm hc c h1 ht hs fun ρ1 a1 w1 he1 ht1 hs1 hd1=>?_;cases e1 with
     |normal=>exact ih h ht1 hs1 fun ρ2 a2 w2 he2 ht2 hs2 hd2=>hQ ρ2 a2 w2 (he1.trans he2) ht2 hs2 (hd2.trans hd1)
     |exit i=>
      obtain ⟨rfl,rfl,rfl⟩:=zBP h;exact hQ ρ1 a1 w1 he1 ht1 hs1 hd1
     |ret=>
      obtain ⟨rfl,rfl,rfl⟩:=zBP h;exact hQ ρ1 a1 w1 he1 ht1 hs1 hd1
   exact key fuel h ht hs hQ
 | .rangeFunc ..,_,_,_,_,_,_,_,_,h,_,_,_,_| .scope _,_,_,_,_,_,_,_,_,h,_,_,_,_| .goto _,_,_,_,_,_,_,_,_,h,_,_,_,_| .refuse _,_,_,_,_,_,_,_,_,h,_,_,_,_=>by simp [zdU,VT.out] at h
theorem hdrOf.ren {ρ' ρ2:Rho} {i k i' k':Nat} {p:Path} {g:Hdr} (h:hdrOf ρ' i k p g) (hi:ρ2 i'=ρ' i) (hk:ρ2 k'=ρ' k):hdrOf ρ2 i' k' p g:=by
 obtain ⟨x,c,y,d,h1,h2,h3⟩:=h;exact ⟨x,c,y,d,hi.trans h1,hk.trans h2,h3⟩
mutual
theorem zxL {ρ' ρ2:Rho} {f:Nat→Option Nat} (hf:∀b b',f b=some b'→ρ2 b'=ρ' b):∀{a:AV} {v:Value},den ρ' a v→den ρ2 (zm0 f a) v
 | .ptr b off,v,h=>by
   simp only [den] at h;obtain ⟨x,c,e,r⟩:=h;simp only [zm0];split
   ·rename_i b' hb;simp only [den];exact ⟨x,c,by rw [hf _ _ hb];exact e,r⟩
   ·simp only [den]
 | .sl b off len cap op,v,h=>by
   simp only [den] at h;obtain ⟨x,c,e,r,r2⟩:=h;simp only [zm0];split
   ·rename_i b' hb;simp only [den];exact ⟨x,c,by rw [hf _ _ hb];exact e,r,r2⟩
   ·split
    ·rename_i hl;have hl:=zM9 hl;subst hl;simp only [den];exact ⟨_,_,r⟩
    ·simp only [den]
 | .mp b,v,h=>by
   simp only [den] at h;obtain ⟨x,c,e,r⟩:=h;simp only [zm0];split
   ·rename_i b' hb;simp only [den];exact ⟨x,c,by rw [hf _ _ hb];exact e,r⟩
   ·simp only [den]
 | .fn _ l,v,h=>by simp only [den] at h;obtain ⟨vs,e,h⟩:=h;simp only [zm0,den];exact ⟨vs,e,dens_ren hf h⟩
 | .bm _ l,v,h=>by simp only [den] at h;obtain ⟨vs,e,h⟩:=h;simp only [zm0,den];exact ⟨vs,e,dens_ren hf h⟩
 | .agg l,v,h=>by simp only [den] at h;obtain ⟨vs,e,h⟩:=h;simp only [zm0,den];exact ⟨vs,e,dens_ren hf h⟩
 | .tup l,v,h=>by simp only [den] at h;obtain ⟨vs,e,h⟩:=h;simp only [zm0,den];exact ⟨vs,e,dens_ren hf h⟩
 | .lv i k p sz lo n,v,h=>by
   simp only [den] at h;obtain ⟨g,h1,h2⟩:=h;simp only [zm0];split
   ·rename_i i' k' hi hk;simp only [den];exact ⟨g,h1.ren (hf _ _ hi) (hf _ _ hk),h2⟩
   ·simp only [den]
 | .ep i k p sz lo n,v,h=>by
   simp only [den] at h;obtain ⟨g,h1,h2⟩:=h;simp only [zm0];split
   ·rename_i i' k' hi hk;simp only [den];exact ⟨g,h1.ren (hf _ _ hi) (hf _ _ hk),h2⟩
   ·simp only [den]
 | .tre ..,_,h=>by simp only [den] at h
 | .ver,_,h=>by simp only [den] at h
 | .sstr _,_,h=>by simpa only [zm0,den] using h
 | .lit _,_,h=>by simpa only [zm0,den] using h
 | .sint _ _,_,h=>by simpa only [zm0,den] using h
 | .sbool _,_,h=>by simpa only [zm0,den] using h
 | .emp,_,h=>by simpa only [zm0,den] using h
 | .emz,_,h=>by simpa only [zm0,den] using h
 | .lw i k p sz n,v,h=>by
   simp only [den] at h;obtain ⟨g,h1,h2⟩:=h;simp only [zm0];split
   ·rename_i i' k' hi hk;simp only [den];exact ⟨g,h1.ren (hf _ _ hi) (hf _ _ hk),h2⟩
   ·simp only [den]
 | .dead,_,h=>by simp only [zm0,den]
theorem dens_ren {ρ' ρ2:Rho} {f:Nat→Option Nat} (hf:∀b b',f b=some b'→ρ2 b'=ρ' b):∀{l:List AV} {vs:List Value},dens ρ' l vs→dens ρ2 (renL f l) vs
 |[],_,h=>by simpa only [renL,dens] using h
 |a::l,_,h=>by simp only [dens] at h;obtain ⟨v,vs,e,h1,h2⟩:=h;simp only [renL,dens];exact ⟨v,vs,e,zxL hf h1,dens_ren hf h2⟩
end
structure Kept (h:T Bk) (n0:Nat) (m:T Nat) (k:Nat) (acc:List (Nat×Nat×Bk)):Prop where
 le:n0≤k
 mem:∀j i bk,(j,i,bk)∈acc→h.get i=some bk∧n0≤i∧n0≤j∧j<k∧m.get i=some j
 map:∀i j,m.get i=some j→∃bk,(j,i,bk)∈acc
 inj:∀j i i' bk bk',(j,i,bk)∈acc→(j,i',bk')∈acc→i=i'
theorem trip {α β γ:Type} {a a':α} {b b':β} {c c':γ} (h:(a,b,c)=(a',b',c')):a=a'∧b=b'∧c=c':=⟨(zNb h).1,zNb (zNb h).2⟩
theorem ztq {h:T Bk} {n0:Nat}:∀(f:Nat) (l:List Nat) (m:T Nat) (k:Nat) (acc:List (Nat×Nat×Bk)) {m':T Nat} {k':Nat} {acc':List (Nat×Nat×Bk)},Kept h n0 m k acc→zvj h n0 f l m k acc=(m',k',acc')→Kept h n0 m' k' acc'
 |0,l,m,k,acc,m',k',acc',hk,he=>by
  simp only [zvj] at he;obtain ⟨e1,e2⟩:=zNb he;obtain ⟨e3,e4⟩:=zNb e2;subst e1;subst e3;subst e4;exact hk
 |f+1,[],m,k,acc,m',k',acc',hk,he=>by
  simp only [zvj] at he;obtain ⟨e1,e2⟩:=zNb he;obtain ⟨e3,e4⟩:=zNb e2;subst e1;subst e3;subst e4;exact hk
 |f+1,i::l,m,k,acc,m',k',acc',hk,he=>by
  simp only [zvj] at he;split at he
  ·rename_i bk h1 h2 h3;have hn:n0≤i:=by
    rcases Nat.lt_or_ge i n0 with h|h
    ·have:Nat.blt i n0=true:=by simpa [Nat.blt_eq] using h
     rw [this] at h1;cases h1
    ·exact h
   refine ztq f _ _ _ _ ⟨Nat.le_succ_of_le hk.le,fun j i' bk' hm=>?_,fun i' j hm=>?_,fun j i1 i2 b1 b2 hm1 hm2=>?_⟩ he
   ·rcases List.mem_cons.1 hm with g|g
    ·obtain ⟨rfl,rfl,rfl⟩:=trip g;exact ⟨h3,hn,hk.le,Nat.lt_succ_self _,by rw [T.get_put,if_pos rfl]⟩
    ·obtain ⟨a1,a2,a3,a4,a5⟩:=hk.mem j i' bk' g;refine ⟨a1,a2,a3,Nat.lt_succ_of_lt a4,?_⟩;rw [T.get_put,if_neg (by rintro rfl;rw [h2] at a5;cases a5)]
     exact a5
   ·rw [T.get_put] at hm;split at hm
    ·rename_i hi;subst hi;exact ⟨bk,by rw [zM8 hm];simp⟩
    ·obtain ⟨bk',hm'⟩:=hk.map i' j hm;exact ⟨bk',by simp [hm']⟩
   ·rcases List.mem_cons.1 hm1 with g1|g1
    ·obtain ⟨rfl,rfl,rfl⟩:=trip g1;rcases List.mem_cons.1 hm2 with g2|g2
     ·obtain ⟨_,e,_⟩:=trip g2;exact e.symm
     ·have:=(hk.mem _ _ _ g2).2.2.2.1;omega
    ·rcases List.mem_cons.1 hm2 with g2|g2
     ·obtain ⟨rfl,_⟩:=trip g2;have:=(hk.mem _ _ _ g1).2.2.2.1;omega
     ·exact hk.inj j i1 i2 b1 b2 g1 g2
  ·exact ztq f l m k acc hk he
theorem zm3 {f:Nat→Option Nat}:∀{acc:List (Nat×Nat×Bk)} {h:T Bk} {j:Nat} {z:Bk},(zqc f h acc).get j=some z→
  (∃i bk,(j,i,bk)∈acc∧zwv f (zu bk.cells)=true∧z=⟨bk.ty,renL f bk.cells,bk.op⟩)∨h.get j=some z
 |[],h,j,z,e=> .inr e
 |(k,i,bk)::acc,h,j,z,e=>by
  simp only [zqc] at e;split at e
  ·rename_i hok;rcases zm3 e with ⟨i',bk',hm,ho,rfl⟩|e2
   ·exact .inl ⟨i',bk',by simp [hm],ho,rfl⟩
   ·rw [T.get_put] at e2;by_cases hj:j=k
    ·rw [if_pos hj] at e2;subst hj;exact .inl ⟨i,bk,by simp,hok,(zM8 e2).symm⟩
    ·rw [if_neg hj] at e2;exact .inr e2
  ·rcases zm3 e with ⟨i',bk',hm,ho,rfl⟩|e
   ·exact .inl ⟨i',bk',by simp [hm],ho,rfl⟩
   ·exact .inr e
theorem zt6 {f:Nat→Option Nat}:∀{l:List AV},(renL f l).length=l.length
 |[]=>rfl
 |a::l=>by simp only [renL,List.length_cons,zt6 (l:=l)]
theorem BkR.ren {ρ' ρ2:Rho} {f:Nat→Option Nat} (hf:∀b b',f b=some b'→ρ2 b'=ρ' b) (hM:∀y,Mr ρ' y→Mr ρ2 y) {w:World} {S F:Nat→Prop} {x:Nat} {c:Cap} {bk:Bk} (hok:zwv f (zu bk.cells)=true) (h:BkR ρ' w S F x c bk):BkR ρ2 w S F x c ⟨bk.ty,renL f bk.cells,bk.op⟩:=by
 refine ⟨fun hn=>?_,fun hn=>?_⟩
 ·obtain ⟨hF,vs,rest,h1,h2⟩:=h.1 hn;exact ⟨hF,vs,rest,dens_ren hf h1,h2⟩
 ·have h2:=h.2 hn;show KdR _ _ _ _ _ _ _ (zu (renL f bk.cells));cases hk:zu bk.cells with
  |tree own t xs k=>
   rw [hk] at h2 hok;simp only [zwv] at hok;split at hok
   ·rename_i k' hk';rw [zoU hk];simp only [renL,zm0,hk',zu];have h3:TreeR ρ' w S F x c own t xs k:=h2;obtain ⟨y,d,h4,h5⟩:=h3.hds;exact ⟨h3.len,h3.own.more hM,h3.lt,y,d,(hf _ _ hk').trans h4,h5⟩
   ·cases hok
  |ver=>
   rw [hk] at h2;rw [zzC hk];simp only [renL,zm0,zu];exact h2
  |verp k=>
   rw [hk] at h2 hok;simp only [zwv] at hok;split at hok
   ·rename_i k' hk';obtain ⟨q,e⟩:=zoV hk;rw [e];simp only [renL,zm0,hk',zu];obtain ⟨h3,y,d,h4,h5⟩:=h2;exact ⟨h3,y,d,(hf _ _ hk').trans h4,h5⟩
   ·cases hok
  |pend=>rw [hk] at hok;cases hok
  |map=>
   rw [hk] at h2;obtain ⟨hF,vs,n',h1,h3,h4⟩:=h2;rw [zrI (by rw [zt6];have:=zL h1;omega) (by rw [zt6];have:=zL h1;omega)]
   exact ⟨hF,vs,n',dens_ren hf h1,h3,h4⟩
theorem zJb {K:KS} {w0 w w':World} {ρ ρ':Rho} {st st1 st2:St} {v v2:AV} {u:Value} {S:Nat→Prop} {F:Nat→Nat→Prop} (hF:SimF K w0 ρ S F st w) (hs':Sim ⟨lt w.heap.size,S,K.p⟩ w ρ' st1 w') (hwr:st1.wr=fun k=>Nat.ble st.n k) (he:Ext st.n st1.n ρ ρ') (hd:den ρ' v u)
  (hcut:zGU st (v,st1)=(v2,st2)):st2.wr=st.wr∧∃ρ2,Ext st.n st2.n ρ ρ2∧Sim K w0 ρ2 st2 w'∧den ρ2 v2 u:=by
 unfold zGU at hcut;split at hcut;rename_i m k acc hk;simp only at hk;have H:=ztq _ _ _ _ _ (h:=st1.h) (n0:=st.n) ⟨zNm _,(fun _ _ _ h=>by cases h),fun i j h=>(by rw [T.get_e] at h;cases h),(fun _ _ _ _ _ h=>by cases h)⟩ hk
 obtain ⟨rfl,rfl⟩:=zNb hcut;refine ⟨rfl,fun j=>if j<st.n then ρ j else match acc.find? (fun p=>Nat.beq p.1 j) with|some p=>ρ' p.2.1|none=>none,?_⟩
 generalize hρ2:(fun j=>if j<st.n then ρ j else match acc.find? (fun p=>Nat.beq p.1 j) with|some p=>ρ' p.2.1|none=>none:Rho)=ρ2
 have old:∀j,j<st.n→ρ2 j=ρ j:=fun j hj=>by rw [←hρ2];exact if_pos hj
 have new:∀j i bk,(j,i,bk)∈acc→ρ2 j=ρ' i:=fun j i bk hm=>by
  have h3:=(H.mem j i bk hm).2.2.1;rw [←hρ2];simp only;rw [if_neg (by omega)]
  cases hfd:acc.find? (fun p=>Nat.beq p.1 j) with
  |none=>
   have:=List.find?_eq_none.1 hfd _ hm;simp at this
  |some p=>
   obtain ⟨j',i',bk'⟩:=p;have h1:=List.find?_some hfd;have h2:=List.mem_of_find?_eq_some hfd;have h1:=zM9 h1;simp only at h1;subst h1;simp only;rw [H.inj _ _ _ _ _ hm h2]
 have hle:ρ.le ρ2:=fun j x hx=>by rw [old j (hF.dom j (by rw [hx];simp))];exact hx
 have hf:∀b b',(match Nat.blt b st.n with|true=>some b|false=>m.get b)=some b'→ρ2 b'=ρ' b:=by
  intro b b' h;split at h
  ·rename_i hb;obtain rfl:=zM8 h;have hb:b<st.n:=zNc hb;rw [old b hb];exact (he.same b hb).symm
  ·obtain ⟨bk,hm⟩:=H.map _ _ h;exact new _ _ _ hm
 have hMr:∀y,Mr ρ' y→Mr ρ2 y:=fun y ⟨x,c,h1,h2⟩=>⟨x,c,by rw [old 0 hF.pn.1, ←he.same 0 hF.pn.1];exact h1,h2⟩
 obtain ⟨S',F',hF'⟩:=hs';have hblk:∀j z,(zqc (fun i=>match Nat.blt i st.n with|true=>some i|false=>m.get i) st.h acc).get j=some z→
   (∃i bk x c,(j,i,bk)∈acc∧st1.h.get i=some bk∧ρ' i=some (x,c)∧BkR ρ2 w' S' (F' i) x c z∧(∀y,F' i y→w.heap.size≤y)∧st1.wr i=true∧st.n≤j)∨(∃x c,st.h.get j=some z∧ρ j=some (x,c)∧BkR ρ2 w' S' (F j) x c z∧(st.wr j=true→∀y,F j y→¬K.k y)∧(∀y,F j y→y<w.heap.size)∧j<st.n):=by
  intro j z hz;rcases zm3 hz with ⟨i,bk,hm,hok,rfl⟩|hz
  ·obtain ⟨a1,a2,a3,a4,a5⟩:=H.mem j i bk hm;obtain ⟨x,c,h1,h2,h3⟩:=hF'.blk i bk a1;have hw1:st1.wr i=true:=by rw [hwr];exact Nat.ble_eq_true_of_le a2
   exact .inl ⟨i,bk,x,c,hm,a1,h1,h2.ren hf hMr hok,fun y hy=>Nat.le_of_not_lt (h3 hw1 y hy),hw1,a3⟩
  ·obtain ⟨x,c,h1,h2,h3⟩:=hF.blk j z hz;exact .inr ⟨x,c,hz,h1,h2.mono hle (fun y hy=>hF'.kp.block y (h2.lt y hy)) hF'.ss (fun y hy=>hF'.kp.block y (hF.sl y hy)) (fun y hy=>hF'.kp.block y (hF.ltw y (hF.mk_ hy))),h3,h2.lt,hF.dom j (by rw [h1];simp)⟩
 let F2:Nat→Nat→Prop:=fun j y=>(j<st.n∧F j y)∨(st.n≤j∧∃i bk,(j,i,bk)∈acc∧F' i y);have F2o:∀j,j<st.n→F2 j=F j:=fun j hj=>by
  funext y
  exact propext ⟨fun h=>h.elim (fun h=>h.2) (fun h=>by omega),fun h=> .inl ⟨hj,h⟩⟩
 have F2n:∀j i bk,st.n≤j→(j,i,bk)∈acc→F2 j=F' i:=fun j i bk hj hm=>by
  funext y
  refine propext ⟨fun h=>h.elim (fun h=>by omega) (fun h=>?_),fun h=> .inr ⟨hj,i,bk,hm,h⟩⟩
  obtain ⟨_,i',bk',hm',hy⟩:=h;rw [H.inj _ _ _ _ _ hm hm'];exact hy
 refine ⟨⟨hle,fun i hi=>old i hi,H.le⟩,⟨S',F2,hF.kp.trans (hF'.kp.mono hF.ltw),hF.lt,fun y hy=>hF'.ss y (hF.ss y hy),fun y hy hK=>hF.sk y (hF'.sk y hy (hF.ltw y hK)) hK,hF'.sl,fun j z hz=>?_,fun j z y hz hwj hy hS=>?_,fun i j bi bj y hi hj hij hw hyi hyj=>?_,fun j hj=>?_,zNd hF.pn.1 H.le,fun z cz e0=>hF.pn.2 z cz (by rw [←old 0 hF.pn.1];exact e0)⟩,zxL hf hd⟩
 ·rcases hblk j z hz with ⟨i,bk,x,c,h1,h2,h3,h4,h5,h6,h7⟩|⟨x,c,h1,h2,h3,h4,h5,h6⟩
  ·rw [F2n j i bk h7 h1];exact ⟨x,c,by rw [new _ _ _ h1];exact h3,h4,fun _ y hy hK=>by have:=hF.ltw y hK;have:=h5 y hy;omega⟩
  ·rw [F2o j h6];exact ⟨x,c,hle _ _ h2,h3,h4⟩
 ·rcases hblk j z hz with ⟨i,bk,x,c,h1,h2,h3,h4,h5,h6,h7⟩|⟨x,c,h1,h2,h3,h4,h5,h6⟩
  ·rw [F2n j i bk h7 h1] at hy;exact hF'.sd i bk y h2 h6 hy hS
  ·rw [F2o j h6] at hy;exact hF.sd j z y h1 hwj hy (hF'.sk y hS (h5 y hy))
 ·rcases hblk i bi hi with ⟨i1,b1,x1,c1,p1,p2,p3,_,p5,p6,p7⟩|⟨x1,c1,p1,p2,_,_,p5,p6⟩
  ·rw [F2n i i1 b1 p7 p1] at hyi;rcases hblk j bj hj with ⟨i2,b2,x2,c2,q1,q2,q3,_,q5,q6,q7⟩|⟨x2,c2,q1,q2,_,_,q5,q6⟩
   ·rw [F2n j i2 b2 q7 q1] at hyj;refine hF'.sep i1 i2 b1 b2 y p2 q2 (fun e=>?_) (.inl p6) hyi hyj;subst e;have h1:=(H.mem _ _ _ p1).2.2.2.2;have h2:=(H.mem _ _ _ q1).2.2.2.2;rw [h1] at h2;exact hij (zM8 h2)
   ·rw [F2o j q6] at hyj;have:=p5 y hyi;have:=q5 y hyj;omega
  ·rw [F2o i p6] at hyi;rcases hblk j bj hj with ⟨i2,b2,x2,c2,q1,q2,q3,_,q5,q6,q7⟩|⟨x2,c2,q1,q2,_,_,q5,q6⟩
   ·rw [F2n j i2 b2 q7 q1] at hyj;have:=p5 y hyi;have:=q5 y hyj;omega
   ·rw [F2o j q6] at hyj;exact hF.sep i j bi bj y p1 q1 hij hw hyi hyj
 ·have:=H.le;show j<k;by_cases hj1:j<st.n
  ·omega
  ·rw [←hρ2] at hj;simp only [if_neg hj1] at hj;cases hfd:acc.find? (fun p=>Nat.beq p.1 j) with
   |none=>rw [hfd] at hj;exact absurd rfl hj
   |some p=>
    obtain ⟨j',i',bk'⟩:=p;have h1:=List.find?_some hfd;have h2:=List.mem_of_find?_eq_some hfd;have h1:=zM9 h1;simp only at h1;subst h1;exact (H.mem _ _ _ h2).2.2.2.1
theorem zuH:∀(l:List AV) (k:Nat) (tm:T AV) (t:Nat),(zsI l k tm).get t=if k≤t∧t<k+l.length then l[t - k]? else tm.get t
 |[],k,tm,t=>by simp only [zsI];rw [if_neg (by simp)]
 |a::l,k,tm,t=>by
  simp only [zsI];rw [zuH l (Nat.succ k) _ t,T.get_put];simp only [List.length_cons,Nat.succ_eq_add_one];by_cases h1:t=k
  ·subst h1;rw [if_neg (by omega),if_pos rfl,if_pos (by omega)]
   simp
  ·by_cases h2:k+1≤t∧t<k+1+l.length
   ·rw [if_pos h2,if_pos (by omega)]
    have:t - k=(t - (k+1))+1:=by omega
    rw [this,List.getElem?_cons_succ]
   ·rw [if_neg h2,if_neg h1,if_neg (by omega)]
theorem zxd {ρ:Rho} {args:List AV} {vs:List Value} (hd:dens ρ args vs) (n:Nat):TR ρ (Nat.add args.length (Nat.sub n args.length)) (zsI args 0 .e) {tmps:=vs.toArray++Array.replicate (n - vs.toArray.size) undef,defers:=[]}:=by
 have hl:=zL hd;refine ⟨by simp [hl],fun t v h=>?_⟩
 rw [zuH] at h;split at h
 ·rename_i ht;simp only [Nat.sub_zero] at h;obtain ⟨u,hu,hdu⟩:=zeX t hd h;have hlt:t<vs.length:=by omega
  have e:(vs.toArray++Array.replicate (n - vs.toArray.size) undef).getD t undef=u:=by
   rw [Array.getD_eq_getD_getElem?,Array.getElem?_append_left (by simpa using hlt)]
   simp [hu]
  rw [e];exact hdu
 ·rw [T.get_e] at h;cases h
def zKx (tmps:Array Value):ResultVar→Sem Value
 | .tmp t=>pure (tmps.getD t undef)
 | .cell x t=>do loadVar t (←asAddr (tmps.getD x undef))
theorem zjR (fn:Func) (tmps:Array Value):results fn tmps=(do
  let vs ←fn.results.mapM (zKx tmps)
  pure (if h:vs.size=1 then vs[0] else .tuple vs)):=by
 unfold results;have:(fun r:ResultVar=>(match r with| .tmp t=>pure (tmps.getD t undef)| .cell x t=>do loadVar t (←asAddr (tmps.getD x undef)):Sem Value))=zKx tmps:=by
  funext r;cases r<;>rfl
 rw [←this];rfl
theorem zgI {K:KS} {w0 w:World} {ρ:Rho} {st:St} {tm:T AV} {a:Act} {r:ResultVar} {v:AV} (h:TR ρ nt tm a) (hs:Sim K w0 ρ st w) (hf:zEj P tm st r=some v):
  ∃u,(zKx a.tmps r).run P w= .ok u w∧den ρ v u:=by
 cases r with
 |tmp t=>obtain rfl:=zM8 hf;exact ⟨_,rfl,h.ev (.tmp t)⟩
 |cell x t=>
  obtain ⟨u,y,e,hr,hd⟩:=zrK (P:=P) (h.ev (.tmp x)) hs hf;have e:a.tmps.getD x undef= .pointer (some y):=e;refine ⟨u,?_,hd⟩;simp only [zKx,e,asAddr,Sem.run_bind,Sem.run_pure,Result.andThen_ok,hr]
theorem zyB {K:KS} {w0 w:World} {st:St} {fn:Func} {ρ:Rho} {tm:T AV} {a:Act} {v:AV} (h:TR ρ nt tm a) (hs:Sim K w0 ρ st w) (hf:zz0 P tm st fn.results.toList=some v):∃u,(results fn a.tmps).run P w= .ok u w∧den ρ v u:=by
 have arr:∀{l:List ResultVar},fn.results.toList=l→fn.results=l.toArray:=fun h=>by rw [←h]
 unfold zz0 at hf;split at hf
 ·rename_i he;obtain rfl:=zM8 hf;exact ⟨_,results_none (arr he) _ _ _,by simp only [den];exact ⟨[],rfl,by simp only [dens]⟩⟩
 ·rename_i r he;obtain ⟨u,hr,hd⟩:=zgI h hs hf;refine ⟨u,?_,hd⟩;rw [zjR,arr he];simp [Sem.run_bind,hr]
 ·rename_i r s he;split at hf
  ·rename_i v1 v2 h1 h2;obtain rfl:=zM8 hf;obtain ⟨u1,r1,d1⟩:=zgI h hs h1;obtain ⟨u2,r2,d2⟩:=zgI h hs h2;refine ⟨.tuple #[u1,u2],?_,by simp only [den,dens];exact ⟨_,rfl,u1,_,rfl,d1,u2,_,rfl,d2,rfl⟩⟩
   rw [zjR,arr he];simp [Sem.run_bind,r1,r2]
  ·cases hf
 ·rename_i r s t he;split at hf
  ·rename_i v1 v2 v3 h1 h2 h3;obtain rfl:=zM8 hf;obtain ⟨u1,r1,d1⟩:=zgI h hs h1;obtain ⟨u2,r2,d2⟩:=zgI h hs h2;obtain ⟨u3,r3,d3⟩:=zgI h hs h3;refine ⟨.tuple #[u1,u2,u3],?_,by simp only [den,dens];exact ⟨_,rfl,u1,_,rfl,d1,u2,_,rfl,d2,u3,_,rfl,d3,rfl⟩⟩
   rw [zjR,arr he];simp [Sem.run_bind,r1,r2,r3]
  ·cases hf
 ·rename_i r s t x he;split at hf
  ·rename_i v1 v2 v3 v4 h1 h2 h3 h4;obtain rfl:=zM8 hf;obtain ⟨u1,r1,d1⟩:=zgI h hs h1;obtain ⟨u2,r2,d2⟩:=zgI h hs h2;obtain ⟨u3,r3,d3⟩:=zgI h hs h3;obtain ⟨u4,r4,d4⟩:=zgI h hs h4;refine ⟨.tuple #[u1,u2,u3,u4],?_,by simp only [den,dens];exact ⟨_,rfl,u1,_,rfl,d1,u2,_,rfl,d2,u3,_,rfl,d3,u4,_,rfl,d4,rfl⟩⟩
   rw [zjR,arr he];simp [Sem.run_bind,r1,r2,r3,r4]
  ·cases hf
 ·cases hf
theorem zoO {f:FuncId} {fn:Func} {c:Code} (h:zkY P f=some (fn,c)):P.funcs[f]? =some fn∧(fn.name== "runtime.NumGoroutine")=false∧fn.body=some c:=by
 unfold zkY at h;split at h
 ·rename_i fn' hfn;split at h
  ·rename_i c' hn hb;obtain ⟨rfl,rfl⟩:=zNb (zM8 h);exact ⟨zFH hfn,hn,hb⟩
  ·cases h
 ·cases h
theorem SimF.shut {K:KS} {w0 w:World} {ρ:Rho} {S:Nat→Prop} {F:Nat→Nat→Prop} {st:St} (hs:SimF K w0 ρ S F st w):Sim ⟨Go.Proofs.YtiepllpgifnloaaGreat.Vx.lt w.heap.size,S,K.p⟩ w ρ ⟨st.h,st.n,fun k=>Nat.ble st.n k⟩ w:=by
 have key:∀i bk,st.h.get i=some bk→(Nat.ble st.n i=true)→False:=fun i bk hi hle=>by
  obtain ⟨x,c,h1,_⟩:=hs.blk i bk hi;have h3:=hs.dom i (by rw [h1];simp)
  have h4:=zNc hle;omega
 refine ⟨S,F,Kp.refl _ w,fun _ h=>h,fun _ h=>h,fun _ h _=>h,hs.sl,fun i bk hi=>?_,fun i bk y hi hw=>(key i bk hi hw).elim,fun i j bi bj y hi hj _ hw=>?_,hs.dom,hs.pn.1,fun x c h=>⟨(hs.pn.2 x c h).1,fun y hy=>hs.ltw y ((hs.pn.2 x c h).2 y hy)⟩⟩
 ·obtain ⟨x,c,h1,h2,_⟩:=hs.blk i bk hi;exact ⟨x,c,h1,h2,fun hle=>(key i bk hi hle).elim⟩
 ·rcases hw with hw|hw
  ·exact (key i bi hi hw).elim
  ·exact (key j bj hj hw).elim
def zi (P:Program) [Fast P] (f:FuncId) (c:Ctr):Prop:=∀args st v st',(c args st).out=some (v,st')→
 st'.wr=st.wr∧(∃fn c,P.funcs[f]? =some fn∧(fn.name== "runtime.NumGoroutine")=false∧fn.body=some c)∧
 ∀K w0 w ρ vs,Sim K w0 ρ st w→dens ρ args vs→Calls P f vs.toArray w fun e w'=>∃u ρ',e= .returned u∧Ext st.n st'.n ρ ρ'∧Sim K w0 ρ' st' w'∧den ρ' v u
theorem zy9 (hm:P.follows .mixedOrders=true) (own:Nat→Bool) (fuel:Nat) {call:zbx} (hc:zdl P call):zdl P (zxD P own fuel call):=fun f args st v st' hf=>by
 simp only [zxD] at hf;cases hi:zkY P f with
 |none=>rw [hi] at hf;cases hf
 |some p=>
  obtain ⟨fn,c⟩:=p;rw [hi] at hf;simp only at hf;obtain ⟨hfn,hname,hbody⟩:=zoO hi;have main:∀{st0:St} {v:AV} {st1:St},((zdU P own (call) (Nat.add args.length (Nat.sub fn.ntmps args.length)) fuel c (zsI args 0 .e) st0).bind fun r=>match r.1 with
    | .exit _=>(.fail 16 none:VT (AV×St))
    |_=>match zz0 P r.2.1 r.2.2 fn.results.toList with
     |some v=> .ret (v,r.2.2)
     |none=> .fail (Nat.add 1000 f) none).out=some (v,st1)→st1.wr=st0.wr∧∀(K:KS) (w0 w:World) (ρ:Rho) (vs:List Value),Sim K w0 ρ st0 w→dens ρ args vs→
     Calls P f vs.toArray w fun e w'=>∃u ρ',e= .returned u∧Ext st0.n st1.n ρ ρ'∧Sim K w0 ρ' st1 w'∧den ρ' v u:=by
   intro st0 v st1 h;obtain ⟨⟨ex,tm1,st2⟩,h1,h⟩:=VT.out_bind_some h;simp only at h;have fin:ex.to= .normal∨ex.to= .ret→zz0 P tm1 st2 fn.results.toList=some v∧st2=st1→st1.wr=st0.wr∧∀(K:KS) (w0 w:World) (ρ:Rho) (vs:List Value),Sim K w0 ρ st0 w→dens ρ args vs→
     Calls P f vs.toArray w fun e w'=>∃u ρ',e= .returned u∧Ext st0.n st1.n ρ ρ'∧Sim K w0 ρ' st1 w'∧den ρ' v u:=by
    rintro hex ⟨hres,rfl⟩
    refine ⟨zgh hc c h1,fun K w0 w ρ vs hs hd=>?_⟩;refine calls_of_wp hfn hbody (zkl hm hc c h1 (zxd hd fn.ntmps) hs fun ρ' a' w' he ht hs' hdf=>?_);obtain ⟨u,hr,hdu⟩:=zyB ht hs' hres;rcases hex with hex|hex<;>rw [hex]<;>exact ⟨hdf,u,hr,u,ρ',rfl,he,hs',hdu⟩
   cases ex with
   |exit i=>cases h
   |normal=>
    refine fin (.inl rfl) ?_;simp only at h;split at h
    ·rename_i v' hv;obtain ⟨rfl,rfl⟩:=zNb (zM8 h);exact ⟨hv,rfl⟩
    ·cases h
   |ret=>
    refine fin (.inr rfl) ?_;simp only at h;split at h
    ·rename_i v' hv;obtain ⟨rfl,rfl⟩:=zNb (zM8 h);exact ⟨hv,rfl⟩
    ·cases h
  cases ho:own f with
  |true=>
   rw [ho] at hf;obtain ⟨hw,hcall⟩:=main hf;exact ⟨hw,⟨fn,c,hfn,hname,hbody⟩,hcall⟩
  |false=>
   rw [ho] at hf;simp only at hf;obtain ⟨⟨v1,st1⟩,h1,hf⟩:=VT.out_bind_some hf;have hcut:=zM8 hf;obtain ⟨hw,hcall⟩:=main h1;have hw':st1.wr=fun k=>Nat.ble st.n k:=hw;have hwr:st'.wr=st.wr:=by
    have:=congrArg (fun p:AV×St=>p.2.wr) hcut;unfold zGU at this;split at this;exact this.symm
   refine ⟨hwr,⟨fn,c,hfn,hname,hbody⟩,fun K w0 w ρ vs hs hd=>?_⟩;obtain ⟨S,F,hs⟩:=hs;have hs0:=hs.shut;refine (hcall _ w w ρ vs hs0 hd).mono ?_
   rintro e w' ⟨u,ρ',rfl,he,hs',hdu⟩
   obtain ⟨_,ρ2,h2,h3,h4⟩:=zJb hs hs' hw' he hdu hcut;exact ⟨u,ρ2,rfl,h2,h3,h4⟩
theorem zoq (hm:P.follows .mixedOrders=true) {tbl:T Ctr} (ht:∀f c,tbl.get f=some c→zi P f c) (own:Nat→Bool) (fuel:Nat):∀d,zdl P (zAz P tbl own fuel d)
 |0=>fun f args st v st' hf=>by
  simp only [zAz] at hf;split at hf
  ·rename_i c hc;exact ht f c hc args st v st' hf
  ·cases hf
 |d+1=>fun f args st v st' hf=>by
  simp only [zAz] at hf;split at hf
  ·rename_i c hc;exact ht f c hc args st v st' hf
  ·exact zy9 hm own fuel (zoq hm ht own fuel d) f args st v st' hf
end
variable {P:Program} [Fast P] {ρ ρ':Rho} {w w0 w':World} {K:KS} {st st':St} {S:Nat→Prop} {F:Nat→Nat→Prop}
def zgW (sh:Bool) (t:RT) (j:Nat):Ow:=match sh||shT t j with
 |true=> .none
 |false=> .all
def ziI (o:Ow):Leaf→St→AV×St
 | .int k n,st=>(.lit (.int k n),st)
 | .bool b,st=>(.lit (.bool b),st)
 | .str s,st=>(.lit (.string s),st)
 | .list t l,st=>zeM o t l st.h st.n st.wr
def zv (f:Nat→Ow):Nat→List Leaf→St→List AV×St
 |_,[],st=>([],st)
 |j,l::ls,st=>match ziI (f j) l st with
  |(a,st1)=>match zv f (Nat.succ j) ls st1 with
   |(zas,st2)=>(a::zas,st2)
def zGY:RT→List AV→AV
 | .st _,l=> .agg l
 |_,[]=> .dead
 |_,a::_=>a
def zfH (f:Nat→Ow) (t:RT) (x:t.ty) (st:St):AV×St:=match zv f 0 (t.leaves x) st with
 |(zas,st1)=>(zGY t zas,st1)
def zB9:(m:RM)→m.ty→St→AV×St
 | .own t,x,st=>zfH (zgW false t) t x st
 | .shr t,x,st=>zfH (zgW true t) t x st
 | .no,_,st=>(.dead,st)
 | .box T n1 n2,x,st=>match zv (zgW true (.st n1)) 0 ((RT.st n1).leaves x.1) st with
   |(as1,st1)=>match zv (zgW false (.st n2)) 0 ((RT.st n2).leaves x.2) st1 with
    |(as2,st2)=>(.ptr st2.n 0,⟨st2.h.set st2.n ⟨T,as1++as2,none⟩,Nat.succ st2.n,st2.wr⟩)
def zfI:(ts:List RM)→Args ts→St→List AV×St
 |[],_,st=>([],st)
 |t::ts,x,st=>match zB9 t x.1 st with
  |(a,st1)=>match zfI ts x.2 st1 with
   |(zas,st2)=>(a::zas,st2)
def zhd:(rs:List RM)→Args rs→St→AV×St
 |[t],y,st=>zB9 t y.1 st
 |rs,y,st=>match zfI rs y st with
  |(zas,st1)=>(.tup zas,st1)
def LfM (w:World) (S M G:Nat→Prop) (o:Ow):Leaf→Value→Prop
 | .list t l,v=>OwnR w S M G o t l v
 |lf,v=>LfR w G lf v
theorem OwnR.slice {M G:Nat→Prop} {o:Ow} {t:RT} {l:List t.ty} {v:Value} (h:OwnR w S M G o t l v):∃A c,v= .slice A l.length c:=let ⟨A,c,e,_⟩:=h.rd.slice;⟨A,c,e⟩
theorem LfM.more {M M' G:Nat→Prop} {o:Ow} {lf:Leaf} {v:Value} (h:LfM w S M G o lf v) (hM:∀y,M y→M' y):LfM w S M' G o lf v:=by
 cases lf with
 |list t l=>exact OwnR.more h hM
 |_=>exact h
theorem zjB {o:Ow} {lf:Leaf} {v:Value} {G:Nat→Prop} (h:SimF K w0 ρ S F st w) (hv:LfM w S (Mr ρ) G o lf v) (hlt:∀y,G y→y<w.heap.size)
  (hG:∀y,G y→(st.wr (Nat.succ st.n)=true→¬K.k y∧¬S y)∧∀j bj,st.h.get j=some bj→(st.wr (Nat.succ st.n)=true∨st.wr j=true)→¬F j y) {a:AV} {st':St} (hn:ziI o lf st=(a,st')):
  ∃ρ' F',Ext st.n st'.n ρ ρ'∧SimF K w0 ρ' S F' st' w∧den ρ' a v∧st'.wr=st.wr∧(∀j bj,st'.h.get j=some bj→(st.h.get j=some bj∧F' j=F j)∨(st.n≤j∧j<st'.n∧∀y,F' j y→G y)):=by
 have flat:∀{a0:AV},den ρ a0 v→(a0,st)=(a,st')→∃ρ' F',Ext st.n st'.n ρ ρ'∧SimF K w0 ρ' S F' st' w∧den ρ' a v∧st'.wr=st.wr∧(∀j bj,st'.h.get j=some bj→(st.h.get j=some bj∧F' j=F j)∨(st.n≤j∧j<st'.n∧∀y,F' j y→G y)):=by
  intro a0 hd e;obtain ⟨rfl,rfl⟩:=zNb e;exact ⟨ρ,F, .refl _ ρ,h,hd,rfl,fun j bj hj=> .inl ⟨hj,rfl⟩⟩
 cases lf with
 |int k n=>
  have hv:LfR w G (.int k n) v:=hv;cases hv;exact flat (a0:= .lit (.int k n)) (by simp only [den]) hn
 |bool b=>
  have hv:LfR w G (.bool b) v:=hv;cases hv;exact flat (a0:= .lit (.bool b)) (by simp only [den]) hn
 |str s=>
  have hv:LfR w G (.str s) v:=hv;cases hv;exact flat (a0:= .lit (.string s)) (by simp only [den]) hn
 |list t l=>
  have hv:OwnR w S (Mr ρ) G o t l v:=hv;obtain ⟨A,c,rfl⟩:=hv.slice;exact h.tree hv hlt hG hn
theorem zvB {o:Ow} {lf:Leaf} {st:St}:st.n≤(ziI o lf st).2.n:=by
 cases lf with
 |list t l=>show st.n≤Nat.succ (Nat.succ st.n);omega
 |_=>exact zNm _
theorem zaQ {f:Nat→Ow}:∀{j:Nat} {ls:List Leaf} {st:St},st.n≤(zv f j ls st).2.n
 |_,[],_=>zNm _
 |j,l::ls,st=>zNf (zvB (o:=f j) (lf:=l) (st:=st)) (zaQ (j:=Nat.succ j) (ls:=ls) (st:=(ziI (f j) l st).2))
theorem zrN {o:Ow} {l:Leaf} {st:St}:(ziI o l st).2.wr=st.wr:=by cases l<;>rfl
theorem zaF {f:Nat→Ow} (W:Bool):∀{j:Nat} {ls:List Leaf} {us:List Value} {ρ:Rho} {F:Nat→Nat→Prop} {st:St} {G:Nat→Nat→Prop},SimF K w0 ρ S F st w→us.length=ls.length→
  (∀(q:Nat) lf,ls[q]? =some lf→∃v,us[q]? =some v∧LfM w S (Mr ρ) (G q) (f (j+q)) lf v)→(∀q y,G q y→y<w.heap.size)→(∀n,st.n≤n→n<(zv f j ls st).2.n→st.wr n=W)→(W=true→∀q q' y,G q y→G q' y→q=q')→
  (∀q y,G q y→(W=true→¬K.k y∧¬S y)∧∀i bi,st.h.get i=some bi→(W=true∨st.wr i=true)→¬F i y)→∀{zas:List AV} {st':St},zv f j ls st=(zas,st')→
  ∃ρ' F',Ext st.n st'.n ρ ρ'∧SimF K w0 ρ' S F' st' w∧dens ρ' zas us∧st'.wr=st.wr∧(∀i bi,st'.h.get i=some bi→(st.h.get i=some bi∧F' i=F i)∨(st.n≤i∧i<st'.n∧∀y,F' i y→∃q,G q y))
 |_,[],us,ρ,F,st,G,h,hl,hv,hlt,hW,hd,hG,zas,st',hn=>by
  simp only [zv] at hn;obtain ⟨rfl,rfl⟩:=zNb hn;have:us=[]:=zNj.1 hl;subst this;exact ⟨ρ,F, .refl _ ρ,h,by simp only [dens],rfl,fun j bj hj=> .inl ⟨hj,rfl⟩⟩
 |j,l::ls,us,ρ,F,st,G,h,hl,hv,hlt,hW,hd,hG,zas,st',hn=>by
  match us,hl with
  |u::us,hl=>
  have hfin:(zv f j (l::ls) st).2.n=st'.n:=by rw [hn]
  rw [hfin] at hW;simp only [zv] at hn;cases e1:ziI (f j) l st with
  |mk a st1=>
  rw [e1] at hn;simp only at hn;cases e2:zv f (Nat.succ j) ls st1 with
  |mk as2 st2=>
  rw [e2] at hn;obtain ⟨rfl,rfl⟩:=zNb hn;have e2n:(zv f (Nat.succ j) ls st1).2.n=st2.n:=by rw [e2]
  have n1:st.n≤st1.n:=by have:=zvB (o:=f j) (lf:=l) (st:=st);rw [e1] at this;exact this
  have n2:st1.n≤st2.n:=by rw [←e2n];exact zaQ
  have w1:st1.wr=st.wr:=by have:=zrN (o:=f j) (l:=l) (st:=st);rw [e1] at this;exact this
  obtain ⟨v0,hv0,hm0⟩:=hv 0 l rfl;simp only [List.getElem?_cons_zero,zNn] at hv0;subst hv0;have key:∃ρ' F',Ext st.n st1.n ρ ρ'∧SimF K w0 ρ' S F' st1 w∧den ρ' a u∧st1.wr=st.wr∧(∀j bj,st1.h.get j=some bj→(st.h.get j=some bj∧F' j=F j)∨(st.n≤j∧j<st1.n∧∀y,F' j y→G 0 y)):=by
   cases l with
   |list t l=>
    have hs1:st1.n=st.n+2:=by
     have:(ziI (f j) (.list t l) st).2.n=st.n+2:=rfl;rw [e1] at this;exact this
    have hwn:st.wr (st.n+1)=W:=hW (st.n+1) (by omega) (by show st.n+1<st2.n;omega)
    exact zjB h hm0 (hlt 0) (fun y hy=>by rw [show st.wr (Nat.succ st.n)=W from hwn];exact hG 0 y hy) e1
   |int k n=>exact zjB (G:=fun _=>False) h (show LfM w S _ _ _ _ _ by have hm:LfR w _ (.int k n) u:=hm0;cases hm;exact LfR.int k n) (fun _ h=>h.elim) (fun _ h=>h.elim) e1 |> fun ⟨ρ',F',a1,a2,a3,a4,a5⟩=>⟨ρ',F',a1,a2,a3,a4,fun j bj hj=>(a5 j bj hj).imp id fun h=>⟨h.1,h.2.1,fun y hy=>(h.2.2 y hy).elim⟩⟩
   |bool b=>exact zjB (G:=fun _=>False) h (show LfM w S _ _ _ _ _ by have hm:LfR w _ (.bool b) u:=hm0;cases hm;exact LfR.bool b) (fun _ h=>h.elim) (fun _ h=>h.elim) e1 |> fun ⟨ρ',F',a1,a2,a3,a4,a5⟩=>⟨ρ',F',a1,a2,a3,a4,fun j bj hj=>(a5 j bj hj).imp id fun h=>⟨h.1,h.2.1,fun y hy=>(h.2.2 y hy).elim⟩⟩
   |str s=>exact zjB (G:=fun _=>False) h (show LfM w S _ _ _ _ _ by have hm:LfR w _ (.str s) u:=hm0;cases hm;exact LfR.str s) (fun _ h=>h.elim) (fun _ h=>h.elim) e1 |> fun ⟨ρ',F',a1,a2,a3,a4,a5⟩=>⟨ρ',F',a1,a2,a3,a4,fun j bj hj=>(a5 j bj hj).imp id fun h=>⟨h.1,h.2.1,fun y hy=>(h.2.2 y hy).elim⟩⟩
  obtain ⟨ρ1,F1,x1,s1,d1,_,c1⟩:=key;obtain ⟨ρ2,F2,x2,s2,d2,w2,c2⟩:=zaF W (j:=Nat.succ j) (G:=fun q=>G (q+1)) s1 (by simpa using hl) (fun q lf hq=>by
   obtain ⟨v,h1,h2⟩:=hv (q+1) lf (by simpa using hq)
   rw [show j+(q+1)=j.succ+q by omega] at h2
   exact ⟨v,by simpa using h1,h2.more fun y=>Mr.mono x1.le⟩) (fun q y hy=>hlt _ y hy) (fun n h1 h2=>by rw [w1];rw [e2n] at h2;exact hW n (by omega) h2) (fun hw q q' y h1 h2=>by have:=hd hw _ _ y h1 h2;omega) (fun q y hy=>by
   refine ⟨(hG (q+1) y hy).1,fun i bi hi hw hyi=>?_⟩;rw [w1] at hw;rcases c1 i bi hi with ⟨h1,h2⟩|⟨h0,h01,h1⟩
   ·rw [h2] at hyi;exact (hG (q+1) y hy).2 i bi h1 hw hyi
   ·have hwt:W=true:=by
     rcases hw with h|h
     ·exact h
     ·rw [←hW i h0 (zNd h01 n2)];exact h
    have:=hd hwt _ _ y (h1 y hyi) hy;omega) e2
  refine ⟨ρ2,F2,x1.trans x2,s2,by simp only [dens];exact ⟨u,us,rfl,zbn x2.le d1,d2⟩,w2.trans w1,fun i bi hi=>?_⟩
  rcases c2 i bi hi with ⟨h1,h2⟩|⟨h1,h2,h3⟩
  ·rcases c1 i bi h1 with ⟨h4,h5⟩|⟨h4,h5,h6⟩
   ·exact .inl ⟨h4,h2.trans h5⟩
   ·exact .inr ⟨h4,zNd h5 n2,fun y hy=>⟨0,h6 y (by rw [←h2];exact hy)⟩⟩
  ·exact .inr ⟨zNf n1 h1,h2,fun y hy=>let ⟨q,hq⟩:=h3 y hy;⟨q+1,hq⟩⟩
theorem zbT {f:Nat→Ow}:∀{j:Nat} {ls:List Leaf} {st:St},(zv f j ls st).2.wr=st.wr
 |_,[],_=>rfl
 |j,l::ls,st=>(zbT (j:=Nat.succ j) (ls:=ls) (st:=(ziI (f j) l st).2)).trans zrN
theorem zlh {f:Nat→Ow} {t:RT} {x:t.ty} {st:St}:(zfH f t x st).2.wr=st.wr:=zbT
theorem zn6 {f:Nat→Ow} {t:RT} {x:t.ty} {st:St}:st.n≤(zfH f t x st).2.n:=zaQ
theorem zDy {m:RM} {x:m.ty} {st:St}:(zB9 m x st).2.wr=st.wr:=by
 cases m with
 |own t=>exact zlh
 |shr t=>exact zlh
 |no=>rfl
 |box T n1 n2=>exact (zbT (f:=zgW false (.st n2)) (j:=0) (ls:=(RT.st n2).leaves x.2) (st:=(zv (zgW true (.st n1)) 0 ((RT.st n1).leaves x.1) st).2)).trans zbT
theorem zDw {m:RM} {x:m.ty} {st:St}:st.n≤(zB9 m x st).2.n:=by
 cases m with
 |own t=>exact zn6
 |shr t=>exact zn6
 |no=>exact zNm _
 |box T n1 n2=>exact Nat.le_succ_of_le (zNf (zaQ (f:=zgW true (.st n1)) (j:=0) (ls:=(RT.st n1).leaves x.1) (st:=st)) zaQ)
theorem zmq:∀{ts:List RM} {x:Args ts} {st:St},(zfI ts x st).2.wr=st.wr
 |[],_,_=>rfl
 |t::ts,x,st=>(zmq (ts:=ts) (x:=x.2) (st:=(zB9 t x.1 st).2)).trans zDy
theorem zvD {rs:List RM} {y:Args rs} {st:St}:(zhd rs y st).2.wr=st.wr:=by
 match rs,y with
 |[],y=>exact zmq (ts:=[]) (x:=y)
 |[t],y=>exact zDy (m:=t)
 |t::u::ts,y=>exact zmq (ts:=t::u::ts) (x:=y)
theorem zn5 {t:RT} {zas:List AV} {us:List Value} (h:dens ρ zas us) (hl:us.length=t.size):den ρ (zGY t zas) (ziH t us):=by
 have one:∀{t:RT},t.size=1→(∀zas,zGY t zas=match zas with|[]=> .dead|a::_=>a)→(∀us,ziH t us=us.headD undef)→us.length=t.size→den ρ (zGY t zas) (ziH t us):=fun {t} h1 h2 h3 h4=>by
  rw [h2,h3]
  match us,h4.trans h1 with
  |[u],_=>
   match zas,h with
   |[],h=>simp [dens] at h
   |a::zas,h=>
    simp only [dens] at h;obtain ⟨v,vs',e,hd,_⟩:=h;obtain ⟨rfl,_⟩:=List.cons.inj e;exact hd
 cases t with
 |st n=>simp only [zGY,ziH,den];exact ⟨us,rfl,h⟩
 |int k=>exact one rfl (fun zas=>by cases zas<;>rfl) (fun _=>rfl) hl
 |bool=>exact one rfl (fun zas=>by cases zas<;>rfl) (fun _=>rfl) hl
 |str=>exact one rfl (fun zas=>by cases zas<;>rfl) (fun _=>rfl) hl
 |list t=>exact one rfl (fun zas=>by cases zas<;>rfl) (fun _=>rfl) hl
theorem zo5 {sh:Bool} {t:RT} {x:t.ty} {j:Nat} {lf:Leaf} {M G:Nat→Prop} {v:Value} (hj:(t.leaves x)[j]? =some lf) (h:LfO w S lf (zkM sh t j) G v):LfM w S M G (zgW sh t j) lf v:=by
 cases lf with
 |list u l=>
  have hel:=zbo hj;show OwnR w S M G (zgW sh t j) u l v;unfold zgW;unfold zkM at h;rw [hel] at h;cases hb:sh||shT t j with
  |true=>rw [hb] at h;exact h
  |false=>rw [hb] at h;exact h
 |int k n=>show LfR w G _ v;cases h;exact .int _ _
 |bool b=>show LfR w G _ v;cases h;exact .bool _
 |str s=>show LfR w G _ v;cases h;exact .str _
theorem zDx {m:RM} {x:m.ty} {v:Value} {G:Nat→Prop} (h:SimF K w0 ρ S F st w) (hv:ValO w S G m x v) (hW:∀n,st.n≤n→n<(zB9 m x st).2.n→st.wr n=true) (hG:∀y,G y→y<w.heap.size∧¬K.k y∧¬S y∧∀j bj,st.h.get j=some bj→¬F j y) {a:AV} {st':St} (hn:zB9 m x st=(a,st')):
  ∃ρ' F',Ext st.n st'.n ρ ρ'∧SimF K w0 ρ' S F' st' w∧den ρ' a v∧st'.wr=st.wr∧(∀j bj,st'.h.get j=some bj→(st.h.get j=some bj∧F' j=F j)∨(∀y,F' j y→G y)):=by
 have go:∀(sh:Bool) (t:RT) (x:t.ty),(∃us,Own w S t x (zkM sh t) G us∧v=ziH t us)→(∀n,st.n≤n→n<(zfH (zgW sh t) t x st).2.n→st.wr n=true)→zfH (zgW sh t) t x st=(a,st')→
   ∃ρ' F',Ext st.n st'.n ρ ρ'∧SimF K w0 ρ' S F' st' w∧den ρ' a v∧st'.wr=st.wr∧(∀j bj,st'.h.get j=some bj→(st.h.get j=some bj∧F' j=F j)∨(∀y,F' j y→G y)):=by
  rintro sh t x ⟨us,⟨hl,Gs,hG1,hG2,hG3⟩,rfl⟩ hW hn
  unfold zfH at hn hW;cases e:zv (zgW sh t) 0 (t.leaves x) st with
  |mk zas st1=>
  rw [e] at hn hW;obtain ⟨rfl,rfl⟩:=zNb hn;obtain ⟨ρ',F',h1,h2,h3,h4,h5⟩:=zaF true (G:=Gs) h (by rw [hl,RT.leaves_len]) (fun q lf hq=>by
   obtain ⟨v,h1,h2⟩:=hG3 q lf hq;rw [Nat.zero_add];exact ⟨v,h1,zo5 hq h2⟩) (fun q y hy=>(hG y (hG1 q y hy)).1) (by rw [e];exact hW) (fun _ i j y hi hj=>hG2 i j y hi hj) (fun q y hy=>⟨fun _=>⟨(hG y (hG1 q y hy)).2.1,(hG y (hG1 q y hy)).2.2.1⟩,fun i bi hi _=>(hG y (hG1 q y hy)).2.2.2 i bi hi⟩) e
  refine ⟨ρ',F',h1,h2,zn5 h3 hl,h4,fun j bj hj=>?_⟩;rcases h5 j bj hj with h6|⟨_,_,h6⟩
  ·exact .inl h6
  ·exact .inr fun y hy=>let ⟨i,h7⟩:=h6 y hy;hG1 i y h7
 cases m with
 |own t=>exact go false t x hv hW hn
 |shr t=>exact go true t x hv hW hn
 |no=>
  obtain ⟨rfl,rfl⟩:=zNb hn;exact ⟨ρ,F, .refl _ ρ,h,by simp only [den],rfl,fun j bj hj=> .inl ⟨hj,rfl⟩⟩
 |box T n1 n2=>
  obtain ⟨bb,us1,us2,G2,rfl,hFb,hblk,hone,hG2,⟨hl1,Gs1,q11,q12,o1⟩,⟨hl2,Gs2,q21,q22,o2⟩⟩:=hv;cases e1:zv (zgW true (.st n1)) 0 ((RT.st n1).leaves x.1) st with
  |mk as1 st1=>
  cases e2:zv (zgW false (.st n2)) 0 ((RT.st n2).leaves x.2) st1 with
  |mk as2 st2=>
  have eq:zB9 (.box T n1 n2) x st=(.ptr st2.n 0,⟨st2.h.set st2.n ⟨T,as1++as2,none⟩,Nat.succ st2.n,st2.wr⟩):=by
   simp only [zB9,e1,e2]
  rw [eq] at hn hW;obtain ⟨rfl,rfl⟩:=zNb hn;have hW:∀n,st.n≤n→n<st2.n+1→st.wr n=true:=hW;have n1':st.n≤st1.n:=by have:=zaQ (f:=zgW true (.st n1)) (j:=0) (ls:=(RT.st n1).leaves x.1) (st:=st);rw [e1] at this;exact this
  have n2':st1.n≤st2.n:=by have:=zaQ (f:=zgW false (.st n2)) (j:=0) (ls:=(RT.st n2).leaves x.2) (st:=st1);rw [e2] at this;exact this
  obtain ⟨ρ1,F1,x1,s1,d1,w1,c1⟩:=zaF true (G:=Gs1) h (hl1.trans (RT.leaves_len (.st n1) x.1).symm) (fun q lf hq=>by
   obtain ⟨v,h1,h2⟩:=o1 q lf hq;rw [Nat.zero_add];exact ⟨v,h1,zo5 hq h2⟩) (fun q y hy=>(q11 q y hy).elim) (fun n a1 a2=>by rw [e1] at a2;exact hW n a1 (zNd a2 (by show st1.n≤st2.n+1;omega))) (fun _ i j y hi hj=>q12 i j y hi hj) (fun q y hy=>(q11 q y hy).elim) e1
  have old:∀j bj,st1.h.get j=some bj→(st.h.get j=some bj∧F1 j=F j)∨(∀y,¬F1 j y):=fun j bj hj=>(c1 j bj hj).imp id fun h y hy=>by
   obtain ⟨i,h7⟩:=h.2.2 y hy;exact q11 i y h7
  obtain ⟨ρ2,F2,x2,s2,d2,w2,c2⟩:=zaF true (G:=Gs2) s1 (hl2.trans (RT.leaves_len (.st n2) x.2).symm) (fun q lf hq=>by
   obtain ⟨v,h1,h2⟩:=o2 q lf hq;rw [Nat.zero_add];exact ⟨v,h1,zo5 hq h2⟩) (fun q y hy=>(hG y (hG2 y (q21 q y hy)).1).1) (fun n a1 a2=>by rw [e2] at a2;rw [w1];exact hW n (zNf n1' a1) (zNd a2 (by show st2.n≤st2.n+1;omega))) (fun _ i j y hi hj=>q22 i j y hi hj) (fun q y hy=>by
   have hy1:=hG y (hG2 y (q21 q y hy)).1;refine ⟨fun _=>⟨hy1.2.1,hy1.2.2.1⟩,fun i bi hi _ hyi=>?_⟩;rcases old i bi hi with ⟨h3,h4⟩|h3
   ·rw [h4] at hyi;exact hy1.2.2.2 i bi h3 hyi
   ·exact h3 y hyi) e2
  have hb1:=hG bb hFb;obtain ⟨s3,x3⟩:=s2.nameG (Kp.refl _ w) (fun _ _ _ _ _=>rfl) (fun _ _=>rfl) ⟨T,as1++as2,none⟩ bb (Cap.of 0) (fun y=>y=bb) ⟨fun _=>⟨fun _=>Iff.rfl,us1++us2,[],dens_mono (Rho.le_up (show ρ2 st2.n=none from Sim.fresh ⟨S,F2,s2⟩)) (zaq (dens_mono x2.le d1) d2),by rw [List.append_nil];exact hblk,hone,fun _=>rfl,fun s e=>nomatch e⟩,fun e=>nomatch e⟩ (fun y hy=>by
   subst hy;refine ⟨fun _=>⟨hb1.2.1,hb1.2.2.1⟩,fun i bi hi _ hyi=>?_⟩;rcases c2 i bi hi with ⟨h3,h4⟩|⟨_,_,h3⟩
   ·rw [h4] at hyi;rcases old i bi h3 with ⟨h5,h6⟩|h5
    ·rw [h6] at hyi;exact hb1.2.2.2 i bi h5 hyi
    ·exact h5 _ hyi
   ·obtain ⟨q,h5⟩:=h3 _ hyi;exact (hG2 _ (q21 q _ h5)).2 rfl)
  refine ⟨_,_,(x1.trans x2).trans x3,s3,?_,by rw [←w1, ←w2],fun j bj hj=>?_⟩
  ·simp only [den];exact ⟨bb,Cap.of 0,by simp [Rho.up],rfl⟩
  ·rw [Go.Proofs.YtiepllpgifnloaaGreat.Vx.T.get_put] at hj;by_cases hjn:j=st2.n
   ·subst hjn;rw [zV];exact .inr fun y hy=>hy▸hFb
   ·rw [if_neg hjn] at hj;rw [zap hjn];rcases c2 j bj hj with ⟨h3,h4⟩|⟨_,_,h3⟩
    ·rcases old j bj h3 with ⟨h5,h6⟩|h5
     ·exact .inl ⟨h5,by rw [h4,h6]⟩
     ·exact .inr fun y hy=>by rw [h4] at hy;exact (h5 y hy).elim
    ·refine .inr fun y hy=>?_;obtain ⟨q,h5⟩:=h3 y hy;exact (hG2 y (q21 q y h5)).1
theorem zli:∀{ts:List RM} {x:Args ts} {st:St},st.n≤(zfI ts x st).2.n
 |[],_,_=>zNm _
 |t::ts,x,st=>zNf (zDw (m:=t) (x:=x.1) (st:=st)) (zli (ts:=ts) (x:=x.2) (st:=(zB9 t x.1 st).2))
theorem zrP:∀{ts:List RM} {x:Args ts} {vs:List Value} {G:Nat→Prop} {ρ:Rho} {F:Nat→Nat→Prop} {st:St},SimF K w0 ρ S F st w→ValsO w S G ts x vs→(∀n,st.n≤n→n<(zfI ts x st).2.n→st.wr n=true)→(∀y,G y→y<w.heap.size∧¬K.k y∧¬S y∧∀j bj,st.h.get j=some bj→¬F j y)→∀{zas:List AV} {st':St},zfI ts x st=(zas,st')→
  ∃ρ' F',Ext st.n st'.n ρ ρ'∧SimF K w0 ρ' S F' st' w∧dens ρ' zas vs∧st'.wr=st.wr∧(∀j bj,st'.h.get j=some bj→(st.h.get j=some bj∧F' j=F j)∨(∀y,F' j y→G y))
 |[],x,vs,G,ρ,F,st,h,hv,hW,hG,zas,st',hn=>by
  simp only [zfI] at hn;obtain ⟨rfl,rfl⟩:=zNb hn;have hv:vs=[]:=hv;subst hv;exact ⟨ρ,F, .refl _ ρ,h,by simp only [dens],rfl,fun j bj hj=> .inl ⟨hj,rfl⟩⟩
 |t::ts,x,vs,G,ρ,F,st,h,hv,hW,hG,zas,st',hn=>by
  obtain ⟨v,vs',G1,G2,rfl,g1,g2,g3,hv1,hv2⟩:=hv;rw [hn] at hW;have hW:∀n,st.n≤n→n<st'.n→st.wr n=true:=hW;simp only [zfI] at hn;cases e1:zB9 t x.1 st with
  |mk a st1=>
  rw [e1] at hn;simp only at hn;cases e2:zfI ts x.2 st1 with
  |mk as2 st2=>
  rw [e2] at hn;obtain ⟨rfl,rfl⟩:=zNb hn;have n1:st.n≤st1.n:=by have:=zDw (m:=t) (x:=x.1) (st:=st);rw [e1] at this;exact this
  have n2:st1.n≤st2.n:=by have:=zli (ts:=ts) (x:=x.2) (st:=st1);rw [e2] at this;exact this
  obtain ⟨ρ1,F1,x1,s1,d1,w1,c1⟩:=zDx h hv1 (fun n hn h2=>hW n hn (by rw [e1] at h2;exact zNd h2 n2)) (fun y hy=>hG y (g1 y hy)) e1
  obtain ⟨ρ2,F2,x2,s2,d2,w2,c2⟩:=zrP s1 hv2 (fun n hn h2=>by rw [w1];rw [e2] at h2;exact hW n (zNf n1 hn) h2) (fun y hy=>⟨(hG y (g2 y hy)).1,(hG y (g2 y hy)).2.1,(hG y (g2 y hy)).2.2.1,fun j bj hj hy'=>by
   rcases c1 j bj hj with ⟨h1,h2⟩|h1
   ·rw [h2] at hy';exact (hG y (g2 y hy)).2.2.2 j bj h1 hy'
   ·exact g3 y (h1 y hy') hy⟩) e2
  refine ⟨ρ2,F2,x1.trans x2,s2,by simp only [dens];exact ⟨v,vs',rfl,zbn x2.le d1,d2⟩,w2.trans w1,fun j bj hj=>?_⟩
  rcases c2 j bj hj with ⟨h1,h2⟩|h1
  ·rcases c1 j bj h1 with ⟨h3,h4⟩|h3
   ·exact .inl ⟨h3,h2.trans h4⟩
   ·exact .inr fun y hy=>g1 y (h3 y (by rw [←h2];exact hy))
  ·exact .inr fun y hy=>g2 y (h1 y hy)
theorem zvC {rs:List RM} {y:Args rs} {v:Value} {G:Nat→Prop} (h:SimF K w0 ρ S F st w) (hv:ResO w S G rs y v) (hW:∀n,st.n≤n→n<(zhd rs y st).2.n→st.wr n=true) (hG:∀y,G y→y<w.heap.size∧¬K.k y∧¬S y∧∀j bj,st.h.get j=some bj→¬F j y) {a:AV} {st':St} (hn:zhd rs y st=(a,st')):
  ∃ρ' F',Ext st.n st'.n ρ ρ'∧SimF K w0 ρ' S F' st' w∧den ρ' a v∧st'.wr=st.wr:=by
 rw [hn] at hW;have hW:∀n,st.n≤n→n<st'.n→st.wr n=true:=hW;have many:(∃vs,v= .tuple vs.toArray∧ValsO w S G rs y vs)→(match zfI rs y st with|(zas,st1)=>(AV.tup zas,st1))=(a,st')→∃ρ' F',Ext st.n st'.n ρ ρ'∧SimF K w0 ρ' S F' st' w∧den ρ' a v∧st'.wr=st.wr:=by
  rintro ⟨vs,rfl,hvs⟩ hn
  cases e:zfI rs y st with
  |mk zas st1=>
  rw [e] at hn;obtain ⟨rfl,rfl⟩:=zNb hn;obtain ⟨ρ',F',h1,h2,h3,h4,_⟩:=zrP h hvs (by rw [e];exact hW) hG e
  exact ⟨ρ',F',h1,h2,by simp only [den];exact ⟨vs,rfl,h3⟩,h4⟩
 match rs,y,hv,hn,many with
 |[t],y,hv,hn,_=>
  obtain ⟨ρ',F',h1,h2,h3,h4,_⟩:=zDx h hv (fun n h1 h2=>hW n h1 (by have h3:zB9 t y.1 st=(a,st'):=hn;rw [h3] at h2;exact h2)) hG hn
  exact ⟨ρ',F',h1,h2,h3,h4⟩
 |[],y,hv,hn,many=>exact many hv hn
 |_::_::_,y,hv,hn,many=>exact many hv hn
theorem VT.out_must {α:Type} {p:Prop} {d:Decidable p} {t:VT α} {a:α} (h:(VT.must p d t).out=some a):p∧t.out=some a:=by
 unfold VT.out at h;split at h
 ·rename_i hp;exact ⟨hp,h⟩
 ·cases h
inductive Pat where
 |v (sh:Bool) (t:RT)
 |fn0 (g:Nat)
 |fn1 (g:Nat) (p:Pat)
 |fn2 (g:Nat) (p q:Pat)
 |ptr (T:Nat) (p:Pat)
 |nil (b:Bool)
 |el (t:RT)
 |bor (t:RT)
def zLu (b:Bool):Value:=match b with
 |true=> .pointer none
 |false=> .slice none 0 0
def Pat.ty:Pat→Type
 | .v _ t=>t.ty
 | .fn0 _=>Unit
 | .fn1 _ p=>p.ty
 | .fn2 _ p q=>p.ty×q.ty
 | .ptr _ p=>p.ty
 | .nil _=>Unit
 | .el t=>t.ty
 | .bor t=>t.ty
def Pat.isS:Pat→Bool
 | .v _ (.st _)=>true
 |_=>false
def zyW (b:Bool) (u:Value) (us:List Value):Prop:=match b with
 |true=>u= .agg us.toArray
 |false=>us=[u]
def zKD (w:World) (S:Nat→Prop) (t:RT) (x:t.ty) (v:Value):Prop:=∃us:List Value,us.length=t.size∧(∀(j:Nat) (lf:Leaf),(t.leaves x)[j]? =some lf→∃v,us[j]? =some v∧LfO w S lf (zkM false t j) (lt w.heap.size) v)∧v=ziH t us
def PatR (w:World) (S:Nat→Prop):(p:Pat)→p.ty→Value→Prop
 | .v sh t,x,v=>zFb w (fun y=>y<w.heap.size∧(sh=true→S y)) t x v
 | .fn0 g,_,v=>v= .func (.func g) #[] #[]
 | .fn1 g p,x,v=>∃u,v= .func (.func g) #[] #[u]∧PatR w S p x u
 | .fn2 g p q,x,v=>∃u u',v= .func (.func g) #[] #[u,u']∧PatR w S p x.1 u∧PatR w S q x.2 u'
 | .ptr T p,x,v=>∃b us u,v= .pointer (some ⟨b,0,none⟩)∧Blk w b T us.toArray∧(∀v∈us,v.oneCell'=true)∧zyW p.isS u us∧PatR w S p x u
 | .nil b,_,v=>v=zLu b
 | .el t,x,v=>∃b o,v= .pointer (some ⟨b,o,none⟩)∧LfR w (lt w.heap.size) (.list t [x]) (.slice (some ⟨b,o,none⟩) 1 1)
 | .bor t,x,v=>zKD w S t x v
def zdW:List Pat→Type
 |[]=>Unit
 |t::ts=>t.ty×zdW ts
def ArgPR (w:World) (S:Nat→Prop):(ts:List Pat)→zdW ts→List Value→Prop
 |[],_,vs=>vs=[]
 |t::ts,x,vs=>∃v vs',vs=v::vs'∧PatR w S t x.1 v∧ArgPR w S ts x.2 vs'
def zAe (P:Program) [Fast P] (f:FuncId) (ps:List Pat) (rs:List RM) (pre:zdW ps→Prop) (fn:zdW ps→Args rs):Prop:=
 zCb P f∧∀(w:World) (S:Nat→Prop) (x:zdW ps) (vs:List Value),(∀y,S y→y<w.heap.size)→ArgPR w S ps x vs→pre x→
  Calls P f vs.toArray w fun e w'=>∃v S' F,e= .returned v∧Below w.heap.size w w'∧(∀y,F y→w.heap.size≤y∧y<w'.heap.size∧¬S' y)∧(∀y,S' y→(S y∨w.heap.size≤y)∧y<w'.heap.size)∧ResO w' S' F rs (fn x) v
def mkP (b:Bool) (l:List AV):Option AV:=match b with
 |true=>some (.agg l)
 |false=>match l with
  |[a]=>some a
  |_=>none
def zvF:Option Nat→Bool
 |none=>true
 |_=>false
def zBW (st:St):List AV→Bool
 |[]=>true
 | .lit _::l=>zBW st l
 |a::l=>zz4 st a&&zBW st l
def zEB (st:St):AV→Bool
 | .agg l=>zBW st l
 | .lit _=>true
 |a=>zz4 st a
def zMR (st:St) (t:RT) (a:AV):Bool:=match t,a with
 | .st n, .agg l=>zj5 st (.st n) 0 ((RT.st n).leaves (RT.st n).dflt) l
 | .st _,_=>false
 |t,a=>zj5 st t 0 (t.leaves t.dflt) [a]
def zj2 (st:St):(p:Pat)→AV→Option p.ty
 | .v sh t,a=>match sh with
   |true=>match zEB st a with
    |true=>zkK st t a
    |false=>none
   |false=>zkK st t a
 | .fn0 g,a=>match a with
   | .fn f []=>match Nat.beq f g with
     |true=>some ()
     |false=>none
   |_=>none
 | .fn1 g p,a=>match a with
   | .fn f [a]=>match Nat.beq f g with
     |true=>zj2 st p a
     |false=>none
   |_=>none
 | .fn2 g p q,a=>match a with
   | .fn f [a,b]=>match Nat.beq f g with
     |true=>match zj2 st p a,zj2 st q b with
      |some x,some y=>some (x,y)
      |_,_=>none
     |false=>none
   |_=>none
 | .ptr T p,a=>match a with
   | .ptr b 0=>match zk4 st.h b with
     |some bk=>match Nat.beq bk.ty T&&zvF bk.op with
      |true=>match mkP p.isS bk.cells with
       |some c=>zj2 st p c
       |none=>none
      |false=>none
     |none=>none
   |_=>none
 | .nil b,a=>match b,a with
   |true, .lit (.pointer none)=>some ()
   |false, .lit (.slice none 0 0)=>some ()
   |_,_=>none
 | .el t,a=>zIC st t a
 | .bor t,a=>match zMR st t a with
   |true=>zkK st t a
   |false=>none
def znB (st:St):(ts:List Pat)→List AV→Option (zdW ts)
 |[],[]=>some ()
 |t::ts,a::zas=>match zj2 st t a,znB st ts zas with
  |some x,some y=>some (x,y)
  |_,_=>none
 |_,_=>none
theorem zJw {b:Bool} {l:List AV} {a:AV} {us:List Value} (h:mkP b l=some a) (hd:dens ρ l us):∃u,den ρ a u∧zyW b u us:=by
 cases b with
 |true=>
  obtain rfl:=zM8 h;exact ⟨.agg us.toArray,by simp only [den];exact ⟨us,rfl,hd⟩,rfl⟩
 |false=>
  match l,h with
  |[c],h=>
   obtain rfl:=zM8 h;simp only [dens] at hd;obtain ⟨v,vs,rfl,h1,rfl⟩:=hd;exact ⟨v,h1,rfl⟩
theorem zJu {t:RT} {c:Value} {l:List t.ty} {d:Nat} (h:zbO d st t (.lit c)=some l) {v:Value} (hd:den ρ (.lit c) v) {G:Nat→Prop}:LfR w G (.list t l) v:=by
 simp only [den] at hd;subst hd;cases d with
 |zero=>cases h
 |succ d=>
  unfold zbO at h;split at h
  ·rename_i e;obtain rfl:=zM8 h;cases e;exact zzM _ _
  all_goals first|(cases h;done)|(rename_i e;cases e;done)|(rename_i e _;cases e;done)
theorem zz3:∀{l:List AV},zBW st l=true→∀a∈l,(∃v,a= .lit v)∨zz4 st a=true
 |[],_,_,h=>nomatch h
 |a::l,h,b,hb=>by
  have key:((∃v,a= .lit v)∨zz4 st a=true)∧zBW st l=true:=by
   cases a<;>first|exact ⟨.inl ⟨_,rfl⟩,h⟩|(simp only [zBW,Bool.and_eq_true] at h;exact ⟨.inr h.1,h.2⟩)
  rcases List.mem_cons.1 hb with rfl|hb
  ·exact key.1
  ·exact zz3 key.2 b hb
theorem zGP (hs:SimF K w0 ρ S F st w) {t:RT} {a:AV} {v:Value} {x:t.ty} (h:zkK st t a=some x) (hsh:zEB st a=true) (hd:den ρ a v):zFb w (fun y=>y<w.heap.size∧(true=true→S y)) t x v:=by
 have leaf:∀{a:AV},((∃v,a= .lit v)∨zz4 st a=true)→∀t v l,zbO 5 st t a=some l→den ρ a v→LfR w (fun y=>y<w.heap.size∧(true=true→S y)) (.list t l) v:=by
  intro a ha t v l hl hd;rcases ha with ⟨c,rfl⟩|ha
  ·exact zJu hl hd
  ·exact (zt8 hs hl ha hd).keep (fun y hy=>⟨hs.sl y hy,fun _=>hy⟩) fun _ _ _=>rfl
 have rows:∀{ls:List Leaf} {zas:List AV} {us:List Value} {r:List Leaf},(∀a∈zas,(∃v,a= .lit v)∨zz4 st a=true)→zag (zbO 5 st) ls zas=some r→dens ρ zas us→r.length=us.length∧∀(j:Nat) lf u,r[j]? =some lf→us[j]? =some u→LfR w (fun y=>y<w.heap.size∧(true=true→S y)) lf u:=by
  intro ls
  induction ls with
  |nil=>
   intro zas us r ha h hd;cases zas with
   |nil=>
    simp only [zag,zNn] at h;simp only [dens] at hd;subst h;subst hd;exact ⟨rfl,fun j lf u h=>by simp at h⟩
   |cons a zas=>simp [zag] at h
  |cons l ls ih=>
   intro zas us r ha h hd;cases zas with
   |nil=>cases l<;>simp [zag] at h
   |cons a zas=>
    simp only [dens] at hd;obtain ⟨u0,us',rfl,hd1,hd2⟩:=hd;have fin:∀{lf:Leaf} {r':List Leaf},LfR w (fun y=>y<w.heap.size∧(true=true→S y)) lf u0→zag (zbO 5 st) ls zas=some r'→r=lf::r'→r.length=(u0::us').length∧∀(j:Nat) lf u,r[j]? =some lf→(u0::us')[j]? =some u→LfR w (fun y=>y<w.heap.size∧(true=true→S y)) lf u:=by
     rintro lf r' h1 h2 rfl
     obtain ⟨h3,h4⟩:=ih (fun a h=>ha a (by simp [h])) h2 hd2
     refine ⟨by simp [h3],fun j lf' u e1 e2=>?_⟩
     cases j with
     |zero=>simp at e1 e2;subst e1;subst e2;exact h1
     |succ j=>exact h4 j lf' u (by simpa using e1) (by simpa using e2)
    have h0:=ha a (by simp)
    unfold zag at h;split at h
    ·rename_i heq _;cases heq
    ·rename_i k n0 ls' j n as' e1 e2;obtain ⟨rfl,rfl⟩:=List.cons.inj e1;obtain ⟨rfl,rfl⟩:=List.cons.inj e2;split at h
     ·rename_i r' hk hr;have hk:=of_decide_eq_true hk;subst hk;simp only [den] at hd1;subst hd1;exact fin (.int _ _) hr (zM8 h).symm
     ·cases h
    ·rename_i b0 ls' b as' e1 e2;obtain ⟨rfl,rfl⟩:=List.cons.inj e1;obtain ⟨rfl,rfl⟩:=List.cons.inj e2;split at h
     ·rename_i r' hr;simp only [den] at hd1;subst hd1;exact fin (.bool _) hr (zM8 h).symm
     ·cases h
    ·rename_i b0 ls' b as' e1 e2;obtain ⟨rfl,rfl⟩:=List.cons.inj e1;obtain ⟨rfl,rfl⟩:=List.cons.inj e2;split at h
     ·rename_i r' hr;simp only [den] at hd1;subst hd1;exact fin (.str _) hr (zM8 h).symm
     ·cases h
    ·rename_i t l0 ls' a' as' e1 e2;obtain ⟨rfl,rfl⟩:=List.cons.inj e1;obtain ⟨rfl,rfl⟩:=List.cons.inj e2;split at h
     ·rename_i l1 r' hl hr;exact fin (leaf h0 _ _ _ hl hd1) hr (zM8 h).symm
     ·cases h
    ·cases h
 have fin:∀{t:RT} {x:t.ty} {zas:List AV} {us:List Value} {ls:List Leaf},(∀a∈zas,(∃v,a= .lit v)∨zz4 st a=true)→zag (zbO 5 st) (t.leaves t.dflt) zas=some ls→t.build ls=some x→dens ρ zas us→Rd w (fun y=>y<w.heap.size∧(true=true→S y)) t x us:=fun {t x zas us ls} ha h hb hd=>by
  obtain ⟨h1,h2⟩:=rows ha h hd;have h3:=RT.build_ok hb;rw [←h3] at h1 h2;refine ⟨by rw [←h1,RT.leaves_len],fun j lf hj=>?_⟩
  have hlt:=(zNa.1 hj).1;exact ⟨us[j]'(by omega),zNg _,h2 j lf _ hj (zNg _)⟩
 have hone:(∀l,a≠ .agg l)→(∃v,a= .lit v)∨zz4 st a=true:=fun hn=>by
  cases a<;>first|exact .inl ⟨_,rfl⟩|exact absurd rfl (hn _)|exact .inr hsh
 have one:∀{t:RT} {x:t.ty},(match zag (zbO 5 st) (t.leaves t.dflt) [a] with|some ls=>t.build ls|none=>none)=some x→(∀us,ziH t us=us.headD undef)→(∀l,a≠ .agg l)→zFb w (fun y=>y<w.heap.size∧(true=true→S y)) t x v:=fun {t x} h hm hn=>by
  split at h
  ·rename_i ls hls;exact ⟨[v],fin (by intro b hb;obtain rfl:=List.mem_singleton.1 hb;exact hone hn) hls h (by simp only [dens];exact ⟨v,[],rfl,hd,rfl⟩),by rw [hm];rfl⟩
  ·cases h
 have noagg:∀{t:RT} {x:t.ty},(match zag (zbO 5 st) (t.leaves t.dflt) [a] with|some ls=>t.build ls|none=>none)=some x→(t.leaves t.dflt).length=1→∀l,a≠ .agg l:=by
  rintro t x h hl l rfl
  match hq:t.leaves t.dflt,hl with
  |[lf],_=>
   rw [hq] at h;cases lf<;>simp [zag,zbO] at h
 cases t with
 |st n=>
  cases a with
  |agg l=>
   simp only [zkK] at h;split at h
   ·rename_i ls hls;simp only [den] at hd;obtain ⟨us,rfl,hd⟩:=hd;exact ⟨us,fin (fun b hb=>zz3 hsh b hb) hls h hd,rfl⟩
   ·cases h
  |_=>cases h
 |int k=>exact one (t:= .int k) h (fun _=>rfl) (noagg (t:= .int k) h rfl)
 |bool=>exact one (t:= .bool) h (fun _=>rfl) (noagg (t:= .bool) h rfl)
 |str=>exact one (t:= .str) h (fun _=>rfl) (noagg (t:= .str) h rfl)
 |list t=>exact one (t:= .list t) h (fun _=>rfl) (noagg (t:= .list t) h rfl)
theorem zos {f:(t:RT)→AV→Option (List t.ty)}:∀{ls:List Leaf} {zas:List AV} {r:List Leaf},zag f ls zas=some r→r.length=ls.length∧zas.length=ls.length∧∀(j:Nat) lf a,r[j]? =some lf→zas[j]? =some a→∃lf0,ls[j]? =some lf0∧lf.elem=lf0.elem∧∀u l,lf= .list u l→f u a=some l
 |[],[],r,h=>by
  simp only [zag,zNn] at h;subst h;exact ⟨rfl,rfl,fun j lf a h=>by simp at h⟩
 |[],_::_,_,h=>by simp [zag] at h
 |l::ls,[],_,h=>by cases l<;>simp [zag] at h
 |l::ls,a::zas,r,h=>by
  have key:∃lf r',r=lf::r'∧zag f ls zas=some r'∧lf.elem=l.elem∧∀u x,lf= .list u x→f u a=some x:=by
   cases l with
   |list t x=>
    simp only [zag] at h;split at h
    ·rename_i l0 r0 h1 h2;obtain rfl:=zM8 h;exact ⟨_,_,rfl,h2,rfl,fun u x e=>by cases e;exact h1⟩
    ·cases h
   |int k n=>
    cases a with
    |lit v=>
     cases v with
     |int j m=>
      simp only [zag] at h;split at h
      ·rename_i r0 h1 h2;obtain rfl:=zM8 h;exact ⟨_,_,rfl,h2,rfl,fun u x e=>by cases e⟩
      ·cases h
     |_=>simp [zag] at h
    |_=>simp [zag] at h
   |bool b=>
    cases a with
    |lit v=>
     cases v with
     |bool j=>
      simp only [zag] at h;split at h
      ·rename_i r0 h2;obtain rfl:=zM8 h;exact ⟨_,_,rfl,h2,rfl,fun u x e=>by cases e⟩
      ·cases h
     |_=>simp [zag] at h
    |_=>simp [zag] at h
   |str b=>
    cases a with
    |lit v=>
     cases v with
     |string j=>
      simp only [zag] at h;split at h
      ·rename_i r0 h2;obtain rfl:=zM8 h;exact ⟨_,_,rfl,h2,rfl,fun u x e=>by cases e⟩
      ·cases h
     |_=>simp [zag] at h
    |_=>simp [zag] at h
  obtain ⟨lf,r',rfl,h1,h2,h3⟩:=key;obtain ⟨g1,g2,g3⟩:=zos h1;refine ⟨by simp [g1],by simp [g2],fun j lf2 a2 e1 e2=>?_⟩
  cases j with
  |zero=>
   simp only [List.getElem?_cons_zero,zNn] at e1 e2;subst e1;subst e2;exact ⟨l,rfl,h2,h3⟩
  |succ j=>
   obtain ⟨lf0,q1,q2⟩:=g3 j lf2 a2 (by simpa using e1) (by simpa using e2)
   exact ⟨lf0,by simpa using q1,q2⟩
theorem zuN (hs:SimF K w0 ρ S F st w) {t:RT} {zas:List AV} {us:List Value} {ls:List Leaf} {x:t.ty} (h:zag (zbO 5 st) (t.leaves t.dflt) zas=some ls) (hbl:t.build ls=some x) (hb:zj5 st t 0 (t.leaves t.dflt) zas=true) (hd:dens ρ zas us):
  us.length=t.size∧∀(j:Nat) lf,(t.leaves x)[j]? =some lf→∃v,us[j]? =some v∧LfO w S lf (zkM false t j) (lt w.heap.size) v:=by
 obtain ⟨g1,g2,g3⟩:=zos h;have hrd:=zus hs h hbl hd;have hlv:t.leaves x=ls:=RT.build_ok hbl;refine ⟨hrd.1,fun j lf hj=>?_⟩;obtain ⟨v,hv,hr⟩:=hrd.2 j lf hj;refine ⟨v,hv,?_⟩;rw [hlv] at hj;obtain ⟨a,ha,hda⟩:=zuW j hd hv;obtain ⟨lf0,q1,q2,q3⟩:=g3 j lf a hj ha;cases lf with
 |list u l=>
  cases lf0 with
  |list u' l'=>
   simp only [Leaf.elem,zNn] at q2;subst q2;have hw:=zuM hb j u l' a q1 ha;rw [Nat.zero_add] at hw;have hvw:=q3 u l rfl;have hel:t.elemAt j=some u:=zbo (x:=x) (by rw [hlv];exact hj)
   unfold zkM;rw [hel];cases hsh:shT t j with
   |true=>
    rw [hsh] at hw;exact .shr _ _ _ _ _ rfl (zt8 hs hvw hw hda)
   |false=>
    rw [hsh] at hw;exact zy8 hs hvw hw hda
  |_=>cases q2
 |int k n=>cases hr;exact .int ..
 |bool b=>cases hr;exact .bool ..
 |str s=>cases hr;exact .str ..
theorem zE5 (hs:SimF K w0 ρ S F st w) {t:RT} {a:AV} {v:Value} {x:t.ty} (h:zkK st t a=some x) (hb:zMR st t a=true) (hd:den ρ a v):zKD w S t x v:=by
 have one:∀{t:RT} {x:t.ty},(match zag (zbO 5 st) (t.leaves t.dflt) [a] with|some ls=>t.build ls|none=>none)=some x→zj5 st t 0 (t.leaves t.dflt) [a]=true→(ziH t [v]=v)→zKD w S t x v:=fun h hb e=>by
  split at h
  ·rename_i ls hls;obtain ⟨h1,h2⟩:=zuN hs hls h hb (us:=[v]) (by simp only [dens];exact ⟨v,[],rfl,hd,rfl⟩)
   exact ⟨[v],h1,h2,e.symm⟩
  ·cases h
 cases t with
 |st n=>
  cases a with
  |agg l=>
   simp only [zkK] at h;split at h
   ·rename_i ls hls;simp only [den] at hd;obtain ⟨us,rfl,hd⟩:=hd;obtain ⟨h1,h2⟩:=zuN hs hls h hb hd;exact ⟨us,h1,h2,rfl⟩
   ·cases h
  |_=>cases h
 |int k=>exact one (t:= .int k) h hb rfl
 |bool=>exact one (t:= .bool) h hb rfl
 |str=>exact one (t:= .str) h hb rfl
 |list t=>exact one (t:= .list t) h hb rfl
theorem zl3 (hs:SimF K w0 ρ S F st w):∀{p:Pat} {a:AV} {v:Value} {x:p.ty},zj2 st p a=some x→den ρ a v→PatR w S p x v
 | .v sh t,a,v,x,h,hd=>by
   cases sh with
   |true=>
    simp only [zj2] at h;split at h
    ·rename_i hsh;exact zGP hs h hsh hd
    ·cases h
   |false=>
    simp only [zj2] at h;obtain ⟨us,h1,h2⟩:=zGO hs h hd;exact ⟨us,⟨h1.1,fun j lf hj=>let ⟨v,h3,h4⟩:=h1.2 j lf hj;⟨v,h3,h4.keep (fun y hy=>⟨hy,fun e=>nomatch e⟩) fun _ _ _=>rfl⟩⟩,h2⟩
 | .fn0 g,a,v,x,h,hd=>by
   simp only [zj2] at h;split at h
   ·rename_i f;split at h
    ·rename_i hb;simp only [den,dens] at hd;obtain ⟨vs,rfl,rfl⟩:=hd;rw [zM9 hb];rfl
    ·cases h
   ·cases h
 | .fn1 g p,a,v,x,h,hd=>by
   simp only [zj2] at h;split at h
   ·rename_i f a;split at h
    ·rename_i hb;simp only [den,dens] at hd;obtain ⟨vs,rfl,u,vs',rfl,h1,rfl⟩:=hd;rw [zM9 hb];exact ⟨u,rfl,zl3 hs h h1⟩
    ·cases h
   ·cases h
 | .fn2 g p q,a,v,x,h,hd=>by
   simp only [zj2] at h;split at h
   ·rename_i f a b;split at h
    ·rename_i hb;split at h
     ·rename_i x1 y1 e1 e2;obtain rfl:=zM8 h;simp only [den,dens] at hd;obtain ⟨vs,rfl,u,vs',rfl,h1,u',vs'',rfl,h2,rfl⟩:=hd;rw [zM9 hb];exact ⟨u,u',rfl,zl3 hs e1 h1,zl3 hs e2 h2⟩
     ·cases h
    ·cases h
   ·cases h
 | .ptr T p,a,v,x,h,hd=>by
   simp only [zj2] at h;split at h
   ·rename_i b;split at h
    ·rename_i bk hb;split at h
     ·rename_i e12;simp only [Bool.and_eq_true] at e12;obtain ⟨e1,e2⟩:=e12;split at h
      case h_2=>cases h
      rename_i a e3;obtain ⟨y,c,hx,_,⟨vs,rest,b1,b2,b3,b4,_⟩,_⟩:=hs.blkC hb;simp only [den] at hd;obtain ⟨y',c',hy,rfl⟩:=hd;rw [hx] at hy;obtain ⟨rfl,rfl⟩:=zNb (zM8 hy);have hop:bk.op=none:=by
       revert e2;cases bk.op<;>intro e2
       ·rfl
       ·cases e2
      rw [b4 hop,List.append_nil,zM9 e1] at b2;obtain ⟨u,h1,h2⟩:=zJw e3 b1;exact ⟨y,vs,u,rfl,b2,b3,h2,zl3 hs h h1⟩
     ·cases h
    ·cases h
   ·cases h
 | .nil b,a,v,x,h,hd=>by
   simp only [zj2] at h;split at h
   ·simp only [den] at hd;exact hd
   ·simp only [den] at hd;exact hd
   ·cases h
 | .el t,a,v,x,h,hd=>by
   simp only [zj2] at h;exact zGQ hs h hd
 | .bor t,a,v,x,h,hd=>by
   simp only [zj2] at h;split at h
   ·rename_i hb;exact zE5 hs h hb hd
   ·cases h
theorem zqJ (hs:SimF K w0 ρ S F st w):∀{ts:List Pat} {zas:List AV} {vs:List Value} {x:zdW ts},znB st ts zas=some x→dens ρ zas vs→ArgPR w S ts x vs
 |[],[],vs,x,h,hd=>by simp only [dens] at hd;exact hd
 |[],_::_,_,_,h,_=>nomatch h
 |_::_,[],_,_,h,_=>nomatch h
 |t::ts,a::zas,vs,x,h,hd=>by
  simp only [znB] at h;split at h
  ·rename_i x1 y1 h1 h2;obtain rfl:=zM8 h;simp only [dens] at hd;obtain ⟨v,vs',rfl,hd1,hd2⟩:=hd;exact ⟨v,vs',rfl,zl3 hs h1 hd1,zqJ hs h2 hd2⟩
  ·cases h
def zyV (wr:Nat→Bool) (n:Nat):Nat→Bool
 |0=>true
 |k+1=>wr (Nat.add n k)&&zyV wr n k
theorem zuv {wr:Nat→Bool} {n:Nat}:∀{k:Nat},zyV wr n k=true→∀m,n≤m→m<n+k→wr m=true
 |0,_,m,h1,h2=>by omega
 |k+1,h,m,h1,h2=>by
  simp only [zyV,Bool.and_eq_true] at h;by_cases hm:m=n+k
  ·rw [hm];exact h.1
  ·exact zuv h.2 m h1 (by omega)
noncomputable def zHy (ps:List Pat) (rs:List RM) (pre:zdW ps→Prop) (fn:zdW ps→Args rs):Ctr:=fun args st=>match znB st ps args with
 |some x=>match zhd rs (fn x) st with
  |(v,st')=>match zyV st.wr st.n (Nat.sub st'.n st.n) with
   |true=> .must (pre x) (Classical.propDecidable _) (.ret (v,st'))
   |false=> .fail 31 none
 |none=> .fail 30 none
def orC (ps:List Pat) (c c':Ctr):Ctr:=fun args st=>match znB st ps args with
 |some _=>c args st
 |none=>c' args st
theorem zvI {f:FuncId} {ps:List Pat} {c c':Ctr} (h:zi P f c) (h':zi P f c'):zi P f (orC ps c c'):=by
 intro args st v st' hf;unfold orC at hf;split at hf
 ·exact h args st v st' hf
 ·exact h' args st v st' hf
theorem Own.more {S' G:Nat→Prop} {t:RT} {x:t.ty} {ow:Nat→Path→Bool} {us:List Value} (h:Own w S t x ow G us) (hS:∀y,S y→S' y):Own w S' t x ow G us:=by
 obtain ⟨h1,Gs,h2,h3,h4⟩:=h;exact ⟨h1,Gs,h2,h3,fun j lf hj=>let ⟨v,h5,h6⟩:=h4 j lf hj;⟨v,h5,h6.more hS⟩⟩
theorem ValO.more {S' G:Nat→Prop} (hS:∀y,S y→S' y):∀{m:RM} {x:m.ty} {v:Value},ValO w S G m x v→ValO w S' G m x v
 | .own t,x,v,⟨us,h,e⟩=>⟨us,h.more hS,e⟩
 | .shr t,x,v,⟨us,h,e⟩=>⟨us,h.more hS,e⟩
 | .no,_,_,_=>trivial
 | .box _ _ _,_,_,⟨b,us1,us2,G,h1,h2,h3,h4,h5,h6,h7⟩=>⟨b,us1,us2,G,h1,h2,h3,h4,h5,h6.more hS,h7.more hS⟩
theorem ValsO.more {S':Nat→Prop} (hS:∀y,S y→S' y):∀{ms:List RM} {x:Args ms} {vs:List Value} {G:Nat→Prop},ValsO w S G ms x vs→ValsO w S' G ms x vs
 |[],_,_,_,h=>h
 |m::ms,x,vs,G,⟨v,vs',G1,G2,e,g1,g2,g3,h1,h2⟩=>⟨v,vs',G1,G2,e,g1,g2,g3,h1.more hS,h2.more hS⟩
theorem ResO.more {S' G:Nat→Prop} (hS:∀y,S y→S' y) {ms:List RM} {x:Args ms} {v:Value} (h:ResO w S G ms x v):ResO w S' G ms x v:=by
 match ms,x,h with
 |[m],x,h=>exact ValO.more hS h
 |[],x,h=>obtain ⟨vs,e,h⟩:=h;exact ⟨vs,e,ValsO.more hS h⟩
 |_::_::_,x,h=>obtain ⟨vs,e,h⟩:=h;exact ⟨vs,e,ValsO.more hS h⟩
theorem zFu {f:FuncId} {ps:List Pat} {rs:List RM} {pre:zdW ps→Prop} {fn:zdW ps→Args rs} (h:zAe P f ps rs pre fn):zi P f (zHy ps rs pre fn):=by
 intro args st v st' hf;unfold zHy at hf;split at hf
 case h_2=>cases hf
 rename_i x hx;cases hn:zhd rs (fn x) st with
 |mk v1 st1=>
 rw [hn] at hf;simp only at hf;split at hf
 case h_2=>cases hf
 rename_i hw;obtain ⟨hp,hf⟩:=VT.out_must hf;obtain ⟨rfl,rfl⟩:=zNb (zM8 hf);refine ⟨by have:=zvD (rs:=rs) (y:=fn x) (st:=st);rw [hn] at this;exact this,h.1,fun K w0 w ρ vs hs hd=>?_⟩
 obtain ⟨S,F,hs⟩:=hs;refine (h.2 w S x vs hs.sl (zqJ hs hx hd) hp).mono ?_
 rintro e w' ⟨u,S',F',rfl,hb,hF,hS,hr⟩
 have hkp:Kp (fun b=>b<w.heap.size) w w':=Kp.of_below hb;have hs':=hs.to hkp;have hlt:∀j bj,st.h.get j=some bj→∀y,F j y→y<w.heap.size:=fun j bj hj y hy=>by
  obtain ⟨_,_,_,hb,_⟩:=hs.blk j bj hj;exact hb.lt y hy
 have s2:=hs'.share (fun y=>S y∨S' y) (fun y hy=> .inl hy) (fun y hy=>by
  rcases hy with hy|hy
  ·exact .inl hy
  ·rcases (hS y hy).1 with h1|h1
   ·exact .inl h1
   ·exact .inr ⟨fun hK=>by have:=hs.ltw y hK;omega,(hS y hy).2⟩) (fun i bk y hi hw hy hy'=>by
  rcases hy' with hy'|hy'
  ·exact hs.sd i bk y hi hw hy hy'
  ·rcases (hS y hy').1 with h1|h1
   ·exact hs.sd i bk y hi hw hy h1
   ·have:=hlt i bk hi y hy;omega)
 obtain ⟨ρ',F2,h1,h2,h3,_⟩:=zvC s2 (hr.more fun y hy=> .inr hy) (fun n h1 h2=>by
  rw [hn] at h2;exact zuv hw n h1 (by have:n<st1.n:=h2;show n<st.n+(st1.n - st.n);omega)) (fun y hy=>by
  obtain ⟨g1,g2,g3⟩:=hF y hy;refine ⟨g2,fun hK=>by have:=hs.ltw y hK;omega,fun hSS=>?_,fun j bj hj hy'=>by have:=hlt j bj hj y hy';omega⟩
  rcases hSS with hSS|hSS
  ·have:=hs.sl y hSS;omega
  ·exact g3 hSS) hn
 exact ⟨u,ρ',rfl,h1,⟨_,F2,h2⟩,h3⟩
def zqa:Value→Value→Prop
 | .int k n, .int j m=>match decide (k=j) with
   |true=>n=m
   |false=>False
 | .bool b, .bool c=>b=c
 | .string s, .string r=>s=r
 |v,u=>v=u
theorem zBS {v u:Value} (h:zqa v u):v=u:=by
 unfold zqa at h;split at h
 ·split at h
  ·rename_i hk;have:=of_decide_eq_true hk;subst this;subst h;rfl
  ·exact h.elim
 ·subst h;rfl
 ·subst h;rfl
 ·exact h
def zq9:Path→Path→Prop
 |[],[]=>True
 |(i,j)::p,(i',j')::p'=>(i=i'∧j=j')∧zq9 p p'
 |_,_=>False
theorem zlM:∀{p p':Path},zq9 p p'→p=p'
 |[],[],_=>rfl
 |[],_::_,h=>by simp only [zq9] at h
 |_::_,[],h=>by simp only [zq9] at h
 |(i,j)::p,(i',j')::p',h=>by simp only [zq9] at h;rw [h.1.1,h.1.2,zlM h.2]
mutual
def z5:AV→AV→Prop
 | .dead,_=>True
 | .lit v, .lit u=>zqa v u
 | .ptr b o, .ptr b' o'=>match Nat.beq b b',Nat.beq o o' with
   |true,true=>True
   |_,_=>False
 | .lv i k p sz lo n, .lv i' k' p' sz' lo' n'=>match Nat.beq i i',Nat.beq k k',Nat.beq sz sz' with
   |true,true,true=>zq9 p p'∧lo=lo'∧n=n'
   |_,_,_=>False
 | .lv i k p sz lo n, .lw i' k' p' sz' n'=>match Nat.beq i i',Nat.beq k k',Nat.beq sz sz' with
   |true,true,true=>zq9 p p'∧lo=0∧n=n'
   |_,_,_=>False
 | .ep i k p sz lo n, .ep i' k' p' sz' lo' n'=>match Nat.beq i i',Nat.beq k k',Nat.beq sz sz' with
   |true,true,true=>zq9 p p'∧lo=lo'∧n=n'
   |_,_,_=>False
 | .agg l, .agg m=>sameAVs l m
 | .tup l, .tup m=>sameAVs l m
 | .fn f l, .fn g m=>match Nat.beq f g with
   |true=>sameAVs l m
   |false=>False
 | .lw i k p sz n, .lw i' k' p' sz' n'=>match Nat.beq i i',Nat.beq k k',Nat.beq sz sz' with
   |true,true,true=>zq9 p p'∧n=n'
   |_,_,_=>False
 | .ver, .ver=>True
 | .emz, .emz=>True
 |v,u=>v=u
def sameAVs:List AV→List AV→Prop
 |[],[]=>True
 |a::l,b::m=>z5 a b∧sameAVs l m
 |_,_=>False
end
mutual
theorem zsp {ρ:Rho}:∀{a b:AV} {v:Value},z5 a b→den ρ b v→den ρ a v
 | .dead,_,_,_,_=>by simp only [den]
 | .lit x,b,v,h,hd=>by
   cases b with
   |lit u=>simp only [z5] at h;rw [zBS h];exact hd
   |_=>simp only [z5] at h;rw [h];exact hd
 | .ptr x o,b,v,h,hd=>by
   cases b with
   |ptr x' o'=>
    simp only [z5] at h;split at h
    ·rename_i h1 h2;rw [zM9 h1,zM9 h2];exact hd
    ·exact h.elim
   |_=>simp only [z5] at h;rw [h];exact hd
 | .lv i k p sz lo n,b,v,h,hd=>by
   cases b with
   |lv i' k' p' sz' lo' n'=>
    simp only [z5] at h;split at h
    ·rename_i h1 h2 h3;rw [zM9 h1,zM9 h2,zM9 h3,zlM h.1,h.2.1,h.2.2];exact hd
    ·exact h.elim
   |lw i' k' p' sz' n'=>
    simp only [z5] at h;split at h
    ·rename_i h1 h2 h3;rw [zM9 h1,zM9 h2,zM9 h3,zlM h.1,h.2.1,h.2.2];simp only [den] at hd ⊢;obtain ⟨g,g1,g2,_⟩:=hd;exact ⟨g,g1,g2⟩
    ·exact h.elim
   |_=>simp only [z5] at h;rw [h];exact hd
 | .ep i k p sz lo n,b,v,h,hd=>by
   cases b with
   |ep i' k' p' sz' lo' n'=>
    simp only [z5] at h;split at h
    ·rename_i h1 h2 h3;rw [zM9 h1,zM9 h2,zM9 h3,zlM h.1,h.2.1,h.2.2];exact hd
    ·exact h.elim
   |_=>simp only [z5] at h;rw [h];exact hd
 | .agg l,b,v,h,hd=>by
   cases b with
   |agg m=>
    simp only [z5] at h;simp only [den] at hd ⊢;obtain ⟨vs,e,hd⟩:=hd;exact ⟨vs,e,sameAVs_den h hd⟩
   |_=>simp only [z5] at h;rw [h];exact hd
 | .tup l,b,v,h,hd=>by
   cases b with
   |tup m=>
    simp only [z5] at h;simp only [den] at hd ⊢;obtain ⟨vs,e,hd⟩:=hd;exact ⟨vs,e,sameAVs_den h hd⟩
   |_=>simp only [z5] at h;rw [h];exact hd
 | .sint ..,_,_,h,hd=>by simp only [z5] at h;rw [h];exact hd
 | .sbool ..,_,_,h,hd=>by simp only [z5] at h;rw [h];exact hd
 | .sstr ..,_,_,h,hd=>by simp only [z5] at h;rw [h];exact hd
 | .sl ..,_,_,h,hd=>by simp only [z5] at h;rw [h];exact hd
 | .emp,_,_,h,hd=>by simp only [z5] at h;rw [h];exact hd
 | .lw i k p sz n,b,v,h,hd=>by
   cases b with
   |lw i' k' p' sz' n'=>
    simp only [z5] at h;split at h
    ·rename_i h1 h2 h3;rw [zM9 h1,zM9 h2,zM9 h3,zlM h.1,h.2];exact hd
    ·exact h.elim
   |_=>simp only [z5] at h;rw [h];exact hd
 | .emz,b,v,h,hd=>by
   cases b with
   |emz=>exact hd
   |_=>simp only [z5] at h;rw [h];exact hd
 | .mp _,_,_,h,hd=>by simp only [z5] at h;rw [h];exact hd
 | .fn f l,b,v,h,hd=>by
   cases b with
   |fn g m=>
    simp only [z5] at h;split at h
    ·rename_i h1;have h1:=zM9 h1;subst h1;simp only [den] at hd ⊢;obtain ⟨vs,e,hd⟩:=hd;exact ⟨vs,e,sameAVs_den h hd⟩
    ·exact h.elim
   |_=>simp only [z5] at h;rw [h];exact hd
 | .bm _ _,_,_,h,hd=>by simp only [z5] at h;rw [h];exact hd
 | .tre ..,_,_,h,hd=>by simp only [z5] at h;rw [h];exact hd
 | .ver,b,_,h,hd=>by
   cases b with
   |ver=>exact hd
   |_=>simp only [z5] at h;rw [h];exact hd
theorem sameAVs_den {ρ:Rho}:∀{l m:List AV} {vs:List Value},sameAVs l m→dens ρ m vs→dens ρ l vs
 |[],[],_,_,hd=>hd
 |[],_::_,_,h,_=>by simp only [sameAVs] at h
 |_::_,[],_,h,_=>by simp only [sameAVs] at h
 |a::l,b::m,vs,h,hd=>by
  simp only [sameAVs] at h;simp only [dens] at hd ⊢;obtain ⟨v,vs',e,h1,h2⟩:=hd;exact ⟨v,vs',e,zsp h.1 h1,sameAVs_den h.2 h2⟩
end
mutual
def zJ7 (n:Nat):AV→Bool
 | .ptr b _=>Nat.blt b n
 | .sl b _ _ _ _=>Nat.blt b n
 | .mp b=>Nat.blt b n
 | .lv i k _ _ _ _=>Nat.blt i n&&Nat.blt k n
 | .lw i k _ _ _=>Nat.blt i n&&Nat.blt k n
 | .ep i k _ _ _ _=>Nat.blt i n&&Nat.blt k n
 | .tre _ _ _ k=>Nat.blt k n
 | .fn _ l=>undersB n l
 | .bm _ l=>undersB n l
 | .agg l=>undersB n l
 | .tup l=>undersB n l
 |_=>true
def undersB (n:Nat):List AV→Bool
 |[]=>true
 |a::l=>zJ7 n a&&undersB n l
end
structure Snap where
 t:List (Nat×AV)
 b:List (Nat×Bk)
 n:Nat
def tmS:List (Nat×AV)→T AV
 |[]=> .e
 |(t,v)::l=>(tmS l).set t v
def blS:List (Nat×Bk)→T Bk
 |[]=> .e
 |(b,k)::l=>(blS l).set b k
def zEm:Kd→Kd→Bool
 | .map, .map=>true
 | .ver, .ver=>true
 |_,_=>false
def zEn:Ow→Ow→Prop
 | .all, .all=>True
 | .none, .none=>True
 | .ro, .ro=>True
 | .top, .top=>True
 | .bor, .bor=>True
 | .fn f, .fn g=>f=g
 |_,_=>False
theorem zEo {o p:Ow} (h:zEn o p):o=p:=by
 cases o<;>cases p<;>first|rfl|(exact h.elim)|(have h:_=_:=h;rw [h])
def zAY (l:List Nat):Nat→List Leaf→Bool
 |_,[]=>true
 |j, .list .. ::ls=>zH3 j l&&zAY l (Nat.succ j) ls
 |j,_::ls=>zAY l (Nat.succ j) ls
theorem zk3 {l:List Nat}:∀{j:Nat} {ls:List Leaf},zAY l j ls=true→∀(q:Nat) lf,ls[q]? =some lf→lf.elem≠none→j+q∈l
 |_,[],_,q,lf,hq,_=>by simp at hq
 |j, .list u x::ls,h,q,lf,hq,he=>by
  simp only [zAY,Bool.and_eq_true] at h;cases q with
  |zero=>exact zn3.1 h.1
  |succ q=>have:=zk3 h.2 q lf (by simpa using hq) he;rwa [show j+(q+1)=j.succ+q by omega]
 |j, .int .. ::ls,h,q,lf,hq,he=>by
  cases q with
  |zero=>simp only [List.getElem?_cons_zero,zNn] at hq;subst hq;exact absurd rfl he
  |succ q=>have:=zk3 (j:=Nat.succ j) h q lf (by simpa using hq) he;rwa [show j+(q+1)=j.succ+q by omega]
 |j, .bool .. ::ls,h,q,lf,hq,he=>by
  cases q with
  |zero=>simp only [List.getElem?_cons_zero,zNn] at hq;subst hq;exact absurd rfl he
  |succ q=>have:=zk3 (j:=Nat.succ j) h q lf (by simpa using hq) he;rwa [show j+(q+1)=j.succ+q by omega]
 |j, .str .. ::ls,h,q,lf,hq,he=>by
  cases q with
  |zero=>simp only [List.getElem?_cons_zero,zNn] at hq;subst hq;exact absurd rfl he
  |succ q=>have:=zk3 (j:=Nat.succ j) h q lf (by simpa using hq) he;rwa [show j+(q+1)=j.succ+q by omega]
def zKl:List Nat→List Nat→Bool
 |[],[]=>true
 |a::l,b::m=>Nat.beq a b&&zKl l m
 |_,_=>false
theorem zCM:∀{l m:List Nat},zKl l m=true→l=m
 |[],[],_=>rfl
 |[],_::_,h=>nomatch h
 |_::_,[],h=>nomatch h
 |a::l,b::m,h=>by
  simp only [zKl,Bool.and_eq_true] at h;rw [zM9 h.1,zCM h.2]
def zCy (t:RT) (n:Nat):Ow→Ow→Option MP
 | .dc i l, .dc i' l'=>match zKl l l' with
   |true=>some ⟨i=i',inferInstance⟩
   |false=>match l,zAY l' 0 (t.leaves t.dflt) with
    |[],true=>some ⟨i=Nat.succ i',inferInstance⟩
    |_,_=>none
 | .all, .dc i' _=>some ⟨n≤i',inferInstance⟩
 |_,_=>none
def zm2 (t:RT) (n:Nat) (o o':Ow):Prop:=match zCy t n o o' with
 |some m=>m.p
 |none=>zEn o o'
theorem DcR.full {w:World} {S M F:Nat→Prop} {i:Nat} {l:List Nat} {t:RT} {xs:List t.ty} {v:Value} (h:DcR w S M F i l t xs v) (hl:zAY l 0 (t.leaves t.dflt)=true):DcR w S M F (i+1) [] t xs v:=by
 rcases h with h|⟨c,b,T,cs,G,h1,h2,h3,h4,h5,h6,h7,h8,h9⟩
 ·exact .inl h
 ·refine .inr ⟨c,b,T,cs,G,h1,h2,h3,h4,h5,h6,h7,h8,fun e x hx j lf hj=>?_⟩;obtain ⟨g1,g2⟩:=h9 e x hx j lf hj;refine ⟨fun hd=>?_,g2⟩;rcases hd with hd|⟨_,hd⟩
  ·by_cases he:e<i
   ·exact g1 (.inl he)
   ·have he:e=i:=by omega
    cases hel:lf.elem with
    |none=>exact zkX g2.rd hel
    |some u=>
     refine g1 (.inr ⟨he,?_⟩);have:=congrArg (fun z=>z[j]?) (zb1 t x);simp only [List.getElem?_map,hj,Option.map_some,hel] at this;cases e0:(t.leaves t.dflt)[j]? with
     |none=>rw [e0] at this;cases this
     |some lf0=>
      rw [e0] at this;have h10:=zk3 hl j lf0 e0 (by rw [←zM8 this];simp)
      rwa [Nat.zero_add] at h10
  ·cases hd
theorem DcR.all {w:World} {S M F:Nat→Prop} {i:Nat} {l:List Nat} {t:RT} {xs:List t.ty} {v:Value} (h:DcR w S M F i l t xs v) (hl:xs.length≤i):LfO w S (.list t xs) (owT t) F v:=by
 rcases h with ⟨rfl,A,rfl⟩|⟨c,b,T,cs,G,rfl,h2,h3,h4,h5,h6,h7,h8,h9⟩
 ·exact .nil t _ _ A (zb3 t)
 ·exact .list t xs _ _ c b T cs G (zb3 t) h2 h3 h4 h5 h6 h7 h8 fun e x hx j lf hj=>(h9 e x hx j lf hj).1 (.inl (by have:=(zNa.1 hx).1;omega))
theorem OwnR.conv {w:World} {S M F:Nat→Prop} {o o':Ow} {t:RT} {xs:List t.ty} {v:Value} (h:OwnR w S M F o' t xs v) (hc:zm2 t xs.length o o'):OwnR w S M F o t xs v:=by
 unfold zm2 at hc;split at hc
 ·rename_i m hm;unfold zCy at hm;split at hm
  ·split at hm
   ·rename_i hl;obtain rfl:=zM8 hm;have hc:_=_:=hc;rw [zCM hl,hc];exact h
   ·split at hm
    ·rename_i hl _;obtain rfl:=zM8 hm;have hc:_=_:=hc;rw [hc];exact DcR.full h hl
    ·cases hm
  ·obtain rfl:=zM8 hm;exact DcR.all h hc
  ·cases hm
 ·rw [zEo hc];exact h
def zf3:List AV→List AV→Prop
 |[.tre own t xs k],[.tre own' t' xs' k']=>match Nat.beq k k',RT.same t' t with
  |true,some h=>zm2 t' xs'.length own own'∧xs=zqO h xs'
  |_,_=>False
 |l,m=>match zEm (zu l) (zu m) with
  |true=>sameAVs l m
  |false=>False
def zHc:Option Nat→Option Nat→Bool
 |none,none=>true
 |some a,some b=>Nat.beq a b
 |_,_=>false
def zhD:List (Nat×Nat)→Nat→Option Nat
 |[],_=>none
 |(p,b)::l,q=>match Nat.beq p q with
  |true=>some b
  |false=>zhD l q
def zmu:List (Nat×Nat)→Nat→Option Nat
 |[],_=>none
 |(p,b)::l,c=>match Nat.beq b c with
  |true=>some p
  |false=>zmu l c
def zE8:List (Nat×Nat)→List Nat
 |[]=>[]
 |(p,_)::l=>p::zE8 l
def zFo:List (Nat×Nat)→List Nat
 |[]=>[]
 |(_,b)::l=>b::zFo l
theorem zis:∀{L:List (Nat×Nat)} {p b:Nat},zhD L p=some b→(p,b)∈L
 |[],_,_,h=>nomatch h
 |(q,c)::l,p,b,h=>by
  simp only [zhD] at h;split at h
  ·rename_i e;rw [zM9 e];obtain rfl:=zM8 h;simp
  ·simp [zis h]
theorem zvK:∀{L:List (Nat×Nat)} {p b:Nat},zmu L b=some p→(p,b)∈L
 |[],_,_,h=>nomatch h
 |(q,c)::l,p,b,h=>by
  simp only [zmu] at h;split at h
  ·rename_i e;rw [zM9 e];obtain rfl:=zM8 h;simp
  ·simp [zvK h]
theorem znV:∀{L:List (Nat×Nat)} {p b:Nat},(p,b)∈L→p∈zE8 L
 |(q,c)::l,p,b,h=>by
  rcases List.mem_cons.1 h with e|h
  ·obtain ⟨rfl,rfl⟩:=zNb e;simp [zE8]
  ·simp [zE8,znV h]
theorem zs7:∀{L:List (Nat×Nat)} {p b:Nat},(p,b)∈L→b∈zFo L
 |(q,c)::l,p,b,h=>by
  rcases List.mem_cons.1 h with e|h
  ·obtain ⟨rfl,rfl⟩:=zNb e;simp [zFo]
  ·simp [zFo,zs7 h]
theorem zzg:∀{L:List (Nat×Nat)} {p b c:Nat},(zE8 L).Nodup→(p,b)∈L→(p,c)∈L→b=c
 |(q,d)::l,p,b,c,hn,h1,h2=>by
  obtain ⟨n1,n2⟩:=List.nodup_cons.1 hn;rcases List.mem_cons.1 h1 with e|g1
  ·obtain ⟨rfl,rfl⟩:=zNb e;rcases List.mem_cons.1 h2 with e|g2
   ·exact (zNb e).2.symm
   ·exact absurd (znV g2) n1
  ·rcases List.mem_cons.1 h2 with e|g2
   ·obtain ⟨rfl,rfl⟩:=zNb e;exact absurd (znV g1) n1
   ·exact zzg n2 g1 g2
theorem zzh:∀{L:List (Nat×Nat)} {p q b:Nat},(zFo L).Nodup→(p,b)∈L→(q,b)∈L→p=q
 |(r,d)::l,p,q,b,hn,h1,h2=>by
  obtain ⟨n1,n2⟩:=List.nodup_cons.1 hn;rcases List.mem_cons.1 h1 with e|g1
  ·obtain ⟨rfl,rfl⟩:=zNb e;rcases List.mem_cons.1 h2 with e|g2
   ·exact (zNb e).1.symm
   ·exact absurd (zs7 g2) n1
  ·rcases List.mem_cons.1 h2 with e|g2
   ·obtain ⟨rfl,rfl⟩:=zNb e;exact absurd (zs7 g1) n1
   ·exact zzh n2 g1 g2
theorem zFc:∀{L:List (Nat×Nat)} {p b:Nat},(zE8 L).Nodup→(p,b)∈L→zhD L p=some b:=by
 intro L p b hn h;cases e:zhD L p with
 |some c=>rw [zzg hn (zis e) h]
 |none=>
  exfalso
  induction L with
  |nil=>cases h
  |cons x l ih=>
   obtain ⟨q,d⟩:=x;simp only [zhD] at e;split at e
   ·cases e
   ·rename_i hq;rcases List.mem_cons.1 h with e'|h
    ·obtain ⟨rfl,rfl⟩:=zNb e';simp at hq
    ·exact ih (List.nodup_cons.1 hn).2 h e
def zFg (i b:Nat) (L:List (Nat×Nat)):Option (List (Nat×Nat)):=match zhD L i with
 |some _=>none
 |none=>some ((i,b)::L)
def zfk (h:T Bk) (i:Nat):List AV:=match h.get i with
 |some bk=>bk.cells
 |none=>[]
def zIF:List AV→List AV→List (AV×AV)→List (AV×AV)
 |a::l,b::m,r=>(a,b)::zIF l m r
 |_,_,r=>r
def zB7 (bp ba:T Bk):Nat→List (AV×AV)→List (Nat×Nat)→List (Nat×Nat)
 |0,_,L=>L
 |_+1,[],L=>L
 |f+1,(p,a)::r,L=>
  let one (i b:Nat):List (Nat×Nat):=match zFg i b L with
   |some L2=>zB7 bp ba f (zIF (zfk bp i) (zfk ba b) r) L2
   |none=>zB7 bp ba f r L
  let two (i b k c:Nat):List (Nat×Nat):=match zFg i b L with
   |some L2=>match zFg k c L2 with
    |some L3=>zB7 bp ba f (zIF (zfk bp i) (zfk ba b) r) L3
    |none=>zB7 bp ba f (zIF (zfk bp i) (zfk ba b) r) L2
   |none=>match zFg k c L with
    |some L3=>zB7 bp ba f r L3
    |none=>zB7 bp ba f r L
  match p,a with
  | .ptr i _, .ptr b _=>one i b
  | .sl i _ _ _ _, .sl b _ _ _ _=>one i b
  | .mp i, .mp b=>one i b
  | .lw i k _ _ _, .lw b c _ _ _=>two i b k c
  | .lv i k _ _ _ _, .lv b c _ _ _ _=>two i b k c
  | .lv i k _ _ _ _, .lw b c _ _ _=>two i b k c
  | .ep i k _ _ _ _, .ep b c _ _ _ _=>two i b k c
  | .tre _ _ _ k, .tre _ _ _ c=>one k c
  | .agg l, .agg m=>zB7 bp ba f (zIF l m r) L
  | .tup l, .tup m=>zB7 bp ba f (zIF l m r) L
  | .fn _ l, .fn _ m=>zB7 bp ba f (zIF l m r) L
  |_,_=>zB7 bp ba f r L
def zzS (tm:T AV):List (Nat×AV)→List (AV×AV)
 |[]=>[]
 |(t,v)::l=>match tm.get t with
  |some a=>(v,a)::zzS tm l
  |none=>zzS tm l
def leT (L:List (Nat×Nat)) (tm:T AV):List (Nat×AV)→Prop
 |[]=>True
 |(t,v)::l=>(match tm.get t with|some a=>z5 v (zm0 (zmu L) a)|none=>False)∧leT L tm l
def leB (L:List (Nat×Nat)) (h:T Bk) (wr:Nat→Bool) (n:Nat):List (Nat×Bk)→Prop
 |[]=>True
 |(b,bk)::l=>(match zhD L b with
  |some b'=>match h.get b' with
   |some bk'=>match Nat.beq bk.ty bk'.ty&&(zHc bk.op bk'.op&&(undersB n bk.cells&&(Nat.blt b n&&((!wr b||wr b')&&zwv (zmu L) (zu bk'.cells))))) with
    |true=>zf3 bk.cells (renL (zmu L) bk'.cells)
    |false=>False
   |none=>False
  |none=>False)∧leB L h wr n l
def zuJ (n:Nat):List Nat→Bool
 |[]=>true
 |i::l=>Nat.blt i n&&zuJ n l
def zKu (n:Nat) (L:List (Nat×Nat)):Bool:=match Nat.beq n 0 with
 |true=>false
 |false=>match zhD L 0 with
  |some b=>Nat.beq b 0
  |none=>true
def leR (s:Snap) (L:List (Nat×Nat)) (tm:T AV) (st:St):Prop:=leT L tm s.t∧leB L st.h st.wr s.n s.b∧(zcA (zE8 L)&&(zcA (zFo L)&&(zuJ s.n (zE8 L)&&zKu s.n L)))=true
theorem zuK {n:Nat}:∀{l:List Nat},zuJ n l=true→∀i∈l,i<n
 |[],_,_,h=>nomatch h
 |j::l,h,i,hi=>by
  simp only [zuJ,Bool.and_eq_true] at h;rcases List.mem_cons.1 hi with rfl|hi
  ·exact zNc h.1
  ·exact zuK h.2 i hi
theorem zE0:∀{l:List (Nat×AV)} {t:Nat} {v:AV},(tmS l).get t=some v→(t,v)∈l
 |[],t,v,h=>by simp [tmS,T.get_e] at h
 |(u,x)::l,t,v,h=>by
  simp only [tmS,T.get_put] at h;split at h
  ·rename_i e;subst e;obtain rfl:=zM8 h;simp
  ·simp [zE0 h]
theorem zop:∀{l:List (Nat×Bk)} {t:Nat} {v:Bk},(blS l).get t=some v→(t,v)∈l
 |[],t,v,h=>by simp [blS,T.get_e] at h
 |(u,x)::l,t,v,h=>by
  simp only [blS,T.get_put] at h;split at h
  ·rename_i e;subst e;obtain rfl:=zM8 h;simp
  ·simp [zop h]
theorem zDh {L:List (Nat×Nat)} {tm:T AV}:∀{l:List (Nat×AV)} {t:Nat} {v:AV},leT L tm l→(t,v)∈l→∃a,tm.get t=some a∧z5 v (zm0 (zmu L) a)
 |[],_,_,_,h=>nomatch h
 |(u,x)::l,t,v,h,hm=>by
  simp only [leT] at h;rcases List.mem_cons.1 hm with e|hm
  ·obtain ⟨rfl,rfl⟩:=zNb e;have h1:=h.1;split at h1
   ·rename_i a ha;exact ⟨a,ha,h1⟩
   ·exact h1.elim
  ·exact zDh h.2 hm
variable {P:Program} [Fast P] {K:KS} {w0 w:World} {ρ:Rho} {S:Nat→Prop} {F:Nat→Nat→Prop}
theorem zq8 {l m:List AV} (h:zf3 l m):(∃own own' t xs k,l=[.tre own t xs k]∧m=[.tre own' t xs k]∧zm2 t xs.length own own')∨zEm (zu l) (zu m)=true∧sameAVs l m:=by
 unfold zf3 at h;split at h
 ·rename_i own t xs k own' t' xs' k';split at h
  ·rename_i hh h1 h3;obtain ⟨e⟩:=hh;subst e;have e1:=zM9 h1;have e2:=h.1;subst e1;have h:xs=xs':=h.2;subst h;exact .inl ⟨own,own',t',xs,k,rfl,rfl,e2⟩
  ·exact h.elim
 ·split at h
  ·rename_i hk;exact .inr ⟨hk,h⟩
  ·exact h.elim
theorem zo0 {L:List (Nat×Nat)} {h:T Bk} {wr:Nat→Bool} {n:Nat}:∀{l:List (Nat×Bk)} {b:Nat} {bk:Bk},leB L h wr n l→(b,bk)∈l→∃b' bk',zhD L b=some b'∧h.get b'=some bk'∧bk.ty=bk'.ty∧bk.op=bk'.op∧(wr b=true→wr b'=true)∧zwv (zmu L) (zu bk'.cells)=true∧zf3 bk.cells (renL (zmu L) bk'.cells)
 |[],_,_,_,h=>nomatch h
 |(u,x)::l,t,v,h,hm=>by
  simp only [leB] at h;rcases List.mem_cons.1 hm with e|hm
  ·obtain ⟨rfl,rfl⟩:=zNb e;have h1:=h.1;split at h1
   ·rename_i b' hb;split at h1
    ·rename_i a ha;split at h1
     ·rename_i h2;simp only [Bool.and_eq_true,Bool.or_eq_true,Bool.not_eq_true'] at h2;obtain ⟨g1,g2,g3,g4,g5,g6⟩:=h2;refine ⟨b',a,hb,ha,zM9 g1,?_,fun hw=>?_,g6,h1⟩
      ·revert g2;cases v.op<;>cases a.op<;>intro h3<;>first|rfl|(cases h3;done)|(rw [zM9 h3])
      ·rcases g5 with g5|g5
       ·rw [hw] at g5;cases g5
       ·exact g5
     ·exact h1.elim
    ·exact h1.elim
   ·exact h1.elim
  ·exact zo0 h.2 hm
theorem BkR.same {S F:Nat→Prop} {x:Nat} {c:Cap} {bk bk':Bk} (h:BkR ρ w S F x c bk') (h1:bk.ty=bk'.ty) (h2:bk.op=bk'.op) (h3:zf3 bk.cells bk'.cells):BkR ρ w S F x c bk:=by
 rcases zq8 h3 with ⟨own,own',t,xs,k,e1,e2,e3⟩|⟨hkd,h3⟩
 ·refine ⟨fun hn=>?_,fun hn=>?_⟩
  ·exfalso;obtain ⟨_,vs,rest,a1,_⟩:=h.1 (by rw [←h2];exact hn)
   rw [e2] at a1;simp only [dens,den] at a1;obtain ⟨_,_,_,a1,_⟩:=a1;exact a1
  ·have hb:=h.2 (by rw [←h2];exact hn)
   rw [e2] at hb;rw [e1];have hb:TreeR ρ w S F x c own' t xs k:=hb;exact (⟨hb.len,hb.own.conv e3,hb.lt,hb.hds⟩:TreeR ρ w S F x c own t xs k)
 ·refine ⟨fun hn=>?_,fun hn=>?_⟩
  ·obtain ⟨hF,vs,rest,a1,a2,a3,a4,a5⟩:=h.1 (by rw [←h2];exact hn)
   exact ⟨hF,vs,rest,sameAVs_den h3 a1,by rw [h1];exact a2,a3,by rw [h2];exact a4,by rw [h2];exact a5⟩
  ·have hb:=h.2 (by rw [←h2];exact hn)
   revert hkd hb;cases zu bk.cells<;>cases zu bk'.cells<;>intro hkd hb<;>first|(cases hkd;done)|skip
   ·exact hb
   ·obtain ⟨hF,vs,n,g1,g2,g3⟩:=hb;exact ⟨hF,vs,n,sameAVs_den h3 g1,g2,g3⟩
theorem zGF {nt:Nat} {tm:T AV} {st:St} {a:Act} {s:Snap} {L:List (Nat×Nat)} (h:leR s L tm st) (ht:TR ρ nt tm a) (hs:Sim K w0 ρ st w):∃ρ2,TR ρ2 nt (tmS s.t) a∧Sim K w0 ρ2 ⟨blS s.b,s.n,st.wr⟩ w:=by
 obtain ⟨h1,h2,h3⟩:=h;simp only [Bool.and_eq_true] at h3;have n1:=zbm h3.1;have n2:=zbm h3.2.1;have n3:=zuK h3.2.2.1;have n4:=h3.2.2.2;let ρ2:Rho:=fun p=>match zhD L p with
  |some b=>ρ b
  |none=>if p=0 then ρ 0 else none
 have hf:∀b p,zmu L b=some p→ρ2 p=ρ b:=fun b p hp=>by
  show (match zhD L p with|some b=>ρ b|none=>if p=0 then ρ 0 else none)=ρ b
  rw [zFc n1 (zvK hp)]
 have hsn:0<s.n:=by
  unfold zKu at n4;split at n4
  ·cases n4
  ·rename_i h;rcases zNl s.n with h0|h0
   ·rw [h0] at h;cases h
   ·exact h0
 have h00:ρ2 0=ρ 0:=by
  show (match zhD L 0 with|some b=>ρ b|none=>if (0:Nat)=0 then ρ 0 else none)=ρ 0
  unfold zKu at n4;split at n4
  ·cases n4
  ·split at n4
   ·rename_i b hb;rw [zM9 n4]
   ·rfl
 have hMr:∀y,Mr ρ y→Mr ρ2 y:=fun y ⟨x,c,h1,h2⟩=>⟨x,c,by rw [h00];exact h1,h2⟩
 refine ⟨ρ2,⟨ht.1,fun t v hv=>?_⟩,?_⟩
 ·have hm:=zE0 hv;obtain ⟨x,hx,hsame⟩:=zDh h1 hm;exact zsp hsame (zxL hf (ht.2 t x hx))
 ·obtain ⟨S,F,hs⟩:=hs;refine ⟨S,fun p y=>∃b,zhD L p=some b∧F b y,hs.kp,hs.lt,hs.ss,hs.sk,hs.sl,fun i bk hi=>?_,fun i bk y hi hw hy=>?_,fun i j bi bj y hi hj hij hw hyi hyj=>?_,fun i hi=>?_,?_,fun z cz e0=>?_⟩
  ·obtain ⟨b',bk',e1,e2,e3,e4,e5,e6,e7⟩:=zo0 h2 (zop hi);obtain ⟨x,c,g1,g2,g3⟩:=hs.blk b' bk' e2;have hF:(fun y=>∃b,zhD L i=some b∧F b y)=F b':=by
    funext y
    refine propext ⟨fun ⟨b,h1,h2⟩=>?_,fun h=>⟨b',e1,h⟩⟩;rw [e1] at h1;obtain rfl:=zM8 h1;exact h2
   refine ⟨x,c,?_,?_,fun hw y hy=>?_⟩
   ·show (match zhD L i with|some b=>ρ b|none=>if i=0 then ρ 0 else none)=some (x,c)
    rw [e1];exact g1
   ·show BkR ρ2 w S (fun y=>∃b,zhD L i=some b∧F b y) x c bk;rw [hF];exact (g2.ren hf hMr e6).same e3 e4 e7
   ·obtain ⟨b,h4,h5⟩:=hy;rw [e1] at h4;obtain rfl:=zM8 h4;exact g3 (e5 hw) y h5
  ·obtain ⟨b',bk',e1,e2,_,_,e5,_⟩:=zo0 h2 (zop hi);obtain ⟨b,h4,h5⟩:=hy;rw [e1] at h4;obtain rfl:=zM8 h4;exact hs.sd b' bk' y e2 (e5 hw) h5
  ·obtain ⟨b1,k1,e1,e2,_,_,e5,_⟩:=zo0 h2 (zop hi);obtain ⟨b2,k2,g1,g2,_,_,g5,_⟩:=zo0 h2 (zop hj);obtain ⟨c1,h4,h5⟩:=hyi;obtain ⟨c2,h6,h7⟩:=hyj;rw [e1] at h4;rw [g1] at h6;obtain rfl:=zM8 h4;obtain rfl:=zM8 h6;refine hs.sep b1 b2 k1 k2 y e2 g2 (fun e=>?_) (hw.imp e5 g5) h5 h7;subst e;exact hij (zzh n2 (zis e1) (zis g1))
  ·have hi:(match zhD L i with|some b=>ρ b|none=>if i=0 then ρ 0 else none)≠none:=hi
   split at hi
   ·rename_i b hb;exact n3 i (znV (zis hb))
   ·split at hi
    ·rename_i h0;rw [h0];exact hsn
    ·exact absurd rfl hi
  ·exact hsn
  ·rw [h00] at e0;exact hs.pn.2 z cz e0
def zHd (bp:T Bk) (i:Nat):Option (Nat×RT):=match bp.get i with
 |some bk=>match bk.op,zu bk.cells with
  |some 0, .tree ow rt _ _=>match ow with
   | .all=>some (0,rt)
   | .top=>some (1,rt)
   | .none=>some (2,rt)
   |_=>none
  |_,_=>none
 |none=>none
def zM2:AV→Bool
 | .lw .. =>true
 |_=>false
def zGX (st:St) (k:Nat):AV→Bool
 | .lw i _ p _ _=>match p,zHd st.h i with
   |[],some (q,_)=>Nat.beq q k
   |_,_=>false
 |_=>false
def zF1 (st:St) (sh:Bool) (rt:RT) (a:AV):Option (AV×St):=match zbO 5 st rt a,zeN st sh rt a with
 |some l,some is=>match st.wr (Nat.succ st.n) with
  |true=>some (zeM (owK sh) rt l (zaz st.h is) st.n st.wr)
  |false=>none
 |_,_=>none
def zF0 (bp:T Bk) (p a:AV) (st:St):Option (AV×St):=match p with
 | .lw i _ [] _ _=>match zHd bp i with
   |some (q,rt)=>match q with
    |0=>match zM2 a with
     |false=>zF1 st false rt a
     |true=>none
    |1=>match zGX st 1 a with
     |false=>zF1 st true rt a
     |true=>none
    |_=>match zGX st 2 a with
     |false=>zvo st rt a
     |true=>none
   |none=>none
 |_=>none
def zrb:List AV→Nat→AV→List AV
 |[],_,_=>[]
 |a::l,j,b=>match j with
  |0=>b::l
  |j+1=>a::zrb l j b
def zu9 (st:St):AV→Option AV
 | .lw i k p sz n=>match p with
   |[]=>match st.h.get i with
    |some bk=>match bk.op,zu bk.cells with
     |some 0, .tree _ _ xs _=>some (.lw i k [] sz xs.length)
     |_,_=>none
    |none=>none
   |[_]=>match st.h.get i with
    |some bk=>match bk.op,zu bk.cells with
     |some 0, .tree _ _ _ kv=>match Nat.beq k kv,Nat.beq k (zJB st kv) with
      |false,true=>some (.lw i kv p sz n)
      |_,_=>none
     |_,_=>none
    |none=>none
   |_=>none
 |_=>none
theorem zva {st:St} (hs:Sim K w0 ρ st w) {a v:AV} {u:Value} (h:zu9 st a=some v) (hd:den ρ a u):den ρ v u:=by
 obtain ⟨S,F,hs⟩:=hs;cases a with
 |lw i k p sz n=>
  simp only [zu9] at h;split at h
  ·split at h
   case h_2=>cases h
   rename_i bk hb;split at h
   case h_2=>cases h
   rename_i ow rt xs kv hop hk;obtain rfl:=zM8 h;simp only [den] at hd ⊢;obtain ⟨g,⟨x,c,y,d,e1,e2,e3⟩,hl,hn⟩:=hd;obtain ⟨x',c',e4,hB,_⟩:=hs.blk i bk hb;have hT:=hB.2 hop;rw [hk] at hT;have hlen:=TreeR.len hT;rw [e1] at e4;obtain ⟨rfl,rfl⟩:=zNb (zM8 e4);have e3:g=zal x c:=e3;have hg:g.2.1=xs.length:=by rw [e3];exact hlen
   have:n=List.length xs:=hn.symm.trans hg;subst this;exact ⟨g,⟨x,c,y,d,e1,e2,e3⟩,hl,hn⟩
  case h_3=>cases h
  rename_i e;split at h
  case h_2=>cases h
  rename_i bk hb;split at h
  case h_2=>cases h
  rename_i ow rt xs kv hop hk;split at h
  case h_2=>cases h
  rename_i h1 h2;obtain rfl:=zM8 h;have h2:=zM9 h2;simp only [den] at hd ⊢;obtain ⟨g,⟨x,c,y,d,e1,e2,e3⟩,hl⟩:=hd;obtain ⟨x',c',e4,hB,_⟩:=hs.blk i bk hb;have hT:=hB.2 hop;rw [hk] at hT;obtain ⟨yk,dk,hk1,hk2⟩:=TreeR.hds hT;obtain ⟨y',d',q1,q2⟩:=zDK hs hk1;rw [←h2,e2] at q1;obtain ⟨rfl,rfl⟩:=zNb (zM8 q1);have e3:d.hd [e]=some g:=e3;exact ⟨g,⟨x,c,yk,dk,e1,hk1,by show dk.hd [e]=some g;rw [q2 [e] rfl];exact e3⟩,hl⟩
 |_=>cases h
def zqR (bp:T Bk) (b:Nat):List AV→Nat→St→St
 |[],_,st=>st
 |p::ps,q,st=>match zk4 st.h b with
  |some bk=>match zg5 bk.cells q with
   |some a=>match zF0 bp p a st with
    |some (v,st1)=>match zk4 st1.h b,st.wr b&&Nat.blt q (zfk st1.h b).length with
     |some bk1,true=>zqR bp b ps (Nat.succ q) ⟨st1.h.set b ⟨bk1.ty,zrb bk1.cells q v,bk1.op⟩,st1.n,st1.wr⟩
     |_,_=>zqR bp b ps (Nat.succ q) st
    |none=>match zu9 st a,st.wr b&&Nat.blt q bk.cells.length with
     |some v,true=>zqR bp b ps (Nat.succ q) ⟨st.h.set b ⟨bk.ty,zrb bk.cells q v,bk.op⟩,st.n,st.wr⟩
     |_,_=>zqR bp b ps (Nat.succ q) st
   |none=>st
  |none=>st
def zns (h:T Bk):List Nat→T Bk
 |[]=>h
 |b::l=>match h.get b with
  |some bk=>match bk.op,zu bk.cells with
   |some 0, .verp _=>(zns h l).set b ⟨bk.ty,[.ver],some 0⟩
   |_,_=>zns h l
  |none=>zns h l
theorem zed {h:T Bk}:∀{l:List Nat} {b:Nat} {bk':Bk},(zns h l).get b=some bk'→∃bk,h.get b=some bk∧(bk'=bk∨∃k,bk.op=some 0∧zu bk.cells= .verp k∧bk'=⟨bk.ty,[.ver],some 0⟩)
 |[],b,bk',e=>⟨bk',e, .inl rfl⟩
 |c::l,b,bk',e=>by
  simp only [zns] at e;split at e
  ·rename_i bk hb;split at e
   ·rename_i k hop hk;rw [T.get_put] at e;by_cases hbc:b=c
    ·subst hbc;rw [if_pos rfl] at e;exact ⟨bk,hb, .inr ⟨k,hop,hk,(zM8 e).symm⟩⟩
    ·rw [if_neg hbc] at e;exact zed e
   ·exact zed e
  ·exact zed e
theorem Sim.relax {st:St} (h:Sim K w0 ρ st w) (l:List Nat):Sim K w0 ρ ⟨zns st.h l,st.n,st.wr⟩ w:=by
 obtain ⟨S,F,h⟩:=h;refine ⟨S,F,h.kp,h.lt,h.ss,h.sk,h.sl,fun i bk hi=>?_,fun i bk y hi hw=>?_,fun i j bi bj y hi hj=>?_,h.dom,h.pn⟩
 ·obtain ⟨bk0,h0,h1⟩:=zed hi;obtain ⟨x,c,e,hB,hn⟩:=h.blk i bk0 h0;refine ⟨x,c,e,?_,hn⟩;rcases h1 with rfl|⟨k,hop,hk,rfl⟩
  ·exact hB
  ·have h2:=hB.2 hop;rw [hk] at h2;exact ⟨fun e=>absurd rfl e,fun _=>h2.1⟩
 ·obtain ⟨bk0,h0,_⟩:=zed hi;exact h.sd i bk0 y h0 hw
 ·obtain ⟨b0,h0,_⟩:=zed hi;obtain ⟨b1,h1,_⟩:=zed hj;exact h.sep i j b0 b1 y h0 h1
def zhG:List AV→List AV→List (AV×AV)
 |a::l,v::m=>match a with
  | .lv .. =>(a,v)::zhG l m
  |_=>zhG l m
 |_,_=>[]
def zKh (h h1:T Bk) (b:Nat):List (AV×AV):=match zk4 h b,zk4 h1 b with
 |some k,some k1=>zhG k.cells k1.cells
 |_,_=>[]
def zAQ:List (AV×AV)→AV→Option (AV×MP)
 |[],_=>none
 |(x,y)::R,a=>match x,y,a with
  | .lv i k [] sz lo n, .lw j k1 [] sz1 _, .ep i' k' [] sz' idx cell=>match Nat.beq i i'&&(Nat.beq k k'&&(Nat.beq lo 0&&(Nat.beq sz sz'&&Nat.beq sz1 sz))) with
    |true=>some (.ep j k1 [] sz' idx cell,⟨idx<n,inferInstance⟩)
    |false=>zAQ R a
  |_,_,_=>zAQ R a
def zI0:List MP→Prop
 |[]=>True
 |m::l=>m.p∧zI0 l
def zHv (m:MP) (r:T AV×St×List MP):T AV×St×List MP:=match r with
 |(tm,st,l)=>(tm,st,m::l)
def zio (bp:T Bk):List (AV×AV)→List (Nat×AV)→T AV→St→T AV×St×List MP
 |_,[],tm,st=>(tm,st,[])
 |R,(t,p)::l,tm,st=>match tm.get t with
  |some a=>match zF0 bp p a st with
   |some (v,st1)=>zio bp R l (tm.set t v) st1
   |none=>match p,a with
    | .ptr b _, .ptr b' _=>match zqR bp b' (zfk bp b) 0 st with
      |st1=>zio bp (zKh st.h st1.h b'++R) l tm st1
    |_,_=>match zu9 st a with
     |some v=>zio bp R l (tm.set t v) st
     |none=>match zAQ R a with
      |some (v,m)=>zHv m (zio bp R l (tm.set t v) st)
      |none=>zio bp R l tm st
  |none=>zio bp R l tm st
def pairOk (ρ:Rho) (R:List (AV×AV)):Prop:=∀x∈R,∃u,den ρ x.1 u∧den ρ x.2 u
theorem pairOk.mono {ρ ρ':Rho} (h:ρ.le ρ') {R:List (AV×AV)} (hR:pairOk ρ R):pairOk ρ' R:=fun x hx=>by
 obtain ⟨u,h1,h2⟩:=hR x hx;exact ⟨u,zbn h h1,zbn h h2⟩
theorem zoA {ρ ρ1:Rho} (hl:ρ.le ρ1):∀{l m:List AV} {us us1:List Value},dens ρ l us→dens ρ1 m us1→(∀(q:Nat) (u u1:Value),us[q]? =some u→us1[q]? =some u1→u=u1)→pairOk ρ1 (zhG l m)
 |[],m,_,_,_,_,_=>by intro x hx;unfold zhG at hx;cases hx
 |_::_,[],_,_,_,_,_=>by intro x hx;unfold zhG at hx;cases hx
 |a::l,v::m,us,us1,h,h1,he=>by
  simp only [dens] at h h1;obtain ⟨u,us',rfl,d1,d2⟩:=h;obtain ⟨u1,us1',rfl,e1,e2⟩:=h1;have h0:=he 0 u u1 rfl rfl;subst h0;have ih:=zoA hl d2 e2 fun q x y hx hy=>he (q+1) x y (by simpa using hx) (by simpa using hy)
  unfold zhG;split
  ·intro x hx;rcases List.mem_cons.1 hx with rfl|hx
   ·exact ⟨u,zbn hl d1,e1⟩
   ·exact ih x hx
  ·exact ih
theorem zHB {st st1:St} {ρ ρ1:Rho} (hs:Sim K w0 ρ st w) (hs1:Sim K w0 ρ1 st1 w) (hl:ρ.le ρ1) (b:Nat):pairOk ρ1 (zKh st.h st1.h b):=by
 unfold zKh;split
 ·rename_i k k1 hb hb1;obtain ⟨x,c,hx,⟨vs,rest,b1,b2,b3,b4,b5⟩,_⟩:=hs.blkC hb;obtain ⟨x',c',hx',⟨vs',rest',c1,c2,c3,c4,c5⟩,_⟩:=hs1.blkC hb1;rw [hl _ _ hx] at hx';obtain ⟨rfl,rfl⟩:=zNb (zM8 hx');refine zoA hl b1 c1 fun q u u1 hu hu1=>?_;have k1:=b2.cell q;have k2:=c2.cell q;rw [k1,List.getElem?_toArray,List.getElem?_toArray,zNh (zNa.1 hu).1,zNh (zNa.1 hu1).1,hu,hu1] at k2;exact zM8 k2
 ·intro x hx;cases hx
theorem ztg {ρ:Rho} {a v:AV} {m:MP} {u:Value} (hd:den ρ a u):∀{R:List (AV×AV)},pairOk ρ R→zAQ R a=some (v,m)→m.p→den ρ v u
 |[],_,h,_=>nomatch h
 |(x,y)::R,hR,h,hm=>by
  have hR':pairOk ρ R:=fun z hz=>hR z (List.mem_cons_of_mem _ hz);unfold zAQ at h;split at h
  ·rename_i i k sz lo n j k1 sz1 n1 i' k' sz' idx cell;split at h
   ·rename_i he;simp only [Bool.and_eq_true] at he;obtain ⟨e1,e2,e3,e4,e5⟩:=he;obtain rfl:=zM9 e1;obtain rfl:=zM9 e2;obtain rfl:=zM9 e3;obtain rfl:=zM9 e4;obtain rfl:=zM9 e5;simp only [zNn,Prod.mk.injEq] at h;obtain ⟨rfl,rfl⟩:=h;have hm:idx<n:=hm;obtain ⟨s,d1,d2⟩:=hR _ (List.mem_cons_self ..);simp only [den] at d1 d2 hd ⊢;obtain ⟨g,hg,l1,l2,A1,rfl,l3,l4⟩:=d1;obtain ⟨g2,hg2,⟨m1,m2,A2,he2,m3,m4⟩,m5⟩:=d2;simp only [Value.slice.injEq] at he2;obtain ⟨rfl,rfl,_⟩:=he2;obtain ⟨g3,hg3,q1,b,o,q2,q3⟩:=hd;have hgg:g3=g:=by
     obtain ⟨x,c,y,d,r1,r2,r3⟩:=hg;obtain ⟨x',c',y',d',s1,s2,s3⟩:=hg3;rw [r1] at s1;obtain ⟨rfl,rfl⟩:=zNb (zM8 s1);exact s3.trans r3.symm
    subst hgg;refine ⟨g2,hg2,by rw [m5];exact hm,b,o,?_,q3⟩
    rw [←m3 rfl,l3 rfl,q2]
   ·exact ztg hd hR' h hm
  ·exact ztg hd hR' h hm
theorem zF2 {st:St} (hs:Sim K w0 ρ st w) {sh:Bool} {rt:RT} {a v:AV} {st1:St} {u:Value} (hd:den ρ a u) (h:zF1 st sh rt a=some (v,st1)):∃ρ',Ext st.n st1.n ρ ρ'∧Sim K w0 ρ' st1 w∧den ρ' v u∧st1.wr=st.wr:=by
 unfold zF1 at h;split at h
 case h_2=>cases h
 rename_i l is hl his;split at h
 case h_2=>cases h
 rename_i hw;obtain ⟨S,F,hs⟩:=hs;have ho:=zd4 hs hl his hd;obtain ⟨A,c,rfl,_⟩:=(zep hs _ hl hd).slice;have g:=hs.give is [];rw [List.append_nil] at g;obtain ⟨ρ',F',t1,t2,t3,t4,_⟩:=g.tree (ow:=owK sh) (G:=Gn F st is) (zyb (ho.more fun y hy=> .inl hy)) (fun y hy=>(hy.lt hs).1) (fun y hy=>⟨fun _=>⟨(hy.lt hs).2.1,fun hS=>by
  rcases hS with hS|⟨_,hj,_⟩
  ·exact (hy.lt hs).2.2 hS
  ·cases hj⟩,fun j bj hj _ hyj=>by
  obtain ⟨h5,h6⟩:=za2 hj;obtain ⟨q,q1,q2,⟨bq,q3⟩,q4⟩:=hy;exact hs.sep q j bq bj y q3 h5 (fun e=>h6 (by rw [←e];exact q1)) (.inl q2) q4 hyj⟩) (zM8 h)
 exact ⟨ρ',t1,⟨_,_,t2⟩,t3,t4⟩
theorem zzE {st:St} (hs:Sim K w0 ρ st w) {bp:T Bk} {p a v:AV} {st1:St} {u:Value} (hd:den ρ a u) (h:zF0 bp p a st=some (v,st1)):∃ρ',Ext st.n st1.n ρ ρ'∧Sim K w0 ρ' st1 w∧den ρ' v u∧st1.wr=st.wr:=by
 unfold zF0 at h
 repeat' split at h
 all_goals first
  |(cases h;done)
  |exact zF2 hs hd h
  |exact ztv hs hd h
theorem zqb:∀{l:List AV} {us:List Value} {q:Nat} {v:AV} {u:Value},dens ρ l us→us[q]? =some u→den ρ v u→dens ρ (zrb l q v) us
 |[],us,q,v,u,h,e,_=>by simp only [dens] at h;subst h;simp at e
 |a::l,us,q,v,u,h,e,hd=>by
  simp only [dens] at h;obtain ⟨u0,us',rfl,h1,h2⟩:=h;cases q with
  |zero=>simp at e;subst e;simp only [zrb,dens];exact ⟨u0,us',rfl,hd,h2⟩
  |succ q=>simp only [zrb,dens];exact ⟨u0,us',rfl,h1,zqb h2 (by simpa using e) hd⟩
theorem zlf {bp:T Bk} {b:Nat}:∀{ps:List AV} {q:Nat} {st:St} {ρ:Rho},Sim K w0 ρ st w→∃ρ',Ext st.n (zqR bp b ps q st).n ρ ρ'∧Sim K w0 ρ' (zqR bp b ps q st) w∧(zqR bp b ps q st).wr=st.wr
 |[],_,st,ρ,hs=>⟨ρ, .refl _ ρ,hs,rfl⟩
 |p::ps,q,st,ρ,hs=>by
  simp only [zqR];split
  ·rename_i bk hb;split
   ·rename_i a ha;rw [zei] at ha;split
    ·rename_i v st1 hl;split
     ·rename_i bk1 hb1 hw;simp only [Bool.and_eq_true] at hw;obtain ⟨hw,hq1⟩:=hw;have hq1:q<bk1.cells.length:=by
       have:=zNc hq1;unfold zfk at this;rw [(za5 hb1).1] at this;exact this
      obtain ⟨x,c,hx,⟨vs,rest,b1,b2,b3,b4,b5⟩,_⟩:=hs.blkC hb;obtain ⟨u,hu,hdu⟩:=zeX q b1 ha;obtain ⟨ρ1,e1,s1,d1,w1⟩:=zzE hs hdu hl;obtain ⟨S,F,s1⟩:=s1;obtain ⟨x',c',hx',hF,⟨vs',rest',c1,c2,c3,c4,c5⟩,_⟩:=s1.blkC hb1;rw [e1.le _ _ hx] at hx';obtain ⟨rfl,rfl⟩:=zNb (zM8 hx');have hcell:vs'[q]? =some u:=by
       have k1:=b2.cell q;have k2:=c2.cell q;rw [k1,List.getElem?_toArray,List.getElem?_toArray] at k2;have hq:=(zNa.1 hu).1;rw [zNh hq,hu] at k2;rcases Nat.lt_or_ge q vs'.length with h|h
       ·rw [zNh h] at k2;exact k2.symm
       ·have:=zL c1;omega
      have s2:Sim K w0 ρ1 ⟨st1.h.set b ⟨bk1.ty,zrb bk1.cells q v,bk1.op⟩,st1.n,st1.wr⟩ w:=by
       refine ⟨S,Fup F b (F b),?_⟩;have:=s1.write b (za5 hb1).1 (by rw [w1];exact hw) (e1.le _ _ hx) ⟨bk1.ty,zrb bk1.cells q v,bk1.op⟩ w (F b) (fun y hy=> .inl hy) (Kp.refl _ w) ⟨fun hn=>⟨hF,vs',rest',zqb c1 hcell d1,c2,c3,c4,c5⟩,fun e=>absurd e (za5 hb1).2⟩
       exact this
      obtain ⟨ρ2,e2,s3,w3⟩:=zlf (bp:=bp) (b:=b) (ps:=ps) (q:=Nat.succ q) s2;exact ⟨ρ2,e1.trans e2,s3,w3.trans w1⟩
     ·exact zlf hs
    ·split
     ·rename_i v hv hw;simp only [Bool.and_eq_true] at hw;obtain ⟨hw,hq1⟩:=hw;have hq1:q<bk.cells.length:=zNc hq1;obtain ⟨S,F,s1⟩:=hs;obtain ⟨x,c,hx,hF,⟨vs,rest,b1,b2,b3,b4,b5⟩,_⟩:=s1.blkC hb;obtain ⟨u,hu,hdu⟩:=zeX q b1 ha;have d1:=zva ⟨S,F,s1⟩ hv hdu;have s2:Sim K w0 ρ ⟨st.h.set b ⟨bk.ty,zrb bk.cells q v,bk.op⟩,st.n,st.wr⟩ w:=
       ⟨S,Fup F b (F b),s1.write b (za5 hb).1 hw hx ⟨bk.ty,zrb bk.cells q v,bk.op⟩ w (F b) (fun y hy=> .inl hy) (Kp.refl _ w) ⟨fun hn=>⟨hF,vs,rest,zqb b1 hu d1,b2,b3,b4,b5⟩,fun e=>absurd e (za5 hb).2⟩⟩
      exact zlf (bp:=bp) (b:=b) (ps:=ps) (q:=Nat.succ q) s2
     ·exact zlf hs
   ·exact ⟨ρ, .refl _ ρ,hs,rfl⟩
  ·exact ⟨ρ, .refl _ ρ,hs,rfl⟩
theorem zhM {bp:T Bk} {nt:Nat} {a:Act}:∀{l:List (Nat×AV)} {R:List (AV×AV)} {tm:T AV} {st:St} {ρ:Rho},pairOk ρ R→TR ρ nt tm a→Sim K w0 ρ st w→zI0 (zio bp R l tm st).2.2→∃ρ',TR ρ' nt (zio bp R l tm st).1 a∧Sim K w0 ρ' (zio bp R l tm st).2.1 w∧(zio bp R l tm st).2.1.wr=st.wr
 |[],R,tm,st,ρ,_,ht,hs,_=>⟨ρ,ht,hs,rfl⟩
 |(t,p)::l,R,tm,st,ρ,hR,ht,hs,hm=>by
  have put:∀{ρ1:Rho} {x v:AV},ρ.le ρ1→tm.get t=some x→(∀u,den ρ x u→den ρ1 v u)→TR ρ1 nt (tm.set t v) a:=fun {ρ1 x v} hl hx hv=>⟨ht.1,fun t' v' hv'=>by
   rw [T.get_put] at hv';split at hv'
   ·rename_i e;subst e;obtain rfl:=zM8 hv';exact hv _ (ht.2 t' x hx)
   ·exact zbn hl (ht.2 t' v' hv')⟩
  simp only [zio] at hm ⊢;split
  ·rename_i x hx;rw [hx] at hm;simp only at hm;split
   ·rename_i v st1 hl;rw [hl] at hm;obtain ⟨ρ1,e1,s1,d1,w1⟩:=zzE hs (ht.2 t x hx) hl;have ht1:TR ρ1 nt (tm.set t v) a:=⟨ht.1,fun t' v' hv'=>by
     rw [T.get_put] at hv';split at hv'
     ·rename_i e;subst e;obtain rfl:=zM8 hv';exact d1
     ·exact zbn e1.le (ht.2 t' v' hv')⟩
    obtain ⟨ρ2,t2,s2,w2⟩:=zhM (bp:=bp) (l:=l) (hR.mono e1.le) ht1 s1 hm;exact ⟨ρ2,t2,s2,w2.trans w1⟩
   ·rename_i hl;rw [hl] at hm;simp only at hm;split
    ·rename_i b _ b' _;obtain ⟨ρ1,e1,s1,w1⟩:=zlf (bp:=bp) (b:=b') (ps:=zfk bp b) (q:=0) hs;have hR1:pairOk ρ1 (zKh st.h (zqR bp b' (zfk bp b) 0 st).h b'++R):=fun x hx=>(List.mem_append.1 hx).elim (fun h=>zHB hs s1 e1.le b' x h) (fun h=>(hR.mono e1.le) x h);obtain ⟨ρ2,t2,s2,w2⟩:=zhM (bp:=bp) (l:=l) hR1 (ht.mono e1.le) s1 hm;exact ⟨ρ2,t2,s2,w2.trans w1⟩
    ·rename_i hne;have hm:zI0 (match zu9 st x with
      |some v=>zio bp R l (tm.set t v) st
      |none=>match zAQ R x with
       |some (v,m)=>zHv m (zio bp R l (tm.set t v) st)
       |none=>zio bp R l tm st).2.2:=by
      revert hm;split
      ·rename_i b _ b' _ _;exact (hne _ _ _ _ rfl rfl).elim
      ·exact id
     split
     ·rename_i v hv;rw [hv] at hm;exact zhM hR (put (Rho.le.refl ρ) hx fun u hu=>zva hs hv hu) hs hm
     ·rename_i hf;rw [hf] at hm;simp only at hm;split
      ·rename_i v m hv;rw [hv] at hm;simp only [zHv] at hm ⊢;exact zhM hR (put (Rho.le.refl ρ) hx fun u hu=>ztg hu hR hv hm.1) hs hm.2
      ·rename_i hv;rw [hv] at hm;exact zhM hR ht hs hm
  ·rename_i hx;rw [hx] at hm;exact zhM hR ht hs hm
def leS (s:Snap) (tm:T AV) (st:St):Prop:=match zio (blS s.b) [] s.t tm st with
 |(tm1,st1,ms)=>zI0 ms∧match zB7 (blS s.b) st1.h 1000 (zzS tm1 s.t) [] with
  |L=>leR s L tm1 ⟨zns st1.h (zFo L),st1.n,st1.wr⟩
theorem zt9 {nt:Nat} {tm:T AV} {st:St} {a:Act} {s:Snap} (h:leS s tm st) (ht:TR ρ nt tm a) (hs:Sim K w0 ρ st w):∃ρ2,TR ρ2 nt (tmS s.t) a∧Sim K w0 ρ2 ⟨blS s.b,s.n,st.wr⟩ w:=by
 unfold leS at h;have hl:=fun hm=>zhM (bp:=blS s.b) (l:=s.t) (R:=[]) (fun _ h=>nomatch h) ht hs hm;generalize zio (blS s.b) [] s.t tm st=r at*;obtain ⟨tm1,st1,ms⟩:=r;obtain ⟨ρ1,t1,s1,w1⟩:=hl h.1;have:=zGF h.2 t1 (s1.relax _);rw [show st1.wr=st.wr from w1] at this;exact this
inductive Ann:Type 1 where
 |no
 |mk (ι:Type) (μ:ι→Nat) (I:ι→Prop) (S:ι→Snap) (sub:ι→Nat→Ann)
 |two (ι κ:Type) (μ:ι→Nat) (I:ι→Prop) (S:ι→Snap) (sub:ι→Nat→Ann) (ν:κ→Nat) (J:κ→Prop) (U:κ→Snap) (sub2:κ→Nat→Ann)
def zrE:Code→Bool
 | .seq x y=>zrE x||zrE y
 | .cond _ x y=>zrE x||zrE y
 | .block _ c=>zrE c
 | .scope c=>zrE c
 | .loop _=>true
 |_=>false
def both (a b:Bool) (p q:Prop):Prop:=match a,b with
 |false,false=>True
 |true,false=>p
 |false,true=>q
 |true,true=>p∧q
theorem zCo {a b:Bool} {p q:Prop} (hp:a=false→p) (hq:b=false→q) (h:both a b p q):p∧q:=by
 cases a<;>cases b
 ·exact ⟨hp rfl,hq rfl⟩
 ·exact ⟨hp rfl,h⟩
 ·exact ⟨h,hq rfl⟩
 ·exact h
section
variable {own:Nat→Bool} {call:zbx} {nt:Nat}
end
variable {P:Program} [Fast P] {K:KS} {w0 w:World} {ρ:Rho} {st:St} {S:Nat→Prop} {F:Nat→Nat→Prop}
def zdg:RT→AV→Option (List AV)
 | .st _, .agg l=>some l
 | .st _,_=>none
 |_,a=>some [a]
def zHa (st:St) (sh:Bool) (t:RT) (x:t.ty) (a:AV):Option (Prop×List Tk):=match zdg t a with
 |some zas=>match zcz st sh t 0 (t.leaves t.dflt) zas with
  |some ks=>match t.build (zcT ks) with
   |some y=>some (y=x,ks)
   |none=>none
  |none=>none
 |none=>none
def zj1 (st:St) (sh:Bool) (n:SN) (zas:List AV):Option (n.ty×List Tk):=match zcz st sh (.st n) 0 ((RT.st n).leaves (RT.st n).dflt) zas with
 |some ks=>match (RT.st n).build (zcT ks) with
  |some y=>some (y,ks)
  |none=>none
 |none=>none
def zIq (st:St):(m:RM)→m.ty→AV→Option (Prop×List Tk)
 | .own t,x,a=>zHa st false t x a
 | .shr t,x,a=>zHa st true t x a
 | .no,_,_=>some (True,[])
 | .box T n1 n2,x,a=>match a with
   | .ptr b off=>match Nat.beq off 0&&st.wr b,zk4 st.h b with
     |true,some bk=>match Nat.beq bk.ty T&&zvF bk.op,zj1 st true n1 (bk.cells.take n1.size),zj1 st false n2 (bk.cells.drop n1.size) with
      |true,some (p,k1),some (y,k2)=>some (p=x.1∧y=x.2,⟨.bool false,[b],[]⟩::(k1++k2))
      |_,_,_=>none
     |_,_=>none
   |_=>none
def zq7 (st:St):(ms:List RM)→Args ms→List AV→Option (Prop×List Tk)
 |[],_,[]=>some (True,[])
 |m::ms,x,a::zas=>match zIq st m x.1 a,zq7 st ms x.2 zas with
  |some (p,ks),some (q,ls)=>some (p∧q,ks++ls)
  |_,_=>none
 |_,_,_=>none
def znt (st:St):(ms:List RM)→Args ms→AV→Option (Prop×List Tk)
 |[m],y,v=>zIq st m y.1 v
 |ms,y, .tup l=>zq7 st ms y l
 |_,_,_=>none
def zvJ (st:St) (ms:List RM) (y:Args ms) (v:AV):Prop:=match znt st ms y v with
 |some (p,ks)=>p∧zcA (zk ks++zh ks)=true
 |none=>False
theorem zhe:∀{l m:List Tk},zk (l++m)=zk l++zk m
 |[],_=>rfl
 |k::l,m=>by simp [zk,zhe (l:=l)]
theorem zjQ:∀{l m:List Tk},zh (l++m)=zh l++zh m
 |[],_=>rfl
 |k::l,m=>by simp [zh,zjQ (l:=l)]
theorem zxE {t:RT} {a:AV} {zas:List AV} {v:Value} (h:zdg t a=some zas) (hd:den ρ a v):∃us,dens ρ zas us∧v=ziH t us:=by
 have one:zdg t a=some [a]→(∀us,ziH t us=us.headD undef)→∃us,dens ρ zas us∧v=ziH t us:=fun h1 h2=>by
  rw [h1] at h;obtain rfl:=zM8 h;exact ⟨[v],by simp only [dens];exact ⟨v,[],rfl,hd,rfl⟩,by rw [h2];rfl⟩
 cases t with
 |st n=>
  cases a with
  |agg l=>
   obtain rfl:=zM8 h;simp only [den] at hd;obtain ⟨us,rfl,hd⟩:=hd;exact ⟨us,hd,rfl⟩
  |_=>cases h
 |int k=>exact one rfl fun _=>rfl
 |bool=>exact one rfl fun _=>rfl
 |str=>exact one rfl fun _=>rfl
 |list t=>exact one rfl fun _=>rfl
theorem zyA (hs:SimF K w0 ρ S F st w) {sh:Bool} {t:RT} {x:t.ty} {a:AV} {v:Value} {p:Prop} {ks:List Tk} (h:zHa st sh t x a=some (p,ks)) (hp:p) (hnd:(zk ks).Nodup) (hd:den ρ a v):
  ∃us,Own w (fun y=>S y∨Gn F st (zh ks) y) t x (zkM sh t) (Gn F st (zk ks)) us∧v=ziH t us:=by
 unfold zHa at h;split at h
 ·rename_i zas has;split at h
  case h_2=>cases h
  rename_i ks' hks;split at h
  ·rename_i yy hyy;obtain ⟨rfl,rfl⟩:=zNb (zM8 h);obtain ⟨us,hds,rfl⟩:=zxE has hd;obtain ⟨k1,k2,k3⟩:=zhz hs hks hds;have hlf:=RT.build_ok hyy;rw [show yy=x from hp] at hlf;have hlf:=hlf.symm;refine ⟨us,⟨by rw [←k2,k1,RT.leaves_len],fun q y=>∃kq,ks'[q]? =some kq∧Gn F st kq.own y,fun q y ⟨kq,e1,e2⟩=>e2.mono fun j hj=>zd5 e1 hj,fun q q' y ⟨k1,e1,e2⟩ ⟨k2,e3,e4⟩=>?_,fun q lf hq=>?_⟩,rfl⟩
   ·obtain ⟨j1,m1,m2,⟨b1,m3⟩,m4⟩:=e2;obtain ⟨j2,n1,n2,⟨b2,n3⟩,n4⟩:=e4;by_cases hj:j1=j2
    ·subst hj;exact zjD hnd e1 e3 m1 n1
    ·exact (hs.sep j1 j2 b1 b2 y m3 n3 hj (.inl m2) m4 n4).elim
   ·rw [←hlf,ziG] at hq;cases hkq:ks'[q]? with
    |none=>rw [hkq] at hq;cases hq
    |some kq=>
     rw [hkq] at hq;obtain rfl:=zM8 hq;have hlt:q<us.length:=by rw [←k2];exact (zNa.1 hkq).1
     have hu:us[q]? =some (us[q]'hlt):=zNg hlt;obtain ⟨l1,lf0,l2,l3⟩:=k3 q kq _ hkq hu;rw [Nat.zero_add] at l1;refine ⟨_,hu,?_⟩;have l4:=(l1.more (S':=fun y=>S y∨Gn F st (zh ks') y) fun y hy=>hy.imp id fun hy=>hy.mono fun j hj=>zhw hkq hj).wide (F':=fun y=>∃kq',ks'[q]? =some kq'∧Gn F st kq'.own y) fun y hy=>⟨kq,hkq,hy⟩;cases he:kq.lf.elem with
     |none=>exact l4.scal he
     |some t'=>
      rw [he] at l3;have hel:t.elemAt q=some t':=by
       cases lf0 with
       |list u2 ll=>simp only [Leaf.elem,zNn] at l3;subst l3;exact zbo l2
       |_=>cases l3
      have e5:zkM sh t q=ziK (sh||shT t q) kq.lf:=by
       funext r
       simp only [zkM,ziK,hel,he]
       all_goals (cases sh||shT t q<;>rfl)
      rw [e5];exact l4
  ·cases h
 ·cases h
theorem zjT (hs:SimF K w0 ρ S F st w) {sh:Bool} {n:SN} {x:n.ty} {zas:List AV} {us:List Value} {ks:List Tk} (h:zj1 st sh n zas=some (x,ks)) (hnd:(zk ks).Nodup) (hd:dens ρ zas us):
  Own w (fun y=>S y∨Gn F st (zh ks) y) (.st n) x (zkM sh (.st n)) (Gn F st (zk ks)) us:=by
 have h2:zHa st sh (.st n) x (.agg zas)=some (x=x,ks):=by
  unfold zj1 at h;cases h1:zcz st sh (.st n) 0 ((RT.st n).leaves (RT.st n).dflt) zas with
  |none=>rw [h1] at h;cases h
  |some ks'=>
   rw [h1] at h;cases hy:(RT.st n).build (zcT ks') with
   |none=>simp only [hy] at h;cases h
   |some y=>
    simp only [hy] at h;obtain ⟨rfl,rfl⟩:=zNb (zM8 h);unfold zHa;simp [zdg,h1,hy];exact rfl
 obtain ⟨us',h3,h4⟩:=zyA hs h2 rfl hnd (v:= .agg us.toArray) (by simp only [den];exact ⟨us,rfl,hd⟩)
 have h4:=congrArg Array.toList (Value.agg.inj h4);simp only at h4;rw [h4];exact h3
theorem LfO.noF {lf:Leaf} {G G':Nat→Prop} {v:Value} (h:LfO w S lf (fun _=>false) G v):LfO w S lf (fun _=>false) G' v:=by
 cases h with
 |int k n=>exact .int k n _ _
 |bool b=>exact .bool b _ _
 |str s=>exact .str s _ _
 |shr t l _ _ _ h0 h=>exact .shr t l _ _ _ h0 h
 |nil t _ _ A h0=>cases h0
 |list t l _ _ c b T cs G h0=>cases h0
theorem Own.noF {t:RT} {x:t.ty} {G:Nat→Prop} {us:List Value} (h:Own w S t x (zkM true t) G us):Own w S t x (zkM true t) (fun _=>False) us:=by
 obtain ⟨h1,Gs,h2,h3,h4⟩:=h;refine ⟨h1,fun _ _=>False,fun _ _ h=>h.elim,fun _ _ _ h _=>h.elim,fun j lf hj=>?_⟩;obtain ⟨v,h5,h6⟩:=h4 j lf hj;exact ⟨v,h5,LfO.noF h6⟩
theorem zyz (hs:SimF K w0 ρ S F st w) {m:RM} {x:m.ty} {a:AV} {v:Value} {p:Prop} {ks:List Tk} (h:zIq st m x a=some (p,ks)) (hp:p) (hnd:(zk ks).Nodup) (hd:den ρ a v):ValO w (fun y=>S y∨Gn F st (zh ks) y) (Gn F st (zk ks)) m x v:=by
 cases m with
 |own t=>exact zyA hs h hp hnd hd
 |shr t=>exact zyA hs h hp hnd hd
 |no=>trivial
 |box T n1 n2=>
  simp only [zIq] at h;split at h
  case h_2=>cases h
  rename_i b off;split at h
  case h_2=>cases h
  rename_i bk hw hb;split at h
  case h_2=>cases h
  rename_i p1 k1 y1 k2 hc hk1 hk2;obtain ⟨rfl,rfl⟩:=zNb (zM8 h);obtain ⟨e1,e2⟩:=hp;simp only [Bool.and_eq_true] at hw hc;obtain ⟨c1,c2⟩:=hc;obtain ⟨w1,w2⟩:=hw;have c1:=zM9 c1;have w1:=zM9 w1;have hop:bk.op=none:=by
   revert c2;cases bk.op<;>intro c2
   ·rfl
   ·cases c2
  obtain ⟨z,c,hz,hF,⟨vs,rest,b1,b2,b3,b4,_⟩,_⟩:=hs.blkC hb;rw [b4 hop,List.append_nil,c1] at b2;simp only [den] at hd;obtain ⟨z',c',hz',rfl⟩:=hd;rw [hz] at hz';obtain ⟨rfl,rfl⟩:=zNb (zM8 hz');subst w1;have hown:zk (⟨.bool false,[b],[]⟩::(k1++k2))=b::(zk k1++zk k2):=by simp [zk,zhe]
  have hrel:zh (⟨.bool false,[b],[]⟩::(k1++k2))=zh k1++zh k2:=by simp [zh,zjQ]
  rw [hown] at hnd;rw [hown,hrel];have hnd2:=List.nodup_cons.1 hnd;have hnd3:=zNq.1 hnd2.2;have o1:=zjT hs hk1 hnd3.1 (zcb n1.size b1);have o2:=zjT hs hk2 hnd3.2.1 (zbA n1.size b1);refine ⟨z,vs.take n1.size,vs.drop n1.size,Gn F st (zk k2),rfl,⟨b,by simp,w2,⟨bk,(za5 hb).1⟩,(hF z).2 rfl⟩,by rw [List.take_append_drop];exact b2,by rw [List.take_append_drop];exact b3,fun y hy=>⟨hy.mono fun q hq=>by simp [hq],fun e=>?_⟩,?_,?_⟩
  ·obtain ⟨q,q1,q2,⟨bq,q3⟩,q4⟩:=hy;subst e;exact hs.sep q b bq bk y q3 (za5 hb).1 (fun e=>hnd2.1 (by rw [←e];simp [q1])) (.inl q2) q4 ((hF y).2 rfl)
  ·rw [←e1];exact (o1.more fun y hy=>hy.imp id fun hy=>hy.mono fun q hq=>by simp [hq]).noF
  ·rw [←e2];exact o2.more fun y hy=>hy.imp id fun hy=>hy.mono fun q hq=>by simp [hq]
theorem zt7 (hs:SimF K w0 ρ S F st w):∀{ms:List RM} {x:Args ms} {zas:List AV} {vs:List Value} {p:Prop} {ks:List Tk},zq7 st ms x zas=some (p,ks)→p→(zk ks).Nodup→dens ρ zas vs→ValsO w (fun y=>S y∨Gn F st (zh ks) y) (Gn F st (zk ks)) ms x vs
 |[],x,[],vs,p,ks,h,hp,hnd,hd=>by simp only [dens] at hd;exact hd
 |[],_,_::_,_,_,_,h,_,_,_=>by simp [zq7] at h
 |_::_,_,[],_,_,_,h,_,_,_=>by simp [zq7] at h
 |m::ms,x,a::zas,vs,p,ks,h,hp,hnd,hd=>by
  simp only [dens] at hd;obtain ⟨v,vs',rfl,hd1,hd2⟩:=hd;simp only [zq7] at h;split at h
  ·rename_i p1 k1 p2 k2 h1 h2;obtain ⟨rfl,rfl⟩:=zNb (zM8 h);rw [zhe] at hnd;have hn:=zNq.1 hnd;refine ⟨v,vs',Gn F st (zk k1),Gn F st (zk k2),rfl,fun y hy=>hy.mono fun j hj=>by rw [zhe];simp [hj],fun y hy=>hy.mono fun j hj=>by rw [zhe];simp [hj],fun y g1 g2=>Gn.apart hs (fun q q1 q2=>hn.2.2 q q1 q q2 rfl) g1 g2,?_,?_⟩
   ·exact (zyz hs h1 hp.1 hn.1 hd1).more fun y hy=>hy.imp id fun hy=>hy.mono fun j hj=>by rw [zjQ];simp [hj]
   ·exact (zt7 hs h2 hp.2 hn.2.1 hd2).more fun y hy=>hy.imp id fun hy=>hy.mono fun j hj=>by rw [zjQ];simp [hj]
  ·cases h
theorem zDI (hs:SimF K w0 ρ S F st w) {ms:List RM} {y:Args ms} {a:AV} {v:Value} (h:zvJ st ms y a) (hd:den ρ a v):∃l m,(l++m).Nodup∧ResO w (fun y=>S y∨Gn F st m y) (Gn F st l) ms y v:=by
 unfold zvJ at h;split at h
 case h_2=>exact h.elim
 rename_i p ks hr;obtain ⟨hp,hap⟩:=h;have hnd:=zbm hap;have hn:=zNq.1 hnd;refine ⟨zk ks,zh ks,hnd,?_⟩;have many:∀(l:List AV),a= .tup l→zq7 st ms y l=some (p,ks)→∃vs,v= .tuple vs.toArray∧ValsO w (fun y=>S y∨Gn F st (zh ks) y) (Gn F st (zk ks)) ms y vs:=by
  rintro l rfl h
  simp only [den] at hd;obtain ⟨vs,rfl,hd⟩:=hd;exact ⟨vs,rfl,zt7 hs h hp hn.1 hd⟩
 match ms,y,hr,many with
 |[m],y,hr,_=>exact zyz hs hr hp hn.1 hd
 |[],y,hr,many=>
  cases a with
  |tup l=>exact many l rfl hr
  |_=>simp [znt] at hr
 |_::_::_,y,hr,many=>
  cases a with
  |tup l=>exact many l rfl hr
  |_=>simp [znt] at hr
def wr0 (n:Nat):Nat→Bool:=fun k=>Nat.ble n k
def zrw (b:Bool) (a:AV):List AV:=match b with
 |true=>match a with
  | .agg l=>l
  |a=>[a]
 |false=>[a]
def zpd (sh:Bool) (_:Nat):Ow:=match sh with
 |true=> .none
 |false=> .ro
def zya (t:RT) (j:Nat):Ow:=match shT t j with
 |true=> .none
 |false=> .bor
def zdT:(p:Pat)→p.ty→St→AV×St
 | .v sh t,x,st=>zfH (zpd sh) t x st
 | .fn0 g,_,st=>(.fn g [],st)
 | .fn1 g p,x,st=>match zdT p x st with
   |(a,st1)=>(.fn g [a],st1)
 | .fn2 g p q,x,st=>match zdT p x.1 st with
   |(a,st1)=>match zdT q x.2 st1 with
    |(b,st2)=>(.fn g [a,b],st2)
 | .ptr T p,x,st=>match zdT p x st with
   |(a,st1)=>(.ptr st1.n 0,⟨st1.h.set st1.n ⟨T,zrw p.isS a,none⟩,Nat.succ st1.n,st1.wr⟩)
 | .nil b,_,st=>(.lit (zLu b),st)
 | .bor t,x,st=>zfH (zya t) t x st
 | .el t,x,st=>(.ep (Nat.succ st.n) (Nat.succ st.n) [] t.size 0 0,(zeM .ro t [x] st.h st.n st.wr).2)
def ze0:(ts:List Pat)→zdW ts→St→List AV×St
 |[],_,st=>([],st)
 |t::ts,x,st=>match zdT t x.1 st with
  |(a,st1)=>match ze0 ts x.2 st1 with
   |(zas,st2)=>(a::zas,st2)
def zoo (ps:List Pat) (n0:Nat) (x:zdW ps):List AV×St:=ze0 ps x ⟨.e,1,wr0 n0⟩
theorem zo9:∀{p:Pat} {x:p.ty} {st:St},st.n≤(zdT p x st).2.n
 | .v sh t,x,st=>zn6
 | .fn0 g,_,st=>zNm _
 | .fn1 g p,x,st=>zo9 (p:=p)
 | .fn2 g p q,x,st=>zNf (zo9 (p:=p) (x:=x.1) (st:=st)) (zo9 (p:=q) (x:=x.2) (st:=(zdT p x.1 st).2))
 | .ptr T p,x,st=>Nat.le_succ_of_le (zo9 (p:=p))
 | .nil b,_,st=>zNm _
 | .el t,x,st=>Nat.le_succ_of_le (Nat.le_succ _)
 | .bor t,x,st=>zn6
theorem zhP:∀{p:Pat} {x:p.ty} {st:St},(zdT p x st).2.wr=st.wr
 | .v sh t,x,st=>zlh
 | .fn0 g,_,st=>rfl
 | .fn1 g p,x,st=>zhP (p:=p)
 | .fn2 g p q,x,st=>(zhP (p:=q) (x:=x.2) (st:=(zdT p x.1 st).2)).trans (zhP (p:=p) (x:=x.1))
 | .ptr T p,x,st=>zhP (p:=p) (x:=x) (st:=st)
 | .nil b,_,st=>rfl
 | .el t,x,st=>rfl
 | .bor t,x,st=>zlh
theorem ztD:∀{ts:List Pat} {x:zdW ts} {st:St},st.n≤(ze0 ts x st).2.n
 |[],_,_=>zNm _
 |t::ts,x,st=>zNf (zo9 (p:=t) (x:=x.1) (st:=st)) (ztD (ts:=ts) (x:=x.2) (st:=(zdT t x.1 st).2))
theorem ztE:∀{ts:List Pat} {x:zdW ts} {st:St},(ze0 ts x st).2.wr=st.wr
 |[],_,_=>rfl
 |t::ts,x,st=>(ztE (ts:=ts) (x:=x.2) (st:=(zdT t x.1 st).2)).trans (zhP (p:=t) (x:=x.1))
theorem zpa:∀{ts:List Pat} {x:zdW ts} {st:St},(ze0 ts x st).1.length=ts.length
 |[],_,_=>rfl
 |t::ts,x,st=>by
  show ((zdT t x.1 st).1::(ze0 ts x.2 (zdT t x.1 st).2).1).length=_;rw [List.length_cons,zpa];rfl
theorem zCs:∀{p:Pat} {x:p.ty} {st:St} {u:Value} {us:List Value},den ρ (zdT p x st).1 u→zyW p.isS u us→dens ρ (zrw p.isS (zdT p x st).1) us:=by
 intro p x st u us hd hc;have one:p.isS=false→dens ρ (zrw p.isS (zdT p x st).1) us:=fun e=>by
  rw [e] at hc ⊢;obtain rfl:us=[u]:=hc;simp only [zrw,dens];exact ⟨u,[],rfl,hd,rfl⟩
 cases p with
 |v sh t=>
  cases t with
  |st n=>
   have hc:u= .agg us.toArray:=hc;subst hc;have hd:den ρ (.agg (zv (zpd sh) 0 ((RT.st n).leaves x) st).1) (.agg us.toArray):=hd;simp only [den] at hd;obtain ⟨vs,e,hd⟩:=hd;have e:=congrArg Array.toList (Value.agg.inj e);simp only at e;subst e;exact hd
  |_=>exact one rfl
 |_=>exact one rfl
theorem zBX {n n0:Nat} (h:n<n0):wr0 n0 n=false:=by
 unfold wr0;cases hb:Nat.ble n0 n with
 |false=>rfl
 |true=>have:=zNc hb;omega
abbrev K0 (w:World) (S:Nat→Prop):KS:=⟨lt w.heap.size,S,fun _=>True⟩
theorem zGx {n0 T b:Nat} {p:Pat} {x:p.ty} {v u:Value} {us:List Value} {ρ ρ1:Rho} {S:Nat→Prop} {F1:Nat→Nat→Prop} {st:St} (hw:st.wr=wr0 n0) (hv:v= .pointer (some ⟨b,0,none⟩)) (h1:Blk w b T us.toArray) (h2:∀v∈us,v.oneCell'=true) (h3:zyW p.isS u us)
  (hn1:(zdT p x st).2.n+1≤n0) (x1:Ext st.n (zdT p x st).2.n ρ ρ1) (s1:SimF (K0 w S) w ρ1 S F1 (zdT p x st).2 w) (d1:den ρ1 (zdT p x st).1 u):
  ∃ρ' F',Ext st.n (zdT (.ptr T p) x st).2.n ρ ρ'∧SimF (K0 w S) w ρ' S F' (zdT (.ptr T p) x st).2 w∧den ρ' (zdT (.ptr T p) x st).1 v:=by
 have hwr:(zdT p x st).2.wr=wr0 n0:=zhP.trans hw;have d2:=fun {us}=>zCs (ρ:=ρ1) (us:=us) d1;show ∃ρ' F',Ext st.n (Nat.succ (zdT p x st).2.n) ρ ρ'∧SimF (K0 w S) w ρ' S F' ⟨(zdT p x st).2.h.set (zdT p x st).2.n ⟨T,zrw p.isS (zdT p x st).1,none⟩,Nat.succ (zdT p x st).2.n,(zdT p x st).2.wr⟩ w∧den ρ' (.ptr (zdT p x st).2.n 0) v;generalize zdT p x st=r at*;have hfree:ρ1 r.2.n=none:=Sim.fresh ⟨S,F1,s1⟩;obtain ⟨s2,e2⟩:=s1.nameG (Kp.refl _ w) (fun _ _ _ _ _=>rfl) (fun _ _=>rfl) ⟨T,zrw p.isS r.1,none⟩ b (Cap.of 0) (fun y=>y=b)
  ⟨fun _=>⟨fun y=>Iff.rfl,us,[],dens_mono (Rho.le_up hfree) (d2 h3),by rw [List.append_nil];exact h1,h2,fun _=>rfl,fun s e=>nomatch e⟩,fun e=>nomatch e⟩ (fun y hy=>by
  rw [hwr,zBX hn1];refine And.intro (fun e=>Bool.noConfusion e) fun j bj hj e _=>?_;obtain ⟨z,c,g1,_⟩:=s1.blk j bj hj;have:=s1.dom j (by rw [g1];simp)
  rw [zBX (show j<n0 by omega)] at e
  rcases e with e|e<;>cases e)
 refine ⟨_,_,x1.trans e2,s2,?_⟩;simp only [den];exact ⟨b,Cap.of 0,by simp [Rho.up],hv⟩
theorem zlJ {n0:Nat}:∀{p:Pat} {x:p.ty} {v:Value} {ρ:Rho} {S:Nat→Prop} {F:Nat→Nat→Prop} {st:St},st.wr=wr0 n0→(∀y,y<w.heap.size→Mr ρ y)→SimF (K0 w S) w ρ S F st w→PatR w S p x v→(zdT p x st).2.n≤n0→
  ∃ρ' F',Ext st.n (zdT p x st).2.n ρ ρ'∧SimF (K0 w S) w ρ' S F' (zdT p x st).2 w∧den ρ' (zdT p x st).1 v
 | .v sh t,x,v,ρ,S,F,st,hw,hM,h,⟨us,⟨hl,hus⟩,hv⟩,hn0=>by
   subst hv;cases e3:zv (zpd sh) 0 (t.leaves x) st with
   |mk as1 st1=>
   have e4:zdT (.v sh t) x st=(zGY t as1,st1):=by
    show zfH (zpd sh) t x st=_;unfold zfH;rw [e3]
   rw [e4] at hn0 ⊢;have shut:∀n,n<n0→st.wr n=false:=fun n hn=>by rw [hw];exact zBX hn
   have hf:∀i bi,st.h.get i=some bi→st.wr i=false:=fun i bi hi=>by
    obtain ⟨y,c,h1,_⟩:=h.blk i bi hi;have:=h.dom i (by rw [h1];simp)
    have n1:st.n≤st1.n:=by have:=zaQ (f:=zpd sh) (j:=0) (ls:=t.leaves x) (st:=st);rw [e3] at this;exact this
    exact shut i (by simp only at hn0;omega)
   obtain ⟨ρ1,F1,x1,s1,d1,_,c1⟩:=zaF (f:=zpd sh) false (G:=fun _ y=>y<w.heap.size) h (hl.trans (RT.leaves_len t x).symm) (fun j lf hj=>by
    obtain ⟨v,h1,h2⟩:=hus j lf hj;refine ⟨v,h1,?_⟩;cases lf with
    |list u l=>
     show OwnR w S _ _ (zpd sh (0+j)) u l v;cases sh with
     |true=>exact LfO.shr _ _ _ _ _ rfl (LfR.keep h2 (fun y hy=>hy.2 rfl) fun _ _ _=>rfl)
     |false=>exact LfR.keep h2 (fun y hy=>hy.1) fun _ _ _=>rfl
    |int k n=>show LfR w _ _ v;cases h2;exact .int _ _
    |bool b=>show LfR w _ _ v;cases h2;exact .bool _
    |str s=>show LfR w _ _ v;cases h2;exact .str _) (fun _ _ hy=>hy) (fun n h1 h2=>by rw [e3] at h2;exact shut n (zNd h2 hn0)) (fun e=>nomatch e) (fun q y hy=>⟨fun e=>(nomatch e),fun i bi hi hw'=>by
    rcases hw' with h3|h3
    ·cases h3
    ·rw [hf i bi hi] at h3;cases h3⟩) e3
   exact ⟨ρ1,F1,x1,s1,zn5 d1 hl⟩
 | .bor t,x,v,ρ,S,F,st,hw,hM,h,⟨us,hl,hus,hv⟩,hn0=>by
   subst hv;cases e3:zv (zya t) 0 (t.leaves x) st with
   |mk as1 st1=>
   have e4:zdT (.bor t) x st=(zGY t as1,st1):=by
    show zfH (zya t) t x st=_;unfold zfH;rw [e3]
   rw [e4] at hn0 ⊢;have shut:∀n,n<n0→st.wr n=false:=fun n hn=>by rw [hw];exact zBX hn
   have hf:∀i bi,st.h.get i=some bi→st.wr i=false:=fun i bi hi=>by
    obtain ⟨y,c,h1,_⟩:=h.blk i bi hi;have:=h.dom i (by rw [h1];simp)
    have n1:st.n≤st1.n:=by have:=zaQ (f:=zya t) (j:=0) (ls:=t.leaves x) (st:=st);rw [e3] at this;exact this
    exact shut i (by simp only at hn0;omega)
   obtain ⟨ρ1,F1,x1,s1,d1,_,c1⟩:=zaF (f:=zya t) false (G:=fun _ y=>y<w.heap.size) h (hl.trans (RT.leaves_len t x).symm) (fun j lf hj=>by
    obtain ⟨v,h1,h2⟩:=hus j lf hj;refine ⟨v,h1,?_⟩;cases lf with
    |list u l=>
     have hel:=zbo hj;unfold zkM at h2;rw [hel] at h2;rw [Nat.zero_add];show OwnR w S _ _ (zya t j) u l v;unfold zya;cases hsh:shT t j with
     |true=>rw [hsh] at h2;exact LfO.wide h2 fun y hy=>hy
     |false=>rw [hsh] at h2;exact LfO.wide h2 fun y hy=>hM y hy
    |int k n=>show LfR w _ _ v;cases h2;exact .int _ _
    |bool b=>show LfR w _ _ v;cases h2;exact .bool _
    |str s=>show LfR w _ _ v;cases h2;exact .str _) (fun _ _ hy=>hy) (fun n h1 h2=>by rw [e3] at h2;exact shut n (zNd h2 hn0)) (fun e=>nomatch e) (fun q y hy=>⟨fun e=>(nomatch e),fun i bi hi hw'=>by
    rcases hw' with h3|h3
    ·cases h3
    ·rw [hf i bi hi] at h3;cases h3⟩) e3
   exact ⟨ρ1,F1,x1,s1,zn5 d1 hl⟩
 | .fn0 g,x,v,ρ,S,F,st,hw,hM,h,hv,hn0=>⟨ρ,F, .refl _ ρ,h,by
   have hv:v=_:=hv;subst hv;show den ρ (.fn g []) _;simp only [den,dens];exact ⟨[],rfl,rfl⟩⟩
 | .fn1 g p,x,v,ρ,S,F,st,hw,hM,h,⟨u,hv,hu⟩,hn0=>by
   obtain ⟨ρ1,F1,x1,s1,d1⟩:=zlJ (p:=p) hw hM h hu hn0;refine ⟨ρ1,F1,x1,s1,?_⟩;show den ρ1 (.fn g [(zdT p x st).1]) v;simp only [den,dens];exact ⟨[u],hv,u,[],rfl,d1,rfl⟩
 | .fn2 g p q,x,v,ρ,S,F,st,hw,hM,h,⟨u,u',hv,hu,hu'⟩,hn0=>by
   have hn1:(zdT q x.2 (zdT p x.1 st).2).2.n≤n0:=hn0;obtain ⟨ρ1,F1,x1,s1,d1⟩:=zlJ (p:=p) hw hM h hu (zNf zo9 hn1);obtain ⟨ρ2,F2,x2,s2,d2⟩:=zlJ (p:=q) (zhP.trans hw) (fun y hy=>(hM y hy).mono x1.le) s1 hu' hn1;refine ⟨ρ2,F2,x1.trans x2,s2,?_⟩;show den ρ2 (.fn g [(zdT p x.1 st).1,(zdT q x.2 (zdT p x.1 st).2).1]) v;simp only [den,dens];exact ⟨[u,u'],hv,u,[u'],rfl,zbn x2.le d1,u',[],rfl,d2,rfl⟩
 | .ptr T p,x,v,ρ,S,F,st,hw,hM,h,⟨b,us,u,hv,h1,h2,h3,h4⟩,hn0=>by
   have hn1:(zdT p x st).2.n+1≤n0:=hn0;obtain ⟨ρ1,F1,x1,s1,d1⟩:=zlJ (p:=p) hw hM h h4 (by omega)
   exact zGx (p:=p) (x:=x) hw hv h1 h2 h3 hn1 x1 s1 d1
 | .nil b,x,v,ρ,S,F,st,hw,hM,h,hv,hn0=>⟨ρ,F, .refl _ ρ,h,by
   have hv:v=_:=hv;subst hv;show den ρ (.lit (zLu b)) _;simp only [den]⟩
 | .el t,x,v,ρ,S,F,st,hw,hM,h,⟨b,o,hv,hl⟩,hn0=>by
   subst hv;have hn1:st.n+2≤n0:=hn0;have shut:∀n,n<n0→st.wr n=false:=fun n hn=>by rw [hw];exact zBX hn
   have hf:∀i bi,st.h.get i=some bi→st.wr i=false:=fun i bi hi=>by
    obtain ⟨y,c,h1,_⟩:=h.blk i bi hi;have:=h.dom i (by rw [h1];simp)
    exact shut i (by omega)
   obtain ⟨ρ1,F1,x1,s1,d1,_,_⟩:=h.tree (ow:= .ro) (t:=t) (l:=[x]) (A:=some ⟨b,o,none⟩) (c:=1) (G:=lt w.heap.size) hl (fun _ hy=>hy) (fun y hy=>by
    refine And.intro (fun e=>?_) fun j bj hj hw'=>?_
    ·rw [shut _ (show Nat.succ st.n<n0 by omega)] at e;cases e
    ·rcases hw' with h3|h3
     ·rw [shut _ (show Nat.succ st.n<n0 by omega)] at h3;cases h3
     ·rw [hf j bj hj] at h3;cases h3) rfl
   refine ⟨ρ1,F1,x1,s1,?_⟩;simp only [zdT,den] at d1 ⊢;obtain ⟨g,g1,g2,g3⟩:=d1;refine ⟨g,g1,by rw [g3];exact Nat.zero_lt_one,b,o,?_,by simp⟩
   obtain ⟨_,_,A',e,e1,_⟩:=g2;have e:=(Value.slice.inj e).1;rw [←e1 rfl, ←e]
theorem zwr {n0:Nat}:∀{ts:List Pat} {x:zdW ts} {vs:List Value} {ρ:Rho} {S:Nat→Prop} {F:Nat→Nat→Prop} {st:St},st.wr=wr0 n0→(∀y,y<w.heap.size→Mr ρ y)→SimF (K0 w S) w ρ S F st w→ArgPR w S ts x vs→(ze0 ts x st).2.n≤n0→
  ∃ρ' F',Ext st.n (ze0 ts x st).2.n ρ ρ'∧SimF (K0 w S) w ρ' S F' (ze0 ts x st).2 w∧dens ρ' (ze0 ts x st).1 vs
 |[],x,vs,ρ,S,F,st,hw,hM,h,hv,hn0=>⟨ρ,F, .refl _ ρ,h,by
  have hv:vs=[]:=hv;subst hv;show dens ρ [] [];simp only [dens]⟩
 |t::ts,x,vs,ρ,S,F,st,hw,hM,h,⟨v,vs',hv,h1,h2⟩,hn0=>by
  subst hv;have hn1:(ze0 ts x.2 (zdT t x.1 st).2).2.n≤n0:=hn0;obtain ⟨ρ1,F1,x1,s1,d1⟩:=zlJ (p:=t) hw hM h h1 (zNf ztD hn1);obtain ⟨ρ2,F2,x2,s2,d2⟩:=zwr (zhP.trans hw) (fun y hy=>(hM y hy).mono x1.le) s1 h2 hn1;refine ⟨ρ2,F2,x1.trans x2,s2,?_⟩;show dens ρ2 ((zdT t x.1 st).1::(ze0 ts x.2 (zdT t x.1 st).2).1) (v::vs');simp only [dens];exact ⟨v,vs',rfl,zbn x2.le d1,d2⟩
def zLC (w:World):Rho:=fun i=>if i=0 then some (0,⟨0,0,none,fun _=>none,lt w.heap.size⟩) else none
theorem zIr {y:Nat} (h:y<w.heap.size):Mr (zLC w) y:=⟨_,_,rfl,h⟩
theorem zEE {S:Nat→Prop} (hS:∀y,S y→y<w.heap.size) (n0:Nat):SimF (K0 w S) w (zLC w) S (fun _ _=>False) ⟨.e,1,wr0 n0⟩ w:=
 ⟨Kp.refl _ w,fun _ h=>h,fun _ h=>h,fun _ h _=>h,hS,fun i bk h=>by simp [T.get_e] at h,fun i bk y h=>by simp [T.get_e] at h,fun i j bi bj y h=>by simp [T.get_e] at h,fun i h=>by
  by_cases hi:i=0
  ·subst hi;exact Nat.zero_lt_one
  ·exact absurd (if_neg hi) h,Nat.zero_lt_one,fun x c e=>by
  obtain ⟨rfl,rfl⟩:=zNb (zM8 e);exact ⟨trivial,fun y hy=>hy⟩⟩
variable {P:Program} [Fast P] {ρ ρ':Rho} {w w0 w':World} {K:KS} {st st':St} {S:Nat→Prop} {F:Nat→Nat→Prop}
def zKE (w:World) (S G:Nat→Prop) (T:TypeId) (n1 n2:SN) (p:n1.ty) (x:n2.ty) (b:Nat):Prop:=
 ∃us1 us2,Blk w b T (us1++us2).toArray∧(∀v∈us1++us2,v.oneCell'=true)∧Own w S (.st n1) p (zkM true (.st n1)) (fun _=>False) us1∧Own w S (.st n2) x (zkM false (.st n2)) G us2
def zHf (P:Program) [Fast P] (f:FuncId) (T:TypeId) (n1 n2:SN) (ps:List Pat) (rs:List RM) (pre:n1.ty→n2.ty→zdW ps→Prop) (fn:n1.ty→n2.ty→zdW ps→n2.ty×Args rs):Prop:=
 zCb P f∧∀(w:World) (S G:Nat→Prop) (b:Nat) (p:n1.ty) (x:n2.ty) (y:zdW ps) (vs:List Value),(∀z,S z→z<w.heap.size∧z≠b)→(∀z,G z→z<w.heap.size∧¬S z∧z≠b)→zKE w S G T n1 n2 p x b→ArgPR w S ps y vs→pre p x y→
  Calls P f (Value.pointer (some ⟨b,0,none⟩)::vs).toArray w fun e w'=>∃v S' H G',e= .returned v∧Kp (fun z=>z<w.heap.size∧z≠b∧¬G z) w w'∧(∀z,S z→S' z)∧(∀z,S' z→(S z∨G z∨w.heap.size≤z)∧z<w'.heap.size∧z≠b)∧
   (∀z,G' z→(G z∨w.heap.size≤z)∧z<w'.heap.size∧¬S' z∧z≠b)∧(∀z,H z→(G z∨w.heap.size≤z)∧z<w'.heap.size∧¬S' z∧¬G' z∧z≠b)∧zKE w' S' G' T n1 n2 p (fn p x y).1 b∧ResO w' S' H rs (fn p x y).2 v
noncomputable def zLd (T:TypeId) (n1 n2:SN) (ps:List Pat) (rs:List RM) (pre:n1.ty→n2.ty→zdW ps→Prop) (fn:n1.ty→n2.ty→zdW ps→n2.ty×Args rs):Ctr:=fun args st=>match args with
 | .ptr b off::zas=>match Nat.beq off 0&&st.wr b,zk4 st.h b,znB st ps zas with
   |true,some bk,some y=>match Nat.beq bk.ty T&&zvF bk.op,zj1 st true n1 (bk.cells.take n1.size),zj1 st false n2 (bk.cells.drop n1.size) with
    |true,some (p,k1),some (x,k2)=>match zcA (b::((zk k1++zk k2)++(zh k1++zh k2))) with
     |true=>match zv (zgW true (.st n1)) 0 ((RT.st n1).leaves p) ⟨zaz (zaz st.h ((zk k1++zk k2)++(zh k1++zh k2))) [b],st.n,st.wr⟩ with
      |(as1,st1)=>match zv (zgW false (.st n2)) 0 ((RT.st n2).leaves (fn p x y).1) st1 with
       |(as2,st2)=>match zhd rs (fn p x y).2 ⟨st2.h.set b ⟨T,as1++as2,none⟩,st2.n,st2.wr⟩ with
        |(v,st3)=>match zyV st.wr st.n (Nat.sub st3.n st.n) with
         |true=> .must (pre p x y) (Classical.propDecidable _) (.ret (v,st3))
         |false=> .fail 35 none
     |false=> .fail 34 none
    |_,_,_=> .fail 33 none
   |_,_,_=> .fail 32 none
 |_=> .fail 31 none
theorem SimF.toQ {Q:Nat→Prop} (h:SimF K w0 ρ S F st w) (hk:Kp Q w w') (hK:∀b,K.k b→Q b) (hS:∀b,S b→Q b) (hF:∀i bk y,st.h.get i=some bk→F i y→Q y):SimF K w0 ρ S F st w':=
 ⟨h.kp.trans (hk.mono hK),h.lt,h.ss,h.sk,fun b hb=>zNd (h.sl b hb) hk.size,fun i bk hi=>by
  obtain ⟨x,c,e,hb,hn⟩:=h.blk i bk hi;exact ⟨x,c,e,hb.mono (.refl ρ) (fun y hy=>hk.block y (hF i bk y hi hy)) (fun _ h=>h) (fun y hy=>hk.block y (hS y hy)) (fun y hy=>hk.block y (hK y (h.mk_ hy))),hn⟩,h.sd,h.sep,h.dom,h.pn⟩
theorem SimF.back (h:SimF K w0 ρ S F st w) {b x:Nat} {c:Cap} (he:ρ b=some (x,c)) (bk0:Bk) (hb0:BkR ρ w S (fun y=>y=x) x c bk0) (hK:¬K.k x) (hS:¬S x) (hF:∀j bj,st.h.get j=some bj→¬F j x):
  SimF K w0 ρ S (Fup F b (fun y=>y=x)) ⟨st.h.set b bk0,st.n,st.wr⟩ w:=by
 refine ⟨h.kp,h.lt,h.ss,h.sk,h.sl,fun i bk hi=>?_,fun i bk y hi hw hy=>?_,fun i j bi bj y hi hj hij hw hyi hyj=>?_,h.dom,h.pn⟩
 ·rw [T.get_put] at hi;by_cases hib:i=b
  ·subst hib;rw [if_pos rfl] at hi;obtain rfl:=zM8 hi;rw [zV];exact ⟨x,c,he,hb0,fun _ y hy=>by rw [hy];exact hK⟩
  ·rw [if_neg hib] at hi;rw [zap hib];exact h.blk i bk hi
 ·rw [T.get_put] at hi;by_cases hib:i=b
  ·subst hib;rw [zV] at hy;rw [hy];exact hS
  ·rw [if_neg hib] at hi;rw [zap hib] at hy;exact h.sd i bk y hi hw hy
 ·rw [T.get_put] at hi hj;by_cases hib:i=b
  ·subst hib;have hji:j≠i:=fun e=>hij e.symm;rw [if_neg hji] at hj;rw [zV] at hyi;rw [zap hji] at hyj;subst hyi;exact hF j bj hj hyj
  ·rw [if_neg hib] at hi;rw [zap hib] at hyi;by_cases hjb:j=b
   ·subst hjb;rw [zV] at hyj;subst hyj;exact hF i bi hi hyi
   ·rw [if_neg hjb] at hj;rw [zap hjb] at hyj;exact h.sep i j bi bj y hi hj hij hw hyi hyj
theorem PatR.more {S':Nat→Prop} (hS:∀y,S y→S' y):∀{p:Pat} {x:p.ty} {v:Value},PatR w S p x v→PatR w S' p x v
 | .v sh t,x,v,⟨us,⟨h1,h2⟩,h3⟩=>⟨us,⟨h1,fun j lf hj=>let ⟨v,h4,h5⟩:=h2 j lf hj;⟨v,h4,h5.keep (fun y hy=>⟨hy.1,fun e=>hS y (hy.2 e)⟩) fun _ _ _=>rfl⟩⟩,h3⟩
 | .fn0 _,_,_,h=>h
 | .fn1 _ p,_,_,⟨u,h1,h2⟩=>⟨u,h1,PatR.more hS h2⟩
 | .fn2 _ p q,_,_,⟨u,u',h1,h2,h3⟩=>⟨u,u',h1,PatR.more hS h2,PatR.more hS h3⟩
 | .ptr _ p,_,_,⟨b,us,u,h1,h2,h3,h4,h5⟩=>⟨b,us,u,h1,h2,h3,h4,PatR.more hS h5⟩
 | .nil _,_,_,h=>h
 | .el _,_,_,h=>h
 | .bor _,_,_,⟨us,h1,h2,h3⟩=>⟨us,h1,fun j lf hj=>let ⟨v,h4,h5⟩:=h2 j lf hj;⟨v,h4,LfO.wide' h5 hS fun _ h=>h⟩,h3⟩
theorem ArgPR.more {S':Nat→Prop} (hS:∀y,S y→S' y):∀{ps:List Pat} {x:zdW ps} {vs:List Value},ArgPR w S ps x vs→ArgPR w S' ps x vs
 |[],_,_,h=>h
 |_::_,_,_,⟨v,vs',h1,h2,h3⟩=>⟨v,vs',h1,h2.more hS,ArgPR.more hS h3⟩
theorem zGg {rs:List RM} {y:Args rs} {st:St}:st.n≤(zhd rs y st).2.n:=by
 match rs,y with
 |[],y=>exact zli (ts:=[]) (x:=y)
 |[t],y=>exact zDw (m:=t)
 |t::u::ts,y=>exact zli (ts:=t::u::ts) (x:=y)
theorem zzH {i:Nat} {l:List Nat} (h:zcA (i::l)=true):i∉l∧l.Nodup:=by
 have:=zbm h;exact List.nodup_cons.1 this
theorem zHx {f:FuncId} {T:TypeId} {n1 n2:SN} {ps:List Pat} {rs:List RM} {pre:n1.ty→n2.ty→zdW ps→Prop} {fn:n1.ty→n2.ty→zdW ps→n2.ty×Args rs} (h:zHf P f T n1 n2 ps rs pre fn):zi P f (zLd T n1 n2 ps rs pre fn):=by
 intro args st v st' hf;unfold zLd at hf;split at hf
 case h_2=>cases hf
 rename_i b off zas;split at hf
 case h_2=>cases hf
 rename_i bk y hoff hb hy;split at hf
 case h_2=>cases hf
 rename_i p k1 x k2 hty hp hx;split at hf
 case h_2=>cases hf
 rename_i hap;simp only [Bool.and_eq_true] at hoff hty;obtain ⟨hoff,hwb⟩:=hoff;obtain ⟨hty,hop⟩:=hty;obtain rfl:=zM9 hoff;have hty:=zM9 hty;have hop:bk.op=none:=by
  revert hop;cases bk.op<;>intro e
  ·rfl
  ·cases e
 obtain ⟨hbO,hnd⟩:=zzH hap;have hnd1:=zNq.1 hnd;have hndO:=zNq.1 hnd1.1;have hOR:∀q,q∈zk k1++zk k2→q∈zh k1++zh k2→False:=fun q h1 h2=>hnd1.2.2 q h1 q h2 rfl;cases e1:zv (zgW true (.st n1)) 0 ((RT.st n1).leaves p) ⟨zaz (zaz st.h ((zk k1++zk k2)++(zh k1++zh k2))) [b],st.n,st.wr⟩ with
 |mk as1 st1=>
 rw [e1] at hf;simp only at hf;cases e2:zv (zgW false (.st n2)) 0 ((RT.st n2).leaves (fn p x y).1) st1 with
 |mk as2 st2=>
 rw [e2] at hf;simp only at hf;cases e3:zhd rs (fn p x y).2 ⟨st2.h.set b ⟨T,as1++as2,none⟩,st2.n,st2.wr⟩ with
 |mk v1 st3=>
 rw [e3] at hf;simp only at hf;split at hf
 case h_2=>cases hf
 rename_i hwA;obtain ⟨hpre,hf⟩:=VT.out_must hf;obtain ⟨rfl,rfl⟩:=zNb (zM8 hf);have w1:st1.wr=st.wr:=by have:=zbT (f:=zgW true (.st n1)) (j:=0) (ls:=(RT.st n1).leaves p) (st:=⟨zaz (zaz st.h ((zk k1++zk k2)++(zh k1++zh k2))) [b],st.n,st.wr⟩);rw [e1] at this;exact this
 have w2:st2.wr=st.wr:=by have:=zbT (f:=zgW false (.st n2)) (j:=0) (ls:=(RT.st n2).leaves (fn p x y).1) (st:=st1);rw [e2] at this;exact this.trans w1
 have w3:st3.wr=st.wr:=by have:=zvD (rs:=rs) (y:=(fn p x y).2) (st:=⟨st2.h.set b ⟨T,as1++as2,none⟩,st2.n,st2.wr⟩);rw [e3] at this;exact this.trans w2
 have m1:st.n≤st1.n:=by have:=zaQ (f:=zgW true (.st n1)) (j:=0) (ls:=(RT.st n1).leaves p) (st:=⟨zaz (zaz st.h ((zk k1++zk k2)++(zh k1++zh k2))) [b],st.n,st.wr⟩);rw [e1] at this;exact this
 have m2:st1.n≤st2.n:=by have:=zaQ (f:=zgW false (.st n2)) (j:=0) (ls:=(RT.st n2).leaves (fn p x y).1) (st:=st1);rw [e2] at this;exact this
 have m3:st2.n≤st3.n:=by
  have:(⟨st2.h.set b ⟨T,as1++as2,none⟩,st2.n,st2.wr⟩:St).n≤(zhd rs (fn p x y).2 ⟨st2.h.set b ⟨T,as1++as2,none⟩,st2.n,st2.wr⟩).2.n:=zGg;rw [e3] at this;exact this
 have hwn:∀n,st.n≤n→n<st3.n→st.wr n=true:=fun n h1 h2=>zuv hwA n h1 (by show n<st.n+(st3.n - st.n);omega)
 refine ⟨w3,h.1,fun K w0 w ρ vs hs hd=>?_⟩;obtain ⟨S,F,hs⟩:=hs;simp only [dens] at hd;obtain ⟨v0,vs',rfl,hd0,hd1⟩:=hd;simp only [den] at hd0;obtain ⟨xb,cb,hρb,rfl⟩:=hd0;obtain ⟨xb',cb',e,hFb,⟨us,rest,hds,hblk,hone,hrest,_⟩,hnK⟩:=hs.blkC hb;rw [hρb] at e;obtain ⟨rfl,rfl⟩:=zNb (zM8 e);have hb':=(za5 hb).1;rw [hrest hop,List.append_nil,hty] at hblk;have d1:=zcb n1.size hds;have d2:=zbA n1.size hds;have t1:=zjT hs hp hndO.1 d1;have t2:=zjT hs hx hndO.2.1 d2;generalize hO:zk k1++zk k2=O at*;generalize hR:zh k1++zh k2=R at*;have hSm:∀{ks:List Tk},(∀q,q∈zh ks→q∈R)→∀z,(S z∨Gn F st (zh ks) z)→(S z∨Gn F st R z):=fun hm z hz=>hz.imp id fun hz=>hz.mono hm;have t1:Own w (fun z=>S z∨Gn F st R z) (.st n1) p (zkM true (.st n1)) (fun _=>False) (us.take n1.size):=(t1.more (hSm fun q hq=>by rw [←hR];simp [hq])).noF
 have t2:Own w (fun z=>S z∨Gn F st R z) (.st n2) x (zkM false (.st n2)) (Gn F st O) (us.drop n1.size):=by
  obtain ⟨g1,Gs,g2,g3⟩:=t2.more (hSm fun q hq=>by rw [←hR];simp [hq])
  exact ⟨g1,Gs,fun j z hz=>(g2 j z hz).mono fun q hq=>by rw [←hO];simp [hq],g3⟩
 have hbR:b∉R∧b∉O:=by simp only [List.mem_append,not_or] at hbO;exact ⟨hbO.2,hbO.1⟩
 have sepB:∀{l:List Nat} {z:Nat},b∉l→Gn F st l z→z≠xb:=fun hl ⟨i,a1,a2,⟨bi,a3⟩,a4⟩ e=>by
  subst e;exact hs.sep i b bi bk _ a3 hb' (fun e=>hl (e▸a1)) (.inl a2) a4 ((hFb _).2 rfl)
 have hbS:¬S xb:=hs.sd b bk xb hb' hwb ((hFb _).2 rfl);have s0:=hs.give O R;have hGlt:∀z,Gn F st O z→z<w.heap.size∧¬(S z∨Gn F st R z)∧z≠xb:=fun z hz=>⟨(hz.lt hs).1,fun h=>h.elim (hz.lt hs).2.2 (fun h=>Gn.apart hs hOR hz h),sepB hbR.2 hz⟩;have hSlt:∀z,(S z∨Gn F st R z)→z<w.heap.size∧z≠xb:=fun z hz=>⟨s0.sl z hz,fun e=>by
  rcases hz with hz|hz
  ·rw [e] at hz;exact hbS hz
  ·exact sepB hbR.1 hz e⟩
 refine (h.2 w (fun z=>S z∨Gn F st R z) (Gn F st O) xb p x y vs' hSlt hGlt ⟨us.take n1.size,us.drop n1.size,by rw [List.take_append_drop];exact hblk,by rw [List.take_append_drop];exact hone,t1,t2⟩ ((zqJ hs hy hd1).more fun z hz=> .inl hz) hpre).mono ?_
 rintro e w' ⟨u,S',H,G',rfl,hkp,hSS,hS',hG',hH,⟨us1,us2,hblk',hone',o1,o2⟩,hro⟩
 have left:∀{i bi},(zaz (zaz st.h (O++R)) [b]).get i=some bi→st.h.get i=some bi∧i∉O∧i∉R∧i≠b:=fun {i bi} hi=>by
  obtain ⟨h1,h2⟩:=za2 hi;obtain ⟨h3,h4⟩:=za2 h1;simp only [List.mem_append,not_or] at h4;exact ⟨h3,h4.1,h4.2,fun e=>h2 (by simp [e])⟩
 have s1:SimF K w0 ρ (fun z=>S z∨Gn F st R z) F ⟨zaz (zaz st.h (O++R)) [b],st.n,st.wr⟩ w:=s0.less _ (fun i bi hi=>(za2 hi).1) (zNm _) (fun _ h=>h);have offO:∀{i bi z},(zaz (zaz st.h (O++R)) [b]).get i=some bi→F i z→¬Gn F st O z:=fun {i bi z} hi hz ⟨j,a1,a2,⟨bj,a3⟩,a4⟩=>by
  obtain ⟨h1,h2,_⟩:=left hi;exact hs.sep j i bj bi z a3 h1 (fun e=>h2 (e▸a1)) (.inl a2) a4 hz
 have offB:∀{i bi},(zaz (zaz st.h (O++R)) [b]).get i=some bi→¬F i xb:=fun {i bi} hi hz=>by
  obtain ⟨h1,_,_,h2⟩:=left hi;exact hs.sep i b bi bk xb h1 hb' h2 (.inr hwb) hz ((hFb _).2 rfl)
 have ltF:∀{i bi z},(zaz (zaz st.h (O++R)) [b]).get i=some bi→F i z→z<w.heap.size:=fun {i bi z} hi hz=>by
  obtain ⟨_,_,_,hbb,_⟩:=hs.blk i bi (left hi).1;exact hbb.lt z hz
 have s2:=s1.toQ hkp (fun z hK=>⟨hs.ltw z hK,fun e=>hnK hwb (e▸hK),fun hz=>(hz.lt hs).2.1 hK⟩) (fun z hz=>⟨(hSlt z hz).1,(hSlt z hz).2,fun h=>(hGlt z h).2.1 hz⟩) (fun i bi z hi hz=>⟨ltF hi hz,fun e=>offB hi (e▸hz),offO hi hz⟩);have nK:∀z,(Gn F st O z∨w.heap.size≤z)→¬K.k z:=fun z hz hK=>by
  rcases hz with hz|hz
  ·exact (hz.lt hs).2.1 hK
  ·have:=hs.ltw z hK;omega
 have nF:∀{i bi z},(zaz (zaz st.h (O++R)) [b]).get i=some bi→(Gn F st O z∨w.heap.size≤z)→¬F i z:=fun {i bi z} hi hz hFz=>by
  rcases hz with hz|hz
  ·exact offO hi hFz hz
  ·have:=ltF hi hFz;omega
 have s3:=s2.share S' hSS (fun z hz=>by
  obtain ⟨h1,h2,_⟩:=hS' z hz;rcases h1 with h1|h1
  ·exact .inl h1
  ·exact .inr ⟨nK z h1,h2⟩) (fun i bi z hi hw hz hz'=>by
  obtain ⟨h1,_,_⟩:=hS' z hz';rcases h1 with h1|h1
  ·exact s1.sd i bi z hi hw hz h1
  ·exact nF hi h1 hz)
 obtain ⟨hl1,Gs1,_,_,o1⟩:=o1;obtain ⟨hl2,Gs2,g21,g22,o2⟩:=o2;obtain ⟨ρ1,F1,x1,s4,de1,_,c1⟩:=zaF (f:=zgW true (.st n1)) true (G:=fun _ _=>False) (j:=0) s3 (hl1.trans (RT.leaves_len (.st n1) p).symm) (fun q lf hq=>by
  obtain ⟨u,h1,h2⟩:=o1 q lf hq;rw [Nat.zero_add];exact ⟨u,h1,zo5 hq (LfO.noF h2)⟩) (fun _ _ h=>h.elim) (fun n h1 h2=>by rw [e1] at h2;exact hwn n h1 (zNd h2 (zNf m2 m3))) (fun _ _ _ _ h _=>h.elim) (fun _ _ h=>h.elim) e1
 have c1':∀{i bi z},st1.h.get i=some bi→F1 i z→(zaz (zaz st.h (O++R)) [b]).get i=some bi∧F i z:=fun {i bi z} hi hz=>by
  rcases c1 i bi hi with ⟨h1,h2⟩|⟨_,_,h3⟩
  ·rw [h2] at hz;exact ⟨h1,hz⟩
  ·exact ((h3 z hz).elim fun _ h=>h.elim)
 obtain ⟨ρ2,F2,x2,s5,de2,_,c2⟩:=zaF (f:=zgW false (.st n2)) true (G:=Gs2) (j:=0) s4 (hl2.trans (RT.leaves_len (.st n2) _).symm) (fun q lf hq=>by
  obtain ⟨u,h1,h2⟩:=o2 q lf hq;rw [Nat.zero_add];exact ⟨u,h1,zo5 hq h2⟩) (fun q z hz=>(hG' z (g21 q z hz)).2.1) (fun n h1 h2=>by rw [w1];rw [e2] at h2;exact hwn n (zNf m1 h1) (zNd h2 m3)) (fun _ i j z hi hj=>g22 i j z hi hj) (fun q z hz=>by
   obtain ⟨h1,h2,h3,h4⟩:=hG' z (g21 q z hz);refine ⟨fun _=>⟨nK z h1,h3⟩,fun i bi hi _ hz'=>?_⟩;obtain ⟨h5,h6⟩:=c1' hi hz';exact nF h5 h1 h6) e2
 have c2':∀{i bi z},st2.h.get i=some bi→F2 i z→((zaz (zaz st.h (O++R)) [b]).get i=some bi∧F i z)∨G' z:=fun {i bi z} hi hz=>by
  rcases c2 i bi hi with ⟨h1,h2⟩|⟨_,_,h3⟩
  ·rw [h2] at hz;exact .inl (c1' h1 hz)
  ·obtain ⟨q,hq⟩:=h3 z hz;exact .inr (g21 q z hq)
 have hρ2:ρ2 b=some (xb,cb):=x2.le _ _ (x1.le _ _ hρb);have s6:=s5.back hρ2 ⟨T,as1++as2,none⟩ ⟨fun _=>⟨fun z=>Iff.rfl,us1++us2,[],zaq (dens_mono x2.le de1) de2,by rw [List.append_nil];exact hblk',hone',fun _=>rfl,fun s e=>nomatch e⟩,fun e=>nomatch e⟩ (hnK hwb) (fun hz=>(hS' xb hz).2.2 rfl) (fun j bj hj hz=>by
  rcases c2' hj hz with ⟨h1,h2⟩|h1
  ·exact offB h1 h2
  ·exact (hG' xb h1).2.2.2 rfl)
 obtain ⟨ρ3,F3,x3,s7,de3,_⟩:=zvC s6 hro (fun n h1 h2=>by show st2.wr n=true;rw [w2];rw [e3] at h2;exact hwn n (zNf m1 (zNf m2 h1)) h2) (fun z hz=>by
  obtain ⟨h1,h2,h3,h4,h5⟩:=hH z hz;refine ⟨h2,nK z h1,h3,fun j bj hj hz'=>?_⟩;have hj:(st2.h.set b ⟨T,as1++as2,none⟩).get j=some bj:=hj;rw [Go.Proofs.YtiepllpgifnloaaGreat.Vx.T.get_put] at hj;by_cases hjb:j=b
  ·subst hjb;rw [zV] at hz';exact h5 hz'
  ·rw [if_neg hjb] at hj;rw [zap hjb] at hz';rcases c2' hj hz' with ⟨g1,g2⟩|g1
   ·exact nF g1 h1 g2
   ·exact h4 g1) e3
 exact ⟨u,ρ3,rfl,x1.trans (x2.trans x3),⟨_,_,s7⟩,de3⟩
def zLj:Pat→Bool
 | .v sh t=>sh||zdX (t.leaves t.dflt)
 |_=>false
def zu3:List Pat→Bool
 |[]=>true
 |p::ps=>zLj p&&zu3 ps
def wrB (n:Nat):Nat→Bool:=fun k=>Nat.ble n k||Nat.beq k 0
theorem zJS {n n0:Nat} (h:n<n0) (h1:1≤n):wrB n0 n=false:=by
 unfold wrB;rw [zeT (by omega),Bool.or_false]
 exact zBX h
theorem zLw {n n0:Nat} (h:n0≤n):wrB n0 n=true:=by
 unfold wrB;rw [Nat.ble_eq_true_of_le h];rfl
def zuI (T:TypeId) (n1 n2:SN) (ps:List Pat) (n0:Nat) (p:n1.ty) (x:n2.ty) (y:zdW ps):List AV×St:=match ze0 ps y ⟨.e,1,wrB n0⟩ with
 |(zas,st1)=>match zv (zgW true (.st n1)) 0 ((RT.st n1).leaves p) st1 with
  |(as1,st2)=>match zv (zgW false (.st n2)) 0 ((RT.st n2).leaves x) st2 with
   |(as2,st3)=>(.ptr 0 0::zas,⟨st3.h.set 0 ⟨T,as1++as2,none⟩,st3.n,st3.wr⟩)
theorem zzY {n0:Nat}:∀{ps:List Pat} {x:zdW ps} {vs:List Value} {ρ:Rho} {F:Nat→Nat→Prop} {st:St},zu3 ps=true→st.wr=wrB n0→1≤st.n→SimF K w0 ρ S F st w→ArgPR w S ps x vs→(ze0 ps x st).2.n≤n0→
  ∃ρ' F',Ext st.n (ze0 ps x st).2.n ρ ρ'∧SimF K w0 ρ' S F' (ze0 ps x st).2 w∧dens ρ' (ze0 ps x st).1 vs∧(∀i bi,(ze0 ps x st).2.h.get i=some bi→(st.h.get i=some bi∧F' i=F i)∨∀z,¬F' i z)
 |[],x,vs,ρ,F,st,hf,hw,h1,h,hv,hn0=>⟨ρ,F, .refl _ ρ,h,by
  have hv:vs=[]:=hv;subst hv;show dens ρ [] [];simp only [dens],fun i bi hi=> .inl ⟨hi,rfl⟩⟩
 |p::ps,x,vs,ρ,F,st,hf,hw,h1,h,⟨v,vs',hv,hv1,hv2⟩,hn0=>by
  subst hv;simp only [zu3,Bool.and_eq_true] at hf;have hn1:(ze0 ps x.2 (zdT p x.1 st).2).2.n≤n0:=hn0;have key:∃ρ' F',Ext st.n (zdT p x.1 st).2.n ρ ρ'∧SimF K w0 ρ' S F' (zdT p x.1 st).2 w∧den ρ' (zdT p x.1 st).1 v∧(∀i bi,(zdT p x.1 st).2.h.get i=some bi→(st.h.get i=some bi∧F' i=F i)∨∀z,¬F' i z):=by
   cases p with
   |v sh t=>
    obtain ⟨us,⟨hl,hus⟩,rfl⟩:=hv1;cases e3:zv (zpd sh) 0 (t.leaves x.1) st with
    |mk as1 st1=>
    have e4:zdT (.v sh t) x.1 st=(zGY t as1,st1):=by
     show zfH (zpd sh) t x.1 st=_;unfold zfH;rw [e3]
    have n2:(zdT (.v sh t) x.1 st).2.n≤n0:=zNf ztD hn1;rw [e4] at n2 ⊢;obtain ⟨ρ1,F1,x1,s1,d1,_,c1⟩:=zaF (f:=zpd sh) false (G:=fun _ _=>False) (j:=0) h (hl.trans (RT.leaves_len t x.1).symm) (fun j lf hj=>by
     obtain ⟨v,h1,h2⟩:=hus j lf hj;refine ⟨v,h1,?_⟩;cases lf with
     |list u l=>
      show OwnR w S _ _ (zpd sh (0+j)) u l v;cases sh with
      |true=>exact LfO.shr _ _ _ _ _ rfl (LfR.keep h2 (fun y hy=>hy.2 rfl) fun _ _ _=>rfl)
      |false=>
       have hfl:zdX (t.leaves t.dflt)=true:=hf.1;have:=zg1 hfl hj;cases this
     |int k n=>show LfR w _ _ v;cases h2;exact .int _ _
     |bool b=>show LfR w _ _ v;cases h2;exact .bool _
     |str s=>show LfR w _ _ v;cases h2;exact .str _) (fun _ _ h=>h.elim) (fun n g1 g2=>by rw [e3] at g2;rw [hw];exact zJS (zNd g2 n2) (zNf h1 g1)) (fun e=>nomatch e) (fun _ _ h=>h.elim) e3
    refine ⟨ρ1,F1,x1,s1,zn5 d1 hl,fun i bi hi=>?_⟩;rcases c1 i bi hi with h|⟨_,_,h⟩
    ·exact .inl h
    ·exact .inr fun z hz=>((h z hz).elim fun _ h=>h.elim)
   |_=>cases hf.1
  obtain ⟨ρ1,F1,x1,s1,d1,c1⟩:=key;obtain ⟨ρ2,F2,x2,s2,d2,c2⟩:=zzY (ps:=ps) hf.2 (zhP.trans hw) (zNf h1 zo9) s1 hv2 hn1;refine ⟨ρ2,F2,x1.trans x2,s2,?_,fun i bi hi=>?_⟩
  ·show dens ρ2 ((zdT p x.1 st).1::(ze0 ps x.2 (zdT p x.1 st).2).1) (v::vs');simp only [dens];exact ⟨v,vs',rfl,zbn x2.le d1,d2⟩
  ·rcases c2 i bi hi with ⟨g1,g2⟩|g1
   ·rcases c1 i bi g1 with ⟨g3,g4⟩|g3
    ·exact .inl ⟨g3,g2.trans g4⟩
    ·exact .inr (by rw [g2];exact g3)
   ·exact .inr g1
def zJN (st:St) (T:TypeId) (n1 n2:SN) (rs:List RM) (p:n1.ty) (x:n2.ty) (y:Args rs) (v:AV):Prop:=match zk4 st.h 0 with
 |some bk=>match Nat.beq bk.ty T&&zvF bk.op,zj1 st true n1 (bk.cells.take n1.size),zj1 st false n2 (bk.cells.drop n1.size),znt st rs y v with
  |true,some (p1,k1),some (x1,k2),some (q,k3)=>p1=p∧x1=x∧q∧zcA (0::((zk k1++zk k2)++(zk k3++(zh k1++(zh k2++zh k3)))))=true
  |_,_,_,_=>False
 |none=>False
theorem zEk (hs:SimF K w0 ρ S F st w) {ms:List RM} {y:Args ms} {a:AV} {v:Value} {p:Prop} {ks:List Tk} (hr:znt st ms y a=some (p,ks)) (hp:p) (hnd:(zk ks).Nodup) (hd:den ρ a v):ResO w (fun y=>S y∨Gn F st (zh ks) y) (Gn F st (zk ks)) ms y v:=by
 have many:∀(l:List AV),a= .tup l→zq7 st ms y l=some (p,ks)→∃vs,v= .tuple vs.toArray∧ValsO w (fun y=>S y∨Gn F st (zh ks) y) (Gn F st (zk ks)) ms y vs:=by
  rintro l rfl h
  simp only [den] at hd;obtain ⟨vs,rfl,hd⟩:=hd;exact ⟨vs,rfl,zt7 hs h hp hnd hd⟩
 match ms,y,hr,many with
 |[m],y,hr,_=>exact zyz hs hr hp hnd hd
 |[],y,hr,many=>
  cases a with
  |tup l=>exact many l rfl hr
  |_=>simp [znt] at hr
 |_::_::_,y,hr,many=>
  cases a with
  |tup l=>exact many l rfl hr
  |_=>simp [znt] at hr
end Go.Proofs.YtiepllpgifnloaaGreat.Vx

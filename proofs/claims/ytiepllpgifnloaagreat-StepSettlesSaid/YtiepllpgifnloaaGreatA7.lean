/- For any program and any lists of values, Settle of the program and of the reference agree on the machine in which the main function has been entered with these registers and global variables: StepSettles returns true. No condition. -/
import Derived.Test.YtiepllpgifnloaaGreatA6
import Derived.Test.YtiepllpgifnloaaGreatRows
import Derived.WalkKit
import Derived.ProofKit
import Derived.OpenShut
import Derived.JoinedOf
import Derived.SizedLaws
set_option linter.unusedSimpArgs false
set_option linter.unusedVariables false
set_option linter.unusedSectionVars false
set_option linter.defProp false
namespace Go.Proofs.YtiepllpgifnloaaGreat.Px
open Go Go.Proofs.YtiepllpgifnloaaGreat.Vx Go.Proofs Go.Proofs.YtiepllpgifnloaaGreat
open Go.RowKit Go.ChangeShapes Go.WideShapes Go.ChangeAt
theorem zg2 {α:Type} {p:α→Prop}:∀x∈([]:List α),p x:=fun _ h=>nomatch h
theorem zP {α:Type} {p:α→Prop} {a:α} {l:List α} (h:p a) (t:∀x∈l,p x):∀x∈a::l,p x:=List.forall_mem_cons.2 ⟨h,t⟩
theorem zf2 {t:RT} {ok:t.ty→Prop} {P:Program} {ty:TypeId} {fs:Array Field} (l:List Fld) (mk:Tup l→t.ty) (ht:P.underlying ty=some (.struct fs)) (hfl:flds P 0 l fs.toList=true) (hC:P.cellsOf ty=t.size)
  (hl:∀x,t.leaves (mk x)=Tup.leaves l x) (hok:∀x,Tup.ok l x→ok (mk x)) (hrd:∀f∈l,RdB f.t f.ok P f.ty):RdB t ok P ty:=
 zBM l mk ht hfl hC hl hok hrd fun H xs i f d hf hd k hk=>by
  simp only [DataW.weights,ht];exact DataW.weights_mem_each (j:=i) (t:=f.type) (by rw [List.getElem?_map,hf];rfl) hd k hk
theorem zzD {n k:Nat} (h:n*k≤reachBytes) (hk:0<k):n≤LEN:=by
 have h1:n*1≤n*k:=Nat.mul_le_mul_left n hk;have h2:reachBytes≤LEN:=by decide
 omega
theorem zH1 {p:Prg} (h1:p.layouts.length*24≤reachBytes) (h2:∀x∈p.layouts,x.length*8≤reachBytes):zKG p:=⟨zzD h1 (by decide),fun x hx=>zzD (h2 x hx) (by decide)⟩
theorem zMZ:RdB .str (fun _=>True) Tryz.prog 9:=zIk Tryz.underlying9
theorem zBN:RdB (.int .i64) (fun _=>True) Tryz.prog 3:=zIj Tryz.underlying3
theorem zJH:RdB (.st .ins) (fun _=>True) Tryz.prog 89:=
 zf2 (t:= .st .ins) [⟨(.int .i64),(fun _=>True),3⟩,⟨(.int .i64),(fun _=>True),3⟩,⟨(.int .i64),(fun _=>True),3⟩,⟨(.int .i64),(fun _=>True),3⟩,⟨(.int .i64),(fun _=>True),3⟩] (fun x=>(⟨x.1,x.2.1,x.2.2.1,x.2.2.2.1,x.2.2.2.2.1⟩:Ins)) Tryz.underlying89 (by kernel_rfl) (by kernel_rfl) (fun _=>rfl) (fun _ _=>trivial) (zP zBN (zP zBN (zP zBN (zP zBN (zP zBN zg2)))))
theorem zIn:RdB (.list (.st .ins)) (okL 40 (fun _=>True)) Tryz.prog 97:=zjO Tryz.underlying97 (by kernel_rfl) (by decide) (by kernel_rfl) zJH
theorem zJF:RdB (.st .fnc) (fun _=>True) Tryz.prog 100:=
 zf2 (t:= .st .fnc) [⟨.str,(fun _=>True),9⟩,⟨(.int .i64),(fun _=>True),3⟩,⟨(.int .i64),(fun _=>True),3⟩,⟨(.list (.st .ins)),(okL 40 (fun _=>True)),97⟩] (fun x=>(⟨x.1,x.2.1,x.2.2.1,x.2.2.2.1⟩:Fnc)) Tryz.underlying100 (by kernel_rfl) (by kernel_rfl) (fun _=>rfl) (fun _ _=>trivial) (zP zMZ (zP zBN (zP zBN (zP zIn zg2))))
theorem zIl:RdB (.list (.st .fnc)) (okL 56 (fun _=>True)) Tryz.prog 28:=zjO Tryz.underlying28 (by kernel_rfl) (by decide) (by kernel_rfl) zJF
theorem zJG:RdB (.st .glb) (fun _=>True) Tryz.prog 96:=
 zf2 (t:= .st .glb) [⟨.str,(fun _=>True),9⟩,⟨(.int .i64),(fun _=>True),3⟩] (fun x=>(⟨x.1,x.2.1⟩:Glb)) Tryz.underlying96 (by kernel_rfl) (by kernel_rfl) (fun _=>rfl) (fun _ _=>trivial) (zP zMZ (zP zBN zg2))
theorem zIm:RdB (.list (.st .glb)) (okL 24 (fun _=>True)) Tryz.prog 29:=zjO Tryz.underlying29 (by kernel_rfl) (by decide) (by kernel_rfl) zJG
theorem zLB:RdB (.list (.int .i64)) (okL 8 (fun _=>True)) Tryz.prog 36:=zjO Tryz.underlying36 (by kernel_rfl) (by decide) (by kernel_rfl) zBN
theorem zJI:RdB (.list (.list (.int .i64))) (okL 24 (okL 8 (fun _=>True))) Tryz.prog 30:=zjO Tryz.underlying30 (by kernel_rfl) (by decide) (by kernel_rfl) zLB
theorem zJJ:RdB (.st .prg) zKG Tryz.prog 32:=
 zf2 (t:= .st .prg) [⟨(.list (.st .fnc)),(okL 56 (fun _=>True)),28⟩,⟨(.list (.st .glb)),(okL 24 (fun _=>True)),29⟩,⟨(.list (.list (.int .i64))),(okL 24 (okL 8 (fun _=>True))),30⟩,⟨(.int .i64),(fun _=>True),3⟩] (fun x=>(⟨x.1,x.2.1,x.2.2.1,x.2.2.2.1⟩:Prg)) Tryz.underlying32 (by kernel_rfl) (by kernel_rfl) (fun _=>rfl) (fun _ h=>zH1 h.2.2.1.1 fun x hx=>(h.2.2.1.2 x hx).1) (zP zIl (zP zIm (zP zJI (zP zBN zg2))))
theorem zJK:RdB (.st .val) (fun _=>True) Tryz.prog 68:=
 zf2 (t:= .st .val) [⟨(.int .i64),(fun _=>True),3⟩,⟨(.int .i64),(fun _=>True),3⟩,⟨(.int .i64),(fun _=>True),3⟩] (fun x=>(⟨x.1,x.2.1,x.2.2.1⟩:Val)) Tryz.underlying68 (by kernel_rfl) (by kernel_rfl) (fun _=>rfl) (fun _ _=>trivial) (zP zBN (zP zBN (zP zBN zg2)))
theorem zEd:RdB (.list (.st .val)) (okL 24 (fun _=>True)) Tryz.prog 73:=zjO Tryz.underlying73 (by kernel_rfl) (by decide) (by kernel_rfl) zJK
set_option maxRecDepth 100000 in
theorem zJ9 {n:SN} {ok:n.ty→Prop} {ty:TypeId} {fs:Array Field} (ht:Tryz.prog.underlying ty=some (.struct fs)) (hr:RdB (.st n) ok Tryz.prog ty) {H:Type} {enc:TypeId×Value→H} {w:World} {base:Nat} {spare:Nat→Bool} {held:Bool} {b0:Nat} {v:Value} {d:DataW H} {ps:List MemPlace}
  (hv:Value.okWide Tryz.prog w .any b0 ty v) (h:DataW.Trod enc Tryz.prog w base spare held ty v d ps) (hw:∀k∈d.weights Tryz.prog ty,k≤reachBytes):∃x:n.ty,zFb w (lt w.heap.size) (.st n) x v∧ok x:=by
 obtain ⟨cs,rfl,_⟩:=okWide_struct (P:=Tryz.prog) ht hv;obtain ⟨fuel,hf⟩:=h;obtain ⟨x,hx,hok⟩:=hr H enc w base spare held fuel (Value.agg cs).cells.toList (d,ps) hf hw;exact ⟨x,⟨_,hx,(congrArg Value.agg (Array.toArray_toList (xs:=cs))).symm⟩,hok⟩
set_option maxRecDepth 100000 in
theorem zHe {t:RT} {ok:List t.ty→Prop} {ty e:TypeId} (ht:Tryz.prog.underlying ty=some (.slice e)) (hr:RdB (.list t) ok Tryz.prog ty) {H:Type} {enc:TypeId×Value→H} {w:World} {base:Nat} {spare:Nat→Bool} {held:Bool} {b0:Nat} {v:Value} {d:DataW H} {ps:List MemPlace}
  (hv:Value.okWide Tryz.prog w .any b0 ty v) (h:DataW.Trod enc Tryz.prog w base spare held ty v d ps) (hw:∀k∈d.weights Tryz.prog ty,k≤reachBytes):∃x:List t.ty,zFb w (lt w.heap.size) (.list t) x v∧ok x:=by
 obtain ⟨a,l,c,rfl⟩:=okWide_slice (P:=Tryz.prog) ht hv;obtain ⟨fuel,hf⟩:=h;obtain ⟨x,hx,hok⟩:=hr H enc w base spare held fuel (Value.slice a l c).cells.toList (d,ps) hf hw;exact ⟨x,⟨_,hx,rfl⟩,hok⟩
section
variable {H:Type} {enc:TypeId×Value→H} {P:Program}
theorem zBg {f:Func} {s:ChangeSpec} {apart fresh handsOn again:Bool} {W W':World} {args:Array Value} {v:Value} {ds gs:List (DataW H)} {before pa pv:List MemPlace}
  (hW:DataW.Whole enc P f.params.toList s.vars apart W args.toList ds gs before)
  (hres:∀(b:Nat) (sp:Nat→Bool) (hd:Bool),DataW.TrodAll enc P W' b sp hd f.resultTypes.toList (v.resultList f.resultTypes.size) (s.fn H (ds++gs)).results [])
  (hargs:∀sp:Nat→Bool,(∀p∈before,sp p.block=true)→DataW.TrodAll enc P W' 0 sp true f.params.toList args.toList (s.fn H (ds++gs)).args pa)
  (hvars:∀sp:Nat→Bool,(∀p∈before,sp p.block=true)→DataW.TrodVars enc P W' sp s.vars (s.fn H (ds++gs)).vars pv)
  (hps:before=pa++pv) (hb:Below W.heap.size W W')
  (hok:∀(j:Nat) (t:TypeId) (r:Value),f.resultTypes[j]? =some t→(v.resultList f.resultTypes.size)[j]? =some r→Value.okWide P W' .any 0 t r):
  s.post enc P f apart fresh handsOn again W args v W':=by
 have hlt:∀p∈before,p.block<W.heap.size:=fun p hp=>hW.lt p hp;have hold:∀p∈before,(fun b=>decide (b<W.heap.size)) p.block=true:=fun p hp=>by simpa using hlt p hp
 refine ⟨ds,gs,before,[],pa,pv,hW,hres _ _ _,hargs _ hold,hvars _ hold,World.keptBut_mono (fun p hp=>⟨hp,?_⟩) (hb.frame (· ∈before)),fun _=>?_⟩
 ·rw [hps,List.mem_append] at hp;exact Or.inr hp
 ·obtain ⟨_,_,_,_,_,hz,hn⟩:=hW;refine ⟨hok,_,_,([]++pa)++pv,⟨[]++pa,pv,trodAll_append (hargs _ (fun _ _=>rfl)) (hres _ _ _),hvars _ (fun _ _=>rfl),rfl,?_,?_⟩,?_⟩
  ·intro b off hp;have hin:MemPlace.cell b off∈before:=by rw [hps];simpa using hp
   rw [hb.frozen (hlt _ hin)];exact hz b off hin
  ·intro ha;have:=hn ha;rw [hps] at this;simpa using this
  ·intro p hp _;rw [hps];simpa using hp
end
end Go.Proofs.YtiepllpgifnloaaGreat.Px
namespace Go.Proofs.YtiepllpgifnloaaGreat
open Go Go.Proofs.YtiepllpgifnloaaGreat.Vx Go.Proofs.YtiepllpgifnloaaGreat.Px
open Go.RowKit Go.ChangeShapes Go.WideShapes Go.ChangeAt
theorem Tryz.own:ownKnob Tryz.prog.godebug=none:=by kernel_rfl
theorem Tryz.laidOut:laidOutB Tryz.prog=true:=by kernel_rfl
set_option maxRecDepth 100000 in
theorem zlS (os:Os) (started:os.Started) (H:Type) (enc:TypeId×Value→H):
  ReturnsInHanded {} Tryz.checked os 10 .any (Rows.stepSettlesSpec.pre6 enc Tryz.prog Tryz.f10 Rows.stepSettlesRow.domain false) (Rows.stepSettlesSpec.post enc Tryz.prog Tryz.f10 false true false false):=by
 refine returnsInHanded_of_change_sized (C:=Tryz.checked) Tryz.own started (by kernel_rfl) Tryz.func10
  (ChangeSpec.witness6 (enc:=enc) (C:=Tryz.checked) false ⟨#[], #[.agg #[.slice none 0 0, .slice none 0 0, .slice none 0 0, .int .i64 0], .slice none 0 0, .slice none 0 0],[]⟩ 8 (by kernel_rfl) (by kernel_rfl) (by kernel_rfl) (by kernel_rfl)) ?_
 intro W base args ds gs before hval0 hW _ hwts _;have hval:∀(j:Nat) t v,Tryz.f10.params[j]? =some t→args[j]? =some v→Value.okWide Tryz.prog W .any base t v:=hval0;have hW':=hW;obtain ⟨p,qv,hA0,hV,rfl,hfz,hnd⟩:=hW;have hA:DataW.TrodAll enc Tryz.prog W 0 (fun _=>true) true Tryz.f10.params.toList args.toList ds p:=hA0;rw [Tryz.params10] at hA hval hwts;obtain ⟨v0,v1,v2,d0,d1,d2,p0,p1,p2,hargs,rfl,hp,h0,h1,h2⟩:=trodAll_three hA;obtain ⟨rfl,rfl⟩:=trodVars_none hV;have hargs':args= #[v0,v1,v2]:=by rw [←hargs]
 subst hargs';have hwt:=fun k hk=>of_decide_eq_true (List.all_eq_true.1 hwts k hk);obtain ⟨x0,r0,ok0⟩:=zJ9 Tryz.underlying32 zJJ (hval 0 32 v0 rfl rfl) h0 (fun k hk=>hwt k (DataW.weights_mem_each (j:=0) rfl rfl k hk));obtain ⟨x1,r1,ok1⟩:=zHe Tryz.underlying73 zEd (hval 1 73 v1 rfl rfl) h1 (fun k hk=>hwt k (DataW.weights_mem_each (j:=1) rfl rfl k hk));obtain ⟨x2,r2,ok2⟩:=zHe Tryz.underlying73 zEd (hval 2 73 v2 rfl rfl) h2 (fun k hk=>hwt k (DataW.weights_mem_each (j:=2) rfl rfl k hk));simp only [List.append_nil] at hW';have hlt:∀x∈p,x.block<W.heap.size:=fun x hx=>hW'.lt x hx;have wide:∀{sh:Bool} {t:RT} {x:t.ty} {v:Value},zFb W (lt W.heap.size) t x v→zFb W (fun y=>y<W.heap.size∧(sh=true→lt W.heap.size y)) t x v:=fun ⟨us,h,e⟩=>⟨us,h.keep (fun _ hb=>⟨hb,fun _=>hb⟩) (fun _ _ _=>rfl),e⟩;have hlaw:=ztt ok0 (zzD ok1.1 (by decide)) (zzD ok2.1 (by decide))
 have hb:(zgk x0 x1 x2).1=true:=congrArg Prod.fst hlaw.2;refine (zoY.2 W (lt W.heap.size) (x0,x1,x2,()) [v0,v1,v2] (fun _ h=>h) ⟨v0,[v1,v2],rfl,wide r0,v1,[v2],rfl,wide r1,v2,[],rfl,wide r2,rfl⟩ hlaw.1).mono fun e' W' ⟨u,S',G,he',hbl,_,_,us,⟨hu1,_,_,_,hu2⟩,hu3⟩=>?_;obtain ⟨u0,hu4,hu5⟩:=hu2 0 _ rfl;cases hu5;have hu6:u= .bool true:=by
  rw [hu3];cases us with
  |nil=>cases hu4
  |cons a us=>rw [show ziH RT.bool (a::us)=a from rfl];exact (zM8 hu4).trans (congrArg Value.bool hb)
 subst he' hu6 hp;exact ⟨_,rfl,zBg (pa:=p0++(p1++p2)) (pv:=[]) hW' (fun _ _ _=>trodAll_mk1 (shut_bool Tryz.underlying4 true))
  (fun sp hsp=>trodAll_mk3 (WideElems.Trod_stays Tryz.laidOut (by kernel_rfl) (of_decide_eq_true (by kernel_rfl)) h0 (fun x hx=>hbl.same (hlt x (by simp [hx]))) (fun x hx=>hsp x (by simp [hx]))) (WideElems.Trod_stays Tryz.laidOut (by kernel_rfl) (of_decide_eq_true (by kernel_rfl)) h1 (fun x hx=>hbl.same (hlt x (by simp [hx]))) (fun x hx=>hsp x (by simp [hx]))) (WideElems.Trod_stays Tryz.laidOut (by kernel_rfl) (of_decide_eq_true (by kernel_rfl)) h2 (fun x hx=>hbl.same (hlt x (by simp [hx]))) (fun x hx=>hsp x (by simp [hx]))))
  (fun _ _=>rfl) (by simp) hbl (ok_one (by kernel_rfl) rfl (okWide_bool_mk Tryz.underlying4 true))⟩
theorem zI1 {a b:Bool} (h:a=true) (g:b=true):(a&&b)=true:=by rw [h,g];rfl
set_option maxRecDepth 100000 in
set_option maxHeartbeats 8000000 in
theorem stepSettles_closed:joinedFacts Tryz.pinned.checked.prog 10 Tryz.f10 Rows.stepSettlesSpec Rows.stepSettlesRow=true:=by
 unfold joinedFacts
 repeat' with_reducible refine zI1 ?_ ?_
 all_goals as_aux_lemma=>kernel_rfl
set_option maxHeartbeats 8000000 in
theorem zm9:Tryz.pinned.checked.prog.funcNamed Rows.stepSettlesRow.func=some 10:=by kernel_rfl
set_option maxHeartbeats 8000000 in
theorem stepSettles_holds:Rows.StepSettlesSaid:=
 OpenClaim.holds_of_wide 10 Tryz.f10 rfl rfl rfl rfl rfl rfl rfl ⟨rfl,rfl,rfl,rfl,rfl⟩ rfl rfl rfl rfl rfl zm9 Tryz.func10 stepSettles_closed
  (of_decide_eq_true (by kernel_rfl)) (by unfold Func.isWrapper;rw [if_neg (of_decide_eq_false (by kernel_rfl))];exact ⟨rfl,rfl⟩)
  (fun os started H enc _=>zlS os started H enc)
#print axioms stepSettles_holds
end Go.Proofs.YtiepllpgifnloaaGreat

/- For any program and any machine of bulk at most 1048576 together, Valid of the program and of the reference agree: StepValid returns true. -/
import Derived.Test.YtiepllpgifnloaaGreatRows
import Derived.Test.YtiepllpgifnloaaGreatVE
import Derived.Test.YtiepllpgifnloaaGreatV4
import Derived.WalkKit
import Derived.ProofKit
import Derived.OpenShut
import Derived.JoinedCond
namespace Go.Proofs.YtiepllpgifnloaaGreat.Px
open Go Go.Proofs.YtiepllpgifnloaaGreat.Vx Go.Proofs Go.Proofs.YtiepllpgifnloaaGreat
open Go.RowKit Go.ChangeShapes Go.WideShapes Go.ChangeAt
theorem uptoAll_mem {H : Type} : ∀ {xs : List (DataW H)} {d : DataW H}, d ∈ xs → Rows.uptoBulk d ≤ Rows.uptoBulkAll xs
  | x :: xs, d, h => by
    simp only [Rows.uptoBulkAll]
    rcases List.mem_cons.1 h with rfl | h
    · omega
    · have := uptoAll_mem h; omega
theorem upto_pos {H : Type} (d : DataW H) : 1 ≤ Rows.uptoBulk d := by
  cases d with
  | lit l => cases l <;> simp [Rows.uptoBulk]
  | _ => simp [Rows.uptoBulk]
theorem uptoAll_len {H : Type} : ∀ {xs : List (DataW H)}, xs.length ≤ Rows.uptoBulkAll xs
  | [] => Nat.zero_le _
  | x :: xs => by
    simp only [Rows.uptoBulkAll, List.length_cons]
    have := uptoAll_len (xs := xs)
    have := upto_pos x
    omega
def blk : Bulk where
  f := Rows.uptoBulk
  agg h := by simp only [Rows.uptoBulk]; have := uptoAll_mem h; omega
  sl h := by simp only [Rows.uptoBulk]; have := uptoAll_mem h; omega
  len {_ xs _} := by simp only [Rows.uptoBulk]; have := uptoAll_len (xs := xs); omega
theorem forall_nil {α : Type} {p : α → Prop} : ∀ x ∈ ([] : List α), p x := fun _ h => nomatch h
theorem forall_cons {α : Type} {p : α → Prop} {a : α} {l : List α} (h : p a) (t : ∀ x ∈ l, p x) : ∀ x ∈ a :: l, p x := List.forall_mem_cons.2 ⟨h, t⟩
def okOb (o : Ob) : Prop := o.senders.length ≤ 1048576 ∧ o.receivers.length ≤ 1048576
theorem rd_int : RdB blk 1048576 (.int .i64) (fun _ => True) Tryz.prog 3 := rdB_int Tryz.underlying3
theorem rd_bool : RdB blk 1048576 .bool (fun _ => True) Tryz.prog 4 := rdB_bool Tryz.underlying4
theorem rd_str : RdB blk 1048576 .str (fun _ => True) Tryz.prog 9 := rdB_str Tryz.underlying9
theorem rd_val : RdB blk 1048576 (.st .val) (fun _ => True) Tryz.prog 68 :=
  rdB_struct (t := .st .val) [⟨.int .i64, fun _ => True, 3⟩, ⟨.int .i64, fun _ => True, 3⟩, ⟨.int .i64, fun _ => True, 3⟩] (fun x => (⟨x.1, x.2.1, x.2.2.1⟩ : Val)) Tryz.underlying68 (by kernel_rfl) (by kernel_rfl) (fun _ => rfl) (fun _ _ => trivial) (forall_cons rd_int (forall_cons rd_int (forall_cons rd_int forall_nil)))
theorem rd_vals : RdB blk 1048576 (.list (.st .val)) (okL 1048576 (fun _ => True)) Tryz.prog 73 := rdB_list Tryz.underlying73 (by kernel_rfl) (by decide) rd_val
theorem rd_wtr : RdB blk 1048576 (.st .wtr) (fun _ => True) Tryz.prog 156 :=
  rdB_struct (t := .st .wtr) [⟨.int .i64, fun _ => True, 3⟩, ⟨.int .i64, fun _ => True, 3⟩, ⟨.st .val, fun _ => True, 68⟩] (fun x => (⟨x.1, x.2.1, x.2.2.1⟩ : Wtr)) Tryz.underlying156 (by kernel_rfl) (by kernel_rfl) (fun _ => rfl) (fun _ _ => trivial) (forall_cons rd_int (forall_cons rd_int (forall_cons rd_val forall_nil)))
theorem rd_wtrs : RdB blk 1048576 (.list (.st .wtr)) (okL 1048576 (fun _ => True)) Tryz.prog 78 := rdB_list Tryz.underlying78 (by kernel_rfl) (by decide) rd_wtr
theorem rd_ob : RdB blk 1048576 (.st .ob) (okOb) Tryz.prog 80 :=
  rdB_struct (t := .st .ob) [⟨.int .i64, fun _ => True, 3⟩, ⟨.list (.st .val), okL 1048576 (fun _ => True), 73⟩, ⟨.bool, fun _ => True, 4⟩, ⟨.int .i64, fun _ => True, 3⟩, ⟨.list (.st .val), okL 1048576 (fun _ => True), 73⟩, ⟨.bool, fun _ => True, 4⟩, ⟨.int .i64, fun _ => True, 3⟩, ⟨.int .i64, fun _ => True, 3⟩, ⟨.list (.st .wtr), okL 1048576 (fun _ => True), 78⟩, ⟨.list (.st .wtr), okL 1048576 (fun _ => True), 78⟩] (fun x => (⟨x.1, x.2.1, x.2.2.1, x.2.2.2.1, x.2.2.2.2.1, x.2.2.2.2.2.1, x.2.2.2.2.2.2.1, x.2.2.2.2.2.2.2.1, x.2.2.2.2.2.2.2.2.1, x.2.2.2.2.2.2.2.2.2.1⟩ : Ob)) Tryz.underlying80 (by kernel_rfl) (by kernel_rfl) (fun _ => rfl) (fun _ h => ⟨h.2.2.2.2.2.2.2.2.1.1, h.2.2.2.2.2.2.2.2.2.1.1⟩) (forall_cons rd_int (forall_cons rd_vals (forall_cons rd_bool (forall_cons rd_int (forall_cons rd_vals (forall_cons rd_bool (forall_cons rd_int (forall_cons rd_int (forall_cons rd_wtrs (forall_cons rd_wtrs forall_nil))))))))))
theorem rd_obs : RdB blk 1048576 (.list (.st .ob)) (okL 1048576 okOb) Tryz.prog 33 := rdB_list Tryz.underlying33 (by kernel_rfl) (by decide) rd_ob
theorem rd_ints : RdB blk 1048576 (.list (.int .i64)) (okL 1048576 (fun _ => True)) Tryz.prog 36 := rdB_list Tryz.underlying36 (by kernel_rfl) (by decide) rd_int
theorem rd_syn : RdB blk 1048576 (.st .syn) (fun _ => True) Tryz.prog 111 :=
  rdB_struct (t := .st .syn) [⟨.int .i64, fun _ => True, 3⟩, ⟨.int .i64, fun _ => True, 3⟩, ⟨.int .i64, fun _ => True, 3⟩, ⟨.int .i64, fun _ => True, 3⟩, ⟨.list (.int .i64), okL 1048576 (fun _ => True), 36⟩, ⟨.int .i64, fun _ => True, 3⟩] (fun x => (⟨x.1, x.2.1, x.2.2.1, x.2.2.2.1, x.2.2.2.2.1, x.2.2.2.2.2.1⟩ : Syn)) Tryz.underlying111 (by kernel_rfl) (by kernel_rfl) (fun _ => rfl) (fun _ _ => trivial) (forall_cons rd_int (forall_cons rd_int (forall_cons rd_int (forall_cons rd_int (forall_cons rd_ints (forall_cons rd_int forall_nil))))))
theorem rd_syns : RdB blk 1048576 (.list (.st .syn)) (okL 1048576 (fun _ => True)) Tryz.prog 34 := rdB_list Tryz.underlying34 (by kernel_rfl) (by decide) rd_syn
theorem rd_dfr : RdB blk 1048576 (.st .dfr) (fun _ => True) Tryz.prog 165 :=
  rdB_struct (t := .st .dfr) [⟨.int .i64, fun _ => True, 3⟩, ⟨.list (.st .val), okL 1048576 (fun _ => True), 73⟩] (fun x => (⟨x.1, x.2.1⟩ : Dfr)) Tryz.underlying165 (by kernel_rfl) (by kernel_rfl) (fun _ => rfl) (fun _ _ => trivial) (forall_cons rd_int (forall_cons rd_vals forall_nil))
theorem rd_dfrs : RdB blk 1048576 (.list (.st .dfr)) (okL 1048576 (fun _ => True)) Tryz.prog 132 := rdB_list Tryz.underlying132 (by kernel_rfl) (by decide) rd_dfr
theorem rd_frm : RdB blk 1048576 (.st .frm) (fun _ => True) Tryz.prog 134 :=
  rdB_struct (t := .st .frm) [⟨.int .i64, fun _ => True, 3⟩, ⟨.int .i64, fun _ => True, 3⟩, ⟨.list (.st .val), okL 1048576 (fun _ => True), 73⟩, ⟨.int .i64, fun _ => True, 3⟩, ⟨.list (.st .dfr), okL 1048576 (fun _ => True), 132⟩, ⟨.bool, fun _ => True, 4⟩, ⟨.st .val, fun _ => True, 68⟩] (fun x => (⟨x.1, x.2.1, x.2.2.1, x.2.2.2.1, x.2.2.2.2.1, x.2.2.2.2.2.1, x.2.2.2.2.2.2.1⟩ : Frm)) Tryz.underlying134 (by kernel_rfl) (by kernel_rfl) (fun _ => rfl) (fun _ _ => trivial) (forall_cons rd_int (forall_cons rd_int (forall_cons rd_vals (forall_cons rd_int (forall_cons rd_dfrs (forall_cons rd_bool (forall_cons rd_val forall_nil)))))))
theorem rd_frms : RdB blk 1048576 (.list (.st .frm)) (okL 1048576 (fun _ => True)) Tryz.prog 61 := rdB_list Tryz.underlying61 (by kernel_rfl) (by decide) rd_frm
theorem rd_gor : RdB blk 1048576 (.st .gor) (fun _ => True) Tryz.prog 63 :=
  rdB_struct (t := .st .gor) [⟨.int .i64, fun _ => True, 3⟩, ⟨.int .i64, fun _ => True, 3⟩, ⟨.int .i64, fun _ => True, 3⟩, ⟨.list (.st .frm), okL 1048576 (fun _ => True), 61⟩] (fun x => (⟨x.1, x.2.1, x.2.2.1, x.2.2.2.1⟩ : Gor)) Tryz.underlying63 (by kernel_rfl) (by kernel_rfl) (fun _ => rfl) (fun _ _ => trivial) (forall_cons rd_int (forall_cons rd_int (forall_cons rd_int (forall_cons rd_frms forall_nil))))
theorem rd_gors : RdB blk 1048576 (.list (.st .gor)) (okL 1048576 (fun _ => True)) Tryz.prog 35 := rdB_list Tryz.underlying35 (by kernel_rfl) (by decide) rd_gor
theorem rd_mac : RdB blk 1048576 (.st .mac) (fun m => ∀ o ∈ m.objects, okOb o) Tryz.prog 38 :=
  rdB_struct (t := .st .mac) [⟨.list (.st .ob), okL 1048576 okOb, 33⟩, ⟨.list (.st .syn), okL 1048576 (fun _ => True), 34⟩, ⟨.list (.st .gor), okL 1048576 (fun _ => True), 35⟩, ⟨.list (.int .i64), okL 1048576 (fun _ => True), 36⟩] (fun x => (⟨x.1, x.2.1, x.2.2.1, x.2.2.2.1⟩ : Mac)) Tryz.underlying38 (by kernel_rfl) (by kernel_rfl) (fun _ => rfl) (fun _ h => h.1.2) (forall_cons rd_obs (forall_cons rd_syns (forall_cons rd_gors (forall_cons rd_ints forall_nil))))
theorem rd_ins : RdB blk 1048576 (.st .ins) (fun _ => True) Tryz.prog 89 :=
  rdB_struct (t := .st .ins) [⟨.int .i64, fun _ => True, 3⟩, ⟨.int .i64, fun _ => True, 3⟩, ⟨.int .i64, fun _ => True, 3⟩, ⟨.int .i64, fun _ => True, 3⟩, ⟨.int .i64, fun _ => True, 3⟩] (fun x => (⟨x.1, x.2.1, x.2.2.1, x.2.2.2.1, x.2.2.2.2.1⟩ : Ins)) Tryz.underlying89 (by kernel_rfl) (by kernel_rfl) (fun _ => rfl) (fun _ _ => trivial) (forall_cons rd_int (forall_cons rd_int (forall_cons rd_int (forall_cons rd_int (forall_cons rd_int forall_nil)))))
theorem rd_inss : RdB blk 1048576 (.list (.st .ins)) (okL 1048576 (fun _ => True)) Tryz.prog 97 := rdB_list Tryz.underlying97 (by kernel_rfl) (by decide) rd_ins
theorem rd_fnc : RdB blk 1048576 (.st .fnc) (fun _ => True) Tryz.prog 100 :=
  rdB_struct (t := .st .fnc) [⟨.str, fun _ => True, 9⟩, ⟨.int .i64, fun _ => True, 3⟩, ⟨.int .i64, fun _ => True, 3⟩, ⟨.list (.st .ins), okL 1048576 (fun _ => True), 97⟩] (fun x => (⟨x.1, x.2.1, x.2.2.1, x.2.2.2.1⟩ : Fnc)) Tryz.underlying100 (by kernel_rfl) (by kernel_rfl) (fun _ => rfl) (fun _ _ => trivial) (forall_cons rd_str (forall_cons rd_int (forall_cons rd_int (forall_cons rd_inss forall_nil))))
theorem rd_fncs : RdB blk 1048576 (.list (.st .fnc)) (okL 1048576 (fun _ => True)) Tryz.prog 28 := rdB_list Tryz.underlying28 (by kernel_rfl) (by decide) rd_fnc
theorem rd_glb : RdB blk 1048576 (.st .glb) (fun _ => True) Tryz.prog 96 :=
  rdB_struct (t := .st .glb) [⟨.str, fun _ => True, 9⟩, ⟨.int .i64, fun _ => True, 3⟩] (fun x => (⟨x.1, x.2.1⟩ : Glb)) Tryz.underlying96 (by kernel_rfl) (by kernel_rfl) (fun _ => rfl) (fun _ _ => trivial) (forall_cons rd_str (forall_cons rd_int forall_nil))
theorem rd_glbs : RdB blk 1048576 (.list (.st .glb)) (okL 1048576 (fun _ => True)) Tryz.prog 29 := rdB_list Tryz.underlying29 (by kernel_rfl) (by decide) rd_glb
theorem rd_lays : RdB blk 1048576 (.list (.list (.int .i64))) (okL 1048576 (okL 1048576 (fun _ => True))) Tryz.prog 30 := rdB_list Tryz.underlying30 (by kernel_rfl) (by decide) rd_ints
theorem rd_prg : RdB blk 1048576 (.st .prg) (fun _ => True) Tryz.prog 32 :=
  rdB_struct (t := .st .prg) [⟨.list (.st .fnc), okL 1048576 (fun _ => True), 28⟩, ⟨.list (.st .glb), okL 1048576 (fun _ => True), 29⟩, ⟨.list (.list (.int .i64)), okL 1048576 (okL 1048576 (fun _ => True)), 30⟩, ⟨.int .i64, fun _ => True, 3⟩] (fun x => (⟨x.1, x.2.1, x.2.2.1, x.2.2.2.1⟩ : Prg)) Tryz.underlying32 (by kernel_rfl) (by kernel_rfl) (fun _ => rfl) (fun _ _ => trivial) (forall_cons rd_fncs (forall_cons rd_glbs (forall_cons rd_lays (forall_cons rd_int forall_nil))))
set_option maxRecDepth 100000 in
/-- An argument of struct type that can be read. -/
theorem val_of {n : SN} {ok : n.ty → Prop} {ty : TypeId} {fs : Array Field} (ht : Tryz.prog.underlying ty = some (.struct fs)) (hr : RdB blk 1048576 (.st n) ok Tryz.prog ty) {H : Type} {enc : TypeId × Value → H} {w : World} {base : Nat} {spare : Nat → Bool} {held : Bool} {b0 : Nat} {v : Value} {d : DataW H} {ps : List MemPlace}
    (hv : Value.okWide Tryz.prog w .any b0 ty v) (h : DataW.Trod enc Tryz.prog w base spare held ty v d ps) (hb : Rows.uptoBulk d ≤ 1048576) : ∃ x : n.ty, ValR w (lt w.heap.size) (.st n) x v ∧ ok x := by
  obtain ⟨cs, rfl, _⟩ := okWide_struct (P := Tryz.prog) ht hv
  obtain ⟨fuel, hf⟩ := h
  have hb' : blk.f (d, ps).1 ≤ 1048576 := hb
  obtain ⟨x, hx, hok⟩ := hr H enc w base spare held fuel (Value.agg cs).cells.toList (d, ps) hf hb'
  exact ⟨x, ⟨_, hx, (congrArg Value.agg (Array.toArray_toList (xs := cs))).symm⟩, hok⟩
section
variable {H : Type} {enc : TypeId × Value → H} {P : Program}
/-- The row's post, where what was there when the call began is as it was: the results, the arguments and the variables read as the specification says. -/
theorem post_below {f : Func} {s : ChangeSpec} {apart fresh handsOn again : Bool} {W W' : World} {args : Array Value} {v : Value} {ds gs : List (DataW H)} {before pa pv : List MemPlace}
    (hW : DataW.Whole enc P f.params.toList s.vars apart W args.toList ds gs before)
    (hres : ∀ (b : Nat) (sp : Nat → Bool) (hd : Bool), DataW.TrodAll enc P W' b sp hd f.resultTypes.toList (v.resultList f.resultTypes.size) (s.fn H (ds ++ gs)).results [])
    (hargs : ∀ sp : Nat → Bool, (∀ p ∈ before, sp p.block = true) → DataW.TrodAll enc P W' 0 sp true f.params.toList args.toList (s.fn H (ds ++ gs)).args pa)
    (hvars : ∀ sp : Nat → Bool, (∀ p ∈ before, sp p.block = true) → DataW.TrodVars enc P W' sp s.vars (s.fn H (ds ++ gs)).vars pv)
    (hps : before = pa ++ pv) (hb : Below W.heap.size W W')
    (hok : ∀ (j : Nat) (t : TypeId) (r : Value), f.resultTypes[j]? = some t → (v.resultList f.resultTypes.size)[j]? = some r → Value.okWide P W' .any 0 t r) :
    s.post enc P f apart fresh handsOn again W args v W' := by
  have hlt : ∀ p ∈ before, p.block < W.heap.size := fun p hp => hW.lt p hp
  have hold : ∀ p ∈ before, (fun b => decide (b < W.heap.size)) p.block = true := fun p hp => by simpa using hlt p hp
  refine ⟨ds, gs, before, [], pa, pv, hW, hres _ _ _, hargs _ hold, hvars _ hold, World.keptBut_mono (fun p hp => ⟨hp, ?_⟩) (hb.frame (· ∈ before)), fun _ => ?_⟩
  · rw [hps, List.mem_append] at hp
    exact Or.inr hp
  · obtain ⟨_, _, _, _, _, hz, hn⟩ := hW
    refine ⟨hok, _, _, ([] ++ pa) ++ pv, ⟨[] ++ pa, pv, trodAll_append (hargs _ (fun _ _ => rfl)) (hres _ _ _), hvars _ (fun _ _ => rfl), rfl, ?_, ?_⟩, ?_⟩
    · intro b off hp
      have hin : MemPlace.cell b off ∈ before := by rw [hps]; simpa using hp
      rw [hb.frozen (hlt _ hin)]
      exact hz b off hin
    · intro ha
      have := hn ha
      rw [hps] at this
      simpa using this
    · intro p hp _
      rw [hps]
      simpa using hp
end
end Go.Proofs.YtiepllpgifnloaaGreat.Px
namespace Go.Proofs.YtiepllpgifnloaaGreat
open Go Go.Proofs.YtiepllpgifnloaaGreat.Vx Go.Proofs.YtiepllpgifnloaaGreat.Px
open Go.RowKit Go.ChangeShapes Go.WideShapes Go.ChangeAt
theorem Tryz.own : ownKnob Tryz.prog.godebug = none := by kernel_rfl
theorem Tryz.laidOut : laidOutB Tryz.prog = true := by kernel_rfl
set_option maxRecDepth 100000 in
theorem stepValid_lifted (os : Os) (started : os.Started) (H : Type) (enc : TypeId × Value → H) (F : Stop.Interp) :
    ReturnsInHanded {} Tryz.checked os 6 .any ((Rows.OpenSpec.upto Rows.stepValidSpec).pre6 enc Tryz.prog Tryz.f6 Rows.stepValidUptoRow.domain false) (((Rows.OpenSpec.upto Rows.stepValidSpec).at F).post enc Tryz.prog Tryz.f6 false true false false) := by
  refine returnsInHanded_of_cond (C := Tryz.checked) (s := Rows.OpenSpec.upto Rows.stepValidSpec) (k := Rows.uptoSmall) rfl Tryz.own started (by kernel_rfl) Tryz.func6
    (OpenSpec.witness (enc := enc) (C := Tryz.checked) (s := Rows.OpenSpec.upto Rows.stepValidSpec) (k := Rows.uptoSmall) rfl false ⟨#[], #[.agg #[.slice none 0 0, .slice none 0 0, .slice none 0 0, .int .i64 0], .agg #[.slice none 0 0, .slice none 0 0, .slice none 0 0, .slice none 0 0]], []⟩ 8 (by kernel_rfl) (by kernel_rfl) (by kernel_rfl)
      (x := ([.agg [.nil, .nil, .nil, .lit (.int .i64 0)], .agg [.nil, .nil, .nil, .nil]], [], [])) (by kernel_rfl) rfl (by kernel_rfl)) ?_
  intro W base args ds gs before hval0 hW _ hk _
  have hval : ∀ (j : Nat) t v, Tryz.f6.params[j]? = some t → args[j]? = some v → Value.okWide Tryz.prog W .any base t v := hval0
  have hW' := hW
  obtain ⟨p, q, hA0, hV, rfl, hfz, hnd⟩ := hW
  have hA : DataW.TrodAll enc Tryz.prog W 0 (fun _ => true) true Tryz.f6.params.toList args.toList ds p := hA0
  rw [Tryz.params6] at hA hval
  obtain ⟨v0, v1, d0, d1, p0, p1, hargs, rfl, hp, h0, h1⟩ := trodAll_two hA
  obtain ⟨rfl, rfl⟩ := trodVars_none hV
  have hargs' : args = #[v0, v1] := by rw [← hargs]
  subst hargs'
  have hk : Rows.uptoBulkAll ([d0, d1] ++ []) ≤ 1048576 := of_decide_eq_true hk
  simp only [List.append_nil, Rows.uptoBulkAll] at hk
  obtain ⟨x0, r0, -⟩ := val_of Tryz.underlying32 rd_prg (hval 0 32 v0 rfl rfl) h0 (by omega)
  obtain ⟨x1, r1, ok1⟩ := val_of Tryz.underlying38 rd_mac (hval 1 38 v1 rfl rfl) h1 (by omega)
  simp only [List.append_nil] at hW'
  have hlt : ∀ x ∈ p, x.block < W.heap.size := fun x hx => hW'.lt x hx
  have wide : ∀ {n : SN} {x : n.ty} {v : Value}, ValR W (lt W.heap.size) (.st n) x v → ValR W (fun y => y < W.heap.size ∧ (false = true → False)) (.st n) x v := fun ⟨us, h, e⟩ => ⟨us, h.keep (fun _ hb => ⟨hb, fun h => nomatch h⟩) (fun _ _ _ => rfl), e⟩
  refine (law_spec.2 W (fun _ => False) (x0, x1, ()) [v0, v1] (fun _ h => h.elim) ⟨v0, [v1], rfl, wide r0, v1, [], rfl, wide r1, rfl⟩ (fun o ho => ?_)).mono fun e' W' ⟨u, S', G, he', hbl, _, _, us, ⟨hu1, _, _, _, hu2⟩, hu3⟩ => ?_
  · obtain ⟨h1, h2⟩ := ok1 o ho
    show (o.senders.length + o.receivers.length) * 40 ≤ 140737488355328
    omega
  obtain ⟨u0, hu4, hu5⟩ := hu2 0 _ rfl
  cases hu5
  have hu6 : u = .bool true := by
    rw [hu3]
    cases us with
    | nil => cases hu4
    | cons a us => simpa [mkVal] using hu4
  subst he' hu6 hp
  exact ⟨_, rfl, post_below (pa := p0 ++ p1) (pv := []) hW' (fun _ _ _ => trodAll_mk1 (shut_bool Tryz.underlying4 true))
    (fun sp hsp => trodAll_mk2 (WideElems.Trod_stays Tryz.laidOut (by kernel_rfl) (of_decide_eq_true (by kernel_rfl)) h0 (fun x hx => hbl.same (hlt x (by simp [hx]))) (fun x hx => hsp x (by simp [hx])))
      (WideElems.Trod_stays Tryz.laidOut (by kernel_rfl) (of_decide_eq_true (by kernel_rfl)) h1 (fun x hx => hbl.same (hlt x (by simp [hx]))) (fun x hx => hsp x (by simp [hx]))))
    (fun _ _ => rfl) (by simp) hbl (ok_one (by kernel_rfl) rfl (okWide_bool_mk Tryz.underlying4 true))⟩
theorem and_of {a b : Bool} (h : a = true) (g : b = true) : (a && b) = true := by rw [h, g]; rfl
set_option maxRecDepth 100000 in
set_option maxHeartbeats 8000000 in
theorem stepValid_closed : joinedFacts Tryz.pinned.checked.prog 6 Tryz.f6 (Rows.OpenSpec.upto Rows.stepValidSpec).bare Rows.stepValidUptoRow = true := by
  unfold joinedFacts
  repeat' with_reducible refine and_of ?_ ?_
  all_goals as_aux_lemma => kernel_rfl
set_option maxHeartbeats 8000000 in
theorem stepValid_named : Tryz.pinned.checked.prog.funcNamed Rows.stepValidUptoRow.func = some 6 := by kernel_rfl
set_option maxHeartbeats 8000000 in
theorem stepValid_holds : Rows.StepValidUptoSaid :=
  OpenClaim.holds_of_cond 6 Tryz.f6 rfl rfl rfl rfl rfl rfl rfl ⟨rfl, rfl, rfl, rfl, rfl⟩ rfl rfl rfl rfl rfl stepValid_named Tryz.func6 stepValid_closed
    (of_decide_eq_true (by kernel_rfl)) (by unfold Func.isWrapper; rw [if_neg (of_decide_eq_false (by kernel_rfl))]; exact ⟨rfl, rfl⟩)
    (fun os started H enc _ F => stepValid_lifted os started H enc F)
#print axioms stepValid_holds
end Go.Proofs.YtiepllpgifnloaaGreat

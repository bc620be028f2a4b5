/- For any two outcomes with at most 20 numbers in each list, Text of the program is that of the reference, and texts are equal if and only if the outcomes are: OutcomeTexts returns true. No condition beside the row's own: the listed package-level tables are as the program's text lays them (tied by the card). -/
import Derived.Test.YtojddklogigihaaGreatDoorO17
import Derived.Stop.LaidErr
import Derived.Test.YtojddklogigihaaGreatDoorTie
import Derived.Test.YtojddklogigihaaGreatDoorCards
namespace Go.Proofs.YtojddklogigihaaGreatDoor
open Go.RowKit Go.ChangeShapes Go.WideShapes Go.Deep

/-! ### Outcomes that can be read hold numbers of 64 bits -/
def I64 := { n : Int // in64 n }
instance : Rep I64 where
  size := 1
  cells _ _ x vs := vs = [.int .i64 x.1]
  len h := by subst h; rfl
  keep _ h := h
  mono _ h := h
theorem rd_i64 {P : Program} {t : TypeId} (ht : P.underlying t = some (.int .i64)) : Reads I64 P t := by
  intro H enc w base spare held fuel cs x h
  obtain ⟨n, rfl, _, hw⟩ := DataW.trod_int ht h
  refine ⟨⟨n, ?_⟩, rfl⟩
  simp only [Lit.wf, Bool.and_eq_true, decide_eq_true_eq] at hw
  exact hw
theorem sl_i64 {w : World} {F : Nat → Prop} {A : Option Addr} {n : Nat} {xs : List I64} (h : Sl w F A n xs) : Sl w F A n (xs.map (·.1)) := by
  refine ⟨by rw [List.length_map]; exact h.1, fun hn => ?_⟩
  obtain ⟨b, o, e, hb, hc⟩ := h.2 hn
  refine ⟨b, o, e, hb, fun i x hx => ?_⟩
  rw [List.getElem?_map] at hx
  cases hy : xs[i]? with
  | none => rw [hy] at hx; cases hx
  | some y =>
    rw [hy] at hx
    cases hx
    exact hc i y hy
set_option maxRecDepth 100000 in
theorem rd_i64s : Reads (List I64) Tryz.prog 22 := rd_slice (P := Tryz.prog) Tryz.underlying22 (by kernel_rfl) (by decide) (rd_i64 (P := Tryz.prog) (t := 3) Tryz.underlying3)
set_option maxRecDepth 100000 in
theorem rd_outcB {H : Type} {enc : TypeId × Value → H} {w : World} {base : Nat} {spare : Nat → Bool} {held : Bool} {fuel : Nat} {cs : List Value} {x : DataW H × List MemPlace}
    (h : DataW.trod enc Tryz.prog w base spare held fuel 24 cs = some x) : ∃ a : Outc, Rep.cells w (lt w.heap.size) a cs ∧ okO a := by
  obtain ⟨xs, n, rfl, rfl, hcl, hxl, hf⟩ := DataW.trod_struct Tryz.underlying24 h
  have hcl' : cs.length = 3 := hcl
  have hxl' : xs.length = 3 := hxl
  match cs, hcl' with
  | [c0, c1, c2], _ =>
    obtain ⟨y0, e0, k0⟩ := some_of hxl' (by omega) (hf 0 _ rfl)
    obtain ⟨y1, e1, k1⟩ := some_of hxl' (by omega) (hf 1 _ rfl)
    obtain ⟨y2, e2, k2⟩ := some_of hxl' (by omega) (hf 2 _ rfl)
    obtain ⟨l, hl⟩ := rd_i64s H enc w base spare held n [c0] _ e0
    obtain ⟨g, hg⟩ := rd_i64s H enc w base spare held n [c1] _ e1
    obtain ⟨b, hb⟩ := rd_bool (P := Tryz.prog) (t := 4) Tryz.underlying4 H enc w base spare held n [c2] _ e2
    obtain ⟨A, p, c, h2', hp, hc, sg⟩ : ∃ A p c, [c0] = [Value.slice A p c] ∧ p ≤ c ∧ c ≤ maxLen ∧ Sl w (lt w.heap.size) A p l := hl
    obtain ⟨T, r, d, h3', hr, hd, st⟩ : ∃ A p c, [c1] = [Value.slice A p c] ∧ p ≤ c ∧ c ≤ maxLen ∧ Sl w (lt w.heap.size) A p g := hg
    have h4' : [c2] = [Value.bool b] := hb
    simp only [List.cons.injEq, and_true] at h2' h3' h4'
    subst h2' h3' h4'
    refine ⟨⟨l.map (·.1), g.map (·.1), b⟩, ⟨A, p, c, T, r, d, rfl, hp, hc, hr, hd, sl_i64 sg, sl_i64 st⟩, fun x hx => ?_, fun x hx => ?_⟩
    · obtain ⟨y, _, rfl⟩ := List.mem_map.1 hx
      exact y.2
    · obtain ⟨y, _, rfl⟩ := List.mem_map.1 hx
      exact y.2
set_option maxRecDepth 100000 in
theorem read_outcB {H : Type} {enc : TypeId × Value → H} {w : World} {base : Nat} {spare : Nat → Bool} {held : Bool} {b0 : Nat} {v : Value} {d : DataW H} {ps : List MemPlace}
    (hv : Value.okWide Tryz.prog w .any b0 24 v) (h : DataW.Trod enc Tryz.prog w base spare held 24 v d ps) :
    ∃ (q : Outc) (v0 v1 v2 : Value), v = .agg #[v0, v1, v2] ∧ Rep.cells w (lt w.heap.size) q [v0, v1, v2] ∧ okO q := by
  obtain ⟨cs, rfl, hcs⟩ := okWide_struct Tryz.underlying24 hv
  obtain ⟨fuel, hf⟩ := h
  obtain ⟨q, hq, ho⟩ := rd_outcB hf
  have hl : cs.toList.length = 3 := Rep.len hq
  match hcl : cs.toList, hl with
  | [v0, v1, v2], _ =>
    have e : (Value.agg cs).cells.toList = [v0, v1, v2] := hcl
    rw [e] at hq
    refine ⟨q, v0, v1, v2, ?_, hq, ho⟩
    rw [← Array.toArray_toList (xs := cs), hcl]

set_option maxRecDepth 100000 in
theorem tab_of_laid {W : World} (h : laidMetH Tryz.prog laid3 W) : Lib.TabIs Tryz.prog W "internal/strconv.uint64pow10" .u64 Lib.pow10Tab := by
  have h' : laidMet Tryz.prog laid3 W := h
  have h2 : laidMet Tryz.prog [("internal/strconv.uint64pow10", Lib.tabData .u64 Lib.pow10Tab)] W := laidMet.tail (laidMet.tail h')
  exact Lib.tabIs_of_head (g := 0) (t := 198) (e := 108) (n := 20) (by kernel_rfl) (by kernel_rfl) Tryz.underlying198 Tryz.underlying108 (by kernel_rfl) (by kernel_rfl) h2

set_option maxRecDepth 100000 in
theorem texts_lifted (os : Os) (started : os.Started) (H : Type) (enc : TypeId × Value → H) :
    ReturnsInHanded {} Tryz.checked os 4 .any (fun w args => (Rows.outcomeTextsSpec.pre enc Tryz.prog Tryz.f4 [] false w args ∧ laidMetH Tryz.prog laid3 w) ∧ sizedMet enc Tryz.prog Tryz.f4 (OpenSpec.ofChange Rows.outcomeTextsSpec) false w args)
      (Rows.outcomeTextsSpec.post enc Tryz.prog Tryz.f4 false true false false) := by
  refine returnsInHanded_of_change_and (C := Tryz.checked) (X := fun w _ => laidMetH Tryz.prog laid3 w) (fun _ _ _ hh h => h.of_heap hh) Tryz.own started (by kernel_rfl) Tryz.func4
    (ChangeSpec.witness_shaped (enc := enc) (C := Tryz.checked) (os := os) (X := fun w _ => laidMetH Tryz.prog laid3 w) false (World.doorLaid Tryz.prog 400 os) #[.agg #[.slice none 0 0, .slice none 0 0, .bool false], .agg #[.slice none 0 0, .slice none 0 0, .bool false]] 8 rfl (World.shaped_of_RefB (by kernel_rfl) (by kernel_rfl)) (by kernel_rfl) (by kernel_rfl) (by kernel_rfl) (door_met os _)) ?_
  intro W base args ds gs before hval0 hW hq1 hq2 hq3 hq4
  have hX : laidMetH Tryz.prog laid3 W := by assumption
  have hval : ∀ (j : Nat) t v, Tryz.f4.params[j]? = some t → args[j]? = some v → Value.okWide Tryz.prog W .any base t v := hval0
  have hW' := hW
  obtain ⟨p, q, hA0, hV, rfl, hfz, hnd⟩ := hW
  have hA : DataW.TrodAll enc Tryz.prog W 0 (fun _ => true) true Tryz.f4.params.toList args.toList ds p := hA0
  rw [Tryz.params4] at hA hval
  obtain ⟨v0, v1, d0, d1, p0, p1, hargs, rfl, hp, h0, h1⟩ := trodAll_two hA
  obtain ⟨rfl, rfl⟩ := trodVars_none hV
  have hargs' : args = #[v0, v1] := by rw [← hargs]
  subst hargs'
  obtain ⟨a, a0, a1, a2, rfl, ha, oa⟩ := read_outcB (hval 0 24 v0 rfl rfl) h0
  obtain ⟨b, b0, b1, b2, rfl, hb, ob⟩ := read_outcB (hval 1 24 v1 rfl rfl) h1
  simp only [List.append_nil] at hW'
  have hlt : ∀ x ∈ p, x.block < W.heap.size := fun x hx => hW'.lt x hx
  refine (law_texts W a b a0 a1 a2 b0 b1 b2 ha hb oa ob (Lib.tabBelow_of_tabIs (tab_of_laid hX))).mono fun e' W' ⟨he', hbl⟩ => ?_
  subst he'
  subst hp
  exact ⟨_, rfl, post_below (pa := p0 ++ p1) (pv := []) hW' (fun _ _ _ => trodAll_mk1 (shut_bool Tryz.underlying4 true))
    (fun sp hsp => trodAll_mk2 (WideElems.Trod_stays Tryz.laidOut (by kernel_rfl) (of_decide_eq_true (by kernel_rfl)) h0 (fun x hx => hbl.same (hlt x (by simp [hx]))) (fun x hx => hsp x (by simp [hx])))
      (WideElems.Trod_stays Tryz.laidOut (by kernel_rfl) (of_decide_eq_true (by kernel_rfl)) h1 (fun x hx => hbl.same (hlt x (by simp [hx]))) (fun x hx => hsp x (by simp [hx]))))
    (fun _ _ => rfl) (by simp) hbl (ok_one (by kernel_rfl) rfl (okWide_bool_mk Tryz.underlying4 true))⟩

theorem texts_row : Rows.OutcomeTextsSaid :=
  OpenClaim.holds_of_wide 4 Tryz.f4 rfl rfl rfl rfl rfl rfl rfl ⟨rfl, rfl, rfl, rfl, rfl⟩ rfl rfl rfl rfl rfl (by kernel_rfl) Tryz.func4 (by kernel_rfl)
    (of_decide_eq_true (by kernel_rfl)) (by unfold Func.isWrapper; rw [if_neg (of_decide_eq_false (by kernel_rfl))]; exact ⟨rfl, rfl⟩)
    (fun os started H enc _ => texts_lifted os started H enc)
theorem texts_holds : Rows.OutcomeTextsCardSaid :=
  Claim7.holds_tied_plain_at .later [] [.data, .data, .data] true (true, "839ba7de8918714af2b6a29fbb3ca72decd9b5bc928b36c9adface64d4794393") false
    texts_row (fun _ h => by cases h) (by kernel_rfl) (fun _ h => by cases h) outcomeTexts_row_tie rfl ⟨rfl, rfl⟩ (by kernel_rfl) rfl
    (fun f fn hf hfn => by
      obtain rfl : f = 4 := Option.some.inj ((show Tryz.prog.funcNamed "interleave/interleavelaw29.OutcomeTexts" = some 4 by kernel_rfl).symm.trans hf) |>.symm
      obtain rfl : fn = Tryz.f4 := (Option.some.inj (Tryz.func4.symm.trans hfn)).symm
      exact ⟨by kernel_rfl, fun j t ht => by
        rw [Tryz.params4] at ht
        have hm : t ∈ [24, 24] := by simpa using Array.mem_of_getElem? ht
        have hall : ([24, 24].all fun u => !Tryz.prog.wantsStandIn u) = true := by kernel_rfl
        exact (show Tryz.prog.wantsStandIn t = false by simpa using List.all_eq_true.1 hall t hm)⟩)
    (by kernel_rfl)
#print axioms texts_holds

end Go.Proofs.YtojddklogigihaaGreatDoor

/- For any two lists of outcomes, Subset of the program answers as the definition, and every list is a subset of itself: OutcomeSubset returns true. No condition beside the row's own: the listed package-level tables are as the program's text lays them (tied by the card). -/
import Derived.Test.YtojddklogigihaaGreatDoorO9
import Derived.Test.YtojddklogigihaaGreatDoorTie
import Derived.Test.YtojddklogigihaaGreatDoorCards
namespace Go.Proofs.YtojddklogigihaaGreatDoor
open Go.RowKit Go.ChangeShapes Go.WideShapes Go.Deep

set_option maxRecDepth 100000 in
theorem read_outcs {H : Type} {enc : TypeId × Value → H} {w : World} {base : Nat} {spare : Nat → Bool} {held : Bool} {b0 : Nat} {v : Value} {d : DataW H} {ps : List MemPlace}
    (hv : Value.okWide Tryz.prog w .any b0 31 v) (h : DataW.Trod enc Tryz.prog w base spare held 31 v d ps) :
    ∃ (xs : List Outc) (A : Option Addr) (n c : Nat), v = .slice A n c ∧ n ≤ maxLen ∧ Sl w (lt w.heap.size) A n xs := by
  have rd : Reads (List Outc) Tryz.prog 31 := rd_slice (P := Tryz.prog) Tryz.underlying31 (by kernel_rfl) (by decide) rd_outc
  obtain ⟨A', n', c', rfl⟩ := okWide_slice Tryz.underlying31 hv
  obtain ⟨xs, hq⟩ := rd_of rd h
  obtain ⟨A, n, c, e, h1, h2, h3⟩ : ∃ A n c, [Value.slice A' n' c'] = [.slice A n c] ∧ n ≤ c ∧ c ≤ maxLen ∧ Sl w (lt w.heap.size) A n xs := hq
  simp only [List.cons.injEq, Value.slice.injEq, and_true] at e
  obtain ⟨rfl, rfl, rfl⟩ := e
  exact ⟨xs, A', n', c', rfl, Nat.le_trans h1 h2, h3⟩

set_option maxRecDepth 100000 in
theorem subset_lifted (os : Os) (started : os.Started) (H : Type) (enc : TypeId × Value → H) :
    ReturnsInHanded {} Tryz.checked os 5 .any (fun w args => (Rows.outcomeSubsetSpec.pre enc Tryz.prog Tryz.f5 [] false w args ∧ laidMetH Tryz.prog laid3 w) ∧ sizedMet enc Tryz.prog Tryz.f5 (OpenSpec.ofChange Rows.outcomeSubsetSpec) false w args)
      (Rows.outcomeSubsetSpec.post enc Tryz.prog Tryz.f5 false true false false) := by
  refine returnsInHanded_of_change_and (C := Tryz.checked) (X := fun w _ => laidMetH Tryz.prog laid3 w) (fun _ _ _ hh h => h.of_heap hh) Tryz.own started (by kernel_rfl) Tryz.func5
    (ChangeSpec.witness_shaped (enc := enc) (C := Tryz.checked) (os := os) (X := fun w _ => laidMetH Tryz.prog laid3 w) false (World.doorLaid Tryz.prog 400 os) #[.slice none 0 0, .slice none 0 0] 8 rfl (World.shaped_of_RefB (by kernel_rfl) (by kernel_rfl)) (by kernel_rfl) (by kernel_rfl) (by kernel_rfl) (door_met os _)) ?_
  intro W base args ds gs before hval0 hW _ _ _ _
  have hval : ∀ (j : Nat) t v, Tryz.f5.params[j]? = some t → args[j]? = some v → Value.okWide Tryz.prog W .any base t v := hval0
  have hW' := hW
  obtain ⟨p, q, hA0, hV, rfl, hfz, hnd⟩ := hW
  have hA : DataW.TrodAll enc Tryz.prog W 0 (fun _ => true) true Tryz.f5.params.toList args.toList ds p := hA0
  rw [Tryz.params5] at hA hval
  obtain ⟨v0, v1, d0, d1, p0, p1, hargs, rfl, hp, h0, h1⟩ := trodAll_two hA
  obtain ⟨rfl, rfl⟩ := trodVars_none hV
  have hargs' : args = #[v0, v1] := by rw [← hargs]
  subst hargs'
  obtain ⟨xs, A, n, c, rfl, hn, hx⟩ := read_outcs (hval 0 31 v0 rfl rfl) h0
  obtain ⟨ys, A', m, d, rfl, hm, hy⟩ := read_outcs (hval 1 31 v1 rfl rfl) h1
  simp only [List.append_nil] at hW'
  have hlt : ∀ x ∈ p, x.block < W.heap.size := fun x hx => hW'.lt x hx
  refine (law_subset W n c m d A A' xs ys hx hy hn hm).mono fun e' W' ⟨he', hbl⟩ => ?_
  subst he'
  subst hp
  exact ⟨_, rfl, post_below (pa := p0 ++ p1) (pv := []) hW' (fun _ _ _ => trodAll_mk1 (shut_bool Tryz.underlying4 true))
    (fun sp hsp => trodAll_mk2 (WideElems.Trod_stays Tryz.laidOut (by kernel_rfl) (of_decide_eq_true (by kernel_rfl)) h0 (fun x hx => hbl.same (hlt x (by simp [hx]))) (fun x hx => hsp x (by simp [hx])))
      (WideElems.Trod_stays Tryz.laidOut (by kernel_rfl) (of_decide_eq_true (by kernel_rfl)) h1 (fun x hx => hbl.same (hlt x (by simp [hx]))) (fun x hx => hsp x (by simp [hx]))))
    (fun _ _ => rfl) (by simp) hbl (ok_one (by kernel_rfl) rfl (okWide_bool_mk Tryz.underlying4 true))⟩

theorem subset_row : Rows.OutcomeSubsetSaid :=
  OpenClaim.holds_of_wide 5 Tryz.f5 rfl rfl rfl rfl rfl rfl rfl ⟨rfl, rfl, rfl, rfl, rfl⟩ rfl rfl rfl rfl rfl (by kernel_rfl) Tryz.func5 (by kernel_rfl)
    (of_decide_eq_true (by kernel_rfl)) (by unfold Func.isWrapper; rw [if_neg (of_decide_eq_false (by kernel_rfl))]; exact ⟨rfl, rfl⟩)
    (fun os started H enc _ => subset_lifted os started H enc)
theorem subset_holds : Rows.OutcomeSubsetCardSaid :=
  Claim7.holds_tied_plain_at .later [] [.data, .data, .data] true (true, "839ba7de8918714af2b6a29fbb3ca72decd9b5bc928b36c9adface64d4794393") false
    subset_row (fun _ h => by cases h) (by kernel_rfl) (fun _ h => by cases h) outcomeSubset_row_tie rfl ⟨rfl, rfl⟩ (by kernel_rfl) rfl
    (fun f fn hf hfn => by
      obtain rfl : f = 5 := Option.some.inj ((show Tryz.prog.funcNamed "interleave/interleavelaw29.OutcomeSubset" = some 5 by kernel_rfl).symm.trans hf) |>.symm
      obtain rfl : fn = Tryz.f5 := (Option.some.inj (Tryz.func5.symm.trans hfn)).symm
      exact ⟨by kernel_rfl, fun j t ht => by
        rw [Tryz.params5] at ht
        have hm : t ∈ [31, 31] := by simpa using Array.mem_of_getElem? ht
        have hall : ([31, 31].all fun u => !Tryz.prog.wantsStandIn u) = true := by kernel_rfl
        exact (show Tryz.prog.wantsStandIn t = false by simpa using List.all_eq_true.1 hall t hm)⟩)
    (by kernel_rfl)
#print axioms subset_holds

end Go.Proofs.YtojddklogigihaaGreatDoor

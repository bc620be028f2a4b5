/- For every two lists of steps, Equivalent of the program agrees with the reference, in both orders, and with the equality of the least linearizations: DependEquivalentMatchesReference returns true, and its arguments read as before. No condition. -/
import Derived.Test.YtlbgmegciomofaaW18
import Derived.Test.YtlbgmegciomofaaR1
namespace Go.Proofs.Ytlbgmegciomofaa
open Go.RowKit Go.ChangeShapes Go.WideShapes Go.Deep

theorem rd_slice_val {α : Type} [Rep α] {P : Program} {t e : TypeId} (ht : P.underlying t = some (.slice e)) (hr : Rd (List α) P t) {H : Type} {enc : TypeId × Value → H} {w : World} {base : Nat} {spare : Nat → Bool} {held : Bool} {b0 : Nat} {v : Value} {d : DataW H} {ps : List MemPlace}
    (hv : Value.okWide P w .any b0 t v) (h : DataW.Trod enc P w base spare held t v d ps) : ∃ (l : List α) (A : Option Addr) (n c : Nat), v = .slice A n c ∧ n ≤ c ∧ c ≤ maxLen ∧ Sl w (lt w.heap.size) A n l := by
  obtain ⟨A, len, cap, rfl⟩ := okWide_slice ht hv
  obtain ⟨l, hl⟩ := rd_of hr h
  have hl' : Rep.cells w (lt w.heap.size) l [Value.slice A len cap] := hl
  obtain ⟨A', n', c', hcs, hn', hc', hsl⟩ : ∃ A' n' c', [Value.slice A len cap] = [.slice A' n' c'] ∧ n' ≤ c' ∧ c' ≤ maxLen ∧ Sl w (lt w.heap.size) A' n' l := hl'
  simp only [List.cons.injEq, Value.slice.injEq, and_true] at hcs
  obtain ⟨rfl, rfl, rfl⟩ := hcs
  exact ⟨l, A, len, cap, rfl, hn', hc', hsl⟩

set_option maxRecDepth 100000 in
theorem equivalent_lifted (os : Os) (started : os.Started) (H : Type) (enc : TypeId × Value → H) :
    ReturnsInHanded {} Try.checked os 5 .any (Rows.dependEquivalentMatchesReferenceSpec.pre6 enc Try.prog Try.f5 Rows.dependEquivalentMatchesReferenceRow.domain false) (Rows.dependEquivalentMatchesReferenceSpec.post enc Try.prog Try.f5 false true false false) := by
  refine returnsInHanded_of_change (C := Try.checked) Try.own started (by kernel_rfl) Try.func5
    (ChangeSpec.witness6 (enc := enc) (C := Try.checked) false ⟨#[], #[.slice none 0 0, .slice none 0 0], []⟩ 8 (by kernel_rfl) (by kernel_rfl) (by kernel_rfl) (by kernel_rfl)) ?_
  intro W base args ds gs before hval0 hW _ _
  have hval : ∀ (j : Nat) t v, Try.f5.params[j]? = some t → args[j]? = some v → Value.okWide Try.prog W .any base t v := hval0
  have hW' := hW
  obtain ⟨p, q, hA0, hV, rfl, hfz, hnd⟩ := hW
  have hA : DataW.TrodAll enc Try.prog W 0 (fun _ => true) true Try.f5.params.toList args.toList ds p := hA0
  rw [Try.params5] at hA hval
  obtain ⟨v0, v1, d0, d1, p0, p1, hargs, rfl, hp, h0, h1⟩ := trodAll_two hA
  obtain ⟨rfl, rfl⟩ := trodVars_none hV
  have hargs' : args = #[v0, v1] := by rw [← hargs]
  subst hargs'
  obtain ⟨a, A, n, c, rfl, hn, hc, ha⟩ := rd_slice_val Try.underlying30 rd_steps (hval 0 30 v0 rfl rfl) h0
  obtain ⟨b, A', m, d, rfl, hm, hd, hb⟩ := rd_slice_val Try.underlying30 rd_steps (hval 1 30 v1 rfl rfl) h1
  simp only [List.append_nil] at hW'
  have hlt : ∀ x ∈ p, x.block < W.heap.size := fun x hx => hW'.lt x hx
  refine (lawEquivalent_any W n c m d A A' a b ha hb (Nat.le_trans hn hc) (Nat.le_trans hm hd)).mono fun e W' ⟨he, hbl⟩ => ?_
  subst he
  subst hp
  exact ⟨_, rfl, post_below (pa := p0 ++ p1) (pv := []) hW' (fun _ _ _ => trodAll_mk1 (shut_bool Try.underlying4 true))
    (fun sp hsp => trodAll_mk2 (WideElems.Trod_stays Try.laidOut (by kernel_rfl) (of_decide_eq_true (by kernel_rfl)) h0 (fun x hx => hbl.same (hlt x (by simp [hx]))) (fun x hx => hsp x (by simp [hx])))
      (WideElems.Trod_stays Try.laidOut (by kernel_rfl) (of_decide_eq_true (by kernel_rfl)) h1 (fun x hx => hbl.same (hlt x (by simp [hx]))) (fun x hx => hsp x (by simp [hx]))))
    (fun _ _ => rfl) (by simp) hbl (ok_one (by kernel_rfl) rfl (okWide_bool_mk Try.underlying4 true))⟩

theorem equivalent_holds : Rows.DependEquivalentMatchesReferenceSaid :=
  OpenClaim.holds_of_wide 5 Try.f5 rfl rfl rfl rfl rfl rfl rfl ⟨rfl, rfl, rfl, rfl, rfl⟩ rfl rfl rfl rfl rfl (by kernel_rfl) Try.func5 (by kernel_rfl)
    (of_decide_eq_true (by kernel_rfl)) (by unfold Func.isWrapper; rw [if_neg (of_decide_eq_false (by kernel_rfl))]; exact ⟨rfl, rfl⟩)
    (fun os started H enc _ => equivalent_lifted os started H enc)
#print axioms equivalent_holds

end Go.Proofs.Ytlbgmegciomofaa

/- For every two steps, Dependent of the program and of the reference agree in both orders: DependentMatchesReference returns true, and its arguments read as before. No condition. -/
import Derived.Test.YtlbgmegciomofaaR1
namespace Go.Proofs.Ytlbgmegciomofaa
open Go.RowKit Go.ChangeShapes Go.WideShapes Go.Deep

theorem rd_step_agg {H : Type} {enc : TypeId × Value → H} {w : World} {base : Nat} {spare : Nat → Bool} {held : Bool} {b0 : Nat} {v : Value} {d : DataW H} {ps : List MemPlace}
    (hv : Value.okWide Try.prog w .any b0 27 v) (h : DataW.Trod enc Try.prog w base spare held 27 v d ps) :
    ∃ (s : Step) (A : Option Addr) (n k : Nat) (T : Option Addr) (m e : Nat), v = .agg #[.int .i64 s.g, .int .i64 s.case_, .slice A n k, .slice T m e] ∧ n ≤ k ∧ k ≤ maxLen ∧ m ≤ e ∧ e ≤ maxLen ∧ Sl w (lt w.heap.size) A n s.gs ∧ Sl w (lt w.heap.size) T m s.touches := by
  obtain ⟨cs, rfl, hsz⟩ := okWide_struct Try.underlying27 hv
  obtain ⟨s, hs⟩ := rd_of rd_step h
  have hs' : Rep.cells w (lt w.heap.size) s cs.toList := hs
  obtain ⟨A, n, k, T, m, e, hcs, h1, h2, h3, h4, h5, h6⟩ : ∃ A n c T m d, cs.toList = [.int .i64 s.g, .int .i64 s.case_, .slice A n c, .slice T m d] ∧ n ≤ c ∧ c ≤ maxLen ∧ m ≤ d ∧ d ≤ maxLen ∧ Sl w (lt w.heap.size) A n s.gs ∧ Sl w (lt w.heap.size) T m s.touches := hs'
  refine ⟨s, A, n, k, T, m, e, ?_, h1, h2, h3, h4, h5, h6⟩
  rw [← hcs]

set_option maxRecDepth 100000 in
theorem dependent_lifted (os : Os) (started : os.Started) (H : Type) (enc : TypeId × Value → H) :
    ReturnsInHanded {} Try.checked os 3 .any (Rows.dependentMatchesReferenceSpec.pre6 enc Try.prog Try.f3 Rows.dependentMatchesReferenceRow.domain false) (Rows.dependentMatchesReferenceSpec.post enc Try.prog Try.f3 false true false false) := by
  refine returnsInHanded_of_change (C := Try.checked) Try.own started (by kernel_rfl) Try.func3
    (ChangeSpec.witness6 (enc := enc) (C := Try.checked) false ⟨#[], #[.agg #[.int .i64 0, .int .i64 0, .slice none 0 0, .slice none 0 0], .agg #[.int .i64 0, .int .i64 0, .slice none 0 0, .slice none 0 0]], []⟩ 8 (by kernel_rfl) (by kernel_rfl) (by kernel_rfl) (by kernel_rfl)) ?_
  intro W base args ds gs before hval0 hW _ _
  have hval : ∀ (j : Nat) t v, Try.f3.params[j]? = some t → args[j]? = some v → Value.okWide Try.prog W .any base t v := hval0
  have hW' := hW
  obtain ⟨p, q, hA0, hV, rfl, hfz, hnd⟩ := hW
  have hA : DataW.TrodAll enc Try.prog W 0 (fun _ => true) true Try.f3.params.toList args.toList ds p := hA0
  rw [Try.params3] at hA hval
  obtain ⟨v0, v1, d0, d1, p0, p1, hargs, rfl, hp, h0, h1⟩ := trodAll_two hA
  obtain ⟨rfl, rfl⟩ := trodVars_none hV
  have hargs' : args = #[v0, v1] := by rw [← hargs]
  subst hargs'
  obtain ⟨s, A1, n1, k1, T1, m1, e1, rfl, hn1, hk1, hm1, he1, sg, st⟩ := rd_step_agg (hval 0 27 v0 rfl rfl) h0
  obtain ⟨t, A2, n2, k2, T2, m2, e2, rfl, hn2, hk2, hm2, he2, tg, tt⟩ := rd_step_agg (hval 1 27 v1 rfl rfl) h1
  simp only [List.append_nil] at hW'
  have hlt : ∀ x ∈ p, x.block < W.heap.size := fun x hx => hW'.lt x hx
  refine (lawDependent_any W s t A1 T1 A2 T2 n1 k1 m1 e1 n2 k2 m2 e2 sg st tg tt hn1 hk1 hm1 he1 hn2 hk2 hm2 he2).mono fun e W' ⟨he, hb⟩ => ?_
  subst he
  subst hp
  exact ⟨_, rfl, post_below (pa := p0 ++ p1) (pv := []) hW' (fun _ _ _ => trodAll_mk1 (shut_bool Try.underlying4 true))
    (fun sp hsp => trodAll_mk2 (WideElems.Trod_stays Try.laidOut (by kernel_rfl) (of_decide_eq_true (by kernel_rfl)) h0 (fun x hx => hb.same (hlt x (by simp [hx]))) (fun x hx => hsp x (by simp [hx])))
      (WideElems.Trod_stays Try.laidOut (by kernel_rfl) (of_decide_eq_true (by kernel_rfl)) h1 (fun x hx => hb.same (hlt x (by simp [hx]))) (fun x hx => hsp x (by simp [hx]))))
    (fun _ _ => rfl) (by simp) hb (ok_one (by kernel_rfl) rfl (okWide_bool_mk Try.underlying4 true))⟩

theorem dependent_holds : Rows.DependentMatchesReferenceSaid :=
  OpenClaim.holds_of_wide 3 Try.f3 rfl rfl rfl rfl rfl rfl rfl ⟨rfl, rfl, rfl, rfl, rfl⟩ rfl rfl rfl rfl rfl (by kernel_rfl) Try.func3 (by kernel_rfl)
    (of_decide_eq_true (by kernel_rfl)) (by unfold Func.isWrapper; rw [if_neg (of_decide_eq_false (by kernel_rfl))]; exact ⟨rfl, rfl⟩)
    (fun os started H enc _ => dependent_lifted os started H enc)
#print axioms dependent_holds
#print axioms canonical_holds

end Go.Proofs.Ytlbgmegciomofaa

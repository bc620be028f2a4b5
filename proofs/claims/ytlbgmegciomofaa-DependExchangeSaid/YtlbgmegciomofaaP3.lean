/- Two neighbours in the other order: the plain law. -/
import Derived.Test.YtlbgmegciomofaaW18
namespace Go.Proofs.Ytlbgmegciomofaa
open Go.RowKit

/-- Two neighbours in the other order. -/
def swapAt (l : List Step) (k : Nat) : List Step := (l.set k (stepAt l (k + 1))).set (k + 1) (stepAt l k)
theorem swap_length (l : List Step) (k : Nat) : (swapAt l k).length = l.length := by unfold swapAt; simp
theorem swap_split : ∀ {l : List Step} {k : Nat}, k + 1 < l.length → swapAt l k = l.take k ++ stepAt l (k + 1) :: stepAt l k :: l.drop (k + 2)
  | [], k, h => by simp at h
  | [x], k, h => by simp at h
  | x :: y :: l, 0, h => by
    unfold swapAt
    simp [stepAt]
  | z :: l, k + 1, h => by
    have h' : k + 1 < l.length := by simp at h; omega
    have := swap_split (l := l) (k := k) h'
    unfold swapAt at this ⊢
    rw [stepAt_succ, stepAt_succ, List.set_cons_succ, List.set_cons_succ, this]
    rfl
theorem own_split {l : List Step} {k : Nat} (h : k + 1 < l.length) : l = l.take k ++ stepAt l k :: stepAt l (k + 1) :: l.drop (k + 2) := by
  rw [← drop_step (i := k + 1) h, ← drop_step (i := k) (by omega), List.take_append_drop]
theorem swap_valid {l : List Step} {k : Nat} (h : k + 1 < l.length) (hv : validA l = true) : validA (swapAt l k) = true := by
  rw [swap_split h]
  rw [own_split h] at hv
  unfold validA at hv ⊢
  rw [List.all_append, List.all_cons, List.all_cons] at hv ⊢
  simp only [Bool.and_eq_true] at hv ⊢
  exact ⟨hv.1, hv.2.2.1, hv.2.1, hv.2.2.2⟩
theorem swap_yes {l : List Step} {k : Nat} (h : k + 1 < l.length) (hv : validA l = true) (hd : dep (stepAt l k) (stepAt l (k + 1)) = false) : refE l (swapAt l k) := by
  have hne : stepAt l (k + 1) ≠ stepAt l k := by
    intro e
    rw [e] at hd
    have h1 := validA_at hv (q := k) (by omega)
    rw [dep_same_g h1 h1 rfl] at hd
    cases hd
  rw [swap_split h]
  have h2 := refE_swap hne hd (l.take k) (l.drop (k + 2))
  rw [← own_split h] at h2
  exact h2
theorem swap_equiv {l : List Step} {k : Nat} (h : k + 1 < l.length) (hv : validA l = true) (hd : dep (stepAt l k) (stepAt l (k + 1)) = false) : equivI l (swapAt l k) = true :=
  (equiv_iff hv (swap_valid h hv)).2 (swap_yes h hv hd)
theorem swap_canon {l : List Step} {k : Nat} (h : k + 1 < l.length) (hv : validA l = true) (hd : dep (stepAt l k) (stepAt l (k + 1)) = false) : canon (swapAt l k) = canon l := by
  have hw := swap_valid h hv
  rw [canon_yes hv, canon_yes hw, (lin_iff (validA_all hv) (validA_all hw)).1 (swap_yes h hv hd)]
theorem swap_no {l : List Step} {k : Nat} (h : k + 1 < l.length) (hv : validA l = true) (hd : dep (stepAt l k) (stepAt l (k + 1)) = true) : equivI l (swapAt l k) = eqStep (stepAt l k) (stepAt l (k + 1)) := by
  have hw := swap_valid h hv
  cases he : eqStep (stepAt l k) (stepAt l (k + 1)) with
  | true =>
    have e := (eqStep_iff _ _).1 he
    have : swapAt l k = l := by
      rw [swap_split h, ← e]
      have h1 := own_split h
      rw [← e] at h1
      exact h1.symm
    rw [this, equiv_iff hv hv]
    exact refE_refl l
  | false =>
    refine equiv_no hv hw fun hr => ?_
    have hne : stepAt l (k + 1) ≠ stepAt l k := by
      intro e
      rw [(eqStep_iff _ _).2 e.symm] at he
      cases he
    rw [swap_split h] at hr
    have h1 := refE_noswap hne hd (l.take k) (l.drop (k + 2))
    rw [← own_split h] at h1
    exact h1 hr

end Go.Proofs.Ytlbgmegciomofaa

/- Less and Least of the reference. -/
import Derived.Test.YtlbgmegciomofaaW9
namespace Go.Proofs.Ytlbgmegciomofaa
open Go.RowKit

set_option maxHeartbeats 400000 in
theorem less_s (w : World) (s t : Step) {b : Bool} (hb : lessP s t = b) : Calls Try.prog 27 #[.agg #[.int .i64 s.g, .int .i64 s.case_], .agg #[.int .i64 t.g, .int .i64 t.case_]] w (RetB (.bool b) w) := by
  subst hb
  obtain ⟨x, hx⟩ : ∃ x, x = s.g := ⟨_, rfl⟩
  obtain ⟨y, hy⟩ : ∃ y, y = t.g := ⟨_, rfl⟩
  rw [← hx, ← hy]
  have HX := Lib.hid hx
  have HY := Lib.hid hy
  clear hx hy
  by_cases h1 : x < y
  · have hd : decide (x < y) = true := decide_eq_true h1
    have HR : Hid (lessP s t = true) := by unfold Hid lessP; rw [← HX.out, ← HY.out, hd]; rfl
    go_enter Try.func27, Try.ntmps27
    go_wp2
    go_ret
    exact RetB.mk (bool_eq HR.out.symm) (((Below.refl _ _).alloc (Nat.le_refl _) _).alloc (by simp) _)
  · have hd : decide (x < y) = false := decide_eq_false h1
    by_cases h2 : x = y
    · have he : (x == y) = true := by simpa using h2
      have HR : Hid (lessP s t = decide (s.case_ < t.case_)) := by unfold Hid lessP; rw [← HX.out, ← HY.out, hd, he]; rfl
      clear h2
      go_enter Try.func27, Try.ntmps27
      go_wp2
      go_ret
      exact RetB.mk (bool_eq HR.out.symm) (((Below.refl _ _).alloc (Nat.le_refl _) _).alloc (by simp) _)
    · have he : (x == y) = false := by simpa using h2
      have HR : Hid (lessP s t = false) := by unfold Hid lessP; rw [← HX.out, ← HY.out, hd, he]; rfl
      clear h2
      go_enter Try.func27, Try.ntmps27
      go_wp2
      go_ret
      exact RetB.mk (bool_eq HR.out.symm) (((Below.refl _ _).alloc (Nat.le_refl _) _).alloc (by simp) _)

def freeTo (l : List Step) (ch : List Bool) (i q : Nat) : Bool := !ch.getD i false && ((List.range q).all fun k => ch.getD k false || !dep (stepAt l k) (stepAt l i))
theorem freeTo_zero (l : List Step) (ch : List Bool) (i : Nat) : freeTo l ch i 0 = !ch.getD i false := by unfold freeTo; simp
theorem freeTo_skip {l : List Step} {ch : List Bool} {i q : Nat} (h : ch.getD q false = true ∨ dep (stepAt l q) (stepAt l i) = false) : freeTo l ch i (q + 1) = freeTo l ch i q := by
  unfold freeTo
  rw [List.range_succ, List.all_append]
  rw [List.all_cons, List.all_nil]
  rcases h with h | h <;> rw [h] <;> simp
theorem freeTo_stop {l : List Step} {ch : List Bool} {i q : Nat} (h1 : ch.getD q false = false) (h2 : dep (stepAt l q) (stepAt l i) = true) : freeTo l ch i (q + 1) = false := by
  unfold freeTo
  rw [List.range_succ, List.all_append, List.all_cons, List.all_nil, h1, h2]
  simp
theorem freeTo_all (l : List Step) (ch : List Bool) (i : Nat) : freeTo l ch i i = (!ch.getD i false && freeI l ch i) := rfl
theorem best_wait {l : List Step} {ch : List Bool} {i : Nat} (h : freeTo l ch i i = false) : bestTo l ch (i + 1) = bestTo l ch i := by
  rw [freeTo_all] at h
  refine best_skip ?_
  cases hc : ch.getD i false with
  | true => exact .inl rfl
  | false => rw [hc] at h; exact .inr (by simpa using h)
theorem free_both {l : List Step} {ch : List Bool} {i : Nat} (h : freeTo l ch i i = true) : ch.getD i false = false ∧ freeI l ch i = true := by
  rw [freeTo_all] at h
  simpa using h

theorem info_step : (Try.prog.info? 27).map (fun i => (i.zero, i.size, i.bytes)) = some (some (.agg #[.int .i64 0, .int .i64 0, .slice none 0 0, .slice none 0 0]), 4, 64) := by kernel_rfl

def RetO {α : Type} [Rep α] (E : TypeId) (F : Nat → Prop) (xs : List α) (w : World) (e : Ending) (w' : World) : Prop := ∃ v, e = .returned v ∧ Below w.heap.size w w' ∧ Own w' w.heap.size E F v xs
theorem RetO.mk {α : Type} [Rep α] {E : TypeId} {F : Nat → Prop} {xs : List α} {w w' : World} {v : Value} (hb : Below w.heap.size w w') (ho : Own w' w.heap.size E F v xs) : RetO E F xs w (.returned v) w' := ⟨v, rfl, hb, ho⟩

end Go.Proofs.Ytlbgmegciomofaa

/- A store of a whole element into a row of the call's own. -/
import Derived.Test.YtlbgmegciomofaaB1
namespace Go.Proofs.Ytlbgmegciomofaa
open Go.RowKit

/-- Some values written one behind the other. -/
def setRow : Array Value → Nat → List Value → Array Value
  | cur, _, [] => cur
  | cur, o, c :: cs => setRow (cur.setIfInBounds o c) (o + 1) cs
theorem setRow_size : ∀ {cs : List Value} {cur : Array Value} {o : Nat}, (setRow cur o cs).size = cur.size
  | [], _, _ => rfl
  | c :: cs, cur, o => by unfold setRow; rw [setRow_size]; simp
theorem setRow_out : ∀ {cs : List Value} {cur : Array Value} {o j : Nat}, (j < o ∨ o + cs.length ≤ j) → (setRow cur o cs)[j]? = cur[j]?
  | [], _, _, _, _ => rfl
  | c :: cs, cur, o, j, h => by
    unfold setRow
    simp only [List.length_cons] at h
    rw [setRow_out (by omega), Array.getElem?_setIfInBounds_ne (by omega)]
theorem setRow_in : ∀ {cs : List Value} {cur : Array Value} {o j : Nat}, o + cs.length ≤ cur.size → j < cs.length → (setRow cur o cs)[o + j]? = cs[j]?
  | [], _, _, _, _, h => by simp at h
  | c :: cs, cur, o, 0, h, _ => by
    unfold setRow
    simp only [List.length_cons] at h
    have h1 : o < cur.size := by omega
    rw [setRow_out (by omega), Nat.add_zero, Array.getElem?_setIfInBounds_self, if_pos h1]
    rfl
  | c :: cs, cur, o, j + 1, h, hj => by
    unfold setRow
    simp only [List.length_cons] at h hj
    rw [show o + (j + 1) = o + 1 + j by omega, setRow_in (by simp; omega) (by omega)]
    simp

/-- The row behind a store of a whole element. -/
theorem Own.stored {α : Type} [Rep α] {w w' : World} {base : Nat} {E : TypeId} {F : Nat → Prop} {g n c k : Nat} {xs : List α} {y : α} {cs : List Value} (h : Own w base E F (.slice (some ⟨g, 0, none⟩) n c) xs) (hk : k < xs.length) (hr : Rep.cells w F y cs)
    (hw : ∀ cur, Blk w g E cur → Blk w' g E (setRow cur (k * Rep.size α) cs)) (hF : ∀ p : Addr, F p.block → w'.cell? p = w.cell? p) : Own w' base E F (.slice (some ⟨g, 0, none⟩) n c) (xs.set k y) := by
  obtain ⟨vs, ⟨hl, ho⟩, he⟩ := h
  have hcl := Rep.len hr
  rcases ho with ⟨ho, _⟩ | ⟨g', cap, cur, hv, hg, hh, hn, hm, hs, ht⟩
  · cases ho
  · injection hv with hv1 hv2 hv3
    injection hv1 with hv1
    injection hv1 with hv1
    subst hv1
    have hb := hw cur hh
    have hkn : (k + 1) * Rep.size α ≤ xs.length * Rep.size α := Nat.mul_le_mul_right _ hk
    rw [Nat.add_mul] at hkn
    have hnc : xs.length * Rep.size α ≤ cap * Rep.size α := Nat.mul_le_mul_right _ hn
    have hget : ∀ j, j < xs.length * Rep.size α → ((setRow cur (k * Rep.size α) cs).toList.take (xs.length * Rep.size α))[j]? = (setRow cur (k * Rep.size α) cs)[j]? := by
      intro j hj
      rw [List.getElem?_take, if_pos hj]
      simp
    refine ⟨(setRow cur (k * Rep.size α) cs).toList.take (xs.length * Rep.size α), ⟨?_, .inr ⟨g, cap, setRow cur (k * Rep.size α) cs, by rw [hv2, hv3, List.length_set], hg, hb, by rw [List.length_set]; exact hn, hm, by rw [setRow_size]; exact hs, by rw [List.length_set]⟩⟩, fun i x hx => ?_⟩
    · rw [List.length_set, List.length_take]
      have h1 : (setRow cur (k * Rep.size α) cs).toList.length = cap * Rep.size α := by
        rw [Array.length_toList, setRow_size]
        exact hs
      rw [h1]
      omega
    · rw [List.getElem?_set] at hx
      split at hx
      · rename_i hki
        subst hki
        injection hx with hx
        subst hx
        refine ⟨cs, Rep.keep hF hr, fun j u hj => ?_⟩
        have hjl : j < cs.length := (List.getElem?_eq_some_iff.1 hj).1
        rw [hget _ (by omega), setRow_in (by rw [hs]; omega) hjl]
        exact hj
      · rename_i hki
        obtain ⟨ds, hr', hd⟩ := he i x hx
        refine ⟨ds, Rep.keep hF hr', fun j u hj => ?_⟩
        have hjl : j < Rep.size α := by rw [← Rep.len hr']; exact (List.getElem?_eq_some_iff.1 hj).1
        have h1 := hd j u hj
        have h2 : i * Rep.size α + j < xs.length * Rep.size α := by
          rw [← hl]
          exact (List.getElem?_eq_some_iff.1 h1).1
        rw [hget _ h2, setRow_out]
        · rw [← ht, List.getElem?_take] at h1
          rw [if_pos h2] at h1
          simpa using h1
        · rw [hcl]
          rcases Nat.lt_or_ge i k with h3 | h3
          · have h4 : (i + 1) * Rep.size α ≤ k * Rep.size α := Nat.mul_le_mul_right _ h3
            rw [Nat.add_mul] at h4
            left
            omega
          · have h4 : (k + 1) * Rep.size α ≤ i * Rep.size α := Nat.mul_le_mul_right _ (by omega)
            rw [Nat.add_mul] at h4
            right
            omega
/-- The block of a row that is not empty; its cells can be written. -/
theorem Own.blk {α : Type} [Rep α] {w : World} {base : Nat} {E : TypeId} {F : Nat → Prop} {A : Option Addr} {n c : Nat} {xs : List α} (h : Own w base E F (.slice A n c) xs) (hn : xs.length = n) (hp : 0 < n) :
    ∃ g cur, A = some ⟨g, 0, none⟩ ∧ base ≤ g ∧ g < w.heap.size ∧ Blk w g E cur ∧ n * Rep.size α ≤ cur.size := by
  obtain ⟨vs, ⟨hl, ho⟩, he⟩ := h
  rcases ho with ⟨_, h0⟩ | ⟨g, cap, cur, hv, hg, hh, hn', hm, hs, ht⟩
  · omega
  · injection hv with hv1 hv2 hv3
    exact ⟨g, cur, hv1, hg, Blk.lt (t := E) (cs := cur) hh, hh, by rw [hs]; exact Nat.mul_le_mul_right _ (by omega)⟩

end Go.Proofs.Ytlbgmegciomofaa

/- What a store of four cells meets in a block known whole. -/
import Derived.Test.YtlbgmegciomofaaB2
namespace Go.Proofs.Ytlbgmegciomofaa
open Go.RowKit

theorem store4 {w : World} {g : Nat} {E : TypeId} {cur : Array Value} {o : Nat} (h : Blk w g E cur) (ho : o + 4 ≤ cur.size) (a b c : Value) :
    ∃ c0 c1 c2 c3, w.cell? ⟨g, o, none⟩ = some c0 ∧ w.frozen? ⟨g, o, none⟩ = false ∧
      (w.setCell ⟨g, o, none⟩ a).cell? ⟨g, o + 1, none⟩ = some c1 ∧ (w.setCell ⟨g, o, none⟩ a).frozen? ⟨g, o + 1, none⟩ = false ∧
      ((w.setCell ⟨g, o, none⟩ a).setCell ⟨g, o + 1, none⟩ b).cell? ⟨g, o + 2, none⟩ = some c2 ∧ ((w.setCell ⟨g, o, none⟩ a).setCell ⟨g, o + 1, none⟩ b).frozen? ⟨g, o + 2, none⟩ = false ∧
      (((w.setCell ⟨g, o, none⟩ a).setCell ⟨g, o + 1, none⟩ b).setCell ⟨g, o + 2, none⟩ c).cell? ⟨g, o + 3, none⟩ = some c3 ∧ (((w.setCell ⟨g, o, none⟩ a).setCell ⟨g, o + 1, none⟩ b).setCell ⟨g, o + 2, none⟩ c).frozen? ⟨g, o + 3, none⟩ = false := by
  have h1 := h.set_ o a
  have h2 := h1.set_ (o + 1) b
  have h3 := h2.set_ (o + 2) c
  exact ⟨_, _, _, _, (h.at_ o (Array.getElem?_eq_getElem (by omega))), h.frozen o, (h1.at_ (o + 1) (Array.getElem?_eq_getElem (by simp; omega))), h1.frozen _, (h2.at_ (o + 2) (Array.getElem?_eq_getElem (by simp; omega))), h2.frozen _, (h3.at_ (o + 3) (Array.getElem?_eq_getElem (by simp; omega))), h3.frozen _⟩
/-- What a store of four cells leaves. -/
theorem stored4 {w w' : World} {g o : Nat} {a b c d : Value} (hw : w' = (((w.setCell ⟨g, o, none⟩ a).setCell ⟨g, o + 1, none⟩ b).setCell ⟨g, o + 2, none⟩ c).setCell ⟨g, o + 3, none⟩ d) :
    (∀ E cur, Blk w g E cur → Blk w' g E (setRow cur o [a, b, c, d])) ∧ (∀ B, B ≤ g → Below B w w') ∧ ∀ p : Addr, p.block ≠ g → w'.cell? p = w.cell? p := by
  subst hw
  refine ⟨fun E cur h => (((h.set_ o a).set_ (o + 1) b).set_ (o + 2) c).set_ (o + 3) d, fun B hB => ((((Below.refl _ _).setCell hB _).setCell hB _).setCell hB _).setCell hB _, fun p hp => ?_⟩
  rw [World.cell?_setCell_other _ _ _ _ (fun e => hp (congrArg Addr.block e).symm), World.cell?_setCell_other _ _ _ _ (fun e => hp (congrArg Addr.block e).symm), World.cell?_setCell_other _ _ _ _ (fun e => hp (congrArg Addr.block e).symm), World.cell?_setCell_other _ _ _ _ (fun e => hp (congrArg Addr.block e).symm)]

end Go.Proofs.Ytlbgmegciomofaa

/- Rows of the call's own beside one another: a slice of slices of numbers, each with memory of its own. Plain lemmas. -/
import Derived.Test.YtepcbgbmmmhglaaQ1
namespace Go.Proofs.Ytepcbgbmmmhglaa
open Go.RowKit

theorem false_lt {B : Nat} : ∀ b : Nat, (fun _ => False) b → b < B := fun _ h => h.elim
theorem Own.base {α : Type} [Rep α] {w : World} {base base' : Nat} {E : TypeId} {F : Nat → Prop} {v : Value} {xs : List α} (h : Own w base E F v xs) (hb : base' ≤ base) : Own w base' E F v xs := by
  obtain ⟨vs, ⟨hl, ho⟩, he⟩ := h
  refine ⟨vs, ⟨hl, ?_⟩, he⟩
  rcases ho with ho | ⟨g, cap, cur, h1, h2, r⟩
  · exact .inl ho
  · exact .inr ⟨g, cap, cur, h1, by omega, r⟩
theorem own_below {α : Type} [Rep α] {w w' : World} {base : Nat} {E : TypeId} {F : Nat → Prop} {v : Value} {xs : List α} {B : Nat} {a : World} (h : Own w base E F v xs) (hb : Below B a w) (hg : w.grownBy w' v.ownBlock) (hB : B ≤ base) (hBw : B ≤ w.heap.size) : Below B a w' :=
  hb.grown hg hBw fun _ hk => Nat.le_trans hB (h.lt_ hk).1
theorem cell_alloc {w : World} {b o : Nat} {v : Value} (h : w.cell? ⟨b, o, none⟩ = some v) (hb : b < w.heap.size) (O : Obj) : (w.alloc O).cell? ⟨b, o, none⟩ = some v := (World.cell?_alloc_lt w O _ hb).trans h
theorem below_drewL {B : Nat} {a w : World} (h : Below B a.drew w) : Below B a w := ⟨h.os, h.tape, h.output, h.size, h.block⟩
theorem below_drewN {B : Nat} {a w : World} (h : Below B a w) (n : Nat) : Below B a (w.drewN n) := ⟨h.os, h.tape, h.output, h.size, h.block⟩
theorem Own.empty {α : Type} [Rep α] (W : World) (base : Nat) (E : TypeId) (F : Nat → Prop) (hb : base ≤ W.heap.size) : Own (α := α) (W.alloc (.cells #[] E)) base E F (.slice (some ⟨W.heap.size, 0, none⟩) 0 0) [] :=
  ⟨[], ⟨by simp, .inr ⟨W.heap.size, 0, #[], rfl, hb, Blk.new W E #[], Nat.le_refl _, Nat.zero_le _, by simp, by simp⟩⟩, fun i x h => by simp at h⟩
def RetO {α : Type} [Rep α] (E : TypeId) (F : Nat → Prop) (xs : List α) (w : World) (e : Ending) (w' : World) : Prop := ∃ v, e = .returned v ∧ Below w.heap.size w w' ∧ Own w' w.heap.size E F v xs
theorem RetO.mk {α : Type} [Rep α] {E : TypeId} {F : Nat → Prop} {xs : List α} {w w' : World} {v : Value} (hb : Below w.heap.size w w') (ho : Own w' w.heap.size E F v xs) : RetO E F xs w (.returned v) w' := ⟨v, rfl, hb, ho⟩
theorem Own.slice {α : Type} [Rep α] {w : World} {base : Nat} {E : TypeId} {F : Nat → Prop} {v : Value} {xs : List α} (h : Own w base E F v xs) :
    ∃ A c, v = .slice A xs.length c ∧ xs.length ≤ c ∧ c ≤ maxLen ∧ (A = none ∨ ∃ g, A = some ⟨g, 0, none⟩ ∧ base ≤ g ∧ g < w.heap.size) := by
  obtain ⟨vs, ⟨hl, ho⟩, he⟩ := h
  rcases ho with ⟨rfl, h0⟩ | ⟨g, cap, cur, rfl, hg, hh, hn, hm, hs, ht⟩
  · exact ⟨none, 0, by rw [h0], by omega, Nat.zero_le _, .inl rfl⟩
  · exact ⟨some ⟨g, 0, none⟩, cap, rfl, hn, hm, .inr ⟨g, rfl, hg, Blk.lt (t := E) (cs := cur) hh⟩⟩

/-- A value that is one cell, as it is. -/
instance : Rep Value where
  size := 1
  cells _ _ x vs := vs = [x] ∧ x.oneCell' = true
  len h := by obtain ⟨rfl, _⟩ := h; rfl
  keep _ h := h
  mono _ h := h
instance : OneCell Value where
  one h := by
    obtain ⟨h1, h2⟩ : _ = [_] ∧ _ := h
    subst h1
    simpa using h2

/-- Rows of numbers, each in memory of its own, no two in the same. -/
def Rows (w : World) (base : Nat) (E : TypeId) (vs : List Value) (xss : List (List Int)) : Prop :=
  vs.length = xss.length ∧ (∀ (i : Nat) (v : Value) (xs : List Int), vs[i]? = some v → xss[i]? = some xs → Own w base E (fun _ => False) v xs) ∧
    ∀ (i j : Nat) (v u : Value) (g : Nat), i ≠ j → vs[i]? = some v → vs[j]? = some u → v.ownBlock = some g → u.ownBlock ≠ some g
section
variable {w w' : World} {base : Nat} {E : TypeId} {vs : List Value} {xss : List (List Int)}
theorem Rows.nil (w : World) (base : Nat) (E : TypeId) : Rows w base E [] [] := ⟨rfl, fun i v xs h => by simp at h, fun i j v u g _ h => by simp at h⟩
theorem Rows.at_ (h : Rows w base E vs xss) {i : Nat} (hi : i < xss.length) : ∃ v xs, vs[i]? = some v ∧ xss[i]? = some xs ∧ Own w base E (fun _ => False) v xs := by
  have hv : vs[i]? = some (vs[i]'(by rw [h.1]; exact hi)) := List.getElem?_eq_getElem _
  have hx : xss[i]? = some xss[i] := List.getElem?_eq_getElem hi
  exact ⟨_, _, hv, hx, h.2.1 i _ _ hv hx⟩
theorem Rows.ext (h : Rows w base E vs xss) (hb : Below w.heap.size w w') : Rows w' base E vs xss :=
  ⟨h.1, fun i v xs hv hx => (h.2.1 i v xs hv hx).ext hb (fun _ h => h.elim), h.2.2⟩
theorem Rows.get (h : Rows w base E vs xss) {i : Nat} {v : Value} (hv : vs[i]? = some v) : ∃ xs, xss[i]? = some xs ∧ Own w base E (fun _ => False) v xs := by
  have hi : i < xss.length := by rw [← h.1]; exact (List.getElem?_eq_some_iff.1 hv).1
  exact ⟨_, List.getElem?_eq_getElem hi, h.2.1 i _ _ hv (List.getElem?_eq_getElem hi)⟩
/-- A store into a block of another kind. -/
theorem Rows.setCell (h : Rows w base E vs xss) {g o : Nat} {t : TypeId} {cs : Array Value} (u : Value) (hb : Blk w g t cs) (hne : E ≠ t) : Rows (w.setCell ⟨g, o, none⟩ u) base E vs xss :=
  ⟨h.1, fun i v xs hv hx => (h.2.1 i v xs hv hx).setCell u (fun h => h) ((h.2.1 i v xs hv hx).ne hb hne), h.2.2⟩
/-- One row has been exchanged for one in memory that was not there. -/
theorem Rows.fresh (h : Rows w base E vs xss) (hb : Below w.heap.size w w') (hbase : base ≤ w.heap.size) {i : Nat} {v : Value} {xs : List Int} (ho : Own w' w.heap.size E (fun _ => False) v xs) : Rows w' base E (vs.set i v) (xss.set i xs) := by
  refine ⟨by simp [h.1], fun k u ys hu hy => ?_, fun k j u u' g hkj hu hu' hg => ?_⟩
  · rw [List.getElem?_set] at hu hy
    split at hu
    · rename_i hik
      subst hik
      rw [if_pos rfl] at hy
      split at hu
      · split at hy
        · injection hu with hu
          injection hy with hy
          subst hu
          subst hy
          exact ho.base hbase
        · cases hy
      · cases hu
    · rename_i hik
      rw [if_neg hik] at hy
      exact (h.2.1 k u ys hu hy).ext hb (fun _ h => h.elim)
  · rw [List.getElem?_set] at hu hu'
    have hold : ∀ (k : Nat) (u : Value), vs[k]? = some u → ∀ g, u.ownBlock = some g → g < w.heap.size := fun k u hu g hg => by
      obtain ⟨ys, _, hoo⟩ := h.get hu
      exact (hoo.lt_ hg).2
    by_cases hik : i = k
    · subst hik
      rw [if_neg hkj] at hu'
      rw [if_pos rfl] at hu
      split at hu
      · injection hu with hu
        subst hu
        intro e
        have h1 := (ho.lt_ hg).1
        have h2 := hold j u' hu' g e
        omega
      · cases hu
    · rw [if_neg hik] at hu
      by_cases hij : i = j
      · subst hij
        rw [if_pos rfl] at hu'
        split at hu'
        · injection hu' with hu'
          subst hu'
          intro e
          have h1 := (ho.lt_ e).1
          have h2 := hold k u hu g hg
          omega
        · cases hu'
      · rw [if_neg hij] at hu'
        exact h.2.2 k j u u' g hkj hu hu' hg
/-- One row has grown. -/
theorem Rows.grown (h : Rows w base E vs xss) {i : Nat} {v v' : Value} {xs : List Int} (hv : vs[i]? = some v) (hg : w.grownBy w' v.ownBlock) (hat : v'.ownBlock = v.ownBlock ∨ v'.ownBlock = some w.heap.size) (ho : Own w' base E (fun _ => False) v' xs) :
    Rows w' base E (vs.set i v') (xss.set i xs) := by
  have hold : ∀ (k : Nat) (u : Value), vs[k]? = some u → ∀ g, u.ownBlock = some g → g < w.heap.size := fun k u hu g hg => by
    obtain ⟨ys, _, hoo⟩ := h.get hu
    exact (hoo.lt_ hg).2
  refine ⟨by simp [h.1], fun k u ys hu hy => ?_, fun k j u u' g hkj hu hu' hg' => ?_⟩
  · rw [List.getElem?_set] at hu hy
    split at hu
    · rename_i hik
      subst hik
      rw [if_pos rfl] at hy
      split at hu
      · split at hy
        · injection hu with hu
          injection hy with hy
          subst hu
          subst hy
          exact ho
        · cases hy
      · cases hu
    · rename_i hik
      rw [if_neg hik] at hy
      exact (h.2.1 k u ys hu hy).keep (fun _ h => h.elim) fun g hgu => hg.block g (hold k u hu g hgu) fun e => h.2.2 k i u v g (fun e => hik e.symm) hu hv hgu e.symm
  · rw [List.getElem?_set] at hu hu'
    by_cases hik : i = k
    · subst hik
      rw [if_neg hkj] at hu'
      rw [if_pos rfl] at hu
      split at hu
      · injection hu with hu
        subst hu
        rcases hat with e | e
        · exact h.2.2 i j v u' g hkj hv hu' (e ▸ hg')
        · intro e'
          have h2 := hold j u' hu' g e'
          rw [hg'] at e
          injection e with e
          omega
      · cases hu
    · rw [if_neg hik] at hu
      by_cases hij : i = j
      · subst hij
        rw [if_pos rfl] at hu'
        split at hu'
        · injection hu' with hu'
          subst hu'
          rcases hat with e | e
          · rw [e]
            exact h.2.2 k i u v g hkj hu hv hg'
          · intro e'
            have h2 := hold k u hu g hg'
            rw [e'] at e
            injection e with e
            omega
        · cases hu'
      · rw [if_neg hij] at hu'
        exact h.2.2 k j u u' g hkj hu hu' hg'
/-- One row more, in memory that was not there. -/
theorem Rows.snoc (h : Rows w base E vs xss) (hb : Below w.heap.size w w') (hbase : base ≤ w.heap.size) {v : Value} {xs : List Int} (ho : Own w' w.heap.size E (fun _ => False) v xs) : Rows w' base E (vs ++ [v]) (xss ++ [xs]) := by
  have hold : ∀ (k : Nat) (u : Value), vs[k]? = some u → ∀ g, u.ownBlock = some g → g < w.heap.size := fun k u hu g hg => by
    obtain ⟨ys, _, hoo⟩ := h.get hu
    exact (hoo.lt_ hg).2
  have hend : ∀ {β : Type} {l : List β} {x y : β} {k : Nat}, (l ++ [x])[k]? = some y → (k < l.length ∧ l[k]? = some y) ∨ (k = l.length ∧ y = x) := by
    intro β l x y k hk
    rw [List.getElem?_append] at hk
    split at hk
    · exact .inl ⟨by assumption, hk⟩
    · have hk0 : k - l.length = 0 := by
        rcases Nat.eq_zero_or_pos (k - l.length) with h' | h'
        · exact h'
        · rw [List.getElem?_eq_none (by simp only [List.length_cons, List.length_nil]; omega)] at hk; cases hk
      rw [hk0] at hk
      simp only [List.getElem?_cons_zero, Option.some.injEq] at hk
      exact .inr ⟨by omega, hk.symm⟩
  refine ⟨by simp [h.1], fun k u ys hu hy => ?_, fun k j u u' g hkj hu hu' hg => ?_⟩
  · rcases hend hu with ⟨h1, h2⟩ | ⟨h1, h2⟩
    · rcases hend hy with ⟨h3, h4⟩ | ⟨h3, h4⟩
      · exact (h.2.1 k u ys h2 h4).ext hb (fun _ h => h.elim)
      · have := h.1; omega
    · rcases hend hy with ⟨h3, h4⟩ | ⟨h3, h4⟩
      · have := h.1; omega
      · subst h2
        subst h4
        exact ho.base hbase
  · rcases hend hu with ⟨h1, h2⟩ | ⟨h1, h2⟩ <;> rcases hend hu' with ⟨h3, h4⟩ | ⟨h3, h4⟩
    · exact h.2.2 k j u u' g hkj h2 h4 hg
    · intro e
      subst h4
      have h5 := (ho.lt_ e).1
      have h6 := hold k u h2 g hg
      omega
    · intro e
      subst h2
      have h5 := (ho.lt_ hg).1
      have h6 := hold j u' h4 g e
      omega
    · omega
/-- Each row reads as a list. -/
theorem Rows.reads (h : Rows w base E vs xss) {i : Nat} {v : Value} {xs : List Int} (hv : vs[i]? = some v) (hx : xss[i]? = some xs) : Rep.cells w (lt w.heap.size) xs [v] := by
  obtain ⟨A, c, rfl, h1, h2, h3⟩ := (h.2.1 i v xs hv hx).sl false_lt
  exact ⟨A, _, c, rfl, h1, h2, h3⟩
end

/-- A slice of values, each of which reads as a list: a slice of lists. -/
theorem Sl.lists {w : World} {F F' : Nat → Prop} {A : Option Addr} {n : Nat} {vs : List Value} {xss : List (List Int)} (h : Sl w F A n vs) (hF : ∀ b, F b → F' b) (hl : xss.length = n) (hr : ∀ (i : Nat) (v : Value) (xs : List Int), vs[i]? = some v → xss[i]? = some xs → Rep.cells w F' xs [v]) : Sl w F' A n xss := by
  refine ⟨hl, fun hn => ?_⟩
  obtain ⟨b, o, e, hb, hc⟩ := h.2 hn
  refine ⟨b, o, e, hF b hb, fun i xs hx => ?_⟩
  have hi : i < vs.length := by rw [h.1, ← hl]; exact (List.getElem?_eq_some_iff.1 hx).1
  obtain ⟨cs, hr', hv⟩ := hc i vs[i] (List.getElem?_eq_getElem hi)
  obtain ⟨h1, _⟩ : cs = [vs[i]] ∧ _ := hr'
  subst h1
  exact ⟨_, hr i _ xs (List.getElem?_eq_getElem hi) hx, fun j v hj => hv j v hj⟩

end Go.Proofs.Ytepcbgbmmmhglaa

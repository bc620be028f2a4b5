/- Run queues in memory of the call's own. Plain. -/
import Derived.Test.YtepcbgbmmmhglaaQ14
namespace Go.Proofs.Ytepcbgbmmmhglaa
open Go.RowKit

/-- Run queues in memory of the call's own: a row of slices; each of them, and the common one, in memory of its own. -/
def QOwn (w : World) (base : Nat) (v : Value) (q : Qs) : Prop :=
  ∃ lv cv vs, v = .agg #[lv, cv] ∧ Own (α := Value) w base 24 (fun _ => False) lv vs ∧ Rows w base 3 (cv :: vs) (q.com :: q.loc)
theorem QOwn.ext {w w' : World} {base : Nat} {v : Value} {q : Qs} (h : QOwn w base v q) (hb : Below w.heap.size w w') : QOwn w' base v q := by
  obtain ⟨lv, cv, vs, rfl, ho, hr⟩ := h
  exact ⟨lv, cv, vs, rfl, ho.ext hb false_lt, hr.ext hb⟩
theorem QOwn.len {w : World} {base : Nat} {cv : Value} {vs : List Value} {q : Qs} (hr : Rows w base 3 (cv :: vs) (q.com :: q.loc)) : vs.length = q.loc.length := by
  have := hr.1
  simpa using this
/-- It reads as run queues. -/
theorem QOwn.reads {w : World} {base : Nat} {v : Value} {q : Qs} (h : QOwn w base v q) :
    ∃ A c C d, v = .agg #[.slice A q.loc.length c, .slice C q.com.length d] ∧ q.loc.length ≤ c ∧ c ≤ maxLen ∧ q.com.length ≤ d ∧ d ≤ maxLen ∧ Sl w (lt w.heap.size) A q.loc.length q.loc ∧ Sl w (lt w.heap.size) C q.com.length q.com := by
  obtain ⟨lv, cv, vs, rfl, ho, hr⟩ := h
  have hl := QOwn.len hr
  obtain ⟨A, c, rfl, h1, h2, h3⟩ := ho.sl false_lt
  obtain ⟨C, d, rfl, h4, h5, h6⟩ := (hr.2.1 0 cv q.com rfl rfl).sl false_lt
  rw [hl] at h1 h3 ⊢
  exact ⟨A, c, C, d, rfl, h1, h2, h4, h5, h3.lists (fun b h => h) rfl fun i v xs hv hx => hr.reads (i := i + 1) (by simpa using hv) (by simpa using hx), h6⟩

/-- Two rows of different kinds do not lie in the same block. -/
theorem Own.apart {α β : Type} [Rep α] [Rep β] {w : World} {base base' : Nat} {E E' : TypeId} {F F' : Nat → Prop} {v v' : Value} {xs : List α} {ys : List β} (h : Own w base E F v xs) (h' : Own w base' E' F' v' ys) (hne : E ≠ E') {g : Nat} (hg : v.ownBlock = some g) : v'.ownBlock ≠ some g := by
  obtain ⟨vs, ⟨hl, ho⟩, he⟩ := h
  rcases ho with ⟨rfl, _⟩ | ⟨g', cap, cur, rfl, hb, hh, r⟩
  · simp [Value.ownBlock] at hg
  · have e : g' = g := by simpa [Value.ownBlock] using hg
    subst e
    exact h'.ne (t := E) (cs := cur) hh (fun e => hne e.symm)
/-- A row of another kind has grown. -/
theorem Rows.grown_other {α : Type} [Rep α] {w w' : World} {base base' : Nat} {E E' : TypeId} {F : Nat → Prop} {vs : List Value} {xss : List (List Int)} {v : Value} {ys : List α} (h : Rows w base E vs xss) (ho : Own w base' E' F v ys) (hne : E ≠ E') (hg : w.grownBy w' v.ownBlock) : Rows w' base E vs xss :=
  ⟨h.1, fun i u xs hv hx => (h.2.1 i u xs hv hx).keep (fun _ h => h.elim) fun g hgu => hg.block g ((h.2.1 i u xs hv hx).lt_ hgu).2 fun e => ((h.2.1 i u xs hv hx).apart ho hne hgu) e.symm, h.2.2⟩
theorem src_val {W : World} {F : Nat → Prop} {g : Nat} {v : Value} (h1 : v.oneCell' = true) (hcell : W.cell? ⟨g, 0, none⟩ = some v) : Src (α := Value) W F (some ⟨g, 0, none⟩) 1 [v] := by
  refine ⟨rfl, [v], rfl, fun u hu => ?_, fun i x hx => ?_, fun _ => ⟨g, 0, rfl, fun j u hj => ?_⟩⟩
  · simp only [List.mem_singleton] at hu
    subst hu
    exact h1
  · cases i with
    | succ i => simp at hx
    | zero =>
      simp only [List.getElem?_cons_zero, Option.some.injEq] at hx
      subst hx
      exact ⟨[v], ⟨rfl, h1⟩, fun j u hj => by rw [Nat.zero_mul, Nat.zero_add]; exact hj⟩
  · cases j with
    | succ j => simp at hj
    | zero =>
      simp only [List.getElem?_cons_zero, Option.some.injEq] at hj
      subst hj
      exact hcell

/-- The state of a copy's loop ahead of round k: the boxes of the argument and of the result, and the copy so far. -/
def CpS (w : World) (go : Nat) (kq kl : Array Value) (cv : Value) (q : Qs) (k : Nat) (wr : World) (lv : Value) (vs : List Value) : Prop :=
  Blk wr go 26 #[lv, cv] ∧ Own (α := Value) wr w.heap.size 24 (fun _ => False) lv vs ∧ Rows wr w.heap.size 3 (cv :: vs) (q.com :: q.loc.take k) ∧
    Blk wr w.heap.size 26 kq ∧ Blk wr (w.heap.size + 1) 26 kl ∧ Below w.heap.size w wr
theorem takeL_snoc {xss : List (List Int)} {k : Nat} {xs : List Int} (h : xss[k]? = some xs) : xss.take (k + 1) = xss.take k ++ [xs] := by
  obtain ⟨hk, he⟩ := List.getElem?_eq_some_iff.1 h
  rw [List.take_succ_eq_append_getElem hk, he]
/-- What the block holds behind the second append. -/
theorem blk_grown {w5 w7 : World} {base g : Nat} {cs : Array Value} {lv v5 : Value} {vs : List Value} (hg : (w5.alloc (.cells #[v5] 24)).grownBy w7 lv.ownBlock) (hown5 : Own (α := Value) w5 base 24 (fun _ => False) lv vs) (hb : Blk w5 g 26 cs) :
    Blk w7 g 26 cs := (hb.alloc _).grown hg (hown5.ne hb (by decide))
theorem CpS.step {w w4 w5 w7 : World} {go : Nat} {kq kl : Array Value} {cv lv v5 v7 : Value} {vs : List Value} {q : Qs} {k : Nat} {xs : List Int} (h : CpS w go kq kl cv q k w4 lv vs) (hgo : w.heap.size + 1 < go) (hx : q.loc[k]? = some xs) (hb5 : Below w4.heap.size w4 w5) (ho5 : Own w5 w4.heap.size 3 (fun _ => False) v5 xs)
    (ho7 : Own (α := Value) w7 w.heap.size 24 (fun _ => False) v7 (vs ++ [v5])) (hg7 : (w5.alloc (.cells #[v5] 24)).grownBy w7 lv.ownBlock) : CpS w go kq kl cv q (k + 1) (w7.setCell ⟨go, 0, none⟩ v7) v7 (vs ++ [v5]) := by
  obtain ⟨h1, h2, h3, h4, h5, h6⟩ := h
  have hz4 := h6.size
  have hz5 := hb5.size
  have h2' := h2.ext hb5 false_lt
  have h3' := h3.snoc hb5 hz4 ho5
  have h3a := h3'.ext ((Below.refl w5.heap.size w5).alloc (Nat.le_refl _) (.cells #[v5] 24))
  have h2a := h2'.alloc (.cells #[v5] 24) false_lt
  have h37 := h3a.grown_other h2a (by decide) hg7
  have b1 := blk_grown hg7 h2' (h1.below hb5 h1.lt)
  have b4 := blk_grown hg7 h2' (h4.below hb5 h4.lt)
  have b5 := blk_grown hg7 h2' (h5.below hb5 h5.lt)
  have hbl : Below w.heap.size w w7 := own_below h2a ((h6.trans (hb5.mono hz4)).alloc (by omega) _) hg7 (Nat.le_refl _) (by simp; omega)
  refine ⟨b1.set_ 0 v7, ho7.setCell _ (fun h => h) (ho7.ne b1 (by decide)), ?_, b4.far (p := ⟨go, 0, none⟩) (by show w.heap.size ≠ go; omega) _, b5.far (p := ⟨go, 0, none⟩) (by show w.heap.size + 1 ≠ go; omega) _, hbl.setCell (by show w.heap.size ≤ go; omega) _⟩
  rw [takeL_snoc hx]
  exact h37.setCell v7 b1 (by decide)

end Go.Proofs.Ytepcbgbmmmhglaa

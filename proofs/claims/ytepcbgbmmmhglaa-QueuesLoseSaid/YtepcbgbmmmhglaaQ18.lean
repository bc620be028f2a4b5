/- Run queues in a box, and their changes. Plain. -/
import Derived.Test.YtepcbgbmmmhglaaQ17
namespace Go.Proofs.Ytepcbgbmmmhglaa
open Go.RowKit

theorem nodup_len : ∀ (k : Nat) {l : List Int}, l.Nodup → (∀ x, x ∈ l → 0 ≤ x ∧ x < (k : Int)) → l.length ≤ k
  | 0, l, _, h => by
    cases l with
    | nil => simp
    | cons x l =>
      have := h x (by simp)
      omega
  | k + 1, l, hn, h => by
    by_cases hm : (k : Int) ∈ l
    · have h1 := nodup_len k (l := l.erase (k : Int)) (hn.erase _) fun x hx => by
        have h2 := (hn.mem_erase_iff).1 hx
        have h3 := h x h2.2
        have h4 := h2.1
        omega
      rw [List.length_erase_of_mem hm] at h1
      omega
    · have h1 := nodup_len k (l := l) hn fun x hx => by
        have h2 := h x hx
        have h3 : ¬ x = (k : Int) := fun e => hm (e ▸ hx)
        omega
      omega
theorem okL_len {l : List Int} (h : okL l = true) : l.length ≤ 8 := by
  unfold okL at h
  rw [Bool.and_eq_true] at h
  refine nodup_len 8 (of_decide_eq_true h.2) fun x hx => ?_
  have h1 := List.all_eq_true.1 h.1 x hx
  unfold okI at h1
  rw [Bool.and_eq_true] at h1
  exact ⟨of_decide_eq_true h1.1, of_decide_eq_true h1.2⟩
theorem valid_com {q : Qs} (h : validQ q = true) : q.com.length ≤ 8 := by
  have h1 := okL_len (valid_loc h).2.2.2
  unfold allQ at h1
  rw [List.length_append] at h1
  omega
theorem valid_row {q : Qs} (h : validQ q = true) {xs : List Int} (hx : xs ∈ q.loc) : xs.length ≤ 4 := of_decide_eq_true (List.all_eq_true.1 (valid_loc h).2.2.1 xs hx)
theorem valid_row8 {q : Qs} (h : validQ q = true) : ∀ xs, xs ∈ q.loc → xs.length * 8 ≤ 140737488351232 := fun xs hx => by
  have := valid_row h hx
  omega

/-- Add. -/
def addQ (q : Qs) (p g : Int) : Option Qs :=
  if validQ q = true ∧ 0 ≤ p ∧ p < (q.loc.length : Int) ∧ 0 ≤ g ∧ g < 8 ∧ queuedQ q g = false then
    let own := q.loc.getD p.toNat []
    if own.length < 4 then some ⟨q.loc.set p.toNat (own ++ [g]), q.com⟩ else some ⟨q.loc.set p.toNat (own.drop 2), q.com ++ own.take 2 ++ [g]⟩
  else none
theorem addQ_bad {q : Qs} {p g : Int} (h : validQ q = false ∨ p < 0 ∨ (q.loc.length : Int) ≤ p ∨ g < 0 ∨ 8 ≤ g ∨ queuedQ q g = true) : addQ q p g = none := by
  unfold addQ
  rw [if_neg]
  rintro ⟨h1, h2, h3, h4, h5, h6⟩
  rcases h with h | h | h | h | h | h
  · rw [h] at h1; cases h1
  · omega
  · omega
  · omega
  · omega
  · rw [h] at h6; cases h6
theorem addQ_few {q : Qs} {p : Nat} {g : Int} {own : List Int} (hv : validQ q = true) (ho : q.loc[p]? = some own) (h0 : 0 ≤ g) (h8 : g < 8) (hq : queuedQ q g = false) (hl : own.length < 4) : addQ q p g = some ⟨q.loc.set p (own ++ [g]), q.com⟩ := by
  have hp : p < q.loc.length := (List.getElem?_eq_some_iff.1 ho).1
  unfold addQ
  rw [if_pos ⟨hv, by omega, by omega, h0, h8, hq⟩]
  simp only [Int.toNat_natCast, List.getD_eq_getElem?_getD, ho, Option.getD_some]
  rw [if_pos hl]
theorem addQ_many {q : Qs} {p : Nat} {g : Int} {own : List Int} (hv : validQ q = true) (ho : q.loc[p]? = some own) (h0 : 0 ≤ g) (h8 : g < 8) (hq : queuedQ q g = false) (hl : ¬ own.length < 4) : addQ q p g = some ⟨q.loc.set p (own.drop 2), q.com ++ own.take 2 ++ [g]⟩ := by
  have hp : p < q.loc.length := (List.getElem?_eq_some_iff.1 ho).1
  unfold addQ
  rw [if_pos ⟨hv, by omega, by omega, h0, h8, hq⟩]
  simp only [Int.toNat_natCast, List.getD_eq_getElem?_getD, ho, Option.getD_some]
  rw [if_neg hl]
/-- Add returns run queues, or none and the error. -/
def RetAdd (r : Option Qs) (w : World) (e : Ending) (w' : World) : Prop :=
  match r with
  | some q => RetQE q 0 w e w'
  | none => RetQE noQ 1 w e w'

/-- A slice cut at its front. -/
theorem Sl.drop_ {α : Type} [Rep α] {w : World} {F : Nat → Prop} {b o n k : Nat} {xs : List α} (h : Sl w F (some ⟨b, o, none⟩) n xs) (hk : k ≤ n) : Sl w F (some ⟨b, o + k * Rep.size α, none⟩) (n - k) (xs.drop k) := by
  refine ⟨by rw [List.length_drop, h.1], fun hn => ?_⟩
  obtain ⟨b', o', e, hb, hc⟩ := h.2 (by omega)
  injection e with e
  injection e with e1 e2
  subst e1
  subst e2
  refine ⟨b, _, rfl, hb, fun i x hx => ?_⟩
  rw [List.getElem?_drop] at hx
  obtain ⟨cs, hr, hv⟩ := hc (k + i) x hx
  refine ⟨cs, hr, fun j v hj => ?_⟩
  have := hv j v hj
  rwa [Nat.add_mul, ← Nat.add_assoc] at this
theorem Sl.take_ {α : Type} [Rep α] {w : World} {F : Nat → Prop} {A : Option Addr} {n k : Nat} {xs : List α} (h : Sl w F A n xs) (hk : k ≤ n) : Sl w F A k (xs.take k) := by
  refine ⟨by rw [List.length_take, h.1]; omega, fun hn => ?_⟩
  obtain ⟨b', o', e, hb, hc⟩ := h.2 (by omega)
  refine ⟨b', o', e, hb, fun i x hx => ?_⟩
  rw [List.getElem?_take] at hx
  split at hx
  · exact hc i x hx
  · cases hx

theorem src_int1 {W : World} {F : Nat → Prop} {g : Nat} {y : Int} (hcell : W.cell? ⟨g, 0, none⟩ = some (.int .i64 y)) : Src (α := Int) W F (some ⟨g, 0, none⟩) 1 [y] := by
  refine ⟨rfl, [.int .i64 y], rfl, fun u hu => ?_, fun i x hx => ?_, fun _ => ⟨g, 0, rfl, fun j u hj => ?_⟩⟩
  · simp only [List.mem_singleton] at hu
    subst hu
    rfl
  · cases i with
    | succ i => simp at hx
    | zero =>
      simp only [List.getElem?_cons_zero, Option.some.injEq] at hx
      subst hx
      exact ⟨[.int .i64 y], rfl, fun j u hj => by rw [Nat.zero_mul, Nat.zero_add]; exact hj⟩
  · cases j with
    | succ j => simp at hj
    | zero =>
      simp only [List.getElem?_cons_zero, Option.some.injEq] at hj
      subst hj
      exact hcell
/-- Run queues of the call's own in a box. -/
def QM (w : World) (base k : Nat) (lv cv : Value) (vs : List Value) (q : Qs) : Prop :=
  Blk w k 26 #[lv, cv] ∧ Own (α := Value) w base 24 (fun _ => False) lv vs ∧ Rows w base 3 (cv :: vs) (q.com :: q.loc)
/-- The same, with rows that have changed and whose slices have not been stored. -/
def QT (w : World) (base k : Nat) (lv cv : Value) (vs : List Value) (us : List Value) (xss : List (List Int)) : Prop :=
  Blk w k 26 #[lv, cv] ∧ Own (α := Value) w base 24 (fun _ => False) lv vs ∧ Rows w base 3 us xss
section
variable {w w' : World} {base k : Nat} {lv cv : Value} {vs : List Value} {q : Qs}
theorem QM.ext (h : QM w base k lv cv vs q) (hb : Below w.heap.size w w') : QM w' base k lv cv vs q :=
  ⟨h.1.below hb h.1.lt, h.2.1.ext hb false_lt, h.2.2.ext hb⟩
theorem QT.ext {us : List Value} {xss : List (List Int)} (h : QT w base k lv cv vs us xss) (hb : Below w.heap.size w w') : QT w' base k lv cv vs us xss :=
  ⟨h.1.below hb h.1.lt, h.2.1.ext hb false_lt, h.2.2.ext hb⟩
theorem QM.qt (h : QM w base k lv cv vs q) : QT w base k lv cv vs (cv :: vs) (q.com :: q.loc) := h
theorem QM.len (h : QM w base k lv cv vs q) : vs.length = q.loc.length := QOwn.len h.2.2
theorem Own.cellV {E : TypeId} {F : Nat → Prop} {g n c p : Nat} {v : Value} (h : Own (α := Value) w base E F (.slice (some ⟨g, 0, none⟩) n c) vs) (hv : vs[p]? = some v) : w.cell? ⟨g, p, none⟩ = some v := by
  obtain ⟨us, ⟨hl, ho⟩, he⟩ := h
  rcases ho with ⟨ho, _⟩ | ⟨g', cap, cur, hv', hg, hh, hn, hm, hs, ht⟩
  · cases ho
  · injection hv' with hv1 hv2 hv3
    injection hv1 with hv1
    injection hv1 with hv1
    subst hv1
    obtain ⟨cs, hr, hc⟩ := he p v hv
    obtain ⟨h1, _⟩ : cs = [v] ∧ _ := hr
    subst h1
    have h2 := hc 0 v rfl
    rw [← ht, List.getElem?_take] at h2
    split at h2
    · rw [Blk.cell (t := E) (cs := cur) hh]
      simpa [Rep.size] using h2
    · cases h2
/-- The row at index p. -/
theorem QM.row (h : QM w base k lv cv vs q) {p : Nat} (hp : p < q.loc.length) :
    ∃ gl lc X xs cx, lv = .slice (some ⟨gl, 0, none⟩) q.loc.length lc ∧ vs[p]? = some (.slice X xs.length cx) ∧ q.loc[p]? = some xs ∧ w.cell? ⟨gl, p, none⟩ = some (.slice X xs.length cx) ∧ w.frozen? ⟨gl, p, none⟩ = false ∧
      Own w base 3 (fun _ => False) (.slice X xs.length cx) xs ∧ base ≤ gl ∧ gl < w.heap.size ∧ gl ≠ k ∧ q.loc.length ≤ lc ∧ lc ≤ maxLen ∧ xs.length ≤ cx ∧ cx ≤ maxLen := by
  have hl := h.len
  obtain ⟨L, lc, rfl, h1, h2, h3⟩ := h.2.1.slice
  obtain ⟨gl, cur, rfl, hg, hg', hb, hs⟩ := h.2.1.blk rfl (by omega)
  have hv : vs[p]? = some (vs[p]'(by omega)) := List.getElem?_eq_getElem _
  have hx : q.loc[p]? = some q.loc[p] := List.getElem?_eq_getElem _
  have ho := h.2.2.2.1 (p + 1) (vs[p]'(by omega)) q.loc[p] (by simp) (by simp)
  obtain ⟨X, cx, hX, hx1, hx2, _⟩ := ho.slice
  rw [hX] at hv ho
  rw [hl] at h1 ⊢
  refine ⟨gl, lc, X, _, cx, rfl, hv, hx, Own.cellV (hl ▸ h.2.1) hv, hb.frozen p, ho, hg, hg', fun e => ?_, h1, h2, hx1, hx2⟩
  subst e
  have h4 := h.1
  unfold Blk at h4 hb
  rw [h4] at hb
  injection hb with hb
  injection hb with _ hb
  exact absurd hb (by decide)
/-- A row has grown. -/
theorem QM.grow (h : QM w base k lv cv vs q) {p : Nat} {v v' : Value} {xs : List Int} (hv : vs[p]? = some v) (hg : w.grownBy w' v.ownBlock) (hat : v'.ownBlock = v.ownBlock ∨ v'.ownBlock = some w.heap.size) (ho : Own w' base 3 (fun _ => False) v' xs) :
    QT w' base k lv cv vs (cv :: vs.set p v') (q.com :: q.loc.set p xs) := by
  have hv' : (cv :: vs)[p + 1]? = some v := by simpa using hv
  obtain ⟨ys, hys, hoo⟩ := h.2.2.get hv'
  refine ⟨h.1.grown hg (hoo.ne h.1 (by decide)), ?_, by simpa using h.2.2.grown hv' hg hat ho⟩
  exact h.2.1.keep (fun _ h => h.elim) fun g hgl => hg.block g (h.2.1.lt_ hgl).2 fun e => (hoo.apart h.2.1 (by decide) e.symm) hgl
/-- A row in memory that was not there. -/
theorem QM.fresh (h : QM w base k lv cv vs q) (hb : Below w.heap.size w w') (hbase : base ≤ w.heap.size) {p : Nat} {v' : Value} {xs : List Int} (ho : Own w' w.heap.size 3 (fun _ => False) v' xs) :
    QT w' base k lv cv vs (cv :: vs.set p v') (q.com :: q.loc.set p xs) := by
  refine ⟨h.1.below hb h.1.lt, h.2.1.ext hb false_lt, ?_⟩
  have := h.2.2.fresh hb hbase (i := p + 1) ho
  simpa using this
/-- The row's slice is stored. -/
theorem QT.store {gl n lc p : Nat} {X : Option Addr} {cx m : Nat} {xs : List Int} (h : QT w base k (.slice (some ⟨gl, 0, none⟩) n lc) cv vs (cv :: vs.set p (.slice X m cx)) (q.com :: q.loc.set p xs)) (hp : p < vs.length) :
    QM (w.setCell ⟨gl, p, none⟩ (.slice X m cx)) base k (.slice (some ⟨gl, 0, none⟩) n lc) cv (vs.set p (.slice X m cx)) ⟨q.loc.set p xs, q.com⟩ := by
  obtain ⟨L, lc', e, _⟩ := h.2.1.slice
  injection e with e1 e2 e3
  subst e1
  subst e2
  obtain ⟨gl', cur, e, hg, hg', hb, hs⟩ := h.2.1.blk rfl (by omega)
  injection e with e
  injection e with e
  subst e
  have hne : gl ≠ k := fun e => by
    subst e
    have h4 := h.1
    unfold Blk at h4 hb
    rw [h4] at hb
    injection hb with hb
    injection hb with _ hb
    exact absurd hb (by decide)
  refine ⟨h.1.far (p := ⟨gl, p, none⟩) (fun e => hne e.symm) _, ?_, h.2.2.setCell _ hb (by decide)⟩
  refine h.2.1.stored (y := .slice X m cx) (cs := [.slice X m cx]) hp ⟨rfl, rfl⟩ (fun cur' hc => ?_) fun q hq => hq.elim
  have := hc.set_ p (.slice X m cx)
  simpa [setRow, Rep.size] using this
theorem QT.cell {gl n lc p : Nat} {us : List Value} {xss : List (List Int)} {v : Value} (h : QT w base k (.slice (some ⟨gl, 0, none⟩) n lc) cv vs us xss) (hv : vs[p]? = some v) : w.cell? ⟨gl, p, none⟩ = some v ∧ w.frozen? ⟨gl, p, none⟩ = false := by
  have hp : p < vs.length := (List.getElem?_eq_some_iff.1 hv).1
  obtain ⟨L, lc', e, _⟩ := h.2.1.slice
  injection e with e1 e2 e3
  subst e1
  subst e2
  obtain ⟨gl', cur, e, hg, hg', hb, hs⟩ := h.2.1.blk rfl (by omega)
  injection e with e
  injection e with e
  subst e
  exact ⟨Own.cellV h.2.1 hv, hb.frozen p⟩
/-- The common queue has grown, and its slice is stored. -/
theorem QM.growCom (h : QM w base k lv cv vs q) {cv' : Value} {xs : List Int} (hg : w.grownBy w' cv.ownBlock) (hat : cv'.ownBlock = cv.ownBlock ∨ cv'.ownBlock = some w.heap.size) (ho : Own w' base 3 (fun _ => False) cv' xs) :
    QM (w'.setCell ⟨k, 1, none⟩ cv') base k lv cv' vs ⟨q.loc, xs⟩ := by
  have hv' : (cv :: vs)[0]? = some cv := rfl
  have hoo := h.2.2.2.1 0 cv q.com rfl rfl
  have hb : Blk w' k 26 #[lv, cv] := h.1.grown hg (hoo.ne h.1 (by decide))
  have hlo : Own (α := Value) w' base 24 (fun _ => False) lv vs := h.2.1.keep (fun _ h => h.elim) fun g hgl => hg.block g (h.2.1.lt_ hgl).2 fun e => (hoo.apart h.2.1 (by decide) e.symm) hgl
  have hr : Rows w' base 3 (cv' :: vs) (xs :: q.loc) := by simpa using h.2.2.grown hv' hg hat ho
  exact ⟨hb.set_ 1 cv', hlo.setCell _ (fun h => h) (hlo.ne hb (by decide)), hr.setCell _ hb (by decide)⟩
theorem QM.com (h : QM w base k lv cv vs q) : ∃ C d, cv = .slice C q.com.length d ∧ q.com.length ≤ d ∧ d ≤ maxLen ∧ Own w base 3 (fun _ => False) cv q.com := by
  have ho := h.2.2.2.1 0 cv q.com rfl rfl
  obtain ⟨C, d, e, h1, h2, _⟩ := ho.slice
  exact ⟨C, d, e, h1, h2, ho⟩
/-- One of the rows has grown. -/
theorem QT.grow {us : List Value} {xss : List (List Int)} (h : QT w base k lv cv vs us xss) {i : Nat} {v v' : Value} {xs : List Int} (hv : us[i]? = some v) (hg : w.grownBy w' v.ownBlock) (hat : v'.ownBlock = v.ownBlock ∨ v'.ownBlock = some w.heap.size) (ho : Own w' base 3 (fun _ => False) v' xs) :
    QT w' base k lv cv vs (us.set i v') (xss.set i xs) := by
  obtain ⟨ys, hys, hoo⟩ := h.2.2.get hv
  exact ⟨h.1.grown hg (hoo.ne h.1 (by decide)), h.2.1.keep (fun _ h => h.elim) fun g hgl => hg.block g (h.2.1.lt_ hgl).2 fun e => (hoo.apart h.2.1 (by decide) e.symm) hgl, h.2.2.grown hv hg hat ho⟩
theorem QT.storeCom {cv' : Value} {xs : List Int} {loc : List (List Int)} (h : QT w base k lv cv vs (cv' :: vs) (xs :: loc)) : QM (w.setCell ⟨k, 1, none⟩ cv') base k lv cv' vs ⟨loc, xs⟩ :=
  ⟨h.1.set_ 1 cv', h.2.1.setCell _ (fun h => h) (h.2.1.ne h.1 (by decide)), h.2.2.setCell _ h.1 (by decide)⟩
/-- Stored into a box. -/
theorem QM.boxed {lv0 cv0 : Value} (hb : Blk w k 26 #[lv0, cv0]) (ho : Own (α := Value) w base 24 (fun _ => False) lv vs) (hr : Rows w base 3 (cv :: vs) (q.com :: q.loc)) :
    QM ((w.setCell ⟨k, 0, none⟩ lv).setCell ⟨k, 1, none⟩ cv) base k lv cv vs q := by
  refine ⟨(hb.set_ 0 _).set_ 1 _, (ho.setCell _ (fun h => h) (ho.ne hb (by decide))).setCell _ (fun h => h) (ho.ne hb (by decide)), (hr.setCell _ hb (by decide)).setCell _ (hb.set_ 0 _) (by decide)⟩
/-- A store into another box. -/
theorem QM.other {u : Value} {k' o : Nat} {cs : Array Value} (h : QM w base k lv cv vs q) (hb : Blk w k' 26 cs) (hne : k ≠ k') : QM (w.setCell ⟨k', o, none⟩ u) base k lv cv vs q :=
  ⟨h.1.far (p := ⟨k', o, none⟩) hne u, h.2.1.setCell _ (fun h => h) (h.2.1.ne hb (by decide)), h.2.2.setCell _ hb (by decide)⟩
theorem QM.own (h : QM w base k lv cv vs q) : QOwn w base (.agg #[lv, cv]) q := ⟨lv, cv, vs, rfl, h.2.1, h.2.2⟩
/-- What a call returns. -/
theorem QM.ret {w0 : World} {err : Int} (h : QM w base k lv cv vs q) (hb : Below w0.heap.size w0 w) : RetQE q err w0 (.returned (.tuple #[.agg #[lv, cv], .int .i64 err])) w := by
  obtain ⟨A, c, C, d, e, h1, h2, h3, h4, h5, h6⟩ := h.own.reads
  exact ⟨A, _, c, C, _, d, by rw [e], h1, h2, h3, h4, h5, h6, hb⟩
end

/-- The blocks that a call has made. -/
abbrev fr (lo hi : Nat) : Nat → Prop := fun b => lo ≤ b ∧ b < hi
theorem Own.sl_fr {α : Type} [Rep α] {w : World} {base : Nat} {E : TypeId} {v : Value} {xs : List α} (h : Own w base E (fun _ => False) v xs) :
    ∃ A c, v = .slice A xs.length c ∧ xs.length ≤ c ∧ c ≤ maxLen ∧ Sl w (fr base w.heap.size) A xs.length xs := by
  obtain ⟨vs, ⟨hl, ho⟩, he⟩ := h
  rcases ho with ⟨rfl, h0⟩ | ⟨g, cap, cur, rfl, hg, hh, hn, hm, hs, ht⟩
  · have : xs = [] := List.eq_nil_of_length_eq_zero h0
    subst this
    exact ⟨none, 0, rfl, Nat.le_refl _, Nat.zero_le _, Sl.nil⟩
  · refine ⟨some ⟨g, 0, none⟩, cap, rfl, hn, hm, rfl, fun _ => ⟨g, 0, rfl, ⟨hg, Blk.lt (t := E) (cs := cur) hh⟩, fun i x hx => ?_⟩⟩
    obtain ⟨cs, hr, hc⟩ := he i x hx
    refine ⟨cs, Rep.mono (fun _ h => h.elim) hr, fun j u hj => ?_⟩
    have h1 := hc j u hj
    rw [← ht, List.getElem?_take] at h1
    split at h1
    · rw [Nat.zero_add, Blk.cell (t := E) (cs := cur) hh]
      simpa using h1
    · cases h1
/-- A call that returns run queues in memory that it has made, and an error. -/
def RetQF (q : Qs) (err : Int) (w : World) (e : Ending) (w' : World) : Prop :=
  ∃ A n c C m d, e = .returned (.tuple #[.agg #[.slice A n c, .slice C m d], .int .i64 err]) ∧ n ≤ c ∧ c ≤ maxLen ∧ m ≤ d ∧ d ≤ maxLen ∧ Sl w' (fr w.heap.size w'.heap.size) A n q.loc ∧ Sl w' (fr w.heap.size w'.heap.size) C m q.com ∧ Below w.heap.size w w'
theorem RetQF.e {q : Qs} {err : Int} {w w' : World} {e : Ending} (h : RetQF q err w e w') : RetQE q err w e w' := by
  obtain ⟨A, n, c, C, m, d, h1, h2, h3, h4, h5, h6, h7, h8⟩ := h
  exact ⟨A, n, c, C, m, d, h1, h2, h3, h4, h5, h6.wide fun _ h => h.2, h7.wide fun _ h => h.2, h8⟩
theorem QM.retF {w w0 : World} {k : Nat} {lv cv : Value} {vs : List Value} {q : Qs} {err : Int} (h : QM w w0.heap.size k lv cv vs q) (hb : Below w0.heap.size w0 w) : RetQF q err w0 (.returned (.tuple #[.agg #[lv, cv], .int .i64 err])) w := by
  have hl := h.len
  obtain ⟨A, c, rfl, h1, h2, h3⟩ := h.2.1.sl_fr
  obtain ⟨C, d, rfl, h4, h5, h6⟩ := (h.2.2.2.1 0 cv q.com rfl rfl).sl_fr
  rw [hl] at h1 h3 ⊢
  refine ⟨A, _, c, C, _, d, rfl, h1, h2, h4, h5, h3.lists (fun b h => h) rfl fun i v xs hv hx => ?_, h6, hb⟩
  obtain ⟨X, cx, rfl, x1, x2, x3⟩ := (h.2.2.2.1 (i + 1) v xs (by simpa using hv) (by simpa using hx)).sl_fr
  exact ⟨X, _, cx, rfl, x1, x2, x3⟩

end Go.Proofs.Ytepcbgbmmmhglaa

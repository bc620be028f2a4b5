/- Next: what it answers; run queues that read as such in a box. Plain. -/
import Derived.Test.YtepcbgbmmmhglaaQ22
namespace Go.Proofs.Ytepcbgbmmmhglaa
open Go.RowKit

/-- How many a thief takes. -/
def halfUp (l : List Int) : Nat := l.length - l.length / 2
/-- What is taken from queue v for queue p. -/
def takeAt (q : Qs) (p v : Nat) (l : List Int) : Qs := ⟨(q.loc.set v (l.drop (halfUp l))).set p ((l.take (halfUp l)).drop 1), q.com⟩
def victim (n r i : Nat) : Nat := (r % n + i) % n
theorem victim_eq {n r k : Nat} (hn : 0 < n) (hn4 : n ≤ 4) (hk : k < n) : (IntKind.i64.wrap ((r : Int).tmod (n : Int) + (k : Int))).tmod (n : Int) = ((victim n r k : Nat) : Int) := by
  have h1 : (r : Int).tmod (n : Int) = ((r % n : Nat) : Int) := by rw [Int.tmod_eq_emod_of_nonneg (Int.natCast_nonneg _)]; rfl
  have h2 : r % n < n := Nat.mod_lt _ hn
  have h3 : ((r % n : Nat) : Int) + (k : Int) = ((r % n + k : Nat) : Int) := by omega
  rw [h1, h3, IntWalk.i64_in _ (by omega), Int.tmod_eq_emod_of_nonneg (Int.natCast_nonneg _)]
  rfl
theorem victim_eq2 {n r k : Nat} (hn : 0 < n) (hn4 : n ≤ 4) (hk : k < n) : (wrap64 ((r : Int) % (n : Int) + (k : Int))).tmod (n : Int) = ((victim n r k : Nat) : Int) := by
  have h := victim_eq (r := r) hn hn4 hk
  rw [Int.tmod_eq_emod_of_nonneg (Int.natCast_nonneg r), IntWalk.i64_left] at h
  exact h
def stealQ (q : Qs) (p r : Nat) : Option (Qs × Int) :=
  match (List.range q.loc.length).find? (fun i => !(q.loc.getD (victim q.loc.length r i) []).isEmpty) with
  | some i => some (takeAt q p (victim q.loc.length r i) (q.loc.getD (victim q.loc.length r i) []), (q.loc.getD (victim q.loc.length r i) []).headD 0)
  | none => none
/-- Next. -/
def nextQ (q : Qs) (p r : Int) : Option (Qs × Int) :=
  if validQ q = true ∧ 0 ≤ p ∧ p < (q.loc.length : Int) ∧ 0 ≤ r then
    match q.loc.getD p.toNat [] with
    | x :: rest => some (⟨q.loc.set p.toNat rest, q.com⟩, x)
    | [] =>
      match q.com with
      | x :: rest => some (⟨q.loc, rest⟩, x)
      | [] => stealQ q p.toNat r.toNat
  else none
theorem nextQ_bad {q : Qs} {p r : Int} (h : validQ q = false ∨ p < 0 ∨ (q.loc.length : Int) ≤ p ∨ r < 0) : nextQ q p r = none := by
  unfold nextQ
  rw [if_neg]
  rintro ⟨h1, h2, h3, h4⟩
  rcases h with h | h | h | h
  · rw [h] at h1; cases h1
  · omega
  · omega
  · omega
section
variable {q : Qs} {p r : Nat}
theorem nextQ_own {x : Int} {rest : List Int} (hv : validQ q = true) (ho : q.loc[p]? = some (x :: rest)) : nextQ q p r = some (⟨q.loc.set p rest, q.com⟩, x) := by
  have hp : p < q.loc.length := (List.getElem?_eq_some_iff.1 ho).1
  unfold nextQ
  rw [if_pos ⟨hv, by omega, by omega, by omega⟩]
  simp only [Int.toNat_natCast, List.getD_eq_getElem?_getD, ho, Option.getD_some]
theorem nextQ_com {x : Int} {rest : List Int} (hv : validQ q = true) (ho : q.loc[p]? = some []) (hc : q.com = x :: rest) : nextQ q p r = some (⟨q.loc, rest⟩, x) := by
  have hp : p < q.loc.length := (List.getElem?_eq_some_iff.1 ho).1
  unfold nextQ
  rw [if_pos ⟨hv, by omega, by omega, by omega⟩]
  simp only [Int.toNat_natCast, List.getD_eq_getElem?_getD, ho, Option.getD_some, hc]
theorem nextQ_steal (hv : validQ q = true) (ho : q.loc[p]? = some []) (hc : q.com = []) : nextQ q p r = stealQ q p r := by
  have hp : p < q.loc.length := (List.getElem?_eq_some_iff.1 ho).1
  unfold nextQ
  rw [if_pos ⟨hv, by omega, by omega, by omega⟩]
  simp only [Int.toNat_natCast, List.getD_eq_getElem?_getD, ho, Option.getD_some, hc]
theorem stealQ_none (h : ∀ i, i < q.loc.length → q.loc.getD (victim q.loc.length r i) [] = []) : stealQ q p r = none := by
  unfold stealQ
  have : (List.range q.loc.length).find? (fun i => !(q.loc.getD (victim q.loc.length r i) []).isEmpty) = none := by
    rw [List.find?_eq_none]
    intro i hi
    rw [h i (List.mem_range.1 hi)]
    simp
  rw [this]
theorem stealQ_at {i : Nat} {l : List Int} (hi : i < q.loc.length) (h : ∀ j, j < i → q.loc.getD (victim q.loc.length r j) [] = []) (hl : q.loc[victim q.loc.length r i]? = some l) (hne : 0 < l.length) : stealQ q p r = some (takeAt q p (victim q.loc.length r i) l, l.headD 0) := by
  have hg : q.loc.getD (victim q.loc.length r i) [] = l := by rw [List.getD_eq_getElem?_getD, hl]; rfl
  unfold stealQ
  have : (List.range q.loc.length).find? (fun i => !(q.loc.getD (victim q.loc.length r i) []).isEmpty) = some i := by
    rw [List.find?_range_eq_some]
    refine ⟨?_, List.mem_range.2 hi, fun j hj => ?_⟩
    · rw [hg]
      cases l with
      | nil => simp at hne
      | cons x l => rfl
    · rw [h j hj]
      rfl
  rw [this]
  simp only [hg]
end

theorem getD_headD (l : List Int) : l.getD 0 0 = l.headD 0 := by cases l <;> rfl
/-- A call that returns run queues, a goroutine and whether there is one. -/
def RetQG (q : Qs) (g : Int) (ok : Bool) (w : World) (e : Ending) (w' : World) : Prop :=
  ∃ A n c C m d, e = .returned (.tuple #[.agg #[.slice A n c, .slice C m d], .int .i64 g, .bool ok]) ∧ n ≤ c ∧ c ≤ maxLen ∧ m ≤ d ∧ d ≤ maxLen ∧ Sl w' (lt w'.heap.size) A n q.loc ∧ Sl w' (lt w'.heap.size) C m q.com ∧ Below w.heap.size w w'
def RetNext (r : Option (Qs × Int)) (w : World) (e : Ending) (w' : World) : Prop :=
  match r with
  | some (q, g) => RetQG q g true w e w'
  | none => RetQG noQ 0 false w e w'
theorem RetQG.nothing {w w' : World} (hb : Below w.heap.size w w') : RetNext none w (.returned (.tuple #[.agg #[.slice none 0 0, .slice none 0 0], .int .i64 0, .bool false])) w' :=
  ⟨none, 0, 0, none, 0, 0, rfl, Nat.le_refl _, Nat.zero_le _, Nat.le_refl _, Nat.zero_le _, Sl.nil, Sl.nil, hb⟩

theorem Sl.cut {w : World} {F : Nat → Prop} {b o n k : Nat} {A' : Option Addr} {xs : List Int} (h : Sl w F (some ⟨b, o, none⟩) n xs) (hk : k ≤ n) (hA : k < n → A' = some ⟨b, o + k, none⟩) : Sl w F A' (n - k) (xs.drop k) := by
  rcases Nat.lt_or_ge k n with hlt | hge
  · rw [hA hlt]
    have := h.drop_ hk
    simpa [Rep.size] using this
  · obtain rfl : k = n := by omega
    rw [Nat.sub_self, List.drop_of_length_le (by rw [h.1]; exact Nat.le_refl _)]
    exact Sl.nil
theorem Src.len' {w : World} {F : Nat → Prop} {A : Option Addr} {n m : Nat} {xs : List Int} (h : Src w F A n xs) (hm : xs.length = m) : Src w F A m xs := by
  have := h.1
  obtain rfl : n = m := by omega
  exact h
/-- A slice of numbers that reads as a list, in blocks of numbers. -/
def Rd (w : World) (v : Value) (xs : List Int) : Prop := Rep.cells w (fun b => ∃ cs, Blk w b 3 cs) xs [v]
section
variable {w w' : World} {v : Value} {xs : List Int}
theorem Rd.ext (h : Rd w v xs) (hb : Below w.heap.size w w') : Rd w' v xs :=
  Rep.mono (fun _ ⟨cs, hc⟩ => ⟨cs, hc.below hb hc.lt⟩) (Rep.keep (w' := w') (fun _ ⟨_, hc⟩ => hb.cell hc.lt) h)
theorem Rd.set (h : Rd w v xs) {g o : Nat} {t : TypeId} {ds : Array Value} (hg : Blk w g t ds) (ht : 3 ≠ t) (u : Value) : Rd (w.setCell ⟨g, o, none⟩ u) v xs := by
  have hne : ∀ b cs, Blk w b 3 cs → b ≠ g := fun b cs hc e => by
    subst e
    unfold Blk at hc hg
    rw [hc] at hg
    injection hg with hg
    injection hg with _ hg
    exact ht hg
  exact Rep.mono (fun b ⟨cs, hc⟩ => ⟨cs, hc.far (p := ⟨g, o, none⟩) (hne b cs hc) u⟩) (Rep.keep (w' := w.setCell ⟨g, o, none⟩ u) (fun p ⟨cs, hc⟩ => World.cell?_setCell_other w ⟨g, o, none⟩ p u (fun e => hne _ cs hc (by rw [← e]))) h)
theorem Own.rd {base : Nat} (h : Own w base 3 (fun _ => False) v xs) : Rd w v xs := by
  obtain ⟨A, c, rfl, h1, h2, -⟩ := h.slice
  refine ⟨A, _, c, rfl, h1, h2, ?_⟩
  obtain ⟨A', c', e, -, -, h3⟩ := h.sl false_lt
  injection e with e1 e2 e3
  subst e1
  refine ⟨h3.1, fun hn => ?_⟩
  obtain ⟨b, o, e, hb, hc⟩ := h3.2 hn
  obtain ⟨g, cur, e', -, -, hk, -⟩ := h.blk rfl hn
  rw [e'] at e
  injection e with e
  injection e with e1 e2
  subst e1
  subst e2
  refine ⟨g, 0, e', ⟨cur, hk⟩, fun i x hx => ?_⟩
  obtain ⟨cs, hr, hv⟩ := hc i x hx
  exact ⟨cs, hr, hv⟩
theorem Rd.one (h : Rd w v xs) : v.oneCell' = true := by
  obtain ⟨A, n, c, e, _⟩ := h
  injection e with e
  subst e
  rfl
theorem Rd.drop {b o n c k : Nat} {A' : Option Addr} (h : Rd w (.slice (some ⟨b, o, none⟩) n c) xs) (hk : k ≤ n) (hA : k < n → A' = some ⟨b, o + k, none⟩) : Rd w (.slice A' (n - k) (c - k)) (xs.drop k) := by
  obtain ⟨A, n', c', e, h1, h2, h3⟩ := h
  injection e with e
  injection e with e1 e2 e3
  subst e1
  subst e2
  subst e3
  refine ⟨A', n - k, c - k, rfl, by omega, by omega, ?_⟩
  rcases Nat.lt_or_ge k n with hlt | hge
  · rw [hA hlt]
    have := h3.drop_ hk
    simpa [Rep.size] using this
  · obtain rfl : k = n := by omega
    rw [Nat.sub_self, List.drop_of_length_le (by rw [h3.1]; exact Nat.le_refl _)]
    exact Sl.nil
theorem Rd.take {A : Option Addr} {n c k k' : Nat} (h : Rd w (.slice A n c) xs) (hk : k ≤ n) (hk' : k ≤ k') (hk63 : k' ≤ maxLen) : Rd w (.slice A k k') (xs.take k) := by
  obtain ⟨A, n', c', e, h1, h2, h3⟩ := h
  injection e with e
  injection e with e1 e2 e3
  subst e1
  subst e2
  subst e3
  exact ⟨_, k, k', rfl, hk', hk63, h3.take_ hk⟩
theorem Rd.sl {A : Option Addr} {n c : Nat} (h : Rd w (.slice A n c) xs) : Sl w (lt w.heap.size) A n xs := by
  obtain ⟨A, n', c', e, h1, h2, h3⟩ := Rep.mono (F' := lt w.heap.size) (fun _ ⟨_, hc⟩ => hc.lt) h
  injection e with e
  injection e with e1 e2 e3
  subst e1
  subst e2
  exact h3
theorem halfUp_le (l : List Int) : halfUp l ≤ l.length := by unfold halfUp; omega
theorem halfUp_pos {l : List Int} (h : 0 < l.length) : 1 ≤ halfUp l := by unfold halfUp; omega
theorem Rd.below (h : Rd w v xs) : Rep.cells w (lt w.heap.size) xs [v] := Rep.mono (fun _ ⟨_, hc⟩ => hc.lt) h
end

/-- Run queues in a box that read as such. -/
def RQ (w : World) (base k : Nat) (lv cv : Value) (vs : List Value) (q : Qs) : Prop :=
  Blk w k 26 #[lv, cv] ∧ Own (α := Value) w base 24 (fun _ => False) lv vs ∧ vs.length = q.loc.length ∧ Rd w cv q.com ∧ ∀ (i : Nat) (v : Value) (xs : List Int), vs[i]? = some v → q.loc[i]? = some xs → Rd w v xs
section
variable {w w' : World} {base k : Nat} {lv cv : Value} {vs : List Value} {q : Qs}
theorem QM.rq (h : QM w base k lv cv vs q) : RQ w base k lv cv vs q :=
  ⟨h.1, h.2.1, h.len, (h.2.2.2.1 0 cv q.com rfl rfl).rd, fun i v xs hv hx => (h.2.2.2.1 (i + 1) v xs (by simpa using hv) (by simpa using hx)).rd⟩
theorem RQ.ext (h : RQ w base k lv cv vs q) (hb : Below w.heap.size w w') : RQ w' base k lv cv vs q :=
  ⟨h.1.below hb h.1.lt, h.2.1.ext hb false_lt, h.2.2.1, h.2.2.2.1.ext hb, fun i v xs hv hx => (h.2.2.2.2 i v xs hv hx).ext hb⟩
theorem RQ.cell {gl n lc p : Nat} {v : Value} (h : RQ w base k (.slice (some ⟨gl, 0, none⟩) n lc) cv vs q) (hv : vs[p]? = some v) : w.cell? ⟨gl, p, none⟩ = some v ∧ w.frozen? ⟨gl, p, none⟩ = false := by
  have hp : p < vs.length := (List.getElem?_eq_some_iff.1 hv).1
  obtain ⟨L, lc', e, _⟩ := h.2.1.slice
  injection e with e1 e2 e3
  subst e1
  subst e2
  obtain ⟨gl', cur, e, hg, hg', hb, hs⟩ := h.2.1.blk rfl (by omega)
  injection e with e
  injection e with e
  subst e
  exact ⟨Own.cellV h.2.1 hv, hb.frozen p⟩
theorem RQ.putRow {gl n lc p : Nat} {v' : Value} {xs' : List Int} (h : RQ w base k (.slice (some ⟨gl, 0, none⟩) n lc) cv vs q) (hp : p < vs.length) (hr : Rd w v' xs') :
    RQ (w.setCell ⟨gl, p, none⟩ v') base k (.slice (some ⟨gl, 0, none⟩) n lc) cv (vs.set p v') ⟨q.loc.set p xs', q.com⟩ := by
  obtain ⟨L, lc', e, _⟩ := h.2.1.slice
  injection e with e1 e2 e3
  subst e1
  subst e2
  obtain ⟨gl', cur, e, hg, hg', hb, hs⟩ := h.2.1.blk rfl (by omega)
  injection e with e
  injection e with e
  subst e
  have hne : gl ≠ k := fun e => by
    subst e
    have h4 := h.1
    unfold Blk at h4 hb
    rw [h4] at hb
    injection hb with hb
    injection hb with _ hb
    exact absurd hb (by decide)
  refine ⟨h.1.far (p := ⟨gl, p, none⟩) (fun e => hne e.symm) _, ?_, by simp [h.2.2.1], h.2.2.2.1.set hb (by decide) _, fun i v xs hv hx => ?_⟩
  · refine h.2.1.stored (y := v') (cs := [v']) hp ⟨rfl, hr.one⟩ (fun cur' hc => ?_) fun q hq => hq.elim
    have := hc.set_ p v'
    simpa [setRow, Rep.size] using this
  · by_cases hpi : p = i
    · subst hpi
      have hp' : p < q.loc.length := by rw [← h.2.2.1]; exact hp
      rw [List.getElem?_set_self hp] at hv
      rw [List.getElem?_set_self hp'] at hx
      injection hv with hv
      injection hx with hx
      subst hv
      subst hx
      exact hr.set hb (by decide) _
    · rw [List.getElem?_set_ne hpi] at hv hx
      exact (h.2.2.2.2 i v xs hv hx).set hb (by decide) _
theorem RQ.keepRd {gl n lc p : Nat} {u v' : Value} {xs' : List Int} (h : RQ w base k (.slice (some ⟨gl, 0, none⟩) n lc) cv vs q) (hp : p < vs.length) (hr : Rd w v' xs') : Rd (w.setCell ⟨gl, p, none⟩ u) v' xs' := by
  obtain ⟨L, lc', e, _⟩ := h.2.1.slice
  injection e with e1 e2 e3
  subst e1
  subst e2
  obtain ⟨gl', cur, e, hg, hg', hb, hs⟩ := h.2.1.blk rfl (by omega)
  injection e with e
  injection e with e
  subst e
  exact hr.set hb (by decide) _
theorem RQ.putCom {cv' : Value} {xs' : List Int} (h : RQ w base k lv cv vs q) (hr : Rd w cv' xs') : RQ (w.setCell ⟨k, 1, none⟩ cv') base k lv cv' vs ⟨q.loc, xs'⟩ :=
  ⟨h.1.set_ 1 cv', h.2.1.setCell _ (fun h => h) (h.2.1.ne h.1 (by decide)), h.2.2.1, hr.set h.1 (by decide) _, fun i v xs hv hx => (h.2.2.2.2 i v xs hv hx).set h.1 (by decide) _⟩
theorem RQ.other {u : Value} {k' o : Nat} {cs : Array Value} (h : RQ w base k lv cv vs q) (hb : Blk w k' 26 cs) (hne : k ≠ k') : RQ (w.setCell ⟨k', o, none⟩ u) base k lv cv vs q :=
  ⟨h.1.far (p := ⟨k', o, none⟩) hne u, h.2.1.setCell _ (fun h => h) (h.2.1.ne hb (by decide)), h.2.2.1, h.2.2.2.1.set hb (by decide) _, fun i v xs hv hx => (h.2.2.2.2 i v xs hv hx).set hb (by decide) _⟩
theorem RQ.ret {w0 : World} {g : Int} {ok : Bool} (h : RQ w base k lv cv vs q) (hb : Below w0.heap.size w0 w) : RetQG q g ok w0 (.returned (.tuple #[.agg #[lv, cv], .int .i64 g, .bool ok])) w := by
  obtain ⟨A, c, rfl, h1, h2, h3⟩ := h.2.1.sl false_lt
  obtain ⟨C, m, d, e, h4, h5, h6⟩ := h.2.2.2.1.below
  injection e with e
  subst e
  exact ⟨A, _, c, C, m, d, rfl, h1, h2, h4, h5, h3.lists (fun b h => h) h.2.2.1.symm fun i v xs hv hx => (h.2.2.2.2 i v xs hv hx).below, h6, hb⟩
end

end Go.Proofs.Ytepcbgbmmmhglaa

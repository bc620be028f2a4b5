/- Equality of lists and of steps; Less. -/
import Derived.Test.YtlbgmegciomofaaW8
namespace Go.Proofs.Ytlbgmegciomofaa
open Go.RowKit

def eqBy {α : Type} (f : α → α → Bool) : List α → List α → Bool
  | [], [] => true
  | x :: xs, y :: ys => f x y && eqBy f xs ys
  | _, _ => false
theorem eqBy_len {α : Type} {f : α → α → Bool} : ∀ {xs ys : List α}, xs.length ≠ ys.length → eqBy f xs ys = false
  | [], [], h => absurd rfl h
  | [], _ :: _, _ => rfl
  | _ :: _, [], _ => rfl
  | x :: xs, y :: ys, h => by
    unfold eqBy
    rw [eqBy_len (xs := xs) (ys := ys) (by simpa using h), Bool.and_false]
theorem eqBy_no {α : Type} {f : α → α → Bool} : ∀ {xs ys : List α} {k : Nat} {x y : α}, xs[k]? = some x → ys[k]? = some y → f x y = false → eqBy f xs ys = false
  | [], _, _, _, _, h, _, _ => by simp at h
  | _ :: _, [], _, _, _, _, h, _ => by simp at h
  | x :: xs, y :: ys, 0, a, b, h1, h2, h3 => by
    simp at h1 h2
    subst h1
    subst h2
    unfold eqBy
    rw [h3]
    rfl
  | x :: xs, y :: ys, k + 1, a, b, h1, h2, h3 => by
    unfold eqBy
    rw [eqBy_no (k := k) (by simpa using h1) (by simpa using h2) h3, Bool.and_false]
theorem eqBy_yes {α : Type} {f : α → α → Bool} : ∀ {xs ys : List α} {n : Nat}, xs.length = n → ys.length = n → (∀ k x y, k < n → xs[k]? = some x → ys[k]? = some y → f x y = true) → eqBy f xs ys = true
  | [], [], _, _, _, _ => rfl
  | [], _ :: _, _, h, h', _ => by simp at h h'; omega
  | _ :: _, [], _, h, h', _ => by simp at h h'; omega
  | x :: xs, y :: ys, n, h, h', H => by
    unfold eqBy
    simp only [List.length_cons] at h h'
    rw [H 0 x y (by omega) rfl rfl, eqBy_yes (n := n - 1) (by omega) (by omega) fun k a b hk ha hb => H (k + 1) a b (by omega) (by simpa using ha) (by simpa using hb)]
    rfl
theorem eq_more {α : Type} {f : α → α → Bool} {xs ys : List α} {k : Nat} (h : ∀ j x y, j < k → xs[j]? = some x → ys[j]? = some y → f x y = true) {x y : α} (hx : xs[k]? = some x) (hy : ys[k]? = some y) (hf : f x y = true) :
    ∀ j x y, j < k + 1 → xs[j]? = some x → ys[j]? = some y → f x y = true := by
  intro j a b hj ha hb
  rcases Nat.lt_or_ge j k with h' | h'
  · exact h j a b h' ha hb
  · obtain rfl : j = k := by omega
    rw [hx] at ha
    rw [hy] at hb
    injection ha with ha
    injection hb with hb
    rw [← ha, ← hb]
    exact hf
def eqI (x y : Int) : Bool := x == y
def eqInts (xs ys : List Int) : Bool := eqBy eqI xs ys

set_option maxHeartbeats 400000 in
theorem ints_any (w : World) (F F' : Nat → Prop) (n c m d : Nat) (A A' : Option Addr) (xs ys : List Int) (hx : Sl w F A n xs) (hy : Sl w F' A' m ys) (hn : n ≤ maxLen) (hm : m ≤ maxLen) :
    Calls Try.prog 28 #[.slice A n c, .slice A' m d] w (RetB (.bool (eqInts xs ys)) w) := by
  unfold maxLen at hn hm
  have hl : Hid (xs.length = n) := hx.1
  have hl' : Hid (ys.length = m) := hy.1
  by_cases hnm : n = m
  · subst hnm
    have hb0 : ((n : Int) != (n : Int)) = false := by simp
    go_enter Try.func28, Try.ntmps28
    go_wp2
    go_loopw [5, 4] (fun i _ wr => ∃ k : Nat, k ≤ n ∧ i = .int .i64 k ∧ (∀ j x y, j < k → xs[j]? = some x → ys[j]? = some y → eqI x y = true) ∧ ∃ e, wr = w.drewN e) (fun i _ _ => n - (intOf i).toNat)
    case atStart => exact ⟨0, Nat.zero_le _, rfl, fun j _ _ hj => absurd hj (by omega), 0, rfl⟩
    case round =>
      obtain ⟨k, hk, rfl, hno, e, rfl⟩ := hrel
      have HN := Lib.hid hno
      clear hno
      by_cases hlt : k < n
      · obtain ⟨b, o, rfl, hb, x, hx1, hcell⟩ := hx.int hlt
        obtain ⟨b', o', rfl, hb', y, hy1, hcell'⟩ := hy.int hlt
        have HX := Lib.hid hx1
        have HY := Lib.hid hy1
        clear hx1 hy1
        by_cases hxy : x = y
        · have hb1 : (x != y) = false := by simpa using hxy
          have HE : Hid (eqI x y = true) := Lib.hid (by unfold eqI; simpa using hxy)
          clear hxy
          go_wp2
          go_quiet (fail)
          go_wp2
          go_roundw
          case rel => exact ⟨k + 1, by omega, by go_num, eq_more HN.out HX.out HY.out HE.out, _, rfl⟩
          case measure => simp [intOf]; omega
        · have hb1 : (x != y) = true := by simpa using hxy
          have HE : Hid (eqI x y = false) := Lib.hid (by unfold eqI; simpa using hxy)
          clear hxy
          go_wp2
          go_quiet (fail)
          go_wp2
          go_ret
          exact RetB.mk (bool_eq (eqBy_no HX.out HY.out HE.out).symm) (below_drewN (below_drewN (Below.refl _ _) _) _)
      · obtain rfl : k = n := by omega
        go_wp2
        go_ret
        exact RetB.mk (bool_eq (eqBy_yes hl.out hl'.out HN.out).symm) (below_drewN (Below.refl _ _) _)
  · have hb0 : ((n : Int) != (m : Int)) = true := by simp; omega
    have hne : Hid (¬ n = m) := hnm
    clear hnm
    go_enter Try.func28, Try.ntmps28
    go_wp2
    go_ret
    exact RetB.mk (bool_eq (eqBy_len (by rw [hl.out, hl'.out]; exact hne.out)).symm) (Below.refl _ _)

set_option maxHeartbeats 400000 in
theorem equalInts_any (w : World) (F F' : Nat → Prop) (n c m d : Nat) (A A' : Option Addr) (xs ys : List Int) (hx : Sl w F A n xs) (hy : Sl w F' A' m ys) (hn : n ≤ maxLen) (hm : m ≤ maxLen) :
    Calls Try.prog 34 #[.slice A n c, .slice A' m d] w (RetB (.bool (eqInts xs ys)) w) := by
  unfold maxLen at hn hm
  have hl : Hid (xs.length = n) := hx.1
  have hl' : Hid (ys.length = m) := hy.1
  by_cases hnm : n = m
  · subst hnm
    have hb0 : ((n : Int) != (n : Int)) = false := by simp
    go_enter Try.func34, Try.ntmps34
    go_wp2
    go_loopw [13, 5, 4] (fun i _ _ wr => ∃ k : Nat, k ≤ n ∧ i = .int .i64 k ∧ (∀ j x y, j < k → xs[j]? = some x → ys[j]? = some y → eqI x y = true) ∧ ∃ e, wr = w.drewN e) (fun i _ _ _ => n - (intOf i).toNat)
    case atStart => exact ⟨0, Nat.zero_le _, rfl, fun j _ _ hj => absurd hj (by omega), 0, rfl⟩
    case round =>
      obtain ⟨k, hk, rfl, hno, e, rfl⟩ := hrel
      have HN := Lib.hid hno
      clear hno
      by_cases hlt : k < n
      · obtain ⟨b, o, rfl, hb, x, hx1, hcell⟩ := hx.int hlt
        obtain ⟨b', o', rfl, hb', y, hy1, hcell'⟩ := hy.int hlt
        have HX := Lib.hid hx1
        have HY := Lib.hid hy1
        clear hx1 hy1
        by_cases hxy : x = y
        · have hb1 : (x != y) = false := by simpa using hxy
          have HE : Hid (eqI x y = true) := Lib.hid (by unfold eqI; simpa using hxy)
          clear hxy
          go_wp2
          go_quiet (fail)
          go_wp2
          go_roundw
          case rel => exact ⟨k + 1, by omega, by go_num, eq_more HN.out HX.out HY.out HE.out, _, rfl⟩
          case measure => simp [intOf]; omega
        · have hb1 : (x != y) = true := by simpa using hxy
          have HE : Hid (eqI x y = false) := Lib.hid (by unfold eqI; simpa using hxy)
          clear hxy
          go_wp2
          go_quiet (fail)
          go_wp2
          go_ret
          exact RetB.mk (bool_eq (eqBy_no HX.out HY.out HE.out).symm) (below_drewN (below_drewN (Below.refl _ _) _) _)
      · obtain rfl : k = n := by omega
        go_wp2
        go_ret
        exact RetB.mk (bool_eq (eqBy_yes hl.out hl'.out HN.out).symm) (below_drewN (Below.refl _ _) _)
  · have hb0 : ((n : Int) != (m : Int)) = true := by simp; omega
    have hne : Hid (¬ n = m) := hnm
    clear hnm
    go_enter Try.func34, Try.ntmps34
    go_wp2
    go_ret
    exact RetB.mk (bool_eq (eqBy_len (by rw [hl.out, hl'.out]; exact hne.out)).symm) (Below.refl _ _)

def eqTouch (x y : Touch) : Bool := x.kind == y.kind && x.obj == y.obj && x.off == y.off && x.write == y.write
theorem eqTouch_yes {x y : Touch} (h : eqTouch x y = true) : (x.kind == y.kind) = true ∧ (x.obj == y.obj) = true ∧ (x.off == y.off) = true ∧ (x.write == y.write) = true := by
  unfold eqTouch at h
  simp only [Bool.and_eq_true] at h
  exact ⟨h.1.1.1, h.1.1.2, h.1.2, h.2⟩
theorem eqTouch_not {x y : Touch} (h : eqTouch x y = false) : (x.kind == y.kind) = false ∨ ((x.kind == y.kind) = true ∧ (x.obj == y.obj) = false) ∨ ((x.kind == y.kind) = true ∧ (x.obj == y.obj) = true ∧ (x.off == y.off) = false) ∨
    ((x.kind == y.kind) = true ∧ (x.obj == y.obj) = true ∧ (x.off == y.off) = true ∧ (x.write == y.write) = false) := by
  unfold eqTouch at h
  cases h1 : (x.kind == y.kind) <;> cases h2 : (x.obj == y.obj) <;> cases h3 : (x.off == y.off) <;> cases h4 : (x.write == y.write) <;> simp_all
def eqTouches (xs ys : List Touch) : Bool := eqBy eqTouch xs ys

set_option maxHeartbeats 400000 in
theorem equalTouches_any (w : World) (F F' : Nat → Prop) (n c m d : Nat) (A A' : Option Addr) (xs ys : List Touch) (hx : Sl w F A n xs) (hy : Sl w F' A' m ys) (hn : n ≤ maxLen) (hm : m ≤ maxLen) :
    Calls Try.prog 35 #[.slice A n c, .slice A' m d] w (RetB (.bool (eqTouches xs ys)) w) := by
  unfold maxLen at hn hm
  have hl : Hid (xs.length = n) := hx.1
  have hl' : Hid (ys.length = m) := hy.1
  by_cases hnm : n = m
  · subst hnm
    have hb0 : ((n : Int) != (n : Int)) = false := by simp
    go_enter Try.func35, Try.ntmps35
    go_wp2
    go_loopw [13, 5, 4] (fun i _ _ wr => ∃ k : Nat, k ≤ n ∧ i = .int .i64 k ∧ (∀ j x y, j < k → xs[j]? = some x → ys[j]? = some y → eqTouch x y = true) ∧ ∃ e, wr = w.drewN e) (fun i _ _ _ => n - (intOf i).toNat)
    case atStart => exact ⟨0, Nat.zero_le _, rfl, fun j _ _ hj => absurd hj (by omega), 0, rfl⟩
    case round =>
      obtain ⟨k, hk, rfl, hno, e, rfl⟩ := hrel
      have HN := Lib.hid hno
      clear hno
      by_cases hlt : k < n
      · obtain ⟨b, o, rfl, hb, x, hx1, e0, e1, e2, e3⟩ := hx.touch hlt
        obtain ⟨b', o', rfl, hb', y, hy1, f0, f1, f2, f3⟩ := hy.touch hlt
        have HX := Lib.hid hx1
        have HY := Lib.hid hy1
        clear hx1 hy1
        cases hxy : eqTouch x y with
        | true =>
          obtain ⟨t1, t2, t3, t4⟩ := eqTouch_yes hxy
          have HE := Lib.hid hxy
          clear hxy
          go_wp2
          go_quiet (fail)
          go_wp2
          go_roundw
          case rel => exact ⟨k + 1, by omega, by go_num, eq_more HN.out HX.out HY.out HE.out, _, rfl⟩
          case measure => simp [intOf]; omega
        | false =>
          have HE := Lib.hid hxy
          rcases eqTouch_not hxy with t1 | ⟨t1, t2⟩ | ⟨t1, t2, t3⟩ | ⟨t1, t2, t3, t4⟩
          all_goals
            clear hxy
            go_wp2
            go_quiet (fail)
            go_wp2
            go_ret
            exact RetB.mk (bool_eq (eqBy_no HX.out HY.out HE.out).symm) (below_drewN (below_drewN (Below.refl _ _) _) _)
      · obtain rfl : k = n := by omega
        go_wp2
        go_ret
        exact RetB.mk (bool_eq (eqBy_yes hl.out hl'.out HN.out).symm) (below_drewN (Below.refl _ _) _)
  · have hb0 : ((n : Int) != (m : Int)) = true := by simp; omega
    have hne : Hid (¬ n = m) := hnm
    clear hnm
    go_enter Try.func35, Try.ntmps35
    go_wp2
    go_ret
    exact RetB.mk (bool_eq (eqBy_len (by rw [hl.out, hl'.out]; exact hne.out)).symm) (Below.refl _ _)

end Go.Proofs.Ytlbgmegciomofaa

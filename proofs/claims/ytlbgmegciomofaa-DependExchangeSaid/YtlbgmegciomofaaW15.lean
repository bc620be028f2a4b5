/- Equality of steps and of sequences of steps. -/
import Derived.Test.YtlbgmegciomofaaW14
namespace Go.Proofs.Ytlbgmegciomofaa
open Go.RowKit

def eqStep (s t : Step) : Bool := s.g == t.g && s.case_ == t.case_ && eqInts s.gs t.gs && eqTouches s.touches t.touches

theorem eqBy_eq {α : Type} {f : α → α → Bool} (hf : ∀ x y, f x y = true ↔ x = y) : ∀ xs ys : List α, eqBy f xs ys = true ↔ xs = ys
  | [], [] => by simp [eqBy]
  | [], _ :: _ => by simp [eqBy]
  | _ :: _, [] => by simp [eqBy]
  | x :: xs, y :: ys => by
    unfold eqBy
    rw [Bool.and_eq_true, hf, eqBy_eq hf xs ys]
    simp
theorem eqTouch_iff (x y : Touch) : eqTouch x y = true ↔ x = y := by
  obtain ⟨a, b, c, d⟩ := x
  obtain ⟨a', b', c', d'⟩ := y
  unfold eqTouch
  simp [and_assoc]
theorem eqStep_iff (s t : Step) : eqStep s t = true ↔ s = t := by
  obtain ⟨a, b, c, d⟩ := s
  obtain ⟨a', b', c', d'⟩ := t
  unfold eqStep eqInts eqTouches
  simp only [Bool.and_eq_true]
  rw [eqBy_eq (f := eqI) (fun x y => by unfold eqI; simp), eqBy_eq eqTouch_iff]
  simp [and_assoc]

theorem equalInts_s (w : World) {F F' : Nat → Prop} {n c m d : Nat} {A A' : Option Addr} {xs ys : List Int} {b : Bool} (hb : eqInts xs ys = b) (hx : Sl w F A n xs) (hy : Sl w F' A' m ys) (hn : n ≤ maxLen) (hm : m ≤ maxLen) :
    Calls Try.prog 34 #[.slice A n c, .slice A' m d] w (RetB (.bool b) w) := hb ▸ equalInts_any w F F' n c m d A A' xs ys hx hy hn hm
theorem ints_s (w : World) {F F' : Nat → Prop} {n c m d : Nat} {A A' : Option Addr} {xs ys : List Int} {b : Bool} (hb : eqInts xs ys = b) (hx : Sl w F A n xs) (hy : Sl w F' A' m ys) (hn : n ≤ maxLen) (hm : m ≤ maxLen) :
    Calls Try.prog 28 #[.slice A n c, .slice A' m d] w (RetB (.bool b) w) := hb ▸ ints_any w F F' n c m d A A' xs ys hx hy hn hm
theorem equalTouches_s (w : World) {F F' : Nat → Prop} {n c m d : Nat} {A A' : Option Addr} {xs ys : List Touch} {b : Bool} (hb : eqTouches xs ys = b) (hx : Sl w F A n xs) (hy : Sl w F' A' m ys) (hn : n ≤ maxLen) (hm : m ≤ maxLen) :
    Calls Try.prog 35 #[.slice A n c, .slice A' m d] w (RetB (.bool b) w) := hb ▸ equalTouches_any w F F' n c m d A A' xs ys hx hy hn hm

theorem pick_cases (s t : Step) : (s.g == t.g) = false ∨ ((s.g == t.g) = true ∧ (s.case_ == t.case_) = false) ∨ ((s.g == t.g) = true ∧ (s.case_ == t.case_) = true) := by
  cases (s.g == t.g) <;> cases (s.case_ == t.case_) <;> simp

set_option maxHeartbeats 1000000 in
theorem same_any (w : World) (B : Nat) (s t : Step) {A1 T1 A2 T2 : Option Addr} {n1 k1 m1 d1 n2 k2 m2 d2 : Nat}
    (hg1 : Sl w (lt B) A1 n1 s.gs) (ht1 : Sl w (lt B) T1 m1 s.touches) (hg2 : Sl w (lt B) A2 n2 t.gs) (ht2 : Sl w (lt B) T2 m2 t.touches) (hn1 : n1 ≤ maxLen) (hm1 : m1 ≤ maxLen) (hn2 : n2 ≤ maxLen) (hm2 : m2 ≤ maxLen) (hB : B ≤ w.heap.size) :
    Calls Try.prog 25 #[.agg #[.int .i64 s.g, .int .i64 s.case_, .slice A1 n1 k1, .slice T1 m1 d1], .agg #[.int .i64 t.g, .int .i64 t.case_, .slice A2 n2 k2, .slice T2 m2 d2]] w (RetB (.bool (eqStep s t)) w) := by
  have hb0 : ∀ O O', Below w.heap.size w ((w.alloc O).alloc O') := fun O O' => ((Below.refl _ _).alloc (Nat.le_refl _) O).alloc (by simp) O'
  have hX1 := fun O O' => ((Blk.new w 27 #[.int .i64 s.g, .int .i64 s.case_, .slice A1 n1 k1, .slice T1 m1 d1]).alloc O).alloc O'
  rcases pick_cases s t with t1 | ⟨t1, t2⟩ | ⟨t1, t2⟩
  · have HR : Hid (eqStep s t = false) := Lib.hid (by unfold eqStep; rw [t1]; rfl)
    clear hX1
    go_enter Try.func25, Try.ntmps25
    go_wp2
    go_ret
    exact RetB.mk (bool_eq HR.out.symm) (hb0 _ _)
  · have HR : Hid (eqStep s t = false) := Lib.hid (by unfold eqStep; rw [t1, t2]; rfl)
    clear hX1
    go_enter Try.func25, Try.ntmps25
    go_wp2
    go_ret
    exact RetB.mk (bool_eq HR.out.symm) (hb0 _ _)
  · cases hi : eqInts s.gs t.gs with
    | false =>
      have HR : Hid (eqStep s t = false) := Lib.hid (by unfold eqStep; rw [t1, t2, hi]; rfl)
      have HC := Lib.hid fun O O' => equalInts_s ((w.alloc O).alloc O') (c := k1) (d := k2) hi (hg1.below ((hb0 O O').mono hB)) (hg2.below ((hb0 O O').mono hB)) hn1 hn2
      clear hi hX1
      go_enter Try.func25, Try.ntmps25
      go_wp2_with (go_at_call 34; refine (HC.out _ _).mono ?_; rintro e w1 ⟨rfl, hb1⟩)
      go_ret
      exact RetB.mk (bool_eq HR.out.symm) ((hb0 _ _).trans (hb1.mono (by simp; omega)))
    | true =>
      have HR : Hid (eqStep s t = eqTouches s.touches t.touches) := Lib.hid (by unfold eqStep; rw [t1, t2, hi]; rfl)
      have HC := Lib.hid fun O O' => equalInts_s ((w.alloc O).alloc O') (c := k1) (d := k2) hi (hg1.below ((hb0 O O').mono hB)) (hg2.below ((hb0 O O').mono hB)) hn1 hn2
      clear hi hX1
      go_enter Try.func25, Try.ntmps25
      go_wp2_with (go_at_call 34; refine (HC.out _ _).mono ?_; rintro e w1 ⟨rfl, hb1⟩; have x3 := (((Blk.new w 27 #[.int .i64 s.g, .int .i64 s.case_, .slice A1 n1 k1, .slice T1 m1 d1]).alloc (.cells #[.int .i64 t.g, .int .i64 t.case_, .slice A2 n2 k2, .slice T2 m2 d2] 27)).below hb1 (by simp; omega)).at_ 3 rfl; have y3 := ((blk_new (w.alloc (.cells #[.int .i64 s.g, .int .i64 s.case_, .slice A1 n1 k1, .slice T1 m1 d1] 27)) 27 #[.int .i64 t.g, .int .i64 t.case_, .slice A2 n2 k2, .slice T2 m2 d2] (g := w.heap.size + 1) (by simp)).below hb1 (by simp)).at_ 3 rfl)
      have hbw : Below w.heap.size w w1 := (hb0 _ _).trans (hb1.mono (by simp; omega))
      refine (equalTouches_s w1 rfl (ht1.below (hbw.mono hB)) (ht2.below (hbw.mono hB)) hm1 hm2).mono ?_
      rintro e w2 ⟨rfl, hb2⟩
      go_wp2
      go_ret
      exact RetB.mk (bool_eq HR.out.symm) (hbw.trans (hb2.mono hbw.size))

set_option maxHeartbeats 2000000 in
theorem refSame_any (w : World) (B : Nat) (s t : Step) {A1 T1 A2 T2 : Option Addr} {n1 k1 m1 d1 n2 k2 m2 d2 : Nat}
    (hg1 : Sl w (lt B) A1 n1 s.gs) (ht1 : Sl w (lt B) T1 m1 s.touches) (hg2 : Sl w (lt B) A2 n2 t.gs) (ht2 : Sl w (lt B) T2 m2 t.touches) (hn1 : n1 ≤ maxLen) (hm1 : m1 ≤ maxLen) (hn2 : n2 ≤ maxLen) (hm2 : m2 ≤ maxLen) (hB : B ≤ w.heap.size) :
    Calls Try.prog 19 #[.agg #[.int .i64 s.g, .int .i64 s.case_, .slice A1 n1 k1, .slice T1 m1 d1], .agg #[.int .i64 t.g, .int .i64 t.case_, .slice A2 n2 k2, .slice T2 m2 d2]] w (RetB (.bool (eqStep s t)) w) := by
  have hb0 : ∀ O O', Below w.heap.size w ((w.alloc O).alloc O') := fun O O' => ((Below.refl _ _).alloc (Nat.le_refl _) O).alloc (by simp) O'
  have hm1' : m1 ≤ 9223372036854775807 := by unfold maxLen at hm1; omega
  have hm2' : m2 ≤ 9223372036854775807 := by unfold maxLen at hm2; omega
  have htl1 : Hid (s.touches.length = m1) := ht1.1
  have htl2 : Hid (t.touches.length = m2) := ht2.1
  rcases pick_cases s t with t1 | ⟨t1, t2⟩ | ⟨t1, t2⟩
  · have HR : Hid (eqStep s t = false) := Lib.hid (by unfold eqStep; rw [t1]; rfl)
    go_enter Try.func19, Try.ntmps19
    go_wp2
    go_ret
    exact RetB.mk (bool_eq HR.out.symm) (hb0 _ _)
  · have HR : Hid (eqStep s t = false) := Lib.hid (by unfold eqStep; rw [t1, t2]; rfl)
    go_enter Try.func19, Try.ntmps19
    go_wp2
    go_ret
    exact RetB.mk (bool_eq HR.out.symm) (hb0 _ _)
  · cases hi : eqInts s.gs t.gs with
    | false =>
      have HR : Hid (eqStep s t = false) := Lib.hid (by unfold eqStep; rw [t1, t2, hi]; rfl)
      have HC := Lib.hid fun O O' => ints_s ((w.alloc O).alloc O') (c := k1) (d := k2) hi (hg1.below ((hb0 O O').mono hB)) (hg2.below ((hb0 O O').mono hB)) hn1 hn2
      clear hi
      go_enter Try.func19, Try.ntmps19
      go_wp2_with (go_at_call 28; refine (HC.out _ _).mono ?_; rintro e w1 ⟨rfl, hb1⟩)
      go_ret
      exact RetB.mk (bool_eq HR.out.symm) ((hb0 _ _).trans (hb1.mono (by simp; omega)))
    | true =>
      have HR : Hid (eqStep s t = eqTouches s.touches t.touches) := Lib.hid (by unfold eqStep; rw [t1, t2, hi]; rfl)
      have HC := Lib.hid fun O O' => ints_s ((w.alloc O).alloc O') (c := k1) (d := k2) hi (hg1.below ((hb0 O O').mono hB)) (hg2.below ((hb0 O O').mono hB)) hn1 hn2
      clear hi
      by_cases hnm : m1 = m2
      · subst hnm
        have hb0' : ((m1 : Int) != (m1 : Int)) = false := by simp
        go_enter Try.func19, Try.ntmps19
        go_wp2_with (go_at_call 28; refine (HC.out _ _).mono ?_; rintro e w1 ⟨rfl, hb1⟩; have bx := (((Blk.new w 27 #[.int .i64 s.g, .int .i64 s.case_, .slice A1 n1 k1, .slice T1 m1 d1]).alloc (.cells #[.int .i64 t.g, .int .i64 t.case_, .slice A2 n2 k2, .slice T2 m1 d2] 27)).below hb1 (by simp; omega)); have by' := ((blk_new (w.alloc (.cells #[.int .i64 s.g, .int .i64 s.case_, .slice A1 n1 k1, .slice T1 m1 d1] 27)) 27 #[.int .i64 t.g, .int .i64 t.case_, .slice A2 n2 k2, .slice T2 m1 d2] (g := w.heap.size + 1) (by simp)).below hb1 (by simp)); have x3 : w1.cell? ⟨w.heap.size, 3, none⟩ = some (.slice T1 m1 d1) := bx.at_ 3 rfl; have y3 : w1.cell? ⟨w.heap.size + 1, 3, none⟩ = some (.slice T2 m1 d2) := by'.at_ 3 rfl)
        have hbw : Below w.heap.size w w1 := (hb0 _ _).trans (hb1.mono (by simp; omega))
        clear t1 t2
        go_loopw [5, 4] (fun i _ wr => ∃ k : Nat, k ≤ m1 ∧ i = .int .i64 k ∧ (∀ j x y, j < k → s.touches[j]? = some x → t.touches[j]? = some y → eqTouch x y = true) ∧ ∃ e, wr = w1.drewN e) (fun i _ _ => m1 - (intOf i).toNat)
        case atStart => exact ⟨0, Nat.zero_le _, rfl, fun j _ _ hj => absurd hj (by omega), 0, rfl⟩
        case round =>
          obtain ⟨k, hk, rfl, hno, e, rfl⟩ := hrel
          have HN := Lib.hid hno
          clear hno
          by_cases hlt : k < m1
          · obtain ⟨b, o, rfl, hb, x, hx1, e0, e1, e2, e3⟩ := (ht1.below (hbw.mono hB)).touch hlt
            obtain ⟨b', o', rfl, hb', y, hy1, f0, f1, f2, f3⟩ := (ht2.below (hbw.mono hB)).touch hlt
            have HX := Lib.hid hx1
            have HY := Lib.hid hy1
            clear hx1 hy1
            cases hxy : eqTouch x y with
            | true =>
              obtain ⟨t1, t2, t3, t4⟩ := eqTouch_yes hxy
              have HE := Lib.hid hxy
              clear hxy
              go_wp2
              go_quiet (fail)
              go_wp2
              go_roundw
              case rel => exact ⟨k + 1, by omega, by go_num, eq_more HN.out HX.out HY.out HE.out, _, rfl⟩
              case measure => simp [intOf]; omega
            | false =>
              have HE := Lib.hid hxy
              rcases eqTouch_not hxy with t1 | ⟨t1, t2⟩ | ⟨t1, t2, t3⟩ | ⟨t1, t2, t3, t4⟩
              all_goals
                clear hxy
                go_wp2
                go_quiet (fail)
                go_wp2
                go_ret
                exact RetB.mk (bool_eq (by rw [HR.out]; exact (eqBy_no HX.out HY.out HE.out).symm)) (below_drewN (below_drewN hbw _) _)
          · obtain rfl : k = m1 := by omega
            go_wp2
            go_ret
            exact RetB.mk (bool_eq (by rw [HR.out]; exact (eqBy_yes htl1.out htl2.out HN.out).symm)) (below_drewN hbw _)
      · have hb0' : ((m1 : Int) != (m2 : Int)) = true := by simp; omega
        have hne : Hid (¬ m1 = m2) := hnm
        clear hnm
        go_enter Try.func19, Try.ntmps19
        go_wp2_with (go_at_call 28; refine (HC.out _ _).mono ?_; rintro e w1 ⟨rfl, hb1⟩; have bx := (((Blk.new w 27 #[.int .i64 s.g, .int .i64 s.case_, .slice A1 n1 k1, .slice T1 m1 d1]).alloc (.cells #[.int .i64 t.g, .int .i64 t.case_, .slice A2 n2 k2, .slice T2 m2 d2] 27)).below hb1 (by simp; omega)); have by' := ((blk_new (w.alloc (.cells #[.int .i64 s.g, .int .i64 s.case_, .slice A1 n1 k1, .slice T1 m1 d1] 27)) 27 #[.int .i64 t.g, .int .i64 t.case_, .slice A2 n2 k2, .slice T2 m2 d2] (g := w.heap.size + 1) (by simp)).below hb1 (by simp)); have x3 : w1.cell? ⟨w.heap.size, 3, none⟩ = some (.slice T1 m1 d1) := bx.at_ 3 rfl; have y3 : w1.cell? ⟨w.heap.size + 1, 3, none⟩ = some (.slice T2 m2 d2) := by'.at_ 3 rfl)
        go_ret
        exact RetB.mk (bool_eq (by rw [HR.out]; exact (eqBy_len (by rw [htl1.out, htl2.out]; exact hne.out)).symm)) ((hb0 _ _).trans (hb1.mono (by simp; omega)))

theorem same_b (w : World) (B : Nat) {s t : Step} {b : Bool} (hb : eqStep s t = b) {A1 T1 A2 T2 : Option Addr} {n1 k1 m1 d1 n2 k2 m2 d2 : Nat}
    (hg1 : Sl w (lt B) A1 n1 s.gs) (ht1 : Sl w (lt B) T1 m1 s.touches) (hg2 : Sl w (lt B) A2 n2 t.gs) (ht2 : Sl w (lt B) T2 m2 t.touches) (hn1 : n1 ≤ k1) (hk1 : k1 ≤ maxLen) (hm1 : m1 ≤ d1) (hd1 : d1 ≤ maxLen) (hn2 : n2 ≤ k2) (hk2 : k2 ≤ maxLen) (hm2 : m2 ≤ d2) (hd2 : d2 ≤ maxLen) (hB : B ≤ w.heap.size) :
    Calls Try.prog 25 #[.agg #[.int .i64 s.g, .int .i64 s.case_, .slice A1 n1 k1, .slice T1 m1 d1], .agg #[.int .i64 t.g, .int .i64 t.case_, .slice A2 n2 k2, .slice T2 m2 d2]] w (RetB (.bool b) w) :=
  hb ▸ same_any w B s t hg1 ht1 hg2 ht2 (Nat.le_trans hn1 hk1) (Nat.le_trans hm1 hd1) (Nat.le_trans hn2 hk2) (Nat.le_trans hm2 hd2) hB
theorem refSame_b (w : World) (B : Nat) {s t : Step} {b : Bool} (hb : eqStep s t = b) {A1 T1 A2 T2 : Option Addr} {n1 k1 m1 d1 n2 k2 m2 d2 : Nat}
    (hg1 : Sl w (lt B) A1 n1 s.gs) (ht1 : Sl w (lt B) T1 m1 s.touches) (hg2 : Sl w (lt B) A2 n2 t.gs) (ht2 : Sl w (lt B) T2 m2 t.touches) (hn1 : n1 ≤ k1) (hk1 : k1 ≤ maxLen) (hm1 : m1 ≤ d1) (hd1 : d1 ≤ maxLen) (hn2 : n2 ≤ k2) (hk2 : k2 ≤ maxLen) (hm2 : m2 ≤ d2) (hd2 : d2 ≤ maxLen) (hB : B ≤ w.heap.size) :
    Calls Try.prog 19 #[.agg #[.int .i64 s.g, .int .i64 s.case_, .slice A1 n1 k1, .slice T1 m1 d1], .agg #[.int .i64 t.g, .int .i64 t.case_, .slice A2 n2 k2, .slice T2 m2 d2]] w (RetB (.bool b) w) :=
  hb ▸ refSame_any w B s t hg1 ht1 hg2 ht2 (Nat.le_trans hn1 hk1) (Nat.le_trans hm1 hd1) (Nat.le_trans hn2 hk2) (Nat.le_trans hm2 hd2) hB

end Go.Proofs.Ytlbgmegciomofaa

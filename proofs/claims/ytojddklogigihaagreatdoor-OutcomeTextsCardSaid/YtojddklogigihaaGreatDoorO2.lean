/- Outcomes as Lean data; what the small functions compute: slices.Compare, cmp.Compare, cmp.Or, the reference's ints. -/
import Derived.Test.YtojddklogigihaaGreatDoorO0
import Derived.Test.YtojddklogigihaaGreatDoorRows
import Derived.Deep.QuietTactic
import Derived.BigQuiet
import Derived.StillTailTactics
import Derived.Deep.Cut
namespace Go.Proofs.YtojddklogigihaaGreatDoor
open Go.RowKit

/-- Outcomes. -/
structure Outc where
  out : List Int
  fau : List Int
  dead : Bool
instance : Rep Outc where
  size := 3
  cells w F q vs := ∃ A n c C m d, vs = [.slice A n c, .slice C m d, .bool q.dead] ∧ n ≤ c ∧ c ≤ maxLen ∧ m ≤ d ∧ d ≤ maxLen ∧ Sl w F A n q.out ∧ Sl w F C m q.fau
  len h := by obtain ⟨A, n, c, T, m, d, rfl, _⟩ := h; rfl
  keep hk h := by obtain ⟨A, n, c, T, m, d, rfl, h1, h2, h3, h4, h5, h6⟩ := h; exact ⟨A, n, c, T, m, d, rfl, h1, h2, h3, h4, h5.keep hk, h6.keep hk⟩
  mono hB h := by obtain ⟨A, n, c, T, m, d, rfl, h1, h2, h3, h4, h5, h6⟩ := h; exact ⟨A, n, c, T, m, d, rfl, h1, h2, h3, h4, h5.wide hB, h6.wide hB⟩

def cmpI (x y : Int) : Int := if x < y then -1 else if y < x then 1 else 0
def cmpL : List Int → List Int → Int
  | [], [] => 0
  | [], _ :: _ => -1
  | _ :: _, [] => 1
  | x :: xs, y :: ys => if cmpI x y = 0 then cmpL xs ys else cmpI x y
theorem drop_at {α : Type} {xs : List α} {k : Nat} {x : α} (h : xs[k]? = some x) : xs.drop k = x :: xs.drop (k + 1) := by
  obtain ⟨hk, rfl⟩ := List.getElem?_eq_some_iff.1 h
  exact List.drop_eq_getElem_cons hk
theorem cmpL_step {xs ys : List Int} {k : Nat} {x y : Int} (hx : xs[k]? = some x) (hy : ys[k]? = some y) (h : cmpL xs ys = cmpL (xs.drop k) (ys.drop k)) : cmpL xs ys = if cmpI x y = 0 then cmpL (xs.drop (k + 1)) (ys.drop (k + 1)) else cmpI x y := by
  rw [h, drop_at hx, drop_at hy]
  rfl
theorem cmpL_more {xs ys : List Int} {k : Nat} {x y : Int} (hx : xs[k]? = some x) (hy : ys[k]? = some y) (h : cmpL xs ys = cmpL (xs.drop k) (ys.drop k)) (he : cmpI x y = 0) : cmpL xs ys = cmpL (xs.drop (k + 1)) (ys.drop (k + 1)) := by
  rw [cmpL_step hx hy h, if_pos he]
theorem cmpL_done {xs ys : List Int} {k : Nat} {x y : Int} (hx : xs[k]? = some x) (hy : ys[k]? = some y) (h : cmpL xs ys = cmpL (xs.drop k) (ys.drop k)) (he : ¬ cmpI x y = 0) : cmpL xs ys = cmpI x y := by
  rw [cmpL_step hx hy h, if_neg he]
theorem cmpL_long {xs ys : List Int} {k : Nat} (h : cmpL xs ys = cmpL (xs.drop k) (ys.drop k)) (hx : k < xs.length) (hy : ys.length ≤ k) : cmpL xs ys = 1 := by
  rw [h, List.drop_eq_getElem_cons hx, List.drop_eq_nil_of_le hy]
  rfl
theorem cmpL_short {xs ys : List Int} {k : Nat} (h : cmpL xs ys = cmpL (xs.drop k) (ys.drop k)) (hx : xs.length ≤ k) (hy : k < ys.length) : cmpL xs ys = -1 := by
  rw [h, List.drop_eq_getElem_cons hy, List.drop_eq_nil_of_le hx]
  rfl
theorem cmpL_same {xs ys : List Int} {k : Nat} (h : cmpL xs ys = cmpL (xs.drop k) (ys.drop k)) (hx : xs.length ≤ k) (hy : ys.length ≤ k) : cmpL xs ys = 0 := by
  rw [h, List.drop_eq_nil_of_le hy, List.drop_eq_nil_of_le hx]
  rfl

theorem nan_any (w : World) (x : Int) : Calls Tryz.prog 32 #[.int .i64 x] w (Ret (.bool false) w) := by
  have hb : (x != x) = false := by simp
  go_enter Tryz.func32, Tryz.ntmps32
  go_wp2
  go_ret
  exact Ret.mk rfl
set_option maxHeartbeats 400000 in
theorem cmp_any (w : World) (x y : Int) : Calls Tryz.prog 17 #[.int .i64 x, .int .i64 y] w (Ret (.int .i64 (cmpI x y)) w) := by
  unfold cmpI
  by_cases h1 : x < y
  · have hb1 : decide (x < y) = true := by simpa using h1
    rw [if_pos h1]
    clear h1
    go_enter Tryz.func17, Tryz.ntmps17
    go_wp2_with (go_at_call 32; refine (nan_any _ _).mono ?_; rintro e w' ⟨rfl, rfl⟩)
    go_ret
    exact Ret.mk rfl
  · have hb1 : decide (x < y) = false := by simpa using h1
    rw [if_neg h1]
    clear h1
    by_cases h2 : y < x
    · have hb2 : decide (y < x) = true := by simpa using h2
      rw [if_pos h2]
      clear h2
      go_enter Tryz.func17, Tryz.ntmps17
      go_wp2_with (go_at_call 32; refine (nan_any _ _).mono ?_; rintro e w' ⟨rfl, rfl⟩)
      go_ret
      exact Ret.mk rfl
    · have hb2 : decide (y < x) = false := by simpa using h2
      rw [if_neg h2]
      clear h2
      go_enter Tryz.func17, Tryz.ntmps17
      go_wp2_with (go_at_call 32; refine (nan_any _ _).mono ?_; rintro e w' ⟨rfl, rfl⟩)
      go_ret
      exact Ret.mk rfl
theorem cmp_b (w : World) (x y c : Int) (h : cmpI x y = c) : Calls Tryz.prog 17 #[.int .i64 x, .int .i64 y] w (Ret (.int .i64 c) w) := h ▸ cmp_any w x y

set_option maxHeartbeats 1000000 in
theorem compare_any (w : World) (F F' : Nat → Prop) (n c m d : Nat) (A A' : Option Addr) (xs ys : List Int) (hx : Sl w F A n xs) (hy : Sl w F' A' m ys) (hn : n ≤ maxLen) (hm : m ≤ maxLen) :
    Calls Tryz.prog 16 #[.slice A n c, .slice A' m d] w (Ret (.int .i64 (cmpL xs ys)) w) := by
  unfold maxLen at hn hm
  have hl : Hid (xs.length = n) := hx.1
  have hl' : Hid (ys.length = m) := hy.1
  go_enter Tryz.func16, Tryz.ntmps16
  go_wp2
  go_loop [11, 8, 7, 6, 5, 4] (fun i _ _ _ _ _ => ∃ k : Nat, k ≤ n ∧ i = .int .i64 k ∧ k ≤ m ∧ cmpL xs ys = cmpL (xs.drop k) (ys.drop k)) (fun i _ _ _ _ _ => n - (intOf i).toNat)
  case atStart => exact ⟨0, Nat.zero_le _, rfl, Nat.zero_le _, rfl⟩
  case round =>
    obtain ⟨k, hk, rfl, hkm, hno⟩ := hrel
    have HN := Lib.hid hno
    clear hno
    by_cases hlt : k < n
    · obtain ⟨b, o, rfl, hb, x, hx1, hcell⟩ := hx.int hlt
      have HX := Lib.hid hx1
      clear hx1
      by_cases hlm : k < m
      · obtain ⟨b', o', rfl, hb', y, hy1, hcell'⟩ := hy.int hlm
        have HY := Lib.hid hy1
        clear hy1
        by_cases hxy : cmpI x y = 0
        · have HE := Lib.hid hxy
          clear hxy
          go_wp2_with (go_at_call 17; refine (cmp_b _ _ _ _ HE.out).mono ?_; rintro e w' ⟨rfl, rfl⟩)
          go_round
          case rel => exact ⟨k + 1, by omega, by go_num, by omega, cmpL_more HX.out HY.out HN.out HE.out⟩
          case measure => simp [intOf]; omega
        · obtain ⟨z, hz⟩ : ∃ z, z = cmpI x y := ⟨_, rfl⟩
          have hz0 : (z != 0) = true := by rw [hz]; simpa using hxy
          have HE := Lib.hid hxy
          have HZ := Lib.hid hz
          clear hxy hz
          go_wp2_with (go_at_call 17; refine (cmp_b _ _ _ z HZ.out.symm).mono ?_; rintro e w' ⟨rfl, rfl⟩)
          go_ret
          exact Ret.mk (int_eq (by rw [HZ.out]; exact (cmpL_done HX.out HY.out HN.out HE.out).symm))
      · go_wp2
        go_ret
        exact Ret.mk (int_eq (cmpL_long HN.out (by rw [hl.out]; exact hlt) (by rw [hl'.out]; omega)).symm)
    · obtain rfl : k = n := by omega
      by_cases hlm : k < m
      · go_wp2
        go_ret
        exact Ret.mk (int_eq (cmpL_short HN.out (by rw [hl.out]; omega) (by rw [hl'.out]; exact hlm)).symm)
      · go_wp2
        go_ret
        exact Ret.mk (int_eq (cmpL_same HN.out (by rw [hl.out]; omega) (by rw [hl'.out]; omega)).symm)

set_option maxHeartbeats 1000000 in
theorem rints_any (w : World) (F F' : Nat → Prop) (n c m d : Nat) (A A' : Option Addr) (xs ys : List Int) (hx : Sl w F A n xs) (hy : Sl w F' A' m ys) (hn : n ≤ maxLen) (hm : m ≤ maxLen) :
    Calls Tryz.prog 18 #[.slice A n c, .slice A' m d] w (RetB (.int .i64 (cmpL xs ys)) w) := by
  unfold maxLen at hn hm
  have hl : Hid (xs.length = n) := hx.1
  have hl' : Hid (ys.length = m) := hy.1
  go_enter Tryz.func18, Tryz.ntmps18
  go_wp2
  go_loopw [5, 4] (fun i _ wr => ∃ k : Nat, k ≤ n ∧ i = .int .i64 k ∧ k ≤ m ∧ cmpL xs ys = cmpL (xs.drop k) (ys.drop k) ∧ ∃ e, wr = w.drewN e) (fun i _ _ => n - (intOf i).toNat)
  case atStart => exact ⟨0, Nat.zero_le _, rfl, Nat.zero_le _, rfl, 0, rfl⟩
  case round =>
    obtain ⟨k, hk, rfl, hkm, hno, e, rfl⟩ := hrel
    have HN := Lib.hid hno
    clear hno
    by_cases hlt : k < n
    · obtain ⟨b, o, rfl, hb, x, hx1, hcell⟩ := hx.int hlt
      have HX := Lib.hid hx1
      clear hx1
      by_cases hlm : k < m
      · obtain ⟨b', o', rfl, hb', y, hy1, hcell'⟩ := hy.int hlm
        have HY := Lib.hid hy1
        clear hy1
        by_cases h1 : x < y
        · have hb1 : decide (x < y) = true := by simpa using h1
          have HE : Hid (cmpI x y = -1) := Lib.hid (by unfold cmpI; rw [if_pos h1])
          clear h1
          go_wp2
          go_quiet (fail)
          go_wp2
          go_ret
          exact RetB.mk (int_eq (by rw [cmpL_done HX.out HY.out HN.out (by rw [HE.out]; omega), HE.out])) (below_drewN (below_drewN (Below.refl _ _) _) _)
        · have hb1 : decide (x < y) = false := by simpa using h1
          by_cases h2 : y < x
          · have hb2 : decide (y < x) = true := by simpa using h2
            have HE : Hid (cmpI x y = 1) := Lib.hid (by unfold cmpI; rw [if_neg h1, if_pos h2])
            clear h1 h2
            go_wp2
            go_quiet (fail)
            go_wp2
            go_quiet (fail)
            go_wp2
            go_ret
            exact RetB.mk (int_eq (by rw [cmpL_done HX.out HY.out HN.out (by rw [HE.out]; omega), HE.out])) (below_drewN (below_drewN (below_drewN (Below.refl _ _) _) _) _)
          · have hb2 : decide (y < x) = false := by simpa using h2
            have HE : Hid (cmpI x y = 0) := Lib.hid (by unfold cmpI; rw [if_neg h1, if_neg h2])
            clear h1 h2
            go_wp2
            go_quiet (fail)
            go_wp2
            go_quiet (fail)
            go_wp2
            go_roundw
            case rel => exact ⟨k + 1, by omega, by go_num, by omega, cmpL_more HX.out HY.out HN.out HE.out, _, rfl⟩
            case measure => simp [intOf]; omega
      · go_wp2
        have e1 : cmpL xs ys = 1 := cmpL_long HN.out (by rw [hl.out]; exact hlt) (by rw [hl'.out]; omega)
        have H1 := Lib.hid e1
        clear e1
        have hb1 : decide ((n : Int) < (m : Int)) = false := by simp; omega
        have hb2 : decide ((m : Int) < (n : Int)) = true := by simp; omega
        go_wp2
        go_ret
        exact RetB.mk (int_eq H1.out.symm) (below_drewN (Below.refl _ _) _)
    · obtain rfl : k = n := by omega
      by_cases hlm : k < m
      · have H1 := Lib.hid (cmpL_short HN.out (by rw [hl.out]; omega) (by rw [hl'.out]; exact hlm))
        have hb1 : decide ((k : Int) < (m : Int)) = true := by simp; omega
        go_wp2
        go_ret
        exact RetB.mk (int_eq H1.out.symm) (below_drewN (Below.refl _ _) _)
      · have H1 := Lib.hid (cmpL_same HN.out (by rw [hl.out]; omega) (by rw [hl'.out]; omega))
        have hb1 : decide ((k : Int) < (m : Int)) = false := by simp; omega
        have hb2 : decide ((m : Int) < (k : Int)) = false := by simp; omega
        go_wp2
        go_ret
        exact RetB.mk (int_eq H1.out.symm) (below_drewN (Below.refl _ _) _)

/-- The first number that is not 0. -/
def or3 (a b c : Int) : Int := if a ≠ 0 then a else if b ≠ 0 then b else c
set_option maxHeartbeats 1000000 in
theorem or_any (w : World) (g : Nat) (a b c r : Int) (hr : or3 a b c = r) (h0 : w.cell? ⟨g, 0, none⟩ = some (.int .i64 a)) (h1 : w.cell? ⟨g, 1, none⟩ = some (.int .i64 b)) (h2 : w.cell? ⟨g, 2, none⟩ = some (.int .i64 c)) :
    Calls Tryz.prog 15 #[.slice (some ⟨g, 0, none⟩) 3 3] w (Ret (.int .i64 r) w) := by
  subst hr
  by_cases ha : a = 0
  · subst ha
    by_cases hb : b = 0
    · subst hb
      have H : Hid (or3 0 0 c = c) := Lib.hid (by simp [or3])
      by_cases hc : c = 0
      · subst hc
        go_enter Tryz.func15, Tryz.ntmps15
        go_wp2
        refine wp_loop_rounds 4 ?_
        repeat' (rw [rounds_succ]; go_wp2)
        go_ret
        exact Ret.mk (int_eq H.out.symm)
      · have hc1 : (c != 0) = true := by simpa using hc
        clear hc
        go_enter Tryz.func15, Tryz.ntmps15
        go_wp2
        refine wp_loop_rounds 4 ?_
        repeat' (rw [rounds_succ]; go_wp2)
        go_ret
        exact Ret.mk (int_eq H.out.symm)
    · have H : Hid (or3 0 b c = b) := Lib.hid (by simp [or3, hb])
      have hb1 : (b != 0) = true := by simpa using hb
      clear hb
      go_enter Tryz.func15, Tryz.ntmps15
      go_wp2
      refine wp_loop_rounds 4 ?_
      repeat' (rw [rounds_succ]; go_wp2)
      go_ret
      exact Ret.mk (int_eq H.out.symm)
  · have H : Hid (or3 a b c = a) := Lib.hid (by simp [or3, ha])
    have ha1 : (a != 0) = true := by simpa using ha
    clear ha
    go_enter Tryz.func15, Tryz.ntmps15
    go_wp2
    refine wp_loop_rounds 4 ?_
    repeat' (rw [rounds_succ]; go_wp2)
    go_ret
    exact Ret.mk (int_eq H.out.symm)
end Go.Proofs.YtojddklogigihaaGreatDoor

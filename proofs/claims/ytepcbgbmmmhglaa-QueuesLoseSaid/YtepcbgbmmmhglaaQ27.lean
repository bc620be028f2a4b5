/- count. -/
import Derived.Test.YtepcbgbmmmhglaaQ24
namespace Go.Proofs.Ytepcbgbmmmhglaa
open Go.RowKit

theorem count_step {l : List Int} {k : Nat} {x y : Int} (h : l[k]? = some x) : ((l.take (k + 1)).count y : Int) = ((l.take k).count y : Int) + (if x = y then 1 else 0) := by
  rw [take_snoc h, List.count_append]
  by_cases hxy : x = y
  · subst hxy
    simp
  · rw [if_neg hxy]
    have : List.count y [x] = 0 := List.count_eq_zero.2 (by simpa using fun e : y = x => hxy e.symm)
    rw [this]
    simp

set_option maxHeartbeats 400000 in
theorem count_any (w : World) (F : Nat → Prop) (n c : Nat) (A : Option Addr) (xs : List Int) (y : Int) (hs : Sl w F A n xs) (hn : n ≤ maxLen) :
    Calls Try.prog 21 #[.slice A n c, .int .i64 y] w (Ret (.int .i64 ((xs.count y : Nat) : Int)) w) := by
  unfold maxLen at hn
  have hl : Hid (xs.length = n) := hs.1
  go_enter Try.func21, Try.ntmps21
  go_wp2
  go_loop [6, 5] (fun i t => ∃ k : Nat, k ≤ n ∧ i = .int .i64 k ∧ ∃ s : Nat, t = .int .i64 s ∧ s = (xs.take k).count y) (fun i _ => n - (intOf i).toNat)
  case atStart => exact ⟨0, Nat.zero_le _, rfl, 0, rfl, by simp⟩
  case round =>
    obtain ⟨k, hk, rfl, s, rfl, hse⟩ := hrel
    have hsk : s ≤ k := by rw [hse]; exact Nat.le_trans List.count_le_length (by rw [List.length_take]; omega)
    have HSE := Lib.hid hse
    clear hse
    by_cases hlt : k < n
    · obtain ⟨b, o, rfl, hb, x, hx, hcell⟩ := hs.int hlt
      have HX := Lib.hid hx
      clear hx
      by_cases hxy : x = y
      · have hb1 : (x == y) = true := by simpa using hxy
        have HXY := Lib.hid hxy
        clear hxy
        go_wp2
        go_round
        case rel =>
          refine ⟨k + 1, by omega, by go_num, s + 1, by go_num, ?_⟩
          have h := count_step (y := y) HX.out
          rw [if_pos HXY.out] at h
          rw [HSE.out]
          omega
        case measure => simp [intOf]; omega
      · have hb1 : (x == y) = false := by simpa using hxy
        have HXY := Lib.hid hxy
        clear hxy
        go_wp2
        go_round
        case rel =>
          refine ⟨k + 1, by omega, by go_num, s, rfl, ?_⟩
          have h := count_step (y := y) HX.out
          rw [if_neg HXY.out] at h
          rw [HSE.out]
          omega
        case measure => simp [intOf]; omega
    · obtain rfl : k = n := by omega
      go_wp2
      go_ret
      exact Ret.mk (int_eq (by rw [HSE.out, ← hl.out, List.take_length]))

end Go.Proofs.Ytepcbgbmmmhglaa

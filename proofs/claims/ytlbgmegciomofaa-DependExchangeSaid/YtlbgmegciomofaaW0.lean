/- Walks of cmp and slices. -/
import Derived.Test.YtlbgmegciomofaaB0
import Derived.Test.YtlbgmegciomofaaRows
import Derived.Deep.QuietTactic
import Derived.BigQuiet
namespace Go.Proofs.Ytlbgmegciomofaa
open Go.RowKit

set_option maxHeartbeats 400000 in
theorem isNaN_any (a : Int) (w : World) :
    Calls Try.prog 36 #[.int .i64 a] w fun e w' => e = .returned (.bool false) ∧ w = w' := by
  go_enter Try.func36, Try.ntmps36
  go_wp2
  go_ret
  simp

def cmpI (a b : Int) : Int := if a < b then -1 else if b < a then 1 else 0

set_option maxHeartbeats 400000 in
theorem compare_any (a b : Int) (w : World) :
    Calls Try.prog 33 #[.int .i64 a, .int .i64 b] w fun e w' => e = .returned (.int .i64 (cmpI a b)) ∧ w = w' := by
  unfold cmpI
  go_enter Try.func33, Try.ntmps33
  go_wp2_with (go_at_call 36; refine (isNaN_any _ _).mono ?_; rintro e w' ⟨rfl, rfl⟩)
  all_goals
    go_ret
    simp [*]

/-- slices.Index. -/
def idxZ : List Int → Int → Int
  | [], _ => -1
  | y :: l, x => if y = x then 0 else if idxZ l x < 0 then -1 else idxZ l x + 1

theorem idxZ_at {xs : List Int} {x : Int} : ∀ {k : Nat}, xs[k]? = some x → (∀ j : Nat, j < k → xs[j]? ≠ some x) → idxZ xs x = k := by
  induction xs with
  | nil => intro k hk; simp at hk
  | cons y l ih =>
    intro k hk hno
    unfold idxZ
    cases k with
    | zero => simp at hk; simp [hk]
    | succ k =>
      have h0 := hno 0 (by omega)
      have hy : ¬ y = x := by simpa using h0
      rw [if_neg hy, ih (k := k) (by simpa using hk) (fun j hj => by simpa using hno (j + 1) (by omega))]
      rw [if_neg (by omega)]
      omega

theorem idxZ_no {xs : List Int} {x : Int} {n : Nat} (hn : xs.length ≤ n) (hno : ∀ j : Nat, j < n → xs[j]? ≠ some x) : idxZ xs x = -1 := by
  induction xs generalizing n with
  | nil => rfl
  | cons y l ih =>
    unfold idxZ
    simp only [List.length_cons] at hn
    have h0 := hno 0 (by omega)
    have hy : ¬ y = x := by simpa using h0
    rw [if_neg hy, ih (n := n - 1) (by omega) (fun j hj => by simpa using hno (j + 1) (by omega))]
    rfl

/-- slices.Contains. -/
def hasI (xs : List Int) (x : Int) : Bool := xs.contains x

theorem idxZ_geq (xs : List Int) (x : Int) : decide (0 ≤ idxZ xs x) = hasI xs x := by
  show _ = xs.contains x
  induction xs with
  | nil => rfl
  | cons y l ih =>
    unfold idxZ
    rw [List.contains_cons, ← (show decide (0 ≤ idxZ l x) = l.contains x from ih)]
    by_cases hy : y = x
    · simp [hy]
    · have : ¬ x = y := fun e => hy e.symm
      simp only [hy, if_false, beq_eq_false_iff_ne.2 this, Bool.false_or]
      split <;> simp <;> omega

theorem no_snoc {xs : List Int} {x y : Int} {k : Nat} (hno : ∀ j : Nat, j < k → xs[j]? ≠ some x) (hk : xs[k]? = some y) (hne : ¬ x = y) : ∀ j : Nat, j < k + 1 → xs[j]? ≠ some x := by
  intro j hj e
  rcases Nat.lt_or_ge j k with h | h
  · exact hno j h e
  · obtain rfl : j = k := by omega
    rw [hk] at e
    injection e with e
    exact hne e.symm

set_option maxHeartbeats 400000 in
theorem index_any (w : World) (B n c : Nat) (A : Option Addr) (xs : List Int) (x : Int) (hs : Sl w (lt B) A n xs) (hn : n ≤ maxLen) :
    Calls Try.prog 29 #[.slice A n c, .int .i64 x] w (Ret (.int .i64 (idxZ xs x)) w) := by
  unfold maxLen at hn
  have hl : Hid (xs.length = n) := hs.1
  go_enter Try.func29, Try.ntmps29
  go_wp2
  go_loop [8, 5, 4] (fun i _ _ => ∃ k : Nat, k ≤ n ∧ i = .int .i64 k ∧ ∀ j : Nat, j < k → xs[j]? ≠ some x) (fun i _ _ => n - (intOf i).toNat)
  case atStart => exact ⟨0, Nat.zero_le _, rfl, fun j hj => absurd hj (by omega)⟩
  case round =>
    obtain ⟨k, hk, rfl, hno⟩ := hrel
    have HN := Lib.hid hno
    clear hno
    by_cases hlt : k < n
    · obtain ⟨b, o, rfl, hb, y, hy, hcell⟩ := hs.int hlt
      have HY := Lib.hid hy
      clear hy
      by_cases hxy : x = y
      · have hb1 : (x == y) = true := by simpa using hxy
        have HX := Lib.hid hxy
        clear hxy
        go_wp2
        go_ret
        exact Ret.mk (int_eq (idxZ_at (by rw [HX.out]; exact HY.out) HN.out).symm)
      · have hb1 : (x == y) = false := by simpa using hxy
        have HX := Lib.hid hxy
        clear hxy
        go_wp2
        go_round
        case rel => exact ⟨k + 1, by omega, by go_num, no_snoc HN.out HY.out HX.out⟩
        case measure => simp [intOf]; omega
    · go_wp2
      go_ret
      exact Ret.mk (int_eq (idxZ_no (by rw [hl.out]; omega) HN.out).symm)

set_option maxHeartbeats 400000 in
theorem contains_any (w : World) (B n c : Nat) (A : Option Addr) (xs : List Int) (x : Int) (hs : Sl w (lt B) A n xs) (hn : n ≤ maxLen) :
    Calls Try.prog 22 #[.slice A n c, .int .i64 x] w (Ret (.bool (hasI xs x)) w) := by
  rw [← idxZ_geq]
  go_enter Try.func22, Try.ntmps22
  go_wp2_with (go_at_call 29; refine (index_any _ B n c A xs x hs hn).mono ?_; rintro e w' ⟨rfl, rfl⟩)
  go_ret
  exact ⟨rfl, rfl⟩

end Go.Proofs.Ytlbgmegciomofaa

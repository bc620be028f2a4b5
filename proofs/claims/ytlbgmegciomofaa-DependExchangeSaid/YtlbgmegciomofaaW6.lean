/- cmp.Or; the least linearization as the program reckons it. -/
import Derived.Test.YtlbgmegciomofaaW5
namespace Go.Proofs.Ytlbgmegciomofaa
open Go.RowKit

/-- cmp.Or of integers. -/
def orI : List Int → Int
  | [] => 0
  | x :: l => if x = 0 then orI l else x
theorem orI_at {l : List Int} : ∀ {k : Nat} {x : Int}, l[k]? = some x → x ≠ 0 → (∀ j y, j < k → l[j]? = some y → y = 0) → orI l = x := by
  induction l with
  | nil => intro k x h; simp at h
  | cons y l ih =>
    intro k x h hx hno
    unfold orI
    cases k with
    | zero => simp at h; subst h; rw [if_neg hx]
    | succ k =>
      rw [if_pos (hno 0 y (by omega) rfl)]
      exact ih (by simpa using h) hx fun j z hj hz => hno (j + 1) z (by omega) (by simpa using hz)
theorem orI_no {l : List Int} {n : Nat} (hn : l.length = n) (hno : ∀ j y, j < n → l[j]? = some y → y = 0) : orI l = 0 := by
  induction l generalizing n with
  | nil => rfl
  | cons y l ih =>
    simp only [List.length_cons] at hn
    unfold orI
    rw [if_pos (hno 0 y (by omega) rfl)]
    exact ih (n := n - 1) (by omega) fun j z hj hz => hno (j + 1) z (by omega) (by simpa using hz)
theorem zero_snoc {l : List Int} {k : Nat} (h : ∀ j y, j < k → l[j]? = some y → y = 0) {x : Int} (hx : l[k]? = some x) (h0 : x = 0) : ∀ j y, j < k + 1 → l[j]? = some y → y = 0 := by
  intro j y hj hy
  rcases Nat.lt_or_ge j k with h' | h'
  · exact h j y h' hy
  · obtain rfl : j = k := by omega
    rw [hx] at hy
    injection hy with hy
    rw [← hy, h0]

set_option maxHeartbeats 400000 in
theorem or_any (w : World) (F : Nat → Prop) (n c : Nat) (A : Option Addr) (xs : List Int) (hs : Sl w F A n xs) (hn : n ≤ maxLen) :
    Calls Try.prog 32 #[.slice A n c] w (Ret (.int .i64 (orI xs)) w) := by
  unfold maxLen at hn
  have hl : Hid (xs.length = n) := hs.1
  go_enter Try.func32, Try.ntmps32
  go_wp2
  go_loop [8, 5, 2] (fun i _ _ => ∃ k : Nat, k ≤ n ∧ i = .int .i64 k ∧ ∀ j y, j < k → xs[j]? = some y → y = 0) (fun i _ _ => n - (intOf i).toNat)
  case atStart => exact ⟨0, Nat.zero_le _, rfl, fun j _ hj => absurd hj (by omega)⟩
  case round =>
    obtain ⟨k, hk, rfl, hno⟩ := hrel
    have HN := Lib.hid hno
    clear hno
    by_cases hlt : k < n
    · obtain ⟨b, o, rfl, hb, y, hy, hcell⟩ := hs.int hlt
      have HY := Lib.hid hy
      clear hy
      by_cases hxy : y = 0
      · have hb1 : (y != 0) = false := by simpa using hxy
        have HX := Lib.hid hxy
        clear hxy
        go_wp2
        go_round
        case rel => exact ⟨k + 1, by omega, by go_num, zero_snoc HN.out HY.out HX.out⟩
        case measure => simp [intOf]; omega
      · have hb1 : (y != 0) = true := by simpa using hxy
        have HX := Lib.hid hxy
        clear hxy
        go_wp2
        go_ret
        exact Ret.mk (int_eq (orI_at HY.out HX.out HN.out).symm)
    · obtain rfl : k = n := by omega
      go_wp2
      go_ret
      exact Ret.mk (int_eq (orI_no hl.out HN.out).symm)

/-- The comparison by goroutine, then by case. -/
theorem or_less (s t : Step) : decide (orI [cmpI s.g t.g, cmpI s.case_ t.case_] < 0) = lessP s t := by
  unfold lessP cmpI orI orI orI
  by_cases h1 : s.g < t.g
  · simp [h1]
  · by_cases h2 : t.g < s.g
    · have h3 : ¬ s.g = t.g := by omega
      simp [h1, h2, h3]
    · have h3 : s.g = t.g := by omega
      by_cases h4 : s.case_ < t.case_
      · simp [h3, h4]
      · by_cases h5 : t.case_ < s.case_
        · simp [h3, h4, h5]
        · simp [h3, h4, h5]

def OrderNo (w : World) (e : Ending) (w' : World) : Prop := e = .returned (.tuple #[.slice none 0 0, .bool false]) ∧ Below w.heap.size w w'
def OrderYes (l : List Step) (n : Nat) (w : World) (e : Ending) (w' : World) : Prop :=
  ∃ A c, e = .returned (.tuple #[.slice A n c, .bool true]) ∧ n ≤ c ∧ c ≤ maxLen ∧ Below w.heap.size w w' ∧ Sl w' (lt w'.heap.size) A n ((outTo l l.length).map (fun i : Nat => (i : Int)))

end Go.Proofs.Ytlbgmegciomofaa

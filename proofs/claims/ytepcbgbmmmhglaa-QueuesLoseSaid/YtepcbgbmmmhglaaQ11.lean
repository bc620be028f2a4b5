/- New. -/
import Derived.Test.YtepcbgbmmmhglaaQ10
namespace Go.Proofs.Ytepcbgbmmmhglaa
open Go.RowKit

/-- A call that returns run queues and an error. -/
def RetQE (q : Qs) (err : Int) (w : World) (e : Ending) (w' : World) : Prop :=
  ∃ A n c C m d, e = .returned (.tuple #[.agg #[.slice A n c, .slice C m d], .int .i64 err]) ∧ n ≤ c ∧ c ≤ maxLen ∧ m ≤ d ∧ d ≤ maxLen ∧ Sl w' (lt w'.heap.size) A n q.loc ∧ Sl w' (lt w'.heap.size) C m q.com ∧ Below w.heap.size w w'
def noQ : Qs := ⟨[], []⟩
theorem RetQE.nothing {w w' : World} {err : Int} (hb : Below w.heap.size w w') : RetQE noQ err w (.returned (.tuple #[.agg #[.slice none 0 0, .slice none 0 0], .int .i64 err])) w' :=
  ⟨none, 0, 0, none, 0, 0, rfl, Nat.le_refl _, Nat.zero_le _, Nat.le_refl _, Nat.zero_le _, Sl.nil, Sl.nil, hb⟩
def badP (p : Int) : Bool := decide (p < 1) || decide (4 < p)

set_option maxHeartbeats 400000 in
theorem new_bad (w : World) (p : Int) (h : badP p = true) : Calls Try.prog 10 #[.int .i64 p] w (RetQE noQ 1 w) := by
  by_cases h1 : p < 1
  · have hd : decide (p < 1) = true := decide_eq_true h1
    clear h
    go_enter Try.func10, Try.ntmps10
    go_wp2
    refine bodyPost_ret (v := .tuple #[.agg #[.slice none 0 0, .slice none 0 0], .int .i64 1]) (by simp [results, Try.results10, go_sem]) rfl ?_
    exact RetQE.nothing ((Below.refl _ _).alloc (Nat.le_refl _) _)
  · have h4 : 4 < p := by
      unfold badP at h
      rw [decide_eq_false h1, Bool.false_or] at h
      exact of_decide_eq_true h
    have hd : decide (p < 1) = false := decide_eq_false h1
    have hd' : decide (4 < p) = true := decide_eq_true h4
    clear h
    go_enter Try.func10, Try.ntmps10
    go_wp2
    refine bodyPost_ret (v := .tuple #[.agg #[.slice none 0 0, .slice none 0 0], .int .i64 1]) (by simp [results, Try.results10, go_sem]) rfl ?_
    exact RetQE.nothing ((Below.refl _ _).alloc (Nat.le_refl _) _)

end Go.Proofs.Ytepcbgbmmmhglaa

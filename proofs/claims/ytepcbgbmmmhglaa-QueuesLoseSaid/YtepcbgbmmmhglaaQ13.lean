/- The reference's New, where the number of processors is bad. -/
import Derived.Test.YtepcbgbmmmhglaaQ12
namespace Go.Proofs.Ytepcbgbmmmhglaa
open Go.RowKit

set_option maxHeartbeats 400000 in
theorem refNew_bad (w : World) (p : Int) (h : badP p = true) : Calls Try.prog 11 #[.int .i64 p] w (RetQE noQ 1 w) := by
  by_cases h1 : p < 1
  · have hd : decide (p < 1) = true := decide_eq_true h1
    clear h
    go_enter Try.func11, Try.ntmps11
    go_wp2
    refine bodyPost_ret (v := .tuple #[.agg #[.slice none 0 0, .slice none 0 0], .int .i64 1]) (by simp [results, Try.results11, go_sem]) rfl ?_
    exact RetQE.nothing ((Below.refl _ _).alloc (Nat.le_refl _) _)
  · have h4 : 4 < p := by
      unfold badP at h
      rw [decide_eq_false h1, Bool.false_or] at h
      exact of_decide_eq_true h
    have hd : decide (p < 1) = false := decide_eq_false h1
    have hd' : decide (4 < p) = true := decide_eq_true h4
    clear h
    go_enter Try.func11, Try.ntmps11
    go_wp2
    refine bodyPost_ret (v := .tuple #[.agg #[.slice none 0 0, .slice none 0 0], .int .i64 1]) (by simp [results, Try.results11, go_sem]) rfl ?_
    exact RetQE.nothing ((Below.refl _ _).alloc (Nat.le_refl _) _)

end Go.Proofs.Ytepcbgbmmmhglaa

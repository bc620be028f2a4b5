/- Valid run queues, whatever the queues; New. -/
import Derived.Test.YtepcbgbmmmhglaaQ7
namespace Go.Proofs.Ytepcbgbmmmhglaa
open Go.RowKit

set_option maxHeartbeats 1000000 in
theorem valid_any (w : World) (B n c m d : Nat) (A C : Option Addr) (q : Qs) (hl : Sl w (lt B) A n q.loc) (hc : Sl w (lt B) C m q.com) (hmd : m ≤ d) (hd63 : d ≤ maxLen) (hB : B ≤ w.heap.size) :
    Calls Try.prog 13 #[.agg #[.slice A n c, .slice C m d]] w (RetB (.bool (validQ q)) w) := by
  have hll : Hid (q.loc.length = n) := hl.1
  by_cases h0 : n < 1
  · have hv := Lib.hid (validQ_few (q := q) (by rw [hll.out]; exact h0))
    have hd : decide ((n : Int) < 1) = true := decide_eq_true (by omega)
    go_enter Try.func13, Try.ntmps13
    go_upto_region 1 with fail
    obtain ⟨w0, hw0⟩ : ∃ w0, w0 = w.alloc (.cells #[.slice A n c, .slice C m d] 26) := ⟨_, rfl⟩
    rw [← hw0]
    have hb0 : Below w.heap.size w w0 := by rw [hw0]; exact (Below.refl _ _).alloc (Nat.le_refl _) _
    have hk0 : Blk w0 w.heap.size 26 #[.slice A n c, .slice C m d] := by rw [hw0]; exact Blk.new _ _ _
    clear hw0
    have c0 : w0.cell? ⟨w.heap.size, 0, none⟩ = some (.slice A n c) := hk0.at_ 0 rfl
    go_wp2
    go_ret
    exact RetB.mk (bool_eq hv.out.symm) hb0
  · by_cases h4 : 4 < n
    · have hv := Lib.hid (validQ_many (q := q) (by rw [hll.out]; exact h4))
      have hd : decide ((n : Int) < 1) = false := decide_eq_false (by omega)
      have hd' : decide (4 < (n : Int)) = true := decide_eq_true (by omega)
      go_enter Try.func13, Try.ntmps13
      go_upto_region 1 with fail
      obtain ⟨w0, hw0⟩ : ∃ w0, w0 = w.alloc (.cells #[.slice A n c, .slice C m d] 26) := ⟨_, rfl⟩
      rw [← hw0]
      have hb0 : Below w.heap.size w w0 := by rw [hw0]; exact (Below.refl _ _).alloc (Nat.le_refl _) _
      have hk0 : Blk w0 w.heap.size 26 #[.slice A n c, .slice C m d] := by rw [hw0]; exact Blk.new _ _ _
      clear hw0
      have c0 : w0.cell? ⟨w.heap.size, 0, none⟩ = some (.slice A n c) := hk0.at_ 0 rfl
      go_wp2
      go_ret
      exact RetB.mk (bool_eq hv.out.symm) hb0
    · exact valid_main w B n c m d A C q hl hc hmd hd63 (by omega) (by omega) hB

end Go.Proofs.Ytepcbgbmmmhglaa

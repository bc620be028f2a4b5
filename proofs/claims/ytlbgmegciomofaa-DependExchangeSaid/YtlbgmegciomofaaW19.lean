/- The law on exchange: the walk. -/
import Derived.Test.YtlbgmegciomofaaB3
import Derived.Test.YtlbgmegciomofaaP3
namespace Go.Proofs.Ytlbgmegciomofaa
open Go.RowKit

set_option maxHeartbeats 1000000 in
theorem lawExchange_few (w : World) (n c : Nat) (k : Nat) (hk : k < 256) (A : Option Addr) (a : List Step) (ha : Sl w (lt w.heap.size) A n a) (hn : n ≤ maxLen) (fa : fewS a = false) :
    Calls Try.prog 6 #[.slice A n c, .int .u8 k] w (RetB (.bool true) w) := by
  have HFA := Lib.hid fa
  clear fa
  go_enter Try.func6, Try.ntmps6
  go_wp2_with fail
  refine (awake_any w).mono ?_
  rintro e w1 ⟨rfl, hb1⟩
  go_wp2_with fail
  refine (few_s w1 w.heap.size n c HFA.out (ha.below hb1) hn).mono ?_
  rintro e w2 ⟨rfl, rfl⟩
  go_wp2
  go_ret
  exact RetB.mk rfl hb1

set_option maxHeartbeats 1000000 in
theorem lawExchange_short (w : World) (n c : Nat) (k : Nat) (hk : k < 256) (A : Option Addr) (a : List Step) (ha : Sl w (lt w.heap.size) A n a) (hn : n ≤ maxLen) (fa : fewS a = true) (hkn : n ≤ k + 1) :
    Calls Try.prog 6 #[.slice A n c, .int .u8 k] w (RetB (.bool true) w) := by
  have HFA := Lib.hid fa
  clear fa
  have hd : decide ((n : Int) ≤ (k : Int) + 1) = true := decide_eq_true (by omega)
  go_enter Try.func6, Try.ntmps6
  go_wp2_with fail
  refine (awake_any w).mono ?_
  rintro e w1 ⟨rfl, hb1⟩
  go_wp2_with fail
  refine (few_s w1 w.heap.size n c HFA.out (ha.below hb1) hn).mono ?_
  rintro e w2 ⟨rfl, rfl⟩
  go_wp2
  go_ret
  exact RetB.mk rfl hb1

set_option maxHeartbeats 1000000 in
theorem lawExchange_valid (w : World) (n c : Nat) (k : Nat) (hk : k < 256) (A : Option Addr) (a : List Step) (ha : Sl w (lt w.heap.size) A n a) (hn : n ≤ maxLen) (fa : fewS a = true) (hkn : k + 1 < n) (va : validA a = false) :
    Calls Try.prog 6 #[.slice A n c, .int .u8 k] w (RetB (.bool true) w) := by
  have hn6 : n ≤ 65536 := by have h1 := few_le fa; rw [ha.1] at h1; omega
  have HFA := Lib.hid fa
  have HVA := Lib.hid va
  clear fa va
  have hd : decide ((n : Int) ≤ (k : Int) + 1) = false := decide_eq_false (by omega)
  go_enter Try.func6, Try.ntmps6
  go_wp2_with fail
  refine (awake_any w).mono ?_
  rintro e w1 ⟨rfl, hb1⟩
  go_wp2_with fail
  refine (few_s w1 w.heap.size n c HFA.out (ha.below hb1) hn).mono ?_
  rintro e w2 ⟨rfl, rfl⟩
  go_wp2_with fail
  refine (refValidAll_s w1 w.heap.size n c HVA.out (ha.below hb1) hn6 hb1.size).mono ?_
  rintro e w2 ⟨rfl, hb2⟩
  go_wp2
  go_ret
  exact RetB.mk rfl (hb1.trans (hb2.mono hb1.size))

end Go.Proofs.Ytlbgmegciomofaa

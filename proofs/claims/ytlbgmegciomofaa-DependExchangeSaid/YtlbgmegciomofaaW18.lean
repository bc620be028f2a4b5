/- The law on Equivalent: the walk. -/
import Derived.Test.YtlbgmegciomofaaW17
namespace Go.Proofs.Ytlbgmegciomofaa
open Go.RowKit

theorem equiv_symm (a b : List Step) : equivI b a = equivI a b := by
  cases va : validA a with
  | false => unfold equivI; rw [va, Bool.and_false, Bool.false_and, Bool.false_and, Bool.false_and]
  | true =>
    cases vb : validA b with
    | false => unfold equivI; rw [vb, Bool.and_false, Bool.false_and, Bool.false_and, Bool.false_and]
    | true =>
      rw [Bool.eq_iff_iff, equiv_iff va vb, equiv_iff vb va]
      exact ⟨refE_symm, refE_symm⟩
theorem equivalent_s (w : World) (B : Nat) (n c m d : Nat) {A A' : Option Addr} {a b : List Step} {r : Bool} (hr : equivI a b = r) (ha : Sl w (lt B) A n a) (hb : Sl w (lt B) A' m b) (hn : n ≤ 65536) (hm : m ≤ 65536) (hB : B ≤ w.heap.size) :
    Calls Try.prog 15 #[.slice A n c, .slice A' m d] w (RetB (.bool r) w) := hr ▸ equivalent_any w B n c m d A A' a b ha hb hn hm hB
theorem refEquivalent_s (w : World) (B : Nat) (n c m d : Nat) {A A' : Option Addr} {a b : List Step} {r : Bool} (hr : equivI a b = r) (ha : Sl w (lt B) A n a) (hb : Sl w (lt B) A' m b) (hn : n ≤ 65536) (hm : m ≤ 65536) (hB : B ≤ w.heap.size) :
    Calls Try.prog 14 #[.slice A n c, .slice A' m d] w (RetB (.bool r) w) := hr ▸ refEquivalent_any w B n c m d A A' a b ha hb hn hm hB
theorem sameAll_s (w : World) (B : Nat) (n c m d : Nat) {A A' : Option Addr} {xs ys : List Step} {r : Bool} (hr : eqBy eqStep xs ys = r) (hx : Sl w (lt B) A n xs) (hy : Sl w (lt B) A' m ys) (hn : n ≤ 65536) (hm : m ≤ 65536) (hB : B ≤ w.heap.size) :
    Calls Try.prog 17 #[.slice A n c, .slice A' m d] w (RetB (.bool r) w) := hr ▸ sameAll_any w B n c m d A A' xs ys hx hy hn hm hB

set_option maxHeartbeats 1000000 in
theorem lawEquiv_fa (w : World) (n c m d : Nat) (A A' : Option Addr) (a b : List Step) (ha : Sl w (lt w.heap.size) A n a) (_hb : Sl w (lt w.heap.size) A' m b) (hn : n ≤ maxLen) (_hm : m ≤ maxLen) (fa : fewS a = false) :
    Calls Try.prog 5 #[.slice A n c, .slice A' m d] w (RetB (.bool true) w) := by
  have HFA := Lib.hid fa
  clear fa
  go_enter Try.func5, Try.ntmps5
  go_wp2_with fail
  refine (awake_any w).mono ?_
  rintro e w1 ⟨rfl, hb1⟩
  go_wp2_with fail
  refine (few_s w1 w.heap.size n c HFA.out (ha.below hb1) hn).mono ?_
  rintro e w2 ⟨rfl, rfl⟩
  go_wp2
  go_ret
  exact RetB.mk rfl hb1

set_option maxHeartbeats 1000000 in
theorem lawEquiv_fb (w : World) (n c m d : Nat) (A A' : Option Addr) (a b : List Step) (ha : Sl w (lt w.heap.size) A n a) (hb : Sl w (lt w.heap.size) A' m b) (hn : n ≤ maxLen) (hm : m ≤ maxLen) (fa : fewS a = true) (fb : fewS b = false) :
    Calls Try.prog 5 #[.slice A n c, .slice A' m d] w (RetB (.bool true) w) := by
  have HFA := Lib.hid fa
  have HFB := Lib.hid fb
  clear fa fb
  go_enter Try.func5, Try.ntmps5
  go_wp2_with fail
  refine (awake_any w).mono ?_
  rintro e w1 ⟨rfl, hb1⟩
  go_wp2_with fail
  refine (few_s w1 w.heap.size n c HFA.out (ha.below hb1) hn).mono ?_
  rintro e w2 ⟨rfl, rfl⟩
  go_wp2_with fail
  refine (few_s w1 w.heap.size m d HFB.out (hb.below hb1) hm).mono ?_
  rintro e w2 ⟨rfl, rfl⟩
  go_wp2
  go_ret
  exact RetB.mk rfl hb1

set_option maxHeartbeats 1000000 in
theorem lawEquiv_va (w : World) (n c m d : Nat) (A A' : Option Addr) (a b : List Step) (ha : Sl w (lt w.heap.size) A n a) (hb : Sl w (lt w.heap.size) A' m b) (hn : n ≤ maxLen) (hm : m ≤ maxLen) (fa : fewS a = true) (fb : fewS b = true) (va : validA a = false) :
    Calls Try.prog 5 #[.slice A n c, .slice A' m d] w (RetB (.bool true) w) := by
  have hn6 : n ≤ 65536 := by have h1 := few_le fa; rw [ha.1] at h1; omega
  have hm6 : m ≤ 65536 := by have h1 := few_le fb; rw [hb.1] at h1; omega
  have HFA := Lib.hid fa
  have HFB := Lib.hid fb
  have he : equivI a b = false := by unfold equivI; rw [va]; rfl
  have HE1 := Lib.hid he
  have HE2 := Lib.hid ((equiv_symm a b).trans he)
  have HVA := Lib.hid va
  clear fa fb va he
  go_enter Try.func5, Try.ntmps5
  go_wp2_with fail
  refine (awake_any w).mono ?_
  rintro e w1 ⟨rfl, hb1⟩
  go_wp2_with fail
  refine (few_s w1 w.heap.size n c HFA.out (ha.below hb1) hn).mono ?_
  rintro e w2 ⟨rfl, rfl⟩
  go_wp2_with fail
  refine (few_s w1 w.heap.size m d HFB.out (hb.below hb1) hm).mono ?_
  rintro e w2 ⟨rfl, rfl⟩
  go_wp2_with fail
  refine (refEquivalent_s w1 w.heap.size n c m d HE1.out (ha.below hb1) (hb.below hb1) hn6 hm6 hb1.size).mono ?_
  rintro e w2 ⟨rfl, hb2⟩
  have hb12 := hb1.trans (hb2.mono hb1.size)
  go_wp2_with fail
  refine (equivalent_s w2 w.heap.size n c m d HE1.out (ha.below hb12) (hb.below hb12) hn6 hm6 hb12.size).mono ?_
  rintro e w3 ⟨rfl, hb3⟩
  have hb13 := hb12.trans (hb3.mono hb12.size)
  go_wp2_with fail
  refine (equivalent_s w3 w.heap.size m d n c HE2.out (hb.below hb13) (ha.below hb13) hm6 hn6 hb13.size).mono ?_
  rintro e w4 ⟨rfl, hb4⟩
  have hb14 := hb13.trans (hb4.mono hb13.size)
  go_wp2_with fail
  refine (refValidAll_s w4 w.heap.size n c HVA.out (ha.below hb14) hn6 hb14.size).mono ?_
  rintro e w5 ⟨rfl, hb5⟩
  have hb15 := hb14.trans (hb5.mono hb14.size)
  go_wp2
  go_ret
  exact RetB.mk rfl hb15

set_option maxHeartbeats 1000000 in
theorem lawEquiv_vb (w : World) (n c m d : Nat) (A A' : Option Addr) (a b : List Step) (ha : Sl w (lt w.heap.size) A n a) (hb : Sl w (lt w.heap.size) A' m b) (hn : n ≤ maxLen) (hm : m ≤ maxLen) (fa : fewS a = true) (fb : fewS b = true) (va : validA a = true) (vb : validA b = false) :
    Calls Try.prog 5 #[.slice A n c, .slice A' m d] w (RetB (.bool true) w) := by
  have hn6 : n ≤ 65536 := by have h1 := few_le fa; rw [ha.1] at h1; omega
  have hm6 : m ≤ 65536 := by have h1 := few_le fb; rw [hb.1] at h1; omega
  have HFA := Lib.hid fa
  have HFB := Lib.hid fb
  have he : equivI a b = false := by unfold equivI; rw [va, vb]; rfl
  have HE1 := Lib.hid he
  have HE2 := Lib.hid ((equiv_symm a b).trans he)
  have HVA := Lib.hid va
  have HVB := Lib.hid vb
  clear fa fb va vb he
  go_enter Try.func5, Try.ntmps5
  go_wp2_with fail
  refine (awake_any w).mono ?_
  rintro e w1 ⟨rfl, hb1⟩
  go_wp2_with fail
  refine (few_s w1 w.heap.size n c HFA.out (ha.below hb1) hn).mono ?_
  rintro e w2 ⟨rfl, rfl⟩
  go_wp2_with fail
  refine (few_s w1 w.heap.size m d HFB.out (hb.below hb1) hm).mono ?_
  rintro e w2 ⟨rfl, rfl⟩
  go_wp2_with fail
  refine (refEquivalent_s w1 w.heap.size n c m d HE1.out (ha.below hb1) (hb.below hb1) hn6 hm6 hb1.size).mono ?_
  rintro e w2 ⟨rfl, hb2⟩
  have hb12 := hb1.trans (hb2.mono hb1.size)
  go_wp2_with fail
  refine (equivalent_s w2 w.heap.size n c m d HE1.out (ha.below hb12) (hb.below hb12) hn6 hm6 hb12.size).mono ?_
  rintro e w3 ⟨rfl, hb3⟩
  have hb13 := hb12.trans (hb3.mono hb12.size)
  go_wp2_with fail
  refine (equivalent_s w3 w.heap.size m d n c HE2.out (hb.below hb13) (ha.below hb13) hm6 hn6 hb13.size).mono ?_
  rintro e w4 ⟨rfl, hb4⟩
  have hb14 := hb13.trans (hb4.mono hb13.size)
  go_wp2_with fail
  refine (refValidAll_s w4 w.heap.size n c HVA.out (ha.below hb14) hn6 hb14.size).mono ?_
  rintro e w5 ⟨rfl, hb5⟩
  have hb15 := hb14.trans (hb5.mono hb14.size)
  go_wp2_with fail
  refine (refValidAll_s w5 w.heap.size m d HVB.out (hb.below hb15) hm6 hb15.size).mono ?_
  rintro e w6 ⟨rfl, hb6⟩
  go_wp2
  go_ret
  exact RetB.mk rfl (hb15.trans (hb6.mono hb15.size))

set_option maxHeartbeats 1000000 in
theorem lawEquiv_yes (w : World) (n c m d : Nat) (A A' : Option Addr) (a b : List Step) (ha : Sl w (lt w.heap.size) A n a) (hb : Sl w (lt w.heap.size) A' m b) (hn : n ≤ maxLen) (hm : m ≤ maxLen) (fa : fewS a = true) (fb : fewS b = true) (va : validA a = true) (vb : validA b = true) (r : Bool) (he : equivI a b = r) :
    Calls Try.prog 5 #[.slice A n c, .slice A' m d] w (RetB (.bool true) w) := by
  have hn6 : n ≤ 65536 := by have h1 := few_le fa; rw [ha.1] at h1; omega
  have hm6 : m ≤ 65536 := by have h1 := few_le fb; rw [hb.1] at h1; omega
  have HFA := Lib.hid fa
  have HFB := Lib.hid fb
  have HE1 := Lib.hid he
  have HE2 := Lib.hid ((equiv_symm a b).trans he)
  have HVA := Lib.hid va
  have HVB := Lib.hid vb
  have HSA : Hid (eqBy eqStep (linS a) (linS b) = r) := Lib.hid (by rw [← he]; unfold equivI; rw [va, vb]; rfl)
  have hla : Hid (a.length = n) := ha.1
  have hlb : Hid (b.length = m) := hb.1
  clear fa fb va vb he
  cases r
  all_goals
    go_enter Try.func5, Try.ntmps5
    go_wp2_with fail
    refine (awake_any w).mono ?_
    rintro e w1 ⟨rfl, hb1⟩
    go_wp2_with fail
    refine (few_s w1 w.heap.size n c HFA.out (ha.below hb1) hn).mono ?_
    rintro e w2 ⟨rfl, rfl⟩
    go_wp2_with fail
    refine (few_s w1 w.heap.size m d HFB.out (hb.below hb1) hm).mono ?_
    rintro e w2 ⟨rfl, rfl⟩
    go_wp2_with fail
    refine (refEquivalent_s w1 w.heap.size n c m d HE1.out (ha.below hb1) (hb.below hb1) hn6 hm6 hb1.size).mono ?_
    rintro e w2 ⟨rfl, hb2⟩
    have hb12 := hb1.trans (hb2.mono hb1.size)
    go_wp2_with fail
    refine (equivalent_s w2 w.heap.size n c m d HE1.out (ha.below hb12) (hb.below hb12) hn6 hm6 hb12.size).mono ?_
    rintro e w3 ⟨rfl, hb3⟩
    have hb13 := hb12.trans (hb3.mono hb12.size)
    go_wp2_with fail
    refine (equivalent_s w3 w.heap.size m d n c HE2.out (hb.below hb13) (ha.below hb13) hm6 hn6 hb13.size).mono ?_
    rintro e w4 ⟨rfl, hb4⟩
    have hb14 := hb13.trans (hb4.mono hb13.size)
    go_wp2_with fail
    refine (refValidAll_s w4 w.heap.size n c HVA.out (ha.below hb14) hn6 hb14.size).mono ?_
    rintro e w5 ⟨rfl, hb5⟩
    have hb15 := hb14.trans (hb5.mono hb14.size)
    go_wp2_with fail
    refine (refValidAll_s w5 w.heap.size m d HVB.out (hb.below hb15) hm6 hb15.size).mono ?_
    rintro e w6 ⟨rfl, hb6⟩
    have hb16 := hb15.trans (hb6.mono hb15.size)
    go_wp2_with fail
    refine (least_any w6 w.heap.size n c A a (ha.below hb16) hn6 hb16.size).mono ?_
    rintro e w7 ⟨v, rfl, hb7, hown7⟩
    have hb17 := hb16.trans (hb7.mono hb16.size)
    obtain ⟨A7, c7, hA, -, -, hs7⟩ := hown7.sl (fun b hb => Nat.lt_of_lt_of_le hb hb17.size)
    rw [linS_length, hla.out] at hA hs7
    subst hA
    go_wp2_with fail
    refine (least_any w7 w.heap.size m d A' b (hb.below hb17) hm6 hb17.size).mono ?_
    rintro e w8 ⟨v, rfl, hb8, hown8⟩
    have hb18 := hb17.trans (hb8.mono hb17.size)
    obtain ⟨A8, c8, hA, -, -, hs8⟩ := hown8.sl (fun b hb => Nat.lt_of_lt_of_le hb hb18.size)
    rw [linS_length, hlb.out] at hA hs8
    subst hA
    go_wp2_with fail
    refine (sameAll_s w8 w8.heap.size n c7 m c8 HSA.out ((hs7.below hb8).mono hb8.size) hs8 hn6 hm6 (Nat.le_refl _)).mono ?_
    rintro e w9 ⟨rfl, hb9⟩
    go_wp2
    go_ret
    exact RetB.mk rfl (hb18.trans (hb9.mono hb18.size))

theorem lawEquivalent_any (w : World) (n c m d : Nat) (A A' : Option Addr) (a b : List Step) (ha : Sl w (lt w.heap.size) A n a) (hb : Sl w (lt w.heap.size) A' m b) (hn : n ≤ maxLen) (hm : m ≤ maxLen) :
    Calls Try.prog 5 #[.slice A n c, .slice A' m d] w (RetB (.bool true) w) := by
  cases fa : fewS a with
  | false => exact lawEquiv_fa w n c m d A A' a b ha hb hn hm fa
  | true =>
    cases fb : fewS b with
    | false => exact lawEquiv_fb w n c m d A A' a b ha hb hn hm fa fb
    | true =>
      cases va : validA a with
      | false => exact lawEquiv_va w n c m d A A' a b ha hb hn hm fa fb va
      | true =>
        cases vb : validA b with
        | false => exact lawEquiv_vb w n c m d A A' a b ha hb hn hm fa fb va vb
        | true => exact lawEquiv_yes w n c m d A A' a b ha hb hn hm fa fb va vb _ rfl

end Go.Proofs.Ytlbgmegciomofaa

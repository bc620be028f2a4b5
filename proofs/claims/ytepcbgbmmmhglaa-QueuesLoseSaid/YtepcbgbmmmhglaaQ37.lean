/- The laws on Valid and on what Next finds. -/
import Derived.Test.YtepcbgbmmmhglaaQ34
import Derived.Deep.RegionHeld3
namespace Go.Proofs.Ytepcbgbmmmhglaa
open Go.RowKit

set_option maxRecDepth 100000 in
set_option maxHeartbeats 8000000 in
theorem law_valid (w : World) (n c m d : Nat) (A C : Option Addr) (q : Qs) (hl : Sl w (lt w.heap.size) A n q.loc) (hc : Sl w (lt w.heap.size) C m q.com) (hnc : n ≤ c) (hmd : m ≤ d) (hd63 : d ≤ maxLen) (hf : Fits q) :
    Calls Try.prog 4 #[.agg #[.slice A n c, .slice C m d]] w (RetB (.bool true) w) := by
  obtain rfl : n = q.loc.length := hl.1.symm
  obtain rfl : m = q.com.length := hc.1.symm
  have hn24 := hf.n
  have hm8 := hf.m
  clear hf
  obtain ⟨vb, hv⟩ : ∃ vb, validQ q = vb := ⟨_, rfl⟩
  have HV := Lib.hid hv
  clear hv
  have hee : (vb == vb) = true := beq_self_eq_true vb
  go_enter Try.func4, Try.ntmps4
  go_upto_region 1 with fail
  obtain ⟨k3, hk3⟩ : ∃ k3, k3 = w.heap.size := ⟨_, rfl⟩
  obtain ⟨w0, hw0⟩ : ∃ w0, w0 = w.alloc (.cells #[.slice A q.loc.length c, .slice C q.com.length d] 26) := ⟨_, rfl⟩
  rw [← hw0, ← hk3]
  have b3 : Blk w0 k3 26 #[.slice A q.loc.length c, .slice C q.com.length d] := by rw [hw0]; exact heap_alloc_new' _ _ hk3
  have hb0 : Below w.heap.size w w0 := by rw [hw0]; exact (Below.refl _ _).alloc (Nat.le_refl _) _
  clear hw0 hk3
  have hz0 := hb0.size
  have e0 : w0.cell? ⟨k3, 0, none⟩ = some (.slice A q.loc.length c) := b3.at_ 0 rfl
  have e1 : w0.cell? ⟨k3, 1, none⟩ = some (.slice C q.com.length d) := b3.at_ 1 rfl
  have B3 := Lib.hid b3
  have HB0 := Lib.hid hb0
  clear b3 hb0
  go_wp2
  go_region_held3 (fun w' => w'.cell? ⟨k3, 0, none⟩ = some (.slice A q.loc.length c) ∧ w'.cell? ⟨k3, 1, none⟩ = some (.slice C q.com.length d)) (go_keep)
    (first
      | (go_at_call 9
         refine (awake_any w0.drew).mono ?_
         rintro e w1 ⟨rfl, hb1⟩
         have hb1' : Below w0.heap.size w0 w1 := below_drewL hb1
         have b31 := B3.out.below hb1' B3.out.lt
         have s10 : w1.cell? ⟨k3, 0, none⟩ = some (.slice A q.loc.length c) := b31.at_ 0 rfl
         have s11 : w1.cell? ⟨k3, 1, none⟩ = some (.slice C q.com.length d) := b31.at_ 1 rfl
         have B31 := Lib.hid b31
         have HB1 := Lib.hid (HB0.out.trans (hb1'.mono hz0))
         clear hb1 hb1' b31)
      | (go_at_call 13
         refine (valid_b w2 w.heap.size q.loc.length c q.com.length d A C HV.out (hl.below HB2.out) (hc.below HB2.out) hmd hd63 HB2.out.size).mono ?_
         rintro e w3 ⟨rfl, hb3⟩
         have b33 := B32.out.below hb3 B32.out.lt
         have s30 : w3.cell? ⟨k3, 0, none⟩ = some (.slice A q.loc.length c) := b33.at_ 0 rfl
         have s31 : w3.cell? ⟨k3, 1, none⟩ = some (.slice C q.com.length d) := b33.at_ 1 rfl
         have HB3 := Lib.hid (HB2.out.trans (hb3.mono HB2.out.size))
         clear hb3 b33)
      | (go_at_call 14
         refine (refValid_b w2 w.heap.size q.loc.length c q.com.length d A C HV.out (hl.below HB2.out) (hc.below HB2.out) (by unfold maxLen; omega) (by unfold maxLen; omega) hm8 HB2.out.size).mono ?_
         rintro e w3 ⟨rfl, hb3⟩
         have b33 := B32.out.below hb3 B32.out.lt
         have s30 : w3.cell? ⟨k3, 0, none⟩ = some (.slice A q.loc.length c) := b33.at_ 0 rfl
         have s31 : w3.cell? ⟨k3, 1, none⟩ = some (.slice C q.com.length d) := b33.at_ 1 rfl
         have HB3 := Lib.hid (HB2.out.trans (hb3.mono HB2.out.size))
         clear hb3 b33)
      | (go_at_call 13
         refine (valid_b w1 w.heap.size q.loc.length c q.com.length d A C HV.out (hl.below HB1.out) (hc.below HB1.out) hmd hd63 HB1.out.size).mono ?_
         rintro e w2 ⟨rfl, hb2⟩
         have b32 := B31.out.below hb2 B31.out.lt
         have s20 : w2.cell? ⟨k3, 0, none⟩ = some (.slice A q.loc.length c) := b32.at_ 0 rfl
         have s21 : w2.cell? ⟨k3, 1, none⟩ = some (.slice C q.com.length d) := b32.at_ 1 rfl
         have B32 := Lib.hid b32
         have HB2 := Lib.hid (HB1.out.trans (hb2.mono HB1.out.size))
         clear hb2 b32)
      | (go_at_call 14
         refine (refValid_b w1 w.heap.size q.loc.length c q.com.length d A C HV.out (hl.below HB1.out) (hc.below HB1.out) (by unfold maxLen; omega) (by unfold maxLen; omega) hm8 HB1.out.size).mono ?_
         rintro e w2 ⟨rfl, hb2⟩
         have b32 := B31.out.below hb2 B31.out.lt
         have s20 : w2.cell? ⟨k3, 0, none⟩ = some (.slice A q.loc.length c) := b32.at_ 0 rfl
         have s21 : w2.cell? ⟨k3, 1, none⟩ = some (.slice C q.com.length d) := b32.at_ 1 rfl
         have B32 := Lib.hid b32
         have HB2 := Lib.hid (HB1.out.trans (hb2.mono HB1.out.size))
         clear hb2 b32))
  all_goals (
    go_wp2
    go_ret
    exact RetB.mk rfl HB3.out)

end Go.Proofs.Ytepcbgbmmmhglaa

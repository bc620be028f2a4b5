/- Add and Next keep every queued goroutine exactly once: the walks. -/
import Derived.Test.YtepcbgbmmmhglaaQ41
namespace Go.Proofs.Ytepcbgbmmmhglaa
open Go.RowKit

set_option maxRecDepth 100000 in
set_option maxHeartbeats 8000000 in
theorem lose_nn (w : World) (n c m d : Nat) (A C : Option Addr) (q : Qs) (p g : Int) (hl : Sl w (lt w.heap.size) A n q.loc) (hc : Sl w (lt w.heap.size) C m q.com) (hmd : m ≤ d) (hd63 : d ≤ maxLen) (hm8 : m * 8 ≤ 140737488351232) (hg63 : g < 2 ^ 63)
    (hv : validQ q = true) (h1r : addQ q p g = none) (h2r : nextQ q p g = none) :
    Calls Try.prog 7 #[.agg #[.slice A n c, .slice C m d], .int .i64 p, .int .i64 g] w (RetB (.bool true) w) := by
  obtain rfl : n = q.loc.length := hl.1.symm
  obtain rfl : m = q.com.length := hc.1.symm
  have hn4 : q.loc.length ≤ 4 := (valid_loc hv).2.1
  have hal8 := allQ_len hv
  have HV := Lib.hid hv
  clear hv
  go_enter Try.func7, Try.ntmps7
  go_upto_region 1 with fail
  obtain ⟨k3, hk3⟩ : ∃ k3, k3 = w.heap.size := ⟨_, rfl⟩
  obtain ⟨w0, hw0⟩ : ∃ w0, w0 = w.alloc (.cells #[.slice A q.loc.length c, .slice C q.com.length d] 26) := ⟨_, rfl⟩
  rw [← hw0, ← hk3]
  have b3 : Blk w0 k3 26 #[.slice A q.loc.length c, .slice C q.com.length d] := by rw [hw0]; exact heap_alloc_new' _ _ hk3
  have hb0 : Below w.heap.size w w0 := by rw [hw0]; exact (Below.refl _ _).alloc (Nat.le_refl _) _
  clear hw0 hk3
  have hz0 := hb0.size
  go_wp2_with fail
  refine (awake_any w0).mono ?_
  rintro e w1 ⟨rfl, hb1⟩
  have hb1' := hb0.trans (hb1.mono hz0)
  have b31 := b3.below hb1 b3.lt
  have e0 : w1.cell? ⟨k3, 0, none⟩ = some (.slice A q.loc.length c) := b31.at_ 0 rfl
  have e1 : w1.cell? ⟨k3, 1, none⟩ = some (.slice C q.com.length d) := b31.at_ 1 rfl
  have hz1 := hb1'.size
  go_wp2_with fail
  refine (refValid_b w1 w.heap.size q.loc.length c q.com.length d A C HV.out (hl.below hb1') (hc.below hb1') (by unfold maxLen; omega) (by unfold maxLen; omega) hm8 hz1).mono ?_
  rintro e w2 ⟨rfl, hb2⟩
  have hb2' := hb1'.trans (hb2.mono hz1)
  have b32 := b31.below hb2 b31.lt
  have hz2 := hb2'.size
  clear e0 e1 b3 b31
  have e0 : w2.cell? ⟨k3, 0, none⟩ = some (.slice A q.loc.length c) := b32.at_ 0 rfl
  have e1 : w2.cell? ⟨k3, 1, none⟩ = some (.slice C q.com.length d) := b32.at_ 1 rfl
  have HAD := Lib.hid (add_any w2 w.heap.size q.loc.length c q.com.length d A C q p g (hl.below hb2') (hc.below hb2') (by unfold maxLen; omega) hz2 hmd hd63)
  rw [h1r] at HAD
  go_wp2_with fail
  refine HAD.out.mono ?_
  rintro e w3 ⟨X, xn, xc, Y, ym, yd, rfl, hx1, hx2, hy1, hy2, hxl, hyl, hb3⟩
  have hb3' := hb2'.trans (hb3.mono hz2)
  have hz3 := hb3'.size
  have b33 := b32.below hb3 b32.lt
  clear e0 e1 b32 HAD
  go_upto_region 4 with fail
  obtain ⟨k7, hk7⟩ : ∃ k7, k7 = w3.heap.size := ⟨_, rfl⟩
  obtain ⟨w4, hw4⟩ : ∃ w4, w4 = w3.alloc (.cells #[.slice X xn xc, .slice Y ym yd] 26) := ⟨_, rfl⟩
  rw [← hw4, ← hk7]
  have b34 : Blk w4 k3 26 #[.slice A q.loc.length c, .slice C q.com.length d] := by rw [hw4]; exact b33.alloc _
  have b74 : Blk w4 k7 26 #[.slice X xn xc, .slice Y ym yd] := by rw [hw4]; exact heap_alloc_new' _ _ hk7
  have hx4 : Sl w4 (lt w4.heap.size) X xn noQ.loc := by rw [hw4]; exact (hxl.alloc_ (fun b h => h) _).mono (by simp)
  have hy4 : Sl w4 (lt w4.heap.size) Y ym noQ.com := by rw [hw4]; exact (hyl.alloc_ (fun b h => h) _).mono (by simp)
  have hb4 : Below w.heap.size w w4 := by rw [hw4]; exact hb3'.alloc hz3 _
  have hz4 := hb4.size
  clear hw4 hk7 b33 hxl hyl
  have e0 : w4.cell? ⟨k3, 0, none⟩ = some (.slice A q.loc.length c) := b34.at_ 0 rfl
  have e1 : w4.cell? ⟨k3, 1, none⟩ = some (.slice C q.com.length d) := b34.at_ 1 rfl
  have HND := Lib.hid (next_any w4 w.heap.size q.loc.length c q.com.length d A C q p g (hl.below hb4) (hc.below hb4) (by unfold maxLen; omega) hz4 hg63 hmd hd63)
  rw [h2r] at HND
  go_wp2_with fail
  refine HND.out.mono ?_
  rintro e w5 ⟨U, un, uc, V, vn, vd, rfl, hu1, hu2, hv1, hv2, hul, hvl, hb5⟩
  have hb5' := hb4.trans (hb5.mono hz4)
  have hz5 := hb5'.size
  have b35 := b34.below hb5 b34.lt
  have b75 := b74.below hb5 b74.lt
  have hx5 := hx4.below hb5
  have hy5 := hy4.below hb5
  have hz45 := hb5.size
  clear e0 e1 b34 b74 hx4 hy4 HND
  go_upto_region 5 with fail
  obtain ⟨k9, hk9⟩ : ∃ k9, k9 = w5.heap.size := ⟨_, rfl⟩
  obtain ⟨w6, hw6⟩ : ∃ w6, w6 = w5.alloc (.cells #[.slice U un uc, .slice V vn vd] 26) := ⟨_, rfl⟩
  rw [← hw6, ← hk9]
  have b36 : Blk w6 k3 26 #[.slice A q.loc.length c, .slice C q.com.length d] := by rw [hw6]; exact b35.alloc _
  have b76 : Blk w6 k7 26 #[.slice X xn xc, .slice Y ym yd] := by rw [hw6]; exact b75.alloc _
  have b96 : Blk w6 k9 26 #[.slice U un uc, .slice V vn vd] := by rw [hw6]; exact heap_alloc_new' _ _ hk9
  have hu6 : Sl w6 (lt w6.heap.size) U un noQ.loc := by rw [hw6]; exact (hul.alloc_ (fun b h => h) _).mono (by simp)
  have hv6 : Sl w6 (lt w6.heap.size) V vn noQ.com := by rw [hw6]; exact (hvl.alloc_ (fun b h => h) _).mono (by simp)
  have hx6 : Sl w6 (lt w6.heap.size) X xn noQ.loc := by rw [hw6]; exact ((hx5.mono hz45).alloc_ (fun b h => h) _).mono (by simp)
  have hy6 : Sl w6 (lt w6.heap.size) Y ym noQ.com := by rw [hw6]; exact ((hy5.mono hz45).alloc_ (fun b h => h) _).mono (by simp)
  have hb6 : Below w.heap.size w w6 := by rw [hw6]; exact hb5'.alloc hz5 _
  have hz6 := hb6.size
  clear hw6 hk9 b35 b75 hul hvl hx5 hy5
  have e70 : w6.cell? ⟨k7, 0, none⟩ = some (.slice X xn xc) := b76.at_ 0 rfl
  have e71 : w6.cell? ⟨k7, 1, none⟩ = some (.slice Y ym yd) := b76.at_ 1 rfl
  have e90 : w6.cell? ⟨k9, 0, none⟩ = some (.slice U un uc) := b96.at_ 0 rfl
  have e91 : w6.cell? ⟨k9, 1, none⟩ = some (.slice V vn vd) := b96.at_ 1 rfl
  have hbs : Below w6.heap.size w6 w6 := Below.refl _ _
  have b3c := b36.below hbs b36.lt
  have e30 : w6.cell? ⟨k3, 0, none⟩ = some (.slice A q.loc.length c) := b3c.at_ 0 rfl
  have e31 : w6.cell? ⟨k3, 1, none⟩ = some (.slice C q.com.length d) := b3c.at_ 1 rfl
  have hbc : Below w.heap.size w w6 := hb6.trans (hbs.mono hz6)
  go_wp2_with fail
  refine (all_any w6 w.heap.size q.loc.length c q.com.length d A C q (hl.below hbc) (hc.below hbc) (by unfold maxLen; omega) (by unfold maxLen; omega) (by omega) hbc.size).mono ?_
  rintro e w9 ⟨v9, rfl, hb9, hown9⟩
  obtain ⟨LA, lc, rfl, hlc, hlc', hsl9⟩ := hown9.sl false_lt
  obtain ⟨l, hle⟩ : ∃ l, l = (allQ q).length := ⟨_, rfl⟩
  rw [← hle] at hsl9 hlc ⊢
  have HL9 := Lib.hid hsl9
  have hb69 : Below w6.heap.size w6 w9 := hbs.trans (hb9.mono hbs.size)
  have hB9 := Lib.hid (hb6.trans (hb69.mono hz6))
  have hx9 := Lib.hid ((hx6.below hb69).mono hb69.size)
  have hy9 := Lib.hid ((hy6.below hb69).mono hb69.size)
  have hu9 := Lib.hid ((hu6.below hb69).mono hb69.size)
  have hv9 := Lib.hid ((hv6.below hb69).mono hb69.size)
  have B79 := Lib.hid (b76.below hb69 b76.lt)
  have B99 := Lib.hid (b96.below hb69 b96.lt)
  clear hown9 hsl9 hle e30 e31 e70 e71 e90 e91 hx6 hy6 hu6 hv6 b76 b96 b36 b3c hal8 h1r h2r hbs
  go_wp2
  go_loopw [13, 14] (fun i _ wr => ∃ k : Nat, k ≤ 8 ∧ i = .int .i64 k ∧ Below w9.heap.size w9 wr) (fun i _ _ => 8 - (intOf i).toNat)
  case atStart => exact ⟨0, by omega, rfl, Below.refl _ _⟩
  case round =>
    obtain ⟨w10, rfl⟩ : ∃ w10 : World, w10 = wr := ⟨_, rfl⟩
    obtain ⟨k, hk, rfl, hbr⟩ := hrel
    by_cases hlt : k < 8
    · have b7r := B79.out.below hbr B79.out.lt
      have b9r := B99.out.below hbr B99.out.lt
      have e70 : w10.cell? ⟨k7, 0, none⟩ = some (.slice X xn xc) := b7r.at_ 0 rfl
      have e71 : w10.cell? ⟨k7, 1, none⟩ = some (.slice Y ym yd) := b7r.at_ 1 rfl
      have e90 : w10.cell? ⟨k9, 0, none⟩ = some (.slice U un uc) := b9r.at_ 0 rfl
      have e91 : w10.cell? ⟨k9, 1, none⟩ = some (.slice V vn vd) := b9r.at_ 1 rfl
      clear b7r b9r
      obtain ⟨z0, hz0'⟩ : ∃ z0 : Int, (((allQ q).count (k : Int) : Nat) : Int) = z0 := ⟨_, rfl⟩
      have HZ := Lib.hid hz0'
      have hzz : (z0 != z0) = false := bne_self_eq_false z0
      clear hz0'
      go_wp2_with fail
      refine (count_b w10 (lt w9.heap.size) l lc (y := (k : Int)) (z := z0) (HZ.out) (HL9.out.below hbr) (Nat.le_trans hlc hlc')).mono ?_
      rintro e wy ⟨rfl, rfl⟩
      go_wp2
      go_roundw
      case rel => exact ⟨k + 1, by omega, by go_num, hbr⟩
      case measure => simp [intOf]; omega
    · obtain rfl : k = 8 := by omega
      have hbe := hB9.out.trans (hbr.mono hB9.out.size)
      go_wp2
      go_ret
      exact RetB.mk rfl hbe

set_option maxRecDepth 100000 in
set_option maxHeartbeats 8000000 in
theorem lose_an (w : World) (n c m d : Nat) (A C : Option Addr) (q : Qs) (p g : Int) (hl : Sl w (lt w.heap.size) A n q.loc) (hc : Sl w (lt w.heap.size) C m q.com) (hmd : m ≤ d) (hd63 : d ≤ maxLen) (hm8 : m * 8 ≤ 140737488351232) (hg63 : g < 2 ^ 63)
    (hv : validQ q = true) (a : Qs) (h1r : addQ q p g = some a) (h2r : nextQ q p g = none) :
    Calls Try.prog 7 #[.agg #[.slice A n c, .slice C m d], .int .i64 p, .int .i64 g] w (RetB (.bool true) w) := by
  obtain rfl : n = q.loc.length := hl.1.symm
  obtain rfl : m = q.com.length := hc.1.symm
  have hn4 : q.loc.length ≤ 4 := (valid_loc hv).2.1
  have hal8 := allQ_len hv
  have HV := Lib.hid hv
  clear hv
  have VA := Lib.hid (add_counts h1r).2.1
  have FA := Lib.hid (add_counts h1r).2.2
  go_enter Try.func7, Try.ntmps7
  go_upto_region 1 with fail
  obtain ⟨k3, hk3⟩ : ∃ k3, k3 = w.heap.size := ⟨_, rfl⟩
  obtain ⟨w0, hw0⟩ : ∃ w0, w0 = w.alloc (.cells #[.slice A q.loc.length c, .slice C q.com.length d] 26) := ⟨_, rfl⟩
  rw [← hw0, ← hk3]
  have b3 : Blk w0 k3 26 #[.slice A q.loc.length c, .slice C q.com.length d] := by rw [hw0]; exact heap_alloc_new' _ _ hk3
  have hb0 : Below w.heap.size w w0 := by rw [hw0]; exact (Below.refl _ _).alloc (Nat.le_refl _) _
  clear hw0 hk3
  have hz0 := hb0.size
  go_wp2_with fail
  refine (awake_any w0).mono ?_
  rintro e w1 ⟨rfl, hb1⟩
  have hb1' := hb0.trans (hb1.mono hz0)
  have b31 := b3.below hb1 b3.lt
  have e0 : w1.cell? ⟨k3, 0, none⟩ = some (.slice A q.loc.length c) := b31.at_ 0 rfl
  have e1 : w1.cell? ⟨k3, 1, none⟩ = some (.slice C q.com.length d) := b31.at_ 1 rfl
  have hz1 := hb1'.size
  go_wp2_with fail
  refine (refValid_b w1 w.heap.size q.loc.length c q.com.length d A C HV.out (hl.below hb1') (hc.below hb1') (by unfold maxLen; omega) (by unfold maxLen; omega) hm8 hz1).mono ?_
  rintro e w2 ⟨rfl, hb2⟩
  have hb2' := hb1'.trans (hb2.mono hz1)
  have b32 := b31.below hb2 b31.lt
  have hz2 := hb2'.size
  clear e0 e1 b3 b31
  have e0 : w2.cell? ⟨k3, 0, none⟩ = some (.slice A q.loc.length c) := b32.at_ 0 rfl
  have e1 : w2.cell? ⟨k3, 1, none⟩ = some (.slice C q.com.length d) := b32.at_ 1 rfl
  have HAD := Lib.hid (add_any w2 w.heap.size q.loc.length c q.com.length d A C q p g (hl.below hb2') (hc.below hb2') (by unfold maxLen; omega) hz2 hmd hd63)
  rw [h1r] at HAD
  go_wp2_with fail
  refine HAD.out.mono ?_
  rintro e w3 ⟨X, xn, xc, Y, ym, yd, rfl, hx1, hx2, hy1, hy2, hxl, hyl, hb3⟩
  have hb3' := hb2'.trans (hb3.mono hz2)
  have hz3 := hb3'.size
  have b33 := b32.below hb3 b32.lt
  clear e0 e1 b32 HAD
  go_upto_region 4 with fail
  obtain ⟨k7, hk7⟩ : ∃ k7, k7 = w3.heap.size := ⟨_, rfl⟩
  obtain ⟨w4, hw4⟩ : ∃ w4, w4 = w3.alloc (.cells #[.slice X xn xc, .slice Y ym yd] 26) := ⟨_, rfl⟩
  rw [← hw4, ← hk7]
  have b34 : Blk w4 k3 26 #[.slice A q.loc.length c, .slice C q.com.length d] := by rw [hw4]; exact b33.alloc _
  have b74 : Blk w4 k7 26 #[.slice X xn xc, .slice Y ym yd] := by rw [hw4]; exact heap_alloc_new' _ _ hk7
  have hx4 : Sl w4 (lt w4.heap.size) X xn a.loc := by rw [hw4]; exact (hxl.alloc_ (fun b h => h) _).mono (by simp)
  have hy4 : Sl w4 (lt w4.heap.size) Y ym a.com := by rw [hw4]; exact (hyl.alloc_ (fun b h => h) _).mono (by simp)
  have hb4 : Below w.heap.size w w4 := by rw [hw4]; exact hb3'.alloc hz3 _
  have hz4 := hb4.size
  clear hw4 hk7 b33 hxl hyl
  have e0 : w4.cell? ⟨k3, 0, none⟩ = some (.slice A q.loc.length c) := b34.at_ 0 rfl
  have e1 : w4.cell? ⟨k3, 1, none⟩ = some (.slice C q.com.length d) := b34.at_ 1 rfl
  have HND := Lib.hid (next_any w4 w.heap.size q.loc.length c q.com.length d A C q p g (hl.below hb4) (hc.below hb4) (by unfold maxLen; omega) hz4 hg63 hmd hd63)
  rw [h2r] at HND
  go_wp2_with fail
  refine HND.out.mono ?_
  rintro e w5 ⟨U, un, uc, V, vn, vd, rfl, hu1, hu2, hv1, hv2, hul, hvl, hb5⟩
  have hb5' := hb4.trans (hb5.mono hz4)
  have hz5 := hb5'.size
  have b35 := b34.below hb5 b34.lt
  have b75 := b74.below hb5 b74.lt
  have hx5 := hx4.below hb5
  have hy5 := hy4.below hb5
  have hz45 := hb5.size
  clear e0 e1 b34 b74 hx4 hy4 HND
  go_upto_region 5 with fail
  obtain ⟨k9, hk9⟩ : ∃ k9, k9 = w5.heap.size := ⟨_, rfl⟩
  obtain ⟨w6, hw6⟩ : ∃ w6, w6 = w5.alloc (.cells #[.slice U un uc, .slice V vn vd] 26) := ⟨_, rfl⟩
  rw [← hw6, ← hk9]
  have b36 : Blk w6 k3 26 #[.slice A q.loc.length c, .slice C q.com.length d] := by rw [hw6]; exact b35.alloc _
  have b76 : Blk w6 k7 26 #[.slice X xn xc, .slice Y ym yd] := by rw [hw6]; exact b75.alloc _
  have b96 : Blk w6 k9 26 #[.slice U un uc, .slice V vn vd] := by rw [hw6]; exact heap_alloc_new' _ _ hk9
  have hu6 : Sl w6 (lt w6.heap.size) U un noQ.loc := by rw [hw6]; exact (hul.alloc_ (fun b h => h) _).mono (by simp)
  have hv6 : Sl w6 (lt w6.heap.size) V vn noQ.com := by rw [hw6]; exact (hvl.alloc_ (fun b h => h) _).mono (by simp)
  have hx6 : Sl w6 (lt w6.heap.size) X xn a.loc := by rw [hw6]; exact ((hx5.mono hz45).alloc_ (fun b h => h) _).mono (by simp)
  have hy6 : Sl w6 (lt w6.heap.size) Y ym a.com := by rw [hw6]; exact ((hy5.mono hz45).alloc_ (fun b h => h) _).mono (by simp)
  have hb6 : Below w.heap.size w w6 := by rw [hw6]; exact hb5'.alloc hz5 _
  have hz6 := hb6.size
  clear hw6 hk9 b35 b75 hul hvl hx5 hy5
  have e70 : w6.cell? ⟨k7, 0, none⟩ = some (.slice X xn xc) := b76.at_ 0 rfl
  have e71 : w6.cell? ⟨k7, 1, none⟩ = some (.slice Y ym yd) := b76.at_ 1 rfl
  have e90 : w6.cell? ⟨k9, 0, none⟩ = some (.slice U un uc) := b96.at_ 0 rfl
  have e91 : w6.cell? ⟨k9, 1, none⟩ = some (.slice V vn vd) := b96.at_ 1 rfl
  have hbs : Below w6.heap.size w6 w6 := Below.refl _ _
  go_wp2_with fail
  refine (valid_b w6 w6.heap.size xn xc ym yd X Y VA.out (hx6.below hbs) (hy6.below hbs) hy1 hy2 hbs.size).mono ?_
  rintro e w7 ⟨rfl, hbn⟩
  have hbs' : Below w6.heap.size w6 w7 := hbs.trans (hbn.mono hbs.size)
  clear hbs hbn e70 e71 e90 e91
  have hbs := hbs'
  clear hbs'
  have b7n := b76.below hbs b76.lt
  have b9n := b96.below hbs b96.lt
  have e70 : w7.cell? ⟨k7, 0, none⟩ = some (.slice X xn xc) := b7n.at_ 0 rfl
  have e71 : w7.cell? ⟨k7, 1, none⟩ = some (.slice Y ym yd) := b7n.at_ 1 rfl
  have e90 : w7.cell? ⟨k9, 0, none⟩ = some (.slice U un uc) := b9n.at_ 0 rfl
  have e91 : w7.cell? ⟨k9, 1, none⟩ = some (.slice V vn vd) := b9n.at_ 1 rfl
  clear b7n b9n
  have b3c := b36.below hbs b36.lt
  have e30 : w7.cell? ⟨k3, 0, none⟩ = some (.slice A q.loc.length c) := b3c.at_ 0 rfl
  have e31 : w7.cell? ⟨k3, 1, none⟩ = some (.slice C q.com.length d) := b3c.at_ 1 rfl
  have hbc : Below w.heap.size w w7 := hb6.trans (hbs.mono hz6)
  go_wp2_with fail
  refine (all_any w7 w.heap.size q.loc.length c q.com.length d A C q (hl.below hbc) (hc.below hbc) (by unfold maxLen; omega) (by unfold maxLen; omega) (by omega) hbc.size).mono ?_
  rintro e w9 ⟨v9, rfl, hb9, hown9⟩
  obtain ⟨LA, lc, rfl, hlc, hlc', hsl9⟩ := hown9.sl false_lt
  obtain ⟨l, hle⟩ : ∃ l, l = (allQ q).length := ⟨_, rfl⟩
  rw [← hle] at hsl9 hlc ⊢
  have HL9 := Lib.hid hsl9
  have hb69 : Below w6.heap.size w6 w9 := hbs.trans (hb9.mono hbs.size)
  have hB9 := Lib.hid (hb6.trans (hb69.mono hz6))
  have hx9 := Lib.hid ((hx6.below hb69).mono hb69.size)
  have hy9 := Lib.hid ((hy6.below hb69).mono hb69.size)
  have hu9 := Lib.hid ((hu6.below hb69).mono hb69.size)
  have hv9 := Lib.hid ((hv6.below hb69).mono hb69.size)
  have B79 := Lib.hid (b76.below hb69 b76.lt)
  have B99 := Lib.hid (b96.below hb69 b96.lt)
  clear hown9 hsl9 hle e30 e31 e70 e71 e90 e91 hx6 hy6 hu6 hv6 b76 b96 b36 b3c hal8 h1r h2r hbs
  go_wp2
  go_loopw [13, 14] (fun i _ wr => ∃ k : Nat, k ≤ 8 ∧ i = .int .i64 k ∧ Below w9.heap.size w9 wr) (fun i _ _ => 8 - (intOf i).toNat)
  case atStart => exact ⟨0, by omega, rfl, Below.refl _ _⟩
  case round =>
    obtain ⟨w10, rfl⟩ : ∃ w10 : World, w10 = wr := ⟨_, rfl⟩
    obtain ⟨k, hk, rfl, hbr⟩ := hrel
    by_cases hlt : k < 8
    · have b7r := B79.out.below hbr B79.out.lt
      have b9r := B99.out.below hbr B99.out.lt
      have e70 : w10.cell? ⟨k7, 0, none⟩ = some (.slice X xn xc) := b7r.at_ 0 rfl
      have e71 : w10.cell? ⟨k7, 1, none⟩ = some (.slice Y ym yd) := b7r.at_ 1 rfl
      have e90 : w10.cell? ⟨k9, 0, none⟩ = some (.slice U un uc) := b9r.at_ 0 rfl
      have e91 : w10.cell? ⟨k9, 1, none⟩ = some (.slice V vn vd) := b9r.at_ 1 rfl
      clear b7r b9r
      by_cases h1 : (k : Int) = g
      · have c1 : ((k : Int) == g) = true := beq_iff_eq.2 h1
        have c2 : ((k : Int) != g) = false := by rw [bne, c1]; rfl
        have H1 := Lib.hid h1
        clear h1
        go_wp2_with fail
        refine (count_b w10 (lt w9.heap.size) l lc (y := (k : Int)) (z := 0) (by rw [H1.out, FA.out.1]; rfl) (HL9.out.below hbr) (Nat.le_trans hlc hlc')).mono ?_
        rintro e wy ⟨rfl, rfl⟩
        go_wp2_with fail
        refine (all_any w10 w9.heap.size xn xc ym yd X Y a (hx9.out.below hbr) (hy9.out.below hbr) (Nat.le_trans hx1 hx2) (Nat.le_trans hy1 hy2) (by have := allQ_len VA.out; omega) hbr.size).mono ?_
        rintro e w11 ⟨vx, rfl, hbn, hownn⟩
        obtain ⟨LX, lx, rfl, hlx1, hlx2, hslx⟩ := hownn.sl false_lt
        obtain ⟨ln, hln⟩ : ∃ ln, ln = (allQ a).length := ⟨_, rfl⟩
        rw [← hln] at hslx hlx1 ⊢
        have HSLX := Lib.hid hslx
        have hbr' : Below w9.heap.size w9 w11 := hbr.trans (hbn.mono hbr.size)
        clear hownn hslx hln hbr hbn e70 e71 e90 e91
        have hbr := hbr'
        clear hbr'
        have b7r := B79.out.below hbr B79.out.lt
        have b9r := B99.out.below hbr B99.out.lt
        have e70 : w11.cell? ⟨k7, 0, none⟩ = some (.slice X xn xc) := b7r.at_ 0 rfl
        have e71 : w11.cell? ⟨k7, 1, none⟩ = some (.slice Y ym yd) := b7r.at_ 1 rfl
        have e90 : w11.cell? ⟨k9, 0, none⟩ = some (.slice U un uc) := b9r.at_ 0 rfl
        have e91 : w11.cell? ⟨k9, 1, none⟩ = some (.slice V vn vd) := b9r.at_ 1 rfl
        clear b7r b9r
        go_wp2_with fail
        refine (count_b w11 (lt w11.heap.size) ln lx (y := (k : Int)) (z := 1) (by rw [H1.out, FA.out.2.1]; rfl) HSLX.out (Nat.le_trans hlx1 hlx2)).mono ?_
        rintro e wx ⟨rfl, rfl⟩
        clear HSLX
        go_wp2
        go_roundw
        case rel => exact ⟨k + 1, by omega, by go_num, hbr⟩
        case measure => simp [intOf]; omega
      · have c1 : ((k : Int) == g) = false := beq_eq_false_iff_ne.2 h1
        have c2 : ((k : Int) != g) = true := by rw [bne, c1]; rfl
        have H1 := Lib.hid h1
        clear h1
        obtain ⟨z0, hz0'⟩ : ∃ z0 : Int, (((allQ q).count (k : Int) : Nat) : Int) = z0 := ⟨_, rfl⟩
        have HZ := Lib.hid hz0'
        have hzz : (z0 != z0) = false := bne_self_eq_false z0
        clear hz0'
        go_wp2_with fail
        refine (count_b w10 (lt w9.heap.size) l lc (y := (k : Int)) (z := z0) (HZ.out) (HL9.out.below hbr) (Nat.le_trans hlc hlc')).mono ?_
        rintro e wy ⟨rfl, rfl⟩
        go_wp2_with fail
        refine (all_any w10 w9.heap.size xn xc ym yd X Y a (hx9.out.below hbr) (hy9.out.below hbr) (Nat.le_trans hx1 hx2) (Nat.le_trans hy1 hy2) (by have := allQ_len VA.out; omega) hbr.size).mono ?_
        rintro e w11 ⟨vx, rfl, hbn, hownn⟩
        obtain ⟨LX, lx, rfl, hlx1, hlx2, hslx⟩ := hownn.sl false_lt
        obtain ⟨ln, hln⟩ : ∃ ln, ln = (allQ a).length := ⟨_, rfl⟩
        rw [← hln] at hslx hlx1 ⊢
        have HSLX := Lib.hid hslx
        have hbr' : Below w9.heap.size w9 w11 := hbr.trans (hbn.mono hbr.size)
        clear hownn hslx hln hbr hbn e70 e71 e90 e91
        have hbr := hbr'
        clear hbr'
        have b7r := B79.out.below hbr B79.out.lt
        have b9r := B99.out.below hbr B99.out.lt
        have e70 : w11.cell? ⟨k7, 0, none⟩ = some (.slice X xn xc) := b7r.at_ 0 rfl
        have e71 : w11.cell? ⟨k7, 1, none⟩ = some (.slice Y ym yd) := b7r.at_ 1 rfl
        have e90 : w11.cell? ⟨k9, 0, none⟩ = some (.slice U un uc) := b9r.at_ 0 rfl
        have e91 : w11.cell? ⟨k9, 1, none⟩ = some (.slice V vn vd) := b9r.at_ 1 rfl
        clear b7r b9r
        go_wp2_with fail
        refine (count_b w11 (lt w11.heap.size) ln lx (y := (k : Int)) (z := z0) (by rw [FA.out.2.2 _ H1.out]; exact HZ.out) HSLX.out (Nat.le_trans hlx1 hlx2)).mono ?_
        rintro e wx ⟨rfl, rfl⟩
        clear HSLX
        go_wp2
        go_roundw
        case rel => exact ⟨k + 1, by omega, by go_num, hbr⟩
        case measure => simp [intOf]; omega
    · obtain rfl : k = 8 := by omega
      have hbe := hB9.out.trans (hbr.mono hB9.out.size)
      go_wp2
      go_ret
      exact RetB.mk rfl hbe

set_option maxRecDepth 100000 in
set_option maxHeartbeats 8000000 in
theorem lose_nb (w : World) (n c m d : Nat) (A C : Option Addr) (q : Qs) (p g : Int) (hl : Sl w (lt w.heap.size) A n q.loc) (hc : Sl w (lt w.heap.size) C m q.com) (hmd : m ≤ d) (hd63 : d ≤ maxLen) (hm8 : m * 8 ≤ 140737488351232) (hg63 : g < 2 ^ 63)
    (hv : validQ q = true) (h1r : addQ q p g = none) (b : Qs) (gg : Int) (h2r : nextQ q p g = some (b, gg)) :
    Calls Try.prog 7 #[.agg #[.slice A n c, .slice C m d], .int .i64 p, .int .i64 g] w (RetB (.bool true) w) := by
  obtain rfl : n = q.loc.length := hl.1.symm
  obtain rfl : m = q.com.length := hc.1.symm
  have hn4 : q.loc.length ≤ 4 := (valid_loc hv).2.1
  have hal8 := allQ_len hv
  have HV := Lib.hid hv
  clear hv
  have VB := Lib.hid (next_counts h2r).2.1
  have FB := Lib.hid (next_counts h2r).2.2
  go_enter Try.func7, Try.ntmps7
  go_upto_region 1 with fail
  obtain ⟨k3, hk3⟩ : ∃ k3, k3 = w.heap.size := ⟨_, rfl⟩
  obtain ⟨w0, hw0⟩ : ∃ w0, w0 = w.alloc (.cells #[.slice A q.loc.length c, .slice C q.com.length d] 26) := ⟨_, rfl⟩
  rw [← hw0, ← hk3]
  have b3 : Blk w0 k3 26 #[.slice A q.loc.length c, .slice C q.com.length d] := by rw [hw0]; exact heap_alloc_new' _ _ hk3
  have hb0 : Below w.heap.size w w0 := by rw [hw0]; exact (Below.refl _ _).alloc (Nat.le_refl _) _
  clear hw0 hk3
  have hz0 := hb0.size
  go_wp2_with fail
  refine (awake_any w0).mono ?_
  rintro e w1 ⟨rfl, hb1⟩
  have hb1' := hb0.trans (hb1.mono hz0)
  have b31 := b3.below hb1 b3.lt
  have e0 : w1.cell? ⟨k3, 0, none⟩ = some (.slice A q.loc.length c) := b31.at_ 0 rfl
  have e1 : w1.cell? ⟨k3, 1, none⟩ = some (.slice C q.com.length d) := b31.at_ 1 rfl
  have hz1 := hb1'.size
  go_wp2_with fail
  refine (refValid_b w1 w.heap.size q.loc.length c q.com.length d A C HV.out (hl.below hb1') (hc.below hb1') (by unfold maxLen; omega) (by unfold maxLen; omega) hm8 hz1).mono ?_
  rintro e w2 ⟨rfl, hb2⟩
  have hb2' := hb1'.trans (hb2.mono hz1)
  have b32 := b31.below hb2 b31.lt
  have hz2 := hb2'.size
  clear e0 e1 b3 b31
  have e0 : w2.cell? ⟨k3, 0, none⟩ = some (.slice A q.loc.length c) := b32.at_ 0 rfl
  have e1 : w2.cell? ⟨k3, 1, none⟩ = some (.slice C q.com.length d) := b32.at_ 1 rfl
  have HAD := Lib.hid (add_any w2 w.heap.size q.loc.length c q.com.length d A C q p g (hl.below hb2') (hc.below hb2') (by unfold maxLen; omega) hz2 hmd hd63)
  rw [h1r] at HAD
  go_wp2_with fail
  refine HAD.out.mono ?_
  rintro e w3 ⟨X, xn, xc, Y, ym, yd, rfl, hx1, hx2, hy1, hy2, hxl, hyl, hb3⟩
  have hb3' := hb2'.trans (hb3.mono hz2)
  have hz3 := hb3'.size
  have b33 := b32.below hb3 b32.lt
  clear e0 e1 b32 HAD
  go_upto_region 4 with fail
  obtain ⟨k7, hk7⟩ : ∃ k7, k7 = w3.heap.size := ⟨_, rfl⟩
  obtain ⟨w4, hw4⟩ : ∃ w4, w4 = w3.alloc (.cells #[.slice X xn xc, .slice Y ym yd] 26) := ⟨_, rfl⟩
  rw [← hw4, ← hk7]
  have b34 : Blk w4 k3 26 #[.slice A q.loc.length c, .slice C q.com.length d] := by rw [hw4]; exact b33.alloc _
  have b74 : Blk w4 k7 26 #[.slice X xn xc, .slice Y ym yd] := by rw [hw4]; exact heap_alloc_new' _ _ hk7
  have hx4 : Sl w4 (lt w4.heap.size) X xn noQ.loc := by rw [hw4]; exact (hxl.alloc_ (fun b h => h) _).mono (by simp)
  have hy4 : Sl w4 (lt w4.heap.size) Y ym noQ.com := by rw [hw4]; exact (hyl.alloc_ (fun b h => h) _).mono (by simp)
  have hb4 : Below w.heap.size w w4 := by rw [hw4]; exact hb3'.alloc hz3 _
  have hz4 := hb4.size
  clear hw4 hk7 b33 hxl hyl
  have e0 : w4.cell? ⟨k3, 0, none⟩ = some (.slice A q.loc.length c) := b34.at_ 0 rfl
  have e1 : w4.cell? ⟨k3, 1, none⟩ = some (.slice C q.com.length d) := b34.at_ 1 rfl
  have HND := Lib.hid (next_any w4 w.heap.size q.loc.length c q.com.length d A C q p g (hl.below hb4) (hc.below hb4) (by unfold maxLen; omega) hz4 hg63 hmd hd63)
  rw [h2r] at HND
  go_wp2_with fail
  refine HND.out.mono ?_
  rintro e w5 ⟨U, un, uc, V, vn, vd, rfl, hu1, hu2, hv1, hv2, hul, hvl, hb5⟩
  have hb5' := hb4.trans (hb5.mono hz4)
  have hz5 := hb5'.size
  have b35 := b34.below hb5 b34.lt
  have b75 := b74.below hb5 b74.lt
  have hx5 := hx4.below hb5
  have hy5 := hy4.below hb5
  have hz45 := hb5.size
  clear e0 e1 b34 b74 hx4 hy4 HND
  go_upto_region 5 with fail
  obtain ⟨k9, hk9⟩ : ∃ k9, k9 = w5.heap.size := ⟨_, rfl⟩
  obtain ⟨w6, hw6⟩ : ∃ w6, w6 = w5.alloc (.cells #[.slice U un uc, .slice V vn vd] 26) := ⟨_, rfl⟩
  rw [← hw6, ← hk9]
  have b36 : Blk w6 k3 26 #[.slice A q.loc.length c, .slice C q.com.length d] := by rw [hw6]; exact b35.alloc _
  have b76 : Blk w6 k7 26 #[.slice X xn xc, .slice Y ym yd] := by rw [hw6]; exact b75.alloc _
  have b96 : Blk w6 k9 26 #[.slice U un uc, .slice V vn vd] := by rw [hw6]; exact heap_alloc_new' _ _ hk9
  have hu6 : Sl w6 (lt w6.heap.size) U un b.loc := by rw [hw6]; exact (hul.alloc_ (fun b h => h) _).mono (by simp)
  have hv6 : Sl w6 (lt w6.heap.size) V vn b.com := by rw [hw6]; exact (hvl.alloc_ (fun b h => h) _).mono (by simp)
  have hx6 : Sl w6 (lt w6.heap.size) X xn noQ.loc := by rw [hw6]; exact ((hx5.mono hz45).alloc_ (fun b h => h) _).mono (by simp)
  have hy6 : Sl w6 (lt w6.heap.size) Y ym noQ.com := by rw [hw6]; exact ((hy5.mono hz45).alloc_ (fun b h => h) _).mono (by simp)
  have hb6 : Below w.heap.size w w6 := by rw [hw6]; exact hb5'.alloc hz5 _
  have hz6 := hb6.size
  clear hw6 hk9 b35 b75 hul hvl hx5 hy5
  have e70 : w6.cell? ⟨k7, 0, none⟩ = some (.slice X xn xc) := b76.at_ 0 rfl
  have e71 : w6.cell? ⟨k7, 1, none⟩ = some (.slice Y ym yd) := b76.at_ 1 rfl
  have e90 : w6.cell? ⟨k9, 0, none⟩ = some (.slice U un uc) := b96.at_ 0 rfl
  have e91 : w6.cell? ⟨k9, 1, none⟩ = some (.slice V vn vd) := b96.at_ 1 rfl
  have hbs : Below w6.heap.size w6 w6 := Below.refl _ _
  go_wp2_with fail
  refine (valid_b w6 w6.heap.size un uc vn vd U V VB.out (hu6.below hbs) (hv6.below hbs) hv1 hv2 hbs.size).mono ?_
  rintro e w8 ⟨rfl, hbn⟩
  have hbs' : Below w6.heap.size w6 w8 := hbs.trans (hbn.mono hbs.size)
  clear hbs hbn e70 e71 e90 e91
  have hbs := hbs'
  clear hbs'
  have b7n := b76.below hbs b76.lt
  have b9n := b96.below hbs b96.lt
  have e70 : w8.cell? ⟨k7, 0, none⟩ = some (.slice X xn xc) := b7n.at_ 0 rfl
  have e71 : w8.cell? ⟨k7, 1, none⟩ = some (.slice Y ym yd) := b7n.at_ 1 rfl
  have e90 : w8.cell? ⟨k9, 0, none⟩ = some (.slice U un uc) := b9n.at_ 0 rfl
  have e91 : w8.cell? ⟨k9, 1, none⟩ = some (.slice V vn vd) := b9n.at_ 1 rfl
  clear b7n b9n
  have b3c := b36.below hbs b36.lt
  have e30 : w8.cell? ⟨k3, 0, none⟩ = some (.slice A q.loc.length c) := b3c.at_ 0 rfl
  have e31 : w8.cell? ⟨k3, 1, none⟩ = some (.slice C q.com.length d) := b3c.at_ 1 rfl
  have hbc : Below w.heap.size w w8 := hb6.trans (hbs.mono hz6)
  go_wp2_with fail
  refine (all_any w8 w.heap.size q.loc.length c q.com.length d A C q (hl.below hbc) (hc.below hbc) (by unfold maxLen; omega) (by unfold maxLen; omega) (by omega) hbc.size).mono ?_
  rintro e w9 ⟨v9, rfl, hb9, hown9⟩
  obtain ⟨LA, lc, rfl, hlc, hlc', hsl9⟩ := hown9.sl false_lt
  obtain ⟨l, hle⟩ : ∃ l, l = (allQ q).length := ⟨_, rfl⟩
  rw [← hle] at hsl9 hlc ⊢
  have HL9 := Lib.hid hsl9
  have hb69 : Below w6.heap.size w6 w9 := hbs.trans (hb9.mono hbs.size)
  have hB9 := Lib.hid (hb6.trans (hb69.mono hz6))
  have hx9 := Lib.hid ((hx6.below hb69).mono hb69.size)
  have hy9 := Lib.hid ((hy6.below hb69).mono hb69.size)
  have hu9 := Lib.hid ((hu6.below hb69).mono hb69.size)
  have hv9 := Lib.hid ((hv6.below hb69).mono hb69.size)
  have B79 := Lib.hid (b76.below hb69 b76.lt)
  have B99 := Lib.hid (b96.below hb69 b96.lt)
  clear hown9 hsl9 hle e30 e31 e70 e71 e90 e91 hx6 hy6 hu6 hv6 b76 b96 b36 b3c hal8 h1r h2r hbs
  go_wp2
  go_loopw [13, 14] (fun i _ wr => ∃ k : Nat, k ≤ 8 ∧ i = .int .i64 k ∧ Below w9.heap.size w9 wr) (fun i _ _ => 8 - (intOf i).toNat)
  case atStart => exact ⟨0, by omega, rfl, Below.refl _ _⟩
  case round =>
    obtain ⟨w10, rfl⟩ : ∃ w10 : World, w10 = wr := ⟨_, rfl⟩
    obtain ⟨k, hk, rfl, hbr⟩ := hrel
    by_cases hlt : k < 8
    · have b7r := B79.out.below hbr B79.out.lt
      have b9r := B99.out.below hbr B99.out.lt
      have e70 : w10.cell? ⟨k7, 0, none⟩ = some (.slice X xn xc) := b7r.at_ 0 rfl
      have e71 : w10.cell? ⟨k7, 1, none⟩ = some (.slice Y ym yd) := b7r.at_ 1 rfl
      have e90 : w10.cell? ⟨k9, 0, none⟩ = some (.slice U un uc) := b9r.at_ 0 rfl
      have e91 : w10.cell? ⟨k9, 1, none⟩ = some (.slice V vn vd) := b9r.at_ 1 rfl
      clear b7r b9r
      by_cases h2 : (k : Int) = gg
      · have c3 : ((k : Int) == gg) = true := beq_iff_eq.2 h2
        have c4 : ((k : Int) != gg) = false := by rw [bne, c3]; rfl
        have H2 := Lib.hid h2
        clear h2
        go_wp2_with fail
        refine (count_b w10 (lt w9.heap.size) l lc (y := (k : Int)) (z := 1) (by rw [H2.out, FB.out.1]; rfl) (HL9.out.below hbr) (Nat.le_trans hlc hlc')).mono ?_
        rintro e wy ⟨rfl, rfl⟩
        go_wp2_with fail
        refine (all_any w10 w9.heap.size un uc vn vd U V b (hu9.out.below hbr) (hv9.out.below hbr) (Nat.le_trans hu1 hu2) (Nat.le_trans hv1 hv2) (by have := allQ_len VB.out; omega) hbr.size).mono ?_
        rintro e w11 ⟨vx, rfl, hbn, hownn⟩
        obtain ⟨LX, lx, rfl, hlx1, hlx2, hslx⟩ := hownn.sl false_lt
        obtain ⟨ln, hln⟩ : ∃ ln, ln = (allQ b).length := ⟨_, rfl⟩
        rw [← hln] at hslx hlx1 ⊢
        have HSLX := Lib.hid hslx
        have hbr' : Below w9.heap.size w9 w11 := hbr.trans (hbn.mono hbr.size)
        clear hownn hslx hln hbr hbn e70 e71 e90 e91
        have hbr := hbr'
        clear hbr'
        have b7r := B79.out.below hbr B79.out.lt
        have b9r := B99.out.below hbr B99.out.lt
        have e70 : w11.cell? ⟨k7, 0, none⟩ = some (.slice X xn xc) := b7r.at_ 0 rfl
        have e71 : w11.cell? ⟨k7, 1, none⟩ = some (.slice Y ym yd) := b7r.at_ 1 rfl
        have e90 : w11.cell? ⟨k9, 0, none⟩ = some (.slice U un uc) := b9r.at_ 0 rfl
        have e91 : w11.cell? ⟨k9, 1, none⟩ = some (.slice V vn vd) := b9r.at_ 1 rfl
        clear b7r b9r
        go_wp2_with fail
        refine (count_b w11 (lt w11.heap.size) ln lx (y := (k : Int)) (z := 0) (by rw [H2.out, FB.out.2.1]; rfl) HSLX.out (Nat.le_trans hlx1 hlx2)).mono ?_
        rintro e wx ⟨rfl, rfl⟩
        clear HSLX
        go_wp2
        go_roundw
        case rel => exact ⟨k + 1, by omega, by go_num, hbr⟩
        case measure => simp [intOf]; omega
      · have c3 : ((k : Int) == gg) = false := beq_eq_false_iff_ne.2 h2
        have c4 : ((k : Int) != gg) = true := by rw [bne, c3]; rfl
        have H2 := Lib.hid h2
        clear h2
        obtain ⟨z0, hz0'⟩ : ∃ z0 : Int, (((allQ q).count (k : Int) : Nat) : Int) = z0 := ⟨_, rfl⟩
        have HZ := Lib.hid hz0'
        have hzz : (z0 != z0) = false := bne_self_eq_false z0
        clear hz0'
        go_wp2_with fail
        refine (count_b w10 (lt w9.heap.size) l lc (y := (k : Int)) (z := z0) (HZ.out) (HL9.out.below hbr) (Nat.le_trans hlc hlc')).mono ?_
        rintro e wy ⟨rfl, rfl⟩
        go_wp2_with fail
        refine (all_any w10 w9.heap.size un uc vn vd U V b (hu9.out.below hbr) (hv9.out.below hbr) (Nat.le_trans hu1 hu2) (Nat.le_trans hv1 hv2) (by have := allQ_len VB.out; omega) hbr.size).mono ?_
        rintro e w11 ⟨vx, rfl, hbn, hownn⟩
        obtain ⟨LX, lx, rfl, hlx1, hlx2, hslx⟩ := hownn.sl false_lt
        obtain ⟨ln, hln⟩ : ∃ ln, ln = (allQ b).length := ⟨_, rfl⟩
        rw [← hln] at hslx hlx1 ⊢
        have HSLX := Lib.hid hslx
        have hbr' : Below w9.heap.size w9 w11 := hbr.trans (hbn.mono hbr.size)
        clear hownn hslx hln hbr hbn e70 e71 e90 e91
        have hbr := hbr'
        clear hbr'
        have b7r := B79.out.below hbr B79.out.lt
        have b9r := B99.out.below hbr B99.out.lt
        have e70 : w11.cell? ⟨k7, 0, none⟩ = some (.slice X xn xc) := b7r.at_ 0 rfl
        have e71 : w11.cell? ⟨k7, 1, none⟩ = some (.slice Y ym yd) := b7r.at_ 1 rfl
        have e90 : w11.cell? ⟨k9, 0, none⟩ = some (.slice U un uc) := b9r.at_ 0 rfl
        have e91 : w11.cell? ⟨k9, 1, none⟩ = some (.slice V vn vd) := b9r.at_ 1 rfl
        clear b7r b9r
        go_wp2_with fail
        refine (count_b w11 (lt w11.heap.size) ln lx (y := (k : Int)) (z := z0) (by rw [FB.out.2.2 _ H2.out]; exact HZ.out) HSLX.out (Nat.le_trans hlx1 hlx2)).mono ?_
        rintro e wx ⟨rfl, rfl⟩
        clear HSLX
        go_wp2
        go_roundw
        case rel => exact ⟨k + 1, by omega, by go_num, hbr⟩
        case measure => simp [intOf]; omega
    · obtain rfl : k = 8 := by omega
      have hbe := hB9.out.trans (hbr.mono hB9.out.size)
      go_wp2
      go_ret
      exact RetB.mk rfl hbe

set_option maxRecDepth 100000 in
set_option maxHeartbeats 8000000 in
theorem lose_ab (w : World) (n c m d : Nat) (A C : Option Addr) (q : Qs) (p g : Int) (hl : Sl w (lt w.heap.size) A n q.loc) (hc : Sl w (lt w.heap.size) C m q.com) (hmd : m ≤ d) (hd63 : d ≤ maxLen) (hm8 : m * 8 ≤ 140737488351232) (hg63 : g < 2 ^ 63)
    (hv : validQ q = true) (a : Qs) (h1r : addQ q p g = some a) (b : Qs) (gg : Int) (h2r : nextQ q p g = some (b, gg)) :
    Calls Try.prog 7 #[.agg #[.slice A n c, .slice C m d], .int .i64 p, .int .i64 g] w (RetB (.bool true) w) := by
  obtain rfl : n = q.loc.length := hl.1.symm
  obtain rfl : m = q.com.length := hc.1.symm
  have hn4 : q.loc.length ≤ 4 := (valid_loc hv).2.1
  have hal8 := allQ_len hv
  have HV := Lib.hid hv
  clear hv
  have VA := Lib.hid (add_counts h1r).2.1
  have FA := Lib.hid (add_counts h1r).2.2
  have VB := Lib.hid (next_counts h2r).2.1
  have FB := Lib.hid (next_counts h2r).2.2
  go_enter Try.func7, Try.ntmps7
  go_upto_region 1 with fail
  obtain ⟨k3, hk3⟩ : ∃ k3, k3 = w.heap.size := ⟨_, rfl⟩
  obtain ⟨w0, hw0⟩ : ∃ w0, w0 = w.alloc (.cells #[.slice A q.loc.length c, .slice C q.com.length d] 26) := ⟨_, rfl⟩
  rw [← hw0, ← hk3]
  have b3 : Blk w0 k3 26 #[.slice A q.loc.length c, .slice C q.com.length d] := by rw [hw0]; exact heap_alloc_new' _ _ hk3
  have hb0 : Below w.heap.size w w0 := by rw [hw0]; exact (Below.refl _ _).alloc (Nat.le_refl _) _
  clear hw0 hk3
  have hz0 := hb0.size
  go_wp2_with fail
  refine (awake_any w0).mono ?_
  rintro e w1 ⟨rfl, hb1⟩
  have hb1' := hb0.trans (hb1.mono hz0)
  have b31 := b3.below hb1 b3.lt
  have e0 : w1.cell? ⟨k3, 0, none⟩ = some (.slice A q.loc.length c) := b31.at_ 0 rfl
  have e1 : w1.cell? ⟨k3, 1, none⟩ = some (.slice C q.com.length d) := b31.at_ 1 rfl
  have hz1 := hb1'.size
  go_wp2_with fail
  refine (refValid_b w1 w.heap.size q.loc.length c q.com.length d A C HV.out (hl.below hb1') (hc.below hb1') (by unfold maxLen; omega) (by unfold maxLen; omega) hm8 hz1).mono ?_
  rintro e w2 ⟨rfl, hb2⟩
  have hb2' := hb1'.trans (hb2.mono hz1)
  have b32 := b31.below hb2 b31.lt
  have hz2 := hb2'.size
  clear e0 e1 b3 b31
  have e0 : w2.cell? ⟨k3, 0, none⟩ = some (.slice A q.loc.length c) := b32.at_ 0 rfl
  have e1 : w2.cell? ⟨k3, 1, none⟩ = some (.slice C q.com.length d) := b32.at_ 1 rfl
  have HAD := Lib.hid (add_any w2 w.heap.size q.loc.length c q.com.length d A C q p g (hl.below hb2') (hc.below hb2') (by unfold maxLen; omega) hz2 hmd hd63)
  rw [h1r] at HAD
  go_wp2_with fail
  refine HAD.out.mono ?_
  rintro e w3 ⟨X, xn, xc, Y, ym, yd, rfl, hx1, hx2, hy1, hy2, hxl, hyl, hb3⟩
  have hb3' := hb2'.trans (hb3.mono hz2)
  have hz3 := hb3'.size
  have b33 := b32.below hb3 b32.lt
  clear e0 e1 b32 HAD
  go_upto_region 4 with fail
  obtain ⟨k7, hk7⟩ : ∃ k7, k7 = w3.heap.size := ⟨_, rfl⟩
  obtain ⟨w4, hw4⟩ : ∃ w4, w4 = w3.alloc (.cells #[.slice X xn xc, .slice Y ym yd] 26) := ⟨_, rfl⟩
  rw [← hw4, ← hk7]
  have b34 : Blk w4 k3 26 #[.slice A q.loc.length c, .slice C q.com.length d] := by rw [hw4]; exact b33.alloc _
  have b74 : Blk w4 k7 26 #[.slice X xn xc, .slice Y ym yd] := by rw [hw4]; exact heap_alloc_new' _ _ hk7
  have hx4 : Sl w4 (lt w4.heap.size) X xn a.loc := by rw [hw4]; exact (hxl.alloc_ (fun b h => h) _).mono (by simp)
  have hy4 : Sl w4 (lt w4.heap.size) Y ym a.com := by rw [hw4]; exact (hyl.alloc_ (fun b h => h) _).mono (by simp)
  have hb4 : Below w.heap.size w w4 := by rw [hw4]; exact hb3'.alloc hz3 _
  have hz4 := hb4.size
  clear hw4 hk7 b33 hxl hyl
  have e0 : w4.cell? ⟨k3, 0, none⟩ = some (.slice A q.loc.length c) := b34.at_ 0 rfl
  have e1 : w4.cell? ⟨k3, 1, none⟩ = some (.slice C q.com.length d) := b34.at_ 1 rfl
  have HND := Lib.hid (next_any w4 w.heap.size q.loc.length c q.com.length d A C q p g (hl.below hb4) (hc.below hb4) (by unfold maxLen; omega) hz4 hg63 hmd hd63)
  rw [h2r] at HND
  go_wp2_with fail
  refine HND.out.mono ?_
  rintro e w5 ⟨U, un, uc, V, vn, vd, rfl, hu1, hu2, hv1, hv2, hul, hvl, hb5⟩
  have hb5' := hb4.trans (hb5.mono hz4)
  have hz5 := hb5'.size
  have b35 := b34.below hb5 b34.lt
  have b75 := b74.below hb5 b74.lt
  have hx5 := hx4.below hb5
  have hy5 := hy4.below hb5
  have hz45 := hb5.size
  clear e0 e1 b34 b74 hx4 hy4 HND
  go_upto_region 5 with fail
  obtain ⟨k9, hk9⟩ : ∃ k9, k9 = w5.heap.size := ⟨_, rfl⟩
  obtain ⟨w6, hw6⟩ : ∃ w6, w6 = w5.alloc (.cells #[.slice U un uc, .slice V vn vd] 26) := ⟨_, rfl⟩
  rw [← hw6, ← hk9]
  have b36 : Blk w6 k3 26 #[.slice A q.loc.length c, .slice C q.com.length d] := by rw [hw6]; exact b35.alloc _
  have b76 : Blk w6 k7 26 #[.slice X xn xc, .slice Y ym yd] := by rw [hw6]; exact b75.alloc _
  have b96 : Blk w6 k9 26 #[.slice U un uc, .slice V vn vd] := by rw [hw6]; exact heap_alloc_new' _ _ hk9
  have hu6 : Sl w6 (lt w6.heap.size) U un b.loc := by rw [hw6]; exact (hul.alloc_ (fun b h => h) _).mono (by simp)
  have hv6 : Sl w6 (lt w6.heap.size) V vn b.com := by rw [hw6]; exact (hvl.alloc_ (fun b h => h) _).mono (by simp)
  have hx6 : Sl w6 (lt w6.heap.size) X xn a.loc := by rw [hw6]; exact ((hx5.mono hz45).alloc_ (fun b h => h) _).mono (by simp)
  have hy6 : Sl w6 (lt w6.heap.size) Y ym a.com := by rw [hw6]; exact ((hy5.mono hz45).alloc_ (fun b h => h) _).mono (by simp)
  have hb6 : Below w.heap.size w w6 := by rw [hw6]; exact hb5'.alloc hz5 _
  have hz6 := hb6.size
  clear hw6 hk9 b35 b75 hul hvl hx5 hy5
  have e70 : w6.cell? ⟨k7, 0, none⟩ = some (.slice X xn xc) := b76.at_ 0 rfl
  have e71 : w6.cell? ⟨k7, 1, none⟩ = some (.slice Y ym yd) := b76.at_ 1 rfl
  have e90 : w6.cell? ⟨k9, 0, none⟩ = some (.slice U un uc) := b96.at_ 0 rfl
  have e91 : w6.cell? ⟨k9, 1, none⟩ = some (.slice V vn vd) := b96.at_ 1 rfl
  have hbs : Below w6.heap.size w6 w6 := Below.refl _ _
  go_wp2_with fail
  refine (valid_b w6 w6.heap.size xn xc ym yd X Y VA.out (hx6.below hbs) (hy6.below hbs) hy1 hy2 hbs.size).mono ?_
  rintro e w7 ⟨rfl, hbn⟩
  have hbs' : Below w6.heap.size w6 w7 := hbs.trans (hbn.mono hbs.size)
  clear hbs hbn e70 e71 e90 e91
  have hbs := hbs'
  clear hbs'
  have b7n := b76.below hbs b76.lt
  have b9n := b96.below hbs b96.lt
  have e70 : w7.cell? ⟨k7, 0, none⟩ = some (.slice X xn xc) := b7n.at_ 0 rfl
  have e71 : w7.cell? ⟨k7, 1, none⟩ = some (.slice Y ym yd) := b7n.at_ 1 rfl
  have e90 : w7.cell? ⟨k9, 0, none⟩ = some (.slice U un uc) := b9n.at_ 0 rfl
  have e91 : w7.cell? ⟨k9, 1, none⟩ = some (.slice V vn vd) := b9n.at_ 1 rfl
  clear b7n b9n
  go_wp2_with fail
  refine (valid_b w7 w6.heap.size un uc vn vd U V VB.out (hu6.below hbs) (hv6.below hbs) hv1 hv2 hbs.size).mono ?_
  rintro e w8 ⟨rfl, hbn⟩
  have hbs' : Below w6.heap.size w6 w8 := hbs.trans (hbn.mono hbs.size)
  clear hbs hbn e70 e71 e90 e91
  have hbs := hbs'
  clear hbs'
  have b7n := b76.below hbs b76.lt
  have b9n := b96.below hbs b96.lt
  have e70 : w8.cell? ⟨k7, 0, none⟩ = some (.slice X xn xc) := b7n.at_ 0 rfl
  have e71 : w8.cell? ⟨k7, 1, none⟩ = some (.slice Y ym yd) := b7n.at_ 1 rfl
  have e90 : w8.cell? ⟨k9, 0, none⟩ = some (.slice U un uc) := b9n.at_ 0 rfl
  have e91 : w8.cell? ⟨k9, 1, none⟩ = some (.slice V vn vd) := b9n.at_ 1 rfl
  clear b7n b9n
  have b3c := b36.below hbs b36.lt
  have e30 : w8.cell? ⟨k3, 0, none⟩ = some (.slice A q.loc.length c) := b3c.at_ 0 rfl
  have e31 : w8.cell? ⟨k3, 1, none⟩ = some (.slice C q.com.length d) := b3c.at_ 1 rfl
  have hbc : Below w.heap.size w w8 := hb6.trans (hbs.mono hz6)
  go_wp2_with fail
  refine (all_any w8 w.heap.size q.loc.length c q.com.length d A C q (hl.below hbc) (hc.below hbc) (by unfold maxLen; omega) (by unfold maxLen; omega) (by omega) hbc.size).mono ?_
  rintro e w9 ⟨v9, rfl, hb9, hown9⟩
  obtain ⟨LA, lc, rfl, hlc, hlc', hsl9⟩ := hown9.sl false_lt
  obtain ⟨l, hle⟩ : ∃ l, l = (allQ q).length := ⟨_, rfl⟩
  rw [← hle] at hsl9 hlc ⊢
  have HL9 := Lib.hid hsl9
  have hb69 : Below w6.heap.size w6 w9 := hbs.trans (hb9.mono hbs.size)
  have hB9 := Lib.hid (hb6.trans (hb69.mono hz6))
  have hx9 := Lib.hid ((hx6.below hb69).mono hb69.size)
  have hy9 := Lib.hid ((hy6.below hb69).mono hb69.size)
  have hu9 := Lib.hid ((hu6.below hb69).mono hb69.size)
  have hv9 := Lib.hid ((hv6.below hb69).mono hb69.size)
  have B79 := Lib.hid (b76.below hb69 b76.lt)
  have B99 := Lib.hid (b96.below hb69 b96.lt)
  clear hown9 hsl9 hle e30 e31 e70 e71 e90 e91 hx6 hy6 hu6 hv6 b76 b96 b36 b3c hal8 h1r h2r hbs
  go_wp2
  go_loopw [13, 14] (fun i _ wr => ∃ k : Nat, k ≤ 8 ∧ i = .int .i64 k ∧ Below w9.heap.size w9 wr) (fun i _ _ => 8 - (intOf i).toNat)
  case atStart => exact ⟨0, by omega, rfl, Below.refl _ _⟩
  case round =>
    obtain ⟨w10, rfl⟩ : ∃ w10 : World, w10 = wr := ⟨_, rfl⟩
    obtain ⟨k, hk, rfl, hbr⟩ := hrel
    by_cases hlt : k < 8
    · have b7r := B79.out.below hbr B79.out.lt
      have b9r := B99.out.below hbr B99.out.lt
      have e70 : w10.cell? ⟨k7, 0, none⟩ = some (.slice X xn xc) := b7r.at_ 0 rfl
      have e71 : w10.cell? ⟨k7, 1, none⟩ = some (.slice Y ym yd) := b7r.at_ 1 rfl
      have e90 : w10.cell? ⟨k9, 0, none⟩ = some (.slice U un uc) := b9r.at_ 0 rfl
      have e91 : w10.cell? ⟨k9, 1, none⟩ = some (.slice V vn vd) := b9r.at_ 1 rfl
      clear b7r b9r
      by_cases h1 : (k : Int) = g
      · by_cases h2 : (k : Int) = gg
        · have e1 := FA.out.1
          have e2 := FB.out.1
          rw [← h1] at e1
          rw [← h2, e1] at e2
          exact absurd e2 (by decide)
        · have c1 : ((k : Int) == g) = true := beq_iff_eq.2 h1
          have c2 : ((k : Int) != g) = false := by rw [bne, c1]; rfl
          have H1 := Lib.hid h1
          clear h1
          have c3 : ((k : Int) == gg) = false := beq_eq_false_iff_ne.2 h2
          have c4 : ((k : Int) != gg) = true := by rw [bne, c3]; rfl
          have H2 := Lib.hid h2
          clear h2
          have HZ : Hid ((((allQ q).count (k : Int) : Nat) : Int) = 0) := by
            refine Lib.hid ?_
            rw [H1.out, FA.out.1]
            rfl
          go_wp2_with fail
          refine (count_b w10 (lt w9.heap.size) l lc (y := (k : Int)) (z := 0) (HZ.out) (HL9.out.below hbr) (Nat.le_trans hlc hlc')).mono ?_
          rintro e wy ⟨rfl, rfl⟩
          go_wp2_with fail
          refine (all_any w10 w9.heap.size xn xc ym yd X Y a (hx9.out.below hbr) (hy9.out.below hbr) (Nat.le_trans hx1 hx2) (Nat.le_trans hy1 hy2) (by have := allQ_len VA.out; omega) hbr.size).mono ?_
          rintro e w11 ⟨vx, rfl, hbn, hownn⟩
          obtain ⟨LX, lx, rfl, hlx1, hlx2, hslx⟩ := hownn.sl false_lt
          obtain ⟨ln, hln⟩ : ∃ ln, ln = (allQ a).length := ⟨_, rfl⟩
          rw [← hln] at hslx hlx1 ⊢
          have HSLX := Lib.hid hslx
          have hbr' : Below w9.heap.size w9 w11 := hbr.trans (hbn.mono hbr.size)
          clear hownn hslx hln hbr hbn e70 e71 e90 e91
          have hbr := hbr'
          clear hbr'
          have b7r := B79.out.below hbr B79.out.lt
          have b9r := B99.out.below hbr B99.out.lt
          have e70 : w11.cell? ⟨k7, 0, none⟩ = some (.slice X xn xc) := b7r.at_ 0 rfl
          have e71 : w11.cell? ⟨k7, 1, none⟩ = some (.slice Y ym yd) := b7r.at_ 1 rfl
          have e90 : w11.cell? ⟨k9, 0, none⟩ = some (.slice U un uc) := b9r.at_ 0 rfl
          have e91 : w11.cell? ⟨k9, 1, none⟩ = some (.slice V vn vd) := b9r.at_ 1 rfl
          clear b7r b9r
          go_wp2_with fail
          refine (count_b w11 (lt w11.heap.size) ln lx (y := (k : Int)) (z := 1) (by rw [H1.out, FA.out.2.1]; rfl) HSLX.out (Nat.le_trans hlx1 hlx2)).mono ?_
          rintro e wx ⟨rfl, rfl⟩
          clear HSLX
          go_wp2_with fail
          refine (all_any w11 w9.heap.size un uc vn vd U V b (hu9.out.below hbr) (hv9.out.below hbr) (Nat.le_trans hu1 hu2) (Nat.le_trans hv1 hv2) (by have := allQ_len VB.out; omega) hbr.size).mono ?_
          rintro e w12 ⟨vx, rfl, hbn, hownn⟩
          obtain ⟨LX, lx, rfl, hlx1, hlx2, hslx⟩ := hownn.sl false_lt
          obtain ⟨ln, hln⟩ : ∃ ln, ln = (allQ b).length := ⟨_, rfl⟩
          rw [← hln] at hslx hlx1 ⊢
          have HSLX := Lib.hid hslx
          have hbr' : Below w9.heap.size w9 w12 := hbr.trans (hbn.mono hbr.size)
          clear hownn hslx hln hbr hbn e70 e71 e90 e91
          have hbr := hbr'
          clear hbr'
          have b7r := B79.out.below hbr B79.out.lt
          have b9r := B99.out.below hbr B99.out.lt
          have e70 : w12.cell? ⟨k7, 0, none⟩ = some (.slice X xn xc) := b7r.at_ 0 rfl
          have e71 : w12.cell? ⟨k7, 1, none⟩ = some (.slice Y ym yd) := b7r.at_ 1 rfl
          have e90 : w12.cell? ⟨k9, 0, none⟩ = some (.slice U un uc) := b9r.at_ 0 rfl
          have e91 : w12.cell? ⟨k9, 1, none⟩ = some (.slice V vn vd) := b9r.at_ 1 rfl
          clear b7r b9r
          go_wp2_with fail
          refine (count_b w12 (lt w12.heap.size) ln lx (y := (k : Int)) (z := 0) (by rw [FB.out.2.2 _ H2.out]; exact HZ.out) HSLX.out (Nat.le_trans hlx1 hlx2)).mono ?_
          rintro e wx ⟨rfl, rfl⟩
          clear HSLX
          go_wp2
          go_roundw
          case rel => exact ⟨k + 1, by omega, by go_num, hbr⟩
          case measure => simp [intOf]; omega
      · by_cases h2 : (k : Int) = gg
        · have c1 : ((k : Int) == g) = false := beq_eq_false_iff_ne.2 h1
          have c2 : ((k : Int) != g) = true := by rw [bne, c1]; rfl
          have H1 := Lib.hid h1
          clear h1
          have c3 : ((k : Int) == gg) = true := beq_iff_eq.2 h2
          have c4 : ((k : Int) != gg) = false := by rw [bne, c3]; rfl
          have H2 := Lib.hid h2
          clear h2
          have HZ : Hid ((((allQ q).count (k : Int) : Nat) : Int) = 1) := by
            refine Lib.hid ?_
            rw [H2.out, FB.out.1]
            rfl
          go_wp2_with fail
          refine (count_b w10 (lt w9.heap.size) l lc (y := (k : Int)) (z := 1) (HZ.out) (HL9.out.below hbr) (Nat.le_trans hlc hlc')).mono ?_
          rintro e wy ⟨rfl, rfl⟩
          go_wp2_with fail
          refine (all_any w10 w9.heap.size xn xc ym yd X Y a (hx9.out.below hbr) (hy9.out.below hbr) (Nat.le_trans hx1 hx2) (Nat.le_trans hy1 hy2) (by have := allQ_len VA.out; omega) hbr.size).mono ?_
          rintro e w11 ⟨vx, rfl, hbn, hownn⟩
          obtain ⟨LX, lx, rfl, hlx1, hlx2, hslx⟩ := hownn.sl false_lt
          obtain ⟨ln, hln⟩ : ∃ ln, ln = (allQ a).length := ⟨_, rfl⟩
          rw [← hln] at hslx hlx1 ⊢
          have HSLX := Lib.hid hslx
          have hbr' : Below w9.heap.size w9 w11 := hbr.trans (hbn.mono hbr.size)
          clear hownn hslx hln hbr hbn e70 e71 e90 e91
          have hbr := hbr'
          clear hbr'
          have b7r := B79.out.below hbr B79.out.lt
          have b9r := B99.out.below hbr B99.out.lt
          have e70 : w11.cell? ⟨k7, 0, none⟩ = some (.slice X xn xc) := b7r.at_ 0 rfl
          have e71 : w11.cell? ⟨k7, 1, none⟩ = some (.slice Y ym yd) := b7r.at_ 1 rfl
          have e90 : w11.cell? ⟨k9, 0, none⟩ = some (.slice U un uc) := b9r.at_ 0 rfl
          have e91 : w11.cell? ⟨k9, 1, none⟩ = some (.slice V vn vd) := b9r.at_ 1 rfl
          clear b7r b9r
          go_wp2_with fail
          refine (count_b w11 (lt w11.heap.size) ln lx (y := (k : Int)) (z := 1) (by rw [FA.out.2.2 _ H1.out]; exact HZ.out) HSLX.out (Nat.le_trans hlx1 hlx2)).mono ?_
          rintro e wx ⟨rfl, rfl⟩
          clear HSLX
          go_wp2_with fail
          refine (all_any w11 w9.heap.size un uc vn vd U V b (hu9.out.below hbr) (hv9.out.below hbr) (Nat.le_trans hu1 hu2) (Nat.le_trans hv1 hv2) (by have := allQ_len VB.out; omega) hbr.size).mono ?_
          rintro e w12 ⟨vx, rfl, hbn, hownn⟩
          obtain ⟨LX, lx, rfl, hlx1, hlx2, hslx⟩ := hownn.sl false_lt
          obtain ⟨ln, hln⟩ : ∃ ln, ln = (allQ b).length := ⟨_, rfl⟩
          rw [← hln] at hslx hlx1 ⊢
          have HSLX := Lib.hid hslx
          have hbr' : Below w9.heap.size w9 w12 := hbr.trans (hbn.mono hbr.size)
          clear hownn hslx hln hbr hbn e70 e71 e90 e91
          have hbr := hbr'
          clear hbr'
          have b7r := B79.out.below hbr B79.out.lt
          have b9r := B99.out.below hbr B99.out.lt
          have e70 : w12.cell? ⟨k7, 0, none⟩ = some (.slice X xn xc) := b7r.at_ 0 rfl
          have e71 : w12.cell? ⟨k7, 1, none⟩ = some (.slice Y ym yd) := b7r.at_ 1 rfl
          have e90 : w12.cell? ⟨k9, 0, none⟩ = some (.slice U un uc) := b9r.at_ 0 rfl
          have e91 : w12.cell? ⟨k9, 1, none⟩ = some (.slice V vn vd) := b9r.at_ 1 rfl
          clear b7r b9r
          go_wp2_with fail
          refine (count_b w12 (lt w12.heap.size) ln lx (y := (k : Int)) (z := 0) (by rw [H2.out, FB.out.2.1]; rfl) HSLX.out (Nat.le_trans hlx1 hlx2)).mono ?_
          rintro e wx ⟨rfl, rfl⟩
          clear HSLX
          go_wp2
          go_roundw
          case rel => exact ⟨k + 1, by omega, by go_num, hbr⟩
          case measure => simp [intOf]; omega
        · have c1 : ((k : Int) == g) = false := beq_eq_false_iff_ne.2 h1
          have c2 : ((k : Int) != g) = true := by rw [bne, c1]; rfl
          have H1 := Lib.hid h1
          clear h1
          have c3 : ((k : Int) == gg) = false := beq_eq_false_iff_ne.2 h2
          have c4 : ((k : Int) != gg) = true := by rw [bne, c3]; rfl
          have H2 := Lib.hid h2
          clear h2
          obtain ⟨z0, hz0'⟩ : ∃ z0 : Int, (((allQ q).count (k : Int) : Nat) : Int) = z0 := ⟨_, rfl⟩
          have HZ := Lib.hid hz0'
          have hzz : (z0 != z0) = false := bne_self_eq_false z0
          clear hz0'
          go_wp2_with fail
          refine (count_b w10 (lt w9.heap.size) l lc (y := (k : Int)) (z := z0) (HZ.out) (HL9.out.below hbr) (Nat.le_trans hlc hlc')).mono ?_
          rintro e wy ⟨rfl, rfl⟩
          go_wp2_with fail
          refine (all_any w10 w9.heap.size xn xc ym yd X Y a (hx9.out.below hbr) (hy9.out.below hbr) (Nat.le_trans hx1 hx2) (Nat.le_trans hy1 hy2) (by have := allQ_len VA.out; omega) hbr.size).mono ?_
          rintro e w11 ⟨vx, rfl, hbn, hownn⟩
          obtain ⟨LX, lx, rfl, hlx1, hlx2, hslx⟩ := hownn.sl false_lt
          obtain ⟨ln, hln⟩ : ∃ ln, ln = (allQ a).length := ⟨_, rfl⟩
          rw [← hln] at hslx hlx1 ⊢
          have HSLX := Lib.hid hslx
          have hbr' : Below w9.heap.size w9 w11 := hbr.trans (hbn.mono hbr.size)
          clear hownn hslx hln hbr hbn e70 e71 e90 e91
          have hbr := hbr'
          clear hbr'
          have b7r := B79.out.below hbr B79.out.lt
          have b9r := B99.out.below hbr B99.out.lt
          have e70 : w11.cell? ⟨k7, 0, none⟩ = some (.slice X xn xc) := b7r.at_ 0 rfl
          have e71 : w11.cell? ⟨k7, 1, none⟩ = some (.slice Y ym yd) := b7r.at_ 1 rfl
          have e90 : w11.cell? ⟨k9, 0, none⟩ = some (.slice U un uc) := b9r.at_ 0 rfl
          have e91 : w11.cell? ⟨k9, 1, none⟩ = some (.slice V vn vd) := b9r.at_ 1 rfl
          clear b7r b9r
          go_wp2_with fail
          refine (count_b w11 (lt w11.heap.size) ln lx (y := (k : Int)) (z := z0) (by rw [FA.out.2.2 _ H1.out]; exact HZ.out) HSLX.out (Nat.le_trans hlx1 hlx2)).mono ?_
          rintro e wx ⟨rfl, rfl⟩
          clear HSLX
          go_wp2_with fail
          refine (all_any w11 w9.heap.size un uc vn vd U V b (hu9.out.below hbr) (hv9.out.below hbr) (Nat.le_trans hu1 hu2) (Nat.le_trans hv1 hv2) (by have := allQ_len VB.out; omega) hbr.size).mono ?_
          rintro e w12 ⟨vx, rfl, hbn, hownn⟩
          obtain ⟨LX, lx, rfl, hlx1, hlx2, hslx⟩ := hownn.sl false_lt
          obtain ⟨ln, hln⟩ : ∃ ln, ln = (allQ b).length := ⟨_, rfl⟩
          rw [← hln] at hslx hlx1 ⊢
          have HSLX := Lib.hid hslx
          have hbr' : Below w9.heap.size w9 w12 := hbr.trans (hbn.mono hbr.size)
          clear hownn hslx hln hbr hbn e70 e71 e90 e91
          have hbr := hbr'
          clear hbr'
          have b7r := B79.out.below hbr B79.out.lt
          have b9r := B99.out.below hbr B99.out.lt
          have e70 : w12.cell? ⟨k7, 0, none⟩ = some (.slice X xn xc) := b7r.at_ 0 rfl
          have e71 : w12.cell? ⟨k7, 1, none⟩ = some (.slice Y ym yd) := b7r.at_ 1 rfl
          have e90 : w12.cell? ⟨k9, 0, none⟩ = some (.slice U un uc) := b9r.at_ 0 rfl
          have e91 : w12.cell? ⟨k9, 1, none⟩ = some (.slice V vn vd) := b9r.at_ 1 rfl
          clear b7r b9r
          go_wp2_with fail
          refine (count_b w12 (lt w12.heap.size) ln lx (y := (k : Int)) (z := z0) (by rw [FB.out.2.2 _ H2.out]; exact HZ.out) HSLX.out (Nat.le_trans hlx1 hlx2)).mono ?_
          rintro e wx ⟨rfl, rfl⟩
          clear HSLX
          go_wp2
          go_roundw
          case rel => exact ⟨k + 1, by omega, by go_num, hbr⟩
          case measure => simp [intOf]; omega
    · obtain rfl : k = 8 := by omega
      have hbe := hB9.out.trans (hbr.mono hB9.out.size)
      go_wp2
      go_ret
      exact RetB.mk rfl hbe

set_option maxRecDepth 100000 in
set_option maxHeartbeats 8000000 in
theorem lose_bad (w : World) (n c m d : Nat) (A C : Option Addr) (q : Qs) (p g : Int) (hl : Sl w (lt w.heap.size) A n q.loc) (hc : Sl w (lt w.heap.size) C m q.com) (hn : n ≤ maxLen) (hm : m ≤ maxLen) (hm8 : m * 8 ≤ 140737488351232)
    (hv : validQ q = false) :
    Calls Try.prog 7 #[.agg #[.slice A n c, .slice C m d], .int .i64 p, .int .i64 g] w (RetB (.bool true) w) := by
  have HV := Lib.hid hv
  clear hv
  go_enter Try.func7, Try.ntmps7
  go_upto_region 1 with fail
  obtain ⟨k3, hk3⟩ : ∃ k3, k3 = w.heap.size := ⟨_, rfl⟩
  obtain ⟨w0, hw0⟩ : ∃ w0, w0 = w.alloc (.cells #[.slice A n c, .slice C m d] 26) := ⟨_, rfl⟩
  rw [← hw0, ← hk3]
  have b3 : Blk w0 k3 26 #[.slice A n c, .slice C m d] := by rw [hw0]; exact heap_alloc_new' _ _ hk3
  have hb0 : Below w.heap.size w w0 := by rw [hw0]; exact (Below.refl _ _).alloc (Nat.le_refl _) _
  clear hw0 hk3
  have hz0 := hb0.size
  go_wp2_with fail
  refine (awake_any w0).mono ?_
  rintro e w1 ⟨rfl, hb1⟩
  have hb1' := hb0.trans (hb1.mono hz0)
  have b31 := b3.below hb1 b3.lt
  have e0 : w1.cell? ⟨k3, 0, none⟩ = some (.slice A n c) := b31.at_ 0 rfl
  have e1 : w1.cell? ⟨k3, 1, none⟩ = some (.slice C m d) := b31.at_ 1 rfl
  have hz1 := hb1'.size
  go_wp2_with fail
  refine (refValid_b w1 w.heap.size n c m d A C HV.out (hl.below hb1') (hc.below hb1') hn hm hm8 hz1).mono ?_
  rintro e w2 ⟨rfl, hb2⟩
  have hb2' := hb1'.trans (hb2.mono hz1)
  have hz2 := hb2'.size
  go_wp2_with fail
  refine (awake_any w2).mono ?_
  rintro e w3 ⟨rfl, hb3⟩
  have hb3' := hb2'.trans (hb3.mono hz2)
  go_wp2
  go_ret
  exact RetB.mk rfl hb3'

theorem law_lose (w : World) (n c m d : Nat) (A C : Option Addr) (q : Qs) (p g : Int) (hl : Sl w (lt w.heap.size) A n q.loc) (hc : Sl w (lt w.heap.size) C m q.com) (hnc : n ≤ c) (hc63 : c ≤ maxLen) (hmd : m ≤ d) (hd63 : d ≤ maxLen) (hf : Fits q) (hg63 : g < 2 ^ 63) :
    Calls Try.prog 7 #[.agg #[.slice A n c, .slice C m d], .int .i64 p, .int .i64 g] w (RetB (.bool true) w) := by
  have hm8 : m * 8 ≤ 140737488351232 := by rw [← hc.1]; exact hf.m
  cases hv : validQ q with
  | false => exact lose_bad w n c m d A C q p g hl hc (Nat.le_trans hnc hc63) (Nat.le_trans hmd hd63) hm8 hv
  | true =>
    cases h1 : addQ q p g with
    | none =>
      cases h2 : nextQ q p g with
      | none => exact lose_nn w n c m d A C q p g hl hc hmd hd63 hm8 hg63 hv h1 h2
      | some b => exact lose_nb w n c m d A C q p g hl hc hmd hd63 hm8 hg63 hv h1 b.1 b.2 h2
    | some a =>
      cases h2 : nextQ q p g with
      | none => exact lose_an w n c m d A C q p g hl hc hmd hd63 hm8 hg63 hv a h1 h2
      | some b => exact lose_ab w n c m d A C q p g hl hc hmd hd63 hm8 hg63 hv a h1 b.1 b.2 h2

end Go.Proofs.Ytepcbgbmmmhglaa

/- The law OutcomeSubset: it returns true for any two lists of outcomes. No condition. -/
import Derived.Test.YtojddklogigihaaGreatDoorO8
namespace Go.Proofs.YtojddklogigihaaGreatDoor
open Go.RowKit

theorem subO_self (xs : List Outc) : subO xs xs = true := by
  unfold subO
  rw [List.all_eq_true]
  intro x hx
  rw [List.any_eq_true]
  exact ⟨x, hx, by rw [cmpO_self]; rfl⟩
theorem take_all {α : Type} {p : α → Bool} {xs : List α} {k : Nat} {x : α} (h : xs[k]? = some x) : (xs.take (k + 1)).all p = ((xs.take k).all p && p x) := by
  rw [List.take_add_one, h]
  simp
theorem take_any {α : Type} {p : α → Bool} {xs : List α} {k : Nat} {x : α} (h : xs[k]? = some x) : (xs.take (k + 1)).any p = ((xs.take k).any p || p x) := by
  rw [List.take_add_one, h]
  simp

set_option maxRecDepth 100000 in
set_option maxHeartbeats 4000000 in
theorem law_subset (w : World) (n c m d : Nat) (A A' : Option Addr) (xs ys : List Outc) (hx : Sl w (lt w.heap.size) A n xs) (hy : Sl w (lt w.heap.size) A' m ys) (hn : n ≤ maxLen) (hm : m ≤ maxLen) :
    Calls Tryz.prog 5 #[.slice A n c, .slice A' m d] w (RetB (.bool true) w) := by
  have HN := Lib.hid hn
  have HM := Lib.hid hm
  unfold maxLen at hn hm
  have hl : Hid (xs.length = n) := hx.1
  have hl' : Hid (ys.length = m) := hy.1
  have HX := Lib.hid hx
  have HY := Lib.hid hy
  clear hx hy
  by_cases hn20 : 20 < n
  · have hb1 : decide (20 < (n : Int)) = true := by simp; omega
    go_enter Tryz.func5, Tryz.ntmps5
    go_wp2_with (go_at_call 6; refine (awake_any _).mono ?_; rintro e w1 ⟨rfl, hb1⟩)
    go_ret
    exact RetB.mk rfl hb1
  by_cases hm20 : 20 < m
  · have hb1 : decide (20 < (n : Int)) = false := by simp; omega
    have hb2 : decide (20 < (m : Int)) = true := by simp; omega
    go_enter Tryz.func5, Tryz.ntmps5
    go_wp2_with (go_at_call 6; refine (awake_any _).mono ?_; rintro e w1 ⟨rfl, hb1⟩)
    go_ret
    exact RetB.mk rfl hb1
  have hc1 : decide (20 < (n : Int)) = false := by simp; omega
  have hc2 : decide (20 < (m : Int)) = false := by simp; omega
  go_enter Tryz.func5, Tryz.ntmps5
  go_wp2_with (go_at_call 6; refine (awake_any _).mono ?_; rintro e w0 ⟨rfl, hb0⟩)
  have HB0 := Lib.hid hb0
  clear hb0 hc1 hc2
  go_loopw [6, 5, 8, 7, 4] (fun i al _ _ _ wr => ∃ (k : Nat) (q : Bool), k ≤ n ∧ i = .int .i64 k ∧ al = .bool q ∧ ((xs.take k).all fun x => ys.any fun y => cmpO x y == 0) = q ∧ Below w.heap.size w wr) (fun i _ _ _ _ _ => n - (intOf i).toNat)
  case atStart => exact ⟨0, true, Nat.zero_le _, rfl, rfl, by simp, HB0.out⟩
  case round =>
    obtain ⟨i, q, hi, rfl, rfl, hq, hbr⟩ := hrel
    obtain ⟨w1, rfl⟩ : ∃ w1 : World, w1 = wr := ⟨_, rfl⟩
    have HQ := Lib.hid hq
    have HB1 := Lib.hid hbr
    clear hq hbr
    by_cases hlt : i < n
    · obtain ⟨b, o, rfl, hb, x, x0, x1, x2, hx1, hr, s0, s1, s2⟩ := HX.out.outc hlt
      have HXR := Lib.hid hr
      have HX1 := Lib.hid hx1
      have HS := Lib.hid (And.intro s0 (And.intro s1 s2))
      clear hr hx1 s0 s1 s2
      go_wp2
      go_loopw [8, 7, 4] (fun j fo _ wr => ∃ (k : Nat) (f : Bool), k ≤ m ∧ j = .int .i64 k ∧ fo = .bool f ∧ ((ys.take k).any fun y => cmpO x y == 0) = f ∧ Below w.heap.size w wr) (fun j _ _ _ => m - (intOf j).toNat)
      case atStart => exact ⟨0, false, Nat.zero_le _, rfl, rfl, by simp, HB1.out⟩
      case round =>
        obtain ⟨j, f, hj, rfl, rfl, hf, hbr⟩ := hrel
        obtain ⟨w1, rfl⟩ : ∃ w1 : World, w1 = wr := ⟨_, rfl⟩
        have HF := Lib.hid hf
        have HB1 := Lib.hid hbr
        clear hf hbr
        have s0 := (HB1.out.cell (p := ⟨b, o + i * 3, none⟩) hb).trans HS.out.1
        have s1 := (HB1.out.cell (p := ⟨b, o + i * 3 + 1, none⟩) hb).trans HS.out.2.1
        have s2 := (HB1.out.cell (p := ⟨b, o + i * 3 + 2, none⟩) hb).trans HS.out.2.2
        by_cases hjt : j < m
        · obtain ⟨b', o', rfl, hb', y, y0, y1, y2, hy1, hr', u0, u1, u2⟩ := HY.out.outc hjt
          have HYR := Lib.hid hr'
          have HY1 := Lib.hid hy1
          clear hr' hy1
          have u0 := (HB1.out.cell (p := ⟨b', o' + j * 3, none⟩) hb').trans u0
          have u1 := (HB1.out.cell (p := ⟨b', o' + j * 3 + 1, none⟩) hb').trans u1
          have u2 := (HB1.out.cell (p := ⟨b', o' + j * 3 + 2, none⟩) hb').trans u2
          cases hfx : (decide (x.out.length ≤ 20) && decide (x.fau.length ≤ 20)) with
          | false =>
            have FX := Lib.hid hfx
            clear hfx
            go_wp2_with (first
              | (go_at_call 7
                 refine (few_any w1 w.heap.size x x0 x1 x2 (Rep.below HXR.out HB1.out) false FX.out).mono ?_
                 rintro e w2 ⟨rfl, hb2⟩
                 have s0 := (hb2.cell (p := ⟨b, o + i * 3, none⟩) (Nat.lt_of_lt_of_le hb HB1.out.size)).trans s0
                 have s1 := (hb2.cell (p := ⟨b, o + i * 3 + 1, none⟩) (Nat.lt_of_lt_of_le hb HB1.out.size)).trans s1
                 have s2 := (hb2.cell (p := ⟨b, o + i * 3 + 2, none⟩) (Nat.lt_of_lt_of_le hb HB1.out.size)).trans s2
                 have u0 := (hb2.cell (p := ⟨b', o' + j * 3, none⟩) (Nat.lt_of_lt_of_le hb' HB1.out.size)).trans u0
                 have u1 := (hb2.cell (p := ⟨b', o' + j * 3 + 1, none⟩) (Nat.lt_of_lt_of_le hb' HB1.out.size)).trans u1
                 have u2 := (hb2.cell (p := ⟨b', o' + j * 3 + 2, none⟩) (Nat.lt_of_lt_of_le hb' HB1.out.size)).trans u2
                 have HB2 := Lib.hid (HB1.out.trans (hb2.mono HB1.out.size))
                 clear hb2
                 have flag2 := True.intro))
            go_ret
            exact RetB.mk rfl HB2.out
          | true =>
            have FX := Lib.hid hfx
            clear hfx
            cases hfy : (decide (y.out.length ≤ 20) && decide (y.fau.length ≤ 20)) with
            | false =>
              have FY := Lib.hid hfy
              clear hfy
              go_wp2_with (first
                | (have _ := flag2
                   go_at_call 7
                   refine (few_any w2 w.heap.size y y0 y1 y2 (Rep.below HYR.out HB2.out) false FY.out).mono ?_
                   rintro e w3 ⟨rfl, hb3⟩
                   have s0 := (hb3.cell (p := ⟨b, o + i * 3, none⟩) (Nat.lt_of_lt_of_le hb HB2.out.size)).trans s0
                   have s1 := (hb3.cell (p := ⟨b, o + i * 3 + 1, none⟩) (Nat.lt_of_lt_of_le hb HB2.out.size)).trans s1
                   have s2 := (hb3.cell (p := ⟨b, o + i * 3 + 2, none⟩) (Nat.lt_of_lt_of_le hb HB2.out.size)).trans s2
                   have u0 := (hb3.cell (p := ⟨b', o' + j * 3, none⟩) (Nat.lt_of_lt_of_le hb' HB2.out.size)).trans u0
                   have u1 := (hb3.cell (p := ⟨b', o' + j * 3 + 1, none⟩) (Nat.lt_of_lt_of_le hb' HB2.out.size)).trans u1
                   have u2 := (hb3.cell (p := ⟨b', o' + j * 3 + 2, none⟩) (Nat.lt_of_lt_of_le hb' HB2.out.size)).trans u2
                   have HB3 := Lib.hid (HB2.out.trans (hb3.mono HB2.out.size))
                   clear hb3
                   have flag3 := True.intro)
                | (go_at_call 7
                   refine (few_any w1 w.heap.size x x0 x1 x2 (Rep.below HXR.out HB1.out) true FX.out).mono ?_
                   rintro e w2 ⟨rfl, hb2⟩
                   have s0 := (hb2.cell (p := ⟨b, o + i * 3, none⟩) (Nat.lt_of_lt_of_le hb HB1.out.size)).trans s0
                   have s1 := (hb2.cell (p := ⟨b, o + i * 3 + 1, none⟩) (Nat.lt_of_lt_of_le hb HB1.out.size)).trans s1
                   have s2 := (hb2.cell (p := ⟨b, o + i * 3 + 2, none⟩) (Nat.lt_of_lt_of_le hb HB1.out.size)).trans s2
                   have u0 := (hb2.cell (p := ⟨b', o' + j * 3, none⟩) (Nat.lt_of_lt_of_le hb' HB1.out.size)).trans u0
                   have u1 := (hb2.cell (p := ⟨b', o' + j * 3 + 1, none⟩) (Nat.lt_of_lt_of_le hb' HB1.out.size)).trans u1
                   have u2 := (hb2.cell (p := ⟨b', o' + j * 3 + 2, none⟩) (Nat.lt_of_lt_of_le hb' HB1.out.size)).trans u2
                   have HB2 := Lib.hid (HB1.out.trans (hb2.mono HB1.out.size))
                   clear hb2
                   have flag2 := True.intro))
              go_ret
              exact RetB.mk rfl HB3.out
            | true =>
              have FY := Lib.hid hfy
              clear hfy
              cases hxy : (cmpO x y == 0) with
              | true =>
                have HE := Lib.hid hxy
                obtain ⟨z, hz⟩ : ∃ z, cmpO x y = z := ⟨_, rfl⟩
                have hz0 : (z == 0) = true := by rw [← hz]; exact hxy
                have HZ := Lib.hid hz
                clear hxy hz
                go_wp2_with (first
                  | (have _ := flag2
                     go_at_call 7
                     refine (few_any w2 w.heap.size y y0 y1 y2 (Rep.below HYR.out HB2.out) true FY.out).mono ?_
                     rintro e w3 ⟨rfl, hb3⟩
                     have s0 := (hb3.cell (p := ⟨b, o + i * 3, none⟩) (Nat.lt_of_lt_of_le hb HB2.out.size)).trans s0
                     have s1 := (hb3.cell (p := ⟨b, o + i * 3 + 1, none⟩) (Nat.lt_of_lt_of_le hb HB2.out.size)).trans s1
                     have s2 := (hb3.cell (p := ⟨b, o + i * 3 + 2, none⟩) (Nat.lt_of_lt_of_le hb HB2.out.size)).trans s2
                     have u0 := (hb3.cell (p := ⟨b', o' + j * 3, none⟩) (Nat.lt_of_lt_of_le hb' HB2.out.size)).trans u0
                     have u1 := (hb3.cell (p := ⟨b', o' + j * 3 + 1, none⟩) (Nat.lt_of_lt_of_le hb' HB2.out.size)).trans u1
                     have u2 := (hb3.cell (p := ⟨b', o' + j * 3 + 2, none⟩) (Nat.lt_of_lt_of_le hb' HB2.out.size)).trans u2
                     have HB3 := Lib.hid (HB2.out.trans (hb3.mono HB2.out.size))
                     clear hb3
                     have flag3 := True.intro)
                  | (go_at_call 7
                     refine (few_any w1 w.heap.size x x0 x1 x2 (Rep.below HXR.out HB1.out) true FX.out).mono ?_
                     rintro e w2 ⟨rfl, hb2⟩
                     have s0 := (hb2.cell (p := ⟨b, o + i * 3, none⟩) (Nat.lt_of_lt_of_le hb HB1.out.size)).trans s0
                     have s1 := (hb2.cell (p := ⟨b, o + i * 3 + 1, none⟩) (Nat.lt_of_lt_of_le hb HB1.out.size)).trans s1
                     have s2 := (hb2.cell (p := ⟨b, o + i * 3 + 2, none⟩) (Nat.lt_of_lt_of_le hb HB1.out.size)).trans s2
                     have u0 := (hb2.cell (p := ⟨b', o' + j * 3, none⟩) (Nat.lt_of_lt_of_le hb' HB1.out.size)).trans u0
                     have u1 := (hb2.cell (p := ⟨b', o' + j * 3 + 1, none⟩) (Nat.lt_of_lt_of_le hb' HB1.out.size)).trans u1
                     have u2 := (hb2.cell (p := ⟨b', o' + j * 3 + 2, none⟩) (Nat.lt_of_lt_of_le hb' HB1.out.size)).trans u2
                     have HB2 := Lib.hid (HB1.out.trans (hb2.mono HB1.out.size))
                     clear hb2
                     have flag2 := True.intro))
                have HD3 : Hid (Below w.heap.size w w3.drew) := Lib.hid (below_drewN HB3.out 1)
                go_region_held3 (fun w' => w'.cell? ⟨b, o + i * 3, none⟩ = some x0 ∧ w'.cell? ⟨b, o + i * 3 + 1, none⟩ = some x1 ∧ w'.cell? ⟨b, o + i * 3 + 2, none⟩ = some x2 ∧ w'.cell? ⟨b', o' + j * 3, none⟩ = some y0 ∧ w'.cell? ⟨b', o' + j * 3 + 1, none⟩ = some y1 ∧ w'.cell? ⟨b', o' + j * 3 + 2, none⟩ = some y2) (go_keep)
                  (first
                    | (go_at_call 9
                       refine (rcmp_any w3.drew w.heap.size x y x0 x1 x2 y0 y1 y2 (Rep.below HXR.out HD3.out) (Rep.below HYR.out HD3.out) HD3.out.size z HZ.out).mono ?_
                       rintro e w4 ⟨rfl, hb4⟩
                       have s0 := (hb4.cell (p := ⟨b, o + i * 3, none⟩) (Nat.lt_of_lt_of_le hb HD3.out.size)).trans s0
                       have s1 := (hb4.cell (p := ⟨b, o + i * 3 + 1, none⟩) (Nat.lt_of_lt_of_le hb HD3.out.size)).trans s1
                       have s2 := (hb4.cell (p := ⟨b, o + i * 3 + 2, none⟩) (Nat.lt_of_lt_of_le hb HD3.out.size)).trans s2
                       have u0 := (hb4.cell (p := ⟨b', o' + j * 3, none⟩) (Nat.lt_of_lt_of_le hb' HD3.out.size)).trans u0
                       have u1 := (hb4.cell (p := ⟨b', o' + j * 3 + 1, none⟩) (Nat.lt_of_lt_of_le hb' HD3.out.size)).trans u1
                       have u2 := (hb4.cell (p := ⟨b', o' + j * 3 + 2, none⟩) (Nat.lt_of_lt_of_le hb' HD3.out.size)).trans u2))
                go_wp2
                go_roundw
                case rel => exact ⟨j + 1, true, by omega, by go_num, rfl, (by rw [take_any HY1.out, HF.out, HE.out]; simp), HD3.out.trans (hb4.mono HD3.out.size)⟩
                case measure => simp [intOf]; omega
              | false =>
                have HE := Lib.hid hxy
                obtain ⟨z, hz⟩ : ∃ z, cmpO x y = z := ⟨_, rfl⟩
                have hz0 : (z == 0) = false := by rw [← hz]; exact hxy
                have HZ := Lib.hid hz
                clear hxy hz
                go_wp2_with (first
                  | (have _ := flag2
                     go_at_call 7
                     refine (few_any w2 w.heap.size y y0 y1 y2 (Rep.below HYR.out HB2.out) true FY.out).mono ?_
                     rintro e w3 ⟨rfl, hb3⟩
                     have s0 := (hb3.cell (p := ⟨b, o + i * 3, none⟩) (Nat.lt_of_lt_of_le hb HB2.out.size)).trans s0
                     have s1 := (hb3.cell (p := ⟨b, o + i * 3 + 1, none⟩) (Nat.lt_of_lt_of_le hb HB2.out.size)).trans s1
                     have s2 := (hb3.cell (p := ⟨b, o + i * 3 + 2, none⟩) (Nat.lt_of_lt_of_le hb HB2.out.size)).trans s2
                     have u0 := (hb3.cell (p := ⟨b', o' + j * 3, none⟩) (Nat.lt_of_lt_of_le hb' HB2.out.size)).trans u0
                     have u1 := (hb3.cell (p := ⟨b', o' + j * 3 + 1, none⟩) (Nat.lt_of_lt_of_le hb' HB2.out.size)).trans u1
                     have u2 := (hb3.cell (p := ⟨b', o' + j * 3 + 2, none⟩) (Nat.lt_of_lt_of_le hb' HB2.out.size)).trans u2
                     have HB3 := Lib.hid (HB2.out.trans (hb3.mono HB2.out.size))
                     clear hb3
                     have flag3 := True.intro)
                  | (go_at_call 7
                     refine (few_any w1 w.heap.size x x0 x1 x2 (Rep.below HXR.out HB1.out) true FX.out).mono ?_
                     rintro e w2 ⟨rfl, hb2⟩
                     have s0 := (hb2.cell (p := ⟨b, o + i * 3, none⟩) (Nat.lt_of_lt_of_le hb HB1.out.size)).trans s0
                     have s1 := (hb2.cell (p := ⟨b, o + i * 3 + 1, none⟩) (Nat.lt_of_lt_of_le hb HB1.out.size)).trans s1
                     have s2 := (hb2.cell (p := ⟨b, o + i * 3 + 2, none⟩) (Nat.lt_of_lt_of_le hb HB1.out.size)).trans s2
                     have u0 := (hb2.cell (p := ⟨b', o' + j * 3, none⟩) (Nat.lt_of_lt_of_le hb' HB1.out.size)).trans u0
                     have u1 := (hb2.cell (p := ⟨b', o' + j * 3 + 1, none⟩) (Nat.lt_of_lt_of_le hb' HB1.out.size)).trans u1
                     have u2 := (hb2.cell (p := ⟨b', o' + j * 3 + 2, none⟩) (Nat.lt_of_lt_of_le hb' HB1.out.size)).trans u2
                     have HB2 := Lib.hid (HB1.out.trans (hb2.mono HB1.out.size))
                     clear hb2
                     have flag2 := True.intro))
                have HD3 : Hid (Below w.heap.size w w3.drew) := Lib.hid (below_drewN HB3.out 1)
                go_region_held3 (fun w' => w'.cell? ⟨b, o + i * 3, none⟩ = some x0 ∧ w'.cell? ⟨b, o + i * 3 + 1, none⟩ = some x1 ∧ w'.cell? ⟨b, o + i * 3 + 2, none⟩ = some x2 ∧ w'.cell? ⟨b', o' + j * 3, none⟩ = some y0 ∧ w'.cell? ⟨b', o' + j * 3 + 1, none⟩ = some y1 ∧ w'.cell? ⟨b', o' + j * 3 + 2, none⟩ = some y2) (go_keep)
                  (first
                    | (go_at_call 9
                       refine (rcmp_any w3.drew w.heap.size x y x0 x1 x2 y0 y1 y2 (Rep.below HXR.out HD3.out) (Rep.below HYR.out HD3.out) HD3.out.size z HZ.out).mono ?_
                       rintro e w4 ⟨rfl, hb4⟩
                       have s0 := (hb4.cell (p := ⟨b, o + i * 3, none⟩) (Nat.lt_of_lt_of_le hb HD3.out.size)).trans s0
                       have s1 := (hb4.cell (p := ⟨b, o + i * 3 + 1, none⟩) (Nat.lt_of_lt_of_le hb HD3.out.size)).trans s1
                       have s2 := (hb4.cell (p := ⟨b, o + i * 3 + 2, none⟩) (Nat.lt_of_lt_of_le hb HD3.out.size)).trans s2
                       have u0 := (hb4.cell (p := ⟨b', o' + j * 3, none⟩) (Nat.lt_of_lt_of_le hb' HD3.out.size)).trans u0
                       have u1 := (hb4.cell (p := ⟨b', o' + j * 3 + 1, none⟩) (Nat.lt_of_lt_of_le hb' HD3.out.size)).trans u1
                       have u2 := (hb4.cell (p := ⟨b', o' + j * 3 + 2, none⟩) (Nat.lt_of_lt_of_le hb' HD3.out.size)).trans u2))
                go_wp2
                go_roundw
                case rel => exact ⟨j + 1, f, by omega, by go_num, rfl, (by rw [take_any HY1.out, HF.out, HE.out]; simp), HD3.out.trans (hb4.mono HD3.out.size)⟩
                case measure => simp [intOf]; omega
        · obtain rfl : j = m := by omega
          have HF' : Hid ((ys.any fun y => cmpO x y == 0) = f) := Lib.hid (by rw [← HF.out, List.take_of_length_le (by rw [hl'.out]; omega)])
          have HQ' : Hid (((xs.take (i + 1)).all fun x => ys.any fun y => cmpO x y == 0) = (q && f)) := Lib.hid (by rw [take_all HX1.out, HQ.out, HF'.out])
          clear HF HF' HQ s0 s1 s2
          cases q <;> cases f
          all_goals
            go_wp2
            go_roundw
            case rel => exact ⟨i + 1, _, by omega, by go_num, rfl, HQ'.out, HB1.out⟩
            case measure => simp [intOf]; omega
    · obtain rfl : i = n := by omega
      obtain ⟨r, hr⟩ : ∃ r, subO xs ys = r := ⟨_, rfl⟩
      have hqr : q = r := by rw [← HQ.out, ← hr, List.take_of_length_le (by rw [hl.out]; omega)]; rfl
      subst hqr
      have HR := Lib.hid hr
      clear hr HQ
      cases q
      all_goals
        go_wp2_with (first
          | (have _ := flag5
             go_at_call 12
             refine (subset_any w2 w.heap.size _ c _ c A A xs xs (HX.out.below HB2.out) (HX.out.below HB2.out) HN.out HN.out HB2.out.size true (subO_self xs)).mono ?_
             rintro e w3 ⟨rfl, hb3⟩)
          | (go_at_call 12
             refine (subset_any w1 w.heap.size _ c m d A A' xs ys (HX.out.below HB1.out) (HY.out.below HB1.out) HN.out HM.out HB1.out.size _ HR.out).mono ?_
             rintro e w2 ⟨rfl, hb2⟩
             have HB2 := Lib.hid (HB1.out.trans (hb2.mono HB1.out.size))
             have flag5 := True.intro))
        go_ret
        exact RetB.mk rfl (HB2.out.trans (hb3.mono HB2.out.size))
end Go.Proofs.YtojddklogigihaaGreatDoor

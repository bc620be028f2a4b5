/- Next: the reference. -/
import Derived.Test.YtepcbgbmmmhglaaQ25
import Derived.Deep.RegionHeld3
namespace Go.Proofs.Ytepcbgbmmmhglaa
open Go.RowKit

set_option maxRecDepth 100000 in
set_option maxHeartbeats 8000000 in
theorem refNext_good (w : World) (B n c m d : Nat) (A C : Option Addr) (q : Qs) (p r : Nat) (own : List Int) (hl : Sl w (lt B) A n q.loc) (hc : Sl w (lt B) C m q.com) (hn : n ≤ maxLen) (hB : B ≤ w.heap.size)
    (hv : validQ q = true) (hown : q.loc[p]? = some own) (hr63 : r < 2 ^ 63) (res : Option (Qs × Int)) (hres : nextQ q p r = res) :
    Calls Try.prog 19 #[.agg #[.slice A n c, .slice C m d], .int .i64 p, .int .i64 r] w (RetNext res w) := by
  have hll : Hid (q.loc.length = n) := hl.1
  have hcl : Hid (q.com.length = m) := hc.1
  have hpn : p < n := by rw [← hll.out]; exact (List.getElem?_eq_some_iff.1 hown).1
  have hn4 : n ≤ 4 := by rw [← hll.out]; exact (valid_loc hv).2.1
  have hm8 : m ≤ 8 := by rw [← hcl.out]; exact valid_com hv
  have HRS := Lib.hid hres
  have HR := Lib.hid (valid_row8 hv)
  have HV := Lib.hid hv
  have HOW := Lib.hid hown
  clear hv hown hres
  unfold maxLen at hn
  obtain ⟨i0, hi, hz0, hz1, hz2⟩ := info_parts info_int
  have HI := Lib.hid (And.intro hi (And.intro hz0 (And.intro hz1 hz2)))
  clear hi hz0 hz1 hz2
  have d1 : decide ((p : Int) < 0) = false := decide_eq_false (by omega)
  have d2 : decide ((n : Int) ≤ (p : Int)) = false := decide_eq_false (by omega)
  have d3 : decide ((r : Int) < 0) = false := decide_eq_false (by omega)
  have hp0 : (0 : Int) ≤ (p : Int) := Int.natCast_nonneg _
  have hp1 : (p : Int) < (n : Int) := by omega
  go_enter Try.func19, Try.ntmps19
  go_upto_region 1 with fail
  obtain ⟨w0, hw0⟩ : ∃ w0, w0 = (w.alloc (.cells #[.slice A n c, .slice C m d] 26)).alloc (.cells #[.slice none 0 0, .slice none 0 0] 26) := ⟨_, rfl⟩
  rw [← hw0]
  have hb0 : Below w.heap.size w w0 := by rw [hw0]; exact ((Below.refl _ _).alloc (Nat.le_refl _) _).alloc (by simp) _
  have hk0 : Blk w0 w.heap.size 26 #[.slice A n c, .slice C m d] := by rw [hw0]; exact (Blk.new _ _ _).alloc _
  have hk1 : Blk w0 (w.heap.size + 1) 26 #[.slice none 0 0, .slice none 0 0] := by rw [hw0]; exact heap_alloc_new' _ _ (by simp)
  clear hw0
  have a0 : w0.cell? ⟨w.heap.size, 0, none⟩ = some (.slice A n c) := hk0.at_ 0 rfl
  have a1 : w0.cell? ⟨w.heap.size, 1, none⟩ = some (.slice C m d) := hk0.at_ 1 rfl
  have hz0 := hb0.size
  go_wp2_with fail
  refine (refValid_b w0 B n c m d A C HV.out (hl.below (hb0.mono hB)) (hc.below (hb0.mono hB)) (by unfold maxLen; omega) (by unfold maxLen; omega) (by omega) (Nat.le_trans hB hz0)).mono ?_
  rintro e w1 ⟨rfl, hb1⟩
  have hk0' := hk0.below hb1 hk0.lt
  have hk1' := hk1.below hb1 hk1.lt
  have hb2 : Below w.heap.size w w1 := hb0.trans (hb1.mono hz0)
  have hz2 := hb2.size
  clear a0 a1 hk0 hk1
  have a0 : w1.cell? ⟨w.heap.size, 0, none⟩ = some (.slice A n c) := hk0'.at_ 0 rfl
  have a1 : w1.cell? ⟨w.heap.size, 1, none⟩ = some (.slice C m d) := hk0'.at_ 1 rfl
  go_wp2_with fail
  refine (copy_any w1 B n c m d A C q (hl.below (hb2.mono hB)) (hc.below (hb2.mono hB)) (by omega) (by omega) HR.out (Nat.le_trans hB hz2)).mono ?_
  rintro e w5 ⟨v5, rfl, hb5, lv, cv, vs, rfl, hlo5, hr5⟩
  obtain ⟨LA, lc, rfl, hlc, hlc63, -⟩ := hlo5.slice
  obtain ⟨CA, cd, rfl, hcd, hcd63, -⟩ := (hr5.2.1 0 cv q.com rfl rfl).slice
  have hk0 := hk0'.below hb5 hk0'.lt
  have hk1' := hk1'.below hb5 hk1'.lt
  have hb6 : Below w.heap.size w w5 := hb2.trans (hb5.mono hz2)
  clear a0 a1 hk0'
  have hz5 := hb6.size
  go_upto_region 4 with fail
  obtain ⟨go, hgo⟩ : ∃ go, go = w5.heap.size := ⟨_, rfl⟩
  obtain ⟨w6, hw6⟩ : ∃ w6, w6 = w5.alloc (.cells #[.slice LA vs.length lc, .slice CA q.com.length cd] 26) := ⟨_, rfl⟩
  rw [← hw6, ← hgo]
  have hQ : QM w6 w.heap.size go (.slice LA vs.length lc) (.slice CA q.com.length cd) vs q := by
    rw [hw6]
    exact ⟨heap_alloc_new' _ _ hgo, (hlo5.base hz2).alloc _ false_lt, Rows.ext ⟨hr5.1, fun i v xs hv hx => (hr5.2.1 i v xs hv hx).base hz2, hr5.2.2⟩ ((Below.refl w5.heap.size w5).alloc (Nat.le_refl _) _)⟩
  have hk6 : Blk w6 (w.heap.size + 1) 26 #[.slice none 0 0, .slice none 0 0] := by
    rw [hw6]
    exact hk1'.alloc _
  have hkq : Blk w6 w.heap.size 26 #[.slice A n c, .slice C m d] := by rw [hw6]; exact hk0.alloc _
  have hb7 : Below w.heap.size w w6 := by rw [hw6]; exact hb6.alloc hz5 _
  have hgo1 : w.heap.size + 1 < go := by rw [hgo]; exact hk1'.lt
  clear hw6 hk0 hk1' hlo5 hr5 hgo
  have hvn : Hid (vs.length = n) := Lib.hid (hQ.len.trans hll.out)
  obtain ⟨gl, lc', X, xs, cx, hlv, hvp, hxp, hcl6, hfr6, hox, hgl1, hgl2, hgl3, hlc', hlc'', hcx, hcx'⟩ := hQ.row (p := p) (by rw [hll.out]; exact hpn)
  injection hlv with hlv1 hlv2 hlv3
  subst hlv1
  subst hlv3
  obtain rfl : own = xs := Option.some.inj (HOW.out.symm.trans hxp)
  rw [hQ.len, hll.out] at hQ
  have b0 : w6.cell? ⟨go, 0, none⟩ = some (.slice (some ⟨gl, 0, none⟩) n lc) := hQ.1.at_ 0 rfl
  have b1 : w6.cell? ⟨go, 1, none⟩ = some (.slice CA q.com.length cd) := hQ.1.at_ 1 rfl
  have hx4 : own.length ≤ 4 := valid_row HV.out (List.mem_of_getElem? hxp)
  have HQM := Lib.hid hQ
  have HGL : Hid (gl ≠ w.heap.size + 1) := fun e => hQ.2.1.ne hk6 (by decide) (by rw [← e]; rfl)
  have hne1 : ¬ go = gl := fun e => hgl3 e.symm
  have hz7 := hb7.size
  have a0 : w6.cell? ⟨w.heap.size, 0, none⟩ = some (.slice A n c) := hkq.at_ 0 rfl
  have a1 : w6.cell? ⟨w.heap.size, 1, none⟩ = some (.slice C m d) := hkq.at_ 1 rfl
  have HL6 := Lib.hid (hl.below (hb7.mono hB))
  have HC6 := Lib.hid (hc.below (hb7.mono hB))
  obtain ⟨bq, oq, rfl, hbq, ow, X0, n0, c0, how, hc0, hn0, hc0', hs0⟩ := HL6.out.list_ hpn
  obtain rfl : own = ow := Option.some.inj (HOW.out.symm.trans how)
  obtain rfl : n0 = own.length := hs0.1.symm
  have hbq : bq < w.heap.size := Nat.lt_of_lt_of_le hbq hB
  have q1 : ¬ bq = w.heap.size + 1 := by omega
  have q2 : ¬ w.heap.size + 1 = bq := by omega
  have q3 : ¬ go = w.heap.size + 1 := by omega
  have q4 : ¬ w.heap.size + 1 = go := by omega
  have HS0 := Lib.hid hs0
  have HK6 := Lib.hid hk6
  have HB7 := Lib.hid hb7
  have HKQ := Lib.hid hkq
  have HGQ : Hid (gl ≠ w.heap.size) := fun e => HQM.out.2.1.ne hkq (by decide) (by rw [← e]; rfl)
  clear hs0 how hk6 hb7 hkq hox
  by_cases hol : own.length = 0
  · have HOE : Hid (own = []) := List.eq_nil_of_length_eq_zero hol
    rw [hol] at hc0
    clear hol
    by_cases hcm : m = 0
    · subst hcm
      have HCE : Hid (q.com = []) := List.eq_nil_of_length_eq_zero hcl.out
      obtain ⟨i0, hi, hi0, hi1, hi2⟩ := info_parts info_int
      have HI := Lib.hid (And.intro hi (And.intro hi0 (And.intro hi1 hi2)))
      clear hi hi0 hi1 hi2
      go_wp2
      go_loop [11, 12, 13] (fun i _ _ => ∃ k : Nat, k ≤ n ∧ i = .int .i64 k ∧ ∀ j, j < k → q.loc.getD (victim n r j) [] = []) (fun i _ _ => n - (intOf i).toNat)
      case atStart => exact ⟨0, Nat.zero_le _, rfl, fun j hj => absurd hj (by omega)⟩
      case round =>
        obtain ⟨k, hk, rfl, hno⟩ := hrel
        have HN := Lib.hid hno
        clear hno
        by_cases hlt : k < n
        · have hn0 : ¬ n = 0 := by omega
          have hve := victim_eq2 (r := r) (by omega) hn4 hlt
          obtain ⟨v, hv⟩ : ∃ v, v = victim n r k := ⟨_, rfl⟩
          have hvl : v < n := by rw [hv]; exact Nat.mod_lt _ (by omega)
          have hv0 : (0 : Int) ≤ (v : Int) := Int.natCast_nonneg _
          have hv1 : (v : Int) < (n : Int) := by omega
          rw [← hv] at hve
          have HVK := Lib.hid hv
          clear hv
          obtain ⟨b', o', e', -, ys, Y, ny, cy, hyq, hcy, hny, hcy', hsy⟩ := HL6.out.list_ hvl
          injection e' with e'
          injection e' with e1 e2
          subst e1
          subst e2
          obtain rfl : ny = ys.length := hsy.1.symm
          have HSY := Lib.hid hsy
          clear hsy
          by_cases hy0 : ys.length = 0
          · have HY0 : Hid (q.loc.getD v [] = []) := by
              refine Lib.hid ?_
              rw [List.getD_eq_getElem?_getD, hyq]
              exact List.eq_nil_of_length_eq_zero hy0
            rw [hy0] at hcy
            clear hy0
            have hnx : ∀ j, j < k + 1 → q.loc.getD (victim n r j) [] = [] := fun j hj => by
              rcases Nat.lt_or_ge j k with h | h
              · exact HN.out j h
              · obtain rfl : j = k := by omega
                rw [← HVK.out]
                exact HY0.out
            have HNX := Lib.hid hnx
            clear hnx
            rcases (by omega : v = p ∨ ¬ v = p) with hvp1 | hvp1
            · subst hvp1
              go_wp2
              go_round
              case rel => exact ⟨k + 1, by omega, by go_num, HNX.out⟩
              case measure => simp [intOf]; omega
            · have hb1 : ((v : Int) == (p : Int)) = false := beq_eq_false_iff_ne.2 (by omega)
              have hb2 : (v == p) = false := beq_eq_false_iff_ne.2 hvp1
              go_wp2
              go_round
              case rel => exact ⟨k + 1, by omega, by go_num, HNX.out⟩
              case measure => simp [intOf]; omega
          · have hyb : ((ys.length : Int) == 0) = false := by simpa using hy0
            have hyp : 0 < ys.length := Nat.pos_of_ne_zero hy0
            obtain ⟨gy, oy, rfl, hgy, hy0⟩ := HSY.out.int' hyp
            have hgyw : gy < w.heap.size := Nat.lt_of_lt_of_le hgy hB
            rw [Nat.add_zero, getD_headD] at hy0
            have hpv : ¬ p = v := by
              intro e
              subst e
              rw [hxp] at hyq
              have := Option.some.inj hyq
              rw [← this, HOE.out] at hyp
              exact absurd hyp (by simp)
            have hvp1 : ¬ v = p := fun e => hpv e.symm
            have hb1 : ((v : Int) == (p : Int)) = false := beq_eq_false_iff_ne.2 (by omega)
            have hb2 : (v == p) = false := beq_eq_false_iff_ne.2 hvp1
            have hy4 := valid_row HV.out (List.mem_of_getElem? hyq)
            obtain ⟨gl', lc', Y', ys', cy2, hlv', hvv, hyq', -, -, -, -, -, -, -, -, -, -⟩ := HQM.out.row (p := v) (by rw [hll.out]; exact hvl)
            obtain rfl : ys = ys' := Option.some.inj (hyq.symm.trans hyq')
            clear hlv' hyq'
            have q5 : ¬ gy = w.heap.size + 1 := by omega
            have q6 : ¬ w.heap.size + 1 = gy := by omega
            obtain ⟨hN, hhN⟩ : ∃ hN, hN = halfUp ys := ⟨_, rfl⟩
            have hN1 : 1 ≤ hN := by rw [hhN]; exact halfUp_pos hyp
            have hN2 : hN ≤ ys.length := by rw [hhN]; exact halfUp_le ys
            have hh1 : IntKind.i64.wrap ((ys.length : Int) / 2) = (ys.length : Int) / 2 := IntWalk.i64_in _ (by omega)
            have hh2 : IntKind.i64.wrap ((ys.length : Int) - (ys.length : Int) / 2) = (hN : Int) := by
              rw [IntWalk.i64_in _ (by omega), hhN]
              unfold halfUp
              omega
            have HHN := Lib.hid hhN
            have k0 : (0 : Int) ≤ (hN : Int) := Int.natCast_nonneg _
            have k1 : (hN : Int) ≤ (cy : Int) := by omega
            have k2 : (hN : Int) ≤ (ys.length : Int) := by omega
            have k3 : (1 : Int) ≤ (hN : Int) := by omega
            have k5 : 0 < hN := by omega
            have k6 : (ys.length : Int) ≤ (cy : Int) := by omega
            have k7 : (1 : Int) ≤ (ys.length : Int) := by omega
            have k8 : (1 : Int) ≤ (cy : Int) := by omega
            clear hhN
            rcases (by omega : cy = 1 ∨ ¬ cy = 1) with hck1 | hck1
            · obtain rfl : hN = 1 := by omega
              obtain rfl : cy = 1 := by omega
              by_cases hdd : True
              · have hL1 : (ys.drop 1).length = 0 := by rw [List.length_drop]; try omega
                have hL2 : ((ys.take 1).drop 1).length = 0 := by (rw [List.length_drop, List.length_take, Nat.min_eq_left hN2])
                have HL1 := Lib.hid hL1
                have HL2 := Lib.hid hL2
                clear hL1 hL2
                go_upto_region 18 with fail
                have HO18 : Hid (Own (α := Int) (w6.alloc (.cells #[] 3)).drew w6.heap.size 3 (fun _ => False) (.slice (some ⟨w6.heap.size, 0, none⟩) 0 0) []) := Own.empty (α := Int) w6.drew w6.heap.size 3 (fun _ => False) (Nat.le_refl _)
                have HB18 : Hid (Below w6.heap.size w6 (w6.alloc (.cells #[] 3)).drew) := below_drewN ((Below.refl w6.heap.size w6).alloc (Nat.le_refl _) (.cells #[] 3)) 1
                have hs18 : w6.heap.size ≤ ((w6.alloc (.cells #[] 3)).drew).heap.size := HB18.out.size
                have HS18 : Hid (Src (α := Int) (w6.alloc (.cells #[] 3)).drew (lt B) (some ⟨gy, oy, none⟩) (0) (ys.drop 1)) := by
                  refine Lib.hid ?_
                  have h := Sl.src (Sl.cut (A' := some ⟨gy, oy, none⟩) (HSY.out.below (HB18.out.mono (by omega))) hN2 (fun h => by omega))
                  exact Src.len' h HL1.out
                go_wp2
                go_region_held3 (fun w' => w'.cell? ⟨go, 0, none⟩ = some (.slice (some ⟨gl, 0, none⟩) n lc)) (go_keep)
                  (first
                    | (refine step_cat (α := Int) rfl (.tmp 111) (.tmp 114) 24 rfl w6.heap.size 3 i0 (.int .i64 0) 8 Try.underlying24 HI.out.1 HI.out.2.1 HI.out.2.2.1 HI.out.2.2.2 rfl (by decide) (fun _ => False) _ [] (ys.drop 1) (some ⟨gy, oy, none⟩) (0) (0) (by rfl) HO18.out (by rfl) HS18.out (fun b hb => hb.elim) hs18 (by simp only [List.length_nil]; unfold maxLen; omega) (by simp only [List.length_nil]; omega) ?_
                       intro v11 w11 hown11 hg11 hat11
                       rw [List.nil_append] at hown11
                       have hb11 : Below w6.heap.size w6 w11 := own_below HO18.out HB18.out hg11 (Nat.le_refl _) hs18
                       obtain ⟨U, cu, hv11, hcu, hcu', -⟩ := hown11.slice
                       rw [HL1.out] at hv11
                       subst hv11
                       have HT11 := Lib.hid (HQM.out.fresh hb11 hz7 (p := v) hown11)
                       have s11 : w11.cell? ⟨go, 0, none⟩ = some (.slice (some ⟨gl, 0, none⟩) n lc) := HT11.out.1.at_ 0 rfl
                       obtain ⟨t1, t2⟩ := HT11.out.cell hvv
                       have HB11 := Lib.hid hb11
                       clear hown11 hg11 hat11 hb11))
                obtain ⟨w12, hw12⟩ : ∃ w12, w12 = w11.setCell ⟨gl, v, none⟩ (.slice U (0) cu) := ⟨_, rfl⟩
                rw [← hw12]
                have hQ12 : QM w12 w.heap.size go (.slice (some ⟨gl, 0, none⟩) n lc) (.slice CA q.com.length cd) (vs.set v (.slice U (0) cu)) ⟨q.loc.set v (ys.drop 1), q.com⟩ := by
                  rw [hw12]
                  exact QT.store (q := q) HT11.out (by rw [hvn.out]; exact hvl)
                have hbw12 : Below w.heap.size w6 w12 := by rw [hw12]; exact (HB11.out.mono hz7).setCell (by show w.heap.size ≤ gl; omega) _
                have hk12 : Blk w12 (w.heap.size + 1) 26 #[.slice none 0 0, .slice none 0 0] := by
                  rw [hw12]
                  exact (HK6.out.below HB11.out HK6.out.lt).far (p := ⟨gl, v, none⟩) (by show w.heap.size + 1 ≠ gl; exact fun e => HGL.out e.symm) _
                have hz12 : w.heap.size ≤ w12.heap.size := Nat.le_trans hz7 hbw12.size
                have b12 : w12.cell? ⟨go, 0, none⟩ = some (.slice (some ⟨gl, 0, none⟩) n lc) := hQ12.1.at_ 0 rfl
                have hvp12 : (vs.set v (.slice U (0) cu))[p]? = some (.slice X own.length cx) := by rw [List.getElem?_set_ne (fun e => hpv e.symm)]; exact hvp
                have HO19 : Hid (Own (α := Int) (w12.alloc (.cells #[] 3)).drew w12.heap.size 3 (fun _ => False) (.slice (some ⟨w12.heap.size, 0, none⟩) 0 0) []) := Own.empty (α := Int) w12.drew w12.heap.size 3 (fun _ => False) (Nat.le_refl _)
                have HB19 : Hid (Below w12.heap.size w12 (w12.alloc (.cells #[] 3)).drew) := below_drewN ((Below.refl w12.heap.size w12).alloc (Nat.le_refl _) (.cells #[] 3)) 1
                have hs19 : w12.heap.size ≤ ((w12.alloc (.cells #[] 3)).drew).heap.size := HB19.out.size
                have HS19 : Hid (Src (α := Int) (w12.alloc (.cells #[] 3)).drew (lt B) (some ⟨gy, oy, none⟩) (0) ((ys.take 1).drop 1)) := by
                  refine Lib.hid ?_
                  have h := Sl.src (Sl.cut (A' := some ⟨gy, oy, none⟩) (Sl.take_ ((HSY.out.below (hbw12.mono hB)).below (HB19.out.mono (by omega))) hN2) hN1 (fun h => by omega))
                  exact Src.len' h HL2.out
                have HQ12 := Lib.hid hQ12
                have HK12 := Lib.hid hk12
                have HBW12 := Lib.hid hbw12
                clear hw12 t1 t2 s11 hQ12 hk12 hbw12 b0 b1
                go_wp2
                go_region_held3 (fun w' => w'.cell? ⟨go, 0, none⟩ = some (.slice (some ⟨gl, 0, none⟩) n lc)) (go_keep)
                  (first
                    | (refine step_cat (α := Int) rfl (.tmp 120) (.tmp 123) 24 rfl w12.heap.size 3 i0 (.int .i64 0) 8 Try.underlying24 HI.out.1 HI.out.2.1 HI.out.2.2.1 HI.out.2.2.2 rfl (by decide) (fun _ => False) _ [] ((ys.take 1).drop 1) (some ⟨gy, oy, none⟩) (0) (0) (by rfl) HO19.out (by rfl) HS19.out (fun b hb => hb.elim) hs19 (by simp only [List.length_nil]; unfold maxLen; omega) (by simp only [List.length_nil]; omega) ?_
                       intro v13 w13 hown13 hg13 hat13
                       rw [List.nil_append] at hown13
                       have hb13 : Below w12.heap.size w12 w13 := own_below HO19.out HB19.out hg13 (Nat.le_refl _) hs19
                       obtain ⟨U2, cu2, hv13, hcu2, hcu2', -⟩ := hown13.slice
                       rw [HL2.out] at hv13
                       subst hv13
                       have HT13 := Lib.hid (HQ12.out.fresh hb13 hz12 (p := p) hown13)
                       have s13 : w13.cell? ⟨go, 0, none⟩ = some (.slice (some ⟨gl, 0, none⟩) n lc) := HT13.out.1.at_ 0 rfl
                       obtain ⟨t3, t4⟩ := HT13.out.cell hvp12
                       have HB13 := Lib.hid hb13
                       clear hown13 hg13 hat13 hb13))
                obtain ⟨w8, hw8⟩ : ∃ w8, w8 = w13.setCell ⟨gl, p, none⟩ (.slice U2 (0) cu2) := ⟨_, rfl⟩
                rw [← hw8]
                have hR8 : RQ w8 w.heap.size go (.slice (some ⟨gl, 0, none⟩) n lc) (.slice CA q.com.length cd) ((vs.set v (.slice U (0) cu)).set p (.slice U2 (0) cu2)) (takeAt q p v ys) := by
                  rw [hw8]
                  have h := (QT.store (q := ⟨q.loc.set v (ys.drop 1), q.com⟩) HT13.out (by rw [List.length_set, hvn.out]; exact hpn)).rq
                  unfold takeAt
                  rw [← HHN.out]
                  exact h
                have hbw8 : Below w.heap.size w6 w8 := by rw [hw8]; exact (HBW12.out.trans (HB13.out.mono hz12)).setCell (by show w.heap.size ≤ gl; omega) _
                have hb8 : Below w.heap.size w w8 := HB7.out.trans hbw8
                have hk8 : Blk w8 (w.heap.size + 1) 26 #[.slice none 0 0, .slice none 0 0] := by
                  rw [hw8]
                  exact (HK12.out.below HB13.out HK12.out.lt).far (p := ⟨gl, p, none⟩) (by show w.heap.size + 1 ≠ gl; exact fun e => HGL.out e.symm) _
                have z2 : w8.cell? ⟨gy, oy, none⟩ = some (.int .i64 (ys.headD 0)) := (hbw8.cell (p := ⟨gy, oy, none⟩) hgyw).trans hy0
                have b8 : w8.cell? ⟨go, 0, none⟩ = some (.slice (some ⟨gl, 0, none⟩) n lc) := hR8.1.at_ 0 rfl
                have b9 : w8.cell? ⟨go, 1, none⟩ = some (.slice CA q.com.length cd) := hR8.1.at_ 1 rfl
                clear hw8 a0 a1 hcl6 hfr6 hc0 hy0 t3 t4 s13 b12 hbw8
                have l0 : w8.cell? ⟨w.heap.size + 1, 0, none⟩ = some (.slice none 0 0) := hk8.at_ 0 rfl
                have l1 : w8.cell? ⟨w.heap.size + 1, 1, none⟩ = some (.slice none 0 0) := hk8.at_ 1 rfl
                have g0 : w8.frozen? ⟨w.heap.size + 1, 0, none⟩ = false := hk8.frozen 0
                have g1 : w8.frozen? ⟨w.heap.size + 1, 1, none⟩ = false := hk8.frozen 1
                go_wp2
                go_region_held3 (fun w' => w'.cell? ⟨go, 0, none⟩ = some (.slice (some ⟨gl, 0, none⟩) n lc) ∧ w'.cell? ⟨go, 1, none⟩ = some (.slice CA q.com.length cd) ∧ w'.cell? ⟨gy, oy, none⟩ = some (.int .i64 (ys.headD 0))) (go_keep) (fail)
                obtain ⟨w9, hw9⟩ : ∃ w9, w9 = ((w8.setCell ⟨w.heap.size + 1, 0, none⟩ (.slice (some ⟨gl, 0, none⟩) n lc)).setCell ⟨w.heap.size + 1, 1, none⟩ (.slice CA q.com.length cd)).drew := ⟨_, rfl⟩
                rw [← hw9]
                have hk9 : Blk w9 (w.heap.size + 1) 26 #[.slice (some ⟨gl, 0, none⟩) n lc, .slice CA q.com.length cd] := by rw [hw9]; exact (hk8.set_ 0 (.slice (some ⟨gl, 0, none⟩) n lc)).set_ 1 (.slice CA q.com.length cd)
                have hb9 : Below w.heap.size w w9 := by rw [hw9]; exact below_drewN ((hb8.setCell (p := ⟨w.heap.size + 1, 0, none⟩) (by show w.heap.size ≤ w.heap.size + 1; omega) _).setCell (p := ⟨w.heap.size + 1, 1, none⟩) (by show w.heap.size ≤ w.heap.size + 1; omega) _) 1
                have hq9 : RQ w9 w.heap.size go (.slice (some ⟨gl, 0, none⟩) n lc) (.slice CA q.com.length cd) ((vs.set v (.slice U (0) cu)).set p (.slice U2 (0) cu2)) (takeAt q p v ys) := by
                  rw [hw9]
                  exact (hR8.other (o := 0) (u := .slice (some ⟨gl, 0, none⟩) n lc) hk8 (by omega)).other (o := 1) (u := .slice CA q.com.length cd) (hk8.set_ 0 _) (by omega)
                have e0 : w9.cell? ⟨w.heap.size + 1, 0, none⟩ = some (.slice (some ⟨gl, 0, none⟩) n lc) := hk9.at_ 0 rfl
                have e1 : w9.cell? ⟨w.heap.size + 1, 1, none⟩ = some (.slice CA q.com.length cd) := hk9.at_ 1 rfl
                go_wp2
                refine bodyPost_ret (v := .tuple #[.agg #[.slice (some ⟨gl, 0, none⟩) n lc, .slice CA q.com.length cd], .int .i64 (ys.headD 0), .bool true]) (by simp [results, Try.results19, go_sem, e0, e1]) rfl ?_
                rw [← HRS.out, nextQ_steal HV.out (by rw [← HOE.out]; exact hxp) HCE.out, stealQ_at (i := k) (by rw [hll.out]; exact hlt) (fun j hj => by rw [hll.out]; exact HN.out j hj) (l := ys) (by rw [hll.out, ← HVK.out]; exact hyq) hyp, show victim q.loc.length r k = v by rw [hll.out, HVK.out]]
                exact hq9.ret hb9
              · exact absurd trivial hdd
            · rcases (by omega : cy = hN ∨ ¬ cy = hN) with hck2 | hck2
              · subst hck2
                by_cases hdd : True
                · have hL1 : (ys.drop cy).length = 0 := by rw [List.length_drop]; try omega
                  have hL2 : ((ys.take cy).drop 1).length = cy - 1 := by (rw [List.length_drop, List.length_take, Nat.min_eq_left hN2])
                  have HL1 := Lib.hid hL1
                  have HL2 := Lib.hid hL2
                  clear hL1 hL2
                  go_upto_region 18 with fail
                  have HO18 : Hid (Own (α := Int) (w6.alloc (.cells #[] 3)).drew w6.heap.size 3 (fun _ => False) (.slice (some ⟨w6.heap.size, 0, none⟩) 0 0) []) := Own.empty (α := Int) w6.drew w6.heap.size 3 (fun _ => False) (Nat.le_refl _)
                  have HB18 : Hid (Below w6.heap.size w6 (w6.alloc (.cells #[] 3)).drew) := below_drewN ((Below.refl w6.heap.size w6).alloc (Nat.le_refl _) (.cells #[] 3)) 1
                  have hs18 : w6.heap.size ≤ ((w6.alloc (.cells #[] 3)).drew).heap.size := HB18.out.size
                  have HS18 : Hid (Src (α := Int) (w6.alloc (.cells #[] 3)).drew (lt B) (some ⟨gy, oy, none⟩) (0) (ys.drop cy)) := by
                    refine Lib.hid ?_
                    have h := Sl.src (Sl.cut (A' := some ⟨gy, oy, none⟩) (HSY.out.below (HB18.out.mono (by omega))) hN2 (fun h => by omega))
                    exact Src.len' h HL1.out
                  go_wp2
                  go_region_held3 (fun w' => w'.cell? ⟨go, 0, none⟩ = some (.slice (some ⟨gl, 0, none⟩) n lc)) (go_keep)
                    (first
                      | (refine step_cat (α := Int) rfl (.tmp 111) (.tmp 114) 24 rfl w6.heap.size 3 i0 (.int .i64 0) 8 Try.underlying24 HI.out.1 HI.out.2.1 HI.out.2.2.1 HI.out.2.2.2 rfl (by decide) (fun _ => False) _ [] (ys.drop cy) (some ⟨gy, oy, none⟩) (0) (0) (by rfl) HO18.out (by rfl) HS18.out (fun b hb => hb.elim) hs18 (by simp only [List.length_nil]; unfold maxLen; omega) (by simp only [List.length_nil]; omega) ?_
                         intro v11 w11 hown11 hg11 hat11
                         rw [List.nil_append] at hown11
                         have hb11 : Below w6.heap.size w6 w11 := own_below HO18.out HB18.out hg11 (Nat.le_refl _) hs18
                         obtain ⟨U, cu, hv11, hcu, hcu', -⟩ := hown11.slice
                         rw [HL1.out] at hv11
                         subst hv11
                         have HT11 := Lib.hid (HQM.out.fresh hb11 hz7 (p := v) hown11)
                         have s11 : w11.cell? ⟨go, 0, none⟩ = some (.slice (some ⟨gl, 0, none⟩) n lc) := HT11.out.1.at_ 0 rfl
                         obtain ⟨t1, t2⟩ := HT11.out.cell hvv
                         have HB11 := Lib.hid hb11
                         clear hown11 hg11 hat11 hb11))
                  obtain ⟨w12, hw12⟩ : ∃ w12, w12 = w11.setCell ⟨gl, v, none⟩ (.slice U (0) cu) := ⟨_, rfl⟩
                  rw [← hw12]
                  have hQ12 : QM w12 w.heap.size go (.slice (some ⟨gl, 0, none⟩) n lc) (.slice CA q.com.length cd) (vs.set v (.slice U (0) cu)) ⟨q.loc.set v (ys.drop cy), q.com⟩ := by
                    rw [hw12]
                    exact QT.store (q := q) HT11.out (by rw [hvn.out]; exact hvl)
                  have hbw12 : Below w.heap.size w6 w12 := by rw [hw12]; exact (HB11.out.mono hz7).setCell (by show w.heap.size ≤ gl; omega) _
                  have hk12 : Blk w12 (w.heap.size + 1) 26 #[.slice none 0 0, .slice none 0 0] := by
                    rw [hw12]
                    exact (HK6.out.below HB11.out HK6.out.lt).far (p := ⟨gl, v, none⟩) (by show w.heap.size + 1 ≠ gl; exact fun e => HGL.out e.symm) _
                  have hz12 : w.heap.size ≤ w12.heap.size := Nat.le_trans hz7 hbw12.size
                  have b12 : w12.cell? ⟨go, 0, none⟩ = some (.slice (some ⟨gl, 0, none⟩) n lc) := hQ12.1.at_ 0 rfl
                  have hvp12 : (vs.set v (.slice U (0) cu))[p]? = some (.slice X own.length cx) := by rw [List.getElem?_set_ne (fun e => hpv e.symm)]; exact hvp
                  have HO19 : Hid (Own (α := Int) (w12.alloc (.cells #[] 3)).drew w12.heap.size 3 (fun _ => False) (.slice (some ⟨w12.heap.size, 0, none⟩) 0 0) []) := Own.empty (α := Int) w12.drew w12.heap.size 3 (fun _ => False) (Nat.le_refl _)
                  have HB19 : Hid (Below w12.heap.size w12 (w12.alloc (.cells #[] 3)).drew) := below_drewN ((Below.refl w12.heap.size w12).alloc (Nat.le_refl _) (.cells #[] 3)) 1
                  have hs19 : w12.heap.size ≤ ((w12.alloc (.cells #[] 3)).drew).heap.size := HB19.out.size
                  have HS19 : Hid (Src (α := Int) (w12.alloc (.cells #[] 3)).drew (lt B) (some ⟨gy, oy + 1, none⟩) (cy - 1) ((ys.take cy).drop 1)) := by
                    refine Lib.hid ?_
                    have h := Sl.src (Sl.cut (A' := some ⟨gy, oy + 1, none⟩) (Sl.take_ ((HSY.out.below (hbw12.mono hB)).below (HB19.out.mono (by omega))) hN2) hN1 (fun h => rfl))
                    exact Src.len' h HL2.out
                  have HQ12 := Lib.hid hQ12
                  have HK12 := Lib.hid hk12
                  have HBW12 := Lib.hid hbw12
                  clear hw12 t1 t2 s11 hQ12 hk12 hbw12 b0 b1
                  go_wp2
                  go_region_held3 (fun w' => w'.cell? ⟨go, 0, none⟩ = some (.slice (some ⟨gl, 0, none⟩) n lc)) (go_keep)
                    (first
                      | (refine step_cat (α := Int) rfl (.tmp 120) (.tmp 123) 24 rfl w12.heap.size 3 i0 (.int .i64 0) 8 Try.underlying24 HI.out.1 HI.out.2.1 HI.out.2.2.1 HI.out.2.2.2 rfl (by decide) (fun _ => False) _ [] ((ys.take cy).drop 1) (some ⟨gy, oy + 1, none⟩) (cy - 1) (cy - 1) (by rfl) HO19.out (by rfl) HS19.out (fun b hb => hb.elim) hs19 (by simp only [List.length_nil]; unfold maxLen; omega) (by simp only [List.length_nil]; omega) ?_
                         intro v13 w13 hown13 hg13 hat13
                         rw [List.nil_append] at hown13
                         have hb13 : Below w12.heap.size w12 w13 := own_below HO19.out HB19.out hg13 (Nat.le_refl _) hs19
                         obtain ⟨U2, cu2, hv13, hcu2, hcu2', -⟩ := hown13.slice
                         rw [HL2.out] at hv13
                         subst hv13
                         have HT13 := Lib.hid (HQ12.out.fresh hb13 hz12 (p := p) hown13)
                         have s13 : w13.cell? ⟨go, 0, none⟩ = some (.slice (some ⟨gl, 0, none⟩) n lc) := HT13.out.1.at_ 0 rfl
                         obtain ⟨t3, t4⟩ := HT13.out.cell hvp12
                         have HB13 := Lib.hid hb13
                         clear hown13 hg13 hat13 hb13))
                  obtain ⟨w8, hw8⟩ : ∃ w8, w8 = w13.setCell ⟨gl, p, none⟩ (.slice U2 (cy - 1) cu2) := ⟨_, rfl⟩
                  rw [← hw8]
                  have hR8 : RQ w8 w.heap.size go (.slice (some ⟨gl, 0, none⟩) n lc) (.slice CA q.com.length cd) ((vs.set v (.slice U (0) cu)).set p (.slice U2 (cy - 1) cu2)) (takeAt q p v ys) := by
                    rw [hw8]
                    have h := (QT.store (q := ⟨q.loc.set v (ys.drop cy), q.com⟩) HT13.out (by rw [List.length_set, hvn.out]; exact hpn)).rq
                    unfold takeAt
                    rw [← HHN.out]
                    exact h
                  have hbw8 : Below w.heap.size w6 w8 := by rw [hw8]; exact (HBW12.out.trans (HB13.out.mono hz12)).setCell (by show w.heap.size ≤ gl; omega) _
                  have hb8 : Below w.heap.size w w8 := HB7.out.trans hbw8
                  have hk8 : Blk w8 (w.heap.size + 1) 26 #[.slice none 0 0, .slice none 0 0] := by
                    rw [hw8]
                    exact (HK12.out.below HB13.out HK12.out.lt).far (p := ⟨gl, p, none⟩) (by show w.heap.size + 1 ≠ gl; exact fun e => HGL.out e.symm) _
                  have z2 : w8.cell? ⟨gy, oy, none⟩ = some (.int .i64 (ys.headD 0)) := (hbw8.cell (p := ⟨gy, oy, none⟩) hgyw).trans hy0
                  have b8 : w8.cell? ⟨go, 0, none⟩ = some (.slice (some ⟨gl, 0, none⟩) n lc) := hR8.1.at_ 0 rfl
                  have b9 : w8.cell? ⟨go, 1, none⟩ = some (.slice CA q.com.length cd) := hR8.1.at_ 1 rfl
                  clear hw8 a0 a1 hcl6 hfr6 hc0 hy0 t3 t4 s13 b12 hbw8
                  have l0 : w8.cell? ⟨w.heap.size + 1, 0, none⟩ = some (.slice none 0 0) := hk8.at_ 0 rfl
                  have l1 : w8.cell? ⟨w.heap.size + 1, 1, none⟩ = some (.slice none 0 0) := hk8.at_ 1 rfl
                  have g0 : w8.frozen? ⟨w.heap.size + 1, 0, none⟩ = false := hk8.frozen 0
                  have g1 : w8.frozen? ⟨w.heap.size + 1, 1, none⟩ = false := hk8.frozen 1
                  go_wp2
                  go_region_held3 (fun w' => w'.cell? ⟨go, 0, none⟩ = some (.slice (some ⟨gl, 0, none⟩) n lc) ∧ w'.cell? ⟨go, 1, none⟩ = some (.slice CA q.com.length cd) ∧ w'.cell? ⟨gy, oy, none⟩ = some (.int .i64 (ys.headD 0))) (go_keep) (fail)
                  obtain ⟨w9, hw9⟩ : ∃ w9, w9 = ((w8.setCell ⟨w.heap.size + 1, 0, none⟩ (.slice (some ⟨gl, 0, none⟩) n lc)).setCell ⟨w.heap.size + 1, 1, none⟩ (.slice CA q.com.length cd)).drew := ⟨_, rfl⟩
                  rw [← hw9]
                  have hk9 : Blk w9 (w.heap.size + 1) 26 #[.slice (some ⟨gl, 0, none⟩) n lc, .slice CA q.com.length cd] := by rw [hw9]; exact (hk8.set_ 0 (.slice (some ⟨gl, 0, none⟩) n lc)).set_ 1 (.slice CA q.com.length cd)
                  have hb9 : Below w.heap.size w w9 := by rw [hw9]; exact below_drewN ((hb8.setCell (p := ⟨w.heap.size + 1, 0, none⟩) (by show w.heap.size ≤ w.heap.size + 1; omega) _).setCell (p := ⟨w.heap.size + 1, 1, none⟩) (by show w.heap.size ≤ w.heap.size + 1; omega) _) 1
                  have hq9 : RQ w9 w.heap.size go (.slice (some ⟨gl, 0, none⟩) n lc) (.slice CA q.com.length cd) ((vs.set v (.slice U (0) cu)).set p (.slice U2 (cy - 1) cu2)) (takeAt q p v ys) := by
                    rw [hw9]
                    exact (hR8.other (o := 0) (u := .slice (some ⟨gl, 0, none⟩) n lc) hk8 (by omega)).other (o := 1) (u := .slice CA q.com.length cd) (hk8.set_ 0 _) (by omega)
                  have e0 : w9.cell? ⟨w.heap.size + 1, 0, none⟩ = some (.slice (some ⟨gl, 0, none⟩) n lc) := hk9.at_ 0 rfl
                  have e1 : w9.cell? ⟨w.heap.size + 1, 1, none⟩ = some (.slice CA q.com.length cd) := hk9.at_ 1 rfl
                  go_wp2
                  refine bodyPost_ret (v := .tuple #[.agg #[.slice (some ⟨gl, 0, none⟩) n lc, .slice CA q.com.length cd], .int .i64 (ys.headD 0), .bool true]) (by simp [results, Try.results19, go_sem, e0, e1]) rfl ?_
                  rw [← HRS.out, nextQ_steal HV.out (by rw [← HOE.out]; exact hxp) HCE.out, stealQ_at (i := k) (by rw [hll.out]; exact hlt) (fun j hj => by rw [hll.out]; exact HN.out j hj) (l := ys) (by rw [hll.out, ← HVK.out]; exact hyq) hyp, show victim q.loc.length r k = v by rw [hll.out, HVK.out]]
                  exact hq9.ret hb9
                · exact absurd trivial hdd
              · by_cases hdd : True
                · have hL1 : (ys.drop hN).length = ys.length - hN := by rw [List.length_drop]; try omega
                  have hL2 : ((ys.take hN).drop 1).length = hN - 1 := by (rw [List.length_drop, List.length_take, Nat.min_eq_left hN2])
                  have HL1 := Lib.hid hL1
                  have HL2 := Lib.hid hL2
                  clear hL1 hL2
                  go_upto_region 18 with fail
                  have HO18 : Hid (Own (α := Int) (w6.alloc (.cells #[] 3)).drew w6.heap.size 3 (fun _ => False) (.slice (some ⟨w6.heap.size, 0, none⟩) 0 0) []) := Own.empty (α := Int) w6.drew w6.heap.size 3 (fun _ => False) (Nat.le_refl _)
                  have HB18 : Hid (Below w6.heap.size w6 (w6.alloc (.cells #[] 3)).drew) := below_drewN ((Below.refl w6.heap.size w6).alloc (Nat.le_refl _) (.cells #[] 3)) 1
                  have hs18 : w6.heap.size ≤ ((w6.alloc (.cells #[] 3)).drew).heap.size := HB18.out.size
                  have HS18 : Hid (Src (α := Int) (w6.alloc (.cells #[] 3)).drew (lt B) (some ⟨gy, oy + hN, none⟩) (ys.length - hN) (ys.drop hN)) := by
                    refine Lib.hid ?_
                    have h := Sl.src (Sl.cut (A' := some ⟨gy, oy + hN, none⟩) (HSY.out.below (HB18.out.mono (by omega))) hN2 (fun h => rfl))
                    exact Src.len' h HL1.out
                  go_wp2
                  go_region_held3 (fun w' => w'.cell? ⟨go, 0, none⟩ = some (.slice (some ⟨gl, 0, none⟩) n lc)) (go_keep)
                    (first
                      | (refine step_cat (α := Int) rfl (.tmp 111) (.tmp 114) 24 rfl w6.heap.size 3 i0 (.int .i64 0) 8 Try.underlying24 HI.out.1 HI.out.2.1 HI.out.2.2.1 HI.out.2.2.2 rfl (by decide) (fun _ => False) _ [] (ys.drop hN) (some ⟨gy, oy + hN, none⟩) (ys.length - hN) (cy - hN) (by rfl) HO18.out (by rfl) HS18.out (fun b hb => hb.elim) hs18 (by simp only [List.length_nil]; unfold maxLen; omega) (by simp only [List.length_nil]; omega) ?_
                         intro v11 w11 hown11 hg11 hat11
                         rw [List.nil_append] at hown11
                         have hb11 : Below w6.heap.size w6 w11 := own_below HO18.out HB18.out hg11 (Nat.le_refl _) hs18
                         obtain ⟨U, cu, hv11, hcu, hcu', -⟩ := hown11.slice
                         rw [HL1.out] at hv11
                         subst hv11
                         have HT11 := Lib.hid (HQM.out.fresh hb11 hz7 (p := v) hown11)
                         have s11 : w11.cell? ⟨go, 0, none⟩ = some (.slice (some ⟨gl, 0, none⟩) n lc) := HT11.out.1.at_ 0 rfl
                         obtain ⟨t1, t2⟩ := HT11.out.cell hvv
                         have HB11 := Lib.hid hb11
                         clear hown11 hg11 hat11 hb11))
                  obtain ⟨w12, hw12⟩ : ∃ w12, w12 = w11.setCell ⟨gl, v, none⟩ (.slice U (ys.length - hN) cu) := ⟨_, rfl⟩
                  rw [← hw12]
                  have hQ12 : QM w12 w.heap.size go (.slice (some ⟨gl, 0, none⟩) n lc) (.slice CA q.com.length cd) (vs.set v (.slice U (ys.length - hN) cu)) ⟨q.loc.set v (ys.drop hN), q.com⟩ := by
                    rw [hw12]
                    exact QT.store (q := q) HT11.out (by rw [hvn.out]; exact hvl)
                  have hbw12 : Below w.heap.size w6 w12 := by rw [hw12]; exact (HB11.out.mono hz7).setCell (by show w.heap.size ≤ gl; omega) _
                  have hk12 : Blk w12 (w.heap.size + 1) 26 #[.slice none 0 0, .slice none 0 0] := by
                    rw [hw12]
                    exact (HK6.out.below HB11.out HK6.out.lt).far (p := ⟨gl, v, none⟩) (by show w.heap.size + 1 ≠ gl; exact fun e => HGL.out e.symm) _
                  have hz12 : w.heap.size ≤ w12.heap.size := Nat.le_trans hz7 hbw12.size
                  have b12 : w12.cell? ⟨go, 0, none⟩ = some (.slice (some ⟨gl, 0, none⟩) n lc) := hQ12.1.at_ 0 rfl
                  have hvp12 : (vs.set v (.slice U (ys.length - hN) cu))[p]? = some (.slice X own.length cx) := by rw [List.getElem?_set_ne (fun e => hpv e.symm)]; exact hvp
                  have HO19 : Hid (Own (α := Int) (w12.alloc (.cells #[] 3)).drew w12.heap.size 3 (fun _ => False) (.slice (some ⟨w12.heap.size, 0, none⟩) 0 0) []) := Own.empty (α := Int) w12.drew w12.heap.size 3 (fun _ => False) (Nat.le_refl _)
                  have HB19 : Hid (Below w12.heap.size w12 (w12.alloc (.cells #[] 3)).drew) := below_drewN ((Below.refl w12.heap.size w12).alloc (Nat.le_refl _) (.cells #[] 3)) 1
                  have hs19 : w12.heap.size ≤ ((w12.alloc (.cells #[] 3)).drew).heap.size := HB19.out.size
                  have HS19 : Hid (Src (α := Int) (w12.alloc (.cells #[] 3)).drew (lt B) (some ⟨gy, oy + 1, none⟩) (hN - 1) ((ys.take hN).drop 1)) := by
                    refine Lib.hid ?_
                    have h := Sl.src (Sl.cut (A' := some ⟨gy, oy + 1, none⟩) (Sl.take_ ((HSY.out.below (hbw12.mono hB)).below (HB19.out.mono (by omega))) hN2) hN1 (fun h => rfl))
                    exact Src.len' h HL2.out
                  have HQ12 := Lib.hid hQ12
                  have HK12 := Lib.hid hk12
                  have HBW12 := Lib.hid hbw12
                  clear hw12 t1 t2 s11 hQ12 hk12 hbw12 b0 b1
                  go_wp2
                  go_region_held3 (fun w' => w'.cell? ⟨go, 0, none⟩ = some (.slice (some ⟨gl, 0, none⟩) n lc)) (go_keep)
                    (first
                      | (refine step_cat (α := Int) rfl (.tmp 120) (.tmp 123) 24 rfl w12.heap.size 3 i0 (.int .i64 0) 8 Try.underlying24 HI.out.1 HI.out.2.1 HI.out.2.2.1 HI.out.2.2.2 rfl (by decide) (fun _ => False) _ [] ((ys.take hN).drop 1) (some ⟨gy, oy + 1, none⟩) (hN - 1) (cy - 1) (by rfl) HO19.out (by rfl) HS19.out (fun b hb => hb.elim) hs19 (by simp only [List.length_nil]; unfold maxLen; omega) (by simp only [List.length_nil]; omega) ?_
                         intro v13 w13 hown13 hg13 hat13
                         rw [List.nil_append] at hown13
                         have hb13 : Below w12.heap.size w12 w13 := own_below HO19.out HB19.out hg13 (Nat.le_refl _) hs19
                         obtain ⟨U2, cu2, hv13, hcu2, hcu2', -⟩ := hown13.slice
                         rw [HL2.out] at hv13
                         subst hv13
                         have HT13 := Lib.hid (HQ12.out.fresh hb13 hz12 (p := p) hown13)
                         have s13 : w13.cell? ⟨go, 0, none⟩ = some (.slice (some ⟨gl, 0, none⟩) n lc) := HT13.out.1.at_ 0 rfl
                         obtain ⟨t3, t4⟩ := HT13.out.cell hvp12
                         have HB13 := Lib.hid hb13
                         clear hown13 hg13 hat13 hb13))
                  obtain ⟨w8, hw8⟩ : ∃ w8, w8 = w13.setCell ⟨gl, p, none⟩ (.slice U2 (hN - 1) cu2) := ⟨_, rfl⟩
                  rw [← hw8]
                  have hR8 : RQ w8 w.heap.size go (.slice (some ⟨gl, 0, none⟩) n lc) (.slice CA q.com.length cd) ((vs.set v (.slice U (ys.length - hN) cu)).set p (.slice U2 (hN - 1) cu2)) (takeAt q p v ys) := by
                    rw [hw8]
                    have h := (QT.store (q := ⟨q.loc.set v (ys.drop hN), q.com⟩) HT13.out (by rw [List.length_set, hvn.out]; exact hpn)).rq
                    unfold takeAt
                    rw [← HHN.out]
                    exact h
                  have hbw8 : Below w.heap.size w6 w8 := by rw [hw8]; exact (HBW12.out.trans (HB13.out.mono hz12)).setCell (by show w.heap.size ≤ gl; omega) _
                  have hb8 : Below w.heap.size w w8 := HB7.out.trans hbw8
                  have hk8 : Blk w8 (w.heap.size + 1) 26 #[.slice none 0 0, .slice none 0 0] := by
                    rw [hw8]
                    exact (HK12.out.below HB13.out HK12.out.lt).far (p := ⟨gl, p, none⟩) (by show w.heap.size + 1 ≠ gl; exact fun e => HGL.out e.symm) _
                  have z2 : w8.cell? ⟨gy, oy, none⟩ = some (.int .i64 (ys.headD 0)) := (hbw8.cell (p := ⟨gy, oy, none⟩) hgyw).trans hy0
                  have b8 : w8.cell? ⟨go, 0, none⟩ = some (.slice (some ⟨gl, 0, none⟩) n lc) := hR8.1.at_ 0 rfl
                  have b9 : w8.cell? ⟨go, 1, none⟩ = some (.slice CA q.com.length cd) := hR8.1.at_ 1 rfl
                  clear hw8 a0 a1 hcl6 hfr6 hc0 hy0 t3 t4 s13 b12 hbw8
                  have l0 : w8.cell? ⟨w.heap.size + 1, 0, none⟩ = some (.slice none 0 0) := hk8.at_ 0 rfl
                  have l1 : w8.cell? ⟨w.heap.size + 1, 1, none⟩ = some (.slice none 0 0) := hk8.at_ 1 rfl
                  have g0 : w8.frozen? ⟨w.heap.size + 1, 0, none⟩ = false := hk8.frozen 0
                  have g1 : w8.frozen? ⟨w.heap.size + 1, 1, none⟩ = false := hk8.frozen 1
                  go_wp2
                  go_region_held3 (fun w' => w'.cell? ⟨go, 0, none⟩ = some (.slice (some ⟨gl, 0, none⟩) n lc) ∧ w'.cell? ⟨go, 1, none⟩ = some (.slice CA q.com.length cd) ∧ w'.cell? ⟨gy, oy, none⟩ = some (.int .i64 (ys.headD 0))) (go_keep) (fail)
                  obtain ⟨w9, hw9⟩ : ∃ w9, w9 = ((w8.setCell ⟨w.heap.size + 1, 0, none⟩ (.slice (some ⟨gl, 0, none⟩) n lc)).setCell ⟨w.heap.size + 1, 1, none⟩ (.slice CA q.com.length cd)).drew := ⟨_, rfl⟩
                  rw [← hw9]
                  have hk9 : Blk w9 (w.heap.size + 1) 26 #[.slice (some ⟨gl, 0, none⟩) n lc, .slice CA q.com.length cd] := by rw [hw9]; exact (hk8.set_ 0 (.slice (some ⟨gl, 0, none⟩) n lc)).set_ 1 (.slice CA q.com.length cd)
                  have hb9 : Below w.heap.size w w9 := by rw [hw9]; exact below_drewN ((hb8.setCell (p := ⟨w.heap.size + 1, 0, none⟩) (by show w.heap.size ≤ w.heap.size + 1; omega) _).setCell (p := ⟨w.heap.size + 1, 1, none⟩) (by show w.heap.size ≤ w.heap.size + 1; omega) _) 1
                  have hq9 : RQ w9 w.heap.size go (.slice (some ⟨gl, 0, none⟩) n lc) (.slice CA q.com.length cd) ((vs.set v (.slice U (ys.length - hN) cu)).set p (.slice U2 (hN - 1) cu2)) (takeAt q p v ys) := by
                    rw [hw9]
                    exact (hR8.other (o := 0) (u := .slice (some ⟨gl, 0, none⟩) n lc) hk8 (by omega)).other (o := 1) (u := .slice CA q.com.length cd) (hk8.set_ 0 _) (by omega)
                  have e0 : w9.cell? ⟨w.heap.size + 1, 0, none⟩ = some (.slice (some ⟨gl, 0, none⟩) n lc) := hk9.at_ 0 rfl
                  have e1 : w9.cell? ⟨w.heap.size + 1, 1, none⟩ = some (.slice CA q.com.length cd) := hk9.at_ 1 rfl
                  go_wp2
                  refine bodyPost_ret (v := .tuple #[.agg #[.slice (some ⟨gl, 0, none⟩) n lc, .slice CA q.com.length cd], .int .i64 (ys.headD 0), .bool true]) (by simp [results, Try.results19, go_sem, e0, e1]) rfl ?_
                  rw [← HRS.out, nextQ_steal HV.out (by rw [← HOE.out]; exact hxp) HCE.out, stealQ_at (i := k) (by rw [hll.out]; exact hlt) (fun j hj => by rw [hll.out]; exact HN.out j hj) (l := ys) (by rw [hll.out, ← HVK.out]; exact hyq) hyp, show victim q.loc.length r k = v by rw [hll.out, HVK.out]]
                  exact hq9.ret hb9
                · exact absurd trivial hdd
        · obtain rfl : k = n := by omega
          have l0 : w6.cell? ⟨w.heap.size + 1, 0, none⟩ = some (.slice none 0 0) := HK6.out.at_ 0 rfl
          have l1 : w6.cell? ⟨w.heap.size + 1, 1, none⟩ = some (.slice none 0 0) := HK6.out.at_ 1 rfl
          have g0 : w6.frozen? ⟨w.heap.size + 1, 0, none⟩ = false := HK6.out.frozen 0
          have g1 : w6.frozen? ⟨w.heap.size + 1, 1, none⟩ = false := HK6.out.frozen 1
          go_wp2
          have hk9 := (HK6.out.set_ 0 (.slice none 0 0)).set_ 1 (.slice none 0 0)
          have hb9 := (HB7.out.setCell (p := ⟨w.heap.size + 1, 0, none⟩) (by show w.heap.size ≤ w.heap.size + 1; omega) (.slice none 0 0)).setCell (p := ⟨w.heap.size + 1, 1, none⟩) (by show w.heap.size ≤ w.heap.size + 1; omega) (.slice none 0 0)
          obtain ⟨w9, hw9⟩ : ∃ w9, w9 = (w6.setCell ⟨w.heap.size + 1, 0, none⟩ (.slice none 0 0)).setCell ⟨w.heap.size + 1, 1, none⟩ (.slice none 0 0) := ⟨_, rfl⟩
          rw [← hw9] at hk9 hb9 ⊢
          have e0 : w9.cell? ⟨w.heap.size + 1, 0, none⟩ = some (.slice none 0 0) := hk9.at_ 0 rfl
          have e1 : w9.cell? ⟨w.heap.size + 1, 1, none⟩ = some (.slice none 0 0) := hk9.at_ 1 rfl
          refine bodyPost_ret (v := .tuple #[.agg #[.slice none 0 0, .slice none 0 0], .int .i64 0, .bool false]) (by simp [results, Try.results19, go_sem, e0, e1]) rfl ?_
          rw [← HRS.out, nextQ_steal HV.out (by rw [← HOE.out]; exact hxp) HCE.out, stealQ_none (fun i hi => by rw [hll.out] at hi ⊢; exact HN.out i hi)]
          exact RetQG.nothing hb9
    · obtain rfl : m = q.com.length := hcl.out.symm
      obtain ⟨x, rest, hXR⟩ : ∃ x rest, q.com = x :: rest := by
        cases hcc : q.com with
        | nil => rw [hcc] at hcm; exact absurd rfl hcm
        | cons x rest => exact ⟨x, rest, rfl⟩
      have HXR := Lib.hid hXR
      have hol : 0 < q.com.length := Nat.pos_of_ne_zero hcm
      clear hXR hcm
      obtain ⟨-, -, -, -, -, hoxx⟩ := HQM.out.com
      obtain ⟨gx, curx, rfl, hgx1, hgx2, hbx, hgs⟩ := hoxx.blk rfl hol
      clear hbx hoxx
      obtain ⟨bx, ox, rfl, hbx, hx0⟩ := HC6.out.int' hol
      have hbx : bx < w.heap.size := Nat.lt_of_lt_of_le hbx hB
      have hx1 : q.com.getD 0 0 = x := by rw [HXR.out]; rfl
      rw [hx1, Nat.add_zero] at hx0
      clear hx1
      have h02 : (1 : Int) ≤ ((q.com.length : Nat) : Int) := by omega
      have h03 : ((q.com.length : Nat) : Int) ≤ (cd : Int) := by omega
      have q5 : ¬ bx = w.heap.size + 1 := by omega
      have q6 : ¬ w.heap.size + 1 = bx := by omega
      have hfc : w6.frozen? ⟨go, 1, none⟩ = false := HQM.out.1.frozen 1
      by_cases hck : cd = 1
      · go_upto_region 9 with fail
        obtain ⟨w8, hw8⟩ : ∃ w8, w8 = w6.setCell ⟨go, 1, none⟩ (.slice (some ⟨gx, 0, none⟩) (q.com.length - 1) (0)) := ⟨_, rfl⟩
        rw [← hw8]
        have hR8 : RQ w8 w.heap.size go (.slice (some ⟨gl, 0, none⟩) n lc) (.slice (some ⟨gx, 0, none⟩) (q.com.length - 1) (0)) vs ⟨q.loc, rest⟩ := by
          rw [hw8]
          refine HQM.out.rq.putCom ?_
          have h := HQM.out.rq.2.2.2.1.drop (k := 1) (A' := some ⟨gx, 0, none⟩) (by omega) (fun h => by omega)
          rw [HXR.out] at h
          simpa [HXR.out, hck] using h
        have hb8 : Below w.heap.size w w8 := by rw [hw8]; exact HB7.out.setCell (by show w.heap.size ≤ go; omega) _
        have hk8 : Blk w8 (w.heap.size + 1) 26 #[.slice none 0 0, .slice none 0 0] := by
          rw [hw8]
          exact HK6.out.far (p := ⟨go, 1, none⟩) (by show w.heap.size + 1 ≠ go; omega) _
        have hbw8 : Below w.heap.size w6 w8 := by rw [hw8]; exact (Below.refl _ _).setCell (by show w.heap.size ≤ go; omega) _
        have z0 : w8.cell? ⟨w.heap.size, 1, none⟩ = some (.slice (some ⟨bx, ox, none⟩) q.com.length d) := by
          have h : Blk w8 w.heap.size 26 #[.slice (some ⟨bq, oq, none⟩) n c, .slice (some ⟨bx, ox, none⟩) q.com.length d] := by rw [hw8]; exact HKQ.out.far (p := ⟨go, 1, none⟩) (by show w.heap.size ≠ go; omega) _
          exact h.at_ 1 rfl
        have z2 : w8.cell? ⟨bx, ox, none⟩ = some (.int .i64 x) := (hbw8.cell (p := ⟨bx, ox, none⟩) hbx).trans hx0
        have b8 : w8.cell? ⟨go, 0, none⟩ = some (.slice (some ⟨gl, 0, none⟩) n lc) := hR8.1.at_ 0 rfl
        have b9 : w8.cell? ⟨go, 1, none⟩ = some (.slice (some ⟨gx, 0, none⟩) (q.com.length - 1) (0)) := hR8.1.at_ 1 rfl
        clear hw8 a0 a1 b0 b1 hcl6 hfr6 hc0 hx0
        have l0 : w8.cell? ⟨w.heap.size + 1, 0, none⟩ = some (.slice none 0 0) := hk8.at_ 0 rfl
        have l1 : w8.cell? ⟨w.heap.size + 1, 1, none⟩ = some (.slice none 0 0) := hk8.at_ 1 rfl
        have g0 : w8.frozen? ⟨w.heap.size + 1, 0, none⟩ = false := hk8.frozen 0
        have g1 : w8.frozen? ⟨w.heap.size + 1, 1, none⟩ = false := hk8.frozen 1
        go_wp2
        go_region_held3 (fun w' => w'.cell? ⟨go, 0, none⟩ = some (.slice (some ⟨gl, 0, none⟩) n lc) ∧ w'.cell? ⟨go, 1, none⟩ = some (.slice (some ⟨gx, 0, none⟩) (q.com.length - 1) (0)) ∧ w'.cell? ⟨w.heap.size, 1, none⟩ = some (.slice (some ⟨bx, ox, none⟩) q.com.length d) ∧ w'.cell? ⟨bx, ox, none⟩ = some (.int .i64 x)) (go_keep) (fail)
        obtain ⟨w9, hw9⟩ : ∃ w9, w9 = ((w8.setCell ⟨w.heap.size + 1, 0, none⟩ (.slice (some ⟨gl, 0, none⟩) n lc)).setCell ⟨w.heap.size + 1, 1, none⟩ (.slice (some ⟨gx, 0, none⟩) (q.com.length - 1) (0))).drew := ⟨_, rfl⟩
        rw [← hw9]
        have hk9 : Blk w9 (w.heap.size + 1) 26 #[.slice (some ⟨gl, 0, none⟩) n lc, .slice (some ⟨gx, 0, none⟩) (q.com.length - 1) (0)] := by rw [hw9]; exact (hk8.set_ 0 (.slice (some ⟨gl, 0, none⟩) n lc)).set_ 1 (.slice (some ⟨gx, 0, none⟩) (q.com.length - 1) (0))
        have hb9 : Below w.heap.size w w9 := by rw [hw9]; exact below_drewN ((hb8.setCell (p := ⟨w.heap.size + 1, 0, none⟩) (by show w.heap.size ≤ w.heap.size + 1; omega) _).setCell (p := ⟨w.heap.size + 1, 1, none⟩) (by show w.heap.size ≤ w.heap.size + 1; omega) _) 1
        have hq9 : RQ w9 w.heap.size go (.slice (some ⟨gl, 0, none⟩) n lc) (.slice (some ⟨gx, 0, none⟩) (q.com.length - 1) (0)) (vs) (⟨q.loc, rest⟩) := by
          rw [hw9]
          exact (hR8.other (o := 0) (u := .slice (some ⟨gl, 0, none⟩) n lc) hk8 (by omega)).other (o := 1) (u := .slice (some ⟨gx, 0, none⟩) (q.com.length - 1) (0)) (hk8.set_ 0 _) (by omega)
        have e0 : w9.cell? ⟨w.heap.size + 1, 0, none⟩ = some (.slice (some ⟨gl, 0, none⟩) n lc) := hk9.at_ 0 rfl
        have e1 : w9.cell? ⟨w.heap.size + 1, 1, none⟩ = some (.slice (some ⟨gx, 0, none⟩) (q.com.length - 1) (0)) := hk9.at_ 1 rfl
        go_wp2
        refine bodyPost_ret (v := .tuple #[.agg #[.slice (some ⟨gl, 0, none⟩) n lc, .slice (some ⟨gx, 0, none⟩) (q.com.length - 1) (0)], .int .i64 x, .bool true]) (by simp [results, Try.results19, go_sem, e0, e1]) rfl ?_
        rw [← HRS.out, nextQ_com HV.out (by rw [← HOE.out]; exact hxp) HXR.out]
        exact hq9.ret hb9
      · go_upto_region 9 with fail
        obtain ⟨w8, hw8⟩ : ∃ w8, w8 = w6.setCell ⟨go, 1, none⟩ (.slice (some ⟨gx, 1, none⟩) (q.com.length - 1) (cd - 1)) := ⟨_, rfl⟩
        rw [← hw8]
        have hR8 : RQ w8 w.heap.size go (.slice (some ⟨gl, 0, none⟩) n lc) (.slice (some ⟨gx, 1, none⟩) (q.com.length - 1) (cd - 1)) vs ⟨q.loc, rest⟩ := by
          rw [hw8]
          refine HQM.out.rq.putCom ?_
          have h := HQM.out.rq.2.2.2.1.drop (k := 1) (A' := some ⟨gx, 1, none⟩) (by omega) (fun h => rfl)
          rw [HXR.out] at h
          simpa [HXR.out] using h
        have hb8 : Below w.heap.size w w8 := by rw [hw8]; exact HB7.out.setCell (by show w.heap.size ≤ go; omega) _
        have hk8 : Blk w8 (w.heap.size + 1) 26 #[.slice none 0 0, .slice none 0 0] := by
          rw [hw8]
          exact HK6.out.far (p := ⟨go, 1, none⟩) (by show w.heap.size + 1 ≠ go; omega) _
        have hbw8 : Below w.heap.size w6 w8 := by rw [hw8]; exact (Below.refl _ _).setCell (by show w.heap.size ≤ go; omega) _
        have z0 : w8.cell? ⟨w.heap.size, 1, none⟩ = some (.slice (some ⟨bx, ox, none⟩) q.com.length d) := by
          have h : Blk w8 w.heap.size 26 #[.slice (some ⟨bq, oq, none⟩) n c, .slice (some ⟨bx, ox, none⟩) q.com.length d] := by rw [hw8]; exact HKQ.out.far (p := ⟨go, 1, none⟩) (by show w.heap.size ≠ go; omega) _
          exact h.at_ 1 rfl
        have z2 : w8.cell? ⟨bx, ox, none⟩ = some (.int .i64 x) := (hbw8.cell (p := ⟨bx, ox, none⟩) hbx).trans hx0
        have b8 : w8.cell? ⟨go, 0, none⟩ = some (.slice (some ⟨gl, 0, none⟩) n lc) := hR8.1.at_ 0 rfl
        have b9 : w8.cell? ⟨go, 1, none⟩ = some (.slice (some ⟨gx, 1, none⟩) (q.com.length - 1) (cd - 1)) := hR8.1.at_ 1 rfl
        clear hw8 a0 a1 b0 b1 hcl6 hfr6 hc0 hx0
        have l0 : w8.cell? ⟨w.heap.size + 1, 0, none⟩ = some (.slice none 0 0) := hk8.at_ 0 rfl
        have l1 : w8.cell? ⟨w.heap.size + 1, 1, none⟩ = some (.slice none 0 0) := hk8.at_ 1 rfl
        have g0 : w8.frozen? ⟨w.heap.size + 1, 0, none⟩ = false := hk8.frozen 0
        have g1 : w8.frozen? ⟨w.heap.size + 1, 1, none⟩ = false := hk8.frozen 1
        go_wp2
        go_region_held3 (fun w' => w'.cell? ⟨go, 0, none⟩ = some (.slice (some ⟨gl, 0, none⟩) n lc) ∧ w'.cell? ⟨go, 1, none⟩ = some (.slice (some ⟨gx, 1, none⟩) (q.com.length - 1) (cd - 1)) ∧ w'.cell? ⟨w.heap.size, 1, none⟩ = some (.slice (some ⟨bx, ox, none⟩) q.com.length d) ∧ w'.cell? ⟨bx, ox, none⟩ = some (.int .i64 x)) (go_keep) (fail)
        obtain ⟨w9, hw9⟩ : ∃ w9, w9 = ((w8.setCell ⟨w.heap.size + 1, 0, none⟩ (.slice (some ⟨gl, 0, none⟩) n lc)).setCell ⟨w.heap.size + 1, 1, none⟩ (.slice (some ⟨gx, 1, none⟩) (q.com.length - 1) (cd - 1))).drew := ⟨_, rfl⟩
        rw [← hw9]
        have hk9 : Blk w9 (w.heap.size + 1) 26 #[.slice (some ⟨gl, 0, none⟩) n lc, .slice (some ⟨gx, 1, none⟩) (q.com.length - 1) (cd - 1)] := by rw [hw9]; exact (hk8.set_ 0 (.slice (some ⟨gl, 0, none⟩) n lc)).set_ 1 (.slice (some ⟨gx, 1, none⟩) (q.com.length - 1) (cd - 1))
        have hb9 : Below w.heap.size w w9 := by rw [hw9]; exact below_drewN ((hb8.setCell (p := ⟨w.heap.size + 1, 0, none⟩) (by show w.heap.size ≤ w.heap.size + 1; omega) _).setCell (p := ⟨w.heap.size + 1, 1, none⟩) (by show w.heap.size ≤ w.heap.size + 1; omega) _) 1
        have hq9 : RQ w9 w.heap.size go (.slice (some ⟨gl, 0, none⟩) n lc) (.slice (some ⟨gx, 1, none⟩) (q.com.length - 1) (cd - 1)) (vs) (⟨q.loc, rest⟩) := by
          rw [hw9]
          exact (hR8.other (o := 0) (u := .slice (some ⟨gl, 0, none⟩) n lc) hk8 (by omega)).other (o := 1) (u := .slice (some ⟨gx, 1, none⟩) (q.com.length - 1) (cd - 1)) (hk8.set_ 0 _) (by omega)
        have e0 : w9.cell? ⟨w.heap.size + 1, 0, none⟩ = some (.slice (some ⟨gl, 0, none⟩) n lc) := hk9.at_ 0 rfl
        have e1 : w9.cell? ⟨w.heap.size + 1, 1, none⟩ = some (.slice (some ⟨gx, 1, none⟩) (q.com.length - 1) (cd - 1)) := hk9.at_ 1 rfl
        go_wp2
        refine bodyPost_ret (v := .tuple #[.agg #[.slice (some ⟨gl, 0, none⟩) n lc, .slice (some ⟨gx, 1, none⟩) (q.com.length - 1) (cd - 1)], .int .i64 x, .bool true]) (by simp [results, Try.results19, go_sem, e0, e1]) rfl ?_
        rw [← HRS.out, nextQ_com HV.out (by rw [← HOE.out]; exact hxp) HXR.out]
        exact hq9.ret hb9
  · obtain ⟨x, rest, hXR⟩ : ∃ x rest, own = x :: rest := by
      cases own with
      | nil => exact absurd rfl hol
      | cons x rest => exact ⟨x, rest, rfl⟩
    have HXR := Lib.hid hXR
    have hol : 0 < own.length := Nat.pos_of_ne_zero hol
    clear hXR
    obtain ⟨gx, curx, rfl, hgx1, hgx2, hbx, hgs⟩ := (HQM.out.2.2.2.1 (p + 1) _ own (by simpa using hvp) (by simpa using hxp)).blk rfl hol
    clear hbx
    obtain ⟨bx, ox, rfl, hbx, hx0⟩ := HS0.out.int' hol
    have hbx : bx < w.heap.size := Nat.lt_of_lt_of_le hbx hB
    have hx1 : own.getD 0 0 = x := by rw [HXR.out]; rfl
    rw [hx1, Nat.add_zero] at hx0
    clear hx1
    have h01 : 0 < own.length := hol
    have h02 : (1 : Int) ≤ ((own.length : Nat) : Int) := by omega
    have h03 : ((own.length : Nat) : Int) ≤ (cx : Int) := by omega
    have q5 : ¬ bx = w.heap.size + 1 := by omega
    have q6 : ¬ w.heap.size + 1 = bx := by omega
    by_cases hck : cx = 1
    · go_wp2
      refine region_still_tail 10 (by kernel_rfl) (by kernel_rfl) ?_
      simp only [List.take_succ_cons, List.take_zero, List.drop_succ_cons, List.drop_zero]
      iterate 10 (refine wpStill_step (fun K hK => ?_); go_simp; refine hK _ ?_; clear hK K)
      refine wpStill_nil ?_
      go_upto_region 6 with fail
      obtain ⟨w8, hw8⟩ : ∃ w8, w8 = (w6.setCell ⟨gl, p, none⟩ (.slice (some ⟨gx, 0, none⟩) (own.length - 1) (0))).drew := ⟨_, rfl⟩
      rw [← hw8]
      have hR8 : RQ w8 w.heap.size go (.slice (some ⟨gl, 0, none⟩) n lc) (.slice CA q.com.length cd) (vs.set p (.slice (some ⟨gx, 0, none⟩) (own.length - 1) (0))) ⟨q.loc.set p rest, q.com⟩ := by
        rw [hw8]
        refine HQM.out.rq.putRow (by rw [hvn.out]; exact hpn) ?_
        have h := (HQM.out.rq.2.2.2.2 p _ own hvp hxp).drop (k := 1) (A' := some ⟨gx, 0, none⟩) (by omega) (fun h => by omega)
        rw [HXR.out] at h
        simpa [HXR.out, hck] using h
      have hb8 : Below w.heap.size w w8 := by rw [hw8]; exact below_drewN (HB7.out.setCell (by show w.heap.size ≤ gl; omega) _) 1
      have hk8 : Blk w8 (w.heap.size + 1) 26 #[.slice none 0 0, .slice none 0 0] := by
        rw [hw8]
        exact HK6.out.far (p := ⟨gl, p, none⟩) (by show w.heap.size + 1 ≠ gl; exact fun e => HGL.out e.symm) _
      have hbw8 : Below w.heap.size w6 w8 := by rw [hw8]; exact below_drewN ((Below.refl _ _).setCell (by show w.heap.size ≤ gl; omega) _) 1
      have z0 : w8.cell? ⟨w.heap.size, 0, none⟩ = some (.slice (some ⟨bq, oq, none⟩) n c) := by
        have h : Blk w8 w.heap.size 26 #[.slice (some ⟨bq, oq, none⟩) n c, .slice C m d] := by rw [hw8]; exact HKQ.out.far (p := ⟨gl, p, none⟩) (by show w.heap.size ≠ gl; exact fun e => HGQ.out e.symm) _
        exact h.at_ 0 rfl
      have z1 : w8.cell? ⟨bq, oq + p, none⟩ = some (.slice (some ⟨bx, ox, none⟩) own.length c0) := (hbw8.cell (p := ⟨bq, oq + p, none⟩) hbq).trans hc0
      have z2 : w8.cell? ⟨bx, ox, none⟩ = some (.int .i64 x) := (hbw8.cell (p := ⟨bx, ox, none⟩) hbx).trans hx0
      have b8 : w8.cell? ⟨go, 0, none⟩ = some (.slice (some ⟨gl, 0, none⟩) n lc) := hR8.1.at_ 0 rfl
      have b9 : w8.cell? ⟨go, 1, none⟩ = some (.slice CA q.com.length cd) := hR8.1.at_ 1 rfl
      clear hw8 a0 a1 b0 b1 hcl6 hfr6 hc0 hx0
      have l0 : w8.cell? ⟨w.heap.size + 1, 0, none⟩ = some (.slice none 0 0) := hk8.at_ 0 rfl
      have l1 : w8.cell? ⟨w.heap.size + 1, 1, none⟩ = some (.slice none 0 0) := hk8.at_ 1 rfl
      have g0 : w8.frozen? ⟨w.heap.size + 1, 0, none⟩ = false := hk8.frozen 0
      have g1 : w8.frozen? ⟨w.heap.size + 1, 1, none⟩ = false := hk8.frozen 1
      go_wp2
      go_region_held3 (fun w' => w'.cell? ⟨go, 0, none⟩ = some (.slice (some ⟨gl, 0, none⟩) n lc) ∧ w'.cell? ⟨go, 1, none⟩ = some (.slice CA q.com.length cd) ∧ w'.cell? ⟨w.heap.size, 0, none⟩ = some (.slice (some ⟨bq, oq, none⟩) n c) ∧ w'.cell? ⟨bq, oq + p, none⟩ = some (.slice (some ⟨bx, ox, none⟩) own.length c0) ∧ w'.cell? ⟨bx, ox, none⟩ = some (.int .i64 x)) (go_keep) (fail)
      obtain ⟨w9, hw9⟩ : ∃ w9, w9 = ((w8.setCell ⟨w.heap.size + 1, 0, none⟩ (.slice (some ⟨gl, 0, none⟩) n lc)).setCell ⟨w.heap.size + 1, 1, none⟩ (.slice CA q.com.length cd)).drew := ⟨_, rfl⟩
      rw [← hw9]
      have hk9 : Blk w9 (w.heap.size + 1) 26 #[.slice (some ⟨gl, 0, none⟩) n lc, .slice CA q.com.length cd] := by rw [hw9]; exact (hk8.set_ 0 (.slice (some ⟨gl, 0, none⟩) n lc)).set_ 1 (.slice CA q.com.length cd)
      have hb9 : Below w.heap.size w w9 := by rw [hw9]; exact below_drewN ((hb8.setCell (p := ⟨w.heap.size + 1, 0, none⟩) (by show w.heap.size ≤ w.heap.size + 1; omega) _).setCell (p := ⟨w.heap.size + 1, 1, none⟩) (by show w.heap.size ≤ w.heap.size + 1; omega) _) 1
      have hq9 : RQ w9 w.heap.size go (.slice (some ⟨gl, 0, none⟩) n lc) (.slice CA q.com.length cd) (vs.set p (.slice (some ⟨gx, 0, none⟩) (own.length - 1) (0))) (⟨q.loc.set p rest, q.com⟩) := by
        rw [hw9]
        exact (hR8.other (o := 0) (u := .slice (some ⟨gl, 0, none⟩) n lc) hk8 (by omega)).other (o := 1) (u := .slice CA q.com.length cd) (hk8.set_ 0 _) (by omega)
      have e0 : w9.cell? ⟨w.heap.size + 1, 0, none⟩ = some (.slice (some ⟨gl, 0, none⟩) n lc) := hk9.at_ 0 rfl
      have e1 : w9.cell? ⟨w.heap.size + 1, 1, none⟩ = some (.slice CA q.com.length cd) := hk9.at_ 1 rfl
      go_wp2
      refine bodyPost_ret (v := .tuple #[.agg #[.slice (some ⟨gl, 0, none⟩) n lc, .slice CA q.com.length cd], .int .i64 x, .bool true]) (by simp [results, Try.results19, go_sem, e0, e1]) rfl ?_
      rw [← HRS.out, nextQ_own HV.out (by rw [← HXR.out]; exact hxp)]
      exact hq9.ret hb9
    · go_wp2
      refine region_still_tail 10 (by kernel_rfl) (by kernel_rfl) ?_
      simp only [List.take_succ_cons, List.take_zero, List.drop_succ_cons, List.drop_zero]
      iterate 10 (refine wpStill_step (fun K hK => ?_); go_simp; refine hK _ ?_; clear hK K)
      refine wpStill_nil ?_
      go_upto_region 6 with fail
      obtain ⟨w8, hw8⟩ : ∃ w8, w8 = (w6.setCell ⟨gl, p, none⟩ (.slice (some ⟨gx, 1, none⟩) (own.length - 1) (cx - 1))).drew := ⟨_, rfl⟩
      rw [← hw8]
      have hR8 : RQ w8 w.heap.size go (.slice (some ⟨gl, 0, none⟩) n lc) (.slice CA q.com.length cd) (vs.set p (.slice (some ⟨gx, 1, none⟩) (own.length - 1) (cx - 1))) ⟨q.loc.set p rest, q.com⟩ := by
        rw [hw8]
        refine HQM.out.rq.putRow (by rw [hvn.out]; exact hpn) ?_
        have h := (HQM.out.rq.2.2.2.2 p _ own hvp hxp).drop (k := 1) (A' := some ⟨gx, 1, none⟩) (by omega) (fun h => rfl)
        rw [HXR.out] at h
        simpa [HXR.out] using h
      have hb8 : Below w.heap.size w w8 := by rw [hw8]; exact below_drewN (HB7.out.setCell (by show w.heap.size ≤ gl; omega) _) 1
      have hk8 : Blk w8 (w.heap.size + 1) 26 #[.slice none 0 0, .slice none 0 0] := by
        rw [hw8]
        exact HK6.out.far (p := ⟨gl, p, none⟩) (by show w.heap.size + 1 ≠ gl; exact fun e => HGL.out e.symm) _
      have hbw8 : Below w.heap.size w6 w8 := by rw [hw8]; exact below_drewN ((Below.refl _ _).setCell (by show w.heap.size ≤ gl; omega) _) 1
      have z0 : w8.cell? ⟨w.heap.size, 0, none⟩ = some (.slice (some ⟨bq, oq, none⟩) n c) := by
        have h : Blk w8 w.heap.size 26 #[.slice (some ⟨bq, oq, none⟩) n c, .slice C m d] := by rw [hw8]; exact HKQ.out.far (p := ⟨gl, p, none⟩) (by show w.heap.size ≠ gl; exact fun e => HGQ.out e.symm) _
        exact h.at_ 0 rfl
      have z1 : w8.cell? ⟨bq, oq + p, none⟩ = some (.slice (some ⟨bx, ox, none⟩) own.length c0) := (hbw8.cell (p := ⟨bq, oq + p, none⟩) hbq).trans hc0
      have z2 : w8.cell? ⟨bx, ox, none⟩ = some (.int .i64 x) := (hbw8.cell (p := ⟨bx, ox, none⟩) hbx).trans hx0
      have b8 : w8.cell? ⟨go, 0, none⟩ = some (.slice (some ⟨gl, 0, none⟩) n lc) := hR8.1.at_ 0 rfl
      have b9 : w8.cell? ⟨go, 1, none⟩ = some (.slice CA q.com.length cd) := hR8.1.at_ 1 rfl
      clear hw8 a0 a1 b0 b1 hcl6 hfr6 hc0 hx0
      have l0 : w8.cell? ⟨w.heap.size + 1, 0, none⟩ = some (.slice none 0 0) := hk8.at_ 0 rfl
      have l1 : w8.cell? ⟨w.heap.size + 1, 1, none⟩ = some (.slice none 0 0) := hk8.at_ 1 rfl
      have g0 : w8.frozen? ⟨w.heap.size + 1, 0, none⟩ = false := hk8.frozen 0
      have g1 : w8.frozen? ⟨w.heap.size + 1, 1, none⟩ = false := hk8.frozen 1
      go_wp2
      go_region_held3 (fun w' => w'.cell? ⟨go, 0, none⟩ = some (.slice (some ⟨gl, 0, none⟩) n lc) ∧ w'.cell? ⟨go, 1, none⟩ = some (.slice CA q.com.length cd) ∧ w'.cell? ⟨w.heap.size, 0, none⟩ = some (.slice (some ⟨bq, oq, none⟩) n c) ∧ w'.cell? ⟨bq, oq + p, none⟩ = some (.slice (some ⟨bx, ox, none⟩) own.length c0) ∧ w'.cell? ⟨bx, ox, none⟩ = some (.int .i64 x)) (go_keep) (fail)
      obtain ⟨w9, hw9⟩ : ∃ w9, w9 = ((w8.setCell ⟨w.heap.size + 1, 0, none⟩ (.slice (some ⟨gl, 0, none⟩) n lc)).setCell ⟨w.heap.size + 1, 1, none⟩ (.slice CA q.com.length cd)).drew := ⟨_, rfl⟩
      rw [← hw9]
      have hk9 : Blk w9 (w.heap.size + 1) 26 #[.slice (some ⟨gl, 0, none⟩) n lc, .slice CA q.com.length cd] := by rw [hw9]; exact (hk8.set_ 0 (.slice (some ⟨gl, 0, none⟩) n lc)).set_ 1 (.slice CA q.com.length cd)
      have hb9 : Below w.heap.size w w9 := by rw [hw9]; exact below_drewN ((hb8.setCell (p := ⟨w.heap.size + 1, 0, none⟩) (by show w.heap.size ≤ w.heap.size + 1; omega) _).setCell (p := ⟨w.heap.size + 1, 1, none⟩) (by show w.heap.size ≤ w.heap.size + 1; omega) _) 1
      have hq9 : RQ w9 w.heap.size go (.slice (some ⟨gl, 0, none⟩) n lc) (.slice CA q.com.length cd) (vs.set p (.slice (some ⟨gx, 1, none⟩) (own.length - 1) (cx - 1))) (⟨q.loc.set p rest, q.com⟩) := by
        rw [hw9]
        exact (hR8.other (o := 0) (u := .slice (some ⟨gl, 0, none⟩) n lc) hk8 (by omega)).other (o := 1) (u := .slice CA q.com.length cd) (hk8.set_ 0 _) (by omega)
      have e0 : w9.cell? ⟨w.heap.size + 1, 0, none⟩ = some (.slice (some ⟨gl, 0, none⟩) n lc) := hk9.at_ 0 rfl
      have e1 : w9.cell? ⟨w.heap.size + 1, 1, none⟩ = some (.slice CA q.com.length cd) := hk9.at_ 1 rfl
      go_wp2
      refine bodyPost_ret (v := .tuple #[.agg #[.slice (some ⟨gl, 0, none⟩) n lc, .slice CA q.com.length cd], .int .i64 x, .bool true]) (by simp [results, Try.results19, go_sem, e0, e1]) rfl ?_
      rw [← HRS.out, nextQ_own HV.out (by rw [← HXR.out]; exact hxp)]
      exact hq9.ret hb9

end Go.Proofs.Ytepcbgbmmmhglaa

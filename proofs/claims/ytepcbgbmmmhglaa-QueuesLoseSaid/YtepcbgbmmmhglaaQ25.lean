/- Next: the program. -/
import Derived.Test.YtepcbgbmmmhglaaQ24
import Derived.Deep.RegionHeld3
namespace Go.Proofs.Ytepcbgbmmmhglaa
open Go.RowKit

set_option maxRecDepth 100000 in
set_option maxHeartbeats 8000000 in
theorem next_good (w : World) (B n c m d : Nat) (A C : Option Addr) (q : Qs) (p r : Nat) (own : List Int) (hl : Sl w (lt B) A n q.loc) (hc : Sl w (lt B) C m q.com) (hn : n ≤ maxLen) (hmd : m ≤ d) (hd63 : d ≤ maxLen) (hB : B ≤ w.heap.size)
    (hv : validQ q = true) (hown : q.loc[p]? = some own) (hr63 : r < 2 ^ 63) (res : Option (Qs × Int)) (hres : nextQ q p r = res) :
    Calls Try.prog 18 #[.agg #[.slice A n c, .slice C m d], .int .i64 p, .int .i64 r] w (RetNext res w) := by
  have hll : Hid (q.loc.length = n) := hl.1
  have hcl : Hid (q.com.length = m) := hc.1
  have hpn : p < n := by rw [← hll.out]; exact (List.getElem?_eq_some_iff.1 hown).1
  have hn4 : n ≤ 4 := by rw [← hll.out]; exact (valid_loc hv).2.1
  have hm8 : m ≤ 8 := by rw [← hcl.out]; exact valid_com hv
  have HRS := Lib.hid hres
  have HR := Lib.hid (valid_row8 hv)
  have HV := Lib.hid hv
  have HOW := Lib.hid hown
  clear hv hown hres
  unfold maxLen at hn
  have d1 : decide ((p : Int) < 0) = false := decide_eq_false (by omega)
  have d2 : decide ((n : Int) ≤ (p : Int)) = false := decide_eq_false (by omega)
  have d3 : decide ((r : Int) < 0) = false := decide_eq_false (by omega)
  have hp0 : (0 : Int) ≤ (p : Int) := Int.natCast_nonneg _
  have hp1 : (p : Int) < (n : Int) := by omega
  go_enter Try.func18, Try.ntmps18
  go_upto_region 1 with fail
  obtain ⟨w0, hw0⟩ : ∃ w0, w0 = (w.alloc (.cells #[.slice A n c, .slice C m d] 26)).alloc (.cells #[.slice none 0 0, .slice none 0 0] 26) := ⟨_, rfl⟩
  rw [← hw0]
  have hb0 : Below w.heap.size w w0 := by rw [hw0]; exact ((Below.refl _ _).alloc (Nat.le_refl _) _).alloc (by simp) _
  have hk0 : Blk w0 w.heap.size 26 #[.slice A n c, .slice C m d] := by rw [hw0]; exact (Blk.new _ _ _).alloc _
  have hk1 : Blk w0 (w.heap.size + 1) 26 #[.slice none 0 0, .slice none 0 0] := by rw [hw0]; exact heap_alloc_new' _ _ (by simp)
  clear hw0
  have a0 : w0.cell? ⟨w.heap.size, 0, none⟩ = some (.slice A n c) := hk0.at_ 0 rfl
  have a1 : w0.cell? ⟨w.heap.size, 1, none⟩ = some (.slice C m d) := hk0.at_ 1 rfl
  have hz0 := hb0.size
  go_wp2_with fail
  refine (valid_b w0 B n c m d A C HV.out (hl.below (hb0.mono hB)) (hc.below (hb0.mono hB)) hmd hd63 (Nat.le_trans hB hz0)).mono ?_
  rintro e w1 ⟨rfl, hb1⟩
  have hk0' := hk0.below hb1 hk0.lt
  have hk1' := hk1.below hb1 hk1.lt
  have hb2 : Below w.heap.size w w1 := hb0.trans (hb1.mono hz0)
  have hk0 := hk0'
  have hk1 := hk1'
  have hz2 := hb2.size
  clear a0 a1 hk0' hk1'
  have a0 : w1.cell? ⟨w.heap.size, 0, none⟩ = some (.slice A n c) := hk0.at_ 0 rfl
  have a1 : w1.cell? ⟨w.heap.size, 1, none⟩ = some (.slice C m d) := hk0.at_ 1 rfl
  go_wp2_with fail
  refine (qclone_any w1 B n c m d A C q (hl.below (hb2.mono hB)) (hc.below (hb2.mono hB)) (by omega) (by omega) HR.out (Nat.le_trans hB hz2)).mono ?_
  rintro e w5 ⟨v5, rfl, hb5, lv, cv, vs, rfl, hlo5, hr5⟩
  obtain ⟨LA, lc, rfl, hlc, hlc63, -⟩ := hlo5.slice
  obtain ⟨CA, cd, rfl, hcd, hcd63, -⟩ := (hr5.2.1 0 cv q.com rfl rfl).slice
  have hbx := hk0.below hb5 hk0.lt
  have hk1' := hk1.below hb5 hk1.lt
  have hb6 : Below w.heap.size w w5 := hb2.trans (hb5.mono hz2)
  clear a0 a1 hk0 hk1
  have a0 : w5.cell? ⟨w.heap.size, 0, none⟩ = some (.slice A n c) := hbx.at_ 0 rfl
  have a1 : w5.cell? ⟨w.heap.size, 1, none⟩ = some (.slice C m d) := hbx.at_ 1 rfl
  have f0 : w5.frozen? ⟨w.heap.size, 0, none⟩ = false := hbx.frozen 0
  have f1 : w5.frozen? ⟨w.heap.size, 1, none⟩ = false := hbx.frozen 1
  have hz5 := hb6.size
  go_upto_region 4 with fail
  obtain ⟨w6, hw6⟩ : ∃ w6, w6 = (w5.setCell ⟨w.heap.size, 0, none⟩ (.slice LA vs.length lc)).setCell ⟨w.heap.size, 1, none⟩ (.slice CA q.com.length cd) := ⟨_, rfl⟩
  rw [← hw6]
  have hQ : QM w6 w.heap.size w.heap.size (.slice LA vs.length lc) (.slice CA q.com.length cd) vs q := by
    rw [hw6]
    exact QM.boxed hbx (hlo5.base hz2) ⟨hr5.1, fun i v xs hv hx => (hr5.2.1 i v xs hv hx).base hz2, hr5.2.2⟩
  have hk6 : Blk w6 (w.heap.size + 1) 26 #[.slice none 0 0, .slice none 0 0] := by
    rw [hw6]
    exact (hk1'.far (p := ⟨w.heap.size, 0, none⟩) (by show w.heap.size + 1 ≠ w.heap.size; omega) _).far (p := ⟨w.heap.size, 1, none⟩) (by show w.heap.size + 1 ≠ w.heap.size; omega) _
  have hb7 : Below w.heap.size w w6 := by rw [hw6]; exact (hb6.setCell (Nat.le_refl _) _).setCell (Nat.le_refl _) _
  clear hw6 a0 a1 f0 f1 hk1' hbx hlo5 hr5
  have hvn : Hid (vs.length = n) := Lib.hid (hQ.len.trans hll.out)
  obtain ⟨gl, lc', X, xs, cx, hlv, hvp, hxp, hcl6, hfr6, hox, hgl1, hgl2, hgl3, hlc', hlc'', hcx, hcx'⟩ := hQ.row (p := p) (by rw [hll.out]; exact hpn)
  injection hlv with hlv1 hlv2 hlv3
  subst hlv1
  subst hlv3
  obtain rfl : own = xs := Option.some.inj (HOW.out.symm.trans hxp)
  rw [hQ.len, hll.out] at hQ
  have b0 : w6.cell? ⟨w.heap.size, 0, none⟩ = some (.slice (some ⟨gl, 0, none⟩) n lc) := hQ.1.at_ 0 rfl
  have b1 : w6.cell? ⟨w.heap.size, 1, none⟩ = some (.slice CA q.com.length cd) := hQ.1.at_ 1 rfl
  have hx4 : own.length ≤ 4 := valid_row HV.out (List.mem_of_getElem? hxp)
  have HQM := Lib.hid hQ
  have HGL : Hid (gl ≠ w.heap.size + 1) := fun e => hQ.2.1.ne hk6 (by decide) (by rw [← e]; rfl)
  clear hQ
  go_upto_region 5 with fail
  obtain ⟨w7, hw7⟩ : ∃ w7, w7 = w6.alloc (.cells #[.pointer (some ⟨gl, p, none⟩), .pointer (some ⟨w.heap.size, 1, none⟩)] 45) := ⟨_, rfl⟩
  obtain ⟨gq, hgq⟩ : ∃ gq, gq = w6.heap.size := ⟨_, rfl⟩
  rw [← hw7, ← hgq]
  have hq7 : Blk w7 gq 45 #[.pointer (some ⟨gl, p, none⟩), .pointer (some ⟨w.heap.size, 1, none⟩)] := by rw [hw7]; exact heap_alloc_new' _ _ hgq
  have hR7 : RQ w7 w.heap.size w.heap.size (.slice (some ⟨gl, 0, none⟩) n lc) (.slice CA q.com.length cd) vs q := by rw [hw7]; exact (HQM.out.ext ((Below.refl w6.heap.size w6).alloc (Nat.le_refl _) _)).rq
  have hM7 : QM w7 w.heap.size w.heap.size (.slice (some ⟨gl, 0, none⟩) n lc) (.slice CA q.com.length cd) vs q := by rw [hw7]; exact HQM.out.ext ((Below.refl w6.heap.size w6).alloc (Nat.le_refl _) _)
  have HB7 : Hid (Below w.heap.size w w7) := by rw [hw7]; exact hb7.alloc hb7.size _
  have HK7 : Hid (Blk w7 (w.heap.size + 1) 26 #[.slice none 0 0, .slice none 0 0]) := by rw [hw7]; exact hk6.alloc _
  have HR7 := Lib.hid hR7
  have HM7 := Lib.hid hM7
  clear hw7 hgq hb7 hk6 hcl6 hfr6 b0 b1 hox HQM
  have p0 : w7.cell? ⟨gq, 0, none⟩ = some (.pointer (some ⟨gl, p, none⟩)) := hq7.at_ 0 rfl
  have p1 : w7.cell? ⟨gq, 1, none⟩ = some (.pointer (some ⟨w.heap.size, 1, none⟩)) := hq7.at_ 1 rfl
  obtain ⟨x0, x0f⟩ := hR7.cell hvp
  have b0 : w7.cell? ⟨w.heap.size, 0, none⟩ = some (.slice (some ⟨gl, 0, none⟩) n lc) := hR7.1.at_ 0 rfl
  have b1 : w7.cell? ⟨w.heap.size, 1, none⟩ = some (.slice CA q.com.length cd) := hR7.1.at_ 1 rfl
  have b1f : w7.frozen? ⟨w.heap.size, 1, none⟩ = false := hR7.1.frozen 1
  clear hR7 hM7 hq7
  go_loop [45, 10] (fun i _ => ∃ j : Nat, j ≤ 2 ∧ i = .int .i64 j ∧ (0 < j → own.length = 0) ∧ (1 < j → q.com.length = 0)) (fun i _ => 2 - (intOf i).toNat)
  case atStart => exact ⟨0, by omega, rfl, fun h => absurd h (by omega), fun h => absurd h (by omega)⟩
  case round =>
    obtain ⟨j, hj, rfl, hj1, hj2⟩ := hrel
    have HJ1 := Lib.hid hj1
    have HJ2 := Lib.hid hj2
    clear hj1 hj2
    rcases (by omega : j = 0 ∨ j = 1 ∨ j = 2) with rfl | rfl | rfl
    · by_cases hol : own.length = 0
      · have HOL := Lib.hid hol
        rw [hol] at x0
        clear hol
        go_wp2
        go_round
        case rel => exact ⟨1, by omega, by go_num, fun _ => HOL.out, fun h => absurd h (by omega)⟩
        case measure => simp [intOf]
      · obtain ⟨x, rest, hXR⟩ : ∃ x rest, own = x :: rest := by
          cases own with
          | nil => exact absurd rfl hol
          | cons x rest => exact ⟨x, rest, rfl⟩
        have HXR := Lib.hid hXR
        have hol : 0 < own.length := Nat.pos_of_ne_zero hol
        clear hXR
        have hoxx := HM7.out.2.2.2.1 (p + 1) _ own (by simpa using hvp) (by simpa using hxp)
        obtain ⟨gx, curx, rfl, hgx1, hgx2, hbx, hgs⟩ := hoxx.blk rfl hol
        obtain ⟨XA, XC, e10, -, -, hsl⟩ := hoxx.sl false_lt
        injection e10 with e10 e10b e10c
        subst e10
        subst e10c
        obtain ⟨bx, ox, e11, -, hcx0⟩ := hsl.int' hol
        injection e11 with e11
        injection e11 with e11 e12
        subst e11
        subst e12
        have hx0 : own.getD 0 0 = x := by rw [HXR.out]; rfl
        rw [hx0, Nat.add_zero] at hcx0
        have h01 : (0 : Int) < ((own.length : Nat) : Int) := by omega
        have h02 : (1 : Int) ≤ ((own.length : Nat) : Int) := by omega
        have h03 : ((own.length : Nat) : Int) ≤ (cx : Int) := by omega
        clear hoxx hbx hsl hx0
        by_cases hck : cx = 1
        · go_upto_region 10 with fail
          obtain ⟨w8, hw8⟩ : ∃ w8, w8 = w7.setCell ⟨gl, p, none⟩ (.slice (some ⟨gx, 0, none⟩) (own.length - 1) (0)) := ⟨_, rfl⟩
          rw [← hw8]
          have hR8 : RQ w8 w.heap.size w.heap.size (.slice (some ⟨gl, 0, none⟩) n lc) (.slice CA q.com.length cd) (vs.set p (.slice (some ⟨gx, 0, none⟩) (own.length - 1) (0))) ⟨q.loc.set p rest, q.com⟩ := by
            rw [hw8]
            refine HR7.out.putRow (by rw [hvn.out]; exact hpn) ?_
            have h := (HR7.out.2.2.2.2 p _ own hvp hxp).drop (k := 1) (A' := some ⟨gx, 0, none⟩) (by omega) (fun h => by omega)
            rw [HXR.out] at h
            simpa [HXR.out, hck] using h
          have hb8 : Below w.heap.size w w8 := by rw [hw8]; exact HB7.out.setCell (by show w.heap.size ≤ gl; omega) _
          have hk8 : Blk w8 (w.heap.size + 1) 26 #[.slice none 0 0, .slice none 0 0] := by
            rw [hw8]
            exact HK7.out.far (p := ⟨gl, p, none⟩) (by show w.heap.size + 1 ≠ gl; exact fun e => HGL.out e.symm) _
          clear hw8
          have r0 : w8.cell? ⟨w.heap.size, 0, none⟩ = some (.slice (some ⟨gl, 0, none⟩) n lc) := hR8.1.at_ 0 rfl
          have r1 : w8.cell? ⟨w.heap.size, 1, none⟩ = some (.slice CA q.com.length cd) := hR8.1.at_ 1 rfl
          have l0 : w8.cell? ⟨w.heap.size + 1, 0, none⟩ = some (.slice none 0 0) := hk8.at_ 0 rfl
          have l1 : w8.cell? ⟨w.heap.size + 1, 1, none⟩ = some (.slice none 0 0) := hk8.at_ 1 rfl
          have g0 : w8.frozen? ⟨w.heap.size + 1, 0, none⟩ = false := hk8.frozen 0
          have g1 : w8.frozen? ⟨w.heap.size + 1, 1, none⟩ = false := hk8.frozen 1
          go_wp2
          have hk9 := (hk8.set_ 0 (.slice (some ⟨gl, 0, none⟩) n lc)).set_ 1 (.slice CA q.com.length cd)
          have hb9 := (hb8.setCell (p := ⟨w.heap.size + 1, 0, none⟩) (by show w.heap.size ≤ w.heap.size + 1; omega) (.slice (some ⟨gl, 0, none⟩) n lc)).setCell (p := ⟨w.heap.size + 1, 1, none⟩) (by show w.heap.size ≤ w.heap.size + 1; omega) (.slice CA q.com.length cd)
          have hq9 := (hR8.other (o := 0) (u := .slice (some ⟨gl, 0, none⟩) n lc) hk8 (by omega)).other (o := 1) (u := .slice CA q.com.length cd) (hk8.set_ 0 _) (by omega)
          obtain ⟨w9, hw9⟩ : ∃ w9, w9 = (w8.setCell ⟨w.heap.size + 1, 0, none⟩ (.slice (some ⟨gl, 0, none⟩) n lc)).setCell ⟨w.heap.size + 1, 1, none⟩ (.slice CA q.com.length cd) := ⟨_, rfl⟩
          rw [← hw9] at hk9 hb9 hq9 ⊢
          have e0 : w9.cell? ⟨w.heap.size + 1, 0, none⟩ = some (.slice (some ⟨gl, 0, none⟩) n lc) := hk9.at_ 0 rfl
          have e1 : w9.cell? ⟨w.heap.size + 1, 1, none⟩ = some (.slice CA q.com.length cd) := hk9.at_ 1 rfl
          refine bodyPost_ret (v := .tuple #[.agg #[.slice (some ⟨gl, 0, none⟩) n lc, .slice CA q.com.length cd], .int .i64 x, .bool true]) (by simp [results, Try.results18, go_sem, e0, e1]) rfl ?_
          rw [← HRS.out, nextQ_own HV.out (by rw [← HXR.out]; exact hxp)]
          exact hq9.ret hb9
        · go_upto_region 10 with fail
          obtain ⟨w8, hw8⟩ : ∃ w8, w8 = w7.setCell ⟨gl, p, none⟩ (.slice (some ⟨gx, 1, none⟩) (own.length - 1) (cx - 1)) := ⟨_, rfl⟩
          rw [← hw8]
          have hR8 : RQ w8 w.heap.size w.heap.size (.slice (some ⟨gl, 0, none⟩) n lc) (.slice CA q.com.length cd) (vs.set p (.slice (some ⟨gx, 1, none⟩) (own.length - 1) (cx - 1))) ⟨q.loc.set p rest, q.com⟩ := by
            rw [hw8]
            refine HR7.out.putRow (by rw [hvn.out]; exact hpn) ?_
            have h := (HR7.out.2.2.2.2 p _ own hvp hxp).drop (k := 1) (A' := some ⟨gx, 1, none⟩) (by omega) (fun h => rfl)
            rw [HXR.out] at h
            simpa [HXR.out] using h
          have hb8 : Below w.heap.size w w8 := by rw [hw8]; exact HB7.out.setCell (by show w.heap.size ≤ gl; omega) _
          have hk8 : Blk w8 (w.heap.size + 1) 26 #[.slice none 0 0, .slice none 0 0] := by
            rw [hw8]
            exact HK7.out.far (p := ⟨gl, p, none⟩) (by show w.heap.size + 1 ≠ gl; exact fun e => HGL.out e.symm) _
          clear hw8
          have r0 : w8.cell? ⟨w.heap.size, 0, none⟩ = some (.slice (some ⟨gl, 0, none⟩) n lc) := hR8.1.at_ 0 rfl
          have r1 : w8.cell? ⟨w.heap.size, 1, none⟩ = some (.slice CA q.com.length cd) := hR8.1.at_ 1 rfl
          have l0 : w8.cell? ⟨w.heap.size + 1, 0, none⟩ = some (.slice none 0 0) := hk8.at_ 0 rfl
          have l1 : w8.cell? ⟨w.heap.size + 1, 1, none⟩ = some (.slice none 0 0) := hk8.at_ 1 rfl
          have g0 : w8.frozen? ⟨w.heap.size + 1, 0, none⟩ = false := hk8.frozen 0
          have g1 : w8.frozen? ⟨w.heap.size + 1, 1, none⟩ = false := hk8.frozen 1
          go_wp2
          have hk9 := (hk8.set_ 0 (.slice (some ⟨gl, 0, none⟩) n lc)).set_ 1 (.slice CA q.com.length cd)
          have hb9 := (hb8.setCell (p := ⟨w.heap.size + 1, 0, none⟩) (by show w.heap.size ≤ w.heap.size + 1; omega) (.slice (some ⟨gl, 0, none⟩) n lc)).setCell (p := ⟨w.heap.size + 1, 1, none⟩) (by show w.heap.size ≤ w.heap.size + 1; omega) (.slice CA q.com.length cd)
          have hq9 := (hR8.other (o := 0) (u := .slice (some ⟨gl, 0, none⟩) n lc) hk8 (by omega)).other (o := 1) (u := .slice CA q.com.length cd) (hk8.set_ 0 _) (by omega)
          obtain ⟨w9, hw9⟩ : ∃ w9, w9 = (w8.setCell ⟨w.heap.size + 1, 0, none⟩ (.slice (some ⟨gl, 0, none⟩) n lc)).setCell ⟨w.heap.size + 1, 1, none⟩ (.slice CA q.com.length cd) := ⟨_, rfl⟩
          rw [← hw9] at hk9 hb9 hq9 ⊢
          have e0 : w9.cell? ⟨w.heap.size + 1, 0, none⟩ = some (.slice (some ⟨gl, 0, none⟩) n lc) := hk9.at_ 0 rfl
          have e1 : w9.cell? ⟨w.heap.size + 1, 1, none⟩ = some (.slice CA q.com.length cd) := hk9.at_ 1 rfl
          refine bodyPost_ret (v := .tuple #[.agg #[.slice (some ⟨gl, 0, none⟩) n lc, .slice CA q.com.length cd], .int .i64 x, .bool true]) (by simp [results, Try.results18, go_sem, e0, e1]) rfl ?_
          rw [← HRS.out, nextQ_own HV.out (by rw [← HXR.out]; exact hxp)]
          exact hq9.ret hb9
    · by_cases hol : q.com.length = 0
      · have HOL := Lib.hid hol
        rw [hol] at b1
        clear hol
        go_wp2
        go_round
        case rel => exact ⟨2, by omega, by go_num, fun _ => HJ1.out (by omega), fun _ => HOL.out⟩
        case measure => simp [intOf]
      · obtain ⟨x, rest, hXR⟩ : ∃ x rest, q.com = x :: rest := by
          cases hcc : q.com with
          | nil => rw [hcc] at hol; exact absurd rfl hol
          | cons x rest => exact ⟨x, rest, rfl⟩
        have HXR := Lib.hid hXR
        have hol : 0 < q.com.length := Nat.pos_of_ne_zero hol
        clear hXR
        obtain ⟨-, -, -, -, -, hoxx⟩ := HM7.out.com
        obtain ⟨gx, curx, rfl, hgx1, hgx2, hbx, hgs⟩ := hoxx.blk rfl hol
        obtain ⟨XA, XC, e10, -, -, hsl⟩ := hoxx.sl false_lt
        injection e10 with e10 e10b e10c
        subst e10
        subst e10c
        obtain ⟨bx, ox, e11, -, hcx0⟩ := hsl.int' hol
        injection e11 with e11
        injection e11 with e11 e12
        subst e11
        subst e12
        have hx0 : q.com.getD 0 0 = x := by rw [HXR.out]; rfl
        rw [hx0, Nat.add_zero] at hcx0
        have h01 : (0 : Int) < ((q.com.length : Nat) : Int) := by omega
        have h02 : (1 : Int) ≤ ((q.com.length : Nat) : Int) := by omega
        have h03 : ((q.com.length : Nat) : Int) ≤ (cd : Int) := by omega
        clear hoxx hbx hsl hx0
        by_cases hck : cd = 1
        · go_upto_region 10 with fail
          obtain ⟨w8, hw8⟩ : ∃ w8, w8 = w7.setCell ⟨w.heap.size, 1, none⟩ (.slice (some ⟨gx, 0, none⟩) (q.com.length - 1) (0)) := ⟨_, rfl⟩
          rw [← hw8]
          have hR8 : RQ w8 w.heap.size w.heap.size (.slice (some ⟨gl, 0, none⟩) n lc) (.slice (some ⟨gx, 0, none⟩) (q.com.length - 1) (0)) vs ⟨q.loc, rest⟩ := by
            rw [hw8]
            refine HR7.out.putCom ?_
            have h := HR7.out.2.2.2.1.drop (k := 1) (A' := some ⟨gx, 0, none⟩) (by omega) (fun h => by omega)
            rw [HXR.out] at h
            simpa [HXR.out, hck] using h
          have hb8 : Below w.heap.size w w8 := by rw [hw8]; exact HB7.out.setCell (Nat.le_refl _) _
          have hk8 : Blk w8 (w.heap.size + 1) 26 #[.slice none 0 0, .slice none 0 0] := by
            rw [hw8]
            exact HK7.out.far (p := ⟨w.heap.size, 1, none⟩) (by show w.heap.size + 1 ≠ w.heap.size; omega) _
          clear hw8 b0 b1 b1f
          have r0 : w8.cell? ⟨w.heap.size, 0, none⟩ = some (.slice (some ⟨gl, 0, none⟩) n lc) := hR8.1.at_ 0 rfl
          have r1 : w8.cell? ⟨w.heap.size, 1, none⟩ = some (.slice (some ⟨gx, 0, none⟩) (q.com.length - 1) (0)) := hR8.1.at_ 1 rfl
          have l0 : w8.cell? ⟨w.heap.size + 1, 0, none⟩ = some (.slice none 0 0) := hk8.at_ 0 rfl
          have l1 : w8.cell? ⟨w.heap.size + 1, 1, none⟩ = some (.slice none 0 0) := hk8.at_ 1 rfl
          have g0 : w8.frozen? ⟨w.heap.size + 1, 0, none⟩ = false := hk8.frozen 0
          have g1 : w8.frozen? ⟨w.heap.size + 1, 1, none⟩ = false := hk8.frozen 1
          go_wp2
          have hk9 := (hk8.set_ 0 (.slice (some ⟨gl, 0, none⟩) n lc)).set_ 1 (.slice (some ⟨gx, 0, none⟩) (q.com.length - 1) (0))
          have hb9 := (hb8.setCell (p := ⟨w.heap.size + 1, 0, none⟩) (by show w.heap.size ≤ w.heap.size + 1; omega) (.slice (some ⟨gl, 0, none⟩) n lc)).setCell (p := ⟨w.heap.size + 1, 1, none⟩) (by show w.heap.size ≤ w.heap.size + 1; omega) (.slice (some ⟨gx, 0, none⟩) (q.com.length - 1) (0))
          have hq9 := (hR8.other (o := 0) (u := .slice (some ⟨gl, 0, none⟩) n lc) hk8 (by omega)).other (o := 1) (u := .slice (some ⟨gx, 0, none⟩) (q.com.length - 1) (0)) (hk8.set_ 0 _) (by omega)
          obtain ⟨w9, hw9⟩ : ∃ w9, w9 = (w8.setCell ⟨w.heap.size + 1, 0, none⟩ (.slice (some ⟨gl, 0, none⟩) n lc)).setCell ⟨w.heap.size + 1, 1, none⟩ (.slice (some ⟨gx, 0, none⟩) (q.com.length - 1) (0)) := ⟨_, rfl⟩
          rw [← hw9] at hk9 hb9 hq9 ⊢
          have e0 : w9.cell? ⟨w.heap.size + 1, 0, none⟩ = some (.slice (some ⟨gl, 0, none⟩) n lc) := hk9.at_ 0 rfl
          have e1 : w9.cell? ⟨w.heap.size + 1, 1, none⟩ = some (.slice (some ⟨gx, 0, none⟩) (q.com.length - 1) (0)) := hk9.at_ 1 rfl
          refine bodyPost_ret (v := .tuple #[.agg #[.slice (some ⟨gl, 0, none⟩) n lc, .slice (some ⟨gx, 0, none⟩) (q.com.length - 1) (0)], .int .i64 x, .bool true]) (by simp [results, Try.results18, go_sem, e0, e1]) rfl ?_
          rw [← HRS.out, nextQ_com HV.out (by rw [← List.eq_nil_of_length_eq_zero (HJ1.out (by omega))]; exact hxp) HXR.out]
          exact hq9.ret hb9
        · go_upto_region 10 with fail
          obtain ⟨w8, hw8⟩ : ∃ w8, w8 = w7.setCell ⟨w.heap.size, 1, none⟩ (.slice (some ⟨gx, 1, none⟩) (q.com.length - 1) (cd - 1)) := ⟨_, rfl⟩
          rw [← hw8]
          have hR8 : RQ w8 w.heap.size w.heap.size (.slice (some ⟨gl, 0, none⟩) n lc) (.slice (some ⟨gx, 1, none⟩) (q.com.length - 1) (cd - 1)) vs ⟨q.loc, rest⟩ := by
            rw [hw8]
            refine HR7.out.putCom ?_
            have h := HR7.out.2.2.2.1.drop (k := 1) (A' := some ⟨gx, 1, none⟩) (by omega) (fun h => rfl)
            rw [HXR.out] at h
            simpa [HXR.out] using h
          have hb8 : Below w.heap.size w w8 := by rw [hw8]; exact HB7.out.setCell (Nat.le_refl _) _
          have hk8 : Blk w8 (w.heap.size + 1) 26 #[.slice none 0 0, .slice none 0 0] := by
            rw [hw8]
            exact HK7.out.far (p := ⟨w.heap.size, 1, none⟩) (by show w.heap.size + 1 ≠ w.heap.size; omega) _
          clear hw8 b0 b1 b1f
          have r0 : w8.cell? ⟨w.heap.size, 0, none⟩ = some (.slice (some ⟨gl, 0, none⟩) n lc) := hR8.1.at_ 0 rfl
          have r1 : w8.cell? ⟨w.heap.size, 1, none⟩ = some (.slice (some ⟨gx, 1, none⟩) (q.com.length - 1) (cd - 1)) := hR8.1.at_ 1 rfl
          have l0 : w8.cell? ⟨w.heap.size + 1, 0, none⟩ = some (.slice none 0 0) := hk8.at_ 0 rfl
          have l1 : w8.cell? ⟨w.heap.size + 1, 1, none⟩ = some (.slice none 0 0) := hk8.at_ 1 rfl
          have g0 : w8.frozen? ⟨w.heap.size + 1, 0, none⟩ = false := hk8.frozen 0
          have g1 : w8.frozen? ⟨w.heap.size + 1, 1, none⟩ = false := hk8.frozen 1
          go_wp2
          have hk9 := (hk8.set_ 0 (.slice (some ⟨gl, 0, none⟩) n lc)).set_ 1 (.slice (some ⟨gx, 1, none⟩) (q.com.length - 1) (cd - 1))
          have hb9 := (hb8.setCell (p := ⟨w.heap.size + 1, 0, none⟩) (by show w.heap.size ≤ w.heap.size + 1; omega) (.slice (some ⟨gl, 0, none⟩) n lc)).setCell (p := ⟨w.heap.size + 1, 1, none⟩) (by show w.heap.size ≤ w.heap.size + 1; omega) (.slice (some ⟨gx, 1, none⟩) (q.com.length - 1) (cd - 1))
          have hq9 := (hR8.other (o := 0) (u := .slice (some ⟨gl, 0, none⟩) n lc) hk8 (by omega)).other (o := 1) (u := .slice (some ⟨gx, 1, none⟩) (q.com.length - 1) (cd - 1)) (hk8.set_ 0 _) (by omega)
          obtain ⟨w9, hw9⟩ : ∃ w9, w9 = (w8.setCell ⟨w.heap.size + 1, 0, none⟩ (.slice (some ⟨gl, 0, none⟩) n lc)).setCell ⟨w.heap.size + 1, 1, none⟩ (.slice (some ⟨gx, 1, none⟩) (q.com.length - 1) (cd - 1)) := ⟨_, rfl⟩
          rw [← hw9] at hk9 hb9 hq9 ⊢
          have e0 : w9.cell? ⟨w.heap.size + 1, 0, none⟩ = some (.slice (some ⟨gl, 0, none⟩) n lc) := hk9.at_ 0 rfl
          have e1 : w9.cell? ⟨w.heap.size + 1, 1, none⟩ = some (.slice (some ⟨gx, 1, none⟩) (q.com.length - 1) (cd - 1)) := hk9.at_ 1 rfl
          refine bodyPost_ret (v := .tuple #[.agg #[.slice (some ⟨gl, 0, none⟩) n lc, .slice (some ⟨gx, 1, none⟩) (q.com.length - 1) (cd - 1)], .int .i64 x, .bool true]) (by simp [results, Try.results18, go_sem, e0, e1]) rfl ?_
          rw [← HRS.out, nextQ_com HV.out (by rw [← List.eq_nil_of_length_eq_zero (HJ1.out (by omega))]; exact hxp) HXR.out]
          exact hq9.ret hb9
    · have HOE : Hid (own = []) := List.eq_nil_of_length_eq_zero (HJ1.out (by omega))
      have HCE : Hid (q.com = []) := List.eq_nil_of_length_eq_zero (HJ2.out (by omega))
      go_upto_region 13 with fail
      clear p0 p1 x0 x0f b1 b1f
      go_wp2
      go_loopw [72, 14, 13] (fun i _ _ wr => ∃ k : Nat, k ≤ n ∧ i = .int .i64 k ∧ (∀ j, j < k → q.loc.getD (victim n r j) [] = []) ∧ ∃ e, wr = w7.drewN e) (fun i _ _ _ => n - (intOf i).toNat)
      case atStart => exact ⟨0, Nat.zero_le _, rfl, fun j hj => absurd hj (by omega), 0, rfl⟩
      case round =>
        obtain ⟨k, hk, rfl, hno, e, rfl⟩ := hrel
        have HN := Lib.hid hno
        clear hno
        by_cases hlt : k < n
        · have hn0 : ¬ n = 0 := by omega
          have hve := victim_eq (r := r) (by omega) hn4 hlt
          obtain ⟨v, hv⟩ : ∃ v, v = victim n r k := ⟨_, rfl⟩
          have hvl : v < n := by rw [hv]; exact Nat.mod_lt _ (by omega)
          have hv0 : (0 : Int) ≤ (v : Int) := Int.natCast_nonneg _
          have hv1 : (v : Int) < (n : Int) := by omega
          rw [← hv] at hve
          have HVK := Lib.hid hv
          clear hv
          obtain ⟨gl', lc', Y, ys, cy, hlv', hvy, hyq, hcy, hfy, hoy, hgy1, hgy2, hgy3, hly, hly', hcy', hcy''⟩ := HM7.out.row (p := v) (by rw [hll.out]; exact hvl)
          injection hlv' with hlv1 hlv8 hlv3
          injection hlv1 with hlv1
          injection hlv1 with hlv1
          subst hlv1
          subst hlv3
          clear hlv8 hcy hfy
          have HRD := Lib.hid hoy.rd
          obtain ⟨xv, xvf⟩ := HR7.out.cell hvy
          have HOY := Lib.hid hoy
          clear hoy
          go_wp2
          go_quiet (fail)
          obtain ⟨e2, he2⟩ : ∃ e2, e2 = e + nq := ⟨_, rfl⟩
          rw [World.drewN_drewN, ← he2]
          clear he2
          by_cases hy0 : ys.length = 0
          · have HY0 : Hid (q.loc.getD v [] = []) := by
              refine Lib.hid ?_
              rw [List.getD_eq_getElem?_getD, hyq]
              exact List.eq_nil_of_length_eq_zero hy0
            rw [hy0] at xv
            clear hy0
            go_wp2
            go_roundw
            case rel =>
              refine ⟨k + 1, by omega, by go_num, fun j hj => ?_, _, rfl⟩
              rcases Nat.lt_or_ge j k with h | h
              · exact HN.out j h
              · obtain rfl : j = k := by omega
                rw [← HVK.out]
                exact HY0.out
            case measure => simp [intOf]; omega
          · have hyb : ((ys.length : Int) == 0) = false := by simpa using hy0
            have hyp : 0 < ys.length := Nat.pos_of_ne_zero hy0
            obtain ⟨gy, cury, rfl, hgy4, hgy5, hby, hgys⟩ := HOY.out.blk rfl hyp
            have HGY : Hid (gy ≠ w.heap.size + 1) := fun e => HOY.out.ne HK7.out (by decide) (by rw [← e]; rfl)
            have hpv : ¬ p = v := by
              intro e
              subst e
              rw [hxp] at hyq
              have := Option.some.inj hyq
              rw [← this, HOE.out] at hyp
              exact absurd hyp (by simp)
            have hy4 := valid_row HV.out (List.mem_of_getElem? hyq)
            obtain ⟨hN, hhN⟩ : ∃ hN, hN = halfUp ys := ⟨_, rfl⟩
            have hN1 : 1 ≤ hN := by rw [hhN]; exact halfUp_pos hyp
            have hN2 : hN ≤ ys.length := by rw [hhN]; exact halfUp_le ys
            have hh1 : IntKind.i64.wrap ((ys.length : Int) / 2) = (ys.length : Int) / 2 := IntWalk.i64_in _ (by omega)
            have hh2 : IntKind.i64.wrap ((ys.length : Int) - (ys.length : Int) / 2) = (hN : Int) := by
              rw [IntWalk.i64_in _ (by omega), hhN]
              unfold halfUp
              omega
            have HHN := Lib.hid hhN
            have k0 : (0 : Int) ≤ (hN : Int) := Int.natCast_nonneg _
            have k1 : (hN : Int) ≤ (cy : Int) := by omega
            have k2 : (hN : Int) ≤ (ys.length : Int) := by omega
            have k3 : (1 : Int) ≤ (hN : Int) := by omega
            have k4 : (0 : Int) < (hN : Int) := by omega
            have k5 : 0 < hN := by omega
            clear hy0 hby hhN
            go_wp2
            go_quiet (fail)
            obtain ⟨wd, hwd⟩ : ∃ wd, wd = (w7.drewN e2).drewN nq := ⟨_, rfl⟩
            rw [← hwd]
            have HRd : Hid (RQ wd w.heap.size w.heap.size (.slice (some ⟨gl, 0, none⟩) n lc) (.slice CA q.com.length cd) vs q) := by rw [hwd]; exact HR7.out
            have HRY : Hid (Rd wd (.slice (some ⟨gy, 0, none⟩) ys.length cy) ys) := by rw [hwd]; exact HRD.out
            have HBd : Hid (Below w.heap.size w wd) := by rw [hwd]; exact below_drewN (below_drewN HB7.out _) _
            have HKd : Hid (Blk wd (w.heap.size + 1) 26 #[.slice none 0 0, .slice none 0 0]) := by rw [hwd]; exact HK7.out
            clear hwd xv xvf b0
            obtain ⟨xv, xvf⟩ := HRd.out.cell hvy
            have b0 : wd.cell? ⟨w.heap.size, 0, none⟩ = some (.slice (some ⟨gl, 0, none⟩) n lc) := HRd.out.1.at_ 0 rfl
            rcases (by omega : hN = 1 ∨ ¬ hN = 1) with rfl | hck2
            · by_cases hck1 : cy = 1
              · go_upto_region 21 with fail
                obtain ⟨w8, hw8⟩ : ∃ w8, w8 = wd.setCell ⟨gl, v, none⟩ (.slice (some ⟨gy, 0, none⟩) (ys.length - 1) (0)) := ⟨_, rfl⟩
                rw [← hw8]
                have hR8 : RQ w8 w.heap.size w.heap.size (.slice (some ⟨gl, 0, none⟩) n lc) (.slice CA q.com.length cd) (vs.set v (.slice (some ⟨gy, 0, none⟩) (ys.length - 1) (0))) ⟨q.loc.set v (ys.drop 1), q.com⟩ := by
                  rw [hw8]
                  refine HRd.out.putRow (by rw [hvn.out]; exact hvl) ?_
                  have h := HRY.out.drop (k := 1) (A' := some ⟨gy, 0, none⟩) hN2 (fun h => by omega)
                  simpa [hck1] using h
                have hRT : Rd w8 (.slice (some ⟨gy, 0, none⟩) (0) (0)) ((ys.take 1).drop 1) := by
                  rw [hw8]
                  refine HRd.out.keepRd (by rw [hvn.out]; exact hvl) ?_
                  have h := (HRY.out.take hN2 (Nat.le_refl _) (by omega)).drop (k := 1) (A' := some ⟨gy, 0, none⟩) hN1 (fun h => by omega)
                  exact h
                have hRY8 : Rd w8 (.slice (some ⟨gy, 0, none⟩) ys.length cy) ys := by
                  rw [hw8]
                  exact HRd.out.keepRd (by rw [hvn.out]; exact hvl) HRY.out
                have hb8 : Below w.heap.size w w8 := by rw [hw8]; exact HBd.out.setCell (by show w.heap.size ≤ gl; omega) _
                have hk8 : Blk w8 (w.heap.size + 1) 26 #[.slice none 0 0, .slice none 0 0] := by
                  rw [hw8]
                  exact HKd.out.far (p := ⟨gl, v, none⟩) (by show w.heap.size + 1 ≠ gl; exact fun e => HGL.out e.symm) _
                have b8 : w8.cell? ⟨w.heap.size, 0, none⟩ = some (.slice (some ⟨gl, 0, none⟩) n lc) := hR8.1.at_ 0 rfl
                have hvp8 : (vs.set v (.slice (some ⟨gy, 0, none⟩) (ys.length - 1) (0)))[p]? = some (.slice X own.length cx) := by rw [List.getElem?_set_ne (fun e => hpv e.symm)]; exact hvp
                have HR8 := Lib.hid hR8
                have HRT := Lib.hid hRT
                have HRY8 := Lib.hid hRY8
                have HB8 := Lib.hid hb8
                have HK8 := Lib.hid hk8
                have hlT : ((ys.take 1).drop 1).length = 0 := hRT.sl.1
                clear hw8 hR8 hRT hRY8 hb8 hk8 xv xvf b0
                go_wp2
                go_region_held3 (fun w' => w'.cell? ⟨w.heap.size, 0, none⟩ = some (.slice (some ⟨gl, 0, none⟩) n lc)) (go_keep)
                  (first
                    | (go_at_call 26
                       refine (clone_any w8.drew w8.heap.size (0) (0) (some ⟨gy, 0, none⟩) ((ys.take 1).drop 1) HRT.out.sl (by first | exact Nat.zero_le _ | (unfold maxLen; omega)) (by omega) (Nat.le_refl _)).mono ?_
                       rintro e w11 ⟨v11, rfl, hb11', hown11'⟩
                       have hb11 : Below w8.heap.size w8 w11 := below_drewL hb11'
                       have hown11 : Own w11 w8.heap.size 3 (fun _ => False) v11 ((ys.take 1).drop 1) := hown11'
                       obtain ⟨U, cu, hv11, hcu, hcu', -⟩ := hown11.slice
                       rw [hlT] at hv11
                       subst hv11
                       have HR11 := Lib.hid (HR8.out.ext hb11)
                       have HRY11 := Lib.hid (HRY8.out.ext hb11)
                       have HOW11 := Lib.hid hown11.rd
                       have HB11 := Lib.hid (HB8.out.trans (hb11.mono HB8.out.size))
                       have HK11 := Lib.hid (HK8.out.below hb11 HK8.out.lt)
                       have s11 : w11.cell? ⟨w.heap.size, 0, none⟩ = some (.slice (some ⟨gl, 0, none⟩) n lc) := HR11.out.1.at_ 0 rfl
                       obtain ⟨t1, t2⟩ := HR11.out.cell hvp8
                       clear hb11 hown11 hb11' hown11'))
                obtain ⟨w12, hw12⟩ : ∃ w12, w12 = w11.setCell ⟨gl, p, none⟩ (.slice U (0) cu) := ⟨_, rfl⟩
                rw [← hw12]
                have hR12 : RQ w12 w.heap.size w.heap.size (.slice (some ⟨gl, 0, none⟩) n lc) (.slice CA q.com.length cd) ((vs.set v (.slice (some ⟨gy, 0, none⟩) (ys.length - 1) (0))).set p (.slice U (0) cu)) (takeAt q p v ys) := by
                  rw [hw12]
                  have h := HR11.out.putRow (p := p) (by rw [List.length_set, hvn.out]; exact hpn) HOW11.out
                  unfold takeAt
                  rw [← HHN.out]
                  exact h
                have hRY12 : Rd w12 (.slice (some ⟨gy, 0, none⟩) ys.length cy) ys := by
                  rw [hw12]
                  exact HR11.out.keepRd (by rw [List.length_set, hvn.out]; exact hpn) HRY11.out
                have hb12 : Below w.heap.size w w12 := by rw [hw12]; exact HB11.out.setCell (by show w.heap.size ≤ gl; omega) _
                have hk12 : Blk w12 (w.heap.size + 1) 26 #[.slice none 0 0, .slice none 0 0] := by
                  rw [hw12]
                  exact HK11.out.far (p := ⟨gl, p, none⟩) (by show w.heap.size + 1 ≠ gl; exact fun e => HGL.out e.symm) _
                obtain ⟨b', o', e', -, hy0⟩ := hRY12.sl.int' hyp
                injection e' with e'
                injection e' with e1 e2
                subst e1
                subst e2
                rw [Nat.add_zero, getD_headD] at hy0
                have r0 : w12.cell? ⟨w.heap.size, 0, none⟩ = some (.slice (some ⟨gl, 0, none⟩) n lc) := hR12.1.at_ 0 rfl
                have r1 : w12.cell? ⟨w.heap.size, 1, none⟩ = some (.slice CA q.com.length cd) := hR12.1.at_ 1 rfl
                have l0 : w12.cell? ⟨w.heap.size + 1, 0, none⟩ = some (.slice none 0 0) := hk12.at_ 0 rfl
                have l1 : w12.cell? ⟨w.heap.size + 1, 1, none⟩ = some (.slice none 0 0) := hk12.at_ 1 rfl
                have g0 : w12.frozen? ⟨w.heap.size + 1, 0, none⟩ = false := hk12.frozen 0
                have g1 : w12.frozen? ⟨w.heap.size + 1, 1, none⟩ = false := hk12.frozen 1
                have hgk : ¬ gy = w.heap.size + 1 := by
                  intro e
                  subst e
                  exact HGY.out rfl
                have hgk' : ¬ w.heap.size + 1 = gy := fun e => hgk e.symm
                clear hw12 hRY12 t1 t2 s11 b8
                go_wp2
                go_region_held3 (fun w' => w'.cell? ⟨w.heap.size, 0, none⟩ = some (.slice (some ⟨gl, 0, none⟩) n lc) ∧ w'.cell? ⟨w.heap.size, 1, none⟩ = some (.slice CA q.com.length cd) ∧ w'.cell? ⟨gy, 0, none⟩ = some (.int .i64 (ys.headD 0))) (go_keep) (fail)
                obtain ⟨w9, hw9⟩ : ∃ w9, w9 = ((w12.setCell ⟨w.heap.size + 1, 0, none⟩ (.slice (some ⟨gl, 0, none⟩) n lc)).setCell ⟨w.heap.size + 1, 1, none⟩ (.slice CA q.com.length cd)).drew := ⟨_, rfl⟩
                rw [← hw9]
                have hk9 : Blk w9 (w.heap.size + 1) 26 #[.slice (some ⟨gl, 0, none⟩) n lc, .slice CA q.com.length cd] := by rw [hw9]; exact (hk12.set_ 0 (.slice (some ⟨gl, 0, none⟩) n lc)).set_ 1 (.slice CA q.com.length cd)
                have hb9 : Below w.heap.size w w9 := by rw [hw9]; exact below_drewN ((hb12.setCell (p := ⟨w.heap.size + 1, 0, none⟩) (by show w.heap.size ≤ w.heap.size + 1; omega) _).setCell (p := ⟨w.heap.size + 1, 1, none⟩) (by show w.heap.size ≤ w.heap.size + 1; omega) _) 1
                have hq9 : RQ w9 w.heap.size w.heap.size (.slice (some ⟨gl, 0, none⟩) n lc) (.slice CA q.com.length cd) ((vs.set v (.slice (some ⟨gy, 0, none⟩) (ys.length - 1) (0))).set p (.slice U (0) cu)) (takeAt q p v ys) := by
                  rw [hw9]
                  exact (hR12.other (o := 0) (u := .slice (some ⟨gl, 0, none⟩) n lc) hk12 (by omega)).other (o := 1) (u := .slice CA q.com.length cd) (hk12.set_ 0 _) (by omega)
                clear hw9 hR12 hk12 hb12 r0 r1 l0 l1 g0 g1 hy0
                have e0 : w9.cell? ⟨w.heap.size + 1, 0, none⟩ = some (.slice (some ⟨gl, 0, none⟩) n lc) := hk9.at_ 0 rfl
                have e1 : w9.cell? ⟨w.heap.size + 1, 1, none⟩ = some (.slice CA q.com.length cd) := hk9.at_ 1 rfl
                go_wp2
                refine bodyPost_ret (v := .tuple #[.agg #[.slice (some ⟨gl, 0, none⟩) n lc, .slice CA q.com.length cd], .int .i64 (ys.headD 0), .bool true]) (by simp [results, Try.results18, go_sem, e0, e1]) rfl ?_
                rw [← HRS.out, nextQ_steal HV.out (by rw [← HOE.out]; exact hxp) HCE.out, stealQ_at (i := k) (by rw [hll.out]; exact hlt) (fun j hj => by rw [hll.out]; exact HN.out j hj) (l := ys) (by rw [hll.out, ← HVK.out]; exact hyq) hyp, show victim q.loc.length r k = v by rw [hll.out, HVK.out]]
                exact hq9.ret hb9
              · go_upto_region 21 with fail
                obtain ⟨w8, hw8⟩ : ∃ w8, w8 = wd.setCell ⟨gl, v, none⟩ (.slice (some ⟨gy, 1, none⟩) (ys.length - 1) (cy - 1)) := ⟨_, rfl⟩
                rw [← hw8]
                have hR8 : RQ w8 w.heap.size w.heap.size (.slice (some ⟨gl, 0, none⟩) n lc) (.slice CA q.com.length cd) (vs.set v (.slice (some ⟨gy, 1, none⟩) (ys.length - 1) (cy - 1))) ⟨q.loc.set v (ys.drop 1), q.com⟩ := by
                  rw [hw8]
                  refine HRd.out.putRow (by rw [hvn.out]; exact hvl) ?_
                  have h := HRY.out.drop (k := 1) (A' := some ⟨gy, 1, none⟩) hN2 (fun h => by rw [Nat.zero_add])
                  exact h
                have hRT : Rd w8 (.slice (some ⟨gy, 0, none⟩) (0) (0)) ((ys.take 1).drop 1) := by
                  rw [hw8]
                  refine HRd.out.keepRd (by rw [hvn.out]; exact hvl) ?_
                  have h := (HRY.out.take hN2 (Nat.le_refl _) (by omega)).drop (k := 1) (A' := some ⟨gy, 0, none⟩) hN1 (fun h => by omega)
                  exact h
                have hRY8 : Rd w8 (.slice (some ⟨gy, 0, none⟩) ys.length cy) ys := by
                  rw [hw8]
                  exact HRd.out.keepRd (by rw [hvn.out]; exact hvl) HRY.out
                have hb8 : Below w.heap.size w w8 := by rw [hw8]; exact HBd.out.setCell (by show w.heap.size ≤ gl; omega) _
                have hk8 : Blk w8 (w.heap.size + 1) 26 #[.slice none 0 0, .slice none 0 0] := by
                  rw [hw8]
                  exact HKd.out.far (p := ⟨gl, v, none⟩) (by show w.heap.size + 1 ≠ gl; exact fun e => HGL.out e.symm) _
                have b8 : w8.cell? ⟨w.heap.size, 0, none⟩ = some (.slice (some ⟨gl, 0, none⟩) n lc) := hR8.1.at_ 0 rfl
                have hvp8 : (vs.set v (.slice (some ⟨gy, 1, none⟩) (ys.length - 1) (cy - 1)))[p]? = some (.slice X own.length cx) := by rw [List.getElem?_set_ne (fun e => hpv e.symm)]; exact hvp
                have HR8 := Lib.hid hR8
                have HRT := Lib.hid hRT
                have HRY8 := Lib.hid hRY8
                have HB8 := Lib.hid hb8
                have HK8 := Lib.hid hk8
                have hlT : ((ys.take 1).drop 1).length = 0 := hRT.sl.1
                clear hw8 hR8 hRT hRY8 hb8 hk8 xv xvf b0
                go_wp2
                go_region_held3 (fun w' => w'.cell? ⟨w.heap.size, 0, none⟩ = some (.slice (some ⟨gl, 0, none⟩) n lc)) (go_keep)
                  (first
                    | (go_at_call 26
                       refine (clone_any w8.drew w8.heap.size (0) (0) (some ⟨gy, 0, none⟩) ((ys.take 1).drop 1) HRT.out.sl (by first | exact Nat.zero_le _ | (unfold maxLen; omega)) (by omega) (Nat.le_refl _)).mono ?_
                       rintro e w11 ⟨v11, rfl, hb11', hown11'⟩
                       have hb11 : Below w8.heap.size w8 w11 := below_drewL hb11'
                       have hown11 : Own w11 w8.heap.size 3 (fun _ => False) v11 ((ys.take 1).drop 1) := hown11'
                       obtain ⟨U, cu, hv11, hcu, hcu', -⟩ := hown11.slice
                       rw [hlT] at hv11
                       subst hv11
                       have HR11 := Lib.hid (HR8.out.ext hb11)
                       have HRY11 := Lib.hid (HRY8.out.ext hb11)
                       have HOW11 := Lib.hid hown11.rd
                       have HB11 := Lib.hid (HB8.out.trans (hb11.mono HB8.out.size))
                       have HK11 := Lib.hid (HK8.out.below hb11 HK8.out.lt)
                       have s11 : w11.cell? ⟨w.heap.size, 0, none⟩ = some (.slice (some ⟨gl, 0, none⟩) n lc) := HR11.out.1.at_ 0 rfl
                       obtain ⟨t1, t2⟩ := HR11.out.cell hvp8
                       clear hb11 hown11 hb11' hown11'))
                obtain ⟨w12, hw12⟩ : ∃ w12, w12 = w11.setCell ⟨gl, p, none⟩ (.slice U (0) cu) := ⟨_, rfl⟩
                rw [← hw12]
                have hR12 : RQ w12 w.heap.size w.heap.size (.slice (some ⟨gl, 0, none⟩) n lc) (.slice CA q.com.length cd) ((vs.set v (.slice (some ⟨gy, 1, none⟩) (ys.length - 1) (cy - 1))).set p (.slice U (0) cu)) (takeAt q p v ys) := by
                  rw [hw12]
                  have h := HR11.out.putRow (p := p) (by rw [List.length_set, hvn.out]; exact hpn) HOW11.out
                  unfold takeAt
                  rw [← HHN.out]
                  exact h
                have hRY12 : Rd w12 (.slice (some ⟨gy, 0, none⟩) ys.length cy) ys := by
                  rw [hw12]
                  exact HR11.out.keepRd (by rw [List.length_set, hvn.out]; exact hpn) HRY11.out
                have hb12 : Below w.heap.size w w12 := by rw [hw12]; exact HB11.out.setCell (by show w.heap.size ≤ gl; omega) _
                have hk12 : Blk w12 (w.heap.size + 1) 26 #[.slice none 0 0, .slice none 0 0] := by
                  rw [hw12]
                  exact HK11.out.far (p := ⟨gl, p, none⟩) (by show w.heap.size + 1 ≠ gl; exact fun e => HGL.out e.symm) _
                obtain ⟨b', o', e', -, hy0⟩ := hRY12.sl.int' hyp
                injection e' with e'
                injection e' with e1 e2
                subst e1
                subst e2
                rw [Nat.add_zero, getD_headD] at hy0
                have r0 : w12.cell? ⟨w.heap.size, 0, none⟩ = some (.slice (some ⟨gl, 0, none⟩) n lc) := hR12.1.at_ 0 rfl
                have r1 : w12.cell? ⟨w.heap.size, 1, none⟩ = some (.slice CA q.com.length cd) := hR12.1.at_ 1 rfl
                have l0 : w12.cell? ⟨w.heap.size + 1, 0, none⟩ = some (.slice none 0 0) := hk12.at_ 0 rfl
                have l1 : w12.cell? ⟨w.heap.size + 1, 1, none⟩ = some (.slice none 0 0) := hk12.at_ 1 rfl
                have g0 : w12.frozen? ⟨w.heap.size + 1, 0, none⟩ = false := hk12.frozen 0
                have g1 : w12.frozen? ⟨w.heap.size + 1, 1, none⟩ = false := hk12.frozen 1
                have hgk : ¬ gy = w.heap.size + 1 := by
                  intro e
                  subst e
                  exact HGY.out rfl
                have hgk' : ¬ w.heap.size + 1 = gy := fun e => hgk e.symm
                clear hw12 hRY12 t1 t2 s11 b8
                go_wp2
                go_region_held3 (fun w' => w'.cell? ⟨w.heap.size, 0, none⟩ = some (.slice (some ⟨gl, 0, none⟩) n lc) ∧ w'.cell? ⟨w.heap.size, 1, none⟩ = some (.slice CA q.com.length cd) ∧ w'.cell? ⟨gy, 0, none⟩ = some (.int .i64 (ys.headD 0))) (go_keep) (fail)
                obtain ⟨w9, hw9⟩ : ∃ w9, w9 = ((w12.setCell ⟨w.heap.size + 1, 0, none⟩ (.slice (some ⟨gl, 0, none⟩) n lc)).setCell ⟨w.heap.size + 1, 1, none⟩ (.slice CA q.com.length cd)).drew := ⟨_, rfl⟩
                rw [← hw9]
                have hk9 : Blk w9 (w.heap.size + 1) 26 #[.slice (some ⟨gl, 0, none⟩) n lc, .slice CA q.com.length cd] := by rw [hw9]; exact (hk12.set_ 0 (.slice (some ⟨gl, 0, none⟩) n lc)).set_ 1 (.slice CA q.com.length cd)
                have hb9 : Below w.heap.size w w9 := by rw [hw9]; exact below_drewN ((hb12.setCell (p := ⟨w.heap.size + 1, 0, none⟩) (by show w.heap.size ≤ w.heap.size + 1; omega) _).setCell (p := ⟨w.heap.size + 1, 1, none⟩) (by show w.heap.size ≤ w.heap.size + 1; omega) _) 1
                have hq9 : RQ w9 w.heap.size w.heap.size (.slice (some ⟨gl, 0, none⟩) n lc) (.slice CA q.com.length cd) ((vs.set v (.slice (some ⟨gy, 1, none⟩) (ys.length - 1) (cy - 1))).set p (.slice U (0) cu)) (takeAt q p v ys) := by
                  rw [hw9]
                  exact (hR12.other (o := 0) (u := .slice (some ⟨gl, 0, none⟩) n lc) hk12 (by omega)).other (o := 1) (u := .slice CA q.com.length cd) (hk12.set_ 0 _) (by omega)
                clear hw9 hR12 hk12 hb12 r0 r1 l0 l1 g0 g1 hy0
                have e0 : w9.cell? ⟨w.heap.size + 1, 0, none⟩ = some (.slice (some ⟨gl, 0, none⟩) n lc) := hk9.at_ 0 rfl
                have e1 : w9.cell? ⟨w.heap.size + 1, 1, none⟩ = some (.slice CA q.com.length cd) := hk9.at_ 1 rfl
                go_wp2
                refine bodyPost_ret (v := .tuple #[.agg #[.slice (some ⟨gl, 0, none⟩) n lc, .slice CA q.com.length cd], .int .i64 (ys.headD 0), .bool true]) (by simp [results, Try.results18, go_sem, e0, e1]) rfl ?_
                rw [← HRS.out, nextQ_steal HV.out (by rw [← HOE.out]; exact hxp) HCE.out, stealQ_at (i := k) (by rw [hll.out]; exact hlt) (fun j hj => by rw [hll.out]; exact HN.out j hj) (l := ys) (by rw [hll.out, ← HVK.out]; exact hyq) hyp, show victim q.loc.length r k = v by rw [hll.out, HVK.out]]
                exact hq9.ret hb9
            · by_cases hck1 : cy = hN
              · go_upto_region 21 with fail
                obtain ⟨w8, hw8⟩ : ∃ w8, w8 = wd.setCell ⟨gl, v, none⟩ (.slice (some ⟨gy, 0, none⟩) (ys.length - hN) (0)) := ⟨_, rfl⟩
                rw [← hw8]
                have hR8 : RQ w8 w.heap.size w.heap.size (.slice (some ⟨gl, 0, none⟩) n lc) (.slice CA q.com.length cd) (vs.set v (.slice (some ⟨gy, 0, none⟩) (ys.length - hN) (0))) ⟨q.loc.set v (ys.drop hN), q.com⟩ := by
                  rw [hw8]
                  refine HRd.out.putRow (by rw [hvn.out]; exact hvl) ?_
                  have h := HRY.out.drop (k := hN) (A' := some ⟨gy, 0, none⟩) hN2 (fun h => by omega)
                  simpa [hck1] using h
                have hRT : Rd w8 (.slice (some ⟨gy, 1, none⟩) (hN - 1) (hN - 1)) ((ys.take hN).drop 1) := by
                  rw [hw8]
                  refine HRd.out.keepRd (by rw [hvn.out]; exact hvl) ?_
                  have h := (HRY.out.take hN2 (Nat.le_refl _) (by omega)).drop (k := 1) (A' := some ⟨gy, 1, none⟩) hN1 (fun h => rfl)
                  exact h
                have hRY8 : Rd w8 (.slice (some ⟨gy, 0, none⟩) ys.length cy) ys := by
                  rw [hw8]
                  exact HRd.out.keepRd (by rw [hvn.out]; exact hvl) HRY.out
                have hb8 : Below w.heap.size w w8 := by rw [hw8]; exact HBd.out.setCell (by show w.heap.size ≤ gl; omega) _
                have hk8 : Blk w8 (w.heap.size + 1) 26 #[.slice none 0 0, .slice none 0 0] := by
                  rw [hw8]
                  exact HKd.out.far (p := ⟨gl, v, none⟩) (by show w.heap.size + 1 ≠ gl; exact fun e => HGL.out e.symm) _
                have b8 : w8.cell? ⟨w.heap.size, 0, none⟩ = some (.slice (some ⟨gl, 0, none⟩) n lc) := hR8.1.at_ 0 rfl
                have hvp8 : (vs.set v (.slice (some ⟨gy, 0, none⟩) (ys.length - hN) (0)))[p]? = some (.slice X own.length cx) := by rw [List.getElem?_set_ne (fun e => hpv e.symm)]; exact hvp
                have HR8 := Lib.hid hR8
                have HRT := Lib.hid hRT
                have HRY8 := Lib.hid hRY8
                have HB8 := Lib.hid hb8
                have HK8 := Lib.hid hk8
                have hlT : ((ys.take hN).drop 1).length = hN - 1 := hRT.sl.1
                clear hw8 hR8 hRT hRY8 hb8 hk8 xv xvf b0
                go_wp2
                go_region_held3 (fun w' => w'.cell? ⟨w.heap.size, 0, none⟩ = some (.slice (some ⟨gl, 0, none⟩) n lc)) (go_keep)
                  (first
                    | (go_at_call 26
                       refine (clone_any w8.drew w8.heap.size (hN - 1) (hN - 1) (some ⟨gy, 1, none⟩) ((ys.take hN).drop 1) HRT.out.sl (by first | exact Nat.zero_le _ | (unfold maxLen; omega)) (by omega) (Nat.le_refl _)).mono ?_
                       rintro e w11 ⟨v11, rfl, hb11', hown11'⟩
                       have hb11 : Below w8.heap.size w8 w11 := below_drewL hb11'
                       have hown11 : Own w11 w8.heap.size 3 (fun _ => False) v11 ((ys.take hN).drop 1) := hown11'
                       obtain ⟨U, cu, hv11, hcu, hcu', -⟩ := hown11.slice
                       rw [hlT] at hv11
                       subst hv11
                       have HR11 := Lib.hid (HR8.out.ext hb11)
                       have HRY11 := Lib.hid (HRY8.out.ext hb11)
                       have HOW11 := Lib.hid hown11.rd
                       have HB11 := Lib.hid (HB8.out.trans (hb11.mono HB8.out.size))
                       have HK11 := Lib.hid (HK8.out.below hb11 HK8.out.lt)
                       have s11 : w11.cell? ⟨w.heap.size, 0, none⟩ = some (.slice (some ⟨gl, 0, none⟩) n lc) := HR11.out.1.at_ 0 rfl
                       obtain ⟨t1, t2⟩ := HR11.out.cell hvp8
                       clear hb11 hown11 hb11' hown11'))
                obtain ⟨w12, hw12⟩ : ∃ w12, w12 = w11.setCell ⟨gl, p, none⟩ (.slice U (hN - 1) cu) := ⟨_, rfl⟩
                rw [← hw12]
                have hR12 : RQ w12 w.heap.size w.heap.size (.slice (some ⟨gl, 0, none⟩) n lc) (.slice CA q.com.length cd) ((vs.set v (.slice (some ⟨gy, 0, none⟩) (ys.length - hN) (0))).set p (.slice U (hN - 1) cu)) (takeAt q p v ys) := by
                  rw [hw12]
                  have h := HR11.out.putRow (p := p) (by rw [List.length_set, hvn.out]; exact hpn) HOW11.out
                  unfold takeAt
                  rw [← HHN.out]
                  exact h
                have hRY12 : Rd w12 (.slice (some ⟨gy, 0, none⟩) ys.length cy) ys := by
                  rw [hw12]
                  exact HR11.out.keepRd (by rw [List.length_set, hvn.out]; exact hpn) HRY11.out
                have hb12 : Below w.heap.size w w12 := by rw [hw12]; exact HB11.out.setCell (by show w.heap.size ≤ gl; omega) _
                have hk12 : Blk w12 (w.heap.size + 1) 26 #[.slice none 0 0, .slice none 0 0] := by
                  rw [hw12]
                  exact HK11.out.far (p := ⟨gl, p, none⟩) (by show w.heap.size + 1 ≠ gl; exact fun e => HGL.out e.symm) _
                obtain ⟨b', o', e', -, hy0⟩ := hRY12.sl.int' hyp
                injection e' with e'
                injection e' with e1 e2
                subst e1
                subst e2
                rw [Nat.add_zero, getD_headD] at hy0
                have r0 : w12.cell? ⟨w.heap.size, 0, none⟩ = some (.slice (some ⟨gl, 0, none⟩) n lc) := hR12.1.at_ 0 rfl
                have r1 : w12.cell? ⟨w.heap.size, 1, none⟩ = some (.slice CA q.com.length cd) := hR12.1.at_ 1 rfl
                have l0 : w12.cell? ⟨w.heap.size + 1, 0, none⟩ = some (.slice none 0 0) := hk12.at_ 0 rfl
                have l1 : w12.cell? ⟨w.heap.size + 1, 1, none⟩ = some (.slice none 0 0) := hk12.at_ 1 rfl
                have g0 : w12.frozen? ⟨w.heap.size + 1, 0, none⟩ = false := hk12.frozen 0
                have g1 : w12.frozen? ⟨w.heap.size + 1, 1, none⟩ = false := hk12.frozen 1
                have hgk : ¬ gy = w.heap.size + 1 := by
                  intro e
                  subst e
                  exact HGY.out rfl
                have hgk' : ¬ w.heap.size + 1 = gy := fun e => hgk e.symm
                clear hw12 hRY12 t1 t2 s11 b8
                go_wp2
                go_region_held3 (fun w' => w'.cell? ⟨w.heap.size, 0, none⟩ = some (.slice (some ⟨gl, 0, none⟩) n lc) ∧ w'.cell? ⟨w.heap.size, 1, none⟩ = some (.slice CA q.com.length cd) ∧ w'.cell? ⟨gy, 0, none⟩ = some (.int .i64 (ys.headD 0))) (go_keep) (fail)
                obtain ⟨w9, hw9⟩ : ∃ w9, w9 = ((w12.setCell ⟨w.heap.size + 1, 0, none⟩ (.slice (some ⟨gl, 0, none⟩) n lc)).setCell ⟨w.heap.size + 1, 1, none⟩ (.slice CA q.com.length cd)).drew := ⟨_, rfl⟩
                rw [← hw9]
                have hk9 : Blk w9 (w.heap.size + 1) 26 #[.slice (some ⟨gl, 0, none⟩) n lc, .slice CA q.com.length cd] := by rw [hw9]; exact (hk12.set_ 0 (.slice (some ⟨gl, 0, none⟩) n lc)).set_ 1 (.slice CA q.com.length cd)
                have hb9 : Below w.heap.size w w9 := by rw [hw9]; exact below_drewN ((hb12.setCell (p := ⟨w.heap.size + 1, 0, none⟩) (by show w.heap.size ≤ w.heap.size + 1; omega) _).setCell (p := ⟨w.heap.size + 1, 1, none⟩) (by show w.heap.size ≤ w.heap.size + 1; omega) _) 1
                have hq9 : RQ w9 w.heap.size w.heap.size (.slice (some ⟨gl, 0, none⟩) n lc) (.slice CA q.com.length cd) ((vs.set v (.slice (some ⟨gy, 0, none⟩) (ys.length - hN) (0))).set p (.slice U (hN - 1) cu)) (takeAt q p v ys) := by
                  rw [hw9]
                  exact (hR12.other (o := 0) (u := .slice (some ⟨gl, 0, none⟩) n lc) hk12 (by omega)).other (o := 1) (u := .slice CA q.com.length cd) (hk12.set_ 0 _) (by omega)
                clear hw9 hR12 hk12 hb12 r0 r1 l0 l1 g0 g1 hy0
                have e0 : w9.cell? ⟨w.heap.size + 1, 0, none⟩ = some (.slice (some ⟨gl, 0, none⟩) n lc) := hk9.at_ 0 rfl
                have e1 : w9.cell? ⟨w.heap.size + 1, 1, none⟩ = some (.slice CA q.com.length cd) := hk9.at_ 1 rfl
                go_wp2
                refine bodyPost_ret (v := .tuple #[.agg #[.slice (some ⟨gl, 0, none⟩) n lc, .slice CA q.com.length cd], .int .i64 (ys.headD 0), .bool true]) (by simp [results, Try.results18, go_sem, e0, e1]) rfl ?_
                rw [← HRS.out, nextQ_steal HV.out (by rw [← HOE.out]; exact hxp) HCE.out, stealQ_at (i := k) (by rw [hll.out]; exact hlt) (fun j hj => by rw [hll.out]; exact HN.out j hj) (l := ys) (by rw [hll.out, ← HVK.out]; exact hyq) hyp, show victim q.loc.length r k = v by rw [hll.out, HVK.out]]
                exact hq9.ret hb9
              · go_upto_region 21 with fail
                obtain ⟨w8, hw8⟩ : ∃ w8, w8 = wd.setCell ⟨gl, v, none⟩ (.slice (some ⟨gy, hN, none⟩) (ys.length - hN) (cy - hN)) := ⟨_, rfl⟩
                rw [← hw8]
                have hR8 : RQ w8 w.heap.size w.heap.size (.slice (some ⟨gl, 0, none⟩) n lc) (.slice CA q.com.length cd) (vs.set v (.slice (some ⟨gy, hN, none⟩) (ys.length - hN) (cy - hN))) ⟨q.loc.set v (ys.drop hN), q.com⟩ := by
                  rw [hw8]
                  refine HRd.out.putRow (by rw [hvn.out]; exact hvl) ?_
                  have h := HRY.out.drop (k := hN) (A' := some ⟨gy, hN, none⟩) hN2 (fun h => by rw [Nat.zero_add])
                  exact h
                have hRT : Rd w8 (.slice (some ⟨gy, 1, none⟩) (hN - 1) (hN - 1)) ((ys.take hN).drop 1) := by
                  rw [hw8]
                  refine HRd.out.keepRd (by rw [hvn.out]; exact hvl) ?_
                  have h := (HRY.out.take hN2 (Nat.le_refl _) (by omega)).drop (k := 1) (A' := some ⟨gy, 1, none⟩) hN1 (fun h => rfl)
                  exact h
                have hRY8 : Rd w8 (.slice (some ⟨gy, 0, none⟩) ys.length cy) ys := by
                  rw [hw8]
                  exact HRd.out.keepRd (by rw [hvn.out]; exact hvl) HRY.out
                have hb8 : Below w.heap.size w w8 := by rw [hw8]; exact HBd.out.setCell (by show w.heap.size ≤ gl; omega) _
                have hk8 : Blk w8 (w.heap.size + 1) 26 #[.slice none 0 0, .slice none 0 0] := by
                  rw [hw8]
                  exact HKd.out.far (p := ⟨gl, v, none⟩) (by show w.heap.size + 1 ≠ gl; exact fun e => HGL.out e.symm) _
                have b8 : w8.cell? ⟨w.heap.size, 0, none⟩ = some (.slice (some ⟨gl, 0, none⟩) n lc) := hR8.1.at_ 0 rfl
                have hvp8 : (vs.set v (.slice (some ⟨gy, hN, none⟩) (ys.length - hN) (cy - hN)))[p]? = some (.slice X own.length cx) := by rw [List.getElem?_set_ne (fun e => hpv e.symm)]; exact hvp
                have HR8 := Lib.hid hR8
                have HRT := Lib.hid hRT
                have HRY8 := Lib.hid hRY8
                have HB8 := Lib.hid hb8
                have HK8 := Lib.hid hk8
                have hlT : ((ys.take hN).drop 1).length = hN - 1 := hRT.sl.1
                clear hw8 hR8 hRT hRY8 hb8 hk8 xv xvf b0
                go_wp2
                go_region_held3 (fun w' => w'.cell? ⟨w.heap.size, 0, none⟩ = some (.slice (some ⟨gl, 0, none⟩) n lc)) (go_keep)
                  (first
                    | (go_at_call 26
                       refine (clone_any w8.drew w8.heap.size (hN - 1) (hN - 1) (some ⟨gy, 1, none⟩) ((ys.take hN).drop 1) HRT.out.sl (by first | exact Nat.zero_le _ | (unfold maxLen; omega)) (by omega) (Nat.le_refl _)).mono ?_
                       rintro e w11 ⟨v11, rfl, hb11', hown11'⟩
                       have hb11 : Below w8.heap.size w8 w11 := below_drewL hb11'
                       have hown11 : Own w11 w8.heap.size 3 (fun _ => False) v11 ((ys.take hN).drop 1) := hown11'
                       obtain ⟨U, cu, hv11, hcu, hcu', -⟩ := hown11.slice
                       rw [hlT] at hv11
                       subst hv11
                       have HR11 := Lib.hid (HR8.out.ext hb11)
                       have HRY11 := Lib.hid (HRY8.out.ext hb11)
                       have HOW11 := Lib.hid hown11.rd
                       have HB11 := Lib.hid (HB8.out.trans (hb11.mono HB8.out.size))
                       have HK11 := Lib.hid (HK8.out.below hb11 HK8.out.lt)
                       have s11 : w11.cell? ⟨w.heap.size, 0, none⟩ = some (.slice (some ⟨gl, 0, none⟩) n lc) := HR11.out.1.at_ 0 rfl
                       obtain ⟨t1, t2⟩ := HR11.out.cell hvp8
                       clear hb11 hown11 hb11' hown11'))
                obtain ⟨w12, hw12⟩ : ∃ w12, w12 = w11.setCell ⟨gl, p, none⟩ (.slice U (hN - 1) cu) := ⟨_, rfl⟩
                rw [← hw12]
                have hR12 : RQ w12 w.heap.size w.heap.size (.slice (some ⟨gl, 0, none⟩) n lc) (.slice CA q.com.length cd) ((vs.set v (.slice (some ⟨gy, hN, none⟩) (ys.length - hN) (cy - hN))).set p (.slice U (hN - 1) cu)) (takeAt q p v ys) := by
                  rw [hw12]
                  have h := HR11.out.putRow (p := p) (by rw [List.length_set, hvn.out]; exact hpn) HOW11.out
                  unfold takeAt
                  rw [← HHN.out]
                  exact h
                have hRY12 : Rd w12 (.slice (some ⟨gy, 0, none⟩) ys.length cy) ys := by
                  rw [hw12]
                  exact HR11.out.keepRd (by rw [List.length_set, hvn.out]; exact hpn) HRY11.out
                have hb12 : Below w.heap.size w w12 := by rw [hw12]; exact HB11.out.setCell (by show w.heap.size ≤ gl; omega) _
                have hk12 : Blk w12 (w.heap.size + 1) 26 #[.slice none 0 0, .slice none 0 0] := by
                  rw [hw12]
                  exact HK11.out.far (p := ⟨gl, p, none⟩) (by show w.heap.size + 1 ≠ gl; exact fun e => HGL.out e.symm) _
                obtain ⟨b', o', e', -, hy0⟩ := hRY12.sl.int' hyp
                injection e' with e'
                injection e' with e1 e2
                subst e1
                subst e2
                rw [Nat.add_zero, getD_headD] at hy0
                have r0 : w12.cell? ⟨w.heap.size, 0, none⟩ = some (.slice (some ⟨gl, 0, none⟩) n lc) := hR12.1.at_ 0 rfl
                have r1 : w12.cell? ⟨w.heap.size, 1, none⟩ = some (.slice CA q.com.length cd) := hR12.1.at_ 1 rfl
                have l0 : w12.cell? ⟨w.heap.size + 1, 0, none⟩ = some (.slice none 0 0) := hk12.at_ 0 rfl
                have l1 : w12.cell? ⟨w.heap.size + 1, 1, none⟩ = some (.slice none 0 0) := hk12.at_ 1 rfl
                have g0 : w12.frozen? ⟨w.heap.size + 1, 0, none⟩ = false := hk12.frozen 0
                have g1 : w12.frozen? ⟨w.heap.size + 1, 1, none⟩ = false := hk12.frozen 1
                have hgk : ¬ gy = w.heap.size + 1 := by
                  intro e
                  subst e
                  exact HGY.out rfl
                have hgk' : ¬ w.heap.size + 1 = gy := fun e => hgk e.symm
                clear hw12 hRY12 t1 t2 s11 b8
                go_wp2
                go_region_held3 (fun w' => w'.cell? ⟨w.heap.size, 0, none⟩ = some (.slice (some ⟨gl, 0, none⟩) n lc) ∧ w'.cell? ⟨w.heap.size, 1, none⟩ = some (.slice CA q.com.length cd) ∧ w'.cell? ⟨gy, 0, none⟩ = some (.int .i64 (ys.headD 0))) (go_keep) (fail)
                obtain ⟨w9, hw9⟩ : ∃ w9, w9 = ((w12.setCell ⟨w.heap.size + 1, 0, none⟩ (.slice (some ⟨gl, 0, none⟩) n lc)).setCell ⟨w.heap.size + 1, 1, none⟩ (.slice CA q.com.length cd)).drew := ⟨_, rfl⟩
                rw [← hw9]
                have hk9 : Blk w9 (w.heap.size + 1) 26 #[.slice (some ⟨gl, 0, none⟩) n lc, .slice CA q.com.length cd] := by rw [hw9]; exact (hk12.set_ 0 (.slice (some ⟨gl, 0, none⟩) n lc)).set_ 1 (.slice CA q.com.length cd)
                have hb9 : Below w.heap.size w w9 := by rw [hw9]; exact below_drewN ((hb12.setCell (p := ⟨w.heap.size + 1, 0, none⟩) (by show w.heap.size ≤ w.heap.size + 1; omega) _).setCell (p := ⟨w.heap.size + 1, 1, none⟩) (by show w.heap.size ≤ w.heap.size + 1; omega) _) 1
                have hq9 : RQ w9 w.heap.size w.heap.size (.slice (some ⟨gl, 0, none⟩) n lc) (.slice CA q.com.length cd) ((vs.set v (.slice (some ⟨gy, hN, none⟩) (ys.length - hN) (cy - hN))).set p (.slice U (hN - 1) cu)) (takeAt q p v ys) := by
                  rw [hw9]
                  exact (hR12.other (o := 0) (u := .slice (some ⟨gl, 0, none⟩) n lc) hk12 (by omega)).other (o := 1) (u := .slice CA q.com.length cd) (hk12.set_ 0 _) (by omega)
                clear hw9 hR12 hk12 hb12 r0 r1 l0 l1 g0 g1 hy0
                have e0 : w9.cell? ⟨w.heap.size + 1, 0, none⟩ = some (.slice (some ⟨gl, 0, none⟩) n lc) := hk9.at_ 0 rfl
                have e1 : w9.cell? ⟨w.heap.size + 1, 1, none⟩ = some (.slice CA q.com.length cd) := hk9.at_ 1 rfl
                go_wp2
                refine bodyPost_ret (v := .tuple #[.agg #[.slice (some ⟨gl, 0, none⟩) n lc, .slice CA q.com.length cd], .int .i64 (ys.headD 0), .bool true]) (by simp [results, Try.results18, go_sem, e0, e1]) rfl ?_
                rw [← HRS.out, nextQ_steal HV.out (by rw [← HOE.out]; exact hxp) HCE.out, stealQ_at (i := k) (by rw [hll.out]; exact hlt) (fun j hj => by rw [hll.out]; exact HN.out j hj) (l := ys) (by rw [hll.out, ← HVK.out]; exact hyq) hyp, show victim q.loc.length r k = v by rw [hll.out, HVK.out]]
                exact hq9.ret hb9
        · obtain rfl : k = n := by omega
          obtain ⟨wd, hwd⟩ : ∃ wd, wd = w7.drewN e := ⟨_, rfl⟩
          rw [← hwd]
          have hKd : Blk wd (w.heap.size + 1) 26 #[.slice none 0 0, .slice none 0 0] := by rw [hwd]; exact HK7.out
          have hBd : Below w.heap.size w wd := by rw [hwd]; exact below_drewN HB7.out _
          clear hwd
          have l0 : wd.cell? ⟨w.heap.size + 1, 0, none⟩ = some (.slice none 0 0) := hKd.at_ 0 rfl
          have l1 : wd.cell? ⟨w.heap.size + 1, 1, none⟩ = some (.slice none 0 0) := hKd.at_ 1 rfl
          have g0 : wd.frozen? ⟨w.heap.size + 1, 0, none⟩ = false := hKd.frozen 0
          have g1 : wd.frozen? ⟨w.heap.size + 1, 1, none⟩ = false := hKd.frozen 1
          go_wp2
          have hk9 := (hKd.set_ 0 (.slice none 0 0)).set_ 1 (.slice none 0 0)
          have hb9 := (hBd.setCell (p := ⟨w.heap.size + 1, 0, none⟩) (by show w.heap.size ≤ w.heap.size + 1; omega) (.slice none 0 0)).setCell (p := ⟨w.heap.size + 1, 1, none⟩) (by show w.heap.size ≤ w.heap.size + 1; omega) (.slice none 0 0)
          obtain ⟨w9, hw9⟩ : ∃ w9, w9 = (wd.setCell ⟨w.heap.size + 1, 0, none⟩ (.slice none 0 0)).setCell ⟨w.heap.size + 1, 1, none⟩ (.slice none 0 0) := ⟨_, rfl⟩
          rw [← hw9] at hk9 hb9 ⊢
          have e0 : w9.cell? ⟨w.heap.size + 1, 0, none⟩ = some (.slice none 0 0) := hk9.at_ 0 rfl
          have e1 : w9.cell? ⟨w.heap.size + 1, 1, none⟩ = some (.slice none 0 0) := hk9.at_ 1 rfl
          refine bodyPost_ret (v := .tuple #[.agg #[.slice none 0 0, .slice none 0 0], .int .i64 0, .bool false]) (by simp [results, Try.results18, go_sem, e0, e1]) rfl ?_
          rw [← HRS.out, nextQ_steal HV.out (by rw [← HOE.out]; exact hxp) HCE.out, stealQ_none (fun i hi => by rw [hll.out] at hi ⊢; exact HN.out i hi)]
          exact RetQG.nothing hb9

end Go.Proofs.Ytepcbgbmmmhglaa

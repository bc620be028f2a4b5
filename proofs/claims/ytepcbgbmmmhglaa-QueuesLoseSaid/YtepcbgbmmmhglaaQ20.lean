/- Add: the program, where it adds. -/
import Derived.Test.YtepcbgbmmmhglaaQ19
namespace Go.Proofs.Ytepcbgbmmmhglaa
open Go.RowKit

set_option maxHeartbeats 8000000 in
theorem add_good (w : World) (B n c m d : Nat) (A C : Option Addr) (q : Qs) (p : Nat) (g : Int) (own : List Int) (hl : Sl w (lt B) A n q.loc) (hc : Sl w (lt B) C m q.com) (hn : n ≤ maxLen) (hmd : m ≤ d) (hd63 : d ≤ maxLen) (hB : B ≤ w.heap.size)
    (hv : validQ q = true) (hown : q.loc[p]? = some own) (h0 : 0 ≤ g) (h8 : g < 8) (hq : queuedQ q g = false) (r : Qs) (hr : addQ q p g = some r) :
    Calls Try.prog 16 #[.agg #[.slice A n c, .slice C m d], .int .i64 p, .int .i64 g] w (RetQF r 0 w) := by
  have hll : Hid (q.loc.length = n) := hl.1
  have hcl : Hid (q.com.length = m) := hc.1
  have hpn : p < n := by rw [← hll.out]; exact (List.getElem?_eq_some_iff.1 hown).1
  have hn4 : n ≤ 4 := by rw [← hll.out]; exact (valid_loc hv).2.1
  have hm8 : m ≤ 8 := by rw [← hcl.out]; exact valid_com hv
  have HE1 : Hid (own.length < 4 → r = ⟨q.loc.set p (own ++ [g]), q.com⟩) := fun h => Option.some.inj (hr.symm.trans (addQ_few hv hown h0 h8 hq h))
  have HE2 : Hid (¬ own.length < 4 → r = ⟨q.loc.set p (own.drop 2), q.com ++ own.take 2 ++ [g]⟩) := fun h => Option.some.inj (hr.symm.trans (addQ_many hv hown h0 h8 hq h))
  have HR := Lib.hid (valid_row8 hv)
  have HV := Lib.hid hv
  have HQ := Lib.hid hq
  have HOW := Lib.hid hown
  clear hv hq hown hr
  unfold maxLen at hn
  obtain ⟨i0, hi, hz0, hz1, hz2⟩ := info_parts info_int
  have HI := Lib.hid (And.intro hi (And.intro hz0 (And.intro hz1 hz2)))
  clear hi hz0 hz1 hz2
  have d1 : decide ((p : Int) < 0) = false := decide_eq_false (by omega)
  have d2 : decide ((n : Int) ≤ (p : Int)) = false := decide_eq_false (by omega)
  have d3 : decide (g < 0) = false := decide_eq_false (by omega)
  have d4 : decide (8 ≤ g) = false := decide_eq_false (by omega)
  have hp0 : (0 : Int) ≤ (p : Int) := Int.natCast_nonneg _
  have hp1 : (p : Int) < (n : Int) := by omega
  clear h0 h8
  go_enter Try.func16, Try.ntmps16
  go_upto_region 1 with fail
  obtain ⟨w0, hw0⟩ : ∃ w0, w0 = (w.alloc (.cells #[.slice A n c, .slice C m d] 26)).alloc (.cells #[.slice none 0 0, .slice none 0 0] 26) := ⟨_, rfl⟩
  rw [← hw0]
  have hb0 : Below w.heap.size w w0 := by rw [hw0]; exact ((Below.refl _ _).alloc (Nat.le_refl _) _).alloc (by simp) _
  have hk0 : Blk w0 w.heap.size 26 #[.slice A n c, .slice C m d] := by rw [hw0]; exact (Blk.new _ _ _).alloc _
  have hk1 : Blk w0 (w.heap.size + 1) 26 #[.slice none 0 0, .slice none 0 0] := by rw [hw0]; exact heap_alloc_new' _ _ (by simp)
  clear hw0
  have a0 : w0.cell? ⟨w.heap.size, 0, none⟩ = some (.slice A n c) := hk0.at_ 0 rfl
  have a1 : w0.cell? ⟨w.heap.size, 1, none⟩ = some (.slice C m d) := hk0.at_ 1 rfl
  have hz0 := hb0.size
  go_wp2_with fail
  refine (valid_b w0 B n c m d A C HV.out (hl.below (hb0.mono hB)) (hc.below (hb0.mono hB)) hmd hd63 (Nat.le_trans hB hz0)).mono ?_
  rintro e w1 ⟨rfl, hb1⟩
  have hk0' := hk0.below hb1 hk0.lt
  have hk1' := hk1.below hb1 hk1.lt
  have hb2 : Below w.heap.size w w1 := hb0.trans (hb1.mono hz0)
  clear a0 a1 hk0 hk1
  have a0 : w1.cell? ⟨w.heap.size, 0, none⟩ = some (.slice A n c) := hk0'.at_ 0 rfl
  have a1 : w1.cell? ⟨w.heap.size, 1, none⟩ = some (.slice C m d) := hk0'.at_ 1 rfl
  go_wp2_with fail
  refine (queued_b w1 B n c m d A C HQ.out (hl.below (hb2.mono hB)) (hc.below (hb2.mono hB)) (by unfold maxLen; omega) (by omega) (Nat.le_trans hB hb2.size)).mono ?_
  rintro e w3 ⟨rfl, hb3⟩
  have hb4 : Below w.heap.size w w3 := hb2.trans (hb3.mono hb2.size)
  have hk0 := hk0'.below hb3 hk0'.lt
  have hk1 := hk1'.below hb3 hk1'.lt
  clear a0 a1 hk0' hk1'
  have a0 : w3.cell? ⟨w.heap.size, 0, none⟩ = some (.slice A n c) := hk0.at_ 0 rfl
  have a1 : w3.cell? ⟨w.heap.size, 1, none⟩ = some (.slice C m d) := hk0.at_ 1 rfl
  have hz3 := hb4.size
  go_wp2_with fail
  refine (qclone_any w3 B n c m d A C q (hl.below (hb4.mono hB)) (hc.below (hb4.mono hB)) (by omega) (by omega) HR.out (Nat.le_trans hB hz3)).mono ?_
  rintro e w5 ⟨v5, rfl, hb5, lv, cv, vs, rfl, hlo5, hr5⟩
  obtain ⟨LA, lc, rfl, hlc, hlc63, -⟩ := hlo5.slice
  obtain ⟨CA, cd, rfl, hcd, hcd63, -⟩ := (hr5.2.1 0 cv q.com rfl rfl).slice
  have hbx := hk0.below hb5 hk0.lt
  have hk1' := hk1.below hb5 hk1.lt
  have hb6 : Below w.heap.size w w5 := hb4.trans (hb5.mono hz3)
  clear a0 a1 hk0 hk1
  have a0 : w5.cell? ⟨w.heap.size, 0, none⟩ = some (.slice A n c) := hbx.at_ 0 rfl
  have a1 : w5.cell? ⟨w.heap.size, 1, none⟩ = some (.slice C m d) := hbx.at_ 1 rfl
  have f0 : w5.frozen? ⟨w.heap.size, 0, none⟩ = false := hbx.frozen 0
  have f1 : w5.frozen? ⟨w.heap.size, 1, none⟩ = false := hbx.frozen 1
  have hz5 := hb6.size
  go_upto_region 4 with fail
  obtain ⟨w6, hw6⟩ : ∃ w6, w6 = (w5.setCell ⟨w.heap.size, 0, none⟩ (.slice LA vs.length lc)).setCell ⟨w.heap.size, 1, none⟩ (.slice CA q.com.length cd) := ⟨_, rfl⟩
  rw [← hw6]
  have hQ : QM w6 w.heap.size w.heap.size (.slice LA vs.length lc) (.slice CA q.com.length cd) vs q := by
    rw [hw6]
    exact QM.boxed hbx (hlo5.base hz3) ⟨hr5.1, fun i v xs hv hx => (hr5.2.1 i v xs hv hx).base hz3, hr5.2.2⟩
  have hk6 : Blk w6 (w.heap.size + 1) 26 #[.slice none 0 0, .slice none 0 0] := by
    rw [hw6]
    exact (hk1'.far (p := ⟨w.heap.size, 0, none⟩) (by show w.heap.size + 1 ≠ w.heap.size; omega) _).far (p := ⟨w.heap.size, 1, none⟩) (by show w.heap.size + 1 ≠ w.heap.size; omega) _
  have hb7 : Below w.heap.size w w6 := by rw [hw6]; exact (hb6.setCell (Nat.le_refl _) _).setCell (Nat.le_refl _) _
  clear hw6 a0 a1 f0 f1 hk1' hbx hlo5 hr5
  have hvn : Hid (vs.length = n) := Lib.hid (hQ.len.trans hll.out)
  obtain ⟨gl, lc', X, xs, cx, hlv, hvp, hxp, hcl6, hfr6, hox, hgl1, hgl2, hgl3, hlc', hlc'', hcx, hcx'⟩ := hQ.row (p := p) (by rw [hll.out]; exact hpn)
  injection hlv with hlv1 hlv2 hlv3
  subst hlv1
  subst hlv3
  obtain rfl : own = xs := Option.some.inj (HOW.out.symm.trans hxp)
  rw [hQ.len, hll.out] at hQ
  have b0 : w6.cell? ⟨w.heap.size, 0, none⟩ = some (.slice (some ⟨gl, 0, none⟩) n lc) := hQ.1.at_ 0 rfl
  have b1 : w6.cell? ⟨w.heap.size, 1, none⟩ = some (.slice CA q.com.length cd) := hQ.1.at_ 1 rfl
  have hx4 : own.length ≤ 4 := valid_row HV.out (List.mem_of_getElem? hxp)
  have HQM := Lib.hid hQ
  have HGL : Hid (gl ≠ w.heap.size + 1) := fun e => hQ.2.1.ne hk6 (by decide) (by rw [← e]; rfl)
  clear hQ
  by_cases hlen : own.length < 4
  · have HOX := Lib.hid hox
    clear hox
    go_upto_region 7 with (at_builtin; refine wpList_push (α := Int) rfl (.tmp 52) (.tmp 54) 24 rfl w.heap.size 3 i0 (.int .i64 0) 8 Try.underlying24 HI.out.1 HI.out.2.1 HI.out.2.2.1 HI.out.2.2.2 rfl (by decide) (fun _ => False) _ own g [.int .i64 g] w6.heap.size 1 rfl (HOX.out.alloc (.cells #[.int .i64 g] 3) false_lt) rfl rfl (cell_new w6 #[.int .i64 g] 3 rfl) (by simp [Value.oneCell']) (fun b hb => hb.elim) (by have := hb7.size; simp; omega) (by unfold maxLen; omega) (by omega) ?_; intro v7 w7 hown7 hg7 hat7; obtain ⟨Y, cy, hv7, hcy, hcy', -⟩ := hown7.slice; rw [List.length_append, List.length_singleton] at hv7; subst hv7; have hA := HQM.out.ext ((Below.refl w6.heap.size w6).alloc (Nat.le_refl _) (.cells #[.int .i64 g] 3)); have HT := hA.grow hvp hg7 hat7 hown7; obtain ⟨t1, t2⟩ := HT.cell hvp; have hb8 := own_below (HOX.out.alloc (.cells #[.int .i64 g] 3) false_lt) (hb7.alloc hb7.size _) hg7 (Nat.le_refl _) (by have := hb7.size; simp; omega); have hk8 := (hk6.alloc (.cells #[.int .i64 g] 3)).grown hg7 ((HOX.out.alloc (.cells #[.int .i64 g] 3) false_lt).ne (hk6.alloc _) (by decide)); clear hown7 hg7 hat7 hA)
    obtain ⟨w8, hw8⟩ : ∃ w8, w8 = w7.setCell ⟨gl, p, none⟩ (.slice Y (own.length + 1) cy) := ⟨_, rfl⟩
    rw [← hw8]
    have hQ8 : QM w8 w.heap.size w.heap.size (.slice (some ⟨gl, 0, none⟩) n lc) (.slice CA q.com.length cd) (vs.set p (.slice Y (own.length + 1) cy)) ⟨q.loc.set p (own ++ [g]), q.com⟩ := by
      rw [hw8]
      exact HT.store (by rw [hvn.out]; exact hpn)
    have hb10 : Below w.heap.size w w8 := by rw [hw8]; exact hb8.setCell (by show w.heap.size ≤ gl; omega) _
    have hk10 : Blk w8 (w.heap.size + 1) 26 #[.slice none 0 0, .slice none 0 0] := by
      rw [hw8]
      exact hk8.far (p := ⟨gl, p, none⟩) (by show w.heap.size + 1 ≠ gl; exact fun e => HGL.out e.symm) _
    clear hw8 t1 t2 b0 b1
    have r0 : w8.cell? ⟨w.heap.size, 0, none⟩ = some (.slice (some ⟨gl, 0, none⟩) n lc) := hQ8.1.at_ 0 rfl
    have r1 : w8.cell? ⟨w.heap.size, 1, none⟩ = some (.slice CA q.com.length cd) := hQ8.1.at_ 1 rfl
    have l0 : w8.cell? ⟨w.heap.size + 1, 0, none⟩ = some (.slice none 0 0) := hk10.at_ 0 rfl
    have l1 : w8.cell? ⟨w.heap.size + 1, 1, none⟩ = some (.slice none 0 0) := hk10.at_ 1 rfl
    have g0 : w8.frozen? ⟨w.heap.size + 1, 0, none⟩ = false := hk10.frozen 0
    have g1 : w8.frozen? ⟨w.heap.size + 1, 1, none⟩ = false := hk10.frozen 1
    go_wp2
    have hk9 := (hk10.set_ 0 (.slice (some ⟨gl, 0, none⟩) n lc)).set_ 1 (.slice CA q.com.length cd)
    have hb9 := (hb10.setCell (p := ⟨w.heap.size + 1, 0, none⟩) (by show w.heap.size ≤ w.heap.size + 1; omega) (.slice (some ⟨gl, 0, none⟩) n lc)).setCell (p := ⟨w.heap.size + 1, 1, none⟩) (by show w.heap.size ≤ w.heap.size + 1; omega) (.slice CA q.com.length cd)
    have hq9 := (hQ8.other (o := 0) (u := .slice (some ⟨gl, 0, none⟩) n lc) hk10 (by omega)).other (o := 1) (u := .slice CA q.com.length cd) (hk10.set_ 0 _) (by omega)
    obtain ⟨w9, hw9⟩ : ∃ w9, w9 = (w8.setCell ⟨w.heap.size + 1, 0, none⟩ (.slice (some ⟨gl, 0, none⟩) n lc)).setCell ⟨w.heap.size + 1, 1, none⟩ (.slice CA q.com.length cd) := ⟨_, rfl⟩
    rw [← hw9] at hk9 hb9 hq9 ⊢
    have e0 : w9.cell? ⟨w.heap.size + 1, 0, none⟩ = some (.slice (some ⟨gl, 0, none⟩) n lc) := hk9.at_ 0 rfl
    have e1 : w9.cell? ⟨w.heap.size + 1, 1, none⟩ = some (.slice CA q.com.length cd) := hk9.at_ 1 rfl
    refine bodyPost_ret (v := .tuple #[.agg #[.slice (some ⟨gl, 0, none⟩) n lc, .slice CA q.com.length cd], .int .i64 0]) (by simp [results, Try.results16, go_sem, e0, e1]) rfl ?_
    rw [HE1.out hlen]
    exact hq9.retF hb9
  · obtain ⟨gx, curx, rfl, hgx1, hgx2, hbx, hgs⟩ := hox.blk rfl (by omega)
    have hs1 : (2 : Int) ≤ ((own.length : Nat) : Int) := by omega
    have hs2 : ¬ cx = 2 := by omega
    have hs3 : ((own.length : Nat) : Int) ≤ (cx : Int) := by omega
    have hcx2 : (2 : Int) ≤ (cx : Int) := by omega
    have HL4 : Hid (own.length = 4) := Lib.hid (by omega)
    have HQ6 : Hid (QM w6.drew w.heap.size w.heap.size (.slice (some ⟨gl, 0, none⟩) n lc) (.slice CA q.com.length cd) vs q) := HQM.out
    obtain ⟨-, -, -, -, -, hco⟩ := HQM.out.com
    have HCO : Hid (Own (α := Int) w6.drew w.heap.size 3 (fun _ => False) (.slice CA q.com.length cd) q.com) := hco
    have HSR : Hid (Src (α := Int) w6.drew (fun _ => False) (some ⟨gx, 0, none⟩) 2 (own.take 2)) := (Own.src hox rfl).take_ (by omega)
    have HK6 : Hid (Blk w6.drew (w.heap.size + 1) 26 #[.slice none 0 0, .slice none 0 0]) := hk6
    have HB7 : Hid (Below w.heap.size w w6.drew) := below_drewN hb7 1
    have hz7 := hb7.size
    have hqc : q.com.length ≤ 8 := by rw [hcl.out]; exact hm8
    clear hox hco hk6 hb7 hbx
    go_wp2
    go_region_law (first
      | (refine step_cat (α := Int) rfl (.tmp 59) (.tmp 64) 24 rfl w.heap.size 3 i0 (.int .i64 0) 8 Try.underlying24 HI.out.1 HI.out.2.1 HI.out.2.2.1 HI.out.2.2.2 rfl (by decide) (fun _ => False) _ q.com (own.take 2) (some ⟨gx, 0, none⟩) 2 cx (by rfl) HCO.out (by rfl) HSR.out (fun b hb => hb.elim) hz7 (by unfold maxLen; omega) (by omega) ?_
         intro v7 w7 hown7 hg7 hat7
         obtain ⟨Y, cy, hv7, hcy, hcy', -⟩ := hown7.slice
         have e2 : (q.com ++ own.take 2).length = q.com.length + 2 := by simp; omega
         rw [e2] at hv7
         subst hv7
         have hbx7 := HQ6.out.1.grown hg7 (HCO.out.ne HQ6.out.1 (by decide))
         have c7 : w7.cell? ⟨w.heap.size, 1, none⟩ = some (.slice CA q.com.length cd) := hbx7.at_ 1 rfl
         have c7f : w7.frozen? ⟨w.heap.size, 1, none⟩ = false := hbx7.frozen 1
         have HQ7 := Lib.hid (HQ6.out.growCom hg7 hat7 hown7)
         have HB8 := Lib.hid (own_below HCO.out HB7.out hg7 (Nat.le_refl _) hz7)
         have HK8 := Lib.hid (HK6.out.grown hg7 (HCO.out.ne HK6.out (by decide)))
         clear hown7 hg7 hat7 hbx7))
    all_goals (
      obtain ⟨w8, hw8⟩ : ∃ w8, w8 = w7.setCell ⟨w.heap.size, 1, none⟩ (.slice Y (q.com.length + 2) cy) := ⟨_, rfl⟩
      rw [← hw8]
      have hQ8 : QM w8 w.heap.size w.heap.size (.slice (some ⟨gl, 0, none⟩) n lc) (.slice Y (q.com.length + 2) cy) vs ⟨q.loc, q.com ++ own.take 2⟩ := by rw [hw8]; exact HQ7.out
      have hb8 : Below w.heap.size w w8 := by rw [hw8]; exact HB8.out.setCell (Nat.le_refl _) _
      have hk8 : Blk w8 (w.heap.size + 1) 26 #[.slice none 0 0, .slice none 0 0] := by
        rw [hw8]
        exact HK8.out.far (p := ⟨w.heap.size, 1, none⟩) (by show w.heap.size + 1 ≠ w.heap.size; omega) _
      have hz8 := hb8.size
      have z1 : w8.cell? ⟨w.heap.size, 1, none⟩ = some (.slice Y (q.com.length + 2) cy) := hQ8.1.at_ 1 rfl
      obtain ⟨-, -, -, -, -, hco8⟩ := hQ8.com
      have HCO8 : Hid (Own (α := Int) w8 w.heap.size 3 (fun _ => False) (.slice Y (q.com.length + 2) cy) (q.com ++ own.take 2)) := hco8
      have HQ8 := Lib.hid hQ8
      clear hw8 c7 c7f hco8 hQ8 b0 b1 hcl6 hfr6
      go_upto_region 11 with (at_builtin; refine wpList_push (α := Int) rfl (.tmp 68) (.tmp 70) 24 rfl w.heap.size 3 i0 (.int .i64 0) 8 Try.underlying24 HI.out.1 HI.out.2.1 HI.out.2.2.1 HI.out.2.2.2 rfl (by decide) (fun _ => False) _ (q.com ++ own.take 2) g [.int .i64 g] w8.heap.size 1 rfl (HCO8.out.alloc (.cells #[.int .i64 g] 3) false_lt) rfl rfl (cell_new w8 #[.int .i64 g] 3 rfl) (by simp [Value.oneCell']) (fun b hb => hb.elim) (by simp; omega) (by rw [e2]; unfold maxLen; omega) (by rw [e2]; omega) ?_; intro v9 w9 hown9 hg9 hat9; obtain ⟨Z, cz, hv9, hcz, hcz', -⟩ := hown9.slice; rw [List.length_append, e2, List.length_singleton] at hv9; subst hv9; have hA := HQ8.out.ext ((Below.refl w8.heap.size w8).alloc (Nat.le_refl _) (.cells #[.int .i64 g] 3)); have hbx9 := hA.1.grown hg9 ((HCO8.out.alloc (.cells #[.int .i64 g] 3) false_lt).ne hA.1 (by decide)); have c9 : w9.cell? ⟨w.heap.size, 1, none⟩ = some (.slice Y (q.com.length + 2) cy) := hbx9.at_ 1 rfl; have c9f : w9.frozen? ⟨w.heap.size, 1, none⟩ = false := hbx9.frozen 1; have HQ9 := Lib.hid (hA.growCom hg9 hat9 hown9); have HB9 := Lib.hid (own_below (HCO8.out.alloc (.cells #[.int .i64 g] 3) false_lt) (hb8.alloc hz8 _) hg9 (Nat.le_refl _) (by simp; omega)); have HK9 := Lib.hid ((hk8.alloc (.cells #[.int .i64 g] 3)).grown hg9 ((HCO8.out.alloc (.cells #[.int .i64 g] 3) false_lt).ne (hk8.alloc _) (by decide))); clear hown9 hg9 hat9 hbx9 hA)
      obtain ⟨w10, hw10⟩ : ∃ w10, w10 = w9.setCell ⟨w.heap.size, 1, none⟩ (.slice Z (q.com.length + 2 + 1) cz) := ⟨_, rfl⟩
      rw [← hw10]
      have hQ10 : QM w10 w.heap.size w.heap.size (.slice (some ⟨gl, 0, none⟩) n lc) (.slice Z (q.com.length + 2 + 1) cz) vs ⟨q.loc, q.com ++ own.take 2 ++ [g]⟩ := by rw [hw10]; exact HQ9.out
      have hb10 : Below w.heap.size w w10 := by rw [hw10]; exact HB9.out.setCell (Nat.le_refl _) _
      have hk10 : Blk w10 (w.heap.size + 1) 26 #[.slice none 0 0, .slice none 0 0] := by
        rw [hw10]
        exact HK9.out.far (p := ⟨w.heap.size, 1, none⟩) (by show w.heap.size + 1 ≠ w.heap.size; omega) _
      have hz10 := hb10.size
      obtain ⟨y1, y2⟩ := hQ10.qt.cell hvp
      have hox10 := hQ10.2.2.2.1 (p + 1) _ own (by simpa using hvp) (by simpa using hxp)
      obtain ⟨XA, XC, e10, -, -, hsl10⟩ := hox10.sl false_lt
      injection e10 with e10
      subst e10
      have HSL10 : Hid (Sl w10 (lt w10.heap.size) (some ⟨gx, 2, none⟩) (own.length - 2) (own.drop 2)) := by
        refine Lib.hid ?_
        simpa [Rep.size] using hsl10.drop_ (k := 2) (by omega)
      have HQ10 := Lib.hid hQ10
      clear hw10 c9 c9f hQ10 hox10 hsl10 z1
      go_upto_region 12 with (go_at_call 26; refine (clone_any w10 w10.heap.size (own.length - 2) _ (some ⟨gx, 2, none⟩) (own.drop 2) HSL10.out (by unfold maxLen; omega) (by omega) (Nat.le_refl _)).mono ?_; rintro e w11 ⟨v11, rfl, hb11, hown11⟩; obtain ⟨U, cu, hv11, hcu, hcu', -⟩ := hown11.slice; rw [List.length_drop] at hv11; subst hv11; have HT := HQ10.out.fresh hb11 hz10 (p := p) hown11; obtain ⟨t1, t2⟩ := HT.cell hvp)
      obtain ⟨w12, hw12⟩ : ∃ w12, w12 = w11.setCell ⟨gl, p, none⟩ (.slice U (own.length - 2) cu) := ⟨_, rfl⟩
      rw [← hw12]
      have hQ12 : QM w12 w.heap.size w.heap.size (.slice (some ⟨gl, 0, none⟩) n lc) (.slice Z (q.com.length + 2 + 1) cz) (vs.set p (.slice U (own.length - 2) cu)) ⟨q.loc.set p (own.drop 2), q.com ++ own.take 2 ++ [g]⟩ := by
        rw [hw12]
        exact QT.store (q := ⟨q.loc, q.com ++ own.take 2 ++ [g]⟩) HT (by rw [hvn.out]; exact hpn)
      have hb12 : Below w.heap.size w w12 := by rw [hw12]; exact (hb10.trans (hb11.mono hz10)).setCell (by show w.heap.size ≤ gl; omega) _
      have hk12 : Blk w12 (w.heap.size + 1) 26 #[.slice none 0 0, .slice none 0 0] := by
        rw [hw12]
        exact (hk10.below hb11 hk10.lt).far (p := ⟨gl, p, none⟩) (by show w.heap.size + 1 ≠ gl; exact fun e => HGL.out e.symm) _
      clear hw12 t1 t2 y1 y2
      have r0 : w12.cell? ⟨w.heap.size, 0, none⟩ = some (.slice (some ⟨gl, 0, none⟩) n lc) := hQ12.1.at_ 0 rfl
      have r1 : w12.cell? ⟨w.heap.size, 1, none⟩ = some (.slice Z (q.com.length + 2 + 1) cz) := hQ12.1.at_ 1 rfl
      have l0 : w12.cell? ⟨w.heap.size + 1, 0, none⟩ = some (.slice none 0 0) := hk12.at_ 0 rfl
      have l1 : w12.cell? ⟨w.heap.size + 1, 1, none⟩ = some (.slice none 0 0) := hk12.at_ 1 rfl
      have g0 : w12.frozen? ⟨w.heap.size + 1, 0, none⟩ = false := hk12.frozen 0
      have g1 : w12.frozen? ⟨w.heap.size + 1, 1, none⟩ = false := hk12.frozen 1
      go_wp2
      have hk9 := (hk12.set_ 0 (.slice (some ⟨gl, 0, none⟩) n lc)).set_ 1 (.slice Z (q.com.length + 2 + 1) cz)
      have hb9 := (hb12.setCell (p := ⟨w.heap.size + 1, 0, none⟩) (by show w.heap.size ≤ w.heap.size + 1; omega) (.slice (some ⟨gl, 0, none⟩) n lc)).setCell (p := ⟨w.heap.size + 1, 1, none⟩) (by show w.heap.size ≤ w.heap.size + 1; omega) (.slice Z (q.com.length + 2 + 1) cz)
      have hq9 := (hQ12.other (o := 0) (u := .slice (some ⟨gl, 0, none⟩) n lc) hk12 (by omega)).other (o := 1) (u := .slice Z (q.com.length + 2 + 1) cz) (hk12.set_ 0 _) (by omega)
      obtain ⟨w9, hw9⟩ : ∃ w9, w9 = (w12.setCell ⟨w.heap.size + 1, 0, none⟩ (.slice (some ⟨gl, 0, none⟩) n lc)).setCell ⟨w.heap.size + 1, 1, none⟩ (.slice Z (q.com.length + 2 + 1) cz) := ⟨_, rfl⟩
      rw [← hw9] at hk9 hb9 hq9 ⊢
      have e0 : w9.cell? ⟨w.heap.size + 1, 0, none⟩ = some (.slice (some ⟨gl, 0, none⟩) n lc) := hk9.at_ 0 rfl
      have e1 : w9.cell? ⟨w.heap.size + 1, 1, none⟩ = some (.slice Z (q.com.length + 2 + 1) cz) := hk9.at_ 1 rfl
      refine bodyPost_ret (v := .tuple #[.agg #[.slice (some ⟨gl, 0, none⟩) n lc, .slice Z (q.com.length + 2 + 1) cz], .int .i64 0]) (by simp [results, Try.results16, go_sem, e0, e1]) rfl ?_
      rw [HE2.out hlen]
      exact hq9.retF hb9)

end Go.Proofs.Ytepcbgbmmmhglaa

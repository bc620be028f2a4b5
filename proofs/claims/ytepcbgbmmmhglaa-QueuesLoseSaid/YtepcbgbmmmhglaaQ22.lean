/- Add: the reference, where it adds. -/
import Derived.Test.YtepcbgbmmmhglaaQ21
import Derived.Deep.RegionHeld3
namespace Go.Proofs.Ytepcbgbmmmhglaa
open Go.RowKit

set_option maxHeartbeats 8000000 in
theorem refAdd_good (w : World) (B n c m d : Nat) (A C : Option Addr) (q : Qs) (p : Nat) (g : Int) (own : List Int) (hl : Sl w (lt B) A n q.loc) (hc : Sl w (lt B) C m q.com) (hn : n ≤ maxLen) (hB : B ≤ w.heap.size)
    (hv : validQ q = true) (hown : q.loc[p]? = some own) (h0 : 0 ≤ g) (h8 : g < 8) (hq : queuedQ q g = false) (r : Qs) (hr : addQ q p g = some r) :
    Calls Try.prog 17 #[.agg #[.slice A n c, .slice C m d], .int .i64 p, .int .i64 g] w (RetQE r 0 w) := by
  have hll : Hid (q.loc.length = n) := hl.1
  have hcl : Hid (q.com.length = m) := hc.1
  have hpn : p < n := by rw [← hll.out]; exact (List.getElem?_eq_some_iff.1 hown).1
  have hn4 : n ≤ 4 := by rw [← hll.out]; exact (valid_loc hv).2.1
  have hm8 : m ≤ 8 := by rw [← hcl.out]; exact valid_com hv
  have HE1 : Hid (own.length < 4 → r = ⟨q.loc.set p (own ++ [g]), q.com⟩) := fun h => Option.some.inj (hr.symm.trans (addQ_few hv hown h0 h8 hq h))
  have HE2 : Hid (¬ own.length < 4 → r = ⟨q.loc.set p (own.drop 2), q.com ++ own.take 2 ++ [g]⟩) := fun h => Option.some.inj (hr.symm.trans (addQ_many hv hown h0 h8 hq h))
  have HR := Lib.hid (valid_row8 hv)
  have HV := Lib.hid hv
  have HNQ : Hid (∀ j : Nat, (allQ q)[j]? ≠ some g) := by
    refine Lib.hid fun j hj => ?_
    rw [queuedQ_all] at hq
    rw [List.contains_iff_mem.2 (List.mem_of_getElem? hj)] at hq
    cases hq
  clear hq
  have HOW := Lib.hid hown
  clear hv hown hr
  unfold maxLen at hn
  obtain ⟨i0, hi, hz0, hz1, hz2⟩ := info_parts info_int
  have HI := Lib.hid (And.intro hi (And.intro hz0 (And.intro hz1 hz2)))
  clear hi hz0 hz1 hz2
  have hal8 := allQ_len HV.out
  have d1 : decide ((p : Int) < 0) = false := decide_eq_false (by omega)
  have d2 : decide ((n : Int) ≤ (p : Int)) = false := decide_eq_false (by omega)
  have d3 : decide (g < 0) = false := decide_eq_false (by omega)
  have d4 : decide (8 ≤ g) = false := decide_eq_false (by omega)
  have hp0 : (0 : Int) ≤ (p : Int) := Int.natCast_nonneg _
  have hp1 : (p : Int) < (n : Int) := by omega
  clear h0 h8
  go_enter Try.func17, Try.ntmps17
  go_upto_region 1 with fail
  obtain ⟨w0, hw0⟩ : ∃ w0, w0 = (w.alloc (.cells #[.slice A n c, .slice C m d] 26)).alloc (.cells #[.slice none 0 0, .slice none 0 0] 26) := ⟨_, rfl⟩
  rw [← hw0]
  have hb0 : Below w.heap.size w w0 := by rw [hw0]; exact ((Below.refl _ _).alloc (Nat.le_refl _) _).alloc (by simp) _
  have hk0 : Blk w0 w.heap.size 26 #[.slice A n c, .slice C m d] := by rw [hw0]; exact (Blk.new _ _ _).alloc _
  have hk1 : Blk w0 (w.heap.size + 1) 26 #[.slice none 0 0, .slice none 0 0] := by rw [hw0]; exact heap_alloc_new' _ _ (by simp)
  clear hw0
  have a0 : w0.cell? ⟨w.heap.size, 0, none⟩ = some (.slice A n c) := hk0.at_ 0 rfl
  have a1 : w0.cell? ⟨w.heap.size, 1, none⟩ = some (.slice C m d) := hk0.at_ 1 rfl
  have hz0 := hb0.size
  go_wp2_with fail
  refine (refValid_b w0 B n c m d A C HV.out (hl.below (hb0.mono hB)) (hc.below (hb0.mono hB)) (by unfold maxLen; omega) (by unfold maxLen; omega) (by omega) (Nat.le_trans hB hz0)).mono ?_
  rintro e w1 ⟨rfl, hb1⟩
  have hk0' := hk0.below hb1 hk0.lt
  have hk1' := hk1.below hb1 hk1.lt
  have hb2 : Below w.heap.size w w1 := hb0.trans (hb1.mono hz0)
  have hz2 := hb2.size
  clear a0 a1 hk0 hk1
  have a0 : w1.cell? ⟨w.heap.size, 0, none⟩ = some (.slice A n c) := hk0'.at_ 0 rfl
  have a1 : w1.cell? ⟨w.heap.size, 1, none⟩ = some (.slice C m d) := hk0'.at_ 1 rfl
  go_wp2_with fail
  refine (all_any w1 B n c m d A C q (hl.below (hb2.mono hB)) (hc.below (hb2.mono hB)) (by unfold maxLen; omega) (by unfold maxLen; omega) (by omega) (Nat.le_trans hB hz2)).mono ?_
  rintro e w3 ⟨v3, rfl, hb3, hown3⟩
  have hb4 : Below w.heap.size w w3 := hb2.trans (hb3.mono hz2)
  have hk0 := hk0'.below hb3 hk0'.lt
  have hk1 := hk1'.below hb3 hk1'.lt
  clear a0 a1 hk0' hk1'
  have a0 : w3.cell? ⟨w.heap.size, 0, none⟩ = some (.slice A n c) := hk0.at_ 0 rfl
  have a1 : w3.cell? ⟨w.heap.size, 1, none⟩ = some (.slice C m d) := hk0.at_ 1 rfl
  have hz3 := hb4.size
  obtain ⟨LA, lc, rfl, hlc, hlc', HSL⟩ := hown3.sl false_lt
  obtain ⟨l, hle⟩ : ∃ l, l = (allQ q).length := ⟨_, rfl⟩
  rw [← hle] at HSL hlc hal8 ⊢
  clear hown3 hle
  go_wp2
  go_loop [9] (fun i => ∃ k : Nat, k ≤ l ∧ i = .int .i64 k) (fun i => l - (intOf i).toNat)
  case atStart => exact ⟨0, Nat.zero_le _, rfl⟩
  case round =>
    obtain ⟨k, hk, rfl⟩ := hrel
    by_cases hlt : k < l
    · obtain ⟨b, o, rfl, hb, y, hy, hcell⟩ := HSL.int hlt
      have hb9 : (y == g) = false := by
        have h := HNQ.out k
        rw [hy] at h
        have : ¬ y = g := fun e => h (by rw [e])
        simpa using this
      clear hy
      go_wp2
      go_round
      case rel => exact ⟨k + 1, by omega, by go_num⟩
      case measure => simp [intOf]; omega
    · obtain rfl : k = l := by omega
      go_wp2_with fail
      refine (copy_any w3 B n c m d A C q (hl.below (hb4.mono hB)) (hc.below (hb4.mono hB)) (by omega) (by omega) HR.out (Nat.le_trans hB hz3)).mono ?_
      rintro e w5 ⟨v5, rfl, hb5, lv, cv, vs, rfl, hlo5, hr5⟩
      obtain ⟨LA, lc, rfl, hlc, hlc63, -⟩ := hlo5.slice
      obtain ⟨CA, cd, rfl, hcd, hcd63, -⟩ := (hr5.2.1 0 cv q.com rfl rfl).slice
      have hk1' := hk1.below hb5 hk1.lt
      have hb6 : Below w.heap.size w w5 := hb4.trans (hb5.mono hz3)
      clear a0 a1 hk0 hk1
      have hz5 := hb6.size
      go_upto_region 10 with fail
      obtain ⟨go, hgo⟩ : ∃ go, go = w5.heap.size := ⟨_, rfl⟩
      obtain ⟨w6, hw6⟩ : ∃ w6, w6 = w5.alloc (.cells #[.slice LA vs.length lc, .slice CA q.com.length cd] 26) := ⟨_, rfl⟩
      rw [← hw6, ← hgo]
      have hQ : QM w6 w.heap.size go (.slice LA vs.length lc) (.slice CA q.com.length cd) vs q := by
        rw [hw6]
        exact ⟨heap_alloc_new' _ _ hgo, (hlo5.base hz3).alloc _ false_lt, Rows.ext ⟨hr5.1, fun i v xs hv hx => (hr5.2.1 i v xs hv hx).base hz3, hr5.2.2⟩ ((Below.refl w5.heap.size w5).alloc (Nat.le_refl _) _)⟩
      have hk6 : Blk w6 (w.heap.size + 1) 26 #[.slice none 0 0, .slice none 0 0] := by
        rw [hw6]
        exact hk1'.alloc _
      have hb7 : Below w.heap.size w w6 := by rw [hw6]; exact hb6.alloc hz5 _
      have hgo1 : w.heap.size + 1 < go := by rw [hgo]; exact hk1'.lt
      clear hw6 hk1' hlo5 hr5 hgo
      have hvn : Hid (vs.length = n) := Lib.hid (hQ.len.trans hll.out)
      obtain ⟨gl, lc', X, xs, cx, hlv, hvp, hxp, hcl6, hfr6, hox, hgl1, hgl2, hgl3, hlc', hlc'', hcx, hcx'⟩ := hQ.row (p := p) (by rw [hll.out]; exact hpn)
      injection hlv with hlv1 hlv2 hlv3
      subst hlv1
      subst hlv3
      obtain rfl : own = xs := Option.some.inj (HOW.out.symm.trans hxp)
      rw [hQ.len, hll.out] at hQ
      have b0 : w6.cell? ⟨go, 0, none⟩ = some (.slice (some ⟨gl, 0, none⟩) n lc) := hQ.1.at_ 0 rfl
      have b1 : w6.cell? ⟨go, 1, none⟩ = some (.slice CA q.com.length cd) := hQ.1.at_ 1 rfl
      have hx4 : own.length ≤ 4 := valid_row HV.out (List.mem_of_getElem? hxp)
      have HQM := Lib.hid hQ
      have HGL : Hid (gl ≠ w.heap.size + 1) := fun e => hQ.2.1.ne hk6 (by decide) (by rw [← e]; rfl)
      have hne1 : ¬ go = gl := fun e => hgl3 e.symm
      have hz7 := hb7.size
      have HQ6 : Hid (QM w6.drew w.heap.size go (.slice (some ⟨gl, 0, none⟩) n lc) (.slice CA q.com.length cd) vs q) := hQ
      have HK6 : Hid (Blk w6.drew (w.heap.size + 1) 26 #[.slice none 0 0, .slice none 0 0]) := hk6
      have HB7 : Hid (Below w.heap.size w w6.drew) := below_drewN hb7 1
      have HOX : Hid (Own (α := Int) w6.drew w.heap.size 3 (fun _ => False) (.slice X own.length cx) own) := hox
      clear hQ
      by_cases hlen : own.length < 4
      · go_wp2
        have hA0 : QM (w6.alloc (.cells #[.int .i64 g] 3)) w.heap.size go (.slice (some ⟨gl, 0, none⟩) n lc) (.slice CA q.com.length cd) vs q := HQM.out.ext ((Below.refl w6.heap.size w6).alloc (Nat.le_refl _) (.cells #[.int .i64 g] 3))
        have HA : Hid (QM (w6.alloc (.cells #[.int .i64 g] 3)).drew w.heap.size go (.slice (some ⟨gl, 0, none⟩) n lc) (.slice CA q.com.length cd) vs q) := hA0
        clear hA0
        have HOA : Hid (Own (α := Int) (w6.alloc (.cells #[.int .i64 g] 3)).drew w.heap.size 3 (fun _ => False) (.slice X own.length cx) own) := HOX.out.alloc (.cells #[.int .i64 g] 3) false_lt
        have HSA : Hid (Src (α := Int) (w6.alloc (.cells #[.int .i64 g] 3)).drew (fun _ => False) (some ⟨w6.heap.size, 0, none⟩) 1 [g]) := src_int1 ((Blk.new w6 3 #[.int .i64 g]).at_ 0 rfl)
        have HBA : Hid (Below w.heap.size w (w6.alloc (.cells #[.int .i64 g] 3)).drew) := below_drewN (hb7.alloc hz7 _) 1
        have HKA : Hid (Blk (w6.alloc (.cells #[.int .i64 g] 3)).drew (w.heap.size + 1) 26 #[.slice none 0 0, .slice none 0 0]) := hk6.alloc _
        have hsA : w.heap.size ≤ (w6.alloc (.cells #[.int .i64 g] 3)).drew.heap.size := HBA.out.size
        clear hb7 hk6 hox
        go_region_held3 (fun w' => w'.cell? ⟨go, 0, none⟩ = some (.slice (some ⟨gl, 0, none⟩) n lc)) (go_keep)
          (first
            | (refine step_cat (α := Int) rfl (.tmp 63) (.tmp 65) 24 rfl w.heap.size 3 i0 (.int .i64 0) 8 Try.underlying24 HI.out.1 HI.out.2.1 HI.out.2.2.1 HI.out.2.2.2 rfl (by decide) (fun _ => False) _ own [g] (some ⟨w6.heap.size, 0, none⟩) 1 1 (by rfl) HOA.out (by rfl) HSA.out (fun b hb => hb.elim) hsA (by unfold maxLen; omega) (by omega) ?_
               intro v7 w7 hown7 hg7 hat7
               obtain ⟨Y, cy, hv7, hcy, hcy', -⟩ := hown7.slice
               rw [List.length_append, List.length_singleton] at hv7
               subst hv7
               have HT := Lib.hid (HA.out.grow hvp hg7 hat7 hown7)
               have s7 : w7.cell? ⟨go, 0, none⟩ = some (.slice (some ⟨gl, 0, none⟩) n lc) := HT.out.1.at_ 0 rfl
               obtain ⟨t1, t2⟩ := HT.out.cell hvp
               have HB8 := Lib.hid (own_below HOA.out HBA.out hg7 (Nat.le_refl _) hsA)
               have HK8 := Lib.hid (HKA.out.grown hg7 (HOA.out.ne HKA.out (by decide)))
               clear hown7 hg7 hat7))
        obtain ⟨w8, hw8⟩ : ∃ w8, w8 = w7.setCell ⟨gl, p, none⟩ (.slice Y (own.length + 1) cy) := ⟨_, rfl⟩
        rw [← hw8]
        have hQ8 : QM w8 w.heap.size go (.slice (some ⟨gl, 0, none⟩) n lc) (.slice CA q.com.length cd) (vs.set p (.slice Y (own.length + 1) cy)) ⟨q.loc.set p (own ++ [g]), q.com⟩ := by
          rw [hw8]
          exact HT.out.store (by rw [hvn.out]; exact hpn)
        have hb10 : Below w.heap.size w w8 := by rw [hw8]; exact HB8.out.setCell (by show w.heap.size ≤ gl; omega) _
        have hk10 : Blk w8 (w.heap.size + 1) 26 #[.slice none 0 0, .slice none 0 0] := by
          rw [hw8]
          exact HK8.out.far (p := ⟨gl, p, none⟩) (by show w.heap.size + 1 ≠ gl; exact fun e => HGL.out e.symm) _
        clear hw8 t1 t2 b0 b1 s7
        have r0 : w8.cell? ⟨go, 0, none⟩ = some (.slice (some ⟨gl, 0, none⟩) n lc) := hQ8.1.at_ 0 rfl
        have r1 : w8.cell? ⟨go, 1, none⟩ = some (.slice CA q.com.length cd) := hQ8.1.at_ 1 rfl
        have l0 : w8.cell? ⟨w.heap.size + 1, 0, none⟩ = some (.slice none 0 0) := hk10.at_ 0 rfl
        have l1 : w8.cell? ⟨w.heap.size + 1, 1, none⟩ = some (.slice none 0 0) := hk10.at_ 1 rfl
        have g0 : w8.frozen? ⟨w.heap.size + 1, 0, none⟩ = false := hk10.frozen 0
        have g1 : w8.frozen? ⟨w.heap.size + 1, 1, none⟩ = false := hk10.frozen 1
        go_wp2
        have hk9 := (hk10.set_ 0 (.slice (some ⟨gl, 0, none⟩) n lc)).set_ 1 (.slice CA q.com.length cd)
        have hb9 := (hb10.setCell (p := ⟨w.heap.size + 1, 0, none⟩) (by show w.heap.size ≤ w.heap.size + 1; omega) (.slice (some ⟨gl, 0, none⟩) n lc)).setCell (p := ⟨w.heap.size + 1, 1, none⟩) (by show w.heap.size ≤ w.heap.size + 1; omega) (.slice CA q.com.length cd)
        have hq9 := (hQ8.other (o := 0) (u := .slice (some ⟨gl, 0, none⟩) n lc) hk10 (by omega)).other (o := 1) (u := .slice CA q.com.length cd) (hk10.set_ 0 _) (by omega)
        obtain ⟨w9, hw9⟩ : ∃ w9, w9 = (w8.setCell ⟨w.heap.size + 1, 0, none⟩ (.slice (some ⟨gl, 0, none⟩) n lc)).setCell ⟨w.heap.size + 1, 1, none⟩ (.slice CA q.com.length cd) := ⟨_, rfl⟩
        rw [← hw9] at hk9 hb9 hq9 ⊢
        have e0 : w9.cell? ⟨w.heap.size + 1, 0, none⟩ = some (.slice (some ⟨gl, 0, none⟩) n lc) := hk9.at_ 0 rfl
        have e1 : w9.cell? ⟨w.heap.size + 1, 1, none⟩ = some (.slice CA q.com.length cd) := hk9.at_ 1 rfl
        refine bodyPost_ret (v := .tuple #[.agg #[.slice (some ⟨gl, 0, none⟩) n lc, .slice CA q.com.length cd], .int .i64 0]) (by simp [results, Try.results17, go_sem, e0, e1]) rfl ?_
        rw [HE1.out hlen]
        exact hq9.ret hb9
      · obtain ⟨gx, curx, rfl, hgx1, hgx2, hbx, hgs⟩ := hox.blk rfl (by omega)
        have hs1 : (2 : Int) ≤ ((own.length : Nat) : Int) := by omega
        have hs2 : ¬ cx = 2 := by omega
        have hs3 : ((own.length : Nat) : Int) ≤ (cx : Int) := by omega
        have hcx2 : (2 : Int) ≤ (cx : Int) := by omega
        have e2 : (q.com ++ own.take 2).length = q.com.length + 2 := by simp; omega
        have hqc : q.com.length ≤ 8 := by rw [hcl.out]; exact hm8
        obtain ⟨-, -, -, -, -, hco⟩ := HQM.out.com
        have HCO : Hid (Own (α := Int) w6.drew w.heap.size 3 (fun _ => False) (.slice CA q.com.length cd) q.com) := hco
        have HCOA : Hid (Own (α := Int) ((w6.alloc (.cells #[.int .i64 g] 3)).drew) w.heap.size 3 (fun _ => False) (.slice CA q.com.length cd) q.com) := hco.alloc (.cells #[.int .i64 g] 3) false_lt
        have HSR : Hid (Src (α := Int) w6.drew (fun _ => False) (some ⟨gx, 0, none⟩) 2 (own.take 2)) := (Own.src hox rfl).take_ (by omega)
        have HSRA : Hid (Src (α := Int) ((w6.alloc (.cells #[.int .i64 g] 3)).drew) (fun _ => False) (some ⟨gx, 0, none⟩) 2 (own.take 2)) := (Own.src (hox.alloc (.cells #[.int .i64 g] 3) false_lt) rfl).take_ (by omega)
        have hA0 : QM (w6.alloc (.cells #[.int .i64 g] 3)) w.heap.size go (.slice (some ⟨gl, 0, none⟩) n lc) (.slice CA q.com.length cd) vs q := HQM.out.ext ((Below.refl w6.heap.size w6).alloc (Nat.le_refl _) (.cells #[.int .i64 g] 3))
        have HA : Hid (QM ((w6.alloc (.cells #[.int .i64 g] 3)).drew) w.heap.size go (.slice (some ⟨gl, 0, none⟩) n lc) (.slice CA q.com.length cd) vs q) := hA0
        have bA : (w6.alloc (.cells #[.int .i64 g] 3)).cell? ⟨go, 1, none⟩ = some (.slice CA q.com.length cd) := hA0.1.at_ 1 rfl
        have HBA : Hid (Below w.heap.size w ((w6.alloc (.cells #[.int .i64 g] 3)).drew)) := below_drewN (hb7.alloc hz7 _) 1
        have HKA : Hid (Blk ((w6.alloc (.cells #[.int .i64 g] 3)).drew) (w.heap.size + 1) 26 #[.slice none 0 0, .slice none 0 0]) := hk6.alloc _
        have HGA : Hid (Blk ((w6.alloc (.cells #[.int .i64 g] 3)).drew) w6.heap.size 3 #[.int .i64 g]) := Blk.new w6 3 #[.int .i64 g]
        have hsA : w.heap.size ≤ ((w6.alloc (.cells #[.int .i64 g] 3)).drew).heap.size := HBA.out.size
        have hsB : w.heap.size ≤ w6.drew.heap.size := hz7
        clear hb7 hk6 hox hco hbx hA0
        go_wp2
        go_region_law (first
            | (refine step_cat (α := Int) rfl (.tmp 70) (.tmp 72) 24 rfl w.heap.size 3 i0 (.int .i64 0) 8 Try.underlying24 HI.out.1 HI.out.2.1 HI.out.2.2.1 HI.out.2.2.2 rfl (by decide) (fun _ => False) _ q.com (own.take 2) (some ⟨gx, 0, none⟩) 2 cx (by rfl) HCO.out (by rfl) HSR.out (fun b hb => hb.elim) hsB (by unfold maxLen; omega) (by omega) ?_
               intro v7 w7 hown7 hg7 hat7
               obtain ⟨Y, cy, hv7, hcy, hcy', -⟩ := hown7.slice
               rw [e2] at hv7
               subst hv7
               have HT7 : Hid (QT w7 w.heap.size go (.slice (some ⟨gl, 0, none⟩) n lc) (.slice CA q.com.length cd) vs (.slice Y (q.com.length + 2) cy :: vs) ((q.com ++ own.take 2) :: q.loc)) := QT.grow (i := 0) HQ6.out.qt rfl hg7 hat7 hown7
               have HCO7 := Lib.hid hown7
               have HB7' := Lib.hid (own_below HCO.out HB7.out hg7 (Nat.le_refl _) hsB)
               have HK7 := Lib.hid (HK6.out.grown hg7 (HCO.out.ne HK6.out (by decide)))
               have hz9 := HB7'.out.size
               clear hown7 hg7 hat7)
            | (refine step_cat (α := Int) rfl (.tmp 73) (.tmp 75) 24 rfl w.heap.size 3 i0 (.int .i64 0) 8 Try.underlying24 HI.out.1 HI.out.2.1 HI.out.2.2.1 HI.out.2.2.2 rfl (by decide) (fun _ => False) _ (q.com ++ own.take 2) [g] (some ⟨w7.heap.size, 0, none⟩) 1 1 (by rfl) (HCO7.out.alloc (.cells #[.int .i64 g] 3) false_lt) (by rfl) (src_int1 ((Blk.new w7 3 #[.int .i64 g]).at_ 0 rfl)) (fun b hb => hb.elim) (by simp; omega) (by rw [e2]; unfold maxLen; omega) (by rw [e2]; omega) ?_
               intro v8 w8 hown8 hg8 hat8
               obtain ⟨Z, cz, hv8, hcz, hcz', -⟩ := hown8.slice
               rw [List.length_append, e2, List.length_singleton] at hv8
               subst hv8
               have HT8 : Hid (QT w8 w.heap.size go (.slice (some ⟨gl, 0, none⟩) n lc) (.slice CA q.com.length cd) vs (.slice Z (q.com.length + 2 + 1) cz :: vs) ((q.com ++ own.take 2 ++ [g]) :: q.loc)) := QT.grow (i := 0) (HT7.out.ext ((Below.refl w7.heap.size w7).alloc (Nat.le_refl _) (.cells #[.int .i64 g] 3))) rfl hg8 hat8 hown8
               have s8 : w8.cell? ⟨go, 1, none⟩ = some (.slice CA q.com.length cd) := HT8.out.1.at_ 1 rfl
               have s8f : w8.frozen? ⟨go, 1, none⟩ = false := HT8.out.1.frozen 1
               have HB8 : Hid (Below w.heap.size w w8) := own_below (HCO7.out.alloc (.cells #[.int .i64 g] 3) false_lt) (HB7'.out.alloc hz9 _) hg8 (Nat.le_refl _) (by simp; omega)
               have HK8 : Hid (Blk w8 (w.heap.size + 1) 26 #[.slice none 0 0, .slice none 0 0]) := (HK7.out.alloc (.cells #[.int .i64 g] 3)).grown hg8 ((HCO7.out.alloc (.cells #[.int .i64 g] 3) false_lt).ne (HK7.out.alloc _) (by decide))
               clear hown8 hg8 hat8)
            | (refine step_cat (α := Int) rfl (.tmp 70) (.tmp 72) 24 rfl w.heap.size 3 i0 (.int .i64 0) 8 Try.underlying24 HI.out.1 HI.out.2.1 HI.out.2.2.1 HI.out.2.2.2 rfl (by decide) (fun _ => False) _ q.com (own.take 2) (some ⟨gx, 0, none⟩) 2 cx (by rfl) HCOA.out (by rfl) HSRA.out (fun b hb => hb.elim) hsA (by unfold maxLen; omega) (by omega) ?_
               intro v7 w7 hown7 hg7 hat7
               obtain ⟨Y, cy, hv7, hcy, hcy', -⟩ := hown7.slice
               rw [e2] at hv7
               subst hv7
               have HT7 : Hid (QT w7 w.heap.size go (.slice (some ⟨gl, 0, none⟩) n lc) (.slice CA q.com.length cd) vs (.slice Y (q.com.length + 2) cy :: vs) ((q.com ++ own.take 2) :: q.loc)) := QT.grow (i := 0) HA.out.qt rfl hg7 hat7 hown7
               have HCO7 := Lib.hid hown7
               have HB7' := Lib.hid (own_below HCOA.out HBA.out hg7 (Nat.le_refl _) hsA)
               have HK7 := Lib.hid (HKA.out.grown hg7 (HCOA.out.ne HKA.out (by decide)))
               have hz9 := HB7'.out.size
               have SG7 := Lib.hid (HGA.out.grown hg7 (fun e => absurd (HCO.out.lt_ e).2 (Nat.lt_irrefl _)))
               clear hown7 hg7 hat7)
            | (refine step_cat (α := Int) rfl (.tmp 73) (.tmp 75) 24 rfl w.heap.size 3 i0 (.int .i64 0) 8 Try.underlying24 HI.out.1 HI.out.2.1 HI.out.2.2.1 HI.out.2.2.2 rfl (by decide) (fun _ => False) _ (q.com ++ own.take 2) [g] (some ⟨w6.heap.size, 0, none⟩) 1 1 (by rfl) HCO7.out (by rfl) (src_int1 (SG7.out.at_ 0 rfl)) (fun b hb => hb.elim) hz9 (by rw [e2]; unfold maxLen; omega) (by rw [e2]; omega) ?_
               intro v8 w8 hown8 hg8 hat8
               obtain ⟨Z, cz, hv8, hcz, hcz', -⟩ := hown8.slice
               rw [List.length_append, e2, List.length_singleton] at hv8
               subst hv8
               have HT8 : Hid (QT w8 w.heap.size go (.slice (some ⟨gl, 0, none⟩) n lc) (.slice CA q.com.length cd) vs (.slice Z (q.com.length + 2 + 1) cz :: vs) ((q.com ++ own.take 2 ++ [g]) :: q.loc)) := QT.grow (i := 0) HT7.out rfl hg8 hat8 hown8
               have s8 : w8.cell? ⟨go, 1, none⟩ = some (.slice CA q.com.length cd) := HT8.out.1.at_ 1 rfl
               have s8f : w8.frozen? ⟨go, 1, none⟩ = false := HT8.out.1.frozen 1
               have HB8 : Hid (Below w.heap.size w w8) := own_below HCO7.out HB7'.out hg8 (Nat.le_refl _) hz9
               have HK8 : Hid (Blk w8 (w.heap.size + 1) 26 #[.slice none 0 0, .slice none 0 0]) := HK7.out.grown hg8 (HCO7.out.ne HK7.out (by decide))
               clear hown8 hg8 hat8))
        all_goals (
          obtain ⟨w9, hw9⟩ : ∃ w9, w9 = w8.setCell ⟨go, 1, none⟩ (.slice Z (q.com.length + 2 + 1) cz) := ⟨_, rfl⟩
          rw [← hw9]
          have hQ9 : QM w9 w.heap.size go (.slice (some ⟨gl, 0, none⟩) n lc) (.slice Z (q.com.length + 2 + 1) cz) vs ⟨q.loc, q.com ++ own.take 2 ++ [g]⟩ := by rw [hw9]; exact HT8.out.storeCom
          have hb9 : Below w.heap.size w w9 := by rw [hw9]; exact HB8.out.setCell (by show w.heap.size ≤ go; omega) _
          have hk9 : Blk w9 (w.heap.size + 1) 26 #[.slice none 0 0, .slice none 0 0] := by
            rw [hw9]
            exact HK8.out.far (p := ⟨go, 1, none⟩) (by show w.heap.size + 1 ≠ go; omega) _
          have hz9 := hb9.size
          have z0 : w9.cell? ⟨go, 0, none⟩ = some (.slice (some ⟨gl, 0, none⟩) n lc) := hQ9.1.at_ 0 rfl
          have hox9 := hQ9.2.2.2.1 (p + 1) _ own (by simpa using hvp) (by simpa using hxp)
          have HO15 : Hid (Own (α := Int) ((w9.alloc (.cells #[] 3)).drew) w9.heap.size 3 (fun _ => False) (.slice (some ⟨w9.heap.size, 0, none⟩) 0 0) []) := Own.empty (α := Int) w9.drew w9.heap.size 3 (fun _ => False) (Nat.le_refl _)
          have HB15 : Hid (Below w9.heap.size w9 ((w9.alloc (.cells #[] 3)).drew)) := below_drewN ((Below.refl w9.heap.size w9).alloc (Nat.le_refl _) (.cells #[] 3)) 1
          have HS15 : Hid (Src (α := Int) ((w9.alloc (.cells #[] 3)).drew) (fun _ => False) (some ⟨gx, 2, none⟩) (own.length - 2) (own.drop 2)) := by
            refine Lib.hid ?_
            refine Src.drop_ (Own.src (hox9.alloc (.cells #[] 3) false_lt) rfl) (by omega) fun _ b o e => ?_
            injection e with e
            injection e with e1 e2
            subst e1
            subst e2
            rfl
          have hs15 : w9.heap.size ≤ ((w9.alloc (.cells #[] 3)).drew).heap.size := HB15.out.size
          have HQ9 := Lib.hid hQ9
          have HK9 := Lib.hid hk9
          have HB9 := Lib.hid hb9
          clear hw9 hQ9 hk9 hb9 hox9 s8 s8f b0 b1 bA hcl6 hfr6
          go_wp2
          go_region_held3 (fun w' => w'.cell? ⟨go, 0, none⟩ = some (.slice (some ⟨gl, 0, none⟩) n lc)) (go_keep)
            (first
              | (refine step_cat (α := Int) rfl (.tmp 81) (.tmp 83) 24 rfl w9.heap.size 3 i0 (.int .i64 0) 8 Try.underlying24 HI.out.1 HI.out.2.1 HI.out.2.2.1 HI.out.2.2.2 rfl (by decide) (fun _ => False) _ [] (own.drop 2) (some ⟨gx, 2, none⟩) (own.length - 2) (cx - 2) (by rfl) HO15.out (by rfl) HS15.out (fun b hb => hb.elim) hs15 (by unfold maxLen; simp; omega) (by simp; omega) ?_
                 intro v11 w11 hown11 hg11 hat11
                 rw [List.nil_append] at hown11
                 have hb11 : Below w9.heap.size w9 w11 := own_below HO15.out HB15.out hg11 (Nat.le_refl _) hs15
                 obtain ⟨U, cu, hv11, hcu, hcu', -⟩ := hown11.slice
                 rw [List.length_drop] at hv11
                 subst hv11
                 have HT11 := Lib.hid (HQ9.out.fresh hb11 hz9 (p := p) hown11)
                 have s11 : w11.cell? ⟨go, 0, none⟩ = some (.slice (some ⟨gl, 0, none⟩) n lc) := HT11.out.1.at_ 0 rfl
                 obtain ⟨t1, t2⟩ := HT11.out.cell hvp
                 have HB11 := Lib.hid hb11
                 clear hown11 hg11 hat11 hb11))
          obtain ⟨w12, hw12⟩ : ∃ w12, w12 = w11.setCell ⟨gl, p, none⟩ (.slice U (own.length - 2) cu) := ⟨_, rfl⟩
          rw [← hw12]
          have hQ12 : QM w12 w.heap.size go (.slice (some ⟨gl, 0, none⟩) n lc) (.slice Z (q.com.length + 2 + 1) cz) (vs.set p (.slice U (own.length - 2) cu)) ⟨q.loc.set p (own.drop 2), q.com ++ own.take 2 ++ [g]⟩ := by
            rw [hw12]
            exact QT.store (q := ⟨q.loc, q.com ++ own.take 2 ++ [g]⟩) HT11.out (by rw [hvn.out]; exact hpn)
          have hb12 : Below w.heap.size w w12 := by rw [hw12]; exact (HB9.out.trans (HB11.out.mono hz9)).setCell (by show w.heap.size ≤ gl; omega) _
          have hk12 : Blk w12 (w.heap.size + 1) 26 #[.slice none 0 0, .slice none 0 0] := by
            rw [hw12]
            exact (HK9.out.below HB11.out HK9.out.lt).far (p := ⟨gl, p, none⟩) (by show w.heap.size + 1 ≠ gl; exact fun e => HGL.out e.symm) _
          clear hw12 t1 t2 s11
          have r0 : w12.cell? ⟨go, 0, none⟩ = some (.slice (some ⟨gl, 0, none⟩) n lc) := hQ12.1.at_ 0 rfl
          have r1 : w12.cell? ⟨go, 1, none⟩ = some (.slice Z (q.com.length + 2 + 1) cz) := hQ12.1.at_ 1 rfl
          have l0 : w12.cell? ⟨w.heap.size + 1, 0, none⟩ = some (.slice none 0 0) := hk12.at_ 0 rfl
          have l1 : w12.cell? ⟨w.heap.size + 1, 1, none⟩ = some (.slice none 0 0) := hk12.at_ 1 rfl
          have g0 : w12.frozen? ⟨w.heap.size + 1, 0, none⟩ = false := hk12.frozen 0
          have g1 : w12.frozen? ⟨w.heap.size + 1, 1, none⟩ = false := hk12.frozen 1
          go_wp2
          have hk9 := (hk12.set_ 0 (.slice (some ⟨gl, 0, none⟩) n lc)).set_ 1 (.slice Z (q.com.length + 2 + 1) cz)
          have hb9 := (hb12.setCell (p := ⟨w.heap.size + 1, 0, none⟩) (by show w.heap.size ≤ w.heap.size + 1; omega) (.slice (some ⟨gl, 0, none⟩) n lc)).setCell (p := ⟨w.heap.size + 1, 1, none⟩) (by show w.heap.size ≤ w.heap.size + 1; omega) (.slice Z (q.com.length + 2 + 1) cz)
          have hq9 := (hQ12.other (o := 0) (u := .slice (some ⟨gl, 0, none⟩) n lc) hk12 (by omega)).other (o := 1) (u := .slice Z (q.com.length + 2 + 1) cz) (hk12.set_ 0 _) (by omega)
          obtain ⟨w9, hw9⟩ : ∃ w9, w9 = (w12.setCell ⟨w.heap.size + 1, 0, none⟩ (.slice (some ⟨gl, 0, none⟩) n lc)).setCell ⟨w.heap.size + 1, 1, none⟩ (.slice Z (q.com.length + 2 + 1) cz) := ⟨_, rfl⟩
          rw [← hw9] at hk9 hb9 hq9 ⊢
          have e0 : w9.cell? ⟨w.heap.size + 1, 0, none⟩ = some (.slice (some ⟨gl, 0, none⟩) n lc) := hk9.at_ 0 rfl
          have e1 : w9.cell? ⟨w.heap.size + 1, 1, none⟩ = some (.slice Z (q.com.length + 2 + 1) cz) := hk9.at_ 1 rfl
          refine bodyPost_ret (v := .tuple #[.agg #[.slice (some ⟨gl, 0, none⟩) n lc, .slice Z (q.com.length + 2 + 1) cz], .int .i64 0]) (by simp [results, Try.results17, go_sem, e0, e1]) rfl ?_
          rw [HE2.out hlen]
          exact hq9.ret hb9)

end Go.Proofs.Ytepcbgbmmmhglaa

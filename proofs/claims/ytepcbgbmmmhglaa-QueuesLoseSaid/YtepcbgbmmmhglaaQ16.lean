/- Copy. -/
import Derived.Test.YtepcbgbmmmhglaaQ15
import Derived.Deep.RegionHeld3
namespace Go.Proofs.Ytepcbgbmmmhglaa
open Go.RowKit

set_option maxHeartbeats 4000000 in
theorem copy_any (w : World) (B n c m d : Nat) (A C : Option Addr) (q : Qs) (hl : Sl w (lt B) A n q.loc) (hc : Sl w (lt B) C m q.com) (hn : n * 24 ≤ 140737488351232) (hm : m * 8 ≤ 140737488351232) (hr8 : ∀ xs, xs ∈ q.loc → xs.length * 8 ≤ 140737488351232) (hB : B ≤ w.heap.size) :
    Calls Try.prog 15 #[.agg #[.slice A n c, .slice C m d]] w (fun e w' => ∃ v, e = .returned v ∧ Below w.heap.size w w' ∧ QOwn w' w.heap.size v q) := by
  have hn63 : n ≤ 2 ^ 63 - 1 := by omega
  have hll : Hid (q.loc.length = n) := hl.1
  have hcl : Hid (q.com.length = m) := hc.1
  obtain ⟨i0, hi, hz0, hz1, hz2⟩ := info_parts info_int
  have HI := Lib.hid (And.intro hi (And.intro hz0 (And.intro hz1 hz2)))
  clear hi hz0 hz1 hz2
  go_enter Try.func15, Try.ntmps15
  go_upto_region 1 with fail
  obtain ⟨w0, hw0⟩ : ∃ w0, w0 = (w.alloc (.cells #[.slice A n c, .slice C m d] 26)).alloc (.cells #[.slice none 0 0, .slice none 0 0] 26) := ⟨_, rfl⟩
  rw [← hw0]
  have hb0 : Below w.heap.size w w0 := by rw [hw0]; exact ((Below.refl _ _).alloc (Nat.le_refl _) _).alloc (by simp) _
  have hk0 : Blk w0 w.heap.size 26 #[.slice A n c, .slice C m d] := by rw [hw0]; exact (Blk.new _ _ _).alloc _
  have hk1 : Blk w0 (w.heap.size + 1) 26 #[.slice none 0 0, .slice none 0 0] := by rw [hw0]; exact heap_alloc_new' _ _ (by simp)
  clear hw0
  have hz := hb0.size
  have hgl := hk0.lt
  have c1 : w0.cell? ⟨w.heap.size, 1, none⟩ = some (.slice C m d) := hk0.at_ 1 rfl
  have HO := Lib.hid (Own.empty (α := Int) w0 w.heap.size 3 (fun _ => False) hz)
  have HBO := Lib.hid (hb0.alloc hz (.cells #[] 3))
  have HS := Lib.hid ((hc.below (HBO.out.mono hB)).src)
  have HKO := Lib.hid (hk0.alloc (.cells #[] 3))
  have HLO := Lib.hid (hk1.alloc (.cells #[] 3))
  go_upto_region 2 with (at_builtin; refine wpList_cat (α := Int) rfl (.tmp 5) (.tmp 7) 24 rfl w.heap.size 3 i0 (.int .i64 0) 8 Try.underlying24 HI.out.1 HI.out.2.1 HI.out.2.2.1 HI.out.2.2.2 rfl (by decide) (fun _ => False) _ [] q.com C m d rfl HO.out rfl HS.out (fun b hb => hb.elim) HBO.out.size (by unfold maxLen; simp; omega) (by simp; omega) ?_; intro v1 w1 hown1 hg1 hat1; obtain ⟨C1, d1, hv1, hd1, hd2, hC1⟩ := hown1.slice; subst hv1)
  have hb1 : Below w.heap.size w w1 := own_below HO.out HBO.out hg1 (Nat.le_refl _) HBO.out.size
  have hk1' := HKO.out.grown hg1 (HO.out.ne HKO.out (by decide))
  have hl1' := HLO.out.grown hg1 (HO.out.ne HLO.out (by decide))
  rw [List.nil_append] at hd1
  clear hg1 hat1 HO HBO HS HKO HLO c1 hk0 hk1 hb0 hz hgl
  rw [List.nil_append] at hown1
  obtain ⟨go, hgo⟩ : ∃ go, go = w1.heap.size := ⟨_, rfl⟩
  obtain ⟨w2, hw2⟩ : ∃ w2, w2 = w1.alloc (.cells #[.slice none 0 0, .slice C1 q.com.length d1] 26) := ⟨_, rfl⟩
  rw [← hgo, ← hw2]
  have hz1 := hb1.size
  have hb2 : Below w.heap.size w w2 := by rw [hw2]; exact hb1.alloc hz1 _
  have ho2 : Blk w2 go 26 #[.slice none 0 0, .slice C1 q.com.length d1] := by rw [hw2]; exact heap_alloc_new' _ _ hgo
  have hk2 : Blk w2 w.heap.size 26 #[.slice A n c, .slice C m d] := by rw [hw2]; exact hk1'.alloc _
  have hl2 : Blk w2 (w.heap.size + 1) 26 #[.slice none 0 0, .slice none 0 0] := by rw [hw2]; exact hl1'.alloc _
  have hr2 : Rows w2 w.heap.size 3 [.slice C1 q.com.length d1] [q.com] := by
    rw [hw2]
    have h := (Rows.nil w1 w.heap.size 3)
    exact ⟨rfl, fun i v xs hv hx => by
      cases i with
      | succ i => simp at hv
      | zero =>
        simp only [List.getElem?_cons_zero, Option.some.injEq] at hv hx
        subst hv
        subst hx
        exact hown1.alloc _ false_lt, fun i j v u g hij hv hu => by
      have h1 := (List.getElem?_eq_some_iff.1 hv).1
      have h2 := (List.getElem?_eq_some_iff.1 hu).1
      simp at h1 h2
      omega⟩
  have hgoz : w.heap.size + 1 < go := by rw [hgo]; exact hl1'.lt
  clear hw2 hgo hown1 hk1' hl1' hb1 hz1 hC1
  obtain ⟨j0, hj, hy0, hy1, hy2⟩ := info_parts info_ints
  have HJ := Lib.hid (And.intro hj (And.intro hy0 (And.intro hy1 hy2)))
  clear hj hy0 hy1 hy2
  go_wp2
  have HS2 : Hid (CpS w go #[.slice A n c, .slice C m d] #[.slice none 0 0, .slice none 0 0] (.slice C1 q.com.length d1) q 0 w2 (.slice none 0 0) []) := ⟨ho2, Own.nil _ _ _ _, hr2, hk2, hl2, hb2⟩
  go_loopw [4] (fun i wr => ∃ k : Nat, k ≤ n ∧ i = .int .i64 k ∧ ∃ lv vs, CpS w go #[.slice A n c, .slice C m d] #[.slice none 0 0, .slice none 0 0] (.slice C1 q.com.length d1) q k wr lv vs) (fun i _ => n - (intOf i).toNat)
  case atStart => exact ⟨0, Nat.zero_le _, rfl, _, [], HS2.out⟩
  case round =>
    obtain ⟨w4, rfl⟩ : ∃ w4 : World, w4 = wr := ⟨_, rfl⟩
    obtain ⟨k, hk, rfl, lv, vs, hS⟩ := hrel
    have HS4 := Lib.hid hS
    obtain ⟨ho4, hown4, hr4, hk4, hl4, hb4⟩ := hS
    clear ho2 hk2 hl2 hb2 hr2
    have hz4 := hb4.size
    have a0 : w4.cell? ⟨w.heap.size, 0, none⟩ = some (.slice A n c) := hk4.at_ 0 rfl
    obtain ⟨LA, lc, rfl, hlc, hlc63, -⟩ := hown4.slice
    by_cases hlt : k < n
    · have o0 : w4.cell? ⟨go, 0, none⟩ = some (.slice LA vs.length lc) := ho4.at_ 0 rfl
      obtain ⟨b, o, rfl, hbb, xs, X, nx, cx, hx, hcx, hnx, hcx', hsx⟩ := (hl.below (hb4.mono hB)).list_ hlt
      have hvk : Hid (vs.length = k) := by
        refine Lib.hid ?_
        have e := hr4.1
        simp only [List.length_cons, List.length_take] at e
        have := hll.out
        omega
      obtain rfl : nx = xs.length := hsx.1.symm
      have hx8 := hr8 xs (List.mem_of_getElem? hx)
      have hi0 : (0 : Int) ≤ (k : Int) := Int.natCast_nonneg _
      have hi1 : (k : Int) < (n : Int) := by omega
      have hgl4 := ho4.lt
      have hbw : b < w.heap.size := Nat.lt_of_lt_of_le hbb hB
      have hne1 : ¬ w.heap.size = go := by omega
      have hne2 : ¬ b = go := by omega
      have hne3 : ¬ go = w.heap.size := by omega
      have hne4 : ¬ go = b := by omega
      have hne5 : ¬ w4.heap.size = w.heap.size := by omega
      have hne6 : ¬ w4.heap.size = b := by omega
      have HX := Lib.hid hx
      have HO : Hid (Own (α := Int) (w4.alloc (.cells #[] 3)).drew w4.heap.size 3 (fun _ => False) (.slice (some ⟨w4.heap.size, 0, none⟩) 0 0) []) := Own.empty (α := Int) w4.drew w4.heap.size 3 (fun _ => False) (Nat.le_refl _)
      have HBO : Hid (Below w4.heap.size w4 (w4.alloc (.cells #[] 3)).drew) := below_drewL ((Below.refl w4.heap.size w4.drew).alloc (Nat.le_refl _) (.cells #[] 3))
      have HSX := Lib.hid ((hsx.below (HBO.out.mono (by omega))).src)
      have HW4 := Lib.hid hown4
      have HK4 := Lib.hid hk4
      have HG4 := Lib.hid ho4
      have e1 : (w4.alloc (.cells #[] 3)).cell? ⟨w.heap.size, 0, none⟩ = some (.slice (some ⟨b, o, none⟩) n c) := (HBO.out.cell (p := ⟨w.heap.size, 0, none⟩) hk4.lt).trans a0
      have e2 : (w4.alloc (.cells #[] 3)).cell? ⟨b, o + k, none⟩ = some (.slice X xs.length cx) := (HBO.out.cell (p := ⟨b, o + k, none⟩) (by show b < w4.heap.size; omega)).trans hcx
      have e3 : (w4.alloc (.cells #[] 3)).cell? ⟨go, 0, none⟩ = some (.slice LA vs.length lc) := (HBO.out.cell (p := ⟨go, 0, none⟩) hgl4).trans o0
      clear hx hown4 hr4 hk4 hl4 hb4 ho4 hsx
      go_wp2
      go_region_law (first
          | (refine step_cat (α := Int) rfl (.tmp 19) (.tmp 24) 24 rfl w4.heap.size 3 i0 (.int .i64 0) 8 Try.underlying24 HI.out.1 HI.out.2.1 HI.out.2.2.1 HI.out.2.2.2 rfl (by decide) (fun _ => False) _ [] xs X xs.length cx (by simp [Act.eval]) HO.out (by simp [Act.eval]) HSX.out (fun b hb => hb.elim) HBO.out.size (by unfold maxLen; simp; omega) (by simp; omega) ?_
             intro v5 w5 hown5 hg5 hat5
             rw [List.nil_append] at hown5
             have hb5 : Below w4.heap.size w4 w5 := own_below HO.out HBO.out hg5 (Nat.le_refl _) HBO.out.size
             obtain ⟨C5, d5, hv5, hd5, hd5', -⟩ := hown5.slice
             subst hv5
             have s5c : w5.cell? ⟨go, 0, none⟩ = some (.slice LA vs.length lc) := (HG4.out.below hb5 HG4.out.lt).at_ 0 rfl
             have s6c : (w5.alloc (.cells #[.slice C5 xs.length d5] 24)).cell? ⟨go, 0, none⟩ = some (.slice LA vs.length lc) := ((HG4.out.below hb5 HG4.out.lt).alloc _).at_ 0 rfl
             have hz5 := hb5.size
             have HB5 := Lib.hid hb5
             have HR5 := Lib.hid hown5
             clear hb5 hown5 hg5 hat5)
          | (refine step_cat (α := Value) rfl (.tmp 18) (.tmp 26) 23 rfl w.heap.size 24 j0 (.slice none 0 0) 24 Try.underlying23 HJ.out.1 HJ.out.2.1 HJ.out.2.2.1 HJ.out.2.2.2 rfl (by decide) (fun _ => False) _ vs [.slice C5 xs.length d5] (some ⟨w5.heap.size, 0, none⟩) 1 1 (by simp [Act.eval]) ((HW4.out.ext HB5.out false_lt).alloc (.cells #[.slice C5 xs.length d5] 24) false_lt) (by simp [Act.eval]) (src_val rfl ((Blk.new w5 _ _).at_ 0 rfl)) (fun b hb => hb.elim) (by simp; omega) (by have := hvk.out; unfold maxLen; omega) (by have := hvk.out; omega) ?_
             intro v7 w7 hown7 hg7 hat7
             obtain ⟨LB, lb, hv7, hd7, hd7', -⟩ := hown7.slice
             rw [List.length_append, List.length_singleton] at hv7
             subst hv7
             have g7 := blk_grown hg7 (HW4.out.ext HB5.out false_lt) (HG4.out.below HB5.out HG4.out.lt)
             have s7c : w7.cell? ⟨go, 0, none⟩ = some (.slice LA vs.length lc) := g7.at_ 0 rfl
             have s7d : w7.frozen? ⟨go, 0, none⟩ = false := g7.frozen 0
             have HR7 := Lib.hid hown7
             have HG7 := Lib.hid hg7
             clear hown7 hg7 hat7 g7))
      all_goals (
        go_wp2
        go_roundw
        case rel => exact ⟨k + 1, by omega, by go_num, _, _, HS4.out.step hgoz HX.out HB5.out HR5.out HR7.out HG7.out⟩
        case measure => simp [intOf]; omega)
    · obtain rfl : k = n := by omega
      have o0 : w4.cell? ⟨go, 0, none⟩ = some (.slice LA vs.length lc) := ho4.at_ 0 rfl
      have o1 : w4.cell? ⟨go, 1, none⟩ = some (.slice C1 q.com.length d1) := ho4.at_ 1 rfl
      have l0 : w4.cell? ⟨w.heap.size + 1, 0, none⟩ = some (.slice none 0 0) := hl4.at_ 0 rfl
      have l1 : w4.cell? ⟨w.heap.size + 1, 1, none⟩ = some (.slice none 0 0) := hl4.at_ 1 rfl
      have f0 : w4.frozen? ⟨w.heap.size + 1, 0, none⟩ = false := hl4.frozen 0
      have f1 : w4.frozen? ⟨w.heap.size + 1, 1, none⟩ = false := hl4.frozen 1
      go_wp2
      obtain ⟨w5, hw5⟩ : ∃ w5, w5 = (w4.setCell ⟨w.heap.size + 1, 0, none⟩ (.slice LA vs.length lc)).setCell ⟨w.heap.size + 1, 1, none⟩ (.slice C1 q.com.length d1) := ⟨_, rfl⟩
      rw [← hw5]
      have hl5 : Blk w5 (w.heap.size + 1) 26 #[.slice LA vs.length lc, .slice C1 q.com.length d1] := by rw [hw5]; exact (hl4.set_ 0 _).set_ 1 _
      have e0 : w5.cell? ⟨w.heap.size + 1, 0, none⟩ = some (.slice LA vs.length lc) := hl5.at_ 0 rfl
      have e1 : w5.cell? ⟨w.heap.size + 1, 1, none⟩ = some (.slice C1 q.com.length d1) := hl5.at_ 1 rfl
      have hb5 : Below w.heap.size w w5 := by rw [hw5]; exact (hb4.setCell (by show w.heap.size ≤ w.heap.size + 1; omega) _).setCell (by show w.heap.size ≤ w.heap.size + 1; omega) _
      have hown5 : Own (α := Value) w5 w.heap.size 24 (fun _ => False) (.slice LA vs.length lc) vs := by
        rw [hw5]
        exact (hown4.setCell _ (fun h => h) (hown4.ne hl4 (by decide))).setCell _ (fun h => h) (hown4.ne hl4 (by decide))
      have hr5 : Rows w5 w.heap.size 3 (.slice C1 q.com.length d1 :: vs) (q.com :: q.loc.take k) := by
        rw [hw5]
        exact (hr4.setCell _ hl4 (by decide)).setCell _ (hl4.set_ 0 _) (by decide)
      refine bodyPost_ret (v := .agg #[.slice LA vs.length lc, .slice C1 q.com.length d1]) (by simp [results, Try.results15, go_sem, e0, e1]) rfl ?_
      rw [← hll.out, List.take_length] at hr5
      exact ⟨_, rfl, hb5, _, _, vs, rfl, hown5, hr5⟩

end Go.Proofs.Ytepcbgbmmmhglaa

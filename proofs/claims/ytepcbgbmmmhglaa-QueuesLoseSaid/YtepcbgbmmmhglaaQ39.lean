/- If some queue of valid run queues is not empty, Next takes a goroutine. -/
import Derived.Test.YtepcbgbmmmhglaaQ37
namespace Go.Proofs.Ytepcbgbmmmhglaa
open Go.RowKit

theorem victim_onto {n r v : Nat} (hv : v < n) : ∃ i, i < n ∧ victim n r i = v := by
  have ha : r % n < n := Nat.mod_lt _ (by omega)
  rcases Nat.lt_or_ge v (r % n) with h | h
  · refine ⟨v + n - r % n, by omega, ?_⟩
    unfold victim
    rw [show r % n + (v + n - r % n) = v + n by omega, Nat.add_mod_right, Nat.mod_eq_of_lt hv]
  · refine ⟨v - r % n, by omega, ?_⟩
    unfold victim
    rw [show r % n + (v - r % n) = v by omega, Nat.mod_eq_of_lt hv]
theorem flat_pos {xss : List (List Int)} {k : Nat} {xs : List Int} (h : xss[k]? = some xs) (hx : 0 < xs.length) : 0 < xss.flatten.length := by
  have h1 := flat_le (xss := xss) (k := k + 1)
  rw [flat_take h, List.length_append] at h1
  omega
theorem flat_zero {xss : List (List Int)} (h : ∀ (k : Nat) (xs : List Int), xss[k]? = some xs → xs = []) : xss.flatten = [] := by
  rw [List.flatten_eq_nil_iff]
  intro xs hx
  obtain ⟨k, hk⟩ := List.getElem?_of_mem hx
  exact h k xs hk
theorem next_works {q : Qs} {p r : Nat} (hv : validQ q = true) (hp : p < q.loc.length) : (nextQ q p r).isSome = decide (0 < (allQ q).length) := by
  have hx : q.loc[p]? = some q.loc[p] := List.getElem?_eq_getElem hp
  unfold allQ
  rw [List.length_append]
  cases ho : q.loc[p] with
  | cons x rest =>
    rw [ho] at hx
    rw [nextQ_own hv hx]
    have := flat_pos hx (by simp)
    exact (decide_eq_true (by omega)).symm
  | nil =>
    rw [ho] at hx
    cases hc : q.com with
    | cons x rest =>
      rw [nextQ_com hv hx hc]
      exact (decide_eq_true (by simp; omega)).symm
    | nil =>
      rw [nextQ_steal hv hx hc]
      unfold stealQ
      split
      · rename_i i hi
        rw [List.find?_range_eq_some] at hi
        obtain ⟨h1, h2, -⟩ := hi
        have hvl : victim q.loc.length r i < q.loc.length := Nat.mod_lt _ (by omega)
        have hg : q.loc[victim q.loc.length r i]? = some q.loc[victim q.loc.length r i] := List.getElem?_eq_getElem hvl
        rw [List.getD_eq_getElem?_getD, hg] at h1
        have hpos : 0 < q.loc[victim q.loc.length r i].length := by
          cases hh : q.loc[victim q.loc.length r i] with
          | nil => rw [hh] at h1; simp at h1
          | cons a l => simp
        have := flat_pos hg hpos
        exact (decide_eq_true (by omega)).symm
      · rename_i hn
        rw [List.find?_eq_none] at hn
        have hz : q.loc.flatten = [] := flat_zero fun k xs hk => by
          have hkl : k < q.loc.length := (List.getElem?_eq_some_iff.1 hk).1
          obtain ⟨i, hi, hvi⟩ := victim_onto (n := q.loc.length) (r := r) hkl
          have h1 := hn i (List.mem_range.2 hi)
          rw [hvi, List.getD_eq_getElem?_getD, hk] at h1
          cases xs with
          | nil => rfl
          | cons a l => simp at h1
        rw [hz]
        rfl

set_option maxRecDepth 100000 in
set_option maxHeartbeats 8000000 in
theorem law_work (w : World) (n c m d : Nat) (A C : Option Addr) (q : Qs) (a b : Nat) (ha : a < 256) (hb : b < 256) (hl : Sl w (lt w.heap.size) A n q.loc) (hc : Sl w (lt w.heap.size) C m q.com) (hmd : m ≤ d) (hd63 : d ≤ maxLen) (hf : Fits q) :
    Calls Try.prog 8 #[.agg #[.slice A n c, .slice C m d], .int .u8 a, .int .u8 b] w (RetB (.bool true) w) := by
  obtain rfl : n = q.loc.length := hl.1.symm
  obtain rfl : m = q.com.length := hc.1.symm
  have hn24 := hf.n
  have hm8 := hf.m
  clear hf
  obtain ⟨vb, hv⟩ : ∃ vb, validQ q = vb := ⟨_, rfl⟩
  have HV := Lib.hid hv
  clear hv
  go_enter Try.func8, Try.ntmps8
  go_upto_region 1 with fail
  obtain ⟨k3, hk3⟩ : ∃ k3, k3 = w.heap.size := ⟨_, rfl⟩
  obtain ⟨w0, hw0⟩ : ∃ w0, w0 = w.alloc (.cells #[.slice A q.loc.length c, .slice C q.com.length d] 26) := ⟨_, rfl⟩
  rw [← hw0, ← hk3]
  have b3 : Blk w0 k3 26 #[.slice A q.loc.length c, .slice C q.com.length d] := by rw [hw0]; exact heap_alloc_new' _ _ hk3
  have hb0 : Below w.heap.size w w0 := by rw [hw0]; exact (Below.refl _ _).alloc (Nat.le_refl _) _
  clear hw0 hk3
  have hz0 := hb0.size
  go_wp2_with fail
  refine (awake_any w0).mono ?_
  rintro e w1 ⟨rfl, hb1⟩
  have hb1' := hb0.trans (hb1.mono hz0)
  have b31 := b3.below hb1 b3.lt
  have e0 : w1.cell? ⟨k3, 0, none⟩ = some (.slice A q.loc.length c) := b31.at_ 0 rfl
  have e1 : w1.cell? ⟨k3, 1, none⟩ = some (.slice C q.com.length d) := b31.at_ 1 rfl
  have hz1 := hb1'.size
  go_wp2_with fail
  refine (refValid_b w1 w.heap.size q.loc.length c q.com.length d A C HV.out (hl.below hb1') (hc.below hb1') (by unfold maxLen; omega) (by unfold maxLen; omega) hm8 hz1).mono ?_
  rintro e w2 ⟨rfl, hb2⟩
  have hb2' := hb1'.trans (hb2.mono hz1)
  have b32 := b31.below hb2 b31.lt
  have hz2 := hb2'.size
  clear e0 e1 b3 b31
  cases vb with
  | false =>
    go_wp2_with fail
    refine (awake_any w2).mono ?_
    rintro e w3 ⟨rfl, hb3⟩
    have hb3' := hb2'.trans (hb3.mono hz2)
    go_wp2
    go_ret
    exact RetB.mk rfl hb3'
  | true =>
    have hn1 : 1 ≤ q.loc.length := (valid_loc HV.out).1
    have hn4 : q.loc.length ≤ 4 := (valid_loc HV.out).2.1
    have hal8 := allQ_len HV.out
    obtain ⟨P, hP⟩ : ∃ P, P = a % q.loc.length := ⟨_, rfl⟩
    have hPn : P < q.loc.length := by rw [hP]; exact Nat.mod_lt _ (by omega)
    have hrem : ((a : Int)).tmod (q.loc.length : Int) = (P : Int) := by
      rw [Int.tmod_eq_emod_of_nonneg (Int.natCast_nonneg _), hP]
      rfl
    have hwa : IntKind.i64.wrap (a : Int) = (a : Int) := IntWalk.i64_in _ (by omega)
    have hwb : IntKind.i64.wrap (b : Int) = (b : Int) := IntWalk.i64_in _ (by omega)
    have hn0 : ¬ q.loc.length = 0 := by omega
    obtain ⟨O, hO⟩ : ∃ O, O = (nextQ q P b).isSome := ⟨_, rfl⟩
    have HO : Hid (O = decide (0 < (allQ q).length)) := hO.trans (next_works HV.out hPn)
    have HN : Hid (∀ W : World, Sl W (lt w.heap.size) A q.loc.length q.loc → Sl W (lt w.heap.size) C q.com.length q.com → w.heap.size ≤ W.heap.size → Calls Try.prog 18 #[.agg #[.slice A q.loc.length c, .slice C q.com.length d], .int .i64 P, .int .i64 b] W (RetQG (qOf2 (nextQ q P b)) (gOf (nextQ q P b)) O W)) := fun W h1 h2 h3 => (next_any W w.heap.size q.loc.length c q.com.length d A C q P b h1 h2 (by unfold maxLen; omega) h3 (by omega) hmd hd63).mono fun e w' h => by rw [hO]; exact h.qg
    have e0 : w2.cell? ⟨k3, 0, none⟩ = some (.slice A q.loc.length c) := b32.at_ 0 rfl
    have e1 : w2.cell? ⟨k3, 1, none⟩ = some (.slice C q.com.length d) := b32.at_ 1 rfl
    have B32 := Lib.hid b32
    have HB2 := Lib.hid hb2'
    have HB2d : Hid (Below w.heap.size w w2.drew) := below_drewN hb2' 1
    have HBz : Hid (Below w2.heap.size w2 (w2.alloc (.cells #[.slice none 0 0, .slice none 0 0] 26)).drew) := below_drewN ((Below.refl _ _).alloc (Nat.le_refl _) _) 1
    have HB2z : Hid (Below w.heap.size w (w2.alloc (.cells #[.slice none 0 0, .slice none 0 0] 26)).drew) := hb2'.trans (HBz.out.mono hz2)
    have BZ : Hid (Blk (w2.alloc (.cells #[.slice none 0 0, .slice none 0 0] 26)).drew w2.heap.size 26 #[.slice none 0 0, .slice none 0 0]) := Blk.new _ _ _
    have hzz : w2.heap.size ≤ ((w2.alloc (.cells #[.slice none 0 0, .slice none 0 0] 26)).drew).heap.size := HBz.out.size
    have hk32 : k3 < w2.heap.size := b32.lt
    have hne1 : ¬ k3 = w2.heap.size := by omega
    have hne2 : ¬ w2.heap.size = k3 := by omega
    clear hO hP b32 hb2 hb2' hb1 hb1' hb0
    go_wp2
    go_region_held3 (fun w' => w'.cell? ⟨k3, 0, none⟩ = some (.slice A q.loc.length c) ∧ w'.cell? ⟨k3, 1, none⟩ = some (.slice C q.com.length d)) (go_keep)
      (first
        | (go_at_call 18
           refine (HN.out w2.drew (hl.below HB2d.out) (hc.below HB2d.out) hz2).mono ?_
           rintro e w4 ⟨X, xn, xc, Y, ym, yd, rfl, hx1, hx2, hy1, hy2, hxl, hyl, hb4⟩
           have hb4' : Below w2.heap.size w2 w4 := below_drewL hb4
           have b34 := B32.out.below hb4' B32.out.lt
           have s40 : w4.cell? ⟨k3, 0, none⟩ = some (.slice A q.loc.length c) := b34.at_ 0 rfl
           have s41 : w4.cell? ⟨k3, 1, none⟩ = some (.slice C q.com.length d) := b34.at_ 1 rfl
           have HB4 := Lib.hid (HB2.out.trans (hb4'.mono hz2))
           have B34 := Lib.hid b34
           have hne3 : ¬ k3 = w4.heap.size := by have := hb4'.size; omega
           have hne4 : ¬ w4.heap.size = k3 := by have := hb4'.size; omega
           clear hb4 hb4' b34 hxl hyl)
        | (go_at_call 18
           refine (HN.out ((w2.alloc (.cells #[.slice none 0 0, .slice none 0 0] 26)).drew) (hl.below HB2z.out) (hc.below HB2z.out) (Nat.le_trans hz2 hzz)).mono ?_
           rintro e w4 ⟨X, xn, xc, Y, ym, yd, rfl, hx1, hx2, hy1, hy2, hxl, hyl, hb4⟩
           have hb4' : Below w2.heap.size w2 w4 := HBz.out.trans (hb4.mono hzz)
           have b34 := B32.out.below hb4' B32.out.lt
           have s40 : w4.cell? ⟨k3, 0, none⟩ = some (.slice A q.loc.length c) := b34.at_ 0 rfl
           have s41 : w4.cell? ⟨k3, 1, none⟩ = some (.slice C q.com.length d) := b34.at_ 1 rfl
           have bz4 := BZ.out.below hb4 BZ.out.lt
           have z0 : w4.cell? ⟨w2.heap.size, 0, none⟩ = some (.slice none 0 0) := bz4.at_ 0 rfl
           have z1 : w4.cell? ⟨w2.heap.size, 1, none⟩ = some (.slice none 0 0) := bz4.at_ 1 rfl
           have z2 : w4.frozen? ⟨w2.heap.size, 0, none⟩ = false := bz4.frozen 0
           have z3 : w4.frozen? ⟨w2.heap.size, 1, none⟩ = false := bz4.frozen 1
           have HB4 := Lib.hid (HB2.out.trans (hb4'.mono hz2))
           have B34 := Lib.hid b34
           clear hb4 hb4' b34 hxl hyl bz4))
    · obtain ⟨w5, hw5⟩ : ∃ w5, w5 = w4.alloc (.cells #[.slice X xn xc, .slice Y ym yd] 26) := ⟨_, rfl⟩
      rw [← hw5]
      have b5 : Blk w5 k3 26 #[.slice A q.loc.length c, .slice C q.com.length d] := by rw [hw5]; exact B34.out.alloc _
      have hb5 : Below w.heap.size w w5 := by rw [hw5]; exact HB4.out.alloc HB4.out.size _
      have f0 : w5.cell? ⟨k3, 0, none⟩ = some (.slice A q.loc.length c) := b5.at_ 0 rfl
      have f1 : w5.cell? ⟨k3, 1, none⟩ = some (.slice C q.com.length d) := b5.at_ 1 rfl
      clear hw5 s40 s41
      go_wp2_with fail
      refine (all_any w5 w.heap.size q.loc.length c q.com.length d A C q (hl.below hb5) (hc.below hb5) (by unfold maxLen; omega) (by unfold maxLen; omega) (by omega) hb5.size).mono ?_
      rintro e w6 ⟨v6, rfl, hb6, hown6⟩
      obtain ⟨LA, lc, rfl, hlc, hlc', -⟩ := hown6.slice
      obtain ⟨l, hle⟩ : ∃ l, l = (allQ q).length := ⟨_, rfl⟩
      have HOl : O = decide (0 < l) := by rw [hle]; exact HO.out
      rw [← hle]
      have hb6' := hb5.trans (hb6.mono hb5.size)
      clear hown6 hle hlc hal8 HO
      cases O with
      | false =>
        have h0 : l = 0 := by have := of_decide_eq_false HOl.symm; omega
        subst h0
        clear HOl
        go_wp2
        go_ret
        exact RetB.mk rfl hb6'
      | true =>
        have h0 : 0 < l := of_decide_eq_true HOl.symm
        clear HOl
        go_wp2
        go_ret
        exact RetB.mk rfl hb6'
    · obtain ⟨w5, hw5⟩ : ∃ w5, w5 = (w4.setCell ⟨w2.heap.size, 0, none⟩ (.slice X xn xc)).setCell ⟨w2.heap.size, 1, none⟩ (.slice Y ym yd) := ⟨_, rfl⟩
      rw [← hw5]
      have b5 : Blk w5 k3 26 #[.slice A q.loc.length c, .slice C q.com.length d] := by rw [hw5]; exact (B34.out.far (p := ⟨w2.heap.size, 0, none⟩) hne1 _).far (p := ⟨w2.heap.size, 1, none⟩) hne1 _
      have hb5 : Below w.heap.size w w5 := by rw [hw5]; exact (HB4.out.setCell (p := ⟨w2.heap.size, 0, none⟩) hz2 _).setCell (p := ⟨w2.heap.size, 1, none⟩) hz2 _
      have f0 : w5.cell? ⟨k3, 0, none⟩ = some (.slice A q.loc.length c) := b5.at_ 0 rfl
      have f1 : w5.cell? ⟨k3, 1, none⟩ = some (.slice C q.com.length d) := b5.at_ 1 rfl
      clear hw5 s40 s41
      go_wp2_with fail
      refine (all_any w5 w.heap.size q.loc.length c q.com.length d A C q (hl.below hb5) (hc.below hb5) (by unfold maxLen; omega) (by unfold maxLen; omega) (by omega) hb5.size).mono ?_
      rintro e w6 ⟨v6, rfl, hb6, hown6⟩
      obtain ⟨LA, lc, rfl, hlc, hlc', -⟩ := hown6.slice
      obtain ⟨l, hle⟩ : ∃ l, l = (allQ q).length := ⟨_, rfl⟩
      have HOl : O = decide (0 < l) := by rw [hle]; exact HO.out
      rw [← hle]
      have hb6' := hb5.trans (hb6.mono hb5.size)
      clear hown6 hle hlc hal8 HO
      cases O with
      | false =>
        have h0 : l = 0 := by have := of_decide_eq_false HOl.symm; omega
        subst h0
        clear HOl
        go_wp2
        go_ret
        exact RetB.mk rfl hb6'
      | true =>
        have h0 : 0 < l := of_decide_eq_true HOl.symm
        clear HOl
        go_wp2
        go_ret
        exact RetB.mk rfl hb6'

end Go.Proofs.Ytepcbgbmmmhglaa

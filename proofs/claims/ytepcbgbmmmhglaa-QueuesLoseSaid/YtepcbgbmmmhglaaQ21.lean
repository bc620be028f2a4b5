/- Add: the reference, where it returns the error. -/
import Derived.Test.YtepcbgbmmmhglaaQ20
namespace Go.Proofs.Ytepcbgbmmmhglaa
open Go.RowKit

theorem refValid_b (w : World) (B n c m d : Nat) {b : Bool} (A C : Option Addr) {q : Qs} (hb : validQ q = b) (hl : Sl w (lt B) A n q.loc) (hc : Sl w (lt B) C m q.com) (hn : n ≤ maxLen) (hm : m ≤ maxLen) (h8 : m * 8 ≤ 140737488351232) (hB : B ≤ w.heap.size) :
    Calls Try.prog 14 #[.agg #[.slice A n c, .slice C m d]] w (RetB (.bool b) w) := by
  subst hb
  exact refValid_any w B n c m d A C q hl hc hn hm h8 hB
theorem allQ_len {q : Qs} (h : validQ q = true) : (allQ q).length ≤ 8 := okL_len (valid_loc h).2.2.2
theorem queuedQ_all (q : Qs) (g : Int) : queuedQ q g = (allQ q).contains g := by
  unfold queuedQ allQ anyHas hasI
  rw [Bool.eq_iff_iff]
  simp [List.mem_flatten]

set_option maxHeartbeats 4000000 in
theorem refAdd_bad (w : World) (B n c m d : Nat) (A C : Option Addr) (q : Qs) (p g : Int) (hl : Sl w (lt B) A n q.loc) (hc : Sl w (lt B) C m q.com) (hn : n ≤ maxLen) (hm8 : m * 8 ≤ 140737488351232) (hB : B ≤ w.heap.size)
    (h : validQ q = false ∨ p < 0 ∨ (q.loc.length : Int) ≤ p ∨ g < 0 ∨ 8 ≤ g ∨ queuedQ q g = true) : Calls Try.prog 17 #[.agg #[.slice A n c, .slice C m d], .int .i64 p, .int .i64 g] w (RetQE noQ 1 w) := by
  have hll : Hid (q.loc.length = n) := hl.1
  rw [hll.out] at h
  unfold maxLen at hn
  have HX : Hid (validQ q = false ∨ p < 0 ∨ (n : Int) ≤ p ∨ g < 0 ∨ 8 ≤ g ∨ queuedQ q g = true) := h
  clear h
  go_enter Try.func17, Try.ntmps17
  go_upto_region 1 with fail
  obtain ⟨w0, hw0⟩ : ∃ w0, w0 = (w.alloc (.cells #[.slice A n c, .slice C m d] 26)).alloc (.cells #[.slice none 0 0, .slice none 0 0] 26) := ⟨_, rfl⟩
  rw [← hw0]
  have hb0 : Below w.heap.size w w0 := by rw [hw0]; exact ((Below.refl _ _).alloc (Nat.le_refl _) _).alloc (by simp) _
  have hk0 : Blk w0 w.heap.size 26 #[.slice A n c, .slice C m d] := by rw [hw0]; exact (Blk.new _ _ _).alloc _
  have hk1 : Blk w0 (w.heap.size + 1) 26 #[.slice none 0 0, .slice none 0 0] := by rw [hw0]; exact heap_alloc_new' _ _ (by simp)
  clear hw0
  have a0 : w0.cell? ⟨w.heap.size, 0, none⟩ = some (.slice A n c) := hk0.at_ 0 rfl
  have a1 : w0.cell? ⟨w.heap.size, 1, none⟩ = some (.slice C m d) := hk0.at_ 1 rfl
  have hz0 := hb0.size
  obtain ⟨vb, hv⟩ : ∃ vb, validQ q = vb := ⟨_, rfl⟩
  have HV := Lib.hid hv
  clear hv
  cases vb with
  | false =>
    go_wp2_with fail
    refine (refValid_b w0 B n c m d A C HV.out (hl.below (hb0.mono hB)) (hc.below (hb0.mono hB)) (by unfold maxLen; omega) (by unfold maxLen; omega) hm8 (Nat.le_trans hB hz0)).mono ?_
    rintro e w1 ⟨rfl, hb1⟩
    have hk0' := hk0.below hb1 hk0.lt
    have hk1' := hk1.below hb1 hk1.lt
    have hb2 : Below w.heap.size w w1 := hb0.trans (hb1.mono hz0)
    clear a0 a1
    have a0 : w1.cell? ⟨w.heap.size, 0, none⟩ = some (.slice A n c) := hk0'.at_ 0 rfl
    have a1 : w1.cell? ⟨w.heap.size, 1, none⟩ = some (.slice C m d) := hk0'.at_ 1 rfl
    have l0 : w1.cell? ⟨w.heap.size + 1, 0, none⟩ = some (.slice none 0 0) := hk1'.at_ 0 rfl
    have l1 : w1.cell? ⟨w.heap.size + 1, 1, none⟩ = some (.slice none 0 0) := hk1'.at_ 1 rfl
    have f0 : w1.frozen? ⟨w.heap.size + 1, 0, none⟩ = false := hk1'.frozen 0
    have f1 : w1.frozen? ⟨w.heap.size + 1, 1, none⟩ = false := hk1'.frozen 1
    go_wp2
    have hk9 := (hk1'.set_ 0 (.slice none 0 0)).set_ 1 (.slice none 0 0)
    have hb9 : Below w.heap.size w ((w1.setCell ⟨w.heap.size + 1, 0, none⟩ (.slice none 0 0)).setCell ⟨w.heap.size + 1, 1, none⟩ (.slice none 0 0)) := (hb2.setCell (by show w.heap.size ≤ w.heap.size + 1; omega) _).setCell (by show w.heap.size ≤ w.heap.size + 1; omega) _
    obtain ⟨w9, hw9⟩ : ∃ w9, w9 = (w1.setCell ⟨w.heap.size + 1, 0, none⟩ (.slice none 0 0)).setCell ⟨w.heap.size + 1, 1, none⟩ (.slice none 0 0) := ⟨_, rfl⟩
    rw [← hw9] at hk9 hb9 ⊢
    have e0 : w9.cell? ⟨w.heap.size + 1, 0, none⟩ = some (.slice none 0 0) := hk9.at_ 0 rfl
    have e1 : w9.cell? ⟨w.heap.size + 1, 1, none⟩ = some (.slice none 0 0) := hk9.at_ 1 rfl
    refine bodyPost_ret (v := .tuple #[.agg #[.slice none 0 0, .slice none 0 0], .int .i64 1]) (by simp [results, Try.results17, go_sem, e0, e1]) rfl ?_
    exact RetQE.nothing hb9
  | true =>
    by_cases h1 : p < 0
    · have dh1 : decide (p < 0) = true := decide_eq_true h1
      clear h1
      go_wp2_with fail
      refine (refValid_b w0 B n c m d A C HV.out (hl.below (hb0.mono hB)) (hc.below (hb0.mono hB)) (by unfold maxLen; omega) (by unfold maxLen; omega) hm8 (Nat.le_trans hB hz0)).mono ?_
      rintro e w1 ⟨rfl, hb1⟩
      have hk0' := hk0.below hb1 hk0.lt
      have hk1' := hk1.below hb1 hk1.lt
      have hb2 : Below w.heap.size w w1 := hb0.trans (hb1.mono hz0)
      clear a0 a1
      have a0 : w1.cell? ⟨w.heap.size, 0, none⟩ = some (.slice A n c) := hk0'.at_ 0 rfl
      have a1 : w1.cell? ⟨w.heap.size, 1, none⟩ = some (.slice C m d) := hk0'.at_ 1 rfl
      have l0 : w1.cell? ⟨w.heap.size + 1, 0, none⟩ = some (.slice none 0 0) := hk1'.at_ 0 rfl
      have l1 : w1.cell? ⟨w.heap.size + 1, 1, none⟩ = some (.slice none 0 0) := hk1'.at_ 1 rfl
      have f0 : w1.frozen? ⟨w.heap.size + 1, 0, none⟩ = false := hk1'.frozen 0
      have f1 : w1.frozen? ⟨w.heap.size + 1, 1, none⟩ = false := hk1'.frozen 1
      go_wp2
      have hk9 := (hk1'.set_ 0 (.slice none 0 0)).set_ 1 (.slice none 0 0)
      have hb9 : Below w.heap.size w ((w1.setCell ⟨w.heap.size + 1, 0, none⟩ (.slice none 0 0)).setCell ⟨w.heap.size + 1, 1, none⟩ (.slice none 0 0)) := (hb2.setCell (by show w.heap.size ≤ w.heap.size + 1; omega) _).setCell (by show w.heap.size ≤ w.heap.size + 1; omega) _
      obtain ⟨w9, hw9⟩ : ∃ w9, w9 = (w1.setCell ⟨w.heap.size + 1, 0, none⟩ (.slice none 0 0)).setCell ⟨w.heap.size + 1, 1, none⟩ (.slice none 0 0) := ⟨_, rfl⟩
      rw [← hw9] at hk9 hb9 ⊢
      have e0 : w9.cell? ⟨w.heap.size + 1, 0, none⟩ = some (.slice none 0 0) := hk9.at_ 0 rfl
      have e1 : w9.cell? ⟨w.heap.size + 1, 1, none⟩ = some (.slice none 0 0) := hk9.at_ 1 rfl
      refine bodyPost_ret (v := .tuple #[.agg #[.slice none 0 0, .slice none 0 0], .int .i64 1]) (by simp [results, Try.results17, go_sem, e0, e1]) rfl ?_
      exact RetQE.nothing hb9
    have dh1 : decide (p < 0) = false := decide_eq_false h1
    have Hh1 := Lib.hid h1
    clear h1
    by_cases h2 : (n : Int) ≤ p
    · have dh2 : decide ((n : Int) ≤ p) = true := decide_eq_true h2
      clear h2
      go_wp2_with fail
      refine (refValid_b w0 B n c m d A C HV.out (hl.below (hb0.mono hB)) (hc.below (hb0.mono hB)) (by unfold maxLen; omega) (by unfold maxLen; omega) hm8 (Nat.le_trans hB hz0)).mono ?_
      rintro e w1 ⟨rfl, hb1⟩
      have hk0' := hk0.below hb1 hk0.lt
      have hk1' := hk1.below hb1 hk1.lt
      have hb2 : Below w.heap.size w w1 := hb0.trans (hb1.mono hz0)
      clear a0 a1
      have a0 : w1.cell? ⟨w.heap.size, 0, none⟩ = some (.slice A n c) := hk0'.at_ 0 rfl
      have a1 : w1.cell? ⟨w.heap.size, 1, none⟩ = some (.slice C m d) := hk0'.at_ 1 rfl
      have l0 : w1.cell? ⟨w.heap.size + 1, 0, none⟩ = some (.slice none 0 0) := hk1'.at_ 0 rfl
      have l1 : w1.cell? ⟨w.heap.size + 1, 1, none⟩ = some (.slice none 0 0) := hk1'.at_ 1 rfl
      have f0 : w1.frozen? ⟨w.heap.size + 1, 0, none⟩ = false := hk1'.frozen 0
      have f1 : w1.frozen? ⟨w.heap.size + 1, 1, none⟩ = false := hk1'.frozen 1
      go_wp2
      have hk9 := (hk1'.set_ 0 (.slice none 0 0)).set_ 1 (.slice none 0 0)
      have hb9 : Below w.heap.size w ((w1.setCell ⟨w.heap.size + 1, 0, none⟩ (.slice none 0 0)).setCell ⟨w.heap.size + 1, 1, none⟩ (.slice none 0 0)) := (hb2.setCell (by show w.heap.size ≤ w.heap.size + 1; omega) _).setCell (by show w.heap.size ≤ w.heap.size + 1; omega) _
      obtain ⟨w9, hw9⟩ : ∃ w9, w9 = (w1.setCell ⟨w.heap.size + 1, 0, none⟩ (.slice none 0 0)).setCell ⟨w.heap.size + 1, 1, none⟩ (.slice none 0 0) := ⟨_, rfl⟩
      rw [← hw9] at hk9 hb9 ⊢
      have e0 : w9.cell? ⟨w.heap.size + 1, 0, none⟩ = some (.slice none 0 0) := hk9.at_ 0 rfl
      have e1 : w9.cell? ⟨w.heap.size + 1, 1, none⟩ = some (.slice none 0 0) := hk9.at_ 1 rfl
      refine bodyPost_ret (v := .tuple #[.agg #[.slice none 0 0, .slice none 0 0], .int .i64 1]) (by simp [results, Try.results17, go_sem, e0, e1]) rfl ?_
      exact RetQE.nothing hb9
    have dh2 : decide ((n : Int) ≤ p) = false := decide_eq_false h2
    have Hh2 := Lib.hid h2
    clear h2
    by_cases h3 : g < 0
    · have dh3 : decide (g < 0) = true := decide_eq_true h3
      clear h3
      go_wp2_with fail
      refine (refValid_b w0 B n c m d A C HV.out (hl.below (hb0.mono hB)) (hc.below (hb0.mono hB)) (by unfold maxLen; omega) (by unfold maxLen; omega) hm8 (Nat.le_trans hB hz0)).mono ?_
      rintro e w1 ⟨rfl, hb1⟩
      have hk0' := hk0.below hb1 hk0.lt
      have hk1' := hk1.below hb1 hk1.lt
      have hb2 : Below w.heap.size w w1 := hb0.trans (hb1.mono hz0)
      clear a0 a1
      have a0 : w1.cell? ⟨w.heap.size, 0, none⟩ = some (.slice A n c) := hk0'.at_ 0 rfl
      have a1 : w1.cell? ⟨w.heap.size, 1, none⟩ = some (.slice C m d) := hk0'.at_ 1 rfl
      have l0 : w1.cell? ⟨w.heap.size + 1, 0, none⟩ = some (.slice none 0 0) := hk1'.at_ 0 rfl
      have l1 : w1.cell? ⟨w.heap.size + 1, 1, none⟩ = some (.slice none 0 0) := hk1'.at_ 1 rfl
      have f0 : w1.frozen? ⟨w.heap.size + 1, 0, none⟩ = false := hk1'.frozen 0
      have f1 : w1.frozen? ⟨w.heap.size + 1, 1, none⟩ = false := hk1'.frozen 1
      go_wp2
      have hk9 := (hk1'.set_ 0 (.slice none 0 0)).set_ 1 (.slice none 0 0)
      have hb9 : Below w.heap.size w ((w1.setCell ⟨w.heap.size + 1, 0, none⟩ (.slice none 0 0)).setCell ⟨w.heap.size + 1, 1, none⟩ (.slice none 0 0)) := (hb2.setCell (by show w.heap.size ≤ w.heap.size + 1; omega) _).setCell (by show w.heap.size ≤ w.heap.size + 1; omega) _
      obtain ⟨w9, hw9⟩ : ∃ w9, w9 = (w1.setCell ⟨w.heap.size + 1, 0, none⟩ (.slice none 0 0)).setCell ⟨w.heap.size + 1, 1, none⟩ (.slice none 0 0) := ⟨_, rfl⟩
      rw [← hw9] at hk9 hb9 ⊢
      have e0 : w9.cell? ⟨w.heap.size + 1, 0, none⟩ = some (.slice none 0 0) := hk9.at_ 0 rfl
      have e1 : w9.cell? ⟨w.heap.size + 1, 1, none⟩ = some (.slice none 0 0) := hk9.at_ 1 rfl
      refine bodyPost_ret (v := .tuple #[.agg #[.slice none 0 0, .slice none 0 0], .int .i64 1]) (by simp [results, Try.results17, go_sem, e0, e1]) rfl ?_
      exact RetQE.nothing hb9
    have dh3 : decide (g < 0) = false := decide_eq_false h3
    have Hh3 := Lib.hid h3
    clear h3
    by_cases h4 : 8 ≤ g
    · have dh4 : decide (8 ≤ g) = true := decide_eq_true h4
      clear h4
      go_wp2_with fail
      refine (refValid_b w0 B n c m d A C HV.out (hl.below (hb0.mono hB)) (hc.below (hb0.mono hB)) (by unfold maxLen; omega) (by unfold maxLen; omega) hm8 (Nat.le_trans hB hz0)).mono ?_
      rintro e w1 ⟨rfl, hb1⟩
      have hk0' := hk0.below hb1 hk0.lt
      have hk1' := hk1.below hb1 hk1.lt
      have hb2 : Below w.heap.size w w1 := hb0.trans (hb1.mono hz0)
      clear a0 a1
      have a0 : w1.cell? ⟨w.heap.size, 0, none⟩ = some (.slice A n c) := hk0'.at_ 0 rfl
      have a1 : w1.cell? ⟨w.heap.size, 1, none⟩ = some (.slice C m d) := hk0'.at_ 1 rfl
      have l0 : w1.cell? ⟨w.heap.size + 1, 0, none⟩ = some (.slice none 0 0) := hk1'.at_ 0 rfl
      have l1 : w1.cell? ⟨w.heap.size + 1, 1, none⟩ = some (.slice none 0 0) := hk1'.at_ 1 rfl
      have f0 : w1.frozen? ⟨w.heap.size + 1, 0, none⟩ = false := hk1'.frozen 0
      have f1 : w1.frozen? ⟨w.heap.size + 1, 1, none⟩ = false := hk1'.frozen 1
      go_wp2
      have hk9 := (hk1'.set_ 0 (.slice none 0 0)).set_ 1 (.slice none 0 0)
      have hb9 : Below w.heap.size w ((w1.setCell ⟨w.heap.size + 1, 0, none⟩ (.slice none 0 0)).setCell ⟨w.heap.size + 1, 1, none⟩ (.slice none 0 0)) := (hb2.setCell (by show w.heap.size ≤ w.heap.size + 1; omega) _).setCell (by show w.heap.size ≤ w.heap.size + 1; omega) _
      obtain ⟨w9, hw9⟩ : ∃ w9, w9 = (w1.setCell ⟨w.heap.size + 1, 0, none⟩ (.slice none 0 0)).setCell ⟨w.heap.size + 1, 1, none⟩ (.slice none 0 0) := ⟨_, rfl⟩
      rw [← hw9] at hk9 hb9 ⊢
      have e0 : w9.cell? ⟨w.heap.size + 1, 0, none⟩ = some (.slice none 0 0) := hk9.at_ 0 rfl
      have e1 : w9.cell? ⟨w.heap.size + 1, 1, none⟩ = some (.slice none 0 0) := hk9.at_ 1 rfl
      refine bodyPost_ret (v := .tuple #[.agg #[.slice none 0 0, .slice none 0 0], .int .i64 1]) (by simp [results, Try.results17, go_sem, e0, e1]) rfl ?_
      exact RetQE.nothing hb9
    have dh4 : decide (8 ≤ g) = false := decide_eq_false h4
    have Hh4 := Lib.hid h4
    clear h4
    have HQ : Hid (queuedQ q g = true) := by
      rcases HX.out with h | h | h | h | h | h
      · rw [HV.out] at h; cases h
      · exact absurd h Hh1.out
      · exact absurd h Hh2.out
      · exact absurd h Hh3.out
      · exact absurd h Hh4.out
      · exact Lib.hid h
    go_wp2_with fail
    refine (refValid_b w0 B n c m d A C HV.out (hl.below (hb0.mono hB)) (hc.below (hb0.mono hB)) (by unfold maxLen; omega) (by unfold maxLen; omega) hm8 (Nat.le_trans hB hz0)).mono ?_
    rintro e w1 ⟨rfl, hb1⟩
    have hk0' := hk0.below hb1 hk0.lt
    have hk1' := hk1.below hb1 hk1.lt
    have hb2 : Below w.heap.size w w1 := hb0.trans (hb1.mono hz0)
    clear a0 a1
    have a0 : w1.cell? ⟨w.heap.size, 0, none⟩ = some (.slice A n c) := hk0'.at_ 0 rfl
    have a1 : w1.cell? ⟨w.heap.size, 1, none⟩ = some (.slice C m d) := hk0'.at_ 1 rfl
    have hz2 := hb2.size
    have hal8 := allQ_len HV.out
    have HQI : Hid (∃ k : Nat, (allQ q)[k]? = some g) := by
      refine Lib.hid ?_
      have h := HQ.out
      rw [queuedQ_all, List.contains_iff_mem] at h
      exact List.getElem?_of_mem h
    go_wp2_with fail
    refine (all_any w1 B n c m d A C q (hl.below (hb2.mono hB)) (hc.below (hb2.mono hB)) (by unfold maxLen; omega) (by unfold maxLen; omega) (by omega) (Nat.le_trans hB hz2)).mono ?_
    rintro e w3 ⟨v3, rfl, hb3, hown3⟩
    have hb4 : Below w.heap.size w w3 := hb2.trans (hb3.mono hz2)
    have hk1' := hk1'.below hb3 hk1'.lt
    clear a0 a1
    obtain ⟨LA, lc, rfl, hlc, hlc', HSL⟩ := hown3.sl false_lt
    obtain ⟨l, hle⟩ : ∃ l, l = (allQ q).length := ⟨_, rfl⟩
    rw [← hle] at HSL hlc hal8 ⊢
    have HLE := Lib.hid hle
    clear hown3 hle
    go_wp2
    go_loop [9] (fun i => ∃ k : Nat, k ≤ l ∧ i = .int .i64 k ∧ ∀ j : Nat, j < k → (allQ q)[j]? ≠ some g) (fun i => l - (intOf i).toNat)
    case atStart => exact ⟨0, Nat.zero_le _, rfl, fun j hj => absurd hj (by omega)⟩
    case round =>
      obtain ⟨k, hk, rfl, hno⟩ := hrel
      have HN := Lib.hid hno
      clear hno
      have hlt : k < l := by
        rcases Nat.lt_or_ge k l with h | h
        · exact h
        · obtain ⟨j, hj⟩ := HQI.out
          have hjl := (List.getElem?_eq_some_iff.1 hj).1
          rw [← HLE.out] at hjl
          exact absurd hj (HN.out j (by omega))
      obtain ⟨b, o, rfl, hb, y, hy, hcell⟩ := HSL.int hlt
      have HY := Lib.hid hy
      clear hy
      by_cases hxy : y = g
      · have hb9 : (y == g) = true := by simpa using hxy
        clear hxy
        have l0 : w3.cell? ⟨w.heap.size + 1, 0, none⟩ = some (.slice none 0 0) := hk1'.at_ 0 rfl
        have l1 : w3.cell? ⟨w.heap.size + 1, 1, none⟩ = some (.slice none 0 0) := hk1'.at_ 1 rfl
        have f0 : w3.frozen? ⟨w.heap.size + 1, 0, none⟩ = false := hk1'.frozen 0
        have f1 : w3.frozen? ⟨w.heap.size + 1, 1, none⟩ = false := hk1'.frozen 1
        go_wp2
        have hk9 := (hk1'.set_ 0 (.slice none 0 0)).set_ 1 (.slice none 0 0)
        have hb9 : Below w.heap.size w ((w3.setCell ⟨w.heap.size + 1, 0, none⟩ (.slice none 0 0)).setCell ⟨w.heap.size + 1, 1, none⟩ (.slice none 0 0)) := (hb4.setCell (by show w.heap.size ≤ w.heap.size + 1; omega) _).setCell (by show w.heap.size ≤ w.heap.size + 1; omega) _
        obtain ⟨w9, hw9⟩ : ∃ w9, w9 = (w3.setCell ⟨w.heap.size + 1, 0, none⟩ (.slice none 0 0)).setCell ⟨w.heap.size + 1, 1, none⟩ (.slice none 0 0) := ⟨_, rfl⟩
        rw [← hw9] at hk9 hb9 ⊢
        have e0 : w9.cell? ⟨w.heap.size + 1, 0, none⟩ = some (.slice none 0 0) := hk9.at_ 0 rfl
        have e1 : w9.cell? ⟨w.heap.size + 1, 1, none⟩ = some (.slice none 0 0) := hk9.at_ 1 rfl
        refine bodyPost_ret (v := .tuple #[.agg #[.slice none 0 0, .slice none 0 0], .int .i64 1]) (by simp [results, Try.results17, go_sem, e0, e1]) rfl ?_
        exact RetQE.nothing hb9
      · have hb9 : (y == g) = false := by simpa using hxy
        have HX := Lib.hid hxy
        clear hxy
        go_wp2
        go_round
        case rel => exact ⟨k + 1, by omega, by go_num, no_snoc HN.out HY.out (fun e => HX.out e.symm)⟩
        case measure => simp [intOf]; omega

end Go.Proofs.Ytepcbgbmmmhglaa

/- The reference's Valid and ValidAll. -/
import Derived.Test.YtlbgmegciomofaaW4
namespace Go.Proofs.Ytlbgmegciomofaa
open Go.RowKit

theorem has_snoc {gs : List Int} {q : Nat} (h : q < gs.length) (x : Int) : hasI (gs.take (q + 1)) x = (hasI (gs.take q) x || gs.getD q 0 == x) := by
  unfold hasI
  rw [List.take_succ_eq_append_getElem h, List.getD_eq_getElem?_getD, List.getElem?_eq_getElem h]
  simp only [List.contains_eq_any_beq, List.any_append, List.any_cons, List.any_nil, Bool.or_false, Option.getD_some]
  congr 1
  by_cases e : x = gs[q]
  · subst e; simp
  · rw [beq_eq_false_iff_ne.2 e, beq_eq_false_iff_ne.2 (fun e' => e e'.symm)]
theorem has_hit {gs : List Int} {q : Nat} (h : q < gs.length) {x : Int} (hx : gs.getD q 0 = x) : hasI (gs.take (q + 1)) x = true := by
  rw [has_snoc h, hx]; simp
theorem has_miss {gs : List Int} {q : Nat} (h : q < gs.length) {x : Int} (hx : ¬ gs.getD q 0 = x) : hasI (gs.take (q + 1)) x = hasI (gs.take q) x := by
  rw [has_snoc h, beq_eq_false_iff_ne.2 hx, Bool.or_false]

set_option maxHeartbeats 800000 in
theorem refValid_any (w : World) (B : Nat) (g c : Int) (A T : Option Addr) (n k m d : Nat) (gs : List Int) (ts : List Touch) (hg : Sl w (lt B) A n gs) (hn : n ≤ maxLen) (hB : B ≤ w.heap.size) :
    Calls Try.prog 26 #[.agg #[.int .i64 g, .int .i64 c, .slice A n k, .slice T m d]] w (RetB (.bool (validS ⟨g, c, gs, ts⟩)) w) := by
  unfold maxLen at hn
  have hlen : Hid (gs.length = n) := hg.1
  go_enter Try.func26, Try.ntmps26
  go_wp2
  go_loopw [4, 3, 2] (fun i own _ wr => ∃ q : Nat, q ≤ n ∧ i = .int .i64 q ∧ own = .bool (hasI (gs.take q) g) ∧ (∀ j, j < q → okI gs j = true) ∧ Below w.heap.size w wr ∧ Blk wr w.heap.size 27 #[.int .i64 g, .int .i64 c, .slice A n k, .slice T m d]) (fun i _ _ _ => n - (intOf i).toNat)
  case atStart => exact ⟨0, Nat.zero_le _, rfl, rfl, fun j hj => absurd hj (by omega), (Below.refl _ _).alloc (Nat.le_refl _) _, Blk.new _ _ _⟩
  case round =>
    obtain ⟨w1, rfl⟩ : ∃ w1 : World, w1 = wr := ⟨_, rfl⟩
    obtain ⟨q, hq, rfl, rfl, hno, hb1, hx⟩ := hrel
    have HQ := Lib.hid hno
    clear hno
    have c0 : w1.cell? ⟨w.heap.size, 0, none⟩ = some (.int .i64 g) := hx.at_ 0 rfl
    have c2 : w1.cell? ⟨w.heap.size, 2, none⟩ = some (.slice A n k) := hx.at_ 2 rfl
    by_cases hlt : q < n
    · obtain ⟨b, o, rfl, hbb, e0⟩ := (hg.below (hb1.mono hB)).int' hlt
      obtain ⟨v, hv⟩ : ∃ v, v = gs.getD q 0 := ⟨_, rfl⟩
      rw [← hv] at e0
      have HV := Lib.hid hv
      clear hv
      have hlq : Hid (q < gs.length) := by rw [hlen.out]; exact hlt
      by_cases h0 : v < 0
      · have d0 : decide (v < 0) = true := decide_eq_true h0
        go_wp2
        go_quiet (fail)
        go_wp2
        go_ret
        exact RetB.mk (bool_eq (valid_bad (s := ⟨g, c, gs, ts⟩) (i := q) hlq.out (okI_neg (by rw [← HV.out]; exact h0))).symm) (below_drewN hb1 _)
      · have d0 : decide (v < 0) = false := decide_eq_false h0
        by_cases h8 : 8 ≤ v
        · have d8 : decide (8 ≤ v) = true := decide_eq_true h8
          go_wp2
          go_quiet (fail)
          go_wp2
          go_ret
          exact RetB.mk (bool_eq (valid_bad (s := ⟨g, c, gs, ts⟩) (i := q) hlq.out (okI_big (by rw [← HV.out]; exact h8))).symm) (below_drewN hb1 _)
        · have d8 : decide (8 ≤ v) = false := decide_eq_false h8
          by_cases hvg : v = g
          · have hvb : (v == g) = true := by simpa using hvg
            have HG := Lib.hid hvg
            clear hvg
            cases q with
            | zero =>
              rw [Nat.add_zero] at e0
              go_wp2
              go_quiet (fail)
              go_wp2
              go_quiet (fail)
              go_wp2
              go_roundw
              case rel => exact ⟨1, by omega, by go_num, bool_eq (has_hit hlq.out (by rw [← HV.out]; exact HG.out)).symm, ok_more HQ.out (okI_zero (by rw [← HV.out]; omega) (by rw [← HV.out]; omega)), below_drewN hb1 _, hx⟩
              case measure => simp [intOf]; omega
            | succ q =>
              obtain ⟨b', o', hbe, hbb', e1⟩ := (hg.below (hb1.mono hB)).int' (k := q) (by omega)
              injection hbe with hbe
              injection hbe with hbe1 hbe2
              subst hbe1
              subst hbe2
              obtain ⟨u, hu⟩ : ∃ u, u = gs.getD q 0 := ⟨_, rfl⟩
              rw [← hu] at e1
              have HU := Lib.hid hu
              clear hu
              by_cases hle : v ≤ u
              · have dl : decide (v ≤ u) = true := decide_eq_true hle
                go_wp2
                go_quiet (fail)
                go_wp2
                go_ret
                exact RetB.mk (bool_eq (valid_bad (s := ⟨g, c, gs, ts⟩) (i := q + 1) hlq.out (okI_low (by rw [← HV.out, ← HU.out]; exact hle))).symm) (below_drewN hb1 _)
              · have dl : decide (v ≤ u) = false := decide_eq_false hle
                go_wp2
                go_quiet (fail)
                go_wp2
                go_quiet (fail)
                go_wp2
                go_roundw
                case rel => exact ⟨q + 1 + 1, by omega, by go_num, bool_eq (has_hit hlq.out (by rw [← HV.out]; exact HG.out)).symm, ok_more HQ.out (okI_succ (by rw [← HV.out]; omega) (by rw [← HV.out]; omega) (by rw [← HV.out, ← HU.out]; omega)), below_drewN hb1 _, hx⟩
                case measure => simp [intOf]; omega
          · have hvb : (v == g) = false := by simpa using hvg
            have HG := Lib.hid hvg
            clear hvg
            cases q with
            | zero =>
              rw [Nat.add_zero] at e0
              go_wp2
              go_quiet (fail)
              go_wp2
              go_quiet (fail)
              go_wp2
              go_roundw
              case rel => exact ⟨1, by omega, by go_num, bool_eq (has_miss hlq.out (by rw [← HV.out]; exact HG.out)).symm, ok_more HQ.out (okI_zero (by rw [← HV.out]; omega) (by rw [← HV.out]; omega)), below_drewN hb1 _, hx⟩
              case measure => simp [intOf]; omega
            | succ q =>
              obtain ⟨b', o', hbe, hbb', e1⟩ := (hg.below (hb1.mono hB)).int' (k := q) (by omega)
              injection hbe with hbe
              injection hbe with hbe1 hbe2
              subst hbe1
              subst hbe2
              obtain ⟨u, hu⟩ : ∃ u, u = gs.getD q 0 := ⟨_, rfl⟩
              rw [← hu] at e1
              have HU := Lib.hid hu
              clear hu
              by_cases hle : v ≤ u
              · have dl : decide (v ≤ u) = true := decide_eq_true hle
                go_wp2
                go_quiet (fail)
                go_wp2
                go_ret
                exact RetB.mk (bool_eq (valid_bad (s := ⟨g, c, gs, ts⟩) (i := q + 1) hlq.out (okI_low (by rw [← HV.out, ← HU.out]; exact hle))).symm) (below_drewN hb1 _)
              · have dl : decide (v ≤ u) = false := decide_eq_false hle
                go_wp2
                go_quiet (fail)
                go_wp2
                go_quiet (fail)
                go_wp2
                go_roundw
                case rel => exact ⟨q + 1 + 1, by omega, by go_num, bool_eq (has_miss hlq.out (by rw [← HV.out]; exact HG.out)).symm, ok_more HQ.out (okI_succ (by rw [← HV.out]; omega) (by rw [← HV.out]; omega) (by rw [← HV.out, ← HU.out]; omega)), below_drewN hb1 _, hx⟩
                case measure => simp [intOf]; omega
    · obtain rfl : q = n := by omega
      clear hlt
      go_wp2
      go_ret
      exact RetB.mk (bool_eq (by rw [valid_good (s := ⟨g, c, gs, ts⟩) (by rw [show (Step.gs ⟨g, c, gs, ts⟩).length = q from hlen.out]; exact HQ.out), List.take_of_length_le (by rw [hlen.out]; omega)])) hb1

set_option maxHeartbeats 1000000 in
theorem refValidAll_any (w : World) (B n c : Nat) (A : Option Addr) (l : List Step) (hl : Sl w (lt B) A n l) (hn : n ≤ maxLen) (hB : B ≤ w.heap.size) :
    Calls Try.prog 16 #[.slice A n c] w (RetB (.bool (validA l)) w) := by
  unfold maxLen at hn
  have hlen : Hid (l.length = n) := hl.1
  go_enter Try.func16, Try.ntmps16
  go_wp2
  go_loopw [3, 2] (fun i _ wr => ∃ q : Nat, q ≤ n ∧ i = .int .i64 q ∧ (∀ j, j < q → validS (stepAt l j) = true) ∧ Below w.heap.size w wr) (fun i _ _ => n - (intOf i).toNat)
  case atStart => exact ⟨0, Nat.zero_le _, rfl, fun j hj => absurd hj (by omega), Below.refl _ _⟩
  case round =>
    obtain ⟨w1, rfl⟩ : ∃ w1 : World, w1 = wr := ⟨_, rfl⟩
    obtain ⟨q, hq, rfl, hno, hb1⟩ := hrel
    have HQ := Lib.hid hno
    clear hno
    have hz := hb1.size
    by_cases hlt : q < n
    · obtain ⟨b, o, rfl, hbb, G, p, c1, T, m, d1, hp, hc1, hm, hd1, sg, st, e0, e1, e2, e3⟩ := (hl.below (hb1.mono hB)).step hlt
      have HC := Lib.hid (refValid_any w1 B (stepAt l q).g (stepAt l q).case_ G T p c1 m d1 (stepAt l q).gs (stepAt l q).touches sg (Nat.le_trans hp hc1) (Nat.le_trans hB hz))
      clear sg st hc1 hd1
      cases hv : validS (stepAt l q) with
      | true =>
        have HC' : Hid (Calls Try.prog 26 #[.agg #[.int .i64 (stepAt l q).g, .int .i64 (stepAt l q).case_, .slice G p c1, .slice T m d1]] w1 (RetB (.bool true) w1)) := Lib.hid (by rw [← hv]; exact HC.out)
        have HV := Lib.hid hv
        clear hv HC
        go_wp2_with (go_at_call 26; refine HC'.out.mono ?_; rintro e w2 ⟨rfl, hb2⟩)
        go_roundw
        case rel => exact ⟨q + 1, by omega, by go_num, upto_more HQ.out HV.out, hb1.trans (hb2.mono hz)⟩
        case measure => simp [intOf]; omega
      | false =>
        have HC' : Hid (Calls Try.prog 26 #[.agg #[.int .i64 (stepAt l q).g, .int .i64 (stepAt l q).case_, .slice G p c1, .slice T m d1]] w1 (RetB (.bool false) w1)) := Lib.hid (by rw [← hv]; exact HC.out)
        have HV := Lib.hid hv
        clear hv HC
        go_wp2_with (go_at_call 26; refine HC'.out.mono ?_; rintro e w2 ⟨rfl, hb2⟩)
        go_ret
        exact RetB.mk (bool_eq (validA_no (k := q) (by rw [hlen.out]; exact hlt) HV.out).symm) (hb1.trans (hb2.mono hz))
    · obtain rfl : q = n := by omega
      go_wp2
      go_ret
      exact RetB.mk (bool_eq (validA_yes (by rw [hlen.out]; exact HQ.out)).symm) hb1

end Go.Proofs.Ytlbgmegciomofaa

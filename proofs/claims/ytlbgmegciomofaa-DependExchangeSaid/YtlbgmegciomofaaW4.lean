/- Few steps; valid steps. -/
import Derived.Test.YtlbgmegciomofaaW3
namespace Go.Proofs.Ytlbgmegciomofaa
open Go.RowKit

set_option maxHeartbeats 1000000 in
theorem few_any (w : World) (B n c : Nat) (A : Option Addr) (l : List Step) (hl : Sl w (lt B) A n l) (hn : n ≤ maxLen) :
    Calls Try.prog 8 #[.slice A n c] w (Ret (.bool (fewS l)) w) := by
  unfold maxLen at hn
  have hlen : Hid (l.length = n) := hl.1
  by_cases h16 : n ≤ 16
  · go_enter Try.func8, Try.ntmps8
    go_wp2
    go_loop [3, 2] (fun i _ => ∃ k : Nat, k ≤ n ∧ i = .int .i64 k ∧ ∀ j, j < k → (stepAt l j).gs.length ≤ 8 ∧ (stepAt l j).touches.length ≤ 8) (fun i _ => n - (intOf i).toNat)
    case atStart => exact ⟨0, Nat.zero_le _, rfl, fun j hj => absurd hj (by omega)⟩
    case round =>
      obtain ⟨k, hk, rfl, hno⟩ := hrel
      have HN := Lib.hid hno
      clear hno
      by_cases hlt : k < n
      · obtain ⟨b, o, rfl, hb, G, p, c1, T, m, d1, hp, hc1, hm, hd1, sg, st, e0, e1, e2, e3⟩ := hl.step hlt
        have HG : Hid ((stepAt l k).gs.length = p) := sg.1
        have HT : Hid ((stepAt l k).touches.length = m) := st.1
        have h63 : p ≤ 9223372036854775807 := by unfold maxLen at hc1; omega
        have h63' : m ≤ 9223372036854775807 := by unfold maxLen at hd1; omega
        clear hc1 hd1
        by_cases h8 : 8 < p
        · go_wp2
          go_ret
          exact Ret.mk (bool_eq (few_no (k := k) (by rw [hlen.out]; exact hlt) (.inl (by rw [HG.out]; exact h8))).symm)
        · by_cases h9 : 8 < m
          · go_wp2
            go_ret
            exact Ret.mk (bool_eq (few_no (k := k) (by rw [hlen.out]; exact hlt) (.inr (by rw [HT.out]; exact h9))).symm)
          · go_wp2
            go_round
            case rel => exact ⟨k + 1, by omega, by go_num, upto_more HN.out ⟨by rw [HG.out]; omega, by rw [HT.out]; omega⟩⟩
            case measure => simp [intOf]; omega
      · obtain rfl : k = n := by omega
        go_wp2
        go_ret
        exact Ret.mk (bool_eq (few_yes (by rw [hlen.out]; exact h16) (by rw [hlen.out]; exact HN.out)).symm)
  · go_enter Try.func8, Try.ntmps8
    go_wp2
    go_ret
    exact Ret.mk (bool_eq (few_long (by rw [hlen.out]; omega)).symm)

theorem okI_neg {gs : List Int} {i : Nat} (h : gs.getD i 0 < 0) : okI gs i = false := by unfold okI; rw [decide_eq_true h]; rfl
theorem okI_big {gs : List Int} {i : Nat} (h : 8 ≤ gs.getD i 0) : okI gs i = false := by unfold okI; rw [decide_eq_true h]; simp
theorem okI_low {gs : List Int} {i : Nat} (h : gs.getD (i + 1) 0 ≤ gs.getD i 0) : okI gs (i + 1) = false := by unfold okI; simp only [Nat.add_sub_cancel]; rw [decide_eq_true h]; simp
theorem okI_zero {gs : List Int} (h0 : 0 ≤ gs.getD 0 0) (h1 : gs.getD 0 0 < 8) : okI gs 0 = true := by unfold okI; rw [decide_eq_false (by omega), decide_eq_false (by omega)]; rfl
theorem okI_succ {gs : List Int} {i : Nat} (h0 : 0 ≤ gs.getD (i + 1) 0) (h1 : gs.getD (i + 1) 0 < 8) (h2 : gs.getD i 0 < gs.getD (i + 1) 0) : okI gs (i + 1) = true := by
  unfold okI; simp only [Nat.add_sub_cancel]; rw [decide_eq_false (by omega), decide_eq_false (by omega), decide_eq_false (p := (gs.getD (i + 1) 0 ≤ gs.getD i 0)) (by omega)]; simp

set_option maxHeartbeats 1000000 in
theorem valid_any (w : World) (B : Nat) (g c : Int) (A T : Option Addr) (n k m d : Nat) (gs : List Int) (ts : List Touch) (hg : Sl w (lt B) A n gs) (hn : n ≤ maxLen) (hB : B ≤ w.heap.size) :
    Calls Try.prog 30 #[.agg #[.int .i64 g, .int .i64 c, .slice A n k, .slice T m d]] w (RetB (.bool (validS ⟨g, c, gs, ts⟩)) w) := by
  have hn' := hn
  unfold maxLen at hn
  have hlen : Hid (gs.length = n) := hg.1
  go_enter Try.func30, Try.ntmps30
  go_wp2
  go_loopw [8, 3, 4, 2] (fun i _ _ _ wr => ∃ q : Nat, q ≤ n ∧ i = .int .i64 q ∧ (∀ j, j < q → okI gs j = true) ∧ Below w.heap.size w wr ∧ Blk wr w.heap.size 27 #[.int .i64 g, .int .i64 c, .slice A n k, .slice T m d]) (fun i _ _ _ _ => n - (intOf i).toNat)
  case atStart => exact ⟨0, Nat.zero_le _, rfl, fun j hj => absurd hj (by omega), (Below.refl _ _).alloc (Nat.le_refl _) _, Blk.new _ _ _⟩
  case round =>
    obtain ⟨w1, rfl⟩ : ∃ w1 : World, w1 = wr := ⟨_, rfl⟩
    obtain ⟨q, hq, rfl, hno, hb1, hx⟩ := hrel
    have HQ := Lib.hid hno
    clear hno
    have c0 : w1.cell? ⟨w.heap.size, 0, none⟩ = some (.int .i64 g) := hx.at_ 0 rfl
    have c2 : w1.cell? ⟨w.heap.size, 2, none⟩ = some (.slice A n k) := hx.at_ 2 rfl
    by_cases hlt : q < n
    · obtain ⟨b, o, rfl, hbb, e0⟩ := (hg.below (hb1.mono hB)).int' hlt
      obtain ⟨v, hv⟩ : ∃ v, v = gs.getD q 0 := ⟨_, rfl⟩
      rw [← hv] at e0
      have HV := Lib.hid hv
      clear hv
      by_cases h0 : v < 0
      · go_wp2
        go_ret
        exact RetB.mk (bool_eq (valid_bad (s := ⟨g, c, gs, ts⟩) (i := q) (by rw [hlen.out]; exact hlt) (okI_neg (by rw [← HV.out]; exact h0))).symm) hb1
      · by_cases h8 : 8 ≤ v
        · go_wp2
          go_ret
          exact RetB.mk (bool_eq (valid_bad (s := ⟨g, c, gs, ts⟩) (i := q) (by rw [hlen.out]; exact hlt) (okI_big (by rw [← HV.out]; exact h8))).symm) hb1
        · cases q with
          | zero =>
            rw [Nat.add_zero] at e0
            go_wp2
            go_roundw
            case rel => exact ⟨1, by omega, by go_num, ok_more HQ.out (okI_zero (by rw [← HV.out]; omega) (by rw [← HV.out]; omega)), hb1, hx⟩
            case measure => simp [intOf]; omega
          | succ q =>
            obtain ⟨b', o', hbe, hbb', e1⟩ := (hg.below (hb1.mono hB)).int' (k := q) (by omega)
            injection hbe with hbe
            injection hbe with hbe1 hbe2
            subst hbe1
            subst hbe2
            obtain ⟨u, hu⟩ : ∃ u, u = gs.getD q 0 := ⟨_, rfl⟩
            rw [← hu] at e1
            have HU := Lib.hid hu
            clear hu
            by_cases hle : v ≤ u
            · go_wp2
              go_ret
              exact RetB.mk (bool_eq (valid_bad (s := ⟨g, c, gs, ts⟩) (i := q + 1) (by rw [hlen.out]; exact hlt) (okI_low (by rw [← HV.out, ← HU.out]; exact hle))).symm) hb1
            · go_wp2
              go_roundw
              case rel => exact ⟨q + 1 + 1, by omega, by go_num, ok_more HQ.out (okI_succ (by rw [← HV.out]; omega) (by rw [← HV.out]; omega) (by rw [← HV.out, ← HU.out]; omega)), hb1, hx⟩
              case measure => simp [intOf]; omega
    · obtain rfl : q = n := by omega
      clear hlt
      go_wp2_with (go_at_call 22; refine (contains_any _ _ q k A gs g (hg.below (hb1.mono hB)) hn').mono ?_; rintro e w' ⟨rfl, rfl⟩)
      go_ret
      exact RetB.mk (bool_eq (valid_good (s := ⟨g, c, gs, ts⟩) (by rw [show (Step.gs ⟨g, c, gs, ts⟩).length = q from hlen.out]; exact HQ.out)).symm) hb1

end Go.Proofs.Ytlbgmegciomofaa

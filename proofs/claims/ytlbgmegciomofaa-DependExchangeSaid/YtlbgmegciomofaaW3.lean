/- Whether a step is free: the closure of order. -/
import Derived.Test.YtlbgmegciomofaaP0
import Derived.StillTailTactics
namespace Go.Proofs.Ytlbgmegciomofaa
open Go.RowKit

theorem region_still_tail {P : Program} {id : Nat} {Q : Exit → Act → World → Prop} {a : Act} {w : World} {l : List Oper} (n : Nat) (hm : P.follows .mixedOrders = true) (hB : Region.lexTailB .any l.toArray n = true)
    (h : wpStill P l.toArray w.drew (fun a' => wpList P l.toArray Q (l.drop n) a' w.drew) (l.take n) a) : (Code.region id l.toArray true).wp P Q a w := wp_region_still_tail n hm hB h

/-- A slice of steps, at index k. -/
theorem Sl.step {w : World} {F : Nat → Prop} {n : Nat} {A : Option Addr} {xs : List Step} (h : Sl w F A n xs) {k : Nat} (hk : k < n) :
    ∃ b o, A = some ⟨b, o, none⟩ ∧ F b ∧ ∃ G p c T m d, p ≤ c ∧ c ≤ maxLen ∧ m ≤ d ∧ d ≤ maxLen ∧ Sl w F G p (stepAt xs k).gs ∧ Sl w F T m (stepAt xs k).touches ∧
      w.cell? ⟨b, o + k * 4, none⟩ = some (.int .i64 (stepAt xs k).g) ∧ w.cell? ⟨b, o + k * 4 + 1, none⟩ = some (.int .i64 (stepAt xs k).case_) ∧
      w.cell? ⟨b, o + k * 4 + 2, none⟩ = some (.slice G p c) ∧ w.cell? ⟨b, o + k * 4 + 3, none⟩ = some (.slice T m d) := by
  obtain ⟨b, o, e, hb, x, vs, hx, hr, hv⟩ := h.at_ hk
  have hs : stepAt xs k = x := by unfold stepAt; rw [List.getD_eq_getElem?_getD, hx]; rfl
  rw [hs]
  obtain ⟨G, p, c, T, m, d, hvs, h1, h2, h3, h4, h5, h6⟩ : ∃ G p c T m d, vs = [.int .i64 x.g, .int .i64 x.case_, .slice G p c, .slice T m d] ∧ p ≤ c ∧ c ≤ maxLen ∧ m ≤ d ∧ d ≤ maxLen ∧ Sl w F G p x.gs ∧ Sl w F T m x.touches := hr
  subst hvs
  exact ⟨b, o, e, hb, G, p, c, T, m, d, h1, h2, h3, h4, h5, h6, hv 0 _ rfl, hv 1 _ rfl, hv 2 _ rfl, hv 3 _ rfl⟩
theorem free_no {l : List Step} {ch : List Bool} {i k : Nat} (hk : k < i) (h1 : ch.getD k false = false) (h2 : dep (stepAt l k) (stepAt l i) = true) : freeI l ch i = false := by
  unfold freeI
  rw [List.all_eq_false]
  exact ⟨k, by simpa using hk, by rw [h1, h2]; simp⟩
theorem free_yes {l : List Step} {ch : List Bool} {i : Nat} (h : ∀ k, k < i → ch.getD k false = true ∨ dep (stepAt l k) (stepAt l i) = false) : freeI l ch i = true := by
  unfold freeI
  rw [List.all_eq_true]
  intro k hk
  rcases h k (by simpa using hk) with e | e <;> rw [e] <;> simp
theorem free_more {l : List Step} {ch : List Bool} {i k : Nat} (h : ∀ j, j < k → ch.getD j false = true ∨ dep (stepAt l j) (stepAt l i) = false) (hk : ch.getD k false = true ∨ dep (stepAt l k) (stepAt l i) = false) :
    ∀ j, j < k + 1 → ch.getD j false = true ∨ dep (stepAt l j) (stepAt l i) = false := by
  intro j hj
  rcases Nat.lt_or_ge j k with h' | h'
  · exact h j h'
  · obtain rfl : j = k := by omega
    exact hk

theorem dependent_s (w : World) (B : Nat) (s t : Step) {A1 T1 A2 T2 : Option Addr} {n1 k1 m1 d1 n2 k2 m2 d2 : Nat}
    (hg1 : Sl w (lt B) A1 n1 s.gs) (ht1 : Sl w (lt B) T1 m1 s.touches) (hg2 : Sl w (lt B) A2 n2 t.gs) (ht2 : Sl w (lt B) T2 m2 t.touches) (hn1 : n1 ≤ k1) (hk1 : k1 ≤ maxLen) (hm1 : m1 ≤ d1) (hd1 : d1 ≤ maxLen) (hn2 : n2 ≤ k2) (hk2 : k2 ≤ maxLen) (hm2 : m2 ≤ d2) (hd2 : d2 ≤ maxLen) (hB : B ≤ w.heap.size) :
    Calls Try.prog 9 #[.agg #[.int .i64 s.g, .int .i64 s.case_, .slice A1 n1 k1, .slice T1 m1 d1], .agg #[.int .i64 t.g, .int .i64 t.case_, .slice A2 n2 k2, .slice T2 m2 d2]] w (RetB (.bool (dep s t)) w) :=
  dependent_any w B s.g s.case_ t.g t.case_ A1 T1 A2 T2 n1 k1 m1 d1 n2 k2 m2 d2 s.gs t.gs s.touches t.touches hg1 ht1 hg2 ht2 (Nat.le_trans hn1 hk1) (Nat.le_trans hm1 hd1) (Nat.le_trans hn2 hk2) (Nat.le_trans hm2 hd2) hB
theorem refDependent_s (w : World) (B : Nat) (s t : Step) {A1 T1 A2 T2 : Option Addr} {n1 k1 m1 d1 n2 k2 m2 d2 : Nat}
    (hg1 : Sl w (lt B) A1 n1 s.gs) (ht1 : Sl w (lt B) T1 m1 s.touches) (hg2 : Sl w (lt B) A2 n2 t.gs) (ht2 : Sl w (lt B) T2 m2 t.touches) (hn1 : n1 ≤ k1) (hk1 : k1 ≤ maxLen) (hm1 : m1 ≤ d1) (hd1 : d1 ≤ maxLen) (hn2 : n2 ≤ k2) (hk2 : k2 ≤ maxLen) (hm2 : m2 ≤ d2) (hd2 : d2 ≤ maxLen) (hB : B ≤ w.heap.size) :
    Calls Try.prog 10 #[.agg #[.int .i64 s.g, .int .i64 s.case_, .slice A1 n1 k1, .slice T1 m1 d1], .agg #[.int .i64 t.g, .int .i64 t.case_, .slice A2 n2 k2, .slice T2 m2 d2]] w (RetB (.bool (dep s t)) w) :=
  refDependent_any w B s.g s.case_ t.g t.case_ A1 T1 A2 T2 n1 k1 m1 d1 n2 k2 m2 d2 s.gs t.gs s.touches t.touches hg1 ht1 hg2 ht2 (Nat.le_trans hn1 hk1) (Nat.le_trans hm1 hd1) (Nat.le_trans hn2 hk2) (Nat.le_trans hm2 hd2) hB

theorem below_drewL {B : Nat} {a w : World} (h : Below B a.drew w) : Below B a w := ⟨h.os, h.tape, h.output, h.size, h.block⟩

set_option maxHeartbeats 2000000 in
theorem free_any (w : World) (B : Nat) (ca la : Nat) (A C : Option Addr) (n c n' c' : Nat) (l : List Step) (ch : List Bool) (i : Nat)
    (hca : w.cell? ⟨ca, 0, none⟩ = some (.slice C n' c')) (hla : w.cell? ⟨la, 0, none⟩ = some (.slice A n c)) (hl : Sl w (lt B) A n l) (hc : Sl w (lt B) C n' ch) (hi : i < n) (hn : n = n') (hmx : n ≤ 65536)
    (hB : B ≤ w.heap.size) (hcb : ca < w.heap.size) (hlb : la < w.heap.size) :
    Calls Try.prog 31 #[.int .i64 i, .pointer (some ⟨ca, 0, none⟩), .pointer (some ⟨la, 0, none⟩)] w (RetB (.bool (freeI l ch i)) w) := by
  subst hn
  go_enter Try.func31, Try.ntmps31
  go_wp2
  go_loopw [7, 5, 4] (fun k _ _ wr => ∃ q : Nat, q ≤ i ∧ k = .int .i64 q ∧ (∀ j, j < q → ch.getD j false = true ∨ dep (stepAt l j) (stepAt l i) = false) ∧ Below w.heap.size w wr) (fun k _ _ _ => i - (intOf k).toNat)
  case atStart => exact ⟨0, Nat.zero_le _, rfl, fun j hj => absurd hj (by omega), Below.refl _ _⟩
  case round =>
    obtain ⟨w1, rfl⟩ : ∃ w1 : World, w1 = wr := ⟨_, rfl⟩
    obtain ⟨q, hq, rfl, hno, hb1⟩ := hrel
    have HQ := Lib.hid hno
    clear hno
    by_cases hlt : q < i
    · obtain ⟨bc, oc, rfl, hbc, ec⟩ := (hc.below (hb1.mono hB)).bool (k := q) (by omega)
      obtain ⟨bl, ol, rfl, hbl, G, p, c1, T, m, d1, hp, hc1, hm, hd1, sg, st, e0, e1, e2, e3⟩ := (hl.below (hb1.mono hB)).step (k := q) (by omega)
      obtain ⟨bl', ol', hbe, -, G', p', c1', T', m', d1', hp', hc1', hm', hd1', sg', st', f0, f1, f2, f3⟩ := (hl.below (hb1.mono hB)).step hi
      injection hbe with hbe
      injection hbe with hbe1 hbe2
      subst hbe1
      subst hbe2
      have gca : w1.cell? ⟨ca, 0, none⟩ = some (.slice (some ⟨bc, oc, none⟩) n c') := (hb1.cell (p := ⟨ca, 0, none⟩) hcb).trans hca
      have gla : w1.cell? ⟨la, 0, none⟩ = some (.slice (some ⟨bl, ol, none⟩) n c) := (hb1.cell (p := ⟨la, 0, none⟩) hlb).trans hla
      have hz := hb1.size
      have hqn : q < n := by omega
      clear hca hla
      cases hv : ch.getD q false with
      | true =>
        rw [hv] at ec
        have HV := Lib.hid hv
        clear hv
        go_wp2
        go_quiet (fail)
        go_wp2
        go_roundw
        case rel => exact ⟨q + 1, by omega, by go_num, free_more HQ.out (.inl HV.out), below_drewN hb1 _⟩
        case measure => simp [intOf]; omega
      | false =>
        rw [hv] at ec
        have HV := Lib.hid hv
        clear hv
        go_wp2
        refine region_still_tail 14 (by kernel_rfl) (by kernel_rfl) ?_
        simp only [List.take_succ_cons, List.take_zero, List.drop_succ_cons, List.drop_zero]
        repeat still_step
        refine wpStill_nil ?_
        have HC := Lib.hid (dependent_s w1.drew B (stepAt l q) (stepAt l i) sg st sg' st' hp hc1 hm hd1 hp' hc1' hm' hd1' (Nat.le_trans hB hz))
        clear e0 e1 e2 e3 f0 f1 f2 f3 sg st sg' st'
        cases hd : dep (stepAt l q) (stepAt l i) with
        | true =>
          rw [hd] at HC
          have HD := Lib.hid hd
          clear hd
          go_wp2_with (go_at_call 9; refine HC.out.mono ?_; rintro e w2 ⟨rfl, hb2⟩)
          go_ret
          exact RetB.mk (bool_eq (free_no hlt HV.out HD.out).symm) (hb1.trans ((below_drewL hb2).mono hz))
        | false =>
          rw [hd] at HC
          have HD := Lib.hid hd
          clear hd
          go_wp2_with (go_at_call 9; refine HC.out.mono ?_; rintro e w2 ⟨rfl, hb2⟩)
          go_roundw
          case rel => exact ⟨q + 1, by omega, by go_num, free_more HQ.out (.inr HD.out), hb1.trans ((below_drewL hb2).mono hz)⟩
          case measure => simp [intOf]; omega
    · obtain rfl : q = i := by omega
      go_wp2
      go_ret
      exact RetB.mk (bool_eq (free_yes HQ.out).symm) hb1

end Go.Proofs.Ytlbgmegciomofaa

/- Dependence of two steps: the reference's function. -/
import Derived.Test.YtlbgmegciomofaaW1
namespace Go.Proofs.Ytlbgmegciomofaa
open Go.RowKit

theorem below_drewN {B : Nat} {a w : World} (h : Below B a w) (n : Nat) : Below B a (w.drewN n) := ⟨h.os, h.tape, h.output, h.size, h.block⟩

theorem idxZ_has {xs : List Int} {x : Int} {k : Nat} (hk : xs[k]? = some x) (hno : ∀ j : Nat, j < k → xs[j]? ≠ some x) : hasI xs x = true := by
  rw [← idxZ_geq, idxZ_at hk hno]; simp
theorem idxZ_hasno {xs : List Int} {x : Int} {n : Nat} (hn : xs.length ≤ n) (hno : ∀ j : Nat, j < n → xs[j]? ≠ some x) : hasI xs x = false := by
  rw [← idxZ_geq, idxZ_no hn hno]; simp

set_option maxHeartbeats 2000000 in
theorem refDependent_any (w : World) (B : Nat) (g1 c1 g2 c2 : Int) (A1 T1 A2 T2 : Option Addr) (n1 k1 m1 d1 n2 k2 m2 d2 : Nat) (gs1 gs2 : List Int) (ts1 ts2 : List Touch)
    (hg1 : Sl w (lt B) A1 n1 gs1) (ht1 : Sl w (lt B) T1 m1 ts1) (hg2 : Sl w (lt B) A2 n2 gs2) (ht2 : Sl w (lt B) T2 m2 ts2) (hn1 : n1 ≤ maxLen) (hm1 : m1 ≤ maxLen) (hn2 : n2 ≤ maxLen) (hm2 : m2 ≤ maxLen) (hB : B ≤ w.heap.size) :
    Calls Try.prog 10 #[.agg #[.int .i64 g1, .int .i64 c1, .slice A1 n1 k1, .slice T1 m1 d1], .agg #[.int .i64 g2, .int .i64 c2, .slice A2 n2 k2, .slice T2 m2 d2]] w
      (RetB (.bool (dep ⟨g1, c1, gs1, ts1⟩ ⟨g2, c2, gs2, ts2⟩)) w) := by
  unfold maxLen at hn1 hm1 hn2 hm2
  go_enter Try.func10, Try.ntmps10
  have hgl1 : Hid (gs1.length = n1) := hg1.1
  have hgl2 : Hid (gs2.length = n2) := hg2.1
  have htl1 : Hid (ts1.length = m1) := ht1.1
  have htl2 : Hid (ts2.length = m2) := ht2.1
  go_wp2
  go_loopw [5, 6, 4] (fun i _ _ wr => ∃ k : Nat, k ≤ n1 ∧ i = .int .i64 k ∧ (∀ j x, j < k → gs1[j]? = some x → hasI gs2 x = false) ∧ Below w.heap.size w wr ∧
      Blk wr w.heap.size 27 #[.int .i64 g1, .int .i64 c1, .slice A1 n1 k1, .slice T1 m1 d1] ∧ Blk wr (w.heap.size + 1) 27 #[.int .i64 g2, .int .i64 c2, .slice A2 n2 k2, .slice T2 m2 d2]) (fun i _ _ _ => n1 - (intOf i).toNat)
  case atStart => exact ⟨0, Nat.zero_le _, rfl, fun j _ hj => absurd hj (by omega), ((Below.refl _ _).alloc (Nat.le_refl _) _).alloc (by simp) _, (Blk.new _ _ _).alloc _, by have := Blk.new (w.alloc (.cells #[.int .i64 g1, .int .i64 c1, .slice A1 n1 k1, .slice T1 m1 d1] 27)) 27 #[.int .i64 g2, .int .i64 c2, .slice A2 n2 k2, .slice T2 m2 d2]; simpa using this⟩
  case round =>
    obtain ⟨k, hk, rfl, hno, hbw, hx1, hx2⟩ := hrel
    obtain ⟨w0, rfl⟩ : ∃ w0 : World, w0 = wr := ⟨_, rfl⟩
    have HN := Lib.hid hno
    clear hno
    have b12 : w0.cell? ⟨w.heap.size, 2, none⟩ = some (.slice A1 n1 k1) := hx1.at_ 2 rfl
    have b13 : w0.cell? ⟨w.heap.size, 3, none⟩ = some (.slice T1 m1 d1) := hx1.at_ 3 rfl
    have b22 : w0.cell? ⟨w.heap.size + 1, 2, none⟩ = some (.slice A2 n2 k2) := hx2.at_ 2 rfl
    by_cases hlt : k < n1
    · obtain ⟨b, o, rfl, hb, x, hx, hcell⟩ := (hg1.below (hbw.mono hB)).int hlt
      have HX := Lib.hid hx
      clear hx
      go_wp2
      go_loopw [6, 4] (fun i _ wr => ∃ q : Nat, q ≤ n2 ∧ i = .int .i64 q ∧ (∀ j : Nat, j < q → gs2[j]? ≠ some x) ∧ ∃ d, wr = w0.drewN d) (fun i _ _ => n2 - (intOf i).toNat)
      case atStart => exact ⟨0, Nat.zero_le _, rfl, fun j hj => absurd hj (by omega), 0, rfl⟩
      case round =>
        obtain ⟨q, hq, rfl, hno, d, rfl⟩ := hrel
        have HQ := Lib.hid hno
        clear hno
        by_cases hlt2 : q < n2
        · obtain ⟨b', o', rfl, hb', y, hy, hcell'⟩ := (hg2.below (hbw.mono hB)).int hlt2
          have HY := Lib.hid hy
          clear hy
          by_cases hxy : x = y
          · have hb1 : (x == y) = true := by simpa using hxy
            have HE := Lib.hid hxy
            clear hxy
            go_wp2
            go_quiet (fail)
            go_wp2
            go_ret
            exact RetB.mk (bool_eq (dep_gs (a := ⟨g1, c1, gs1, ts1⟩) (b := ⟨g2, c2, gs2, ts2⟩) HX.out (idxZ_has (by rw [HE.out]; exact HY.out) HQ.out)).symm) (below_drewN (below_drewN hbw _) _)
          · have hb1 : (x == y) = false := by simpa using hxy
            have HE := Lib.hid hxy
            clear hxy
            go_wp2
            go_quiet (fail)
            go_wp2
            go_roundw
            case rel => exact ⟨q + 1, by omega, by go_num, no_snoc HQ.out HY.out HE.out, _, rfl⟩
            case measure => simp [intOf]; omega
        · obtain rfl : q = n2 := by omega
          clear hlt2
          go_wp2
          go_roundw
          case rel => exact ⟨k + 1, by omega, by go_num, any_snoc HN.out HX.out (idxZ_hasno (by rw [hgl2.out]; omega) HQ.out), below_drewN hbw _, hx1.drewN _, hx2.drewN _⟩
          case measure => simp [intOf]; omega
    · obtain rfl : k = n1 := by omega
      clear hlt
      go_wp2
      have hsz : w.heap.size + 1 < w0.heap.size := hx2.lt
      go_loopw [7, 8, 4] (fun i _ _ wq => ∃ j : Nat, j ≤ m1 ∧ i = .int .i64 j ∧ (∀ q x, q < j → ts1[q]? = some x → ts2.any (conf x) = false) ∧ Below w0.heap.size w0 wq) (fun i _ _ _ => m1 - (intOf i).toNat)
      case atStart => exact ⟨0, Nat.zero_le _, rfl, fun j _ hj => absurd hj (by omega), Below.refl _ _⟩
      case round =>
        obtain ⟨w1, rfl⟩ : ∃ w1 : World, w1 = wr := ⟨_, rfl⟩
        obtain ⟨j, hj, rfl, hno, hbq⟩ := hrel
        have HNT := Lib.hid hno
        clear hno
        have c13 : w1.cell? ⟨w.heap.size, 3, none⟩ = some (.slice T1 m1 d1) := (hbq.cell (p := ⟨w.heap.size, 3, none⟩) (by exact hx1.lt)).trans (hx1.at_ 3 rfl)
        have c23 : w1.cell? ⟨w.heap.size + 1, 3, none⟩ = some (.slice T2 m2 d2) := (hbq.cell (p := ⟨w.heap.size + 1, 3, none⟩) hsz).trans (hx2.at_ 3 rfl)
        have hsq := hbq.size
        have hs1 : w.heap.size + 1 < w1.heap.size := by omega
        clear b12 b13 b22
        by_cases hlt : j < m1
        · obtain ⟨b, o, rfl, hbt, x, hy, e0, e1, e2, e3⟩ := (ht1.below ((hbw.trans (hbq.mono hbw.size)).mono hB)).touch hlt
          have HX := Lib.hid hy
          clear hy
          have hbs : b < w1.heap.size := by have : b < B := hbt; omega
          go_wp2
          go_loopw [8, 4] (fun i _ wp => ∃ q : Nat, q ≤ m2 ∧ i = .int .i64 q ∧ (∀ p y, p < q → ts2[p]? = some y → conf x y = false) ∧ Below w1.heap.size w1 wp) (fun i _ _ => m2 - (intOf i).toNat)
          case atStart => exact ⟨0, Nat.zero_le _, rfl, fun j _ hj => absurd hj (by omega), Below.refl _ _⟩
          case round =>
            obtain ⟨w2, rfl⟩ : ∃ w2 : World, w2 = wr := ⟨_, rfl⟩
            obtain ⟨q, hq, rfl, hno, hbp⟩ := hrel
            have HNQ := Lib.hid hno
            clear hno
            have hbx : b < w1.heap.size := hbs
            have g0 : w2.cell? ⟨b, o + j * 4, none⟩ = some (.int .i64 x.kind) := (hbp.cell (p := ⟨b, o + j * 4, none⟩) hbx).trans e0
            have g1' : w2.cell? ⟨b, o + j * 4 + 1, none⟩ = some (.int .i64 x.obj) := (hbp.cell (p := ⟨b, o + j * 4 + 1, none⟩) hbx).trans e1
            have g2' : w2.cell? ⟨b, o + j * 4 + 2, none⟩ = some (.int .i64 x.off) := (hbp.cell (p := ⟨b, o + j * 4 + 2, none⟩) hbx).trans e2
            have g3 : w2.cell? ⟨b, o + j * 4 + 3, none⟩ = some (.bool x.write) := (hbp.cell (p := ⟨b, o + j * 4 + 3, none⟩) hbx).trans e3
            have d13 : w2.cell? ⟨w.heap.size, 3, none⟩ = some (.slice (some ⟨b, o, none⟩) m1 d1) := (hbp.cell (p := ⟨w.heap.size, 3, none⟩) (by show w.heap.size < _; omega)).trans c13
            have d23 : w2.cell? ⟨w.heap.size + 1, 3, none⟩ = some (.slice T2 m2 d2) := (hbp.cell (p := ⟨w.heap.size + 1, 3, none⟩) hs1).trans c23
            have hs2 := hbp.size
            have hbs2 : b < w2.heap.size := by omega
            have hss2 : w.heap.size + 1 < w2.heap.size := by omega
            clear e0 e1 e2 e3 c13 c23 hx1 hx2
            by_cases hlt2 : q < m2
            · obtain ⟨b', o', rfl, hbt', y, hy, e0, e1, e2, e3⟩ := (ht2.below ((hbw.trans ((hbq.mono hbw.size).trans (hbp.mono (by omega)))).mono hB)).touch hlt2
              have HY := Lib.hid hy
              clear hy
              have hbs' : b' < w2.heap.size := by have : b' < B := hbt'; omega
              have hbe : ∀ O O', Below w.heap.size w ((w2.alloc O).alloc O') := fun O O' => ((hbw.trans ((hbq.mono hbw.size).trans (hbp.mono (by omega)))).alloc (by omega) O).alloc (by simp; omega) O'
              have hbe2 : ∀ O O', Below w1.heap.size w1 ((w2.alloc O).alloc O') := fun O O' => (hbp.alloc (by omega) O).alloc (by simp; omega) O'
              by_cases hc : conf x y = true
              · obtain ⟨t1, t2, t3, t4⟩ := conf_yes hc
                have HC := Lib.hid hc
                clear hc
                rcases t4 with t4 | ⟨t4, t5⟩
                all_goals
                  go_wp2
                  go_ret
                  exact RetB.mk (bool_eq (dep_ts (a := ⟨g1, c1, gs1, ts1⟩) (b := ⟨g2, c2, gs2, ts2⟩) HX.out HY.out HC.out).symm) (hbe _ _)
              · have hc' : conf x y = false := by simpa using hc
                have HC := Lib.hid hc'
                clear hc
                rcases conf_not hc' with t1 | ⟨t1, t2⟩ | ⟨t1, t2, t3⟩ | ⟨t1, t2, t3, t4, t5⟩
                all_goals
                  clear hc'
                  go_wp2
                  go_roundw
                  case rel => exact ⟨q + 1, by omega, by go_num, any_snoc HNQ.out HY.out HC.out, hbe2 _ _⟩
                  case measure => simp [intOf]; omega
            · obtain rfl : q = m2 := by omega
              clear hlt2
              go_wp2
              go_roundw
              case rel => exact ⟨j + 1, by omega, by go_num, any_snoc HNT.out HX.out (any_no htl2.out HNQ.out), hbq.trans (hbp.mono hsq)⟩
              case measure => simp [intOf]; omega
        · obtain rfl : j = m1 := by omega
          go_wp2
          go_ret
          exact RetB.mk (bool_eq (dep_no (a := ⟨g1, c1, gs1, ts1⟩) (b := ⟨g2, c2, gs2, ts2⟩) hgl1.out htl1.out HN.out HNT.out).symm) (hbw.trans (hbq.mono hbw.size))

end Go.Proofs.Ytlbgmegciomofaa

/- Dependence of two steps: the program's function and the reference's. -/
import Derived.Test.YtlbgmegciomofaaW0
namespace Go.Proofs.Ytlbgmegciomofaa
open Go.RowKit

def conf (x y : Touch) : Bool := x.kind == y.kind && x.obj == y.obj && x.off == y.off && (x.write || y.write)
def dep (a b : Step) : Bool := a.gs.any (fun g => hasI b.gs g) || a.touches.any (fun x => b.touches.any (conf x))

theorem any_snoc {α : Type} {p : α → Bool} {l : List α} {k : Nat} (hno : ∀ j x, j < k → l[j]? = some x → p x = false) {y : α} (hy : l[k]? = some y) (hp : p y = false) : ∀ j x, j < k + 1 → l[j]? = some x → p x = false := by
  intro j x hj hx
  rcases Nat.lt_or_ge j k with h | h
  · exact hno j x h hx
  · obtain rfl : j = k := by omega
    rw [hy] at hx
    injection hx with hx
    exact hx ▸ hp
theorem any_yes {α : Type} {p : α → Bool} {l : List α} {k : Nat} {y : α} (hy : l[k]? = some y) (hp : p y = true) : l.any p = true := by
  obtain ⟨hl, he⟩ := List.getElem?_eq_some_iff.1 hy
  exact List.any_eq_true.2 ⟨y, by rw [← he]; exact List.getElem_mem hl, hp⟩
theorem any_no {α : Type} {p : α → Bool} {l : List α} {n : Nat} (hn : l.length = n) (hno : ∀ j x, j < n → l[j]? = some x → p x = false) : l.any p = false := by
  rw [List.any_eq_false]
  intro x hx
  obtain ⟨j, hj, he⟩ := List.getElem_of_mem hx
  rw [hno j x (by omega) (by rw [List.getElem?_eq_getElem hj, he])]
  simp

theorem dep_gs {a b : Step} {k : Nat} {y : Int} (hy : a.gs[k]? = some y) (hp : hasI b.gs y = true) : dep a b = true := by
  unfold dep; rw [any_yes hy hp]; rfl
theorem dep_ts {a b : Step} {k : Nat} {x : Touch} (hy : a.touches[k]? = some x) {j : Nat} {y : Touch} (hy2 : b.touches[j]? = some y) (hp : conf x y = true) : dep a b = true := by
  unfold dep; rw [any_yes (p := fun x => b.touches.any (conf x)) hy (any_yes hy2 hp), Bool.or_true]
theorem dep_no {a b : Step} {n m : Nat} (hn : a.gs.length = n) (hm : a.touches.length = m) (h1 : ∀ j x, j < n → a.gs[j]? = some x → hasI b.gs x = false)
    (h2 : ∀ j x, j < m → a.touches[j]? = some x → b.touches.any (conf x) = false) : dep a b = false := by
  unfold dep; rw [any_no hn h1, any_no (p := fun x => b.touches.any (conf x)) hm h2]; rfl

theorem conf_yes {x y : Touch} (h : conf x y = true) : (x.kind == y.kind) = true ∧ (x.obj == y.obj) = true ∧ (x.off == y.off) = true ∧ (x.write = true ∨ x.write = false ∧ y.write = true) := by
  unfold conf at h
  cases hw : x.write <;> simp_all
theorem conf_not {x y : Touch} (h : conf x y = false) : (x.kind == y.kind) = false ∨ ((x.kind == y.kind) = true ∧ (x.obj == y.obj) = false) ∨ ((x.kind == y.kind) = true ∧ (x.obj == y.obj) = true ∧ (x.off == y.off) = false) ∨
    ((x.kind == y.kind) = true ∧ (x.obj == y.obj) = true ∧ (x.off == y.off) = true ∧ x.write = false ∧ y.write = false) := by
  unfold conf at h
  cases h1 : (x.kind == y.kind) <;> cases h2 : (x.obj == y.obj) <;> cases h3 : (x.off == y.off) <;> cases h4 : x.write <;> simp_all

set_option maxHeartbeats 2000000 in
theorem dependent_any (w : World) (B : Nat) (g1 c1 g2 c2 : Int) (A1 T1 A2 T2 : Option Addr) (n1 k1 m1 d1 n2 k2 m2 d2 : Nat) (gs1 gs2 : List Int) (ts1 ts2 : List Touch)
    (hg1 : Sl w (lt B) A1 n1 gs1) (ht1 : Sl w (lt B) T1 m1 ts1) (hg2 : Sl w (lt B) A2 n2 gs2) (ht2 : Sl w (lt B) T2 m2 ts2) (hn1 : n1 ≤ maxLen) (hm1 : m1 ≤ maxLen) (hn2 : n2 ≤ maxLen) (hm2 : m2 ≤ maxLen) (hB : B ≤ w.heap.size) :
    Calls Try.prog 9 #[.agg #[.int .i64 g1, .int .i64 c1, .slice A1 n1 k1, .slice T1 m1 d1], .agg #[.int .i64 g2, .int .i64 c2, .slice A2 n2 k2, .slice T2 m2 d2]] w
      (RetB (.bool (dep ⟨g1, c1, gs1, ts1⟩ ⟨g2, c2, gs2, ts2⟩)) w) := by
  unfold maxLen at hn1 hm1 hn2 hm2
  go_enter Try.func9, Try.ntmps9
  have hgl1 : Hid (gs1.length = n1) := hg1.1
  have htl1 : Hid (ts1.length = m1) := ht1.1
  have htl2 : Hid (ts2.length = m2) := ht2.1
  go_wp2
  go_loopw [14, 6, 4] (fun i _ _ wr => ∃ k : Nat, k ≤ n1 ∧ i = .int .i64 k ∧ (∀ j x, j < k → gs1[j]? = some x → hasI gs2 x = false) ∧ Below w.heap.size w wr ∧
      Blk wr w.heap.size 27 #[.int .i64 g1, .int .i64 c1, .slice A1 n1 k1, .slice T1 m1 d1] ∧ Blk wr (w.heap.size + 1) 27 #[.int .i64 g2, .int .i64 c2, .slice A2 n2 k2, .slice T2 m2 d2]) (fun i _ _ _ => n1 - (intOf i).toNat)
  case atStart => exact ⟨0, Nat.zero_le _, rfl, fun j _ hj => absurd hj (by omega), ((Below.refl _ _).alloc (Nat.le_refl _) _).alloc (by simp) _, (Blk.new _ _ _).alloc _, by have := Blk.new (w.alloc (.cells #[.int .i64 g1, .int .i64 c1, .slice A1 n1 k1, .slice T1 m1 d1] 27)) 27 #[.int .i64 g2, .int .i64 c2, .slice A2 n2 k2, .slice T2 m2 d2]; simpa using this⟩
  case round =>
    obtain ⟨k, hk, rfl, hno, hbw, hx1, hx2⟩ := hrel
    have HN := Lib.hid hno
    clear hno
    have b12 : wr.cell? ⟨w.heap.size, 2, none⟩ = some (.slice A1 n1 k1) := hx1.at_ 2 rfl
    have b13 : wr.cell? ⟨w.heap.size, 3, none⟩ = some (.slice T1 m1 d1) := hx1.at_ 3 rfl
    have b21 : wr.cell? ⟨w.heap.size + 1, 2, none⟩ = some (.slice A2 n2 k2) := hx2.at_ 2 rfl
    by_cases hlt : k < n1
    · obtain ⟨b, o, rfl, hb, y, hy, hcell⟩ := (hg1.below (hbw.mono hB)).int hlt
      have HY := Lib.hid hy
      clear hy
      by_cases hxy : hasI gs2 y = true
      · go_wp2_with (go_at_call 22; refine (contains_any _ _ n2 k2 A2 gs2 y (hg2.below (hbw.mono hB)) hn2).mono ?_; rintro e w' ⟨rfl, rfl⟩)
        go_ret
        exact RetB.mk (bool_eq (dep_gs (a := ⟨g1, c1, gs1, ts1⟩) (b := ⟨g2, c2, gs2, ts2⟩) HY.out hxy).symm) hbw
      · have hxy' : hasI gs2 y = false := by simpa using hxy
        clear hxy
        go_wp2_with (go_at_call 22; refine (contains_any _ _ n2 k2 A2 gs2 y (hg2.below (hbw.mono hB)) hn2).mono ?_; rintro e w' ⟨rfl, rfl⟩)
        go_roundw
        case rel => exact ⟨k + 1, by omega, by go_num, any_snoc HN.out HY.out hxy', hbw, hx1, hx2⟩
        case measure => simp [intOf]; omega
    · obtain rfl : k = n1 := by omega
      clear hlt
      go_wp2
      have hsz : w.heap.size + 1 < wr.heap.size := hx2.lt
      go_loopw [26, 8, 4] (fun i _ _ wq => ∃ j : Nat, j ≤ m1 ∧ i = .int .i64 j ∧ (∀ q x, q < j → ts1[q]? = some x → ts2.any (conf x) = false) ∧ Below wr.heap.size wr wq) (fun i _ _ _ => m1 - (intOf i).toNat)
      case atStart => exact ⟨0, Nat.zero_le _, rfl, fun j _ hj => absurd hj (by omega), Below.refl _ _⟩
      case round =>
        obtain ⟨w1, rfl⟩ : ∃ w1 : World, w1 = wr := ⟨_, rfl⟩
        obtain ⟨j, hj, rfl, hno, hbq⟩ := hrel
        have HNT := Lib.hid hno
        clear hno
        have c23 : w1.cell? ⟨w.heap.size + 1, 3, none⟩ = some (.slice T2 m2 d2) := (hbq.cell (p := ⟨w.heap.size + 1, 3, none⟩) hsz).trans (hx2.at_ 3 rfl)
        have hsq := hbq.size
        have hs1 : w.heap.size + 1 < w1.heap.size := by omega
        clear b12 b13 b21
        by_cases hlt : j < m1
        · obtain ⟨b, o, rfl, hbt, x, hy, e0, e1, e2, e3⟩ := (ht1.below ((hbw.trans (hbq.mono hbw.size)).mono hB)).touch hlt
          have HX := Lib.hid hy
          clear hy
          have hbs : b < w1.heap.size := by have : b < B := hbt; omega
          go_wp2
          go_loopw [33, 10, 4] (fun i _ _ wp => ∃ q : Nat, q ≤ m2 ∧ i = .int .i64 q ∧ (∀ p y, p < q → ts2[p]? = some y → conf x y = false) ∧ Below w1.heap.size w1 wp ∧
            Blk wp w1.heap.size 41 #[.int .i64 x.kind, .int .i64 x.obj, .int .i64 x.off, .bool x.write]) (fun i _ _ _ => m2 - (intOf i).toNat)
          case atStart => exact ⟨0, Nat.zero_le _, rfl, fun j _ hj => absurd hj (by omega), (Below.refl _ _).alloc (Nat.le_refl _) _, Blk.new _ _ _⟩
          case round =>
            obtain ⟨w2, rfl⟩ : ∃ w2 : World, w2 = wr := ⟨_, rfl⟩
            obtain ⟨q, hq, rfl, hno, hbp, hxp⟩ := hrel
            have HNQ := Lib.hid hno
            clear hno e0 e1 e2 e3
            have f0 : w2.cell? ⟨w1.heap.size, 0, none⟩ = some (.int .i64 x.kind) := hxp.at_ 0 rfl
            have f1 : w2.cell? ⟨w1.heap.size, 1, none⟩ = some (.int .i64 x.obj) := hxp.at_ 1 rfl
            have f2 : w2.cell? ⟨w1.heap.size, 2, none⟩ = some (.int .i64 x.off) := hxp.at_ 2 rfl
            have f3 : w2.cell? ⟨w1.heap.size, 3, none⟩ = some (.bool x.write) := hxp.at_ 3 rfl
            have hs2 : w1.heap.size < w2.heap.size := hxp.lt
            by_cases hlt2 : q < m2
            · obtain ⟨b', o', rfl, hbt', y, hy, e0, e1, e2, e3⟩ := (ht2.below ((hbw.trans ((hbq.mono hbw.size).trans (hbp.mono (by omega)))).mono hB)).touch hlt2
              have HY := Lib.hid hy
              clear hy
              have hbs' : b' < w2.heap.size := by have : b' < B := hbt'; omega
              have hbe : ∀ O, Below w.heap.size w (w2.alloc O) := (hbw.trans ((hbq.mono hbw.size).trans (hbp.mono (by omega)))).alloc (by omega)
              have hbe2 : ∀ O, Below w1.heap.size w1 (w2.alloc O) := hbp.alloc (by omega)
              have hxe := fun O => hxp.alloc O
              by_cases hc : conf x y = true
              · obtain ⟨t1, t2, t3, t4⟩ := conf_yes hc
                have HC := Lib.hid hc
                clear hc
                rcases t4 with t4 | ⟨t4, t5⟩
                all_goals
                  go_wp2
                  go_ret
                  exact RetB.mk (bool_eq (dep_ts (a := ⟨g1, c1, gs1, ts1⟩) (b := ⟨g2, c2, gs2, ts2⟩) HX.out HY.out HC.out).symm) (hbe _)
              · have hc' : conf x y = false := by simpa using hc
                have HC := Lib.hid hc'
                clear hc
                rcases conf_not hc' with t1 | ⟨t1, t2⟩ | ⟨t1, t2, t3⟩ | ⟨t1, t2, t3, t4, t5⟩
                all_goals
                  clear hc'
                  go_wp2
                  go_roundw
                  case rel => exact ⟨q + 1, by omega, by go_num, any_snoc HNQ.out HY.out HC.out, hbe2 _, hxe _⟩
                  case measure => simp [intOf]; omega
            · obtain rfl : q = m2 := by omega
              clear hlt2
              go_wp2
              go_roundw
              case rel => exact ⟨j + 1, by omega, by go_num, any_snoc HNT.out HX.out (any_no htl2.out HNQ.out), hbq.trans (hbp.mono hsq)⟩
              case measure => simp [intOf]; omega
        · obtain rfl : j = m1 := by omega
          go_wp2
          go_ret
          exact RetB.mk (bool_eq (dep_no (a := ⟨g1, c1, gs1, ts1⟩) (b := ⟨g2, c2, gs2, ts2⟩) hgl1.out htl1.out HN.out HNT.out).symm) (hbw.trans (hbq.mono hbw.size))

end Go.Proofs.Ytlbgmegciomofaa

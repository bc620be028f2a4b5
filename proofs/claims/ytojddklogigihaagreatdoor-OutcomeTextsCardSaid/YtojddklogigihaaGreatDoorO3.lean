/- Compare of outcomes, of the program and of the reference; few. -/
import Derived.Test.YtojddklogigihaaGreatDoorO2
import Derived.Deep.RegionLaw
import Derived.Deep.RegionHeld3
namespace Go.Proofs.YtojddklogigihaaGreatDoor
open Go.RowKit

def cmpB (a b : Bool) : Int := if a = b then 0 else if a then 1 else -1
def cmpO (a b : Outc) : Int := or3 (cmpL a.out b.out) (cmpL a.fau b.fau) (cmpB a.dead b.dead)
def b2i (b : Bool) : Int := if b then 1 else 0
theorem cmpI_b (a b : Bool) : cmpI (b2i a) (b2i b) = cmpB a b := by cases a <;> cases b <;> rfl

theorem number_any (w : World) (b : Bool) : Calls Tryz.prog 14 #[.bool b] w (Ret (.int .i64 (b2i b)) w) := by
  cases b
  · go_enter Tryz.func14, Tryz.ntmps14
    go_wp2
    go_ret
    exact Ret.mk rfl
  · go_enter Tryz.func14, Tryz.ntmps14
    go_wp2
    go_ret
    exact Ret.mk rfl

theorem few_any (w : World) (B : Nat) (q : Outc) (v0 v1 v2 : Value) (h : Rep.cells w (lt B) q [v0, v1, v2]) (r : Bool) (hr : (decide (q.out.length ≤ 20) && decide (q.fau.length ≤ 20)) = r) :
    Calls Tryz.prog 7 #[.agg #[v0, v1, v2]] w (RetB (.bool r) w) := by
  obtain ⟨A, n, c, C, m, d, e, h1, h2, h3, h4, h5, h6⟩ := h
  simp only [List.cons.injEq, and_true] at e
  obtain ⟨rfl, rfl, rfl⟩ := e
  have e1 : q.out.length = n := h5.1
  have e2 : q.fau.length = m := h6.1
  rw [e1, e2] at hr
  subst hr
  clear e1 e2
  by_cases hn : n ≤ 20
  · have hb1 : decide ((n : Int) ≤ 20) = true := by simp; omega
    have hb3 : decide (n ≤ 20) = true := by simpa using hn
    go_enter Tryz.func7, Tryz.ntmps7
    go_wp2
    go_ret
    exact RetB.mk (bool_eq (by rw [hb3]; simp <;> omega)) ((Below.refl _ _).alloc (Nat.le_refl _) _)
  · have hb1 : decide ((n : Int) ≤ 20) = false := by simp; omega
    have hb3 : decide (n ≤ 20) = false := by simpa using hn
    go_enter Tryz.func7, Tryz.ntmps7
    go_wp2
    go_ret
    exact RetB.mk (bool_eq (by rw [hb3]; simp <;> omega)) ((Below.refl _ _).alloc (Nat.le_refl _) _)
theorem compare_b (w : World) (F F' : Nat → Prop) (n c m d : Nat) (A A' : Option Addr) (xs ys : List Int) (r : Int) (hr : cmpL xs ys = r) (hx : Sl w F A n xs) (hy : Sl w F' A' m ys) (hn : n ≤ maxLen) (hm : m ≤ maxLen) :
    Calls Tryz.prog 16 #[.slice A n c, .slice A' m d] w (Ret (.int .i64 r) w) := hr ▸ compare_any w F F' n c m d A A' xs ys hx hy hn hm
theorem rints_b (w : World) (F F' : Nat → Prop) (n c m d : Nat) (A A' : Option Addr) (xs ys : List Int) (r : Int) (hr : cmpL xs ys = r) (hx : Sl w F A n xs) (hy : Sl w F' A' m ys) (hn : n ≤ maxLen) (hm : m ≤ maxLen) :
    Calls Tryz.prog 18 #[.slice A n c, .slice A' m d] w (RetB (.int .i64 r) w) := hr ▸ rints_any w F F' n c m d A A' xs ys hx hy hn hm

set_option maxRecDepth 100000 in
set_option maxHeartbeats 2000000 in
theorem pcmp_any (w : World) (B : Nat) (a b : Outc) (a0 a1 a2 b0 b1 b2 : Value) (ha : Rep.cells w (lt B) a [a0, a1, a2]) (hb : Rep.cells w (lt B) b [b0, b1, b2]) (hB : B ≤ w.heap.size) (r : Int) (hr : cmpO a b = r) :
    Calls Tryz.prog 8 #[.agg #[a0, a1, a2], .agg #[b0, b1, b2]] w (RetB (.int .i64 r) w) := by
  obtain ⟨A, n, c, C, m, d, ea, h1, h2, h3, h4, h5, h6⟩ := ha
  obtain ⟨A', n', c', C', m', d', eb, k1, k2, k3, k4, k5, k6⟩ := hb
  simp only [List.cons.injEq, and_true] at ea eb
  obtain ⟨rfl, rfl, rfl⟩ := ea
  obtain ⟨rfl, rfl, rfl⟩ := eb
  obtain ⟨r1, hr1⟩ : ∃ r1, cmpL a.out b.out = r1 := ⟨_, rfl⟩
  obtain ⟨r2, hr2⟩ : ∃ r2, cmpL a.fau b.fau = r2 := ⟨_, rfl⟩
  obtain ⟨r3, hr3⟩ : ∃ r3, cmpI (b2i a.dead) (b2i b.dead) = r3 := ⟨_, rfl⟩
  have HR : Hid (or3 r1 r2 r3 = r) := Lib.hid (by rw [← hr, ← hr1, ← hr2, ← hr3, cmpI_b]; rfl)
  have H1 := Lib.hid hr1
  have H2 := Lib.hid hr2
  have H3 := Lib.hid hr3
  have N1 := Lib.hid (Nat.le_trans h1 h2)
  have N2 := Lib.hid (Nat.le_trans h3 h4)
  have M1 := Lib.hid (Nat.le_trans k1 k2)
  have M2 := Lib.hid (Nat.le_trans k3 k4)
  have HS := Lib.hid (And.intro h5 (And.intro h6 (And.intro k5 k6)))
  generalize a.dead = da at *
  generalize b.dead = db at *
  clear hr hr1 hr2 hr3 h1 h2 h3 h4 k1 k2 k3 k4 h5 h6 k5 k6
  go_enter Tryz.func8, Tryz.ntmps8
  go_wp2
  obtain ⟨w1, hw1⟩ : ∃ w1, w1 = (w.alloc (.cells #[.slice A n c, .slice C m d, .bool da] 24)).alloc (.cells #[.slice A' n' c', .slice C' m' d', .bool db] 24) := ⟨_, rfl⟩
  rw [← hw1]
  have hbw : Below w.heap.size w w1 := by rw [hw1]; exact ((Below.refl _ _).alloc (Nat.le_refl _) _).alloc (by simp) _
  have hk1 : Blk w1 w.heap.size 24 #[.slice A n c, .slice C m d, .bool da] := by rw [hw1]; exact (Blk.new w _ _).alloc _
  have hk2 : Blk w1 (w.heap.size + 1) 24 #[.slice A' n' c', .slice C' m' d', .bool db] := by
    rw [hw1]
    have := Blk.new (w.alloc (.cells #[.slice A n c, .slice C m d, .bool da] 24)) 24 #[.slice A' n' c', .slice C' m' d', .bool db]
    simpa using this
  have x0 : w1.cell? ⟨w.heap.size, 0, none⟩ = some (.slice A n c) := hk1.at_ 0 rfl
  have x1 : w1.cell? ⟨w.heap.size, 1, none⟩ = some (.slice C m d) := hk1.at_ 1 rfl
  have x2 : w1.cell? ⟨w.heap.size, 2, none⟩ = some (.bool da) := hk1.at_ 2 rfl
  have y0 : w1.cell? ⟨w.heap.size + 1, 0, none⟩ = some (.slice A' n' c') := hk2.at_ 0 rfl
  have y1 : w1.cell? ⟨w.heap.size + 1, 1, none⟩ = some (.slice C' m' d') := hk2.at_ 1 rfl
  have y2 : w1.cell? ⟨w.heap.size + 1, 2, none⟩ = some (.bool db) := hk2.at_ 2 rfl
  have hlt1 : w.heap.size < w1.heap.size := hk1.lt
  have hlt2 : w.heap.size + 1 < w1.heap.size := hk2.lt
  have HB := Lib.hid hbw
  have S1 : Hid (Sl w1.drew (lt B) A n a.out) := Lib.hid (HS.out.1.below (below_drewN (hbw.mono hB) 1))
  have S2 : Hid (Sl w1.drew (lt B) C m a.fau) := Lib.hid (HS.out.2.1.below (below_drewN (hbw.mono hB) 1))
  have S3 : Hid (Sl w1.drew (lt B) A' n' b.out) := Lib.hid (HS.out.2.2.1.below (below_drewN (hbw.mono hB) 1))
  have S4 : Hid (Sl w1.drew (lt B) C' m' b.fau) := Lib.hid (HS.out.2.2.2.below (below_drewN (hbw.mono hB) 1))
  clear hw1 hk1 hk2 hbw
  go_region_held3 (fun w' => w'.cell? ⟨w.heap.size, 0, none⟩ = some (.slice A n c) ∧ w'.cell? ⟨w.heap.size, 1, none⟩ = some (.slice C m d) ∧ w'.cell? ⟨w.heap.size, 2, none⟩ = some (.bool da) ∧ w'.cell? ⟨w.heap.size + 1, 0, none⟩ = some (.slice A' n' c') ∧ w'.cell? ⟨w.heap.size + 1, 1, none⟩ = some (.slice C' m' d') ∧ w'.cell? ⟨w.heap.size + 1, 2, none⟩ = some (.bool db)) (go_keep)
    (first
      | (have _ := flag1
         go_at_call 16
         refine (compare_b w1.drew (lt B) (lt B) m d m' d' C C' a.fau b.fau r2 H2.out S2.out S4.out N2.out M2.out).mono ?_
         rintro e w' ⟨rfl, rfl⟩)
      | (go_at_call 16
         refine (compare_b w1.drew (lt B) (lt B) n c n' c' A A' a.out b.out r1 H1.out S1.out S3.out N1.out M1.out).mono ?_
         rintro e w' ⟨rfl, rfl⟩
         have flag1 := True.intro)
      | (have _ := flag2
         go_at_call 14
         refine (number_any w1.drew db).mono ?_
         rintro e w' ⟨rfl, rfl⟩)
      | (go_at_call 14
         refine (number_any w1.drew da).mono ?_
         rintro e w' ⟨rfl, rfl⟩
         have flag2 := True.intro)
      | (go_at_call 17
         refine (cmp_b w1.drew _ _ r3 H3.out).mono ?_
         rintro e w' ⟨rfl, rfl⟩)
      | (go_at_call 15
         refine (or_any _ _ r1 r2 r3 r HR.out ((Blk.new w1.drew 3 #[.int .i64 r1, .int .i64 r2, .int .i64 r3]).at_ 0 rfl) ((Blk.new w1.drew 3 #[.int .i64 r1, .int .i64 r2, .int .i64 r3]).at_ 1 rfl) ((Blk.new w1.drew 3 #[.int .i64 r1, .int .i64 r2, .int .i64 r3]).at_ 2 rfl)).mono ?_
         rintro e w' ⟨rfl, rfl⟩))
  go_wp2
  go_ret
  exact RetB.mk rfl ((below_drewN HB.out 1).alloc (by simpa using HB.out.size) _)
end Go.Proofs.YtojddklogigihaaGreatDoor

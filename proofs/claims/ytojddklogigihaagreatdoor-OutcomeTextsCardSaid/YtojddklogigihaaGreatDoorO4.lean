/- Compare of the reference. -/
import Derived.Test.YtojddklogigihaaGreatDoorO3
namespace Go.Proofs.YtojddklogigihaaGreatDoor
open Go.RowKit

set_option maxRecDepth 100000 in
set_option maxHeartbeats 2000000 in
theorem rcmp_any (w : World) (B : Nat) (a b : Outc) (a0 a1 a2 b0 b1 b2 : Value) (ha : Rep.cells w (lt B) a [a0, a1, a2]) (hb : Rep.cells w (lt B) b [b0, b1, b2]) (hB : B ≤ w.heap.size) (r : Int) (hr : cmpO a b = r) :
    Calls Tryz.prog 9 #[.agg #[a0, a1, a2], .agg #[b0, b1, b2]] w (RetB (.int .i64 r) w) := by
  obtain ⟨A, n, c, C, m, d, ea, h1, h2, h3, h4, h5, h6⟩ := ha
  obtain ⟨A', n', c', C', m', d', eb, k1, k2, k3, k4, k5, k6⟩ := hb
  simp only [List.cons.injEq, and_true] at ea eb
  obtain ⟨rfl, rfl, rfl⟩ := ea
  obtain ⟨rfl, rfl, rfl⟩ := eb
  obtain ⟨r1, hr1⟩ : ∃ r1, cmpL a.out b.out = r1 := ⟨_, rfl⟩
  obtain ⟨r2, hr2⟩ : ∃ r2, cmpL a.fau b.fau = r2 := ⟨_, rfl⟩
  have HR : Hid (or3 r1 r2 (cmpB a.dead b.dead) = r) := Lib.hid (by rw [← hr, ← hr1, ← hr2]; rfl)
  have H1 := Lib.hid hr1
  have H2 := Lib.hid hr2
  have N1 := Lib.hid (Nat.le_trans h1 h2)
  have N2 := Lib.hid (Nat.le_trans h3 h4)
  have M1 := Lib.hid (Nat.le_trans k1 k2)
  have M2 := Lib.hid (Nat.le_trans k3 k4)
  have HS := Lib.hid (And.intro h5 (And.intro h6 (And.intro k5 k6)))
  generalize a.dead = da at *
  generalize b.dead = db at *
  clear hr hr1 hr2 h1 h2 h3 h4 k1 k2 k3 k4 h5 h6 k5 k6
  go_enter Tryz.func9, Tryz.ntmps9
  go_upto_region 1 with fail
  obtain ⟨w1, hw1⟩ : ∃ w1, w1 = (w.alloc (.cells #[.slice A n c, .slice C m d, .bool da] 24)).alloc (.cells #[.slice A' n' c', .slice C' m' d', .bool db] 24) := ⟨_, rfl⟩
  rw [← hw1]
  have hbw : Below w.heap.size w w1 := by rw [hw1]; exact ((Below.refl _ _).alloc (Nat.le_refl _) _).alloc (by simp) _
  have hk1 : Blk w1 w.heap.size 24 #[.slice A n c, .slice C m d, .bool da] := by rw [hw1]; exact (Blk.new w _ _).alloc _
  have hk2 : Blk w1 (w.heap.size + 1) 24 #[.slice A' n' c', .slice C' m' d', .bool db] := by
    rw [hw1]
    have := Blk.new (w.alloc (.cells #[.slice A n c, .slice C m d, .bool da] 24)) 24 #[.slice A' n' c', .slice C' m' d', .bool db]
    simpa using this
  have x0 : w1.cell? ⟨w.heap.size, 0, none⟩ = some (.slice A n c) := hk1.at_ 0 rfl
  have y0 : w1.cell? ⟨w.heap.size + 1, 0, none⟩ = some (.slice A' n' c') := hk2.at_ 0 rfl
  have HB := Lib.hid hbw
  have HK1 := Lib.hid hk1
  have HK2 := Lib.hid hk2
  clear hw1 hk1 hk2 hbw
  by_cases z1 : r1 = 0
  · subst z1
    have HR' : Hid ((if r2 ≠ 0 then r2 else cmpB da db) = r) := Lib.hid (by rw [← HR.out]; simp [or3])
    by_cases z2 : r2 = 0
    · subst z2
      have HR2 : Hid (cmpB da db = r) := Lib.hid (by rw [← HR'.out]; simp)
      clear HR HR'
      cases da <;> cases db
      · go_wp2_with (first
          | (have _ := flag1
             go_at_call 18
             refine (rints_b w2 (lt B) (lt B) m d m' d' C C' a.fau b.fau 0 H2.out (HS.out.2.1.below (HB.out.trans (hb2.mono HB.out.size) |>.mono hB)) (HS.out.2.2.2.below (HB.out.trans (hb2.mono HB.out.size) |>.mono hB)) N2.out M2.out).mono ?_
             rintro e w3 ⟨rfl, hb3⟩
             have x2 : w3.cell? ⟨w.heap.size, 2, none⟩ = some (.bool false) := ((HK1.out.below hb2 HK1.out.lt).below hb3 (Nat.lt_of_lt_of_le HK1.out.lt hb2.size)).at_ 2 rfl
             have y2 : w3.cell? ⟨w.heap.size + 1, 2, none⟩ = some (.bool false) := ((HK2.out.below hb2 HK2.out.lt).below hb3 (Nat.lt_of_lt_of_le HK2.out.lt hb2.size)).at_ 2 rfl)
          | (go_at_call 18
             refine (rints_b w1 (lt B) (lt B) n c n' c' A A' a.out b.out 0 H1.out (HS.out.1.below (HB.out.mono hB)) (HS.out.2.2.1.below (HB.out.mono hB)) N1.out M1.out).mono ?_
             rintro e w2 ⟨rfl, hb2⟩
             have x1 : w2.cell? ⟨w.heap.size, 1, none⟩ = some (.slice C m d) := (HK1.out.below hb2 HK1.out.lt).at_ 1 rfl
             have y1 : w2.cell? ⟨w.heap.size + 1, 1, none⟩ = some (.slice C' m' d') := (HK2.out.below hb2 HK2.out.lt).at_ 1 rfl
             have flag1 := True.intro))
        go_ret
        exact RetB.mk (int_eq HR2.out) (HB.out.trans (hb2.mono HB.out.size) |>.trans (hb3.mono (Nat.le_trans HB.out.size hb2.size)))
      · go_wp2_with (first
          | (have _ := flag1
             go_at_call 18
             refine (rints_b w2 (lt B) (lt B) m d m' d' C C' a.fau b.fau 0 H2.out (HS.out.2.1.below (HB.out.trans (hb2.mono HB.out.size) |>.mono hB)) (HS.out.2.2.2.below (HB.out.trans (hb2.mono HB.out.size) |>.mono hB)) N2.out M2.out).mono ?_
             rintro e w3 ⟨rfl, hb3⟩
             have x2 : w3.cell? ⟨w.heap.size, 2, none⟩ = some (.bool false) := ((HK1.out.below hb2 HK1.out.lt).below hb3 (Nat.lt_of_lt_of_le HK1.out.lt hb2.size)).at_ 2 rfl
             have y2 : w3.cell? ⟨w.heap.size + 1, 2, none⟩ = some (.bool true) := ((HK2.out.below hb2 HK2.out.lt).below hb3 (Nat.lt_of_lt_of_le HK2.out.lt hb2.size)).at_ 2 rfl)
          | (go_at_call 18
             refine (rints_b w1 (lt B) (lt B) n c n' c' A A' a.out b.out 0 H1.out (HS.out.1.below (HB.out.mono hB)) (HS.out.2.2.1.below (HB.out.mono hB)) N1.out M1.out).mono ?_
             rintro e w2 ⟨rfl, hb2⟩
             have x1 : w2.cell? ⟨w.heap.size, 1, none⟩ = some (.slice C m d) := (HK1.out.below hb2 HK1.out.lt).at_ 1 rfl
             have y1 : w2.cell? ⟨w.heap.size + 1, 1, none⟩ = some (.slice C' m' d') := (HK2.out.below hb2 HK2.out.lt).at_ 1 rfl
             have flag1 := True.intro))
        go_ret
        exact RetB.mk (int_eq HR2.out) (HB.out.trans (hb2.mono HB.out.size) |>.trans (hb3.mono (Nat.le_trans HB.out.size hb2.size)))
      · go_wp2_with (first
          | (have _ := flag1
             go_at_call 18
             refine (rints_b w2 (lt B) (lt B) m d m' d' C C' a.fau b.fau 0 H2.out (HS.out.2.1.below (HB.out.trans (hb2.mono HB.out.size) |>.mono hB)) (HS.out.2.2.2.below (HB.out.trans (hb2.mono HB.out.size) |>.mono hB)) N2.out M2.out).mono ?_
             rintro e w3 ⟨rfl, hb3⟩
             have x2 : w3.cell? ⟨w.heap.size, 2, none⟩ = some (.bool true) := ((HK1.out.below hb2 HK1.out.lt).below hb3 (Nat.lt_of_lt_of_le HK1.out.lt hb2.size)).at_ 2 rfl
             have y2 : w3.cell? ⟨w.heap.size + 1, 2, none⟩ = some (.bool false) := ((HK2.out.below hb2 HK2.out.lt).below hb3 (Nat.lt_of_lt_of_le HK2.out.lt hb2.size)).at_ 2 rfl)
          | (go_at_call 18
             refine (rints_b w1 (lt B) (lt B) n c n' c' A A' a.out b.out 0 H1.out (HS.out.1.below (HB.out.mono hB)) (HS.out.2.2.1.below (HB.out.mono hB)) N1.out M1.out).mono ?_
             rintro e w2 ⟨rfl, hb2⟩
             have x1 : w2.cell? ⟨w.heap.size, 1, none⟩ = some (.slice C m d) := (HK1.out.below hb2 HK1.out.lt).at_ 1 rfl
             have y1 : w2.cell? ⟨w.heap.size + 1, 1, none⟩ = some (.slice C' m' d') := (HK2.out.below hb2 HK2.out.lt).at_ 1 rfl
             have flag1 := True.intro))
        go_ret
        exact RetB.mk (int_eq HR2.out) (HB.out.trans (hb2.mono HB.out.size) |>.trans (hb3.mono (Nat.le_trans HB.out.size hb2.size)))
      · go_wp2_with (first
          | (have _ := flag1
             go_at_call 18
             refine (rints_b w2 (lt B) (lt B) m d m' d' C C' a.fau b.fau 0 H2.out (HS.out.2.1.below (HB.out.trans (hb2.mono HB.out.size) |>.mono hB)) (HS.out.2.2.2.below (HB.out.trans (hb2.mono HB.out.size) |>.mono hB)) N2.out M2.out).mono ?_
             rintro e w3 ⟨rfl, hb3⟩
             have x2 : w3.cell? ⟨w.heap.size, 2, none⟩ = some (.bool true) := ((HK1.out.below hb2 HK1.out.lt).below hb3 (Nat.lt_of_lt_of_le HK1.out.lt hb2.size)).at_ 2 rfl
             have y2 : w3.cell? ⟨w.heap.size + 1, 2, none⟩ = some (.bool true) := ((HK2.out.below hb2 HK2.out.lt).below hb3 (Nat.lt_of_lt_of_le HK2.out.lt hb2.size)).at_ 2 rfl)
          | (go_at_call 18
             refine (rints_b w1 (lt B) (lt B) n c n' c' A A' a.out b.out 0 H1.out (HS.out.1.below (HB.out.mono hB)) (HS.out.2.2.1.below (HB.out.mono hB)) N1.out M1.out).mono ?_
             rintro e w2 ⟨rfl, hb2⟩
             have x1 : w2.cell? ⟨w.heap.size, 1, none⟩ = some (.slice C m d) := (HK1.out.below hb2 HK1.out.lt).at_ 1 rfl
             have y1 : w2.cell? ⟨w.heap.size + 1, 1, none⟩ = some (.slice C' m' d') := (HK2.out.below hb2 HK2.out.lt).at_ 1 rfl
             have flag1 := True.intro))
        go_ret
        exact RetB.mk (int_eq HR2.out) (HB.out.trans (hb2.mono HB.out.size) |>.trans (hb3.mono (Nat.le_trans HB.out.size hb2.size)))
    · have z2' : (r2 == 0) = false := by simpa using z2
      have HR2 : Hid (r2 = r) := Lib.hid (by rw [← HR'.out]; simp [z2])
      clear HR HR' z2
      go_wp2_with (first
        | (have _ := flag1
           go_at_call 18
           refine (rints_b w2 (lt B) (lt B) m d m' d' C C' a.fau b.fau r2 H2.out (HS.out.2.1.below (HB.out.trans (hb2.mono HB.out.size) |>.mono hB)) (HS.out.2.2.2.below (HB.out.trans (hb2.mono HB.out.size) |>.mono hB)) N2.out M2.out).mono ?_
           rintro e w3 ⟨rfl, hb3⟩
           have x2 : w3.cell? ⟨w.heap.size, 2, none⟩ = some (.bool da) := ((HK1.out.below hb2 HK1.out.lt).below hb3 (Nat.lt_of_lt_of_le HK1.out.lt hb2.size)).at_ 2 rfl
           have y2 : w3.cell? ⟨w.heap.size + 1, 2, none⟩ = some (.bool db) := ((HK2.out.below hb2 HK2.out.lt).below hb3 (Nat.lt_of_lt_of_le HK2.out.lt hb2.size)).at_ 2 rfl)
        | (go_at_call 18
           refine (rints_b w1 (lt B) (lt B) n c n' c' A A' a.out b.out 0 H1.out (HS.out.1.below (HB.out.mono hB)) (HS.out.2.2.1.below (HB.out.mono hB)) N1.out M1.out).mono ?_
           rintro e w2 ⟨rfl, hb2⟩
           have x1 : w2.cell? ⟨w.heap.size, 1, none⟩ = some (.slice C m d) := (HK1.out.below hb2 HK1.out.lt).at_ 1 rfl
           have y1 : w2.cell? ⟨w.heap.size + 1, 1, none⟩ = some (.slice C' m' d') := (HK2.out.below hb2 HK2.out.lt).at_ 1 rfl
           have flag1 := True.intro))
      go_ret
      exact RetB.mk (int_eq HR2.out) (HB.out.trans (hb2.mono HB.out.size) |>.trans (hb3.mono (Nat.le_trans HB.out.size hb2.size)))
  · have z1' : (r1 == 0) = false := by simpa using z1
    have HR2 : Hid (r1 = r) := Lib.hid (by rw [← HR.out]; simp [or3, z1])
    clear HR z1
    go_wp2_with (first
      | (go_at_call 18
         refine (rints_b w1 (lt B) (lt B) n c n' c' A A' a.out b.out r1 H1.out (HS.out.1.below (HB.out.mono hB)) (HS.out.2.2.1.below (HB.out.mono hB)) N1.out M1.out).mono ?_
         rintro e w2 ⟨rfl, hb2⟩
         have x1 : w2.cell? ⟨w.heap.size, 1, none⟩ = some (.slice C m d) := (HK1.out.below hb2 HK1.out.lt).at_ 1 rfl
         have y1 : w2.cell? ⟨w.heap.size + 1, 1, none⟩ = some (.slice C' m' d') := (HK2.out.below hb2 HK2.out.lt).at_ 1 rfl
         have flag1 := True.intro))
    go_ret
    exact RetB.mk (int_eq HR2.out) (HB.out.trans (hb2.mono HB.out.size))
end Go.Proofs.YtojddklogigihaaGreatDoor

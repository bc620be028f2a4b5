/- The law OutcomeCompares: it returns true for any three outcomes. No condition. -/
import Derived.Test.YtojddklogigihaaGreatDoorO4
import Derived.Test.YtojddklogigihaaGreatDoorO1
namespace Go.Proofs.YtojddklogigihaaGreatDoor
open Go.RowKit

/-! ### The order is total -/
theorem cmpI_neg (x y : Int) : cmpI y x = - cmpI x y := by unfold cmpI; repeat' split <;> omega
theorem cmpI_zero {x y : Int} (h : cmpI x y = 0) : x = y := by unfold cmpI at h; repeat' split at h <;> omega
theorem cmpL_neg : ∀ xs ys : List Int, cmpL ys xs = - cmpL xs ys
  | [], [] => rfl
  | [], _ :: _ => rfl
  | _ :: _, [] => rfl
  | x :: xs, y :: ys => by
    simp only [cmpL]
    rw [cmpI_neg x y]
    by_cases h : cmpI x y = 0
    · rw [if_pos h, if_pos (by omega)]; exact cmpL_neg xs ys
    · rw [if_neg h, if_neg (by omega)]
theorem cmpL_zero : ∀ {xs ys : List Int}, cmpL xs ys = 0 → xs = ys
  | [], [], _ => rfl
  | [], _ :: _, h => by simp [cmpL] at h
  | _ :: _, [], h => by simp [cmpL] at h
  | x :: xs, y :: ys, h => by
    simp only [cmpL] at h
    by_cases hc : cmpI x y = 0
    · rw [if_pos hc] at h; rw [cmpI_zero hc, cmpL_zero h]
    · rw [if_neg hc] at h; exact absurd h hc
theorem cmpI_self (x : Int) : cmpI x x = 0 := by unfold cmpI; repeat' split <;> omega
theorem cmpL_self : ∀ xs : List Int, cmpL xs xs = 0
  | [] => rfl
  | x :: xs => by simp only [cmpL, cmpI_self, if_true]; exact cmpL_self xs
theorem cmpI_trans {x y z : Int} (h : cmpI x y ≤ 0) (k : cmpI y z ≤ 0) : cmpI x z ≤ 0 ∧ (cmpI x z = 0 → cmpI x y = 0 ∧ cmpI y z = 0) := by
  unfold cmpI at *
  repeat' split at h
  all_goals repeat' split at k
  all_goals repeat' split
  all_goals (constructor <;> omega)
theorem cmpL_trans : ∀ {xs ys zs : List Int}, cmpL xs ys ≤ 0 → cmpL ys zs ≤ 0 → cmpL xs zs ≤ 0 ∧ (cmpL xs zs = 0 → cmpL xs ys = 0 ∧ cmpL ys zs = 0)
  | [], [], [], _, _ => ⟨by simp [cmpL], fun _ => ⟨rfl, rfl⟩⟩
  | [], [], _ :: _, _, _ => ⟨by simp [cmpL], fun h => by simp [cmpL] at h⟩
  | [], _ :: _, [], _, h => by simp [cmpL] at h
  | [], _ :: _, _ :: _, _, _ => ⟨by simp [cmpL], fun h => by simp [cmpL] at h⟩
  | _ :: _, [], _, h, _ => by simp [cmpL] at h
  | _ :: _, _ :: _, [], _, h => by simp [cmpL] at h
  | x :: xs, y :: ys, z :: zs, h, k => by
    simp only [cmpL] at h k ⊢
    by_cases h1 : cmpI x y = 0
    · rw [if_pos h1] at h
      have e1 := cmpI_zero h1
      subst e1
      by_cases h2 : cmpI x z = 0
      · rw [if_pos h2] at k
        obtain ⟨a, b⟩ := cmpL_trans h k
        rw [if_pos h2, if_pos h1, if_pos h2]
        exact ⟨a, b⟩
      · rw [if_neg h2] at k
        rw [if_neg h2]
        exact ⟨k, fun e => absurd e h2⟩
    · rw [if_neg h1] at h
      by_cases h2 : cmpI y z = 0
      · have e2 := cmpI_zero h2
        subst e2
        rw [if_neg h1]
        exact ⟨h, fun e => absurd e h1⟩
      · rw [if_neg h2] at k
        obtain ⟨a, b⟩ := cmpI_trans h k
        have h3 : ¬ cmpI x z = 0 := fun e => h1 (b e).1
        rw [if_neg h3]
        exact ⟨a, fun e => absurd e h3⟩
theorem cmpB_neg (a b : Bool) : cmpB b a = - cmpB a b := by cases a <;> cases b <;> rfl
theorem cmpB_self (a : Bool) : cmpB a a = 0 := by cases a <;> rfl
theorem cmpB_zero {a b : Bool} (h : cmpB a b = 0) : a = b := by cases a <;> cases b <;> first | rfl | (simp [cmpB] at h)
theorem cmpB_trans {a b c : Bool} (h : cmpB a b ≤ 0) (k : cmpB b c ≤ 0) : cmpB a c ≤ 0 := by cases a <;> cases b <;> cases c <;> simp [cmpB] at *
theorem cmpO_neg (a b : Outc) : cmpO b a = - cmpO a b := by
  unfold cmpO or3
  rw [cmpL_neg a.out b.out, cmpL_neg a.fau b.fau, cmpB_neg a.dead b.dead]
  repeat' split <;> omega
theorem cmpO_self (a : Outc) : cmpO a a = 0 := by simp [cmpO, or3, cmpL_self, cmpB_self]
theorem cmpO_trans {a b c : Outc} (h : cmpO a b ≤ 0) (k : cmpO b c ≤ 0) : cmpO a c ≤ 0 := by
  unfold cmpO or3 at *
  by_cases h1 : cmpL a.out b.out = 0
  · have e1 := cmpL_zero h1
    by_cases k1 : cmpL b.out c.out = 0
    · have f1 := cmpL_zero k1
      rw [if_neg (by simpa using h1)] at h
      rw [if_neg (by simpa using k1)] at k
      rw [e1, if_neg (by simpa using k1)]
      by_cases h2 : cmpL a.fau b.fau = 0
      · have e2 := cmpL_zero h2
        rw [if_neg (by simpa using h2)] at h
        by_cases k2 : cmpL b.fau c.fau = 0
        · rw [if_neg (by simpa using k2)] at k
          rw [e2, if_neg (by simpa using k2)]
          exact cmpB_trans h k
        · rw [if_pos k2] at k
          rw [e2, if_pos k2]
          exact k
      · rw [if_pos h2] at h
        by_cases k2 : cmpL b.fau c.fau = 0
        · have f2 := cmpL_zero k2
          rw [← f2, if_pos h2]
          exact h
        · rw [if_pos k2] at k
          obtain ⟨a1, a2⟩ := cmpL_trans h k
          rw [if_pos (fun e => h2 (a2 e).1)]
          exact a1
    · rw [if_pos k1] at k
      rw [e1, if_pos k1]
      exact k
  · rw [if_pos h1] at h
    by_cases k1 : cmpL b.out c.out = 0
    · have f1 := cmpL_zero k1
      rw [← f1, if_pos h1]
      exact h
    · rw [if_pos k1] at k
      obtain ⟨a1, a2⟩ := cmpL_trans h k
      rw [if_pos (fun e => h1 (a2 e).1)]
      exact a1
theorem cmpL_cases : ∀ xs ys : List Int, cmpL xs ys = -1 ∨ cmpL xs ys = 0 ∨ cmpL xs ys = 1
  | [], [] => by simp [cmpL]
  | [], _ :: _ => by simp [cmpL]
  | _ :: _, [] => by simp [cmpL]
  | x :: xs, y :: ys => by
    simp only [cmpL]
    split
    · exact cmpL_cases xs ys
    · unfold cmpI; repeat' split <;> omega
theorem cmpO_cases (a b : Outc) : cmpO a b = -1 ∨ cmpO a b = 0 ∨ cmpO a b = 1 := by
  unfold cmpO or3
  have h1 := cmpL_cases a.out b.out
  have h2 := cmpL_cases a.fau b.fau
  have h3 : cmpB a.dead b.dead = -1 ∨ cmpB a.dead b.dead = 0 ∨ cmpB a.dead b.dead = 1 := by cases a.dead <;> cases b.dead <;> simp [cmpB]
  repeat' split <;> omega

/-! ### The walk -/
/-- Three outcomes in boxes. -/
structure Bx (w W : World) (a0 a1 a2 b0 b1 b2 c0 c1 c2 : Value) : Prop where
  bw : Below w.heap.size w W
  k1 : Blk W w.heap.size 24 #[a0, a1, a2]
  k2 : Blk W (w.heap.size + 1) 24 #[b0, b1, b2]
  k3 : Blk W (w.heap.size + 1 + 1) 24 #[c0, c1, c2]
section
variable {w W W' : World} {a0 a1 a2 b0 b1 b2 c0 c1 c2 : Value}
theorem Bx.below (h : Bx w W a0 a1 a2 b0 b1 b2 c0 c1 c2) (hb : Below W.heap.size W W') : Bx w W' a0 a1 a2 b0 b1 b2 c0 c1 c2 :=
  ⟨h.bw.trans (hb.mono h.bw.size), h.k1.below hb h.k1.lt, h.k2.below hb h.k2.lt, h.k3.below hb h.k3.lt⟩
theorem Bx.cells (h : Bx w W a0 a1 a2 b0 b1 b2 c0 c1 c2) :
    W.cell? ⟨w.heap.size, 0, none⟩ = some a0 ∧ W.cell? ⟨w.heap.size, 1, none⟩ = some a1 ∧ W.cell? ⟨w.heap.size, 2, none⟩ = some a2 ∧
    W.cell? ⟨w.heap.size + 1, 0, none⟩ = some b0 ∧ W.cell? ⟨w.heap.size + 1, 1, none⟩ = some b1 ∧ W.cell? ⟨w.heap.size + 1, 2, none⟩ = some b2 ∧
    W.cell? ⟨w.heap.size + 1 + 1, 0, none⟩ = some c0 ∧ W.cell? ⟨w.heap.size + 1 + 1, 1, none⟩ = some c1 ∧ W.cell? ⟨w.heap.size + 1 + 1, 2, none⟩ = some c2 :=
  ⟨h.k1.at_ 0 rfl, h.k1.at_ 1 rfl, h.k1.at_ 2 rfl, h.k2.at_ 0 rfl, h.k2.at_ 1 rfl, h.k2.at_ 2 rfl, h.k3.at_ 0 rfl, h.k3.at_ 1 rfl, h.k3.at_ 2 rfl⟩
theorem Bx.new (w : World) : Bx w (((w.alloc (.cells #[a0, a1, a2] 24)).alloc (.cells #[b0, b1, b2] 24)).alloc (.cells #[c0, c1, c2] 24)) a0 a1 a2 b0 b1 b2 c0 c1 c2 := by
  refine ⟨(((Below.refl _ _).alloc (Nat.le_refl _) _).alloc (by simp) _).alloc (by simp; omega) _, ((Blk.new w _ _).alloc _).alloc _, ?_, ?_⟩
  · have := (Blk.new (w.alloc (.cells #[a0, a1, a2] 24)) 24 #[b0, b1, b2]).alloc (.cells #[c0, c1, c2] 24)
    simpa using this
  · have := Blk.new ((w.alloc (.cells #[a0, a1, a2] 24)).alloc (.cells #[b0, b1, b2] 24)) 24 #[c0, c1, c2]
    simpa using this
end

section
variable (w : World) (a b c : Outc) (a0 a1 a2 b0 b1 b2 c0 c1 c2 : Value)
set_option maxRecDepth 100000 in
set_option maxHeartbeats 4000000 in
theorem cmp1 (Ha : Hid (Rep.cells w (lt w.heap.size) a [a0, a1, a2])) (Hb : Hid (Rep.cells w (lt w.heap.size) b [b0, b1, b2])) (Hc : Hid (Rep.cells w (lt w.heap.size) c [c0, c1, c2])) (Fa : Hid ((decide (a.out.length ≤ 20) && decide (a.fau.length ≤ 20)) = false)) :
    Calls Tryz.prog 3 #[.agg #[a0, a1, a2], .agg #[b0, b1, b2], .agg #[c0, c1, c2]] w (RetB (.bool true) w) := by
  go_enter Tryz.func3, Tryz.ntmps3
  go_upto_region 1 with fail
  obtain ⟨W0, hW0⟩ : ∃ W0, W0 = ((w.alloc (.cells #[a0, a1, a2] 24)).alloc (.cells #[b0, b1, b2] 24)).alloc (.cells #[c0, c1, c2] 24) := ⟨_, rfl⟩
  rw [← hW0]
  have X0 : Hid (Bx w W0 a0 a1 a2 b0 b1 b2 c0 c1 c2) := Lib.hid (by rw [hW0]; exact Bx.new w)
  clear hW0
  obtain ⟨t0, t1, t2, t3, t4, t5, t6, t7, t8⟩ := X0.out.cells
  go_wp2_with (first
    | (have _ := flag1
       go_at_call 7
       refine (few_any W1 w.heap.size a a0 a1 a2 (Rep.below Ha.out X1.out.bw) false Fa.out).mono ?_
       rintro e W2 ⟨rfl, hb2⟩
       have X2 := Lib.hid (X1.out.below hb2)
       clear hb2 t0 t1 t2 t3 t4 t5 t6 t7 t8
       obtain ⟨t0, t1, t2, t3, t4, t5, t6, t7, t8⟩ := X2.out.cells
       have flag2 := True.intro)
    | (go_at_call 6
       refine (awake_any W0).mono ?_
       rintro e W1 ⟨rfl, hb1⟩
       have X1 := Lib.hid (X0.out.below hb1)
       clear hb1 t0 t1 t2 t3 t4 t5 t6 t7 t8
       obtain ⟨t0, t1, t2, t3, t4, t5, t6, t7, t8⟩ := X1.out.cells
       have flag1 := True.intro))
  go_ret
  exact RetB.mk rfl X2.out.bw
set_option maxRecDepth 100000 in
set_option maxHeartbeats 4000000 in
theorem cmp2 (Ha : Hid (Rep.cells w (lt w.heap.size) a [a0, a1, a2])) (Hb : Hid (Rep.cells w (lt w.heap.size) b [b0, b1, b2])) (Hc : Hid (Rep.cells w (lt w.heap.size) c [c0, c1, c2])) (Fa : Hid ((decide (a.out.length ≤ 20) && decide (a.fau.length ≤ 20)) = true)) (Fb : Hid ((decide (b.out.length ≤ 20) && decide (b.fau.length ≤ 20)) = false)) :
    Calls Tryz.prog 3 #[.agg #[a0, a1, a2], .agg #[b0, b1, b2], .agg #[c0, c1, c2]] w (RetB (.bool true) w) := by
  go_enter Tryz.func3, Tryz.ntmps3
  go_upto_region 1 with fail
  obtain ⟨W0, hW0⟩ : ∃ W0, W0 = ((w.alloc (.cells #[a0, a1, a2] 24)).alloc (.cells #[b0, b1, b2] 24)).alloc (.cells #[c0, c1, c2] 24) := ⟨_, rfl⟩
  rw [← hW0]
  have X0 : Hid (Bx w W0 a0 a1 a2 b0 b1 b2 c0 c1 c2) := Lib.hid (by rw [hW0]; exact Bx.new w)
  clear hW0
  obtain ⟨t0, t1, t2, t3, t4, t5, t6, t7, t8⟩ := X0.out.cells
  go_wp2_with (first
    | (have _ := flag2
       go_at_call 7
       refine (few_any W2 w.heap.size b b0 b1 b2 (Rep.below Hb.out X2.out.bw) false Fb.out).mono ?_
       rintro e W3 ⟨rfl, hb3⟩
       have X3 := Lib.hid (X2.out.below hb3)
       clear hb3 t0 t1 t2 t3 t4 t5 t6 t7 t8
       obtain ⟨t0, t1, t2, t3, t4, t5, t6, t7, t8⟩ := X3.out.cells
       have flag3 := True.intro)
    | (have _ := flag1
       go_at_call 7
       refine (few_any W1 w.heap.size a a0 a1 a2 (Rep.below Ha.out X1.out.bw) true Fa.out).mono ?_
       rintro e W2 ⟨rfl, hb2⟩
       have X2 := Lib.hid (X1.out.below hb2)
       clear hb2 t0 t1 t2 t3 t4 t5 t6 t7 t8
       obtain ⟨t0, t1, t2, t3, t4, t5, t6, t7, t8⟩ := X2.out.cells
       have flag2 := True.intro)
    | (go_at_call 6
       refine (awake_any W0).mono ?_
       rintro e W1 ⟨rfl, hb1⟩
       have X1 := Lib.hid (X0.out.below hb1)
       clear hb1 t0 t1 t2 t3 t4 t5 t6 t7 t8
       obtain ⟨t0, t1, t2, t3, t4, t5, t6, t7, t8⟩ := X1.out.cells
       have flag1 := True.intro))
  go_ret
  exact RetB.mk rfl X3.out.bw
set_option maxRecDepth 100000 in
set_option maxHeartbeats 4000000 in
theorem cmp3 (Ha : Hid (Rep.cells w (lt w.heap.size) a [a0, a1, a2])) (Hb : Hid (Rep.cells w (lt w.heap.size) b [b0, b1, b2])) (Hc : Hid (Rep.cells w (lt w.heap.size) c [c0, c1, c2])) (Fa : Hid ((decide (a.out.length ≤ 20) && decide (a.fau.length ≤ 20)) = true)) (Fb : Hid ((decide (b.out.length ≤ 20) && decide (b.fau.length ≤ 20)) = true)) (Fc : Hid ((decide (c.out.length ≤ 20) && decide (c.fau.length ≤ 20)) = false)) :
    Calls Tryz.prog 3 #[.agg #[a0, a1, a2], .agg #[b0, b1, b2], .agg #[c0, c1, c2]] w (RetB (.bool true) w) := by
  go_enter Tryz.func3, Tryz.ntmps3
  go_upto_region 1 with fail
  obtain ⟨W0, hW0⟩ : ∃ W0, W0 = ((w.alloc (.cells #[a0, a1, a2] 24)).alloc (.cells #[b0, b1, b2] 24)).alloc (.cells #[c0, c1, c2] 24) := ⟨_, rfl⟩
  rw [← hW0]
  have X0 : Hid (Bx w W0 a0 a1 a2 b0 b1 b2 c0 c1 c2) := Lib.hid (by rw [hW0]; exact Bx.new w)
  clear hW0
  obtain ⟨t0, t1, t2, t3, t4, t5, t6, t7, t8⟩ := X0.out.cells
  go_wp2_with (first
    | (have _ := flag3
       go_at_call 7
       refine (few_any W3 w.heap.size c c0 c1 c2 (Rep.below Hc.out X3.out.bw) false Fc.out).mono ?_
       rintro e W4 ⟨rfl, hb4⟩
       have X4 := Lib.hid (X3.out.below hb4)
       clear hb4 t0 t1 t2 t3 t4 t5 t6 t7 t8
       obtain ⟨t0, t1, t2, t3, t4, t5, t6, t7, t8⟩ := X4.out.cells
       have flag4 := True.intro)
    | (have _ := flag2
       go_at_call 7
       refine (few_any W2 w.heap.size b b0 b1 b2 (Rep.below Hb.out X2.out.bw) true Fb.out).mono ?_
       rintro e W3 ⟨rfl, hb3⟩
       have X3 := Lib.hid (X2.out.below hb3)
       clear hb3 t0 t1 t2 t3 t4 t5 t6 t7 t8
       obtain ⟨t0, t1, t2, t3, t4, t5, t6, t7, t8⟩ := X3.out.cells
       have flag3 := True.intro)
    | (have _ := flag1
       go_at_call 7
       refine (few_any W1 w.heap.size a a0 a1 a2 (Rep.below Ha.out X1.out.bw) true Fa.out).mono ?_
       rintro e W2 ⟨rfl, hb2⟩
       have X2 := Lib.hid (X1.out.below hb2)
       clear hb2 t0 t1 t2 t3 t4 t5 t6 t7 t8
       obtain ⟨t0, t1, t2, t3, t4, t5, t6, t7, t8⟩ := X2.out.cells
       have flag2 := True.intro)
    | (go_at_call 6
       refine (awake_any W0).mono ?_
       rintro e W1 ⟨rfl, hb1⟩
       have X1 := Lib.hid (X0.out.below hb1)
       clear hb1 t0 t1 t2 t3 t4 t5 t6 t7 t8
       obtain ⟨t0, t1, t2, t3, t4, t5, t6, t7, t8⟩ := X1.out.cells
       have flag1 := True.intro))
  go_ret
  exact RetB.mk rfl X4.out.bw
set_option maxRecDepth 100000 in
set_option maxHeartbeats 4000000 in
theorem cmp4m1 (Ha : Hid (Rep.cells w (lt w.heap.size) a [a0, a1, a2])) (Hb : Hid (Rep.cells w (lt w.heap.size) b [b0, b1, b2])) (Hc : Hid (Rep.cells w (lt w.heap.size) c [c0, c1, c2])) (Fa : Hid ((decide (a.out.length ≤ 20) && decide (a.fau.length ≤ 20)) = true)) (Fb : Hid ((decide (b.out.length ≤ 20) && decide (b.fau.length ≤ 20)) = true)) (Fc : Hid ((decide (c.out.length ≤ 20) && decide (c.fau.length ≤ 20)) = true)) (Hab : Hid (cmpO a b = -1)) (Hba : Hid (cmpO b a = 1)) (Haa : Hid (cmpO a a = 0)) (y : Int) (Hbc : Hid (cmpO b c = y)) (hy : decide (0 < y) = true) :
    Calls Tryz.prog 3 #[.agg #[a0, a1, a2], .agg #[b0, b1, b2], .agg #[c0, c1, c2]] w (RetB (.bool true) w) := by
  go_enter Tryz.func3, Tryz.ntmps3
  go_upto_region 1 with fail
  obtain ⟨W0, hW0⟩ : ∃ W0, W0 = ((w.alloc (.cells #[a0, a1, a2] 24)).alloc (.cells #[b0, b1, b2] 24)).alloc (.cells #[c0, c1, c2] 24) := ⟨_, rfl⟩
  rw [← hW0]
  have X0 : Hid (Bx w W0 a0 a1 a2 b0 b1 b2 c0 c1 c2) := Lib.hid (by rw [hW0]; exact Bx.new w)
  clear hW0
  obtain ⟨t0, t1, t2, t3, t4, t5, t6, t7, t8⟩ := X0.out.cells
  go_wp2_with (first
    | (have _ := flag8
       go_at_call 8
       refine (pcmp_any W8 w.heap.size a a a0 a1 a2 a0 a1 a2 (Rep.below Ha.out X8.out.bw) (Rep.below Ha.out X8.out.bw) X8.out.bw.size (0) Haa.out).mono ?_
       rintro e W9 ⟨rfl, hb9⟩
       have X9 := Lib.hid (X8.out.below hb9)
       clear hb9 t0 t1 t2 t3 t4 t5 t6 t7 t8
       obtain ⟨t0, t1, t2, t3, t4, t5, t6, t7, t8⟩ := X9.out.cells
       have flag9 := True.intro)
    | (have _ := flag7
       go_at_call 8
       refine (pcmp_any W7 w.heap.size b a b0 b1 b2 a0 a1 a2 (Rep.below Hb.out X7.out.bw) (Rep.below Ha.out X7.out.bw) X7.out.bw.size (1) Hba.out).mono ?_
       rintro e W8 ⟨rfl, hb8⟩
       have X8 := Lib.hid (X7.out.below hb8)
       clear hb8 t0 t1 t2 t3 t4 t5 t6 t7 t8
       obtain ⟨t0, t1, t2, t3, t4, t5, t6, t7, t8⟩ := X8.out.cells
       have flag8 := True.intro)
    | (have _ := flag6
       go_at_call 9
       refine (rcmp_any W6 w.heap.size a b a0 a1 a2 b0 b1 b2 (Rep.below Ha.out X6.out.bw) (Rep.below Hb.out X6.out.bw) X6.out.bw.size (-1) Hab.out).mono ?_
       rintro e W7 ⟨rfl, hb7⟩
       have X7 := Lib.hid (X6.out.below hb7)
       clear hb7 t0 t1 t2 t3 t4 t5 t6 t7 t8
       obtain ⟨t0, t1, t2, t3, t4, t5, t6, t7, t8⟩ := X7.out.cells
       have flag7 := True.intro)
    | (have _ := flag5
       go_at_call 8
       refine (pcmp_any W5 w.heap.size b c b0 b1 b2 c0 c1 c2 (Rep.below Hb.out X5.out.bw) (Rep.below Hc.out X5.out.bw) X5.out.bw.size (y) Hbc.out).mono ?_
       rintro e W6 ⟨rfl, hb6⟩
       have X6 := Lib.hid (X5.out.below hb6)
       clear hb6 t0 t1 t2 t3 t4 t5 t6 t7 t8
       obtain ⟨t0, t1, t2, t3, t4, t5, t6, t7, t8⟩ := X6.out.cells
       have flag6 := True.intro)
    | (have _ := flag4
       go_at_call 8
       refine (pcmp_any W4 w.heap.size a b a0 a1 a2 b0 b1 b2 (Rep.below Ha.out X4.out.bw) (Rep.below Hb.out X4.out.bw) X4.out.bw.size (-1) Hab.out).mono ?_
       rintro e W5 ⟨rfl, hb5⟩
       have X5 := Lib.hid (X4.out.below hb5)
       clear hb5 t0 t1 t2 t3 t4 t5 t6 t7 t8
       obtain ⟨t0, t1, t2, t3, t4, t5, t6, t7, t8⟩ := X5.out.cells
       have flag5 := True.intro)
    | (have _ := flag3
       go_at_call 7
       refine (few_any W3 w.heap.size c c0 c1 c2 (Rep.below Hc.out X3.out.bw) true Fc.out).mono ?_
       rintro e W4 ⟨rfl, hb4⟩
       have X4 := Lib.hid (X3.out.below hb4)
       clear hb4 t0 t1 t2 t3 t4 t5 t6 t7 t8
       obtain ⟨t0, t1, t2, t3, t4, t5, t6, t7, t8⟩ := X4.out.cells
       have flag4 := True.intro)
    | (have _ := flag2
       go_at_call 7
       refine (few_any W2 w.heap.size b b0 b1 b2 (Rep.below Hb.out X2.out.bw) true Fb.out).mono ?_
       rintro e W3 ⟨rfl, hb3⟩
       have X3 := Lib.hid (X2.out.below hb3)
       clear hb3 t0 t1 t2 t3 t4 t5 t6 t7 t8
       obtain ⟨t0, t1, t2, t3, t4, t5, t6, t7, t8⟩ := X3.out.cells
       have flag3 := True.intro)
    | (have _ := flag1
       go_at_call 7
       refine (few_any W1 w.heap.size a a0 a1 a2 (Rep.below Ha.out X1.out.bw) true Fa.out).mono ?_
       rintro e W2 ⟨rfl, hb2⟩
       have X2 := Lib.hid (X1.out.below hb2)
       clear hb2 t0 t1 t2 t3 t4 t5 t6 t7 t8
       obtain ⟨t0, t1, t2, t3, t4, t5, t6, t7, t8⟩ := X2.out.cells
       have flag2 := True.intro)
    | (go_at_call 6
       refine (awake_any W0).mono ?_
       rintro e W1 ⟨rfl, hb1⟩
       have X1 := Lib.hid (X0.out.below hb1)
       clear hb1 t0 t1 t2 t3 t4 t5 t6 t7 t8
       obtain ⟨t0, t1, t2, t3, t4, t5, t6, t7, t8⟩ := X1.out.cells
       have flag1 := True.intro))
  go_ret
  exact RetB.mk rfl X9.out.bw
set_option maxRecDepth 100000 in
set_option maxHeartbeats 4000000 in
theorem cmp4m2 (Ha : Hid (Rep.cells w (lt w.heap.size) a [a0, a1, a2])) (Hb : Hid (Rep.cells w (lt w.heap.size) b [b0, b1, b2])) (Hc : Hid (Rep.cells w (lt w.heap.size) c [c0, c1, c2])) (Fa : Hid ((decide (a.out.length ≤ 20) && decide (a.fau.length ≤ 20)) = true)) (Fb : Hid ((decide (b.out.length ≤ 20) && decide (b.fau.length ≤ 20)) = true)) (Fc : Hid ((decide (c.out.length ≤ 20) && decide (c.fau.length ≤ 20)) = true)) (Hab : Hid (cmpO a b = -1)) (Hba : Hid (cmpO b a = 1)) (Haa : Hid (cmpO a a = 0)) (y : Int) (Hbc : Hid (cmpO b c = y)) (hy : decide (0 < y) = false) (z : Int) (Hac : Hid (cmpO a c = z)) (hz : decide (z ≤ 0) = true) :
    Calls Tryz.prog 3 #[.agg #[a0, a1, a2], .agg #[b0, b1, b2], .agg #[c0, c1, c2]] w (RetB (.bool true) w) := by
  go_enter Tryz.func3, Tryz.ntmps3
  go_upto_region 1 with fail
  obtain ⟨W0, hW0⟩ : ∃ W0, W0 = ((w.alloc (.cells #[a0, a1, a2] 24)).alloc (.cells #[b0, b1, b2] 24)).alloc (.cells #[c0, c1, c2] 24) := ⟨_, rfl⟩
  rw [← hW0]
  have X0 : Hid (Bx w W0 a0 a1 a2 b0 b1 b2 c0 c1 c2) := Lib.hid (by rw [hW0]; exact Bx.new w)
  clear hW0
  obtain ⟨t0, t1, t2, t3, t4, t5, t6, t7, t8⟩ := X0.out.cells
  go_wp2_with (first
    | (have _ := flag9
       go_at_call 8
       refine (pcmp_any W9 w.heap.size a c a0 a1 a2 c0 c1 c2 (Rep.below Ha.out X9.out.bw) (Rep.below Hc.out X9.out.bw) X9.out.bw.size (z) Hac.out).mono ?_
       rintro e W10 ⟨rfl, hb10⟩
       have X10 := Lib.hid (X9.out.below hb10)
       clear hb10 t0 t1 t2 t3 t4 t5 t6 t7 t8
       obtain ⟨t0, t1, t2, t3, t4, t5, t6, t7, t8⟩ := X10.out.cells
       have flag10 := True.intro)
    | (have _ := flag8
       go_at_call 8
       refine (pcmp_any W8 w.heap.size a a a0 a1 a2 a0 a1 a2 (Rep.below Ha.out X8.out.bw) (Rep.below Ha.out X8.out.bw) X8.out.bw.size (0) Haa.out).mono ?_
       rintro e W9 ⟨rfl, hb9⟩
       have X9 := Lib.hid (X8.out.below hb9)
       clear hb9 t0 t1 t2 t3 t4 t5 t6 t7 t8
       obtain ⟨t0, t1, t2, t3, t4, t5, t6, t7, t8⟩ := X9.out.cells
       have flag9 := True.intro)
    | (have _ := flag7
       go_at_call 8
       refine (pcmp_any W7 w.heap.size b a b0 b1 b2 a0 a1 a2 (Rep.below Hb.out X7.out.bw) (Rep.below Ha.out X7.out.bw) X7.out.bw.size (1) Hba.out).mono ?_
       rintro e W8 ⟨rfl, hb8⟩
       have X8 := Lib.hid (X7.out.below hb8)
       clear hb8 t0 t1 t2 t3 t4 t5 t6 t7 t8
       obtain ⟨t0, t1, t2, t3, t4, t5, t6, t7, t8⟩ := X8.out.cells
       have flag8 := True.intro)
    | (have _ := flag6
       go_at_call 9
       refine (rcmp_any W6 w.heap.size a b a0 a1 a2 b0 b1 b2 (Rep.below Ha.out X6.out.bw) (Rep.below Hb.out X6.out.bw) X6.out.bw.size (-1) Hab.out).mono ?_
       rintro e W7 ⟨rfl, hb7⟩
       have X7 := Lib.hid (X6.out.below hb7)
       clear hb7 t0 t1 t2 t3 t4 t5 t6 t7 t8
       obtain ⟨t0, t1, t2, t3, t4, t5, t6, t7, t8⟩ := X7.out.cells
       have flag7 := True.intro)
    | (have _ := flag5
       go_at_call 8
       refine (pcmp_any W5 w.heap.size b c b0 b1 b2 c0 c1 c2 (Rep.below Hb.out X5.out.bw) (Rep.below Hc.out X5.out.bw) X5.out.bw.size (y) Hbc.out).mono ?_
       rintro e W6 ⟨rfl, hb6⟩
       have X6 := Lib.hid (X5.out.below hb6)
       clear hb6 t0 t1 t2 t3 t4 t5 t6 t7 t8
       obtain ⟨t0, t1, t2, t3, t4, t5, t6, t7, t8⟩ := X6.out.cells
       have flag6 := True.intro)
    | (have _ := flag4
       go_at_call 8
       refine (pcmp_any W4 w.heap.size a b a0 a1 a2 b0 b1 b2 (Rep.below Ha.out X4.out.bw) (Rep.below Hb.out X4.out.bw) X4.out.bw.size (-1) Hab.out).mono ?_
       rintro e W5 ⟨rfl, hb5⟩
       have X5 := Lib.hid (X4.out.below hb5)
       clear hb5 t0 t1 t2 t3 t4 t5 t6 t7 t8
       obtain ⟨t0, t1, t2, t3, t4, t5, t6, t7, t8⟩ := X5.out.cells
       have flag5 := True.intro)
    | (have _ := flag3
       go_at_call 7
       refine (few_any W3 w.heap.size c c0 c1 c2 (Rep.below Hc.out X3.out.bw) true Fc.out).mono ?_
       rintro e W4 ⟨rfl, hb4⟩
       have X4 := Lib.hid (X3.out.below hb4)
       clear hb4 t0 t1 t2 t3 t4 t5 t6 t7 t8
       obtain ⟨t0, t1, t2, t3, t4, t5, t6, t7, t8⟩ := X4.out.cells
       have flag4 := True.intro)
    | (have _ := flag2
       go_at_call 7
       refine (few_any W2 w.heap.size b b0 b1 b2 (Rep.below Hb.out X2.out.bw) true Fb.out).mono ?_
       rintro e W3 ⟨rfl, hb3⟩
       have X3 := Lib.hid (X2.out.below hb3)
       clear hb3 t0 t1 t2 t3 t4 t5 t6 t7 t8
       obtain ⟨t0, t1, t2, t3, t4, t5, t6, t7, t8⟩ := X3.out.cells
       have flag3 := True.intro)
    | (have _ := flag1
       go_at_call 7
       refine (few_any W1 w.heap.size a a0 a1 a2 (Rep.below Ha.out X1.out.bw) true Fa.out).mono ?_
       rintro e W2 ⟨rfl, hb2⟩
       have X2 := Lib.hid (X1.out.below hb2)
       clear hb2 t0 t1 t2 t3 t4 t5 t6 t7 t8
       obtain ⟨t0, t1, t2, t3, t4, t5, t6, t7, t8⟩ := X2.out.cells
       have flag2 := True.intro)
    | (go_at_call 6
       refine (awake_any W0).mono ?_
       rintro e W1 ⟨rfl, hb1⟩
       have X1 := Lib.hid (X0.out.below hb1)
       clear hb1 t0 t1 t2 t3 t4 t5 t6 t7 t8
       obtain ⟨t0, t1, t2, t3, t4, t5, t6, t7, t8⟩ := X1.out.cells
       have flag1 := True.intro))
  go_ret
  exact RetB.mk rfl X10.out.bw
set_option maxRecDepth 100000 in
set_option maxHeartbeats 4000000 in
theorem cmp4z1 (Ha : Hid (Rep.cells w (lt w.heap.size) a [a0, a1, a2])) (Hb : Hid (Rep.cells w (lt w.heap.size) b [b0, b1, b2])) (Hc : Hid (Rep.cells w (lt w.heap.size) c [c0, c1, c2])) (Fa : Hid ((decide (a.out.length ≤ 20) && decide (a.fau.length ≤ 20)) = true)) (Fb : Hid ((decide (b.out.length ≤ 20) && decide (b.fau.length ≤ 20)) = true)) (Fc : Hid ((decide (c.out.length ≤ 20) && decide (c.fau.length ≤ 20)) = true)) (Hab : Hid (cmpO a b = 0)) (Hba : Hid (cmpO b a = 0)) (Haa : Hid (cmpO a a = 0)) (y : Int) (Hbc : Hid (cmpO b c = y)) (hy : decide (0 < y) = true) :
    Calls Tryz.prog 3 #[.agg #[a0, a1, a2], .agg #[b0, b1, b2], .agg #[c0, c1, c2]] w (RetB (.bool true) w) := by
  go_enter Tryz.func3, Tryz.ntmps3
  go_upto_region 1 with fail
  obtain ⟨W0, hW0⟩ : ∃ W0, W0 = ((w.alloc (.cells #[a0, a1, a2] 24)).alloc (.cells #[b0, b1, b2] 24)).alloc (.cells #[c0, c1, c2] 24) := ⟨_, rfl⟩
  rw [← hW0]
  have X0 : Hid (Bx w W0 a0 a1 a2 b0 b1 b2 c0 c1 c2) := Lib.hid (by rw [hW0]; exact Bx.new w)
  clear hW0
  obtain ⟨t0, t1, t2, t3, t4, t5, t6, t7, t8⟩ := X0.out.cells
  go_wp2_with (first
    | (have _ := flag8
       go_at_call 8
       refine (pcmp_any W8 w.heap.size a a a0 a1 a2 a0 a1 a2 (Rep.below Ha.out X8.out.bw) (Rep.below Ha.out X8.out.bw) X8.out.bw.size (0) Haa.out).mono ?_
       rintro e W9 ⟨rfl, hb9⟩
       have X9 := Lib.hid (X8.out.below hb9)
       clear hb9 t0 t1 t2 t3 t4 t5 t6 t7 t8
       obtain ⟨t0, t1, t2, t3, t4, t5, t6, t7, t8⟩ := X9.out.cells
       have flag9 := True.intro)
    | (have _ := flag7
       go_at_call 8
       refine (pcmp_any W7 w.heap.size b a b0 b1 b2 a0 a1 a2 (Rep.below Hb.out X7.out.bw) (Rep.below Ha.out X7.out.bw) X7.out.bw.size (0) Hba.out).mono ?_
       rintro e W8 ⟨rfl, hb8⟩
       have X8 := Lib.hid (X7.out.below hb8)
       clear hb8 t0 t1 t2 t3 t4 t5 t6 t7 t8
       obtain ⟨t0, t1, t2, t3, t4, t5, t6, t7, t8⟩ := X8.out.cells
       have flag8 := True.intro)
    | (have _ := flag6
       go_at_call 9
       refine (rcmp_any W6 w.heap.size a b a0 a1 a2 b0 b1 b2 (Rep.below Ha.out X6.out.bw) (Rep.below Hb.out X6.out.bw) X6.out.bw.size (0) Hab.out).mono ?_
       rintro e W7 ⟨rfl, hb7⟩
       have X7 := Lib.hid (X6.out.below hb7)
       clear hb7 t0 t1 t2 t3 t4 t5 t6 t7 t8
       obtain ⟨t0, t1, t2, t3, t4, t5, t6, t7, t8⟩ := X7.out.cells
       have flag7 := True.intro)
    | (have _ := flag5
       go_at_call 8
       refine (pcmp_any W5 w.heap.size b c b0 b1 b2 c0 c1 c2 (Rep.below Hb.out X5.out.bw) (Rep.below Hc.out X5.out.bw) X5.out.bw.size (y) Hbc.out).mono ?_
       rintro e W6 ⟨rfl, hb6⟩
       have X6 := Lib.hid (X5.out.below hb6)
       clear hb6 t0 t1 t2 t3 t4 t5 t6 t7 t8
       obtain ⟨t0, t1, t2, t3, t4, t5, t6, t7, t8⟩ := X6.out.cells
       have flag6 := True.intro)
    | (have _ := flag4
       go_at_call 8
       refine (pcmp_any W4 w.heap.size a b a0 a1 a2 b0 b1 b2 (Rep.below Ha.out X4.out.bw) (Rep.below Hb.out X4.out.bw) X4.out.bw.size (0) Hab.out).mono ?_
       rintro e W5 ⟨rfl, hb5⟩
       have X5 := Lib.hid (X4.out.below hb5)
       clear hb5 t0 t1 t2 t3 t4 t5 t6 t7 t8
       obtain ⟨t0, t1, t2, t3, t4, t5, t6, t7, t8⟩ := X5.out.cells
       have flag5 := True.intro)
    | (have _ := flag3
       go_at_call 7
       refine (few_any W3 w.heap.size c c0 c1 c2 (Rep.below Hc.out X3.out.bw) true Fc.out).mono ?_
       rintro e W4 ⟨rfl, hb4⟩
       have X4 := Lib.hid (X3.out.below hb4)
       clear hb4 t0 t1 t2 t3 t4 t5 t6 t7 t8
       obtain ⟨t0, t1, t2, t3, t4, t5, t6, t7, t8⟩ := X4.out.cells
       have flag4 := True.intro)
    | (have _ := flag2
       go_at_call 7
       refine (few_any W2 w.heap.size b b0 b1 b2 (Rep.below Hb.out X2.out.bw) true Fb.out).mono ?_
       rintro e W3 ⟨rfl, hb3⟩
       have X3 := Lib.hid (X2.out.below hb3)
       clear hb3 t0 t1 t2 t3 t4 t5 t6 t7 t8
       obtain ⟨t0, t1, t2, t3, t4, t5, t6, t7, t8⟩ := X3.out.cells
       have flag3 := True.intro)
    | (have _ := flag1
       go_at_call 7
       refine (few_any W1 w.heap.size a a0 a1 a2 (Rep.below Ha.out X1.out.bw) true Fa.out).mono ?_
       rintro e W2 ⟨rfl, hb2⟩
       have X2 := Lib.hid (X1.out.below hb2)
       clear hb2 t0 t1 t2 t3 t4 t5 t6 t7 t8
       obtain ⟨t0, t1, t2, t3, t4, t5, t6, t7, t8⟩ := X2.out.cells
       have flag2 := True.intro)
    | (go_at_call 6
       refine (awake_any W0).mono ?_
       rintro e W1 ⟨rfl, hb1⟩
       have X1 := Lib.hid (X0.out.below hb1)
       clear hb1 t0 t1 t2 t3 t4 t5 t6 t7 t8
       obtain ⟨t0, t1, t2, t3, t4, t5, t6, t7, t8⟩ := X1.out.cells
       have flag1 := True.intro))
  go_ret
  exact RetB.mk rfl X9.out.bw
set_option maxRecDepth 100000 in
set_option maxHeartbeats 4000000 in
theorem cmp4z2 (Ha : Hid (Rep.cells w (lt w.heap.size) a [a0, a1, a2])) (Hb : Hid (Rep.cells w (lt w.heap.size) b [b0, b1, b2])) (Hc : Hid (Rep.cells w (lt w.heap.size) c [c0, c1, c2])) (Fa : Hid ((decide (a.out.length ≤ 20) && decide (a.fau.length ≤ 20)) = true)) (Fb : Hid ((decide (b.out.length ≤ 20) && decide (b.fau.length ≤ 20)) = true)) (Fc : Hid ((decide (c.out.length ≤ 20) && decide (c.fau.length ≤ 20)) = true)) (Hab : Hid (cmpO a b = 0)) (Hba : Hid (cmpO b a = 0)) (Haa : Hid (cmpO a a = 0)) (y : Int) (Hbc : Hid (cmpO b c = y)) (hy : decide (0 < y) = false) (z : Int) (Hac : Hid (cmpO a c = z)) (hz : decide (z ≤ 0) = true) :
    Calls Tryz.prog 3 #[.agg #[a0, a1, a2], .agg #[b0, b1, b2], .agg #[c0, c1, c2]] w (RetB (.bool true) w) := by
  go_enter Tryz.func3, Tryz.ntmps3
  go_upto_region 1 with fail
  obtain ⟨W0, hW0⟩ : ∃ W0, W0 = ((w.alloc (.cells #[a0, a1, a2] 24)).alloc (.cells #[b0, b1, b2] 24)).alloc (.cells #[c0, c1, c2] 24) := ⟨_, rfl⟩
  rw [← hW0]
  have X0 : Hid (Bx w W0 a0 a1 a2 b0 b1 b2 c0 c1 c2) := Lib.hid (by rw [hW0]; exact Bx.new w)
  clear hW0
  obtain ⟨t0, t1, t2, t3, t4, t5, t6, t7, t8⟩ := X0.out.cells
  go_wp2_with (first
    | (have _ := flag9
       go_at_call 8
       refine (pcmp_any W9 w.heap.size a c a0 a1 a2 c0 c1 c2 (Rep.below Ha.out X9.out.bw) (Rep.below Hc.out X9.out.bw) X9.out.bw.size (z) Hac.out).mono ?_
       rintro e W10 ⟨rfl, hb10⟩
       have X10 := Lib.hid (X9.out.below hb10)
       clear hb10 t0 t1 t2 t3 t4 t5 t6 t7 t8
       obtain ⟨t0, t1, t2, t3, t4, t5, t6, t7, t8⟩ := X10.out.cells
       have flag10 := True.intro)
    | (have _ := flag8
       go_at_call 8
       refine (pcmp_any W8 w.heap.size a a a0 a1 a2 a0 a1 a2 (Rep.below Ha.out X8.out.bw) (Rep.below Ha.out X8.out.bw) X8.out.bw.size (0) Haa.out).mono ?_
       rintro e W9 ⟨rfl, hb9⟩
       have X9 := Lib.hid (X8.out.below hb9)
       clear hb9 t0 t1 t2 t3 t4 t5 t6 t7 t8
       obtain ⟨t0, t1, t2, t3, t4, t5, t6, t7, t8⟩ := X9.out.cells
       have flag9 := True.intro)
    | (have _ := flag7
       go_at_call 8
       refine (pcmp_any W7 w.heap.size b a b0 b1 b2 a0 a1 a2 (Rep.below Hb.out X7.out.bw) (Rep.below Ha.out X7.out.bw) X7.out.bw.size (0) Hba.out).mono ?_
       rintro e W8 ⟨rfl, hb8⟩
       have X8 := Lib.hid (X7.out.below hb8)
       clear hb8 t0 t1 t2 t3 t4 t5 t6 t7 t8
       obtain ⟨t0, t1, t2, t3, t4, t5, t6, t7, t8⟩ := X8.out.cells
       have flag8 := True.intro)
    | (have _ := flag6
       go_at_call 9
       refine (rcmp_any W6 w.heap.size a b a0 a1 a2 b0 b1 b2 (Rep.below Ha.out X6.out.bw) (Rep.below Hb.out X6.out.bw) X6.out.bw.size (0) Hab.out).mono ?_
       rintro e W7 ⟨rfl, hb7⟩
       have X7 := Lib.hid (X6.out.below hb7)
       clear hb7 t0 t1 t2 t3 t4 t5 t6 t7 t8
       obtain ⟨t0, t1, t2, t3, t4, t5, t6, t7, t8⟩ := X7.out.cells
       have flag7 := True.intro)
    | (have _ := flag5
       go_at_call 8
       refine (pcmp_any W5 w.heap.size b c b0 b1 b2 c0 c1 c2 (Rep.below Hb.out X5.out.bw) (Rep.below Hc.out X5.out.bw) X5.out.bw.size (y) Hbc.out).mono ?_
       rintro e W6 ⟨rfl, hb6⟩
       have X6 := Lib.hid (X5.out.below hb6)
       clear hb6 t0 t1 t2 t3 t4 t5 t6 t7 t8
       obtain ⟨t0, t1, t2, t3, t4, t5, t6, t7, t8⟩ := X6.out.cells
       have flag6 := True.intro)
    | (have _ := flag4
       go_at_call 8
       refine (pcmp_any W4 w.heap.size a b a0 a1 a2 b0 b1 b2 (Rep.below Ha.out X4.out.bw) (Rep.below Hb.out X4.out.bw) X4.out.bw.size (0) Hab.out).mono ?_
       rintro e W5 ⟨rfl, hb5⟩
       have X5 := Lib.hid (X4.out.below hb5)
       clear hb5 t0 t1 t2 t3 t4 t5 t6 t7 t8
       obtain ⟨t0, t1, t2, t3, t4, t5, t6, t7, t8⟩ := X5.out.cells
       have flag5 := True.intro)
    | (have _ := flag3
       go_at_call 7
       refine (few_any W3 w.heap.size c c0 c1 c2 (Rep.below Hc.out X3.out.bw) true Fc.out).mono ?_
       rintro e W4 ⟨rfl, hb4⟩
       have X4 := Lib.hid (X3.out.below hb4)
       clear hb4 t0 t1 t2 t3 t4 t5 t6 t7 t8
       obtain ⟨t0, t1, t2, t3, t4, t5, t6, t7, t8⟩ := X4.out.cells
       have flag4 := True.intro)
    | (have _ := flag2
       go_at_call 7
       refine (few_any W2 w.heap.size b b0 b1 b2 (Rep.below Hb.out X2.out.bw) true Fb.out).mono ?_
       rintro e W3 ⟨rfl, hb3⟩
       have X3 := Lib.hid (X2.out.below hb3)
       clear hb3 t0 t1 t2 t3 t4 t5 t6 t7 t8
       obtain ⟨t0, t1, t2, t3, t4, t5, t6, t7, t8⟩ := X3.out.cells
       have flag3 := True.intro)
    | (have _ := flag1
       go_at_call 7
       refine (few_any W1 w.heap.size a a0 a1 a2 (Rep.below Ha.out X1.out.bw) true Fa.out).mono ?_
       rintro e W2 ⟨rfl, hb2⟩
       have X2 := Lib.hid (X1.out.below hb2)
       clear hb2 t0 t1 t2 t3 t4 t5 t6 t7 t8
       obtain ⟨t0, t1, t2, t3, t4, t5, t6, t7, t8⟩ := X2.out.cells
       have flag2 := True.intro)
    | (go_at_call 6
       refine (awake_any W0).mono ?_
       rintro e W1 ⟨rfl, hb1⟩
       have X1 := Lib.hid (X0.out.below hb1)
       clear hb1 t0 t1 t2 t3 t4 t5 t6 t7 t8
       obtain ⟨t0, t1, t2, t3, t4, t5, t6, t7, t8⟩ := X1.out.cells
       have flag1 := True.intro))
  go_ret
  exact RetB.mk rfl X10.out.bw
set_option maxRecDepth 100000 in
set_option maxHeartbeats 4000000 in
theorem cmp4p (Ha : Hid (Rep.cells w (lt w.heap.size) a [a0, a1, a2])) (Hb : Hid (Rep.cells w (lt w.heap.size) b [b0, b1, b2])) (Hc : Hid (Rep.cells w (lt w.heap.size) c [c0, c1, c2])) (Fa : Hid ((decide (a.out.length ≤ 20) && decide (a.fau.length ≤ 20)) = true)) (Fb : Hid ((decide (b.out.length ≤ 20) && decide (b.fau.length ≤ 20)) = true)) (Fc : Hid ((decide (c.out.length ≤ 20) && decide (c.fau.length ≤ 20)) = true)) (Hab : Hid (cmpO a b = 1)) (Hba : Hid (cmpO b a = -1)) (Haa : Hid (cmpO a a = 0)) (y : Int) (Hbc : Hid (cmpO b c = y)) :
    Calls Tryz.prog 3 #[.agg #[a0, a1, a2], .agg #[b0, b1, b2], .agg #[c0, c1, c2]] w (RetB (.bool true) w) := by
  go_enter Tryz.func3, Tryz.ntmps3
  go_upto_region 1 with fail
  obtain ⟨W0, hW0⟩ : ∃ W0, W0 = ((w.alloc (.cells #[a0, a1, a2] 24)).alloc (.cells #[b0, b1, b2] 24)).alloc (.cells #[c0, c1, c2] 24) := ⟨_, rfl⟩
  rw [← hW0]
  have X0 : Hid (Bx w W0 a0 a1 a2 b0 b1 b2 c0 c1 c2) := Lib.hid (by rw [hW0]; exact Bx.new w)
  clear hW0
  obtain ⟨t0, t1, t2, t3, t4, t5, t6, t7, t8⟩ := X0.out.cells
  go_wp2_with (first
    | (have _ := flag8
       go_at_call 8
       refine (pcmp_any W8 w.heap.size a a a0 a1 a2 a0 a1 a2 (Rep.below Ha.out X8.out.bw) (Rep.below Ha.out X8.out.bw) X8.out.bw.size (0) Haa.out).mono ?_
       rintro e W9 ⟨rfl, hb9⟩
       have X9 := Lib.hid (X8.out.below hb9)
       clear hb9 t0 t1 t2 t3 t4 t5 t6 t7 t8
       obtain ⟨t0, t1, t2, t3, t4, t5, t6, t7, t8⟩ := X9.out.cells
       have flag9 := True.intro)
    | (have _ := flag7
       go_at_call 8
       refine (pcmp_any W7 w.heap.size b a b0 b1 b2 a0 a1 a2 (Rep.below Hb.out X7.out.bw) (Rep.below Ha.out X7.out.bw) X7.out.bw.size (-1) Hba.out).mono ?_
       rintro e W8 ⟨rfl, hb8⟩
       have X8 := Lib.hid (X7.out.below hb8)
       clear hb8 t0 t1 t2 t3 t4 t5 t6 t7 t8
       obtain ⟨t0, t1, t2, t3, t4, t5, t6, t7, t8⟩ := X8.out.cells
       have flag8 := True.intro)
    | (have _ := flag6
       go_at_call 9
       refine (rcmp_any W6 w.heap.size a b a0 a1 a2 b0 b1 b2 (Rep.below Ha.out X6.out.bw) (Rep.below Hb.out X6.out.bw) X6.out.bw.size (1) Hab.out).mono ?_
       rintro e W7 ⟨rfl, hb7⟩
       have X7 := Lib.hid (X6.out.below hb7)
       clear hb7 t0 t1 t2 t3 t4 t5 t6 t7 t8
       obtain ⟨t0, t1, t2, t3, t4, t5, t6, t7, t8⟩ := X7.out.cells
       have flag7 := True.intro)
    | (have _ := flag5
       go_at_call 8
       refine (pcmp_any W5 w.heap.size b c b0 b1 b2 c0 c1 c2 (Rep.below Hb.out X5.out.bw) (Rep.below Hc.out X5.out.bw) X5.out.bw.size (y) Hbc.out).mono ?_
       rintro e W6 ⟨rfl, hb6⟩
       have X6 := Lib.hid (X5.out.below hb6)
       clear hb6 t0 t1 t2 t3 t4 t5 t6 t7 t8
       obtain ⟨t0, t1, t2, t3, t4, t5, t6, t7, t8⟩ := X6.out.cells
       have flag6 := True.intro)
    | (have _ := flag4
       go_at_call 8
       refine (pcmp_any W4 w.heap.size a b a0 a1 a2 b0 b1 b2 (Rep.below Ha.out X4.out.bw) (Rep.below Hb.out X4.out.bw) X4.out.bw.size (1) Hab.out).mono ?_
       rintro e W5 ⟨rfl, hb5⟩
       have X5 := Lib.hid (X4.out.below hb5)
       clear hb5 t0 t1 t2 t3 t4 t5 t6 t7 t8
       obtain ⟨t0, t1, t2, t3, t4, t5, t6, t7, t8⟩ := X5.out.cells
       have flag5 := True.intro)
    | (have _ := flag3
       go_at_call 7
       refine (few_any W3 w.heap.size c c0 c1 c2 (Rep.below Hc.out X3.out.bw) true Fc.out).mono ?_
       rintro e W4 ⟨rfl, hb4⟩
       have X4 := Lib.hid (X3.out.below hb4)
       clear hb4 t0 t1 t2 t3 t4 t5 t6 t7 t8
       obtain ⟨t0, t1, t2, t3, t4, t5, t6, t7, t8⟩ := X4.out.cells
       have flag4 := True.intro)
    | (have _ := flag2
       go_at_call 7
       refine (few_any W2 w.heap.size b b0 b1 b2 (Rep.below Hb.out X2.out.bw) true Fb.out).mono ?_
       rintro e W3 ⟨rfl, hb3⟩
       have X3 := Lib.hid (X2.out.below hb3)
       clear hb3 t0 t1 t2 t3 t4 t5 t6 t7 t8
       obtain ⟨t0, t1, t2, t3, t4, t5, t6, t7, t8⟩ := X3.out.cells
       have flag3 := True.intro)
    | (have _ := flag1
       go_at_call 7
       refine (few_any W1 w.heap.size a a0 a1 a2 (Rep.below Ha.out X1.out.bw) true Fa.out).mono ?_
       rintro e W2 ⟨rfl, hb2⟩
       have X2 := Lib.hid (X1.out.below hb2)
       clear hb2 t0 t1 t2 t3 t4 t5 t6 t7 t8
       obtain ⟨t0, t1, t2, t3, t4, t5, t6, t7, t8⟩ := X2.out.cells
       have flag2 := True.intro)
    | (go_at_call 6
       refine (awake_any W0).mono ?_
       rintro e W1 ⟨rfl, hb1⟩
       have X1 := Lib.hid (X0.out.below hb1)
       clear hb1 t0 t1 t2 t3 t4 t5 t6 t7 t8
       obtain ⟨t0, t1, t2, t3, t4, t5, t6, t7, t8⟩ := X1.out.cells
       have flag1 := True.intro))
  go_ret
  exact RetB.mk rfl X9.out.bw
end
theorem law_compares (w : World) (a b c : Outc) (a0 a1 a2 b0 b1 b2 c0 c1 c2 : Value) (ha : Rep.cells w (lt w.heap.size) a [a0, a1, a2]) (hb : Rep.cells w (lt w.heap.size) b [b0, b1, b2]) (hc : Rep.cells w (lt w.heap.size) c [c0, c1, c2]) :
    Calls Tryz.prog 3 #[.agg #[a0, a1, a2], .agg #[b0, b1, b2], .agg #[c0, c1, c2]] w (RetB (.bool true) w) := by
  have Ha := Lib.hid ha
  have Hb := Lib.hid hb
  have Hc := Lib.hid hc
  cases fa : (decide (a.out.length ≤ 20) && decide (a.fau.length ≤ 20)) with
  | false => exact cmp1 w a b c a0 a1 a2 b0 b1 b2 c0 c1 c2 Ha Hb Hc (Lib.hid fa)
  | true =>
    cases fb : (decide (b.out.length ≤ 20) && decide (b.fau.length ≤ 20)) with
    | false => exact cmp2 w a b c a0 a1 a2 b0 b1 b2 c0 c1 c2 Ha Hb Hc (Lib.hid fa) (Lib.hid fb)
    | true =>
      cases fc : (decide (c.out.length ≤ 20) && decide (c.fau.length ≤ 20)) with
      | false => exact cmp3 w a b c a0 a1 a2 b0 b1 b2 c0 c1 c2 Ha Hb Hc (Lib.hid fa) (Lib.hid fb) (Lib.hid fc)
      | true =>
        have hn := cmpO_neg a b
        rcases cmpO_cases a b with h | h | h
        · rcases Int.lt_or_le 0 (cmpO b c) with hy | hy
          · exact cmp4m1 w a b c a0 a1 a2 b0 b1 b2 c0 c1 c2 Ha Hb Hc (Lib.hid fa) (Lib.hid fb) (Lib.hid fc) (Lib.hid h) (Lib.hid (by rw [hn, h]; rfl)) (Lib.hid (cmpO_self a)) _ (Lib.hid rfl) (by simpa using hy)
          · exact cmp4m2 w a b c a0 a1 a2 b0 b1 b2 c0 c1 c2 Ha Hb Hc (Lib.hid fa) (Lib.hid fb) (Lib.hid fc) (Lib.hid h) (Lib.hid (by rw [hn, h]; rfl)) (Lib.hid (cmpO_self a)) _ (Lib.hid rfl) (by simpa using hy) _ (Lib.hid rfl) (by simpa using cmpO_trans (by omega) hy)
        · rcases Int.lt_or_le 0 (cmpO b c) with hy | hy
          · exact cmp4z1 w a b c a0 a1 a2 b0 b1 b2 c0 c1 c2 Ha Hb Hc (Lib.hid fa) (Lib.hid fb) (Lib.hid fc) (Lib.hid h) (Lib.hid (by rw [hn, h]; rfl)) (Lib.hid (cmpO_self a)) _ (Lib.hid rfl) (by simpa using hy)
          · exact cmp4z2 w a b c a0 a1 a2 b0 b1 b2 c0 c1 c2 Ha Hb Hc (Lib.hid fa) (Lib.hid fb) (Lib.hid fc) (Lib.hid h) (Lib.hid (by rw [hn, h]; rfl)) (Lib.hid (cmpO_self a)) _ (Lib.hid rfl) (by simpa using hy) _ (Lib.hid rfl) (by simpa using cmpO_trans (by omega) hy)
        · exact cmp4p w a b c a0 a1 a2 b0 b1 b2 c0 c1 c2 Ha Hb Hc (Lib.hid fa) (Lib.hid fb) (Lib.hid fc) (Lib.hid h) (Lib.hid (by rw [hn, h])) (Lib.hid (cmpO_self a)) _ (Lib.hid rfl)
end Go.Proofs.YtojddklogigihaaGreatDoor

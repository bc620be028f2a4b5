/- For any two outcomes: the law on texts returns true. -/
import Derived.Test.YtojddklogigihaaGreatDoorO16
namespace Go.Proofs.YtojddklogigihaaGreatDoor
open Go.RowKit Go.Lib

/-! ### Plain Lean: equal texts, equal outcomes -/
theorem cmpO_eq {a b : Outc} (h : cmpO a b = 0) : a = b := by
  obtain ⟨ao, af, ad⟩ := a
  obtain ⟨bo, bf, bd⟩ := b
  unfold cmpO or3 at h
  simp only at h
  by_cases h1 : cmpL ao bo = 0
  · by_cases h2 : cmpL af bf = 0
    · simp [h1, h2] at h
      rw [cmpL_zero h1, cmpL_zero h2, cmpB_zero h]
    · simp [h1, h2] at h
  · simp [h1] at h
theorem tx_iff (a b : Outc) : txO a = txO b ↔ cmpO a b = 0 := by
  constructor
  · intro h
    obtain ⟨h1, h2, h3⟩ := Tx.txt_inj h
    have e : a = b := by
      cases a; cases b
      simp only at h1 h2 h3
      rw [h1, h2, h3]
    rw [e]
    exact cmpO_self b
  · intro h
    rw [cmpO_eq h]

/-! ### Two outcomes in boxes -/
structure By (w W : World) (a0 a1 a2 b0 b1 b2 : Value) : Prop where
  bw : Below w.heap.size w W
  k1 : Blk W w.heap.size 24 #[a0, a1, a2]
  k2 : Blk W (w.heap.size + 1) 24 #[b0, b1, b2]
section
variable {w W W' : World} {a0 a1 a2 b0 b1 b2 : Value}
theorem By.below (h : By w W a0 a1 a2 b0 b1 b2) (hb : Below W.heap.size W W') : By w W' a0 a1 a2 b0 b1 b2 :=
  ⟨h.bw.trans (hb.mono h.bw.size), h.k1.below hb h.k1.lt, h.k2.below hb h.k2.lt⟩
theorem By.drew (h : By w W a0 a1 a2 b0 b1 b2) : By w W.drew a0 a1 a2 b0 b1 b2 := h.below (Below.refl _ _).drew
theorem By.cells (h : By w W a0 a1 a2 b0 b1 b2) :
    W.cell? ⟨w.heap.size, 0, none⟩ = some a0 ∧ W.cell? ⟨w.heap.size, 1, none⟩ = some a1 ∧ W.cell? ⟨w.heap.size, 2, none⟩ = some a2 ∧
    W.cell? ⟨w.heap.size + 1, 0, none⟩ = some b0 ∧ W.cell? ⟨w.heap.size + 1, 1, none⟩ = some b1 ∧ W.cell? ⟨w.heap.size + 1, 2, none⟩ = some b2 :=
  ⟨h.k1.at_ 0 rfl, h.k1.at_ 1 rfl, h.k1.at_ 2 rfl, h.k2.at_ 0 rfl, h.k2.at_ 1 rfl, h.k2.at_ 2 rfl⟩
theorem By.new (w : World) : By w ((w.alloc (.cells #[a0, a1, a2] 24)).alloc (.cells #[b0, b1, b2] 24)) a0 a1 a2 b0 b1 b2 := by
  refine ⟨((Below.refl _ _).alloc (Nat.le_refl _) _).alloc (by simp) _, (Blk.new w _ _).alloc _, ?_⟩
  have := Blk.new (w.alloc (.cells #[a0, a1, a2] 24)) 24 #[b0, b1, b2]
  simpa using this
theorem upR {a : Outc} {cs : List Value} (h : Rep.cells w (lt w.heap.size) a cs) (hb : Below w.heap.size w W) : Rep.cells W (lt W.heap.size) a cs := Rep.more (Rep.below h hb) hb.size
end
section
variable (w : World) (a b : Outc) (a0 a1 a2 b0 b1 b2 : Value)
set_option maxRecDepth 100000 in
set_option maxHeartbeats 4000000 in
theorem txt1 (Ha : Hid (Rep.cells w (lt w.heap.size) a [a0, a1, a2])) (Hb : Hid (Rep.cells w (lt w.heap.size) b [b0, b1, b2])) (Fa : Hid ((decide (a.out.length ≤ 20) && decide (a.fau.length ≤ 20)) = false)) :
    Calls Tryz.prog 4 #[.agg #[a0, a1, a2], .agg #[b0, b1, b2]] w (RetB (.bool true) w) := by
  go_enter Tryz.func4, Tryz.ntmps4
  go_upto_region 1 with fail
  obtain ⟨W0, hW0⟩ : ∃ W0, W0 = (w.alloc (.cells #[a0, a1, a2] 24)).alloc (.cells #[b0, b1, b2] 24) := ⟨_, rfl⟩
  rw [← hW0]
  have X0 : Hid (By w W0 a0 a1 a2 b0 b1 b2) := Lib.hid (by rw [hW0]; exact By.new w)
  clear hW0
  obtain ⟨t0, t1, t2, t3, t4, t5⟩ := X0.out.cells
  go_wp2_with (first
    | (have _ := flag1
       go_at_call 7
       refine (few_any W1 w.heap.size a a0 a1 a2 (Rep.below Ha.out X1.out.bw) false Fa.out).mono ?_
       rintro e W2 ⟨rfl, hb2⟩
       have X2 := Lib.hid (X1.out.below hb2)
       clear hb2 t0 t1 t2 t3 t4 t5
       obtain ⟨t0, t1, t2, t3, t4, t5⟩ := X2.out.cells
       have flag2 := True.intro)
    | (go_at_call 6
       refine (awake_any W0).mono ?_
       rintro e W1 ⟨rfl, hb1⟩
       have X1 := Lib.hid (X0.out.below hb1)
       clear hb1 t0 t1 t2 t3 t4 t5
       obtain ⟨t0, t1, t2, t3, t4, t5⟩ := X1.out.cells
       have flag1 := True.intro))
  go_ret
  exact RetB.mk rfl X2.out.bw
set_option maxRecDepth 100000 in
set_option maxHeartbeats 4000000 in
theorem txt2 (Ha : Hid (Rep.cells w (lt w.heap.size) a [a0, a1, a2])) (Hb : Hid (Rep.cells w (lt w.heap.size) b [b0, b1, b2])) (Fa : Hid ((decide (a.out.length ≤ 20) && decide (a.fau.length ≤ 20)) = true)) (Fb : Hid ((decide (b.out.length ≤ 20) && decide (b.fau.length ≤ 20)) = false)) :
    Calls Tryz.prog 4 #[.agg #[a0, a1, a2], .agg #[b0, b1, b2]] w (RetB (.bool true) w) := by
  go_enter Tryz.func4, Tryz.ntmps4
  go_upto_region 1 with fail
  obtain ⟨W0, hW0⟩ : ∃ W0, W0 = (w.alloc (.cells #[a0, a1, a2] 24)).alloc (.cells #[b0, b1, b2] 24) := ⟨_, rfl⟩
  rw [← hW0]
  have X0 : Hid (By w W0 a0 a1 a2 b0 b1 b2) := Lib.hid (by rw [hW0]; exact By.new w)
  clear hW0
  obtain ⟨t0, t1, t2, t3, t4, t5⟩ := X0.out.cells
  go_wp2_with (first
    | (have _ := flag2
       go_at_call 7
       refine (few_any W2 w.heap.size b b0 b1 b2 (Rep.below Hb.out X2.out.bw) false Fb.out).mono ?_
       rintro e W3 ⟨rfl, hb3⟩
       have X3 := Lib.hid (X2.out.below hb3)
       clear hb3 t0 t1 t2 t3 t4 t5
       obtain ⟨t0, t1, t2, t3, t4, t5⟩ := X3.out.cells
       have flag3 := True.intro)
    | (have _ := flag1
       go_at_call 7
       refine (few_any W1 w.heap.size a a0 a1 a2 (Rep.below Ha.out X1.out.bw) true Fa.out).mono ?_
       rintro e W2 ⟨rfl, hb2⟩
       have X2 := Lib.hid (X1.out.below hb2)
       clear hb2 t0 t1 t2 t3 t4 t5
       obtain ⟨t0, t1, t2, t3, t4, t5⟩ := X2.out.cells
       have flag2 := True.intro)
    | (go_at_call 6
       refine (awake_any W0).mono ?_
       rintro e W1 ⟨rfl, hb1⟩
       have X1 := Lib.hid (X0.out.below hb1)
       clear hb1 t0 t1 t2 t3 t4 t5
       obtain ⟨t0, t1, t2, t3, t4, t5⟩ := X1.out.cells
       have flag1 := True.intro))
  go_ret
  exact RetB.mk rfl X3.out.bw
set_option maxRecDepth 100000 in
set_option maxHeartbeats 4000000 in
theorem txt3 (Ha : Hid (Rep.cells w (lt w.heap.size) a [a0, a1, a2])) (Hb : Hid (Rep.cells w (lt w.heap.size) b [b0, b1, b2])) (Fa : Hid ((decide (a.out.length ≤ 20) && decide (a.fau.length ≤ 20)) = true)) (Fb : Hid ((decide (b.out.length ≤ 20) && decide (b.fau.length ≤ 20)) = true)) (sa sb : ByteArray) (z : Int)
    (TA : Hid (∀ W, By w W a0 a1 a2 b0 b1 b2 → Calls Tryz.prog 10 #[.agg #[a0, a1, a2]] W (RetB (.string sa) W)))
    (RA : Hid (∀ W, By w W a0 a1 a2 b0 b1 b2 → Calls Tryz.prog 11 #[.agg #[a0, a1, a2]] W (RetB (.string sa) W)))
    (TB : Hid (∀ W, By w W a0 a1 a2 b0 b1 b2 → Calls Tryz.prog 10 #[.agg #[b0, b1, b2]] W (RetB (.string sb) W)))
    (CM : Hid (∀ W, By w W a0 a1 a2 b0 b1 b2 → Calls Tryz.prog 8 #[.agg #[a0, a1, a2], .agg #[b0, b1, b2]] W (RetB (.int .i64 z) W)))
    (HE : Hid (((sa.toList == sb.toList) == (z == 0)) = true)) :
    Calls Tryz.prog 4 #[.agg #[a0, a1, a2], .agg #[b0, b1, b2]] w (RetB (.bool true) w) := by
  go_enter Tryz.func4, Tryz.ntmps4
  go_upto_region 1 with fail
  obtain ⟨W0, hW0⟩ : ∃ W0, W0 = (w.alloc (.cells #[a0, a1, a2] 24)).alloc (.cells #[b0, b1, b2] 24) := ⟨_, rfl⟩
  rw [← hW0]
  have X0 : Hid (By w W0 a0 a1 a2 b0 b1 b2) := Lib.hid (by rw [hW0]; exact By.new w)
  clear hW0
  obtain ⟨t0, t1, t2, t3, t4, t5⟩ := X0.out.cells
  go_wp2_with (first
    | (have _ := flag2
       go_at_call 7
       refine (few_any W2 w.heap.size b b0 b1 b2 (Rep.below Hb.out X2.out.bw) true Fb.out).mono ?_
       rintro e W3 ⟨rfl, hb3⟩
       have X3 := Lib.hid (X2.out.below hb3)
       clear hb3 t0 t1 t2 t3 t4 t5
       obtain ⟨t0, t1, t2, t3, t4, t5⟩ := X3.out.cells
       have flag3 := True.intro)
    | (have _ := flag1
       go_at_call 7
       refine (few_any W1 w.heap.size a a0 a1 a2 (Rep.below Ha.out X1.out.bw) true Fa.out).mono ?_
       rintro e W2 ⟨rfl, hb2⟩
       have X2 := Lib.hid (X1.out.below hb2)
       clear hb2 t0 t1 t2 t3 t4 t5
       obtain ⟨t0, t1, t2, t3, t4, t5⟩ := X2.out.cells
       have flag2 := True.intro)
    | (go_at_call 6
       refine (awake_any W0).mono ?_
       rintro e W1 ⟨rfl, hb1⟩
       have X1 := Lib.hid (X0.out.below hb1)
       clear hb1 t0 t1 t2 t3 t4 t5
       obtain ⟨t0, t1, t2, t3, t4, t5⟩ := X1.out.cells
       have flag1 := True.intro))
  go_region_held3 (fun W => W.cell? ⟨w.heap.size, 0, none⟩ = some a0 ∧ W.cell? ⟨w.heap.size, 1, none⟩ = some a1 ∧ W.cell? ⟨w.heap.size, 2, none⟩ = some a2 ∧ W.cell? ⟨w.heap.size + 1, 0, none⟩ = some b0 ∧ W.cell? ⟨w.heap.size + 1, 1, none⟩ = some b1 ∧ W.cell? ⟨w.heap.size + 1, 2, none⟩ = some b2) (go_keep)
    (first
    | (have _ := flag7
       go_at_call 8
       refine (CM.out W7 X7.out).mono ?_
       rintro e W8 ⟨rfl, hb8⟩
       have X8 := Lib.hid (X7.out.below hb8)
       clear hb8 t0 t1 t2 t3 t4 t5
       obtain ⟨t0, t1, t2, t3, t4, t5⟩ := X8.out.cells
       have flag8 := True.intro)
    | (have _ := flag6
       go_at_call 10
       refine (TB.out W6 X6.out).mono ?_
       rintro e W7 ⟨rfl, hb7⟩
       have X7 := Lib.hid (X6.out.below hb7)
       clear hb7 t0 t1 t2 t3 t4 t5
       obtain ⟨t0, t1, t2, t3, t4, t5⟩ := X7.out.cells
       have flag7 := True.intro)
    | (have _ := flag5
       go_at_call 10
       refine (TA.out W5 X5.out).mono ?_
       rintro e W6 ⟨rfl, hb6⟩
       have X6 := Lib.hid (X5.out.below hb6)
       clear hb6 t0 t1 t2 t3 t4 t5
       obtain ⟨t0, t1, t2, t3, t4, t5⟩ := X6.out.cells
       have flag6 := True.intro)
    | (have _ := flag4
       go_at_call 11
       refine (RA.out W4 X4.out).mono ?_
       rintro e W5 ⟨rfl, hb5⟩
       have X5 := Lib.hid (X4.out.below hb5)
       clear hb5 t0 t1 t2 t3 t4 t5
       obtain ⟨t0, t1, t2, t3, t4, t5⟩ := X5.out.cells
       have flag5 := True.intro)
    | (have _ := flag3
       go_at_call 10
       refine (TA.out (W3.drew) X3.out.drew).mono ?_
       rintro e W4 ⟨rfl, hb4⟩
       have X4 := Lib.hid (X3.out.drew.below hb4)
       clear hb4 t0 t1 t2 t3 t4 t5
       obtain ⟨t0, t1, t2, t3, t4, t5⟩ := X4.out.cells
       have flag4 := True.intro))
  go_wp2
  go_ret
  exact RetB.mk (bool_eq HE.out) X8.out.bw
end
theorem law_texts (w : World) (a b : Outc) (a0 a1 a2 b0 b1 b2 : Value) (ha : Rep.cells w (lt w.heap.size) a [a0, a1, a2]) (hb : Rep.cells w (lt w.heap.size) b [b0, b1, b2]) (oa : okO a) (ob : okO b)
    (htab : Lib.TabBelow Tryz.prog w.heap.size w "internal/strconv.uint64pow10" .u64 Lib.pow10Tab) :
    Calls Tryz.prog 4 #[.agg #[a0, a1, a2], .agg #[b0, b1, b2]] w (RetB (.bool true) w) := by
  have Ha := Lib.hid ha
  have Hb := Lib.hid hb
  cases fa : (decide (a.out.length ≤ 20) && decide (a.fau.length ≤ 20)) with
  | false => exact txt1 w a b a0 a1 a2 b0 b1 b2 Ha Hb (Lib.hid fa)
  | true =>
    cases fb : (decide (b.out.length ≤ 20) && decide (b.fau.length ≤ 20)) with
    | false => exact txt2 w a b a0 a1 a2 b0 b1 b2 Ha Hb (Lib.hid fa) (Lib.hid fb)
    | true =>
      have fa' := fa
      have fb' := fb
      simp only [Bool.and_eq_true, decide_eq_true_eq] at fa' fb'
      have tab : ∀ W, Below w.heap.size w W → Lib.TabBelow Tryz.prog W.heap.size W "internal/strconv.uint64pow10" .u64 Lib.pow10Tab := fun W hW w' hw' => htab w' (hW.trans (hw'.mono hW.size))
      refine txt3 w a b a0 a1 a2 b0 b1 b2 Ha Hb (Lib.hid fa) (Lib.hid fb) ⟨(txO a).toArray⟩ ⟨(txO b).toArray⟩ (cmpO a b)
        (Lib.hid fun W X => ptext_any W a a0 a1 a2 (upR ha X.bw) oa fa'.1 fa'.2 (tab W X.bw))
        (Lib.hid fun W X => rtext_any W a a0 a1 a2 (upR ha X.bw) oa fa'.1 fa'.2)
        (Lib.hid fun W X => ptext_any W b b0 b1 b2 (upR hb X.bw) ob fb'.1 fb'.2 (tab W X.bw))
        (Lib.hid fun W X => pcmp_any W w.heap.size a b a0 a1 a2 b0 b1 b2 (Rep.below ha X.bw) (Rep.below hb X.bw) X.bw.size _ rfl)
        (Lib.hid ?_)
      by_cases e : txO a = txO b
      · rw [e, (tx_iff a b).1 e]
        simp
      · have h1 : (cmpO a b == 0) = false := by simpa using fun h => e ((tx_iff a b).2 h)
        have h2 : ((⟨(txO a).toArray⟩ : ByteArray).toList == (⟨(txO b).toArray⟩ : ByteArray).toList) = false := by
          rw [beq_eq_false_iff_ne]
          intro h
          apply e
          simpa using h
        rw [h1, h2]
        rfl
end Go.Proofs.YtojddklogigihaaGreatDoor

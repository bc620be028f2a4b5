/- The reference's text of an outcome. -/
import Derived.Test.YtojddklogigihaaGreatDoorO13
namespace Go.Proofs.YtojddklogigihaaGreatDoor
open Go.RowKit Go.Lib

/-- What the law asks of an outcome: few numbers, of 64 bits. -/
def in64 (n : Int) : Prop := -9223372036854775808 ≤ n ∧ n ≤ 9223372036854775807
def okO (o : Outc) : Prop := (∀ x ∈ o.out, in64 x) ∧ (∀ x ∈ o.fau, in64 x)
def txO (o : Outc) : List UInt8 := Tx.txtOf o.out o.fau o.dead
theorem flat_take {xs : List Int} {k : Nat} {x : Int} (h : xs[k]? = some x) : (xs.take (k + 1)).flatMap Tx.sp = (xs.take k).flatMap Tx.sp ++ [32] ++ itoa x := by
  rw [List.take_add_one, h, List.flatMap_append]
  simp [Tx.sp]
theorem flat_all {xs : List Int} {k : Nat} (h : xs.length ≤ k) : (xs.take k).flatMap Tx.sp = xs.flatMap Tx.sp := by rw [List.take_of_length_le h]
theorem flat_len {xs : List Int} (h : ∀ x ∈ xs, in64 x) (hl : xs.length ≤ 20) (k : Nat) : ((xs.take k).flatMap Tx.sp).length ≤ 440 :=
  Tx.flat_le (B := 20) (fun x hx => h x (List.mem_of_mem_take hx)) (by rw [List.length_take]; omega)

set_option maxRecDepth 100000 in
set_option maxHeartbeats 2000000 in
theorem rtext_any (w : World) (a : Outc) (x0 x1 x2 : Value) (ha : Rep.cells w (lt w.heap.size) a [x0, x1, x2]) (hok : okO a) (h20 : a.out.length ≤ 20) (k20 : a.fau.length ≤ 20) :
    Calls Tryz.prog 11 #[.agg #[x0, x1, x2]] w (RetB (.string ⟨(txO a).toArray⟩) w) := by
  obtain ⟨A, n, c, C, m, d, ea, h1, h2, h3, h4, h5, h6⟩ := ha
  simp only [List.cons.injEq, and_true] at ea
  obtain ⟨rfl, rfl, rfl⟩ := ea
  have hln : a.out.length = n := h5.1
  have hlm : a.fau.length = m := h6.1
  have hn20 : n ≤ 20 := by omega
  have hm20 : m ≤ 20 := by omega
  have N20 := Lib.hid hn20
  have M20 := Lib.hid hm20
  have H5 := Lib.hid h5
  have H6 := Lib.hid h6
  have HL := Lib.hid hln
  have HM := Lib.hid hlm
  have HO := Lib.hid hok
  have FL1 := Lib.hid (flat_len hok.1 h20)
  have FL2 := Lib.hid (flat_len hok.2 k20)
  obtain ⟨da, hda⟩ : ∃ da, da = a.dead := ⟨_, rfl⟩
  rw [← hda]
  have HD := Lib.hid hda
  clear h1 h2 h3 h4 h5 h6 hok h20 k20 hln hlm hda
  go_enter Tryz.func11, Tryz.ntmps11
  go_upto_region 1 with fail
  obtain ⟨w1, hw1⟩ : ∃ w1, w1 = w.alloc (.cells #[.slice A n c, .slice C m d, .bool da] 24) := ⟨_, rfl⟩
  rw [← hw1]
  have hbw : Below w.heap.size w w1 := by rw [hw1]; exact (Below.refl _ _).alloc (Nat.le_refl _) _
  have hk1 : Blk w1 w.heap.size 24 #[.slice A n c, .slice C m d, .bool da] := by rw [hw1]; exact Blk.new w _ _
  obtain ⟨g, hg⟩ : ∃ g, g = w.heap.size := ⟨_, rfl⟩
  rw [← hg] at hk1 ⊢
  have HB := Lib.hid hbw
  have HK := Lib.hid hk1
  have HG := Lib.hid hg
  clear hw1 hk1 hbw hg
  go_wp2
  go_loopw [4, 3] (fun i s wr => ∃ (k : Nat) (t : List UInt8), k ≤ n ∧ i = .int .i64 k ∧ s = .string ⟨t.toArray⟩ ∧ t = Tx.hOut ++ (a.out.take k).flatMap Tx.sp ∧ Below w1.heap.size w1 wr) (fun i _ _ => n - (intOf i).toNat)
  case atStart => exact ⟨0, Tx.hOut, Nat.zero_le _, rfl, rfl, by simp, Below.refl _ _⟩
  case round =>
    obtain ⟨k, t, hk, rfl, rfl, ht, hbr⟩ := hrel
    obtain ⟨w2, rfl⟩ : ∃ w2 : World, w2 = wr := ⟨_, rfl⟩
    have x0 : w2.cell? ⟨g, 0, none⟩ = some (.slice A n c) := (HK.out.below hbr HK.out.lt).at_ 0 rfl
    have tl : t.length ≤ 446 := by rw [ht, List.length_append]; have := FL1.out k; show 6 + _ ≤ 446; omega
    have HT := Lib.hid ht
    have HB2 := Lib.hid hbr
    have TL := Lib.hid tl
    clear ht hbr tl
    by_cases hlt : k < n
    · obtain ⟨b, o, rfl, hb, x, hx1, hcell⟩ := H5.out.int hlt
      have hx64 := HO.out.1 x (List.mem_of_getElem? hx1)
      have hc2 : w2.cell? ⟨b, o + k, none⟩ = some (.int .i64 x) := (HB2.out.cell (p := ⟨b, o + k, none⟩) (Nat.lt_of_lt_of_le hb HB.out.size)).trans ((HB.out.cell (p := ⟨b, o + k, none⟩) hb).trans hcell)
      have HX := Lib.hid hx1
      have il := itoa_length_le x hx64.1 hx64.2
      obtain ⟨is, his⟩ : ∃ is, is = itoa x := ⟨_, rfl⟩
      rw [← his] at il
      obtain ⟨t1, ht1⟩ : ∃ t1, t1 = t ++ [32] := ⟨_, rfl⟩
      obtain ⟨t2, ht2⟩ : ∃ t2, t2 = t1 ++ is := ⟨_, rfl⟩
      have ha1 : ∀ W, (Op.stringOp .add ⟨t.toArray⟩ ⟨#[32]⟩).run Tryz.prog W = .ok (.string ⟨t1.toArray⟩) W := by rw [ht1]; exact str_add Tryz.prog t [32] (by have := TL.out; simp; omega)
      have ha2 : ∀ W, (Op.stringOp .add ⟨t1.toArray⟩ ⟨is.toArray⟩).run Tryz.prog W = .ok (.string ⟨t2.toArray⟩) W := by rw [ht2]; exact str_add Tryz.prog t1 is (by have := TL.out; rw [ht1]; simp; omega)
      have HN : Hid (∀ w, Calls Tryz.prog 20 #[.int .i64 x] w (RetB (.string ⟨is.toArray⟩) w)) := Lib.hid (by rw [his]; exact rnumber_any x hx64)
      have HT2 : Hid (t2 = Tx.hOut ++ (a.out.take (k + 1)).flatMap Tx.sp) := Lib.hid (by rw [ht2, ht1, his, HT.out, flat_take hx1]; simp)
      clear ht1 ht2 his hx1 hcell hx64 il
      go_wp2_with (go_at_call 20; refine (HN.out w2).mono ?_; rintro e w3 ⟨rfl, hb3⟩)
      go_roundw
      case rel => exact ⟨k + 1, t2, by omega, by go_num, rfl, HT2.out, HB2.out.trans (hb3.mono HB2.out.size)⟩
      case measure => simp [intOf]; omega
    · have hb1 : decide ((k : Int) < (n : Int)) = false := by simp; omega
      have HT0 : Hid (t = Tx.hOut ++ a.out.flatMap Tx.sp) := Lib.hid (by rw [HT.out, flat_all (by rw [HL.out]; omega)])
      obtain ⟨t3, ht3⟩ : ∃ t3, t3 = t ++ Tx.hFau := ⟨_, rfl⟩
      have ha3 : ∀ W, (Op.stringOp .add ⟨t.toArray⟩ ⟨#[59, 32, 102, 97, 117, 108, 116, 115]⟩).run Tryz.prog W = .ok (.string ⟨t3.toArray⟩) W := by rw [ht3]; exact str_add Tryz.prog t Tx.hFau (by have := TL.out; simp [Tx.hFau]; omega)
      have HT3 : Hid (t3 = Tx.hOut ++ a.out.flatMap Tx.sp ++ Tx.hFau) := Lib.hid (by rw [ht3, HT0.out])
      have T3L : Hid (t3.length ≤ 454) := Lib.hid (by have := TL.out; rw [ht3]; simp [Tx.hFau]; omega)
      clear ht3
      go_wp2
      go_loopw [5, 3] (fun i s wr => ∃ (k : Nat) (t : List UInt8), k ≤ m ∧ i = .int .i64 k ∧ s = .string ⟨t.toArray⟩ ∧ t = t3 ++ (a.fau.take k).flatMap Tx.sp ∧ Below w1.heap.size w1 wr) (fun i _ _ => m - (intOf i).toNat)
      case atStart => exact ⟨0, t3, Nat.zero_le _, rfl, rfl, by simp, HB2.out⟩
      case round =>
        obtain ⟨j, s, hj, rfl, rfl, hs, hbr⟩ := hrel
        obtain ⟨w4, rfl⟩ : ∃ w4 : World, w4 = wr := ⟨_, rfl⟩
        have y1 : w4.cell? ⟨g, 1, none⟩ = some (.slice C m d) := (HK.out.below hbr HK.out.lt).at_ 1 rfl
        have y2 : w4.cell? ⟨g, 2, none⟩ = some (.bool da) := (HK.out.below hbr HK.out.lt).at_ 2 rfl
        have sl : s.length ≤ 894 := by rw [hs, List.length_append]; have := FL2.out j; have := T3L.out; omega
        have HS := Lib.hid hs
        have HB4 := Lib.hid hbr
        have SL := Lib.hid sl
        clear hs hbr sl x0 ha3
        by_cases hjt : j < m
        · obtain ⟨b, o, rfl, hb, x, hx1, hcell⟩ := H6.out.int hjt
          have hx64 := HO.out.2 x (List.mem_of_getElem? hx1)
          have hc2 : w4.cell? ⟨b, o + j, none⟩ = some (.int .i64 x) := (HB4.out.cell (p := ⟨b, o + j, none⟩) (Nat.lt_of_lt_of_le hb HB.out.size)).trans ((HB.out.cell (p := ⟨b, o + j, none⟩) hb).trans hcell)
          have HX := Lib.hid hx1
          have il := itoa_length_le x hx64.1 hx64.2
          obtain ⟨is, his⟩ : ∃ is, is = itoa x := ⟨_, rfl⟩
          rw [← his] at il
          obtain ⟨t1, ht1⟩ : ∃ t1, t1 = s ++ [32] := ⟨_, rfl⟩
          obtain ⟨t2, ht2⟩ : ∃ t2, t2 = t1 ++ is := ⟨_, rfl⟩
          have ha1 : ∀ W, (Op.stringOp .add ⟨s.toArray⟩ ⟨#[32]⟩).run Tryz.prog W = .ok (.string ⟨t1.toArray⟩) W := by rw [ht1]; exact str_add Tryz.prog s [32] (by have := SL.out; simp; omega)
          have ha2 : ∀ W, (Op.stringOp .add ⟨t1.toArray⟩ ⟨is.toArray⟩).run Tryz.prog W = .ok (.string ⟨t2.toArray⟩) W := by rw [ht2]; exact str_add Tryz.prog t1 is (by have := SL.out; rw [ht1]; simp; omega)
          have HN : Hid (∀ w, Calls Tryz.prog 20 #[.int .i64 x] w (RetB (.string ⟨is.toArray⟩) w)) := Lib.hid (by rw [his]; exact rnumber_any x hx64)
          have HT2 : Hid (t2 = t3 ++ (a.fau.take (j + 1)).flatMap Tx.sp) := Lib.hid (by rw [ht2, ht1, his, HS.out, flat_take hx1]; simp)
          clear ht1 ht2 his hx1 hcell hx64 il
          go_wp2_with (go_at_call 20; refine (HN.out w4).mono ?_; rintro e w5 ⟨rfl, hb5⟩)
          go_roundw
          case rel => exact ⟨j + 1, t2, by omega, by go_num, rfl, HT2.out, HB4.out.trans (hb5.mono HB4.out.size)⟩
          case measure => simp [intOf]; omega
        · have hb2 : decide ((j : Int) < (m : Int)) = false := by simp; omega
          have HS0 : Hid (s = Tx.hOut ++ a.out.flatMap Tx.sp ++ Tx.hFau ++ a.fau.flatMap Tx.sp) := Lib.hid (by rw [HS.out, flat_all (by rw [HM.out]; omega), HT3.out])
          cases da
          · go_wp2
            go_ret
            exact RetB.mk (by rw [HS0.out, txO, Tx.txtOf, ← HD.out]; simp [Tx.deadB]) (HB.out.trans (HB4.out.mono HB.out.size))
          · obtain ⟨s3, hs3⟩ : ∃ s3, s3 = s ++ Tx.hDead := ⟨_, rfl⟩
            have ha3 : ∀ W, (Op.stringOp .add ⟨s.toArray⟩ ⟨#[59, 32, 100, 101, 97, 100, 108, 111, 99, 107]⟩).run Tryz.prog W = .ok (.string ⟨s3.toArray⟩) W := by rw [hs3]; exact str_add Tryz.prog s Tx.hDead (by have := SL.out; simp [Tx.hDead]; omega)
            have HS3 : Hid (s3 = Tx.hOut ++ a.out.flatMap Tx.sp ++ Tx.hFau ++ a.fau.flatMap Tx.sp ++ Tx.hDead) := Lib.hid (by rw [hs3, HS0.out])
            clear hs3
            go_wp2
            go_ret
            exact RetB.mk (by rw [HS3.out, txO, Tx.txtOf, ← HD.out]; simp [Tx.deadB]) (HB.out.trans (HB4.out.mono HB.out.size))
end Go.Proofs.YtojddklogigihaaGreatDoor

/- The program's text of an outcome. -/
import Derived.Test.YtojddklogigihaaGreatDoorO15
import Derived.Lib.LaidTab
import Derived.Lib.SmallJoins
namespace Go.Proofs.YtojddklogigihaaGreatDoor
open Go.RowKit Go.Lib Go.Shelf

theorem byte_info : (Tryz.prog.info? 5).map (fun i => (i.zero, i.size, i.bytes)) = some (some (.int .u8 0), 1, 1) := by kernel_rfl

theorem append_int (B : Nat) (i : Int) (hi : in64 i) (sv : Value) (t : List UInt8) (w : World) (hown : w.ownsRow B 5 1 sv t.length (Lib.byteCells t)) (hBw : B ≤ w.heap.size) (hlim : t.length + 21 ≤ 140737488355328)
    (htab : Lib.TabBelow Tryz.prog B w "internal/strconv.uint64pow10" .u64 Lib.pow10Tab) :
    Calls Tryz.prog 19 #[sv, .int .i64 i, .int .i64 10] w fun e w' => ∃ v', e = .returned v' ∧ TRow w' B 5 v' (t ++ itoa i) ∧ Below B w w' := by
  have h := Any.strconv_AppendInt_10 Tryz.lays176 B t.length i hi.1 hi.2 sv (Lib.byteCells t) w hown hBw hlim htab
  change Calls Tryz.prog 19 _ _ _ at h
  refine h.mono ?_
  rintro e w' ⟨v', rfl, h1, h2, -⟩
  exact ⟨v', rfl, .inl (by rw [List.length_append, Lib.byteCells_append]; exact h1), h2⟩

set_option maxRecDepth 100000 in
set_option maxHeartbeats 4000000 in
theorem ptext_any (w : World) (a : Outc) (x0 x1 x2 : Value) (ha : Rep.cells w (lt w.heap.size) a [x0, x1, x2]) (hok : okO a) (h20 : a.out.length ≤ 20) (k20 : a.fau.length ≤ 20)
    (htab : Lib.TabBelow Tryz.prog w.heap.size w "internal/strconv.uint64pow10" .u64 Lib.pow10Tab) :
    Calls Tryz.prog 10 #[.agg #[x0, x1, x2]] w (RetB (.string ⟨(txO a).toArray⟩) w) := by
  obtain ⟨i0, hi0, hi1, hi2, hi3⟩ := info_parts byte_info
  obtain ⟨A, n, c, C, m, d, ea, h1, h2, h3, h4, h5, h6⟩ := ha
  simp only [List.cons.injEq, and_true] at ea
  obtain ⟨rfl, rfl, rfl⟩ := ea
  have hln : a.out.length = n := h5.1
  have hlm : a.fau.length = m := h6.1
  have hn20 : n ≤ 20 := by omega
  have hm20 : m ≤ 20 := by omega
  have N20 := Lib.hid hn20
  have M20 := Lib.hid hm20
  have H5 := Lib.hid h5
  have H6 := Lib.hid h6
  have HL := Lib.hid hln
  have HM := Lib.hid hlm
  have HO := Lib.hid hok
  have HI := Lib.hid (And.intro hi0 (And.intro hi1 (And.intro hi2 hi3)))
  have HTB := Lib.hid htab
  have FL1 := Lib.hid (flat_len hok.1 h20)
  have FL2 := Lib.hid (flat_len hok.2 k20)
  obtain ⟨da, hda⟩ : ∃ da, da = a.dead := ⟨_, rfl⟩
  rw [← hda]
  have HD := Lib.hid hda
  clear h1 h2 h3 h4 h5 h6 hok h20 k20 hln hlm hda hi0 hi1 hi2 hi3 htab
  go_enter Tryz.func10, Tryz.ntmps10
  go_upto_region 1 with fail
  obtain ⟨w1, hw1⟩ : ∃ w1, w1 = w.alloc (.cells #[.slice A n c, .slice C m d, .bool da] 24) := ⟨_, rfl⟩
  rw [← hw1]
  have hbw : Below w.heap.size w w1 := by rw [hw1]; exact (Below.refl _ _).alloc (Nat.le_refl _) _
  have hk1 : Blk w1 w.heap.size 24 #[.slice A n c, .slice C m d, .bool da] := by rw [hw1]; exact Blk.new w _ _
  obtain ⟨g, hg⟩ : ∃ g, g = w.heap.size := ⟨_, rfl⟩
  rw [← hg] at hk1 ⊢
  have HB := Lib.hid hbw
  have HK := Lib.hid hk1
  have HG := Lib.hid hg
  have HTB1 : Hid (Lib.TabBelow Tryz.prog w1.heap.size w1 "internal/strconv.uint64pow10" .u64 Lib.pow10Tab) := Lib.hid (fun w' hb => HTB.out w' (hbw.trans (hb.mono hbw.size)))
  clear hw1 hk1 hbw hg
  have hcv := Go.Joins.run_convert_bytes_const_at (P := Tryz.prog) w1 50 5 #[.int .u8 111, .int .u8 117, .int .u8 116, .int .u8 112, .int .u8 117, .int .u8 116] 6 6 w1.heap.size rfl Tryz.underlying50 Tryz.underlying5
  go_upto_region 2 with fail
  clear hcv
  obtain ⟨w2, hw2⟩ : ∃ w2, w2 = w1.alloc (.cells #[.int .u8 111, .int .u8 117, .int .u8 116, .int .u8 112, .int .u8 117, .int .u8 116] 5 (6, 7)) := ⟨_, rfl⟩
  have e2 : w1.alloc (.cells #[.int .u8 111, .int .u8 117, .int .u8 116, .int .u8 112, .int .u8 117, .int .u8 116] 5 ((#[.int .u8 111, .int .u8 117, .int .u8 116, .int .u8 112, .int .u8 117, .int .u8 116] : Array Value).size, (#[.int .u8 111, .int .u8 117, .int .u8 116, .int .u8 112, .int .u8 117, .int .u8 116] : Array Value).size + 1)) = w2 := by rw [hw2]; rfl
  have hb2 : Below w1.heap.size w1 w2 := by rw [hw2]; exact (Below.refl _ _).alloc (Nat.le_refl _) _
  have ht2 : TRow w2 w1.heap.size 5 (.slice (some ⟨w1.heap.size, 0, none⟩) 6 6) Tx.hOut := .inr ⟨w1.heap.size, rfl, Nat.le_refl _, fun j u hu => by rw [hw2, Go.Joins.cell_alloc_mark_at _ _ _ _ _ _ rfl]; simpa [Lib.byteCells, Tx.hOut] using hu⟩
  obtain ⟨v2, hv2⟩ : ∃ v2, v2 = Value.slice (some ⟨w1.heap.size, 0, none⟩) 6 6 := ⟨_, rfl⟩
  have e2' : w1.alloc (.cells #[.int .u8 111, .int .u8 117, .int .u8 116, .int .u8 112, .int .u8 117, .int .u8 116] 5 (6, 7)) = w2 := hw2.symm
  rw [e2', ← hv2]
  rw [← hv2] at ht2
  have HT2 := Lib.hid ht2
  have HB2 := Lib.hid hb2
  have x0 : w2.cell? ⟨g, 0, none⟩ = some (.slice A n c) := (HK.out.below hb2 HK.out.lt).at_ 0 rfl
  clear hw2 e2 e2' hb2 ht2 hv2
  go_wp2
  go_loopw [13, 5, 3] (fun i _ v wr => ∃ (k : Nat) (t : List UInt8), k ≤ n ∧ i = .int .i64 k ∧ t = Tx.hOut ++ (a.out.take k).flatMap Tx.sp ∧ TRow wr w1.heap.size 5 v t ∧ Below w1.heap.size w1 wr) (fun i _ _ _ => n - (RowKit.intOf i).toNat)
  case atStart => exact ⟨0, Tx.hOut, Nat.zero_le _, rfl, by simp, HT2.out, HB2.out⟩
  case round =>
    obtain ⟨k, t, hk, rfl, ht, hT, hbr⟩ := hrel
    obtain ⟨w3, rfl⟩ : ∃ w3 : World, w3 = wr := ⟨_, rfl⟩
    obtain ⟨v3, rfl⟩ : ∃ v3 : Value, v3 = u3 := ⟨_, rfl⟩
    have tl : t.length ≤ 446 := by rw [ht, List.length_append]; have := FL1.out k; show 6 + _ ≤ 446; omega
    have HT := Lib.hid ht
    have HR := Lib.hid hT
    have HB3 := Lib.hid hbr
    have TL := Lib.hid tl
    clear ht hT hbr tl x0
    by_cases hlt : k < n
    · obtain ⟨b, o, rfl, hb, x, hx1, hcell⟩ := H5.out.int hlt
      have hx64 := HO.out.1 x (List.mem_of_getElem? hx1)
      have hc3 : w3.cell? ⟨b, o + k, none⟩ = some (.int .i64 x) := (HB3.out.cell (p := ⟨b, o + k, none⟩) (Nat.lt_of_lt_of_le hb HB.out.size)).trans ((HB.out.cell (p := ⟨b, o + k, none⟩) hb).trans hcell)
      have HX := Lib.hid hx1
      have HX64 := Lib.hid hx64
      have IL := Lib.hid (itoa_length_le x hx64.1 hx64.2)
      clear hx1 hcell hx64
      go_wp2_with (at_builtin; refine wpList_tapp rfl (.tmp 17) (.tmp 18) 50 rfl w1.heap.size 5 i0 Tryz.underlying50 HI.out.1 HI.out.2.1 HI.out.2.2.1 HI.out.2.2.2 v3 t (HR.out.alloc _) rfl ⟨w3.heap.size, 0, none⟩ 1 1 [32] rfl rfl (by decide) (by intro j y hj; match j, hj with | 0, hj => simp [Lib.byteCells] at hj; subst hj; simp [Addr.add]) (by have := TL.out; simp; omega) (by have := HB3.out.size; simp; omega) ?_)
      intro v4 w4 hown4 hb4
      have HO4 : Hid (w4.ownsRow w1.heap.size 5 1 v4 (t ++ [32]).length (Lib.byteCells (t ++ [32]))) := Lib.hid (by rw [List.length_append]; exact hown4)
      have HB4 := Lib.hid ((HB3.out.alloc HB3.out.size _).trans hb4)
      have TB4 := Lib.hid (HTB1.out.on HB4.out)
      clear hown4 hb4
      go_wp2_with (go_at_call 19; refine (append_int w1.heap.size x HX64.out v4 (t ++ [32]) w4 HO4.out HB4.out.size (by have := TL.out; simp; omega) TB4.out).mono ?_; rintro e w5 ⟨v5, rfl, hown5, hb5⟩; refine Hid.out ?_)
      refine Lib.hid ?_
      have HR5 : Hid (TRow w5 w1.heap.size 5 v5 (t ++ [32] ++ itoa x)) := Lib.hid hown5
      have HB5 := Lib.hid (HB4.out.trans hb5)
      have HT5 : Hid (t ++ [32] ++ itoa x = Tx.hOut ++ (a.out.take (k + 1)).flatMap Tx.sp) := Lib.hid (by rw [HT.out, flat_take HX.out]; simp)
      clear hown5 hb5
      go_wp2
      go_roundw
      case rel => exact ⟨k + 1, _, by omega, by go_num, HT5.out, HR5.out, HB5.out⟩
      case measure => simp [RowKit.intOf]; omega
    · have hb1 : decide ((k : Int) < (n : Int)) = false := by simp; omega
      have HT0 : Hid (t = Tx.hOut ++ a.out.flatMap Tx.sp) := Lib.hid (by rw [HT.out, flat_all (by rw [HL.out]; omega)])
      have y1 : w3.cell? ⟨g, 1, none⟩ = some (.slice C m d) := (HK.out.below HB3.out HK.out.lt).at_ 1 rfl
      go_wp2_with (at_builtin; refine wpList_tstr rfl (.tmp 23) (.const (.string ⟨#[59, 32, 102, 97, 117, 108, 116, 115]⟩)) 50 9 rfl w1.heap.size 5 i0 Tryz.underlying50 Tryz.underlying9 HI.out.1 HI.out.2.1 HI.out.2.2.1 HI.out.2.2.2 v3 t HR.out rfl Tx.hFau rfl (by decide) (by have := TL.out; simp [Tx.hFau]; omega) HB3.out.size ?_)
      intro v4 w4 hown4 hb4
      have HR4 : Hid (TRow w4 w1.heap.size 5 v4 (t ++ Tx.hFau)) := Lib.hid (.inl (by rw [List.length_append]; exact hown4))
      have HB4 := Lib.hid (HB3.out.trans hb4)
      obtain ⟨t3, ht3⟩ : ∃ t3, t3 = t ++ Tx.hFau := ⟨_, rfl⟩
      rw [← ht3] at HR4
      have HT3 : Hid (t3 = Tx.hOut ++ a.out.flatMap Tx.sp ++ Tx.hFau) := Lib.hid (by rw [ht3, HT0.out])
      have T3L : Hid (t3.length ≤ 454) := Lib.hid (by have := TL.out; rw [ht3]; simp [Tx.hFau]; omega)
      have y1 : w4.cell? ⟨g, 1, none⟩ = some (.slice C m d) := (HK.out.below HB4.out HK.out.lt).at_ 1 rfl
      clear hown4 hb4 ht3 hb1 HT HR HT0
      go_wp2
      go_loopw [28, 7, 3] (fun i _ v wr => ∃ (k : Nat) (t : List UInt8), k ≤ m ∧ i = .int .i64 k ∧ t = t3 ++ (a.fau.take k).flatMap Tx.sp ∧ TRow wr w1.heap.size 5 v t ∧ Below w1.heap.size w1 wr) (fun i _ _ _ => m - (RowKit.intOf i).toNat)
      case atStart => exact ⟨0, t3, Nat.zero_le _, rfl, by simp, HR4.out, HB4.out⟩
      case round =>
        obtain ⟨j, s, hj, rfl, hs, hS, hbr⟩ := hrel
        obtain ⟨w5, rfl⟩ : ∃ w5 : World, w5 = wr := ⟨_, rfl⟩
        obtain ⟨v5, rfl⟩ : ∃ v5 : Value, v5 = u3 := ⟨_, rfl⟩
        have sl : s.length ≤ 894 := by rw [hs, List.length_append]; have := FL2.out j; have := T3L.out; omega
        have HT := Lib.hid hs
        have HR := Lib.hid hS
        have HB5 := Lib.hid hbr
        have TL := Lib.hid sl
        clear hs hS hbr sl y1
        by_cases hjt : j < m
        · obtain ⟨b, o, rfl, hb, x, hx1, hcell⟩ := H6.out.int hjt
          have hx64 := HO.out.2 x (List.mem_of_getElem? hx1)
          have hc3 : w5.cell? ⟨b, o + j, none⟩ = some (.int .i64 x) := (HB5.out.cell (p := ⟨b, o + j, none⟩) (Nat.lt_of_lt_of_le hb HB.out.size)).trans ((HB.out.cell (p := ⟨b, o + j, none⟩) hb).trans hcell)
          have HX := Lib.hid hx1
          have HX64 := Lib.hid hx64
          have IL := Lib.hid (itoa_length_le x hx64.1 hx64.2)
          clear hx1 hcell hx64
          go_wp2_with (at_builtin; refine wpList_tapp rfl (.tmp 32) (.tmp 33) 50 rfl w1.heap.size 5 i0 Tryz.underlying50 HI.out.1 HI.out.2.1 HI.out.2.2.1 HI.out.2.2.2 v5 s (HR.out.alloc _) rfl ⟨w5.heap.size, 0, none⟩ 1 1 [32] rfl rfl (by decide) (by intro j y hj; match j, hj with | 0, hj => simp [Lib.byteCells] at hj; subst hj; simp [Addr.add]) (by have := TL.out; simp; omega) (by have := HB5.out.size; simp; omega) ?_)
          intro v6 w6 hown6 hb6
          have HO6 : Hid (w6.ownsRow w1.heap.size 5 1 v6 (s ++ [32]).length (Lib.byteCells (s ++ [32]))) := Lib.hid (by rw [List.length_append]; exact hown6)
          have HB6 := Lib.hid ((HB5.out.alloc HB5.out.size _).trans hb6)
          have TB6 := Lib.hid (HTB1.out.on HB6.out)
          clear hown6 hb6
          go_wp2_with (go_at_call 19; refine (append_int w1.heap.size x HX64.out v6 (s ++ [32]) w6 HO6.out HB6.out.size (by have := TL.out; simp; omega) TB6.out).mono ?_; rintro e w7 ⟨v7, rfl, hown7, hb7⟩; refine Hid.out ?_)
          refine Lib.hid ?_
          have HR7 : Hid (TRow w7 w1.heap.size 5 v7 (s ++ [32] ++ itoa x)) := Lib.hid hown7
          have HB7 := Lib.hid (HB6.out.trans hb7)
          have HT7 : Hid (s ++ [32] ++ itoa x = t3 ++ (a.fau.take (j + 1)).flatMap Tx.sp) := Lib.hid (by rw [HT.out, flat_take HX.out]; simp)
          clear hown7 hb7
          go_wp2
          go_roundw
          case rel => exact ⟨j + 1, _, by omega, by go_num, HT7.out, HR7.out, HB7.out⟩
          case measure => simp [RowKit.intOf]; omega
        · have hb2 : decide ((j : Int) < (m : Int)) = false := by simp; omega
          have y2 : w5.cell? ⟨g, 2, none⟩ = some (.bool da) := (HK.out.below HB5.out HK.out.lt).at_ 2 rfl
          have HS0 : Hid (s = Tx.hOut ++ a.out.flatMap Tx.sp ++ Tx.hFau ++ a.fau.flatMap Tx.sp) := Lib.hid (by rw [HT.out, flat_all (by rw [HM.out]; omega), HT3.out])
          cases da
          · have hcv := run_tconv (P := Tryz.prog) (w := w5) 50 9 5 Tryz.underlying50 Tryz.underlying5 Tryz.underlying9 w1.heap.size v5 s HR.out (by rw [HS0.out]; simp [Tx.hOut])
            go_wp2
            go_ret
            exact RetB.mk (by rw [HS0.out, txO, Tx.txtOf, ← HD.out]; simp [Tx.deadB]) (HB.out.trans (HB5.out.mono HB.out.size))
          · go_wp2_with (at_builtin; refine wpList_tstr rfl (.tmp 40) (.const (.string ⟨#[59, 32, 100, 101, 97, 100, 108, 111, 99, 107]⟩)) 50 9 rfl w1.heap.size 5 i0 Tryz.underlying50 Tryz.underlying9 HI.out.1 HI.out.2.1 HI.out.2.2.1 HI.out.2.2.2 v5 s HR.out rfl Tx.hDead rfl (by decide) (by have := TL.out; simp [Tx.hDead]; omega) HB5.out.size ?_)
            intro v6 w6 hown6 hb6
            have HR6 : Hid (TRow w6 w1.heap.size 5 v6 (s ++ Tx.hDead)) := Lib.hid (.inl (by rw [List.length_append]; exact hown6))
            have HB6 := Lib.hid (HB5.out.trans hb6)
            obtain ⟨s3, hs3⟩ : ∃ s3, s3 = s ++ Tx.hDead := ⟨_, rfl⟩
            rw [← hs3] at HR6
            have HS3 : Hid (s3 = Tx.hOut ++ a.out.flatMap Tx.sp ++ Tx.hFau ++ a.fau.flatMap Tx.sp ++ Tx.hDead) := Lib.hid (by rw [hs3, HS0.out])
            have hcv := run_tconv (P := Tryz.prog) (w := w6) 50 9 5 Tryz.underlying50 Tryz.underlying5 Tryz.underlying9 w1.heap.size v6 s3 HR6.out (by rw [HS3.out]; simp [Tx.hOut])
            clear hs3 hown6 hb6
            go_wp2
            go_ret
            exact RetB.mk (by rw [HS3.out, txO, Tx.txtOf, ← HD.out]; simp [Tx.deadB]) (HB.out.trans (HB6.out.mono HB.out.size))
end Go.Proofs.YtojddklogigihaaGreatDoor

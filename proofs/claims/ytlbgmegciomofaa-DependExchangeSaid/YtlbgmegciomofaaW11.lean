/- The reference's Least: the least linearization, the steps themselves. -/
import Derived.Test.YtlbgmegciomofaaW10
import Derived.Test.YtlbgmegciomofaaP2
namespace Go.Proofs.Ytlbgmegciomofaa
open Go.RowKit

theorem rep_step {w : World} {F : Nat → Prop} {s : Step} {G T : Option Addr} {p c m d : Nat} (h1 : p ≤ c) (h2 : c ≤ maxLen) (h3 : m ≤ d) (h4 : d ≤ maxLen) (sg : Sl w F G p s.gs) (st : Sl w F T m s.touches) :
    Rep.cells w F s [.int .i64 s.g, .int .i64 s.case_, .slice G p c, .slice T m d] := ⟨G, p, c, T, m, d, rfl, h1, h2, h3, h4, sg, st⟩

set_option maxHeartbeats 4000000 in
theorem least_any (w : World) (B n c : Nat) (A : Option Addr) (l : List Step) (hl : Sl w (lt B) A n l) (hn : n ≤ 65536) (hB : B ≤ w.heap.size) :
    Calls Try.prog 18 #[.slice A n c] w (RetO 27 (lt B) (linS l) w) := by
  have hlen : Hid (l.length = n) := hl.1
  have hmk := run_bools n hn
  obtain ⟨i0, hi, hz0, hz1, hz2⟩ := info_parts info_step
  have HI := Lib.hid (And.intro hi (And.intro hz0 (And.intro hz1 hz2)))
  clear hi hz0 hz1 hz2
  go_enter Try.func18, Try.ntmps18
  go_wp2
  go_loopw [5, 4] (fun i out wr => ∃ r : Nat, r ≤ n ∧ i = .int .i64 r ∧ Own wr w.heap.size 27 (lt B) out ((outTo l r).map (stepAt l)) ∧ Below w.heap.size w wr ∧
    Blk wr w.heap.size 4 (boolCells (chosenTo l r))) (fun i _ _ => n - (intOf i).toNat)
  case atStart =>
    refine ⟨0, Nat.zero_le _, rfl, Own.nil _ _ _ _, (Below.refl _ _).alloc (Nat.le_refl _) _, ?_⟩
    have h1 : chosenTo l 0 = List.replicate n false := by unfold chosenTo; rw [hlen.out]
    rw [h1]
    exact Blk.new w _ _
  case round =>
    obtain ⟨w2, rfl⟩ : ∃ w2 : World, w2 = wr := ⟨_, rfl⟩
    obtain ⟨r, hr, rfl, hown, hb2, hc2⟩ := hrel
    clear hmk
    by_cases hlt : r < n
    · obtain ⟨ch, hch⟩ : ∃ ch, ch = chosenTo l r := ⟨_, rfl⟩
      have hchl : Hid (ch.length = n) := by rw [hch, chosenTo_length]; exact hlen.out
      rw [← hch] at hc2
      have HCH := Lib.hid hch
      clear hch
      have hlc : w.heap.size < w2.heap.size := hc2.lt
      have hz2 := hb2.size
      go_wp2
      go_loopw [7, 6] (fun i best wq => ∃ k : Nat, k ≤ n ∧ i = .int .i64 k ∧ best = .int .i64 (bestTo l ch k) ∧ Below w2.heap.size w2 wq) (fun i _ _ => n - (intOf i).toNat)
      case atStart => exact ⟨0, Nat.zero_le _, rfl, rfl, Below.refl _ _⟩
      case round =>
        obtain ⟨w3, rfl⟩ : ∃ w3 : World, w3 = wr := ⟨_, rfl⟩
        obtain ⟨k, hk, rfl, rfl, hb3⟩ := hrel
        have hz3 := hb3.size
        have hc3 := hc2.below hb3 hc2.lt
        by_cases hlk : k < n
        · have ec : w3.cell? ⟨w.heap.size, k, none⟩ = some (.bool (ch.getD k false)) := (hc3.cell k).trans (boolCells_get (by rw [hchl.out]; exact hlk))
          obtain ⟨bv, hbv⟩ : ∃ bv, bv = ch.getD k false := ⟨_, rfl⟩
          rw [← hbv] at ec
          have HBV := Lib.hid hbv
          clear hbv
          go_wp2
          go_loopw [9, 8] (fun i fr wq => ∃ q : Nat, q ≤ k ∧ i = .int .i64 q ∧ fr = .bool (freeTo l ch k q) ∧ Below w3.heap.size w3 wq) (fun i _ _ => k - (intOf i).toNat)
          case atStart => exact ⟨0, Nat.zero_le _, rfl, by rw [freeTo_zero, ← HBV.out], Below.refl _ _⟩
          case round =>
            obtain ⟨w4, rfl⟩ : ∃ w4 : World, w4 = wr := ⟨_, rfl⟩
            obtain ⟨q, hq, rfl, rfl, hb4⟩ := hrel
            have hz4 := hb4.size
            have hbw : Below B w w4 := (hb2.trans ((hb3.mono hz2).trans (hb4.mono (by omega)))).mono hB
            have hc4 := hc3.below hb4 hc3.lt
            clear ec
            by_cases hlq : q < k
            · have hqn : q < n := by omega
              obtain ⟨bl, ol, hA, hbb, G, p, c1, T, m, d1, hp, hc1, hm, hd1, sg, st, e0, e1, e2, e3⟩ := (hl.below hbw).step hqn
              subst hA
              obtain ⟨bl', ol', hA', -, G', p', c1', T', m', d1', hp', hc1', hm', hd1', sg', st', f0, f1, f2, f3⟩ := (hl.below hbw).step hlk
              injection hA' with hA'
              injection hA' with hA1 hA2
              subst hA1
              subst hA2
              have ec4 : w4.cell? ⟨w.heap.size, q, none⟩ = some (.bool (ch.getD q false)) := (hc4.cell q).trans (boolCells_get (by rw [hchl.out]; exact hqn))
              cases hcv : ch.getD q false with
              | true =>
                rw [hcv] at ec4
                have HCV := Lib.hid hcv
                clear hcv sg st sg' st'
                go_wp2
                go_quiet (fail)
                go_wp2
                go_roundw
                case rel => exact ⟨q + 1, by omega, by go_num, by rw [freeTo_skip (.inl HCV.out)], below_drewN hb4 _⟩
                case measure => simp [intOf]; omega
              | false =>
                rw [hcv] at ec4
                have HCV := Lib.hid hcv
                clear hcv
                have HC := Lib.hid (refDependent_s w4.drew B (stepAt l q) (stepAt l k) sg st sg' st' hp hc1 hm hd1 hp' hc1' hm' hd1' (by show B ≤ w4.heap.size; omega))
                clear sg st sg' st' hc1 hd1 hc1' hd1'
                go_wp2
                refine region_still_tail 14 (by kernel_rfl) (by kernel_rfl) ?_
                simp only [List.take_succ_cons, List.take_zero, List.drop_succ_cons, List.drop_zero]
                iterate 14 (refine wpStill_step (fun K hK => ?_); go_simp; refine hK _ ?_; clear hK K)
                refine wpStill_nil ?_
                clear e0 e1 e2 e3 f0 f1 f2 f3
                cases hd : dep (stepAt l q) (stepAt l k) with
                | true =>
                  rw [hd] at HC
                  have HD := Lib.hid hd
                  clear hd
                  go_wp2_with (go_at_call 10; refine HC.out.mono ?_; rintro e w5 ⟨rfl, hb5⟩)
                  go_roundw
                  case rel => exact ⟨q + 1, by omega, by go_num, by rw [freeTo_stop HCV.out HD.out], hb4.trans ((below_drewL hb5).mono hz4)⟩
                  case measure => simp [intOf]; omega
                | false =>
                  rw [hd] at HC
                  have HD := Lib.hid hd
                  clear hd
                  go_wp2_with (go_at_call 10; refine HC.out.mono ?_; rintro e w5 ⟨rfl, hb5⟩)
                  go_roundw
                  case rel => exact ⟨q + 1, by omega, by go_num, by rw [freeTo_skip (.inr HD.out)], hb4.trans ((below_drewL hb5).mono hz4)⟩
                  case measure => simp [intOf]; omega
            · obtain rfl : q = k := by omega
              clear hlq
              have hb5 : Below w2.heap.size w2 w4 := hb3.trans (hb4.mono hz3)
              obtain ⟨bl, ol, hA, hbb, G, p, c1, T, m, d1, -, -, -, -, -, -, e0, e1, -, -⟩ := (hl.below hbw).step hlk
              subst hA
              cases hfv : freeTo l ch q q with
              | false =>
                have HFV := Lib.hid hfv
                clear hfv
                go_wp2
                go_quiet (fail)
                go_wp2
                go_roundw
                case rel => exact ⟨q + 1, by omega, by go_num, by rw [best_wait HFV.out], below_drewN hb5 _⟩
                case measure => simp [intOf]; omega
              | true =>
                have HFV := Lib.hid (free_both hfv)
                clear hfv
                by_cases hbz : bestTo l ch q < 0
                · have dneg : decide (bestTo l ch q < 0) = true := decide_eq_true hbz
                  go_wp2
                  go_quiet (fail)
                  go_wp2
                  go_roundw
                  case rel => exact ⟨q + 1, by omega, by go_num, by rw [best_first HFV.out.1 HFV.out.2 hbz], below_drewN hb5 _⟩
                  case measure => simp [intOf]; omega
                · obtain ⟨mm, hmm⟩ : ∃ mm : Nat, bestTo l ch q = (mm : Int) := ⟨(bestTo l ch q).toNat, by omega⟩
                  have hmk : mm < q := by have := bestTo_lt l ch q; omega
                  rw [hmm]
                  have HMM := Lib.hid hmm
                  clear hmm hbz
                  have hmq : mm < n := by omega
                  have dneg : decide ((mm : Int) < 0) = false := decide_eq_false (by omega)
                  obtain ⟨bl', ol', hA', -, G', p', c1', T', m', d1', -, -, -, -, -, -, g0, g1, -, -⟩ := (hl.below hbw).step hmq
                  injection hA' with hA'
                  injection hA' with hA1 hA2
                  subst hA1
                  subst hA2
                  go_wp2
                  refine region_still_tail 15 (by kernel_rfl) (by kernel_rfl) ?_
                  simp only [List.take_succ_cons, List.take_zero, List.drop_succ_cons, List.drop_zero]
                  iterate 15 (refine wpStill_step (fun K hK => ?_); go_simp; refine hK _ ?_; clear hK K)
                  refine wpStill_nil ?_
                  clear e0 e1 g0 g1
                  cases hlb : lessP (stepAt l q) (stepAt l mm) with
                  | true =>
                    have HC := Lib.hid (less_s w4.drew (stepAt l q) (stepAt l mm) hlb)
                    have HLB := Lib.hid hlb
                    clear hlb
                    go_wp2_with (go_at_call 27; refine HC.out.mono ?_; rintro e w5 ⟨rfl, hb6⟩)
                    go_roundw
                    case rel => exact ⟨q + 1, by omega, by go_num, by rw [best_less HFV.out.1 HFV.out.2 HMM.out HLB.out], hb5.trans ((below_drewL hb6).mono (by show w2.heap.size ≤ w4.heap.size; omega))⟩
                    case measure => simp [intOf]; omega
                  | false =>
                    have HC := Lib.hid (less_s w4.drew (stepAt l q) (stepAt l mm) hlb)
                    have HLB := Lib.hid hlb
                    clear hlb
                    go_wp2_with (go_at_call 27; refine HC.out.mono ?_; rintro e w5 ⟨rfl, hb6⟩)
                    go_roundw
                    case rel => exact ⟨q + 1, by omega, by go_num, by rw [best_more HFV.out.1 HFV.out.2 HMM.out HLB.out], hb5.trans ((below_drewL hb6).mono (by show w2.heap.size ≤ w4.heap.size; omega))⟩
                    case measure => simp [intOf]; omega
        · obtain rfl : k = n := by omega
          clear hlk
          have hrl : r < l.length := by rw [hlen.out]; exact hlt
          obtain ⟨mm, hmm⟩ : ∃ mm : Nat, mm = outAt l r := ⟨_, rfl⟩
          have hbm : bestTo l ch k = (mm : Int) := by rw [HCH.out, hmm, ← best_eq hrl, hlen.out]
          have hmk : mm < k := by have := outAt_lt hrl; rw [hlen.out] at this; omega
          rw [hbm]
          have HMM := Lib.hid hmm
          clear hmm hbm
          have hbw : Below B w w3 := (hb2.trans (hb3.mono hz2)).mono hB
          obtain ⟨bl, ol, hA, hbb, G, p, c1, T, m, d1, hp, hc1, hm, hd1, sg, st, e0, e1, e2, e3⟩ := (hl.below hbw).step hmk
          subst hA
          have hbn : bl ≠ w.heap.size := by have : bl < B := hbb; omega
          have hblw : bl < w3.heap.size := by have : bl < B := hbb; omega
          have s1 : w3.cell? ⟨w.heap.size, mm, none⟩ = some (.bool (ch.getD mm false)) := (hc3.cell mm).trans (boolCells_get (by rw [hchl.out]; exact hmk))
          have s2 : w3.frozen? ⟨w.heap.size, mm, none⟩ = false := hc3.frozen mm
          have hfar : ∀ b o, b < B → (w3.setCell ⟨w.heap.size, mm, none⟩ (.bool true)).cell? ⟨b, o, none⟩ = w3.cell? ⟨b, o, none⟩ := fun b o hb => World.cell?_setCell_other w3 _ _ _ (fun e => by injection e with e; omega)
          have hfar' : ∀ q : Addr, lt B q.block → (w3.setCell ⟨w.heap.size, mm, none⟩ (.bool true)).cell? q = w3.cell? q := fun q hq => World.cell?_setCell_other w3 _ _ _ (fun e => by have h1 : q.block < B := hq; rw [← e] at h1; exact absurd h1 (by show ¬ w.heap.size < B; omega))
          have g0 := (hfar bl (ol + mm * 4) hbb).trans e0
          have g1 := (hfar bl (ol + mm * 4 + 1) hbb).trans e1
          have g2 := (hfar bl (ol + mm * 4 + 2) hbb).trans e2
          have g3 := (hfar bl (ol + mm * 4 + 3) hbb).trans e3
          have hF : ∀ b, lt B b → b < w2.heap.size := fun b hb => by have : b < B := hb; omega
          have hown3 := hown.ext hb3 hF
          have hnc := hown3.ne hc3 (by decide)
          have hown4 := hown3.setCell (p := ⟨w.heap.size, mm, none⟩) (.bool true) (by show ¬ w.heap.size < B; omega) hnc
          have hb4 : Below w.heap.size w (w3.setCell ⟨w.heap.size, mm, none⟩ (.bool true)) := (hb2.trans (hb3.mono hz2)).setCell (Nat.le_refl _) _
          have hs4 : w.heap.size ≤ (w3.setCell ⟨w.heap.size, mm, none⟩ (.bool true)).heap.size := hb4.size
          have HO := Lib.hid (hown4.alloc (.cells #[.int .i64 (stepAt l mm).g, .int .i64 (stepAt l mm).case_, .slice G p c1, .slice T m d1] 27) (fun b hb => by have : b < B := hb; omega))
          have HBO := Lib.hid (hb4.alloc hs4 (.cells #[.int .i64 (stepAt l mm).g, .int .i64 (stepAt l mm).case_, .slice G p c1, .slice T m d1] 27))
          have hbel : Below B (w3.setCell ⟨w.heap.size, mm, none⟩ (.bool true)) ((w3.setCell ⟨w.heap.size, mm, none⟩ (.bool true)).alloc (.cells #[.int .i64 (stepAt l mm).g, .int .i64 (stepAt l mm).case_, .slice G p c1, .slice T m d1] 27)) := (Below.refl _ _).alloc (by omega) _
          have HR := Lib.hid (rep_step hp hc1 hm hd1 ((sg.keep hfar').below hbel) ((st.keep hfar').below hbel))
          have HC := Lib.hid ((hc3.set_ mm (.bool true)).alloc (.cells #[.int .i64 (stepAt l mm).g, .int .i64 (stepAt l mm).case_, .slice G p c1, .slice T m d1] 27))
          have hxl : ((outTo l r).map (stepAt l)).length ≤ 65536 := by rw [List.length_map, outTo_length]; omega
          clear hown hown3 hown4 hnc hb4 hs4 hfar hfar' sg st hc1 hd1 hbel hF e0 e1 e2 e3
          go_wp2_with (at_builtin; refine wpList_push (α := Step) rfl (.tmp 73) (.tmp 78) 30 rfl w.heap.size 27 i0 (.agg #[.int .i64 0, .int .i64 0, .slice none 0 0, .slice none 0 0]) 64 Try.underlying30 HI.out.1 HI.out.2.1 HI.out.2.2.1 HI.out.2.2.2 rfl (by decide) (lt B) _ _ (stepAt l mm) [.int .i64 (stepAt l mm).g, .int .i64 (stepAt l mm).case_, .slice G p c1, .slice T m d1] _ 1 rfl HO.out rfl HR.out (cell_new (w3.setCell ⟨w.heap.size, mm, none⟩ (.bool true)) #[.int .i64 (stepAt l mm).g, .int .i64 (stepAt l mm).case_, .slice G p c1, .slice T m d1] 27 (by simp [World.setCell])) (by simp [Value.oneCell']) (fun b hb => Nat.lt_of_lt_of_le hb hB) HBO.out.size (by unfold maxLen; omega) (by omega) ?_; intro v1 w5 hown5 hg5 hat5)
          go_roundw
          case rel =>
            refine ⟨r + 1, by omega, by go_num, ?_, own_below HO.out HBO.out hg5 (Nat.le_refl _) HBO.out.size, ?_⟩
            · rw [outTo_succ, List.map_append, ← HMM.out]
              exact hown5
            · have := HC.out.grown hg5 (HO.out.ne HC.out (by decide))
              rw [boolCells_set, HCH.out, HMM.out] at this
              exact this
          case measure => simp [intOf]; omega
    · obtain rfl : r = n := by omega
      go_wp2
      go_ret
      exact RetO.mk hb2 (by unfold linS; rw [hlen.out]; exact hown)

end Go.Proofs.Ytlbgmegciomofaa

/- order: the least linearization. -/
import Derived.Test.YtlbgmegciomofaaW7
namespace Go.Proofs.Ytlbgmegciomofaa
open Go.RowKit

theorem false_lt {B : Nat} : ∀ b : Nat, (fun _ => False) b → b < B := fun _ h => h.elim

theorem Own.base {α : Type} [Rep α] {w : World} {base base' : Nat} {E : TypeId} {F : Nat → Prop} {v : Value} {xs : List α} (h : Own w base E F v xs) (hb : base' ≤ base) : Own w base' E F v xs := by
  obtain ⟨vs, ⟨hl, ho⟩, he⟩ := h
  refine ⟨vs, ⟨hl, ?_⟩, he⟩
  rcases ho with ho | ⟨g, cap, cur, h1, h2, r⟩
  · exact .inl ho
  · exact .inr ⟨g, cap, cur, h1, by omega, r⟩
theorem own_below {α : Type} [Rep α] {w w' : World} {base : Nat} {E : TypeId} {F : Nat → Prop} {v : Value} {xs : List α} {B : Nat} {a : World} (h : Own w base E F v xs) (hb : Below B a w) (hg : w.grownBy w' v.ownBlock) (hB : B ≤ base) (hBw : B ≤ w.heap.size) : Below B a w' :=
  hb.grown hg hBw fun _ hk => Nat.le_trans hB (h.lt_ hk).1
theorem cell_alloc {w : World} {b o : Nat} {v : Value} (h : w.cell? ⟨b, o, none⟩ = some v) (hb : b < w.heap.size) (O : Obj) : (w.alloc O).cell? ⟨b, o, none⟩ = some v := (World.cell?_alloc_lt w O _ hb).trans h
theorem sl_two {W : World} {g : Nat} {x y : Int} (h0 : W.cell? ⟨g, 0, none⟩ = some (.int .i64 x)) (h1 : W.cell? ⟨g, 1, none⟩ = some (.int .i64 y)) : Sl W (fun _ => True) (some ⟨g, 0, none⟩) 2 [x, y] := by
  refine ⟨rfl, fun _ => ⟨g, 0, rfl, trivial, fun i z hz => ⟨[.int .i64 z], rfl, fun j v hj => ?_⟩⟩⟩
  cases j with
  | succ j => simp at hj
  | zero =>
    simp only [List.getElem?_cons_zero, Option.some.injEq] at hj
    subst hj
    match i, hz with
    | 0, hz => simp at hz; subst hz; exact h0
    | 1, hz => simp at hz; subst hz; exact h1
theorem free_s (w : World) (B : Nat) {ca la : Nat} {A C : Option Addr} {n c c' : Nat} {l : List Step} {ch : List Bool} {i : Nat} {b : Bool} (hb : freeI l ch i = b)
    (hca : w.cell? ⟨ca, 0, none⟩ = some (.slice C n c')) (hla : w.cell? ⟨la, 0, none⟩ = some (.slice A n c)) (hl : Sl w (lt B) A n l) (hc : Sl w (lt w.heap.size) C n ch) (hi : i < n) (hmx : n ≤ 65536)
    (hB : B ≤ w.heap.size) (hcb : ca < w.heap.size) (hlb : la < w.heap.size) :
    Calls Try.prog 31 #[.int .i64 i, .pointer (some ⟨ca, 0, none⟩), .pointer (some ⟨la, 0, none⟩)] w (RetB (.bool b) w) :=
  hb ▸ free_any w w.heap.size ca la A C n c n c' l ch i hca hla (hl.mono hB) hc hi rfl hmx (Nat.le_refl _) hcb hlb

set_option maxHeartbeats 4000000 in
theorem order_yes (w : World) (B n c : Nat) (A : Option Addr) (l : List Step) (hl : Sl w (lt B) A n l) (hn : n ≤ 65536) (hv : validA l = true) (hB : B ≤ w.heap.size) :
    Calls Try.prog 23 #[.slice A n c] w (OrderYes l n w) := by
  have hlen : Hid (l.length = n) := hl.1
  have HV := Lib.hid hv
  clear hv
  have hmk := run_bools n hn
  obtain ⟨i0, hi, hz0, hz1, hz2⟩ := info_parts info_int
  have HI := Lib.hid (And.intro hi (And.intro hz0 (And.intro hz1 hz2)))
  clear hi hz0 hz1 hz2
  go_enter Try.func23, Try.ntmps23
  go_wp2
  go_loopw [14, 5] (fun i _ wr => ∃ q : Nat, q ≤ n ∧ i = .int .i64 q ∧ Below w.heap.size w wr ∧ Blk wr w.heap.size 30 #[.slice A n c]) (fun i _ _ => n - (intOf i).toNat)
  case atStart => exact ⟨0, Nat.zero_le _, rfl, (Below.refl _ _).alloc (Nat.le_refl _) _, Blk.new _ _ _⟩
  case round =>
    obtain ⟨w1, rfl⟩ : ∃ w1 : World, w1 = wr := ⟨_, rfl⟩
    obtain ⟨q, hq, rfl, hb1, hx⟩ := hrel
    have hz := hb1.size
    by_cases hlt : q < n
    · obtain ⟨b, o, rfl, hbb, G, p, c1, T, m, d1, hp, hc1, hm, hd1, sg, st, e0, e1, e2, e3⟩ := (hl.below (hb1.mono hB)).step hlt
      have hbe : ∀ O, Below w.heap.size w (w1.alloc O) := hb1.alloc hz
      have hxe := fun O => hx.alloc O
      have HC := Lib.hid fun O => valid_s (w1.alloc O) B (stepAt l q) (validA_at HV.out (by rw [hlen.out]; exact hlt)) (T := T) (m := m) (d := d1) (sg.below ((Below.refl _ _).alloc (Nat.le_trans hB hz) O)) hp hc1 (by simp; omega)
      clear sg st hc1 hd1 hmk
      go_wp2_with (go_at_call 30; refine (HC.out _).mono ?_; rintro e w2 ⟨rfl, hb2⟩)
      go_roundw
      case rel => exact ⟨q + 1, by omega, by go_num, (hbe _).trans (hb2.mono (by simp; omega)), (hxe _).below hb2 (by simp; omega)⟩
      case measure => simp [intOf]; omega
    · obtain rfl : q = n := by omega
      have b0 : w1.cell? ⟨w.heap.size, 0, none⟩ = some (.slice A q c) := hx.at_ 0 rfl
      have hzz : w.heap.size < w1.heap.size := hx.lt
      clear hlt
      go_wp2
      go_loopw [28, 8] (fun i out wr => ∃ r : Nat, r ≤ q ∧ i = .int .i64 r ∧ Own wr w.heap.size 3 (fun _ => False) out ((outTo l r).map (fun i : Nat => (i : Int))) ∧ Below w.heap.size w wr ∧
        Blk wr w.heap.size 30 #[.slice A q c] ∧ Blk wr (w1.heap.size + 1) 45 #[.slice (some ⟨w1.heap.size, 0, none⟩) q q] ∧ Blk wr w1.heap.size 4 (boolCells (chosenTo l r))) (fun i _ _ => q - (intOf i).toNat)
      case atStart =>
        refine ⟨0, Nat.zero_le _, rfl, Own.nil _ _ _ _, (hb1.alloc hz _).alloc (by simp; omega) _, (hx.alloc _).alloc _, ?_, ?_⟩
        · have := Blk.new (w1.alloc (.cells (boolCells (List.replicate q false)) 4)) 45 #[.slice (some ⟨w1.heap.size, 0, none⟩) q q]
          simpa using this
        · have h1 : chosenTo l 0 = List.replicate q false := by unfold chosenTo; rw [hlen.out]
          rw [h1]
          exact (Blk.new w1 _ _).alloc _
      case round =>
        obtain ⟨w2, rfl⟩ : ∃ w2 : World, w2 = wr := ⟨_, rfl⟩
        obtain ⟨r, hr, rfl, hown, hb2, hx2, hy2, hc2⟩ := hrel
        clear hx b0 hb1 hmk
        have b0 : w2.cell? ⟨w.heap.size, 0, none⟩ = some (.slice A q c) := hx2.at_ 0 rfl
        by_cases hlt : r < q
        · obtain ⟨ch, hch⟩ : ∃ ch, ch = chosenTo l r := ⟨_, rfl⟩
          have hchl : Hid (ch.length = q) := by rw [hch, chosenTo_length]; exact hlen.out
          rw [← hch] at hc2
          have HCH := Lib.hid hch
          clear hch
          have hlc : w1.heap.size + 1 < w2.heap.size := hy2.lt
          have hz2 := hb2.size
          go_wp2
          go_loopw [32, 9] (fun i best wq => ∃ k : Nat, k ≤ q ∧ i = .int .i64 k ∧ best = .int .i64 (bestTo l ch k) ∧ Below w2.heap.size w2 wq) (fun i _ _ => q - (intOf i).toNat)
          case atStart => exact ⟨0, Nat.zero_le _, rfl, rfl, Below.refl _ _⟩
          case round =>
            obtain ⟨w3, rfl⟩ : ∃ w3 : World, w3 = wr := ⟨_, rfl⟩
            obtain ⟨k, hk, rfl, rfl, hb3⟩ := hrel
            have hz3 := hb3.size
            clear b0
            have c0 : w3.cell? ⟨w.heap.size, 0, none⟩ = some (.slice A q c) := (hb3.cell (p := ⟨w.heap.size, 0, none⟩) (by exact hx2.lt)).trans (hx2.at_ 0 rfl)
            have cc : w3.cell? ⟨w1.heap.size + 1, 0, none⟩ = some (.slice (some ⟨w1.heap.size, 0, none⟩) q q) := (hb3.cell (p := ⟨w1.heap.size + 1, 0, none⟩) hlc).trans (hy2.at_ 0 rfl)
            have hc3 := hc2.below hb3 hc2.lt
            by_cases hlk : k < q
            · have hbw : Below B w w3 := (hb2.trans (hb3.mono hz2)).mono hB
              obtain ⟨bl, ol, hA, hbb, G, p, c1, T, m, d1, hp, hc1, hm, hd1, sg, st, e0, e1, e2, e3⟩ := (hl.below hbw).step hlk
              subst hA
              have hbl : bl < w3.heap.size := by have : bl < B := hbb; omega
              have hlc3 : w1.heap.size + 1 < w3.heap.size := by omega
              have hlc4 : w1.heap.size < w3.heap.size := by omega
              have hlw : w.heap.size < w3.heap.size := by omega
              have ec : w3.cell? ⟨w1.heap.size, k, none⟩ = some (.bool (ch.getD k false)) := (hc3.cell k).trans (boolCells_get (by rw [hchl.out]; exact hlk))
              have hbe : ∀ O, Below w2.heap.size w2 (w3.alloc O) := hb3.alloc hz3
              cases hcv : ch.getD k false with
              | true =>
                rw [hcv] at ec
                have HCV := Lib.hid hcv
                clear hcv
                go_wp2
                go_roundw
                case rel => exact ⟨k + 1, by omega, by go_num, by rw [best_skip (.inl HCV.out)], hbe _⟩
                case measure => simp [intOf]; omega
              | false =>
                rw [hcv] at ec
                have HCV := Lib.hid hcv
                clear hcv
                have hsc : ∀ O, Sl (w3.alloc O) (lt (w3.alloc O).heap.size) (some ⟨w1.heap.size, 0, none⟩) q ch := fun O => by
                  have := sl_bools (F := lt (w3.alloc O).heap.size) (hc3.alloc O) (by simp; omega)
                  rw [hchl.out] at this
                  exact this
                cases hfv : freeI l ch k with
                | false =>
                  have HC := Lib.hid fun O => free_s (w3.alloc O) B hfv (cell_alloc cc hlc3 O) (cell_alloc c0 hlw O) ((hl.below hbw).below ((Below.refl _ _).alloc (by omega) O)) (hsc O) hlk hn (by simp; omega) (by simp; omega) (by simp; omega)
                  have HFV := Lib.hid hfv
                  clear hfv hsc sg st
                  go_wp2_with (go_at_call 31; refine (HC.out _).mono ?_; rintro e w4 ⟨rfl, hb4⟩)
                  go_roundw
                  case rel => exact ⟨k + 1, by omega, by go_num, by rw [best_skip (.inr HFV.out)], (hbe _).trans (hb4.mono (by simp; omega))⟩
                  case measure => simp [intOf]; omega
                | true =>
                  have HC := Lib.hid fun O => free_s (w3.alloc O) B hfv (cell_alloc cc hlc3 O) (cell_alloc c0 hlw O) ((hl.below hbw).below ((Below.refl _ _).alloc (by omega) O)) (hsc O) hlk hn (by simp; omega) (by simp; omega) (by simp; omega)
                  have HFV := Lib.hid hfv
                  clear hfv hsc sg st
                  by_cases hbz : bestTo l ch k < 0
                  · have dneg : decide (bestTo l ch k < 0) = true := decide_eq_true hbz
                    go_wp2_with (go_at_call 31; refine (HC.out _).mono ?_; rintro e w4 ⟨rfl, hb4⟩)
                    have hb5 : Below w2.heap.size w2 w4 := (hbe _).trans (hb4.mono (by simp; omega))
                    go_quiet (fail)
                    go_wp2
                    go_roundw
                    case rel => exact ⟨k + 1, by omega, by go_num, by rw [best_first HCV.out HFV.out hbz], below_drewN hb5 _⟩
                    case measure => simp [intOf]; omega
                  · obtain ⟨mm, hmm⟩ : ∃ mm : Nat, bestTo l ch k = (mm : Int) := ⟨(bestTo l ch k).toNat, by omega⟩
                    have hmk : mm < k := by have := bestTo_lt l ch k; omega
                    rw [hmm]
                    have HMM := Lib.hid hmm
                    clear hmm hbz
                    have hmq : mm < q := by omega
                    have dneg : decide ((mm : Int) < 0) = false := decide_eq_false (by omega)
                    obtain ⟨bl', ol', hA', -, G', p', c1', T', m', d1', -, -, -, -, -, -, g0, g1, -, -⟩ := (hl.below hbw).step hmq
                    injection hA' with hA'
                    injection hA' with hA1 hA2
                    subst hA1
                    subst hA2
                    go_wp2_with (go_at_call 31; refine (HC.out _).mono ?_; rintro e w4 ⟨rfl, hb4⟩)
                    have hb5 : Below w2.heap.size w2 w4 := (hbe _).trans (hb4.mono (by simp; omega))
                    have hz4 := hb4.size
                    have k0 : w4.cell? ⟨w3.heap.size, 0, none⟩ = some (.int .i64 (stepAt l k).g) := (hb4.cell (p := ⟨w3.heap.size, 0, none⟩) (by simp)).trans ((Blk.new w3 _ _).at_ 0 rfl)
                    have k1 : w4.cell? ⟨w3.heap.size, 1, none⟩ = some (.int .i64 (stepAt l k).case_) := (hb4.cell (p := ⟨w3.heap.size, 1, none⟩) (by simp)).trans ((Blk.new w3 _ _).at_ 1 rfl)
                    have m0 : w4.cell? ⟨bl, ol + mm * 4, none⟩ = some (.int .i64 (stepAt l mm).g) := (hb4.cell (p := ⟨bl, ol + mm * 4, none⟩) (by simp; omega)).trans (cell_alloc g0 hbl _)
                    have m1 : w4.cell? ⟨bl, ol + mm * 4 + 1, none⟩ = some (.int .i64 (stepAt l mm).case_) := (hb4.cell (p := ⟨bl, ol + mm * 4 + 1, none⟩) (by simp; omega)).trans (cell_alloc g1 hbl _)
                    have l0 : w4.cell? ⟨w.heap.size, 0, none⟩ = some (.slice (some ⟨bl, ol, none⟩) q c) := (hb4.cell (p := ⟨w.heap.size, 0, none⟩) (by simp; omega)).trans (cell_alloc c0 hlw _)
                    have hw4 : w2.heap.size ≤ w4.heap.size := hb5.size
                    clear e0 e1 e2 e3 g0 g1 c0 cc ec
                    refine region_still_tail 23 (by kernel_rfl) (by kernel_rfl) ?_
                    simp only [List.take_succ_cons, List.take_zero, List.drop_succ_cons, List.drop_zero]
                    iterate 12 (refine wpStill_step (fun K hK => ?_); go_simp; refine hK _ ?_; clear hK K)
                    refine wpStill_step (fun K hK => ?_)
                    go_simp
                    refine ⟨_, (compare_any _ _ _).mono fun _ _ h => ⟨h.1, h.2.symm⟩, hK _ ?_⟩
                    clear hK K
                    iterate 9 (refine wpStill_step (fun K hK => ?_); go_simp; refine hK _ ?_; clear hK K)
                    refine wpStill_step (fun K hK => ?_)
                    go_simp
                    refine ⟨_, (compare_any _ _ _).mono fun _ _ h => ⟨h.1, h.2.symm⟩, hK _ ?_⟩
                    clear hK K
                    refine wpStill_nil ?_
                    cases hlb : lessP (stepAt l k) (stepAt l mm) with
                    | true =>
                      have hd := (or_less (stepAt l k) (stepAt l mm)).trans hlb
                      go_wp2_with fail
                      refine (or_any _ (fun _ => True) 2 2 _ [cmpI (stepAt l k).g (stepAt l mm).g, cmpI (stepAt l k).case_ (stepAt l mm).case_] (sl_two (by go_simp) (by go_simp)) (by decide)).mono ?_
                      rintro e w5 ⟨rfl, rfl⟩
                      go_wp2
                      go_roundw
                      case rel => exact ⟨k + 1, by omega, by go_num, by rw [best_less HCV.out HFV.out HMM.out hlb], below_drewN (hb5.alloc hw4 _) 1⟩
                      case measure => simp [intOf]; omega
                    | false =>
                      have hd := (or_less (stepAt l k) (stepAt l mm)).trans hlb
                      go_wp2_with fail
                      refine (or_any _ (fun _ => True) 2 2 _ [cmpI (stepAt l k).g (stepAt l mm).g, cmpI (stepAt l k).case_ (stepAt l mm).case_] (sl_two (by go_simp) (by go_simp)) (by decide)).mono ?_
                      rintro e w5 ⟨rfl, rfl⟩
                      go_wp2
                      go_roundw
                      case rel => exact ⟨k + 1, by omega, by go_num, by rw [best_more HCV.out HFV.out HMM.out hlb], below_drewN (hb5.alloc hw4 _) 1⟩
                      case measure => simp [intOf]; omega
            · obtain rfl : k = q := by omega
              clear hlk
              have hrl : r < l.length := by rw [hlen.out]; exact hlt
              obtain ⟨mm, hmm⟩ : ∃ mm : Nat, mm = outAt l r := ⟨_, rfl⟩
              have hbm : bestTo l ch k = (mm : Int) := by rw [HCH.out, hmm, ← best_eq hrl, hlen.out]
              have hmk : mm < k := by have := outAt_lt hrl; rw [hlen.out] at this; omega
              rw [hbm]
              have HMM := Lib.hid hmm
              clear hmm hbm
              have s1 : w3.cell? ⟨w1.heap.size, mm, none⟩ = some (.bool (ch.getD mm false)) := (hc3.cell mm).trans (boolCells_get (by rw [hchl.out]; exact hmk))
              have s2 : w3.frozen? ⟨w1.heap.size, mm, none⟩ = false := hc3.frozen mm
              have hown3 := hown.ext hb3 false_lt
              have hnc := hown3.ne hc3 (by decide)
              have HO := Lib.hid ((hown3.setCell (p := ⟨w1.heap.size, mm, none⟩) (.bool true) id hnc).alloc (.cells #[.int .i64 (mm : Int)] 3) false_lt)
              have hb4 : Below w.heap.size w (w3.setCell ⟨w1.heap.size, mm, none⟩ (.bool true)) := (hb2.trans (hb3.mono hz2)).setCell (by show w.heap.size ≤ w1.heap.size; omega) _
              have hs4 : w.heap.size ≤ (w3.setCell ⟨w1.heap.size, mm, none⟩ (.bool true)).heap.size := hb4.size
              have HBO := Lib.hid (hb4.alloc hs4 (.cells #[.int .i64 (mm : Int)] 3))
              have HX := Lib.hid (((hx2.below hb3 hx2.lt).far (p := ⟨w1.heap.size, mm, none⟩) (by show w.heap.size ≠ w1.heap.size; omega) (.bool true)).alloc (.cells #[.int .i64 (mm : Int)] 3))
              have HY := Lib.hid (((hy2.below hb3 hy2.lt).far (p := ⟨w1.heap.size, mm, none⟩) (by show w1.heap.size + 1 ≠ w1.heap.size; omega) (.bool true)).alloc (.cells #[.int .i64 (mm : Int)] 3))
              have HC := Lib.hid ((hc3.set_ mm (.bool true)).alloc (.cells #[.int .i64 (mm : Int)] 3))
              have hxl : ((outTo l r).map (fun i : Nat => (i : Int))).length ≤ 65536 := by rw [List.length_map, outTo_length]; omega
              clear c0 hown hown3 hnc hb4 hs4
              go_wp2_with (at_builtin; refine wpList_push (α := Int) rfl (.tmp 79) (.tmp 81) 24 rfl w.heap.size 3 i0 (.int .i64 0) 8 Try.underlying24 HI.out.1 HI.out.2.1 HI.out.2.2.1 HI.out.2.2.2 rfl (by decide) (fun _ => False) _ _ (mm : Int) [.int .i64 (mm : Int)] _ 1 rfl HO.out rfl rfl (cell_new (w3.setCell ⟨w1.heap.size, mm, none⟩ (.bool true)) #[.int .i64 (mm : Int)] 3 (by simp [World.setCell])) (by simp [Value.oneCell']) (fun _ h => h.elim) HBO.out.size (by unfold maxLen; omega) (by omega) ?_; intro v1 w5 hown5 hg5 hat5)
              go_roundw
              case rel =>
                refine ⟨r + 1, by omega, by go_num, ?_, own_below HO.out HBO.out hg5 (Nat.le_refl _) HBO.out.size, HX.out.grown hg5 (HO.out.ne HX.out (by decide)), HY.out.grown hg5 (HO.out.ne HY.out (by decide)), ?_⟩
                · rw [outTo_succ, List.map_append, ← HMM.out]
                  exact hown5
                · have := HC.out.grown hg5 (HO.out.ne HC.out (by decide))
                  rw [boolCells_set, HCH.out, HMM.out] at this
                  exact this
              case measure => simp [intOf]; omega
        · obtain rfl : r = q := by omega
          go_wp2
          obtain ⟨A', c', hA, hc', hm', hsl⟩ := hown.sl false_lt
          have hL : ((outTo l r).map (fun i : Nat => (i : Int))).length = r := by rw [List.length_map, outTo_length]
          rw [hL] at hA hc' hsl
          subst hA
          go_ret2
          exact ⟨A', c', rfl, hc', hm', hb2, by rw [hlen.out]; exact hsl⟩

end Go.Proofs.Ytlbgmegciomofaa

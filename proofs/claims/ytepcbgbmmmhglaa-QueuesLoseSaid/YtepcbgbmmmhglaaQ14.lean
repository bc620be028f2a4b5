/- Same, of run queues that read the same. -/
import Derived.Test.YtepcbgbmmmhglaaQ13
namespace Go.Proofs.Ytepcbgbmmmhglaa
open Go.RowKit

theorem region_still_tail {P : Program} {id : Nat} {Q : Exit → Act → World → Prop} {a : Act} {w : World} {l : List Oper} (n : Nat) (hm : P.follows .mixedOrders = true) (hB : Region.lexTailB .any l.toArray n = true)
    (h : wpStill P l.toArray w.drew (fun a' => wpList P l.toArray Q (l.drop n) a' w.drew) (l.take n) a) : (Code.region id l.toArray true).wp P Q a w := wp_region_still_tail n hm hB h

theorem eqInts_refl (xs : List Int) : eqInts xs xs = true := eqBy_yes rfl rfl fun k x y _ hx hy => by
  rw [hx] at hy
  injection hy with hy
  subst hy
  unfold eqI
  simp
theorem ints_same (w : World) {F F' : Nat → Prop} {n c d : Nat} {A A' : Option Addr} {xs : List Int} (hx : Sl w F A n xs) (hy : Sl w F' A' n xs) (hn : n ≤ maxLen) :
    Calls Try.prog 22 #[.slice A n c, .slice A' n d] w (RetB (.bool true) w) := by
  have h := ints_any w F F' n c n d A A' xs xs hx hy hn hn
  rw [eqInts_refl] at h
  exact h

set_option maxHeartbeats 1000000 in
theorem same_yes (w : World) (B n c m d c' d' : Nat) (A C A' C' : Option Addr) (q : Qs) (hl : Sl w (lt B) A n q.loc) (hc : Sl w (lt B) C m q.com) (hl' : Sl w (lt B) A' n q.loc) (hc' : Sl w (lt B) C' m q.com) (hn : n ≤ maxLen) (hm : m ≤ maxLen) (hB : B ≤ w.heap.size) :
    Calls Try.prog 12 #[.agg #[.slice A n c, .slice C m d], .agg #[.slice A' n c', .slice C' m d']] w (RetB (.bool true) w) := by
  unfold maxLen at hn
  go_enter Try.func12, Try.ntmps12
  go_upto_region 1 with fail
  obtain ⟨w0, hw0⟩ : ∃ w0, w0 = (w.alloc (.cells #[.slice A n c, .slice C m d] 26)).alloc (.cells #[.slice A' n c', .slice C' m d'] 26) := ⟨_, rfl⟩
  rw [← hw0]
  have hb0 : Below w.heap.size w w0 := by rw [hw0]; exact ((Below.refl _ _).alloc (Nat.le_refl _) _).alloc (by simp) _
  have hk0 : Blk w0 w.heap.size 26 #[.slice A n c, .slice C m d] := by rw [hw0]; exact (Blk.new _ _ _).alloc _
  have hk1 : Blk w0 (w.heap.size + 1) 26 #[.slice A' n c', .slice C' m d'] := by rw [hw0]; exact heap_alloc_new' _ _ (by simp)
  clear hw0
  have a0 : w0.cell? ⟨w.heap.size, 0, none⟩ = some (.slice A n c) := hk0.at_ 0 rfl
  have a1 : w0.cell? ⟨w.heap.size, 1, none⟩ = some (.slice C m d) := hk0.at_ 1 rfl
  have b0 : w0.cell? ⟨w.heap.size + 1, 0, none⟩ = some (.slice A' n c') := hk1.at_ 0 rfl
  have b1 : w0.cell? ⟨w.heap.size + 1, 1, none⟩ = some (.slice C' m d') := hk1.at_ 1 rfl
  have hne : ((n : Int) != (n : Int)) = false := by simp
  have hz0 := hb0.size
  go_wp2_with fail
  refine (ints_same w0 (hc.below (hb0.mono hB)) (hc'.below (hb0.mono hB)) hm).mono ?_
  rintro e w1 ⟨rfl, hb1⟩
  have hk0' := hk0.below hb1 hk0.lt
  have hk1' := hk1.below hb1 hk1.lt
  have hbw1 : Below w.heap.size w w1 := hb0.trans (hb1.mono hz0)
  clear a0 a1 b0 b1 hk0 hk1
  go_wp2
  go_loopw [5, 4] (fun i _ wr => ∃ k : Nat, k ≤ n ∧ i = .int .i64 k ∧ Blk wr w.heap.size 26 #[.slice A n c, .slice C m d] ∧ Blk wr (w.heap.size + 1) 26 #[.slice A' n c', .slice C' m d'] ∧ Below w.heap.size w wr) (fun i _ _ => n - (intOf i).toNat)
  case atStart => exact ⟨0, Nat.zero_le _, rfl, hk0', hk1', hbw1⟩
  case round =>
    obtain ⟨w2, rfl⟩ : ∃ w2 : World, w2 = wr := ⟨_, rfl⟩
    obtain ⟨k, hk, rfl, hk2, hk3, hb2⟩ := hrel
    clear hk0' hk1' hbw1
    have hz2 := hb2.size
    have a0 : w2.cell? ⟨w.heap.size, 0, none⟩ = some (.slice A n c) := hk2.at_ 0 rfl
    have b0 : w2.cell? ⟨w.heap.size + 1, 0, none⟩ = some (.slice A' n c') := hk3.at_ 0 rfl
    by_cases hlt : k < n
    · obtain ⟨b, o, rfl, hbb, xs, X, nx, cx, hx, hcx, hnx, hcx', hsx⟩ := (hl.below (hb2.mono hB)).list_ hlt
      obtain ⟨b', o', rfl, hbb', ys, Y, ny, cy, hy, hcy, hny, hcy', hsy⟩ := (hl'.below (hb2.mono hB)).list_ hlt
      rw [hx] at hy
      injection hy with hy
      subst hy
      have hxy : nx = ny := by rw [← hsx.1, ← hsy.1]
      subst hxy
      have HC := Lib.hid (ints_same (c := cx) (d := cy) w2.drew hsx hsy (Nat.le_trans hnx hcx'))
      clear hsx hsy hx
      go_wp2
      refine region_still_tail 10 (by kernel_rfl) (by kernel_rfl) ?_
      simp only [List.take_succ_cons, List.take_zero, List.drop_succ_cons, List.drop_zero]
      iterate 10 (refine wpStill_step (fun K hK => ?_); go_simp; refine hK _ ?_; clear hK K)
      refine wpStill_nil ?_
      clear a0 b0 hcx hcy
      go_wp2_with (go_at_call 22; refine HC.out.mono ?_; rintro e w3 ⟨rfl, hb3⟩)
      have hb3' : Below w2.heap.size w2 w3 := below_drewL hb3
      go_roundw
      case rel => exact ⟨k + 1, by omega, by go_num, hk2.below hb3' hk2.lt, hk3.below hb3' hk3.lt, hb2.trans (hb3'.mono hz2)⟩
      case measure => simp [intOf]; omega
    · obtain rfl : k = n := by omega
      go_wp2
      go_ret
      exact RetB.mk rfl hb2

end Go.Proofs.Ytepcbgbmmmhglaa

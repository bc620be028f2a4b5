/- The law on exchange: the walk where it compares. -/
import Derived.Test.YtlbgmegciomofaaW19
import Derived.Deep.Cut
namespace Go.Proofs.Ytlbgmegciomofaa
open Go.RowKit

set_option maxHeartbeats 2000000 in
theorem lawExchange_main (w : World) (n c : Nat) (k : Nat) (hk : k < 256) (A : Option Addr) (a : List Step) (ha : Sl w (lt w.heap.size) A n a) (hn : n ≤ maxLen) (fa : fewS a = true) (hkn : k + 1 < n) (va : validA a = true) (dd : Bool) (k1 : Nat) (hk1 : k1 = k + 1) (hdd : dep (stepAt a k) (stepAt a k1) = dd) :
    Calls Try.prog 6 #[.slice A n c, .int .u8 k] w (RetB (.bool true) w) := by
  have hn6 : n ≤ 65536 := by have h1 := few_le fa; rw [ha.1] at h1; omega
  have hlen : Hid (a.length = n) := ha.1
  have HFA := Lib.hid fa
  have HVA := Lib.hid va
  have HDD := Lib.hid hdd
  clear fa va hdd
  obtain ⟨i0, hi, hz0, hz1, hz2⟩ := info_parts info_step
  have HI := Lib.hid (And.intro hi (And.intro hz0 (And.intro hz1 hz2)))
  clear hi hz0 hz1 hz2
  have hE : (k : Int) + 1 = (k1 : Int) := by omega
  have HK1 := Lib.hid hk1
  have hkn1 : k1 < n := by omega
  have hkn0 : k < n := by omega
  clear hk1 hkn
  have hd : decide ((n : Int) ≤ (k1 : Int)) = false := decide_eq_false (by omega)
  go_enter Try.func6, Try.ntmps6
  go_wp2_with fail
  refine (awake_any w).mono ?_
  rintro e w1 ⟨rfl, hb1⟩
  go_wp2_with fail
  refine (few_s w1 w.heap.size n c HFA.out (ha.below hb1) hn).mono ?_
  rintro e w2 ⟨rfl, rfl⟩
  go_wp2_with fail
  refine (refValidAll_s w1 w.heap.size n c HVA.out (ha.below hb1) hn6 hb1.size).mono ?_
  rintro e w2 ⟨rfl, hb2⟩
  have hbw2 : Below w.heap.size w w2 := hb1.trans (hb2.mono hb1.size)
  have hz2 := hbw2.size
  have HO := Lib.hid (Own.empty (α := Step) w2 w.heap.size 27 (lt w.heap.size) hz2)
  have HBO := Lib.hid (hbw2.alloc hz2 (.cells #[] 27))
  have HS := Lib.hid ((ha.below HBO.out).src)
  go_upto_region 7 with (at_builtin; refine wpList_cat (α := Step) rfl (.tmp 26) (.tmp 27) 30 rfl w.heap.size 27 i0 (.agg #[.int .i64 0, .int .i64 0, .slice none 0 0, .slice none 0 0]) 64 Try.underlying30 HI.out.1 HI.out.2.1 HI.out.2.2.1 HI.out.2.2.2 rfl (by decide) (lt w.heap.size) _ [] a A n c rfl HO.out rfl HS.out (fun b hb => hb) HBO.out.size (by unfold maxLen; simp; omega) (by simp; omega) ?_; intro v1 w3 hown3 hg3 hat3)
  have hb3 : Below w.heap.size w w3 := own_below HO.out HBO.out hg3 (Nat.le_refl _) HBO.out.size
  rw [List.nil_append] at hown3
  clear hg3 hat3
  have hz3 := hb3.size
  obtain ⟨Am, cm, hAm, hcm, hmm, hslm⟩ := hown3.sl (fun b hb => Nat.lt_of_lt_of_le hb hz3)
  subst hAm
  rw [hlen.out] at hslm hcm hown3 ⊢
  obtain ⟨g, cur, rfl, hgb, hgz, hblk, hcur⟩ := hown3.blk hlen.out (by omega)
  obtain ⟨bl, ol, rfl, hbb, G0, p0, q0, T0, t0, u0, hp0, hq0, ht0, hu0, sg0, st0, e00, e01, e02, e03⟩ := (ha.below hb3).step hkn0
  obtain ⟨bl', ol', hA', -, G1, p1, q1, T1, t1, u1, hp1, hq1, ht1, hu1, sg1, st1, e10, e11, e12, e13⟩ := (ha.below hb3).step hkn1
  simp only [Option.some.injEq, Addr.mk.injEq, and_true] at hA'
  obtain ⟨rfl, rfl⟩ := hA'
  have hi1 : (k1 : Int) < (n : Int) := by omega
  have hi0 : (k : Int) < (n : Int) := by omega
  have hrow : k1 * 4 + 4 ≤ cur.size := by
    have h1 : (k1 + 1) * 4 ≤ n * 4 := Nat.mul_le_mul_right _ hkn1
    have h2 : n * 4 ≤ cur.size := hcur
    omega
  have hrow0 : k * 4 + 4 ≤ cur.size := by rw [HK1.out] at hrow; omega
  obtain ⟨x0, x1, x2, x3, f0, z0, f1, z1, f2, z2, f3, z3⟩ := store4 hblk hrow0 (.int .i64 (stepAt a k1).g) (.int .i64 (stepAt a k1).case_) (.slice G1 p1 q1)
  go_upto_region 8 with fail
  clear f0 z0 f1 z1 f2 z2 f3 z3 x0 x1 x2 x3
  obtain ⟨w4, hw4⟩ : ∃ w4, w4 = (((w3.setCell ⟨g, k * 4, none⟩ (.int .i64 (stepAt a k1).g)).setCell ⟨g, k * 4 + 1, none⟩ (.int .i64 (stepAt a k1).case_)).setCell ⟨g, k * 4 + 2, none⟩ (.slice G1 p1 q1)).setCell ⟨g, k * 4 + 3, none⟩ (.slice T1 t1 u1) := ⟨_, rfl⟩
  rw [← hw4]
  obtain ⟨hs4, hbe4, hf4⟩ := stored4 hw4
  have hbl : bl < w.heap.size := hbb
  have hblk4 := hs4 _ _ hblk
  have hb4 : Below w.heap.size w3 w4 := hbe4 _ hgb
  have e00' : w4.cell? ⟨bl, ol + k * 4, none⟩ = some (.int .i64 (stepAt a k).g) := (hb4.cell hbl).trans e00
  have e01' : w4.cell? ⟨bl, ol + k * 4 + 1, none⟩ = some (.int .i64 (stepAt a k).case_) := (hb4.cell hbl).trans e01
  have e02' : w4.cell? ⟨bl, ol + k * 4 + 2, none⟩ = some (.slice G0 p0 q0) := (hb4.cell hbl).trans e02
  have e03' : w4.cell? ⟨bl, ol + k * 4 + 3, none⟩ = some (.slice T0 t0 u0) := (hb4.cell hbl).trans e03
  have hown4 := hown3.stored (k := k) (y := stepAt a k1) (cs := [.int .i64 (stepAt a k1).g, .int .i64 (stepAt a k1).case_, .slice G1 p1 q1, .slice T1 t1 u1]) (by rw [hlen.out]; exact hkn0) (rep_step hp1 hq1 ht1 hu1 sg1 st1) (fun cur h => hs4 _ cur h) (fun p hp => hb4.cell hp)
  clear hw4 hs4 hbe4 hf4 e00 e01 e02 e03
  obtain ⟨x0, x1, x2, x3, f0, z0, f1, z1, f2, z2, f3, z3⟩ := store4 hblk4 (by rw [setRow_size]; exact hrow) (.int .i64 (stepAt a k).g) (.int .i64 (stepAt a k).case_) (.slice G0 p0 q0)
  go_upto_region 9 with fail
  clear f0 z0 f1 z1 f2 z2 f3 z3 x0 x1 x2 x3
  obtain ⟨w5, hw5⟩ : ∃ w5, w5 = (((w4.setCell ⟨g, k1 * 4, none⟩ (.int .i64 (stepAt a k).g)).setCell ⟨g, k1 * 4 + 1, none⟩ (.int .i64 (stepAt a k).case_)).setCell ⟨g, k1 * 4 + 2, none⟩ (.slice G0 p0 q0)).setCell ⟨g, k1 * 4 + 3, none⟩ (.slice T0 t0 u0) := ⟨_, rfl⟩
  rw [← hw5]
  obtain ⟨hs5, hbe5, -⟩ := stored4 hw5
  have hb45 : Below w.heap.size w4 w5 := hbe5 _ hgb
  have hb35 := hb4.trans hb45
  have hb5 := hb3.trans hb35
  have hown5 := hown4.stored (k := k1) (y := stepAt a k) (cs := [.int .i64 (stepAt a k).g, .int .i64 (stepAt a k).case_, .slice G0 p0 q0, .slice T0 t0 u0]) (by rw [List.length_set, hlen.out]; exact hkn1) (rep_step hp0 hq0 ht0 hu0 (sg0.below hb4) (st0.below hb4)) (fun cur h => hs5 _ cur h) (fun p hp => hb45.cell hp)
  have hsw : (a.set k (stepAt a k1)).set k1 (stepAt a k) = swapAt a k := by unfold swapAt; rw [HK1.out]
  rw [hsw] at hown5
  have hz5 := hb5.size
  obtain ⟨Am, cm', hAm, -, -, hslm5⟩ := hown5.sl (fun b hb => Nat.lt_of_lt_of_le hb hz5)
  rw [swap_length, hlen.out] at hAm hslm5
  injection hAm with hA1 hA2 hA3
  subst hA1
  clear hA2 hA3 hw5 hs5 hbe5 hsw hown3 hown4 hown5 hblk4 hblk hslm
  have e00 : w5.cell? ⟨bl, ol + k * 4, none⟩ = some (.int .i64 (stepAt a k).g) := (hb45.cell hbl).trans e00'
  have e01 : w5.cell? ⟨bl, ol + k * 4 + 1, none⟩ = some (.int .i64 (stepAt a k).case_) := (hb45.cell hbl).trans e01'
  have e02 : w5.cell? ⟨bl, ol + k * 4 + 2, none⟩ = some (.slice G0 p0 q0) := (hb45.cell hbl).trans e02'
  have e03 : w5.cell? ⟨bl, ol + k * 4 + 3, none⟩ = some (.slice T0 t0 u0) := (hb45.cell hbl).trans e03'
  have d10 : w5.cell? ⟨bl, ol + k1 * 4, none⟩ = some (.int .i64 (stepAt a k1).g) := (hb35.cell hbl).trans e10
  have d11 : w5.cell? ⟨bl, ol + k1 * 4 + 1, none⟩ = some (.int .i64 (stepAt a k1).case_) := (hb35.cell hbl).trans e11
  have d12 : w5.cell? ⟨bl, ol + k1 * 4 + 2, none⟩ = some (.slice G1 p1 q1) := (hb35.cell hbl).trans e12
  have d13 : w5.cell? ⟨bl, ol + k1 * 4 + 3, none⟩ = some (.slice T1 t1 u1) := (hb35.cell hbl).trans e13
  have s5g0 := sg0.below hb35
  have s5t0 := st0.below hb35
  have s5g1 := sg1.below hb35
  have s5t1 := st1.below hb35
  clear e00' e01' e02' e03' e10 e11 e12 e13 sg0 st0 sg1 st1
  have HC := Lib.hid (dependent_b w5.drew w.heap.size HDD.out s5g0 s5t0 s5g1 s5t1 hp0 hq0 ht0 hu0 hp1 hq1 ht1 hu1 (by show w.heap.size ≤ w5.heap.size; omega))
  have hwr : IntKind.i64.wrap (k1 : Int) = (k1 : Int) := IntWalk.i64_in _ (by omega)
  refine region_still_tail 9 (by kernel_rfl) (by kernel_rfl) ?_
  simp only [List.take_succ_cons, List.take_zero, List.drop_succ_cons, List.drop_zero]
  iterate 9 (refine wpStill_step (fun K hK => ?_); go_simp; refine hK _ ?_; clear hK K)
  refine wpStill_nil ?_
  have SA : Sl w5 (lt w5.heap.size) (some ⟨bl, ol, none⟩) n a := (ha.below hb5).mono hz5
  have hlk : k + 1 < a.length := by rw [hlen.out, ← HK1.out]; exact hkn1
  cases dd with
  | false =>
    have hdk : dep (stepAt a k) (stepAt a (k + 1)) = false := by rw [← HK1.out]; exact HDD.out
    have HEQ := Lib.hid (swap_equiv hlk HVA.out hdk)
    have HCA := Lib.hid (swap_canon hlk HVA.out hdk)
    clear hdk
    go_wp2_with (go_at_call 9; refine HC.out.mono ?_; rintro e w6 ⟨rfl, hb6⟩)
    have hb56 : Below w5.heap.size w5 w6 := below_drewL hb6
    refine (equivalent_s w6 w5.heap.size n c n cm HEQ.out (SA.below hb56) (hslm5.below hb56) hn6 hn6 hb56.size).mono ?_
    rintro e w7 ⟨rfl, hb7⟩
    have hb57 := hb56.trans (hb7.mono hb56.size)
    go_wp2_with fail
    refine (canonical_c w7 w5.heap.size n c rfl (SA.below hb57) hn6 hb57.size).mono ?_
    rintro e w8 ⟨v8, rfl, hb8, hown8⟩
    have hb58 := hb57.trans (hb8.mono hb57.size)
    obtain ⟨A8, c8, hA8, hc8, hm8, hs8⟩ := hown8.sl false_lt
    subst hA8
    go_wp2_with fail
    refine (canonical_c w8 w5.heap.size n cm HCA.out (hslm5.below hb58) hn6 hb58.size).mono ?_
    rintro e w9 ⟨v9, rfl, hb9, hown9⟩
    have hb59 := hb58.trans (hb9.mono hb58.size)
    obtain ⟨A9, c9, hA9, hc9, hm9, hs9⟩ := hown9.sl false_lt
    subst hA9
    go_wp2_with fail
    refine (samePicks_any w9 _ _ _ _ _ _ _ _ _ _ (hs8.below hb9) hs9 (Nat.le_trans hc8 hm8) (Nat.le_trans hc9 hm9)).mono ?_
    rintro e w10 ⟨rfl, hb10⟩
    have hr := eqPicks_refl (canon a)
    go_wp2
    go_ret
    exact RetB.mk rfl (hb5.trans ((hb59.trans (hb10.mono hb59.size)).mono hz5))
  | true =>
    have hdk : dep (stepAt a k) (stepAt a (k + 1)) = true := by rw [← HK1.out]; exact HDD.out
    have HEQ := Lib.hid (swap_no hlk HVA.out hdk)
    go_upto_region 11 with (go_at_call 9; refine HC.out.mono ?_; rintro e w6 ⟨rfl, hb6⟩)
    have hb56 : Below w5.heap.size w5 w6 := below_drewL hb6
    have hz56 := hb56.size
    have hle : w.heap.size ≤ w6.heap.size := Nat.le_trans hz5 hz56
    have hb46 : Below w.heap.size w5 w6 := hb56.mono hz5
    have HB0 : Hid (∀ W', Below w6.heap.size w6 W' → W'.cell? ⟨bl, ol + k * 4, none⟩ = some (.int .i64 (stepAt a k).g) ∧ W'.cell? ⟨bl, ol + k * 4 + 1, none⟩ = some (.int .i64 (stepAt a k).case_) ∧ W'.cell? ⟨bl, ol + k * 4 + 2, none⟩ = some (.slice G0 p0 q0) ∧ W'.cell? ⟨bl, ol + k * 4 + 3, none⟩ = some (.slice T0 t0 u0)) :=
      fun W' h => ⟨((hb46.trans (h.mono hle)).cell hbl).trans e00, ((hb46.trans (h.mono hle)).cell hbl).trans e01, ((hb46.trans (h.mono hle)).cell hbl).trans e02, ((hb46.trans (h.mono hle)).cell hbl).trans e03⟩
    have HB1 : Hid (∀ W', Below w6.heap.size w6 W' → W'.cell? ⟨bl, ol + k1 * 4, none⟩ = some (.int .i64 (stepAt a k1).g) ∧ W'.cell? ⟨bl, ol + k1 * 4 + 1, none⟩ = some (.int .i64 (stepAt a k1).case_) ∧ W'.cell? ⟨bl, ol + k1 * 4 + 2, none⟩ = some (.slice G1 p1 q1) ∧ W'.cell? ⟨bl, ol + k1 * 4 + 3, none⟩ = some (.slice T1 t1 u1)) :=
      fun W' h => ⟨((hb46.trans (h.mono hle)).cell hbl).trans d10, ((hb46.trans (h.mono hle)).cell hbl).trans d11, ((hb46.trans (h.mono hle)).cell hbl).trans d12, ((hb46.trans (h.mono hle)).cell hbl).trans d13⟩
    obtain ⟨r, hr⟩ : ∃ r, eqStep (stepAt a k) (stepAt a k1) = r := ⟨_, rfl⟩
    have hq : equivI a (swapAt a k) = r := by rw [HEQ.out, ← HK1.out]; exact hr
    have HD1 := Lib.hid fun W' (h : Below w6.heap.size w6 W') => refSame_b W' w.heap.size hr (s5g0.below (hb46.trans (h.mono hle))) (s5t0.below (hb46.trans (h.mono hle))) (s5g1.below (hb46.trans (h.mono hle))) (s5t1.below (hb46.trans (h.mono hle))) hp0 hq0 ht0 hu0 hp1 hq1 ht1 hu1 (Nat.le_trans hle h.size)
    have HD2 := Lib.hid fun W' (h : Below w6.heap.size w6 W') => equivalent_s W' w5.heap.size n c n cm hq (SA.below (hb56.trans (h.mono hz56))) (hslm5.below (hb56.trans (h.mono hz56))) hn6 hn6 (Nat.le_trans hz56 h.size)
    clear e00 e01 e02 e03 d10 d11 d12 d13 hr hq s5g0 s5t0 s5g1 s5t1 hdk SA hslm5
    have hbw6 : Below w.heap.size w w6 := hb5.trans hb46
    cases r with
    | false =>
      refine region_quietB (by kernel_rfl) (by kernel_rfl) ?_
      refine wpQuiet_step (fun K hK => ?_)
      rw [if_pos (by rfl)]
      refine ⟨(.slice (some ⟨bl, ol, none⟩) n c), by (intro W' hW'; go_simp), ?_⟩
      go_simp
      refine hK _ ?_
      clear hK K
      refine wpQuiet_step (fun K hK => ?_)
      rw [if_pos (by rfl)]
      refine ⟨(.int .i64 k), by (intro W' hW'; go_simp), ?_⟩
      go_simp
      refine hK _ ?_
      clear hK K
      refine wpQuiet_step (fun K hK => ?_)
      rw [if_pos (by rfl)]
      refine ⟨(.pointer (some ⟨bl, ol + k * 4, none⟩)), by (intro W' hW'; go_simp), ?_⟩
      go_simp
      refine hK _ ?_
      clear hK K
      refine wpQuiet_step (fun K hK => ?_)
      rw [if_pos (by rfl)]
      refine ⟨(.agg #[.int .i64 (stepAt a k).g, .int .i64 (stepAt a k).case_, .slice G0 p0 q0, .slice T0 t0 u0]), by (intro W' hW'; obtain ⟨c0, c1, c2, c3⟩ := HB0.out W' hW'; go_simp), ?_⟩
      go_simp
      refine hK _ ?_
      clear hK K
      refine wpQuiet_step (fun K hK => ?_)
      rw [if_pos (by rfl)]
      refine ⟨(.slice (some ⟨bl, ol, none⟩) n c), by (intro W' hW'; go_simp), ?_⟩
      go_simp
      refine hK _ ?_
      clear hK K
      refine wpQuiet_step (fun K hK => ?_)
      rw [if_pos (by rfl)]
      refine ⟨(.int .i64 k), by (intro W' hW'; go_simp), ?_⟩
      go_simp
      refine hK _ ?_
      clear hK K
      refine wpQuiet_step (fun K hK => ?_)
      rw [if_pos (by rfl)]
      refine ⟨(.int .i64 k1), by (intro W' hW'; go_simp), ?_⟩
      go_simp
      refine hK _ ?_
      clear hK K
      refine wpQuiet_step (fun K hK => ?_)
      rw [if_pos (by rfl)]
      refine ⟨(.pointer (some ⟨bl, ol + k1 * 4, none⟩)), by (intro W' hW'; go_simp), ?_⟩
      go_simp
      refine hK _ ?_
      clear hK K
      refine wpQuiet_step (fun K hK => ?_)
      rw [if_pos (by rfl)]
      refine ⟨(.agg #[.int .i64 (stepAt a k1).g, .int .i64 (stepAt a k1).case_, .slice G1 p1 q1, .slice T1 t1 u1]), by (intro W' hW'; obtain ⟨c0, c1, c2, c3⟩ := HB1.out W' hW'; go_simp), ?_⟩
      go_simp
      refine hK _ ?_
      clear hK K
      refine wpQuiet_step (fun K hK => ?_)
      rw [if_pos (by rfl)]
      refine ⟨(.bool false), by (intro W' hW'; go_simp; exact (HD1.out W' hW').mono fun e w'' h => ⟨h.1, hW'.trans (h.2.mono hW'.size)⟩), ?_⟩
      go_simp
      refine hK _ ?_
      clear hK K
      refine wpQuiet_step (fun K hK => ?_)
      rw [if_pos (by rfl)]
      refine ⟨(.slice (some ⟨bl, ol, none⟩) n c), by (intro W' hW'; go_simp), ?_⟩
      go_simp
      refine hK _ ?_
      clear hK K
      refine wpQuiet_step (fun K hK => ?_)
      rw [if_pos (by rfl)]
      refine ⟨(.slice (some ⟨g, 0, none⟩) n cm), by (intro W' hW'; go_simp), ?_⟩
      go_simp
      refine hK _ ?_
      clear hK K
      refine wpQuiet_step (fun K hK => ?_)
      rw [if_pos (by rfl)]
      refine ⟨(.bool false), by (intro W' hW'; go_simp; exact (HD2.out W' hW').mono fun e w'' h => ⟨h.1, hW'.trans (h.2.mono hW'.size)⟩), ?_⟩
      go_simp
      refine hK _ ?_
      clear hK K
      refine wpQuiet_step (fun K hK => ?_)
      rw [if_pos (by rfl)]
      refine ⟨(.bool true), by (intro W' hW'; go_simp), ?_⟩
      go_simp
      refine hK _ ?_
      clear hK K
      refine wpQuiet_step (fun K hK => ?_)
      rw [if_pos (by rfl)]
      refine ⟨(.bool true), by (intro W' hW'; go_simp), ?_⟩
      go_simp
      refine hK _ ?_
      clear hK K
      refine wpQuiet_nil ?_
      intro W' hW'
      go_wp2
      go_ret
      exact RetB.mk rfl (hbw6.trans (hW'.mono hle))
    | true =>
      refine region_quietB (by kernel_rfl) (by kernel_rfl) ?_
      refine wpQuiet_step (fun K hK => ?_)
      rw [if_pos (by rfl)]
      refine ⟨(.slice (some ⟨bl, ol, none⟩) n c), by (intro W' hW'; go_simp), ?_⟩
      go_simp
      refine hK _ ?_
      clear hK K
      refine wpQuiet_step (fun K hK => ?_)
      rw [if_pos (by rfl)]
      refine ⟨(.int .i64 k), by (intro W' hW'; go_simp), ?_⟩
      go_simp
      refine hK _ ?_
      clear hK K
      refine wpQuiet_step (fun K hK => ?_)
      rw [if_pos (by rfl)]
      refine ⟨(.pointer (some ⟨bl, ol + k * 4, none⟩)), by (intro W' hW'; go_simp), ?_⟩
      go_simp
      refine hK _ ?_
      clear hK K
      refine wpQuiet_step (fun K hK => ?_)
      rw [if_pos (by rfl)]
      refine ⟨(.agg #[.int .i64 (stepAt a k).g, .int .i64 (stepAt a k).case_, .slice G0 p0 q0, .slice T0 t0 u0]), by (intro W' hW'; obtain ⟨c0, c1, c2, c3⟩ := HB0.out W' hW'; go_simp), ?_⟩
      go_simp
      refine hK _ ?_
      clear hK K
      refine wpQuiet_step (fun K hK => ?_)
      rw [if_pos (by rfl)]
      refine ⟨(.slice (some ⟨bl, ol, none⟩) n c), by (intro W' hW'; go_simp), ?_⟩
      go_simp
      refine hK _ ?_
      clear hK K
      refine wpQuiet_step (fun K hK => ?_)
      rw [if_pos (by rfl)]
      refine ⟨(.int .i64 k), by (intro W' hW'; go_simp), ?_⟩
      go_simp
      refine hK _ ?_
      clear hK K
      refine wpQuiet_step (fun K hK => ?_)
      rw [if_pos (by rfl)]
      refine ⟨(.int .i64 k1), by (intro W' hW'; go_simp), ?_⟩
      go_simp
      refine hK _ ?_
      clear hK K
      refine wpQuiet_step (fun K hK => ?_)
      rw [if_pos (by rfl)]
      refine ⟨(.pointer (some ⟨bl, ol + k1 * 4, none⟩)), by (intro W' hW'; go_simp), ?_⟩
      go_simp
      refine hK _ ?_
      clear hK K
      refine wpQuiet_step (fun K hK => ?_)
      rw [if_pos (by rfl)]
      refine ⟨(.agg #[.int .i64 (stepAt a k1).g, .int .i64 (stepAt a k1).case_, .slice G1 p1 q1, .slice T1 t1 u1]), by (intro W' hW'; obtain ⟨c0, c1, c2, c3⟩ := HB1.out W' hW'; go_simp), ?_⟩
      go_simp
      refine hK _ ?_
      clear hK K
      refine wpQuiet_step (fun K hK => ?_)
      rw [if_pos (by rfl)]
      refine ⟨(.bool true), by (intro W' hW'; go_simp; exact (HD1.out W' hW').mono fun e w'' h => ⟨h.1, hW'.trans (h.2.mono hW'.size)⟩), ?_⟩
      go_simp
      refine hK _ ?_
      clear hK K
      refine wpQuiet_step (fun K hK => ?_)
      rw [if_pos (by rfl)]
      refine ⟨(.slice (some ⟨bl, ol, none⟩) n c), by (intro W' hW'; go_simp), ?_⟩
      go_simp
      refine hK _ ?_
      clear hK K
      refine wpQuiet_step (fun K hK => ?_)
      rw [if_pos (by rfl)]
      refine ⟨(.slice (some ⟨g, 0, none⟩) n cm), by (intro W' hW'; go_simp), ?_⟩
      go_simp
      refine hK _ ?_
      clear hK K
      refine wpQuiet_step (fun K hK => ?_)
      rw [if_pos (by rfl)]
      refine ⟨(.bool true), by (intro W' hW'; go_simp; exact (HD2.out W' hW').mono fun e w'' h => ⟨h.1, hW'.trans (h.2.mono hW'.size)⟩), ?_⟩
      go_simp
      refine hK _ ?_
      clear hK K
      refine wpQuiet_step (fun K hK => ?_)
      rw [if_pos (by rfl)]
      refine ⟨(.bool true), by (intro W' hW'; go_simp), ?_⟩
      go_simp
      refine hK _ ?_
      clear hK K
      refine wpQuiet_step (fun K hK => ?_)
      rw [if_pos (by rfl)]
      refine ⟨(.bool true), by (intro W' hW'; go_simp), ?_⟩
      go_simp
      refine hK _ ?_
      clear hK K
      refine wpQuiet_nil ?_
      intro W' hW'
      go_wp2
      go_ret
      exact RetB.mk rfl (hbw6.trans (hW'.mono hle))

end Go.Proofs.Ytlbgmegciomofaa

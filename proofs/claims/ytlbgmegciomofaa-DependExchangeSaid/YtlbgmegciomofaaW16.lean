/- SameAll; the program's Equivalent. -/
import Derived.Test.YtlbgmegciomofaaW15
namespace Go.Proofs.Ytlbgmegciomofaa
open Go.RowKit

theorem step_get {xs : List Step} {k : Nat} (h : k < xs.length) : xs[k]? = some (stepAt xs k) := by
  unfold stepAt
  rw [List.getD_eq_getElem?_getD, List.getElem?_eq_getElem h]
  rfl

set_option maxHeartbeats 2000000 in
theorem sameAll_any (w : World) (B : Nat) (n c m d : Nat) (A A' : Option Addr) (xs ys : List Step) (hx : Sl w (lt B) A n xs) (hy : Sl w (lt B) A' m ys) (hn : n ≤ 65536) (hm : m ≤ 65536) (hB : B ≤ w.heap.size) :
    Calls Try.prog 17 #[.slice A n c, .slice A' m d] w (RetB (.bool (eqBy eqStep xs ys)) w) := by
  have hl : Hid (xs.length = n) := hx.1
  have hl' : Hid (ys.length = m) := hy.1
  by_cases hnm : n = m
  · subst hnm
    have hb0 : ((n : Int) != (n : Int)) = false := by simp
    go_enter Try.func17, Try.ntmps17
    go_wp2
    go_loopw [5, 4] (fun i _ wr => ∃ k : Nat, k ≤ n ∧ i = .int .i64 k ∧ (∀ j x y, j < k → xs[j]? = some x → ys[j]? = some y → eqStep x y = true) ∧ Below w.heap.size w wr) (fun i _ _ => n - (intOf i).toNat)
    case atStart => exact ⟨0, Nat.zero_le _, rfl, fun j _ _ hj => absurd hj (by omega), Below.refl _ _⟩
    case round =>
      obtain ⟨w1, rfl⟩ : ∃ w1 : World, w1 = wr := ⟨_, rfl⟩
      obtain ⟨k, hk, rfl, hno, hb1⟩ := hrel
      have HN := Lib.hid hno
      clear hno
      by_cases hlt : k < n
      · obtain ⟨bl, ol, rfl, hbb, G, p, c1, T, q, d1, hp, hc1, hq, hd1, sg, st, e0, e1, e2, e3⟩ := (hx.below (hb1.mono hB)).step hlt
        obtain ⟨bl', ol', rfl, hbb', G', p', c1', T', q', d1', hp', hc1', hq', hd1', sg', st', f0, f1, f2, f3⟩ := (hy.below (hb1.mono hB)).step hlt
        have HX := Lib.hid (step_get (xs := xs) (k := k) (by rw [hl.out]; exact hlt))
        have HY := Lib.hid (step_get (xs := ys) (k := k) (by rw [hl'.out]; exact hlt))
        have hz := hb1.size
        cases hxy : eqStep (stepAt xs k) (stepAt ys k) with
        | true =>
          have HC := Lib.hid (refSame_b w1.drew B hxy sg st sg' st' hp hc1 hq hd1 hp' hc1' hq' hd1' (by show B ≤ w1.heap.size; omega))
          have HE := Lib.hid hxy
          clear hxy sg st sg' st' hc1 hd1 hc1' hd1'
          go_wp2
          refine region_still_tail 8 (by kernel_rfl) (by kernel_rfl) ?_
          simp only [List.take_succ_cons, List.take_zero, List.drop_succ_cons, List.drop_zero]
          iterate 8 (refine wpStill_step (fun K hK => ?_); go_simp; refine hK _ ?_; clear hK K)
          refine wpStill_nil ?_
          clear e0 e1 e2 e3 f0 f1 f2 f3
          go_wp2_with (go_at_call 19; refine HC.out.mono ?_; rintro e w5 ⟨rfl, hb5⟩)
          go_roundw
          case rel => exact ⟨k + 1, by omega, by go_num, eq_more HN.out HX.out HY.out HE.out, hb1.trans ((below_drewL hb5).mono hz)⟩
          case measure => simp [intOf]; omega
        | false =>
          have HC := Lib.hid (refSame_b w1.drew B hxy sg st sg' st' hp hc1 hq hd1 hp' hc1' hq' hd1' (by show B ≤ w1.heap.size; omega))
          have HE := Lib.hid hxy
          clear hxy sg st sg' st' hc1 hd1 hc1' hd1'
          go_wp2
          refine region_still_tail 8 (by kernel_rfl) (by kernel_rfl) ?_
          simp only [List.take_succ_cons, List.take_zero, List.drop_succ_cons, List.drop_zero]
          iterate 8 (refine wpStill_step (fun K hK => ?_); go_simp; refine hK _ ?_; clear hK K)
          refine wpStill_nil ?_
          clear e0 e1 e2 e3 f0 f1 f2 f3
          go_wp2_with (go_at_call 19; refine HC.out.mono ?_; rintro e w5 ⟨rfl, hb5⟩)
          go_ret
          exact RetB.mk (bool_eq (eqBy_no HX.out HY.out HE.out).symm) (hb1.trans ((below_drewL hb5).mono hz))
      · obtain rfl : k = n := by omega
        go_wp2
        go_ret
        exact RetB.mk (bool_eq (eqBy_yes hl.out hl'.out HN.out).symm) hb1
  · have hb0 : ((n : Int) != (m : Int)) = true := by simp; omega
    have hne : Hid (¬ n = m) := hnm
    clear hnm
    go_enter Try.func17, Try.ntmps17
    go_wp2
    go_ret
    exact RetB.mk (bool_eq (eqBy_len (by rw [hl.out, hl'.out]; exact hne.out)).symm) (Below.refl _ _)

/-- Equivalence, as the program decides it. -/
def equivI (a b : List Step) : Bool := validA a && validA b && eqBy eqStep (linS a) (linS b)

set_option maxHeartbeats 400000 in
theorem equivalent_no1 (w : World) (B : Nat) (n c m d : Nat) (A A' : Option Addr) (a b : List Step) (ha : Sl w (lt B) A n a) (hb : Sl w (lt B) A' m b) (hn : n ≤ 65536) (hm : m ≤ 65536) (hB : B ≤ w.heap.size) (va : validA a = false) :
    Calls Try.prog 15 #[.slice A n c, .slice A' m d] w (RetB (.bool (equivI a b)) w) := by
  have HR : Hid (equivI a b = false) := Lib.hid (by unfold equivI; rw [va]; rfl)
  have HC := Lib.hid (order_no w B n c A a ha hn va hB)
  clear va
  go_enter Try.func15, Try.ntmps15
  go_wp2_with fail
  refine HC.out.mono ?_
  rintro e w1 ⟨rfl, hb1⟩
  go_wp2_with fail
  cases vb : validA b with
  | false =>
    refine (order_no w1 B m d A' b (hb.below (hb1.mono hB)) hm vb (Nat.le_trans hB hb1.size)).mono ?_
    rintro e w2 ⟨rfl, hb2⟩
    clear vb
    go_wp2
    go_ret
    exact RetB.mk (bool_eq HR.out.symm) (hb1.trans (hb2.mono hb1.size))
  | true =>
    refine (order_yes w1 B m d A' b (hb.below (hb1.mono hB)) hm vb (Nat.le_trans hB hb1.size)).mono ?_
    rintro e w2 ⟨A2, c2, rfl, -, -, hb2, -⟩
    clear vb
    go_wp2
    go_ret
    exact RetB.mk (bool_eq HR.out.symm) (hb1.trans (hb2.mono hb1.size))

set_option maxHeartbeats 400000 in
theorem equivalent_no2 (w : World) (B : Nat) (n c m d : Nat) (A A' : Option Addr) (a b : List Step) (ha : Sl w (lt B) A n a) (hb : Sl w (lt B) A' m b) (hn : n ≤ 65536) (hm : m ≤ 65536) (hB : B ≤ w.heap.size) (va : validA a = true) (vb : validA b = false) :
    Calls Try.prog 15 #[.slice A n c, .slice A' m d] w (RetB (.bool (equivI a b)) w) := by
  have HR : Hid (equivI a b = false) := Lib.hid (by unfold equivI; rw [va, vb]; rfl)
  have HC := Lib.hid (order_yes w B n c A a ha hn va hB)
  have HV := Lib.hid vb
  clear va vb
  go_enter Try.func15, Try.ntmps15
  go_wp2_with fail
  refine HC.out.mono ?_
  rintro e w1 ⟨A1, c1, rfl, -, -, hb1, -⟩
  go_wp2_with fail
  refine (order_no w1 B m d A' b (hb.below (hb1.mono hB)) hm HV.out (Nat.le_trans hB hb1.size)).mono ?_
  rintro e w2 ⟨rfl, hb2⟩
  go_wp2
  go_ret
  exact RetB.mk (bool_eq HR.out.symm) (hb1.trans (hb2.mono hb1.size))

set_option maxHeartbeats 2000000 in
theorem equivalent_yes (w : World) (B : Nat) (n c m d : Nat) (A A' : Option Addr) (a b : List Step) (ha : Sl w (lt B) A n a) (hb : Sl w (lt B) A' m b) (hn : n ≤ 65536) (hm : m ≤ 65536) (hB : B ≤ w.heap.size) (va : validA a = true) (vb : validA b = true) :
    Calls Try.prog 15 #[.slice A n c, .slice A' m d] w (RetB (.bool (equivI a b)) w) := by
  have HR : Hid (equivI a b = eqBy eqStep (linS a) (linS b)) := Lib.hid (by unfold equivI; rw [va, vb]; rfl)
  have hla : Hid (a.length = n) := ha.1
  have hlb : Hid (b.length = m) := hb.1
  have HC := Lib.hid (order_yes w B n c A a ha hn va hB)
  have HV := Lib.hid vb
  clear va vb
  by_cases hnm : n = m
  · subst hnm
    have hb0 : ((n : Int) != (n : Int)) = false := by simp
    go_enter Try.func15, Try.ntmps15
    go_wp2_with fail
    refine HC.out.mono ?_
    rintro e w1 ⟨A1, c1, rfl, -, -, hb1, hs1⟩
    go_wp2_with fail
    refine (order_yes w1 B n d A' b (hb.below (hb1.mono hB)) hm HV.out (Nat.le_trans hB hb1.size)).mono ?_
    rintro e w2 ⟨A2, c2, rfl, -, -, hb2, hs2⟩
    have hs1' := (hs1.below hb2).mono hb2.size
    have hbw : Below w.heap.size w w2 := hb1.trans (hb2.mono hb1.size)
    clear hs1 HC
    go_wp2
    go_loopw [35, 9, 4] (fun i _ _ wr => ∃ k : Nat, k ≤ n ∧ i = .int .i64 k ∧ (∀ j x y, j < k → (linS a)[j]? = some x → (linS b)[j]? = some y → eqStep x y = true) ∧ Below w2.heap.size w2 wr) (fun i _ _ _ => n - (intOf i).toNat)
    case atStart => exact ⟨0, Nat.zero_le _, rfl, fun j _ _ hj => absurd hj (by omega), Below.refl _ _⟩
    case round =>
      obtain ⟨w3, rfl⟩ : ∃ w3 : World, w3 = wr := ⟨_, rfl⟩
      obtain ⟨k, hk, rfl, hno, hb3⟩ := hrel
      have HN := Lib.hid hno
      clear hno
      have hbw3 : Below w.heap.size w w3 := hbw.trans (hb3.mono hbw.size)
      have hz3 := hbw3.size
      by_cases hlt : k < n
      · have hka : k < a.length := by rw [hla.out]; exact hlt
        have hkb : k < b.length := by rw [hlb.out]; exact hlt
        obtain ⟨bo, oo, hA, hbo, eo⟩ := (hs1'.below hb3).int' hlt
        subst hA
        rw [out_at hka] at eo
        obtain ⟨bo', oo', hA, hbo', eo'⟩ := (hs2.below hb3).int' hlt
        subst hA
        rw [out_at hkb] at eo'
        have hma : outAt a k < n := by have := outAt_lt hka; rw [hla.out] at this; exact this
        have hmb : outAt b k < n := by have := outAt_lt hkb; rw [hlb.out] at this; exact this
        have HX := Lib.hid ((step_get (xs := linS a) (k := k) (by rw [linS_length]; exact hka)).trans (congrArg some (lin_at hka)))
        have HY := Lib.hid ((step_get (xs := linS b) (k := k) (by rw [linS_length]; exact hkb)).trans (congrArg some (lin_at hkb)))
        obtain ⟨ia, hia⟩ : ∃ ia, ia = outAt a k := ⟨_, rfl⟩
        obtain ⟨ib, hib⟩ : ∃ ib, ib = outAt b k := ⟨_, rfl⟩
        rw [← hia] at eo hma HX
        rw [← hib] at eo' hmb HY
        clear hia hib hka hkb
        obtain ⟨bl, ol, rfl, hbb, G, p, c1, T, q, d1, hp, hc1, hq, hd1, sg, st, e0, e1, e2, e3⟩ := (ha.below (hbw3.mono hB)).step hma
        obtain ⟨bl', ol', rfl, hbb', G', p', c1', T', q', d1', hp', hc1', hq', hd1', sg', st', f0, f1, f2, f3⟩ := (hb.below (hbw3.mono hB)).step hmb
        cases hxy : eqStep (stepAt a ia) (stepAt b ib) with
        | true =>
          have HC := Lib.hid (same_b w3.drew B hxy sg st sg' st' hp hc1 hq hd1 hp' hc1' hq' hd1' (by show B ≤ w3.heap.size; omega))
          have HE := Lib.hid hxy
          clear hxy sg st sg' st' hc1 hd1 hc1' hd1'
          go_wp2
          refine region_still_tail 14 (by kernel_rfl) (by kernel_rfl) ?_
          simp only [List.take_succ_cons, List.take_zero, List.drop_succ_cons, List.drop_zero]
          iterate 14 (refine wpStill_step (fun K hK => ?_); go_simp; refine hK _ ?_; clear hK K)
          refine wpStill_nil ?_
          clear e0 e1 e2 e3 f0 f1 f2 f3 eo eo'
          go_wp2_with (go_at_call 25; refine HC.out.mono ?_; rintro e w5 ⟨rfl, hb5⟩)
          go_roundw
          case rel => exact ⟨k + 1, by omega, by go_num, eq_more HN.out HX.out HY.out HE.out, hb3.trans ((below_drewL hb5).mono hb3.size)⟩
          case measure => simp [intOf]; omega
        | false =>
          have HC := Lib.hid (same_b w3.drew B hxy sg st sg' st' hp hc1 hq hd1 hp' hc1' hq' hd1' (by show B ≤ w3.heap.size; omega))
          have HE := Lib.hid hxy
          clear hxy sg st sg' st' hc1 hd1 hc1' hd1'
          go_wp2
          refine region_still_tail 14 (by kernel_rfl) (by kernel_rfl) ?_
          simp only [List.take_succ_cons, List.take_zero, List.drop_succ_cons, List.drop_zero]
          iterate 14 (refine wpStill_step (fun K hK => ?_); go_simp; refine hK _ ?_; clear hK K)
          refine wpStill_nil ?_
          clear e0 e1 e2 e3 f0 f1 f2 f3 eo eo'
          go_wp2_with (go_at_call 25; refine HC.out.mono ?_; rintro e w5 ⟨rfl, hb5⟩)
          go_ret
          exact RetB.mk (bool_eq (by rw [HR.out]; exact (eqBy_no HX.out HY.out HE.out).symm)) (hbw3.trans ((below_drewL hb5).mono hz3))
      · obtain rfl : k = n := by omega
        go_wp2
        go_ret
        exact RetB.mk (bool_eq (by rw [HR.out]; exact (eqBy_yes (by rw [linS_length]; exact hla.out) (by rw [linS_length]; exact hlb.out) HN.out).symm)) hbw3
  · have hb0 : ((n : Int) != (m : Int)) = true := by simp; omega
    have hne : Hid (¬ n = m) := hnm
    clear hnm
    go_enter Try.func15, Try.ntmps15
    go_wp2_with fail
    refine HC.out.mono ?_
    rintro e w1 ⟨A1, c1, rfl, -, -, hb1, hs1⟩
    go_wp2_with fail
    refine (order_yes w1 B m d A' b (hb.below (hb1.mono hB)) hm HV.out (Nat.le_trans hB hb1.size)).mono ?_
    rintro e w2 ⟨A2, c2, rfl, -, -, hb2, hs2⟩
    clear hs1 hs2 HC
    go_wp2
    go_ret
    exact RetB.mk (bool_eq (by rw [HR.out]; exact (eqBy_len (by rw [linS_length, linS_length, hla.out, hlb.out]; exact hne.out)).symm)) (hb1.trans (hb2.mono hb1.size))

theorem equivalent_any (w : World) (B : Nat) (n c m d : Nat) (A A' : Option Addr) (a b : List Step) (ha : Sl w (lt B) A n a) (hb : Sl w (lt B) A' m b) (hn : n ≤ 65536) (hm : m ≤ 65536) (hB : B ≤ w.heap.size) :
    Calls Try.prog 15 #[.slice A n c, .slice A' m d] w (RetB (.bool (equivI a b)) w) := by
  cases va : validA a with
  | false => exact equivalent_no1 w B n c m d A A' a b ha hb hn hm hB va
  | true =>
    cases vb : validA b with
    | false => exact equivalent_no2 w B n c m d A A' a b ha hb hn hm hB va vb
    | true => exact equivalent_yes w B n c m d A A' a b ha hb hn hm hB va vb

end Go.Proofs.Ytlbgmegciomofaa

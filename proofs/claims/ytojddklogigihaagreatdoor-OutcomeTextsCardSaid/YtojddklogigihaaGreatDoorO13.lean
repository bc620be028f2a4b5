/- The reference's numeral of any number. -/
import Derived.Test.YtojddklogigihaaGreatDoorO12
namespace Go.Proofs.YtojddklogigihaaGreatDoor
open Go.RowKit Go.Lib

set_option maxRecDepth 100000 in
set_option maxHeartbeats 1000000 in
theorem rnumber_any (n : Int) (hn : -9223372036854775808 ≤ n ∧ n ≤ 9223372036854775807) (w : World) :
    Calls Tryz.prog 20 #[.int .i64 n] w (RetB (.string ⟨(itoa n).toArray⟩) w) := by
  by_cases h0 : 0 ≤ n
  · obtain ⟨u, rfl⟩ : ∃ u : Nat, n = (u : Int) := ⟨n.toNat, by omega⟩
    have hb0 : decide ((0 : Int) ≤ (u : Int)) = true := by simp
    have hN := Lib.hid (num_any u (by omega))
    rw [itoa_nonneg]
    go_enter Tryz.func20, Tryz.ntmps20
    go_wp2_with (go_at_call 34; refine (hN.out w).mono ?_; rintro e w2 ⟨rfl, hb2⟩)
    go_ret
    exact RetB.mk rfl hb2
  · obtain ⟨m, hm⟩ : ∃ m : Nat, m = n.natAbs := ⟨_, rfl⟩
    have hm1 : n = -(m : Int) := by omega
    obtain ⟨q, hq⟩ : ∃ q, q = m / 10 := ⟨_, rfl⟩
    obtain ⟨d, hd⟩ : ∃ d, d = m % 10 := ⟨_, rfl⟩
    have hd10 : d < 10 := by omega
    obtain ⟨nd, hnd⟩ : ∃ nd : Int, nd = -(d : Int) := ⟨_, rfl⟩
    have hd1 : n.tmod 10 = nd := by rw [hm1, Int.neg_tmod, Int.tmod_eq_emod_of_nonneg (by omega)]; omega
    have hd2 : IntKind.i64.wrap nd = nd := IntWalk.i64_in _ (by omega)
    have hd3 : IntKind.i64.wrap (-nd) = (d : Int) := (IntWalk.i64_in _ (by omega)).trans (by omega)
    have hb0 : decide ((0 : Int) ≤ n) = false := by simpa using h0
    have hD := Lib.hid (num_any d (by omega))
    have hD1 : decDigits d = [UInt8.ofNat (48 + d)] := Tx.dec_small hd10
    by_cases h10 : m < 10
    · have hb1 : decide (n ≤ -10) = false := by simp; omega
      obtain ⟨ds, hds⟩ : ∃ ds, ds = decDigits d := ⟨_, rfl⟩
      have HE : Hid (itoa n = [45] ++ [] ++ ds) := Lib.hid (by
        unfold itoa
        rw [if_pos (by omega), ← hm, hds]
        rw [show d = m by omega]
        rfl)
      have hl : ds.length = 1 := by rw [hds, hD1]; rfl
      have ha1 := str_add Tryz.prog [45] [] (by simp)
      have ha2 := str_add Tryz.prog ([45] ++ []) ds (by simp [hl])
      simp only [List.append_nil] at ha1 ha2 HE
      have hD' : Hid (∀ w, Calls Tryz.prog 34 #[.int .i64 (d : Int)] w (RetB (.string ⟨ds.toArray⟩) w)) := Lib.hid (by rw [hds]; exact hD.out)
      clear hm hm1 hq hd hnd hD1 hds hD hl h0 h10 hd10
      go_enter Tryz.func20, Tryz.ntmps20
      go_wp2_with (go_at_call 34; refine (hD'.out w).mono ?_; rintro e w2 ⟨rfl, hb2⟩)
      go_ret
      exact RetB.mk (by rw [HE.out]; rfl) hb2
    · have hb1 : decide (n ≤ -10) = true := by simp; omega
      obtain ⟨nq, hnq⟩ : ∃ nq : Int, nq = -(q : Int) := ⟨_, rfl⟩
      have hq1 : n.tdiv 10 = nq := by rw [hm1, Int.neg_tdiv, Int.tdiv_eq_ediv_of_nonneg (by omega)]; omega
      have hq2 : IntKind.i64.wrap nq = nq := IntWalk.i64_in _ (by omega)
      have hq3 : IntKind.i64.wrap (-nq) = (q : Int) := (IntWalk.i64_in _ (by omega)).trans (by omega)
      have hQ := Lib.hid (num_any q (by omega))
      have hlq := dec_len (u := q) (by omega)
      obtain ⟨ds, hds⟩ : ∃ ds, ds = decDigits d := ⟨_, rfl⟩
      obtain ⟨qs, hqs⟩ : ∃ qs, qs = decDigits q := ⟨_, rfl⟩
      have HE : Hid (itoa n = (45 :: qs) ++ ds) := Lib.hid (by
        unfold itoa
        rw [if_pos (by omega), ← hm, hds, hqs, hD1, Tx.dec_big h10, ← hq, ← hd]
        simp)
      have hl : ds.length = 1 := by rw [hds, hD1]; rfl
      have ha1 : ∀ W, (Op.stringOp .add ⟨#[45]⟩ ⟨qs.toArray⟩).run Tryz.prog W = .ok (.string ⟨(45 :: qs).toArray⟩) W := str_add Tryz.prog [45] qs (by rw [hqs]; simp; omega)
      have ha2 := str_add Tryz.prog (45 :: qs) ds (by rw [hqs]; simp [hl]; omega)
      have hD' : Hid (∀ w, Calls Tryz.prog 34 #[.int .i64 (d : Int)] w (RetB (.string ⟨ds.toArray⟩) w)) := Lib.hid (by rw [hds]; exact hD.out)
      have hQ' : Hid (∀ w, Calls Tryz.prog 34 #[.int .i64 (q : Int)] w (RetB (.string ⟨qs.toArray⟩) w)) := Lib.hid (by rw [hqs]; exact hQ.out)
      clear hm hm1 hq hd hnd hD1 hds hqs hD hQ hl h0 h10 hd10 hnq hlq
      go_enter Tryz.func20, Tryz.ntmps20
      go_wp2_with (first
        | (have _ := flag1; go_at_call 34; refine (hD'.out w2).mono ?_; rintro e w3 ⟨rfl, hb3⟩)
        | (go_at_call 34; refine (hQ'.out w).mono ?_; rintro e w2 ⟨rfl, hb2⟩; have flag1 := True.intro))
      go_ret
      exact RetB.mk (by rw [HE.out]; rfl) (hb2.trans (hb3.mono hb2.size))
end Go.Proofs.YtojddklogigihaaGreatDoor

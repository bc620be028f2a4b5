/- The laws on Dependent and Canonical: walks. -/
import Derived.Test.YtlbgmegciomofaaW13
namespace Go.Proofs.Ytlbgmegciomofaa
open Go.RowKit

theorem few_s (w : World) (B n c : Nat) {A : Option Addr} {l : List Step} {b : Bool} (hb : fewS l = b) (hl : Sl w (lt B) A n l) (hn : n ≤ maxLen) :
    Calls Try.prog 8 #[.slice A n c] w (Ret (.bool b) w) := hb ▸ few_any w B n c A l hl hn

theorem few_le {l : List Step} (h : fewS l = true) : l.length ≤ 16 := by
  unfold fewS at h
  simp only [Bool.and_eq_true, decide_eq_true_eq] at h
  exact h.1

set_option maxHeartbeats 400000 in
theorem lawCanonical_any (w : World) (n c : Nat) (A : Option Addr) (l : List Step) (hl : Sl w (lt w.heap.size) A n l) (hn : n ≤ maxLen) :
    Calls Try.prog 4 #[.slice A n c] w (RetB (.bool true) w) := by
  have hlen : Hid (l.length = n) := hl.1
  cases hf : fewS l with
  | false =>
    have HF := Lib.hid hf
    clear hf
    go_enter Try.func4, Try.ntmps4
    go_wp2_with fail
    refine (awake_any w).mono ?_
    rintro e w1 ⟨rfl, hb1⟩
    go_wp2_with fail
    refine (few_s w1 _ n c HF.out (hl.below hb1) hn).mono ?_
    rintro e w2 ⟨rfl, rfl⟩
    go_wp2
    go_ret
    exact RetB.mk rfl hb1
  | true =>
    have h16 := few_le hf
    have hn16 : n ≤ 65536 := by rw [hlen.out] at h16; omega
    have HF := Lib.hid hf
    clear hf h16
    go_enter Try.func4, Try.ntmps4
    go_wp2_with fail
    refine (awake_any w).mono ?_
    rintro e w1 ⟨rfl, hb1⟩
    go_wp2_with fail
    refine (few_s w1 _ n c HF.out (hl.below hb1) hn).mono ?_
    rintro e w2 ⟨rfl, rfl⟩
    go_wp2_with fail
    refine (canonical_any w1 w.heap.size n c A l (hl.below hb1) hn16 hb1.size).mono ?_
    rintro e w2 ⟨v, rfl, hb2, hown2⟩
    obtain ⟨A2, c2, hA, hc2, hm2, hs2⟩ := hown2.sl false_lt
    subst hA
    go_wp2_with fail
    refine (refCanonical_any w2 w.heap.size n c A l ((hl.below hb1).below (hb2.mono hb1.size)) hn16 (Nat.le_trans hb1.size hb2.size)).mono ?_
    rintro e w3 ⟨v, rfl, hb3, hown3⟩
    obtain ⟨A3, c3, hA, hc3, hm3, hs3⟩ := hown3.sl false_lt
    subst hA
    go_wp2_with fail
    refine (samePicks_any w3 _ _ _ _ _ _ _ _ _ _ (hs2.below hb3) hs3 (Nat.le_trans hc2 hm2) (Nat.le_trans hc3 hm3)).mono ?_
    rintro e w4 ⟨rfl, hb4⟩
    have hr := eqPicks_refl (canon l)
    go_wp2
    go_ret
    exact RetB.mk rfl (hb1.trans ((hb2.mono hb1.size).trans ((hb3.mono (Nat.le_trans hb1.size hb2.size)).trans (hb4.mono (Nat.le_trans hb1.size (Nat.le_trans hb2.size hb3.size))))))

theorem refDependent_b (w : World) (B : Nat) {s t : Step} {b : Bool} (hb : dep s t = b) {A1 T1 A2 T2 : Option Addr} {n1 k1 m1 d1 n2 k2 m2 d2 : Nat}
    (hg1 : Sl w (lt B) A1 n1 s.gs) (ht1 : Sl w (lt B) T1 m1 s.touches) (hg2 : Sl w (lt B) A2 n2 t.gs) (ht2 : Sl w (lt B) T2 m2 t.touches) (hn1 : n1 ≤ k1) (hk1 : k1 ≤ maxLen) (hm1 : m1 ≤ d1) (hd1 : d1 ≤ maxLen) (hn2 : n2 ≤ k2) (hk2 : k2 ≤ maxLen) (hm2 : m2 ≤ d2) (hd2 : d2 ≤ maxLen) (hB : B ≤ w.heap.size) :
    Calls Try.prog 10 #[.agg #[.int .i64 s.g, .int .i64 s.case_, .slice A1 n1 k1, .slice T1 m1 d1], .agg #[.int .i64 t.g, .int .i64 t.case_, .slice A2 n2 k2, .slice T2 m2 d2]] w (RetB (.bool b) w) :=
  hb ▸ refDependent_s w B s t hg1 ht1 hg2 ht2 hn1 hk1 hm1 hd1 hn2 hk2 hm2 hd2 hB

theorem region_quietB {P : Program} {id : Nat} {Q : Exit → Act → World → Prop} {a : Act} {w : World} {l : List Oper} (hm : P.follows .mixedOrders = true) (hB : Region.lexB .any l.toArray = true)
    (h : wpQuiet P l.toArray (Below w.heap.size w) (fun a' => ∀ w', Below w.heap.size w w' → Q .normal a' w') l a) : (Code.region id l.toArray true).wp P Q a w :=
  wp_region_quiet (C := Below w.heap.size w) hm hB ⟨rfl, rfl, rfl, Nat.le_refl _, fun _ _ => rfl⟩ (by simpa using h)

set_option maxHeartbeats 2000000 in
theorem lawDependent_any (w : World) (s t : Step) (A1 T1 A2 T2 : Option Addr) (n1 k1 m1 d1 n2 k2 m2 d2 : Nat)
    (sg : Sl w (lt w.heap.size) A1 n1 s.gs) (st : Sl w (lt w.heap.size) T1 m1 s.touches) (tg : Sl w (lt w.heap.size) A2 n2 t.gs) (tt : Sl w (lt w.heap.size) T2 m2 t.touches)
    (hn1 : n1 ≤ k1) (hk1 : k1 ≤ maxLen) (hm1 : m1 ≤ d1) (hd1 : d1 ≤ maxLen) (hn2 : n2 ≤ k2) (hk2 : k2 ≤ maxLen) (hm2 : m2 ≤ d2) (hd2 : d2 ≤ maxLen) :
    Calls Try.prog 3 #[.agg #[.int .i64 s.g, .int .i64 s.case_, .slice A1 n1 k1, .slice T1 m1 d1], .agg #[.int .i64 t.g, .int .i64 t.case_, .slice A2 n2 k2, .slice T2 m2 d2]] w (RetB (.bool true) w) := by
  go_enter Try.func3, Try.ntmps3
  go_wp2_with fail
  refine (awake_any _).mono ?_
  rintro e w1 ⟨rfl, hb1⟩
  have hbw : Below w.heap.size w w1 := (((Below.refl _ _).alloc (Nat.le_refl _) _).alloc (by simp) _).trans (hb1.mono (by simp; omega))
  have hx1 : Blk w1 w.heap.size 27 #[.int .i64 s.g, .int .i64 s.case_, .slice A1 n1 k1, .slice T1 m1 d1] := ((Blk.new w _ _).alloc _).below hb1 (by simp; omega)
  have hx2 : Blk w1 (w.heap.size + 1) 27 #[.int .i64 t.g, .int .i64 t.case_, .slice A2 n2 k2, .slice T2 m2 d2] := (blk_new _ _ _ (by simp)).below hb1 (by simp)
  have hz := hbw.size
  have hl1 := hx1.lt
  have hl2 := hx2.lt
  have c10 : w1.cell? ⟨w.heap.size, 0, none⟩ = some (.int .i64 s.g) := hx1.at_ 0 rfl
  have c11 : w1.cell? ⟨w.heap.size, 1, none⟩ = some (.int .i64 s.case_) := hx1.at_ 1 rfl
  have c12 : w1.cell? ⟨w.heap.size, 2, none⟩ = some (.slice A1 n1 k1) := hx1.at_ 2 rfl
  have c13 : w1.cell? ⟨w.heap.size, 3, none⟩ = some (.slice T1 m1 d1) := hx1.at_ 3 rfl
  have c20 : w1.cell? ⟨w.heap.size + 1, 0, none⟩ = some (.int .i64 t.g) := hx2.at_ 0 rfl
  have c21 : w1.cell? ⟨w.heap.size + 1, 1, none⟩ = some (.int .i64 t.case_) := hx2.at_ 1 rfl
  have c22 : w1.cell? ⟨w.heap.size + 1, 2, none⟩ = some (.slice A2 n2 k2) := hx2.at_ 2 rfl
  have c23 : w1.cell? ⟨w.heap.size + 1, 3, none⟩ = some (.slice T2 m2 d2) := hx2.at_ 3 rfl
  have HS : Hid (∀ W, Below w.heap.size w W → Blk W w1.heap.size 27 ([.int .i64 s.g, .int .i64 s.case_, .slice A1 n1 k1, .slice T1 m1 d1] ++ [.int .i64 t.g, .int .i64 t.case_, .slice A2 n2 k2, .slice T2 m2 d2] : List Value).toArray →
      Sl W (lt (w1.heap.size + 1)) (some ⟨w1.heap.size, 0, none⟩) 2 [s, t]) := fun W hW hB =>
    sl_pair (rep_step hn1 hk1 hm1 hd1 ((sg.below hW).mono (by omega)) ((st.below hW).mono (by omega))) (rep_step hn2 hk2 hm2 hd2 ((tg.below hW).mono (by omega)) ((tt.below hW).mono (by omega))) (by show w1.heap.size < w1.heap.size + 1; omega) hB
  cases hf : fewS [s, t] with
  | false =>
    have HF := Lib.hid hf
    clear hf
    go_wp2_with fail
    refine (few_s _ (w1.heap.size + 1) 2 2 HF.out (HS.out _ (hbw.alloc hz _) (Blk.new _ _ _)) (by unfold maxLen; omega)).mono ?_
    rintro e w2 ⟨rfl, rfl⟩
    go_wp2
    go_ret
    exact RetB.mk rfl (hbw.alloc hz _)
  | true =>
    have HF := Lib.hid hf
    clear hf
    go_wp2_with fail
    refine (few_s _ (w1.heap.size + 1) 2 2 HF.out (HS.out _ (hbw.alloc hz _) (Blk.new _ _ _)) (by unfold maxLen; omega)).mono ?_
    rintro e w2 ⟨rfl, rfl⟩
    obtain ⟨W, hW⟩ : ∃ W, W = w1.alloc (.cells #[.int .i64 s.g, .int .i64 s.case_, .slice A1 n1 k1, .slice T1 m1 d1, .int .i64 t.g, .int .i64 t.case_, .slice A2 n2 k2, .slice T2 m2 d2] 27) := ⟨_, rfl⟩
    have hbW : Below w.heap.size w W := by rw [hW]; exact hbw.alloc hz _
    have hyW1 : Blk W w.heap.size 27 #[.int .i64 s.g, .int .i64 s.case_, .slice A1 n1 k1, .slice T1 m1 d1] := by rw [hW]; exact hx1.alloc _
    have hyW2 : Blk W (w.heap.size + 1) 27 #[.int .i64 t.g, .int .i64 t.case_, .slice A2 n2 k2, .slice T2 m2 d2] := by rw [hW]; exact hx2.alloc _
    have hzW := hbW.size
    have HB1 : Hid (∀ W', Below W.heap.size W W' → Blk W' w.heap.size 27 #[.int .i64 s.g, .int .i64 s.case_, .slice A1 n1 k1, .slice T1 m1 d1]) := fun W' h => hyW1.below h hyW1.lt
    have HB2 : Hid (∀ W', Below W.heap.size W W' → Blk W' (w.heap.size + 1) 27 #[.int .i64 t.g, .int .i64 t.case_, .slice A2 n2 k2, .slice T2 m2 d2]) := fun W' h => hyW2.below h hyW2.lt
    obtain ⟨dd, hdd⟩ : ∃ dd, dep s t = dd := ⟨_, rfl⟩
    have hdd' : dep t s = dd := by rw [dep_symm]; exact hdd
    have HD1 := Lib.hid fun W' (h : Below W.heap.size W W') => dependent_b W' w.heap.size hdd (sg.below (hbW.trans (h.mono hzW))) (st.below (hbW.trans (h.mono hzW))) (tg.below (hbW.trans (h.mono hzW))) (tt.below (hbW.trans (h.mono hzW))) hn1 hk1 hm1 hd1 hn2 hk2 hm2 hd2 (Nat.le_trans hzW h.size)
    have HD2 := Lib.hid fun W' (h : Below W.heap.size W W') => refDependent_b W' w.heap.size hdd (sg.below (hbW.trans (h.mono hzW))) (st.below (hbW.trans (h.mono hzW))) (tg.below (hbW.trans (h.mono hzW))) (tt.below (hbW.trans (h.mono hzW))) hn1 hk1 hm1 hd1 hn2 hk2 hm2 hd2 (Nat.le_trans hzW h.size)
    have HD3 := Lib.hid fun W' (h : Below W.heap.size W W') => dependent_b W' w.heap.size hdd' (tg.below (hbW.trans (h.mono hzW))) (tt.below (hbW.trans (h.mono hzW))) (sg.below (hbW.trans (h.mono hzW))) (st.below (hbW.trans (h.mono hzW))) hn2 hk2 hm2 hd2 hn1 hk1 hm1 hd1 (Nat.le_trans hzW h.size)
    have HW := Lib.hid hW
    clear hW hdd hdd' hx1 hx2 c10 c11 c12 c13 c20 c21 c22 c23 hyW1 hyW2 sg st tg tt hn1 hk1 hm1 hd1 hn2 hk2 hm2 hd2
    go_wp2_with fail
    rw [← HW.out]
    refine region_quietB (by kernel_rfl) (by kernel_rfl) ?_
    refine wpQuiet_step (fun K hK => ?_)
    rw [if_pos (by rfl)]
    refine ⟨(.agg #[.int .i64 s.g, .int .i64 s.case_, .slice A1 n1 k1, .slice T1 m1 d1]), by (intro W' hW'; have c0 := (HB1.out W' hW').at_ 0 rfl; have c1 := (HB1.out W' hW').at_ 1 rfl; have c2 := (HB1.out W' hW').at_ 2 rfl; have c3 := (HB1.out W' hW').at_ 3 rfl; go_simp), ?_⟩
    go_simp
    refine hK _ ?_
    clear hK K
    refine wpQuiet_step (fun K hK => ?_)
    rw [if_pos (by rfl)]
    refine ⟨(.agg #[.int .i64 t.g, .int .i64 t.case_, .slice A2 n2 k2, .slice T2 m2 d2]), by (intro W' hW'; have c0 := (HB2.out W' hW').at_ 0 rfl; have c1 := (HB2.out W' hW').at_ 1 rfl; have c2 := (HB2.out W' hW').at_ 2 rfl; have c3 := (HB2.out W' hW').at_ 3 rfl; go_simp), ?_⟩
    go_simp
    refine hK _ ?_
    clear hK K
    refine wpQuiet_step (fun K hK => ?_)
    rw [if_pos (by rfl)]
    refine ⟨(.bool dd), by (intro W' hW'; go_simp; exact (HD1.out W' hW').mono fun e w'' h => ⟨h.1, hW'.trans (h.2.mono hW'.size)⟩), ?_⟩
    go_simp
    refine hK _ ?_
    clear hK K
    refine wpQuiet_step (fun K hK => ?_)
    rw [if_pos (by rfl)]
    refine ⟨(.agg #[.int .i64 s.g, .int .i64 s.case_, .slice A1 n1 k1, .slice T1 m1 d1]), by (intro W' hW'; have c0 := (HB1.out W' hW').at_ 0 rfl; have c1 := (HB1.out W' hW').at_ 1 rfl; have c2 := (HB1.out W' hW').at_ 2 rfl; have c3 := (HB1.out W' hW').at_ 3 rfl; go_simp), ?_⟩
    go_simp
    refine hK _ ?_
    clear hK K
    refine wpQuiet_step (fun K hK => ?_)
    rw [if_pos (by rfl)]
    refine ⟨(.agg #[.int .i64 t.g, .int .i64 t.case_, .slice A2 n2 k2, .slice T2 m2 d2]), by (intro W' hW'; have c0 := (HB2.out W' hW').at_ 0 rfl; have c1 := (HB2.out W' hW').at_ 1 rfl; have c2 := (HB2.out W' hW').at_ 2 rfl; have c3 := (HB2.out W' hW').at_ 3 rfl; go_simp), ?_⟩
    go_simp
    refine hK _ ?_
    clear hK K
    refine wpQuiet_step (fun K hK => ?_)
    rw [if_pos (by rfl)]
    refine ⟨(.bool dd), by (intro W' hW'; go_simp; exact (HD2.out W' hW').mono fun e w'' h => ⟨h.1, hW'.trans (h.2.mono hW'.size)⟩), ?_⟩
    go_simp
    refine hK _ ?_
    clear hK K
    refine wpQuiet_step (fun K hK => ?_)
    rw [if_pos (by rfl)]
    refine ⟨(.bool true), by (intro W' hW'; go_simp), ?_⟩
    go_simp
    refine hK _ ?_
    clear hK K
    refine wpQuiet_step (fun K hK => ?_)
    rw [if_pos (by rfl)]
    refine ⟨(.bool true), by (intro W' hW'; go_simp), ?_⟩
    go_simp
    refine hK _ ?_
    clear hK K
    refine wpQuiet_step (fun K hK => ?_)
    rw [if_pos (by rfl)]
    refine ⟨(.agg #[.int .i64 t.g, .int .i64 t.case_, .slice A2 n2 k2, .slice T2 m2 d2]), by (intro W' hW'; have c0 := (HB2.out W' hW').at_ 0 rfl; have c1 := (HB2.out W' hW').at_ 1 rfl; have c2 := (HB2.out W' hW').at_ 2 rfl; have c3 := (HB2.out W' hW').at_ 3 rfl; go_simp), ?_⟩
    go_simp
    refine hK _ ?_
    clear hK K
    refine wpQuiet_step (fun K hK => ?_)
    rw [if_pos (by rfl)]
    refine ⟨(.agg #[.int .i64 s.g, .int .i64 s.case_, .slice A1 n1 k1, .slice T1 m1 d1]), by (intro W' hW'; have c0 := (HB1.out W' hW').at_ 0 rfl; have c1 := (HB1.out W' hW').at_ 1 rfl; have c2 := (HB1.out W' hW').at_ 2 rfl; have c3 := (HB1.out W' hW').at_ 3 rfl; go_simp), ?_⟩
    go_simp
    refine hK _ ?_
    clear hK K
    refine wpQuiet_step (fun K hK => ?_)
    rw [if_pos (by rfl)]
    refine ⟨(.bool dd), by (intro W' hW'; go_simp; exact (HD3.out W' hW').mono fun e w'' h => ⟨h.1, hW'.trans (h.2.mono hW'.size)⟩), ?_⟩
    go_simp
    refine hK _ ?_
    clear hK K
    refine wpQuiet_step (fun K hK => ?_)
    rw [if_pos (by rfl)]
    refine ⟨(.agg #[.int .i64 s.g, .int .i64 s.case_, .slice A1 n1 k1, .slice T1 m1 d1]), by (intro W' hW'; have c0 := (HB1.out W' hW').at_ 0 rfl; have c1 := (HB1.out W' hW').at_ 1 rfl; have c2 := (HB1.out W' hW').at_ 2 rfl; have c3 := (HB1.out W' hW').at_ 3 rfl; go_simp), ?_⟩
    go_simp
    refine hK _ ?_
    clear hK K
    refine wpQuiet_step (fun K hK => ?_)
    rw [if_pos (by rfl)]
    refine ⟨(.agg #[.int .i64 t.g, .int .i64 t.case_, .slice A2 n2 k2, .slice T2 m2 d2]), by (intro W' hW'; have c0 := (HB2.out W' hW').at_ 0 rfl; have c1 := (HB2.out W' hW').at_ 1 rfl; have c2 := (HB2.out W' hW').at_ 2 rfl; have c3 := (HB2.out W' hW').at_ 3 rfl; go_simp), ?_⟩
    go_simp
    refine hK _ ?_
    clear hK K
    refine wpQuiet_step (fun K hK => ?_)
    rw [if_pos (by rfl)]
    refine ⟨(.bool dd), by (intro W' hW'; go_simp; exact (HD2.out W' hW').mono fun e w'' h => ⟨h.1, hW'.trans (h.2.mono hW'.size)⟩), ?_⟩
    go_simp
    refine hK _ ?_
    clear hK K
    refine wpQuiet_step (fun K hK => ?_)
    rw [if_pos (by rfl)]
    refine ⟨(.bool true), by (intro W' hW'; go_simp), ?_⟩
    go_simp
    refine hK _ ?_
    clear hK K
    refine wpQuiet_step (fun K hK => ?_)
    rw [if_pos (by rfl)]
    refine ⟨(.bool true), by (intro W' hW'; go_simp), ?_⟩
    go_simp
    refine hK _ ?_
    clear hK K
    refine wpQuiet_step (fun K hK => ?_)
    rw [if_pos (by rfl)]
    refine ⟨(.bool true), by (intro W' hW'; go_simp), ?_⟩
    go_simp
    refine hK _ ?_
    clear hK K
    refine wpQuiet_nil ?_
    intro W' hW'
    go_wp2
    go_ret
    exact RetB.mk rfl (hbW.trans (hW'.mono hzW))

end Go.Proofs.Ytlbgmegciomofaa

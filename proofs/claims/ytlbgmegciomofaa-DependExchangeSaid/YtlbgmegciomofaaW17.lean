/- The reference's Equivalent. -/
import Derived.Test.YtlbgmegciomofaaW16
import Derived.Test.YtlbgmegciomofaaB1
import Derived.Deep.RegionLaw
namespace Go.Proofs.Ytlbgmegciomofaa
open Go.RowKit

theorem validA_all {l : List Step} (h : validA l = true) : ∀ z, z ∈ l → validS z = true := by
  unfold validA at h
  exact List.all_eq_true.1 h
theorem eqSteps_iff (a b : List Step) : eqBy eqStep a b = true ↔ a = b := eqBy_eq eqStep_iff a b
theorem equiv_iff {a b : List Step} (va : validA a = true) (vb : validA b = true) : equivI a b = true ↔ refE a b := by
  unfold equivI
  rw [va, vb, Bool.true_and, Bool.true_and, eqSteps_iff, lin_iff (validA_all va) (validA_all vb)]
theorem equiv_no {a b : List Step} (va : validA a = true) (vb : validA b = true) (h : ¬ refE a b) : equivI a b = false := by
  cases he : equivI a b with
  | false => rfl
  | true => exact absurd ((equiv_iff va vb).1 he) h

theorem drop_step {l : List Step} {i : Nat} (h : i < l.length) : l.drop i = stepAt l i :: l.drop (i + 1) := by
  rw [List.drop_eq_getElem_cons h]
  unfold stepAt
  rw [List.getD_eq_getElem?_getD, List.getElem?_eq_getElem h]
  rfl
theorem take1_found {x : Step} : ∀ {R : List Step} {k : Nat}, k < R.length → (∀ j, j < k → eqStep (stepAt R j) x = false ∧ dep (stepAt R j) x = false) → eqStep (stepAt R k) x = true → take1 x R = some (R.take k ++ R.drop (k + 1))
  | [], _, h, _, _ => by simp at h
  | y :: R, 0, _, _, he => by
    have hy : y = x := (eqStep_iff _ _).1 he
    subst hy
    rw [take1_self]
    rfl
  | y :: R, k + 1, h, hno, he => by
    obtain ⟨h1, h2⟩ := hno 0 (by omega)
    have hy : y ≠ x := fun e => by
      have : eqStep y x = true := (eqStep_iff _ _).2 e
      rw [show eqStep y x = false from h1] at this
      cases this
    rw [take1_skip hy h2, take1_found (R := R) (k := k) (by simpa using h) (fun j hj => by have := hno (j + 1) (by omega); rw [stepAt_succ] at this; exact this) (by rw [stepAt_succ] at he; exact he)]
    rfl
theorem take1_dep {x : Step} : ∀ {R : List Step} {k : Nat}, k < R.length → (∀ j, j < k → eqStep (stepAt R j) x = false ∧ dep (stepAt R j) x = false) → eqStep (stepAt R k) x = false → dep (stepAt R k) x = true → take1 x R = none
  | [], _, h, _, _, _ => by simp at h
  | y :: R, 0, _, _, he, hd => by
    have hy : y ≠ x := fun e => by
      have : eqStep y x = true := (eqStep_iff _ _).2 e
      rw [show eqStep y x = false from he] at this
      cases this
    exact take1_stop hy hd R
  | y :: R, k + 1, h, hno, he, hd => by
    obtain ⟨h1, h2⟩ := hno 0 (by omega)
    have hy : y ≠ x := fun e => by
      have : eqStep y x = true := (eqStep_iff _ _).2 e
      rw [show eqStep y x = false from h1] at this
      cases this
    rw [take1_skip hy h2, take1_dep (R := R) (k := k) (by simpa using h) (fun j hj => by have := hno (j + 1) (by omega); rw [stepAt_succ] at this; exact this) (by rw [stepAt_succ] at he; exact he) (by rw [stepAt_succ] at hd; exact hd)]
    rfl
theorem take1_end {x : Step} : ∀ {R : List Step}, (∀ j, j < R.length → eqStep (stepAt R j) x = false ∧ dep (stepAt R j) x = false) → take1 x R = none
  | [], _ => rfl
  | y :: R, hno => by
    obtain ⟨h1, h2⟩ := hno 0 (by simp)
    have hy : y ≠ x := fun e => by
      have : eqStep y x = true := (eqStep_iff _ _).2 e
      rw [show eqStep y x = false from h1] at this
      cases this
    rw [take1_skip hy h2, take1_end (R := R) fun j hj => by have := hno (j + 1) (by simpa using hj); rw [stepAt_succ] at this; exact this]
    rfl
theorem refE_next {a R b : List Step} {i : Nat} (hi : i < a.length) (h : refE (a.drop i) R ↔ refE a b) {R' : List Step} (ht : take1 (stepAt a i) R = some R') : refE (a.drop (i + 1)) R' ↔ refE a b := by
  rw [← h, drop_step hi]
  constructor
  · exact fun h' => ⟨R', ht, h'⟩
  · rintro ⟨R'', h1, h2⟩
    rw [ht] at h1
    injection h1 with h1
    subst h1
    exact h2
theorem refE_none {a R b : List Step} {i : Nat} (hi : i < a.length) (h : refE (a.drop i) R ↔ refE a b) (ht : take1 (stepAt a i) R = none) : ¬ refE a b := by
  rw [← h, drop_step hi]
  rintro ⟨R'', h1, _⟩
  rw [ht] at h1
  cases h1

theorem Own.empty {α : Type} [Rep α] (W : World) (base : Nat) (E : TypeId) (F : Nat → Prop) (hb : base ≤ W.heap.size) : Own (α := α) (W.alloc (.cells #[] E)) base E F (.slice (some ⟨W.heap.size, 0, none⟩) 0 0) [] :=
  ⟨[], ⟨by simp, .inr ⟨W.heap.size, 0, #[], rfl, hb, Blk.new W E #[], Nat.le_refl _, Nat.zero_le _, by simp, by simp⟩⟩, fun i x h => by simp at h⟩

set_option maxHeartbeats 4000000 in
theorem refEquivalent_yes (w : World) (B : Nat) (n c d : Nat) (A A' : Option Addr) (a b : List Step) (ha : Sl w (lt B) A n a) (hb : Sl w (lt B) A' n b) (hn : n ≤ 65536) (hB : B ≤ w.heap.size) (va : validA a = true) (vb : validA b = true) :
    Calls Try.prog 14 #[.slice A n c, .slice A' n d] w (RetB (.bool (equivI a b)) w) := by
  have hla : Hid (a.length = n) := ha.1
  have hlb : Hid (b.length = n) := hb.1
  have HVA := Lib.hid va
  have HVB := Lib.hid vb
  clear va vb
  obtain ⟨i0, hi, hz0, hz1, hz2⟩ := info_parts info_step
  have HI := Lib.hid (And.intro hi (And.intro hz0 (And.intro hz1 hz2)))
  clear hi hz0 hz1 hz2
  have hb0 : ((n : Int) != (n : Int)) = false := by simp
  go_enter Try.func14, Try.ntmps14
  go_wp2_with fail
  refine (refValidAll_s w B n c HVA.out ha hn hB).mono ?_
  rintro e w1 ⟨rfl, hb1⟩
  go_wp2_with fail
  refine (refValidAll_s w1 B n d HVB.out (hb.below (hb1.mono hB)) hn (Nat.le_trans hB hb1.size)).mono ?_
  rintro e w2 ⟨rfl, hb2⟩
  have hbw2 : Below w.heap.size w w2 := hb1.trans (hb2.mono hb1.size)
  have hz2 := hbw2.size
  have HO := Lib.hid (Own.empty (α := Step) w2 w.heap.size 27 (lt B) hz2)
  have HBO := Lib.hid (hbw2.alloc hz2 (.cells #[] 27))
  have HS := Lib.hid ((hb.below (HBO.out.mono hB)).src)
  go_wp2_with (at_builtin; refine wpList_cat (α := Step) rfl (.tmp 24) (.tmp 25) 30 rfl w.heap.size 27 i0 (.agg #[.int .i64 0, .int .i64 0, .slice none 0 0, .slice none 0 0]) 64 Try.underlying30 HI.out.1 HI.out.2.1 HI.out.2.2.1 HI.out.2.2.2 rfl (by decide) (lt B) _ [] b A' n d rfl HO.out rfl HS.out (fun b hb => Nat.lt_of_lt_of_le hb hB) HBO.out.size (by unfold maxLen; simp; omega) (by simp; omega) ?_; intro v1 w3 hown3 hg3 hat3)
  have hb3 : Below w.heap.size w w3 := own_below HO.out HBO.out hg3 (Nat.le_refl _) HBO.out.size
  rw [List.nil_append] at hown3
  clear hg3 hat3
  go_loopw [6, 5] (fun i rest wr => ∃ (q : Nat) (R : List Step), q ≤ n ∧ i = .int .i64 q ∧ R.length + q = n ∧ (refE (a.drop q) R ↔ refE a b) ∧ Own wr w.heap.size 27 (lt B) rest R ∧ Below w.heap.size w wr) (fun i _ _ => n - (intOf i).toNat)
  case atStart => exact ⟨0, b, Nat.zero_le _, rfl, hlb.out, Iff.rfl, hown3, hb3⟩
  case round =>
    obtain ⟨w4, rfl⟩ : ∃ w4 : World, w4 = wr := ⟨_, rfl⟩
    obtain ⟨q, R, hq, rfl, hRl, hRE, hown, hb4⟩ := hrel
    have HRE := Lib.hid hRE
    clear hRE hown3 hb3
    have hz4 := hb4.size
    by_cases hlt : q < n
    · have hqa : Hid (q < a.length) := by rw [hla.out]; exact hlt
      obtain ⟨AR, cR, hAR, hcR, hmR, hslR⟩ := hown.sl (fun b hb => Nat.lt_of_lt_of_le hb (Nat.le_trans hB hz4))
      subst hAR
      obtain ⟨nR, hnR⟩ : ∃ nR, nR = R.length := ⟨_, rfl⟩
      rw [← hnR] at hslR hcR hown hRl ⊢
      have HNR := Lib.hid hnR
      clear hnR
      have hnR1 : nR ≤ n := by omega
      go_wp2
      go_loopw [8, 7] (fun k at_ wr => ∃ j : Nat, j ≤ nR ∧ k = .int .i64 j ∧ at_ = .int .i64 (-1) ∧ (∀ i, i < j → eqStep (stepAt R i) (stepAt a q) = false ∧ dep (stepAt R i) (stepAt a q) = false) ∧ Below w4.heap.size w4 wr) (fun k _ _ => nR - (intOf k).toNat)
      case atStart => exact ⟨0, Nat.zero_le _, rfl, rfl, fun i hi => absurd hi (by omega), Below.refl _ _⟩
      case round =>
        obtain ⟨w5, rfl⟩ : ∃ w5 : World, w5 = wr := ⟨_, rfl⟩
        obtain ⟨j, hj, rfl, rfl, hno, hb5⟩ := hrel
        have HN := Lib.hid hno
        clear hno
        have hbw5 : Below w.heap.size w w5 := hb4.trans (hb5.mono hz4)
        have hz5 := hbw5.size
        have hz45 := hb5.size
        by_cases hlj : j < nR
        · obtain ⟨br, or_, hA, hbr, G, p, c1, T, m, d1, hp, hc1, hm, hd1, sg, st, e0, e1, e2, e3⟩ := (hslR.below hb5).step hlj
          subst hA
          obtain ⟨bl, ol, hA, hbl, G', p', c1', T', m', d1', hp', hc1', hm', hd1', sg', st', f0, f1, f2, f3⟩ := (ha.below (hbw5.mono hB)).step hlt
          subst hA
          have hjR : Hid (j < R.length) := by rw [← HNR.out]; exact hlj
          cases hxy : eqStep (stepAt R j) (stepAt a q) with
          | true =>
            have HC := Lib.hid (refSame_b w5.drew w4.heap.size hxy sg st (sg'.mono (Nat.le_trans hB hz4)) (st'.mono (Nat.le_trans hB hz4)) hp hc1 hm hd1 hp' hc1' hm' hd1' hz45)
            have HE := Lib.hid hxy
            clear hxy sg st sg' st' hc1 hd1 hc1' hd1'
            go_wp2
            refine region_still_tail 8 (by kernel_rfl) (by kernel_rfl) ?_
            simp only [List.take_succ_cons, List.take_zero, List.drop_succ_cons, List.drop_zero]
            iterate 8 (refine wpStill_step (fun K hK => ?_); go_simp; refine hK _ ?_; clear hK K)
            refine wpStill_nil ?_
            clear e0 e1 e2 e3 f0 f1 f2 f3
            have dneg : decide ((j : Int) < 0) = false := decide_eq_false (by omega)
            go_wp2_with (go_at_call 19; refine HC.out.mono ?_; rintro e w6 ⟨rfl, hb6⟩)
            have hb56 : Below w4.heap.size w4 w6 := hb5.trans ((below_drewL hb6).mono hz45)
            have hbw6 : Below w.heap.size w w6 := hb4.trans (hb56.mono hz4)
            have hz6 := hbw6.size
            have hz46 := hb56.size
            have hbrl : br < w6.heap.size := by have : br < w4.heap.size := hbr; omega
            have hFB : ∀ b, lt B b → b < w4.heap.size := fun b hb => by have : b < B := hb; omega
            have hFB6 : ∀ b, lt B b → b < w6.heap.size := fun b hb => by have : b < B := hb; omega
            have hown6 := hown.ext hb56 hFB
            have hbe : Below w6.heap.size w6 (w6.drew.alloc (.cells #[] 27)) := (Below.refl _ _).drew.alloc (Nat.le_refl _) _
            have HO2 := Lib.hid (Own.empty (α := Step) w6.drew w.heap.size 27 (lt B) hz6)
            have HS2 := Lib.hid (((hown6.ext hbe hFB6).src HNR.out.symm).take_ (k := j) (by omega))
            have HR6 := Lib.hid (hown6.src HNR.out.symm)
            have HBE := Lib.hid hbe
            have hjc : j ≤ cR := by omega
            have hjc1 : j + 1 ≤ cR := by omega
            have HL1 : Hid (([] : List Step).length + j ≤ maxLen) := Lib.hid (by unfold maxLen; simp; omega)
            have HL2 : Hid ((([] : List Step).length + j) * 64 ≤ 140737488355328) := Lib.hid (by simp; omega)
            have HL3 : Hid (([] ++ R.take j : List Step).length + (nR - (j + 1)) ≤ maxLen) := Lib.hid (by unfold maxLen; simp; omega)
            have HL4 : Hid ((([] ++ R.take j : List Step).length + (nR - (j + 1))) * 64 ≤ 140737488355328) := Lib.hid (by simp; omega)
            have HL5 : Hid (w.heap.size ≤ (w6.drew.alloc (.cells #[] 27)).heap.size) := Lib.hid (Nat.le_trans hz6 HBE.out.size)
            have HL6 : Hid (∀ b, lt B b → b < w.heap.size) := Lib.hid (fun b hb => Nat.lt_of_lt_of_le hb hB)
            have HSD : Hid (∀ w7, World.grownBy (w6.drew.alloc (.cells #[] 27)) w7 (Value.slice (some ⟨w6.heap.size, 0, none⟩) 0 0).ownBlock →
                Src w7 (lt B) (if cR = j + 1 then some ⟨br, or_, none⟩ else some ⟨br, or_ + (j + 1) * 4, none⟩) (nR - (j + 1)) (R.drop (j + 1))) := Lib.hid (by
              intro w7 hg
              have hsame : ∀ g, g < w6.heap.size → w7.heap[g]? = w6.heap[g]? := fun g hgl => (hg.block g (by simp; omega) (by simp [Value.ownBlock]; omega)).trans (HBE.out.block g hgl)
              refine (HR6.out.keep (fun p hp => World.cell?_of_block (hsame _ (hFB6 _ hp))) (fun b o e k => ?_)).drop_ (by omega) (fun hlt b o e => ?_)
              · injection e with e
                injection e with e1 e2
                subst e1
                exact World.cell?_of_block (a := ⟨br, k, none⟩) (hsame br hbrl)
              · injection e with e
                injection e with e1 e2
                subst e1
                subst e2
                rw [if_neg (by omega)]
                rfl)
            have hwr : IntKind.i64.wrap ((j : Int) + 1) = (j : Int) + 1 := IntWalk.i64_in _ (by omega)
            have hp0 : (0 : Int) ≤ (j : Int) + 1 := by clear hwr; omega
            have hp1 : (j : Int) + 1 ≤ (nR : Int) := by clear hwr; omega
            have hp2 : ((j : Int) + 1).toNat = j + 1 := by clear hwr; omega
            go_region_law (first | (refine step_cat (α := Step) rfl (.tmp 60) (.tmp 63) 30 rfl w.heap.size 27 i0 (.agg #[.int .i64 0, .int .i64 0, .slice none 0 0, .slice none 0 0]) 64 Try.underlying30 HI.out.1 HI.out.2.1 HI.out.2.2.1 HI.out.2.2.2 rfl (by decide) (lt B) _ [] (R.take j) (some ⟨br, or_, none⟩) j cR (by simp [Act.eval]) HO2.out (by simp [Act.eval]) HS2.out HL6.out HL5.out HL1.out HL2.out ?_; intro v2 w7 hown7 hg7 hat7) | (refine step_cat (α := Step) rfl (.tmp 64) (.tmp 68) 30 rfl w.heap.size 27 i0 (.agg #[.int .i64 0, .int .i64 0, .slice none 0 0, .slice none 0 0]) 64 Try.underlying30 HI.out.1 HI.out.2.1 HI.out.2.2.1 HI.out.2.2.2 rfl (by decide) (lt B) _ _ (R.drop (j + 1)) (if cR = j + 1 then some ⟨br, or_, none⟩ else some ⟨br, or_ + (j + 1) * 4, none⟩) (nR - (j + 1)) (cR - (j + 1)) (by simp [Act.eval]) hown7 (by simp [Act.eval]) (HSD.out _ hg7) HL6.out (Nat.le_trans HL5.out hg7.size) HL3.out HL4.out ?_; intro v3 w8 hown8 hg8 hat8))
            clear hwr hp0 hp1 hp2
            have HT := Lib.hid (take1_found (x := stepAt a q) (R := R) hjR.out HN.out HE.out)
            go_wp2
            go_roundw
            case rel =>
              refine ⟨q + 1, R.take j ++ R.drop (j + 1), by omega, by go_num, ?_, refE_next hqa.out HRE.out HT.out, hown8, ?_⟩
              · rw [List.length_append, List.length_take, List.length_drop, ← HNR.out]
                omega
              · have hbA : Below w.heap.size w (w6.drew.alloc (.cells #[] 27)) := hbw6.trans (HBE.out.mono hz6)
                exact own_below hown7 (own_below HO2.out hbA hg7 (Nat.le_refl _) HL5.out) hg8 (Nat.le_refl _) (Nat.le_trans HL5.out hg7.size)
            case measure => simp [intOf]; omega
          | false =>
            have HC := Lib.hid (refSame_b w5.drew w4.heap.size hxy sg st (sg'.mono (Nat.le_trans hB hz4)) (st'.mono (Nat.le_trans hB hz4)) hp hc1 hm hd1 hp' hc1' hm' hd1' hz45)
            have HE := Lib.hid hxy
            clear hxy sg st sg' st' hc1 hd1 hc1' hd1' hp hm hp' hm'
            go_wp2
            refine region_still_tail 8 (by kernel_rfl) (by kernel_rfl) ?_
            simp only [List.take_succ_cons, List.take_zero, List.drop_succ_cons, List.drop_zero]
            iterate 8 (refine wpStill_step (fun K hK => ?_); go_simp; refine hK _ ?_; clear hK K)
            refine wpStill_nil ?_
            clear e0 e1 e2 e3 f0 f1 f2 f3
            go_wp2_with (go_at_call 19; refine HC.out.mono ?_; rintro e w6 ⟨rfl, hb6⟩)
            have hb56 : Below w4.heap.size w4 w6 := hb5.trans ((below_drewL hb6).mono hz45)
            have hbw6 : Below w.heap.size w w6 := hb4.trans (hb56.mono hz4)
            have hz6 := hbw6.size
            have hz46 := hb56.size
            obtain ⟨br', or', hA, -, G, p, c1, T, m, d1, hp, hc1, hm, hd1, sg, st, e0, e1, e2, e3⟩ := (hslR.below hb56).step hlj
            injection hA with hA
            injection hA with hA1 hA2
            subst hA1
            subst hA2
            obtain ⟨bl', ol', hA, -, G', p', c1', T', m', d1', hp', hc1', hm', hd1', sg', st', f0, f1, f2, f3⟩ := (ha.below (hbw6.mono hB)).step hlt
            injection hA with hA
            injection hA with hA1 hA2
            subst hA1
            subst hA2
            cases hd : dep (stepAt R j) (stepAt a q) with
            | true =>
              have HC2 := Lib.hid (refDependent_b w6.drew w4.heap.size hd sg st (sg'.mono (Nat.le_trans hB hz4)) (st'.mono (Nat.le_trans hB hz4)) hp hc1 hm hd1 hp' hc1' hm' hd1' hz46)
              have HT := Lib.hid (take1_dep (x := stepAt a q) (R := R) hjR.out HN.out HE.out hd)
              clear hd sg st sg' st' hc1 hd1 hc1' hd1'
              go_wp2
              refine region_still_tail 8 (by kernel_rfl) (by kernel_rfl) ?_
              simp only [List.take_succ_cons, List.take_zero, List.drop_succ_cons, List.drop_zero]
              iterate 8 (refine wpStill_step (fun K hK => ?_); go_simp; refine hK _ ?_; clear hK K)
              refine wpStill_nil ?_
              clear e0 e1 e2 e3 f0 f1 f2 f3
              go_wp2_with (go_at_call 10; refine HC2.out.mono ?_; rintro e w7 ⟨rfl, hb7⟩)
              go_ret
              exact RetB.mk (bool_eq (equiv_no HVA.out HVB.out (refE_none hqa.out HRE.out HT.out)).symm) (hbw6.trans ((below_drewL hb7).mono hz6))
            | false =>
              have HC2 := Lib.hid (refDependent_b w6.drew w4.heap.size hd sg st (sg'.mono (Nat.le_trans hB hz4)) (st'.mono (Nat.le_trans hB hz4)) hp hc1 hm hd1 hp' hc1' hm' hd1' hz46)
              have HD := Lib.hid hd
              clear hd sg st sg' st' hc1 hd1 hc1' hd1'
              go_wp2
              refine region_still_tail 8 (by kernel_rfl) (by kernel_rfl) ?_
              simp only [List.take_succ_cons, List.take_zero, List.drop_succ_cons, List.drop_zero]
              iterate 8 (refine wpStill_step (fun K hK => ?_); go_simp; refine hK _ ?_; clear hK K)
              refine wpStill_nil ?_
              clear e0 e1 e2 e3 f0 f1 f2 f3
              go_wp2_with (go_at_call 10; refine HC2.out.mono ?_; rintro e w7 ⟨rfl, hb7⟩)
              go_roundw
              case rel => exact ⟨j + 1, by omega, by go_num, rfl, upto_more HN.out ⟨HE.out, HD.out⟩, hb56.trans ((below_drewL hb7).mono hz46)⟩
              case measure => simp [intOf]; omega
        · obtain rfl : j = nR := by omega
          have HT := take1_end (x := stepAt a q) (R := R) (by rw [← HNR.out]; exact HN.out)
          go_wp2
          go_ret
          exact RetB.mk (bool_eq (equiv_no HVA.out HVB.out (refE_none hqa.out HRE.out HT)).symm) hbw5
    · obtain rfl : q = n := by omega
      have h0 : R = [] := List.eq_nil_of_length_eq_zero (by omega)
      have h1 : refE (a.drop q) R := by rw [h0, ← hla.out, List.drop_length]; rfl
      go_wp2
      go_ret
      exact RetB.mk (bool_eq ((equiv_iff HVA.out HVB.out).2 (HRE.out.1 h1)).symm) hb4

set_option maxHeartbeats 400000 in
theorem refEquivalent_no1 (w : World) (B : Nat) (n c m d : Nat) (A A' : Option Addr) (a b : List Step) (ha : Sl w (lt B) A n a) (hn : n ≤ 65536) (hB : B ≤ w.heap.size) (va : validA a = false) :
    Calls Try.prog 14 #[.slice A n c, .slice A' m d] w (RetB (.bool (equivI a b)) w) := by
  have HR : Hid (equivI a b = false) := Lib.hid (by unfold equivI; rw [va]; rfl)
  have HV := Lib.hid va
  clear va
  go_enter Try.func14, Try.ntmps14
  go_wp2_with fail
  refine (refValidAll_s w B n c HV.out ha hn hB).mono ?_
  rintro e w1 ⟨rfl, hb1⟩
  go_wp2
  go_ret
  exact RetB.mk (bool_eq HR.out.symm) hb1
set_option maxHeartbeats 400000 in
theorem refEquivalent_no2 (w : World) (B : Nat) (n c m d : Nat) (A A' : Option Addr) (a b : List Step) (ha : Sl w (lt B) A n a) (hb : Sl w (lt B) A' m b) (hn : n ≤ 65536) (hm : m ≤ 65536) (hB : B ≤ w.heap.size) (va : validA a = true) (vb : validA b = false) :
    Calls Try.prog 14 #[.slice A n c, .slice A' m d] w (RetB (.bool (equivI a b)) w) := by
  have HR : Hid (equivI a b = false) := Lib.hid (by unfold equivI; rw [va, vb]; rfl)
  have HV := Lib.hid va
  have HV' := Lib.hid vb
  clear va vb
  go_enter Try.func14, Try.ntmps14
  go_wp2_with fail
  refine (refValidAll_s w B n c HV.out ha hn hB).mono ?_
  rintro e w1 ⟨rfl, hb1⟩
  go_wp2_with fail
  refine (refValidAll_s w1 B m d HV'.out (hb.below (hb1.mono hB)) hm (Nat.le_trans hB hb1.size)).mono ?_
  rintro e w2 ⟨rfl, hb2⟩
  go_wp2
  go_ret
  exact RetB.mk (bool_eq HR.out.symm) (hb1.trans (hb2.mono hb1.size))
set_option maxHeartbeats 400000 in
theorem refEquivalent_no3 (w : World) (B : Nat) (n c m d : Nat) (A A' : Option Addr) (a b : List Step) (ha : Sl w (lt B) A n a) (hb : Sl w (lt B) A' m b) (hn : n ≤ 65536) (hm : m ≤ 65536) (hB : B ≤ w.heap.size) (va : validA a = true) (vb : validA b = true) (hne : n ≠ m) :
    Calls Try.prog 14 #[.slice A n c, .slice A' m d] w (RetB (.bool (equivI a b)) w) := by
  have HR : Hid (equivI a b = false) := Lib.hid (equiv_no va vb fun h => hne (by rw [← ha.1, ← hb.1]; exact refE_length h))
  have HV := Lib.hid va
  have HV' := Lib.hid vb
  have hb0 : ((n : Int) != (m : Int)) = true := by simp; omega
  clear va vb hne
  go_enter Try.func14, Try.ntmps14
  go_wp2_with fail
  refine (refValidAll_s w B n c HV.out ha hn hB).mono ?_
  rintro e w1 ⟨rfl, hb1⟩
  go_wp2_with fail
  refine (refValidAll_s w1 B m d HV'.out (hb.below (hb1.mono hB)) hm (Nat.le_trans hB hb1.size)).mono ?_
  rintro e w2 ⟨rfl, hb2⟩
  go_wp2
  go_ret
  exact RetB.mk (bool_eq HR.out.symm) (hb1.trans (hb2.mono hb1.size))

theorem refEquivalent_any (w : World) (B : Nat) (n c m d : Nat) (A A' : Option Addr) (a b : List Step) (ha : Sl w (lt B) A n a) (hb : Sl w (lt B) A' m b) (hn : n ≤ 65536) (hm : m ≤ 65536) (hB : B ≤ w.heap.size) :
    Calls Try.prog 14 #[.slice A n c, .slice A' m d] w (RetB (.bool (equivI a b)) w) := by
  cases va : validA a with
  | false => exact refEquivalent_no1 w B n c m d A A' a b ha hn hB va
  | true =>
    cases vb : validA b with
    | false => exact refEquivalent_no2 w B n c m d A A' a b ha hb hn hm hB va vb
    | true =>
      by_cases hnm : n = m
      · subst hnm
        exact refEquivalent_yes w B n c d A A' a b ha hb hn hB va vb
      · exact refEquivalent_no3 w B n c m d A A' a b ha hb hn hm hB va vb hnm

end Go.Proofs.Ytlbgmegciomofaa

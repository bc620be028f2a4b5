/- The run of awake. -/
import Derived.Test.YtiepllpgifnloaaGreatV6
import Derived.Test.YtiepllpgifnloaaGreatV7
import Derived.Test.YtiepllpgifnloaaGreatV8
import Derived.Test.YtiepllpgifnloaaGreatV4
set_option linter.unusedSimpArgs false
set_option linter.unusedVariables false
namespace Go.Proofs.YtiepllpgifnloaaGreat.Px
open Go Go.Proofs.YtiepllpgifnloaaGreat.Vx Go.Proofs
set_option maxRecDepth 1000000
set_option maxHeartbeats 0
def yes (t : VT (AV × St)) : Bool := match runC t with
  | some (.lit (.bool true), _) => true
  | _ => false
theorem yes_out {t : VT (AV × St)} (h : yes t = true) : ∃ st, t.out = some (.lit (.bool true), st) := by
  unfold yes at h
  split at h
  · rename_i e; exact ⟨_, runC_out e⟩
  · cases h
noncomputable def uA : T Ctr := (((((((((T.e : T Ctr).set 14 (memoC k1 noC)).set 15 (memoC k2 noC)).set 22 (memoC k3 (memoC k7 noC))).set 17 (memoC k6 (memoC k13 noC))).set 21 (memoC k14 (memoC k18 noC))).set 33 (memoC k15 noC)).set 19 (memoC k16 noC)).set 34 (memoC k17 noC))
theorem uA_ok : ∀ f c, uA.get f = some c → @CtrOk Tryz.prog plainF f c := (ksetP (ksetP (ksetP (ksetP (ksetP (ksetP (ksetP (ksetP k0P (k1_ok (@noC_ok Tryz.prog plainF 14))) (k2_ok (@noC_ok Tryz.prog plainF 15))) (k3_ok (k7_ok (@noC_ok Tryz.prog plainF 22)))) (k6_ok (k13_ok (@noC_ok Tryz.prog plainF 17)))) (k14_ok (k18_ok (@noC_ok Tryz.prog plainF 21)))) (k15_ok (@noC_ok Tryz.prog plainF 33))) (k16_ok (@noC_ok Tryz.prog plainF 19))) (k17_ok (@noC_ok Tryz.prog plainF 34)))
theorem awake_runs : yes (callK uA 12 [] ⟨.e, 1, wr0 1⟩) = true := by kernel_rfl
theorem awake_spec : FSpec Tryz.prog 12 [] [.own .bool] (fun _ => True) (fun _ => (true, ())) := by
  obtain ⟨st, hout⟩ := yes_out awake_runs
  obtain ⟨_, hb, h⟩ := @call_ok Tryz.prog plainF mixedP uA uA_ok (fun i => mem i awakeOwn) 100 50 _ _ _ _ _ hout
  refine ⟨hb, fun w S x vs hS hv _ => ?_⟩
  have hv : vs = [] := hv
  subst hv
  refine (h (K0 w S) w w (fun _ => none) [] ⟨S, _, sim_nil hS 1⟩ (by simp only [dens])).mono ?_
  rintro e w' ⟨u, ρ', rfl, _, ⟨S2, F2, hs⟩, hd⟩
  simp only [den] at hd
  refine ⟨u, S, fun _ => False, rfl, hs.kp.below, fun y hy => hy.elim, fun y hy => ⟨.inl hy, Nat.lt_of_lt_of_le (hS y hy) hs.kp.size⟩, ?_⟩
  refine ⟨[u], ⟨rfl, fun _ _ => False, fun _ _ h => h.elim, fun _ _ _ h _ => h.elim, fun j lf hj => ?_⟩, rfl⟩
  cases j with
  | zero =>
    simp only [RT.leaves, List.getElem?_cons_zero, Option.some.injEq] at hj
    subst hj
    exact ⟨u, rfl, by rw [hd]; exact LfO.bool _ _ _⟩
  | succ j => simp [RT.leaves] at hj
end Go.Proofs.YtiepllpgifnloaaGreat.Px

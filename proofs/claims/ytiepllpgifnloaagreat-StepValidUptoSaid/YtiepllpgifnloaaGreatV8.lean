/- The run of awake, piece by piece. -/
import Derived.Test.YtiepllpgifnloaaGreatV6
import Derived.Test.YtiepllpgifnloaaGreatV7
set_option linter.unusedSimpArgs false
set_option linter.unusedVariables false
namespace Go.Proofs.YtiepllpgifnloaaGreat.Px
open Go Go.Proofs.YtiepllpgifnloaaGreat.Vx Go.Proofs
set_option maxRecDepth 1000000
set_option maxHeartbeats 0
noncomputable def u2 : T Ctr := (T.e : T Ctr)
theorem u2_ok : ∀ f c, u2.get f = some c → @CtrOk Tryz.prog plainF f c := k0P
theorem k2_runs : runsK u2 k2 = true := by kernel_rfl
theorem k2_ok {c : Ctr} (h : @CtrOk Tryz.prog plainF 15 c) : @CtrOk Tryz.prog plainF 15 (memoC k2 c) := memoP u2_ok k2_runs h
end Go.Proofs.YtiepllpgifnloaaGreat.Px
namespace Go.Proofs.YtiepllpgifnloaaGreat.Px
open Go Go.Proofs.YtiepllpgifnloaaGreat.Vx Go.Proofs
set_option maxRecDepth 1000000
set_option maxHeartbeats 0
noncomputable def u6 : T Ctr := (((T.e : T Ctr).set 42 (memoC k4 noC)).set 32 (memoC k5 noC))
theorem u6_ok : ∀ f c, u6.get f = some c → @CtrOk Tryz.prog plainF f c := (ksetP (ksetP k0P (k4_ok (@noC_ok Tryz.prog plainF 42))) (k5_ok (@noC_ok Tryz.prog plainF 32)))
theorem k6_runs : runsK u6 k6 = true := by kernel_rfl
theorem k6_ok {c : Ctr} (h : @CtrOk Tryz.prog plainF 17 c) : @CtrOk Tryz.prog plainF 17 (memoC k6 c) := memoP u6_ok k6_runs h
end Go.Proofs.YtiepllpgifnloaaGreat.Px
namespace Go.Proofs.YtiepllpgifnloaaGreat.Px
open Go Go.Proofs.YtiepllpgifnloaaGreat.Vx Go.Proofs
set_option maxRecDepth 1000000
set_option maxHeartbeats 0
noncomputable def u7 : T Ctr := (T.e : T Ctr)
theorem u7_ok : ∀ f c, u7.get f = some c → @CtrOk Tryz.prog plainF f c := k0P
theorem k7_runs : runsK u7 k7 = true := by kernel_rfl
theorem k7_ok {c : Ctr} (h : @CtrOk Tryz.prog plainF 22 c) : @CtrOk Tryz.prog plainF 22 (memoC k7 c) := memoP u7_ok k7_runs h
end Go.Proofs.YtiepllpgifnloaaGreat.Px
namespace Go.Proofs.YtiepllpgifnloaaGreat.Px
open Go Go.Proofs.YtiepllpgifnloaaGreat.Vx Go.Proofs
set_option maxRecDepth 1000000
set_option maxHeartbeats 0
noncomputable def u14 : T Ctr := (T.e : T Ctr)
theorem u14_ok : ∀ f c, u14.get f = some c → @CtrOk Tryz.prog plainF f c := k0P
theorem k14_runs : runsK u14 k14 = true := by kernel_rfl
theorem k14_ok {c : Ctr} (h : @CtrOk Tryz.prog plainF 21 c) : @CtrOk Tryz.prog plainF 21 (memoC k14 c) := memoP u14_ok k14_runs h
end Go.Proofs.YtiepllpgifnloaaGreat.Px
namespace Go.Proofs.YtiepllpgifnloaaGreat.Px
open Go Go.Proofs.YtiepllpgifnloaaGreat.Vx Go.Proofs
set_option maxRecDepth 1000000
set_option maxHeartbeats 0
noncomputable def u15 : T Ctr := (T.e : T Ctr)
theorem u15_ok : ∀ f c, u15.get f = some c → @CtrOk Tryz.prog plainF f c := k0P
theorem k15_runs : runsK u15 k15 = true := by kernel_rfl
theorem k15_ok {c : Ctr} (h : @CtrOk Tryz.prog plainF 33 c) : @CtrOk Tryz.prog plainF 33 (memoC k15 c) := memoP u15_ok k15_runs h
end Go.Proofs.YtiepllpgifnloaaGreat.Px
namespace Go.Proofs.YtiepllpgifnloaaGreat.Px
open Go Go.Proofs.YtiepllpgifnloaaGreat.Vx Go.Proofs
set_option maxRecDepth 1000000
set_option maxHeartbeats 0
noncomputable def u16 : T Ctr := (T.e : T Ctr)
theorem u16_ok : ∀ f c, u16.get f = some c → @CtrOk Tryz.prog plainF f c := k0P
theorem k16_runs : runsK u16 k16 = true := by kernel_rfl
theorem k16_ok {c : Ctr} (h : @CtrOk Tryz.prog plainF 19 c) : @CtrOk Tryz.prog plainF 19 (memoC k16 c) := memoP u16_ok k16_runs h
end Go.Proofs.YtiepllpgifnloaaGreat.Px
namespace Go.Proofs.YtiepllpgifnloaaGreat.Px
open Go Go.Proofs.YtiepllpgifnloaaGreat.Vx Go.Proofs
set_option maxRecDepth 1000000
set_option maxHeartbeats 0
noncomputable def u17 : T Ctr := (T.e : T Ctr)
theorem u17_ok : ∀ f c, u17.get f = some c → @CtrOk Tryz.prog plainF f c := k0P
theorem k17_runs : runsK u17 k17 = true := by kernel_rfl
theorem k17_ok {c : Ctr} (h : @CtrOk Tryz.prog plainF 34 c) : @CtrOk Tryz.prog plainF 34 (memoC k17 c) := memoP u17_ok k17_runs h
end Go.Proofs.YtiepllpgifnloaaGreat.Px
namespace Go.Proofs.YtiepllpgifnloaaGreat.Px
open Go Go.Proofs.YtiepllpgifnloaaGreat.Vx Go.Proofs
set_option maxRecDepth 1000000
set_option maxHeartbeats 0
noncomputable def u18 : T Ctr := (T.e : T Ctr)
theorem u18_ok : ∀ f c, u18.get f = some c → @CtrOk Tryz.prog plainF f c := k0P
theorem k18_runs : runsK u18 k18 = true := by kernel_rfl
theorem k18_ok {c : Ctr} (h : @CtrOk Tryz.prog plainF 21 c) : @CtrOk Tryz.prog plainF 21 (memoC k18 c) := memoP u18_ok k18_runs h
end Go.Proofs.YtiepllpgifnloaaGreat.Px

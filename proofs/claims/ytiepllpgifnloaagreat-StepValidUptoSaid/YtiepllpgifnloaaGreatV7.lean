/- The run of awake, piece by piece. -/
import Derived.Test.YtiepllpgifnloaaGreatV6
set_option linter.unusedSimpArgs false
set_option linter.unusedVariables false
namespace Go.Proofs.YtiepllpgifnloaaGreat.Px
open Go Go.Proofs.YtiepllpgifnloaaGreat.Vx Go.Proofs
set_option maxRecDepth 1000000
set_option maxHeartbeats 0
noncomputable def u4 : T Ctr := (T.e : T Ctr)
theorem u4_ok : ∀ f c, u4.get f = some c → @CtrOk Tryz.prog plainF f c := k0P
theorem k4_runs : runsK u4 k4 = true := by kernel_rfl
theorem k4_ok {c : Ctr} (h : @CtrOk Tryz.prog plainF 42 c) : @CtrOk Tryz.prog plainF 42 (memoC k4 c) := memoP u4_ok k4_runs h
end Go.Proofs.YtiepllpgifnloaaGreat.Px
namespace Go.Proofs.YtiepllpgifnloaaGreat.Px
open Go Go.Proofs.YtiepllpgifnloaaGreat.Vx Go.Proofs
set_option maxRecDepth 1000000
set_option maxHeartbeats 0
noncomputable def u5 : T Ctr := (T.e : T Ctr)
theorem u5_ok : ∀ f c, u5.get f = some c → @CtrOk Tryz.prog plainF f c := k0P
theorem k5_runs : runsK u5 k5 = true := by kernel_rfl
theorem k5_ok {c : Ctr} (h : @CtrOk Tryz.prog plainF 32 c) : @CtrOk Tryz.prog plainF 32 (memoC k5 c) := memoP u5_ok k5_runs h
end Go.Proofs.YtiepllpgifnloaaGreat.Px
namespace Go.Proofs.YtiepllpgifnloaaGreat.Px
open Go Go.Proofs.YtiepllpgifnloaaGreat.Vx Go.Proofs
set_option maxRecDepth 1000000
set_option maxHeartbeats 0
noncomputable def u3 : T Ctr := (T.e : T Ctr)
theorem u3_ok : ∀ f c, u3.get f = some c → @CtrOk Tryz.prog plainF f c := k0P
theorem k3_runs : runsK u3 k3 = true := by kernel_rfl
theorem k3_ok {c : Ctr} (h : @CtrOk Tryz.prog plainF 22 c) : @CtrOk Tryz.prog plainF 22 (memoC k3 c) := memoP u3_ok k3_runs h
end Go.Proofs.YtiepllpgifnloaaGreat.Px
namespace Go.Proofs.YtiepllpgifnloaaGreat.Px
open Go Go.Proofs.YtiepllpgifnloaaGreat.Vx Go.Proofs
set_option maxRecDepth 1000000
set_option maxHeartbeats 0
noncomputable def u8 : T Ctr := (T.e : T Ctr)
theorem u8_ok : ∀ f c, u8.get f = some c → @CtrOk Tryz.prog plainF f c := k0P
theorem k8_runs : runsK u8 k8 = true := by kernel_rfl
theorem k8_ok {c : Ctr} (h : @CtrOk Tryz.prog plainF 28 c) : @CtrOk Tryz.prog plainF 28 (memoC k8 c) := memoP u8_ok k8_runs h
end Go.Proofs.YtiepllpgifnloaaGreat.Px
namespace Go.Proofs.YtiepllpgifnloaaGreat.Px
open Go Go.Proofs.YtiepllpgifnloaaGreat.Vx Go.Proofs
set_option maxRecDepth 1000000
set_option maxHeartbeats 0
noncomputable def u9 : T Ctr := ((T.e : T Ctr).set 28 (memoC k8 noC))
theorem u9_ok : ∀ f c, u9.get f = some c → @CtrOk Tryz.prog plainF f c := (ksetP k0P (k8_ok (@noC_ok Tryz.prog plainF 28)))
theorem k9_runs : runsK u9 k9 = true := by kernel_rfl
theorem k9_ok {c : Ctr} (h : @CtrOk Tryz.prog plainF 42 c) : @CtrOk Tryz.prog plainF 42 (memoC k9 c) := memoP u9_ok k9_runs h
end Go.Proofs.YtiepllpgifnloaaGreat.Px
namespace Go.Proofs.YtiepllpgifnloaaGreat.Px
open Go Go.Proofs.YtiepllpgifnloaaGreat.Vx Go.Proofs
set_option maxRecDepth 1000000
set_option maxHeartbeats 0
noncomputable def u10 : T Ctr := (T.e : T Ctr)
theorem u10_ok : ∀ f c, u10.get f = some c → @CtrOk Tryz.prog plainF f c := k0P
theorem k10_runs : runsK u10 k10 = true := by kernel_rfl
theorem k10_ok {c : Ctr} (h : @CtrOk Tryz.prog plainF 76 c) : @CtrOk Tryz.prog plainF 76 (memoC k10 c) := memoP u10_ok k10_runs h
end Go.Proofs.YtiepllpgifnloaaGreat.Px
namespace Go.Proofs.YtiepllpgifnloaaGreat.Px
open Go Go.Proofs.YtiepllpgifnloaaGreat.Vx Go.Proofs
set_option maxRecDepth 1000000
set_option maxHeartbeats 0
noncomputable def u11 : T Ctr := ((T.e : T Ctr).set 76 (memoC k10 noC))
theorem u11_ok : ∀ f c, u11.get f = some c → @CtrOk Tryz.prog plainF f c := (ksetP k0P (k10_ok (@noC_ok Tryz.prog plainF 76)))
theorem k11_runs : runsK u11 k11 = true := by kernel_rfl
theorem k11_ok {c : Ctr} (h : @CtrOk Tryz.prog plainF 32 c) : @CtrOk Tryz.prog plainF 32 (memoC k11 c) := memoP u11_ok k11_runs h
end Go.Proofs.YtiepllpgifnloaaGreat.Px
namespace Go.Proofs.YtiepllpgifnloaaGreat.Px
open Go Go.Proofs.YtiepllpgifnloaaGreat.Vx Go.Proofs
set_option maxRecDepth 1000000
set_option maxHeartbeats 0
noncomputable def u12 : T Ctr := (T.e : T Ctr)
theorem u12_ok : ∀ f c, u12.get f = some c → @CtrOk Tryz.prog plainF f c := k0P
theorem k12_runs : runsK u12 k12 = true := by kernel_rfl
theorem k12_ok {c : Ctr} (h : @CtrOk Tryz.prog plainF 32 c) : @CtrOk Tryz.prog plainF 32 (memoC k12 c) := memoP u12_ok k12_runs h
end Go.Proofs.YtiepllpgifnloaaGreat.Px
namespace Go.Proofs.YtiepllpgifnloaaGreat.Px
open Go Go.Proofs.YtiepllpgifnloaaGreat.Vx Go.Proofs
set_option maxRecDepth 1000000
set_option maxHeartbeats 0
noncomputable def u13 : T Ctr := (((T.e : T Ctr).set 42 (memoC k9 noC)).set 32 (memoC k11 (memoC k12 noC)))
theorem u13_ok : ∀ f c, u13.get f = some c → @CtrOk Tryz.prog plainF f c := (ksetP (ksetP k0P (k9_ok (@noC_ok Tryz.prog plainF 42))) (k11_ok (k12_ok (@noC_ok Tryz.prog plainF 32))))
theorem k13_runs : runsK u13 k13 = true := by kernel_rfl
theorem k13_ok {c : Ctr} (h : @CtrOk Tryz.prog plainF 17 c) : @CtrOk Tryz.prog plainF 17 (memoC k13 c) := memoP u13_ok k13_runs h
end Go.Proofs.YtiepllpgifnloaaGreat.Px
namespace Go.Proofs.YtiepllpgifnloaaGreat.Px
open Go Go.Proofs.YtiepllpgifnloaaGreat.Vx Go.Proofs
set_option maxRecDepth 1000000
set_option maxHeartbeats 0
noncomputable def u1 : T Ctr := (T.e : T Ctr)
theorem u1_ok : ∀ f c, u1.get f = some c → @CtrOk Tryz.prog plainF f c := k0P
theorem k1_runs : runsK u1 k1 = true := by kernel_rfl
theorem k1_ok {c : Ctr} (h : @CtrOk Tryz.prog plainF 14 c) : @CtrOk Tryz.prog plainF 14 (memoC k1 c) := memoP u1_ok k1_runs h
end Go.Proofs.YtiepllpgifnloaaGreat.Px

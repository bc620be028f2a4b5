/- The examples of the document hold: awake() of the law's package returns true, in any memory. No condition. -/
import Derived.Test.YtojddklogigihaaGreatDoorX2
import Derived.Test.YtojddklogigihaaGreatDoorO0
import Derived.Test.YtojddklogigihaaGreatDoorRows
namespace Go.Proofs.YtojddklogigihaaGreatDoor
open Go.RowKit

def Sx.yes : Sx.VT (Sx.AV × Sx.St) → Bool
  | .ret (.lit (.bool true), _) => true
  | _ => false
theorem Sx.yes_out {t : Sx.VT (Sx.AV × Sx.St)} (h : Sx.yes t = true) : ∃ st, t.out = some (.lit (.bool true), st) := by
  unfold Sx.yes at h
  split at h
  · exact ⟨_, rfl⟩
  · cases h
/-- The functions that write to what they are handed. -/
def awakeOwn : List Nat := [19, 33, 39, 40, 41, 48, 57, 58, 73, 74, 78, 80, 83, 84, 85, 86, 87, 88, 89, 90, 91, 92, 105, 106, 107, 112, 119, 123, 130, 131, 133, 134, 135, 144, 145, 146, 147, 148, 149, 150, 157, 158, 159, 160, 161, 162, 164, 165, 169, 171, 176, 179, 180, 181, 182, 183, 184, 194, 195, 196, 197, 198, 199, 200, 202, 203, 204, 205, 206, 208, 239, 241, 242, 243, 244, 245, 247, 253, 254, 256, 260, 261, 262, 263]
theorem awake_runs : Sx.yes (Sx.callX Tryz.prog (fun i => Sx.mem i awakeOwn) 100 60 6 [] ⟨.e, 0, fun _ => true⟩) = true := by kernel_rfl
theorem mixed : Tryz.prog.follows .mixedOrders = true := by kernel_rfl
theorem Sx.nothing (w : World) : Sx.Sim (fun b => b < w.heap.size) w (fun _ => none) ⟨.e, 0, fun _ => true⟩ w :=
  ⟨Sx.Kp.refl _ w, fun _ h => h, (fun i bk h => by rw [Sx.T.get_e] at h; cases h), (fun i j bi bj x c c' h => by rw [Sx.T.get_e] at h; cases h), fun i h => absurd rfl h⟩
theorem awake_any (w : World) : Calls Tryz.prog 6 #[] w (RetB (.bool true) w) := by
  obtain ⟨st, hout⟩ := Sx.yes_out awake_runs
  obtain ⟨_, _, h⟩ := Sx.call_ok mixed (fun i => Sx.mem i awakeOwn) 100 60 _ _ _ _ _ hout
  refine (h _ w w _ [] (Sx.nothing w) (by simp only [Sx.dens])).mono ?_
  rintro e w' ⟨u, ρ', rfl, _, hs, hd⟩
  simp only [Sx.den] at hd
  exact ⟨by rw [hd], hs.kp.below⟩
end Go.Proofs.YtojddklogigihaaGreatDoor

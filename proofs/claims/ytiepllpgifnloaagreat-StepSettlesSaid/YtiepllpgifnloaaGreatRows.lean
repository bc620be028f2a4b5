/-
  No cell of these rows narrows 'for every input' (looked for: loops, veiled, ifaces, maps, wideKeys, modest, calm, conditions, laid).
  DERIVED. THE GIVEN ROWS OF THIS SEAT. 8 by the template 'for every input the law returns true; each argument reads behind the call as it read before'; 0 by the template 'total and deterministic' (their statements: YtiepllpgifnloaaGreatTotals.lean).
  GIVEN WITH THE SEED: the statements are not yours to turn. If you find one false, say at which input.
  Laid BY PROGRAM, IN A SANDBOX (cutbox-rows.mjs): the forced cells as the released guide's own fill.sh prints them over the translation f5f44e40b492f95d… (all of the seat's roots in one cut). By AI agents, Wed Nov 11 2026. No macro, syntax, notation, axiom, sorry.
-/
import Derived.Test.YtiepllpgifnloaaGreatChecked
import GoSem.Claim
import GoSem.ClaimJoined
import GoSem.ClaimMapViews
import Derived.JoinedTies
import Derived.KernelRfl
namespace Go.Proofs.YtiepllpgifnloaaGreat
/- THE CELL 'sum', in the pinned program and in every row, IS THE sha256 OF THE DUMP (.gsa) THAT YtiepllpgifnloaaGreatProg.lean LOADS. Nothing in Lean hashes anything: it is a label: what it is worth is what the hold of that sum in a sandbox is worth. -/
noncomputable def Tryz.pinned : Pinned := { name := "ytiepllpgifnloaagreat", sum := "f5f44e40b492f95d6eb5576414f7685e663af6d7e4fbaf4c212ea61a945ffa29", checked := Tryz.checked }
namespace Rows
def none {H : Type} : Left H := { results := [], args := [] }

/-- 'interleavelaw23.StepDoes': WHATEVER THE INPUT: true; the input reads as it did. -/
def stepDoesSpec : ChangeSpec := { name := "stepDoes", fn := fun _ => fun
  | [d1, d2] => { results := [.lit (.bool true)], args := [d1, d2] }
  | _ => none }
def stepDoesRow : OpenClaim := { program := "ytiepllpgifnloaagreat", sum := "f5f44e40b492f95d6eb5576414f7685e663af6d7e4fbaf4c212ea61a945ffa29", func := "interleave/interleavelaw23.StepDoes", spec := "stepDoes", inPlace := ["slices.overlaps[interleave/api.Sync]", "slices.overlaps[interleave/api.Object]"], unfollowed := true, recurses := true, apart := false }
def StepDoesSaid : Prop := stepDoesRow.holds Tryz.pinned (OpenSpec.ofChange stepDoesSpec)

/-- ITS FALSE NEIGHBOUR: 'it returns false'. Refute it at one input. -/
def stepDoesWrong : ChangeSpec := { name := "stepDoes", fn := fun _ => fun
  | [d1, d2] => { results := [.lit (.bool false)], args := [d1, d2] }
  | _ => none }
def StepDoesWrongFalsely : Prop := stepDoesRow.holds Tryz.pinned (OpenSpec.ofChange stepDoesWrong)

/-- 'interleavelaw23.StepPlays': WHATEVER THE INPUT: true; the input reads as it did. -/
def stepPlaysSpec : ChangeSpec := { name := "stepPlays", fn := fun _ => fun
  | [d] => { results := [.lit (.bool true)], args := [d] }
  | _ => none }
def stepPlaysRow : OpenClaim := { program := "ytiepllpgifnloaagreat", sum := "f5f44e40b492f95d6eb5576414f7685e663af6d7e4fbaf4c212ea61a945ffa29", func := "interleave/interleavelaw23.StepPlays", spec := "stepPlays", inPlace := ["slices.overlaps[interleave/api.Sync]", "slices.overlaps[interleave/api.Object]"], unfollowed := true, recurses := true, apart := false }
def StepPlaysSaid : Prop := stepPlaysRow.holds Tryz.pinned (OpenSpec.ofChange stepPlaysSpec)

/-- ITS FALSE NEIGHBOUR: 'it returns false'. Refute it at one input. -/
def stepPlaysWrong : ChangeSpec := { name := "stepPlays", fn := fun _ => fun
  | [d] => { results := [.lit (.bool false)], args := [d] }
  | _ => none }
def StepPlaysWrongFalsely : Prop := stepPlaysRow.holds Tryz.pinned (OpenSpec.ofChange stepPlaysWrong)

/-- 'interleavelaw23.StepPrograms': WHATEVER THE INPUT: true; the input reads as it did. -/
def stepProgramsSpec : ChangeSpec := { name := "stepPrograms", fn := fun _ => fun
  | [d1, d2] => { results := [.lit (.bool true)], args := [d1, d2] }
  | _ => none }
def stepProgramsRow : OpenClaim := { program := "ytiepllpgifnloaagreat", sum := "f5f44e40b492f95d6eb5576414f7685e663af6d7e4fbaf4c212ea61a945ffa29", func := "interleave/interleavelaw23.StepPrograms", spec := "stepPrograms", inPlace := ["slices.overlaps[interleave/api.Sync]", "slices.overlaps[interleave/api.Object]"], unfollowed := true, recurses := true, apart := false }
def StepProgramsSaid : Prop := stepProgramsRow.holds Tryz.pinned (OpenSpec.ofChange stepProgramsSpec)

/-- ITS FALSE NEIGHBOUR: 'it returns false'. Refute it at one input. -/
def stepProgramsWrong : ChangeSpec := { name := "stepPrograms", fn := fun _ => fun
  | [d1, d2] => { results := [.lit (.bool false)], args := [d1, d2] }
  | _ => none }
def StepProgramsWrongFalsely : Prop := stepProgramsRow.holds Tryz.pinned (OpenSpec.ofChange stepProgramsWrong)

/-- 'interleavelaw23.StepValid': WHATEVER THE INPUT: true; the input reads as it did. -/
def stepValidSpec : ChangeSpec := { name := "stepValid", fn := fun _ => fun
  | [d1, d2] => { results := [.lit (.bool true)], args := [d1, d2] }
  | _ => none }
def stepValidRow : OpenClaim := { program := "ytiepllpgifnloaagreat", sum := "f5f44e40b492f95d6eb5576414f7685e663af6d7e4fbaf4c212ea61a945ffa29", func := "interleave/interleavelaw23.StepValid", spec := "stepValid", inPlace := ["slices.overlaps[interleave/api.Sync]", "slices.overlaps[interleave/api.Object]"], unfollowed := true, recurses := true, apart := false }
def StepValidSaid : Prop := stepValidRow.holds Tryz.pinned (OpenSpec.ofChange stepValidSpec)

/-- ITS FALSE NEIGHBOUR: 'it returns false'. Refute it at one input. -/
def stepValidWrong : ChangeSpec := { name := "stepValid", fn := fun _ => fun
  | [d1, d2] => { results := [.lit (.bool false)], args := [d1, d2] }
  | _ => none }
def StepValidWrongFalsely : Prop := stepValidRow.holds Tryz.pinned (OpenSpec.ofChange stepValidWrong)

/-- 'interleavelaw23.StepKeepsValid': WHATEVER THE INPUT: true; the input reads as it did. -/
def stepKeepsValidSpec : ChangeSpec := { name := "stepKeepsValid", fn := fun _ => fun
  | [d1, d2] => { results := [.lit (.bool true)], args := [d1, d2] }
  | _ => none }
def stepKeepsValidRow : OpenClaim := { program := "ytiepllpgifnloaagreat", sum := "f5f44e40b492f95d6eb5576414f7685e663af6d7e4fbaf4c212ea61a945ffa29", func := "interleave/interleavelaw23.StepKeepsValid", spec := "stepKeepsValid", inPlace := ["slices.overlaps[interleave/api.Sync]", "slices.overlaps[interleave/api.Object]"], unfollowed := true, recurses := true, apart := false }
def StepKeepsValidSaid : Prop := stepKeepsValidRow.holds Tryz.pinned (OpenSpec.ofChange stepKeepsValidSpec)

/-- ITS FALSE NEIGHBOUR: 'it returns false'. Refute it at one input. -/
def stepKeepsValidWrong : ChangeSpec := { name := "stepKeepsValid", fn := fun _ => fun
  | [d1, d2] => { results := [.lit (.bool false)], args := [d1, d2] }
  | _ => none }
def StepKeepsValidWrongFalsely : Prop := stepKeepsValidRow.holds Tryz.pinned (OpenSpec.ofChange stepKeepsValidWrong)

/-- 'interleavelaw23.StepLocal': WHATEVER THE INPUT: true; the input reads as it did. -/
def stepLocalSpec : ChangeSpec := { name := "stepLocal", fn := fun _ => fun
  | [d1, d2] => { results := [.lit (.bool true)], args := [d1, d2] }
  | _ => none }
def stepLocalRow : OpenClaim := { program := "ytiepllpgifnloaagreat", sum := "f5f44e40b492f95d6eb5576414f7685e663af6d7e4fbaf4c212ea61a945ffa29", func := "interleave/interleavelaw23.StepLocal", spec := "stepLocal", inPlace := ["slices.overlaps[interleave/api.Sync]", "slices.overlaps[interleave/api.Object]"], unfollowed := true, recurses := true, apart := false }
def StepLocalSaid : Prop := stepLocalRow.holds Tryz.pinned (OpenSpec.ofChange stepLocalSpec)

/-- ITS FALSE NEIGHBOUR: 'it returns false'. Refute it at one input. -/
def stepLocalWrong : ChangeSpec := { name := "stepLocal", fn := fun _ => fun
  | [d1, d2] => { results := [.lit (.bool false)], args := [d1, d2] }
  | _ => none }
def StepLocalWrongFalsely : Prop := stepLocalRow.holds Tryz.pinned (OpenSpec.ofChange stepLocalWrong)

/-- 'interleavelaw23.StepCommutes': WHATEVER THE INPUT: true; the input reads as it did. -/
def stepCommutesSpec : ChangeSpec := { name := "stepCommutes", fn := fun _ => fun
  | [d1, d2, d3] => { results := [.lit (.bool true)], args := [d1, d2, d3] }
  | _ => none }
def stepCommutesRow : OpenClaim := { program := "ytiepllpgifnloaagreat", sum := "f5f44e40b492f95d6eb5576414f7685e663af6d7e4fbaf4c212ea61a945ffa29", func := "interleave/interleavelaw23.StepCommutes", spec := "stepCommutes", inPlace := ["slices.overlaps[interleave/api.Sync]", "slices.overlaps[interleave/api.Object]"], unfollowed := true, recurses := true, apart := false }
def StepCommutesSaid : Prop := stepCommutesRow.holds Tryz.pinned (OpenSpec.ofChange stepCommutesSpec)

/-- ITS FALSE NEIGHBOUR: 'it returns false'. Refute it at one input. -/
def stepCommutesWrong : ChangeSpec := { name := "stepCommutes", fn := fun _ => fun
  | [d1, d2, d3] => { results := [.lit (.bool false)], args := [d1, d2, d3] }
  | _ => none }
def StepCommutesWrongFalsely : Prop := stepCommutesRow.holds Tryz.pinned (OpenSpec.ofChange stepCommutesWrong)

/-- 'interleavelaw23.StepSettles': WHATEVER THE INPUT: true; the input reads as it did. -/
def stepSettlesSpec : ChangeSpec := { name := "stepSettles", fn := fun _ => fun
  | [d1, d2, d3] => { results := [.lit (.bool true)], args := [d1, d2, d3] }
  | _ => none }
def stepSettlesRow : OpenClaim := { program := "ytiepllpgifnloaagreat", sum := "f5f44e40b492f95d6eb5576414f7685e663af6d7e4fbaf4c212ea61a945ffa29", func := "interleave/interleavelaw23.StepSettles", spec := "stepSettles", inPlace := ["slices.overlaps[interleave/api.Sync]", "slices.overlaps[interleave/api.Object]"], unfollowed := true, recurses := true, apart := false }
def StepSettlesSaid : Prop := stepSettlesRow.holds Tryz.pinned (OpenSpec.ofChange stepSettlesSpec)

/-- ITS FALSE NEIGHBOUR: 'it returns false'. Refute it at one input. -/
def stepSettlesWrong : ChangeSpec := { name := "stepSettles", fn := fun _ => fun
  | [d1, d2, d3] => { results := [.lit (.bool false)], args := [d1, d2, d3] }
  | _ => none }
def StepSettlesWrongFalsely : Prop := stepSettlesRow.holds Tryz.pinned (OpenSpec.ofChange stepSettlesWrong)

/- THE SECOND FORM. 'bulk': how many values and letters a reading holds, each counted each time it is reached (what is shared counts as often as it is met; a slice's spare places count too). A statement '..UptoSaid' is the law's where the arguments, and the package variables that the reading takes, are together of bulk at most 1048576: NARROWER than '..Said'. Prove '..Said' where nothing that the law and all that it calls make is longer than what came in: it says more and counts as full. Else prove '..UptoSaid'. A law counts once. -/
mutual
def uptoBulk {H : Type} : DataW H → Nat
  | .lit (.string bytes) => bytes.length + 1
  | .lit _ => 1
  | .nil => 1
  | .ptr d => uptoBulk d + 1
  | .slice elems spare => uptoBulkAll elems + uptoBulkAll spare + 1
  | .agg parts => uptoBulkAll parts + 1
  | .iface _ d => uptoBulk d + 1
  | .map entries => uptoBulkEntries entries + 1
  | .held _ => 1
def uptoBulkAll {H : Type} : List (DataW H) → Nat
  | [] => 0
  | d :: r => uptoBulk d + uptoBulkAll r
def uptoBulkEntries {H : Type} : List (Lit × DataW H) → Nat
  | [] => 0
  | x :: r => uptoBulkEntry x + uptoBulkEntries r
def uptoBulkEntry {H : Type} : Lit × DataW H → Nat
  | (.string bytes, d) => bytes.length + uptoBulk d + 1
  | (_, d) => uptoBulk d + 1
 end
def uptoSmall : (H : Type) → List (DataW H) → Bool := fun _ ds => decide (uptoBulkAll ds ≤ 1048576)
def OpenSpec.upto (s : _root_.Go.ChangeSpec) : _root_.Go.OpenSpec := { _root_.Go.OpenSpec.ofChange s with cond := some uptoSmall }

/-- 'interleavelaw23.StepDoes', WHERE WHAT IT READS IS OF BULK AT MOST 1048576: true; the input reads as it did. -/
def stepDoesUptoRow : OpenClaim := { program := "ytiepllpgifnloaagreat", sum := "f5f44e40b492f95d6eb5576414f7685e663af6d7e4fbaf4c212ea61a945ffa29", func := "interleave/interleavelaw23.StepDoes", spec := "stepDoes", inPlace := ["slices.overlaps[interleave/api.Sync]", "slices.overlaps[interleave/api.Object]"], unfollowed := true, recurses := true, apart := false, narrowed := true }
def StepDoesUptoSaid : Prop := stepDoesUptoRow.holds Tryz.pinned (OpenSpec.upto stepDoesSpec)

/-- 'interleavelaw23.StepPlays', WHERE WHAT IT READS IS OF BULK AT MOST 1048576: true; the input reads as it did. -/
def stepPlaysUptoRow : OpenClaim := { program := "ytiepllpgifnloaagreat", sum := "f5f44e40b492f95d6eb5576414f7685e663af6d7e4fbaf4c212ea61a945ffa29", func := "interleave/interleavelaw23.StepPlays", spec := "stepPlays", inPlace := ["slices.overlaps[interleave/api.Sync]", "slices.overlaps[interleave/api.Object]"], unfollowed := true, recurses := true, apart := false, narrowed := true }
def StepPlaysUptoSaid : Prop := stepPlaysUptoRow.holds Tryz.pinned (OpenSpec.upto stepPlaysSpec)

/-- 'interleavelaw23.StepPrograms', WHERE WHAT IT READS IS OF BULK AT MOST 1048576: true; the input reads as it did. -/
def stepProgramsUptoRow : OpenClaim := { program := "ytiepllpgifnloaagreat", sum := "f5f44e40b492f95d6eb5576414f7685e663af6d7e4fbaf4c212ea61a945ffa29", func := "interleave/interleavelaw23.StepPrograms", spec := "stepPrograms", inPlace := ["slices.overlaps[interleave/api.Sync]", "slices.overlaps[interleave/api.Object]"], unfollowed := true, recurses := true, apart := false, narrowed := true }
def StepProgramsUptoSaid : Prop := stepProgramsUptoRow.holds Tryz.pinned (OpenSpec.upto stepProgramsSpec)

/-- 'interleavelaw23.StepValid', WHERE WHAT IT READS IS OF BULK AT MOST 1048576: true; the input reads as it did. -/
def stepValidUptoRow : OpenClaim := { program := "ytiepllpgifnloaagreat", sum := "f5f44e40b492f95d6eb5576414f7685e663af6d7e4fbaf4c212ea61a945ffa29", func := "interleave/interleavelaw23.StepValid", spec := "stepValid", inPlace := ["slices.overlaps[interleave/api.Sync]", "slices.overlaps[interleave/api.Object]"], unfollowed := true, recurses := true, apart := false, narrowed := true }
def StepValidUptoSaid : Prop := stepValidUptoRow.holds Tryz.pinned (OpenSpec.upto stepValidSpec)

/-- 'interleavelaw23.StepKeepsValid', WHERE WHAT IT READS IS OF BULK AT MOST 1048576: true; the input reads as it did. -/
def stepKeepsValidUptoRow : OpenClaim := { program := "ytiepllpgifnloaagreat", sum := "f5f44e40b492f95d6eb5576414f7685e663af6d7e4fbaf4c212ea61a945ffa29", func := "interleave/interleavelaw23.StepKeepsValid", spec := "stepKeepsValid", inPlace := ["slices.overlaps[interleave/api.Sync]", "slices.overlaps[interleave/api.Object]"], unfollowed := true, recurses := true, apart := false, narrowed := true }
def StepKeepsValidUptoSaid : Prop := stepKeepsValidUptoRow.holds Tryz.pinned (OpenSpec.upto stepKeepsValidSpec)

/-- 'interleavelaw23.StepLocal', WHERE WHAT IT READS IS OF BULK AT MOST 1048576: true; the input reads as it did. -/
def stepLocalUptoRow : OpenClaim := { program := "ytiepllpgifnloaagreat", sum := "f5f44e40b492f95d6eb5576414f7685e663af6d7e4fbaf4c212ea61a945ffa29", func := "interleave/interleavelaw23.StepLocal", spec := "stepLocal", inPlace := ["slices.overlaps[interleave/api.Sync]", "slices.overlaps[interleave/api.Object]"], unfollowed := true, recurses := true, apart := false, narrowed := true }
def StepLocalUptoSaid : Prop := stepLocalUptoRow.holds Tryz.pinned (OpenSpec.upto stepLocalSpec)

/-- 'interleavelaw23.StepCommutes', WHERE WHAT IT READS IS OF BULK AT MOST 1048576: true; the input reads as it did. -/
def stepCommutesUptoRow : OpenClaim := { program := "ytiepllpgifnloaagreat", sum := "f5f44e40b492f95d6eb5576414f7685e663af6d7e4fbaf4c212ea61a945ffa29", func := "interleave/interleavelaw23.StepCommutes", spec := "stepCommutes", inPlace := ["slices.overlaps[interleave/api.Sync]", "slices.overlaps[interleave/api.Object]"], unfollowed := true, recurses := true, apart := false, narrowed := true }
def StepCommutesUptoSaid : Prop := stepCommutesUptoRow.holds Tryz.pinned (OpenSpec.upto stepCommutesSpec)

/-- 'interleavelaw23.StepSettles', WHERE WHAT IT READS IS OF BULK AT MOST 1048576: true; the input reads as it did. -/
def stepSettlesUptoRow : OpenClaim := { program := "ytiepllpgifnloaagreat", sum := "f5f44e40b492f95d6eb5576414f7685e663af6d7e4fbaf4c212ea61a945ffa29", func := "interleave/interleavelaw23.StepSettles", spec := "stepSettles", inPlace := ["slices.overlaps[interleave/api.Sync]", "slices.overlaps[interleave/api.Object]"], unfollowed := true, recurses := true, apart := false, narrowed := true }
def StepSettlesUptoSaid : Prop := stepSettlesUptoRow.holds Tryz.pinned (OpenSpec.upto stepSettlesSpec)

end Rows
end Go.Proofs.YtiepllpgifnloaaGreat

/-
  No cell of these rows narrows 'for every input' (looked for: loops, veiled, ifaces, maps, wideKeys, modest, calm, conditions, laid).
  DERIVED. THE GIVEN ROWS OF THIS SEAT. 6 by the template 'for every input the law returns true; each argument reads behind the call as it read before'; 0 by the template 'total and deterministic' (their statements: YtepcbgbmmmhglaaTotals.lean).
  GIVEN WITH THE SEED: the statements are not yours to turn. If you find one false, say at which input.
  Laid BY PROGRAM, IN A SANDBOX (cutbox-rows.mjs): the forced cells as the released guide's own fill.sh prints them over the translation 449f2728375df3a5… (all of the seat's roots in one cut). By AI agents, Wed Nov 11 2026. No macro, syntax, notation, axiom, sorry.
-/
import Derived.Test.YtepcbgbmmmhglaaChecked
import GoSem.Claim
import GoSem.ClaimJoined
import GoSem.ClaimMapViews
import Derived.JoinedTies
import Derived.KernelRfl
namespace Go.Proofs.Ytepcbgbmmmhglaa
/- THE CELL 'sum', in the pinned program and in every row, IS THE sha256 OF THE DUMP (.gsa) THAT YtepcbgbmmmhglaaProg.lean LOADS. Nothing in Lean hashes anything: it is a label: what it is worth is what the hold of that sum in a sandbox is worth. -/
noncomputable def Try.pinned : Pinned := { name := "ytepcbgbmmmhglaa", sum := "449f2728375df3a5975617af3f67228fcf0ed622382a2d41e51e9d2e6c5167f8", checked := Try.checked }
namespace Rows
def none {H : Type} : Left H := { results := [], args := [] }

/-- 'interleavelaw26.QueuesMade': WHATEVER THE INPUT: true; the input reads as it did. -/
def queuesMadeSpec : ChangeSpec := { name := "queuesMade", fn := fun _ => fun
  | [d] => { results := [.lit (.bool true)], args := [d] }
  | _ => none }
def queuesMadeRow : OpenClaim := { program := "ytepcbgbmmmhglaa", sum := "449f2728375df3a5975617af3f67228fcf0ed622382a2d41e51e9d2e6c5167f8", func := "interleave/interleavelaw26.QueuesMade", spec := "queuesMade", unfollowed := true, recurses := true, apart := false }
def QueuesMadeSaid : Prop := queuesMadeRow.holds Try.pinned (OpenSpec.ofChange queuesMadeSpec)

/-- ITS FALSE NEIGHBOUR: 'it returns false'. Refute it at one input. -/
def queuesMadeWrong : ChangeSpec := { name := "queuesMade", fn := fun _ => fun
  | [d] => { results := [.lit (.bool false)], args := [d] }
  | _ => none }
def QueuesMadeWrongFalsely : Prop := queuesMadeRow.holds Try.pinned (OpenSpec.ofChange queuesMadeWrong)

/-- 'interleavelaw26.QueuesValid': WHATEVER THE INPUT: true; the input reads as it did. -/
def queuesValidSpec : ChangeSpec := { name := "queuesValid", fn := fun _ => fun
  | [d] => { results := [.lit (.bool true)], args := [d] }
  | _ => none }
def queuesValidRow : OpenClaim := { program := "ytepcbgbmmmhglaa", sum := "449f2728375df3a5975617af3f67228fcf0ed622382a2d41e51e9d2e6c5167f8", func := "interleave/interleavelaw26.QueuesValid", spec := "queuesValid", unfollowed := true, recurses := true, apart := false }
def QueuesValidSaid : Prop := queuesValidRow.holds Try.pinned (OpenSpec.ofChange queuesValidSpec)

/-- ITS FALSE NEIGHBOUR: 'it returns false'. Refute it at one input. -/
def queuesValidWrong : ChangeSpec := { name := "queuesValid", fn := fun _ => fun
  | [d] => { results := [.lit (.bool false)], args := [d] }
  | _ => none }
def QueuesValidWrongFalsely : Prop := queuesValidRow.holds Try.pinned (OpenSpec.ofChange queuesValidWrong)

/-- 'interleavelaw26.QueuesAdd': WHATEVER THE INPUT: true; the input reads as it did. -/
def queuesAddSpec : ChangeSpec := { name := "queuesAdd", fn := fun _ => fun
  | [d1, d2, d3] => { results := [.lit (.bool true)], args := [d1, d2, d3] }
  | _ => none }
def queuesAddRow : OpenClaim := { program := "ytepcbgbmmmhglaa", sum := "449f2728375df3a5975617af3f67228fcf0ed622382a2d41e51e9d2e6c5167f8", func := "interleave/interleavelaw26.QueuesAdd", spec := "queuesAdd", unfollowed := true, recurses := true, apart := false }
def QueuesAddSaid : Prop := queuesAddRow.holds Try.pinned (OpenSpec.ofChange queuesAddSpec)

/-- ITS FALSE NEIGHBOUR: 'it returns false'. Refute it at one input. -/
def queuesAddWrong : ChangeSpec := { name := "queuesAdd", fn := fun _ => fun
  | [d1, d2, d3] => { results := [.lit (.bool false)], args := [d1, d2, d3] }
  | _ => none }
def QueuesAddWrongFalsely : Prop := queuesAddRow.holds Try.pinned (OpenSpec.ofChange queuesAddWrong)

/-- 'interleavelaw26.QueuesNext': WHATEVER THE INPUT: true; the input reads as it did. -/
def queuesNextSpec : ChangeSpec := { name := "queuesNext", fn := fun _ => fun
  | [d1, d2, d3] => { results := [.lit (.bool true)], args := [d1, d2, d3] }
  | _ => none }
def queuesNextRow : OpenClaim := { program := "ytepcbgbmmmhglaa", sum := "449f2728375df3a5975617af3f67228fcf0ed622382a2d41e51e9d2e6c5167f8", func := "interleave/interleavelaw26.QueuesNext", spec := "queuesNext", unfollowed := true, recurses := true, apart := false }
def QueuesNextSaid : Prop := queuesNextRow.holds Try.pinned (OpenSpec.ofChange queuesNextSpec)

/-- ITS FALSE NEIGHBOUR: 'it returns false'. Refute it at one input. -/
def queuesNextWrong : ChangeSpec := { name := "queuesNext", fn := fun _ => fun
  | [d1, d2, d3] => { results := [.lit (.bool false)], args := [d1, d2, d3] }
  | _ => none }
def QueuesNextWrongFalsely : Prop := queuesNextRow.holds Try.pinned (OpenSpec.ofChange queuesNextWrong)

/-- 'interleavelaw26.QueuesLose': WHATEVER THE INPUT: true; the input reads as it did. -/
def queuesLoseSpec : ChangeSpec := { name := "queuesLose", fn := fun _ => fun
  | [d1, d2, d3] => { results := [.lit (.bool true)], args := [d1, d2, d3] }
  | _ => none }
def queuesLoseRow : OpenClaim := { program := "ytepcbgbmmmhglaa", sum := "449f2728375df3a5975617af3f67228fcf0ed622382a2d41e51e9d2e6c5167f8", func := "interleave/interleavelaw26.QueuesLose", spec := "queuesLose", unfollowed := true, recurses := true, apart := false }
def QueuesLoseSaid : Prop := queuesLoseRow.holds Try.pinned (OpenSpec.ofChange queuesLoseSpec)

/-- ITS FALSE NEIGHBOUR: 'it returns false'. Refute it at one input. -/
def queuesLoseWrong : ChangeSpec := { name := "queuesLose", fn := fun _ => fun
  | [d1, d2, d3] => { results := [.lit (.bool false)], args := [d1, d2, d3] }
  | _ => none }
def QueuesLoseWrongFalsely : Prop := queuesLoseRow.holds Try.pinned (OpenSpec.ofChange queuesLoseWrong)

/-- 'interleavelaw26.QueuesWork': WHATEVER THE INPUT: true; the input reads as it did. -/
def queuesWorkSpec : ChangeSpec := { name := "queuesWork", fn := fun _ => fun
  | [d1, d2, d3] => { results := [.lit (.bool true)], args := [d1, d2, d3] }
  | _ => none }
def queuesWorkRow : OpenClaim := { program := "ytepcbgbmmmhglaa", sum := "449f2728375df3a5975617af3f67228fcf0ed622382a2d41e51e9d2e6c5167f8", func := "interleave/interleavelaw26.QueuesWork", spec := "queuesWork", unfollowed := true, recurses := true, apart := false }
def QueuesWorkSaid : Prop := queuesWorkRow.holds Try.pinned (OpenSpec.ofChange queuesWorkSpec)

/-- ITS FALSE NEIGHBOUR: 'it returns false'. Refute it at one input. -/
def queuesWorkWrong : ChangeSpec := { name := "queuesWork", fn := fun _ => fun
  | [d1, d2, d3] => { results := [.lit (.bool false)], args := [d1, d2, d3] }
  | _ => none }
def QueuesWorkWrongFalsely : Prop := queuesWorkRow.holds Try.pinned (OpenSpec.ofChange queuesWorkWrong)

/- THE SECOND FORM. 'bulk': how many values and letters a reading holds, each counted each time it is reached (what is shared counts as often as it is met; a slice's spare places count too). A statement '..UptoSaid' is the law's where the arguments, and the package variables that the reading takes, are together of bulk at most 1048576: NARROWER than '..Said'. Prove '..Said' where nothing that the law and all that it calls make is longer than what came in: it says more and counts as full. Else prove '..UptoSaid'. A law counts once. -/
mutual
def uptoBulk {H : Type} : DataW H → Nat
  | .lit (.string bytes) => bytes.length + 1
  | .lit _ => 1
  | .nil => 1
  | .ptr d => uptoBulk d + 1
  | .slice elems spare => uptoBulkAll elems + uptoBulkAll spare + 1
  | .agg parts => uptoBulkAll parts + 1
  | .iface _ d => uptoBulk d + 1
  | .map entries => uptoBulkEntries entries + 1
  | .held _ => 1
def uptoBulkAll {H : Type} : List (DataW H) → Nat
  | [] => 0
  | d :: r => uptoBulk d + uptoBulkAll r
def uptoBulkEntries {H : Type} : List (Lit × DataW H) → Nat
  | [] => 0
  | x :: r => uptoBulkEntry x + uptoBulkEntries r
def uptoBulkEntry {H : Type} : Lit × DataW H → Nat
  | (.string bytes, d) => bytes.length + uptoBulk d + 1
  | (_, d) => uptoBulk d + 1
 end
def uptoSmall : (H : Type) → List (DataW H) → Bool := fun _ ds => decide (uptoBulkAll ds ≤ 1048576)
def OpenSpec.upto (s : _root_.Go.ChangeSpec) : _root_.Go.OpenSpec := { _root_.Go.OpenSpec.ofChange s with cond := some uptoSmall }

/-- 'interleavelaw26.QueuesMade', WHERE WHAT IT READS IS OF BULK AT MOST 1048576: true; the input reads as it did. -/
def queuesMadeUptoRow : OpenClaim := { program := "ytepcbgbmmmhglaa", sum := "449f2728375df3a5975617af3f67228fcf0ed622382a2d41e51e9d2e6c5167f8", func := "interleave/interleavelaw26.QueuesMade", spec := "queuesMade", unfollowed := true, recurses := true, apart := false, narrowed := true }
def QueuesMadeUptoSaid : Prop := queuesMadeUptoRow.holds Try.pinned (OpenSpec.upto queuesMadeSpec)

/-- 'interleavelaw26.QueuesValid', WHERE WHAT IT READS IS OF BULK AT MOST 1048576: true; the input reads as it did. -/
def queuesValidUptoRow : OpenClaim := { program := "ytepcbgbmmmhglaa", sum := "449f2728375df3a5975617af3f67228fcf0ed622382a2d41e51e9d2e6c5167f8", func := "interleave/interleavelaw26.QueuesValid", spec := "queuesValid", unfollowed := true, recurses := true, apart := false, narrowed := true }
def QueuesValidUptoSaid : Prop := queuesValidUptoRow.holds Try.pinned (OpenSpec.upto queuesValidSpec)

/-- 'interleavelaw26.QueuesAdd', WHERE WHAT IT READS IS OF BULK AT MOST 1048576: true; the input reads as it did. -/
def queuesAddUptoRow : OpenClaim := { program := "ytepcbgbmmmhglaa", sum := "449f2728375df3a5975617af3f67228fcf0ed622382a2d41e51e9d2e6c5167f8", func := "interleave/interleavelaw26.QueuesAdd", spec := "queuesAdd", unfollowed := true, recurses := true, apart := false, narrowed := true }
def QueuesAddUptoSaid : Prop := queuesAddUptoRow.holds Try.pinned (OpenSpec.upto queuesAddSpec)

/-- 'interleavelaw26.QueuesNext', WHERE WHAT IT READS IS OF BULK AT MOST 1048576: true; the input reads as it did. -/
def queuesNextUptoRow : OpenClaim := { program := "ytepcbgbmmmhglaa", sum := "449f2728375df3a5975617af3f67228fcf0ed622382a2d41e51e9d2e6c5167f8", func := "interleave/interleavelaw26.QueuesNext", spec := "queuesNext", unfollowed := true, recurses := true, apart := false, narrowed := true }
def QueuesNextUptoSaid : Prop := queuesNextUptoRow.holds Try.pinned (OpenSpec.upto queuesNextSpec)

/-- 'interleavelaw26.QueuesLose', WHERE WHAT IT READS IS OF BULK AT MOST 1048576: true; the input reads as it did. -/
def queuesLoseUptoRow : OpenClaim := { program := "ytepcbgbmmmhglaa", sum := "449f2728375df3a5975617af3f67228fcf0ed622382a2d41e51e9d2e6c5167f8", func := "interleave/interleavelaw26.QueuesLose", spec := "queuesLose", unfollowed := true, recurses := true, apart := false, narrowed := true }
def QueuesLoseUptoSaid : Prop := queuesLoseUptoRow.holds Try.pinned (OpenSpec.upto queuesLoseSpec)

/-- 'interleavelaw26.QueuesWork', WHERE WHAT IT READS IS OF BULK AT MOST 1048576: true; the input reads as it did. -/
def queuesWorkUptoRow : OpenClaim := { program := "ytepcbgbmmmhglaa", sum := "449f2728375df3a5975617af3f67228fcf0ed622382a2d41e51e9d2e6c5167f8", func := "interleave/interleavelaw26.QueuesWork", spec := "queuesWork", unfollowed := true, recurses := true, apart := false, narrowed := true }
def QueuesWorkUptoSaid : Prop := queuesWorkUptoRow.holds Try.pinned (OpenSpec.upto queuesWorkSpec)

end Rows
end Go.Proofs.Ytepcbgbmmmhglaa

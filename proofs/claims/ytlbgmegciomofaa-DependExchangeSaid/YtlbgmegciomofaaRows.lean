/-
  No cell of these rows narrows 'for every input' (looked for: loops, veiled, ifaces, maps, wideKeys, modest, calm, conditions, laid).
  DERIVED. THE GIVEN ROWS OF THIS SEAT. 4 by the template 'for every input the law returns true; each argument reads behind the call as it read before'; 0 by the template 'total and deterministic' (their statements: YtlbgmegciomofaaTotals.lean).
  GIVEN WITH THE SEED: the statements are not yours to turn. If you find one false, say at which input.
  Laid BY PROGRAM, IN A SANDBOX (cutbox-rows.mjs): the forced cells as the released guide's own fill.sh prints them over the translation 2e9a84a4e6e09c6b… (all of the seat's roots in one cut). By AI agents, Wed Nov 11 2026. No macro, syntax, notation, axiom, sorry.
-/
import Derived.Test.YtlbgmegciomofaaChecked
import GoSem.Claim
import GoSem.ClaimJoined
import GoSem.ClaimMapViews
import Derived.JoinedTies
import Derived.KernelRfl
namespace Go.Proofs.Ytlbgmegciomofaa
/- THE CELL 'sum', in the pinned program and in every row, IS THE sha256 OF THE DUMP (.gsa) THAT YtlbgmegciomofaaProg.lean LOADS. Nothing in Lean hashes anything: it is a label: what it is worth is what the hold of that sum in a sandbox is worth. -/
noncomputable def Try.pinned : Pinned := { name := "ytlbgmegciomofaa", sum := "2e9a84a4e6e09c6bd56782351ec4d756ff96e18965bf6b9e84fca26f31034f8a", checked := Try.checked }
namespace Rows
def none {H : Type} : Left H := { results := [], args := [] }

/-- 'interleavelaw48.DependentMatchesReference': WHATEVER THE INPUT: true; the input reads as it did. -/
def dependentMatchesReferenceSpec : ChangeSpec := { name := "dependentMatchesReference", fn := fun _ => fun
  | [d1, d2] => { results := [.lit (.bool true)], args := [d1, d2] }
  | _ => none }
def dependentMatchesReferenceRow : OpenClaim := { program := "ytlbgmegciomofaa", sum := "2e9a84a4e6e09c6bd56782351ec4d756ff96e18965bf6b9e84fca26f31034f8a", func := "interleave/interleavelaw48.DependentMatchesReference", spec := "dependentMatchesReference", unfollowed := true, recurses := true, apart := false }
def DependentMatchesReferenceSaid : Prop := dependentMatchesReferenceRow.holds Try.pinned (OpenSpec.ofChange dependentMatchesReferenceSpec)

/-- ITS FALSE NEIGHBOUR: 'it returns false'. Refute it at one input. -/
def dependentMatchesReferenceWrong : ChangeSpec := { name := "dependentMatchesReference", fn := fun _ => fun
  | [d1, d2] => { results := [.lit (.bool false)], args := [d1, d2] }
  | _ => none }
def DependentMatchesReferenceWrongFalsely : Prop := dependentMatchesReferenceRow.holds Try.pinned (OpenSpec.ofChange dependentMatchesReferenceWrong)

/-- 'interleavelaw48.DependCanonicalMatchesReference': WHATEVER THE INPUT: true; the input reads as it did. -/
def dependCanonicalMatchesReferenceSpec : ChangeSpec := { name := "dependCanonicalMatchesReference", fn := fun _ => fun
  | [d] => { results := [.lit (.bool true)], args := [d] }
  | _ => none }
def dependCanonicalMatchesReferenceRow : OpenClaim := { program := "ytlbgmegciomofaa", sum := "2e9a84a4e6e09c6bd56782351ec4d756ff96e18965bf6b9e84fca26f31034f8a", func := "interleave/interleavelaw48.DependCanonicalMatchesReference", spec := "dependCanonicalMatchesReference", unfollowed := true, recurses := true, apart := false }
def DependCanonicalMatchesReferenceSaid : Prop := dependCanonicalMatchesReferenceRow.holds Try.pinned (OpenSpec.ofChange dependCanonicalMatchesReferenceSpec)

/-- ITS FALSE NEIGHBOUR: 'it returns false'. Refute it at one input. -/
def dependCanonicalMatchesReferenceWrong : ChangeSpec := { name := "dependCanonicalMatchesReference", fn := fun _ => fun
  | [d] => { results := [.lit (.bool false)], args := [d] }
  | _ => none }
def DependCanonicalMatchesReferenceWrongFalsely : Prop := dependCanonicalMatchesReferenceRow.holds Try.pinned (OpenSpec.ofChange dependCanonicalMatchesReferenceWrong)

/-- 'interleavelaw48.DependEquivalentMatchesReference': WHATEVER THE INPUT: true; the input reads as it did. -/
def dependEquivalentMatchesReferenceSpec : ChangeSpec := { name := "dependEquivalentMatchesReference", fn := fun _ => fun
  | [d1, d2] => { results := [.lit (.bool true)], args := [d1, d2] }
  | _ => none }
def dependEquivalentMatchesReferenceRow : OpenClaim := { program := "ytlbgmegciomofaa", sum := "2e9a84a4e6e09c6bd56782351ec4d756ff96e18965bf6b9e84fca26f31034f8a", func := "interleave/interleavelaw48.DependEquivalentMatchesReference", spec := "dependEquivalentMatchesReference", unfollowed := true, recurses := true, apart := false }
def DependEquivalentMatchesReferenceSaid : Prop := dependEquivalentMatchesReferenceRow.holds Try.pinned (OpenSpec.ofChange dependEquivalentMatchesReferenceSpec)

/-- ITS FALSE NEIGHBOUR: 'it returns false'. Refute it at one input. -/
def dependEquivalentMatchesReferenceWrong : ChangeSpec := { name := "dependEquivalentMatchesReference", fn := fun _ => fun
  | [d1, d2] => { results := [.lit (.bool false)], args := [d1, d2] }
  | _ => none }
def DependEquivalentMatchesReferenceWrongFalsely : Prop := dependEquivalentMatchesReferenceRow.holds Try.pinned (OpenSpec.ofChange dependEquivalentMatchesReferenceWrong)

/-- 'interleavelaw48.DependExchange': WHATEVER THE INPUT: true; the input reads as it did. -/
def dependExchangeSpec : ChangeSpec := { name := "dependExchange", fn := fun _ => fun
  | [d1, d2] => { results := [.lit (.bool true)], args := [d1, d2] }
  | _ => none }
def dependExchangeRow : OpenClaim := { program := "ytlbgmegciomofaa", sum := "2e9a84a4e6e09c6bd56782351ec4d756ff96e18965bf6b9e84fca26f31034f8a", func := "interleave/interleavelaw48.DependExchange", spec := "dependExchange", unfollowed := true, recurses := true, apart := false }
def DependExchangeSaid : Prop := dependExchangeRow.holds Try.pinned (OpenSpec.ofChange dependExchangeSpec)

/-- ITS FALSE NEIGHBOUR: 'it returns false'. Refute it at one input. -/
def dependExchangeWrong : ChangeSpec := { name := "dependExchange", fn := fun _ => fun
  | [d1, d2] => { results := [.lit (.bool false)], args := [d1, d2] }
  | _ => none }
def DependExchangeWrongFalsely : Prop := dependExchangeRow.holds Try.pinned (OpenSpec.ofChange dependExchangeWrong)

/- THE SECOND FORM. 'bulk': how many values and letters a reading holds, each counted each time it is reached (what is shared counts as often as it is met; a slice's spare places count too). A statement '..UptoSaid' is the law's where the arguments, and the package variables that the reading takes, are together of bulk at most 1048576: NARROWER than '..Said'. Prove '..Said' where nothing that the law and all that it calls make is longer than what came in: it says more and counts as full. Else prove '..UptoSaid'. A law counts once. -/
mutual
def uptoBulk {H : Type} : DataW H → Nat
  | .lit (.string bytes) => bytes.length + 1
  | .lit _ => 1
  | .nil => 1
  | .ptr d => uptoBulk d + 1
  | .slice elems spare => uptoBulkAll elems + uptoBulkAll spare + 1
  | .agg parts => uptoBulkAll parts + 1
  | .iface _ d => uptoBulk d + 1
  | .map entries => uptoBulkEntries entries + 1
  | .held _ => 1
def uptoBulkAll {H : Type} : List (DataW H) → Nat
  | [] => 0
  | d :: r => uptoBulk d + uptoBulkAll r
def uptoBulkEntries {H : Type} : List (Lit × DataW H) → Nat
  | [] => 0
  | x :: r => uptoBulkEntry x + uptoBulkEntries r
def uptoBulkEntry {H : Type} : Lit × DataW H → Nat
  | (.string bytes, d) => bytes.length + uptoBulk d + 1
  | (_, d) => uptoBulk d + 1
 end
def uptoSmall : (H : Type) → List (DataW H) → Bool := fun _ ds => decide (uptoBulkAll ds ≤ 1048576)
def OpenSpec.upto (s : _root_.Go.ChangeSpec) : _root_.Go.OpenSpec := { _root_.Go.OpenSpec.ofChange s with cond := some uptoSmall }

/-- 'interleavelaw48.DependentMatchesReference', WHERE WHAT IT READS IS OF BULK AT MOST 1048576: true; the input reads as it did. -/
def dependentMatchesReferenceUptoRow : OpenClaim := { program := "ytlbgmegciomofaa", sum := "2e9a84a4e6e09c6bd56782351ec4d756ff96e18965bf6b9e84fca26f31034f8a", func := "interleave/interleavelaw48.DependentMatchesReference", spec := "dependentMatchesReference", unfollowed := true, recurses := true, apart := false, narrowed := true }
def DependentMatchesReferenceUptoSaid : Prop := dependentMatchesReferenceUptoRow.holds Try.pinned (OpenSpec.upto dependentMatchesReferenceSpec)

/-- 'interleavelaw48.DependCanonicalMatchesReference', WHERE WHAT IT READS IS OF BULK AT MOST 1048576: true; the input reads as it did. -/
def dependCanonicalMatchesReferenceUptoRow : OpenClaim := { program := "ytlbgmegciomofaa", sum := "2e9a84a4e6e09c6bd56782351ec4d756ff96e18965bf6b9e84fca26f31034f8a", func := "interleave/interleavelaw48.DependCanonicalMatchesReference", spec := "dependCanonicalMatchesReference", unfollowed := true, recurses := true, apart := false, narrowed := true }
def DependCanonicalMatchesReferenceUptoSaid : Prop := dependCanonicalMatchesReferenceUptoRow.holds Try.pinned (OpenSpec.upto dependCanonicalMatchesReferenceSpec)

/-- 'interleavelaw48.DependEquivalentMatchesReference', WHERE WHAT IT READS IS OF BULK AT MOST 1048576: true; the input reads as it did. -/
def dependEquivalentMatchesReferenceUptoRow : OpenClaim := { program := "ytlbgmegciomofaa", sum := "2e9a84a4e6e09c6bd56782351ec4d756ff96e18965bf6b9e84fca26f31034f8a", func := "interleave/interleavelaw48.DependEquivalentMatchesReference", spec := "dependEquivalentMatchesReference", unfollowed := true, recurses := true, apart := false, narrowed := true }
def DependEquivalentMatchesReferenceUptoSaid : Prop := dependEquivalentMatchesReferenceUptoRow.holds Try.pinned (OpenSpec.upto dependEquivalentMatchesReferenceSpec)

/-- 'interleavelaw48.DependExchange', WHERE WHAT IT READS IS OF BULK AT MOST 1048576: true; the input reads as it did. -/
def dependExchangeUptoRow : OpenClaim := { program := "ytlbgmegciomofaa", sum := "2e9a84a4e6e09c6bd56782351ec4d756ff96e18965bf6b9e84fca26f31034f8a", func := "interleave/interleavelaw48.DependExchange", spec := "dependExchange", unfollowed := true, recurses := true, apart := false, narrowed := true }
def DependExchangeUptoSaid : Prop := dependExchangeUptoRow.holds Try.pinned (OpenSpec.upto dependExchangeSpec)

end Rows
end Go.Proofs.Ytlbgmegciomofaa

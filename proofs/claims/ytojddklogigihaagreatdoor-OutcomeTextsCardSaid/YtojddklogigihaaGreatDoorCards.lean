/-
  DERIVED. GIVEN WITH THE SEED: THE CARDS: each row of YtojddklogigihaaGreatDoorRows.lean that lists a variable, with what it lists TIED to the program's text (the seventh form; the later family's looks); each row that meets fmt, with fmt's text TOLD by the authors' own Lean function (tested against real Go, not proved from fmt's source: count such statements apart). THE CARD IS WHAT COUNTS. Prove the row's statement (the work); the ties are given (YtojddklogigihaaGreatDoorTie.lean); close each card by the builder's one call (the guide's Derived/Test/ToyasCard.lean, 'card_holds'). Laid BY PROGRAM, IN A SANDBOX (cutbox-door.mjs). By AI agents, Wed Nov 11 2026. No macro, syntax, notation, axiom, sorry.
-/
import Derived.Test.YtojddklogigihaaGreatDoorRows
import GoSem.ClaimSeven
namespace Go.Proofs.YtojddklogigihaaGreatDoor
namespace Rows

/-- THE TIED CARD OF 'interleavelaw29.OutcomeCompares'. -/
def outcomeComparesCard : Claim7 := { stood := { row := outcomeComparesRow, standIns := [], harness := (true, "839ba7de8918714af2b6a29fbb3ca72decd9b5bc928b36c9adface64d4794393"), looks := false }, kinds := [], alts := [], laidByText := true, laidKinds := [.data, .data, .data], laidTests := true, laidLooks := .later }
def OutcomeComparesCardSaid : Prop := Claim7.holds Tryz.pinned (.plain (OpenSpec.ofChange outcomeComparesSpec)) outcomeComparesCard

/-- THE TIED CARD OF 'interleavelaw29.OutcomeTexts'. -/
def outcomeTextsCard : Claim7 := { stood := { row := outcomeTextsRow, standIns := [], harness := (true, "839ba7de8918714af2b6a29fbb3ca72decd9b5bc928b36c9adface64d4794393"), looks := false }, kinds := [], alts := [], laidByText := true, laidKinds := [.data, .data, .data], laidTests := true, laidLooks := .later }
def OutcomeTextsCardSaid : Prop := Claim7.holds Tryz.pinned (.plain (OpenSpec.ofChange outcomeTextsSpec)) outcomeTextsCard

/-- THE TIED CARD OF 'interleavelaw29.OutcomeSubset'. -/
def outcomeSubsetCard : Claim7 := { stood := { row := outcomeSubsetRow, standIns := [], harness := (true, "839ba7de8918714af2b6a29fbb3ca72decd9b5bc928b36c9adface64d4794393"), looks := false }, kinds := [], alts := [], laidByText := true, laidKinds := [.data, .data, .data], laidTests := true, laidLooks := .later }
def OutcomeSubsetCardSaid : Prop := Claim7.holds Tryz.pinned (.plain (OpenSpec.ofChange outcomeSubsetSpec)) outcomeSubsetCard

/-- THE SECOND FORM's CARD OF 'interleavelaw29.OutcomeCompares'. -/
def outcomeComparesUptoCard : Claim7 := { stood := { row := outcomeComparesUptoRow, standIns := [], harness := (true, "839ba7de8918714af2b6a29fbb3ca72decd9b5bc928b36c9adface64d4794393"), looks := false }, kinds := [], alts := [], laidByText := true, laidKinds := [.data, .data, .data], laidTests := true, laidLooks := .later }
def OutcomeComparesUptoCardSaid : Prop := Claim7.holds Tryz.pinned (.plain (OpenSpec.upto outcomeComparesSpec)) outcomeComparesUptoCard

/-- THE SECOND FORM's CARD OF 'interleavelaw29.OutcomeTexts'. -/
def outcomeTextsUptoCard : Claim7 := { stood := { row := outcomeTextsUptoRow, standIns := [], harness := (true, "839ba7de8918714af2b6a29fbb3ca72decd9b5bc928b36c9adface64d4794393"), looks := false }, kinds := [], alts := [], laidByText := true, laidKinds := [.data, .data, .data], laidTests := true, laidLooks := .later }
def OutcomeTextsUptoCardSaid : Prop := Claim7.holds Tryz.pinned (.plain (OpenSpec.upto outcomeTextsSpec)) outcomeTextsUptoCard

/-- THE SECOND FORM's CARD OF 'interleavelaw29.OutcomeSubset'. -/
def outcomeSubsetUptoCard : Claim7 := { stood := { row := outcomeSubsetUptoRow, standIns := [], harness := (true, "839ba7de8918714af2b6a29fbb3ca72decd9b5bc928b36c9adface64d4794393"), looks := false }, kinds := [], alts := [], laidByText := true, laidKinds := [.data, .data, .data], laidTests := true, laidLooks := .later }
def OutcomeSubsetUptoCardSaid : Prop := Claim7.holds Tryz.pinned (.plain (OpenSpec.upto outcomeSubsetSpec)) outcomeSubsetUptoCard
end Rows
end Go.Proofs.YtojddklogigihaaGreatDoor

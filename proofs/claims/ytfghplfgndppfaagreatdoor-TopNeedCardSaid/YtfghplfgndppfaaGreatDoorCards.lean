/-
  DERIVED. GIVEN WITH THE SEED: THE CARDS: each row of YtfghplfgndppfaaGreatDoorRows.lean that lists a variable, with what it lists TIED to the program's text (the seventh form; the later family's looks); each row that meets fmt, with fmt's text TOLD by the authors' own Lean function (tested against real Go, not proved from fmt's source: count such statements apart). THE CARD IS WHAT COUNTS. Prove the row's statement (the work); the ties are given (YtfghplfgndppfaaGreatDoorTie.lean); close each card by the builder's one call (the guide's Derived/Test/ToyasCard.lean, 'card_holds'). Laid BY PROGRAM, IN A SANDBOX (cutbox-door.mjs). By AI agents, Wed Nov 11 2026. No macro, syntax, notation, axiom, sorry.
-/
import Derived.Test.YtfghplfgndppfaaGreatDoorRows
import GoSem.ClaimSeven
namespace Go.Proofs.YtfghplfgndppfaaGreatDoor
namespace Rows

/-- THE TIED CARD OF 'clepsydratop.TopNeed'. -/
def topNeedCard : Claim7 := { stood := { row := topNeedRow, standIns := [], harness := (true, "23f8f3ba73f3fd2756b6ad7c88306dbeea1e283ae6e1af666526f4ced263a2e6"), looks := true }, kinds := [], alts := [], laidByText := true, laidKinds := [.data, .data, .data, .sentinel, .sentinel], laidTests := true, laidLooks := .later }
def TopNeedCardSaid : Prop := Claim7.holds Tryz.pinned (.plain (OpenSpec.ofChange topNeedSpec)) topNeedCard

/-- THE TIED CARD OF 'clepsydratop.TopLate'. -/
def topLateCard : Claim7 := { stood := { row := topLateRow, standIns := [], harness := (true, "23f8f3ba73f3fd2756b6ad7c88306dbeea1e283ae6e1af666526f4ced263a2e6"), looks := true }, kinds := [], alts := [], laidByText := true, laidKinds := [.data, .data, .data, .sentinel, .sentinel], laidTests := true, laidLooks := .later }
def TopLateCardSaid : Prop := Claim7.holds Tryz.pinned (.plain (OpenSpec.ofChange topLateSpec)) topLateCard

/-- THE SECOND FORM's CARD OF 'clepsydratop.TopNeed'. -/
def topNeedUptoCard : Claim7 := { stood := { row := topNeedUptoRow, standIns := [], harness := (true, "23f8f3ba73f3fd2756b6ad7c88306dbeea1e283ae6e1af666526f4ced263a2e6"), looks := true }, kinds := [], alts := [], laidByText := true, laidKinds := [.data, .data, .data, .sentinel, .sentinel], laidTests := true, laidLooks := .later }
def TopNeedUptoCardSaid : Prop := Claim7.holds Tryz.pinned (.plain (OpenSpec.upto topNeedSpec)) topNeedUptoCard

/-- THE SECOND FORM's CARD OF 'clepsydratop.TopLate'. -/
def topLateUptoCard : Claim7 := { stood := { row := topLateUptoRow, standIns := [], harness := (true, "23f8f3ba73f3fd2756b6ad7c88306dbeea1e283ae6e1af666526f4ced263a2e6"), looks := true }, kinds := [], alts := [], laidByText := true, laidKinds := [.data, .data, .data, .sentinel, .sentinel], laidTests := true, laidLooks := .later }
def TopLateUptoCardSaid : Prop := Claim7.holds Tryz.pinned (.plain (OpenSpec.upto topLateSpec)) topLateUptoCard
end Rows
end Go.Proofs.YtfghplfgndppfaaGreatDoor

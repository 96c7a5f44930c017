/-
  DERIVED. GIVEN WITH THE SEED: THE CARDS: each row of YtfalfmfkifemeaaGreatDoorRows.lean that lists a variable, with what it lists TIED to the program's text (the seventh form; the later family's looks); each row that meets fmt, with fmt's text TOLD by the authors' own Lean function (tested against real Go, not proved from fmt's source: count such statements apart). THE CARD IS WHAT COUNTS. Prove the row's statement (the work); the ties are given (YtfalfmfkifemeaaGreatDoorTie.lean); close each card by the builder's one call (the guide's Derived/Test/ToyasCard.lean, 'card_holds'). Laid BY PROGRAM, IN A SANDBOX (cutbox-door.mjs). By AI agents, Wed Nov 11 2026. No macro, syntax, notation, axiom, sorry.
-/
import Derived.Test.YtfalfmfkifemeaaGreatDoorRows
import GoSem.ClaimSeven
namespace Go.Proofs.YtfalfmfkifemeaaGreatDoor
namespace Rows

/-- THE TIED CARD OF 'leadlinelaw6.DetTells'. -/
def detTellsCard : Claim7 := { stood := { row := detTellsRow, standIns := [], harness := (true, "1df6556b17a8d2627a2e316d178dcba35b424842b2168e045aed956a1d16e086"), looks := true }, kinds := [], alts := [], laidByText := true, laidKinds := [.handle], laidTests := true, laidLooks := .later }
def DetTellsCardSaid : Prop := Claim7.holds Tryz.pinned (.plain (OpenSpec.ofChange detTellsSpec)) detTellsCard

/-- THE TIED CARD OF 'leadlinelaw6.DetBlocks'. -/
def detBlocksCard : Claim7 := { stood := { row := detBlocksRow, standIns := [], harness := (true, "1df6556b17a8d2627a2e316d178dcba35b424842b2168e045aed956a1d16e086"), looks := true }, kinds := [], alts := [], laidByText := true, laidKinds := [.handle], laidTests := true, laidLooks := .later }
def DetBlocksCardSaid : Prop := Claim7.holds Tryz.pinned (.plain (OpenSpec.ofChange detBlocksSpec)) detBlocksCard

/-- THE TIED CARD OF 'leadlinelaw6.DetTurns'. -/
def detTurnsCard : Claim7 := { stood := { row := detTurnsRow, standIns := [], harness := (true, "1df6556b17a8d2627a2e316d178dcba35b424842b2168e045aed956a1d16e086"), looks := true }, kinds := [], alts := [], laidByText := true, laidKinds := [.handle], laidTests := true, laidLooks := .later }
def DetTurnsCardSaid : Prop := Claim7.holds Tryz.pinned (.plain (OpenSpec.ofChange detTurnsSpec)) detTurnsCard

/-- THE TIED CARD OF 'leadlinelaw6.MinorsBegin'. -/
def minorsBeginCard : Claim7 := { stood := { row := minorsBeginRow, standIns := [], harness := (true, "1df6556b17a8d2627a2e316d178dcba35b424842b2168e045aed956a1d16e086"), looks := true }, kinds := [], alts := [], laidByText := true, laidKinds := [.handle], laidTests := true, laidLooks := .later }
def MinorsBeginCardSaid : Prop := Claim7.holds Tryz.pinned (.plain (OpenSpec.ofChange minorsBeginSpec)) minorsBeginCard

/-- THE TIED CARD OF 'leadlinelaw9.BoundTells'. -/
def boundTellsCard : Claim7 := { stood := { row := boundTellsRow, standIns := [], harness := (true, "1df6556b17a8d2627a2e316d178dcba35b424842b2168e045aed956a1d16e086"), looks := true }, kinds := [], alts := [], laidByText := true, laidKinds := [.handle], laidTests := true, laidLooks := .later }
def BoundTellsCardSaid : Prop := Claim7.holds Tryz.pinned (.plain (OpenSpec.ofChange boundTellsSpec)) boundTellsCard

/-- THE TIED CARD OF 'leadlinelaw9.BoundBelow'. -/
def boundBelowCard : Claim7 := { stood := { row := boundBelowRow, standIns := [], harness := (true, "1df6556b17a8d2627a2e316d178dcba35b424842b2168e045aed956a1d16e086"), looks := true }, kinds := [], alts := [], laidByText := true, laidKinds := [.handle], laidTests := true, laidLooks := .later }
def BoundBelowCardSaid : Prop := Claim7.holds Tryz.pinned (.plain (OpenSpec.ofChange boundBelowSpec)) boundBelowCard

/-- THE TIED CARD OF 'leadlinelaw9.BoundLine'. -/
def boundLineCard : Claim7 := { stood := { row := boundLineRow, standIns := [], harness := (true, "1df6556b17a8d2627a2e316d178dcba35b424842b2168e045aed956a1d16e086"), looks := true }, kinds := [], alts := [], laidByText := true, laidKinds := [.handle], laidTests := true, laidLooks := .later }
def BoundLineCardSaid : Prop := Claim7.holds Tryz.pinned (.plain (OpenSpec.ofChange boundLineSpec)) boundLineCard

/-- THE SECOND FORM's CARD OF 'leadlinelaw6.DetTells'. -/
def detTellsUptoCard : Claim7 := { stood := { row := detTellsUptoRow, standIns := [], harness := (true, "1df6556b17a8d2627a2e316d178dcba35b424842b2168e045aed956a1d16e086"), looks := true }, kinds := [], alts := [], laidByText := true, laidKinds := [.handle], laidTests := true, laidLooks := .later }
def DetTellsUptoCardSaid : Prop := Claim7.holds Tryz.pinned (.plain (OpenSpec.upto detTellsSpec)) detTellsUptoCard

/-- THE SECOND FORM's CARD OF 'leadlinelaw6.DetBlocks'. -/
def detBlocksUptoCard : Claim7 := { stood := { row := detBlocksUptoRow, standIns := [], harness := (true, "1df6556b17a8d2627a2e316d178dcba35b424842b2168e045aed956a1d16e086"), looks := true }, kinds := [], alts := [], laidByText := true, laidKinds := [.handle], laidTests := true, laidLooks := .later }
def DetBlocksUptoCardSaid : Prop := Claim7.holds Tryz.pinned (.plain (OpenSpec.upto detBlocksSpec)) detBlocksUptoCard

/-- THE SECOND FORM's CARD OF 'leadlinelaw6.DetTurns'. -/
def detTurnsUptoCard : Claim7 := { stood := { row := detTurnsUptoRow, standIns := [], harness := (true, "1df6556b17a8d2627a2e316d178dcba35b424842b2168e045aed956a1d16e086"), looks := true }, kinds := [], alts := [], laidByText := true, laidKinds := [.handle], laidTests := true, laidLooks := .later }
def DetTurnsUptoCardSaid : Prop := Claim7.holds Tryz.pinned (.plain (OpenSpec.upto detTurnsSpec)) detTurnsUptoCard

/-- THE SECOND FORM's CARD OF 'leadlinelaw6.MinorsBegin'. -/
def minorsBeginUptoCard : Claim7 := { stood := { row := minorsBeginUptoRow, standIns := [], harness := (true, "1df6556b17a8d2627a2e316d178dcba35b424842b2168e045aed956a1d16e086"), looks := true }, kinds := [], alts := [], laidByText := true, laidKinds := [.handle], laidTests := true, laidLooks := .later }
def MinorsBeginUptoCardSaid : Prop := Claim7.holds Tryz.pinned (.plain (OpenSpec.upto minorsBeginSpec)) minorsBeginUptoCard

/-- THE SECOND FORM's CARD OF 'leadlinelaw9.BoundTells'. -/
def boundTellsUptoCard : Claim7 := { stood := { row := boundTellsUptoRow, standIns := [], harness := (true, "1df6556b17a8d2627a2e316d178dcba35b424842b2168e045aed956a1d16e086"), looks := true }, kinds := [], alts := [], laidByText := true, laidKinds := [.handle], laidTests := true, laidLooks := .later }
def BoundTellsUptoCardSaid : Prop := Claim7.holds Tryz.pinned (.plain (OpenSpec.upto boundTellsSpec)) boundTellsUptoCard

/-- THE SECOND FORM's CARD OF 'leadlinelaw9.BoundBelow'. -/
def boundBelowUptoCard : Claim7 := { stood := { row := boundBelowUptoRow, standIns := [], harness := (true, "1df6556b17a8d2627a2e316d178dcba35b424842b2168e045aed956a1d16e086"), looks := true }, kinds := [], alts := [], laidByText := true, laidKinds := [.handle], laidTests := true, laidLooks := .later }
def BoundBelowUptoCardSaid : Prop := Claim7.holds Tryz.pinned (.plain (OpenSpec.upto boundBelowSpec)) boundBelowUptoCard

/-- THE SECOND FORM's CARD OF 'leadlinelaw9.BoundLine'. -/
def boundLineUptoCard : Claim7 := { stood := { row := boundLineUptoRow, standIns := [], harness := (true, "1df6556b17a8d2627a2e316d178dcba35b424842b2168e045aed956a1d16e086"), looks := true }, kinds := [], alts := [], laidByText := true, laidKinds := [.handle], laidTests := true, laidLooks := .later }
def BoundLineUptoCardSaid : Prop := Claim7.holds Tryz.pinned (.plain (OpenSpec.upto boundLineSpec)) boundLineUptoCard
end Rows
end Go.Proofs.YtfalfmfkifemeaaGreatDoor

/-
  DERIVED. GIVEN WITH THE SEED: THE CARDS: each row of YtfalfmfkifemeaaDoorRows.lean that lists a variable, with what it lists TIED to the program's text (the seventh form; the later family's looks); each row that meets fmt, with fmt's text TOLD by the authors' own Lean function (tested against real Go, not proved from fmt's source: count such statements apart). THE CARD IS WHAT COUNTS. Prove the row's statement (the work); the ties are given (YtfalfmfkifemeaaDoorTie.lean); close each card by the builder's one call (the guide's Derived/Test/ToyasCard.lean, 'card_holds'). Laid BY PROGRAM, IN A SANDBOX (cutbox-door.mjs). By AI agents, Wed Nov 11 2026. No macro, syntax, notation, axiom, sorry.
-/
import Derived.Test.YtfalfmfkifemeaaDoorRows
import GoSem.ClaimSeven
namespace Go.Proofs.YtfalfmfkifemeaaDoor
namespace Rows

/-- THE TIED CARD OF 'leadlinelaw6.DetDiag'. -/
def detDiagCard : Claim7 := { stood := { row := detDiagRow, standIns := [], harness := (true, "55ffa4439a28b50d557b45d62b5a8cf6a1dfc43349393ef09aac9be2269f2f94"), looks := true }, kinds := [], alts := [], laidByText := true, laidKinds := [.handle], laidTests := true, laidLooks := .later }
def DetDiagCardSaid : Prop := Claim7.holds Tryd.pinned (.plain (OpenSpec.ofChange detDiagSpec)) detDiagCard

/-- THE TIED CARD OF 'leadlinelaw9.BoundDiags'. -/
def boundDiagsCard : Claim7 := { stood := { row := boundDiagsRow, standIns := [], harness := (true, "55ffa4439a28b50d557b45d62b5a8cf6a1dfc43349393ef09aac9be2269f2f94"), looks := true }, kinds := [], alts := [], laidByText := true, laidKinds := [.handle], laidTests := true, laidLooks := .later }
def BoundDiagsCardSaid : Prop := Claim7.holds Tryd.pinned (.plain (OpenSpec.ofChange boundDiagsSpec)) boundDiagsCard

/-- THE SECOND FORM's CARD OF 'leadlinelaw6.DetDiag'. -/
def detDiagUptoCard : Claim7 := { stood := { row := detDiagUptoRow, standIns := [], harness := (true, "55ffa4439a28b50d557b45d62b5a8cf6a1dfc43349393ef09aac9be2269f2f94"), looks := true }, kinds := [], alts := [], laidByText := true, laidKinds := [.handle], laidTests := true, laidLooks := .later }
def DetDiagUptoCardSaid : Prop := Claim7.holds Tryd.pinned (.plain (OpenSpec.upto detDiagSpec)) detDiagUptoCard

/-- THE SECOND FORM's CARD OF 'leadlinelaw9.BoundDiags'. -/
def boundDiagsUptoCard : Claim7 := { stood := { row := boundDiagsUptoRow, standIns := [], harness := (true, "55ffa4439a28b50d557b45d62b5a8cf6a1dfc43349393ef09aac9be2269f2f94"), looks := true }, kinds := [], alts := [], laidByText := true, laidKinds := [.handle], laidTests := true, laidLooks := .later }
def BoundDiagsUptoCardSaid : Prop := Claim7.holds Tryd.pinned (.plain (OpenSpec.upto boundDiagsSpec)) boundDiagsUptoCard
end Rows
end Go.Proofs.YtfalfmfkifemeaaDoor

/-
  DERIVED. GIVEN WITH THE SEED: THE CARDS: each row of YtlgpemndbfclfaaDoorRows.lean that lists a variable, with what it lists TIED to the program's text (the seventh form; the later family's looks); each row that meets fmt, with fmt's text TOLD by the authors' own Lean function (tested against real Go, not proved from fmt's source: count such statements apart). THE CARD IS WHAT COUNTS. Prove the row's statement (the work); the ties are given (YtlgpemndbfclfaaDoorTie.lean); close each card by the builder's one call (the guide's Derived/Test/ToyasCard.lean, 'card_holds'). Laid BY PROGRAM, IN A SANDBOX (cutbox-door.mjs). By AI agents, Wed Nov 11 2026. No macro, syntax, notation, axiom, sorry.
-/
import Derived.Test.YtlgpemndbfclfaaDoorRows
import GoSem.ClaimSeven
namespace Go.Proofs.YtlgpemndbfclfaaDoor
namespace Rows

/-- THE TIED CARD OF 'leadlinelaw22.CirclesPick'. -/
def circlesPickCard : Claim7 := { stood := { row := circlesPickRow, standIns := [], harness := (true, "5a523d2e2621dd4654f6cd3de49b9f6a80651a9eafc13d5ed7e0084351301125"), looks := true }, kinds := [], alts := [], laidByText := true, laidKinds := [.handle], laidTests := true, laidLooks := .later }
def CirclesPickCardSaid : Prop := Claim7.holds Tryd.pinned (.plain (OpenSpec.ofChange circlesPickSpec)) circlesPickCard

/-- THE TIED CARD OF 'leadlinelaw22.CirclesTrue'. -/
def circlesTrueCard : Claim7 := { stood := { row := circlesTrueRow, standIns := [], harness := (true, "5a523d2e2621dd4654f6cd3de49b9f6a80651a9eafc13d5ed7e0084351301125"), looks := true }, kinds := [], alts := [], laidByText := true, laidKinds := [.handle], laidTests := true, laidLooks := .later }
def CirclesTrueCardSaid : Prop := Claim7.holds Tryd.pinned (.plain (OpenSpec.ofChange circlesTrueSpec)) circlesTrueCard

/-- THE TIED CARD OF 'leadlinelaw22.CirclesFar'. -/
def circlesFarCard : Claim7 := { stood := { row := circlesFarRow, standIns := [], harness := (true, "5a523d2e2621dd4654f6cd3de49b9f6a80651a9eafc13d5ed7e0084351301125"), looks := true }, kinds := [], alts := [], laidByText := true, laidKinds := [.handle], laidTests := true, laidLooks := .later }
def CirclesFarCardSaid : Prop := Claim7.holds Tryd.pinned (.plain (OpenSpec.ofChange circlesFarSpec)) circlesFarCard

/-- THE TIED CARD OF 'leadlinelaw22.CirclesSides'. -/
def circlesSidesCard : Claim7 := { stood := { row := circlesSidesRow, standIns := [], harness := (true, "5a523d2e2621dd4654f6cd3de49b9f6a80651a9eafc13d5ed7e0084351301125"), looks := true }, kinds := [], alts := [], laidByText := true, laidKinds := [.handle], laidTests := true, laidLooks := .later }
def CirclesSidesCardSaid : Prop := Claim7.holds Tryd.pinned (.plain (OpenSpec.ofChange circlesSidesSpec)) circlesSidesCard

/-- THE SECOND FORM's CARD OF 'leadlinelaw22.CirclesPick'. -/
def circlesPickUptoCard : Claim7 := { stood := { row := circlesPickUptoRow, standIns := [], harness := (true, "5a523d2e2621dd4654f6cd3de49b9f6a80651a9eafc13d5ed7e0084351301125"), looks := true }, kinds := [], alts := [], laidByText := true, laidKinds := [.handle], laidTests := true, laidLooks := .later }
def CirclesPickUptoCardSaid : Prop := Claim7.holds Tryd.pinned (.plain (OpenSpec.upto circlesPickSpec)) circlesPickUptoCard

/-- THE SECOND FORM's CARD OF 'leadlinelaw22.CirclesTrue'. -/
def circlesTrueUptoCard : Claim7 := { stood := { row := circlesTrueUptoRow, standIns := [], harness := (true, "5a523d2e2621dd4654f6cd3de49b9f6a80651a9eafc13d5ed7e0084351301125"), looks := true }, kinds := [], alts := [], laidByText := true, laidKinds := [.handle], laidTests := true, laidLooks := .later }
def CirclesTrueUptoCardSaid : Prop := Claim7.holds Tryd.pinned (.plain (OpenSpec.upto circlesTrueSpec)) circlesTrueUptoCard

/-- THE SECOND FORM's CARD OF 'leadlinelaw22.CirclesFar'. -/
def circlesFarUptoCard : Claim7 := { stood := { row := circlesFarUptoRow, standIns := [], harness := (true, "5a523d2e2621dd4654f6cd3de49b9f6a80651a9eafc13d5ed7e0084351301125"), looks := true }, kinds := [], alts := [], laidByText := true, laidKinds := [.handle], laidTests := true, laidLooks := .later }
def CirclesFarUptoCardSaid : Prop := Claim7.holds Tryd.pinned (.plain (OpenSpec.upto circlesFarSpec)) circlesFarUptoCard

/-- THE SECOND FORM's CARD OF 'leadlinelaw22.CirclesSides'. -/
def circlesSidesUptoCard : Claim7 := { stood := { row := circlesSidesUptoRow, standIns := [], harness := (true, "5a523d2e2621dd4654f6cd3de49b9f6a80651a9eafc13d5ed7e0084351301125"), looks := true }, kinds := [], alts := [], laidByText := true, laidKinds := [.handle], laidTests := true, laidLooks := .later }
def CirclesSidesUptoCardSaid : Prop := Claim7.holds Tryd.pinned (.plain (OpenSpec.upto circlesSidesSpec)) circlesSidesUptoCard
end Rows
end Go.Proofs.YtlgpemndbfclfaaDoor

/-
  DERIVED. GIVEN WITH THE SEED: THE CARDS: each row of YtigddjlhncnnoaaGreatDoorRows.lean that lists a variable, with what it lists TIED to the program's text (the seventh form; the later family's looks); each row that meets fmt, with fmt's text TOLD by the authors' own Lean function (tested against real Go, not proved from fmt's source: count such statements apart). THE CARD IS WHAT COUNTS. Prove the row's statement (the work); the ties are given (YtigddjlhncnnoaaGreatDoorTie.lean); close each card by the builder's one call (the guide's Derived/Test/ToyasCard.lean, 'card_holds'). Laid BY PROGRAM, IN A SANDBOX (cutbox-door.mjs). By AI agents, Wed Nov 11 2026. No macro, syntax, notation, axiom, sorry.
-/
import Derived.Test.YtigddjlhncnnoaaGreatDoorRows
import GoSem.ClaimSeven
namespace Go.Proofs.YtigddjlhncnnoaaGreatDoor
namespace Rows

/-- THE TIED CARD OF 'leadlinelaw22.CirclesMeet'. -/
def circlesMeetCard : Claim7 := { stood := { row := circlesMeetRow, standIns := [], harness := (true, "3f353315def0cb2d5f6f2e5b5aaeebfd4d358f675cc6f9b25e276b8ad485cd78"), looks := true }, kinds := [], alts := [], laidByText := true, laidKinds := [.handle], laidTests := true, laidLooks := .later }
def CirclesMeetCardSaid : Prop := Claim7.holds Tryz.pinned (.plain (OpenSpec.ofChange circlesMeetSpec)) circlesMeetCard

/-- THE TIED CARD OF 'leadlinelaw7.SolveTells'. -/
def solveTellsCard : Claim7 := { stood := { row := solveTellsRow, standIns := [], harness := (true, "3f353315def0cb2d5f6f2e5b5aaeebfd4d358f675cc6f9b25e276b8ad485cd78"), looks := true }, kinds := [], alts := [], laidByText := true, laidKinds := [.handle], laidTests := true, laidLooks := .later }
def SolveTellsCardSaid : Prop := Claim7.holds Tryz.pinned (.plain (OpenSpec.ofChange solveTellsSpec)) solveTellsCard

/-- THE TIED CARD OF 'leadlinelaw7.SolveProves'. -/
def solveProvesCard : Claim7 := { stood := { row := solveProvesRow, standIns := [], harness := (true, "3f353315def0cb2d5f6f2e5b5aaeebfd4d358f675cc6f9b25e276b8ad485cd78"), looks := true }, kinds := [], alts := [], laidByText := true, laidKinds := [.handle], laidTests := true, laidLooks := .later }
def SolveProvesCardSaid : Prop := Claim7.holds Tryz.pinned (.plain (OpenSpec.ofChange solveProvesSpec)) solveProvesCard

/-- THE TIED CARD OF 'leadlinelaw7.SolveBack'. -/
def solveBackCard : Claim7 := { stood := { row := solveBackRow, standIns := [], harness := (true, "3f353315def0cb2d5f6f2e5b5aaeebfd4d358f675cc6f9b25e276b8ad485cd78"), looks := true }, kinds := [], alts := [], laidByText := true, laidKinds := [.handle], laidTests := true, laidLooks := .later }
def SolveBackCardSaid : Prop := Claim7.holds Tryz.pinned (.plain (OpenSpec.ofChange solveBackSpec)) solveBackCard

/-- THE TIED CARD OF 'leadlinelaw7.SolveSums'. -/
def solveSumsCard : Claim7 := { stood := { row := solveSumsRow, standIns := [], harness := (true, "3f353315def0cb2d5f6f2e5b5aaeebfd4d358f675cc6f9b25e276b8ad485cd78"), looks := true }, kinds := [], alts := [], laidByText := true, laidKinds := [.handle], laidTests := true, laidLooks := .later }
def SolveSumsCardSaid : Prop := Claim7.holds Tryz.pinned (.plain (OpenSpec.ofChange solveSumsSpec)) solveSumsCard

/-- THE TIED CARD OF 'leadlinelaw23.BufferKeeps'. -/
def bufferKeepsCard : Claim7 := { stood := { row := bufferKeepsRow, standIns := [], harness := (true, "3f353315def0cb2d5f6f2e5b5aaeebfd4d358f675cc6f9b25e276b8ad485cd78"), looks := true }, kinds := [], alts := [], laidByText := true, laidKinds := [.handle], laidTests := true, laidLooks := .later }
def BufferKeepsCardSaid : Prop := Claim7.holds Tryz.pinned (.plain (OpenSpec.ofChange bufferKeepsSpec)) bufferKeepsCard

/-- THE TIED CARD OF 'leadlinelaw23.BufferFinds'. -/
def bufferFindsCard : Claim7 := { stood := { row := bufferFindsRow, standIns := [], harness := (true, "3f353315def0cb2d5f6f2e5b5aaeebfd4d358f675cc6f9b25e276b8ad485cd78"), looks := true }, kinds := [], alts := [], laidByText := true, laidKinds := [.handle], laidTests := true, laidLooks := .later }
def BufferFindsCardSaid : Prop := Claim7.holds Tryz.pinned (.plain (OpenSpec.ofChange bufferFindsSpec)) bufferFindsCard

/-- THE TIED CARD OF 'leadlinelaw7.SolveQuads'. -/
def solveQuadsCard : Claim7 := { stood := { row := solveQuadsRow, standIns := [], harness := (true, "3f353315def0cb2d5f6f2e5b5aaeebfd4d358f675cc6f9b25e276b8ad485cd78"), looks := true }, kinds := [], alts := [], laidByText := true, laidKinds := [.handle], laidTests := true, laidLooks := .later }
def SolveQuadsCardSaid : Prop := Claim7.holds Tryz.pinned (.plain (OpenSpec.ofChange solveQuadsSpec)) solveQuadsCard

/-- THE TIED CARD OF 'leadlinelaw7.SolveSides'. -/
def solveSidesCard : Claim7 := { stood := { row := solveSidesRow, standIns := [], harness := (true, "3f353315def0cb2d5f6f2e5b5aaeebfd4d358f675cc6f9b25e276b8ad485cd78"), looks := true }, kinds := [], alts := [], laidByText := true, laidKinds := [.handle], laidTests := true, laidLooks := .later }
def SolveSidesCardSaid : Prop := Claim7.holds Tryz.pinned (.plain (OpenSpec.ofChange solveSidesSpec)) solveSidesCard

/-- THE SECOND FORM's CARD OF 'leadlinelaw22.CirclesMeet'. -/
def circlesMeetUptoCard : Claim7 := { stood := { row := circlesMeetUptoRow, standIns := [], harness := (true, "3f353315def0cb2d5f6f2e5b5aaeebfd4d358f675cc6f9b25e276b8ad485cd78"), looks := true }, kinds := [], alts := [], laidByText := true, laidKinds := [.handle], laidTests := true, laidLooks := .later }
def CirclesMeetUptoCardSaid : Prop := Claim7.holds Tryz.pinned (.plain (OpenSpec.upto circlesMeetSpec)) circlesMeetUptoCard

/-- THE SECOND FORM's CARD OF 'leadlinelaw7.SolveTells'. -/
def solveTellsUptoCard : Claim7 := { stood := { row := solveTellsUptoRow, standIns := [], harness := (true, "3f353315def0cb2d5f6f2e5b5aaeebfd4d358f675cc6f9b25e276b8ad485cd78"), looks := true }, kinds := [], alts := [], laidByText := true, laidKinds := [.handle], laidTests := true, laidLooks := .later }
def SolveTellsUptoCardSaid : Prop := Claim7.holds Tryz.pinned (.plain (OpenSpec.upto solveTellsSpec)) solveTellsUptoCard

/-- THE SECOND FORM's CARD OF 'leadlinelaw7.SolveProves'. -/
def solveProvesUptoCard : Claim7 := { stood := { row := solveProvesUptoRow, standIns := [], harness := (true, "3f353315def0cb2d5f6f2e5b5aaeebfd4d358f675cc6f9b25e276b8ad485cd78"), looks := true }, kinds := [], alts := [], laidByText := true, laidKinds := [.handle], laidTests := true, laidLooks := .later }
def SolveProvesUptoCardSaid : Prop := Claim7.holds Tryz.pinned (.plain (OpenSpec.upto solveProvesSpec)) solveProvesUptoCard

/-- THE SECOND FORM's CARD OF 'leadlinelaw7.SolveBack'. -/
def solveBackUptoCard : Claim7 := { stood := { row := solveBackUptoRow, standIns := [], harness := (true, "3f353315def0cb2d5f6f2e5b5aaeebfd4d358f675cc6f9b25e276b8ad485cd78"), looks := true }, kinds := [], alts := [], laidByText := true, laidKinds := [.handle], laidTests := true, laidLooks := .later }
def SolveBackUptoCardSaid : Prop := Claim7.holds Tryz.pinned (.plain (OpenSpec.upto solveBackSpec)) solveBackUptoCard

/-- THE SECOND FORM's CARD OF 'leadlinelaw7.SolveSums'. -/
def solveSumsUptoCard : Claim7 := { stood := { row := solveSumsUptoRow, standIns := [], harness := (true, "3f353315def0cb2d5f6f2e5b5aaeebfd4d358f675cc6f9b25e276b8ad485cd78"), looks := true }, kinds := [], alts := [], laidByText := true, laidKinds := [.handle], laidTests := true, laidLooks := .later }
def SolveSumsUptoCardSaid : Prop := Claim7.holds Tryz.pinned (.plain (OpenSpec.upto solveSumsSpec)) solveSumsUptoCard

/-- THE SECOND FORM's CARD OF 'leadlinelaw23.BufferKeeps'. -/
def bufferKeepsUptoCard : Claim7 := { stood := { row := bufferKeepsUptoRow, standIns := [], harness := (true, "3f353315def0cb2d5f6f2e5b5aaeebfd4d358f675cc6f9b25e276b8ad485cd78"), looks := true }, kinds := [], alts := [], laidByText := true, laidKinds := [.handle], laidTests := true, laidLooks := .later }
def BufferKeepsUptoCardSaid : Prop := Claim7.holds Tryz.pinned (.plain (OpenSpec.upto bufferKeepsSpec)) bufferKeepsUptoCard

/-- THE SECOND FORM's CARD OF 'leadlinelaw23.BufferFinds'. -/
def bufferFindsUptoCard : Claim7 := { stood := { row := bufferFindsUptoRow, standIns := [], harness := (true, "3f353315def0cb2d5f6f2e5b5aaeebfd4d358f675cc6f9b25e276b8ad485cd78"), looks := true }, kinds := [], alts := [], laidByText := true, laidKinds := [.handle], laidTests := true, laidLooks := .later }
def BufferFindsUptoCardSaid : Prop := Claim7.holds Tryz.pinned (.plain (OpenSpec.upto bufferFindsSpec)) bufferFindsUptoCard

/-- THE SECOND FORM's CARD OF 'leadlinelaw7.SolveQuads'. -/
def solveQuadsUptoCard : Claim7 := { stood := { row := solveQuadsUptoRow, standIns := [], harness := (true, "3f353315def0cb2d5f6f2e5b5aaeebfd4d358f675cc6f9b25e276b8ad485cd78"), looks := true }, kinds := [], alts := [], laidByText := true, laidKinds := [.handle], laidTests := true, laidLooks := .later }
def SolveQuadsUptoCardSaid : Prop := Claim7.holds Tryz.pinned (.plain (OpenSpec.upto solveQuadsSpec)) solveQuadsUptoCard

/-- THE SECOND FORM's CARD OF 'leadlinelaw7.SolveSides'. -/
def solveSidesUptoCard : Claim7 := { stood := { row := solveSidesUptoRow, standIns := [], harness := (true, "3f353315def0cb2d5f6f2e5b5aaeebfd4d358f675cc6f9b25e276b8ad485cd78"), looks := true }, kinds := [], alts := [], laidByText := true, laidKinds := [.handle], laidTests := true, laidLooks := .later }
def SolveSidesUptoCardSaid : Prop := Claim7.holds Tryz.pinned (.plain (OpenSpec.upto solveSidesSpec)) solveSidesUptoCard
end Rows
end Go.Proofs.YtigddjlhncnnoaaGreatDoor

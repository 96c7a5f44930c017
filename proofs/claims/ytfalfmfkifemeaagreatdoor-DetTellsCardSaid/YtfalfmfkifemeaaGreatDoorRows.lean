/-
  NARROWER THAN 'FOR EVERY INPUT', by the rows' own cells (each row's printed sentence says how): DetTells: laid · DetBlocks: laid · DetTurns: laid · MinorsBegin: laid · BoundTells: laid · BoundBelow: laid · BoundLine: laid.
  DERIVED. THE GIVEN ROWS OF THIS SEAT. 7 by the template 'for every input the law returns true; each argument reads behind the call as it read before'; 0 by the template 'total and deterministic' (their statements: YtfalfmfkifemeaaGreatDoorTotals.lean).
  GIVEN WITH THE SEED: the statements are not yours to turn. If you find one false, say at which input.
  Laid BY PROGRAM, IN A SANDBOX (cutbox-rows.mjs): the forced cells as the released guide's own fill.sh prints them over the translation 7b8180bd5459be78… (all of the seat's roots in one cut). By AI agents, Wed Nov 11 2026. No macro, syntax, notation, axiom, sorry.
-/
import Derived.Test.YtfalfmfkifemeaaGreatDoorChecked
import GoSem.Claim
import GoSem.ClaimJoined
import GoSem.ClaimMapViews
import Derived.JoinedTies
import Derived.KernelRfl
namespace Go.Proofs.YtfalfmfkifemeaaGreatDoor
/- THE CELL 'sum', in the pinned program and in every row, IS THE sha256 OF THE DUMP (.gsa) THAT YtfalfmfkifemeaaGreatDoorProg.lean LOADS. Nothing in Lean hashes anything: it is a label: what it is worth is what the hold of that sum in a sandbox is worth. -/
noncomputable def Tryz.pinned : Pinned := { name := "ytfalfmfkifemeaagreatdoor", sum := "7b8180bd5459be781ed6462c0ea091ab55d0f84a1c2541f462de22adea6d06b5", checked := Tryz.checked }
namespace Rows
def none {H : Type} : Left H := { results := [], args := [] }

/- WHAT THE LISTED PACKAGE-LEVEL VARIABLES READ AS WHEN THE CALL BEGINS. Each datum BY PROGRAM (the guide's laid-datum.mjs) off the statement by which the dump's own 'gosem.cut.vars' lays the variable. In a bare row this is a premise. The card (YtfalfmfkifemeaaGreatDoorCards.lean) ties it to the program's text. -/
def laid_errors_errorType {H : Type} : DataW H := .iface "internal/reflectlite.rtype" (.agg [.ptr (.lit (.string [101, 114, 114, 111, 114]))])

/-- 'leadlinelaw6.DetTells': WHATEVER THE INPUT: true; the input reads as it did. -/
def detTellsSpec : ChangeSpec := { name := "detTells", fn := fun _ => fun
  | [d1, d2, d3, d4, d5, d6] => { results := [.lit (.bool true)], args := [d1, d2, d3, d4, d5, d6] }
  | _ => none }
def detTellsRow : OpenClaim := { program := "ytfalfmfkifemeaagreatdoor", sum := "7b8180bd5459be781ed6462c0ea091ab55d0f84a1c2541f462de22adea6d06b5", func := "leadline/leadlinelaw6.DetTells", spec := "detTells", inPlace := ["math/bits.Add64", "math/bits.Sub64", "internal/reflectlite.ValueOf", "(internal/reflectlite.Value).Type", "(internal/reflectlite.Value).IsNil", "internal/reflectlite.TypeOf", "(internal/reflectlite.Value).Elem", "(internal/reflectlite.Value).Set"], unfollowed := true, recurses := true, named := ["math/bits.divideError", "math/bits.overflowError", "errors.errorType"], apart := false, laid := [("errors.errorType", laid_errors_errorType)] }
def DetTellsSaid : Prop := detTellsRow.holds Tryz.pinned (OpenSpec.ofChange detTellsSpec)

/-- ITS FALSE NEIGHBOUR: 'it returns false'. Refute it at one input. -/
def detTellsWrong : ChangeSpec := { name := "detTells", fn := fun _ => fun
  | [d1, d2, d3, d4, d5, d6] => { results := [.lit (.bool false)], args := [d1, d2, d3, d4, d5, d6] }
  | _ => none }
def DetTellsWrongFalsely : Prop := detTellsRow.holds Tryz.pinned (OpenSpec.ofChange detTellsWrong)

/-- 'leadlinelaw6.DetBlocks': WHATEVER THE INPUT: true; the input reads as it did. -/
def detBlocksSpec : ChangeSpec := { name := "detBlocks", fn := fun _ => fun
  | [d1, d2, d3, d4, d5, d6] => { results := [.lit (.bool true)], args := [d1, d2, d3, d4, d5, d6] }
  | _ => none }
def detBlocksRow : OpenClaim := { program := "ytfalfmfkifemeaagreatdoor", sum := "7b8180bd5459be781ed6462c0ea091ab55d0f84a1c2541f462de22adea6d06b5", func := "leadline/leadlinelaw6.DetBlocks", spec := "detBlocks", inPlace := ["math/bits.Add64", "math/bits.Sub64", "internal/reflectlite.ValueOf", "(internal/reflectlite.Value).Type", "(internal/reflectlite.Value).IsNil", "internal/reflectlite.TypeOf", "(internal/reflectlite.Value).Elem", "(internal/reflectlite.Value).Set"], unfollowed := true, recurses := true, named := ["math/bits.divideError", "math/bits.overflowError", "errors.errorType"], apart := false, laid := [("errors.errorType", laid_errors_errorType)] }
def DetBlocksSaid : Prop := detBlocksRow.holds Tryz.pinned (OpenSpec.ofChange detBlocksSpec)

/-- ITS FALSE NEIGHBOUR: 'it returns false'. Refute it at one input. -/
def detBlocksWrong : ChangeSpec := { name := "detBlocks", fn := fun _ => fun
  | [d1, d2, d3, d4, d5, d6] => { results := [.lit (.bool false)], args := [d1, d2, d3, d4, d5, d6] }
  | _ => none }
def DetBlocksWrongFalsely : Prop := detBlocksRow.holds Tryz.pinned (OpenSpec.ofChange detBlocksWrong)

/-- 'leadlinelaw6.DetTurns': WHATEVER THE INPUT: true; the input reads as it did. -/
def detTurnsSpec : ChangeSpec := { name := "detTurns", fn := fun _ => fun
  | [d1, d2, d3, d4, d5] => { results := [.lit (.bool true)], args := [d1, d2, d3, d4, d5] }
  | _ => none }
def detTurnsRow : OpenClaim := { program := "ytfalfmfkifemeaagreatdoor", sum := "7b8180bd5459be781ed6462c0ea091ab55d0f84a1c2541f462de22adea6d06b5", func := "leadline/leadlinelaw6.DetTurns", spec := "detTurns", inPlace := ["math/bits.Add64", "math/bits.Sub64", "internal/reflectlite.ValueOf", "(internal/reflectlite.Value).Type", "(internal/reflectlite.Value).IsNil", "internal/reflectlite.TypeOf", "(internal/reflectlite.Value).Elem", "(internal/reflectlite.Value).Set"], unfollowed := true, recurses := true, named := ["math/bits.divideError", "math/bits.overflowError", "errors.errorType"], apart := false, laid := [("errors.errorType", laid_errors_errorType)] }
def DetTurnsSaid : Prop := detTurnsRow.holds Tryz.pinned (OpenSpec.ofChange detTurnsSpec)

/-- ITS FALSE NEIGHBOUR: 'it returns false'. Refute it at one input. -/
def detTurnsWrong : ChangeSpec := { name := "detTurns", fn := fun _ => fun
  | [d1, d2, d3, d4, d5] => { results := [.lit (.bool false)], args := [d1, d2, d3, d4, d5] }
  | _ => none }
def DetTurnsWrongFalsely : Prop := detTurnsRow.holds Tryz.pinned (OpenSpec.ofChange detTurnsWrong)

/-- 'leadlinelaw6.MinorsBegin': WHATEVER THE INPUT: true; the input reads as it did. -/
def minorsBeginSpec : ChangeSpec := { name := "minorsBegin", fn := fun _ => fun
  | [d1, d2, d3, d4] => { results := [.lit (.bool true)], args := [d1, d2, d3, d4] }
  | _ => none }
def minorsBeginRow : OpenClaim := { program := "ytfalfmfkifemeaagreatdoor", sum := "7b8180bd5459be781ed6462c0ea091ab55d0f84a1c2541f462de22adea6d06b5", func := "leadline/leadlinelaw6.MinorsBegin", spec := "minorsBegin", inPlace := ["math/bits.Add64", "math/bits.Sub64", "internal/reflectlite.ValueOf", "(internal/reflectlite.Value).Type", "(internal/reflectlite.Value).IsNil", "internal/reflectlite.TypeOf", "(internal/reflectlite.Value).Elem", "(internal/reflectlite.Value).Set"], unfollowed := true, recurses := true, named := ["math/bits.divideError", "math/bits.overflowError", "errors.errorType"], apart := false, laid := [("errors.errorType", laid_errors_errorType)] }
def MinorsBeginSaid : Prop := minorsBeginRow.holds Tryz.pinned (OpenSpec.ofChange minorsBeginSpec)

/-- ITS FALSE NEIGHBOUR: 'it returns false'. Refute it at one input. -/
def minorsBeginWrong : ChangeSpec := { name := "minorsBegin", fn := fun _ => fun
  | [d1, d2, d3, d4] => { results := [.lit (.bool false)], args := [d1, d2, d3, d4] }
  | _ => none }
def MinorsBeginWrongFalsely : Prop := minorsBeginRow.holds Tryz.pinned (OpenSpec.ofChange minorsBeginWrong)

/-- 'leadlinelaw9.BoundTells': WHATEVER THE INPUT: true; the input reads as it did. -/
def boundTellsSpec : ChangeSpec := { name := "boundTells", fn := fun _ => fun
  | [d1, d2, d3, d4, d5, d6] => { results := [.lit (.bool true)], args := [d1, d2, d3, d4, d5, d6] }
  | _ => none }
def boundTellsRow : OpenClaim := { program := "ytfalfmfkifemeaagreatdoor", sum := "7b8180bd5459be781ed6462c0ea091ab55d0f84a1c2541f462de22adea6d06b5", func := "leadline/leadlinelaw9.BoundTells", spec := "boundTells", inPlace := ["math/bits.Add64", "math/bits.Sub64", "internal/reflectlite.ValueOf", "(internal/reflectlite.Value).Type", "(internal/reflectlite.Value).IsNil", "internal/reflectlite.TypeOf", "(internal/reflectlite.Value).Elem", "(internal/reflectlite.Value).Set"], unfollowed := true, recurses := true, named := ["math/bits.divideError", "math/bits.overflowError", "errors.errorType"], apart := false, laid := [("errors.errorType", laid_errors_errorType)] }
def BoundTellsSaid : Prop := boundTellsRow.holds Tryz.pinned (OpenSpec.ofChange boundTellsSpec)

/-- ITS FALSE NEIGHBOUR: 'it returns false'. Refute it at one input. -/
def boundTellsWrong : ChangeSpec := { name := "boundTells", fn := fun _ => fun
  | [d1, d2, d3, d4, d5, d6] => { results := [.lit (.bool false)], args := [d1, d2, d3, d4, d5, d6] }
  | _ => none }
def BoundTellsWrongFalsely : Prop := boundTellsRow.holds Tryz.pinned (OpenSpec.ofChange boundTellsWrong)

/-- 'leadlinelaw9.BoundBelow': WHATEVER THE INPUT: true; the input reads as it did. -/
def boundBelowSpec : ChangeSpec := { name := "boundBelow", fn := fun _ => fun
  | [d1, d2, d3, d4, d5, d6, d7, d8] => { results := [.lit (.bool true)], args := [d1, d2, d3, d4, d5, d6, d7, d8] }
  | _ => none }
def boundBelowRow : OpenClaim := { program := "ytfalfmfkifemeaagreatdoor", sum := "7b8180bd5459be781ed6462c0ea091ab55d0f84a1c2541f462de22adea6d06b5", func := "leadline/leadlinelaw9.BoundBelow", spec := "boundBelow", inPlace := ["math/bits.Add64", "math/bits.Sub64", "internal/reflectlite.ValueOf", "(internal/reflectlite.Value).Type", "(internal/reflectlite.Value).IsNil", "internal/reflectlite.TypeOf", "(internal/reflectlite.Value).Elem", "(internal/reflectlite.Value).Set"], unfollowed := true, recurses := true, named := ["math/bits.divideError", "math/bits.overflowError", "errors.errorType"], apart := false, laid := [("errors.errorType", laid_errors_errorType)] }
def BoundBelowSaid : Prop := boundBelowRow.holds Tryz.pinned (OpenSpec.ofChange boundBelowSpec)

/-- ITS FALSE NEIGHBOUR: 'it returns false'. Refute it at one input. -/
def boundBelowWrong : ChangeSpec := { name := "boundBelow", fn := fun _ => fun
  | [d1, d2, d3, d4, d5, d6, d7, d8] => { results := [.lit (.bool false)], args := [d1, d2, d3, d4, d5, d6, d7, d8] }
  | _ => none }
def BoundBelowWrongFalsely : Prop := boundBelowRow.holds Tryz.pinned (OpenSpec.ofChange boundBelowWrong)

/-- 'leadlinelaw9.BoundLine': WHATEVER THE INPUT: true; the input reads as it did. -/
def boundLineSpec : ChangeSpec := { name := "boundLine", fn := fun _ => fun
  | [d1, d2, d3, d4, d5] => { results := [.lit (.bool true)], args := [d1, d2, d3, d4, d5] }
  | _ => none }
def boundLineRow : OpenClaim := { program := "ytfalfmfkifemeaagreatdoor", sum := "7b8180bd5459be781ed6462c0ea091ab55d0f84a1c2541f462de22adea6d06b5", func := "leadline/leadlinelaw9.BoundLine", spec := "boundLine", inPlace := ["math/bits.Add64", "math/bits.Sub64", "internal/reflectlite.ValueOf", "(internal/reflectlite.Value).Type", "(internal/reflectlite.Value).IsNil", "internal/reflectlite.TypeOf", "(internal/reflectlite.Value).Elem", "(internal/reflectlite.Value).Set"], unfollowed := true, recurses := true, named := ["math/bits.divideError", "math/bits.overflowError", "errors.errorType"], apart := false, laid := [("errors.errorType", laid_errors_errorType)] }
def BoundLineSaid : Prop := boundLineRow.holds Tryz.pinned (OpenSpec.ofChange boundLineSpec)

/-- ITS FALSE NEIGHBOUR: 'it returns false'. Refute it at one input. -/
def boundLineWrong : ChangeSpec := { name := "boundLine", fn := fun _ => fun
  | [d1, d2, d3, d4, d5] => { results := [.lit (.bool false)], args := [d1, d2, d3, d4, d5] }
  | _ => none }
def BoundLineWrongFalsely : Prop := boundLineRow.holds Tryz.pinned (OpenSpec.ofChange boundLineWrong)

/- THE SECOND FORM. 'bulk': how many values and letters a reading holds, each counted each time it is reached (what is shared counts as often as it is met; a slice's spare places count too). A statement '..UptoSaid' is the law's where the arguments, and the package variables that the reading takes, are together of bulk at most 1048576: NARROWER than '..Said'. Prove '..Said' where nothing that the law and all that it calls make is longer than what came in: it says more and counts as full. Else prove '..UptoSaid'. A law counts once. -/
mutual
def uptoBulk {H : Type} : DataW H → Nat
  | .lit (.string bytes) => bytes.length + 1
  | .lit _ => 1
  | .nil => 1
  | .ptr d => uptoBulk d + 1
  | .slice elems spare => uptoBulkAll elems + uptoBulkAll spare + 1
  | .agg parts => uptoBulkAll parts + 1
  | .iface _ d => uptoBulk d + 1
  | .map entries => uptoBulkEntries entries + 1
  | .held _ => 1
def uptoBulkAll {H : Type} : List (DataW H) → Nat
  | [] => 0
  | d :: r => uptoBulk d + uptoBulkAll r
def uptoBulkEntries {H : Type} : List (Lit × DataW H) → Nat
  | [] => 0
  | x :: r => uptoBulkEntry x + uptoBulkEntries r
def uptoBulkEntry {H : Type} : Lit × DataW H → Nat
  | (.string bytes, d) => bytes.length + uptoBulk d + 1
  | (_, d) => uptoBulk d + 1
 end
def uptoSmall : (H : Type) → List (DataW H) → Bool := fun _ ds => decide (uptoBulkAll ds ≤ 1048576)
def OpenSpec.upto (s : _root_.Go.ChangeSpec) : _root_.Go.OpenSpec := { _root_.Go.OpenSpec.ofChange s with cond := some uptoSmall }

/-- 'leadlinelaw6.DetTells', WHERE WHAT IT READS IS OF BULK AT MOST 1048576: true; the input reads as it did. -/
def detTellsUptoRow : OpenClaim := { program := "ytfalfmfkifemeaagreatdoor", sum := "7b8180bd5459be781ed6462c0ea091ab55d0f84a1c2541f462de22adea6d06b5", func := "leadline/leadlinelaw6.DetTells", spec := "detTells", inPlace := ["math/bits.Add64", "math/bits.Sub64", "internal/reflectlite.ValueOf", "(internal/reflectlite.Value).Type", "(internal/reflectlite.Value).IsNil", "internal/reflectlite.TypeOf", "(internal/reflectlite.Value).Elem", "(internal/reflectlite.Value).Set"], unfollowed := true, recurses := true, named := ["math/bits.divideError", "math/bits.overflowError", "errors.errorType"], apart := false, laid := [("errors.errorType", laid_errors_errorType)], narrowed := true }
def DetTellsUptoSaid : Prop := detTellsUptoRow.holds Tryz.pinned (OpenSpec.upto detTellsSpec)

/-- 'leadlinelaw6.DetBlocks', WHERE WHAT IT READS IS OF BULK AT MOST 1048576: true; the input reads as it did. -/
def detBlocksUptoRow : OpenClaim := { program := "ytfalfmfkifemeaagreatdoor", sum := "7b8180bd5459be781ed6462c0ea091ab55d0f84a1c2541f462de22adea6d06b5", func := "leadline/leadlinelaw6.DetBlocks", spec := "detBlocks", inPlace := ["math/bits.Add64", "math/bits.Sub64", "internal/reflectlite.ValueOf", "(internal/reflectlite.Value).Type", "(internal/reflectlite.Value).IsNil", "internal/reflectlite.TypeOf", "(internal/reflectlite.Value).Elem", "(internal/reflectlite.Value).Set"], unfollowed := true, recurses := true, named := ["math/bits.divideError", "math/bits.overflowError", "errors.errorType"], apart := false, laid := [("errors.errorType", laid_errors_errorType)], narrowed := true }
def DetBlocksUptoSaid : Prop := detBlocksUptoRow.holds Tryz.pinned (OpenSpec.upto detBlocksSpec)

/-- 'leadlinelaw6.DetTurns', WHERE WHAT IT READS IS OF BULK AT MOST 1048576: true; the input reads as it did. -/
def detTurnsUptoRow : OpenClaim := { program := "ytfalfmfkifemeaagreatdoor", sum := "7b8180bd5459be781ed6462c0ea091ab55d0f84a1c2541f462de22adea6d06b5", func := "leadline/leadlinelaw6.DetTurns", spec := "detTurns", inPlace := ["math/bits.Add64", "math/bits.Sub64", "internal/reflectlite.ValueOf", "(internal/reflectlite.Value).Type", "(internal/reflectlite.Value).IsNil", "internal/reflectlite.TypeOf", "(internal/reflectlite.Value).Elem", "(internal/reflectlite.Value).Set"], unfollowed := true, recurses := true, named := ["math/bits.divideError", "math/bits.overflowError", "errors.errorType"], apart := false, laid := [("errors.errorType", laid_errors_errorType)], narrowed := true }
def DetTurnsUptoSaid : Prop := detTurnsUptoRow.holds Tryz.pinned (OpenSpec.upto detTurnsSpec)

/-- 'leadlinelaw6.MinorsBegin', WHERE WHAT IT READS IS OF BULK AT MOST 1048576: true; the input reads as it did. -/
def minorsBeginUptoRow : OpenClaim := { program := "ytfalfmfkifemeaagreatdoor", sum := "7b8180bd5459be781ed6462c0ea091ab55d0f84a1c2541f462de22adea6d06b5", func := "leadline/leadlinelaw6.MinorsBegin", spec := "minorsBegin", inPlace := ["math/bits.Add64", "math/bits.Sub64", "internal/reflectlite.ValueOf", "(internal/reflectlite.Value).Type", "(internal/reflectlite.Value).IsNil", "internal/reflectlite.TypeOf", "(internal/reflectlite.Value).Elem", "(internal/reflectlite.Value).Set"], unfollowed := true, recurses := true, named := ["math/bits.divideError", "math/bits.overflowError", "errors.errorType"], apart := false, laid := [("errors.errorType", laid_errors_errorType)], narrowed := true }
def MinorsBeginUptoSaid : Prop := minorsBeginUptoRow.holds Tryz.pinned (OpenSpec.upto minorsBeginSpec)

/-- 'leadlinelaw9.BoundTells', WHERE WHAT IT READS IS OF BULK AT MOST 1048576: true; the input reads as it did. -/
def boundTellsUptoRow : OpenClaim := { program := "ytfalfmfkifemeaagreatdoor", sum := "7b8180bd5459be781ed6462c0ea091ab55d0f84a1c2541f462de22adea6d06b5", func := "leadline/leadlinelaw9.BoundTells", spec := "boundTells", inPlace := ["math/bits.Add64", "math/bits.Sub64", "internal/reflectlite.ValueOf", "(internal/reflectlite.Value).Type", "(internal/reflectlite.Value).IsNil", "internal/reflectlite.TypeOf", "(internal/reflectlite.Value).Elem", "(internal/reflectlite.Value).Set"], unfollowed := true, recurses := true, named := ["math/bits.divideError", "math/bits.overflowError", "errors.errorType"], apart := false, laid := [("errors.errorType", laid_errors_errorType)], narrowed := true }
def BoundTellsUptoSaid : Prop := boundTellsUptoRow.holds Tryz.pinned (OpenSpec.upto boundTellsSpec)

/-- 'leadlinelaw9.BoundBelow', WHERE WHAT IT READS IS OF BULK AT MOST 1048576: true; the input reads as it did. -/
def boundBelowUptoRow : OpenClaim := { program := "ytfalfmfkifemeaagreatdoor", sum := "7b8180bd5459be781ed6462c0ea091ab55d0f84a1c2541f462de22adea6d06b5", func := "leadline/leadlinelaw9.BoundBelow", spec := "boundBelow", inPlace := ["math/bits.Add64", "math/bits.Sub64", "internal/reflectlite.ValueOf", "(internal/reflectlite.Value).Type", "(internal/reflectlite.Value).IsNil", "internal/reflectlite.TypeOf", "(internal/reflectlite.Value).Elem", "(internal/reflectlite.Value).Set"], unfollowed := true, recurses := true, named := ["math/bits.divideError", "math/bits.overflowError", "errors.errorType"], apart := false, laid := [("errors.errorType", laid_errors_errorType)], narrowed := true }
def BoundBelowUptoSaid : Prop := boundBelowUptoRow.holds Tryz.pinned (OpenSpec.upto boundBelowSpec)

/-- 'leadlinelaw9.BoundLine', WHERE WHAT IT READS IS OF BULK AT MOST 1048576: true; the input reads as it did. -/
def boundLineUptoRow : OpenClaim := { program := "ytfalfmfkifemeaagreatdoor", sum := "7b8180bd5459be781ed6462c0ea091ab55d0f84a1c2541f462de22adea6d06b5", func := "leadline/leadlinelaw9.BoundLine", spec := "boundLine", inPlace := ["math/bits.Add64", "math/bits.Sub64", "internal/reflectlite.ValueOf", "(internal/reflectlite.Value).Type", "(internal/reflectlite.Value).IsNil", "internal/reflectlite.TypeOf", "(internal/reflectlite.Value).Elem", "(internal/reflectlite.Value).Set"], unfollowed := true, recurses := true, named := ["math/bits.divideError", "math/bits.overflowError", "errors.errorType"], apart := false, laid := [("errors.errorType", laid_errors_errorType)], narrowed := true }
def BoundLineUptoSaid : Prop := boundLineUptoRow.holds Tryz.pinned (OpenSpec.upto boundLineSpec)

end Rows
end Go.Proofs.YtfalfmfkifemeaaGreatDoor

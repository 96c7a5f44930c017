/-
  NARROWER THAN 'FOR EVERY INPUT', by the rows' own cells (each row's printed sentence says how): CirclesMeet: laid · SolveTells: laid · SolveProves: laid · SolveBack: laid · SolveSums: laid · BufferKeeps: laid · BufferFinds: laid · SolveQuads: laid · SolveSides: laid.
  DERIVED. THE GIVEN ROWS OF THIS SEAT. 9 by the template 'for every input the law returns true; each argument reads behind the call as it read before'; 0 by the template 'total and deterministic' (their statements: YtigddjlhncnnoaaGreatDoorTotals.lean).
  GIVEN WITH THE SEED: the statements are not yours to turn. If you find one false, say at which input.
  Laid BY PROGRAM, IN A SANDBOX (cutbox-rows.mjs): the forced cells as the released guide's own fill.sh prints them over the translation 02979d687bc42b33… (all of the seat's roots in one cut). By AI agents, Wed Nov 11 2026. No macro, syntax, notation, axiom, sorry.
-/
import Derived.Test.YtigddjlhncnnoaaGreatDoorChecked
import GoSem.Claim
import GoSem.ClaimJoined
import GoSem.ClaimMapViews
import Derived.JoinedTies
import Derived.KernelRfl
namespace Go.Proofs.YtigddjlhncnnoaaGreatDoor
/- THE CELL 'sum', in the pinned program and in every row, IS THE sha256 OF THE DUMP (.gsa) THAT YtigddjlhncnnoaaGreatDoorProg.lean LOADS. Nothing in Lean hashes anything: it is a label: what it is worth is what the hold of that sum in a sandbox is worth. -/
noncomputable def Tryz.pinned : Pinned := { name := "ytigddjlhncnnoaagreatdoor", sum := "02979d687bc42b33e7d880c6a365b3f95b62c6cefa5361cee06eded6dd201fe9", checked := Tryz.checked }
namespace Rows
def none {H : Type} : Left H := { results := [], args := [] }

/- WHAT THE LISTED PACKAGE-LEVEL VARIABLES READ AS WHEN THE CALL BEGINS. Each datum BY PROGRAM (the guide's laid-datum.mjs) off the statement by which the dump's own 'gosem.cut.vars' lays the variable. In a bare row this is a premise. The card (YtigddjlhncnnoaaGreatDoorCards.lean) ties it to the program's text. -/
def laid_errors_errorType {H : Type} : DataW H := .iface "internal/reflectlite.rtype" (.agg [.ptr (.lit (.string [101, 114, 114, 111, 114]))])

/-- 'leadlinelaw22.CirclesMeet': WHATEVER THE INPUT: true; the input reads as it did. -/
def circlesMeetSpec : ChangeSpec := { name := "circlesMeet", fn := fun _ => fun
  | [d1, d2, d3, d4, d5, d6, d7] => { results := [.lit (.bool true)], args := [d1, d2, d3, d4, d5, d6, d7] }
  | _ => none }
def circlesMeetRow : OpenClaim := { program := "ytigddjlhncnnoaagreatdoor", sum := "02979d687bc42b33e7d880c6a365b3f95b62c6cefa5361cee06eded6dd201fe9", func := "leadline/leadlinelaw22.CirclesMeet", spec := "circlesMeet", inPlace := ["math/bits.Add64", "math/bits.Sub64", "internal/reflectlite.ValueOf", "(internal/reflectlite.Value).Type", "(internal/reflectlite.Value).IsNil", "internal/reflectlite.TypeOf", "(internal/reflectlite.Value).Elem", "(internal/reflectlite.Value).Set"], unfollowed := true, recurses := true, named := ["math/bits.divideError", "math/bits.overflowError", "errors.errorType"], apart := false, laid := [("errors.errorType", laid_errors_errorType)] }
def CirclesMeetSaid : Prop := circlesMeetRow.holds Tryz.pinned (OpenSpec.ofChange circlesMeetSpec)

/-- ITS FALSE NEIGHBOUR: 'it returns false'. Refute it at one input. -/
def circlesMeetWrong : ChangeSpec := { name := "circlesMeet", fn := fun _ => fun
  | [d1, d2, d3, d4, d5, d6, d7] => { results := [.lit (.bool false)], args := [d1, d2, d3, d4, d5, d6, d7] }
  | _ => none }
def CirclesMeetWrongFalsely : Prop := circlesMeetRow.holds Tryz.pinned (OpenSpec.ofChange circlesMeetWrong)

/-- 'leadlinelaw7.SolveTells': WHATEVER THE INPUT: true; the input reads as it did. -/
def solveTellsSpec : ChangeSpec := { name := "solveTells", fn := fun _ => fun
  | [d1, d2, d3, d4, d5, d6] => { results := [.lit (.bool true)], args := [d1, d2, d3, d4, d5, d6] }
  | _ => none }
def solveTellsRow : OpenClaim := { program := "ytigddjlhncnnoaagreatdoor", sum := "02979d687bc42b33e7d880c6a365b3f95b62c6cefa5361cee06eded6dd201fe9", func := "leadline/leadlinelaw7.SolveTells", spec := "solveTells", inPlace := ["math/bits.Add64", "math/bits.Sub64", "internal/reflectlite.ValueOf", "(internal/reflectlite.Value).Type", "(internal/reflectlite.Value).IsNil", "internal/reflectlite.TypeOf", "(internal/reflectlite.Value).Elem", "(internal/reflectlite.Value).Set"], unfollowed := true, recurses := true, named := ["math/bits.divideError", "math/bits.overflowError", "errors.errorType"], apart := false, laid := [("errors.errorType", laid_errors_errorType)] }
def SolveTellsSaid : Prop := solveTellsRow.holds Tryz.pinned (OpenSpec.ofChange solveTellsSpec)

/-- ITS FALSE NEIGHBOUR: 'it returns false'. Refute it at one input. -/
def solveTellsWrong : ChangeSpec := { name := "solveTells", fn := fun _ => fun
  | [d1, d2, d3, d4, d5, d6] => { results := [.lit (.bool false)], args := [d1, d2, d3, d4, d5, d6] }
  | _ => none }
def SolveTellsWrongFalsely : Prop := solveTellsRow.holds Tryz.pinned (OpenSpec.ofChange solveTellsWrong)

/-- 'leadlinelaw7.SolveProves': WHATEVER THE INPUT: true; the input reads as it did. -/
def solveProvesSpec : ChangeSpec := { name := "solveProves", fn := fun _ => fun
  | [d1, d2, d3, d4, d5, d6, d7] => { results := [.lit (.bool true)], args := [d1, d2, d3, d4, d5, d6, d7] }
  | _ => none }
def solveProvesRow : OpenClaim := { program := "ytigddjlhncnnoaagreatdoor", sum := "02979d687bc42b33e7d880c6a365b3f95b62c6cefa5361cee06eded6dd201fe9", func := "leadline/leadlinelaw7.SolveProves", spec := "solveProves", inPlace := ["math/bits.Add64", "math/bits.Sub64", "internal/reflectlite.ValueOf", "(internal/reflectlite.Value).Type", "(internal/reflectlite.Value).IsNil", "internal/reflectlite.TypeOf", "(internal/reflectlite.Value).Elem", "(internal/reflectlite.Value).Set"], unfollowed := true, recurses := true, named := ["math/bits.divideError", "math/bits.overflowError", "errors.errorType"], apart := false, laid := [("errors.errorType", laid_errors_errorType)] }
def SolveProvesSaid : Prop := solveProvesRow.holds Tryz.pinned (OpenSpec.ofChange solveProvesSpec)

/-- ITS FALSE NEIGHBOUR: 'it returns false'. Refute it at one input. -/
def solveProvesWrong : ChangeSpec := { name := "solveProves", fn := fun _ => fun
  | [d1, d2, d3, d4, d5, d6, d7] => { results := [.lit (.bool false)], args := [d1, d2, d3, d4, d5, d6, d7] }
  | _ => none }
def SolveProvesWrongFalsely : Prop := solveProvesRow.holds Tryz.pinned (OpenSpec.ofChange solveProvesWrong)

/-- 'leadlinelaw7.SolveBack': WHATEVER THE INPUT: true; the input reads as it did. -/
def solveBackSpec : ChangeSpec := { name := "solveBack", fn := fun _ => fun
  | [d1, d2, d3, d4, d5] => { results := [.lit (.bool true)], args := [d1, d2, d3, d4, d5] }
  | _ => none }
def solveBackRow : OpenClaim := { program := "ytigddjlhncnnoaagreatdoor", sum := "02979d687bc42b33e7d880c6a365b3f95b62c6cefa5361cee06eded6dd201fe9", func := "leadline/leadlinelaw7.SolveBack", spec := "solveBack", inPlace := ["math/bits.Add64", "math/bits.Sub64", "internal/reflectlite.ValueOf", "(internal/reflectlite.Value).Type", "(internal/reflectlite.Value).IsNil", "internal/reflectlite.TypeOf", "(internal/reflectlite.Value).Elem", "(internal/reflectlite.Value).Set"], unfollowed := true, recurses := true, named := ["math/bits.divideError", "math/bits.overflowError", "errors.errorType"], apart := false, laid := [("errors.errorType", laid_errors_errorType)] }
def SolveBackSaid : Prop := solveBackRow.holds Tryz.pinned (OpenSpec.ofChange solveBackSpec)

/-- ITS FALSE NEIGHBOUR: 'it returns false'. Refute it at one input. -/
def solveBackWrong : ChangeSpec := { name := "solveBack", fn := fun _ => fun
  | [d1, d2, d3, d4, d5] => { results := [.lit (.bool false)], args := [d1, d2, d3, d4, d5] }
  | _ => none }
def SolveBackWrongFalsely : Prop := solveBackRow.holds Tryz.pinned (OpenSpec.ofChange solveBackWrong)

/-- 'leadlinelaw7.SolveSums': WHATEVER THE INPUT: true; the input reads as it did. -/
def solveSumsSpec : ChangeSpec := { name := "solveSums", fn := fun _ => fun
  | [d1, d2, d3, d4, d5] => { results := [.lit (.bool true)], args := [d1, d2, d3, d4, d5] }
  | _ => none }
def solveSumsRow : OpenClaim := { program := "ytigddjlhncnnoaagreatdoor", sum := "02979d687bc42b33e7d880c6a365b3f95b62c6cefa5361cee06eded6dd201fe9", func := "leadline/leadlinelaw7.SolveSums", spec := "solveSums", inPlace := ["math/bits.Add64", "math/bits.Sub64", "internal/reflectlite.ValueOf", "(internal/reflectlite.Value).Type", "(internal/reflectlite.Value).IsNil", "internal/reflectlite.TypeOf", "(internal/reflectlite.Value).Elem", "(internal/reflectlite.Value).Set"], unfollowed := true, recurses := true, named := ["math/bits.divideError", "math/bits.overflowError", "errors.errorType"], apart := false, laid := [("errors.errorType", laid_errors_errorType)] }
def SolveSumsSaid : Prop := solveSumsRow.holds Tryz.pinned (OpenSpec.ofChange solveSumsSpec)

/-- ITS FALSE NEIGHBOUR: 'it returns false'. Refute it at one input. -/
def solveSumsWrong : ChangeSpec := { name := "solveSums", fn := fun _ => fun
  | [d1, d2, d3, d4, d5] => { results := [.lit (.bool false)], args := [d1, d2, d3, d4, d5] }
  | _ => none }
def SolveSumsWrongFalsely : Prop := solveSumsRow.holds Tryz.pinned (OpenSpec.ofChange solveSumsWrong)

/-- 'leadlinelaw23.BufferKeeps': WHATEVER THE INPUT: true; the input reads as it did. -/
def bufferKeepsSpec : ChangeSpec := { name := "bufferKeeps", fn := fun _ => fun
  | [d1, d2, d3, d4, d5, d6] => { results := [.lit (.bool true)], args := [d1, d2, d3, d4, d5, d6] }
  | _ => none }
def bufferKeepsRow : OpenClaim := { program := "ytigddjlhncnnoaagreatdoor", sum := "02979d687bc42b33e7d880c6a365b3f95b62c6cefa5361cee06eded6dd201fe9", func := "leadline/leadlinelaw23.BufferKeeps", spec := "bufferKeeps", inPlace := ["math/bits.Add64", "math/bits.Sub64", "internal/reflectlite.TypeOf", "internal/reflectlite.ValueOf", "(internal/reflectlite.Value).Type", "(internal/reflectlite.Value).IsNil", "(internal/reflectlite.Value).Elem", "(internal/reflectlite.Value).Set"], unfollowed := true, recurses := true, named := ["math/bits.divideError", "math/bits.overflowError", "errors.errorType"], apart := false, laid := [("errors.errorType", laid_errors_errorType)] }
def BufferKeepsSaid : Prop := bufferKeepsRow.holds Tryz.pinned (OpenSpec.ofChange bufferKeepsSpec)

/-- ITS FALSE NEIGHBOUR: 'it returns false'. Refute it at one input. -/
def bufferKeepsWrong : ChangeSpec := { name := "bufferKeeps", fn := fun _ => fun
  | [d1, d2, d3, d4, d5, d6] => { results := [.lit (.bool false)], args := [d1, d2, d3, d4, d5, d6] }
  | _ => none }
def BufferKeepsWrongFalsely : Prop := bufferKeepsRow.holds Tryz.pinned (OpenSpec.ofChange bufferKeepsWrong)

/-- 'leadlinelaw23.BufferFinds': WHATEVER THE INPUT: true; the input reads as it did. -/
def bufferFindsSpec : ChangeSpec := { name := "bufferFinds", fn := fun _ => fun
  | [d1, d2, d3] => { results := [.lit (.bool true)], args := [d1, d2, d3] }
  | _ => none }
def bufferFindsRow : OpenClaim := { program := "ytigddjlhncnnoaagreatdoor", sum := "02979d687bc42b33e7d880c6a365b3f95b62c6cefa5361cee06eded6dd201fe9", func := "leadline/leadlinelaw23.BufferFinds", spec := "bufferFinds", inPlace := ["math/bits.Add64", "math/bits.Sub64", "internal/reflectlite.TypeOf", "internal/reflectlite.ValueOf", "(internal/reflectlite.Value).Type", "(internal/reflectlite.Value).IsNil", "(internal/reflectlite.Value).Elem", "(internal/reflectlite.Value).Set"], unfollowed := true, recurses := true, named := ["math/bits.divideError", "math/bits.overflowError", "errors.errorType"], apart := false, laid := [("errors.errorType", laid_errors_errorType)] }
def BufferFindsSaid : Prop := bufferFindsRow.holds Tryz.pinned (OpenSpec.ofChange bufferFindsSpec)

/-- ITS FALSE NEIGHBOUR: 'it returns false'. Refute it at one input. -/
def bufferFindsWrong : ChangeSpec := { name := "bufferFinds", fn := fun _ => fun
  | [d1, d2, d3] => { results := [.lit (.bool false)], args := [d1, d2, d3] }
  | _ => none }
def BufferFindsWrongFalsely : Prop := bufferFindsRow.holds Tryz.pinned (OpenSpec.ofChange bufferFindsWrong)

/-- 'leadlinelaw7.SolveQuads': WHATEVER THE INPUT: true; the input reads as it did. -/
def solveQuadsSpec : ChangeSpec := { name := "solveQuads", fn := fun _ => fun
  | [d1, d2, d3, d4, d5, d6] => { results := [.lit (.bool true)], args := [d1, d2, d3, d4, d5, d6] }
  | _ => none }
def solveQuadsRow : OpenClaim := { program := "ytigddjlhncnnoaagreatdoor", sum := "02979d687bc42b33e7d880c6a365b3f95b62c6cefa5361cee06eded6dd201fe9", func := "leadline/leadlinelaw7.SolveQuads", spec := "solveQuads", inPlace := ["math/bits.Add64", "math/bits.Sub64", "internal/reflectlite.ValueOf", "(internal/reflectlite.Value).Type", "(internal/reflectlite.Value).IsNil", "internal/reflectlite.TypeOf", "(internal/reflectlite.Value).Elem", "(internal/reflectlite.Value).Set"], unfollowed := true, recurses := true, named := ["math/bits.divideError", "math/bits.overflowError", "errors.errorType"], apart := false, laid := [("errors.errorType", laid_errors_errorType)] }
def SolveQuadsSaid : Prop := solveQuadsRow.holds Tryz.pinned (OpenSpec.ofChange solveQuadsSpec)

/-- ITS FALSE NEIGHBOUR: 'it returns false'. Refute it at one input. -/
def solveQuadsWrong : ChangeSpec := { name := "solveQuads", fn := fun _ => fun
  | [d1, d2, d3, d4, d5, d6] => { results := [.lit (.bool false)], args := [d1, d2, d3, d4, d5, d6] }
  | _ => none }
def SolveQuadsWrongFalsely : Prop := solveQuadsRow.holds Tryz.pinned (OpenSpec.ofChange solveQuadsWrong)

/-- 'leadlinelaw7.SolveSides': WHATEVER THE INPUT: true; the input reads as it did. -/
def solveSidesSpec : ChangeSpec := { name := "solveSides", fn := fun _ => fun
  | [d1, d2, d3, d4, d5] => { results := [.lit (.bool true)], args := [d1, d2, d3, d4, d5] }
  | _ => none }
def solveSidesRow : OpenClaim := { program := "ytigddjlhncnnoaagreatdoor", sum := "02979d687bc42b33e7d880c6a365b3f95b62c6cefa5361cee06eded6dd201fe9", func := "leadline/leadlinelaw7.SolveSides", spec := "solveSides", inPlace := ["math/bits.Add64", "math/bits.Sub64", "internal/reflectlite.ValueOf", "(internal/reflectlite.Value).Type", "(internal/reflectlite.Value).IsNil", "internal/reflectlite.TypeOf", "(internal/reflectlite.Value).Elem", "(internal/reflectlite.Value).Set"], unfollowed := true, recurses := true, named := ["math/bits.divideError", "math/bits.overflowError", "errors.errorType"], apart := false, laid := [("errors.errorType", laid_errors_errorType)] }
def SolveSidesSaid : Prop := solveSidesRow.holds Tryz.pinned (OpenSpec.ofChange solveSidesSpec)

/-- ITS FALSE NEIGHBOUR: 'it returns false'. Refute it at one input. -/
def solveSidesWrong : ChangeSpec := { name := "solveSides", fn := fun _ => fun
  | [d1, d2, d3, d4, d5] => { results := [.lit (.bool false)], args := [d1, d2, d3, d4, d5] }
  | _ => none }
def SolveSidesWrongFalsely : Prop := solveSidesRow.holds Tryz.pinned (OpenSpec.ofChange solveSidesWrong)

/- THE SECOND FORM. 'bulk': how many values and letters a reading holds, each counted each time it is reached (what is shared counts as often as it is met; a slice's spare places count too). A statement '..UptoSaid' is the law's where the arguments, and the package variables that the reading takes, are together of bulk at most 1048576: NARROWER than '..Said'. Prove '..Said' where nothing that the law and all that it calls make is longer than what came in: it says more and counts as full. Else prove '..UptoSaid'. A law counts once. -/
mutual
def uptoBulk {H : Type} : DataW H → Nat
  | .lit (.string bytes) => bytes.length + 1
  | .lit _ => 1
  | .nil => 1
  | .ptr d => uptoBulk d + 1
  | .slice elems spare => uptoBulkAll elems + uptoBulkAll spare + 1
  | .agg parts => uptoBulkAll parts + 1
  | .iface _ d => uptoBulk d + 1
  | .map entries => uptoBulkEntries entries + 1
  | .held _ => 1
def uptoBulkAll {H : Type} : List (DataW H) → Nat
  | [] => 0
  | d :: r => uptoBulk d + uptoBulkAll r
def uptoBulkEntries {H : Type} : List (Lit × DataW H) → Nat
  | [] => 0
  | x :: r => uptoBulkEntry x + uptoBulkEntries r
def uptoBulkEntry {H : Type} : Lit × DataW H → Nat
  | (.string bytes, d) => bytes.length + uptoBulk d + 1
  | (_, d) => uptoBulk d + 1
 end
def uptoSmall : (H : Type) → List (DataW H) → Bool := fun _ ds => decide (uptoBulkAll ds ≤ 1048576)
def OpenSpec.upto (s : _root_.Go.ChangeSpec) : _root_.Go.OpenSpec := { _root_.Go.OpenSpec.ofChange s with cond := some uptoSmall }

/-- 'leadlinelaw22.CirclesMeet', WHERE WHAT IT READS IS OF BULK AT MOST 1048576: true; the input reads as it did. -/
def circlesMeetUptoRow : OpenClaim := { program := "ytigddjlhncnnoaagreatdoor", sum := "02979d687bc42b33e7d880c6a365b3f95b62c6cefa5361cee06eded6dd201fe9", func := "leadline/leadlinelaw22.CirclesMeet", spec := "circlesMeet", inPlace := ["math/bits.Add64", "math/bits.Sub64", "internal/reflectlite.ValueOf", "(internal/reflectlite.Value).Type", "(internal/reflectlite.Value).IsNil", "internal/reflectlite.TypeOf", "(internal/reflectlite.Value).Elem", "(internal/reflectlite.Value).Set"], unfollowed := true, recurses := true, named := ["math/bits.divideError", "math/bits.overflowError", "errors.errorType"], apart := false, laid := [("errors.errorType", laid_errors_errorType)], narrowed := true }
def CirclesMeetUptoSaid : Prop := circlesMeetUptoRow.holds Tryz.pinned (OpenSpec.upto circlesMeetSpec)

/-- 'leadlinelaw7.SolveTells', WHERE WHAT IT READS IS OF BULK AT MOST 1048576: true; the input reads as it did. -/
def solveTellsUptoRow : OpenClaim := { program := "ytigddjlhncnnoaagreatdoor", sum := "02979d687bc42b33e7d880c6a365b3f95b62c6cefa5361cee06eded6dd201fe9", func := "leadline/leadlinelaw7.SolveTells", spec := "solveTells", inPlace := ["math/bits.Add64", "math/bits.Sub64", "internal/reflectlite.ValueOf", "(internal/reflectlite.Value).Type", "(internal/reflectlite.Value).IsNil", "internal/reflectlite.TypeOf", "(internal/reflectlite.Value).Elem", "(internal/reflectlite.Value).Set"], unfollowed := true, recurses := true, named := ["math/bits.divideError", "math/bits.overflowError", "errors.errorType"], apart := false, laid := [("errors.errorType", laid_errors_errorType)], narrowed := true }
def SolveTellsUptoSaid : Prop := solveTellsUptoRow.holds Tryz.pinned (OpenSpec.upto solveTellsSpec)

/-- 'leadlinelaw7.SolveProves', WHERE WHAT IT READS IS OF BULK AT MOST 1048576: true; the input reads as it did. -/
def solveProvesUptoRow : OpenClaim := { program := "ytigddjlhncnnoaagreatdoor", sum := "02979d687bc42b33e7d880c6a365b3f95b62c6cefa5361cee06eded6dd201fe9", func := "leadline/leadlinelaw7.SolveProves", spec := "solveProves", inPlace := ["math/bits.Add64", "math/bits.Sub64", "internal/reflectlite.ValueOf", "(internal/reflectlite.Value).Type", "(internal/reflectlite.Value).IsNil", "internal/reflectlite.TypeOf", "(internal/reflectlite.Value).Elem", "(internal/reflectlite.Value).Set"], unfollowed := true, recurses := true, named := ["math/bits.divideError", "math/bits.overflowError", "errors.errorType"], apart := false, laid := [("errors.errorType", laid_errors_errorType)], narrowed := true }
def SolveProvesUptoSaid : Prop := solveProvesUptoRow.holds Tryz.pinned (OpenSpec.upto solveProvesSpec)

/-- 'leadlinelaw7.SolveBack', WHERE WHAT IT READS IS OF BULK AT MOST 1048576: true; the input reads as it did. -/
def solveBackUptoRow : OpenClaim := { program := "ytigddjlhncnnoaagreatdoor", sum := "02979d687bc42b33e7d880c6a365b3f95b62c6cefa5361cee06eded6dd201fe9", func := "leadline/leadlinelaw7.SolveBack", spec := "solveBack", inPlace := ["math/bits.Add64", "math/bits.Sub64", "internal/reflectlite.ValueOf", "(internal/reflectlite.Value).Type", "(internal/reflectlite.Value).IsNil", "internal/reflectlite.TypeOf", "(internal/reflectlite.Value).Elem", "(internal/reflectlite.Value).Set"], unfollowed := true, recurses := true, named := ["math/bits.divideError", "math/bits.overflowError", "errors.errorType"], apart := false, laid := [("errors.errorType", laid_errors_errorType)], narrowed := true }
def SolveBackUptoSaid : Prop := solveBackUptoRow.holds Tryz.pinned (OpenSpec.upto solveBackSpec)

/-- 'leadlinelaw7.SolveSums', WHERE WHAT IT READS IS OF BULK AT MOST 1048576: true; the input reads as it did. -/
def solveSumsUptoRow : OpenClaim := { program := "ytigddjlhncnnoaagreatdoor", sum := "02979d687bc42b33e7d880c6a365b3f95b62c6cefa5361cee06eded6dd201fe9", func := "leadline/leadlinelaw7.SolveSums", spec := "solveSums", inPlace := ["math/bits.Add64", "math/bits.Sub64", "internal/reflectlite.ValueOf", "(internal/reflectlite.Value).Type", "(internal/reflectlite.Value).IsNil", "internal/reflectlite.TypeOf", "(internal/reflectlite.Value).Elem", "(internal/reflectlite.Value).Set"], unfollowed := true, recurses := true, named := ["math/bits.divideError", "math/bits.overflowError", "errors.errorType"], apart := false, laid := [("errors.errorType", laid_errors_errorType)], narrowed := true }
def SolveSumsUptoSaid : Prop := solveSumsUptoRow.holds Tryz.pinned (OpenSpec.upto solveSumsSpec)

/-- 'leadlinelaw23.BufferKeeps', WHERE WHAT IT READS IS OF BULK AT MOST 1048576: true; the input reads as it did. -/
def bufferKeepsUptoRow : OpenClaim := { program := "ytigddjlhncnnoaagreatdoor", sum := "02979d687bc42b33e7d880c6a365b3f95b62c6cefa5361cee06eded6dd201fe9", func := "leadline/leadlinelaw23.BufferKeeps", spec := "bufferKeeps", inPlace := ["math/bits.Add64", "math/bits.Sub64", "internal/reflectlite.TypeOf", "internal/reflectlite.ValueOf", "(internal/reflectlite.Value).Type", "(internal/reflectlite.Value).IsNil", "(internal/reflectlite.Value).Elem", "(internal/reflectlite.Value).Set"], unfollowed := true, recurses := true, named := ["math/bits.divideError", "math/bits.overflowError", "errors.errorType"], apart := false, laid := [("errors.errorType", laid_errors_errorType)], narrowed := true }
def BufferKeepsUptoSaid : Prop := bufferKeepsUptoRow.holds Tryz.pinned (OpenSpec.upto bufferKeepsSpec)

/-- 'leadlinelaw23.BufferFinds', WHERE WHAT IT READS IS OF BULK AT MOST 1048576: true; the input reads as it did. -/
def bufferFindsUptoRow : OpenClaim := { program := "ytigddjlhncnnoaagreatdoor", sum := "02979d687bc42b33e7d880c6a365b3f95b62c6cefa5361cee06eded6dd201fe9", func := "leadline/leadlinelaw23.BufferFinds", spec := "bufferFinds", inPlace := ["math/bits.Add64", "math/bits.Sub64", "internal/reflectlite.TypeOf", "internal/reflectlite.ValueOf", "(internal/reflectlite.Value).Type", "(internal/reflectlite.Value).IsNil", "(internal/reflectlite.Value).Elem", "(internal/reflectlite.Value).Set"], unfollowed := true, recurses := true, named := ["math/bits.divideError", "math/bits.overflowError", "errors.errorType"], apart := false, laid := [("errors.errorType", laid_errors_errorType)], narrowed := true }
def BufferFindsUptoSaid : Prop := bufferFindsUptoRow.holds Tryz.pinned (OpenSpec.upto bufferFindsSpec)

/-- 'leadlinelaw7.SolveQuads', WHERE WHAT IT READS IS OF BULK AT MOST 1048576: true; the input reads as it did. -/
def solveQuadsUptoRow : OpenClaim := { program := "ytigddjlhncnnoaagreatdoor", sum := "02979d687bc42b33e7d880c6a365b3f95b62c6cefa5361cee06eded6dd201fe9", func := "leadline/leadlinelaw7.SolveQuads", spec := "solveQuads", inPlace := ["math/bits.Add64", "math/bits.Sub64", "internal/reflectlite.ValueOf", "(internal/reflectlite.Value).Type", "(internal/reflectlite.Value).IsNil", "internal/reflectlite.TypeOf", "(internal/reflectlite.Value).Elem", "(internal/reflectlite.Value).Set"], unfollowed := true, recurses := true, named := ["math/bits.divideError", "math/bits.overflowError", "errors.errorType"], apart := false, laid := [("errors.errorType", laid_errors_errorType)], narrowed := true }
def SolveQuadsUptoSaid : Prop := solveQuadsUptoRow.holds Tryz.pinned (OpenSpec.upto solveQuadsSpec)

/-- 'leadlinelaw7.SolveSides', WHERE WHAT IT READS IS OF BULK AT MOST 1048576: true; the input reads as it did. -/
def solveSidesUptoRow : OpenClaim := { program := "ytigddjlhncnnoaagreatdoor", sum := "02979d687bc42b33e7d880c6a365b3f95b62c6cefa5361cee06eded6dd201fe9", func := "leadline/leadlinelaw7.SolveSides", spec := "solveSides", inPlace := ["math/bits.Add64", "math/bits.Sub64", "internal/reflectlite.ValueOf", "(internal/reflectlite.Value).Type", "(internal/reflectlite.Value).IsNil", "internal/reflectlite.TypeOf", "(internal/reflectlite.Value).Elem", "(internal/reflectlite.Value).Set"], unfollowed := true, recurses := true, named := ["math/bits.divideError", "math/bits.overflowError", "errors.errorType"], apart := false, laid := [("errors.errorType", laid_errors_errorType)], narrowed := true }
def SolveSidesUptoSaid : Prop := solveSidesUptoRow.holds Tryz.pinned (OpenSpec.upto solveSidesSpec)

end Rows
end Go.Proofs.YtigddjlhncnnoaaGreatDoor

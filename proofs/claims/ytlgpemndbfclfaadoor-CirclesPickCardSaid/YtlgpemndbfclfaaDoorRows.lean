/-
  NARROWER THAN 'FOR EVERY INPUT', by the rows' own cells (each row's printed sentence says how): CirclesPick: laid · CirclesTrue: laid · CirclesFar: laid · CirclesSides: laid.
  DERIVED. THE GIVEN ROWS OF THIS SEAT. 4 by the template 'for every input the law returns true; each argument reads behind the call as it read before'; 0 by the template 'total and deterministic' (their statements: YtlgpemndbfclfaaDoorTotals.lean).
  GIVEN WITH THE SEED: the statements are not yours to turn. If you find one false, say at which input.
  Laid BY PROGRAM, IN A SANDBOX (cutbox-rows.mjs): the forced cells as the released guide's own fill.sh prints them over the translation 7a0770812e5428b8… (all of the seat's roots in one cut). By AI agents, Wed Nov 11 2026. No macro, syntax, notation, axiom, sorry.
-/
import Derived.Test.YtlgpemndbfclfaaDoorChecked
import GoSem.Claim
import GoSem.ClaimJoined
import GoSem.ClaimMapViews
import Derived.JoinedTies
import Derived.KernelRfl
namespace Go.Proofs.YtlgpemndbfclfaaDoor
/- THE CELL 'sum', in the pinned program and in every row, IS THE sha256 OF THE DUMP (.gsa) THAT YtlgpemndbfclfaaDoorProg.lean LOADS. Nothing in Lean hashes anything: it is a label: what it is worth is what the hold of that sum in a sandbox is worth. -/
noncomputable def Tryd.pinned : Pinned := { name := "ytlgpemndbfclfaadoor", sum := "7a0770812e5428b8df992a53479d37e3a5bfb8b7e34fc060c33d6e467297c54d", checked := Tryd.checked }
namespace Rows
def none {H : Type} : Left H := { results := [], args := [] }

/- WHAT THE LISTED PACKAGE-LEVEL VARIABLES READ AS WHEN THE CALL BEGINS. Each datum BY PROGRAM (the guide's laid-datum.mjs) off the statement by which the dump's own 'gosem.cut.vars' lays the variable. In a bare row this is a premise. The card (YtlgpemndbfclfaaDoorCards.lean) ties it to the program's text. -/
def laid_errors_errorType {H : Type} : DataW H := .iface "internal/reflectlite.rtype" (.agg [.ptr (.lit (.string [101, 114, 114, 111, 114]))])

/-- 'leadlinelaw22.CirclesPick': WHATEVER THE INPUT: true; the input reads as it did. -/
def circlesPickSpec : ChangeSpec := { name := "circlesPick", fn := fun _ => fun
  | [d1, d2, d3, d4, d5, d6] => { results := [.lit (.bool true)], args := [d1, d2, d3, d4, d5, d6] }
  | _ => none }
def circlesPickRow : OpenClaim := { program := "ytlgpemndbfclfaadoor", sum := "7a0770812e5428b8df992a53479d37e3a5bfb8b7e34fc060c33d6e467297c54d", func := "leadline/leadlinelaw22.CirclesPick", spec := "circlesPick", inPlace := ["math/bits.Add64", "math/bits.Sub64", "internal/reflectlite.ValueOf", "(internal/reflectlite.Value).Type", "(internal/reflectlite.Value).IsNil", "internal/reflectlite.TypeOf", "(internal/reflectlite.Value).Elem", "(internal/reflectlite.Value).Set"], unfollowed := true, recurses := true, named := ["math/bits.divideError", "math/bits.overflowError", "errors.errorType"], apart := false, laid := [("errors.errorType", laid_errors_errorType)] }
def CirclesPickSaid : Prop := circlesPickRow.holds Tryd.pinned (OpenSpec.ofChange circlesPickSpec)

/-- ITS FALSE NEIGHBOUR: 'it returns false'. Refute it at one input. -/
def circlesPickWrong : ChangeSpec := { name := "circlesPick", fn := fun _ => fun
  | [d1, d2, d3, d4, d5, d6] => { results := [.lit (.bool false)], args := [d1, d2, d3, d4, d5, d6] }
  | _ => none }
def CirclesPickWrongFalsely : Prop := circlesPickRow.holds Tryd.pinned (OpenSpec.ofChange circlesPickWrong)

/-- 'leadlinelaw22.CirclesTrue': WHATEVER THE INPUT: true; the input reads as it did. -/
def circlesTrueSpec : ChangeSpec := { name := "circlesTrue", fn := fun _ => fun
  | [d1, d2, d3, d4, d5] => { results := [.lit (.bool true)], args := [d1, d2, d3, d4, d5] }
  | _ => none }
def circlesTrueRow : OpenClaim := { program := "ytlgpemndbfclfaadoor", sum := "7a0770812e5428b8df992a53479d37e3a5bfb8b7e34fc060c33d6e467297c54d", func := "leadline/leadlinelaw22.CirclesTrue", spec := "circlesTrue", inPlace := ["math/bits.Add64", "math/bits.Sub64", "internal/reflectlite.ValueOf", "(internal/reflectlite.Value).Type", "(internal/reflectlite.Value).IsNil", "internal/reflectlite.TypeOf", "(internal/reflectlite.Value).Elem", "(internal/reflectlite.Value).Set"], unfollowed := true, recurses := true, named := ["math/bits.divideError", "math/bits.overflowError", "errors.errorType"], apart := false, laid := [("errors.errorType", laid_errors_errorType)] }
def CirclesTrueSaid : Prop := circlesTrueRow.holds Tryd.pinned (OpenSpec.ofChange circlesTrueSpec)

/-- ITS FALSE NEIGHBOUR: 'it returns false'. Refute it at one input. -/
def circlesTrueWrong : ChangeSpec := { name := "circlesTrue", fn := fun _ => fun
  | [d1, d2, d3, d4, d5] => { results := [.lit (.bool false)], args := [d1, d2, d3, d4, d5] }
  | _ => none }
def CirclesTrueWrongFalsely : Prop := circlesTrueRow.holds Tryd.pinned (OpenSpec.ofChange circlesTrueWrong)

/-- 'leadlinelaw22.CirclesFar': WHATEVER THE INPUT: true; the input reads as it did. -/
def circlesFarSpec : ChangeSpec := { name := "circlesFar", fn := fun _ => fun
  | [d1, d2, d3] => { results := [.lit (.bool true)], args := [d1, d2, d3] }
  | _ => none }
def circlesFarRow : OpenClaim := { program := "ytlgpemndbfclfaadoor", sum := "7a0770812e5428b8df992a53479d37e3a5bfb8b7e34fc060c33d6e467297c54d", func := "leadline/leadlinelaw22.CirclesFar", spec := "circlesFar", inPlace := ["math/bits.Add64", "math/bits.Sub64", "internal/reflectlite.ValueOf", "(internal/reflectlite.Value).Type", "(internal/reflectlite.Value).IsNil", "internal/reflectlite.TypeOf", "(internal/reflectlite.Value).Elem", "(internal/reflectlite.Value).Set"], unfollowed := true, recurses := true, named := ["math/bits.divideError", "math/bits.overflowError", "errors.errorType"], apart := false, laid := [("errors.errorType", laid_errors_errorType)] }
def CirclesFarSaid : Prop := circlesFarRow.holds Tryd.pinned (OpenSpec.ofChange circlesFarSpec)

/-- ITS FALSE NEIGHBOUR: 'it returns false'. Refute it at one input. -/
def circlesFarWrong : ChangeSpec := { name := "circlesFar", fn := fun _ => fun
  | [d1, d2, d3] => { results := [.lit (.bool false)], args := [d1, d2, d3] }
  | _ => none }
def CirclesFarWrongFalsely : Prop := circlesFarRow.holds Tryd.pinned (OpenSpec.ofChange circlesFarWrong)

/-- 'leadlinelaw22.CirclesSides': WHATEVER THE INPUT: true; the input reads as it did. -/
def circlesSidesSpec : ChangeSpec := { name := "circlesSides", fn := fun _ => fun
  | [d1, d2, d3] => { results := [.lit (.bool true)], args := [d1, d2, d3] }
  | _ => none }
def circlesSidesRow : OpenClaim := { program := "ytlgpemndbfclfaadoor", sum := "7a0770812e5428b8df992a53479d37e3a5bfb8b7e34fc060c33d6e467297c54d", func := "leadline/leadlinelaw22.CirclesSides", spec := "circlesSides", inPlace := ["math/bits.Add64", "math/bits.Sub64", "internal/reflectlite.ValueOf", "(internal/reflectlite.Value).Type", "(internal/reflectlite.Value).IsNil", "internal/reflectlite.TypeOf", "(internal/reflectlite.Value).Elem", "(internal/reflectlite.Value).Set"], unfollowed := true, recurses := true, named := ["math/bits.divideError", "math/bits.overflowError", "errors.errorType"], apart := false, laid := [("errors.errorType", laid_errors_errorType)] }
def CirclesSidesSaid : Prop := circlesSidesRow.holds Tryd.pinned (OpenSpec.ofChange circlesSidesSpec)

/-- ITS FALSE NEIGHBOUR: 'it returns false'. Refute it at one input. -/
def circlesSidesWrong : ChangeSpec := { name := "circlesSides", fn := fun _ => fun
  | [d1, d2, d3] => { results := [.lit (.bool false)], args := [d1, d2, d3] }
  | _ => none }
def CirclesSidesWrongFalsely : Prop := circlesSidesRow.holds Tryd.pinned (OpenSpec.ofChange circlesSidesWrong)

/- THE SECOND FORM. 'bulk': how many values and letters a reading holds, each counted each time it is reached (what is shared counts as often as it is met; a slice's spare places count too). A statement '..UptoSaid' is the law's where the arguments, and the package variables that the reading takes, are together of bulk at most 1048576: NARROWER than '..Said'. Prove '..Said' where nothing that the law and all that it calls make is longer than what came in: it says more and counts as full. Else prove '..UptoSaid'. A law counts once. -/
mutual
def uptoBulk {H : Type} : DataW H → Nat
  | .lit (.string bytes) => bytes.length + 1
  | .lit _ => 1
  | .nil => 1
  | .ptr d => uptoBulk d + 1
  | .slice elems spare => uptoBulkAll elems + uptoBulkAll spare + 1
  | .agg parts => uptoBulkAll parts + 1
  | .iface _ d => uptoBulk d + 1
  | .map entries => uptoBulkEntries entries + 1
  | .held _ => 1
def uptoBulkAll {H : Type} : List (DataW H) → Nat
  | [] => 0
  | d :: r => uptoBulk d + uptoBulkAll r
def uptoBulkEntries {H : Type} : List (Lit × DataW H) → Nat
  | [] => 0
  | x :: r => uptoBulkEntry x + uptoBulkEntries r
def uptoBulkEntry {H : Type} : Lit × DataW H → Nat
  | (.string bytes, d) => bytes.length + uptoBulk d + 1
  | (_, d) => uptoBulk d + 1
 end
def uptoSmall : (H : Type) → List (DataW H) → Bool := fun _ ds => decide (uptoBulkAll ds ≤ 1048576)
def OpenSpec.upto (s : _root_.Go.ChangeSpec) : _root_.Go.OpenSpec := { _root_.Go.OpenSpec.ofChange s with cond := some uptoSmall }

/-- 'leadlinelaw22.CirclesPick', WHERE WHAT IT READS IS OF BULK AT MOST 1048576: true; the input reads as it did. -/
def circlesPickUptoRow : OpenClaim := { program := "ytlgpemndbfclfaadoor", sum := "7a0770812e5428b8df992a53479d37e3a5bfb8b7e34fc060c33d6e467297c54d", func := "leadline/leadlinelaw22.CirclesPick", spec := "circlesPick", inPlace := ["math/bits.Add64", "math/bits.Sub64", "internal/reflectlite.ValueOf", "(internal/reflectlite.Value).Type", "(internal/reflectlite.Value).IsNil", "internal/reflectlite.TypeOf", "(internal/reflectlite.Value).Elem", "(internal/reflectlite.Value).Set"], unfollowed := true, recurses := true, named := ["math/bits.divideError", "math/bits.overflowError", "errors.errorType"], apart := false, laid := [("errors.errorType", laid_errors_errorType)], narrowed := true }
def CirclesPickUptoSaid : Prop := circlesPickUptoRow.holds Tryd.pinned (OpenSpec.upto circlesPickSpec)

/-- 'leadlinelaw22.CirclesTrue', WHERE WHAT IT READS IS OF BULK AT MOST 1048576: true; the input reads as it did. -/
def circlesTrueUptoRow : OpenClaim := { program := "ytlgpemndbfclfaadoor", sum := "7a0770812e5428b8df992a53479d37e3a5bfb8b7e34fc060c33d6e467297c54d", func := "leadline/leadlinelaw22.CirclesTrue", spec := "circlesTrue", inPlace := ["math/bits.Add64", "math/bits.Sub64", "internal/reflectlite.ValueOf", "(internal/reflectlite.Value).Type", "(internal/reflectlite.Value).IsNil", "internal/reflectlite.TypeOf", "(internal/reflectlite.Value).Elem", "(internal/reflectlite.Value).Set"], unfollowed := true, recurses := true, named := ["math/bits.divideError", "math/bits.overflowError", "errors.errorType"], apart := false, laid := [("errors.errorType", laid_errors_errorType)], narrowed := true }
def CirclesTrueUptoSaid : Prop := circlesTrueUptoRow.holds Tryd.pinned (OpenSpec.upto circlesTrueSpec)

/-- 'leadlinelaw22.CirclesFar', WHERE WHAT IT READS IS OF BULK AT MOST 1048576: true; the input reads as it did. -/
def circlesFarUptoRow : OpenClaim := { program := "ytlgpemndbfclfaadoor", sum := "7a0770812e5428b8df992a53479d37e3a5bfb8b7e34fc060c33d6e467297c54d", func := "leadline/leadlinelaw22.CirclesFar", spec := "circlesFar", inPlace := ["math/bits.Add64", "math/bits.Sub64", "internal/reflectlite.ValueOf", "(internal/reflectlite.Value).Type", "(internal/reflectlite.Value).IsNil", "internal/reflectlite.TypeOf", "(internal/reflectlite.Value).Elem", "(internal/reflectlite.Value).Set"], unfollowed := true, recurses := true, named := ["math/bits.divideError", "math/bits.overflowError", "errors.errorType"], apart := false, laid := [("errors.errorType", laid_errors_errorType)], narrowed := true }
def CirclesFarUptoSaid : Prop := circlesFarUptoRow.holds Tryd.pinned (OpenSpec.upto circlesFarSpec)

/-- 'leadlinelaw22.CirclesSides', WHERE WHAT IT READS IS OF BULK AT MOST 1048576: true; the input reads as it did. -/
def circlesSidesUptoRow : OpenClaim := { program := "ytlgpemndbfclfaadoor", sum := "7a0770812e5428b8df992a53479d37e3a5bfb8b7e34fc060c33d6e467297c54d", func := "leadline/leadlinelaw22.CirclesSides", spec := "circlesSides", inPlace := ["math/bits.Add64", "math/bits.Sub64", "internal/reflectlite.ValueOf", "(internal/reflectlite.Value).Type", "(internal/reflectlite.Value).IsNil", "internal/reflectlite.TypeOf", "(internal/reflectlite.Value).Elem", "(internal/reflectlite.Value).Set"], unfollowed := true, recurses := true, named := ["math/bits.divideError", "math/bits.overflowError", "errors.errorType"], apart := false, laid := [("errors.errorType", laid_errors_errorType)], narrowed := true }
def CirclesSidesUptoSaid : Prop := circlesSidesUptoRow.holds Tryd.pinned (OpenSpec.upto circlesSidesSpec)

end Rows
end Go.Proofs.YtlgpemndbfclfaaDoor

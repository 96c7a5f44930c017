/- The same in a form that is reckoned step by step: what stands behind a call or a guard isn't touched. -/
import Derived.Test.YtdlplfhkmhkngaaALn
set_option linter.unusedVariables false
set_option linter.unusedSimpArgs false
namespace Go.AL
open Go.RowKit

inductive Cont where
  | ops (l : List Oper)
  | ord (p : Plan)

section
variable (P : Program) (ops : Array Oper) (K : Fr → Hp → Prop)

def Run : Cont → Fr → Hp → Prop
  | .ops l, fr, H => AOps P ops K l fr H
  | .ord p, fr, H => AOrd P ops K p fr H

def ECall (d : Option Tmp) (c : Cont) (fr : Fr) (f : FuncId) (args : List AV) (H : Hp) : Prop := ACallO P f args H fun r H' => Run P ops K c (fr.put d r) H'
def E0 (o : Oper) (c : Cont) (fr : Fr) (H : Hp) : Prop :=
  match acall P fr o.op with
  | some (f, args) => ECall P ops K o.dst c fr f args H
  | none =>
    match astep P fr H o.op with
    | some (v, H') => Run P ops K c (fr.put o.dst v) H'
    | none => False
def EGuard (o : Oper) (c : Cont) (fr : Fr) (H : Hp) (t : Bool) : Prop := if t = true then E0 P ops K o c fr H else Run P ops K c (fr.put o.dst (.tup [])) H
def EStep (o : Oper) (c : Cont) (fr : Fr) (H : Hp) : Prop :=
  match wantedA ops fr o with
  | some t => EGuard P ops K o c fr H t
  | none => False
def EAt (i : Nat) (c : Cont) (fr : Fr) (H : Hp) : Prop :=
  match ops[i]? with
  | some o => EStep P ops K o c fr H
  | none => False
end

section
variable {P : Program} {ops : Array Oper} {K : Fr → Hp → Prop} {fr : Fr} {H : Hp}

theorem EStep_eq {o : Oper} {c : Cont} : EStep P ops K o c fr H = AStep1 P ops o fr H (Run P ops K c) := rfl
theorem Run_nil : Run P ops K (.ops []) fr H = K fr H := id rfl
theorem Run_cons {o : Oper} {l : List Oper} : Run P ops K (.ops (o :: l)) fr H = EStep P ops K o (.ops l) fr H := id rfl
theorem Run_pnil : Run P ops K (.ord .nil) fr H = K fr H := id rfl
theorem Run_one {i : Nat} {p : Plan} : Run P ops K (.ord (.one i p)) fr H = EAt P ops K i (.ord p) fr H := id rfl
theorem Run_alt {i : Nat} {p q : Plan} : Run P ops K (.ord (.alt i p q)) fr H = (EAt P ops K i (.ord p) fr H ∧ Run P ops K (.ord q) fr H) := id rfl
theorem EGuard_true {o : Oper} {c : Cont} : EGuard P ops K o c fr H true = E0 P ops K o c fr H := id rfl
theorem EGuard_false {o : Oper} {c : Cont} : EGuard P ops K o c fr H false = Run P ops K c (fr.put o.dst (.tup [])) H := id rfl
theorem EStep_def {o : Oper} {c : Cont} : EStep P ops K o c fr H = (match wantedA ops fr o with
  | some t => EGuard P ops K o c fr H t
  | none => False) := id rfl
theorem E0_def {o : Oper} {c : Cont} : E0 P ops K o c fr H = (match acall P fr o.op with
  | some (f, args) => ECall P ops K o.dst c fr f args H
  | none =>
    match astep P fr H o.op with
    | some (v, H') => Run P ops K c (fr.put o.dst v) H'
    | none => False) := id rfl
theorem EAt_def {i : Nat} {c : Cont} : EAt P ops K i c fr H = (match ops[i]? with
  | some o => EStep P ops K o c fr H
  | none => False) := id rfl
theorem EGuard_split {o : Oper} {c : Cont} {t : Bool} (h1 : t = true → E0 P ops K o c fr H) (h2 : t = false → Run P ops K c (fr.put o.dst (.tup [])) H) : EGuard P ops K o c fr H t := by
  cases t
  · exact h2 rfl
  · exact h1 rfl
theorem ECall_intro {d : Option Tmp} {c : Cont} {f : FuncId} {args : List AV} {R : AV → Hp → Prop} (hc : ACalls P f args H R) (h : ∀ r H', R r H' → Run P ops K c (fr.put d r) H') : ECall P ops K d c fr f args H := .inl (hc.mono h)
theorem ECall_introX {d : Option Tmp} {c : Cont} {f : FuncId} {args : List AV} {R : AV → Hp → Prop} (hc : AExt P f args H R) (h : ∀ r H', R r H' → Run P ops K c (fr.put d r) H') : ECall P ops K d c fr f args H := (ACallO.mono (.inr hc) h)
end

theorem AWp_regionE {P : Program} {fr : Fr} {H : Hp} {Q : Exit → Fr → Hp → Prop} {id : Nat} {ops : Array Oper} (h : Run P ops (Q .normal) (.ops ops.toList) fr H) : AWp P (.region id ops false) fr H Q := AWp_region h
theorem AWp_drawE {P : Program} {fr : Fr} {H : Hp} {Q : Exit → Fr → Hp → Prop} {id : Nat} {ops : Array Oper} (p : Plan) (hmix : P.follows .mixedOrders = true) (hok : p.ok P ops ops.size [] (Array.replicate ops.size false) = true) (h : Run P ops (Q .normal) (.ord p) fr H) : AWp P (.region id ops true) fr H Q :=
  AWp_region_draw p hmix hok h

theorem AV.solid_int {k : IntKind} {n : Int} : AV.solid (.int k n) = true := id rfl
theorem AV.one_int {k : IntKind} {n : Int} : AV.one (.int k n) = true := id rfl
theorem AV.cells_int {k : IntKind} {n : Int} : AV.cells (.int k n) = [(.int k n)] := id rfl
theorem AV.solid_bool {b : Bool} : AV.solid (.bool b) = true := id rfl
theorem AV.one_bool {b : Bool} : AV.one (.bool b) = true := id rfl
theorem AV.cells_bool {b : Bool} : AV.cells (.bool b) = [(.bool b)] := id rfl
theorem AV.solid_str {s : ByteArray} : AV.solid (.str s) = true := id rfl
theorem AV.one_str {s : ByteArray} : AV.one (.str s) = true := id rfl
theorem AV.cells_str {s : ByteArray} : AV.cells (.str s) = [(.str s)] := id rfl
theorem AV.solid_nilI  : AV.solid .nilI = true := id rfl
theorem AV.one_nilI  : AV.one .nilI = true := id rfl
theorem AV.cells_nilI  : AV.cells .nilI = [.nilI] := id rfl
theorem AV.solid_ifc {t : TypeId} {v : AV} : AV.solid (.ifc t v) = true := id rfl
theorem AV.one_ifc {t : TypeId} {v : AV} : AV.one (.ifc t v) = true := id rfl
theorem AV.cells_ifc {t : TypeId} {v : AV} : AV.cells (.ifc t v) = [(.ifc t v)] := id rfl
theorem AV.solid_nilP  : AV.solid .nilP = true := id rfl
theorem AV.one_nilP  : AV.one .nilP = true := id rfl
theorem AV.cells_nilP  : AV.cells .nilP = [.nilP] := id rfl
theorem AV.solid_ptr {h o : Nat} : AV.solid (.ptr h o) = true := id rfl
theorem AV.one_ptr {h o : Nat} : AV.one (.ptr h o) = true := id rfl
theorem AV.cells_ptr {h o : Nat} : AV.cells (.ptr h o) = [(.ptr h o)] := id rfl
theorem AV.solid_nilS  : AV.solid .nilS = true := id rfl
theorem AV.one_nilS  : AV.one .nilS = true := id rfl
theorem AV.cells_nilS  : AV.cells .nilS = [.nilS] := id rfl
theorem AV.solid_sl {h o n c : Nat} : AV.solid (.sl h o n c) = true := id rfl
theorem AV.one_sl {h o n c : Nat} : AV.one (.sl h o n c) = true := id rfl
theorem AV.cells_sl {h o n c : Nat} : AV.cells (.sl h o n c) = [(.sl h o n c)] := id rfl
theorem AV.solid_sg {h o n z : Nat} : AV.solid (.sg h o n z) = true := id rfl
theorem AV.one_sg {h o n z : Nat} : AV.one (.sg h o n z) = true := id rfl
theorem AV.cells_sg {h o n z : Nat} : AV.cells (.sg h o n z) = [(.sg h o n z)] := id rfl
theorem AV.solid_fn {f : FuncId} : AV.solid (.fn f) = true := id rfl
theorem AV.one_fn {f : FuncId} : AV.one (.fn f) = true := id rfl
theorem AV.cells_fn {f : FuncId} : AV.cells (.fn f) = [(.fn f)] := id rfl
theorem AV.cells_agg {cs : List AV} : AV.cells (.agg cs) = cs := id rfl
theorem abounds_hi {n q : Nat} {k : IntKind} (h : q ≤ n) : abounds n n none (some (.int k (q : Int))) none = some (0, q, n) := by simp [abounds, abound, h]
theorem abounds_lo {n q : Nat} {k : IntKind} (h : q ≤ n) : abounds n n (some (.int k (q : Int))) none none = some (q, n, n) := by simp [abounds, abound, h]
theorem abounds_both {n p q : Nat} {k l : IntKind} (h : p ≤ q) (g : q ≤ n) : abounds n n (some (.int k (p : Int))) (some (.int l (q : Int))) none = some (p, q, n) := by simp [abounds, abound, h, g]

end Go.AL

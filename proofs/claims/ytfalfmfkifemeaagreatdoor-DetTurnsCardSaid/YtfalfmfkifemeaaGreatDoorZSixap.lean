/- Part 16 of the proof of laws of this seat: lemmas on the model's code, on this program's functions, on numbers. No condition. -/
import Derived.Test.YtfalfmfkifemeaaGreatDoorZSixao
import Derived.LaidEql
import Derived.RowKitTokens
import Derived.Stop.Asserts
import Derived.WalkKit
set_option linter.unusedVariables false
set_option linter.unusedSimpArgs false
namespace Go.Proofs.YtfalfmfkifemeaaGreatDoor
open Go.RowKit Go.Extern.Stop Go.Stop Go.Extern
theorem rf_valueOfP (t : Addr) (w : World) : (ReflectliteValue.unpack (.iface 123 (.pointer (some t)))).run Tryz.prog w
    = .ok (.agg #[.pointer (some ⟨3, 123, none⟩), .pointer (some ⟨w.heap.size, 0, none⟩), .int .u64 150]) (w.alloc (.cells #[.pointer (some t)] 123)) := by kernel_rfl
theorem rf_typeP (a : Addr) (w : World) : (ReflectliteValue.methodAny (ReflectliteValue.valueError "reflectlite.Value.Type" 0) (fun t _ _ _ => ReflectliteType.toType t) #[.agg #[.pointer (some ⟨3, 123, none⟩), .pointer (some a), .int .u64 150]]).run Tryz.prog w
    = .ok (.iface 165 (.agg #[.pointer (some ⟨3, 123, none⟩)])) w := by kernel_rfl
theorem rf_methodKind (h : Value) (w : World) : (Go.method 310 165 (.agg #[h]) "Kind").run Tryz.prog w = .ok (135, h) w := by kernel_rfl
theorem rf_kindP (w : World) : ((ReflectliteType.abiMethod fun t => (fun a : Nat => Value.int IntKind.u8 (a : Int)) <$> Rtype.kind t) #[.pointer (some ⟨3, 123, none⟩)]).run Tryz.prog w = .ok (.int .u8 22) w := by kernel_rfl
theorem rf_kindE (w : World) : ((ReflectliteType.abiMethod fun t => (fun a : Nat => Value.int IntKind.u8 (a : Int)) <$> Rtype.kind t) #[.pointer (some ⟨3, 78, none⟩)]).run Tryz.prog w = .ok (.int .u8 2) w := by kernel_rfl
theorem rf_rlm (z : Sem Value) (f : TypeId → Addr → Nat → Nat → Sem Value) (v : Value) :
    ReflectliteValue.method z f #[v] = (do match ← ReflectliteValue.parts v with | none => z | some (t, a, fl) => f t a fl (fl % 32)) := rfl
theorem rf_partsP (a : Addr) (w : World) : (ReflectliteValue.parts (.agg #[.pointer (some ⟨3, 123, none⟩), .pointer (some a), .int .u64 150])).run Tryz.prog w = .ok (some (123, a, 150)) w := by kernel_rfl
theorem rf_isNilP (a p : Addr) (W : World) (ha : W.cell? a = some (.pointer (some p))) :
    (ReflectliteValue.method (ReflectliteValue.valueError "reflectlite.Value.IsNil" 0) ReflectliteValue.isNil #[.agg #[.pointer (some ⟨3, 123, none⟩), .pointer (some a), .int .u64 150]]).run Tryz.prog W = .ok (.bool false) W := by
  rw [rf_rlm]
  simp only [Sem.run_bind, rf_partsP, Result.andThen]
  simp [ReflectliteValue.isNil, loadVar, isAgg, underlying, Tryz.underlying123, ha, Result.andThen]
theorem rf_methodElem (h : Value) (w : World) : (Go.method 310 165 (.agg #[h]) "Elem").run Tryz.prog w = .ok (147, .agg #[h]) w := by kernel_rfl
theorem rf_methodImplements (h : Value) (w : World) : (Go.method 310 165 (.agg #[h]) "Implements").run Tryz.prog w = .ok (148, .agg #[h]) w := by kernel_rfl
theorem rf_methodAssignableTo (h : Value) (w : World) : (Go.method 310 165 (.agg #[h]) "AssignableTo").run Tryz.prog w = .ok (145, .agg #[h]) w := by kernel_rfl
theorem rf_elemP (w : World) : (ReflectliteType.method ReflectliteType.elem #[.agg #[.pointer (some ⟨3, 123, none⟩)]]).run Tryz.prog w = .ok (.iface 165 (.agg #[.pointer (some ⟨3, 78, none⟩)])) w := by kernel_rfl
theorem rf_implementsE (w : World) : (ReflectliteType.relation "Implements" ReflectliteType.implements_ #[.agg #[.pointer (some ⟨3, 78, none⟩)], .iface 165 (.agg #[.pointer (some ⟨3, 35, none⟩)])]).run Tryz.prog w = .ok (.bool true) w := by kernel_rfl
theorem rf_typeOfE (v : Value) (w : World) : (ReflectliteType.typeOf #[.iface 78 v]).run Tryz.prog w = .ok (.iface 165 (.agg #[.pointer (some ⟨3, 78, none⟩)])) w := by kernel_rfl
theorem rf_typeOfF (v : Value) (w : World) : (ReflectliteType.typeOf #[.iface 110 v]).run Tryz.prog w = .ok (.iface 165 (.agg #[.pointer (some ⟨3, 110, none⟩)])) w := by kernel_rfl
theorem rf_assignableE (w : World) : (ReflectliteType.relation "AssignableTo" ReflectliteType.assignableTo #[.agg #[.pointer (some ⟨3, 78, none⟩)], .iface 165 (.agg #[.pointer (some ⟨3, 78, none⟩)])]).run Tryz.prog w = .ok (.bool true) w := by kernel_rfl
theorem rf_assignableF (w : World) : (ReflectliteType.relation "AssignableTo" ReflectliteType.assignableTo #[.agg #[.pointer (some ⟨3, 110, none⟩)], .iface 165 (.agg #[.pointer (some ⟨3, 78, none⟩)])]).run Tryz.prog w = .ok (.bool false) w := by kernel_rfl
theorem rf_valueOfE (n : Int) (w : World) : (ReflectliteValue.unpack (.iface 78 (.int .i64 n))).run Tryz.prog w
    = .ok (.agg #[.pointer (some ⟨3, 78, none⟩), .pointer (some ⟨w.heap.size, 0, none⟩), .int .u64 130]) (w.alloc (.cells #[.int .i64 n] 78)) := by kernel_rfl
theorem rf_elemOfP (w : World) : (Rtype.elem? 123).run Tryz.prog w = .ok (some 78) w := by kernel_rfl
theorem rf_mkE (p : Addr) (w : World) : (ReflectliteValue.mk 78 p ReflectliteValue.flagAddr).run Tryz.prog w = .ok (.agg #[.pointer (some ⟨3, 78, none⟩), .pointer (some p), .int .u64 386]) w := by kernel_rfl
theorem rf_elemVP (a p : Addr) (W : World) (ha : W.cell? a = some (.pointer (some p))) :
    (ReflectliteValue.method (ReflectliteValue.valueError "reflectlite.Value.Elem" 0) ReflectliteValue.elem #[.agg #[.pointer (some ⟨3, 123, none⟩), .pointer (some a), .int .u64 150]]).run Tryz.prog W
      = .ok (.agg #[.pointer (some ⟨3, 78, none⟩), .pointer (some p), .int .u64 386]) W := by
  rw [rf_rlm]
  simp only [Sem.run_bind, rf_partsP, Result.andThen]
  simp [ReflectliteValue.elem, loadVar, isAgg, underlying, Tryz.underlying123, ha, Result.andThen, rf_elemOfP, rf_mkE]
theorem rf_rls (v x : Value) : ReflectliteValue.set #[v, x] = (do
    let (some (dst, a, fl), some (src, b, _)) := (← ReflectliteValue.parts v, ← ReflectliteValue.parts x)
      | unsupported (.noEntry "extern/(internal/reflectlite.Value).Set.zeroValue")
    if fl / ReflectliteValue.flagAddr % 2 == 0 then unsupported (.noEntry "extern/(internal/reflectlite.Value).Set.unaddressable")
    let val ← loadVar src b
    if ← Rtype.directlyAssignable dst src then storeVar dst a val
    else if ← Rtype.implements dst src then
      if (← Rtype.kind src) == 20 then
        match val with
        | .nilIface => unsupported (.noEntry "extern/reflectlite: a nil value of one interface type handed on as a value of another")
        | _ => storeVar dst a val
      else storeVar dst a (.iface src val)
    else panicString ("reflectlite.Set: value of type " ++ (← Rtype.spelt src) ++ " is not assignable to type " ++ (← Rtype.spelt dst))
    pure (.tuple #[])) := rfl
theorem rf_partsEa (a : Addr) (w : World) : (ReflectliteValue.parts (.agg #[.pointer (some ⟨3, 78, none⟩), .pointer (some a), .int .u64 386])).run Tryz.prog w = .ok (some (78, a, 386)) w := by kernel_rfl
theorem rf_partsE (a : Addr) (w : World) : (ReflectliteValue.parts (.agg #[.pointer (some ⟨3, 78, none⟩), .pointer (some a), .int .u64 130])).run Tryz.prog w = .ok (some (78, a, 130)) w := by kernel_rfl
theorem rf_directE (w : World) : (Rtype.directlyAssignable 78 78).run Tryz.prog w = .ok true w := by kernel_rfl
theorem rf_setE (ta b : Addr) (n : Int) (old : Value) (W : World) (hb : W.cell? b = some (.int .i64 n)) (ht : W.cell? ta = some old) (hf : W.frozen? ta = false) :
    (ReflectliteValue.set #[.agg #[.pointer (some ⟨3, 78, none⟩), .pointer (some ta), .int .u64 386], .agg #[.pointer (some ⟨3, 78, none⟩), .pointer (some b), .int .u64 130]]).run Tryz.prog W
      = .ok (.tuple #[]) (W.setCell ta (.int .i64 n)) := by
  rw [rf_rls]
  simp only [Sem.run_bind, rf_partsEa, rf_partsE, Result.andThen]
  simp [ReflectliteValue.flagAddr, loadVar, isAgg, underlying, Tryz.underlying78, hb, Result.andThen, rf_directE, storeVar, Value.cells, storeCells, Addr.add]
  rw [run_store Tryz.prog W ta _ _ (by rfl)]
  simp [ht, hf]
end Go.Proofs.YtfalfmfkifemeaaGreatDoor
set_option linter.unusedVariables false
set_option linter.unusedSimpArgs false
namespace Go.Proofs.YtfalfmfkifemeaaGreatDoor
open Go.RowKit Go.Extern.Stop Go.Stop Go.Extern
theorem ta_noAs (v : Value) (xT : TypeId) (w : World) : (Instr.typeAssert (.iface 110 v) xT 170 true).run Tryz.prog w = .ok (.tuple #[.nilIface, .bool false]) w := run_typeAssert_lacksB Tryz.underlying170 (by kernel_rfl) (by kernel_rfl) v xT w
theorem ta_hasUnwrap (v : Value) (xT : TypeId) (w : World) : (Instr.typeAssert (.iface 110 v) xT 173 true).run Tryz.prog w = .ok (.tuple #[.iface 110 v, .bool true]) w := run_typeAssert_hasB Tryz.underlying173 (by kernel_rfl) v xT w
theorem rf_methodUnwrap (h : Value) (w : World) : (Go.method 310 110 h "Unwrap").run Tryz.prog w = .ok (140, h) w := by kernel_rfl
theorem unwrap_hit (g : Nat) (x : Value) (w : World) (hx : w.cell? ⟨g, 1, none⟩ = some x) : Calls Tryz.prog 140 #[.pointer (some ⟨g, 0, none⟩)] w fun ev w' => ev = .returned x ∧ w' = w := by
  go_enter Tryz.func140, Tryz.ntmps140
  go_wp2
  go_ret
  exact ⟨rfl, rfl⟩
set_option maxRecDepth 20000 in
set_option maxHeartbeats 8000000 in
theorem as_two (g : Nat) (n : Int) (t : Addr) (old : Value) (w : World) (hg : w.cell? ⟨0, 0, none⟩ = some (.iface 165 (.agg #[.pointer (some ⟨3, 35, none⟩)]))) (hf1 : w.cell? ⟨g, 1, none⟩ = some (.iface 78 (.int .i64 n))) (ht0 : w.cell? t = some old) (hf0 : w.frozen? t = false) :
    Calls Tryz.prog 79 #[.iface 110 (.pointer (some ⟨g, 0, none⟩)), .iface 123 (.pointer (some t))] w fun ev w' => ev = .returned (.bool true) ∧ w' = ((((w.alloc (.cells #[.pointer (some t)] 123)).alloc (.cells #[.pointer (some ⟨3, 123, none⟩), .pointer (some ⟨w.heap.size, 0, none⟩), .int .u64 150] 147)).alloc (.cells #[.pointer (some ⟨3, 123, none⟩), .pointer (some ⟨w.heap.size, 0, none⟩), .int .u64 150] 147)).alloc (.cells #[.int .i64 n] 78)).setCell t (.int .i64 n) := by
  have h6 := @run_callFunc_extern Tryz.prog 98 _ (fun args => ReflectliteValue.unpack (args.getD 0 (.tuple #[]))) Tryz.func98 (by kernel_rfl) (by kernel_rfl) (by kernel_rfl) (by kernel_rfl)
  have h7 := @run_callFunc_extern Tryz.prog 99 _ (ReflectliteValue.methodAny (ReflectliteValue.valueError "reflectlite.Value.Type" 0) (fun t _ _ _ => ReflectliteType.toType t)) Tryz.func99 (by kernel_rfl) (by kernel_rfl) (by kernel_rfl) (by kernel_rfl)
  have h8 := @run_callFunc_extern Tryz.prog 100 _ (ReflectliteValue.method (ReflectliteValue.valueError "reflectlite.Value.IsNil" 0) ReflectliteValue.isNil) Tryz.func100 (by kernel_rfl) (by kernel_rfl) (by kernel_rfl) (by kernel_rfl)
  have h27 := @run_callFunc_extern Tryz.prog 135 _ (ReflectliteType.abiMethod fun t => do pure (.int .u8 (← Rtype.kind t))) Tryz.func135 (by kernel_rfl) (by kernel_rfl) (by kernel_rfl) (by kernel_rfl)
  have h37 := @run_callFunc_extern Tryz.prog 147 _ (ReflectliteType.method ReflectliteType.elem) Tryz.func147 (by kernel_rfl) (by kernel_rfl) (by kernel_rfl) (by kernel_rfl)
  have h38 := @run_callFunc_extern Tryz.prog 148 _ (ReflectliteType.relation "Implements" ReflectliteType.implements_) Tryz.func148 (by kernel_rfl) (by kernel_rfl) (by kernel_rfl) (by kernel_rfl)
  have h10 := @run_callFunc_extern Tryz.prog 110 _ ReflectliteType.typeOf Tryz.func110 (by kernel_rfl) (by kernel_rfl) (by kernel_rfl) (by kernel_rfl)
  have h35 := @run_callFunc_extern Tryz.prog 145 _ (ReflectliteType.relation "AssignableTo" ReflectliteType.assignableTo) Tryz.func145 (by kernel_rfl) (by kernel_rfl) (by kernel_rfl) (by kernel_rfl)
  have h11 := @run_callFunc_extern Tryz.prog 111 _ (ReflectliteValue.method (ReflectliteValue.valueError "reflectlite.Value.Elem" 0) ReflectliteValue.elem) Tryz.func111 (by kernel_rfl) (by kernel_rfl) (by kernel_rfl) (by kernel_rfl)
  have h12 := @run_callFunc_extern Tryz.prog 112 _ ReflectliteValue.set Tryz.func112 (by kernel_rfl) (by kernel_rfl) (by kernel_rfl) (by kernel_rfl)
  have tO := rf_typeOfE
  have tF := rf_typeOfF
  have mA := rf_methodAssignableTo
  have aE := rf_assignableE
  have aF := rf_assignableF
  have vE := rf_valueOfE n
  have f6 := rf_valueOfP
  have f7 := rf_typeP
  have mK := rf_methodKind
  have mE := rf_methodElem
  have mI := rf_methodImplements
  have kP := rf_kindP
  have kE := rf_kindE
  have eP := rf_elemP
  have iE := rf_implementsE
  have nA := ta_noAs
  have hU := ta_hasUnwrap
  have mU := rf_methodUnwrap
  obtain ⟨w1, hw1⟩ : ∃ w1, w1 = w.alloc (.cells #[.pointer (some t)] 123) := ⟨_, rfl⟩
  have n8 := rf_isNilP ⟨w.heap.size, 0, none⟩ t ((w.alloc (.cells #[.pointer (some t)] 123)).alloc (.cells #[.pointer (some ⟨3, 123, none⟩), .pointer (some ⟨w.heap.size, 0, none⟩), .int .u64 150] 147)) (by simp)
  have hlt : 0 < w.heap.size := by
    rcases Nat.eq_zero_or_pos w.heap.size with h0 | h
    · simp [World.cell?, h0] at hg
    · exact h
  have hg2 : ((w.alloc (.cells #[.pointer (some t)] 123)).alloc (.cells #[.pointer (some ⟨3, 123, none⟩), .pointer (some ⟨w.heap.size, 0, none⟩), .int .u64 150] 147)).cell? ⟨0, 0, none⟩ = some (.iface 165 (.agg #[.pointer (some ⟨3, 35, none⟩)])) := by
    rw [World.cell?_alloc_lt _ _ ⟨0, 0, none⟩ (by simp), World.cell?_alloc_lt _ _ ⟨0, 0, none⟩ hlt]; exact hg
  have htl : t.block < w.heap.size := by
    rcases Nat.lt_or_ge t.block w.heap.size with h | h
    · exact h
    · simp [World.cell?, Array.getElem?_eq_none h] at ht0
  have hgl : g < w.heap.size := by
    rcases Nat.lt_or_ge g w.heap.size with h | h
    · exact h
    · simp [World.cell?, Array.getElem?_eq_none h] at hf1
  have un := unwrap_hit g (.iface 78 (.int .i64 n)) (((w.alloc (.cells #[.pointer (some t)] 123)).alloc (.cells #[.pointer (some ⟨3, 123, none⟩), .pointer (some ⟨w.heap.size, 0, none⟩), .int .u64 150] 147)).alloc (.cells #[.pointer (some ⟨3, 123, none⟩), .pointer (some ⟨w.heap.size, 0, none⟩), .int .u64 150] 147)) (by rw [World.cell?_alloc_lt _ _ ⟨g, 1, none⟩ (by simp; omega), World.cell?_alloc_lt _ _ ⟨g, 1, none⟩ (by simp; omega), World.cell?_alloc_lt _ _ ⟨g, 1, none⟩ hgl]; exact hf1)
  have el := rf_elemVP ⟨w.heap.size, 0, none⟩ t (((w.alloc (.cells #[.pointer (some t)] 123)).alloc (.cells #[.pointer (some ⟨3, 123, none⟩), .pointer (some ⟨w.heap.size, 0, none⟩), .int .u64 150] 147)).alloc (.cells #[.pointer (some ⟨3, 123, none⟩), .pointer (some ⟨w.heap.size, 0, none⟩), .int .u64 150] 147)) (by rw [World.cell?_alloc_lt _ _ ⟨w.heap.size, 0, none⟩ (by simp; omega)]; simp)
  have st := rf_setE t ⟨w.heap.size + 1 + 1 + 1, 0, none⟩ n old ((((w.alloc (.cells #[.pointer (some t)] 123)).alloc (.cells #[.pointer (some ⟨3, 123, none⟩), .pointer (some ⟨w.heap.size, 0, none⟩), .int .u64 150] 147)).alloc (.cells #[.pointer (some ⟨3, 123, none⟩), .pointer (some ⟨w.heap.size, 0, none⟩), .int .u64 150] 147)).alloc (.cells #[.int .i64 n] 78))
    (by rw [World.cell?_alloc_at _ _ _ _ (by simp)]; rfl)
    (by rw [World.cell?_alloc_lt _ _ t (by simp; omega), World.cell?_alloc_lt _ _ t (by simp; omega), World.cell?_alloc_lt _ _ t (by simp; omega), World.cell?_alloc_lt _ _ t htl]; exact ht0)
    (by rw [World.frozen?_alloc_old _ _ t (by simp; omega), World.frozen?_alloc_old _ _ t (by simp; omega), World.frozen?_alloc_old _ _ t (by simp; omega), World.frozen?_alloc_old _ _ t (Nat.ne_of_lt htl)]; exact hf0)
  clear hw1
  go_enter Tryz.func79, Tryz.ntmps79
  go_wp2
  refine wp_loop_rounds 2 ?_
  rw [rounds_succ]
  go_wp2_with (first | (go_at_call 140; refine un.mono ?_; rintro e w' ⟨rfl, rfl⟩))
  rw [rounds_succ]
  go_wp2
  go_ret
  exact ⟨rfl, rfl⟩
end Go.Proofs.YtfalfmfkifemeaaGreatDoor
set_option linter.unusedVariables false
set_option linter.unusedSimpArgs false
namespace Go.Proofs.YtfalfmfkifemeaaGreatDoor
open Go.AL Go.RowKit
/-- The block of a fault; the note of the library's variable. -/
abbrev fltBlk (op : ByteArray) (n : Int) : Blk := ⟨[.str op, .ifc 78 (.int .i64 n)], .own, 112⟩
abbrev numBlk (n : Int) : Blk := ⟨[.int .i64 n], .own, 78⟩
def Noted (H : Hp) : Prop := ∃ k e, hget H k = some ⟨[], .glob 0 165 3 35, e⟩
theorem Noted.ext {H H' : Hp} (h : Noted H) (x : Ext H H') : Noted H' := by
  obtain ⟨k, e, h⟩ := h
  exact ⟨k, e, hget_ext h x⟩
theorem Noted.push {H : Hp} (h : Noted H) (b : Blk) : Noted (H ++ [b]) := h.ext (Ext.push _ _)
theorem Noted.set {H : Hp} (h : Noted H) {p : Nat} {b b' : Blk} (hp : hget H p = some b) (hb : b.kind = .own) : Noted (H.set p b') := by
  obtain ⟨k, e, h⟩ := h
  refine ⟨k, e, ?_⟩
  rw [hget_set (hget_lt hp), if_neg]
  · exact h
  · rintro rfl
    rw [hp] at h
    cases h
    cases hb
set_option maxRecDepth 4000 in
theorem as_calls (op : ByteArray) (n old : Int) (h p : Nat) (H : Hp) (hh : hget H h = some (fltBlk op n)) (hp : hget H p = some (numBlk old)) (hn : Noted H) :
    ACalls Tryz.prog 79 [.ifc 110 (.ptr h 0), .ifc 123 (.ptr p 0)] H fun r H' => r = .bool true ∧ H.set p (numBlk n) = H' := by
  refine ⟨⟨_, Tryz.func79, by kernel_rfl, by kernel_rfl⟩, ?_⟩
  intro w0 B β w vs R hv hl
  obtain ⟨vs⟩ := vs
  simp only [VRs, VR] at hv
  obtain ⟨_, _, rfl, ⟨_, rfl, rfl⟩, _, _, rfl, ⟨_, rfl, rfl⟩, rfl⟩ := hv
  obtain ⟨g, cur, ea, hgB, hgw, hgl, hgt⟩ := R.own h _ hh rfl
  obtain ⟨gp, curp, eap, hgpB, hgpw, hgpl, hgpt⟩ := R.own p _ hp rfl
  obtain ⟨v1, hc1, hvr1, _⟩ := R.cells h _ hh (fun e => by cases e) 1 _ rfl
  obtain ⟨v2, hc2, hvr2, _⟩ := R.cells p _ hp (fun e => by cases e) 0 _ rfl
  simp only [VR] at hvr1 hvr2
  obtain ⟨_, rfl, rfl⟩ := hvr1
  subst hvr2
  rw [ea, Addr.add_plain] at hc1
  rw [eap, Addr.add_plain] at hc2
  obtain ⟨k, e, hk⟩ := hn
  obtain ⟨hg0, h0B⟩ := R.glob k _ hk 0 _ _ _ rfl
  have hg1 : w.cell? ⟨0, 0, none⟩ = _ := (R.below.cell h0B).trans hg0
  have hfr : w.frozen? ⟨gp, 0, none⟩ = false := by
    unfold World.frozen?
    simp [hgpw]
  rw [ea, eap, Addr.add_plain, Addr.add_plain]
  refine (as_two g n ⟨gp, 0, none⟩ _ w hg1 hc1 hc2 hfr).mono ?_
  rintro ev w' ⟨rfl, rfl⟩
  have b1 := (Below.refl w.heap.size w).alloc (Nat.le_refl _) (.cells #[.pointer (some ⟨gp, 0, none⟩)] 123)
  have b2 := b1.alloc (by simp) (.cells #[.pointer (some ⟨3, 123, none⟩), .pointer (some ⟨w.heap.size, 0, none⟩), .int .u64 150] 147)
  have b3 := b2.alloc (by simp; omega) (.cells #[.pointer (some ⟨3, 123, none⟩), .pointer (some ⟨w.heap.size, 0, none⟩), .int .u64 150] 147)
  have b4 := b3.alloc (by simp; omega) (.cells #[.int .i64 n] 78)
  have hpl : gp < w.heap.size := (Array.getElem?_eq_some_iff.1 hgpw).1
  have hc4 := (b4.cell (p := ⟨gp, 0, none⟩) hpl).trans hc2
  have hb4 := (b4.block gp hpl).trans hgpw
  have R4 := R.kept b4
  generalize (((w.alloc (.cells #[.pointer (some ⟨gp, 0, none⟩)] 123)).alloc (.cells #[.pointer (some ⟨3, 123, none⟩), .pointer (some ⟨w.heap.size, 0, none⟩), .int .u64 150] 147)).alloc (.cells #[.pointer (some ⟨3, 123, none⟩), .pointer (some ⟨w.heap.size, 0, none⟩), .int .u64 150] 147)).alloc (.cells #[.int .i64 n] 78) = w4 at *
  have hf4 : w4.frozen? ⟨gp, 0, none⟩ = false := by
    unfold World.frozen?
    simp [hb4]
  obtain ⟨w', hrun, R'⟩ := R4.store (P := Tryz.prog) hp rfl 0 [.int .i64 n] [.int .i64 n] (by simp [VRs, VR]) rfl (by simp [AV.lts, AV.lt]) (by simp)
  have hst : (storeCells ((β p).addr.add 0) [.int .i64 n] 0).run Tryz.prog w4 = .ok () (w4.setCell ⟨gp, 0, none⟩ (.int .i64 n)) := by
    rw [eap, Addr.add_plain]
    simp [storeCells, Addr.add]
    rw [run_store Tryz.prog w4 _ _ _ (by rfl)]
    simp [hc4, hf4]
  rw [hst] at hrun
  cases hrun
  refine ⟨β, .bool true, _, H.set p (numBlk n), rfl, ⟨rfl, rfl⟩, Agree.refl _ _, by simp, rfl, trivial, ?_⟩
  simpa [splice] using R'
end Go.Proofs.YtfalfmfkifemeaaGreatDoor
set_option linter.unusedVariables false
set_option linter.unusedSimpArgs false
namespace Go.Proofs.YtfalfmfkifemeaaGreatDoor
open Go.AL
theorem tf44ErD : type_of% (And.intro @tyb9 (And.intro @tyb34 (And.intro @tyb35 (And.intro @tyb110 (And.intro @tyb111 (@tyb112)))))) := And.intro @tyb9 (And.intro @tyb34 (And.intro @tyb35 (And.intro @tyb110 (And.intro @tyb111 (@tyb112)))))
theorem tf52ErD : type_of% (And.intro @tyb3 (And.intro @tyb20 (And.intro @tyb34 (And.intro @tyb35 (And.intro @tyb78 (@tyb123)))))) := And.intro @tyb3 (And.intro @tyb20 (And.intro @tyb34 (And.intro @tyb35 (And.intro @tyb78 (@tyb123)))))
theorem tf78ErD : type_of% (And.intro @tyb9 (And.intro @tyb34 (And.intro @tyb35 (And.intro @tyb87 (And.intro @tyb110 (And.intro @tyb111 (And.intro @tyb112 (And.intro @tyb138 (@tyb141))))))))) := And.intro @tyb9 (And.intro @tyb34 (And.intro @tyb35 (And.intro @tyb87 (And.intro @tyb110 (And.intro @tyb111 (And.intro @tyb112 (And.intro @tyb138 (@tyb141))))))))
theorem tf51ErD : type_of% (And.intro @tyb9 (And.intro @tyb34 (And.intro @tyb35 (@tyb87)))) := And.intro @tyb9 (And.intro @tyb34 (And.intro @tyb35 (@tyb87)))
abbrev pn78_6ErD : Plan := (.one 0 (.one 1 (.one 2 (.one 3 (.one 5 (.one 6 (.one 7 (.one 8 (.one 4 (.one 9 (.one 10 .nil)))))))))))
set_option maxRecDepth 8000
/-- An error that is nil, or a fault of this program's own that wraps a number. -/
def Err (H : Hp) (v : AV) (op : ByteArray) (n : Int) : Prop := ∃ h, v = .ifc 110 (.ptr h 0) ∧ hget H h = some (fltBlk op n)
theorem Err.ext {H H' : Hp} {v : AV} {op : ByteArray} {n : Int} (h : Err H v op n) (x : Ext H H') : Err H' v op n := by
  obtain ⟨k, e, g⟩ := h
  exact ⟨k, e, hget_ext g x⟩
theorem Err.push {H : Hp} {v : AV} {op : ByteArray} {n : Int} (h : Err H v op n) (b : Blk) : Err (H ++ [b]) v op n := h.ext (Ext.push _ _)
theorem Err.lt {H : Hp} {v : AV} {op : ByteArray} {n : Int} (h : Err H v op n) : v.lt H.length := by
  obtain ⟨k, rfl, g⟩ := h
  simpa [AV.lt] using hget_lt g
theorem Err.ne {H : Hp} {v : AV} {op : ByteArray} {n : Int} (h : Err H v op n) : v ≠ .nilI := by
  obtain ⟨k, rfl, g⟩ := h
  intro e; cases e
theorem eq_ifc_nil {P : Program} {t u : TypeId} {ms : Array (String × TypeId)} {x : AV} (hu : P.underlying t = some (.interface ms)) : aeqIn P Op.maxDepth t (.ifc u x) .nilI = some false := aeqIn_succ (b := false) fun d => by simp [aeqIn, hu]
theorem eq_nilI {P : Program} {t : TypeId} {ms : Array (String × TypeId)} (hu : P.underlying t = some (.interface ms)) : aeqIn P Op.maxDepth t .nilI .nilI = some true := aeqIn_succ (b := true) fun d => by simp [aeqIn, hu]
theorem ta_lacks {P : Program} {t asserted : TypeId} {want : Array (String × TypeId)} {v z : AV} (hu : P.underlying asserted = some (.interface want)) (h : (P.info? t).map (fun i => (lacking want i.methods).isEmpty) = some false) (hz : zeroT P asserted = some z) :
    atypeAssert P (.ifc t v) asserted true = some (.tup [z, .bool false]) := by
  obtain ⟨i, hi, hl⟩ := Option.map_eq_some_iff.1 h
  obtain ⟨m, hm⟩ := missingMethod_some (want := want) (got := i.methods) (fun e => by rw [e] at hl; cases hl)
  simp [atypeAssert, hu, hi, hm, hz]
theorem ta_same {P : Program} {t e : TypeId} {v : AV} (hu : P.underlying t = some (.pointer e)) : atypeAssert P (.ifc t v) t true = some (.tup [v, .bool true]) := by
  simp [atypeAssert, hu]
theorem ta_fault (v : AV) : atypeAssert Tryz.prog (.ifc 110 v) 110 true = some (.tup [v, .bool true]) := ta_same und110
theorem ta_fault_no (v : AV) : atypeAssert Tryz.prog (.ifc 110 v) 138 true = some (.tup [.nilI, .bool false]) := ta_lacks und138 (by kernel_rfl) zero138
theorem ta_num_no (v : AV) : atypeAssert Tryz.prog (.ifc 78 v) 138 true = some (.tup [.nilI, .bool false]) := ta_lacks und138 (by kernel_rfl) zero138
theorem ta_num_not (v : AV) : atypeAssert Tryz.prog (.ifc 78 v) 110 true = some (.tup [.nilP, .bool false]) := by
  simp [atypeAssert, und110, zero110]
theorem wrap_calls (op : ByteArray) (n : Int) (H : Hp) : ACalls Tryz.prog 44 [.str op, .ifc 78 (.int .i64 n)] H fun r H' => r = .ifc 110 (.ptr H.length 0) ∧ H ++ [fltBlk op n] = H' := by
  have hb : abuild Tryz.prog 112 [(0, .str op), (1, .ifc 78 (.int .i64 n))] = some (.agg [.str op, .ifc 78 (.int .i64 n)]) := by
    simp [abuild, zero112, aplace, und112, size9, size35, afill, AV.solid, AV.one, AV.cells, splice]
  refine ACalls_body Tryz.func44 rfl (by kernel_rfl) (by kernel_rfl) ?_
  repeat' first
    | (with_reducible first | refine AWp_seq_k (fun K hK => ?_) | refine AWp_skip ?_ | refine AWp_ret ?_ | refine AWp_regionE ?_ | refine AWp_condI ?_)
    | (simp only [thenA, inBlockA, reduceIte, Nat.reduceEqDiff])
    | ((with_reducible refine hK _ _ ?_); clear hK)
    | (simp only [ACond, RA, EAtS_def, EAtX_def, wantedA, acall, astep, ev, ofValue, ofAtom, Nat.reduceEqDiff, Nat.reduceAdd, Nat.reduceMul, Nat.reduceSub, reduceCtorEq, reduceIte, aoptEv, abin, aint, ashift, aun, astr, aeqGuard, isConstOp, aconvH, aofStr, aconvSame, isU8, abuildSlice, afill, splice, azeros, Nat.reduceLeDiff, Nat.reduceLT, Int.reduceLE, Int.reduceLT, Int.reduceEq, Int.reduceToNat, Int.reducePow, IntKind.bits, Int.reduceNeg, RB, aalloc, Go.PW.dig_length, tf44ErD, eq_ifc_nil und35, hb])
  all_goals
    (
     (refine AEnd_gen (rs := [.tmp 4]) rfl ?_)
     (simp only [AEndR, aresults, Fr.put_some, Fr.put_none, fr0_zero, fr0_succ, fr0_nil, Nat.reduceEqDiff, reduceIte])
     (try simp (disch := (first | omega | (simp only [RO]; done) | assumption | (simp only [RM, Go.PW.dig_length]; done) | (simp only [RL, Go.PW.dig_length]; omega))) only [RD, reduceCtorEq, reduceIte, Go.PW.dig_length, Nat.reduceLeDiff, Nat.reduceAdd, Nat.reduceMul, Int.reduceToNat, tf44ErD]))
theorem code_calls (op : ByteArray) (n : Int) (v : AV) (H : Hp) (hv : Err H v op n) (hn : Noted H) : ACalls Tryz.prog 52 [v] H fun r H' => r = .int .i64 n ∧ H = H' := by
  refine ACalls.drop (R := fun r => r = .int .i64 n) ?_
  obtain ⟨h, rfl, hh⟩ := hv
  have hl := hget_lt hh
  have g1 : hget (H ++ [numBlk 0]) h = some (fltBlk op n) := by rw [hget_old hl]; exact hh
  have g2 : hget (H ++ [numBlk 0]) H.length = some (numBlk 0) := hget_at rfl
  have n1 := hn.push (numBlk 0)
  refine ACalls_body Tryz.func52 rfl (by kernel_rfl) (by kernel_rfl) ?_
  repeat' first
    | (with_reducible first | refine AWp_seq_k (fun K hK => ?_) | refine AWp_block ?_ | refine AWp_ret ?_ | refine AWp_regionE ?_ | refine AWp_condI ?_)
    | ((with_reducible refine ECall_intro (as_calls op n 0 h H.length _ g1 g2 n1) ?_); rintro _ _ ⟨rfl, rfl⟩)
    | (simp only [thenA, inBlockA, reduceIte, Nat.reduceEqDiff])
    | ((with_reducible refine hK _ _ ?_); clear hK)
    | (simp only [ACond, RA, EAtS_def, EAtX_def, wantedA, acall, astep, ev, ofValue, ofAtom, Nat.reduceEqDiff, Nat.reduceAdd, Nat.reduceMul, Nat.reduceSub, reduceCtorEq, reduceIte, aoptEv, abin, aint, ashift, aun, astr, aeqGuard, isConstOp, aconvH, aofStr, aconvSame, isU8, abuildSlice, afill, splice, azeros, Nat.reduceLeDiff, Nat.reduceLT, Int.reduceLE, Int.reduceLT, Int.reduceEq, Int.reduceToNat, Int.reducePow, IntKind.bits, Int.reduceNeg, RB, aalloc, Go.PW.dig_length, tf52ErD, eq_ifc_nil und35])
    | (simp (disch := (first | omega | (simp only [RO]; done) | assumption | (simp only [RM, Go.PW.dig_length]; done) | (simp only [RL, Go.PW.dig_length]; omega))) only [RD, reduceCtorEq, reduceIte, Go.PW.dig_length, Nat.reduceLeDiff, Nat.reduceAdd, Nat.reduceMul, Int.reduceToNat, tf52ErD, eq_ifc_nil und35])
  all_goals
    (
     (refine AEnd_gen (rs := [.tmp 2]) rfl ?_)
     (simp only [AEndR, aresults, Fr.put_some, Fr.put_none, fr0_zero, fr0_succ, fr0_nil, Nat.reduceEqDiff, reduceIte])
     (try simp (disch := (first | omega | (simp only [RO]; done) | assumption | (simp only [RM, Go.PW.dig_length]; done) | (simp only [RL, Go.PW.dig_length]; omega))) only [RD, reduceCtorEq, reduceIte, Go.PW.dig_length, Nat.reduceLeDiff, Nat.reduceAdd, Nat.reduceMul, Int.reduceToNat, tf52ErD]))
  all_goals exact ⟨Ext.push _ _, trivial⟩
abbrev strBlk (op : ByteArray) : Blk := ⟨[.str op], .own, 9⟩
theorem within_fault (op : ByteArray) (n : Int) (h : Nat) (H : Hp) (hh : hget H h = some (fltBlk op n)) : ACalls Tryz.prog 78 [.ifc 110 (.ptr h 0)] H fun r H' => r = .tup [.sl H.length 0 1 1, .ifc 78 (.int .i64 n)] ∧ H ++ [strBlk op] = H' := by
  have hl := hget_lt hh
  have f0 : afieldAddr Tryz.prog 112 (.ptr h 0) 0 = some (.ptr h 0) := by simp [afieldAddr, und112, size9]
  have f1 : afieldAddr Tryz.prog 112 (.ptr h 0) 1 = some (.ptr h 1) := by simp [afieldAddr, und112, size35]
  have l0 : ∀ H', Ext H H' → aload Tryz.prog H' 9 (.ptr h 0) = some (.str op) := fun H' x => by simp [aload, hget_ext hh x, agg9]
  have l1 : ∀ H', Ext H H' → aload Tryz.prog H' 35 (.ptr h 1) = some (.ifc 78 (.int .i64 n)) := fun H' x => by simp [aload, hget_ext hh x, agg35]
  have l0' := l0 _ (Ext.refl _)
  have l1' := l1 _ (Ext.refl _)
  have l1'' := l1 _ (Ext.push H (strBlk op))
  have l0'' := l0 _ (Ext.push H (strBlk op))
  refine ACalls_body Tryz.func78 rfl (by kernel_rfl) (by kernel_rfl) ?_
  repeat' first
    | (with_reducible first | refine AWp_seq_k (fun K hK => ?_) | refine AWp_skip ?_ | refine AWp_ret ?_ | refine AWp_regionE ?_ | refine AWp_drawE (id := 6) [] pn78_6ErD (by kernel_rfl) (by kernel_rfl) ?_ | refine AWp_condI ?_)
    | (simp only [thenA, inBlockA, reduceIte, Nat.reduceEqDiff])
    | ((with_reducible refine hK _ _ ?_); clear hK)
    | (simp only [ACond, RA, EAtS_def, EAtX_def, wantedA, acall, astep, ev, ofValue, ofAtom, Nat.reduceEqDiff, Nat.reduceAdd, Nat.reduceMul, Nat.reduceSub, reduceCtorEq, reduceIte, aoptEv, abin, aint, ashift, aun, astr, aeqGuard, isConstOp, aconvH, aofStr, aconvSame, isU8, abuildSlice, afill, splice, azeros, Nat.reduceLeDiff, Nat.reduceLT, Int.reduceLE, Int.reduceLT, Int.reduceEq, Int.reduceToNat, Int.reducePow, IntKind.bits, Int.reduceNeg, RB, aalloc, Go.PW.dig_length, tf78ErD, ta_fault, ta_fault_no, eqPn110, f0, f1, l0', l1', l0'', l1''])
  all_goals
    (
     (refine AEnd_gen (rs := [.tmp 2, .tmp 3]) rfl ?_)
     (simp only [AEndR, aresults, Fr.put_some, Fr.put_none, fr0_zero, fr0_succ, fr0_nil, Nat.reduceEqDiff, reduceIte])
     (try simp (disch := (first | omega | (simp only [RO]; done) | assumption | (simp only [RM, Go.PW.dig_length]; done) | (simp only [RL, Go.PW.dig_length]; omega))) only [RD, reduceCtorEq, reduceIte, Go.PW.dig_length, Nat.reduceLeDiff, Nat.reduceAdd, Nat.reduceMul, Int.reduceToNat, tf78ErD]))
theorem within_num (n : Int) (H : Hp) : ACalls Tryz.prog 78 [.ifc 78 (.int .i64 n)] H fun r H' => r = .tup [.nilS, .nilI] ∧ H = H' := by
  refine ACalls_body Tryz.func78 rfl (by kernel_rfl) (by kernel_rfl) ?_
  repeat' first
    | (with_reducible first | refine AWp_seq_k (fun K hK => ?_) | refine AWp_skip ?_ | refine AWp_ret ?_ | refine AWp_regionE ?_ | refine AWp_condI ?_)
    | (simp only [thenA, inBlockA, reduceIte, Nat.reduceEqDiff])
    | ((with_reducible refine hK _ _ ?_); clear hK)
    | (simp only [ACond, RA, EAtS_def, EAtX_def, wantedA, acall, astep, ev, ofValue, ofAtom, Nat.reduceEqDiff, Nat.reduceAdd, Nat.reduceMul, Nat.reduceSub, reduceCtorEq, reduceIte, aoptEv, abin, aint, ashift, aun, astr, aeqGuard, isConstOp, aconvH, aofStr, aconvSame, isU8, abuildSlice, afill, splice, azeros, Nat.reduceLeDiff, Nat.reduceLT, Int.reduceLE, Int.reduceLT, Int.reduceEq, Int.reduceToNat, Int.reducePow, IntKind.bits, Int.reduceNeg, RB, aalloc, Go.PW.dig_length, tf78ErD, ta_num_no, ta_num_not])
  all_goals
    (
     (refine AEnd_gen (rs := [.tmp 2, .tmp 3]) rfl ?_)
     (simp only [AEndR, aresults, Fr.put_some, Fr.put_none, fr0_zero, fr0_succ, fr0_nil, Nat.reduceEqDiff, reduceIte])
     (try simp (disch := (first | omega | (simp only [RO]; done) | assumption | (simp only [RM, Go.PW.dig_length]; done) | (simp only [RL, Go.PW.dig_length]; omega))) only [RD, reduceCtorEq, reduceIte, Go.PW.dig_length, Nat.reduceLeDiff, Nat.reduceAdd, Nat.reduceMul, Int.reduceToNat, tf78ErD]))
/-- What an error was done at. -/
theorem ops_calls (op : ByteArray) (n : Int) (v : AV) (H : Hp) (hv : Err H v op n) : ACalls Tryz.prog 51 [v] H fun r H' => r = .sg (H.length + 1) 0 1 1 ∧ H ++ [strBlk op] ++ [strBlk op] = H' := by
  obtain ⟨h, rfl, hh⟩ := hv
  have a1 : aappend Tryz.prog (H ++ [strBlk op]) 87 .nilS (.sl H.length 0 1 1) = some (.sg (H.length + 1) 0 1 1, H ++ [strBlk op] ++ [strBlk op]) := by
    have := append_nil (P := Tryz.prog) (Rd.lit H (n := 1) (z := 1) (cs := [.str op]) (k := .own) (e := 9) (by decide) rfl) und87 size9 zero9 rfl (by decide) bytes9 rfl (by decide) (by decide) (by decide)
    rwa [len_push] at this
  have a2 : ∀ H', aappend Tryz.prog H' 87 (.sg (H.length + 1) 0 1 1) .nilS = some (.sg (H.length + 1) 0 1 1, H') := fun H' =>
    append_none (P := Tryz.prog) (Rd.nil H' 1) und87 size9 zero9 rfl (by decide) bytes9 rfl (.inr (.inr ⟨_, _, _, rfl⟩))
  refine ACalls_body Tryz.func51 rfl (by kernel_rfl) (by kernel_rfl) ?_
  repeat' first
    | (with_reducible first | refine AWp_seq_k (fun K hK => ?_) | refine AWp_block ?_ | refine AWp_regionE ?_)
    | (simp only [thenA, inBlockA, reduceIte, Nat.reduceEqDiff])
    | ((with_reducible refine hK _ _ ?_); clear hK)
    | (simp only [ACond, RA, EAtS_def, EAtX_def, wantedA, acall, astep, ev, ofValue, ofAtom, Nat.reduceEqDiff, Nat.reduceAdd, Nat.reduceMul, Nat.reduceSub, reduceCtorEq, reduceIte, aoptEv, abin, aint, ashift, aun, astr, aeqGuard, isConstOp, aconvH, aofStr, aconvSame, isU8, abuildSlice, afill, splice, azeros, Nat.reduceLeDiff, Nat.reduceLT, Int.reduceLE, Int.reduceLT, Int.reduceEq, Int.reduceToNat, Int.reducePow, IntKind.bits, Int.reduceNeg, RB, aalloc, Go.PW.dig_length, tf51ErD])
  refine AWp_loop (fun m fr' H' => (m = 2 ∧ fr' 0 = .ifc 110 (.ptr h 0) ∧ fr' 3 = .nilS ∧ H = H') ∨ (m = 1 ∧ fr' 0 = .ifc 78 (.int .i64 n) ∧ fr' 3 = .sg (H.length + 1) 0 1 1 ∧ H ++ [strBlk op] ++ [strBlk op] = H') ∨ (m = 0 ∧ fr' 0 = .nilI ∧ fr' 3 = .sg (H.length + 1) 0 1 1 ∧ H ++ [strBlk op] ++ [strBlk op] = H')) (m := 2) (.inl ⟨rfl, rfl, rfl, rfl⟩) ?_
  rintro m fr' H' (⟨rfl, k0, k3, rfl⟩ | ⟨rfl, k0, k3, rfl⟩ | ⟨rfl, k0, k3, rfl⟩)
  · skip
    repeat' first
      | (with_reducible first | refine AWp_seq_k (fun K hK => ?_) | refine AWp_block ?_ | refine AWp_skip ?_ | refine AWp_regionE ?_ | refine AWp_condI ?_)
      | ((with_reducible refine ECall_intro (within_fault op n h _ hh) ?_); rintro _ _ ⟨rfl, rfl⟩)
      | (simp only [thenA, inBlockA, reduceIte, Nat.reduceEqDiff])
      | ((with_reducible refine hK _ _ ?_); clear hK)
      | (simp only [ACond, RA, EAtS_def, EAtX_def, wantedA, acall, astep, ev, ofValue, ofAtom, Nat.reduceEqDiff, Nat.reduceAdd, Nat.reduceMul, Nat.reduceSub, reduceCtorEq, reduceIte, aoptEv, abin, aint, ashift, aun, astr, aeqGuard, isConstOp, aconvH, aofStr, aconvSame, isU8, abuildSlice, afill, splice, azeros, Nat.reduceLeDiff, Nat.reduceLT, Int.reduceLE, Int.reduceLT, Int.reduceEq, Int.reduceToNat, Int.reducePow, IntKind.bits, Int.reduceNeg, RB, aalloc, Go.PW.dig_length, tf51ErD, k0, k3, eq_ifc_nil und35, eq_nilI und35, a1])
    exact ⟨1, by omega, rfl⟩
  · skip
    repeat' first
      | (with_reducible first | refine AWp_seq_k (fun K hK => ?_) | refine AWp_block ?_ | refine AWp_skip ?_ | refine AWp_regionE ?_ | refine AWp_condI ?_)
      | ((with_reducible refine ECall_intro (within_num n _) ?_); rintro _ _ ⟨rfl, rfl⟩)
      | (simp only [thenA, inBlockA, reduceIte, Nat.reduceEqDiff])
      | ((with_reducible refine hK _ _ ?_); clear hK)
      | (simp only [ACond, RA, EAtS_def, EAtX_def, wantedA, acall, astep, ev, ofValue, ofAtom, Nat.reduceEqDiff, Nat.reduceAdd, Nat.reduceMul, Nat.reduceSub, reduceCtorEq, reduceIte, aoptEv, abin, aint, ashift, aun, astr, aeqGuard, isConstOp, aconvH, aofStr, aconvSame, isU8, abuildSlice, afill, splice, azeros, Nat.reduceLeDiff, Nat.reduceLT, Int.reduceLE, Int.reduceLT, Int.reduceEq, Int.reduceToNat, Int.reducePow, IntKind.bits, Int.reduceNeg, RB, aalloc, Go.PW.dig_length, tf51ErD, k0, k3, eq_ifc_nil und35, eq_nilI und35, a2])
    exact ⟨0, by omega, rfl⟩
  · skip
    repeat' first
      | (with_reducible first | refine AWp_seq_k (fun K hK => ?_) | refine AWp_exit ?_ | refine AWp_ret ?_ | refine AWp_regionE ?_ | refine AWp_condI ?_)
      | (simp only [thenA, inBlockA, reduceIte, Nat.reduceEqDiff])
      | ((with_reducible refine hK _ _ ?_); clear hK)
      | (clear hK; (with_reducible refine hK _ _ ?_); clear hK)
      | (simp only [ACond, RA, EAtS_def, EAtX_def, wantedA, acall, astep, ev, ofValue, ofAtom, Nat.reduceEqDiff, Nat.reduceAdd, Nat.reduceMul, Nat.reduceSub, reduceCtorEq, reduceIte, aoptEv, abin, aint, ashift, aun, astr, aeqGuard, isConstOp, aconvH, aofStr, aconvSame, isU8, abuildSlice, afill, splice, azeros, Nat.reduceLeDiff, Nat.reduceLT, Int.reduceLE, Int.reduceLT, Int.reduceEq, Int.reduceToNat, Int.reducePow, IntKind.bits, Int.reduceNeg, RB, aalloc, Go.PW.dig_length, tf51ErD, k0, k3, eq_ifc_nil und35, eq_nilI und35, Bool.or_true])
    (
     (refine AEnd_gen (rs := [.tmp 2]) rfl ?_)
     (simp only [AEndR, aresults, Fr.put_some, Fr.put_none, fr0_zero, fr0_succ, fr0_nil, Nat.reduceEqDiff, reduceIte, k3])
     (try simp (disch := (first | omega | (simp only [RO]; done) | assumption | (simp only [RM, Go.PW.dig_length]; done) | (simp only [RL, Go.PW.dig_length]; omega))) only [RD, reduceCtorEq, reduceIte, Go.PW.dig_length, Nat.reduceLeDiff, Nat.reduceAdd, Nat.reduceMul, Int.reduceToNat, tf51ErD, k3]))
end Go.Proofs.YtfalfmfkifemeaaGreatDoor

/- Part 15 of the proof of laws of this seat: lemmas on the model's code, on this program's functions, on numbers. No condition. -/
import Derived.Test.YtfalfmfkifemeaaDoorZDiaan
import Derived.LaidEql
import Derived.RowKitTokens
import Derived.Stop.Asserts
import Derived.WalkKit
set_option linter.unusedVariables false
set_option linter.unusedSimpArgs false
namespace Go.Proofs.YtfalfmfkifemeaaDoor
open Go.AL Go.PW
theorem tf61WdN : type_of% (And.intro @tyb4 (And.intro @tyb34 (And.intro @tyb35 (@tyb36)))) := And.intro @tyb4 (And.intro @tyb34 (And.intro @tyb35 (@tyb36)))
abbrev pn61_3WdN : Plan := (.one 0 (.pur 1 (.one 2 (.pur 3 (.pur 4 (.one 5 (.one 6 (.one 7 (.alt 8 (.one 9 (.one 10 (.one 11 .nil))) (.one 9 (.one 8 (.one 10 (.one 11 .nil)))))))))))))
abbrev pn61_4WdN : Plan := (.one 1 (.pur 2 (.one 3 (.pur 4 (.one 0 (.one 5 (.pur 6 (.one 7 (.one 8 (.one 9 (.one 10 (.one 11 (.one 12 .nil)))))))))))))
abbrev pn61_9WdN : Plan := (.one 0 (.alt 1 (.one 2 (.one 3 (.one 4 .nil))) (.one 2 (.one 1 (.one 3 (.one 4 .nil))))))
set_option maxRecDepth 8000
theorem W_tup3_lt (n : Nat) (x y : Int) (b : Bool) : AV.lt n (.tup [W x, W y, .bool b]) := by
  have h1 := W_lt n x
  have h2 := W_lt n y
  simp only [AV.lt, AV.lts] at h1 h2 ⊢
  exact ⟨h1, h2, trivial, trivial⟩
theorem tdiv_abs (a b X Y : Int) (hX : X = a.natAbs) (hY : Y = b.natAbs) : a.tdiv b = (if decide (a < 0) == decide (b < 0) then X / Y else -(X / Y)) ∧ a.tmod b = if a < 0 then -(X % Y) else X % Y := by
  have n1 : 0 ≤ X := by omega
  have n2 : 0 ≤ Y := by omega
  by_cases sa : a < 0 <;> by_cases sb : b < 0
  · have ha : a = -X := by omega
    have hb : b = -Y := by omega
    simp only [sa, sb, decide_true, beq_self_eq_true, if_true]
    rw [ha, hb, Int.neg_tdiv, Int.tdiv_neg, Int.neg_neg, Int.neg_tmod, Int.tmod_neg, Int.tdiv_eq_ediv_of_nonneg n1, Int.tmod_eq_emod_of_nonneg n1]
    exact ⟨rfl, rfl⟩
  · have ha : a = -X := by omega
    have hb : b = Y := by omega
    have e : (decide (a < 0) == decide (b < 0)) = false := by simp [sa, sb]
    rw [e]
    simp only [sa, if_true, Bool.false_eq_true, if_false]
    rw [ha, hb, Int.neg_tdiv, Int.neg_tmod, Int.tdiv_eq_ediv_of_nonneg n1, Int.tmod_eq_emod_of_nonneg n1]
    exact ⟨rfl, rfl⟩
  · have ha : a = X := by omega
    have hb : b = -Y := by omega
    have e : (decide (a < 0) == decide (b < 0)) = false := by simp [sa, sb]
    rw [e]
    simp only [sa, Bool.false_eq_true, if_false]
    rw [ha, hb, Int.tdiv_neg, Int.tmod_neg, Int.tdiv_eq_ediv_of_nonneg n1, Int.tmod_eq_emod_of_nonneg n1]
    exact ⟨rfl, rfl⟩
  · have ha : a = X := by omega
    have hb : b = Y := by omega
    simp only [sa, sb, decide_false, beq_self_eq_true, if_true, if_false]
    rw [ha, hb, Int.tdiv_eq_ediv_of_nonneg n1, Int.tmod_eq_emod_of_nonneg n1]
    exact ⟨rfl, rfl⟩
theorem signed_any (x : Int) (p : Bool) (H : Hp) (h0 : 0 ≤ x) (h : In (if p then -x else x)) : ACalls Tryd.prog 71 [W x, .bool p] H fun r H' => r = .tup [W (if p then -x else x), .bool true] ∧ H = H' := by
  cases p
  · exact signed_plus x H h0 h.2
  · exact signed_minus x H h0 (by have := h.1; simp only [if_true] at this; omega)
set_option maxHeartbeats 2000000 in
theorem div_calls (a b : Int) (H : Hp) (ha : In a) (hb : In b) (hb0 : b ≠ 0) (hq : In (a.tdiv b)) : ACalls Tryd.prog 61 [W a, W b] H fun r H' => r = .tup [W (a.tdiv b), W (a.tmod b), .bool true] ∧ H = H' := by
  refine ACalls.drop (R := fun r => r = .tup [W (a.tdiv b), W (a.tmod b), .bool true]) ?_
  obtain ⟨X, hX⟩ : ∃ X : Int, X = a.natAbs := ⟨_, rfl⟩
  obtain ⟨Y, hY⟩ : ∃ Y : Int, Y = b.natAbs := ⟨_, rfl⟩
  have hM2 := M_two
  have hXM : 0 ≤ X ∧ X < M := by have := ha.1; have := ha.2; have := Mh_pos; omega
  have hYM : 0 < Y ∧ Y < M := by have := hb.1; have := hb.2; have := Mh_pos; omega
  obtain ⟨t1, t2⟩ := tdiv_abs a b X Y hX hY
  have hz := nought_iff hb
  have hz2 : decide (b = 0) = false := by simp [hb0]
  rw [hz2] at hz
  have hq0 : 0 ≤ X / Y := Int.ediv_nonneg hXM.1 (by omega)
  have hna := neg_iff ha
  have hnb := neg_iff hb
  have hsg := fun H0 => signed_any (X / Y) (!(decide (a < 0) == decide (b < 0))) H0 hq0 (by
    rw [t1] at hq
    cases h : (decide (a < 0) == decide (b < 0)) <;> rw [h] at hq <;> simpa using hq)
  have e1 : (if (!(decide (a < 0) == decide (b < 0))) = true then -(X / Y) else X / Y) = a.tdiv b := by
    rw [t1]
    cases h : (decide (a < 0) == decide (b < 0)) <;> rfl
  rw [e1] at hsg
  refine ACalls_body Tryd.func61 rfl (by kernel_rfl) (by kernel_rfl) ?_
  refine AWp_seq_k (fun K hQ => ?_)
  repeat' first
    | (with_reducible first | refine AWp_seq_k (fun K hK => ?_) | refine AWp_skip ?_ | refine AWp_regionE ?_ | refine AWp_condI ?_)
    | (simp only [thenA, inBlockA, reduceIte, Nat.reduceEqDiff])
    | ((with_reducible refine hK _ _ ?_); clear hK)
    | (simp only [ACond, RA, EAtS_def, EAtX_def, wantedA, acall, astep, ev, ofValue, ofAtom, Nat.reduceEqDiff, Nat.reduceAdd, Nat.reduceMul, Nat.reduceSub, reduceCtorEq, reduceIte, aoptEv, abin, aint, ashift, aun, astr, aeqGuard, isConstOp, aconvH, aofStr, aconvSame, isU8, abuildSlice, afill, splice, azeros, Nat.reduceLeDiff, Nat.reduceLT, Int.reduceLE, Int.reduceLT, Int.reduceEq, Int.reduceToNat, Int.reducePow, IntKind.bits, Int.reduceNeg, RB, aalloc, Go.PW.dig_length, tf61WdN, hz, W_eq])
    | (simp (disch := (first | omega | (simp only [RO]; done) | assumption | (simp only [RM, Go.PW.dig_length]; done) | (simp only [RL, Go.PW.dig_length]; omega))) only [RD, reduceCtorEq, reduceIte, Go.PW.dig_length, Nat.reduceLeDiff, Nat.reduceAdd, Nat.reduceMul, Int.reduceToNat, tf61WdN, hz, W_eq])
  refine hQ _ _ ?_
  clear hQ
  refine AWp_seq_k (fun K hQ => ?_)
  repeat' first
    | (with_reducible first | refine AWp_seq_k (fun K hK => ?_) | refine AWp_skip ?_ | refine AWp_regionE ?_ | refine AWp_condI ?_)
    | (simp only [thenA, inBlockA, reduceIte, Nat.reduceEqDiff])
    | ((with_reducible refine hK _ _ ?_); clear hK)
    | (simp only [ACond, RA, EAtS_def, EAtX_def, wantedA, acall, astep, ev, ofValue, ofAtom, Nat.reduceEqDiff, Nat.reduceAdd, Nat.reduceMul, Nat.reduceSub, reduceCtorEq, reduceIte, aoptEv, abin, aint, ashift, aun, astr, aeqGuard, isConstOp, aconvH, aofStr, aconvSame, isU8, abuildSlice, afill, splice, azeros, Nat.reduceLeDiff, Nat.reduceLT, Int.reduceLE, Int.reduceLT, Int.reduceEq, Int.reduceToNat, Int.reducePow, IntKind.bits, Int.reduceNeg, RB, aalloc, Go.PW.dig_length, tf61WdN, hz, W_eq])
    | (simp (disch := (first | omega | (simp only [RO]; done) | assumption | (simp only [RM, Go.PW.dig_length]; done) | (simp only [RL, Go.PW.dig_length]; omega))) only [RD, reduceCtorEq, reduceIte, Go.PW.dig_length, Nat.reduceLeDiff, Nat.reduceAdd, Nat.reduceMul, Int.reduceToNat, tf61WdN, hz, W_eq])
  refine hQ _ _ ?_
  clear hQ
  refine AWp_seq_k (fun K2 hK2 => ?_)
  refine AWp_cut (fun fr' H1 => ∃ h2 h3 h4 h5 h7 h8, P1 H H1 (fr' 2) h2 (Wb a) ∧ P1 H H1 (fr' 3) h3 (Wb b) ∧ P1 H H1 (fr' 4) h4 (Wb 0) ∧ P1 H H1 (fr' 5) h5 (Wb 0) ∧ P1 H H1 (fr' 7) h7 (Wb (X / Y)) ∧ P1 H H1 (fr' 8) h8 (Wb (X % Y)) ∧ Ext H H1 ∧ h4 ≠ h5 ∧ h4 ≠ h8 ∧ h5 ≠ h8 ∧ h7 ≠ h8) ?_ (fun fr' H' h => hK2 _ _ ?_)
  · clear hK2
    repeat' first
      | (with_reducible first | refine AWp_drawE (id := 3) [] pn61_3WdN (by kernel_rfl) (by kernel_rfl) ?_ | refine Run_pur ?_)
      | (with_reducible refine EPure_intro (fun _ x => (amount_calls _ _ ha)) ?_)
      | (with_reducible refine EPure_intro (fun _ x => (amount_calls _ _ hb)) ?_)
      | (with_reducible refine EPure_intro (fun _ x => (divide_calls _ _ _ hXM hYM)) ?_)
      | (with_reducible refine And.intro ?_ ?_)
      | (simp only [thenA, inBlockA, reduceIte, Nat.reduceEqDiff])
      | (simp only [ACond, RA, EAtS_def, EAtX_def, wantedA, acall, astep, ev, ofValue, ofAtom, Nat.reduceEqDiff, Nat.reduceAdd, Nat.reduceMul, Nat.reduceSub, reduceCtorEq, reduceIte, aoptEv, abin, aint, ashift, aun, astr, aeqGuard, isConstOp, aconvH, aofStr, aconvSame, isU8, abuildSlice, afill, splice, azeros, Nat.reduceLeDiff, Nat.reduceLT, Int.reduceLE, Int.reduceLT, Int.reduceEq, Int.reduceToNat, Int.reducePow, IntKind.bits, Int.reduceNeg, RB, aalloc, Go.PW.dig_length, tf61WdN, ← hX, ← hY])
      | (simp (disch := (first | omega | (simp only [RO]; done) | assumption | (simp only [RM, Go.PW.dig_length]; done) | (simp only [RL, Go.PW.dig_length]; omega))) only [RD, reduceCtorEq, reduceIte, Go.PW.dig_length, Nat.reduceLeDiff, Nat.reduceAdd, Nat.reduceMul, Int.reduceToNat, tf61WdN, ← hX, ← hY])
    all_goals
      refine ⟨H.length, H.length + 1, H.length + 1 + 1, H.length + 1 + 1 + 1, _, _, ⟨rfl, ?_, ?_⟩, ⟨rfl, ?_, ?_⟩, ⟨rfl, ?_, ?_⟩, ⟨rfl, ?_, ?_⟩, ⟨rfl, ?_, ?_⟩, ⟨rfl, ?_, ?_⟩, (ext7 _ _ _ _ _).pushed _, ?_, ?_, ?_, ?_⟩
    all_goals first
      | omega
      | (simp only [RL]; done) | (simp only [RL]; omega)
      | (simp (disch := first | omega | (simp only [RL]; done) | (simp only [RL]; omega)) only [hget_at, hget_old]; done)
      | fail
  clear hK2
  obtain ⟨h2, h3, h4, h5, h7, h8, p2, p3, p4, p5, p7, p8, x1, n45, n48, n58, n78⟩ := h
  have q2 := p2.hi
  have q3 := p3.hi
  have q4 := p4.hi
  have q5 := p5.hi
  have q7 := p7.hi
  have q8 := p8.hi
  repeat' first
    | (with_reducible first | refine AWp_seq_k (fun K hK => ?_) | refine AWp_skip ?_ | refine AWp_ret ?_ | refine AWp_regionE ?_ | refine AWp_drawE (id := 4) [] pn61_4WdN (by kernel_rfl) (by kernel_rfl) ?_ | refine AWp_drawE (id := 9) [] pn61_9WdN (by kernel_rfl) (by kernel_rfl) ?_ | refine AWp_condI ?_ | refine Run_pur ?_)
    | (with_reducible refine EPure_intro (fun _ x => (below_calls _ _)) ?_)
    | (with_reducible refine EPure_intro (fun _ x => (hsg _)) ?_)
    | ((with_reducible refine ECall_intro (below_calls _ _) ?_); rintro _ _ ⟨rfl, rfl⟩)
    | ((with_reducible refine ECall_intro (neg_calls _ _) ?_); rintro _ _ ⟨rfl, rfl⟩)
    | (with_reducible refine And.intro ?_ ?_)
    | (with_reducible refine AIte (fun hc => ?_) (fun hc => ?_) <;> (try simp only [RC] at hc) <;> (try (exfalso; first | omega | contradiction)))
    | (simp only [thenA, inBlockA, reduceIte, Nat.reduceEqDiff])
    | ((with_reducible refine hK _ _ ?_); clear hK)
    | (simp only [ACond, RA, EAtS_def, EAtX_def, wantedA, acall, astep, ev, ofValue, ofAtom, Nat.reduceEqDiff, Nat.reduceAdd, Nat.reduceMul, Nat.reduceSub, reduceCtorEq, reduceIte, aoptEv, abin, aint, ashift, aun, astr, aeqGuard, isConstOp, aconvH, aofStr, aconvSame, isU8, abuildSlice, afill, splice, azeros, Nat.reduceLeDiff, Nat.reduceLT, Int.reduceLE, Int.reduceLT, Int.reduceEq, Int.reduceToNat, Int.reducePow, IntKind.bits, Int.reduceNeg, RB, aalloc, Go.PW.dig_length, tf61WdN, p2.eq, p3.eq, p4.eq, p5.eq, p7.eq, p8.eq, p2.get, p3.get, p4.get, p5.get, p7.get, p8.get, hna, hnb, hget_set])
    | (simp (disch := (first | omega | (simp only [RO]; done) | assumption | (simp only [RM, Go.PW.dig_length]; done) | (simp only [RL, Go.PW.dig_length]; omega))) only [RD, reduceCtorEq, reduceIte, Go.PW.dig_length, Nat.reduceLeDiff, Nat.reduceAdd, Nat.reduceMul, Int.reduceToNat, tf61WdN, p2.eq, p3.eq, p4.eq, p5.eq, p7.eq, p8.eq, p2.get, p3.get, p4.get, p5.get, p7.get, p8.get, hna, hnb, hget_set])
  all_goals
    (
     (refine AEnd_gen (rs := [.cell 4 36, .cell 5 36, .tmp 6]) rfl ?_)
     (simp only [AEndR, aresults, Fr.put_some, Fr.put_none, fr0_zero, fr0_succ, fr0_nil, Nat.reduceEqDiff, reduceIte, p4.eq, p5.eq, hget_set])
     (try simp (disch := (first | omega | (simp only [RO]; done) | assumption | (simp only [RM, Go.PW.dig_length]; done) | (simp only [RL, Go.PW.dig_length]; omega))) only [RD, reduceCtorEq, reduceIte, Go.PW.dig_length, Nat.reduceLeDiff, Nat.reduceAdd, Nat.reduceMul, Int.reduceToNat, tf61WdN, p4.eq, p5.eq, hget_set]))
  all_goals first
    | (rw [t2, if_pos (by assumption)]
       exact ⟨(((x1.set p8.lo _).set p4.lo _).set p5.lo _).pushed _, W_tup3_lt _ _ _ _, rfl⟩)
    | (rw [t2, if_neg (by assumption)]
       exact ⟨((x1.set p4.lo _).set p5.lo _).pushed _, W_tup3_lt _ _ _ _, rfl⟩)
end Go.Proofs.YtfalfmfkifemeaaDoor
set_option linter.unusedVariables false
set_option linter.unusedSimpArgs false
namespace Go.Proofs.YtfalfmfkifemeaaDoor
open Go.RowKit Go.Extern.Stop Go.Stop Go.Extern
theorem rf_valueOfP (t : Addr) (w : World) : (ReflectliteValue.unpack (.iface 96 (.pointer (some t)))).run Tryd.prog w
    = .ok (.agg #[.pointer (some ⟨3, 96, none⟩), .pointer (some ⟨w.heap.size, 0, none⟩), .int .u64 150]) (w.alloc (.cells #[.pointer (some t)] 96)) := by kernel_rfl
theorem rf_typeP (a : Addr) (w : World) : (ReflectliteValue.methodAny (ReflectliteValue.valueError "reflectlite.Value.Type" 0) (fun t _ _ _ => ReflectliteType.toType t) #[.agg #[.pointer (some ⟨3, 96, none⟩), .pointer (some a), .int .u64 150]]).run Tryd.prog w
    = .ok (.iface 127 (.agg #[.pointer (some ⟨3, 96, none⟩)])) w := by kernel_rfl
theorem rf_methodKind (h : Value) (w : World) : (Go.method 273 127 (.agg #[h]) "Kind").run Tryd.prog w = .ok (97, h) w := by kernel_rfl
theorem rf_kindP (w : World) : ((ReflectliteType.abiMethod fun t => (fun a : Nat => Value.int IntKind.u8 (a : Int)) <$> Rtype.kind t) #[.pointer (some ⟨3, 96, none⟩)]).run Tryd.prog w = .ok (.int .u8 22) w := by kernel_rfl
theorem rf_kindE (w : World) : ((ReflectliteType.abiMethod fun t => (fun a : Nat => Value.int IntKind.u8 (a : Int)) <$> Rtype.kind t) #[.pointer (some ⟨3, 57, none⟩)]).run Tryd.prog w = .ok (.int .u8 2) w := by kernel_rfl
theorem rf_rlm (z : Sem Value) (f : TypeId → Addr → Nat → Nat → Sem Value) (v : Value) :
    ReflectliteValue.method z f #[v] = (do match ← ReflectliteValue.parts v with | none => z | some (t, a, fl) => f t a fl (fl % 32)) := rfl
theorem rf_partsP (a : Addr) (w : World) : (ReflectliteValue.parts (.agg #[.pointer (some ⟨3, 96, none⟩), .pointer (some a), .int .u64 150])).run Tryd.prog w = .ok (some (96, a, 150)) w := by kernel_rfl
theorem rf_isNilP (a p : Addr) (W : World) (ha : W.cell? a = some (.pointer (some p))) :
    (ReflectliteValue.method (ReflectliteValue.valueError "reflectlite.Value.IsNil" 0) ReflectliteValue.isNil #[.agg #[.pointer (some ⟨3, 96, none⟩), .pointer (some a), .int .u64 150]]).run Tryd.prog W = .ok (.bool false) W := by
  rw [rf_rlm]
  simp only [Sem.run_bind, rf_partsP, Result.andThen]
  simp [ReflectliteValue.isNil, loadVar, isAgg, underlying, Tryd.underlying96, ha, Result.andThen]
theorem rf_methodElem (h : Value) (w : World) : (Go.method 273 127 (.agg #[h]) "Elem").run Tryd.prog w = .ok (109, .agg #[h]) w := by kernel_rfl
theorem rf_methodImplements (h : Value) (w : World) : (Go.method 273 127 (.agg #[h]) "Implements").run Tryd.prog w = .ok (110, .agg #[h]) w := by kernel_rfl
theorem rf_methodAssignableTo (h : Value) (w : World) : (Go.method 273 127 (.agg #[h]) "AssignableTo").run Tryd.prog w = .ok (107, .agg #[h]) w := by kernel_rfl
theorem rf_elemP (w : World) : (ReflectliteType.method ReflectliteType.elem #[.agg #[.pointer (some ⟨3, 96, none⟩)]]).run Tryd.prog w = .ok (.iface 127 (.agg #[.pointer (some ⟨3, 57, none⟩)])) w := by kernel_rfl
theorem rf_implementsE (w : World) : (ReflectliteType.relation "Implements" ReflectliteType.implements_ #[.agg #[.pointer (some ⟨3, 57, none⟩)], .iface 127 (.agg #[.pointer (some ⟨3, 38, none⟩)])]).run Tryd.prog w = .ok (.bool true) w := by kernel_rfl
theorem rf_typeOfE (v : Value) (w : World) : (ReflectliteType.typeOf #[.iface 57 v]).run Tryd.prog w = .ok (.iface 127 (.agg #[.pointer (some ⟨3, 57, none⟩)])) w := by kernel_rfl
theorem rf_typeOfF (v : Value) (w : World) : (ReflectliteType.typeOf #[.iface 79 v]).run Tryd.prog w = .ok (.iface 127 (.agg #[.pointer (some ⟨3, 79, none⟩)])) w := by kernel_rfl
theorem rf_assignableE (w : World) : (ReflectliteType.relation "AssignableTo" ReflectliteType.assignableTo #[.agg #[.pointer (some ⟨3, 57, none⟩)], .iface 127 (.agg #[.pointer (some ⟨3, 57, none⟩)])]).run Tryd.prog w = .ok (.bool true) w := by kernel_rfl
theorem rf_assignableF (w : World) : (ReflectliteType.relation "AssignableTo" ReflectliteType.assignableTo #[.agg #[.pointer (some ⟨3, 79, none⟩)], .iface 127 (.agg #[.pointer (some ⟨3, 57, none⟩)])]).run Tryd.prog w = .ok (.bool false) w := by kernel_rfl
theorem rf_valueOfE (n : Int) (w : World) : (ReflectliteValue.unpack (.iface 57 (.int .i64 n))).run Tryd.prog w
    = .ok (.agg #[.pointer (some ⟨3, 57, none⟩), .pointer (some ⟨w.heap.size, 0, none⟩), .int .u64 130]) (w.alloc (.cells #[.int .i64 n] 57)) := by kernel_rfl
theorem rf_elemOfP (w : World) : (Rtype.elem? 96).run Tryd.prog w = .ok (some 57) w := by kernel_rfl
theorem rf_mkE (p : Addr) (w : World) : (ReflectliteValue.mk 57 p ReflectliteValue.flagAddr).run Tryd.prog w = .ok (.agg #[.pointer (some ⟨3, 57, none⟩), .pointer (some p), .int .u64 386]) w := by kernel_rfl
theorem rf_elemVP (a p : Addr) (W : World) (ha : W.cell? a = some (.pointer (some p))) :
    (ReflectliteValue.method (ReflectliteValue.valueError "reflectlite.Value.Elem" 0) ReflectliteValue.elem #[.agg #[.pointer (some ⟨3, 96, none⟩), .pointer (some a), .int .u64 150]]).run Tryd.prog W
      = .ok (.agg #[.pointer (some ⟨3, 57, none⟩), .pointer (some p), .int .u64 386]) W := by
  rw [rf_rlm]
  simp only [Sem.run_bind, rf_partsP, Result.andThen]
  simp [ReflectliteValue.elem, loadVar, isAgg, underlying, Tryd.underlying96, ha, Result.andThen, rf_elemOfP, rf_mkE]
theorem rf_rls (v x : Value) : ReflectliteValue.set #[v, x] = (do
    let (some (dst, a, fl), some (src, b, _)) := (← ReflectliteValue.parts v, ← ReflectliteValue.parts x)
      | unsupported (.noEntry "extern/(internal/reflectlite.Value).Set.zeroValue")
    if fl / ReflectliteValue.flagAddr % 2 == 0 then unsupported (.noEntry "extern/(internal/reflectlite.Value).Set.unaddressable")
    let val ← loadVar src b
    if ← Rtype.directlyAssignable dst src then storeVar dst a val
    else if ← Rtype.implements dst src then
      if (← Rtype.kind src) == 20 then
        match val with
        | .nilIface => unsupported (.noEntry "extern/reflectlite: a nil value of one interface type handed on as a value of another")
        | _ => storeVar dst a val
      else storeVar dst a (.iface src val)
    else panicString ("reflectlite.Set: value of type " ++ (← Rtype.spelt src) ++ " is not assignable to type " ++ (← Rtype.spelt dst))
    pure (.tuple #[])) := rfl
theorem rf_partsEa (a : Addr) (w : World) : (ReflectliteValue.parts (.agg #[.pointer (some ⟨3, 57, none⟩), .pointer (some a), .int .u64 386])).run Tryd.prog w = .ok (some (57, a, 386)) w := by kernel_rfl
theorem rf_partsE (a : Addr) (w : World) : (ReflectliteValue.parts (.agg #[.pointer (some ⟨3, 57, none⟩), .pointer (some a), .int .u64 130])).run Tryd.prog w = .ok (some (57, a, 130)) w := by kernel_rfl
theorem rf_directE (w : World) : (Rtype.directlyAssignable 57 57).run Tryd.prog w = .ok true w := by kernel_rfl
theorem rf_setE (ta b : Addr) (n : Int) (old : Value) (W : World) (hb : W.cell? b = some (.int .i64 n)) (ht : W.cell? ta = some old) (hf : W.frozen? ta = false) :
    (ReflectliteValue.set #[.agg #[.pointer (some ⟨3, 57, none⟩), .pointer (some ta), .int .u64 386], .agg #[.pointer (some ⟨3, 57, none⟩), .pointer (some b), .int .u64 130]]).run Tryd.prog W
      = .ok (.tuple #[]) (W.setCell ta (.int .i64 n)) := by
  rw [rf_rls]
  simp only [Sem.run_bind, rf_partsEa, rf_partsE, Result.andThen]
  simp [ReflectliteValue.flagAddr, loadVar, isAgg, underlying, Tryd.underlying57, hb, Result.andThen, rf_directE, storeVar, Value.cells, storeCells, Addr.add]
  rw [run_store Tryd.prog W ta _ _ (by rfl)]
  simp [ht, hf]
end Go.Proofs.YtfalfmfkifemeaaDoor
set_option linter.unusedVariables false
set_option linter.unusedSimpArgs false
namespace Go.Proofs.YtfalfmfkifemeaaDoor
open Go.RowKit Go.Extern.Stop Go.Stop Go.Extern
theorem ta_noAs (v : Value) (xT : TypeId) (w : World) : (Instr.typeAssert (.iface 79 v) xT 132 true).run Tryd.prog w = .ok (.tuple #[.nilIface, .bool false]) w := run_typeAssert_lacksB Tryd.underlying132 (by kernel_rfl) (by kernel_rfl) v xT w
theorem ta_hasUnwrap (v : Value) (xT : TypeId) (w : World) : (Instr.typeAssert (.iface 79 v) xT 135 true).run Tryd.prog w = .ok (.tuple #[.iface 79 v, .bool true]) w := run_typeAssert_hasB Tryd.underlying135 (by kernel_rfl) v xT w
theorem rf_methodUnwrap (h : Value) (w : World) : (Go.method 273 79 h "Unwrap").run Tryd.prog w = .ok (102, h) w := by kernel_rfl
theorem unwrap_hit (g : Nat) (x : Value) (w : World) (hx : w.cell? ⟨g, 1, none⟩ = some x) : Calls Tryd.prog 102 #[.pointer (some ⟨g, 0, none⟩)] w fun ev w' => ev = .returned x ∧ w' = w := by
  go_enter Tryd.func102, Tryd.ntmps102
  go_wp2
  go_ret
  exact ⟨rfl, rfl⟩
set_option maxRecDepth 20000 in
set_option maxHeartbeats 8000000 in
theorem as_two (g : Nat) (n : Int) (t : Addr) (old : Value) (w : World) (hg : w.cell? ⟨0, 0, none⟩ = some (.iface 127 (.agg #[.pointer (some ⟨3, 38, none⟩)]))) (hf1 : w.cell? ⟨g, 1, none⟩ = some (.iface 57 (.int .i64 n))) (ht0 : w.cell? t = some old) (hf0 : w.frozen? t = false) :
    Calls Tryd.prog 56 #[.iface 79 (.pointer (some ⟨g, 0, none⟩)), .iface 96 (.pointer (some t))] w fun ev w' => ev = .returned (.bool true) ∧ w' = ((((w.alloc (.cells #[.pointer (some t)] 96)).alloc (.cells #[.pointer (some ⟨3, 96, none⟩), .pointer (some ⟨w.heap.size, 0, none⟩), .int .u64 150] 111)).alloc (.cells #[.pointer (some ⟨3, 96, none⟩), .pointer (some ⟨w.heap.size, 0, none⟩), .int .u64 150] 111)).alloc (.cells #[.int .i64 n] 57)).setCell t (.int .i64 n) := by
  have h6 := @run_callFunc_extern Tryd.prog 64 _ (fun args => ReflectliteValue.unpack (args.getD 0 (.tuple #[]))) Tryd.func64 (by kernel_rfl) (by kernel_rfl) (by kernel_rfl) (by kernel_rfl)
  have h7 := @run_callFunc_extern Tryd.prog 65 _ (ReflectliteValue.methodAny (ReflectliteValue.valueError "reflectlite.Value.Type" 0) (fun t _ _ _ => ReflectliteType.toType t)) Tryd.func65 (by kernel_rfl) (by kernel_rfl) (by kernel_rfl) (by kernel_rfl)
  have h8 := @run_callFunc_extern Tryd.prog 66 _ (ReflectliteValue.method (ReflectliteValue.valueError "reflectlite.Value.IsNil" 0) ReflectliteValue.isNil) Tryd.func66 (by kernel_rfl) (by kernel_rfl) (by kernel_rfl) (by kernel_rfl)
  have h27 := @run_callFunc_extern Tryd.prog 97 _ (ReflectliteType.abiMethod fun t => do pure (.int .u8 (← Rtype.kind t))) Tryd.func97 (by kernel_rfl) (by kernel_rfl) (by kernel_rfl) (by kernel_rfl)
  have h37 := @run_callFunc_extern Tryd.prog 109 _ (ReflectliteType.method ReflectliteType.elem) Tryd.func109 (by kernel_rfl) (by kernel_rfl) (by kernel_rfl) (by kernel_rfl)
  have h38 := @run_callFunc_extern Tryd.prog 110 _ (ReflectliteType.relation "Implements" ReflectliteType.implements_) Tryd.func110 (by kernel_rfl) (by kernel_rfl) (by kernel_rfl) (by kernel_rfl)
  have h10 := @run_callFunc_extern Tryd.prog 73 _ ReflectliteType.typeOf Tryd.func73 (by kernel_rfl) (by kernel_rfl) (by kernel_rfl) (by kernel_rfl)
  have h35 := @run_callFunc_extern Tryd.prog 107 _ (ReflectliteType.relation "AssignableTo" ReflectliteType.assignableTo) Tryd.func107 (by kernel_rfl) (by kernel_rfl) (by kernel_rfl) (by kernel_rfl)
  have h11 := @run_callFunc_extern Tryd.prog 74 _ (ReflectliteValue.method (ReflectliteValue.valueError "reflectlite.Value.Elem" 0) ReflectliteValue.elem) Tryd.func74 (by kernel_rfl) (by kernel_rfl) (by kernel_rfl) (by kernel_rfl)
  have h12 := @run_callFunc_extern Tryd.prog 75 _ ReflectliteValue.set Tryd.func75 (by kernel_rfl) (by kernel_rfl) (by kernel_rfl) (by kernel_rfl)
  have tO := rf_typeOfE
  have tF := rf_typeOfF
  have mA := rf_methodAssignableTo
  have aE := rf_assignableE
  have aF := rf_assignableF
  have vE := rf_valueOfE n
  have f6 := rf_valueOfP
  have f7 := rf_typeP
  have mK := rf_methodKind
  have mE := rf_methodElem
  have mI := rf_methodImplements
  have kP := rf_kindP
  have kE := rf_kindE
  have eP := rf_elemP
  have iE := rf_implementsE
  have nA := ta_noAs
  have hU := ta_hasUnwrap
  have mU := rf_methodUnwrap
  obtain ⟨w1, hw1⟩ : ∃ w1, w1 = w.alloc (.cells #[.pointer (some t)] 96) := ⟨_, rfl⟩
  have n8 := rf_isNilP ⟨w.heap.size, 0, none⟩ t ((w.alloc (.cells #[.pointer (some t)] 96)).alloc (.cells #[.pointer (some ⟨3, 96, none⟩), .pointer (some ⟨w.heap.size, 0, none⟩), .int .u64 150] 111)) (by simp)
  have hlt : 0 < w.heap.size := by
    rcases Nat.eq_zero_or_pos w.heap.size with h0 | h
    · simp [World.cell?, h0] at hg
    · exact h
  have hg2 : ((w.alloc (.cells #[.pointer (some t)] 96)).alloc (.cells #[.pointer (some ⟨3, 96, none⟩), .pointer (some ⟨w.heap.size, 0, none⟩), .int .u64 150] 111)).cell? ⟨0, 0, none⟩ = some (.iface 127 (.agg #[.pointer (some ⟨3, 38, none⟩)])) := by
    rw [World.cell?_alloc_lt _ _ ⟨0, 0, none⟩ (by simp), World.cell?_alloc_lt _ _ ⟨0, 0, none⟩ hlt]; exact hg
  have htl : t.block < w.heap.size := by
    rcases Nat.lt_or_ge t.block w.heap.size with h | h
    · exact h
    · simp [World.cell?, Array.getElem?_eq_none h] at ht0
  have hgl : g < w.heap.size := by
    rcases Nat.lt_or_ge g w.heap.size with h | h
    · exact h
    · simp [World.cell?, Array.getElem?_eq_none h] at hf1
  have un := unwrap_hit g (.iface 57 (.int .i64 n)) (((w.alloc (.cells #[.pointer (some t)] 96)).alloc (.cells #[.pointer (some ⟨3, 96, none⟩), .pointer (some ⟨w.heap.size, 0, none⟩), .int .u64 150] 111)).alloc (.cells #[.pointer (some ⟨3, 96, none⟩), .pointer (some ⟨w.heap.size, 0, none⟩), .int .u64 150] 111)) (by rw [World.cell?_alloc_lt _ _ ⟨g, 1, none⟩ (by simp; omega), World.cell?_alloc_lt _ _ ⟨g, 1, none⟩ (by simp; omega), World.cell?_alloc_lt _ _ ⟨g, 1, none⟩ hgl]; exact hf1)
  have el := rf_elemVP ⟨w.heap.size, 0, none⟩ t (((w.alloc (.cells #[.pointer (some t)] 96)).alloc (.cells #[.pointer (some ⟨3, 96, none⟩), .pointer (some ⟨w.heap.size, 0, none⟩), .int .u64 150] 111)).alloc (.cells #[.pointer (some ⟨3, 96, none⟩), .pointer (some ⟨w.heap.size, 0, none⟩), .int .u64 150] 111)) (by rw [World.cell?_alloc_lt _ _ ⟨w.heap.size, 0, none⟩ (by simp; omega)]; simp)
  have st := rf_setE t ⟨w.heap.size + 1 + 1 + 1, 0, none⟩ n old ((((w.alloc (.cells #[.pointer (some t)] 96)).alloc (.cells #[.pointer (some ⟨3, 96, none⟩), .pointer (some ⟨w.heap.size, 0, none⟩), .int .u64 150] 111)).alloc (.cells #[.pointer (some ⟨3, 96, none⟩), .pointer (some ⟨w.heap.size, 0, none⟩), .int .u64 150] 111)).alloc (.cells #[.int .i64 n] 57))
    (by rw [World.cell?_alloc_at _ _ _ _ (by simp)]; rfl)
    (by rw [World.cell?_alloc_lt _ _ t (by simp; omega), World.cell?_alloc_lt _ _ t (by simp; omega), World.cell?_alloc_lt _ _ t (by simp; omega), World.cell?_alloc_lt _ _ t htl]; exact ht0)
    (by rw [World.frozen?_alloc_old _ _ t (by simp; omega), World.frozen?_alloc_old _ _ t (by simp; omega), World.frozen?_alloc_old _ _ t (by simp; omega), World.frozen?_alloc_old _ _ t (Nat.ne_of_lt htl)]; exact hf0)
  clear hw1
  go_enter Tryd.func56, Tryd.ntmps56
  go_wp2
  refine wp_loop_rounds 2 ?_
  rw [rounds_succ]
  go_wp2_with (first | (go_at_call 102; refine un.mono ?_; rintro e w' ⟨rfl, rfl⟩))
  rw [rounds_succ]
  go_wp2
  go_ret
  exact ⟨rfl, rfl⟩
end Go.Proofs.YtfalfmfkifemeaaDoor
set_option linter.unusedVariables false
set_option linter.unusedSimpArgs false
namespace Go.Proofs.YtfalfmfkifemeaaDoor
open Go.AL Go.RowKit
/-- The block of a fault; the note of the library's variable. -/
abbrev fltBlk (op : ByteArray) (n : Int) : Blk := ⟨[.str op, .ifc 57 (.int .i64 n)], .own, 81⟩
abbrev numBlk (n : Int) : Blk := ⟨[.int .i64 n], .own, 57⟩
def Noted (H : Hp) : Prop := ∃ k e, hget H k = some ⟨[], .glob 0 127 3 38, e⟩
theorem Noted.ext {H H' : Hp} (h : Noted H) (x : Ext H H') : Noted H' := by
  obtain ⟨k, e, h⟩ := h
  exact ⟨k, e, hget_ext h x⟩
theorem Noted.push {H : Hp} (h : Noted H) (b : Blk) : Noted (H ++ [b]) := h.ext (Ext.push _ _)
theorem Noted.set {H : Hp} (h : Noted H) {p : Nat} {b b' : Blk} (hp : hget H p = some b) (hb : b.kind = .own) : Noted (H.set p b') := by
  obtain ⟨k, e, h⟩ := h
  refine ⟨k, e, ?_⟩
  rw [hget_set (hget_lt hp), if_neg]
  · exact h
  · rintro rfl
    rw [hp] at h
    cases h
    cases hb
set_option maxRecDepth 4000 in
theorem as_calls (op : ByteArray) (n old : Int) (h p : Nat) (H : Hp) (hh : hget H h = some (fltBlk op n)) (hp : hget H p = some (numBlk old)) (hn : Noted H) :
    ACalls Tryd.prog 56 [.ifc 79 (.ptr h 0), .ifc 96 (.ptr p 0)] H fun r H' => r = .bool true ∧ H.set p (numBlk n) = H' := by
  refine ⟨⟨_, Tryd.func56, by kernel_rfl, by kernel_rfl⟩, ?_⟩
  intro w0 B β w vs R hv hl
  obtain ⟨vs⟩ := vs
  simp only [VRs, VR] at hv
  obtain ⟨_, _, rfl, ⟨_, rfl, rfl⟩, _, _, rfl, ⟨_, rfl, rfl⟩, rfl⟩ := hv
  obtain ⟨g, cur, ea, hgB, hgw, hgl, hgt⟩ := R.own h _ hh rfl
  obtain ⟨gp, curp, eap, hgpB, hgpw, hgpl, hgpt⟩ := R.own p _ hp rfl
  obtain ⟨v1, hc1, hvr1, _⟩ := R.cells h _ hh (fun e => by cases e) 1 _ rfl
  obtain ⟨v2, hc2, hvr2, _⟩ := R.cells p _ hp (fun e => by cases e) 0 _ rfl
  simp only [VR] at hvr1 hvr2
  obtain ⟨_, rfl, rfl⟩ := hvr1
  subst hvr2
  rw [ea, Addr.add_plain] at hc1
  rw [eap, Addr.add_plain] at hc2
  obtain ⟨k, e, hk⟩ := hn
  obtain ⟨hg0, h0B⟩ := R.glob k _ hk 0 _ _ _ rfl
  have hg1 : w.cell? ⟨0, 0, none⟩ = _ := (R.below.cell h0B).trans hg0
  have hfr : w.frozen? ⟨gp, 0, none⟩ = false := by
    unfold World.frozen?
    simp [hgpw]
  rw [ea, eap, Addr.add_plain, Addr.add_plain]
  refine (as_two g n ⟨gp, 0, none⟩ _ w hg1 hc1 hc2 hfr).mono ?_
  rintro ev w' ⟨rfl, rfl⟩
  have b1 := (Below.refl w.heap.size w).alloc (Nat.le_refl _) (.cells #[.pointer (some ⟨gp, 0, none⟩)] 96)
  have b2 := b1.alloc (by simp) (.cells #[.pointer (some ⟨3, 96, none⟩), .pointer (some ⟨w.heap.size, 0, none⟩), .int .u64 150] 111)
  have b3 := b2.alloc (by simp; omega) (.cells #[.pointer (some ⟨3, 96, none⟩), .pointer (some ⟨w.heap.size, 0, none⟩), .int .u64 150] 111)
  have b4 := b3.alloc (by simp; omega) (.cells #[.int .i64 n] 57)
  have hpl : gp < w.heap.size := (Array.getElem?_eq_some_iff.1 hgpw).1
  have hc4 := (b4.cell (p := ⟨gp, 0, none⟩) hpl).trans hc2
  have hb4 := (b4.block gp hpl).trans hgpw
  have R4 := R.kept b4
  generalize (((w.alloc (.cells #[.pointer (some ⟨gp, 0, none⟩)] 96)).alloc (.cells #[.pointer (some ⟨3, 96, none⟩), .pointer (some ⟨w.heap.size, 0, none⟩), .int .u64 150] 111)).alloc (.cells #[.pointer (some ⟨3, 96, none⟩), .pointer (some ⟨w.heap.size, 0, none⟩), .int .u64 150] 111)).alloc (.cells #[.int .i64 n] 57) = w4 at *
  have hf4 : w4.frozen? ⟨gp, 0, none⟩ = false := by
    unfold World.frozen?
    simp [hb4]
  obtain ⟨w', hrun, R'⟩ := R4.store (P := Tryd.prog) hp rfl 0 [.int .i64 n] [.int .i64 n] (by simp [VRs, VR]) rfl (by simp [AV.lts, AV.lt]) (by simp)
  have hst : (storeCells ((β p).addr.add 0) [.int .i64 n] 0).run Tryd.prog w4 = .ok () (w4.setCell ⟨gp, 0, none⟩ (.int .i64 n)) := by
    rw [eap, Addr.add_plain]
    simp [storeCells, Addr.add]
    rw [run_store Tryd.prog w4 _ _ _ (by rfl)]
    simp [hc4, hf4]
  rw [hst] at hrun
  cases hrun
  refine ⟨β, .bool true, _, H.set p (numBlk n), rfl, ⟨rfl, rfl⟩, Agree.refl _ _, by simp, rfl, trivial, ?_⟩
  simpa [splice] using R'
end Go.Proofs.YtfalfmfkifemeaaDoor
set_option linter.unusedVariables false
set_option linter.unusedSimpArgs false
namespace Go.Proofs.YtfalfmfkifemeaaDoor
open Go.AL
theorem tf27ErD : type_of% (And.intro @tyb9 (And.intro @tyb37 (And.intro @tyb38 (And.intro @tyb79 (And.intro @tyb80 (@tyb81)))))) := And.intro @tyb9 (And.intro @tyb37 (And.intro @tyb38 (And.intro @tyb79 (And.intro @tyb80 (@tyb81)))))
theorem tf39ErD : type_of% (And.intro @tyb3 (And.intro @tyb20 (And.intro @tyb37 (And.intro @tyb38 (And.intro @tyb57 (@tyb96)))))) := And.intro @tyb3 (And.intro @tyb20 (And.intro @tyb37 (And.intro @tyb38 (And.intro @tyb57 (@tyb96)))))
theorem tf55ErD : type_of% (And.intro @tyb9 (And.intro @tyb37 (And.intro @tyb38 (And.intro @tyb70 (And.intro @tyb79 (And.intro @tyb80 (And.intro @tyb81 (And.intro @tyb102 (@tyb105))))))))) := And.intro @tyb9 (And.intro @tyb37 (And.intro @tyb38 (And.intro @tyb70 (And.intro @tyb79 (And.intro @tyb80 (And.intro @tyb81 (And.intro @tyb102 (@tyb105))))))))
theorem tf38ErD : type_of% (And.intro @tyb9 (And.intro @tyb37 (And.intro @tyb38 (@tyb70)))) := And.intro @tyb9 (And.intro @tyb37 (And.intro @tyb38 (@tyb70)))
abbrev pn55_6ErD : Plan := (.one 0 (.one 1 (.one 2 (.one 3 (.one 5 (.one 6 (.one 7 (.one 8 (.one 4 (.one 9 (.one 10 .nil)))))))))))
set_option maxRecDepth 8000
/-- An error that is nil, or a fault of this program's own that wraps a number. -/
def Err (H : Hp) (v : AV) (op : ByteArray) (n : Int) : Prop := ∃ h, v = .ifc 79 (.ptr h 0) ∧ hget H h = some (fltBlk op n)
theorem Err.ext {H H' : Hp} {v : AV} {op : ByteArray} {n : Int} (h : Err H v op n) (x : Ext H H') : Err H' v op n := by
  obtain ⟨k, e, g⟩ := h
  exact ⟨k, e, hget_ext g x⟩
theorem Err.push {H : Hp} {v : AV} {op : ByteArray} {n : Int} (h : Err H v op n) (b : Blk) : Err (H ++ [b]) v op n := h.ext (Ext.push _ _)
theorem Err.lt {H : Hp} {v : AV} {op : ByteArray} {n : Int} (h : Err H v op n) : v.lt H.length := by
  obtain ⟨k, rfl, g⟩ := h
  simpa [AV.lt] using hget_lt g
theorem Err.ne {H : Hp} {v : AV} {op : ByteArray} {n : Int} (h : Err H v op n) : v ≠ .nilI := by
  obtain ⟨k, rfl, g⟩ := h
  intro e; cases e
theorem eq_ifc_nil {P : Program} {t u : TypeId} {ms : Array (String × TypeId)} {x : AV} (hu : P.underlying t = some (.interface ms)) : aeqIn P Op.maxDepth t (.ifc u x) .nilI = some false := aeqIn_succ (b := false) fun d => by simp [aeqIn, hu]
theorem eq_nilI {P : Program} {t : TypeId} {ms : Array (String × TypeId)} (hu : P.underlying t = some (.interface ms)) : aeqIn P Op.maxDepth t .nilI .nilI = some true := aeqIn_succ (b := true) fun d => by simp [aeqIn, hu]
theorem ta_lacks {P : Program} {t asserted : TypeId} {want : Array (String × TypeId)} {v z : AV} (hu : P.underlying asserted = some (.interface want)) (h : (P.info? t).map (fun i => (lacking want i.methods).isEmpty) = some false) (hz : zeroT P asserted = some z) :
    atypeAssert P (.ifc t v) asserted true = some (.tup [z, .bool false]) := by
  obtain ⟨i, hi, hl⟩ := Option.map_eq_some_iff.1 h
  obtain ⟨m, hm⟩ := missingMethod_some (want := want) (got := i.methods) (fun e => by rw [e] at hl; cases hl)
  simp [atypeAssert, hu, hi, hm, hz]
theorem ta_same {P : Program} {t e : TypeId} {v : AV} (hu : P.underlying t = some (.pointer e)) : atypeAssert P (.ifc t v) t true = some (.tup [v, .bool true]) := by
  simp [atypeAssert, hu]
theorem ta_fault (v : AV) : atypeAssert Tryd.prog (.ifc 79 v) 79 true = some (.tup [v, .bool true]) := ta_same und79
theorem ta_fault_no (v : AV) : atypeAssert Tryd.prog (.ifc 79 v) 102 true = some (.tup [.nilI, .bool false]) := ta_lacks und102 (by kernel_rfl) zero102
theorem ta_num_no (v : AV) : atypeAssert Tryd.prog (.ifc 57 v) 102 true = some (.tup [.nilI, .bool false]) := ta_lacks und102 (by kernel_rfl) zero102
theorem ta_num_not (v : AV) : atypeAssert Tryd.prog (.ifc 57 v) 79 true = some (.tup [.nilP, .bool false]) := by
  simp [atypeAssert, und79, zero79]
theorem wrap_calls (op : ByteArray) (n : Int) (H : Hp) : ACalls Tryd.prog 27 [.str op, .ifc 57 (.int .i64 n)] H fun r H' => r = .ifc 79 (.ptr H.length 0) ∧ H ++ [fltBlk op n] = H' := by
  have hb : abuild Tryd.prog 81 [(0, .str op), (1, .ifc 57 (.int .i64 n))] = some (.agg [.str op, .ifc 57 (.int .i64 n)]) := by
    simp [abuild, zero81, aplace, und81, size9, size38, afill, AV.solid, AV.one, AV.cells, splice]
  refine ACalls_body Tryd.func27 rfl (by kernel_rfl) (by kernel_rfl) ?_
  repeat' first
    | (with_reducible first | refine AWp_seq_k (fun K hK => ?_) | refine AWp_skip ?_ | refine AWp_ret ?_ | refine AWp_regionE ?_ | refine AWp_condI ?_)
    | (simp only [thenA, inBlockA, reduceIte, Nat.reduceEqDiff])
    | ((with_reducible refine hK _ _ ?_); clear hK)
    | (simp only [ACond, RA, EAtS_def, EAtX_def, wantedA, acall, astep, ev, ofValue, ofAtom, Nat.reduceEqDiff, Nat.reduceAdd, Nat.reduceMul, Nat.reduceSub, reduceCtorEq, reduceIte, aoptEv, abin, aint, ashift, aun, astr, aeqGuard, isConstOp, aconvH, aofStr, aconvSame, isU8, abuildSlice, afill, splice, azeros, Nat.reduceLeDiff, Nat.reduceLT, Int.reduceLE, Int.reduceLT, Int.reduceEq, Int.reduceToNat, Int.reducePow, IntKind.bits, Int.reduceNeg, RB, aalloc, Go.PW.dig_length, tf27ErD, eq_ifc_nil und38, hb])
  all_goals
    (
     (refine AEnd_gen (rs := [.tmp 4]) rfl ?_)
     (simp only [AEndR, aresults, Fr.put_some, Fr.put_none, fr0_zero, fr0_succ, fr0_nil, Nat.reduceEqDiff, reduceIte])
     (try simp (disch := (first | omega | (simp only [RO]; done) | assumption | (simp only [RM, Go.PW.dig_length]; done) | (simp only [RL, Go.PW.dig_length]; omega))) only [RD, reduceCtorEq, reduceIte, Go.PW.dig_length, Nat.reduceLeDiff, Nat.reduceAdd, Nat.reduceMul, Int.reduceToNat, tf27ErD]))
theorem code_calls (op : ByteArray) (n : Int) (v : AV) (H : Hp) (hv : Err H v op n) (hn : Noted H) : ACalls Tryd.prog 39 [v] H fun r H' => r = .int .i64 n ∧ H = H' := by
  refine ACalls.drop (R := fun r => r = .int .i64 n) ?_
  obtain ⟨h, rfl, hh⟩ := hv
  have hl := hget_lt hh
  have g1 : hget (H ++ [numBlk 0]) h = some (fltBlk op n) := by rw [hget_old hl]; exact hh
  have g2 : hget (H ++ [numBlk 0]) H.length = some (numBlk 0) := hget_at rfl
  have n1 := hn.push (numBlk 0)
  refine ACalls_body Tryd.func39 rfl (by kernel_rfl) (by kernel_rfl) ?_
  repeat' first
    | (with_reducible first | refine AWp_seq_k (fun K hK => ?_) | refine AWp_block ?_ | refine AWp_ret ?_ | refine AWp_regionE ?_ | refine AWp_condI ?_)
    | ((with_reducible refine ECall_intro (as_calls op n 0 h H.length _ g1 g2 n1) ?_); rintro _ _ ⟨rfl, rfl⟩)
    | (simp only [thenA, inBlockA, reduceIte, Nat.reduceEqDiff])
    | ((with_reducible refine hK _ _ ?_); clear hK)
    | (simp only [ACond, RA, EAtS_def, EAtX_def, wantedA, acall, astep, ev, ofValue, ofAtom, Nat.reduceEqDiff, Nat.reduceAdd, Nat.reduceMul, Nat.reduceSub, reduceCtorEq, reduceIte, aoptEv, abin, aint, ashift, aun, astr, aeqGuard, isConstOp, aconvH, aofStr, aconvSame, isU8, abuildSlice, afill, splice, azeros, Nat.reduceLeDiff, Nat.reduceLT, Int.reduceLE, Int.reduceLT, Int.reduceEq, Int.reduceToNat, Int.reducePow, IntKind.bits, Int.reduceNeg, RB, aalloc, Go.PW.dig_length, tf39ErD, eq_ifc_nil und38])
    | (simp (disch := (first | omega | (simp only [RO]; done) | assumption | (simp only [RM, Go.PW.dig_length]; done) | (simp only [RL, Go.PW.dig_length]; omega))) only [RD, reduceCtorEq, reduceIte, Go.PW.dig_length, Nat.reduceLeDiff, Nat.reduceAdd, Nat.reduceMul, Int.reduceToNat, tf39ErD, eq_ifc_nil und38])
  all_goals
    (
     (refine AEnd_gen (rs := [.tmp 2]) rfl ?_)
     (simp only [AEndR, aresults, Fr.put_some, Fr.put_none, fr0_zero, fr0_succ, fr0_nil, Nat.reduceEqDiff, reduceIte])
     (try simp (disch := (first | omega | (simp only [RO]; done) | assumption | (simp only [RM, Go.PW.dig_length]; done) | (simp only [RL, Go.PW.dig_length]; omega))) only [RD, reduceCtorEq, reduceIte, Go.PW.dig_length, Nat.reduceLeDiff, Nat.reduceAdd, Nat.reduceMul, Int.reduceToNat, tf39ErD]))
  all_goals exact ⟨Ext.push _ _, trivial⟩
abbrev strBlk (op : ByteArray) : Blk := ⟨[.str op], .own, 9⟩
theorem within_fault (op : ByteArray) (n : Int) (h : Nat) (H : Hp) (hh : hget H h = some (fltBlk op n)) : ACalls Tryd.prog 55 [.ifc 79 (.ptr h 0)] H fun r H' => r = .tup [.sl H.length 0 1 1, .ifc 57 (.int .i64 n)] ∧ H ++ [strBlk op] = H' := by
  have hl := hget_lt hh
  have f0 : afieldAddr Tryd.prog 81 (.ptr h 0) 0 = some (.ptr h 0) := by simp [afieldAddr, und81, size9]
  have f1 : afieldAddr Tryd.prog 81 (.ptr h 0) 1 = some (.ptr h 1) := by simp [afieldAddr, und81, size38]
  have l0 : ∀ H', Ext H H' → aload Tryd.prog H' 9 (.ptr h 0) = some (.str op) := fun H' x => by simp [aload, hget_ext hh x, agg9]
  have l1 : ∀ H', Ext H H' → aload Tryd.prog H' 38 (.ptr h 1) = some (.ifc 57 (.int .i64 n)) := fun H' x => by simp [aload, hget_ext hh x, agg38]
  have l0' := l0 _ (Ext.refl _)
  have l1' := l1 _ (Ext.refl _)
  have l1'' := l1 _ (Ext.push H (strBlk op))
  have l0'' := l0 _ (Ext.push H (strBlk op))
  refine ACalls_body Tryd.func55 rfl (by kernel_rfl) (by kernel_rfl) ?_
  repeat' first
    | (with_reducible first | refine AWp_seq_k (fun K hK => ?_) | refine AWp_skip ?_ | refine AWp_ret ?_ | refine AWp_regionE ?_ | refine AWp_drawE (id := 6) [] pn55_6ErD (by kernel_rfl) (by kernel_rfl) ?_ | refine AWp_condI ?_)
    | (simp only [thenA, inBlockA, reduceIte, Nat.reduceEqDiff])
    | ((with_reducible refine hK _ _ ?_); clear hK)
    | (simp only [ACond, RA, EAtS_def, EAtX_def, wantedA, acall, astep, ev, ofValue, ofAtom, Nat.reduceEqDiff, Nat.reduceAdd, Nat.reduceMul, Nat.reduceSub, reduceCtorEq, reduceIte, aoptEv, abin, aint, ashift, aun, astr, aeqGuard, isConstOp, aconvH, aofStr, aconvSame, isU8, abuildSlice, afill, splice, azeros, Nat.reduceLeDiff, Nat.reduceLT, Int.reduceLE, Int.reduceLT, Int.reduceEq, Int.reduceToNat, Int.reducePow, IntKind.bits, Int.reduceNeg, RB, aalloc, Go.PW.dig_length, tf55ErD, ta_fault, ta_fault_no, eqPn79, f0, f1, l0', l1', l0'', l1''])
  all_goals
    (
     (refine AEnd_gen (rs := [.tmp 2, .tmp 3]) rfl ?_)
     (simp only [AEndR, aresults, Fr.put_some, Fr.put_none, fr0_zero, fr0_succ, fr0_nil, Nat.reduceEqDiff, reduceIte])
     (try simp (disch := (first | omega | (simp only [RO]; done) | assumption | (simp only [RM, Go.PW.dig_length]; done) | (simp only [RL, Go.PW.dig_length]; omega))) only [RD, reduceCtorEq, reduceIte, Go.PW.dig_length, Nat.reduceLeDiff, Nat.reduceAdd, Nat.reduceMul, Int.reduceToNat, tf55ErD]))
theorem within_num (n : Int) (H : Hp) : ACalls Tryd.prog 55 [.ifc 57 (.int .i64 n)] H fun r H' => r = .tup [.nilS, .nilI] ∧ H = H' := by
  refine ACalls_body Tryd.func55 rfl (by kernel_rfl) (by kernel_rfl) ?_
  repeat' first
    | (with_reducible first | refine AWp_seq_k (fun K hK => ?_) | refine AWp_skip ?_ | refine AWp_ret ?_ | refine AWp_regionE ?_ | refine AWp_condI ?_)
    | (simp only [thenA, inBlockA, reduceIte, Nat.reduceEqDiff])
    | ((with_reducible refine hK _ _ ?_); clear hK)
    | (simp only [ACond, RA, EAtS_def, EAtX_def, wantedA, acall, astep, ev, ofValue, ofAtom, Nat.reduceEqDiff, Nat.reduceAdd, Nat.reduceMul, Nat.reduceSub, reduceCtorEq, reduceIte, aoptEv, abin, aint, ashift, aun, astr, aeqGuard, isConstOp, aconvH, aofStr, aconvSame, isU8, abuildSlice, afill, splice, azeros, Nat.reduceLeDiff, Nat.reduceLT, Int.reduceLE, Int.reduceLT, Int.reduceEq, Int.reduceToNat, Int.reducePow, IntKind.bits, Int.reduceNeg, RB, aalloc, Go.PW.dig_length, tf55ErD, ta_num_no, ta_num_not])
  all_goals
    (
     (refine AEnd_gen (rs := [.tmp 2, .tmp 3]) rfl ?_)
     (simp only [AEndR, aresults, Fr.put_some, Fr.put_none, fr0_zero, fr0_succ, fr0_nil, Nat.reduceEqDiff, reduceIte])
     (try simp (disch := (first | omega | (simp only [RO]; done) | assumption | (simp only [RM, Go.PW.dig_length]; done) | (simp only [RL, Go.PW.dig_length]; omega))) only [RD, reduceCtorEq, reduceIte, Go.PW.dig_length, Nat.reduceLeDiff, Nat.reduceAdd, Nat.reduceMul, Int.reduceToNat, tf55ErD]))
/-- What an error was done at. -/
theorem ops_calls (op : ByteArray) (n : Int) (v : AV) (H : Hp) (hv : Err H v op n) : ACalls Tryd.prog 38 [v] H fun r H' => r = .sg (H.length + 1) 0 1 1 ∧ H ++ [strBlk op] ++ [strBlk op] = H' := by
  obtain ⟨h, rfl, hh⟩ := hv
  have a1 : aappend Tryd.prog (H ++ [strBlk op]) 70 .nilS (.sl H.length 0 1 1) = some (.sg (H.length + 1) 0 1 1, H ++ [strBlk op] ++ [strBlk op]) := by
    have := append_nil (P := Tryd.prog) (Rd.lit H (n := 1) (z := 1) (cs := [.str op]) (k := .own) (e := 9) (by decide) rfl) und70 size9 zero9 rfl (by decide) bytes9 rfl (by decide) (by decide) (by decide)
    rwa [len_push] at this
  have a2 : ∀ H', aappend Tryd.prog H' 70 (.sg (H.length + 1) 0 1 1) .nilS = some (.sg (H.length + 1) 0 1 1, H') := fun H' =>
    append_none (P := Tryd.prog) (Rd.nil H' 1) und70 size9 zero9 rfl (by decide) bytes9 rfl (.inr (.inr ⟨_, _, _, rfl⟩))
  refine ACalls_body Tryd.func38 rfl (by kernel_rfl) (by kernel_rfl) ?_
  repeat' first
    | (with_reducible first | refine AWp_seq_k (fun K hK => ?_) | refine AWp_block ?_ | refine AWp_regionE ?_)
    | (simp only [thenA, inBlockA, reduceIte, Nat.reduceEqDiff])
    | ((with_reducible refine hK _ _ ?_); clear hK)
    | (simp only [ACond, RA, EAtS_def, EAtX_def, wantedA, acall, astep, ev, ofValue, ofAtom, Nat.reduceEqDiff, Nat.reduceAdd, Nat.reduceMul, Nat.reduceSub, reduceCtorEq, reduceIte, aoptEv, abin, aint, ashift, aun, astr, aeqGuard, isConstOp, aconvH, aofStr, aconvSame, isU8, abuildSlice, afill, splice, azeros, Nat.reduceLeDiff, Nat.reduceLT, Int.reduceLE, Int.reduceLT, Int.reduceEq, Int.reduceToNat, Int.reducePow, IntKind.bits, Int.reduceNeg, RB, aalloc, Go.PW.dig_length, tf38ErD])
  refine AWp_loop (fun m fr' H' => (m = 2 ∧ fr' 0 = .ifc 79 (.ptr h 0) ∧ fr' 3 = .nilS ∧ H = H') ∨ (m = 1 ∧ fr' 0 = .ifc 57 (.int .i64 n) ∧ fr' 3 = .sg (H.length + 1) 0 1 1 ∧ H ++ [strBlk op] ++ [strBlk op] = H') ∨ (m = 0 ∧ fr' 0 = .nilI ∧ fr' 3 = .sg (H.length + 1) 0 1 1 ∧ H ++ [strBlk op] ++ [strBlk op] = H')) (m := 2) (.inl ⟨rfl, rfl, rfl, rfl⟩) ?_
  rintro m fr' H' (⟨rfl, k0, k3, rfl⟩ | ⟨rfl, k0, k3, rfl⟩ | ⟨rfl, k0, k3, rfl⟩)
  · skip
    repeat' first
      | (with_reducible first | refine AWp_seq_k (fun K hK => ?_) | refine AWp_block ?_ | refine AWp_skip ?_ | refine AWp_regionE ?_ | refine AWp_condI ?_)
      | ((with_reducible refine ECall_intro (within_fault op n h _ hh) ?_); rintro _ _ ⟨rfl, rfl⟩)
      | (simp only [thenA, inBlockA, reduceIte, Nat.reduceEqDiff])
      | ((with_reducible refine hK _ _ ?_); clear hK)
      | (simp only [ACond, RA, EAtS_def, EAtX_def, wantedA, acall, astep, ev, ofValue, ofAtom, Nat.reduceEqDiff, Nat.reduceAdd, Nat.reduceMul, Nat.reduceSub, reduceCtorEq, reduceIte, aoptEv, abin, aint, ashift, aun, astr, aeqGuard, isConstOp, aconvH, aofStr, aconvSame, isU8, abuildSlice, afill, splice, azeros, Nat.reduceLeDiff, Nat.reduceLT, Int.reduceLE, Int.reduceLT, Int.reduceEq, Int.reduceToNat, Int.reducePow, IntKind.bits, Int.reduceNeg, RB, aalloc, Go.PW.dig_length, tf38ErD, k0, k3, eq_ifc_nil und38, eq_nilI und38, a1])
    exact ⟨1, by omega, rfl⟩
  · skip
    repeat' first
      | (with_reducible first | refine AWp_seq_k (fun K hK => ?_) | refine AWp_block ?_ | refine AWp_skip ?_ | refine AWp_regionE ?_ | refine AWp_condI ?_)
      | ((with_reducible refine ECall_intro (within_num n _) ?_); rintro _ _ ⟨rfl, rfl⟩)
      | (simp only [thenA, inBlockA, reduceIte, Nat.reduceEqDiff])
      | ((with_reducible refine hK _ _ ?_); clear hK)
      | (simp only [ACond, RA, EAtS_def, EAtX_def, wantedA, acall, astep, ev, ofValue, ofAtom, Nat.reduceEqDiff, Nat.reduceAdd, Nat.reduceMul, Nat.reduceSub, reduceCtorEq, reduceIte, aoptEv, abin, aint, ashift, aun, astr, aeqGuard, isConstOp, aconvH, aofStr, aconvSame, isU8, abuildSlice, afill, splice, azeros, Nat.reduceLeDiff, Nat.reduceLT, Int.reduceLE, Int.reduceLT, Int.reduceEq, Int.reduceToNat, Int.reducePow, IntKind.bits, Int.reduceNeg, RB, aalloc, Go.PW.dig_length, tf38ErD, k0, k3, eq_ifc_nil und38, eq_nilI und38, a2])
    exact ⟨0, by omega, rfl⟩
  · skip
    repeat' first
      | (with_reducible first | refine AWp_seq_k (fun K hK => ?_) | refine AWp_exit ?_ | refine AWp_ret ?_ | refine AWp_regionE ?_ | refine AWp_condI ?_)
      | (simp only [thenA, inBlockA, reduceIte, Nat.reduceEqDiff])
      | ((with_reducible refine hK _ _ ?_); clear hK)
      | (clear hK; (with_reducible refine hK _ _ ?_); clear hK)
      | (simp only [ACond, RA, EAtS_def, EAtX_def, wantedA, acall, astep, ev, ofValue, ofAtom, Nat.reduceEqDiff, Nat.reduceAdd, Nat.reduceMul, Nat.reduceSub, reduceCtorEq, reduceIte, aoptEv, abin, aint, ashift, aun, astr, aeqGuard, isConstOp, aconvH, aofStr, aconvSame, isU8, abuildSlice, afill, splice, azeros, Nat.reduceLeDiff, Nat.reduceLT, Int.reduceLE, Int.reduceLT, Int.reduceEq, Int.reduceToNat, Int.reducePow, IntKind.bits, Int.reduceNeg, RB, aalloc, Go.PW.dig_length, tf38ErD, k0, k3, eq_ifc_nil und38, eq_nilI und38, Bool.or_true])
    (
     (refine AEnd_gen (rs := [.tmp 2]) rfl ?_)
     (simp only [AEndR, aresults, Fr.put_some, Fr.put_none, fr0_zero, fr0_succ, fr0_nil, Nat.reduceEqDiff, reduceIte, k3])
     (try simp (disch := (first | omega | (simp only [RO]; done) | assumption | (simp only [RM, Go.PW.dig_length]; done) | (simp only [RL, Go.PW.dig_length]; omega))) only [RD, reduceCtorEq, reduceIte, Go.PW.dig_length, Nat.reduceLeDiff, Nat.reduceAdd, Nat.reduceMul, Int.reduceToNat, tf38ErD, k3]))
end Go.Proofs.YtfalfmfkifemeaaDoor

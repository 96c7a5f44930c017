/- A part of the proofs of this seat: CrcE. No condition. -/
import Derived.Test.YtdlplfhkmhkngaaCrcC
import Derived.Test.YtdlplfhkmhkngaaALq
set_option linter.unusedVariables false
set_option linter.unusedSimpArgs false
namespace Go.Proofs.Ytdlplfhkmhkngaa
open Go.AL

theorem crcSees_calls (v : AV) (xs : List Int) (c d : Int) (H : Hp) (hv : Ints H .u8 v xs) (hb : Bytes xs) (hx' : xs.length ≤ 9223372036854775807)
    (hc' : 0 ≤ c ∧ c < 256) (hd : 0 ≤ d ∧ d < 256) :
    ACalls Try.prog 4 [v, .int .u8 c, .int .u8 d] H fun r H' => r = .bool true := by
  refine ACalls_body Try.func4 rfl (by kernel_rfl) (by kernel_rfl) ?_
  repeat' first
    | (with_reducible refine AWp_seq_k (fun K hK => ?_))
    | (with_reducible refine AWp_block ?_)
    | (with_reducible refine AWp_skip ?_)
    | (with_reducible refine AWp_exit ?_)
    | (with_reducible refine AWp_ret ?_)
    | (with_reducible refine AWp_regionE ?_)
    | (with_reducible refine AWp_condI ?_)
    | ((with_reducible refine ECall_intro (known_calls _) ?_); rintro _ _ ⟨rfl, rfl⟩)
    | (with_reducible refine EGuard_split (fun hc => ?_) (fun hc => ?_) <;> (try simp only [Bool.not_eq_true', Bool.not_eq_false', decide_eq_true_eq, decide_eq_false_iff_not, beq_iff_eq, beq_eq_false_iff_ne, ne_eq, Decidable.not_not, Bool.not_eq_eq_eq_not, Bool.not_true, Bool.not_false, not_true_eq_false, not_false_eq_true] at hc) <;> (try (exfalso; omega)))
    | fail
    | (with_reducible refine AIte (fun hc => ?_) (fun hc => ?_) <;> (try simp only [Bool.not_eq_true', Bool.not_eq_false', decide_eq_true_eq, decide_eq_false_iff_not, beq_iff_eq, beq_eq_false_iff_ne, ne_eq, Decidable.not_not, Bool.not_eq_eq_eq_not, Bool.not_true, Bool.not_false, not_true_eq_false, not_false_eq_true] at hc) <;> (try (exfalso; omega)))
    | (simp only [thenA, inBlockA, reduceIte, Nat.reduceEqDiff])
    | ((with_reducible refine hK _ _ ?_); clear hK)
    | (clear hK; (with_reducible refine hK _ _ ?_); clear hK)
    | (clear hK; clear hK; (with_reducible refine hK _ _ ?_); clear hK)
    | (clear hK; clear hK; clear hK; (with_reducible refine hK _ _ ?_); clear hK)
    | (clear hK; clear hK; clear hK; clear hK; (with_reducible refine hK _ _ ?_); clear hK)
    | (clear hK; clear hK; clear hK; clear hK; clear hK; (with_reducible refine hK _ _ ?_); clear hK)
    | (simp only [ACond, Run_nil, Run_cons, Run_pnil, Run_one, Run_alt, EAt_def, EStep_def, E0_def, EGuard_true, EGuard_false, beq_self_eq_true, beq_true, beq_false, bne_self_eq_false, wantedA, acall, astep, ev, ofValue, ofAtom, Fr.put_some, Fr.put_none, fr0_zero, fr0_succ, fr0_nil, Nat.reduceEqDiff, Nat.reduceAdd, Nat.reduceMul, Nat.reduceSub, reduceCtorEq, if_true, if_false, reduceIte, Option.map_some, Option.map_none, Option.bind_some, Option.bind_none, aoptEv, abin, aint, ashift, aun, astr, aeqGuard, isConstOp, aconv, or_self, or_true, true_or, or_false, false_or, and_self, and_true, true_and, and_false, false_and, not_true_eq_false, not_false_eq_true, Bool.false_eq_true, Bool.true_eq_false, decide_eq_true_eq, decide_eq_false_iff_not, beq_iff_eq, bne_iff_ne, Bool.not_eq_true', Bool.not_true, Bool.not_false, ne_eq, aconvH, aofStr, aconvSame, isU8, abuildSlice, afill, splice, azeros, AV.solid_int, AV.one_int, AV.cells_int, AV.solid_bool, AV.one_bool, AV.cells_bool, AV.solid_str, AV.one_str, AV.cells_str, AV.solid_nilI, AV.one_nilI, AV.cells_nilI, AV.solid_ifc, AV.one_ifc, AV.cells_ifc, AV.solid_nilP, AV.one_nilP, AV.cells_nilP, AV.solid_ptr, AV.one_ptr, AV.cells_ptr, AV.solid_nilS, AV.one_nilS, AV.cells_nilS, AV.solid_sl, AV.one_sl, AV.cells_sl, AV.solid_sg, AV.one_sg, AV.cells_sg, AV.solid_fn, AV.one_fn, AV.cells_fn, AV.cells_agg, List.replicate_succ, List.replicate_zero, List.flatten_cons, List.flatten_nil, List.append_nil, List.nil_append, List.cons_append, List.take_succ_cons, List.take_zero, List.drop_succ_cons, List.drop_zero, List.length_cons, List.length_nil, List.all_cons, List.all_nil, Bool.and_true, Bool.true_and, Bool.and_self, Nat.reduceLeDiff, Nat.reduceLT, Int.reduceLE, Int.reduceLT, Int.reduceEq, Int.reduceToNat, Int.reducePow, IntKind.bits, Nat.min_def, Int.reduceNeg, Nat.zero_add, Nat.reduceEqDiff, hget_push, set_push_new, List.map_cons, List.map_nil, List.toList_toArray, List.getElem?_toArray, List.getElem?_cons_zero, List.getElem?_cons_succ, und3, agg3, size3, bytes3, zero3, und4, agg4, size4, bytes4, zero4, und5, agg5, size5, bytes5, zero5, und22, agg22, size22, bytes22, zero22, und23, agg23, size23, bytes23, zero23, und32, agg32, size32, bytes32, zero32, hv.rd.len und22])
    | (simp (disch := omega) only [optIf, optIfN, selP, selN, avP, avN])
  all_goals first
    | skip
      (
       first | refine AEnd_ret1 rfl ?_ | refine AEnd_ret2 rfl ?_ | refine AEnd_ret3 rfl ?_ | refine AEnd_ret0 rfl ?_
       simp only [Fr.put_some, Fr.put_none, fr0_zero, fr0_succ, fr0_nil, Nat.reduceEqDiff, reduceIte])
      done
    | skip
  have hn : 0 < xs.length ∧ xs.length ≤ 200 := by omega
  have hd0 : ¬ d = 0 := by omega
  have e2 : IntKind.i64.wrap c = c := wrap_i64_id (by omega) (by omega)
  obtain ⟨i, hq, hi⟩ : ∃ i : Nat, c.tmod (xs.length : Int) = i ∧ i < xs.length := by
    rw [Int.tmod_eq_emod_of_nonneg hc'.1]
    exact ⟨(c % (xs.length : Int)).toNat, by have := Int.emod_nonneg c (b := (xs.length : Int)) (by omega); omega, by have := Int.emod_lt_of_pos c (b := (xs.length : Int)) (by omega); omega⟩
  have ga := append_nil hv.rd und22 size5 zero5 rfl (by decide) bytes5 (ints_one _ _) hn.1 (by omega) (by omega)
  have hY : Ints (H ++ [⟨xs.map (AV.int .u8), .own, 5⟩]) .u8 (.sg H.length 0 xs.length 1) xs := Rd.grown H (by decide) (by simp)
  have hat : aindexAddr Try.prog 22 (.sg H.length 0 xs.length 1) (.int .i64 (i : Int)) = some (.ptr H.length i) := by
    have := hY.rd.at_ (k := .i64) (j := (i : Int)) und22 size5 (by omega) (by omega)
    simpa [AV.hd, AV.of] using this
  have hld : aload Try.prog (H ++ [⟨xs.map (AV.int .u8), .own, 5⟩]) 5 (.ptr H.length i) = some (.int .u8 (xs.getD i 0)) := by
    have := hY.load (P := Try.prog) agg5 hi
    simpa [AV.hd, AV.of] using this
  have hxi : 0 ≤ xs.getD i 0 ∧ xs.getD i 0 < 256 := hb _ (by simp [List.getD, hi])
  have hx8 := xor8_ne hxi.1 hxi.2 hd.1 hd.2 hd0
  have hst : astore Try.prog (H ++ [⟨xs.map (AV.int .u8), .own, 5⟩]) 5 (.ptr H.length i) (.int .u8 (bits .xor .u8 (xs.getD i 0) d)) = some (H ++ [⟨(xs.set i (bits .xor .u8 (xs.getD i 0) d)).map (AV.int .u8), .own, 5⟩]) := by
    rw [← splice_set (AV.int .u8) xs _ hi]
    simp only [astore, size5, hget_push, if_true, AV.solid_int, AV.cells_int, set_push_new, List.length_map, List.length_singleton]
    rw [if_pos ⟨trivial, trivial, trivial, by omega⟩]
  have hZ : Ints (H ++ [⟨(xs.set i (bits .xor .u8 (xs.getD i 0) d)).map (AV.int .u8), .own, 5⟩]) .u8 (.sg H.length 0 xs.length 1) (xs.set i (bits .xor .u8 (xs.getD i 0) d)) := by
    have := Rd.grown H (z := 1) (n := xs.length) (cs := (xs.set i (bits .xor .u8 (xs.getD i 0) d)).map (AV.int .u8)) (k := .own) (e := 5) (by decide) (by simp)
    unfold Ints
    rw [List.length_set]
    exact this
  have hlx : xs.length < 1000000000000 := by omega
  have hlz : (xs.set i (bits .xor .u8 (xs.getD i 0) d)).length < 1000000000000 := by rw [List.length_set]; exact hlx
  have hlen : abuiltin Try.prog .len #[22] [.sg H.length 0 xs.length 1] = some (.int .i64 (xs.length : Int)) := hY.rd.len und22
  have hfin : crcRow 65535 xs ≠ crcRow 65535 (xs.set i (bits .xor .u8 (xs.getD i 0) d)) := crcRow_sees hb (by omega) (by omega) hi hx8.1 hx8.2.1 hx8.2.2
  repeat' first
    | (with_reducible refine AWp_seq_k (fun K hK => ?_))
    | (with_reducible refine AWp_block ?_)
    | (with_reducible refine AWp_skip ?_)
    | (with_reducible refine AWp_exit ?_)
    | (with_reducible refine AWp_ret ?_)
    | (with_reducible refine AWp_regionE ?_)
    | (with_reducible refine AWp_condI ?_)
    | ((with_reducible refine ECall_intro (crc_1 (hv.ext (by repeat first | exact Ext.refl _ | refine Ext.pushed ?_ _)) hlx rfl) ?_); rintro _ _ ⟨rfl, rfl⟩)
    | ((with_reducible refine ECall_intro (crc_1 (hZ.ext (by repeat first | exact Ext.refl _ | refine Ext.pushed ?_ _)) hlz rfl) ?_); rintro _ _ ⟨rfl, rfl⟩)
    | (with_reducible refine EGuard_split (fun hc => ?_) (fun hc => ?_) <;> (try simp only [Bool.not_eq_true', Bool.not_eq_false', decide_eq_true_eq, decide_eq_false_iff_not, beq_iff_eq, beq_eq_false_iff_ne, ne_eq, Decidable.not_not, Bool.not_eq_eq_eq_not, Bool.not_true, Bool.not_false, not_true_eq_false, not_false_eq_true] at hc) <;> (try (exfalso; omega)))
    | fail
    | (with_reducible refine AIte (fun hc => ?_) (fun hc => ?_) <;> (try simp only [Bool.not_eq_true', Bool.not_eq_false', decide_eq_true_eq, decide_eq_false_iff_not, beq_iff_eq, beq_eq_false_iff_ne, ne_eq, Decidable.not_not, Bool.not_eq_eq_eq_not, Bool.not_true, Bool.not_false, not_true_eq_false, not_false_eq_true] at hc) <;> (try (exfalso; omega)))
    | (simp only [thenA, inBlockA, reduceIte, Nat.reduceEqDiff])
    | ((with_reducible refine hK _ _ ?_); clear hK)
    | (clear hK; (with_reducible refine hK _ _ ?_); clear hK)
    | (clear hK; clear hK; (with_reducible refine hK _ _ ?_); clear hK)
    | (clear hK; clear hK; clear hK; (with_reducible refine hK _ _ ?_); clear hK)
    | (clear hK; clear hK; clear hK; clear hK; (with_reducible refine hK _ _ ?_); clear hK)
    | (clear hK; clear hK; clear hK; clear hK; clear hK; (with_reducible refine hK _ _ ?_); clear hK)
    | (simp only [ACond, Run_nil, Run_cons, Run_pnil, Run_one, Run_alt, EAt_def, EStep_def, E0_def, EGuard_true, EGuard_false, beq_self_eq_true, beq_true, beq_false, bne_self_eq_false, wantedA, acall, astep, ev, ofValue, ofAtom, Fr.put_some, Fr.put_none, fr0_zero, fr0_succ, fr0_nil, Nat.reduceEqDiff, Nat.reduceAdd, Nat.reduceMul, Nat.reduceSub, reduceCtorEq, if_true, if_false, reduceIte, Option.map_some, Option.map_none, Option.bind_some, Option.bind_none, aoptEv, abin, aint, ashift, aun, astr, aeqGuard, isConstOp, aconv, or_self, or_true, true_or, or_false, false_or, and_self, and_true, true_and, and_false, false_and, not_true_eq_false, not_false_eq_true, Bool.false_eq_true, Bool.true_eq_false, decide_eq_true_eq, decide_eq_false_iff_not, beq_iff_eq, bne_iff_ne, Bool.not_eq_true', Bool.not_true, Bool.not_false, ne_eq, aconvH, aofStr, aconvSame, isU8, abuildSlice, afill, splice, azeros, AV.solid_int, AV.one_int, AV.cells_int, AV.solid_bool, AV.one_bool, AV.cells_bool, AV.solid_str, AV.one_str, AV.cells_str, AV.solid_nilI, AV.one_nilI, AV.cells_nilI, AV.solid_ifc, AV.one_ifc, AV.cells_ifc, AV.solid_nilP, AV.one_nilP, AV.cells_nilP, AV.solid_ptr, AV.one_ptr, AV.cells_ptr, AV.solid_nilS, AV.one_nilS, AV.cells_nilS, AV.solid_sl, AV.one_sl, AV.cells_sl, AV.solid_sg, AV.one_sg, AV.cells_sg, AV.solid_fn, AV.one_fn, AV.cells_fn, AV.cells_agg, List.replicate_succ, List.replicate_zero, List.flatten_cons, List.flatten_nil, List.append_nil, List.nil_append, List.cons_append, List.take_succ_cons, List.take_zero, List.drop_succ_cons, List.drop_zero, List.length_cons, List.length_nil, List.all_cons, List.all_nil, Bool.and_true, Bool.true_and, Bool.and_self, Nat.reduceLeDiff, Nat.reduceLT, Int.reduceLE, Int.reduceLT, Int.reduceEq, Int.reduceToNat, Int.reducePow, IntKind.bits, Nat.min_def, Int.reduceNeg, Nat.zero_add, Nat.reduceEqDiff, hget_push, set_push_new, List.map_cons, List.map_nil, List.toList_toArray, List.getElem?_toArray, List.getElem?_cons_zero, List.getElem?_cons_succ, und3, agg3, size3, bytes3, zero3, und4, agg4, size4, bytes4, zero4, und5, agg5, size5, bytes5, zero5, und22, agg22, size22, bytes22, zero22, und23, agg23, size23, bytes23, zero23, und32, agg32, size32, bytes32, zero32, e2, hq, ga, hat, hld, hst, hlen, hv.rd.solid, hv.rd.cells, hv.rd.one, eq_self, decide_true])
    | (simp (disch := omega) only [optIf, optIfN, selP, selN, avP, avN])
  (
   first | refine AEnd_ret1 rfl ?_ | refine AEnd_ret2 rfl ?_ | refine AEnd_ret3 rfl ?_ | refine AEnd_ret0 rfl ?_
   simp only [Fr.put_some, Fr.put_none, fr0_zero, fr0_succ, fr0_nil, Nat.reduceEqDiff, reduceIte])
  rw [bne_iff_ne.2 hfin]
end Go.Proofs.Ytdlplfhkmhkngaa

/- A part of the proofs of this seat: CrcC. No condition. -/
import Derived.Test.YtdlplfhkmhkngaaCrcP
import Derived.Test.YtdlplfhkmhkngaaALq
set_option linter.unusedVariables false
set_option linter.unusedSimpArgs false
namespace Go.Proofs.Ytdlplfhkmhkngaa
open Go.AL

theorem ref_more_calls (s b : Int) (H : Hp) (h0 : 0 ≤ s) (h1 : s < 65536) (hb : 0 ≤ b) (hb' : b < 256) : ACalls Try.prog 14 [.int .u16 s, .int .u8 b] H fun r H' => r = .int .u16 (crcMore s b) ∧ H = H' := by
  have hin := crcIn_range h0 h1 hb hb'
  refine ACalls_body Try.func14 rfl (by kernel_rfl) (by kernel_rfl) ?_
  repeat' first
    | (with_reducible refine AWp_seq_k (fun K hK => ?_))
    | (with_reducible refine AWp_block ?_)
    | (with_reducible refine AWp_skip ?_)
    | (with_reducible refine AWp_exit ?_)
    | (with_reducible refine AWp_ret ?_)
    | (with_reducible refine AWp_regionE ?_)
    | (with_reducible refine AWp_condI ?_)
    | (with_reducible refine EGuard_split (fun hc => ?_) (fun hc => ?_) <;> (try simp only [Bool.not_eq_true', Bool.not_eq_false', decide_eq_true_eq, decide_eq_false_iff_not, beq_iff_eq, beq_eq_false_iff_ne, bne_iff_ne, bne_eq_false_iff_eq, Bool.false_eq_true, ne_eq, Decidable.not_not, Bool.not_eq_eq_eq_not, Bool.not_true, Bool.not_false, not_true_eq_false, not_false_eq_true] at hc) <;> (try (exfalso; first | omega | contradiction)))
    | fail
    | (with_reducible refine AIte (fun hc => ?_) (fun hc => ?_) <;> (try simp only [Bool.not_eq_true', Bool.not_eq_false', decide_eq_true_eq, decide_eq_false_iff_not, beq_iff_eq, beq_eq_false_iff_ne, bne_iff_ne, bne_eq_false_iff_eq, Bool.false_eq_true, ne_eq, Decidable.not_not, Bool.not_eq_eq_eq_not, Bool.not_true, Bool.not_false, not_true_eq_false, not_false_eq_true] at hc) <;> (try (exfalso; first | omega | contradiction)))
    | (simp only [thenA, inBlockA, reduceIte, Nat.reduceEqDiff])
    | ((with_reducible refine hK _ _ ?_); clear hK)
    | (clear hK; (with_reducible refine hK _ _ ?_); clear hK)
    | (clear hK; clear hK; (with_reducible refine hK _ _ ?_); clear hK)
    | (clear hK; clear hK; clear hK; (with_reducible refine hK _ _ ?_); clear hK)
    | (clear hK; clear hK; clear hK; clear hK; (with_reducible refine hK _ _ ?_); clear hK)
    | (clear hK; clear hK; clear hK; clear hK; clear hK; (with_reducible refine hK _ _ ?_); clear hK)
    | (simp only [ACond, Run_nil, Run_cons, Run_pnil, Run_one, Run_alt, EAt_def, EStep_def, E0_def, EGuard_true, EGuard_false, beq_self_eq_true, beq_true, beq_false, bne_self_eq_false, wantedA, acall, astep, ev, ofValue, ofAtom, Fr.put_some, Fr.put_none, fr0_zero, fr0_succ, fr0_nil, Nat.reduceEqDiff, Nat.reduceAdd, Nat.reduceMul, Nat.reduceSub, reduceCtorEq, if_true, if_false, reduceIte, Option.map_some, Option.map_none, Option.bind_some, Option.bind_none, aoptEv, abin, aint, ashift, aun, astr, aeqGuard, isConstOp, or_self, or_true, true_or, or_false, false_or, and_self, and_true, true_and, and_false, false_and, not_true_eq_false, not_false_eq_true, Bool.false_eq_true, Bool.true_eq_false, decide_eq_true_eq, decide_eq_false_iff_not, beq_iff_eq, bne_iff_ne, Bool.not_eq_true', Bool.not_true, Bool.not_false, ne_eq, aconvH, aofStr, aconvSame, isU8, abuildSlice, afill, splice, azeros, AV.solid_int, AV.one_int, AV.cells_int, AV.solid_bool, AV.one_bool, AV.cells_bool, AV.solid_str, AV.one_str, AV.cells_str, AV.solid_nilI, AV.one_nilI, AV.cells_nilI, AV.solid_ifc, AV.one_ifc, AV.cells_ifc, AV.solid_nilP, AV.one_nilP, AV.cells_nilP, AV.solid_ptr, AV.one_ptr, AV.cells_ptr, AV.solid_nilS, AV.one_nilS, AV.cells_nilS, AV.solid_sl, AV.one_sl, AV.cells_sl, AV.solid_sg, AV.one_sg, AV.cells_sg, AV.solid_fn, AV.one_fn, AV.cells_fn, AV.cells_agg, List.replicate_succ, List.replicate_zero, List.flatten_cons, List.flatten_nil, List.append_nil, List.nil_append, List.cons_append, List.take_succ_cons, List.take_zero, List.drop_succ_cons, List.drop_zero, List.length_cons, List.length_nil, List.all_cons, List.all_nil, Bool.and_true, Bool.true_and, Bool.and_self, Nat.reduceLeDiff, Nat.reduceLT, Int.reduceLE, Int.reduceLT, Int.reduceEq, Int.reduceToNat, Int.cast_ofNat_Int, Int.reducePow, IntKind.bits, Nat.min_def, Int.reduceNeg, Nat.zero_add, Nat.reduceEqDiff, hget_push, set_push_new, List.map_cons, List.map_nil, List.toList_toArray, List.getElem?_toArray, List.getElem?_cons_zero, List.getElem?_cons_succ, und3, agg3, size3, bytes3, zero3, und5, agg5, size5, bytes5, zero5, und23, agg23, size23, bytes23, zero23, cv5_23])
    | (simp (disch := omega) only [optIf, optIfN, selP, selN, avP, avN])
  refine AWp_loop (fun m fr' H' => ∃ x : Int, fr' 0 = .int .u16 x ∧ fr' 5 = .int .i64 ((8 - m : Nat) : Int) ∧ m ≤ 8 ∧ 0 ≤ x ∧ x < 65536 ∧ crcTn m x = crcMore s b ∧ H = H') (m := 8) ⟨_, rfl, rfl, by omega, hin.1, hin.2, rfl, rfl⟩ ?_
  rintro m fr' H' ⟨x, k0, k5, hm, hx0, hx1, hx, rfl⟩
  repeat' first
    | (with_reducible refine AWp_seq_k (fun K hK => ?_))
    | (with_reducible refine AWp_block ?_)
    | (with_reducible refine AWp_skip ?_)
    | (with_reducible refine AWp_exit ?_)
    | (with_reducible refine AWp_ret ?_)
    | (with_reducible refine AWp_regionE ?_)
    | (with_reducible refine AWp_condI ?_)
    | (with_reducible refine EGuard_split (fun hc => ?_) (fun hc => ?_) <;> (try simp only [Bool.not_eq_true', Bool.not_eq_false', decide_eq_true_eq, decide_eq_false_iff_not, beq_iff_eq, beq_eq_false_iff_ne, bne_iff_ne, bne_eq_false_iff_eq, Bool.false_eq_true, ne_eq, Decidable.not_not, Bool.not_eq_eq_eq_not, Bool.not_true, Bool.not_false, not_true_eq_false, not_false_eq_true] at hc) <;> (try (exfalso; first | omega | contradiction)))
    | fail
    | (with_reducible refine AIte (fun hc => ?_) (fun hc => ?_) <;> (try simp only [Bool.not_eq_true', Bool.not_eq_false', decide_eq_true_eq, decide_eq_false_iff_not, beq_iff_eq, beq_eq_false_iff_ne, bne_iff_ne, bne_eq_false_iff_eq, Bool.false_eq_true, ne_eq, Decidable.not_not, Bool.not_eq_eq_eq_not, Bool.not_true, Bool.not_false, not_true_eq_false, not_false_eq_true] at hc) <;> (try (exfalso; first | omega | contradiction)))
    | (simp only [thenA, inBlockA, reduceIte, Nat.reduceEqDiff])
    | ((with_reducible refine hK _ _ ?_); clear hK)
    | (clear hK; (with_reducible refine hK _ _ ?_); clear hK)
    | (clear hK; clear hK; (with_reducible refine hK _ _ ?_); clear hK)
    | (clear hK; clear hK; clear hK; (with_reducible refine hK _ _ ?_); clear hK)
    | (clear hK; clear hK; clear hK; clear hK; (with_reducible refine hK _ _ ?_); clear hK)
    | (clear hK; clear hK; clear hK; clear hK; clear hK; (with_reducible refine hK _ _ ?_); clear hK)
    | (simp only [ACond, Run_nil, Run_cons, Run_pnil, Run_one, Run_alt, EAt_def, EStep_def, E0_def, EGuard_true, EGuard_false, beq_self_eq_true, beq_true, beq_false, bne_self_eq_false, wantedA, acall, astep, ev, ofValue, ofAtom, Fr.put_some, Fr.put_none, fr0_zero, fr0_succ, fr0_nil, Nat.reduceEqDiff, Nat.reduceAdd, Nat.reduceMul, Nat.reduceSub, reduceCtorEq, if_true, if_false, reduceIte, Option.map_some, Option.map_none, Option.bind_some, Option.bind_none, aoptEv, abin, aint, ashift, aun, astr, aeqGuard, isConstOp, or_self, or_true, true_or, or_false, false_or, and_self, and_true, true_and, and_false, false_and, not_true_eq_false, not_false_eq_true, Bool.false_eq_true, Bool.true_eq_false, decide_eq_true_eq, decide_eq_false_iff_not, beq_iff_eq, bne_iff_ne, Bool.not_eq_true', Bool.not_true, Bool.not_false, ne_eq, aconvH, aofStr, aconvSame, isU8, abuildSlice, afill, splice, azeros, AV.solid_int, AV.one_int, AV.cells_int, AV.solid_bool, AV.one_bool, AV.cells_bool, AV.solid_str, AV.one_str, AV.cells_str, AV.solid_nilI, AV.one_nilI, AV.cells_nilI, AV.solid_ifc, AV.one_ifc, AV.cells_ifc, AV.solid_nilP, AV.one_nilP, AV.cells_nilP, AV.solid_ptr, AV.one_ptr, AV.cells_ptr, AV.solid_nilS, AV.one_nilS, AV.cells_nilS, AV.solid_sl, AV.one_sl, AV.cells_sl, AV.solid_sg, AV.one_sg, AV.cells_sg, AV.solid_fn, AV.one_fn, AV.cells_fn, AV.cells_agg, List.replicate_succ, List.replicate_zero, List.flatten_cons, List.flatten_nil, List.append_nil, List.nil_append, List.cons_append, List.take_succ_cons, List.take_zero, List.drop_succ_cons, List.drop_zero, List.length_cons, List.length_nil, List.all_cons, List.all_nil, Bool.and_true, Bool.true_and, Bool.and_self, Nat.reduceLeDiff, Nat.reduceLT, Int.reduceLE, Int.reduceLT, Int.reduceEq, Int.reduceToNat, Int.cast_ofNat_Int, Int.reducePow, IntKind.bits, Nat.min_def, Int.reduceNeg, Nat.zero_add, Nat.reduceEqDiff, hget_push, set_push_new, List.map_cons, List.map_nil, List.toList_toArray, List.getElem?_toArray, List.getElem?_cons_zero, List.getElem?_cons_succ, und3, agg3, size3, bytes3, zero3, und5, agg5, size5, bytes5, zero5, und23, agg23, size23, bytes23, zero23, cv5_23, k0, k5])
    | (simp (disch := omega) only [optIf, optIfN, selP, selN, avP, avN])
  · refine ⟨m - 1, by omega, crcT x, ?_, by rw [wrap_i64_id (by omega) (by omega)]; congr 1; omega, by omega, (crcT_range hx0 hx1).1, (crcT_range hx0 hx1).2, ?_⟩
    · rw [← crcT_one (by omega) hx1]
    · obtain ⟨k, rfl⟩ : ∃ k, m = k + 1 := ⟨m - 1, by omega⟩
      exact hx
  · refine ⟨m - 1, by omega, crcT x, ?_, by rw [wrap_i64_id (by omega) (by omega)]; congr 1; omega, by omega, (crcT_range hx0 hx1).1, (crcT_range hx0 hx1).2, ?_⟩
    · rw [← crcT_nought hx0 (by omega)]
    · obtain ⟨k, rfl⟩ : ∃ k, m = k + 1 := ⟨m - 1, by omega⟩
      exact hx
  · skip
    (
     first | refine AEnd_ret1 rfl ?_ | refine AEnd_ret2 rfl ?_ | refine AEnd_ret3 rfl ?_ | refine AEnd_ret0 rfl ?_
     simp only [Fr.put_some, Fr.put_none, fr0_zero, fr0_succ, fr0_nil, Nat.reduceEqDiff, reduceIte, k0])
    obtain rfl : m = 0 := by omega
    exact ⟨by rw [← hx]; rfl, trivial⟩

theorem ref_sum_calls (v : AV) (xs : List Int) (H : Hp) (hv : Ints H .u8 v xs) (hb : Bytes xs) (hx : xs.length < 1000000000000) :
    ACalls Try.prog 11 [v] H fun r H' => r = .int .u16 (crcRow 65535 xs) ∧ H = H' := by
  refine ACalls_body Try.func11 rfl (by kernel_rfl) (by kernel_rfl) ?_
  repeat' first
    | (with_reducible refine AWp_seq_k (fun K hK => ?_))
    | (with_reducible refine AWp_block ?_)
    | (with_reducible refine AWp_skip ?_)
    | (with_reducible refine AWp_exit ?_)
    | (with_reducible refine AWp_ret ?_)
    | (with_reducible refine AWp_regionE ?_)
    | (with_reducible refine AWp_condI ?_)
    | (with_reducible refine EGuard_split (fun hc => ?_) (fun hc => ?_) <;> (try simp only [Bool.not_eq_true', Bool.not_eq_false', decide_eq_true_eq, decide_eq_false_iff_not, beq_iff_eq, beq_eq_false_iff_ne, bne_iff_ne, bne_eq_false_iff_eq, Bool.false_eq_true, ne_eq, Decidable.not_not, Bool.not_eq_eq_eq_not, Bool.not_true, Bool.not_false, not_true_eq_false, not_false_eq_true] at hc) <;> (try (exfalso; first | omega | contradiction)))
    | fail
    | (with_reducible refine AIte (fun hc => ?_) (fun hc => ?_) <;> (try simp only [Bool.not_eq_true', Bool.not_eq_false', decide_eq_true_eq, decide_eq_false_iff_not, beq_iff_eq, beq_eq_false_iff_ne, bne_iff_ne, bne_eq_false_iff_eq, Bool.false_eq_true, ne_eq, Decidable.not_not, Bool.not_eq_eq_eq_not, Bool.not_true, Bool.not_false, not_true_eq_false, not_false_eq_true] at hc) <;> (try (exfalso; first | omega | contradiction)))
    | (simp only [thenA, inBlockA, reduceIte, Nat.reduceEqDiff])
    | ((with_reducible refine hK _ _ ?_); clear hK)
    | (clear hK; (with_reducible refine hK _ _ ?_); clear hK)
    | (clear hK; clear hK; (with_reducible refine hK _ _ ?_); clear hK)
    | (clear hK; clear hK; clear hK; (with_reducible refine hK _ _ ?_); clear hK)
    | (clear hK; clear hK; clear hK; clear hK; (with_reducible refine hK _ _ ?_); clear hK)
    | (clear hK; clear hK; clear hK; clear hK; clear hK; (with_reducible refine hK _ _ ?_); clear hK)
    | (simp only [ACond, Run_nil, Run_cons, Run_pnil, Run_one, Run_alt, EAt_def, EStep_def, E0_def, EGuard_true, EGuard_false, beq_self_eq_true, beq_true, beq_false, bne_self_eq_false, wantedA, acall, astep, ev, ofValue, ofAtom, Fr.put_some, Fr.put_none, fr0_zero, fr0_succ, fr0_nil, Nat.reduceEqDiff, Nat.reduceAdd, Nat.reduceMul, Nat.reduceSub, reduceCtorEq, if_true, if_false, reduceIte, Option.map_some, Option.map_none, Option.bind_some, Option.bind_none, aoptEv, abin, aint, ashift, aun, astr, aeqGuard, isConstOp, or_self, or_true, true_or, or_false, false_or, and_self, and_true, true_and, and_false, false_and, not_true_eq_false, not_false_eq_true, Bool.false_eq_true, Bool.true_eq_false, decide_eq_true_eq, decide_eq_false_iff_not, beq_iff_eq, bne_iff_ne, Bool.not_eq_true', Bool.not_true, Bool.not_false, ne_eq, aconvH, aofStr, aconvSame, isU8, abuildSlice, afill, splice, azeros, AV.solid_int, AV.one_int, AV.cells_int, AV.solid_bool, AV.one_bool, AV.cells_bool, AV.solid_str, AV.one_str, AV.cells_str, AV.solid_nilI, AV.one_nilI, AV.cells_nilI, AV.solid_ifc, AV.one_ifc, AV.cells_ifc, AV.solid_nilP, AV.one_nilP, AV.cells_nilP, AV.solid_ptr, AV.one_ptr, AV.cells_ptr, AV.solid_nilS, AV.one_nilS, AV.cells_nilS, AV.solid_sl, AV.one_sl, AV.cells_sl, AV.solid_sg, AV.one_sg, AV.cells_sg, AV.solid_fn, AV.one_fn, AV.cells_fn, AV.cells_agg, List.replicate_succ, List.replicate_zero, List.flatten_cons, List.flatten_nil, List.append_nil, List.nil_append, List.cons_append, List.take_succ_cons, List.take_zero, List.drop_succ_cons, List.drop_zero, List.length_cons, List.length_nil, List.all_cons, List.all_nil, Bool.and_true, Bool.true_and, Bool.and_self, Nat.reduceLeDiff, Nat.reduceLT, Int.reduceLE, Int.reduceLT, Int.reduceEq, Int.reduceToNat, Int.cast_ofNat_Int, Int.reducePow, IntKind.bits, Nat.min_def, Int.reduceNeg, Nat.zero_add, Nat.reduceEqDiff, hget_push, set_push_new, List.map_cons, List.map_nil, List.toList_toArray, List.getElem?_toArray, List.getElem?_cons_zero, List.getElem?_cons_succ, und3, agg3, size3, bytes3, zero3, und5, agg5, size5, bytes5, zero5, und22, agg22, size22, bytes22, zero22, lenS22, lenG22, lenN22, eqSl22, eqSg22, eqSn22, und23, agg23, size23, bytes23, zero23])
    | (simp (disch := omega) only [optIf, optIfN, selP, selN, avP, avN])
  refine AWp_loop (fun m fr' H' => ∃ (j : Nat) (s : Int), m = xs.length - j ∧ j ≤ xs.length ∧ fr' 0 = v ∧ fr' 3 = .int .u16 s ∧ fr' 4 = .int .i64 j ∧ 0 ≤ s ∧ s < 65536 ∧ crcRow s (xs.drop j) = crcRow 65535 xs ∧ H = H')
      (m := xs.length) ⟨0, 65535, by omega, by omega, rfl, rfl, rfl, by omega, by omega, by simp, rfl⟩ ?_
  rintro m fr' H' ⟨j, s, rfl, hj, k0, k3, k4, hs0, hs1, ks, rfl⟩
  by_cases hlt : j < xs.length
  · have hxj : 0 ≤ xs.getD j 0 ∧ xs.getD j 0 < 256 := hb _ (by simp [List.getD, hlt])
    repeat' first
      | (with_reducible refine AWp_seq_k (fun K hK => ?_))
      | (with_reducible refine AWp_block ?_)
      | (with_reducible refine AWp_skip ?_)
      | (with_reducible refine AWp_exit ?_)
      | (with_reducible refine AWp_ret ?_)
      | (with_reducible refine AWp_regionE ?_)
      | (with_reducible refine AWp_condI ?_)
      | ((with_reducible refine ECall_intro (ref_more_calls _ _ _ hs0 hs1 hxj.1 hxj.2) ?_); rintro _ _ ⟨rfl, rfl⟩)
      | (with_reducible refine EGuard_split (fun hc => ?_) (fun hc => ?_) <;> (try simp only [Bool.not_eq_true', Bool.not_eq_false', decide_eq_true_eq, decide_eq_false_iff_not, beq_iff_eq, beq_eq_false_iff_ne, bne_iff_ne, bne_eq_false_iff_eq, Bool.false_eq_true, ne_eq, Decidable.not_not, Bool.not_eq_eq_eq_not, Bool.not_true, Bool.not_false, not_true_eq_false, not_false_eq_true] at hc) <;> (try (exfalso; first | omega | contradiction)))
      | fail
      | (with_reducible refine AIte (fun hc => ?_) (fun hc => ?_) <;> (try simp only [Bool.not_eq_true', Bool.not_eq_false', decide_eq_true_eq, decide_eq_false_iff_not, beq_iff_eq, beq_eq_false_iff_ne, bne_iff_ne, bne_eq_false_iff_eq, Bool.false_eq_true, ne_eq, Decidable.not_not, Bool.not_eq_eq_eq_not, Bool.not_true, Bool.not_false, not_true_eq_false, not_false_eq_true] at hc) <;> (try (exfalso; first | omega | contradiction)))
      | (simp only [thenA, inBlockA, reduceIte, Nat.reduceEqDiff])
      | ((with_reducible refine hK _ _ ?_); clear hK)
      | (clear hK; (with_reducible refine hK _ _ ?_); clear hK)
      | (clear hK; clear hK; (with_reducible refine hK _ _ ?_); clear hK)
      | (clear hK; clear hK; clear hK; (with_reducible refine hK _ _ ?_); clear hK)
      | (clear hK; clear hK; clear hK; clear hK; (with_reducible refine hK _ _ ?_); clear hK)
      | (clear hK; clear hK; clear hK; clear hK; clear hK; (with_reducible refine hK _ _ ?_); clear hK)
      | (simp only [ACond, Run_nil, Run_cons, Run_pnil, Run_one, Run_alt, EAt_def, EStep_def, E0_def, EGuard_true, EGuard_false, beq_self_eq_true, beq_true, beq_false, bne_self_eq_false, wantedA, acall, astep, ev, ofValue, ofAtom, Fr.put_some, Fr.put_none, fr0_zero, fr0_succ, fr0_nil, Nat.reduceEqDiff, Nat.reduceAdd, Nat.reduceMul, Nat.reduceSub, reduceCtorEq, if_true, if_false, reduceIte, Option.map_some, Option.map_none, Option.bind_some, Option.bind_none, aoptEv, abin, aint, ashift, aun, astr, aeqGuard, isConstOp, or_self, or_true, true_or, or_false, false_or, and_self, and_true, true_and, and_false, false_and, not_true_eq_false, not_false_eq_true, Bool.false_eq_true, Bool.true_eq_false, decide_eq_true_eq, decide_eq_false_iff_not, beq_iff_eq, bne_iff_ne, Bool.not_eq_true', Bool.not_true, Bool.not_false, ne_eq, aconvH, aofStr, aconvSame, isU8, abuildSlice, afill, splice, azeros, AV.solid_int, AV.one_int, AV.cells_int, AV.solid_bool, AV.one_bool, AV.cells_bool, AV.solid_str, AV.one_str, AV.cells_str, AV.solid_nilI, AV.one_nilI, AV.cells_nilI, AV.solid_ifc, AV.one_ifc, AV.cells_ifc, AV.solid_nilP, AV.one_nilP, AV.cells_nilP, AV.solid_ptr, AV.one_ptr, AV.cells_ptr, AV.solid_nilS, AV.one_nilS, AV.cells_nilS, AV.solid_sl, AV.one_sl, AV.cells_sl, AV.solid_sg, AV.one_sg, AV.cells_sg, AV.solid_fn, AV.one_fn, AV.cells_fn, AV.cells_agg, List.replicate_succ, List.replicate_zero, List.flatten_cons, List.flatten_nil, List.append_nil, List.nil_append, List.cons_append, List.take_succ_cons, List.take_zero, List.drop_succ_cons, List.drop_zero, List.length_cons, List.length_nil, List.all_cons, List.all_nil, Bool.and_true, Bool.true_and, Bool.and_self, Nat.reduceLeDiff, Nat.reduceLT, Int.reduceLE, Int.reduceLT, Int.reduceEq, Int.reduceToNat, Int.cast_ofNat_Int, Int.reducePow, IntKind.bits, Nat.min_def, Int.reduceNeg, Nat.zero_add, Nat.reduceEqDiff, hget_push, set_push_new, List.map_cons, List.map_nil, List.toList_toArray, List.getElem?_toArray, List.getElem?_cons_zero, List.getElem?_cons_succ, und3, agg3, size3, bytes3, zero3, und5, agg5, size5, bytes5, zero5, und22, agg22, size22, bytes22, zero22, lenS22, lenG22, lenN22, eqSl22, eqSg22, eqSn22, und23, agg23, size23, bytes23, zero23, k0, k3, k4, Int.toNat_natCast, hv.rd.len und22])
      | (simp (disch := omega) only [optIf, optIfN, selP, selN, avP, avN, hv.rd.at_ und22 size5, hv.load agg5])
    have hr := crcMore_range hs0 hs1 hxj.1 hxj.2
    refine ⟨xs.length - (j + 1), by omega, j + 1, crcMore s (xs.getD j 0), rfl, by omega, rfl, ?_, hr.1, hr.2, ?_⟩
    · rw [wrap_i64_id (by omega) (by omega)]; rfl
    · rw [← ks, crcRow_drop s xs (by omega)]
  · skip
    repeat' first
      | (with_reducible refine AWp_seq_k (fun K hK => ?_))
      | (with_reducible refine AWp_block ?_)
      | (with_reducible refine AWp_skip ?_)
      | (with_reducible refine AWp_exit ?_)
      | (with_reducible refine AWp_ret ?_)
      | (with_reducible refine AWp_regionE ?_)
      | (with_reducible refine AWp_condI ?_)
      | (with_reducible refine EGuard_split (fun hc => ?_) (fun hc => ?_) <;> (try simp only [Bool.not_eq_true', Bool.not_eq_false', decide_eq_true_eq, decide_eq_false_iff_not, beq_iff_eq, beq_eq_false_iff_ne, bne_iff_ne, bne_eq_false_iff_eq, Bool.false_eq_true, ne_eq, Decidable.not_not, Bool.not_eq_eq_eq_not, Bool.not_true, Bool.not_false, not_true_eq_false, not_false_eq_true] at hc) <;> (try (exfalso; first | omega | contradiction)))
      | fail
      | (with_reducible refine AIte (fun hc => ?_) (fun hc => ?_) <;> (try simp only [Bool.not_eq_true', Bool.not_eq_false', decide_eq_true_eq, decide_eq_false_iff_not, beq_iff_eq, beq_eq_false_iff_ne, bne_iff_ne, bne_eq_false_iff_eq, Bool.false_eq_true, ne_eq, Decidable.not_not, Bool.not_eq_eq_eq_not, Bool.not_true, Bool.not_false, not_true_eq_false, not_false_eq_true] at hc) <;> (try (exfalso; first | omega | contradiction)))
      | (simp only [thenA, inBlockA, reduceIte, Nat.reduceEqDiff])
      | ((with_reducible refine hK _ _ ?_); clear hK)
      | (clear hK; (with_reducible refine hK _ _ ?_); clear hK)
      | (clear hK; clear hK; (with_reducible refine hK _ _ ?_); clear hK)
      | (clear hK; clear hK; clear hK; (with_reducible refine hK _ _ ?_); clear hK)
      | (clear hK; clear hK; clear hK; clear hK; (with_reducible refine hK _ _ ?_); clear hK)
      | (clear hK; clear hK; clear hK; clear hK; clear hK; (with_reducible refine hK _ _ ?_); clear hK)
      | (simp only [ACond, Run_nil, Run_cons, Run_pnil, Run_one, Run_alt, EAt_def, EStep_def, E0_def, EGuard_true, EGuard_false, beq_self_eq_true, beq_true, beq_false, bne_self_eq_false, wantedA, acall, astep, ev, ofValue, ofAtom, Fr.put_some, Fr.put_none, fr0_zero, fr0_succ, fr0_nil, Nat.reduceEqDiff, Nat.reduceAdd, Nat.reduceMul, Nat.reduceSub, reduceCtorEq, if_true, if_false, reduceIte, Option.map_some, Option.map_none, Option.bind_some, Option.bind_none, aoptEv, abin, aint, ashift, aun, astr, aeqGuard, isConstOp, or_self, or_true, true_or, or_false, false_or, and_self, and_true, true_and, and_false, false_and, not_true_eq_false, not_false_eq_true, Bool.false_eq_true, Bool.true_eq_false, decide_eq_true_eq, decide_eq_false_iff_not, beq_iff_eq, bne_iff_ne, Bool.not_eq_true', Bool.not_true, Bool.not_false, ne_eq, aconvH, aofStr, aconvSame, isU8, abuildSlice, afill, splice, azeros, AV.solid_int, AV.one_int, AV.cells_int, AV.solid_bool, AV.one_bool, AV.cells_bool, AV.solid_str, AV.one_str, AV.cells_str, AV.solid_nilI, AV.one_nilI, AV.cells_nilI, AV.solid_ifc, AV.one_ifc, AV.cells_ifc, AV.solid_nilP, AV.one_nilP, AV.cells_nilP, AV.solid_ptr, AV.one_ptr, AV.cells_ptr, AV.solid_nilS, AV.one_nilS, AV.cells_nilS, AV.solid_sl, AV.one_sl, AV.cells_sl, AV.solid_sg, AV.one_sg, AV.cells_sg, AV.solid_fn, AV.one_fn, AV.cells_fn, AV.cells_agg, List.replicate_succ, List.replicate_zero, List.flatten_cons, List.flatten_nil, List.append_nil, List.nil_append, List.cons_append, List.take_succ_cons, List.take_zero, List.drop_succ_cons, List.drop_zero, List.length_cons, List.length_nil, List.all_cons, List.all_nil, Bool.and_true, Bool.true_and, Bool.and_self, Nat.reduceLeDiff, Nat.reduceLT, Int.reduceLE, Int.reduceLT, Int.reduceEq, Int.reduceToNat, Int.cast_ofNat_Int, Int.reducePow, IntKind.bits, Nat.min_def, Int.reduceNeg, Nat.zero_add, Nat.reduceEqDiff, hget_push, set_push_new, List.map_cons, List.map_nil, List.toList_toArray, List.getElem?_toArray, List.getElem?_cons_zero, List.getElem?_cons_succ, und3, agg3, size3, bytes3, zero3, und5, agg5, size5, bytes5, zero5, und22, agg22, size22, bytes22, zero22, lenS22, lenG22, lenN22, eqSl22, eqSg22, eqSn22, und23, agg23, size23, bytes23, zero23, k0, k3, k4, Int.toNat_natCast, hv.rd.len und22])
      | (simp (disch := omega) only [optIf, optIfN, selP, selN, avP, avN])
    (
     first | refine AEnd_ret1 rfl ?_ | refine AEnd_ret2 rfl ?_ | refine AEnd_ret3 rfl ?_ | refine AEnd_ret0 rfl ?_
     simp only [Fr.put_some, Fr.put_none, fr0_zero, fr0_succ, fr0_nil, Nat.reduceEqDiff, reduceIte, k3])
    obtain rfl : j = xs.length := by omega
    exact ⟨by rw [← ks]; simp [crcRow], trivial⟩

def knownBytes : List Int := [49, 50, 51, 52, 53, 54, 55, 56, 57]
theorem crc_known : crcRow 65535 knownBytes = 10673 := by decide +kernel

theorem crc_nil_calls (H : Hp) : ACalls Try.prog 12 [.nilS] H fun r H' => r = .int .u16 (crcRows 65535 []) ∧ H = H' :=
  crc_sum_calls _ [] [] _ (Rd.nil _ _) trivial (by simp) (by simp)

theorem known_calls (H : Hp) : ACalls Try.prog 10 [] H fun r H' => r = .bool true ∧ H = H' := by
  refine ACalls.drop (R := fun r => r = .bool true) ?_
  refine ACalls_body Try.func10 rfl (by kernel_rfl) (by kernel_rfl) ?_
  repeat' first
    | (with_reducible refine AWp_seq_k (fun K hK => ?_))
    | (with_reducible refine AWp_block ?_)
    | (with_reducible refine AWp_skip ?_)
    | (with_reducible refine AWp_exit ?_)
    | (with_reducible refine AWp_ret ?_)
    | (with_reducible refine AWp_regionE ?_)
    | (with_reducible refine AWp_condI ?_)
    | (with_reducible refine EGuard_split (fun hc => ?_) (fun hc => ?_) <;> (try simp only [Bool.not_eq_true', Bool.not_eq_false', decide_eq_true_eq, decide_eq_false_iff_not, beq_iff_eq, beq_eq_false_iff_ne, bne_iff_ne, bne_eq_false_iff_eq, Bool.false_eq_true, ne_eq, Decidable.not_not, Bool.not_eq_eq_eq_not, Bool.not_true, Bool.not_false, not_true_eq_false, not_false_eq_true] at hc) <;> (try (exfalso; first | omega | contradiction)))
    | fail
    | (with_reducible refine AIte (fun hc => ?_) (fun hc => ?_) <;> (try simp only [Bool.not_eq_true', Bool.not_eq_false', decide_eq_true_eq, decide_eq_false_iff_not, beq_iff_eq, beq_eq_false_iff_ne, bne_iff_ne, bne_eq_false_iff_eq, Bool.false_eq_true, ne_eq, Decidable.not_not, Bool.not_eq_eq_eq_not, Bool.not_true, Bool.not_false, not_true_eq_false, not_false_eq_true] at hc) <;> (try (exfalso; first | omega | contradiction)))
    | (simp only [thenA, inBlockA, reduceIte, Nat.reduceEqDiff])
    | ((with_reducible refine hK _ _ ?_); clear hK)
    | (clear hK; (with_reducible refine hK _ _ ?_); clear hK)
    | (clear hK; clear hK; (with_reducible refine hK _ _ ?_); clear hK)
    | (clear hK; clear hK; clear hK; (with_reducible refine hK _ _ ?_); clear hK)
    | (clear hK; clear hK; clear hK; clear hK; (with_reducible refine hK _ _ ?_); clear hK)
    | (clear hK; clear hK; clear hK; clear hK; clear hK; (with_reducible refine hK _ _ ?_); clear hK)
    | (simp only [ACond, Run_nil, Run_cons, Run_pnil, Run_one, Run_alt, EAt_def, EStep_def, E0_def, EGuard_true, EGuard_false, beq_self_eq_true, beq_true, beq_false, bne_self_eq_false, wantedA, acall, astep, ev, ofValue, ofAtom, Fr.put_some, Fr.put_none, fr0_zero, fr0_succ, fr0_nil, Nat.reduceEqDiff, Nat.reduceAdd, Nat.reduceMul, Nat.reduceSub, reduceCtorEq, if_true, if_false, reduceIte, Option.map_some, Option.map_none, Option.bind_some, Option.bind_none, aoptEv, abin, aint, ashift, aun, astr, aeqGuard, isConstOp, or_self, or_true, true_or, or_false, false_or, and_self, and_true, true_and, and_false, false_and, not_true_eq_false, not_false_eq_true, Bool.false_eq_true, Bool.true_eq_false, decide_eq_true_eq, decide_eq_false_iff_not, beq_iff_eq, bne_iff_ne, Bool.not_eq_true', Bool.not_true, Bool.not_false, ne_eq, aconvH, aofStr, aconvSame, isU8, abuildSlice, afill, splice, azeros, AV.solid_int, AV.one_int, AV.cells_int, AV.solid_bool, AV.one_bool, AV.cells_bool, AV.solid_str, AV.one_str, AV.cells_str, AV.solid_nilI, AV.one_nilI, AV.cells_nilI, AV.solid_ifc, AV.one_ifc, AV.cells_ifc, AV.solid_nilP, AV.one_nilP, AV.cells_nilP, AV.solid_ptr, AV.one_ptr, AV.cells_ptr, AV.solid_nilS, AV.one_nilS, AV.cells_nilS, AV.solid_sl, AV.one_sl, AV.cells_sl, AV.solid_sg, AV.one_sg, AV.cells_sg, AV.solid_fn, AV.one_fn, AV.cells_fn, AV.cells_agg, List.replicate_succ, List.replicate_zero, List.flatten_cons, List.flatten_nil, List.append_nil, List.nil_append, List.cons_append, List.take_succ_cons, List.take_zero, List.drop_succ_cons, List.drop_zero, List.length_cons, List.length_nil, List.all_cons, List.all_nil, Bool.and_true, Bool.true_and, Bool.and_self, Nat.reduceLeDiff, Nat.reduceLT, Int.reduceLE, Int.reduceLT, Int.reduceEq, Int.reduceToNat, Int.cast_ofNat_Int, Int.reducePow, IntKind.bits, Nat.min_def, Int.reduceNeg, Nat.zero_add, Nat.reduceEqDiff, hget_push, set_push_new, List.map_cons, List.map_nil, List.toList_toArray, List.getElem?_toArray, List.getElem?_cons_zero, List.getElem?_cons_succ, und5, agg5, size5, bytes5, zero5, und22, agg22, size22, bytes22, zero22, lenS22, lenG22, lenN22, eqSl22, eqSg22, eqSn22, und23, agg23, size23, bytes23, zero23, und32, agg32, size32, bytes32, zero32, lenS32, lenG32, lenN32, eqSl32, eqSg32, eqSn32, cv22_22])
    | (simp (disch := omega) only [optIf, optIfN, selP, selN, avP, avN])
  refine ECall_intro (crc_sum_calls _ [_] [knownBytes] _ (Rd.lit _ (by decide) rfl) ⟨(Ints.lit H (xs := knownBytes) (by decide) rfl).push _, trivial⟩ (by simp) (by simp [knownBytes])) ?_
  rintro _ _ ⟨rfl, rfl⟩
  repeat' first
    | (with_reducible refine AWp_seq_k (fun K hK => ?_))
    | (with_reducible refine AWp_block ?_)
    | (with_reducible refine AWp_skip ?_)
    | (with_reducible refine AWp_exit ?_)
    | (with_reducible refine AWp_ret ?_)
    | (with_reducible refine AWp_regionE ?_)
    | (with_reducible refine AWp_condI ?_)
    | ((with_reducible refine ECall_intro (crc_nil_calls _) ?_); rintro _ _ ⟨rfl, rfl⟩)
    | (with_reducible refine EGuard_split (fun hc => ?_) (fun hc => ?_) <;> (try simp only [Bool.not_eq_true', Bool.not_eq_false', decide_eq_true_eq, decide_eq_false_iff_not, beq_iff_eq, beq_eq_false_iff_ne, bne_iff_ne, bne_eq_false_iff_eq, Bool.false_eq_true, ne_eq, Decidable.not_not, Bool.not_eq_eq_eq_not, Bool.not_true, Bool.not_false, not_true_eq_false, not_false_eq_true] at hc) <;> (try (exfalso; first | omega | contradiction)))
    | fail
    | (with_reducible refine AIte (fun hc => ?_) (fun hc => ?_) <;> (try simp only [Bool.not_eq_true', Bool.not_eq_false', decide_eq_true_eq, decide_eq_false_iff_not, beq_iff_eq, beq_eq_false_iff_ne, bne_iff_ne, bne_eq_false_iff_eq, Bool.false_eq_true, ne_eq, Decidable.not_not, Bool.not_eq_eq_eq_not, Bool.not_true, Bool.not_false, not_true_eq_false, not_false_eq_true] at hc) <;> (try (exfalso; first | omega | contradiction)))
    | (simp only [thenA, inBlockA, reduceIte, Nat.reduceEqDiff])
    | ((with_reducible refine hK _ _ ?_); clear hK)
    | (clear hK; (with_reducible refine hK _ _ ?_); clear hK)
    | (clear hK; clear hK; (with_reducible refine hK _ _ ?_); clear hK)
    | (clear hK; clear hK; clear hK; (with_reducible refine hK _ _ ?_); clear hK)
    | (clear hK; clear hK; clear hK; clear hK; (with_reducible refine hK _ _ ?_); clear hK)
    | (clear hK; clear hK; clear hK; clear hK; clear hK; (with_reducible refine hK _ _ ?_); clear hK)
    | (simp only [ACond, Run_nil, Run_cons, Run_pnil, Run_one, Run_alt, EAt_def, EStep_def, E0_def, EGuard_true, EGuard_false, beq_self_eq_true, beq_true, beq_false, bne_self_eq_false, wantedA, acall, astep, ev, ofValue, ofAtom, Fr.put_some, Fr.put_none, fr0_zero, fr0_succ, fr0_nil, Nat.reduceEqDiff, Nat.reduceAdd, Nat.reduceMul, Nat.reduceSub, reduceCtorEq, if_true, if_false, reduceIte, Option.map_some, Option.map_none, Option.bind_some, Option.bind_none, aoptEv, abin, aint, ashift, aun, astr, aeqGuard, isConstOp, or_self, or_true, true_or, or_false, false_or, and_self, and_true, true_and, and_false, false_and, not_true_eq_false, not_false_eq_true, Bool.false_eq_true, Bool.true_eq_false, decide_eq_true_eq, decide_eq_false_iff_not, beq_iff_eq, bne_iff_ne, Bool.not_eq_true', Bool.not_true, Bool.not_false, ne_eq, aconvH, aofStr, aconvSame, isU8, abuildSlice, afill, splice, azeros, AV.solid_int, AV.one_int, AV.cells_int, AV.solid_bool, AV.one_bool, AV.cells_bool, AV.solid_str, AV.one_str, AV.cells_str, AV.solid_nilI, AV.one_nilI, AV.cells_nilI, AV.solid_ifc, AV.one_ifc, AV.cells_ifc, AV.solid_nilP, AV.one_nilP, AV.cells_nilP, AV.solid_ptr, AV.one_ptr, AV.cells_ptr, AV.solid_nilS, AV.one_nilS, AV.cells_nilS, AV.solid_sl, AV.one_sl, AV.cells_sl, AV.solid_sg, AV.one_sg, AV.cells_sg, AV.solid_fn, AV.one_fn, AV.cells_fn, AV.cells_agg, List.replicate_succ, List.replicate_zero, List.flatten_cons, List.flatten_nil, List.append_nil, List.nil_append, List.cons_append, List.take_succ_cons, List.take_zero, List.drop_succ_cons, List.drop_zero, List.length_cons, List.length_nil, List.all_cons, List.all_nil, Bool.and_true, Bool.true_and, Bool.and_self, Nat.reduceLeDiff, Nat.reduceLT, Int.reduceLE, Int.reduceLT, Int.reduceEq, Int.reduceToNat, Int.cast_ofNat_Int, Int.reducePow, IntKind.bits, Nat.min_def, Int.reduceNeg, Nat.zero_add, Nat.reduceEqDiff, hget_push, set_push_new, List.map_cons, List.map_nil, List.toList_toArray, List.getElem?_toArray, List.getElem?_cons_zero, List.getElem?_cons_succ, und5, agg5, size5, bytes5, zero5, und22, agg22, size22, bytes22, zero22, lenS22, lenG22, lenN22, eqSl22, eqSg22, eqSn22, und23, agg23, size23, bytes23, zero23, und32, agg32, size32, bytes32, zero32, lenS32, lenG32, lenN32, eqSl32, eqSg32, eqSn32, cv22_22, crcRows, List.foldl_cons, List.foldl_nil, crc_known])
    | (simp (disch := omega) only [optIf, optIfN, selP, selN, avP, avN])
  (
   first | refine AEnd_ret1 rfl ?_ | refine AEnd_ret2 rfl ?_ | refine AEnd_ret3 rfl ?_ | refine AEnd_ret0 rfl ?_
   simp only [Fr.put_some, Fr.put_none, fr0_zero, fr0_succ, fr0_nil, Nat.reduceEqDiff, reduceIte])
  exact ⟨⟨_, List.append_assoc _ _ _⟩, trivial, trivial⟩
theorem ints_lit1 (X : Hp) {k : IntKind} {a : Int} {kd : BK} {e : TypeId} (hk : kd ≠ .dead) : Ints (X ++ [⟨[.int k a], kd, e⟩]) k (.sl X.length 0 1 1) [a] := Ints.lit X (xs := [a]) hk rfl
theorem ints_lit2 (X : Hp) {k : IntKind} {a b : Int} {kd : BK} {e : TypeId} (hk : kd ≠ .dead) : Ints (X ++ [⟨[.int k a, .int k b], kd, e⟩]) k (.sl X.length 0 2 2) [a, b] := Ints.lit X (xs := [a, b]) hk rfl

theorem crc_1 {X : Hp} {u : AV} {a : List Int} {s : Int} (ha : Ints X .u8 u a) (la : a.length < 1000000000000) (hs : crcRow 65535 a = s) :
    ACalls Try.prog 12 [.sl X.length 0 1 1] (X ++ [⟨[u], .own, 22⟩]) fun r H' => r = .int .u16 s ∧ X ++ [⟨[u], .own, 22⟩] = H' := by
  subst hs
  exact crc_sum_calls _ [u] [a] _ (Rd.lit _ (by decide) rfl) ⟨ha.push _, trivial⟩ (by simp) (by simp; omega)
theorem crc_2 {X : Hp} {u v : AV} {a b : List Int} {s : Int} (ha : Ints X .u8 u a) (hb : Ints X .u8 v b) (la : a.length < 1000000000000) (lb : b.length < 1000000000000) (hs : crcRow (crcRow 65535 a) b = s) :
    ACalls Try.prog 12 [.sl X.length 0 2 2] (X ++ [⟨[u, v], .own, 22⟩]) fun r H' => r = .int .u16 s ∧ X ++ [⟨[u, v], .own, 22⟩] = H' := by
  subst hs
  exact crc_sum_calls _ [u, v] [a, b] _ (Rd.lit _ (by decide) rfl) ⟨ha.push _, hb.push _, trivial⟩ (by simp) (by simp; omega)
theorem crc_3 {X : Hp} {u v w : AV} {a b c : List Int} {s : Int} (ha : Ints X .u8 u a) (hb : Ints X .u8 v b) (hc : Ints X .u8 w c) (la : a.length < 1000000000000) (lb : b.length < 1000000000000) (lc : c.length < 1000000000000) (hs : crcRow (crcRow (crcRow 65535 a) b) c = s) :
    ACalls Try.prog 12 [.sl X.length 0 3 3] (X ++ [⟨[u, v, w], .own, 22⟩]) fun r H' => r = .int .u16 s ∧ X ++ [⟨[u, v, w], .own, 22⟩] = H' := by
  subst hs
  exact crc_sum_calls _ [u, v, w] [a, b, c] _ (Rd.lit _ (by decide) rfl) ⟨ha.push _, hb.push _, hc.push _, trivial⟩ (by simp) (by simp; omega)
end Go.Proofs.Ytdlplfhkmhkngaa

/- A part of the proofs of this seat: CrcD. No condition. -/
import Derived.Test.YtdlplfhkmhkngaaCrcC
set_option linter.unusedVariables false
set_option linter.unusedSimpArgs false
namespace Go.Proofs.Ytdlplfhkmhkngaa
open Go.AL

theorem crcRow_append (s : Int) (xs ys : List Int) : crcRow s (xs ++ ys) = crcRow (crcRow s xs) ys := List.foldl_append ..
theorem crcRow_split (s : Int) (xs : List Int) (n : Nat) : crcRow (crcRow s (xs.take n)) (xs.drop n) = crcRow s xs := by
  rw [← crcRow_append, List.take_append_drop]
theorem crcMore_same {s b : Int} : crcMore s b = crcMore s b := rfl

theorem crcTells_calls (v : AV) (xs : List Int) (c s d : Int) (H : Hp) (hv : Ints H .u8 v xs) (hb : Bytes xs) (hx' : xs.length ≤ 9223372036854775807)
    (hc' : 0 ≤ c ∧ c < 256) (hs : 0 ≤ s ∧ s < 65536) (hd : 0 ≤ d ∧ d < 256) :
    ACalls Try.prog 3 [v, .int .u8 c, .int .u16 s, .int .u8 d] H fun r H' => r = .bool true := by
  refine ACalls_body Try.func3 rfl (by kernel_rfl) (by kernel_rfl) ?_
  repeat' first
    | (with_reducible refine AWp_seq_k (fun K hK => ?_))
    | (with_reducible refine AWp_block ?_)
    | (with_reducible refine AWp_skip ?_)
    | (with_reducible refine AWp_exit ?_)
    | (with_reducible refine AWp_ret ?_)
    | (with_reducible refine AWp_regionE ?_)
    | (with_reducible refine AWp_drawE (id := 7) (.one 0 (.one 3 (.one 1 (.one 2 (.one 4 (.one 5 (.one 6 (.one 7 (.one 8 (.one 9 (.one 10 (.one 11 (.one 14 (.one 12 (.one 13 (.one 15 (.one 16 (.one 17 (.one 18 (.one 19 (.one 21 (.one 22 (.one 20 (.one 23 (.one 24 (.one 25 (.one 26 (.one 27 (.one 28 (.one 30 (.one 31 (.alt 29 (.one 32 (.one 33 (.one 34 (.one 35 (.one 36 (.one 37 .nil)))))) (.one 32 (.alt 29 (.one 33 (.one 34 (.one 35 (.one 36 (.one 37 .nil))))) (.one 33 (.one 29 (.one 34 (.one 35 (.one 36 (.one 37 .nil)))))))))))))))))))))))))))))))))))))))) (by kernel_rfl) (by kernel_rfl) ?_)
    | (with_reducible refine AWp_condI ?_)
    | ((with_reducible refine ECall_intro (known_calls _) ?_); rintro _ _ ⟨rfl, rfl⟩)
    | (with_reducible refine EGuard_split (fun hc => ?_) (fun hc => ?_) <;> (try simp only [Bool.not_eq_true', Bool.not_eq_false', decide_eq_true_eq, decide_eq_false_iff_not, beq_iff_eq, beq_eq_false_iff_ne, ne_eq, Decidable.not_not, Bool.not_eq_eq_eq_not, Bool.not_true, Bool.not_false] at hc) <;> (try (exfalso; omega)))
    | (with_reducible refine And.intro ?_ ?_)
    | (with_reducible refine AIte (fun hc => ?_) (fun hc => ?_) <;> (try (exfalso; omega)))
    | (simp only [thenA, inBlockA, reduceIte, Nat.reduceEqDiff])
    | ((with_reducible refine hK _ _ ?_); clear hK)
    | (clear hK; (with_reducible refine hK _ _ ?_); clear hK)
    | (clear hK; clear hK; (with_reducible refine hK _ _ ?_); clear hK)
    | (clear hK; clear hK; clear hK; (with_reducible refine hK _ _ ?_); clear hK)
    | (clear hK; clear hK; clear hK; clear hK; (with_reducible refine hK _ _ ?_); clear hK)
    | (clear hK; clear hK; clear hK; clear hK; clear hK; (with_reducible refine hK _ _ ?_); clear hK)
    | (simp only [ACond, Run_nil, Run_cons, Run_pnil, Run_one, Run_alt, EAt_def, EStep_def, E0_def, EGuard_true, EGuard_false, beq_self_eq_true, beq_true, beq_false, bne_self_eq_false, wantedA, acall, astep, ev, ofValue, ofAtom, Fr.put_some, Fr.put_none, fr0_zero, fr0_succ, fr0_nil, Nat.reduceEqDiff, Nat.reduceAdd, Nat.reduceMul, Nat.reduceSub, reduceCtorEq, if_true, if_false, reduceIte, Option.map_some, Option.map_none, Option.bind_some, Option.bind_none, aoptEv, abin, aint, ashift, aun, astr, aeqGuard, isConstOp, aconv, or_self, or_true, true_or, or_false, false_or, and_self, and_true, true_and, and_false, false_and, not_true_eq_false, not_false_eq_true, Bool.false_eq_true, Bool.true_eq_false, decide_eq_true_eq, decide_eq_false_iff_not, beq_iff_eq, bne_iff_ne, Bool.not_eq_true', Bool.not_true, Bool.not_false, ne_eq, aconvH, aofStr, aconvSame, isU8, abuildSlice, afill, splice, azeros, AV.solid_int, AV.one_int, AV.cells_int, AV.solid_bool, AV.one_bool, AV.cells_bool, AV.solid_str, AV.one_str, AV.cells_str, AV.solid_nilI, AV.one_nilI, AV.cells_nilI, AV.solid_ifc, AV.one_ifc, AV.cells_ifc, AV.solid_nilP, AV.one_nilP, AV.cells_nilP, AV.solid_ptr, AV.one_ptr, AV.cells_ptr, AV.solid_nilS, AV.one_nilS, AV.cells_nilS, AV.solid_sl, AV.one_sl, AV.cells_sl, AV.solid_sg, AV.one_sg, AV.cells_sg, AV.solid_fn, AV.one_fn, AV.cells_fn, AV.cells_agg, List.replicate_succ, List.replicate_zero, List.flatten_cons, List.flatten_nil, List.append_nil, List.nil_append, List.cons_append, List.take_succ_cons, List.take_zero, List.drop_succ_cons, List.drop_zero, List.length_cons, List.length_nil, List.all_cons, List.all_nil, Bool.and_true, Bool.true_and, Bool.and_self, Nat.reduceLeDiff, Nat.reduceLT, Int.reduceLE, Int.reduceLT, Int.reduceEq, Int.reduceToNat, Int.reducePow, IntKind.bits, Nat.min_def, Int.reduceNeg, Nat.zero_add, Nat.reduceEqDiff, hget_push, set_push_new, List.map_cons, List.map_nil, List.toList_toArray, List.getElem?_toArray, List.getElem?_cons_zero, List.getElem?_cons_succ, und3, agg3, size3, bytes3, zero3, und4, agg4, size4, bytes4, zero4, und5, agg5, size5, bytes5, zero5, und22, agg22, size22, bytes22, zero22, und23, agg23, size23, bytes23, zero23, und32, agg32, size32, bytes32, zero32, hv.rd.len und22])
    | (simp (disch := omega) only [optIf, optIfN, selP, selN, avP, avN])
  · skip
    (
     first | refine AEnd_ret1 rfl ?_ | refine AEnd_ret2 rfl ?_ | refine AEnd_ret3 rfl ?_ | refine AEnd_ret0 rfl ?_
     simp only [Fr.put_some, Fr.put_none, fr0_zero, fr0_succ, fr0_nil, Nat.reduceEqDiff, reduceIte])
  have hx : xs.length < 1000000000000 := by omega
  have e1 : IntKind.i64.wrap ((xs.length : Int) + 1) = xs.length + 1 := wrap_i64_id (by omega) (by omega)
  have e2 : IntKind.i64.wrap c = c := wrap_i64_id (by omega) (by omega)
  obtain ⟨q, hq, hql⟩ : ∃ q : Nat, c.tmod ((xs.length : Int) + 1) = q ∧ q ≤ xs.length := by
    rw [Int.tmod_eq_emod_of_nonneg hc'.1]
    exact ⟨(c % ((xs.length : Int) + 1)).toNat, by have := Int.emod_nonneg c (b := (xs.length : Int) + 1) (by omega); omega, by have := Int.emod_lt_of_pos c (b := (xs.length : Int) + 1) (by omega); omega⟩
  obtain ⟨r1, c1, i1⟩ := hv.cut und22 size5 (abounds_hi (k := .i64) hql)
  obtain ⟨r2, c2, i2⟩ := hv.cut und22 size5 (abounds_lo (k := .i64) hql)
  have hsum : crcRow (crcRow (crcRow 65535 ((xs.drop 0).take (q - 0))) []) ((xs.drop q).take (xs.length - q)) = crcRow 65535 xs := by
    show crcRow (crcRow 65535 ((xs.drop 0).take (q - 0))) ((xs.drop q).take (xs.length - q)) = crcRow 65535 xs
    rw [← crcRow_append, List.drop_zero, Nat.sub_zero, List.take_of_length_le (l := xs.drop q) (by simp), List.take_append_drop]
  have l1 : ((xs.drop 0).take (q - 0)).length < 1000000000000 := by simp; omega
  have l2 : ((xs.drop q).take (xs.length - q)).length < 1000000000000 := by simp; omega
  have l0 : ([] : List Int).length < 1000000000000 := by simp
  have l3 : [d].length < 1000000000000 := by simp
  have hd1 : crcRow (crcRow 65535 xs) [d] = crcMore (crcRow 65535 xs) d := rfl
  have hr := crcRow_range (s := 65535) hb (by omega) (by omega)
  repeat' first
    | (with_reducible refine AWp_seq_k (fun K hK => ?_))
    | (with_reducible refine AWp_block ?_)
    | (with_reducible refine AWp_skip ?_)
    | (with_reducible refine AWp_exit ?_)
    | (with_reducible refine AWp_ret ?_)
    | (with_reducible refine AWp_regionE ?_)
    | (with_reducible refine AWp_drawE (id := 7) (.one 0 (.one 3 (.one 1 (.one 2 (.one 4 (.one 5 (.one 6 (.one 7 (.one 8 (.one 9 (.one 10 (.one 11 (.one 14 (.one 12 (.one 13 (.one 15 (.one 16 (.one 17 (.one 18 (.one 19 (.one 21 (.one 22 (.one 20 (.one 23 (.one 24 (.one 25 (.one 26 (.one 27 (.one 28 (.one 30 (.one 31 (.alt 29 (.one 32 (.one 33 (.one 34 (.one 35 (.one 36 (.one 37 .nil)))))) (.one 32 (.alt 29 (.one 33 (.one 34 (.one 35 (.one 36 (.one 37 .nil))))) (.one 33 (.one 29 (.one 34 (.one 35 (.one 36 (.one 37 .nil)))))))))))))))))))))))))))))))))))))))) (by kernel_rfl) (by kernel_rfl) ?_)
    | (with_reducible refine AWp_condI ?_)
    | ((with_reducible refine ECall_intro (ref_sum_calls v xs _ hv hb hx) ?_); rintro _ _ ⟨rfl, rfl⟩)
    | ((with_reducible refine ECall_intro (crc_1 (hv.ext (by repeat first | exact Ext.refl _ | refine Ext.pushed ?_ _)) hx rfl) ?_); rintro _ _ ⟨rfl, rfl⟩)
    | ((with_reducible refine ECall_intro (crc_3 (i1.ext (by repeat first | exact Ext.refl _ | refine Ext.pushed ?_ _)) (Ints.nil _ _) (i2.ext (by repeat first | exact Ext.refl _ | refine Ext.pushed ?_ _)) l1 l0 l2 hsum) ?_); rintro _ _ ⟨rfl, rfl⟩)
    | ((with_reducible refine ECall_intro (crc_more_calls _ _ _) ?_); rintro _ _ ⟨rfl, rfl⟩)
    | ((with_reducible refine ECall_intro (ref_more_calls _ _ _ hs.1 hs.2 hd.1 hd.2) ?_); rintro _ _ ⟨rfl, rfl⟩)
    | ((with_reducible refine ECall_intro (crc_2 (hv.ext (by repeat first | exact Ext.refl _ | refine Ext.pushed ?_ _)) ((ints_lit1 _ (kd := .own) (e := 5) (by decide)).ext (by repeat first | exact Ext.refl _ | refine Ext.pushed ?_ _)) hx l3 hd1) ?_); rintro _ _ ⟨rfl, rfl⟩)
    | (with_reducible refine EGuard_split (fun hc => ?_) (fun hc => ?_) <;> (try simp only [Bool.not_eq_true', Bool.not_eq_false', decide_eq_true_eq, decide_eq_false_iff_not, beq_iff_eq, beq_eq_false_iff_ne, ne_eq, Decidable.not_not, Bool.not_eq_eq_eq_not, Bool.not_true, Bool.not_false] at hc) <;> (try (exfalso; omega)))
    | (with_reducible refine And.intro ?_ ?_)
    | (with_reducible refine AIte (fun hc => ?_) (fun hc => ?_) <;> (try (exfalso; omega)))
    | (simp only [thenA, inBlockA, reduceIte, Nat.reduceEqDiff])
    | ((with_reducible refine hK _ _ ?_); clear hK)
    | (clear hK; (with_reducible refine hK _ _ ?_); clear hK)
    | (clear hK; clear hK; (with_reducible refine hK _ _ ?_); clear hK)
    | (clear hK; clear hK; clear hK; (with_reducible refine hK _ _ ?_); clear hK)
    | (clear hK; clear hK; clear hK; clear hK; (with_reducible refine hK _ _ ?_); clear hK)
    | (clear hK; clear hK; clear hK; clear hK; clear hK; (with_reducible refine hK _ _ ?_); clear hK)
    | (simp only [ACond, Run_nil, Run_cons, Run_pnil, Run_one, Run_alt, EAt_def, EStep_def, E0_def, EGuard_true, EGuard_false, beq_self_eq_true, beq_true, beq_false, bne_self_eq_false, wantedA, acall, astep, ev, ofValue, ofAtom, Fr.put_some, Fr.put_none, fr0_zero, fr0_succ, fr0_nil, Nat.reduceEqDiff, Nat.reduceAdd, Nat.reduceMul, Nat.reduceSub, reduceCtorEq, if_true, if_false, reduceIte, Option.map_some, Option.map_none, Option.bind_some, Option.bind_none, aoptEv, abin, aint, ashift, aun, astr, aeqGuard, isConstOp, aconv, or_self, or_true, true_or, or_false, false_or, and_self, and_true, true_and, and_false, false_and, not_true_eq_false, not_false_eq_true, Bool.false_eq_true, Bool.true_eq_false, decide_eq_true_eq, decide_eq_false_iff_not, beq_iff_eq, bne_iff_ne, Bool.not_eq_true', Bool.not_true, Bool.not_false, ne_eq, aconvH, aofStr, aconvSame, isU8, abuildSlice, afill, splice, azeros, AV.solid_int, AV.one_int, AV.cells_int, AV.solid_bool, AV.one_bool, AV.cells_bool, AV.solid_str, AV.one_str, AV.cells_str, AV.solid_nilI, AV.one_nilI, AV.cells_nilI, AV.solid_ifc, AV.one_ifc, AV.cells_ifc, AV.solid_nilP, AV.one_nilP, AV.cells_nilP, AV.solid_ptr, AV.one_ptr, AV.cells_ptr, AV.solid_nilS, AV.one_nilS, AV.cells_nilS, AV.solid_sl, AV.one_sl, AV.cells_sl, AV.solid_sg, AV.one_sg, AV.cells_sg, AV.solid_fn, AV.one_fn, AV.cells_fn, AV.cells_agg, List.replicate_succ, List.replicate_zero, List.flatten_cons, List.flatten_nil, List.append_nil, List.nil_append, List.cons_append, List.take_succ_cons, List.take_zero, List.drop_succ_cons, List.drop_zero, List.length_cons, List.length_nil, List.all_cons, List.all_nil, Bool.and_true, Bool.true_and, Bool.and_self, Nat.reduceLeDiff, Nat.reduceLT, Int.reduceLE, Int.reduceLT, Int.reduceEq, Int.reduceToNat, Int.reducePow, IntKind.bits, Nat.min_def, Int.reduceNeg, Nat.zero_add, Nat.reduceEqDiff, hget_push, set_push_new, List.map_cons, List.map_nil, List.toList_toArray, List.getElem?_toArray, List.getElem?_cons_zero, List.getElem?_cons_succ, und3, agg3, size3, bytes3, zero3, und4, agg4, size4, bytes4, zero4, und5, agg5, size5, bytes5, zero5, und22, agg22, size22, bytes22, zero22, und23, agg23, size23, bytes23, zero23, und32, agg32, size32, bytes32, zero32, e1, e2, hq, c1, c2, i1.rd.solid, i2.rd.solid, hv.rd.solid, i1.rd.cells, i2.rd.cells, hv.rd.cells, i1.rd.one, i2.rd.one, hv.rd.one, eq_self, decide_true])
    | (simp (disch := omega) only [optIf, optIfN, selP, selN, avP, avN, hv.rd.len und22])
  all_goals
    (
     first | refine AEnd_ret1 rfl ?_ | refine AEnd_ret2 rfl ?_ | refine AEnd_ret3 rfl ?_ | refine AEnd_ret0 rfl ?_
     simp only [Fr.put_some, Fr.put_none, fr0_zero, fr0_succ, fr0_nil, Nat.reduceEqDiff, reduceIte])
end Go.Proofs.Ytdlplfhkmhkngaa

/- A part of the proofs of this seat: CrcF. No condition. -/
import Derived.Test.YtdlplfhkmhkngaaCrcC
import Derived.Test.YtdlplfhkmhkngaaALq
set_option linter.unusedVariables false
set_option linter.unusedSimpArgs false
namespace Go.Proofs.Ytdlplfhkmhkngaa
open Go.AL

theorem crcRow_append (s : Int) (xs ys : List Int) : crcRow s (xs ++ ys) = crcRow (crcRow s xs) ys := List.foldl_append ..
theorem xor_low (n : Nat) : n ^^^ (n / 256 * 256) = n % 256 := by
  have h1 : (n ^^^ (n / 256 * 256)) % 2 ^ 8 = n % 256 := by
    rw [Nat.xor_mod_two_pow, show n / 256 * 256 % 2 ^ 8 = 0 by omega, Nat.xor_zero]
  have h2 : (n ^^^ (n / 256 * 256)) / 2 ^ 8 = 0 := by
    rw [Nat.xor_div_two_pow, show n / 256 * 256 / 2 ^ 8 = n / 2 ^ 8 by omega, Nat.xor_self]
  omega
theorem crcTn_low : ∀ (n : Nat) {x : Int}, 0 ≤ x → x * 2 ^ n < 65536 → crcTn n x = x * 2 ^ n
  | 0, x, _, _ => by simp [crcTn]
  | n + 1, x, h0, h1 => by
    have e : x * 2 ^ (n + 1) = x * 2 * 2 ^ n := by rw [Int.pow_succ, Int.mul_comm (2 ^ n) 2, Int.mul_assoc]
    have hp : (1 : Int) ≤ 2 ^ n := Int.pow_pos (by decide)
    have hx : x * 2 < 65536 := by
      have := Int.mul_le_mul_of_nonneg_left hp (show 0 ≤ x * 2 by omega)
      rw [e] at h1
      omega
    rw [e] at h1 ⊢
    show crcTn n (crcT x) = _
    rw [← crcT_nought h0 (by omega), u16_wrap, show x * 2 % 65536 = x * 2 by omega]
    exact crcTn_low n (by omega) h1
theorem crc_zero {s : Int} (h0 : 0 ≤ s) (h1 : s < 65536) : crcRow s [IntKind.u8.wrap (s / 256), IntKind.u8.wrap s] = 0 := by
  have hw1 : IntKind.u8.wrap (s / 256) = s / 256 := by rw [u8_wrap]; omega
  have hw2 : IntKind.u8.wrap s = s % 256 := u8_wrap s
  rw [hw1, hw2]
  show crcMore (crcMore s (s / 256)) (s % 256) = 0
  have e1 : crcMore s (s / 256) = s % 256 * 256 := by
    unfold crcMore
    rw [crcIn_eq h0 h1 (by omega) (by omega), show ((s.toNat ^^^ (s / 256 * 256).toNat : Nat) : Int) = s % 256 from ?_, crcTn_low 8 (by omega) (by omega)]
    · omega
    · have e2 := xor_low s.toNat
      have e3 : (s / 256 * 256).toNat = s.toNat / 256 * 256 := by omega
      rw [e3, e2]; omega
  rw [e1]
  unfold crcMore
  rw [crcIn_eq (by omega) (by omega) (by omega) (by omega), Nat.xor_self]
  decide +kernel

theorem crcZeros_calls (v : AV) (xs : List Int) (c : Int) (H : Hp) (hv : Ints H .u8 v xs) (hb : Bytes xs) (hx' : xs.length ≤ 9223372036854775807)
    (hc' : 0 ≤ c ∧ c < 256) :
    ACalls Try.prog 5 [v, .int .u8 c] H fun r H' => r = .bool true := by
  refine ACalls_body Try.func5 rfl (by kernel_rfl) (by kernel_rfl) ?_
  repeat' first
    | (with_reducible refine AWp_seq_k (fun K hK => ?_))
    | (with_reducible refine AWp_block ?_)
    | (with_reducible refine AWp_skip ?_)
    | (with_reducible refine AWp_exit ?_)
    | (with_reducible refine AWp_ret ?_)
    | (with_reducible refine AWp_regionE ?_)
    | (with_reducible refine AWp_condI ?_)
    | ((with_reducible refine ECall_intro (known_calls _) ?_); rintro _ _ ⟨rfl, rfl⟩)
    | (with_reducible refine EGuard_split (fun hc => ?_) (fun hc => ?_) <;> (try simp only [Bool.not_eq_true', Bool.not_eq_false', decide_eq_true_eq, decide_eq_false_iff_not, beq_iff_eq, beq_eq_false_iff_ne, ne_eq, Decidable.not_not, Bool.not_eq_eq_eq_not, Bool.not_true, Bool.not_false, not_true_eq_false, not_false_eq_true] at hc) <;> (try (exfalso; omega)))
    | fail
    | (with_reducible refine AIte (fun hc => ?_) (fun hc => ?_) <;> (try simp only [Bool.not_eq_true', Bool.not_eq_false', decide_eq_true_eq, decide_eq_false_iff_not, beq_iff_eq, beq_eq_false_iff_ne, ne_eq, Decidable.not_not, Bool.not_eq_eq_eq_not, Bool.not_true, Bool.not_false, not_true_eq_false, not_false_eq_true] at hc) <;> (try (exfalso; omega)))
    | (simp only [thenA, inBlockA, reduceIte, Nat.reduceEqDiff])
    | ((with_reducible refine hK _ _ ?_); clear hK)
    | (clear hK; (with_reducible refine hK _ _ ?_); clear hK)
    | (clear hK; clear hK; (with_reducible refine hK _ _ ?_); clear hK)
    | (clear hK; clear hK; clear hK; (with_reducible refine hK _ _ ?_); clear hK)
    | (clear hK; clear hK; clear hK; clear hK; (with_reducible refine hK _ _ ?_); clear hK)
    | (clear hK; clear hK; clear hK; clear hK; clear hK; (with_reducible refine hK _ _ ?_); clear hK)
    | (simp only [ACond, Run_nil, Run_cons, Run_pnil, Run_one, Run_alt, EAt_def, EStep_def, E0_def, EGuard_true, EGuard_false, beq_self_eq_true, beq_true, beq_false, bne_self_eq_false, wantedA, acall, astep, ev, ofValue, ofAtom, Fr.put_some, Fr.put_none, fr0_zero, fr0_succ, fr0_nil, Nat.reduceEqDiff, Nat.reduceAdd, Nat.reduceMul, Nat.reduceSub, reduceCtorEq, if_true, if_false, reduceIte, Option.map_some, Option.map_none, Option.bind_some, Option.bind_none, aoptEv, abin, aint, ashift, aun, astr, aeqGuard, isConstOp, aconv, or_self, or_true, true_or, or_false, false_or, and_self, and_true, true_and, and_false, false_and, not_true_eq_false, not_false_eq_true, Bool.false_eq_true, Bool.true_eq_false, decide_eq_true_eq, decide_eq_false_iff_not, beq_iff_eq, bne_iff_ne, Bool.not_eq_true', Bool.not_true, Bool.not_false, ne_eq, aconvH, aofStr, aconvSame, isU8, abuildSlice, afill, splice, azeros, AV.solid_int, AV.one_int, AV.cells_int, AV.solid_bool, AV.one_bool, AV.cells_bool, AV.solid_str, AV.one_str, AV.cells_str, AV.solid_nilI, AV.one_nilI, AV.cells_nilI, AV.solid_ifc, AV.one_ifc, AV.cells_ifc, AV.solid_nilP, AV.one_nilP, AV.cells_nilP, AV.solid_ptr, AV.one_ptr, AV.cells_ptr, AV.solid_nilS, AV.one_nilS, AV.cells_nilS, AV.solid_sl, AV.one_sl, AV.cells_sl, AV.solid_sg, AV.one_sg, AV.cells_sg, AV.solid_fn, AV.one_fn, AV.cells_fn, AV.cells_agg, List.replicate_succ, List.replicate_zero, List.flatten_cons, List.flatten_nil, List.append_nil, List.nil_append, List.cons_append, List.take_succ_cons, List.take_zero, List.drop_succ_cons, List.drop_zero, List.length_cons, List.length_nil, List.all_cons, List.all_nil, Bool.and_true, Bool.true_and, Bool.and_self, Nat.reduceLeDiff, Nat.reduceLT, Int.reduceLE, Int.reduceLT, Int.reduceEq, Int.reduceToNat, Int.reducePow, IntKind.bits, Nat.min_def, Int.reduceNeg, Nat.zero_add, Nat.reduceEqDiff, hget_push, set_push_new, List.map_cons, List.map_nil, List.toList_toArray, List.getElem?_toArray, List.getElem?_cons_zero, List.getElem?_cons_succ, und3, agg3, size3, bytes3, zero3, und4, agg4, size4, bytes4, zero4, und5, agg5, size5, bytes5, zero5, und22, agg22, size22, bytes22, zero22, und23, agg23, size23, bytes23, zero23, und32, agg32, size32, bytes32, zero32, hv.rd.len und22])
    | (simp (disch := omega) only [optIf, optIfN, selP, selN, avP, avN])
  · skip
    (
     first | refine AEnd_ret1 rfl ?_ | refine AEnd_ret2 rfl ?_ | refine AEnd_ret3 rfl ?_ | refine AEnd_ret0 rfl ?_
     simp only [Fr.put_some, Fr.put_none, fr0_zero, fr0_succ, fr0_nil, Nat.reduceEqDiff, reduceIte])
  have hx : xs.length < 1000000000000 := by omega
  have hr := crcRow_range (s := 65535) hb (by omega) (by omega)
  have hbs : Bytes [IntKind.u8.wrap (crcRow 65535 xs / 256), IntKind.u8.wrap (crcRow 65535 xs)] := by
    intro x hx
    simp only [List.mem_cons, List.not_mem_nil, or_false] at hx
    rcases hx with rfl | rfl <;> (rw [u8_wrap]; omega)
  have hz : crcRow (crcRow 65535 xs) [IntKind.u8.wrap (crcRow 65535 xs / 256), IntKind.u8.wrap (crcRow 65535 xs)] = 0 := crc_zero hr.1 hr.2
  have l2 : [IntKind.u8.wrap (crcRow 65535 xs / 256), IntKind.u8.wrap (crcRow 65535 xs)].length < 1000000000000 := by simp
  have e1 : IntKind.i64.wrap (c.tmod 20) = c.tmod 20 := by
    have := Int.emod_nonneg c (b := 20) (by omega); have := Int.emod_lt_of_pos c (b := 20) (by omega)
    rw [Int.tmod_eq_emod_of_nonneg hc'.1]; exact wrap_i64_id (by omega) (by omega)
  obtain ⟨n, hn, hn20⟩ : ∃ n : Nat, IntKind.i64.wrap (c.tmod 20 + 1) = (n : Int) ∧ 0 < n ∧ n ≤ 20 := by
    have := Int.emod_nonneg c (b := 20) (by omega); have := Int.emod_lt_of_pos c (b := 20) (by omega)
    rw [Int.tmod_eq_emod_of_nonneg hc'.1]
    exact ⟨(c % 20 + 1).toNat, by rw [wrap_i64_id (by omega) (by omega)]; omega, by omega, by omega⟩
  have hZ : ∀ X : Hp, Ints (X ++ [⟨(List.replicate n (0 : Int)).map (AV.int .u8), .own, 5⟩]) .u8 (.sl X.length 0 n n) (List.replicate n 0) := fun X => Ints.lit X (by decide) (by simp)
  have hZr : ∀ X : Hp, Rd (X ++ [⟨(List.replicate n (0 : Int)).map (AV.int .u8), .own, 5⟩]) 1 (.sl X.length 0 n n) ((List.replicate n (0 : Int)).map (AV.int .u8)) n := fun X => Rd.lit X (by decide) (by simp)
  have hmk : ∀ X : Hp, amakeSlice Try.prog X 22 (.int .i64 (n : Int)) (.int .i64 (n : Int)) = some (.sl X.length 0 n n, X ++ [⟨(List.replicate n (0 : Int)).map (AV.int .u8), .own, 5⟩]) := fun X => make_ints und22 size5 zero5 bytes5 (by omega) (by omega)
  have lz : (List.replicate n (0 : Int)).length < 1000000000000 := by simp; omega
  have hbz : Bytes (List.replicate n (0 : Int)) := by
    intro x hx
    rw [(List.mem_replicate.1 hx).2]; omega
  repeat' first
    | (with_reducible refine AWp_seq_k (fun K hK => ?_))
    | (with_reducible refine AWp_block ?_)
    | (with_reducible refine AWp_skip ?_)
    | (with_reducible refine AWp_exit ?_)
    | (with_reducible refine AWp_ret ?_)
    | (with_reducible refine AWp_regionE ?_)
    | (with_reducible refine AWp_condI ?_)
    | ((with_reducible refine ECall_intro (crc_1 (hv.ext (by repeat first | exact Ext.refl _ | refine Ext.pushed ?_ _)) hx rfl) ?_); rintro _ _ ⟨rfl, rfl⟩)
    | ((with_reducible refine ECall_intro (crc_2 (hv.ext (by repeat first | exact Ext.refl _ | refine Ext.pushed ?_ _)) ((ints_lit2 _ (kd := .own) (e := 5) (by decide)).ext (by repeat first | exact Ext.refl _ | refine Ext.pushed ?_ _)) hx l2 hz) ?_); rintro _ _ ⟨rfl, rfl⟩)
    | ((with_reducible refine ECall_intro (crc_1 ((hZ _).ext (by repeat first | exact Ext.refl _ | refine Ext.pushed ?_ _)) lz rfl) ?_); rintro _ _ ⟨rfl, rfl⟩)
    | ((with_reducible refine ECall_intro (ref_sum_calls _ _ _ ((hZ _).ext (by repeat first | exact Ext.refl _ | refine Ext.pushed ?_ _)) hbz lz) ?_); rintro _ _ ⟨rfl, rfl⟩)
    | ((with_reducible refine ECall_intro (crc_2 ((hZ _).ext (by repeat first | exact Ext.refl _ | refine Ext.pushed ?_ _)) (hv.ext (by repeat first | exact Ext.refl _ | refine Ext.pushed ?_ _)) lz hx rfl) ?_); rintro _ _ ⟨rfl, rfl⟩)
    | (with_reducible refine EGuard_split (fun hc => ?_) (fun hc => ?_) <;> (try simp only [Bool.not_eq_true', Bool.not_eq_false', decide_eq_true_eq, decide_eq_false_iff_not, beq_iff_eq, beq_eq_false_iff_ne, ne_eq, Decidable.not_not, Bool.not_eq_eq_eq_not, Bool.not_true, Bool.not_false, not_true_eq_false, not_false_eq_true] at hc) <;> (try (exfalso; omega)))
    | fail
    | (with_reducible refine AIte (fun hc => ?_) (fun hc => ?_) <;> (try simp only [Bool.not_eq_true', Bool.not_eq_false', decide_eq_true_eq, decide_eq_false_iff_not, beq_iff_eq, beq_eq_false_iff_ne, ne_eq, Decidable.not_not, Bool.not_eq_eq_eq_not, Bool.not_true, Bool.not_false, not_true_eq_false, not_false_eq_true] at hc) <;> (try (exfalso; omega)))
    | (simp only [thenA, inBlockA, reduceIte, Nat.reduceEqDiff])
    | ((with_reducible refine hK _ _ ?_); clear hK)
    | (clear hK; (with_reducible refine hK _ _ ?_); clear hK)
    | (clear hK; clear hK; (with_reducible refine hK _ _ ?_); clear hK)
    | (clear hK; clear hK; clear hK; (with_reducible refine hK _ _ ?_); clear hK)
    | (clear hK; clear hK; clear hK; clear hK; (with_reducible refine hK _ _ ?_); clear hK)
    | (clear hK; clear hK; clear hK; clear hK; clear hK; (with_reducible refine hK _ _ ?_); clear hK)
    | (simp only [ACond, Run_nil, Run_cons, Run_pnil, Run_one, Run_alt, EAt_def, EStep_def, E0_def, EGuard_true, EGuard_false, beq_self_eq_true, beq_true, beq_false, bne_self_eq_false, wantedA, acall, astep, ev, ofValue, ofAtom, Fr.put_some, Fr.put_none, fr0_zero, fr0_succ, fr0_nil, Nat.reduceEqDiff, Nat.reduceAdd, Nat.reduceMul, Nat.reduceSub, reduceCtorEq, if_true, if_false, reduceIte, Option.map_some, Option.map_none, Option.bind_some, Option.bind_none, aoptEv, abin, aint, ashift, aun, astr, aeqGuard, isConstOp, aconv, or_self, or_true, true_or, or_false, false_or, and_self, and_true, true_and, and_false, false_and, not_true_eq_false, not_false_eq_true, Bool.false_eq_true, Bool.true_eq_false, decide_eq_true_eq, decide_eq_false_iff_not, beq_iff_eq, bne_iff_ne, Bool.not_eq_true', Bool.not_true, Bool.not_false, ne_eq, aconvH, aofStr, aconvSame, isU8, abuildSlice, afill, splice, azeros, AV.solid_int, AV.one_int, AV.cells_int, AV.solid_bool, AV.one_bool, AV.cells_bool, AV.solid_str, AV.one_str, AV.cells_str, AV.solid_nilI, AV.one_nilI, AV.cells_nilI, AV.solid_ifc, AV.one_ifc, AV.cells_ifc, AV.solid_nilP, AV.one_nilP, AV.cells_nilP, AV.solid_ptr, AV.one_ptr, AV.cells_ptr, AV.solid_nilS, AV.one_nilS, AV.cells_nilS, AV.solid_sl, AV.one_sl, AV.cells_sl, AV.solid_sg, AV.one_sg, AV.cells_sg, AV.solid_fn, AV.one_fn, AV.cells_fn, AV.cells_agg, List.replicate_succ, List.replicate_zero, List.flatten_cons, List.flatten_nil, List.append_nil, List.nil_append, List.cons_append, List.take_succ_cons, List.take_zero, List.drop_succ_cons, List.drop_zero, List.length_cons, List.length_nil, List.all_cons, List.all_nil, Bool.and_true, Bool.true_and, Bool.and_self, Nat.reduceLeDiff, Nat.reduceLT, Int.reduceLE, Int.reduceLT, Int.reduceEq, Int.reduceToNat, Int.reducePow, IntKind.bits, Nat.min_def, Int.reduceNeg, Nat.zero_add, Nat.reduceEqDiff, hget_push, set_push_new, List.map_cons, List.map_nil, List.toList_toArray, List.getElem?_toArray, List.getElem?_cons_zero, List.getElem?_cons_succ, und3, agg3, size3, bytes3, zero3, und4, agg4, size4, bytes4, zero4, und5, agg5, size5, bytes5, zero5, und22, agg22, size22, bytes22, zero22, und23, agg23, size23, bytes23, zero23, und32, agg32, size32, bytes32, zero32, e1, hn, hmk, hv.rd.solid, hv.rd.cells, hv.rd.one, eq_self, decide_true, hz])
    | (simp (disch := omega) only [optIf, optIfN, selP, selN, avP, avN, hv.rd.len und22])
  generalize hg : aappend Try.prog _ 22 _ _ = r
  obtain ⟨v', H', rfl, hI⟩ : ∃ v' H', r = some (v', H') ∧ Ints H' .u8 v' (List.replicate n 0 ++ xs) := by
    rw [← hg]
    exact append_full_ints ((hZr _).ext (by repeat first | exact Ext.refl _ | refine Ext.pushed ?_ _)) (hv.ext (by repeat first | exact Ext.refl _ | refine Ext.pushed ?_ _)) und22 size5 zero5 bytes5 (by omega) (by omega)
  clear hg
  have lq : (List.replicate n 0 ++ xs).length < 1000000000000 := by simp; omega
  have hbq : Bytes (List.replicate n 0 ++ xs) := by
    intro x hx
    rcases List.mem_append.1 hx with h | h
    · exact hbz x h
    · exact hb x h
  have hap : crcRow (crcRow 65535 (List.replicate n 0)) xs = crcRow 65535 (List.replicate n 0 ++ xs) := (crcRow_append _ _ _).symm
  repeat' first
    | (with_reducible refine AWp_seq_k (fun K hK => ?_))
    | (with_reducible refine AWp_block ?_)
    | (with_reducible refine AWp_skip ?_)
    | (with_reducible refine AWp_exit ?_)
    | (with_reducible refine AWp_ret ?_)
    | (with_reducible refine AWp_regionE ?_)
    | (with_reducible refine AWp_condI ?_)
    | ((with_reducible refine ECall_intro (ref_sum_calls _ _ _ hI hbq lq) ?_); rintro _ _ ⟨rfl, rfl⟩)
    | (with_reducible refine EGuard_split (fun hc => ?_) (fun hc => ?_) <;> (try simp only [Bool.not_eq_true', Bool.not_eq_false', decide_eq_true_eq, decide_eq_false_iff_not, beq_iff_eq, beq_eq_false_iff_ne, ne_eq, Decidable.not_not, Bool.not_eq_eq_eq_not, Bool.not_true, Bool.not_false, not_true_eq_false, not_false_eq_true] at hc) <;> (try (exfalso; omega)))
    | fail
    | (with_reducible refine AIte (fun hc => ?_) (fun hc => ?_) <;> (try simp only [Bool.not_eq_true', Bool.not_eq_false', decide_eq_true_eq, decide_eq_false_iff_not, beq_iff_eq, beq_eq_false_iff_ne, ne_eq, Decidable.not_not, Bool.not_eq_eq_eq_not, Bool.not_true, Bool.not_false, not_true_eq_false, not_false_eq_true] at hc) <;> (try (exfalso; omega)))
    | (simp only [thenA, inBlockA, reduceIte, Nat.reduceEqDiff])
    | ((with_reducible refine hK _ _ ?_); clear hK)
    | (clear hK; (with_reducible refine hK _ _ ?_); clear hK)
    | (clear hK; clear hK; (with_reducible refine hK _ _ ?_); clear hK)
    | (clear hK; clear hK; clear hK; (with_reducible refine hK _ _ ?_); clear hK)
    | (clear hK; clear hK; clear hK; clear hK; (with_reducible refine hK _ _ ?_); clear hK)
    | (clear hK; clear hK; clear hK; clear hK; clear hK; (with_reducible refine hK _ _ ?_); clear hK)
    | (simp only [ACond, Run_nil, Run_cons, Run_pnil, Run_one, Run_alt, EAt_def, EStep_def, E0_def, EGuard_true, EGuard_false, beq_self_eq_true, beq_true, beq_false, bne_self_eq_false, wantedA, acall, astep, ev, ofValue, ofAtom, Fr.put_some, Fr.put_none, fr0_zero, fr0_succ, fr0_nil, Nat.reduceEqDiff, Nat.reduceAdd, Nat.reduceMul, Nat.reduceSub, reduceCtorEq, if_true, if_false, reduceIte, Option.map_some, Option.map_none, Option.bind_some, Option.bind_none, aoptEv, abin, aint, ashift, aun, astr, aeqGuard, isConstOp, aconv, or_self, or_true, true_or, or_false, false_or, and_self, and_true, true_and, and_false, false_and, not_true_eq_false, not_false_eq_true, Bool.false_eq_true, Bool.true_eq_false, decide_eq_true_eq, decide_eq_false_iff_not, beq_iff_eq, bne_iff_ne, Bool.not_eq_true', Bool.not_true, Bool.not_false, ne_eq, aconvH, aofStr, aconvSame, isU8, abuildSlice, afill, splice, azeros, AV.solid_int, AV.one_int, AV.cells_int, AV.solid_bool, AV.one_bool, AV.cells_bool, AV.solid_str, AV.one_str, AV.cells_str, AV.solid_nilI, AV.one_nilI, AV.cells_nilI, AV.solid_ifc, AV.one_ifc, AV.cells_ifc, AV.solid_nilP, AV.one_nilP, AV.cells_nilP, AV.solid_ptr, AV.one_ptr, AV.cells_ptr, AV.solid_nilS, AV.one_nilS, AV.cells_nilS, AV.solid_sl, AV.one_sl, AV.cells_sl, AV.solid_sg, AV.one_sg, AV.cells_sg, AV.solid_fn, AV.one_fn, AV.cells_fn, AV.cells_agg, List.replicate_succ, List.replicate_zero, List.flatten_cons, List.flatten_nil, List.append_nil, List.nil_append, List.cons_append, List.take_succ_cons, List.take_zero, List.drop_succ_cons, List.drop_zero, List.length_cons, List.length_nil, List.all_cons, List.all_nil, Bool.and_true, Bool.true_and, Bool.and_self, Nat.reduceLeDiff, Nat.reduceLT, Int.reduceLE, Int.reduceLT, Int.reduceEq, Int.reduceToNat, Int.reducePow, IntKind.bits, Nat.min_def, Int.reduceNeg, Nat.zero_add, Nat.reduceEqDiff, hget_push, set_push_new, List.map_cons, List.map_nil, List.toList_toArray, List.getElem?_toArray, List.getElem?_cons_zero, List.getElem?_cons_succ, und3, agg3, size3, bytes3, zero3, und4, agg4, size4, bytes4, zero4, und5, agg5, size5, bytes5, zero5, und22, agg22, size22, bytes22, zero22, und23, agg23, size23, bytes23, zero23, und32, agg32, size32, bytes32, zero32, eq_self, decide_true, hap])
    | (simp (disch := omega) only [optIf, optIfN, selP, selN, avP, avN])
  all_goals
    (
     first | refine AEnd_ret1 rfl ?_ | refine AEnd_ret2 rfl ?_ | refine AEnd_ret3 rfl ?_ | refine AEnd_ret0 rfl ?_
     simp only [Fr.put_some, Fr.put_none, fr0_zero, fr0_succ, fr0_nil, Nat.reduceEqDiff, reduceIte])
end Go.Proofs.Ytdlplfhkmhkngaa

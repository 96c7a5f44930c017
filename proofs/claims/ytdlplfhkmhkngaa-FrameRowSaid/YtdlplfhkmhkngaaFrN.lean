/- A part of the proofs of this seat: FrN. No condition. -/
import Derived.Test.YtdlplfhkmhkngaaFrM
set_option linter.unusedVariables false
set_option linter.unusedSimpArgs false
namespace Go.Proofs.Ytdlplfhkmhkngaa
open Go.AL

theorem feed_two {e : Prop} {H H' : Hp} {p : Nat} {bad k : Int} {x y rest : List Int} {v r : AV} (hp : hget H p = some (pblk v bad)) (h : FeedPost e H p bad ([x, y], rest, k) r H') :
    ∃ u t v', Rd H' 1 r [u, t] 2 ∧ Ints H' .u8 u x ∧ Ints H' .u8 t y ∧ hget H' p = some (pblk v' (bad + k)) ∧ Ints H' .u8 v' rest ∧ aindexAddr Try.prog 32 r (.int .i64 0) = some (.ptr r.hd r.of) ∧ aload Try.prog H' 22 (.ptr r.hd r.of) = some u ∧
      aindexAddr Try.prog 32 r (.int .i64 1) = some (.ptr r.hd (r.of + 1)) ∧ aload Try.prog H' 22 (.ptr r.hd (r.of + 1)) = some t ∧ ∀ H0, Ext H0 H → H0.length ≤ p → Ext H0 H' := by
  obtain ⟨vs, v', ho, hr, hv, hx, _⟩ := h
  have hl := hr.length
  match vs, hl, hr, ho with
  | [u, t], _, hr, ho =>
    have hrd := ho.rd
    refine ⟨u, t, v', hrd, hr.1, hr.2.1, hget_ext (by rw [hget_set (hget_lt hp), if_pos rfl]) hx, hv, ?_, ?_, ?_, ?_, fun H0 x0 hle => (x0.set hle _).trans hx⟩
    · have := hrd.at_ (P := Try.prog) und32 size22 (k := .i64) (j := 0) (by omega) (by simp)
      simpa using this
    · have := hrd.load (P := Try.prog) agg22 (i := 0) (by simp)
      simpa using this
    · have := hrd.at_ (P := Try.prog) und32 size22 (k := .i64) (j := 1) (by omega) (by simp)
      simpa using this
    · have := hrd.load (P := Try.prog) agg22 (i := 1) (by simp)
      simpa using this

theorem parseN_bad : ∀ (n : Nat) (xs : List Int), xs.length ≤ n → 0 ≤ (parseN xs).2.2 ∧ (parseN xs).2.2 ≤ xs.length
  | n, xs, hn => by
    by_cases h : (nxt xs).1 = 0
    · rw [parseN_stop h]; simp
    · have hle := nxt_le xs
      have hin := nxt_inc xs
      match n, hn with
      | 0, hn => omega
      | n + 1, hn =>
        have ih := parseN_bad n (xs.drop (nxt xs).1) (by rw [List.length_drop]; omega)
        rw [parseN_step h]
        rw [List.length_drop] at ih
        simp only
        omega

/-- append of noughts to one's own bytes. -/
theorem app_zeros {X : Hp} {h lo m : Nat} {xs : List Int} (hg : OwnB X (.sg h 0 xs.length 1) xs lo) (hm : 0 < m) (hl : xs.length + m < 1000000) :
    aappend2 Try.prog X 22 3 (.sg h 0 xs.length 1) (.int .i64 (m : Int)) = some (.sg X.length 0 (xs.length + m) 1, X.set h ⟨[], .dead, 5⟩ ++ [⟨(xs ++ List.replicate m 0).map (AV.int .u8), .own, 5⟩]) ∧ h < X.length := by
  rcases hg.row with ⟨h1, _⟩ | ⟨_, _, h1, _⟩ | ⟨h', h1, h2, h3, h4⟩
  · cases h1
  · cases h1
  · cases h1
    have hz : azeros [AV.int .u8 0] m = (List.replicate m (0 : Int)).map (AV.int .u8) := azeros_int .u8 m
    have ht : (xs.map (AV.int .u8)).take (xs.length * 1) = xs.map (AV.int .u8) := List.take_of_length_le (by simp)
    refine ⟨?_, hget_lt h2⟩
    simp only [aappend2, und22, und3, size5, zero5, bytes5, h2, AV.cells_int, Int.toNat_natCast, hz, ht, List.map_append]
    rw [if_pos (by simp only [List.length_singleton, List.all_cons, AV.one_int, List.all_nil, Bool.and_true, List.length_map, Nat.mul_one, ints_one, true_and, and_true]; omega)]

theorem hides_one {zs a b : List Int} (hz : ∀ z ∈ zs, z ≠ 170) (a1 : 1 ≤ a.length) (a2 : a.length ≤ 40) (b1 : 1 ≤ b.length) (b2 : b.length ≤ 40) : parseN ((zs ++ frameOf a) ++ frameOf b) = ([a, b], [], 0) := by
  have e : (zs ++ frameOf a) ++ frameOf b = zs ++ (frameOf a ++ (frameOf b ++ [])) := by simp
  rw [e, parseN_noise hz, parseN_frame a1 a2, parseN_frame b1 b2, parseN_nil]
theorem hides_left {zs : List Int} (hz : ∀ z ∈ zs, z ≠ 170) (h0 : zs = [] ∨ zs.getD 0 0 ≠ 85) : (parseN ([170] ++ zs)).2.1 = [] ∨ (parseN ([170] ++ zs)).2.1 = [170] := by
  match zs, hz, h0 with
  | [], _, _ => right; rw [List.append_nil, parseN_one]
  | z :: zs, hz, h0 =>
    left
    rw [List.singleton_append, parseN_skip2 (by simpa using h0), parseN_noise' hz]
theorem hides_two {l b : List Int} {m : Nat} (hl : l = [] ∨ l = [170]) (b1 : 1 ≤ b.length) (b2 : b.length ≤ 40) : parseN (l ++ (frameOf b ++ List.replicate m 0)) = ([b], [], 0) := by
  have hz : parseN (List.replicate m (0 : Int)) = ([], [], 0) := parseN_noise' fun z hz => by rw [(List.mem_replicate.1 hz).2]; decide
  have hf : parseN (frameOf b ++ List.replicate m 0) = ([b], [], 0) := by rw [parseN_frame b1 b2, hz]
  rcases hl with rfl | rfl
  · exact hf
  · have e2 : frameOf b ++ List.replicate m 0 = 170 :: (frameOf b ++ List.replicate m 0).tail := rfl
    rw [List.singleton_append, e2, parseN_skip2 (by decide), ← e2, hf]

set_option maxHeartbeats 4000000 in
set_option maxRecDepth 4000 in
theorem hides_in (cut : Int) (v va vb : AV) (zs a b : List Int) (H : Hp) (hv : Ints H .u8 v zs) (hz : Bytes zs) (ha : Ints H .u8 va a) (hab : Bytes a) (hb : Ints H .u8 vb b) (hbb : Bytes b) (hcut : 0 ≤ cut ∧ cut < 256)
    (lz : zs.length ≤ 60) (a1 : 1 ≤ a.length) (a2 : a.length ≤ 40) (b1 : 1 ≤ b.length) (b2 : b.length ≤ 40) :
    ACalls Try.prog 7 [v, va, vb, .int .u8 cut] H fun r H' => r = .bool true := by
  refine ACalls_body Try.func7 rfl (by kernel_rfl) (by kernel_rfl) ?_
  repeat' first
    | (with_reducible refine AWp_seq_k (fun K hK => ?_))
    | (with_reducible refine AWp_block ?_)
    | (with_reducible refine AWp_skip ?_)
    | (with_reducible refine AWp_exit ?_)
    | (with_reducible refine AWp_ret ?_)
    | (with_reducible refine AWp_regionE ?_)
    | (with_reducible refine AWp_drawE (id := 14) (.one 0 (.one 1 (.one 2 (.one 3 (.one 4 (.one 5 (.one 6 (.one 7 (.one 8 (.one 9 (.one 10 (.one 11 (.one 12 (.one 13 (.one 14 (.one 15 (.one 16 (.one 17 (.one 18 (.one 19 (.one 20 (.one 21 (.one 22 (.one 23 (.one 24 (.one 25 .nil)))))))))))))))))))))))))) (by kernel_rfl) (by kernel_rfl) ?_)
    | (with_reducible refine AWp_drawE (id := 19) (.one 0 (.one 1 (.one 2 (.one 3 (.one 4 (.one 5 (.one 6 (.one 7 (.one 8 (.one 9 (.one 10 (.one 11 (.one 12 (.one 13 (.one 14 (.one 15 (.one 16 (.one 17 (.one 18 (.one 19 (.one 20 (.one 21 (.one 22 (.one 23 .nil)))))))))))))))))))))))) (by kernel_rfl) (by kernel_rfl) ?_)
    | (with_reducible refine AWp_condI ?_)
    | ((with_reducible refine ECall_intro (known11_calls _) ?_); rintro _ _ ⟨rfl, rfl⟩)
    | (with_reducible refine EGuard_split (fun hc => ?_) (fun hc => ?_) <;> (try simp only [Bool.not_eq_true', Bool.not_eq_false', decide_eq_true_eq, decide_eq_false_iff_not, beq_iff_eq, beq_eq_false_iff_ne, bne_iff_ne, bne_eq_false_iff_eq, Bool.false_eq_true, ne_eq, Decidable.not_not, Bool.not_eq_eq_eq_not, Bool.not_true, Bool.not_false, not_true_eq_false, not_false_eq_true] at hc) <;> (try (exfalso; first | omega | contradiction)))
    | (with_reducible refine And.intro ?_ ?_)
    | (with_reducible refine AIte (fun hc => ?_) (fun hc => ?_) <;> (try simp only [Bool.not_eq_true', Bool.not_eq_false', decide_eq_true_eq, decide_eq_false_iff_not, beq_iff_eq, beq_eq_false_iff_ne, bne_iff_ne, bne_eq_false_iff_eq, Bool.false_eq_true, ne_eq, Decidable.not_not, Bool.not_eq_eq_eq_not, Bool.not_true, Bool.not_false, not_true_eq_false, not_false_eq_true] at hc) <;> (try (exfalso; first | omega | contradiction)))
    | (simp only [thenA, inBlockA, reduceIte, Nat.reduceEqDiff])
    | ((with_reducible refine hK _ _ ?_); clear hK)
    | (clear hK; (with_reducible refine hK _ _ ?_); clear hK)
    | (clear hK; clear hK; (with_reducible refine hK _ _ ?_); clear hK)
    | (clear hK; clear hK; clear hK; (with_reducible refine hK _ _ ?_); clear hK)
    | (clear hK; clear hK; clear hK; clear hK; (with_reducible refine hK _ _ ?_); clear hK)
    | (clear hK; clear hK; clear hK; clear hK; clear hK; (with_reducible refine hK _ _ ?_); clear hK)
    | (simp only [ACond, Run_nil, Run_cons, Run_pnil, Run_one, Run_alt, EAt_def, EStep_def, E0_def, EGuard_true, EGuard_false, beq_self_eq_true, beq_true, beq_false, bne_self_eq_false, wantedA, acall, astep, ev, ofValue, ofAtom, Fr.put_some, Fr.put_none, fr0_zero, fr0_succ, fr0_nil, Nat.reduceEqDiff, Nat.reduceAdd, Nat.reduceMul, Nat.reduceSub, reduceCtorEq, if_true, if_false, reduceIte, Option.map_some, Option.map_none, Option.bind_some, Option.bind_none, aoptEv, abin, aint, ashift, aun, astr, aeqGuard, isConstOp, or_self, or_true, true_or, or_false, false_or, and_self, and_true, true_and, and_false, false_and, not_true_eq_false, not_false_eq_true, Bool.false_eq_true, Bool.true_eq_false, decide_eq_true_eq, decide_eq_false_iff_not, beq_iff_eq, bne_iff_ne, Bool.not_eq_true', Bool.not_true, Bool.not_false, ne_eq, aconvH, aofStr, aconvSame, isU8, abuildSlice, afill, splice, azeros, AV.solid_int, AV.one_int, AV.cells_int, AV.solid_bool, AV.one_bool, AV.cells_bool, AV.solid_str, AV.one_str, AV.cells_str, AV.solid_nilI, AV.one_nilI, AV.cells_nilI, AV.solid_ifc, AV.one_ifc, AV.cells_ifc, AV.solid_nilP, AV.one_nilP, AV.cells_nilP, AV.solid_ptr, AV.one_ptr, AV.cells_ptr, AV.solid_nilS, AV.one_nilS, AV.cells_nilS, AV.solid_sl, AV.one_sl, AV.cells_sl, AV.solid_sg, AV.one_sg, AV.cells_sg, AV.solid_fn, AV.one_fn, AV.cells_fn, AV.cells_agg, List.replicate_succ, List.replicate_zero, List.flatten_cons, List.flatten_nil, List.append_nil, List.nil_append, List.cons_append, List.take_succ_cons, List.take_zero, List.drop_succ_cons, List.drop_zero, List.length_cons, List.length_nil, List.all_cons, List.all_nil, Bool.and_true, Bool.true_and, Bool.and_self, Nat.reduceLeDiff, Nat.reduceLT, Int.reduceLE, Int.reduceLT, Int.reduceEq, Int.reduceToNat, Int.cast_ofNat_Int, Int.reducePow, IntKind.bits, Nat.min_def, Int.reduceNeg, Nat.zero_add, Nat.reduceEqDiff, hget_push, set_push_new, List.map_cons, List.map_nil, List.toList_toArray, List.getElem?_toArray, List.getElem?_cons_zero, List.getElem?_cons_succ, und3, agg3, size3, bytes3, zero3, und4, agg4, size4, bytes4, zero4, eqB4, und5, agg5, size5, bytes5, zero5, und9, agg9, size9, bytes9, zero9, und22, agg22, size22, bytes22, zero22, lenS22, lenG22, lenN22, eqSl22, eqSg22, eqSn22, und32, agg32, size32, bytes32, zero32, lenS32, lenG32, lenN32, eqSl32, eqSg32, eqSn32, und35, agg35, size35, bytes35, zero35, eqPn35, eqPP35, cv5_3, cv22_9, hv.rd.len und22, ha.rd.len und22, hb.rd.len und22])
    | (simp (disch := omega) only [optIf, optIfN, selP, selN, avP, avN])
  refine AWp_loop (fun m fr' H' => ∃ i : Nat, m = zs.length - i ∧ i ≤ zs.length ∧ fr' 0 = v ∧ fr' 1 = va ∧ fr' 2 = vb ∧ fr' 3 = .int .u8 cut ∧ fr' 9 = .int .i64 (i : Int) ∧ (∀ j, j < i → zs.getD j 0 ≠ 170) ∧ H = H')
    (m := zs.length) ⟨0, by omega, by omega, rfl, rfl, rfl, rfl, rfl, fun j hj => by omega, rfl⟩ ?_
  rintro m fr' H' ⟨i, rfl, hi, k0, k1, k2, k3, k9, hno, rfl⟩
  by_cases hlt : i < zs.length
  · skip
    repeat' first
      | (with_reducible refine AWp_seq_k (fun K hK => ?_))
      | (with_reducible refine AWp_block ?_)
      | (with_reducible refine AWp_skip ?_)
      | (with_reducible refine AWp_exit ?_)
      | (with_reducible refine AWp_ret ?_)
      | (with_reducible refine AWp_regionE ?_)
      | (with_reducible refine AWp_drawE (id := 14) (.one 0 (.one 1 (.one 2 (.one 3 (.one 4 (.one 5 (.one 6 (.one 7 (.one 8 (.one 9 (.one 10 (.one 11 (.one 12 (.one 13 (.one 14 (.one 15 (.one 16 (.one 17 (.one 18 (.one 19 (.one 20 (.one 21 (.one 22 (.one 23 (.one 24 (.one 25 .nil)))))))))))))))))))))))))) (by kernel_rfl) (by kernel_rfl) ?_)
      | (with_reducible refine AWp_drawE (id := 19) (.one 0 (.one 1 (.one 2 (.one 3 (.one 4 (.one 5 (.one 6 (.one 7 (.one 8 (.one 9 (.one 10 (.one 11 (.one 12 (.one 13 (.one 14 (.one 15 (.one 16 (.one 17 (.one 18 (.one 19 (.one 20 (.one 21 (.one 22 (.one 23 .nil)))))))))))))))))))))))) (by kernel_rfl) (by kernel_rfl) ?_)
      | (with_reducible refine AWp_condI ?_)
      | (with_reducible refine EGuard_split (fun hc => ?_) (fun hc => ?_) <;> (try simp only [Bool.not_eq_true', Bool.not_eq_false', decide_eq_true_eq, decide_eq_false_iff_not, beq_iff_eq, beq_eq_false_iff_ne, bne_iff_ne, bne_eq_false_iff_eq, Bool.false_eq_true, ne_eq, Decidable.not_not, Bool.not_eq_eq_eq_not, Bool.not_true, Bool.not_false, not_true_eq_false, not_false_eq_true] at hc) <;> (try (exfalso; first | omega | contradiction)))
      | (with_reducible refine And.intro ?_ ?_)
      | (with_reducible refine AIte (fun hc => ?_) (fun hc => ?_) <;> (try simp only [Bool.not_eq_true', Bool.not_eq_false', decide_eq_true_eq, decide_eq_false_iff_not, beq_iff_eq, beq_eq_false_iff_ne, bne_iff_ne, bne_eq_false_iff_eq, Bool.false_eq_true, ne_eq, Decidable.not_not, Bool.not_eq_eq_eq_not, Bool.not_true, Bool.not_false, not_true_eq_false, not_false_eq_true] at hc) <;> (try (exfalso; first | omega | contradiction)))
      | (simp only [thenA, inBlockA, reduceIte, Nat.reduceEqDiff])
      | ((with_reducible refine hK _ _ ?_); clear hK)
      | (clear hK; (with_reducible refine hK _ _ ?_); clear hK)
      | (clear hK; clear hK; (with_reducible refine hK _ _ ?_); clear hK)
      | (clear hK; clear hK; clear hK; (with_reducible refine hK _ _ ?_); clear hK)
      | (clear hK; clear hK; clear hK; clear hK; (with_reducible refine hK _ _ ?_); clear hK)
      | (clear hK; clear hK; clear hK; clear hK; clear hK; (with_reducible refine hK _ _ ?_); clear hK)
      | (simp only [ACond, Run_nil, Run_cons, Run_pnil, Run_one, Run_alt, EAt_def, EStep_def, E0_def, EGuard_true, EGuard_false, beq_self_eq_true, beq_true, beq_false, bne_self_eq_false, wantedA, acall, astep, ev, ofValue, ofAtom, Fr.put_some, Fr.put_none, fr0_zero, fr0_succ, fr0_nil, Nat.reduceEqDiff, Nat.reduceAdd, Nat.reduceMul, Nat.reduceSub, reduceCtorEq, if_true, if_false, reduceIte, Option.map_some, Option.map_none, Option.bind_some, Option.bind_none, aoptEv, abin, aint, ashift, aun, astr, aeqGuard, isConstOp, or_self, or_true, true_or, or_false, false_or, and_self, and_true, true_and, and_false, false_and, not_true_eq_false, not_false_eq_true, Bool.false_eq_true, Bool.true_eq_false, decide_eq_true_eq, decide_eq_false_iff_not, beq_iff_eq, bne_iff_ne, Bool.not_eq_true', Bool.not_true, Bool.not_false, ne_eq, aconvH, aofStr, aconvSame, isU8, abuildSlice, afill, splice, azeros, AV.solid_int, AV.one_int, AV.cells_int, AV.solid_bool, AV.one_bool, AV.cells_bool, AV.solid_str, AV.one_str, AV.cells_str, AV.solid_nilI, AV.one_nilI, AV.cells_nilI, AV.solid_ifc, AV.one_ifc, AV.cells_ifc, AV.solid_nilP, AV.one_nilP, AV.cells_nilP, AV.solid_ptr, AV.one_ptr, AV.cells_ptr, AV.solid_nilS, AV.one_nilS, AV.cells_nilS, AV.solid_sl, AV.one_sl, AV.cells_sl, AV.solid_sg, AV.one_sg, AV.cells_sg, AV.solid_fn, AV.one_fn, AV.cells_fn, AV.cells_agg, List.replicate_succ, List.replicate_zero, List.flatten_cons, List.flatten_nil, List.append_nil, List.nil_append, List.cons_append, List.take_succ_cons, List.take_zero, List.drop_succ_cons, List.drop_zero, List.length_cons, List.length_nil, List.all_cons, List.all_nil, Bool.and_true, Bool.true_and, Bool.and_self, Nat.reduceLeDiff, Nat.reduceLT, Int.reduceLE, Int.reduceLT, Int.reduceEq, Int.reduceToNat, Int.cast_ofNat_Int, Int.reducePow, IntKind.bits, Nat.min_def, Int.reduceNeg, Nat.zero_add, Nat.reduceEqDiff, hget_push, set_push_new, List.map_cons, List.map_nil, List.toList_toArray, List.getElem?_toArray, List.getElem?_cons_zero, List.getElem?_cons_succ, und3, agg3, size3, bytes3, zero3, und4, agg4, size4, bytes4, zero4, eqB4, und5, agg5, size5, bytes5, zero5, und9, agg9, size9, bytes9, zero9, und22, agg22, size22, bytes22, zero22, lenS22, lenG22, lenN22, eqSl22, eqSg22, eqSn22, und32, agg32, size32, bytes32, zero32, lenS32, lenG32, lenN32, eqSl32, eqSg32, eqSn32, und35, agg35, size35, bytes35, zero35, eqPn35, eqPP35, cv5_3, cv22_9, k0, k1, k2, k3, k9, Int.toNat_natCast, hv.rd.len und22])
      | (simp (disch := omega) only [optIf, optIfN, selP, selN, avP, avN, hv.rd.at_ und22 size5, hv.load agg5])
    · skip
      (
       first | refine AEnd_ret1 rfl ?_ | refine AEnd_ret2 rfl ?_ | refine AEnd_ret3 rfl ?_ | refine AEnd_ret0 rfl ?_
       simp only [Fr.put_some, Fr.put_none, fr0_zero, fr0_succ, fr0_nil, Nat.reduceEqDiff, reduceIte])
    · refine ⟨zs.length - (i + 1), by omega, i + 1, rfl, by omega, by rw [wrap_i64_id (by omega) (by omega)]; rfl, fun j hj => ?_⟩
      by_cases he : j = i
      · subst he; assumption
      · exact hno j (by omega)
  · obtain rfl : i = zs.length := by omega
    have hz170 : ∀ z ∈ zs, z ≠ 170 := by
      intro z hzm
      obtain ⟨j, hj, rfl⟩ := List.getElem_of_mem hzm
      have := hno j hj
      rwa [List.getD_eq_getElem?_getD, List.getElem?_eq_getElem hj] at this
    repeat' first
      | (with_reducible refine AWp_seq_k (fun K hK => ?_))
      | (with_reducible refine AWp_block ?_)
      | (with_reducible refine AWp_skip ?_)
      | (with_reducible refine AWp_exit ?_)
      | (with_reducible refine AWp_ret ?_)
      | (with_reducible refine AWp_regionE ?_)
      | (with_reducible refine AWp_drawE (id := 14) (.one 0 (.one 1 (.one 2 (.one 3 (.one 4 (.one 5 (.one 6 (.one 7 (.one 8 (.one 9 (.one 10 (.one 11 (.one 12 (.one 13 (.one 14 (.one 15 (.one 16 (.one 17 (.one 18 (.one 19 (.one 20 (.one 21 (.one 22 (.one 23 (.one 24 (.one 25 .nil)))))))))))))))))))))))))) (by kernel_rfl) (by kernel_rfl) ?_)
      | (with_reducible refine AWp_drawE (id := 19) (.one 0 (.one 1 (.one 2 (.one 3 (.one 4 (.one 5 (.one 6 (.one 7 (.one 8 (.one 9 (.one 10 (.one 11 (.one 12 (.one 13 (.one 14 (.one 15 (.one 16 (.one 17 (.one 18 (.one 19 (.one 20 (.one 21 (.one 22 (.one 23 .nil)))))))))))))))))))))))) (by kernel_rfl) (by kernel_rfl) ?_)
      | (with_reducible refine AWp_condI ?_)
      | (with_reducible refine EGuard_split (fun hc => ?_) (fun hc => ?_) <;> (try simp only [Bool.not_eq_true', Bool.not_eq_false', decide_eq_true_eq, decide_eq_false_iff_not, beq_iff_eq, beq_eq_false_iff_ne, bne_iff_ne, bne_eq_false_iff_eq, Bool.false_eq_true, ne_eq, Decidable.not_not, Bool.not_eq_eq_eq_not, Bool.not_true, Bool.not_false, not_true_eq_false, not_false_eq_true] at hc) <;> (try (exfalso; first | omega | contradiction)))
      | (with_reducible refine And.intro ?_ ?_)
      | (with_reducible refine AIte (fun hc => ?_) (fun hc => ?_) <;> (try simp only [Bool.not_eq_true', Bool.not_eq_false', decide_eq_true_eq, decide_eq_false_iff_not, beq_iff_eq, beq_eq_false_iff_ne, bne_iff_ne, bne_eq_false_iff_eq, Bool.false_eq_true, ne_eq, Decidable.not_not, Bool.not_eq_eq_eq_not, Bool.not_true, Bool.not_false, not_true_eq_false, not_false_eq_true] at hc) <;> (try (exfalso; first | omega | contradiction)))
      | (simp only [thenA, inBlockA, reduceIte, Nat.reduceEqDiff])
      | ((with_reducible refine hK _ _ ?_); clear hK)
      | (clear hK; (with_reducible refine hK _ _ ?_); clear hK)
      | (clear hK; clear hK; (with_reducible refine hK _ _ ?_); clear hK)
      | (clear hK; clear hK; clear hK; (with_reducible refine hK _ _ ?_); clear hK)
      | (clear hK; clear hK; clear hK; clear hK; (with_reducible refine hK _ _ ?_); clear hK)
      | (clear hK; clear hK; clear hK; clear hK; clear hK; (with_reducible refine hK _ _ ?_); clear hK)
      | (simp only [ACond, Run_nil, Run_cons, Run_pnil, Run_one, Run_alt, EAt_def, EStep_def, E0_def, EGuard_true, EGuard_false, beq_self_eq_true, beq_true, beq_false, bne_self_eq_false, wantedA, acall, astep, ev, ofValue, ofAtom, Fr.put_some, Fr.put_none, fr0_zero, fr0_succ, fr0_nil, Nat.reduceEqDiff, Nat.reduceAdd, Nat.reduceMul, Nat.reduceSub, reduceCtorEq, if_true, if_false, reduceIte, Option.map_some, Option.map_none, Option.bind_some, Option.bind_none, aoptEv, abin, aint, ashift, aun, astr, aeqGuard, isConstOp, or_self, or_true, true_or, or_false, false_or, and_self, and_true, true_and, and_false, false_and, not_true_eq_false, not_false_eq_true, Bool.false_eq_true, Bool.true_eq_false, decide_eq_true_eq, decide_eq_false_iff_not, beq_iff_eq, bne_iff_ne, Bool.not_eq_true', Bool.not_true, Bool.not_false, ne_eq, aconvH, aofStr, aconvSame, isU8, abuildSlice, afill, splice, azeros, AV.solid_int, AV.one_int, AV.cells_int, AV.solid_bool, AV.one_bool, AV.cells_bool, AV.solid_str, AV.one_str, AV.cells_str, AV.solid_nilI, AV.one_nilI, AV.cells_nilI, AV.solid_ifc, AV.one_ifc, AV.cells_ifc, AV.solid_nilP, AV.one_nilP, AV.cells_nilP, AV.solid_ptr, AV.one_ptr, AV.cells_ptr, AV.solid_nilS, AV.one_nilS, AV.cells_nilS, AV.solid_sl, AV.one_sl, AV.cells_sl, AV.solid_sg, AV.one_sg, AV.cells_sg, AV.solid_fn, AV.one_fn, AV.cells_fn, AV.cells_agg, List.replicate_succ, List.replicate_zero, List.flatten_cons, List.flatten_nil, List.append_nil, List.nil_append, List.cons_append, List.take_succ_cons, List.take_zero, List.drop_succ_cons, List.drop_zero, List.length_cons, List.length_nil, List.all_cons, List.all_nil, Bool.and_true, Bool.true_and, Bool.and_self, Nat.reduceLeDiff, Nat.reduceLT, Int.reduceLE, Int.reduceLT, Int.reduceEq, Int.reduceToNat, Int.cast_ofNat_Int, Int.reducePow, IntKind.bits, Nat.min_def, Int.reduceNeg, Nat.zero_add, Nat.reduceEqDiff, hget_push, set_push_new, List.map_cons, List.map_nil, List.toList_toArray, List.getElem?_toArray, List.getElem?_cons_zero, List.getElem?_cons_succ, und3, agg3, size3, bytes3, zero3, und4, agg4, size4, bytes4, zero4, eqB4, und5, agg5, size5, bytes5, zero5, und9, agg9, size9, bytes9, zero9, und22, agg22, size22, bytes22, zero22, lenS22, lenG22, lenN22, eqSl22, eqSg22, eqSn22, und32, agg32, size32, bytes32, zero32, lenS32, lenG32, lenN32, eqSl32, eqSg32, eqSn32, und35, agg35, size35, bytes35, zero35, eqPn35, eqPP35, cv5_3, cv22_9, k0, k1, k2, k3, k9, hv.rd.len und22])
      | (simp (disch := omega) only [optIf, optIfN, selP, selN, avP, avN])
    refine ECall_intro (frame_some va a H ha hab a1 a2) ?_
    rintro _ H1 ⟨f, rfl, hf, x1, _⟩
    repeat' first
      | (with_reducible refine AWp_seq_k (fun K hK => ?_))
      | (with_reducible refine AWp_block ?_)
      | (with_reducible refine AWp_skip ?_)
      | (with_reducible refine AWp_exit ?_)
      | (with_reducible refine AWp_ret ?_)
      | (with_reducible refine AWp_regionE ?_)
      | (with_reducible refine AWp_drawE (id := 14) (.one 0 (.one 1 (.one 2 (.one 3 (.one 4 (.one 5 (.one 6 (.one 7 (.one 8 (.one 9 (.one 10 (.one 11 (.one 12 (.one 13 (.one 14 (.one 15 (.one 16 (.one 17 (.one 18 (.one 19 (.one 20 (.one 21 (.one 22 (.one 23 (.one 24 (.one 25 .nil)))))))))))))))))))))))))) (by kernel_rfl) (by kernel_rfl) ?_)
      | (with_reducible refine AWp_drawE (id := 19) (.one 0 (.one 1 (.one 2 (.one 3 (.one 4 (.one 5 (.one 6 (.one 7 (.one 8 (.one 9 (.one 10 (.one 11 (.one 12 (.one 13 (.one 14 (.one 15 (.one 16 (.one 17 (.one 18 (.one 19 (.one 20 (.one 21 (.one 22 (.one 23 .nil)))))))))))))))))))))))) (by kernel_rfl) (by kernel_rfl) ?_)
      | (with_reducible refine AWp_condI ?_)
      | (with_reducible refine EGuard_split (fun hc => ?_) (fun hc => ?_) <;> (try simp only [Bool.not_eq_true', Bool.not_eq_false', decide_eq_true_eq, decide_eq_false_iff_not, beq_iff_eq, beq_eq_false_iff_ne, bne_iff_ne, bne_eq_false_iff_eq, Bool.false_eq_true, ne_eq, Decidable.not_not, Bool.not_eq_eq_eq_not, Bool.not_true, Bool.not_false, not_true_eq_false, not_false_eq_true] at hc) <;> (try (exfalso; first | omega | contradiction)))
      | (with_reducible refine And.intro ?_ ?_)
      | (with_reducible refine AIte (fun hc => ?_) (fun hc => ?_) <;> (try simp only [Bool.not_eq_true', Bool.not_eq_false', decide_eq_true_eq, decide_eq_false_iff_not, beq_iff_eq, beq_eq_false_iff_ne, bne_iff_ne, bne_eq_false_iff_eq, Bool.false_eq_true, ne_eq, Decidable.not_not, Bool.not_eq_eq_eq_not, Bool.not_true, Bool.not_false, not_true_eq_false, not_false_eq_true] at hc) <;> (try (exfalso; first | omega | contradiction)))
      | (simp only [thenA, inBlockA, reduceIte, Nat.reduceEqDiff])
      | ((with_reducible refine hK _ _ ?_); clear hK)
      | (clear hK; (with_reducible refine hK _ _ ?_); clear hK)
      | (clear hK; clear hK; (with_reducible refine hK _ _ ?_); clear hK)
      | (clear hK; clear hK; clear hK; (with_reducible refine hK _ _ ?_); clear hK)
      | (clear hK; clear hK; clear hK; clear hK; (with_reducible refine hK _ _ ?_); clear hK)
      | (clear hK; clear hK; clear hK; clear hK; clear hK; (with_reducible refine hK _ _ ?_); clear hK)
      | (simp only [ACond, Run_nil, Run_cons, Run_pnil, Run_one, Run_alt, EAt_def, EStep_def, E0_def, EGuard_true, EGuard_false, beq_self_eq_true, beq_true, beq_false, bne_self_eq_false, wantedA, acall, astep, ev, ofValue, ofAtom, Fr.put_some, Fr.put_none, fr0_zero, fr0_succ, fr0_nil, Nat.reduceEqDiff, Nat.reduceAdd, Nat.reduceMul, Nat.reduceSub, reduceCtorEq, if_true, if_false, reduceIte, Option.map_some, Option.map_none, Option.bind_some, Option.bind_none, aoptEv, abin, aint, ashift, aun, astr, aeqGuard, isConstOp, or_self, or_true, true_or, or_false, false_or, and_self, and_true, true_and, and_false, false_and, not_true_eq_false, not_false_eq_true, Bool.false_eq_true, Bool.true_eq_false, decide_eq_true_eq, decide_eq_false_iff_not, beq_iff_eq, bne_iff_ne, Bool.not_eq_true', Bool.not_true, Bool.not_false, ne_eq, aconvH, aofStr, aconvSame, isU8, abuildSlice, afill, splice, azeros, AV.solid_int, AV.one_int, AV.cells_int, AV.solid_bool, AV.one_bool, AV.cells_bool, AV.solid_str, AV.one_str, AV.cells_str, AV.solid_nilI, AV.one_nilI, AV.cells_nilI, AV.solid_ifc, AV.one_ifc, AV.cells_ifc, AV.solid_nilP, AV.one_nilP, AV.cells_nilP, AV.solid_ptr, AV.one_ptr, AV.cells_ptr, AV.solid_nilS, AV.one_nilS, AV.cells_nilS, AV.solid_sl, AV.one_sl, AV.cells_sl, AV.solid_sg, AV.one_sg, AV.cells_sg, AV.solid_fn, AV.one_fn, AV.cells_fn, AV.cells_agg, List.replicate_succ, List.replicate_zero, List.flatten_cons, List.flatten_nil, List.append_nil, List.nil_append, List.cons_append, List.take_succ_cons, List.take_zero, List.drop_succ_cons, List.drop_zero, List.length_cons, List.length_nil, List.all_cons, List.all_nil, Bool.and_true, Bool.true_and, Bool.and_self, Nat.reduceLeDiff, Nat.reduceLT, Int.reduceLE, Int.reduceLT, Int.reduceEq, Int.reduceToNat, Int.cast_ofNat_Int, Int.reducePow, IntKind.bits, Nat.min_def, Int.reduceNeg, Nat.zero_add, Nat.reduceEqDiff, hget_push, set_push_new, List.map_cons, List.map_nil, List.toList_toArray, List.getElem?_toArray, List.getElem?_cons_zero, List.getElem?_cons_succ, und3, agg3, size3, bytes3, zero3, und4, agg4, size4, bytes4, zero4, eqB4, und5, agg5, size5, bytes5, zero5, und9, agg9, size9, bytes9, zero9, und22, agg22, size22, bytes22, zero22, lenS22, lenG22, lenN22, eqSl22, eqSg22, eqSn22, und32, agg32, size32, bytes32, zero32, lenS32, lenG32, lenN32, eqSl32, eqSg32, eqSn32, und35, agg35, size35, bytes35, zero35, eqPn35, eqPP35, cv5_3, cv22_9, k0, k1, k2, k3, k9])
      | (simp (disch := omega) only [optIf, optIfN, selP, selN, avP, avN])
    refine ECall_intro (frame_some vb b H1 (hb.ext x1) hbb b1 b2) ?_
    rintro _ H2 ⟨g, rfl, hg, x2, gh, rfl⟩
    repeat' first
      | (with_reducible refine AWp_seq_k (fun K hK => ?_))
      | (with_reducible refine AWp_block ?_)
      | (with_reducible refine AWp_skip ?_)
      | (with_reducible refine AWp_exit ?_)
      | (with_reducible refine AWp_ret ?_)
      | (with_reducible refine AWp_regionE ?_)
      | (with_reducible refine AWp_drawE (id := 14) (.one 0 (.one 1 (.one 2 (.one 3 (.one 4 (.one 5 (.one 6 (.one 7 (.one 8 (.one 9 (.one 10 (.one 11 (.one 12 (.one 13 (.one 14 (.one 15 (.one 16 (.one 17 (.one 18 (.one 19 (.one 20 (.one 21 (.one 22 (.one 23 (.one 24 (.one 25 .nil)))))))))))))))))))))))))) (by kernel_rfl) (by kernel_rfl) ?_)
      | (with_reducible refine AWp_drawE (id := 19) (.one 0 (.one 1 (.one 2 (.one 3 (.one 4 (.one 5 (.one 6 (.one 7 (.one 8 (.one 9 (.one 10 (.one 11 (.one 12 (.one 13 (.one 14 (.one 15 (.one 16 (.one 17 (.one 18 (.one 19 (.one 20 (.one 21 (.one 22 (.one 23 .nil)))))))))))))))))))))))) (by kernel_rfl) (by kernel_rfl) ?_)
      | (with_reducible refine AWp_condI ?_)
      | ((with_reducible refine ECall_intro (new_calls _) ?_); rintro _ _ ⟨rfl, rfl⟩)
      | (with_reducible refine EGuard_split (fun hc => ?_) (fun hc => ?_) <;> (try simp only [Bool.not_eq_true', Bool.not_eq_false', decide_eq_true_eq, decide_eq_false_iff_not, beq_iff_eq, beq_eq_false_iff_ne, bne_iff_ne, bne_eq_false_iff_eq, Bool.false_eq_true, ne_eq, Decidable.not_not, Bool.not_eq_eq_eq_not, Bool.not_true, Bool.not_false, not_true_eq_false, not_false_eq_true] at hc) <;> (try (exfalso; first | omega | contradiction)))
      | (with_reducible refine And.intro ?_ ?_)
      | (with_reducible refine AIte (fun hc => ?_) (fun hc => ?_) <;> (try simp only [Bool.not_eq_true', Bool.not_eq_false', decide_eq_true_eq, decide_eq_false_iff_not, beq_iff_eq, beq_eq_false_iff_ne, bne_iff_ne, bne_eq_false_iff_eq, Bool.false_eq_true, ne_eq, Decidable.not_not, Bool.not_eq_eq_eq_not, Bool.not_true, Bool.not_false, not_true_eq_false, not_false_eq_true] at hc) <;> (try (exfalso; first | omega | contradiction)))
      | (simp only [thenA, inBlockA, reduceIte, Nat.reduceEqDiff])
      | ((with_reducible refine hK _ _ ?_); clear hK)
      | (clear hK; (with_reducible refine hK _ _ ?_); clear hK)
      | (clear hK; clear hK; (with_reducible refine hK _ _ ?_); clear hK)
      | (clear hK; clear hK; clear hK; (with_reducible refine hK _ _ ?_); clear hK)
      | (clear hK; clear hK; clear hK; clear hK; (with_reducible refine hK _ _ ?_); clear hK)
      | (clear hK; clear hK; clear hK; clear hK; clear hK; (with_reducible refine hK _ _ ?_); clear hK)
      | (simp only [ACond, Run_nil, Run_cons, Run_pnil, Run_one, Run_alt, EAt_def, EStep_def, E0_def, EGuard_true, EGuard_false, beq_self_eq_true, beq_true, beq_false, bne_self_eq_false, wantedA, acall, astep, ev, ofValue, ofAtom, Fr.put_some, Fr.put_none, fr0_zero, fr0_succ, fr0_nil, Nat.reduceEqDiff, Nat.reduceAdd, Nat.reduceMul, Nat.reduceSub, reduceCtorEq, if_true, if_false, reduceIte, Option.map_some, Option.map_none, Option.bind_some, Option.bind_none, aoptEv, abin, aint, ashift, aun, astr, aeqGuard, isConstOp, or_self, or_true, true_or, or_false, false_or, and_self, and_true, true_and, and_false, false_and, not_true_eq_false, not_false_eq_true, Bool.false_eq_true, Bool.true_eq_false, decide_eq_true_eq, decide_eq_false_iff_not, beq_iff_eq, bne_iff_ne, Bool.not_eq_true', Bool.not_true, Bool.not_false, ne_eq, aconvH, aofStr, aconvSame, isU8, abuildSlice, afill, splice, azeros, AV.solid_int, AV.one_int, AV.cells_int, AV.solid_bool, AV.one_bool, AV.cells_bool, AV.solid_str, AV.one_str, AV.cells_str, AV.solid_nilI, AV.one_nilI, AV.cells_nilI, AV.solid_ifc, AV.one_ifc, AV.cells_ifc, AV.solid_nilP, AV.one_nilP, AV.cells_nilP, AV.solid_ptr, AV.one_ptr, AV.cells_ptr, AV.solid_nilS, AV.one_nilS, AV.cells_nilS, AV.solid_sl, AV.one_sl, AV.cells_sl, AV.solid_sg, AV.one_sg, AV.cells_sg, AV.solid_fn, AV.one_fn, AV.cells_fn, AV.cells_agg, List.replicate_succ, List.replicate_zero, List.flatten_cons, List.flatten_nil, List.append_nil, List.nil_append, List.cons_append, List.take_succ_cons, List.take_zero, List.drop_succ_cons, List.drop_zero, List.length_cons, List.length_nil, List.all_cons, List.all_nil, Bool.and_true, Bool.true_and, Bool.and_self, Nat.reduceLeDiff, Nat.reduceLT, Int.reduceLE, Int.reduceLT, Int.reduceEq, Int.reduceToNat, Int.cast_ofNat_Int, Int.reducePow, IntKind.bits, Nat.min_def, Int.reduceNeg, Nat.zero_add, Nat.reduceEqDiff, hget_push, set_push_new, List.map_cons, List.map_nil, List.toList_toArray, List.getElem?_toArray, List.getElem?_cons_zero, List.getElem?_cons_succ, und3, agg3, size3, bytes3, zero3, und4, agg4, size4, bytes4, zero4, eqB4, und5, agg5, size5, bytes5, zero5, und9, agg9, size9, bytes9, zero9, und22, agg22, size22, bytes22, zero22, lenS22, lenG22, lenN22, eqSl22, eqSg22, eqSn22, und32, agg32, size32, bytes32, zero32, lenS32, lenG32, lenN32, eqSl32, eqSg32, eqSn32, und35, agg35, size35, bytes35, zero35, eqPn35, eqPP35, cv5_3, cv22_9, k0, k1, k2, k3, k9])
      | (simp (disch := omega) only [optIf, optIfN, selP, selN, avP, avN])
    have n0 : OwnB (H2 ++ [pblk .nilS 0]) .nilS [] (H2 ++ [pblk .nilS 0]).length := Own.nil _ _ _ _
    have x12 := x1.trans x2
    obtain ⟨w1, X1, g1, o1, y1⟩ := n0.app (Ext.refl _) ((hv.ext x12).push _) (by simp; omega)
    obtain ⟨w2, X2, g2, o2, y2⟩ := o1.app y1 ((((hf.ints.ext x2).push _)).ext y1) (by rw [frameOf_length]; simp; omega)
    obtain ⟨w3, X3, g3, o3, y3⟩ := o2.app y2 (((hg.ints.push _)).ext y2) (by rw [List.length_append, frameOf_length, frameOf_length]; simp; omega)
    rw [List.nil_append] at o3
    have hp3 : hget X3 H2.length = some (pblk .nilS 0) := hget_ext (by rw [hget_push, if_pos rfl]) y3
    have hb3 : Bytes ((zs ++ frameOf a) ++ frameOf b) := by
      intro x hx
      rcases List.mem_append.1 hx with hx | hx
      · rcases List.mem_append.1 hx with hx | hx
        · exact hz x hx
        · exact frameOf_bytes hab a2 x hx
      · exact frameOf_bytes hbb b2 x hx
    repeat' first
      | (with_reducible refine AWp_seq_k (fun K hK => ?_))
      | (with_reducible refine AWp_block ?_)
      | (with_reducible refine AWp_skip ?_)
      | (with_reducible refine AWp_exit ?_)
      | (with_reducible refine AWp_ret ?_)
      | (with_reducible refine AWp_regionE ?_)
      | (with_reducible refine AWp_drawE (id := 14) (.one 0 (.one 1 (.one 2 (.one 3 (.one 4 (.one 5 (.one 6 (.one 7 (.one 8 (.one 9 (.one 10 (.one 11 (.one 12 (.one 13 (.one 14 (.one 15 (.one 16 (.one 17 (.one 18 (.one 19 (.one 20 (.one 21 (.one 22 (.one 23 (.one 24 (.one 25 .nil)))))))))))))))))))))))))) (by kernel_rfl) (by kernel_rfl) ?_)
      | (with_reducible refine AWp_drawE (id := 19) (.one 0 (.one 1 (.one 2 (.one 3 (.one 4 (.one 5 (.one 6 (.one 7 (.one 8 (.one 9 (.one 10 (.one 11 (.one 12 (.one 13 (.one 14 (.one 15 (.one 16 (.one 17 (.one 18 (.one 19 (.one 20 (.one 21 (.one 22 (.one 23 .nil)))))))))))))))))))))))) (by kernel_rfl) (by kernel_rfl) ?_)
      | (with_reducible refine AWp_condI ?_)
      | (with_reducible refine EGuard_split (fun hc => ?_) (fun hc => ?_) <;> (try simp only [Bool.not_eq_true', Bool.not_eq_false', decide_eq_true_eq, decide_eq_false_iff_not, beq_iff_eq, beq_eq_false_iff_ne, bne_iff_ne, bne_eq_false_iff_eq, Bool.false_eq_true, ne_eq, Decidable.not_not, Bool.not_eq_eq_eq_not, Bool.not_true, Bool.not_false, not_true_eq_false, not_false_eq_true] at hc) <;> (try (exfalso; first | omega | contradiction)))
      | (with_reducible refine And.intro ?_ ?_)
      | (with_reducible refine AIte (fun hc => ?_) (fun hc => ?_) <;> (try simp only [Bool.not_eq_true', Bool.not_eq_false', decide_eq_true_eq, decide_eq_false_iff_not, beq_iff_eq, beq_eq_false_iff_ne, bne_iff_ne, bne_eq_false_iff_eq, Bool.false_eq_true, ne_eq, Decidable.not_not, Bool.not_eq_eq_eq_not, Bool.not_true, Bool.not_false, not_true_eq_false, not_false_eq_true] at hc) <;> (try (exfalso; first | omega | contradiction)))
      | (simp only [thenA, inBlockA, reduceIte, Nat.reduceEqDiff])
      | ((with_reducible refine hK _ _ ?_); clear hK)
      | (clear hK; (with_reducible refine hK _ _ ?_); clear hK)
      | (clear hK; clear hK; (with_reducible refine hK _ _ ?_); clear hK)
      | (clear hK; clear hK; clear hK; (with_reducible refine hK _ _ ?_); clear hK)
      | (clear hK; clear hK; clear hK; clear hK; (with_reducible refine hK _ _ ?_); clear hK)
      | (clear hK; clear hK; clear hK; clear hK; clear hK; (with_reducible refine hK _ _ ?_); clear hK)
      | (simp only [ACond, Run_nil, Run_cons, Run_pnil, Run_one, Run_alt, EAt_def, EStep_def, E0_def, EGuard_true, EGuard_false, beq_self_eq_true, beq_true, beq_false, bne_self_eq_false, wantedA, acall, astep, ev, ofValue, ofAtom, Fr.put_some, Fr.put_none, fr0_zero, fr0_succ, fr0_nil, Nat.reduceEqDiff, Nat.reduceAdd, Nat.reduceMul, Nat.reduceSub, reduceCtorEq, if_true, if_false, reduceIte, Option.map_some, Option.map_none, Option.bind_some, Option.bind_none, aoptEv, abin, aint, ashift, aun, astr, aeqGuard, isConstOp, or_self, or_true, true_or, or_false, false_or, and_self, and_true, true_and, and_false, false_and, not_true_eq_false, not_false_eq_true, Bool.false_eq_true, Bool.true_eq_false, decide_eq_true_eq, decide_eq_false_iff_not, beq_iff_eq, bne_iff_ne, Bool.not_eq_true', Bool.not_true, Bool.not_false, ne_eq, aconvH, aofStr, aconvSame, isU8, abuildSlice, afill, splice, azeros, AV.solid_int, AV.one_int, AV.cells_int, AV.solid_bool, AV.one_bool, AV.cells_bool, AV.solid_str, AV.one_str, AV.cells_str, AV.solid_nilI, AV.one_nilI, AV.cells_nilI, AV.solid_ifc, AV.one_ifc, AV.cells_ifc, AV.solid_nilP, AV.one_nilP, AV.cells_nilP, AV.solid_ptr, AV.one_ptr, AV.cells_ptr, AV.solid_nilS, AV.one_nilS, AV.cells_nilS, AV.solid_sl, AV.one_sl, AV.cells_sl, AV.solid_sg, AV.one_sg, AV.cells_sg, AV.solid_fn, AV.one_fn, AV.cells_fn, AV.cells_agg, List.replicate_succ, List.replicate_zero, List.flatten_cons, List.flatten_nil, List.append_nil, List.nil_append, List.cons_append, List.take_succ_cons, List.take_zero, List.drop_succ_cons, List.drop_zero, List.length_cons, List.length_nil, List.all_cons, List.all_nil, Bool.and_true, Bool.true_and, Bool.and_self, Nat.reduceLeDiff, Nat.reduceLT, Int.reduceLE, Int.reduceLT, Int.reduceEq, Int.reduceToNat, Int.cast_ofNat_Int, Int.reducePow, IntKind.bits, Nat.min_def, Int.reduceNeg, Nat.zero_add, Nat.reduceEqDiff, hget_push, set_push_new, List.map_cons, List.map_nil, List.toList_toArray, List.getElem?_toArray, List.getElem?_cons_zero, List.getElem?_cons_succ, und3, agg3, size3, bytes3, zero3, und4, agg4, size4, bytes4, zero4, eqB4, und5, agg5, size5, bytes5, zero5, und9, agg9, size9, bytes9, zero9, und22, agg22, size22, bytes22, zero22, lenS22, lenG22, lenN22, eqSl22, eqSg22, eqSn22, und32, agg32, size32, bytes32, zero32, lenS32, lenG32, lenN32, eqSl32, eqSg32, eqSn32, und35, agg35, size35, bytes35, zero35, eqPn35, eqPP35, cv5_3, cv22_9, k0, k1, k2, k3, k9, g1, g2, g3])
      | (simp (disch := omega) only [optIf, optIfN, selP, selN, avP, avN])
    refine ECall_intro (feedN X3 H2.length .nilS w3 0 [] _ _ _ hp3 (Ints.nil _ _) o3.ints (List.nil_append _) hb3 (by rw [List.length_append, List.length_append, frameOf_length, frameOf_length]; omega) (by omega) (hides_one hz170 a1 a2 b1 b2)) ?_
    intro r H4 hfe
    obtain ⟨u, t, v', hr, hu, ht, hp4, hv', at0, ld0, at1, ld1, ext4⟩ := feed_two hp3 hfe
    have xx : Ext H2 H4 := ext4 H2 ((Ext.push H2 (pblk .nilS 0)).trans y3) (Nat.le_refl _)
    have ha4 := ha.ext (x12.trans xx)
    have hb4 := hb.ext (x12.trans xx)
    have hv4 := hv.ext (x12.trans xx)
    have n5 : OwnB (H4 ++ [pblk .nilS 0]) .nilS [] (H4 ++ [pblk .nilS 0]).length := Own.nil _ _ _ _
    have hf5 := (((hf.ints.ext x2).ext xx).push (pblk .nilS 0))
    obtain ⟨r1, c1', i1⟩ := hf5.cut (P := Try.prog) und22 size5 (abounds_hi (k := .i64) (q := 1) (by rw [frameOf_length]; omega))
    have c1 : aslice Try.prog 22 f none (some (.int .i64 1)) none = some r1 := c1'
    have i1 : Ints (H4 ++ [pblk .nilS 0]) .u8 r1 [170] := i1
    obtain ⟨w4, X6, g4, o4, y4⟩ := n5.app (Ext.refl _) i1 (by simp)
    obtain ⟨w5, X7, g5, o5, y5⟩ := o4.app y4 ((hv4.push _).ext y4) (by simp; omega)
    rw [List.nil_append] at o5
    have hp7 : hget X7 H4.length = some (pblk .nilS 0) := hget_ext (by rw [hget_push, if_pos rfl]) y5
    have hb7 : Bytes ([170] ++ zs) := by
      intro x hx
      rcases List.mem_append.1 hx with hx | hx
      · rw [List.mem_singleton.1 hx]; omega
      · exact hz x hx
    have l7 : ([170] ++ zs).length = zs.length + 1 := by simp
    have bad7 := parseN_bad _ ([170] ++ zs) (Nat.le_refl _)
    obtain ⟨cutk, hrest⟩ := parseN_rest _ ([170] ++ zs) (Nat.le_refl _)
    repeat' first
      | (with_reducible refine AWp_seq_k (fun K hK => ?_))
      | (with_reducible refine AWp_block ?_)
      | (with_reducible refine AWp_skip ?_)
      | (with_reducible refine AWp_exit ?_)
      | (with_reducible refine AWp_ret ?_)
      | (with_reducible refine AWp_regionE ?_)
      | (with_reducible refine AWp_drawE (id := 14) (.one 0 (.one 1 (.one 2 (.one 3 (.one 4 (.one 5 (.one 6 (.one 7 (.one 8 (.one 9 (.one 10 (.one 11 (.one 12 (.one 13 (.one 14 (.one 15 (.one 16 (.one 17 (.one 18 (.one 19 (.one 20 (.one 21 (.one 22 (.one 23 (.one 24 (.one 25 .nil)))))))))))))))))))))))))) (by kernel_rfl) (by kernel_rfl) ?_)
      | (with_reducible refine AWp_drawE (id := 19) (.one 0 (.one 1 (.one 2 (.one 3 (.one 4 (.one 5 (.one 6 (.one 7 (.one 8 (.one 9 (.one 10 (.one 11 (.one 12 (.one 13 (.one 14 (.one 15 (.one 16 (.one 17 (.one 18 (.one 19 (.one 20 (.one 21 (.one 22 (.one 23 .nil)))))))))))))))))))))))) (by kernel_rfl) (by kernel_rfl) ?_)
      | (with_reducible refine AWp_condI ?_)
      | ((with_reducible refine ECall_intro (left_calls _ _ _ _ _ hp4 hv') ?_); rintro _ _ ⟨rfl, rfl⟩)
      | ((with_reducible refine ECall_intro (new_calls _) ?_); rintro _ _ ⟨rfl, rfl⟩)
      | (with_reducible refine EGuard_split (fun hc => ?_) (fun hc => ?_) <;> (try simp only [Bool.not_eq_true', Bool.not_eq_false', decide_eq_true_eq, decide_eq_false_iff_not, beq_iff_eq, beq_eq_false_iff_ne, bne_iff_ne, bne_eq_false_iff_eq, Bool.false_eq_true, ne_eq, Decidable.not_not, Bool.not_eq_eq_eq_not, Bool.not_true, Bool.not_false, not_true_eq_false, not_false_eq_true] at hc) <;> (try (exfalso; first | omega | contradiction)))
      | (with_reducible refine And.intro ?_ ?_)
      | (with_reducible refine AIte (fun hc => ?_) (fun hc => ?_) <;> (try simp only [Bool.not_eq_true', Bool.not_eq_false', decide_eq_true_eq, decide_eq_false_iff_not, beq_iff_eq, beq_eq_false_iff_ne, bne_iff_ne, bne_eq_false_iff_eq, Bool.false_eq_true, ne_eq, Decidable.not_not, Bool.not_eq_eq_eq_not, Bool.not_true, Bool.not_false, not_true_eq_false, not_false_eq_true] at hc) <;> (try (exfalso; first | omega | contradiction)))
      | (simp only [thenA, inBlockA, reduceIte, Nat.reduceEqDiff])
      | ((with_reducible refine hK _ _ ?_); clear hK)
      | (clear hK; (with_reducible refine hK _ _ ?_); clear hK)
      | (clear hK; clear hK; (with_reducible refine hK _ _ ?_); clear hK)
      | (clear hK; clear hK; clear hK; (with_reducible refine hK _ _ ?_); clear hK)
      | (clear hK; clear hK; clear hK; clear hK; (with_reducible refine hK _ _ ?_); clear hK)
      | (clear hK; clear hK; clear hK; clear hK; clear hK; (with_reducible refine hK _ _ ?_); clear hK)
      | (simp only [ACond, Run_nil, Run_cons, Run_pnil, Run_one, Run_alt, EAt_def, EStep_def, E0_def, EGuard_true, EGuard_false, beq_self_eq_true, beq_true, beq_false, bne_self_eq_false, wantedA, acall, astep, ev, ofValue, ofAtom, Fr.put_some, Fr.put_none, fr0_zero, fr0_succ, fr0_nil, Nat.reduceEqDiff, Nat.reduceAdd, Nat.reduceMul, Nat.reduceSub, reduceCtorEq, if_true, if_false, reduceIte, Option.map_some, Option.map_none, Option.bind_some, Option.bind_none, aoptEv, abin, aint, ashift, aun, astr, aeqGuard, isConstOp, or_self, or_true, true_or, or_false, false_or, and_self, and_true, true_and, and_false, false_and, not_true_eq_false, not_false_eq_true, Bool.false_eq_true, Bool.true_eq_false, decide_eq_true_eq, decide_eq_false_iff_not, beq_iff_eq, bne_iff_ne, Bool.not_eq_true', Bool.not_true, Bool.not_false, ne_eq, aconvH, aofStr, aconvSame, isU8, abuildSlice, afill, splice, azeros, AV.solid_int, AV.one_int, AV.cells_int, AV.solid_bool, AV.one_bool, AV.cells_bool, AV.solid_str, AV.one_str, AV.cells_str, AV.solid_nilI, AV.one_nilI, AV.cells_nilI, AV.solid_ifc, AV.one_ifc, AV.cells_ifc, AV.solid_nilP, AV.one_nilP, AV.cells_nilP, AV.solid_ptr, AV.one_ptr, AV.cells_ptr, AV.solid_nilS, AV.one_nilS, AV.cells_nilS, AV.solid_sl, AV.one_sl, AV.cells_sl, AV.solid_sg, AV.one_sg, AV.cells_sg, AV.solid_fn, AV.one_fn, AV.cells_fn, AV.cells_agg, List.replicate_succ, List.replicate_zero, List.flatten_cons, List.flatten_nil, List.append_nil, List.nil_append, List.cons_append, List.take_succ_cons, List.take_zero, List.drop_succ_cons, List.drop_zero, List.length_cons, List.length_nil, List.all_cons, List.all_nil, Bool.and_true, Bool.true_and, Bool.and_self, Nat.reduceLeDiff, Nat.reduceLT, Int.reduceLE, Int.reduceLT, Int.reduceEq, Int.reduceToNat, Int.cast_ofNat_Int, Int.reducePow, IntKind.bits, Nat.min_def, Int.reduceNeg, Nat.zero_add, Nat.reduceEqDiff, hget_push, set_push_new, List.map_cons, List.map_nil, List.toList_toArray, List.getElem?_toArray, List.getElem?_cons_zero, List.getElem?_cons_succ, und3, agg3, size3, bytes3, zero3, und4, agg4, size4, bytes4, zero4, eqB4, und5, agg5, size5, bytes5, zero5, und9, agg9, size9, bytes9, zero9, und22, agg22, size22, bytes22, zero22, lenS22, lenG22, lenN22, eqSl22, eqSg22, eqSn22, und32, agg32, size32, bytes32, zero32, lenS32, lenG32, lenN32, eqSl32, eqSg32, eqSn32, und35, agg35, size35, bytes35, zero35, eqPn35, eqPP35, cv5_3, cv22_9, k0, k1, k2, k3, k9, hr.len und32, at0, ld0, at1, ld1, str22_9 hu, str22_9 ht, str22_9 ha4, str22_9 hb4, strOf_eq a, strOf_eq b, c1, g4, g5])
      | (simp (disch := omega) only [optIf, optIfN, selP, selN, avP, avN])
    refine ECall_intro (feedN X7 H4.length .nilS w5 0 [] _ _ _ hp7 (Ints.nil _ _) o5.ints (List.nil_append _) hb7 (by omega) (by omega) rfl) ?_
    rintro r5 H8 ⟨vs5, v5, _, _, i5, x5, fr5⟩
    have e25 : Ext H2 X7 := xx.trans ((Ext.push H4 (pblk .nilS 0)).trans y5)
    have hl24 : H2.length ≤ H4.length := xx.len
    have x28 : Ext H2 H8 := (e25.set hl24 _).trans x5
    have hp8 : hget H8 H4.length = some (pblk v5 (0 + (parseN ([170] ++ zs)).2.2)) := hget_ext (by rw [hget_set (hget_lt hp7), if_pos rfl]) x5
    have g8 : OwnB H8 (.sg gh 0 (frameOf b).length 1) (frameOf b) H1.length := Own.ext hg x28
    have hgh2 : gh < H2.length ∧ H1.length ≤ gh := by
      rcases hg.row with ⟨h1, _⟩ | ⟨_, _, h1, _⟩ | ⟨h', h1, h2, h3, h4⟩
      · cases h1
      · cases h1
      · cases h1; exact ⟨hget_lt h2, h4⟩
    obtain ⟨q, hq, hq9⟩ : ∃ q : Nat, cut.tmod 9 = q ∧ q < 9 := by
      rw [Int.tmod_eq_emod_of_nonneg hcut.1]
      exact ⟨(cut % 9).toNat, by have := Int.emod_nonneg cut (b := 9) (by omega); omega, by have := Int.emod_lt_of_pos cut (b := 9) (by omega); omega⟩
    have e1 : IntKind.i64.wrap (q : Int) = q := wrap_i64_id (by omega) (by omega)
    have e2 : IntKind.i64.wrap (50 + (q : Int)) = ((50 + q : Nat) : Int) := by rw [wrap_i64_id (by omega) (by omega)]; omega
    obtain ⟨g6, ghl⟩ := app_zeros g8 (m := 50 + q) (by omega) (by rw [frameOf_length]; omega)
    have hv5hd : v5.hd ≠ gh := by
      have := fr5 (by simp)
      have := e25.len
      omega
    have i9 : Ints (H8.set gh ⟨[], .dead, 5⟩ ++ [⟨(frameOf b ++ List.replicate (50 + q) 0).map (AV.int .u8), .own, 5⟩]) .u8 v5 (parseN ([170] ++ zs)).2.1 := (ints_set i5 ghl (.inr hv5hd)).push _
    have hp9 : hget (H8.set gh ⟨[], .dead, 5⟩ ++ [⟨(frameOf b ++ List.replicate (50 + q) 0).map (AV.int .u8), .own, 5⟩]) H4.length = some (pblk v5 (0 + (parseN ([170] ++ zs)).2.2)) := by
      have hpl := hget_lt hp8
      rw [hget_push, if_neg (by rw [List.length_set]; omega), hget_set ghl, if_neg (by omega)]
      exact hp8
    have ig : Ints (H8.set gh ⟨[], .dead, 5⟩ ++ [⟨(frameOf b ++ List.replicate (50 + q) 0).map (AV.int .u8), .own, 5⟩]) .u8 (.sg H8.length 0 ((frameOf b).length + (50 + q)) 1) (frameOf b ++ List.replicate (50 + q) 0) := by
      have hrd := Rd.grown (H8.set gh ⟨[], .dead, 5⟩) (z := 1) (n := (frameOf b ++ List.replicate (50 + q) 0).length) (cs := (frameOf b ++ List.replicate (50 + q) 0).map (AV.int .u8)) (k := .own) (e := 5) (by decide) (by simp)
      rw [List.length_set] at hrd
      unfold Ints
      rw [List.length_append, List.length_replicate] at hrd ⊢
      exact hrd
    have x19 : Ext H1 (H8.set gh ⟨[], .dead, 5⟩ ++ [⟨(frameOf b ++ List.replicate (50 + q) 0).map (AV.int .u8), .own, 5⟩]) := ((x2.trans x28).set hgh2.2 _).pushed _
    have hb9 : Bytes ((parseN ([170] ++ zs)).2.1 ++ (frameOf b ++ List.replicate (50 + q) 0)) := by
      intro x hx
      rcases List.mem_append.1 hx with hx | hx
      · rw [hrest] at hx
        exact hb7 x (List.mem_of_mem_drop hx)
      · rcases List.mem_append.1 hx with hx | hx
        · exact frameOf_bytes hbb b2 x hx
        · rw [(List.mem_replicate.1 hx).2]; omega
    have l9 : ((parseN ([170] ++ zs)).2.1 ++ (frameOf b ++ List.replicate (50 + q) 0)).length < 1000000 := by
      rw [List.length_append, List.length_append, frameOf_length, List.length_replicate, hrest, List.length_drop, l7]; omega
    repeat' first
      | (with_reducible refine AWp_seq_k (fun K hK => ?_))
      | (with_reducible refine AWp_block ?_)
      | (with_reducible refine AWp_skip ?_)
      | (with_reducible refine AWp_exit ?_)
      | (with_reducible refine AWp_ret ?_)
      | (with_reducible refine AWp_regionE ?_)
      | (with_reducible refine AWp_drawE (id := 14) (.one 0 (.one 1 (.one 2 (.one 3 (.one 4 (.one 5 (.one 6 (.one 7 (.one 8 (.one 9 (.one 10 (.one 11 (.one 12 (.one 13 (.one 14 (.one 15 (.one 16 (.one 17 (.one 18 (.one 19 (.one 20 (.one 21 (.one 22 (.one 23 (.one 24 (.one 25 .nil)))))))))))))))))))))))))) (by kernel_rfl) (by kernel_rfl) ?_)
      | (with_reducible refine AWp_drawE (id := 19) (.one 0 (.one 1 (.one 2 (.one 3 (.one 4 (.one 5 (.one 6 (.one 7 (.one 8 (.one 9 (.one 10 (.one 11 (.one 12 (.one 13 (.one 14 (.one 15 (.one 16 (.one 17 (.one 18 (.one 19 (.one 20 (.one 21 (.one 22 (.one 23 .nil)))))))))))))))))))))))) (by kernel_rfl) (by kernel_rfl) ?_)
      | (with_reducible refine AWp_condI ?_)
      | (with_reducible refine EGuard_split (fun hc => ?_) (fun hc => ?_) <;> (try simp only [Bool.not_eq_true', Bool.not_eq_false', decide_eq_true_eq, decide_eq_false_iff_not, beq_iff_eq, beq_eq_false_iff_ne, bne_iff_ne, bne_eq_false_iff_eq, Bool.false_eq_true, ne_eq, Decidable.not_not, Bool.not_eq_eq_eq_not, Bool.not_true, Bool.not_false, not_true_eq_false, not_false_eq_true] at hc) <;> (try (exfalso; first | omega | contradiction)))
      | (with_reducible refine And.intro ?_ ?_)
      | (with_reducible refine AIte (fun hc => ?_) (fun hc => ?_) <;> (try simp only [Bool.not_eq_true', Bool.not_eq_false', decide_eq_true_eq, decide_eq_false_iff_not, beq_iff_eq, beq_eq_false_iff_ne, bne_iff_ne, bne_eq_false_iff_eq, Bool.false_eq_true, ne_eq, Decidable.not_not, Bool.not_eq_eq_eq_not, Bool.not_true, Bool.not_false, not_true_eq_false, not_false_eq_true] at hc) <;> (try (exfalso; first | omega | contradiction)))
      | (simp only [thenA, inBlockA, reduceIte, Nat.reduceEqDiff])
      | ((with_reducible refine hK _ _ ?_); clear hK)
      | (clear hK; (with_reducible refine hK _ _ ?_); clear hK)
      | (clear hK; clear hK; (with_reducible refine hK _ _ ?_); clear hK)
      | (clear hK; clear hK; clear hK; (with_reducible refine hK _ _ ?_); clear hK)
      | (clear hK; clear hK; clear hK; clear hK; (with_reducible refine hK _ _ ?_); clear hK)
      | (clear hK; clear hK; clear hK; clear hK; clear hK; (with_reducible refine hK _ _ ?_); clear hK)
      | (simp only [ACond, Run_nil, Run_cons, Run_pnil, Run_one, Run_alt, EAt_def, EStep_def, E0_def, EGuard_true, EGuard_false, beq_self_eq_true, beq_true, beq_false, bne_self_eq_false, wantedA, acall, astep, ev, ofValue, ofAtom, Fr.put_some, Fr.put_none, fr0_zero, fr0_succ, fr0_nil, Nat.reduceEqDiff, Nat.reduceAdd, Nat.reduceMul, Nat.reduceSub, reduceCtorEq, if_true, if_false, reduceIte, Option.map_some, Option.map_none, Option.bind_some, Option.bind_none, aoptEv, abin, aint, ashift, aun, astr, aeqGuard, isConstOp, or_self, or_true, true_or, or_false, false_or, and_self, and_true, true_and, and_false, false_and, not_true_eq_false, not_false_eq_true, Bool.false_eq_true, Bool.true_eq_false, decide_eq_true_eq, decide_eq_false_iff_not, beq_iff_eq, bne_iff_ne, Bool.not_eq_true', Bool.not_true, Bool.not_false, ne_eq, aconvH, aofStr, aconvSame, isU8, abuildSlice, afill, splice, azeros, AV.solid_int, AV.one_int, AV.cells_int, AV.solid_bool, AV.one_bool, AV.cells_bool, AV.solid_str, AV.one_str, AV.cells_str, AV.solid_nilI, AV.one_nilI, AV.cells_nilI, AV.solid_ifc, AV.one_ifc, AV.cells_ifc, AV.solid_nilP, AV.one_nilP, AV.cells_nilP, AV.solid_ptr, AV.one_ptr, AV.cells_ptr, AV.solid_nilS, AV.one_nilS, AV.cells_nilS, AV.solid_sl, AV.one_sl, AV.cells_sl, AV.solid_sg, AV.one_sg, AV.cells_sg, AV.solid_fn, AV.one_fn, AV.cells_fn, AV.cells_agg, List.replicate_succ, List.replicate_zero, List.flatten_cons, List.flatten_nil, List.append_nil, List.nil_append, List.cons_append, List.take_succ_cons, List.take_zero, List.drop_succ_cons, List.drop_zero, List.length_cons, List.length_nil, List.all_cons, List.all_nil, Bool.and_true, Bool.true_and, Bool.and_self, Nat.reduceLeDiff, Nat.reduceLT, Int.reduceLE, Int.reduceLT, Int.reduceEq, Int.reduceToNat, Int.cast_ofNat_Int, Int.reducePow, IntKind.bits, Nat.min_def, Int.reduceNeg, Nat.zero_add, Nat.reduceEqDiff, hget_push, set_push_new, List.map_cons, List.map_nil, List.toList_toArray, List.getElem?_toArray, List.getElem?_cons_zero, List.getElem?_cons_succ, und3, agg3, size3, bytes3, zero3, und4, agg4, size4, bytes4, zero4, eqB4, und5, agg5, size5, bytes5, zero5, und9, agg9, size9, bytes9, zero9, und22, agg22, size22, bytes22, zero22, lenS22, lenG22, lenN22, eqSl22, eqSg22, eqSn22, und32, agg32, size32, bytes32, zero32, lenS32, lenG32, lenN32, eqSl32, eqSg32, eqSn32, und35, agg35, size35, bytes35, zero35, eqPn35, eqPP35, cv5_3, cv22_9, k0, k1, k2, k3, k9, hq, e1, e2, g6])
      | (simp (disch := omega) only [optIf, optIfN, selP, selN, avP, avN])
    refine ECall_intro (feedN _ H4.length v5 _ _ _ _ _ _ hp9 i9 ig rfl hb9 l9 (by omega) rfl) ?_
    intro r9 H10 hfe9
    have l19 : H1.length ≤ H4.length := (x2.trans xx).len
    have x10 : Ext H1 H10 := by
      obtain ⟨_, _, _, _, _, hx, _⟩ := hfe9
      exact (x19.set l19 _).trans hx
    have v10 := hv.ext (x1.trans x10)
    have b10 := hb.ext (x1.trans x10)
    have z0 : zs ≠ [] → aindexAddr Try.prog 22 v (.int .i64 0) = some (.ptr v.hd v.of) ∧ aload Try.prog H10 5 (.ptr v.hd v.of) = some (.int .u8 (zs.getD 0 0)) := by
      intro hne
      have hpos : 0 < zs.length := List.length_pos_iff.2 hne
      constructor
      · have := v10.rd.at_ (P := Try.prog) und22 size5 (k := .i64) (j := 0) (by omega) (by omega)
        simpa using this
      · have := v10.load (P := Try.prog) agg5 (i := 0) hpos
        simpa using this
    by_cases h85 : zs ≠ [] ∧ zs.getD 0 0 = 85
    · obtain ⟨z1, z2⟩ := z0 h85.1
      have hpos : 0 < zs.length := List.length_pos_iff.2 h85.1
      repeat' first
        | (with_reducible refine AWp_seq_k (fun K hK => ?_))
        | (with_reducible refine AWp_block ?_)
        | (with_reducible refine AWp_skip ?_)
        | (with_reducible refine AWp_exit ?_)
        | (with_reducible refine AWp_ret ?_)
        | (with_reducible refine AWp_regionE ?_)
        | (with_reducible refine AWp_drawE (id := 14) (.one 0 (.one 1 (.one 2 (.one 3 (.one 4 (.one 5 (.one 6 (.one 7 (.one 8 (.one 9 (.one 10 (.one 11 (.one 12 (.one 13 (.one 14 (.one 15 (.one 16 (.one 17 (.one 18 (.one 19 (.one 20 (.one 21 (.one 22 (.one 23 (.one 24 (.one 25 .nil)))))))))))))))))))))))))) (by kernel_rfl) (by kernel_rfl) ?_)
        | (with_reducible refine AWp_drawE (id := 19) (.one 0 (.one 1 (.one 2 (.one 3 (.one 4 (.one 5 (.one 6 (.one 7 (.one 8 (.one 9 (.one 10 (.one 11 (.one 12 (.one 13 (.one 14 (.one 15 (.one 16 (.one 17 (.one 18 (.one 19 (.one 20 (.one 21 (.one 22 (.one 23 .nil)))))))))))))))))))))))) (by kernel_rfl) (by kernel_rfl) ?_)
        | (with_reducible refine AWp_condI ?_)
        | (with_reducible refine EGuard_split (fun hc => ?_) (fun hc => ?_) <;> (try simp only [Bool.not_eq_true', Bool.not_eq_false', decide_eq_true_eq, decide_eq_false_iff_not, beq_iff_eq, beq_eq_false_iff_ne, bne_iff_ne, bne_eq_false_iff_eq, Bool.false_eq_true, ne_eq, Decidable.not_not, Bool.not_eq_eq_eq_not, Bool.not_true, Bool.not_false, not_true_eq_false, not_false_eq_true] at hc) <;> (try (exfalso; first | omega | contradiction)))
        | (with_reducible refine And.intro ?_ ?_)
        | (with_reducible refine AIte (fun hc => ?_) (fun hc => ?_) <;> (try simp only [Bool.not_eq_true', Bool.not_eq_false', decide_eq_true_eq, decide_eq_false_iff_not, beq_iff_eq, beq_eq_false_iff_ne, bne_iff_ne, bne_eq_false_iff_eq, Bool.false_eq_true, ne_eq, Decidable.not_not, Bool.not_eq_eq_eq_not, Bool.not_true, Bool.not_false, not_true_eq_false, not_false_eq_true] at hc) <;> (try (exfalso; first | omega | contradiction)))
        | (simp only [thenA, inBlockA, reduceIte, Nat.reduceEqDiff])
        | ((with_reducible refine hK _ _ ?_); clear hK)
        | (clear hK; (with_reducible refine hK _ _ ?_); clear hK)
        | (clear hK; clear hK; (with_reducible refine hK _ _ ?_); clear hK)
        | (clear hK; clear hK; clear hK; (with_reducible refine hK _ _ ?_); clear hK)
        | (clear hK; clear hK; clear hK; clear hK; (with_reducible refine hK _ _ ?_); clear hK)
        | (clear hK; clear hK; clear hK; clear hK; clear hK; (with_reducible refine hK _ _ ?_); clear hK)
        | (simp only [ACond, Run_nil, Run_cons, Run_pnil, Run_one, Run_alt, EAt_def, EStep_def, E0_def, EGuard_true, EGuard_false, beq_self_eq_true, beq_true, beq_false, bne_self_eq_false, wantedA, acall, astep, ev, ofValue, ofAtom, Fr.put_some, Fr.put_none, fr0_zero, fr0_succ, fr0_nil, Nat.reduceEqDiff, Nat.reduceAdd, Nat.reduceMul, Nat.reduceSub, reduceCtorEq, if_true, if_false, reduceIte, Option.map_some, Option.map_none, Option.bind_some, Option.bind_none, aoptEv, abin, aint, ashift, aun, astr, aeqGuard, isConstOp, or_self, or_true, true_or, or_false, false_or, and_self, and_true, true_and, and_false, false_and, not_true_eq_false, not_false_eq_true, Bool.false_eq_true, Bool.true_eq_false, decide_eq_true_eq, decide_eq_false_iff_not, beq_iff_eq, bne_iff_ne, Bool.not_eq_true', Bool.not_true, Bool.not_false, ne_eq, aconvH, aofStr, aconvSame, isU8, abuildSlice, afill, splice, azeros, AV.solid_int, AV.one_int, AV.cells_int, AV.solid_bool, AV.one_bool, AV.cells_bool, AV.solid_str, AV.one_str, AV.cells_str, AV.solid_nilI, AV.one_nilI, AV.cells_nilI, AV.solid_ifc, AV.one_ifc, AV.cells_ifc, AV.solid_nilP, AV.one_nilP, AV.cells_nilP, AV.solid_ptr, AV.one_ptr, AV.cells_ptr, AV.solid_nilS, AV.one_nilS, AV.cells_nilS, AV.solid_sl, AV.one_sl, AV.cells_sl, AV.solid_sg, AV.one_sg, AV.cells_sg, AV.solid_fn, AV.one_fn, AV.cells_fn, AV.cells_agg, List.replicate_succ, List.replicate_zero, List.flatten_cons, List.flatten_nil, List.append_nil, List.nil_append, List.cons_append, List.take_succ_cons, List.take_zero, List.drop_succ_cons, List.drop_zero, List.length_cons, List.length_nil, List.all_cons, List.all_nil, Bool.and_true, Bool.true_and, Bool.and_self, Nat.reduceLeDiff, Nat.reduceLT, Int.reduceLE, Int.reduceLT, Int.reduceEq, Int.reduceToNat, Int.cast_ofNat_Int, Int.reducePow, IntKind.bits, Nat.min_def, Int.reduceNeg, Nat.zero_add, Nat.reduceEqDiff, hget_push, set_push_new, List.map_cons, List.map_nil, List.toList_toArray, List.getElem?_toArray, List.getElem?_cons_zero, List.getElem?_cons_succ, und3, agg3, size3, bytes3, zero3, und4, agg4, size4, bytes4, zero4, eqB4, und5, agg5, size5, bytes5, zero5, und9, agg9, size9, bytes9, zero9, und22, agg22, size22, bytes22, zero22, lenS22, lenG22, lenN22, eqSl22, eqSg22, eqSn22, und32, agg32, size32, bytes32, zero32, lenS32, lenG32, lenN32, eqSl32, eqSg32, eqSn32, und35, agg35, size35, bytes35, zero35, eqPn35, eqPP35, cv5_3, cv22_9, k0, k1, k2, k3, k9, v10.rd.len und22, z1, z2, h85.2])
        | (simp (disch := omega) only [optIf, optIfN, selP, selN, avP, avN])
      all_goals
        (
         first | refine AEnd_ret1 rfl ?_ | refine AEnd_ret2 rfl ?_ | refine AEnd_ret3 rfl ?_ | refine AEnd_ret0 rfl ?_
         simp only [Fr.put_some, Fr.put_none, fr0_zero, fr0_succ, fr0_nil, Nat.reduceEqDiff, reduceIte])
    · rw [hides_two (hides_left hz170 (by by_cases h : zs = []; exact .inl h; exact .inr fun h' => h85 ⟨h, h'⟩)) b1 b2] at hfe9
      obtain ⟨u', v', hr, hu, hp10, hv', at0, ld0, ext10⟩ := feed_one hp9 hfe9
      by_cases h0 : zs = []
      · have hl0 : zs.length = 0 := by rw [h0]; rfl
        repeat' first
          | (with_reducible refine AWp_seq_k (fun K hK => ?_))
          | (with_reducible refine AWp_block ?_)
          | (with_reducible refine AWp_skip ?_)
          | (with_reducible refine AWp_exit ?_)
          | (with_reducible refine AWp_ret ?_)
          | (with_reducible refine AWp_regionE ?_)
          | (with_reducible refine AWp_drawE (id := 14) (.one 0 (.one 1 (.one 2 (.one 3 (.one 4 (.one 5 (.one 6 (.one 7 (.one 8 (.one 9 (.one 10 (.one 11 (.one 12 (.one 13 (.one 14 (.one 15 (.one 16 (.one 17 (.one 18 (.one 19 (.one 20 (.one 21 (.one 22 (.one 23 (.one 24 (.one 25 .nil)))))))))))))))))))))))))) (by kernel_rfl) (by kernel_rfl) ?_)
          | (with_reducible refine AWp_drawE (id := 19) (.one 0 (.one 1 (.one 2 (.one 3 (.one 4 (.one 5 (.one 6 (.one 7 (.one 8 (.one 9 (.one 10 (.one 11 (.one 12 (.one 13 (.one 14 (.one 15 (.one 16 (.one 17 (.one 18 (.one 19 (.one 20 (.one 21 (.one 22 (.one 23 .nil)))))))))))))))))))))))) (by kernel_rfl) (by kernel_rfl) ?_)
          | (with_reducible refine AWp_condI ?_)
          | (with_reducible refine EGuard_split (fun hc => ?_) (fun hc => ?_) <;> (try simp only [Bool.not_eq_true', Bool.not_eq_false', decide_eq_true_eq, decide_eq_false_iff_not, beq_iff_eq, beq_eq_false_iff_ne, bne_iff_ne, bne_eq_false_iff_eq, Bool.false_eq_true, ne_eq, Decidable.not_not, Bool.not_eq_eq_eq_not, Bool.not_true, Bool.not_false, not_true_eq_false, not_false_eq_true] at hc) <;> (try (exfalso; first | omega | contradiction)))
          | (with_reducible refine And.intro ?_ ?_)
          | (with_reducible refine AIte (fun hc => ?_) (fun hc => ?_) <;> (try simp only [Bool.not_eq_true', Bool.not_eq_false', decide_eq_true_eq, decide_eq_false_iff_not, beq_iff_eq, beq_eq_false_iff_ne, bne_iff_ne, bne_eq_false_iff_eq, Bool.false_eq_true, ne_eq, Decidable.not_not, Bool.not_eq_eq_eq_not, Bool.not_true, Bool.not_false, not_true_eq_false, not_false_eq_true] at hc) <;> (try (exfalso; first | omega | contradiction)))
          | (simp only [thenA, inBlockA, reduceIte, Nat.reduceEqDiff])
          | ((with_reducible refine hK _ _ ?_); clear hK)
          | (clear hK; (with_reducible refine hK _ _ ?_); clear hK)
          | (clear hK; clear hK; (with_reducible refine hK _ _ ?_); clear hK)
          | (clear hK; clear hK; clear hK; (with_reducible refine hK _ _ ?_); clear hK)
          | (clear hK; clear hK; clear hK; clear hK; (with_reducible refine hK _ _ ?_); clear hK)
          | (clear hK; clear hK; clear hK; clear hK; clear hK; (with_reducible refine hK _ _ ?_); clear hK)
          | (simp only [ACond, Run_nil, Run_cons, Run_pnil, Run_one, Run_alt, EAt_def, EStep_def, E0_def, EGuard_true, EGuard_false, beq_self_eq_true, beq_true, beq_false, bne_self_eq_false, wantedA, acall, astep, ev, ofValue, ofAtom, Fr.put_some, Fr.put_none, fr0_zero, fr0_succ, fr0_nil, Nat.reduceEqDiff, Nat.reduceAdd, Nat.reduceMul, Nat.reduceSub, reduceCtorEq, if_true, if_false, reduceIte, Option.map_some, Option.map_none, Option.bind_some, Option.bind_none, aoptEv, abin, aint, ashift, aun, astr, aeqGuard, isConstOp, or_self, or_true, true_or, or_false, false_or, and_self, and_true, true_and, and_false, false_and, not_true_eq_false, not_false_eq_true, Bool.false_eq_true, Bool.true_eq_false, decide_eq_true_eq, decide_eq_false_iff_not, beq_iff_eq, bne_iff_ne, Bool.not_eq_true', Bool.not_true, Bool.not_false, ne_eq, aconvH, aofStr, aconvSame, isU8, abuildSlice, afill, splice, azeros, AV.solid_int, AV.one_int, AV.cells_int, AV.solid_bool, AV.one_bool, AV.cells_bool, AV.solid_str, AV.one_str, AV.cells_str, AV.solid_nilI, AV.one_nilI, AV.cells_nilI, AV.solid_ifc, AV.one_ifc, AV.cells_ifc, AV.solid_nilP, AV.one_nilP, AV.cells_nilP, AV.solid_ptr, AV.one_ptr, AV.cells_ptr, AV.solid_nilS, AV.one_nilS, AV.cells_nilS, AV.solid_sl, AV.one_sl, AV.cells_sl, AV.solid_sg, AV.one_sg, AV.cells_sg, AV.solid_fn, AV.one_fn, AV.cells_fn, AV.cells_agg, List.replicate_succ, List.replicate_zero, List.flatten_cons, List.flatten_nil, List.append_nil, List.nil_append, List.cons_append, List.take_succ_cons, List.take_zero, List.drop_succ_cons, List.drop_zero, List.length_cons, List.length_nil, List.all_cons, List.all_nil, Bool.and_true, Bool.true_and, Bool.and_self, Nat.reduceLeDiff, Nat.reduceLT, Int.reduceLE, Int.reduceLT, Int.reduceEq, Int.reduceToNat, Int.cast_ofNat_Int, Int.reducePow, IntKind.bits, Nat.min_def, Int.reduceNeg, Nat.zero_add, Nat.reduceEqDiff, hget_push, set_push_new, List.map_cons, List.map_nil, List.toList_toArray, List.getElem?_toArray, List.getElem?_cons_zero, List.getElem?_cons_succ, und3, agg3, size3, bytes3, zero3, und4, agg4, size4, bytes4, zero4, eqB4, und5, agg5, size5, bytes5, zero5, und9, agg9, size9, bytes9, zero9, und22, agg22, size22, bytes22, zero22, lenS22, lenG22, lenN22, eqSl22, eqSg22, eqSn22, und32, agg32, size32, bytes32, zero32, lenS32, lenG32, lenN32, eqSl32, eqSg32, eqSn32, und35, agg35, size35, bytes35, zero35, eqPn35, eqPP35, cv5_3, cv22_9, k0, k1, k2, k3, k9, v10.rd.len und22, hl0, hr.len und32, at0, ld0, str22_9 hu, str22_9 b10, strOf_eq b])
          | (simp (disch := omega) only [optIf, optIfN, selP, selN, avP, avN])
        all_goals
          (
           first | refine AEnd_ret1 rfl ?_ | refine AEnd_ret2 rfl ?_ | refine AEnd_ret3 rfl ?_ | refine AEnd_ret0 rfl ?_
           simp only [Fr.put_some, Fr.put_none, fr0_zero, fr0_succ, fr0_nil, Nat.reduceEqDiff, reduceIte])
        all_goals simp
      · obtain ⟨z1, z2⟩ := z0 h0
        have hpos : 0 < zs.length := List.length_pos_iff.2 h0
        have h85' : ¬ zs.getD 0 0 = 85 := fun h => h85 ⟨h0, h⟩
        repeat' first
          | (with_reducible refine AWp_seq_k (fun K hK => ?_))
          | (with_reducible refine AWp_block ?_)
          | (with_reducible refine AWp_skip ?_)
          | (with_reducible refine AWp_exit ?_)
          | (with_reducible refine AWp_ret ?_)
          | (with_reducible refine AWp_regionE ?_)
          | (with_reducible refine AWp_drawE (id := 14) (.one 0 (.one 1 (.one 2 (.one 3 (.one 4 (.one 5 (.one 6 (.one 7 (.one 8 (.one 9 (.one 10 (.one 11 (.one 12 (.one 13 (.one 14 (.one 15 (.one 16 (.one 17 (.one 18 (.one 19 (.one 20 (.one 21 (.one 22 (.one 23 (.one 24 (.one 25 .nil)))))))))))))))))))))))))) (by kernel_rfl) (by kernel_rfl) ?_)
          | (with_reducible refine AWp_drawE (id := 19) (.one 0 (.one 1 (.one 2 (.one 3 (.one 4 (.one 5 (.one 6 (.one 7 (.one 8 (.one 9 (.one 10 (.one 11 (.one 12 (.one 13 (.one 14 (.one 15 (.one 16 (.one 17 (.one 18 (.one 19 (.one 20 (.one 21 (.one 22 (.one 23 .nil)))))))))))))))))))))))) (by kernel_rfl) (by kernel_rfl) ?_)
          | (with_reducible refine AWp_condI ?_)
          | (with_reducible refine EGuard_split (fun hc => ?_) (fun hc => ?_) <;> (try simp only [Bool.not_eq_true', Bool.not_eq_false', decide_eq_true_eq, decide_eq_false_iff_not, beq_iff_eq, beq_eq_false_iff_ne, bne_iff_ne, bne_eq_false_iff_eq, Bool.false_eq_true, ne_eq, Decidable.not_not, Bool.not_eq_eq_eq_not, Bool.not_true, Bool.not_false, not_true_eq_false, not_false_eq_true] at hc) <;> (try (exfalso; first | omega | contradiction)))
          | (with_reducible refine And.intro ?_ ?_)
          | (with_reducible refine AIte (fun hc => ?_) (fun hc => ?_) <;> (try simp only [Bool.not_eq_true', Bool.not_eq_false', decide_eq_true_eq, decide_eq_false_iff_not, beq_iff_eq, beq_eq_false_iff_ne, bne_iff_ne, bne_eq_false_iff_eq, Bool.false_eq_true, ne_eq, Decidable.not_not, Bool.not_eq_eq_eq_not, Bool.not_true, Bool.not_false, not_true_eq_false, not_false_eq_true] at hc) <;> (try (exfalso; first | omega | contradiction)))
          | (simp only [thenA, inBlockA, reduceIte, Nat.reduceEqDiff])
          | ((with_reducible refine hK _ _ ?_); clear hK)
          | (clear hK; (with_reducible refine hK _ _ ?_); clear hK)
          | (clear hK; clear hK; (with_reducible refine hK _ _ ?_); clear hK)
          | (clear hK; clear hK; clear hK; (with_reducible refine hK _ _ ?_); clear hK)
          | (clear hK; clear hK; clear hK; clear hK; (with_reducible refine hK _ _ ?_); clear hK)
          | (clear hK; clear hK; clear hK; clear hK; clear hK; (with_reducible refine hK _ _ ?_); clear hK)
          | (simp only [ACond, Run_nil, Run_cons, Run_pnil, Run_one, Run_alt, EAt_def, EStep_def, E0_def, EGuard_true, EGuard_false, beq_self_eq_true, beq_true, beq_false, bne_self_eq_false, wantedA, acall, astep, ev, ofValue, ofAtom, Fr.put_some, Fr.put_none, fr0_zero, fr0_succ, fr0_nil, Nat.reduceEqDiff, Nat.reduceAdd, Nat.reduceMul, Nat.reduceSub, reduceCtorEq, if_true, if_false, reduceIte, Option.map_some, Option.map_none, Option.bind_some, Option.bind_none, aoptEv, abin, aint, ashift, aun, astr, aeqGuard, isConstOp, or_self, or_true, true_or, or_false, false_or, and_self, and_true, true_and, and_false, false_and, not_true_eq_false, not_false_eq_true, Bool.false_eq_true, Bool.true_eq_false, decide_eq_true_eq, decide_eq_false_iff_not, beq_iff_eq, bne_iff_ne, Bool.not_eq_true', Bool.not_true, Bool.not_false, ne_eq, aconvH, aofStr, aconvSame, isU8, abuildSlice, afill, splice, azeros, AV.solid_int, AV.one_int, AV.cells_int, AV.solid_bool, AV.one_bool, AV.cells_bool, AV.solid_str, AV.one_str, AV.cells_str, AV.solid_nilI, AV.one_nilI, AV.cells_nilI, AV.solid_ifc, AV.one_ifc, AV.cells_ifc, AV.solid_nilP, AV.one_nilP, AV.cells_nilP, AV.solid_ptr, AV.one_ptr, AV.cells_ptr, AV.solid_nilS, AV.one_nilS, AV.cells_nilS, AV.solid_sl, AV.one_sl, AV.cells_sl, AV.solid_sg, AV.one_sg, AV.cells_sg, AV.solid_fn, AV.one_fn, AV.cells_fn, AV.cells_agg, List.replicate_succ, List.replicate_zero, List.flatten_cons, List.flatten_nil, List.append_nil, List.nil_append, List.cons_append, List.take_succ_cons, List.take_zero, List.drop_succ_cons, List.drop_zero, List.length_cons, List.length_nil, List.all_cons, List.all_nil, Bool.and_true, Bool.true_and, Bool.and_self, Nat.reduceLeDiff, Nat.reduceLT, Int.reduceLE, Int.reduceLT, Int.reduceEq, Int.reduceToNat, Int.cast_ofNat_Int, Int.reducePow, IntKind.bits, Nat.min_def, Int.reduceNeg, Nat.zero_add, Nat.reduceEqDiff, hget_push, set_push_new, List.map_cons, List.map_nil, List.toList_toArray, List.getElem?_toArray, List.getElem?_cons_zero, List.getElem?_cons_succ, und3, agg3, size3, bytes3, zero3, und4, agg4, size4, bytes4, zero4, eqB4, und5, agg5, size5, bytes5, zero5, und9, agg9, size9, bytes9, zero9, und22, agg22, size22, bytes22, zero22, lenS22, lenG22, lenN22, eqSl22, eqSg22, eqSn22, und32, agg32, size32, bytes32, zero32, lenS32, lenG32, lenN32, eqSl32, eqSg32, eqSn32, und35, agg35, size35, bytes35, zero35, eqPn35, eqPP35, cv5_3, cv22_9, k0, k1, k2, k3, k9, v10.rd.len und22, z1, z2, hr.len und32, at0, ld0, str22_9 hu, str22_9 b10, strOf_eq b])
          | (simp (disch := omega) only [optIf, optIfN, selP, selN, avP, avN])
        all_goals
          (
           first | refine AEnd_ret1 rfl ?_ | refine AEnd_ret2 rfl ?_ | refine AEnd_ret3 rfl ?_ | refine AEnd_ret0 rfl ?_
           simp only [Fr.put_some, Fr.put_none, fr0_zero, fr0_succ, fr0_nil, Nat.reduceEqDiff, reduceIte])
        all_goals simp

theorem hides_calls (cut : Int) (v va vb : AV) (zs a b : List Int) (H : Hp) (hv : Ints H .u8 v zs) (hz : Bytes zs) (ha : Ints H .u8 va a) (hab : Bytes a) (hb : Ints H .u8 vb b) (hbb : Bytes b) (hcut : 0 ≤ cut ∧ cut < 256)
    (lz : zs.length ≤ 9223372036854775807) (la : a.length ≤ 9223372036854775807) (lb : b.length ≤ 9223372036854775807) :
    ACalls Try.prog 7 [v, va, vb, .int .u8 cut] H fun r H' => r = .bool true := by
  by_cases h : zs.length ≤ 60 ∧ 1 ≤ a.length ∧ a.length ≤ 40 ∧ 1 ≤ b.length ∧ b.length ≤ 40
  · exact hides_in cut v va vb zs a b H hv hz ha hab hb hbb hcut h.1 h.2.1 h.2.2.1 h.2.2.2.1 h.2.2.2.2
  · skip
    refine ACalls_body Try.func7 rfl (by kernel_rfl) (by kernel_rfl) ?_
    repeat' first
      | (with_reducible refine AWp_seq_k (fun K hK => ?_))
      | (with_reducible refine AWp_block ?_)
      | (with_reducible refine AWp_skip ?_)
      | (with_reducible refine AWp_exit ?_)
      | (with_reducible refine AWp_ret ?_)
      | (with_reducible refine AWp_regionE ?_)
      | (with_reducible refine AWp_drawE (id := 14) (.one 0 (.one 1 (.one 2 (.one 3 (.one 4 (.one 5 (.one 6 (.one 7 (.one 8 (.one 9 (.one 10 (.one 11 (.one 12 (.one 13 (.one 14 (.one 15 (.one 16 (.one 17 (.one 18 (.one 19 (.one 20 (.one 21 (.one 22 (.one 23 (.one 24 (.one 25 .nil)))))))))))))))))))))))))) (by kernel_rfl) (by kernel_rfl) ?_)
      | (with_reducible refine AWp_drawE (id := 19) (.one 0 (.one 1 (.one 2 (.one 3 (.one 4 (.one 5 (.one 6 (.one 7 (.one 8 (.one 9 (.one 10 (.one 11 (.one 12 (.one 13 (.one 14 (.one 15 (.one 16 (.one 17 (.one 18 (.one 19 (.one 20 (.one 21 (.one 22 (.one 23 .nil)))))))))))))))))))))))) (by kernel_rfl) (by kernel_rfl) ?_)
      | (with_reducible refine AWp_condI ?_)
      | ((with_reducible refine ECall_intro (known11_calls _) ?_); rintro _ _ ⟨rfl, rfl⟩)
      | (with_reducible refine EGuard_split (fun hc => ?_) (fun hc => ?_) <;> (try simp only [Bool.not_eq_true', Bool.not_eq_false', decide_eq_true_eq, decide_eq_false_iff_not, beq_iff_eq, beq_eq_false_iff_ne, bne_iff_ne, bne_eq_false_iff_eq, Bool.false_eq_true, ne_eq, Decidable.not_not, Bool.not_eq_eq_eq_not, Bool.not_true, Bool.not_false, not_true_eq_false, not_false_eq_true] at hc) <;> (try (exfalso; first | omega | contradiction)))
      | (with_reducible refine And.intro ?_ ?_)
      | (with_reducible refine AIte (fun hc => ?_) (fun hc => ?_) <;> (try simp only [Bool.not_eq_true', Bool.not_eq_false', decide_eq_true_eq, decide_eq_false_iff_not, beq_iff_eq, beq_eq_false_iff_ne, bne_iff_ne, bne_eq_false_iff_eq, Bool.false_eq_true, ne_eq, Decidable.not_not, Bool.not_eq_eq_eq_not, Bool.not_true, Bool.not_false, not_true_eq_false, not_false_eq_true] at hc) <;> (try (exfalso; first | omega | contradiction)))
      | (simp only [thenA, inBlockA, reduceIte, Nat.reduceEqDiff])
      | ((with_reducible refine hK _ _ ?_); clear hK)
      | (clear hK; (with_reducible refine hK _ _ ?_); clear hK)
      | (clear hK; clear hK; (with_reducible refine hK _ _ ?_); clear hK)
      | (clear hK; clear hK; clear hK; (with_reducible refine hK _ _ ?_); clear hK)
      | (clear hK; clear hK; clear hK; clear hK; (with_reducible refine hK _ _ ?_); clear hK)
      | (clear hK; clear hK; clear hK; clear hK; clear hK; (with_reducible refine hK _ _ ?_); clear hK)
      | (simp only [ACond, Run_nil, Run_cons, Run_pnil, Run_one, Run_alt, EAt_def, EStep_def, E0_def, EGuard_true, EGuard_false, beq_self_eq_true, beq_true, beq_false, bne_self_eq_false, wantedA, acall, astep, ev, ofValue, ofAtom, Fr.put_some, Fr.put_none, fr0_zero, fr0_succ, fr0_nil, Nat.reduceEqDiff, Nat.reduceAdd, Nat.reduceMul, Nat.reduceSub, reduceCtorEq, if_true, if_false, reduceIte, Option.map_some, Option.map_none, Option.bind_some, Option.bind_none, aoptEv, abin, aint, ashift, aun, astr, aeqGuard, isConstOp, or_self, or_true, true_or, or_false, false_or, and_self, and_true, true_and, and_false, false_and, not_true_eq_false, not_false_eq_true, Bool.false_eq_true, Bool.true_eq_false, decide_eq_true_eq, decide_eq_false_iff_not, beq_iff_eq, bne_iff_ne, Bool.not_eq_true', Bool.not_true, Bool.not_false, ne_eq, aconvH, aofStr, aconvSame, isU8, abuildSlice, afill, splice, azeros, AV.solid_int, AV.one_int, AV.cells_int, AV.solid_bool, AV.one_bool, AV.cells_bool, AV.solid_str, AV.one_str, AV.cells_str, AV.solid_nilI, AV.one_nilI, AV.cells_nilI, AV.solid_ifc, AV.one_ifc, AV.cells_ifc, AV.solid_nilP, AV.one_nilP, AV.cells_nilP, AV.solid_ptr, AV.one_ptr, AV.cells_ptr, AV.solid_nilS, AV.one_nilS, AV.cells_nilS, AV.solid_sl, AV.one_sl, AV.cells_sl, AV.solid_sg, AV.one_sg, AV.cells_sg, AV.solid_fn, AV.one_fn, AV.cells_fn, AV.cells_agg, List.replicate_succ, List.replicate_zero, List.flatten_cons, List.flatten_nil, List.append_nil, List.nil_append, List.cons_append, List.take_succ_cons, List.take_zero, List.drop_succ_cons, List.drop_zero, List.length_cons, List.length_nil, List.all_cons, List.all_nil, Bool.and_true, Bool.true_and, Bool.and_self, Nat.reduceLeDiff, Nat.reduceLT, Int.reduceLE, Int.reduceLT, Int.reduceEq, Int.reduceToNat, Int.cast_ofNat_Int, Int.reducePow, IntKind.bits, Nat.min_def, Int.reduceNeg, Nat.zero_add, Nat.reduceEqDiff, hget_push, set_push_new, List.map_cons, List.map_nil, List.toList_toArray, List.getElem?_toArray, List.getElem?_cons_zero, List.getElem?_cons_succ, und3, agg3, size3, bytes3, zero3, und4, agg4, size4, bytes4, zero4, eqB4, und5, agg5, size5, bytes5, zero5, und9, agg9, size9, bytes9, zero9, und22, agg22, size22, bytes22, zero22, lenS22, lenG22, lenN22, eqSl22, eqSg22, eqSn22, und32, agg32, size32, bytes32, zero32, lenS32, lenG32, lenN32, eqSl32, eqSg32, eqSn32, und35, agg35, size35, bytes35, zero35, eqPn35, eqPP35, cv5_3, cv22_9, hv.rd.len und22, ha.rd.len und22, hb.rd.len und22])
      | (simp (disch := omega) only [optIf, optIfN, selP, selN, avP, avN])
    all_goals
      (
       first | refine AEnd_ret1 rfl ?_ | refine AEnd_ret2 rfl ?_ | refine AEnd_ret3 rfl ?_ | refine AEnd_ret0 rfl ?_
       simp only [Fr.put_some, Fr.put_none, fr0_zero, fr0_succ, fr0_nil, Nat.reduceEqDiff, reduceIte])
end Go.Proofs.Ytdlplfhkmhkngaa

/- A part of the proofs of this seat: FrC. No condition. -/
import Derived.Test.YtdlplfhkmhkngaaFrB
set_option linter.unusedVariables false
set_option linter.unusedSimpArgs false
namespace Go.Proofs.Ytdlplfhkmhkngaa
open Go.AL

/-- Bytes of the run's own. -/
def OwnB (H : Hp) (v : AV) (xs : List Int) (lo : Nat) : Prop := Own H 1 5 v (xs.map (AV.int .u8)) xs.length lo
theorem OwnB.ints {H : Hp} {v : AV} {xs : List Int} {lo : Nat} (h : OwnB H v xs lo) : Ints H .u8 v xs := Own.rd h
theorem OwnB.sl {H : Hp} {h o : Nat} {xs : List Int} {lo n : Nat} (hi : Ints H .u8 (.sl h o n n) xs) (hn : n = xs.length) (hg : ∃ b, hget H h = some b ∧ b.ety = 5) : OwnB H (.sl h o n n) xs lo := by
  subst hn; exact ⟨.inr (.inl ⟨_, _, rfl, hi, hg⟩)⟩
theorem OwnB.mono {H : Hp} {v : AV} {xs : List Int} {lo lo' : Nat} (h : OwnB H v xs lo) (hl : lo' ≤ lo) : OwnB H v xs lo' := by
  refine ⟨?_⟩
  rcases h.row with h | h | ⟨h', a, b, c, d⟩
  · exact .inl h
  · exact .inr (.inl h)
  · exact .inr (.inr ⟨h', a, b, c, Nat.le_trans hl d⟩)
theorem OwnB.grown (X : Hp) (b : Blk) {xs : List Int} {lo : Nat} (hl : lo ≤ X.length + 1) : OwnB ((X ++ [b]) ++ [⟨xs.map (AV.int .u8), .own, 5⟩]) (.sg (X.length + 1) 0 xs.length 1) xs lo :=
  ⟨.inr (.inr ⟨_, rfl, by rw [hget_push, if_pos (by rw [len_push])], by simp, hl⟩)⟩
theorem OwnB.push {H : Hp} {v : AV} {xs : List Int} {lo : Nat} (h : OwnB H v xs lo) (b : Blk) : OwnB (H ++ [b]) v xs lo := Own.push h b
theorem OwnB.app {H0 X : Hp} {s x : AV} {ps bs : List Int} (h : OwnB X s ps H0.length) (x0 : Ext H0 X) (hx : Ints X .u8 x bs) (hm : ps.length + bs.length < 1000000000000) :
    ∃ v' H', aappend Try.prog X 22 s x = some (v', H') ∧ OwnB H' v' (ps ++ bs) H0.length ∧ Ext H0 H' := by
  obtain ⟨v', H', h1, h2, h3, _⟩ := Own.append h hx.rd x0 und22 size5 zero5 rfl (by decide) bytes5 (ints_one _ _) (ints_one _ _) (by omega) (by omega)
  refine ⟨v', H', h1, ?_, h3⟩
  unfold OwnB
  rw [List.map_append, List.length_append]
  exact h2

theorem OwnB.app' {H0 X : Hp} {s x : AV} {ps bs : List Int} (h : OwnB X s ps H0.length) (x0 : Ext H0 X) (hx : Ints X .u8 x bs) (hm : ps.length + bs.length < 1000000000000) :
    ∃ v' H', aappend Try.prog X 22 s x = some (v', H') ∧ OwnB H' v' (ps ++ bs) H0.length ∧ Ext H0 H' ∧ (¬ bs = [] → H0.length ≤ v'.hd) ∧ (¬ bs = [] → ∃ h, v' = .sg h 0 (ps ++ bs).length 1) := by
  obtain ⟨v', H', h1, h2, h3, h4⟩ := Own.append h hx.rd x0 und22 size5 zero5 rfl (by decide) bytes5 (ints_one _ _) (ints_one _ _) (by omega) (by omega)
  have hb : ¬ bs = [] → 0 < bs.length := fun hn => List.length_pos_iff.2 hn
  refine ⟨v', H', h1, ?_, h3, fun hn => ?_, fun hn => ?_⟩
  · unfold OwnB
    rw [List.map_append, List.length_append]
    exact h2
  · obtain ⟨h', rfl⟩ := h4 (hb hn)
    rcases h2.row with ⟨h5, _⟩ | ⟨_, _, h5, _⟩ | ⟨h'', h5, _, _, h6⟩
    · cases h5
    · cases h5
    · cases h5; exact h6
  · obtain ⟨h', rfl⟩ := h4 (hb hn)
    exact ⟨h', by rw [List.length_append]⟩

def frSum (xs : List Int) : Int := crcRow 65535 ((xs.length : Int) :: xs)
def frameOf (xs : List Int) : List Int := [170, 85] ++ ((xs.length : Int) :: xs) ++ [IntKind.u8.wrap (frSum xs / 256), IntKind.u8.wrap (frSum xs)]

theorem frame_none (v : AV) (xs : List Int) (H : Hp) (hv : Ints H .u8 v xs) (hb : xs.length < 1 ∨ 40 < xs.length) : ACalls Try.prog 17 [v] H fun r H' => r = .tup [.nilS, .bool false] ∧ H = H' := by
  refine ACalls_body Try.func17 rfl (by kernel_rfl) (by kernel_rfl) ?_
  repeat' first
    | (with_reducible refine AWp_seq_k (fun K hK => ?_))
    | (with_reducible refine AWp_block ?_)
    | (with_reducible refine AWp_skip ?_)
    | (with_reducible refine AWp_exit ?_)
    | (with_reducible refine AWp_ret ?_)
    | (with_reducible refine AWp_regionE ?_)
    | (with_reducible refine AWp_condI ?_)
    | (with_reducible refine EGuard_split (fun hc => ?_) (fun hc => ?_) <;> (try simp only [Bool.not_eq_true', Bool.not_eq_false', decide_eq_true_eq, decide_eq_false_iff_not, beq_iff_eq, beq_eq_false_iff_ne, bne_iff_ne, bne_eq_false_iff_eq, Bool.false_eq_true, ne_eq, Decidable.not_not, Bool.not_eq_eq_eq_not, Bool.not_true, Bool.not_false, not_true_eq_false, not_false_eq_true] at hc) <;> (try (exfalso; first | omega | contradiction)))
    | fail
    | (with_reducible refine AIte (fun hc => ?_) (fun hc => ?_) <;> (try simp only [Bool.not_eq_true', Bool.not_eq_false', decide_eq_true_eq, decide_eq_false_iff_not, beq_iff_eq, beq_eq_false_iff_ne, bne_iff_ne, bne_eq_false_iff_eq, Bool.false_eq_true, ne_eq, Decidable.not_not, Bool.not_eq_eq_eq_not, Bool.not_true, Bool.not_false, not_true_eq_false, not_false_eq_true] at hc) <;> (try (exfalso; first | omega | contradiction)))
    | (simp only [thenA, inBlockA, reduceIte, Nat.reduceEqDiff])
    | ((with_reducible refine hK _ _ ?_); clear hK)
    | (clear hK; (with_reducible refine hK _ _ ?_); clear hK)
    | (clear hK; clear hK; (with_reducible refine hK _ _ ?_); clear hK)
    | (clear hK; clear hK; clear hK; (with_reducible refine hK _ _ ?_); clear hK)
    | (clear hK; clear hK; clear hK; clear hK; (with_reducible refine hK _ _ ?_); clear hK)
    | (clear hK; clear hK; clear hK; clear hK; clear hK; (with_reducible refine hK _ _ ?_); clear hK)
    | (simp only [ACond, Run_nil, Run_cons, Run_pnil, Run_one, Run_alt, EAt_def, EStep_def, E0_def, EGuard_true, EGuard_false, beq_self_eq_true, beq_true, beq_false, bne_self_eq_false, wantedA, acall, astep, ev, ofValue, ofAtom, Fr.put_some, Fr.put_none, fr0_zero, fr0_succ, fr0_nil, Nat.reduceEqDiff, Nat.reduceAdd, Nat.reduceMul, Nat.reduceSub, reduceCtorEq, if_true, if_false, reduceIte, Option.map_some, Option.map_none, Option.bind_some, Option.bind_none, aoptEv, abin, aint, ashift, aun, astr, aeqGuard, isConstOp, or_self, or_true, true_or, or_false, false_or, and_self, and_true, true_and, and_false, false_and, not_true_eq_false, not_false_eq_true, Bool.false_eq_true, Bool.true_eq_false, decide_eq_true_eq, decide_eq_false_iff_not, beq_iff_eq, bne_iff_ne, Bool.not_eq_true', Bool.not_true, Bool.not_false, ne_eq, aconvH, aofStr, aconvSame, isU8, abuildSlice, afill, splice, azeros, AV.solid_int, AV.one_int, AV.cells_int, AV.solid_bool, AV.one_bool, AV.cells_bool, AV.solid_str, AV.one_str, AV.cells_str, AV.solid_nilI, AV.one_nilI, AV.cells_nilI, AV.solid_ifc, AV.one_ifc, AV.cells_ifc, AV.solid_nilP, AV.one_nilP, AV.cells_nilP, AV.solid_ptr, AV.one_ptr, AV.cells_ptr, AV.solid_nilS, AV.one_nilS, AV.cells_nilS, AV.solid_sl, AV.one_sl, AV.cells_sl, AV.solid_sg, AV.one_sg, AV.cells_sg, AV.solid_fn, AV.one_fn, AV.cells_fn, AV.cells_agg, List.replicate_succ, List.replicate_zero, List.flatten_cons, List.flatten_nil, List.append_nil, List.nil_append, List.cons_append, List.take_succ_cons, List.take_zero, List.drop_succ_cons, List.drop_zero, List.length_cons, List.length_nil, List.all_cons, List.all_nil, Bool.and_true, Bool.true_and, Bool.and_self, Nat.reduceLeDiff, Nat.reduceLT, Int.reduceLE, Int.reduceLT, Int.reduceEq, Int.reduceToNat, Int.cast_ofNat_Int, Int.reducePow, IntKind.bits, Nat.min_def, Int.reduceNeg, Nat.zero_add, Nat.reduceEqDiff, hget_push, set_push_new, List.map_cons, List.map_nil, List.toList_toArray, List.getElem?_toArray, List.getElem?_cons_zero, List.getElem?_cons_succ, und3, agg3, size3, bytes3, zero3, und5, agg5, size5, bytes5, zero5, und22, agg22, size22, bytes22, zero22, lenS22, lenG22, lenN22, eqSl22, eqSg22, eqSn22, und23, agg23, size23, bytes23, zero23, cv3_5, cv23_5, hv.rd.len und22])
    | (simp (disch := omega) only [optIf, optIfN, selP, selN, avP, avN])
  all_goals
    (
     first | refine AEnd_ret1 rfl ?_ | refine AEnd_ret2 rfl ?_ | refine AEnd_ret3 rfl ?_ | refine AEnd_ret0 rfl ?_
     simp only [Fr.put_some, Fr.put_none, fr0_zero, fr0_succ, fr0_nil, Nat.reduceEqDiff, reduceIte])
  all_goals exact ⟨trivial, trivial⟩
theorem put_none (v : AV) (xs : List Int) (H : Hp) (hv : Ints H .u8 v xs) (hb : xs.length < 1 ∨ 40 < xs.length) : ACalls Try.prog 16 [v] H fun r H' => r = .tup [.nilS, .bool false] ∧ H = H' := by
  refine ACalls_body Try.func16 rfl (by kernel_rfl) (by kernel_rfl) ?_
  repeat' first
    | (with_reducible refine AWp_seq_k (fun K hK => ?_))
    | (with_reducible refine AWp_block ?_)
    | (with_reducible refine AWp_skip ?_)
    | (with_reducible refine AWp_exit ?_)
    | (with_reducible refine AWp_ret ?_)
    | (with_reducible refine AWp_regionE ?_)
    | (with_reducible refine AWp_condI ?_)
    | (with_reducible refine EGuard_split (fun hc => ?_) (fun hc => ?_) <;> (try simp only [Bool.not_eq_true', Bool.not_eq_false', decide_eq_true_eq, decide_eq_false_iff_not, beq_iff_eq, beq_eq_false_iff_ne, bne_iff_ne, bne_eq_false_iff_eq, Bool.false_eq_true, ne_eq, Decidable.not_not, Bool.not_eq_eq_eq_not, Bool.not_true, Bool.not_false, not_true_eq_false, not_false_eq_true] at hc) <;> (try (exfalso; first | omega | contradiction)))
    | fail
    | (with_reducible refine AIte (fun hc => ?_) (fun hc => ?_) <;> (try simp only [Bool.not_eq_true', Bool.not_eq_false', decide_eq_true_eq, decide_eq_false_iff_not, beq_iff_eq, beq_eq_false_iff_ne, bne_iff_ne, bne_eq_false_iff_eq, Bool.false_eq_true, ne_eq, Decidable.not_not, Bool.not_eq_eq_eq_not, Bool.not_true, Bool.not_false, not_true_eq_false, not_false_eq_true] at hc) <;> (try (exfalso; first | omega | contradiction)))
    | (simp only [thenA, inBlockA, reduceIte, Nat.reduceEqDiff])
    | ((with_reducible refine hK _ _ ?_); clear hK)
    | (clear hK; (with_reducible refine hK _ _ ?_); clear hK)
    | (clear hK; clear hK; (with_reducible refine hK _ _ ?_); clear hK)
    | (clear hK; clear hK; clear hK; (with_reducible refine hK _ _ ?_); clear hK)
    | (clear hK; clear hK; clear hK; clear hK; (with_reducible refine hK _ _ ?_); clear hK)
    | (clear hK; clear hK; clear hK; clear hK; clear hK; (with_reducible refine hK _ _ ?_); clear hK)
    | (simp only [ACond, Run_nil, Run_cons, Run_pnil, Run_one, Run_alt, EAt_def, EStep_def, E0_def, EGuard_true, EGuard_false, beq_self_eq_true, beq_true, beq_false, bne_self_eq_false, wantedA, acall, astep, ev, ofValue, ofAtom, Fr.put_some, Fr.put_none, fr0_zero, fr0_succ, fr0_nil, Nat.reduceEqDiff, Nat.reduceAdd, Nat.reduceMul, Nat.reduceSub, reduceCtorEq, if_true, if_false, reduceIte, Option.map_some, Option.map_none, Option.bind_some, Option.bind_none, aoptEv, abin, aint, ashift, aun, astr, aeqGuard, isConstOp, or_self, or_true, true_or, or_false, false_or, and_self, and_true, true_and, and_false, false_and, not_true_eq_false, not_false_eq_true, Bool.false_eq_true, Bool.true_eq_false, decide_eq_true_eq, decide_eq_false_iff_not, beq_iff_eq, bne_iff_ne, Bool.not_eq_true', Bool.not_true, Bool.not_false, ne_eq, aconvH, aofStr, aconvSame, isU8, abuildSlice, afill, splice, azeros, AV.solid_int, AV.one_int, AV.cells_int, AV.solid_bool, AV.one_bool, AV.cells_bool, AV.solid_str, AV.one_str, AV.cells_str, AV.solid_nilI, AV.one_nilI, AV.cells_nilI, AV.solid_ifc, AV.one_ifc, AV.cells_ifc, AV.solid_nilP, AV.one_nilP, AV.cells_nilP, AV.solid_ptr, AV.one_ptr, AV.cells_ptr, AV.solid_nilS, AV.one_nilS, AV.cells_nilS, AV.solid_sl, AV.one_sl, AV.cells_sl, AV.solid_sg, AV.one_sg, AV.cells_sg, AV.solid_fn, AV.one_fn, AV.cells_fn, AV.cells_agg, List.replicate_succ, List.replicate_zero, List.flatten_cons, List.flatten_nil, List.append_nil, List.nil_append, List.cons_append, List.take_succ_cons, List.take_zero, List.drop_succ_cons, List.drop_zero, List.length_cons, List.length_nil, List.all_cons, List.all_nil, Bool.and_true, Bool.true_and, Bool.and_self, Nat.reduceLeDiff, Nat.reduceLT, Int.reduceLE, Int.reduceLT, Int.reduceEq, Int.reduceToNat, Int.cast_ofNat_Int, Int.reducePow, IntKind.bits, Nat.min_def, Int.reduceNeg, Nat.zero_add, Nat.reduceEqDiff, hget_push, set_push_new, List.map_cons, List.map_nil, List.toList_toArray, List.getElem?_toArray, List.getElem?_cons_zero, List.getElem?_cons_succ, und3, agg3, size3, bytes3, zero3, und5, agg5, size5, bytes5, zero5, und22, agg22, size22, bytes22, zero22, lenS22, lenG22, lenN22, eqSl22, eqSg22, eqSn22, und23, agg23, size23, bytes23, zero23, und32, agg32, size32, bytes32, zero32, lenS32, lenG32, lenN32, eqSl32, eqSg32, eqSn32, cv3_5, cv23_5, hv.rd.len und22])
    | (simp (disch := omega) only [optIf, optIfN, selP, selN, avP, avN])
  all_goals
    (
     first | refine AEnd_ret1 rfl ?_ | refine AEnd_ret2 rfl ?_ | refine AEnd_ret3 rfl ?_ | refine AEnd_ret0 rfl ?_
     simp only [Fr.put_some, Fr.put_none, fr0_zero, fr0_succ, fr0_nil, Nat.reduceEqDiff, reduceIte])
  all_goals exact ⟨trivial, trivial⟩

theorem frame_some (v : AV) (xs : List Int) (H : Hp) (hv : Ints H .u8 v xs) (hb : Bytes xs) (h1 : 1 ≤ xs.length) (h2 : xs.length ≤ 40) : ACalls Try.prog 17 [v] H fun r H' => ∃ u, r = .tup [u, .bool true] ∧ OwnB H' u (frameOf xs) H.length ∧ Ext H H' ∧ ∃ h, u = .sg h 0 (frameOf xs).length 1 := by
  have e1 : IntKind.u8.wrap (xs.length : Int) = xs.length := by rw [u8_wrap]; omega
  have ho : OwnB (H ++ [⟨[.int .u8 (xs.length : Int)], .own, 5⟩]) (.sl H.length 0 1 1) [(xs.length : Int)] H.length := OwnB.sl (ints_lit1 H (by decide)) rfl ⟨_, by rw [hget_push, if_pos rfl], rfl⟩
  obtain ⟨v1, H1, g1, o1, x1⟩ := ho.app (Ext.push _ _) (hv.push _) (by simp; omega)
  have hb1 : Bytes ((xs.length : Int) :: xs) := by
    intro x hx
    rcases List.mem_cons.1 hx with rfl | hx
    · omega
    · exact hb x hx
  have hl1 : ((xs.length : Int) :: xs).length < 1000000000000 := by simp; omega
  have i1 : Ints H1 .u8 v1 ((xs.length : Int) :: xs) := o1.ints
  have o2 : OwnB (H1 ++ [⟨[.int .u8 170, .int .u8 85], .own, 5⟩]) (.sl H1.length 0 2 2) [170, 85] H1.length := OwnB.sl (ints_lit2 H1 (by decide)) rfl ⟨_, by rw [hget_push, if_pos rfl], rfl⟩
  obtain ⟨v2, H2, g2, o2', x2⟩ := o2.app (Ext.push _ _) (i1.push _) (by simp; omega)
  have o3 : OwnB (H2 ++ [⟨[.int .u8 (IntKind.u8.wrap (frSum xs / 256)), .int .u8 (IntKind.u8.wrap (frSum xs))], .own, 5⟩]) v2 ([170, 85] ++ (xs.length : Int) :: xs) H1.length := o2'.push _
  obtain ⟨v3, H3, g3, o3', x3, _, hsg⟩ := o3.app' (x2.pushed _) (ints_lit2 H2 (kd := .own) (e := 5) (by decide)) (by simp; omega)
  have hs : crcRow 65535 ((xs.length : Int) :: xs) = frSum xs := rfl
  refine ACalls_body Try.func17 rfl (by kernel_rfl) (by kernel_rfl) ?_
  repeat' first
    | (with_reducible refine AWp_seq_k (fun K hK => ?_))
    | (with_reducible refine AWp_block ?_)
    | (with_reducible refine AWp_skip ?_)
    | (with_reducible refine AWp_exit ?_)
    | (with_reducible refine AWp_ret ?_)
    | (with_reducible refine AWp_regionE ?_)
    | (with_reducible refine AWp_condI ?_)
    | ((with_reducible refine ECall_intro (ref_sum_calls v1 _ _ i1 hb1 hl1) ?_); rintro _ _ ⟨rfl, rfl⟩)
    | (with_reducible refine EGuard_split (fun hc => ?_) (fun hc => ?_) <;> (try simp only [Bool.not_eq_true', Bool.not_eq_false', decide_eq_true_eq, decide_eq_false_iff_not, beq_iff_eq, beq_eq_false_iff_ne, bne_iff_ne, bne_eq_false_iff_eq, Bool.false_eq_true, ne_eq, Decidable.not_not, Bool.not_eq_eq_eq_not, Bool.not_true, Bool.not_false, not_true_eq_false, not_false_eq_true] at hc) <;> (try (exfalso; first | omega | contradiction)))
    | fail
    | (with_reducible refine AIte (fun hc => ?_) (fun hc => ?_) <;> (try simp only [Bool.not_eq_true', Bool.not_eq_false', decide_eq_true_eq, decide_eq_false_iff_not, beq_iff_eq, beq_eq_false_iff_ne, bne_iff_ne, bne_eq_false_iff_eq, Bool.false_eq_true, ne_eq, Decidable.not_not, Bool.not_eq_eq_eq_not, Bool.not_true, Bool.not_false, not_true_eq_false, not_false_eq_true] at hc) <;> (try (exfalso; first | omega | contradiction)))
    | (simp only [thenA, inBlockA, reduceIte, Nat.reduceEqDiff])
    | ((with_reducible refine hK _ _ ?_); clear hK)
    | (clear hK; (with_reducible refine hK _ _ ?_); clear hK)
    | (clear hK; clear hK; (with_reducible refine hK _ _ ?_); clear hK)
    | (clear hK; clear hK; clear hK; (with_reducible refine hK _ _ ?_); clear hK)
    | (clear hK; clear hK; clear hK; clear hK; (with_reducible refine hK _ _ ?_); clear hK)
    | (clear hK; clear hK; clear hK; clear hK; clear hK; (with_reducible refine hK _ _ ?_); clear hK)
    | (simp only [ACond, Run_nil, Run_cons, Run_pnil, Run_one, Run_alt, EAt_def, EStep_def, E0_def, EGuard_true, EGuard_false, beq_self_eq_true, beq_true, beq_false, bne_self_eq_false, wantedA, acall, astep, ev, ofValue, ofAtom, Fr.put_some, Fr.put_none, fr0_zero, fr0_succ, fr0_nil, Nat.reduceEqDiff, Nat.reduceAdd, Nat.reduceMul, Nat.reduceSub, reduceCtorEq, if_true, if_false, reduceIte, Option.map_some, Option.map_none, Option.bind_some, Option.bind_none, aoptEv, abin, aint, ashift, aun, astr, aeqGuard, isConstOp, or_self, or_true, true_or, or_false, false_or, and_self, and_true, true_and, and_false, false_and, not_true_eq_false, not_false_eq_true, Bool.false_eq_true, Bool.true_eq_false, decide_eq_true_eq, decide_eq_false_iff_not, beq_iff_eq, bne_iff_ne, Bool.not_eq_true', Bool.not_true, Bool.not_false, ne_eq, aconvH, aofStr, aconvSame, isU8, abuildSlice, afill, splice, azeros, AV.solid_int, AV.one_int, AV.cells_int, AV.solid_bool, AV.one_bool, AV.cells_bool, AV.solid_str, AV.one_str, AV.cells_str, AV.solid_nilI, AV.one_nilI, AV.cells_nilI, AV.solid_ifc, AV.one_ifc, AV.cells_ifc, AV.solid_nilP, AV.one_nilP, AV.cells_nilP, AV.solid_ptr, AV.one_ptr, AV.cells_ptr, AV.solid_nilS, AV.one_nilS, AV.cells_nilS, AV.solid_sl, AV.one_sl, AV.cells_sl, AV.solid_sg, AV.one_sg, AV.cells_sg, AV.solid_fn, AV.one_fn, AV.cells_fn, AV.cells_agg, List.replicate_succ, List.replicate_zero, List.flatten_cons, List.flatten_nil, List.append_nil, List.nil_append, List.cons_append, List.take_succ_cons, List.take_zero, List.drop_succ_cons, List.drop_zero, List.length_cons, List.length_nil, List.all_cons, List.all_nil, Bool.and_true, Bool.true_and, Bool.and_self, Nat.reduceLeDiff, Nat.reduceLT, Int.reduceLE, Int.reduceLT, Int.reduceEq, Int.reduceToNat, Int.cast_ofNat_Int, Int.reducePow, IntKind.bits, Nat.min_def, Int.reduceNeg, Nat.zero_add, Nat.reduceEqDiff, hget_push, set_push_new, List.map_cons, List.map_nil, List.toList_toArray, List.getElem?_toArray, List.getElem?_cons_zero, List.getElem?_cons_succ, und3, agg3, size3, bytes3, zero3, und5, agg5, size5, bytes5, zero5, und22, agg22, size22, bytes22, zero22, lenS22, lenG22, lenN22, eqSl22, eqSg22, eqSn22, und23, agg23, size23, bytes23, zero23, cv3_5, cv23_5, hv.rd.len und22, e1, g1, hs, g2, g3])
    | (simp (disch := omega) only [optIf, optIfN, selP, selN, avP, avN])
  (
   first | refine AEnd_ret1 rfl ?_ | refine AEnd_ret2 rfl ?_ | refine AEnd_ret3 rfl ?_ | refine AEnd_ret0 rfl ?_
   simp only [Fr.put_some, Fr.put_none, fr0_zero, fr0_succ, fr0_nil, Nat.reduceEqDiff, reduceIte])
  exact ⟨_, rfl, o3'.mono x1.len, x1.trans x3, hsg (by simp)⟩

theorem concat_4 {X : Hp} {u v w x : AV} {a b c d ys : List Int} (ha : Ints X .u8 u a) (hb : Ints X .u8 v b) (hc : Ints X .u8 w c) (hd : Ints X .u8 x d) (hy : a ++ b ++ c ++ d = ys) (hl : ys.length < 1000000) (hp : 0 < ys.length) :
    ACalls Try.prog 23 [.sl X.length 0 4 4] (X ++ [⟨[u, v, w, x], .own, 22⟩]) fun r H' => r = .sg (X.length + 1) 0 ys.length 1 ∧ (X ++ [⟨[u, v, w, x], .own, 22⟩]) ++ [⟨ys.map (AV.int .u8), .own, 5⟩] = H' := by
  have e : [a, b, c, d].flatten = ys := by rw [← hy]; simp
  have := concat_calls _ [u, v, w, x] [a, b, c, d] _ (Rd.lit X (k := .own) (e := 22) (by decide) rfl) ⟨ha.push _, hb.push _, hc.push _, hd.push _, trivial⟩ (by simp) (by rw [e]; exact hl) (by rw [e]; exact hp)
  rw [e, len_push] at this
  exact this

theorem put_some (v : AV) (xs : List Int) (H : Hp) (hv : Ints H .u8 v xs) (hb : Bytes xs) (h1 : 1 ≤ xs.length) (h2 : xs.length ≤ 40) : ACalls Try.prog 16 [v] H fun r H' => ∃ u, r = .tup [u, .bool true] ∧ OwnB H' u (frameOf xs) H.length ∧ Ext H H' := by
  have e1 : IntKind.u8.wrap (xs.length : Int) = xs.length := by rw [u8_wrap]; omega
  have hs : crcRow (crcRow 65535 [(xs.length : Int)]) xs = frSum xs := rfl
  have l1 : [(xs.length : Int)].length < 1000000000000 := by simp
  have l2 : xs.length < 1000000000000 := by omega
  have hfr : [170, 85] ++ [(xs.length : Int)] ++ xs ++ [IntKind.u8.wrap (frSum xs / 256), IntKind.u8.wrap (frSum xs)] = frameOf xs := rfl
  have l3 : (frameOf xs).length < 1000000 := by rw [← hfr]; simp; omega
  have l4 : 0 < (frameOf xs).length := by rw [← hfr]; simp
  refine ACalls_body Try.func16 rfl (by kernel_rfl) (by kernel_rfl) ?_
  repeat' first
    | (with_reducible refine AWp_seq_k (fun K hK => ?_))
    | (with_reducible refine AWp_block ?_)
    | (with_reducible refine AWp_skip ?_)
    | (with_reducible refine AWp_exit ?_)
    | (with_reducible refine AWp_ret ?_)
    | (with_reducible refine AWp_regionE ?_)
    | (with_reducible refine AWp_condI ?_)
    | ((with_reducible refine ECall_intro (crc_2 ((ints_lit1 _ (kd := .own) (e := 5) (by decide)).ext (by repeat first | exact Ext.refl _ | refine Ext.pushed ?_ _)) (hv.ext (by repeat first | exact Ext.refl _ | refine Ext.pushed ?_ _)) l1 l2 hs) ?_); rintro _ _ ⟨rfl, rfl⟩)
    | ((with_reducible refine ECall_intro (concat_4 ((ints_lit2 _ (kd := .own) (e := 5) (by decide)).ext (by repeat first | exact Ext.refl _ | refine Ext.pushed ?_ _)) ((ints_lit1 _ (kd := .own) (e := 5) (by decide)).ext (by repeat first | exact Ext.refl _ | refine Ext.pushed ?_ _)) (hv.ext (by repeat first | exact Ext.refl _ | refine Ext.pushed ?_ _)) (ints_lit2 _ (kd := .own) (e := 5) (by decide)) hfr l3 l4) ?_); rintro _ _ ⟨rfl, rfl⟩)
    | (with_reducible refine EGuard_split (fun hc => ?_) (fun hc => ?_) <;> (try simp only [Bool.not_eq_true', Bool.not_eq_false', decide_eq_true_eq, decide_eq_false_iff_not, beq_iff_eq, beq_eq_false_iff_ne, bne_iff_ne, bne_eq_false_iff_eq, Bool.false_eq_true, ne_eq, Decidable.not_not, Bool.not_eq_eq_eq_not, Bool.not_true, Bool.not_false, not_true_eq_false, not_false_eq_true] at hc) <;> (try (exfalso; first | omega | contradiction)))
    | fail
    | (with_reducible refine AIte (fun hc => ?_) (fun hc => ?_) <;> (try simp only [Bool.not_eq_true', Bool.not_eq_false', decide_eq_true_eq, decide_eq_false_iff_not, beq_iff_eq, beq_eq_false_iff_ne, bne_iff_ne, bne_eq_false_iff_eq, Bool.false_eq_true, ne_eq, Decidable.not_not, Bool.not_eq_eq_eq_not, Bool.not_true, Bool.not_false, not_true_eq_false, not_false_eq_true] at hc) <;> (try (exfalso; first | omega | contradiction)))
    | (simp only [thenA, inBlockA, reduceIte, Nat.reduceEqDiff])
    | ((with_reducible refine hK _ _ ?_); clear hK)
    | (clear hK; (with_reducible refine hK _ _ ?_); clear hK)
    | (clear hK; clear hK; (with_reducible refine hK _ _ ?_); clear hK)
    | (clear hK; clear hK; clear hK; (with_reducible refine hK _ _ ?_); clear hK)
    | (clear hK; clear hK; clear hK; clear hK; (with_reducible refine hK _ _ ?_); clear hK)
    | (clear hK; clear hK; clear hK; clear hK; clear hK; (with_reducible refine hK _ _ ?_); clear hK)
    | (simp only [ACond, Run_nil, Run_cons, Run_pnil, Run_one, Run_alt, EAt_def, EStep_def, E0_def, EGuard_true, EGuard_false, beq_self_eq_true, beq_true, beq_false, bne_self_eq_false, wantedA, acall, astep, ev, ofValue, ofAtom, Fr.put_some, Fr.put_none, fr0_zero, fr0_succ, fr0_nil, Nat.reduceEqDiff, Nat.reduceAdd, Nat.reduceMul, Nat.reduceSub, reduceCtorEq, if_true, if_false, reduceIte, Option.map_some, Option.map_none, Option.bind_some, Option.bind_none, aoptEv, abin, aint, ashift, aun, astr, aeqGuard, isConstOp, or_self, or_true, true_or, or_false, false_or, and_self, and_true, true_and, and_false, false_and, not_true_eq_false, not_false_eq_true, Bool.false_eq_true, Bool.true_eq_false, decide_eq_true_eq, decide_eq_false_iff_not, beq_iff_eq, bne_iff_ne, Bool.not_eq_true', Bool.not_true, Bool.not_false, ne_eq, aconvH, aofStr, aconvSame, isU8, abuildSlice, afill, splice, azeros, AV.solid_int, AV.one_int, AV.cells_int, AV.solid_bool, AV.one_bool, AV.cells_bool, AV.solid_str, AV.one_str, AV.cells_str, AV.solid_nilI, AV.one_nilI, AV.cells_nilI, AV.solid_ifc, AV.one_ifc, AV.cells_ifc, AV.solid_nilP, AV.one_nilP, AV.cells_nilP, AV.solid_ptr, AV.one_ptr, AV.cells_ptr, AV.solid_nilS, AV.one_nilS, AV.cells_nilS, AV.solid_sl, AV.one_sl, AV.cells_sl, AV.solid_sg, AV.one_sg, AV.cells_sg, AV.solid_fn, AV.one_fn, AV.cells_fn, AV.cells_agg, List.replicate_succ, List.replicate_zero, List.flatten_cons, List.flatten_nil, List.append_nil, List.nil_append, List.cons_append, List.take_succ_cons, List.take_zero, List.drop_succ_cons, List.drop_zero, List.length_cons, List.length_nil, List.all_cons, List.all_nil, Bool.and_true, Bool.true_and, Bool.and_self, Nat.reduceLeDiff, Nat.reduceLT, Int.reduceLE, Int.reduceLT, Int.reduceEq, Int.reduceToNat, Int.cast_ofNat_Int, Int.reducePow, IntKind.bits, Nat.min_def, Int.reduceNeg, Nat.zero_add, Nat.reduceEqDiff, hget_push, set_push_new, List.map_cons, List.map_nil, List.toList_toArray, List.getElem?_toArray, List.getElem?_cons_zero, List.getElem?_cons_succ, und3, agg3, size3, bytes3, zero3, und5, agg5, size5, bytes5, zero5, und22, agg22, size22, bytes22, zero22, lenS22, lenG22, lenN22, eqSl22, eqSg22, eqSn22, und23, agg23, size23, bytes23, zero23, und32, agg32, size32, bytes32, zero32, lenS32, lenG32, lenN32, eqSl32, eqSg32, eqSn32, cv3_5, cv23_5, hv.rd.len und22, e1, hv.rd.solid, hv.rd.cells, hv.rd.one])
    | (simp (disch := omega) only [optIf, optIfN, selP, selN, avP, avN])
  (
   first | refine AEnd_ret1 rfl ?_ | refine AEnd_ret2 rfl ?_ | refine AEnd_ret3 rfl ?_ | refine AEnd_ret0 rfl ?_
   simp only [Fr.put_some, Fr.put_none, fr0_zero, fr0_succ, fr0_nil, Nat.reduceEqDiff, reduceIte])
  refine ⟨_, rfl, OwnB.grown _ _ ?_, ?_⟩
  · simp only [List.length_append, List.length_cons, List.length_nil]; omega
  · repeat first | exact Ext.refl _ | refine Ext.pushed ?_ _
end Go.Proofs.Ytdlplfhkmhkngaa

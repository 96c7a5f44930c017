/- A part of the proofs of this seat: FrE. No condition. -/
import Derived.Test.YtdlplfhkmhkngaaFrD
set_option linter.unusedVariables false
set_option linter.unusedSimpArgs false
namespace Go.Proofs.Ytdlplfhkmhkngaa
open Go.AL

/-- One step of the parser: how many bytes go; the payload (nothing: none); how many bad ones. -/
def nxt (xs : List Int) : Nat × List Int × Int :=
  if xs.length = 0 ∨ (xs.length = 1 ∧ xs.getD 0 0 = 170) then (0, [], 0)
  else if xs.getD 0 0 ≠ 170 ∨ xs.getD 1 0 ≠ 85 then (1, [], 0)
  else if xs.length < 3 then (0, [], 0)
  else if 1 ≤ xs.getD 2 0 ∧ xs.getD 2 0 ≤ 40 then
    if xs.length < (xs.getD 2 0).toNat + 5 then (0, [], 0)
    else if xs.getD ((xs.getD 2 0).toNat + 3) 0 = IntKind.u8.wrap (crcRow 65535 ((xs.drop 2).take ((xs.getD 2 0).toNat + 1)) / 256) ∧ xs.getD ((xs.getD 2 0).toNat + 4) 0 = IntKind.u8.wrap (crcRow 65535 ((xs.drop 2).take ((xs.getD 2 0).toNat + 1))) then
      ((xs.getD 2 0).toNat + 5, (xs.drop 3).take (xs.getD 2 0).toNat, 0)
    else (1, [], 1)
  else (1, [], 1)

/-- What 'next' leaves. -/
def NextPost (H : Hp) (p : Nat) (v : AV) (bad : Int) (k : Nat) (pay : List Int) (inc : Int) (r : AV) (H' : Hp) : Prop :=
  ∃ u, r = .tup [.int .i64 (k : Int), u] ∧ (pay = [] → u = .nilS) ∧ (pay ≠ [] → (∃ h, u = .sg h 0 pay.length 1) ∧ Ints H' .u8 u pay) ∧ Ext (H.set p (pblk v (bad + inc))) H'

theorem set_same {H : Hp} {p : Nat} {b : Blk} (h : hget H p = some b) : H.set p b = H := by
  obtain ⟨hl, rfl⟩ := List.getElem?_eq_some_iff.1 h
  exact List.set_getElem_self hl
theorem NextPost.plain {H : Hp} {p : Nat} {v : AV} {bad : Int} (hp : hget H p = some (pblk v bad)) (k : Nat) : NextPost H p v bad k [] 0 (.tup [.int .i64 (k : Int), .nilS]) H :=
  ⟨_, rfl, fun _ => rfl, fun h => absurd rfl h, by rw [Int.add_zero, set_same hp]; exact Ext.refl _⟩

theorem Ints.load1 {P : Program} {H : Hp} {k : IntKind} {v : AV} {xs : List Int} {e : TypeId} (h : Ints H k v xs) (ha : isAggT P e = some false) : ∀ {i : Nat}, i < xs.length → aload P H e (.ptr v.hd (v.of + i)) = some (.int k (xs.getD i 0)) := fun {i} hi => by
  have := Ints.load h ha hi
  rwa [Nat.mul_one] at this

theorem pst1 {H : Hp} {p : Nat} {v : AV} {bad : Int} (hp : hget H p = some (pblk v bad)) (n : Int) : astore Try.prog H 3 (.ptr p 1) (.int .i64 n) = some (H.set p (pblk v n)) := by
  simp [astore, hp, pblk, size3, AV.solid_int, AV.cells_int, splice]

theorem NextPost.bad {H : Hp} {p : Nat} {v : AV} {bad : Int} (hp : hget H p = some (pblk v bad)) : NextPost H p v bad 1 [] 1 (.tup [.int .i64 1, .nilS]) (H.set p (pblk v (bad + 1))) :=
  ⟨_, rfl, fun _ => rfl, fun h => absurd rfl h, Ext.refl _⟩

/-- A frame's beginning, long enough. -/
def Long (xs : List Int) : Prop := 3 ≤ xs.length ∧ xs.getD 0 0 = 170 ∧ xs.getD 1 0 = 85 ∧ 1 ≤ xs.getD 2 0 ∧ xs.getD 2 0 ≤ 40 ∧ (xs.getD 2 0).toNat + 5 ≤ xs.length

set_option maxHeartbeats 4000000 in
theorem next_short (H : Hp) (p : Nat) (v : AV) (bad : Int) (xs : List Int) (hp : hget H p = some (pblk v bad)) (hv : Ints H .u8 v xs) (hb : Bytes xs) (hx : xs.length < 1000000) (hbad : 0 ≤ bad ∧ bad < 1000000000000) (h : ¬ Long xs) :
    ACalls Try.prog 25 [.ptr p 0] H fun r H' => NextPost H p v bad (nxt xs).1 (nxt xs).2.1 (nxt xs).2.2 r H' := by
  unfold Long at h
  have hb2 : 0 ≤ xs.getD 2 0 ∧ xs.getD 2 0 < 256 := by
    by_cases h : 2 < xs.length
    · exact hb _ (by simp [List.getD, h])
    · simp [List.getD, h]
  have e2 : IntKind.i64.wrap (xs.getD 2 0) = xs.getD 2 0 := wrap_i64_id (by omega) (by omega)
  have e5 : IntKind.i64.wrap (xs.getD 2 0 + 5) = xs.getD 2 0 + 5 := wrap_i64_id (by omega) (by omega)
  have eb : IntKind.i64.wrap (bad + 1) = bad + 1 := wrap_i64_id (by omega) (by omega)
  refine ACalls_body Try.func25 rfl (by kernel_rfl) (by kernel_rfl) ?_
  repeat' first
    | (with_reducible refine AWp_seq_k (fun K hK => ?_))
    | (with_reducible refine AWp_block ?_)
    | (with_reducible refine AWp_skip ?_)
    | (with_reducible refine AWp_exit ?_)
    | (with_reducible refine AWp_ret ?_)
    | (with_reducible refine AWp_regionE ?_)
    | (with_reducible refine AWp_condI ?_)
    | (with_reducible refine EGuard_split (fun hc => ?_) (fun hc => ?_) <;> (try simp only [Bool.not_eq_true', Bool.not_eq_false', decide_eq_true_eq, decide_eq_false_iff_not, beq_iff_eq, beq_eq_false_iff_ne, bne_iff_ne, bne_eq_false_iff_eq, Bool.false_eq_true, ne_eq, Decidable.not_not, Bool.not_eq_eq_eq_not, Bool.not_true, Bool.not_false, not_true_eq_false, not_false_eq_true] at hc) <;> (try (exfalso; first | omega | contradiction)))
    | fail
    | (with_reducible refine AIte (fun hc => ?_) (fun hc => ?_) <;> (try simp only [Bool.not_eq_true', Bool.not_eq_false', decide_eq_true_eq, decide_eq_false_iff_not, beq_iff_eq, beq_eq_false_iff_ne, bne_iff_ne, bne_eq_false_iff_eq, Bool.false_eq_true, ne_eq, Decidable.not_not, Bool.not_eq_eq_eq_not, Bool.not_true, Bool.not_false, not_true_eq_false, not_false_eq_true] at hc) <;> (try (exfalso; first | omega | contradiction)))
    | (simp only [thenA, inBlockA, reduceIte, Nat.reduceEqDiff])
    | ((with_reducible refine hK _ _ ?_); clear hK)
    | (clear hK; (with_reducible refine hK _ _ ?_); clear hK)
    | (clear hK; clear hK; (with_reducible refine hK _ _ ?_); clear hK)
    | (clear hK; clear hK; clear hK; (with_reducible refine hK _ _ ?_); clear hK)
    | (clear hK; clear hK; clear hK; clear hK; (with_reducible refine hK _ _ ?_); clear hK)
    | (clear hK; clear hK; clear hK; clear hK; clear hK; (with_reducible refine hK _ _ ?_); clear hK)
    | (simp only [ACond, Run_nil, Run_cons, Run_pnil, Run_one, Run_alt, EAt_def, EStep_def, E0_def, EGuard_true, EGuard_false, beq_self_eq_true, beq_true, beq_false, bne_self_eq_false, wantedA, acall, astep, ev, ofValue, ofAtom, Fr.put_some, Fr.put_none, fr0_zero, fr0_succ, fr0_nil, Nat.reduceEqDiff, Nat.reduceAdd, Nat.reduceMul, Nat.reduceSub, reduceCtorEq, if_true, if_false, reduceIte, Option.map_some, Option.map_none, Option.bind_some, Option.bind_none, aoptEv, abin, aint, ashift, aun, astr, aeqGuard, isConstOp, or_self, or_true, true_or, or_false, false_or, and_self, and_true, true_and, and_false, false_and, not_true_eq_false, not_false_eq_true, Bool.false_eq_true, Bool.true_eq_false, decide_eq_true_eq, decide_eq_false_iff_not, beq_iff_eq, bne_iff_ne, Bool.not_eq_true', Bool.not_true, Bool.not_false, ne_eq, aconvH, aofStr, aconvSame, isU8, abuildSlice, afill, splice, azeros, AV.solid_int, AV.one_int, AV.cells_int, AV.solid_bool, AV.one_bool, AV.cells_bool, AV.solid_str, AV.one_str, AV.cells_str, AV.solid_nilI, AV.one_nilI, AV.cells_nilI, AV.solid_ifc, AV.one_ifc, AV.cells_ifc, AV.solid_nilP, AV.one_nilP, AV.cells_nilP, AV.solid_ptr, AV.one_ptr, AV.cells_ptr, AV.solid_nilS, AV.one_nilS, AV.cells_nilS, AV.solid_sl, AV.one_sl, AV.cells_sl, AV.solid_sg, AV.one_sg, AV.cells_sg, AV.solid_fn, AV.one_fn, AV.cells_fn, AV.cells_agg, List.replicate_succ, List.replicate_zero, List.flatten_cons, List.flatten_nil, List.append_nil, List.nil_append, List.cons_append, List.take_succ_cons, List.take_zero, List.drop_succ_cons, List.drop_zero, List.length_cons, List.length_nil, List.all_cons, List.all_nil, Bool.and_true, Bool.true_and, Bool.and_self, Nat.reduceLeDiff, Nat.reduceLT, Int.reduceLE, Int.reduceLT, Int.reduceEq, Int.reduceToNat, Int.cast_ofNat_Int, Int.reducePow, IntKind.bits, Nat.min_def, Int.reduceNeg, Nat.zero_add, Nat.reduceEqDiff, hget_push, set_push_new, List.map_cons, List.map_nil, List.toList_toArray, List.getElem?_toArray, List.getElem?_cons_zero, List.getElem?_cons_succ, und3, agg3, size3, bytes3, zero3, und5, agg5, size5, bytes5, zero5, und22, agg22, size22, bytes22, zero22, lenS22, lenG22, lenN22, eqSl22, eqSg22, eqSn22, und23, agg23, size23, bytes23, zero23, und32, agg32, size32, bytes32, zero32, lenS32, lenG32, lenN32, eqSl32, eqSg32, eqSn32, und44, agg44, size44, bytes44, zero44, und45, agg45, size45, bytes45, zero45, cv5_3, cv23_5, fa0, fa1, pl0 hp hv.rd.one, pl1 hp, pst1 hp, eb, e2, e5])
    | (simp (disch := omega) only [optIf, optIfN, selP, selN, avP, avN, hv.rd.len und22, hv.rd.at_ und22 size5, hv.load agg5, Ints.load1 hv agg5])
  all_goals
    (
     first | refine AEnd_ret1 rfl ?_ | refine AEnd_ret2 rfl ?_ | refine AEnd_ret3 rfl ?_ | refine AEnd_ret0 rfl ?_
     simp only [Fr.put_some, Fr.put_none, fr0_zero, fr0_succ, fr0_nil, Nat.reduceEqDiff, reduceIte])
  all_goals
    first
    | (rw [show nxt xs = (0, [], 0) from by unfold nxt; repeat' first | rfl | split | (exfalso; omega)]; exact NextPost.plain hp 0)
    | (rw [show nxt xs = (1, [], 0) from by unfold nxt; repeat' first | rfl | split | (exfalso; omega)]; exact NextPost.plain hp 1)
    | (rw [show nxt xs = (1, [], 1) from by unfold nxt; repeat' first | rfl | split | (exfalso; omega)]; exact NextPost.bad hp)
end Go.Proofs.Ytdlplfhkmhkngaa

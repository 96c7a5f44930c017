/- Part 22 of the proof of the law BoundLine of this seat: lemmas on the model's code, on this program's functions, on numbers. No condition. -/
import Derived.Test.YtfalfmfkifemeaaGreatDoorZBoundLineau
set_option linter.unusedVariables false
set_option linter.unusedSimpArgs false
namespace Go.Proofs.YtfalfmfkifemeaaGreatDoor
open Go.AL Go.PW
theorem tf66RfI : type_of% (And.intro @tyb4 (And.intro @tyb31 (And.intro @tyb44 (And.intro @tyb45 (@tyb46))))) := And.intro @tyb4 (And.intro @tyb31 (And.intro @tyb44 (And.intro @tyb45 (@tyb46))))
theorem tf91RfI : type_of% (And.intro @tyb4 (And.intro @tyb31 (And.intro @tyb44 (And.intro @tyb45 (@tyb46))))) := And.intro @tyb4 (And.intro @tyb31 (And.intro @tyb44 (And.intro @tyb45 (@tyb46))))
theorem tf90RfI : type_of% (And.intro @tyb4 (And.intro @tyb31 (And.intro @tyb44 (And.intro @tyb45 (@tyb46))))) := And.intro @tyb4 (And.intro @tyb31 (And.intro @tyb44 (And.intro @tyb45 (@tyb46))))
theorem tf68RfI : type_of% (And.intro @tyb2 (And.intro @tyb3 (And.intro @tyb4 (And.intro @tyb31 (And.intro @tyb44 (And.intro @tyb45 (@tyb46))))))) := And.intro @tyb2 (And.intro @tyb3 (And.intro @tyb4 (And.intro @tyb31 (And.intro @tyb44 (And.intro @tyb45 (@tyb46))))))
abbrev pn66_1RfI : Plan := (.one 1 (.pur 2 (.one 0 (.one 3 (.one 4 .nil)))))
set_option maxRecDepth 8000
theorem Sm.neg {x : Int} (h : Sm x) : Sm (-x) := by unfold Sm at *; rw [Int.natAbs_neg]; exact h
theorem Bs_.one {H : Hp} {s : AV} {x : Int} (h : Bs_ H s x) : s.one = true := by
  obtain ⟨xs, u, _⟩ := h.ex
  exact u.rd.rd.one
theorem Bs_.other {H : Hp} {s : AV} {x : Int} (h : Bs_ H s x) {k : Nat} {b : Blk} (hg : hget H k = some b) (hb : b.ety ≠ 31) (b' : Blk) : Bs_ (H.set k b') s x := by
  obtain ⟨xs, u, c⟩ := h.ex
  exact ⟨xs, u.other hg hb b', c⟩
set_option maxHeartbeats 2000000 in
theorem Rsub_calls (x y : Int) (s t : AV) (H : Hp) (hs : Bs_ H s x) (ht : Bs_ H t y) (bx : Sm x) (by_ : Sm y) : ACalls Tryz.prog 66 [BV x s, BV y t] H fun r H' => ∃ u, r = BV (x - y) u ∧ Bs_ H' u (x - y) ∧ Ext H H' := by
  have hs1 := hs.one
  have hc1 : s.cells = [s] := AV.cells_one hs1
  have ht1 := ht.one
  have hc2 : t.cells = [t] := AV.cells_one ht1
  refine ACalls_body Tryz.func66 rfl (by kernel_rfl) (by kernel_rfl) ?_
  repeat' first
    | (with_reducible first | refine AWp_seq_k (fun K hK => ?_) | refine AWp_regionE ?_ | refine AWp_drawE (id := 1) [] pn66_1RfI (by kernel_rfl) (by kernel_rfl) ?_ | refine Run_pur ?_)
    | (simp only [thenA, inBlockA, reduceIte, Nat.reduceEqDiff])
    | ((with_reducible refine hK _ _ ?_); clear hK)
    | (simp only [ACond, RA, EAtS_def, EAtX_def, wantedA, acall, astep, ev, ofValue, ofAtom, Nat.reduceEqDiff, Nat.reduceAdd, Nat.reduceMul, Nat.reduceSub, reduceCtorEq, reduceIte, aoptEv, abin, aint, ashift, aun, astr, aeqGuard, isConstOp, aconvH, aofStr, aconvSame, isU8, abuildSlice, afill, splice, azeros, Nat.reduceLeDiff, Nat.reduceLT, Int.reduceLE, Int.reduceLT, Int.reduceEq, Int.reduceToNat, Int.reducePow, IntKind.bits, Int.reduceNeg, RB, aalloc, Go.PW.dig_length, tf66RfI])
    | (simp (disch := first | omega | (simp only [RO]; done) | assumption) only [RS, six44, gix44, bst46_e, bst46_01])
    | (simp (disch := (first | omega | (simp only [RO]; done) | assumption | (simp only [RM, Go.PW.dig_length]; done) | (simp only [RL, Go.PW.dig_length]; omega))) only [RD, reduceCtorEq, reduceIte, Go.PW.dig_length, Nat.reduceLeDiff, Nat.reduceAdd, Nat.reduceMul, Int.reduceToNat, tf66RfI])
  all_goals
    refine EPure_intro (v := BV (-y) t) (fun H0 x0 => Neg_calls y t H0 (ht.ext ((ext5 _ _ _).trans x0))) ?_
    repeat' first
      | (simp only [ACond, RA, EAtS_def, EAtX_def, wantedA, acall, astep, ev, ofValue, ofAtom, Nat.reduceEqDiff, Nat.reduceAdd, Nat.reduceMul, Nat.reduceSub, reduceCtorEq, reduceIte, aoptEv, abin, aint, ashift, aun, astr, aeqGuard, isConstOp, aconvH, aofStr, aconvSame, isU8, abuildSlice, afill, splice, azeros, Nat.reduceLeDiff, Nat.reduceLT, Int.reduceLE, Int.reduceLT, Int.reduceEq, Int.reduceToNat, Int.reducePow, IntKind.bits, Int.reduceNeg, RB, aalloc, Go.PW.dig_length, tf66RfI])
      | (simp (disch := (first | omega | (simp only [RO]; done) | assumption | (simp only [RM, Go.PW.dig_length]; done) | (simp only [RL, Go.PW.dig_length]; omega))) only [RD, reduceCtorEq, reduceIte, Go.PW.dig_length, Nat.reduceLeDiff, Nat.reduceAdd, Nat.reduceMul, Int.reduceToNat, tf66RfI])
    refine ECall_intro (Radd_calls x (-y) s t _ (hs.ext (ext5 _ _ _)) (ht.neg.ext (ext5 _ _ _)) bx by_.neg) ?_
    rintro _ H4 ⟨u, rfl, U, x4⟩
    have q4 : hget H4 (H.length + 1 + 1) = some ⟨[.bool false, .nilS], .own, 46⟩ := hget_ext (hget_at (by simp)) x4
    have hu1 : u.one = true := U.one
    have hc3 : u.cells = [u] := AV.cells_one hu1
    repeat' first
      | (with_reducible first | refine AWp_ret ?_)
      | (simp only [thenA, inBlockA, reduceIte, Nat.reduceEqDiff])
      | ((with_reducible refine hK _ _ ?_); clear hK)
      | (simp only [ACond, RA, EAtS_def, EAtX_def, wantedA, acall, astep, ev, ofValue, ofAtom, Nat.reduceEqDiff, Nat.reduceAdd, Nat.reduceMul, Nat.reduceSub, reduceCtorEq, reduceIte, aoptEv, abin, aint, ashift, aun, astr, aeqGuard, isConstOp, aconvH, aofStr, aconvSame, isU8, abuildSlice, afill, splice, azeros, Nat.reduceLeDiff, Nat.reduceLT, Int.reduceLE, Int.reduceLT, Int.reduceEq, Int.reduceToNat, Int.reducePow, IntKind.bits, Int.reduceNeg, RB, aalloc, Go.PW.dig_length, tf66RfI, q4])
      | (simp (disch := first | omega | (simp only [RO]; done) | assumption) only [RS, six44, gix44, bst46_e, bst46_01])
      | (simp (disch := (first | omega | (simp only [RO]; done) | assumption | (simp only [RM, Go.PW.dig_length]; done) | (simp only [RL, Go.PW.dig_length]; omega))) only [RD, reduceCtorEq, reduceIte, Go.PW.dig_length, Nat.reduceLeDiff, Nat.reduceAdd, Nat.reduceMul, Int.reduceToNat, tf66RfI, q4])
    have l4 := hget_lt q4
    (
     (refine AEnd_gen (rs := [.cell 4 46]) rfl ?_)
     (simp only [AEndR, aresults, Fr.put_some, Fr.put_none, fr0_zero, fr0_succ, fr0_nil, Nat.reduceEqDiff, reduceIte, hget_set l4])
     (try simp (disch := (first | omega | (simp only [RO]; done) | assumption | (simp only [RM, Go.PW.dig_length]; done) | (simp only [RL, Go.PW.dig_length]; omega))) only [RD, reduceCtorEq, reduceIte, Go.PW.dig_length, Nat.reduceLeDiff, Nat.reduceAdd, Nat.reduceMul, Int.reduceToNat, tf66RfI, hget_set l4]))
    have he : x + -y = x - y := by omega
    rw [he] at U ⊢
    exact ⟨u, rfl, U.other q4 (by decide) _, ((ext5 _ _ _).trans x4).set (by omega) _⟩
theorem Amount_calls (x : Int) (s : AV) (H : Hp) (hs : Bs_ H s x) : ACalls Tryz.prog 91 [BV x s] H fun r H' => r = BV x.natAbs s ∧ H = H' := by
  refine ACalls.drop (R := fun r => r = BV x.natAbs s) ?_
  obtain ⟨xs, u, c, hv⟩ := hs.ex
  have hs1 := hs.one
  have hc : s.cells = [s] := AV.cells_one hs1
  have hm := fun H0 (x0 : Ext H H0) => made_calls false s xs H0 (u.rd.ext x0)
  have hb : decide ((x.natAbs : Int) < 0) = false := decide_eq_false (by omega)
  refine ACalls_body Tryz.func91 rfl (by kernel_rfl) (by kernel_rfl) ?_
  repeat' first
    | (with_reducible first | refine AWp_seq_k (fun K hK => ?_) | refine AWp_ret ?_ | refine AWp_regionE ?_)
    | ((with_reducible refine ECall_intro (hm _ ((Ext.push _ _).pushed _)) ?_); rintro _ _ ⟨rfl, rfl⟩)
    | (simp only [thenA, inBlockA, reduceIte, Nat.reduceEqDiff])
    | ((with_reducible refine hK _ _ ?_); clear hK)
    | (simp only [ACond, RA, EAtS_def, EAtX_def, wantedA, acall, astep, ev, ofValue, ofAtom, Nat.reduceEqDiff, Nat.reduceAdd, Nat.reduceMul, Nat.reduceSub, reduceCtorEq, reduceIte, aoptEv, abin, aint, ashift, aun, astr, aeqGuard, isConstOp, aconvH, aofStr, aconvSame, isU8, abuildSlice, afill, splice, azeros, Nat.reduceLeDiff, Nat.reduceLT, Int.reduceLE, Int.reduceLT, Int.reduceEq, Int.reduceToNat, Int.reducePow, IntKind.bits, Int.reduceNeg, RB, aalloc, Go.PW.dig_length, tf91RfI])
    | (simp (disch := first | omega | (simp only [RO]; done) | assumption) only [RS, six44, gix44, bst46_e, bst46_01])
    | (simp (disch := (first | omega | (simp only [RO]; done) | assumption | (simp only [RM, Go.PW.dig_length]; done) | (simp only [RL, Go.PW.dig_length]; omega))) only [RD, reduceCtorEq, reduceIte, Go.PW.dig_length, Nat.reduceLeDiff, Nat.reduceAdd, Nat.reduceMul, Int.reduceToNat, tf91RfI])
  have hsl := hs.lt
  all_goals
    (
     (refine AEnd_gen (rs := [.cell 2 46]) rfl ?_)
     (simp only [AEndR, aresults, Fr.put_some, Fr.put_none, fr0_zero, fr0_succ, fr0_nil, Nat.reduceEqDiff, reduceIte])
     (try simp (disch := (first | omega | (simp only [RO]; done) | assumption | (simp only [RM, Go.PW.dig_length]; done) | (simp only [RL, Go.PW.dig_length]; omega))) only [RD, reduceCtorEq, reduceIte, Go.PW.dig_length, Nat.reduceLeDiff, Nat.reduceAdd, Nat.reduceMul, Int.reduceToNat, tf91RfI]))
  all_goals
    refine ⟨(Ext.push _ _).pushed _, ?_⟩
    simp [AV.lt, AV.lts, hsl, hb]
theorem Bs_.abs {H : Hp} {s : AV} {x : Int} (h : Bs_ H s x) : Bs_ H s x.natAbs := by
  obtain ⟨xs, u, c, hv⟩ := h.ex
  exact ⟨xs, u, c, by rw [hv, Int.natAbs_natCast]⟩
theorem Cmp_calls (x y : Int) (s t : AV) (H : Hp) (hs : Bs_ H s x) (ht : Bs_ H t y) (bx : Sm x) (by_ : Sm y) : ACalls Tryz.prog 90 [BV x s, BV y t] H fun r H' => r = .int .i64 (x - y).sign ∧ H = H' := by
  refine ACalls.drop (R := fun r => r = .int .i64 (x - y).sign) ?_
  have hs1 := hs.one
  have hc1 : s.cells = [s] := AV.cells_one hs1
  have ht1 := ht.one
  have hc2 : t.cells = [t] := AV.cells_one ht1
  refine ACalls_body Tryz.func90 rfl (by kernel_rfl) (by kernel_rfl) ?_
  repeat' first
    | (with_reducible first | refine AWp_seq_k (fun K hK => ?_) | refine AWp_regionE ?_)
    | (simp only [thenA, inBlockA, reduceIte, Nat.reduceEqDiff])
    | ((with_reducible refine hK _ _ ?_); clear hK)
    | (simp only [ACond, RA, EAtS_def, EAtX_def, wantedA, acall, astep, ev, ofValue, ofAtom, Nat.reduceEqDiff, Nat.reduceAdd, Nat.reduceMul, Nat.reduceSub, reduceCtorEq, reduceIte, aoptEv, abin, aint, ashift, aun, astr, aeqGuard, isConstOp, aconvH, aofStr, aconvSame, isU8, abuildSlice, afill, splice, azeros, Nat.reduceLeDiff, Nat.reduceLT, Int.reduceLE, Int.reduceLT, Int.reduceEq, Int.reduceToNat, Int.reducePow, IntKind.bits, Int.reduceNeg, RB, aalloc, Go.PW.dig_length, tf90RfI])
    | (simp (disch := first | omega | (simp only [RO]; done) | assumption) only [RS, six44, gix44, bst46_e, bst46_01])
    | (simp (disch := (first | omega | (simp only [RO]; done) | assumption | (simp only [RM, Go.PW.dig_length]; done) | (simp only [RL, Go.PW.dig_length]; omega))) only [RD, reduceCtorEq, reduceIte, Go.PW.dig_length, Nat.reduceLeDiff, Nat.reduceAdd, Nat.reduceMul, Int.reduceToNat, tf90RfI])
  all_goals
    refine ECall_intro (Rsub_calls x y s t _ (hs.ext (ext4 _ _)) (ht.ext (ext4 _ _)) bx by_) ?_
    rintro _ H4 ⟨u, rfl, U, x4⟩
    repeat' first
      | (with_reducible first | refine AWp_ret ?_)
      | ((with_reducible refine ECall_intro (Sign_calls _ _ _ U) ?_); rintro _ _ ⟨rfl, rfl⟩)
      | (simp only [thenA, inBlockA, reduceIte, Nat.reduceEqDiff])
      | ((with_reducible refine hK _ _ ?_); clear hK)
      | (simp only [ACond, RA, EAtS_def, EAtX_def, wantedA, acall, astep, ev, ofValue, ofAtom, Nat.reduceEqDiff, Nat.reduceAdd, Nat.reduceMul, Nat.reduceSub, reduceCtorEq, reduceIte, aoptEv, abin, aint, ashift, aun, astr, aeqGuard, isConstOp, aconvH, aofStr, aconvSame, isU8, abuildSlice, afill, splice, azeros, Nat.reduceLeDiff, Nat.reduceLT, Int.reduceLE, Int.reduceLT, Int.reduceEq, Int.reduceToNat, Int.reducePow, IntKind.bits, Int.reduceNeg, RB, aalloc, Go.PW.dig_length, tf90RfI])
    (
     (refine AEnd_gen (rs := [.tmp 4]) rfl ?_)
     (simp only [AEndR, aresults, Fr.put_some, Fr.put_none, fr0_zero, fr0_succ, fr0_nil, Nat.reduceEqDiff, reduceIte])
     (try simp (disch := (first | omega | (simp only [RO]; done) | assumption | (simp only [RM, Go.PW.dig_length]; done) | (simp only [RL, Go.PW.dig_length]; omega))) only [RD, reduceCtorEq, reduceIte, Go.PW.dig_length, Nat.reduceLeDiff, Nat.reduceAdd, Nat.reduceMul, Int.reduceToNat, tf90RfI]))
    exact ⟨(ext4 _ _).trans x4, trivial⟩
theorem Sm.abs {x : Int} (h : Sm x) : Sm x.natAbs := by unfold Sm at *; rw [Int.natAbs_natCast]; exact h
theorem Sm.int {v : Int} (hv : -9223372036854775808 ≤ v ∧ v ≤ 9223372036854775807) : Sm v := by
  unfold Sm
  have h : Bs ^ 1 ≤ Bs ^ 20 := pow_mono (by omega)
  have h1 : Bs ^ 1 = 18446744073709551616 := by decide
  omega
theorem Fits_calls (x m : Int) (s : AV) (H : Hp) (hs : Bs_ H s x) (bx : Sm x) (hm : -9223372036854775808 ≤ m ∧ m ≤ 9223372036854775807) : ACalls Tryz.prog 68 [BV x s, .int .i64 m] H fun r H' => r = .bool (decide ((x.natAbs : Int) ≤ m)) ∧ H = H' := by
  refine ACalls.drop (R := fun r => r = .bool (decide ((x.natAbs : Int) ≤ m))) ?_
  have hs1 := hs.one
  have hc1 : s.cells = [s] := AV.cells_one hs1
  refine ACalls_body Tryz.func68 rfl (by kernel_rfl) (by kernel_rfl) ?_
  repeat' first
    | (with_reducible first | refine AWp_seq_k (fun K hK => ?_) | refine AWp_regionE ?_)
    | ((with_reducible refine ECall_intro (Amount_calls _ _ _ (hs.push _)) ?_); rintro _ _ ⟨rfl, rfl⟩)
    | (simp only [thenA, inBlockA, reduceIte, Nat.reduceEqDiff])
    | ((with_reducible refine hK _ _ ?_); clear hK)
    | (simp only [ACond, RA, EAtS_def, EAtX_def, wantedA, acall, astep, ev, ofValue, ofAtom, Nat.reduceEqDiff, Nat.reduceAdd, Nat.reduceMul, Nat.reduceSub, reduceCtorEq, reduceIte, aoptEv, abin, aint, ashift, aun, astr, aeqGuard, isConstOp, aconvH, aofStr, aconvSame, isU8, abuildSlice, afill, splice, azeros, Nat.reduceLeDiff, Nat.reduceLT, Int.reduceLE, Int.reduceLT, Int.reduceEq, Int.reduceToNat, Int.reducePow, IntKind.bits, Int.reduceNeg, RB, aalloc, Go.PW.dig_length, tf68RfI])
    | (simp (disch := first | omega | (simp only [RO]; done) | assumption) only [RS, six44, gix44, bst46_e, bst46_01])
    | (simp (disch := (first | omega | (simp only [RO]; done) | assumption | (simp only [RM, Go.PW.dig_length]; done) | (simp only [RL, Go.PW.dig_length]; omega))) only [RD, reduceCtorEq, reduceIte, Go.PW.dig_length, Nat.reduceLeDiff, Nat.reduceAdd, Nat.reduceMul, Int.reduceToNat, tf68RfI])
  all_goals
    refine ECall_intro (Of_calls m _ hm) ?_
    rintro _ H4 ⟨u, rfl, U, x4⟩
    have A4 : Bs_ H4 s x.natAbs := (hs.abs.push _).ext x4
    repeat' first
      | (with_reducible first | refine AWp_ret ?_)
      | ((with_reducible refine ECall_intro (Cmp_calls _ _ _ _ _ A4 U bx.abs (Sm.int hm)) ?_); rintro _ _ ⟨rfl, rfl⟩)
      | (simp only [thenA, inBlockA, reduceIte, Nat.reduceEqDiff])
      | ((with_reducible refine hK _ _ ?_); clear hK)
      | (simp only [ACond, RA, EAtS_def, EAtX_def, wantedA, acall, astep, ev, ofValue, ofAtom, Nat.reduceEqDiff, Nat.reduceAdd, Nat.reduceMul, Nat.reduceSub, reduceCtorEq, reduceIte, aoptEv, abin, aint, ashift, aun, astr, aeqGuard, isConstOp, aconvH, aofStr, aconvSame, isU8, abuildSlice, afill, splice, azeros, Nat.reduceLeDiff, Nat.reduceLT, Int.reduceLE, Int.reduceLT, Int.reduceEq, Int.reduceToNat, Int.reducePow, IntKind.bits, Int.reduceNeg, RB, aalloc, Go.PW.dig_length, tf68RfI])
    (
     (refine AEnd_gen (rs := [.tmp 4]) rfl ?_)
     (simp only [AEndR, aresults, Fr.put_some, Fr.put_none, fr0_zero, fr0_succ, fr0_nil, Nat.reduceEqDiff, reduceIte])
     (try simp (disch := (first | omega | (simp only [RO]; done) | assumption | (simp only [RM, Go.PW.dig_length]; done) | (simp only [RL, Go.PW.dig_length]; omega))) only [RD, reduceCtorEq, reduceIte, Go.PW.dig_length, Nat.reduceLeDiff, Nat.reduceAdd, Nat.reduceMul, Int.reduceToNat, tf68RfI]))
    refine ⟨(Ext.push _ _).trans x4, trivial, ?_⟩
    congr 1
    refine decide_eq_decide.mpr ?_
    rw [Int.sign_nonpos_iff]
    omega
end Go.Proofs.YtfalfmfkifemeaaGreatDoor
set_option linter.unusedVariables false
set_option linter.unusedSimpArgs false
namespace Go.Proofs.YtfalfmfkifemeaaGreatDoor
open Go.AL Go.PW
theorem tf69RfJ : type_of% (And.intro @tyb2 (And.intro @tyb3 (And.intro @tyb4 (And.intro @tyb31 (And.intro @tyb44 (And.intro @tyb45 (And.intro @tyb46 (@cv31_2)))))))) := And.intro @tyb2 (And.intro @tyb3 (And.intro @tyb4 (And.intro @tyb31 (And.intro @tyb44 (And.intro @tyb45 (And.intro @tyb46 (@cv31_2)))))))
set_option maxRecDepth 8000
theorem Bs_.single {H : Hp} {s : AV} {x : Int} (h : Bs_ H s x) (hx : x ≠ 0) (hb : x.natAbs ≤ 9223372036854775808) : Ints H .u64 s [(x.natAbs : Int)] := by
  obtain ⟨xs, u, c, hv⟩ := h.ex
  have hz := Bs_.nil (H := H) (s := s) c hv
  have hl : xs.length < 2 := by
    rcases Nat.lt_or_ge xs.length 2 with h | h
    · exact h
    · have h1 := c.low (by omega)
      have h2 : Bs ^ 1 ≤ Bs ^ (xs.length - 1) := pow_mono (by omega)
      have h3 : Bs ^ 1 = 18446744073709551616 := by decide
      omega
  have hn : xs.length ≠ 0 := fun e => hx (hz.1 e)
  match xs, hl, hn, hv, u with
  | [m], _, _, hv, u =>
    simp only [val] at hv
    have : m = (x.natAbs : Int) := by omega
    rw [← this]; exact u.rd
set_option maxHeartbeats 2000000 in
theorem Int64_calls (x : Int) (s : AV) (H : Hp) (hs : Bs_ H s x) (hv : -9223372036854775808 ≤ x ∧ x ≤ 9223372036854775807) : ACalls Tryz.prog 69 [BV x s] H fun r H' => r = .tup [.int .i64 x, .bool true] ∧ H = H' := by
  refine ACalls.drop (R := fun r => r = .tup [.int .i64 x, .bool true]) ?_
  have hs1 := hs.one
  have hc1 : s.cells = [s] := AV.cells_one hs1
  by_cases h0 : x = 0
  · obtain ⟨xs, u, c, vx⟩ := hs.ex
    have hz := (Bs_.nil (H := H) (s := s) c vx).2 h0
    have hl := u.rd.rd.len und44
    rw [hz] at hl
    refine ACalls_body Tryz.func69 rfl (by kernel_rfl) (by kernel_rfl) ?_
    repeat' first
      | (with_reducible first | refine AWp_seq_k (fun K hK => ?_) | refine AWp_ret ?_ | refine AWp_regionE ?_ | refine AWp_condI ?_)
      | (simp only [thenA, inBlockA, reduceIte, Nat.reduceEqDiff])
      | ((with_reducible refine hK _ _ ?_); clear hK)
      | (simp only [ACond, RA, EAtS_def, EAtX_def, wantedA, acall, astep, ev, ofValue, ofAtom, Nat.reduceEqDiff, Nat.reduceAdd, Nat.reduceMul, Nat.reduceSub, reduceCtorEq, reduceIte, aoptEv, abin, aint, ashift, aun, astr, aeqGuard, isConstOp, aconvH, aofStr, aconvSame, isU8, abuildSlice, afill, splice, azeros, Nat.reduceLeDiff, Nat.reduceLT, Int.reduceLE, Int.reduceLT, Int.reduceEq, Int.reduceToNat, Int.reducePow, IntKind.bits, Int.reduceNeg, RB, aalloc, Go.PW.dig_length, tf69RfJ, hl])
      | (simp (disch := first | omega | (simp only [RO]; done) | assumption) only [RS, six44, gix44, bst46_e, bst46_01])
      | (simp (disch := (first | omega | (simp only [RO]; done) | assumption | (simp only [RM, Go.PW.dig_length]; done) | (simp only [RL, Go.PW.dig_length]; omega))) only [RD, reduceCtorEq, reduceIte, Go.PW.dig_length, Nat.reduceLeDiff, Nat.reduceAdd, Nat.reduceMul, Int.reduceToNat, tf69RfJ, hl])
    all_goals
      (
       (refine AEnd_gen (rs := [.tmp 2, .tmp 3]) rfl ?_)
       (simp only [AEndR, aresults, Fr.put_some, Fr.put_none, fr0_zero, fr0_succ, fr0_nil, Nat.reduceEqDiff, reduceIte])
       (try simp (disch := (first | omega | (simp only [RO]; done) | assumption | (simp only [RM, Go.PW.dig_length]; done) | (simp only [RL, Go.PW.dig_length]; omega))) only [RD, reduceCtorEq, reduceIte, Go.PW.dig_length, Nat.reduceLeDiff, Nat.reduceAdd, Nat.reduceMul, Int.reduceToNat, tf69RfJ]))
    all_goals exact ⟨Ext.push _ _, by simp [AV.lt, AV.lts], by rw [h0]⟩
  · have hI := hs.single h0 (by omega)
    have hl := hI.rd.len und44
    have f1 : (9223372036854775808 < (x.natAbs : Int)) = False := eq_false (by omega)
    have a0 : aindexAddr Tryz.prog 44 s (.int .i64 0) = some (.ptr s.hd s.of) := by
      have := hI.rd.at_ und44 size31 (k := .i64) (j := 0) (by omega) (by simp)
      simpa using this
    have l0 : ∀ b : Blk, aload Tryz.prog (H ++ [b]) 31 (.ptr s.hd s.of) = some (.int .u64 (x.natAbs : Int)) := fun b => by
      have := (hI.push b).load agg31 (i := 0) (by simp)
      simpa using this
    refine ACalls_body Tryz.func69 rfl (by kernel_rfl) (by kernel_rfl) ?_
    by_cases hn : x < 0
    · have e1 : (x < 0) = True := eq_true hn
      have w1 : IntKind.u64.wrap ((x.natAbs : Int) - 1) = -x - 1 := by rw [u64_in (by omega) (by simp only [Bs]; omega)]; omega
      have w2 : IntKind.i64.wrap (-x - 1) = -x - 1 := wrap_i64_id (by omega) (by omega)
      have w3 : IntKind.i64.wrap (0 - (-x - 1)) = x + 1 := by rw [wrap_i64_id (by omega) (by omega)]; omega
      have w4 : IntKind.i64.wrap (x + 1 - 1) = x := by rw [wrap_i64_id (by omega) (by omega)]; omega
      repeat' first
        | (with_reducible first | refine AWp_seq_k (fun K hK => ?_) | refine AWp_skip ?_ | refine AWp_ret ?_ | refine AWp_regionE ?_ | refine AWp_condI ?_)
        | (with_reducible refine EGuard_split (fun hc => ?_) (fun hc => ?_) <;> (try simp only [RC] at hc) <;> (try (exfalso; first | omega | contradiction)))
        | (simp only [thenA, inBlockA, reduceIte, Nat.reduceEqDiff])
        | ((with_reducible refine hK _ _ ?_); clear hK)
        | (simp only [ACond, RA, EAtS_def, EAtX_def, wantedA, acall, astep, ev, ofValue, ofAtom, Nat.reduceEqDiff, Nat.reduceAdd, Nat.reduceMul, Nat.reduceSub, reduceCtorEq, reduceIte, aoptEv, abin, aint, ashift, aun, astr, aeqGuard, isConstOp, aconvH, aofStr, aconvSame, isU8, abuildSlice, afill, splice, azeros, Nat.reduceLeDiff, Nat.reduceLT, Int.reduceLE, Int.reduceLT, Int.reduceEq, Int.reduceToNat, Int.reducePow, IntKind.bits, Int.reduceNeg, RB, aalloc, Go.PW.dig_length, tf69RfJ, hl, e1, f1, w1, w2, w3, w4, a0, l0])
        | (simp (disch := first | omega | (simp only [RO]; done) | assumption) only [RS, six44, gix44, bst46_e, bst46_01])
        | (simp (disch := (first | omega | (simp only [RO]; done) | assumption | (simp only [RM, Go.PW.dig_length]; done) | (simp only [RL, Go.PW.dig_length]; omega))) only [RD, reduceCtorEq, reduceIte, Go.PW.dig_length, Nat.reduceLeDiff, Nat.reduceAdd, Nat.reduceMul, Int.reduceToNat, tf69RfJ, hl, e1, f1, w1, w2, w3, w4, a0, l0])
      all_goals
        (
         (refine AEnd_gen (rs := [.tmp 2, .tmp 3]) rfl ?_)
         (simp only [AEndR, aresults, Fr.put_some, Fr.put_none, fr0_zero, fr0_succ, fr0_nil, Nat.reduceEqDiff, reduceIte])
         (try simp (disch := (first | omega | (simp only [RO]; done) | assumption | (simp only [RM, Go.PW.dig_length]; done) | (simp only [RL, Go.PW.dig_length]; omega))) only [RD, reduceCtorEq, reduceIte, Go.PW.dig_length, Nat.reduceLeDiff, Nat.reduceAdd, Nat.reduceMul, Int.reduceToNat, tf69RfJ]))
      all_goals exact ⟨Ext.push _ _, by simp [AV.lt, AV.lts]⟩
    · have e1 : (x < 0) = False := eq_false hn
      have f2 : ((x.natAbs : Int) = 9223372036854775808) = False := eq_false (by omega)
      have w2 : IntKind.i64.wrap (x.natAbs : Int) = x := by rw [wrap_i64_id (by omega) (by omega)]; omega
      repeat' first
        | (with_reducible first | refine AWp_seq_k (fun K hK => ?_) | refine AWp_skip ?_ | refine AWp_ret ?_ | refine AWp_regionE ?_ | refine AWp_condI ?_)
        | (with_reducible refine EGuard_split (fun hc => ?_) (fun hc => ?_) <;> (try simp only [RC] at hc) <;> (try (exfalso; first | omega | contradiction)))
        | (simp only [thenA, inBlockA, reduceIte, Nat.reduceEqDiff])
        | ((with_reducible refine hK _ _ ?_); clear hK)
        | (simp only [ACond, RA, EAtS_def, EAtX_def, wantedA, acall, astep, ev, ofValue, ofAtom, Nat.reduceEqDiff, Nat.reduceAdd, Nat.reduceMul, Nat.reduceSub, reduceCtorEq, reduceIte, aoptEv, abin, aint, ashift, aun, astr, aeqGuard, isConstOp, aconvH, aofStr, aconvSame, isU8, abuildSlice, afill, splice, azeros, Nat.reduceLeDiff, Nat.reduceLT, Int.reduceLE, Int.reduceLT, Int.reduceEq, Int.reduceToNat, Int.reducePow, IntKind.bits, Int.reduceNeg, RB, aalloc, Go.PW.dig_length, tf69RfJ, hl, e1, f1, f2, w2, a0, l0])
        | (simp (disch := first | omega | (simp only [RO]; done) | assumption) only [RS, six44, gix44, bst46_e, bst46_01])
        | (simp (disch := (first | omega | (simp only [RO]; done) | assumption | (simp only [RM, Go.PW.dig_length]; done) | (simp only [RL, Go.PW.dig_length]; omega))) only [RD, reduceCtorEq, reduceIte, Go.PW.dig_length, Nat.reduceLeDiff, Nat.reduceAdd, Nat.reduceMul, Int.reduceToNat, tf69RfJ, hl, e1, f1, f2, w2, a0, l0])
      all_goals
        (
         (refine AEnd_gen (rs := [.tmp 2, .tmp 3]) rfl ?_)
         (simp only [AEndR, aresults, Fr.put_some, Fr.put_none, fr0_zero, fr0_succ, fr0_nil, Nat.reduceEqDiff, reduceIte])
         (try simp (disch := (first | omega | (simp only [RO]; done) | assumption | (simp only [RM, Go.PW.dig_length]; done) | (simp only [RL, Go.PW.dig_length]; omega))) only [RD, reduceCtorEq, reduceIte, Go.PW.dig_length, Nat.reduceLeDiff, Nat.reduceAdd, Nat.reduceMul, Int.reduceToNat, tf69RfJ]))
      all_goals exact ⟨Ext.push _ _, by simp [AV.lt, AV.lts]⟩
end Go.Proofs.YtfalfmfkifemeaaGreatDoor
set_option linter.unusedVariables false
set_option linter.unusedSimpArgs false
namespace Go.Proofs.YtfalfmfkifemeaaGreatDoor
open Go.AL Go.PW
theorem tf27RfL : type_of% (And.intro @tyb2 (And.intro @tyb3 (And.intro @tyb22 (And.intro @tyb23 (@tyb24))))) := And.intro @tyb2 (And.intro @tyb3 (And.intro @tyb22 (And.intro @tyb23 (@tyb24))))
set_option maxRecDepth 8000
theorem make_i64 (H : Hp) (n : Nat) (l : IntKind) (hn : n < 1000000) : amakeSlice Tryz.prog H 22 (.int l (n : Int)) (.int l (n : Int)) = some (.sl H.length 0 n n, H ++ [⟨(List.replicate n (0 : Int)).map (AV.int .i64), .own, 2⟩]) := by
  have e : azeros [AV.int .i64 0] n = (List.replicate n (0 : Int)).map (AV.int .i64) := by
    unfold azeros
    induction n with
    | zero => rfl
    | succ n ih => rw [List.replicate_succ, List.flatten_cons, ih (by omega)]; rfl
  have hc : (AV.int .i64 0).cells = [AV.int .i64 0] := rfl
  simp only [amakeSlice, und22, size2, zero2, bytes2, hc]
  rw [if_pos ⟨rfl, rfl, by decide, by omega, by omega, by omega, by omega⟩, Int.toNat_natCast, e]
theorem half (n : Fin 9) : IntKind.i64.wrap (Int.tdiv (IntKind.i64.wrap ((n.1 : Int) * IntKind.i64.wrap ((n.1 : Int) + 1))) 2) = ((n.1 * (n.1 + 1) / 2 : Nat) : Int) := by
  revert n; decide +kernel
set_option maxHeartbeats 2000000 in
theorem SymNew_calls (n : Nat) (H : Hp) (h8 : n ≤ 8) : ACalls Tryz.prog 27 [.int .i64 (n : Int)] H fun r H' => ∃ h, r = SymA n (.sl h 0 (n * (n + 1) / 2) (n * (n + 1) / 2)) ∧ hget H' h = some ⟨(List.replicate (n * (n + 1) / 2) (0 : Int)).map (AV.int .i64), .own, 2⟩ ∧ H.length ≤ h ∧ Ext H H' := by
  have hm1 : abuiltin Tryz.prog .max #[3, 3] [.int .i64 (n : Int), .int .i64 0] = some (.int .i64 (n : Int)) := by
    show some (AV.int .i64 (if ((n : Int) < 0) then 0 else (n : Int))) = _
    rw [if_neg (by omega)]
  have hm2 : abuiltin Tryz.prog .min #[3, 3] [.int .i64 (n : Int), .int .i64 8] = some (.int .i64 (n : Int)) := by
    show some (AV.int .i64 (if ((8 : Int) < (n : Int)) then 8 else (n : Int))) = _
    rw [if_neg (by omega)]
  have hh := half ⟨n, by omega⟩
  have hn2 : n * (n + 1) / 2 < 1000000 := by
    have : n * (n + 1) ≤ 8 * 9 := Nat.mul_le_mul h8 (by omega)
    omega
  have hmk := fun H0 => make_i64 H0 (n * (n + 1) / 2) .i64 hn2
  refine ACalls_body Tryz.func27 rfl (by kernel_rfl) (by kernel_rfl) ?_
  repeat' first
    | (with_reducible first | refine AWp_seq_k (fun K hK => ?_) | refine AWp_ret ?_ | refine AWp_regionE ?_)
    | (simp only [thenA, inBlockA, reduceIte, Nat.reduceEqDiff])
    | ((with_reducible refine hK _ _ ?_); clear hK)
    | (simp only [ACond, RA, EAtS_def, EAtX_def, wantedA, acall, astep, ev, ofValue, ofAtom, Nat.reduceEqDiff, Nat.reduceAdd, Nat.reduceMul, Nat.reduceSub, reduceCtorEq, reduceIte, aoptEv, abin, aint, ashift, aun, astr, aeqGuard, isConstOp, aconvH, aofStr, aconvSame, isU8, abuildSlice, afill, splice, azeros, Nat.reduceLeDiff, Nat.reduceLT, Int.reduceLE, Int.reduceLT, Int.reduceEq, Int.reduceToNat, Int.reducePow, IntKind.bits, Int.reduceNeg, RB, aalloc, Go.PW.dig_length, tf27RfL, hm1, hm2, hh, hmk])
    | (simp (disch := first | omega | (simp only [RO]; done) | assumption) only [RS, six22, gix22, bst24_e, bst24_0, bst24_01])
    | (simp (disch := (first | omega | (simp only [RO]; done) | assumption | (simp only [RM, Go.PW.dig_length]; done) | (simp only [RL, Go.PW.dig_length]; omega))) only [RD, reduceCtorEq, reduceIte, Go.PW.dig_length, Nat.reduceLeDiff, Nat.reduceAdd, Nat.reduceMul, Int.reduceToNat, tf27RfL, hm1, hm2, hh, hmk])
  all_goals
    (
     (refine AEnd_gen (rs := [.cell 2 24]) rfl ?_)
     (simp only [AEndR, aresults, Fr.put_some, Fr.put_none, fr0_zero, fr0_succ, fr0_nil, Nat.reduceEqDiff, reduceIte])
     (try simp (disch := (first | omega | (simp only [RO]; done) | assumption | (simp only [RM, Go.PW.dig_length]; done) | (simp only [RL, Go.PW.dig_length]; omega))) only [RD, reduceCtorEq, reduceIte, Go.PW.dig_length, Nat.reduceLeDiff, Nat.reduceAdd, Nat.reduceMul, Int.reduceToNat, tf27RfL]))
  all_goals exact ⟨H.length + 1, rfl, by first | exact hget_at (by simp) | rw [if_pos (by simp)] | simp, by omega, (Ext.push _ _).pushed _⟩
end Go.Proofs.YtfalfmfkifemeaaGreatDoor
set_option linter.unusedVariables false
set_option linter.unusedSimpArgs false
namespace Go.Proofs.YtfalfmfkifemeaaGreatDoor
open Go.AL Go.PW
theorem tf12RfM : type_of% (And.intro @tyb2 (And.intro @tyb3 (And.intro @tyb22 (And.intro @tyb23 (@tyb24))))) := And.intro @tyb2 (And.intro @tyb3 (And.intro @tyb22 (And.intro @tyb23 (@tyb24))))
abbrev pn12_1RfM : Plan := (.one 0 (.one 2 (.one 3 (.alt 1 (.one 4 (.one 5 (.one 6 .nil))) (.one 4 (.one 1 (.one 5 (.one 6 .nil))))))))
set_option maxRecDepth 8000
abbrev Ib (xs : List Int) : Blk := ⟨xs.map (AV.int .i64), .own, 2⟩
set_option maxHeartbeats 2000000 in
theorem Copy_calls (n : Int) (xs : List Int) (a : AV) (H : Hp) (ha : Ints H .i64 a xs) (hx : 0 < xs.length) (hl : xs.length < 1000000) : ACalls Tryz.prog 12 [SymA n a] H fun r H' => ∃ h, r = SymA n (.sg h 0 xs.length 1) ∧ hget H' h = some (Ib xs) ∧ H.length ≤ h ∧ Ext H H' := by
  have ha1 : a.one = true := ha.rd.one
  have hc : a.cells = [a] := AV.cells_one ha1
  have g := fun (H0 : Hp) (x0 : Ext H H0) => append_nil (P := Tryz.prog) (ha.ext x0).rd und22 size2 zero2 rfl (by decide) bytes2 (ints_one _ _) hx (by omega) (by omega)
  have g1 := fun b1 b2 => g _ ((Ext.push H b1).pushed b2)
  refine ACalls_body Tryz.func12 rfl (by kernel_rfl) (by kernel_rfl) ?_
  repeat' first
    | (with_reducible first | refine AWp_seq_k (fun K hK => ?_) | refine AWp_ret ?_ | refine AWp_regionE ?_ | refine AWp_drawE (id := 1) [] pn12_1RfM (by kernel_rfl) (by kernel_rfl) ?_)
    | (with_reducible refine And.intro ?_ ?_)
    | (simp only [thenA, inBlockA, reduceIte, Nat.reduceEqDiff])
    | ((with_reducible refine hK _ _ ?_); clear hK)
    | (simp only [ACond, RA, EAtS_def, EAtX_def, wantedA, acall, astep, ev, ofValue, ofAtom, Nat.reduceEqDiff, Nat.reduceAdd, Nat.reduceMul, Nat.reduceSub, reduceCtorEq, reduceIte, aoptEv, abin, aint, ashift, aun, astr, aeqGuard, isConstOp, aconvH, aofStr, aconvSame, isU8, abuildSlice, afill, splice, azeros, Nat.reduceLeDiff, Nat.reduceLT, Int.reduceLE, Int.reduceLT, Int.reduceEq, Int.reduceToNat, Int.reducePow, IntKind.bits, Int.reduceNeg, RB, aalloc, Go.PW.dig_length, tf12RfM, g1])
    | (simp (disch := first | omega | (simp only [RO]; done) | assumption) only [RS, six22, gix22, bst24_e, bst24_0, bst24_01])
    | (simp (disch := (first | omega | (simp only [RO]; done) | assumption | (simp only [RM, Go.PW.dig_length]; done) | (simp only [RL, Go.PW.dig_length]; omega))) only [RD, reduceCtorEq, reduceIte, Go.PW.dig_length, Nat.reduceLeDiff, Nat.reduceAdd, Nat.reduceMul, Int.reduceToNat, tf12RfM, g1])
  all_goals
    (
     (refine AEnd_gen (rs := [.cell 2 24]) rfl ?_)
     (simp only [AEndR, aresults, Fr.put_some, Fr.put_none, fr0_zero, fr0_succ, fr0_nil, Nat.reduceEqDiff, reduceIte])
     (try simp (disch := (first | omega | (simp only [RO]; done) | assumption | (simp only [RM, Go.PW.dig_length]; done) | (simp only [RL, Go.PW.dig_length]; omega))) only [RD, reduceCtorEq, reduceIte, Go.PW.dig_length, Nat.reduceLeDiff, Nat.reduceAdd, Nat.reduceMul, Int.reduceToNat, tf12RfM]))
  all_goals exact ⟨H.length + 1 + 1, rfl, by first | exact hget_at (by simp) | rw [if_pos (by simp)] | simp, by omega, ((Ext.push _ _).pushed _).pushed _⟩
end Go.Proofs.YtfalfmfkifemeaaGreatDoor
set_option linter.unusedVariables false
set_option linter.unusedSimpArgs false
namespace Go.Proofs.YtfalfmfkifemeaaGreatDoor
open Go.AL Go.PW Go.PD
theorem tf65BdA : type_of% (And.intro @tyb2 (And.intro @tyb3 (And.intro @tyb22 (And.intro @tyb23 (@tyb24))))) := And.intro @tyb2 (And.intro @tyb3 (And.intro @tyb22 (And.intro @tyb23 (@tyb24))))
theorem tf64BdA : type_of% (And.intro @tyb3 (And.intro @tyb31 (And.intro @tyb32 (And.intro @tyb33 (And.intro @tyb38 (@tyb79)))))) := And.intro @tyb3 (And.intro @tyb31 (And.intro @tyb32 (And.intro @tyb33 (And.intro @tyb38 (@tyb79)))))
abbrev pn64_9BdA : Plan := (.one 0 (.one 1 (.one 2 (.one 4 (.one 5 (.one 6 (.one 7 (.one 8 (.one 9 (.one 10 (.one 11 (.one 12 (.one 13 (.one 14 (.one 15 (.one 16 (.one 17 (.one 18 (.pur 19 (.one 3 (.one 20 (.one 21 (.one 22 (.one 23 (.one 24 .nil)))))))))))))))))))))))))
abbrev pn64_11BdA : Plan := (.one 0 (.one 1 (.one 2 (.one 4 (.one 5 (.one 6 (.one 7 (.one 8 (.one 9 (.one 10 (.one 11 (.one 12 (.pur 13 (.one 3 (.one 14 (.one 15 (.one 16 (.one 17 (.one 18 .nil)))))))))))))))))))
set_option maxRecDepth 8000
/-- A matrix of noughts. -/
structure Noughts (H0 H : Hp) (a : AV) (n : Nat) : Prop where
  ex : ∃ h, a = .sl h 0 (n * (n + 1) / 2) (n * (n + 1) / 2) ∧ hget H h = some ⟨(List.replicate (n * (n + 1) / 2) (0 : Int)).map (AV.int .i64), .own, 2⟩ ∧ H0.length ≤ h
set_option maxHeartbeats 2000000 in
theorem New_calls (n : Nat) (H : Hp) (h8 : n ≤ 8) : ACalls Tryz.prog 65 [.int .i64 (n : Int)] H fun r H' => ∃ a, r = SymA n a ∧ Noughts H H' a n ∧ Ext H H' := by
  have hm1 : abuiltin Tryz.prog .max #[3, 3] [.int .i64 (n : Int), .int .i64 0] = some (.int .i64 (n : Int)) := by
    show some (AV.int .i64 (if ((n : Int) < 0) then 0 else (n : Int))) = _
    rw [if_neg (by omega)]
  have hm2 : abuiltin Tryz.prog .min #[3, 3] [.int .i64 (n : Int), .int .i64 8] = some (.int .i64 (n : Int)) := by
    show some (AV.int .i64 (if ((8 : Int) < (n : Int)) then 8 else (n : Int))) = _
    rw [if_neg (by omega)]
  have hn2 : n * (n + 1) / 2 < 1000000 := by
    have : n * (n + 1) ≤ 8 * 9 := Nat.mul_le_mul h8 (by omega)
    omega
  have hr := fun H0 => room_calls n H0 (by omega) (by omega)
  rw [show ((n : Int) * ((n : Int) + 1) / 2) = ((n * (n + 1) / 2 : Nat) : Int) by push_cast; rfl] at hr
  have hmk := fun H0 => make_i64 H0 (n * (n + 1) / 2) .i64 hn2
  refine ACalls_body Tryz.func65 rfl (by kernel_rfl) (by kernel_rfl) ?_
  repeat' first
    | (with_reducible first | refine AWp_seq_k (fun K hK => ?_) | refine AWp_ret ?_ | refine AWp_regionE ?_)
    | ((with_reducible refine ECall_intro (hr _) ?_); rintro _ _ ⟨rfl, rfl⟩)
    | (simp only [thenA, inBlockA, reduceIte, Nat.reduceEqDiff])
    | ((with_reducible refine hK _ _ ?_); clear hK)
    | (simp only [ACond, RA, EAtS_def, EAtX_def, wantedA, acall, astep, ev, ofValue, ofAtom, Nat.reduceEqDiff, Nat.reduceAdd, Nat.reduceMul, Nat.reduceSub, reduceCtorEq, reduceIte, aoptEv, abin, aint, ashift, aun, astr, aeqGuard, isConstOp, aconvH, aofStr, aconvSame, isU8, abuildSlice, afill, splice, azeros, Nat.reduceLeDiff, Nat.reduceLT, Int.reduceLE, Int.reduceLT, Int.reduceEq, Int.reduceToNat, Int.reducePow, IntKind.bits, Int.reduceNeg, RB, aalloc, Go.PW.dig_length, tf65BdA, hm1, hm2, hmk])
    | (simp (disch := first | omega | (simp only [RO]; done) | assumption) only [RS, six22, gix22, bst24_e, bst24_0, bst24_01])
    | (simp (disch := (first | omega | (simp only [RO]; done) | assumption | (simp only [RM, Go.PW.dig_length]; done) | (simp only [RL, Go.PW.dig_length]; omega))) only [RD, reduceCtorEq, reduceIte, Go.PW.dig_length, Nat.reduceLeDiff, Nat.reduceAdd, Nat.reduceMul, Int.reduceToNat, tf65BdA, hm1, hm2, hmk])
  all_goals
    (
     (refine AEnd_gen (rs := [.cell 2 24]) rfl ?_)
     (simp only [AEndR, aresults, Fr.put_some, Fr.put_none, fr0_zero, fr0_succ, fr0_nil, Nat.reduceEqDiff, reduceIte])
     (try simp (disch := (first | omega | (simp only [RO]; done) | assumption | (simp only [RM, Go.PW.dig_length]; done) | (simp only [RL, Go.PW.dig_length]; omega))) only [RD, reduceCtorEq, reduceIte, Go.PW.dig_length, Nat.reduceLeDiff, Nat.reduceAdd, Nat.reduceMul, Int.reduceToNat, tf65BdA]))
  all_goals exact ⟨_, rfl, ⟨H.length + 1, rfl, by first | exact hget_at (by simp) | rw [if_pos (by simp)] | simp, by omega⟩, (Ext.push _ _).pushed _⟩
theorem Noughts.ints {H0 H : Hp} {a : AV} {n : Nat} (h : Noughts H0 H a n) : Ints H .i64 a (List.replicate (n * (n + 1) / 2) 0) := by
  obtain ⟨k, rfl, hg, _⟩ := h.ex
  have := Ints.blk (n := n * (n + 1) / 2) (c := n * (n + 1) / 2) (o := 0) hg (by decide) (by simp) (Nat.le_refl _)
  rwa [List.drop_zero, List.take_of_length_le (by simp)] at this
theorem right_noughts {n : Nat} (h8 : n ≤ 8) : Right n (List.replicate (n * (n + 1) / 2) 0) := by
  refine ⟨⟨by omega, by omega, by rw [List.length_replicate]; push_cast; rfl⟩, fun x hx => ?_⟩
  rw [(List.mem_replicate.1 hx).2]
  unfold Fit; omega
theorem ent_noughts (n i j : Nat) (l : Nat) : ent n (List.replicate l 0) i j = 0 := by
  unfold ent
  rw [List.getD_eq_getElem?_getD, List.getElem?_replicate]
  split <;> rfl
/-- Rows of a function. -/
def rowsF (n : Nat) (f : Nat → Nat → Int) : List (List Int) := (List.range n).map fun i => (List.range n).map fun j => f i j
theorem rowsF_length (n : Nat) (f : Nat → Nat → Int) : (rowsF n f).length = n := by simp [rowsF]
theorem rowsF_get (n : Nat) (f : Nat → Nat → Int) (i : Nat) (hi : i < n) : (rowsF n f).getD i [] = (List.range n).map fun j => f i j := by
  simp [rowsF, List.getD, hi]
theorem rowsF_get2 (n : Nat) (f : Nat → Nat → Int) (i j : Nat) (hi : i < n) (hj : j < n) : ((rowsF n f).getD i []).getD j 0 = f i j := by
  rw [rowsF_get _ _ _ hi]
  simp [List.getD, hj]
theorem St.zeroF (n : Nat) (f : Nat → Nat → Int) : St n 0 f (rowsF n f) := by
  refine ⟨rowsF_length n f, fun i hi => by rw [rowsF_get _ _ _ hi]; simp, fun i j _ hi hj => by rw [rowsF_get2 _ _ _ _ hi hj, d_zero]⟩
theorem rowsOf_F (n : Nat) (xs : List Int) : rowsOf n xs = rowsF n (ent n xs) := rfl
set_option maxHeartbeats 8000000 in
theorem less_calls (n pa pb : Nat) (va vb : List AV) (a b : Nat → Nat → Int) (more : Int) (H : Hp) (MA : Mat H pa va (rowsF n a)) (MB : Mat H pb vb (rowsF n b)) (h8 : n ≤ 8) (hA : ∀ i j, i < n → j < n → (a i j).natAbs ≤ 1073741824) (hB : ∀ i j, i < n → j < n → (b i j).natAbs ≤ 1073741824) (hm : more.natAbs ≤ 9223372036854775808) :
    ACalls Tryz.prog 64 [.sl pa 0 n n, .sl pb 0 n n, W more] H fun r H' => ∃ p vs, r = .sl p 0 n n ∧ Mat H' p vs (rowsF n (dif a b more)) ∧ Ext H H' ∧ Fresh H p vs n := by
  have mo := fun H => make_outer H n .i64 (by omega)
  have mr := fun H => make_row H n .i64 (by omega)
  have hInm : In more := In_small (Nat.le_trans hm (by decide +kernel))
  have hAin : ∀ i j, i < n → j < n → In (a i j) := fun i j hi hj => In_small (Nat.le_trans (hA i j hi hj) (by decide +kernel))
  have hBin : ∀ i j, i < n → j < n → In (b i j) := fun i j hi hj => In_small (Nat.le_trans (hB i j hi hj) (by decide +kernel))
  have hDb : ∀ i j, i < n → j < n → (a i j - b i j).natAbs ≤ 2147483648 := fun i j hi hj => by have := hA i j hi hj; have := hB i j hi hj; omega
  have hDin : ∀ i j, i < n → j < n → In (a i j - b i j) := fun i j hi hj => In_small (Nat.le_trans (hDb i j hi hj) (by decide +kernel))
  have hSin : ∀ i j, i < n → j < n → In (a i j - b i j + more) := fun i j hi hj => In_small (Nat.le_trans (show (a i j - b i j + more).natAbs ≤ 9223372039002259456 by have := hDb i j hi hj; omega) (by decide +kernel))
  have hwA : ∀ i, i < n → ((rowsF n a).getD i []).length = n := fun i hi => by rw [rowsF_get _ _ _ hi]; simp
  have hwB : ∀ i, i < n → ((rowsF n b).getD i []).length = n := fun i hi => by rw [rowsF_get _ _ _ hi]; simp
  have lA := rowsF_length n a
  have lB := rowsF_length n b
  refine ACalls_body Tryz.func64 rfl (by kernel_rfl) (by kernel_rfl) ?_
  repeat' first
    | (with_reducible first | refine AWp_seq_k (fun K hK => ?_) | refine AWp_block ?_ | refine AWp_regionE ?_)
    | (simp only [thenA, inBlockA, reduceIte, Nat.reduceEqDiff])
    | ((with_reducible refine hK _ _ ?_); clear hK)
    | (simp only [ACond, RA, EAtS_def, EAtX_def, wantedA, acall, astep, ev, ofValue, ofAtom, Nat.reduceEqDiff, Nat.reduceAdd, Nat.reduceMul, Nat.reduceSub, reduceCtorEq, reduceIte, aoptEv, abin, aint, ashift, aun, astr, aeqGuard, isConstOp, aconvH, aofStr, aconvSame, isU8, abuildSlice, afill, splice, azeros, Nat.reduceLeDiff, Nat.reduceLT, Int.reduceLE, Int.reduceLT, Int.reduceEq, Int.reduceToNat, Int.reducePow, IntKind.bits, Int.reduceNeg, RB, aalloc, Go.PW.dig_length, tf64BdA, mo])
  obtain ⟨p, hp⟩ : ∃ p, p = H.length + 1 := ⟨_, rfl⟩
  rw [← hp]
  refine AWp_loop (fun m fr' H1 => ∃ (t : Nat) (vs : List AV) (rss : List (List Int)), m = n - t ∧ t ≤ n ∧ fr' 0 = .sl pa 0 n n ∧ fr' 1 = .sl pb 0 n n ∧ fr' 5 = .ptr H.length 0 ∧ fr' 7 = .sl p 0 n n ∧ fr' 14 = .int .i64 (n : Int) ∧ fr' 15 = .int .i64 (t : Int) ∧
      Mat H1 p vs rss ∧ vs.length = n ∧ rss.length = t ∧ (∀ i, i < t → rss.getD i [] = (List.range n).map fun j => dif a b more i j) ∧ (∀ i, i < t → H.length ≤ (vs.getD i .nilS).hd) ∧ Ext H H1 ∧ hget H1 H.length = some (Wb more)) (m := n)
    ⟨0, List.replicate n .nilS, [], by omega, by omega, rfl, rfl, rfl, rfl, rfl, rfl, ⟨by simp, by rw [hp]; exact hget_at (by simp), fun i hi => by simp at hi, fun i j hi => by simp at hi, fun i hi => by simp at hi⟩, by simp, rfl, fun i hi => by omega, fun i hi => by omega, (Ext.push _ _).pushed _, by rw [hget_old (by simp), hget_at rfl]⟩ ?_
  rintro m fr' H1 ⟨t, vs, rss, rfl, ht, k0, k1, k5, k7, k14, k15, M, hvl, hrl, hrow, hfr, x1, g1⟩
  have e1 : IntKind.i64.wrap ((t : Int) + 1) = ((t + 1 : Nat) : Int) := by rw [wrap_i64_id (by omega) (by omega)]; omega
  have l1 := hget_lt g1
  by_cases hlt : t < n
  · obtain ⟨hh, hhe⟩ : ∃ hh, hh = H1.length := ⟨_, rfl⟩
    have lp := hget_lt M.out
    have op := outer_put (H := H1 ++ [Rb (List.replicate n 0)]) (p := p) (vs := vs) (t := t) (x := .sl hh 0 n n) (by rw [hget_old lp]; exact M.out) (by omega) rfl
    have MS := M.snoc (by omega) (List.replicate n 0)
    rw [hrl, List.length_replicate, ← hhe, List.set_append_left _ _ lp] at MS
    refine AWp_seq_k (fun K hQ => ?_)
    repeat' first
      | (with_reducible first | refine AWp_skip ?_ | refine AWp_regionE ?_ | refine AWp_condI ?_)
      | (with_reducible refine AIte (fun hc => ?_) (fun hc => ?_) <;> (try simp only [RC] at hc) <;> (try (exfalso; first | omega | contradiction)))
      | (simp only [thenA, inBlockA, reduceIte, Nat.reduceEqDiff])
      | (simp only [ACond, RA, EAtS_def, EAtX_def, wantedA, acall, astep, ev, ofValue, ofAtom, Nat.reduceEqDiff, Nat.reduceAdd, Nat.reduceMul, Nat.reduceSub, reduceCtorEq, reduceIte, aoptEv, abin, aint, ashift, aun, astr, aeqGuard, isConstOp, aconvH, aofStr, aconvSame, isU8, abuildSlice, afill, splice, azeros, Nat.reduceLeDiff, Nat.reduceLT, Int.reduceLE, Int.reduceLT, Int.reduceEq, Int.reduceToNat, Int.reducePow, IntKind.bits, Int.reduceNeg, RB, aalloc, Go.PW.dig_length, tf64BdA, k0, k1, k5, k7, k14, k15])
    refine hQ _ _ ?_
    clear hQ
    refine AWp_seq_k (fun K hQ => ?_)
    repeat' first
      | (with_reducible first | refine AWp_skip ?_ | refine AWp_regionE ?_ | refine AWp_condI ?_)
      | (with_reducible refine AIte (fun hc => ?_) (fun hc => ?_) <;> (try simp only [RC] at hc) <;> (try (exfalso; first | omega | contradiction)))
      | (simp only [thenA, inBlockA, reduceIte, Nat.reduceEqDiff])
      | (simp only [ACond, RA, EAtS_def, EAtX_def, wantedA, acall, astep, ev, ofValue, ofAtom, Nat.reduceEqDiff, Nat.reduceAdd, Nat.reduceMul, Nat.reduceSub, reduceCtorEq, reduceIte, aoptEv, abin, aint, ashift, aun, astr, aeqGuard, isConstOp, aconvH, aofStr, aconvSame, isU8, abuildSlice, afill, splice, azeros, Nat.reduceLeDiff, Nat.reduceLT, Int.reduceLE, Int.reduceLT, Int.reduceEq, Int.reduceToNat, Int.reducePow, IntKind.bits, Int.reduceNeg, RB, aalloc, Go.PW.dig_length, tf64BdA, k0, k1, k5, k7, k14, k15])
    refine hQ _ _ ?_
    clear hQ
    refine AWp_seq_k (fun K3 hK3 => ?_)
    refine AWp_block ?_
    refine AWp_seq_k (fun K hQ => ?_)
    repeat' first
      | (with_reducible first | refine AWp_regionE ?_)
      | (simp only [thenA, inBlockA, reduceIte, Nat.reduceEqDiff])
      | (simp only [ACond, RA, EAtS_def, EAtX_def, wantedA, acall, astep, ev, ofValue, ofAtom, Nat.reduceEqDiff, Nat.reduceAdd, Nat.reduceMul, Nat.reduceSub, reduceCtorEq, reduceIte, aoptEv, abin, aint, ashift, aun, astr, aeqGuard, isConstOp, aconvH, aofStr, aconvSame, isU8, abuildSlice, afill, splice, azeros, Nat.reduceLeDiff, Nat.reduceLT, Int.reduceLE, Int.reduceLT, Int.reduceEq, Int.reduceToNat, Int.reducePow, IntKind.bits, Int.reduceNeg, RB, aalloc, Go.PW.dig_length, tf64BdA, k0, k1, k5, k7, k14, k15, mr, ← hhe, op])
      | (simp (disch := first | omega | (simp only [RO]; done) | assumption) only [RS, six38, gix38, six79, gix79, idx32, slh32, idx33, slh33])
      | (simp (disch := (first | omega | (simp only [RO]; done) | assumption | (simp only [RM, Go.PW.dig_length]; done) | (simp only [RL, Go.PW.dig_length]; omega))) only [RD, reduceCtorEq, reduceIte, Go.PW.dig_length, Nat.reduceLeDiff, Nat.reduceAdd, Nat.reduceMul, Int.reduceToNat, tf64BdA, k0, k1, k5, k7, k14, k15, mr, ← hhe, op])
    refine hQ _ _ ?_
    clear hQ
    refine AWp_seq_k (fun K hQ => ?_)
    repeat' first
      | (with_reducible first | refine AWp_regionE ?_)
      | (simp only [thenA, inBlockA, reduceIte, Nat.reduceEqDiff])
      | (simp only [ACond, RA, EAtS_def, EAtX_def, wantedA, acall, astep, ev, ofValue, ofAtom, Nat.reduceEqDiff, Nat.reduceAdd, Nat.reduceMul, Nat.reduceSub, reduceCtorEq, reduceIte, aoptEv, abin, aint, ashift, aun, astr, aeqGuard, isConstOp, aconvH, aofStr, aconvSame, isU8, abuildSlice, afill, splice, azeros, Nat.reduceLeDiff, Nat.reduceLT, Int.reduceLE, Int.reduceLT, Int.reduceEq, Int.reduceToNat, Int.reducePow, IntKind.bits, Int.reduceNeg, RB, aalloc, Go.PW.dig_length, tf64BdA, k0, k1, k5, k7, k14, k15, mr, ← hhe, op])
      | (simp (disch := first | omega | (simp only [RO]; done) | assumption) only [RS, six38, gix38, six79, gix79, idx32, slh32, idx33, slh33])
      | (simp (disch := (first | omega | (simp only [RO]; done) | assumption | (simp only [RM, Go.PW.dig_length]; done) | (simp only [RL, Go.PW.dig_length]; omega))) only [RD, reduceCtorEq, reduceIte, Go.PW.dig_length, Nat.reduceLeDiff, Nat.reduceAdd, Nat.reduceMul, Int.reduceToNat, tf64BdA, k0, k1, k5, k7, k14, k15, mr, ← hhe, op])
    refine hQ _ _ ?_
    clear hQ
    refine AWp_seq_k (fun K4 hK4 => ?_)
    have hv2 : (vs.set t (AV.sl hh 0 n n)).getD t .nilS = .sl hh 0 n n := by rw [set_getD _ _ _ _ _ (by omega), if_pos rfl]
    have hr2 : ∀ rr : List Int, (rss ++ [rr]).getD t [] = rr := fun rr => by rw [← hrl]; simp [List.getD]
    have hl2 : ∀ rr : List Int, t < (rss ++ [rr]).length := fun rr => by simp; omega
    have lhh : H.length < hh := by omega
    have php : p ≠ H.length := by omega
    have hdd : (AV.sl hh 0 n n).hd = hh := rfl
    repeat' first
      | (with_reducible first | refine AWp_seq_k (fun K hK => ?_) | refine AWp_block ?_ | refine AWp_regionE ?_)
      | (simp only [thenA, inBlockA, reduceIte, Nat.reduceEqDiff])
      | ((with_reducible refine hK _ _ ?_); clear hK)
      | (simp only [ACond, RA, EAtS_def, EAtX_def, wantedA, acall, astep, ev, ofValue, ofAtom, Nat.reduceEqDiff, Nat.reduceAdd, Nat.reduceMul, Nat.reduceSub, reduceCtorEq, reduceIte, aoptEv, abin, aint, ashift, aun, astr, aeqGuard, isConstOp, aconvH, aofStr, aconvSame, isU8, abuildSlice, afill, splice, azeros, Nat.reduceLeDiff, Nat.reduceLT, Int.reduceLE, Int.reduceLT, Int.reduceEq, Int.reduceToNat, Int.reducePow, IntKind.bits, Int.reduceNeg, RB, aalloc, Go.PW.dig_length, tf64BdA, k0, k1, k5, k7, k14, k15])
    refine AWp_loop (fun m fr' H2 => ∃ (j : Nat) (rr : List Int), m = n - j ∧ j ≤ n ∧ fr' 0 = .sl pa 0 n n ∧ fr' 1 = .sl pb 0 n n ∧ fr' 5 = .ptr H.length 0 ∧ fr' 7 = .sl p 0 n n ∧ fr' 8 = .int .i64 (t : Int) ∧ fr' 14 = .int .i64 (n : Int) ∧ fr' 15 = .int .i64 (t : Int) ∧ fr' 25 = .int .i64 (n : Int) ∧ fr' 26 = .int .i64 (j : Int) ∧
        Mat H2 p (vs.set t (.sl hh 0 n n)) (rss ++ [rr]) ∧ rr.length = n ∧ (∀ c, c < n → rr.getD c 0 = if c < j then a t c - b t c else 0) ∧ Ext H H2 ∧ hget H2 H.length = some (Wb more)) (m := n)
      ⟨0, List.replicate n 0, by omega, by omega, k0, k1, k5, k7, rfl, k14, k15, rfl, rfl, MS, by simp, fun c hc => by rw [if_neg (by omega)]; simp [List.getD, hc], (x1.set (by omega) _).pushed _, by rw [hget_old (by rw [List.length_set]; exact l1), hget_set lp, if_neg (by omega)]; exact g1⟩ ?_
    rintro m fr' H2 ⟨j, rr, rfl, hj, k0, k1, k5, k7, k8, k14, k15, k25, k26, M2, hrl2, hrr, x2, g2⟩
    have e2 : IntKind.i64.wrap ((j : Int) + 1) = ((j + 1 : Nat) : Int) := by rw [wrap_i64_id (by omega) (by omega)]; omega
    have lh2 : hh < H2.length := by have := hget_lt (M2.row t (hl2 _)).2; rw [hv2] at this; exact this
    have b1 := M2.at0 (hl2 _)
    rw [hv2] at b1
    by_cases hjn : j < n
    · have A0 := (MA.ext x2).at0 (i := t) (by omega)
      have A1 := (MA.ext x2).idx (i := t) (by omega) (k := .i64) (j := (j : Int)) (by omega) (by rw [hwA _ hlt]; omega)
      have A2 := (MA.ext x2).get (i := t) (j := j) (by omega) (by rw [hwA _ hlt]; omega)
      have B0 := (MB.ext x2).at0 (i := t) (by omega)
      have B1 := (MB.ext x2).idx (i := t) (by omega) (k := .i64) (j := (j : Int)) (by omega) (by rw [hwB _ hlt]; omega)
      have B2 := (MB.ext x2).get (i := t) (j := j) (by omega) (by rw [hwB _ hlt]; omega)
      rw [Int.toNat_natCast] at A1 B1
      rw [rowsF_get2 _ _ _ _ hlt hjn] at A2 B2
      have b3 := M2.idx (hl2 _) (k := .i64) (j := (j : Int)) (by omega) (by rw [hr2]; omega)
      have d1 := M2.put (x := a t j - b t j) (hl2 _) (j := j) (by rw [hr2]; omega)
      rw [hv2] at b3 d1
      rw [hr2] at d1
      rw [Int.toNat_natCast] at b3
      rw [hdd] at b3 d1
      have M3 := M2.set (hl2 _) (rs := rr.set j (a t j - b t j)) (by rw [hr2, List.length_set])
      rw [hv2, hdd] at M3
      have hs3 : (rss ++ [rr]).set t (rr.set j (a t j - b t j)) = rss ++ [rr.set j (a t j - b t j)] := by rw [← hrl]; simp
      rw [hs3] at M3
      have hsub := fun H0 => sub_calls (a t j) (b t j) H0 (hAin t j hlt hjn) (hBin t j hlt hjn) (hDin t j hlt hjn)
      repeat' first
        | (with_reducible first | refine AWp_seq_k (fun K hK => ?_) | refine AWp_block ?_ | refine AWp_skip ?_ | refine AWp_regionE ?_ | refine AWp_drawE (id := 9) [] pn64_9BdA (by kernel_rfl) (by kernel_rfl) ?_ | refine AWp_condI ?_ | refine Run_pur ?_)
        | (with_reducible refine EPure_intro (fun _ x => (hsub _)) ?_)
        | (with_reducible refine AIte (fun hc => ?_) (fun hc => ?_) <;> (try simp only [RC] at hc) <;> (try (exfalso; first | omega | contradiction)))
        | (simp only [thenA, inBlockA, reduceIte, Nat.reduceEqDiff])
        | ((with_reducible refine hK _ _ ?_); clear hK)
        | (simp only [ACond, RA, EAtS_def, EAtX_def, wantedA, acall, astep, ev, ofValue, ofAtom, Nat.reduceEqDiff, Nat.reduceAdd, Nat.reduceMul, Nat.reduceSub, reduceCtorEq, reduceIte, aoptEv, abin, aint, ashift, aun, astr, aeqGuard, isConstOp, aconvH, aofStr, aconvSame, isU8, abuildSlice, afill, splice, azeros, Nat.reduceLeDiff, Nat.reduceLT, Int.reduceLE, Int.reduceLT, Int.reduceEq, Int.reduceToNat, Int.reducePow, IntKind.bits, Int.reduceNeg, RB, aalloc, Go.PW.dig_length, tf64BdA, k0, k1, k5, k7, k8, k14, k15, k25, k26, e2, A0, A1, A2, B0, B1, B2, b1, b3, d1])
        | (simp (disch := first | omega | (simp only [RO]; done) | assumption) only [RS, six38, gix38, six79, gix79, idx32, slh32, idx33, slh33])
      all_goals
        refine ⟨_, by omega, j + 1, rr.set j (a t j - b t j), rfl, by omega, rfl, M3, by rw [List.length_set]; exact hrl2, fun c hc => ?_, x2.set (by omega) _, by rw [hget_set lh2, if_neg (by omega)]; exact g2⟩
        rw [getD_set _ _ (by omega)]
        by_cases hcj : c = j
        · rw [if_pos hcj, if_pos (by omega), hcj]
        · rw [if_neg hcj, hrr c hc]
          have : c < j ↔ c < j + 1 := by omega
          simp only [this]
    · obtain rfl : n = j := by omega
      repeat' first
        | (with_reducible first | refine AWp_seq_k (fun K hK => ?_) | refine AWp_exit ?_ | refine AWp_regionE ?_ | refine AWp_condI ?_)
        | (with_reducible refine AIte (fun hc => ?_) (fun hc => ?_) <;> (try simp only [RC] at hc) <;> (try (exfalso; first | omega | contradiction)))
        | (simp only [thenA, inBlockA, reduceIte, Nat.reduceEqDiff])
        | ((with_reducible refine hK _ _ ?_); clear hK)
        | (simp only [ACond, RA, EAtS_def, EAtX_def, wantedA, acall, astep, ev, ofValue, ofAtom, Nat.reduceEqDiff, Nat.reduceAdd, Nat.reduceMul, Nat.reduceSub, reduceCtorEq, reduceIte, aoptEv, abin, aint, ashift, aun, astr, aeqGuard, isConstOp, aconvH, aofStr, aconvSame, isU8, abuildSlice, afill, splice, azeros, Nat.reduceLeDiff, Nat.reduceLT, Int.reduceLE, Int.reduceLT, Int.reduceEq, Int.reduceToNat, Int.reducePow, IntKind.bits, Int.reduceNeg, RB, aalloc, Go.PW.dig_length, tf64BdA, k0, k1, k5, k7, k8, k14, k15, k25, k26])
      refine hK4 _ _ ?_
      have hrt := hrr t hlt
      rw [if_pos hlt] at hrt
      have b3 := M2.idx (hl2 _) (k := .i64) (j := (t : Int)) (by omega) (by rw [hr2]; omega)
      have b4 := M2.get (i := t) (j := t) (hl2 _) (by rw [hr2]; omega)
      have d1 := M2.put (x := a t t - b t t + more) (hl2 _) (j := t) (by rw [hr2]; omega)
      rw [hv2] at b3 d1 b4
      rw [hr2] at d1 b4
      rw [Int.toNat_natCast] at b3
      rw [hdd] at b3 d1 b4
      rw [hrt] at b4
      have M3 := M2.set (hl2 _) (rs := rr.set t (a t t - b t t + more)) (by rw [hr2, List.length_set])
      rw [hv2, hdd] at M3
      have hs3 : (rss ++ [rr]).set t (rr.set t (a t t - b t t + more)) = rss ++ [rr.set t (a t t - b t t + more)] := by rw [← hrl]; simp
      rw [hs3] at M3
      have hadd := fun H0 => add_calls (a t t - b t t) more H0 (hDin t t hlt hlt) hInm (hSin t t hlt hlt)
      repeat' first
        | (with_reducible first | refine AWp_drawE (id := 11) [] pn64_11BdA (by kernel_rfl) (by kernel_rfl) ?_ | refine Run_pur ?_)
        | (with_reducible refine EPure_intro (fun _ x => (hadd _)) ?_)
        | (simp only [thenA, inBlockA, reduceIte, Nat.reduceEqDiff])
        | (simp only [ACond, RA, EAtS_def, EAtX_def, wantedA, acall, astep, ev, ofValue, ofAtom, Nat.reduceEqDiff, Nat.reduceAdd, Nat.reduceMul, Nat.reduceSub, reduceCtorEq, reduceIte, aoptEv, abin, aint, ashift, aun, astr, aeqGuard, isConstOp, aconvH, aofStr, aconvSame, isU8, abuildSlice, afill, splice, azeros, Nat.reduceLeDiff, Nat.reduceLT, Int.reduceLE, Int.reduceLT, Int.reduceEq, Int.reduceToNat, Int.reducePow, IntKind.bits, Int.reduceNeg, RB, aalloc, Go.PW.dig_length, tf64BdA, k0, k1, k5, k7, k8, k14, k15, k25, k26, b1, b3, b4, d1, g2])
        | (simp (disch := first | omega | (simp only [RO]; done) | assumption) only [RS, six38, gix38, six79, gix79, idx32, slh32, idx33, slh33])
        | (simp (disch := (first | omega | (simp only [RO]; done) | assumption | (simp only [RM, Go.PW.dig_length]; done) | (simp only [RL, Go.PW.dig_length]; omega))) only [RD, reduceCtorEq, reduceIte, Go.PW.dig_length, Nat.reduceLeDiff, Nat.reduceAdd, Nat.reduceMul, Int.reduceToNat, tf64BdA, k0, k1, k5, k7, k8, k14, k15, k25, k26, b1, b3, b4, d1, g2])
      all_goals
        refine hK3 _ _ ?_
        repeat' first
          | (with_reducible first | refine AWp_regionE ?_)
          | (simp only [thenA, inBlockA, reduceIte, Nat.reduceEqDiff])
          | (simp only [ACond, RA, EAtS_def, EAtX_def, wantedA, acall, astep, ev, ofValue, ofAtom, Nat.reduceEqDiff, Nat.reduceAdd, Nat.reduceMul, Nat.reduceSub, reduceCtorEq, reduceIte, aoptEv, abin, aint, ashift, aun, astr, aeqGuard, isConstOp, aconvH, aofStr, aconvSame, isU8, abuildSlice, afill, splice, azeros, Nat.reduceLeDiff, Nat.reduceLT, Int.reduceLE, Int.reduceLT, Int.reduceEq, Int.reduceToNat, Int.reducePow, IntKind.bits, Int.reduceNeg, RB, aalloc, Go.PW.dig_length, tf64BdA, k0, k1, k5, k7, k8, k14, k15, k25, k26, e1])
        refine ⟨_, by omega, t + 1, _, _, rfl, by omega, rfl, M3, by rw [List.length_set]; exact hvl, by rw [List.length_append, hrl]; rfl, fun i hi => ?_, fun i hi => ?_, x2.set (by omega) _, by rw [hget_set lh2, if_neg (by omega)]; exact g2⟩
        · by_cases e : i = t
          · rw [e, hr2]
            apply ext_getD 0
            · rw [List.length_set, hrl2]; simp
            · intro c hc
              rw [List.length_map, List.length_range] at hc
              rw [getD_set _ _ (by omega)]
              have hd : ((List.range n).map fun j => dif a b more t j).getD c 0 = dif a b more t c := by simp [List.getD, hc]
              rw [hd]
              unfold dif
              by_cases ec : c = t
              · rw [if_pos ec, if_pos ec.symm, ec]
              · rw [if_neg ec, if_neg (fun h => ec h.symm), hrr c hc, if_pos hc, Int.add_zero]
          · rw [← hrow i (by omega), List.getD_eq_getElem?_getD, List.getElem?_append_left (by omega), ← List.getD_eq_getElem?_getD]
        · rw [set_getD _ _ _ _ _ (by omega)]
          by_cases e : i = t
          · rw [if_pos e]; show H.length ≤ hh; omega
          · rw [if_neg e]; exact hfr i (by omega)
  · obtain rfl : t = n := by omega
    repeat' first
      | (with_reducible first | refine AWp_seq_k (fun K hK => ?_) | refine AWp_exit ?_ | refine AWp_ret ?_ | refine AWp_regionE ?_ | refine AWp_condI ?_)
      | (with_reducible refine AIte (fun hc => ?_) (fun hc => ?_) <;> (try simp only [RC] at hc) <;> (try (exfalso; first | omega | contradiction)))
      | (simp only [thenA, inBlockA, reduceIte, Nat.reduceEqDiff])
      | ((with_reducible refine hK _ _ ?_); clear hK)
      | (clear hK; (with_reducible refine hK _ _ ?_); clear hK)
      | (simp only [ACond, RA, EAtS_def, EAtX_def, wantedA, acall, astep, ev, ofValue, ofAtom, Nat.reduceEqDiff, Nat.reduceAdd, Nat.reduceMul, Nat.reduceSub, reduceCtorEq, reduceIte, aoptEv, abin, aint, ashift, aun, astr, aeqGuard, isConstOp, aconvH, aofStr, aconvSame, isU8, abuildSlice, afill, splice, azeros, Nat.reduceLeDiff, Nat.reduceLT, Int.reduceLE, Int.reduceLT, Int.reduceEq, Int.reduceToNat, Int.reducePow, IntKind.bits, Int.reduceNeg, RB, aalloc, Go.PW.dig_length, tf64BdA, k0, k1, k5, k7, k14, k15])
    (
     (refine AEnd_gen (rs := [.tmp 6]) rfl ?_)
     (simp only [AEndR, aresults, Fr.put_some, Fr.put_none, fr0_zero, fr0_succ, fr0_nil, Nat.reduceEqDiff, reduceIte, k7])
     (try simp (disch := (first | omega | (simp only [RO]; done) | assumption | (simp only [RM, Go.PW.dig_length]; done) | (simp only [RL, Go.PW.dig_length]; omega))) only [RD, reduceCtorEq, reduceIte, Go.PW.dig_length, Nat.reduceLeDiff, Nat.reduceAdd, Nat.reduceMul, Int.reduceToNat, tf64BdA, k7]))
    refine ⟨p, vs, rfl, ?_, x1, by omega, hfr⟩
    have : rss = rowsF t (dif a b more) := by
      apply ext_getD []
      · rw [rowsF_length, hrl]
      · intro i hi
        rw [rowsF_length] at hi
        rw [rowsF_get _ _ _ hi, hrow i hi]
    rw [← this]; exact M
end Go.Proofs.YtfalfmfkifemeaaGreatDoor

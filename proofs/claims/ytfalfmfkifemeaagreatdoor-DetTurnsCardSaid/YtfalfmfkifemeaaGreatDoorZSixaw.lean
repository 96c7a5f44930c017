/- Part 23 of the proof of laws of this seat: lemmas on the model's code, on this program's functions, on numbers. No condition. -/
import Derived.Test.YtfalfmfkifemeaaGreatDoorZSixav
set_option linter.unusedVariables false
set_option linter.unusedSimpArgs false
namespace Go.Proofs.YtfalfmfkifemeaaGreatDoor
open Go.AL Go.PW
theorem tf66RfI : type_of% (And.intro @tyb4 (And.intro @tyb31 (And.intro @tyb44 (And.intro @tyb45 (@tyb46))))) := And.intro @tyb4 (And.intro @tyb31 (And.intro @tyb44 (And.intro @tyb45 (@tyb46))))
theorem tf91RfI : type_of% (And.intro @tyb4 (And.intro @tyb31 (And.intro @tyb44 (And.intro @tyb45 (@tyb46))))) := And.intro @tyb4 (And.intro @tyb31 (And.intro @tyb44 (And.intro @tyb45 (@tyb46))))
theorem tf90RfI : type_of% (And.intro @tyb4 (And.intro @tyb31 (And.intro @tyb44 (And.intro @tyb45 (@tyb46))))) := And.intro @tyb4 (And.intro @tyb31 (And.intro @tyb44 (And.intro @tyb45 (@tyb46))))
theorem tf68RfI : type_of% (And.intro @tyb2 (And.intro @tyb3 (And.intro @tyb4 (And.intro @tyb31 (And.intro @tyb44 (And.intro @tyb45 (@tyb46))))))) := And.intro @tyb2 (And.intro @tyb3 (And.intro @tyb4 (And.intro @tyb31 (And.intro @tyb44 (And.intro @tyb45 (@tyb46))))))
abbrev pn66_1RfI : Plan := (.one 1 (.pur 2 (.one 0 (.one 3 (.one 4 .nil)))))
set_option maxRecDepth 8000
theorem Sm.neg {x : Int} (h : Sm x) : Sm (-x) := by unfold Sm at *; rw [Int.natAbs_neg]; exact h
theorem Bs_.one {H : Hp} {s : AV} {x : Int} (h : Bs_ H s x) : s.one = true := by
  obtain ⟨xs, u, _⟩ := h.ex
  exact u.rd.rd.one
theorem Bs_.other {H : Hp} {s : AV} {x : Int} (h : Bs_ H s x) {k : Nat} {b : Blk} (hg : hget H k = some b) (hb : b.ety ≠ 31) (b' : Blk) : Bs_ (H.set k b') s x := by
  obtain ⟨xs, u, c⟩ := h.ex
  exact ⟨xs, u.other hg hb b', c⟩
set_option maxHeartbeats 2000000 in
theorem Rsub_calls (x y : Int) (s t : AV) (H : Hp) (hs : Bs_ H s x) (ht : Bs_ H t y) (bx : Sm x) (by_ : Sm y) : ACalls Tryz.prog 66 [BV x s, BV y t] H fun r H' => ∃ u, r = BV (x - y) u ∧ Bs_ H' u (x - y) ∧ Ext H H' := by
  have hs1 := hs.one
  have hc1 : s.cells = [s] := AV.cells_one hs1
  have ht1 := ht.one
  have hc2 : t.cells = [t] := AV.cells_one ht1
  refine ACalls_body Tryz.func66 rfl (by kernel_rfl) (by kernel_rfl) ?_
  repeat' first
    | (with_reducible first | refine AWp_seq_k (fun K hK => ?_) | refine AWp_regionE ?_ | refine AWp_drawE (id := 1) [] pn66_1RfI (by kernel_rfl) (by kernel_rfl) ?_ | refine Run_pur ?_)
    | (simp only [thenA, inBlockA, reduceIte, Nat.reduceEqDiff])
    | ((with_reducible refine hK _ _ ?_); clear hK)
    | (simp only [ACond, RA, EAtS_def, EAtX_def, wantedA, acall, astep, ev, ofValue, ofAtom, Nat.reduceEqDiff, Nat.reduceAdd, Nat.reduceMul, Nat.reduceSub, reduceCtorEq, reduceIte, aoptEv, abin, aint, ashift, aun, astr, aeqGuard, isConstOp, aconvH, aofStr, aconvSame, isU8, abuildSlice, afill, splice, azeros, Nat.reduceLeDiff, Nat.reduceLT, Int.reduceLE, Int.reduceLT, Int.reduceEq, Int.reduceToNat, Int.reducePow, IntKind.bits, Int.reduceNeg, RB, aalloc, Go.PW.dig_length, tf66RfI])
    | (simp (disch := first | omega | (simp only [RO]; done) | assumption) only [RS, six44, gix44, bst46_e, bst46_01])
    | (simp (disch := (first | omega | (simp only [RO]; done) | assumption | (simp only [RM, Go.PW.dig_length]; done) | (simp only [RL, Go.PW.dig_length]; omega))) only [RD, reduceCtorEq, reduceIte, Go.PW.dig_length, Nat.reduceLeDiff, Nat.reduceAdd, Nat.reduceMul, Int.reduceToNat, tf66RfI])
  all_goals
    refine EPure_intro (v := BV (-y) t) (fun H0 x0 => Neg_calls y t H0 (ht.ext ((ext5 _ _ _).trans x0))) ?_
    repeat' first
      | (simp only [ACond, RA, EAtS_def, EAtX_def, wantedA, acall, astep, ev, ofValue, ofAtom, Nat.reduceEqDiff, Nat.reduceAdd, Nat.reduceMul, Nat.reduceSub, reduceCtorEq, reduceIte, aoptEv, abin, aint, ashift, aun, astr, aeqGuard, isConstOp, aconvH, aofStr, aconvSame, isU8, abuildSlice, afill, splice, azeros, Nat.reduceLeDiff, Nat.reduceLT, Int.reduceLE, Int.reduceLT, Int.reduceEq, Int.reduceToNat, Int.reducePow, IntKind.bits, Int.reduceNeg, RB, aalloc, Go.PW.dig_length, tf66RfI])
      | (simp (disch := (first | omega | (simp only [RO]; done) | assumption | (simp only [RM, Go.PW.dig_length]; done) | (simp only [RL, Go.PW.dig_length]; omega))) only [RD, reduceCtorEq, reduceIte, Go.PW.dig_length, Nat.reduceLeDiff, Nat.reduceAdd, Nat.reduceMul, Int.reduceToNat, tf66RfI])
    refine ECall_intro (Radd_calls x (-y) s t _ (hs.ext (ext5 _ _ _)) (ht.neg.ext (ext5 _ _ _)) bx by_.neg) ?_
    rintro _ H4 ⟨u, rfl, U, x4⟩
    have q4 : hget H4 (H.length + 1 + 1) = some ⟨[.bool false, .nilS], .own, 46⟩ := hget_ext (hget_at (by simp)) x4
    have hu1 : u.one = true := U.one
    have hc3 : u.cells = [u] := AV.cells_one hu1
    repeat' first
      | (with_reducible first | refine AWp_ret ?_)
      | (simp only [thenA, inBlockA, reduceIte, Nat.reduceEqDiff])
      | ((with_reducible refine hK _ _ ?_); clear hK)
      | (simp only [ACond, RA, EAtS_def, EAtX_def, wantedA, acall, astep, ev, ofValue, ofAtom, Nat.reduceEqDiff, Nat.reduceAdd, Nat.reduceMul, Nat.reduceSub, reduceCtorEq, reduceIte, aoptEv, abin, aint, ashift, aun, astr, aeqGuard, isConstOp, aconvH, aofStr, aconvSame, isU8, abuildSlice, afill, splice, azeros, Nat.reduceLeDiff, Nat.reduceLT, Int.reduceLE, Int.reduceLT, Int.reduceEq, Int.reduceToNat, Int.reducePow, IntKind.bits, Int.reduceNeg, RB, aalloc, Go.PW.dig_length, tf66RfI, q4])
      | (simp (disch := first | omega | (simp only [RO]; done) | assumption) only [RS, six44, gix44, bst46_e, bst46_01])
      | (simp (disch := (first | omega | (simp only [RO]; done) | assumption | (simp only [RM, Go.PW.dig_length]; done) | (simp only [RL, Go.PW.dig_length]; omega))) only [RD, reduceCtorEq, reduceIte, Go.PW.dig_length, Nat.reduceLeDiff, Nat.reduceAdd, Nat.reduceMul, Int.reduceToNat, tf66RfI, q4])
    have l4 := hget_lt q4
    (
     (refine AEnd_gen (rs := [.cell 4 46]) rfl ?_)
     (simp only [AEndR, aresults, Fr.put_some, Fr.put_none, fr0_zero, fr0_succ, fr0_nil, Nat.reduceEqDiff, reduceIte, hget_set l4])
     (try simp (disch := (first | omega | (simp only [RO]; done) | assumption | (simp only [RM, Go.PW.dig_length]; done) | (simp only [RL, Go.PW.dig_length]; omega))) only [RD, reduceCtorEq, reduceIte, Go.PW.dig_length, Nat.reduceLeDiff, Nat.reduceAdd, Nat.reduceMul, Int.reduceToNat, tf66RfI, hget_set l4]))
    have he : x + -y = x - y := by omega
    rw [he] at U ⊢
    exact ⟨u, rfl, U.other q4 (by decide) _, ((ext5 _ _ _).trans x4).set (by omega) _⟩
theorem Amount_calls (x : Int) (s : AV) (H : Hp) (hs : Bs_ H s x) : ACalls Tryz.prog 91 [BV x s] H fun r H' => r = BV x.natAbs s ∧ H = H' := by
  refine ACalls.drop (R := fun r => r = BV x.natAbs s) ?_
  obtain ⟨xs, u, c, hv⟩ := hs.ex
  have hs1 := hs.one
  have hc : s.cells = [s] := AV.cells_one hs1
  have hm := fun H0 (x0 : Ext H H0) => made_calls false s xs H0 (u.rd.ext x0)
  have hb : decide ((x.natAbs : Int) < 0) = false := decide_eq_false (by omega)
  refine ACalls_body Tryz.func91 rfl (by kernel_rfl) (by kernel_rfl) ?_
  repeat' first
    | (with_reducible first | refine AWp_seq_k (fun K hK => ?_) | refine AWp_ret ?_ | refine AWp_regionE ?_)
    | ((with_reducible refine ECall_intro (hm _ ((Ext.push _ _).pushed _)) ?_); rintro _ _ ⟨rfl, rfl⟩)
    | (simp only [thenA, inBlockA, reduceIte, Nat.reduceEqDiff])
    | ((with_reducible refine hK _ _ ?_); clear hK)
    | (simp only [ACond, RA, EAtS_def, EAtX_def, wantedA, acall, astep, ev, ofValue, ofAtom, Nat.reduceEqDiff, Nat.reduceAdd, Nat.reduceMul, Nat.reduceSub, reduceCtorEq, reduceIte, aoptEv, abin, aint, ashift, aun, astr, aeqGuard, isConstOp, aconvH, aofStr, aconvSame, isU8, abuildSlice, afill, splice, azeros, Nat.reduceLeDiff, Nat.reduceLT, Int.reduceLE, Int.reduceLT, Int.reduceEq, Int.reduceToNat, Int.reducePow, IntKind.bits, Int.reduceNeg, RB, aalloc, Go.PW.dig_length, tf91RfI])
    | (simp (disch := first | omega | (simp only [RO]; done) | assumption) only [RS, six44, gix44, bst46_e, bst46_01])
    | (simp (disch := (first | omega | (simp only [RO]; done) | assumption | (simp only [RM, Go.PW.dig_length]; done) | (simp only [RL, Go.PW.dig_length]; omega))) only [RD, reduceCtorEq, reduceIte, Go.PW.dig_length, Nat.reduceLeDiff, Nat.reduceAdd, Nat.reduceMul, Int.reduceToNat, tf91RfI])
  have hsl := hs.lt
  all_goals
    (
     (refine AEnd_gen (rs := [.cell 2 46]) rfl ?_)
     (simp only [AEndR, aresults, Fr.put_some, Fr.put_none, fr0_zero, fr0_succ, fr0_nil, Nat.reduceEqDiff, reduceIte])
     (try simp (disch := (first | omega | (simp only [RO]; done) | assumption | (simp only [RM, Go.PW.dig_length]; done) | (simp only [RL, Go.PW.dig_length]; omega))) only [RD, reduceCtorEq, reduceIte, Go.PW.dig_length, Nat.reduceLeDiff, Nat.reduceAdd, Nat.reduceMul, Int.reduceToNat, tf91RfI]))
  all_goals
    refine ⟨(Ext.push _ _).pushed _, ?_⟩
    simp [AV.lt, AV.lts, hsl, hb]
theorem Bs_.abs {H : Hp} {s : AV} {x : Int} (h : Bs_ H s x) : Bs_ H s x.natAbs := by
  obtain ⟨xs, u, c, hv⟩ := h.ex
  exact ⟨xs, u, c, by rw [hv, Int.natAbs_natCast]⟩
theorem Cmp_calls (x y : Int) (s t : AV) (H : Hp) (hs : Bs_ H s x) (ht : Bs_ H t y) (bx : Sm x) (by_ : Sm y) : ACalls Tryz.prog 90 [BV x s, BV y t] H fun r H' => r = .int .i64 (x - y).sign ∧ H = H' := by
  refine ACalls.drop (R := fun r => r = .int .i64 (x - y).sign) ?_
  have hs1 := hs.one
  have hc1 : s.cells = [s] := AV.cells_one hs1
  have ht1 := ht.one
  have hc2 : t.cells = [t] := AV.cells_one ht1
  refine ACalls_body Tryz.func90 rfl (by kernel_rfl) (by kernel_rfl) ?_
  repeat' first
    | (with_reducible first | refine AWp_seq_k (fun K hK => ?_) | refine AWp_regionE ?_)
    | (simp only [thenA, inBlockA, reduceIte, Nat.reduceEqDiff])
    | ((with_reducible refine hK _ _ ?_); clear hK)
    | (simp only [ACond, RA, EAtS_def, EAtX_def, wantedA, acall, astep, ev, ofValue, ofAtom, Nat.reduceEqDiff, Nat.reduceAdd, Nat.reduceMul, Nat.reduceSub, reduceCtorEq, reduceIte, aoptEv, abin, aint, ashift, aun, astr, aeqGuard, isConstOp, aconvH, aofStr, aconvSame, isU8, abuildSlice, afill, splice, azeros, Nat.reduceLeDiff, Nat.reduceLT, Int.reduceLE, Int.reduceLT, Int.reduceEq, Int.reduceToNat, Int.reducePow, IntKind.bits, Int.reduceNeg, RB, aalloc, Go.PW.dig_length, tf90RfI])
    | (simp (disch := first | omega | (simp only [RO]; done) | assumption) only [RS, six44, gix44, bst46_e, bst46_01])
    | (simp (disch := (first | omega | (simp only [RO]; done) | assumption | (simp only [RM, Go.PW.dig_length]; done) | (simp only [RL, Go.PW.dig_length]; omega))) only [RD, reduceCtorEq, reduceIte, Go.PW.dig_length, Nat.reduceLeDiff, Nat.reduceAdd, Nat.reduceMul, Int.reduceToNat, tf90RfI])
  all_goals
    refine ECall_intro (Rsub_calls x y s t _ (hs.ext (ext4 _ _)) (ht.ext (ext4 _ _)) bx by_) ?_
    rintro _ H4 ⟨u, rfl, U, x4⟩
    repeat' first
      | (with_reducible first | refine AWp_ret ?_)
      | ((with_reducible refine ECall_intro (Sign_calls _ _ _ U) ?_); rintro _ _ ⟨rfl, rfl⟩)
      | (simp only [thenA, inBlockA, reduceIte, Nat.reduceEqDiff])
      | ((with_reducible refine hK _ _ ?_); clear hK)
      | (simp only [ACond, RA, EAtS_def, EAtX_def, wantedA, acall, astep, ev, ofValue, ofAtom, Nat.reduceEqDiff, Nat.reduceAdd, Nat.reduceMul, Nat.reduceSub, reduceCtorEq, reduceIte, aoptEv, abin, aint, ashift, aun, astr, aeqGuard, isConstOp, aconvH, aofStr, aconvSame, isU8, abuildSlice, afill, splice, azeros, Nat.reduceLeDiff, Nat.reduceLT, Int.reduceLE, Int.reduceLT, Int.reduceEq, Int.reduceToNat, Int.reducePow, IntKind.bits, Int.reduceNeg, RB, aalloc, Go.PW.dig_length, tf90RfI])
    (
     (refine AEnd_gen (rs := [.tmp 4]) rfl ?_)
     (simp only [AEndR, aresults, Fr.put_some, Fr.put_none, fr0_zero, fr0_succ, fr0_nil, Nat.reduceEqDiff, reduceIte])
     (try simp (disch := (first | omega | (simp only [RO]; done) | assumption | (simp only [RM, Go.PW.dig_length]; done) | (simp only [RL, Go.PW.dig_length]; omega))) only [RD, reduceCtorEq, reduceIte, Go.PW.dig_length, Nat.reduceLeDiff, Nat.reduceAdd, Nat.reduceMul, Int.reduceToNat, tf90RfI]))
    exact ⟨(ext4 _ _).trans x4, trivial⟩
theorem Sm.abs {x : Int} (h : Sm x) : Sm x.natAbs := by unfold Sm at *; rw [Int.natAbs_natCast]; exact h
theorem Sm.int {v : Int} (hv : -9223372036854775808 ≤ v ∧ v ≤ 9223372036854775807) : Sm v := by
  unfold Sm
  have h : Bs ^ 1 ≤ Bs ^ 20 := pow_mono (by omega)
  have h1 : Bs ^ 1 = 18446744073709551616 := by decide
  omega
theorem Fits_calls (x m : Int) (s : AV) (H : Hp) (hs : Bs_ H s x) (bx : Sm x) (hm : -9223372036854775808 ≤ m ∧ m ≤ 9223372036854775807) : ACalls Tryz.prog 68 [BV x s, .int .i64 m] H fun r H' => r = .bool (decide ((x.natAbs : Int) ≤ m)) ∧ H = H' := by
  refine ACalls.drop (R := fun r => r = .bool (decide ((x.natAbs : Int) ≤ m))) ?_
  have hs1 := hs.one
  have hc1 : s.cells = [s] := AV.cells_one hs1
  refine ACalls_body Tryz.func68 rfl (by kernel_rfl) (by kernel_rfl) ?_
  repeat' first
    | (with_reducible first | refine AWp_seq_k (fun K hK => ?_) | refine AWp_regionE ?_)
    | ((with_reducible refine ECall_intro (Amount_calls _ _ _ (hs.push _)) ?_); rintro _ _ ⟨rfl, rfl⟩)
    | (simp only [thenA, inBlockA, reduceIte, Nat.reduceEqDiff])
    | ((with_reducible refine hK _ _ ?_); clear hK)
    | (simp only [ACond, RA, EAtS_def, EAtX_def, wantedA, acall, astep, ev, ofValue, ofAtom, Nat.reduceEqDiff, Nat.reduceAdd, Nat.reduceMul, Nat.reduceSub, reduceCtorEq, reduceIte, aoptEv, abin, aint, ashift, aun, astr, aeqGuard, isConstOp, aconvH, aofStr, aconvSame, isU8, abuildSlice, afill, splice, azeros, Nat.reduceLeDiff, Nat.reduceLT, Int.reduceLE, Int.reduceLT, Int.reduceEq, Int.reduceToNat, Int.reducePow, IntKind.bits, Int.reduceNeg, RB, aalloc, Go.PW.dig_length, tf68RfI])
    | (simp (disch := first | omega | (simp only [RO]; done) | assumption) only [RS, six44, gix44, bst46_e, bst46_01])
    | (simp (disch := (first | omega | (simp only [RO]; done) | assumption | (simp only [RM, Go.PW.dig_length]; done) | (simp only [RL, Go.PW.dig_length]; omega))) only [RD, reduceCtorEq, reduceIte, Go.PW.dig_length, Nat.reduceLeDiff, Nat.reduceAdd, Nat.reduceMul, Int.reduceToNat, tf68RfI])
  all_goals
    refine ECall_intro (Of_calls m _ hm) ?_
    rintro _ H4 ⟨u, rfl, U, x4⟩
    have A4 : Bs_ H4 s x.natAbs := (hs.abs.push _).ext x4
    repeat' first
      | (with_reducible first | refine AWp_ret ?_)
      | ((with_reducible refine ECall_intro (Cmp_calls _ _ _ _ _ A4 U bx.abs (Sm.int hm)) ?_); rintro _ _ ⟨rfl, rfl⟩)
      | (simp only [thenA, inBlockA, reduceIte, Nat.reduceEqDiff])
      | ((with_reducible refine hK _ _ ?_); clear hK)
      | (simp only [ACond, RA, EAtS_def, EAtX_def, wantedA, acall, astep, ev, ofValue, ofAtom, Nat.reduceEqDiff, Nat.reduceAdd, Nat.reduceMul, Nat.reduceSub, reduceCtorEq, reduceIte, aoptEv, abin, aint, ashift, aun, astr, aeqGuard, isConstOp, aconvH, aofStr, aconvSame, isU8, abuildSlice, afill, splice, azeros, Nat.reduceLeDiff, Nat.reduceLT, Int.reduceLE, Int.reduceLT, Int.reduceEq, Int.reduceToNat, Int.reducePow, IntKind.bits, Int.reduceNeg, RB, aalloc, Go.PW.dig_length, tf68RfI])
    (
     (refine AEnd_gen (rs := [.tmp 4]) rfl ?_)
     (simp only [AEndR, aresults, Fr.put_some, Fr.put_none, fr0_zero, fr0_succ, fr0_nil, Nat.reduceEqDiff, reduceIte])
     (try simp (disch := (first | omega | (simp only [RO]; done) | assumption | (simp only [RM, Go.PW.dig_length]; done) | (simp only [RL, Go.PW.dig_length]; omega))) only [RD, reduceCtorEq, reduceIte, Go.PW.dig_length, Nat.reduceLeDiff, Nat.reduceAdd, Nat.reduceMul, Int.reduceToNat, tf68RfI]))
    refine ⟨(Ext.push _ _).trans x4, trivial, ?_⟩
    congr 1
    refine decide_eq_decide.mpr ?_
    rw [Int.sign_nonpos_iff]
    omega
end Go.Proofs.YtfalfmfkifemeaaGreatDoor
set_option linter.unusedVariables false
set_option linter.unusedSimpArgs false
namespace Go.Proofs.YtfalfmfkifemeaaGreatDoor
open Go.AL Go.PW
theorem tf69RfJ : type_of% (And.intro @tyb2 (And.intro @tyb3 (And.intro @tyb4 (And.intro @tyb31 (And.intro @tyb44 (And.intro @tyb45 (And.intro @tyb46 (@cv31_2)))))))) := And.intro @tyb2 (And.intro @tyb3 (And.intro @tyb4 (And.intro @tyb31 (And.intro @tyb44 (And.intro @tyb45 (And.intro @tyb46 (@cv31_2)))))))
set_option maxRecDepth 8000
theorem Bs_.single {H : Hp} {s : AV} {x : Int} (h : Bs_ H s x) (hx : x ≠ 0) (hb : x.natAbs ≤ 9223372036854775808) : Ints H .u64 s [(x.natAbs : Int)] := by
  obtain ⟨xs, u, c, hv⟩ := h.ex
  have hz := Bs_.nil (H := H) (s := s) c hv
  have hl : xs.length < 2 := by
    rcases Nat.lt_or_ge xs.length 2 with h | h
    · exact h
    · have h1 := c.low (by omega)
      have h2 : Bs ^ 1 ≤ Bs ^ (xs.length - 1) := pow_mono (by omega)
      have h3 : Bs ^ 1 = 18446744073709551616 := by decide
      omega
  have hn : xs.length ≠ 0 := fun e => hx (hz.1 e)
  match xs, hl, hn, hv, u with
  | [m], _, _, hv, u =>
    simp only [val] at hv
    have : m = (x.natAbs : Int) := by omega
    rw [← this]; exact u.rd
set_option maxHeartbeats 2000000 in
theorem Int64_calls (x : Int) (s : AV) (H : Hp) (hs : Bs_ H s x) (hv : -9223372036854775808 ≤ x ∧ x ≤ 9223372036854775807) : ACalls Tryz.prog 69 [BV x s] H fun r H' => r = .tup [.int .i64 x, .bool true] ∧ H = H' := by
  refine ACalls.drop (R := fun r => r = .tup [.int .i64 x, .bool true]) ?_
  have hs1 := hs.one
  have hc1 : s.cells = [s] := AV.cells_one hs1
  by_cases h0 : x = 0
  · obtain ⟨xs, u, c, vx⟩ := hs.ex
    have hz := (Bs_.nil (H := H) (s := s) c vx).2 h0
    have hl := u.rd.rd.len und44
    rw [hz] at hl
    refine ACalls_body Tryz.func69 rfl (by kernel_rfl) (by kernel_rfl) ?_
    repeat' first
      | (with_reducible first | refine AWp_seq_k (fun K hK => ?_) | refine AWp_ret ?_ | refine AWp_regionE ?_ | refine AWp_condI ?_)
      | (simp only [thenA, inBlockA, reduceIte, Nat.reduceEqDiff])
      | ((with_reducible refine hK _ _ ?_); clear hK)
      | (simp only [ACond, RA, EAtS_def, EAtX_def, wantedA, acall, astep, ev, ofValue, ofAtom, Nat.reduceEqDiff, Nat.reduceAdd, Nat.reduceMul, Nat.reduceSub, reduceCtorEq, reduceIte, aoptEv, abin, aint, ashift, aun, astr, aeqGuard, isConstOp, aconvH, aofStr, aconvSame, isU8, abuildSlice, afill, splice, azeros, Nat.reduceLeDiff, Nat.reduceLT, Int.reduceLE, Int.reduceLT, Int.reduceEq, Int.reduceToNat, Int.reducePow, IntKind.bits, Int.reduceNeg, RB, aalloc, Go.PW.dig_length, tf69RfJ, hl])
      | (simp (disch := first | omega | (simp only [RO]; done) | assumption) only [RS, six44, gix44, bst46_e, bst46_01])
      | (simp (disch := (first | omega | (simp only [RO]; done) | assumption | (simp only [RM, Go.PW.dig_length]; done) | (simp only [RL, Go.PW.dig_length]; omega))) only [RD, reduceCtorEq, reduceIte, Go.PW.dig_length, Nat.reduceLeDiff, Nat.reduceAdd, Nat.reduceMul, Int.reduceToNat, tf69RfJ, hl])
    all_goals
      (
       (refine AEnd_gen (rs := [.tmp 2, .tmp 3]) rfl ?_)
       (simp only [AEndR, aresults, Fr.put_some, Fr.put_none, fr0_zero, fr0_succ, fr0_nil, Nat.reduceEqDiff, reduceIte])
       (try simp (disch := (first | omega | (simp only [RO]; done) | assumption | (simp only [RM, Go.PW.dig_length]; done) | (simp only [RL, Go.PW.dig_length]; omega))) only [RD, reduceCtorEq, reduceIte, Go.PW.dig_length, Nat.reduceLeDiff, Nat.reduceAdd, Nat.reduceMul, Int.reduceToNat, tf69RfJ]))
    all_goals exact ⟨Ext.push _ _, by simp [AV.lt, AV.lts], by rw [h0]⟩
  · have hI := hs.single h0 (by omega)
    have hl := hI.rd.len und44
    have f1 : (9223372036854775808 < (x.natAbs : Int)) = False := eq_false (by omega)
    have a0 : aindexAddr Tryz.prog 44 s (.int .i64 0) = some (.ptr s.hd s.of) := by
      have := hI.rd.at_ und44 size31 (k := .i64) (j := 0) (by omega) (by simp)
      simpa using this
    have l0 : ∀ b : Blk, aload Tryz.prog (H ++ [b]) 31 (.ptr s.hd s.of) = some (.int .u64 (x.natAbs : Int)) := fun b => by
      have := (hI.push b).load agg31 (i := 0) (by simp)
      simpa using this
    refine ACalls_body Tryz.func69 rfl (by kernel_rfl) (by kernel_rfl) ?_
    by_cases hn : x < 0
    · have e1 : (x < 0) = True := eq_true hn
      have w1 : IntKind.u64.wrap ((x.natAbs : Int) - 1) = -x - 1 := by rw [u64_in (by omega) (by simp only [Bs]; omega)]; omega
      have w2 : IntKind.i64.wrap (-x - 1) = -x - 1 := wrap_i64_id (by omega) (by omega)
      have w3 : IntKind.i64.wrap (0 - (-x - 1)) = x + 1 := by rw [wrap_i64_id (by omega) (by omega)]; omega
      have w4 : IntKind.i64.wrap (x + 1 - 1) = x := by rw [wrap_i64_id (by omega) (by omega)]; omega
      repeat' first
        | (with_reducible first | refine AWp_seq_k (fun K hK => ?_) | refine AWp_skip ?_ | refine AWp_ret ?_ | refine AWp_regionE ?_ | refine AWp_condI ?_)
        | (with_reducible refine EGuard_split (fun hc => ?_) (fun hc => ?_) <;> (try simp only [RC] at hc) <;> (try (exfalso; first | omega | contradiction)))
        | (simp only [thenA, inBlockA, reduceIte, Nat.reduceEqDiff])
        | ((with_reducible refine hK _ _ ?_); clear hK)
        | (simp only [ACond, RA, EAtS_def, EAtX_def, wantedA, acall, astep, ev, ofValue, ofAtom, Nat.reduceEqDiff, Nat.reduceAdd, Nat.reduceMul, Nat.reduceSub, reduceCtorEq, reduceIte, aoptEv, abin, aint, ashift, aun, astr, aeqGuard, isConstOp, aconvH, aofStr, aconvSame, isU8, abuildSlice, afill, splice, azeros, Nat.reduceLeDiff, Nat.reduceLT, Int.reduceLE, Int.reduceLT, Int.reduceEq, Int.reduceToNat, Int.reducePow, IntKind.bits, Int.reduceNeg, RB, aalloc, Go.PW.dig_length, tf69RfJ, hl, e1, f1, w1, w2, w3, w4, a0, l0])
        | (simp (disch := first | omega | (simp only [RO]; done) | assumption) only [RS, six44, gix44, bst46_e, bst46_01])
        | (simp (disch := (first | omega | (simp only [RO]; done) | assumption | (simp only [RM, Go.PW.dig_length]; done) | (simp only [RL, Go.PW.dig_length]; omega))) only [RD, reduceCtorEq, reduceIte, Go.PW.dig_length, Nat.reduceLeDiff, Nat.reduceAdd, Nat.reduceMul, Int.reduceToNat, tf69RfJ, hl, e1, f1, w1, w2, w3, w4, a0, l0])
      all_goals
        (
         (refine AEnd_gen (rs := [.tmp 2, .tmp 3]) rfl ?_)
         (simp only [AEndR, aresults, Fr.put_some, Fr.put_none, fr0_zero, fr0_succ, fr0_nil, Nat.reduceEqDiff, reduceIte])
         (try simp (disch := (first | omega | (simp only [RO]; done) | assumption | (simp only [RM, Go.PW.dig_length]; done) | (simp only [RL, Go.PW.dig_length]; omega))) only [RD, reduceCtorEq, reduceIte, Go.PW.dig_length, Nat.reduceLeDiff, Nat.reduceAdd, Nat.reduceMul, Int.reduceToNat, tf69RfJ]))
      all_goals exact ⟨Ext.push _ _, by simp [AV.lt, AV.lts]⟩
    · have e1 : (x < 0) = False := eq_false hn
      have f2 : ((x.natAbs : Int) = 9223372036854775808) = False := eq_false (by omega)
      have w2 : IntKind.i64.wrap (x.natAbs : Int) = x := by rw [wrap_i64_id (by omega) (by omega)]; omega
      repeat' first
        | (with_reducible first | refine AWp_seq_k (fun K hK => ?_) | refine AWp_skip ?_ | refine AWp_ret ?_ | refine AWp_regionE ?_ | refine AWp_condI ?_)
        | (with_reducible refine EGuard_split (fun hc => ?_) (fun hc => ?_) <;> (try simp only [RC] at hc) <;> (try (exfalso; first | omega | contradiction)))
        | (simp only [thenA, inBlockA, reduceIte, Nat.reduceEqDiff])
        | ((with_reducible refine hK _ _ ?_); clear hK)
        | (simp only [ACond, RA, EAtS_def, EAtX_def, wantedA, acall, astep, ev, ofValue, ofAtom, Nat.reduceEqDiff, Nat.reduceAdd, Nat.reduceMul, Nat.reduceSub, reduceCtorEq, reduceIte, aoptEv, abin, aint, ashift, aun, astr, aeqGuard, isConstOp, aconvH, aofStr, aconvSame, isU8, abuildSlice, afill, splice, azeros, Nat.reduceLeDiff, Nat.reduceLT, Int.reduceLE, Int.reduceLT, Int.reduceEq, Int.reduceToNat, Int.reducePow, IntKind.bits, Int.reduceNeg, RB, aalloc, Go.PW.dig_length, tf69RfJ, hl, e1, f1, f2, w2, a0, l0])
        | (simp (disch := first | omega | (simp only [RO]; done) | assumption) only [RS, six44, gix44, bst46_e, bst46_01])
        | (simp (disch := (first | omega | (simp only [RO]; done) | assumption | (simp only [RM, Go.PW.dig_length]; done) | (simp only [RL, Go.PW.dig_length]; omega))) only [RD, reduceCtorEq, reduceIte, Go.PW.dig_length, Nat.reduceLeDiff, Nat.reduceAdd, Nat.reduceMul, Int.reduceToNat, tf69RfJ, hl, e1, f1, f2, w2, a0, l0])
      all_goals
        (
         (refine AEnd_gen (rs := [.tmp 2, .tmp 3]) rfl ?_)
         (simp only [AEndR, aresults, Fr.put_some, Fr.put_none, fr0_zero, fr0_succ, fr0_nil, Nat.reduceEqDiff, reduceIte])
         (try simp (disch := (first | omega | (simp only [RO]; done) | assumption | (simp only [RM, Go.PW.dig_length]; done) | (simp only [RL, Go.PW.dig_length]; omega))) only [RD, reduceCtorEq, reduceIte, Go.PW.dig_length, Nat.reduceLeDiff, Nat.reduceAdd, Nat.reduceMul, Int.reduceToNat, tf69RfJ]))
      all_goals exact ⟨Ext.push _ _, by simp [AV.lt, AV.lts]⟩
end Go.Proofs.YtfalfmfkifemeaaGreatDoor
set_option linter.unusedVariables false
set_option linter.unusedSimpArgs false
namespace Go.Proofs.YtfalfmfkifemeaaGreatDoor
open Go.AL Go.PW
theorem tf80RfK : type_of% (And.intro @tyb3 (And.intro @tyb31 (@tyb44))) := And.intro @tyb3 (And.intro @tyb31 (@tyb44))
set_option maxRecDepth 8000
/-- How many bits. -/
def bits_ (xs : List Int) : Nat := if xs.length = 0 then 0 else 64 * (xs.length - 1) + bl (xs.getD (xs.length - 1) 0).toNat
set_option maxHeartbeats 2000000 in
theorem size_calls (s : AV) (xs : List Int) (H : Hp) (hs : Ints H .u64 s xs) (c : Can xs) : ACalls Tryz.prog 80 [s] H fun r H' => r = .int .i64 (bits_ xs : Nat) ∧ H = H' := by
  have hl := hs.rd.len und44
  have lx := c.len
  unfold bits_
  refine ACalls_body Tryz.func80 rfl (by kernel_rfl) (by kernel_rfl) ?_
  by_cases h0 : xs.length = 0
  · have e1 : ((xs.length : Int) = 0) = True := eq_true (by omega)
    rw [if_pos h0]
    repeat' first
      | (with_reducible first | refine AWp_seq_k (fun K hK => ?_) | refine AWp_ret ?_ | refine AWp_regionE ?_ | refine AWp_condI ?_)
      | (simp only [thenA, inBlockA, reduceIte, Nat.reduceEqDiff])
      | ((with_reducible refine hK _ _ ?_); clear hK)
      | (simp only [ACond, RA, EAtS_def, EAtX_def, wantedA, acall, astep, ev, ofValue, ofAtom, Nat.reduceEqDiff, Nat.reduceAdd, Nat.reduceMul, Nat.reduceSub, reduceCtorEq, reduceIte, aoptEv, abin, aint, ashift, aun, astr, aeqGuard, isConstOp, aconvH, aofStr, aconvSame, isU8, abuildSlice, afill, splice, azeros, Nat.reduceLeDiff, Nat.reduceLT, Int.reduceLE, Int.reduceLT, Int.reduceEq, Int.reduceToNat, Int.reducePow, IntKind.bits, Int.reduceNeg, RB, aalloc, Go.PW.dig_length, tf80RfK, hl, e1])
    all_goals
      (
       (refine AEnd_gen (rs := [.tmp 2]) rfl ?_)
       (simp only [AEndR, aresults, Fr.put_some, Fr.put_none, fr0_zero, fr0_succ, fr0_nil, Nat.reduceEqDiff, reduceIte])
       (try simp (disch := (first | omega | (simp only [RO]; done) | assumption | (simp only [RM, Go.PW.dig_length]; done) | (simp only [RL, Go.PW.dig_length]; omega))) only [RD, reduceCtorEq, reduceIte, Go.PW.dig_length, Nat.reduceLeDiff, Nat.reduceAdd, Nat.reduceMul, Int.reduceToNat, tf80RfK]))
  · have e1 : ((xs.length : Int) = 0) = False := eq_false (by omega)
    rw [if_neg h0]
    have hb := c.lim.get (xs.length - 1)
    have hbl : bl (xs.getD (xs.length - 1) 0).toNat ≤ 64 := bl_le (by simp only [Bs] at hb; omega)
    have w1 : IntKind.i64.wrap ((xs.length : Int) - 1) = ((xs.length - 1 : Nat) : Int) := by rw [wrap_i64_id (by omega) (by omega)]; omega
    have w2 : IntKind.i64.wrap (64 * ((xs.length - 1 : Nat) : Int)) = ((64 * (xs.length - 1) : Nat) : Int) := by rw [wrap_i64_id (by omega) (by omega)]; omega
    have w3 : IntKind.i64.wrap (((64 * (xs.length - 1) : Nat) : Int) + ((bl (xs.getD (xs.length - 1) 0).toNat : Nat) : Int)) = ((64 * (xs.length - 1) + bl (xs.getD (xs.length - 1) 0).toNat : Nat) : Int) := by rw [wrap_i64_id (by omega) (by omega)]; omega
    have hlen := fun H0 => len64_calls (xs.getD (xs.length - 1) 0) H0 hb
    repeat' first
      | (with_reducible first | refine AWp_seq_k (fun K hK => ?_) | refine AWp_skip ?_ | refine AWp_ret ?_ | refine AWp_regionE ?_ | refine AWp_condI ?_)
      | ((with_reducible refine ECall_intro (hlen _) ?_); rintro _ _ ⟨rfl, rfl⟩)
      | (simp only [thenA, inBlockA, reduceIte, Nat.reduceEqDiff])
      | ((with_reducible refine hK _ _ ?_); clear hK)
      | (simp only [ACond, RA, EAtS_def, EAtX_def, wantedA, acall, astep, ev, ofValue, ofAtom, Nat.reduceEqDiff, Nat.reduceAdd, Nat.reduceMul, Nat.reduceSub, reduceCtorEq, reduceIte, aoptEv, abin, aint, ashift, aun, astr, aeqGuard, isConstOp, aconvH, aofStr, aconvSame, isU8, abuildSlice, afill, splice, azeros, Nat.reduceLeDiff, Nat.reduceLT, Int.reduceLE, Int.reduceLT, Int.reduceEq, Int.reduceToNat, Int.reducePow, IntKind.bits, Int.reduceNeg, RB, aalloc, Go.PW.dig_length, tf80RfK, hl, e1, w1, w2, w3])
      | (simp (disch := first | omega | (simp only [RO]; done) | assumption) only [RS, hs.rd.at1 und44 size31, hs.load1 agg31, six44, gix44])
    all_goals
      (
       (refine AEnd_gen (rs := [.tmp 2]) rfl ?_)
       (simp only [AEndR, aresults, Fr.put_some, Fr.put_none, fr0_zero, fr0_succ, fr0_nil, Nat.reduceEqDiff, reduceIte])
       (try simp (disch := (first | omega | (simp only [RO]; done) | assumption | (simp only [RM, Go.PW.dig_length]; done) | (simp only [RL, Go.PW.dig_length]; omega))) only [RD, reduceCtorEq, reduceIte, Go.PW.dig_length, Nat.reduceLeDiff, Nat.reduceAdd, Nat.reduceMul, Int.reduceToNat, tf80RfK]))
end Go.Proofs.YtfalfmfkifemeaaGreatDoor
set_option linter.unusedVariables false
set_option linter.unusedSimpArgs false
namespace Go.Proofs.YtfalfmfkifemeaaGreatDoor
open Go.AL Go.PW
theorem tf27RfL : type_of% (And.intro @tyb2 (And.intro @tyb3 (And.intro @tyb22 (And.intro @tyb23 (@tyb24))))) := And.intro @tyb2 (And.intro @tyb3 (And.intro @tyb22 (And.intro @tyb23 (@tyb24))))
set_option maxRecDepth 8000
theorem make_i64 (H : Hp) (n : Nat) (l : IntKind) (hn : n < 1000000) : amakeSlice Tryz.prog H 22 (.int l (n : Int)) (.int l (n : Int)) = some (.sl H.length 0 n n, H ++ [⟨(List.replicate n (0 : Int)).map (AV.int .i64), .own, 2⟩]) := by
  have e : azeros [AV.int .i64 0] n = (List.replicate n (0 : Int)).map (AV.int .i64) := by
    unfold azeros
    induction n with
    | zero => rfl
    | succ n ih => rw [List.replicate_succ, List.flatten_cons, ih (by omega)]; rfl
  have hc : (AV.int .i64 0).cells = [AV.int .i64 0] := rfl
  simp only [amakeSlice, und22, size2, zero2, bytes2, hc]
  rw [if_pos ⟨rfl, rfl, by decide, by omega, by omega, by omega, by omega⟩, Int.toNat_natCast, e]
theorem half (n : Fin 9) : IntKind.i64.wrap (Int.tdiv (IntKind.i64.wrap ((n.1 : Int) * IntKind.i64.wrap ((n.1 : Int) + 1))) 2) = ((n.1 * (n.1 + 1) / 2 : Nat) : Int) := by
  revert n; decide +kernel
set_option maxHeartbeats 2000000 in
theorem SymNew_calls (n : Nat) (H : Hp) (h8 : n ≤ 8) : ACalls Tryz.prog 27 [.int .i64 (n : Int)] H fun r H' => ∃ h, r = SymA n (.sl h 0 (n * (n + 1) / 2) (n * (n + 1) / 2)) ∧ hget H' h = some ⟨(List.replicate (n * (n + 1) / 2) (0 : Int)).map (AV.int .i64), .own, 2⟩ ∧ H.length ≤ h ∧ Ext H H' := by
  have hm1 : abuiltin Tryz.prog .max #[3, 3] [.int .i64 (n : Int), .int .i64 0] = some (.int .i64 (n : Int)) := by
    show some (AV.int .i64 (if ((n : Int) < 0) then 0 else (n : Int))) = _
    rw [if_neg (by omega)]
  have hm2 : abuiltin Tryz.prog .min #[3, 3] [.int .i64 (n : Int), .int .i64 8] = some (.int .i64 (n : Int)) := by
    show some (AV.int .i64 (if ((8 : Int) < (n : Int)) then 8 else (n : Int))) = _
    rw [if_neg (by omega)]
  have hh := half ⟨n, by omega⟩
  have hn2 : n * (n + 1) / 2 < 1000000 := by
    have : n * (n + 1) ≤ 8 * 9 := Nat.mul_le_mul h8 (by omega)
    omega
  have hmk := fun H0 => make_i64 H0 (n * (n + 1) / 2) .i64 hn2
  refine ACalls_body Tryz.func27 rfl (by kernel_rfl) (by kernel_rfl) ?_
  repeat' first
    | (with_reducible first | refine AWp_seq_k (fun K hK => ?_) | refine AWp_ret ?_ | refine AWp_regionE ?_)
    | (simp only [thenA, inBlockA, reduceIte, Nat.reduceEqDiff])
    | ((with_reducible refine hK _ _ ?_); clear hK)
    | (simp only [ACond, RA, EAtS_def, EAtX_def, wantedA, acall, astep, ev, ofValue, ofAtom, Nat.reduceEqDiff, Nat.reduceAdd, Nat.reduceMul, Nat.reduceSub, reduceCtorEq, reduceIte, aoptEv, abin, aint, ashift, aun, astr, aeqGuard, isConstOp, aconvH, aofStr, aconvSame, isU8, abuildSlice, afill, splice, azeros, Nat.reduceLeDiff, Nat.reduceLT, Int.reduceLE, Int.reduceLT, Int.reduceEq, Int.reduceToNat, Int.reducePow, IntKind.bits, Int.reduceNeg, RB, aalloc, Go.PW.dig_length, tf27RfL, hm1, hm2, hh, hmk])
    | (simp (disch := first | omega | (simp only [RO]; done) | assumption) only [RS, six22, gix22, bst24_e, bst24_0, bst24_01])
    | (simp (disch := (first | omega | (simp only [RO]; done) | assumption | (simp only [RM, Go.PW.dig_length]; done) | (simp only [RL, Go.PW.dig_length]; omega))) only [RD, reduceCtorEq, reduceIte, Go.PW.dig_length, Nat.reduceLeDiff, Nat.reduceAdd, Nat.reduceMul, Int.reduceToNat, tf27RfL, hm1, hm2, hh, hmk])
  all_goals
    (
     (refine AEnd_gen (rs := [.cell 2 24]) rfl ?_)
     (simp only [AEndR, aresults, Fr.put_some, Fr.put_none, fr0_zero, fr0_succ, fr0_nil, Nat.reduceEqDiff, reduceIte])
     (try simp (disch := (first | omega | (simp only [RO]; done) | assumption | (simp only [RM, Go.PW.dig_length]; done) | (simp only [RL, Go.PW.dig_length]; omega))) only [RD, reduceCtorEq, reduceIte, Go.PW.dig_length, Nat.reduceLeDiff, Nat.reduceAdd, Nat.reduceMul, Int.reduceToNat, tf27RfL]))
  all_goals exact ⟨H.length + 1, rfl, by first | exact hget_at (by simp) | rw [if_pos (by simp)] | simp, by omega, (Ext.push _ _).pushed _⟩
end Go.Proofs.YtfalfmfkifemeaaGreatDoor
set_option linter.unusedVariables false
set_option linter.unusedSimpArgs false
namespace Go.Proofs.YtfalfmfkifemeaaGreatDoor
open Go.AL Go.PW
theorem tf12RfM : type_of% (And.intro @tyb2 (And.intro @tyb3 (And.intro @tyb22 (And.intro @tyb23 (@tyb24))))) := And.intro @tyb2 (And.intro @tyb3 (And.intro @tyb22 (And.intro @tyb23 (@tyb24))))
abbrev pn12_1RfM : Plan := (.one 0 (.one 2 (.one 3 (.alt 1 (.one 4 (.one 5 (.one 6 .nil))) (.one 4 (.one 1 (.one 5 (.one 6 .nil))))))))
set_option maxRecDepth 8000
abbrev Ib (xs : List Int) : Blk := ⟨xs.map (AV.int .i64), .own, 2⟩
set_option maxHeartbeats 2000000 in
theorem Copy_calls (n : Int) (xs : List Int) (a : AV) (H : Hp) (ha : Ints H .i64 a xs) (hx : 0 < xs.length) (hl : xs.length < 1000000) : ACalls Tryz.prog 12 [SymA n a] H fun r H' => ∃ h, r = SymA n (.sg h 0 xs.length 1) ∧ hget H' h = some (Ib xs) ∧ H.length ≤ h ∧ Ext H H' := by
  have ha1 : a.one = true := ha.rd.one
  have hc : a.cells = [a] := AV.cells_one ha1
  have g := fun (H0 : Hp) (x0 : Ext H H0) => append_nil (P := Tryz.prog) (ha.ext x0).rd und22 size2 zero2 rfl (by decide) bytes2 (ints_one _ _) hx (by omega) (by omega)
  have g1 := fun b1 b2 => g _ ((Ext.push H b1).pushed b2)
  refine ACalls_body Tryz.func12 rfl (by kernel_rfl) (by kernel_rfl) ?_
  repeat' first
    | (with_reducible first | refine AWp_seq_k (fun K hK => ?_) | refine AWp_ret ?_ | refine AWp_regionE ?_ | refine AWp_drawE (id := 1) [] pn12_1RfM (by kernel_rfl) (by kernel_rfl) ?_)
    | (with_reducible refine And.intro ?_ ?_)
    | (simp only [thenA, inBlockA, reduceIte, Nat.reduceEqDiff])
    | ((with_reducible refine hK _ _ ?_); clear hK)
    | (simp only [ACond, RA, EAtS_def, EAtX_def, wantedA, acall, astep, ev, ofValue, ofAtom, Nat.reduceEqDiff, Nat.reduceAdd, Nat.reduceMul, Nat.reduceSub, reduceCtorEq, reduceIte, aoptEv, abin, aint, ashift, aun, astr, aeqGuard, isConstOp, aconvH, aofStr, aconvSame, isU8, abuildSlice, afill, splice, azeros, Nat.reduceLeDiff, Nat.reduceLT, Int.reduceLE, Int.reduceLT, Int.reduceEq, Int.reduceToNat, Int.reducePow, IntKind.bits, Int.reduceNeg, RB, aalloc, Go.PW.dig_length, tf12RfM, g1])
    | (simp (disch := first | omega | (simp only [RO]; done) | assumption) only [RS, six22, gix22, bst24_e, bst24_0, bst24_01])
    | (simp (disch := (first | omega | (simp only [RO]; done) | assumption | (simp only [RM, Go.PW.dig_length]; done) | (simp only [RL, Go.PW.dig_length]; omega))) only [RD, reduceCtorEq, reduceIte, Go.PW.dig_length, Nat.reduceLeDiff, Nat.reduceAdd, Nat.reduceMul, Int.reduceToNat, tf12RfM, g1])
  all_goals
    (
     (refine AEnd_gen (rs := [.cell 2 24]) rfl ?_)
     (simp only [AEndR, aresults, Fr.put_some, Fr.put_none, fr0_zero, fr0_succ, fr0_nil, Nat.reduceEqDiff, reduceIte])
     (try simp (disch := (first | omega | (simp only [RO]; done) | assumption | (simp only [RM, Go.PW.dig_length]; done) | (simp only [RL, Go.PW.dig_length]; omega))) only [RD, reduceCtorEq, reduceIte, Go.PW.dig_length, Nat.reduceLeDiff, Nat.reduceAdd, Nat.reduceMul, Int.reduceToNat, tf12RfM]))
  all_goals exact ⟨H.length + 1 + 1, rfl, by first | exact hget_at (by simp) | rw [if_pos (by simp)] | simp, by omega, ((Ext.push _ _).pushed _).pushed _⟩
end Go.Proofs.YtfalfmfkifemeaaGreatDoor
set_option linter.unusedVariables false
set_option linter.unusedSimpArgs false
namespace Go.Proofs.YtfalfmfkifemeaaGreatDoor
open Go.AL Go.PW Go.PD
set_option maxRecDepth 8000
/-- A matrix of noughts. -/
structure Noughts (H0 H : Hp) (a : AV) (n : Nat) : Prop where
  ex : ∃ h, a = .sl h 0 (n * (n + 1) / 2) (n * (n + 1) / 2) ∧ hget H h = some ⟨(List.replicate (n * (n + 1) / 2) (0 : Int)).map (AV.int .i64), .own, 2⟩ ∧ H0.length ≤ h
theorem Noughts.ints {H0 H : Hp} {a : AV} {n : Nat} (h : Noughts H0 H a n) : Ints H .i64 a (List.replicate (n * (n + 1) / 2) 0) := by
  obtain ⟨k, rfl, hg, _⟩ := h.ex
  have := Ints.blk (n := n * (n + 1) / 2) (c := n * (n + 1) / 2) (o := 0) hg (by decide) (by simp) (Nat.le_refl _)
  rwa [List.drop_zero, List.take_of_length_le (by simp)] at this
theorem right_noughts {n : Nat} (h8 : n ≤ 8) : Right n (List.replicate (n * (n + 1) / 2) 0) := by
  refine ⟨⟨by omega, by omega, by rw [List.length_replicate]; push_cast; rfl⟩, fun x hx => ?_⟩
  rw [(List.mem_replicate.1 hx).2]
  unfold Fit; omega
theorem ent_noughts (n i j : Nat) (l : Nat) : ent n (List.replicate l 0) i j = 0 := by
  unfold ent
  rw [List.getD_eq_getElem?_getD, List.getElem?_replicate]
  split <;> rfl
end Go.Proofs.YtfalfmfkifemeaaGreatDoor
set_option linter.unusedVariables false
set_option linter.unusedSimpArgs false
namespace Go.Proofs.YtfalfmfkifemeaaGreatDoor
open Go.AL Go.PW Go.PD
theorem tf12RfN : type_of% (And.intro @tyb2 (And.intro @tyb3 (And.intro @tyb22 (And.intro @tyb23 (@tyb24))))) := And.intro @tyb2 (And.intro @tyb3 (And.intro @tyb22 (And.intro @tyb23 (@tyb24))))
abbrev pn12_1RfN : Plan := (.one 0 (.one 2 (.one 3 (.alt 1 (.one 4 (.one 5 (.one 6 .nil))) (.one 4 (.one 1 (.one 5 (.one 6 .nil))))))))
set_option maxRecDepth 8000
theorem ints_sg {H : Hp} {h : Nat} {xs : List Int} (hg : hget H h = some (Ib xs)) : Ints H .i64 (.sg h 0 xs.length 1) xs := by
  have hl := map_len .i64 xs
  refine ⟨?_, rfl⟩
  simp only [arow, hg]
  rw [if_neg (by decide), if_pos (by omega), List.drop_zero, List.take_of_length_le (by omega)]
/-- Entries in memory of one's own, not below lo. -/
def Mo (H : Hp) (a : AV) (xs : List Int) (lo : Nat) : Prop := (xs = [] ∧ a = .nilS) ∨ ∃ h, (a = .sl h 0 xs.length xs.length ∨ a = .sg h 0 xs.length 1) ∧ hget H h = some (Ib xs) ∧ lo ≤ h
section
variable {H : Hp} {a : AV} {xs : List Int} {lo : Nat}
theorem Mo.ext {H' : Hp} (m : Mo H a xs lo) (x : Ext H H') : Mo H' a xs lo := by
  rcases m with h | ⟨h, h1, h2, h3⟩
  · exact .inl h
  · exact .inr ⟨h, h1, hget_ext h2 x, h3⟩
theorem Mo.push (m : Mo H a xs lo) (b : Blk) : Mo (H ++ [b]) a xs lo := m.ext (Ext.push _ _)
theorem Mo.ints (m : Mo H a xs lo) : Ints H .i64 a xs := by
  rcases m with ⟨rfl, rfl⟩ | ⟨h, h1, h2, _⟩
  · exact Ints.nil _ _
  · rcases h1 with rfl | rfl
    · have := Ints.blk (n := xs.length) (c := xs.length) (o := 0) h2 (by decide) (by simp) (Nat.le_refl _)
      rwa [List.drop_zero, List.take_length] at this
    · exact ints_sg h2
theorem Mo.one (m : Mo H a xs lo) : a.one = true := m.ints.rd.one
theorem Mo.at_ (m : Mo H a xs lo) {k : IntKind} {i : Nat} (hi : i < xs.length) : aindexAddr Tryz.prog 22 a (.int k (i : Int)) = some (.ptr a.hd i) := by
  rcases m with ⟨rfl, rfl⟩ | ⟨h, h1, h2, _⟩
  · simp at hi
  · have h0 : (0 : Int) ≤ (i : Int) := by omega
    have h1' : (i : Int) < (xs.length : Int) := by omega
    rcases h1 with rfl | rfl
    · rw [six22 h0 h1', Int.toNat_natCast, Nat.zero_add]; rfl
    · rw [gix22 h0 h1', Int.toNat_natCast, Nat.zero_add]; rfl
theorem Mo.hd (m : Mo H a xs lo) {i : Nat} (hi : i < xs.length) : hget H a.hd = some (Ib xs) ∧ lo ≤ a.hd := by
  rcases m with ⟨rfl, rfl⟩ | ⟨h, h1, h2, h3⟩
  · simp at hi
  · rcases h1 with rfl | rfl <;> exact ⟨h2, h3⟩
theorem Mo.put (m : Mo H a xs lo) {i : Nat} (hi : i < xs.length) (v : Int) : astore Tryz.prog H 2 (.ptr a.hd i) (.int .i64 v) = some (H.set a.hd (Ib (xs.set i v))) := by
  obtain ⟨hg, _⟩ := m.hd hi
  rw [astore_ptr, hg]
  simp only [size2]
  rw [if_pos ⟨trivial, rfl, rfl, by rw [map_len]; exact hi⟩, AV.cells_int]
  congr 3
  exact splice_set _ _ _ hi
theorem Mo.set (m : Mo H a xs lo) {i : Nat} (hi : i < xs.length) {ys : List Int} (hl : ys.length = xs.length) : Mo (H.set a.hd (Ib ys)) a ys lo := by
  rcases m with ⟨rfl, rfl⟩ | ⟨h, h1, h2, h3⟩
  · simp at hi
  · refine .inr ⟨h, by rw [hl]; exact h1, ?_, h3⟩
    have e : a.hd = h := by rcases h1 with rfl | rfl <;> rfl
    rw [e, hget_set (hget_lt h2), if_pos rfl]
end
theorem MoCopy_calls (n : Int) (xs : List Int) (a : AV) (H : Hp) (ha : Ints H .i64 a xs) (hl : xs.length < 1000000) : ACalls Tryz.prog 12 [SymA n a] H fun r H' => ∃ b, r = SymA n b ∧ Mo H' b xs H.length ∧ Ext H H' := by
  rcases Nat.eq_zero_or_pos xs.length with h0 | h0
  · obtain rfl : xs = [] := List.eq_nil_of_length_eq_zero h0
    have ha1 : a.one = true := ha.rd.one
    have hc : a.cells = [a] := AV.cells_one ha1
    have g := fun (H0 : Hp) (x0 : Ext H H0) => append_none (P := Tryz.prog) (s := .nilS) (ha.ext x0).rd und22 size2 zero2 rfl (by decide) bytes2 rfl (.inl rfl)
    have g1 := fun b1 b2 => g _ ((Ext.push H b1).pushed b2)
    refine ACalls_body Tryz.func12 rfl (by kernel_rfl) (by kernel_rfl) ?_
    repeat' first
      | (with_reducible first | refine AWp_seq_k (fun K hK => ?_) | refine AWp_ret ?_ | refine AWp_regionE ?_ | refine AWp_drawE (id := 1) [] pn12_1RfN (by kernel_rfl) (by kernel_rfl) ?_)
      | (with_reducible refine And.intro ?_ ?_)
      | (simp only [thenA, inBlockA, reduceIte, Nat.reduceEqDiff])
      | ((with_reducible refine hK _ _ ?_); clear hK)
      | (simp only [ACond, RA, EAtS_def, EAtX_def, wantedA, acall, astep, ev, ofValue, ofAtom, Nat.reduceEqDiff, Nat.reduceAdd, Nat.reduceMul, Nat.reduceSub, reduceCtorEq, reduceIte, aoptEv, abin, aint, ashift, aun, astr, aeqGuard, isConstOp, aconvH, aofStr, aconvSame, isU8, abuildSlice, afill, splice, azeros, Nat.reduceLeDiff, Nat.reduceLT, Int.reduceLE, Int.reduceLT, Int.reduceEq, Int.reduceToNat, Int.reducePow, IntKind.bits, Int.reduceNeg, RB, aalloc, Go.PW.dig_length, tf12RfN, g1])
      | (simp (disch := first | omega | (simp only [RO]; done) | assumption) only [RS, six22, gix22, bst24_e, bst24_0, bst24_01])
      | (simp (disch := (first | omega | (simp only [RO]; done) | assumption | (simp only [RM, Go.PW.dig_length]; done) | (simp only [RL, Go.PW.dig_length]; omega))) only [RD, reduceCtorEq, reduceIte, Go.PW.dig_length, Nat.reduceLeDiff, Nat.reduceAdd, Nat.reduceMul, Int.reduceToNat, tf12RfN, g1])
    all_goals
      (
       (refine AEnd_gen (rs := [.cell 2 24]) rfl ?_)
       (simp only [AEndR, aresults, Fr.put_some, Fr.put_none, fr0_zero, fr0_succ, fr0_nil, Nat.reduceEqDiff, reduceIte])
       (try simp (disch := (first | omega | (simp only [RO]; done) | assumption | (simp only [RM, Go.PW.dig_length]; done) | (simp only [RL, Go.PW.dig_length]; omega))) only [RD, reduceCtorEq, reduceIte, Go.PW.dig_length, Nat.reduceLeDiff, Nat.reduceAdd, Nat.reduceMul, Int.reduceToNat, tf12RfN]))
    all_goals exact ⟨.nilS, rfl, .inl ⟨rfl, rfl⟩, (Ext.push _ _).pushed _⟩
  · exact (Copy_calls n xs a H ha h0 hl).mono fun r H' ⟨h, h1, h2, h3, h4⟩ => ⟨_, h1, .inr ⟨h, .inr rfl, h2, h3⟩, h4⟩
theorem MoNew_calls (n : Nat) (H : Hp) (h8 : n ≤ 8) : ACalls Tryz.prog 27 [.int .i64 (n : Int)] H fun r H' => ∃ b, r = SymA n b ∧ Mo H' b (List.replicate (n * (n + 1) / 2) 0) H.length ∧ Ext H H' := by
  exact (SymNew_calls n H h8).mono fun r H' ⟨h, h1, h2, h3, h4⟩ => ⟨_, h1, .inr ⟨h, .inl (by rw [List.length_replicate]), h2, h3⟩, h4⟩
end Go.Proofs.YtfalfmfkifemeaaGreatDoor
set_option linter.unusedVariables false
set_option linter.unusedSimpArgs false
namespace Go.Proofs.YtfalfmfkifemeaaGreatDoor
open Go.AL Go.PW Go.PD
theorem tf24RfO : type_of% (And.intro @tyb2 (And.intro @tyb3 (And.intro @tyb4 (And.intro @tyb22 (And.intro @tyb23 (@tyb24)))))) := And.intro @tyb2 (And.intro @tyb3 (And.intro @tyb4 (And.intro @tyb22 (And.intro @tyb23 (@tyb24)))))
abbrev pn24_8RfO : Plan := (.one 0 (.one 1 (.one 2 (.one 3 (.one 4 (.one 5 (.one 7 (.pur 6 (.one 8 (.one 9 .nil))))))))))
set_option maxRecDepth 8000
theorem pl_eq : ∀ n i j k l : Fin 9, i < n → j < n → k < n → l < n → (pl n.1 i.1 j.1 = pl n.1 k.1 l.1 ↔ (i = k ∧ j = l) ∨ (i = l ∧ j = k)) := by decide +kernel
theorem ent_set {n : Nat} {xs : List Int} (h8 : n ≤ 8) {i j p q : Nat} (hi : i < n) (hj : j < n) (hp : p < n) (hq : q < n) (hl : pl n i j < xs.length) (v : Int) : ent n (xs.set (pl n i j) v) p q = if (p = i ∧ q = j) ∨ (p = j ∧ q = i) then v else ent n xs p q := by
  unfold ent
  rw [getD_set _ _ hl]
  have h := pl_eq ⟨n, by omega⟩ ⟨p, by omega⟩ ⟨q, by omega⟩ ⟨i, by omega⟩ ⟨j, by omega⟩ hp hq hi hj
  simp only [Fin.mk.injEq] at h
  simp only [h]
theorem Right.set {n : Nat} {xs : List Int} (hr : Right n xs) (i : Nat) {v : Int} (hv : Fit v) : Right n (xs.set i v) := by
  refine ⟨by rw [List.length_set]; exact hr.1, fun x hx => ?_⟩
  rcases List.mem_or_eq_of_mem_set hx with h | h
  · exact hr.2 x h
  · rw [h]; exact hv
section
variable {H : Hp} {a : AV} {xs : List Int} {lo : Nat}
theorem Mo.other (m : Mo H a xs lo) {h : Nat} (hh : h < lo) (hl : h < H.length) (b : Blk) : Mo (H.set h b) a xs lo := by
  rcases m with e | ⟨k, h1, h2, h3⟩
  · exact .inl e
  · exact .inr ⟨k, h1, by rw [hget_set hl, if_neg (by omega)]; exact h2, h3⟩
theorem Mo.low (m : Mo H a xs lo) {lo' : Nat} (h : lo' ≤ lo) : Mo H a xs lo' := by
  rcases m with e | ⟨k, h1, h2, h3⟩
  · exact .inl e
  · exact .inr ⟨k, h1, h2, by omega⟩
end
/-- The block of a matrix. -/
abbrev Sb (n : Int) (a : AV) : Blk := ⟨[.int .i64 n, a], .own, 24⟩
set_option maxHeartbeats 4000000 in
theorem Set_calls (n : Nat) (xs : List Int) (a : AV) (i j : Nat) (v : Int) (H : Hp) (ha : Ints H .i64 a xs) (hr : Right n xs) (hi : i < n) (hj : j < n) (hv : Fit v) : ACalls Tryz.prog 24 [SymA n a, .int .i64 (i : Int), .int .i64 (j : Int), .int .i64 v] H fun r H' => ∃ b, r = .tup [SymA n b, .int .i64 0] ∧ Mo H' b (xs.set (pl n i j) v) H.length ∧ Ext H H' := by
  have ha1 : a.one = true := ha.rd.one
  have hc : a.cells = [a] := AV.cells_one ha1
  obtain ⟨h8, hlx⟩ := hr.len
  have hd : decide (Right n xs) = true := decide_eq_true hr
  have hpl := (hr.pl hi hj).2
  have hF := hv
  unfold Fit at hF
  refine ACalls_body Tryz.func24 rfl (by kernel_rfl) (by kernel_rfl) ?_
  refine AWp_seq_k (fun K hQ => ?_)
  repeat' first
    | (with_reducible first | refine AWp_seq_k (fun K hK => ?_) | refine AWp_skip ?_ | refine AWp_regionE ?_ | refine AWp_condI ?_)
    | ((with_reducible refine ECall_intro (symRight_calls _ _ _ _ ((ha.push _).push _) hlx) ?_); rintro _ _ ⟨rfl, rfl⟩)
    | (with_reducible refine EGuard_split (fun hc => ?_) (fun hc => ?_) <;> (try simp only [RC] at hc) <;> (try (exfalso; first | omega | contradiction)))
    | (with_reducible refine AIte (fun hc => ?_) (fun hc => ?_) <;> (try simp only [RC] at hc) <;> (try (exfalso; first | omega | contradiction)))
    | (simp only [thenA, inBlockA, reduceIte, Nat.reduceEqDiff])
    | ((with_reducible refine hK _ _ ?_); clear hK)
    | (simp only [ACond, RA, EAtS_def, EAtX_def, wantedA, acall, astep, ev, ofValue, ofAtom, Nat.reduceEqDiff, Nat.reduceAdd, Nat.reduceMul, Nat.reduceSub, reduceCtorEq, reduceIte, aoptEv, abin, aint, ashift, aun, astr, aeqGuard, isConstOp, aconvH, aofStr, aconvSame, isU8, abuildSlice, afill, splice, azeros, Nat.reduceLeDiff, Nat.reduceLT, Int.reduceLE, Int.reduceLT, Int.reduceEq, Int.reduceToNat, Int.reducePow, IntKind.bits, Int.reduceNeg, RB, aalloc, Go.PW.dig_length, tf24RfO, hd])
    | (simp (disch := first | omega | (simp only [RO]; done) | assumption) only [RS, six22, gix22, bst24_e, bst24_0, bst24_01])
    | (simp (disch := (first | omega | (simp only [RO]; done) | assumption | (simp only [RM, Go.PW.dig_length]; done) | (simp only [RL, Go.PW.dig_length]; omega))) only [RD, reduceCtorEq, reduceIte, Go.PW.dig_length, Nat.reduceLeDiff, Nat.reduceAdd, Nat.reduceMul, Int.reduceToNat, tf24RfO, hd])
  refine hQ _ _ ?_
  clear hQ
  refine AWp_seq_k (fun K hQ => ?_)
  repeat' first
    | (with_reducible first | refine AWp_seq_k (fun K hK => ?_) | refine AWp_skip ?_ | refine AWp_regionE ?_ | refine AWp_condI ?_)
    | ((with_reducible refine ECall_intro (symRight_calls _ _ _ _ ((ha.push _).push _) hlx) ?_); rintro _ _ ⟨rfl, rfl⟩)
    | (with_reducible refine EGuard_split (fun hc => ?_) (fun hc => ?_) <;> (try simp only [RC] at hc) <;> (try (exfalso; first | omega | contradiction)))
    | (with_reducible refine AIte (fun hc => ?_) (fun hc => ?_) <;> (try simp only [RC] at hc) <;> (try (exfalso; first | omega | contradiction)))
    | (simp only [thenA, inBlockA, reduceIte, Nat.reduceEqDiff])
    | ((with_reducible refine hK _ _ ?_); clear hK)
    | (simp only [ACond, RA, EAtS_def, EAtX_def, wantedA, acall, astep, ev, ofValue, ofAtom, Nat.reduceEqDiff, Nat.reduceAdd, Nat.reduceMul, Nat.reduceSub, reduceCtorEq, reduceIte, aoptEv, abin, aint, ashift, aun, astr, aeqGuard, isConstOp, aconvH, aofStr, aconvSame, isU8, abuildSlice, afill, splice, azeros, Nat.reduceLeDiff, Nat.reduceLT, Int.reduceLE, Int.reduceLT, Int.reduceEq, Int.reduceToNat, Int.reducePow, IntKind.bits, Int.reduceNeg, RB, aalloc, Go.PW.dig_length, tf24RfO, hd])
    | (simp (disch := first | omega | (simp only [RO]; done) | assumption) only [RS, six22, gix22, bst24_e, bst24_0, bst24_01])
    | (simp (disch := (first | omega | (simp only [RO]; done) | assumption | (simp only [RM, Go.PW.dig_length]; done) | (simp only [RL, Go.PW.dig_length]; omega))) only [RD, reduceCtorEq, reduceIte, Go.PW.dig_length, Nat.reduceLeDiff, Nat.reduceAdd, Nat.reduceMul, Int.reduceToNat, tf24RfO, hd])
  refine hQ _ _ ?_
  clear hQ
  refine AWp_seq_k (fun K hQ => ?_)
  repeat' first
    | (with_reducible first | refine AWp_seq_k (fun K hK => ?_) | refine AWp_skip ?_ | refine AWp_regionE ?_ | refine AWp_condI ?_)
    | ((with_reducible refine ECall_intro (symRight_calls _ _ _ _ ((ha.push _).push _) hlx) ?_); rintro _ _ ⟨rfl, rfl⟩)
    | (with_reducible refine EGuard_split (fun hc => ?_) (fun hc => ?_) <;> (try simp only [RC] at hc) <;> (try (exfalso; first | omega | contradiction)))
    | (with_reducible refine AIte (fun hc => ?_) (fun hc => ?_) <;> (try simp only [RC] at hc) <;> (try (exfalso; first | omega | contradiction)))
    | (simp only [thenA, inBlockA, reduceIte, Nat.reduceEqDiff])
    | ((with_reducible refine hK _ _ ?_); clear hK)
    | (simp only [ACond, RA, EAtS_def, EAtX_def, wantedA, acall, astep, ev, ofValue, ofAtom, Nat.reduceEqDiff, Nat.reduceAdd, Nat.reduceMul, Nat.reduceSub, reduceCtorEq, reduceIte, aoptEv, abin, aint, ashift, aun, astr, aeqGuard, isConstOp, aconvH, aofStr, aconvSame, isU8, abuildSlice, afill, splice, azeros, Nat.reduceLeDiff, Nat.reduceLT, Int.reduceLE, Int.reduceLT, Int.reduceEq, Int.reduceToNat, Int.reducePow, IntKind.bits, Int.reduceNeg, RB, aalloc, Go.PW.dig_length, tf24RfO, hd])
    | (simp (disch := first | omega | (simp only [RO]; done) | assumption) only [RS, six22, gix22, bst24_e, bst24_0, bst24_01])
    | (simp (disch := (first | omega | (simp only [RO]; done) | assumption | (simp only [RM, Go.PW.dig_length]; done) | (simp only [RL, Go.PW.dig_length]; omega))) only [RD, reduceCtorEq, reduceIte, Go.PW.dig_length, Nat.reduceLeDiff, Nat.reduceAdd, Nat.reduceMul, Int.reduceToNat, tf24RfO, hd])
  refine hQ _ _ ?_
  clear hQ
  refine AWp_seq_k (fun K hQ => ?_)
  repeat' first
    | (with_reducible first | refine AWp_seq_k (fun K hK => ?_) | refine AWp_skip ?_ | refine AWp_regionE ?_ | refine AWp_condI ?_)
    | ((with_reducible refine ECall_intro (symRight_calls _ _ _ _ ((ha.push _).push _) hlx) ?_); rintro _ _ ⟨rfl, rfl⟩)
    | (with_reducible refine EGuard_split (fun hc => ?_) (fun hc => ?_) <;> (try simp only [RC] at hc) <;> (try (exfalso; first | omega | contradiction)))
    | (with_reducible refine AIte (fun hc => ?_) (fun hc => ?_) <;> (try simp only [RC] at hc) <;> (try (exfalso; first | omega | contradiction)))
    | (simp only [thenA, inBlockA, reduceIte, Nat.reduceEqDiff])
    | ((with_reducible refine hK _ _ ?_); clear hK)
    | (simp only [ACond, RA, EAtS_def, EAtX_def, wantedA, acall, astep, ev, ofValue, ofAtom, Nat.reduceEqDiff, Nat.reduceAdd, Nat.reduceMul, Nat.reduceSub, reduceCtorEq, reduceIte, aoptEv, abin, aint, ashift, aun, astr, aeqGuard, isConstOp, aconvH, aofStr, aconvSame, isU8, abuildSlice, afill, splice, azeros, Nat.reduceLeDiff, Nat.reduceLT, Int.reduceLE, Int.reduceLT, Int.reduceEq, Int.reduceToNat, Int.reducePow, IntKind.bits, Int.reduceNeg, RB, aalloc, Go.PW.dig_length, tf24RfO, hd])
    | (simp (disch := first | omega | (simp only [RO]; done) | assumption) only [RS, six22, gix22, bst24_e, bst24_0, bst24_01])
    | (simp (disch := (first | omega | (simp only [RO]; done) | assumption | (simp only [RM, Go.PW.dig_length]; done) | (simp only [RL, Go.PW.dig_length]; omega))) only [RD, reduceCtorEq, reduceIte, Go.PW.dig_length, Nat.reduceLeDiff, Nat.reduceAdd, Nat.reduceMul, Int.reduceToNat, tf24RfO, hd])
  refine hQ _ _ ?_
  clear hQ
  refine AWp_seq_k (fun K2 hK2 => ?_)
  refine AWp_cut (fun fr' H1 => ∃ b, fr' 1 = .int .i64 (i : Int) ∧ fr' 2 = .int .i64 (j : Int) ∧ fr' 3 = .int .i64 v ∧ fr' 4 = .ptr H.length 0 ∧ fr' 8 = .ptr (H.length + 1) 0 ∧ hget H1 H.length = some (Sb n b) ∧ hget H1 (H.length + 1) = some (Sb 0 .nilS) ∧ Mo H1 b xs (H.length + 2) ∧ Ext H H1) ?_ (fun fr' H1 h => hK2 _ _ ?_)
  · clear hK2
    repeat' first
      | (with_reducible first | refine AWp_regionE ?_)
      | (simp only [thenA, inBlockA, reduceIte, Nat.reduceEqDiff])
      | (simp only [ACond, RA, EAtS_def, EAtX_def, wantedA, acall, astep, ev, ofValue, ofAtom, Nat.reduceEqDiff, Nat.reduceAdd, Nat.reduceMul, Nat.reduceSub, reduceCtorEq, reduceIte, aoptEv, abin, aint, ashift, aun, astr, aeqGuard, isConstOp, aconvH, aofStr, aconvSame, isU8, abuildSlice, afill, splice, azeros, Nat.reduceLeDiff, Nat.reduceLT, Int.reduceLE, Int.reduceLT, Int.reduceEq, Int.reduceToNat, Int.reducePow, IntKind.bits, Int.reduceNeg, RB, aalloc, Go.PW.dig_length, tf24RfO])
      | (simp (disch := (first | omega | (simp only [RO]; done) | assumption | (simp only [RM, Go.PW.dig_length]; done) | (simp only [RL, Go.PW.dig_length]; omega))) only [RD, reduceCtorEq, reduceIte, Go.PW.dig_length, Nat.reduceLeDiff, Nat.reduceAdd, Nat.reduceMul, Int.reduceToNat, tf24RfO])
    refine ECall_intro (MoCopy_calls n xs a _ ((ha.push _).push _) hlx) ?_
    rintro _ H2 ⟨b, rfl, m, x2⟩
    have hb1 := m.one
    have hcb : b.cells = [b] := AV.cells_one hb1
    have q4 : hget H2 H.length = some (Sb n a) := hget_ext (by rw [hget_old (by simp), hget_at rfl]) x2
    have q8 : hget H2 (H.length + 1) = some (Sb 0 .nilS) := hget_ext (hget_at (by simp)) x2
    have l4 := hget_lt q4
    have m2 : Mo H2 b xs (H.length + 2) := m.low (by simp)
    repeat' first
      | (simp only [thenA, inBlockA, reduceIte, Nat.reduceEqDiff])
      | (simp only [ACond, RA, EAtS_def, EAtX_def, wantedA, acall, astep, ev, ofValue, ofAtom, Nat.reduceEqDiff, Nat.reduceAdd, Nat.reduceMul, Nat.reduceSub, reduceCtorEq, reduceIte, aoptEv, abin, aint, ashift, aun, astr, aeqGuard, isConstOp, aconvH, aofStr, aconvSame, isU8, abuildSlice, afill, splice, azeros, Nat.reduceLeDiff, Nat.reduceLT, Int.reduceLE, Int.reduceLT, Int.reduceEq, Int.reduceToNat, Int.reducePow, IntKind.bits, Int.reduceNeg, RB, aalloc, Go.PW.dig_length, tf24RfO, q4])
      | (simp (disch := first | omega | (simp only [RO]; done) | assumption) only [RS, six22, gix22, bst24_e, bst24_0, bst24_01])
      | (simp (disch := (first | omega | (simp only [RO]; done) | assumption | (simp only [RM, Go.PW.dig_length]; done) | (simp only [RL, Go.PW.dig_length]; omega))) only [RD, reduceCtorEq, reduceIte, Go.PW.dig_length, Nat.reduceLeDiff, Nat.reduceAdd, Nat.reduceMul, Int.reduceToNat, tf24RfO, q4])
    all_goals
      exact ⟨b, by rw [hget_set l4, if_pos rfl], by rw [hget_set l4, if_neg (by omega)]; exact q8, m2.other (by omega) l4 _, (((Ext.push _ _).pushed _).trans x2).set (by omega) _⟩
  clear hK2
  obtain ⟨b, k1, k2, k3, k4, k8, q4, q8, m, x1⟩ := h
  have hb1 := m.one
  have hcb : b.cells = [b] := AV.cells_one hb1
  have hat := m.at_ (k := .i64) (i := pl n i j) (by omega)
  have hput := m.put (i := pl n i j) (by omega) v
  obtain ⟨g1, g2⟩ := m.hd (i := pl n i j) (by omega)
  have lb := hget_lt g1
  have l8 := hget_lt q8
  have hs1 : ∀ blk k, hget (H1.set b.hd blk) k = if k = b.hd then some blk else hget H1 k := fun blk k => hget_set lb blk k
  have n1 : (H.length = b.hd) = False := eq_false (by omega)
  have n2 : (H.length + 1 = b.hd) = False := eq_false (by omega)
  repeat' first
    | (with_reducible first | refine AWp_seq_k (fun K hK => ?_) | refine AWp_ret ?_ | refine AWp_regionE ?_ | refine AWp_drawE (id := 8) [6] pn24_8RfO (by kernel_rfl) (by kernel_rfl) ?_ | refine Run_pur ?_)
    | (with_reducible refine EPure_intro (fun _ x => (at_calls _ _ _ _ h8 hi hj)) ?_)
    | (simp only [thenA, inBlockA, reduceIte, Nat.reduceEqDiff])
    | ((with_reducible refine hK _ _ ?_); clear hK)
    | (simp only [ACond, RA, EAtS_def, EAtX_def, wantedA, acall, astep, ev, ofValue, ofAtom, Nat.reduceEqDiff, Nat.reduceAdd, Nat.reduceMul, Nat.reduceSub, reduceCtorEq, reduceIte, aoptEv, abin, aint, ashift, aun, astr, aeqGuard, isConstOp, aconvH, aofStr, aconvSame, isU8, abuildSlice, afill, splice, azeros, Nat.reduceLeDiff, Nat.reduceLT, Int.reduceLE, Int.reduceLT, Int.reduceEq, Int.reduceToNat, Int.reducePow, IntKind.bits, Int.reduceNeg, RB, aalloc, Go.PW.dig_length, tf24RfO, k1, k2, k3, k4, k8, q4, q8, hat, hput, hs1, n1, n2])
    | (simp (disch := first | omega | (simp only [RO]; done) | assumption) only [RS, six22, gix22, bst24_e, bst24_0, bst24_01])
    | (simp (disch := (first | omega | (simp only [RO]; done) | assumption | (simp only [RM, Go.PW.dig_length]; done) | (simp only [RL, Go.PW.dig_length]; omega))) only [RD, reduceCtorEq, reduceIte, Go.PW.dig_length, Nat.reduceLeDiff, Nat.reduceAdd, Nat.reduceMul, Int.reduceToNat, tf24RfO, k1, k2, k3, k4, k8, q4, q8, hat, hput, hs1, n1, n2])
  have l8' : H.length + 1 < (H1.set b.hd (Ib (xs.set (pl n i j) v))).length := by rw [List.length_set]; exact l8
  all_goals
    (
     (refine AEnd_gen (rs := [.cell 8 24, .tmp 9]) rfl ?_)
     (simp only [AEndR, aresults, Fr.put_some, Fr.put_none, fr0_zero, fr0_succ, fr0_nil, Nat.reduceEqDiff, reduceIte, k8, hget_set l8'])
     (try simp (disch := (first | omega | (simp only [RO]; done) | assumption | (simp only [RM, Go.PW.dig_length]; done) | (simp only [RL, Go.PW.dig_length]; omega))) only [RD, reduceCtorEq, reduceIte, Go.PW.dig_length, Nat.reduceLeDiff, Nat.reduceAdd, Nat.reduceMul, Int.reduceToNat, tf24RfO, k8, hget_set l8']))
  all_goals exact ⟨b, rfl, ((m.set (by omega) (by rw [List.length_set])).other (by omega) l8' _).low (by omega), (x1.set (by omega) _).set (by omega) _⟩
end Go.Proofs.YtfalfmfkifemeaaGreatDoor

/- Part 23 of the proof of the law BoundLine of this seat: lemmas on the model's code, on this program's functions, on numbers. No condition. -/
import Derived.Test.YtfalfmfkifemeaaGreatDoorZBoundLineav
set_option linter.unusedVariables false
set_option linter.unusedSimpArgs false
namespace Go.Proofs.YtfalfmfkifemeaaGreatDoor
open Go.AL Go.PW Go.PD
theorem tf30BdB : type_of% (And.intro @tyb2 (And.intro @tyb3 (And.intro @tyb4 (And.intro @tyb22 (And.intro @tyb23 (And.intro @tyb24 (And.intro @tyb31 (And.intro @tyb32 (And.intro @tyb33 (And.intro @tyb38 (@tyb79))))))))))) := And.intro @tyb2 (And.intro @tyb3 (And.intro @tyb4 (And.intro @tyb22 (And.intro @tyb23 (And.intro @tyb24 (And.intro @tyb31 (And.intro @tyb32 (And.intro @tyb33 (And.intro @tyb38 (@tyb79))))))))))
theorem tf32BdB : type_of% (And.intro @tyb2 (And.intro @tyb3 (And.intro @tyb4 (And.intro @tyb22 (And.intro @tyb23 (And.intro @tyb24 (And.intro @tyb31 (And.intro @tyb32 (And.intro @tyb33 (And.intro @tyb38 (@tyb79))))))))))) := And.intro @tyb2 (And.intro @tyb3 (And.intro @tyb4 (And.intro @tyb22 (And.intro @tyb23 (And.intro @tyb24 (And.intro @tyb31 (And.intro @tyb32 (And.intro @tyb33 (And.intro @tyb38 (@tyb79))))))))))
abbrev pn30_3BdB : Plan := (.one 0 (.one 2 (.one 3 (.one 6 (.ext 1 (.one 4 (.one 5 (.one 7 (.one 8 (.one 9 (.one 10 (.one 11 .nil))))))))))))
abbrev pn32_3BdB : Plan := (.one 0 (.one 1 (.one 4 (.one 6 (.ext 2 (.ext 3 (.one 5 (.one 7 (.one 8 (.one 9 (.one 10 .nil)))))))))))
set_option maxRecDepth 8000
/-- Nought everywhere. -/
def nul : Nat → Nat → Int := fun _ _ => 0
theorem ent_nul (n l : Nat) : ent n (List.replicate l 0) = nul := funext fun i => funext fun j => ent_noughts n i j l
theorem ent_30 {n : Nat} {xs : List Int} (hr : Right n xs) (i j : Nat) : (ent n xs i j).natAbs ≤ 1073741824 := by
  unfold ent
  rcases Nat.lt_or_ge (pl n i j) xs.length with h | h
  · have := hr.2 _ (getD_mem h)
    unfold Fit at this
    omega
  · rw [List.getD_eq_getElem?_getD, List.getElem?_eq_none h]; decide
theorem dif_64 {a b : Nat → Nat → Int} {m : Int} (ha : ∀ i j, (a i j).natAbs ≤ 1073741824) (hb : ∀ i j, (b i j).natAbs ≤ 1073741824) (hm : m.natAbs ≤ 9223372036854775808) (i j : Nat) : (dif a b m i j).natAbs ≤ 18446744073709551616 := by
  have h1 := ha i j
  have h2 := hb i j
  unfold dif
  split <;> omega
theorem nul_30 (i j : Nat) : (nul i j).natAbs ≤ 1073741824 := by unfold nul; decide
/-- Is a matrix above, below so much; and not above another one? -/
def leastB (n : Nat) (xs : List Int) (k : Int) : Bool := posB (dif (ent n xs) nul (-k)) n
def mostB (n : Nat) (xs : List Int) (k : Int) : Bool := posB (dif nul (ent n xs) k) n
def belowB (n : Nat) (xs ys : List Int) : Bool := posB (dif (ent n ys) (ent n xs) 1) n
set_option maxHeartbeats 4000000 in
theorem Least_calls (n : Nat) (xs : List Int) (a : AV) (k : Int) (H : Hp) (ha : Ints H .i64 a xs) (hr : Right n xs) (hk : -9223372036854775808 ≤ k ∧ k ≤ 9223372036854775807) : ACalls Tryz.prog 30 [SymA n a, .int .i64 k] H fun r H' => r = .bool (leastB n xs k) ∧ H = H' := by
  refine ACalls.drop (R := fun r => r = .bool (leastB n xs k)) ?_
  have ha1 : a.one = true := ha.rd.one
  have hc : a.cells = [a] := AV.cells_one ha1
  obtain ⟨h8, hlx⟩ := hr.len
  have hd : decide (Right n xs) = true := decide_eq_true hr
  have e30 := ent_30 hr
  refine ACalls_body Tryz.func30 rfl (by kernel_rfl) (by kernel_rfl) ?_
  repeat' first
    | (with_reducible first | refine AWp_seq_k (fun K hK => ?_) | refine AWp_skip ?_ | refine AWp_regionE ?_ | refine AWp_drawE (id := 3) [1] pn30_3BdB (by kernel_rfl) (by kernel_rfl) ?_ | refine AWp_condI ?_ | refine Run_ext ?_)
    | ((with_reducible refine ECall_intro (right_calls _ _ _ _ (ha.push _) hlx) ?_); rintro _ _ ⟨rfl, rfl⟩)
    | (simp only [thenA, inBlockA, reduceIte, Nat.reduceEqDiff])
    | ((with_reducible refine hK _ _ ?_); clear hK)
    | (simp only [ACond, RA, EAtS_def, EAtX_def, wantedA, acall, astep, ev, ofValue, ofAtom, Nat.reduceEqDiff, Nat.reduceAdd, Nat.reduceMul, Nat.reduceSub, reduceCtorEq, reduceIte, aoptEv, abin, aint, ashift, aun, astr, aeqGuard, isConstOp, aconvH, aofStr, aconvSame, isU8, abuildSlice, afill, splice, azeros, Nat.reduceLeDiff, Nat.reduceLT, Int.reduceLE, Int.reduceLT, Int.reduceEq, Int.reduceToNat, Int.reducePow, IntKind.bits, Int.reduceNeg, RB, aalloc, Go.PW.dig_length, tf30BdB, hd])
    | (simp (disch := first | omega | (simp only [RO]; done) | assumption) only [RS, six22, gix22, six38, gix38, six79, gix79, idx32, slh32, idx33, slh33, bst24_e, bst24_0, bst24_01])
    | (simp (disch := (first | omega | (simp only [RO]; done) | assumption | (simp only [RM, Go.PW.dig_length]; done) | (simp only [RL, Go.PW.dig_length]; omega))) only [RD, reduceCtorEq, reduceIte, Go.PW.dig_length, Nat.reduceLeDiff, Nat.reduceAdd, Nat.reduceMul, Int.reduceToNat, tf30BdB, hd])
  all_goals
    refine EExt_intro (Rows_calls n xs a _ (ha.push _) hr) ?_
    rintro _ H1 ⟨p1, vs1, rfl, M1, x1, _⟩
    refine ⟨x1, ?_⟩
    repeat' first
      | (simp only [ACond, RA, EAtS_def, EAtX_def, wantedA, acall, astep, ev, ofValue, ofAtom, Nat.reduceEqDiff, Nat.reduceAdd, Nat.reduceMul, Nat.reduceSub, reduceCtorEq, reduceIte, aoptEv, abin, aint, ashift, aun, astr, aeqGuard, isConstOp, aconvH, aofStr, aconvSame, isU8, abuildSlice, afill, splice, azeros, Nat.reduceLeDiff, Nat.reduceLT, Int.reduceLE, Int.reduceLT, Int.reduceEq, Int.reduceToNat, Int.reducePow, IntKind.bits, Int.reduceNeg, RB, aalloc, Go.PW.dig_length, tf30BdB])
    refine ECall_intro (New_calls n _ h8) ?_
    rintro _ H2 ⟨z, rfl, Z, x2⟩
    have hz1 : z.one = true := Z.ints.rd.one
    have hcz : z.cells = [z] := AV.cells_one hz1
    repeat' first
      | (simp only [ACond, RA, EAtS_def, EAtX_def, wantedA, acall, astep, ev, ofValue, ofAtom, Nat.reduceEqDiff, Nat.reduceAdd, Nat.reduceMul, Nat.reduceSub, reduceCtorEq, reduceIte, aoptEv, abin, aint, ashift, aun, astr, aeqGuard, isConstOp, aconvH, aofStr, aconvSame, isU8, abuildSlice, afill, splice, azeros, Nat.reduceLeDiff, Nat.reduceLT, Int.reduceLE, Int.reduceLT, Int.reduceEq, Int.reduceToNat, Int.reducePow, IntKind.bits, Int.reduceNeg, RB, aalloc, Go.PW.dig_length, tf30BdB])
    refine ECall_intro (Rows_calls n _ z _ Z.ints (right_noughts h8)) ?_
    rintro _ H3 ⟨p3, vs3, rfl, M3, x3, _⟩
    rw [rowsOf_F, ent_nul] at M3
    rw [rowsOf_F] at M1
    repeat' first
      | ((with_reducible refine ECall_intro (of_calls _ _ hk) ?_); rintro _ _ ⟨rfl, rfl⟩)
      | ((with_reducible refine ECall_intro (neg_calls _ _) ?_); rintro _ _ ⟨rfl, rfl⟩)
      | (simp only [ACond, RA, EAtS_def, EAtX_def, wantedA, acall, astep, ev, ofValue, ofAtom, Nat.reduceEqDiff, Nat.reduceAdd, Nat.reduceMul, Nat.reduceSub, reduceCtorEq, reduceIte, aoptEv, abin, aint, ashift, aun, astr, aeqGuard, isConstOp, aconvH, aofStr, aconvSame, isU8, abuildSlice, afill, splice, azeros, Nat.reduceLeDiff, Nat.reduceLT, Int.reduceLE, Int.reduceLT, Int.reduceEq, Int.reduceToNat, Int.reducePow, IntKind.bits, Int.reduceNeg, RB, aalloc, Go.PW.dig_length, tf30BdB])
    refine ECall_intro (less_calls n p1 p3 vs1 vs3 (ent n xs) nul (-k) _ ((M1.ext x2).ext x3) M3 h8 (fun i j _ _ => e30 i j) (fun i j _ _ => nul_30 i j) (by omega)) ?_
    rintro _ H4 ⟨p, vs, rfl, M, x4, hF⟩
    repeat' first
      | (simp only [ACond, RA, EAtS_def, EAtX_def, wantedA, acall, astep, ev, ofValue, ofAtom, Nat.reduceEqDiff, Nat.reduceAdd, Nat.reduceMul, Nat.reduceSub, reduceCtorEq, reduceIte, aoptEv, abin, aint, ashift, aun, astr, aeqGuard, isConstOp, aconvH, aofStr, aconvSame, isU8, abuildSlice, afill, splice, azeros, Nat.reduceLeDiff, Nat.reduceLT, Int.reduceLE, Int.reduceLT, Int.reduceEq, Int.reduceToNat, Int.reducePow, IntKind.bits, Int.reduceNeg, RB, aalloc, Go.PW.dig_length, tf30BdB])
    refine ECall_intro (Positive_calls n p _ vs _ H4 M (St.zeroF n _) h8 (dif_64 e30 nul_30 (by omega))) ?_
    rintro _ H5 ⟨rfl, O⟩
    repeat' first
      | (with_reducible first | refine AWp_ret ?_)
      | (simp only [thenA, inBlockA, reduceIte, Nat.reduceEqDiff])
      | ((with_reducible refine hK _ _ ?_); clear hK)
      | (simp only [ACond, RA, EAtS_def, EAtX_def, wantedA, acall, astep, ev, ofValue, ofAtom, Nat.reduceEqDiff, Nat.reduceAdd, Nat.reduceMul, Nat.reduceSub, reduceCtorEq, reduceIte, aoptEv, abin, aint, ashift, aun, astr, aeqGuard, isConstOp, aconvH, aofStr, aconvSame, isU8, abuildSlice, afill, splice, azeros, Nat.reduceLeDiff, Nat.reduceLT, Int.reduceLE, Int.reduceLT, Int.reduceEq, Int.reduceToNat, Int.reducePow, IntKind.bits, Int.reduceNeg, RB, aalloc, Go.PW.dig_length, tf30BdB])
    (
     (refine AEnd_gen (rs := [.tmp 4]) rfl ?_)
     (simp only [AEndR, aresults, Fr.put_some, Fr.put_none, fr0_zero, fr0_succ, fr0_nil, Nat.reduceEqDiff, reduceIte])
     (try simp (disch := (first | omega | (simp only [RO]; done) | assumption | (simp only [RM, Go.PW.dig_length]; done) | (simp only [RL, Go.PW.dig_length]; omega))) only [RD, reduceCtorEq, reduceIte, Go.PW.dig_length, Nat.reduceLeDiff, Nat.reduceAdd, Nat.reduceMul, Int.reduceToNat, tf30BdB]))
    have x5 := Off.toExt x4 O (fun h ⟨i, hi, e⟩ => by rw [e]; exact hF.2 i hi)
    exact ⟨((((Ext.push _ _).trans x1).trans x2).trans x3).trans x5, trivial, rfl⟩
set_option maxHeartbeats 4000000 in
theorem Most_calls (n : Nat) (xs : List Int) (a : AV) (k : Int) (H : Hp) (ha : Ints H .i64 a xs) (hr : Right n xs) (hk : -9223372036854775808 ≤ k ∧ k ≤ 9223372036854775807) : ACalls Tryz.prog 32 [SymA n a, .int .i64 k] H fun r H' => r = .bool (mostB n xs k) ∧ H = H' := by
  refine ACalls.drop (R := fun r => r = .bool (mostB n xs k)) ?_
  have ha1 : a.one = true := ha.rd.one
  have hc : a.cells = [a] := AV.cells_one ha1
  obtain ⟨h8, hlx⟩ := hr.len
  have hd : decide (Right n xs) = true := decide_eq_true hr
  have e30 := ent_30 hr
  refine ACalls_body Tryz.func32 rfl (by kernel_rfl) (by kernel_rfl) ?_
  repeat' first
    | (with_reducible first | refine AWp_seq_k (fun K hK => ?_) | refine AWp_skip ?_ | refine AWp_regionE ?_ | refine AWp_drawE (id := 3) [2, 3] pn32_3BdB (by kernel_rfl) (by kernel_rfl) ?_ | refine AWp_condI ?_ | refine Run_ext ?_)
    | ((with_reducible refine ECall_intro (right_calls _ _ _ _ (ha.push _) hlx) ?_); rintro _ _ ⟨rfl, rfl⟩)
    | (simp only [thenA, inBlockA, reduceIte, Nat.reduceEqDiff])
    | ((with_reducible refine hK _ _ ?_); clear hK)
    | (simp only [ACond, RA, EAtS_def, EAtX_def, wantedA, acall, astep, ev, ofValue, ofAtom, Nat.reduceEqDiff, Nat.reduceAdd, Nat.reduceMul, Nat.reduceSub, reduceCtorEq, reduceIte, aoptEv, abin, aint, ashift, aun, astr, aeqGuard, isConstOp, aconvH, aofStr, aconvSame, isU8, abuildSlice, afill, splice, azeros, Nat.reduceLeDiff, Nat.reduceLT, Int.reduceLE, Int.reduceLT, Int.reduceEq, Int.reduceToNat, Int.reducePow, IntKind.bits, Int.reduceNeg, RB, aalloc, Go.PW.dig_length, tf32BdB, hd])
    | (simp (disch := first | omega | (simp only [RO]; done) | assumption) only [RS, six22, gix22, six38, gix38, six79, gix79, idx32, slh32, idx33, slh33, bst24_e, bst24_0, bst24_01])
    | (simp (disch := (first | omega | (simp only [RO]; done) | assumption | (simp only [RM, Go.PW.dig_length]; done) | (simp only [RL, Go.PW.dig_length]; omega))) only [RD, reduceCtorEq, reduceIte, Go.PW.dig_length, Nat.reduceLeDiff, Nat.reduceAdd, Nat.reduceMul, Int.reduceToNat, tf32BdB, hd])
  all_goals
    refine EExt_intro (New_calls n _ h8) ?_
    rintro _ H2 ⟨z, rfl, Z, x2⟩
    refine ⟨x2, ?_⟩
    have hz1 : z.one = true := Z.ints.rd.one
    have hcz : z.cells = [z] := AV.cells_one hz1
    repeat' first
      | (with_reducible first | refine Run_ext ?_)
      | (simp only [ACond, RA, EAtS_def, EAtX_def, wantedA, acall, astep, ev, ofValue, ofAtom, Nat.reduceEqDiff, Nat.reduceAdd, Nat.reduceMul, Nat.reduceSub, reduceCtorEq, reduceIte, aoptEv, abin, aint, ashift, aun, astr, aeqGuard, isConstOp, aconvH, aofStr, aconvSame, isU8, abuildSlice, afill, splice, azeros, Nat.reduceLeDiff, Nat.reduceLT, Int.reduceLE, Int.reduceLT, Int.reduceEq, Int.reduceToNat, Int.reducePow, IntKind.bits, Int.reduceNeg, RB, aalloc, Go.PW.dig_length, tf32BdB])
    refine EExt_intro (Rows_calls n _ z _ Z.ints (right_noughts h8)) ?_
    rintro _ H3 ⟨p3, vs3, rfl, M3, x3, _⟩
    refine ⟨x3, ?_⟩
    repeat' first
      | (simp only [ACond, RA, EAtS_def, EAtX_def, wantedA, acall, astep, ev, ofValue, ofAtom, Nat.reduceEqDiff, Nat.reduceAdd, Nat.reduceMul, Nat.reduceSub, reduceCtorEq, reduceIte, aoptEv, abin, aint, ashift, aun, astr, aeqGuard, isConstOp, aconvH, aofStr, aconvSame, isU8, abuildSlice, afill, splice, azeros, Nat.reduceLeDiff, Nat.reduceLT, Int.reduceLE, Int.reduceLT, Int.reduceEq, Int.reduceToNat, Int.reducePow, IntKind.bits, Int.reduceNeg, RB, aalloc, Go.PW.dig_length, tf32BdB])
    refine ECall_intro (Rows_calls n xs a _ (((ha.push _).ext x2).ext x3) hr) ?_
    rintro _ H1 ⟨p1, vs1, rfl, M1, x1, _⟩
    rw [rowsOf_F, ent_nul] at M3
    rw [rowsOf_F] at M1
    repeat' first
      | ((with_reducible refine ECall_intro (of_calls _ _ hk) ?_); rintro _ _ ⟨rfl, rfl⟩)
      | (simp only [ACond, RA, EAtS_def, EAtX_def, wantedA, acall, astep, ev, ofValue, ofAtom, Nat.reduceEqDiff, Nat.reduceAdd, Nat.reduceMul, Nat.reduceSub, reduceCtorEq, reduceIte, aoptEv, abin, aint, ashift, aun, astr, aeqGuard, isConstOp, aconvH, aofStr, aconvSame, isU8, abuildSlice, afill, splice, azeros, Nat.reduceLeDiff, Nat.reduceLT, Int.reduceLE, Int.reduceLT, Int.reduceEq, Int.reduceToNat, Int.reducePow, IntKind.bits, Int.reduceNeg, RB, aalloc, Go.PW.dig_length, tf32BdB])
    refine ECall_intro (less_calls n p3 p1 vs3 vs1 nul (ent n xs) k _ (M3.ext x1) M1 h8 (fun i j _ _ => nul_30 i j) (fun i j _ _ => e30 i j) (by omega)) ?_
    rintro _ H4 ⟨p, vs, rfl, M, x4, hF⟩
    repeat' first
      | (simp only [ACond, RA, EAtS_def, EAtX_def, wantedA, acall, astep, ev, ofValue, ofAtom, Nat.reduceEqDiff, Nat.reduceAdd, Nat.reduceMul, Nat.reduceSub, reduceCtorEq, reduceIte, aoptEv, abin, aint, ashift, aun, astr, aeqGuard, isConstOp, aconvH, aofStr, aconvSame, isU8, abuildSlice, afill, splice, azeros, Nat.reduceLeDiff, Nat.reduceLT, Int.reduceLE, Int.reduceLT, Int.reduceEq, Int.reduceToNat, Int.reducePow, IntKind.bits, Int.reduceNeg, RB, aalloc, Go.PW.dig_length, tf32BdB])
    refine ECall_intro (Positive_calls n p _ vs _ H4 M (St.zeroF n _) h8 (dif_64 nul_30 e30 (by omega))) ?_
    rintro _ H5 ⟨rfl, O⟩
    repeat' first
      | (with_reducible first | refine AWp_ret ?_)
      | (simp only [thenA, inBlockA, reduceIte, Nat.reduceEqDiff])
      | ((with_reducible refine hK _ _ ?_); clear hK)
      | (simp only [ACond, RA, EAtS_def, EAtX_def, wantedA, acall, astep, ev, ofValue, ofAtom, Nat.reduceEqDiff, Nat.reduceAdd, Nat.reduceMul, Nat.reduceSub, reduceCtorEq, reduceIte, aoptEv, abin, aint, ashift, aun, astr, aeqGuard, isConstOp, aconvH, aofStr, aconvSame, isU8, abuildSlice, afill, splice, azeros, Nat.reduceLeDiff, Nat.reduceLT, Int.reduceLE, Int.reduceLT, Int.reduceEq, Int.reduceToNat, Int.reducePow, IntKind.bits, Int.reduceNeg, RB, aalloc, Go.PW.dig_length, tf32BdB])
    (
     (refine AEnd_gen (rs := [.tmp 4]) rfl ?_)
     (simp only [AEndR, aresults, Fr.put_some, Fr.put_none, fr0_zero, fr0_succ, fr0_nil, Nat.reduceEqDiff, reduceIte])
     (try simp (disch := (first | omega | (simp only [RO]; done) | assumption | (simp only [RM, Go.PW.dig_length]; done) | (simp only [RL, Go.PW.dig_length]; omega))) only [RD, reduceCtorEq, reduceIte, Go.PW.dig_length, Nat.reduceLeDiff, Nat.reduceAdd, Nat.reduceMul, Int.reduceToNat, tf32BdB]))
    have x5 := Off.toExt x4 O (fun h ⟨i, hi, e⟩ => by rw [e]; exact hF.2 i hi)
    exact ⟨((((Ext.push _ _).trans x2).trans x3).trans x1).trans x5, trivial, rfl⟩
end Go.Proofs.YtfalfmfkifemeaaGreatDoor
set_option linter.unusedVariables false
set_option linter.unusedSimpArgs false
namespace Go.Proofs.YtfalfmfkifemeaaGreatDoor
open Go.AL Go.PW Go.PD
theorem tf35BdC : type_of% (And.intro @tyb2 (And.intro @tyb3 (And.intro @tyb4 (And.intro @tyb9 (And.intro @tyb22 (And.intro @tyb23 (And.intro @tyb24 (And.intro @tyb34 (And.intro @tyb35 (@tyb78)))))))))) := And.intro @tyb2 (And.intro @tyb3 (And.intro @tyb4 (And.intro @tyb9 (And.intro @tyb22 (And.intro @tyb23 (And.intro @tyb24 (And.intro @tyb34 (And.intro @tyb35 (@tyb78)))))))))
theorem tf39BdC : type_of% (And.intro @tyb2 (And.intro @tyb3 (And.intro @tyb4 (And.intro @tyb22 (And.intro @tyb23 (And.intro @tyb24 (And.intro @tyb31 (And.intro @tyb32 (And.intro @tyb33 (And.intro @tyb38 (@tyb79))))))))))) := And.intro @tyb2 (And.intro @tyb3 (And.intro @tyb4 (And.intro @tyb22 (And.intro @tyb23 (And.intro @tyb24 (And.intro @tyb31 (And.intro @tyb32 (And.intro @tyb33 (And.intro @tyb38 (@tyb79))))))))))
abbrev pn39_3BdC : Plan := (.one 0 (.one 2 (.ext 1 (.one 3 (.one 4 (.one 5 (.one 6 (.one 7 .nil))))))))
set_option maxRecDepth 8000
abbrev boundS : ByteArray := ⟨#[98, 111, 117, 110, 100]⟩
/-- What Between tells. -/
def BetwR (n : Nat) (xs : List Int) (k l : Int) (v : AV) (H : Hp) : Prop :=
  if leastB n xs k = false then Err H v boundS 30 else if mostB n xs l = false then Err H v boundS 31 else v = .nilI
set_option maxHeartbeats 4000000 in
theorem Between_calls (n : Nat) (xs : List Int) (a : AV) (k l : Int) (H : Hp) (ha : Ints H .i64 a xs) (hr : Right n xs) (hk : -9223372036854775808 ≤ k ∧ k ≤ 9223372036854775807) (hl : -9223372036854775808 ≤ l ∧ l ≤ 9223372036854775807) : ACalls Tryz.prog 35 [SymA n a, .int .i64 k, .int .i64 l] H fun r H' => BetwR n xs k l r H' ∧ Ext H H' := by
  have ha1 : a.one = true := ha.rd.one
  have hc : a.cells = [a] := AV.cells_one ha1
  obtain ⟨h8, hlx⟩ := hr.len
  have hd : decide (Right n xs) = true := decide_eq_true hr
  have hw := fun n H0 => wrap_calls boundS n H0
  have hL := fun H0 (x0 : Ext H H0) => Least_calls n xs a k H0 (ha.ext x0) hr hk
  have hM := fun H0 (x0 : Ext H H0) => Most_calls n xs a l H0 (ha.ext x0) hr hl
  cases hb : leastB n xs k <;> rw [hb] at hL
  · skip
    refine ACalls_body Tryz.func35 rfl (by kernel_rfl) (by kernel_rfl) ?_
    repeat' first
      | (with_reducible first | refine AWp_seq_k (fun K hK => ?_) | refine AWp_block ?_ | refine AWp_ret ?_ | refine AWp_regionE ?_ | refine AWp_condI ?_)
      | ((with_reducible refine ECall_intro (right_calls _ _ _ _ (ha.push _) hlx) ?_); rintro _ _ ⟨rfl, rfl⟩)
      | ((with_reducible refine ECall_intro (hL _ (Ext.push _ _)) ?_); rintro _ _ ⟨rfl, rfl⟩)
      | ((with_reducible refine ECall_intro (hw _ _) ?_); rintro _ _ ⟨rfl, rfl⟩)
      | (simp only [thenA, inBlockA, reduceIte, Nat.reduceEqDiff])
      | ((with_reducible refine hK _ _ ?_); clear hK)
      | (simp only [ACond, RA, EAtS_def, EAtX_def, wantedA, acall, astep, ev, ofValue, ofAtom, Nat.reduceEqDiff, Nat.reduceAdd, Nat.reduceMul, Nat.reduceSub, reduceCtorEq, reduceIte, aoptEv, abin, aint, ashift, aun, astr, aeqGuard, isConstOp, aconvH, aofStr, aconvSame, isU8, abuildSlice, afill, splice, azeros, Nat.reduceLeDiff, Nat.reduceLT, Int.reduceLE, Int.reduceLT, Int.reduceEq, Int.reduceToNat, Int.reducePow, IntKind.bits, Int.reduceNeg, RB, aalloc, Go.PW.dig_length, tf35BdC, hd])
      | (simp (disch := first | omega | (simp only [RO]; done) | assumption) only [RS, six22, gix22, bst24_e, bst24_0, bst24_01])
      | (simp (disch := (first | omega | (simp only [RO]; done) | assumption | (simp only [RM, Go.PW.dig_length]; done) | (simp only [RL, Go.PW.dig_length]; omega))) only [RD, reduceCtorEq, reduceIte, Go.PW.dig_length, Nat.reduceLeDiff, Nat.reduceAdd, Nat.reduceMul, Int.reduceToNat, tf35BdC, hd])
    all_goals
      (
       (refine AEnd_gen (rs := [.tmp 6]) rfl ?_)
       (simp only [AEndR, aresults, Fr.put_some, Fr.put_none, fr0_zero, fr0_succ, fr0_nil, Nat.reduceEqDiff, reduceIte])
       (try simp (disch := (first | omega | (simp only [RO]; done) | assumption | (simp only [RM, Go.PW.dig_length]; done) | (simp only [RL, Go.PW.dig_length]; omega))) only [RD, reduceCtorEq, reduceIte, Go.PW.dig_length, Nat.reduceLeDiff, Nat.reduceAdd, Nat.reduceMul, Int.reduceToNat, tf35BdC]))
    all_goals exact ⟨by unfold BetwR; rw [if_pos hb]; exact ⟨_, rfl, hget_at (by simp)⟩, (Ext.push _ _).pushed _⟩
  · cases hb2 : mostB n xs l <;> rw [hb2] at hM
    · skip
      refine ACalls_body Tryz.func35 rfl (by kernel_rfl) (by kernel_rfl) ?_
      repeat' first
        | (with_reducible first | refine AWp_seq_k (fun K hK => ?_) | refine AWp_block ?_ | refine AWp_ret ?_ | refine AWp_regionE ?_ | refine AWp_condI ?_)
        | ((with_reducible refine ECall_intro (right_calls _ _ _ _ (ha.push _) hlx) ?_); rintro _ _ ⟨rfl, rfl⟩)
        | ((with_reducible refine ECall_intro (hL _ (Ext.push _ _)) ?_); rintro _ _ ⟨rfl, rfl⟩)
        | ((with_reducible refine ECall_intro (hM _ (Ext.push _ _)) ?_); rintro _ _ ⟨rfl, rfl⟩)
        | ((with_reducible refine ECall_intro (hw _ _) ?_); rintro _ _ ⟨rfl, rfl⟩)
        | (simp only [thenA, inBlockA, reduceIte, Nat.reduceEqDiff])
        | ((with_reducible refine hK _ _ ?_); clear hK)
        | (simp only [ACond, RA, EAtS_def, EAtX_def, wantedA, acall, astep, ev, ofValue, ofAtom, Nat.reduceEqDiff, Nat.reduceAdd, Nat.reduceMul, Nat.reduceSub, reduceCtorEq, reduceIte, aoptEv, abin, aint, ashift, aun, astr, aeqGuard, isConstOp, aconvH, aofStr, aconvSame, isU8, abuildSlice, afill, splice, azeros, Nat.reduceLeDiff, Nat.reduceLT, Int.reduceLE, Int.reduceLT, Int.reduceEq, Int.reduceToNat, Int.reducePow, IntKind.bits, Int.reduceNeg, RB, aalloc, Go.PW.dig_length, tf35BdC, hd])
        | (simp (disch := first | omega | (simp only [RO]; done) | assumption) only [RS, six22, gix22, bst24_e, bst24_0, bst24_01])
        | (simp (disch := (first | omega | (simp only [RO]; done) | assumption | (simp only [RM, Go.PW.dig_length]; done) | (simp only [RL, Go.PW.dig_length]; omega))) only [RD, reduceCtorEq, reduceIte, Go.PW.dig_length, Nat.reduceLeDiff, Nat.reduceAdd, Nat.reduceMul, Int.reduceToNat, tf35BdC, hd])
      all_goals
        (
         (refine AEnd_gen (rs := [.tmp 6]) rfl ?_)
         (simp only [AEndR, aresults, Fr.put_some, Fr.put_none, fr0_zero, fr0_succ, fr0_nil, Nat.reduceEqDiff, reduceIte])
         (try simp (disch := (first | omega | (simp only [RO]; done) | assumption | (simp only [RM, Go.PW.dig_length]; done) | (simp only [RL, Go.PW.dig_length]; omega))) only [RD, reduceCtorEq, reduceIte, Go.PW.dig_length, Nat.reduceLeDiff, Nat.reduceAdd, Nat.reduceMul, Int.reduceToNat, tf35BdC]))
      all_goals exact ⟨by unfold BetwR; rw [if_neg (by rw [hb]; decide), if_pos hb2]; exact ⟨_, rfl, hget_at (by simp)⟩, (Ext.push _ _).pushed _⟩
    · skip
      refine ACalls_body Tryz.func35 rfl (by kernel_rfl) (by kernel_rfl) ?_
      repeat' first
        | (with_reducible first | refine AWp_seq_k (fun K hK => ?_) | refine AWp_block ?_ | refine AWp_skip ?_ | refine AWp_ret ?_ | refine AWp_regionE ?_ | refine AWp_condI ?_)
        | ((with_reducible refine ECall_intro (right_calls _ _ _ _ (ha.push _) hlx) ?_); rintro _ _ ⟨rfl, rfl⟩)
        | ((with_reducible refine ECall_intro (hL _ (Ext.push _ _)) ?_); rintro _ _ ⟨rfl, rfl⟩)
        | ((with_reducible refine ECall_intro (hM _ (Ext.push _ _)) ?_); rintro _ _ ⟨rfl, rfl⟩)
        | (simp only [thenA, inBlockA, reduceIte, Nat.reduceEqDiff])
        | ((with_reducible refine hK _ _ ?_); clear hK)
        | (simp only [ACond, RA, EAtS_def, EAtX_def, wantedA, acall, astep, ev, ofValue, ofAtom, Nat.reduceEqDiff, Nat.reduceAdd, Nat.reduceMul, Nat.reduceSub, reduceCtorEq, reduceIte, aoptEv, abin, aint, ashift, aun, astr, aeqGuard, isConstOp, aconvH, aofStr, aconvSame, isU8, abuildSlice, afill, splice, azeros, Nat.reduceLeDiff, Nat.reduceLT, Int.reduceLE, Int.reduceLT, Int.reduceEq, Int.reduceToNat, Int.reducePow, IntKind.bits, Int.reduceNeg, RB, aalloc, Go.PW.dig_length, tf35BdC, hd])
        | (simp (disch := first | omega | (simp only [RO]; done) | assumption) only [RS, six22, gix22, bst24_e, bst24_0, bst24_01])
        | (simp (disch := (first | omega | (simp only [RO]; done) | assumption | (simp only [RM, Go.PW.dig_length]; done) | (simp only [RL, Go.PW.dig_length]; omega))) only [RD, reduceCtorEq, reduceIte, Go.PW.dig_length, Nat.reduceLeDiff, Nat.reduceAdd, Nat.reduceMul, Int.reduceToNat, tf35BdC, hd])
      all_goals
        (
         (refine AEnd_gen (rs := [.tmp 6]) rfl ?_)
         (simp only [AEndR, aresults, Fr.put_some, Fr.put_none, fr0_zero, fr0_succ, fr0_nil, Nat.reduceEqDiff, reduceIte])
         (try simp (disch := (first | omega | (simp only [RO]; done) | assumption | (simp only [RM, Go.PW.dig_length]; done) | (simp only [RL, Go.PW.dig_length]; omega))) only [RD, reduceCtorEq, reduceIte, Go.PW.dig_length, Nat.reduceLeDiff, Nat.reduceAdd, Nat.reduceMul, Int.reduceToNat, tf35BdC]))
      all_goals exact ⟨by unfold BetwR; rw [if_neg (by rw [hb]; decide), if_neg (by rw [hb2]; decide)], Ext.push _ _⟩
set_option maxHeartbeats 4000000 in
theorem Below_calls (n : Nat) (xs ys : List Int) (a b : AV) (H : Hp) (ha : Ints H .i64 a xs) (hb : Ints H .i64 b ys) (hr : Right n xs) (hs : Right n ys) : ACalls Tryz.prog 39 [SymA n a, SymA n b] H fun r H' => r = .bool (belowB n xs ys) ∧ H = H' := by
  refine ACalls.drop (R := fun r => r = .bool (belowB n xs ys)) ?_
  have ha1 : a.one = true := ha.rd.one
  have hc : a.cells = [a] := AV.cells_one ha1
  have hb1 : b.one = true := hb.rd.one
  have hcb : b.cells = [b] := AV.cells_one hb1
  obtain ⟨h8, hlx⟩ := hr.len
  have hly := hs.len.2
  have hd : decide (Right n xs) = true := decide_eq_true hr
  have hd2 : decide (Right n ys) = true := decide_eq_true hs
  have e30 := ent_30 hr
  have f30 := ent_30 hs
  refine ACalls_body Tryz.func39 rfl (by kernel_rfl) (by kernel_rfl) ?_
  repeat' first
    | (with_reducible first | refine AWp_seq_k (fun K hK => ?_) | refine AWp_skip ?_ | refine AWp_regionE ?_ | refine AWp_drawE (id := 3) [1] pn39_3BdC (by kernel_rfl) (by kernel_rfl) ?_ | refine AWp_condI ?_ | refine Run_ext ?_)
    | ((with_reducible refine ECall_intro (right_calls _ _ _ _ ((ha.push _).push _) hlx) ?_); rintro _ _ ⟨rfl, rfl⟩)
    | ((with_reducible refine ECall_intro (right_calls _ _ _ _ ((hb.push _).push _) hly) ?_); rintro _ _ ⟨rfl, rfl⟩)
    | (simp only [thenA, inBlockA, reduceIte, Nat.reduceEqDiff])
    | ((with_reducible refine hK _ _ ?_); clear hK)
    | (simp only [ACond, RA, EAtS_def, EAtX_def, wantedA, acall, astep, ev, ofValue, ofAtom, Nat.reduceEqDiff, Nat.reduceAdd, Nat.reduceMul, Nat.reduceSub, reduceCtorEq, reduceIte, aoptEv, abin, aint, ashift, aun, astr, aeqGuard, isConstOp, aconvH, aofStr, aconvSame, isU8, abuildSlice, afill, splice, azeros, Nat.reduceLeDiff, Nat.reduceLT, Int.reduceLE, Int.reduceLT, Int.reduceEq, Int.reduceToNat, Int.reducePow, IntKind.bits, Int.reduceNeg, RB, aalloc, Go.PW.dig_length, tf39BdC, hd, hd2])
    | (simp (disch := first | omega | (simp only [RO]; done) | assumption) only [RS, six22, gix22, six38, gix38, six79, gix79, idx32, slh32, idx33, slh33, bst24_e, bst24_0, bst24_01])
    | (simp (disch := (first | omega | (simp only [RO]; done) | assumption | (simp only [RM, Go.PW.dig_length]; done) | (simp only [RL, Go.PW.dig_length]; omega))) only [RD, reduceCtorEq, reduceIte, Go.PW.dig_length, Nat.reduceLeDiff, Nat.reduceAdd, Nat.reduceMul, Int.reduceToNat, tf39BdC, hd, hd2])
  all_goals
    refine EExt_intro (Rows_calls n ys b _ ((hb.push _).push _) hs) ?_
    rintro _ H1 ⟨p1, vs1, rfl, M1, x1, _⟩
    refine ⟨x1, ?_⟩
    repeat' first
      | (simp only [ACond, RA, EAtS_def, EAtX_def, wantedA, acall, astep, ev, ofValue, ofAtom, Nat.reduceEqDiff, Nat.reduceAdd, Nat.reduceMul, Nat.reduceSub, reduceCtorEq, reduceIte, aoptEv, abin, aint, ashift, aun, astr, aeqGuard, isConstOp, aconvH, aofStr, aconvSame, isU8, abuildSlice, afill, splice, azeros, Nat.reduceLeDiff, Nat.reduceLT, Int.reduceLE, Int.reduceLT, Int.reduceEq, Int.reduceToNat, Int.reducePow, IntKind.bits, Int.reduceNeg, RB, aalloc, Go.PW.dig_length, tf39BdC])
    refine ECall_intro (Rows_calls n xs a _ (((ha.push _).push _).ext x1) hr) ?_
    rintro _ H3 ⟨p3, vs3, rfl, M3, x3, _⟩
    rw [rowsOf_F] at M1 M3
    repeat' first
      | ((with_reducible refine ECall_intro (of_calls _ _ (by omega)) ?_); rintro _ _ ⟨rfl, rfl⟩)
      | (simp only [ACond, RA, EAtS_def, EAtX_def, wantedA, acall, astep, ev, ofValue, ofAtom, Nat.reduceEqDiff, Nat.reduceAdd, Nat.reduceMul, Nat.reduceSub, reduceCtorEq, reduceIte, aoptEv, abin, aint, ashift, aun, astr, aeqGuard, isConstOp, aconvH, aofStr, aconvSame, isU8, abuildSlice, afill, splice, azeros, Nat.reduceLeDiff, Nat.reduceLT, Int.reduceLE, Int.reduceLT, Int.reduceEq, Int.reduceToNat, Int.reducePow, IntKind.bits, Int.reduceNeg, RB, aalloc, Go.PW.dig_length, tf39BdC])
    refine ECall_intro (less_calls n p1 p3 vs1 vs3 (ent n ys) (ent n xs) 1 _ (M1.ext x3) M3 h8 (fun i j _ _ => f30 i j) (fun i j _ _ => e30 i j) (by omega)) ?_
    rintro _ H4 ⟨p, vs, rfl, M, x4, hF⟩
    repeat' first
      | (simp only [ACond, RA, EAtS_def, EAtX_def, wantedA, acall, astep, ev, ofValue, ofAtom, Nat.reduceEqDiff, Nat.reduceAdd, Nat.reduceMul, Nat.reduceSub, reduceCtorEq, reduceIte, aoptEv, abin, aint, ashift, aun, astr, aeqGuard, isConstOp, aconvH, aofStr, aconvSame, isU8, abuildSlice, afill, splice, azeros, Nat.reduceLeDiff, Nat.reduceLT, Int.reduceLE, Int.reduceLT, Int.reduceEq, Int.reduceToNat, Int.reducePow, IntKind.bits, Int.reduceNeg, RB, aalloc, Go.PW.dig_length, tf39BdC])
    refine ECall_intro (Positive_calls n p _ vs _ H4 M (St.zeroF n _) h8 (dif_64 f30 e30 (by omega))) ?_
    rintro _ H5 ⟨rfl, O⟩
    repeat' first
      | (with_reducible first | refine AWp_ret ?_)
      | (simp only [thenA, inBlockA, reduceIte, Nat.reduceEqDiff])
      | ((with_reducible refine hK _ _ ?_); clear hK)
      | (simp only [ACond, RA, EAtS_def, EAtX_def, wantedA, acall, astep, ev, ofValue, ofAtom, Nat.reduceEqDiff, Nat.reduceAdd, Nat.reduceMul, Nat.reduceSub, reduceCtorEq, reduceIte, aoptEv, abin, aint, ashift, aun, astr, aeqGuard, isConstOp, aconvH, aofStr, aconvSame, isU8, abuildSlice, afill, splice, azeros, Nat.reduceLeDiff, Nat.reduceLT, Int.reduceLE, Int.reduceLT, Int.reduceEq, Int.reduceToNat, Int.reducePow, IntKind.bits, Int.reduceNeg, RB, aalloc, Go.PW.dig_length, tf39BdC])
    (
     (refine AEnd_gen (rs := [.tmp 4]) rfl ?_)
     (simp only [AEndR, aresults, Fr.put_some, Fr.put_none, fr0_zero, fr0_succ, fr0_nil, Nat.reduceEqDiff, reduceIte])
     (try simp (disch := (first | omega | (simp only [RO]; done) | assumption | (simp only [RM, Go.PW.dig_length]; done) | (simp only [RL, Go.PW.dig_length]; omega))) only [RD, reduceCtorEq, reduceIte, Go.PW.dig_length, Nat.reduceLeDiff, Nat.reduceAdd, Nat.reduceMul, Int.reduceToNat, tf39BdC]))
    have x5 := Off.toExt x4 O (fun h ⟨i, hi, e⟩ => by rw [e]; exact hF.2 i hi)
    exact ⟨((((Ext.push _ _).pushed _).trans x1).trans x3).trans x5, trivial, rfl⟩
end Go.Proofs.YtfalfmfkifemeaaGreatDoor
set_option linter.unusedVariables false
set_option linter.unusedSimpArgs false
namespace Go.Proofs.YtfalfmfkifemeaaGreatDoor
open Go.AL Go.PW Go.PD
theorem tf12RfN : type_of% (And.intro @tyb2 (And.intro @tyb3 (And.intro @tyb22 (And.intro @tyb23 (@tyb24))))) := And.intro @tyb2 (And.intro @tyb3 (And.intro @tyb22 (And.intro @tyb23 (@tyb24))))
abbrev pn12_1RfN : Plan := (.one 0 (.one 2 (.one 3 (.alt 1 (.one 4 (.one 5 (.one 6 .nil))) (.one 4 (.one 1 (.one 5 (.one 6 .nil))))))))
set_option maxRecDepth 8000
theorem ints_sg {H : Hp} {h : Nat} {xs : List Int} (hg : hget H h = some (Ib xs)) : Ints H .i64 (.sg h 0 xs.length 1) xs := by
  have hl := map_len .i64 xs
  refine ⟨?_, rfl⟩
  simp only [arow, hg]
  rw [if_neg (by decide), if_pos (by omega), List.drop_zero, List.take_of_length_le (by omega)]
/-- Entries in memory of one's own, not below lo. -/
def Mo (H : Hp) (a : AV) (xs : List Int) (lo : Nat) : Prop := (xs = [] ∧ a = .nilS) ∨ ∃ h, (a = .sl h 0 xs.length xs.length ∨ a = .sg h 0 xs.length 1) ∧ hget H h = some (Ib xs) ∧ lo ≤ h
section
variable {H : Hp} {a : AV} {xs : List Int} {lo : Nat}
theorem Mo.ext {H' : Hp} (m : Mo H a xs lo) (x : Ext H H') : Mo H' a xs lo := by
  rcases m with h | ⟨h, h1, h2, h3⟩
  · exact .inl h
  · exact .inr ⟨h, h1, hget_ext h2 x, h3⟩
theorem Mo.push (m : Mo H a xs lo) (b : Blk) : Mo (H ++ [b]) a xs lo := m.ext (Ext.push _ _)
theorem Mo.ints (m : Mo H a xs lo) : Ints H .i64 a xs := by
  rcases m with ⟨rfl, rfl⟩ | ⟨h, h1, h2, _⟩
  · exact Ints.nil _ _
  · rcases h1 with rfl | rfl
    · have := Ints.blk (n := xs.length) (c := xs.length) (o := 0) h2 (by decide) (by simp) (Nat.le_refl _)
      rwa [List.drop_zero, List.take_length] at this
    · exact ints_sg h2
theorem Mo.one (m : Mo H a xs lo) : a.one = true := m.ints.rd.one
theorem Mo.at_ (m : Mo H a xs lo) {k : IntKind} {i : Nat} (hi : i < xs.length) : aindexAddr Tryz.prog 22 a (.int k (i : Int)) = some (.ptr a.hd i) := by
  rcases m with ⟨rfl, rfl⟩ | ⟨h, h1, h2, _⟩
  · simp at hi
  · have h0 : (0 : Int) ≤ (i : Int) := by omega
    have h1' : (i : Int) < (xs.length : Int) := by omega
    rcases h1 with rfl | rfl
    · rw [six22 h0 h1', Int.toNat_natCast, Nat.zero_add]; rfl
    · rw [gix22 h0 h1', Int.toNat_natCast, Nat.zero_add]; rfl
theorem Mo.hd (m : Mo H a xs lo) {i : Nat} (hi : i < xs.length) : hget H a.hd = some (Ib xs) ∧ lo ≤ a.hd := by
  rcases m with ⟨rfl, rfl⟩ | ⟨h, h1, h2, h3⟩
  · simp at hi
  · rcases h1 with rfl | rfl <;> exact ⟨h2, h3⟩
theorem Mo.put (m : Mo H a xs lo) {i : Nat} (hi : i < xs.length) (v : Int) : astore Tryz.prog H 2 (.ptr a.hd i) (.int .i64 v) = some (H.set a.hd (Ib (xs.set i v))) := by
  obtain ⟨hg, _⟩ := m.hd hi
  rw [astore_ptr, hg]
  simp only [size2]
  rw [if_pos ⟨trivial, rfl, rfl, by rw [map_len]; exact hi⟩, AV.cells_int]
  congr 3
  exact splice_set _ _ _ hi
theorem Mo.set (m : Mo H a xs lo) {i : Nat} (hi : i < xs.length) {ys : List Int} (hl : ys.length = xs.length) : Mo (H.set a.hd (Ib ys)) a ys lo := by
  rcases m with ⟨rfl, rfl⟩ | ⟨h, h1, h2, h3⟩
  · simp at hi
  · refine .inr ⟨h, by rw [hl]; exact h1, ?_, h3⟩
    have e : a.hd = h := by rcases h1 with rfl | rfl <;> rfl
    rw [e, hget_set (hget_lt h2), if_pos rfl]
end
theorem MoCopy_calls (n : Int) (xs : List Int) (a : AV) (H : Hp) (ha : Ints H .i64 a xs) (hl : xs.length < 1000000) : ACalls Tryz.prog 12 [SymA n a] H fun r H' => ∃ b, r = SymA n b ∧ Mo H' b xs H.length ∧ Ext H H' := by
  rcases Nat.eq_zero_or_pos xs.length with h0 | h0
  · obtain rfl : xs = [] := List.eq_nil_of_length_eq_zero h0
    have ha1 : a.one = true := ha.rd.one
    have hc : a.cells = [a] := AV.cells_one ha1
    have g := fun (H0 : Hp) (x0 : Ext H H0) => append_none (P := Tryz.prog) (s := .nilS) (ha.ext x0).rd und22 size2 zero2 rfl (by decide) bytes2 rfl (.inl rfl)
    have g1 := fun b1 b2 => g _ ((Ext.push H b1).pushed b2)
    refine ACalls_body Tryz.func12 rfl (by kernel_rfl) (by kernel_rfl) ?_
    repeat' first
      | (with_reducible first | refine AWp_seq_k (fun K hK => ?_) | refine AWp_ret ?_ | refine AWp_regionE ?_ | refine AWp_drawE (id := 1) [] pn12_1RfN (by kernel_rfl) (by kernel_rfl) ?_)
      | (with_reducible refine And.intro ?_ ?_)
      | (simp only [thenA, inBlockA, reduceIte, Nat.reduceEqDiff])
      | ((with_reducible refine hK _ _ ?_); clear hK)
      | (simp only [ACond, RA, EAtS_def, EAtX_def, wantedA, acall, astep, ev, ofValue, ofAtom, Nat.reduceEqDiff, Nat.reduceAdd, Nat.reduceMul, Nat.reduceSub, reduceCtorEq, reduceIte, aoptEv, abin, aint, ashift, aun, astr, aeqGuard, isConstOp, aconvH, aofStr, aconvSame, isU8, abuildSlice, afill, splice, azeros, Nat.reduceLeDiff, Nat.reduceLT, Int.reduceLE, Int.reduceLT, Int.reduceEq, Int.reduceToNat, Int.reducePow, IntKind.bits, Int.reduceNeg, RB, aalloc, Go.PW.dig_length, tf12RfN, g1])
      | (simp (disch := first | omega | (simp only [RO]; done) | assumption) only [RS, six22, gix22, bst24_e, bst24_0, bst24_01])
      | (simp (disch := (first | omega | (simp only [RO]; done) | assumption | (simp only [RM, Go.PW.dig_length]; done) | (simp only [RL, Go.PW.dig_length]; omega))) only [RD, reduceCtorEq, reduceIte, Go.PW.dig_length, Nat.reduceLeDiff, Nat.reduceAdd, Nat.reduceMul, Int.reduceToNat, tf12RfN, g1])
    all_goals
      (
       (refine AEnd_gen (rs := [.cell 2 24]) rfl ?_)
       (simp only [AEndR, aresults, Fr.put_some, Fr.put_none, fr0_zero, fr0_succ, fr0_nil, Nat.reduceEqDiff, reduceIte])
       (try simp (disch := (first | omega | (simp only [RO]; done) | assumption | (simp only [RM, Go.PW.dig_length]; done) | (simp only [RL, Go.PW.dig_length]; omega))) only [RD, reduceCtorEq, reduceIte, Go.PW.dig_length, Nat.reduceLeDiff, Nat.reduceAdd, Nat.reduceMul, Int.reduceToNat, tf12RfN]))
    all_goals exact ⟨.nilS, rfl, .inl ⟨rfl, rfl⟩, (Ext.push _ _).pushed _⟩
  · exact (Copy_calls n xs a H ha h0 hl).mono fun r H' ⟨h, h1, h2, h3, h4⟩ => ⟨_, h1, .inr ⟨h, .inr rfl, h2, h3⟩, h4⟩
theorem MoNew_calls (n : Nat) (H : Hp) (h8 : n ≤ 8) : ACalls Tryz.prog 27 [.int .i64 (n : Int)] H fun r H' => ∃ b, r = SymA n b ∧ Mo H' b (List.replicate (n * (n + 1) / 2) 0) H.length ∧ Ext H H' := by
  exact (SymNew_calls n H h8).mono fun r H' ⟨h, h1, h2, h3, h4⟩ => ⟨_, h1, .inr ⟨h, .inl (by rw [List.length_replicate]), h2, h3⟩, h4⟩
end Go.Proofs.YtfalfmfkifemeaaGreatDoor
set_option linter.unusedVariables false
set_option linter.unusedSimpArgs false
namespace Go.Proofs.YtfalfmfkifemeaaGreatDoor
open Go.AL Go.PW Go.PD
set_option maxRecDepth 8000
theorem pl_eq : ∀ n i j k l : Fin 9, i < n → j < n → k < n → l < n → (pl n.1 i.1 j.1 = pl n.1 k.1 l.1 ↔ (i = k ∧ j = l) ∨ (i = l ∧ j = k)) := by decide +kernel
theorem ent_set {n : Nat} {xs : List Int} (h8 : n ≤ 8) {i j p q : Nat} (hi : i < n) (hj : j < n) (hp : p < n) (hq : q < n) (hl : pl n i j < xs.length) (v : Int) : ent n (xs.set (pl n i j) v) p q = if (p = i ∧ q = j) ∨ (p = j ∧ q = i) then v else ent n xs p q := by
  unfold ent
  rw [getD_set _ _ hl]
  have h := pl_eq ⟨n, by omega⟩ ⟨p, by omega⟩ ⟨q, by omega⟩ ⟨i, by omega⟩ ⟨j, by omega⟩ hp hq hi hj
  simp only [Fin.mk.injEq] at h
  simp only [h]
theorem Right.set {n : Nat} {xs : List Int} (hr : Right n xs) (i : Nat) {v : Int} (hv : Fit v) : Right n (xs.set i v) := by
  refine ⟨by rw [List.length_set]; exact hr.1, fun x hx => ?_⟩
  rcases List.mem_or_eq_of_mem_set hx with h | h
  · exact hr.2 x h
  · rw [h]; exact hv
section
variable {H : Hp} {a : AV} {xs : List Int} {lo : Nat}
theorem Mo.other (m : Mo H a xs lo) {h : Nat} (hh : h < lo) (hl : h < H.length) (b : Blk) : Mo (H.set h b) a xs lo := by
  rcases m with e | ⟨k, h1, h2, h3⟩
  · exact .inl e
  · exact .inr ⟨k, h1, by rw [hget_set hl, if_neg (by omega)]; exact h2, h3⟩
theorem Mo.low (m : Mo H a xs lo) {lo' : Nat} (h : lo' ≤ lo) : Mo H a xs lo' := by
  rcases m with e | ⟨k, h1, h2, h3⟩
  · exact .inl e
  · exact .inr ⟨k, h1, h2, by omega⟩
end
/-- The block of a matrix. -/
abbrev Sb (n : Int) (a : AV) : Blk := ⟨[.int .i64 n, a], .own, 24⟩
end Go.Proofs.YtfalfmfkifemeaaGreatDoor
set_option linter.unusedVariables false
set_option linter.unusedSimpArgs false
namespace Go.Proofs.YtfalfmfkifemeaaGreatDoor
open Go.AL Go.PW Go.PD
theorem tf42RfP : type_of% (And.intro @tyb2 (And.intro @tyb3 (And.intro @tyb4 (And.intro @tyb22 (And.intro @tyb23 (And.intro @tyb24 (And.intro @tyb31 (And.intro @tyb44 (And.intro @tyb45 (@tyb46)))))))))) := And.intro @tyb2 (And.intro @tyb3 (And.intro @tyb4 (And.intro @tyb22 (And.intro @tyb23 (And.intro @tyb24 (And.intro @tyb31 (And.intro @tyb44 (And.intro @tyb45 (@tyb46)))))))))
abbrev pn42_10RfP : Plan := (.one 0 (.one 1 (.one 2 (.one 3 (.one 4 (.one 5 (.one 7 (.pur 6 (.ext 8 (.one 9 (.one 10 (.one 11 (.one 12 (.one 13 .nil))))))))))))))
set_option maxRecDepth 8000
theorem Sm_of {x : Int} (h : x.natAbs ≤ 2 ^ 1000) : Sm x := by
  unfold Sm
  have h1 : (2 : Int) ^ 1000 < Bs ^ 20 := by decide +kernel
  have h2 : ((2 ^ 1000 : Nat) : Int) = (2 : Int) ^ 1000 := by decide +kernel
  generalize (2 ^ 1000 : Nat) = y at h h2
  rw [← h2] at h1
  omega
theorem Bs_.cells {H : Hp} {s : AV} {x : Int} (h : Bs_ H s x) : s.cells = [s] := AV.cells_one h.one
set_option maxHeartbeats 8000000 in
theorem Diag_calls (n : Nat) (xs : List Int) (a : AV) (v : Int) (H : Hp) (ha : Ints H .i64 a xs) (hr : Right n xs) (hv : -9223372036854775808 ≤ v ∧ v ≤ 9223372036854775807) (hfit : ∀ i, i < n → Fit (ent n xs i i + v)) : ACalls Tryz.prog 42 [SymA n a, .int .i64 v] H fun r H' => ∃ b ys, r = .tup [SymA n b, .int .i64 0] ∧ Mo H' b ys H.length ∧ Right n ys ∧ (∀ p q, p < n → q < n → ent n ys p q = ent n xs p q + if p = q then v else 0) ∧ Ext H H' := by
  have ha1 : a.one = true := ha.rd.one
  have hc : a.cells = [a] := AV.cells_one ha1
  obtain ⟨h8, hlx⟩ := hr.len
  have hd : decide (Right n xs) = true := decide_eq_true hr
  refine ACalls_body Tryz.func42 rfl (by kernel_rfl) (by kernel_rfl) ?_
  refine AWp_seq_k (fun K hQ => ?_)
  repeat' first
    | (with_reducible first | refine AWp_seq_k (fun K hK => ?_) | refine AWp_skip ?_ | refine AWp_regionE ?_ | refine AWp_condI ?_)
    | ((with_reducible refine ECall_intro (symRight_calls _ _ _ _ ((ha.push _).push _) hlx) ?_); rintro _ _ ⟨rfl, rfl⟩)
    | (simp only [thenA, inBlockA, reduceIte, Nat.reduceEqDiff])
    | ((with_reducible refine hK _ _ ?_); clear hK)
    | (simp only [ACond, RA, EAtS_def, EAtX_def, wantedA, acall, astep, ev, ofValue, ofAtom, Nat.reduceEqDiff, Nat.reduceAdd, Nat.reduceMul, Nat.reduceSub, reduceCtorEq, reduceIte, aoptEv, abin, aint, ashift, aun, astr, aeqGuard, isConstOp, aconvH, aofStr, aconvSame, isU8, abuildSlice, afill, splice, azeros, Nat.reduceLeDiff, Nat.reduceLT, Int.reduceLE, Int.reduceLT, Int.reduceEq, Int.reduceToNat, Int.reducePow, IntKind.bits, Int.reduceNeg, RB, aalloc, Go.PW.dig_length, tf42RfP, hd])
    | (simp (disch := first | omega | (simp only [RO]; done) | assumption) only [RS, six22, gix22, six44, gix44, bst24_e, bst24_0, bst24_01, bst46_e, bst46_01])
    | (simp (disch := (first | omega | (simp only [RO]; done) | assumption | (simp only [RM, Go.PW.dig_length]; done) | (simp only [RL, Go.PW.dig_length]; omega))) only [RD, reduceCtorEq, reduceIte, Go.PW.dig_length, Nat.reduceLeDiff, Nat.reduceAdd, Nat.reduceMul, Int.reduceToNat, tf42RfP, hd])
  refine hQ _ _ ?_
  clear hQ
  refine AWp_seq_k (fun K hQ => ?_)
  repeat' first
    | (with_reducible first | refine AWp_seq_k (fun K hK => ?_) | refine AWp_skip ?_ | refine AWp_regionE ?_ | refine AWp_condI ?_)
    | ((with_reducible refine ECall_intro (symRight_calls _ _ _ _ ((ha.push _).push _) hlx) ?_); rintro _ _ ⟨rfl, rfl⟩)
    | (simp only [thenA, inBlockA, reduceIte, Nat.reduceEqDiff])
    | ((with_reducible refine hK _ _ ?_); clear hK)
    | (simp only [ACond, RA, EAtS_def, EAtX_def, wantedA, acall, astep, ev, ofValue, ofAtom, Nat.reduceEqDiff, Nat.reduceAdd, Nat.reduceMul, Nat.reduceSub, reduceCtorEq, reduceIte, aoptEv, abin, aint, ashift, aun, astr, aeqGuard, isConstOp, aconvH, aofStr, aconvSame, isU8, abuildSlice, afill, splice, azeros, Nat.reduceLeDiff, Nat.reduceLT, Int.reduceLE, Int.reduceLT, Int.reduceEq, Int.reduceToNat, Int.reducePow, IntKind.bits, Int.reduceNeg, RB, aalloc, Go.PW.dig_length, tf42RfP, hd])
    | (simp (disch := first | omega | (simp only [RO]; done) | assumption) only [RS, six22, gix22, six44, gix44, bst24_e, bst24_0, bst24_01, bst46_e, bst46_01])
    | (simp (disch := (first | omega | (simp only [RO]; done) | assumption | (simp only [RM, Go.PW.dig_length]; done) | (simp only [RL, Go.PW.dig_length]; omega))) only [RD, reduceCtorEq, reduceIte, Go.PW.dig_length, Nat.reduceLeDiff, Nat.reduceAdd, Nat.reduceMul, Int.reduceToNat, tf42RfP, hd])
  refine hQ _ _ ?_
  clear hQ
  refine AWp_seq_k (fun K2 hK2 => ?_)
  refine AWp_cut (fun fr' H1 => ∃ b, fr' 1 = .int .i64 v ∧ fr' 2 = .ptr H.length 0 ∧ fr' 4 = .ptr (H.length + 1) 0 ∧ hget H1 H.length = some (Sb n b) ∧ hget H1 (H.length + 1) = some (Sb 0 .nilS) ∧ Mo H1 b xs (H.length + 2) ∧ Ext H H1) ?_ (fun fr' H1 h => hK2 _ _ ?_)
  · clear hK2
    repeat' first
      | (with_reducible first | refine AWp_regionE ?_)
      | (simp only [thenA, inBlockA, reduceIte, Nat.reduceEqDiff])
      | (simp only [ACond, RA, EAtS_def, EAtX_def, wantedA, acall, astep, ev, ofValue, ofAtom, Nat.reduceEqDiff, Nat.reduceAdd, Nat.reduceMul, Nat.reduceSub, reduceCtorEq, reduceIte, aoptEv, abin, aint, ashift, aun, astr, aeqGuard, isConstOp, aconvH, aofStr, aconvSame, isU8, abuildSlice, afill, splice, azeros, Nat.reduceLeDiff, Nat.reduceLT, Int.reduceLE, Int.reduceLT, Int.reduceEq, Int.reduceToNat, Int.reducePow, IntKind.bits, Int.reduceNeg, RB, aalloc, Go.PW.dig_length, tf42RfP])
      | (simp (disch := (first | omega | (simp only [RO]; done) | assumption | (simp only [RM, Go.PW.dig_length]; done) | (simp only [RL, Go.PW.dig_length]; omega))) only [RD, reduceCtorEq, reduceIte, Go.PW.dig_length, Nat.reduceLeDiff, Nat.reduceAdd, Nat.reduceMul, Int.reduceToNat, tf42RfP])
    refine ECall_intro (MoCopy_calls n xs a _ ((ha.push _).push _) hlx) ?_
    rintro _ H2 ⟨b, rfl, m, x2⟩
    have hb1 := m.one
    have hcb : b.cells = [b] := AV.cells_one hb1
    have q4 : hget H2 H.length = some (Sb n a) := hget_ext (by rw [hget_old (by simp), hget_at rfl]) x2
    have q8 : hget H2 (H.length + 1) = some (Sb 0 .nilS) := hget_ext (hget_at (by simp)) x2
    have l4 := hget_lt q4
    have m2 : Mo H2 b xs (H.length + 2) := m.low (by simp)
    repeat' first
      | (simp only [thenA, inBlockA, reduceIte, Nat.reduceEqDiff])
      | (simp only [ACond, RA, EAtS_def, EAtX_def, wantedA, acall, astep, ev, ofValue, ofAtom, Nat.reduceEqDiff, Nat.reduceAdd, Nat.reduceMul, Nat.reduceSub, reduceCtorEq, reduceIte, aoptEv, abin, aint, ashift, aun, astr, aeqGuard, isConstOp, aconvH, aofStr, aconvSame, isU8, abuildSlice, afill, splice, azeros, Nat.reduceLeDiff, Nat.reduceLT, Int.reduceLE, Int.reduceLT, Int.reduceEq, Int.reduceToNat, Int.reducePow, IntKind.bits, Int.reduceNeg, RB, aalloc, Go.PW.dig_length, tf42RfP, q4])
      | (simp (disch := first | omega | (simp only [RO]; done) | assumption) only [RS, six22, gix22, six44, gix44, bst24_e, bst24_0, bst24_01, bst46_e, bst46_01])
      | (simp (disch := (first | omega | (simp only [RO]; done) | assumption | (simp only [RM, Go.PW.dig_length]; done) | (simp only [RL, Go.PW.dig_length]; omega))) only [RD, reduceCtorEq, reduceIte, Go.PW.dig_length, Nat.reduceLeDiff, Nat.reduceAdd, Nat.reduceMul, Int.reduceToNat, tf42RfP, q4])
    all_goals
      exact ⟨b, by rw [hget_set l4, if_pos rfl], by rw [hget_set l4, if_neg (by omega)]; exact q8, m2.other (by omega) l4 _, (((Ext.push _ _).pushed _).trans x2).set (by omega) _⟩
  clear hK2
  obtain ⟨b, k1, k2, k4, q2, q4, m, x1⟩ := h
  have hb1 := m.one
  have hcb : b.cells = [b] := AV.cells_one hb1
  repeat' first
    | (with_reducible first | refine AWp_seq_k (fun K hK => ?_) | refine AWp_block ?_ | refine AWp_regionE ?_)
    | (simp only [thenA, inBlockA, reduceIte, Nat.reduceEqDiff])
    | ((with_reducible refine hK _ _ ?_); clear hK)
    | (simp only [ACond, RA, EAtS_def, EAtX_def, wantedA, acall, astep, ev, ofValue, ofAtom, Nat.reduceEqDiff, Nat.reduceAdd, Nat.reduceMul, Nat.reduceSub, reduceCtorEq, reduceIte, aoptEv, abin, aint, ashift, aun, astr, aeqGuard, isConstOp, aconvH, aofStr, aconvSame, isU8, abuildSlice, afill, splice, azeros, Nat.reduceLeDiff, Nat.reduceLT, Int.reduceLE, Int.reduceLT, Int.reduceEq, Int.reduceToNat, Int.reducePow, IntKind.bits, Int.reduceNeg, RB, aalloc, Go.PW.dig_length, tf42RfP, k1, k2, k4, q2, q4])
  refine AWp_loop (fun c fr' H1 => ∃ (i : Nat) (ys : List Int), c = n - i ∧ i ≤ n ∧ fr' 1 = .int .i64 v ∧ fr' 2 = .ptr H.length 0 ∧ fr' 4 = .ptr (H.length + 1) 0 ∧ fr' 6 = .int .i64 (i : Int) ∧ hget H1 H.length = some (Sb n b) ∧ hget H1 (H.length + 1) = some (Sb 0 .nilS) ∧ Mo H1 b ys (H.length + 2) ∧ Right n ys ∧ (∀ p q, p < n → q < n → ent n ys p q = ent n xs p q + if p = q ∧ p < i then v else 0) ∧ Ext H H1) (m := n)
    ⟨0, xs, by omega, by omega, k1, k2, k4, rfl, q2, q4, m, hr, fun p q _ _ => by rw [if_neg (by omega), Int.add_zero], x1⟩ ?_
  clear k1 k2 k4 q2 q4 m x1
  rintro c fr' H1 ⟨i, ys, rfl, hi, k1, k2, k4, k6, q2, q4, m, hry, hy, x1⟩
  have e1 : IntKind.i64.wrap ((i : Int) + 1) = ((i + 1 : Nat) : Int) := by rw [wrap_i64_id (by omega) (by omega)]; omega
  by_cases hlt : i < n
  · have hpl := (hry.pl hlt hlt).2
    have hei : ent n ys i i = ent n xs i i := by rw [hy i i hlt hlt, if_neg (by omega), Int.add_zero]
    have hfe := ent_fit hr hlt hlt
    have hfi := hfit i hlt
    unfold Fit at hfe hfi
    have hAt := refAt_calls n ys b i i H1 m.ints hry hlt hlt
    rw [hei] at hAt
    repeat' first
      | (with_reducible first | refine AWp_seq_k (fun K hK => ?_) | refine AWp_block ?_ | refine AWp_skip ?_ | refine AWp_regionE ?_ | refine AWp_condI ?_)
      | ((with_reducible refine ECall_intro (hAt) ?_); rintro _ _ ⟨rfl, rfl⟩)
      | (with_reducible refine AIte (fun hc => ?_) (fun hc => ?_) <;> (try simp only [RC] at hc) <;> (try (exfalso; first | omega | contradiction)))
      | (simp only [thenA, inBlockA, reduceIte, Nat.reduceEqDiff])
      | ((with_reducible refine hK _ _ ?_); clear hK)
      | (simp only [ACond, RA, EAtS_def, EAtX_def, wantedA, acall, astep, ev, ofValue, ofAtom, Nat.reduceEqDiff, Nat.reduceAdd, Nat.reduceMul, Nat.reduceSub, reduceCtorEq, reduceIte, aoptEv, abin, aint, ashift, aun, astr, aeqGuard, isConstOp, aconvH, aofStr, aconvSame, isU8, abuildSlice, afill, splice, azeros, Nat.reduceLeDiff, Nat.reduceLT, Int.reduceLE, Int.reduceLT, Int.reduceEq, Int.reduceToNat, Int.reducePow, IntKind.bits, Int.reduceNeg, RB, aalloc, Go.PW.dig_length, tf42RfP, k1, k2, k4, k6, q2, q4])
      | (simp (disch := (first | omega | (simp only [RO]; done) | assumption | (simp only [RM, Go.PW.dig_length]; done) | (simp only [RL, Go.PW.dig_length]; omega))) only [RD, reduceCtorEq, reduceIte, Go.PW.dig_length, Nat.reduceLeDiff, Nat.reduceAdd, Nat.reduceMul, Int.reduceToNat, tf42RfP, k1, k2, k4, k6, q2, q4])
    refine ECall_intro (Of_calls (ent n xs i i) _ (by omega)) ?_
    rintro _ H2 ⟨s, rfl, S, x2⟩
    repeat' first
      | (simp only [ACond, RA, EAtS_def, EAtX_def, wantedA, acall, astep, ev, ofValue, ofAtom, Nat.reduceEqDiff, Nat.reduceAdd, Nat.reduceMul, Nat.reduceSub, reduceCtorEq, reduceIte, aoptEv, abin, aint, ashift, aun, astr, aeqGuard, isConstOp, aconvH, aofStr, aconvSame, isU8, abuildSlice, afill, splice, azeros, Nat.reduceLeDiff, Nat.reduceLT, Int.reduceLE, Int.reduceLT, Int.reduceEq, Int.reduceToNat, Int.reducePow, IntKind.bits, Int.reduceNeg, RB, aalloc, Go.PW.dig_length, tf42RfP, k1])
    refine ECall_intro (Of_calls v _ hv) ?_
    rintro _ H3 ⟨t, rfl, T, x3⟩
    repeat' first
      | (simp only [ACond, RA, EAtS_def, EAtX_def, wantedA, acall, astep, ev, ofValue, ofAtom, Nat.reduceEqDiff, Nat.reduceAdd, Nat.reduceMul, Nat.reduceSub, reduceCtorEq, reduceIte, aoptEv, abin, aint, ashift, aun, astr, aeqGuard, isConstOp, aconvH, aofStr, aconvSame, isU8, abuildSlice, afill, splice, azeros, Nat.reduceLeDiff, Nat.reduceLT, Int.reduceLE, Int.reduceLT, Int.reduceEq, Int.reduceToNat, Int.reducePow, IntKind.bits, Int.reduceNeg, RB, aalloc, Go.PW.dig_length, tf42RfP])
    refine ECall_intro (Radd_calls (ent n xs i i) v s t _ (S.ext x3) T (Sm.int (by omega)) (Sm.int hv)) ?_
    rintro _ H4 ⟨u, rfl, U, x4⟩
    have hu1 : u.one = true := U.one
    have hcu : u.cells = [u] := AV.cells_one hu1
    have x5 : Ext H1 H4 := (x2.trans x3).trans x4
    have m5 := (m.ext x5).push ⟨[.bool (decide (ent n xs i i + v < 0)), u], .own, 46⟩
    have U5 := U.push ⟨[.bool (decide (ent n xs i i + v < 0)), u], .own, 46⟩
    have q25 := hget_ext q2 (x5.pushed ⟨[.bool (decide (ent n xs i i + v < 0)), u], .own, 46⟩)
    have q45 := hget_ext q4 (x5.pushed ⟨[.bool (decide (ent n xs i i + v < 0)), u], .own, 46⟩)
    have hft : decide (((ent n xs i i + v).natAbs : Int) ≤ 1073741824) = true := decide_eq_true (by omega)
    have hF := Fits_calls (ent n xs i i + v) 1073741824 u _ U5 (Sm.int (by omega)) (by omega)
    rw [hft] at hF
    have hI := Int64_calls (ent n xs i i + v) u _ U5 (by omega)
    have hat := m5.at_ (k := .i64) (i := pl n i i) (by omega)
    have hput := m5.put (i := pl n i i) (by omega) (ent n xs i i + v)
    obtain ⟨g1, g2⟩ := m5.hd (i := pl n i i) (by omega)
    have lb := hget_lt g1
    have hset := hget_set lb (Ib (ys.set (pl n i i) (ent n xs i i + v)))
    have n1 : (H.length = b.hd) = False := eq_false (by omega)
    have n2 : (H.length + 1 = b.hd) = False := eq_false (by omega)
    repeat' first
      | (with_reducible first | refine AWp_seq_k (fun K hK => ?_) | refine AWp_skip ?_ | refine AWp_regionE ?_ | refine AWp_drawE (id := 10) [6, 8] pn42_10RfP (by kernel_rfl) (by kernel_rfl) ?_ | refine AWp_condI ?_ | refine Run_pur ?_ | refine Run_ext ?_)
      | (with_reducible refine EExt_sure (hI) ?_)
      | (with_reducible refine EPure_intro (fun _ x => (at_calls _ _ _ _ h8 hlt hlt)) ?_)
      | ((with_reducible refine ECall_intro (hF) ?_); rintro _ _ ⟨rfl, rfl⟩)
      | (simp only [thenA, inBlockA, reduceIte, Nat.reduceEqDiff])
      | ((with_reducible refine hK _ _ ?_); clear hK)
      | (simp only [ACond, RA, EAtS_def, EAtX_def, wantedA, acall, astep, ev, ofValue, ofAtom, Nat.reduceEqDiff, Nat.reduceAdd, Nat.reduceMul, Nat.reduceSub, reduceCtorEq, reduceIte, aoptEv, abin, aint, ashift, aun, astr, aeqGuard, isConstOp, aconvH, aofStr, aconvSame, isU8, abuildSlice, afill, splice, azeros, Nat.reduceLeDiff, Nat.reduceLT, Int.reduceLE, Int.reduceLT, Int.reduceEq, Int.reduceToNat, Int.reducePow, IntKind.bits, Int.reduceNeg, RB, aalloc, Go.PW.dig_length, tf42RfP, k1, k2, k4, k6, q25, q45, hat, hput, e1])
      | (simp (disch := first | omega | (simp only [RO]; done) | assumption) only [RS, six22, gix22, six44, gix44, bst24_e, bst24_0, bst24_01, bst46_e, bst46_01])
      | (simp (disch := (first | omega | (simp only [RO]; done) | assumption | (simp only [RM, Go.PW.dig_length]; done) | (simp only [RL, Go.PW.dig_length]; omega))) only [RD, reduceCtorEq, reduceIte, Go.PW.dig_length, Nat.reduceLeDiff, Nat.reduceAdd, Nat.reduceMul, Int.reduceToNat, tf42RfP, k1, k2, k4, k6, q25, q45, hat, hput, e1])
    all_goals
      refine ⟨_, by omega, i + 1, _, rfl, by omega, rfl, by rw [hset, if_neg (by omega)]; exact q25, by rw [hset, if_neg (by omega)]; exact q45, m5.set (by omega) (by rw [List.length_set]), hry.set _ (by unfold Fit; omega), fun p q hp hq => ?_, (x1.trans (x5.pushed _)).set (by omega) _⟩
      rw [ent_set h8 hlt hlt hp hq (by omega), hy p q hp hq]
      by_cases e : p = i ∧ q = i
      · obtain ⟨rfl, rfl⟩ := e
        rw [if_pos (by omega), if_pos ⟨rfl, by omega⟩]
      · rw [if_neg (by omega)]
        congr 1
        have : (p = q ∧ p < i) ↔ (p = q ∧ p < i + 1) := by omega
        simp only [this]
  · obtain rfl : i = n := by omega
    have l4 := hget_lt q4
    repeat' first
      | (with_reducible first | refine AWp_seq_k (fun K hK => ?_) | refine AWp_exit ?_ | refine AWp_ret ?_ | refine AWp_regionE ?_ | refine AWp_condI ?_)
      | (with_reducible refine AIte (fun hc => ?_) (fun hc => ?_) <;> (try simp only [RC] at hc) <;> (try (exfalso; first | omega | contradiction)))
      | (simp only [thenA, inBlockA, reduceIte, Nat.reduceEqDiff])
      | ((with_reducible refine hK _ _ ?_); clear hK)
      | (clear hK; (with_reducible refine hK _ _ ?_); clear hK)
      | (simp only [ACond, RA, EAtS_def, EAtX_def, wantedA, acall, astep, ev, ofValue, ofAtom, Nat.reduceEqDiff, Nat.reduceAdd, Nat.reduceMul, Nat.reduceSub, reduceCtorEq, reduceIte, aoptEv, abin, aint, ashift, aun, astr, aeqGuard, isConstOp, aconvH, aofStr, aconvSame, isU8, abuildSlice, afill, splice, azeros, Nat.reduceLeDiff, Nat.reduceLT, Int.reduceLE, Int.reduceLT, Int.reduceEq, Int.reduceToNat, Int.reducePow, IntKind.bits, Int.reduceNeg, RB, aalloc, Go.PW.dig_length, tf42RfP, k1, k2, k4, k6, q2, q4])
      | (simp (disch := first | omega | (simp only [RO]; done) | assumption) only [RS, six22, gix22, six44, gix44, bst24_e, bst24_0, bst24_01, bst46_e, bst46_01])
      | (simp (disch := (first | omega | (simp only [RO]; done) | assumption | (simp only [RM, Go.PW.dig_length]; done) | (simp only [RL, Go.PW.dig_length]; omega))) only [RD, reduceCtorEq, reduceIte, Go.PW.dig_length, Nat.reduceLeDiff, Nat.reduceAdd, Nat.reduceMul, Int.reduceToNat, tf42RfP, k1, k2, k4, k6, q2, q4])
    all_goals
      (
       (refine AEnd_gen (rs := [.cell 4 24, .tmp 5]) rfl ?_)
       (simp only [AEndR, aresults, Fr.put_some, Fr.put_none, fr0_zero, fr0_succ, fr0_nil, Nat.reduceEqDiff, reduceIte, k4, hget_set l4])
       (try simp (disch := (first | omega | (simp only [RO]; done) | assumption | (simp only [RM, Go.PW.dig_length]; done) | (simp only [RL, Go.PW.dig_length]; omega))) only [RD, reduceCtorEq, reduceIte, Go.PW.dig_length, Nat.reduceLeDiff, Nat.reduceAdd, Nat.reduceMul, Int.reduceToNat, tf42RfP, k4, hget_set l4]))
    all_goals
      refine ⟨b, ys, rfl, (m.other (by omega) l4 _).low (by omega), hry, fun p q hp hq => ?_, x1.set (by omega) _⟩
      rw [hy p q hp hq]
      congr 1
      have : (p = q ∧ p < i) ↔ p = q := by omega
      simp only [this]
end Go.Proofs.YtfalfmfkifemeaaGreatDoor

/- Part 24 of the proof of laws of this seat: lemmas on the model's code, on this program's functions, on numbers. No condition. -/
import Derived.Test.YtfalfmfkifemeaaGreatDoorZSixaw
set_option linter.unusedVariables false
set_option linter.unusedSimpArgs false
namespace Go.Proofs.YtfalfmfkifemeaaGreatDoor
open Go.AL Go.PW Go.PD
theorem tf42RfP : type_of% (And.intro @tyb2 (And.intro @tyb3 (And.intro @tyb4 (And.intro @tyb22 (And.intro @tyb23 (And.intro @tyb24 (And.intro @tyb31 (And.intro @tyb44 (And.intro @tyb45 (@tyb46)))))))))) := And.intro @tyb2 (And.intro @tyb3 (And.intro @tyb4 (And.intro @tyb22 (And.intro @tyb23 (And.intro @tyb24 (And.intro @tyb31 (And.intro @tyb44 (And.intro @tyb45 (@tyb46)))))))))
abbrev pn42_10RfP : Plan := (.one 0 (.one 1 (.one 2 (.one 3 (.one 4 (.one 5 (.one 7 (.pur 6 (.ext 8 (.one 9 (.one 10 (.one 11 (.one 12 (.one 13 .nil))))))))))))))
set_option maxRecDepth 8000
theorem Sm_of {x : Int} (h : x.natAbs ≤ 2 ^ 1000) : Sm x := by
  unfold Sm
  have h1 : (2 : Int) ^ 1000 < Bs ^ 20 := by decide +kernel
  have h2 : ((2 ^ 1000 : Nat) : Int) = (2 : Int) ^ 1000 := by decide +kernel
  generalize (2 ^ 1000 : Nat) = y at h h2
  rw [← h2] at h1
  omega
theorem Bs_.cells {H : Hp} {s : AV} {x : Int} (h : Bs_ H s x) : s.cells = [s] := AV.cells_one h.one
set_option maxHeartbeats 8000000 in
theorem Diag_calls (n : Nat) (xs : List Int) (a : AV) (v : Int) (H : Hp) (ha : Ints H .i64 a xs) (hr : Right n xs) (hv : -9223372036854775808 ≤ v ∧ v ≤ 9223372036854775807) (hfit : ∀ i, i < n → Fit (ent n xs i i + v)) : ACalls Tryz.prog 42 [SymA n a, .int .i64 v] H fun r H' => ∃ b ys, r = .tup [SymA n b, .int .i64 0] ∧ Mo H' b ys H.length ∧ Right n ys ∧ (∀ p q, p < n → q < n → ent n ys p q = ent n xs p q + if p = q then v else 0) ∧ Ext H H' := by
  have ha1 : a.one = true := ha.rd.one
  have hc : a.cells = [a] := AV.cells_one ha1
  obtain ⟨h8, hlx⟩ := hr.len
  have hd : decide (Right n xs) = true := decide_eq_true hr
  refine ACalls_body Tryz.func42 rfl (by kernel_rfl) (by kernel_rfl) ?_
  refine AWp_seq_k (fun K hQ => ?_)
  repeat' first
    | (with_reducible first | refine AWp_seq_k (fun K hK => ?_) | refine AWp_skip ?_ | refine AWp_regionE ?_ | refine AWp_condI ?_)
    | ((with_reducible refine ECall_intro (symRight_calls _ _ _ _ ((ha.push _).push _) hlx) ?_); rintro _ _ ⟨rfl, rfl⟩)
    | (simp only [thenA, inBlockA, reduceIte, Nat.reduceEqDiff])
    | ((with_reducible refine hK _ _ ?_); clear hK)
    | (simp only [ACond, RA, EAtS_def, EAtX_def, wantedA, acall, astep, ev, ofValue, ofAtom, Nat.reduceEqDiff, Nat.reduceAdd, Nat.reduceMul, Nat.reduceSub, reduceCtorEq, reduceIte, aoptEv, abin, aint, ashift, aun, astr, aeqGuard, isConstOp, aconvH, aofStr, aconvSame, isU8, abuildSlice, afill, splice, azeros, Nat.reduceLeDiff, Nat.reduceLT, Int.reduceLE, Int.reduceLT, Int.reduceEq, Int.reduceToNat, Int.reducePow, IntKind.bits, Int.reduceNeg, RB, aalloc, Go.PW.dig_length, tf42RfP, hd])
    | (simp (disch := first | omega | (simp only [RO]; done) | assumption) only [RS, six22, gix22, six44, gix44, bst24_e, bst24_0, bst24_01, bst46_e, bst46_01])
    | (simp (disch := (first | omega | (simp only [RO]; done) | assumption | (simp only [RM, Go.PW.dig_length]; done) | (simp only [RL, Go.PW.dig_length]; omega))) only [RD, reduceCtorEq, reduceIte, Go.PW.dig_length, Nat.reduceLeDiff, Nat.reduceAdd, Nat.reduceMul, Int.reduceToNat, tf42RfP, hd])
  refine hQ _ _ ?_
  clear hQ
  refine AWp_seq_k (fun K hQ => ?_)
  repeat' first
    | (with_reducible first | refine AWp_seq_k (fun K hK => ?_) | refine AWp_skip ?_ | refine AWp_regionE ?_ | refine AWp_condI ?_)
    | ((with_reducible refine ECall_intro (symRight_calls _ _ _ _ ((ha.push _).push _) hlx) ?_); rintro _ _ ⟨rfl, rfl⟩)
    | (simp only [thenA, inBlockA, reduceIte, Nat.reduceEqDiff])
    | ((with_reducible refine hK _ _ ?_); clear hK)
    | (simp only [ACond, RA, EAtS_def, EAtX_def, wantedA, acall, astep, ev, ofValue, ofAtom, Nat.reduceEqDiff, Nat.reduceAdd, Nat.reduceMul, Nat.reduceSub, reduceCtorEq, reduceIte, aoptEv, abin, aint, ashift, aun, astr, aeqGuard, isConstOp, aconvH, aofStr, aconvSame, isU8, abuildSlice, afill, splice, azeros, Nat.reduceLeDiff, Nat.reduceLT, Int.reduceLE, Int.reduceLT, Int.reduceEq, Int.reduceToNat, Int.reducePow, IntKind.bits, Int.reduceNeg, RB, aalloc, Go.PW.dig_length, tf42RfP, hd])
    | (simp (disch := first | omega | (simp only [RO]; done) | assumption) only [RS, six22, gix22, six44, gix44, bst24_e, bst24_0, bst24_01, bst46_e, bst46_01])
    | (simp (disch := (first | omega | (simp only [RO]; done) | assumption | (simp only [RM, Go.PW.dig_length]; done) | (simp only [RL, Go.PW.dig_length]; omega))) only [RD, reduceCtorEq, reduceIte, Go.PW.dig_length, Nat.reduceLeDiff, Nat.reduceAdd, Nat.reduceMul, Int.reduceToNat, tf42RfP, hd])
  refine hQ _ _ ?_
  clear hQ
  refine AWp_seq_k (fun K2 hK2 => ?_)
  refine AWp_cut (fun fr' H1 => ∃ b, fr' 1 = .int .i64 v ∧ fr' 2 = .ptr H.length 0 ∧ fr' 4 = .ptr (H.length + 1) 0 ∧ hget H1 H.length = some (Sb n b) ∧ hget H1 (H.length + 1) = some (Sb 0 .nilS) ∧ Mo H1 b xs (H.length + 2) ∧ Ext H H1) ?_ (fun fr' H1 h => hK2 _ _ ?_)
  · clear hK2
    repeat' first
      | (with_reducible first | refine AWp_regionE ?_)
      | (simp only [thenA, inBlockA, reduceIte, Nat.reduceEqDiff])
      | (simp only [ACond, RA, EAtS_def, EAtX_def, wantedA, acall, astep, ev, ofValue, ofAtom, Nat.reduceEqDiff, Nat.reduceAdd, Nat.reduceMul, Nat.reduceSub, reduceCtorEq, reduceIte, aoptEv, abin, aint, ashift, aun, astr, aeqGuard, isConstOp, aconvH, aofStr, aconvSame, isU8, abuildSlice, afill, splice, azeros, Nat.reduceLeDiff, Nat.reduceLT, Int.reduceLE, Int.reduceLT, Int.reduceEq, Int.reduceToNat, Int.reducePow, IntKind.bits, Int.reduceNeg, RB, aalloc, Go.PW.dig_length, tf42RfP])
      | (simp (disch := (first | omega | (simp only [RO]; done) | assumption | (simp only [RM, Go.PW.dig_length]; done) | (simp only [RL, Go.PW.dig_length]; omega))) only [RD, reduceCtorEq, reduceIte, Go.PW.dig_length, Nat.reduceLeDiff, Nat.reduceAdd, Nat.reduceMul, Int.reduceToNat, tf42RfP])
    refine ECall_intro (MoCopy_calls n xs a _ ((ha.push _).push _) hlx) ?_
    rintro _ H2 ⟨b, rfl, m, x2⟩
    have hb1 := m.one
    have hcb : b.cells = [b] := AV.cells_one hb1
    have q4 : hget H2 H.length = some (Sb n a) := hget_ext (by rw [hget_old (by simp), hget_at rfl]) x2
    have q8 : hget H2 (H.length + 1) = some (Sb 0 .nilS) := hget_ext (hget_at (by simp)) x2
    have l4 := hget_lt q4
    have m2 : Mo H2 b xs (H.length + 2) := m.low (by simp)
    repeat' first
      | (simp only [thenA, inBlockA, reduceIte, Nat.reduceEqDiff])
      | (simp only [ACond, RA, EAtS_def, EAtX_def, wantedA, acall, astep, ev, ofValue, ofAtom, Nat.reduceEqDiff, Nat.reduceAdd, Nat.reduceMul, Nat.reduceSub, reduceCtorEq, reduceIte, aoptEv, abin, aint, ashift, aun, astr, aeqGuard, isConstOp, aconvH, aofStr, aconvSame, isU8, abuildSlice, afill, splice, azeros, Nat.reduceLeDiff, Nat.reduceLT, Int.reduceLE, Int.reduceLT, Int.reduceEq, Int.reduceToNat, Int.reducePow, IntKind.bits, Int.reduceNeg, RB, aalloc, Go.PW.dig_length, tf42RfP, q4])
      | (simp (disch := first | omega | (simp only [RO]; done) | assumption) only [RS, six22, gix22, six44, gix44, bst24_e, bst24_0, bst24_01, bst46_e, bst46_01])
      | (simp (disch := (first | omega | (simp only [RO]; done) | assumption | (simp only [RM, Go.PW.dig_length]; done) | (simp only [RL, Go.PW.dig_length]; omega))) only [RD, reduceCtorEq, reduceIte, Go.PW.dig_length, Nat.reduceLeDiff, Nat.reduceAdd, Nat.reduceMul, Int.reduceToNat, tf42RfP, q4])
    all_goals
      exact ⟨b, by rw [hget_set l4, if_pos rfl], by rw [hget_set l4, if_neg (by omega)]; exact q8, m2.other (by omega) l4 _, (((Ext.push _ _).pushed _).trans x2).set (by omega) _⟩
  clear hK2
  obtain ⟨b, k1, k2, k4, q2, q4, m, x1⟩ := h
  have hb1 := m.one
  have hcb : b.cells = [b] := AV.cells_one hb1
  repeat' first
    | (with_reducible first | refine AWp_seq_k (fun K hK => ?_) | refine AWp_block ?_ | refine AWp_regionE ?_)
    | (simp only [thenA, inBlockA, reduceIte, Nat.reduceEqDiff])
    | ((with_reducible refine hK _ _ ?_); clear hK)
    | (simp only [ACond, RA, EAtS_def, EAtX_def, wantedA, acall, astep, ev, ofValue, ofAtom, Nat.reduceEqDiff, Nat.reduceAdd, Nat.reduceMul, Nat.reduceSub, reduceCtorEq, reduceIte, aoptEv, abin, aint, ashift, aun, astr, aeqGuard, isConstOp, aconvH, aofStr, aconvSame, isU8, abuildSlice, afill, splice, azeros, Nat.reduceLeDiff, Nat.reduceLT, Int.reduceLE, Int.reduceLT, Int.reduceEq, Int.reduceToNat, Int.reducePow, IntKind.bits, Int.reduceNeg, RB, aalloc, Go.PW.dig_length, tf42RfP, k1, k2, k4, q2, q4])
  refine AWp_loop (fun c fr' H1 => ∃ (i : Nat) (ys : List Int), c = n - i ∧ i ≤ n ∧ fr' 1 = .int .i64 v ∧ fr' 2 = .ptr H.length 0 ∧ fr' 4 = .ptr (H.length + 1) 0 ∧ fr' 6 = .int .i64 (i : Int) ∧ hget H1 H.length = some (Sb n b) ∧ hget H1 (H.length + 1) = some (Sb 0 .nilS) ∧ Mo H1 b ys (H.length + 2) ∧ Right n ys ∧ (∀ p q, p < n → q < n → ent n ys p q = ent n xs p q + if p = q ∧ p < i then v else 0) ∧ Ext H H1) (m := n)
    ⟨0, xs, by omega, by omega, k1, k2, k4, rfl, q2, q4, m, hr, fun p q _ _ => by rw [if_neg (by omega), Int.add_zero], x1⟩ ?_
  clear k1 k2 k4 q2 q4 m x1
  rintro c fr' H1 ⟨i, ys, rfl, hi, k1, k2, k4, k6, q2, q4, m, hry, hy, x1⟩
  have e1 : IntKind.i64.wrap ((i : Int) + 1) = ((i + 1 : Nat) : Int) := by rw [wrap_i64_id (by omega) (by omega)]; omega
  by_cases hlt : i < n
  · have hpl := (hry.pl hlt hlt).2
    have hei : ent n ys i i = ent n xs i i := by rw [hy i i hlt hlt, if_neg (by omega), Int.add_zero]
    have hfe := ent_fit hr hlt hlt
    have hfi := hfit i hlt
    unfold Fit at hfe hfi
    have hAt := refAt_calls n ys b i i H1 m.ints hry hlt hlt
    rw [hei] at hAt
    repeat' first
      | (with_reducible first | refine AWp_seq_k (fun K hK => ?_) | refine AWp_block ?_ | refine AWp_skip ?_ | refine AWp_regionE ?_ | refine AWp_condI ?_)
      | ((with_reducible refine ECall_intro (hAt) ?_); rintro _ _ ⟨rfl, rfl⟩)
      | (with_reducible refine AIte (fun hc => ?_) (fun hc => ?_) <;> (try simp only [RC] at hc) <;> (try (exfalso; first | omega | contradiction)))
      | (simp only [thenA, inBlockA, reduceIte, Nat.reduceEqDiff])
      | ((with_reducible refine hK _ _ ?_); clear hK)
      | (simp only [ACond, RA, EAtS_def, EAtX_def, wantedA, acall, astep, ev, ofValue, ofAtom, Nat.reduceEqDiff, Nat.reduceAdd, Nat.reduceMul, Nat.reduceSub, reduceCtorEq, reduceIte, aoptEv, abin, aint, ashift, aun, astr, aeqGuard, isConstOp, aconvH, aofStr, aconvSame, isU8, abuildSlice, afill, splice, azeros, Nat.reduceLeDiff, Nat.reduceLT, Int.reduceLE, Int.reduceLT, Int.reduceEq, Int.reduceToNat, Int.reducePow, IntKind.bits, Int.reduceNeg, RB, aalloc, Go.PW.dig_length, tf42RfP, k1, k2, k4, k6, q2, q4])
      | (simp (disch := (first | omega | (simp only [RO]; done) | assumption | (simp only [RM, Go.PW.dig_length]; done) | (simp only [RL, Go.PW.dig_length]; omega))) only [RD, reduceCtorEq, reduceIte, Go.PW.dig_length, Nat.reduceLeDiff, Nat.reduceAdd, Nat.reduceMul, Int.reduceToNat, tf42RfP, k1, k2, k4, k6, q2, q4])
    refine ECall_intro (Of_calls (ent n xs i i) _ (by omega)) ?_
    rintro _ H2 ⟨s, rfl, S, x2⟩
    repeat' first
      | (simp only [ACond, RA, EAtS_def, EAtX_def, wantedA, acall, astep, ev, ofValue, ofAtom, Nat.reduceEqDiff, Nat.reduceAdd, Nat.reduceMul, Nat.reduceSub, reduceCtorEq, reduceIte, aoptEv, abin, aint, ashift, aun, astr, aeqGuard, isConstOp, aconvH, aofStr, aconvSame, isU8, abuildSlice, afill, splice, azeros, Nat.reduceLeDiff, Nat.reduceLT, Int.reduceLE, Int.reduceLT, Int.reduceEq, Int.reduceToNat, Int.reducePow, IntKind.bits, Int.reduceNeg, RB, aalloc, Go.PW.dig_length, tf42RfP, k1])
    refine ECall_intro (Of_calls v _ hv) ?_
    rintro _ H3 ⟨t, rfl, T, x3⟩
    repeat' first
      | (simp only [ACond, RA, EAtS_def, EAtX_def, wantedA, acall, astep, ev, ofValue, ofAtom, Nat.reduceEqDiff, Nat.reduceAdd, Nat.reduceMul, Nat.reduceSub, reduceCtorEq, reduceIte, aoptEv, abin, aint, ashift, aun, astr, aeqGuard, isConstOp, aconvH, aofStr, aconvSame, isU8, abuildSlice, afill, splice, azeros, Nat.reduceLeDiff, Nat.reduceLT, Int.reduceLE, Int.reduceLT, Int.reduceEq, Int.reduceToNat, Int.reducePow, IntKind.bits, Int.reduceNeg, RB, aalloc, Go.PW.dig_length, tf42RfP])
    refine ECall_intro (Radd_calls (ent n xs i i) v s t _ (S.ext x3) T (Sm.int (by omega)) (Sm.int hv)) ?_
    rintro _ H4 ⟨u, rfl, U, x4⟩
    have hu1 : u.one = true := U.one
    have hcu : u.cells = [u] := AV.cells_one hu1
    have x5 : Ext H1 H4 := (x2.trans x3).trans x4
    have m5 := (m.ext x5).push ⟨[.bool (decide (ent n xs i i + v < 0)), u], .own, 46⟩
    have U5 := U.push ⟨[.bool (decide (ent n xs i i + v < 0)), u], .own, 46⟩
    have q25 := hget_ext q2 (x5.pushed ⟨[.bool (decide (ent n xs i i + v < 0)), u], .own, 46⟩)
    have q45 := hget_ext q4 (x5.pushed ⟨[.bool (decide (ent n xs i i + v < 0)), u], .own, 46⟩)
    have hft : decide (((ent n xs i i + v).natAbs : Int) ≤ 1073741824) = true := decide_eq_true (by omega)
    have hF := Fits_calls (ent n xs i i + v) 1073741824 u _ U5 (Sm.int (by omega)) (by omega)
    rw [hft] at hF
    have hI := Int64_calls (ent n xs i i + v) u _ U5 (by omega)
    have hat := m5.at_ (k := .i64) (i := pl n i i) (by omega)
    have hput := m5.put (i := pl n i i) (by omega) (ent n xs i i + v)
    obtain ⟨g1, g2⟩ := m5.hd (i := pl n i i) (by omega)
    have lb := hget_lt g1
    have hset := hget_set lb (Ib (ys.set (pl n i i) (ent n xs i i + v)))
    have n1 : (H.length = b.hd) = False := eq_false (by omega)
    have n2 : (H.length + 1 = b.hd) = False := eq_false (by omega)
    repeat' first
      | (with_reducible first | refine AWp_seq_k (fun K hK => ?_) | refine AWp_skip ?_ | refine AWp_regionE ?_ | refine AWp_drawE (id := 10) [6, 8] pn42_10RfP (by kernel_rfl) (by kernel_rfl) ?_ | refine AWp_condI ?_ | refine Run_pur ?_ | refine Run_ext ?_)
      | (with_reducible refine EExt_sure (hI) ?_)
      | (with_reducible refine EPure_intro (fun _ x => (at_calls _ _ _ _ h8 hlt hlt)) ?_)
      | ((with_reducible refine ECall_intro (hF) ?_); rintro _ _ ⟨rfl, rfl⟩)
      | (simp only [thenA, inBlockA, reduceIte, Nat.reduceEqDiff])
      | ((with_reducible refine hK _ _ ?_); clear hK)
      | (simp only [ACond, RA, EAtS_def, EAtX_def, wantedA, acall, astep, ev, ofValue, ofAtom, Nat.reduceEqDiff, Nat.reduceAdd, Nat.reduceMul, Nat.reduceSub, reduceCtorEq, reduceIte, aoptEv, abin, aint, ashift, aun, astr, aeqGuard, isConstOp, aconvH, aofStr, aconvSame, isU8, abuildSlice, afill, splice, azeros, Nat.reduceLeDiff, Nat.reduceLT, Int.reduceLE, Int.reduceLT, Int.reduceEq, Int.reduceToNat, Int.reducePow, IntKind.bits, Int.reduceNeg, RB, aalloc, Go.PW.dig_length, tf42RfP, k1, k2, k4, k6, q25, q45, hat, hput, e1])
      | (simp (disch := first | omega | (simp only [RO]; done) | assumption) only [RS, six22, gix22, six44, gix44, bst24_e, bst24_0, bst24_01, bst46_e, bst46_01])
      | (simp (disch := (first | omega | (simp only [RO]; done) | assumption | (simp only [RM, Go.PW.dig_length]; done) | (simp only [RL, Go.PW.dig_length]; omega))) only [RD, reduceCtorEq, reduceIte, Go.PW.dig_length, Nat.reduceLeDiff, Nat.reduceAdd, Nat.reduceMul, Int.reduceToNat, tf42RfP, k1, k2, k4, k6, q25, q45, hat, hput, e1])
    all_goals
      refine ⟨_, by omega, i + 1, _, rfl, by omega, rfl, by rw [hset, if_neg (by omega)]; exact q25, by rw [hset, if_neg (by omega)]; exact q45, m5.set (by omega) (by rw [List.length_set]), hry.set _ (by unfold Fit; omega), fun p q hp hq => ?_, (x1.trans (x5.pushed _)).set (by omega) _⟩
      rw [ent_set h8 hlt hlt hp hq (by omega), hy p q hp hq]
      by_cases e : p = i ∧ q = i
      · obtain ⟨rfl, rfl⟩ := e
        rw [if_pos (by omega), if_pos ⟨rfl, by omega⟩]
      · rw [if_neg (by omega)]
        congr 1
        have : (p = q ∧ p < i) ↔ (p = q ∧ p < i + 1) := by omega
        simp only [this]
  · obtain rfl : i = n := by omega
    have l4 := hget_lt q4
    repeat' first
      | (with_reducible first | refine AWp_seq_k (fun K hK => ?_) | refine AWp_exit ?_ | refine AWp_ret ?_ | refine AWp_regionE ?_ | refine AWp_condI ?_)
      | (with_reducible refine AIte (fun hc => ?_) (fun hc => ?_) <;> (try simp only [RC] at hc) <;> (try (exfalso; first | omega | contradiction)))
      | (simp only [thenA, inBlockA, reduceIte, Nat.reduceEqDiff])
      | ((with_reducible refine hK _ _ ?_); clear hK)
      | (clear hK; (with_reducible refine hK _ _ ?_); clear hK)
      | (simp only [ACond, RA, EAtS_def, EAtX_def, wantedA, acall, astep, ev, ofValue, ofAtom, Nat.reduceEqDiff, Nat.reduceAdd, Nat.reduceMul, Nat.reduceSub, reduceCtorEq, reduceIte, aoptEv, abin, aint, ashift, aun, astr, aeqGuard, isConstOp, aconvH, aofStr, aconvSame, isU8, abuildSlice, afill, splice, azeros, Nat.reduceLeDiff, Nat.reduceLT, Int.reduceLE, Int.reduceLT, Int.reduceEq, Int.reduceToNat, Int.reducePow, IntKind.bits, Int.reduceNeg, RB, aalloc, Go.PW.dig_length, tf42RfP, k1, k2, k4, k6, q2, q4])
      | (simp (disch := first | omega | (simp only [RO]; done) | assumption) only [RS, six22, gix22, six44, gix44, bst24_e, bst24_0, bst24_01, bst46_e, bst46_01])
      | (simp (disch := (first | omega | (simp only [RO]; done) | assumption | (simp only [RM, Go.PW.dig_length]; done) | (simp only [RL, Go.PW.dig_length]; omega))) only [RD, reduceCtorEq, reduceIte, Go.PW.dig_length, Nat.reduceLeDiff, Nat.reduceAdd, Nat.reduceMul, Int.reduceToNat, tf42RfP, k1, k2, k4, k6, q2, q4])
    all_goals
      (
       (refine AEnd_gen (rs := [.cell 4 24, .tmp 5]) rfl ?_)
       (simp only [AEndR, aresults, Fr.put_some, Fr.put_none, fr0_zero, fr0_succ, fr0_nil, Nat.reduceEqDiff, reduceIte, k4, hget_set l4])
       (try simp (disch := (first | omega | (simp only [RO]; done) | assumption | (simp only [RM, Go.PW.dig_length]; done) | (simp only [RL, Go.PW.dig_length]; omega))) only [RD, reduceCtorEq, reduceIte, Go.PW.dig_length, Nat.reduceLeDiff, Nat.reduceAdd, Nat.reduceMul, Int.reduceToNat, tf42RfP, k4, hget_set l4]))
    all_goals
      refine ⟨b, ys, rfl, (m.other (by omega) l4 _).low (by omega), hry, fun p q hp hq => ?_, x1.set (by omega) _⟩
      rw [hy p q hp hq]
      congr 1
      have : (p = q ∧ p < i) ↔ p = q := by omega
      simp only [this]
end Go.Proofs.YtfalfmfkifemeaaGreatDoor
set_option linter.unusedVariables false
set_option linter.unusedSimpArgs false
namespace Go.Proofs.YtfalfmfkifemeaaGreatDoor
open Go.AL Go.PW Go.PD
theorem tf38RfQ : type_of% (And.intro @tyb2 (And.intro @tyb3 (And.intro @tyb4 (And.intro @tyb22 (And.intro @tyb23 (And.intro @tyb24 (And.intro @tyb31 (And.intro @tyb44 (And.intro @tyb45 (@tyb46)))))))))) := And.intro @tyb2 (And.intro @tyb3 (And.intro @tyb4 (And.intro @tyb22 (And.intro @tyb23 (And.intro @tyb24 (And.intro @tyb31 (And.intro @tyb44 (And.intro @tyb45 (@tyb46)))))))))
abbrev pn38_10RfQ : Plan := (.one 0 (.one 1 (.one 2 (.one 5 (.one 7 (.one 8 (.one 9 (.one 10 (.one 12 (.one 13 (.one 14 (.one 15 (.pur 3 (.alt 20 (.ext 4 (.ext 6 (.ext 11 (.ext 16 (.ext 17 (.ext 18 (.ext 19 (.one 21 .nil)))))))) (.ext 4 (.alt 20 (.ext 6 (.ext 11 (.ext 16 (.ext 17 (.ext 18 (.ext 19 (.one 21 .nil))))))) (.ext 6 (.alt 20 (.ext 11 (.ext 16 (.ext 17 (.ext 18 (.ext 19 (.one 21 .nil)))))) (.ext 11 (.alt 20 (.ext 16 (.ext 17 (.ext 18 (.ext 19 (.one 21 .nil))))) (.ext 16 (.alt 20 (.ext 17 (.ext 18 (.ext 19 (.one 21 .nil)))) (.ext 17 (.alt 20 (.ext 18 (.ext 19 (.one 21 .nil))) (.ext 18 (.alt 20 (.ext 19 (.one 21 .nil)) (.ext 19 (.one 20 (.one 21 .nil)))))))))))))))))))))))))))))
abbrev pn38_13RfQ : Plan := (.one 0 (.one 1 (.one 2 (.one 3 (.one 4 (.one 5 (.one 7 (.pur 6 (.ext 8 (.one 9 (.one 10 (.one 11 (.one 12 (.one 13 .nil))))))))))))))
set_option maxRecDepth 8000
theorem mul_nat {x y : Int} {p q : Nat} (hx : x.natAbs ≤ p) (hy : y.natAbs ≤ q) : (x * y).natAbs ≤ p * q := by
  rw [Int.natAbs_mul]; exact Nat.mul_le_mul hx hy
/-- What was worked into a matrix, up to an entry. -/
def Upto (i j p q : Nat) : Prop := min p q < i ∨ (min p q = i ∧ max p q < j)
instance (i j p q : Nat) : Decidable (Upto i j p q) := by unfold Upto; infer_instance
abbrev zb : Blk := ⟨[.bool false, .nilS], .own, 46⟩
set_option maxHeartbeats 16000000 in
theorem Outer_calls (n : Nat) (xs hs : List Int) (a c : AV) (w : Int) (H : Hp) (ha : Ints H .i64 a xs) (hr : Right n xs) (hh : Ints H .i64 c hs) (hn : hs.length = n) (hw : -9223372036854775808 ≤ w ∧ w ≤ 9223372036854775807) (hhs : ∀ x ∈ hs, -9223372036854775808 ≤ x ∧ x ≤ 9223372036854775807) : ACalls Tryz.prog 38 [SymA n a, .int .i64 w, c] H fun r H' => ((∃ b ys, r = .tup [SymA n b, .int .i64 0] ∧ Mo H' b ys H.length ∧ Right n ys ∧ ∀ p q, p < n → q < n → ent n ys p q = ent n xs p q + w * (hs.getD p 0 * hs.getD q 0)) ∨ r = .tup [SymA 0 .nilS, .int .i64 21]) ∧ Ext H H' := by
  have ha1 : a.one = true := ha.rd.one
  have hc : a.cells = [a] := AV.cells_one ha1
  obtain ⟨h8, hlx⟩ := hr.len
  have hd : decide (Right n xs) = true := decide_eq_true hr
  have hlen := hh.rd.len und22
  rw [hn] at hlen
  refine ACalls_body Tryz.func38 rfl (by kernel_rfl) (by kernel_rfl) ?_
  refine AWp_seq_k (fun K hQ => ?_)
  repeat' first
    | (with_reducible first | refine AWp_seq_k (fun K hK => ?_) | refine AWp_skip ?_ | refine AWp_regionE ?_ | refine AWp_condI ?_)
    | ((with_reducible refine ECall_intro (symRight_calls _ _ _ _ ((ha.push _).push _) hlx) ?_); rintro _ _ ⟨rfl, rfl⟩)
    | (simp only [thenA, inBlockA, reduceIte, Nat.reduceEqDiff])
    | ((with_reducible refine hK _ _ ?_); clear hK)
    | (simp only [ACond, RA, EAtS_def, EAtX_def, wantedA, acall, astep, ev, ofValue, ofAtom, Nat.reduceEqDiff, Nat.reduceAdd, Nat.reduceMul, Nat.reduceSub, reduceCtorEq, reduceIte, aoptEv, abin, aint, ashift, aun, astr, aeqGuard, isConstOp, aconvH, aofStr, aconvSame, isU8, abuildSlice, afill, splice, azeros, Nat.reduceLeDiff, Nat.reduceLT, Int.reduceLE, Int.reduceLT, Int.reduceEq, Int.reduceToNat, Int.reducePow, IntKind.bits, Int.reduceNeg, RB, aalloc, Go.PW.dig_length, tf38RfQ, hd, hlen])
    | (simp (disch := first | omega | (simp only [RO]; done) | assumption) only [RS, six22, gix22, six44, gix44, bst24_e, bst24_0, bst24_01, bst46_e, bst46_01])
    | (simp (disch := (first | omega | (simp only [RO]; done) | assumption | (simp only [RM, Go.PW.dig_length]; done) | (simp only [RL, Go.PW.dig_length]; omega))) only [RD, reduceCtorEq, reduceIte, Go.PW.dig_length, Nat.reduceLeDiff, Nat.reduceAdd, Nat.reduceMul, Int.reduceToNat, tf38RfQ, hd, hlen])
  refine hQ _ _ ?_
  clear hQ
  refine AWp_seq_k (fun K hQ => ?_)
  repeat' first
    | (with_reducible first | refine AWp_seq_k (fun K hK => ?_) | refine AWp_skip ?_ | refine AWp_regionE ?_ | refine AWp_condI ?_)
    | ((with_reducible refine ECall_intro (symRight_calls _ _ _ _ ((ha.push _).push _) hlx) ?_); rintro _ _ ⟨rfl, rfl⟩)
    | (simp only [thenA, inBlockA, reduceIte, Nat.reduceEqDiff])
    | ((with_reducible refine hK _ _ ?_); clear hK)
    | (simp only [ACond, RA, EAtS_def, EAtX_def, wantedA, acall, astep, ev, ofValue, ofAtom, Nat.reduceEqDiff, Nat.reduceAdd, Nat.reduceMul, Nat.reduceSub, reduceCtorEq, reduceIte, aoptEv, abin, aint, ashift, aun, astr, aeqGuard, isConstOp, aconvH, aofStr, aconvSame, isU8, abuildSlice, afill, splice, azeros, Nat.reduceLeDiff, Nat.reduceLT, Int.reduceLE, Int.reduceLT, Int.reduceEq, Int.reduceToNat, Int.reducePow, IntKind.bits, Int.reduceNeg, RB, aalloc, Go.PW.dig_length, tf38RfQ, hd, hlen])
    | (simp (disch := first | omega | (simp only [RO]; done) | assumption) only [RS, six22, gix22, six44, gix44, bst24_e, bst24_0, bst24_01, bst46_e, bst46_01])
    | (simp (disch := (first | omega | (simp only [RO]; done) | assumption | (simp only [RM, Go.PW.dig_length]; done) | (simp only [RL, Go.PW.dig_length]; omega))) only [RD, reduceCtorEq, reduceIte, Go.PW.dig_length, Nat.reduceLeDiff, Nat.reduceAdd, Nat.reduceMul, Int.reduceToNat, tf38RfQ, hd, hlen])
  refine hQ _ _ ?_
  clear hQ
  refine AWp_seq_k (fun K2 hK2 => ?_)
  refine AWp_cut (fun fr' H1 => ∃ b, fr' 1 = .int .i64 w ∧ fr' 2 = c ∧ fr' 3 = .ptr H.length 0 ∧ fr' 6 = .ptr (H.length + 1) 0 ∧ hget H1 H.length = some (Sb n b) ∧ hget H1 (H.length + 1) = some (Sb 0 .nilS) ∧ Mo H1 b xs (H.length + 2) ∧ Ext H H1) ?_ (fun fr' H1 h => hK2 _ _ ?_)
  · clear hK2
    repeat' first
      | (with_reducible first | refine AWp_regionE ?_)
      | (simp only [thenA, inBlockA, reduceIte, Nat.reduceEqDiff])
      | (simp only [ACond, RA, EAtS_def, EAtX_def, wantedA, acall, astep, ev, ofValue, ofAtom, Nat.reduceEqDiff, Nat.reduceAdd, Nat.reduceMul, Nat.reduceSub, reduceCtorEq, reduceIte, aoptEv, abin, aint, ashift, aun, astr, aeqGuard, isConstOp, aconvH, aofStr, aconvSame, isU8, abuildSlice, afill, splice, azeros, Nat.reduceLeDiff, Nat.reduceLT, Int.reduceLE, Int.reduceLT, Int.reduceEq, Int.reduceToNat, Int.reducePow, IntKind.bits, Int.reduceNeg, RB, aalloc, Go.PW.dig_length, tf38RfQ])
      | (simp (disch := (first | omega | (simp only [RO]; done) | assumption | (simp only [RM, Go.PW.dig_length]; done) | (simp only [RL, Go.PW.dig_length]; omega))) only [RD, reduceCtorEq, reduceIte, Go.PW.dig_length, Nat.reduceLeDiff, Nat.reduceAdd, Nat.reduceMul, Int.reduceToNat, tf38RfQ])
    refine ECall_intro (MoCopy_calls n xs a _ ((ha.push _).push _) hlx) ?_
    rintro _ H2 ⟨b, rfl, m, x2⟩
    have hb1 := m.one
    have hcb : b.cells = [b] := AV.cells_one hb1
    have q4 : hget H2 H.length = some (Sb n a) := hget_ext (by rw [hget_old (by simp), hget_at rfl]) x2
    have q8 : hget H2 (H.length + 1) = some (Sb 0 .nilS) := hget_ext (hget_at (by simp)) x2
    have l4 := hget_lt q4
    have m2 : Mo H2 b xs (H.length + 2) := m.low (by simp)
    repeat' first
      | (simp only [thenA, inBlockA, reduceIte, Nat.reduceEqDiff])
      | (simp only [ACond, RA, EAtS_def, EAtX_def, wantedA, acall, astep, ev, ofValue, ofAtom, Nat.reduceEqDiff, Nat.reduceAdd, Nat.reduceMul, Nat.reduceSub, reduceCtorEq, reduceIte, aoptEv, abin, aint, ashift, aun, astr, aeqGuard, isConstOp, aconvH, aofStr, aconvSame, isU8, abuildSlice, afill, splice, azeros, Nat.reduceLeDiff, Nat.reduceLT, Int.reduceLE, Int.reduceLT, Int.reduceEq, Int.reduceToNat, Int.reducePow, IntKind.bits, Int.reduceNeg, RB, aalloc, Go.PW.dig_length, tf38RfQ, q4])
      | (simp (disch := first | omega | (simp only [RO]; done) | assumption) only [RS, six22, gix22, six44, gix44, bst24_e, bst24_0, bst24_01, bst46_e, bst46_01])
      | (simp (disch := (first | omega | (simp only [RO]; done) | assumption | (simp only [RM, Go.PW.dig_length]; done) | (simp only [RL, Go.PW.dig_length]; omega))) only [RD, reduceCtorEq, reduceIte, Go.PW.dig_length, Nat.reduceLeDiff, Nat.reduceAdd, Nat.reduceMul, Int.reduceToNat, tf38RfQ, q4])
    all_goals
      exact ⟨b, by rw [hget_set l4, if_pos rfl], by rw [hget_set l4, if_neg (by omega)]; exact q8, m2.other (by omega) l4 _, (((Ext.push _ _).pushed _).trans x2).set (by omega) _⟩
  clear hK2
  obtain ⟨b, k1, k2, k3, k6, q3, q6, m, x1⟩ := h
  have hb1 := m.one
  have hcb : b.cells = [b] := AV.cells_one hb1
  repeat' first
    | (with_reducible first | refine AWp_seq_k (fun K hK => ?_) | refine AWp_block ?_ | refine AWp_regionE ?_)
    | (simp only [thenA, inBlockA, reduceIte, Nat.reduceEqDiff])
    | ((with_reducible refine hK _ _ ?_); clear hK)
    | (simp only [ACond, RA, EAtS_def, EAtX_def, wantedA, acall, astep, ev, ofValue, ofAtom, Nat.reduceEqDiff, Nat.reduceAdd, Nat.reduceMul, Nat.reduceSub, reduceCtorEq, reduceIte, aoptEv, abin, aint, ashift, aun, astr, aeqGuard, isConstOp, aconvH, aofStr, aconvSame, isU8, abuildSlice, afill, splice, azeros, Nat.reduceLeDiff, Nat.reduceLT, Int.reduceLE, Int.reduceLT, Int.reduceEq, Int.reduceToNat, Int.reducePow, IntKind.bits, Int.reduceNeg, RB, aalloc, Go.PW.dig_length, tf38RfQ, k1, k2, k3, k6, q3, q6])
  refine AWp_loop (fun l fr' H1 => ∃ (i : Nat) (ys : List Int), l = n - i ∧ i ≤ n ∧ fr' 1 = .int .i64 w ∧ fr' 2 = c ∧ fr' 3 = .ptr H.length 0 ∧ fr' 6 = .ptr (H.length + 1) 0 ∧ fr' 8 = .int .i64 (i : Int) ∧ hget H1 H.length = some (Sb n b) ∧ hget H1 (H.length + 1) = some (Sb 0 .nilS) ∧ Mo H1 b ys (H.length + 2) ∧ Right n ys ∧ (∀ p q, p < n → q < n → ent n ys p q = ent n xs p q + if Upto i i p q then w * (hs.getD p 0 * hs.getD q 0) else 0) ∧ Ext H H1) (m := n)
    ⟨0, xs, by omega, by omega, k1, k2, k3, k6, rfl, q3, q6, m, hr, fun p q _ _ => by rw [if_neg (by unfold Upto; omega), Int.add_zero], x1⟩ ?_
  clear k1 k2 k3 k6 q3 q6 m x1
  rintro l fr' H1 ⟨i, ys, rfl, hi, k1, k2, k3, k6, k8, q3, q6, m, hry, hy, x1⟩
  have e1 : IntKind.i64.wrap ((i : Int) + 1) = ((i + 1 : Nat) : Int) := by rw [wrap_i64_id (by omega) (by omega)]; omega
  by_cases hlt : i < n
  · skip
    repeat' first
      | (with_reducible first | refine AWp_seq_k (fun K hK => ?_) | refine AWp_block ?_ | refine AWp_skip ?_ | refine AWp_regionE ?_ | refine AWp_condI ?_)
      | (with_reducible refine AIte (fun hc => ?_) (fun hc => ?_) <;> (try simp only [RC] at hc) <;> (try (exfalso; first | omega | contradiction)))
      | (simp only [thenA, inBlockA, reduceIte, Nat.reduceEqDiff])
      | ((with_reducible refine hK _ _ ?_); clear hK)
      | (simp only [ACond, RA, EAtS_def, EAtX_def, wantedA, acall, astep, ev, ofValue, ofAtom, Nat.reduceEqDiff, Nat.reduceAdd, Nat.reduceMul, Nat.reduceSub, reduceCtorEq, reduceIte, aoptEv, abin, aint, ashift, aun, astr, aeqGuard, isConstOp, aconvH, aofStr, aconvSame, isU8, abuildSlice, afill, splice, azeros, Nat.reduceLeDiff, Nat.reduceLT, Int.reduceLE, Int.reduceLT, Int.reduceEq, Int.reduceToNat, Int.reducePow, IntKind.bits, Int.reduceNeg, RB, aalloc, Go.PW.dig_length, tf38RfQ, k1, k2, k3, k6, k8, q3, q6])
      | (simp (disch := (first | omega | (simp only [RO]; done) | assumption | (simp only [RM, Go.PW.dig_length]; done) | (simp only [RL, Go.PW.dig_length]; omega))) only [RD, reduceCtorEq, reduceIte, Go.PW.dig_length, Nat.reduceLeDiff, Nat.reduceAdd, Nat.reduceMul, Int.reduceToNat, tf38RfQ, k1, k2, k3, k6, k8, q3, q6])
    refine AWp_loop (fun l fr' H1 => ∃ (j : Nat) (ys : List Int), l = n - j ∧ i ≤ j ∧ j ≤ n ∧ fr' 1 = .int .i64 w ∧ fr' 2 = c ∧ fr' 3 = .ptr H.length 0 ∧ fr' 6 = .ptr (H.length + 1) 0 ∧ fr' 8 = .int .i64 (i : Int) ∧ fr' 9 = .int .i64 (j : Int) ∧ hget H1 H.length = some (Sb n b) ∧ hget H1 (H.length + 1) = some (Sb 0 .nilS) ∧ Mo H1 b ys (H.length + 2) ∧ Right n ys ∧ (∀ p q, p < n → q < n → ent n ys p q = ent n xs p q + if Upto i j p q then w * (hs.getD p 0 * hs.getD q 0) else 0) ∧ Ext H H1) (m := n - i)
      ⟨i, ys, by omega, by omega, by omega, k1, k2, k3, k6, k8, rfl, q3, q6, m, hry, hy, x1⟩ ?_
    clear k1 k2 k3 k6 k8 q3 q6 m hry hy x1
    rintro l fr' H1 ⟨j, ys, rfl, hij, hj, k1, k2, k3, k6, k8, k9, q3, q6, m, hry, hy, x1⟩
    have e2 : IntKind.i64.wrap ((j : Int) + 1) = ((j + 1 : Nat) : Int) := by rw [wrap_i64_id (by omega) (by omega)]; omega
    by_cases hjt : j < n
    · have hpl := (hry.pl hlt hjt).2
      have hei : ent n ys i j = ent n xs i j := by rw [hy i j hlt hjt, if_neg (by unfold Upto; omega), Int.add_zero]
      have hfe := ent_fit hr hlt hjt
      unfold Fit at hfe
      have hAt := fun H0 (x0 : ∃ E, H0 = H1 ++ E) => refAt_calls n ys b i j H0 (m.ints.ext x0) hry hlt hjt
      rw [hei] at hAt
      have hbi := hhs _ (getD_mem (xs := hs) (i := i) (by omega))
      have hbj := hhs _ (getD_mem (xs := hs) (i := j) (by omega))
      have n1 : (hs.getD i 0 * hs.getD j 0).natAbs ≤ 9223372036854775808 * 9223372036854775808 := mul_nat (by omega) (by omega)
      have n2 : (w * (hs.getD i 0 * hs.getD j 0)).natAbs ≤ 9223372036854775808 * (9223372036854775808 * 9223372036854775808) := mul_nat (by omega) n1
      obtain ⟨z, hz⟩ : ∃ z, z = ent n xs i j + w * (hs.getD i 0 * hs.getD j 0) := ⟨_, rfl⟩
      have hzn : z.natAbs ≤ 2 ^ 1000 := Nat.le_trans (show z.natAbs ≤ 9223372036854775808 * (9223372036854775808 * 9223372036854775808) + 1073741824 by rw [hz]; omega) (by decide +kernel)
      have s1 : Sm (hs.getD i 0 * hs.getD j 0) := Sm_of (Nat.le_trans n1 (by decide +kernel))
      have s2 : Sm (w * (hs.getD i 0 * hs.getD j 0)) := Sm_of (Nat.le_trans n2 (by decide +kernel))
      have hh1 := hh.ext x1
      refine AWp_seq_k (fun K hQ => ?_)
      repeat' first
        | (with_reducible first | refine AWp_seq_k (fun K hK => ?_) | refine AWp_skip ?_ | refine AWp_regionE ?_ | refine AWp_condI ?_)
        | (with_reducible refine AIte (fun hc => ?_) (fun hc => ?_) <;> (try simp only [RC] at hc) <;> (try (exfalso; first | omega | contradiction)))
        | (simp only [thenA, inBlockA, reduceIte, Nat.reduceEqDiff])
        | ((with_reducible refine hK _ _ ?_); clear hK)
        | (simp only [ACond, RA, EAtS_def, EAtX_def, wantedA, acall, astep, ev, ofValue, ofAtom, Nat.reduceEqDiff, Nat.reduceAdd, Nat.reduceMul, Nat.reduceSub, reduceCtorEq, reduceIte, aoptEv, abin, aint, ashift, aun, astr, aeqGuard, isConstOp, aconvH, aofStr, aconvSame, isU8, abuildSlice, afill, splice, azeros, Nat.reduceLeDiff, Nat.reduceLT, Int.reduceLE, Int.reduceLT, Int.reduceEq, Int.reduceToNat, Int.reducePow, IntKind.bits, Int.reduceNeg, RB, aalloc, Go.PW.dig_length, tf38RfQ, k1, k2, k3, k6, k8, k9, q3, q6])
        | (simp (disch := (first | omega | (simp only [RO]; done) | assumption | (simp only [RM, Go.PW.dig_length]; done) | (simp only [RL, Go.PW.dig_length]; omega))) only [RD, reduceCtorEq, reduceIte, Go.PW.dig_length, Nat.reduceLeDiff, Nat.reduceAdd, Nat.reduceMul, Int.reduceToNat, tf38RfQ, k1, k2, k3, k6, k8, k9, q3, q6])
      refine hQ _ _ ?_
      clear hQ
      refine AWp_seq_k (fun K3 hK3 => ?_)
      refine AWp_block ?_
      refine AWp_seq_k (fun K4 hK4 => ?_)
      refine AWp_cut (fun fr' H2 => ∃ h u, fr' 1 = .int .i64 w ∧ fr' 2 = c ∧ fr' 3 = .ptr H.length 0 ∧ fr' 6 = .ptr (H.length + 1) 0 ∧ fr' 8 = .int .i64 (i : Int) ∧ fr' 9 = .int .i64 (j : Int) ∧ fr' 10 = .ptr h 0 ∧ hget H2 h = some ⟨[.bool (decide (z < 0)), u], .own, 46⟩ ∧ Bs_ H2 u z ∧ Ext H1 H2) ?_ (fun fr' H2 h => hK4 _ _ ?_)
      · clear hK4
        repeat' first
          | (with_reducible first | refine AWp_drawE (id := 10) [3, 4, 6, 11, 16, 17, 18, 19] pn38_10RfQ (by kernel_rfl) (by kernel_rfl) ?_ | refine Run_pur ?_ | refine Run_ext ?_)
          | (with_reducible refine EPure_intro (fun _ x => (hAt _ x)) ?_)
          | (with_reducible refine And.intro ?_ ?_)
          | (simp only [ACond, RA, EAtS_def, EAtX_def, wantedA, acall, astep, ev, ofValue, ofAtom, Nat.reduceEqDiff, Nat.reduceAdd, Nat.reduceMul, Nat.reduceSub, reduceCtorEq, reduceIte, aoptEv, abin, aint, ashift, aun, astr, aeqGuard, isConstOp, aconvH, aofStr, aconvSame, isU8, abuildSlice, afill, splice, azeros, Nat.reduceLeDiff, Nat.reduceLT, Int.reduceLE, Int.reduceLT, Int.reduceEq, Int.reduceToNat, Int.reducePow, IntKind.bits, Int.reduceNeg, RB, aalloc, Go.PW.dig_length, tf38RfQ, k1, k2, k3, k6, k8, k9, q3, q6])
          | (simp (disch := first | omega | (simp only [RO]; done) | assumption) only [RS, hh1.rd.at1 und22 size2, hh1.load1 agg2, six22, gix22, six44, gix44, bst24_e, bst24_0, bst24_01, bst46_e, bst46_01])
          | (simp (disch := (first | omega | (simp only [RO]; done) | assumption | (simp only [RM, Go.PW.dig_length]; done) | (simp only [RL, Go.PW.dig_length]; omega))) only [RD, reduceCtorEq, reduceIte, Go.PW.dig_length, Nat.reduceLeDiff, Nat.reduceAdd, Nat.reduceMul, Int.reduceToNat, tf38RfQ, k1, k2, k3, k6, k8, k9, q3, q6])
        all_goals
          refine EExt_intro (Of_calls (ent n xs i j) _ (by omega)) ?_
          rintro _ H2 ⟨s1_, rfl, S1, y2⟩
          refine ⟨y2, ?_⟩
          have l2 := y2.len
          (try simp only [List.length_append, List.length_cons, List.length_nil] at l2)
          repeat' first
            | (with_reducible first | refine Run_ext ?_)
            | (with_reducible refine And.intro ?_ ?_)
            | (simp only [ACond, RA, EAtS_def, EAtX_def, wantedA, acall, astep, ev, ofValue, ofAtom, Nat.reduceEqDiff, Nat.reduceAdd, Nat.reduceMul, Nat.reduceSub, reduceCtorEq, reduceIte, aoptEv, abin, aint, ashift, aun, astr, aeqGuard, isConstOp, aconvH, aofStr, aconvSame, isU8, abuildSlice, afill, splice, azeros, Nat.reduceLeDiff, Nat.reduceLT, Int.reduceLE, Int.reduceLT, Int.reduceEq, Int.reduceToNat, Int.reducePow, IntKind.bits, Int.reduceNeg, RB, aalloc, Go.PW.dig_length, tf38RfQ, k1, k2, k3, k6, k8, k9])
        all_goals
          refine EExt_intro (Of_calls w _ hw) ?_
          rintro _ H3 ⟨s2_, rfl, S2, y3⟩
          refine ⟨y3, ?_⟩
          have l3 := y3.len
          (try simp only [List.length_append, List.length_cons, List.length_nil] at l3)
          repeat' first
            | (with_reducible first | refine Run_ext ?_)
            | (with_reducible refine And.intro ?_ ?_)
            | (simp only [ACond, RA, EAtS_def, EAtX_def, wantedA, acall, astep, ev, ofValue, ofAtom, Nat.reduceEqDiff, Nat.reduceAdd, Nat.reduceMul, Nat.reduceSub, reduceCtorEq, reduceIte, aoptEv, abin, aint, ashift, aun, astr, aeqGuard, isConstOp, aconvH, aofStr, aconvSame, isU8, abuildSlice, afill, splice, azeros, Nat.reduceLeDiff, Nat.reduceLT, Int.reduceLE, Int.reduceLT, Int.reduceEq, Int.reduceToNat, Int.reducePow, IntKind.bits, Int.reduceNeg, RB, aalloc, Go.PW.dig_length, tf38RfQ, k1, k2, k3, k6, k8, k9])
        all_goals
          refine EExt_intro (Of_calls (hs.getD i 0) _ hbi) ?_
          rintro _ H4 ⟨s3_, rfl, S3, y4⟩
          refine ⟨y4, ?_⟩
          have l4 := y4.len
          (try simp only [List.length_append, List.length_cons, List.length_nil] at l4)
          repeat' first
            | (with_reducible first | refine Run_ext ?_)
            | (with_reducible refine And.intro ?_ ?_)
            | (simp only [ACond, RA, EAtS_def, EAtX_def, wantedA, acall, astep, ev, ofValue, ofAtom, Nat.reduceEqDiff, Nat.reduceAdd, Nat.reduceMul, Nat.reduceSub, reduceCtorEq, reduceIte, aoptEv, abin, aint, ashift, aun, astr, aeqGuard, isConstOp, aconvH, aofStr, aconvSame, isU8, abuildSlice, afill, splice, azeros, Nat.reduceLeDiff, Nat.reduceLT, Int.reduceLE, Int.reduceLT, Int.reduceEq, Int.reduceToNat, Int.reducePow, IntKind.bits, Int.reduceNeg, RB, aalloc, Go.PW.dig_length, tf38RfQ, k1, k2, k3, k6, k8, k9])
        all_goals
          refine EExt_intro (Of_calls (hs.getD j 0) _ hbj) ?_
          rintro _ H5 ⟨s4_, rfl, S4, y5⟩
          refine ⟨y5, ?_⟩
          have l5 := y5.len
          (try simp only [List.length_append, List.length_cons, List.length_nil] at l5)
          repeat' first
            | (with_reducible first | refine Run_ext ?_)
            | (with_reducible refine And.intro ?_ ?_)
            | (simp only [ACond, RA, EAtS_def, EAtX_def, wantedA, acall, astep, ev, ofValue, ofAtom, Nat.reduceEqDiff, Nat.reduceAdd, Nat.reduceMul, Nat.reduceSub, reduceCtorEq, reduceIte, aoptEv, abin, aint, ashift, aun, astr, aeqGuard, isConstOp, aconvH, aofStr, aconvSame, isU8, abuildSlice, afill, splice, azeros, Nat.reduceLeDiff, Nat.reduceLT, Int.reduceLE, Int.reduceLT, Int.reduceEq, Int.reduceToNat, Int.reducePow, IntKind.bits, Int.reduceNeg, RB, aalloc, Go.PW.dig_length, tf38RfQ, k1, k2, k3, k6, k8, k9])
        all_goals
          refine EExt_intro (Rmul_calls (hs.getD i 0) (hs.getD j 0) s3_ s4_ _ (S3.ext (by (repeat first | exact Ext.refl _ | exact Ext.push _ _ | assumption | refine Ext.pushed ?_ _ | refine Ext.trans ?_ (by assumption)))) (S4.ext (by (repeat first | exact Ext.refl _ | exact Ext.push _ _ | assumption | refine Ext.pushed ?_ _ | refine Ext.trans ?_ (by assumption)))) (Sm.int hbi) (Sm.int hbj)) ?_
          rintro _ H6 ⟨s5_, rfl, S5, y6⟩
          refine ⟨y6, ?_⟩
          have l6 := y6.len
          (try simp only [List.length_append, List.length_cons, List.length_nil] at l6)
          repeat' first
            | (with_reducible first | refine Run_ext ?_)
            | (with_reducible refine And.intro ?_ ?_)
            | (simp only [ACond, RA, EAtS_def, EAtX_def, wantedA, acall, astep, ev, ofValue, ofAtom, Nat.reduceEqDiff, Nat.reduceAdd, Nat.reduceMul, Nat.reduceSub, reduceCtorEq, reduceIte, aoptEv, abin, aint, ashift, aun, astr, aeqGuard, isConstOp, aconvH, aofStr, aconvSame, isU8, abuildSlice, afill, splice, azeros, Nat.reduceLeDiff, Nat.reduceLT, Int.reduceLE, Int.reduceLT, Int.reduceEq, Int.reduceToNat, Int.reducePow, IntKind.bits, Int.reduceNeg, RB, aalloc, Go.PW.dig_length, tf38RfQ, k1, k2, k3, k6, k8, k9])
        all_goals
          refine EExt_intro (Rmul_calls w (hs.getD i 0 * hs.getD j 0) s2_ s5_ _ (S2.ext (by (repeat first | exact Ext.refl _ | exact Ext.push _ _ | assumption | refine Ext.pushed ?_ _ | refine Ext.trans ?_ (by assumption)))) (S5.ext (by (repeat first | exact Ext.refl _ | exact Ext.push _ _ | assumption | refine Ext.pushed ?_ _ | refine Ext.trans ?_ (by assumption)))) (Sm.int hw) s1) ?_
          rintro _ H7 ⟨s6_, rfl, S6, y7⟩
          refine ⟨y7, ?_⟩
          have l7 := y7.len
          (try simp only [List.length_append, List.length_cons, List.length_nil] at l7)
          repeat' first
            | (with_reducible first | refine Run_ext ?_)
            | (with_reducible refine And.intro ?_ ?_)
            | (simp only [ACond, RA, EAtS_def, EAtX_def, wantedA, acall, astep, ev, ofValue, ofAtom, Nat.reduceEqDiff, Nat.reduceAdd, Nat.reduceMul, Nat.reduceSub, reduceCtorEq, reduceIte, aoptEv, abin, aint, ashift, aun, astr, aeqGuard, isConstOp, aconvH, aofStr, aconvSame, isU8, abuildSlice, afill, splice, azeros, Nat.reduceLeDiff, Nat.reduceLT, Int.reduceLE, Int.reduceLT, Int.reduceEq, Int.reduceToNat, Int.reducePow, IntKind.bits, Int.reduceNeg, RB, aalloc, Go.PW.dig_length, tf38RfQ, k1, k2, k3, k6, k8, k9])
        all_goals
          refine EExt_intro (Radd_calls (ent n xs i j) (w * (hs.getD i 0 * hs.getD j 0)) s1_ s6_ _ (S1.ext (by (repeat first | exact Ext.refl _ | exact Ext.push _ _ | assumption | refine Ext.pushed ?_ _ | refine Ext.trans ?_ (by assumption)))) (S6.ext (by (repeat first | exact Ext.refl _ | exact Ext.push _ _ | assumption | refine Ext.pushed ?_ _ | refine Ext.trans ?_ (by assumption)))) (Sm.int (by omega)) s2) ?_
          rintro _ H8 ⟨s7_, rfl, S7, y8⟩
          refine ⟨y8, ?_⟩
          have l8 := y8.len
          (try simp only [List.length_append, List.length_cons, List.length_nil] at l8)
          have hcu : s7_.cells = [s7_] := S7.cells
          have hou : s7_.one = true := S7.one
          rw [← hz]
          rw [← hz] at S7
          first | (have q10 : hget H8 (List.length H1) = some zb := by (refine hget_ext (H := H1 ++ [zb]) (hget_at rfl) ?_; (repeat first | exact Ext.refl _ | exact Ext.push _ _ | assumption | refine Ext.pushed ?_ _ | refine Ext.trans ?_ (by assumption)))) | (have q10 : hget H8 (List.length H2) = some zb := by (refine hget_ext (H := H2 ++ [zb]) (hget_at rfl) ?_; (repeat first | exact Ext.refl _ | exact Ext.push _ _ | assumption | refine Ext.pushed ?_ _ | refine Ext.trans ?_ (by assumption)))) | (have q10 : hget H8 (List.length H3) = some zb := by (refine hget_ext (H := H3 ++ [zb]) (hget_at rfl) ?_; (repeat first | exact Ext.refl _ | exact Ext.push _ _ | assumption | refine Ext.pushed ?_ _ | refine Ext.trans ?_ (by assumption)))) | (have q10 : hget H8 (List.length H4) = some zb := by (refine hget_ext (H := H4 ++ [zb]) (hget_at rfl) ?_; (repeat first | exact Ext.refl _ | exact Ext.push _ _ | assumption | refine Ext.pushed ?_ _ | refine Ext.trans ?_ (by assumption)))) | (have q10 : hget H8 (List.length H5) = some zb := by (refine hget_ext (H := H5 ++ [zb]) (hget_at rfl) ?_; (repeat first | exact Ext.refl _ | exact Ext.push _ _ | assumption | refine Ext.pushed ?_ _ | refine Ext.trans ?_ (by assumption)))) | (have q10 : hget H8 (List.length H6) = some zb := by (refine hget_ext (H := H6 ++ [zb]) (hget_at rfl) ?_; (repeat first | exact Ext.refl _ | exact Ext.push _ _ | assumption | refine Ext.pushed ?_ _ | refine Ext.trans ?_ (by assumption)))) | (have q10 : hget H8 (List.length H7) = some zb := by (refine hget_ext (H := H7 ++ [zb]) (hget_at rfl) ?_; (repeat first | exact Ext.refl _ | exact Ext.push _ _ | assumption | refine Ext.pushed ?_ _ | refine Ext.trans ?_ (by assumption)))) | have q10 : True := trivial
          repeat' first
            | (simp only [thenA, inBlockA, reduceIte, Nat.reduceEqDiff])
            | (simp only [ACond, RA, EAtS_def, EAtX_def, wantedA, acall, astep, ev, ofValue, ofAtom, Nat.reduceEqDiff, Nat.reduceAdd, Nat.reduceMul, Nat.reduceSub, reduceCtorEq, reduceIte, aoptEv, abin, aint, ashift, aun, astr, aeqGuard, isConstOp, aconvH, aofStr, aconvSame, isU8, abuildSlice, afill, splice, azeros, Nat.reduceLeDiff, Nat.reduceLT, Int.reduceLE, Int.reduceLT, Int.reduceEq, Int.reduceToNat, Int.reducePow, IntKind.bits, Int.reduceNeg, RB, aalloc, Go.PW.dig_length, tf38RfQ, k1, k2, k3, k6, k8, k9, q10])
            | (simp (disch := first | omega | (simp only [RO]; done) | assumption) only [RS, six22, gix22, six44, gix44, bst24_e, bst24_0, bst24_01, bst46_e, bst46_01])
            | (simp (disch := (first | omega | (simp only [RO]; done) | assumption | (simp only [RM, Go.PW.dig_length]; done) | (simp only [RL, Go.PW.dig_length]; omega))) only [RD, reduceCtorEq, reduceIte, Go.PW.dig_length, Nat.reduceLeDiff, Nat.reduceAdd, Nat.reduceMul, Int.reduceToNat, tf38RfQ, k1, k2, k3, k6, k8, k9, q10])
        all_goals first
          | exact ⟨_, _, rfl, by rw [hget_set (hget_lt q10), if_pos rfl], S7.other q10 (by decide) _, Ext.set (by (repeat first | exact Ext.refl _ | exact Ext.push _ _ | assumption | refine Ext.pushed ?_ _ | refine Ext.trans ?_ (by assumption))) (by omega) _⟩
          | exact ⟨_, _, rfl, by first | exact hget_at rfl | rw [if_pos rfl], S7.push _, by (repeat first | exact Ext.refl _ | exact Ext.push _ _ | assumption | refine Ext.pushed ?_ _ | refine Ext.trans ?_ (by assumption))⟩
      clear hK4
      clear k1 k2 k3 k6 k8 k9
      obtain ⟨h, u, k1, k2, k3, k6, k8, k9, k10, q10, U, y⟩ := h
      have hu1 : u.one = true := U.one
      have hcu : u.cells = [u] := U.cells
      have m5 := m.ext y
      have q35 := hget_ext q3 y
      have q65 := hget_ext q6 y
      have hF := Fits_calls z 1073741824 u _ U (Sm_of hzn) (by omega)
      have l6 := hget_lt q65
      by_cases hf : Fit z
      · have hf' := hf
        unfold Fit at hf'
        have hft : decide ((z.natAbs : Int) ≤ 1073741824) = true := decide_eq_true (by omega)
        rw [hft] at hF
        have hI := Int64_calls z u _ U (by omega)
        have hat := m5.at_ (k := .i64) (i := pl n i j) (by omega)
        have hput := m5.put (i := pl n i j) (by omega) z
        obtain ⟨g1, g2⟩ := m5.hd (i := pl n i j) (by omega)
        have lb := hget_lt g1
        have hset := hget_set lb (Ib (ys.set (pl n i j) z))
        repeat' first
          | (with_reducible first | refine AWp_seq_k (fun K hK => ?_) | refine AWp_skip ?_ | refine AWp_regionE ?_ | refine AWp_drawE (id := 13) [6, 8] pn38_13RfQ (by kernel_rfl) (by kernel_rfl) ?_ | refine AWp_condI ?_ | refine Run_pur ?_ | refine Run_ext ?_)
          | (with_reducible refine EExt_sure (hI) ?_)
          | (with_reducible refine EPure_intro (fun _ x => (at_calls _ _ _ _ h8 hlt hjt)) ?_)
          | ((with_reducible refine ECall_intro (hF) ?_); rintro _ _ ⟨rfl, rfl⟩)
          | (simp only [thenA, inBlockA, reduceIte, Nat.reduceEqDiff])
          | ((with_reducible refine hK _ _ ?_); clear hK)
          | (simp only [ACond, RA, EAtS_def, EAtX_def, wantedA, acall, astep, ev, ofValue, ofAtom, Nat.reduceEqDiff, Nat.reduceAdd, Nat.reduceMul, Nat.reduceSub, reduceCtorEq, reduceIte, aoptEv, abin, aint, ashift, aun, astr, aeqGuard, isConstOp, aconvH, aofStr, aconvSame, isU8, abuildSlice, afill, splice, azeros, Nat.reduceLeDiff, Nat.reduceLT, Int.reduceLE, Int.reduceLT, Int.reduceEq, Int.reduceToNat, Int.reducePow, IntKind.bits, Int.reduceNeg, RB, aalloc, Go.PW.dig_length, tf38RfQ, k1, k2, k3, k6, k8, k9, k10, q10, q35, q65, hat, hput])
          | (simp (disch := (first | omega | (simp only [RO]; done) | assumption | (simp only [RM, Go.PW.dig_length]; done) | (simp only [RL, Go.PW.dig_length]; omega))) only [RD, reduceCtorEq, reduceIte, Go.PW.dig_length, Nat.reduceLeDiff, Nat.reduceAdd, Nat.reduceMul, Int.reduceToNat, tf38RfQ, k1, k2, k3, k6, k8, k9, k10, q10, q35, q65, hat, hput])
        all_goals
          refine hK3 _ _ ?_
          repeat' first
            | (with_reducible first | refine AWp_regionE ?_)
            | (simp only [thenA, inBlockA, reduceIte, Nat.reduceEqDiff])
            | (simp only [ACond, RA, EAtS_def, EAtX_def, wantedA, acall, astep, ev, ofValue, ofAtom, Nat.reduceEqDiff, Nat.reduceAdd, Nat.reduceMul, Nat.reduceSub, reduceCtorEq, reduceIte, aoptEv, abin, aint, ashift, aun, astr, aeqGuard, isConstOp, aconvH, aofStr, aconvSame, isU8, abuildSlice, afill, splice, azeros, Nat.reduceLeDiff, Nat.reduceLT, Int.reduceLE, Int.reduceLT, Int.reduceEq, Int.reduceToNat, Int.reducePow, IntKind.bits, Int.reduceNeg, RB, aalloc, Go.PW.dig_length, tf38RfQ, k1, k2, k3, k6, k8, k9, e2])
        all_goals
          refine ⟨_, by omega, j + 1, _, rfl, by omega, by omega, rfl, by rw [hset, if_neg (by omega)]; exact q35, by rw [hset, if_neg (by omega)]; exact q65, m5.set (by omega) (by rw [List.length_set]), hry.set _ hf, fun p q hp hq => ?_, (x1.trans y).set (by omega) _⟩
          rw [ent_set h8 hlt hjt hp hq (by omega), hy p q hp hq]
          by_cases e : (p = i ∧ q = j) ∨ (p = j ∧ q = i)
          · rw [if_pos e, hz]
            rcases e with ⟨rfl, rfl⟩ | ⟨rfl, rfl⟩
            · rw [if_pos (by unfold Upto; omega)]
            · rw [if_pos (by unfold Upto; omega), ent_comm, Int.mul_comm (hs.getD p 0)]
          · rw [if_neg e]
            congr 1
            have : Upto i j p q ↔ Upto i (j + 1) p q := by unfold Upto; omega
            simp only [this]
      · have hft : decide ((z.natAbs : Int) ≤ 1073741824) = false := decide_eq_false (by unfold Fit at hf; omega)
        rw [hft] at hF
        repeat' first
          | (with_reducible first | refine AWp_seq_k (fun K hK => ?_) | refine AWp_ret ?_ | refine AWp_regionE ?_ | refine AWp_condI ?_)
          | ((with_reducible refine ECall_intro (hF) ?_); rintro _ _ ⟨rfl, rfl⟩)
          | (simp only [thenA, inBlockA, reduceIte, Nat.reduceEqDiff])
          | ((with_reducible refine hK _ _ ?_); clear hK)
          | (simp only [ACond, RA, EAtS_def, EAtX_def, wantedA, acall, astep, ev, ofValue, ofAtom, Nat.reduceEqDiff, Nat.reduceAdd, Nat.reduceMul, Nat.reduceSub, reduceCtorEq, reduceIte, aoptEv, abin, aint, ashift, aun, astr, aeqGuard, isConstOp, aconvH, aofStr, aconvSame, isU8, abuildSlice, afill, splice, azeros, Nat.reduceLeDiff, Nat.reduceLT, Int.reduceLE, Int.reduceLT, Int.reduceEq, Int.reduceToNat, Int.reducePow, IntKind.bits, Int.reduceNeg, RB, aalloc, Go.PW.dig_length, tf38RfQ, k1, k2, k3, k6, k8, k9, k10, q10, q35, q65])
          | (simp (disch := first | omega | (simp only [RO]; done) | assumption) only [RS, six22, gix22, six44, gix44, bst24_e, bst24_0, bst24_01, bst46_e, bst46_01])
          | (simp (disch := (first | omega | (simp only [RO]; done) | assumption | (simp only [RM, Go.PW.dig_length]; done) | (simp only [RL, Go.PW.dig_length]; omega))) only [RD, reduceCtorEq, reduceIte, Go.PW.dig_length, Nat.reduceLeDiff, Nat.reduceAdd, Nat.reduceMul, Int.reduceToNat, tf38RfQ, k1, k2, k3, k6, k8, k9, k10, q10, q35, q65])
        all_goals
          (
           (refine AEnd_gen (rs := [.cell 6 24, .tmp 7]) rfl ?_)
           (simp only [AEndR, aresults, Fr.put_some, Fr.put_none, fr0_zero, fr0_succ, fr0_nil, Nat.reduceEqDiff, reduceIte, k6, hget_set l6])
           (try simp (disch := (first | omega | (simp only [RO]; done) | assumption | (simp only [RM, Go.PW.dig_length]; done) | (simp only [RL, Go.PW.dig_length]; omega))) only [RD, reduceCtorEq, reduceIte, Go.PW.dig_length, Nat.reduceLeDiff, Nat.reduceAdd, Nat.reduceMul, Int.reduceToNat, tf38RfQ, k6, hget_set l6]))
        all_goals exact ⟨.inr trivial, (x1.trans y).set (by omega) _⟩
    · obtain rfl : j = n := by omega
      repeat' first
        | (with_reducible first | refine AWp_seq_k (fun K hK => ?_) | refine AWp_exit ?_ | refine AWp_regionE ?_ | refine AWp_condI ?_)
        | (with_reducible refine AIte (fun hc => ?_) (fun hc => ?_) <;> (try simp only [RC] at hc) <;> (try (exfalso; first | omega | contradiction)))
        | (simp only [thenA, inBlockA, reduceIte, Nat.reduceEqDiff])
        | ((with_reducible refine hK _ _ ?_); clear hK)
        | (clear hK; (with_reducible refine hK _ _ ?_); clear hK)
        | (simp only [ACond, RA, EAtS_def, EAtX_def, wantedA, acall, astep, ev, ofValue, ofAtom, Nat.reduceEqDiff, Nat.reduceAdd, Nat.reduceMul, Nat.reduceSub, reduceCtorEq, reduceIte, aoptEv, abin, aint, ashift, aun, astr, aeqGuard, isConstOp, aconvH, aofStr, aconvSame, isU8, abuildSlice, afill, splice, azeros, Nat.reduceLeDiff, Nat.reduceLT, Int.reduceLE, Int.reduceLT, Int.reduceEq, Int.reduceToNat, Int.reducePow, IntKind.bits, Int.reduceNeg, RB, aalloc, Go.PW.dig_length, tf38RfQ, k1, k2, k3, k6, k8, k9, q3, q6, e1])
        | (simp (disch := (first | omega | (simp only [RO]; done) | assumption | (simp only [RM, Go.PW.dig_length]; done) | (simp only [RL, Go.PW.dig_length]; omega))) only [RD, reduceCtorEq, reduceIte, Go.PW.dig_length, Nat.reduceLeDiff, Nat.reduceAdd, Nat.reduceMul, Int.reduceToNat, tf38RfQ, k1, k2, k3, k6, k8, k9, q3, q6, e1])
      all_goals
        refine ⟨_, by omega, i + 1, ys, rfl, by omega, rfl, m, hry, fun p q hp hq => ?_, x1⟩
        rw [hy p q hp hq]
        congr 1
        have : Upto i j p q ↔ Upto (i + 1) (i + 1) p q := by unfold Upto; omega
        simp only [this]
  · obtain rfl : i = n := by omega
    have l6 := hget_lt q6
    repeat' first
      | (with_reducible first | refine AWp_seq_k (fun K hK => ?_) | refine AWp_exit ?_ | refine AWp_ret ?_ | refine AWp_regionE ?_ | refine AWp_condI ?_)
      | (with_reducible refine AIte (fun hc => ?_) (fun hc => ?_) <;> (try simp only [RC] at hc) <;> (try (exfalso; first | omega | contradiction)))
      | (simp only [thenA, inBlockA, reduceIte, Nat.reduceEqDiff])
      | ((with_reducible refine hK _ _ ?_); clear hK)
      | (clear hK; (with_reducible refine hK _ _ ?_); clear hK)
      | (simp only [ACond, RA, EAtS_def, EAtX_def, wantedA, acall, astep, ev, ofValue, ofAtom, Nat.reduceEqDiff, Nat.reduceAdd, Nat.reduceMul, Nat.reduceSub, reduceCtorEq, reduceIte, aoptEv, abin, aint, ashift, aun, astr, aeqGuard, isConstOp, aconvH, aofStr, aconvSame, isU8, abuildSlice, afill, splice, azeros, Nat.reduceLeDiff, Nat.reduceLT, Int.reduceLE, Int.reduceLT, Int.reduceEq, Int.reduceToNat, Int.reducePow, IntKind.bits, Int.reduceNeg, RB, aalloc, Go.PW.dig_length, tf38RfQ, k1, k2, k3, k6, k8, q3, q6])
      | (simp (disch := first | omega | (simp only [RO]; done) | assumption) only [RS, six22, gix22, six44, gix44, bst24_e, bst24_0, bst24_01, bst46_e, bst46_01])
      | (simp (disch := (first | omega | (simp only [RO]; done) | assumption | (simp only [RM, Go.PW.dig_length]; done) | (simp only [RL, Go.PW.dig_length]; omega))) only [RD, reduceCtorEq, reduceIte, Go.PW.dig_length, Nat.reduceLeDiff, Nat.reduceAdd, Nat.reduceMul, Int.reduceToNat, tf38RfQ, k1, k2, k3, k6, k8, q3, q6])
    all_goals
      (
       (refine AEnd_gen (rs := [.cell 6 24, .tmp 7]) rfl ?_)
       (simp only [AEndR, aresults, Fr.put_some, Fr.put_none, fr0_zero, fr0_succ, fr0_nil, Nat.reduceEqDiff, reduceIte, k6, hget_set l6])
       (try simp (disch := (first | omega | (simp only [RO]; done) | assumption | (simp only [RM, Go.PW.dig_length]; done) | (simp only [RL, Go.PW.dig_length]; omega))) only [RD, reduceCtorEq, reduceIte, Go.PW.dig_length, Nat.reduceLeDiff, Nat.reduceAdd, Nat.reduceMul, Int.reduceToNat, tf38RfQ, k6, hget_set l6]))
    all_goals
      refine ⟨.inl ⟨b, ys, rfl, (m.other (by omega) l6 _).low (by omega), hry, fun p q hp hq => ?_⟩, x1.set (by omega) _⟩
      rw [hy p q hp hq, if_pos (by unfold Upto; omega)]
end Go.Proofs.YtfalfmfkifemeaaGreatDoor

/- Part 25 of the proof of laws of this seat: lemmas on the model's code, on this program's functions, on numbers. No condition. -/
import Derived.Test.YtfalfmfkifemeaaGreatDoorZSixax
set_option linter.unusedVariables false
set_option linter.unusedSimpArgs false
namespace Go.Proofs.YtfalfmfkifemeaaGreatDoor
open Go.AL Go.PW Go.PD
theorem tf28RfR : type_of% (And.intro @tyb2 (And.intro @tyb3 (And.intro @tyb4 (And.intro @tyb22 (And.intro @tyb23 (@tyb24)))))) := And.intro @tyb2 (And.intro @tyb3 (And.intro @tyb4 (And.intro @tyb22 (And.intro @tyb23 (@tyb24)))))
abbrev pn28_17RfR : Plan := (.one 0 (.one 1 (.one 2 (.one 3 (.one 4 (.one 5 (.one 7 (.one 8 (.one 9 (.pur 6 (.pur 10 (.one 11 (.one 12 .nil)))))))))))))
set_option maxRecDepth 8000
/-- Where a row stood before some rows went. -/
def sh (i k p : Nat) : Nat := if i ≤ p then p + k else p
set_option maxHeartbeats 8000000 in
theorem Drop_calls (n n' : Nat) (xs : List Int) (a : AV) (i k : Nat) (H : Hp) (ha : Ints H .i64 a xs) (hr : Right n xs) (hik : i + k ≤ n) (hn' : n' + k = n) : ACalls Tryz.prog 28 [SymA n a, .int .i64 (i : Int), .int .i64 (k : Int)] H fun r H' => ∃ b ys, r = .tup [SymA n' b, .int .i64 0] ∧ Mo H' b ys H.length ∧ Right n' ys ∧ (∀ p q, p < n' → q < n' → ent n' ys p q = ent n xs (sh i k p) (sh i k q)) ∧ Ext H H' := by
  have ha1 : a.one = true := ha.rd.one
  have hc : a.cells = [a] := AV.cells_one ha1
  obtain ⟨h8, hlx⟩ := hr.len
  have hd : decide (Right n xs) = true := decide_eq_true hr
  have w1 : IntKind.i64.wrap ((n : Int) - (i : Int)) = (n : Int) - i := wrap_i64_id (by omega) (by omega)
  have w2 : IntKind.i64.wrap ((n : Int) - (k : Int)) = (n' : Int) := by rw [wrap_i64_id (by omega) (by omega)]; omega
  refine ACalls_body Tryz.func28 rfl (by kernel_rfl) (by kernel_rfl) ?_
  refine AWp_seq_k (fun K hQ => ?_)
  repeat' first
    | (with_reducible first | refine AWp_seq_k (fun K hK => ?_) | refine AWp_skip ?_ | refine AWp_regionE ?_ | refine AWp_condI ?_)
    | ((with_reducible refine ECall_intro (symRight_calls _ _ _ _ ((ha.push _).push _) hlx) ?_); rintro _ _ ⟨rfl, rfl⟩)
    | (with_reducible refine EGuard_split (fun hc => ?_) (fun hc => ?_) <;> (try simp only [RC] at hc) <;> (try (exfalso; first | omega | contradiction)))
    | (with_reducible refine AIte (fun hc => ?_) (fun hc => ?_) <;> (try simp only [RC] at hc) <;> (try (exfalso; first | omega | contradiction)))
    | (simp only [thenA, inBlockA, reduceIte, Nat.reduceEqDiff])
    | ((with_reducible refine hK _ _ ?_); clear hK)
    | (simp only [ACond, RA, EAtS_def, EAtX_def, wantedA, acall, astep, ev, ofValue, ofAtom, Nat.reduceEqDiff, Nat.reduceAdd, Nat.reduceMul, Nat.reduceSub, reduceCtorEq, reduceIte, aoptEv, abin, aint, ashift, aun, astr, aeqGuard, isConstOp, aconvH, aofStr, aconvSame, isU8, abuildSlice, afill, splice, azeros, Nat.reduceLeDiff, Nat.reduceLT, Int.reduceLE, Int.reduceLT, Int.reduceEq, Int.reduceToNat, Int.reducePow, IntKind.bits, Int.reduceNeg, RB, aalloc, Go.PW.dig_length, tf28RfR, hd, w1])
    | (simp (disch := first | omega | (simp only [RO]; done) | assumption) only [RS, six22, gix22, bst24_e, bst24_0, bst24_01])
    | (simp (disch := (first | omega | (simp only [RO]; done) | assumption | (simp only [RM, Go.PW.dig_length]; done) | (simp only [RL, Go.PW.dig_length]; omega))) only [RD, reduceCtorEq, reduceIte, Go.PW.dig_length, Nat.reduceLeDiff, Nat.reduceAdd, Nat.reduceMul, Int.reduceToNat, tf28RfR, hd, w1])
  refine hQ _ _ ?_
  clear hQ
  refine AWp_seq_k (fun K hQ => ?_)
  repeat' first
    | (with_reducible first | refine AWp_seq_k (fun K hK => ?_) | refine AWp_skip ?_ | refine AWp_regionE ?_ | refine AWp_condI ?_)
    | ((with_reducible refine ECall_intro (symRight_calls _ _ _ _ ((ha.push _).push _) hlx) ?_); rintro _ _ ⟨rfl, rfl⟩)
    | (with_reducible refine EGuard_split (fun hc => ?_) (fun hc => ?_) <;> (try simp only [RC] at hc) <;> (try (exfalso; first | omega | contradiction)))
    | (with_reducible refine AIte (fun hc => ?_) (fun hc => ?_) <;> (try simp only [RC] at hc) <;> (try (exfalso; first | omega | contradiction)))
    | (simp only [thenA, inBlockA, reduceIte, Nat.reduceEqDiff])
    | ((with_reducible refine hK _ _ ?_); clear hK)
    | (simp only [ACond, RA, EAtS_def, EAtX_def, wantedA, acall, astep, ev, ofValue, ofAtom, Nat.reduceEqDiff, Nat.reduceAdd, Nat.reduceMul, Nat.reduceSub, reduceCtorEq, reduceIte, aoptEv, abin, aint, ashift, aun, astr, aeqGuard, isConstOp, aconvH, aofStr, aconvSame, isU8, abuildSlice, afill, splice, azeros, Nat.reduceLeDiff, Nat.reduceLT, Int.reduceLE, Int.reduceLT, Int.reduceEq, Int.reduceToNat, Int.reducePow, IntKind.bits, Int.reduceNeg, RB, aalloc, Go.PW.dig_length, tf28RfR, hd, w1])
    | (simp (disch := first | omega | (simp only [RO]; done) | assumption) only [RS, six22, gix22, bst24_e, bst24_0, bst24_01])
    | (simp (disch := (first | omega | (simp only [RO]; done) | assumption | (simp only [RM, Go.PW.dig_length]; done) | (simp only [RL, Go.PW.dig_length]; omega))) only [RD, reduceCtorEq, reduceIte, Go.PW.dig_length, Nat.reduceLeDiff, Nat.reduceAdd, Nat.reduceMul, Int.reduceToNat, tf28RfR, hd, w1])
  refine hQ _ _ ?_
  clear hQ
  refine AWp_seq_k (fun K hQ => ?_)
  repeat' first
    | (with_reducible first | refine AWp_seq_k (fun K hK => ?_) | refine AWp_skip ?_ | refine AWp_regionE ?_ | refine AWp_condI ?_)
    | ((with_reducible refine ECall_intro (symRight_calls _ _ _ _ ((ha.push _).push _) hlx) ?_); rintro _ _ ⟨rfl, rfl⟩)
    | (with_reducible refine EGuard_split (fun hc => ?_) (fun hc => ?_) <;> (try simp only [RC] at hc) <;> (try (exfalso; first | omega | contradiction)))
    | (with_reducible refine AIte (fun hc => ?_) (fun hc => ?_) <;> (try simp only [RC] at hc) <;> (try (exfalso; first | omega | contradiction)))
    | (simp only [thenA, inBlockA, reduceIte, Nat.reduceEqDiff])
    | ((with_reducible refine hK _ _ ?_); clear hK)
    | (simp only [ACond, RA, EAtS_def, EAtX_def, wantedA, acall, astep, ev, ofValue, ofAtom, Nat.reduceEqDiff, Nat.reduceAdd, Nat.reduceMul, Nat.reduceSub, reduceCtorEq, reduceIte, aoptEv, abin, aint, ashift, aun, astr, aeqGuard, isConstOp, aconvH, aofStr, aconvSame, isU8, abuildSlice, afill, splice, azeros, Nat.reduceLeDiff, Nat.reduceLT, Int.reduceLE, Int.reduceLT, Int.reduceEq, Int.reduceToNat, Int.reducePow, IntKind.bits, Int.reduceNeg, RB, aalloc, Go.PW.dig_length, tf28RfR, hd, w1])
    | (simp (disch := first | omega | (simp only [RO]; done) | assumption) only [RS, six22, gix22, bst24_e, bst24_0, bst24_01])
    | (simp (disch := (first | omega | (simp only [RO]; done) | assumption | (simp only [RM, Go.PW.dig_length]; done) | (simp only [RL, Go.PW.dig_length]; omega))) only [RD, reduceCtorEq, reduceIte, Go.PW.dig_length, Nat.reduceLeDiff, Nat.reduceAdd, Nat.reduceMul, Int.reduceToNat, tf28RfR, hd, w1])
  refine hQ _ _ ?_
  clear hQ
  refine AWp_seq_k (fun K2 hK2 => ?_)
  refine AWp_cut (fun fr' H1 => ∃ b h, fr' 1 = .int .i64 (i : Int) ∧ fr' 2 = .int .i64 (k : Int) ∧ fr' 3 = .ptr H.length 0 ∧ fr' 6 = .ptr (H.length + 1) 0 ∧ fr' 8 = .ptr h 0 ∧ hget H1 H.length = some (Sb n a) ∧ hget H1 (H.length + 1) = some (Sb 0 .nilS) ∧ hget H1 h = some (Sb n' b) ∧ H.length + 2 ≤ h ∧ Mo H1 b (List.replicate (n' * (n' + 1) / 2) 0) (H.length + 2) ∧ Ext H H1) ?_ (fun fr' H1 h => hK2 _ _ ?_)
  · clear hK2
    repeat' first
      | (with_reducible first | refine AWp_regionE ?_)
      | (simp only [thenA, inBlockA, reduceIte, Nat.reduceEqDiff])
      | (simp only [ACond, RA, EAtS_def, EAtX_def, wantedA, acall, astep, ev, ofValue, ofAtom, Nat.reduceEqDiff, Nat.reduceAdd, Nat.reduceMul, Nat.reduceSub, reduceCtorEq, reduceIte, aoptEv, abin, aint, ashift, aun, astr, aeqGuard, isConstOp, aconvH, aofStr, aconvSame, isU8, abuildSlice, afill, splice, azeros, Nat.reduceLeDiff, Nat.reduceLT, Int.reduceLE, Int.reduceLT, Int.reduceEq, Int.reduceToNat, Int.reducePow, IntKind.bits, Int.reduceNeg, RB, aalloc, Go.PW.dig_length, tf28RfR, w2])
      | (simp (disch := (first | omega | (simp only [RO]; done) | assumption | (simp only [RM, Go.PW.dig_length]; done) | (simp only [RL, Go.PW.dig_length]; omega))) only [RD, reduceCtorEq, reduceIte, Go.PW.dig_length, Nat.reduceLeDiff, Nat.reduceAdd, Nat.reduceMul, Int.reduceToNat, tf28RfR, w2])
    refine ECall_intro (MoNew_calls n' _ (by omega)) ?_
    rintro _ H2 ⟨b, rfl, m, x2⟩
    have hb1 := m.one
    have hcb : b.cells = [b] := AV.cells_one hb1
    have q4 : hget H2 H.length = some (Sb n a) := hget_ext (by rw [hget_old (by simp), hget_at rfl]) x2
    have q8 : hget H2 (H.length + 1) = some (Sb 0 .nilS) := hget_ext (hget_at (by simp)) x2
    have l4 := x2.len
    simp only [List.length_append, List.length_cons, List.length_nil] at l4
    have m2 : Mo H2 b (List.replicate (n' * (n' + 1) / 2) 0) (H.length + 2) := m.low (by simp)
    repeat' first
      | (simp only [thenA, inBlockA, reduceIte, Nat.reduceEqDiff])
      | (simp only [ACond, RA, EAtS_def, EAtX_def, wantedA, acall, astep, ev, ofValue, ofAtom, Nat.reduceEqDiff, Nat.reduceAdd, Nat.reduceMul, Nat.reduceSub, reduceCtorEq, reduceIte, aoptEv, abin, aint, ashift, aun, astr, aeqGuard, isConstOp, aconvH, aofStr, aconvSame, isU8, abuildSlice, afill, splice, azeros, Nat.reduceLeDiff, Nat.reduceLT, Int.reduceLE, Int.reduceLT, Int.reduceEq, Int.reduceToNat, Int.reducePow, IntKind.bits, Int.reduceNeg, RB, aalloc, Go.PW.dig_length, tf28RfR])
      | (simp (disch := first | omega | (simp only [RO]; done) | assumption) only [RS, six22, gix22, bst24_e, bst24_0, bst24_01])
      | (simp (disch := (first | omega | (simp only [RO]; done) | assumption | (simp only [RM, Go.PW.dig_length]; done) | (simp only [RL, Go.PW.dig_length]; omega))) only [RD, reduceCtorEq, reduceIte, Go.PW.dig_length, Nat.reduceLeDiff, Nat.reduceAdd, Nat.reduceMul, Int.reduceToNat, tf28RfR])
    all_goals
      exact ⟨b, H2.length, rfl, by first | exact q4 | exact hget_ext q4 (Ext.push _ _), by first | exact q8 | exact hget_ext q8 (Ext.push _ _), by first | exact hget_at rfl | rw [if_pos rfl], by omega, m2.push _, (((Ext.push _ _).pushed _).trans x2).pushed _⟩
  clear hK2
  obtain ⟨b, h, k1, k2, k3, k6, k8, q3, q6, q8, lh, m, x1⟩ := h
  have hb1 := m.one
  have hcb : b.cells = [b] := AV.cells_one hb1
  repeat' first
    | (with_reducible first | refine AWp_seq_k (fun K hK => ?_) | refine AWp_block ?_ | refine AWp_regionE ?_)
    | (simp only [thenA, inBlockA, reduceIte, Nat.reduceEqDiff])
    | ((with_reducible refine hK _ _ ?_); clear hK)
    | (simp only [ACond, RA, EAtS_def, EAtX_def, wantedA, acall, astep, ev, ofValue, ofAtom, Nat.reduceEqDiff, Nat.reduceAdd, Nat.reduceMul, Nat.reduceSub, reduceCtorEq, reduceIte, aoptEv, abin, aint, ashift, aun, astr, aeqGuard, isConstOp, aconvH, aofStr, aconvSame, isU8, abuildSlice, afill, splice, azeros, Nat.reduceLeDiff, Nat.reduceLT, Int.reduceLE, Int.reduceLT, Int.reduceEq, Int.reduceToNat, Int.reducePow, IntKind.bits, Int.reduceNeg, RB, aalloc, Go.PW.dig_length, tf28RfR, k1, k2, k3, k6, k8, q3, q6, q8])
  refine AWp_loop (fun l fr' H1 => ∃ (s : Nat) (ys : List Int), l = n' - s ∧ s ≤ n' ∧ fr' 1 = .int .i64 (i : Int) ∧ fr' 2 = .int .i64 (k : Int) ∧ fr' 3 = .ptr H.length 0 ∧ fr' 6 = .ptr (H.length + 1) 0 ∧ fr' 8 = .ptr h 0 ∧ fr' 9 = .int .i64 (s : Int) ∧ hget H1 H.length = some (Sb n a) ∧ hget H1 (H.length + 1) = some (Sb 0 .nilS) ∧ hget H1 h = some (Sb n' b) ∧ Mo H1 b ys (H.length + 2) ∧ Right n' ys ∧ (∀ p q, p < n' → q < n' → ent n' ys p q = if Upto s s p q then ent n xs (sh i k p) (sh i k q) else 0) ∧ Ext H H1) (m := n')
    ⟨0, _, by omega, by omega, k1, k2, k3, k6, k8, rfl, q3, q6, q8, m, right_noughts (by omega), fun p q _ _ => by rw [if_neg (by unfold Upto; omega), ent_noughts], x1⟩ ?_
  clear k1 k2 k3 k6 k8 q3 q6 q8 m x1
  rintro l fr' H1 ⟨s, ys, rfl, hs, k1, k2, k3, k6, k8, k9, q3, q6, q8, m, hry, hy, x1⟩
  have e1 : IntKind.i64.wrap ((s : Int) + 1) = ((s + 1 : Nat) : Int) := by rw [wrap_i64_id (by omega) (by omega)]; omega
  by_cases hlt : s < n'
  · skip
    repeat' first
      | (with_reducible first | refine AWp_seq_k (fun K hK => ?_) | refine AWp_block ?_ | refine AWp_skip ?_ | refine AWp_regionE ?_ | refine AWp_condI ?_)
      | (with_reducible refine AIte (fun hc => ?_) (fun hc => ?_) <;> (try simp only [RC] at hc) <;> (try (exfalso; first | omega | contradiction)))
      | (simp only [thenA, inBlockA, reduceIte, Nat.reduceEqDiff])
      | ((with_reducible refine hK _ _ ?_); clear hK)
      | (simp only [ACond, RA, EAtS_def, EAtX_def, wantedA, acall, astep, ev, ofValue, ofAtom, Nat.reduceEqDiff, Nat.reduceAdd, Nat.reduceMul, Nat.reduceSub, reduceCtorEq, reduceIte, aoptEv, abin, aint, ashift, aun, astr, aeqGuard, isConstOp, aconvH, aofStr, aconvSame, isU8, abuildSlice, afill, splice, azeros, Nat.reduceLeDiff, Nat.reduceLT, Int.reduceLE, Int.reduceLT, Int.reduceEq, Int.reduceToNat, Int.reducePow, IntKind.bits, Int.reduceNeg, RB, aalloc, Go.PW.dig_length, tf28RfR, k1, k2, k3, k6, k8, k9, q3, q6, q8])
      | (simp (disch := (first | omega | (simp only [RO]; done) | assumption | (simp only [RM, Go.PW.dig_length]; done) | (simp only [RL, Go.PW.dig_length]; omega))) only [RD, reduceCtorEq, reduceIte, Go.PW.dig_length, Nat.reduceLeDiff, Nat.reduceAdd, Nat.reduceMul, Int.reduceToNat, tf28RfR, k1, k2, k3, k6, k8, k9, q3, q6, q8])
    refine AWp_loop (fun l fr' H1 => ∃ (j : Nat) (ys : List Int), l = n' - j ∧ s ≤ j ∧ j ≤ n' ∧ fr' 1 = .int .i64 (i : Int) ∧ fr' 2 = .int .i64 (k : Int) ∧ fr' 3 = .ptr H.length 0 ∧ fr' 6 = .ptr (H.length + 1) 0 ∧ fr' 8 = .ptr h 0 ∧ fr' 9 = .int .i64 (s : Int) ∧ fr' 10 = .int .i64 (j : Int) ∧ hget H1 H.length = some (Sb n a) ∧ hget H1 (H.length + 1) = some (Sb 0 .nilS) ∧ hget H1 h = some (Sb n' b) ∧ Mo H1 b ys (H.length + 2) ∧ Right n' ys ∧ (∀ p q, p < n' → q < n' → ent n' ys p q = if Upto s j p q then ent n xs (sh i k p) (sh i k q) else 0) ∧ Ext H H1) (m := n' - s)
      ⟨s, ys, by omega, by omega, by omega, k1, k2, k3, k6, k8, k9, rfl, q3, q6, q8, m, hry, hy, x1⟩ ?_
    clear k1 k2 k3 k6 k8 k9 q3 q6 q8 m hry hy x1
    rintro l fr' H1 ⟨j, ys, rfl, hij, hj, k1, k2, k3, k6, k8, k9, k10, q3, q6, q8, m, hry, hy, x1⟩
    have e2 : IntKind.i64.wrap ((j : Int) + 1) = ((j + 1 : Nat) : Int) := by rw [wrap_i64_id (by omega) (by omega)]; omega
    by_cases hjt : j < n'
    · have hpl := (hry.pl hlt hjt).2
      have b1 : sh i k s < n := by unfold sh; split <;> omega
      have b2 : sh i k j < n := by unfold sh; split <;> omega
      have hAt := fun H0 (x0 : ∃ E, H0 = H1 ++ E) => refAt_calls n xs a (sh i k s) (sh i k j) H0 ((ha.ext x1).ext x0) hr b1 b2
      have hat := m.at_ (k := .i64) (i := pl n' s j) (by omega)
      have hput := m.put (i := pl n' s j) (by omega) (ent n xs (sh i k s) (sh i k j))
      obtain ⟨g1, g2⟩ := m.hd (i := pl n' s j) (by omega)
      have lb := hget_lt g1
      have hset := hget_set lb (Ib (ys.set (pl n' s j) (ent n xs (sh i k s) (sh i k j))))
      have hne : h ≠ b.hd := by
        intro e
        rw [e, g1] at q8
        have := congrArg (fun o : Option Blk => o.map (·.ety)) q8
        revert this
        simp
      have f1 : IntKind.i64.wrap ((s : Int) + (k : Int)) = ((s + k : Nat) : Int) := by rw [wrap_i64_id (by omega) (by omega)]; omega
      have f2 : IntKind.i64.wrap ((j : Int) + (k : Int)) = ((j + k : Nat) : Int) := by rw [wrap_i64_id (by omega) (by omega)]; omega
      refine AWp_seq_k (fun K hQ => ?_)
      repeat' first
        | (with_reducible first | refine AWp_seq_k (fun K hK => ?_) | refine AWp_skip ?_ | refine AWp_regionE ?_ | refine AWp_condI ?_)
        | (with_reducible refine AIte (fun hc => ?_) (fun hc => ?_) <;> (try simp only [RC] at hc) <;> (try (exfalso; first | omega | contradiction)))
        | (simp only [thenA, inBlockA, reduceIte, Nat.reduceEqDiff])
        | ((with_reducible refine hK _ _ ?_); clear hK)
        | (simp only [ACond, RA, EAtS_def, EAtX_def, wantedA, acall, astep, ev, ofValue, ofAtom, Nat.reduceEqDiff, Nat.reduceAdd, Nat.reduceMul, Nat.reduceSub, reduceCtorEq, reduceIte, aoptEv, abin, aint, ashift, aun, astr, aeqGuard, isConstOp, aconvH, aofStr, aconvSame, isU8, abuildSlice, afill, splice, azeros, Nat.reduceLeDiff, Nat.reduceLT, Int.reduceLE, Int.reduceLT, Int.reduceEq, Int.reduceToNat, Int.reducePow, IntKind.bits, Int.reduceNeg, RB, aalloc, Go.PW.dig_length, tf28RfR, k1, k2, k3, k6, k8, k9, k10, q3, q6, q8])
        | (simp (disch := (first | omega | (simp only [RO]; done) | assumption | (simp only [RM, Go.PW.dig_length]; done) | (simp only [RL, Go.PW.dig_length]; omega))) only [RD, reduceCtorEq, reduceIte, Go.PW.dig_length, Nat.reduceLeDiff, Nat.reduceAdd, Nat.reduceMul, Int.reduceToNat, tf28RfR, k1, k2, k3, k6, k8, k9, k10, q3, q6, q8])
      refine hQ _ _ ?_
      clear hQ
      refine AWp_seq_k (fun K3 hK3 => ?_)
      refine AWp_block ?_
      refine AWp_seq_k (fun K hQ => ?_)
      repeat' first
        | (with_reducible first | refine AWp_regionE ?_)
        | (simp only [thenA, inBlockA, reduceIte, Nat.reduceEqDiff])
        | (simp only [ACond, RA, EAtS_def, EAtX_def, wantedA, acall, astep, ev, ofValue, ofAtom, Nat.reduceEqDiff, Nat.reduceAdd, Nat.reduceMul, Nat.reduceSub, reduceCtorEq, reduceIte, aoptEv, abin, aint, ashift, aun, astr, aeqGuard, isConstOp, aconvH, aofStr, aconvSame, isU8, abuildSlice, afill, splice, azeros, Nat.reduceLeDiff, Nat.reduceLT, Int.reduceLE, Int.reduceLT, Int.reduceEq, Int.reduceToNat, Int.reducePow, IntKind.bits, Int.reduceNeg, RB, aalloc, Go.PW.dig_length, tf28RfR, k1, k2, k3, k6, k8, k9, k10, q3, q6, q8])
      refine hQ _ _ ?_
      clear hQ
      refine AWp_seq_k (fun K4 hK4 => ?_)
      refine AWp_cut (fun fr' H2 => H2 = H1 ∧ fr' 1 = .int .i64 (i : Int) ∧ fr' 2 = .int .i64 (k : Int) ∧ fr' 3 = .ptr H.length 0 ∧ fr' 6 = .ptr (H.length + 1) 0 ∧ fr' 8 = .ptr h 0 ∧ fr' 9 = .int .i64 (s : Int) ∧ fr' 10 = .int .i64 (j : Int) ∧ fr' 11 = .int .i64 ((sh i k s : Nat) : Int) ∧ fr' 12 = .int .i64 (j : Int)) ?_ (fun fr' H2 hcut => hK4 _ _ ?_)
      · clear hK4
        by_cases hc1 : i ≤ s
        · have hsh : sh i k s = s + k := if_pos hc1
          rw [hsh]
          repeat' first
            | (with_reducible first | refine AWp_seq_k (fun K hK => ?_) | refine AWp_regionE ?_ | refine AWp_condI ?_)
            | (with_reducible refine And.intro ?_ ?_)
            | (with_reducible refine AIte (fun hc => ?_) (fun hc => ?_) <;> (try simp only [RC] at hc) <;> (try (exfalso; first | omega | contradiction)))
            | (simp only [thenA, inBlockA, reduceIte, Nat.reduceEqDiff])
            | ((with_reducible refine hK _ _ ?_); clear hK)
            | (simp only [ACond, RA, EAtS_def, EAtX_def, wantedA, acall, astep, ev, ofValue, ofAtom, Nat.reduceEqDiff, Nat.reduceAdd, Nat.reduceMul, Nat.reduceSub, reduceCtorEq, reduceIte, aoptEv, abin, aint, ashift, aun, astr, aeqGuard, isConstOp, aconvH, aofStr, aconvSame, isU8, abuildSlice, afill, splice, azeros, Nat.reduceLeDiff, Nat.reduceLT, Int.reduceLE, Int.reduceLT, Int.reduceEq, Int.reduceToNat, Int.reducePow, IntKind.bits, Int.reduceNeg, RB, aalloc, Go.PW.dig_length, tf28RfR, k1, k2, k3, k6, k8, k9, k10, f1])
        · have hsh : sh i k s = s := if_neg hc1
          rw [hsh]
          repeat' first
            | (with_reducible first | refine AWp_seq_k (fun K hK => ?_) | refine AWp_skip ?_ | refine AWp_regionE ?_ | refine AWp_condI ?_)
            | (with_reducible refine And.intro ?_ ?_)
            | (with_reducible refine AIte (fun hc => ?_) (fun hc => ?_) <;> (try simp only [RC] at hc) <;> (try (exfalso; first | omega | contradiction)))
            | (simp only [thenA, inBlockA, reduceIte, Nat.reduceEqDiff])
            | ((with_reducible refine hK _ _ ?_); clear hK)
            | (simp only [ACond, RA, EAtS_def, EAtX_def, wantedA, acall, astep, ev, ofValue, ofAtom, Nat.reduceEqDiff, Nat.reduceAdd, Nat.reduceMul, Nat.reduceSub, reduceCtorEq, reduceIte, aoptEv, abin, aint, ashift, aun, astr, aeqGuard, isConstOp, aconvH, aofStr, aconvSame, isU8, abuildSlice, afill, splice, azeros, Nat.reduceLeDiff, Nat.reduceLT, Int.reduceLE, Int.reduceLT, Int.reduceEq, Int.reduceToNat, Int.reducePow, IntKind.bits, Int.reduceNeg, RB, aalloc, Go.PW.dig_length, tf28RfR, k1, k2, k3, k6, k8, k9, k10, f1])
      clear hK4 k1 k2 k3 k6 k8 k9 k10
      obtain ⟨rfl, k1, k2, k3, k6, k8, k9, k10, k11, k12⟩ := hcut
      refine AWp_seq_k (fun K5 hK5 => ?_)
      refine AWp_cut (fun fr' H3 => H3 = H2 ∧ fr' 1 = .int .i64 (i : Int) ∧ fr' 2 = .int .i64 (k : Int) ∧ fr' 3 = .ptr H.length 0 ∧ fr' 6 = .ptr (H.length + 1) 0 ∧ fr' 8 = .ptr h 0 ∧ fr' 9 = .int .i64 (s : Int) ∧ fr' 10 = .int .i64 (j : Int) ∧ fr' 11 = .int .i64 ((sh i k s : Nat) : Int) ∧ fr' 12 = .int .i64 ((sh i k j : Nat) : Int)) ?_ (fun fr' H3 hcut => hK5 _ _ ?_)
      · clear hK5
        by_cases hc1 : i ≤ j
        · have hsh : sh i k j = j + k := if_pos hc1
          rw [hsh]
          repeat' first
            | (with_reducible first | refine AWp_seq_k (fun K hK => ?_) | refine AWp_regionE ?_ | refine AWp_condI ?_)
            | (with_reducible refine And.intro ?_ ?_)
            | (with_reducible refine AIte (fun hc => ?_) (fun hc => ?_) <;> (try simp only [RC] at hc) <;> (try (exfalso; first | omega | contradiction)))
            | (simp only [thenA, inBlockA, reduceIte, Nat.reduceEqDiff])
            | ((with_reducible refine hK _ _ ?_); clear hK)
            | (simp only [ACond, RA, EAtS_def, EAtX_def, wantedA, acall, astep, ev, ofValue, ofAtom, Nat.reduceEqDiff, Nat.reduceAdd, Nat.reduceMul, Nat.reduceSub, reduceCtorEq, reduceIte, aoptEv, abin, aint, ashift, aun, astr, aeqGuard, isConstOp, aconvH, aofStr, aconvSame, isU8, abuildSlice, afill, splice, azeros, Nat.reduceLeDiff, Nat.reduceLT, Int.reduceLE, Int.reduceLT, Int.reduceEq, Int.reduceToNat, Int.reducePow, IntKind.bits, Int.reduceNeg, RB, aalloc, Go.PW.dig_length, tf28RfR, k1, k2, k3, k6, k8, k9, k10, k11, k12, f2])
        · have hsh : sh i k j = j := if_neg hc1
          rw [hsh]
          repeat' first
            | (with_reducible first | refine AWp_seq_k (fun K hK => ?_) | refine AWp_skip ?_ | refine AWp_regionE ?_ | refine AWp_condI ?_)
            | (with_reducible refine And.intro ?_ ?_)
            | (with_reducible refine AIte (fun hc => ?_) (fun hc => ?_) <;> (try simp only [RC] at hc) <;> (try (exfalso; first | omega | contradiction)))
            | (simp only [thenA, inBlockA, reduceIte, Nat.reduceEqDiff])
            | ((with_reducible refine hK _ _ ?_); clear hK)
            | (simp only [ACond, RA, EAtS_def, EAtX_def, wantedA, acall, astep, ev, ofValue, ofAtom, Nat.reduceEqDiff, Nat.reduceAdd, Nat.reduceMul, Nat.reduceSub, reduceCtorEq, reduceIte, aoptEv, abin, aint, ashift, aun, astr, aeqGuard, isConstOp, aconvH, aofStr, aconvSame, isU8, abuildSlice, afill, splice, azeros, Nat.reduceLeDiff, Nat.reduceLT, Int.reduceLE, Int.reduceLT, Int.reduceEq, Int.reduceToNat, Int.reducePow, IntKind.bits, Int.reduceNeg, RB, aalloc, Go.PW.dig_length, tf28RfR, k1, k2, k3, k6, k8, k9, k10, k11, k12, f2])
      clear hK5 k1 k2 k3 k6 k8 k9 k10 k11 k12
      obtain ⟨rfl, k1, k2, k3, k6, k8, k9, k10, k11, k12⟩ := hcut
      repeat' first
        | (with_reducible first | refine AWp_drawE (id := 17) [6, 10] pn28_17RfR (by kernel_rfl) (by kernel_rfl) ?_ | refine Run_pur ?_)
        | (with_reducible refine EPure_intro (fun _ x => (hAt _ x)) ?_)
        | (with_reducible refine EPure_intro (fun _ x => (at_calls _ _ _ _ (by omega) hlt hjt)) ?_)
        | (simp only [thenA, inBlockA, reduceIte, Nat.reduceEqDiff])
        | (simp only [ACond, RA, EAtS_def, EAtX_def, wantedA, acall, astep, ev, ofValue, ofAtom, Nat.reduceEqDiff, Nat.reduceAdd, Nat.reduceMul, Nat.reduceSub, reduceCtorEq, reduceIte, aoptEv, abin, aint, ashift, aun, astr, aeqGuard, isConstOp, aconvH, aofStr, aconvSame, isU8, abuildSlice, afill, splice, azeros, Nat.reduceLeDiff, Nat.reduceLT, Int.reduceLE, Int.reduceLT, Int.reduceEq, Int.reduceToNat, Int.reducePow, IntKind.bits, Int.reduceNeg, RB, aalloc, Go.PW.dig_length, tf28RfR, k1, k2, k3, k6, k8, k9, k10, k11, k12, q3, q6, q8, hat, hput])
        | (simp (disch := (first | omega | (simp only [RO]; done) | assumption | (simp only [RM, Go.PW.dig_length]; done) | (simp only [RL, Go.PW.dig_length]; omega))) only [RD, reduceCtorEq, reduceIte, Go.PW.dig_length, Nat.reduceLeDiff, Nat.reduceAdd, Nat.reduceMul, Int.reduceToNat, tf28RfR, k1, k2, k3, k6, k8, k9, k10, k11, k12, q3, q6, q8, hat, hput])
      all_goals
        refine hK3 _ _ ?_
        repeat' first
          | (with_reducible first | refine AWp_regionE ?_)
          | (simp only [thenA, inBlockA, reduceIte, Nat.reduceEqDiff])
          | (simp only [ACond, RA, EAtS_def, EAtX_def, wantedA, acall, astep, ev, ofValue, ofAtom, Nat.reduceEqDiff, Nat.reduceAdd, Nat.reduceMul, Nat.reduceSub, reduceCtorEq, reduceIte, aoptEv, abin, aint, ashift, aun, astr, aeqGuard, isConstOp, aconvH, aofStr, aconvSame, isU8, abuildSlice, afill, splice, azeros, Nat.reduceLeDiff, Nat.reduceLT, Int.reduceLE, Int.reduceLT, Int.reduceEq, Int.reduceToNat, Int.reducePow, IntKind.bits, Int.reduceNeg, RB, aalloc, Go.PW.dig_length, tf28RfR, k1, k2, k3, k6, k8, k9, k10, e2])
      all_goals
        refine ⟨_, by omega, j + 1, _, rfl, by omega, by omega, rfl, by rw [hset, if_neg (by omega)]; exact q3, by rw [hset, if_neg (by omega)]; exact q6, by rw [hset, if_neg hne]; exact q8, m.set (by omega) (by rw [List.length_set]), hry.set _ (ent_fit hr b1 b2), fun p q hp hq => ?_, x1.set (by omega) _⟩
        rw [ent_set (by omega) hlt hjt hp hq (by omega), hy p q hp hq]
        by_cases e : (p = s ∧ q = j) ∨ (p = j ∧ q = s)
        · rw [if_pos e]
          rcases e with ⟨rfl, rfl⟩ | ⟨rfl, rfl⟩
          · rw [if_pos (by unfold Upto; omega)]
          · rw [if_pos (by unfold Upto; omega), ent_comm]
        · rw [if_neg e]
          have : Upto s j p q ↔ Upto s (j + 1) p q := by unfold Upto; omega
          simp only [this]
    · obtain rfl : j = n' := by omega
      repeat' first
        | (with_reducible first | refine AWp_seq_k (fun K hK => ?_) | refine AWp_exit ?_ | refine AWp_regionE ?_ | refine AWp_condI ?_)
        | (with_reducible refine AIte (fun hc => ?_) (fun hc => ?_) <;> (try simp only [RC] at hc) <;> (try (exfalso; first | omega | contradiction)))
        | (simp only [thenA, inBlockA, reduceIte, Nat.reduceEqDiff])
        | ((with_reducible refine hK _ _ ?_); clear hK)
        | (clear hK; (with_reducible refine hK _ _ ?_); clear hK)
        | (simp only [ACond, RA, EAtS_def, EAtX_def, wantedA, acall, astep, ev, ofValue, ofAtom, Nat.reduceEqDiff, Nat.reduceAdd, Nat.reduceMul, Nat.reduceSub, reduceCtorEq, reduceIte, aoptEv, abin, aint, ashift, aun, astr, aeqGuard, isConstOp, aconvH, aofStr, aconvSame, isU8, abuildSlice, afill, splice, azeros, Nat.reduceLeDiff, Nat.reduceLT, Int.reduceLE, Int.reduceLT, Int.reduceEq, Int.reduceToNat, Int.reducePow, IntKind.bits, Int.reduceNeg, RB, aalloc, Go.PW.dig_length, tf28RfR, k1, k2, k3, k6, k8, k9, k10, q3, q6, q8, e1])
        | (simp (disch := (first | omega | (simp only [RO]; done) | assumption | (simp only [RM, Go.PW.dig_length]; done) | (simp only [RL, Go.PW.dig_length]; omega))) only [RD, reduceCtorEq, reduceIte, Go.PW.dig_length, Nat.reduceLeDiff, Nat.reduceAdd, Nat.reduceMul, Int.reduceToNat, tf28RfR, k1, k2, k3, k6, k8, k9, k10, q3, q6, q8, e1])
      all_goals
        refine ⟨_, by omega, s + 1, ys, rfl, by omega, rfl, m, hry, fun p q hp hq => ?_, x1⟩
        rw [hy p q hp hq]
        have : Upto s j p q ↔ Upto (s + 1) (s + 1) p q := by unfold Upto; omega
        simp only [this]
  · obtain rfl : s = n' := by omega
    have l6 := hget_lt q6
    repeat' first
      | (with_reducible first | refine AWp_seq_k (fun K hK => ?_) | refine AWp_exit ?_ | refine AWp_ret ?_ | refine AWp_regionE ?_ | refine AWp_condI ?_)
      | (with_reducible refine AIte (fun hc => ?_) (fun hc => ?_) <;> (try simp only [RC] at hc) <;> (try (exfalso; first | omega | contradiction)))
      | (simp only [thenA, inBlockA, reduceIte, Nat.reduceEqDiff])
      | ((with_reducible refine hK _ _ ?_); clear hK)
      | (clear hK; (with_reducible refine hK _ _ ?_); clear hK)
      | (simp only [ACond, RA, EAtS_def, EAtX_def, wantedA, acall, astep, ev, ofValue, ofAtom, Nat.reduceEqDiff, Nat.reduceAdd, Nat.reduceMul, Nat.reduceSub, reduceCtorEq, reduceIte, aoptEv, abin, aint, ashift, aun, astr, aeqGuard, isConstOp, aconvH, aofStr, aconvSame, isU8, abuildSlice, afill, splice, azeros, Nat.reduceLeDiff, Nat.reduceLT, Int.reduceLE, Int.reduceLT, Int.reduceEq, Int.reduceToNat, Int.reducePow, IntKind.bits, Int.reduceNeg, RB, aalloc, Go.PW.dig_length, tf28RfR, k1, k2, k3, k6, k8, k9, q3, q6, q8])
      | (simp (disch := first | omega | (simp only [RO]; done) | assumption) only [RS, six22, gix22, bst24_e, bst24_0, bst24_01])
      | (simp (disch := (first | omega | (simp only [RO]; done) | assumption | (simp only [RM, Go.PW.dig_length]; done) | (simp only [RL, Go.PW.dig_length]; omega))) only [RD, reduceCtorEq, reduceIte, Go.PW.dig_length, Nat.reduceLeDiff, Nat.reduceAdd, Nat.reduceMul, Int.reduceToNat, tf28RfR, k1, k2, k3, k6, k8, k9, q3, q6, q8])
    all_goals
      (
       (refine AEnd_gen (rs := [.cell 6 24, .tmp 7]) rfl ?_)
       (simp only [AEndR, aresults, Fr.put_some, Fr.put_none, fr0_zero, fr0_succ, fr0_nil, Nat.reduceEqDiff, reduceIte, k6, hget_set l6])
       (try simp (disch := (first | omega | (simp only [RO]; done) | assumption | (simp only [RM, Go.PW.dig_length]; done) | (simp only [RL, Go.PW.dig_length]; omega))) only [RD, reduceCtorEq, reduceIte, Go.PW.dig_length, Nat.reduceLeDiff, Nat.reduceAdd, Nat.reduceMul, Int.reduceToNat, tf28RfR, k6, hget_set l6]))
    all_goals
      refine ⟨b, ys, rfl, (m.other (by omega) l6 _).low (by omega), hry, fun p q hp hq => ?_, x1.set (by omega) _⟩
      rw [hy p q hp hq, if_pos (by unfold Upto; omega)]
end Go.Proofs.YtfalfmfkifemeaaGreatDoor
set_option linter.unusedVariables false
set_option linter.unusedSimpArgs false
namespace Go.Proofs.YtfalfmfkifemeaaGreatDoor
open Go.AL Go.PW Go.PD
theorem tf54RfS : type_of% (And.intro @tyb3 (And.intro @tyb4 (And.intro @tyb31 (And.intro @tyb32 (And.intro @tyb33 (And.intro @tyb44 (And.intro @tyb45 (@tyb46)))))))) := And.intro @tyb3 (And.intro @tyb4 (And.intro @tyb31 (And.intro @tyb32 (And.intro @tyb33 (And.intro @tyb44 (And.intro @tyb45 (@tyb46)))))))
abbrev pn54_3RfS : Plan := (.one 0 (.one 1 (.one 2 (.one 3 (.one 4 (.one 5 (.one 6 (.one 7 (.one 8 (.one 9 (.one 10 (.one 11 (.one 12 (.ext 13 (.one 14 (.one 15 (.one 16 (.one 17 (.one 18 .nil)))))))))))))))))))
abbrev pn54_5RfS : Plan := (.one 0 (.one 1 (.one 2 (.one 3 .nil))))
set_option maxRecDepth 8000
theorem set_same {H : Hp} {h : Nat} {b : Blk} (hg : hget H h = some b) : H.set h b = H := by
  apply List.ext_getElem?
  intro k
  rw [List.getElem?_set]
  by_cases e : h = k
  · subst e
    have hl := hget_lt hg
    rw [if_pos rfl, if_pos hl]
    exact hg.symm
  · rw [if_neg e]
theorem copy_limbs {H : Hp} {h : Nat} {xs : List Int} {s : AV} (hg : hget H h = some (Wb 0)) (hs : Ints H .u64 s xs) (hL : Limbs xs) (hl : xs.length ≤ 16) : acopy Tryz.prog H 44 (.sl h 0 16 16) s = some (.int .i64 (xs.length : Nat), H.set h (Wb (val xs))) := by
  have hm : min xs.length 16 = xs.length := by omega
  unfold acopy
  simp only [und44, size31, hs.rd.row, hm]
  by_cases h0 : xs.length = 0
  · rw [if_pos h0]
    obtain rfl : xs = [] := List.eq_nil_of_length_eq_zero h0
    rw [show val [] = 0 from rfl, set_same hg]
    rfl
  · rw [if_neg h0]
    simp only [hg]
    have hb := val_bound hL
    have hb2 : Bs ^ xs.length ≤ Bs ^ 16 := pow_mono (by omega)
    have hz : ∀ k, val ((dig 16 0).drop k) = 0 := fun k => by
      have h1 := val_take_drop (dig 16 0) k
      have h2 : val (dig 16 0) = 0 := by rw [val_dig]; rfl
      have h3 := val_bound ((dig_limbs 16 0).take k)
      have h4 := val_bound ((dig_limbs 16 0).drop k)
      have h5 := Bs_pow_pos (min k (dig 16 0).length)
      rcases Int.lt_or_le 0 (val ((dig 16 0).drop k)) with h | h
      · have := Int.mul_pos h5 h; omega
      · omega
    have hd : xs ++ (dig 16 0).drop xs.length = dig 16 (val xs) := by
      refine dig_of_val (Limbs.append.2 ⟨hL, (dig_limbs 16 0).drop _⟩) (by rw [List.length_append, List.length_drop, dig_length]; omega) ?_
      rw [val_append, hz, Int.mul_zero, Int.add_zero, Int.emod_eq_of_lt hb.1 (by omega)]
    have hsp : splice ((dig 16 0).map (AV.int .u64)) 0 ((xs.map (AV.int .u64)).take (xs.length * 1)) = (dig 16 (val xs)).map (AV.int .u64) := by
      rw [List.take_of_length_le (by rw [List.length_map]; omega)]
      simp only [splice, List.take_zero, List.nil_append, List.length_map, Nat.zero_add]
      rw [← List.map_drop, ← List.map_append, hd]
    have hlen : ((dig 16 0).map (AV.int .u64)).length = 16 := by rw [List.length_map, dig_length]
    rw [if_pos ⟨trivial, ints_one _ _, by rw [hlen]; omega, by decide⟩, hsp]
theorem foldr_true {α : Type} {f : α → Option Bool → Option Bool} : ∀ {l : List α}, (∀ a ∈ l, f a (some true) = some true) → l.foldr f (some true) = some true
  | [], _ => rfl
  | a :: l, h => by
    rw [List.foldr_cons, foldr_true (fun b hb => h b (by simp [hb])), h a (by simp)]
theorem eq_wide (x : Int) : aeqIn Tryz.prog Op.maxDepth 33 (W x) (W x) = some true := by
  have h : ∀ d, aeqIn Tryz.prog (d + 1 + 1) 33 (W x) (W x) = some true := by
    intro d
    unfold W
    unfold aeqIn
    simp only [und33, size31]
    refine foldr_true fun i hi => ?_
    have hi := List.mem_range.1 hi
    have e : apart Tryz.prog 31 ((dig 16 x).map (AV.int .u64)) (i * 1) = some (.int .u64 ((dig 16 x).getD i 0)) := by
      unfold apart
      simp only [agg31]
      rw [Nat.mul_one]
      exact map_get (AV.int .u64) (dig 16 x) 0 (by rw [dig_length]; omega)
    rw [e]
    simp only [aeqIn, und31, if_true, beq_self_eq_true, Bool.and_self]
  exact h (Op.maxDepth - 2)
theorem Can.at_most {xs : List Int} (c : Can xs) {k : Nat} (h : val xs < Bs ^ k) : xs.length ≤ k := by
  rcases Nat.lt_or_ge k xs.length with h1 | h1
  · have h2 := c.low (by omega)
    have h3 : Bs ^ k ≤ Bs ^ (xs.length - 1) := pow_mono (by omega)
    omega
  · exact h1
set_option maxHeartbeats 4000000 in
theorem ToWide_calls (x : Int) (s : AV) (H : Hp) (hs : Bs_ H s x) (hx : (x.natAbs : Int) < Bs ^ 15) : ACalls Tryz.prog 54 [BV x s] H fun r H' => r = .tup [W x, .bool true] ∧ H = H' := by
  refine ACalls.drop (R := fun r => r = .tup [W x, .bool true]) ?_
  obtain ⟨xs, u, c, vx⟩ := hs.ex
  have hs1 := hs.one
  have hc1 : s.cells = [s] := hs.cells
  have hl := c.at_most (k := 15) (by rw [vx]; exact hx)
  have hbits : bits_ xs ≤ 960 := by
    unfold bits_
    split
    · omega
    · have hb := c.lim.get (xs.length - 1)
      have : bl (xs.getD (xs.length - 1) 0).toNat ≤ 64 := bl_le (by simp only [Bs] at hb; omega)
      omega
  have f1 : (((bits_ xs : Nat) : Int) > 1024) = False := eq_false (by omega)
  have f2 : (((bits_ xs : Nat) : Int) = 1024) = False := eq_false (by omega)
  have hcp := copy_limbs (H := H ++ [⟨[.bool (decide (x < 0)), s], .own, 46⟩] ++ [Wb 0] ++ [Wb 0]) (h := H.length + 1 + 1) (hget_at (by simp)) (u.rd.ext (ext5 _ _ _)) c.lim (by omega)
  rw [List.set_append_right _ _ (by simp), vx] at hcp
  simp only [List.length_append, List.length_cons, List.length_nil, Nat.zero_add, Nat.sub_self, List.set_cons_zero] at hcp
  have hb15 : Bs ^ 15 ≤ Bs ^ 16 := pow_mono (by omega)
  have hsz := fun H0 (x0 : Ext H H0) => size_calls s xs H0 (u.rd.ext x0) c
  refine ACalls_body Tryz.func54 rfl (by kernel_rfl) (by kernel_rfl) ?_
  by_cases hn : x < 0
  · have e1 : decide (x < 0) = true := decide_eq_true hn
    rw [e1] at hcp
    repeat' first
      | (with_reducible first | refine AWp_seq_k (fun K hK => ?_) | refine AWp_block ?_ | refine AWp_skip ?_ | refine AWp_regionE ?_ | refine AWp_drawE (id := 3) [13] pn54_3RfS (by kernel_rfl) (by kernel_rfl) ?_ | refine AWp_drawE (id := 5) [] pn54_5RfS (by kernel_rfl) (by kernel_rfl) ?_ | refine AWp_condI ?_ | refine Run_ext ?_)
      | ((with_reducible refine ECall_intro (hsz _ ((Ext.push _ _).pushed _)) ?_); rintro _ _ ⟨rfl, rfl⟩)
      | (with_reducible refine EGuard_split (fun hc => ?_) (fun hc => ?_) <;> (try simp only [RC] at hc) <;> (try (exfalso; first | omega | contradiction)))
      | (simp only [thenA, inBlockA, reduceIte, Nat.reduceEqDiff])
      | ((with_reducible refine hK _ _ ?_); clear hK)
      | (simp only [ACond, RA, EAtS_def, EAtX_def, wantedA, acall, astep, ev, ofValue, ofAtom, Nat.reduceEqDiff, Nat.reduceAdd, Nat.reduceMul, Nat.reduceSub, reduceCtorEq, reduceIte, aoptEv, abin, aint, ashift, aun, astr, aeqGuard, isConstOp, aconvH, aofStr, aconvSame, isU8, abuildSlice, afill, splice, azeros, Nat.reduceLeDiff, Nat.reduceLT, Int.reduceLE, Int.reduceLT, Int.reduceEq, Int.reduceToNat, Int.reducePow, IntKind.bits, Int.reduceNeg, RB, aalloc, Go.PW.dig_length, tf54RfS, f1, f2, hcp, e1])
      | (simp (disch := first | omega | (simp only [RO]; done) | assumption) only [RS, six44, gix44, idx32, slh32, idx33, slh33, bst46_e, bst46_01])
      | (simp (disch := (first | omega | (simp only [RO]; done) | assumption | (simp only [RM, Go.PW.dig_length]; done) | (simp only [RL, Go.PW.dig_length]; omega))) only [RD, reduceCtorEq, reduceIte, Go.PW.dig_length, Nat.reduceLeDiff, Nat.reduceAdd, Nat.reduceMul, Int.reduceToNat, tf54RfS, f1, f2, hcp, e1])
    obtain ⟨N, hN⟩ : ∃ N : Int, N = x.natAbs := ⟨_, rfl⟩
    rw [← hN]
    have hNx : x = -N := by omega
    have hN0 : 0 < N ∧ N < Bs ^ 16 := by omega
    have hvN : val (dig 16 N) = N := by rw [val_dig, Int.emod_eq_of_lt (by omega) hN0.2]
    refine AWp_loop (fun m fr' H1 => ∃ (i : Nat) (ys : List Int) (cc : Int), m = 16 - i ∧ i ≤ 16 ∧ fr' 2 = .ptr (H.length + 1) 0 ∧ fr' 5 = .ptr (H.length + 1 + 1) 0 ∧ fr' 6 = .int .u64 cc ∧ fr' 7 = .int .i64 (i : Int) ∧ (0 ≤ cc ∧ cc ≤ 1) ∧ ys.length = 16 ∧ Limbs ys ∧ (∀ k, i ≤ k → ys.getD k 0 = (dig 16 N).getD k 0) ∧
        val (ys.take i) + Bs ^ i * cc = Bs ^ i - val ((dig 16 N).take i) ∧ H ++ [⟨[.bool true, s], .own, 46⟩] ++ [Wb 0] ++ [⟨ys.map (AV.int .u64), .own, 33⟩] = H1) (m := 16)
      ⟨0, dig 16 N, 1, by omega, by omega, rfl, rfl, rfl, rfl, ⟨by omega, by omega⟩, dig_length _ _, dig_limbs _ _, fun _ _ => rfl, by simp [val], rfl⟩ ?_
    rintro m fr' H1 ⟨i, ys, cc, rfl, hi, k2, k5, k6, k7, hcc, hyl, hys, hyk, hy, rfl⟩
    by_cases hlt : i < 16
    · have hd := hys.get i
      have e1 : IntKind.i64.wrap ((i : Int) + 1) = ((i + 1 : Nat) : Int) := by rw [wrap_i64_id (by omega) (by omega)]; omega
      have hnn : 0 ≤ Bs - 1 - ys.getD i 0 := by omega
      repeat' first
        | (with_reducible first | refine AWp_seq_k (fun K hK => ?_) | refine AWp_block ?_ | refine AWp_skip ?_ | refine AWp_regionE ?_ | refine AWp_condI ?_)
        | ((with_reducible refine ECall_introX (add64 _ _ _ _ hnn (by decide) hcc) ?_); rintro _ _ ⟨rfl, rfl⟩)
        | (with_reducible refine AIte (fun hc => ?_) (fun hc => ?_) <;> (try simp only [RC] at hc) <;> (try (exfalso; first | omega | contradiction)))
        | (simp only [thenA, inBlockA, reduceIte, Nat.reduceEqDiff])
        | ((with_reducible refine hK _ _ ?_); clear hK)
        | (simp only [ACond, RA, EAtS_def, EAtX_def, wantedA, acall, astep, ev, ofValue, ofAtom, Nat.reduceEqDiff, Nat.reduceAdd, Nat.reduceMul, Nat.reduceSub, reduceCtorEq, reduceIte, aoptEv, abin, aint, ashift, aun, astr, aeqGuard, isConstOp, aconvH, aofStr, aconvSame, isU8, abuildSlice, afill, splice, azeros, Nat.reduceLeDiff, Nat.reduceLT, Int.reduceLE, Int.reduceLT, Int.reduceEq, Int.reduceToNat, Int.reducePow, IntKind.bits, Int.reduceNeg, RB, aalloc, Go.PW.dig_length, tf54RfS, k2, k5, k6, k7, e1, not64 hd.1 hd.2])
        | (simp (disch := first | omega | (simp only [RO]; done) | assumption) only [RS, hyl, six44, gix44, idx32, slh32, idx33, slh33, bst46_e, bst46_01])
        | (simp (disch := (first | omega | (simp only [RO]; done) | assumption | (simp only [RM, Go.PW.dig_length]; done) | (simp only [RL, Go.PW.dig_length]; omega))) only [RD, reduceCtorEq, reduceIte, Go.PW.dig_length, Nat.reduceLeDiff, Nat.reduceAdd, Nat.reduceMul, Int.reduceToNat, tf54RfS, k2, k5, k6, k7, e1, not64 hd.1 hd.2])
      all_goals
        generalize hS : Bs - 1 - ys.getD i 0 + 0 + cc = S
        have hS0 : 0 ≤ S ∧ S < 2 * Bs := by simp only [Bs] at *; omega
        have hm := Int.emod_add_mul_ediv S Bs
        have hm0 := Int.emod_nonneg S (b := Bs) (by decide)
        have hm1 := Int.emod_lt_of_pos S (b := Bs) (by decide)
        have hq : 0 ≤ S / Bs ∧ S / Bs ≤ 1 := by simp only [Bs] at *; omega
        refine ⟨_, by omega, i + 1, ys.set i (S % Bs), _, rfl, by omega, rfl, rfl, hq, by rw [List.length_set]; exact hyl, hys.set i ⟨hm0, hm1⟩, fun k hk => ?_, ?_, rfl⟩
        · rw [getD_set _ _ (by omega), if_neg (by omega)]; exact hyk k (by omega)
        · have hv := val_take_succ (dig 16 N) (i := i) (by rw [dig_length]; exact hlt)
          have hv2 := val_take_succ (ys.set i (S % Bs)) (i := i) (by rw [List.length_set]; omega)
          rw [getD_set _ _ (by omega), if_pos rfl, List.take_set_of_le (Nat.le_refl _)] at hv2
          rw [hv, hv2, Int.pow_succ, ← hyk i (Nat.le_refl _)]
          have : ys.getD i 0 = Bs - 1 + cc - S := by omega
          rw [this]
          generalize Bs ^ i = p at *
          have h9 : p * S = p * (S % Bs) + p * Bs * (S / Bs) := by rw [Int.mul_assoc, ← Int.mul_add, hm]
          generalize Bs = B at *
          grind
    · obtain rfl : i = 16 := by omega
      repeat' first
        | (with_reducible first | refine AWp_seq_k (fun K hK => ?_) | refine AWp_exit ?_ | refine AWp_ret ?_ | refine AWp_regionE ?_ | refine AWp_condI ?_)
        | (simp only [thenA, inBlockA, reduceIte, Nat.reduceEqDiff])
        | ((with_reducible refine hK _ _ ?_); clear hK)
        | (clear hK; (with_reducible refine hK _ _ ?_); clear hK)
        | (simp only [ACond, RA, EAtS_def, EAtX_def, wantedA, acall, astep, ev, ofValue, ofAtom, Nat.reduceEqDiff, Nat.reduceAdd, Nat.reduceMul, Nat.reduceSub, reduceCtorEq, reduceIte, aoptEv, abin, aint, ashift, aun, astr, aeqGuard, isConstOp, aconvH, aofStr, aconvSame, isU8, abuildSlice, afill, splice, azeros, Nat.reduceLeDiff, Nat.reduceLT, Int.reduceLE, Int.reduceLT, Int.reduceEq, Int.reduceToNat, Int.reducePow, IntKind.bits, Int.reduceNeg, RB, aalloc, Go.PW.dig_length, tf54RfS, k2, k5, k6, k7])
        | (simp (disch := (first | omega | (simp only [RO]; done) | assumption | (simp only [RM, Go.PW.dig_length]; done) | (simp only [RL, Go.PW.dig_length]; omega))) only [RD, reduceCtorEq, reduceIte, Go.PW.dig_length, Nat.reduceLeDiff, Nat.reduceAdd, Nat.reduceMul, Int.reduceToNat, tf54RfS, k2, k5, k6, k7])
      all_goals
        (
         (refine AEnd_gen (rs := [.cell 2 33, .tmp 3]) rfl ?_)
         (simp only [AEndR, aresults, Fr.put_some, Fr.put_none, fr0_zero, fr0_succ, fr0_nil, Nat.reduceEqDiff, reduceIte, k2])
         (try simp (disch := (first | omega | (simp only [RO]; done) | assumption | (simp only [RM, Go.PW.dig_length]; done) | (simp only [RL, Go.PW.dig_length]; omega))) only [RD, reduceCtorEq, reduceIte, Go.PW.dig_length, Nat.reduceLeDiff, Nat.reduceAdd, Nat.reduceMul, Int.reduceToNat, tf54RfS, k2]))
      have e1 : ys.take 16 = ys := List.take_of_length_le (by omega)
      have e2 : (dig 16 N).take 16 = dig 16 N := List.take_of_length_le (by rw [dig_length]; omega)
      rw [e1, e2, hvN] at hy
      have h1 := val_bound hys
      rw [hyl] at h1
      have hc0 : cc = 0 := by
        rcases Int.lt_or_le cc 1 with h | h
        · omega
        · exfalso
          obtain rfl : cc = 1 := by omega
          omega
      rw [hc0] at hy
      have hyd : ys = dig 16 x := by
        refine dig_of_val hys hyl ?_
        have : x = val ys + Bs ^ 16 * (-1) := by omega
        rw [this, Int.add_mul_emod_self_left, Int.emod_eq_of_lt h1.1 h1.2]
      all_goals
        refine ⟨((Ext.push _ _).pushed _).pushed _, ?_, ?_⟩
        · first | exact W_tupb_lt _ _ _ | (rw [hyd]; exact W_tupb_lt _ _ _) | simp [AV.lt, AV.lts, AV.lts_iff]
        · rw [hyd]
  · have e1 : decide (x < 0) = false := decide_eq_false hn
    rw [e1] at hcp
    repeat' first
      | (with_reducible first | refine AWp_seq_k (fun K hK => ?_) | refine AWp_skip ?_ | refine AWp_ret ?_ | refine AWp_regionE ?_ | refine AWp_drawE (id := 3) [13] pn54_3RfS (by kernel_rfl) (by kernel_rfl) ?_ | refine AWp_drawE (id := 5) [] pn54_5RfS (by kernel_rfl) (by kernel_rfl) ?_ | refine AWp_condI ?_ | refine Run_ext ?_)
      | ((with_reducible refine ECall_intro (hsz _ ((Ext.push _ _).pushed _)) ?_); rintro _ _ ⟨rfl, rfl⟩)
      | (with_reducible refine EGuard_split (fun hc => ?_) (fun hc => ?_) <;> (try simp only [RC] at hc) <;> (try (exfalso; first | omega | contradiction)))
      | (simp only [thenA, inBlockA, reduceIte, Nat.reduceEqDiff])
      | ((with_reducible refine hK _ _ ?_); clear hK)
      | (simp only [ACond, RA, EAtS_def, EAtX_def, wantedA, acall, astep, ev, ofValue, ofAtom, Nat.reduceEqDiff, Nat.reduceAdd, Nat.reduceMul, Nat.reduceSub, reduceCtorEq, reduceIte, aoptEv, abin, aint, ashift, aun, astr, aeqGuard, isConstOp, aconvH, aofStr, aconvSame, isU8, abuildSlice, afill, splice, azeros, Nat.reduceLeDiff, Nat.reduceLT, Int.reduceLE, Int.reduceLT, Int.reduceEq, Int.reduceToNat, Int.reducePow, IntKind.bits, Int.reduceNeg, RB, aalloc, Go.PW.dig_length, tf54RfS, f1, f2, hcp, e1])
      | (simp (disch := first | omega | (simp only [RO]; done) | assumption) only [RS, six44, gix44, idx32, slh32, idx33, slh33, bst46_e, bst46_01])
      | (simp (disch := (first | omega | (simp only [RO]; done) | assumption | (simp only [RM, Go.PW.dig_length]; done) | (simp only [RL, Go.PW.dig_length]; omega))) only [RD, reduceCtorEq, reduceIte, Go.PW.dig_length, Nat.reduceLeDiff, Nat.reduceAdd, Nat.reduceMul, Int.reduceToNat, tf54RfS, f1, f2, hcp, e1])
    all_goals
      (
       (refine AEnd_gen (rs := [.cell 2 33, .tmp 3]) rfl ?_)
       (simp only [AEndR, aresults, Fr.put_some, Fr.put_none, fr0_zero, fr0_succ, fr0_nil, Nat.reduceEqDiff, reduceIte])
       (try simp (disch := (first | omega | (simp only [RO]; done) | assumption | (simp only [RM, Go.PW.dig_length]; done) | (simp only [RL, Go.PW.dig_length]; omega))) only [RD, reduceCtorEq, reduceIte, Go.PW.dig_length, Nat.reduceLeDiff, Nat.reduceAdd, Nat.reduceMul, Int.reduceToNat, tf54RfS]))
    all_goals
      have hxx : ((x.natAbs : Nat) : Int) = x := by omega
      rw [hxx]
      exact ⟨((Ext.push _ _).pushed _).pushed _, W_tupb_lt _ _ _, rfl⟩
end Go.Proofs.YtfalfmfkifemeaaGreatDoor

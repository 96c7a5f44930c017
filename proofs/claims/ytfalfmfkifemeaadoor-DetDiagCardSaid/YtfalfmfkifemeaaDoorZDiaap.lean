/- Part 16 of the proof of laws of this seat: lemmas on the model's code, on this program's functions, on numbers. No condition. -/
import Derived.Test.YtfalfmfkifemeaaDoorZDiaao
set_option linter.unusedVariables false
set_option linter.unusedSimpArgs false
namespace Go.Proofs.YtfalfmfkifemeaaDoor
open Go.AL Go.PW
theorem tf44SyA : type_of% (@tyb2) := @tyb2
theorem tf43SyA : type_of% (@tyb3) := @tyb3
theorem tf58SyA : type_of% (@tyb3) := @tyb3
theorem tf24SyA : type_of% (@tyb3) := @tyb3
theorem tf26SyA : type_of% (And.intro @tyb2 (And.intro @tyb3 (And.intro @tyb4 (And.intro @tyb22 (And.intro @tyb24 (@tyb25)))))) := And.intro @tyb2 (And.intro @tyb3 (And.intro @tyb4 (And.intro @tyb22 (And.intro @tyb24 (@tyb25)))))
theorem tf22SyA : type_of% (And.intro @tyb2 (And.intro @tyb3 (And.intro @tyb22 (And.intro @tyb24 (@tyb25))))) := And.intro @tyb2 (And.intro @tyb3 (And.intro @tyb22 (And.intro @tyb24 (@tyb25))))
abbrev pn26_1SyA : Plan := (.one 0 (.one 1 (.one 2 (.one 3 (.one 4 (.one 5 (.one 6 (.one 7 (.one 8 (.one 9 (.one 12 (.one 13 (.pur 14 (.one 10 (.one 11 (.one 15 (.one 16 .nil)))))))))))))))))
set_option maxRecDepth 8000
/-- Which matrices may be. -/
def Fit (x : Int) : Prop := -1073741824 ≤ x ∧ x ≤ 1073741824
instance (x : Int) : Decidable (Fit x) := inferInstanceAs (Decidable (_ ∧ _))
def Right (n : Int) (xs : List Int) : Prop := (0 ≤ n ∧ n ≤ 8 ∧ (xs.length : Int) = n * (n + 1) / 2) ∧ ∀ x ∈ xs, Fit x
instance (n : Int) (xs : List Int) : Decidable (Right n xs) := inferInstanceAs (Decidable (_ ∧ _))
theorem fits_calls (x : Int) (H : Hp) : ACalls Tryd.prog 44 [.int .i64 x] H fun r H' => r = .bool (decide (Fit x)) ∧ H = H' := by
  have key : ∀ b, decide (Fit x) = b → ACalls Tryd.prog 44 [.int .i64 x] H fun r H' => r = .bool (decide (Fit x)) ∧ H = H' := by
    intro b hb
    by_cases h1 : -1073741824 ≤ x <;> by_cases h2 : x ≤ 1073741824
    · have hf : decide (Fit x) = true := decide_eq_true ⟨h1, h2⟩
      refine ACalls_body Tryd.func44 rfl (by kernel_rfl) (by kernel_rfl) ?_
      repeat' first
        | (with_reducible first | refine AWp_seq_k (fun K hK => ?_) | refine AWp_ret ?_ | refine AWp_regionE ?_)
        | (with_reducible refine EGuard_split (fun hc => ?_) (fun hc => ?_) <;> (try simp only [RC] at hc) <;> (try (exfalso; first | omega | contradiction)))
        | (simp only [thenA, inBlockA, reduceIte, Nat.reduceEqDiff])
        | ((with_reducible refine hK _ _ ?_); clear hK)
        | (simp only [ACond, RA, EAtS_def, EAtX_def, wantedA, acall, astep, ev, ofValue, ofAtom, Nat.reduceEqDiff, Nat.reduceAdd, Nat.reduceMul, Nat.reduceSub, reduceCtorEq, reduceIte, aoptEv, abin, aint, ashift, aun, astr, aeqGuard, isConstOp, aconvH, aofStr, aconvSame, isU8, abuildSlice, afill, splice, azeros, Nat.reduceLeDiff, Nat.reduceLT, Int.reduceLE, Int.reduceLT, Int.reduceEq, Int.reduceToNat, Int.reducePow, IntKind.bits, Int.reduceNeg, RB, aalloc, Go.PW.dig_length, tf44SyA])
        | (simp (disch := first | omega | (simp only [RO]; done) | assumption) only [RS])
      all_goals
        (
         (refine AEnd_gen (rs := [.tmp 2]) rfl ?_)
         (simp only [AEndR, aresults, Fr.put_some, Fr.put_none, fr0_zero, fr0_succ, fr0_nil, Nat.reduceEqDiff, reduceIte])
         (try simp (disch := (first | omega | (simp only [RO]; done) | assumption | (simp only [RM, Go.PW.dig_length]; done) | (simp only [RL, Go.PW.dig_length]; omega))) only [RD, reduceCtorEq, reduceIte, Go.PW.dig_length, Nat.reduceLeDiff, Nat.reduceAdd, Nat.reduceMul, Int.reduceToNat, tf44SyA]))
      all_goals simp [hf, h2]
    · have hf : decide (Fit x) = false := decide_eq_false fun h => h2 h.2
      refine ACalls_body Tryd.func44 rfl (by kernel_rfl) (by kernel_rfl) ?_
      repeat' first
        | (with_reducible first | refine AWp_seq_k (fun K hK => ?_) | refine AWp_ret ?_ | refine AWp_regionE ?_)
        | (with_reducible refine EGuard_split (fun hc => ?_) (fun hc => ?_) <;> (try simp only [RC] at hc) <;> (try (exfalso; first | omega | contradiction)))
        | (simp only [thenA, inBlockA, reduceIte, Nat.reduceEqDiff])
        | ((with_reducible refine hK _ _ ?_); clear hK)
        | (simp only [ACond, RA, EAtS_def, EAtX_def, wantedA, acall, astep, ev, ofValue, ofAtom, Nat.reduceEqDiff, Nat.reduceAdd, Nat.reduceMul, Nat.reduceSub, reduceCtorEq, reduceIte, aoptEv, abin, aint, ashift, aun, astr, aeqGuard, isConstOp, aconvH, aofStr, aconvSame, isU8, abuildSlice, afill, splice, azeros, Nat.reduceLeDiff, Nat.reduceLT, Int.reduceLE, Int.reduceLT, Int.reduceEq, Int.reduceToNat, Int.reducePow, IntKind.bits, Int.reduceNeg, RB, aalloc, Go.PW.dig_length, tf44SyA])
        | (simp (disch := first | omega | (simp only [RO]; done) | assumption) only [RS])
      all_goals
        (
         (refine AEnd_gen (rs := [.tmp 2]) rfl ?_)
         (simp only [AEndR, aresults, Fr.put_some, Fr.put_none, fr0_zero, fr0_succ, fr0_nil, Nat.reduceEqDiff, reduceIte])
         (try simp (disch := (first | omega | (simp only [RO]; done) | assumption | (simp only [RM, Go.PW.dig_length]; done) | (simp only [RL, Go.PW.dig_length]; omega))) only [RD, reduceCtorEq, reduceIte, Go.PW.dig_length, Nat.reduceLeDiff, Nat.reduceAdd, Nat.reduceMul, Int.reduceToNat, tf44SyA]))
      all_goals simp [hf, h2]
    all_goals
      have hf : decide (Fit x) = false := decide_eq_false fun h => h1 h.1
      refine ACalls_body Tryd.func44 rfl (by kernel_rfl) (by kernel_rfl) ?_
      repeat' first
        | (with_reducible first | refine AWp_seq_k (fun K hK => ?_) | refine AWp_ret ?_ | refine AWp_regionE ?_)
        | (with_reducible refine EGuard_split (fun hc => ?_) (fun hc => ?_) <;> (try simp only [RC] at hc) <;> (try (exfalso; first | omega | contradiction)))
        | (simp only [thenA, inBlockA, reduceIte, Nat.reduceEqDiff])
        | ((with_reducible refine hK _ _ ?_); clear hK)
        | (simp only [ACond, RA, EAtS_def, EAtX_def, wantedA, acall, astep, ev, ofValue, ofAtom, Nat.reduceEqDiff, Nat.reduceAdd, Nat.reduceMul, Nat.reduceSub, reduceCtorEq, reduceIte, aoptEv, abin, aint, ashift, aun, astr, aeqGuard, isConstOp, aconvH, aofStr, aconvSame, isU8, abuildSlice, afill, splice, azeros, Nat.reduceLeDiff, Nat.reduceLT, Int.reduceLE, Int.reduceLT, Int.reduceEq, Int.reduceToNat, Int.reducePow, IntKind.bits, Int.reduceNeg, RB, aalloc, Go.PW.dig_length, tf44SyA])
        | (simp (disch := first | omega | (simp only [RO]; done) | assumption) only [RS])
      all_goals
        (
         (refine AEnd_gen (rs := [.tmp 2]) rfl ?_)
         (simp only [AEndR, aresults, Fr.put_some, Fr.put_none, fr0_zero, fr0_succ, fr0_nil, Nat.reduceEqDiff, reduceIte])
         (try simp (disch := (first | omega | (simp only [RO]; done) | assumption | (simp only [RM, Go.PW.dig_length]; done) | (simp only [RL, Go.PW.dig_length]; omega))) only [RD, reduceCtorEq, reduceIte, Go.PW.dig_length, Nat.reduceLeDiff, Nat.reduceAdd, Nat.reduceMul, Int.reduceToNat, tf44SyA]))
      all_goals simp [hf]
  exact key _ rfl
theorem room_calls (n : Int) (H : Hp) (h0 : 0 ≤ n) (h8 : n ≤ 8) : ACalls Tryd.prog 43 [.int .i64 n] H fun r H' => r = .int .i64 (n * (n + 1) / 2) ∧ H = H' := by
  obtain ⟨k, rfl⟩ := Int.eq_ofNat_of_zero_le h0
  have key : ∀ k : Fin 9, IntKind.i64.wrap (Int.tdiv (IntKind.i64.wrap ((k.1 : Int) * IntKind.i64.wrap (k.1 + 1))) 2) = (k.1 : Int) * (k.1 + 1) / 2 := by decide +kernel
  have e := key ⟨k, by omega⟩
  simp only at e
  refine ACalls_body Tryd.func43 rfl (by kernel_rfl) (by kernel_rfl) ?_
  repeat' first
    | (with_reducible first | refine AWp_seq_k (fun K hK => ?_) | refine AWp_ret ?_ | refine AWp_regionE ?_)
    | (simp only [thenA, inBlockA, reduceIte, Nat.reduceEqDiff])
    | ((with_reducible refine hK _ _ ?_); clear hK)
    | (simp only [ACond, RA, EAtS_def, EAtX_def, wantedA, acall, astep, ev, ofValue, ofAtom, Nat.reduceEqDiff, Nat.reduceAdd, Nat.reduceMul, Nat.reduceSub, reduceCtorEq, reduceIte, aoptEv, abin, aint, ashift, aun, astr, aeqGuard, isConstOp, aconvH, aofStr, aconvSame, isU8, abuildSlice, afill, splice, azeros, Nat.reduceLeDiff, Nat.reduceLT, Int.reduceLE, Int.reduceLT, Int.reduceEq, Int.reduceToNat, Int.reducePow, IntKind.bits, Int.reduceNeg, RB, aalloc, Go.PW.dig_length, tf43SyA, e])
  (
   (refine AEnd_gen (rs := [.tmp 2]) rfl ?_)
   (simp only [AEndR, aresults, Fr.put_some, Fr.put_none, fr0_zero, fr0_succ, fr0_nil, Nat.reduceEqDiff, reduceIte])
   (try simp (disch := (first | omega | (simp only [RO]; done) | assumption | (simp only [RM, Go.PW.dig_length]; done) | (simp only [RL, Go.PW.dig_length]; omega))) only [RD, reduceCtorEq, reduceIte, Go.PW.dig_length, Nat.reduceLeDiff, Nat.reduceAdd, Nat.reduceMul, Int.reduceToNat, tf43SyA]))
/-- Where an entry stands. -/
def pl (n i j : Nat) : Nat := min i j * n + max i j - min i j * (min i j - 1) / 2 - min i j
theorem pl_lt : ∀ n : Fin 9, ∀ i : Fin 9, ∀ j : Fin 9, i < n → j < n → pl n.1 i.1 j.1 < n.1 * (n.1 + 1) / 2 := by decide +kernel
theorem pl_form : ∀ n : Fin 9, ∀ i : Fin 9, ∀ j : Fin 9, j < n → i ≤ j → IntKind.i64.wrap (IntKind.i64.wrap (IntKind.i64.wrap (IntKind.i64.wrap ((i.1 : Int) * n.1) - IntKind.i64.wrap (Int.tdiv (IntKind.i64.wrap ((i.1 : Int) * IntKind.i64.wrap ((i.1 : Int) - 1))) 2)) + j.1) - i.1) = (pl n.1 i.1 j.1 : Nat) := by decide +kernel
theorem pl_comm (n i j : Nat) : pl n i j = pl n j i := by unfold pl; rw [Nat.min_comm, Nat.max_comm]
theorem place_calls (n i j : Nat) (H : Hp) (hn : n ≤ 8) (hi : i < n) (hj : j < n) : ACalls Tryd.prog 58 [.int .i64 (n : Int), .int .i64 (i : Int), .int .i64 (j : Int)] H fun r H' => r = .int .i64 (pl n i j : Nat) ∧ H = H' := by
  have e1 := fun (h : i ≤ j) => pl_form ⟨n, by omega⟩ ⟨i, by omega⟩ ⟨j, by omega⟩ hj h
  have e2 := fun (h : j ≤ i) => pl_form ⟨n, by omega⟩ ⟨j, by omega⟩ ⟨i, by omega⟩ hi h
  have e3 := pl_comm n j i
  by_cases h : i ≤ j
  · skip
    refine ACalls_body Tryd.func58 rfl (by kernel_rfl) (by kernel_rfl) ?_
    repeat' first
      | (with_reducible first | refine AWp_seq_k (fun K hK => ?_) | refine AWp_skip ?_ | refine AWp_ret ?_ | refine AWp_regionE ?_ | refine AWp_condI ?_)
      | (with_reducible refine AIte (fun hc => ?_) (fun hc => ?_) <;> (try simp only [RC] at hc) <;> (try (exfalso; first | omega | contradiction)))
      | (simp only [thenA, inBlockA, reduceIte, Nat.reduceEqDiff])
      | ((with_reducible refine hK _ _ ?_); clear hK)
      | (simp only [ACond, RA, EAtS_def, EAtX_def, wantedA, acall, astep, ev, ofValue, ofAtom, Nat.reduceEqDiff, Nat.reduceAdd, Nat.reduceMul, Nat.reduceSub, reduceCtorEq, reduceIte, aoptEv, abin, aint, ashift, aun, astr, aeqGuard, isConstOp, aconvH, aofStr, aconvSame, isU8, abuildSlice, afill, splice, azeros, Nat.reduceLeDiff, Nat.reduceLT, Int.reduceLE, Int.reduceLT, Int.reduceEq, Int.reduceToNat, Int.reducePow, IntKind.bits, Int.reduceNeg, RB, aalloc, Go.PW.dig_length, tf58SyA])
    (
     (refine AEnd_gen (rs := [.tmp 6]) rfl ?_)
     (simp only [AEndR, aresults, Fr.put_some, Fr.put_none, fr0_zero, fr0_succ, fr0_nil, Nat.reduceEqDiff, reduceIte])
     (try simp (disch := (first | omega | (simp only [RO]; done) | assumption | (simp only [RM, Go.PW.dig_length]; done) | (simp only [RL, Go.PW.dig_length]; omega))) only [RD, reduceCtorEq, reduceIte, Go.PW.dig_length, Nat.reduceLeDiff, Nat.reduceAdd, Nat.reduceMul, Int.reduceToNat, tf58SyA]))
    exact congrArg (AV.int .i64) (e1 h)
  · skip
    refine ACalls_body Tryd.func58 rfl (by kernel_rfl) (by kernel_rfl) ?_
    repeat' first
      | (with_reducible first | refine AWp_seq_k (fun K hK => ?_) | refine AWp_ret ?_ | refine AWp_regionE ?_ | refine AWp_condI ?_)
      | (with_reducible refine AIte (fun hc => ?_) (fun hc => ?_) <;> (try simp only [RC] at hc) <;> (try (exfalso; first | omega | contradiction)))
      | (simp only [thenA, inBlockA, reduceIte, Nat.reduceEqDiff])
      | ((with_reducible refine hK _ _ ?_); clear hK)
      | (simp only [ACond, RA, EAtS_def, EAtX_def, wantedA, acall, astep, ev, ofValue, ofAtom, Nat.reduceEqDiff, Nat.reduceAdd, Nat.reduceMul, Nat.reduceSub, reduceCtorEq, reduceIte, aoptEv, abin, aint, ashift, aun, astr, aeqGuard, isConstOp, aconvH, aofStr, aconvSame, isU8, abuildSlice, afill, splice, azeros, Nat.reduceLeDiff, Nat.reduceLT, Int.reduceLE, Int.reduceLT, Int.reduceEq, Int.reduceToNat, Int.reducePow, IntKind.bits, Int.reduceNeg, RB, aalloc, Go.PW.dig_length, tf58SyA])
    (
     (refine AEnd_gen (rs := [.tmp 6]) rfl ?_)
     (simp only [AEndR, aresults, Fr.put_some, Fr.put_none, fr0_zero, fr0_succ, fr0_nil, Nat.reduceEqDiff, reduceIte])
     (try simp (disch := (first | omega | (simp only [RO]; done) | assumption | (simp only [RM, Go.PW.dig_length]; done) | (simp only [RL, Go.PW.dig_length]; omega))) only [RD, reduceCtorEq, reduceIte, Go.PW.dig_length, Nat.reduceLeDiff, Nat.reduceAdd, Nat.reduceMul, Int.reduceToNat, tf58SyA]))
    exact congrArg (AV.int .i64) ((e2 (by omega)).trans (by rw [e3]))
theorem at_calls (n i j : Nat) (H : Hp) (hn : n ≤ 8) (hi : i < n) (hj : j < n) : ACalls Tryd.prog 24 [.int .i64 (n : Int), .int .i64 (i : Int), .int .i64 (j : Int)] H fun r H' => r = .int .i64 (pl n i j : Nat) ∧ H = H' := by
  have e1 := fun (h : i ≤ j) => pl_form ⟨n, by omega⟩ ⟨i, by omega⟩ ⟨j, by omega⟩ hj h
  have e2 := fun (h : j ≤ i) => pl_form ⟨n, by omega⟩ ⟨j, by omega⟩ ⟨i, by omega⟩ hi h
  have e3 := pl_comm n j i
  by_cases h : i ≤ j
  · skip
    refine ACalls_body Tryd.func24 rfl (by kernel_rfl) (by kernel_rfl) ?_
    repeat' first
      | (with_reducible first | refine AWp_seq_k (fun K hK => ?_) | refine AWp_skip ?_ | refine AWp_ret ?_ | refine AWp_regionE ?_ | refine AWp_condI ?_)
      | (with_reducible refine AIte (fun hc => ?_) (fun hc => ?_) <;> (try simp only [RC] at hc) <;> (try (exfalso; first | omega | contradiction)))
      | (simp only [thenA, inBlockA, reduceIte, Nat.reduceEqDiff])
      | ((with_reducible refine hK _ _ ?_); clear hK)
      | (simp only [ACond, RA, EAtS_def, EAtX_def, wantedA, acall, astep, ev, ofValue, ofAtom, Nat.reduceEqDiff, Nat.reduceAdd, Nat.reduceMul, Nat.reduceSub, reduceCtorEq, reduceIte, aoptEv, abin, aint, ashift, aun, astr, aeqGuard, isConstOp, aconvH, aofStr, aconvSame, isU8, abuildSlice, afill, splice, azeros, Nat.reduceLeDiff, Nat.reduceLT, Int.reduceLE, Int.reduceLT, Int.reduceEq, Int.reduceToNat, Int.reducePow, IntKind.bits, Int.reduceNeg, RB, aalloc, Go.PW.dig_length, tf24SyA])
    (
     (refine AEnd_gen (rs := [.tmp 6]) rfl ?_)
     (simp only [AEndR, aresults, Fr.put_some, Fr.put_none, fr0_zero, fr0_succ, fr0_nil, Nat.reduceEqDiff, reduceIte])
     (try simp (disch := (first | omega | (simp only [RO]; done) | assumption | (simp only [RM, Go.PW.dig_length]; done) | (simp only [RL, Go.PW.dig_length]; omega))) only [RD, reduceCtorEq, reduceIte, Go.PW.dig_length, Nat.reduceLeDiff, Nat.reduceAdd, Nat.reduceMul, Int.reduceToNat, tf24SyA]))
    exact congrArg (AV.int .i64) (e1 h)
  · skip
    refine ACalls_body Tryd.func24 rfl (by kernel_rfl) (by kernel_rfl) ?_
    repeat' first
      | (with_reducible first | refine AWp_seq_k (fun K hK => ?_) | refine AWp_ret ?_ | refine AWp_regionE ?_ | refine AWp_condI ?_)
      | (with_reducible refine AIte (fun hc => ?_) (fun hc => ?_) <;> (try simp only [RC] at hc) <;> (try (exfalso; first | omega | contradiction)))
      | (simp only [thenA, inBlockA, reduceIte, Nat.reduceEqDiff])
      | ((with_reducible refine hK _ _ ?_); clear hK)
      | (simp only [ACond, RA, EAtS_def, EAtX_def, wantedA, acall, astep, ev, ofValue, ofAtom, Nat.reduceEqDiff, Nat.reduceAdd, Nat.reduceMul, Nat.reduceSub, reduceCtorEq, reduceIte, aoptEv, abin, aint, ashift, aun, astr, aeqGuard, isConstOp, aconvH, aofStr, aconvSame, isU8, abuildSlice, afill, splice, azeros, Nat.reduceLeDiff, Nat.reduceLT, Int.reduceLE, Int.reduceLT, Int.reduceEq, Int.reduceToNat, Int.reducePow, IntKind.bits, Int.reduceNeg, RB, aalloc, Go.PW.dig_length, tf24SyA])
    (
     (refine AEnd_gen (rs := [.tmp 6]) rfl ?_)
     (simp only [AEndR, aresults, Fr.put_some, Fr.put_none, fr0_zero, fr0_succ, fr0_nil, Nat.reduceEqDiff, reduceIte])
     (try simp (disch := (first | omega | (simp only [RO]; done) | assumption | (simp only [RM, Go.PW.dig_length]; done) | (simp only [RL, Go.PW.dig_length]; omega))) only [RD, reduceCtorEq, reduceIte, Go.PW.dig_length, Nat.reduceLeDiff, Nat.reduceAdd, Nat.reduceMul, Int.reduceToNat, tf24SyA]))
    exact congrArg (AV.int .i64) ((e2 (by omega)).trans (by rw [e3]))
/-- A matrix as it is handed on. -/
abbrev SymA (n : Int) (a : AV) : AV := .agg [.int .i64 n, a]
theorem Right.nat {n : Int} {xs : List Int} (h : Right n xs) : ∃ k : Nat, n = k ∧ k ≤ 8 ∧ xs.length = k * (k + 1) / 2 := by
  obtain ⟨⟨h0, h8, hl⟩, _⟩ := h
  obtain ⟨k, rfl⟩ := Int.eq_ofNat_of_zero_le h0
  refine ⟨k, rfl, by omega, ?_⟩
  have : ((xs.length : Nat) : Int) = ((k * (k + 1) / 2 : Nat) : Int) := by rw [hl]; simp
  omega
theorem right_calls (n : Int) (xs : List Int) (a : AV) (H : Hp) (ha : Ints H .i64 a xs) (hl : xs.length < 1000000) : ACalls Tryd.prog 26 [SymA n a] H fun r H' => r = .bool (decide (Right n xs)) ∧ H = H' := by
  refine ACalls.drop (R := fun r => r = .bool (decide (Right n xs))) ?_
  have ha1 : a.one = true := ha.rd.one
  have hc : a.cells = [a] := AV.cells_one ha1
  by_cases hk : 0 ≤ n ∧ n ≤ 8 ∧ (xs.length : Int) = n * (n + 1) / 2
  · obtain ⟨h0, h8, hln⟩ := hk
    refine ACalls_body Tryd.func26 rfl (by kernel_rfl) (by kernel_rfl) ?_
    repeat' first
      | (with_reducible first | refine AWp_seq_k (fun K hK => ?_) | refine AWp_block ?_ | refine AWp_skip ?_ | refine AWp_regionE ?_ | refine AWp_drawE (id := 1) [] pn26_1SyA (by kernel_rfl) (by kernel_rfl) ?_ | refine AWp_condI ?_ | refine Run_pur ?_)
      | (with_reducible refine EPure_intro (fun _ x => (room_calls _ _ (by omega) (by omega))) ?_)
      | (with_reducible refine EGuard_split (fun hc => ?_) (fun hc => ?_) <;> (try simp only [RC] at hc) <;> (try (exfalso; first | omega | contradiction)))
      | (with_reducible refine AIte (fun hc => ?_) (fun hc => ?_) <;> (try simp only [RC] at hc) <;> (try (exfalso; first | omega | contradiction)))
      | (simp only [thenA, inBlockA, reduceIte, Nat.reduceEqDiff])
      | ((with_reducible refine hK _ _ ?_); clear hK)
      | (simp only [ACond, RA, EAtS_def, EAtX_def, wantedA, acall, astep, ev, ofValue, ofAtom, Nat.reduceEqDiff, Nat.reduceAdd, Nat.reduceMul, Nat.reduceSub, reduceCtorEq, reduceIte, aoptEv, abin, aint, ashift, aun, astr, aeqGuard, isConstOp, aconvH, aofStr, aconvSame, isU8, abuildSlice, afill, splice, azeros, Nat.reduceLeDiff, Nat.reduceLT, Int.reduceLE, Int.reduceLT, Int.reduceEq, Int.reduceToNat, Int.reducePow, IntKind.bits, Int.reduceNeg, RB, aalloc, Go.PW.dig_length, tf26SyA])
      | (simp (disch := first | omega | (simp only [RO]; done) | assumption) only [RS, ha.rd.len und22, six22, gix22, bst25_e, bst25_0, bst25_01])
      | (simp (disch := (first | omega | (simp only [RO]; done) | assumption | (simp only [RM, Go.PW.dig_length]; done) | (simp only [RL, Go.PW.dig_length]; omega))) only [RD, reduceCtorEq, reduceIte, Go.PW.dig_length, Nat.reduceLeDiff, Nat.reduceAdd, Nat.reduceMul, Int.reduceToNat, tf26SyA])
    refine AWp_loop (fun m fr' H' => ∃ i : Nat, m = xs.length - i ∧ i ≤ xs.length ∧ fr' 23 = a ∧ fr' 24 = .int .i64 (xs.length : Int) ∧ fr' 25 = .int .i64 (i : Int) ∧ (∀ j, j < i → Fit (xs.getD j 0)) ∧ H ++ [⟨[.int .i64 n, a], .own, 25⟩] = H') (m := xs.length) ⟨0, by omega, by omega, rfl, rfl, rfl, fun j hj => by omega, rfl⟩ ?_
    rintro m fr' H' ⟨i, rfl, hi, k23, k24, k25, hall, rfl⟩
    by_cases hlt : i < xs.length
    · have e1 : IntKind.i64.wrap ((i : Int) + 1) = ((i + 1 : Nat) : Int) := by rw [wrap_i64_id (by omega) (by omega)]; omega
      by_cases hF : Fit (xs.getD i 0)
      · have hf : decide (Fit (xs.getD i 0)) = true := decide_eq_true hF
        repeat' first
          | (with_reducible first | refine AWp_seq_k (fun K hK => ?_) | refine AWp_block ?_ | refine AWp_skip ?_ | refine AWp_regionE ?_ | refine AWp_condI ?_)
          | ((with_reducible refine ECall_intro (fits_calls _ _) ?_); rintro _ _ ⟨rfl, rfl⟩)
          | (with_reducible refine AIte (fun hc => ?_) (fun hc => ?_) <;> (try simp only [RC] at hc) <;> (try (exfalso; first | omega | contradiction)))
          | (simp only [thenA, inBlockA, reduceIte, Nat.reduceEqDiff])
          | ((with_reducible refine hK _ _ ?_); clear hK)
          | (simp only [ACond, RA, EAtS_def, EAtX_def, wantedA, acall, astep, ev, ofValue, ofAtom, Nat.reduceEqDiff, Nat.reduceAdd, Nat.reduceMul, Nat.reduceSub, reduceCtorEq, reduceIte, aoptEv, abin, aint, ashift, aun, astr, aeqGuard, isConstOp, aconvH, aofStr, aconvSame, isU8, abuildSlice, afill, splice, azeros, Nat.reduceLeDiff, Nat.reduceLT, Int.reduceLE, Int.reduceLT, Int.reduceEq, Int.reduceToNat, Int.reducePow, IntKind.bits, Int.reduceNeg, RB, aalloc, Go.PW.dig_length, tf26SyA, k23, k24, k25, hf, e1])
          | (simp (disch := first | omega | (simp only [RO]; done) | assumption) only [RS, ha.rd.at1 und22 size2, (ha.push _).load1 agg2, six22, gix22, bst25_e, bst25_0, bst25_01])
        refine ⟨_, ?_, i + 1, rfl, by omega, rfl, fun j hj => ?_⟩
        · omega
        · by_cases he : j = i
          · rw [he]; exact hF
          · exact hall j (by omega)
      · have hf : decide (Fit (xs.getD i 0)) = false := decide_eq_false hF
        have hr : decide (Right n xs) = false := decide_eq_false fun h => hF (h.2 _ (by
          rw [List.getD_eq_getElem?_getD, List.getElem?_eq_getElem hlt]; exact List.getElem_mem hlt))
        repeat' first
          | (with_reducible first | refine AWp_seq_k (fun K hK => ?_) | refine AWp_block ?_ | refine AWp_skip ?_ | refine AWp_ret ?_ | refine AWp_regionE ?_ | refine AWp_condI ?_)
          | ((with_reducible refine ECall_intro (fits_calls _ _) ?_); rintro _ _ ⟨rfl, rfl⟩)
          | (with_reducible refine AIte (fun hc => ?_) (fun hc => ?_) <;> (try simp only [RC] at hc) <;> (try (exfalso; first | omega | contradiction)))
          | (simp only [thenA, inBlockA, reduceIte, Nat.reduceEqDiff])
          | ((with_reducible refine hK _ _ ?_); clear hK)
          | (simp only [ACond, RA, EAtS_def, EAtX_def, wantedA, acall, astep, ev, ofValue, ofAtom, Nat.reduceEqDiff, Nat.reduceAdd, Nat.reduceMul, Nat.reduceSub, reduceCtorEq, reduceIte, aoptEv, abin, aint, ashift, aun, astr, aeqGuard, isConstOp, aconvH, aofStr, aconvSame, isU8, abuildSlice, afill, splice, azeros, Nat.reduceLeDiff, Nat.reduceLT, Int.reduceLE, Int.reduceLT, Int.reduceEq, Int.reduceToNat, Int.reducePow, IntKind.bits, Int.reduceNeg, RB, aalloc, Go.PW.dig_length, tf26SyA, k23, k24, k25, hf])
          | (simp (disch := first | omega | (simp only [RO]; done) | assumption) only [RS, ha.rd.at1 und22 size2, (ha.push _).load1 agg2, six22, gix22, bst25_e, bst25_0, bst25_01])
        (
         (refine AEnd_gen (rs := [.tmp 2]) rfl ?_)
         (simp only [AEndR, aresults, Fr.put_some, Fr.put_none, fr0_zero, fr0_succ, fr0_nil, Nat.reduceEqDiff, reduceIte])
         (try simp (disch := (first | omega | (simp only [RO]; done) | assumption | (simp only [RM, Go.PW.dig_length]; done) | (simp only [RL, Go.PW.dig_length]; omega))) only [RD, reduceCtorEq, reduceIte, Go.PW.dig_length, Nat.reduceLeDiff, Nat.reduceAdd, Nat.reduceMul, Int.reduceToNat, tf26SyA]))
        rw [hr]
        exact ⟨Ext.push _ _, trivial, rfl⟩
    · have hr : decide (Right n xs) = true := decide_eq_true ⟨⟨h0, h8, hln⟩, fun x hx => by
        obtain ⟨j, hj, rfl⟩ := List.getElem_of_mem hx
        have := hall j (by omega)
        rwa [List.getD_eq_getElem?_getD, List.getElem?_eq_getElem hj] at this⟩
      repeat' first
        | (with_reducible first | refine AWp_seq_k (fun K hK => ?_) | refine AWp_exit ?_ | refine AWp_ret ?_ | refine AWp_regionE ?_ | refine AWp_condI ?_)
        | (with_reducible refine AIte (fun hc => ?_) (fun hc => ?_) <;> (try simp only [RC] at hc) <;> (try (exfalso; first | omega | contradiction)))
        | (simp only [thenA, inBlockA, reduceIte, Nat.reduceEqDiff])
        | ((with_reducible refine hK _ _ ?_); clear hK)
        | (clear hK; (with_reducible refine hK _ _ ?_); clear hK)
        | (simp only [ACond, RA, EAtS_def, EAtX_def, wantedA, acall, astep, ev, ofValue, ofAtom, Nat.reduceEqDiff, Nat.reduceAdd, Nat.reduceMul, Nat.reduceSub, reduceCtorEq, reduceIte, aoptEv, abin, aint, ashift, aun, astr, aeqGuard, isConstOp, aconvH, aofStr, aconvSame, isU8, abuildSlice, afill, splice, azeros, Nat.reduceLeDiff, Nat.reduceLT, Int.reduceLE, Int.reduceLT, Int.reduceEq, Int.reduceToNat, Int.reducePow, IntKind.bits, Int.reduceNeg, RB, aalloc, Go.PW.dig_length, tf26SyA, k23, k24, k25])
      (
       (refine AEnd_gen (rs := [.tmp 2]) rfl ?_)
       (simp only [AEndR, aresults, Fr.put_some, Fr.put_none, fr0_zero, fr0_succ, fr0_nil, Nat.reduceEqDiff, reduceIte])
       (try simp (disch := (first | omega | (simp only [RO]; done) | assumption | (simp only [RM, Go.PW.dig_length]; done) | (simp only [RL, Go.PW.dig_length]; omega))) only [RD, reduceCtorEq, reduceIte, Go.PW.dig_length, Nat.reduceLeDiff, Nat.reduceAdd, Nat.reduceMul, Int.reduceToNat, tf26SyA]))
      rw [hr]
      exact ⟨Ext.push _ _, trivial, rfl⟩
  · have hf : decide (Right n xs) = false := decide_eq_false fun h => hk h.1
    refine ACalls_body Tryd.func26 rfl (by kernel_rfl) (by kernel_rfl) ?_
    repeat' first
      | (with_reducible first | refine AWp_seq_k (fun K hK => ?_) | refine AWp_ret ?_ | refine AWp_regionE ?_ | refine AWp_drawE (id := 1) [] pn26_1SyA (by kernel_rfl) (by kernel_rfl) ?_ | refine AWp_condI ?_ | refine Run_pur ?_)
      | (with_reducible refine EPure_intro (fun _ x => (room_calls _ _ (by omega) (by omega))) ?_)
      | (with_reducible refine EGuard_split (fun hc => ?_) (fun hc => ?_) <;> (try simp only [RC] at hc) <;> (try (exfalso; first | omega | contradiction)))
      | (with_reducible refine AIte (fun hc => ?_) (fun hc => ?_) <;> (try simp only [RC] at hc) <;> (try (exfalso; first | omega | contradiction)))
      | (simp only [thenA, inBlockA, reduceIte, Nat.reduceEqDiff])
      | ((with_reducible refine hK _ _ ?_); clear hK)
      | (simp only [ACond, RA, EAtS_def, EAtX_def, wantedA, acall, astep, ev, ofValue, ofAtom, Nat.reduceEqDiff, Nat.reduceAdd, Nat.reduceMul, Nat.reduceSub, reduceCtorEq, reduceIte, aoptEv, abin, aint, ashift, aun, astr, aeqGuard, isConstOp, aconvH, aofStr, aconvSame, isU8, abuildSlice, afill, splice, azeros, Nat.reduceLeDiff, Nat.reduceLT, Int.reduceLE, Int.reduceLT, Int.reduceEq, Int.reduceToNat, Int.reducePow, IntKind.bits, Int.reduceNeg, RB, aalloc, Go.PW.dig_length, tf26SyA])
      | (simp (disch := first | omega | (simp only [RO]; done) | assumption) only [RS, ha.rd.len und22, six22, gix22, bst25_e, bst25_0, bst25_01])
      | (simp (disch := (first | omega | (simp only [RO]; done) | assumption | (simp only [RM, Go.PW.dig_length]; done) | (simp only [RL, Go.PW.dig_length]; omega))) only [RD, reduceCtorEq, reduceIte, Go.PW.dig_length, Nat.reduceLeDiff, Nat.reduceAdd, Nat.reduceMul, Int.reduceToNat, tf26SyA])
    all_goals
      (
       (refine AEnd_gen (rs := [.tmp 2]) rfl ?_)
       (simp only [AEndR, aresults, Fr.put_some, Fr.put_none, fr0_zero, fr0_succ, fr0_nil, Nat.reduceEqDiff, reduceIte])
       (try simp (disch := (first | omega | (simp only [RO]; done) | assumption | (simp only [RM, Go.PW.dig_length]; done) | (simp only [RL, Go.PW.dig_length]; omega))) only [RD, reduceCtorEq, reduceIte, Go.PW.dig_length, Nat.reduceLeDiff, Nat.reduceAdd, Nat.reduceMul, Int.reduceToNat, tf26SyA]))
    all_goals (rw [hf]; exact ⟨Ext.push _ _, trivial, rfl⟩)
theorem getD_mem {xs : List Int} {i : Nat} (h : i < xs.length) : xs.getD i 0 ∈ xs := by
  rw [List.getD_eq_getElem?_getD, List.getElem?_eq_getElem h]; exact List.getElem_mem h
set_option maxHeartbeats 1000000 in
theorem symRight_calls (n : Int) (xs : List Int) (a : AV) (H : Hp) (ha : Ints H .i64 a xs) (hl : xs.length < 1000000) : ACalls Tryd.prog 22 [SymA n a] H fun r H' => r = .bool (decide (Right n xs)) ∧ H = H' := by
  refine ACalls.drop (R := fun r => r = .bool (decide (Right n xs))) ?_
  have ha1 : a.one = true := ha.rd.one
  have hc : a.cells = [a] := AV.cells_one ha1
  have e0 : 0 ≤ n → n ≤ 8 → IntKind.i64.wrap (Int.tdiv (IntKind.i64.wrap (n * IntKind.i64.wrap (n + 1))) 2) = n * (n + 1) / 2 := by
    intro h0 h8
    obtain ⟨k, rfl⟩ := Int.eq_ofNat_of_zero_le h0
    have key : ∀ k : Fin 9, IntKind.i64.wrap (Int.tdiv (IntKind.i64.wrap ((k.1 : Int) * IntKind.i64.wrap (k.1 + 1))) 2) = (k.1 : Int) * (k.1 + 1) / 2 := by decide +kernel
    exact key ⟨k, by omega⟩
  by_cases h0 : 0 ≤ n ∧ n ≤ 8
  · have e2 := e0 h0.1 h0.2
    by_cases hln : (xs.length : Int) = n * (n + 1) / 2
    · obtain ⟨h0, h8⟩ := h0
      refine ACalls_body Tryd.func22 rfl (by kernel_rfl) (by kernel_rfl) ?_
      repeat' first
        | (with_reducible first | refine AWp_seq_k (fun K hK => ?_) | refine AWp_block ?_ | refine AWp_skip ?_ | refine AWp_regionE ?_ | refine AWp_condI ?_)
        | (with_reducible refine EGuard_split (fun hc => ?_) (fun hc => ?_) <;> (try simp only [RC] at hc) <;> (try (exfalso; first | omega | contradiction)))
        | (with_reducible refine AIte (fun hc => ?_) (fun hc => ?_) <;> (try simp only [RC] at hc) <;> (try (exfalso; first | omega | contradiction)))
        | (simp only [thenA, inBlockA, reduceIte, Nat.reduceEqDiff])
        | ((with_reducible refine hK _ _ ?_); clear hK)
        | (simp only [ACond, RA, EAtS_def, EAtX_def, wantedA, acall, astep, ev, ofValue, ofAtom, Nat.reduceEqDiff, Nat.reduceAdd, Nat.reduceMul, Nat.reduceSub, reduceCtorEq, reduceIte, aoptEv, abin, aint, ashift, aun, astr, aeqGuard, isConstOp, aconvH, aofStr, aconvSame, isU8, abuildSlice, afill, splice, azeros, Nat.reduceLeDiff, Nat.reduceLT, Int.reduceLE, Int.reduceLT, Int.reduceEq, Int.reduceToNat, Int.reducePow, IntKind.bits, Int.reduceNeg, RB, aalloc, Go.PW.dig_length, tf22SyA, e2])
        | (simp (disch := first | omega | (simp only [RO]; done) | assumption) only [RS, ha.rd.len und22, six22, gix22, bst25_e, bst25_0, bst25_01])
        | (simp (disch := (first | omega | (simp only [RO]; done) | assumption | (simp only [RM, Go.PW.dig_length]; done) | (simp only [RL, Go.PW.dig_length]; omega))) only [RD, reduceCtorEq, reduceIte, Go.PW.dig_length, Nat.reduceLeDiff, Nat.reduceAdd, Nat.reduceMul, Int.reduceToNat, tf22SyA, e2])
      refine AWp_loop (fun m fr' H' => ∃ i : Nat, m = xs.length - i ∧ i ≤ xs.length ∧ fr' 1 = .ptr H.length 0 ∧ fr' 3 = .int .i64 (i : Int) ∧ (∀ j, j < i → Fit (xs.getD j 0)) ∧ H ++ [⟨[.int .i64 n, a], .own, 25⟩] = H') (m := xs.length) ⟨0, by omega, by omega, rfl, rfl, fun j hj => by omega, rfl⟩ ?_
      rintro m fr' H' ⟨i, rfl, hi, k1, k3, hall, rfl⟩
      by_cases hlt : i < xs.length
      · have e1 : IntKind.i64.wrap ((i : Int) + 1) = ((i + 1 : Nat) : Int) := by rw [wrap_i64_id (by omega) (by omega)]; omega
        by_cases h1 : 1073741824 < xs.getD i 0
        · have hr : decide (Right n xs) = false := decide_eq_false fun h => by have := (h.2 _ (getD_mem hlt)).2; omega
          repeat' first
            | (with_reducible first | refine AWp_seq_k (fun K hK => ?_) | refine AWp_block ?_ | refine AWp_skip ?_ | refine AWp_ret ?_ | refine AWp_regionE ?_ | refine AWp_condI ?_)
            | (with_reducible refine EGuard_split (fun hc => ?_) (fun hc => ?_) <;> (try simp only [RC] at hc) <;> (try (exfalso; first | omega | contradiction)))
            | (with_reducible refine AIte (fun hc => ?_) (fun hc => ?_) <;> (try simp only [RC] at hc) <;> (try (exfalso; first | omega | contradiction)))
            | (simp only [thenA, inBlockA, reduceIte, Nat.reduceEqDiff])
            | ((with_reducible refine hK _ _ ?_); clear hK)
            | (simp only [ACond, RA, EAtS_def, EAtX_def, wantedA, acall, astep, ev, ofValue, ofAtom, Nat.reduceEqDiff, Nat.reduceAdd, Nat.reduceMul, Nat.reduceSub, reduceCtorEq, reduceIte, aoptEv, abin, aint, ashift, aun, astr, aeqGuard, isConstOp, aconvH, aofStr, aconvSame, isU8, abuildSlice, afill, splice, azeros, Nat.reduceLeDiff, Nat.reduceLT, Int.reduceLE, Int.reduceLT, Int.reduceEq, Int.reduceToNat, Int.reducePow, IntKind.bits, Int.reduceNeg, RB, aalloc, Go.PW.dig_length, tf22SyA, k1, k3, e1])
            | (simp (disch := first | omega | (simp only [RO]; done) | assumption) only [RS, ha.rd.len und22, ha.rd.at1 und22 size2, (ha.push _).load1 agg2, six22, gix22, bst25_e, bst25_0, bst25_01])
            | (simp (disch := (first | omega | (simp only [RO]; done) | assumption | (simp only [RM, Go.PW.dig_length]; done) | (simp only [RL, Go.PW.dig_length]; omega))) only [RD, reduceCtorEq, reduceIte, Go.PW.dig_length, Nat.reduceLeDiff, Nat.reduceAdd, Nat.reduceMul, Int.reduceToNat, tf22SyA, k1, k3, e1])
          all_goals
            (
             (refine AEnd_gen (rs := [.tmp 2]) rfl ?_)
             (simp only [AEndR, aresults, Fr.put_some, Fr.put_none, fr0_zero, fr0_succ, fr0_nil, Nat.reduceEqDiff, reduceIte])
             (try simp (disch := (first | omega | (simp only [RO]; done) | assumption | (simp only [RM, Go.PW.dig_length]; done) | (simp only [RL, Go.PW.dig_length]; omega))) only [RD, reduceCtorEq, reduceIte, Go.PW.dig_length, Nat.reduceLeDiff, Nat.reduceAdd, Nat.reduceMul, Int.reduceToNat, tf22SyA]))
          all_goals (rw [hr]; exact ⟨Ext.push _ _, trivial, rfl⟩)
        by_cases h2 : xs.getD i 0 < -1073741824
        · have hr : decide (Right n xs) = false := decide_eq_false fun h => by have := (h.2 _ (getD_mem hlt)).1; omega
          repeat' first
            | (with_reducible first | refine AWp_seq_k (fun K hK => ?_) | refine AWp_block ?_ | refine AWp_skip ?_ | refine AWp_ret ?_ | refine AWp_regionE ?_ | refine AWp_condI ?_)
            | (with_reducible refine EGuard_split (fun hc => ?_) (fun hc => ?_) <;> (try simp only [RC] at hc) <;> (try (exfalso; first | omega | contradiction)))
            | (with_reducible refine AIte (fun hc => ?_) (fun hc => ?_) <;> (try simp only [RC] at hc) <;> (try (exfalso; first | omega | contradiction)))
            | (simp only [thenA, inBlockA, reduceIte, Nat.reduceEqDiff])
            | ((with_reducible refine hK _ _ ?_); clear hK)
            | (simp only [ACond, RA, EAtS_def, EAtX_def, wantedA, acall, astep, ev, ofValue, ofAtom, Nat.reduceEqDiff, Nat.reduceAdd, Nat.reduceMul, Nat.reduceSub, reduceCtorEq, reduceIte, aoptEv, abin, aint, ashift, aun, astr, aeqGuard, isConstOp, aconvH, aofStr, aconvSame, isU8, abuildSlice, afill, splice, azeros, Nat.reduceLeDiff, Nat.reduceLT, Int.reduceLE, Int.reduceLT, Int.reduceEq, Int.reduceToNat, Int.reducePow, IntKind.bits, Int.reduceNeg, RB, aalloc, Go.PW.dig_length, tf22SyA, k1, k3, e1])
            | (simp (disch := first | omega | (simp only [RO]; done) | assumption) only [RS, ha.rd.len und22, ha.rd.at1 und22 size2, (ha.push _).load1 agg2, six22, gix22, bst25_e, bst25_0, bst25_01])
            | (simp (disch := (first | omega | (simp only [RO]; done) | assumption | (simp only [RM, Go.PW.dig_length]; done) | (simp only [RL, Go.PW.dig_length]; omega))) only [RD, reduceCtorEq, reduceIte, Go.PW.dig_length, Nat.reduceLeDiff, Nat.reduceAdd, Nat.reduceMul, Int.reduceToNat, tf22SyA, k1, k3, e1])
          all_goals
            (
             (refine AEnd_gen (rs := [.tmp 2]) rfl ?_)
             (simp only [AEndR, aresults, Fr.put_some, Fr.put_none, fr0_zero, fr0_succ, fr0_nil, Nat.reduceEqDiff, reduceIte])
             (try simp (disch := (first | omega | (simp only [RO]; done) | assumption | (simp only [RM, Go.PW.dig_length]; done) | (simp only [RL, Go.PW.dig_length]; omega))) only [RD, reduceCtorEq, reduceIte, Go.PW.dig_length, Nat.reduceLeDiff, Nat.reduceAdd, Nat.reduceMul, Int.reduceToNat, tf22SyA]))
          all_goals (rw [hr]; exact ⟨Ext.push _ _, trivial, rfl⟩)
        · skip
          repeat' first
            | (with_reducible first | refine AWp_seq_k (fun K hK => ?_) | refine AWp_block ?_ | refine AWp_skip ?_ | refine AWp_regionE ?_ | refine AWp_condI ?_)
            | (with_reducible refine EGuard_split (fun hc => ?_) (fun hc => ?_) <;> (try simp only [RC] at hc) <;> (try (exfalso; first | omega | contradiction)))
            | (with_reducible refine AIte (fun hc => ?_) (fun hc => ?_) <;> (try simp only [RC] at hc) <;> (try (exfalso; first | omega | contradiction)))
            | (simp only [thenA, inBlockA, reduceIte, Nat.reduceEqDiff])
            | ((with_reducible refine hK _ _ ?_); clear hK)
            | (simp only [ACond, RA, EAtS_def, EAtX_def, wantedA, acall, astep, ev, ofValue, ofAtom, Nat.reduceEqDiff, Nat.reduceAdd, Nat.reduceMul, Nat.reduceSub, reduceCtorEq, reduceIte, aoptEv, abin, aint, ashift, aun, astr, aeqGuard, isConstOp, aconvH, aofStr, aconvSame, isU8, abuildSlice, afill, splice, azeros, Nat.reduceLeDiff, Nat.reduceLT, Int.reduceLE, Int.reduceLT, Int.reduceEq, Int.reduceToNat, Int.reducePow, IntKind.bits, Int.reduceNeg, RB, aalloc, Go.PW.dig_length, tf22SyA, k1, k3, e1])
            | (simp (disch := first | omega | (simp only [RO]; done) | assumption) only [RS, ha.rd.len und22, ha.rd.at1 und22 size2, (ha.push _).load1 agg2, six22, gix22, bst25_e, bst25_0, bst25_01])
            | (simp (disch := (first | omega | (simp only [RO]; done) | assumption | (simp only [RM, Go.PW.dig_length]; done) | (simp only [RL, Go.PW.dig_length]; omega))) only [RD, reduceCtorEq, reduceIte, Go.PW.dig_length, Nat.reduceLeDiff, Nat.reduceAdd, Nat.reduceMul, Int.reduceToNat, tf22SyA, k1, k3, e1])
          refine ⟨_, ?_, i + 1, rfl, by omega, rfl, fun j hj => ?_⟩
          · omega
          · by_cases he : j = i
            · rw [he]; exact ⟨by omega, by omega⟩
            · exact hall j (by omega)
      · have hr : decide (Right n xs) = true := decide_eq_true ⟨⟨h0, h8, hln⟩, fun x hx => by
          obtain ⟨j, hj, rfl⟩ := List.getElem_of_mem hx
          have := hall j (by omega)
          rwa [List.getD_eq_getElem?_getD, List.getElem?_eq_getElem hj] at this⟩
        repeat' first
          | (with_reducible first | refine AWp_seq_k (fun K hK => ?_) | refine AWp_exit ?_ | refine AWp_ret ?_ | refine AWp_regionE ?_ | refine AWp_condI ?_)
          | (with_reducible refine AIte (fun hc => ?_) (fun hc => ?_) <;> (try simp only [RC] at hc) <;> (try (exfalso; first | omega | contradiction)))
          | (simp only [thenA, inBlockA, reduceIte, Nat.reduceEqDiff])
          | ((with_reducible refine hK _ _ ?_); clear hK)
          | (clear hK; (with_reducible refine hK _ _ ?_); clear hK)
          | (simp only [ACond, RA, EAtS_def, EAtX_def, wantedA, acall, astep, ev, ofValue, ofAtom, Nat.reduceEqDiff, Nat.reduceAdd, Nat.reduceMul, Nat.reduceSub, reduceCtorEq, reduceIte, aoptEv, abin, aint, ashift, aun, astr, aeqGuard, isConstOp, aconvH, aofStr, aconvSame, isU8, abuildSlice, afill, splice, azeros, Nat.reduceLeDiff, Nat.reduceLT, Int.reduceLE, Int.reduceLT, Int.reduceEq, Int.reduceToNat, Int.reducePow, IntKind.bits, Int.reduceNeg, RB, aalloc, Go.PW.dig_length, tf22SyA, k1, k3])
          | (simp (disch := first | omega | (simp only [RO]; done) | assumption) only [RS, ha.rd.len und22, six22, gix22, bst25_e, bst25_0, bst25_01])
          | (simp (disch := (first | omega | (simp only [RO]; done) | assumption | (simp only [RM, Go.PW.dig_length]; done) | (simp only [RL, Go.PW.dig_length]; omega))) only [RD, reduceCtorEq, reduceIte, Go.PW.dig_length, Nat.reduceLeDiff, Nat.reduceAdd, Nat.reduceMul, Int.reduceToNat, tf22SyA, k1, k3])
        (
         (refine AEnd_gen (rs := [.tmp 2]) rfl ?_)
         (simp only [AEndR, aresults, Fr.put_some, Fr.put_none, fr0_zero, fr0_succ, fr0_nil, Nat.reduceEqDiff, reduceIte])
         (try simp (disch := (first | omega | (simp only [RO]; done) | assumption | (simp only [RM, Go.PW.dig_length]; done) | (simp only [RL, Go.PW.dig_length]; omega))) only [RD, reduceCtorEq, reduceIte, Go.PW.dig_length, Nat.reduceLeDiff, Nat.reduceAdd, Nat.reduceMul, Int.reduceToNat, tf22SyA]))
        rw [hr]
        exact ⟨Ext.push _ _, trivial, rfl⟩
    · have hf : decide (Right n xs) = false := decide_eq_false fun h => hln h.1.2.2
      refine ACalls_body Tryd.func22 rfl (by kernel_rfl) (by kernel_rfl) ?_
      repeat' first
        | (with_reducible first | refine AWp_seq_k (fun K hK => ?_) | refine AWp_ret ?_ | refine AWp_regionE ?_ | refine AWp_condI ?_)
        | (with_reducible refine EGuard_split (fun hc => ?_) (fun hc => ?_) <;> (try simp only [RC] at hc) <;> (try (exfalso; first | omega | contradiction)))
        | (with_reducible refine AIte (fun hc => ?_) (fun hc => ?_) <;> (try simp only [RC] at hc) <;> (try (exfalso; first | omega | contradiction)))
        | (simp only [thenA, inBlockA, reduceIte, Nat.reduceEqDiff])
        | ((with_reducible refine hK _ _ ?_); clear hK)
        | (simp only [ACond, RA, EAtS_def, EAtX_def, wantedA, acall, astep, ev, ofValue, ofAtom, Nat.reduceEqDiff, Nat.reduceAdd, Nat.reduceMul, Nat.reduceSub, reduceCtorEq, reduceIte, aoptEv, abin, aint, ashift, aun, astr, aeqGuard, isConstOp, aconvH, aofStr, aconvSame, isU8, abuildSlice, afill, splice, azeros, Nat.reduceLeDiff, Nat.reduceLT, Int.reduceLE, Int.reduceLT, Int.reduceEq, Int.reduceToNat, Int.reducePow, IntKind.bits, Int.reduceNeg, RB, aalloc, Go.PW.dig_length, tf22SyA, e2])
        | (simp (disch := first | omega | (simp only [RO]; done) | assumption) only [RS, ha.rd.len und22, six22, gix22, bst25_e, bst25_0, bst25_01])
        | (simp (disch := (first | omega | (simp only [RO]; done) | assumption | (simp only [RM, Go.PW.dig_length]; done) | (simp only [RL, Go.PW.dig_length]; omega))) only [RD, reduceCtorEq, reduceIte, Go.PW.dig_length, Nat.reduceLeDiff, Nat.reduceAdd, Nat.reduceMul, Int.reduceToNat, tf22SyA, e2])
      all_goals
        (
         (refine AEnd_gen (rs := [.tmp 2]) rfl ?_)
         (simp only [AEndR, aresults, Fr.put_some, Fr.put_none, fr0_zero, fr0_succ, fr0_nil, Nat.reduceEqDiff, reduceIte])
         (try simp (disch := (first | omega | (simp only [RO]; done) | assumption | (simp only [RM, Go.PW.dig_length]; done) | (simp only [RL, Go.PW.dig_length]; omega))) only [RD, reduceCtorEq, reduceIte, Go.PW.dig_length, Nat.reduceLeDiff, Nat.reduceAdd, Nat.reduceMul, Int.reduceToNat, tf22SyA]))
      all_goals (rw [hf]; exact ⟨Ext.push _ _, trivial, rfl⟩)
  · have hf : decide (Right n xs) = false := decide_eq_false fun h => h0 ⟨h.1.1, h.1.2.1⟩
    refine ACalls_body Tryd.func22 rfl (by kernel_rfl) (by kernel_rfl) ?_
    repeat' first
      | (with_reducible first | refine AWp_seq_k (fun K hK => ?_) | refine AWp_ret ?_ | refine AWp_regionE ?_ | refine AWp_condI ?_)
      | (with_reducible refine EGuard_split (fun hc => ?_) (fun hc => ?_) <;> (try simp only [RC] at hc) <;> (try (exfalso; first | omega | contradiction)))
      | (with_reducible refine AIte (fun hc => ?_) (fun hc => ?_) <;> (try simp only [RC] at hc) <;> (try (exfalso; first | omega | contradiction)))
      | (simp only [thenA, inBlockA, reduceIte, Nat.reduceEqDiff])
      | ((with_reducible refine hK _ _ ?_); clear hK)
      | (simp only [ACond, RA, EAtS_def, EAtX_def, wantedA, acall, astep, ev, ofValue, ofAtom, Nat.reduceEqDiff, Nat.reduceAdd, Nat.reduceMul, Nat.reduceSub, reduceCtorEq, reduceIte, aoptEv, abin, aint, ashift, aun, astr, aeqGuard, isConstOp, aconvH, aofStr, aconvSame, isU8, abuildSlice, afill, splice, azeros, Nat.reduceLeDiff, Nat.reduceLT, Int.reduceLE, Int.reduceLT, Int.reduceEq, Int.reduceToNat, Int.reducePow, IntKind.bits, Int.reduceNeg, RB, aalloc, Go.PW.dig_length, tf22SyA])
      | (simp (disch := first | omega | (simp only [RO]; done) | assumption) only [RS, ha.rd.len und22, six22, gix22, bst25_e, bst25_0, bst25_01])
      | (simp (disch := (first | omega | (simp only [RO]; done) | assumption | (simp only [RM, Go.PW.dig_length]; done) | (simp only [RL, Go.PW.dig_length]; omega))) only [RD, reduceCtorEq, reduceIte, Go.PW.dig_length, Nat.reduceLeDiff, Nat.reduceAdd, Nat.reduceMul, Int.reduceToNat, tf22SyA])
    all_goals
      (
       (refine AEnd_gen (rs := [.tmp 2]) rfl ?_)
       (simp only [AEndR, aresults, Fr.put_some, Fr.put_none, fr0_zero, fr0_succ, fr0_nil, Nat.reduceEqDiff, reduceIte])
       (try simp (disch := (first | omega | (simp only [RO]; done) | assumption | (simp only [RM, Go.PW.dig_length]; done) | (simp only [RL, Go.PW.dig_length]; omega))) only [RD, reduceCtorEq, reduceIte, Go.PW.dig_length, Nat.reduceLeDiff, Nat.reduceAdd, Nat.reduceMul, Int.reduceToNat, tf22SyA]))
    all_goals (rw [hf]; exact ⟨Ext.push _ _, trivial, rfl⟩)
/-- An entry. -/
def ent (n : Nat) (xs : List Int) (i j : Nat) : Int := xs.getD (pl n i j) 0
theorem Right.pl {n : Nat} {xs : List Int} (h : Right n xs) {i j : Nat} (hi : i < n) (hj : j < n) : n ≤ 8 ∧ pl n i j < xs.length := by
  obtain ⟨k, hk, h8, hl⟩ := h.nat
  obtain rfl : n = k := by omega
  exact ⟨h8, by rw [hl]; exact pl_lt ⟨n, by omega⟩ ⟨i, by omega⟩ ⟨j, by omega⟩ hi hj⟩
end Go.Proofs.YtfalfmfkifemeaaDoor
set_option linter.unusedVariables false
set_option linter.unusedSimpArgs false
namespace Go.Proofs.YtfalfmfkifemeaaDoor
open Go.AL Go.PW
theorem tf57SyB : type_of% (And.intro @tyb2 (And.intro @tyb3 (And.intro @tyb4 (And.intro @tyb22 (And.intro @tyb24 (And.intro @tyb25 (And.intro @tyb57 (@tyb120)))))))) := And.intro @tyb2 (And.intro @tyb3 (And.intro @tyb4 (And.intro @tyb22 (And.intro @tyb24 (And.intro @tyb25 (And.intro @tyb57 (@tyb120)))))))
theorem tf45SyB : type_of% (And.intro @tyb2 (And.intro @tyb3 (And.intro @tyb22 (And.intro @tyb24 (And.intro @tyb25 (And.intro @tyb37 (And.intro @tyb38 (@tyb120)))))))) := And.intro @tyb2 (And.intro @tyb3 (And.intro @tyb22 (And.intro @tyb24 (And.intro @tyb25 (And.intro @tyb37 (And.intro @tyb38 (@tyb120)))))))
theorem tf47SyB : type_of% (And.intro @tyb34 (And.intro @tyb35 (@tyb36))) := And.intro @tyb34 (And.intro @tyb35 (@tyb36))
abbrev pn45_4SyB : Plan := (.one 0 (.one 2 (.one 3 (.one 4 (.one 5 (.pur 6 (.one 1 (.one 7 (.one 8 (.one 9 (.one 10 .nil)))))))))))
set_option maxRecDepth 8000
theorem in_calls (n : Int) (xs ls : List Int) (a l : AV) (H : Hp) (ha : Ints H .i64 a xs) (hl : Ints H .i64 l ls) (hlx : xs.length < 1000000) (hll : ls.length < 1000000) (hr : Right n xs) (hin : ∀ x ∈ ls, 0 ≤ x ∧ x < n) : ACalls Tryd.prog 57 [SymA n a, l] H fun r H' => r = .nilI ∧ H = H' := by
  refine ACalls.drop (R := fun r => r = .nilI) ?_
  have ha1 : a.one = true := ha.rd.one
  have hc : a.cells = [a] := AV.cells_one ha1
  have hd : decide (Right n xs) = true := decide_eq_true hr
  refine ACalls_body Tryd.func57 rfl (by kernel_rfl) (by kernel_rfl) ?_
  repeat' first
    | (with_reducible first | refine AWp_seq_k (fun K hK => ?_) | refine AWp_block ?_ | refine AWp_skip ?_ | refine AWp_regionE ?_ | refine AWp_condI ?_)
    | ((with_reducible refine ECall_intro (right_calls _ _ _ _ (ha.push _) hlx) ?_); rintro _ _ ⟨rfl, rfl⟩)
    | (simp only [thenA, inBlockA, reduceIte, Nat.reduceEqDiff])
    | ((with_reducible refine hK _ _ ?_); clear hK)
    | (simp only [ACond, RA, EAtS_def, EAtX_def, wantedA, acall, astep, ev, ofValue, ofAtom, Nat.reduceEqDiff, Nat.reduceAdd, Nat.reduceMul, Nat.reduceSub, reduceCtorEq, reduceIte, aoptEv, abin, aint, ashift, aun, astr, aeqGuard, isConstOp, aconvH, aofStr, aconvSame, isU8, abuildSlice, afill, splice, azeros, Nat.reduceLeDiff, Nat.reduceLT, Int.reduceLE, Int.reduceLT, Int.reduceEq, Int.reduceToNat, Int.reducePow, IntKind.bits, Int.reduceNeg, RB, aalloc, Go.PW.dig_length, tf57SyB, hd])
    | (simp (disch := first | omega | (simp only [RO]; done) | assumption) only [RS, hl.rd.len und120, six22, gix22, six120, gix120, bst25_e, bst25_0, bst25_01])
    | (simp (disch := (first | omega | (simp only [RO]; done) | assumption | (simp only [RM, Go.PW.dig_length]; done) | (simp only [RL, Go.PW.dig_length]; omega))) only [RD, reduceCtorEq, reduceIte, Go.PW.dig_length, Nat.reduceLeDiff, Nat.reduceAdd, Nat.reduceMul, Int.reduceToNat, tf57SyB, hd])
  refine AWp_loop (fun m fr' H' => ∃ i : Nat, m = ls.length - i ∧ i ≤ ls.length ∧ fr' 2 = .ptr H.length 0 ∧ fr' 11 = l ∧ fr' 12 = .int .i64 (ls.length : Int) ∧ fr' 13 = .int .i64 (i : Int) ∧ H ++ [⟨[.int .i64 n, a], .own, 25⟩] = H') (m := ls.length) ⟨0, by omega, by omega, rfl, rfl, rfl, rfl, rfl⟩ ?_
  rintro m fr' H' ⟨i, rfl, hi, k2, k11, k12, k13, rfl⟩
  by_cases hlt : i < ls.length
  · have e1 : IntKind.i64.wrap ((i : Int) + 1) = ((i + 1 : Nat) : Int) := by rw [wrap_i64_id (by omega) (by omega)]; omega
    have hx := hin _ (getD_mem hlt)
    repeat' first
      | (with_reducible first | refine AWp_seq_k (fun K hK => ?_) | refine AWp_block ?_ | refine AWp_skip ?_ | refine AWp_regionE ?_ | refine AWp_condI ?_)
      | (with_reducible refine EGuard_split (fun hc => ?_) (fun hc => ?_) <;> (try simp only [RC] at hc) <;> (try (exfalso; first | omega | contradiction)))
      | (with_reducible refine AIte (fun hc => ?_) (fun hc => ?_) <;> (try simp only [RC] at hc) <;> (try (exfalso; first | omega | contradiction)))
      | (simp only [thenA, inBlockA, reduceIte, Nat.reduceEqDiff])
      | ((with_reducible refine hK _ _ ?_); clear hK)
      | (simp only [ACond, RA, EAtS_def, EAtX_def, wantedA, acall, astep, ev, ofValue, ofAtom, Nat.reduceEqDiff, Nat.reduceAdd, Nat.reduceMul, Nat.reduceSub, reduceCtorEq, reduceIte, aoptEv, abin, aint, ashift, aun, astr, aeqGuard, isConstOp, aconvH, aofStr, aconvSame, isU8, abuildSlice, afill, splice, azeros, Nat.reduceLeDiff, Nat.reduceLT, Int.reduceLE, Int.reduceLT, Int.reduceEq, Int.reduceToNat, Int.reducePow, IntKind.bits, Int.reduceNeg, RB, aalloc, Go.PW.dig_length, tf57SyB, k2, k11, k12, k13, e1])
      | (simp (disch := first | omega | (simp only [RO]; done) | assumption) only [RS, hl.rd.at1 und120 size3, (hl.push _).load1 agg3, six22, gix22, six120, gix120, bst25_e, bst25_0, bst25_01])
      | (simp (disch := (first | omega | (simp only [RO]; done) | assumption | (simp only [RM, Go.PW.dig_length]; done) | (simp only [RL, Go.PW.dig_length]; omega))) only [RD, reduceCtorEq, reduceIte, Go.PW.dig_length, Nat.reduceLeDiff, Nat.reduceAdd, Nat.reduceMul, Int.reduceToNat, tf57SyB, k2, k11, k12, k13, e1])
    all_goals exact ⟨_, by omega, i + 1, rfl, by omega, rfl⟩
  · skip
    repeat' first
      | (with_reducible first | refine AWp_seq_k (fun K hK => ?_) | refine AWp_exit ?_ | refine AWp_ret ?_ | refine AWp_regionE ?_ | refine AWp_condI ?_)
      | (with_reducible refine AIte (fun hc => ?_) (fun hc => ?_) <;> (try simp only [RC] at hc) <;> (try (exfalso; first | omega | contradiction)))
      | (simp only [thenA, inBlockA, reduceIte, Nat.reduceEqDiff])
      | ((with_reducible refine hK _ _ ?_); clear hK)
      | (clear hK; (with_reducible refine hK _ _ ?_); clear hK)
      | (simp only [ACond, RA, EAtS_def, EAtX_def, wantedA, acall, astep, ev, ofValue, ofAtom, Nat.reduceEqDiff, Nat.reduceAdd, Nat.reduceMul, Nat.reduceSub, reduceCtorEq, reduceIte, aoptEv, abin, aint, ashift, aun, astr, aeqGuard, isConstOp, aconvH, aofStr, aconvSame, isU8, abuildSlice, afill, splice, azeros, Nat.reduceLeDiff, Nat.reduceLT, Int.reduceLE, Int.reduceLT, Int.reduceEq, Int.reduceToNat, Int.reducePow, IntKind.bits, Int.reduceNeg, RB, aalloc, Go.PW.dig_length, tf57SyB, k2, k11, k12, k13])
    (
     (refine AEnd_gen (rs := [.tmp 4]) rfl ?_)
     (simp only [AEndR, aresults, Fr.put_some, Fr.put_none, fr0_zero, fr0_succ, fr0_nil, Nat.reduceEqDiff, reduceIte])
     (try simp (disch := (first | omega | (simp only [RO]; done) | assumption | (simp only [RM, Go.PW.dig_length]; done) | (simp only [RL, Go.PW.dig_length]; omega))) only [RD, reduceCtorEq, reduceIte, Go.PW.dig_length, Nat.reduceLeDiff, Nat.reduceAdd, Nat.reduceMul, Int.reduceToNat, tf57SyB]))
    exact ⟨Ext.push _ _, trivial⟩
theorem At_calls (n : Nat) (xs : List Int) (a : AV) (i j : Nat) (H : Hp) (ha : Ints H .i64 a xs) (hr : Right n xs) (hi : i < n) (hj : j < n) : ACalls Tryd.prog 45 [SymA n a, .int .i64 (i : Int), .int .i64 (j : Int)] H fun r H' => r = .tup [.int .i64 (ent n xs i j), .nilI] ∧ H = H' := by
  refine ACalls.drop (R := fun r => r = .tup [.int .i64 (ent n xs i j), .nilI]) ?_
  have ha1 : a.one = true := ha.rd.one
  have hc : a.cells = [a] := AV.cells_one ha1
  obtain ⟨h8, hp⟩ := hr.pl hi hj
  have hlx : xs.length < 1000000 := by
    obtain ⟨k, hk, h8, hl⟩ := hr.nat
    obtain rfl : n = k := by omega
    have : n * (n + 1) ≤ 8 * 9 := Nat.mul_le_mul h8 (by omega)
    omega
  have hl2 : Ints (H ++ [⟨[.int .i64 (n : Int), a], .own, 25⟩] ++ [⟨[.int .i64 (i : Int), .int .i64 (j : Int)], .own, 3⟩]) .i64 (.sl (H.length + 1) 0 2 2) [(i : Int), (j : Int)] := by
    have := Ints.lit (H ++ [⟨[.int .i64 (n : Int), a], .own, 25⟩]) (k := .i64) (xs := [(i : Int), (j : Int)]) (n := 2) (kd := .own) (e := 3) (by decide) rfl
    rwa [len_push] at this
  have hin : ∀ x ∈ [(i : Int), (j : Int)], 0 ≤ x ∧ x < n := by
    intro x hx
    simp only [List.mem_cons, List.not_mem_nil, or_false] at hx
    rcases hx with rfl | rfl <;> omega
  have hll : [(i : Int), (j : Int)].length < 1000000 := by simp
  refine ACalls_body Tryd.func45 rfl (by kernel_rfl) (by kernel_rfl) ?_
  repeat' first
    | (with_reducible first | refine AWp_seq_k (fun K hK => ?_) | refine AWp_skip ?_ | refine AWp_ret ?_ | refine AWp_regionE ?_ | refine AWp_drawE (id := 4) [] pn45_4SyB (by kernel_rfl) (by kernel_rfl) ?_ | refine AWp_condI ?_ | refine Run_pur ?_)
    | (with_reducible refine EPure_intro (fun _ x => (place_calls _ _ _ _ h8 hi hj)) ?_)
    | ((with_reducible refine ECall_intro (in_calls _ xs _ a _ _ ((ha.push _).push _) hl2 hlx hll hr hin) ?_); rintro _ _ ⟨rfl, rfl⟩)
    | (simp only [thenA, inBlockA, reduceIte, Nat.reduceEqDiff])
    | ((with_reducible refine hK _ _ ?_); clear hK)
    | (simp only [ACond, RA, EAtS_def, EAtX_def, wantedA, acall, astep, ev, ofValue, ofAtom, Nat.reduceEqDiff, Nat.reduceAdd, Nat.reduceMul, Nat.reduceSub, reduceCtorEq, reduceIte, aoptEv, abin, aint, ashift, aun, astr, aeqGuard, isConstOp, aconvH, aofStr, aconvSame, isU8, abuildSlice, afill, splice, azeros, Nat.reduceLeDiff, Nat.reduceLT, Int.reduceLE, Int.reduceLT, Int.reduceEq, Int.reduceToNat, Int.reducePow, IntKind.bits, Int.reduceNeg, RB, aalloc, Go.PW.dig_length, tf45SyB, eq_nilI und38])
    | (simp (disch := first | omega | (simp only [RO]; done) | assumption) only [RS, ha.rd.at1 und22 size2, ((ha.push _).push _).load1 agg2, six22, gix22, six120, gix120, bst25_e, bst25_0, bst25_01])
    | (simp (disch := (first | omega | (simp only [RO]; done) | assumption | (simp only [RM, Go.PW.dig_length]; done) | (simp only [RL, Go.PW.dig_length]; omega))) only [RD, reduceCtorEq, reduceIte, Go.PW.dig_length, Nat.reduceLeDiff, Nat.reduceAdd, Nat.reduceMul, Int.reduceToNat, tf45SyB, eq_nilI und38])
  all_goals
    (
     (refine AEnd_gen (rs := [.tmp 6, .tmp 7]) rfl ?_)
     (simp only [AEndR, aresults, Fr.put_some, Fr.put_none, fr0_zero, fr0_succ, fr0_nil, Nat.reduceEqDiff, reduceIte])
     (try simp (disch := (first | omega | (simp only [RO]; done) | assumption | (simp only [RM, Go.PW.dig_length]; done) | (simp only [RL, Go.PW.dig_length]; omega))) only [RD, reduceCtorEq, reduceIte, Go.PW.dig_length, Nat.reduceLeDiff, Nat.reduceAdd, Nat.reduceMul, Int.reduceToNat, tf45SyB]))
  all_goals exact ⟨ext4 _ _, by simp [AV.lt, AV.lts], rfl⟩
/-- A b less c d, over e. -/
theorem cross_calls (a b c d e : Int) (H : Hp) (ha : In a) (hb : In b) (hc : In c) (hd : In d) (he : In e) (he0 : e ≠ 0) (hab : In (a * b)) (hcd : In (c * d)) (hs : In (a * b - c * d)) (hq : In ((a * b - c * d).tdiv e)) : ACalls Tryd.prog 47 [W a, W b, W c, W d, W e] H fun r H' => r = W ((a * b - c * d).tdiv e) ∧ H = H' := by
  refine ACalls.drop (R := fun r => r = W ((a * b - c * d).tdiv e)) ?_
  refine ACalls_body Tryd.func47 rfl (by kernel_rfl) (by kernel_rfl) ?_
  repeat' first
    | (with_reducible first | refine AWp_seq_k (fun K hK => ?_) | refine AWp_ret ?_ | refine AWp_regionE ?_)
    | ((with_reducible refine ECall_intro (mul_calls _ _ _ ha hb hab) ?_); rintro _ _ ⟨rfl, rfl⟩)
    | ((with_reducible refine ECall_intro (mul_calls _ _ _ hc hd hcd) ?_); rintro _ _ ⟨rfl, rfl⟩)
    | ((with_reducible refine ECall_intro (sub_calls _ _ _ hab hcd hs) ?_); rintro _ _ ⟨rfl, rfl⟩)
    | ((with_reducible refine ECall_intro (div_calls _ _ _ hs he he0 hq) ?_); rintro _ _ ⟨rfl, rfl⟩)
    | (simp only [thenA, inBlockA, reduceIte, Nat.reduceEqDiff])
    | ((with_reducible refine hK _ _ ?_); clear hK)
    | (simp only [ACond, RA, EAtS_def, EAtX_def, wantedA, acall, astep, ev, ofValue, ofAtom, Nat.reduceEqDiff, Nat.reduceAdd, Nat.reduceMul, Nat.reduceSub, reduceCtorEq, reduceIte, aoptEv, abin, aint, ashift, aun, astr, aeqGuard, isConstOp, aconvH, aofStr, aconvSame, isU8, abuildSlice, afill, splice, azeros, Nat.reduceLeDiff, Nat.reduceLT, Int.reduceLE, Int.reduceLT, Int.reduceEq, Int.reduceToNat, Int.reducePow, IntKind.bits, Int.reduceNeg, RB, aalloc, Go.PW.dig_length, tf47SyB])
    | (simp (disch := (first | omega | (simp only [RO]; done) | assumption | (simp only [RM, Go.PW.dig_length]; done) | (simp only [RL, Go.PW.dig_length]; omega))) only [RD, reduceCtorEq, reduceIte, Go.PW.dig_length, Nat.reduceLeDiff, Nat.reduceAdd, Nat.reduceMul, Int.reduceToNat, tf47SyB])
  (
   (refine AEnd_gen (rs := [.cell 10 36]) rfl ?_)
   (simp only [AEndR, aresults, Fr.put_some, Fr.put_none, fr0_zero, fr0_succ, fr0_nil, Nat.reduceEqDiff, reduceIte])
   (try simp (disch := (first | omega | (simp only [RO]; done) | assumption | (simp only [RM, Go.PW.dig_length]; done) | (simp only [RL, Go.PW.dig_length]; omega))) only [RD, reduceCtorEq, reduceIte, Go.PW.dig_length, Nat.reduceLeDiff, Nat.reduceAdd, Nat.reduceMul, Int.reduceToNat, tf47SyB]))
  exact ⟨by repeat first | exact Ext.refl _ | refine Ext.pushed ?_ _, W_lt _ _⟩
end Go.Proofs.YtfalfmfkifemeaaDoor

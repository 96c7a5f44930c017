/- Part 12 of the proof of laws of this seat: lemmas on the model's code, on this program's functions, on numbers. No condition. -/
import Derived.Test.YtfalfmfkifemeaaGreatDoorZSixak
set_option linter.unusedVariables false
set_option linter.unusedSimpArgs false
namespace Go.Proofs.YtfalfmfkifemeaaGreatDoor
open Go.AL Go.PW
theorem tf108WdE : type_of% (And.intro @tyb4 (And.intro @tyb31 (And.intro @tyb32 (@tyb33)))) := And.intro @tyb4 (And.intro @tyb31 (And.intro @tyb32 (@tyb33)))
theorem tf107WdE : type_of% (And.intro @tyb3 (And.intro @tyb31 (@tyb44))) := And.intro @tyb3 (And.intro @tyb31 (@tyb44))
abbrev pn108_3WdE : Plan := (.one 1 (.pur 2 (.one 0 (.one 3 (.one 5 (.alt 4 (.one 6 (.one 7 (.one 8 (.one 9 .nil)))) (.one 8 (.one 4 (.one 6 (.one 7 (.one 9 .nil)))))))))))
abbrev pn108_4WdE : Plan := (.one 1 (.pur 2 (.one 0 (.one 3 (.one 4 (.one 5 .nil))))))
set_option maxRecDepth 8000
/-- An amount that a sign may be put to. -/
theorem signed_plus (x : Int) (H : Hp) (h0 : 0 ≤ x) (h1 : x < Mh) : ACalls Tryz.prog 108 [W x, .bool false] H fun r H' => r = .tup [W x, .bool true] ∧ H = H' := by
  refine ACalls.drop (R := fun r => r = .tup [W x, .bool true]) ?_
  have hn := neg_iff (x := x) ⟨by have := Mh_pos; omega, h1⟩
  have hx : ¬ x < 0 := by omega
  simp only [hx, decide_false] at hn
  refine ACalls_body Tryz.func108 rfl (by kernel_rfl) (by kernel_rfl) ?_
  repeat' first
    | (with_reducible first | refine AWp_seq_k (fun K hK => ?_) | refine AWp_skip ?_ | refine AWp_ret ?_ | refine AWp_regionE ?_ | refine AWp_drawE (id := 4) [] pn108_4WdE (by kernel_rfl) (by kernel_rfl) ?_ | refine AWp_condI ?_ | refine Run_pur ?_)
    | (with_reducible refine EPure_intro (fun _ x => (below_calls _ _)) ?_)
    | (simp only [thenA, inBlockA, reduceIte, Nat.reduceEqDiff])
    | ((with_reducible refine hK _ _ ?_); clear hK)
    | (simp only [ACond, RA, EAtS_def, EAtX_def, wantedA, acall, astep, ev, ofValue, ofAtom, Nat.reduceEqDiff, Nat.reduceAdd, Nat.reduceMul, Nat.reduceSub, reduceCtorEq, reduceIte, aoptEv, abin, aint, ashift, aun, astr, aeqGuard, isConstOp, aconvH, aofStr, aconvSame, isU8, abuildSlice, afill, splice, azeros, Nat.reduceLeDiff, Nat.reduceLT, Int.reduceLE, Int.reduceLT, Int.reduceEq, Int.reduceToNat, Int.reducePow, IntKind.bits, Int.reduceNeg, RB, aalloc, Go.PW.dig_length, tf108WdE, hn])
    | (simp (disch := (first | omega | (simp only [RO]; done) | assumption | (simp only [RM, Go.PW.dig_length]; done) | (simp only [RL, Go.PW.dig_length]; omega))) only [RD, reduceCtorEq, reduceIte, Go.PW.dig_length, Nat.reduceLeDiff, Nat.reduceAdd, Nat.reduceMul, Int.reduceToNat, tf108WdE, hn])
  all_goals
    (
     (refine AEnd_gen (rs := [.cell 4 33, .tmp 5]) rfl ?_)
     (simp only [AEndR, aresults, Fr.put_some, Fr.put_none, fr0_zero, fr0_succ, fr0_nil, Nat.reduceEqDiff, reduceIte])
     (try simp (disch := (first | omega | (simp only [RO]; done) | assumption | (simp only [RM, Go.PW.dig_length]; done) | (simp only [RL, Go.PW.dig_length]; omega))) only [RD, reduceCtorEq, reduceIte, Go.PW.dig_length, Nat.reduceLeDiff, Nat.reduceAdd, Nat.reduceMul, Int.reduceToNat, tf108WdE]))
  all_goals exact ⟨ext4 _ _, W_tupb_lt _ _ _⟩
theorem signed_minus (x : Int) (H : Hp) (h0 : 0 ≤ x) (h1 : x ≤ Mh) : ACalls Tryz.prog 108 [W x, .bool true] H fun r H' => r = .tup [W (-x), .bool true] ∧ H = H' := by
  refine ACalls.drop (R := fun r => r = .tup [W (-x), .bool true]) ?_
  have hI : In (-x) := ⟨by omega, by have := Mh_pos; omega⟩
  have hn := neg_iff hI
  by_cases hx : -x < 0
  · simp only [hx, decide_true] at hn
    refine ACalls_body Tryz.func108 rfl (by kernel_rfl) (by kernel_rfl) ?_
    repeat' first
      | (with_reducible first | refine AWp_seq_k (fun K hK => ?_) | refine AWp_ret ?_ | refine AWp_regionE ?_ | refine AWp_drawE (id := 3) [] pn108_3WdE (by kernel_rfl) (by kernel_rfl) ?_ | refine AWp_condI ?_ | refine Run_pur ?_)
      | (with_reducible refine EPure_intro (fun _ x => (below_calls _ _)) ?_)
      | ((with_reducible refine ECall_intro (neg_calls _ _) ?_); rintro _ _ ⟨rfl, rfl⟩)
      | (with_reducible refine And.intro ?_ ?_)
      | (simp only [thenA, inBlockA, reduceIte, Nat.reduceEqDiff])
      | ((with_reducible refine hK _ _ ?_); clear hK)
      | (simp only [ACond, RA, EAtS_def, EAtX_def, wantedA, acall, astep, ev, ofValue, ofAtom, Nat.reduceEqDiff, Nat.reduceAdd, Nat.reduceMul, Nat.reduceSub, reduceCtorEq, reduceIte, aoptEv, abin, aint, ashift, aun, astr, aeqGuard, isConstOp, aconvH, aofStr, aconvSame, isU8, abuildSlice, afill, splice, azeros, Nat.reduceLeDiff, Nat.reduceLT, Int.reduceLE, Int.reduceLT, Int.reduceEq, Int.reduceToNat, Int.reducePow, IntKind.bits, Int.reduceNeg, RB, aalloc, Go.PW.dig_length, tf108WdE, hn])
      | (simp (disch := (first | omega | (simp only [RO]; done) | assumption | (simp only [RM, Go.PW.dig_length]; done) | (simp only [RL, Go.PW.dig_length]; omega))) only [RD, reduceCtorEq, reduceIte, Go.PW.dig_length, Nat.reduceLeDiff, Nat.reduceAdd, Nat.reduceMul, Int.reduceToNat, tf108WdE, hn])
    all_goals
      (
       (refine AEnd_gen (rs := [.cell 4 33, .tmp 5]) rfl ?_)
       (simp only [AEndR, aresults, Fr.put_some, Fr.put_none, fr0_zero, fr0_succ, fr0_nil, Nat.reduceEqDiff, reduceIte])
       (try simp (disch := (first | omega | (simp only [RO]; done) | assumption | (simp only [RM, Go.PW.dig_length]; done) | (simp only [RL, Go.PW.dig_length]; omega))) only [RD, reduceCtorEq, reduceIte, Go.PW.dig_length, Nat.reduceLeDiff, Nat.reduceAdd, Nat.reduceMul, Int.reduceToNat, tf108WdE]))
    all_goals exact ⟨ext4 _ _, W_tupb_lt _ _ _⟩
  · have h0 : x = 0 := by omega
    simp only [hx, decide_false] at hn
    have hz : decide (-x % M = 0 % M) = true := by
      rw [nought_iff hI]
      have : -x = 0 := by omega
      simp [this]
    refine ACalls_body Tryz.func108 rfl (by kernel_rfl) (by kernel_rfl) ?_
    repeat' first
      | (with_reducible first | refine AWp_seq_k (fun K hK => ?_) | refine AWp_ret ?_ | refine AWp_regionE ?_ | refine AWp_drawE (id := 3) [] pn108_3WdE (by kernel_rfl) (by kernel_rfl) ?_ | refine AWp_condI ?_ | refine Run_pur ?_)
      | (with_reducible refine EPure_intro (fun _ x => (below_calls _ _)) ?_)
      | ((with_reducible refine ECall_intro (neg_calls _ _) ?_); rintro _ _ ⟨rfl, rfl⟩)
      | (with_reducible refine And.intro ?_ ?_)
      | (simp only [thenA, inBlockA, reduceIte, Nat.reduceEqDiff])
      | ((with_reducible refine hK _ _ ?_); clear hK)
      | (simp only [ACond, RA, EAtS_def, EAtX_def, wantedA, acall, astep, ev, ofValue, ofAtom, Nat.reduceEqDiff, Nat.reduceAdd, Nat.reduceMul, Nat.reduceSub, reduceCtorEq, reduceIte, aoptEv, abin, aint, ashift, aun, astr, aeqGuard, isConstOp, aconvH, aofStr, aconvSame, isU8, abuildSlice, afill, splice, azeros, Nat.reduceLeDiff, Nat.reduceLT, Int.reduceLE, Int.reduceLT, Int.reduceEq, Int.reduceToNat, Int.reducePow, IntKind.bits, Int.reduceNeg, RB, aalloc, Go.PW.dig_length, tf108WdE, hn, W_eq, hz])
      | (simp (disch := (first | omega | (simp only [RO]; done) | assumption | (simp only [RM, Go.PW.dig_length]; done) | (simp only [RL, Go.PW.dig_length]; omega))) only [RD, reduceCtorEq, reduceIte, Go.PW.dig_length, Nat.reduceLeDiff, Nat.reduceAdd, Nat.reduceMul, Int.reduceToNat, tf108WdE, hn, W_eq, hz])
    all_goals
      (
       (refine AEnd_gen (rs := [.cell 4 33, .tmp 5]) rfl ?_)
       (simp only [AEndR, aresults, Fr.put_some, Fr.put_none, fr0_zero, fr0_succ, fr0_nil, Nat.reduceEqDiff, reduceIte])
       (try simp (disch := (first | omega | (simp only [RO]; done) | assumption | (simp only [RM, Go.PW.dig_length]; done) | (simp only [RL, Go.PW.dig_length]; omega))) only [RD, reduceCtorEq, reduceIte, Go.PW.dig_length, Nat.reduceLeDiff, Nat.reduceAdd, Nat.reduceMul, Int.reduceToNat, tf108WdE]))
    all_goals exact ⟨ext4 _ _, W_tupb_lt _ _ _⟩
/-- How many limbs count. -/
def cnt : List Int → Nat
  | [] => 0
  | x :: xs => if cnt xs = 0 then (if x = 0 then 0 else 1) else cnt xs + 1
theorem cnt_le : ∀ xs, cnt xs ≤ xs.length
  | [] => Nat.le_refl _
  | x :: xs => by
    have := cnt_le xs
    simp only [cnt, List.length_cons]
    split
    · split <;> omega
    · omega
theorem cnt_above : ∀ (xs : List Int) (j : Nat), cnt xs ≤ j → xs.getD j 0 = 0
  | [], j, _ => by simp
  | x :: xs, j, h => by
    have ih := cnt_above xs
    simp only [cnt] at h
    cases j with
    | zero =>
      split at h
      · split at h
        · simpa
        · omega
      · omega
    | succ j =>
      rw [List.getD_cons_succ]
      apply ih
      split at h
      · omega
      · omega
theorem cnt_top : ∀ (xs : List Int), 0 < cnt xs → xs.getD (cnt xs - 1) 0 ≠ 0
  | [], h => by simp [cnt] at h
  | x :: xs, h => by
    have ih := cnt_top xs
    simp only [cnt] at h ⊢
    split
    · rename_i h0
      rw [if_pos h0] at h
      split
      · rename_i h1; rw [if_pos h1] at h; omega
      · rename_i h1; simpa
    · rename_i h0
      obtain ⟨m, hm⟩ : ∃ m, cnt xs = m + 1 := ⟨cnt xs - 1, by omega⟩
      have := ih (by omega)
      rw [hm] at this ⊢
      simpa using this
theorem cnt_uniq {xs : List Int} {n : Nat} (h1 : ∀ j, n ≤ j → xs.getD j 0 = 0) (h2 : n = 0 ∨ xs.getD (n - 1) 0 ≠ 0) : n = cnt xs := by
  have a := cnt_above xs
  have b := cnt_top xs
  rcases Nat.lt_trichotomy n (cnt xs) with h | h | h
  · exact absurd (h1 (cnt xs - 1) (by omega)) (b (by omega))
  · exact h
  · rcases h2 with h2 | h2
    · omega
    · exact absurd (a (n - 1) (by omega)) h2
theorem count_calls (v : AV) (xs : List Int) (H : Hp) (hv : Ints H .u64 v xs) (hx : xs.length < 1000000) : ACalls Tryz.prog 107 [v] H fun r H' => r = .int .i64 (cnt xs : Int) ∧ H = H' := by
  refine ACalls_body Tryz.func107 rfl (by kernel_rfl) (by kernel_rfl) ?_
  repeat' first
    | (with_reducible first | refine AWp_seq_k (fun K hK => ?_) | refine AWp_block ?_ | refine AWp_regionE ?_)
    | (simp only [thenA, inBlockA, reduceIte, Nat.reduceEqDiff])
    | ((with_reducible refine hK _ _ ?_); clear hK)
    | (simp only [ACond, RA, EAtS_def, EAtX_def, wantedA, acall, astep, ev, ofValue, ofAtom, Nat.reduceEqDiff, Nat.reduceAdd, Nat.reduceMul, Nat.reduceSub, reduceCtorEq, reduceIte, aoptEv, abin, aint, ashift, aun, astr, aeqGuard, isConstOp, aconvH, aofStr, aconvSame, isU8, abuildSlice, afill, splice, azeros, Nat.reduceLeDiff, Nat.reduceLT, Int.reduceLE, Int.reduceLT, Int.reduceEq, Int.reduceToNat, Int.reducePow, IntKind.bits, Int.reduceNeg, RB, aalloc, Go.PW.dig_length, tf107WdE, hv.rd.len und44])
  refine AWp_loop (fun m fr' H' => ∃ n : Nat, m = n ∧ n ≤ xs.length ∧ fr' 0 = v ∧ fr' 3 = .int .i64 (n : Int) ∧ (∀ j, n ≤ j → xs.getD j 0 = 0) ∧ H = H') (m := xs.length) ⟨xs.length, rfl, Nat.le_refl _, rfl, rfl, fun j hj => by simp [List.getD, List.getElem?_eq_none hj], rfl⟩ ?_
  rintro m fr' H' ⟨n, rfl, hn, k0, k3, hz, rfl⟩
  by_cases h0 : 0 < m
  · have e1 : IntKind.i64.wrap ((m : Int) - 1) = ((m - 1 : Nat) : Int) := by rw [wrap_i64_id (by omega) (by omega)]; omega
    repeat' first
      | (with_reducible first | refine AWp_seq_k (fun K hK => ?_) | refine AWp_block ?_ | refine AWp_skip ?_ | refine AWp_exit ?_ | refine AWp_ret ?_ | refine AWp_regionE ?_ | refine AWp_condI ?_)
      | (with_reducible refine EGuard_split (fun hc => ?_) (fun hc => ?_) <;> (try simp only [RC] at hc) <;> (try (exfalso; first | omega | contradiction)))
      | (with_reducible refine AIte (fun hc => ?_) (fun hc => ?_) <;> (try simp only [RC] at hc) <;> (try (exfalso; first | omega | contradiction)))
      | (simp only [thenA, inBlockA, reduceIte, Nat.reduceEqDiff])
      | ((with_reducible refine hK _ _ ?_); clear hK)
      | (clear hK; (with_reducible refine hK _ _ ?_); clear hK)
      | (simp only [ACond, RA, EAtS_def, EAtX_def, wantedA, acall, astep, ev, ofValue, ofAtom, Nat.reduceEqDiff, Nat.reduceAdd, Nat.reduceMul, Nat.reduceSub, reduceCtorEq, reduceIte, aoptEv, abin, aint, ashift, aun, astr, aeqGuard, isConstOp, aconvH, aofStr, aconvSame, isU8, abuildSlice, afill, splice, azeros, Nat.reduceLeDiff, Nat.reduceLT, Int.reduceLE, Int.reduceLT, Int.reduceEq, Int.reduceToNat, Int.reducePow, IntKind.bits, Int.reduceNeg, RB, aalloc, Go.PW.dig_length, tf107WdE, k0, k3, e1])
      | (simp (disch := first | omega | (simp only [RO]; done) | assumption) only [RS, hv.rd.at1 und44 size31, hv.load1 agg31, six44, gix44])
    · refine ⟨m - 1, by omega, m - 1, rfl, by omega, rfl, fun j hj => ?_⟩
      by_cases he : j = m - 1
      · subst he; assumption
      · exact hz j (by omega)
    · skip
      (
       (refine AEnd_gen (rs := [.tmp 2]) rfl ?_)
       (simp only [AEndR, aresults, Fr.put_some, Fr.put_none, fr0_zero, fr0_succ, fr0_nil, Nat.reduceEqDiff, reduceIte, k3])
       (try simp (disch := (first | omega | (simp only [RO]; done) | assumption | (simp only [RM, Go.PW.dig_length]; done) | (simp only [RL, Go.PW.dig_length]; omega))) only [RD, reduceCtorEq, reduceIte, Go.PW.dig_length, Nat.reduceLeDiff, Nat.reduceAdd, Nat.reduceMul, Int.reduceToNat, tf107WdE, k3]))
      rw [cnt_uniq hz (.inr (by assumption))]
  · skip
    repeat' first
      | (with_reducible first | refine AWp_seq_k (fun K hK => ?_) | refine AWp_exit ?_ | refine AWp_ret ?_ | refine AWp_regionE ?_ | refine AWp_condI ?_)
      | (with_reducible refine EGuard_split (fun hc => ?_) (fun hc => ?_) <;> (try simp only [RC] at hc) <;> (try (exfalso; first | omega | contradiction)))
      | (with_reducible refine AIte (fun hc => ?_) (fun hc => ?_) <;> (try simp only [RC] at hc) <;> (try (exfalso; first | omega | contradiction)))
      | (simp only [thenA, inBlockA, reduceIte, Nat.reduceEqDiff])
      | ((with_reducible refine hK _ _ ?_); clear hK)
      | (clear hK; (with_reducible refine hK _ _ ?_); clear hK)
      | (simp only [ACond, RA, EAtS_def, EAtX_def, wantedA, acall, astep, ev, ofValue, ofAtom, Nat.reduceEqDiff, Nat.reduceAdd, Nat.reduceMul, Nat.reduceSub, reduceCtorEq, reduceIte, aoptEv, abin, aint, ashift, aun, astr, aeqGuard, isConstOp, aconvH, aofStr, aconvSame, isU8, abuildSlice, afill, splice, azeros, Nat.reduceLeDiff, Nat.reduceLT, Int.reduceLE, Int.reduceLT, Int.reduceEq, Int.reduceToNat, Int.reducePow, IntKind.bits, Int.reduceNeg, RB, aalloc, Go.PW.dig_length, tf107WdE, k0, k3])
      | (simp (disch := first | omega | (simp only [RO]; done) | assumption) only [RS, six44, gix44])
    (
     (refine AEnd_gen (rs := [.tmp 2]) rfl ?_)
     (simp only [AEndR, aresults, Fr.put_some, Fr.put_none, fr0_zero, fr0_succ, fr0_nil, Nat.reduceEqDiff, reduceIte, k3])
     (try simp (disch := (first | omega | (simp only [RO]; done) | assumption | (simp only [RM, Go.PW.dig_length]; done) | (simp only [RL, Go.PW.dig_length]; omega))) only [RD, reduceCtorEq, reduceIte, Go.PW.dig_length, Nat.reduceLeDiff, Nat.reduceAdd, Nat.reduceMul, Int.reduceToNat, tf107WdE, k3]))
    rw [← cnt_uniq hz (.inl (by omega))]
end Go.Proofs.YtfalfmfkifemeaaGreatDoor
set_option linter.unusedVariables false
set_option linter.unusedSimpArgs false
namespace Go.Proofs.YtfalfmfkifemeaaGreatDoor
open Go.AL Go.PW
theorem tf85WdF : type_of% (@tyb31) := @tyb31
theorem tf102WdF : type_of% (And.intro @tyb3 (And.intro @tyb5 (And.intro @tyb9 (And.intro @tyb31 (And.intro @cv5_3 (@cv31_5)))))) := And.intro @tyb3 (And.intro @tyb5 (And.intro @tyb9 (And.intro @tyb31 (And.intro @cv5_3 (@cv31_5)))))
theorem tf114WdF : type_of% (And.intro @tyb3 (@tyb31)) := And.intro @tyb3 (@tyb31)
set_option maxRecDepth 8000
theorem mul64_calls (x y : Int) (H : Hp) (hx : 0 ≤ x ∧ x < Bs) (hy : 0 ≤ y ∧ y < Bs) : ACalls Tryz.prog 85 [.int .u64 x, .int .u64 y] H fun r H' => r = .tup [.int .u64 (x * y / Bs), .int .u64 (x * y % Bs)] ∧ H = H' := by
  refine ACalls_body Tryz.func85 rfl (by kernel_rfl) (by kernel_rfl) ?_
  repeat' first
    | (with_reducible first | refine AWp_seq_k (fun K hK => ?_) | refine AWp_ret ?_ | refine AWp_regionE ?_)
    | (simp only [thenA, inBlockA, reduceIte, Nat.reduceEqDiff])
    | ((with_reducible refine hK _ _ ?_); clear hK)
    | (simp only [ACond, RA, EAtS_def, EAtX_def, wantedA, acall, astep, ev, ofValue, ofAtom, Nat.reduceEqDiff, Nat.reduceAdd, Nat.reduceMul, Nat.reduceSub, reduceCtorEq, reduceIte, aoptEv, abin, aint, ashift, aun, astr, aeqGuard, isConstOp, aconvH, aofStr, aconvSame, isU8, abuildSlice, afill, splice, azeros, Nat.reduceLeDiff, Nat.reduceLT, Int.reduceLE, Int.reduceLT, Int.reduceEq, Int.reduceToNat, Int.reducePow, IntKind.bits, Int.reduceNeg, RB, aalloc, Go.PW.dig_length, tf85WdF])
  (
   (refine AEnd_gen (rs := [.tmp 4, .tmp 5]) rfl ?_)
   (simp only [AEndR, aresults, Fr.put_some, Fr.put_none, fr0_zero, fr0_succ, fr0_nil, Nat.reduceEqDiff, reduceIte])
   (try simp (disch := (first | omega | (simp only [RO]; done) | assumption | (simp only [RM, Go.PW.dig_length]; done) | (simp only [RL, Go.PW.dig_length]; omega))) only [RD, reduceCtorEq, reduceIte, Go.PW.dig_length, Nat.reduceLeDiff, Nat.reduceAdd, Nat.reduceMul, Int.reduceToNat, tf85WdF]))
  have h := mul_high hx hy
  simp only at h
  rw [← h, low32 hx.1 hx.2, low32 hy.1 hy.2]
  have hT : ∀ n : Int, bits .and .u64 (IntKind.u64.wrap n) 4294967295 = IntKind.u64.wrap n % 4294967296 := fun n => by
    rw [u64_wrap]; exact low32 (Int.emod_nonneg _ (by decide)) (Int.emod_lt_of_pos _ (by decide))
  rw [hT]
  simp only [u64_wrap]
def lenTab : ByteArray := { data := (([0, 1, 2, 2, 3, 3, 3, 3, 4, 4, 4, 4, 4, 4, 4, 4, 5, 5, 5, 5, 5, 5, 5, 5, 5, 5, 5, 5, 5, 5, 5, 5, 6, 6, 6, 6, 6, 6, 6, 6, 6, 6, 6, 6, 6, 6, 6, 6, 6, 6, 6, 6, 6, 6, 6, 6, 6, 6, 6, 6, 6, 6, 6, 6].append [7, 7, 7, 7, 7, 7, 7, 7, 7, 7, 7, 7, 7, 7, 7, 7, 7, 7, 7, 7, 7, 7, 7, 7, 7, 7, 7, 7, 7, 7, 7, 7, 7, 7, 7, 7, 7, 7, 7, 7, 7, 7, 7, 7, 7, 7, 7, 7, 7, 7, 7, 7, 7, 7, 7, 7, 7, 7, 7, 7, 7, 7, 7, 7]).append ([8, 8, 8, 8, 8, 8, 8, 8, 8, 8, 8, 8, 8, 8, 8, 8, 8, 8, 8, 8, 8, 8, 8, 8, 8, 8, 8, 8, 8, 8, 8, 8, 8, 8, 8, 8, 8, 8, 8, 8, 8, 8, 8, 8, 8, 8, 8, 8, 8, 8, 8, 8, 8, 8, 8, 8, 8, 8, 8, 8, 8, 8, 8, 8].append [8, 8, 8, 8, 8, 8, 8, 8, 8, 8, 8, 8, 8, 8, 8, 8, 8, 8, 8, 8, 8, 8, 8, 8, 8, 8, 8, 8, 8, 8, 8, 8, 8, 8, 8, 8, 8, 8, 8, 8, 8, 8, 8, 8, 8, 8, 8, 8, 8, 8, 8, 8, 8, 8, 8, 8, 8, 8, 8, 8, 8, 8, 8, 8])).toArray }
theorem lenTab_at : ∀ i : Fin 256, (lenTab.data[i.1]?).map (fun b => b.toNat) = some (bl i.1) := by decide +kernel
theorem u8_wrap (n : Int) : IntKind.u8.wrap n = n % 256 := by
  have e : ((2 : Int) ^ IntKind.u8.bits) = 256 := by decide
  simp only [IntKind.wrap, IntKind.signed, Bool.false_and, Bool.false_eq_true, if_false, e]
theorem len_index (n : Int) (k : IntKind) : aindex Tryz.prog 9 (.str { data := (([0, 1, 2, 2, 3, 3, 3, 3, 4, 4, 4, 4, 4, 4, 4, 4, 5, 5, 5, 5, 5, 5, 5, 5, 5, 5, 5, 5, 5, 5, 5, 5, 6, 6, 6, 6, 6, 6, 6, 6, 6, 6, 6, 6, 6, 6, 6, 6, 6, 6, 6, 6, 6, 6, 6, 6, 6, 6, 6, 6, 6, 6, 6, 6].append [7, 7, 7, 7, 7, 7, 7, 7, 7, 7, 7, 7, 7, 7, 7, 7, 7, 7, 7, 7, 7, 7, 7, 7, 7, 7, 7, 7, 7, 7, 7, 7, 7, 7, 7, 7, 7, 7, 7, 7, 7, 7, 7, 7, 7, 7, 7, 7, 7, 7, 7, 7, 7, 7, 7, 7, 7, 7, 7, 7, 7, 7, 7, 7]).append ([8, 8, 8, 8, 8, 8, 8, 8, 8, 8, 8, 8, 8, 8, 8, 8, 8, 8, 8, 8, 8, 8, 8, 8, 8, 8, 8, 8, 8, 8, 8, 8, 8, 8, 8, 8, 8, 8, 8, 8, 8, 8, 8, 8, 8, 8, 8, 8, 8, 8, 8, 8, 8, 8, 8, 8, 8, 8, 8, 8, 8, 8, 8, 8].append [8, 8, 8, 8, 8, 8, 8, 8, 8, 8, 8, 8, 8, 8, 8, 8, 8, 8, 8, 8, 8, 8, 8, 8, 8, 8, 8, 8, 8, 8, 8, 8, 8, 8, 8, 8, 8, 8, 8, 8, 8, 8, 8, 8, 8, 8, 8, 8, 8, 8, 8, 8, 8, 8, 8, 8, 8, 8, 8, 8, 8, 8, 8, 8])).toArray }) (.int k (IntKind.u8.wrap n)) = some (.int .u8 (bl (n % 256).toNat : Nat)) := by
  show aindex Tryz.prog 9 (.str lenTab) (.int k (IntKind.u8.wrap n)) = _
  rw [u8_wrap]
  have h0 : 0 ≤ n % 256 := Int.emod_nonneg _ (by decide)
  have h1 : n % 256 < 256 := Int.emod_lt_of_pos _ (by decide)
  have h := lenTab_at ⟨(n % 256).toNat, by omega⟩
  simp only [aindex, und9]
  rw [if_pos h0]
  obtain ⟨b, hb, hb2⟩ := Option.map_eq_some_iff.1 h
  rw [hb]
  simp only [Option.map_some, ← hb2]
theorem bl_step {x k : Int} {n : Nat} (hk : k = 2 ^ n) (h : k ≤ x) : bl x.toNat = n + bl (x / k).toNat := by
  subst hk
  have hp : (0 : Int) < 2 ^ n := Int.pow_pos (by decide)
  obtain ⟨a, rfl⟩ := Int.eq_ofNat_of_zero_le (show 0 ≤ x by omega)
  have h' : 2 ^ n ≤ a := by
    have : ((2 ^ n : Nat) : Int) ≤ a := by simpa using h
    omega
  rw [Int.toNat_natCast, bl_div h']
  congr 2
def l3 (z : Int) : Nat := if 256 ≤ z then 8 + bl (z / 256).toNat else bl z.toNat
def l2 (y : Int) : Nat := if 65536 ≤ y then 16 + l3 (y / 65536) else l3 y
def l1 (x : Int) : Nat := if 4294967296 ≤ x then 32 + l2 (x / 4294967296) else l2 x
theorem l3_eq (z : Int) : l3 z = bl z.toNat := by
  unfold l3; split
  · rename_i h; rw [bl_step (n := 8) (by decide) h]
  · rfl
theorem l2_eq (z : Int) : l2 z = bl z.toNat := by
  unfold l2; simp only [l3_eq]; split
  · rename_i h; rw [bl_step (n := 16) (by decide) h]
  · rfl
theorem l1_eq (z : Int) : l1 z = bl z.toNat := by
  unfold l1; simp only [l2_eq]; split
  · rename_i h; rw [bl_step (n := 32) (by decide) h]
  · rfl
theorem len64_calls (x : Int) (H : Hp) (hx : 0 ≤ x ∧ x < Bs) : ACalls Tryz.prog 102 [.int .u64 x] H fun r H' => r = .int .i64 (bl x.toNat : Nat) ∧ H = H' := by
  have hb : ∀ n : Int, bl (n % 256).toNat ≤ 8 := fun n => bl_le (by have := Int.emod_nonneg n (b := 256) (by decide); have := Int.emod_lt_of_pos n (b := 256) (by decide); omega)
  have hw : ∀ n : Int, IntKind.i64.wrap ((bl (n % 256).toNat : Nat) : Int) = (bl (n % 256).toNat : Nat) := fun n => wrap_i64_id (by omega) (by have := hb n; omega)
  have w0 : IntKind.i64.wrap (0 + 16) = 16 := by decide
  have w1 : IntKind.i64.wrap (32 + 16) = 48 := by decide
  have w2 : IntKind.i64.wrap (0 + 8) = 8 := by decide
  have w3 : IntKind.i64.wrap (16 + 8) = 24 := by decide
  have w4 : IntKind.i64.wrap (32 + 8) = 40 := by decide
  have w5 : IntKind.i64.wrap (48 + 8) = 56 := by decide
  have hw2 : ∀ (c n : Int), 0 ≤ c → c ≤ 56 → IntKind.i64.wrap (c + (bl (n % 256).toNat : Nat)) = c + (bl (n % 256).toNat : Nat) := fun c n h0 h1 => wrap_i64_id (by omega) (by have := hb n; omega)
  simp only [Bs] at hx
  refine ACalls_body Tryz.func102 rfl (by kernel_rfl) (by kernel_rfl) ?_
  repeat' first
    | (with_reducible first | refine AWp_seq_k (fun K hK => ?_) | refine AWp_skip ?_ | refine AWp_ret ?_ | refine AWp_regionE ?_ | refine AWp_condI ?_)
    | (with_reducible refine AIte (fun hc => ?_) (fun hc => ?_) <;> (try simp only [RC] at hc) <;> (try (exfalso; first | omega | contradiction)))
    | (simp only [thenA, inBlockA, reduceIte, Nat.reduceEqDiff])
    | ((with_reducible refine hK _ _ ?_); clear hK)
    | (simp only [ACond, RA, EAtS_def, EAtX_def, wantedA, acall, astep, ev, ofValue, ofAtom, Nat.reduceEqDiff, Nat.reduceAdd, Nat.reduceMul, Nat.reduceSub, reduceCtorEq, reduceIte, aoptEv, abin, aint, ashift, aun, astr, aeqGuard, isConstOp, aconvH, aofStr, aconvSame, isU8, abuildSlice, afill, splice, azeros, Nat.reduceLeDiff, Nat.reduceLT, Int.reduceLE, Int.reduceLT, Int.reduceEq, Int.reduceToNat, Int.reducePow, IntKind.bits, Int.reduceNeg, RB, aalloc, Go.PW.dig_length, tf102WdF, len_index, hw, w0, w1, w2, w3, w4, w5])
  all_goals
    (
     (refine AEnd_gen (rs := [.tmp 2]) rfl ?_)
     (simp only [AEndR, aresults, Fr.put_some, Fr.put_none, fr0_zero, fr0_succ, fr0_nil, Nat.reduceEqDiff, reduceIte])
     (try simp (disch := (first | omega | (simp only [RO]; done) | assumption | (simp only [RM, Go.PW.dig_length]; done) | (simp only [RL, Go.PW.dig_length]; omega))) only [RD, reduceCtorEq, reduceIte, Go.PW.dig_length, Nat.reduceLeDiff, Nat.reduceAdd, Nat.reduceMul, Int.reduceToNat, tf102WdF]))
  all_goals
    rw [hw2 _ _ (by decide) (by decide), ← l1_eq x]
    unfold l1
    split <;> (try (exfalso; omega))
    unfold l2
    split <;> (try (exfalso; omega))
    unfold l3
    split <;> (try (exfalso; omega))
    rw [Int.emod_eq_of_lt (by omega) (by omega)]
    congr 1 <;> omega
theorem lz64_calls (x : Int) (H : Hp) (hx : 0 ≤ x ∧ x < Bs) : ACalls Tryz.prog 114 [.int .u64 x] H fun r H' => r = .int .i64 ((64 - bl x.toNat : Nat) : Int) ∧ H = H' := by
  have hb : bl x.toNat ≤ 64 := bl_le (by simp only [Bs] at hx; omega)
  have e : IntKind.i64.wrap (64 - (bl x.toNat : Nat)) = ((64 - bl x.toNat : Nat) : Int) := by rw [wrap_i64_id (by omega) (by omega)]; omega
  refine ACalls_body Tryz.func114 rfl (by kernel_rfl) (by kernel_rfl) ?_
  repeat' first
    | (with_reducible first | refine AWp_seq_k (fun K hK => ?_) | refine AWp_ret ?_ | refine AWp_regionE ?_)
    | ((with_reducible refine ECall_intro (len64_calls _ _ hx) ?_); rintro _ _ ⟨rfl, rfl⟩)
    | (simp only [thenA, inBlockA, reduceIte, Nat.reduceEqDiff])
    | ((with_reducible refine hK _ _ ?_); clear hK)
    | (simp only [ACond, RA, EAtS_def, EAtX_def, wantedA, acall, astep, ev, ofValue, ofAtom, Nat.reduceEqDiff, Nat.reduceAdd, Nat.reduceMul, Nat.reduceSub, reduceCtorEq, reduceIte, aoptEv, abin, aint, ashift, aun, astr, aeqGuard, isConstOp, aconvH, aofStr, aconvSame, isU8, abuildSlice, afill, splice, azeros, Nat.reduceLeDiff, Nat.reduceLT, Int.reduceLE, Int.reduceLT, Int.reduceEq, Int.reduceToNat, Int.reducePow, IntKind.bits, Int.reduceNeg, RB, aalloc, Go.PW.dig_length, tf114WdF, e])
  (
   (refine AEnd_gen (rs := [.tmp 2]) rfl ?_)
   (simp only [AEndR, aresults, Fr.put_some, Fr.put_none, fr0_zero, fr0_succ, fr0_nil, Nat.reduceEqDiff, reduceIte])
   (try simp (disch := (first | omega | (simp only [RO]; done) | assumption | (simp only [RM, Go.PW.dig_length]; done) | (simp only [RL, Go.PW.dig_length]; omega))) only [RD, reduceCtorEq, reduceIte, Go.PW.dig_length, Nat.reduceLeDiff, Nat.reduceAdd, Nat.reduceMul, Int.reduceToNat, tf114WdF]))
end Go.Proofs.YtfalfmfkifemeaaGreatDoor
set_option linter.unusedVariables false
set_option linter.unusedSimpArgs false
namespace Go.Proofs.YtfalfmfkifemeaaGreatDoor
open Go.AL Go.PW
theorem tf113WdG : type_of% (And.intro @tyb3 (And.intro @tyb31 (And.intro @tyb34 (And.intro @tyb35 (And.intro @tyb115 (@cv3_115)))))) := And.intro @tyb3 (And.intro @tyb31 (And.intro @tyb34 (And.intro @tyb35 (And.intro @tyb115 (@cv3_115)))))
set_option maxRecDepth 8000
theorem emod_mul_mul {a b p : Int} (hp : 0 < p) : a * p % (b * p) = a % b * p := by
  rw [Int.mul_comm a p, Int.mul_comm b p, Int.mul_emod_mul_of_pos _ _ hp, Int.mul_comm]
/-- What the machine's test says. -/
theorem dg_test {y1 y0 u d q r : Int} (h : Dg 4294967296 y1 y0 u d q r) (hr0 : 0 ≤ r) (hr : r < 4294967296) (hq0 : 0 ≤ q) (hq : q < 4294967296) : IntKind.u64.wrap (q * y0) = q * y0 ∧ IntKind.u64.wrap (4294967296 * r) = 4294967296 * r ∧ IntKind.u64.wrap (4294967296 * r + d) = 4294967296 * r + d := by
  have h3 := h.h3
  have h4 := h.h4
  have h7 := h.h7
  have h8 := h.h8
  have h1 := mul_bound (x := q) (y := y0) (p := 4294967296 - 1) (q := 4294967296 - 1) ⟨hq0, by omega⟩ ⟨h3, by omega⟩
  have e : ((4294967296 : Int) - 1) * (4294967296 - 1) = 18446744065119617025 := by decide
  replace h1 : 0 ≤ q * y0 ∧ q * y0 ≤ 18446744065119617025 := by rw [← e]; exact h1
  exact ⟨u64_in h1.1 (by simp only [Bs]; omega), u64_in (by omega) (by simp only [Bs]; omega), u64_in (by omega) (by simp only [Bs]; omega)⟩
set_option maxHeartbeats 1000000 in
theorem div64_norm (hi lo y : Int) (s : Nat) (H : Hp) (hy0 : 0 < y) (hh0 : 0 < hi) (hh : hi < y) (hl : 0 ≤ lo ∧ lo < Bs) (hs : s = 64 - bl y.toNat) (hyB : y < Bs) : ACalls Tryz.prog 113 [.int .u64 hi, .int .u64 lo, .int .u64 y] H fun r H' => r = .tup [.int .u64 ((hi * Bs + lo) / y), .int .u64 ((hi * Bs + lo) % y)] ∧ H = H' := by
  obtain ⟨yn, rfl⟩ := Int.eq_ofNat_of_zero_le (Int.le_of_lt hy0)
  rw [Int.toNat_natCast] at hs
  have hyn : yn ≠ 0 := by omega
  have b1 := bl_lt yn
  have b2 := bl_ge hyn
  have b3 := bl_pos hyn
  have b4 : bl yn ≤ 64 := bl_le (by simp only [Bs] at hyB; omega)
  have hs63 : s ≤ 63 := by omega
  have hp : (0 : Int) < 2 ^ s := Int.pow_pos (by decide)
  have e64 : (2 : Int) ^ s * 2 ^ (64 - s) = Bs := by
    rw [← Int.pow_add, show s + (64 - s) = 64 by omega]; decide
  have hbl : bl yn = 64 - s := by omega
  -- the divisor, moved to the left
  have hY1 : (yn : Int) * 2 ^ s < Bs := by
    rw [hbl] at b1
    have h1 : (yn : Int) < 2 ^ (64 - s) := by
      have : ((yn : Nat) : Int) < ((2 ^ (64 - s) : Nat) : Int) := by omega
      simpa using this
    have := Int.mul_lt_mul_of_pos_right h1 hp
    rw [Int.mul_comm (2 ^ (64 - s))] at this
    omega
  have hY2 : 9223372036854775808 ≤ (yn : Int) * 2 ^ s := by
    rw [hbl] at b2
    have h1 : (2 : Int) ^ (64 - s - 1) ≤ yn := by
      have : ((2 ^ (64 - s - 1) : Nat) : Int) ≤ (yn : Int) := by omega
      simpa using this
    have h2 := Int.mul_le_mul_of_nonneg_right h1 (Int.le_of_lt hp)
    rw [← Int.pow_add, show 64 - s - 1 + s = 63 by omega] at h2
    have : (2 : Int) ^ 63 = 9223372036854775808 := by decide
    omega
  have hH : hi * 2 ^ s < Bs := by
    have := Int.mul_lt_mul_of_pos_right hh hp
    omega
  obtain ⟨Y, hY⟩ : ∃ Y, Y = (yn : Int) * 2 ^ s := ⟨_, rfl⟩
  -- what is divided
  obtain ⟨l1, hl1⟩ : ∃ l1, l1 = lo / 2 ^ (64 - s) := ⟨_, rfl⟩
  have hp2 : (0 : Int) < 2 ^ (64 - s) := Int.pow_pos (by decide)
  have hl1a : 0 ≤ l1 := by rw [hl1]; exact Int.ediv_nonneg hl.1 (Int.le_of_lt hp2)
  have hl1b : l1 < 2 ^ s := by
    rw [hl1]
    apply Int.ediv_lt_of_lt_mul hp2
    rw [e64]; exact hl.2
  have h2s : (2 : Int) ^ s ≤ 9223372036854775808 := by
    have : (2 : Int) ^ s ≤ 2 ^ 63 := by
      have := Nat.pow_le_pow_right (n := 2) (by decide) hs63
      have h : ((2 ^ s : Nat) : Int) ≤ ((2 ^ 63 : Nat) : Int) := by omega
      simpa using h
    have h63 : (2 : Int) ^ 63 = 9223372036854775808 := by decide
    omega
  have hor : bits .or .u64 (hi * 2 ^ s) l1 = hi * 2 ^ s + l1 := or_add s (by omega) hH hl1a hl1b (by simp only [Bs]; omega)
  obtain ⟨u, hu⟩ : ∃ u, u = hi * 2 ^ s + l1 := ⟨_, rfl⟩
  obtain ⟨l0, hl0⟩ : ∃ l0, l0 = lo * 2 ^ s % Bs := ⟨_, rfl⟩
  have hl0a : 0 ≤ l0 ∧ l0 < Bs := by rw [hl0]; exact ⟨Int.emod_nonneg _ (by decide), Int.emod_lt_of_pos _ (by decide)⟩
  have hN : u * Bs + l0 = (hi * Bs + lo) * 2 ^ s := by
    have h1 : lo * 2 ^ s = Bs * l1 + l0 := by
      have h2 : lo * 2 ^ s / Bs = l1 := by
        rw [← e64, Int.mul_comm (2 ^ s) (2 ^ (64 - s)), Int.mul_ediv_mul_of_pos_left _ _ hp, hl1]
      have := Int.emod_add_mul_ediv (lo * 2 ^ s) Bs
      rw [h2, ← hl0] at this
      omega
    rw [hu]
    grind
  have hu0 : 0 ≤ u := by have := Int.mul_pos hh0 hp; omega
  have huY : u < Y := by
    have h1 : (hi + 1) * 2 ^ s ≤ yn * 2 ^ s := Int.mul_le_mul_of_nonneg_right (by omega) (Int.le_of_lt hp)
    rw [Int.add_mul] at h1
    omega
  rw [← hY] at hY1 hY2
  obtain ⟨y1, hy1⟩ : ∃ y1, y1 = Y / 4294967296 := ⟨_, rfl⟩
  obtain ⟨y0, hy0'⟩ : ∃ y0, y0 = Y % 4294967296 := ⟨_, rfl⟩
  have hYe : Y = y1 * 4294967296 + y0 := by omega
  obtain ⟨d1, hd1⟩ : ∃ d, d = l0 / 4294967296 := ⟨_, rfl⟩
  obtain ⟨d0, hd0⟩ : ∃ d, d = l0 % 4294967296 := ⟨_, rfl⟩
  simp only [Bs] at hY1 hl0a hyB
  have w1 : IntKind.u64.wrap ((yn : Int) * 2 ^ s) = Y := by rw [← hY]; exact u64_in (by omega) (by simp only [Bs]; omega)
  have w2 : IntKind.u64.wrap (hi * 2 ^ s) = hi * 2 ^ s := u64_in (by have := Int.mul_pos hh0 hp; omega) hH
  have w3 : IntKind.u64.wrap (lo * 2 ^ s) = l0 := by rw [u64_wrap, ← hl0]
  have w4 : IntKind.u64.wrap ((s : Nat) : Int) = s := u64_in (by omega) (by simp only [Bs]; omega)
  have w5 : IntKind.u64.wrap (64 - ((s : Nat) : Int)) = ((64 - s : Nat) : Int) := by rw [u64_in (by omega) (by simp only [Bs]; omega)]; omega
  have w6 : bits .and .u64 Y 4294967295 = y0 := by rw [low32 (by omega) (by simp only [Bs]; omega), hy0']
  have w7 : bits .and .u64 l0 4294967295 = d0 := by rw [low32 (by omega) (by simp only [Bs]; omega), hd0]
  have m1 : (s ≤ 64) = True := by simp; omega
  have m2 : (64 - s ≤ 64) = True := by simp
  have w8 : IntKind.u64.bits = 64 := by decide
  have D1 : Dg 4294967296 y1 y0 u d1 (u / y1) (u % y1) := Dg.start (by decide) (by omega) (by omega) (by omega) hu0 (by rw [← hYe]; exact huY) (by omega) (by omega)
  have hcall : ACalls Tryz.prog 114 [.int .u64 (yn : Int)] H fun r H' => r = .int .i64 (s : Int) ∧ H = H' := by
    have := lz64_calls (yn : Int) H ⟨by omega, by simp only [Bs]; omega⟩
    rwa [Int.toNat_natCast, ← hs] at this
  have w9 : IntKind.u64.wrap (u / y1) = u / y1 := u64_in (Int.ediv_nonneg hu0 (by omega)) (by have := D1.hm; simp only [Bs] at *; omega)
  have htq : (u).tdiv y1 = u / y1 := Int.tdiv_eq_ediv_of_nonneg hu0
  have hy1p : 0 < y1 := by omega
  have hem := Int.emod_add_mul_ediv u y1
  have hem0 := Int.emod_nonneg u (b := y1) (by omega)
  have hem1 := Int.emod_lt_of_pos u (b := y1) (by omega)
  have hcm := Int.mul_comm y1 (u / y1)
  have w10 : IntKind.u64.wrap (u / y1 * y1) = u / y1 * y1 := u64_in (Int.mul_nonneg (Int.ediv_nonneg hu0 (by omega)) (by omega)) (by simp only [Bs]; omega)
  have w11 : IntKind.u64.wrap (u - u / y1 * y1) = u % y1 := by rw [u64_in (by omega) (by simp only [Bs]; omega)]; omega
  have hy1n : (y1 = 0) = False := by simp; omega
  refine ACalls_body Tryz.func113 rfl (by kernel_rfl) (by kernel_rfl) ?_
  repeat' first
    | (with_reducible first | refine AWp_seq_k (fun K hK => ?_) | refine AWp_block ?_ | refine AWp_skip ?_ | refine AWp_regionE ?_ | refine AWp_condI ?_)
    | ((with_reducible refine ECall_intro (hcall) ?_); rintro _ _ ⟨rfl, rfl⟩)
    | (with_reducible refine AIte (fun hc => ?_) (fun hc => ?_) <;> (try simp only [RC] at hc) <;> (try (exfalso; first | omega | contradiction)))
    | (simp only [thenA, inBlockA, reduceIte, Nat.reduceEqDiff])
    | ((with_reducible refine hK _ _ ?_); clear hK)
    | (simp only [ACond, RA, EAtS_def, EAtX_def, wantedA, acall, astep, ev, ofValue, ofAtom, Nat.reduceEqDiff, Nat.reduceAdd, Nat.reduceMul, Nat.reduceSub, reduceCtorEq, reduceIte, aoptEv, abin, aint, ashift, aun, astr, aeqGuard, isConstOp, aconvH, aofStr, aconvSame, isU8, abuildSlice, afill, splice, azeros, Nat.reduceLeDiff, Nat.reduceLT, Int.reduceLE, Int.reduceLT, Int.reduceEq, Int.reduceToNat, Int.reducePow, IntKind.bits, Int.reduceNeg, RB, aalloc, Go.PW.dig_length, tf113WdG, w1, w2, w3, w4, w5, w6, w7, w8, m1, m2, ← hl1, hor, ← hu, ← hy1, ← hd1, htq, w9, w10, w11, hy1n])
    | (simp (disch := first | omega | (simp only [RO]; done) | assumption) only [RS])
  refine AWp_cutB (fun fr' H' => fr' 2 = .int .u64 Y ∧ fr' 8 = .int .u64 (s : Int) ∧ fr' 9 = .int .u64 y1 ∧ fr' 10 = .int .u64 y0 ∧ fr' 11 = .int .u64 u ∧ fr' 13 = .int .u64 d1 ∧ fr' 14 = .int .u64 d0 ∧ fr' 15 = .int .u64 ((u * 4294967296 + d1) / Y) ∧ H = H') ?_ (fun fr' H' h => hK _ _ ?_)
  · clear hK
    refine AWp_loop (fun m fr' H' => ∃ q r : Int, m = q.toNat ∧ 0 ≤ q ∧ 0 ≤ r ∧ r < 4294967296 ∧ Dg 4294967296 y1 y0 u d1 q r ∧ fr' 2 = .int .u64 Y ∧ fr' 8 = .int .u64 (s : Int) ∧ fr' 9 = .int .u64 y1 ∧ fr' 10 = .int .u64 y0 ∧ fr' 11 = .int .u64 u ∧ fr' 13 = .int .u64 d1 ∧ fr' 14 = .int .u64 d0 ∧ fr' 15 = .int .u64 q ∧ fr' 16 = .int .u64 r ∧ H = H') (m := (u / y1).toNat)
      ⟨u / y1, u % y1, rfl, Int.ediv_nonneg hu0 (by omega), hem0, by omega, D1, rfl, rfl, rfl, rfl, rfl, rfl, rfl, rfl, rfl, rfl⟩ ?_
    rintro m fr' H' ⟨q, r, rfl, q0, r0, r1, D, k2, k8, k9, k10, k11, k13, k14, k15, k16, rfl⟩
    have hqm := D.hm
    have hqp := D.hq
    have hqn := D.nonneg
    by_cases ht : 4294967296 ≤ q ∨ 4294967296 * r + d1 < q * y0
    · have hq1 : 0 < q := by
        rcases ht with h | h
        · omega
        · rcases Int.lt_or_le 0 q with h' | h'
          · exact h'
          · exfalso
            obtain rfl : q = 0 := by omega
            rw [Int.zero_mul] at h
            omega
      have D' := D.next ht
      have v1 : IntKind.u64.wrap (q - 1) = q - 1 := u64_in (by omega) (by simp only [Bs]; omega)
      have v2 : IntKind.u64.wrap (r + y1) = r + y1 := u64_in (by omega) (by simp only [Bs]; omega)
      have fin : 4294967296 ≤ r + y1 → q - 1 = (u * 4294967296 + d1) / Y := fun h => by
        rw [hYe]; exact D'.over (by omega) h
      by_cases hqB : q < 4294967296
      · obtain ⟨t1, t2, t3⟩ := dg_test D r0 r1 q0 hqB
        have ht' : 4294967296 * r + d1 < q * y0 := by omega
        repeat' first
          | (with_reducible first | refine AWp_seq_k (fun K hK => ?_) | refine AWp_block ?_ | refine AWp_skip ?_ | refine AWp_exit ?_ | refine AWp_regionE ?_ | refine AWp_condI ?_)
          | (with_reducible refine EGuard_split (fun hc => ?_) (fun hc => ?_) <;> (try simp only [RC] at hc) <;> (try (exfalso; first | omega | contradiction)))
          | (with_reducible refine And.intro ?_ ?_)
          | (with_reducible refine AIte (fun hc => ?_) (fun hc => ?_) <;> (try simp only [RC] at hc) <;> (try (exfalso; first | omega | contradiction)))
          | (simp only [thenA, inBlockA, reduceIte, Nat.reduceEqDiff])
          | ((with_reducible refine hK _ _ ?_); clear hK)
          | (simp only [ACond, RA, EAtS_def, EAtX_def, wantedA, acall, astep, ev, ofValue, ofAtom, Nat.reduceEqDiff, Nat.reduceAdd, Nat.reduceMul, Nat.reduceSub, reduceCtorEq, reduceIte, aoptEv, abin, aint, ashift, aun, astr, aeqGuard, isConstOp, aconvH, aofStr, aconvSame, isU8, abuildSlice, afill, splice, azeros, Nat.reduceLeDiff, Nat.reduceLT, Int.reduceLE, Int.reduceLT, Int.reduceEq, Int.reduceToNat, Int.reducePow, IntKind.bits, Int.reduceNeg, RB, aalloc, Go.PW.dig_length, tf113WdG, k2, k8, k9, k10, k11, k13, k14, k15, k16, t1, t2, t3, v1, v2])
          | (simp (disch := first | omega | (simp only [RO]; done) | assumption) only [RS])
        · rw [fin (by omega)]
        · exact ⟨(q - 1).toNat, by omega, q - 1, r + y1, rfl, by omega, by omega, by omega, D', rfl, rfl⟩
      · skip
        repeat' first
          | (with_reducible first | refine AWp_seq_k (fun K hK => ?_) | refine AWp_block ?_ | refine AWp_skip ?_ | refine AWp_exit ?_ | refine AWp_regionE ?_ | refine AWp_condI ?_)
          | (with_reducible refine EGuard_split (fun hc => ?_) (fun hc => ?_) <;> (try simp only [RC] at hc) <;> (try (exfalso; first | omega | contradiction)))
          | (with_reducible refine And.intro ?_ ?_)
          | (with_reducible refine AIte (fun hc => ?_) (fun hc => ?_) <;> (try simp only [RC] at hc) <;> (try (exfalso; first | omega | contradiction)))
          | (simp only [thenA, inBlockA, reduceIte, Nat.reduceEqDiff])
          | ((with_reducible refine hK _ _ ?_); clear hK)
          | (simp only [ACond, RA, EAtS_def, EAtX_def, wantedA, acall, astep, ev, ofValue, ofAtom, Nat.reduceEqDiff, Nat.reduceAdd, Nat.reduceMul, Nat.reduceSub, reduceCtorEq, reduceIte, aoptEv, abin, aint, ashift, aun, astr, aeqGuard, isConstOp, aconvH, aofStr, aconvSame, isU8, abuildSlice, afill, splice, azeros, Nat.reduceLeDiff, Nat.reduceLT, Int.reduceLE, Int.reduceLT, Int.reduceEq, Int.reduceToNat, Int.reducePow, IntKind.bits, Int.reduceNeg, RB, aalloc, Go.PW.dig_length, tf113WdG, k2, k8, k9, k10, k11, k13, k14, k15, k16, v1, v2])
          | (simp (disch := first | omega | (simp only [RO]; done) | assumption) only [RS])
        · rw [fin (by omega)]
        · exact ⟨(q - 1).toNat, by omega, q - 1, r + y1, rfl, by omega, by omega, by omega, D', rfl, rfl⟩
    · have hqB : q < 4294967296 := by omega
      obtain ⟨t1, t2, t3⟩ := dg_test D r0 r1 q0 hqB
      have ht' : ¬ 4294967296 * r + d1 < q * y0 := by omega
      have fin : q = (u * 4294967296 + d1) / Y := by rw [hYe]; exact D.done (by omega)
      repeat' first
        | (with_reducible first | refine AWp_seq_k (fun K hK => ?_) | refine AWp_exit ?_ | refine AWp_regionE ?_ | refine AWp_condI ?_)
        | (with_reducible refine EGuard_split (fun hc => ?_) (fun hc => ?_) <;> (try simp only [RC] at hc) <;> (try (exfalso; first | omega | contradiction)))
        | (with_reducible refine And.intro ?_ ?_)
        | (with_reducible refine AIte (fun hc => ?_) (fun hc => ?_) <;> (try simp only [RC] at hc) <;> (try (exfalso; first | omega | contradiction)))
        | (simp only [thenA, inBlockA, reduceIte, Nat.reduceEqDiff])
        | ((with_reducible refine hK _ _ ?_); clear hK)
        | (simp only [ACond, RA, EAtS_def, EAtX_def, wantedA, acall, astep, ev, ofValue, ofAtom, Nat.reduceEqDiff, Nat.reduceAdd, Nat.reduceMul, Nat.reduceSub, reduceCtorEq, reduceIte, aoptEv, abin, aint, ashift, aun, astr, aeqGuard, isConstOp, aconvH, aofStr, aconvSame, isU8, abuildSlice, afill, splice, azeros, Nat.reduceLeDiff, Nat.reduceLT, Int.reduceLE, Int.reduceLT, Int.reduceEq, Int.reduceToNat, Int.reducePow, IntKind.bits, Int.reduceNeg, RB, aalloc, Go.PW.dig_length, tf113WdG, k2, k8, k9, k10, k11, k13, k14, k15, k16, t1, t2, t3])
        | (simp (disch := first | omega | (simp only [RO]; done) | assumption) only [RS])
      rw [← fin]
  · clear hK
    obtain ⟨k2, k8, k9, k10, k11, k13, k14, k15, rfl⟩ := h
    have hYp : 0 < Y := by omega
    obtain ⟨q1, hq1⟩ : ∃ q1, q1 = (u * 4294967296 + d1) / Y := ⟨_, rfl⟩
    obtain ⟨u2, hu2⟩ : ∃ u2, u2 = (u * 4294967296 + d1) % Y := ⟨_, rfl⟩
    have hem2 := Int.emod_add_mul_ediv (u * 4294967296 + d1) Y
    rw [← hq1, ← hu2] at hem2
    have hu20 : 0 ≤ u2 := by rw [hu2]; exact Int.emod_nonneg _ (by omega)
    have hu2Y : u2 < Y := by rw [hu2]; exact Int.emod_lt_of_pos _ hYp
    rw [← hq1] at k15
    have hcm2 := Int.mul_comm Y q1
    have x1 : IntKind.u64.wrap (IntKind.u64.wrap (IntKind.u64.wrap (u * 4294967296) + d1) - IntKind.u64.wrap (q1 * Y)) = u2 := by
      simp only [u64_wrap, Bs]
      omega
    have D2 : Dg 4294967296 y1 y0 u2 d0 (u2 / y1) (u2 % y1) := Dg.start (by decide) (by omega) (by omega) (by omega) hu20 (by rw [← hYe]; exact hu2Y) (by omega) (by omega)
    have htq2 : (u2).tdiv y1 = u2 / y1 := Int.tdiv_eq_ediv_of_nonneg hu20
    have gem := Int.emod_add_mul_ediv u2 y1
    have gem0 := Int.emod_nonneg u2 (b := y1) (by omega)
    have gem1 := Int.emod_lt_of_pos u2 (b := y1) (by omega)
    have gcm := Int.mul_comm y1 (u2 / y1)
    have x2 : IntKind.u64.wrap (u2 / y1) = u2 / y1 := u64_in (Int.ediv_nonneg hu20 (by omega)) (by have := D2.hm; simp only [Bs] at *; omega)
    have x3 : IntKind.u64.wrap (u2 / y1 * y1) = u2 / y1 * y1 := u64_in (Int.mul_nonneg (Int.ediv_nonneg hu20 (by omega)) (by omega)) (by simp only [Bs]; omega)
    have x4 : IntKind.u64.wrap (u2 - u2 / y1 * y1) = u2 % y1 := by rw [u64_in (by omega) (by simp only [Bs]; omega)]; omega
    repeat' first
      | (with_reducible first | refine AWp_seq_k (fun K hK => ?_) | refine AWp_block ?_ | refine AWp_regionE ?_)
      | (simp only [thenA, inBlockA, reduceIte, Nat.reduceEqDiff])
      | ((with_reducible refine hK _ _ ?_); clear hK)
      | (simp only [ACond, RA, EAtS_def, EAtX_def, wantedA, acall, astep, ev, ofValue, ofAtom, Nat.reduceEqDiff, Nat.reduceAdd, Nat.reduceMul, Nat.reduceSub, reduceCtorEq, reduceIte, aoptEv, abin, aint, ashift, aun, astr, aeqGuard, isConstOp, aconvH, aofStr, aconvSame, isU8, abuildSlice, afill, splice, azeros, Nat.reduceLeDiff, Nat.reduceLT, Int.reduceLE, Int.reduceLT, Int.reduceEq, Int.reduceToNat, Int.reducePow, IntKind.bits, Int.reduceNeg, RB, aalloc, Go.PW.dig_length, tf113WdG, k2, k8, k9, k10, k11, k13, k14, k15, x1, htq2, hy1n, x2, x3, x4])
    refine AWp_cutB (fun fr' H' => fr' 2 = .int .u64 Y ∧ fr' 8 = .int .u64 (s : Int) ∧ fr' 14 = .int .u64 d0 ∧ fr' 15 = .int .u64 q1 ∧ fr' 17 = .int .u64 u2 ∧ fr' 18 = .int .u64 ((u2 * 4294967296 + d0) / Y) ∧ H = H') ?_ (fun fr' H' h => hK _ _ ?_)
    · clear hK
      refine AWp_loop (fun m fr' H' => ∃ q r : Int, m = q.toNat ∧ 0 ≤ q ∧ 0 ≤ r ∧ r < 4294967296 ∧ Dg 4294967296 y1 y0 u2 d0 q r ∧ fr' 2 = .int .u64 Y ∧ fr' 8 = .int .u64 (s : Int) ∧ fr' 9 = .int .u64 y1 ∧ fr' 10 = .int .u64 y0 ∧ fr' 14 = .int .u64 d0 ∧ fr' 15 = .int .u64 q1 ∧ fr' 17 = .int .u64 u2 ∧ fr' 18 = .int .u64 q ∧ fr' 16 = .int .u64 r ∧ H = H') (m := (u2 / y1).toNat)
        ⟨u2 / y1, u2 % y1, rfl, Int.ediv_nonneg hu20 (by omega), gem0, by omega, D2, k2, k8, k9, k10, k14, k15, rfl, rfl, rfl, rfl⟩ ?_
      clear k2 k8 k9 k10 k11 k13 k14 k15
      rintro m fr' H' ⟨q, r, rfl, q0, r0, r1, D, k2, k8, k9, k10, k14, k15, k17, k18, k16, rfl⟩
      have hqm := D.hm
      have hqp := D.hq
      have hqn := D.nonneg
      by_cases ht : 4294967296 ≤ q ∨ 4294967296 * r + d0 < q * y0
      · have hq1 : 0 < q := by
          rcases ht with h | h
          · omega
          · rcases Int.lt_or_le 0 q with h' | h'
            · exact h'
            · exfalso
              obtain rfl : q = 0 := by omega
              rw [Int.zero_mul] at h
              omega
        have D' := D.next ht
        have v1 : IntKind.u64.wrap (q - 1) = q - 1 := u64_in (by omega) (by simp only [Bs]; omega)
        have v2 : IntKind.u64.wrap (r + y1) = r + y1 := u64_in (by omega) (by simp only [Bs]; omega)
        have fin : 4294967296 ≤ r + y1 → q - 1 = (u2 * 4294967296 + d0) / Y := fun h => by
          rw [hYe]; exact D'.over (by omega) h
        by_cases hqB : q < 4294967296
        · obtain ⟨t1, t2, t3⟩ := dg_test D r0 r1 q0 hqB
          have ht' : 4294967296 * r + d0 < q * y0 := by omega
          repeat' first
            | (with_reducible first | refine AWp_seq_k (fun K hK => ?_) | refine AWp_block ?_ | refine AWp_skip ?_ | refine AWp_exit ?_ | refine AWp_regionE ?_ | refine AWp_condI ?_)
            | (with_reducible refine EGuard_split (fun hc => ?_) (fun hc => ?_) <;> (try simp only [RC] at hc) <;> (try (exfalso; first | omega | contradiction)))
            | (with_reducible refine And.intro ?_ ?_)
            | (with_reducible refine AIte (fun hc => ?_) (fun hc => ?_) <;> (try simp only [RC] at hc) <;> (try (exfalso; first | omega | contradiction)))
            | (simp only [thenA, inBlockA, reduceIte, Nat.reduceEqDiff])
            | ((with_reducible refine hK _ _ ?_); clear hK)
            | (simp only [ACond, RA, EAtS_def, EAtX_def, wantedA, acall, astep, ev, ofValue, ofAtom, Nat.reduceEqDiff, Nat.reduceAdd, Nat.reduceMul, Nat.reduceSub, reduceCtorEq, reduceIte, aoptEv, abin, aint, ashift, aun, astr, aeqGuard, isConstOp, aconvH, aofStr, aconvSame, isU8, abuildSlice, afill, splice, azeros, Nat.reduceLeDiff, Nat.reduceLT, Int.reduceLE, Int.reduceLT, Int.reduceEq, Int.reduceToNat, Int.reducePow, IntKind.bits, Int.reduceNeg, RB, aalloc, Go.PW.dig_length, tf113WdG, k2, k8, k9, k10, k14, k15, k16, k17, k18, t1, t2, t3, v1, v2])
            | (simp (disch := first | omega | (simp only [RO]; done) | assumption) only [RS])
          · rw [fin (by omega)]
          · exact ⟨(q - 1).toNat, by omega, q - 1, r + y1, rfl, by omega, by omega, by omega, D', rfl, rfl⟩
        · skip
          repeat' first
            | (with_reducible first | refine AWp_seq_k (fun K hK => ?_) | refine AWp_block ?_ | refine AWp_skip ?_ | refine AWp_exit ?_ | refine AWp_regionE ?_ | refine AWp_condI ?_)
            | (with_reducible refine EGuard_split (fun hc => ?_) (fun hc => ?_) <;> (try simp only [RC] at hc) <;> (try (exfalso; first | omega | contradiction)))
            | (with_reducible refine And.intro ?_ ?_)
            | (with_reducible refine AIte (fun hc => ?_) (fun hc => ?_) <;> (try simp only [RC] at hc) <;> (try (exfalso; first | omega | contradiction)))
            | (simp only [thenA, inBlockA, reduceIte, Nat.reduceEqDiff])
            | ((with_reducible refine hK _ _ ?_); clear hK)
            | (simp only [ACond, RA, EAtS_def, EAtX_def, wantedA, acall, astep, ev, ofValue, ofAtom, Nat.reduceEqDiff, Nat.reduceAdd, Nat.reduceMul, Nat.reduceSub, reduceCtorEq, reduceIte, aoptEv, abin, aint, ashift, aun, astr, aeqGuard, isConstOp, aconvH, aofStr, aconvSame, isU8, abuildSlice, afill, splice, azeros, Nat.reduceLeDiff, Nat.reduceLT, Int.reduceLE, Int.reduceLT, Int.reduceEq, Int.reduceToNat, Int.reducePow, IntKind.bits, Int.reduceNeg, RB, aalloc, Go.PW.dig_length, tf113WdG, k2, k8, k9, k10, k14, k15, k16, k17, k18, v1, v2])
            | (simp (disch := first | omega | (simp only [RO]; done) | assumption) only [RS])
          · rw [fin (by omega)]
          · exact ⟨(q - 1).toNat, by omega, q - 1, r + y1, rfl, by omega, by omega, by omega, D', rfl, rfl⟩
      · have hqB : q < 4294967296 := by omega
        obtain ⟨t1, t2, t3⟩ := dg_test D r0 r1 q0 hqB
        have ht' : ¬ 4294967296 * r + d0 < q * y0 := by omega
        have fin : q = (u2 * 4294967296 + d0) / Y := by rw [hYe]; exact D.done (by omega)
        repeat' first
          | (with_reducible first | refine AWp_seq_k (fun K hK => ?_) | refine AWp_exit ?_ | refine AWp_regionE ?_ | refine AWp_condI ?_)
          | (with_reducible refine EGuard_split (fun hc => ?_) (fun hc => ?_) <;> (try simp only [RC] at hc) <;> (try (exfalso; first | omega | contradiction)))
          | (with_reducible refine And.intro ?_ ?_)
          | (with_reducible refine AIte (fun hc => ?_) (fun hc => ?_) <;> (try simp only [RC] at hc) <;> (try (exfalso; first | omega | contradiction)))
          | (simp only [thenA, inBlockA, reduceIte, Nat.reduceEqDiff])
          | ((with_reducible refine hK _ _ ?_); clear hK)
          | (simp only [ACond, RA, EAtS_def, EAtX_def, wantedA, acall, astep, ev, ofValue, ofAtom, Nat.reduceEqDiff, Nat.reduceAdd, Nat.reduceMul, Nat.reduceSub, reduceCtorEq, reduceIte, aoptEv, abin, aint, ashift, aun, astr, aeqGuard, isConstOp, aconvH, aofStr, aconvSame, isU8, abuildSlice, afill, splice, azeros, Nat.reduceLeDiff, Nat.reduceLT, Int.reduceLE, Int.reduceLT, Int.reduceEq, Int.reduceToNat, Int.reducePow, IntKind.bits, Int.reduceNeg, RB, aalloc, Go.PW.dig_length, tf113WdG, k2, k8, k9, k10, k14, k15, k16, k17, k18, t1, t2, t3])
          | (simp (disch := first | omega | (simp only [RO]; done) | assumption) only [RS])
        rw [← fin]
    · clear hK k2 k8 k9 k10 k11 k13 k14 k15
      obtain ⟨k2, k8, k14, k15, k17, k18, rfl⟩ := h
      obtain ⟨q0, hq0⟩ : ∃ q0, q0 = (u2 * 4294967296 + d0) / Y := ⟨_, rfl⟩
      obtain ⟨rr, hrr⟩ : ∃ rr, rr = (u2 * 4294967296 + d0) % Y := ⟨_, rfl⟩
      have hem3 := Int.emod_add_mul_ediv (u2 * 4294967296 + d0) Y
      rw [← hq0, ← hrr] at hem3
      have hrr0 : 0 ≤ rr := by rw [hrr]; exact Int.emod_nonneg _ (by omega)
      have hrrY : rr < Y := by rw [hrr]; exact Int.emod_lt_of_pos _ hYp
      rw [← hq0] at k18
      have hcm3 := Int.mul_comm Y q0
      have x5 : IntKind.u64.wrap (IntKind.u64.wrap (IntKind.u64.wrap (u2 * 4294967296) + d0) - IntKind.u64.wrap (q0 * Y)) = rr := by
        simp only [u64_wrap, Bs]
        omega
      have htd := two_digits (B := 4294967296) (Y := Y) (N1 := u * 4294967296 + d1) (d0 := d0) hYp (by decide)
      rw [← hq1, ← hu2, ← hq0, ← hrr] at htd
      have hNN : (u * 4294967296 + d1) * 4294967296 + d0 = (hi * Bs + lo) * 2 ^ s := by
        rw [← hN]; simp only [Bs]; omega
      rw [hNN, hY, Int.mul_ediv_mul_of_pos_left _ _ hp, emod_mul_mul hp] at htd
      have hquo : 0 ≤ (hi * Bs + lo) / yn ∧ (hi * Bs + lo) / yn < Bs := by
        constructor
        · exact Int.ediv_nonneg (by have := hl.1; simp only [Bs]; omega) (by omega)
        · apply Int.ediv_lt_of_lt_mul (by omega)
          have : (hi + 1) * Bs ≤ yn * Bs := Int.mul_le_mul_of_nonneg_right (by omega) (by decide)
          have h2 := hl.2
          rw [Int.mul_comm Bs]
          rw [Int.add_mul] at this
          omega
      have x6 : IntKind.u64.wrap (IntKind.u64.wrap (q1 * 4294967296) + q0) = (hi * Bs + lo) / yn := by
        rw [htd.1] at hquo ⊢
        simp only [u64_wrap, Bs] at hquo ⊢
        omega
      have x7 : rr / 2 ^ s = (hi * Bs + lo) % yn := by
        rw [← htd.2, Int.mul_ediv_cancel _ (by omega)]
      repeat' first
        | (with_reducible first | refine AWp_seq_k (fun K hK => ?_) | refine AWp_ret ?_ | refine AWp_regionE ?_)
        | (simp only [thenA, inBlockA, reduceIte, Nat.reduceEqDiff])
        | ((with_reducible refine hK _ _ ?_); clear hK)
        | (simp only [ACond, RA, EAtS_def, EAtX_def, wantedA, acall, astep, ev, ofValue, ofAtom, Nat.reduceEqDiff, Nat.reduceAdd, Nat.reduceMul, Nat.reduceSub, reduceCtorEq, reduceIte, aoptEv, abin, aint, ashift, aun, astr, aeqGuard, isConstOp, aconvH, aofStr, aconvSame, isU8, abuildSlice, afill, splice, azeros, Nat.reduceLeDiff, Nat.reduceLT, Int.reduceLE, Int.reduceLT, Int.reduceEq, Int.reduceToNat, Int.reducePow, IntKind.bits, Int.reduceNeg, RB, aalloc, Go.PW.dig_length, tf113WdG, k2, k8, k14, k15, k17, k18, x5, x6, w8, m1, x7])
        | (simp (disch := first | omega | (simp only [RO]; done) | assumption) only [RS])
      all_goals
        (
         (refine AEnd_gen (rs := [.tmp 6, .tmp 7]) rfl ?_)
         (simp only [AEndR, aresults, Fr.put_some, Fr.put_none, fr0_zero, fr0_succ, fr0_nil, Nat.reduceEqDiff, reduceIte])
         (try simp (disch := (first | omega | (simp only [RO]; done) | assumption | (simp only [RM, Go.PW.dig_length]; done) | (simp only [RL, Go.PW.dig_length]; omega))) only [RD, reduceCtorEq, reduceIte, Go.PW.dig_length, Nat.reduceLeDiff, Nat.reduceAdd, Nat.reduceMul, Int.reduceToNat, tf113WdG]))
end Go.Proofs.YtfalfmfkifemeaaGreatDoor
set_option linter.unusedVariables false
set_option linter.unusedSimpArgs false
namespace Go.Proofs.YtfalfmfkifemeaaGreatDoor
open Go.AL Go.PW
theorem tf113WdH : type_of% (And.intro @tyb3 (And.intro @tyb31 (And.intro @tyb34 (And.intro @tyb35 (And.intro @tyb115 (@cv3_115)))))) := And.intro @tyb3 (And.intro @tyb31 (And.intro @tyb34 (And.intro @tyb35 (And.intro @tyb115 (@cv3_115)))))
abbrev pn113_6WdH : Plan := (.one 0 (.one 1 (.one 2 (.one 3 (.one 4 (.one 5 (.one 6 (.one 7 .nil))))))))
set_option maxRecDepth 8000
theorem div64_zero (lo y : Int) (H : Hp) (hy0 : 0 < y) (hl : 0 ≤ lo ∧ lo < Bs) (hyB : y < Bs) : ACalls Tryz.prog 113 [.int .u64 0, .int .u64 lo, .int .u64 y] H fun r H' => r = .tup [.int .u64 (lo / y), .int .u64 (lo % y)] ∧ H = H' := by
  have hn : (y = 0) = False := by simp; omega
  have e1 : lo.tdiv y = lo / y := Int.tdiv_eq_ediv_of_nonneg hl.1
  have e2 : lo.tmod y = lo % y := Int.tmod_eq_emod_of_nonneg hl.1
  have e3 : IntKind.u64.wrap (lo / y) = lo / y := by
    refine u64_in (Int.ediv_nonneg hl.1 (Int.le_of_lt hy0)) ?_
    have := Int.ediv_le_self (b := y) hl.1
    omega
  refine ACalls_body Tryz.func113 rfl (by kernel_rfl) (by kernel_rfl) ?_
  repeat' first
    | (with_reducible first | refine AWp_seq_k (fun K hK => ?_) | refine AWp_skip ?_ | refine AWp_ret ?_ | refine AWp_regionE ?_ | refine AWp_drawE (id := 6) [] pn113_6WdH (by kernel_rfl) (by kernel_rfl) ?_ | refine AWp_condI ?_)
    | (with_reducible refine AIte (fun hc => ?_) (fun hc => ?_) <;> (try simp only [RC] at hc) <;> (try (exfalso; first | omega | contradiction)))
    | (simp only [thenA, inBlockA, reduceIte, Nat.reduceEqDiff])
    | ((with_reducible refine hK _ _ ?_); clear hK)
    | (simp only [ACond, RA, EAtS_def, EAtX_def, wantedA, acall, astep, ev, ofValue, ofAtom, Nat.reduceEqDiff, Nat.reduceAdd, Nat.reduceMul, Nat.reduceSub, reduceCtorEq, reduceIte, aoptEv, abin, aint, ashift, aun, astr, aeqGuard, isConstOp, aconvH, aofStr, aconvSame, isU8, abuildSlice, afill, splice, azeros, Nat.reduceLeDiff, Nat.reduceLT, Int.reduceLE, Int.reduceLT, Int.reduceEq, Int.reduceToNat, Int.reducePow, IntKind.bits, Int.reduceNeg, RB, aalloc, Go.PW.dig_length, tf113WdH, hn, e1, e2, e3])
  all_goals
    (
     (refine AEnd_gen (rs := [.tmp 6, .tmp 7]) rfl ?_)
     (simp only [AEndR, aresults, Fr.put_some, Fr.put_none, fr0_zero, fr0_succ, fr0_nil, Nat.reduceEqDiff, reduceIte])
     (try simp (disch := (first | omega | (simp only [RO]; done) | assumption | (simp only [RM, Go.PW.dig_length]; done) | (simp only [RL, Go.PW.dig_length]; omega))) only [RD, reduceCtorEq, reduceIte, Go.PW.dig_length, Nat.reduceLeDiff, Nat.reduceAdd, Nat.reduceMul, Int.reduceToNat, tf113WdH]))
theorem div64_calls (hi lo y : Int) (H : Hp) (hh0 : 0 ≤ hi) (hh : hi < y) (hl : 0 ≤ lo ∧ lo < Bs) (hyB : y < Bs) : ACalls Tryz.prog 113 [.int .u64 hi, .int .u64 lo, .int .u64 y] H fun r H' => r = .tup [.int .u64 ((hi * Bs + lo) / y), .int .u64 ((hi * Bs + lo) % y)] ∧ H = H' := by
  by_cases h0 : hi = 0
  · subst h0
    have := div64_zero lo y H (by omega) hl hyB
    rwa [Int.zero_mul, Int.zero_add]
  · exact div64_norm hi lo y _ H (by omega) (by omega) hh hl rfl hyB
end Go.Proofs.YtfalfmfkifemeaaGreatDoor

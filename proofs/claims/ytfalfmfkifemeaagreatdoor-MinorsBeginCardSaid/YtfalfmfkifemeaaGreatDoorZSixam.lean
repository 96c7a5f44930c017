/- Part 13 of the proof of laws of this seat: lemmas on the model's code, on this program's functions, on numbers. No condition. -/
import Derived.Test.YtfalfmfkifemeaaGreatDoorZSixal
set_option linter.unusedVariables false
set_option linter.unusedSimpArgs false
namespace Go.Proofs.YtfalfmfkifemeaaGreatDoor
open Go.AL Go.PW
theorem tf95WdI : type_of% (And.intro @tyb3 (And.intro @tyb4 (And.intro @tyb31 (And.intro @tyb32 (And.intro @tyb33 (And.intro @tyb44 (@tyb160))))))) := And.intro @tyb3 (And.intro @tyb4 (And.intro @tyb31 (And.intro @tyb32 (And.intro @tyb33 (And.intro @tyb44 (@tyb160))))))
abbrev pn95_1WdI : Plan := (.one 0 (.pur 1 (.one 2 (.pur 3 (.alt 4 (.one 5 (.one 6 (.one 7 .nil))) (.one 5 (.one 4 (.one 6 (.one 7 .nil)))))))))
abbrev pn95_2WdI : Plan := (.one 0 (.one 2 (.one 1 (.one 3 (.one 4 (.one 5 .nil))))))
abbrev pn95_24WdI : Plan := (.one 0 (.one 1 (.one 3 (.pur 4 (.one 5 (.pur 6 (.one 2 (.one 7 (.pur 8 (.one 9 (.one 10 (.one 11 (.one 12 (.one 13 (.one 14 .nil)))))))))))))))
set_option maxRecDepth 8000
abbrev Bk (xs : List Int) (e : Nat) : Blk := ⟨xs.map (AV.int .u64), .own, e⟩
theorem ext7 {H : Hp} (a b c d e : Blk) : Ext H (H ++ [a] ++ [b] ++ [c] ++ [d] ++ [e]) := (ext6 _ _ _ _).pushed _
theorem natAbs_M {x : Int} (hx : In x) : ((x.natAbs : Nat) : Int) % M = x.natAbs := by
  obtain ⟨h1, h2⟩ := hx
  have := M_two
  exact Int.emod_eq_of_lt (by omega) (by omega)
/-- What the limbs that count are worth. -/
theorem val_cnt {xs : List Int} {n : Nat} (hn : cnt xs ≤ n) : val (xs.take n) = val xs := by
  have hz : ∀ (ys : List Int), (∀ j, ys.getD j 0 = 0) → val ys = 0 := by
    intro ys
    induction ys with
    | nil => intro _; rfl
    | cons y ys ih =>
      intro h
      have h0 := h 0
      have h1 : ∀ j, ys.getD j 0 = 0 := fun j => by have := h (j + 1); rwa [List.getD_cons_succ] at this
      rw [List.getD_cons_zero] at h0
      simp [val, h0, ih h1]
  have h := val_take_drop xs n
  rw [hz (xs.drop n)] at h
  · omega
  · intro j
    have := cnt_above xs (n + j) (by omega)
    rw [List.getD_eq_getElem?_getD] at this ⊢
    rw [List.getElem?_drop]
    exact this
theorem cnt_low {xs : List Int} (h : Limbs xs) (h0 : 0 < cnt xs) : Bs ^ (cnt xs - 1) ≤ val xs := by
  have hc := cnt_le xs
  have h1 := cnt_top xs h0
  have h2 := val_take_succ xs (i := cnt xs - 1) (by omega)
  rw [show cnt xs - 1 + 1 = cnt xs by omega, val_cnt (Nat.le_refl _)] at h2
  have h3 := val_bound (h.take (cnt xs - 1))
  have h4 := h.get (cnt xs - 1)
  have hp := Bs_pow_pos (cnt xs - 1)
  have h5 : Bs ^ (cnt xs - 1) * 1 ≤ Bs ^ (cnt xs - 1) * xs.getD (cnt xs - 1) 0 := Int.mul_le_mul_of_nonneg_left (by omega) (by omega)
  omega
theorem cnt_zero {xs : List Int} (h : cnt xs = 0) : val xs = 0 := by
  have := val_cnt (xs := xs) (n := 0) (by omega)
  rw [← this]; rfl
theorem getD_dig0 (n j : Nat) : (dig n 0).getD j 0 = 0 := by
  rcases Nat.lt_or_ge j n with h | h
  · rw [getD_dig n 0 j h]; simp
  · simp [List.getD, List.getElem?_eq_none (show (dig n 0).length ≤ j by rw [dig_length]; exact h)]
theorem l16 (x : Int) : (dig 16 x).length < 1000000 := by rw [dig_length]; omega
theorem signed_mul (a b X Y : Int) (H : Hp) (ha : In a) (hb : In b) (hab : In (a * b)) (hX : X = a.natAbs) (hY : Y = b.natAbs) : ACalls Tryz.prog 108 [W (X * Y), .bool (!(decide (a < 0) == decide (b < 0)))] H fun r H' => r = .tup [W (a * b), .bool true] ∧ H = H' := by
  have hXY : X * Y = ((a * b).natAbs : Nat) := by rw [hX, hY, Int.natAbs_mul]; simp
  obtain ⟨h1, h2⟩ := hab
  by_cases sa : a < 0 <;> by_cases sb : b < 0
  · have e : a * b = X * Y := by rw [hX, hY, show ((a.natAbs : Nat) : Int) = -a by omega, show ((b.natAbs : Nat) : Int) = -b by omega, Int.neg_mul_neg]
    have := signed_plus (X * Y) H (by omega) (by omega)
    rw [← e] at this ⊢
    simpa only [sa, sb, decide_true, beq_self_eq_true, Bool.not_true] using this
  · have e : a * b = -(X * Y) := by rw [hX, hY, show ((a.natAbs : Nat) : Int) = -a by omega, show ((b.natAbs : Nat) : Int) = b by omega, Int.neg_mul, Int.neg_neg]
    have := signed_minus (X * Y) H (by omega) (by omega)
    rw [← e] at this
    simpa [sa, sb] using this
  · have e : a * b = -(X * Y) := by rw [hX, hY, show ((a.natAbs : Nat) : Int) = a by omega, show ((b.natAbs : Nat) : Int) = -b by omega, Int.mul_neg, Int.neg_neg]
    have := signed_minus (X * Y) H (by omega) (by omega)
    rw [← e] at this
    simpa [sa, sb] using this
  · have e : a * b = X * Y := by rw [hX, hY, show ((a.natAbs : Nat) : Int) = a by omega, show ((b.natAbs : Nat) : Int) = b by omega]
    have := signed_plus (X * Y) H (by omega) (by omega)
    rw [← e] at this ⊢
    simpa only [sa, sb, decide_false, beq_self_eq_true, Bool.not_true] using this
set_option maxHeartbeats 2000000 in
theorem mul_calls (a b : Int) (H : Hp) (ha : In a) (hb : In b) (hab : In (a * b)) : ACalls Tryz.prog 95 [W a, W b] H fun r H' => r = .tup [W (a * b), .bool true] ∧ H = H' := by
  refine ACalls.drop (R := fun r => r = .tup [W (a * b), .bool true]) ?_
  obtain ⟨X, hX⟩ : ∃ X : Int, X = a.natAbs := ⟨_, rfl⟩
  obtain ⟨Y, hY⟩ : ∃ Y : Int, Y = b.natAbs := ⟨_, rfl⟩
  refine ACalls_body Tryz.func95 rfl (by kernel_rfl) (by kernel_rfl) ?_
  repeat' first
    | (with_reducible first | refine AWp_seq_k (fun K hK => ?_) | refine AWp_regionE ?_)
    | (simp only [thenA, inBlockA, reduceIte, Nat.reduceEqDiff])
    | ((with_reducible refine hK _ _ ?_); clear hK)
    | (simp only [ACond, RA, EAtS_def, EAtX_def, wantedA, acall, astep, ev, ofValue, ofAtom, Nat.reduceEqDiff, Nat.reduceAdd, Nat.reduceMul, Nat.reduceSub, reduceCtorEq, reduceIte, aoptEv, abin, aint, ashift, aun, astr, aeqGuard, isConstOp, aconvH, aofStr, aconvSame, isU8, abuildSlice, afill, splice, azeros, Nat.reduceLeDiff, Nat.reduceLT, Int.reduceLE, Int.reduceLT, Int.reduceEq, Int.reduceToNat, Int.reducePow, IntKind.bits, Int.reduceNeg, RB, aalloc, Go.PW.dig_length, tf95WdI])
  refine AWp_cut (fun fr' H1 => ∃ h2 h3 h4 h6 h7, P1 H H1 (fr' 2) h2 (Wb a) ∧ P1 H H1 (fr' 3) h3 (Wb b) ∧ P1 H H1 (fr' 4) h4 (Wb 0) ∧ P1 H H1 (fr' 6) h6 (Wb X) ∧ P1 H H1 (fr' 7) h7 (Wb Y) ∧ Ext H H1) ?_ (fun fr' H' h => hK _ _ ?_)
  · clear hK
    repeat' first
      | (with_reducible first | refine AWp_drawE (id := 1) [] pn95_1WdI (by kernel_rfl) (by kernel_rfl) ?_ | refine Run_pur ?_)
      | (with_reducible refine EPure_intro (fun _ x => (amount_calls _ _ ha)) ?_)
      | (with_reducible refine EPure_intro (fun _ x => (amount_calls _ _ hb)) ?_)
      | (with_reducible refine And.intro ?_ ?_)
      | (simp only [thenA, inBlockA, reduceIte, Nat.reduceEqDiff])
      | (simp only [ACond, RA, EAtS_def, EAtX_def, wantedA, acall, astep, ev, ofValue, ofAtom, Nat.reduceEqDiff, Nat.reduceAdd, Nat.reduceMul, Nat.reduceSub, reduceCtorEq, reduceIte, aoptEv, abin, aint, ashift, aun, astr, aeqGuard, isConstOp, aconvH, aofStr, aconvSame, isU8, abuildSlice, afill, splice, azeros, Nat.reduceLeDiff, Nat.reduceLT, Int.reduceLE, Int.reduceLT, Int.reduceEq, Int.reduceToNat, Int.reducePow, IntKind.bits, Int.reduceNeg, RB, aalloc, Go.PW.dig_length, tf95WdI, ← hX, ← hY])
      | (simp (disch := (first | omega | (simp only [RO]; done) | assumption | (simp only [RM, Go.PW.dig_length]; done) | (simp only [RL, Go.PW.dig_length]; omega))) only [RD, reduceCtorEq, reduceIte, Go.PW.dig_length, Nat.reduceLeDiff, Nat.reduceAdd, Nat.reduceMul, Int.reduceToNat, tf95WdI, ← hX, ← hY])
    all_goals
      refine ⟨H.length, H.length + 1, H.length + 1 + 1, _, _, ⟨rfl, ?_, ?_⟩, ⟨rfl, ?_, ?_⟩, ⟨rfl, ?_, ?_⟩, ⟨rfl, ?_, ?_⟩, ⟨rfl, ?_, ?_⟩, ext7 _ _ _ _ _⟩
    all_goals first
      | omega
      | (simp only [RL]; done) | (simp only [RL]; omega)
      | (simp (disch := first | omega | (simp only [RL]; done) | (simp only [RL]; omega)) only [hget_at, hget_old]; done)
      | fail
  clear hK
  obtain ⟨h2, h3, h4, h6, h7, p2, p3, p4, p6, p7, x1⟩ := h
  have i6 : Ints H' .u64 (.sl h6 0 16 16) (dig 16 X) := by
    have := Ints.blk (n := 16) (c := 16) (o := 0) p6.get (by decide) (by rw [dig_length]; omega) (by omega)
    rwa [List.drop_zero, List.take_of_length_le (by rw [dig_length]; omega)] at this
  have i7 : Ints H' .u64 (.sl h7 0 16 16) (dig 16 Y) := by
    have := Ints.blk (n := 16) (c := 16) (o := 0) p7.get (by decide) (by rw [dig_length]; omega) (by omega)
    rwa [List.drop_zero, List.take_of_length_le (by rw [dig_length]; omega)] at this
  obtain ⟨n, hn⟩ : ∃ n, n = cnt (dig 16 X) := ⟨_, rfl⟩
  obtain ⟨m, hm⟩ : ∃ m, m = cnt (dig 16 Y) := ⟨_, rfl⟩
  repeat' first
    | (with_reducible first | refine AWp_seq_k (fun K hK => ?_))
  refine AWp_cut (fun fr' H1 => H1 = H' ∧ fr' 2 = .ptr h2 0 ∧ fr' 3 = .ptr h3 0 ∧ fr' 4 = .ptr h4 0 ∧ fr' 6 = .ptr h6 0 ∧ fr' 7 = .ptr h7 0 ∧ fr' 8 = .int .i64 (n : Int) ∧ fr' 9 = .int .i64 (m : Int)) ?_ (fun fr' H' h => hK _ _ ?_)
  · clear hK
    repeat' first
      | (with_reducible first | refine AWp_drawE (id := 2) [] pn95_2WdI (by kernel_rfl) (by kernel_rfl) ?_)
      | ((with_reducible refine ECall_intro ((fun x => (count_calls _ _ _ (i6.ext x) (l16 _))) (Ext.refl _)) ?_); rintro _ _ ⟨rfl, rfl⟩)
      | ((with_reducible refine ECall_intro ((fun x => (count_calls _ _ _ (i7.ext x) (l16 _))) (Ext.refl _)) ?_); rintro _ _ ⟨rfl, rfl⟩)
      | (with_reducible refine And.intro ?_ ?_)
      | (simp only [thenA, inBlockA, reduceIte, Nat.reduceEqDiff])
      | (simp only [ACond, RA, EAtS_def, EAtX_def, wantedA, acall, astep, ev, ofValue, ofAtom, Nat.reduceEqDiff, Nat.reduceAdd, Nat.reduceMul, Nat.reduceSub, reduceCtorEq, reduceIte, aoptEv, abin, aint, ashift, aun, astr, aeqGuard, isConstOp, aconvH, aofStr, aconvSame, isU8, abuildSlice, afill, splice, azeros, Nat.reduceLeDiff, Nat.reduceLT, Int.reduceLE, Int.reduceLT, Int.reduceEq, Int.reduceToNat, Int.reducePow, IntKind.bits, Int.reduceNeg, RB, aalloc, Go.PW.dig_length, tf95WdI, p2.eq, p3.eq, p4.eq, p6.eq, p7.eq, ← hn, ← hm])
  clear hK
  obtain ⟨rfl, k2, k3, k4, k6, k7, k8, k9⟩ := h
  have hn16 : n ≤ 16 := by rw [hn]; have := cnt_le (dig 16 X); rwa [dig_length] at this
  have hm16 : m ≤ 16 := by rw [hm]; have := cnt_le (dig 16 Y); rwa [dig_length] at this
  have hXv : val (dig 16 X) = X := by rw [val_M, hX]; exact natAbs_M ha
  have hYv : val (dig 16 Y) = Y := by rw [val_M, hY]; exact natAbs_M hb
  have hXY : X * Y = ((a * b).natAbs : Nat) := by rw [hX, hY, Int.natAbs_mul]; simp
  have hXYM : X * Y < M := by have := M_two; have := hab.1; have := hab.2; omega
  have hz : n = 0 ∨ m = 0 → a * b = 0 := by
    intro h
    have : X * Y = 0 := by
      rcases h with h | h
      · rw [← hXv, cnt_zero (hn ▸ h), Int.zero_mul]
      · rw [← hYv, cnt_zero (hm ▸ h), Int.mul_zero]
    omega
  have hnm : 0 < n → 0 < m → n + m ≤ 17 := by
    intro h1 h2
    have a1 := cnt_low (dig_limbs 16 X) (hn ▸ h1)
    have a2 := cnt_low (dig_limbs 16 Y) (hm ▸ h2)
    rw [← hn, hXv] at a1
    rw [← hm, hYv] at a2
    rcases Nat.lt_or_ge 17 (n + m) with h | h
    · have b1 := Int.mul_le_mul a1 a2 (Int.le_of_lt (Bs_pow_pos _)) (by omega)
      rw [← Int.pow_add] at b1
      have b2 : Bs ^ 16 ≤ Bs ^ (n - 1 + (m - 1)) := by
        rw [show n - 1 + (m - 1) = 16 + (n + m - 18) by omega, Int.pow_add]
        have := Bs_pow_pos (n + m - 18)
        have := Int.mul_le_mul_of_nonneg_left (show 1 ≤ Bs ^ (n + m - 18) by omega) (Int.le_of_lt (Bs_pow_pos 16))
        omega
      rw [M_pow] at hXYM
      omega
    · omega
  have q2 := p2.hi
  have q3 := p3.hi
  have q4 := p4.hi
  have q6 := p6.hi
  have q7 := p7.hi
  have e1 : IntKind.i64.wrap ((n : Int) + m) = n + m := wrap_i64_id (by omega) (by omega)
  have e2 : IntKind.i64.wrap ((n : Int) + m - 1) = n + m - 1 := wrap_i64_id (by omega) (by omega)
  repeat' first
    | (with_reducible first | refine AWp_seq_k (fun K hK => ?_) | refine AWp_block ?_ | refine AWp_skip ?_ | refine AWp_ret ?_ | refine AWp_regionE ?_ | refine AWp_condI ?_)
    | (with_reducible refine EGuard_split (fun hc => ?_) (fun hc => ?_) <;> (try simp only [RC] at hc) <;> (try (exfalso; first | omega | contradiction)))
    | (with_reducible refine AIte (fun hc => ?_) (fun hc => ?_) <;> (try simp only [RC] at hc) <;> (try (exfalso; first | omega | contradiction)))
    | (simp only [thenA, inBlockA, reduceIte, Nat.reduceEqDiff])
    | ((with_reducible refine hK _ _ ?_); clear hK)
    | (simp only [ACond, RA, EAtS_def, EAtX_def, wantedA, acall, astep, ev, ofValue, ofAtom, Nat.reduceEqDiff, Nat.reduceAdd, Nat.reduceMul, Nat.reduceSub, reduceCtorEq, reduceIte, aoptEv, abin, aint, ashift, aun, astr, aeqGuard, isConstOp, aconvH, aofStr, aconvSame, isU8, abuildSlice, afill, splice, azeros, Nat.reduceLeDiff, Nat.reduceLT, Int.reduceLE, Int.reduceLT, Int.reduceEq, Int.reduceToNat, Int.reducePow, IntKind.bits, Int.reduceNeg, RB, aalloc, Go.PW.dig_length, tf95WdI, k2, k3, k4, k6, k7, k8, k9, p4.get, e1, e2])
    | (simp (disch := first | omega | (simp only [RO]; done) | assumption) only [RS, six44, gix44, idx32, slh32, idx33, slh33, idx160, slh160])
    | (simp (disch := (first | omega | (simp only [RO]; done) | assumption | (simp only [RM, Go.PW.dig_length]; done) | (simp only [RL, Go.PW.dig_length]; omega))) only [RD, reduceCtorEq, reduceIte, Go.PW.dig_length, Nat.reduceLeDiff, Nat.reduceAdd, Nat.reduceMul, Int.reduceToNat, tf95WdI, k2, k3, k4, k6, k7, k8, k9, p4.get, e1, e2])
  · skip
    (
     (refine AEnd_gen (rs := [.cell 4 33, .tmp 5]) rfl ?_)
     (simp only [AEndR, aresults, Fr.put_some, Fr.put_none, fr0_zero, fr0_succ, fr0_nil, Nat.reduceEqDiff, reduceIte, k4, hget_set q4])
     (try simp (disch := (first | omega | (simp only [RO]; done) | assumption | (simp only [RM, Go.PW.dig_length]; done) | (simp only [RL, Go.PW.dig_length]; omega))) only [RD, reduceCtorEq, reduceIte, Go.PW.dig_length, Nat.reduceLeDiff, Nat.reduceAdd, Nat.reduceMul, Int.reduceToNat, tf95WdI, k4, hget_set q4]))
    rw [hz (.inr (by omega))]
    exact ⟨x1.set p4.lo _, W_tupb_lt _ _ _, rfl⟩
  · refine AWp_loop (fun c fr' H1 => ∃ (i : Nat) (ys : List Int), c = n - i ∧ i ≤ n ∧ fr' 2 = .ptr h2 0 ∧ fr' 3 = .ptr h3 0 ∧ fr' 4 = .ptr h4 0 ∧ fr' 6 = .ptr h6 0 ∧ fr' 7 = .ptr h7 0 ∧ fr' 8 = .int .i64 (n : Int) ∧ fr' 9 = .int .i64 (m : Int) ∧
        fr' 10 = .ptr H'.length 0 ∧ fr' 43 = .sl h6 0 n 16 ∧ fr' 44 = .int .i64 (n : Int) ∧ fr' 45 = .int .i64 (i : Int) ∧ ys.length = 17 ∧ Limbs ys ∧ (∀ j, i + m ≤ j → ys.getD j 0 = 0) ∧ val ys = val ((dig 16 X).take i) * Y ∧ H' ++ [Bk ys 160] = H1) (m := n)
      ⟨0, dig 17 0, by omega, by omega, k2, k3, k4, k6, k7, k8, k9, rfl, rfl, rfl, rfl, dig_length _ _, dig_limbs _ _, fun j _ => getD_dig0 17 j, by rw [val_dig]; simp [val], rfl⟩ ?_
    clear k2 k3 k4 k6 k7 k8 k9
    rintro c fr' H1 ⟨i, ys, rfl, hi, k2, k3, k4, k6, k7, k8, k9, k10, k43, k44, k45, hl, hys, hy0, hy, rfl⟩
    by_cases hlt : i < n
    · skip
      repeat' first
        | (with_reducible first | refine AWp_seq_k (fun K hK => ?_) | refine AWp_block ?_ | refine AWp_skip ?_ | refine AWp_regionE ?_ | refine AWp_condI ?_)
        | (with_reducible refine AIte (fun hc => ?_) (fun hc => ?_) <;> (try simp only [RC] at hc) <;> (try (exfalso; first | omega | contradiction)))
        | (simp only [thenA, inBlockA, reduceIte, Nat.reduceEqDiff])
        | ((with_reducible refine hK _ _ ?_); clear hK)
        | (simp only [ACond, RA, EAtS_def, EAtX_def, wantedA, acall, astep, ev, ofValue, ofAtom, Nat.reduceEqDiff, Nat.reduceAdd, Nat.reduceMul, Nat.reduceSub, reduceCtorEq, reduceIte, aoptEv, abin, aint, ashift, aun, astr, aeqGuard, isConstOp, aconvH, aofStr, aconvSame, isU8, abuildSlice, afill, splice, azeros, Nat.reduceLeDiff, Nat.reduceLT, Int.reduceLE, Int.reduceLT, Int.reduceEq, Int.reduceToNat, Int.reducePow, IntKind.bits, Int.reduceNeg, RB, aalloc, Go.PW.dig_length, tf95WdI, k2, k3, k4, k6, k7, k8, k9, k10, k43, k44, k45, p6.get])
        | (simp (disch := first | omega | (simp only [RO]; done) | assumption) only [RS, six44, gix44, idx32, slh32, idx33, slh33, idx160, slh160])
        | (simp (disch := (first | omega | (simp only [RO]; done) | assumption | (simp only [RM, Go.PW.dig_length]; done) | (simp only [RL, Go.PW.dig_length]; omega))) only [RD, reduceCtorEq, reduceIte, Go.PW.dig_length, Nat.reduceLeDiff, Nat.reduceAdd, Nat.reduceMul, Int.reduceToNat, tf95WdI, k2, k3, k4, k6, k7, k8, k9, k10, k43, k44, k45, p6.get])
      have hcX := (dig_limbs 16 X).get i
      refine AWp_loop (fun c fr' H1 => ∃ (k : Nat) (zs : List Int) (r : Int), c = m - k ∧ k ≤ m ∧ fr' 2 = .ptr h2 0 ∧ fr' 3 = .ptr h3 0 ∧ fr' 4 = .ptr h4 0 ∧ fr' 6 = .ptr h6 0 ∧ fr' 7 = .ptr h7 0 ∧ fr' 8 = .int .i64 (n : Int) ∧ fr' 9 = .int .i64 (m : Int) ∧
          fr' 10 = .ptr H'.length 0 ∧ fr' 11 = .int .i64 (i : Int) ∧ fr' 12 = .int .u64 ((dig 16 X).getD i 0) ∧ fr' 13 = .int .u64 r ∧ fr' 43 = .sl h6 0 n 16 ∧ fr' 44 = .int .i64 (n : Int) ∧ fr' 45 = .int .i64 (i : Int) ∧ fr' 51 = .sl h7 0 m 16 ∧ fr' 52 = .int .i64 (m : Int) ∧ fr' 53 = .int .i64 (k : Int) ∧
          zs.length = 17 ∧ Limbs zs ∧ 0 ≤ r ∧ r < Bs ∧ (∀ j, i + m ≤ j → zs.getD j 0 = 0) ∧ val zs + Bs ^ (i + k) * r = val ys + (dig 16 X).getD i 0 * val ((dig 16 Y).take k) * Bs ^ i ∧ H' ++ [Bk zs 160] = H1) (m := m)
        ⟨0, ys, 0, by omega, by omega, k2, k3, k4, k6, k7, k8, k9, k10, rfl, rfl, rfl, k43, k44, k45, rfl, rfl, rfl, hl, hys, by decide, by decide, hy0, by simp [val], rfl⟩ ?_
      clear k2 k3 k4 k6 k7 k8 k9 k10 k43 k44 k45
      rintro c fr' H1 ⟨k, zs, r, rfl, hk, k2, k3, k4, k6, k7, k8, k9, k10, k11, k12, k13, k43, k44, k45, k51, k52, k53, hzl, hzs, r0, r1, hz0, hzv, rfl⟩
      have e3 : IntKind.i64.wrap ((i : Int) + k) = ((i + k : Nat) : Int) := by rw [wrap_i64_id (by omega) (by omega)]; omega
      by_cases hkm : k < m
      · have hcY := (dig_limbs 16 Y).get k
        have hct := hzs.get (i + k)
        have hst := mul_step hcX hcY hct ⟨r0, r1⟩
        generalize hcd : (dig 16 X).getD i 0 = c at *
        generalize hdd : (dig 16 Y).getD k 0 = d at *
        repeat' first
          | (with_reducible first | refine AWp_seq_k (fun K hK => ?_) | refine AWp_block ?_ | refine AWp_skip ?_ | refine AWp_regionE ?_ | refine AWp_condI ?_)
          | ((with_reducible refine ECall_intro (mul64_calls _ _ _ hcX hcY) ?_); rintro _ _ ⟨rfl, rfl⟩)
          | ((with_reducible refine ECall_introX (add64 _ _ _ _ (Int.emod_nonneg _ (by decide)) hct.1 (by decide)) ?_); rintro _ _ ⟨rfl, rfl⟩)
          | ((with_reducible refine ECall_introX (add64 _ _ _ _ (Int.emod_nonneg _ (by decide)) r0 (by decide)) ?_); rintro _ _ ⟨rfl, rfl⟩)
          | (with_reducible refine AIte (fun hc => ?_) (fun hc => ?_) <;> (try simp only [RC] at hc) <;> (try (exfalso; first | omega | contradiction)))
          | (simp only [thenA, inBlockA, reduceIte, Nat.reduceEqDiff])
          | ((with_reducible refine hK _ _ ?_); clear hK)
          | (simp only [ACond, RA, EAtS_def, EAtX_def, wantedA, acall, astep, ev, ofValue, ofAtom, Nat.reduceEqDiff, Nat.reduceAdd, Nat.reduceMul, Nat.reduceSub, reduceCtorEq, reduceIte, aoptEv, abin, aint, ashift, aun, astr, aeqGuard, isConstOp, aconvH, aofStr, aconvSame, isU8, abuildSlice, afill, splice, azeros, Nat.reduceLeDiff, Nat.reduceLT, Int.reduceLE, Int.reduceLT, Int.reduceEq, Int.reduceToNat, Int.reducePow, IntKind.bits, Int.reduceNeg, RB, aalloc, Go.PW.dig_length, tf95WdI, k2, k3, k4, k6, k7, k8, k9, k10, k11, k12, k13, k43, k44, k45, k51, k52, k53, p7.get, e3, hzl, hdd])
          | (simp (disch := first | omega | (simp only [RO]; done) | assumption) only [RS, six44, gix44, idx32, slh32, idx33, slh33, idx160, slh160])
          | (simp (disch := (first | omega | (simp only [RO]; done) | assumption | (simp only [RM, Go.PW.dig_length]; done) | (simp only [RL, Go.PW.dig_length]; omega))) only [RD, reduceCtorEq, reduceIte, Go.PW.dig_length, Nat.reduceLeDiff, Nat.reduceAdd, Nat.reduceMul, Int.reduceToNat, tf95WdI, k2, k3, k4, k6, k7, k8, k9, k10, k11, k12, k13, k43, k44, k45, k51, k52, k53, p7.get, e3, hzl, hdd])
        obtain ⟨s1, s2, s3, s4, s5⟩ := hst
        refine ⟨m - (k + 1), by omega, k + 1, _, _, rfl, by omega, by rw [u64_wrap, u64_wrap, s1, s2], by rw [wrap_i64_id (by omega) (by omega)]; rfl, by rw [List.length_set]; exact hzl, hzs.set (i + k) ⟨Int.emod_nonneg _ (by decide), Int.emod_lt_of_pos _ (by decide)⟩, s4, s5, ?_, ?_, rfl⟩
        · intro j hj
          rw [getD_set _ _ (by omega), if_neg (by omega)]
          exact hz0 j hj
        · rw [val_set _ (by omega), val_take_succ _ (by rw [dig_length]; omega), hdd]
          have hp : Bs ^ (i + (k + 1)) = Bs ^ (i + k) * Bs := by rw [← Nat.add_assoc, Int.pow_succ]
          have hq : Bs ^ (i + k) = Bs ^ i * Bs ^ k := Int.pow_add ..
          rw [hp]
          generalize hS : c * d / Bs + (c * d % Bs + zs.getD (i + k) 0 + 0) / Bs + ((c * d % Bs + zs.getD (i + k) 0 + 0) % Bs + r + 0) / Bs = S at *
          generalize hL : ((c * d % Bs + zs.getD (i + k) 0 + 0) % Bs + r + 0) % Bs = L at *
          generalize zs.getD (i + k) 0 = t at *
          have : L = c * d + t + r - Bs * S := by omega
          rw [this]
          rw [hq] at hzv ⊢
          generalize Bs ^ i = p at *
          generalize Bs ^ k = q at *
          grind
      · obtain rfl : k = m := by omega
        have e4 : IntKind.i64.wrap ((i : Int) + k) = ((i + k : Nat) : Int) := e3
        repeat' first
          | (with_reducible first | refine AWp_seq_k (fun K hK => ?_) | refine AWp_exit ?_ | refine AWp_regionE ?_ | refine AWp_condI ?_)
          | (with_reducible refine AIte (fun hc => ?_) (fun hc => ?_) <;> (try simp only [RC] at hc) <;> (try (exfalso; first | omega | contradiction)))
          | (simp only [thenA, inBlockA, reduceIte, Nat.reduceEqDiff])
          | ((with_reducible refine hK _ _ ?_); clear hK)
          | (clear hK; (with_reducible refine hK _ _ ?_); clear hK)
          | (simp only [ACond, RA, EAtS_def, EAtX_def, wantedA, acall, astep, ev, ofValue, ofAtom, Nat.reduceEqDiff, Nat.reduceAdd, Nat.reduceMul, Nat.reduceSub, reduceCtorEq, reduceIte, aoptEv, abin, aint, ashift, aun, astr, aeqGuard, isConstOp, aconvH, aofStr, aconvSame, isU8, abuildSlice, afill, splice, azeros, Nat.reduceLeDiff, Nat.reduceLT, Int.reduceLE, Int.reduceLT, Int.reduceEq, Int.reduceToNat, Int.reducePow, IntKind.bits, Int.reduceNeg, RB, aalloc, Go.PW.dig_length, tf95WdI, k2, k3, k4, k6, k7, k8, k9, k10, k11, k12, k13, k43, k44, k45, k51, k52, k53, e4, hzl])
          | (simp (disch := first | omega | (simp only [RO]; done) | assumption) only [RS, six44, gix44, idx32, slh32, idx33, slh33, idx160, slh160])
          | (simp (disch := (first | omega | (simp only [RO]; done) | assumption | (simp only [RM, Go.PW.dig_length]; done) | (simp only [RL, Go.PW.dig_length]; omega))) only [RD, reduceCtorEq, reduceIte, Go.PW.dig_length, Nat.reduceLeDiff, Nat.reduceAdd, Nat.reduceMul, Int.reduceToNat, tf95WdI, k2, k3, k4, k6, k7, k8, k9, k10, k11, k12, k13, k43, k44, k45, k51, k52, k53, e4, hzl])
        refine ⟨n - (i + 1), by omega, i + 1, _, rfl, by omega, by rw [wrap_i64_id (by omega) (by omega)]; rfl, by rw [List.length_set]; exact hzl, hzs.set (i + k) ⟨r0, r1⟩, ?_, ?_, rfl⟩
        · intro j hj
          rw [getD_set _ _ (by omega), if_neg (by omega)]
          exact hz0 j (by omega)
        · rw [val_set _ (by omega), hz0 _ (Nat.le_refl _), val_take_succ _ (by rw [dig_length]; omega)]
          have e2 : val ((dig 16 Y).take k) = Y := by rw [hm, val_cnt (Nat.le_refl _), hYv]
          rw [e2] at hzv
          rw [hy] at hzv
          have hq : Bs ^ (i + k) = Bs ^ i * Bs ^ k := Int.pow_add ..
          rw [hq] at hzv ⊢
          generalize Bs ^ i = p at *
          generalize Bs ^ k = q at *
          grind
    · obtain rfl : i = n := by omega
      have hyv : val ys = X * Y := by rw [hy, hn, val_cnt (Nat.le_refl _), hXv]
      have hyb := val_bound (hys.take 16)
      have hy16 := val_take_succ ys (i := 16) (by omega)
      rw [List.take_of_length_le (by omega), hyv] at hy16
      have hg16 := hys.get 16
      rw [List.length_take, hl, Nat.min_eq_left (by decide)] at hyb
      rw [← M_pow] at hy16 hyb
      have h16 : ys.getD 16 0 = 0 := by
        rcases Int.lt_or_le 0 (ys.getD 16 0) with h | h
        · have := Int.mul_le_mul_of_nonneg_left (show 1 ≤ ys.getD 16 0 by omega) (Int.le_of_lt M_pos)
          omega
        · omega
      have hT : (ys.map (AV.int .u64)).take 16 = (dig 16 (X * Y)).map (AV.int .u64) := by
        rw [← List.map_take]
        congr 1
        refine dig_of_val (hys.take 16) (by rw [List.length_take]; omega) ?_
        rw [h16, Int.mul_zero, Int.add_zero] at hy16
        rw [← hy16, ← M_pow, Int.emod_eq_of_lt (by omega) hXYM]
      have hna := neg_iff ha
      have hnb := neg_iff hb
      repeat' first
        | (with_reducible first | refine AWp_seq_k (fun K hK => ?_) | refine AWp_skip ?_ | refine AWp_exit ?_ | refine AWp_ret ?_ | refine AWp_regionE ?_ | refine AWp_drawE (id := 24) [] pn95_24WdI (by kernel_rfl) (by kernel_rfl) ?_ | refine AWp_condI ?_ | refine Run_pur ?_)
        | (with_reducible refine EPure_intro (fun _ x => (below_calls _ _)) ?_)
        | (with_reducible refine EPure_intro (fun _ x => (signed_mul _ _ _ _ _ ha hb hab hX hY)) ?_)
        | (with_reducible refine AIte (fun hc => ?_) (fun hc => ?_) <;> (try simp only [RC] at hc) <;> (try (exfalso; first | omega | contradiction)))
        | (simp only [thenA, inBlockA, reduceIte, Nat.reduceEqDiff])
        | ((with_reducible refine hK _ _ ?_); clear hK)
        | (clear hK; (with_reducible refine hK _ _ ?_); clear hK)
        | (simp only [ACond, RA, EAtS_def, EAtX_def, wantedA, acall, astep, ev, ofValue, ofAtom, Nat.reduceEqDiff, Nat.reduceAdd, Nat.reduceMul, Nat.reduceSub, reduceCtorEq, reduceIte, aoptEv, abin, aint, ashift, aun, astr, aeqGuard, isConstOp, aconvH, aofStr, aconvSame, isU8, abuildSlice, afill, splice, azeros, Nat.reduceLeDiff, Nat.reduceLT, Int.reduceLE, Int.reduceLT, Int.reduceEq, Int.reduceToNat, Int.reducePow, IntKind.bits, Int.reduceNeg, RB, aalloc, Go.PW.dig_length, tf95WdI, k2, k3, k4, k6, k7, k8, k9, k10, k43, k44, k45, p2.get, p3.get, p4.get, hna, hnb, hT, h16, hl])
        | (simp (disch := first | omega | (simp only [RO]; done) | assumption) only [RS, six44, gix44, idx32, slh32, idx33, slh33, idx160, slh160])
        | (simp (disch := (first | omega | (simp only [RO]; done) | assumption | (simp only [RM, Go.PW.dig_length]; done) | (simp only [RL, Go.PW.dig_length]; omega))) only [RD, reduceCtorEq, reduceIte, Go.PW.dig_length, Nat.reduceLeDiff, Nat.reduceAdd, Nat.reduceMul, Int.reduceToNat, tf95WdI, k2, k3, k4, k6, k7, k8, k9, k10, k43, k44, k45, p2.get, p3.get, p4.get, hna, hnb, hT, h16, hl])
      (
       (refine AEnd_gen (rs := [.cell 4 33, .tmp 5]) rfl ?_)
       (simp only [AEndR, aresults, Fr.put_some, Fr.put_none, fr0_zero, fr0_succ, fr0_nil, Nat.reduceEqDiff, reduceIte, k4, hget_set q4])
       (try simp (disch := (first | omega | (simp only [RO]; done) | assumption | (simp only [RM, Go.PW.dig_length]; done) | (simp only [RL, Go.PW.dig_length]; omega))) only [RD, reduceCtorEq, reduceIte, Go.PW.dig_length, Nat.reduceLeDiff, Nat.reduceAdd, Nat.reduceMul, Int.reduceToNat, tf95WdI, k4, hget_set q4]))
      exact ⟨((x1.set p4.lo _).pushed _).pushed _, W_tupb_lt _ _ _⟩
  · skip
    (
     (refine AEnd_gen (rs := [.cell 4 33, .tmp 5]) rfl ?_)
     (simp only [AEndR, aresults, Fr.put_some, Fr.put_none, fr0_zero, fr0_succ, fr0_nil, Nat.reduceEqDiff, reduceIte, k4, hget_set q4])
     (try simp (disch := (first | omega | (simp only [RO]; done) | assumption | (simp only [RM, Go.PW.dig_length]; done) | (simp only [RL, Go.PW.dig_length]; omega))) only [RD, reduceCtorEq, reduceIte, Go.PW.dig_length, Nat.reduceLeDiff, Nat.reduceAdd, Nat.reduceMul, Int.reduceToNat, tf95WdI, k4, hget_set q4]))
    rw [hz (.inl (by omega))]
    exact ⟨x1.set p4.lo _, W_tupb_lt _ _ _, rfl⟩
end Go.Proofs.YtfalfmfkifemeaaGreatDoor
set_option linter.unusedVariables false
set_option linter.unusedSimpArgs false
namespace Go.Proofs.YtfalfmfkifemeaaGreatDoor
open Go.AL Go.PW
theorem tf118WdJ : type_of% (And.intro @tyb3 (And.intro @tyb31 (And.intro @tyb44 (And.intro @tyb115 (@cv3_115))))) := And.intro @tyb3 (And.intro @tyb31 (And.intro @tyb44 (And.intro @tyb115 (@cv3_115))))
theorem tf120WdJ : type_of% (@tyb31) := @tyb31
set_option maxRecDepth 8000
theorem or_low {x y : Int} {s : Nat} (hs : s < 64) (hx : 0 ≤ x) (h0 : 0 ≤ y) (h1 : y < 2 ^ s) : bits .or .u64 y (x * 2 ^ s % Bs) = y + x * 2 ^ s % Bs := by
  obtain ⟨_, e⟩ := shl_split (x := x) (s := s) (by omega) hx
  have hq := two_pos (64 - s)
  have hb : x * 2 ^ s % Bs < Bs := Int.emod_lt_of_pos _ (by decide)
  have hs2 : (2 : Int) ^ s ≤ Bs := by
    have := Int.mul_le_mul_of_nonneg_left (show (1 : Int) ≤ 2 ^ (64 - s) by omega) (Int.le_of_lt (two_pos s))
    rw [two_split (by omega)] at this
    omega
  rw [e] at hb ⊢
  have := or_add s (x := x % 2 ^ (64 - s)) (y := y) (Int.emod_nonneg _ (by omega)) hb h0 h1 (by omega)
  have hc : ∀ a b : Int, 0 ≤ a → a < Bs → 0 ≤ b → b < Bs → bits .or .u64 a b = bits .or .u64 b a := by
    intro a b ha ha' hb hb'
    obtain ⟨a, rfl, h1⟩ := nat_lt ha ha'
    obtain ⟨b, rfl, h2⟩ := nat_lt hb hb'
    rw [or64 h1 h2, or64 h2 h1, Nat.or_comm]
  rw [hc _ _ h0 (by omega) (Int.mul_nonneg (Int.emod_nonneg _ (by omega)) (Int.le_of_lt (two_pos s))) hb, this, Int.add_comm]
theorem shift_calls (v : AV) (xs : List Int) (s : Nat) (H : Hp) (hv : Ints H .u64 v xs) (hx : Limbs xs) (hl : xs.length < 1000000) (hs : s < 64) : ACalls Tryz.prog 118 [v, .int .i64 (s : Int)] H fun r H' => r = .sl H.length 0 (xs.length + 1) (xs.length + 1) ∧ H ++ [Bk (dig (xs.length + 1) (val xs * 2 ^ s)) 31] = H' := by
  have e1 : IntKind.i64.wrap ((xs.length : Int) + 1) = ((xs.length + 1 : Nat) : Int) := by rw [wrap_i64_id (by omega) (by omega)]; omega
  have hmk := make_ints (P := Tryz.prog) (H := H) (n := xs.length + 1) (l := .i64) und44 size31 zero31 bytes31 (by omega) (by omega)
  have w1 : IntKind.u64.wrap ((s : Nat) : Int) = s := u64_in (by omega) (by simp only [Bs]; omega)
  have w2 : IntKind.i64.wrap (64 - ((s : Nat) : Int)) = ((64 - s : Nat) : Int) := by rw [wrap_i64_id (by omega) (by omega)]; omega
  have w3 : IntKind.u64.wrap ((64 - s : Nat) : Int) = ((64 - s : Nat) : Int) := u64_in (by omega) (by simp only [Bs]; omega)
  have m1 : (s ≤ 64) = True := by simp; omega
  have m2 : (64 - s ≤ 64) = True := by simp
  have w8 : IntKind.u64.bits = 64 := by decide
  refine ACalls_body Tryz.func118 rfl (by kernel_rfl) (by kernel_rfl) ?_
  repeat' first
    | (with_reducible first | refine AWp_seq_k (fun K hK => ?_) | refine AWp_block ?_ | refine AWp_regionE ?_)
    | (simp only [thenA, inBlockA, reduceIte, Nat.reduceEqDiff])
    | ((with_reducible refine hK _ _ ?_); clear hK)
    | (simp only [ACond, RA, EAtS_def, EAtX_def, wantedA, acall, astep, ev, ofValue, ofAtom, Nat.reduceEqDiff, Nat.reduceAdd, Nat.reduceMul, Nat.reduceSub, reduceCtorEq, reduceIte, aoptEv, abin, aint, ashift, aun, astr, aeqGuard, isConstOp, aconvH, aofStr, aconvSame, isU8, abuildSlice, afill, splice, azeros, Nat.reduceLeDiff, Nat.reduceLT, Int.reduceLE, Int.reduceLT, Int.reduceEq, Int.reduceToNat, Int.reducePow, IntKind.bits, Int.reduceNeg, RB, aalloc, Go.PW.dig_length, tf118WdJ, hv.rd.len und44, e1, hmk])
  refine AWp_loop (fun c fr' H' => ∃ (i : Nat) (ys : List Int), c = xs.length - i ∧ i ≤ xs.length ∧ fr' 1 = .int .i64 (s : Int) ∧ fr' 5 = .sl H.length 0 (xs.length + 1) (xs.length + 1) ∧ fr' 12 = v ∧ fr' 13 = .int .i64 (xs.length : Int) ∧ fr' 14 = .int .i64 (i : Int) ∧ ys.length = xs.length + 1 ∧ Limbs ys ∧
      (∀ j, i < j → ys.getD j 0 = 0) ∧ ys.getD i 0 < 2 ^ s ∧ val ys = val (xs.take i) * 2 ^ s ∧ H ++ [Bk ys 31] = H') (m := xs.length)
    ⟨0, List.replicate (xs.length + 1) 0, by omega, by omega, rfl, rfl, rfl, rfl, rfl, by simp, Limbs.replicate _, fun j _ => by simp [List.getD, List.getElem?_replicate]; split <;> rfl, by simp [List.getD, List.getElem?_replicate]; exact two_pos s, by rw [val_replicate]; simp [val], rfl⟩ ?_
  rintro c fr' H' ⟨i, ys, rfl, hi, k1, k5, k12, k13, k14, hyl, hys, hz, hlow, hval, rfl⟩
  have e2 : IntKind.i64.wrap ((i : Int) + 1) = ((i + 1 : Nat) : Int) := by rw [wrap_i64_id (by omega) (by omega)]; omega
  by_cases hlt : i < xs.length
  · have hg := hx.get i
    have hy := hys.get i
    have hor := or_low hs hg.1 hy.1 hlow
    obtain ⟨sp1, sp2⟩ := shl_split (x := xs.getD i 0) (s := s) (by omega) hg.1
    have h3 : 0 ≤ xs.getD i 0 / 2 ^ (64 - s) := Int.ediv_nonneg hg.1 (Int.le_of_lt (two_pos _))
    have h4 : xs.getD i 0 / 2 ^ (64 - s) < 2 ^ s := shr_lt (by omega) hg.2
    have hb0 : 0 ≤ xs.getD i 0 * 2 ^ s % Bs := Int.emod_nonneg _ (by decide)
    have hsum : ys.getD i 0 + xs.getD i 0 * 2 ^ s % Bs < Bs := by
      rw [sp2]
      have a1 : xs.getD i 0 % 2 ^ (64 - s) * 2 ^ s ≤ (2 ^ (64 - s) - 1) * 2 ^ s := Int.mul_le_mul_of_nonneg_right (by have := Int.emod_lt_of_pos (xs.getD i 0) (two_pos (64 - s)); omega) (Int.le_of_lt (two_pos s))
      rw [Int.sub_mul, Int.mul_comm (2 ^ (64 - s)), two_split (by omega)] at a1
      omega
    have hs2 : (2 : Int) ^ s ≤ Bs := by
      have := Int.mul_le_mul_of_nonneg_left (show (1 : Int) ≤ 2 ^ (64 - s) by have := two_pos (64 - s); omega) (Int.le_of_lt (two_pos s))
      rw [two_split (by omega)] at this
      omega
    have hset1 : val (ys.set i (ys.getD i 0 + xs.getD i 0 * 2 ^ s % Bs)) = val ys + Bs ^ i * (xs.getD i 0 * 2 ^ s % Bs) := by
      rw [val_set _ (by omega)]; congr 2; omega
    have htk := val_take_succ xs hlt
    have hpp : Bs ^ (i + 1) = Bs ^ i * Bs := Int.pow_succ ..
    by_cases hs0 : 0 < s
    · skip
      repeat' first
        | (with_reducible first | refine AWp_seq_k (fun K hK => ?_) | refine AWp_block ?_ | refine AWp_skip ?_ | refine AWp_regionE ?_ | refine AWp_condI ?_)
        | (with_reducible refine AIte (fun hc => ?_) (fun hc => ?_) <;> (try simp only [RC] at hc) <;> (try (exfalso; first | omega | contradiction)))
        | (simp only [thenA, inBlockA, reduceIte, Nat.reduceEqDiff])
        | ((with_reducible refine hK _ _ ?_); clear hK)
        | (simp only [ACond, RA, EAtS_def, EAtX_def, wantedA, acall, astep, ev, ofValue, ofAtom, Nat.reduceEqDiff, Nat.reduceAdd, Nat.reduceMul, Nat.reduceSub, reduceCtorEq, reduceIte, aoptEv, abin, aint, ashift, aun, astr, aeqGuard, isConstOp, aconvH, aofStr, aconvSame, isU8, abuildSlice, afill, splice, azeros, Nat.reduceLeDiff, Nat.reduceLT, Int.reduceLE, Int.reduceLT, Int.reduceEq, Int.reduceToNat, Int.reducePow, IntKind.bits, Int.reduceNeg, RB, aalloc, Go.PW.dig_length, tf118WdJ, k1, k5, k12, k13, k14, e2, w1, w2, w3, m1, m2, w8, u64_wrap, hor])
        | (simp (disch := first | omega | (simp only [RO]; done) | assumption) only [RS, hv.rd.at1 und44 size31, (hv.push _).load1 agg31, hyl, six44, gix44])
        | (simp (disch := (first | omega | (simp only [RO]; done) | assumption | (simp only [RM, Go.PW.dig_length]; done) | (simp only [RL, Go.PW.dig_length]; omega))) only [RD, reduceCtorEq, reduceIte, Go.PW.dig_length, Nat.reduceLeDiff, Nat.reduceAdd, Nat.reduceMul, Int.reduceToNat, tf118WdJ, k1, k5, k12, k13, k14, e2, w1, w2, w3, m1, m2, w8, u64_wrap, hor])
      refine ⟨xs.length - (i + 1), by omega, i + 1, _, rfl, by omega, rfl, by rw [List.length_set, List.length_set]; exact hyl, (hys.set i ⟨by omega, hsum⟩).set (i + 1) ⟨h3, by omega⟩, ?_, ?_, ?_, rfl⟩
      · intro j hj
        rw [getD_set _ _ (by rw [List.length_set]; omega), if_neg (by omega), getD_set _ _ (by omega), if_neg (by omega)]
        exact hz j (by omega)
      · rw [getD_set _ _ (by rw [List.length_set]; omega), if_pos rfl]; exact h4
      · rw [val_set _ (by rw [List.length_set]; omega), hset1, getD_set _ _ (by omega), if_neg (by omega), hz (i + 1) (by omega), htk, Int.add_mul, ← hval, hpp]
        rw [Int.mul_assoc (Bs ^ i) (xs.getD i 0), Int.sub_zero, Int.mul_assoc (Bs ^ i) Bs]
        clear hset1 hor sp2 hsum hb0
        generalize xs.getD i 0 * 2 ^ s % Bs = b at *
        generalize xs.getD i 0 * 2 ^ s = y at *
        rw [sp1, Int.mul_add]
        omega
    · skip
      repeat' first
        | (with_reducible first | refine AWp_seq_k (fun K hK => ?_) | refine AWp_block ?_ | refine AWp_skip ?_ | refine AWp_regionE ?_ | refine AWp_condI ?_)
        | (with_reducible refine AIte (fun hc => ?_) (fun hc => ?_) <;> (try simp only [RC] at hc) <;> (try (exfalso; first | omega | contradiction)))
        | (simp only [thenA, inBlockA, reduceIte, Nat.reduceEqDiff])
        | ((with_reducible refine hK _ _ ?_); clear hK)
        | (simp only [ACond, RA, EAtS_def, EAtX_def, wantedA, acall, astep, ev, ofValue, ofAtom, Nat.reduceEqDiff, Nat.reduceAdd, Nat.reduceMul, Nat.reduceSub, reduceCtorEq, reduceIte, aoptEv, abin, aint, ashift, aun, astr, aeqGuard, isConstOp, aconvH, aofStr, aconvSame, isU8, abuildSlice, afill, splice, azeros, Nat.reduceLeDiff, Nat.reduceLT, Int.reduceLE, Int.reduceLT, Int.reduceEq, Int.reduceToNat, Int.reducePow, IntKind.bits, Int.reduceNeg, RB, aalloc, Go.PW.dig_length, tf118WdJ, k1, k5, k12, k13, k14, e2, w1, w2, w3, m1, m2, w8, u64_wrap, hor])
        | (simp (disch := first | omega | (simp only [RO]; done) | assumption) only [RS, hv.rd.at1 und44 size31, (hv.push _).load1 agg31, hyl, six44, gix44])
        | (simp (disch := (first | omega | (simp only [RO]; done) | assumption | (simp only [RM, Go.PW.dig_length]; done) | (simp only [RL, Go.PW.dig_length]; omega))) only [RD, reduceCtorEq, reduceIte, Go.PW.dig_length, Nat.reduceLeDiff, Nat.reduceAdd, Nat.reduceMul, Int.reduceToNat, tf118WdJ, k1, k5, k12, k13, k14, e2, w1, w2, w3, m1, m2, w8, u64_wrap, hor])
      refine ⟨xs.length - (i + 1), by omega, i + 1, _, rfl, by omega, rfl, by rw [List.length_set]; exact hyl, hys.set i ⟨by omega, hsum⟩, ?_, ?_, ?_, rfl⟩
      · intro j hj
        rw [getD_set _ _ (by omega), if_neg (by omega)]
        exact hz j (by omega)
      · rw [getD_set _ _ (by omega), if_neg (by omega), hz (i + 1) (by omega)]; exact two_pos s
      · obtain rfl : s = 0 := by omega
        rw [hset1, htk, Int.add_mul, ← hval]
        rw [Int.mul_assoc (Bs ^ i) (xs.getD i 0)]
        clear hset1 hor sp2 hsum hb0
        generalize xs.getD i 0 * 2 ^ 0 % Bs = b at *
        generalize xs.getD i 0 * 2 ^ 0 = y at *
        rw [sp1, Int.mul_add]
        have e64 : (2 : Int) ^ (64 - 0) = Bs := by decide
        have : xs.getD i 0 / 2 ^ (64 - 0) = 0 := Int.ediv_eq_zero_of_lt hg.1 (by rw [e64]; exact hg.2)
        rw [this]
        simp
  · obtain rfl : i = xs.length := by omega
    repeat' first
      | (with_reducible first | refine AWp_seq_k (fun K hK => ?_) | refine AWp_exit ?_ | refine AWp_ret ?_ | refine AWp_regionE ?_ | refine AWp_condI ?_)
      | (with_reducible refine AIte (fun hc => ?_) (fun hc => ?_) <;> (try simp only [RC] at hc) <;> (try (exfalso; first | omega | contradiction)))
      | (simp only [thenA, inBlockA, reduceIte, Nat.reduceEqDiff])
      | ((with_reducible refine hK _ _ ?_); clear hK)
      | (clear hK; (with_reducible refine hK _ _ ?_); clear hK)
      | (simp only [ACond, RA, EAtS_def, EAtX_def, wantedA, acall, astep, ev, ofValue, ofAtom, Nat.reduceEqDiff, Nat.reduceAdd, Nat.reduceMul, Nat.reduceSub, reduceCtorEq, reduceIte, aoptEv, abin, aint, ashift, aun, astr, aeqGuard, isConstOp, aconvH, aofStr, aconvSame, isU8, abuildSlice, afill, splice, azeros, Nat.reduceLeDiff, Nat.reduceLT, Int.reduceLE, Int.reduceLT, Int.reduceEq, Int.reduceToNat, Int.reducePow, IntKind.bits, Int.reduceNeg, RB, aalloc, Go.PW.dig_length, tf118WdJ, k1, k5, k12, k13, k14])
    (
     (refine AEnd_gen (rs := [.tmp 4]) rfl ?_)
     (simp only [AEndR, aresults, Fr.put_some, Fr.put_none, fr0_zero, fr0_succ, fr0_nil, Nat.reduceEqDiff, reduceIte, k5])
     (try simp (disch := (first | omega | (simp only [RO]; done) | assumption | (simp only [RM, Go.PW.dig_length]; done) | (simp only [RL, Go.PW.dig_length]; omega))) only [RD, reduceCtorEq, reduceIte, Go.PW.dig_length, Nat.reduceLeDiff, Nat.reduceAdd, Nat.reduceMul, Int.reduceToNat, tf118WdJ, k5]))
    have hb := val_bound hys
    rw [hyl, hval, List.take_of_length_le (Nat.le_refl _)] at hb
    rw [← dig_of_val (n := xs.length + 1) hys hyl (x := val xs * 2 ^ s) (by rw [hval, List.take_of_length_le (Nat.le_refl _), Int.emod_eq_of_lt hb.1 hb.2])]
theorem guess_calls (u2 u1 u0 v1 v0 : Int) (H : Hp) (h2 : 0 ≤ u2 ∧ u2 ≤ v1) (h1 : 0 ≤ u1 ∧ u1 < Bs) (h0 : 0 ≤ u0 ∧ u0 < Bs) (hv1 : 0 < v1 ∧ v1 < Bs) (hv0 : 0 ≤ v0 ∧ v0 < Bs) : ACalls Tryz.prog 120 [.int .u64 u2, .int .u64 u1, .int .u64 u0, .int .u64 v1, .int .u64 v0] H fun r H' => r = .int .u64 (min (Bs - 1) (((u2 * Bs + u1) * Bs + u0) / (v1 * Bs + v0))) ∧ H = H' := by
  obtain ⟨T, hT⟩ : ∃ T, T = ((u2 * Bs + u1) * Bs + u0) / (v1 * Bs + v0) := ⟨_, rfl⟩
  have hT0 : 0 ≤ T := by
    rw [hT]
    refine Int.ediv_nonneg ?_ ?_ <;> simp only [Bs] at * <;> omega
  rw [← hT]
  have hmin : ∀ q : Int, q ≤ Bs - 1 → q ≤ T → min (Bs - 1) T ≤ q → q = min (Bs - 1) T := fun q a b c => by omega
  have hBd : (0 : Int) < Bs := by decide
  refine ACalls_body Tryz.func120 rfl (by kernel_rfl) (by kernel_rfl) ?_
  refine AWp_seq_k (fun K hQ => ?_)
  repeat' first
    | (with_reducible first | refine AWp_regionE ?_)
    | (simp only [thenA, inBlockA, reduceIte, Nat.reduceEqDiff])
    | (simp only [ACond, RA, EAtS_def, EAtX_def, wantedA, acall, astep, ev, ofValue, ofAtom, Nat.reduceEqDiff, Nat.reduceAdd, Nat.reduceMul, Nat.reduceSub, reduceCtorEq, reduceIte, aoptEv, abin, aint, ashift, aun, astr, aeqGuard, isConstOp, aconvH, aofStr, aconvSame, isU8, abuildSlice, afill, splice, azeros, Nat.reduceLeDiff, Nat.reduceLT, Int.reduceLE, Int.reduceLT, Int.reduceEq, Int.reduceToNat, Int.reducePow, IntKind.bits, Int.reduceNeg, RB, aalloc, Go.PW.dig_length, tf120WdJ])
  refine hQ _ _ ?_
  clear hQ
  refine AWp_seq_k (fun K hQ => ?_)
  repeat' first
    | (with_reducible first | refine AWp_regionE ?_)
    | (simp only [thenA, inBlockA, reduceIte, Nat.reduceEqDiff])
    | (simp only [ACond, RA, EAtS_def, EAtX_def, wantedA, acall, astep, ev, ofValue, ofAtom, Nat.reduceEqDiff, Nat.reduceAdd, Nat.reduceMul, Nat.reduceSub, reduceCtorEq, reduceIte, aoptEv, abin, aint, ashift, aun, astr, aeqGuard, isConstOp, aconvH, aofStr, aconvSame, isU8, abuildSlice, afill, splice, azeros, Nat.reduceLeDiff, Nat.reduceLT, Int.reduceLE, Int.reduceLT, Int.reduceEq, Int.reduceToNat, Int.reducePow, IntKind.bits, Int.reduceNeg, RB, aalloc, Go.PW.dig_length, tf120WdJ])
  refine hQ _ _ ?_
  clear hQ
  refine AWp_seq_k (fun K hQ => ?_)
  repeat' first
    | (with_reducible first | refine AWp_regionE ?_)
    | (simp only [thenA, inBlockA, reduceIte, Nat.reduceEqDiff])
    | (simp only [ACond, RA, EAtS_def, EAtX_def, wantedA, acall, astep, ev, ofValue, ofAtom, Nat.reduceEqDiff, Nat.reduceAdd, Nat.reduceMul, Nat.reduceSub, reduceCtorEq, reduceIte, aoptEv, abin, aint, ashift, aun, astr, aeqGuard, isConstOp, aconvH, aofStr, aconvSame, isU8, abuildSlice, afill, splice, azeros, Nat.reduceLeDiff, Nat.reduceLT, Int.reduceLE, Int.reduceLT, Int.reduceEq, Int.reduceToNat, Int.reducePow, IntKind.bits, Int.reduceNeg, RB, aalloc, Go.PW.dig_length, tf120WdJ])
  refine hQ _ _ ?_
  clear hQ
  refine AWp_seq_k (fun K2 hK2 => ?_)
  refine AWp_cut (fun fr' H1 => ∃ q r ov : Int, fr' 0 = .int .u64 u2 ∧ fr' 1 = .int .u64 u1 ∧ fr' 2 = .int .u64 u0 ∧ fr' 3 = .int .u64 v1 ∧ fr' 4 = .int .u64 v0 ∧ fr' 11 = .int .u64 q ∧ fr' 12 = .int .u64 r ∧ fr' 13 = .int .u64 ov ∧ 0 ≤ q ∧ q < Bs ∧ 0 ≤ r ∧ r < Bs ∧ 0 ≤ ov ∧ ov ≤ 1 ∧ q * v1 + (ov * Bs + r) = u2 * Bs + u1 ∧ min (Bs - 1) T ≤ q ∧ H = H1) ?_ (fun fr' H1 h => hK2 _ _ ?_)
  · clear hK2
    by_cases hlt : u2 < v1
    · skip
      repeat' first
        | (with_reducible first | refine AWp_seq_k (fun K hK => ?_) | refine AWp_regionE ?_ | refine AWp_condI ?_)
        | ((with_reducible refine ECall_intro (div64_calls _ _ _ _ h2.1 hlt h1 hv1.2) ?_); rintro _ _ ⟨rfl, rfl⟩)
        | (with_reducible refine AIte (fun hc => ?_) (fun hc => ?_) <;> (try simp only [RC] at hc) <;> (try (exfalso; first | omega | contradiction)))
        | (simp only [thenA, inBlockA, reduceIte, Nat.reduceEqDiff])
        | ((with_reducible refine hK _ _ ?_); clear hK)
        | (simp only [ACond, RA, EAtS_def, EAtX_def, wantedA, acall, astep, ev, ofValue, ofAtom, Nat.reduceEqDiff, Nat.reduceAdd, Nat.reduceMul, Nat.reduceSub, reduceCtorEq, reduceIte, aoptEv, abin, aint, ashift, aun, astr, aeqGuard, isConstOp, aconvH, aofStr, aconvSame, isU8, abuildSlice, afill, splice, azeros, Nat.reduceLeDiff, Nat.reduceLT, Int.reduceLE, Int.reduceLT, Int.reduceEq, Int.reduceToNat, Int.reducePow, IntKind.bits, Int.reduceNeg, RB, aalloc, Go.PW.dig_length, tf120WdJ])
      have hm := Int.emod_add_mul_ediv (u2 * Bs + u1) v1
      have hm0 := Int.emod_nonneg (u2 * Bs + u1) (b := v1) (by omega)
      have hm1 := Int.emod_lt_of_pos (u2 * Bs + u1) hv1.1
      have hq0 : 0 ≤ (u2 * Bs + u1) / v1 := Int.ediv_nonneg (by simp only [Bs]; omega) (by omega)
      have hq1 : (u2 * Bs + u1) / v1 < Bs := by
        rw [Int.ediv_lt_iff_lt_mul hv1.1]
        simp only [Bs] at *
        omega
      have hst := guess_start (B := Bs) hBd h2.1 h1.1 h0.1 h0.2 hv1.1 hv0.1
      rw [← hT] at hst
      refine ⟨_, _, _, rfl, rfl, rfl, hq0, hq1, hm0, by omega, by decide, by decide, ?_, by omega⟩
      rw [Int.mul_comm v1] at hm
      omega
    · have hS : 0 ≤ u1 + v1 + 0 ∧ u1 + v1 + 0 < 2 * Bs := by omega
      repeat' first
        | (with_reducible first | refine AWp_seq_k (fun K hK => ?_) | refine AWp_regionE ?_ | refine AWp_condI ?_)
        | ((with_reducible refine ECall_introX (add64 _ _ _ _ h1.1 (Int.le_of_lt hv1.1) (by decide)) ?_); rintro _ _ ⟨rfl, rfl⟩)
        | (with_reducible refine AIte (fun hc => ?_) (fun hc => ?_) <;> (try simp only [RC] at hc) <;> (try (exfalso; first | omega | contradiction)))
        | (simp only [thenA, inBlockA, reduceIte, Nat.reduceEqDiff])
        | ((with_reducible refine hK _ _ ?_); clear hK)
        | (simp only [ACond, RA, EAtS_def, EAtX_def, wantedA, acall, astep, ev, ofValue, ofAtom, Nat.reduceEqDiff, Nat.reduceAdd, Nat.reduceMul, Nat.reduceSub, reduceCtorEq, reduceIte, aoptEv, abin, aint, ashift, aun, astr, aeqGuard, isConstOp, aconvH, aofStr, aconvSame, isU8, abuildSlice, afill, splice, azeros, Nat.reduceLeDiff, Nat.reduceLT, Int.reduceLE, Int.reduceLT, Int.reduceEq, Int.reduceToNat, Int.reducePow, IntKind.bits, Int.reduceNeg, RB, aalloc, Go.PW.dig_length, tf120WdJ])
      have he : u2 = v1 := by omega
      refine ⟨_, _, _, rfl, rfl, rfl, by decide, by decide, Int.emod_nonneg _ (by decide), Int.emod_lt_of_pos _ (by decide), ?_, ?_, ?_, by simp only [Bs]; omega⟩
      · simp only [Bs] at *; omega
      · simp only [Bs] at *; omega
      · rw [he]
        simp only [Bs] at *
        omega
  · obtain ⟨q, r, ov, k0, k1, k2, k3, k4, k11, k12, k13, q0, q1, r0, r1, o0, o1, hinv, hge, rfl⟩ := h
    repeat' first
      | (with_reducible first | refine AWp_seq_k (fun K hK => ?_) | refine AWp_block ?_)
    refine AWp_loop (fun c fr' H1 => ∃ q r ov : Int, c = q.toNat ∧ fr' 0 = .int .u64 u2 ∧ fr' 1 = .int .u64 u1 ∧ fr' 2 = .int .u64 u0 ∧ fr' 3 = .int .u64 v1 ∧ fr' 4 = .int .u64 v0 ∧ fr' 11 = .int .u64 q ∧ fr' 12 = .int .u64 r ∧ fr' 13 = .int .u64 ov ∧ 0 ≤ q ∧ q < Bs ∧ 0 ≤ r ∧ r < Bs ∧ 0 ≤ ov ∧ ov ≤ 1 ∧ q * v1 + (ov * Bs + r) = u2 * Bs + u1 ∧ min (Bs - 1) T ≤ q ∧ H = H1) (m := q.toNat)
      ⟨q, r, ov, rfl, k0, k1, k2, k3, k4, k11, k12, k13, q0, q1, r0, r1, o0, o1, hinv, hge, rfl⟩ ?_
    clear k0 k1 k2 k3 k4 k11 k12 k13 q0 q1 r0 r1 o0 o1 hinv hge
    rintro c fr' H1 ⟨q, r, ov, rfl, k0, k1, k2, k3, k4, k11, k12, k13, q0, q1, r0, r1, o0, o1, hinv, hge, rfl⟩
    have hqv := mul_bound (x := q) (y := v0) (p := Bs - 1) (q := Bs - 1) ⟨q0, by omega⟩ ⟨hv0.1, by omega⟩
    by_cases hov : ov = 0
    · subst hov
      have htest := guess_test (p := q * v0) (r := r) (u0 := u0) hqv.1 h0
      rw [Int.zero_mul, Int.zero_add] at hinv
      by_cases ht : q * v0 ≤ r * Bs + u0
      · have hd := guess_done hBd hv1.1 hv0.1 hinv ht
        rw [← hT] at hd
        have htt := htest.2 ht
        have := hmin q (by omega) hd hge
        repeat' first
          | (with_reducible first | refine AWp_seq_k (fun K hK => ?_) | refine AWp_block ?_ | refine AWp_skip ?_ | refine AWp_exit ?_ | refine AWp_ret ?_ | refine AWp_regionE ?_ | refine AWp_condI ?_)
          | ((with_reducible refine ECall_intro (mul64_calls _ _ _ ⟨q0, q1⟩ hv0) ?_); rintro _ _ ⟨rfl, rfl⟩)
          | (with_reducible refine EGuard_split (fun hc => ?_) (fun hc => ?_) <;> (try simp only [RC] at hc) <;> (try (exfalso; first | omega | contradiction)))
          | (with_reducible refine AIte (fun hc => ?_) (fun hc => ?_) <;> (try simp only [RC] at hc) <;> (try (exfalso; first | omega | contradiction)))
          | (simp only [thenA, inBlockA, reduceIte, Nat.reduceEqDiff])
          | ((with_reducible refine hK _ _ ?_); clear hK)
          | (clear hK; (with_reducible refine hK _ _ ?_); clear hK)
          | (simp only [ACond, RA, EAtS_def, EAtX_def, wantedA, acall, astep, ev, ofValue, ofAtom, Nat.reduceEqDiff, Nat.reduceAdd, Nat.reduceMul, Nat.reduceSub, reduceCtorEq, reduceIte, aoptEv, abin, aint, ashift, aun, astr, aeqGuard, isConstOp, aconvH, aofStr, aconvSame, isU8, abuildSlice, afill, splice, azeros, Nat.reduceLeDiff, Nat.reduceLT, Int.reduceLE, Int.reduceLT, Int.reduceEq, Int.reduceToNat, Int.reducePow, IntKind.bits, Int.reduceNeg, RB, aalloc, Go.PW.dig_length, tf120WdJ, k0, k1, k2, k3, k4, k11, k12, k13])
          | (simp (disch := first | omega | (simp only [RO]; done) | assumption) only [RS])
        all_goals
          (
           (refine AEnd_gen (rs := [.tmp 10]) rfl ?_)
           (simp only [AEndR, aresults, Fr.put_some, Fr.put_none, fr0_zero, fr0_succ, fr0_nil, Nat.reduceEqDiff, reduceIte, k11])
           (try simp (disch := (first | omega | (simp only [RO]; done) | assumption | (simp only [RM, Go.PW.dig_length]; done) | (simp only [RL, Go.PW.dig_length]; omega))) only [RD, reduceCtorEq, reduceIte, Go.PW.dig_length, Nat.reduceLeDiff, Nat.reduceAdd, Nat.reduceMul, Int.reduceToNat, tf120WdJ, k11]))
        all_goals rw [← this]
      · have hd := guess_more hBd hv1.1 hv0.1 hinv (Int.not_le.1 ht)
        rw [← hT] at hd
        have htt := mt htest.1 ht
        have hq1 : 0 < q := by
          rcases Int.lt_or_le 0 q with h | h
          · exact h
          · exfalso
            obtain rfl : q = 0 := by omega
            rw [Int.zero_mul] at ht
            have := Int.mul_nonneg r0 (Int.le_of_lt hBd)
            omega
        have hw : IntKind.u64.wrap (q - 1) = q - 1 := u64_in (by omega) (by omega)
        repeat' first
          | (with_reducible first | refine AWp_seq_k (fun K hK => ?_) | refine AWp_block ?_ | refine AWp_skip ?_ | refine AWp_regionE ?_ | refine AWp_condI ?_)
          | ((with_reducible refine ECall_intro (mul64_calls _ _ _ ⟨q0, q1⟩ hv0) ?_); rintro _ _ ⟨rfl, rfl⟩)
          | ((with_reducible refine ECall_introX (add64 _ _ _ _ r0 (Int.le_of_lt hv1.1) (by decide)) ?_); rintro _ _ ⟨rfl, rfl⟩)
          | (with_reducible refine EGuard_split (fun hc => ?_) (fun hc => ?_) <;> (try simp only [RC] at hc) <;> (try (exfalso; first | omega | contradiction)))
          | (with_reducible refine AIte (fun hc => ?_) (fun hc => ?_) <;> (try simp only [RC] at hc) <;> (try (exfalso; first | omega | contradiction)))
          | (simp only [thenA, inBlockA, reduceIte, Nat.reduceEqDiff])
          | ((with_reducible refine hK _ _ ?_); clear hK)
          | (simp only [ACond, RA, EAtS_def, EAtX_def, wantedA, acall, astep, ev, ofValue, ofAtom, Nat.reduceEqDiff, Nat.reduceAdd, Nat.reduceMul, Nat.reduceSub, reduceCtorEq, reduceIte, aoptEv, abin, aint, ashift, aun, astr, aeqGuard, isConstOp, aconvH, aofStr, aconvSame, isU8, abuildSlice, afill, splice, azeros, Nat.reduceLeDiff, Nat.reduceLT, Int.reduceLE, Int.reduceLT, Int.reduceEq, Int.reduceToNat, Int.reducePow, IntKind.bits, Int.reduceNeg, RB, aalloc, Go.PW.dig_length, tf120WdJ, k0, k1, k2, k3, k4, k11, k12, k13, hw])
          | (simp (disch := first | omega | (simp only [RO]; done) | assumption) only [RS])
        all_goals
          refine ⟨(q - 1).toNat, by omega, q - 1, _, _, rfl, rfl, rfl, rfl, by omega, by omega, Int.emod_nonneg _ (by decide), Int.emod_lt_of_pos _ (by decide), ?_, ?_, ?_, by omega⟩
          · simp only [Bs] at *; omega
          · simp only [Bs] at *; omega
          · rw [Int.sub_mul, Int.one_mul]
            generalize q * v1 = p at *
            simp only [Bs] at *
            omega
    · have hd : q ≤ T := by
        rw [hT]
        have := guess_done (u0 := u0) hBd hv1.1 hv0.1 hinv (by
          obtain rfl : ov = 1 := by omega
          have e : (Bs - 1) * (Bs - 1) = 340282366920938463426481119284349108225 := by decide
          rw [e] at hqv
          simp only [Bs] at *
          omega)
        exact this
      have := hmin q (by omega) hd hge
      repeat' first
        | (with_reducible first | refine AWp_seq_k (fun K hK => ?_) | refine AWp_exit ?_ | refine AWp_ret ?_ | refine AWp_regionE ?_ | refine AWp_condI ?_)
        | (with_reducible refine AIte (fun hc => ?_) (fun hc => ?_) <;> (try simp only [RC] at hc) <;> (try (exfalso; first | omega | contradiction)))
        | (simp only [thenA, inBlockA, reduceIte, Nat.reduceEqDiff])
        | ((with_reducible refine hK _ _ ?_); clear hK)
        | (clear hK; (with_reducible refine hK _ _ ?_); clear hK)
        | (simp only [ACond, RA, EAtS_def, EAtX_def, wantedA, acall, astep, ev, ofValue, ofAtom, Nat.reduceEqDiff, Nat.reduceAdd, Nat.reduceMul, Nat.reduceSub, reduceCtorEq, reduceIte, aoptEv, abin, aint, ashift, aun, astr, aeqGuard, isConstOp, aconvH, aofStr, aconvSame, isU8, abuildSlice, afill, splice, azeros, Nat.reduceLeDiff, Nat.reduceLT, Int.reduceLE, Int.reduceLT, Int.reduceEq, Int.reduceToNat, Int.reducePow, IntKind.bits, Int.reduceNeg, RB, aalloc, Go.PW.dig_length, tf120WdJ, k0, k1, k2, k3, k4, k11, k12, k13])
      (
       (refine AEnd_gen (rs := [.tmp 10]) rfl ?_)
       (simp only [AEndR, aresults, Fr.put_some, Fr.put_none, fr0_zero, fr0_succ, fr0_nil, Nat.reduceEqDiff, reduceIte, k11])
       (try simp (disch := (first | omega | (simp only [RO]; done) | assumption | (simp only [RM, Go.PW.dig_length]; done) | (simp only [RL, Go.PW.dig_length]; omega))) only [RD, reduceCtorEq, reduceIte, Go.PW.dig_length, Nat.reduceLeDiff, Nat.reduceAdd, Nat.reduceMul, Int.reduceToNat, tf120WdJ, k11]))
      rw [← this]
end Go.Proofs.YtfalfmfkifemeaaGreatDoor

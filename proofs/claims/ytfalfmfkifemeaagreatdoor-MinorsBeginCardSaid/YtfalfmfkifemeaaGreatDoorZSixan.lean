/- Part 14 of the proof of laws of this seat: lemmas on the model's code, on this program's functions, on numbers. No condition. -/
import Derived.Test.YtfalfmfkifemeaaGreatDoorZSixam
set_option linter.unusedVariables false
set_option linter.unusedSimpArgs false
namespace Go.Proofs.YtfalfmfkifemeaaGreatDoor
open Go.AL Go.PW
theorem tf119WdK : type_of% (And.intro @tyb3 (And.intro @tyb31 (@tyb44))) := And.intro @tyb3 (And.intro @tyb31 (@tyb44))
set_option maxRecDepth 8000
theorem take_calls (hu cu hv cv eu : Nat) (pre w post ws : List Int) (m : Nat) (q : Int) (bv : Blk) (H : Hp) (hgu : hget H hu = some (Bk (pre ++ w ++ post) eu)) (hgv : hget H hv = some (Bk ws bv.ety)) (hne : hv ≠ hu)
    (hw : Limbs w) (hws : Limbs ws) (hwl : w.length = m + 1) (hml : m ≤ ws.length) (hm : m < 1000000) (hpre : pre.length < 1000000) (hq : 0 ≤ q ∧ q < Bs) (hV : 0 < val (ws.take m)) (hq1 : val w / val (ws.take m) ≤ q) (hq2 : q ≤ val w / val (ws.take m) + 1) :
    ACalls Tryz.prog 119 [.sl hu pre.length (m + 1) cu, .sl hv 0 m cv, .int .u64 q] H fun r H' => r = .int .u64 (val w / val (ws.take m)) ∧ H.set hu (Bk (pre ++ dig (m + 1) (val w % val (ws.take m)) ++ post) eu) = H' := by
  obtain ⟨V, hVe⟩ : ∃ V, V = val (ws.take m) := ⟨_, rfl⟩
  have lu := hget_lt hgu
  have lv := hget_lt hgv
  rw [← hVe] at hV hq1 hq2 ⊢
  have htl : (ws.take m).length = m := by rw [List.length_take]; omega
  refine ACalls_body Tryz.func119 rfl (by kernel_rfl) (by kernel_rfl) ?_
  refine AWp_seq_k (fun K hQ => ?_)
  repeat' first
    | (with_reducible first | refine AWp_regionE ?_)
    | (simp only [thenA, inBlockA, reduceIte, Nat.reduceEqDiff])
    | (simp only [ACond, RA, EAtS_def, EAtX_def, wantedA, acall, astep, ev, ofValue, ofAtom, Nat.reduceEqDiff, Nat.reduceAdd, Nat.reduceMul, Nat.reduceSub, reduceCtorEq, reduceIte, aoptEv, abin, aint, ashift, aun, astr, aeqGuard, isConstOp, aconvH, aofStr, aconvSame, isU8, abuildSlice, afill, splice, azeros, Nat.reduceLeDiff, Nat.reduceLT, Int.reduceLE, Int.reduceLT, Int.reduceEq, Int.reduceToNat, Int.reducePow, IntKind.bits, Int.reduceNeg, RB, aalloc, Go.PW.dig_length, tf119WdK])
  refine hQ _ _ ?_
  clear hQ
  refine AWp_seq_k (fun K hQ => ?_)
  repeat' first
    | (with_reducible first | refine AWp_regionE ?_)
    | (simp only [thenA, inBlockA, reduceIte, Nat.reduceEqDiff])
    | (simp only [ACond, RA, EAtS_def, EAtX_def, wantedA, acall, astep, ev, ofValue, ofAtom, Nat.reduceEqDiff, Nat.reduceAdd, Nat.reduceMul, Nat.reduceSub, reduceCtorEq, reduceIte, aoptEv, abin, aint, ashift, aun, astr, aeqGuard, isConstOp, aconvH, aofStr, aconvSame, isU8, abuildSlice, afill, splice, azeros, Nat.reduceLeDiff, Nat.reduceLT, Int.reduceLE, Int.reduceLT, Int.reduceEq, Int.reduceToNat, Int.reducePow, IntKind.bits, Int.reduceNeg, RB, aalloc, Go.PW.dig_length, tf119WdK])
  refine hQ _ _ ?_
  clear hQ
  refine AWp_seq_k (fun K2 hK2 => ?_)
  refine AWp_cut (fun fr' H1 => ∃ (zs : List Int) (c b : Int), fr' 0 = .sl hu pre.length (m + 1) cu ∧ fr' 1 = .sl hv 0 m cv ∧ fr' 2 = .int .u64 q ∧ fr' 7 = .int .u64 b ∧ fr' 8 = .int .u64 c ∧ zs.length = m + 1 ∧ Limbs zs ∧ 0 ≤ c ∧ c < Bs ∧ 0 ≤ b ∧ b ≤ 1 ∧ zs.getD m 0 = w.getD m 0 ∧ val zs + q * V = val w + Bs ^ m * (b + c) ∧ H.set hu (Bk (pre ++ zs ++ post) eu) = H1) ?_ (fun fr' H1 h => hK2 _ _ ?_)
  · clear hK2
    repeat' first
      | (with_reducible first | refine AWp_seq_k (fun K hK => ?_) | refine AWp_block ?_ | refine AWp_regionE ?_)
      | (simp only [thenA, inBlockA, reduceIte, Nat.reduceEqDiff])
      | ((with_reducible refine hK _ _ ?_); clear hK)
      | (simp only [ACond, RA, EAtS_def, EAtX_def, wantedA, acall, astep, ev, ofValue, ofAtom, Nat.reduceEqDiff, Nat.reduceAdd, Nat.reduceMul, Nat.reduceSub, reduceCtorEq, reduceIte, aoptEv, abin, aint, ashift, aun, astr, aeqGuard, isConstOp, aconvH, aofStr, aconvSame, isU8, abuildSlice, afill, splice, azeros, Nat.reduceLeDiff, Nat.reduceLT, Int.reduceLE, Int.reduceLT, Int.reduceEq, Int.reduceToNat, Int.reducePow, IntKind.bits, Int.reduceNeg, RB, aalloc, Go.PW.dig_length, tf119WdK])
    refine AWp_loop (fun k fr' H1 => ∃ (i : Nat) (zs : List Int) (c b : Int), k = m - i ∧ i ≤ m ∧ fr' 0 = .sl hu pre.length (m + 1) cu ∧ fr' 1 = .sl hv 0 m cv ∧ fr' 2 = .int .u64 q ∧ fr' 7 = .int .u64 b ∧ fr' 8 = .int .u64 c ∧ fr' 16 = .sl hv 0 m cv ∧ fr' 17 = .int .i64 (m : Int) ∧ fr' 18 = .int .i64 (i : Int) ∧ zs.length = m + 1 ∧ Limbs zs ∧ 0 ≤ c ∧ c < Bs ∧ 0 ≤ b ∧ b ≤ 1 ∧ (∀ j, i ≤ j → zs.getD j 0 = w.getD j 0) ∧ val zs + q * val (ws.take i) = val w + Bs ^ i * (b + c) ∧ H.set hu (Bk (pre ++ zs ++ post) eu) = H1) (m := m)
      ⟨0, w, 0, 0, by omega, by omega, rfl, rfl, rfl, rfl, rfl, rfl, rfl, rfl, hwl, hw, by decide, by decide, by decide, by decide, fun _ _ => rfl, by simp [val], by rw [set_same hgu]⟩ ?_
    rintro k fr' H1 ⟨i, zs, c, b, rfl, hi, k0, k1, k2, k7, k8, k16, k17, k18, hzl, hzs, c0, c1, b0, b1, hz, hval, rfl⟩
    by_cases hlt : i < m
    · have hx := hws.get i
      have hu' := hzs.get i
      have hst := take_step hq hx ⟨c0, c1⟩ hu' ⟨b0, b1⟩
      have hb := Int.emod_lt_of_pos (q * ws.getD i 0 % Bs + c + 0) (b := Bs) (by decide)
      have hb' := Int.emod_nonneg (q * ws.getD i 0 % Bs + c + 0) (b := Bs) (by decide)
      have hgd := getD_mid pre zs post i (by omega)
      have hsd : ∀ x, (pre ++ zs ++ post).set (pre.length + i) x = pre ++ zs.set i x ++ post := fun x => set_mid pre zs post i x (by omega)
      have lpos : pre.length + i < (pre ++ zs ++ post).length := by simp only [List.length_append]; omega
      repeat' first
        | (with_reducible first | refine AWp_seq_k (fun K hK => ?_) | refine AWp_block ?_ | refine AWp_skip ?_ | refine AWp_regionE ?_ | refine AWp_condI ?_)
        | ((with_reducible refine ECall_intro (mul64_calls _ _ _ hq hx) ?_); rintro _ _ ⟨rfl, rfl⟩)
        | ((with_reducible refine ECall_introX (add64 _ _ _ _ (Int.emod_nonneg _ (by decide)) c0 (by decide)) ?_); rintro _ _ ⟨rfl, rfl⟩)
        | ((with_reducible refine ECall_introX (sub64 _ _ _ _ hu'.1 ⟨hb', hb⟩ ⟨b0, b1⟩) ?_); rintro _ _ ⟨rfl, rfl⟩)
        | (with_reducible refine AIte (fun hc => ?_) (fun hc => ?_) <;> (try simp only [RC] at hc) <;> (try (exfalso; first | omega | contradiction)))
        | (simp only [thenA, inBlockA, reduceIte, Nat.reduceEqDiff])
        | ((with_reducible refine hK _ _ ?_); clear hK)
        | (simp only [ACond, RA, EAtS_def, EAtX_def, wantedA, acall, astep, ev, ofValue, ofAtom, Nat.reduceEqDiff, Nat.reduceAdd, Nat.reduceMul, Nat.reduceSub, reduceCtorEq, reduceIte, aoptEv, abin, aint, ashift, aun, astr, aeqGuard, isConstOp, aconvH, aofStr, aconvSame, isU8, abuildSlice, afill, splice, azeros, Nat.reduceLeDiff, Nat.reduceLT, Int.reduceLE, Int.reduceLT, Int.reduceEq, Int.reduceToNat, Int.reducePow, IntKind.bits, Int.reduceNeg, RB, aalloc, Go.PW.dig_length, tf119WdK, k0, k1, k2, k7, k8, k16, k17, k18, hget_set lu, hgv, hne, hgd, hsd, u64_wrap])
        | (simp (disch := first | omega | (simp only [RO]; done) | assumption) only [RS, six44, gix44])
        | (simp (disch := (first | omega | (simp only [RO]; done) | assumption | (simp only [RM, Go.PW.dig_length]; done) | (simp only [RL, Go.PW.dig_length]; omega))) only [RD, reduceCtorEq, reduceIte, Go.PW.dig_length, Nat.reduceLeDiff, Nat.reduceAdd, Nat.reduceMul, Int.reduceToNat, tf119WdK, k0, k1, k2, k7, k8, k16, k17, k18, hget_set lu, hgv, hne, hgd, hsd, u64_wrap])
      obtain ⟨t1, t2, t3, t4⟩ := hst
      have n0 := Int.emod_nonneg (zs.getD i 0 - (q * ws.getD i 0 % Bs + c + 0) % Bs - b) (b := Bs) (by decide)
      have n1 := Int.emod_lt_of_pos (zs.getD i 0 - (q * ws.getD i 0 % Bs + c + 0) % Bs - b) (b := Bs) (by decide)
      refine ⟨m - (i + 1), by omega, i + 1, _, _, _, rfl, by omega, rfl, by rw [t1], by rw [wrap_i64_id (by omega) (by omega)]; rfl, by rw [List.length_set]; exact hzl, hzs.set i ⟨n0, n1⟩, t3, t4, by split <;> omega, by split <;> omega, ?_, ?_, by rw [set_twice]⟩
      · intro j hj
        rw [getD_set _ _ (by omega), if_neg (by omega)]
        exact hz j (by omega)
      · rw [val_set _ (by omega), val_take_succ _ (by omega), Int.pow_succ]
        exact take_val t2 hval
    · obtain rfl : i = m := by omega
      repeat' first
        | (with_reducible first | refine AWp_seq_k (fun K hK => ?_) | refine AWp_exit ?_ | refine AWp_regionE ?_ | refine AWp_condI ?_)
        | (with_reducible refine AIte (fun hc => ?_) (fun hc => ?_) <;> (try simp only [RC] at hc) <;> (try (exfalso; first | omega | contradiction)))
        | (simp only [thenA, inBlockA, reduceIte, Nat.reduceEqDiff])
        | ((with_reducible refine hK _ _ ?_); clear hK)
        | (simp only [ACond, RA, EAtS_def, EAtX_def, wantedA, acall, astep, ev, ofValue, ofAtom, Nat.reduceEqDiff, Nat.reduceAdd, Nat.reduceMul, Nat.reduceSub, reduceCtorEq, reduceIte, aoptEv, abin, aint, ashift, aun, astr, aeqGuard, isConstOp, aconvH, aofStr, aconvSame, isU8, abuildSlice, afill, splice, azeros, Nat.reduceLeDiff, Nat.reduceLT, Int.reduceLE, Int.reduceLT, Int.reduceEq, Int.reduceToNat, Int.reducePow, IntKind.bits, Int.reduceNeg, RB, aalloc, Go.PW.dig_length, tf119WdK, k0, k1, k2, k7, k8, k16, k17, k18])
      exact ⟨zs, c, b, rfl, rfl, hzl, hzs, c0, c1, b0, b1, hz _ (Nat.le_refl _), by rw [hVe]; exact hval, rfl⟩
  clear hK2
  obtain ⟨zs, c, b, k0, k1, k2, k7, k8, hzl, hzs, c0, c1, b0, b1, hzm, hval, rfl⟩ := h
  have hu' := hzs.get m
  have hgd := getD_mid pre zs post m (by omega)
  have hsd : ∀ x, (pre ++ zs ++ post).set (pre.length + m) x = pre ++ zs.set m x ++ post := fun x => set_mid pre zs post m x (by omega)
  have lpos : pre.length + m < (pre ++ zs ++ post).length := by simp only [List.length_append]; omega
  have hsub := sub_step hu' ⟨c0, c1⟩ ⟨b0, b1⟩
  refine AWp_seq_k (fun K hQ => ?_)
  repeat' first
    | (with_reducible first | refine AWp_regionE ?_)
    | ((with_reducible refine ECall_introX (sub64 _ _ _ _ hu'.1 ⟨c0, c1⟩ ⟨b0, b1⟩) ?_); rintro _ _ ⟨rfl, rfl⟩)
    | (simp only [thenA, inBlockA, reduceIte, Nat.reduceEqDiff])
    | (simp only [ACond, RA, EAtS_def, EAtX_def, wantedA, acall, astep, ev, ofValue, ofAtom, Nat.reduceEqDiff, Nat.reduceAdd, Nat.reduceMul, Nat.reduceSub, reduceCtorEq, reduceIte, aoptEv, abin, aint, ashift, aun, astr, aeqGuard, isConstOp, aconvH, aofStr, aconvSame, isU8, abuildSlice, afill, splice, azeros, Nat.reduceLeDiff, Nat.reduceLT, Int.reduceLE, Int.reduceLT, Int.reduceEq, Int.reduceToNat, Int.reducePow, IntKind.bits, Int.reduceNeg, RB, aalloc, Go.PW.dig_length, tf119WdK, k0, k1, k2, k7, k8, hget_set lu, hgv, hne, hgd, hsd, u64_wrap])
    | (simp (disch := first | omega | (simp only [RO]; done) | assumption) only [RS, six44, gix44])
    | (simp (disch := (first | omega | (simp only [RO]; done) | assumption | (simp only [RM, Go.PW.dig_length]; done) | (simp only [RL, Go.PW.dig_length]; omega))) only [RD, reduceCtorEq, reduceIte, Go.PW.dig_length, Nat.reduceLeDiff, Nat.reduceAdd, Nat.reduceMul, Int.reduceToNat, tf119WdK, k0, k1, k2, k7, k8, hget_set lu, hgv, hne, hgd, hsd, u64_wrap])
  refine hQ _ _ ?_
  clear hQ
  have n0 := Int.emod_nonneg (zs.getD m 0 - c - b) (b := Bs) (by decide)
  have n1 := Int.emod_lt_of_pos (zs.getD m 0 - c - b) (b := Bs) (by decide)
  have hzl' : (zs.set m ((zs.getD m 0 - c - b) % Bs)).length = m + 1 := by rw [List.length_set]; exact hzl
  have hzs' := hzs.set m ⟨n0, n1⟩
  have hval' : val (zs.set m ((zs.getD m 0 - c - b) % Bs)) + q * V = val w + Bs ^ m * Bs * (if zs.getD m 0 < c + b then 1 else 0) := by
    rw [val_set _ (by omega)]
    exact take_last hsub hval
  generalize zs.set m ((zs.getD m 0 - c - b) % Bs) = ys at *
  have hyb := val_bound hzs'
  rw [hzl', Int.pow_succ] at hyb
  have hVB := val_bound (hws.take m)
  rw [← hVe, htl] at hVB
  have hVP : V ≤ Bs ^ m * Bs := by
    have := Int.mul_le_mul_of_nonneg_left (show 1 ≤ Bs by decide) (Int.le_of_lt (Bs_pow_pos m))
    omega
  by_cases hb : zs.getD m 0 < c + b
  · rw [if_pos hb, Int.mul_one] at hval'
    refine AWp_seq_k (fun K hQ => ?_)
    repeat' first
      | (with_reducible first | refine AWp_seq_k (fun K hK => ?_) | refine AWp_skip ?_ | refine AWp_regionE ?_ | refine AWp_condI ?_)
      | (simp only [thenA, inBlockA, reduceIte, Nat.reduceEqDiff])
      | ((with_reducible refine hK _ _ ?_); clear hK)
      | (simp only [ACond, RA, EAtS_def, EAtX_def, wantedA, acall, astep, ev, ofValue, ofAtom, Nat.reduceEqDiff, Nat.reduceAdd, Nat.reduceMul, Nat.reduceSub, reduceCtorEq, reduceIte, aoptEv, abin, aint, ashift, aun, astr, aeqGuard, isConstOp, aconvH, aofStr, aconvSame, isU8, abuildSlice, afill, splice, azeros, Nat.reduceLeDiff, Nat.reduceLT, Int.reduceLE, Int.reduceLT, Int.reduceEq, Int.reduceToNat, Int.reducePow, IntKind.bits, Int.reduceNeg, RB, aalloc, Go.PW.dig_length, tf119WdK, k0, k1, k2, hb])
    refine hQ _ _ ?_
    clear hQ
    refine AWp_seq_k (fun K hQ => ?_)
    repeat' first
      | (with_reducible first | refine AWp_seq_k (fun K hK => ?_) | refine AWp_skip ?_ | refine AWp_regionE ?_ | refine AWp_condI ?_)
      | (simp only [thenA, inBlockA, reduceIte, Nat.reduceEqDiff])
      | ((with_reducible refine hK _ _ ?_); clear hK)
      | (simp only [ACond, RA, EAtS_def, EAtX_def, wantedA, acall, astep, ev, ofValue, ofAtom, Nat.reduceEqDiff, Nat.reduceAdd, Nat.reduceMul, Nat.reduceSub, reduceCtorEq, reduceIte, aoptEv, abin, aint, ashift, aun, astr, aeqGuard, isConstOp, aconvH, aofStr, aconvSame, isU8, abuildSlice, afill, splice, azeros, Nat.reduceLeDiff, Nat.reduceLT, Int.reduceLE, Int.reduceLT, Int.reduceEq, Int.reduceToNat, Int.reducePow, IntKind.bits, Int.reduceNeg, RB, aalloc, Go.PW.dig_length, tf119WdK, k0, k1, k2, hb])
    refine hQ _ _ ?_
    clear hQ
    refine AWp_seq_k (fun K2 hK2 => ?_)
    refine AWp_cut (fun fr' H1 => ∃ (zs : List Int) (c : Int), fr' 0 = .sl hu pre.length (m + 1) cu ∧ fr' 1 = .sl hv 0 m cv ∧ fr' 2 = .int .u64 q ∧ fr' 8 = .int .u64 c ∧ zs.length = m + 1 ∧ Limbs zs ∧ 0 ≤ c ∧ c ≤ 1 ∧ val zs + Bs ^ m * c = val ys + V ∧ H.set hu (Bk (pre ++ zs ++ post) eu) = H1) ?_ (fun fr' H1 h => hK2 _ _ ?_)
    · clear hK2
      repeat' first
        | (with_reducible first | refine AWp_seq_k (fun K hK => ?_) | refine AWp_block ?_ | refine AWp_regionE ?_)
        | (simp only [thenA, inBlockA, reduceIte, Nat.reduceEqDiff])
        | ((with_reducible refine hK _ _ ?_); clear hK)
        | (simp only [ACond, RA, EAtS_def, EAtX_def, wantedA, acall, astep, ev, ofValue, ofAtom, Nat.reduceEqDiff, Nat.reduceAdd, Nat.reduceMul, Nat.reduceSub, reduceCtorEq, reduceIte, aoptEv, abin, aint, ashift, aun, astr, aeqGuard, isConstOp, aconvH, aofStr, aconvSame, isU8, abuildSlice, afill, splice, azeros, Nat.reduceLeDiff, Nat.reduceLT, Int.reduceLE, Int.reduceLT, Int.reduceEq, Int.reduceToNat, Int.reducePow, IntKind.bits, Int.reduceNeg, RB, aalloc, Go.PW.dig_length, tf119WdK, k0, k1, k2])
      refine AWp_loop (fun k fr' H1 => ∃ (i : Nat) (zs : List Int) (c : Int), k = m - i ∧ i ≤ m ∧ fr' 0 = .sl hu pre.length (m + 1) cu ∧ fr' 1 = .sl hv 0 m cv ∧ fr' 2 = .int .u64 q ∧ fr' 8 = .int .u64 c ∧ fr' 70 = .sl hv 0 m cv ∧ fr' 71 = .int .i64 (m : Int) ∧ fr' 72 = .int .i64 (i : Int) ∧ zs.length = m + 1 ∧ Limbs zs ∧ 0 ≤ c ∧ c ≤ 1 ∧ val zs + Bs ^ i * c = val ys + val (ws.take i) ∧ H.set hu (Bk (pre ++ zs ++ post) eu) = H1) (m := m)
        ⟨0, ys, 0, by omega, by omega, k0, k1, k2, rfl, rfl, rfl, rfl, hzl', hzs', by decide, by decide, by simp [val], by rw [set_twice]⟩ ?_
      clear k0 k1 k2 k7 k8 hval hgd hsd lpos hsub
      rintro k fr' H1 ⟨i, zs, c, rfl, hi, k0, k1, k2, k8, k70, k71, k72, hzl, hzs, c0, c1, hval, rfl⟩
      by_cases hlt : i < m
      · have hx := hws.get i
        have hu' := hzs.get i
        have hgd := getD_mid pre zs post i (by omega)
        have hsd : ∀ x, (pre ++ zs ++ post).set (pre.length + i) x = pre ++ zs.set i x ++ post := fun x => set_mid pre zs post i x (by omega)
        have lpos : pre.length + i < (pre ++ zs ++ post).length := by simp only [List.length_append]; omega
        obtain ⟨s1, s2, s3⟩ := sum_step hu' hx ⟨c0, c1⟩
        repeat' first
          | (with_reducible first | refine AWp_seq_k (fun K hK => ?_) | refine AWp_block ?_ | refine AWp_skip ?_ | refine AWp_regionE ?_ | refine AWp_condI ?_)
          | ((with_reducible refine ECall_introX (add64 _ _ _ _ hu'.1 hx.1 ⟨c0, c1⟩) ?_); rintro _ _ ⟨rfl, rfl⟩)
          | (with_reducible refine AIte (fun hc => ?_) (fun hc => ?_) <;> (try simp only [RC] at hc) <;> (try (exfalso; first | omega | contradiction)))
          | (simp only [thenA, inBlockA, reduceIte, Nat.reduceEqDiff])
          | ((with_reducible refine hK _ _ ?_); clear hK)
          | (simp only [ACond, RA, EAtS_def, EAtX_def, wantedA, acall, astep, ev, ofValue, ofAtom, Nat.reduceEqDiff, Nat.reduceAdd, Nat.reduceMul, Nat.reduceSub, reduceCtorEq, reduceIte, aoptEv, abin, aint, ashift, aun, astr, aeqGuard, isConstOp, aconvH, aofStr, aconvSame, isU8, abuildSlice, afill, splice, azeros, Nat.reduceLeDiff, Nat.reduceLT, Int.reduceLE, Int.reduceLT, Int.reduceEq, Int.reduceToNat, Int.reducePow, IntKind.bits, Int.reduceNeg, RB, aalloc, Go.PW.dig_length, tf119WdK, k0, k1, k2, k8, k70, k71, k72, hget_set lu, hgv, hne, hgd, hsd, u64_wrap])
          | (simp (disch := first | omega | (simp only [RO]; done) | assumption) only [RS, six44, gix44])
          | (simp (disch := (first | omega | (simp only [RO]; done) | assumption | (simp only [RM, Go.PW.dig_length]; done) | (simp only [RL, Go.PW.dig_length]; omega))) only [RD, reduceCtorEq, reduceIte, Go.PW.dig_length, Nat.reduceLeDiff, Nat.reduceAdd, Nat.reduceMul, Int.reduceToNat, tf119WdK, k0, k1, k2, k8, k70, k71, k72, hget_set lu, hgv, hne, hgd, hsd, u64_wrap])
        have n0 := Int.emod_nonneg (zs.getD i 0 + ws.getD i 0 + c) (b := Bs) (by decide)
        have n1 := Int.emod_lt_of_pos (zs.getD i 0 + ws.getD i 0 + c) (b := Bs) (by decide)
        refine ⟨m - (i + 1), by omega, i + 1, _, _, rfl, by omega, rfl, by rw [wrap_i64_id (by omega) (by omega)]; rfl, by rw [List.length_set]; exact hzl, hzs.set i ⟨n0, n1⟩, s2, s3, ?_, by rw [set_twice]⟩
        rw [val_set _ (by omega), val_take_succ _ (by omega), Int.pow_succ]
        exact back_val s1 hval
      · obtain rfl : i = m := by omega
        repeat' first
          | (with_reducible first | refine AWp_seq_k (fun K hK => ?_) | refine AWp_exit ?_ | refine AWp_regionE ?_ | refine AWp_condI ?_)
          | (with_reducible refine AIte (fun hc => ?_) (fun hc => ?_) <;> (try simp only [RC] at hc) <;> (try (exfalso; first | omega | contradiction)))
          | (simp only [thenA, inBlockA, reduceIte, Nat.reduceEqDiff])
          | ((with_reducible refine hK _ _ ?_); clear hK)
          | (simp only [ACond, RA, EAtS_def, EAtX_def, wantedA, acall, astep, ev, ofValue, ofAtom, Nat.reduceEqDiff, Nat.reduceAdd, Nat.reduceMul, Nat.reduceSub, reduceCtorEq, reduceIte, aoptEv, abin, aint, ashift, aun, astr, aeqGuard, isConstOp, aconvH, aofStr, aconvSame, isU8, abuildSlice, afill, splice, azeros, Nat.reduceLeDiff, Nat.reduceLT, Int.reduceLE, Int.reduceLT, Int.reduceEq, Int.reduceToNat, Int.reducePow, IntKind.bits, Int.reduceNeg, RB, aalloc, Go.PW.dig_length, tf119WdK, k0, k1, k2, k8, k70, k71, k72])
        exact ⟨zs, c, rfl, hzl, hzs, c0, c1, by rw [hVe]; exact hval, rfl⟩
    clear hK2 k0 k1 k2 k7 k8 hval hgd hsd lpos hsub
    obtain ⟨zs, c, k0, k1, k2, k8, hzl, hzs, c0, c1, hval, rfl⟩ := h
    have hu' := hzs.get m
    have hgd := getD_mid pre zs post m (by omega)
    have hsd : ∀ x, (pre ++ zs ++ post).set (pre.length + m) x = pre ++ zs.set m x ++ post := fun x => set_mid pre zs post m x (by omega)
    have lpos : pre.length + m < (pre ++ zs ++ post).length := by simp only [List.length_append]; omega
    obtain ⟨s1, s2, s3⟩ := sum_step hu' (y := 0) (by decide) ⟨c0, c1⟩
    rw [Int.add_zero] at s1
    have n0 := Int.emod_nonneg (zs.getD m 0 + c) (b := Bs) (by decide)
    have n1 := Int.emod_lt_of_pos (zs.getD m 0 + c) (b := Bs) (by decide)
    have hfz := hzs.set m ⟨n0, n1⟩
    have hfl : (zs.set m ((zs.getD m 0 + c) % Bs)).length = m + 1 := by rw [List.length_set]; exact hzl
    have hfv : val (zs.set m ((zs.getD m 0 + c) % Bs)) = val ys + V - Bs ^ m * Bs * ((zs.getD m 0 + c) / Bs) := by
      rw [val_set _ (by omega)]
      exact back_last s1 hval
    have hfb := val_bound hfz
    rw [hfl, Int.pow_succ] at hfb
    obtain ⟨r1, r2⟩ := take_over hV hVP hyb.2 hfb hval' hq2 hfv
    have hq1' : 0 < q := by
      have := Int.ediv_nonneg (val_bound hw).1 (Int.le_of_lt hV)
      omega
    have hwq : IntKind.u64.wrap (q - 1) = q - 1 := u64_in (by omega) (by omega)
    repeat' first
      | (with_reducible first | refine AWp_seq_k (fun K hK => ?_) | refine AWp_ret ?_ | refine AWp_regionE ?_)
      | (simp only [thenA, inBlockA, reduceIte, Nat.reduceEqDiff])
      | ((with_reducible refine hK _ _ ?_); clear hK)
      | (simp only [ACond, RA, EAtS_def, EAtX_def, wantedA, acall, astep, ev, ofValue, ofAtom, Nat.reduceEqDiff, Nat.reduceAdd, Nat.reduceMul, Nat.reduceSub, reduceCtorEq, reduceIte, aoptEv, abin, aint, ashift, aun, astr, aeqGuard, isConstOp, aconvH, aofStr, aconvSame, isU8, abuildSlice, afill, splice, azeros, Nat.reduceLeDiff, Nat.reduceLT, Int.reduceLE, Int.reduceLT, Int.reduceEq, Int.reduceToNat, Int.reducePow, IntKind.bits, Int.reduceNeg, RB, aalloc, Go.PW.dig_length, tf119WdK, k0, k1, k2, k8, hget_set lu, hgv, hne, hgd, hsd, u64_wrap])
      | (simp (disch := first | omega | (simp only [RO]; done) | assumption) only [RS, six44, gix44])
      | (simp (disch := (first | omega | (simp only [RO]; done) | assumption | (simp only [RM, Go.PW.dig_length]; done) | (simp only [RL, Go.PW.dig_length]; omega))) only [RD, reduceCtorEq, reduceIte, Go.PW.dig_length, Nat.reduceLeDiff, Nat.reduceAdd, Nat.reduceMul, Int.reduceToNat, tf119WdK, k0, k1, k2, k8, hget_set lu, hgv, hne, hgd, hsd, u64_wrap])
    (
     (refine AEnd_gen (rs := [.tmp 6]) rfl ?_)
     (simp only [AEndR, aresults, Fr.put_some, Fr.put_none, fr0_zero, fr0_succ, fr0_nil, Nat.reduceEqDiff, reduceIte])
     (try simp (disch := (first | omega | (simp only [RO]; done) | assumption | (simp only [RM, Go.PW.dig_length]; done) | (simp only [RL, Go.PW.dig_length]; omega))) only [RD, reduceCtorEq, reduceIte, Go.PW.dig_length, Nat.reduceLeDiff, Nat.reduceAdd, Nat.reduceMul, Int.reduceToNat, tf119WdK]))
    rw [Int.emod_eq_of_lt (show 0 ≤ q - 1 by omega) (show q - 1 < Bs by omega), r1, set_twice, ← dig_of_val (n := m + 1) hfz hfl (x := val w % V) (by rw [← r2, Int.pow_succ, Int.emod_eq_of_lt hfb.1 hfb.2])]
    exact ⟨rfl, rfl⟩
  · rw [if_neg hb, Int.mul_zero, Int.add_zero] at hval'
    obtain ⟨r1, r2⟩ := take_right hV hyb.1 hval' hq1
    repeat' first
      | (with_reducible first | refine AWp_seq_k (fun K hK => ?_) | refine AWp_ret ?_ | refine AWp_regionE ?_ | refine AWp_condI ?_)
      | (simp only [thenA, inBlockA, reduceIte, Nat.reduceEqDiff])
      | ((with_reducible refine hK _ _ ?_); clear hK)
      | (simp only [ACond, RA, EAtS_def, EAtX_def, wantedA, acall, astep, ev, ofValue, ofAtom, Nat.reduceEqDiff, Nat.reduceAdd, Nat.reduceMul, Nat.reduceSub, reduceCtorEq, reduceIte, aoptEv, abin, aint, ashift, aun, astr, aeqGuard, isConstOp, aconvH, aofStr, aconvSame, isU8, abuildSlice, afill, splice, azeros, Nat.reduceLeDiff, Nat.reduceLT, Int.reduceLE, Int.reduceLT, Int.reduceEq, Int.reduceToNat, Int.reducePow, IntKind.bits, Int.reduceNeg, RB, aalloc, Go.PW.dig_length, tf119WdK, k0, k1, k2, hb])
    (
     (refine AEnd_gen (rs := [.tmp 6]) rfl ?_)
     (simp only [AEndR, aresults, Fr.put_some, Fr.put_none, fr0_zero, fr0_succ, fr0_nil, Nat.reduceEqDiff, reduceIte])
     (try simp (disch := (first | omega | (simp only [RO]; done) | assumption | (simp only [RM, Go.PW.dig_length]; done) | (simp only [RL, Go.PW.dig_length]; omega))) only [RD, reduceCtorEq, reduceIte, Go.PW.dig_length, Nat.reduceLeDiff, Nat.reduceAdd, Nat.reduceMul, Int.reduceToNat, tf119WdK]))
    rw [r1, ← dig_of_val (n := m + 1) hzs' hzl' (x := val w % V) (by rw [← r2, Int.pow_succ, Int.emod_eq_of_lt hyb.1 hyb.2]), set_twice]
    exact ⟨rfl, rfl⟩
end Go.Proofs.YtfalfmfkifemeaaGreatDoor
set_option linter.unusedVariables false
set_option linter.unusedSimpArgs false
namespace Go.Proofs.YtfalfmfkifemeaaGreatDoor
open Go.AL Go.PW
theorem tf117WdL : type_of% (And.intro @tyb3 (And.intro @tyb31 (And.intro @tyb32 (@tyb33)))) := And.intro @tyb3 (And.intro @tyb31 (And.intro @tyb32 (@tyb33)))
set_option maxRecDepth 8000
theorem dig_small {r : Int} (h0 : 0 ≤ r) (h1 : r < Bs) : dig 16 r = (dig 16 0).set 0 r := by
  refine (dig_of_val ((dig_limbs 16 0).set 0 ⟨h0, h1⟩) (by rw [List.length_set, dig_length]) ?_).symm
  rw [val_set _ (by rw [dig_length]; decide), val_dig]
  have : (dig 16 0).getD 0 0 = 0 := getD_dig0 16 0
  rw [this]
  have h2 : Bs ≤ Bs ^ 16 := by decide
  rw [Int.emod_eq_of_lt h0 (by omega)]
  simp
theorem build_one {r : Int} (h0 : 0 ≤ r) (h1 : r < Bs) : abuild Tryz.prog 33 [(0, .int .u64 r)] = some (W r) := by
  have hs : splice ((dig 16 0).map (AV.int .u64)) 0 [.int .u64 r] = (dig 16 r).map (AV.int .u64) := by
    rw [splice_int (by rw [dig_length]; decide), ← dig_small h0 h1]
  simp only [abuild, zero33, aplace, und33, size31, Option.map_some, AV.cells_agg, afill, AV.solid_int, AV.cells_int, List.length_singleton, true_and, Nat.zero_mul, Nat.zero_add, map_len, dig_length]
  rw [if_pos (by decide), hs]
  rfl
theorem short_calls (X v : Int) (H : Hp) (hX : 0 ≤ X ∧ X < M) (hv : 0 < v ∧ v < Bs) : ACalls Tryz.prog 117 [W X, .int .u64 v] H fun r H' => r = .tup [W (X / v), W (X % v)] ∧ H = H' := by
  refine ACalls.drop (R := fun r => r = .tup [W (X / v), W (X % v)]) ?_
  refine ACalls_body Tryz.func117 rfl (by kernel_rfl) (by kernel_rfl) ?_
  repeat' first
    | (with_reducible first | refine AWp_seq_k (fun K hK => ?_) | refine AWp_block ?_ | refine AWp_regionE ?_)
    | (simp only [thenA, inBlockA, reduceIte, Nat.reduceEqDiff])
    | ((with_reducible refine hK _ _ ?_); clear hK)
    | (simp only [ACond, RA, EAtS_def, EAtX_def, wantedA, acall, astep, ev, ofValue, ofAtom, Nat.reduceEqDiff, Nat.reduceAdd, Nat.reduceMul, Nat.reduceSub, reduceCtorEq, reduceIte, aoptEv, abin, aint, ashift, aun, astr, aeqGuard, isConstOp, aconvH, aofStr, aconvSame, isU8, abuildSlice, afill, splice, azeros, Nat.reduceLeDiff, Nat.reduceLT, Int.reduceLE, Int.reduceLT, Int.reduceEq, Int.reduceToNat, Int.reducePow, IntKind.bits, Int.reduceNeg, RB, aalloc, Go.PW.dig_length, tf117WdL])
  refine AWp_loop (fun c fr' H' => ∃ (k : Nat) (ys : List Int) (r : Int), c = k ∧ k ≤ 16 ∧ fr' 1 = .int .u64 v ∧ fr' 2 = .ptr H.length 0 ∧ fr' 4 = .ptr (H.length + 1) 0 ∧ fr' 5 = .ptr (H.length + 1 + 1) 0 ∧ fr' 6 = .int .u64 r ∧ fr' 7 = .int .i64 ((k : Int) - 1) ∧ ys.length = 16 ∧ Limbs ys ∧ 0 ≤ r ∧ r < v ∧ (∀ j, j < k → ys.getD j 0 = (dig 16 X).getD j 0) ∧ val (ys.drop k) * v + r = val ((dig 16 X).drop k) ∧ H ++ [Bk ys 33] ++ [Wb 0] ++ [Wb 0] = H') (m := 16)
    ⟨16, dig 16 X, 0, rfl, by omega, rfl, rfl, rfl, rfl, rfl, rfl, dig_length _ _, dig_limbs _ _, by decide, by omega, fun _ _ => rfl, by simp [List.drop_of_length_le, dig_length, val], rfl⟩ ?_
  rintro c fr' H' ⟨k, ys, r, rfl, hk, k1, k2, k4, k5, k6, k7, hyl, hys, r0, r1, hlow, hval, rfl⟩
  by_cases h0 : 0 < c
  · obtain ⟨i, rfl⟩ : ∃ i, c = i + 1 := ⟨c - 1, by omega⟩
    have hyi := hys.get i
    have e1 : (((i + 1 : Nat) : Int) - 1) = i := by omega
    have e2 : IntKind.i64.wrap ((i : Int) - 1) = (i : Int) - 1 := wrap_i64_id (by omega) (by omega)
    rw [e1] at k7
    have hdb : 0 ≤ r * Bs + ys.getD i 0 := by simp only [Bs]; omega
    have hd0 : 0 ≤ (r * Bs + ys.getD i 0) / v := Int.ediv_nonneg hdb (by omega)
    have hd1 : (r * Bs + ys.getD i 0) / v < Bs := by
      rw [Int.ediv_lt_iff_lt_mul hv.1]
      simp only [Bs] at *
      omega
    repeat' first
      | (with_reducible first | refine AWp_seq_k (fun K hK => ?_) | refine AWp_block ?_ | refine AWp_skip ?_ | refine AWp_regionE ?_ | refine AWp_condI ?_)
      | ((with_reducible refine ECall_intro (div64_calls _ _ _ _ r0 r1 hyi hv.2) ?_); rintro _ _ ⟨rfl, rfl⟩)
      | (with_reducible refine AIte (fun hc => ?_) (fun hc => ?_) <;> (try simp only [RC] at hc) <;> (try (exfalso; first | omega | contradiction)))
      | (simp only [thenA, inBlockA, reduceIte, Nat.reduceEqDiff])
      | ((with_reducible refine hK _ _ ?_); clear hK)
      | (simp only [ACond, RA, EAtS_def, EAtX_def, wantedA, acall, astep, ev, ofValue, ofAtom, Nat.reduceEqDiff, Nat.reduceAdd, Nat.reduceMul, Nat.reduceSub, reduceCtorEq, reduceIte, aoptEv, abin, aint, ashift, aun, astr, aeqGuard, isConstOp, aconvH, aofStr, aconvSame, isU8, abuildSlice, afill, splice, azeros, Nat.reduceLeDiff, Nat.reduceLT, Int.reduceLE, Int.reduceLT, Int.reduceEq, Int.reduceToNat, Int.reducePow, IntKind.bits, Int.reduceNeg, RB, aalloc, Go.PW.dig_length, tf117WdL, k1, k2, k4, k5, k6, k7, e2, hyl])
      | (simp (disch := first | omega | (simp only [RO]; done) | assumption) only [RS, idx32, slh32, idx33, slh33])
      | (simp (disch := (first | omega | (simp only [RO]; done) | assumption | (simp only [RM, Go.PW.dig_length]; done) | (simp only [RL, Go.PW.dig_length]; omega))) only [RD, reduceCtorEq, reduceIte, Go.PW.dig_length, Nat.reduceLeDiff, Nat.reduceAdd, Nat.reduceMul, Int.reduceToNat, tf117WdL, k1, k2, k4, k5, k6, k7, e2, hyl])
    refine ⟨i, by omega, i, ys.set i ((r * Bs + ys.getD i 0) / v), _, rfl, by omega, rfl, rfl, by rw [List.length_set]; exact hyl, hys.set i ⟨hd0, hd1⟩, Int.emod_nonneg _ (by omega), Int.emod_lt_of_pos _ hv.1, ?_, ?_, rfl⟩
    · intro j hj
      rw [getD_set _ _ (by omega), if_neg (by omega)]
      exact hlow j (by omega)
    · rw [val_drop_succ _ (by rw [List.length_set]; omega), getD_set _ _ (by omega), if_pos rfl, List.drop_set_of_lt (by omega), val_drop_succ (dig 16 X) (by rw [dig_length]; omega), ← hval, ← hlow i (by omega)]
      have hm := Int.emod_add_mul_ediv (r * Bs + ys.getD i 0) v
      generalize (r * Bs + ys.getD i 0) / v = q at *
      generalize (r * Bs + ys.getD i 0) % v = z at *
      generalize val (ys.drop (i + 1)) = d at *
      generalize ys.getD i 0 = y at *
      rw [Int.add_mul, Int.mul_comm q v, Int.mul_add, Int.mul_assoc]
      simp only [Bs] at *
      omega
  · obtain rfl : c = 0 := by omega
    rw [List.drop_zero, List.drop_zero, val_M, Int.emod_eq_of_lt hX.1 hX.2] at hval
    have hq : val ys = X / v := by
      have := ediv_eq (a := X) (b := v) (q := val ys) hv.1 (by omega) (by rw [Int.add_mul]; omega)
      exact this.symm
    have hr : r = X % v := by
      have := Int.emod_add_mul_ediv X v
      rw [← hq, Int.mul_comm] at this
      omega
    have hyd : ys = dig 16 (X / v) := dig_of_val hys hyl (by rw [← hq, Int.emod_eq_of_lt (val_bound hys).1 (by have := (val_bound hys).2; rwa [hyl] at this)])
    have hb1 := build_one r0 (show r < Bs by omega)
    repeat' first
      | (with_reducible first | refine AWp_seq_k (fun K hK => ?_) | refine AWp_exit ?_ | refine AWp_ret ?_ | refine AWp_regionE ?_ | refine AWp_condI ?_)
      | (with_reducible refine AIte (fun hc => ?_) (fun hc => ?_) <;> (try simp only [RC] at hc) <;> (try (exfalso; first | omega | contradiction)))
      | (simp only [thenA, inBlockA, reduceIte, Nat.reduceEqDiff])
      | ((with_reducible refine hK _ _ ?_); clear hK)
      | (clear hK; (with_reducible refine hK _ _ ?_); clear hK)
      | (simp only [ACond, RA, EAtS_def, EAtX_def, wantedA, acall, astep, ev, ofValue, ofAtom, Nat.reduceEqDiff, Nat.reduceAdd, Nat.reduceMul, Nat.reduceSub, reduceCtorEq, reduceIte, aoptEv, abin, aint, ashift, aun, astr, aeqGuard, isConstOp, aconvH, aofStr, aconvSame, isU8, abuildSlice, afill, splice, azeros, Nat.reduceLeDiff, Nat.reduceLT, Int.reduceLE, Int.reduceLT, Int.reduceEq, Int.reduceToNat, Int.reducePow, IntKind.bits, Int.reduceNeg, RB, aalloc, Go.PW.dig_length, tf117WdL, k1, k2, k4, k5, k6, k7, hb1, hyl])
      | (simp (disch := (first | omega | (simp only [RO]; done) | assumption | (simp only [RM, Go.PW.dig_length]; done) | (simp only [RL, Go.PW.dig_length]; omega))) only [RD, reduceCtorEq, reduceIte, Go.PW.dig_length, Nat.reduceLeDiff, Nat.reduceAdd, Nat.reduceMul, Int.reduceToNat, tf117WdL, k1, k2, k4, k5, k6, k7, hb1, hyl])
    (
     (refine AEnd_gen (rs := [.cell 4 33, .cell 5 33]) rfl ?_)
     (simp only [AEndR, aresults, Fr.put_some, Fr.put_none, fr0_zero, fr0_succ, fr0_nil, Nat.reduceEqDiff, reduceIte, k4, k5])
     (try simp (disch := (first | omega | (simp only [RO]; done) | assumption | (simp only [RM, Go.PW.dig_length]; done) | (simp only [RL, Go.PW.dig_length]; omega))) only [RD, reduceCtorEq, reduceIte, Go.PW.dig_length, Nat.reduceLeDiff, Nat.reduceAdd, Nat.reduceMul, Int.reduceToNat, tf117WdL, k4, k5]))
    rw [hyd, hr]
    exact ⟨ext5 _ _ _, W_tup_lt _ _ (W_lt _ _), rfl⟩
theorem sl_both {P : Program} {t e : TypeId} {h o n c a b : Nat} {l k : IntKind} (hu : P.underlying t = some (.slice e)) (hz : sizeT P e = some 1) (ha : a ≤ b) (hb : b ≤ c) (hlt : a < c) : aslice P t (.sl h o n c) (some (.int l (a : Int))) (some (.int k (b : Int))) none = some (.sl h (o + a) (b - a) (c - a)) := by
  have hne : c ≠ a := by omega
  simp [aslice, hu, hz, abounds, abound, ha, hb, hne]
theorem sl_hi {P : Program} {t e : TypeId} {h o n c b z : Nat} {k : IntKind} (hu : P.underlying t = some (.slice e)) (hz : sizeT P e = some z) (hb : b ≤ c) : aslice P t (.sl h o n c) none (some (.int k (b : Int))) none = some (.sl h o b c) := by
  simp [aslice, hu, hz, abounds, abound, hb]
/-- How far a divisor is moved: it still has as many limbs. -/
theorem lz_fits {Y : Int} {m s : Nat} {ys : List Int} (hys : Limbs ys) (hm : m = cnt ys) (hm0 : 0 < m) (hY : val ys = Y) (hs : s = 64 - bl (ys.getD (m - 1) 0).toNat) : Y * 2 ^ s < Bs ^ m ∧ s < 64 := by
  have hl := cnt_le ys
  have ht := cnt_top ys (by omega)
  rw [← hm] at ht
  have hg := hys.get (m - 1)
  have h1 := val_take_succ ys (i := m - 1) (by omega)
  rw [show m - 1 + 1 = m by omega, val_cnt (by omega), hY] at h1
  have h2 := val_bound (hys.take (m - 1))
  rw [List.length_take, Nat.min_eq_left (by omega)] at h2
  obtain ⟨t, ht'⟩ := Int.eq_ofNat_of_zero_le hg.1
  rw [ht'] at h1 hs ht hg
  rw [Int.toNat_natCast] at hs
  have ht0 : t ≠ 0 := by omega
  have b1 := bl_lt t
  have b3 := bl_pos ht0
  have b4 : bl t ≤ 64 := bl_le (by simp only [Bs] at hg; omega)
  refine ⟨?_, by omega⟩
  have e : (2 : Int) ^ (bl t) * 2 ^ s = Bs := by rw [← Int.pow_add, hs, show bl t + (64 - bl t) = 64 by omega]; decide
  have h3 : ((t : Int) + 1) ≤ 2 ^ bl t := by
    have : ((t + 1 : Nat) : Int) ≤ ((2 ^ bl t : Nat) : Int) := by omega
    simpa using this
  have hp := Bs_pow_pos (m - 1)
  have h4 : Y < Bs ^ (m - 1) * ((t : Int) + 1) := by rw [Int.mul_add]; omega
  have h5 : Bs ^ (m - 1) * ((t : Int) + 1) ≤ Bs ^ (m - 1) * 2 ^ bl t := Int.mul_le_mul_of_nonneg_left h3 (Int.le_of_lt hp)
  have h6 : Y * 2 ^ s < Bs ^ (m - 1) * 2 ^ bl t * 2 ^ s := Int.mul_lt_mul_of_pos_right (by omega) (two_pos s)
  rw [Int.mul_assoc, e, ← Int.pow_succ, show (m - 1).succ = m by omega] at h6
  exact h6
end Go.Proofs.YtfalfmfkifemeaaGreatDoor

/- Part 14 of the proof of laws of this seat: lemmas on the model's code, on this program's functions, on numbers. No condition. -/
import Derived.Test.YtfalfmfkifemeaaDoorZDiaam
set_option linter.unusedVariables false
set_option linter.unusedSimpArgs false
namespace Go.Proofs.YtfalfmfkifemeaaDoor
open Go.AL Go.PW
theorem tf76WdL : type_of% (And.intro @tyb3 (And.intro @tyb34 (And.intro @tyb35 (@tyb36)))) := And.intro @tyb3 (And.intro @tyb34 (And.intro @tyb35 (@tyb36)))
set_option maxRecDepth 8000
theorem dig_small {r : Int} (h0 : 0 ≤ r) (h1 : r < Bs) : dig 16 r = (dig 16 0).set 0 r := by
  refine (dig_of_val ((dig_limbs 16 0).set 0 ⟨h0, h1⟩) (by rw [List.length_set, dig_length]) ?_).symm
  rw [val_set _ (by rw [dig_length]; decide), val_dig]
  have : (dig 16 0).getD 0 0 = 0 := getD_dig0 16 0
  rw [this]
  have h2 : Bs ≤ Bs ^ 16 := by decide
  rw [Int.emod_eq_of_lt h0 (by omega)]
  simp
theorem build_one {r : Int} (h0 : 0 ≤ r) (h1 : r < Bs) : abuild Tryd.prog 36 [(0, .int .u64 r)] = some (W r) := by
  have hs : splice ((dig 16 0).map (AV.int .u64)) 0 [.int .u64 r] = (dig 16 r).map (AV.int .u64) := by
    rw [splice_int (by rw [dig_length]; decide), ← dig_small h0 h1]
  simp only [abuild, zero36, aplace, und36, size34, Option.map_some, AV.cells_agg, afill, AV.solid_int, AV.cells_int, List.length_singleton, true_and, Nat.zero_mul, Nat.zero_add, map_len, dig_length]
  rw [if_pos (by decide), hs]
  rfl
theorem short_calls (X v : Int) (H : Hp) (hX : 0 ≤ X ∧ X < M) (hv : 0 < v ∧ v < Bs) : ACalls Tryd.prog 76 [W X, .int .u64 v] H fun r H' => r = .tup [W (X / v), W (X % v)] ∧ H = H' := by
  refine ACalls.drop (R := fun r => r = .tup [W (X / v), W (X % v)]) ?_
  refine ACalls_body Tryd.func76 rfl (by kernel_rfl) (by kernel_rfl) ?_
  repeat' first
    | (with_reducible first | refine AWp_seq_k (fun K hK => ?_) | refine AWp_block ?_ | refine AWp_regionE ?_)
    | (simp only [thenA, inBlockA, reduceIte, Nat.reduceEqDiff])
    | ((with_reducible refine hK _ _ ?_); clear hK)
    | (simp only [ACond, RA, EAtS_def, EAtX_def, wantedA, acall, astep, ev, ofValue, ofAtom, Nat.reduceEqDiff, Nat.reduceAdd, Nat.reduceMul, Nat.reduceSub, reduceCtorEq, reduceIte, aoptEv, abin, aint, ashift, aun, astr, aeqGuard, isConstOp, aconvH, aofStr, aconvSame, isU8, abuildSlice, afill, splice, azeros, Nat.reduceLeDiff, Nat.reduceLT, Int.reduceLE, Int.reduceLT, Int.reduceEq, Int.reduceToNat, Int.reducePow, IntKind.bits, Int.reduceNeg, RB, aalloc, Go.PW.dig_length, tf76WdL])
  refine AWp_loop (fun c fr' H' => ∃ (k : Nat) (ys : List Int) (r : Int), c = k ∧ k ≤ 16 ∧ fr' 1 = .int .u64 v ∧ fr' 2 = .ptr H.length 0 ∧ fr' 4 = .ptr (H.length + 1) 0 ∧ fr' 5 = .ptr (H.length + 1 + 1) 0 ∧ fr' 6 = .int .u64 r ∧ fr' 7 = .int .i64 ((k : Int) - 1) ∧ ys.length = 16 ∧ Limbs ys ∧ 0 ≤ r ∧ r < v ∧ (∀ j, j < k → ys.getD j 0 = (dig 16 X).getD j 0) ∧ val (ys.drop k) * v + r = val ((dig 16 X).drop k) ∧ H ++ [Bk ys 36] ++ [Wb 0] ++ [Wb 0] = H') (m := 16)
    ⟨16, dig 16 X, 0, rfl, by omega, rfl, rfl, rfl, rfl, rfl, rfl, dig_length _ _, dig_limbs _ _, by decide, by omega, fun _ _ => rfl, by simp [List.drop_of_length_le, dig_length, val], rfl⟩ ?_
  rintro c fr' H' ⟨k, ys, r, rfl, hk, k1, k2, k4, k5, k6, k7, hyl, hys, r0, r1, hlow, hval, rfl⟩
  by_cases h0 : 0 < c
  · obtain ⟨i, rfl⟩ : ∃ i, c = i + 1 := ⟨c - 1, by omega⟩
    have hyi := hys.get i
    have e1 : (((i + 1 : Nat) : Int) - 1) = i := by omega
    have e2 : IntKind.i64.wrap ((i : Int) - 1) = (i : Int) - 1 := wrap_i64_id (by omega) (by omega)
    rw [e1] at k7
    have hdb : 0 ≤ r * Bs + ys.getD i 0 := by simp only [Bs]; omega
    have hd0 : 0 ≤ (r * Bs + ys.getD i 0) / v := Int.ediv_nonneg hdb (by omega)
    have hd1 : (r * Bs + ys.getD i 0) / v < Bs := by
      rw [Int.ediv_lt_iff_lt_mul hv.1]
      simp only [Bs] at *
      omega
    repeat' first
      | (with_reducible first | refine AWp_seq_k (fun K hK => ?_) | refine AWp_block ?_ | refine AWp_skip ?_ | refine AWp_regionE ?_ | refine AWp_condI ?_)
      | ((with_reducible refine ECall_intro (div64_calls _ _ _ _ r0 r1 hyi hv.2) ?_); rintro _ _ ⟨rfl, rfl⟩)
      | (with_reducible refine AIte (fun hc => ?_) (fun hc => ?_) <;> (try simp only [RC] at hc) <;> (try (exfalso; first | omega | contradiction)))
      | (simp only [thenA, inBlockA, reduceIte, Nat.reduceEqDiff])
      | ((with_reducible refine hK _ _ ?_); clear hK)
      | (simp only [ACond, RA, EAtS_def, EAtX_def, wantedA, acall, astep, ev, ofValue, ofAtom, Nat.reduceEqDiff, Nat.reduceAdd, Nat.reduceMul, Nat.reduceSub, reduceCtorEq, reduceIte, aoptEv, abin, aint, ashift, aun, astr, aeqGuard, isConstOp, aconvH, aofStr, aconvSame, isU8, abuildSlice, afill, splice, azeros, Nat.reduceLeDiff, Nat.reduceLT, Int.reduceLE, Int.reduceLT, Int.reduceEq, Int.reduceToNat, Int.reducePow, IntKind.bits, Int.reduceNeg, RB, aalloc, Go.PW.dig_length, tf76WdL, k1, k2, k4, k5, k6, k7, e2, hyl])
      | (simp (disch := first | omega | (simp only [RO]; done) | assumption) only [RS, idx35, slh35, idx36, slh36])
      | (simp (disch := (first | omega | (simp only [RO]; done) | assumption | (simp only [RM, Go.PW.dig_length]; done) | (simp only [RL, Go.PW.dig_length]; omega))) only [RD, reduceCtorEq, reduceIte, Go.PW.dig_length, Nat.reduceLeDiff, Nat.reduceAdd, Nat.reduceMul, Int.reduceToNat, tf76WdL, k1, k2, k4, k5, k6, k7, e2, hyl])
    refine ⟨i, by omega, i, ys.set i ((r * Bs + ys.getD i 0) / v), _, rfl, by omega, rfl, rfl, by rw [List.length_set]; exact hyl, hys.set i ⟨hd0, hd1⟩, Int.emod_nonneg _ (by omega), Int.emod_lt_of_pos _ hv.1, ?_, ?_, rfl⟩
    · intro j hj
      rw [getD_set _ _ (by omega), if_neg (by omega)]
      exact hlow j (by omega)
    · rw [val_drop_succ _ (by rw [List.length_set]; omega), getD_set _ _ (by omega), if_pos rfl, List.drop_set_of_lt (by omega), val_drop_succ (dig 16 X) (by rw [dig_length]; omega), ← hval, ← hlow i (by omega)]
      have hm := Int.emod_add_mul_ediv (r * Bs + ys.getD i 0) v
      generalize (r * Bs + ys.getD i 0) / v = q at *
      generalize (r * Bs + ys.getD i 0) % v = z at *
      generalize val (ys.drop (i + 1)) = d at *
      generalize ys.getD i 0 = y at *
      rw [Int.add_mul, Int.mul_comm q v, Int.mul_add, Int.mul_assoc]
      simp only [Bs] at *
      omega
  · obtain rfl : c = 0 := by omega
    rw [List.drop_zero, List.drop_zero, val_M, Int.emod_eq_of_lt hX.1 hX.2] at hval
    have hq : val ys = X / v := by
      have := ediv_eq (a := X) (b := v) (q := val ys) hv.1 (by omega) (by rw [Int.add_mul]; omega)
      exact this.symm
    have hr : r = X % v := by
      have := Int.emod_add_mul_ediv X v
      rw [← hq, Int.mul_comm] at this
      omega
    have hyd : ys = dig 16 (X / v) := dig_of_val hys hyl (by rw [← hq, Int.emod_eq_of_lt (val_bound hys).1 (by have := (val_bound hys).2; rwa [hyl] at this)])
    have hb1 := build_one r0 (show r < Bs by omega)
    repeat' first
      | (with_reducible first | refine AWp_seq_k (fun K hK => ?_) | refine AWp_exit ?_ | refine AWp_ret ?_ | refine AWp_regionE ?_ | refine AWp_condI ?_)
      | (with_reducible refine AIte (fun hc => ?_) (fun hc => ?_) <;> (try simp only [RC] at hc) <;> (try (exfalso; first | omega | contradiction)))
      | (simp only [thenA, inBlockA, reduceIte, Nat.reduceEqDiff])
      | ((with_reducible refine hK _ _ ?_); clear hK)
      | (clear hK; (with_reducible refine hK _ _ ?_); clear hK)
      | (simp only [ACond, RA, EAtS_def, EAtX_def, wantedA, acall, astep, ev, ofValue, ofAtom, Nat.reduceEqDiff, Nat.reduceAdd, Nat.reduceMul, Nat.reduceSub, reduceCtorEq, reduceIte, aoptEv, abin, aint, ashift, aun, astr, aeqGuard, isConstOp, aconvH, aofStr, aconvSame, isU8, abuildSlice, afill, splice, azeros, Nat.reduceLeDiff, Nat.reduceLT, Int.reduceLE, Int.reduceLT, Int.reduceEq, Int.reduceToNat, Int.reducePow, IntKind.bits, Int.reduceNeg, RB, aalloc, Go.PW.dig_length, tf76WdL, k1, k2, k4, k5, k6, k7, hb1, hyl])
      | (simp (disch := (first | omega | (simp only [RO]; done) | assumption | (simp only [RM, Go.PW.dig_length]; done) | (simp only [RL, Go.PW.dig_length]; omega))) only [RD, reduceCtorEq, reduceIte, Go.PW.dig_length, Nat.reduceLeDiff, Nat.reduceAdd, Nat.reduceMul, Int.reduceToNat, tf76WdL, k1, k2, k4, k5, k6, k7, hb1, hyl])
    (
     (refine AEnd_gen (rs := [.cell 4 36, .cell 5 36]) rfl ?_)
     (simp only [AEndR, aresults, Fr.put_some, Fr.put_none, fr0_zero, fr0_succ, fr0_nil, Nat.reduceEqDiff, reduceIte, k4, k5])
     (try simp (disch := (first | omega | (simp only [RO]; done) | assumption | (simp only [RM, Go.PW.dig_length]; done) | (simp only [RL, Go.PW.dig_length]; omega))) only [RD, reduceCtorEq, reduceIte, Go.PW.dig_length, Nat.reduceLeDiff, Nat.reduceAdd, Nat.reduceMul, Int.reduceToNat, tf76WdL, k4, k5]))
    rw [hyd, hr]
    exact ⟨ext5 _ _ _, W_tup_lt _ _ (W_lt _ _), rfl⟩
theorem sl_both {P : Program} {t e : TypeId} {h o n c a b : Nat} {l k : IntKind} (hu : P.underlying t = some (.slice e)) (hz : sizeT P e = some 1) (ha : a ≤ b) (hb : b ≤ c) (hlt : a < c) : aslice P t (.sl h o n c) (some (.int l (a : Int))) (some (.int k (b : Int))) none = some (.sl h (o + a) (b - a) (c - a)) := by
  have hne : c ≠ a := by omega
  simp [aslice, hu, hz, abounds, abound, ha, hb, hne]
theorem sl_hi {P : Program} {t e : TypeId} {h o n c b z : Nat} {k : IntKind} (hu : P.underlying t = some (.slice e)) (hz : sizeT P e = some z) (hb : b ≤ c) : aslice P t (.sl h o n c) none (some (.int k (b : Int))) none = some (.sl h o b c) := by
  simp [aslice, hu, hz, abounds, abound, hb]
/-- How far a divisor is moved: it still has as many limbs. -/
theorem lz_fits {Y : Int} {m s : Nat} {ys : List Int} (hys : Limbs ys) (hm : m = cnt ys) (hm0 : 0 < m) (hY : val ys = Y) (hs : s = 64 - bl (ys.getD (m - 1) 0).toNat) : Y * 2 ^ s < Bs ^ m ∧ s < 64 := by
  have hl := cnt_le ys
  have ht := cnt_top ys (by omega)
  rw [← hm] at ht
  have hg := hys.get (m - 1)
  have h1 := val_take_succ ys (i := m - 1) (by omega)
  rw [show m - 1 + 1 = m by omega, val_cnt (by omega), hY] at h1
  have h2 := val_bound (hys.take (m - 1))
  rw [List.length_take, Nat.min_eq_left (by omega)] at h2
  obtain ⟨t, ht'⟩ := Int.eq_ofNat_of_zero_le hg.1
  rw [ht'] at h1 hs ht hg
  rw [Int.toNat_natCast] at hs
  have ht0 : t ≠ 0 := by omega
  have b1 := bl_lt t
  have b3 := bl_pos ht0
  have b4 : bl t ≤ 64 := bl_le (by simp only [Bs] at hg; omega)
  refine ⟨?_, by omega⟩
  have e : (2 : Int) ^ (bl t) * 2 ^ s = Bs := by rw [← Int.pow_add, hs, show bl t + (64 - bl t) = 64 by omega]; decide
  have h3 : ((t : Int) + 1) ≤ 2 ^ bl t := by
    have : ((t + 1 : Nat) : Int) ≤ ((2 ^ bl t : Nat) : Int) := by omega
    simpa using this
  have hp := Bs_pow_pos (m - 1)
  have h4 : Y < Bs ^ (m - 1) * ((t : Int) + 1) := by rw [Int.mul_add]; omega
  have h5 : Bs ^ (m - 1) * ((t : Int) + 1) ≤ Bs ^ (m - 1) * 2 ^ bl t := Int.mul_le_mul_of_nonneg_left h3 (Int.le_of_lt hp)
  have h6 : Y * 2 ^ s < Bs ^ (m - 1) * 2 ^ bl t * 2 ^ s := Int.mul_lt_mul_of_pos_right (by omega) (two_pos s)
  rw [Int.mul_assoc, e, ← Int.pow_succ, show (m - 1).succ = m by omega] at h6
  exact h6
end Go.Proofs.YtfalfmfkifemeaaDoor
set_option linter.unusedVariables false
set_option linter.unusedSimpArgs false
namespace Go.Proofs.YtfalfmfkifemeaaDoor
open Go.AL Go.PW
theorem tf72WdM : type_of% (And.intro @tyb3 (And.intro @tyb27 (And.intro @tyb34 (And.intro @tyb35 (And.intro @tyb36 (And.intro @tyb84 (@cv3_84))))))) := And.intro @tyb3 (And.intro @tyb27 (And.intro @tyb34 (And.intro @tyb35 (And.intro @tyb36 (And.intro @tyb84 (@cv3_84))))))
abbrev pn72_1WdM : Plan := (.one 0 (.one 2 (.one 1 (.one 3 (.one 4 (.one 5 .nil))))))
abbrev pn72_3WdM : Plan := (.one 0 (.alt 1 (.one 2 (.one 3 .nil)) (.one 2 (.one 1 (.one 3 .nil)))))
abbrev pn72_7WdM : Plan := (.one 0 (.one 1 (.one 2 (.one 4 (.one 5 (.one 6 (.one 8 (.one 3 (.one 7 (.one 9 (.one 10 (.one 11 .nil))))))))))))
abbrev pn72_13WdM : Plan := (.one 0 (.one 1 (.one 2 (.one 3 (.one 4 (.one 5 (.one 6 (.one 7 (.one 8 (.one 9 (.one 10 (.one 11 (.one 12 (.one 13 (.one 14 (.one 15 (.one 16 (.one 17 (.one 18 (.one 19 (.one 20 (.one 21 (.one 22 (.one 23 (.one 24 (.one 25 (.one 26 (.one 27 (.one 28 (.one 29 (.one 30 .nil)))))))))))))))))))))))))))))))
abbrev pn72_19WdM : Plan := (.one 0 (.one 1 (.one 2 (.one 3 (.one 4 (.one 5 (.one 6 (.one 7 (.one 8 (.one 9 (.one 10 (.one 11 (.one 12 (.one 13 (.one 14 .nil)))))))))))))))
abbrev pn72_21WdM : Plan := (.one 0 (.alt 1 (.one 2 (.one 3 .nil)) (.one 2 (.one 1 (.one 3 .nil)))))
set_option maxRecDepth 8000
theorem W_tup2_lt (n : Nat) (x y : Int) : AV.lt n (.tup [W x, W y]) := W_tup_lt _ _ (W_lt _ _)
theorem ints_pre {H : Hp} {h n : Nat} {X : Int} {e : Nat} (hg : hget H h = some (Bk (dig 16 X) e)) (hn : n ≤ 16) : Ints H .u64 (.sl h 0 n 16) ((dig 16 X).take n) := by
  have := Ints.blk (n := n) (c := 16) (o := 0) hg (by decide) (by rw [dig_length]; omega) hn
  rwa [List.drop_zero] at this
theorem dig_ext {ys : List Int} {x : Int} (hl : ys.length = 16) (h : ∀ j, j < 16 → ys.getD j 0 = x / Bs ^ j % Bs) : ys = dig 16 x := by
  apply List.ext_getElem
  · rw [hl, dig_length]
  · intro j h1 h2
    have e1 := h j (by omega)
    rw [← getD_dig 16 x j (by omega), List.getD_eq_getElem?_getD, List.getElem?_eq_getElem h1, List.getD_eq_getElem?_getD, List.getElem?_eq_getElem h2] at e1
    exact e1
set_option maxHeartbeats 4000000 in
theorem divide_calls (X Y : Int) (H : Hp) (hX : 0 ≤ X ∧ X < M) (hY : 0 < Y ∧ Y < M) : ACalls Tryd.prog 72 [W X, W Y] H fun r H' => r = .tup [W (X / Y), W (X % Y)] ∧ H = H' := by
  refine ACalls.drop (R := fun r => r = .tup [W (X / Y), W (X % Y)]) ?_
  obtain ⟨n, hn⟩ : ∃ n, n = cnt (dig 16 X) := ⟨_, rfl⟩
  obtain ⟨m, hm⟩ : ∃ m, m = cnt (dig 16 Y) := ⟨_, rfl⟩
  have hn16 : n ≤ 16 := by rw [hn]; have := cnt_le (dig 16 X); rwa [dig_length] at this
  have hm16 : m ≤ 16 := by rw [hm]; have := cnt_le (dig 16 Y); rwa [dig_length] at this
  have hXv : val (dig 16 X) = X := by rw [val_M, Int.emod_eq_of_lt hX.1 hX.2]
  have hYv : val (dig 16 Y) = Y := by rw [val_M, Int.emod_eq_of_lt (Int.le_of_lt hY.1) hY.2]
  have hm0 : 0 < m := by
    rcases Nat.eq_zero_or_pos m with h | h
    · have := cnt_zero (hm ▸ h); omega
    · exact h
  have hXn : X < Bs ^ n := by
    have := val_bound ((dig_limbs 16 X).take n)
    rw [val_cnt (by omega), hXv, List.length_take, dig_length, Nat.min_eq_left hn16] at this
    exact this.2
  have hYm : Bs ^ (m - 1) ≤ Y := by
    have := cnt_low (dig_limbs 16 Y) (by omega)
    rwa [← hm, hYv] at this
  refine ACalls_body Tryd.func72 rfl (by kernel_rfl) (by kernel_rfl) ?_
  refine AWp_seq_k (fun K hQ => ?_)
  repeat' first
    | (with_reducible first | refine AWp_regionE ?_)
    | (simp only [thenA, inBlockA, reduceIte, Nat.reduceEqDiff])
    | (simp only [ACond, RA, EAtS_def, EAtX_def, wantedA, acall, astep, ev, ofValue, ofAtom, Nat.reduceEqDiff, Nat.reduceAdd, Nat.reduceMul, Nat.reduceSub, reduceCtorEq, reduceIte, aoptEv, abin, aint, ashift, aun, astr, aeqGuard, isConstOp, aconvH, aofStr, aconvSame, isU8, abuildSlice, afill, splice, azeros, Nat.reduceLeDiff, Nat.reduceLT, Int.reduceLE, Int.reduceLT, Int.reduceEq, Int.reduceToNat, Int.reducePow, IntKind.bits, Int.reduceNeg, RB, aalloc, Go.PW.dig_length, tf72WdM])
  refine hQ _ _ ?_
  clear hQ
  refine AWp_seq_k (fun K2 hK2 => ?_)
  refine AWp_cut (fun fr' H1 => fr' 2 = .ptr H.length 0 ∧ fr' 3 = .ptr (H.length + 1) 0 ∧ fr' 4 = .ptr (H.length + 1 + 1) 0 ∧ fr' 5 = .ptr (H.length + 1 + 1 + 1) 0 ∧ fr' 6 = .int .i64 (n : Int) ∧ fr' 7 = .int .i64 (m : Int) ∧ H ++ [Wb X] ++ [Wb Y] ++ [Wb 0] ++ [Wb 0] = H1) ?_ (fun fr' H1 h => hK2 _ _ ?_)
  · clear hK2
    have i2 : Ints (H ++ [Wb X] ++ [Wb Y] ++ [Wb 0] ++ [Wb 0]) .u64 (.sl H.length 0 16 16) (dig 16 X) := by
      have := ints_pre (H := H ++ [Wb X] ++ [Wb Y] ++ [Wb 0] ++ [Wb 0]) (h := H.length) (n := 16) (X := X) (e := 36) (by simp [hget]) (by decide)
      rwa [List.take_of_length_le (by rw [dig_length]; omega)] at this
    have i3 : Ints (H ++ [Wb X] ++ [Wb Y] ++ [Wb 0] ++ [Wb 0]) .u64 (.sl (H.length + 1) 0 16 16) (dig 16 Y) := by
      have := ints_pre (H := H ++ [Wb X] ++ [Wb Y] ++ [Wb 0] ++ [Wb 0]) (h := H.length + 1) (n := 16) (X := Y) (e := 36) (by simp [hget]) (by decide)
      rwa [List.take_of_length_le (by rw [dig_length]; omega)] at this
    repeat' first
      | (with_reducible first | refine AWp_drawE (id := 1) [] pn72_1WdM (by kernel_rfl) (by kernel_rfl) ?_)
      | ((with_reducible refine ECall_intro ((fun x => (count_calls _ _ _ (i2.ext x) (l16 _))) (Ext.refl _)) ?_); rintro _ _ ⟨rfl, rfl⟩)
      | ((with_reducible refine ECall_intro ((fun x => (count_calls _ _ _ (i3.ext x) (l16 _))) (Ext.refl _)) ?_); rintro _ _ ⟨rfl, rfl⟩)
      | (with_reducible refine And.intro ?_ ?_)
      | (simp only [thenA, inBlockA, reduceIte, Nat.reduceEqDiff])
      | (simp only [ACond, RA, EAtS_def, EAtX_def, wantedA, acall, astep, ev, ofValue, ofAtom, Nat.reduceEqDiff, Nat.reduceAdd, Nat.reduceMul, Nat.reduceSub, reduceCtorEq, reduceIte, aoptEv, abin, aint, ashift, aun, astr, aeqGuard, isConstOp, aconvH, aofStr, aconvSame, isU8, abuildSlice, afill, splice, azeros, Nat.reduceLeDiff, Nat.reduceLT, Int.reduceLE, Int.reduceLT, Int.reduceEq, Int.reduceToNat, Int.reducePow, IntKind.bits, Int.reduceNeg, RB, aalloc, Go.PW.dig_length, tf72WdM, ← hn, ← hm])
  clear hK2
  obtain ⟨k2, k3, k4, k5, k6, k7, rfl⟩ := h
  by_cases hlt : n < m
  · have hXY : X < Y := by
      have h1 : Bs ^ n ≤ Bs ^ (m - 1) := by
        rw [show m - 1 = n + (m - 1 - n) by omega, Int.pow_add]
        have := Bs_pow_pos (m - 1 - n)
        have := Int.mul_le_mul_of_nonneg_left (show 1 ≤ Bs ^ (m - 1 - n) by omega) (Int.le_of_lt (Bs_pow_pos n))
        omega
      omega
    have hq : X / Y = 0 := Int.ediv_eq_zero_of_lt hX.1 hXY
    have hr : X % Y = X := Int.emod_eq_of_lt hX.1 hXY
    repeat' first
      | (with_reducible first | refine AWp_seq_k (fun K hK => ?_) | refine AWp_block ?_ | refine AWp_ret ?_ | refine AWp_regionE ?_ | refine AWp_drawE (id := 3) [] pn72_3WdM (by kernel_rfl) (by kernel_rfl) ?_ | refine AWp_condI ?_)
      | (with_reducible refine And.intro ?_ ?_)
      | (with_reducible refine AIte (fun hc => ?_) (fun hc => ?_) <;> (try simp only [RC] at hc) <;> (try (exfalso; first | omega | contradiction)))
      | (simp only [thenA, inBlockA, reduceIte, Nat.reduceEqDiff])
      | ((with_reducible refine hK _ _ ?_); clear hK)
      | (simp only [ACond, RA, EAtS_def, EAtX_def, wantedA, acall, astep, ev, ofValue, ofAtom, Nat.reduceEqDiff, Nat.reduceAdd, Nat.reduceMul, Nat.reduceSub, reduceCtorEq, reduceIte, aoptEv, abin, aint, ashift, aun, astr, aeqGuard, isConstOp, aconvH, aofStr, aconvSame, isU8, abuildSlice, afill, splice, azeros, Nat.reduceLeDiff, Nat.reduceLT, Int.reduceLE, Int.reduceLT, Int.reduceEq, Int.reduceToNat, Int.reducePow, IntKind.bits, Int.reduceNeg, RB, aalloc, Go.PW.dig_length, tf72WdM, k2, k3, k4, k5, k6, k7])
      | (simp (disch := (first | omega | (simp only [RO]; done) | assumption | (simp only [RM, Go.PW.dig_length]; done) | (simp only [RL, Go.PW.dig_length]; omega))) only [RD, reduceCtorEq, reduceIte, Go.PW.dig_length, Nat.reduceLeDiff, Nat.reduceAdd, Nat.reduceMul, Int.reduceToNat, tf72WdM, k2, k3, k4, k5, k6, k7])
    all_goals
      (
       (refine AEnd_gen (rs := [.cell 4 36, .cell 5 36]) rfl ?_)
       (simp only [AEndR, aresults, Fr.put_some, Fr.put_none, fr0_zero, fr0_succ, fr0_nil, Nat.reduceEqDiff, reduceIte, k4, k5])
       (try simp (disch := (first | omega | (simp only [RO]; done) | assumption | (simp only [RM, Go.PW.dig_length]; done) | (simp only [RL, Go.PW.dig_length]; omega))) only [RD, reduceCtorEq, reduceIte, Go.PW.dig_length, Nat.reduceLeDiff, Nat.reduceAdd, Nat.reduceMul, Int.reduceToNat, tf72WdM, k4, k5]))
    all_goals rw [hq, hr]
    all_goals exact ⟨ext6 _ _ _ _, W_tup2_lt _ _ _, rfl⟩
  by_cases hm1 : m = 1
  · have hY1 : (dig 16 Y).getD 0 0 = Y := by
      have h1 := val_take_succ (dig 16 Y) (i := 0) (by rw [dig_length]; omega)
      rw [val_cnt (by omega), hYv] at h1
      simp only [List.take_zero, val, Int.pow_zero, Int.one_mul] at h1
      omega
    have hYB : Y < Bs := by rw [← hY1]; exact ((dig_limbs 16 Y).get 0).2
    repeat' first
      | (with_reducible first | refine AWp_seq_k (fun K hK => ?_) | refine AWp_block ?_ | refine AWp_ret ?_ | refine AWp_regionE ?_ | refine AWp_condI ?_)
      | ((with_reducible refine ECall_intro (short_calls _ _ _ hX ⟨hY.1, hYB⟩) ?_); rintro _ _ ⟨rfl, rfl⟩)
      | (with_reducible refine AIte (fun hc => ?_) (fun hc => ?_) <;> (try simp only [RC] at hc) <;> (try (exfalso; first | omega | contradiction)))
      | (simp only [thenA, inBlockA, reduceIte, Nat.reduceEqDiff])
      | ((with_reducible refine hK _ _ ?_); clear hK)
      | (simp only [ACond, RA, EAtS_def, EAtX_def, wantedA, acall, astep, ev, ofValue, ofAtom, Nat.reduceEqDiff, Nat.reduceAdd, Nat.reduceMul, Nat.reduceSub, reduceCtorEq, reduceIte, aoptEv, abin, aint, ashift, aun, astr, aeqGuard, isConstOp, aconvH, aofStr, aconvSame, isU8, abuildSlice, afill, splice, azeros, Nat.reduceLeDiff, Nat.reduceLT, Int.reduceLE, Int.reduceLT, Int.reduceEq, Int.reduceToNat, Int.reducePow, IntKind.bits, Int.reduceNeg, RB, aalloc, Go.PW.dig_length, tf72WdM, k2, k3, k4, k5, k6, k7, hY1])
      | (simp (disch := first | omega | (simp only [RO]; done) | assumption) only [RS, six27, gix27, idx35, slh35, idx36, slh36])
      | (simp (disch := (first | omega | (simp only [RO]; done) | assumption | (simp only [RM, Go.PW.dig_length]; done) | (simp only [RL, Go.PW.dig_length]; omega))) only [RD, reduceCtorEq, reduceIte, Go.PW.dig_length, Nat.reduceLeDiff, Nat.reduceAdd, Nat.reduceMul, Int.reduceToNat, tf72WdM, k2, k3, k4, k5, k6, k7, hY1])
    all_goals
      (
       (refine AEnd_gen (rs := [.cell 4 36, .cell 5 36]) rfl ?_)
       (simp only [AEndR, aresults, Fr.put_some, Fr.put_none, fr0_zero, fr0_succ, fr0_nil, Nat.reduceEqDiff, reduceIte, k4, k5])
       (try simp (disch := (first | omega | (simp only [RO]; done) | assumption | (simp only [RM, Go.PW.dig_length]; done) | (simp only [RL, Go.PW.dig_length]; omega))) only [RD, reduceCtorEq, reduceIte, Go.PW.dig_length, Nat.reduceLeDiff, Nat.reduceAdd, Nat.reduceMul, Int.reduceToNat, tf72WdM, k4, k5]))
    all_goals exact ⟨ext6 _ _ _ _, W_tup2_lt _ _ _⟩
  refine AWp_seq_k (fun K hQ => ?_)
  repeat' first
    | (with_reducible first | refine AWp_seq_k (fun K hK => ?_) | refine AWp_block ?_ | refine AWp_skip ?_ | refine AWp_regionE ?_ | refine AWp_condI ?_)
    | (with_reducible refine AIte (fun hc => ?_) (fun hc => ?_) <;> (try simp only [RC] at hc) <;> (try (exfalso; first | omega | contradiction)))
    | (simp only [thenA, inBlockA, reduceIte, Nat.reduceEqDiff])
    | ((with_reducible refine hK _ _ ?_); clear hK)
    | (simp only [ACond, RA, EAtS_def, EAtX_def, wantedA, acall, astep, ev, ofValue, ofAtom, Nat.reduceEqDiff, Nat.reduceAdd, Nat.reduceMul, Nat.reduceSub, reduceCtorEq, reduceIte, aoptEv, abin, aint, ashift, aun, astr, aeqGuard, isConstOp, aconvH, aofStr, aconvSame, isU8, abuildSlice, afill, splice, azeros, Nat.reduceLeDiff, Nat.reduceLT, Int.reduceLE, Int.reduceLT, Int.reduceEq, Int.reduceToNat, Int.reducePow, IntKind.bits, Int.reduceNeg, RB, aalloc, Go.PW.dig_length, tf72WdM, k2, k3, k4, k5, k6, k7])
  refine hQ _ _ ?_
  clear hQ
  -- the long way
  obtain ⟨s, hs⟩ : ∃ s, s = 64 - bl ((dig 16 Y).getD (m - 1) 0).toNat := ⟨_, rfl⟩
  obtain ⟨hVm, hs64⟩ := lz_fits (dig_limbs 16 Y) hm hm0 hYv hs
  have hgy := (dig_limbs 16 Y).get (m - 1)
  have f1 : IntKind.i64.wrap ((m : Int) - 1) = ((m - 1 : Nat) : Int) := by rw [wrap_i64_id (by omega) (by omega)]; omega
  have f2 : IntKind.i64.wrap ((m : Int) - 2) = ((m - 2 : Nat) : Int) := by rw [wrap_i64_id (by omega) (by omega)]; omega
  refine AWp_seq_k (fun K hQ => ?_)
  repeat' first
    | (with_reducible first | refine AWp_regionE ?_)
    | ((with_reducible refine ECall_intro (lz64_calls _ _ hgy) ?_); rintro _ _ ⟨rfl, rfl⟩)
    | (simp only [thenA, inBlockA, reduceIte, Nat.reduceEqDiff])
    | (simp only [ACond, RA, EAtS_def, EAtX_def, wantedA, acall, astep, ev, ofValue, ofAtom, Nat.reduceEqDiff, Nat.reduceAdd, Nat.reduceMul, Nat.reduceSub, reduceCtorEq, reduceIte, aoptEv, abin, aint, ashift, aun, astr, aeqGuard, isConstOp, aconvH, aofStr, aconvSame, isU8, abuildSlice, afill, splice, azeros, Nat.reduceLeDiff, Nat.reduceLT, Int.reduceLE, Int.reduceLT, Int.reduceEq, Int.reduceToNat, Int.reducePow, IntKind.bits, Int.reduceNeg, RB, aalloc, Go.PW.dig_length, tf72WdM, k2, k3, k4, k5, k6, k7, f1, ← hs])
    | (simp (disch := first | omega | (simp only [RO]; done) | assumption) only [RS, six27, gix27, idx35, slh35, idx36, slh36])
    | (simp (disch := (first | omega | (simp only [RO]; done) | assumption | (simp only [RM, Go.PW.dig_length]; done) | (simp only [RL, Go.PW.dig_length]; omega))) only [RD, reduceCtorEq, reduceIte, Go.PW.dig_length, Nat.reduceLeDiff, Nat.reduceAdd, Nat.reduceMul, Int.reduceToNat, tf72WdM, k2, k3, k4, k5, k6, k7, f1, ← hs])
  refine hQ _ _ ?_
  clear hQ
  obtain ⟨U, hU⟩ : ∃ U, U = X * 2 ^ s := ⟨_, rfl⟩
  obtain ⟨V, hV⟩ : ∃ V, V = Y * 2 ^ s := ⟨_, rfl⟩
  obtain ⟨HH, hHH⟩ : ∃ HH, HH = H ++ [Wb X] ++ [Wb Y] ++ [Wb 0] ++ [Wb 0] := ⟨_, rfl⟩
  have hHL : HH.length = H.length + 1 + 1 + 1 + 1 := by rw [hHH]; simp
  have hxl : ((dig 16 X).take n).length = n := by rw [List.length_take, dig_length]; omega
  have hyl : ((dig 16 Y).take m).length = m := by rw [List.length_take, dig_length]; omega
  have g2 : hget HH H.length = some (Wb X) := by rw [hHH]; simp [hget]
  have g3 : hget HH (H.length + 1) = some (Wb Y) := by rw [hHH]; simp [hget]
  have g4 : hget HH (H.length + 1 + 1) = some (Wb 0) := by rw [hHH, hget_old (by simp), hget_at (by simp)]
  have g5 : hget HH (H.length + 1 + 1 + 1) = some (Wb 0) := by rw [hHH, hget_at (by simp)]
  have hsu := shift_calls _ _ s HH (ints_pre g2 hn16) ((dig_limbs 16 X).take n) (by omega) hs64
  rw [hxl, val_cnt (by omega), hXv, ← hU] at hsu
  have hsv := shift_calls _ _ s (HH ++ [Bk (dig (n + 1) U) 34]) ((ints_pre g3 hm16).push _) ((dig_limbs 16 Y).take m) (by omega) hs64
  rw [hyl, val_cnt (by omega), hYv, ← hV] at hsv
  have f3 : aslice Tryd.prog 27 (.sl (HH.length + 1) 0 (m + 1) (m + 1)) none (some (.int .i64 (m : Int))) none = some (.sl (HH.length + 1) 0 m (m + 1)) := sl_hi und27 size34 (by omega)
  have f4 : IntKind.i64.wrap ((n : Int) - m) = ((n - m : Nat) : Int) := by rw [wrap_i64_id (by omega) (by omega)]; omega
  rw [← hHH]
  have lH : H.length + 1 + 1 + 1 < HH.length := by omega
  refine AWp_seq_k (fun K hQ => ?_)
  repeat' first
    | (with_reducible first | refine AWp_regionE ?_ | refine AWp_drawE (id := 7) [] pn72_7WdM (by kernel_rfl) (by kernel_rfl) ?_)
    | ((with_reducible refine ECall_intro (hsu) ?_); rintro _ _ ⟨rfl, rfl⟩)
    | ((with_reducible refine ECall_intro (hsv) ?_); rintro _ _ ⟨rfl, rfl⟩)
    | (simp only [thenA, inBlockA, reduceIte, Nat.reduceEqDiff])
    | (simp only [ACond, RA, EAtS_def, EAtX_def, wantedA, acall, astep, ev, ofValue, ofAtom, Nat.reduceEqDiff, Nat.reduceAdd, Nat.reduceMul, Nat.reduceSub, reduceCtorEq, reduceIte, aoptEv, abin, aint, ashift, aun, astr, aeqGuard, isConstOp, aconvH, aofStr, aconvSame, isU8, abuildSlice, afill, splice, azeros, Nat.reduceLeDiff, Nat.reduceLT, Int.reduceLE, Int.reduceLT, Int.reduceEq, Int.reduceToNat, Int.reducePow, IntKind.bits, Int.reduceNeg, RB, aalloc, Go.PW.dig_length, tf72WdM, k2, k3, k4, k5, k6, k7, f3, f4])
    | (simp (disch := first | omega | (simp only [RO]; done) | assumption) only [RS, six27, gix27, idx35, slh35, idx36, slh36])
  refine hQ _ _ ?_
  clear hQ
  refine AWp_seq_k (fun K hQ => ?_)
  repeat' first
    | (with_reducible first | refine AWp_regionE ?_ | refine AWp_drawE (id := 7) [] pn72_7WdM (by kernel_rfl) (by kernel_rfl) ?_)
    | ((with_reducible refine ECall_intro (hsu) ?_); rintro _ _ ⟨rfl, rfl⟩)
    | ((with_reducible refine ECall_intro (hsv) ?_); rintro _ _ ⟨rfl, rfl⟩)
    | (simp only [thenA, inBlockA, reduceIte, Nat.reduceEqDiff])
    | (simp only [ACond, RA, EAtS_def, EAtX_def, wantedA, acall, astep, ev, ofValue, ofAtom, Nat.reduceEqDiff, Nat.reduceAdd, Nat.reduceMul, Nat.reduceSub, reduceCtorEq, reduceIte, aoptEv, abin, aint, ashift, aun, astr, aeqGuard, isConstOp, aconvH, aofStr, aconvSame, isU8, abuildSlice, afill, splice, azeros, Nat.reduceLeDiff, Nat.reduceLT, Int.reduceLE, Int.reduceLT, Int.reduceEq, Int.reduceToNat, Int.reducePow, IntKind.bits, Int.reduceNeg, RB, aalloc, Go.PW.dig_length, tf72WdM, k2, k3, k4, k5, k6, k7, f3, f4])
    | (simp (disch := first | omega | (simp only [RO]; done) | assumption) only [RS, six27, gix27, idx35, slh35, idx36, slh36])
  refine hQ _ _ ?_
  clear hQ
  refine AWp_seq_k (fun K2 hK2 => ?_)
  have hV0 : 0 < V := by rw [hV]; exact Int.mul_pos hY.1 (two_pos s)
  have hU0 : 0 ≤ U := by rw [hU]; exact Int.mul_nonneg hX.1 (Int.le_of_lt (two_pos s))
  have hYV : Bs ^ (m - 1) * 2 ^ s ≤ V := by rw [hV]; exact Int.mul_le_mul_of_nonneg_right hYm (Int.le_of_lt (two_pos s))
  rw [← hV] at hVm
  obtain ⟨vs, hvs⟩ : ∃ vs, vs = dig (m + 1) V := ⟨_, rfl⟩
  have hvl : vs.length = m + 1 := by rw [hvs, dig_length]
  have hvL : Limbs vs := by rw [hvs]; exact dig_limbs _ _
  have hvv : val (vs.take m) = V := by
    have h1 : val vs = V := by
      rw [hvs, val_dig, Int.emod_eq_of_lt (Int.le_of_lt hV0)]
      have := Int.mul_le_mul_of_nonneg_left (show 1 ≤ Bs by decide) (Int.le_of_lt (Bs_pow_pos m))
      rw [Int.pow_succ]
      omega
    have := (val_high_zero hvL (m := m) (by rw [h1]; exact hVm)).2
    rw [this, h1]
  have D0 := DInv.start (n := n) (m := m) (X := X) (V := V) (s := s) (qs := dig 16 0) rfl hm0 (by omega) hs64 hX.1 hXn hYV
  rw [← hU] at D0
  rw [← hvs]
  refine AWp_cut (fun fr' H1 => ∃ us qs : List Int, fr' 2 = .ptr H.length 0 ∧ fr' 4 = .ptr (H.length + 1 + 1) 0 ∧ fr' 5 = .ptr (H.length + 1 + 1 + 1) 0 ∧ fr' 7 = .int .i64 (m : Int) ∧ fr' 8 = .int .i64 (s : Int) ∧ fr' 9 = .sl HH.length 0 (n + 1) (n + 1) ∧ fr' 11 = .ptr (HH.length + 1 + 1) 0 ∧ fr' 12 = .ptr (HH.length + 1 + 1 + 1) 0 ∧ DInv n U V 0 us qs ∧ HH ++ [Bk us 34] ++ [Bk vs 34] ++ [Bk qs 36] ++ [Wb 0] = H1) ?_ (fun fr' H1 h => hK2 _ _ ?_)
  · clear hK2
    repeat' first
      | (with_reducible first | refine AWp_seq_k (fun K hK => ?_) | refine AWp_block ?_ | refine AWp_regionE ?_)
      | (simp only [thenA, inBlockA, reduceIte, Nat.reduceEqDiff])
      | ((with_reducible refine hK _ _ ?_); clear hK)
      | (simp only [ACond, RA, EAtS_def, EAtX_def, wantedA, acall, astep, ev, ofValue, ofAtom, Nat.reduceEqDiff, Nat.reduceAdd, Nat.reduceMul, Nat.reduceSub, reduceCtorEq, reduceIte, aoptEv, abin, aint, ashift, aun, astr, aeqGuard, isConstOp, aconvH, aofStr, aconvSame, isU8, abuildSlice, afill, splice, azeros, Nat.reduceLeDiff, Nat.reduceLT, Int.reduceLE, Int.reduceLT, Int.reduceEq, Int.reduceToNat, Int.reducePow, IntKind.bits, Int.reduceNeg, RB, aalloc, Go.PW.dig_length, tf72WdM, k2, k3, k4, k5, k6, k7, f3, f4])
    refine AWp_loop (fun c fr' H1 => ∃ (k : Nat) (us qs : List Int), c = k ∧ k ≤ n - m + 1 ∧ fr' 2 = .ptr H.length 0 ∧ fr' 4 = .ptr (H.length + 1 + 1) 0 ∧ fr' 5 = .ptr (H.length + 1 + 1 + 1) 0 ∧ fr' 7 = .int .i64 (m : Int) ∧ fr' 8 = .int .i64 (s : Int) ∧ fr' 9 = .sl HH.length 0 (n + 1) (n + 1) ∧ fr' 10 = .sl (HH.length + 1) 0 m (m + 1) ∧ fr' 11 = .ptr (HH.length + 1 + 1) 0 ∧ fr' 12 = .ptr (HH.length + 1 + 1 + 1) 0 ∧ fr' 13 = .int .i64 ((k : Int) - 1) ∧ DInv n U V k us qs ∧ HH ++ [Bk us 34] ++ [Bk vs 34] ++ [Bk qs 36] ++ [Wb 0] = H1) (m := n - m + 1)
      ⟨n - m + 1, _, _, rfl, Nat.le_refl _, k2, k4, k5, k7, rfl, rfl, rfl, rfl, rfl, by show AV.int _ _ = AV.int _ _; congr 1; omega, D0, rfl⟩ ?_
    clear k2 k3 k4 k5 k6 k7
    rintro c fr' H1 ⟨k, us, qs, rfl, hk, k2, k4, k5, k7, k8, k9, k10, k11, k12, k13, D, rfl⟩
    by_cases h0 : 0 < c
    · obtain ⟨i, rfl⟩ : ∃ i, c = i + 1 := ⟨c - 1, by omega⟩
      have e1 : (((i + 1 : Nat) : Int) - 1) = i := by omega
      rw [e1] at k13
      have hin : i + m ≤ n := by omega
      have hi16 : i < 16 := by omega
      obtain ⟨w1, w2, w3, w4, w5⟩ := D.window hin hV0 hVm
      obtain ⟨d0, d1, D'⟩ := D.round hin hV0 hVm hi16 hU0
      have hul := D.ul
      have hql := D.ql
      have hgw : ∀ j, j ≤ m → us.getD (i + j) 0 = ((us.drop i).take (m + 1)).getD j 0 := by
        intro j hj
        rw [List.getD_eq_getElem?_getD, List.getD_eq_getElem?_getD, List.getElem?_take_of_lt (by omega), List.getElem?_drop]
      have hspl : us = us.take i ++ (us.drop i).take (m + 1) ++ us.drop (i + m + 1) := by
        have := split_mid us (o := i) (k := m + 1) (by omega)
        rwa [← Nat.add_assoc] at this
      have hpl : (us.take i).length = i := by rw [List.length_take]; omega
      obtain ⟨w, hw⟩ : ∃ w, w = (us.drop i).take (m + 1) := ⟨_, rfl⟩
      rw [← hw] at w1 w2 w3 w5 d0 d1 D' hgw hspl
      obtain ⟨p, hp⟩ : ∃ p, m = p + 2 := ⟨m - 2, by omega⟩
      have hvtl : (vs.take m).length = m := by rw [List.length_take]; omega
      have hvg : ∀ j, j < m → vs.getD j 0 = (vs.take m).getD j 0 := by
        intro j hj
        rw [List.getD_eq_getElem?_getD, List.getD_eq_getElem?_getD, List.getElem?_take_of_lt hj]
      have hvtop : 0 < (vs.take m).getD (p + 1) 0 := by
        have a := (hvL.take m).get (p + 1)
        have b := top_two (xs := vs.take m) (m := p) (by omega)
        have c := val_bound ((hvL.take m).take p)
        rw [List.length_take, Nat.min_eq_left (by omega)] at c
        have d := (hvL.take m).get p
        rw [hvv] at b
        have e : Bs ^ (p + 1) ≤ V := by
          have h1 := Int.mul_le_mul_of_nonneg_left (show (1 : Int) ≤ 2 ^ s by have := two_pos s; omega) (Int.le_of_lt (Bs_pow_pos (m - 1)))
          rw [show p + 1 = m - 1 by omega]
          omega
        rcases Int.lt_or_le 0 ((vs.take m).getD (p + 1) 0) with h | h
        · exact h
        · exfalso
          have h0 : (vs.take m).getD (p + 1) 0 = 0 := by omega
          rw [h0, Int.zero_mul, Int.zero_add] at b
          have h2 := Int.mul_le_mul_of_nonneg_right (show (vs.take m).getD p 0 ≤ Bs - 1 by omega) (Int.le_of_lt (Bs_pow_pos p))
          rw [Int.pow_succ, Int.mul_comm] at e
          rw [Int.sub_mul] at h2
          omega
      obtain ⟨q1, q2, q3⟩ := guess_right w2 (hvL.take m) (m := p) (by omega) (by omega) (by rw [w3, hvv]; exact Int.emod_lt_of_pos _ hV0) hvtop
      rw [hvv] at q2 q3
      have ga : us.getD (i + m) 0 = w.getD (p + 2) 0 := by rw [hgw m (by omega), hp]
      have gb : us.getD (i + (m - 1)) 0 = w.getD (p + 1) 0 := by rw [hgw (m - 1) (by omega)]; congr 1; omega
      have gc : us.getD (i + (m - 2)) 0 = w.getD p 0 := by rw [hgw (m - 2) (by omega)]; congr 1; omega
      have gd : vs.getD (m - 1) 0 = (vs.take m).getD (p + 1) 0 := by rw [hvg (m - 1) (by omega)]; congr 1; omega
      have ge : vs.getD (m - 2) 0 = (vs.take m).getD p 0 := by rw [hvg (m - 2) (by omega)]; congr 1; omega
      obtain ⟨qh, hqh⟩ : ∃ qh, qh = min (Bs - 1) (((w.getD (p + 2) 0 * Bs + w.getD (p + 1) 0) * Bs + w.getD p 0) / ((vs.take m).getD (p + 1) 0 * Bs + (vs.take m).getD p 0)) := ⟨_, rfl⟩
      rw [← hqh] at q2 q3
      have hg := fun H0 => guess_calls (w.getD (p + 2) 0) (w.getD (p + 1) 0) (w.getD p 0) ((vs.take m).getD (p + 1) 0) ((vs.take m).getD p 0) H0 ⟨(w2.get _).1, q1⟩ (w2.get _) (w2.get _) ⟨hvtop, ((hvL.take m).get _).2⟩ ((hvL.take m).get _)
      rw [← hqh] at hg
      have e2 : IntKind.i64.wrap ((i : Int) + m) = (i : Int) + m := wrap_i64_id (by omega) (by omega)
      have e3 : IntKind.i64.wrap ((i : Int) + m + 1) = ((i + m + 1 : Nat) : Int) := by rw [wrap_i64_id (by omega) (by omega)]; omega
      have e4 : IntKind.i64.wrap ((i : Int) - 1) = (i : Int) - 1 := wrap_i64_id (by omega) (by omega)
      have e5 : aslice Tryd.prog 27 (.sl HH.length 0 (n + 1) (n + 1)) (some (.int .i64 (i : Int))) (some (.int .i64 ((i + m + 1 : Nat) : Int))) none = some (.sl HH.length i (m + 1) (n + 1 - i)) := by
        rw [sl_both und27 size34 (by omega) (by omega) (by omega), Nat.zero_add, show i + m + 1 - i = m + 1 by omega]
      have htk := take_calls HH.length (n + 1 - i) (HH.length + 1) (m + 1) 34 (us.take i) w (us.drop (i + m + 1)) vs m qh ⟨[], .own, 34⟩ (HH ++ [Bk us 34] ++ [Bk vs 34] ++ [Bk qs 36] ++ [Wb 0])
        (by rw [← hspl, hget_old (by simp), hget_old (by simp), hget_old (by simp), hget_at rfl]) (by rw [hget_old (by simp), hget_old (by simp), hget_at (by simp)]) (by omega) w2 hvL w1 (by omega) (by omega) (by omega) ⟨by omega, by omega⟩ (by rw [hvv]; exact hV0) (by rw [hvv]; exact q2) (by rw [hvv]; exact q3)
      rw [hpl, hvv] at htk
      repeat' first
        | (with_reducible first | refine AWp_seq_k (fun K hK => ?_) | refine AWp_block ?_ | refine AWp_skip ?_ | refine AWp_regionE ?_ | refine AWp_drawE (id := 13) [] pn72_13WdM (by kernel_rfl) (by kernel_rfl) ?_ | refine AWp_condI ?_)
        | ((with_reducible refine ECall_intro (hg _) ?_); rintro _ _ ⟨rfl, rfl⟩)
        | ((with_reducible refine ECall_intro (htk) ?_); rintro _ _ ⟨rfl, rfl⟩)
        | (with_reducible refine AIte (fun hc => ?_) (fun hc => ?_) <;> (try simp only [RC] at hc) <;> (try (exfalso; first | omega | contradiction)))
        | (simp only [thenA, inBlockA, reduceIte, Nat.reduceEqDiff])
        | ((with_reducible refine hK _ _ ?_); clear hK)
        | (simp only [ACond, RA, EAtS_def, EAtX_def, wantedA, acall, astep, ev, ofValue, ofAtom, Nat.reduceEqDiff, Nat.reduceAdd, Nat.reduceMul, Nat.reduceSub, reduceCtorEq, reduceIte, aoptEv, abin, aint, ashift, aun, astr, aeqGuard, isConstOp, aconvH, aofStr, aconvSame, isU8, abuildSlice, afill, splice, azeros, Nat.reduceLeDiff, Nat.reduceLT, Int.reduceLE, Int.reduceLT, Int.reduceEq, Int.reduceToNat, Int.reducePow, IntKind.bits, Int.reduceNeg, RB, aalloc, Go.PW.dig_length, tf72WdM, k2, k4, k5, k7, k8, k9, k10, k11, k12, k13, e2, e3, e4, e5, f1, f2, ga, gb, gc, gd, ge, hul, hvl, hql])
        | (simp (disch := first | omega | (simp only [RO]; done) | assumption) only [RS, six27, gix27, idx35, slh35, idx36, slh36])
        | (simp (disch := (first | omega | (simp only [RO]; done) | assumption | (simp only [RM, Go.PW.dig_length]; done) | (simp only [RL, Go.PW.dig_length]; omega))) only [RD, reduceCtorEq, reduceIte, Go.PW.dig_length, Nat.reduceLeDiff, Nat.reduceAdd, Nat.reduceMul, Int.reduceToNat, tf72WdM, k2, k4, k5, k7, k8, k9, k10, k11, k12, k13, e2, e3, e4, e5, f1, f2, ga, gb, gc, gd, ge, hul, hvl, hql])
      exact ⟨i, by omega, i, _, _, rfl, by omega, rfl, D', rfl⟩
    · obtain rfl : c = 0 := by omega
      repeat' first
        | (with_reducible first | refine AWp_seq_k (fun K hK => ?_) | refine AWp_exit ?_ | refine AWp_regionE ?_ | refine AWp_condI ?_)
        | (with_reducible refine AIte (fun hc => ?_) (fun hc => ?_) <;> (try simp only [RC] at hc) <;> (try (exfalso; first | omega | contradiction)))
        | (simp only [thenA, inBlockA, reduceIte, Nat.reduceEqDiff])
        | ((with_reducible refine hK _ _ ?_); clear hK)
        | (simp only [ACond, RA, EAtS_def, EAtX_def, wantedA, acall, astep, ev, ofValue, ofAtom, Nat.reduceEqDiff, Nat.reduceAdd, Nat.reduceMul, Nat.reduceSub, reduceCtorEq, reduceIte, aoptEv, abin, aint, ashift, aun, astr, aeqGuard, isConstOp, aconvH, aofStr, aconvSame, isU8, abuildSlice, afill, splice, azeros, Nat.reduceLeDiff, Nat.reduceLT, Int.reduceLE, Int.reduceLT, Int.reduceEq, Int.reduceToNat, Int.reducePow, IntKind.bits, Int.reduceNeg, RB, aalloc, Go.PW.dig_length, tf72WdM, k2, k4, k5, k7, k8, k9, k10, k11, k12, k13])
      exact ⟨us, qs, D, rfl⟩
  clear hK2 k2 k3 k4 k5 k6 k7
  obtain ⟨us, qs, k2, k4, k5, k7, k8, k9, k11, k12, D, rfl⟩ := h
  have hul := D.ul
  have hql := D.ql
  have uv := D.uv
  have qv := D.qv
  rw [List.drop_zero, Int.pow_zero, Int.ediv_one] at uv
  rw [Int.pow_zero, Int.ediv_one, Int.one_mul] at qv
  have hps := two_pos s
  have hXY : U / V = X / Y := by rw [hU, hV, Int.mul_ediv_mul_of_pos_left _ _ hps]
  have hR : U % V = X % Y * 2 ^ s := by rw [hU, hV, emod_mul_pos hps]
  rw [hR] at uv
  rw [hXY] at qv
  have hr0 := Int.emod_nonneg X (b := Y) (by omega)
  have hr1 := Int.emod_lt_of_pos X hY.1
  have hYm2 : Y < Bs ^ m := by
    have := val_bound ((dig_limbs 16 Y).take m)
    rw [val_cnt (by omega), hYv, List.length_take, dig_length, Nat.min_eq_left hm16] at this
    exact this.2
  have hqd : qs = dig 16 (X / Y) := dig_of_val D.qL hql (by have := val_bound D.qL; rw [hql, qv] at this; rw [qv, Int.emod_eq_of_lt this.1 this.2])
  have hud : ∀ j, j < n + 1 → us.getD j 0 = X % Y * 2 ^ s / Bs ^ j % Bs := by
    intro j hj
    have : us = dig (n + 1) (X % Y * 2 ^ s) := dig_of_val D.uL hul (by have := val_bound D.uL; rw [hul, uv] at this; rw [uv, Int.emod_eq_of_lt this.1 this.2])
    rw [this, getD_dig _ _ _ hj]
  have hcomm : ∀ j : Nat, X % Y * 2 ^ s / Bs ^ j / 2 ^ s = X % Y / Bs ^ j := by
    intro j
    rw [Int.ediv_ediv_of_nonneg (Int.le_of_lt (Bs_pow_pos j)), Int.mul_comm (Bs ^ j), ← Int.ediv_ediv_of_nonneg (Int.le_of_lt hps), Int.mul_ediv_cancel _ (by omega)]
  have w1 : IntKind.u64.wrap ((s : Nat) : Int) = s := u64_in (by omega) (by simp only [Bs]; omega)
  have w2 : IntKind.i64.wrap (64 - ((s : Nat) : Int)) = ((64 - s : Nat) : Int) := by rw [wrap_i64_id (by omega) (by omega)]; omega
  have w3 : IntKind.u64.wrap ((64 - s : Nat) : Int) = ((64 - s : Nat) : Int) := u64_in (by omega) (by simp only [Bs]; omega)
  have m1 : (s ≤ 64) = True := by simp; omega
  have m2 : (64 - s ≤ 64) = True := by simp
  have w8 : IntKind.u64.bits = 64 := by decide
  rw [hqd]
  refine AWp_seq_k (fun K2 hK2 => ?_)
  refine AWp_cut (fun fr' H1 => fr' 4 = .ptr (H.length + 1 + 1) 0 ∧ fr' 5 = .ptr (H.length + 1 + 1 + 1) 0 ∧ fr' 11 = .ptr (HH.length + 1 + 1) 0 ∧ fr' 12 = .ptr (HH.length + 1 + 1 + 1) 0 ∧ HH ++ [Bk us 34] ++ [Bk vs 34] ++ [Wb (X / Y)] ++ [Wb (X % Y)] = H1) ?_ (fun fr' H1 h => hK2 _ _ ?_)
  · clear hK2
    repeat' first
      | (with_reducible first | refine AWp_seq_k (fun K hK => ?_) | refine AWp_block ?_ | refine AWp_regionE ?_)
      | (simp only [thenA, inBlockA, reduceIte, Nat.reduceEqDiff])
      | ((with_reducible refine hK _ _ ?_); clear hK)
      | (simp only [ACond, RA, EAtS_def, EAtX_def, wantedA, acall, astep, ev, ofValue, ofAtom, Nat.reduceEqDiff, Nat.reduceAdd, Nat.reduceMul, Nat.reduceSub, reduceCtorEq, reduceIte, aoptEv, abin, aint, ashift, aun, astr, aeqGuard, isConstOp, aconvH, aofStr, aconvSame, isU8, abuildSlice, afill, splice, azeros, Nat.reduceLeDiff, Nat.reduceLT, Int.reduceLE, Int.reduceLT, Int.reduceEq, Int.reduceToNat, Int.reducePow, IntKind.bits, Int.reduceNeg, RB, aalloc, Go.PW.dig_length, tf72WdM, k2, k4, k5, k7, k8, k9, k11, k12])
    refine AWp_loop (fun c fr' H1 => ∃ (i : Nat) (rs : List Int), c = m - i ∧ i ≤ m ∧ fr' 4 = .ptr (H.length + 1 + 1) 0 ∧ fr' 5 = .ptr (H.length + 1 + 1 + 1) 0 ∧ fr' 8 = .int .i64 (s : Int) ∧ fr' 9 = .sl HH.length 0 (n + 1) (n + 1) ∧ fr' 11 = .ptr (HH.length + 1 + 1) 0 ∧ fr' 12 = .ptr (HH.length + 1 + 1 + 1) 0 ∧ fr' 94 = .int .i64 (m : Int) ∧ fr' 95 = .int .i64 (i : Int) ∧ rs.length = 16 ∧ (∀ j, j < i → rs.getD j 0 = X % Y / Bs ^ j % Bs) ∧ (∀ j, i ≤ j → rs.getD j 0 = 0) ∧ HH ++ [Bk us 34] ++ [Bk vs 34] ++ [Wb (X / Y)] ++ [Bk rs 36] = H1) (m := m)
      ⟨0, dig 16 0, by omega, by omega, k4, k5, k8, k9, k11, k12, rfl, rfl, dig_length _ _, fun j hj => by omega, fun j _ => getD_dig0 16 j, rfl⟩ ?_
    clear k2 k4 k5 k7 k8 k9 k11 k12
    rintro c fr' H1 ⟨i, rs, rfl, hi, k4, k5, k8, k9, k11, k12, k94, k95, hrl, hrs, hrz, rfl⟩
    have e1 : IntKind.i64.wrap ((i : Int) + 1) = ((i + 1 : Nat) : Int) := by rw [wrap_i64_id (by omega) (by omega)]; omega
    by_cases hlt : i < m
    · have hui := D.uL.get i
      have hui1 := D.uL.get (i + 1)
      have hz0 : 0 ≤ X % Y * 2 ^ s / Bs ^ i := Int.ediv_nonneg (Int.mul_nonneg hr0 (Int.le_of_lt hps)) (Int.le_of_lt (Bs_pow_pos i))
      have hjn := shr_join (z := X % Y * 2 ^ s / Bs ^ i) (s := s) (by omega) hz0
      rw [hcomm, Int.ediv_ediv_of_nonneg (Int.le_of_lt (Bs_pow_pos i)), show Bs ^ i * Bs = Bs ^ (i + 1) from (Int.pow_succ ..).symm, ← hud i (by omega), ← hud (i + 1) (by omega)] at hjn
      have ha0 : 0 ≤ us.getD i 0 / 2 ^ s := Int.ediv_nonneg hui.1 (Int.le_of_lt hps)
      by_cases hs0 : 0 < s
      · have hor := or_low (x := us.getD (i + 1) 0) (y := us.getD i 0 / 2 ^ s) (s := 64 - s) (by omega) hui1.1 ha0 (by
          apply Int.ediv_lt_of_lt_mul hps
          rw [Int.mul_comm, two_split (by omega)]
          exact hui.2)
        rw [hjn] at hor
        have hgs : (rs.set i (us.getD i 0 / 2 ^ s)).getD i 0 = us.getD i 0 / 2 ^ s := by rw [getD_set _ _ (by omega), if_pos rfl]
        repeat' first
          | (with_reducible first | refine AWp_seq_k (fun K hK => ?_) | refine AWp_block ?_ | refine AWp_skip ?_ | refine AWp_regionE ?_ | refine AWp_drawE (id := 19) [] pn72_19WdM (by kernel_rfl) (by kernel_rfl) ?_ | refine AWp_condI ?_)
          | (with_reducible refine AIte (fun hc => ?_) (fun hc => ?_) <;> (try simp only [RC] at hc) <;> (try (exfalso; first | omega | contradiction)))
          | (simp only [thenA, inBlockA, reduceIte, Nat.reduceEqDiff])
          | ((with_reducible refine hK _ _ ?_); clear hK)
          | (simp only [ACond, RA, EAtS_def, EAtX_def, wantedA, acall, astep, ev, ofValue, ofAtom, Nat.reduceEqDiff, Nat.reduceAdd, Nat.reduceMul, Nat.reduceSub, reduceCtorEq, reduceIte, aoptEv, abin, aint, ashift, aun, astr, aeqGuard, isConstOp, aconvH, aofStr, aconvSame, isU8, abuildSlice, afill, splice, azeros, Nat.reduceLeDiff, Nat.reduceLT, Int.reduceLE, Int.reduceLT, Int.reduceEq, Int.reduceToNat, Int.reducePow, IntKind.bits, Int.reduceNeg, RB, aalloc, Go.PW.dig_length, tf72WdM, k4, k5, k8, k9, k11, k12, k94, k95, e1, w1, w2, w3, m1, m2, w8, u64_wrap, hul, hrl, hgs, hor])
          | (simp (disch := first | omega | (simp only [RO]; done) | assumption) only [RS, six27, gix27, idx35, slh35, idx36, slh36])
          | (simp (disch := (first | omega | (simp only [RO]; done) | assumption | (simp only [RM, Go.PW.dig_length]; done) | (simp only [RL, Go.PW.dig_length]; omega))) only [RD, reduceCtorEq, reduceIte, Go.PW.dig_length, Nat.reduceLeDiff, Nat.reduceAdd, Nat.reduceMul, Int.reduceToNat, tf72WdM, k4, k5, k8, k9, k11, k12, k94, k95, e1, w1, w2, w3, m1, m2, w8, u64_wrap, hul, hrl, hgs, hor])
        all_goals
          refine ⟨m - (i + 1), by omega, i + 1, _, rfl, by omega, rfl, by rw [List.length_set, List.length_set]; exact hrl, ?_, ?_, rfl⟩
          · intro j hj
            rw [getD_set _ _ (by rw [List.length_set]; omega)]
            by_cases he : j = i
            · rw [if_pos he, he]
            · rw [if_neg he, getD_set _ _ (by omega), if_neg he]; exact hrs j (by omega)
          · intro j hj
            rw [getD_set _ _ (by rw [List.length_set]; omega), if_neg (by omega), getD_set _ _ (by omega), if_neg (by omega)]
            exact hrz j (by omega)
      · skip
        repeat' first
          | (with_reducible first | refine AWp_seq_k (fun K hK => ?_) | refine AWp_block ?_ | refine AWp_skip ?_ | refine AWp_regionE ?_ | refine AWp_condI ?_)
          | (with_reducible refine AIte (fun hc => ?_) (fun hc => ?_) <;> (try simp only [RC] at hc) <;> (try (exfalso; first | omega | contradiction)))
          | (simp only [thenA, inBlockA, reduceIte, Nat.reduceEqDiff])
          | ((with_reducible refine hK _ _ ?_); clear hK)
          | (simp only [ACond, RA, EAtS_def, EAtX_def, wantedA, acall, astep, ev, ofValue, ofAtom, Nat.reduceEqDiff, Nat.reduceAdd, Nat.reduceMul, Nat.reduceSub, reduceCtorEq, reduceIte, aoptEv, abin, aint, ashift, aun, astr, aeqGuard, isConstOp, aconvH, aofStr, aconvSame, isU8, abuildSlice, afill, splice, azeros, Nat.reduceLeDiff, Nat.reduceLT, Int.reduceLE, Int.reduceLT, Int.reduceEq, Int.reduceToNat, Int.reducePow, IntKind.bits, Int.reduceNeg, RB, aalloc, Go.PW.dig_length, tf72WdM, k4, k5, k8, k9, k11, k12, k94, k95, e1, w1, w2, w3, m1, m2, w8, u64_wrap, hul, hrl])
          | (simp (disch := first | omega | (simp only [RO]; done) | assumption) only [RS, six27, gix27, idx35, slh35, idx36, slh36])
          | (simp (disch := (first | omega | (simp only [RO]; done) | assumption | (simp only [RM, Go.PW.dig_length]; done) | (simp only [RL, Go.PW.dig_length]; omega))) only [RD, reduceCtorEq, reduceIte, Go.PW.dig_length, Nat.reduceLeDiff, Nat.reduceAdd, Nat.reduceMul, Int.reduceToNat, tf72WdM, k4, k5, k8, k9, k11, k12, k94, k95, e1, w1, w2, w3, m1, m2, w8, u64_wrap, hul, hrl])
        all_goals
          refine ⟨m - (i + 1), by omega, i + 1, _, rfl, by omega, rfl, by rw [List.length_set]; exact hrl, ?_, ?_, rfl⟩
          · intro j hj
            rw [getD_set _ _ (by omega)]
            by_cases he : j = i
            · rw [if_pos he, he, hud i (by omega)]
              have hs00 : s = 0 := by omega
              rw [hs00]
              simp
            · rw [if_neg he]; exact hrs j (by omega)
          · intro j hj
            rw [getD_set _ _ (by omega), if_neg (by omega)]
            exact hrz j (by omega)
    · obtain rfl : i = m := by omega
      repeat' first
        | (with_reducible first | refine AWp_seq_k (fun K hK => ?_) | refine AWp_exit ?_ | refine AWp_regionE ?_ | refine AWp_condI ?_)
        | (with_reducible refine And.intro ?_ ?_)
        | (with_reducible refine AIte (fun hc => ?_) (fun hc => ?_) <;> (try simp only [RC] at hc) <;> (try (exfalso; first | omega | contradiction)))
        | (simp only [thenA, inBlockA, reduceIte, Nat.reduceEqDiff])
        | ((with_reducible refine hK _ _ ?_); clear hK)
        | (simp only [ACond, RA, EAtS_def, EAtX_def, wantedA, acall, astep, ev, ofValue, ofAtom, Nat.reduceEqDiff, Nat.reduceAdd, Nat.reduceMul, Nat.reduceSub, reduceCtorEq, reduceIte, aoptEv, abin, aint, ashift, aun, astr, aeqGuard, isConstOp, aconvH, aofStr, aconvSame, isU8, abuildSlice, afill, splice, azeros, Nat.reduceLeDiff, Nat.reduceLT, Int.reduceLE, Int.reduceLT, Int.reduceEq, Int.reduceToNat, Int.reducePow, IntKind.bits, Int.reduceNeg, RB, aalloc, Go.PW.dig_length, tf72WdM, k4, k5, k8, k9, k11, k12, k94, k95])
      have hrd : rs = dig 16 (X % Y) := by
        refine dig_ext hrl fun j hj => ?_
        rcases Nat.lt_or_ge j i with h | h
        · exact hrs j h
        · rw [hrz j h]
          have hlt2 : X % Y < Bs ^ j := by
            have h1 : Bs ^ i ≤ Bs ^ j := by
              rw [show j = i + (j - i) by omega, Int.pow_add]
              have := Bs_pow_pos (j - i)
              have := Int.mul_le_mul_of_nonneg_left (show 1 ≤ Bs ^ (j - i) by omega) (Int.le_of_lt (Bs_pow_pos i))
              omega
            omega
          rw [Int.ediv_eq_zero_of_lt hr0 hlt2]
          rfl
      rw [hrd]
  clear hK2 k2 k4 k5 k7 k8 k9 k11 k12
  obtain ⟨k4, k5, k11, k12, rfl⟩ := h
  have hs5 : ∀ b c k, hget ((HH.set (H.length + 1 + 1) b).set (H.length + 1 + 1 + 1) c) k = if k = H.length + 1 + 1 + 1 then some c else hget (HH.set (H.length + 1 + 1) b) k := fun b c k => hget_set (by rw [List.length_set]; omega) c k
  have hs4 : ∀ b k, hget (HH.set (H.length + 1 + 1) b) k = if k = H.length + 1 + 1 then some b else hget HH k := fun b k => hget_set (by omega) b k
  have xH : Ext H HH := by rw [hHH]; exact ext6 _ _ _ _
  repeat' first
    | (with_reducible first | refine AWp_seq_k (fun K hK => ?_) | refine AWp_ret ?_ | refine AWp_drawE (id := 21) [] pn72_21WdM (by kernel_rfl) (by kernel_rfl) ?_)
    | (with_reducible refine And.intro ?_ ?_)
    | (simp only [thenA, inBlockA, reduceIte, Nat.reduceEqDiff])
    | ((with_reducible refine hK _ _ ?_); clear hK)
    | (simp only [ACond, RA, EAtS_def, EAtX_def, wantedA, acall, astep, ev, ofValue, ofAtom, Nat.reduceEqDiff, Nat.reduceAdd, Nat.reduceMul, Nat.reduceSub, reduceCtorEq, reduceIte, aoptEv, abin, aint, ashift, aun, astr, aeqGuard, isConstOp, aconvH, aofStr, aconvSame, isU8, abuildSlice, afill, splice, azeros, Nat.reduceLeDiff, Nat.reduceLT, Int.reduceLE, Int.reduceLT, Int.reduceEq, Int.reduceToNat, Int.reducePow, IntKind.bits, Int.reduceNeg, RB, aalloc, Go.PW.dig_length, tf72WdM, k4, k5, k11, k12, g4, g5, hs4, hs5])
    | (simp (disch := (first | omega | (simp only [RO]; done) | assumption | (simp only [RM, Go.PW.dig_length]; done) | (simp only [RL, Go.PW.dig_length]; omega))) only [RD, reduceCtorEq, reduceIte, Go.PW.dig_length, Nat.reduceLeDiff, Nat.reduceAdd, Nat.reduceMul, Int.reduceToNat, tf72WdM, k4, k5, k11, k12, g4, g5, hs4, hs5])
  all_goals
    (
     (refine AEnd_gen (rs := [.cell 4 36, .cell 5 36]) rfl ?_)
     (simp only [AEndR, aresults, Fr.put_some, Fr.put_none, fr0_zero, fr0_succ, fr0_nil, Nat.reduceEqDiff, reduceIte, k4, k5, hs4, hs5])
     (try simp (disch := (first | omega | (simp only [RO]; done) | assumption | (simp only [RM, Go.PW.dig_length]; done) | (simp only [RL, Go.PW.dig_length]; omega))) only [RD, reduceCtorEq, reduceIte, Go.PW.dig_length, Nat.reduceLeDiff, Nat.reduceAdd, Nat.reduceMul, Int.reduceToNat, tf72WdM, k4, k5, hs4, hs5]))
  all_goals exact ⟨((((xH.set (by omega) _).set (by omega) _).pushed _).pushed _ |>.pushed _).pushed _, W_tup2_lt _ _ _⟩
end Go.Proofs.YtfalfmfkifemeaaDoor

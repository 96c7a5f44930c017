/- Part 20 of the proof of laws of this seat: lemmas on the model's code, on this program's functions, on numbers. No condition. -/
import Derived.Test.YtfalfmfkifemeaaGreatDoorZGas
set_option linter.unusedVariables false
set_option linter.unusedSimpArgs false
open Nat renaming reduceEqDiff → J0, reduceLeDiff → J1, reduceMul → J2, reduceAdd → J3, reduceSub → J4, reduceLT → J5
open Int renaming reduceToNat → J6, reducePow → J7, reduceNeg → J8, reduceLT → J9, reduceLE → Ja, reduceEq → Jb
open And renaming intro → Jc
open Go.IntKind renaming bits → Jd
open Go.PW renaming dig_length → Je
namespace Go.Proofs.YtfalfmfkifemeaaGreatDoor
open Go.AL Go.PW
theorem W6 : type_of% (Jc @Xd (@X1)) := Jc @Xd (@X1)
set_option maxRecDepth 8000
set_option maxHeartbeats 4000000 in
theorem Rguess_calls (a b c v w : Int) (H : Hp) (ha : 0 ≤ a ∧ a < Bs) (hb : 0 ≤ b ∧ b < Bs) (hc0 : 0 ≤ c ∧ c < Bs) (hv : 0 < v ∧ v < Bs) (hw : 0 ≤ w ∧ w < Bs) : ACalls Tryz.prog 115 [.int .u64 a, .int .u64 b, .int .u64 c, .int .u64 v, .int .u64 w] H fun r H' => ∃ t, r = .int .u64 t ∧ (0 ≤ t ∧ t < Bs) ∧ (t = Bs - 1 ∨ ((a * Bs + b) * Bs + c) / (v * Bs + w) ≤ t) ∧ H = H' := by
  obtain ⟨T, hT⟩ : ∃ T, T = ((a * Bs + b) * Bs + c) / (v * Bs + w) := ⟨_, rfl⟩
  have hT0 : 0 ≤ T := by
    rw [hT]
    refine Int.ediv_nonneg ?_ ?_ <;> simp only [Bs] at * <;> omega
  rw [← hT]
  have hBd : (0 : Int) < Bs := by decide
  refine Q7 Tryz.func115 rfl (by kernel_rfl) (by kernel_rfl) ?_
  by_cases hlt : v ≤ a
  · have f1 : (v ≤ a) = True := eq_true hlt
    repeat' first
      | (with_reducible first | refine Jj (fun K hK => ?_) | refine Qj ?_ | refine Jg ?_ | refine Jz ?_)
      | (simp only [Q4, Jo, reduceIte, J0])
      | ((with_reducible refine hK _ _ ?_); clear hK)
      | (simp only [Q3, RA, Jn, Jm, Jp, Q2, Q0, ev, ofValue, Jt, J0, J3, J2, J4, reduceCtorEq, reduceIte, Ju, Qb, Qa, Jy, aun, Q9, Jk, Jh, Jx, Jw, Ji, Q8, Jf, Q1, Jr, Js, J1, J5, Ja, J9, Jb, J6, J7, Jd, J8, RB, Jv, Je, W6, f1])
    all_goals
      (
       (refine Qg (rs := [.tmp 10]) rfl ?_)
       (simp only [Qx, Qd, Fr.put_some, Fr.put_none, Qe, Qf, Qi, J0, reduceIte])
       (try simp (disch := (first | omega | (simp only [RO]; done) | assumption | (simp only [RM, Je]; done) | (simp only [RL, Je]; omega))) only [RD, reduceCtorEq, reduceIte, Je, J1, J3, J2, J6, W6]))
    all_goals first | exact ⟨18446744073709551615, rfl, by decide, .inl (by decide), rfl⟩ | exact ⟨18446744073709551615, rfl, .inl (by decide), rfl⟩ | exact ⟨18446744073709551615, rfl, by decide, .inl (by decide)⟩
  · have f1 : (v ≤ a) = False := eq_false hlt
    have hm := Int.emod_add_mul_ediv (a * Bs + b) v
    have hm0 := Int.emod_nonneg (a * Bs + b) (b := v) (by omega)
    have hm1 := Int.emod_lt_of_pos (a * Bs + b) hv.1
    have hq0 : 0 ≤ (a * Bs + b) / v := Int.ediv_nonneg (by simp only [Bs]; omega) (by omega)
    have hq1 : (a * Bs + b) / v < Bs := by
      rw [Int.ediv_lt_iff_lt_mul hv.1]
      simp only [Bs] at *
      omega
    have hst := guess_start (B := Bs) hBd ha.1 hb.1 hc0.1 hc0.2 hv.1 hw.1
    rw [← hT] at hst
    rw [Int.mul_comm v] at hm
    generalize hQ : (a * Bs + b) / v = q at *
    generalize hR : (a * Bs + b) % v = r at *
    have hdv := div64_calls a b v H ha.1 (by omega) hb hv.2
    rw [hQ, hR] at hdv
    repeat' first
      | (with_reducible first | refine Jj (fun K hK => ?_) | refine Qc ?_ | refine Q6 ?_ | refine Jg ?_ | refine Jz ?_)
      | ((with_reducible refine Jq (hdv) ?_); rintro _ _ ⟨rfl, rfl⟩)
      | (simp only [Q4, Jo, reduceIte, J0])
      | ((with_reducible refine hK _ _ ?_); clear hK)
      | (simp only [Q3, RA, Jn, Jm, Jp, Q2, Q0, ev, ofValue, Jt, J0, J3, J2, J4, reduceCtorEq, reduceIte, Ju, Qb, Qa, Jy, aun, Q9, Jk, Jh, Jx, Jw, Ji, Q8, Jf, Q1, Jr, Js, J1, J5, Ja, J9, Jb, J6, J7, Jd, J8, RB, Jv, Je, W6, f1])
    refine X2 (fun m fr' H1 => ∃ (i : Nat) (t s : Int), m = 2 - i ∧ i ≤ 2 ∧ fr' 0 = .int .u64 a ∧ fr' 1 = .int .u64 b ∧ fr' 2 = .int .u64 c ∧ fr' 3 = .int .u64 v ∧ fr' 4 = .int .u64 w ∧ fr' 11 = .int .u64 t ∧ fr' 12 = .int .u64 s ∧ fr' 13 = .int .i64 (i : Int) ∧ 0 ≤ t ∧ t < Bs ∧ 0 ≤ s ∧ s < Bs ∧ t * v + s = a * Bs + b ∧ T ≤ t ∧ H = H1) (m := 2)
      ⟨0, q, r, by omega, by omega, rfl, rfl, rfl, rfl, rfl, rfl, rfl, rfl, hq0, hq1, hm0, by omega, by omega, hst, rfl⟩ ?_
    clear hm hm0 hm1 hq0 hq1 hst hQ hR hdv
    rintro m fr' H1 ⟨i, t, s, rfl, hi, k0, k1, k2, k3, k4, k11, k12, k13, t0, t1, s0, s1, hinv, hge, rfl⟩
    by_cases hi2 : i < 2
    · have e1 : IntKind.i64.wrap ((i : Int) + 1) = ((i + 1 : Nat) : Int) := by rw [Q5 (by omega) (by omega)]; omega
      have fi : ((i : Int) < 2) = True := eq_true (by omega)
      have hqv := Uj (x := t) (y := w) (p := Bs - 1) (q := Bs - 1) ⟨t0, by omega⟩ ⟨hw.1, by omega⟩
      have htest := guess_test (p := t * w) (r := s) (u0 := c) hqv.1 hc0
      by_cases ht : t * w ≤ s * Bs + c
      · have htt := htest.2 ht
        repeat' first
          | (with_reducible first | refine Jj (fun K hK => ?_) | refine Qc ?_ | refine Q6 ?_ | refine Qz ?_ | refine Qj ?_ | refine Jg ?_ | refine Jz ?_)
          | ((with_reducible refine Jq (mul64_calls _ _ _ ⟨t0, t1⟩ hw) ?_); rintro _ _ ⟨rfl, rfl⟩)
          | (with_reducible refine Qn (fun hc => ?_) (fun hc => ?_) <;> (try simp only [RC] at hc) <;> (try (exfalso; first | omega | contradiction)))
          | (with_reducible refine X5 (fun hc => ?_) (fun hc => ?_) <;> (try simp only [RC] at hc) <;> (try (exfalso; first | omega | contradiction)))
          | (simp only [Q4, Jo, reduceIte, J0])
          | ((with_reducible refine hK _ _ ?_); clear hK)
          | (clear hK; clear hK; (with_reducible refine hK _ _ ?_); clear hK)
          | (simp only [Q3, RA, Jn, Jm, Jp, Q2, Q0, ev, ofValue, Jt, J0, J3, J2, J4, reduceCtorEq, reduceIte, Ju, Qb, Qa, Jy, aun, Q9, Jk, Jh, Jx, Jw, Ji, Q8, Jf, Q1, Jr, Js, J1, J5, Ja, J9, Jb, J6, J7, Jd, J8, RB, Jv, Je, W6, k0, k1, k2, k3, k4, k11, k12, k13, fi])
          | (simp (disch := first | omega | (simp only [RO]; done) | assumption) only [RS])
        all_goals
          (
           (refine Qg (rs := [.tmp 10]) rfl ?_)
           (simp only [Qx, Qd, Fr.put_some, Fr.put_none, Qe, Qf, Qi, J0, reduceIte, k11])
           (try simp (disch := (first | omega | (simp only [RO]; done) | assumption | (simp only [RM, Je]; done) | (simp only [RL, Je]; omega))) only [RD, reduceCtorEq, reduceIte, Je, J1, J3, J2, J6, W6, k11]))
        all_goals first | exact ⟨t, rfl, ⟨t0, t1⟩, .inr hge, rfl⟩ | exact ⟨t, rfl, .inr hge, rfl⟩ | exact ⟨t, rfl, ⟨t0, t1⟩, .inr hge⟩
      · have hd := guess_more hBd hv.1 hw.1 hinv (Int.not_le.1 ht)
        rw [← hT] at hd
        have htt := mt htest.1 ht
        have hw1 : IntKind.u64.wrap (t - 1) = t - 1 := Zt (by omega) (by omega)
        have hs0 : 0 ≤ (s + v + 0) / Bs ∧ (s + v + 0) / Bs ≤ 1 := by simp only [Bs] at *; omega
        by_cases hx : (s + v + 0) / Bs > 0
        · have fx : ((s + v + 0) / Bs > 0) = True := eq_true hx
          repeat' first
            | (with_reducible first | refine Jj (fun K hK => ?_) | refine Qc ?_ | refine Q6 ?_ | refine Qz ?_ | refine Qj ?_ | refine Jg ?_ | refine Jz ?_)
            | ((with_reducible refine Jq (mul64_calls _ _ _ ⟨t0, t1⟩ hw) ?_); rintro _ _ ⟨rfl, rfl⟩)
            | ((with_reducible refine Xo (K1 _ _ _ _ s0 (Int.le_of_lt hv.1) (by decide)) ?_); rintro _ _ ⟨rfl, rfl⟩)
            | (with_reducible refine Qn (fun hc => ?_) (fun hc => ?_) <;> (try simp only [RC] at hc) <;> (try (exfalso; first | omega | contradiction)))
            | (with_reducible refine X5 (fun hc => ?_) (fun hc => ?_) <;> (try simp only [RC] at hc) <;> (try (exfalso; first | omega | contradiction)))
            | (simp only [Q4, Jo, reduceIte, J0])
            | ((with_reducible refine hK _ _ ?_); clear hK)
            | (clear hK; clear hK; (with_reducible refine hK _ _ ?_); clear hK)
            | (simp only [Q3, RA, Jn, Jm, Jp, Q2, Q0, ev, ofValue, Jt, J0, J3, J2, J4, reduceCtorEq, reduceIte, Ju, Qb, Qa, Jy, aun, Q9, Jk, Jh, Jx, Jw, Ji, Q8, Jf, Q1, Jr, Js, J1, J5, Ja, J9, Jb, J6, J7, Jd, J8, RB, Jv, Je, W6, k0, k1, k2, k3, k4, k11, k12, k13, fi, hw1, fx])
            | (simp (disch := first | omega | (simp only [RO]; done) | assumption) only [RS])
          all_goals
            (
             (refine Qg (rs := [.tmp 10]) rfl ?_)
             (simp only [Qx, Qd, Fr.put_some, Fr.put_none, Qe, Qf, Qi, J0, reduceIte, k11])
             (try simp (disch := (first | omega | (simp only [RO]; done) | assumption | (simp only [RM, Je]; done) | (simp only [RL, Je]; omega))) only [RD, reduceCtorEq, reduceIte, Je, J1, J3, J2, J6, W6, k11]))
          all_goals first | exact ⟨t - 1, rfl, ⟨by omega, by omega⟩, .inr (by omega), rfl⟩ | exact ⟨t - 1, rfl, .inr (by omega), rfl⟩ | exact ⟨t - 1, rfl, ⟨by omega, by omega⟩, .inr (by omega)⟩
        · have fx : ((s + v + 0) / Bs > 0) = False := eq_false hx
          have hs2 : (s + v + 0) % Bs = s + v := by simp only [Bs] at *; omega
          repeat' first
            | (with_reducible first | refine Jj (fun K hK => ?_) | refine Qc ?_ | refine Q6 ?_ | refine Jg ?_ | refine Jz ?_)
            | ((with_reducible refine Jq (mul64_calls _ _ _ ⟨t0, t1⟩ hw) ?_); rintro _ _ ⟨rfl, rfl⟩)
            | ((with_reducible refine Xo (K1 _ _ _ _ s0 (Int.le_of_lt hv.1) (by decide)) ?_); rintro _ _ ⟨rfl, rfl⟩)
            | (with_reducible refine Qn (fun hc => ?_) (fun hc => ?_) <;> (try simp only [RC] at hc) <;> (try (exfalso; first | omega | contradiction)))
            | (with_reducible refine X5 (fun hc => ?_) (fun hc => ?_) <;> (try simp only [RC] at hc) <;> (try (exfalso; first | omega | contradiction)))
            | (simp only [Q4, Jo, reduceIte, J0])
            | ((with_reducible refine hK _ _ ?_); clear hK)
            | (simp only [Q3, RA, Jn, Jm, Jp, Q2, Q0, ev, ofValue, Jt, J0, J3, J2, J4, reduceCtorEq, reduceIte, Ju, Qb, Qa, Jy, aun, Q9, Jk, Jh, Jx, Jw, Ji, Q8, Jf, Q1, Jr, Js, J1, J5, Ja, J9, Jb, J6, J7, Jd, J8, RB, Jv, Je, W6, k0, k1, k2, k3, k4, k11, k12, k13, fi, hw1, fx, e1, hs2])
            | (simp (disch := first | omega | (simp only [RO]; done) | assumption) only [RS])
          all_goals
            refine ⟨_, by omega, i + 1, t - 1, s + v, rfl, by omega, rfl, rfl, rfl, by omega, by omega, by omega, by simp only [Bs] at *; omega, ?_, by omega⟩
            rw [Int.sub_mul, Int.one_mul]
            omega
    · obtain rfl : i = 2 := by omega
      repeat' first
        | (with_reducible first | refine Jj (fun K hK => ?_) | refine Qz ?_ | refine Qj ?_ | refine Jg ?_ | refine Jz ?_)
        | (simp only [Q4, Jo, reduceIte, J0])
        | ((with_reducible refine hK _ _ ?_); clear hK)
        | (clear hK; (with_reducible refine hK _ _ ?_); clear hK)
        | (simp only [Q3, RA, Jn, Jm, Jp, Q2, Q0, ev, ofValue, Jt, J0, J3, J2, J4, reduceCtorEq, reduceIte, Ju, Qb, Qa, Jy, aun, Q9, Jk, Jh, Jx, Jw, Ji, Q8, Jf, Q1, Jr, Js, J1, J5, Ja, J9, Jb, J6, J7, Jd, J8, RB, Jv, Je, W6, k0, k1, k2, k3, k4, k11, k12, k13])
      all_goals
        (
         (refine Qg (rs := [.tmp 10]) rfl ?_)
         (simp only [Qx, Qd, Fr.put_some, Fr.put_none, Qe, Qf, Qi, J0, reduceIte, k11])
         (try simp (disch := (first | omega | (simp only [RO]; done) | assumption | (simp only [RM, Je]; done) | (simp only [RL, Je]; omega))) only [RD, reduceCtorEq, reduceIte, Je, J1, J3, J2, J6, W6, k11]))
      all_goals first | exact ⟨t, rfl, ⟨t0, t1⟩, .inr hge, rfl⟩ | exact ⟨t, rfl, .inr hge, rfl⟩ | exact ⟨t, rfl, ⟨t0, t1⟩, .inr hge⟩
end Go.Proofs.YtfalfmfkifemeaaGreatDoor
namespace Go.Proofs.YtfalfmfkifemeaaGreatDoor
open Go.AL Go.PW
theorem Ni : type_of% (Jc @Xd (Jc @X1 (@Xj))) := Jc @Xd (Jc @X1 (@Xj))
abbrev pn116_7RfU : Plan := (.one 0 (.one 1 (.one 2 (.one 3 (.one 4 (.one 5 (.one 6 (.one 7 (.one 8 (.one 9 (.one 10 (.one 11 (.one 12 (.one 13 (.one 14 .nil)))))))))))))))
set_option maxRecDepth 8000
theorem dig_by {ys : List Int} {n : Nat} {x : Int} (hl : ys.length = n) (h : ∀ j, j < n → ys.getD j 0 = x / Bs ^ j % Bs) : ys = dig n x := by
  apply List.ext_getElem
  · rw [hl, dig_length]
  · intro j h1 h2
    have a := h j (by omega)
    have b := W8 n x j (by omega)
    rw [List.getD_eq_getElem?_getD, List.getElem?_eq_getElem h1] at a
    rw [List.getD_eq_getElem?_getD, List.getElem?_eq_getElem h2] at b
    simp only [Option.getD_some] at a b
    rw [a, b]
theorem getD_val {xs : List Int} (hx : Limbs xs) (i : Nat) : val xs / Bs ^ i % Bs = xs.getD i 0 := by
  rcases Nat.lt_or_ge i xs.length with h | h
  · have h1 := W8 xs.length (val xs) i h
    rw [Ri hx] at h1
    exact h1.symm
  · have hb := Xa hx
    have h2 : Bs ^ xs.length ≤ Bs ^ i := Wv h
    rw [Int.ediv_eq_zero_of_lt hb.1 (by omega), Ux h]
    rfl
set_option maxHeartbeats 4000000 in
theorem Rright_calls (t : AV) (xs : List Int) (s : Nat) (H : Hp) (ht : Ints H .u64 t xs) (hx : Limbs xs) (lx : xs.length < 90000) (hs : s < 64) : ACalls Tryz.prog 116 [t, .int .i64 (s : Int)] H fun r H' => ∃ zs, Uv H' r zs ∧ Can zs ∧ val zs = val xs / 2 ^ s ∧ Ext H H' := by
  have l1 := ht.rd.len Z4
  obtain ⟨n, hn⟩ : ∃ n, n = xs.length := ⟨_, rfl⟩
  rw [← hn] at l1
  have hmk := fun H0 => Gg H0 n .i64 (by omega)
  have hb := Xa hx
  have hps := Z0 s
  have w8 : IntKind.u64.bits = 64 := by decide
  have m1 : (s ≤ 64) = True := eq_true (by omega)
  have m2 : (64 - s ≤ 64) = True := eq_true (by omega)
  have f0 : ((s : Int) < 0) = False := eq_false (by omega)
  have f1 : (((64 - s : Nat) : Int) < 0) = False := eq_false (by omega)
  have w2 : IntKind.i64.wrap (64 - (s : Int)) = ((64 - s : Nat) : Int) := by rw [Q5 (by omega) (by omega)]; omega
  have hdg : ∀ i : Nat, xs.getD i 0 / 2 ^ s + xs.getD (i + 1) 0 * 2 ^ (64 - s) % Bs = val xs / 2 ^ s / Bs ^ i % Bs := by
    intro i
    have hz0 : 0 ≤ val xs / Bs ^ i := Int.ediv_nonneg hb.1 (Int.le_of_lt (Xc i))
    have h := shr_join (z := val xs / Bs ^ i) (s := s) (by omega) hz0
    have e1 : val xs / Bs ^ i / Bs = val xs / Bs ^ (i + 1) := by rw [Int.ediv_ediv_of_nonneg (Int.le_of_lt (Xc i)), ← Int.pow_succ]
    have e2 : val xs / Bs ^ i / 2 ^ s = val xs / 2 ^ s / Bs ^ i := by
      rw [Int.ediv_ediv_of_nonneg (Int.le_of_lt (Xc i)), Int.ediv_ediv_of_nonneg (Int.le_of_lt hps), Int.mul_comm]
    rw [e1, e2, getD_val hx, getD_val hx] at h
    exact h
  refine Q7 Tryz.func116 rfl (by kernel_rfl) (by kernel_rfl) ?_
  repeat' first
    | (with_reducible first | refine Jj (fun K hK => ?_) | refine Qc ?_ | refine Jg ?_)
    | (simp only [Q4, Jo, reduceIte, J0])
    | ((with_reducible refine hK _ _ ?_); clear hK)
    | (simp only [Q3, RA, Jn, Jm, Jp, Q2, Q0, ev, ofValue, Jt, J0, J3, J2, J4, reduceCtorEq, reduceIte, Ju, Qb, Qa, Jy, aun, Q9, Jk, Jh, Jx, Jw, Ji, Q8, Jf, Q1, Jr, Js, J1, J5, Ja, J9, Jb, J6, J7, Jd, J8, RB, Jv, Je, Ni, l1, hmk])
  refine X2 (fun m fr' H1 => ∃ (i : Nat) (os : List Int), m = n - i ∧ i ≤ n ∧ fr' 0 = t ∧ fr' 1 = .int .i64 (s : Int) ∧ fr' 5 = .sl H.length 0 n n ∧ fr' 6 = .int .i64 (i : Int) ∧ os.length = n ∧ Limbs os ∧ (∀ k, k < i → os.getD k 0 = val xs / 2 ^ s / Bs ^ k % Bs) ∧ H ++ [Ub os] = H1) (m := n)
    ⟨0, List.replicate n 0, by omega, by omega, rfl, rfl, rfl, rfl, by simp, Limbs.replicate n, fun k hk => by omega, rfl⟩ ?_
  rintro m fr' H1 ⟨i, os, rfl, hi, k0, k1, k5, k6, hol, hos, hok, rfl⟩
  have hg : ∀ ys, Qt (H ++ [Ub ys]) H.length = some (Ub ys) := fun ys => Qo rfl
  by_cases hlt : i < n
  · have e1 : IntKind.i64.wrap ((i : Int) + 1) = ((i + 1 : Nat) : Int) := by rw [Q5 (by omega) (by omega)]; omega
    have hd := hx.get i
    have hd1 := hx.get (i + 1)
    have hset : ∀ ys z, (H ++ [Ub ys]).set H.length (Ub z) = H ++ [Ub z] := fun ys z => by
      rw [List.set_append_right _ _ (Nat.le_refl _), Nat.sub_self]; rfl
    obtain ⟨v, hv⟩ : ∃ v, v = xs.getD i 0 / 2 ^ s := ⟨_, rfl⟩
    have hv0 : 0 ≤ v := by rw [hv]; exact Int.ediv_nonneg hd.1 (Int.le_of_lt hps)
    have hv1 : v < 2 ^ (64 - s) := by
      rw [hv]
      apply Int.ediv_lt_of_lt_mul hps
      rw [Int.mul_comm, Ve (by omega)]
      exact hd.2
    have hvB : v < Bs := by
      have h1 := Int.ediv_le_self (b := 2 ^ s) (a := xs.getD i 0) hd.1
      omega
    have st := Yp (hg os) (i := i) (by omega) v
    rw [hset] at st
    have hdi := hdg i
    rw [← hv] at hdi
    by_cases hc2 : 0 < s ∧ i + 1 < n
    · obtain ⟨c1, c2⟩ := hc2
      have g1 : ((s : Int) > 0) = True := eq_true (by omega)
      have g2 : (((i + 1 : Nat) : Int) < (n : Int)) = True := eq_true (by omega)
      have hor := or_low (x := xs.getD (i + 1) 0) (y := v) (s := 64 - s) (by omega) hd1.1 hv0 hv1
      rw [hdi] at hor
      have hgs : (os.set i v).getD i 0 = v := by rw [Xf _ _ (by omega), if_pos rfl]
      have ld := Yu (hg (os.set i v)) (i := i) (by rw [List.length_set]; omega)
      rw [hgs] at ld
      have st2 := Yp (hg (os.set i v)) (i := i) (by rw [List.length_set]; omega) (val xs / 2 ^ s / Bs ^ i % Bs)
      rw [hset] at st2
      repeat' first
        | (with_reducible first | refine Jj (fun K hK => ?_) | refine Qc ?_ | refine Q6 ?_ | refine Jg ?_ | refine Qw (id := 7) [] pn116_7RfU (by kernel_rfl) (by kernel_rfl) ?_ | refine Jz ?_)
        | (with_reducible refine Qn (fun hc => ?_) (fun hc => ?_) <;> (try simp only [RC] at hc) <;> (try (exfalso; first | omega | contradiction)))
        | (with_reducible refine X5 (fun hc => ?_) (fun hc => ?_) <;> (try simp only [RC] at hc) <;> (try (exfalso; first | omega | contradiction)))
        | (simp only [Q4, Jo, reduceIte, J0])
        | ((with_reducible refine hK _ _ ?_); clear hK)
        | (simp only [Q3, RA, Jn, Jm, Jp, Q2, Q0, ev, ofValue, Jt, J0, J3, J2, J4, reduceCtorEq, reduceIte, Ju, Qb, Qa, Jy, aun, Q9, Jk, Jh, Jx, Jw, Ji, Q8, Jf, Q1, Jr, Js, J1, J5, Ja, J9, Jb, J6, J7, Jd, J8, RB, Jv, Je, Ni, l1, k0, k1, k5, k6, e1, f0, f1, m1, m2, w2, w8, ← hv, Zb, st, g1, g2, ld, hor, st2])
        | (simp (disch := first | omega | (simp only [RO]; done) | assumption) only [RS, ht.rd.at1 Z4 Xt, (ht.push _).load1 Y0, X6, X7])
      all_goals
        refine ⟨_, by omega, i + 1, _, rfl, by omega, rfl, by rw [List.length_set, List.length_set]; exact hol, (hos.set i ⟨hv0, hvB⟩).set i ⟨Int.emod_nonneg _ (by decide), Int.emod_lt_of_pos _ (by decide)⟩, fun k hk => ?_, rfl⟩
        rw [Xf _ _ (by rw [List.length_set]; omega)]
        by_cases e : k = i
        · rw [if_pos e, e]
        · rw [if_neg e, Xf _ _ (by omega), if_neg e]; exact hok k (by omega)
    · have hdv : v = val xs / 2 ^ s / Bs ^ i % Bs := by
        rw [← hdi]
        by_cases c1 : 0 < s
        · rw [Ux (xs := xs) (i := i + 1) (by omega), Int.zero_mul]
          simp
        · obtain rfl : s = 0 := by omega
          have : xs.getD (i + 1) 0 * 2 ^ (64 - 0) % Bs = 0 := by
            have e : (2 : Int) ^ (64 - 0) = Bs := by decide
            rw [e, Int.mul_emod_left]
          rw [this, Int.add_zero]
      have fin : ∃ m' < n - i, ∃ (i_1 : Nat) (os_1 : List Int), m' = n - i_1 ∧ i_1 ≤ n ∧ AV.int .i64 ((i + 1 : Nat) : Int) = AV.int .i64 (i_1 : Int) ∧ os_1.length = n ∧ Limbs os_1 ∧ (∀ k, k < i_1 → os_1.getD k 0 = val xs / 2 ^ s / Bs ^ k % Bs) ∧ H ++ [Ub os_1] = H ++ [Ub (os.set i v)] := by
        refine ⟨_, by omega, i + 1, os.set i v, rfl, by omega, rfl, by rw [List.length_set]; exact hol, hos.set i ⟨hv0, hvB⟩, fun k hk => ?_, rfl⟩
        rw [Xf _ _ (by omega)]
        by_cases e : k = i
        · rw [if_pos e, e]; exact hdv
        · rw [if_neg e]; exact hok k (by omega)
      by_cases c1 : 0 < s
      · have g1 : ((s : Int) > 0) = True := eq_true (by omega)
        have g2 : (((i + 1 : Nat) : Int) < (n : Int)) = False := eq_false (by omega)
        repeat' first
          | (with_reducible first | refine Jj (fun K hK => ?_) | refine Qc ?_ | refine Q6 ?_ | refine Jg ?_ | refine Jz ?_)
          | (with_reducible refine Qn (fun hc => ?_) (fun hc => ?_) <;> (try simp only [RC] at hc) <;> (try (exfalso; first | omega | contradiction)))
          | (with_reducible refine X5 (fun hc => ?_) (fun hc => ?_) <;> (try simp only [RC] at hc) <;> (try (exfalso; first | omega | contradiction)))
          | (simp only [Q4, Jo, reduceIte, J0])
          | ((with_reducible refine hK _ _ ?_); clear hK)
          | (simp only [Q3, RA, Jn, Jm, Jp, Q2, Q0, ev, ofValue, Jt, J0, J3, J2, J4, reduceCtorEq, reduceIte, Ju, Qb, Qa, Jy, aun, Q9, Jk, Jh, Jx, Jw, Ji, Q8, Jf, Q1, Jr, Js, J1, J5, Ja, J9, Jb, J6, J7, Jd, J8, RB, Jv, Je, Ni, l1, k0, k1, k5, k6, e1, f0, m1, w8, ← hv, st, g1, g2])
          | (simp (disch := first | omega | (simp only [RO]; done) | assumption) only [RS, ht.rd.at1 Z4 Xt, (ht.push _).load1 Y0, X6, X7])
        all_goals simpa using fin
      · have g1 : ((s : Int) > 0) = False := eq_false (by omega)
        repeat' first
          | (with_reducible first | refine Jj (fun K hK => ?_) | refine Qc ?_ | refine Q6 ?_ | refine Jg ?_ | refine Jz ?_)
          | (with_reducible refine Qn (fun hc => ?_) (fun hc => ?_) <;> (try simp only [RC] at hc) <;> (try (exfalso; first | omega | contradiction)))
          | (with_reducible refine X5 (fun hc => ?_) (fun hc => ?_) <;> (try simp only [RC] at hc) <;> (try (exfalso; first | omega | contradiction)))
          | (simp only [Q4, Jo, reduceIte, J0])
          | ((with_reducible refine hK _ _ ?_); clear hK)
          | (simp only [Q3, RA, Jn, Jm, Jp, Q2, Q0, ev, ofValue, Jt, J0, J3, J2, J4, reduceCtorEq, reduceIte, Ju, Qb, Qa, Jy, aun, Q9, Jk, Jh, Jx, Jw, Ji, Q8, Jf, Q1, Jr, Js, J1, J5, Ja, J9, Jb, J6, J7, Jd, J8, RB, Jv, Je, Ni, l1, k0, k1, k5, k6, e1, f0, m1, w8, ← hv, st, g1])
          | (simp (disch := first | omega | (simp only [RO]; done) | assumption) only [RS, ht.rd.at1 Z4 Xt, (ht.push _).load1 Y0, X6, X7])
        all_goals simpa using fin
  · obtain rfl : i = n := by omega
    have htr := trim_calls H.length i i os (H ++ [Ub os]) (hg os) (by omega) (Nat.le_refl _) (by omega)
    repeat' first
      | (with_reducible first | refine Jj (fun K hK => ?_) | refine Qz ?_ | refine Qj ?_ | refine Jg ?_ | refine Jz ?_)
      | ((with_reducible refine Jq (htr) ?_); rintro _ _ ⟨rfl, rfl⟩)
      | (with_reducible refine X5 (fun hc => ?_) (fun hc => ?_) <;> (try simp only [RC] at hc) <;> (try (exfalso; first | omega | contradiction)))
      | (simp only [Q4, Jo, reduceIte, J0])
      | ((with_reducible refine hK _ _ ?_); clear hK)
      | (clear hK; (with_reducible refine hK _ _ ?_); clear hK)
      | (simp only [Q3, RA, Jn, Jm, Jp, Q2, Q0, ev, ofValue, Jt, J0, J3, J2, J4, reduceCtorEq, reduceIte, Ju, Qb, Qa, Jy, aun, Q9, Jk, Jh, Jx, Jw, Ji, Q8, Jf, Q1, Jr, Js, J1, J5, Ja, J9, Jb, J6, J7, Jd, J8, RB, Jv, Je, Ni, l1, k0, k1, k5, k6])
    all_goals
      (
       (refine Qg (rs := [.tmp 4]) rfl ?_)
       (simp only [Qx, Qd, Fr.put_some, Fr.put_none, Qe, Qf, Qi, J0, reduceIte])
       (try simp (disch := (first | omega | (simp only [RO]; done) | assumption | (simp only [RM, Je]; done) | (simp only [RL, Je]; omega))) only [RD, reduceCtorEq, reduceIte, Je, J1, J3, J2, J6, Ni]))
    have hall : os.take i = os := List.take_of_length_le (by omega)
    have hod := dig_by hol hok
    have hq0 : 0 ≤ val xs / 2 ^ s := Int.ediv_nonneg hb.1 (Int.le_of_lt hps)
    have hq1 : val xs / 2 ^ s ≤ val xs := Int.ediv_le_self _ hb.1
    have hvo : val os = val xs / 2 ^ s := by
      rw [hod, Uo, Int.emod_eq_of_lt hq0 (by rw [hn]; omega)]
    all_goals
      refine ⟨os.take (tl os i), Uv.front (hg os) (by have := Ur os i; omega) (Ur os i), J0e hos i (by omega) (by omega), ?_, Ext.push _ _⟩
      rw [Nw _ _ (by omega), hall]
      exact hvo
end Go.Proofs.YtfalfmfkifemeaaGreatDoor
namespace Go.Proofs.YtfalfmfkifemeaaGreatDoor
open Go.AL Go.PW
theorem tf82RfV : type_of% (Jc @Xd (Jc @X1 (@Xj))) := Jc @Xd (Jc @X1 (@Xj))
abbrev pn82_8RfV : Plan := (.one 0 (.one 1 (.one 2 (.one 3 (.one 4 (.one 5 (.one 6 (.one 7 (.one 8 (.one 9 (.one 10 (.one 11 (.one 12 (.one 13 (.one 14 (.one 15 .nil))))))))))))))))
abbrev pn82_10RfV : Plan := (.one 0 (.one 1 (.one 2 (.one 3 (.one 4 (.one 5 (.one 6 (.one 7 (.one 8 (.one 9 (.one 10 (.one 11 (.one 12 (.one 13 (.one 14 (.one 15 (.one 16 (.one 17 .nil))))))))))))))))))
set_option maxRecDepth 8000
theorem or_zero {v : Int} (h0 : 0 ≤ v) (h1 : v < Bs) : bits .or .u64 0 v = v := by
  have h := or_low (x := v) (y := 0) (s := 0) (by omega) h0 (Int.le_refl _) (by decide)
  rw [Int.pow_zero, Int.mul_one, Int.emod_eq_of_lt h0 h1, Int.zero_add] at h
  exact h
set_option maxHeartbeats 4000000 in
theorem Rleft_calls (t : AV) (xs : List Int) (s : Nat) (H : Hp) (ht : Ints H .u64 t xs) (hx : Limbs xs) (l0 : 0 < xs.length) (lx : xs.length < 90000) (hs : s < 64) : ACalls Tryz.prog 82 [t, .int .i64 (s : Int)] H fun r H' => ∃ os, r = .sl H.length 0 (tl os (xs.length + 1)) (xs.length + 1) ∧ os.length = xs.length + 1 ∧ Limbs os ∧ val os = val xs * 2 ^ s ∧ H ++ [Ub os] = H' := by
  have l1 := ht.rd.len Z4
  obtain ⟨n, hn⟩ : ∃ n, n = xs.length := ⟨_, rfl⟩
  rw [← hn] at l1 ⊢
  have fz : ((n : Int) = 0) = False := eq_false (by omega)
  have hmk := fun H0 => Gg H0 (n + 1) .i64 (by omega)
  have hps := Z0 s
  have w8 : IntKind.u64.bits = 64 := by decide
  have m1 : (s ≤ 64) = True := eq_true (by omega)
  have m2 : (64 - s ≤ 64) = True := eq_true (by omega)
  have f0 : ((s : Int) < 0) = False := eq_false (by omega)
  have f1 : (((64 - s : Nat) : Int) < 0) = False := eq_false (by omega)
  have w2 : IntKind.i64.wrap (64 - (s : Int)) = ((64 - s : Nat) : Int) := by rw [Q5 (by omega) (by omega)]; omega
  have d1 : IntKind.i64.wrap ((s : Int).tdiv 64) = 0 := by
    rw [Int.tdiv_eq_ediv_of_nonneg (by omega), Int.ediv_eq_zero_of_lt (by omega) (by omega)]; decide
  have d2 : (s : Int).tmod 64 = (s : Int) := by rw [Int.tmod_eq_emod_of_nonneg (by omega), Int.emod_eq_of_lt (by omega) (by omega)]
  have a1 : IntKind.i64.wrap ((n : Int) + 0) = (n : Int) := by rw [Int.add_zero]; exact Q5 (by omega) (by omega)
  have a2 : IntKind.i64.wrap ((n : Int) + 1) = ((n + 1 : Nat) : Int) := by rw [Q5 (by omega) (by omega)]; omega
  refine Q7 Tryz.func82 rfl (by kernel_rfl) (by kernel_rfl) ?_
  repeat' first
    | (with_reducible first | refine Jj (fun K hK => ?_) | refine Qc ?_ | refine Q6 ?_ | refine Jg ?_ | refine Jz ?_)
    | (simp only [Q4, Jo, reduceIte, J0])
    | ((with_reducible refine hK _ _ ?_); clear hK)
    | (simp only [Q3, RA, Jn, Jm, Jp, Q2, Q0, ev, ofValue, Jt, J0, J3, J2, J4, reduceCtorEq, reduceIte, Ju, Qb, Qa, Jy, aun, Q9, Jk, Jh, Jx, Jw, Ji, Q8, Jf, Q1, Jr, Js, J1, J5, Ja, J9, Jb, J6, J7, Jd, J8, RB, Jv, Je, tf82RfV, l1, fz, d1, d2, a1, a2, hmk])
  refine X2 (fun m fr' H1 => ∃ (i : Nat) (os : List Int), m = n - i ∧ i ≤ n ∧ fr' 0 = t ∧ fr' 1 = .int .i64 (s : Int) ∧ fr' 5 = .sl H.length 0 (n + 1) (n + 1) ∧ fr' 6 = .int .i64 (s : Int) ∧ fr' 7 = .int .i64 (i : Int) ∧ os.length = n + 1 ∧ Limbs os ∧ (∀ k, i < k → os.getD k 0 = 0) ∧ os.getD i 0 < 2 ^ s ∧ val os = val (xs.take i) * 2 ^ s ∧ H ++ [Ub os] = H1) (m := n)
    ⟨0, List.replicate (n + 1) 0, by omega, by omega, rfl, rfl, rfl, rfl, rfl, by simp, Limbs.replicate _, fun k _ => by simp [List.getD, List.getElem?_replicate]; split <;> rfl, by simp [List.getD]; exact hps, by rw [Kg]; simp [val], rfl⟩ ?_
  rintro m fr' H1 ⟨i, os, rfl, hi, k0, k1, k5, k6, k7, hol, hos, hok, hoi, hov, rfl⟩
  have hg : ∀ ys, Qt (H ++ [Ub ys]) H.length = some (Ub ys) := fun ys => Qo rfl
  by_cases hlt : i < n
  · have e0 : IntKind.i64.wrap ((i : Int) + 0) = (i : Int) := by rw [Int.add_zero]; exact Q5 (by omega) (by omega)
    have e1 : IntKind.i64.wrap ((i : Int) + 1) = ((i + 1 : Nat) : Int) := by rw [Q5 (by omega) (by omega)]; omega
    have hd := hx.get i
    have hoi0 := hos.get i
    have hset : ∀ ys z, (H ++ [Ub ys]).set H.length (Ub z) = H ++ [Ub z] := fun ys z => by
      rw [List.set_append_right _ _ (Nat.le_refl _), Nat.sub_self]; rfl
    obtain ⟨sp1, sp2⟩ := shl_split (x := xs.getD i 0) (s := s) (by omega) hd.1
    have hsh := shr_lt (x := xs.getD i 0) (s := s) (by omega) hd.2
    have hsh0 : 0 ≤ xs.getD i 0 / 2 ^ (64 - s) := Int.ediv_nonneg hd.1 (Int.le_of_lt (Z0 _))
    have hor := or_low (x := xs.getD i 0) (y := os.getD i 0) (s := s) hs hd.1 hoi0.1 hoi
    obtain ⟨a, ha⟩ : ∃ a, a = xs.getD i 0 * 2 ^ s % Bs := ⟨_, rfl⟩
    obtain ⟨b, hb⟩ : ∃ b, b = xs.getD i 0 / 2 ^ (64 - s) := ⟨_, rfl⟩
    rw [← ha] at hor sp1
    rw [← hb] at sp1 hsh hsh0
    have ha0 : 0 ≤ a := by rw [ha]; exact Int.emod_nonneg _ (by decide)
    have haB : os.getD i 0 + a < Bs := by
      have h1 : bits .or .u64 (os.getD i 0) a = os.getD i 0 + a := hor
      have h2 : a ≤ Bs - 2 ^ s := by
        rw [ha, sp2]
        have h3 := Int.emod_lt_of_pos (xs.getD i 0) (Z0 (64 - s))
        have h4 := Int.mul_le_mul_of_nonneg_right (show xs.getD i 0 % 2 ^ (64 - s) ≤ 2 ^ (64 - s) - 1 by omega) (Int.le_of_lt hps)
        have h5 := Ve (s := s) (by omega)
        rw [Int.sub_mul, Int.mul_comm (2 ^ (64 - s)), h5] at h4
        omega
      omega
    have hbB : b < Bs := by
      have h5 := Ve (s := s) (by omega)
      have := Int.mul_le_mul_of_nonneg_left (show (1 : Int) ≤ 2 ^ (64 - s) by have := Z0 (64 - s); omega) (Int.le_of_lt hps)
      omega
    have ld := Yu (hg os) (i := i) (by omega)
    have st := Yp (hg os) (i := i) (by omega) (os.getD i 0 + a)
    rw [hset] at st
    have hvt := Xb xs (i := i) (by omega)
    have hv1 := Yw os (i := i) (by omega) (os.getD i 0 + a)
    by_cases c1 : 0 < s
    · have g1 : ((s : Int) > 0) = True := eq_true (by omega)
      have hz : (os.set i (os.getD i 0 + a)).getD (i + 1) 0 = 0 := by rw [Xf _ _ (by omega), if_neg (by omega)]; exact hok _ (by omega)
      have ld2 := Yu (hg (os.set i (os.getD i 0 + a))) (i := i + 1) (by rw [List.length_set]; omega)
      rw [hz] at ld2
      have hoz := or_zero hsh0 hbB
      have st2 := Yp (hg (os.set i (os.getD i 0 + a))) (i := i + 1) (by rw [List.length_set]; omega) b
      rw [hset] at st2
      have hv2 := Yw (os.set i (os.getD i 0 + a)) (i := i + 1) (by rw [List.length_set]; omega) b
      repeat' first
        | (with_reducible first | refine Jj (fun K hK => ?_) | refine Qc ?_ | refine Q6 ?_ | refine Jg ?_ | refine Qw (id := 8) [] pn82_8RfV (by kernel_rfl) (by kernel_rfl) ?_ | refine Qw (id := 10) [] pn82_10RfV (by kernel_rfl) (by kernel_rfl) ?_ | refine Jz ?_)
        | (with_reducible refine X5 (fun hc => ?_) (fun hc => ?_) <;> (try simp only [RC] at hc) <;> (try (exfalso; first | omega | contradiction)))
        | (simp only [Q4, Jo, reduceIte, J0])
        | ((with_reducible refine hK _ _ ?_); clear hK)
        | (simp only [Q3, RA, Jn, Jm, Jp, Q2, Q0, ev, ofValue, Jt, J0, J3, J2, J4, reduceCtorEq, reduceIte, Ju, Qb, Qa, Jy, aun, Q9, Jk, Jh, Jx, Jw, Ji, Q8, Jf, Q1, Jr, Js, J1, J5, Ja, J9, Jb, J6, J7, Jd, J8, RB, Jv, Je, tf82RfV, l1, k0, k1, k5, k6, k7, e0, e1, d1, f0, f1, m1, m2, w2, w8, Zb, ← ha, ← hb, ld, hor, st, g1, ld2, hoz, st2])
        | (simp (disch := first | omega | (simp only [RO]; done) | assumption) only [RS, ht.rd.at1 Z4 Xt, (ht.push _).load1 Y0, X6, X7])
      all_goals
        refine ⟨_, by omega, i + 1, _, rfl, by omega, rfl, by rw [List.length_set, List.length_set]; exact hol, (hos.set i ⟨by omega, haB⟩).set (i + 1) ⟨hsh0, hbB⟩, fun k hk => ?_, ?_, ?_, rfl⟩
        · rw [Xf _ _ (by rw [List.length_set]; omega), if_neg (by omega), Xf _ _ (by omega), if_neg (by omega)]; exact hok k (by omega)
        · rw [Xf _ _ (by rw [List.length_set]; omega), if_pos rfl]; exact hsh
        · rw [hv2, hz, hv1, hov, hvt, Int.pow_succ, Int.add_mul]
          have e : Bs ^ i * xs.getD i 0 * 2 ^ s = Bs ^ i * (a + Bs * b) := by rw [Int.mul_assoc, sp1]
          rw [e]
          generalize Bs ^ i = p at *
          generalize Bs = B at *
          grind
    · have g1 : ((s : Int) > 0) = False := eq_false (by omega)
      have hs0 : s = 0 := by omega
      have hb0 : b = 0 := by
        rw [hb]
        exact Int.ediv_eq_zero_of_lt hd.1 (by have e : (2 : Int) ^ (64 - s) = Bs := by rw [hs0]; decide
                                              rw [e]; exact hd.2)
      repeat' first
        | (with_reducible first | refine Jj (fun K hK => ?_) | refine Qc ?_ | refine Q6 ?_ | refine Jg ?_ | refine Qw (id := 8) [] pn82_8RfV (by kernel_rfl) (by kernel_rfl) ?_ | refine Jz ?_)
        | (with_reducible refine X5 (fun hc => ?_) (fun hc => ?_) <;> (try simp only [RC] at hc) <;> (try (exfalso; first | omega | contradiction)))
        | (simp only [Q4, Jo, reduceIte, J0])
        | ((with_reducible refine hK _ _ ?_); clear hK)
        | (simp only [Q3, RA, Jn, Jm, Jp, Q2, Q0, ev, ofValue, Jt, J0, J3, J2, J4, reduceCtorEq, reduceIte, Ju, Qb, Qa, Jy, aun, Q9, Jk, Jh, Jx, Jw, Ji, Q8, Jf, Q1, Jr, Js, J1, J5, Ja, J9, Jb, J6, J7, Jd, J8, RB, Jv, Je, tf82RfV, l1, k0, k1, k5, k6, k7, e0, e1, d1, f0, m1, w8, Zb, ← ha, ld, hor, st, g1])
        | (simp (disch := first | omega | (simp only [RO]; done) | assumption) only [RS, ht.rd.at1 Z4 Xt, (ht.push _).load1 Y0, X6, X7])
      all_goals
        refine ⟨_, by omega, i + 1, _, rfl, by omega, rfl, by rw [List.length_set]; exact hol, hos.set i ⟨by omega, haB⟩, fun k hk => ?_, ?_, ?_, rfl⟩
        · rw [Xf _ _ (by omega), if_neg (by omega)]; exact hok k (by omega)
        · rw [Xf _ _ (by omega), if_neg (by omega), hok (i + 1) (by omega)]; exact hps
        · rw [hv1, hov, hvt, Int.add_mul, Int.mul_assoc, sp1, hb0]
          generalize Bs ^ i = p at *
          grind
  · obtain rfl : i = n := by omega
    have htr := trim_calls H.length (i + 1) (i + 1) os (H ++ [Ub os]) (hg os) (by omega) (Nat.le_refl _) (by omega)
    repeat' first
      | (with_reducible first | refine Jj (fun K hK => ?_) | refine Qz ?_ | refine Qj ?_ | refine Jg ?_ | refine Jz ?_)
      | ((with_reducible refine Jq (htr) ?_); rintro _ _ ⟨rfl, rfl⟩)
      | (with_reducible refine X5 (fun hc => ?_) (fun hc => ?_) <;> (try simp only [RC] at hc) <;> (try (exfalso; first | omega | contradiction)))
      | (simp only [Q4, Jo, reduceIte, J0])
      | ((with_reducible refine hK _ _ ?_); clear hK)
      | (clear hK; (with_reducible refine hK _ _ ?_); clear hK)
      | (simp only [Q3, RA, Jn, Jm, Jp, Q2, Q0, ev, ofValue, Jt, J0, J3, J2, J4, reduceCtorEq, reduceIte, Ju, Qb, Qa, Jy, aun, Q9, Jk, Jh, Jx, Jw, Ji, Q8, Jf, Q1, Jr, Js, J1, J5, Ja, J9, Jb, J6, J7, Jd, J8, RB, Jv, Je, tf82RfV, l1, k0, k1, k5, k6, k7])
    all_goals
      (
       (refine Qg (rs := [.tmp 4]) rfl ?_)
       (simp only [Qx, Qd, Fr.put_some, Fr.put_none, Qe, Qf, Qi, J0, reduceIte])
       (try simp (disch := (first | omega | (simp only [RO]; done) | assumption | (simp only [RM, Je]; done) | (simp only [RL, Je]; omega))) only [RD, reduceCtorEq, reduceIte, Je, J1, J3, J2, J6, tf82RfV]))
    have hall : xs.take i = xs := List.take_of_length_le (by omega)
    rw [hall] at hov
    all_goals exact ⟨os, rfl, hol, hos, hov, rfl⟩
end Go.Proofs.YtfalfmfkifemeaaGreatDoor
namespace Go.Proofs.YtfalfmfkifemeaaGreatDoor
open Go.AL Go.PW
theorem Nj : type_of% (Jc @Xd (Jc @X1 (@Xj))) := Jc @Xd (Jc @X1 (@Xj))
abbrev pn103_10RfW : Plan := (.one 0 (.one 1 (.one 2 (.one 3 (.one 4 (.one 5 (.one 6 (.one 7 (.one 8 (.one 9 (.one 10 (.one 11 (.one 12 (.one 13 (.one 14 (.one 15 (.one 16 .nil)))))))))))))))))
set_option maxRecDepth 8000
def OverR (H : Hp) (X Y : Int) (r : AV) (H' : Hp) : Prop := ∃ u v qs rs, r = .tup [u, v] ∧ Uv H' u qs ∧ Can qs ∧ val qs = X / Y ∧ Uv H' v rs ∧ Can rs ∧ val rs = X % Y ∧ Ext H H'
theorem Uv.nil (H : Hp) : Uv H .nilS [] := ⟨Ints.nil _ _, .inl rfl⟩
set_option maxHeartbeats 4000000 in
theorem Rover_less (s t : AV) (xs ys : List Int) (H : Hp) (hs : Uv H s xs) (ht : Ints H .u64 t ys) (cx : Can xs) (cy : Can ys) (h : val xs < val ys) : ACalls Tryz.prog 103 [s, t] H fun r H' => OverR H (val xs) (val ys) r H' := by
  have f1 : ((val xs - val ys).sign < 0) = True := eq_true (by rw [Int.sign_eq_neg_one_of_neg (by omega)]; decide)
  have h0 := Xa cx.lim
  refine Q7 Tryz.func103 rfl (by kernel_rfl) (by kernel_rfl) ?_
  repeat' first
    | (with_reducible first | refine Jj (fun K hK => ?_) | refine Qj ?_ | refine Jg ?_ | refine Jz ?_)
    | ((with_reducible refine Jq (cmp_calls _ _ _ _ _ hs.rd ht cx cy) ?_); rintro _ _ ⟨rfl, rfl⟩)
    | (simp only [Q4, Jo, reduceIte, J0])
    | ((with_reducible refine hK _ _ ?_); clear hK)
    | (simp only [Q3, RA, Jn, Jm, Jp, Q2, Q0, ev, ofValue, Jt, J0, J3, J2, J4, reduceCtorEq, reduceIte, Ju, Qb, Qa, Jy, aun, Q9, Jk, Jh, Jx, Jw, Ji, Q8, Jf, Q1, Jr, Js, J1, J5, Ja, J9, Jb, J6, J7, Jd, J8, RB, Jv, Je, Nj, f1])
  all_goals
    (
     (refine Qg (rs := [.tmp 4, .tmp 5]) rfl ?_)
     (simp only [Qx, Qd, Fr.put_some, Fr.put_none, Qe, Qf, Qi, J0, reduceIte])
     (try simp (disch := (first | omega | (simp only [RO]; done) | assumption | (simp only [RM, Je]; done) | (simp only [RL, Je]; omega))) only [RD, reduceCtorEq, reduceIte, Je, J1, J3, J2, J6, Nj]))
  all_goals exact ⟨.nilS, s, [], xs, rfl, Uv.nil H, Can.nil, by rw [Int.ediv_eq_zero_of_lt h0.1 h]; rfl, hs, cx, by rw [Int.emod_eq_of_lt h0.1 h], Ext.refl _⟩
theorem one_limb {ys : List Int} (h : ys.length = 1) : val ys = ys.getD 0 0 := by
  match ys, h with
  | [y], _ => simp [val]
set_option maxHeartbeats 4000000 in
theorem Rover_one (s t : AV) (xs ys : List Int) (H : Hp) (hs : Uv H s xs) (ht : Ints H .u64 t ys) (cx : Can xs) (cy : Can ys) (h : ¬ val xs < val ys) (h1 : ys.length = 1) (lx : xs.length < 90000) : ACalls Tryz.prog 103 [s, t] H fun r H' => OverR H (val xs) (val ys) r H' := by
  have f1 : ((val xs - val ys).sign < 0) = False := eq_false (fun hh => by have := Int.sign_neg_iff.1 hh; omega)
  have l1 := hs.rd.rd.len Z4
  have l2 := ht.rd.len Z4
  rw [h1] at l2
  have hb := cy.lim.get 0
  have hyv := one_limb h1
  have hb0 : 0 < ys.getD 0 0 := by
    rcases cy.top with e | e
    · rw [e] at h1; simp at h1
    · rw [h1] at e
      have e' : ys.getD 0 0 ≠ 0 := e
      omega
  obtain ⟨b, hbd⟩ : ∃ b, b = ys.getD 0 0 := ⟨_, rfl⟩
  rw [← hbd] at hb hyv hb0
  obtain ⟨n, hn⟩ : ∃ n, n = xs.length := ⟨_, rfl⟩
  rw [← hn] at l1
  have hmk := fun H0 => Gg H0 n .i64 (by omega)
  have w1 : IntKind.i64.wrap ((n : Int) - 1) = (n : Int) - 1 := Q5 (by omega) (by omega)
  have b0 : ∀ H0, Ext H H0 → X3 Tryz.prog 44 t (.int .i64 0) = some (.ptr t.hd t.of) ∧ Yq Tryz.prog H0 31 (.ptr t.hd t.of) = some (.int .u64 b) := fun H0 x0 => by
    have a := ht.rd.at_ Z4 Xt (k := .i64) (j := 0) (by omega) (by omega)
    have l := (ht.ext x0).load Y0 (i := 0) (by omega)
    rw [← hbd] at l
    exact ⟨by simpa using a, by simpa using l⟩
  refine Q7 Tryz.func103 rfl (by kernel_rfl) (by kernel_rfl) ?_
  repeat' first
    | (with_reducible first | refine Jj (fun K hK => ?_) | refine Qc ?_ | refine Q6 ?_ | refine Jg ?_ | refine Jz ?_)
    | ((with_reducible refine Jq (cmp_calls _ _ _ _ _ hs.rd ht cx cy) ?_); rintro _ _ ⟨rfl, rfl⟩)
    | (simp only [Q4, Jo, reduceIte, J0])
    | ((with_reducible refine hK _ _ ?_); clear hK)
    | (simp only [Q3, RA, Jn, Jm, Jp, Q2, Q0, ev, ofValue, Jt, J0, J3, J2, J4, reduceCtorEq, reduceIte, Ju, Qb, Qa, Jy, aun, Q9, Jk, Jh, Jx, Jw, Ji, Q8, Jf, Q1, Jr, Js, J1, J5, Ja, J9, Jb, J6, J7, Jd, J8, RB, Jv, Je, Nj, f1, l1, l2, w1, hmk])
  refine X2 (fun m fr' H1 => ∃ (os : List Int) (r : Int), m ≤ n ∧ fr' 0 = s ∧ fr' 1 = t ∧ fr' 7 = .sl H.length 0 n n ∧ fr' 8 = .int .u64 r ∧ fr' 9 = .int .i64 ((m : Int) - 1) ∧ os.length = n ∧ Limbs os ∧ 0 ≤ r ∧ r < b ∧ val (os.drop m) * b + r = val (xs.drop m) ∧ H ++ [Ub os] = H1) (m := n)
    ⟨List.replicate n 0, 0, by omega, rfl, rfl, rfl, rfl, rfl, by simp, Limbs.replicate n, by omega, hb0, by rw [List.drop_of_length_le (by simp), List.drop_of_length_le (by omega)]; simp [val], rfl⟩ ?_
  rintro m fr' H1 ⟨os, r, hm, k0, k1, k7, k8, k9, hol, hos, r0, r1, hv, rfl⟩
  have hg : Qt (H ++ [Ub os]) H.length = some (Ub os) := Qo rfl
  cases m with
  | succ i =>
    have k9' : fr' 9 = .int .i64 (i : Int) := by rw [k9]; congr 1; omega
    have e2 : IntKind.i64.wrap ((i : Int) - 1) = (i : Int) - 1 := Q5 (by omega) (by omega)
    have hxi := cx.lim.get i
    have hdb : 0 ≤ r * Bs + xs.getD i 0 := by simp only [Bs]; omega
    obtain ⟨q, hq⟩ : ∃ q, q = (r * Bs + xs.getD i 0) / b := ⟨_, rfl⟩
    obtain ⟨z, hz⟩ : ∃ z, z = (r * Bs + xs.getD i 0) % b := ⟨_, rfl⟩
    have hq0 : 0 ≤ q := by rw [hq]; exact Int.ediv_nonneg hdb (by omega)
    have hq1 : q < Bs := by
      rw [hq, Int.ediv_lt_iff_lt_mul hb0]
      simp only [Bs] at *
      omega
    have hz0 : 0 ≤ z := by rw [hz]; exact Int.emod_nonneg _ (by omega)
    have hz1 : z < b := by rw [hz]; exact Int.emod_lt_of_pos _ hb0
    have hqz : q * b + z = r * Bs + xs.getD i 0 := by
      have := Int.emod_add_mul_ediv (r * Bs + xs.getD i 0) b
      rw [← hq, ← hz, Int.mul_comm] at this
      omega
    have hdv := fun H0 => div64_calls r (xs.getD i 0) b H0 r0 r1 hxi hb.2
    rw [← hq, ← hz] at hdv
    have st := Yp hg (i := i) (by omega) q
    have hset : (H ++ [Ub os]).set H.length (Ub (os.set i q)) = H ++ [Ub (os.set i q)] := by
      rw [List.set_append_right _ _ (Nat.le_refl _), Nat.sub_self]; rfl
    rw [hset] at st
    obtain ⟨bA, bL⟩ := b0 (H ++ [Ub os]) (Ext.push _ _)
    repeat' first
      | (with_reducible first | refine Jj (fun K hK => ?_) | refine Qc ?_ | refine Q6 ?_ | refine Jg ?_ | refine Qw (id := 10) [] pn103_10RfW (by kernel_rfl) (by kernel_rfl) ?_ | refine Jz ?_)
      | ((with_reducible refine Jq (hdv _) ?_); rintro _ _ ⟨rfl, rfl⟩)
      | (with_reducible refine X5 (fun hc => ?_) (fun hc => ?_) <;> (try simp only [RC] at hc) <;> (try (exfalso; first | omega | contradiction)))
      | (simp only [Q4, Jo, reduceIte, J0])
      | ((with_reducible refine hK _ _ ?_); clear hK)
      | (simp only [Q3, RA, Jn, Jm, Jp, Q2, Q0, ev, ofValue, Jt, J0, J3, J2, J4, reduceCtorEq, reduceIte, Ju, Qb, Qa, Jy, aun, Q9, Jk, Jh, Jx, Jw, Ji, Q8, Jf, Q1, Jr, Js, J1, J5, Ja, J9, Jb, J6, J7, Jd, J8, RB, Jv, Je, Nj, k0, k1, k7, k8, k9', e2, st, bA, bL])
      | (simp (disch := first | omega | (simp only [RO]; done) | assumption) only [RS, hs.rd.rd.at1 Z4 Xt, (hs.rd.push _).load1 Y0, X6, X7])
    all_goals
      refine ⟨i, by omega, os.set i q, z, by omega, rfl, rfl, by rw [List.length_set]; exact hol, hos.set i ⟨hq0, hq1⟩, hz0, hz1, ?_, rfl⟩
      rw [Y5 _ (by rw [List.length_set]; omega), Xf _ _ (by omega), if_pos rfl, List.drop_set_of_lt (by omega), Y5 xs (by omega), ← hv]
      generalize val (os.drop (i + 1)) = d at *
      generalize Bs = B at *
      grind
  | zero =>
    have k9' : fr' 9 = .int .i64 (-1) := k9
    have htr := trim_calls H.length n n os (H ++ [Ub os]) hg (by omega) (Nat.le_refl _) (by omega)
    have htr2 := trim_calls (H.length + 1) 1 1 [r] (H ++ [Ub os] ++ [Ub [r]]) (Qo (by simp)) (by simp) (Nat.le_refl _) (by omega)
    simp only [Ub, List.map_cons, List.map_nil] at htr2
    repeat' first
      | (with_reducible first | refine Jj (fun K hK => ?_) | refine Qz ?_ | refine Qj ?_ | refine Jg ?_ | refine Jz ?_)
      | ((with_reducible refine Jq (htr) ?_); rintro _ _ ⟨rfl, rfl⟩)
      | ((with_reducible refine Jq (htr2) ?_); rintro _ _ ⟨rfl, rfl⟩)
      | (simp only [Q4, Jo, reduceIte, J0])
      | ((with_reducible refine hK _ _ ?_); clear hK)
      | (clear hK; (with_reducible refine hK _ _ ?_); clear hK)
      | (simp only [Q3, RA, Jn, Jm, Jp, Q2, Q0, ev, ofValue, Jt, J0, J3, J2, J4, reduceCtorEq, reduceIte, Ju, Qb, Qa, Jy, aun, Q9, Jk, Jh, Jx, Jw, Ji, Q8, Jf, Q1, Jr, Js, J1, J5, Ja, J9, Jb, J6, J7, Jd, J8, RB, Jv, Je, Nj, k0, k1, k7, k8, k9'])
    all_goals
      (
       (refine Qg (rs := [.tmp 4, .tmp 5]) rfl ?_)
       (simp only [Qx, Qd, Fr.put_some, Fr.put_none, Qe, Qf, Qi, J0, reduceIte])
       (try simp (disch := (first | omega | (simp only [RO]; done) | assumption | (simp only [RM, Je]; done) | (simp only [RL, Je]; omega))) only [RD, reduceCtorEq, reduceIte, Je, J1, J3, J2, J6, Nj]))
    simp only [List.drop_zero] at hv
    have hall : os.take n = os := List.take_of_length_le (by omega)
    have hL : Limbs [r] := fun y hy => by rw [List.mem_singleton.1 hy]; omega
    have hqv : val os = val xs / b := (ediv_eq hb0 (by omega) (by rw [Int.add_mul]; omega)).symm
    have hrv : r = val xs % b := by
      have h9 := Int.emod_add_mul_ediv (val xs) b
      rw [← hqv, Int.mul_comm] at h9
      omega
    all_goals
      refine ⟨_, _, os.take (tl os n), [r].take (tl [r] 1), rfl, (Uv.front hg (by have := Ur os n; omega) (Ur os n)).push _, J0e hos n (by omega) (by omega), ?_, Uv.front (xs := [r]) (Qo (by simp)) (by have := Ur [r] 1; simpa using this) (Ur [r] 1), J0e hL 1 (by simp) (by omega), ?_, (Ext.push _ _).pushed _⟩
      · rw [Nw _ _ (by omega), hall, hyv]; exact hqv
      · rw [Nw _ _ (by simp), hyv]; simp only [List.take, val]; omega
end Go.Proofs.YtfalfmfkifemeaaGreatDoor

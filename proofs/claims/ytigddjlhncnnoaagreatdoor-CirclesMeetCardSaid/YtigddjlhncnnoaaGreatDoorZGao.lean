/- Part 15 of the proof of laws of this seat: lemmas on the model's code, on this program's functions, on numbers. No condition. -/
import Derived.Test.YtigddjlhncnnoaaGreatDoorZGan
set_option linter.unusedVariables false
set_option linter.unusedSimpArgs false
open Nat renaming reduceEqDiff → J0, reduceLeDiff → J1, reduceMul → J2, reduceAdd → J3, reduceSub → J4, reduceLT → J5
open Int renaming reduceToNat → J6, reducePow → J7, reduceNeg → J8, reduceLT → J9, reduceLE → Ja, reduceEq → Jb
open And renaming intro → Jc
open Go.IntKind renaming bits → Jd
open Go.PW renaming dig_length → Je
namespace Go.Proofs.YtigddjlhncnnoaaGreatDoor
open Go.AL Go.PW
theorem Rq : type_of% (Jc @Xw (Jc @Z1 (Jc @Xc (Jc @J00 (@N9))))) := Jc @Xw (Jc @Z1 (Jc @Xc (Jc @J00 (@N9))))
theorem Kj : type_of% (@Xc) := @Xc
set_option maxRecDepth 8000
theorem or_low {x y : Int} {s : Nat} (hs : s < 64) (hx : 0 ≤ x) (h0 : 0 ≤ y) (h1 : y < 2 ^ s) : bits .or .u64 y (x * 2 ^ s % Bs) = y + x * 2 ^ s % Bs := by
  obtain ⟨_, e⟩ := shl_split (x := x) (s := s) (by omega) hx
  have hq := Zb (64 - s)
  have hb : x * 2 ^ s % Bs < Bs := Int.emod_lt_of_pos _ (by decide)
  have hs2 : (2 : Int) ^ s ≤ Bs := by
    have := Int.mul_le_mul_of_nonneg_left (show (1 : Int) ≤ 2 ^ (64 - s) by omega) (Int.le_of_lt (Zb s))
    rw [Ug (by omega)] at this
    omega
  rw [e] at hb ⊢
  have := or_add s (x := x % 2 ^ (64 - s)) (y := y) (Int.emod_nonneg _ (by omega)) hb h0 h1 (by omega)
  have hc : ∀ a b : Int, 0 ≤ a → a < Bs → 0 ≤ b → b < Bs → bits .or .u64 a b = bits .or .u64 b a := by
    intro a b ha ha' hb hb'
    obtain ⟨a, rfl, h1⟩ := nat_lt ha ha'
    obtain ⟨b, rfl, h2⟩ := nat_lt hb hb'
    rw [or64 h1 h2, or64 h2 h1, Nat.or_comm]
  rw [hc _ _ h0 (by omega) (Int.mul_nonneg (Int.emod_nonneg _ (by omega)) (Int.le_of_lt (Zb s))) hb, this, Int.add_comm]
theorem shift_calls (v : AV) (xs : List Int) (s : Nat) (H : Hp) (hv : Ints H .u64 v xs) (hx : Limbs xs) (hl : xs.length < 1000000) (hs : s < 64) : ACalls Tryz.prog 166 [v, .int .i64 (s : Int)] H fun r H' => r = .sl H.length 0 (xs.length + 1) (xs.length + 1) ∧ H ++ [Bk (dig (xs.length + 1) (val xs * 2 ^ s)) 71] = H' := by
  have e1 : IntKind.i64.wrap ((xs.length : Int) + 1) = ((xs.length + 1 : Nat) : Int) := by rw [Qe (by omega) (by omega)]; omega
  have hmk := make_ints (P := Tryz.prog) (H := H) (n := xs.length + 1) (l := .i64) Z8 Z4 zero71 bytes71 (by omega) (by omega)
  have w1 : IntKind.u64.wrap ((s : Nat) : Int) = s := Y0 (by omega) (by simp only [Bs]; omega)
  have w2 : IntKind.i64.wrap (64 - ((s : Nat) : Int)) = ((64 - s : Nat) : Int) := by rw [Qe (by omega) (by omega)]; omega
  have w3 : IntKind.u64.wrap ((64 - s : Nat) : Int) = ((64 - s : Nat) : Int) := Y0 (by omega) (by simp only [Bs]; omega)
  have m1 : (s ≤ 64) = True := by simp; omega
  have m2 : (64 - s ≤ 64) = True := by simp
  have w8 : IntKind.u64.bits = 64 := by decide
  refine Qo Tryz.func166 rfl (by kernel_rfl) (by kernel_rfl) ?_
  repeat' first
    | (with_reducible first | refine Jh (fun K hK => ?_) | refine Jx ?_ | refine Jg ?_)
    | (simp only [Qb, Jo, reduceIte, J0])
    | ((with_reducible refine hK _ _ ?_); clear hK)
    | (simp only [Q9, RA, Jn, Jm, Jp, Q8, Q6, ev, ofValue, Ju, J0, J3, J2, J4, reduceCtorEq, reduceIte, Jv, Qm, Qk, Q0, aun, Qj, Jk, Ji, Jz, Jy, Jj, Qi, Jf, Q7, Q2, Js, J1, J5, Ja, J9, Jb, J6, J7, Jd, J8, RB, Jw, Je, Rq, hv.rd.len Z8, e1, hmk])
  refine Xi (fun c fr' H' => ∃ (i : Nat) (ys : List Int), c = xs.length - i ∧ i ≤ xs.length ∧ fr' 1 = .int .i64 (s : Int) ∧ fr' 5 = .sl H.length 0 (xs.length + 1) (xs.length + 1) ∧ fr' 12 = v ∧ fr' 13 = .int .i64 (xs.length : Int) ∧ fr' 14 = .int .i64 (i : Int) ∧ ys.length = xs.length + 1 ∧ Limbs ys ∧
      (∀ j, i < j → ys.getD j 0 = 0) ∧ ys.getD i 0 < 2 ^ s ∧ val ys = val (xs.take i) * 2 ^ s ∧ H ++ [Bk ys 71] = H') (m := xs.length)
    ⟨0, List.replicate (xs.length + 1) 0, by omega, by omega, rfl, rfl, rfl, rfl, rfl, by simp, Limbs.replicate _, fun j _ => by simp [List.getD, List.getElem?_replicate]; split <;> rfl, by simp [List.getD, List.getElem?_replicate]; exact Zb s, by rw [Gw]; simp [val], rfl⟩ ?_
  rintro c fr' H' ⟨i, ys, rfl, hi, k1, k5, k12, k13, k14, hyl, hys, hz, hlow, hval, rfl⟩
  have e2 : IntKind.i64.wrap ((i : Int) + 1) = ((i + 1 : Nat) : Int) := by rw [Qe (by omega) (by omega)]; omega
  by_cases hlt : i < xs.length
  · have hg := hx.get i
    have hy := hys.get i
    have hor := or_low hs hg.1 hy.1 hlow
    obtain ⟨sp1, sp2⟩ := shl_split (x := xs.getD i 0) (s := s) (by omega) hg.1
    have h3 : 0 ≤ xs.getD i 0 / 2 ^ (64 - s) := Int.ediv_nonneg hg.1 (Int.le_of_lt (Zb _))
    have h4 : xs.getD i 0 / 2 ^ (64 - s) < 2 ^ s := shr_lt (by omega) hg.2
    have hb0 : 0 ≤ xs.getD i 0 * 2 ^ s % Bs := Int.emod_nonneg _ (by decide)
    have hsum : ys.getD i 0 + xs.getD i 0 * 2 ^ s % Bs < Bs := by
      rw [sp2]
      have a1 : xs.getD i 0 % 2 ^ (64 - s) * 2 ^ s ≤ (2 ^ (64 - s) - 1) * 2 ^ s := Int.mul_le_mul_of_nonneg_right (by have := Int.emod_lt_of_pos (xs.getD i 0) (Zb (64 - s)); omega) (Int.le_of_lt (Zb s))
      rw [Int.sub_mul, Int.mul_comm (2 ^ (64 - s)), Ug (by omega)] at a1
      omega
    have hs2 : (2 : Int) ^ s ≤ Bs := by
      have := Int.mul_le_mul_of_nonneg_left (show (1 : Int) ≤ 2 ^ (64 - s) by have := Zb (64 - s); omega) (Int.le_of_lt (Zb s))
      rw [Ug (by omega)] at this
      omega
    have hset1 : val (ys.set i (ys.getD i 0 + xs.getD i 0 * 2 ^ s % Bs)) = val ys + Bs ^ i * (xs.getD i 0 * 2 ^ s % Bs) := by
      rw [Vt _ (by omega)]; congr 2; omega
    have htk := Xk xs hlt
    have hpp : Bs ^ (i + 1) = Bs ^ i * Bs := Int.pow_succ ..
    by_cases hs0 : 0 < s
    · skip
      repeat' first
        | (with_reducible first | refine Jh (fun K hK => ?_) | refine Jx ?_ | refine Q4 ?_ | refine Jg ?_ | refine Jr ?_)
        | (with_reducible refine X4 (fun hc => ?_) (fun hc => ?_) <;> (try simp only [RC] at hc) <;> (try (exfalso; first | omega | contradiction)))
        | (simp only [Qb, Jo, reduceIte, J0])
        | ((with_reducible refine hK _ _ ?_); clear hK)
        | (simp only [Q9, RA, Jn, Jm, Jp, Q8, Q6, ev, ofValue, Ju, J0, J3, J2, J4, reduceCtorEq, reduceIte, Jv, Qm, Qk, Q0, aun, Qj, Jk, Ji, Jz, Jy, Jj, Qi, Jf, Q7, Q2, Js, J1, J5, Ja, J9, Jb, J6, J7, Jd, J8, RB, Jw, Je, Rq, k1, k5, k12, k13, k14, e2, w1, w2, w3, m1, m2, w8, Zr, hor])
        | (simp (disch := first | omega | (simp only [RO]; done) | assumption) only [RS, hv.rd.at1 Z8 Z4, (hv.push _).load1 Yt, hyl, Xa, Xb, X9])
        | (simp (disch := (first | omega | (simp only [RO]; done) | assumption | (simp only [RM, Je]; done) | (simp only [RL, Je]; omega))) only [RD, reduceCtorEq, reduceIte, Je, J1, J3, J2, J6, Rq, k1, k5, k12, k13, k14, e2, w1, w2, w3, m1, m2, w8, Zr, hor])
      refine ⟨xs.length - (i + 1), by omega, i + 1, _, rfl, by omega, rfl, by rw [List.length_set, List.length_set]; exact hyl, (hys.set i ⟨by omega, hsum⟩).set (i + 1) ⟨h3, by omega⟩, ?_, ?_, ?_, rfl⟩
      · intro j hj
        rw [Xs _ _ (by rw [List.length_set]; omega), if_neg (by omega), Xs _ _ (by omega), if_neg (by omega)]
        exact hz j (by omega)
      · rw [Xs _ _ (by rw [List.length_set]; omega), if_pos rfl]; exact h4
      · rw [Vt _ (by rw [List.length_set]; omega), hset1, Xs _ _ (by omega), if_neg (by omega), hz (i + 1) (by omega), htk, Int.add_mul, ← hval, hpp]
        rw [Int.mul_assoc (Bs ^ i) (xs.getD i 0), Int.sub_zero, Int.mul_assoc (Bs ^ i) Bs]
        clear hset1 hor sp2 hsum hb0
        generalize xs.getD i 0 * 2 ^ s % Bs = b at *
        generalize xs.getD i 0 * 2 ^ s = y at *
        rw [sp1, Int.mul_add]
        omega
    · skip
      repeat' first
        | (with_reducible first | refine Jh (fun K hK => ?_) | refine Jx ?_ | refine Q4 ?_ | refine Jg ?_ | refine Jr ?_)
        | (with_reducible refine X4 (fun hc => ?_) (fun hc => ?_) <;> (try simp only [RC] at hc) <;> (try (exfalso; first | omega | contradiction)))
        | (simp only [Qb, Jo, reduceIte, J0])
        | ((with_reducible refine hK _ _ ?_); clear hK)
        | (simp only [Q9, RA, Jn, Jm, Jp, Q8, Q6, ev, ofValue, Ju, J0, J3, J2, J4, reduceCtorEq, reduceIte, Jv, Qm, Qk, Q0, aun, Qj, Jk, Ji, Jz, Jy, Jj, Qi, Jf, Q7, Q2, Js, J1, J5, Ja, J9, Jb, J6, J7, Jd, J8, RB, Jw, Je, Rq, k1, k5, k12, k13, k14, e2, w1, w2, w3, m1, m2, w8, Zr, hor])
        | (simp (disch := first | omega | (simp only [RO]; done) | assumption) only [RS, hv.rd.at1 Z8 Z4, (hv.push _).load1 Yt, hyl, Xa, Xb, X9])
        | (simp (disch := (first | omega | (simp only [RO]; done) | assumption | (simp only [RM, Je]; done) | (simp only [RL, Je]; omega))) only [RD, reduceCtorEq, reduceIte, Je, J1, J3, J2, J6, Rq, k1, k5, k12, k13, k14, e2, w1, w2, w3, m1, m2, w8, Zr, hor])
      refine ⟨xs.length - (i + 1), by omega, i + 1, _, rfl, by omega, rfl, by rw [List.length_set]; exact hyl, hys.set i ⟨by omega, hsum⟩, ?_, ?_, ?_, rfl⟩
      · intro j hj
        rw [Xs _ _ (by omega), if_neg (by omega)]
        exact hz j (by omega)
      · rw [Xs _ _ (by omega), if_neg (by omega), hz (i + 1) (by omega)]; exact Zb s
      · obtain rfl : s = 0 := by omega
        rw [hset1, htk, Int.add_mul, ← hval]
        rw [Int.mul_assoc (Bs ^ i) (xs.getD i 0)]
        clear hset1 hor sp2 hsum hb0
        generalize xs.getD i 0 * 2 ^ 0 % Bs = b at *
        generalize xs.getD i 0 * 2 ^ 0 = y at *
        rw [sp1, Int.mul_add]
        have e64 : (2 : Int) ^ (64 - 0) = Bs := by decide
        have : xs.getD i 0 / 2 ^ (64 - 0) = 0 := Int.ediv_eq_zero_of_lt hg.1 (by rw [e64]; exact hg.2)
        rw [this]
        simp
  · obtain rfl : i = xs.length := by omega
    repeat' first
      | (with_reducible first | refine Jh (fun K hK => ?_) | refine Qc ?_ | refine Qd ?_ | refine Jg ?_ | refine Jr ?_)
      | (with_reducible refine X4 (fun hc => ?_) (fun hc => ?_) <;> (try simp only [RC] at hc) <;> (try (exfalso; first | omega | contradiction)))
      | (simp only [Qb, Jo, reduceIte, J0])
      | ((with_reducible refine hK _ _ ?_); clear hK)
      | (clear hK; (with_reducible refine hK _ _ ?_); clear hK)
      | (simp only [Q9, RA, Jn, Jm, Jp, Q8, Q6, ev, ofValue, Ju, J0, J3, J2, J4, reduceCtorEq, reduceIte, Jv, Qm, Qk, Q0, aun, Qj, Jk, Ji, Jz, Jy, Jj, Qi, Jf, Q7, Q2, Js, J1, J5, Ja, J9, Jb, J6, J7, Jd, J8, RB, Jw, Je, Rq, k1, k5, k12, k13, k14])
    (
     (refine Qg (rs := [.tmp 4]) rfl ?_)
     (simp only [X5, Qf, Fr.put_some, Fr.put_none, Qp, Qq, Qt, J0, reduceIte, k5])
     (try simp (disch := (first | omega | (simp only [RO]; done) | assumption | (simp only [RM, Je]; done) | (simp only [RL, Je]; omega))) only [RD, reduceCtorEq, reduceIte, Je, J1, J3, J2, J6, Rq, k5]))
    have hb := Xh hys
    rw [hyl, hval, List.take_of_length_le (Nat.le_refl _)] at hb
    rw [← Vn (n := xs.length + 1) hys hyl (x := val xs * 2 ^ s) (by rw [hval, List.take_of_length_le (Nat.le_refl _), Int.emod_eq_of_lt hb.1 hb.2])]
theorem guess_calls (u2 u1 u0 v1 v0 : Int) (H : Hp) (h2 : 0 ≤ u2 ∧ u2 ≤ v1) (h1 : 0 ≤ u1 ∧ u1 < Bs) (h0 : 0 ≤ u0 ∧ u0 < Bs) (hv1 : 0 < v1 ∧ v1 < Bs) (hv0 : 0 ≤ v0 ∧ v0 < Bs) : ACalls Tryz.prog 168 [.int .u64 u2, .int .u64 u1, .int .u64 u0, .int .u64 v1, .int .u64 v0] H fun r H' => r = .int .u64 (min (Bs - 1) (((u2 * Bs + u1) * Bs + u0) / (v1 * Bs + v0))) ∧ H = H' := by
  obtain ⟨T, hT⟩ : ∃ T, T = ((u2 * Bs + u1) * Bs + u0) / (v1 * Bs + v0) := ⟨_, rfl⟩
  have hT0 : 0 ≤ T := by
    rw [hT]
    refine Int.ediv_nonneg ?_ ?_ <;> simp only [Bs] at * <;> omega
  rw [← hT]
  have hmin : ∀ q : Int, q ≤ Bs - 1 → q ≤ T → min (Bs - 1) T ≤ q → q = min (Bs - 1) T := fun q a b c => by omega
  have hBd : (0 : Int) < Bs := by decide
  refine Qo Tryz.func168 rfl (by kernel_rfl) (by kernel_rfl) ?_
  refine Jh (fun K hQ => ?_)
  repeat' first
    | (with_reducible first | refine Jg ?_)
    | (simp only [Qb, Jo, reduceIte, J0])
    | (simp only [Q9, RA, Jn, Jm, Jp, Q8, Q6, ev, ofValue, Ju, J0, J3, J2, J4, reduceCtorEq, reduceIte, Jv, Qm, Qk, Q0, aun, Qj, Jk, Ji, Jz, Jy, Jj, Qi, Jf, Q7, Q2, Js, J1, J5, Ja, J9, Jb, J6, J7, Jd, J8, RB, Jw, Je, Kj])
  refine hQ _ _ ?_
  clear hQ
  refine Jh (fun K hQ => ?_)
  repeat' first
    | (with_reducible first | refine Jg ?_)
    | (simp only [Qb, Jo, reduceIte, J0])
    | (simp only [Q9, RA, Jn, Jm, Jp, Q8, Q6, ev, ofValue, Ju, J0, J3, J2, J4, reduceCtorEq, reduceIte, Jv, Qm, Qk, Q0, aun, Qj, Jk, Ji, Jz, Jy, Jj, Qi, Jf, Q7, Q2, Js, J1, J5, Ja, J9, Jb, J6, J7, Jd, J8, RB, Jw, Je, Kj])
  refine hQ _ _ ?_
  clear hQ
  refine Jh (fun K hQ => ?_)
  repeat' first
    | (with_reducible first | refine Jg ?_)
    | (simp only [Qb, Jo, reduceIte, J0])
    | (simp only [Q9, RA, Jn, Jm, Jp, Q8, Q6, ev, ofValue, Ju, J0, J3, J2, J4, reduceCtorEq, reduceIte, Jv, Qm, Qk, Q0, aun, Qj, Jk, Ji, Jz, Jy, Jj, Qi, Jf, Q7, Q2, Js, J1, J5, Ja, J9, Jb, J6, J7, Jd, J8, RB, Jw, Je, Kj])
  refine hQ _ _ ?_
  clear hQ
  refine Jh (fun K2 hK2 => ?_)
  refine Yn (fun fr' H1 => ∃ q r ov : Int, fr' 0 = .int .u64 u2 ∧ fr' 1 = .int .u64 u1 ∧ fr' 2 = .int .u64 u0 ∧ fr' 3 = .int .u64 v1 ∧ fr' 4 = .int .u64 v0 ∧ fr' 11 = .int .u64 q ∧ fr' 12 = .int .u64 r ∧ fr' 13 = .int .u64 ov ∧ 0 ≤ q ∧ q < Bs ∧ 0 ≤ r ∧ r < Bs ∧ 0 ≤ ov ∧ ov ≤ 1 ∧ q * v1 + (ov * Bs + r) = u2 * Bs + u1 ∧ min (Bs - 1) T ≤ q ∧ H = H1) ?_ (fun fr' H1 h => hK2 _ _ ?_)
  · clear hK2
    by_cases hlt : u2 < v1
    · skip
      repeat' first
        | (with_reducible first | refine Jh (fun K hK => ?_) | refine Jg ?_ | refine Jr ?_)
        | ((with_reducible refine Q5 (div64_calls _ _ _ _ h2.1 hlt h1 hv1.2) ?_); rintro _ _ ⟨rfl, rfl⟩)
        | (with_reducible refine X4 (fun hc => ?_) (fun hc => ?_) <;> (try simp only [RC] at hc) <;> (try (exfalso; first | omega | contradiction)))
        | (simp only [Qb, Jo, reduceIte, J0])
        | ((with_reducible refine hK _ _ ?_); clear hK)
        | (simp only [Q9, RA, Jn, Jm, Jp, Q8, Q6, ev, ofValue, Ju, J0, J3, J2, J4, reduceCtorEq, reduceIte, Jv, Qm, Qk, Q0, aun, Qj, Jk, Ji, Jz, Jy, Jj, Qi, Jf, Q7, Q2, Js, J1, J5, Ja, J9, Jb, J6, J7, Jd, J8, RB, Jw, Je, Kj])
      have hm := Int.emod_add_mul_ediv (u2 * Bs + u1) v1
      have hm0 := Int.emod_nonneg (u2 * Bs + u1) (b := v1) (by omega)
      have hm1 := Int.emod_lt_of_pos (u2 * Bs + u1) hv1.1
      have hq0 : 0 ≤ (u2 * Bs + u1) / v1 := Int.ediv_nonneg (by simp only [Bs]; omega) (by omega)
      have hq1 : (u2 * Bs + u1) / v1 < Bs := by
        rw [Int.ediv_lt_iff_lt_mul hv1.1]
        simp only [Bs] at *
        omega
      have hst := guess_start (B := Bs) hBd h2.1 h1.1 h0.1 h0.2 hv1.1 hv0.1
      rw [← hT] at hst
      refine ⟨_, _, _, rfl, rfl, rfl, hq0, hq1, hm0, by omega, by decide, by decide, ?_, by omega⟩
      rw [Int.mul_comm v1] at hm
      omega
    · have hS : 0 ≤ u1 + v1 + 0 ∧ u1 + v1 + 0 < 2 * Bs := by omega
      repeat' first
        | (with_reducible first | refine Jh (fun K hK => ?_) | refine Jg ?_ | refine Jr ?_)
        | ((with_reducible refine Z3 (Gn _ _ _ _ h1.1 (Int.le_of_lt hv1.1) (by decide)) ?_); rintro _ _ ⟨rfl, rfl⟩)
        | (with_reducible refine X4 (fun hc => ?_) (fun hc => ?_) <;> (try simp only [RC] at hc) <;> (try (exfalso; first | omega | contradiction)))
        | (simp only [Qb, Jo, reduceIte, J0])
        | ((with_reducible refine hK _ _ ?_); clear hK)
        | (simp only [Q9, RA, Jn, Jm, Jp, Q8, Q6, ev, ofValue, Ju, J0, J3, J2, J4, reduceCtorEq, reduceIte, Jv, Qm, Qk, Q0, aun, Qj, Jk, Ji, Jz, Jy, Jj, Qi, Jf, Q7, Q2, Js, J1, J5, Ja, J9, Jb, J6, J7, Jd, J8, RB, Jw, Je, Kj])
      have he : u2 = v1 := by omega
      refine ⟨_, _, _, rfl, rfl, rfl, by decide, by decide, Int.emod_nonneg _ (by decide), Int.emod_lt_of_pos _ (by decide), ?_, ?_, ?_, by simp only [Bs]; omega⟩
      · simp only [Bs] at *; omega
      · simp only [Bs] at *; omega
      · rw [he]
        simp only [Bs] at *
        omega
  · obtain ⟨q, r, ov, k0, k1, k2, k3, k4, k11, k12, k13, q0, q1, r0, r1, o0, o1, hinv, hge, rfl⟩ := h
    repeat' first
      | (with_reducible first | refine Jh (fun K hK => ?_) | refine Jx ?_)
    refine Xi (fun c fr' H1 => ∃ q r ov : Int, c = q.toNat ∧ fr' 0 = .int .u64 u2 ∧ fr' 1 = .int .u64 u1 ∧ fr' 2 = .int .u64 u0 ∧ fr' 3 = .int .u64 v1 ∧ fr' 4 = .int .u64 v0 ∧ fr' 11 = .int .u64 q ∧ fr' 12 = .int .u64 r ∧ fr' 13 = .int .u64 ov ∧ 0 ≤ q ∧ q < Bs ∧ 0 ≤ r ∧ r < Bs ∧ 0 ≤ ov ∧ ov ≤ 1 ∧ q * v1 + (ov * Bs + r) = u2 * Bs + u1 ∧ min (Bs - 1) T ≤ q ∧ H = H1) (m := q.toNat)
      ⟨q, r, ov, rfl, k0, k1, k2, k3, k4, k11, k12, k13, q0, q1, r0, r1, o0, o1, hinv, hge, rfl⟩ ?_
    clear k0 k1 k2 k3 k4 k11 k12 k13 q0 q1 r0 r1 o0 o1 hinv hge
    rintro c fr' H1 ⟨q, r, ov, rfl, k0, k1, k2, k3, k4, k11, k12, k13, q0, q1, r0, r1, o0, o1, hinv, hge, rfl⟩
    have hqv := Uh (x := q) (y := v0) (p := Bs - 1) (q := Bs - 1) ⟨q0, by omega⟩ ⟨hv0.1, by omega⟩
    by_cases hov : ov = 0
    · subst hov
      have htest := guess_test (p := q * v0) (r := r) (u0 := u0) hqv.1 h0
      rw [Int.zero_mul, Int.zero_add] at hinv
      by_cases ht : q * v0 ≤ r * Bs + u0
      · have hd := guess_done hBd hv1.1 hv0.1 hinv ht
        rw [← hT] at hd
        have htt := htest.2 ht
        have := hmin q (by omega) hd hge
        repeat' first
          | (with_reducible first | refine Jh (fun K hK => ?_) | refine Jx ?_ | refine Q4 ?_ | refine Qc ?_ | refine Qd ?_ | refine Jg ?_ | refine Jr ?_)
          | ((with_reducible refine Q5 (mul64_calls _ _ _ ⟨q0, q1⟩ hv0) ?_); rintro _ _ ⟨rfl, rfl⟩)
          | (with_reducible refine Jt (fun hc => ?_) (fun hc => ?_) <;> (try simp only [RC] at hc) <;> (try (exfalso; first | omega | contradiction)))
          | (with_reducible refine X4 (fun hc => ?_) (fun hc => ?_) <;> (try simp only [RC] at hc) <;> (try (exfalso; first | omega | contradiction)))
          | (simp only [Qb, Jo, reduceIte, J0])
          | ((with_reducible refine hK _ _ ?_); clear hK)
          | (clear hK; (with_reducible refine hK _ _ ?_); clear hK)
          | (simp only [Q9, RA, Jn, Jm, Jp, Q8, Q6, ev, ofValue, Ju, J0, J3, J2, J4, reduceCtorEq, reduceIte, Jv, Qm, Qk, Q0, aun, Qj, Jk, Ji, Jz, Jy, Jj, Qi, Jf, Q7, Q2, Js, J1, J5, Ja, J9, Jb, J6, J7, Jd, J8, RB, Jw, Je, Kj, k0, k1, k2, k3, k4, k11, k12, k13])
          | (simp (disch := first | omega | (simp only [RO]; done) | assumption) only [RS])
        all_goals
          (
           (refine Qg (rs := [.tmp 10]) rfl ?_)
           (simp only [X5, Qf, Fr.put_some, Fr.put_none, Qp, Qq, Qt, J0, reduceIte, k11])
           (try simp (disch := (first | omega | (simp only [RO]; done) | assumption | (simp only [RM, Je]; done) | (simp only [RL, Je]; omega))) only [RD, reduceCtorEq, reduceIte, Je, J1, J3, J2, J6, Kj, k11]))
        all_goals rw [← this]
      · have hd := guess_more hBd hv1.1 hv0.1 hinv (Int.not_le.1 ht)
        rw [← hT] at hd
        have htt := mt htest.1 ht
        have hq1 : 0 < q := by
          rcases Int.lt_or_le 0 q with h | h
          · exact h
          · exfalso
            obtain rfl : q = 0 := by omega
            rw [Int.zero_mul] at ht
            have := Int.mul_nonneg r0 (Int.le_of_lt hBd)
            omega
        have hw : IntKind.u64.wrap (q - 1) = q - 1 := Y0 (by omega) (by omega)
        repeat' first
          | (with_reducible first | refine Jh (fun K hK => ?_) | refine Jx ?_ | refine Q4 ?_ | refine Jg ?_ | refine Jr ?_)
          | ((with_reducible refine Q5 (mul64_calls _ _ _ ⟨q0, q1⟩ hv0) ?_); rintro _ _ ⟨rfl, rfl⟩)
          | ((with_reducible refine Z3 (Gn _ _ _ _ r0 (Int.le_of_lt hv1.1) (by decide)) ?_); rintro _ _ ⟨rfl, rfl⟩)
          | (with_reducible refine Jt (fun hc => ?_) (fun hc => ?_) <;> (try simp only [RC] at hc) <;> (try (exfalso; first | omega | contradiction)))
          | (with_reducible refine X4 (fun hc => ?_) (fun hc => ?_) <;> (try simp only [RC] at hc) <;> (try (exfalso; first | omega | contradiction)))
          | (simp only [Qb, Jo, reduceIte, J0])
          | ((with_reducible refine hK _ _ ?_); clear hK)
          | (simp only [Q9, RA, Jn, Jm, Jp, Q8, Q6, ev, ofValue, Ju, J0, J3, J2, J4, reduceCtorEq, reduceIte, Jv, Qm, Qk, Q0, aun, Qj, Jk, Ji, Jz, Jy, Jj, Qi, Jf, Q7, Q2, Js, J1, J5, Ja, J9, Jb, J6, J7, Jd, J8, RB, Jw, Je, Kj, k0, k1, k2, k3, k4, k11, k12, k13, hw])
          | (simp (disch := first | omega | (simp only [RO]; done) | assumption) only [RS])
        all_goals
          refine ⟨(q - 1).toNat, by omega, q - 1, _, _, rfl, rfl, rfl, rfl, by omega, by omega, Int.emod_nonneg _ (by decide), Int.emod_lt_of_pos _ (by decide), ?_, ?_, ?_, by omega⟩
          · simp only [Bs] at *; omega
          · simp only [Bs] at *; omega
          · rw [Int.sub_mul, Int.one_mul]
            generalize q * v1 = p at *
            simp only [Bs] at *
            omega
    · have hd : q ≤ T := by
        rw [hT]
        have := guess_done (u0 := u0) hBd hv1.1 hv0.1 hinv (by
          obtain rfl : ov = 1 := by omega
          have e : (Bs - 1) * (Bs - 1) = 340282366920938463426481119284349108225 := by decide
          rw [e] at hqv
          simp only [Bs] at *
          omega)
        exact this
      have := hmin q (by omega) hd hge
      repeat' first
        | (with_reducible first | refine Jh (fun K hK => ?_) | refine Qc ?_ | refine Qd ?_ | refine Jg ?_ | refine Jr ?_)
        | (with_reducible refine X4 (fun hc => ?_) (fun hc => ?_) <;> (try simp only [RC] at hc) <;> (try (exfalso; first | omega | contradiction)))
        | (simp only [Qb, Jo, reduceIte, J0])
        | ((with_reducible refine hK _ _ ?_); clear hK)
        | (clear hK; (with_reducible refine hK _ _ ?_); clear hK)
        | (simp only [Q9, RA, Jn, Jm, Jp, Q8, Q6, ev, ofValue, Ju, J0, J3, J2, J4, reduceCtorEq, reduceIte, Jv, Qm, Qk, Q0, aun, Qj, Jk, Ji, Jz, Jy, Jj, Qi, Jf, Q7, Q2, Js, J1, J5, Ja, J9, Jb, J6, J7, Jd, J8, RB, Jw, Je, Kj, k0, k1, k2, k3, k4, k11, k12, k13])
      (
       (refine Qg (rs := [.tmp 10]) rfl ?_)
       (simp only [X5, Qf, Fr.put_some, Fr.put_none, Qp, Qq, Qt, J0, reduceIte, k11])
       (try simp (disch := (first | omega | (simp only [RO]; done) | assumption | (simp only [RM, Je]; done) | (simp only [RL, Je]; omega))) only [RD, reduceCtorEq, reduceIte, Je, J1, J3, J2, J6, Kj, k11]))
      rw [← this]
end Go.Proofs.YtigddjlhncnnoaaGreatDoor
namespace Go.Proofs.YtigddjlhncnnoaaGreatDoor
open Go.AL Go.PW
theorem Yy : type_of% (Jc @Xw (Jc @Z1 (@Xc))) := Jc @Xw (Jc @Z1 (@Xc))
set_option maxRecDepth 8000
theorem take_calls (hu cu hv cv eu : Nat) (pre w post ws : List Int) (m : Nat) (q : Int) (bv : Blk) (H : Hp) (hgu : X3 H hu = some (Bk (pre ++ w ++ post) eu)) (hgv : X3 H hv = some (Bk ws bv.ety)) (hne : hv ≠ hu)
    (hw : Limbs w) (hws : Limbs ws) (hwl : w.length = m + 1) (hml : m ≤ ws.length) (hm : m < 1000000) (hpre : pre.length < 1000000) (hq : 0 ≤ q ∧ q < Bs) (hV : 0 < val (ws.take m)) (hq1 : val w / val (ws.take m) ≤ q) (hq2 : q ≤ val w / val (ws.take m) + 1) :
    ACalls Tryz.prog 167 [.sl hu pre.length (m + 1) cu, .sl hv 0 m cv, .int .u64 q] H fun r H' => r = .int .u64 (val w / val (ws.take m)) ∧ H.set hu (Bk (pre ++ dig (m + 1) (val w % val (ws.take m)) ++ post) eu) = H' := by
  obtain ⟨V, hVe⟩ : ∃ V, V = val (ws.take m) := ⟨_, rfl⟩
  have lu := X6 hgu
  have lv := X6 hgv
  rw [← hVe] at hV hq1 hq2 ⊢
  have htl : (ws.take m).length = m := by rw [List.length_take]; omega
  refine Qo Tryz.func167 rfl (by kernel_rfl) (by kernel_rfl) ?_
  refine Jh (fun K hQ => ?_)
  repeat' first
    | (with_reducible first | refine Jg ?_)
    | (simp only [Qb, Jo, reduceIte, J0])
    | (simp only [Q9, RA, Jn, Jm, Jp, Q8, Q6, ev, ofValue, Ju, J0, J3, J2, J4, reduceCtorEq, reduceIte, Jv, Qm, Qk, Q0, aun, Qj, Jk, Ji, Jz, Jy, Jj, Qi, Jf, Q7, Q2, Js, J1, J5, Ja, J9, Jb, J6, J7, Jd, J8, RB, Jw, Je, Yy])
  refine hQ _ _ ?_
  clear hQ
  refine Jh (fun K hQ => ?_)
  repeat' first
    | (with_reducible first | refine Jg ?_)
    | (simp only [Qb, Jo, reduceIte, J0])
    | (simp only [Q9, RA, Jn, Jm, Jp, Q8, Q6, ev, ofValue, Ju, J0, J3, J2, J4, reduceCtorEq, reduceIte, Jv, Qm, Qk, Q0, aun, Qj, Jk, Ji, Jz, Jy, Jj, Qi, Jf, Q7, Q2, Js, J1, J5, Ja, J9, Jb, J6, J7, Jd, J8, RB, Jw, Je, Yy])
  refine hQ _ _ ?_
  clear hQ
  refine Jh (fun K2 hK2 => ?_)
  refine Yn (fun fr' H1 => ∃ (zs : List Int) (c b : Int), fr' 0 = .sl hu pre.length (m + 1) cu ∧ fr' 1 = .sl hv 0 m cv ∧ fr' 2 = .int .u64 q ∧ fr' 7 = .int .u64 b ∧ fr' 8 = .int .u64 c ∧ zs.length = m + 1 ∧ Limbs zs ∧ 0 ≤ c ∧ c < Bs ∧ 0 ≤ b ∧ b ≤ 1 ∧ zs.getD m 0 = w.getD m 0 ∧ val zs + q * V = val w + Bs ^ m * (b + c) ∧ H.set hu (Bk (pre ++ zs ++ post) eu) = H1) ?_ (fun fr' H1 h => hK2 _ _ ?_)
  · clear hK2
    repeat' first
      | (with_reducible first | refine Jh (fun K hK => ?_) | refine Jx ?_ | refine Jg ?_)
      | (simp only [Qb, Jo, reduceIte, J0])
      | ((with_reducible refine hK _ _ ?_); clear hK)
      | (simp only [Q9, RA, Jn, Jm, Jp, Q8, Q6, ev, ofValue, Ju, J0, J3, J2, J4, reduceCtorEq, reduceIte, Jv, Qm, Qk, Q0, aun, Qj, Jk, Ji, Jz, Jy, Jj, Qi, Jf, Q7, Q2, Js, J1, J5, Ja, J9, Jb, J6, J7, Jd, J8, RB, Jw, Je, Yy])
    refine Xi (fun k fr' H1 => ∃ (i : Nat) (zs : List Int) (c b : Int), k = m - i ∧ i ≤ m ∧ fr' 0 = .sl hu pre.length (m + 1) cu ∧ fr' 1 = .sl hv 0 m cv ∧ fr' 2 = .int .u64 q ∧ fr' 7 = .int .u64 b ∧ fr' 8 = .int .u64 c ∧ fr' 16 = .sl hv 0 m cv ∧ fr' 17 = .int .i64 (m : Int) ∧ fr' 18 = .int .i64 (i : Int) ∧ zs.length = m + 1 ∧ Limbs zs ∧ 0 ≤ c ∧ c < Bs ∧ 0 ≤ b ∧ b ≤ 1 ∧ (∀ j, i ≤ j → zs.getD j 0 = w.getD j 0) ∧ val zs + q * val (ws.take i) = val w + Bs ^ i * (b + c) ∧ H.set hu (Bk (pre ++ zs ++ post) eu) = H1) (m := m)
      ⟨0, w, 0, 0, by omega, by omega, rfl, rfl, rfl, rfl, rfl, rfl, rfl, rfl, hwl, hw, by decide, by decide, by decide, by decide, fun _ _ => rfl, by simp [val], by rw [set_same hgu]⟩ ?_
    rintro k fr' H1 ⟨i, zs, c, b, rfl, hi, k0, k1, k2, k7, k8, k16, k17, k18, hzl, hzs, c0, c1, b0, b1, hz, hval, rfl⟩
    by_cases hlt : i < m
    · have hx := hws.get i
      have hu' := hzs.get i
      have hst := take_step hq hx ⟨c0, c1⟩ hu' ⟨b0, b1⟩
      have hb := Int.emod_lt_of_pos (q * ws.getD i 0 % Bs + c + 0) (b := Bs) (by decide)
      have hb' := Int.emod_nonneg (q * ws.getD i 0 % Bs + c + 0) (b := Bs) (by decide)
      have hgd := getD_mid pre zs post i (by omega)
      have hsd : ∀ x, (pre ++ zs ++ post).set (pre.length + i) x = pre ++ zs.set i x ++ post := fun x => set_mid pre zs post i x (by omega)
      have lpos : pre.length + i < (pre ++ zs ++ post).length := by simp only [List.length_append]; omega
      repeat' first
        | (with_reducible first | refine Jh (fun K hK => ?_) | refine Jx ?_ | refine Q4 ?_ | refine Jg ?_ | refine Jr ?_)
        | ((with_reducible refine Q5 (mul64_calls _ _ _ hq hx) ?_); rintro _ _ ⟨rfl, rfl⟩)
        | ((with_reducible refine Z3 (Gn _ _ _ _ (Int.emod_nonneg _ (by decide)) c0 (by decide)) ?_); rintro _ _ ⟨rfl, rfl⟩)
        | ((with_reducible refine Z3 (sub64 _ _ _ _ hu'.1 ⟨hb', hb⟩ ⟨b0, b1⟩) ?_); rintro _ _ ⟨rfl, rfl⟩)
        | (with_reducible refine X4 (fun hc => ?_) (fun hc => ?_) <;> (try simp only [RC] at hc) <;> (try (exfalso; first | omega | contradiction)))
        | (simp only [Qb, Jo, reduceIte, J0])
        | ((with_reducible refine hK _ _ ?_); clear hK)
        | (simp only [Q9, RA, Jn, Jm, Jp, Q8, Q6, ev, ofValue, Ju, J0, J3, J2, J4, reduceCtorEq, reduceIte, Jv, Qm, Qk, Q0, aun, Qj, Jk, Ji, Jz, Jy, Jj, Qi, Jf, Q7, Q2, Js, J1, J5, Ja, J9, Jb, J6, J7, Jd, J8, RB, Jw, Je, Yy, k0, k1, k2, k7, k8, k16, k17, k18, Qv lu, hgv, hne, hgd, hsd, Zr])
        | (simp (disch := first | omega | (simp only [RO]; done) | assumption) only [RS, Xa, Xb, X9])
        | (simp (disch := (first | omega | (simp only [RO]; done) | assumption | (simp only [RM, Je]; done) | (simp only [RL, Je]; omega))) only [RD, reduceCtorEq, reduceIte, Je, J1, J3, J2, J6, Yy, k0, k1, k2, k7, k8, k16, k17, k18, Qv lu, hgv, hne, hgd, hsd, Zr])
      obtain ⟨t1, t2, t3, t4⟩ := hst
      have n0 := Int.emod_nonneg (zs.getD i 0 - (q * ws.getD i 0 % Bs + c + 0) % Bs - b) (b := Bs) (by decide)
      have n1 := Int.emod_lt_of_pos (zs.getD i 0 - (q * ws.getD i 0 % Bs + c + 0) % Bs - b) (b := Bs) (by decide)
      refine ⟨m - (i + 1), by omega, i + 1, _, _, _, rfl, by omega, rfl, by rw [t1], by rw [Qe (by omega) (by omega)]; rfl, by rw [List.length_set]; exact hzl, hzs.set i ⟨n0, n1⟩, t3, t4, by split <;> omega, by split <;> omega, ?_, ?_, by rw [J1h]⟩
      · intro j hj
        rw [Xs _ _ (by omega), if_neg (by omega)]
        exact hz j (by omega)
      · rw [Vt _ (by omega), Xk _ (by omega), Int.pow_succ]
        exact take_val t2 hval
    · obtain rfl : i = m := by omega
      repeat' first
        | (with_reducible first | refine Jh (fun K hK => ?_) | refine Qc ?_ | refine Jg ?_ | refine Jr ?_)
        | (with_reducible refine X4 (fun hc => ?_) (fun hc => ?_) <;> (try simp only [RC] at hc) <;> (try (exfalso; first | omega | contradiction)))
        | (simp only [Qb, Jo, reduceIte, J0])
        | ((with_reducible refine hK _ _ ?_); clear hK)
        | (simp only [Q9, RA, Jn, Jm, Jp, Q8, Q6, ev, ofValue, Ju, J0, J3, J2, J4, reduceCtorEq, reduceIte, Jv, Qm, Qk, Q0, aun, Qj, Jk, Ji, Jz, Jy, Jj, Qi, Jf, Q7, Q2, Js, J1, J5, Ja, J9, Jb, J6, J7, Jd, J8, RB, Jw, Je, Yy, k0, k1, k2, k7, k8, k16, k17, k18])
      exact ⟨zs, c, b, rfl, rfl, hzl, hzs, c0, c1, b0, b1, hz _ (Nat.le_refl _), by rw [hVe]; exact hval, rfl⟩
  clear hK2
  obtain ⟨zs, c, b, k0, k1, k2, k7, k8, hzl, hzs, c0, c1, b0, b1, hzm, hval, rfl⟩ := h
  have hu' := hzs.get m
  have hgd := getD_mid pre zs post m (by omega)
  have hsd : ∀ x, (pre ++ zs ++ post).set (pre.length + m) x = pre ++ zs.set m x ++ post := fun x => set_mid pre zs post m x (by omega)
  have lpos : pre.length + m < (pre ++ zs ++ post).length := by simp only [List.length_append]; omega
  have hsub := sub_step hu' ⟨c0, c1⟩ ⟨b0, b1⟩
  refine Jh (fun K hQ => ?_)
  repeat' first
    | (with_reducible first | refine Jg ?_)
    | ((with_reducible refine Z3 (sub64 _ _ _ _ hu'.1 ⟨c0, c1⟩ ⟨b0, b1⟩) ?_); rintro _ _ ⟨rfl, rfl⟩)
    | (simp only [Qb, Jo, reduceIte, J0])
    | (simp only [Q9, RA, Jn, Jm, Jp, Q8, Q6, ev, ofValue, Ju, J0, J3, J2, J4, reduceCtorEq, reduceIte, Jv, Qm, Qk, Q0, aun, Qj, Jk, Ji, Jz, Jy, Jj, Qi, Jf, Q7, Q2, Js, J1, J5, Ja, J9, Jb, J6, J7, Jd, J8, RB, Jw, Je, Yy, k0, k1, k2, k7, k8, Qv lu, hgv, hne, hgd, hsd, Zr])
    | (simp (disch := first | omega | (simp only [RO]; done) | assumption) only [RS, Xa, Xb, X9])
    | (simp (disch := (first | omega | (simp only [RO]; done) | assumption | (simp only [RM, Je]; done) | (simp only [RL, Je]; omega))) only [RD, reduceCtorEq, reduceIte, Je, J1, J3, J2, J6, Yy, k0, k1, k2, k7, k8, Qv lu, hgv, hne, hgd, hsd, Zr])
  refine hQ _ _ ?_
  clear hQ
  have n0 := Int.emod_nonneg (zs.getD m 0 - c - b) (b := Bs) (by decide)
  have n1 := Int.emod_lt_of_pos (zs.getD m 0 - c - b) (b := Bs) (by decide)
  have hzl' : (zs.set m ((zs.getD m 0 - c - b) % Bs)).length = m + 1 := by rw [List.length_set]; exact hzl
  have hzs' := hzs.set m ⟨n0, n1⟩
  have hval' : val (zs.set m ((zs.getD m 0 - c - b) % Bs)) + q * V = val w + Bs ^ m * Bs * (if zs.getD m 0 < c + b then 1 else 0) := by
    rw [Vt _ (by omega)]
    exact take_last hsub hval
  generalize zs.set m ((zs.getD m 0 - c - b) % Bs) = ys at *
  have hyb := Xh hzs'
  rw [hzl', Int.pow_succ] at hyb
  have hVB := Xh (hws.take m)
  rw [← hVe, htl] at hVB
  have hVP : V ≤ Bs ^ m * Bs := by
    have := Int.mul_le_mul_of_nonneg_left (show 1 ≤ Bs by decide) (Int.le_of_lt (Xn m))
    omega
  by_cases hb : zs.getD m 0 < c + b
  · rw [if_pos hb, Int.mul_one] at hval'
    refine Jh (fun K hQ => ?_)
    repeat' first
      | (with_reducible first | refine Jh (fun K hK => ?_) | refine Q4 ?_ | refine Jg ?_ | refine Jr ?_)
      | (simp only [Qb, Jo, reduceIte, J0])
      | ((with_reducible refine hK _ _ ?_); clear hK)
      | (simp only [Q9, RA, Jn, Jm, Jp, Q8, Q6, ev, ofValue, Ju, J0, J3, J2, J4, reduceCtorEq, reduceIte, Jv, Qm, Qk, Q0, aun, Qj, Jk, Ji, Jz, Jy, Jj, Qi, Jf, Q7, Q2, Js, J1, J5, Ja, J9, Jb, J6, J7, Jd, J8, RB, Jw, Je, Yy, k0, k1, k2, hb])
    refine hQ _ _ ?_
    clear hQ
    refine Jh (fun K hQ => ?_)
    repeat' first
      | (with_reducible first | refine Jh (fun K hK => ?_) | refine Q4 ?_ | refine Jg ?_ | refine Jr ?_)
      | (simp only [Qb, Jo, reduceIte, J0])
      | ((with_reducible refine hK _ _ ?_); clear hK)
      | (simp only [Q9, RA, Jn, Jm, Jp, Q8, Q6, ev, ofValue, Ju, J0, J3, J2, J4, reduceCtorEq, reduceIte, Jv, Qm, Qk, Q0, aun, Qj, Jk, Ji, Jz, Jy, Jj, Qi, Jf, Q7, Q2, Js, J1, J5, Ja, J9, Jb, J6, J7, Jd, J8, RB, Jw, Je, Yy, k0, k1, k2, hb])
    refine hQ _ _ ?_
    clear hQ
    refine Jh (fun K2 hK2 => ?_)
    refine Yn (fun fr' H1 => ∃ (zs : List Int) (c : Int), fr' 0 = .sl hu pre.length (m + 1) cu ∧ fr' 1 = .sl hv 0 m cv ∧ fr' 2 = .int .u64 q ∧ fr' 8 = .int .u64 c ∧ zs.length = m + 1 ∧ Limbs zs ∧ 0 ≤ c ∧ c ≤ 1 ∧ val zs + Bs ^ m * c = val ys + V ∧ H.set hu (Bk (pre ++ zs ++ post) eu) = H1) ?_ (fun fr' H1 h => hK2 _ _ ?_)
    · clear hK2
      repeat' first
        | (with_reducible first | refine Jh (fun K hK => ?_) | refine Jx ?_ | refine Jg ?_)
        | (simp only [Qb, Jo, reduceIte, J0])
        | ((with_reducible refine hK _ _ ?_); clear hK)
        | (simp only [Q9, RA, Jn, Jm, Jp, Q8, Q6, ev, ofValue, Ju, J0, J3, J2, J4, reduceCtorEq, reduceIte, Jv, Qm, Qk, Q0, aun, Qj, Jk, Ji, Jz, Jy, Jj, Qi, Jf, Q7, Q2, Js, J1, J5, Ja, J9, Jb, J6, J7, Jd, J8, RB, Jw, Je, Yy, k0, k1, k2])
      refine Xi (fun k fr' H1 => ∃ (i : Nat) (zs : List Int) (c : Int), k = m - i ∧ i ≤ m ∧ fr' 0 = .sl hu pre.length (m + 1) cu ∧ fr' 1 = .sl hv 0 m cv ∧ fr' 2 = .int .u64 q ∧ fr' 8 = .int .u64 c ∧ fr' 70 = .sl hv 0 m cv ∧ fr' 71 = .int .i64 (m : Int) ∧ fr' 72 = .int .i64 (i : Int) ∧ zs.length = m + 1 ∧ Limbs zs ∧ 0 ≤ c ∧ c ≤ 1 ∧ val zs + Bs ^ i * c = val ys + val (ws.take i) ∧ H.set hu (Bk (pre ++ zs ++ post) eu) = H1) (m := m)
        ⟨0, ys, 0, by omega, by omega, k0, k1, k2, rfl, rfl, rfl, rfl, hzl', hzs', by decide, by decide, by simp [val], by rw [J1h]⟩ ?_
      clear k0 k1 k2 k7 k8 hval hgd hsd lpos hsub
      rintro k fr' H1 ⟨i, zs, c, rfl, hi, k0, k1, k2, k8, k70, k71, k72, hzl, hzs, c0, c1, hval, rfl⟩
      by_cases hlt : i < m
      · have hx := hws.get i
        have hu' := hzs.get i
        have hgd := getD_mid pre zs post i (by omega)
        have hsd : ∀ x, (pre ++ zs ++ post).set (pre.length + i) x = pre ++ zs.set i x ++ post := fun x => set_mid pre zs post i x (by omega)
        have lpos : pre.length + i < (pre ++ zs ++ post).length := by simp only [List.length_append]; omega
        obtain ⟨s1, s2, s3⟩ := sum_step hu' hx ⟨c0, c1⟩
        repeat' first
          | (with_reducible first | refine Jh (fun K hK => ?_) | refine Jx ?_ | refine Q4 ?_ | refine Jg ?_ | refine Jr ?_)
          | ((with_reducible refine Z3 (Gn _ _ _ _ hu'.1 hx.1 ⟨c0, c1⟩) ?_); rintro _ _ ⟨rfl, rfl⟩)
          | (with_reducible refine X4 (fun hc => ?_) (fun hc => ?_) <;> (try simp only [RC] at hc) <;> (try (exfalso; first | omega | contradiction)))
          | (simp only [Qb, Jo, reduceIte, J0])
          | ((with_reducible refine hK _ _ ?_); clear hK)
          | (simp only [Q9, RA, Jn, Jm, Jp, Q8, Q6, ev, ofValue, Ju, J0, J3, J2, J4, reduceCtorEq, reduceIte, Jv, Qm, Qk, Q0, aun, Qj, Jk, Ji, Jz, Jy, Jj, Qi, Jf, Q7, Q2, Js, J1, J5, Ja, J9, Jb, J6, J7, Jd, J8, RB, Jw, Je, Yy, k0, k1, k2, k8, k70, k71, k72, Qv lu, hgv, hne, hgd, hsd, Zr])
          | (simp (disch := first | omega | (simp only [RO]; done) | assumption) only [RS, Xa, Xb, X9])
          | (simp (disch := (first | omega | (simp only [RO]; done) | assumption | (simp only [RM, Je]; done) | (simp only [RL, Je]; omega))) only [RD, reduceCtorEq, reduceIte, Je, J1, J3, J2, J6, Yy, k0, k1, k2, k8, k70, k71, k72, Qv lu, hgv, hne, hgd, hsd, Zr])
        have n0 := Int.emod_nonneg (zs.getD i 0 + ws.getD i 0 + c) (b := Bs) (by decide)
        have n1 := Int.emod_lt_of_pos (zs.getD i 0 + ws.getD i 0 + c) (b := Bs) (by decide)
        refine ⟨m - (i + 1), by omega, i + 1, _, _, rfl, by omega, rfl, by rw [Qe (by omega) (by omega)]; rfl, by rw [List.length_set]; exact hzl, hzs.set i ⟨n0, n1⟩, s2, s3, ?_, by rw [J1h]⟩
        rw [Vt _ (by omega), Xk _ (by omega), Int.pow_succ]
        exact back_val s1 hval
      · obtain rfl : i = m := by omega
        repeat' first
          | (with_reducible first | refine Jh (fun K hK => ?_) | refine Qc ?_ | refine Jg ?_ | refine Jr ?_)
          | (with_reducible refine X4 (fun hc => ?_) (fun hc => ?_) <;> (try simp only [RC] at hc) <;> (try (exfalso; first | omega | contradiction)))
          | (simp only [Qb, Jo, reduceIte, J0])
          | ((with_reducible refine hK _ _ ?_); clear hK)
          | (simp only [Q9, RA, Jn, Jm, Jp, Q8, Q6, ev, ofValue, Ju, J0, J3, J2, J4, reduceCtorEq, reduceIte, Jv, Qm, Qk, Q0, aun, Qj, Jk, Ji, Jz, Jy, Jj, Qi, Jf, Q7, Q2, Js, J1, J5, Ja, J9, Jb, J6, J7, Jd, J8, RB, Jw, Je, Yy, k0, k1, k2, k8, k70, k71, k72])
        exact ⟨zs, c, rfl, hzl, hzs, c0, c1, by rw [hVe]; exact hval, rfl⟩
    clear hK2 k0 k1 k2 k7 k8 hval hgd hsd lpos hsub
    obtain ⟨zs, c, k0, k1, k2, k8, hzl, hzs, c0, c1, hval, rfl⟩ := h
    have hu' := hzs.get m
    have hgd := getD_mid pre zs post m (by omega)
    have hsd : ∀ x, (pre ++ zs ++ post).set (pre.length + m) x = pre ++ zs.set m x ++ post := fun x => set_mid pre zs post m x (by omega)
    have lpos : pre.length + m < (pre ++ zs ++ post).length := by simp only [List.length_append]; omega
    obtain ⟨s1, s2, s3⟩ := sum_step hu' (y := 0) (by decide) ⟨c0, c1⟩
    rw [Int.add_zero] at s1
    have n0 := Int.emod_nonneg (zs.getD m 0 + c) (b := Bs) (by decide)
    have n1 := Int.emod_lt_of_pos (zs.getD m 0 + c) (b := Bs) (by decide)
    have hfz := hzs.set m ⟨n0, n1⟩
    have hfl : (zs.set m ((zs.getD m 0 + c) % Bs)).length = m + 1 := by rw [List.length_set]; exact hzl
    have hfv : val (zs.set m ((zs.getD m 0 + c) % Bs)) = val ys + V - Bs ^ m * Bs * ((zs.getD m 0 + c) / Bs) := by
      rw [Vt _ (by omega)]
      exact back_last s1 hval
    have hfb := Xh hfz
    rw [hfl, Int.pow_succ] at hfb
    obtain ⟨r1, r2⟩ := take_over hV hVP hyb.2 hfb hval' hq2 hfv
    have hq1' : 0 < q := by
      have := Int.ediv_nonneg (Xh hw).1 (Int.le_of_lt hV)
      omega
    have hwq : IntKind.u64.wrap (q - 1) = q - 1 := Y0 (by omega) (by omega)
    repeat' first
      | (with_reducible first | refine Jh (fun K hK => ?_) | refine Qd ?_ | refine Jg ?_)
      | (simp only [Qb, Jo, reduceIte, J0])
      | ((with_reducible refine hK _ _ ?_); clear hK)
      | (simp only [Q9, RA, Jn, Jm, Jp, Q8, Q6, ev, ofValue, Ju, J0, J3, J2, J4, reduceCtorEq, reduceIte, Jv, Qm, Qk, Q0, aun, Qj, Jk, Ji, Jz, Jy, Jj, Qi, Jf, Q7, Q2, Js, J1, J5, Ja, J9, Jb, J6, J7, Jd, J8, RB, Jw, Je, Yy, k0, k1, k2, k8, Qv lu, hgv, hne, hgd, hsd, Zr])
      | (simp (disch := first | omega | (simp only [RO]; done) | assumption) only [RS, Xa, Xb, X9])
      | (simp (disch := (first | omega | (simp only [RO]; done) | assumption | (simp only [RM, Je]; done) | (simp only [RL, Je]; omega))) only [RD, reduceCtorEq, reduceIte, Je, J1, J3, J2, J6, Yy, k0, k1, k2, k8, Qv lu, hgv, hne, hgd, hsd, Zr])
    (
     (refine Qg (rs := [.tmp 6]) rfl ?_)
     (simp only [X5, Qf, Fr.put_some, Fr.put_none, Qp, Qq, Qt, J0, reduceIte])
     (try simp (disch := (first | omega | (simp only [RO]; done) | assumption | (simp only [RM, Je]; done) | (simp only [RL, Je]; omega))) only [RD, reduceCtorEq, reduceIte, Je, J1, J3, J2, J6, Yy]))
    rw [Int.emod_eq_of_lt (show 0 ≤ q - 1 by omega) (show q - 1 < Bs by omega), r1, J1h, ← Vn (n := m + 1) hfz hfl (x := val w % V) (by rw [← r2, Int.pow_succ, Int.emod_eq_of_lt hfb.1 hfb.2])]
    exact ⟨rfl, rfl⟩
  · rw [if_neg hb, Int.mul_zero, Int.add_zero] at hval'
    obtain ⟨r1, r2⟩ := take_right hV hyb.1 hval' hq1
    repeat' first
      | (with_reducible first | refine Jh (fun K hK => ?_) | refine Qd ?_ | refine Jg ?_ | refine Jr ?_)
      | (simp only [Qb, Jo, reduceIte, J0])
      | ((with_reducible refine hK _ _ ?_); clear hK)
      | (simp only [Q9, RA, Jn, Jm, Jp, Q8, Q6, ev, ofValue, Ju, J0, J3, J2, J4, reduceCtorEq, reduceIte, Jv, Qm, Qk, Q0, aun, Qj, Jk, Ji, Jz, Jy, Jj, Qi, Jf, Q7, Q2, Js, J1, J5, Ja, J9, Jb, J6, J7, Jd, J8, RB, Jw, Je, Yy, k0, k1, k2, hb])
    (
     (refine Qg (rs := [.tmp 6]) rfl ?_)
     (simp only [X5, Qf, Fr.put_some, Fr.put_none, Qp, Qq, Qt, J0, reduceIte])
     (try simp (disch := (first | omega | (simp only [RO]; done) | assumption | (simp only [RM, Je]; done) | (simp only [RL, Je]; omega))) only [RD, reduceCtorEq, reduceIte, Je, J1, J3, J2, J6, Yy]))
    rw [r1, ← Vn (n := m + 1) hzs' hzl' (x := val w % V) (by rw [← r2, Int.pow_succ, Int.emod_eq_of_lt hyb.1 hyb.2]), J1h]
    exact ⟨rfl, rfl⟩
end Go.Proofs.YtigddjlhncnnoaaGreatDoor
namespace Go.Proofs.YtigddjlhncnnoaaGreatDoor
open Go.AL Go.PW
theorem J06 : type_of% (Jc @Xw (Jc @Xc (Jc @Y9 (@Y8)))) := Jc @Xw (Jc @Xc (Jc @Y9 (@Y8)))
set_option maxRecDepth 8000
theorem dig_small {r : Int} (h0 : 0 ≤ r) (h1 : r < Bs) : dig 16 r = (dig 16 0).set 0 r := by
  refine (Vn ((Z7 16 0).set 0 ⟨h0, h1⟩) (by rw [List.length_set, dig_length]) ?_).symm
  rw [Vt _ (by rw [dig_length]; decide), Wj]
  have : (dig 16 0).getD 0 0 = 0 := getD_dig0 16 0
  rw [this]
  have h2 : Bs ≤ Bs ^ 16 := by decide
  rw [Int.emod_eq_of_lt h0 (by omega)]
  simp
theorem build_one {r : Int} (h0 : 0 ≤ r) (h1 : r < Bs) : Yh Tryz.prog 73 [(0, .int .u64 r)] = some (W r) := by
  have hs : Q2 ((dig 16 0).map (AV.int .u64)) 0 [.int .u64 r] = (dig 16 r).map (AV.int .u64) := by
    rw [splice_int (by rw [dig_length]; decide), ← dig_small h0 h1]
  simp only [Yh, zero73, G1, und73, Z4, Option.map_some, AV.cells_agg, Q7, AV.solid_int, AV.cells_int, List.length_singleton, true_and, Nat.zero_mul, Nat.zero_add, V6, dig_length]
  rw [if_pos (by decide), hs]
  rfl
theorem short_calls (X v : Int) (H : Hp) (hX : 0 ≤ X ∧ X < M) (hv : 0 < v ∧ v < Bs) : ACalls Tryz.prog 165 [W X, .int .u64 v] H fun r H' => r = .tup [W (X / v), W (X % v)] ∧ H = H' := by
  refine ACalls.drop (R := fun r => r = .tup [W (X / v), W (X % v)]) ?_
  refine Qo Tryz.func165 rfl (by kernel_rfl) (by kernel_rfl) ?_
  repeat' first
    | (with_reducible first | refine Jh (fun K hK => ?_) | refine Jx ?_ | refine Jg ?_)
    | (simp only [Qb, Jo, reduceIte, J0])
    | ((with_reducible refine hK _ _ ?_); clear hK)
    | (simp only [Q9, RA, Jn, Jm, Jp, Q8, Q6, ev, ofValue, Ju, J0, J3, J2, J4, reduceCtorEq, reduceIte, Jv, Qm, Qk, Q0, aun, Qj, Jk, Ji, Jz, Jy, Jj, Qi, Jf, Q7, Q2, Js, J1, J5, Ja, J9, Jb, J6, J7, Jd, J8, RB, Jw, Je, J06])
  refine Xi (fun c fr' H' => ∃ (k : Nat) (ys : List Int) (r : Int), c = k ∧ k ≤ 16 ∧ fr' 1 = .int .u64 v ∧ fr' 2 = .ptr H.length 0 ∧ fr' 4 = .ptr (H.length + 1) 0 ∧ fr' 5 = .ptr (H.length + 1 + 1) 0 ∧ fr' 6 = .int .u64 r ∧ fr' 7 = .int .i64 ((k : Int) - 1) ∧ ys.length = 16 ∧ Limbs ys ∧ 0 ≤ r ∧ r < v ∧ (∀ j, j < k → ys.getD j 0 = (dig 16 X).getD j 0) ∧ val (ys.drop k) * v + r = val ((dig 16 X).drop k) ∧ H ++ [Bk ys 73] ++ [Wb 0] ++ [Wb 0] = H') (m := 16)
    ⟨16, dig 16 X, 0, rfl, by omega, rfl, rfl, rfl, rfl, rfl, rfl, dig_length _ _, Z7 _ _, by decide, by omega, fun _ _ => rfl, by simp [List.drop_of_length_le, dig_length, val], rfl⟩ ?_
  rintro c fr' H' ⟨k, ys, r, rfl, hk, k1, k2, k4, k5, k6, k7, hyl, hys, r0, r1, hlow, hval, rfl⟩
  by_cases h0 : 0 < c
  · obtain ⟨i, rfl⟩ : ∃ i, c = i + 1 := ⟨c - 1, by omega⟩
    have hyi := hys.get i
    have e1 : (((i + 1 : Nat) : Int) - 1) = i := by omega
    have e2 : IntKind.i64.wrap ((i : Int) - 1) = (i : Int) - 1 := Qe (by omega) (by omega)
    rw [e1] at k7
    have hdb : 0 ≤ r * Bs + ys.getD i 0 := by simp only [Bs]; omega
    have hd0 : 0 ≤ (r * Bs + ys.getD i 0) / v := Int.ediv_nonneg hdb (by omega)
    have hd1 : (r * Bs + ys.getD i 0) / v < Bs := by
      rw [Int.ediv_lt_iff_lt_mul hv.1]
      simp only [Bs] at *
      omega
    repeat' first
      | (with_reducible first | refine Jh (fun K hK => ?_) | refine Jx ?_ | refine Q4 ?_ | refine Jg ?_ | refine Jr ?_)
      | ((with_reducible refine Q5 (div64_calls _ _ _ _ r0 r1 hyi hv.2) ?_); rintro _ _ ⟨rfl, rfl⟩)
      | (with_reducible refine X4 (fun hc => ?_) (fun hc => ?_) <;> (try simp only [RC] at hc) <;> (try (exfalso; first | omega | contradiction)))
      | (simp only [Qb, Jo, reduceIte, J0])
      | ((with_reducible refine hK _ _ ?_); clear hK)
      | (simp only [Q9, RA, Jn, Jm, Jp, Q8, Q6, ev, ofValue, Ju, J0, J3, J2, J4, reduceCtorEq, reduceIte, Jv, Qm, Qk, Q0, aun, Qj, Jk, Ji, Jz, Jy, Jj, Qi, Jf, Q7, Q2, Js, J1, J5, Ja, J9, Jb, J6, J7, Jd, J8, RB, Jw, Je, J06, k1, k2, k4, k5, k6, k7, e2, hyl])
      | (simp (disch := first | omega | (simp only [RO]; done) | assumption) only [RS, Zz, Zx, Zy, Zw])
      | (simp (disch := (first | omega | (simp only [RO]; done) | assumption | (simp only [RM, Je]; done) | (simp only [RL, Je]; omega))) only [RD, reduceCtorEq, reduceIte, Je, J1, J3, J2, J6, J06, k1, k2, k4, k5, k6, k7, e2, hyl])
    refine ⟨i, by omega, i, ys.set i ((r * Bs + ys.getD i 0) / v), _, rfl, by omega, rfl, rfl, by rw [List.length_set]; exact hyl, hys.set i ⟨hd0, hd1⟩, Int.emod_nonneg _ (by omega), Int.emod_lt_of_pos _ hv.1, ?_, ?_, rfl⟩
    · intro j hj
      rw [Xs _ _ (by omega), if_neg (by omega)]
      exact hlow j (by omega)
    · rw [Yw _ (by rw [List.length_set]; omega), Xs _ _ (by omega), if_pos rfl, List.drop_set_of_lt (by omega), Yw (dig 16 X) (by rw [dig_length]; omega), ← hval, ← hlow i (by omega)]
      have hm := Int.emod_add_mul_ediv (r * Bs + ys.getD i 0) v
      generalize (r * Bs + ys.getD i 0) / v = q at *
      generalize (r * Bs + ys.getD i 0) % v = z at *
      generalize val (ys.drop (i + 1)) = d at *
      generalize ys.getD i 0 = y at *
      rw [Int.add_mul, Int.mul_comm q v, Int.mul_add, Int.mul_assoc]
      simp only [Bs] at *
      omega
  · obtain rfl : c = 0 := by omega
    rw [List.drop_zero, List.drop_zero, val_M, Int.emod_eq_of_lt hX.1 hX.2] at hval
    have hq : val ys = X / v := by
      have := ediv_eq (a := X) (b := v) (q := val ys) hv.1 (by omega) (by rw [Int.add_mul]; omega)
      exact this.symm
    have hr : r = X % v := by
      have := Int.emod_add_mul_ediv X v
      rw [← hq, Int.mul_comm] at this
      omega
    have hyd : ys = dig 16 (X / v) := Vn hys hyl (by rw [← hq, Int.emod_eq_of_lt (Xh hys).1 (by have := (Xh hys).2; rwa [hyl] at this)])
    have hb1 := build_one r0 (show r < Bs by omega)
    repeat' first
      | (with_reducible first | refine Jh (fun K hK => ?_) | refine Qc ?_ | refine Qd ?_ | refine Jg ?_ | refine Jr ?_)
      | (with_reducible refine X4 (fun hc => ?_) (fun hc => ?_) <;> (try simp only [RC] at hc) <;> (try (exfalso; first | omega | contradiction)))
      | (simp only [Qb, Jo, reduceIte, J0])
      | ((with_reducible refine hK _ _ ?_); clear hK)
      | (clear hK; (with_reducible refine hK _ _ ?_); clear hK)
      | (simp only [Q9, RA, Jn, Jm, Jp, Q8, Q6, ev, ofValue, Ju, J0, J3, J2, J4, reduceCtorEq, reduceIte, Jv, Qm, Qk, Q0, aun, Qj, Jk, Ji, Jz, Jy, Jj, Qi, Jf, Q7, Q2, Js, J1, J5, Ja, J9, Jb, J6, J7, Jd, J8, RB, Jw, Je, J06, k1, k2, k4, k5, k6, k7, hb1, hyl])
      | (simp (disch := (first | omega | (simp only [RO]; done) | assumption | (simp only [RM, Je]; done) | (simp only [RL, Je]; omega))) only [RD, reduceCtorEq, reduceIte, Je, J1, J3, J2, J6, J06, k1, k2, k4, k5, k6, k7, hb1, hyl])
    (
     (refine Qg (rs := [.cell 4 73, .cell 5 73]) rfl ?_)
     (simp only [X5, Qf, Fr.put_some, Fr.put_none, Qp, Qq, Qt, J0, reduceIte, k4, k5])
     (try simp (disch := (first | omega | (simp only [RO]; done) | assumption | (simp only [RM, Je]; done) | (simp only [RL, Je]; omega))) only [RD, reduceCtorEq, reduceIte, Je, J1, J3, J2, J6, J06, k4, k5]))
    rw [hyd, hr]
    exact ⟨Re _ _ _, W_tup_lt _ _ (W_lt _ _), rfl⟩
theorem sl_both {P : Program} {t e : TypeId} {h o n c a b : Nat} {l k : IntKind} (hu : P.underlying t = some (.slice e)) (hz : Xf P e = some 1) (ha : a ≤ b) (hb : b ≤ c) (hlt : a < c) : Yg P t (.sl h o n c) (some (.int l (a : Int))) (some (.int k (b : Int))) none = some (.sl h (o + a) (b - a) (c - a)) := by
  have hne : c ≠ a := by omega
  simp [Yg, hu, hz, Y3, Wa, ha, hb, hne]
theorem sl_hi {P : Program} {t e : TypeId} {h o n c b z : Nat} {k : IntKind} (hu : P.underlying t = some (.slice e)) (hz : Xf P e = some z) (hb : b ≤ c) : Yg P t (.sl h o n c) none (some (.int k (b : Int))) none = some (.sl h o b c) := by
  simp [Yg, hu, hz, Y3, Wa, hb]
theorem lz_fits {Y : Int} {m s : Nat} {ys : List Int} (hys : Limbs ys) (hm : m = cnt ys) (hm0 : 0 < m) (hY : val ys = Y) (hs : s = 64 - bl (ys.getD (m - 1) 0).toNat) : Y * 2 ^ s < Bs ^ m ∧ s < 64 := by
  have hl := cnt_le ys
  have ht := cnt_top ys (by omega)
  rw [← hm] at ht
  have hg := hys.get (m - 1)
  have h1 := Xk ys (i := m - 1) (by omega)
  rw [show m - 1 + 1 = m by omega, Gx (by omega), hY] at h1
  have h2 := Xh (hys.take (m - 1))
  rw [List.length_take, Nat.min_eq_left (by omega)] at h2
  obtain ⟨t, ht'⟩ := Int.eq_ofNat_of_zero_le hg.1
  rw [ht'] at h1 hs ht hg
  rw [Int.toNat_natCast] at hs
  have ht0 : t ≠ 0 := by omega
  have b1 := bl_lt t
  have b3 := bl_pos ht0
  have b4 : bl t ≤ 64 := bl_le (by simp only [Bs] at hg; omega)
  refine ⟨?_, by omega⟩
  have e : (2 : Int) ^ (bl t) * 2 ^ s = Bs := by rw [← Int.pow_add, hs, show bl t + (64 - bl t) = 64 by omega]; decide
  have h3 : ((t : Int) + 1) ≤ 2 ^ bl t := by
    have : ((t + 1 : Nat) : Int) ≤ ((2 ^ bl t : Nat) : Int) := by omega
    simpa using this
  have hp := Xn (m - 1)
  have h4 : Y < Bs ^ (m - 1) * ((t : Int) + 1) := by rw [Int.mul_add]; omega
  have h5 : Bs ^ (m - 1) * ((t : Int) + 1) ≤ Bs ^ (m - 1) * 2 ^ bl t := Int.mul_le_mul_of_nonneg_left h3 (Int.le_of_lt hp)
  have h6 : Y * 2 ^ s < Bs ^ (m - 1) * 2 ^ bl t * 2 ^ s := Int.mul_lt_mul_of_pos_right (by omega) (Zb s)
  rw [Int.mul_assoc, e, ← Int.pow_succ, show (m - 1).succ = m by omega] at h6
  exact h6
end Go.Proofs.YtigddjlhncnnoaaGreatDoor

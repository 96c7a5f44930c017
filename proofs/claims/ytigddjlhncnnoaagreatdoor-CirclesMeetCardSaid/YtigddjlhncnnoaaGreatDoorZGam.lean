/- Part 13 of the proof of laws of this seat: lemmas on the model's code, on this program's functions, on numbers. No condition. -/
import Derived.Test.YtigddjlhncnnoaaGreatDoorZGal
set_option linter.unusedVariables false
set_option linter.unusedSimpArgs false
open Nat renaming reduceEqDiff → J0, reduceLeDiff → J1, reduceMul → J2, reduceAdd → J3, reduceSub → J4, reduceLT → J5
open Int renaming reduceToNat → J6, reducePow → J7, reduceNeg → J8, reduceLT → J9, reduceLE → Ja, reduceEq → Jb
open And renaming intro → Jc
open Go.IntKind renaming bits → Jd
open Go.PW renaming dig_length → Je
namespace Go.Proofs.YtigddjlhncnnoaaGreatDoor
open Go.AL Go.PW
theorem J1b : type_of% (Jc @Xw (Jc @Xc (Jc @Y9 (@Y8)))) := Jc @Xw (Jc @Xc (Jc @Y9 (@Y8)))
theorem tf86WdB : type_of% (Jc @Xc (Jc @Y9 (@Y8))) := Jc @Xc (Jc @Y9 (@Y8))
theorem tf85WdB : type_of% (Jc @Zg (Jc @Xw (Jc @Xc (Jc @Y9 (Jc @Y8 (@cv2_71)))))) := Jc @Zg (Jc @Xw (Jc @Xc (Jc @Y9 (Jc @Y8 (@cv2_71)))))
theorem tf132WdB : type_of% (Jc @Xc (Jc @Y9 (@Y8))) := Jc @Xc (Jc @Y9 (@Y8))
abbrev pn110_5WdB : Plan := (.one 0 (.one 1 (.one 2 (.one 3 (.one 4 (.one 5 (.one 6 (.one 7 (.one 8 (.one 9 (.one 10 (.one 11 (.one 12 (.one 13 (.one 14 .nil)))))))))))))))
set_option maxRecDepth 8000
theorem Re {H : Hp} (a b c : Blk) : Ext H (H ++ [a] ++ [b] ++ [c]) := (ext4 _ _).pushed _
theorem ext6 {H : Hp} (a b c d : Blk) : Ext H (H ++ [a] ++ [b] ++ [c] ++ [d]) := (Re _ _ _).pushed _
theorem plus_calls (x y c : Int) (H : Hp) (hc : 0 ≤ c ∧ c ≤ 1) : ACalls Tryz.prog 110 [W x, W y, .int .u64 c] H fun r H' => r = .tup [W (x + y + c), .int .u64 ((x % M + y % M + c) / M)] ∧ H = H' := by
  refine ACalls.drop (R := fun r => r = .tup [W (x + y + c), .int .u64 ((x % M + y % M + c) / M)]) ?_
  refine Qo Tryz.func110 rfl (by kernel_rfl) (by kernel_rfl) ?_
  repeat' first
    | (with_reducible first | refine Jh (fun K hK => ?_) | refine Jx ?_ | refine Jg ?_)
    | (simp only [Qb, Jo, reduceIte, J0])
    | ((with_reducible refine hK _ _ ?_); clear hK)
    | (simp only [Q9, RA, Jn, Jm, Jp, Q8, Q6, ev, ofValue, Ju, J0, J3, J2, J4, reduceCtorEq, reduceIte, Jv, Qm, Qk, Q0, aun, Qj, Jk, Ji, Jz, Jy, Jj, Qi, Jf, Q7, Q2, Js, J1, J5, Ja, J9, Jb, J6, J7, Jd, J8, RB, Jw, Je, J1b])
  refine Xi (fun m fr' H' => ∃ (i : Nat) (ys : List Int) (cc : Int), m = 16 - i ∧ i ≤ 16 ∧ fr' 2 = .int .u64 cc ∧ fr' 3 = .ptr H.length 0 ∧ fr' 4 = .ptr (H.length + 1) 0 ∧ fr' 6 = .ptr (H.length + 1 + 1) 0 ∧ fr' 8 = .ptr (H.length + 1 + 1 + 1) 0 ∧ fr' 10 = .int .i64 (i : Int) ∧ 0 ≤ cc ∧ cc ≤ 1 ∧ ys.length = 16 ∧ Limbs ys ∧
      val (ys.take i) + Bs ^ i * cc = val ((dig 16 x).take i) + val ((dig 16 y).take i) + c ∧ H ++ [Wb x] ++ [Wb y] ++ [Wb 0] ++ [⟨ys.map (AV.int .u64), .own, 73⟩] = H') (m := 16)
    ⟨0, dig 16 0, c, by omega, by omega, rfl, rfl, rfl, rfl, rfl, rfl, hc.1, hc.2, dig_length _ _, Z7 _ _, by simp [val], rfl⟩ ?_
  rintro m fr' H' ⟨i, ys, cc, rfl, hi, k2, k3, k4, k6, k8, k10, c0, c1, hl, hys, hy, rfl⟩
  by_cases hlt : i < 16
  · have hdx := (Z7 16 x).get i
    have hdy := (Z7 16 y).get i
    repeat' first
      | (with_reducible first | refine Jh (fun K hK => ?_) | refine Jx ?_ | refine Q4 ?_ | refine Jg ?_ | refine Q1 (id := 5) [] pn110_5WdB (by kernel_rfl) (by kernel_rfl) ?_ | refine Jr ?_)
      | ((with_reducible refine Z3 (Gn _ _ _ _ hdx.1 hdy.1 ⟨c0, c1⟩) ?_); rintro _ _ ⟨rfl, rfl⟩)
      | (with_reducible refine X4 (fun hc => ?_) (fun hc => ?_) <;> (try simp only [RC] at hc) <;> (try (exfalso; first | omega | contradiction)))
      | (simp only [Qb, Jo, reduceIte, J0])
      | ((with_reducible refine hK _ _ ?_); clear hK)
      | (simp only [Q9, RA, Jn, Jm, Jp, Q8, Q6, ev, ofValue, Ju, J0, J3, J2, J4, reduceCtorEq, reduceIte, Jv, Qm, Qk, Q0, aun, Qj, Jk, Ji, Jz, Jy, Jj, Qi, Jf, Q7, Q2, Js, J1, J5, Ja, J9, Jb, J6, J7, Jd, J8, RB, Jw, Je, J1b, k2, k3, k4, k6, k8, k10])
      | (simp (disch := first | omega | (simp only [RO]; done) | assumption) only [RS, hl, Zz, Zx, Zy, Zw])
      | (simp (disch := (first | omega | (simp only [RO]; done) | assumption | (simp only [RM, Je]; done) | (simp only [RL, Je]; omega))) only [RD, reduceCtorEq, reduceIte, Je, J1, J3, J2, J6, J1b, k2, k3, k4, k6, k8, k10])
    generalize hS : (dig 16 x).getD i 0 + (dig 16 y).getD i 0 + cc = S
    have hS0 : 0 ≤ S ∧ S < 2 * Bs := by simp only [Bs] at *; omega
    have hm := Int.emod_add_mul_ediv S Bs
    have hm0 := Int.emod_nonneg S (b := Bs) (by decide)
    have hm1 := Int.emod_lt_of_pos S (b := Bs) (by decide)
    refine ⟨16 - (i + 1), by omega, i + 1, ys.set i (S % Bs), _, rfl, by omega, rfl, by rw [Qe (by omega) (by omega)]; rfl, ?_, ?_, ?_, hys.set i ⟨hm0, hm1⟩, ?_, rfl⟩
    · simp only [Bs] at *; omega
    · simp only [Bs] at *; omega
    · rw [List.length_set]; exact hl
    · have hv := Xk (dig 16 x) (i := i) (by rw [dig_length]; exact hlt)
      have hv' := Xk (dig 16 y) (i := i) (by rw [dig_length]; exact hlt)
      have hv2 := Xk (ys.set i (S % Bs)) (i := i) (by rw [List.length_set]; omega)
      rw [Xs _ _ (by omega), if_pos rfl, List.take_set_of_le (Nat.le_refl _)] at hv2
      rw [hv, hv', hv2, Int.pow_succ]
      have : (dig 16 y).getD i 0 = S - (dig 16 x).getD i 0 - cc := by omega
      rw [this]
      generalize Bs ^ i = p at *
      have : p * S = p * (S % Bs) + p * Bs * (S / Bs) := by rw [Int.mul_assoc, ← Int.mul_add, hm]
      grind
  · obtain rfl : i = 16 := by omega
    repeat' first
      | (with_reducible first | refine Jh (fun K hK => ?_) | refine Qc ?_ | refine Qd ?_ | refine Jg ?_ | refine Jr ?_)
      | (simp only [Qb, Jo, reduceIte, J0])
      | ((with_reducible refine hK _ _ ?_); clear hK)
      | (clear hK; (with_reducible refine hK _ _ ?_); clear hK)
      | (simp only [Q9, RA, Jn, Jm, Jp, Q8, Q6, ev, ofValue, Ju, J0, J3, J2, J4, reduceCtorEq, reduceIte, Jv, Qm, Qk, Q0, aun, Qj, Jk, Ji, Jz, Jy, Jj, Qi, Jf, Q7, Q2, Js, J1, J5, Ja, J9, Jb, J6, J7, Jd, J8, RB, Jw, Je, J1b, k2, k3, k4, k6, k8, k10])
      | (simp (disch := (first | omega | (simp only [RO]; done) | assumption | (simp only [RM, Je]; done) | (simp only [RL, Je]; omega))) only [RD, reduceCtorEq, reduceIte, Je, J1, J3, J2, J6, J1b, k2, k3, k4, k6, k8, k10])
    (
     (refine Qg (rs := [.cell 6 73, .tmp 7]) rfl ?_)
     (simp only [X5, Qf, Fr.put_some, Fr.put_none, Qp, Qq, Qt, J0, reduceIte, k2, k6])
     (try simp (disch := (first | omega | (simp only [RO]; done) | assumption | (simp only [RM, Je]; done) | (simp only [RL, Je]; omega))) only [RD, reduceCtorEq, reduceIte, Je, J1, J3, J2, J6, J1b, k2, k6]))
    refine ⟨ext6 _ _ _ _, by simp [AV.lt, AV.lts, AV.lts_iff], ?_⟩
    have e1 : ys.take 16 = ys := List.take_of_length_le (by omega)
    have e2 : (dig 16 x).take 16 = dig 16 x := List.take_of_length_le (by rw [dig_length]; omega)
    have e3 : (dig 16 y).take 16 = dig 16 y := List.take_of_length_le (by rw [dig_length]; omega)
    rw [e1, e2, e3, val_M, val_M, ← M_pow] at hy
    have h1 := Xh hys
    rw [hl, ← M_pow] at h1
    have hmx := M_pos
    have hq : (x % M + y % M + c) / M = cc := by
      rw [← hy, Int.add_mul_ediv_left _ _ (by omega), Int.ediv_eq_zero_of_lt h1.1 h1.2, Int.zero_add]
    have : ys = dig 16 (x + y + c) := by
      refine Vn hys hl ?_
      have h2 : (x + y + c) % M = (x % M + y % M + c) % M := by
        rw [Int.add_emod (x + y), Int.add_emod x y, Int.add_emod (x % M + y % M) c]
      rw [← M_pow, h2, ← hy, Int.add_mul_emod_self_left, Int.emod_eq_of_lt h1.1 h1.2]
    rw [this, hq]
theorem W_lt (n : Nat) (x : Int) : AV.lt n (W x) := by simp [AV.lt, AV.lts_iff]
theorem W_tup_lt (n : Nat) (x : Int) {v : AV} (h : v.lt n) : AV.lt n (.tup [W x, v]) := by
  simp only [AV.lt, AV.lts]
  exact ⟨by have := W_lt n x; simpa only [AV.lt] using this, h, trivial⟩
theorem Ux (n : Nat) (x : Int) (b : Bool) : AV.lt n (.tup [W x, .bool b]) := W_tup_lt n x (v := .bool b) trivial
theorem neg_calls (x : Int) (H : Hp) : ACalls Tryz.prog 86 [W x] H fun r H' => r = W (-x) ∧ H = H' := by
  refine ACalls.drop (R := fun r => r = W (-x)) ?_
  refine Qo Tryz.func86 rfl (by kernel_rfl) (by kernel_rfl) ?_
  repeat' first
    | (with_reducible first | refine Jh (fun K hK => ?_) | refine Qd ?_ | refine Jg ?_)
    | ((with_reducible refine Q5 (inverse_calls _ _) ?_); rintro _ _ ⟨rfl, rfl⟩)
    | ((with_reducible refine Q5 (plus_calls _ _ _ _ (by decide)) ?_); rintro _ _ ⟨rfl, rfl⟩)
    | (simp only [Qb, Jo, reduceIte, J0])
    | ((with_reducible refine hK _ _ ?_); clear hK)
    | (simp only [Q9, RA, Jn, Jm, Jp, Q8, Q6, ev, ofValue, Ju, J0, J3, J2, J4, reduceCtorEq, reduceIte, Jv, Qm, Qk, Q0, aun, Qj, Jk, Ji, Jz, Jy, Jj, Qi, Jf, Q7, Q2, Js, J1, J5, Ja, J9, Jb, J6, J7, Jd, J8, RB, Jw, Je, tf86WdB])
    | (simp (disch := (first | omega | (simp only [RO]; done) | assumption | (simp only [RM, Je]; done) | (simp only [RL, Je]; omega))) only [RD, reduceCtorEq, reduceIte, Je, J1, J3, J2, J6, tf86WdB])
  (
   (refine Qg (rs := [.cell 2 73]) rfl ?_)
   (simp only [X5, Qf, Fr.put_some, Fr.put_none, Qp, Qq, Qt, J0, reduceIte])
   (try simp (disch := (first | omega | (simp only [RO]; done) | assumption | (simp only [RM, Je]; done) | (simp only [RL, Je]; omega))) only [RD, reduceCtorEq, reduceIte, Je, J1, J3, J2, J6, tf86WdB]))
  exact ⟨Re _ _ _, W_lt _ _, by rw [show 0 + (-x - 1) + 1 = -x by omega]⟩
theorem top_shift {v : Int} (hv : -9223372036854775808 ≤ v ∧ v ≤ 9223372036854775807) (i : Nat) : IntKind.u64.wrap (v / 9223372036854775808) = v / Bs ^ (i + 1) % Bs := by
  rw [Zr]
  have hp : ∀ n : Nat, (1 : Int) ≤ Bs ^ n := fun n => Xn n
  have hb : Bs ^ (i + 1) = 18446744073709551616 * Bs ^ i := by rw [Int.pow_succ, Int.mul_comm]
  have h1 := hp i
  have h2 : Bs ≤ Bs ^ (i + 1) := by
    rw [hb]
    have : 18446744073709551616 * 1 ≤ 18446744073709551616 * Bs ^ i := Int.mul_le_mul_of_nonneg_left h1 (by decide)
    simp only [Bs] at *
    omega
  have e : v / Bs ^ (i + 1) = v / 9223372036854775808 := by
    rcases Int.lt_or_le v 0 with h | h
    · have a : v / 9223372036854775808 = -1 := by omega
      have b : v / Bs ^ (i + 1) = -1 := by
        generalize Bs ^ (i + 1) = p at *
        simp only [Bs] at h2
        have : v = (v + p) + p * (-1) := by omega
        rw [this, Int.add_mul_ediv_left _ _ (by omega), Int.ediv_eq_zero_of_lt (by omega) (by omega)]
        rfl
      rw [a, b]
    · have a : v / 9223372036854775808 = 0 := by omega
      rw [a, Int.ediv_eq_zero_of_lt h (by simp only [Bs] at h2; omega)]
  rw [e]
theorem of_calls (v : Int) (H : Hp) (hv : -9223372036854775808 ≤ v ∧ v ≤ 9223372036854775807) : ACalls Tryz.prog 85 [.int .i64 v] H fun r H' => r = W v ∧ H = H' := by
  refine ACalls.drop (R := fun r => r = W v) ?_
  have h63 : (IntKind.i64.bits : Nat) = 64 := by decide
  refine Qo Tryz.func85 rfl (by kernel_rfl) (by kernel_rfl) ?_
  repeat' first
    | (with_reducible first | refine Jh (fun K hK => ?_) | refine Jx ?_ | refine Jg ?_)
    | (simp only [Qb, Jo, reduceIte, J0])
    | ((with_reducible refine hK _ _ ?_); clear hK)
    | (simp only [Q9, RA, Jn, Jm, Jp, Q8, Q6, ev, ofValue, Ju, J0, J3, J2, J4, reduceCtorEq, reduceIte, Jv, Qm, Qk, Q0, aun, Qj, Jk, Ji, Jz, Jy, Jj, Qi, Jf, Q7, Q2, Js, J1, J5, Ja, J9, Jb, J6, J7, Jd, J8, RB, Jw, Je, tf85WdB])
  refine Xi (fun m fr' H' => ∃ (i : Nat) (ys : List Int), m = 16 - i ∧ i ≤ 16 ∧ fr' 0 = .int .i64 v ∧ fr' 2 = .ptr H.length 0 ∧ fr' 3 = .ptr (H.length + 1) 0 ∧ fr' 5 = .int .i64 (i : Int) ∧ ys.length = 16 ∧ (∀ j, j < i → 0 < j → ys.getD j 0 = v / Bs ^ j % Bs) ∧ H ++ [Wb 0] ++ [⟨ys.map (AV.int .u64), .own, 73⟩] = H') (m := 16)
    ⟨0, dig 16 0, by omega, by omega, rfl, rfl, rfl, rfl, dig_length _ _, fun j hj => by omega, rfl⟩ ?_
  rintro m fr' H' ⟨i, ys, rfl, hi, k0, k2, k3, k5, hl, hy, rfl⟩
  by_cases hlt : i < 16
  · skip
    repeat' first
      | (with_reducible first | refine Jh (fun K hK => ?_) | refine Jx ?_ | refine Q4 ?_ | refine Jg ?_ | refine Jr ?_)
      | (with_reducible refine X4 (fun hc => ?_) (fun hc => ?_) <;> (try simp only [RC] at hc) <;> (try (exfalso; first | omega | contradiction)))
      | (simp only [Qb, Jo, reduceIte, J0])
      | ((with_reducible refine hK _ _ ?_); clear hK)
      | (simp only [Q9, RA, Jn, Jm, Jp, Q8, Q6, ev, ofValue, Ju, J0, J3, J2, J4, reduceCtorEq, reduceIte, Jv, Qm, Qk, Q0, aun, Qj, Jk, Ji, Jz, Jy, Jj, Qi, Jf, Q7, Q2, Js, J1, J5, Ja, J9, Jb, J6, J7, Jd, J8, RB, Jw, Je, tf85WdB, k0, k2, k3, k5, h63])
      | (simp (disch := first | omega | (simp only [RO]; done) | assumption) only [RS, hl, Zz, Zx, Zy, Zw])
      | (simp (disch := (first | omega | (simp only [RO]; done) | assumption | (simp only [RM, Je]; done) | (simp only [RL, Je]; omega))) only [RD, reduceCtorEq, reduceIte, Je, J1, J3, J2, J6, tf85WdB, k0, k2, k3, k5, h63])
    refine ⟨16 - (i + 1), by omega, i + 1, _, rfl, by omega, by rw [Qe (by omega) (by omega)]; rfl, by rw [List.length_set]; exact hl, ?_, rfl⟩
    intro j hj h0
    rw [Xs _ _ (by omega)]
    by_cases he : j = i
    · subst he
      rw [if_pos rfl]
      obtain ⟨k, rfl⟩ : ∃ k, j = k + 1 := ⟨j - 1, by omega⟩
      exact top_shift hv k
    · rw [if_neg he]; exact hy j (by omega) h0
  · obtain rfl : i = 16 := by omega
    repeat' first
      | (with_reducible first | refine Jh (fun K hK => ?_) | refine Qc ?_ | refine Qd ?_ | refine Jg ?_ | refine Jr ?_)
      | (simp only [Qb, Jo, reduceIte, J0])
      | ((with_reducible refine hK _ _ ?_); clear hK)
      | (clear hK; (with_reducible refine hK _ _ ?_); clear hK)
      | (simp only [Q9, RA, Jn, Jm, Jp, Q8, Q6, ev, ofValue, Ju, J0, J3, J2, J4, reduceCtorEq, reduceIte, Jv, Qm, Qk, Q0, aun, Qj, Jk, Ji, Jz, Jy, Jj, Qi, Jf, Q7, Q2, Js, J1, J5, Ja, J9, Jb, J6, J7, Jd, J8, RB, Jw, Je, tf85WdB, k0, k2, k3, k5])
      | (simp (disch := first | omega | (simp only [RO]; done) | assumption) only [RS, hl, Zz, Zx, Zy, Zw])
      | (simp (disch := (first | omega | (simp only [RO]; done) | assumption | (simp only [RM, Je]; done) | (simp only [RL, Je]; omega))) only [RD, reduceCtorEq, reduceIte, Je, J1, J3, J2, J6, tf85WdB, k0, k2, k3, k5])
    (
     (refine Qg (rs := [.cell 2 73]) rfl ?_)
     (simp only [X5, Qf, Fr.put_some, Fr.put_none, Qp, Qq, Qt, J0, reduceIte, k2])
     (try simp (disch := (first | omega | (simp only [RO]; done) | assumption | (simp only [RM, Je]; done) | (simp only [RL, Je]; omega))) only [RD, reduceCtorEq, reduceIte, Je, J1, J3, J2, J6, tf85WdB, k2]))
    have : ys.set 0 (IntKind.u64.wrap v) = dig 16 v := by
      apply List.ext_getElem
      · rw [List.length_set, hl, dig_length]
      · intro j h1 h2
        rw [dig_length] at h2
        have e1 := Xs ys (IntKind.u64.wrap v) (i := 0) (by omega) j
        have e2 := Kt 16 v j h2
        rw [List.getD_eq_getElem?_getD, List.getElem?_eq_getElem h1] at e1
        rw [List.getD_eq_getElem?_getD, List.getElem?_eq_getElem (by rw [dig_length]; exact h2)] at e2
        simp only [Option.getD_some] at e1 e2
        rw [e1, e2]
        by_cases h0 : j = 0
        · subst h0; rw [if_pos rfl, Zr]; simp
        · rw [if_neg h0]; exact hy j (by omega) (by omega)
    rw [this]
    exact ⟨ext4 _ _, W_lt _ _, rfl⟩
set_option maxRecDepth 4000 in
theorem amount_calls (x : Int) (H : Hp) (hx : In x) : ACalls Tryz.prog 132 [W x] H fun r H' => r = W (x.natAbs : Int) ∧ H = H' := by
  refine ACalls.drop (R := fun r => r = W (x.natAbs : Int)) ?_
  have hn := W6 hx
  refine Qo Tryz.func132 rfl (by kernel_rfl) (by kernel_rfl) ?_
  repeat' first
    | (with_reducible first | refine Jh (fun K hK => ?_) | refine Q4 ?_ | refine Qd ?_ | refine Jg ?_ | refine Jr ?_)
    | ((with_reducible refine Q5 (below_calls _ _) ?_); rintro _ _ ⟨rfl, rfl⟩)
    | ((with_reducible refine Q5 (neg_calls _ _) ?_); rintro _ _ ⟨rfl, rfl⟩)
    | (with_reducible refine X4 (fun hc => ?_) (fun hc => ?_) <;> (try simp only [RC] at hc) <;> (try (exfalso; first | omega | contradiction)))
    | (simp only [Qb, Jo, reduceIte, J0])
    | ((with_reducible refine hK _ _ ?_); clear hK)
    | (simp only [Q9, RA, Jn, Jm, Jp, Q8, Q6, ev, ofValue, Ju, J0, J3, J2, J4, reduceCtorEq, reduceIte, Jv, Qm, Qk, Q0, aun, Qj, Jk, Ji, Jz, Jy, Jj, Qi, Jf, Q7, Q2, Js, J1, J5, Ja, J9, Jb, J6, J7, Jd, J8, RB, Jw, Je, tf132WdB, hn])
    | (simp (disch := (first | omega | (simp only [RO]; done) | assumption | (simp only [RM, Je]; done) | (simp only [RL, Je]; omega))) only [RD, reduceCtorEq, reduceIte, Je, J1, J3, J2, J6, tf132WdB, hn])
  · skip
    (
     (refine Qg (rs := [.cell 2 73]) rfl ?_)
     (simp only [X5, Qf, Fr.put_some, Fr.put_none, Qp, Qq, Qt, J0, reduceIte])
     (try simp (disch := (first | omega | (simp only [RO]; done) | assumption | (simp only [RM, Je]; done) | (simp only [RL, Je]; omega))) only [RD, reduceCtorEq, reduceIte, Je, J1, J3, J2, J6, tf132WdB]))
    exact ⟨ext4 _ _, W_lt _ _, by rw [show (x.natAbs : Int) = -x by omega]⟩
  · skip
    (
     (refine Qg (rs := [.cell 2 73]) rfl ?_)
     (simp only [X5, Qf, Fr.put_some, Fr.put_none, Qp, Qq, Qt, J0, reduceIte])
     (try simp (disch := (first | omega | (simp only [RO]; done) | assumption | (simp only [RM, Je]; done) | (simp only [RL, Je]; omega))) only [RD, reduceCtorEq, reduceIte, Je, J1, J3, J2, J6, tf132WdB]))
    exact ⟨ext4 _ _, W_lt _ _, by rw [show (x.natAbs : Int) = x by omega]⟩
end Go.Proofs.YtigddjlhncnnoaaGreatDoor
namespace Go.Proofs.YtigddjlhncnnoaaGreatDoor
open Go.AL Go.PW
theorem tf58WdC : type_of% (Jc @Xc (Jc @Y9 (@Y8))) := Jc @Xc (Jc @Y9 (@Y8))
theorem tf104WdC : type_of% (Jc @Zh (Jc @Xc (Jc @Y9 (@Y8)))) := Jc @Zh (Jc @Xc (Jc @Y9 (@Y8)))
abbrev pn104_2WdC : Plan := (.one 0 (.pur 1 (.one 2 (.one 3 (.one 4 (.one 5 (.one 6 (.pur 7 (.one 8 (.one 9 (.one 10 (.one 11 .nil))))))))))))
set_option maxRecDepth 8000
theorem W_eq (x y : Int) : Xm Tryz.prog Op.maxDepth 73 (W x) (W y) = some (decide (x % M = y % M)) := by
  rw [eq_arr und73 Z4 Yt und71 (dig_length _ _) (dig_length _ _)]
  congr 1
  rw [decide_eq_decide]
  constructor
  · intro h
    have := congrArg val h
    rwa [val_M, val_M] at this
  · exact dig_M
theorem mod_inj {x y : Int} (hx : In x) (hy : In y) : x % M = y % M ↔ x = y := by
  refine ⟨fun h => ?_, fun h => by rw [h]⟩
  have hm := M_two
  have hp := Mh_pos
  obtain ⟨a, b⟩ := hx
  obtain ⟨c, d⟩ := hy
  have h1 : (x - y) % M = 0 := by rw [Int.sub_emod, h]; simp
  obtain ⟨k, hk⟩ := Int.dvd_of_emod_eq_zero h1
  have hk0 : k = 0 := by
    rcases Int.lt_trichotomy k 0 with h | h | h
    · have : M * k ≤ M * (-1) := Int.mul_le_mul_of_nonneg_left (by omega) (by omega)
      omega
    · exact h
    · have : M * 1 ≤ M * k := Int.mul_le_mul_of_nonneg_left (by omega) (by omega)
      omega
  rw [hk0] at hk
  omega
theorem In.zero : In 0 := ⟨by have := Mh_pos; omega, Mh_pos⟩
theorem nought_iff {x : Int} (h : In x) : decide (x % M = 0 % M) = decide (x = 0) := by
  rw [decide_eq_decide]; exact mod_inj h In.zero
theorem sign_calls (x : Int) (H : Hp) (hx : In x) : ACalls Tryz.prog 58 [W x] H fun r H' => r = .int .i64 x.sign ∧ H = H' := by
  refine ACalls.drop (R := fun r => r = .int .i64 x.sign) ?_
  have hn := W6 hx
  have hz := nought_iff hx
  refine Qo Tryz.func58 rfl (by kernel_rfl) (by kernel_rfl) ?_
  repeat' first
    | (with_reducible first | refine Jh (fun K hK => ?_) | refine Jx ?_ | refine Q4 ?_ | refine Qd ?_ | refine Jg ?_ | refine Jr ?_)
    | ((with_reducible refine Q5 (below_calls _ _) ?_); rintro _ _ ⟨rfl, rfl⟩)
    | (with_reducible refine X4 (fun hc => ?_) (fun hc => ?_) <;> (try simp only [RC] at hc) <;> (try (exfalso; first | omega | contradiction)))
    | (simp only [Qb, Jo, reduceIte, J0])
    | ((with_reducible refine hK _ _ ?_); clear hK)
    | (simp only [Q9, RA, Jn, Jm, Jp, Q8, Q6, ev, ofValue, Ju, J0, J3, J2, J4, reduceCtorEq, reduceIte, Jv, Qm, Qk, Q0, aun, Qj, Jk, Ji, Jz, Jy, Jj, Qi, Jf, Q7, Q2, Js, J1, J5, Ja, J9, Jb, J6, J7, Jd, J8, RB, Jw, Je, tf58WdC, hn, hz, W_eq])
    | (simp (disch := (first | omega | (simp only [RO]; done) | assumption | (simp only [RM, Je]; done) | (simp only [RL, Je]; omega))) only [RD, reduceCtorEq, reduceIte, Je, J1, J3, J2, J6, tf58WdC, hn, hz, W_eq])
  all_goals
    (
     (refine Qg (rs := [.tmp 2]) rfl ?_)
     (simp only [X5, Qf, Fr.put_some, Fr.put_none, Qp, Qq, Qt, J0, reduceIte])
     (try simp (disch := (first | omega | (simp only [RO]; done) | assumption | (simp only [RM, Je]; done) | (simp only [RL, Je]; omega))) only [RD, reduceCtorEq, reduceIte, Je, J1, J3, J2, J6, tf58WdC]))
  · exact ⟨Ext.push _ _, trivial, by rw [Int.sign_eq_neg_one_of_neg (show x < 0 by omega)]⟩
  · exact ⟨Ext.push _ _, trivial, by have h0 : x = 0 := by omega
                                     rw [h0]; rfl⟩
  · exact ⟨Ext.push _ _, trivial, by rw [Int.sign_eq_one_of_pos (show 0 < x by omega)]⟩
theorem add_signs (x y : Int) (p q s : Bool) (H : Hp) (hn : decide (Mh ≤ x % M) = p) (hm : decide (Mh ≤ y % M) = q) (hk : decide (Mh ≤ (x + y) % M) = s) (hs : p = q → s = p) : ACalls Tryz.prog 104 [W x, W y] H fun r H' => r = .tup [W (x + y), .bool true] ∧ H = H' := by
  refine ACalls.drop (R := fun r => r = .tup [W (x + y), .bool true]) ?_
  have e0 : x + y + 0 = x + y := by omega
  refine Qo Tryz.func104 rfl (by kernel_rfl) (by kernel_rfl) ?_
  repeat' first
    | (with_reducible first | refine Jh (fun K hK => ?_) | refine Q4 ?_ | refine Qd ?_ | refine Jg ?_ | refine Q1 (id := 2) [] pn104_2WdC (by kernel_rfl) (by kernel_rfl) ?_ | refine Jr ?_ | refine X8 ?_)
    | (with_reducible refine Xd (fun _ x => (below_calls _ _)) ?_)
    | ((with_reducible refine Q5 (plus_calls _ _ _ _ (by decide)) ?_); rintro _ _ ⟨rfl, rfl⟩)
    | ((with_reducible refine Q5 (below_calls _ _) ?_); rintro _ _ ⟨rfl, rfl⟩)
    | (with_reducible refine Jt (fun hc => ?_) (fun hc => ?_) <;> (try simp only [RC] at hc) <;> (try (exfalso; first | omega | contradiction)))
    | (with_reducible refine X4 (fun hc => ?_) (fun hc => ?_) <;> (try simp only [RC] at hc) <;> (try (exfalso; first | omega | contradiction)))
    | (simp only [Qb, Jo, reduceIte, J0])
    | ((with_reducible refine hK _ _ ?_); clear hK)
    | (simp only [Q9, RA, Jn, Jm, Jp, Q8, Q6, ev, ofValue, Ju, J0, J3, J2, J4, reduceCtorEq, reduceIte, Jv, Qm, Qk, Q0, aun, Qj, Jk, Ji, Jz, Jy, Jj, Qi, Jf, Q7, Q2, Js, J1, J5, Ja, J9, Jb, J6, J7, Jd, J8, RB, Jw, Je, tf104WdC, hn, hm, hk, e0])
    | (simp (disch := first | omega | (simp only [RO]; done) | assumption) only [RS, Zz, Zx, Zy, Zw])
    | (simp (disch := (first | omega | (simp only [RO]; done) | assumption | (simp only [RM, Je]; done) | (simp only [RL, Je]; omega))) only [RD, reduceCtorEq, reduceIte, Je, J1, J3, J2, J6, tf104WdC, hn, hm, hk, e0])
  all_goals first
    | (exfalso; exact absurd (hs (by assumption)) (by assumption))
    | skip
  all_goals
    (
     (refine Qg (rs := [.cell 4 73, .tmp 5]) rfl ?_)
     (simp only [X5, Qf, Fr.put_some, Fr.put_none, Qp, Qq, Qt, J0, reduceIte])
     (try simp (disch := (first | omega | (simp only [RO]; done) | assumption | (simp only [RM, Je]; done) | (simp only [RL, Je]; omega))) only [RD, reduceCtorEq, reduceIte, Je, J1, J3, J2, J6, tf104WdC]))
  all_goals exact ⟨ext6 _ _ _ _, Ux _ _ _⟩
theorem add_calls (x y : Int) (H : Hp) (hx : In x) (hy : In y) (hs : In (x + y)) : ACalls Tryz.prog 104 [W x, W y] H fun r H' => r = .tup [W (x + y), .bool true] ∧ H = H' :=
  add_signs x y _ _ _ H (W6 hx) (W6 hy) (W6 hs) fun h => by
    rw [decide_eq_decide] at h ⊢
    omega
end Go.Proofs.YtigddjlhncnnoaaGreatDoor
namespace Go.Proofs.YtigddjlhncnnoaaGreatDoor
open Go.AL Go.PW
theorem tf56WdD : type_of% (Jc @Zh (Jc @Xc (Jc @Y9 (@Y8)))) := Jc @Zh (Jc @Xc (Jc @Y9 (@Y8)))
abbrev pn56_1WdD : Plan := (.one 1 (.pur 2 (.one 0 (.pur 3 (.one 4 (.one 5 (.one 6 (.one 7 (.one 8 (.one 9 .nil))))))))))
abbrev pn56_2WdD : Plan := (.one 0 (.pur 1 (.one 2 (.one 3 (.one 4 (.one 5 (.one 6 (.pur 7 (.one 8 (.one 9 (.one 10 (.one 11 .nil))))))))))))
set_option maxRecDepth 8000
set_option maxHeartbeats 1000000 in
theorem sub_signs (x y : Int) (p q s : Bool) (H : Hp) (hn : decide (Mh ≤ x % M) = p) (hm : decide (Mh ≤ y % M) = q) (hk : decide (Mh ≤ (x - y) % M) = s) (hs : ¬ p = q → s = p) : ACalls Tryz.prog 56 [W x, W y] H fun r H' => r = .tup [W (x - y), .bool true] ∧ H = H' := by
  refine ACalls.drop (R := fun r => r = .tup [W (x - y), .bool true]) ?_
  have e0 : x + (-y - 1) + 1 = x - y := by omega
  refine Qo Tryz.func56 rfl (by kernel_rfl) (by kernel_rfl) ?_
  repeat' first
    | (with_reducible first | refine Jh (fun K hK => ?_) | refine Jg ?_)
    | (simp only [Qb, Jo, reduceIte, J0])
    | ((with_reducible refine hK _ _ ?_); clear hK)
    | (simp only [Q9, RA, Jn, Jm, Jp, Q8, Q6, ev, ofValue, Ju, J0, J3, J2, J4, reduceCtorEq, reduceIte, Jv, Qm, Qk, Q0, aun, Qj, Jk, Ji, Jz, Jy, Jj, Qi, Jf, Q7, Q2, Js, J1, J5, Ja, J9, Jb, J6, J7, Jd, J8, RB, Jw, Je, tf56WdD])
  refine Yn (fun fr' H' => fr' 2 = .ptr H.length 0 ∧ fr' 3 = .ptr (H.length + 1) 0 ∧ fr' 4 = .ptr (H.length + 1 + 1) 0 ∧ fr' 6 = .ptr (H.length + 1 + 1 + 1) 0 ∧ H ++ [Wb x] ++ [Wb y] ++ [Wb 0] ++ [Wb (x - y)] = H') ?_ (fun fr' H' h => hK _ _ ?_)
  · clear hK
    repeat' first
      | (with_reducible first | refine Q1 (id := 1) [] pn56_1WdD (by kernel_rfl) (by kernel_rfl) ?_ | refine X8 ?_)
      | (with_reducible refine Xd (fun _ x => (inverse_calls _ _)) ?_)
      | (with_reducible refine Xd (fun _ x => (plus_calls _ _ _ _ (by decide))) ?_)
      | (with_reducible refine Jc ?_ ?_)
      | (simp only [Qb, Jo, reduceIte, J0])
      | (simp only [Q9, RA, Jn, Jm, Jp, Q8, Q6, ev, ofValue, Ju, J0, J3, J2, J4, reduceCtorEq, reduceIte, Jv, Qm, Qk, Q0, aun, Qj, Jk, Ji, Jz, Jy, Jj, Qi, Jf, Q7, Q2, Js, J1, J5, Ja, J9, Jb, J6, J7, Jd, J8, RB, Jw, Je, tf56WdD, e0])
      | (simp (disch := (first | omega | (simp only [RO]; done) | assumption | (simp only [RM, Je]; done) | (simp only [RL, Je]; omega))) only [RD, reduceCtorEq, reduceIte, Je, J1, J3, J2, J6, tf56WdD, e0])
    all_goals exact ⟨rfl, rfl, rfl, rfl, rfl⟩
  · clear hK
    obtain ⟨k2, k3, k4, k6, rfl⟩ := h
    cases p <;> cases q <;> cases s <;> (try (exfalso; exact absurd hs (by decide)))
    repeat' first
      | (with_reducible first | refine Jh (fun K hK => ?_) | refine Q4 ?_ | refine Qd ?_ | refine Jg ?_ | refine Q1 (id := 2) [] pn56_2WdD (by kernel_rfl) (by kernel_rfl) ?_ | refine Jr ?_ | refine X8 ?_)
      | (with_reducible refine Xd (fun _ x => (below_calls _ _)) ?_)
      | ((with_reducible refine Q5 (below_calls _ _) ?_); rintro _ _ ⟨rfl, rfl⟩)
      | (simp only [Qb, Jo, reduceIte, J0])
      | ((with_reducible refine hK _ _ ?_); clear hK)
      | (simp only [Q9, RA, Jn, Jm, Jp, Q8, Q6, ev, ofValue, Ju, J0, J3, J2, J4, reduceCtorEq, reduceIte, Jv, Qm, Qk, Q0, aun, Qj, Jk, Ji, Jz, Jy, Jj, Qi, Jf, Q7, Q2, Js, J1, J5, Ja, J9, Jb, J6, J7, Jd, J8, RB, Jw, Je, tf56WdD, k2, k3, k4, k6, hn, hm, hk])
      | (simp (disch := (first | omega | (simp only [RO]; done) | assumption | (simp only [RM, Je]; done) | (simp only [RL, Je]; omega))) only [RD, reduceCtorEq, reduceIte, Je, J1, J3, J2, J6, tf56WdD, k2, k3, k4, k6, hn, hm, hk])
    all_goals
      (
       (refine Qg (rs := [.cell 4 73, .tmp 5]) rfl ?_)
       (simp only [X5, Qf, Fr.put_some, Fr.put_none, Qp, Qq, Qt, J0, reduceIte, k4])
       (try simp (disch := (first | omega | (simp only [RO]; done) | assumption | (simp only [RM, Je]; done) | (simp only [RL, Je]; omega))) only [RD, reduceCtorEq, reduceIte, Je, J1, J3, J2, J6, tf56WdD, k4]))
    all_goals exact ⟨ext6 _ _ _ _, Ux _ _ _⟩
theorem sub_calls (x y : Int) (H : Hp) (hx : In x) (hy : In y) (hs : In (x - y)) : ACalls Tryz.prog 56 [W x, W y] H fun r H' => r = .tup [W (x - y), .bool true] ∧ H = H' :=
  sub_signs x y _ _ _ H (W6 hx) (W6 hy) (W6 hs) fun h => by
    rw [decide_eq_decide] at h ⊢
    omega
end Go.Proofs.YtigddjlhncnnoaaGreatDoor
namespace Go.Proofs.YtigddjlhncnnoaaGreatDoor
open Go.AL Go.PW
theorem G9 : type_of% (Jc @Zh (Jc @Xc (Jc @Y9 (@Y8)))) := Jc @Zh (Jc @Xc (Jc @Y9 (@Y8)))
theorem tf133WdE : type_of% (Jc @Xw (Jc @Z1 (@Xc))) := Jc @Xw (Jc @Z1 (@Xc))
abbrev pn134_3WdE : Plan := (.one 1 (.pur 2 (.one 0 (.one 3 (.one 5 (.alt 4 (.one 6 (.one 7 (.one 8 (.one 9 .nil)))) (.one 8 (.one 4 (.one 6 (.one 7 (.one 9 .nil)))))))))))
abbrev pn134_4WdE : Plan := (.one 1 (.pur 2 (.one 0 (.one 3 (.one 4 (.one 5 .nil))))))
set_option maxRecDepth 8000
theorem signed_plus (x : Int) (H : Hp) (h0 : 0 ≤ x) (h1 : x < Mh) : ACalls Tryz.prog 134 [W x, .bool false] H fun r H' => r = .tup [W x, .bool true] ∧ H = H' := by
  refine ACalls.drop (R := fun r => r = .tup [W x, .bool true]) ?_
  have hn := W6 (x := x) ⟨by have := Mh_pos; omega, h1⟩
  have hx : ¬ x < 0 := by omega
  simp only [hx, decide_false] at hn
  refine Qo Tryz.func134 rfl (by kernel_rfl) (by kernel_rfl) ?_
  repeat' first
    | (with_reducible first | refine Jh (fun K hK => ?_) | refine Q4 ?_ | refine Qd ?_ | refine Jg ?_ | refine Q1 (id := 4) [] pn134_4WdE (by kernel_rfl) (by kernel_rfl) ?_ | refine Jr ?_ | refine X8 ?_)
    | (with_reducible refine Xd (fun _ x => (below_calls _ _)) ?_)
    | (simp only [Qb, Jo, reduceIte, J0])
    | ((with_reducible refine hK _ _ ?_); clear hK)
    | (simp only [Q9, RA, Jn, Jm, Jp, Q8, Q6, ev, ofValue, Ju, J0, J3, J2, J4, reduceCtorEq, reduceIte, Jv, Qm, Qk, Q0, aun, Qj, Jk, Ji, Jz, Jy, Jj, Qi, Jf, Q7, Q2, Js, J1, J5, Ja, J9, Jb, J6, J7, Jd, J8, RB, Jw, Je, G9, hn])
    | (simp (disch := (first | omega | (simp only [RO]; done) | assumption | (simp only [RM, Je]; done) | (simp only [RL, Je]; omega))) only [RD, reduceCtorEq, reduceIte, Je, J1, J3, J2, J6, G9, hn])
  all_goals
    (
     (refine Qg (rs := [.cell 4 73, .tmp 5]) rfl ?_)
     (simp only [X5, Qf, Fr.put_some, Fr.put_none, Qp, Qq, Qt, J0, reduceIte])
     (try simp (disch := (first | omega | (simp only [RO]; done) | assumption | (simp only [RM, Je]; done) | (simp only [RL, Je]; omega))) only [RD, reduceCtorEq, reduceIte, Je, J1, J3, J2, J6, G9]))
  all_goals exact ⟨ext4 _ _, Ux _ _ _⟩
theorem J11 (x : Int) (H : Hp) (h0 : 0 ≤ x) (h1 : x ≤ Mh) : ACalls Tryz.prog 134 [W x, .bool true] H fun r H' => r = .tup [W (-x), .bool true] ∧ H = H' := by
  refine ACalls.drop (R := fun r => r = .tup [W (-x), .bool true]) ?_
  have hI : In (-x) := ⟨by omega, by have := Mh_pos; omega⟩
  have hn := W6 hI
  by_cases hx : -x < 0
  · simp only [hx, decide_true] at hn
    refine Qo Tryz.func134 rfl (by kernel_rfl) (by kernel_rfl) ?_
    repeat' first
      | (with_reducible first | refine Jh (fun K hK => ?_) | refine Qd ?_ | refine Jg ?_ | refine Q1 (id := 3) [] pn134_3WdE (by kernel_rfl) (by kernel_rfl) ?_ | refine Jr ?_ | refine X8 ?_)
      | (with_reducible refine Xd (fun _ x => (below_calls _ _)) ?_)
      | ((with_reducible refine Q5 (neg_calls _ _) ?_); rintro _ _ ⟨rfl, rfl⟩)
      | (with_reducible refine Jc ?_ ?_)
      | (simp only [Qb, Jo, reduceIte, J0])
      | ((with_reducible refine hK _ _ ?_); clear hK)
      | (simp only [Q9, RA, Jn, Jm, Jp, Q8, Q6, ev, ofValue, Ju, J0, J3, J2, J4, reduceCtorEq, reduceIte, Jv, Qm, Qk, Q0, aun, Qj, Jk, Ji, Jz, Jy, Jj, Qi, Jf, Q7, Q2, Js, J1, J5, Ja, J9, Jb, J6, J7, Jd, J8, RB, Jw, Je, G9, hn])
      | (simp (disch := (first | omega | (simp only [RO]; done) | assumption | (simp only [RM, Je]; done) | (simp only [RL, Je]; omega))) only [RD, reduceCtorEq, reduceIte, Je, J1, J3, J2, J6, G9, hn])
    all_goals
      (
       (refine Qg (rs := [.cell 4 73, .tmp 5]) rfl ?_)
       (simp only [X5, Qf, Fr.put_some, Fr.put_none, Qp, Qq, Qt, J0, reduceIte])
       (try simp (disch := (first | omega | (simp only [RO]; done) | assumption | (simp only [RM, Je]; done) | (simp only [RL, Je]; omega))) only [RD, reduceCtorEq, reduceIte, Je, J1, J3, J2, J6, G9]))
    all_goals exact ⟨ext4 _ _, Ux _ _ _⟩
  · have h0 : x = 0 := by omega
    simp only [hx, decide_false] at hn
    have hz : decide (-x % M = 0 % M) = true := by
      rw [nought_iff hI]
      have : -x = 0 := by omega
      simp [this]
    refine Qo Tryz.func134 rfl (by kernel_rfl) (by kernel_rfl) ?_
    repeat' first
      | (with_reducible first | refine Jh (fun K hK => ?_) | refine Qd ?_ | refine Jg ?_ | refine Q1 (id := 3) [] pn134_3WdE (by kernel_rfl) (by kernel_rfl) ?_ | refine Jr ?_ | refine X8 ?_)
      | (with_reducible refine Xd (fun _ x => (below_calls _ _)) ?_)
      | ((with_reducible refine Q5 (neg_calls _ _) ?_); rintro _ _ ⟨rfl, rfl⟩)
      | (with_reducible refine Jc ?_ ?_)
      | (simp only [Qb, Jo, reduceIte, J0])
      | ((with_reducible refine hK _ _ ?_); clear hK)
      | (simp only [Q9, RA, Jn, Jm, Jp, Q8, Q6, ev, ofValue, Ju, J0, J3, J2, J4, reduceCtorEq, reduceIte, Jv, Qm, Qk, Q0, aun, Qj, Jk, Ji, Jz, Jy, Jj, Qi, Jf, Q7, Q2, Js, J1, J5, Ja, J9, Jb, J6, J7, Jd, J8, RB, Jw, Je, G9, hn, W_eq, hz])
      | (simp (disch := (first | omega | (simp only [RO]; done) | assumption | (simp only [RM, Je]; done) | (simp only [RL, Je]; omega))) only [RD, reduceCtorEq, reduceIte, Je, J1, J3, J2, J6, G9, hn, W_eq, hz])
    all_goals
      (
       (refine Qg (rs := [.cell 4 73, .tmp 5]) rfl ?_)
       (simp only [X5, Qf, Fr.put_some, Fr.put_none, Qp, Qq, Qt, J0, reduceIte])
       (try simp (disch := (first | omega | (simp only [RO]; done) | assumption | (simp only [RM, Je]; done) | (simp only [RL, Je]; omega))) only [RD, reduceCtorEq, reduceIte, Je, J1, J3, J2, J6, G9]))
    all_goals exact ⟨ext4 _ _, Ux _ _ _⟩
def cnt : List Int → Nat
  | [] => 0
  | x :: xs => if cnt xs = 0 then (if x = 0 then 0 else 1) else cnt xs + 1
theorem cnt_le : ∀ xs, cnt xs ≤ xs.length
  | [] => Nat.le_refl _
  | x :: xs => by
    have := cnt_le xs
    simp only [cnt, List.length_cons]
    split
    · split <;> omega
    · omega
theorem cnt_above : ∀ (xs : List Int) (j : Nat), cnt xs ≤ j → xs.getD j 0 = 0
  | [], j, _ => by simp
  | x :: xs, j, h => by
    have ih := cnt_above xs
    simp only [cnt] at h
    cases j with
    | zero =>
      split at h
      · split at h
        · simpa
        · omega
      · omega
    | succ j =>
      rw [List.getD_cons_succ]
      apply ih
      split at h
      · omega
      · omega
theorem cnt_top : ∀ (xs : List Int), 0 < cnt xs → xs.getD (cnt xs - 1) 0 ≠ 0
  | [], h => by simp [cnt] at h
  | x :: xs, h => by
    have ih := cnt_top xs
    simp only [cnt] at h ⊢
    split
    · rename_i h0
      rw [if_pos h0] at h
      split
      · rename_i h1; rw [if_pos h1] at h; omega
      · rename_i h1; simpa
    · rename_i h0
      obtain ⟨m, hm⟩ : ∃ m, cnt xs = m + 1 := ⟨cnt xs - 1, by omega⟩
      have := ih (by omega)
      rw [hm] at this ⊢
      simpa using this
theorem cnt_uniq {xs : List Int} {n : Nat} (h1 : ∀ j, n ≤ j → xs.getD j 0 = 0) (h2 : n = 0 ∨ xs.getD (n - 1) 0 ≠ 0) : n = cnt xs := by
  have a := cnt_above xs
  have b := cnt_top xs
  rcases Nat.lt_trichotomy n (cnt xs) with h | h | h
  · exact absurd (h1 (cnt xs - 1) (by omega)) (b (by omega))
  · exact h
  · rcases h2 with h2 | h2
    · omega
    · exact absurd (a (n - 1) (by omega)) h2
theorem count_calls (v : AV) (xs : List Int) (H : Hp) (hv : Ints H .u64 v xs) (hx : xs.length < 1000000) : ACalls Tryz.prog 133 [v] H fun r H' => r = .int .i64 (cnt xs : Int) ∧ H = H' := by
  refine Qo Tryz.func133 rfl (by kernel_rfl) (by kernel_rfl) ?_
  repeat' first
    | (with_reducible first | refine Jh (fun K hK => ?_) | refine Jx ?_ | refine Jg ?_)
    | (simp only [Qb, Jo, reduceIte, J0])
    | ((with_reducible refine hK _ _ ?_); clear hK)
    | (simp only [Q9, RA, Jn, Jm, Jp, Q8, Q6, ev, ofValue, Ju, J0, J3, J2, J4, reduceCtorEq, reduceIte, Jv, Qm, Qk, Q0, aun, Qj, Jk, Ji, Jz, Jy, Jj, Qi, Jf, Q7, Q2, Js, J1, J5, Ja, J9, Jb, J6, J7, Jd, J8, RB, Jw, Je, tf133WdE, hv.rd.len Z8])
  refine Xi (fun m fr' H' => ∃ n : Nat, m = n ∧ n ≤ xs.length ∧ fr' 0 = v ∧ fr' 3 = .int .i64 (n : Int) ∧ (∀ j, n ≤ j → xs.getD j 0 = 0) ∧ H = H') (m := xs.length) ⟨xs.length, rfl, Nat.le_refl _, rfl, rfl, fun j hj => by simp [List.getD, List.getElem?_eq_none hj], rfl⟩ ?_
  rintro m fr' H' ⟨n, rfl, hn, k0, k3, hz, rfl⟩
  by_cases h0 : 0 < m
  · have e1 : IntKind.i64.wrap ((m : Int) - 1) = ((m - 1 : Nat) : Int) := by rw [Qe (by omega) (by omega)]; omega
    repeat' first
      | (with_reducible first | refine Jh (fun K hK => ?_) | refine Jx ?_ | refine Q4 ?_ | refine Qc ?_ | refine Qd ?_ | refine Jg ?_ | refine Jr ?_)
      | (with_reducible refine Jt (fun hc => ?_) (fun hc => ?_) <;> (try simp only [RC] at hc) <;> (try (exfalso; first | omega | contradiction)))
      | (with_reducible refine X4 (fun hc => ?_) (fun hc => ?_) <;> (try simp only [RC] at hc) <;> (try (exfalso; first | omega | contradiction)))
      | (simp only [Qb, Jo, reduceIte, J0])
      | ((with_reducible refine hK _ _ ?_); clear hK)
      | (clear hK; (with_reducible refine hK _ _ ?_); clear hK)
      | (simp only [Q9, RA, Jn, Jm, Jp, Q8, Q6, ev, ofValue, Ju, J0, J3, J2, J4, reduceCtorEq, reduceIte, Jv, Qm, Qk, Q0, aun, Qj, Jk, Ji, Jz, Jy, Jj, Qi, Jf, Q7, Q2, Js, J1, J5, Ja, J9, Jb, J6, J7, Jd, J8, RB, Jw, Je, tf133WdE, k0, k3, e1])
      | (simp (disch := first | omega | (simp only [RO]; done) | assumption) only [RS, hv.rd.at1 Z8 Z4, hv.load1 Yt, Xa, Xb, X9])
    · refine ⟨m - 1, by omega, m - 1, rfl, by omega, rfl, fun j hj => ?_⟩
      by_cases he : j = m - 1
      · subst he; assumption
      · exact hz j (by omega)
    · skip
      (
       (refine Qg (rs := [.tmp 2]) rfl ?_)
       (simp only [X5, Qf, Fr.put_some, Fr.put_none, Qp, Qq, Qt, J0, reduceIte, k3])
       (try simp (disch := (first | omega | (simp only [RO]; done) | assumption | (simp only [RM, Je]; done) | (simp only [RL, Je]; omega))) only [RD, reduceCtorEq, reduceIte, Je, J1, J3, J2, J6, tf133WdE, k3]))
      rw [cnt_uniq hz (.inr (by assumption))]
  · skip
    repeat' first
      | (with_reducible first | refine Jh (fun K hK => ?_) | refine Qc ?_ | refine Qd ?_ | refine Jg ?_ | refine Jr ?_)
      | (with_reducible refine Jt (fun hc => ?_) (fun hc => ?_) <;> (try simp only [RC] at hc) <;> (try (exfalso; first | omega | contradiction)))
      | (with_reducible refine X4 (fun hc => ?_) (fun hc => ?_) <;> (try simp only [RC] at hc) <;> (try (exfalso; first | omega | contradiction)))
      | (simp only [Qb, Jo, reduceIte, J0])
      | ((with_reducible refine hK _ _ ?_); clear hK)
      | (clear hK; (with_reducible refine hK _ _ ?_); clear hK)
      | (simp only [Q9, RA, Jn, Jm, Jp, Q8, Q6, ev, ofValue, Ju, J0, J3, J2, J4, reduceCtorEq, reduceIte, Jv, Qm, Qk, Q0, aun, Qj, Jk, Ji, Jz, Jy, Jj, Qi, Jf, Q7, Q2, Js, J1, J5, Ja, J9, Jb, J6, J7, Jd, J8, RB, Jw, Je, tf133WdE, k0, k3])
      | (simp (disch := first | omega | (simp only [RO]; done) | assumption) only [RS, Xa, Xb, X9])
    (
     (refine Qg (rs := [.tmp 2]) rfl ?_)
     (simp only [X5, Qf, Fr.put_some, Fr.put_none, Qp, Qq, Qt, J0, reduceIte, k3])
     (try simp (disch := (first | omega | (simp only [RO]; done) | assumption | (simp only [RM, Je]; done) | (simp only [RL, Je]; omega))) only [RD, reduceCtorEq, reduceIte, Je, J1, J3, J2, J6, tf133WdE, k3]))
    rw [← cnt_uniq hz (.inl (by omega))]
end Go.Proofs.YtigddjlhncnnoaaGreatDoor
namespace Go.Proofs.YtigddjlhncnnoaaGreatDoor
open Go.AL Go.PW
theorem tf113WdF : type_of% (@Xc) := @Xc
theorem tf169WdF : type_of% (Jc @Xw (Jc @tyb5 (Jc @tyb9 (Jc @Xc (Jc @cv5_3 (@cv71_5)))))) := Jc @Xw (Jc @tyb5 (Jc @tyb9 (Jc @Xc (Jc @cv5_3 (@cv71_5)))))
theorem tf162WdF : type_of% (Jc @Xw (@Xc)) := Jc @Xw (@Xc)
set_option maxRecDepth 8000
theorem mul64_calls (x y : Int) (H : Hp) (hx : 0 ≤ x ∧ x < Bs) (hy : 0 ≤ y ∧ y < Bs) : ACalls Tryz.prog 113 [.int .u64 x, .int .u64 y] H fun r H' => r = .tup [.int .u64 (x * y / Bs), .int .u64 (x * y % Bs)] ∧ H = H' := by
  refine Qo Tryz.func113 rfl (by kernel_rfl) (by kernel_rfl) ?_
  repeat' first
    | (with_reducible first | refine Jh (fun K hK => ?_) | refine Qd ?_ | refine Jg ?_)
    | (simp only [Qb, Jo, reduceIte, J0])
    | ((with_reducible refine hK _ _ ?_); clear hK)
    | (simp only [Q9, RA, Jn, Jm, Jp, Q8, Q6, ev, ofValue, Ju, J0, J3, J2, J4, reduceCtorEq, reduceIte, Jv, Qm, Qk, Q0, aun, Qj, Jk, Ji, Jz, Jy, Jj, Qi, Jf, Q7, Q2, Js, J1, J5, Ja, J9, Jb, J6, J7, Jd, J8, RB, Jw, Je, tf113WdF])
  (
   (refine Qg (rs := [.tmp 4, .tmp 5]) rfl ?_)
   (simp only [X5, Qf, Fr.put_some, Fr.put_none, Qp, Qq, Qt, J0, reduceIte])
   (try simp (disch := (first | omega | (simp only [RO]; done) | assumption | (simp only [RM, Je]; done) | (simp only [RL, Je]; omega))) only [RD, reduceCtorEq, reduceIte, Je, J1, J3, J2, J6, tf113WdF]))
  have h := mul_high hx hy
  simp only at h
  rw [← h, low32 hx.1 hx.2, low32 hy.1 hy.2]
  have hT : ∀ n : Int, bits .and .u64 (IntKind.u64.wrap n) 4294967295 = IntKind.u64.wrap n % 4294967296 := fun n => by
    rw [Zr]; exact low32 (Int.emod_nonneg _ (by decide)) (Int.emod_lt_of_pos _ (by decide))
  rw [hT]
  simp only [Zr]
def lenTab : ByteArray := { data := (([0, 1, 2, 2, 3, 3, 3, 3, 4, 4, 4, 4, 4, 4, 4, 4, 5, 5, 5, 5, 5, 5, 5, 5, 5, 5, 5, 5, 5, 5, 5, 5, 6, 6, 6, 6, 6, 6, 6, 6, 6, 6, 6, 6, 6, 6, 6, 6, 6, 6, 6, 6, 6, 6, 6, 6, 6, 6, 6, 6, 6, 6, 6, 6].append [7, 7, 7, 7, 7, 7, 7, 7, 7, 7, 7, 7, 7, 7, 7, 7, 7, 7, 7, 7, 7, 7, 7, 7, 7, 7, 7, 7, 7, 7, 7, 7, 7, 7, 7, 7, 7, 7, 7, 7, 7, 7, 7, 7, 7, 7, 7, 7, 7, 7, 7, 7, 7, 7, 7, 7, 7, 7, 7, 7, 7, 7, 7, 7]).append ([8, 8, 8, 8, 8, 8, 8, 8, 8, 8, 8, 8, 8, 8, 8, 8, 8, 8, 8, 8, 8, 8, 8, 8, 8, 8, 8, 8, 8, 8, 8, 8, 8, 8, 8, 8, 8, 8, 8, 8, 8, 8, 8, 8, 8, 8, 8, 8, 8, 8, 8, 8, 8, 8, 8, 8, 8, 8, 8, 8, 8, 8, 8, 8].append [8, 8, 8, 8, 8, 8, 8, 8, 8, 8, 8, 8, 8, 8, 8, 8, 8, 8, 8, 8, 8, 8, 8, 8, 8, 8, 8, 8, 8, 8, 8, 8, 8, 8, 8, 8, 8, 8, 8, 8, 8, 8, 8, 8, 8, 8, 8, 8, 8, 8, 8, 8, 8, 8, 8, 8, 8, 8, 8, 8, 8, 8, 8, 8])).toArray }
theorem lenTab_at : ∀ i : Fin 256, (lenTab.data[i.1]?).map (fun b => b.toNat) = some (bl i.1) := by decide +kernel
theorem u8_wrap (n : Int) : IntKind.u8.wrap n = n % 256 := by
  have e : ((2 : Int) ^ IntKind.u8.bits) = 256 := by decide
  simp only [IntKind.wrap, IntKind.signed, Bool.false_and, Bool.false_eq_true, if_false, e]
theorem len_index (n : Int) (k : IntKind) : Gv Tryz.prog 9 (.str { data := (([0, 1, 2, 2, 3, 3, 3, 3, 4, 4, 4, 4, 4, 4, 4, 4, 5, 5, 5, 5, 5, 5, 5, 5, 5, 5, 5, 5, 5, 5, 5, 5, 6, 6, 6, 6, 6, 6, 6, 6, 6, 6, 6, 6, 6, 6, 6, 6, 6, 6, 6, 6, 6, 6, 6, 6, 6, 6, 6, 6, 6, 6, 6, 6].append [7, 7, 7, 7, 7, 7, 7, 7, 7, 7, 7, 7, 7, 7, 7, 7, 7, 7, 7, 7, 7, 7, 7, 7, 7, 7, 7, 7, 7, 7, 7, 7, 7, 7, 7, 7, 7, 7, 7, 7, 7, 7, 7, 7, 7, 7, 7, 7, 7, 7, 7, 7, 7, 7, 7, 7, 7, 7, 7, 7, 7, 7, 7, 7]).append ([8, 8, 8, 8, 8, 8, 8, 8, 8, 8, 8, 8, 8, 8, 8, 8, 8, 8, 8, 8, 8, 8, 8, 8, 8, 8, 8, 8, 8, 8, 8, 8, 8, 8, 8, 8, 8, 8, 8, 8, 8, 8, 8, 8, 8, 8, 8, 8, 8, 8, 8, 8, 8, 8, 8, 8, 8, 8, 8, 8, 8, 8, 8, 8].append [8, 8, 8, 8, 8, 8, 8, 8, 8, 8, 8, 8, 8, 8, 8, 8, 8, 8, 8, 8, 8, 8, 8, 8, 8, 8, 8, 8, 8, 8, 8, 8, 8, 8, 8, 8, 8, 8, 8, 8, 8, 8, 8, 8, 8, 8, 8, 8, 8, 8, 8, 8, 8, 8, 8, 8, 8, 8, 8, 8, 8, 8, 8, 8])).toArray }) (.int k (IntKind.u8.wrap n)) = some (.int .u8 (bl (n % 256).toNat : Nat)) := by
  show Gv Tryz.prog 9 (.str lenTab) (.int k (IntKind.u8.wrap n)) = _
  rw [u8_wrap]
  have h0 : 0 ≤ n % 256 := Int.emod_nonneg _ (by decide)
  have h1 : n % 256 < 256 := Int.emod_lt_of_pos _ (by decide)
  have h := lenTab_at ⟨(n % 256).toNat, by omega⟩
  simp only [Gv, und9]
  rw [if_pos h0]
  obtain ⟨b, hb, hb2⟩ := Option.map_eq_some_iff.1 h
  rw [hb]
  simp only [Option.map_some, ← hb2]
theorem bl_step {x k : Int} {n : Nat} (hk : k = 2 ^ n) (h : k ≤ x) : bl x.toNat = n + bl (x / k).toNat := by
  subst hk
  have hp : (0 : Int) < 2 ^ n := Int.pow_pos (by decide)
  obtain ⟨a, rfl⟩ := Int.eq_ofNat_of_zero_le (show 0 ≤ x by omega)
  have h' : 2 ^ n ≤ a := by
    have : ((2 ^ n : Nat) : Int) ≤ a := by simpa using h
    omega
  rw [Int.toNat_natCast, bl_div h']
  congr 2
def l3 (z : Int) : Nat := if 256 ≤ z then 8 + bl (z / 256).toNat else bl z.toNat
def l2 (y : Int) : Nat := if 65536 ≤ y then 16 + l3 (y / 65536) else l3 y
def l1 (x : Int) : Nat := if 4294967296 ≤ x then 32 + l2 (x / 4294967296) else l2 x
theorem l3_eq (z : Int) : l3 z = bl z.toNat := by
  unfold l3; split
  · rename_i h; rw [bl_step (n := 8) (by decide) h]
  · rfl
theorem l2_eq (z : Int) : l2 z = bl z.toNat := by
  unfold l2; simp only [l3_eq]; split
  · rename_i h; rw [bl_step (n := 16) (by decide) h]
  · rfl
theorem l1_eq (z : Int) : l1 z = bl z.toNat := by
  unfold l1; simp only [l2_eq]; split
  · rename_i h; rw [bl_step (n := 32) (by decide) h]
  · rfl
theorem len64_calls (x : Int) (H : Hp) (hx : 0 ≤ x ∧ x < Bs) : ACalls Tryz.prog 169 [.int .u64 x] H fun r H' => r = .int .i64 (bl x.toNat : Nat) ∧ H = H' := by
  have hb : ∀ n : Int, bl (n % 256).toNat ≤ 8 := fun n => bl_le (by have := Int.emod_nonneg n (b := 256) (by decide); have := Int.emod_lt_of_pos n (b := 256) (by decide); omega)
  have hw : ∀ n : Int, IntKind.i64.wrap ((bl (n % 256).toNat : Nat) : Int) = (bl (n % 256).toNat : Nat) := fun n => Qe (by omega) (by have := hb n; omega)
  have w0 : IntKind.i64.wrap (0 + 16) = 16 := by decide
  have w1 : IntKind.i64.wrap (32 + 16) = 48 := by decide
  have w2 : IntKind.i64.wrap (0 + 8) = 8 := by decide
  have w3 : IntKind.i64.wrap (16 + 8) = 24 := by decide
  have w4 : IntKind.i64.wrap (32 + 8) = 40 := by decide
  have w5 : IntKind.i64.wrap (48 + 8) = 56 := by decide
  have hw2 : ∀ (c n : Int), 0 ≤ c → c ≤ 56 → IntKind.i64.wrap (c + (bl (n % 256).toNat : Nat)) = c + (bl (n % 256).toNat : Nat) := fun c n h0 h1 => Qe (by omega) (by have := hb n; omega)
  simp only [Bs] at hx
  refine Qo Tryz.func169 rfl (by kernel_rfl) (by kernel_rfl) ?_
  repeat' first
    | (with_reducible first | refine Jh (fun K hK => ?_) | refine Q4 ?_ | refine Qd ?_ | refine Jg ?_ | refine Jr ?_)
    | (with_reducible refine X4 (fun hc => ?_) (fun hc => ?_) <;> (try simp only [RC] at hc) <;> (try (exfalso; first | omega | contradiction)))
    | (simp only [Qb, Jo, reduceIte, J0])
    | ((with_reducible refine hK _ _ ?_); clear hK)
    | (simp only [Q9, RA, Jn, Jm, Jp, Q8, Q6, ev, ofValue, Ju, J0, J3, J2, J4, reduceCtorEq, reduceIte, Jv, Qm, Qk, Q0, aun, Qj, Jk, Ji, Jz, Jy, Jj, Qi, Jf, Q7, Q2, Js, J1, J5, Ja, J9, Jb, J6, J7, Jd, J8, RB, Jw, Je, tf169WdF, len_index, hw, w0, w1, w2, w3, w4, w5])
  all_goals
    (
     (refine Qg (rs := [.tmp 2]) rfl ?_)
     (simp only [X5, Qf, Fr.put_some, Fr.put_none, Qp, Qq, Qt, J0, reduceIte])
     (try simp (disch := (first | omega | (simp only [RO]; done) | assumption | (simp only [RM, Je]; done) | (simp only [RL, Je]; omega))) only [RD, reduceCtorEq, reduceIte, Je, J1, J3, J2, J6, tf169WdF]))
  all_goals
    rw [hw2 _ _ (by decide) (by decide), ← l1_eq x]
    unfold l1
    split <;> (try (exfalso; omega))
    unfold l2
    split <;> (try (exfalso; omega))
    unfold l3
    split <;> (try (exfalso; omega))
    rw [Int.emod_eq_of_lt (by omega) (by omega)]
    congr 1 <;> omega
theorem lz64_calls (x : Int) (H : Hp) (hx : 0 ≤ x ∧ x < Bs) : ACalls Tryz.prog 162 [.int .u64 x] H fun r H' => r = .int .i64 ((64 - bl x.toNat : Nat) : Int) ∧ H = H' := by
  have hb : bl x.toNat ≤ 64 := bl_le (by simp only [Bs] at hx; omega)
  have e : IntKind.i64.wrap (64 - (bl x.toNat : Nat)) = ((64 - bl x.toNat : Nat) : Int) := by rw [Qe (by omega) (by omega)]; omega
  refine Qo Tryz.func162 rfl (by kernel_rfl) (by kernel_rfl) ?_
  repeat' first
    | (with_reducible first | refine Jh (fun K hK => ?_) | refine Qd ?_ | refine Jg ?_)
    | ((with_reducible refine Q5 (len64_calls _ _ hx) ?_); rintro _ _ ⟨rfl, rfl⟩)
    | (simp only [Qb, Jo, reduceIte, J0])
    | ((with_reducible refine hK _ _ ?_); clear hK)
    | (simp only [Q9, RA, Jn, Jm, Jp, Q8, Q6, ev, ofValue, Ju, J0, J3, J2, J4, reduceCtorEq, reduceIte, Jv, Qm, Qk, Q0, aun, Qj, Jk, Ji, Jz, Jy, Jj, Qi, Jf, Q7, Q2, Js, J1, J5, Ja, J9, Jb, J6, J7, Jd, J8, RB, Jw, Je, tf162WdF, e])
  (
   (refine Qg (rs := [.tmp 2]) rfl ?_)
   (simp only [X5, Qf, Fr.put_some, Fr.put_none, Qp, Qq, Qt, J0, reduceIte])
   (try simp (disch := (first | omega | (simp only [RO]; done) | assumption | (simp only [RM, Je]; done) | (simp only [RL, Je]; omega))) only [RD, reduceCtorEq, reduceIte, Je, J1, J3, J2, J6, tf162WdF]))
end Go.Proofs.YtigddjlhncnnoaaGreatDoor

/- Part 16 of the proof of laws of this seat: lemmas on the model's code, on this program's functions, on numbers. No condition. -/
import Derived.Test.YtigddjlhncnnoaaGreatDoorZGao
import Derived.LaidEql
import Derived.RowKitTokens
import Derived.Stop.Asserts
import Derived.WalkKit
set_option linter.unusedVariables false
set_option linter.unusedSimpArgs false
open Nat renaming reduceEqDiff → J0, reduceLeDiff → J1, reduceMul → J2, reduceAdd → J3, reduceSub → J4, reduceLT → J5
open Int renaming reduceToNat → J6, reducePow → J7, reduceNeg → J8, reduceLT → J9, reduceLE → Ja, reduceEq → Jb
open And renaming intro → Jc
open Go.IntKind renaming bits → Jd
open Go.PW renaming dig_length → Je
namespace Go.Proofs.YtigddjlhncnnoaaGreatDoor
open Go.AL Go.PW
theorem Y6 : type_of% (Jc @Xw (Jc @Z1 (Jc @Xc (Jc @Y9 (Jc @Y8 (Jc @J00 (@N9))))))) := Jc @Xw (Jc @Z1 (Jc @Xc (Jc @Y9 (Jc @Y8 (Jc @J00 (@N9))))))
abbrev pn150_1WdM : Plan := (.one 0 (.one 2 (.one 1 (.one 3 (.one 4 (.one 5 .nil))))))
abbrev pn150_3WdM : Plan := (.one 0 (.alt 1 (.one 2 (.one 3 .nil)) (.one 2 (.one 1 (.one 3 .nil)))))
abbrev pn150_7WdM : Plan := (.one 0 (.one 1 (.one 2 (.one 4 (.one 5 (.one 6 (.one 8 (.one 3 (.one 7 (.one 9 (.one 10 (.one 11 .nil))))))))))))
abbrev pn150_13WdM : Plan := (.one 0 (.one 1 (.one 2 (.one 3 (.one 4 (.one 5 (.one 6 (.one 7 (.one 8 (.one 9 (.one 10 (.one 11 (.one 12 (.one 13 (.one 14 (.one 15 (.one 16 (.one 17 (.one 18 (.one 19 (.one 20 (.one 21 (.one 22 (.one 23 (.one 24 (.one 25 (.one 26 (.one 27 (.one 28 (.one 29 (.one 30 .nil)))))))))))))))))))))))))))))))
abbrev pn150_19WdM : Plan := (.one 0 (.one 1 (.one 2 (.one 3 (.one 4 (.one 5 (.one 6 (.one 7 (.one 8 (.one 9 (.one 10 (.one 11 (.one 12 (.one 13 (.one 14 .nil)))))))))))))))
abbrev pn150_21WdM : Plan := (.one 0 (.alt 1 (.one 2 (.one 3 .nil)) (.one 2 (.one 1 (.one 3 .nil)))))
set_option maxRecDepth 8000
theorem W_tup2_lt (n : Nat) (x y : Int) : AV.lt n (.tup [W x, W y]) := W_tup_lt _ _ (W_lt _ _)
theorem ints_pre {H : Hp} {h n : Nat} {X : Int} {e : Nat} (hg : X3 H h = some (Bk (dig 16 X) e)) (hn : n ≤ 16) : Ints H .u64 (.sl h 0 n 16) ((dig 16 X).take n) := by
  have := Ints.blk (n := n) (c := 16) (o := 0) hg (by decide) (by rw [dig_length]; omega) hn
  rwa [List.drop_zero] at this
theorem dig_ext {ys : List Int} {x : Int} (hl : ys.length = 16) (h : ∀ j, j < 16 → ys.getD j 0 = x / Bs ^ j % Bs) : ys = dig 16 x := by
  apply List.ext_getElem
  · rw [hl, dig_length]
  · intro j h1 h2
    have e1 := h j (by omega)
    rw [← Kt 16 x j (by omega), List.getD_eq_getElem?_getD, List.getElem?_eq_getElem h1, List.getD_eq_getElem?_getD, List.getElem?_eq_getElem h2] at e1
    exact e1
set_option maxHeartbeats 4000000 in
theorem divide_calls (X Y : Int) (H : Hp) (hX : 0 ≤ X ∧ X < M) (hY : 0 < Y ∧ Y < M) : ACalls Tryz.prog 150 [W X, W Y] H fun r H' => r = .tup [W (X / Y), W (X % Y)] ∧ H = H' := by
  refine ACalls.drop (R := fun r => r = .tup [W (X / Y), W (X % Y)]) ?_
  obtain ⟨n, hn⟩ : ∃ n, n = cnt (dig 16 X) := ⟨_, rfl⟩
  obtain ⟨m, hm⟩ : ∃ m, m = cnt (dig 16 Y) := ⟨_, rfl⟩
  have hn16 : n ≤ 16 := by rw [hn]; have := cnt_le (dig 16 X); rwa [dig_length] at this
  have hm16 : m ≤ 16 := by rw [hm]; have := cnt_le (dig 16 Y); rwa [dig_length] at this
  have hXv : val (dig 16 X) = X := by rw [val_M, Int.emod_eq_of_lt hX.1 hX.2]
  have hYv : val (dig 16 Y) = Y := by rw [val_M, Int.emod_eq_of_lt (Int.le_of_lt hY.1) hY.2]
  have hm0 : 0 < m := by
    rcases Nat.eq_zero_or_pos m with h | h
    · have := cnt_zero (hm ▸ h); omega
    · exact h
  have hXn : X < Bs ^ n := by
    have := Xh ((Z7 16 X).take n)
    rw [Gx (by omega), hXv, List.length_take, dig_length, Nat.min_eq_left hn16] at this
    exact this.2
  have hYm : Bs ^ (m - 1) ≤ Y := by
    have := cnt_low (Z7 16 Y) (by omega)
    rwa [← hm, hYv] at this
  refine Qo Tryz.func150 rfl (by kernel_rfl) (by kernel_rfl) ?_
  refine Jh (fun K hQ => ?_)
  repeat' first
    | (with_reducible first | refine Jg ?_)
    | (simp only [Qb, Jo, reduceIte, J0])
    | (simp only [Q9, RA, Jn, Jm, Jp, Q8, Q6, ev, ofValue, Ju, J0, J3, J2, J4, reduceCtorEq, reduceIte, Jv, Qm, Qk, Q0, aun, Qj, Jk, Ji, Jz, Jy, Jj, Qi, Jf, Q7, Q2, Js, J1, J5, Ja, J9, Jb, J6, J7, Jd, J8, RB, Jw, Je, Y6])
  refine hQ _ _ ?_
  clear hQ
  refine Jh (fun K2 hK2 => ?_)
  refine Yn (fun fr' H1 => fr' 2 = .ptr H.length 0 ∧ fr' 3 = .ptr (H.length + 1) 0 ∧ fr' 4 = .ptr (H.length + 1 + 1) 0 ∧ fr' 5 = .ptr (H.length + 1 + 1 + 1) 0 ∧ fr' 6 = .int .i64 (n : Int) ∧ fr' 7 = .int .i64 (m : Int) ∧ H ++ [Wb X] ++ [Wb Y] ++ [Wb 0] ++ [Wb 0] = H1) ?_ (fun fr' H1 h => hK2 _ _ ?_)
  · clear hK2
    have i2 : Ints (H ++ [Wb X] ++ [Wb Y] ++ [Wb 0] ++ [Wb 0]) .u64 (.sl H.length 0 16 16) (dig 16 X) := by
      have := ints_pre (H := H ++ [Wb X] ++ [Wb Y] ++ [Wb 0] ++ [Wb 0]) (h := H.length) (n := 16) (X := X) (e := 73) (by simp [X3]) (by decide)
      rwa [List.take_of_length_le (by rw [dig_length]; omega)] at this
    have i3 : Ints (H ++ [Wb X] ++ [Wb Y] ++ [Wb 0] ++ [Wb 0]) .u64 (.sl (H.length + 1) 0 16 16) (dig 16 Y) := by
      have := ints_pre (H := H ++ [Wb X] ++ [Wb Y] ++ [Wb 0] ++ [Wb 0]) (h := H.length + 1) (n := 16) (X := Y) (e := 73) (by simp [X3]) (by decide)
      rwa [List.take_of_length_le (by rw [dig_length]; omega)] at this
    repeat' first
      | (with_reducible first | refine Q1 (id := 1) [] pn150_1WdM (by kernel_rfl) (by kernel_rfl) ?_)
      | ((with_reducible refine Q5 ((fun x => (count_calls _ _ _ (i2.ext x) (l16 _))) (Ext.refl _)) ?_); rintro _ _ ⟨rfl, rfl⟩)
      | ((with_reducible refine Q5 ((fun x => (count_calls _ _ _ (i3.ext x) (l16 _))) (Ext.refl _)) ?_); rintro _ _ ⟨rfl, rfl⟩)
      | (with_reducible refine Jc ?_ ?_)
      | (simp only [Qb, Jo, reduceIte, J0])
      | (simp only [Q9, RA, Jn, Jm, Jp, Q8, Q6, ev, ofValue, Ju, J0, J3, J2, J4, reduceCtorEq, reduceIte, Jv, Qm, Qk, Q0, aun, Qj, Jk, Ji, Jz, Jy, Jj, Qi, Jf, Q7, Q2, Js, J1, J5, Ja, J9, Jb, J6, J7, Jd, J8, RB, Jw, Je, Y6, ← hn, ← hm])
  clear hK2
  obtain ⟨k2, k3, k4, k5, k6, k7, rfl⟩ := h
  by_cases hlt : n < m
  · have hXY : X < Y := by
      have h1 : Bs ^ n ≤ Bs ^ (m - 1) := by
        rw [show m - 1 = n + (m - 1 - n) by omega, Int.pow_add]
        have := Xn (m - 1 - n)
        have := Int.mul_le_mul_of_nonneg_left (show 1 ≤ Bs ^ (m - 1 - n) by omega) (Int.le_of_lt (Xn n))
        omega
      omega
    have hq : X / Y = 0 := Int.ediv_eq_zero_of_lt hX.1 hXY
    have hr : X % Y = X := Int.emod_eq_of_lt hX.1 hXY
    repeat' first
      | (with_reducible first | refine Jh (fun K hK => ?_) | refine Jx ?_ | refine Qd ?_ | refine Jg ?_ | refine Q1 (id := 3) [] pn150_3WdM (by kernel_rfl) (by kernel_rfl) ?_ | refine Jr ?_)
      | (with_reducible refine Jc ?_ ?_)
      | (with_reducible refine X4 (fun hc => ?_) (fun hc => ?_) <;> (try simp only [RC] at hc) <;> (try (exfalso; first | omega | contradiction)))
      | (simp only [Qb, Jo, reduceIte, J0])
      | ((with_reducible refine hK _ _ ?_); clear hK)
      | (simp only [Q9, RA, Jn, Jm, Jp, Q8, Q6, ev, ofValue, Ju, J0, J3, J2, J4, reduceCtorEq, reduceIte, Jv, Qm, Qk, Q0, aun, Qj, Jk, Ji, Jz, Jy, Jj, Qi, Jf, Q7, Q2, Js, J1, J5, Ja, J9, Jb, J6, J7, Jd, J8, RB, Jw, Je, Y6, k2, k3, k4, k5, k6, k7])
      | (simp (disch := (first | omega | (simp only [RO]; done) | assumption | (simp only [RM, Je]; done) | (simp only [RL, Je]; omega))) only [RD, reduceCtorEq, reduceIte, Je, J1, J3, J2, J6, Y6, k2, k3, k4, k5, k6, k7])
    all_goals
      (
       (refine Qg (rs := [.cell 4 73, .cell 5 73]) rfl ?_)
       (simp only [X5, Qf, Fr.put_some, Fr.put_none, Qp, Qq, Qt, J0, reduceIte, k4, k5])
       (try simp (disch := (first | omega | (simp only [RO]; done) | assumption | (simp only [RM, Je]; done) | (simp only [RL, Je]; omega))) only [RD, reduceCtorEq, reduceIte, Je, J1, J3, J2, J6, Y6, k4, k5]))
    all_goals rw [hq, hr]
    all_goals exact ⟨ext6 _ _ _ _, W_tup2_lt _ _ _, rfl⟩
  by_cases hm1 : m = 1
  · have hY1 : (dig 16 Y).getD 0 0 = Y := by
      have h1 := Xk (dig 16 Y) (i := 0) (by rw [dig_length]; omega)
      rw [Gx (by omega), hYv] at h1
      simp only [List.take_zero, val, Int.pow_zero, Int.one_mul] at h1
      omega
    have hYB : Y < Bs := by rw [← hY1]; exact ((Z7 16 Y).get 0).2
    repeat' first
      | (with_reducible first | refine Jh (fun K hK => ?_) | refine Jx ?_ | refine Qd ?_ | refine Jg ?_ | refine Jr ?_)
      | ((with_reducible refine Q5 (short_calls _ _ _ hX ⟨hY.1, hYB⟩) ?_); rintro _ _ ⟨rfl, rfl⟩)
      | (with_reducible refine X4 (fun hc => ?_) (fun hc => ?_) <;> (try simp only [RC] at hc) <;> (try (exfalso; first | omega | contradiction)))
      | (simp only [Qb, Jo, reduceIte, J0])
      | ((with_reducible refine hK _ _ ?_); clear hK)
      | (simp only [Q9, RA, Jn, Jm, Jp, Q8, Q6, ev, ofValue, Ju, J0, J3, J2, J4, reduceCtorEq, reduceIte, Jv, Qm, Qk, Q0, aun, Qj, Jk, Ji, Jz, Jy, Jj, Qi, Jf, Q7, Q2, Js, J1, J5, Ja, J9, Jb, J6, J7, Jd, J8, RB, Jw, Je, Y6, k2, k3, k4, k5, k6, k7, hY1])
      | (simp (disch := first | omega | (simp only [RO]; done) | assumption) only [RS, Xa, Xb, X9, Zz, Zx, Zy, Zw])
      | (simp (disch := (first | omega | (simp only [RO]; done) | assumption | (simp only [RM, Je]; done) | (simp only [RL, Je]; omega))) only [RD, reduceCtorEq, reduceIte, Je, J1, J3, J2, J6, Y6, k2, k3, k4, k5, k6, k7, hY1])
    all_goals
      (
       (refine Qg (rs := [.cell 4 73, .cell 5 73]) rfl ?_)
       (simp only [X5, Qf, Fr.put_some, Fr.put_none, Qp, Qq, Qt, J0, reduceIte, k4, k5])
       (try simp (disch := (first | omega | (simp only [RO]; done) | assumption | (simp only [RM, Je]; done) | (simp only [RL, Je]; omega))) only [RD, reduceCtorEq, reduceIte, Je, J1, J3, J2, J6, Y6, k4, k5]))
    all_goals exact ⟨ext6 _ _ _ _, W_tup2_lt _ _ _⟩
  refine Jh (fun K hQ => ?_)
  repeat' first
    | (with_reducible first | refine Jh (fun K hK => ?_) | refine Jx ?_ | refine Q4 ?_ | refine Jg ?_ | refine Jr ?_)
    | (with_reducible refine X4 (fun hc => ?_) (fun hc => ?_) <;> (try simp only [RC] at hc) <;> (try (exfalso; first | omega | contradiction)))
    | (simp only [Qb, Jo, reduceIte, J0])
    | ((with_reducible refine hK _ _ ?_); clear hK)
    | (simp only [Q9, RA, Jn, Jm, Jp, Q8, Q6, ev, ofValue, Ju, J0, J3, J2, J4, reduceCtorEq, reduceIte, Jv, Qm, Qk, Q0, aun, Qj, Jk, Ji, Jz, Jy, Jj, Qi, Jf, Q7, Q2, Js, J1, J5, Ja, J9, Jb, J6, J7, Jd, J8, RB, Jw, Je, Y6, k2, k3, k4, k5, k6, k7])
  refine hQ _ _ ?_
  clear hQ
  -- the long way
  obtain ⟨s, hs⟩ : ∃ s, s = 64 - bl ((dig 16 Y).getD (m - 1) 0).toNat := ⟨_, rfl⟩
  obtain ⟨hVm, hs64⟩ := lz_fits (Z7 16 Y) hm hm0 hYv hs
  have hgy := (Z7 16 Y).get (m - 1)
  have f1 : IntKind.i64.wrap ((m : Int) - 1) = ((m - 1 : Nat) : Int) := by rw [Qe (by omega) (by omega)]; omega
  have f2 : IntKind.i64.wrap ((m : Int) - 2) = ((m - 2 : Nat) : Int) := by rw [Qe (by omega) (by omega)]; omega
  refine Jh (fun K hQ => ?_)
  repeat' first
    | (with_reducible first | refine Jg ?_)
    | ((with_reducible refine Q5 (lz64_calls _ _ hgy) ?_); rintro _ _ ⟨rfl, rfl⟩)
    | (simp only [Qb, Jo, reduceIte, J0])
    | (simp only [Q9, RA, Jn, Jm, Jp, Q8, Q6, ev, ofValue, Ju, J0, J3, J2, J4, reduceCtorEq, reduceIte, Jv, Qm, Qk, Q0, aun, Qj, Jk, Ji, Jz, Jy, Jj, Qi, Jf, Q7, Q2, Js, J1, J5, Ja, J9, Jb, J6, J7, Jd, J8, RB, Jw, Je, Y6, k2, k3, k4, k5, k6, k7, f1, ← hs])
    | (simp (disch := first | omega | (simp only [RO]; done) | assumption) only [RS, Xa, Xb, X9, Zz, Zx, Zy, Zw])
    | (simp (disch := (first | omega | (simp only [RO]; done) | assumption | (simp only [RM, Je]; done) | (simp only [RL, Je]; omega))) only [RD, reduceCtorEq, reduceIte, Je, J1, J3, J2, J6, Y6, k2, k3, k4, k5, k6, k7, f1, ← hs])
  refine hQ _ _ ?_
  clear hQ
  obtain ⟨U, hU⟩ : ∃ U, U = X * 2 ^ s := ⟨_, rfl⟩
  obtain ⟨V, hV⟩ : ∃ V, V = Y * 2 ^ s := ⟨_, rfl⟩
  obtain ⟨HH, hHH⟩ : ∃ HH, HH = H ++ [Wb X] ++ [Wb Y] ++ [Wb 0] ++ [Wb 0] := ⟨_, rfl⟩
  have hHL : HH.length = H.length + 1 + 1 + 1 + 1 := by rw [hHH]; simp
  have hxl : ((dig 16 X).take n).length = n := by rw [List.length_take, dig_length]; omega
  have hyl : ((dig 16 Y).take m).length = m := by rw [List.length_take, dig_length]; omega
  have g2 : X3 HH H.length = some (Wb X) := by rw [hHH]; simp [X3]
  have g3 : X3 HH (H.length + 1) = some (Wb Y) := by rw [hHH]; simp [X3]
  have g4 : X3 HH (H.length + 1 + 1) = some (Wb 0) := by rw [hHH, Qw (by simp), X7 (by simp)]
  have g5 : X3 HH (H.length + 1 + 1 + 1) = some (Wb 0) := by rw [hHH, X7 (by simp)]
  have hsu := shift_calls _ _ s HH (ints_pre g2 hn16) ((Z7 16 X).take n) (by omega) hs64
  rw [hxl, Gx (by omega), hXv, ← hU] at hsu
  have hsv := shift_calls _ _ s (HH ++ [Bk (dig (n + 1) U) 71]) ((ints_pre g3 hm16).push _) ((Z7 16 Y).take m) (by omega) hs64
  rw [hyl, Gx (by omega), hYv, ← hV] at hsv
  have f3 : Yg Tryz.prog 65 (.sl (HH.length + 1) 0 (m + 1) (m + 1)) none (some (.int .i64 (m : Int))) none = some (.sl (HH.length + 1) 0 m (m + 1)) := sl_hi Z8 Z4 (by omega)
  have f4 : IntKind.i64.wrap ((n : Int) - m) = ((n - m : Nat) : Int) := by rw [Qe (by omega) (by omega)]; omega
  rw [← hHH]
  have lH : H.length + 1 + 1 + 1 < HH.length := by omega
  refine Jh (fun K hQ => ?_)
  repeat' first
    | (with_reducible first | refine Jg ?_ | refine Q1 (id := 7) [] pn150_7WdM (by kernel_rfl) (by kernel_rfl) ?_)
    | ((with_reducible refine Q5 (hsu) ?_); rintro _ _ ⟨rfl, rfl⟩)
    | ((with_reducible refine Q5 (hsv) ?_); rintro _ _ ⟨rfl, rfl⟩)
    | (simp only [Qb, Jo, reduceIte, J0])
    | (simp only [Q9, RA, Jn, Jm, Jp, Q8, Q6, ev, ofValue, Ju, J0, J3, J2, J4, reduceCtorEq, reduceIte, Jv, Qm, Qk, Q0, aun, Qj, Jk, Ji, Jz, Jy, Jj, Qi, Jf, Q7, Q2, Js, J1, J5, Ja, J9, Jb, J6, J7, Jd, J8, RB, Jw, Je, Y6, k2, k3, k4, k5, k6, k7, f3, f4])
    | (simp (disch := first | omega | (simp only [RO]; done) | assumption) only [RS, Xa, Xb, X9, Zz, Zx, Zy, Zw])
  refine hQ _ _ ?_
  clear hQ
  refine Jh (fun K hQ => ?_)
  repeat' first
    | (with_reducible first | refine Jg ?_ | refine Q1 (id := 7) [] pn150_7WdM (by kernel_rfl) (by kernel_rfl) ?_)
    | ((with_reducible refine Q5 (hsu) ?_); rintro _ _ ⟨rfl, rfl⟩)
    | ((with_reducible refine Q5 (hsv) ?_); rintro _ _ ⟨rfl, rfl⟩)
    | (simp only [Qb, Jo, reduceIte, J0])
    | (simp only [Q9, RA, Jn, Jm, Jp, Q8, Q6, ev, ofValue, Ju, J0, J3, J2, J4, reduceCtorEq, reduceIte, Jv, Qm, Qk, Q0, aun, Qj, Jk, Ji, Jz, Jy, Jj, Qi, Jf, Q7, Q2, Js, J1, J5, Ja, J9, Jb, J6, J7, Jd, J8, RB, Jw, Je, Y6, k2, k3, k4, k5, k6, k7, f3, f4])
    | (simp (disch := first | omega | (simp only [RO]; done) | assumption) only [RS, Xa, Xb, X9, Zz, Zx, Zy, Zw])
  refine hQ _ _ ?_
  clear hQ
  refine Jh (fun K2 hK2 => ?_)
  have hV0 : 0 < V := by rw [hV]; exact Int.mul_pos hY.1 (Zb s)
  have hU0 : 0 ≤ U := by rw [hU]; exact Int.mul_nonneg hX.1 (Int.le_of_lt (Zb s))
  have hYV : Bs ^ (m - 1) * 2 ^ s ≤ V := by rw [hV]; exact Int.mul_le_mul_of_nonneg_right hYm (Int.le_of_lt (Zb s))
  rw [← hV] at hVm
  obtain ⟨vs, hvs⟩ : ∃ vs, vs = dig (m + 1) V := ⟨_, rfl⟩
  have hvl : vs.length = m + 1 := by rw [hvs, dig_length]
  have hvL : Limbs vs := by rw [hvs]; exact Z7 _ _
  have hvv : val (vs.take m) = V := by
    have h1 : val vs = V := by
      rw [hvs, Wj, Int.emod_eq_of_lt (Int.le_of_lt hV0)]
      have := Int.mul_le_mul_of_nonneg_left (show 1 ≤ Bs by decide) (Int.le_of_lt (Xn m))
      rw [Int.pow_succ]
      omega
    have := (Uj hvL (m := m) (by rw [h1]; exact hVm)).2
    rw [this, h1]
  have D0 := DInv.start (n := n) (m := m) (X := X) (V := V) (s := s) (qs := dig 16 0) rfl hm0 (by omega) hs64 hX.1 hXn hYV
  rw [← hU] at D0
  rw [← hvs]
  refine Yn (fun fr' H1 => ∃ us qs : List Int, fr' 2 = .ptr H.length 0 ∧ fr' 4 = .ptr (H.length + 1 + 1) 0 ∧ fr' 5 = .ptr (H.length + 1 + 1 + 1) 0 ∧ fr' 7 = .int .i64 (m : Int) ∧ fr' 8 = .int .i64 (s : Int) ∧ fr' 9 = .sl HH.length 0 (n + 1) (n + 1) ∧ fr' 11 = .ptr (HH.length + 1 + 1) 0 ∧ fr' 12 = .ptr (HH.length + 1 + 1 + 1) 0 ∧ DInv n U V 0 us qs ∧ HH ++ [Bk us 71] ++ [Bk vs 71] ++ [Bk qs 73] ++ [Wb 0] = H1) ?_ (fun fr' H1 h => hK2 _ _ ?_)
  · clear hK2
    repeat' first
      | (with_reducible first | refine Jh (fun K hK => ?_) | refine Jx ?_ | refine Jg ?_)
      | (simp only [Qb, Jo, reduceIte, J0])
      | ((with_reducible refine hK _ _ ?_); clear hK)
      | (simp only [Q9, RA, Jn, Jm, Jp, Q8, Q6, ev, ofValue, Ju, J0, J3, J2, J4, reduceCtorEq, reduceIte, Jv, Qm, Qk, Q0, aun, Qj, Jk, Ji, Jz, Jy, Jj, Qi, Jf, Q7, Q2, Js, J1, J5, Ja, J9, Jb, J6, J7, Jd, J8, RB, Jw, Je, Y6, k2, k3, k4, k5, k6, k7, f3, f4])
    refine Xi (fun c fr' H1 => ∃ (k : Nat) (us qs : List Int), c = k ∧ k ≤ n - m + 1 ∧ fr' 2 = .ptr H.length 0 ∧ fr' 4 = .ptr (H.length + 1 + 1) 0 ∧ fr' 5 = .ptr (H.length + 1 + 1 + 1) 0 ∧ fr' 7 = .int .i64 (m : Int) ∧ fr' 8 = .int .i64 (s : Int) ∧ fr' 9 = .sl HH.length 0 (n + 1) (n + 1) ∧ fr' 10 = .sl (HH.length + 1) 0 m (m + 1) ∧ fr' 11 = .ptr (HH.length + 1 + 1) 0 ∧ fr' 12 = .ptr (HH.length + 1 + 1 + 1) 0 ∧ fr' 13 = .int .i64 ((k : Int) - 1) ∧ DInv n U V k us qs ∧ HH ++ [Bk us 71] ++ [Bk vs 71] ++ [Bk qs 73] ++ [Wb 0] = H1) (m := n - m + 1)
      ⟨n - m + 1, _, _, rfl, Nat.le_refl _, k2, k4, k5, k7, rfl, rfl, rfl, rfl, rfl, by show AV.int _ _ = AV.int _ _; congr 1; omega, D0, rfl⟩ ?_
    clear k2 k3 k4 k5 k6 k7
    rintro c fr' H1 ⟨k, us, qs, rfl, hk, k2, k4, k5, k7, k8, k9, k10, k11, k12, k13, D, rfl⟩
    by_cases h0 : 0 < c
    · obtain ⟨i, rfl⟩ : ∃ i, c = i + 1 := ⟨c - 1, by omega⟩
      have e1 : (((i + 1 : Nat) : Int) - 1) = i := by omega
      rw [e1] at k13
      have hin : i + m ≤ n := by omega
      have hi16 : i < 16 := by omega
      obtain ⟨w1, w2, w3, w4, w5⟩ := D.window hin hV0 hVm
      obtain ⟨d0, d1, D'⟩ := D.round hin hV0 hVm hi16 hU0
      have hul := D.ul
      have hql := D.ql
      have hgw : ∀ j, j ≤ m → us.getD (i + j) 0 = ((us.drop i).take (m + 1)).getD j 0 := by
        intro j hj
        rw [List.getD_eq_getElem?_getD, List.getD_eq_getElem?_getD, List.getElem?_take_of_lt (by omega), List.getElem?_drop]
      have hspl : us = us.take i ++ (us.drop i).take (m + 1) ++ us.drop (i + m + 1) := by
        have := split_mid us (o := i) (k := m + 1) (by omega)
        rwa [← Nat.add_assoc] at this
      have hpl : (us.take i).length = i := by rw [List.length_take]; omega
      obtain ⟨w, hw⟩ : ∃ w, w = (us.drop i).take (m + 1) := ⟨_, rfl⟩
      rw [← hw] at w1 w2 w3 w5 d0 d1 D' hgw hspl
      obtain ⟨p, hp⟩ : ∃ p, m = p + 2 := ⟨m - 2, by omega⟩
      have hvtl : (vs.take m).length = m := by rw [List.length_take]; omega
      have hvg : ∀ j, j < m → vs.getD j 0 = (vs.take m).getD j 0 := by
        intro j hj
        rw [List.getD_eq_getElem?_getD, List.getD_eq_getElem?_getD, List.getElem?_take_of_lt hj]
      have hvtop : 0 < (vs.take m).getD (p + 1) 0 := by
        have a := (hvL.take m).get (p + 1)
        have b := top_two (xs := vs.take m) (m := p) (by omega)
        have c := Xh ((hvL.take m).take p)
        rw [List.length_take, Nat.min_eq_left (by omega)] at c
        have d := (hvL.take m).get p
        rw [hvv] at b
        have e : Bs ^ (p + 1) ≤ V := by
          have h1 := Int.mul_le_mul_of_nonneg_left (show (1 : Int) ≤ 2 ^ s by have := Zb s; omega) (Int.le_of_lt (Xn (m - 1)))
          rw [show p + 1 = m - 1 by omega]
          omega
        rcases Int.lt_or_le 0 ((vs.take m).getD (p + 1) 0) with h | h
        · exact h
        · exfalso
          have h0 : (vs.take m).getD (p + 1) 0 = 0 := by omega
          rw [h0, Int.zero_mul, Int.zero_add] at b
          have h2 := Int.mul_le_mul_of_nonneg_right (show (vs.take m).getD p 0 ≤ Bs - 1 by omega) (Int.le_of_lt (Xn p))
          rw [Int.pow_succ, Int.mul_comm] at e
          rw [Int.sub_mul] at h2
          omega
      obtain ⟨q1, q2, q3⟩ := guess_right w2 (hvL.take m) (m := p) (by omega) (by omega) (by rw [w3, hvv]; exact Int.emod_lt_of_pos _ hV0) hvtop
      rw [hvv] at q2 q3
      have ga : us.getD (i + m) 0 = w.getD (p + 2) 0 := by rw [hgw m (by omega), hp]
      have gb : us.getD (i + (m - 1)) 0 = w.getD (p + 1) 0 := by rw [hgw (m - 1) (by omega)]; congr 1; omega
      have gc : us.getD (i + (m - 2)) 0 = w.getD p 0 := by rw [hgw (m - 2) (by omega)]; congr 1; omega
      have gd : vs.getD (m - 1) 0 = (vs.take m).getD (p + 1) 0 := by rw [hvg (m - 1) (by omega)]; congr 1; omega
      have ge : vs.getD (m - 2) 0 = (vs.take m).getD p 0 := by rw [hvg (m - 2) (by omega)]; congr 1; omega
      obtain ⟨qh, hqh⟩ : ∃ qh, qh = min (Bs - 1) (((w.getD (p + 2) 0 * Bs + w.getD (p + 1) 0) * Bs + w.getD p 0) / ((vs.take m).getD (p + 1) 0 * Bs + (vs.take m).getD p 0)) := ⟨_, rfl⟩
      rw [← hqh] at q2 q3
      have hg := fun H0 => guess_calls (w.getD (p + 2) 0) (w.getD (p + 1) 0) (w.getD p 0) ((vs.take m).getD (p + 1) 0) ((vs.take m).getD p 0) H0 ⟨(w2.get _).1, q1⟩ (w2.get _) (w2.get _) ⟨hvtop, ((hvL.take m).get _).2⟩ ((hvL.take m).get _)
      rw [← hqh] at hg
      have e2 : IntKind.i64.wrap ((i : Int) + m) = (i : Int) + m := Qe (by omega) (by omega)
      have e3 : IntKind.i64.wrap ((i : Int) + m + 1) = ((i + m + 1 : Nat) : Int) := by rw [Qe (by omega) (by omega)]; omega
      have e4 : IntKind.i64.wrap ((i : Int) - 1) = (i : Int) - 1 := Qe (by omega) (by omega)
      have e5 : Yg Tryz.prog 65 (.sl HH.length 0 (n + 1) (n + 1)) (some (.int .i64 (i : Int))) (some (.int .i64 ((i + m + 1 : Nat) : Int))) none = some (.sl HH.length i (m + 1) (n + 1 - i)) := by
        rw [sl_both Z8 Z4 (by omega) (by omega) (by omega), Nat.zero_add, show i + m + 1 - i = m + 1 by omega]
      have htk := take_calls HH.length (n + 1 - i) (HH.length + 1) (m + 1) 71 (us.take i) w (us.drop (i + m + 1)) vs m qh ⟨[], .own, 71⟩ (HH ++ [Bk us 71] ++ [Bk vs 71] ++ [Bk qs 73] ++ [Wb 0])
        (by rw [← hspl, Qw (by simp), Qw (by simp), Qw (by simp), X7 rfl]) (by rw [Qw (by simp), Qw (by simp), X7 (by simp)]) (by omega) w2 hvL w1 (by omega) (by omega) (by omega) ⟨by omega, by omega⟩ (by rw [hvv]; exact hV0) (by rw [hvv]; exact q2) (by rw [hvv]; exact q3)
      rw [hpl, hvv] at htk
      repeat' first
        | (with_reducible first | refine Jh (fun K hK => ?_) | refine Jx ?_ | refine Q4 ?_ | refine Jg ?_ | refine Q1 (id := 13) [] pn150_13WdM (by kernel_rfl) (by kernel_rfl) ?_ | refine Jr ?_)
        | ((with_reducible refine Q5 (hg _) ?_); rintro _ _ ⟨rfl, rfl⟩)
        | ((with_reducible refine Q5 (htk) ?_); rintro _ _ ⟨rfl, rfl⟩)
        | (with_reducible refine X4 (fun hc => ?_) (fun hc => ?_) <;> (try simp only [RC] at hc) <;> (try (exfalso; first | omega | contradiction)))
        | (simp only [Qb, Jo, reduceIte, J0])
        | ((with_reducible refine hK _ _ ?_); clear hK)
        | (simp only [Q9, RA, Jn, Jm, Jp, Q8, Q6, ev, ofValue, Ju, J0, J3, J2, J4, reduceCtorEq, reduceIte, Jv, Qm, Qk, Q0, aun, Qj, Jk, Ji, Jz, Jy, Jj, Qi, Jf, Q7, Q2, Js, J1, J5, Ja, J9, Jb, J6, J7, Jd, J8, RB, Jw, Je, Y6, k2, k4, k5, k7, k8, k9, k10, k11, k12, k13, e2, e3, e4, e5, f1, f2, ga, gb, gc, gd, ge, hul, hvl, hql])
        | (simp (disch := first | omega | (simp only [RO]; done) | assumption) only [RS, Xa, Xb, X9, Zz, Zx, Zy, Zw])
        | (simp (disch := (first | omega | (simp only [RO]; done) | assumption | (simp only [RM, Je]; done) | (simp only [RL, Je]; omega))) only [RD, reduceCtorEq, reduceIte, Je, J1, J3, J2, J6, Y6, k2, k4, k5, k7, k8, k9, k10, k11, k12, k13, e2, e3, e4, e5, f1, f2, ga, gb, gc, gd, ge, hul, hvl, hql])
      exact ⟨i, by omega, i, _, _, rfl, by omega, rfl, D', rfl⟩
    · obtain rfl : c = 0 := by omega
      repeat' first
        | (with_reducible first | refine Jh (fun K hK => ?_) | refine Qc ?_ | refine Jg ?_ | refine Jr ?_)
        | (with_reducible refine X4 (fun hc => ?_) (fun hc => ?_) <;> (try simp only [RC] at hc) <;> (try (exfalso; first | omega | contradiction)))
        | (simp only [Qb, Jo, reduceIte, J0])
        | ((with_reducible refine hK _ _ ?_); clear hK)
        | (simp only [Q9, RA, Jn, Jm, Jp, Q8, Q6, ev, ofValue, Ju, J0, J3, J2, J4, reduceCtorEq, reduceIte, Jv, Qm, Qk, Q0, aun, Qj, Jk, Ji, Jz, Jy, Jj, Qi, Jf, Q7, Q2, Js, J1, J5, Ja, J9, Jb, J6, J7, Jd, J8, RB, Jw, Je, Y6, k2, k4, k5, k7, k8, k9, k10, k11, k12, k13])
      exact ⟨us, qs, D, rfl⟩
  clear hK2 k2 k3 k4 k5 k6 k7
  obtain ⟨us, qs, k2, k4, k5, k7, k8, k9, k11, k12, D, rfl⟩ := h
  have hul := D.ul
  have hql := D.ql
  have uv := D.uv
  have qv := D.qv
  rw [List.drop_zero, Int.pow_zero, Int.ediv_one] at uv
  rw [Int.pow_zero, Int.ediv_one, Int.one_mul] at qv
  have hps := Zb s
  have hXY : U / V = X / Y := by rw [hU, hV, Int.mul_ediv_mul_of_pos_left _ _ hps]
  have hR : U % V = X % Y * 2 ^ s := by rw [hU, hV, Gk hps]
  rw [hR] at uv
  rw [hXY] at qv
  have hr0 := Int.emod_nonneg X (b := Y) (by omega)
  have hr1 := Int.emod_lt_of_pos X hY.1
  have hYm2 : Y < Bs ^ m := by
    have := Xh ((Z7 16 Y).take m)
    rw [Gx (by omega), hYv, List.length_take, dig_length, Nat.min_eq_left hm16] at this
    exact this.2
  have hqd : qs = dig 16 (X / Y) := Vn D.qL hql (by have := Xh D.qL; rw [hql, qv] at this; rw [qv, Int.emod_eq_of_lt this.1 this.2])
  have hud : ∀ j, j < n + 1 → us.getD j 0 = X % Y * 2 ^ s / Bs ^ j % Bs := by
    intro j hj
    have : us = dig (n + 1) (X % Y * 2 ^ s) := Vn D.uL hul (by have := Xh D.uL; rw [hul, uv] at this; rw [uv, Int.emod_eq_of_lt this.1 this.2])
    rw [this, Kt _ _ _ hj]
  have hcomm : ∀ j : Nat, X % Y * 2 ^ s / Bs ^ j / 2 ^ s = X % Y / Bs ^ j := by
    intro j
    rw [Int.ediv_ediv_of_nonneg (Int.le_of_lt (Xn j)), Int.mul_comm (Bs ^ j), ← Int.ediv_ediv_of_nonneg (Int.le_of_lt hps), Int.mul_ediv_cancel _ (by omega)]
  have w1 : IntKind.u64.wrap ((s : Nat) : Int) = s := Y0 (by omega) (by simp only [Bs]; omega)
  have w2 : IntKind.i64.wrap (64 - ((s : Nat) : Int)) = ((64 - s : Nat) : Int) := by rw [Qe (by omega) (by omega)]; omega
  have w3 : IntKind.u64.wrap ((64 - s : Nat) : Int) = ((64 - s : Nat) : Int) := Y0 (by omega) (by simp only [Bs]; omega)
  have m1 : (s ≤ 64) = True := by simp; omega
  have m2 : (64 - s ≤ 64) = True := by simp
  have w8 : IntKind.u64.bits = 64 := by decide
  rw [hqd]
  refine Jh (fun K2 hK2 => ?_)
  refine Yn (fun fr' H1 => fr' 4 = .ptr (H.length + 1 + 1) 0 ∧ fr' 5 = .ptr (H.length + 1 + 1 + 1) 0 ∧ fr' 11 = .ptr (HH.length + 1 + 1) 0 ∧ fr' 12 = .ptr (HH.length + 1 + 1 + 1) 0 ∧ HH ++ [Bk us 71] ++ [Bk vs 71] ++ [Wb (X / Y)] ++ [Wb (X % Y)] = H1) ?_ (fun fr' H1 h => hK2 _ _ ?_)
  · clear hK2
    repeat' first
      | (with_reducible first | refine Jh (fun K hK => ?_) | refine Jx ?_ | refine Jg ?_)
      | (simp only [Qb, Jo, reduceIte, J0])
      | ((with_reducible refine hK _ _ ?_); clear hK)
      | (simp only [Q9, RA, Jn, Jm, Jp, Q8, Q6, ev, ofValue, Ju, J0, J3, J2, J4, reduceCtorEq, reduceIte, Jv, Qm, Qk, Q0, aun, Qj, Jk, Ji, Jz, Jy, Jj, Qi, Jf, Q7, Q2, Js, J1, J5, Ja, J9, Jb, J6, J7, Jd, J8, RB, Jw, Je, Y6, k2, k4, k5, k7, k8, k9, k11, k12])
    refine Xi (fun c fr' H1 => ∃ (i : Nat) (rs : List Int), c = m - i ∧ i ≤ m ∧ fr' 4 = .ptr (H.length + 1 + 1) 0 ∧ fr' 5 = .ptr (H.length + 1 + 1 + 1) 0 ∧ fr' 8 = .int .i64 (s : Int) ∧ fr' 9 = .sl HH.length 0 (n + 1) (n + 1) ∧ fr' 11 = .ptr (HH.length + 1 + 1) 0 ∧ fr' 12 = .ptr (HH.length + 1 + 1 + 1) 0 ∧ fr' 94 = .int .i64 (m : Int) ∧ fr' 95 = .int .i64 (i : Int) ∧ rs.length = 16 ∧ (∀ j, j < i → rs.getD j 0 = X % Y / Bs ^ j % Bs) ∧ (∀ j, i ≤ j → rs.getD j 0 = 0) ∧ HH ++ [Bk us 71] ++ [Bk vs 71] ++ [Wb (X / Y)] ++ [Bk rs 73] = H1) (m := m)
      ⟨0, dig 16 0, by omega, by omega, k4, k5, k8, k9, k11, k12, rfl, rfl, dig_length _ _, fun j hj => by omega, fun j _ => getD_dig0 16 j, rfl⟩ ?_
    clear k2 k4 k5 k7 k8 k9 k11 k12
    rintro c fr' H1 ⟨i, rs, rfl, hi, k4, k5, k8, k9, k11, k12, k94, k95, hrl, hrs, hrz, rfl⟩
    have e1 : IntKind.i64.wrap ((i : Int) + 1) = ((i + 1 : Nat) : Int) := by rw [Qe (by omega) (by omega)]; omega
    by_cases hlt : i < m
    · have hui := D.uL.get i
      have hui1 := D.uL.get (i + 1)
      have hz0 : 0 ≤ X % Y * 2 ^ s / Bs ^ i := Int.ediv_nonneg (Int.mul_nonneg hr0 (Int.le_of_lt hps)) (Int.le_of_lt (Xn i))
      have hjn := shr_join (z := X % Y * 2 ^ s / Bs ^ i) (s := s) (by omega) hz0
      rw [hcomm, Int.ediv_ediv_of_nonneg (Int.le_of_lt (Xn i)), show Bs ^ i * Bs = Bs ^ (i + 1) from (Int.pow_succ ..).symm, ← hud i (by omega), ← hud (i + 1) (by omega)] at hjn
      have ha0 : 0 ≤ us.getD i 0 / 2 ^ s := Int.ediv_nonneg hui.1 (Int.le_of_lt hps)
      by_cases hs0 : 0 < s
      · have hor := or_low (x := us.getD (i + 1) 0) (y := us.getD i 0 / 2 ^ s) (s := 64 - s) (by omega) hui1.1 ha0 (by
          apply Int.ediv_lt_of_lt_mul hps
          rw [Int.mul_comm, Ug (by omega)]
          exact hui.2)
        rw [hjn] at hor
        have hgs : (rs.set i (us.getD i 0 / 2 ^ s)).getD i 0 = us.getD i 0 / 2 ^ s := by rw [Xs _ _ (by omega), if_pos rfl]
        repeat' first
          | (with_reducible first | refine Jh (fun K hK => ?_) | refine Jx ?_ | refine Q4 ?_ | refine Jg ?_ | refine Q1 (id := 19) [] pn150_19WdM (by kernel_rfl) (by kernel_rfl) ?_ | refine Jr ?_)
          | (with_reducible refine X4 (fun hc => ?_) (fun hc => ?_) <;> (try simp only [RC] at hc) <;> (try (exfalso; first | omega | contradiction)))
          | (simp only [Qb, Jo, reduceIte, J0])
          | ((with_reducible refine hK _ _ ?_); clear hK)
          | (simp only [Q9, RA, Jn, Jm, Jp, Q8, Q6, ev, ofValue, Ju, J0, J3, J2, J4, reduceCtorEq, reduceIte, Jv, Qm, Qk, Q0, aun, Qj, Jk, Ji, Jz, Jy, Jj, Qi, Jf, Q7, Q2, Js, J1, J5, Ja, J9, Jb, J6, J7, Jd, J8, RB, Jw, Je, Y6, k4, k5, k8, k9, k11, k12, k94, k95, e1, w1, w2, w3, m1, m2, w8, Zr, hul, hrl, hgs, hor])
          | (simp (disch := first | omega | (simp only [RO]; done) | assumption) only [RS, Xa, Xb, X9, Zz, Zx, Zy, Zw])
          | (simp (disch := (first | omega | (simp only [RO]; done) | assumption | (simp only [RM, Je]; done) | (simp only [RL, Je]; omega))) only [RD, reduceCtorEq, reduceIte, Je, J1, J3, J2, J6, Y6, k4, k5, k8, k9, k11, k12, k94, k95, e1, w1, w2, w3, m1, m2, w8, Zr, hul, hrl, hgs, hor])
        all_goals
          refine ⟨m - (i + 1), by omega, i + 1, _, rfl, by omega, rfl, by rw [List.length_set, List.length_set]; exact hrl, ?_, ?_, rfl⟩
          · intro j hj
            rw [Xs _ _ (by rw [List.length_set]; omega)]
            by_cases he : j = i
            · rw [if_pos he, he]
            · rw [if_neg he, Xs _ _ (by omega), if_neg he]; exact hrs j (by omega)
          · intro j hj
            rw [Xs _ _ (by rw [List.length_set]; omega), if_neg (by omega), Xs _ _ (by omega), if_neg (by omega)]
            exact hrz j (by omega)
      · skip
        repeat' first
          | (with_reducible first | refine Jh (fun K hK => ?_) | refine Jx ?_ | refine Q4 ?_ | refine Jg ?_ | refine Jr ?_)
          | (with_reducible refine X4 (fun hc => ?_) (fun hc => ?_) <;> (try simp only [RC] at hc) <;> (try (exfalso; first | omega | contradiction)))
          | (simp only [Qb, Jo, reduceIte, J0])
          | ((with_reducible refine hK _ _ ?_); clear hK)
          | (simp only [Q9, RA, Jn, Jm, Jp, Q8, Q6, ev, ofValue, Ju, J0, J3, J2, J4, reduceCtorEq, reduceIte, Jv, Qm, Qk, Q0, aun, Qj, Jk, Ji, Jz, Jy, Jj, Qi, Jf, Q7, Q2, Js, J1, J5, Ja, J9, Jb, J6, J7, Jd, J8, RB, Jw, Je, Y6, k4, k5, k8, k9, k11, k12, k94, k95, e1, w1, w2, w3, m1, m2, w8, Zr, hul, hrl])
          | (simp (disch := first | omega | (simp only [RO]; done) | assumption) only [RS, Xa, Xb, X9, Zz, Zx, Zy, Zw])
          | (simp (disch := (first | omega | (simp only [RO]; done) | assumption | (simp only [RM, Je]; done) | (simp only [RL, Je]; omega))) only [RD, reduceCtorEq, reduceIte, Je, J1, J3, J2, J6, Y6, k4, k5, k8, k9, k11, k12, k94, k95, e1, w1, w2, w3, m1, m2, w8, Zr, hul, hrl])
        all_goals
          refine ⟨m - (i + 1), by omega, i + 1, _, rfl, by omega, rfl, by rw [List.length_set]; exact hrl, ?_, ?_, rfl⟩
          · intro j hj
            rw [Xs _ _ (by omega)]
            by_cases he : j = i
            · rw [if_pos he, he, hud i (by omega)]
              have hs00 : s = 0 := by omega
              rw [hs00]
              simp
            · rw [if_neg he]; exact hrs j (by omega)
          · intro j hj
            rw [Xs _ _ (by omega), if_neg (by omega)]
            exact hrz j (by omega)
    · obtain rfl : i = m := by omega
      repeat' first
        | (with_reducible first | refine Jh (fun K hK => ?_) | refine Qc ?_ | refine Jg ?_ | refine Jr ?_)
        | (with_reducible refine Jc ?_ ?_)
        | (with_reducible refine X4 (fun hc => ?_) (fun hc => ?_) <;> (try simp only [RC] at hc) <;> (try (exfalso; first | omega | contradiction)))
        | (simp only [Qb, Jo, reduceIte, J0])
        | ((with_reducible refine hK _ _ ?_); clear hK)
        | (simp only [Q9, RA, Jn, Jm, Jp, Q8, Q6, ev, ofValue, Ju, J0, J3, J2, J4, reduceCtorEq, reduceIte, Jv, Qm, Qk, Q0, aun, Qj, Jk, Ji, Jz, Jy, Jj, Qi, Jf, Q7, Q2, Js, J1, J5, Ja, J9, Jb, J6, J7, Jd, J8, RB, Jw, Je, Y6, k4, k5, k8, k9, k11, k12, k94, k95])
      have hrd : rs = dig 16 (X % Y) := by
        refine dig_ext hrl fun j hj => ?_
        rcases Nat.lt_or_ge j i with h | h
        · exact hrs j h
        · rw [hrz j h]
          have hlt2 : X % Y < Bs ^ j := by
            have h1 : Bs ^ i ≤ Bs ^ j := by
              rw [show j = i + (j - i) by omega, Int.pow_add]
              have := Xn (j - i)
              have := Int.mul_le_mul_of_nonneg_left (show 1 ≤ Bs ^ (j - i) by omega) (Int.le_of_lt (Xn i))
              omega
            omega
          rw [Int.ediv_eq_zero_of_lt hr0 hlt2]
          rfl
      rw [hrd]
  clear hK2 k2 k4 k5 k7 k8 k9 k11 k12
  obtain ⟨k4, k5, k11, k12, rfl⟩ := h
  have hs5 : ∀ b c k, X3 ((HH.set (H.length + 1 + 1) b).set (H.length + 1 + 1 + 1) c) k = if k = H.length + 1 + 1 + 1 then some c else X3 (HH.set (H.length + 1 + 1) b) k := fun b c k => Qv (by rw [List.length_set]; omega) c k
  have hs4 : ∀ b k, X3 (HH.set (H.length + 1 + 1) b) k = if k = H.length + 1 + 1 then some b else X3 HH k := fun b k => Qv (by omega) b k
  have xH : Ext H HH := by rw [hHH]; exact ext6 _ _ _ _
  repeat' first
    | (with_reducible first | refine Jh (fun K hK => ?_) | refine Qd ?_ | refine Q1 (id := 21) [] pn150_21WdM (by kernel_rfl) (by kernel_rfl) ?_)
    | (with_reducible refine Jc ?_ ?_)
    | (simp only [Qb, Jo, reduceIte, J0])
    | ((with_reducible refine hK _ _ ?_); clear hK)
    | (simp only [Q9, RA, Jn, Jm, Jp, Q8, Q6, ev, ofValue, Ju, J0, J3, J2, J4, reduceCtorEq, reduceIte, Jv, Qm, Qk, Q0, aun, Qj, Jk, Ji, Jz, Jy, Jj, Qi, Jf, Q7, Q2, Js, J1, J5, Ja, J9, Jb, J6, J7, Jd, J8, RB, Jw, Je, Y6, k4, k5, k11, k12, g4, g5, hs4, hs5])
    | (simp (disch := (first | omega | (simp only [RO]; done) | assumption | (simp only [RM, Je]; done) | (simp only [RL, Je]; omega))) only [RD, reduceCtorEq, reduceIte, Je, J1, J3, J2, J6, Y6, k4, k5, k11, k12, g4, g5, hs4, hs5])
  all_goals
    (
     (refine Qg (rs := [.cell 4 73, .cell 5 73]) rfl ?_)
     (simp only [X5, Qf, Fr.put_some, Fr.put_none, Qp, Qq, Qt, J0, reduceIte, k4, k5, hs4, hs5])
     (try simp (disch := (first | omega | (simp only [RO]; done) | assumption | (simp only [RM, Je]; done) | (simp only [RL, Je]; omega))) only [RD, reduceCtorEq, reduceIte, Je, J1, J3, J2, J6, Y6, k4, k5, hs4, hs5]))
  all_goals exact ⟨((((xH.set (by omega) _).set (by omega) _).pushed _).pushed _ |>.pushed _).pushed _, W_tup2_lt _ _ _⟩
end Go.Proofs.YtigddjlhncnnoaaGreatDoor
namespace Go.Proofs.YtigddjlhncnnoaaGreatDoor
open Go.AL Go.PW
theorem Ga : type_of% (Jc @Zh (Jc @Xc (Jc @Y9 (@Y8)))) := Jc @Zh (Jc @Xc (Jc @Y9 (@Y8)))
abbrev pn124_3WdN : Plan := (.one 0 (.pur 1 (.one 2 (.pur 3 (.pur 4 (.one 5 (.one 6 (.one 7 (.alt 8 (.one 9 (.one 10 (.one 11 .nil))) (.one 9 (.one 8 (.one 10 (.one 11 .nil)))))))))))))
abbrev pn124_4WdN : Plan := (.one 1 (.pur 2 (.one 3 (.pur 4 (.one 0 (.one 5 (.pur 6 (.one 7 (.one 8 (.one 9 (.one 10 (.one 11 (.one 12 .nil)))))))))))))
abbrev pn124_9WdN : Plan := (.one 0 (.alt 1 (.one 2 (.one 3 (.one 4 .nil))) (.one 2 (.one 1 (.one 3 (.one 4 .nil))))))
set_option maxRecDepth 8000
theorem W_tup3_lt (n : Nat) (x y : Int) (b : Bool) : AV.lt n (.tup [W x, W y, .bool b]) := by
  have h1 := W_lt n x
  have h2 := W_lt n y
  simp only [AV.lt, AV.lts] at h1 h2 ⊢
  exact ⟨h1, h2, trivial, trivial⟩
theorem tdiv_abs (a b X Y : Int) (hX : X = a.natAbs) (hY : Y = b.natAbs) : a.tdiv b = (if decide (a < 0) == decide (b < 0) then X / Y else -(X / Y)) ∧ a.tmod b = if a < 0 then -(X % Y) else X % Y := by
  have n1 : 0 ≤ X := by omega
  have n2 : 0 ≤ Y := by omega
  by_cases sa : a < 0 <;> by_cases sb : b < 0
  · have ha : a = -X := by omega
    have hb : b = -Y := by omega
    simp only [sa, sb, decide_true, beq_self_eq_true, if_true]
    rw [ha, hb, Int.neg_tdiv, Int.tdiv_neg, Int.neg_neg, Int.neg_tmod, Int.tmod_neg, Int.tdiv_eq_ediv_of_nonneg n1, Int.tmod_eq_emod_of_nonneg n1]
    exact ⟨rfl, rfl⟩
  · have ha : a = -X := by omega
    have hb : b = Y := by omega
    have e : (decide (a < 0) == decide (b < 0)) = false := by simp [sa, sb]
    rw [e]
    simp only [sa, if_true, Bool.false_eq_true, if_false]
    rw [ha, hb, Int.neg_tdiv, Int.neg_tmod, Int.tdiv_eq_ediv_of_nonneg n1, Int.tmod_eq_emod_of_nonneg n1]
    exact ⟨rfl, rfl⟩
  · have ha : a = X := by omega
    have hb : b = -Y := by omega
    have e : (decide (a < 0) == decide (b < 0)) = false := by simp [sa, sb]
    rw [e]
    simp only [sa, Bool.false_eq_true, if_false]
    rw [ha, hb, Int.tdiv_neg, Int.tmod_neg, Int.tdiv_eq_ediv_of_nonneg n1, Int.tmod_eq_emod_of_nonneg n1]
    exact ⟨rfl, rfl⟩
  · have ha : a = X := by omega
    have hb : b = Y := by omega
    simp only [sa, sb, decide_false, beq_self_eq_true, if_true, if_false]
    rw [ha, hb, Int.tdiv_eq_ediv_of_nonneg n1, Int.tmod_eq_emod_of_nonneg n1]
    exact ⟨rfl, rfl⟩
theorem signed_any (x : Int) (p : Bool) (H : Hp) (h0 : 0 ≤ x) (h : In (if p then -x else x)) : ACalls Tryz.prog 134 [W x, .bool p] H fun r H' => r = .tup [W (if p then -x else x), .bool true] ∧ H = H' := by
  cases p
  · exact signed_plus x H h0 h.2
  · exact J11 x H h0 (by have := h.1; simp only [if_true] at this; omega)
set_option maxHeartbeats 2000000 in
theorem div_calls (a b : Int) (H : Hp) (ha : In a) (hb : In b) (hb0 : b ≠ 0) (hq : In (a.tdiv b)) : ACalls Tryz.prog 124 [W a, W b] H fun r H' => r = .tup [W (a.tdiv b), W (a.tmod b), .bool true] ∧ H = H' := by
  refine ACalls.drop (R := fun r => r = .tup [W (a.tdiv b), W (a.tmod b), .bool true]) ?_
  obtain ⟨X, hX⟩ : ∃ X : Int, X = a.natAbs := ⟨_, rfl⟩
  obtain ⟨Y, hY⟩ : ∃ Y : Int, Y = b.natAbs := ⟨_, rfl⟩
  have hM2 := M_two
  have hXM : 0 ≤ X ∧ X < M := by have := ha.1; have := ha.2; have := Mh_pos; omega
  have hYM : 0 < Y ∧ Y < M := by have := hb.1; have := hb.2; have := Mh_pos; omega
  obtain ⟨t1, t2⟩ := tdiv_abs a b X Y hX hY
  have hz := nought_iff hb
  have hz2 : decide (b = 0) = false := by simp [hb0]
  rw [hz2] at hz
  have hq0 : 0 ≤ X / Y := Int.ediv_nonneg hXM.1 (by omega)
  have hna := W6 ha
  have hnb := W6 hb
  have hsg := fun H0 => signed_any (X / Y) (!(decide (a < 0) == decide (b < 0))) H0 hq0 (by
    rw [t1] at hq
    cases h : (decide (a < 0) == decide (b < 0)) <;> rw [h] at hq <;> simpa using hq)
  have e1 : (if (!(decide (a < 0) == decide (b < 0))) = true then -(X / Y) else X / Y) = a.tdiv b := by
    rw [t1]
    cases h : (decide (a < 0) == decide (b < 0)) <;> rfl
  rw [e1] at hsg
  refine Qo Tryz.func124 rfl (by kernel_rfl) (by kernel_rfl) ?_
  refine Jh (fun K hQ => ?_)
  repeat' first
    | (with_reducible first | refine Jh (fun K hK => ?_) | refine Q4 ?_ | refine Jg ?_ | refine Jr ?_)
    | (simp only [Qb, Jo, reduceIte, J0])
    | ((with_reducible refine hK _ _ ?_); clear hK)
    | (simp only [Q9, RA, Jn, Jm, Jp, Q8, Q6, ev, ofValue, Ju, J0, J3, J2, J4, reduceCtorEq, reduceIte, Jv, Qm, Qk, Q0, aun, Qj, Jk, Ji, Jz, Jy, Jj, Qi, Jf, Q7, Q2, Js, J1, J5, Ja, J9, Jb, J6, J7, Jd, J8, RB, Jw, Je, Ga, hz, W_eq])
    | (simp (disch := (first | omega | (simp only [RO]; done) | assumption | (simp only [RM, Je]; done) | (simp only [RL, Je]; omega))) only [RD, reduceCtorEq, reduceIte, Je, J1, J3, J2, J6, Ga, hz, W_eq])
  refine hQ _ _ ?_
  clear hQ
  refine Jh (fun K hQ => ?_)
  repeat' first
    | (with_reducible first | refine Jh (fun K hK => ?_) | refine Q4 ?_ | refine Jg ?_ | refine Jr ?_)
    | (simp only [Qb, Jo, reduceIte, J0])
    | ((with_reducible refine hK _ _ ?_); clear hK)
    | (simp only [Q9, RA, Jn, Jm, Jp, Q8, Q6, ev, ofValue, Ju, J0, J3, J2, J4, reduceCtorEq, reduceIte, Jv, Qm, Qk, Q0, aun, Qj, Jk, Ji, Jz, Jy, Jj, Qi, Jf, Q7, Q2, Js, J1, J5, Ja, J9, Jb, J6, J7, Jd, J8, RB, Jw, Je, Ga, hz, W_eq])
    | (simp (disch := (first | omega | (simp only [RO]; done) | assumption | (simp only [RM, Je]; done) | (simp only [RL, Je]; omega))) only [RD, reduceCtorEq, reduceIte, Je, J1, J3, J2, J6, Ga, hz, W_eq])
  refine hQ _ _ ?_
  clear hQ
  refine Jh (fun K2 hK2 => ?_)
  refine Yn (fun fr' H1 => ∃ h2 h3 h4 h5 h7 h8, P1 H H1 (fr' 2) h2 (Wb a) ∧ P1 H H1 (fr' 3) h3 (Wb b) ∧ P1 H H1 (fr' 4) h4 (Wb 0) ∧ P1 H H1 (fr' 5) h5 (Wb 0) ∧ P1 H H1 (fr' 7) h7 (Wb (X / Y)) ∧ P1 H H1 (fr' 8) h8 (Wb (X % Y)) ∧ Ext H H1 ∧ h4 ≠ h5 ∧ h4 ≠ h8 ∧ h5 ≠ h8 ∧ h7 ≠ h8) ?_ (fun fr' H' h => hK2 _ _ ?_)
  · clear hK2
    repeat' first
      | (with_reducible first | refine Q1 (id := 3) [] pn124_3WdN (by kernel_rfl) (by kernel_rfl) ?_ | refine X8 ?_)
      | (with_reducible refine Xd (fun _ x => (amount_calls _ _ ha)) ?_)
      | (with_reducible refine Xd (fun _ x => (amount_calls _ _ hb)) ?_)
      | (with_reducible refine Xd (fun _ x => (divide_calls _ _ _ hXM hYM)) ?_)
      | (with_reducible refine Jc ?_ ?_)
      | (simp only [Qb, Jo, reduceIte, J0])
      | (simp only [Q9, RA, Jn, Jm, Jp, Q8, Q6, ev, ofValue, Ju, J0, J3, J2, J4, reduceCtorEq, reduceIte, Jv, Qm, Qk, Q0, aun, Qj, Jk, Ji, Jz, Jy, Jj, Qi, Jf, Q7, Q2, Js, J1, J5, Ja, J9, Jb, J6, J7, Jd, J8, RB, Jw, Je, Ga, ← hX, ← hY])
      | (simp (disch := (first | omega | (simp only [RO]; done) | assumption | (simp only [RM, Je]; done) | (simp only [RL, Je]; omega))) only [RD, reduceCtorEq, reduceIte, Je, J1, J3, J2, J6, Ga, ← hX, ← hY])
    all_goals
      refine ⟨H.length, H.length + 1, H.length + 1 + 1, H.length + 1 + 1 + 1, _, _, ⟨rfl, ?_, ?_⟩, ⟨rfl, ?_, ?_⟩, ⟨rfl, ?_, ?_⟩, ⟨rfl, ?_, ?_⟩, ⟨rfl, ?_, ?_⟩, ⟨rfl, ?_, ?_⟩, (ext7 _ _ _ _ _).pushed _, ?_, ?_, ?_, ?_⟩
    all_goals first
      | omega
      | (simp only [RL]; done) | (simp only [RL]; omega)
      | (simp (disch := first | omega | (simp only [RL]; done) | (simp only [RL]; omega)) only [X7, Qw]; done)
      | fail
  clear hK2
  obtain ⟨h2, h3, h4, h5, h7, h8, p2, p3, p4, p5, p7, p8, x1, n45, n48, n58, n78⟩ := h
  have q2 := p2.hi
  have q3 := p3.hi
  have q4 := p4.hi
  have q5 := p5.hi
  have q7 := p7.hi
  have q8 := p8.hi
  repeat' first
    | (with_reducible first | refine Jh (fun K hK => ?_) | refine Q4 ?_ | refine Qd ?_ | refine Jg ?_ | refine Q1 (id := 4) [] pn124_4WdN (by kernel_rfl) (by kernel_rfl) ?_ | refine Q1 (id := 9) [] pn124_9WdN (by kernel_rfl) (by kernel_rfl) ?_ | refine Jr ?_ | refine X8 ?_)
    | (with_reducible refine Xd (fun _ x => (below_calls _ _)) ?_)
    | (with_reducible refine Xd (fun _ x => (hsg _)) ?_)
    | ((with_reducible refine Q5 (below_calls _ _) ?_); rintro _ _ ⟨rfl, rfl⟩)
    | ((with_reducible refine Q5 (neg_calls _ _) ?_); rintro _ _ ⟨rfl, rfl⟩)
    | (with_reducible refine Jc ?_ ?_)
    | (with_reducible refine X4 (fun hc => ?_) (fun hc => ?_) <;> (try simp only [RC] at hc) <;> (try (exfalso; first | omega | contradiction)))
    | (simp only [Qb, Jo, reduceIte, J0])
    | ((with_reducible refine hK _ _ ?_); clear hK)
    | (simp only [Q9, RA, Jn, Jm, Jp, Q8, Q6, ev, ofValue, Ju, J0, J3, J2, J4, reduceCtorEq, reduceIte, Jv, Qm, Qk, Q0, aun, Qj, Jk, Ji, Jz, Jy, Jj, Qi, Jf, Q7, Q2, Js, J1, J5, Ja, J9, Jb, J6, J7, Jd, J8, RB, Jw, Je, Ga, p2.eq, p3.eq, p4.eq, p5.eq, p7.eq, p8.eq, p2.get, p3.get, p4.get, p5.get, p7.get, p8.get, hna, hnb, Qv])
    | (simp (disch := (first | omega | (simp only [RO]; done) | assumption | (simp only [RM, Je]; done) | (simp only [RL, Je]; omega))) only [RD, reduceCtorEq, reduceIte, Je, J1, J3, J2, J6, Ga, p2.eq, p3.eq, p4.eq, p5.eq, p7.eq, p8.eq, p2.get, p3.get, p4.get, p5.get, p7.get, p8.get, hna, hnb, Qv])
  all_goals
    (
     (refine Qg (rs := [.cell 4 73, .cell 5 73, .tmp 6]) rfl ?_)
     (simp only [X5, Qf, Fr.put_some, Fr.put_none, Qp, Qq, Qt, J0, reduceIte, p4.eq, p5.eq, Qv])
     (try simp (disch := (first | omega | (simp only [RO]; done) | assumption | (simp only [RM, Je]; done) | (simp only [RL, Je]; omega))) only [RD, reduceCtorEq, reduceIte, Je, J1, J3, J2, J6, Ga, p4.eq, p5.eq, Qv]))
  all_goals first
    | (rw [t2, if_pos (by assumption)]
       exact ⟨(((x1.set p8.lo _).set p4.lo _).set p5.lo _).pushed _, W_tup3_lt _ _ _ _, rfl⟩)
    | (rw [t2, if_neg (by assumption)]
       exact ⟨((x1.set p4.lo _).set p5.lo _).pushed _, W_tup3_lt _ _ _ _, rfl⟩)
end Go.Proofs.YtigddjlhncnnoaaGreatDoor
namespace Go.Proofs.YtigddjlhncnnoaaGreatDoor
open Go.RowKit Go.Extern.Stop Go.Stop Go.Extern
theorem rf_valueOfP (t : Addr) (w : World) : (ReflectliteValue.unpack (.iface 173 (.pointer (some t)))).run Tryz.prog w
    = .ok (.agg #[.pointer (some ⟨3, 173, none⟩), .pointer (some ⟨w.heap.size, 0, none⟩), .int .u64 150]) (w.alloc (.cells #[.pointer (some t)] 173)) := by kernel_rfl
theorem rf_typeP (a : Addr) (w : World) : (ReflectliteValue.methodAny (ReflectliteValue.valueError "reflectlite.Value.Type" 0) (fun t _ _ _ => ReflectliteType.toType t) #[.agg #[.pointer (some ⟨3, 173, none⟩), .pointer (some a), .int .u64 150]]).run Tryz.prog w
    = .ok (.iface 230 (.agg #[.pointer (some ⟨3, 173, none⟩)])) w := by kernel_rfl
theorem rf_methodKind (h : Value) (w : World) : (Go.method 378 230 (.agg #[h]) "Kind").run Tryz.prog w = .ok (184, h) w := by kernel_rfl
theorem rf_kindP (w : World) : ((ReflectliteType.abiMethod fun t => (fun a : Nat => Value.int IntKind.u8 (a : Int)) <$> Rtype.kind t) #[.pointer (some ⟨3, 173, none⟩)]).run Tryz.prog w = .ok (.int .u8 22) w := by kernel_rfl
theorem rf_kindE (w : World) : ((ReflectliteType.abiMethod fun t => (fun a : Nat => Value.int IntKind.u8 (a : Int)) <$> Rtype.kind t) #[.pointer (some ⟨3, 114, none⟩)]).run Tryz.prog w = .ok (.int .u8 2) w := by kernel_rfl
theorem rf_rlm (z : Sem Value) (f : TypeId → Addr → Nat → Nat → Sem Value) (v : Value) :
    ReflectliteValue.method z f #[v] = (do match ← ReflectliteValue.parts v with | none => z | some (t, a, fl) => f t a fl (fl % 32)) := rfl
theorem rf_partsP (a : Addr) (w : World) : (ReflectliteValue.parts (.agg #[.pointer (some ⟨3, 173, none⟩), .pointer (some a), .int .u64 150])).run Tryz.prog w = .ok (some (173, a, 150)) w := by kernel_rfl
theorem rf_isNilP (a p : Addr) (W : World) (ha : W.cell? a = some (.pointer (some p))) :
    (ReflectliteValue.method (ReflectliteValue.valueError "reflectlite.Value.IsNil" 0) ReflectliteValue.isNil #[.agg #[.pointer (some ⟨3, 173, none⟩), .pointer (some a), .int .u64 150]]).run Tryz.prog W = .ok (.bool false) W := by
  rw [rf_rlm]
  simp only [Sem.run_bind, rf_partsP, Result.andThen]
  simp [ReflectliteValue.isNil, loadVar, isAgg, underlying, Tryz.underlying173, ha, Result.andThen]
theorem rf_methodElem (h : Value) (w : World) : (Go.method 378 230 (.agg #[h]) "Elem").run Tryz.prog w = .ok (196, .agg #[h]) w := by kernel_rfl
theorem rf_methodImplements (h : Value) (w : World) : (Go.method 378 230 (.agg #[h]) "Implements").run Tryz.prog w = .ok (197, .agg #[h]) w := by kernel_rfl
theorem rf_methodAssignableTo (h : Value) (w : World) : (Go.method 378 230 (.agg #[h]) "AssignableTo").run Tryz.prog w = .ok (194, .agg #[h]) w := by kernel_rfl
theorem rf_elemP (w : World) : (ReflectliteType.method ReflectliteType.elem #[.agg #[.pointer (some ⟨3, 173, none⟩)]]).run Tryz.prog w = .ok (.iface 230 (.agg #[.pointer (some ⟨3, 114, none⟩)])) w := by kernel_rfl
theorem rf_implementsE (w : World) : (ReflectliteType.relation "Implements" ReflectliteType.implements_ #[.agg #[.pointer (some ⟨3, 114, none⟩)], .iface 230 (.agg #[.pointer (some ⟨3, 31, none⟩)])]).run Tryz.prog w = .ok (.bool true) w := by kernel_rfl
theorem rf_typeOfE (v : Value) (w : World) : (ReflectliteType.typeOf #[.iface 114 v]).run Tryz.prog w = .ok (.iface 230 (.agg #[.pointer (some ⟨3, 114, none⟩)])) w := by kernel_rfl
theorem rf_typeOfF (v : Value) (w : World) : (ReflectliteType.typeOf #[.iface 193 v]).run Tryz.prog w = .ok (.iface 230 (.agg #[.pointer (some ⟨3, 193, none⟩)])) w := by kernel_rfl
theorem rf_assignableE (w : World) : (ReflectliteType.relation "AssignableTo" ReflectliteType.assignableTo #[.agg #[.pointer (some ⟨3, 114, none⟩)], .iface 230 (.agg #[.pointer (some ⟨3, 114, none⟩)])]).run Tryz.prog w = .ok (.bool true) w := by kernel_rfl
theorem rf_assignableF (w : World) : (ReflectliteType.relation "AssignableTo" ReflectliteType.assignableTo #[.agg #[.pointer (some ⟨3, 193, none⟩)], .iface 230 (.agg #[.pointer (some ⟨3, 114, none⟩)])]).run Tryz.prog w = .ok (.bool false) w := by kernel_rfl
theorem rf_valueOfE (n : Int) (w : World) : (ReflectliteValue.unpack (.iface 114 (.int .i64 n))).run Tryz.prog w
    = .ok (.agg #[.pointer (some ⟨3, 114, none⟩), .pointer (some ⟨w.heap.size, 0, none⟩), .int .u64 130]) (w.alloc (.cells #[.int .i64 n] 114)) := by kernel_rfl
theorem rf_elemOfP (w : World) : (Rtype.elem? 173).run Tryz.prog w = .ok (some 114) w := by kernel_rfl
theorem rf_mkE (p : Addr) (w : World) : (ReflectliteValue.mk 114 p ReflectliteValue.flagAddr).run Tryz.prog w = .ok (.agg #[.pointer (some ⟨3, 114, none⟩), .pointer (some p), .int .u64 386]) w := by kernel_rfl
theorem rf_elemVP (a p : Addr) (W : World) (ha : W.cell? a = some (.pointer (some p))) :
    (ReflectliteValue.method (ReflectliteValue.valueError "reflectlite.Value.Elem" 0) ReflectliteValue.elem #[.agg #[.pointer (some ⟨3, 173, none⟩), .pointer (some a), .int .u64 150]]).run Tryz.prog W
      = .ok (.agg #[.pointer (some ⟨3, 114, none⟩), .pointer (some p), .int .u64 386]) W := by
  rw [rf_rlm]
  simp only [Sem.run_bind, rf_partsP, Result.andThen]
  simp [ReflectliteValue.elem, loadVar, isAgg, underlying, Tryz.underlying173, ha, Result.andThen, rf_elemOfP, rf_mkE]
theorem rf_rls (v x : Value) : ReflectliteValue.set #[v, x] = (do
    let (some (dst, a, fl), some (src, b, _)) := (← ReflectliteValue.parts v, ← ReflectliteValue.parts x)
      | unsupported (.noEntry "extern/(internal/reflectlite.Value).Set.zeroValue")
    if fl / ReflectliteValue.flagAddr % 2 == 0 then unsupported (.noEntry "extern/(internal/reflectlite.Value).Set.unaddressable")
    let val ← loadVar src b
    if ← Rtype.directlyAssignable dst src then storeVar dst a val
    else if ← Rtype.implements dst src then
      if (← Rtype.kind src) == 20 then
        match val with
        | .nilIface => unsupported (.noEntry "extern/reflectlite: a nil value of one interface type handed on as a value of another")
        | _ => storeVar dst a val
      else storeVar dst a (.iface src val)
    else panicString ("reflectlite.Set: value of type " ++ (← Rtype.spelt src) ++ " is not assignable to type " ++ (← Rtype.spelt dst))
    pure (.tuple #[])) := rfl
theorem rf_partsEa (a : Addr) (w : World) : (ReflectliteValue.parts (.agg #[.pointer (some ⟨3, 114, none⟩), .pointer (some a), .int .u64 386])).run Tryz.prog w = .ok (some (114, a, 386)) w := by kernel_rfl
theorem rf_partsE (a : Addr) (w : World) : (ReflectliteValue.parts (.agg #[.pointer (some ⟨3, 114, none⟩), .pointer (some a), .int .u64 130])).run Tryz.prog w = .ok (some (114, a, 130)) w := by kernel_rfl
theorem rf_directE (w : World) : (Rtype.directlyAssignable 114 114).run Tryz.prog w = .ok true w := by kernel_rfl
theorem rf_setE (ta b : Addr) (n : Int) (old : Value) (W : World) (hb : W.cell? b = some (.int .i64 n)) (ht : W.cell? ta = some old) (hf : W.frozen? ta = false) :
    (ReflectliteValue.set #[.agg #[.pointer (some ⟨3, 114, none⟩), .pointer (some ta), .int .u64 386], .agg #[.pointer (some ⟨3, 114, none⟩), .pointer (some b), .int .u64 130]]).run Tryz.prog W
      = .ok (.tuple #[]) (W.setCell ta (.int .i64 n)) := by
  rw [rf_rls]
  simp only [Sem.run_bind, rf_partsEa, rf_partsE, Result.andThen]
  simp [ReflectliteValue.flagAddr, loadVar, isAgg, underlying, Tryz.underlying114, hb, Result.andThen, rf_directE, storeVar, Value.cells, storeCells, Addr.add]
  rw [run_store Tryz.prog W ta _ _ (by rfl)]
  simp [ht, hf]
end Go.Proofs.YtigddjlhncnnoaaGreatDoor
namespace Go.Proofs.YtigddjlhncnnoaaGreatDoor
open Go.RowKit Go.Extern.Stop Go.Stop Go.Extern
theorem ta_noAs (v : Value) (xT : TypeId) (w : World) : (Instr.typeAssert (.iface 193 v) xT 234 true).run Tryz.prog w = .ok (.tuple #[.nilIface, .bool false]) w := run_typeAssert_lacksB Tryz.underlying234 (by kernel_rfl) (by kernel_rfl) v xT w
theorem ta_hasUnwrap (v : Value) (xT : TypeId) (w : World) : (Instr.typeAssert (.iface 193 v) xT 237 true).run Tryz.prog w = .ok (.tuple #[.iface 193 v, .bool true]) w := run_typeAssert_hasB Tryz.underlying237 (by kernel_rfl) v xT w
theorem rf_methodUnwrap (h : Value) (w : World) : (Go.method 378 193 h "Unwrap").run Tryz.prog w = .ok (189, h) w := by kernel_rfl
theorem unwrap_hit (y : Addr) (x : Value) (w : World) (hx : w.cell? (y.add 1) = some x) : Calls Tryz.prog 189 #[.pointer (some y)] w fun ev w' => ev = .returned x ∧ w' = w := by
  have hx' : w.cell? ⟨y.block, y.off + 1, none⟩ = some x := by simpa [Addr.add] using hx
  go_enter Tryz.func189, Tryz.ntmps189
  go_wp2
  go_ret
  exact ⟨rfl, rfl⟩
set_option maxRecDepth 20000 in
set_option maxHeartbeats 8000000 in
theorem as_two (y : Addr) (n : Int) (t : Addr) (old : Value) (w : World) (hg : w.cell? ⟨0, 0, none⟩ = some (.iface 230 (.agg #[.pointer (some ⟨3, 31, none⟩)]))) (hf1 : w.cell? (y.add 1) = some (.iface 114 (.int .i64 n))) (ht0 : w.cell? t = some old) (hf0 : w.frozen? t = false) :
    Calls Tryz.prog 117 #[.iface 193 (.pointer (some y)), .iface 173 (.pointer (some t))] w fun ev w' => ev = .returned (.bool true) ∧ w' = ((((w.alloc (.cells #[.pointer (some t)] 173)).alloc (.cells #[.pointer (some ⟨3, 173, none⟩), .pointer (some ⟨w.heap.size, 0, none⟩), .int .u64 150] 205)).alloc (.cells #[.pointer (some ⟨3, 173, none⟩), .pointer (some ⟨w.heap.size, 0, none⟩), .int .u64 150] 205)).alloc (.cells #[.int .i64 n] 114)).setCell t (.int .i64 n) := by
  have h6 := @run_callFunc_extern Tryz.prog 141 _ (fun args => ReflectliteValue.unpack (args.getD 0 (.tuple #[]))) Tryz.func141 (by kernel_rfl) (by kernel_rfl) (by kernel_rfl) (by kernel_rfl)
  have h7 := @run_callFunc_extern Tryz.prog 142 _ (ReflectliteValue.methodAny (ReflectliteValue.valueError "reflectlite.Value.Type" 0) (fun t _ _ _ => ReflectliteType.toType t)) Tryz.func142 (by kernel_rfl) (by kernel_rfl) (by kernel_rfl) (by kernel_rfl)
  have h8 := @run_callFunc_extern Tryz.prog 143 _ (ReflectliteValue.method (ReflectliteValue.valueError "reflectlite.Value.IsNil" 0) ReflectliteValue.isNil) Tryz.func143 (by kernel_rfl) (by kernel_rfl) (by kernel_rfl) (by kernel_rfl)
  have h27 := @run_callFunc_extern Tryz.prog 184 _ (ReflectliteType.abiMethod fun t => do pure (.int .u8 (← Rtype.kind t))) Tryz.func184 (by kernel_rfl) (by kernel_rfl) (by kernel_rfl) (by kernel_rfl)
  have h37 := @run_callFunc_extern Tryz.prog 196 _ (ReflectliteType.method ReflectliteType.elem) Tryz.func196 (by kernel_rfl) (by kernel_rfl) (by kernel_rfl) (by kernel_rfl)
  have h38 := @run_callFunc_extern Tryz.prog 197 _ (ReflectliteType.relation "Implements" ReflectliteType.implements_) Tryz.func197 (by kernel_rfl) (by kernel_rfl) (by kernel_rfl) (by kernel_rfl)
  have h10 := @run_callFunc_extern Tryz.prog 151 _ ReflectliteType.typeOf Tryz.func151 (by kernel_rfl) (by kernel_rfl) (by kernel_rfl) (by kernel_rfl)
  have h35 := @run_callFunc_extern Tryz.prog 194 _ (ReflectliteType.relation "AssignableTo" ReflectliteType.assignableTo) Tryz.func194 (by kernel_rfl) (by kernel_rfl) (by kernel_rfl) (by kernel_rfl)
  have h11 := @run_callFunc_extern Tryz.prog 158 _ (ReflectliteValue.method (ReflectliteValue.valueError "reflectlite.Value.Elem" 0) ReflectliteValue.elem) Tryz.func158 (by kernel_rfl) (by kernel_rfl) (by kernel_rfl) (by kernel_rfl)
  have h12 := @run_callFunc_extern Tryz.prog 159 _ ReflectliteValue.set Tryz.func159 (by kernel_rfl) (by kernel_rfl) (by kernel_rfl) (by kernel_rfl)
  have tO := rf_typeOfE
  have tF := rf_typeOfF
  have mA := rf_methodAssignableTo
  have aE := rf_assignableE
  have aF := rf_assignableF
  have vE := rf_valueOfE n
  have f6 := rf_valueOfP
  have f7 := rf_typeP
  have mK := rf_methodKind
  have mE := rf_methodElem
  have mI := rf_methodImplements
  have kP := rf_kindP
  have kE := rf_kindE
  have eP := rf_elemP
  have iE := rf_implementsE
  have nA := ta_noAs
  have hU := ta_hasUnwrap
  have mU := rf_methodUnwrap
  obtain ⟨w1, hw1⟩ : ∃ w1, w1 = w.alloc (.cells #[.pointer (some t)] 173) := ⟨_, rfl⟩
  have n8 := rf_isNilP ⟨w.heap.size, 0, none⟩ t ((w.alloc (.cells #[.pointer (some t)] 173)).alloc (.cells #[.pointer (some ⟨3, 173, none⟩), .pointer (some ⟨w.heap.size, 0, none⟩), .int .u64 150] 205)) (by simp)
  have hlt : 0 < w.heap.size := by
    rcases Nat.eq_zero_or_pos w.heap.size with h0 | h
    · simp [World.cell?, h0] at hg
    · exact h
  have hg2 : ((w.alloc (.cells #[.pointer (some t)] 173)).alloc (.cells #[.pointer (some ⟨3, 173, none⟩), .pointer (some ⟨w.heap.size, 0, none⟩), .int .u64 150] 205)).cell? ⟨0, 0, none⟩ = some (.iface 230 (.agg #[.pointer (some ⟨3, 31, none⟩)])) := by
    rw [World.cell?_alloc_lt _ _ ⟨0, 0, none⟩ (by simp), World.cell?_alloc_lt _ _ ⟨0, 0, none⟩ hlt]; exact hg
  have htl : t.block < w.heap.size := by
    rcases Nat.lt_or_ge t.block w.heap.size with h | h
    · exact h
    · simp [World.cell?, Array.getElem?_eq_none h] at ht0
  have hgl : (y.add 1).block < w.heap.size := World.block_lt_of_cell? w _ hf1
  have un := unwrap_hit y (.iface 114 (.int .i64 n)) (((w.alloc (.cells #[.pointer (some t)] 173)).alloc (.cells #[.pointer (some ⟨3, 173, none⟩), .pointer (some ⟨w.heap.size, 0, none⟩), .int .u64 150] 205)).alloc (.cells #[.pointer (some ⟨3, 173, none⟩), .pointer (some ⟨w.heap.size, 0, none⟩), .int .u64 150] 205)) (by rw [World.cell?_alloc_lt _ _ (y.add 1) (by simp; omega), World.cell?_alloc_lt _ _ (y.add 1) (by simp; omega), World.cell?_alloc_lt _ _ (y.add 1) hgl]; exact hf1)
  have el := rf_elemVP ⟨w.heap.size, 0, none⟩ t (((w.alloc (.cells #[.pointer (some t)] 173)).alloc (.cells #[.pointer (some ⟨3, 173, none⟩), .pointer (some ⟨w.heap.size, 0, none⟩), .int .u64 150] 205)).alloc (.cells #[.pointer (some ⟨3, 173, none⟩), .pointer (some ⟨w.heap.size, 0, none⟩), .int .u64 150] 205)) (by rw [World.cell?_alloc_lt _ _ ⟨w.heap.size, 0, none⟩ (by simp; omega)]; simp)
  have st := rf_setE t ⟨w.heap.size + 1 + 1 + 1, 0, none⟩ n old ((((w.alloc (.cells #[.pointer (some t)] 173)).alloc (.cells #[.pointer (some ⟨3, 173, none⟩), .pointer (some ⟨w.heap.size, 0, none⟩), .int .u64 150] 205)).alloc (.cells #[.pointer (some ⟨3, 173, none⟩), .pointer (some ⟨w.heap.size, 0, none⟩), .int .u64 150] 205)).alloc (.cells #[.int .i64 n] 114))
    (by rw [World.cell?_alloc_at _ _ _ _ (by simp)]; rfl)
    (by rw [World.cell?_alloc_lt _ _ t (by simp; omega), World.cell?_alloc_lt _ _ t (by simp; omega), World.cell?_alloc_lt _ _ t (by simp; omega), World.cell?_alloc_lt _ _ t htl]; exact ht0)
    (by rw [World.frozen?_alloc_old _ _ t (by simp; omega), World.frozen?_alloc_old _ _ t (by simp; omega), World.frozen?_alloc_old _ _ t (by simp; omega), World.frozen?_alloc_old _ _ t (Nat.ne_of_lt htl)]; exact hf0)
  clear hw1
  go_enter Tryz.func117, Tryz.ntmps117
  go_wp2
  refine wp_loop_rounds 2 ?_
  rw [rounds_succ]
  go_wp2_with (first | (go_at_call 189; refine un.mono ?_; rintro e w' ⟨rfl, rfl⟩))
  rw [rounds_succ]
  go_wp2
  go_ret
  exact ⟨rfl, rfl⟩
end Go.Proofs.YtigddjlhncnnoaaGreatDoor

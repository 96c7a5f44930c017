/- Part 7 of the proof of the law CirclesMeet: lemmas on the model's code, on this program's functions, on numbers. No condition. -/
import Derived.Test.YtigddjlhncnnoaaGreatDoorZCirclesMeetaf
set_option linter.unusedVariables false
set_option linter.unusedSimpArgs false
open Nat renaming reduceEqDiff → J0, reduceLeDiff → J1, reduceMul → J2, reduceAdd → J3, reduceSub → J4, reduceLT → J5
open Int renaming reduceToNat → J6, reducePow → J7, reduceNeg → J8, reduceLT → J9, reduceLE → Ja, reduceEq → Jb
open And renaming intro → Jc
open Go.IntKind renaming bits → Jd
open Go.PW renaming dig_length → Je
namespace Go.Proofs.YtigddjlhncnnoaaGreatDoor
open Go.AL Go.PW Go.PD Go.PR
theorem Nw : type_of% (Jc @Zg (Jc @Zh (Jc @Uz (Jc @Uy (Jc @Z1 (Jc @Zq (Jc @Zp (@Xc)))))))) := Jc @Zg (Jc @Zh (Jc @Uz (Jc @Uy (Jc @Z1 (Jc @Zq (Jc @Zp (@Xc)))))))
abbrev pn65_2ZcG : Plan := (.one 0 (.one 1 (.one 7 (.pur 2 (.one 3 (.one 4 (.pur 5 (.pur 6 (.one 8 (.pur 9 (.one 10 (.one 11 (.pur 12 (.pur 13 (.alt 14 (.one 15 (.one 16 (.one 17 .nil))) (.one 15 (.one 14 (.one 16 (.one 17 .nil)))))))))))))))))))
set_option maxRecDepth 8000
def fromB (px py X Y D : Int) : Bool := Y7 (px + rnd X (2 * D)) || Y7 (py + rnd Y (2 * D))
def fromA (px py X Y D : Int) : AV := if fromB px py X Y D then .tup [PtA 0 0, .bool true] else .tup [PtA (px + rnd X (2 * D)) (py + rnd Y (2 * D)), .bool false]
theorem far_abs {v : Int} : Y7 v = !decide ((v.natAbs : Int) ≤ 4194304) := by
  unfold Y7
  by_cases h : (v.natAbs : Int) ≤ 4194304
  · rw [decide_eq_true h, decide_eq_false (by omega)]; rfl
  · rw [decide_eq_false h, decide_eq_true (by omega)]; rfl
theorem rnd_abs {x y : Int} {b : Nat} (hy : 0 < y) (hx : x.natAbs ≤ b) : (rnd x y).natAbs ≤ b + 1 := by
  have h1 : (b : Int) ≤ b * y := by have := Int.mul_le_mul_of_nonneg_left (show (1 : Int) ≤ y by omega) (show (0 : Int) ≤ b by omega); rwa [Int.mul_one] at this
  have := rnd_small (x := x) (y := y) (b := b) hy (by omega) (by omega) (by omega)
  omega
set_option maxHeartbeats 4000000 in
theorem from_s (px py X Y D : Int) (hp : -4194304 ≤ px ∧ px ≤ 4194304) (hq : -4194304 ≤ py ∧ py ≤ 4194304) (hX : X.natAbs ≤ 2 ^ 200) (hY : Y.natAbs ≤ 2 ^ 200) (hD : 0 < D ∧ D ≤ 281474976710656) :
    Fn 65 [PtA px py, Bz X, Bz Y, .int .i64 D] (fromA px py X Y D) := by
  have e200 : (2 : Nat) ^ 200 + 2 ^ 200 ≤ 2 ^ 900 := by decide +kernel
  have e64 : (18446744073709551616 : Nat) ≤ 2 ^ 200 := by decide +kernel
  have e9 : (2 : Nat) ^ 900 ≤ 2 ^ 1000 := by decide +kernel
  have r1 := rnd_abs (x := X) (y := 2 * D) (b := 2 ^ 200) (by omega) hX
  have r2 := rnd_abs (x := Y) (y := 2 * D) (b := 2 ^ 200) (by omega) hY
  have O2 := of18_s 2 (by omega)
  have OD := of18_s D (by omega)
  have M := mul18_s 2 D (Ud (by omega)) (Ud (by omega))
  have O3 := of18_s px (by omega)
  have O4 := of18_s py (by omega)
  have R1 := Round_s X (2 * D) (by omega) (by omega) (by omega)
  have R2 := Round_s Y (2 * D) (by omega) (by omega) (by omega)
  have A1 := add18_s px (rnd X (2 * D)) (Ud (by omega)) (Ud (by omega))
  have A2 := add18_s py (rnd Y (2 * D)) (Ud (by omega)) (Ud (by omega))
  have F1 := Fits_s (px + rnd X (2 * D)) 4194304 (Ud (by omega)) (by decide)
  have F2 := Fits_s (py + rnd Y (2 * D)) 4194304 (Ud (by omega)) (by decide)
  unfold fromA fromB
  rw [far_abs, far_abs]
  by_cases h1 : ((px + rnd X (2 * D)).natAbs : Int) ≤ 4194304
  · rw [decide_eq_true h1] at F1 ⊢
    have I1 := Int64_s (px + rnd X (2 * D)) (by omega)
    by_cases h2 : ((py + rnd Y (2 * D)).natAbs : Int) ≤ 4194304
    · rw [decide_eq_true h2] at F2 ⊢
      have I2 := Int64_s (py + rnd Y (2 * D)) (by omega)
      rw [if_neg (by decide)]
      refine Sure.body (by first | (simp only [RT]; done) | simp_all only [RT]) Tryz.func65 rfl (by kernel_rfl) (by kernel_rfl) ?_
      repeat' first
        | (with_reducible first | refine Jh (fun K hK => ?_) | refine Jx ?_ | refine Q4 ?_ | refine Qc ?_ | refine Qd ?_ | refine Jg ?_ | refine Q1 (id := 2) [] pn65_2ZcG (by kernel_rfl) (by kernel_rfl) ?_ | refine Jr ?_ | refine X8 ?_)
        | (with_reducible refine Q3 (O2) (Jq _ _) ?_)
        | (with_reducible refine Qa (O2) (Jq _ _) ?_)
        | (with_reducible refine Q3 (OD) (Jq _ _) ?_)
        | (with_reducible refine Qa (OD) (Jq _ _) ?_)
        | (with_reducible refine Q3 (M) (Jq _ _) ?_)
        | (with_reducible refine Qa (M) (Jq _ _) ?_)
        | (with_reducible refine Q3 (O3) (Jq _ _) ?_)
        | (with_reducible refine Qa (O3) (Jq _ _) ?_)
        | (with_reducible refine Q3 (O4) (Jq _ _) ?_)
        | (with_reducible refine Qa (O4) (Jq _ _) ?_)
        | (with_reducible refine Q3 (R1) (Jq _ _) ?_)
        | (with_reducible refine Qa (R1) (Jq _ _) ?_)
        | (with_reducible refine Q3 (R2) (Jq _ _) ?_)
        | (with_reducible refine Qa (R2) (Jq _ _) ?_)
        | (with_reducible refine Q3 (A1) (Jq _ _) ?_)
        | (with_reducible refine Qa (A1) (Jq _ _) ?_)
        | (with_reducible refine Q3 (A2) (Jq _ _) ?_)
        | (with_reducible refine Qa (A2) (Jq _ _) ?_)
        | (with_reducible refine Q3 (F1) (Jq _ _) ?_)
        | (with_reducible refine Qa (F1) (Jq _ _) ?_)
        | (with_reducible refine Q3 (F2) (Jq _ _) ?_)
        | (with_reducible refine Qa (F2) (Jq _ _) ?_)
        | (with_reducible refine Q3 (I1) (Jq _ _) ?_)
        | (with_reducible refine Qa (I1) (Jq _ _) ?_)
        | (with_reducible refine Q3 (I2) (Jq _ _) ?_)
        | (with_reducible refine Qa (I2) (Jq _ _) ?_)
        | (with_reducible refine Jt (fun hc => ?_) (fun hc => ?_) <;> (try simp only [RC] at hc) <;> (try (exfalso; first | omega | contradiction)))
        | (with_reducible refine Jc ?_ ?_)
        | (with_reducible refine X4 (fun hc => ?_) (fun hc => ?_) <;> (try simp only [RC] at hc) <;> (try (exfalso; first | omega | contradiction)))
        | (simp only [Qb, Jo, reduceIte, J0])
        | ((with_reducible refine hK _ _ ?_); clear hK)
        | (clear hK; (with_reducible refine hK _ _ ?_); clear hK)
        | (clear hK; clear hK; (with_reducible refine hK _ _ ?_); clear hK)
        | (clear hK; clear hK; clear hK; (with_reducible refine hK _ _ ?_); clear hK)
        | (clear hK; clear hK; clear hK; clear hK; (with_reducible refine hK _ _ ?_); clear hK)
        | (clear hK; clear hK; clear hK; clear hK; clear hK; (with_reducible refine hK _ _ ?_); clear hK)
        | (simp only [Q9, RA, Jn, Jm, Jp, Q8, Q6, ev, ofValue, Ju, J0, J3, J2, J4, reduceCtorEq, reduceIte, Jv, Qm, Qk, Q0, aun, Qj, Jk, Ji, Jz, Jy, Jj, Qi, Jf, Q7, Js, J1, J5, Ja, J9, Jb, J6, J7, Jd, J8, RB, Jw, Je, RZ, Nw])
        | (simp (disch := first | omega | (simp only [RO]; done) | assumption) only [RS, RG, Xa, Xb, X9, Xt, Xv, Xj, Xu, Qz, Qr, X0])
        | (simp (disch := (first | omega | (simp only [RO]; done) | assumption | (simp only [RM, Je]; done) | (simp only [RL, Je]; omega))) only [RD, reduceCtorEq, reduceIte, Je, J1, J3, J2, J6, Nw])
      all_goals
        (
         (refine Qg (rs := [.cell 8 23, .tmp 9]) rfl ?_)
         (simp only [X5, Qf, RA, RZ, J0, J3, J1, reduceCtorEq, reduceIte, Nw])
         (try simp only [RF]))
    · rw [decide_eq_false h2] at F2 ⊢
      rw [if_pos (by decide)]
      refine Sure.body (by first | (simp only [RT]; done) | simp_all only [RT]) Tryz.func65 rfl (by kernel_rfl) (by kernel_rfl) ?_
      repeat' first
        | (with_reducible first | refine Jh (fun K hK => ?_) | refine Jx ?_ | refine Q4 ?_ | refine Qc ?_ | refine Qd ?_ | refine Jg ?_ | refine Q1 (id := 2) [] pn65_2ZcG (by kernel_rfl) (by kernel_rfl) ?_ | refine Jr ?_ | refine X8 ?_)
        | (with_reducible refine Q3 (O2) (Jq _ _) ?_)
        | (with_reducible refine Qa (O2) (Jq _ _) ?_)
        | (with_reducible refine Q3 (OD) (Jq _ _) ?_)
        | (with_reducible refine Qa (OD) (Jq _ _) ?_)
        | (with_reducible refine Q3 (M) (Jq _ _) ?_)
        | (with_reducible refine Qa (M) (Jq _ _) ?_)
        | (with_reducible refine Q3 (O3) (Jq _ _) ?_)
        | (with_reducible refine Qa (O3) (Jq _ _) ?_)
        | (with_reducible refine Q3 (O4) (Jq _ _) ?_)
        | (with_reducible refine Qa (O4) (Jq _ _) ?_)
        | (with_reducible refine Q3 (R1) (Jq _ _) ?_)
        | (with_reducible refine Qa (R1) (Jq _ _) ?_)
        | (with_reducible refine Q3 (R2) (Jq _ _) ?_)
        | (with_reducible refine Qa (R2) (Jq _ _) ?_)
        | (with_reducible refine Q3 (A1) (Jq _ _) ?_)
        | (with_reducible refine Qa (A1) (Jq _ _) ?_)
        | (with_reducible refine Q3 (A2) (Jq _ _) ?_)
        | (with_reducible refine Qa (A2) (Jq _ _) ?_)
        | (with_reducible refine Q3 (F1) (Jq _ _) ?_)
        | (with_reducible refine Qa (F1) (Jq _ _) ?_)
        | (with_reducible refine Q3 (F2) (Jq _ _) ?_)
        | (with_reducible refine Qa (F2) (Jq _ _) ?_)
        | (with_reducible refine Jt (fun hc => ?_) (fun hc => ?_) <;> (try simp only [RC] at hc) <;> (try (exfalso; first | omega | contradiction)))
        | (with_reducible refine Jc ?_ ?_)
        | (with_reducible refine X4 (fun hc => ?_) (fun hc => ?_) <;> (try simp only [RC] at hc) <;> (try (exfalso; first | omega | contradiction)))
        | (simp only [Qb, Jo, reduceIte, J0])
        | ((with_reducible refine hK _ _ ?_); clear hK)
        | (clear hK; (with_reducible refine hK _ _ ?_); clear hK)
        | (clear hK; clear hK; (with_reducible refine hK _ _ ?_); clear hK)
        | (clear hK; clear hK; clear hK; (with_reducible refine hK _ _ ?_); clear hK)
        | (clear hK; clear hK; clear hK; clear hK; (with_reducible refine hK _ _ ?_); clear hK)
        | (clear hK; clear hK; clear hK; clear hK; clear hK; (with_reducible refine hK _ _ ?_); clear hK)
        | (simp only [Q9, RA, Jn, Jm, Jp, Q8, Q6, ev, ofValue, Ju, J0, J3, J2, J4, reduceCtorEq, reduceIte, Jv, Qm, Qk, Q0, aun, Qj, Jk, Ji, Jz, Jy, Jj, Qi, Jf, Q7, Js, J1, J5, Ja, J9, Jb, J6, J7, Jd, J8, RB, Jw, Je, RZ, Nw])
        | (simp (disch := first | omega | (simp only [RO]; done) | assumption) only [RS, RG, Xa, Xb, X9, Xt, Xv, Xj, Xu, Qz, Qr, X0])
        | (simp (disch := (first | omega | (simp only [RO]; done) | assumption | (simp only [RM, Je]; done) | (simp only [RL, Je]; omega))) only [RD, reduceCtorEq, reduceIte, Je, J1, J3, J2, J6, Nw])
      all_goals
        (
         (refine Qg (rs := [.cell 8 23, .tmp 9]) rfl ?_)
         (simp only [X5, Qf, RA, RZ, J0, J3, J1, reduceCtorEq, reduceIte, Nw])
         (try simp only [RF]))
  · rw [decide_eq_false h1] at F1 ⊢
    rw [if_pos (by rfl)]
    refine Sure.body (by first | (simp only [RT]; done) | simp_all only [RT]) Tryz.func65 rfl (by kernel_rfl) (by kernel_rfl) ?_
    repeat' first
      | (with_reducible first | refine Jh (fun K hK => ?_) | refine Jx ?_ | refine Q4 ?_ | refine Qc ?_ | refine Qd ?_ | refine Jg ?_ | refine Q1 (id := 2) [] pn65_2ZcG (by kernel_rfl) (by kernel_rfl) ?_ | refine Jr ?_ | refine X8 ?_)
      | (with_reducible refine Q3 (O2) (Jq _ _) ?_)
      | (with_reducible refine Qa (O2) (Jq _ _) ?_)
      | (with_reducible refine Q3 (OD) (Jq _ _) ?_)
      | (with_reducible refine Qa (OD) (Jq _ _) ?_)
      | (with_reducible refine Q3 (M) (Jq _ _) ?_)
      | (with_reducible refine Qa (M) (Jq _ _) ?_)
      | (with_reducible refine Q3 (O3) (Jq _ _) ?_)
      | (with_reducible refine Qa (O3) (Jq _ _) ?_)
      | (with_reducible refine Q3 (O4) (Jq _ _) ?_)
      | (with_reducible refine Qa (O4) (Jq _ _) ?_)
      | (with_reducible refine Q3 (R1) (Jq _ _) ?_)
      | (with_reducible refine Qa (R1) (Jq _ _) ?_)
      | (with_reducible refine Q3 (R2) (Jq _ _) ?_)
      | (with_reducible refine Qa (R2) (Jq _ _) ?_)
      | (with_reducible refine Q3 (A1) (Jq _ _) ?_)
      | (with_reducible refine Qa (A1) (Jq _ _) ?_)
      | (with_reducible refine Q3 (A2) (Jq _ _) ?_)
      | (with_reducible refine Qa (A2) (Jq _ _) ?_)
      | (with_reducible refine Q3 (F1) (Jq _ _) ?_)
      | (with_reducible refine Qa (F1) (Jq _ _) ?_)
      | (with_reducible refine Q3 (F2) (Jq _ _) ?_)
      | (with_reducible refine Qa (F2) (Jq _ _) ?_)
      | (with_reducible refine Jt (fun hc => ?_) (fun hc => ?_) <;> (try simp only [RC] at hc) <;> (try (exfalso; first | omega | contradiction)))
      | (with_reducible refine Jc ?_ ?_)
      | (with_reducible refine X4 (fun hc => ?_) (fun hc => ?_) <;> (try simp only [RC] at hc) <;> (try (exfalso; first | omega | contradiction)))
      | (simp only [Qb, Jo, reduceIte, J0])
      | ((with_reducible refine hK _ _ ?_); clear hK)
      | (clear hK; (with_reducible refine hK _ _ ?_); clear hK)
      | (clear hK; clear hK; (with_reducible refine hK _ _ ?_); clear hK)
      | (clear hK; clear hK; clear hK; (with_reducible refine hK _ _ ?_); clear hK)
      | (clear hK; clear hK; clear hK; clear hK; (with_reducible refine hK _ _ ?_); clear hK)
      | (clear hK; clear hK; clear hK; clear hK; clear hK; (with_reducible refine hK _ _ ?_); clear hK)
      | (simp only [Q9, RA, Jn, Jm, Jp, Q8, Q6, ev, ofValue, Ju, J0, J3, J2, J4, reduceCtorEq, reduceIte, Jv, Qm, Qk, Q0, aun, Qj, Jk, Ji, Jz, Jy, Jj, Qi, Jf, Q7, Js, J1, J5, Ja, J9, Jb, J6, J7, Jd, J8, RB, Jw, Je, RZ, Nw])
      | (simp (disch := first | omega | (simp only [RO]; done) | assumption) only [RS, RG, Xa, Xb, X9, Xt, Xv, Xj, Xu, Qz, Qr, X0])
      | (simp (disch := (first | omega | (simp only [RO]; done) | assumption | (simp only [RM, Je]; done) | (simp only [RL, Je]; omega))) only [RD, reduceCtorEq, reduceIte, Je, J1, J3, J2, J6, Nw])
    all_goals
      (
       (refine Qg (rs := [.cell 8 23, .tmp 9]) rfl ?_)
       (simp only [X5, Qf, RA, RZ, J0, J3, J1, reduceCtorEq, reduceIte, Nw])
       (try simp only [RF]))
end Go.Proofs.YtigddjlhncnnoaaGreatDoor
namespace Go.Proofs.YtigddjlhncnnoaaGreatDoor
open Go.AL
theorem wf_i16 {n : Int} (h : (Lit.int .i16 n).wf = true) : -32768 ≤ n ∧ n ≤ 32767 := by
  simp only [Lit.wf, Bool.and_eq_true, decide_eq_true_eq] at h
  have h1 : IntKind.i16.min = -32768 := by decide +kernel
  have h2 : IntKind.i16.max = 32767 := by decide +kernel
  omega
end Go.Proofs.YtigddjlhncnnoaaGreatDoor

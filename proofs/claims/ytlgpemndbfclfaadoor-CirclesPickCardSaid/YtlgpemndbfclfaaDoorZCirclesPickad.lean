/- Part 4 of the proof of the law CirclesPick: lemmas on the model's code, on this program's functions, on numbers. No condition. -/
import Derived.Test.YtlgpemndbfclfaaDoorZCirclesPickac
set_option linter.unusedVariables false
set_option linter.unusedSimpArgs false
open Nat renaming reduceEqDiff → J0, reduceLeDiff → J1, reduceMul → J2, reduceAdd → J3, reduceSub → J4, reduceLT → J5
open Int renaming reduceToNat → J6, reducePow → J7, reduceNeg → J8, reduceLT → J9, reduceLE → Ja, reduceEq → Jb
open And renaming intro → Jc
open Go.IntKind renaming bits → Jd
open Go.PW renaming dig_length → Je
namespace Go.Proofs.YtlgpemndbfclfaaDoor
open Go.AL Go.PW Go.PD Go.PR
theorem tf47ZcE : type_of% (@Yj) := @Yj
theorem tf26ZcE : type_of% (Jc @Yj (Jc @Uq (@Up))) := Jc @Yj (Jc @Uq (@Up))
theorem tf27ZcE : type_of% (@Yj) := @Yj
theorem tf12ZcE : type_of% (Jc @Yj (Jc @Uq (@Up))) := Jc @Yj (Jc @Uq (@Up))
theorem tf10ZcE : type_of% (Jc @Yj (Jc @Xz (Jc @Uq (@Up)))) := Jc @Yj (Jc @Xz (Jc @Uq (@Up)))
set_option maxRecDepth 8000
theorem far10_s (v most : Int) (hm : 0 ≤ most ∧ most ≤ 9223372036854775807) : Fn 47 [.int .i64 v, .int .i64 most] (.bool (decide (v < -most ∨ most < v))) := by
  have w : IntKind.i64.wrap (0 - most) = -most := by rw [Q3 (by omega) (by omega)]; omega
  by_cases h1 : most < v <;> by_cases h2 : v < -most
  all_goals
    refine Sure.body (by first | (simp only [RT]; done) | simp_all only [RT]) Tryd.func47 rfl (by kernel_rfl) (by kernel_rfl) ?_
    repeat' first
      | (with_reducible first | refine Jj (fun K hK => ?_) | refine Js ?_ | refine Q2 ?_ | refine Qc ?_ | refine Qb ?_ | refine Jg ?_ | refine Jq ?_)
      | (with_reducible refine Jv (fun hc => ?_) (fun hc => ?_) <;> (try simp only [RC] at hc) <;> (try (exfalso; first | omega | contradiction)))
      | (with_reducible refine X3 (fun hc => ?_) (fun hc => ?_) <;> (try simp only [RC] at hc) <;> (try (exfalso; first | omega | contradiction)))
      | (simp only [Q8, Jk, reduceIte, J0])
      | ((with_reducible refine hK _ _ ?_); clear hK)
      | (clear hK; (with_reducible refine hK _ _ ?_); clear hK)
      | (clear hK; clear hK; (with_reducible refine hK _ _ ?_); clear hK)
      | (clear hK; clear hK; clear hK; (with_reducible refine hK _ _ ?_); clear hK)
      | (clear hK; clear hK; clear hK; clear hK; (with_reducible refine hK _ _ ?_); clear hK)
      | (clear hK; clear hK; clear hK; clear hK; clear hK; (with_reducible refine hK _ _ ?_); clear hK)
      | (simp only [Qa, RA, Jo, Jn, Jp, Q7, Q5, ev, ofValue, Ju, J0, J3, J2, J4, reduceCtorEq, reduceIte, Jx, Qm, Qk, Q1, aun, Qj, Jm, Jh, Q0, Jz, Ji, Qi, Jf, Q6, Jr, J1, J5, Ja, J9, Jb, J6, J7, Jd, J8, RB, Jy, Je, RZ, tf47ZcE, w, h1, h2])
      | (simp (disch := first | omega | (simp only [RO]; done) | assumption) only [RS, RG])
      | (simp (disch := (first | omega | (simp only [RO]; done) | assumption | (simp only [RM, Je]; done) | (simp only [RL, Je]; omega))) only [RD, reduceCtorEq, reduceIte, Je, J1, J3, J2, J6, tf47ZcE, w, h1, h2])
  all_goals
    (
     (refine Q9 (rs := [.tmp 4]) rfl ?_)
     (simp only [Qt, Q4, RA, RZ, J0, J3, J1, reduceCtorEq, reduceIte, tf47ZcE])
     (try simp only [RF]))
  all_goals simp [h1, h2]
theorem Away_s (x y : Int) : Fn 26 [PtA x y] (.bool (Zy x || Zy y)) := by
  have F1 := far10_s x 4194304 (by decide)
  have F2 := far10_s y 4194304 (by decide)
  unfold Zy
  generalize decide (x < -4194304 ∨ 4194304 < x) = b1 at *
  generalize decide (y < -4194304 ∨ 4194304 < y) = b2 at *
  cases b1 <;> cases b2
  all_goals
    refine Sure.body (by first | (simp only [RT]; done) | simp_all only [RT]) Tryd.func26 rfl (by kernel_rfl) (by kernel_rfl) ?_
    repeat' first
      | (with_reducible first | refine Jj (fun K hK => ?_) | refine Js ?_ | refine Q2 ?_ | refine Qc ?_ | refine Qb ?_ | refine Jg ?_ | refine Jq ?_)
      | (with_reducible refine Qu (F1) (Qo _ _) ?_)
      | (with_reducible refine Qu (F2) (Qo _ _) ?_)
      | (with_reducible refine Jv (fun hc => ?_) (fun hc => ?_) <;> (try simp only [RC] at hc) <;> (try (exfalso; first | omega | contradiction)))
      | (with_reducible refine X3 (fun hc => ?_) (fun hc => ?_) <;> (try simp only [RC] at hc) <;> (try (exfalso; first | omega | contradiction)))
      | (simp only [Q8, Jk, reduceIte, J0])
      | ((with_reducible refine hK _ _ ?_); clear hK)
      | (clear hK; (with_reducible refine hK _ _ ?_); clear hK)
      | (clear hK; clear hK; (with_reducible refine hK _ _ ?_); clear hK)
      | (clear hK; clear hK; clear hK; (with_reducible refine hK _ _ ?_); clear hK)
      | (clear hK; clear hK; clear hK; clear hK; (with_reducible refine hK _ _ ?_); clear hK)
      | (clear hK; clear hK; clear hK; clear hK; clear hK; (with_reducible refine hK _ _ ?_); clear hK)
      | (simp only [Qa, RA, Jo, Jn, Jp, Q7, Q5, ev, ofValue, Ju, J0, J3, J2, J4, reduceCtorEq, reduceIte, Jx, Qm, Qk, Q1, aun, Qj, Jm, Jh, Q0, Jz, Ji, Qi, Jf, Q6, Jr, J1, J5, Ja, J9, Jb, J6, J7, Jd, J8, RB, Jy, Je, RZ, tf26ZcE])
      | (simp (disch := first | omega | (simp only [RO]; done) | assumption) only [RS, RG, Ya, Yc, Zg, Yb])
      | (simp (disch := (first | omega | (simp only [RO]; done) | assumption | (simp only [RM, Je]; done) | (simp only [RL, Je]; omega))) only [RD, reduceCtorEq, reduceIte, Je, J1, J3, J2, J6, tf26ZcE])
  all_goals
    (
     (refine Q9 (rs := [.tmp 2]) rfl ?_)
     (simp only [Qt, Q4, RA, RZ, J0, J3, J1, reduceCtorEq, reduceIte, tf26ZcE, Bool.or_false, Bool.or_true, Bool.true_or, Bool.or_self])
     (try simp only [RF, Bool.or_false, Bool.or_true, Bool.true_or, Bool.or_self]))
theorem amount18_s (v : Int) (hv : -9223372036854775807 ≤ v ∧ v ≤ 9223372036854775807) : Fn 27 [.int .i64 v] (.int .i64 v.natAbs) := by
  have w : IntKind.i64.wrap (0 - v) = -v := by rw [Q3 (by omega) (by omega)]; omega
  by_cases h : v < -v
  · have e : (v.natAbs : Int) = -v := by omega
    rw [e]
    refine Sure.body (by first | (simp only [RT]; done) | simp_all only [RT]) Tryd.func27 rfl (by kernel_rfl) (by kernel_rfl) ?_
    repeat' first
      | (with_reducible first | refine Jj (fun K hK => ?_) | refine Js ?_ | refine Q2 ?_ | refine Qc ?_ | refine Qb ?_ | refine Jg ?_ | refine Jq ?_)
      | (with_reducible refine Jv (fun hc => ?_) (fun hc => ?_) <;> (try simp only [RC] at hc) <;> (try (exfalso; first | omega | contradiction)))
      | (with_reducible refine X3 (fun hc => ?_) (fun hc => ?_) <;> (try simp only [RC] at hc) <;> (try (exfalso; first | omega | contradiction)))
      | (simp only [Q8, Jk, reduceIte, J0])
      | ((with_reducible refine hK _ _ ?_); clear hK)
      | (clear hK; (with_reducible refine hK _ _ ?_); clear hK)
      | (clear hK; clear hK; (with_reducible refine hK _ _ ?_); clear hK)
      | (clear hK; clear hK; clear hK; (with_reducible refine hK _ _ ?_); clear hK)
      | (clear hK; clear hK; clear hK; clear hK; (with_reducible refine hK _ _ ?_); clear hK)
      | (clear hK; clear hK; clear hK; clear hK; clear hK; (with_reducible refine hK _ _ ?_); clear hK)
      | (simp only [Qa, RA, Jo, Jn, Jp, Q7, Q5, ev, ofValue, Ju, J0, J3, J2, J4, reduceCtorEq, reduceIte, Jx, Qm, Qk, Q1, aun, Qj, Jm, Jh, Q0, Jz, Ji, Qi, Jf, Q6, Jr, J1, J5, Ja, J9, Jb, J6, J7, Jd, J8, RB, Jy, Je, RZ, tf27ZcE, w, Qw, AV.isInt, aminl, amin2, h])
      | (simp (disch := first | omega | (simp only [RO]; done) | assumption) only [RS, RG])
      | (simp (disch := (first | omega | (simp only [RO]; done) | assumption | (simp only [RM, Je]; done) | (simp only [RL, Je]; omega))) only [RD, reduceCtorEq, reduceIte, Je, J1, J3, J2, J6, tf27ZcE, w, Qw, AV.isInt, aminl, amin2, h])
    all_goals
      (
       (refine Q9 (rs := [.tmp 2]) rfl ?_)
       (simp only [Qt, Q4, RA, RZ, J0, J3, J1, reduceCtorEq, reduceIte, tf27ZcE])
       (try simp only [RF]))
  · have e : (v.natAbs : Int) = v := by omega
    rw [e]
    refine Sure.body (by first | (simp only [RT]; done) | simp_all only [RT]) Tryd.func27 rfl (by kernel_rfl) (by kernel_rfl) ?_
    repeat' first
      | (with_reducible first | refine Jj (fun K hK => ?_) | refine Js ?_ | refine Q2 ?_ | refine Qc ?_ | refine Qb ?_ | refine Jg ?_ | refine Jq ?_)
      | (with_reducible refine Jv (fun hc => ?_) (fun hc => ?_) <;> (try simp only [RC] at hc) <;> (try (exfalso; first | omega | contradiction)))
      | (with_reducible refine X3 (fun hc => ?_) (fun hc => ?_) <;> (try simp only [RC] at hc) <;> (try (exfalso; first | omega | contradiction)))
      | (simp only [Q8, Jk, reduceIte, J0])
      | ((with_reducible refine hK _ _ ?_); clear hK)
      | (clear hK; (with_reducible refine hK _ _ ?_); clear hK)
      | (clear hK; clear hK; (with_reducible refine hK _ _ ?_); clear hK)
      | (clear hK; clear hK; clear hK; (with_reducible refine hK _ _ ?_); clear hK)
      | (clear hK; clear hK; clear hK; clear hK; (with_reducible refine hK _ _ ?_); clear hK)
      | (clear hK; clear hK; clear hK; clear hK; clear hK; (with_reducible refine hK _ _ ?_); clear hK)
      | (simp only [Qa, RA, Jo, Jn, Jp, Q7, Q5, ev, ofValue, Ju, J0, J3, J2, J4, reduceCtorEq, reduceIte, Jx, Qm, Qk, Q1, aun, Qj, Jm, Jh, Q0, Jz, Ji, Qi, Jf, Q6, Jr, J1, J5, Ja, J9, Jb, J6, J7, Jd, J8, RB, Jy, Je, RZ, tf27ZcE, w, Qw, AV.isInt, aminl, amin2, h])
      | (simp (disch := first | omega | (simp only [RO]; done) | assumption) only [RS, RG])
      | (simp (disch := (first | omega | (simp only [RO]; done) | assumption | (simp only [RM, Je]; done) | (simp only [RL, Je]; omega))) only [RD, reduceCtorEq, reduceIte, Je, J1, J3, J2, J6, tf27ZcE, w, Qw, AV.isInt, aminl, amin2, h])
    all_goals
      (
       (refine Q9 (rs := [.tmp 2]) rfl ?_)
       (simp only [Qt, Q4, RA, RZ, J0, J3, J1, reduceCtorEq, reduceIte, tf27ZcE])
       (try simp only [RF]))
set_option maxHeartbeats 4000000 in
theorem ROff_s (ax ay px py r : Int) : Fn 12 [PtA ax ay, PtA px py, .int .i64 r] (.tup [.int .i64 (offS ax ay px py r).2, .int .i64 (offS ax ay px py r).1]) := by
  have F1 := Away_s ax ay
  have F2 := Away_s px py
  by_cases hU : (Zy ax || Zy ay || (Zy px || Zy py) || !okR r) = true
  · unfold offS
    rw [if_pos hU]
    have h3 : okR r = false ↔ (r < 0 ∨ 2097152 < r) := by unfold okR; rw [decide_eq_false_iff_not]; omega
    have h4 : okR r = true ↔ ¬ (r < 0 ∨ 2097152 < r) := by unfold okR; rw [decide_eq_true_iff]; omega
    generalize (Zy ax || Zy ay) = b1 at *
    generalize (Zy px || Zy py) = b2 at *
    by_cases g1 : r < 0 <;> by_cases g2 : 2097152 < r
    all_goals
      cases b1 <;> cases b2
    all_goals first
      | (exfalso; rw [h4.2 (by omega)] at hU; cases hU; done)
      | skip
    all_goals
      refine Sure.body (by first | (simp only [RT]; done) | simp_all only [RT]) Tryd.func12 rfl (by kernel_rfl) (by kernel_rfl) ?_
      repeat' first
        | (with_reducible first | refine Jj (fun K hK => ?_) | refine Js ?_ | refine Q2 ?_ | refine Qc ?_ | refine Qb ?_ | refine Jg ?_ | refine Jq ?_)
        | (with_reducible refine Qu (F1) (Qo _ _) ?_)
        | (with_reducible refine Qu (F2) (Qo _ _) ?_)
        | (with_reducible refine Jv (fun hc => ?_) (fun hc => ?_) <;> (try simp only [RC] at hc) <;> (try (exfalso; first | omega | contradiction)))
        | (with_reducible refine X3 (fun hc => ?_) (fun hc => ?_) <;> (try simp only [RC] at hc) <;> (try (exfalso; first | omega | contradiction)))
        | (simp only [Q8, Jk, reduceIte, J0])
        | ((with_reducible refine hK _ _ ?_); clear hK)
        | (clear hK; (with_reducible refine hK _ _ ?_); clear hK)
        | (clear hK; clear hK; (with_reducible refine hK _ _ ?_); clear hK)
        | (clear hK; clear hK; clear hK; (with_reducible refine hK _ _ ?_); clear hK)
        | (clear hK; clear hK; clear hK; clear hK; (with_reducible refine hK _ _ ?_); clear hK)
        | (clear hK; clear hK; clear hK; clear hK; clear hK; (with_reducible refine hK _ _ ?_); clear hK)
        | (simp only [Qa, RA, Jo, Jn, Jp, Q7, Q5, ev, ofValue, Ju, J0, J3, J2, J4, reduceCtorEq, reduceIte, Jx, Qm, Qk, Q1, aun, Qj, Jm, Jh, Q0, Jz, Ji, Qi, Jf, Q6, Jr, J1, J5, Ja, J9, Jb, J6, J7, Jd, J8, RB, Jy, Je, RZ, tf12ZcE, g1, g2])
        | (simp (disch := first | omega | (simp only [RO]; done) | assumption) only [RS, RG, Ya, Yc, Zg, Yb])
        | (simp (disch := (first | omega | (simp only [RO]; done) | assumption | (simp only [RM, Je]; done) | (simp only [RL, Je]; omega))) only [RD, reduceCtorEq, reduceIte, Je, J1, J3, J2, J6, tf12ZcE, g1, g2])
    all_goals
      (
       (refine Q9 (rs := [.tmp 6, .tmp 7]) rfl ?_)
       (simp only [Qt, Q4, RA, RZ, J0, J3, J1, reduceCtorEq, reduceIte, tf12ZcE])
       (try simp only [RF]))
  unfold offS
  rw [if_neg hU]
  simp only [Bool.not_eq_true, Bool.or_eq_false_iff, Bool.not_eq_false'] at hU
  obtain ⟨⟨⟨h1, h2⟩, h3, h4⟩, h5⟩ := hU
  have a1 := G6 h1
  have a2 := G6 h2
  have a3 := G6 h3
  have a4 := G6 h4
  have a5 : 0 ≤ r ∧ r ≤ 2097152 := of_decide_eq_true h5
  rw [h1, h2, Bool.or_self] at F1
  rw [h3, h4, Bool.or_self] at F2
  clear h1 h2 h3 h4 h5
  have s1 := Rx (x := ax - px) (b := 8388608) (by decide) (by omega)
  have s2 := Rx (x := ay - py) (b := 8388608) (by decide) (by omega)
  obtain ⟨n, hn⟩ : ∃ n, n = ((ax - px) * (ax - px) + (ay - py) * (ay - py)).toNat := ⟨_, rfl⟩
  have hnn : (n : Int) = (ax - px) * (ax - px) + (ay - py) * (ay - py) := by omega
  rw [← hn]
  have hrt := rt_lt (n := n) (b := 16777216) (by have : (2 : Nat) ^ 128 = 340282366920938463463374607431768211456 := by decide
                                                 omega) (by omega)
  have w1 : IntKind.i64.wrap (ax - px) = ax - px := Q3 (by omega) (by omega)
  have w2 : IntKind.i64.wrap (ay - py) = ay - py := Q3 (by omega) (by omega)
  have w3 : IntKind.i64.wrap ((rt n : Nat) - r) = (rt n : Nat) - r := Q3 (by omega) (by omega)
  have HY := RHypot_s (ax - px) (ay - py) n (by omega) (by omega) hnn
  have AM := amount18_s ((rt n : Nat) - r) (by omega)
  have g1 : (r < 0) = False := eq_false (by omega)
  have g2 : (2097152 < r) = False := eq_false (by omega)
  refine Sure.body (by first | (simp only [RT]; done) | simp_all only [RT]) Tryd.func12 rfl (by kernel_rfl) (by kernel_rfl) ?_
  repeat' first
    | (with_reducible first | refine Jj (fun K hK => ?_) | refine Js ?_ | refine Q2 ?_ | refine Qc ?_ | refine Qb ?_ | refine Jg ?_ | refine Jq ?_)
    | (with_reducible refine Qu (F1) (Qo _ _) ?_)
    | (with_reducible refine Qu (F2) (Qo _ _) ?_)
    | (with_reducible refine Qu (HY) (Qo _ _) ?_)
    | (with_reducible refine Qu (AM) (Qo _ _) ?_)
    | (with_reducible refine Jv (fun hc => ?_) (fun hc => ?_) <;> (try simp only [RC] at hc) <;> (try (exfalso; first | omega | contradiction)))
    | (with_reducible refine X3 (fun hc => ?_) (fun hc => ?_) <;> (try simp only [RC] at hc) <;> (try (exfalso; first | omega | contradiction)))
    | (simp only [Q8, Jk, reduceIte, J0])
    | ((with_reducible refine hK _ _ ?_); clear hK)
    | (clear hK; (with_reducible refine hK _ _ ?_); clear hK)
    | (clear hK; clear hK; (with_reducible refine hK _ _ ?_); clear hK)
    | (clear hK; clear hK; clear hK; (with_reducible refine hK _ _ ?_); clear hK)
    | (clear hK; clear hK; clear hK; clear hK; (with_reducible refine hK _ _ ?_); clear hK)
    | (clear hK; clear hK; clear hK; clear hK; clear hK; (with_reducible refine hK _ _ ?_); clear hK)
    | (simp only [Qa, RA, Jo, Jn, Jp, Q7, Q5, ev, ofValue, Ju, J0, J3, J2, J4, reduceCtorEq, reduceIte, Jx, Qm, Qk, Q1, aun, Qj, Jm, Jh, Q0, Jz, Ji, Qi, Jf, Q6, Jr, J1, J5, Ja, J9, Jb, J6, J7, Jd, J8, RB, Jy, Je, RZ, tf12ZcE, w1, w2, w3, g1, g2])
    | (simp (disch := first | omega | (simp only [RO]; done) | assumption) only [RS, RG, Ya, Yc, Zg, Yb])
    | (simp (disch := (first | omega | (simp only [RO]; done) | assumption | (simp only [RM, Je]; done) | (simp only [RL, Je]; omega))) only [RD, reduceCtorEq, reduceIte, Je, J1, J3, J2, J6, tf12ZcE, w1, w2, w3, g1, g2])
  all_goals
    (
     (refine Q9 (rs := [.tmp 6, .tmp 7]) rfl ?_)
     (simp only [Qt, Q4, RA, RZ, J0, J3, J1, reduceCtorEq, reduceIte, tf12ZcE])
     (try simp only [RF]))
set_option maxHeartbeats 4000000 in
theorem RPick_s (ax ay bx by_ px py r near : Int) : Fn 10 [PtA ax ay, PtA bx by_, PtA px py, .int .i64 r, .int .i64 near] (.tup [PtA (pickS ax ay bx by_ px py r near).2.1 (pickS ax ay bx by_ px py r near).2.2, .int .i64 (pickS ax ay bx by_ px py r near).1]) := by
  have O1 := ROff_s ax ay px py r
  have O2 := ROff_s bx by_ px py r
  unfold pickS
  rcases offS_cases ax ay px py r with h1 | ⟨x, h1⟩
  all_goals rw [h1] at O1 ⊢
  · rw [if_pos (by decide)]
    refine Sure.body (by first | (simp only [RT]; done) | simp_all only [RT]) Tryd.func10 rfl (by kernel_rfl) (by kernel_rfl) ?_
    repeat' first
      | (with_reducible first | refine Jj (fun K hK => ?_) | refine Js ?_ | refine Q2 ?_ | refine Qc ?_ | refine Qb ?_ | refine Jg ?_ | refine Jq ?_)
      | (with_reducible refine Qu (O1) (Qo _ _) ?_)
      | (with_reducible refine Jv (fun hc => ?_) (fun hc => ?_) <;> (try simp only [RC] at hc) <;> (try (exfalso; first | omega | contradiction)))
      | (with_reducible refine X3 (fun hc => ?_) (fun hc => ?_) <;> (try simp only [RC] at hc) <;> (try (exfalso; first | omega | contradiction)))
      | (simp only [Q8, Jk, reduceIte, J0])
      | ((with_reducible refine hK _ _ ?_); clear hK)
      | (clear hK; (with_reducible refine hK _ _ ?_); clear hK)
      | (clear hK; clear hK; (with_reducible refine hK _ _ ?_); clear hK)
      | (clear hK; clear hK; clear hK; (with_reducible refine hK _ _ ?_); clear hK)
      | (clear hK; clear hK; clear hK; clear hK; (with_reducible refine hK _ _ ?_); clear hK)
      | (clear hK; clear hK; clear hK; clear hK; clear hK; (with_reducible refine hK _ _ ?_); clear hK)
      | (simp only [Qa, RA, Jo, Jn, Jp, Q7, Q5, ev, ofValue, Ju, J0, J3, J2, J4, reduceCtorEq, reduceIte, Jx, Qm, Qk, Q1, aun, Qj, Jm, Jh, Q0, Jz, Ji, Qi, Jf, Q6, Jr, J1, J5, Ja, J9, Jb, J6, J7, Jd, J8, RB, Jy, Je, RZ, tf10ZcE])
      | (simp (disch := first | omega | (simp only [RO]; done) | assumption) only [RS, RG, Ya, Yc, Zg, Yb])
      | (simp (disch := (first | omega | (simp only [RO]; done) | assumption | (simp only [RM, Je]; done) | (simp only [RL, Je]; omega))) only [RD, reduceCtorEq, reduceIte, Je, J1, J3, J2, J6, tf10ZcE])
    all_goals
      (
       (refine Q9 (rs := [.cell 10 23, .tmp 11]) rfl ?_)
       (simp only [Qt, Q4, RA, RZ, J0, J3, J1, reduceCtorEq, reduceIte, tf10ZcE])
       (try simp only [RF]))
  rw [if_neg (fun h => h rfl)]
  rcases offS_cases bx by_ px py r with h2 | ⟨y, h2⟩
  all_goals rw [h2] at O2 ⊢
  · rw [if_pos (by decide)]
    refine Sure.body (by first | (simp only [RT]; done) | simp_all only [RT]) Tryd.func10 rfl (by kernel_rfl) (by kernel_rfl) ?_
    repeat' first
      | (with_reducible first | refine Jj (fun K hK => ?_) | refine Js ?_ | refine Q2 ?_ | refine Qc ?_ | refine Qb ?_ | refine Jg ?_ | refine Jq ?_)
      | (with_reducible refine Qu (O1) (Qo _ _) ?_)
      | (with_reducible refine Qu (O2) (Qo _ _) ?_)
      | (with_reducible refine Jv (fun hc => ?_) (fun hc => ?_) <;> (try simp only [RC] at hc) <;> (try (exfalso; first | omega | contradiction)))
      | (with_reducible refine X3 (fun hc => ?_) (fun hc => ?_) <;> (try simp only [RC] at hc) <;> (try (exfalso; first | omega | contradiction)))
      | (simp only [Q8, Jk, reduceIte, J0])
      | ((with_reducible refine hK _ _ ?_); clear hK)
      | (clear hK; (with_reducible refine hK _ _ ?_); clear hK)
      | (clear hK; clear hK; (with_reducible refine hK _ _ ?_); clear hK)
      | (clear hK; clear hK; clear hK; (with_reducible refine hK _ _ ?_); clear hK)
      | (clear hK; clear hK; clear hK; clear hK; (with_reducible refine hK _ _ ?_); clear hK)
      | (clear hK; clear hK; clear hK; clear hK; clear hK; (with_reducible refine hK _ _ ?_); clear hK)
      | (simp only [Qa, RA, Jo, Jn, Jp, Q7, Q5, ev, ofValue, Ju, J0, J3, J2, J4, reduceCtorEq, reduceIte, Jx, Qm, Qk, Q1, aun, Qj, Jm, Jh, Q0, Jz, Ji, Qi, Jf, Q6, Jr, J1, J5, Ja, J9, Jb, J6, J7, Jd, J8, RB, Jy, Je, RZ, tf10ZcE])
      | (simp (disch := first | omega | (simp only [RO]; done) | assumption) only [RS, RG, Ya, Yc, Zg, Yb])
      | (simp (disch := (first | omega | (simp only [RO]; done) | assumption | (simp only [RM, Je]; done) | (simp only [RL, Je]; omega))) only [RD, reduceCtorEq, reduceIte, Je, J1, J3, J2, J6, tf10ZcE])
    all_goals
      (
       (refine Q9 (rs := [.cell 10 23, .tmp 11]) rfl ?_)
       (simp only [Qt, Q4, RA, RZ, J0, J3, J1, reduceCtorEq, reduceIte, tf10ZcE])
       (try simp only [RF]))
  rw [if_neg (fun h => h rfl)]
  by_cases hnear : 0 ≤ near ∧ near ≤ 2097152
  · have hk : okR near = true := decide_eq_true hnear
    rw [hk]
    have g1 : (near < 0) = False := eq_false (by omega)
    have g2 : (2097152 < near) = False := eq_false (by omega)
    by_cases hx : x ≤ near <;> by_cases hy : y ≤ near
    all_goals
      have e1 : (near < x) = ¬ (x ≤ near) := propext (by omega)
      have e2 : (near < y) = ¬ (y ≤ near) := propext (by omega)
    all_goals
      refine Sure.body (by first | (simp only [RT]; done) | simp_all only [RT]) Tryd.func10 rfl (by kernel_rfl) (by kernel_rfl) ?_
      repeat' first
        | (with_reducible first | refine Jj (fun K hK => ?_) | refine Js ?_ | refine Q2 ?_ | refine Qc ?_ | refine Qb ?_ | refine Jg ?_ | refine Jq ?_)
        | (with_reducible refine Qu (O1) (Qo _ _) ?_)
        | (with_reducible refine Qu (O2) (Qo _ _) ?_)
        | (with_reducible refine Jv (fun hc => ?_) (fun hc => ?_) <;> (try simp only [RC] at hc) <;> (try (exfalso; first | omega | contradiction)))
        | (with_reducible refine X3 (fun hc => ?_) (fun hc => ?_) <;> (try simp only [RC] at hc) <;> (try (exfalso; first | omega | contradiction)))
        | (simp only [Q8, Jk, reduceIte, J0])
        | ((with_reducible refine hK _ _ ?_); clear hK)
        | (clear hK; (with_reducible refine hK _ _ ?_); clear hK)
        | (clear hK; clear hK; (with_reducible refine hK _ _ ?_); clear hK)
        | (clear hK; clear hK; clear hK; (with_reducible refine hK _ _ ?_); clear hK)
        | (clear hK; clear hK; clear hK; clear hK; (with_reducible refine hK _ _ ?_); clear hK)
        | (clear hK; clear hK; clear hK; clear hK; clear hK; (with_reducible refine hK _ _ ?_); clear hK)
        | (simp only [Qa, RA, Jo, Jn, Jp, Q7, Q5, ev, ofValue, Ju, J0, J3, J2, J4, reduceCtorEq, reduceIte, Jx, Qm, Qk, Q1, aun, Qj, Jm, Jh, Q0, Jz, Ji, Qi, Jf, Q6, Jr, J1, J5, Ja, J9, Jb, J6, J7, Jd, J8, RB, Jy, Je, RZ, tf10ZcE, g1, g2, e1, e2, hx, hy])
        | (simp (disch := first | omega | (simp only [RO]; done) | assumption) only [RS, RG, Ya, Yc, Zg, Yb])
        | (simp (disch := (first | omega | (simp only [RO]; done) | assumption | (simp only [RM, Je]; done) | (simp only [RL, Je]; omega))) only [RD, reduceCtorEq, reduceIte, Je, J1, J3, J2, J6, tf10ZcE, g1, g2, e1, e2, hx, hy])
    all_goals
      (
       (refine Q9 (rs := [.cell 10 23, .tmp 11]) rfl ?_)
       (simp only [Qt, Q4, RA, RZ, J0, J3, J1, reduceCtorEq, reduceIte, tf10ZcE, Bool.not_true, hx, hy, e1, e2])
       (try simp only [RF, Bool.not_true, hx, hy, e1, e2]))
  · have hk : okR near = false := decide_eq_false hnear
    rw [hk]
    by_cases g1 : near < 0 <;> by_cases g2 : 2097152 < near
    all_goals first
      | (exfalso; omega)
      | skip
    all_goals
      refine Sure.body (by first | (simp only [RT]; done) | simp_all only [RT]) Tryd.func10 rfl (by kernel_rfl) (by kernel_rfl) ?_
      repeat' first
        | (with_reducible first | refine Jj (fun K hK => ?_) | refine Js ?_ | refine Q2 ?_ | refine Qc ?_ | refine Qb ?_ | refine Jg ?_ | refine Jq ?_)
        | (with_reducible refine Qu (O1) (Qo _ _) ?_)
        | (with_reducible refine Qu (O2) (Qo _ _) ?_)
        | (with_reducible refine Jv (fun hc => ?_) (fun hc => ?_) <;> (try simp only [RC] at hc) <;> (try (exfalso; first | omega | contradiction)))
        | (with_reducible refine X3 (fun hc => ?_) (fun hc => ?_) <;> (try simp only [RC] at hc) <;> (try (exfalso; first | omega | contradiction)))
        | (simp only [Q8, Jk, reduceIte, J0])
        | ((with_reducible refine hK _ _ ?_); clear hK)
        | (clear hK; (with_reducible refine hK _ _ ?_); clear hK)
        | (clear hK; clear hK; (with_reducible refine hK _ _ ?_); clear hK)
        | (clear hK; clear hK; clear hK; (with_reducible refine hK _ _ ?_); clear hK)
        | (clear hK; clear hK; clear hK; clear hK; (with_reducible refine hK _ _ ?_); clear hK)
        | (clear hK; clear hK; clear hK; clear hK; clear hK; (with_reducible refine hK _ _ ?_); clear hK)
        | (simp only [Qa, RA, Jo, Jn, Jp, Q7, Q5, ev, ofValue, Ju, J0, J3, J2, J4, reduceCtorEq, reduceIte, Jx, Qm, Qk, Q1, aun, Qj, Jm, Jh, Q0, Jz, Ji, Qi, Jf, Q6, Jr, J1, J5, Ja, J9, Jb, J6, J7, Jd, J8, RB, Jy, Je, RZ, tf10ZcE, g1, g2])
        | (simp (disch := first | omega | (simp only [RO]; done) | assumption) only [RS, RG, Ya, Yc, Zg, Yb])
        | (simp (disch := (first | omega | (simp only [RO]; done) | assumption | (simp only [RM, Je]; done) | (simp only [RL, Je]; omega))) only [RD, reduceCtorEq, reduceIte, Je, J1, J3, J2, J6, tf10ZcE, g1, g2])
    all_goals
      (
       (refine Q9 (rs := [.cell 10 23, .tmp 11]) rfl ?_)
       (simp only [Qt, Q4, RA, RZ, J0, J3, J1, reduceCtorEq, reduceIte, tf10ZcE, Bool.not_false])
       (try simp only [RF, Bool.not_false]))
end Go.Proofs.YtlgpemndbfclfaaDoor

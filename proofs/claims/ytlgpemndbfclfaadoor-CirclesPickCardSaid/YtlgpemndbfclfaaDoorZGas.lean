/- Part 19 of the proof of laws of this seat: lemmas on the model's code, on this program's functions, on numbers. No condition. -/
import Derived.Test.YtlgpemndbfclfaaDoorZGar
set_option linter.unusedVariables false
set_option linter.unusedSimpArgs false
open Nat renaming reduceEqDiff → J0, reduceLeDiff → J1, reduceMul → J2, reduceAdd → J3, reduceSub → J4, reduceLT → J5
open Int renaming reduceToNat → J6, reducePow → J7, reduceNeg → J8, reduceLT → J9, reduceLE → Ja, reduceEq → Jb
open And renaming intro → Jc
open Go.IntKind renaming bits → Jd
open Go.PW renaming dig_length → Je
namespace Go.Proofs.YtlgpemndbfclfaaDoor
open Go.AL Go.PW Go.PD Go.PR
theorem Yn : type_of% (Jc @Xz (Jc @Gj (Jc @Zs (Jc @Zr (@Rw))))) := Jc @Xz (Jc @Gj (Jc @Zs (Jc @Zr (@Rw))))
theorem tf7ZcA : type_of% (Jc @Yj (Jc @Xz (Jc @Uq (Jc @Up (Jc @Zs (@Zr)))))) := Jc @Yj (Jc @Xz (Jc @Uq (Jc @Up (Jc @Zs (@Zr)))))
set_option maxRecDepth 8000
theorem eq_pt (a b c d0 : Int) : X5 Tryd.prog Op.maxDepth 23 (PtA a b) (PtA c d0) = some (a == c && b == d0) := by
  have hs : Tryd.prog.stoodInHeld 23 = false := by kernel_rfl
  have key : ∀ d, X5 Tryd.prog (d + 1 + 1) 23 (PtA a b) (PtA c d0) = some (a == c && b == d0) := fun d => by
    simp [X5, Gr, hs, apart, agg2, Vc, und2]
  exact key (Op.maxDepth - 2)
theorem errC_ne {n : Int} (h : n ≠ 0) : errC n = J1k Wt n := if_neg h
theorem says_s (m n : Int) (hm : -9223372036854775808 ≤ m ∧ m ≤ 9223372036854775807) : Fn 13 [errC m, .int .i64 n] (.bool (decide (m = n))) := by
  have w : IntKind.i64.wrap m = m := Q3 hm.1 hm.2
  by_cases hn : n = 0
  · subst hn
    by_cases h0 : m = 0
    · subst h0
      rw [Zf]
      refine Sure.body (by first | (simp only [RT]; done) | simp_all only [RT]) Tryd.func13 rfl (by kernel_rfl) (by kernel_rfl) ?_
      repeat' first
        | (with_reducible first | refine Jj (fun K hK => ?_) | refine Js ?_ | refine Q2 ?_ | refine Qc ?_ | refine Qb ?_ | refine Jg ?_ | refine Jq ?_)
        | (with_reducible refine Jv (fun hc => ?_) (fun hc => ?_) <;> (try simp only [RC] at hc) <;> (try (exfalso; first | omega | contradiction)))
        | (with_reducible refine X3 (fun hc => ?_) (fun hc => ?_) <;> (try simp only [RC] at hc) <;> (try (exfalso; first | omega | contradiction)))
        | (simp only [Q8, Jk, reduceIte, J0])
        | ((with_reducible refine hK _ _ ?_); clear hK)
        | (clear hK; (with_reducible refine hK _ _ ?_); clear hK)
        | (clear hK; clear hK; (with_reducible refine hK _ _ ?_); clear hK)
        | (clear hK; clear hK; clear hK; (with_reducible refine hK _ _ ?_); clear hK)
        | (clear hK; clear hK; clear hK; clear hK; (with_reducible refine hK _ _ ?_); clear hK)
        | (clear hK; clear hK; clear hK; clear hK; clear hK; (with_reducible refine hK _ _ ?_); clear hK)
        | (simp only [Qa, RA, Jo, Jn, Jp, Q7, Q5, ev, ofValue, Ju, J0, J3, J2, J4, reduceCtorEq, reduceIte, Jx, Qm, Qk, Q1, aun, Qj, Jm, Jh, Q0, Jz, Ji, Qi, Jf, Q6, Jr, J1, J5, Ja, J9, Jb, J6, J7, Jd, J8, RB, Jy, Je, RZ, Yn, Z7 Z0])
        | (simp (disch := first | omega | (simp only [RO]; done) | assumption) only [RS, RG, Gf, Gh, Gd])
        | (simp (disch := (first | omega | (simp only [RO]; done) | assumption | (simp only [RM, Je]; done) | (simp only [RL, Je]; omega))) only [RD, reduceCtorEq, reduceIte, Je, J1, J3, J2, J6, Yn, Z7 Z0])
      all_goals
        (
         (refine Q9 (rs := [.tmp 4]) rfl ?_)
         (simp only [Qt, Q4, RA, RZ, J0, J3, J1, reduceCtorEq, reduceIte, Yn])
         (try simp only [RF]))
    · rw [errC_ne h0]
      refine Sure.body (by first | (simp only [RT]; done) | simp_all only [RT]) Tryd.func13 rfl (by kernel_rfl) (by kernel_rfl) ?_
      repeat' first
        | (with_reducible first | refine Jj (fun K hK => ?_) | refine Js ?_ | refine Q2 ?_ | refine Qc ?_ | refine Qb ?_ | refine Jg ?_ | refine Jq ?_)
        | (with_reducible refine Jv (fun hc => ?_) (fun hc => ?_) <;> (try simp only [RC] at hc) <;> (try (exfalso; first | omega | contradiction)))
        | (with_reducible refine X3 (fun hc => ?_) (fun hc => ?_) <;> (try simp only [RC] at hc) <;> (try (exfalso; first | omega | contradiction)))
        | (simp only [Q8, Jk, reduceIte, J0])
        | ((with_reducible refine hK _ _ ?_); clear hK)
        | (clear hK; (with_reducible refine hK _ _ ?_); clear hK)
        | (clear hK; clear hK; (with_reducible refine hK _ _ ?_); clear hK)
        | (clear hK; clear hK; clear hK; (with_reducible refine hK _ _ ?_); clear hK)
        | (clear hK; clear hK; clear hK; clear hK; (with_reducible refine hK _ _ ?_); clear hK)
        | (clear hK; clear hK; clear hK; clear hK; clear hK; (with_reducible refine hK _ _ ?_); clear hK)
        | (simp only [Qa, RA, Jo, Jn, Jp, Q7, Q5, ev, ofValue, Ju, J0, J3, J2, J4, reduceCtorEq, reduceIte, Jx, Qm, Qk, Q1, aun, Qj, Jm, Jh, Q0, Jz, Ji, Qi, Jf, Q6, Jr, J1, J5, Ja, J9, Jb, J6, J7, Jd, J8, RB, Jy, Je, RZ, Yn, Xq Z0])
        | (simp (disch := first | omega | (simp only [RO]; done) | assumption) only [RS, RG, Gf, Gh, Gd])
        | (simp (disch := (first | omega | (simp only [RO]; done) | assumption | (simp only [RM, Je]; done) | (simp only [RL, Je]; omega))) only [RD, reduceCtorEq, reduceIte, Je, J1, J3, J2, J6, Yn, Xq Z0])
      all_goals
        (
         (refine Q9 (rs := [.tmp 4]) rfl ?_)
         (simp only [Qt, Q4, RA, RZ, J0, J3, J1, reduceCtorEq, reduceIte, Yn])
         (try simp only [RF]))
      all_goals simp [h0]
  have f0 : (n = 0) = False := eq_false hn
  by_cases h0 : m = 0
  · subst h0
    have f1 : ((0 : Int) = n) = False := eq_false (fun h => hn h.symm)
    rw [Zf]
    refine Sure.body (by first | (simp only [RT]; done) | simp_all only [RT]) Tryd.func13 rfl (by kernel_rfl) (by kernel_rfl) ?_
    repeat' first
      | (with_reducible first | refine Jj (fun K hK => ?_) | refine Js ?_ | refine Q2 ?_ | refine Qc ?_ | refine Qb ?_ | refine Jg ?_ | refine Jq ?_)
      | (with_reducible refine Qu (ops_nil) (Qo _ _) ?_)
      | (with_reducible refine Qu (code_nil) (Qo _ _) ?_)
      | (with_reducible refine Jv (fun hc => ?_) (fun hc => ?_) <;> (try simp only [RC] at hc) <;> (try (exfalso; first | omega | contradiction)))
      | (with_reducible refine X3 (fun hc => ?_) (fun hc => ?_) <;> (try simp only [RC] at hc) <;> (try (exfalso; first | omega | contradiction)))
      | (simp only [Q8, Jk, reduceIte, J0])
      | ((with_reducible refine hK _ _ ?_); clear hK)
      | (clear hK; (with_reducible refine hK _ _ ?_); clear hK)
      | (clear hK; clear hK; (with_reducible refine hK _ _ ?_); clear hK)
      | (clear hK; clear hK; clear hK; (with_reducible refine hK _ _ ?_); clear hK)
      | (clear hK; clear hK; clear hK; clear hK; (with_reducible refine hK _ _ ?_); clear hK)
      | (clear hK; clear hK; clear hK; clear hK; clear hK; (with_reducible refine hK _ _ ?_); clear hK)
      | (simp only [Qa, RA, Jo, Jn, Jp, Q7, Q5, ev, ofValue, Ju, J0, J3, J2, J4, reduceCtorEq, reduceIte, Jx, Qm, Qk, Q1, aun, Qj, Jm, Jh, Q0, Jz, Ji, Qi, Jf, Q6, Jr, J1, J5, Ja, J9, Jb, J6, J7, Jd, J8, RB, Jy, Je, RZ, Yn, f0, f1])
      | (simp (disch := first | omega | (simp only [RO]; done) | assumption) only [RS, RG, Gf, Gh, Gd])
      | (simp (disch := (first | omega | (simp only [RO]; done) | assumption | (simp only [RM, Je]; done) | (simp only [RL, Je]; omega))) only [RD, reduceCtorEq, reduceIte, Je, J1, J3, J2, J6, Yn, f0, f1])
    all_goals
      (
       (refine Q9 (rs := [.tmp 4]) rfl ?_)
       (simp only [Qt, Q4, RA, RZ, J0, J3, J1, reduceCtorEq, reduceIte, Yn])
       (try simp only [RF]))
    all_goals simp [f1]
  · rw [errC_ne h0]
    by_cases hmn : m = n
    · subst hmn
      refine Sure.body (by first | (simp only [RT]; done) | simp_all only [RT]) Tryd.func13 rfl (by kernel_rfl) (by kernel_rfl) ?_
      repeat' first
        | (with_reducible first | refine Jj (fun K hK => ?_) | refine Js ?_ | refine Q2 ?_ | refine Qc ?_ | refine Qb ?_ | refine Jg ?_ | refine Jq ?_)
        | (with_reducible refine Qu (ops_s Wt m) (Qo _ _) ?_)
        | (with_reducible refine Qu (code_s Wt m) (Qo _ _) ?_)
        | (with_reducible refine Jv (fun hc => ?_) (fun hc => ?_) <;> (try simp only [RC] at hc) <;> (try (exfalso; first | omega | contradiction)))
        | (with_reducible refine X3 (fun hc => ?_) (fun hc => ?_) <;> (try simp only [RC] at hc) <;> (try (exfalso; first | omega | contradiction)))
        | (simp only [Q8, Jk, reduceIte, J0])
        | ((with_reducible refine hK _ _ ?_); clear hK)
        | (clear hK; (with_reducible refine hK _ _ ?_); clear hK)
        | (clear hK; clear hK; (with_reducible refine hK _ _ ?_); clear hK)
        | (clear hK; clear hK; clear hK; (with_reducible refine hK _ _ ?_); clear hK)
        | (clear hK; clear hK; clear hK; clear hK; (with_reducible refine hK _ _ ?_); clear hK)
        | (clear hK; clear hK; clear hK; clear hK; clear hK; (with_reducible refine hK _ _ ?_); clear hK)
        | (simp only [Qa, RA, Jo, Jn, Jp, Q7, Q5, ev, ofValue, Ju, J0, J3, J2, J4, reduceCtorEq, reduceIte, Jx, Qm, Qk, Q1, aun, Qj, Jm, Jh, Q0, Jz, Ji, Qi, Jf, Q6, Jr, J1, J5, Ja, J9, Jb, J6, J7, Jd, J8, RB, Jy, Je, RZ, Yn, f0, w])
        | (simp (disch := first | omega | (simp only [RO]; done) | assumption) only [RS, RG, Gf, Gh, Gd])
        | (simp (disch := (first | omega | (simp only [RO]; done) | assumption | (simp only [RM, Je]; done) | (simp only [RL, Je]; omega))) only [RD, reduceCtorEq, reduceIte, Je, J1, J3, J2, J6, Yn, f0, w])
      all_goals
        (
         (refine Q9 (rs := [.tmp 4]) rfl ?_)
         (simp only [Qt, Q4, RA, RZ, J0, J3, J1, reduceCtorEq, reduceIte, Yn])
         (try simp only [RF]))
    · have f1 : (m = n) = False := eq_false hmn
      refine Sure.body (by first | (simp only [RT]; done) | simp_all only [RT]) Tryd.func13 rfl (by kernel_rfl) (by kernel_rfl) ?_
      repeat' first
        | (with_reducible first | refine Jj (fun K hK => ?_) | refine Js ?_ | refine Q2 ?_ | refine Qc ?_ | refine Qb ?_ | refine Jg ?_ | refine Jq ?_)
        | (with_reducible refine Qu (ops_s Wt m) (Qo _ _) ?_)
        | (with_reducible refine Qu (code_s Wt m) (Qo _ _) ?_)
        | (with_reducible refine Jv (fun hc => ?_) (fun hc => ?_) <;> (try simp only [RC] at hc) <;> (try (exfalso; first | omega | contradiction)))
        | (with_reducible refine X3 (fun hc => ?_) (fun hc => ?_) <;> (try simp only [RC] at hc) <;> (try (exfalso; first | omega | contradiction)))
        | (simp only [Q8, Jk, reduceIte, J0])
        | ((with_reducible refine hK _ _ ?_); clear hK)
        | (clear hK; (with_reducible refine hK _ _ ?_); clear hK)
        | (clear hK; clear hK; (with_reducible refine hK _ _ ?_); clear hK)
        | (clear hK; clear hK; clear hK; (with_reducible refine hK _ _ ?_); clear hK)
        | (clear hK; clear hK; clear hK; clear hK; (with_reducible refine hK _ _ ?_); clear hK)
        | (clear hK; clear hK; clear hK; clear hK; clear hK; (with_reducible refine hK _ _ ?_); clear hK)
        | (simp only [Qa, RA, Jo, Jn, Jp, Q7, Q5, ev, ofValue, Ju, J0, J3, J2, J4, reduceCtorEq, reduceIte, Jx, Qm, Qk, Q1, aun, Qj, Jm, Jh, Q0, Jz, Ji, Qi, Jf, Q6, Jr, J1, J5, Ja, J9, Jb, J6, J7, Jd, J8, RB, Jy, Je, RZ, Yn, f0, w, f1])
        | (simp (disch := first | omega | (simp only [RO]; done) | assumption) only [RS, RG, Gf, Gh, Gd])
        | (simp (disch := (first | omega | (simp only [RO]; done) | assumption | (simp only [RM, Je]; done) | (simp only [RL, Je]; omega))) only [RD, reduceCtorEq, reduceIte, Je, J1, J3, J2, J6, Yn, f0, w, f1])
      all_goals
        (
         (refine Q9 (rs := [.tmp 4]) rfl ?_)
         (simp only [Qt, Q4, RA, RZ, J0, J3, J1, reduceCtorEq, reduceIte, Yn])
         (try simp only [RF]))
theorem known_s : Fn 7 [] (.bool true) := by
  have M1 := Meet_s 0 0 5000 6000 0 5000 1000
  have M2 := Meet_s 0 0 5000 6 0 5000 1000
  have P1 := Pick_s 3000 4000 3000 (-4000) 0 4000 3000 10
  have S1 := says_s 33 33 (by decide)
  rw [show J09 0 0 5000 6000 0 5000 1000 = (0, (3000, 4000), (3000, -4000)) by decide +kernel] at M1
  rw [show J09 0 0 5000 6 0 5000 1000 = (33, (0, 0), (0, 0)) by decide +kernel] at M2
  rw [show pickS 3000 4000 3000 (-4000) 0 4000 3000 10 = (0, 3000, 4000) by decide +kernel] at P1
  rw [Vz] at S1
  refine Sure.body (by first | (simp only [RT]; done) | simp_all only [RT]) Tryd.func7 rfl (by kernel_rfl) (by kernel_rfl) ?_
  repeat' first
    | (with_reducible first | refine Jj (fun K hK => ?_) | refine Js ?_ | refine Q2 ?_ | refine Qc ?_ | refine Qb ?_ | refine Jg ?_ | refine Jq ?_)
    | (with_reducible refine Qu (M1) (Qo _ _) ?_)
    | (with_reducible refine Qu (M2) (Qo _ _) ?_)
    | (with_reducible refine Qu (P1) (Qo _ _) ?_)
    | (with_reducible refine Qu (S1) (Qo _ _) ?_)
    | (with_reducible refine Jv (fun hc => ?_) (fun hc => ?_) <;> (try simp only [RC] at hc) <;> (try (exfalso; first | omega | contradiction)))
    | (with_reducible refine X3 (fun hc => ?_) (fun hc => ?_) <;> (try simp only [RC] at hc) <;> (try (exfalso; first | omega | contradiction)))
    | (simp only [Q8, Jk, reduceIte, J0])
    | ((with_reducible refine hK _ _ ?_); clear hK)
    | (clear hK; (with_reducible refine hK _ _ ?_); clear hK)
    | (clear hK; clear hK; (with_reducible refine hK _ _ ?_); clear hK)
    | (clear hK; clear hK; clear hK; (with_reducible refine hK _ _ ?_); clear hK)
    | (clear hK; clear hK; clear hK; clear hK; (with_reducible refine hK _ _ ?_); clear hK)
    | (clear hK; clear hK; clear hK; clear hK; clear hK; (with_reducible refine hK _ _ ?_); clear hK)
    | (simp only [Qa, RA, Jo, Jn, Jp, Q7, Q5, ev, ofValue, Ju, J0, J3, J2, J4, reduceCtorEq, reduceIte, Jx, Qm, Qk, Q1, aun, Qj, Jm, Jh, Q0, Jz, Ji, Qi, Jf, Q6, Jr, J1, J5, Ja, J9, Jb, J6, J7, Jd, J8, RB, Jy, Je, RZ, tf7ZcA, Vw, Zf, Vz, Z7 Z0, eq_pt])
    | (simp (disch := first | omega | (simp only [RO]; done) | assumption) only [RS, RG, Ya, Yc, Zg, Yb])
    | (simp (disch := (first | omega | (simp only [RO]; done) | assumption | (simp only [RM, Je]; done) | (simp only [RL, Je]; omega))) only [RD, reduceCtorEq, reduceIte, Je, J1, J3, J2, J6, tf7ZcA, Vw, Zf, Vz, Z7 Z0, eq_pt])
  all_goals
    (
     (refine Q9 (rs := [.tmp 0]) rfl ?_)
     (simp only [Qt, Q4, RA, RZ, J0, J3, J1, reduceCtorEq, reduceIte, tf7ZcA])
     (try simp only [RF]))
end Go.Proofs.YtlgpemndbfclfaaDoor

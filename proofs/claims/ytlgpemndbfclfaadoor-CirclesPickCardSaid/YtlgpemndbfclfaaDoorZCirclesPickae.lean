/- Part 5 of the proof of the law CirclesPick: lemmas on the model's code, on this program's functions, on numbers. No condition. -/
import Derived.Test.YtlgpemndbfclfaaDoorZCirclesPickad
set_option linter.unusedVariables false
set_option linter.unusedSimpArgs false
open Nat renaming reduceEqDiff → J0, reduceLeDiff → J1, reduceMul → J2, reduceAdd → J3, reduceSub → J4, reduceLT → J5
open Int renaming reduceToNat → J6, reducePow → J7, reduceNeg → J8, reduceLT → J9, reduceLE → Ja, reduceEq → Jb
open And renaming intro → Jc
open Go.IntKind renaming bits → Jd
open Go.PW renaming dig_length → Je
namespace Go.Proofs.YtlgpemndbfclfaaDoor
open Go.AL Go.PW Go.PD Go.PR
theorem tf3ZcF : type_of% (Jc @Yj (Jc @Xz (Jc @Zn (Jc @Uq (Jc @Up (Jc @tyb27 (Jc @Zs (@Zr)))))))) := Jc @Yj (Jc @Xz (Jc @Zn (Jc @Uq (Jc @Up (Jc @tyb27 (Jc @Zs (@Zr)))))))
abbrev pn3_4ZcF : Plan := (.one 0 (.one 1 (.one 2 (.one 3 (.one 4 (.one 5 (.one 6 (.one 7 (.one 10 (.one 14 (.one 17 (.alt 8 (.one 9 (.alt 11 (.one 12 (.one 13 (.alt 15 (.one 16 (.alt 18 (.one 19 (.one 20 (.one 21 (.one 22 (.one 23 .nil))))) (.one 21 (.alt 18 (.one 19 (.one 20 (.one 22 (.one 23 .nil)))) (.one 22 (.one 18 (.one 19 (.one 20 (.one 23 .nil))))))))) (.alt 18 (.one 19 (.alt 15 (.one 16 (.one 20 (.one 21 (.one 22 (.one 23 .nil))))) (.one 21 (.alt 15 (.one 16 (.one 20 (.one 22 (.one 23 .nil)))) (.one 22 (.one 15 (.one 16 (.one 20 (.one 23 .nil))))))))) (.one 21 (.alt 15 (.one 16 (.alt 18 (.one 19 (.one 20 (.one 22 (.one 23 .nil)))) (.one 22 (.one 18 (.one 19 (.one 20 (.one 23 .nil))))))) (.alt 18 (.one 19 (.alt 15 (.one 16 (.one 20 (.one 22 (.one 23 .nil)))) (.one 22 (.one 15 (.one 16 (.one 20 (.one 23 .nil))))))) (.one 22 (.one 15 (.one 16 (.one 18 (.one 19 (.one 20 (.one 23 .nil)))))))))))))) (.alt 15 (.one 16 (.alt 11 (.one 12 (.one 13 (.alt 18 (.one 19 (.one 20 (.one 21 (.one 22 (.one 23 .nil))))) (.one 21 (.alt 18 (.one 19 (.one 20 (.one 22 (.one 23 .nil)))) (.one 22 (.one 18 (.one 19 (.one 20 (.one 23 .nil)))))))))) (.alt 18 (.one 19 (.one 20 (.alt 11 (.one 12 (.one 13 (.one 21 (.one 22 (.one 23 .nil))))) (.one 21 (.one 11 (.one 12 (.one 13 (.one 22 (.one 23 .nil))))))))) (.one 21 (.one 11 (.one 12 (.one 13 (.alt 18 (.one 19 (.one 20 (.one 22 (.one 23 .nil)))) (.one 22 (.one 18 (.one 19 (.one 20 (.one 23 .nil))))))))))))) (.alt 18 (.one 19 (.alt 11 (.one 12 (.one 13 (.alt 15 (.one 16 (.one 20 (.one 21 (.one 22 (.one 23 .nil))))) (.one 21 (.alt 15 (.one 16 (.one 20 (.one 22 (.one 23 .nil)))) (.one 22 (.one 15 (.one 16 (.one 20 (.one 23 .nil)))))))))) (.alt 15 (.one 16 (.one 20 (.alt 11 (.one 12 (.one 13 (.one 21 (.one 22 (.one 23 .nil))))) (.one 21 (.one 11 (.one 12 (.one 13 (.one 22 (.one 23 .nil))))))))) (.one 21 (.one 11 (.one 12 (.one 13 (.alt 15 (.one 16 (.one 20 (.one 22 (.one 23 .nil)))) (.one 22 (.one 15 (.one 16 (.one 20 (.one 23 .nil))))))))))))) (.one 21 (.one 11 (.one 12 (.one 13 (.alt 15 (.one 16 (.alt 18 (.one 19 (.one 20 (.one 22 (.one 23 .nil)))) (.one 22 (.one 18 (.one 19 (.one 20 (.one 23 .nil))))))) (.alt 18 (.one 19 (.alt 15 (.one 16 (.one 20 (.one 22 (.one 23 .nil)))) (.one 22 (.one 15 (.one 16 (.one 20 (.one 23 .nil))))))) (.one 22 (.one 15 (.one 16 (.one 18 (.one 19 (.one 20 (.one 23 .nil))))))))))))))))) (.alt 11 (.one 12 (.alt 8 (.one 9 (.one 13 (.alt 15 (.one 16 (.alt 18 (.one 19 (.one 20 (.one 21 (.one 22 (.one 23 .nil))))) (.one 21 (.alt 18 (.one 19 (.one 20 (.one 22 (.one 23 .nil)))) (.one 22 (.one 18 (.one 19 (.one 20 (.one 23 .nil))))))))) (.alt 18 (.one 19 (.alt 15 (.one 16 (.one 20 (.one 21 (.one 22 (.one 23 .nil))))) (.one 21 (.alt 15 (.one 16 (.one 20 (.one 22 (.one 23 .nil)))) (.one 22 (.one 15 (.one 16 (.one 20 (.one 23 .nil))))))))) (.one 21 (.alt 15 (.one 16 (.alt 18 (.one 19 (.one 20 (.one 22 (.one 23 .nil)))) (.one 22 (.one 18 (.one 19 (.one 20 (.one 23 .nil))))))) (.alt 18 (.one 19 (.alt 15 (.one 16 (.one 20 (.one 22 (.one 23 .nil)))) (.one 22 (.one 15 (.one 16 (.one 20 (.one 23 .nil))))))) (.one 22 (.one 15 (.one 16 (.one 18 (.one 19 (.one 20 (.one 23 .nil)))))))))))))) (.alt 15 (.one 16 (.alt 8 (.one 9 (.one 13 (.alt 18 (.one 19 (.one 20 (.one 21 (.one 22 (.one 23 .nil))))) (.one 21 (.alt 18 (.one 19 (.one 20 (.one 22 (.one 23 .nil)))) (.one 22 (.one 18 (.one 19 (.one 20 (.one 23 .nil)))))))))) (.alt 18 (.one 19 (.one 20 (.alt 8 (.one 9 (.one 13 (.one 21 (.one 22 (.one 23 .nil))))) (.one 21 (.one 8 (.one 9 (.one 13 (.one 22 (.one 23 .nil))))))))) (.one 21 (.one 8 (.one 9 (.one 13 (.alt 18 (.one 19 (.one 20 (.one 22 (.one 23 .nil)))) (.one 22 (.one 18 (.one 19 (.one 20 (.one 23 .nil))))))))))))) (.alt 18 (.one 19 (.alt 8 (.one 9 (.one 13 (.alt 15 (.one 16 (.one 20 (.one 21 (.one 22 (.one 23 .nil))))) (.one 21 (.alt 15 (.one 16 (.one 20 (.one 22 (.one 23 .nil)))) (.one 22 (.one 15 (.one 16 (.one 20 (.one 23 .nil)))))))))) (.alt 15 (.one 16 (.one 20 (.alt 8 (.one 9 (.one 13 (.one 21 (.one 22 (.one 23 .nil))))) (.one 21 (.one 8 (.one 9 (.one 13 (.one 22 (.one 23 .nil))))))))) (.one 21 (.one 8 (.one 9 (.one 13 (.alt 15 (.one 16 (.one 20 (.one 22 (.one 23 .nil)))) (.one 22 (.one 15 (.one 16 (.one 20 (.one 23 .nil))))))))))))) (.one 21 (.one 8 (.one 9 (.one 13 (.alt 15 (.one 16 (.alt 18 (.one 19 (.one 20 (.one 22 (.one 23 .nil)))) (.one 22 (.one 18 (.one 19 (.one 20 (.one 23 .nil))))))) (.alt 18 (.one 19 (.alt 15 (.one 16 (.one 20 (.one 22 (.one 23 .nil)))) (.one 22 (.one 15 (.one 16 (.one 20 (.one 23 .nil))))))) (.one 22 (.one 15 (.one 16 (.one 18 (.one 19 (.one 20 (.one 23 .nil))))))))))))))))) (.alt 15 (.one 16 (.alt 8 (.one 9 (.alt 11 (.one 12 (.one 13 (.alt 18 (.one 19 (.one 20 (.one 21 (.one 22 (.one 23 .nil))))) (.one 21 (.alt 18 (.one 19 (.one 20 (.one 22 (.one 23 .nil)))) (.one 22 (.one 18 (.one 19 (.one 20 (.one 23 .nil)))))))))) (.alt 18 (.one 19 (.one 20 (.alt 11 (.one 12 (.one 13 (.one 21 (.one 22 (.one 23 .nil))))) (.one 21 (.one 11 (.one 12 (.one 13 (.one 22 (.one 23 .nil))))))))) (.one 21 (.one 11 (.one 12 (.one 13 (.alt 18 (.one 19 (.one 20 (.one 22 (.one 23 .nil)))) (.one 22 (.one 18 (.one 19 (.one 20 (.one 23 .nil))))))))))))) (.alt 11 (.one 12 (.alt 8 (.one 9 (.one 13 (.alt 18 (.one 19 (.one 20 (.one 21 (.one 22 (.one 23 .nil))))) (.one 21 (.alt 18 (.one 19 (.one 20 (.one 22 (.one 23 .nil)))) (.one 22 (.one 18 (.one 19 (.one 20 (.one 23 .nil)))))))))) (.alt 18 (.one 19 (.one 20 (.alt 8 (.one 9 (.one 13 (.one 21 (.one 22 (.one 23 .nil))))) (.one 21 (.one 8 (.one 9 (.one 13 (.one 22 (.one 23 .nil))))))))) (.one 21 (.one 8 (.one 9 (.one 13 (.alt 18 (.one 19 (.one 20 (.one 22 (.one 23 .nil)))) (.one 22 (.one 18 (.one 19 (.one 20 (.one 23 .nil))))))))))))) (.alt 18 (.one 19 (.one 20 (.alt 8 (.one 9 (.alt 11 (.one 12 (.one 13 (.one 21 (.one 22 (.one 23 .nil))))) (.one 21 (.one 11 (.one 12 (.one 13 (.one 22 (.one 23 .nil)))))))) (.alt 11 (.one 12 (.alt 8 (.one 9 (.one 13 (.one 21 (.one 22 (.one 23 .nil))))) (.one 21 (.one 8 (.one 9 (.one 13 (.one 22 (.one 23 .nil)))))))) (.one 21 (.one 8 (.one 9 (.one 11 (.one 12 (.one 13 (.one 22 (.one 23 .nil)))))))))))) (.one 21 (.one 8 (.one 9 (.one 11 (.one 12 (.one 13 (.alt 18 (.one 19 (.one 20 (.one 22 (.one 23 .nil)))) (.one 22 (.one 18 (.one 19 (.one 20 (.one 23 .nil)))))))))))))))) (.alt 18 (.one 19 (.alt 8 (.one 9 (.alt 11 (.one 12 (.one 13 (.alt 15 (.one 16 (.one 20 (.one 21 (.one 22 (.one 23 .nil))))) (.one 21 (.alt 15 (.one 16 (.one 20 (.one 22 (.one 23 .nil)))) (.one 22 (.one 15 (.one 16 (.one 20 (.one 23 .nil)))))))))) (.alt 15 (.one 16 (.one 20 (.alt 11 (.one 12 (.one 13 (.one 21 (.one 22 (.one 23 .nil))))) (.one 21 (.one 11 (.one 12 (.one 13 (.one 22 (.one 23 .nil))))))))) (.one 21 (.one 11 (.one 12 (.one 13 (.alt 15 (.one 16 (.one 20 (.one 22 (.one 23 .nil)))) (.one 22 (.one 15 (.one 16 (.one 20 (.one 23 .nil))))))))))))) (.alt 11 (.one 12 (.alt 8 (.one 9 (.one 13 (.alt 15 (.one 16 (.one 20 (.one 21 (.one 22 (.one 23 .nil))))) (.one 21 (.alt 15 (.one 16 (.one 20 (.one 22 (.one 23 .nil)))) (.one 22 (.one 15 (.one 16 (.one 20 (.one 23 .nil)))))))))) (.alt 15 (.one 16 (.one 20 (.alt 8 (.one 9 (.one 13 (.one 21 (.one 22 (.one 23 .nil))))) (.one 21 (.one 8 (.one 9 (.one 13 (.one 22 (.one 23 .nil))))))))) (.one 21 (.one 8 (.one 9 (.one 13 (.alt 15 (.one 16 (.one 20 (.one 22 (.one 23 .nil)))) (.one 22 (.one 15 (.one 16 (.one 20 (.one 23 .nil))))))))))))) (.alt 15 (.one 16 (.one 20 (.alt 8 (.one 9 (.alt 11 (.one 12 (.one 13 (.one 21 (.one 22 (.one 23 .nil))))) (.one 21 (.one 11 (.one 12 (.one 13 (.one 22 (.one 23 .nil)))))))) (.alt 11 (.one 12 (.alt 8 (.one 9 (.one 13 (.one 21 (.one 22 (.one 23 .nil))))) (.one 21 (.one 8 (.one 9 (.one 13 (.one 22 (.one 23 .nil)))))))) (.one 21 (.one 8 (.one 9 (.one 11 (.one 12 (.one 13 (.one 22 (.one 23 .nil)))))))))))) (.one 21 (.one 8 (.one 9 (.one 11 (.one 12 (.one 13 (.alt 15 (.one 16 (.one 20 (.one 22 (.one 23 .nil)))) (.one 22 (.one 15 (.one 16 (.one 20 (.one 23 .nil)))))))))))))))) (.one 21 (.one 8 (.one 9 (.one 11 (.one 12 (.one 13 (.alt 15 (.one 16 (.alt 18 (.one 19 (.one 20 (.one 22 (.one 23 .nil)))) (.one 22 (.one 18 (.one 19 (.one 20 (.one 23 .nil))))))) (.alt 18 (.one 19 (.alt 15 (.one 16 (.one 20 (.one 22 (.one 23 .nil)))) (.one 22 (.one 15 (.one 16 (.one 20 (.one 23 .nil))))))) (.one 22 (.one 15 (.one 16 (.one 18 (.one 19 (.one 20 (.one 23 .nil))))))))))))))))))))))))))))))
set_option maxRecDepth 8000
theorem says_same (m : Int) (hm : 0 ≤ m ∧ m ≤ 100) : Fn 13 [errC m, .int .i64 m] (.bool true) := by
  have := says_s m m (by omega)
  rwa [decide_eq_true rfl] at this
theorem offS_b (ax ay px py r : Int) : 0 ≤ (offS ax ay px py r).1 ∧ (offS ax ay px py r).1 ≤ 100 := by
  rcases offS_cases ax ay px py r with h | ⟨n, h⟩ <;> rw [h] <;> constructor <;> simp
theorem pickS_b (ax ay bx by_ px py r near : Int) : 0 ≤ (pickS ax ay bx by_ px py r near).1 ∧ (pickS ax ay bx by_ px py r near).1 ≤ 100 := by
  unfold pickS; repeat' split
  all_goals constructor <;> simp
theorem tmod_31 (z : Int) : -2147483648 ≤ z.tmod 2147483648 ∧ z.tmod 2147483648 ≤ 2147483648 := by
  have h1 := Int.tmod_lt_of_pos z (show (0 : Int) < 2147483648 by decide)
  have h2 := Int.lt_tmod_of_pos z (show (0 : Int) < 2147483648 by decide)
  omega
noncomputable def pickRound : Code := match Tryd.f3.body with
  | some (.seq _ (.seq _ (.seq _ (.seq _ (.seq (.seq _ (.block _ (.loop c))) _))))) => c
  | _ => .skip
set_option maxHeartbeats 16000000 in
theorem pick_0 (A B C D E F G dd X2 X3zz L : Int) (fr' : Fr) (I : Fr → Hp → Prop) (Q : Exit → Fr → Hp → Prop) (k4 : fr' 4 = .int .i64 L) (k6 : fr' 6 = .ptr 1 0) (k7 : fr' 7 = .ptr 2 0) (k8 : fr' 8 = .ptr 3 0) (k77 : fr' 77 = .sl 4 0 4 4) (k78 : fr' 78 = .int .i64 4) (k79 : fr' 79 = .int .i64 0) :
    ∀  (hI : ∀ fr'' b b', fr'' 4 = .int .i64 L → fr'' 6 = .ptr 1 0 → fr'' 7 = .ptr 2 0 → fr'' 8 = .ptr 3 0 → fr'' 77 = .sl 4 0 4 4 → fr'' 78 = .int .i64 4 → fr'' 79 = .int .i64 1 →
        I fr'' (Nt :: Pb A B :: Pb C D :: Pb E F :: ⟨[.int .i64 G, .int .i64 dd, .int .i64 X2, .int .i64 X3zz], .own, 2⟩ ::  b :: b' :: [])),
      AWp Tryd.prog pickRound fr' (Nt :: Pb A B :: Pb C D :: Pb E F :: ⟨[.int .i64 G, .int .i64 dd, .int .i64 X2, .int .i64 X3zz], .own, 2⟩ ::  []) (Q8 I Q) := by
  intro  hI
  have OP := Off_s A B E F G
  have OR := ROff_s A B E F G
  have PP := Pick_s A B C D E F G L
  have RP := RPick_s A B C D E F G L
  have SO := says_same _ (offS_b A B E F G)
  have SP := says_same _ (pickS_b A B C D E F G L)
  show AWp _ (Code.seq _ _) _ _ _
  repeat' first
    | (with_reducible first | refine Jj (fun K hK => ?_) | refine Js ?_ | refine Q2 ?_ | refine Qc ?_ | refine Qb ?_ | refine Jg ?_ | refine Qf (id := 4) [] pn3_4ZcF (by kernel_rfl) (by kernel_rfl) ?_ | refine Jq ?_ | refine Xt ?_)
    | (with_reducible refine Qu (OP) (Qo _ _) ?_)
    | (with_reducible refine Qu (OR) (Qo _ _) ?_)
    | (with_reducible refine Qu (PP) (Qo _ _) ?_)
    | (with_reducible refine Qu (RP) (Qo _ _) ?_)
    | (with_reducible refine Qu (SO) (Qo _ _) ?_)
    | (with_reducible refine Qu (SP) (Qo _ _) ?_)
    | (with_reducible refine Jv (fun hc => ?_) (fun hc => ?_) <;> (try simp only [RC] at hc) <;> (try (exfalso; first | omega | contradiction)))
    | (with_reducible refine Jc ?_ ?_)
    | (with_reducible refine X3 (fun hc => ?_) (fun hc => ?_) <;> (try simp only [RC] at hc) <;> (try (exfalso; first | omega | contradiction)))
    | (simp only [Q8, Jk, reduceIte, J0])
    | ((with_reducible refine hK _ _ ?_); clear hK)
    | (clear hK; (with_reducible refine hK _ _ ?_); clear hK)
    | (clear hK; clear hK; (with_reducible refine hK _ _ ?_); clear hK)
    | (clear hK; clear hK; clear hK; (with_reducible refine hK _ _ ?_); clear hK)
    | (clear hK; clear hK; clear hK; clear hK; (with_reducible refine hK _ _ ?_); clear hK)
    | (clear hK; clear hK; clear hK; clear hK; clear hK; (with_reducible refine hK _ _ ?_); clear hK)
    | (simp only [Qa, RA, Jo, Jn, Jp, Q7, Q5, ev, ofValue, Ju, J0, J3, J2, J4, reduceCtorEq, reduceIte, Jx, Qm, Qk, Q1, aun, Qj, Jm, Jh, Q0, Jz, Ji, Qi, Jf, Q6, Jr, J1, J5, Ja, J9, Jb, J6, J7, Jd, J8, RB, Jy, Je, RZ, tf3ZcF, k4, k6, k7, k8, k77, k78, k79, offA, eq_pt])
    | (simp (disch := first | omega | (simp only [RO]; done) | assumption) only [RS, RG, Wk, Wr, K1, Ya, Yc, Zg, Yb])
    | (simp (disch := (first | omega | (simp only [RO]; done) | assumption | (simp only [RM, Je]; done) | (simp only [RL, Je]; omega))) only [RD, reduceCtorEq, reduceIte, Je, J1, J3, J2, J6, tf3ZcF, k4, k6, k7, k8, k77, k78, k79, offA, eq_pt])
  all_goals exact hI _ _ _ k4 k6 k7 k8 k77 k78 (congrArg (AV.int .i64) (by decide +kernel))
set_option maxHeartbeats 16000000 in
theorem pick_1 (A B C D E F G dd X2 X3zz L : Int) (fr' : Fr) (I : Fr → Hp → Prop) (Q : Exit → Fr → Hp → Prop) (k4 : fr' 4 = .int .i64 L) (k6 : fr' 6 = .ptr 1 0) (k7 : fr' 7 = .ptr 2 0) (k8 : fr' 8 = .ptr 3 0) (k77 : fr' 77 = .sl 4 0 4 4) (k78 : fr' 78 = .int .i64 4) (k79 : fr' 79 = .int .i64 1) :
    ∀ j0 j1 (hI : ∀ fr'' b b', fr'' 4 = .int .i64 L → fr'' 6 = .ptr 1 0 → fr'' 7 = .ptr 2 0 → fr'' 8 = .ptr 3 0 → fr'' 77 = .sl 4 0 4 4 → fr'' 78 = .int .i64 4 → fr'' 79 = .int .i64 2 →
        I fr'' (Nt :: Pb A B :: Pb C D :: Pb E F :: ⟨[.int .i64 G, .int .i64 dd, .int .i64 X2, .int .i64 X3zz], .own, 2⟩ :: j0 :: j1 :: b :: b' :: [])),
      AWp Tryd.prog pickRound fr' (Nt :: Pb A B :: Pb C D :: Pb E F :: ⟨[.int .i64 G, .int .i64 dd, .int .i64 X2, .int .i64 X3zz], .own, 2⟩ :: j0 :: j1 :: []) (Q8 I Q) := by
  intro j0 j1 hI
  have OP := Off_s A B E F dd
  have OR := ROff_s A B E F dd
  have PP := Pick_s A B C D E F dd L
  have RP := RPick_s A B C D E F dd L
  have SO := says_same _ (offS_b A B E F dd)
  have SP := says_same _ (pickS_b A B C D E F dd L)
  show AWp _ (Code.seq _ _) _ _ _
  repeat' first
    | (with_reducible first | refine Jj (fun K hK => ?_) | refine Js ?_ | refine Q2 ?_ | refine Qc ?_ | refine Qb ?_ | refine Jg ?_ | refine Qf (id := 4) [] pn3_4ZcF (by kernel_rfl) (by kernel_rfl) ?_ | refine Jq ?_ | refine Xt ?_)
    | (with_reducible refine Qu (OP) (Qo _ _) ?_)
    | (with_reducible refine Qu (OR) (Qo _ _) ?_)
    | (with_reducible refine Qu (PP) (Qo _ _) ?_)
    | (with_reducible refine Qu (RP) (Qo _ _) ?_)
    | (with_reducible refine Qu (SO) (Qo _ _) ?_)
    | (with_reducible refine Qu (SP) (Qo _ _) ?_)
    | (with_reducible refine Jv (fun hc => ?_) (fun hc => ?_) <;> (try simp only [RC] at hc) <;> (try (exfalso; first | omega | contradiction)))
    | (with_reducible refine Jc ?_ ?_)
    | (with_reducible refine X3 (fun hc => ?_) (fun hc => ?_) <;> (try simp only [RC] at hc) <;> (try (exfalso; first | omega | contradiction)))
    | (simp only [Q8, Jk, reduceIte, J0])
    | ((with_reducible refine hK _ _ ?_); clear hK)
    | (clear hK; (with_reducible refine hK _ _ ?_); clear hK)
    | (clear hK; clear hK; (with_reducible refine hK _ _ ?_); clear hK)
    | (clear hK; clear hK; clear hK; (with_reducible refine hK _ _ ?_); clear hK)
    | (clear hK; clear hK; clear hK; clear hK; (with_reducible refine hK _ _ ?_); clear hK)
    | (clear hK; clear hK; clear hK; clear hK; clear hK; (with_reducible refine hK _ _ ?_); clear hK)
    | (simp only [Qa, RA, Jo, Jn, Jp, Q7, Q5, ev, ofValue, Ju, J0, J3, J2, J4, reduceCtorEq, reduceIte, Jx, Qm, Qk, Q1, aun, Qj, Jm, Jh, Q0, Jz, Ji, Qi, Jf, Q6, Jr, J1, J5, Ja, J9, Jb, J6, J7, Jd, J8, RB, Jy, Je, RZ, tf3ZcF, k4, k6, k7, k8, k77, k78, k79, offA, eq_pt])
    | (simp (disch := first | omega | (simp only [RO]; done) | assumption) only [RS, RG, Wk, Wr, K1, Ya, Yc, Zg, Yb])
    | (simp (disch := (first | omega | (simp only [RO]; done) | assumption | (simp only [RM, Je]; done) | (simp only [RL, Je]; omega))) only [RD, reduceCtorEq, reduceIte, Je, J1, J3, J2, J6, tf3ZcF, k4, k6, k7, k8, k77, k78, k79, offA, eq_pt])
  all_goals exact hI _ _ _ k4 k6 k7 k8 k77 k78 (congrArg (AV.int .i64) (by decide +kernel))
set_option maxHeartbeats 16000000 in
theorem pick_2 (A B C D E F G dd X2 X3zz L : Int) (fr' : Fr) (I : Fr → Hp → Prop) (Q : Exit → Fr → Hp → Prop) (k4 : fr' 4 = .int .i64 L) (k6 : fr' 6 = .ptr 1 0) (k7 : fr' 7 = .ptr 2 0) (k8 : fr' 8 = .ptr 3 0) (k77 : fr' 77 = .sl 4 0 4 4) (k78 : fr' 78 = .int .i64 4) (k79 : fr' 79 = .int .i64 2) :
    ∀ j0 j1 j2 j3 (hI : ∀ fr'' b b', fr'' 4 = .int .i64 L → fr'' 6 = .ptr 1 0 → fr'' 7 = .ptr 2 0 → fr'' 8 = .ptr 3 0 → fr'' 77 = .sl 4 0 4 4 → fr'' 78 = .int .i64 4 → fr'' 79 = .int .i64 3 →
        I fr'' (Nt :: Pb A B :: Pb C D :: Pb E F :: ⟨[.int .i64 G, .int .i64 dd, .int .i64 X2, .int .i64 X3zz], .own, 2⟩ :: j0 :: j1 :: j2 :: j3 :: b :: b' :: [])),
      AWp Tryd.prog pickRound fr' (Nt :: Pb A B :: Pb C D :: Pb E F :: ⟨[.int .i64 G, .int .i64 dd, .int .i64 X2, .int .i64 X3zz], .own, 2⟩ :: j0 :: j1 :: j2 :: j3 :: []) (Q8 I Q) := by
  intro j0 j1 j2 j3 hI
  have OP := Off_s A B E F X2
  have OR := ROff_s A B E F X2
  have PP := Pick_s A B C D E F X2 L
  have RP := RPick_s A B C D E F X2 L
  have SO := says_same _ (offS_b A B E F X2)
  have SP := says_same _ (pickS_b A B C D E F X2 L)
  show AWp _ (Code.seq _ _) _ _ _
  repeat' first
    | (with_reducible first | refine Jj (fun K hK => ?_) | refine Js ?_ | refine Q2 ?_ | refine Qc ?_ | refine Qb ?_ | refine Jg ?_ | refine Qf (id := 4) [] pn3_4ZcF (by kernel_rfl) (by kernel_rfl) ?_ | refine Jq ?_ | refine Xt ?_)
    | (with_reducible refine Qu (OP) (Qo _ _) ?_)
    | (with_reducible refine Qu (OR) (Qo _ _) ?_)
    | (with_reducible refine Qu (PP) (Qo _ _) ?_)
    | (with_reducible refine Qu (RP) (Qo _ _) ?_)
    | (with_reducible refine Qu (SO) (Qo _ _) ?_)
    | (with_reducible refine Qu (SP) (Qo _ _) ?_)
    | (with_reducible refine Jv (fun hc => ?_) (fun hc => ?_) <;> (try simp only [RC] at hc) <;> (try (exfalso; first | omega | contradiction)))
    | (with_reducible refine Jc ?_ ?_)
    | (with_reducible refine X3 (fun hc => ?_) (fun hc => ?_) <;> (try simp only [RC] at hc) <;> (try (exfalso; first | omega | contradiction)))
    | (simp only [Q8, Jk, reduceIte, J0])
    | ((with_reducible refine hK _ _ ?_); clear hK)
    | (clear hK; (with_reducible refine hK _ _ ?_); clear hK)
    | (clear hK; clear hK; (with_reducible refine hK _ _ ?_); clear hK)
    | (clear hK; clear hK; clear hK; (with_reducible refine hK _ _ ?_); clear hK)
    | (clear hK; clear hK; clear hK; clear hK; (with_reducible refine hK _ _ ?_); clear hK)
    | (clear hK; clear hK; clear hK; clear hK; clear hK; (with_reducible refine hK _ _ ?_); clear hK)
    | (simp only [Qa, RA, Jo, Jn, Jp, Q7, Q5, ev, ofValue, Ju, J0, J3, J2, J4, reduceCtorEq, reduceIte, Jx, Qm, Qk, Q1, aun, Qj, Jm, Jh, Q0, Jz, Ji, Qi, Jf, Q6, Jr, J1, J5, Ja, J9, Jb, J6, J7, Jd, J8, RB, Jy, Je, RZ, tf3ZcF, k4, k6, k7, k8, k77, k78, k79, offA, eq_pt])
    | (simp (disch := first | omega | (simp only [RO]; done) | assumption) only [RS, RG, Wk, Wr, K1, Ya, Yc, Zg, Yb])
    | (simp (disch := (first | omega | (simp only [RO]; done) | assumption | (simp only [RM, Je]; done) | (simp only [RL, Je]; omega))) only [RD, reduceCtorEq, reduceIte, Je, J1, J3, J2, J6, tf3ZcF, k4, k6, k7, k8, k77, k78, k79, offA, eq_pt])
  all_goals exact hI _ _ _ k4 k6 k7 k8 k77 k78 (congrArg (AV.int .i64) (by decide +kernel))
set_option maxHeartbeats 16000000 in
theorem pick_3 (A B C D E F G dd X2 X3zz L : Int) (fr' : Fr) (I : Fr → Hp → Prop) (Q : Exit → Fr → Hp → Prop) (k4 : fr' 4 = .int .i64 L) (k6 : fr' 6 = .ptr 1 0) (k7 : fr' 7 = .ptr 2 0) (k8 : fr' 8 = .ptr 3 0) (k77 : fr' 77 = .sl 4 0 4 4) (k78 : fr' 78 = .int .i64 4) (k79 : fr' 79 = .int .i64 3) :
    ∀ j0 j1 j2 j3 j4 j5 (hI : ∀ fr'' b b', fr'' 4 = .int .i64 L → fr'' 6 = .ptr 1 0 → fr'' 7 = .ptr 2 0 → fr'' 8 = .ptr 3 0 → fr'' 77 = .sl 4 0 4 4 → fr'' 78 = .int .i64 4 → fr'' 79 = .int .i64 4 →
        I fr'' (Nt :: Pb A B :: Pb C D :: Pb E F :: ⟨[.int .i64 G, .int .i64 dd, .int .i64 X2, .int .i64 X3zz], .own, 2⟩ :: j0 :: j1 :: j2 :: j3 :: j4 :: j5 :: b :: b' :: [])),
      AWp Tryd.prog pickRound fr' (Nt :: Pb A B :: Pb C D :: Pb E F :: ⟨[.int .i64 G, .int .i64 dd, .int .i64 X2, .int .i64 X3zz], .own, 2⟩ :: j0 :: j1 :: j2 :: j3 :: j4 :: j5 :: []) (Q8 I Q) := by
  intro j0 j1 j2 j3 j4 j5 hI
  have OP := Off_s A B E F X3zz
  have OR := ROff_s A B E F X3zz
  have PP := Pick_s A B C D E F X3zz L
  have RP := RPick_s A B C D E F X3zz L
  have SO := says_same _ (offS_b A B E F X3zz)
  have SP := says_same _ (pickS_b A B C D E F X3zz L)
  show AWp _ (Code.seq _ _) _ _ _
  repeat' first
    | (with_reducible first | refine Jj (fun K hK => ?_) | refine Js ?_ | refine Q2 ?_ | refine Qc ?_ | refine Qb ?_ | refine Jg ?_ | refine Qf (id := 4) [] pn3_4ZcF (by kernel_rfl) (by kernel_rfl) ?_ | refine Jq ?_ | refine Xt ?_)
    | (with_reducible refine Qu (OP) (Qo _ _) ?_)
    | (with_reducible refine Qu (OR) (Qo _ _) ?_)
    | (with_reducible refine Qu (PP) (Qo _ _) ?_)
    | (with_reducible refine Qu (RP) (Qo _ _) ?_)
    | (with_reducible refine Qu (SO) (Qo _ _) ?_)
    | (with_reducible refine Qu (SP) (Qo _ _) ?_)
    | (with_reducible refine Jv (fun hc => ?_) (fun hc => ?_) <;> (try simp only [RC] at hc) <;> (try (exfalso; first | omega | contradiction)))
    | (with_reducible refine Jc ?_ ?_)
    | (with_reducible refine X3 (fun hc => ?_) (fun hc => ?_) <;> (try simp only [RC] at hc) <;> (try (exfalso; first | omega | contradiction)))
    | (simp only [Q8, Jk, reduceIte, J0])
    | ((with_reducible refine hK _ _ ?_); clear hK)
    | (clear hK; (with_reducible refine hK _ _ ?_); clear hK)
    | (clear hK; clear hK; (with_reducible refine hK _ _ ?_); clear hK)
    | (clear hK; clear hK; clear hK; (with_reducible refine hK _ _ ?_); clear hK)
    | (clear hK; clear hK; clear hK; clear hK; (with_reducible refine hK _ _ ?_); clear hK)
    | (clear hK; clear hK; clear hK; clear hK; clear hK; (with_reducible refine hK _ _ ?_); clear hK)
    | (simp only [Qa, RA, Jo, Jn, Jp, Q7, Q5, ev, ofValue, Ju, J0, J3, J2, J4, reduceCtorEq, reduceIte, Jx, Qm, Qk, Q1, aun, Qj, Jm, Jh, Q0, Jz, Ji, Qi, Jf, Q6, Jr, J1, J5, Ja, J9, Jb, J6, J7, Jd, J8, RB, Jy, Je, RZ, tf3ZcF, k4, k6, k7, k8, k77, k78, k79, offA, eq_pt])
    | (simp (disch := first | omega | (simp only [RO]; done) | assumption) only [RS, RG, Wk, Wr, K1, Ya, Yc, Zg, Yb])
    | (simp (disch := (first | omega | (simp only [RO]; done) | assumption | (simp only [RM, Je]; done) | (simp only [RL, Je]; omega))) only [RD, reduceCtorEq, reduceIte, Je, J1, J3, J2, J6, tf3ZcF, k4, k6, k7, k8, k77, k78, k79, offA, eq_pt])
  all_goals exact hI _ _ _ k4 k6 k7 k8 k77 k78 (congrArg (AV.int .i64) (by decide +kernel))
end Go.Proofs.YtlgpemndbfclfaaDoor

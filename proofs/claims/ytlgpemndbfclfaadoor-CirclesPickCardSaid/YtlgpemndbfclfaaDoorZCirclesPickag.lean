/- Part 7 of the proof of the law CirclesPick: lemmas on the model's code, on this program's functions, on numbers. No condition. -/
import Derived.Test.YtlgpemndbfclfaaDoorZCirclesPickaf
set_option linter.unusedVariables false
set_option linter.unusedSimpArgs false
open Nat renaming reduceEqDiff → J0, reduceLeDiff → J1, reduceMul → J2, reduceAdd → J3, reduceSub → J4, reduceLT → J5
open Int renaming reduceToNat → J6, reducePow → J7, reduceNeg → J8, reduceLT → J9, reduceLE → Ja, reduceEq → Jb
open And renaming intro → Jc
open Go.IntKind renaming bits → Jd
open Go.PW renaming dig_length → Je
namespace Go.Proofs.YtlgpemndbfclfaaDoor
open Go.AL Go.PW Go.PD Go.PR
theorem tf3ZcJ : type_of% (Jc @Yj (Jc @Xz (Jc @Zn (Jc @Uq (Jc @Up (Jc @tyb27 (Jc @Zs (@Zr)))))))) := Jc @Yj (Jc @Xz (Jc @Zn (Jc @Uq (Jc @Up (Jc @tyb27 (Jc @Zs (@Zr)))))))
abbrev pn3_4ZcJ : Plan := (.one 0 (.one 1 (.one 2 (.one 3 (.one 4 (.one 5 (.one 6 (.one 7 (.one 10 (.one 14 (.one 17 (.alt 8 (.one 9 (.alt 11 (.one 12 (.one 13 (.alt 15 (.one 16 (.alt 18 (.one 19 (.one 20 (.one 21 (.one 22 (.one 23 .nil))))) (.one 21 (.alt 18 (.one 19 (.one 20 (.one 22 (.one 23 .nil)))) (.one 22 (.one 18 (.one 19 (.one 20 (.one 23 .nil))))))))) (.alt 18 (.one 19 (.alt 15 (.one 16 (.one 20 (.one 21 (.one 22 (.one 23 .nil))))) (.one 21 (.alt 15 (.one 16 (.one 20 (.one 22 (.one 23 .nil)))) (.one 22 (.one 15 (.one 16 (.one 20 (.one 23 .nil))))))))) (.one 21 (.alt 15 (.one 16 (.alt 18 (.one 19 (.one 20 (.one 22 (.one 23 .nil)))) (.one 22 (.one 18 (.one 19 (.one 20 (.one 23 .nil))))))) (.alt 18 (.one 19 (.alt 15 (.one 16 (.one 20 (.one 22 (.one 23 .nil)))) (.one 22 (.one 15 (.one 16 (.one 20 (.one 23 .nil))))))) (.one 22 (.one 15 (.one 16 (.one 18 (.one 19 (.one 20 (.one 23 .nil)))))))))))))) (.alt 15 (.one 16 (.alt 11 (.one 12 (.one 13 (.alt 18 (.one 19 (.one 20 (.one 21 (.one 22 (.one 23 .nil))))) (.one 21 (.alt 18 (.one 19 (.one 20 (.one 22 (.one 23 .nil)))) (.one 22 (.one 18 (.one 19 (.one 20 (.one 23 .nil)))))))))) (.alt 18 (.one 19 (.one 20 (.alt 11 (.one 12 (.one 13 (.one 21 (.one 22 (.one 23 .nil))))) (.one 21 (.one 11 (.one 12 (.one 13 (.one 22 (.one 23 .nil))))))))) (.one 21 (.one 11 (.one 12 (.one 13 (.alt 18 (.one 19 (.one 20 (.one 22 (.one 23 .nil)))) (.one 22 (.one 18 (.one 19 (.one 20 (.one 23 .nil))))))))))))) (.alt 18 (.one 19 (.alt 11 (.one 12 (.one 13 (.alt 15 (.one 16 (.one 20 (.one 21 (.one 22 (.one 23 .nil))))) (.one 21 (.alt 15 (.one 16 (.one 20 (.one 22 (.one 23 .nil)))) (.one 22 (.one 15 (.one 16 (.one 20 (.one 23 .nil)))))))))) (.alt 15 (.one 16 (.one 20 (.alt 11 (.one 12 (.one 13 (.one 21 (.one 22 (.one 23 .nil))))) (.one 21 (.one 11 (.one 12 (.one 13 (.one 22 (.one 23 .nil))))))))) (.one 21 (.one 11 (.one 12 (.one 13 (.alt 15 (.one 16 (.one 20 (.one 22 (.one 23 .nil)))) (.one 22 (.one 15 (.one 16 (.one 20 (.one 23 .nil))))))))))))) (.one 21 (.one 11 (.one 12 (.one 13 (.alt 15 (.one 16 (.alt 18 (.one 19 (.one 20 (.one 22 (.one 23 .nil)))) (.one 22 (.one 18 (.one 19 (.one 20 (.one 23 .nil))))))) (.alt 18 (.one 19 (.alt 15 (.one 16 (.one 20 (.one 22 (.one 23 .nil)))) (.one 22 (.one 15 (.one 16 (.one 20 (.one 23 .nil))))))) (.one 22 (.one 15 (.one 16 (.one 18 (.one 19 (.one 20 (.one 23 .nil))))))))))))))))) (.alt 11 (.one 12 (.alt 8 (.one 9 (.one 13 (.alt 15 (.one 16 (.alt 18 (.one 19 (.one 20 (.one 21 (.one 22 (.one 23 .nil))))) (.one 21 (.alt 18 (.one 19 (.one 20 (.one 22 (.one 23 .nil)))) (.one 22 (.one 18 (.one 19 (.one 20 (.one 23 .nil))))))))) (.alt 18 (.one 19 (.alt 15 (.one 16 (.one 20 (.one 21 (.one 22 (.one 23 .nil))))) (.one 21 (.alt 15 (.one 16 (.one 20 (.one 22 (.one 23 .nil)))) (.one 22 (.one 15 (.one 16 (.one 20 (.one 23 .nil))))))))) (.one 21 (.alt 15 (.one 16 (.alt 18 (.one 19 (.one 20 (.one 22 (.one 23 .nil)))) (.one 22 (.one 18 (.one 19 (.one 20 (.one 23 .nil))))))) (.alt 18 (.one 19 (.alt 15 (.one 16 (.one 20 (.one 22 (.one 23 .nil)))) (.one 22 (.one 15 (.one 16 (.one 20 (.one 23 .nil))))))) (.one 22 (.one 15 (.one 16 (.one 18 (.one 19 (.one 20 (.one 23 .nil)))))))))))))) (.alt 15 (.one 16 (.alt 8 (.one 9 (.one 13 (.alt 18 (.one 19 (.one 20 (.one 21 (.one 22 (.one 23 .nil))))) (.one 21 (.alt 18 (.one 19 (.one 20 (.one 22 (.one 23 .nil)))) (.one 22 (.one 18 (.one 19 (.one 20 (.one 23 .nil)))))))))) (.alt 18 (.one 19 (.one 20 (.alt 8 (.one 9 (.one 13 (.one 21 (.one 22 (.one 23 .nil))))) (.one 21 (.one 8 (.one 9 (.one 13 (.one 22 (.one 23 .nil))))))))) (.one 21 (.one 8 (.one 9 (.one 13 (.alt 18 (.one 19 (.one 20 (.one 22 (.one 23 .nil)))) (.one 22 (.one 18 (.one 19 (.one 20 (.one 23 .nil))))))))))))) (.alt 18 (.one 19 (.alt 8 (.one 9 (.one 13 (.alt 15 (.one 16 (.one 20 (.one 21 (.one 22 (.one 23 .nil))))) (.one 21 (.alt 15 (.one 16 (.one 20 (.one 22 (.one 23 .nil)))) (.one 22 (.one 15 (.one 16 (.one 20 (.one 23 .nil)))))))))) (.alt 15 (.one 16 (.one 20 (.alt 8 (.one 9 (.one 13 (.one 21 (.one 22 (.one 23 .nil))))) (.one 21 (.one 8 (.one 9 (.one 13 (.one 22 (.one 23 .nil))))))))) (.one 21 (.one 8 (.one 9 (.one 13 (.alt 15 (.one 16 (.one 20 (.one 22 (.one 23 .nil)))) (.one 22 (.one 15 (.one 16 (.one 20 (.one 23 .nil))))))))))))) (.one 21 (.one 8 (.one 9 (.one 13 (.alt 15 (.one 16 (.alt 18 (.one 19 (.one 20 (.one 22 (.one 23 .nil)))) (.one 22 (.one 18 (.one 19 (.one 20 (.one 23 .nil))))))) (.alt 18 (.one 19 (.alt 15 (.one 16 (.one 20 (.one 22 (.one 23 .nil)))) (.one 22 (.one 15 (.one 16 (.one 20 (.one 23 .nil))))))) (.one 22 (.one 15 (.one 16 (.one 18 (.one 19 (.one 20 (.one 23 .nil))))))))))))))))) (.alt 15 (.one 16 (.alt 8 (.one 9 (.alt 11 (.one 12 (.one 13 (.alt 18 (.one 19 (.one 20 (.one 21 (.one 22 (.one 23 .nil))))) (.one 21 (.alt 18 (.one 19 (.one 20 (.one 22 (.one 23 .nil)))) (.one 22 (.one 18 (.one 19 (.one 20 (.one 23 .nil)))))))))) (.alt 18 (.one 19 (.one 20 (.alt 11 (.one 12 (.one 13 (.one 21 (.one 22 (.one 23 .nil))))) (.one 21 (.one 11 (.one 12 (.one 13 (.one 22 (.one 23 .nil))))))))) (.one 21 (.one 11 (.one 12 (.one 13 (.alt 18 (.one 19 (.one 20 (.one 22 (.one 23 .nil)))) (.one 22 (.one 18 (.one 19 (.one 20 (.one 23 .nil))))))))))))) (.alt 11 (.one 12 (.alt 8 (.one 9 (.one 13 (.alt 18 (.one 19 (.one 20 (.one 21 (.one 22 (.one 23 .nil))))) (.one 21 (.alt 18 (.one 19 (.one 20 (.one 22 (.one 23 .nil)))) (.one 22 (.one 18 (.one 19 (.one 20 (.one 23 .nil)))))))))) (.alt 18 (.one 19 (.one 20 (.alt 8 (.one 9 (.one 13 (.one 21 (.one 22 (.one 23 .nil))))) (.one 21 (.one 8 (.one 9 (.one 13 (.one 22 (.one 23 .nil))))))))) (.one 21 (.one 8 (.one 9 (.one 13 (.alt 18 (.one 19 (.one 20 (.one 22 (.one 23 .nil)))) (.one 22 (.one 18 (.one 19 (.one 20 (.one 23 .nil))))))))))))) (.alt 18 (.one 19 (.one 20 (.alt 8 (.one 9 (.alt 11 (.one 12 (.one 13 (.one 21 (.one 22 (.one 23 .nil))))) (.one 21 (.one 11 (.one 12 (.one 13 (.one 22 (.one 23 .nil)))))))) (.alt 11 (.one 12 (.alt 8 (.one 9 (.one 13 (.one 21 (.one 22 (.one 23 .nil))))) (.one 21 (.one 8 (.one 9 (.one 13 (.one 22 (.one 23 .nil)))))))) (.one 21 (.one 8 (.one 9 (.one 11 (.one 12 (.one 13 (.one 22 (.one 23 .nil)))))))))))) (.one 21 (.one 8 (.one 9 (.one 11 (.one 12 (.one 13 (.alt 18 (.one 19 (.one 20 (.one 22 (.one 23 .nil)))) (.one 22 (.one 18 (.one 19 (.one 20 (.one 23 .nil)))))))))))))))) (.alt 18 (.one 19 (.alt 8 (.one 9 (.alt 11 (.one 12 (.one 13 (.alt 15 (.one 16 (.one 20 (.one 21 (.one 22 (.one 23 .nil))))) (.one 21 (.alt 15 (.one 16 (.one 20 (.one 22 (.one 23 .nil)))) (.one 22 (.one 15 (.one 16 (.one 20 (.one 23 .nil)))))))))) (.alt 15 (.one 16 (.one 20 (.alt 11 (.one 12 (.one 13 (.one 21 (.one 22 (.one 23 .nil))))) (.one 21 (.one 11 (.one 12 (.one 13 (.one 22 (.one 23 .nil))))))))) (.one 21 (.one 11 (.one 12 (.one 13 (.alt 15 (.one 16 (.one 20 (.one 22 (.one 23 .nil)))) (.one 22 (.one 15 (.one 16 (.one 20 (.one 23 .nil))))))))))))) (.alt 11 (.one 12 (.alt 8 (.one 9 (.one 13 (.alt 15 (.one 16 (.one 20 (.one 21 (.one 22 (.one 23 .nil))))) (.one 21 (.alt 15 (.one 16 (.one 20 (.one 22 (.one 23 .nil)))) (.one 22 (.one 15 (.one 16 (.one 20 (.one 23 .nil)))))))))) (.alt 15 (.one 16 (.one 20 (.alt 8 (.one 9 (.one 13 (.one 21 (.one 22 (.one 23 .nil))))) (.one 21 (.one 8 (.one 9 (.one 13 (.one 22 (.one 23 .nil))))))))) (.one 21 (.one 8 (.one 9 (.one 13 (.alt 15 (.one 16 (.one 20 (.one 22 (.one 23 .nil)))) (.one 22 (.one 15 (.one 16 (.one 20 (.one 23 .nil))))))))))))) (.alt 15 (.one 16 (.one 20 (.alt 8 (.one 9 (.alt 11 (.one 12 (.one 13 (.one 21 (.one 22 (.one 23 .nil))))) (.one 21 (.one 11 (.one 12 (.one 13 (.one 22 (.one 23 .nil)))))))) (.alt 11 (.one 12 (.alt 8 (.one 9 (.one 13 (.one 21 (.one 22 (.one 23 .nil))))) (.one 21 (.one 8 (.one 9 (.one 13 (.one 22 (.one 23 .nil)))))))) (.one 21 (.one 8 (.one 9 (.one 11 (.one 12 (.one 13 (.one 22 (.one 23 .nil)))))))))))) (.one 21 (.one 8 (.one 9 (.one 11 (.one 12 (.one 13 (.alt 15 (.one 16 (.one 20 (.one 22 (.one 23 .nil)))) (.one 22 (.one 15 (.one 16 (.one 20 (.one 23 .nil)))))))))))))))) (.one 21 (.one 8 (.one 9 (.one 11 (.one 12 (.one 13 (.alt 15 (.one 16 (.alt 18 (.one 19 (.one 20 (.one 22 (.one 23 .nil)))) (.one 22 (.one 18 (.one 19 (.one 20 (.one 23 .nil))))))) (.alt 18 (.one 19 (.alt 15 (.one 16 (.one 20 (.one 22 (.one 23 .nil)))) (.one 22 (.one 15 (.one 16 (.one 20 (.one 23 .nil))))))) (.one 22 (.one 15 (.one 16 (.one 18 (.one 19 (.one 20 (.one 23 .nil))))))))))))))))))))))))))))))
set_option maxRecDepth 8000
set_option maxHeartbeats 16000000 in
theorem circlesPick_s (ax ay bx by_ px py r near : Int) (sm : Bool) : Fn 3 [PtA ax ay, PtA bx by_, PtA px py, .int .i64 r, .int .i64 near, .bool sm] (.bool true) := by
  have KN := known_s
  obtain ⟨A, eA⟩ : ∃ A, (if sm then ax.tmod 50000 else ax) = A := ⟨_, rfl⟩
  obtain ⟨B, eB⟩ : ∃ A, (if sm then ay.tmod 50000 else ay) = A := ⟨_, rfl⟩
  obtain ⟨C, eC⟩ : ∃ A, (if sm then bx.tmod 50000 else bx) = A := ⟨_, rfl⟩
  obtain ⟨D, eD⟩ : ∃ A, (if sm then by_.tmod 50000 else by_) = A := ⟨_, rfl⟩
  obtain ⟨E, eE⟩ : ∃ A, (if sm then px.tmod 50000 else px) = A := ⟨_, rfl⟩
  obtain ⟨F, eF⟩ : ∃ A, (if sm then py.tmod 50000 else py) = A := ⟨_, rfl⟩
  obtain ⟨G, eG⟩ : ∃ A, (if sm then r.tmod 90000 else r) = A := ⟨_, rfl⟩
  obtain ⟨L, eL⟩ : ∃ A, (if sm then near.tmod 5000 else near) = A := ⟨_, rfl⟩
  have b1 := tmod_31 (IntKind.i64.wrap (E - A))
  have b2 := tmod_31 (IntKind.i64.wrap (F - B))
  obtain ⟨u, hu⟩ : ∃ u, (IntKind.i64.wrap (E - A)).tmod 2147483648 = u := ⟨_, rfl⟩
  obtain ⟨v, hv⟩ : ∃ v, (IntKind.i64.wrap (F - B)).tmod 2147483648 = v := ⟨_, rfl⟩
  rw [hu] at b1
  rw [hv] at b2
  have s1 := Rx (x := u) (b := 2147483648) (by decide) b1
  have s2 := Rx (x := v) (b := 2147483648) (by decide) b2
  have HY := RHypot_s u v (u * u + v * v).toNat b1 b2 (by omega)
  generalize ((rt (u * u + v * v).toNat : Nat) : Int) = dd at *
  obtain ⟨X2, hX2⟩ : ∃ X, IntKind.i64.wrap (dd + IntKind.i64.wrap (L.tdiv 2)) = X := ⟨_, rfl⟩
  obtain ⟨X3zz, hX3⟩ : ∃ X, IntKind.i64.wrap (0 - G) = X := ⟨_, rfl⟩
  refine Sure.body (by first | (simp only [RT]; done) | simp_all only [RT]) Tryd.func3 rfl (by kernel_rfl) (by kernel_rfl) ?_
  refine Jj (fun K hQ => ?_)
  repeat' first
    | (with_reducible first | refine Jj (fun K hK => ?_) | refine Js ?_ | refine Q2 ?_ | refine Qc ?_ | refine Qb ?_ | refine Jg ?_ | refine Qf (id := 4) [] pn3_4ZcJ (by kernel_rfl) (by kernel_rfl) ?_ | refine Jq ?_ | refine Xt ?_)
    | (with_reducible refine Qu (KN) (Qo _ _) ?_)
    | (with_reducible refine Jv (fun hc => ?_) (fun hc => ?_) <;> (try simp only [RC] at hc) <;> (try (exfalso; first | omega | contradiction)))
    | (with_reducible refine Jc ?_ ?_)
    | (with_reducible refine X3 (fun hc => ?_) (fun hc => ?_) <;> (try simp only [RC] at hc) <;> (try (exfalso; first | omega | contradiction)))
    | (simp only [Q8, Jk, reduceIte, J0])
    | ((with_reducible refine hK _ _ ?_); clear hK)
    | (clear hK; (with_reducible refine hK _ _ ?_); clear hK)
    | (clear hK; clear hK; (with_reducible refine hK _ _ ?_); clear hK)
    | (clear hK; clear hK; clear hK; (with_reducible refine hK _ _ ?_); clear hK)
    | (clear hK; clear hK; clear hK; clear hK; (with_reducible refine hK _ _ ?_); clear hK)
    | (clear hK; clear hK; clear hK; clear hK; clear hK; (with_reducible refine hK _ _ ?_); clear hK)
    | (simp only [Qa, RA, Jo, Jn, Jp, Q7, Q5, ev, ofValue, Ju, J0, J3, J2, J4, reduceCtorEq, reduceIte, Jx, Qm, Qk, Q1, aun, Qj, Jm, Jh, Q0, Jz, Ji, Qi, Jf, Q6, Jr, J1, J5, Ja, J9, Jb, J6, J7, Jd, J8, RB, Jy, Je, RZ, tf3ZcJ])
    | (simp (disch := first | omega | (simp only [RO]; done) | assumption) only [RS, RG, Wk, Wr, K1, Ya, Yc, Zg, Yb])
    | (simp (disch := (first | omega | (simp only [RO]; done) | assumption | (simp only [RM, Je]; done) | (simp only [RL, Je]; omega))) only [RD, reduceCtorEq, reduceIte, Je, J1, J3, J2, J6, tf3ZcJ])
  refine hQ _ _ ?_
  clear hQ
  refine Jj (fun K hQ => ?_)
  repeat' first
    | (with_reducible first | refine Jj (fun K hK => ?_) | refine Js ?_ | refine Q2 ?_ | refine Qc ?_ | refine Qb ?_ | refine Jg ?_ | refine Qf (id := 4) [] pn3_4ZcJ (by kernel_rfl) (by kernel_rfl) ?_ | refine Jq ?_ | refine Xt ?_)
    | (with_reducible refine Qu (KN) (Qo _ _) ?_)
    | (with_reducible refine Jv (fun hc => ?_) (fun hc => ?_) <;> (try simp only [RC] at hc) <;> (try (exfalso; first | omega | contradiction)))
    | (with_reducible refine Jc ?_ ?_)
    | (with_reducible refine X3 (fun hc => ?_) (fun hc => ?_) <;> (try simp only [RC] at hc) <;> (try (exfalso; first | omega | contradiction)))
    | (simp only [Q8, Jk, reduceIte, J0])
    | ((with_reducible refine hK _ _ ?_); clear hK)
    | (clear hK; (with_reducible refine hK _ _ ?_); clear hK)
    | (clear hK; clear hK; (with_reducible refine hK _ _ ?_); clear hK)
    | (clear hK; clear hK; clear hK; (with_reducible refine hK _ _ ?_); clear hK)
    | (clear hK; clear hK; clear hK; clear hK; (with_reducible refine hK _ _ ?_); clear hK)
    | (clear hK; clear hK; clear hK; clear hK; clear hK; (with_reducible refine hK _ _ ?_); clear hK)
    | (simp only [Qa, RA, Jo, Jn, Jp, Q7, Q5, ev, ofValue, Ju, J0, J3, J2, J4, reduceCtorEq, reduceIte, Jx, Qm, Qk, Q1, aun, Qj, Jm, Jh, Q0, Jz, Ji, Qi, Jf, Q6, Jr, J1, J5, Ja, J9, Jb, J6, J7, Jd, J8, RB, Jy, Je, RZ, tf3ZcJ])
    | (simp (disch := first | omega | (simp only [RO]; done) | assumption) only [RS, RG, Wk, Wr, K1, Ya, Yc, Zg, Yb])
    | (simp (disch := (first | omega | (simp only [RO]; done) | assumption | (simp only [RM, Je]; done) | (simp only [RL, Je]; omega))) only [RD, reduceCtorEq, reduceIte, Je, J1, J3, J2, J6, tf3ZcJ])
  refine hQ _ _ ?_
  clear hQ
  refine Jj (fun K2 hK2 => ?_)
  refine Ue (fun fr' H' => fr' 3 = .int .i64 G ∧ fr' 4 = .int .i64 L ∧ fr' 6 = .ptr 1 0 ∧ fr' 7 = .ptr 2 0 ∧ fr' 8 = .ptr 3 0 ∧ H' = [Nt, Pb A B, Pb C D, Pb E F]) ?_ (fun fr' H' h => hK2 _ _ ?_)
  · clear hK2
    cases sm
    · simp only [Bool.false_eq_true, if_false, if_true] at eA eB eC eD eE eF eG eL
      repeat' first
        | (with_reducible first | refine Jj (fun K hK => ?_) | refine Js ?_ | refine Q2 ?_ | refine Qc ?_ | refine Qb ?_ | refine Jg ?_ | refine Qf (id := 4) [] pn3_4ZcJ (by kernel_rfl) (by kernel_rfl) ?_ | refine Jq ?_ | refine Xt ?_)
        | (with_reducible refine Jv (fun hc => ?_) (fun hc => ?_) <;> (try simp only [RC] at hc) <;> (try (exfalso; first | omega | contradiction)))
        | (with_reducible refine Jc ?_ ?_)
        | (with_reducible refine X3 (fun hc => ?_) (fun hc => ?_) <;> (try simp only [RC] at hc) <;> (try (exfalso; first | omega | contradiction)))
        | (simp only [Q8, Jk, reduceIte, J0])
        | ((with_reducible refine hK _ _ ?_); clear hK)
        | (clear hK; (with_reducible refine hK _ _ ?_); clear hK)
        | (clear hK; clear hK; (with_reducible refine hK _ _ ?_); clear hK)
        | (clear hK; clear hK; clear hK; (with_reducible refine hK _ _ ?_); clear hK)
        | (clear hK; clear hK; clear hK; clear hK; (with_reducible refine hK _ _ ?_); clear hK)
        | (clear hK; clear hK; clear hK; clear hK; clear hK; (with_reducible refine hK _ _ ?_); clear hK)
        | (simp only [Qa, RA, Jo, Jn, Jp, Q7, Q5, ev, ofValue, Ju, J0, J3, J2, J4, reduceCtorEq, reduceIte, Jx, Qm, Qk, Q1, aun, Qj, Jm, Jh, Q0, Jz, Ji, Qi, Jf, Q6, Jr, J1, J5, Ja, J9, Jb, J6, J7, Jd, J8, RB, Jy, Je, RZ, tf3ZcJ, eA, eB, eC, eD, eE, eF, eG, eL])
        | (simp (disch := first | omega | (simp only [RO]; done) | assumption) only [RS, RG, Wk, Wr, K1, Ya, Yc, Zg, Yb])
        | (simp (disch := (first | omega | (simp only [RO]; done) | assumption | (simp only [RM, Je]; done) | (simp only [RL, Je]; omega))) only [RD, reduceCtorEq, reduceIte, Je, J1, J3, J2, J6, tf3ZcJ, eA, eB, eC, eD, eE, eF, eG, eL])
      all_goals exact ⟨rfl, rfl, rfl, rfl, rfl, rfl⟩
    · simp only [Bool.false_eq_true, if_false, if_true] at eA eB eC eD eE eF eG eL
      subst eA eB eC eD eE eF eG eL
      exact pick_pre ax ay bx by_ px py r near _ _ _ rfl rfl rfl rfl rfl rfl (fun fr'' a b c d e => ⟨a, b, c, d, e, rfl⟩)
  clear hK2 eA eB eC eD eE eF eG eL
  obtain ⟨k3, k4, k6, k7, k8, rfl⟩ := h
  repeat' first
    | (with_reducible first | refine Jj (fun K hK => ?_) | refine Js ?_ | refine Q2 ?_ | refine Qc ?_ | refine Qb ?_ | refine Jg ?_ | refine Qf (id := 4) [] pn3_4ZcJ (by kernel_rfl) (by kernel_rfl) ?_ | refine Jq ?_ | refine Xt ?_)
    | (with_reducible refine Qu (HY) (Qo _ _) ?_)
    | (with_reducible refine Jv (fun hc => ?_) (fun hc => ?_) <;> (try simp only [RC] at hc) <;> (try (exfalso; first | omega | contradiction)))
    | (with_reducible refine Jc ?_ ?_)
    | (with_reducible refine X3 (fun hc => ?_) (fun hc => ?_) <;> (try simp only [RC] at hc) <;> (try (exfalso; first | omega | contradiction)))
    | (simp only [Q8, Jk, reduceIte, J0])
    | ((with_reducible refine hK _ _ ?_); clear hK)
    | (clear hK; (with_reducible refine hK _ _ ?_); clear hK)
    | (clear hK; clear hK; (with_reducible refine hK _ _ ?_); clear hK)
    | (clear hK; clear hK; clear hK; (with_reducible refine hK _ _ ?_); clear hK)
    | (clear hK; clear hK; clear hK; clear hK; (with_reducible refine hK _ _ ?_); clear hK)
    | (clear hK; clear hK; clear hK; clear hK; clear hK; (with_reducible refine hK _ _ ?_); clear hK)
    | (simp only [Qa, RA, Jo, Jn, Jp, Q7, Q5, ev, ofValue, Ju, J0, J3, J2, J4, reduceCtorEq, reduceIte, Jx, Qm, Qk, Q1, aun, Qj, Jm, Jh, Q0, Jz, Ji, Qi, Jf, Q6, Jr, J1, J5, Ja, J9, Jb, J6, J7, Jd, J8, RB, Jy, Je, RZ, tf3ZcJ, k3, k4, k6, k7, k8, hu, hv, hX2, hX3])
    | (simp (disch := first | omega | (simp only [RO]; done) | assumption) only [RS, RG, Wk, Wr, K1, Ya, Yc, Zg, Yb])
    | (simp (disch := (first | omega | (simp only [RO]; done) | assumption | (simp only [RM, Je]; done) | (simp only [RL, Je]; omega))) only [RD, reduceCtorEq, reduceIte, Je, J1, J3, J2, J6, tf3ZcJ, k3, k4, k6, k7, k8, hu, hv, hX2, hX3])
  refine Xr (fun m fr' H' => fr' 4 = .int .i64 L ∧ fr' 6 = .ptr 1 0 ∧ fr' 7 = .ptr 2 0 ∧ fr' 8 = .ptr 3 0 ∧ fr' 77 = .sl 4 0 4 4 ∧ fr' 78 = .int .i64 4 ∧ ∃ J, H' = [Nt, Pb A B, Pb C D, Pb E F, ⟨[.int .i64 G, .int .i64 dd, .int .i64 X2, .int .i64 X3zz], .own, 2⟩] ++ J ∧
      ((m = 4 ∧ fr' 79 = .int .i64 0 ∧ J = []) ∨ (m = 3 ∧ fr' 79 = .int .i64 1 ∧ ∃ j0 j1, J = [j0, j1]) ∨ (m = 2 ∧ fr' 79 = .int .i64 2 ∧ ∃ j0 j1 j2 j3, J = [j0, j1, j2, j3]) ∨
       (m = 1 ∧ fr' 79 = .int .i64 3 ∧ ∃ j0 j1 j2 j3 j4 j5, J = [j0, j1, j2, j3, j4, j5]) ∨ (m = 0 ∧ fr' 79 = .int .i64 4 ∧ ∃ j0 j1 j2 j3 j4 j5 j6 j7, J = [j0, j1, j2, j3, j4, j5, j6, j7]))) (m := 4) ⟨k4, k6, k7, k8, rfl, rfl, [], rfl, .inl ⟨rfl, rfl, rfl⟩⟩ ?_
  clear k3 k4 k6 k7 k8 HY KN hu hv hX2 hX3 s1 s2 b1 b2
  rintro m fr' H' ⟨k4, k6, k7, k8, k77, k78, _, rfl, ⟨rfl, k79, rfl⟩ | ⟨rfl, k79, j0, j1, rfl⟩ | ⟨rfl, k79, j0, j1, j2, j3, rfl⟩ | ⟨rfl, k79, j0, j1, j2, j3, j4, j5, rfl⟩ | ⟨rfl, k79, j0, j1, j2, j3, j4, j5, j6, j7, rfl⟩⟩
  · exact pick_0 A B C D E F G dd X2 X3zz L fr' _ _ k4 k6 k7 k8 k77 k78 k79 (fun fr'' b b' q4 q6 q7 q8 q77 q78 q79 => ⟨3, by omega, q4, q6, q7, q8, q77, q78, _, rfl, .inr (.inl ⟨rfl, q79, _, _, rfl⟩)⟩)
  · exact pick_1 A B C D E F G dd X2 X3zz L fr' _ _ k4 k6 k7 k8 k77 k78 k79 j0 j1 (fun fr'' b b' q4 q6 q7 q8 q77 q78 q79 => ⟨2, by omega, q4, q6, q7, q8, q77, q78, _, rfl, .inr (.inr (.inl ⟨rfl, q79, _, _, _, _, rfl⟩))⟩)
  · exact pick_2 A B C D E F G dd X2 X3zz L fr' _ _ k4 k6 k7 k8 k77 k78 k79 j0 j1 j2 j3 (fun fr'' b b' q4 q6 q7 q8 q77 q78 q79 => ⟨1, by omega, q4, q6, q7, q8, q77, q78, _, rfl, .inr (.inr (.inr (.inl ⟨rfl, q79, _, _, _, _, _, _, rfl⟩)))⟩)
  · exact pick_3 A B C D E F G dd X2 X3zz L fr' _ _ k4 k6 k7 k8 k77 k78 k79 j0 j1 j2 j3 j4 j5 (fun fr'' b b' q4 q6 q7 q8 q77 q78 q79 => ⟨0, by omega, q4, q6, q7, q8, q77, q78, _, rfl, .inr (.inr (.inr (.inr ⟨rfl, q79, _, _, _, _, _, _, _, _, rfl⟩)))⟩)
  · skip
    repeat' first
      | (with_reducible first | refine Jj (fun K hK => ?_) | refine Js ?_ | refine Q2 ?_ | refine Qc ?_ | refine Qb ?_ | refine Jg ?_ | refine Qf (id := 4) [] pn3_4ZcJ (by kernel_rfl) (by kernel_rfl) ?_ | refine Jq ?_ | refine Xt ?_)
      | (with_reducible refine Jv (fun hc => ?_) (fun hc => ?_) <;> (try simp only [RC] at hc) <;> (try (exfalso; first | omega | contradiction)))
      | (with_reducible refine Jc ?_ ?_)
      | (with_reducible refine X3 (fun hc => ?_) (fun hc => ?_) <;> (try simp only [RC] at hc) <;> (try (exfalso; first | omega | contradiction)))
      | (simp only [Q8, Jk, reduceIte, J0])
      | ((with_reducible refine hK _ _ ?_); clear hK)
      | (clear hK; (with_reducible refine hK _ _ ?_); clear hK)
      | (clear hK; clear hK; (with_reducible refine hK _ _ ?_); clear hK)
      | (clear hK; clear hK; clear hK; (with_reducible refine hK _ _ ?_); clear hK)
      | (clear hK; clear hK; clear hK; clear hK; (with_reducible refine hK _ _ ?_); clear hK)
      | (clear hK; clear hK; clear hK; clear hK; clear hK; (with_reducible refine hK _ _ ?_); clear hK)
      | (simp only [Qa, RA, Jo, Jn, Jp, Q7, Q5, ev, ofValue, Ju, J0, J3, J2, J4, reduceCtorEq, reduceIte, Jx, Qm, Qk, Q1, aun, Qj, Jm, Jh, Q0, Jz, Ji, Qi, Jf, Q6, Jr, J1, J5, Ja, J9, Jb, J6, J7, Jd, J8, RB, Jy, Je, RZ, tf3ZcJ, k4, k6, k7, k8, k77, k78, k79])
      | (simp (disch := first | omega | (simp only [RO]; done) | assumption) only [RS, RG, Wk, Wr, K1, Ya, Yc, Zg, Yb])
      | (simp (disch := (first | omega | (simp only [RO]; done) | assumption | (simp only [RM, Je]; done) | (simp only [RL, Je]; omega))) only [RD, reduceCtorEq, reduceIte, Je, J1, J3, J2, J6, tf3ZcJ, k4, k6, k7, k8, k77, k78, k79])
    all_goals
      (
       (refine Q9 (rs := [.tmp 12]) rfl ?_)
       (simp only [Qt, Q4, RA, RZ, J0, J3, J1, reduceCtorEq, reduceIte, tf3ZcJ])
       (try simp only [RF]))
end Go.Proofs.YtlgpemndbfclfaaDoor

/- Part 9 of the proof of the law CirclesMeet: lemmas on the model's code, on this program's functions, on numbers. No condition. -/
import Derived.Test.YtigddjlhncnnoaaGreatDoorZCirclesMeetah
set_option linter.unusedVariables false
set_option linter.unusedSimpArgs false
open Nat renaming reduceEqDiff → J0, reduceLeDiff → J1, reduceMul → J2, reduceAdd → J3, reduceSub → J4, reduceLT → J5
open Int renaming reduceToNat → J6, reducePow → J7, reduceNeg → J8, reduceLT → J9, reduceLE → Ja, reduceEq → Jb
open And renaming intro → Jc
open Go.IntKind renaming bits → Jd
open Go.PW renaming dig_length → Je
namespace Go.Proofs.YtigddjlhncnnoaaGreatDoor
open Go.AL Go.PW Go.PD Go.PR
theorem W0 : type_of% (Jc @Zg (Jc @Xw (Jc @Zh (Jc @Uz (Jc @Uy (Jc @tyb24 (Jc @tyb28 (Jc @tyb29 (Jc @U1 (Jc @U0 (@cv24_2))))))))))) := Jc @Zg (Jc @Xw (Jc @Zh (Jc @Uz (Jc @Uy (Jc @tyb24 (Jc @tyb28 (Jc @tyb29 (Jc @U1 (Jc @U0 (@cv24_2))))))))))
abbrev Gf : Plan := (.one 0 (.one 1 (.one 2 (.one 3 (.one 4 (.one 5 (.one 6 (.one 7 (.one 10 (.alt 8 (.one 9 (.alt 11 (.one 12 (.one 13 (.one 14 (.one 15 .nil)))) (.one 14 (.one 11 (.one 12 (.one 13 (.one 15 .nil))))))) (.alt 11 (.one 12 (.alt 8 (.one 9 (.one 13 (.one 14 (.one 15 .nil)))) (.one 14 (.one 8 (.one 9 (.one 13 (.one 15 .nil))))))) (.one 14 (.one 8 (.one 9 (.one 11 (.one 12 (.one 13 (.one 15 .nil))))))))))))))))))
set_option maxRecDepth 8000
theorem meetS_b (px py r qx qy s base : Int) : 0 ≤ (J0q px py r qx qy s base).1 ∧ (J0q px py r qx qy s base).1 ≤ 100 := by
  unfold J0q meetK
  repeat' split
  all_goals (constructor <;> simp)
theorem tmod_31m (z : Int) : -2147483648 ≤ z.tmod 2147483648 ∧ z.tmod 2147483648 ≤ 2147483648 := by
  have h1 := Int.tmod_lt_of_pos z (b := 2147483648) (by decide)
  have h2 := Int.lt_tmod_of_pos z (b := 2147483648) (by decide)
  omega
theorem max_any {P : Program} {tys : Array TypeId} {a b : Int} : Qn P .max tys [.int .i64 a, .int .i64 b] = some (.int .i64 (if a < b then b else a)) := by
  simp [Qn, AV.isInt, aminl, amin2]
theorem bld_two (x y : Int) : Yh Tryz.prog 28 [(0, .int .i64 x), (1, .int .i64 y)] = some (.agg [.int .i64 x, .int .i64 y]) := by
  unfold Yh G1
  simp only [zero28, und28, Yr]
  rfl
theorem says_same (m : Int) (hm : 0 ≤ m ∧ m ≤ 100) : Fn 16 [errC m, .int .i64 m] (.bool true) := by
  have := says_s m m (by omega)
  rwa [decide_eq_true rfl] at this
theorem meet_both (px py r qx qy s base : Int) : ∃ n a b c e, (0 ≤ n ∧ n ≤ 100) ∧ Fn 14 [PtA px py, .int .i64 r, PtA qx qy, .int .i64 s, .int .i64 base] (.tup [PtA a b, PtA c e, errC n]) ∧ Fn 15 [PtA px py, .int .i64 r, PtA qx qy, .int .i64 s, .int .i64 base] (.tup [PtA a b, PtA c e, .int .i64 n]) :=
  ⟨_, _, _, _, _, meetS_b px py r qx qy s base, Meet_s px py r qx qy s base, RMeet_s px py r qx qy s base⟩
set_option maxHeartbeats 16000000 in
theorem circlesMeet_s (px py qx qy r s base near : Int) (sm : Bool) (hn : -32768 ≤ near ∧ near ≤ 32767) : Fn 3 [PtA px py, PtA qx qy, .int .i64 r, .int .i64 s, .int .i64 base, .bool sm, .int .i16 near] (.bool true) := by
  have KN := known_s
  refine Sure.body (by first | (simp only [RT]; done) | simp_all only [RT]) Tryz.func3 rfl (by kernel_rfl) (by kernel_rfl) ?_
  refine Jh (fun K hQ => ?_)
  repeat' first
    | (with_reducible first | refine Jh (fun K hK => ?_) | refine Jx ?_ | refine Q4 ?_ | refine Qc ?_ | refine Qd ?_ | refine Jg ?_ | refine Q1 (id := 4) [] Gf (by kernel_rfl) (by kernel_rfl) ?_ | refine Jr ?_ | refine X8 ?_)
    | (with_reducible refine Q3 (KN) (Jq _ _) ?_)
    | (with_reducible refine Jt (fun hc => ?_) (fun hc => ?_) <;> (try simp only [RC] at hc) <;> (try (exfalso; first | omega | contradiction)))
    | (with_reducible refine Jc ?_ ?_)
    | (with_reducible refine X4 (fun hc => ?_) (fun hc => ?_) <;> (try simp only [RC] at hc) <;> (try (exfalso; first | omega | contradiction)))
    | (simp only [Qb, Jo, reduceIte, J0])
    | ((with_reducible refine hK _ _ ?_); clear hK)
    | (clear hK; (with_reducible refine hK _ _ ?_); clear hK)
    | (clear hK; clear hK; (with_reducible refine hK _ _ ?_); clear hK)
    | (clear hK; clear hK; clear hK; (with_reducible refine hK _ _ ?_); clear hK)
    | (clear hK; clear hK; clear hK; clear hK; (with_reducible refine hK _ _ ?_); clear hK)
    | (clear hK; clear hK; clear hK; clear hK; clear hK; (with_reducible refine hK _ _ ?_); clear hK)
    | (simp only [Q9, RA, Jn, Jm, Jp, Q8, Q6, ev, ofValue, Ju, J0, J3, J2, J4, reduceCtorEq, reduceIte, Jv, Qm, Qk, Q0, aun, Qj, Jk, Ji, Jz, Jy, Jj, Qi, Jf, Q7, Js, J1, J5, Ja, J9, Jb, J6, J7, Jd, J8, RB, Jw, Je, RZ, W0])
    | (simp (disch := first | omega | (simp only [RO]; done) | assumption) only [RS, RG, six29, gix29, zix29, idx28, slh28, Xt, Xv, Xj, Xu])
    | (simp (disch := (first | omega | (simp only [RO]; done) | assumption | (simp only [RM, Je]; done) | (simp only [RL, Je]; omega))) only [RD, reduceCtorEq, reduceIte, Je, J1, J3, J2, J6, W0])
  refine hQ _ _ ?_
  clear hQ
  refine Jh (fun K hQ => ?_)
  repeat' first
    | (with_reducible first | refine Jh (fun K hK => ?_) | refine Jx ?_ | refine Q4 ?_ | refine Qc ?_ | refine Qd ?_ | refine Jg ?_ | refine Q1 (id := 4) [] Gf (by kernel_rfl) (by kernel_rfl) ?_ | refine Jr ?_ | refine X8 ?_)
    | (with_reducible refine Q3 (KN) (Jq _ _) ?_)
    | (with_reducible refine Jt (fun hc => ?_) (fun hc => ?_) <;> (try simp only [RC] at hc) <;> (try (exfalso; first | omega | contradiction)))
    | (with_reducible refine Jc ?_ ?_)
    | (with_reducible refine X4 (fun hc => ?_) (fun hc => ?_) <;> (try simp only [RC] at hc) <;> (try (exfalso; first | omega | contradiction)))
    | (simp only [Qb, Jo, reduceIte, J0])
    | ((with_reducible refine hK _ _ ?_); clear hK)
    | (clear hK; (with_reducible refine hK _ _ ?_); clear hK)
    | (clear hK; clear hK; (with_reducible refine hK _ _ ?_); clear hK)
    | (clear hK; clear hK; clear hK; (with_reducible refine hK _ _ ?_); clear hK)
    | (clear hK; clear hK; clear hK; clear hK; (with_reducible refine hK _ _ ?_); clear hK)
    | (clear hK; clear hK; clear hK; clear hK; clear hK; (with_reducible refine hK _ _ ?_); clear hK)
    | (simp only [Q9, RA, Jn, Jm, Jp, Q8, Q6, ev, ofValue, Ju, J0, J3, J2, J4, reduceCtorEq, reduceIte, Jv, Qm, Qk, Q0, aun, Qj, Jk, Ji, Jz, Jy, Jj, Qi, Jf, Q7, Js, J1, J5, Ja, J9, Jb, J6, J7, Jd, J8, RB, Jw, Je, RZ, W0])
    | (simp (disch := first | omega | (simp only [RO]; done) | assumption) only [RS, RG, six29, gix29, zix29, idx28, slh28, Xt, Xv, Xj, Xu])
    | (simp (disch := (first | omega | (simp only [RO]; done) | assumption | (simp only [RM, Je]; done) | (simp only [RL, Je]; omega))) only [RD, reduceCtorEq, reduceIte, Je, J1, J3, J2, J6, W0])
  refine hQ _ _ ?_
  clear hQ
  refine Jh (fun K2 hK2 => ?_)
  refine Yn (fun fr' H' => ∃ A B C D E F G : Int, fr' 2 = .int .i64 E ∧ fr' 3 = .int .i64 F ∧ fr' 4 = .int .i64 G ∧ fr' 6 = .int .i16 near ∧ fr' 7 = .ptr 1 0 ∧ fr' 8 = .ptr 2 0 ∧ H' = [Nt, Pb A B, Pb C D]) ?_ (fun fr' H' h => hK2 _ _ ?_)
  · clear hK2
    cases sm
    · skip
      repeat' first
        | (with_reducible first | refine Jh (fun K hK => ?_) | refine Jx ?_ | refine Q4 ?_ | refine Qc ?_ | refine Qd ?_ | refine Jg ?_ | refine Q1 (id := 4) [] Gf (by kernel_rfl) (by kernel_rfl) ?_ | refine Jr ?_ | refine X8 ?_)
        | (with_reducible refine Jt (fun hc => ?_) (fun hc => ?_) <;> (try simp only [RC] at hc) <;> (try (exfalso; first | omega | contradiction)))
        | (with_reducible refine Jc ?_ ?_)
        | (with_reducible refine X4 (fun hc => ?_) (fun hc => ?_) <;> (try simp only [RC] at hc) <;> (try (exfalso; first | omega | contradiction)))
        | (simp only [Qb, Jo, reduceIte, J0])
        | ((with_reducible refine hK _ _ ?_); clear hK)
        | (clear hK; (with_reducible refine hK _ _ ?_); clear hK)
        | (clear hK; clear hK; (with_reducible refine hK _ _ ?_); clear hK)
        | (clear hK; clear hK; clear hK; (with_reducible refine hK _ _ ?_); clear hK)
        | (clear hK; clear hK; clear hK; clear hK; (with_reducible refine hK _ _ ?_); clear hK)
        | (clear hK; clear hK; clear hK; clear hK; clear hK; (with_reducible refine hK _ _ ?_); clear hK)
        | (simp only [Q9, RA, Jn, Jm, Jp, Q8, Q6, ev, ofValue, Ju, J0, J3, J2, J4, reduceCtorEq, reduceIte, Jv, Qm, Qk, Q0, aun, Qj, Jk, Ji, Jz, Jy, Jj, Qi, Jf, Q7, Js, J1, J5, Ja, J9, Jb, J6, J7, Jd, J8, RB, Jw, Je, RZ, W0])
        | (simp (disch := first | omega | (simp only [RO]; done) | assumption) only [RS, RG, six29, gix29, zix29, idx28, slh28, Xt, Xv, Xj, Xu])
        | (simp (disch := (first | omega | (simp only [RO]; done) | assumption | (simp only [RM, Je]; done) | (simp only [RL, Je]; omega))) only [RD, reduceCtorEq, reduceIte, Je, J1, J3, J2, J6, W0])
      all_goals exact ⟨_, _, _, _, _, _, _, rfl, rfl, rfl, rfl⟩
    · skip
      repeat' first
        | (with_reducible first | refine Jh (fun K hK => ?_) | refine Jx ?_ | refine Q4 ?_ | refine Qc ?_ | refine Qd ?_ | refine Jg ?_ | refine Q1 (id := 4) [] Gf (by kernel_rfl) (by kernel_rfl) ?_ | refine Jr ?_ | refine X8 ?_)
        | (with_reducible refine Jt (fun hc => ?_) (fun hc => ?_) <;> (try simp only [RC] at hc) <;> (try (exfalso; first | omega | contradiction)))
        | (with_reducible refine Jc ?_ ?_)
        | (with_reducible refine X4 (fun hc => ?_) (fun hc => ?_) <;> (try simp only [RC] at hc) <;> (try (exfalso; first | omega | contradiction)))
        | (simp only [Qb, Jo, reduceIte, J0])
        | ((with_reducible refine hK _ _ ?_); clear hK)
        | (clear hK; (with_reducible refine hK _ _ ?_); clear hK)
        | (clear hK; clear hK; (with_reducible refine hK _ _ ?_); clear hK)
        | (clear hK; clear hK; clear hK; (with_reducible refine hK _ _ ?_); clear hK)
        | (clear hK; clear hK; clear hK; clear hK; (with_reducible refine hK _ _ ?_); clear hK)
        | (clear hK; clear hK; clear hK; clear hK; clear hK; (with_reducible refine hK _ _ ?_); clear hK)
        | (simp only [Q9, RA, Jn, Jm, Jp, Q8, Q6, ev, ofValue, Ju, J0, J3, J2, J4, reduceCtorEq, reduceIte, Jv, Qm, Qk, Q0, aun, Qj, Jk, Ji, Jz, Jy, Jj, Qi, Jf, Q7, Js, J1, J5, Ja, J9, Jb, J6, J7, Jd, J8, RB, Jw, Je, RZ, W0, max_any])
        | (simp (disch := first | omega | (simp only [RO]; done) | assumption) only [RS, RG, six29, gix29, zix29, idx28, slh28, Xt, Xv, Xj, Xu])
        | (simp (disch := (first | omega | (simp only [RO]; done) | assumption | (simp only [RM, Je]; done) | (simp only [RL, Je]; omega))) only [RD, reduceCtorEq, reduceIte, Je, J1, J3, J2, J6, W0, max_any])
      all_goals exact ⟨_, _, _, _, _, _, _, rfl, rfl, rfl, rfl⟩
  clear hK2
  obtain ⟨A, B, C, D, E, F, G, k2, k3, k4, k6, k7, k8, rfl⟩ := h
  have b1 := tmod_31m (IntKind.i64.wrap (A - C))
  have b2 := tmod_31m (IntKind.i64.wrap (B - D))
  obtain ⟨u, hu⟩ : ∃ u, (IntKind.i64.wrap (A - C)).tmod 2147483648 = u := ⟨_, rfl⟩
  obtain ⟨v, hv⟩ : ∃ v, (IntKind.i64.wrap (B - D)).tmod 2147483648 = v := ⟨_, rfl⟩
  rw [hu] at b1
  rw [hv] at b2
  have s1 := Ns (x := u) (b := 2147483648) (by decide) b1
  have s2 := Ns (x := v) (b := 2147483648) (by decide) b2
  have HY := RHypot_s u v (u * u + v * v).toNat b1 b2 (by omega)
  generalize ((rt (u * u + v * v).toNat : Nat) : Int) = dd at *
  have wn : IntKind.i64.wrap near = near := Qe (by omega) (by omega)
  obtain ⟨X2, hX2⟩ : ∃ X, IntKind.i64.wrap (IntKind.i64.wrap (dd.tdiv 2) + 1) = X := ⟨_, rfl⟩
  have z2 : List.map (AV.int .i64) (dig 2 0) = [.int .i64 0, .int .i64 0] := rfl
  obtain ⟨X1, hX1⟩ : ∃ X, IntKind.i64.wrap (IntKind.i64.wrap (dd.tdiv 2) + near) = X := ⟨_, rfl⟩
  repeat' first
    | (with_reducible first | refine Jh (fun K hK => ?_) | refine Jx ?_ | refine Q4 ?_ | refine Qc ?_ | refine Qd ?_ | refine Jg ?_ | refine Q1 (id := 4) [] Gf (by kernel_rfl) (by kernel_rfl) ?_ | refine Jr ?_ | refine X8 ?_)
    | (with_reducible refine Q3 (HY) (Jq _ _) ?_)
    | (with_reducible refine Jt (fun hc => ?_) (fun hc => ?_) <;> (try simp only [RC] at hc) <;> (try (exfalso; first | omega | contradiction)))
    | (with_reducible refine Jc ?_ ?_)
    | (with_reducible refine X4 (fun hc => ?_) (fun hc => ?_) <;> (try simp only [RC] at hc) <;> (try (exfalso; first | omega | contradiction)))
    | (simp only [Qb, Jo, reduceIte, J0])
    | ((with_reducible refine hK _ _ ?_); clear hK)
    | (clear hK; (with_reducible refine hK _ _ ?_); clear hK)
    | (clear hK; clear hK; (with_reducible refine hK _ _ ?_); clear hK)
    | (clear hK; clear hK; clear hK; (with_reducible refine hK _ _ ?_); clear hK)
    | (clear hK; clear hK; clear hK; clear hK; (with_reducible refine hK _ _ ?_); clear hK)
    | (clear hK; clear hK; clear hK; clear hK; clear hK; (with_reducible refine hK _ _ ?_); clear hK)
    | (simp only [Q9, RA, Jn, Jm, Jp, Q8, Q6, ev, ofValue, Ju, J0, J3, J2, J4, reduceCtorEq, reduceIte, Jv, Qm, Qk, Q0, aun, Qj, Jk, Ji, Jz, Jy, Jj, Qi, Jf, Q7, Js, J1, J5, Ja, J9, Jb, J6, J7, Jd, J8, RB, Jw, Je, RZ, W0, k2, k3, k4, k6, k7, k8, hu, hv, wn, bld_two, z2, hX1, hX2])
    | (simp (disch := first | omega | (simp only [RO]; done) | assumption) only [RS, RG, six29, gix29, zix29, idx28, slh28, Xt, Xv, Xj, Xu])
    | (simp (disch := (first | omega | (simp only [RO]; done) | assumption | (simp only [RM, Je]; done) | (simp only [RL, Je]; omega))) only [RD, reduceCtorEq, reduceIte, Je, J1, J3, J2, J6, W0, k2, k3, k4, k6, k7, k8, hu, hv, wn, bld_two, z2, hX1, hX2])
  refine AWp_loopT (fun m fr' H' => ∃ i : Nat, m = 3 - i ∧ i ≤ 3 ∧ fr' 4 = .int .i64 G ∧ fr' 7 = .ptr 1 0 ∧ fr' 8 = .ptr 2 0 ∧ fr' 88 = .sl 3 0 3 3 ∧ fr' 89 = .int .i64 3 ∧ fr' 90 = .int .i64 (i : Int) ∧ H' = [Nt, Pb A B, Pb C D, ⟨[.int .i64 E, .int .i64 F, .int .i64 X2, .int .i64 X1, .int .i64 dd, .int .i64 near], .own, 28⟩]) (m := 3) ?_ ?_
  · refine ⟨_, _, To.refl, 0, by omega, by omega, ?_, ?_, ?_, ?_, ?_, ?_, rfl⟩
    all_goals first | rfl | (simp only [RA, J0, J3, reduceCtorEq, reduceIte, k4, k7, k8]; first | done | rfl)
  clear k2 k3 k4 k6 k7 k8 HY hu hv s1 s2 b1 b2 KN
  rintro m fr' H' ⟨i, rfl, hi, k4, k7, k8, k88, k89, k90, rfl⟩
  have h4 : i = 0 ∨ i = 1 ∨ i = 2 ∨ i = 3 := by omega
  rcases h4 with rfl | rfl | rfl | rfl
  · obtain ⟨n, a, b, c, e, hn, M1, M2⟩ := meet_both A B E C D F G
    have SY := says_same n hn
    repeat' first
      | (with_reducible first | refine Jh (fun K hK => ?_) | refine Jx ?_ | refine Q4 ?_ | refine Qc ?_ | refine Qd ?_ | refine Jg ?_ | refine Q1 (id := 4) [] Gf (by kernel_rfl) (by kernel_rfl) ?_ | refine Jr ?_ | refine X8 ?_)
      | (with_reducible refine Q3 (M1) (Jq _ _) ?_)
      | (with_reducible refine Q3 (M2) (Jq _ _) ?_)
      | (with_reducible refine Q3 (SY) (Jq _ _) ?_)
      | (with_reducible refine Jt (fun hc => ?_) (fun hc => ?_) <;> (try simp only [RC] at hc) <;> (try (exfalso; first | omega | contradiction)))
      | (with_reducible refine Jc ?_ ?_)
      | (with_reducible refine X4 (fun hc => ?_) (fun hc => ?_) <;> (try simp only [RC] at hc) <;> (try (exfalso; first | omega | contradiction)))
      | (simp only [Qb, Jo, reduceIte, J0])
      | ((with_reducible refine hK _ _ ?_); clear hK)
      | (clear hK; (with_reducible refine hK _ _ ?_); clear hK)
      | (clear hK; clear hK; (with_reducible refine hK _ _ ?_); clear hK)
      | (clear hK; clear hK; clear hK; (with_reducible refine hK _ _ ?_); clear hK)
      | (clear hK; clear hK; clear hK; clear hK; (with_reducible refine hK _ _ ?_); clear hK)
      | (clear hK; clear hK; clear hK; clear hK; clear hK; (with_reducible refine hK _ _ ?_); clear hK)
      | (simp only [Q9, RA, Jn, Jm, Jp, Q8, Q6, ev, ofValue, Ju, J0, J3, J2, J4, reduceCtorEq, reduceIte, Jv, Qm, Qk, Q0, aun, Qj, Jk, Ji, Jz, Jy, Jj, Qi, Jf, Q7, Js, J1, J5, Ja, J9, Jb, J6, J7, Jd, J8, RB, Jw, Je, RZ, W0, k4, k7, k8, k88, k89, k90, eq_pt])
      | (simp (disch := first | omega | (simp only [RO]; done) | assumption) only [RS, RG, six29, gix29, zix29, idx28, slh28, Xt, Xv, Xj, Xu])
      | (simp (disch := (first | omega | (simp only [RO]; done) | assumption | (simp only [RM, Je]; done) | (simp only [RL, Je]; omega))) only [RD, reduceCtorEq, reduceIte, Je, J1, J3, J2, J6, W0, k4, k7, k8, k88, k89, k90, eq_pt])
    all_goals
      refine ⟨2, by omega, _, _, To.keepC [0, 1, 2, 3] [Nt, Pb A B, Pb C D, ⟨[.int .i64 E, .int .i64 F, .int .i64 X2, .int .i64 X1, .int .i64 dd, .int .i64 near], .own, 28⟩] rfl rfl (by simp only [lts_bs, lts_bn, RT]), 1, rfl, by omega, ?_, ?_, ?_, ?_, ?_, ?_, rfl⟩
    all_goals first | rfl | (simp only [RA, J0, J3, reduceCtorEq, reduceIte, k4, k7, k8, k88, k89]; first | done | rfl)
  · obtain ⟨n, a, b, c, e, hn, M1, M2⟩ := meet_both A B X2 C D X1 G
    have SY := says_same n hn
    repeat' first
      | (with_reducible first | refine Jh (fun K hK => ?_) | refine Jx ?_ | refine Q4 ?_ | refine Qc ?_ | refine Qd ?_ | refine Jg ?_ | refine Q1 (id := 4) [] Gf (by kernel_rfl) (by kernel_rfl) ?_ | refine Jr ?_ | refine X8 ?_)
      | (with_reducible refine Q3 (M1) (Jq _ _) ?_)
      | (with_reducible refine Q3 (M2) (Jq _ _) ?_)
      | (with_reducible refine Q3 (SY) (Jq _ _) ?_)
      | (with_reducible refine Jt (fun hc => ?_) (fun hc => ?_) <;> (try simp only [RC] at hc) <;> (try (exfalso; first | omega | contradiction)))
      | (with_reducible refine Jc ?_ ?_)
      | (with_reducible refine X4 (fun hc => ?_) (fun hc => ?_) <;> (try simp only [RC] at hc) <;> (try (exfalso; first | omega | contradiction)))
      | (simp only [Qb, Jo, reduceIte, J0])
      | ((with_reducible refine hK _ _ ?_); clear hK)
      | (clear hK; (with_reducible refine hK _ _ ?_); clear hK)
      | (clear hK; clear hK; (with_reducible refine hK _ _ ?_); clear hK)
      | (clear hK; clear hK; clear hK; (with_reducible refine hK _ _ ?_); clear hK)
      | (clear hK; clear hK; clear hK; clear hK; (with_reducible refine hK _ _ ?_); clear hK)
      | (clear hK; clear hK; clear hK; clear hK; clear hK; (with_reducible refine hK _ _ ?_); clear hK)
      | (simp only [Q9, RA, Jn, Jm, Jp, Q8, Q6, ev, ofValue, Ju, J0, J3, J2, J4, reduceCtorEq, reduceIte, Jv, Qm, Qk, Q0, aun, Qj, Jk, Ji, Jz, Jy, Jj, Qi, Jf, Q7, Js, J1, J5, Ja, J9, Jb, J6, J7, Jd, J8, RB, Jw, Je, RZ, W0, k4, k7, k8, k88, k89, k90, eq_pt])
      | (simp (disch := first | omega | (simp only [RO]; done) | assumption) only [RS, RG, six29, gix29, zix29, idx28, slh28, Xt, Xv, Xj, Xu])
      | (simp (disch := (first | omega | (simp only [RO]; done) | assumption | (simp only [RM, Je]; done) | (simp only [RL, Je]; omega))) only [RD, reduceCtorEq, reduceIte, Je, J1, J3, J2, J6, W0, k4, k7, k8, k88, k89, k90, eq_pt])
    all_goals
      refine ⟨1, by omega, _, _, To.keepC [0, 1, 2, 3] [Nt, Pb A B, Pb C D, ⟨[.int .i64 E, .int .i64 F, .int .i64 X2, .int .i64 X1, .int .i64 dd, .int .i64 near], .own, 28⟩] rfl rfl (by simp only [lts_bs, lts_bn, RT]), 2, rfl, by omega, ?_, ?_, ?_, ?_, ?_, ?_, rfl⟩
    all_goals first | rfl | (simp only [RA, J0, J3, reduceCtorEq, reduceIte, k4, k7, k8, k88, k89]; first | done | rfl)
  · obtain ⟨n, a, b, c, e, hn, M1, M2⟩ := meet_both A B dd C D near G
    have SY := says_same n hn
    repeat' first
      | (with_reducible first | refine Jh (fun K hK => ?_) | refine Jx ?_ | refine Q4 ?_ | refine Qc ?_ | refine Qd ?_ | refine Jg ?_ | refine Q1 (id := 4) [] Gf (by kernel_rfl) (by kernel_rfl) ?_ | refine Jr ?_ | refine X8 ?_)
      | (with_reducible refine Q3 (M1) (Jq _ _) ?_)
      | (with_reducible refine Q3 (M2) (Jq _ _) ?_)
      | (with_reducible refine Q3 (SY) (Jq _ _) ?_)
      | (with_reducible refine Jt (fun hc => ?_) (fun hc => ?_) <;> (try simp only [RC] at hc) <;> (try (exfalso; first | omega | contradiction)))
      | (with_reducible refine Jc ?_ ?_)
      | (with_reducible refine X4 (fun hc => ?_) (fun hc => ?_) <;> (try simp only [RC] at hc) <;> (try (exfalso; first | omega | contradiction)))
      | (simp only [Qb, Jo, reduceIte, J0])
      | ((with_reducible refine hK _ _ ?_); clear hK)
      | (clear hK; (with_reducible refine hK _ _ ?_); clear hK)
      | (clear hK; clear hK; (with_reducible refine hK _ _ ?_); clear hK)
      | (clear hK; clear hK; clear hK; (with_reducible refine hK _ _ ?_); clear hK)
      | (clear hK; clear hK; clear hK; clear hK; (with_reducible refine hK _ _ ?_); clear hK)
      | (clear hK; clear hK; clear hK; clear hK; clear hK; (with_reducible refine hK _ _ ?_); clear hK)
      | (simp only [Q9, RA, Jn, Jm, Jp, Q8, Q6, ev, ofValue, Ju, J0, J3, J2, J4, reduceCtorEq, reduceIte, Jv, Qm, Qk, Q0, aun, Qj, Jk, Ji, Jz, Jy, Jj, Qi, Jf, Q7, Js, J1, J5, Ja, J9, Jb, J6, J7, Jd, J8, RB, Jw, Je, RZ, W0, k4, k7, k8, k88, k89, k90, eq_pt])
      | (simp (disch := first | omega | (simp only [RO]; done) | assumption) only [RS, RG, six29, gix29, zix29, idx28, slh28, Xt, Xv, Xj, Xu])
      | (simp (disch := (first | omega | (simp only [RO]; done) | assumption | (simp only [RM, Je]; done) | (simp only [RL, Je]; omega))) only [RD, reduceCtorEq, reduceIte, Je, J1, J3, J2, J6, W0, k4, k7, k8, k88, k89, k90, eq_pt])
    all_goals
      refine ⟨0, by omega, _, _, To.keepC [0, 1, 2, 3] [Nt, Pb A B, Pb C D, ⟨[.int .i64 E, .int .i64 F, .int .i64 X2, .int .i64 X1, .int .i64 dd, .int .i64 near], .own, 28⟩] rfl rfl (by simp only [lts_bs, lts_bn, RT]), 3, rfl, by omega, ?_, ?_, ?_, ?_, ?_, ?_, rfl⟩
    all_goals first | rfl | (simp only [RA, J0, J3, reduceCtorEq, reduceIte, k4, k7, k8, k88, k89]; first | done | rfl)
  · skip
    repeat' first
      | (with_reducible first | refine Jh (fun K hK => ?_) | refine Jx ?_ | refine Q4 ?_ | refine Qc ?_ | refine Qd ?_ | refine Jg ?_ | refine Q1 (id := 4) [] Gf (by kernel_rfl) (by kernel_rfl) ?_ | refine Jr ?_ | refine X8 ?_)
      | (with_reducible refine Jt (fun hc => ?_) (fun hc => ?_) <;> (try simp only [RC] at hc) <;> (try (exfalso; first | omega | contradiction)))
      | (with_reducible refine Jc ?_ ?_)
      | (with_reducible refine X4 (fun hc => ?_) (fun hc => ?_) <;> (try simp only [RC] at hc) <;> (try (exfalso; first | omega | contradiction)))
      | (simp only [Qb, Jo, reduceIte, J0])
      | ((with_reducible refine hK _ _ ?_); clear hK)
      | (clear hK; (with_reducible refine hK _ _ ?_); clear hK)
      | (clear hK; clear hK; (with_reducible refine hK _ _ ?_); clear hK)
      | (clear hK; clear hK; clear hK; (with_reducible refine hK _ _ ?_); clear hK)
      | (clear hK; clear hK; clear hK; clear hK; (with_reducible refine hK _ _ ?_); clear hK)
      | (clear hK; clear hK; clear hK; clear hK; clear hK; (with_reducible refine hK _ _ ?_); clear hK)
      | (simp only [Q9, RA, Jn, Jm, Jp, Q8, Q6, ev, ofValue, Ju, J0, J3, J2, J4, reduceCtorEq, reduceIte, Jv, Qm, Qk, Q0, aun, Qj, Jk, Ji, Jz, Jy, Jj, Qi, Jf, Q7, Js, J1, J5, Ja, J9, Jb, J6, J7, Jd, J8, RB, Jw, Je, RZ, W0, k4, k7, k8, k88, k89, k90])
      | (simp (disch := first | omega | (simp only [RO]; done) | assumption) only [RS, RG, six29, gix29, zix29, idx28, slh28, Xt, Xv, Xj, Xu])
      | (simp (disch := (first | omega | (simp only [RO]; done) | assumption | (simp only [RM, Je]; done) | (simp only [RL, Je]; omega))) only [RD, reduceCtorEq, reduceIte, Je, J1, J3, J2, J6, W0, k4, k7, k8, k88, k89, k90])
    all_goals
      (
       (refine Qg (rs := [.tmp 14]) rfl ?_)
       (simp only [X5, Qf, RA, RZ, J0, J3, J1, reduceCtorEq, reduceIte, W0])
       (try simp only [RF]))
end Go.Proofs.YtigddjlhncnnoaaGreatDoor

/- Part 3 of the proof of the law CirclesMeet: lemmas on the model's code, on this program's functions, on numbers. No condition. -/
import Derived.Test.YtigddjlhncnnoaaGreatDoorZCirclesMeetab
set_option linter.unusedVariables false
set_option linter.unusedSimpArgs false
open Nat renaming reduceEqDiff → J0, reduceLeDiff → J1, reduceMul → J2, reduceAdd → J3, reduceSub → J4, reduceLT → J5
open Int renaming reduceToNat → J6, reducePow → J7, reduceNeg → J8, reduceLT → J9, reduceLE → Ja, reduceEq → Jb
open And renaming intro → Jc
open Go.IntKind renaming bits → Jd
open Go.PW renaming dig_length → Je
namespace Go.Proofs.YtigddjlhncnnoaaGreatDoor
open Go.AL Go.PW
theorem W3 : type_of% (Jc @Xw (Jc @Zh (Jc @Z1 (Jc @Zq (Jc @Zp (@Xc)))))) := Jc @Xw (Jc @Zh (Jc @Z1 (Jc @Zq (Jc @Zp (@Xc)))))
abbrev pn30_2RfH : Plan := (.one 0 (.one 2 (.one 3 (.one 4 (.one 5 (.alt 1 (.one 6 (.one 7 (.one 8 .nil))) (.one 6 (.one 1 (.one 7 (.one 8 .nil))))))))))
abbrev pn30_4RfH : Plan := (.one 0 (.one 2 (.one 3 (.one 4 (.one 5 (.alt 1 (.one 6 (.one 7 (.one 8 .nil))) (.one 6 (.one 1 (.one 7 (.one 8 .nil))))))))))
abbrev pn30_5RfH : Plan := (.one 0 (.one 2 (.one 3 (.one 4 (.one 5 (.alt 1 (.one 6 (.one 7 (.one 8 .nil))) (.one 6 (.one 1 (.one 7 (.one 8 .nil))))))))))
set_option maxRecDepth 8000
theorem Can.le {xs ys : List Int} (cx : Can xs) (cy : Can ys) (h : val ys ≤ val xs) : ys.length ≤ xs.length := by
  rcases Nat.lt_or_ge xs.length ys.length with e | e
  · have := val_len_lt cx.lim cy e; omega
  · exact e
set_option maxHeartbeats 4000000 in
theorem Radd_calls (x y : Int) (s t : AV) (H : Hp) (hs : Bs_ H s x) (ht : Bs_ H t y) (bx : Sm x) (by_ : Sm y) : ACalls Tryz.prog 30 [BV x s, BV y t] H fun r H' => ∃ u, r = BV (x + y) u ∧ Bs_ H' u (x + y) ∧ Ext H H' := by
  obtain ⟨xs, ux, cx, vx⟩ := hs.ex
  obtain ⟨ys, uy, cy, vy⟩ := ht.ex
  have hs1 : s.one = true := ux.rd.rd.one
  have hc1 : s.cells = [s] := AV.cells_one hs1
  have ht1 : t.one = true := uy.rd.rd.one
  have hc2 : t.cells = [t] := AV.cells_one ht1
  have lx := cx.small (by rw [vx]; exact bx)
  have ly := cy.small (by rw [vy]; exact by_)
  refine Qo Tryz.func30 rfl (by kernel_rfl) (by kernel_rfl) ?_
  by_cases hsame : decide (x < 0) = decide (y < 0)
  · have e1 : (decide (x < 0) = decide (y < 0)) = True := eq_true hsame
    have e1b : (decide (x < 0) == decide (y < 0)) = true := by rw [hsame]; exact beq_self_eq_true _
    have hiff : x < 0 ↔ y < 0 := by
      rw [← decide_eq_true_iff (p := x < 0), hsame, decide_eq_true_iff]
    repeat' first
      | (with_reducible first | refine Jh (fun K hK => ?_) | refine Jg ?_ | refine Q1 (id := 2) [] pn30_2RfH (by kernel_rfl) (by kernel_rfl) ?_ | refine Jr ?_)
      | (with_reducible refine Jc ?_ ?_)
      | (simp only [Qb, Jo, reduceIte, J0])
      | ((with_reducible refine hK _ _ ?_); clear hK)
      | (simp only [Q9, RA, Jn, Jm, Jp, Q8, Q6, ev, ofValue, Ju, J0, J3, J2, J4, reduceCtorEq, reduceIte, Jv, Qm, Qk, Q0, aun, Qj, Jk, Ji, Jz, Jy, Jj, Qi, Jf, Q7, Q2, Js, J1, J5, Ja, J9, Jb, J6, J7, Jd, J8, RB, Jw, Je, W3, e1b])
      | (simp (disch := first | omega | (simp only [RO]; done) | assumption) only [RS, Xa, Xb, X9, Qz, Qr, X0])
      | (simp (disch := (first | omega | (simp only [RO]; done) | assumption | (simp only [RM, Je]; done) | (simp only [RL, Je]; omega))) only [RD, reduceCtorEq, reduceIte, Je, J1, J3, J2, J6, W3, e1b])
    all_goals
      refine Q5 (Rplus_calls s t xs ys _ (ux.rd.ext (Re _ _ _)) (uy.rd.ext (Re _ _ _)) cx.lim cy.lim (by omega) (by omega)) ?_
      rintro u H4 ⟨zs, U, C, vz, x4⟩
      have vz2 : val zs = (x + y).natAbs := by rw [vz, vx, vy]; omega
      have hz := Bs_.nil (H := H4) (s := u) (x := x + y) C vz2
      have q2 : X3 H4 H.length = some ⟨[.bool (decide (x < 0)), s], .own, 67⟩ := Qy (by rw [Qw (by simp), Qw (by simp), X7 rfl]) x4
      have q3 : X3 H4 (H.length + 1) = some ⟨[.bool (decide (y < 0)), t], .own, 67⟩ := Qy (by rw [Qw (by simp), X7 (by simp)]) x4
      have q4 : X3 H4 (H.length + 1 + 1) = some ⟨[.bool false, .nilS], .own, 67⟩ := Qy (X7 (by simp)) x4
      have hu1 : u.one = true := U.rd.rd.one
      have hc3 : u.cells = [u] := AV.cells_one hu1
      have hm := made_calls (decide (x < 0)) u zs H4 U.rd
      have hsg : (decide (x < 0) && decide (0 < zs.length)) = decide (x + y < 0) := by
        rw [Bool.eq_iff_iff]; simp only [Bool.and_eq_true, decide_eq_true_iff]; omega
      rw [hsg] at hm
      repeat' first
        | (with_reducible first | refine Qd ?_)
        | ((with_reducible refine Q5 (hm) ?_); rintro _ _ ⟨rfl, rfl⟩)
        | (simp only [Qb, Jo, reduceIte, J0])
        | ((with_reducible refine hK _ _ ?_); clear hK)
        | (simp only [Q9, RA, Jn, Jm, Jp, Q8, Q6, ev, ofValue, Ju, J0, J3, J2, J4, reduceCtorEq, reduceIte, Jv, Qm, Qk, Q0, aun, Qj, Jk, Ji, Jz, Jy, Jj, Qi, Jf, Q7, Q2, Js, J1, J5, Ja, J9, Jb, J6, J7, Jd, J8, RB, Jw, Je, W3, q2, q3, q4])
        | (simp (disch := first | omega | (simp only [RO]; done) | assumption) only [RS, Xa, Xb, X9, Qz, Qr, X0])
        | (simp (disch := (first | omega | (simp only [RO]; done) | assumption | (simp only [RM, Je]; done) | (simp only [RL, Je]; omega))) only [RD, reduceCtorEq, reduceIte, Je, J1, J3, J2, J6, W3, q2, q3, q4])
      have l4 := X6 q4
      (
       (refine Qg (rs := [.cell 4 67]) rfl ?_)
       (simp only [X5, Qf, Fr.put_some, Fr.put_none, Qp, Qq, Qt, J0, reduceIte, Qv l4])
       (try simp (disch := (first | omega | (simp only [RO]; done) | assumption | (simp only [RM, Je]; done) | (simp only [RL, Je]; omega))) only [RD, reduceCtorEq, reduceIte, Je, J1, J3, J2, J6, W3, Qv l4]))
      exact ⟨u, rfl, ⟨zs, U.other q4 (by decide) _, C, vz2⟩, ((Re _ _ _).trans x4).set (by omega) _⟩
  · have e1b : (decide (x < 0) == decide (y < 0)) = false := by
      rw [Bool.eq_false_iff]; intro h; exact hsame (eq_of_beq h)
    have hiff : ¬ (x < 0 ↔ y < 0) := fun h => hsame (decide_eq_decide.mpr h)
    by_cases hle : val ys ≤ val xs
    · have e2 : (0 ≤ (val xs - val ys).sign) = True := eq_true (Int.sign_nonneg_iff.mpr (by omega))
      repeat' first
        | (with_reducible first | refine Jh (fun K hK => ?_) | refine Q4 ?_ | refine Jg ?_ | refine Q1 (id := 4) [] pn30_4RfH (by kernel_rfl) (by kernel_rfl) ?_ | refine Jr ?_)
        | ((with_reducible refine Q5 (cmp_calls s t xs ys _ (ux.rd.ext (Re _ _ _)) (uy.rd.ext (Re _ _ _)) cx cy) ?_); rintro _ _ ⟨rfl, rfl⟩)
        | (with_reducible refine Jc ?_ ?_)
        | (simp only [Qb, Jo, reduceIte, J0])
        | ((with_reducible refine hK _ _ ?_); clear hK)
        | (simp only [Q9, RA, Jn, Jm, Jp, Q8, Q6, ev, ofValue, Ju, J0, J3, J2, J4, reduceCtorEq, reduceIte, Jv, Qm, Qk, Q0, aun, Qj, Jk, Ji, Jz, Jy, Jj, Qi, Jf, Q7, Q2, Js, J1, J5, Ja, J9, Jb, J6, J7, Jd, J8, RB, Jw, Je, W3, e1b, e2])
        | (simp (disch := first | omega | (simp only [RO]; done) | assumption) only [RS, Xa, Xb, X9, Qz, Qr, X0])
        | (simp (disch := (first | omega | (simp only [RO]; done) | assumption | (simp only [RM, Je]; done) | (simp only [RL, Je]; omega))) only [RD, reduceCtorEq, reduceIte, Je, J1, J3, J2, J6, W3, e1b, e2])
      all_goals
        refine Q5 (Rminus_calls s t xs ys _ (ux.rd.ext (Re _ _ _)) (uy.rd.ext (Re _ _ _)) cx.lim cy.lim (by omega) (cx.le cy hle) hle) ?_
        rintro u H4 ⟨zs, U, C, vz, x4⟩
        have vz2 : val zs = (x + y).natAbs := by rw [vz, vx, vy]; omega
        have hz := Bs_.nil (H := H4) (s := u) (x := x + y) C vz2
        have q2 : X3 H4 H.length = some ⟨[.bool (decide (x < 0)), s], .own, 67⟩ := Qy (by rw [Qw (by simp), Qw (by simp), X7 rfl]) x4
        have q3 : X3 H4 (H.length + 1) = some ⟨[.bool (decide (y < 0)), t], .own, 67⟩ := Qy (by rw [Qw (by simp), X7 (by simp)]) x4
        have q4 : X3 H4 (H.length + 1 + 1) = some ⟨[.bool false, .nilS], .own, 67⟩ := Qy (X7 (by simp)) x4
        have hu1 : u.one = true := U.rd.rd.one
        have hc3 : u.cells = [u] := AV.cells_one hu1
        have hm := made_calls (decide (x < 0)) u zs H4 U.rd
        have hsg : (decide (x < 0) && decide (0 < zs.length)) = decide (x + y < 0) := by
          rw [Bool.eq_iff_iff]; simp only [Bool.and_eq_true, decide_eq_true_iff]; omega
        rw [hsg] at hm
        repeat' first
          | (with_reducible first | refine Qd ?_)
          | ((with_reducible refine Q5 (hm) ?_); rintro _ _ ⟨rfl, rfl⟩)
          | (simp only [Qb, Jo, reduceIte, J0])
          | ((with_reducible refine hK _ _ ?_); clear hK)
          | (simp only [Q9, RA, Jn, Jm, Jp, Q8, Q6, ev, ofValue, Ju, J0, J3, J2, J4, reduceCtorEq, reduceIte, Jv, Qm, Qk, Q0, aun, Qj, Jk, Ji, Jz, Jy, Jj, Qi, Jf, Q7, Q2, Js, J1, J5, Ja, J9, Jb, J6, J7, Jd, J8, RB, Jw, Je, W3, q2, q3, q4])
          | (simp (disch := first | omega | (simp only [RO]; done) | assumption) only [RS, Xa, Xb, X9, Qz, Qr, X0])
          | (simp (disch := (first | omega | (simp only [RO]; done) | assumption | (simp only [RM, Je]; done) | (simp only [RL, Je]; omega))) only [RD, reduceCtorEq, reduceIte, Je, J1, J3, J2, J6, W3, q2, q3, q4])
        have l4 := X6 q4
        (
         (refine Qg (rs := [.cell 4 67]) rfl ?_)
         (simp only [X5, Qf, Fr.put_some, Fr.put_none, Qp, Qq, Qt, J0, reduceIte, Qv l4])
         (try simp (disch := (first | omega | (simp only [RO]; done) | assumption | (simp only [RM, Je]; done) | (simp only [RL, Je]; omega))) only [RD, reduceCtorEq, reduceIte, Je, J1, J3, J2, J6, W3, Qv l4]))
        exact ⟨u, rfl, ⟨zs, U.other q4 (by decide) _, C, vz2⟩, ((Re _ _ _).trans x4).set (by omega) _⟩
    · have e2 : (0 ≤ (val xs - val ys).sign) = False := eq_false (fun h => by have := Int.sign_nonneg_iff.mp h; omega)
      repeat' first
        | (with_reducible first | refine Jh (fun K hK => ?_) | refine Q4 ?_ | refine Jg ?_ | refine Q1 (id := 5) [] pn30_5RfH (by kernel_rfl) (by kernel_rfl) ?_ | refine Jr ?_)
        | ((with_reducible refine Q5 (cmp_calls s t xs ys _ (ux.rd.ext (Re _ _ _)) (uy.rd.ext (Re _ _ _)) cx cy) ?_); rintro _ _ ⟨rfl, rfl⟩)
        | (with_reducible refine Jc ?_ ?_)
        | (simp only [Qb, Jo, reduceIte, J0])
        | ((with_reducible refine hK _ _ ?_); clear hK)
        | (simp only [Q9, RA, Jn, Jm, Jp, Q8, Q6, ev, ofValue, Ju, J0, J3, J2, J4, reduceCtorEq, reduceIte, Jv, Qm, Qk, Q0, aun, Qj, Jk, Ji, Jz, Jy, Jj, Qi, Jf, Q7, Q2, Js, J1, J5, Ja, J9, Jb, J6, J7, Jd, J8, RB, Jw, Je, W3, e1b, e2])
        | (simp (disch := first | omega | (simp only [RO]; done) | assumption) only [RS, Xa, Xb, X9, Qz, Qr, X0])
        | (simp (disch := (first | omega | (simp only [RO]; done) | assumption | (simp only [RM, Je]; done) | (simp only [RL, Je]; omega))) only [RD, reduceCtorEq, reduceIte, Je, J1, J3, J2, J6, W3, e1b, e2])
      all_goals
        refine Q5 (Rminus_calls t s ys xs _ (uy.rd.ext (Re _ _ _)) (ux.rd.ext (Re _ _ _)) cy.lim cx.lim (by omega) (cy.le cx (by omega)) (by omega)) ?_
        rintro u H4 ⟨zs, U, C, vz, x4⟩
        have vz2 : val zs = (x + y).natAbs := by rw [vz, vx, vy]; omega
        have hz := Bs_.nil (H := H4) (s := u) (x := x + y) C vz2
        have q2 : X3 H4 H.length = some ⟨[.bool (decide (x < 0)), s], .own, 67⟩ := Qy (by rw [Qw (by simp), Qw (by simp), X7 rfl]) x4
        have q3 : X3 H4 (H.length + 1) = some ⟨[.bool (decide (y < 0)), t], .own, 67⟩ := Qy (by rw [Qw (by simp), X7 (by simp)]) x4
        have q4 : X3 H4 (H.length + 1 + 1) = some ⟨[.bool false, .nilS], .own, 67⟩ := Qy (X7 (by simp)) x4
        have hu1 : u.one = true := U.rd.rd.one
        have hc3 : u.cells = [u] := AV.cells_one hu1
        have hm := made_calls (decide (y < 0)) u zs H4 U.rd
        have hsg : (decide (y < 0) && decide (0 < zs.length)) = decide (x + y < 0) := by
          rw [Bool.eq_iff_iff]; simp only [Bool.and_eq_true, decide_eq_true_iff]; omega
        rw [hsg] at hm
        repeat' first
          | (with_reducible first | refine Qd ?_)
          | ((with_reducible refine Q5 (hm) ?_); rintro _ _ ⟨rfl, rfl⟩)
          | (simp only [Qb, Jo, reduceIte, J0])
          | ((with_reducible refine hK _ _ ?_); clear hK)
          | (simp only [Q9, RA, Jn, Jm, Jp, Q8, Q6, ev, ofValue, Ju, J0, J3, J2, J4, reduceCtorEq, reduceIte, Jv, Qm, Qk, Q0, aun, Qj, Jk, Ji, Jz, Jy, Jj, Qi, Jf, Q7, Q2, Js, J1, J5, Ja, J9, Jb, J6, J7, Jd, J8, RB, Jw, Je, W3, q2, q3, q4])
          | (simp (disch := first | omega | (simp only [RO]; done) | assumption) only [RS, Xa, Xb, X9, Qz, Qr, X0])
          | (simp (disch := (first | omega | (simp only [RO]; done) | assumption | (simp only [RM, Je]; done) | (simp only [RL, Je]; omega))) only [RD, reduceCtorEq, reduceIte, Je, J1, J3, J2, J6, W3, q2, q3, q4])
        have l4 := X6 q4
        (
         (refine Qg (rs := [.cell 4 67]) rfl ?_)
         (simp only [X5, Qf, Fr.put_some, Fr.put_none, Qp, Qq, Qt, J0, reduceIte, Qv l4])
         (try simp (disch := (first | omega | (simp only [RO]; done) | assumption | (simp only [RM, Je]; done) | (simp only [RL, Je]; omega))) only [RD, reduceCtorEq, reduceIte, Je, J1, J3, J2, J6, W3, Qv l4]))
        exact ⟨u, rfl, ⟨zs, U.other q4 (by decide) _, C, vz2⟩, ((Re _ _ _).trans x4).set (by omega) _⟩
end Go.Proofs.YtigddjlhncnnoaaGreatDoor
namespace Go.Proofs.YtigddjlhncnnoaaGreatDoor
open Go.AL Go.PW
theorem J1u : type_of% (Jc @Zh (Jc @Z1 (Jc @Zq (Jc @Zp (@Xc))))) := Jc @Zh (Jc @Z1 (Jc @Zq (Jc @Zp (@Xc))))
theorem tf88RfI : type_of% (Jc @Zh (Jc @Z1 (Jc @Zq (Jc @Zp (@Xc))))) := Jc @Zh (Jc @Z1 (Jc @Zq (Jc @Zp (@Xc))))
theorem tf34RfI : type_of% (Jc @Zh (Jc @Z1 (Jc @Zq (Jc @Zp (@Xc))))) := Jc @Zh (Jc @Z1 (Jc @Zq (Jc @Zp (@Xc))))
theorem tf51RfI : type_of% (Jc @Zg (Jc @Xw (Jc @Zh (Jc @Z1 (Jc @Zq (Jc @Zp (@Xc))))))) := Jc @Zg (Jc @Xw (Jc @Zh (Jc @Z1 (Jc @Zq (Jc @Zp (@Xc))))))
abbrev pn89_1RfI : Plan := (.one 1 (.pur 2 (.one 0 (.one 3 (.one 4 .nil)))))
set_option maxRecDepth 8000
set_option maxHeartbeats 2000000 in
theorem Rsub_calls (x y : Int) (s t : AV) (H : Hp) (hs : Bs_ H s x) (ht : Bs_ H t y) (bx : Sm x) (by_ : Sm y) : ACalls Tryz.prog 89 [BV x s, BV y t] H fun r H' => ∃ u, r = BV (x - y) u ∧ Bs_ H' u (x - y) ∧ Ext H H' := by
  have hs1 := hs.one
  have hc1 : s.cells = [s] := AV.cells_one hs1
  have ht1 := ht.one
  have hc2 : t.cells = [t] := AV.cells_one ht1
  refine Qo Tryz.func89 rfl (by kernel_rfl) (by kernel_rfl) ?_
  repeat' first
    | (with_reducible first | refine Jh (fun K hK => ?_) | refine Jg ?_ | refine Q1 (id := 1) [] pn89_1RfI (by kernel_rfl) (by kernel_rfl) ?_ | refine X8 ?_)
    | (simp only [Qb, Jo, reduceIte, J0])
    | ((with_reducible refine hK _ _ ?_); clear hK)
    | (simp only [Q9, RA, Jn, Jm, Jp, Q8, Q6, ev, ofValue, Ju, J0, J3, J2, J4, reduceCtorEq, reduceIte, Jv, Qm, Qk, Q0, aun, Qj, Jk, Ji, Jz, Jy, Jj, Qi, Jf, Q7, Q2, Js, J1, J5, Ja, J9, Jb, J6, J7, Jd, J8, RB, Jw, Je, J1u])
    | (simp (disch := first | omega | (simp only [RO]; done) | assumption) only [RS, Xa, Xb, X9, Qz, Qr, X0])
    | (simp (disch := (first | omega | (simp only [RO]; done) | assumption | (simp only [RM, Je]; done) | (simp only [RL, Je]; omega))) only [RD, reduceCtorEq, reduceIte, Je, J1, J3, J2, J6, J1u])
  all_goals
    refine Xd (v := BV (-y) t) (fun H0 x0 => Neg_calls y t H0 (ht.ext ((Re _ _ _).trans x0))) ?_
    repeat' first
      | (simp only [Q9, RA, Jn, Jm, Jp, Q8, Q6, ev, ofValue, Ju, J0, J3, J2, J4, reduceCtorEq, reduceIte, Jv, Qm, Qk, Q0, aun, Qj, Jk, Ji, Jz, Jy, Jj, Qi, Jf, Q7, Q2, Js, J1, J5, Ja, J9, Jb, J6, J7, Jd, J8, RB, Jw, Je, J1u])
      | (simp (disch := (first | omega | (simp only [RO]; done) | assumption | (simp only [RM, Je]; done) | (simp only [RL, Je]; omega))) only [RD, reduceCtorEq, reduceIte, Je, J1, J3, J2, J6, J1u])
    refine Q5 (Radd_calls x (-y) s t _ (hs.ext (Re _ _ _)) (ht.neg.ext (Re _ _ _)) bx by_.neg) ?_
    rintro _ H4 ⟨u, rfl, U, x4⟩
    have q4 : X3 H4 (H.length + 1 + 1) = some ⟨[.bool false, .nilS], .own, 67⟩ := Qy (X7 (by simp)) x4
    have hu1 : u.one = true := U.one
    have hc3 : u.cells = [u] := AV.cells_one hu1
    repeat' first
      | (with_reducible first | refine Qd ?_)
      | (simp only [Qb, Jo, reduceIte, J0])
      | ((with_reducible refine hK _ _ ?_); clear hK)
      | (simp only [Q9, RA, Jn, Jm, Jp, Q8, Q6, ev, ofValue, Ju, J0, J3, J2, J4, reduceCtorEq, reduceIte, Jv, Qm, Qk, Q0, aun, Qj, Jk, Ji, Jz, Jy, Jj, Qi, Jf, Q7, Q2, Js, J1, J5, Ja, J9, Jb, J6, J7, Jd, J8, RB, Jw, Je, J1u, q4])
      | (simp (disch := first | omega | (simp only [RO]; done) | assumption) only [RS, Xa, Xb, X9, Qz, Qr, X0])
      | (simp (disch := (first | omega | (simp only [RO]; done) | assumption | (simp only [RM, Je]; done) | (simp only [RL, Je]; omega))) only [RD, reduceCtorEq, reduceIte, Je, J1, J3, J2, J6, J1u, q4])
    have l4 := X6 q4
    (
     (refine Qg (rs := [.cell 4 67]) rfl ?_)
     (simp only [X5, Qf, Fr.put_some, Fr.put_none, Qp, Qq, Qt, J0, reduceIte, Qv l4])
     (try simp (disch := (first | omega | (simp only [RO]; done) | assumption | (simp only [RM, Je]; done) | (simp only [RL, Je]; omega))) only [RD, reduceCtorEq, reduceIte, Je, J1, J3, J2, J6, J1u, Qv l4]))
    have he : x + -y = x - y := by omega
    rw [he] at U ⊢
    exact ⟨u, rfl, U.other q4 (by decide) _, ((Re _ _ _).trans x4).set (by omega) _⟩
theorem Amount_calls (x : Int) (s : AV) (H : Hp) (hs : Bs_ H s x) : ACalls Tryz.prog 88 [BV x s] H fun r H' => r = BV x.natAbs s ∧ H = H' := by
  refine ACalls.drop (R := fun r => r = BV x.natAbs s) ?_
  obtain ⟨xs, u, c, hv⟩ := hs.ex
  have hs1 := hs.one
  have hc : s.cells = [s] := AV.cells_one hs1
  have hm := fun H0 (x0 : Ext H H0) => made_calls false s xs H0 (u.rd.ext x0)
  have hb : decide ((x.natAbs : Int) < 0) = false := decide_eq_false (by omega)
  refine Qo Tryz.func88 rfl (by kernel_rfl) (by kernel_rfl) ?_
  repeat' first
    | (with_reducible first | refine Jh (fun K hK => ?_) | refine Qd ?_ | refine Jg ?_)
    | ((with_reducible refine Q5 (hm _ ((Ext.push _ _).pushed _)) ?_); rintro _ _ ⟨rfl, rfl⟩)
    | (simp only [Qb, Jo, reduceIte, J0])
    | ((with_reducible refine hK _ _ ?_); clear hK)
    | (simp only [Q9, RA, Jn, Jm, Jp, Q8, Q6, ev, ofValue, Ju, J0, J3, J2, J4, reduceCtorEq, reduceIte, Jv, Qm, Qk, Q0, aun, Qj, Jk, Ji, Jz, Jy, Jj, Qi, Jf, Q7, Q2, Js, J1, J5, Ja, J9, Jb, J6, J7, Jd, J8, RB, Jw, Je, tf88RfI])
    | (simp (disch := first | omega | (simp only [RO]; done) | assumption) only [RS, Xa, Xb, X9, Qz, Qr, X0])
    | (simp (disch := (first | omega | (simp only [RO]; done) | assumption | (simp only [RM, Je]; done) | (simp only [RL, Je]; omega))) only [RD, reduceCtorEq, reduceIte, Je, J1, J3, J2, J6, tf88RfI])
  have hsl := hs.lt
  all_goals
    (
     (refine Qg (rs := [.cell 2 67]) rfl ?_)
     (simp only [X5, Qf, Fr.put_some, Fr.put_none, Qp, Qq, Qt, J0, reduceIte])
     (try simp (disch := (first | omega | (simp only [RO]; done) | assumption | (simp only [RM, Je]; done) | (simp only [RL, Je]; omega))) only [RD, reduceCtorEq, reduceIte, Je, J1, J3, J2, J6, tf88RfI]))
  all_goals
    refine ⟨(Ext.push _ _).pushed _, ?_⟩
    simp [AV.lt, AV.lts, hsl, hb]
theorem Bs_.abs {H : Hp} {s : AV} {x : Int} (h : Bs_ H s x) : Bs_ H s x.natAbs := by
  obtain ⟨xs, u, c, hv⟩ := h.ex
  exact ⟨xs, u, c, by rw [hv, Int.natAbs_natCast]⟩
theorem Cmp_calls (x y : Int) (s t : AV) (H : Hp) (hs : Bs_ H s x) (ht : Bs_ H t y) (bx : Sm x) (by_ : Sm y) : ACalls Tryz.prog 34 [BV x s, BV y t] H fun r H' => r = .int .i64 (x - y).sign ∧ H = H' := by
  refine ACalls.drop (R := fun r => r = .int .i64 (x - y).sign) ?_
  have hs1 := hs.one
  have hc1 : s.cells = [s] := AV.cells_one hs1
  have ht1 := ht.one
  have hc2 : t.cells = [t] := AV.cells_one ht1
  refine Qo Tryz.func34 rfl (by kernel_rfl) (by kernel_rfl) ?_
  repeat' first
    | (with_reducible first | refine Jh (fun K hK => ?_) | refine Jg ?_)
    | (simp only [Qb, Jo, reduceIte, J0])
    | ((with_reducible refine hK _ _ ?_); clear hK)
    | (simp only [Q9, RA, Jn, Jm, Jp, Q8, Q6, ev, ofValue, Ju, J0, J3, J2, J4, reduceCtorEq, reduceIte, Jv, Qm, Qk, Q0, aun, Qj, Jk, Ji, Jz, Jy, Jj, Qi, Jf, Q7, Q2, Js, J1, J5, Ja, J9, Jb, J6, J7, Jd, J8, RB, Jw, Je, tf34RfI])
    | (simp (disch := first | omega | (simp only [RO]; done) | assumption) only [RS, Xa, Xb, X9, Qz, Qr, X0])
    | (simp (disch := (first | omega | (simp only [RO]; done) | assumption | (simp only [RM, Je]; done) | (simp only [RL, Je]; omega))) only [RD, reduceCtorEq, reduceIte, Je, J1, J3, J2, J6, tf34RfI])
  all_goals
    refine Q5 (Rsub_calls x y s t _ (hs.ext (ext4 _ _)) (ht.ext (ext4 _ _)) bx by_) ?_
    rintro _ H4 ⟨u, rfl, U, x4⟩
    repeat' first
      | (with_reducible first | refine Qd ?_)
      | ((with_reducible refine Q5 (Sign_calls _ _ _ U) ?_); rintro _ _ ⟨rfl, rfl⟩)
      | (simp only [Qb, Jo, reduceIte, J0])
      | ((with_reducible refine hK _ _ ?_); clear hK)
      | (simp only [Q9, RA, Jn, Jm, Jp, Q8, Q6, ev, ofValue, Ju, J0, J3, J2, J4, reduceCtorEq, reduceIte, Jv, Qm, Qk, Q0, aun, Qj, Jk, Ji, Jz, Jy, Jj, Qi, Jf, Q7, Q2, Js, J1, J5, Ja, J9, Jb, J6, J7, Jd, J8, RB, Jw, Je, tf34RfI])
    (
     (refine Qg (rs := [.tmp 4]) rfl ?_)
     (simp only [X5, Qf, Fr.put_some, Fr.put_none, Qp, Qq, Qt, J0, reduceIte])
     (try simp (disch := (first | omega | (simp only [RO]; done) | assumption | (simp only [RM, Je]; done) | (simp only [RL, Je]; omega))) only [RD, reduceCtorEq, reduceIte, Je, J1, J3, J2, J6, tf34RfI]))
    exact ⟨(ext4 _ _).trans x4, trivial⟩
theorem Sm.abs {x : Int} (h : Sm x) : Sm x.natAbs := by unfold Sm at *; rw [Int.natAbs_natCast]; exact h
theorem Fits_calls (x m : Int) (s : AV) (H : Hp) (hs : Bs_ H s x) (bx : Sm x) (hm : -9223372036854775808 ≤ m ∧ m ≤ 9223372036854775807) : ACalls Tryz.prog 51 [BV x s, .int .i64 m] H fun r H' => r = .bool (decide ((x.natAbs : Int) ≤ m)) ∧ H = H' := by
  refine ACalls.drop (R := fun r => r = .bool (decide ((x.natAbs : Int) ≤ m))) ?_
  have hs1 := hs.one
  have hc1 : s.cells = [s] := AV.cells_one hs1
  refine Qo Tryz.func51 rfl (by kernel_rfl) (by kernel_rfl) ?_
  repeat' first
    | (with_reducible first | refine Jh (fun K hK => ?_) | refine Jg ?_)
    | ((with_reducible refine Q5 (Amount_calls _ _ _ (hs.push _)) ?_); rintro _ _ ⟨rfl, rfl⟩)
    | (simp only [Qb, Jo, reduceIte, J0])
    | ((with_reducible refine hK _ _ ?_); clear hK)
    | (simp only [Q9, RA, Jn, Jm, Jp, Q8, Q6, ev, ofValue, Ju, J0, J3, J2, J4, reduceCtorEq, reduceIte, Jv, Qm, Qk, Q0, aun, Qj, Jk, Ji, Jz, Jy, Jj, Qi, Jf, Q7, Q2, Js, J1, J5, Ja, J9, Jb, J6, J7, Jd, J8, RB, Jw, Je, tf51RfI])
    | (simp (disch := first | omega | (simp only [RO]; done) | assumption) only [RS, Xa, Xb, X9, Qz, Qr, X0])
    | (simp (disch := (first | omega | (simp only [RO]; done) | assumption | (simp only [RM, Je]; done) | (simp only [RL, Je]; omega))) only [RD, reduceCtorEq, reduceIte, Je, J1, J3, J2, J6, tf51RfI])
  all_goals
    refine Q5 (Of_calls m _ hm) ?_
    rintro _ H4 ⟨u, rfl, U, x4⟩
    have A4 : Bs_ H4 s x.natAbs := (hs.abs.push _).ext x4
    repeat' first
      | (with_reducible first | refine Qd ?_)
      | ((with_reducible refine Q5 (Cmp_calls _ _ _ _ _ A4 U bx.abs (Sm.int hm)) ?_); rintro _ _ ⟨rfl, rfl⟩)
      | (simp only [Qb, Jo, reduceIte, J0])
      | ((with_reducible refine hK _ _ ?_); clear hK)
      | (simp only [Q9, RA, Jn, Jm, Jp, Q8, Q6, ev, ofValue, Ju, J0, J3, J2, J4, reduceCtorEq, reduceIte, Jv, Qm, Qk, Q0, aun, Qj, Jk, Ji, Jz, Jy, Jj, Qi, Jf, Q7, Q2, Js, J1, J5, Ja, J9, Jb, J6, J7, Jd, J8, RB, Jw, Je, tf51RfI])
    (
     (refine Qg (rs := [.tmp 4]) rfl ?_)
     (simp only [X5, Qf, Fr.put_some, Fr.put_none, Qp, Qq, Qt, J0, reduceIte])
     (try simp (disch := (first | omega | (simp only [RO]; done) | assumption | (simp only [RM, Je]; done) | (simp only [RL, Je]; omega))) only [RD, reduceCtorEq, reduceIte, Je, J1, J3, J2, J6, tf51RfI]))
    refine ⟨(Ext.push _ _).trans x4, trivial, ?_⟩
    congr 1
    refine decide_eq_decide.mpr ?_
    rw [Int.sign_nonpos_iff]
    omega
end Go.Proofs.YtigddjlhncnnoaaGreatDoor
namespace Go.Proofs.YtigddjlhncnnoaaGreatDoor
open Go.AL Go.PW
theorem Nv : type_of% (Jc @Zg (Jc @Xw (Jc @Zh (Jc @Z1 (Jc @Zq (Jc @Zp (Jc @Xc (@J05)))))))) := Jc @Zg (Jc @Xw (Jc @Zh (Jc @Z1 (Jc @Zq (Jc @Zp (Jc @Xc (@J05)))))))
set_option maxRecDepth 8000
theorem Bs_.single {H : Hp} {s : AV} {x : Int} (h : Bs_ H s x) (hx : x ≠ 0) (hb : x.natAbs ≤ 9223372036854775808) : Ints H .u64 s [(x.natAbs : Int)] := by
  obtain ⟨xs, u, c, hv⟩ := h.ex
  have hz := Bs_.nil (H := H) (s := s) c hv
  have hl : xs.length < 2 := by
    rcases Nat.lt_or_ge xs.length 2 with h | h
    · exact h
    · have h1 := c.low (by omega)
      have h2 : Bs ^ 1 ≤ Bs ^ (xs.length - 1) := Ks (by omega)
      have h3 : Bs ^ 1 = 18446744073709551616 := by decide
      omega
  have hn : xs.length ≠ 0 := fun e => hx (hz.1 e)
  match xs, hl, hn, hv, u with
  | [m], _, _, hv, u =>
    simp only [val] at hv
    have : m = (x.natAbs : Int) := by omega
    rw [← this]; exact u.rd
set_option maxHeartbeats 2000000 in
theorem Int64_calls (x : Int) (s : AV) (H : Hp) (hs : Bs_ H s x) (hv : -9223372036854775808 ≤ x ∧ x ≤ 9223372036854775807) : ACalls Tryz.prog 83 [BV x s] H fun r H' => r = .tup [.int .i64 x, .bool true] ∧ H = H' := by
  refine ACalls.drop (R := fun r => r = .tup [.int .i64 x, .bool true]) ?_
  have hs1 := hs.one
  have hc1 : s.cells = [s] := AV.cells_one hs1
  by_cases h0 : x = 0
  · obtain ⟨xs, u, c, vx⟩ := hs.ex
    have hz := (Bs_.nil (H := H) (s := s) c vx).2 h0
    have hl := u.rd.rd.len Z8
    rw [hz] at hl
    refine Qo Tryz.func83 rfl (by kernel_rfl) (by kernel_rfl) ?_
    repeat' first
      | (with_reducible first | refine Jh (fun K hK => ?_) | refine Jx ?_ | refine Q4 ?_ | refine Qc ?_ | refine Qd ?_ | refine Jg ?_ | refine Jr ?_)
      | (with_reducible refine Jt (fun hc => ?_) (fun hc => ?_) <;> (try simp only [RC] at hc) <;> (try (exfalso; first | omega | contradiction)))
      | (with_reducible refine X4 (fun hc => ?_) (fun hc => ?_) <;> (try simp only [RC] at hc) <;> (try (exfalso; first | omega | contradiction)))
      | (simp only [Qb, Jo, reduceIte, J0])
      | ((with_reducible refine hK _ _ ?_); clear hK)
      | (clear hK; (with_reducible refine hK _ _ ?_); clear hK)
      | (clear hK; clear hK; (with_reducible refine hK _ _ ?_); clear hK)
      | (clear hK; clear hK; clear hK; (with_reducible refine hK _ _ ?_); clear hK)
      | (clear hK; clear hK; clear hK; clear hK; (with_reducible refine hK _ _ ?_); clear hK)
      | (clear hK; clear hK; clear hK; clear hK; clear hK; (with_reducible refine hK _ _ ?_); clear hK)
      | (simp only [Q9, RA, Jn, Jm, Jp, Q8, Q6, ev, ofValue, Ju, J0, J3, J2, J4, reduceCtorEq, reduceIte, Jv, Qm, Qk, Q0, aun, Qj, Jk, Ji, Jz, Jy, Jj, Qi, Jf, Q7, Q2, Js, J1, J5, Ja, J9, Jb, J6, J7, Jd, J8, RB, Jw, Je, Nv, hl])
      | (simp (disch := first | omega | (simp only [RO]; done) | assumption) only [RS, Xa, Xb, X9, Qz, Qr, X0])
      | (simp (disch := (first | omega | (simp only [RO]; done) | assumption | (simp only [RM, Je]; done) | (simp only [RL, Je]; omega))) only [RD, reduceCtorEq, reduceIte, Je, J1, J3, J2, J6, Nv, hl])
    all_goals
      (
       (refine Qg (rs := [.tmp 2, .tmp 3]) rfl ?_)
       (simp only [X5, Qf, Fr.put_some, Fr.put_none, Qp, Qq, Qt, J0, reduceIte])
       (try simp (disch := (first | omega | (simp only [RO]; done) | assumption | (simp only [RM, Je]; done) | (simp only [RL, Je]; omega))) only [RD, reduceCtorEq, reduceIte, Je, J1, J3, J2, J6, Nv]))
    all_goals exact ⟨Ext.push _ _, by simp [AV.lt, AV.lts], by rw [h0]⟩
  · have hI := hs.single h0 (by omega)
    have hl := hI.rd.len Z8
    have f1 : (9223372036854775808 < (x.natAbs : Int)) = False := eq_false (by omega)
    have a0 : Qx Tryz.prog 65 s (.int .i64 0) = some (s.pl 0) := by
      have := hI.rd.at_ Z8 Z4 (k := .i64) (j := 0) (by omega) (by simp)
      simpa using this
    have l0 : ∀ b : Blk, V7 Tryz.prog (H ++ [b]) 71 (s.pl 0) = some (.int .u64 (x.natAbs : Int)) := fun b => by
      have := (hI.push b).load Yt (i := 0) (by simp)
      simpa using this
    refine Qo Tryz.func83 rfl (by kernel_rfl) (by kernel_rfl) ?_
    by_cases hn : x < 0
    · have e1 : (x < 0) = True := eq_true hn
      have w1 : IntKind.u64.wrap ((x.natAbs : Int) - 1) = -x - 1 := by rw [Y0 (by omega) (by simp only [Bs]; omega)]; omega
      have w2 : IntKind.i64.wrap (-x - 1) = -x - 1 := Qe (by omega) (by omega)
      have w3 : IntKind.i64.wrap (0 - (-x - 1)) = x + 1 := by rw [Qe (by omega) (by omega)]; omega
      have w4 : IntKind.i64.wrap (x + 1 - 1) = x := by rw [Qe (by omega) (by omega)]; omega
      repeat' first
        | (with_reducible first | refine Jh (fun K hK => ?_) | refine Jx ?_ | refine Q4 ?_ | refine Qc ?_ | refine Qd ?_ | refine Jg ?_ | refine Jr ?_)
        | (with_reducible refine Jt (fun hc => ?_) (fun hc => ?_) <;> (try simp only [RC] at hc) <;> (try (exfalso; first | omega | contradiction)))
        | (with_reducible refine X4 (fun hc => ?_) (fun hc => ?_) <;> (try simp only [RC] at hc) <;> (try (exfalso; first | omega | contradiction)))
        | (simp only [Qb, Jo, reduceIte, J0])
        | ((with_reducible refine hK _ _ ?_); clear hK)
        | (clear hK; (with_reducible refine hK _ _ ?_); clear hK)
        | (clear hK; clear hK; (with_reducible refine hK _ _ ?_); clear hK)
        | (clear hK; clear hK; clear hK; (with_reducible refine hK _ _ ?_); clear hK)
        | (clear hK; clear hK; clear hK; clear hK; (with_reducible refine hK _ _ ?_); clear hK)
        | (clear hK; clear hK; clear hK; clear hK; clear hK; (with_reducible refine hK _ _ ?_); clear hK)
        | (simp only [Q9, RA, Jn, Jm, Jp, Q8, Q6, ev, ofValue, Ju, J0, J3, J2, J4, reduceCtorEq, reduceIte, Jv, Qm, Qk, Q0, aun, Qj, Jk, Ji, Jz, Jy, Jj, Qi, Jf, Q7, Q2, Js, J1, J5, Ja, J9, Jb, J6, J7, Jd, J8, RB, Jw, Je, Nv, hl, e1, f1, w1, w2, w3, w4, a0, l0])
        | (simp (disch := first | omega | (simp only [RO]; done) | assumption) only [RS, Xa, Xb, X9, Qz, Qr, X0])
        | (simp (disch := (first | omega | (simp only [RO]; done) | assumption | (simp only [RM, Je]; done) | (simp only [RL, Je]; omega))) only [RD, reduceCtorEq, reduceIte, Je, J1, J3, J2, J6, Nv, hl, e1, f1, w1, w2, w3, w4, a0, l0])
      all_goals
        (
         (refine Qg (rs := [.tmp 2, .tmp 3]) rfl ?_)
         (simp only [X5, Qf, Fr.put_some, Fr.put_none, Qp, Qq, Qt, J0, reduceIte])
         (try simp (disch := (first | omega | (simp only [RO]; done) | assumption | (simp only [RM, Je]; done) | (simp only [RL, Je]; omega))) only [RD, reduceCtorEq, reduceIte, Je, J1, J3, J2, J6, Nv]))
      all_goals exact ⟨Ext.push _ _, by simp [AV.lt, AV.lts]⟩
    · have e1 : (x < 0) = False := eq_false hn
      have f2 : ((x.natAbs : Int) = 9223372036854775808) = False := eq_false (by omega)
      have w2 : IntKind.i64.wrap (x.natAbs : Int) = x := by rw [Qe (by omega) (by omega)]; omega
      repeat' first
        | (with_reducible first | refine Jh (fun K hK => ?_) | refine Jx ?_ | refine Q4 ?_ | refine Qc ?_ | refine Qd ?_ | refine Jg ?_ | refine Jr ?_)
        | (with_reducible refine Jt (fun hc => ?_) (fun hc => ?_) <;> (try simp only [RC] at hc) <;> (try (exfalso; first | omega | contradiction)))
        | (with_reducible refine X4 (fun hc => ?_) (fun hc => ?_) <;> (try simp only [RC] at hc) <;> (try (exfalso; first | omega | contradiction)))
        | (simp only [Qb, Jo, reduceIte, J0])
        | ((with_reducible refine hK _ _ ?_); clear hK)
        | (clear hK; (with_reducible refine hK _ _ ?_); clear hK)
        | (clear hK; clear hK; (with_reducible refine hK _ _ ?_); clear hK)
        | (clear hK; clear hK; clear hK; (with_reducible refine hK _ _ ?_); clear hK)
        | (clear hK; clear hK; clear hK; clear hK; (with_reducible refine hK _ _ ?_); clear hK)
        | (clear hK; clear hK; clear hK; clear hK; clear hK; (with_reducible refine hK _ _ ?_); clear hK)
        | (simp only [Q9, RA, Jn, Jm, Jp, Q8, Q6, ev, ofValue, Ju, J0, J3, J2, J4, reduceCtorEq, reduceIte, Jv, Qm, Qk, Q0, aun, Qj, Jk, Ji, Jz, Jy, Jj, Qi, Jf, Q7, Q2, Js, J1, J5, Ja, J9, Jb, J6, J7, Jd, J8, RB, Jw, Je, Nv, hl, e1, f1, f2, w2, a0, l0])
        | (simp (disch := first | omega | (simp only [RO]; done) | assumption) only [RS, Xa, Xb, X9, Qz, Qr, X0])
        | (simp (disch := (first | omega | (simp only [RO]; done) | assumption | (simp only [RM, Je]; done) | (simp only [RL, Je]; omega))) only [RD, reduceCtorEq, reduceIte, Je, J1, J3, J2, J6, Nv, hl, e1, f1, f2, w2, a0, l0])
      all_goals
        (
         (refine Qg (rs := [.tmp 2, .tmp 3]) rfl ?_)
         (simp only [X5, Qf, Fr.put_some, Fr.put_none, Qp, Qq, Qt, J0, reduceIte])
         (try simp (disch := (first | omega | (simp only [RO]; done) | assumption | (simp only [RM, Je]; done) | (simp only [RL, Je]; omega))) only [RD, reduceCtorEq, reduceIte, Je, J1, J3, J2, J6, Nv]))
      all_goals exact ⟨Ext.push _ _, by simp [AV.lt, AV.lts]⟩
end Go.Proofs.YtigddjlhncnnoaaGreatDoor
namespace Go.Proofs.YtigddjlhncnnoaaGreatDoor
open Go.AL Go.PW Go.PD
set_option maxRecDepth 8000
section
variable {H : Hp} {a : AV} {xs : List Int} {lo : Nat}
theorem Mo.low (m : Mo H a xs lo) {lo' : Nat} (h : lo' ≤ lo) : Mo H a xs lo' := by
  rcases m with e | ⟨k, h1, h2, h3⟩
  · exact .inl e
  · exact .inr ⟨k, h1, h2, by omega⟩
end
end Go.Proofs.YtigddjlhncnnoaaGreatDoor
namespace Go.Proofs.YtigddjlhncnnoaaGreatDoor
open Go.AL Go.PW Go.PD
set_option maxRecDepth 8000
def sh (i k p : Nat) : Nat := if i ≤ p then p + k else p
end Go.Proofs.YtigddjlhncnnoaaGreatDoor
namespace Go.Proofs.YtigddjlhncnnoaaGreatDoor
open Go.AL Go.PW
theorem Kk : type_of% (Jc @Xw (@Xc)) := Jc @Xw (@Xc)
set_option maxRecDepth 8000
set_option maxHeartbeats 4000000 in
theorem Rguess_calls (a b c v w : Int) (H : Hp) (ha : 0 ≤ a ∧ a < Bs) (hb : 0 ≤ b ∧ b < Bs) (hc0 : 0 ≤ c ∧ c < Bs) (hv : 0 < v ∧ v < Bs) (hw : 0 ≤ w ∧ w < Bs) : ACalls Tryz.prog 163 [.int .u64 a, .int .u64 b, .int .u64 c, .int .u64 v, .int .u64 w] H fun r H' => ∃ t, r = .int .u64 t ∧ (0 ≤ t ∧ t < Bs) ∧ (t = Bs - 1 ∨ ((a * Bs + b) * Bs + c) / (v * Bs + w) ≤ t) ∧ H = H' := by
  obtain ⟨T, hT⟩ : ∃ T, T = ((a * Bs + b) * Bs + c) / (v * Bs + w) := ⟨_, rfl⟩
  have hT0 : 0 ≤ T := by
    rw [hT]
    refine Int.ediv_nonneg ?_ ?_ <;> simp only [Bs] at * <;> omega
  rw [← hT]
  have hBd : (0 : Int) < Bs := by decide
  refine Qo Tryz.func163 rfl (by kernel_rfl) (by kernel_rfl) ?_
  by_cases hlt : v ≤ a
  · have f1 : (v ≤ a) = True := eq_true hlt
    repeat' first
      | (with_reducible first | refine Jh (fun K hK => ?_) | refine Qd ?_ | refine Jg ?_ | refine Jr ?_)
      | (simp only [Qb, Jo, reduceIte, J0])
      | ((with_reducible refine hK _ _ ?_); clear hK)
      | (simp only [Q9, RA, Jn, Jm, Jp, Q8, Q6, ev, ofValue, Ju, J0, J3, J2, J4, reduceCtorEq, reduceIte, Jv, Qm, Qk, Q0, aun, Qj, Jk, Ji, Jz, Jy, Jj, Qi, Jf, Q7, Q2, Js, J1, J5, Ja, J9, Jb, J6, J7, Jd, J8, RB, Jw, Je, Kk, f1])
    all_goals
      (
       (refine Qg (rs := [.tmp 10]) rfl ?_)
       (simp only [X5, Qf, Fr.put_some, Fr.put_none, Qp, Qq, Qt, J0, reduceIte])
       (try simp (disch := (first | omega | (simp only [RO]; done) | assumption | (simp only [RM, Je]; done) | (simp only [RL, Je]; omega))) only [RD, reduceCtorEq, reduceIte, Je, J1, J3, J2, J6, Kk]))
    all_goals first | exact ⟨18446744073709551615, rfl, by decide, .inl (by decide), rfl⟩ | exact ⟨18446744073709551615, rfl, .inl (by decide), rfl⟩ | exact ⟨18446744073709551615, rfl, by decide, .inl (by decide)⟩
  · have f1 : (v ≤ a) = False := eq_false hlt
    have hm := Int.emod_add_mul_ediv (a * Bs + b) v
    have hm0 := Int.emod_nonneg (a * Bs + b) (b := v) (by omega)
    have hm1 := Int.emod_lt_of_pos (a * Bs + b) hv.1
    have hq0 : 0 ≤ (a * Bs + b) / v := Int.ediv_nonneg (by simp only [Bs]; omega) (by omega)
    have hq1 : (a * Bs + b) / v < Bs := by
      rw [Int.ediv_lt_iff_lt_mul hv.1]
      simp only [Bs] at *
      omega
    have hst := guess_start (B := Bs) hBd ha.1 hb.1 hc0.1 hc0.2 hv.1 hw.1
    rw [← hT] at hst
    rw [Int.mul_comm v] at hm
    generalize hQ : (a * Bs + b) / v = q at *
    generalize hR : (a * Bs + b) % v = r at *
    have hdv := div64_calls a b v H ha.1 (by omega) hb hv.2
    rw [hQ, hR] at hdv
    repeat' first
      | (with_reducible first | refine Jh (fun K hK => ?_) | refine Jx ?_ | refine Q4 ?_ | refine Jg ?_ | refine Jr ?_)
      | ((with_reducible refine Q5 (hdv) ?_); rintro _ _ ⟨rfl, rfl⟩)
      | (simp only [Qb, Jo, reduceIte, J0])
      | ((with_reducible refine hK _ _ ?_); clear hK)
      | (simp only [Q9, RA, Jn, Jm, Jp, Q8, Q6, ev, ofValue, Ju, J0, J3, J2, J4, reduceCtorEq, reduceIte, Jv, Qm, Qk, Q0, aun, Qj, Jk, Ji, Jz, Jy, Jj, Qi, Jf, Q7, Q2, Js, J1, J5, Ja, J9, Jb, J6, J7, Jd, J8, RB, Jw, Je, Kk, f1])
    refine Xi (fun m fr' H1 => ∃ (i : Nat) (t s : Int), m = 2 - i ∧ i ≤ 2 ∧ fr' 0 = .int .u64 a ∧ fr' 1 = .int .u64 b ∧ fr' 2 = .int .u64 c ∧ fr' 3 = .int .u64 v ∧ fr' 4 = .int .u64 w ∧ fr' 11 = .int .u64 t ∧ fr' 12 = .int .u64 s ∧ fr' 13 = .int .i64 (i : Int) ∧ 0 ≤ t ∧ t < Bs ∧ 0 ≤ s ∧ s < Bs ∧ t * v + s = a * Bs + b ∧ T ≤ t ∧ H = H1) (m := 2)
      ⟨0, q, r, by omega, by omega, rfl, rfl, rfl, rfl, rfl, rfl, rfl, rfl, hq0, hq1, hm0, by omega, by omega, hst, rfl⟩ ?_
    clear hm hm0 hm1 hq0 hq1 hst hQ hR hdv
    rintro m fr' H1 ⟨i, t, s, rfl, hi, k0, k1, k2, k3, k4, k11, k12, k13, t0, t1, s0, s1, hinv, hge, rfl⟩
    by_cases hi2 : i < 2
    · have e1 : IntKind.i64.wrap ((i : Int) + 1) = ((i + 1 : Nat) : Int) := by rw [Qe (by omega) (by omega)]; omega
      have fi : ((i : Int) < 2) = True := eq_true (by omega)
      have hqv := Uh (x := t) (y := w) (p := Bs - 1) (q := Bs - 1) ⟨t0, by omega⟩ ⟨hw.1, by omega⟩
      have htest := guess_test (p := t * w) (r := s) (u0 := c) hqv.1 hc0
      by_cases ht : t * w ≤ s * Bs + c
      · have htt := htest.2 ht
        repeat' first
          | (with_reducible first | refine Jh (fun K hK => ?_) | refine Jx ?_ | refine Q4 ?_ | refine Qc ?_ | refine Qd ?_ | refine Jg ?_ | refine Jr ?_)
          | ((with_reducible refine Q5 (mul64_calls _ _ _ ⟨t0, t1⟩ hw) ?_); rintro _ _ ⟨rfl, rfl⟩)
          | (with_reducible refine Jt (fun hc => ?_) (fun hc => ?_) <;> (try simp only [RC] at hc) <;> (try (exfalso; first | omega | contradiction)))
          | (with_reducible refine X4 (fun hc => ?_) (fun hc => ?_) <;> (try simp only [RC] at hc) <;> (try (exfalso; first | omega | contradiction)))
          | (simp only [Qb, Jo, reduceIte, J0])
          | ((with_reducible refine hK _ _ ?_); clear hK)
          | (clear hK; clear hK; (with_reducible refine hK _ _ ?_); clear hK)
          | (simp only [Q9, RA, Jn, Jm, Jp, Q8, Q6, ev, ofValue, Ju, J0, J3, J2, J4, reduceCtorEq, reduceIte, Jv, Qm, Qk, Q0, aun, Qj, Jk, Ji, Jz, Jy, Jj, Qi, Jf, Q7, Q2, Js, J1, J5, Ja, J9, Jb, J6, J7, Jd, J8, RB, Jw, Je, Kk, k0, k1, k2, k3, k4, k11, k12, k13, fi])
          | (simp (disch := first | omega | (simp only [RO]; done) | assumption) only [RS])
        all_goals
          (
           (refine Qg (rs := [.tmp 10]) rfl ?_)
           (simp only [X5, Qf, Fr.put_some, Fr.put_none, Qp, Qq, Qt, J0, reduceIte, k11])
           (try simp (disch := (first | omega | (simp only [RO]; done) | assumption | (simp only [RM, Je]; done) | (simp only [RL, Je]; omega))) only [RD, reduceCtorEq, reduceIte, Je, J1, J3, J2, J6, Kk, k11]))
        all_goals first | exact ⟨t, rfl, ⟨t0, t1⟩, .inr hge, rfl⟩ | exact ⟨t, rfl, .inr hge, rfl⟩ | exact ⟨t, rfl, ⟨t0, t1⟩, .inr hge⟩
      · have hd := guess_more hBd hv.1 hw.1 hinv (Int.not_le.1 ht)
        rw [← hT] at hd
        have htt := mt htest.1 ht
        have hw1 : IntKind.u64.wrap (t - 1) = t - 1 := Y0 (by omega) (by omega)
        have hs0 : 0 ≤ (s + v + 0) / Bs ∧ (s + v + 0) / Bs ≤ 1 := by simp only [Bs] at *; omega
        by_cases hx : (s + v + 0) / Bs > 0
        · have fx : ((s + v + 0) / Bs > 0) = True := eq_true hx
          repeat' first
            | (with_reducible first | refine Jh (fun K hK => ?_) | refine Jx ?_ | refine Q4 ?_ | refine Qc ?_ | refine Qd ?_ | refine Jg ?_ | refine Jr ?_)
            | ((with_reducible refine Q5 (mul64_calls _ _ _ ⟨t0, t1⟩ hw) ?_); rintro _ _ ⟨rfl, rfl⟩)
            | ((with_reducible refine Z3 (Gn _ _ _ _ s0 (Int.le_of_lt hv.1) (by decide)) ?_); rintro _ _ ⟨rfl, rfl⟩)
            | (with_reducible refine Jt (fun hc => ?_) (fun hc => ?_) <;> (try simp only [RC] at hc) <;> (try (exfalso; first | omega | contradiction)))
            | (with_reducible refine X4 (fun hc => ?_) (fun hc => ?_) <;> (try simp only [RC] at hc) <;> (try (exfalso; first | omega | contradiction)))
            | (simp only [Qb, Jo, reduceIte, J0])
            | ((with_reducible refine hK _ _ ?_); clear hK)
            | (clear hK; clear hK; (with_reducible refine hK _ _ ?_); clear hK)
            | (simp only [Q9, RA, Jn, Jm, Jp, Q8, Q6, ev, ofValue, Ju, J0, J3, J2, J4, reduceCtorEq, reduceIte, Jv, Qm, Qk, Q0, aun, Qj, Jk, Ji, Jz, Jy, Jj, Qi, Jf, Q7, Q2, Js, J1, J5, Ja, J9, Jb, J6, J7, Jd, J8, RB, Jw, Je, Kk, k0, k1, k2, k3, k4, k11, k12, k13, fi, hw1, fx])
            | (simp (disch := first | omega | (simp only [RO]; done) | assumption) only [RS])
          all_goals
            (
             (refine Qg (rs := [.tmp 10]) rfl ?_)
             (simp only [X5, Qf, Fr.put_some, Fr.put_none, Qp, Qq, Qt, J0, reduceIte, k11])
             (try simp (disch := (first | omega | (simp only [RO]; done) | assumption | (simp only [RM, Je]; done) | (simp only [RL, Je]; omega))) only [RD, reduceCtorEq, reduceIte, Je, J1, J3, J2, J6, Kk, k11]))
          all_goals first | exact ⟨t - 1, rfl, ⟨by omega, by omega⟩, .inr (by omega), rfl⟩ | exact ⟨t - 1, rfl, .inr (by omega), rfl⟩ | exact ⟨t - 1, rfl, ⟨by omega, by omega⟩, .inr (by omega)⟩
        · have fx : ((s + v + 0) / Bs > 0) = False := eq_false hx
          have hs2 : (s + v + 0) % Bs = s + v := by simp only [Bs] at *; omega
          repeat' first
            | (with_reducible first | refine Jh (fun K hK => ?_) | refine Jx ?_ | refine Q4 ?_ | refine Jg ?_ | refine Jr ?_)
            | ((with_reducible refine Q5 (mul64_calls _ _ _ ⟨t0, t1⟩ hw) ?_); rintro _ _ ⟨rfl, rfl⟩)
            | ((with_reducible refine Z3 (Gn _ _ _ _ s0 (Int.le_of_lt hv.1) (by decide)) ?_); rintro _ _ ⟨rfl, rfl⟩)
            | (with_reducible refine Jt (fun hc => ?_) (fun hc => ?_) <;> (try simp only [RC] at hc) <;> (try (exfalso; first | omega | contradiction)))
            | (with_reducible refine X4 (fun hc => ?_) (fun hc => ?_) <;> (try simp only [RC] at hc) <;> (try (exfalso; first | omega | contradiction)))
            | (simp only [Qb, Jo, reduceIte, J0])
            | ((with_reducible refine hK _ _ ?_); clear hK)
            | (simp only [Q9, RA, Jn, Jm, Jp, Q8, Q6, ev, ofValue, Ju, J0, J3, J2, J4, reduceCtorEq, reduceIte, Jv, Qm, Qk, Q0, aun, Qj, Jk, Ji, Jz, Jy, Jj, Qi, Jf, Q7, Q2, Js, J1, J5, Ja, J9, Jb, J6, J7, Jd, J8, RB, Jw, Je, Kk, k0, k1, k2, k3, k4, k11, k12, k13, fi, hw1, fx, e1, hs2])
            | (simp (disch := first | omega | (simp only [RO]; done) | assumption) only [RS])
          all_goals
            refine ⟨_, by omega, i + 1, t - 1, s + v, rfl, by omega, rfl, rfl, rfl, by omega, by omega, by omega, by simp only [Bs] at *; omega, ?_, by omega⟩
            rw [Int.sub_mul, Int.one_mul]
            omega
    · obtain rfl : i = 2 := by omega
      repeat' first
        | (with_reducible first | refine Jh (fun K hK => ?_) | refine Qc ?_ | refine Qd ?_ | refine Jg ?_ | refine Jr ?_)
        | (simp only [Qb, Jo, reduceIte, J0])
        | ((with_reducible refine hK _ _ ?_); clear hK)
        | (clear hK; (with_reducible refine hK _ _ ?_); clear hK)
        | (simp only [Q9, RA, Jn, Jm, Jp, Q8, Q6, ev, ofValue, Ju, J0, J3, J2, J4, reduceCtorEq, reduceIte, Jv, Qm, Qk, Q0, aun, Qj, Jk, Ji, Jz, Jy, Jj, Qi, Jf, Q7, Q2, Js, J1, J5, Ja, J9, Jb, J6, J7, Jd, J8, RB, Jw, Je, Kk, k0, k1, k2, k3, k4, k11, k12, k13])
      all_goals
        (
         (refine Qg (rs := [.tmp 10]) rfl ?_)
         (simp only [X5, Qf, Fr.put_some, Fr.put_none, Qp, Qq, Qt, J0, reduceIte, k11])
         (try simp (disch := (first | omega | (simp only [RO]; done) | assumption | (simp only [RM, Je]; done) | (simp only [RL, Je]; omega))) only [RD, reduceCtorEq, reduceIte, Je, J1, J3, J2, J6, Kk, k11]))
      all_goals first | exact ⟨t, rfl, ⟨t0, t1⟩, .inr hge, rfl⟩ | exact ⟨t, rfl, .inr hge, rfl⟩ | exact ⟨t, rfl, ⟨t0, t1⟩, .inr hge⟩
end Go.Proofs.YtigddjlhncnnoaaGreatDoor
namespace Go.Proofs.YtigddjlhncnnoaaGreatDoor
open Go.AL Go.PW
theorem J07 : type_of% (Jc @Xw (Jc @Z1 (@Xc))) := Jc @Xw (Jc @Z1 (@Xc))
abbrev pn164_7RfU : Plan := (.one 0 (.one 1 (.one 2 (.one 3 (.one 4 (.one 5 (.one 6 (.one 7 (.one 8 (.one 9 (.one 10 (.one 11 (.one 12 (.one 13 (.one 14 .nil)))))))))))))))
set_option maxRecDepth 8000
theorem dig_by {ys : List Int} {n : Nat} {x : Int} (hl : ys.length = n) (h : ∀ j, j < n → ys.getD j 0 = x / Bs ^ j % Bs) : ys = dig n x := by
  apply List.ext_getElem
  · rw [hl, dig_length]
  · intro j h1 h2
    have a := h j (by omega)
    have b := Kt n x j (by omega)
    rw [List.getD_eq_getElem?_getD, List.getElem?_eq_getElem h1] at a
    rw [List.getD_eq_getElem?_getD, List.getElem?_eq_getElem h2] at b
    simp only [Option.getD_some] at a b
    rw [a, b]
theorem getD_val {xs : List Int} (hx : Limbs xs) (i : Nat) : val xs / Bs ^ i % Bs = xs.getD i 0 := by
  rcases Nat.lt_or_ge i xs.length with h | h
  · have h1 := Kt xs.length (val xs) i h
    rw [dig_val hx] at h1
    exact h1.symm
  · have hb := Xh hx
    have h2 : Bs ^ xs.length ≤ Bs ^ i := Ks h
    rw [Int.ediv_eq_zero_of_lt hb.1 (by omega), K0 h]
    rfl
set_option maxHeartbeats 4000000 in
theorem Rright_calls (t : AV) (xs : List Int) (s : Nat) (H : Hp) (ht : Ints H .u64 t xs) (hx : Limbs xs) (lx : xs.length < 90000) (hs : s < 64) : ACalls Tryz.prog 164 [t, .int .i64 (s : Int)] H fun r H' => ∃ zs, Uv H' r zs ∧ Can zs ∧ val zs = val xs / 2 ^ s ∧ Ext H H' := by
  have l1 := ht.rd.len Z8
  obtain ⟨n, hn⟩ : ∃ n, n = xs.length := ⟨_, rfl⟩
  rw [← hn] at l1
  have hmk := fun H0 => J0b H0 n .i64 (by omega)
  have hb := Xh hx
  have hps := Zb s
  have w8 : IntKind.u64.bits = 64 := by decide
  have m1 : (s ≤ 64) = True := eq_true (by omega)
  have m2 : (64 - s ≤ 64) = True := eq_true (by omega)
  have f0 : ((s : Int) < 0) = False := eq_false (by omega)
  have f1 : (((64 - s : Nat) : Int) < 0) = False := eq_false (by omega)
  have w2 : IntKind.i64.wrap (64 - (s : Int)) = ((64 - s : Nat) : Int) := by rw [Qe (by omega) (by omega)]; omega
  have hdg : ∀ i : Nat, xs.getD i 0 / 2 ^ s + xs.getD (i + 1) 0 * 2 ^ (64 - s) % Bs = val xs / 2 ^ s / Bs ^ i % Bs := by
    intro i
    have hz0 : 0 ≤ val xs / Bs ^ i := Int.ediv_nonneg hb.1 (Int.le_of_lt (Xn i))
    have h := shr_join (z := val xs / Bs ^ i) (s := s) (by omega) hz0
    have e1 : val xs / Bs ^ i / Bs = val xs / Bs ^ (i + 1) := by rw [Int.ediv_ediv_of_nonneg (Int.le_of_lt (Xn i)), ← Int.pow_succ]
    have e2 : val xs / Bs ^ i / 2 ^ s = val xs / 2 ^ s / Bs ^ i := by
      rw [Int.ediv_ediv_of_nonneg (Int.le_of_lt (Xn i)), Int.ediv_ediv_of_nonneg (Int.le_of_lt hps), Int.mul_comm]
    rw [e1, e2, getD_val hx, getD_val hx] at h
    exact h
  refine Qo Tryz.func164 rfl (by kernel_rfl) (by kernel_rfl) ?_
  repeat' first
    | (with_reducible first | refine Jh (fun K hK => ?_) | refine Jx ?_ | refine Jg ?_)
    | (simp only [Qb, Jo, reduceIte, J0])
    | ((with_reducible refine hK _ _ ?_); clear hK)
    | (simp only [Q9, RA, Jn, Jm, Jp, Q8, Q6, ev, ofValue, Ju, J0, J3, J2, J4, reduceCtorEq, reduceIte, Jv, Qm, Qk, Q0, aun, Qj, Jk, Ji, Jz, Jy, Jj, Qi, Jf, Q7, Q2, Js, J1, J5, Ja, J9, Jb, J6, J7, Jd, J8, RB, Jw, Je, J07, l1, hmk])
  refine Xi (fun m fr' H1 => ∃ (i : Nat) (os : List Int), m = n - i ∧ i ≤ n ∧ fr' 0 = t ∧ fr' 1 = .int .i64 (s : Int) ∧ fr' 5 = .sl H.length 0 n n ∧ fr' 6 = .int .i64 (i : Int) ∧ os.length = n ∧ Limbs os ∧ (∀ k, k < i → os.getD k 0 = val xs / 2 ^ s / Bs ^ k % Bs) ∧ H ++ [Ub os] = H1) (m := n)
    ⟨0, List.replicate n 0, by omega, by omega, rfl, rfl, rfl, rfl, by simp, Limbs.replicate n, fun k hk => by omega, rfl⟩ ?_
  rintro m fr' H1 ⟨i, os, rfl, hi, k0, k1, k5, k6, hol, hos, hok, rfl⟩
  have hg : ∀ ys, X3 (H ++ [Ub ys]) H.length = some (Ub ys) := fun ys => X7 rfl
  by_cases hlt : i < n
  · have e1 : IntKind.i64.wrap ((i : Int) + 1) = ((i + 1 : Nat) : Int) := by rw [Qe (by omega) (by omega)]; omega
    have hd := hx.get i
    have hd1 := hx.get (i + 1)
    have hset : ∀ ys z, (H ++ [Ub ys]).set H.length (Ub z) = H ++ [Ub z] := fun ys z => by
      rw [List.set_append_right _ _ (Nat.le_refl _), Nat.sub_self]; rfl
    obtain ⟨v, hv⟩ : ∃ v, v = xs.getD i 0 / 2 ^ s := ⟨_, rfl⟩
    have hv0 : 0 ≤ v := by rw [hv]; exact Int.ediv_nonneg hd.1 (Int.le_of_lt hps)
    have hv1 : v < 2 ^ (64 - s) := by
      rw [hv]
      apply Int.ediv_lt_of_lt_mul hps
      rw [Int.mul_comm, Ug (by omega)]
      exact hd.2
    have hvB : v < Bs := by
      have h1 := Int.ediv_le_self (b := 2 ^ s) (a := xs.getD i 0) hd.1
      omega
    have st := Vh (hg os) (i := i) (by omega) v
    rw [hset] at st
    have hdi := hdg i
    rw [← hv] at hdi
    by_cases hc2 : 0 < s ∧ i + 1 < n
    · obtain ⟨c1, c2⟩ := hc2
      have g1 : ((s : Int) > 0) = True := eq_true (by omega)
      have g2 : (((i + 1 : Nat) : Int) < (n : Int)) = True := eq_true (by omega)
      have hor := or_low (x := xs.getD (i + 1) 0) (y := v) (s := 64 - s) (by omega) hd1.1 hv0 hv1
      rw [hdi] at hor
      have hgs : (os.set i v).getD i 0 = v := by rw [Xs _ _ (by omega), if_pos rfl]
      have ld := Vp (hg (os.set i v)) (i := i) (by rw [List.length_set]; omega)
      rw [hgs] at ld
      have st2 := Vh (hg (os.set i v)) (i := i) (by rw [List.length_set]; omega) (val xs / 2 ^ s / Bs ^ i % Bs)
      rw [hset] at st2
      repeat' first
        | (with_reducible first | refine Jh (fun K hK => ?_) | refine Jx ?_ | refine Q4 ?_ | refine Jg ?_ | refine Q1 (id := 7) [] pn164_7RfU (by kernel_rfl) (by kernel_rfl) ?_ | refine Jr ?_)
        | (with_reducible refine Jt (fun hc => ?_) (fun hc => ?_) <;> (try simp only [RC] at hc) <;> (try (exfalso; first | omega | contradiction)))
        | (with_reducible refine X4 (fun hc => ?_) (fun hc => ?_) <;> (try simp only [RC] at hc) <;> (try (exfalso; first | omega | contradiction)))
        | (simp only [Qb, Jo, reduceIte, J0])
        | ((with_reducible refine hK _ _ ?_); clear hK)
        | (simp only [Q9, RA, Jn, Jm, Jp, Q8, Q6, ev, ofValue, Ju, J0, J3, J2, J4, reduceCtorEq, reduceIte, Jv, Qm, Qk, Q0, aun, Qj, Jk, Ji, Jz, Jy, Jj, Qi, Jf, Q7, Q2, Js, J1, J5, Ja, J9, Jb, J6, J7, Jd, J8, RB, Jw, Je, J07, l1, k0, k1, k5, k6, e1, f0, f1, m1, m2, w2, w8, ← hv, Zr, st, g1, g2, ld, hor, st2])
        | (simp (disch := first | omega | (simp only [RO]; done) | assumption) only [RS, ht.rd.at1 Z8 Z4, (ht.push _).load1 Yt, Xa, Xb, X9])
      all_goals
        refine ⟨_, by omega, i + 1, _, rfl, by omega, rfl, by rw [List.length_set, List.length_set]; exact hol, (hos.set i ⟨hv0, hvB⟩).set i ⟨Int.emod_nonneg _ (by decide), Int.emod_lt_of_pos _ (by decide)⟩, fun k hk => ?_, rfl⟩
        rw [Xs _ _ (by rw [List.length_set]; omega)]
        by_cases e : k = i
        · rw [if_pos e, e]
        · rw [if_neg e, Xs _ _ (by omega), if_neg e]; exact hok k (by omega)
    · have hdv : v = val xs / 2 ^ s / Bs ^ i % Bs := by
        rw [← hdi]
        by_cases c1 : 0 < s
        · rw [K0 (xs := xs) (i := i + 1) (by omega), Int.zero_mul]
          simp
        · obtain rfl : s = 0 := by omega
          have : xs.getD (i + 1) 0 * 2 ^ (64 - 0) % Bs = 0 := by
            have e : (2 : Int) ^ (64 - 0) = Bs := by decide
            rw [e, Int.mul_emod_left]
          rw [this, Int.add_zero]
      have fin : ∃ m' < n - i, ∃ (i_1 : Nat) (os_1 : List Int), m' = n - i_1 ∧ i_1 ≤ n ∧ AV.int .i64 ((i + 1 : Nat) : Int) = AV.int .i64 (i_1 : Int) ∧ os_1.length = n ∧ Limbs os_1 ∧ (∀ k, k < i_1 → os_1.getD k 0 = val xs / 2 ^ s / Bs ^ k % Bs) ∧ H ++ [Ub os_1] = H ++ [Ub (os.set i v)] := by
        refine ⟨_, by omega, i + 1, os.set i v, rfl, by omega, rfl, by rw [List.length_set]; exact hol, hos.set i ⟨hv0, hvB⟩, fun k hk => ?_, rfl⟩
        rw [Xs _ _ (by omega)]
        by_cases e : k = i
        · rw [if_pos e, e]; exact hdv
        · rw [if_neg e]; exact hok k (by omega)
      by_cases c1 : 0 < s
      · have g1 : ((s : Int) > 0) = True := eq_true (by omega)
        have g2 : (((i + 1 : Nat) : Int) < (n : Int)) = False := eq_false (by omega)
        repeat' first
          | (with_reducible first | refine Jh (fun K hK => ?_) | refine Jx ?_ | refine Q4 ?_ | refine Jg ?_ | refine Jr ?_)
          | (with_reducible refine Jt (fun hc => ?_) (fun hc => ?_) <;> (try simp only [RC] at hc) <;> (try (exfalso; first | omega | contradiction)))
          | (with_reducible refine X4 (fun hc => ?_) (fun hc => ?_) <;> (try simp only [RC] at hc) <;> (try (exfalso; first | omega | contradiction)))
          | (simp only [Qb, Jo, reduceIte, J0])
          | ((with_reducible refine hK _ _ ?_); clear hK)
          | (simp only [Q9, RA, Jn, Jm, Jp, Q8, Q6, ev, ofValue, Ju, J0, J3, J2, J4, reduceCtorEq, reduceIte, Jv, Qm, Qk, Q0, aun, Qj, Jk, Ji, Jz, Jy, Jj, Qi, Jf, Q7, Q2, Js, J1, J5, Ja, J9, Jb, J6, J7, Jd, J8, RB, Jw, Je, J07, l1, k0, k1, k5, k6, e1, f0, m1, w8, ← hv, st, g1, g2])
          | (simp (disch := first | omega | (simp only [RO]; done) | assumption) only [RS, ht.rd.at1 Z8 Z4, (ht.push _).load1 Yt, Xa, Xb, X9])
        all_goals simpa using fin
      · have g1 : ((s : Int) > 0) = False := eq_false (by omega)
        repeat' first
          | (with_reducible first | refine Jh (fun K hK => ?_) | refine Jx ?_ | refine Q4 ?_ | refine Jg ?_ | refine Jr ?_)
          | (with_reducible refine Jt (fun hc => ?_) (fun hc => ?_) <;> (try simp only [RC] at hc) <;> (try (exfalso; first | omega | contradiction)))
          | (with_reducible refine X4 (fun hc => ?_) (fun hc => ?_) <;> (try simp only [RC] at hc) <;> (try (exfalso; first | omega | contradiction)))
          | (simp only [Qb, Jo, reduceIte, J0])
          | ((with_reducible refine hK _ _ ?_); clear hK)
          | (simp only [Q9, RA, Jn, Jm, Jp, Q8, Q6, ev, ofValue, Ju, J0, J3, J2, J4, reduceCtorEq, reduceIte, Jv, Qm, Qk, Q0, aun, Qj, Jk, Ji, Jz, Jy, Jj, Qi, Jf, Q7, Q2, Js, J1, J5, Ja, J9, Jb, J6, J7, Jd, J8, RB, Jw, Je, J07, l1, k0, k1, k5, k6, e1, f0, m1, w8, ← hv, st, g1])
          | (simp (disch := first | omega | (simp only [RO]; done) | assumption) only [RS, ht.rd.at1 Z8 Z4, (ht.push _).load1 Yt, Xa, Xb, X9])
        all_goals simpa using fin
  · obtain rfl : i = n := by omega
    have htr := trim_calls H.length i i os (H ++ [Ub os]) (hg os) (by omega) (Nat.le_refl _) (by omega)
    repeat' first
      | (with_reducible first | refine Jh (fun K hK => ?_) | refine Qc ?_ | refine Qd ?_ | refine Jg ?_ | refine Jr ?_)
      | ((with_reducible refine Q5 (htr) ?_); rintro _ _ ⟨rfl, rfl⟩)
      | (with_reducible refine X4 (fun hc => ?_) (fun hc => ?_) <;> (try simp only [RC] at hc) <;> (try (exfalso; first | omega | contradiction)))
      | (simp only [Qb, Jo, reduceIte, J0])
      | ((with_reducible refine hK _ _ ?_); clear hK)
      | (clear hK; (with_reducible refine hK _ _ ?_); clear hK)
      | (simp only [Q9, RA, Jn, Jm, Jp, Q8, Q6, ev, ofValue, Ju, J0, J3, J2, J4, reduceCtorEq, reduceIte, Jv, Qm, Qk, Q0, aun, Qj, Jk, Ji, Jz, Jy, Jj, Qi, Jf, Q7, Q2, Js, J1, J5, Ja, J9, Jb, J6, J7, Jd, J8, RB, Jw, Je, J07, l1, k0, k1, k5, k6])
    all_goals
      (
       (refine Qg (rs := [.tmp 4]) rfl ?_)
       (simp only [X5, Qf, Fr.put_some, Fr.put_none, Qp, Qq, Qt, J0, reduceIte])
       (try simp (disch := (first | omega | (simp only [RO]; done) | assumption | (simp only [RM, Je]; done) | (simp only [RL, Je]; omega))) only [RD, reduceCtorEq, reduceIte, Je, J1, J3, J2, J6, J07]))
    have hall : os.take i = os := List.take_of_length_le (by omega)
    have hod := dig_by hol hok
    have hq0 : 0 ≤ val xs / 2 ^ s := Int.ediv_nonneg hb.1 (Int.le_of_lt hps)
    have hq1 : val xs / 2 ^ s ≤ val xs := Int.ediv_le_self _ hb.1
    have hvo : val os = val xs / 2 ^ s := by
      rw [hod, Wj, Int.emod_eq_of_lt hq0 (by rw [hn]; omega)]
    all_goals
      refine ⟨os.take (tl os i), Uv.front (hg os) (by have := Wo os i; omega) (Wo os i), tl_can hos i (by omega) (by omega), ?_, Ext.push _ _⟩
      rw [J1s _ _ (by omega), hall]
      exact hvo
end Go.Proofs.YtigddjlhncnnoaaGreatDoor

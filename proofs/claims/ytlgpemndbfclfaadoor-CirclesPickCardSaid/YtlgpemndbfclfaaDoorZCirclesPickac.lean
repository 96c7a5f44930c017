/- Part 3 of the proof of the law CirclesPick: lemmas on the model's code, on this program's functions, on numbers. No condition. -/
import Derived.Test.YtlgpemndbfclfaaDoorZCirclesPickab
set_option linter.unusedVariables false
set_option linter.unusedSimpArgs false
open Nat renaming reduceEqDiff → J0, reduceLeDiff → J1, reduceMul → J2, reduceAdd → J3, reduceSub → J4, reduceLT → J5
open Int renaming reduceToNat → J6, reducePow → J7, reduceNeg → J8, reduceLT → J9, reduceLE → Ja, reduceEq → Jb
open And renaming intro → Jc
open Go.IntKind renaming bits → Jd
open Go.PW renaming dig_length → Je
namespace Go.Proofs.YtlgpemndbfclfaaDoor
open Go.AL Go.PW
theorem Ym : type_of% (Jc @Xz (Jc @Zn (Jc @Z6 (Jc @Vb (Jc @Va (@Qx)))))) := Jc @Xz (Jc @Zn (Jc @Z6 (Jc @Vb (Jc @Va (@Qx)))))
abbrev pn19_2RfH : Plan := (.one 0 (.one 2 (.one 3 (.one 4 (.one 5 (.alt 1 (.one 6 (.one 7 (.one 8 .nil))) (.one 6 (.one 1 (.one 7 (.one 8 .nil))))))))))
abbrev pn19_4RfH : Plan := (.one 0 (.one 2 (.one 3 (.one 4 (.one 5 (.alt 1 (.one 6 (.one 7 (.one 8 .nil))) (.one 6 (.one 1 (.one 7 (.one 8 .nil))))))))))
abbrev pn19_5RfH : Plan := (.one 0 (.one 2 (.one 3 (.one 4 (.one 5 (.alt 1 (.one 6 (.one 7 (.one 8 .nil))) (.one 6 (.one 1 (.one 7 (.one 8 .nil))))))))))
set_option maxRecDepth 8000
theorem Can.le {xs ys : List Int} (cx : Can xs) (cy : Can ys) (h : val ys ≤ val xs) : ys.length ≤ xs.length := by
  rcases Nat.lt_or_ge xs.length ys.length with e | e
  · have := J0a cx.lim cy e; omega
  · exact e
set_option maxHeartbeats 4000000 in
theorem Radd_calls (x y : Int) (s t : AV) (H : Hp) (hs : Bs_ H s x) (ht : Bs_ H t y) (bx : Sm x) (by_ : Sm y) : ACalls Tryd.prog 19 [BV x s, BV y t] H fun r H' => ∃ u, r = BV (x + y) u ∧ Bs_ H' u (x + y) ∧ Ext H H' := by
  obtain ⟨xs, ux, cx, vx⟩ := hs.ex
  obtain ⟨ys, uy, cy, vy⟩ := ht.ex
  have hs1 : s.one = true := ux.rd.rd.one
  have hc1 : s.cells = [s] := AV.cells_one hs1
  have ht1 : t.one = true := uy.rd.rd.one
  have hc2 : t.cells = [t] := AV.cells_one ht1
  have lx := cx.small (by rw [vx]; exact bx)
  have ly := cy.small (by rw [vy]; exact by_)
  refine Qe Tryd.func19 rfl (by kernel_rfl) (by kernel_rfl) ?_
  by_cases hsame : decide (x < 0) = decide (y < 0)
  · have e1 : (decide (x < 0) = decide (y < 0)) = True := eq_true hsame
    have e1b : (decide (x < 0) == decide (y < 0)) = true := by rw [hsame]; exact beq_self_eq_true _
    have hiff : x < 0 ↔ y < 0 := by
      rw [← decide_eq_true_iff (p := x < 0), hsame, decide_eq_true_iff]
    repeat' first
      | (with_reducible first | refine Jj (fun K hK => ?_) | refine Jg ?_ | refine Qf (id := 2) [] pn19_2RfH (by kernel_rfl) (by kernel_rfl) ?_ | refine Jq ?_)
      | (with_reducible refine Jc ?_ ?_)
      | (simp only [Q8, Jk, reduceIte, J0])
      | ((with_reducible refine hK _ _ ?_); clear hK)
      | (simp only [Qa, RA, Jo, Jn, Jp, Q7, Q5, ev, ofValue, Ju, J0, J3, J2, J4, reduceCtorEq, reduceIte, Jx, Qm, Qk, Q1, aun, Qj, Jm, Jh, Q0, Jz, Ji, Qi, Jf, Q6, Jw, Jr, J1, J5, Ja, J9, Jb, J6, J7, Jd, J8, RB, Jy, Je, Ym, e1b])
      | (simp (disch := first | omega | (simp only [RO]; done) | assumption) only [RS, Xc, Xe, Xb, Xk])
      | (simp (disch := (first | omega | (simp only [RO]; done) | assumption | (simp only [RM, Je]; done) | (simp only [RL, Je]; omega))) only [RD, reduceCtorEq, reduceIte, Je, J1, J3, J2, J6, Ym, e1b])
    all_goals
      refine Jt (Rplus_calls s t xs ys _ (ux.rd.ext (Wc _ _ _)) (uy.rd.ext (Wc _ _ _)) cx.lim cy.lim (by omega) (by omega)) ?_
      rintro u H4 ⟨zs, U, C, vz, x4⟩
      have vz2 : val zs = (x + y).natAbs := by rw [vz, vx, vy]; omega
      have hz := Bs_.nil (H := H4) (s := u) (x := x + y) C vz2
      have q2 : Qy H4 H.length = some ⟨[.bool (decide (x < 0)), s], .own, 51⟩ := Xd (by rw [Xy (by simp), Xy (by simp), Xm rfl]) x4
      have q3 : Qy H4 (H.length + 1) = some ⟨[.bool (decide (y < 0)), t], .own, 51⟩ := Xd (by rw [Xy (by simp), Xm (by simp)]) x4
      have q4 : Qy H4 (H.length + 1 + 1) = some ⟨[.bool false, .nilS], .own, 51⟩ := Xd (Xm (by simp)) x4
      have hu1 : u.one = true := U.rd.rd.one
      have hc3 : u.cells = [u] := AV.cells_one hu1
      have hm := made_calls (decide (x < 0)) u zs H4 U.rd
      have hsg : (decide (x < 0) && decide (0 < zs.length)) = decide (x + y < 0) := by
        rw [Bool.eq_iff_iff]; simp only [Bool.and_eq_true, decide_eq_true_iff]; omega
      rw [hsg] at hm
      repeat' first
        | (with_reducible first | refine Qb ?_)
        | ((with_reducible refine Jt (hm) ?_); rintro _ _ ⟨rfl, rfl⟩)
        | (simp only [Q8, Jk, reduceIte, J0])
        | ((with_reducible refine hK _ _ ?_); clear hK)
        | (simp only [Qa, RA, Jo, Jn, Jp, Q7, Q5, ev, ofValue, Ju, J0, J3, J2, J4, reduceCtorEq, reduceIte, Jx, Qm, Qk, Q1, aun, Qj, Jm, Jh, Q0, Jz, Ji, Qi, Jf, Q6, Jw, Jr, J1, J5, Ja, J9, Jb, J6, J7, Jd, J8, RB, Jy, Je, Ym, q2, q3, q4])
        | (simp (disch := first | omega | (simp only [RO]; done) | assumption) only [RS, Xc, Xe, Xb, Xk])
        | (simp (disch := (first | omega | (simp only [RO]; done) | assumption | (simp only [RM, Je]; done) | (simp only [RL, Je]; omega))) only [RD, reduceCtorEq, reduceIte, Je, J1, J3, J2, J6, Ym, q2, q3, q4])
      have l4 := Zi q4
      (
       (refine Q9 (rs := [.cell 4 51]) rfl ?_)
       (simp only [Qt, Q4, Fr.put_some, Fr.put_none, Qg, Qh, Qn, J0, reduceIte, X9 l4])
       (try simp (disch := (first | omega | (simp only [RO]; done) | assumption | (simp only [RM, Je]; done) | (simp only [RL, Je]; omega))) only [RD, reduceCtorEq, reduceIte, Je, J1, J3, J2, J6, Ym, X9 l4]))
      exact ⟨u, rfl, ⟨zs, U.other q4 (by decide) _, C, vz2⟩, ((Wc _ _ _).trans x4).set (by omega) _⟩
  · have e1b : (decide (x < 0) == decide (y < 0)) = false := by
      rw [Bool.eq_false_iff]; intro h; exact hsame (eq_of_beq h)
    have hiff : ¬ (x < 0 ↔ y < 0) := fun h => hsame (decide_eq_decide.mpr h)
    by_cases hle : val ys ≤ val xs
    · have e2 : (0 ≤ (val xs - val ys).sign) = True := eq_true (Int.sign_nonneg_iff.mpr (by omega))
      repeat' first
        | (with_reducible first | refine Jj (fun K hK => ?_) | refine Q2 ?_ | refine Jg ?_ | refine Qf (id := 4) [] pn19_4RfH (by kernel_rfl) (by kernel_rfl) ?_ | refine Jq ?_)
        | ((with_reducible refine Jt (cmp_calls s t xs ys _ (ux.rd.ext (Wc _ _ _)) (uy.rd.ext (Wc _ _ _)) cx cy) ?_); rintro _ _ ⟨rfl, rfl⟩)
        | (with_reducible refine Jc ?_ ?_)
        | (simp only [Q8, Jk, reduceIte, J0])
        | ((with_reducible refine hK _ _ ?_); clear hK)
        | (simp only [Qa, RA, Jo, Jn, Jp, Q7, Q5, ev, ofValue, Ju, J0, J3, J2, J4, reduceCtorEq, reduceIte, Jx, Qm, Qk, Q1, aun, Qj, Jm, Jh, Q0, Jz, Ji, Qi, Jf, Q6, Jw, Jr, J1, J5, Ja, J9, Jb, J6, J7, Jd, J8, RB, Jy, Je, Ym, e1b, e2])
        | (simp (disch := first | omega | (simp only [RO]; done) | assumption) only [RS, Xc, Xe, Xb, Xk])
        | (simp (disch := (first | omega | (simp only [RO]; done) | assumption | (simp only [RM, Je]; done) | (simp only [RL, Je]; omega))) only [RD, reduceCtorEq, reduceIte, Je, J1, J3, J2, J6, Ym, e1b, e2])
      all_goals
        refine Jt (Rminus_calls s t xs ys _ (ux.rd.ext (Wc _ _ _)) (uy.rd.ext (Wc _ _ _)) cx.lim cy.lim (by omega) (cx.le cy hle) hle) ?_
        rintro u H4 ⟨zs, U, C, vz, x4⟩
        have vz2 : val zs = (x + y).natAbs := by rw [vz, vx, vy]; omega
        have hz := Bs_.nil (H := H4) (s := u) (x := x + y) C vz2
        have q2 : Qy H4 H.length = some ⟨[.bool (decide (x < 0)), s], .own, 51⟩ := Xd (by rw [Xy (by simp), Xy (by simp), Xm rfl]) x4
        have q3 : Qy H4 (H.length + 1) = some ⟨[.bool (decide (y < 0)), t], .own, 51⟩ := Xd (by rw [Xy (by simp), Xm (by simp)]) x4
        have q4 : Qy H4 (H.length + 1 + 1) = some ⟨[.bool false, .nilS], .own, 51⟩ := Xd (Xm (by simp)) x4
        have hu1 : u.one = true := U.rd.rd.one
        have hc3 : u.cells = [u] := AV.cells_one hu1
        have hm := made_calls (decide (x < 0)) u zs H4 U.rd
        have hsg : (decide (x < 0) && decide (0 < zs.length)) = decide (x + y < 0) := by
          rw [Bool.eq_iff_iff]; simp only [Bool.and_eq_true, decide_eq_true_iff]; omega
        rw [hsg] at hm
        repeat' first
          | (with_reducible first | refine Qb ?_)
          | ((with_reducible refine Jt (hm) ?_); rintro _ _ ⟨rfl, rfl⟩)
          | (simp only [Q8, Jk, reduceIte, J0])
          | ((with_reducible refine hK _ _ ?_); clear hK)
          | (simp only [Qa, RA, Jo, Jn, Jp, Q7, Q5, ev, ofValue, Ju, J0, J3, J2, J4, reduceCtorEq, reduceIte, Jx, Qm, Qk, Q1, aun, Qj, Jm, Jh, Q0, Jz, Ji, Qi, Jf, Q6, Jw, Jr, J1, J5, Ja, J9, Jb, J6, J7, Jd, J8, RB, Jy, Je, Ym, q2, q3, q4])
          | (simp (disch := first | omega | (simp only [RO]; done) | assumption) only [RS, Xc, Xe, Xb, Xk])
          | (simp (disch := (first | omega | (simp only [RO]; done) | assumption | (simp only [RM, Je]; done) | (simp only [RL, Je]; omega))) only [RD, reduceCtorEq, reduceIte, Je, J1, J3, J2, J6, Ym, q2, q3, q4])
        have l4 := Zi q4
        (
         (refine Q9 (rs := [.cell 4 51]) rfl ?_)
         (simp only [Qt, Q4, Fr.put_some, Fr.put_none, Qg, Qh, Qn, J0, reduceIte, X9 l4])
         (try simp (disch := (first | omega | (simp only [RO]; done) | assumption | (simp only [RM, Je]; done) | (simp only [RL, Je]; omega))) only [RD, reduceCtorEq, reduceIte, Je, J1, J3, J2, J6, Ym, X9 l4]))
        exact ⟨u, rfl, ⟨zs, U.other q4 (by decide) _, C, vz2⟩, ((Wc _ _ _).trans x4).set (by omega) _⟩
    · have e2 : (0 ≤ (val xs - val ys).sign) = False := eq_false (fun h => by have := Int.sign_nonneg_iff.mp h; omega)
      repeat' first
        | (with_reducible first | refine Jj (fun K hK => ?_) | refine Q2 ?_ | refine Jg ?_ | refine Qf (id := 5) [] pn19_5RfH (by kernel_rfl) (by kernel_rfl) ?_ | refine Jq ?_)
        | ((with_reducible refine Jt (cmp_calls s t xs ys _ (ux.rd.ext (Wc _ _ _)) (uy.rd.ext (Wc _ _ _)) cx cy) ?_); rintro _ _ ⟨rfl, rfl⟩)
        | (with_reducible refine Jc ?_ ?_)
        | (simp only [Q8, Jk, reduceIte, J0])
        | ((with_reducible refine hK _ _ ?_); clear hK)
        | (simp only [Qa, RA, Jo, Jn, Jp, Q7, Q5, ev, ofValue, Ju, J0, J3, J2, J4, reduceCtorEq, reduceIte, Jx, Qm, Qk, Q1, aun, Qj, Jm, Jh, Q0, Jz, Ji, Qi, Jf, Q6, Jw, Jr, J1, J5, Ja, J9, Jb, J6, J7, Jd, J8, RB, Jy, Je, Ym, e1b, e2])
        | (simp (disch := first | omega | (simp only [RO]; done) | assumption) only [RS, Xc, Xe, Xb, Xk])
        | (simp (disch := (first | omega | (simp only [RO]; done) | assumption | (simp only [RM, Je]; done) | (simp only [RL, Je]; omega))) only [RD, reduceCtorEq, reduceIte, Je, J1, J3, J2, J6, Ym, e1b, e2])
      all_goals
        refine Jt (Rminus_calls t s ys xs _ (uy.rd.ext (Wc _ _ _)) (ux.rd.ext (Wc _ _ _)) cy.lim cx.lim (by omega) (cy.le cx (by omega)) (by omega)) ?_
        rintro u H4 ⟨zs, U, C, vz, x4⟩
        have vz2 : val zs = (x + y).natAbs := by rw [vz, vx, vy]; omega
        have hz := Bs_.nil (H := H4) (s := u) (x := x + y) C vz2
        have q2 : Qy H4 H.length = some ⟨[.bool (decide (x < 0)), s], .own, 51⟩ := Xd (by rw [Xy (by simp), Xy (by simp), Xm rfl]) x4
        have q3 : Qy H4 (H.length + 1) = some ⟨[.bool (decide (y < 0)), t], .own, 51⟩ := Xd (by rw [Xy (by simp), Xm (by simp)]) x4
        have q4 : Qy H4 (H.length + 1 + 1) = some ⟨[.bool false, .nilS], .own, 51⟩ := Xd (Xm (by simp)) x4
        have hu1 : u.one = true := U.rd.rd.one
        have hc3 : u.cells = [u] := AV.cells_one hu1
        have hm := made_calls (decide (y < 0)) u zs H4 U.rd
        have hsg : (decide (y < 0) && decide (0 < zs.length)) = decide (x + y < 0) := by
          rw [Bool.eq_iff_iff]; simp only [Bool.and_eq_true, decide_eq_true_iff]; omega
        rw [hsg] at hm
        repeat' first
          | (with_reducible first | refine Qb ?_)
          | ((with_reducible refine Jt (hm) ?_); rintro _ _ ⟨rfl, rfl⟩)
          | (simp only [Q8, Jk, reduceIte, J0])
          | ((with_reducible refine hK _ _ ?_); clear hK)
          | (simp only [Qa, RA, Jo, Jn, Jp, Q7, Q5, ev, ofValue, Ju, J0, J3, J2, J4, reduceCtorEq, reduceIte, Jx, Qm, Qk, Q1, aun, Qj, Jm, Jh, Q0, Jz, Ji, Qi, Jf, Q6, Jw, Jr, J1, J5, Ja, J9, Jb, J6, J7, Jd, J8, RB, Jy, Je, Ym, q2, q3, q4])
          | (simp (disch := first | omega | (simp only [RO]; done) | assumption) only [RS, Xc, Xe, Xb, Xk])
          | (simp (disch := (first | omega | (simp only [RO]; done) | assumption | (simp only [RM, Je]; done) | (simp only [RL, Je]; omega))) only [RD, reduceCtorEq, reduceIte, Je, J1, J3, J2, J6, Ym, q2, q3, q4])
        have l4 := Zi q4
        (
         (refine Q9 (rs := [.cell 4 51]) rfl ?_)
         (simp only [Qt, Q4, Fr.put_some, Fr.put_none, Qg, Qh, Qn, J0, reduceIte, X9 l4])
         (try simp (disch := (first | omega | (simp only [RO]; done) | assumption | (simp only [RM, Je]; done) | (simp only [RL, Je]; omega))) only [RD, reduceCtorEq, reduceIte, Je, J1, J3, J2, J6, Ym, X9 l4]))
        exact ⟨u, rfl, ⟨zs, U.other q4 (by decide) _, C, vz2⟩, ((Wc _ _ _).trans x4).set (by omega) _⟩
end Go.Proofs.YtlgpemndbfclfaaDoor
namespace Go.Proofs.YtlgpemndbfclfaaDoor
open Go.AL Go.PW
theorem Kr : type_of% (Jc @Zn (Jc @Z6 (Jc @Vb (Jc @Va (@Qx))))) := Jc @Zn (Jc @Z6 (Jc @Vb (Jc @Va (@Qx))))
theorem tf36RfI : type_of% (Jc @Zn (Jc @Z6 (Jc @Vb (Jc @Va (@Qx))))) := Jc @Zn (Jc @Z6 (Jc @Vb (Jc @Va (@Qx))))
theorem tf35RfI : type_of% (Jc @Zn (Jc @Z6 (Jc @Vb (Jc @Va (@Qx))))) := Jc @Zn (Jc @Z6 (Jc @Vb (Jc @Va (@Qx))))
theorem tf16RfI : type_of% (Jc @Yj (Jc @Xz (Jc @Zn (Jc @Z6 (Jc @Vb (Jc @Va (@Qx))))))) := Jc @Yj (Jc @Xz (Jc @Zn (Jc @Z6 (Jc @Vb (Jc @Va (@Qx))))))
abbrev pn58_1RfI : Plan := (.one 1 (.pur 2 (.one 0 (.one 3 (.one 4 .nil)))))
set_option maxRecDepth 8000
theorem Bs_.other {H : Hp} {s : AV} {x : Int} (h : Bs_ H s x) {k : Nat} {b : Blk} (hg : Qy H k = some b) (hb : b.ety ≠ 53) (b' : Blk) : Bs_ (H.set k b') s x := by
  obtain ⟨xs, u, c⟩ := h.ex
  exact ⟨xs, u.other hg hb b', c⟩
set_option maxHeartbeats 2000000 in
theorem Rsub_calls (x y : Int) (s t : AV) (H : Hp) (hs : Bs_ H s x) (ht : Bs_ H t y) (bx : Sm x) (by_ : Sm y) : ACalls Tryd.prog 58 [BV x s, BV y t] H fun r H' => ∃ u, r = BV (x - y) u ∧ Bs_ H' u (x - y) ∧ Ext H H' := by
  have hs1 := hs.one
  have hc1 : s.cells = [s] := AV.cells_one hs1
  have ht1 := ht.one
  have hc2 : t.cells = [t] := AV.cells_one ht1
  refine Qe Tryd.func58 rfl (by kernel_rfl) (by kernel_rfl) ?_
  repeat' first
    | (with_reducible first | refine Jj (fun K hK => ?_) | refine Jg ?_ | refine Qf (id := 1) [] pn58_1RfI (by kernel_rfl) (by kernel_rfl) ?_ | refine Xt ?_)
    | (simp only [Q8, Jk, reduceIte, J0])
    | ((with_reducible refine hK _ _ ?_); clear hK)
    | (simp only [Qa, RA, Jo, Jn, Jp, Q7, Q5, ev, ofValue, Ju, J0, J3, J2, J4, reduceCtorEq, reduceIte, Jx, Qm, Qk, Q1, aun, Qj, Jm, Jh, Q0, Jz, Ji, Qi, Jf, Q6, Jw, Jr, J1, J5, Ja, J9, Jb, J6, J7, Jd, J8, RB, Jy, Je, Kr])
    | (simp (disch := first | omega | (simp only [RO]; done) | assumption) only [RS, Xc, Xe, Xb, Xk])
    | (simp (disch := (first | omega | (simp only [RO]; done) | assumption | (simp only [RM, Je]; done) | (simp only [RL, Je]; omega))) only [RD, reduceCtorEq, reduceIte, Je, J1, J3, J2, J6, Kr])
  all_goals
    refine Qp (v := BV (-y) t) (fun H0 x0 => Neg_calls y t H0 (ht.ext ((Wc _ _ _).trans x0))) ?_
    repeat' first
      | (simp only [Qa, RA, Jo, Jn, Jp, Q7, Q5, ev, ofValue, Ju, J0, J3, J2, J4, reduceCtorEq, reduceIte, Jx, Qm, Qk, Q1, aun, Qj, Jm, Jh, Q0, Jz, Ji, Qi, Jf, Q6, Jw, Jr, J1, J5, Ja, J9, Jb, J6, J7, Jd, J8, RB, Jy, Je, Kr])
      | (simp (disch := (first | omega | (simp only [RO]; done) | assumption | (simp only [RM, Je]; done) | (simp only [RL, Je]; omega))) only [RD, reduceCtorEq, reduceIte, Je, J1, J3, J2, J6, Kr])
    refine Jt (Radd_calls x (-y) s t _ (hs.ext (Wc _ _ _)) (ht.neg.ext (Wc _ _ _)) bx by_.neg) ?_
    rintro _ H4 ⟨u, rfl, U, x4⟩
    have q4 : Qy H4 (H.length + 1 + 1) = some ⟨[.bool false, .nilS], .own, 51⟩ := Xd (Xm (by simp)) x4
    have hu1 : u.one = true := U.one
    have hc3 : u.cells = [u] := AV.cells_one hu1
    repeat' first
      | (with_reducible first | refine Qb ?_)
      | (simp only [Q8, Jk, reduceIte, J0])
      | ((with_reducible refine hK _ _ ?_); clear hK)
      | (simp only [Qa, RA, Jo, Jn, Jp, Q7, Q5, ev, ofValue, Ju, J0, J3, J2, J4, reduceCtorEq, reduceIte, Jx, Qm, Qk, Q1, aun, Qj, Jm, Jh, Q0, Jz, Ji, Qi, Jf, Q6, Jw, Jr, J1, J5, Ja, J9, Jb, J6, J7, Jd, J8, RB, Jy, Je, Kr, q4])
      | (simp (disch := first | omega | (simp only [RO]; done) | assumption) only [RS, Xc, Xe, Xb, Xk])
      | (simp (disch := (first | omega | (simp only [RO]; done) | assumption | (simp only [RM, Je]; done) | (simp only [RL, Je]; omega))) only [RD, reduceCtorEq, reduceIte, Je, J1, J3, J2, J6, Kr, q4])
    have l4 := Zi q4
    (
     (refine Q9 (rs := [.cell 4 51]) rfl ?_)
     (simp only [Qt, Q4, Fr.put_some, Fr.put_none, Qg, Qh, Qn, J0, reduceIte, X9 l4])
     (try simp (disch := (first | omega | (simp only [RO]; done) | assumption | (simp only [RM, Je]; done) | (simp only [RL, Je]; omega))) only [RD, reduceCtorEq, reduceIte, Je, J1, J3, J2, J6, Kr, X9 l4]))
    have he : x + -y = x - y := by omega
    rw [he] at U ⊢
    exact ⟨u, rfl, U.other q4 (by decide) _, ((Wc _ _ _).trans x4).set (by omega) _⟩
theorem Amount_calls (x : Int) (s : AV) (H : Hp) (hs : Bs_ H s x) : ACalls Tryd.prog 36 [BV x s] H fun r H' => r = BV x.natAbs s ∧ H = H' := by
  refine ACalls.drop (R := fun r => r = BV x.natAbs s) ?_
  obtain ⟨xs, u, c, hv⟩ := hs.ex
  have hs1 := hs.one
  have hc : s.cells = [s] := AV.cells_one hs1
  have hm := fun H0 (x0 : Ext H H0) => made_calls false s xs H0 (u.rd.ext x0)
  have hb : decide ((x.natAbs : Int) < 0) = false := decide_eq_false (by omega)
  refine Qe Tryd.func36 rfl (by kernel_rfl) (by kernel_rfl) ?_
  repeat' first
    | (with_reducible first | refine Jj (fun K hK => ?_) | refine Qb ?_ | refine Jg ?_)
    | ((with_reducible refine Jt (hm _ ((Ext.push _ _).pushed _)) ?_); rintro _ _ ⟨rfl, rfl⟩)
    | (simp only [Q8, Jk, reduceIte, J0])
    | ((with_reducible refine hK _ _ ?_); clear hK)
    | (simp only [Qa, RA, Jo, Jn, Jp, Q7, Q5, ev, ofValue, Ju, J0, J3, J2, J4, reduceCtorEq, reduceIte, Jx, Qm, Qk, Q1, aun, Qj, Jm, Jh, Q0, Jz, Ji, Qi, Jf, Q6, Jw, Jr, J1, J5, Ja, J9, Jb, J6, J7, Jd, J8, RB, Jy, Je, tf36RfI])
    | (simp (disch := first | omega | (simp only [RO]; done) | assumption) only [RS, Xc, Xe, Xb, Xk])
    | (simp (disch := (first | omega | (simp only [RO]; done) | assumption | (simp only [RM, Je]; done) | (simp only [RL, Je]; omega))) only [RD, reduceCtorEq, reduceIte, Je, J1, J3, J2, J6, tf36RfI])
  have hsl := hs.lt
  all_goals
    (
     (refine Q9 (rs := [.cell 2 51]) rfl ?_)
     (simp only [Qt, Q4, Fr.put_some, Fr.put_none, Qg, Qh, Qn, J0, reduceIte])
     (try simp (disch := (first | omega | (simp only [RO]; done) | assumption | (simp only [RM, Je]; done) | (simp only [RL, Je]; omega))) only [RD, reduceCtorEq, reduceIte, Je, J1, J3, J2, J6, tf36RfI]))
  all_goals
    refine ⟨(Ext.push _ _).pushed _, ?_⟩
    simp [AV.lt, AV.lts, hsl, hb]
theorem Bs_.abs {H : Hp} {s : AV} {x : Int} (h : Bs_ H s x) : Bs_ H s x.natAbs := by
  obtain ⟨xs, u, c, hv⟩ := h.ex
  exact ⟨xs, u, c, by rw [hv, Int.natAbs_natCast]⟩
theorem Cmp_calls (x y : Int) (s t : AV) (H : Hp) (hs : Bs_ H s x) (ht : Bs_ H t y) (bx : Sm x) (by_ : Sm y) : ACalls Tryd.prog 35 [BV x s, BV y t] H fun r H' => r = .int .i64 (x - y).sign ∧ H = H' := by
  refine ACalls.drop (R := fun r => r = .int .i64 (x - y).sign) ?_
  have hs1 := hs.one
  have hc1 : s.cells = [s] := AV.cells_one hs1
  have ht1 := ht.one
  have hc2 : t.cells = [t] := AV.cells_one ht1
  refine Qe Tryd.func35 rfl (by kernel_rfl) (by kernel_rfl) ?_
  repeat' first
    | (with_reducible first | refine Jj (fun K hK => ?_) | refine Jg ?_)
    | (simp only [Q8, Jk, reduceIte, J0])
    | ((with_reducible refine hK _ _ ?_); clear hK)
    | (simp only [Qa, RA, Jo, Jn, Jp, Q7, Q5, ev, ofValue, Ju, J0, J3, J2, J4, reduceCtorEq, reduceIte, Jx, Qm, Qk, Q1, aun, Qj, Jm, Jh, Q0, Jz, Ji, Qi, Jf, Q6, Jw, Jr, J1, J5, Ja, J9, Jb, J6, J7, Jd, J8, RB, Jy, Je, tf35RfI])
    | (simp (disch := first | omega | (simp only [RO]; done) | assumption) only [RS, Xc, Xe, Xb, Xk])
    | (simp (disch := (first | omega | (simp only [RO]; done) | assumption | (simp only [RM, Je]; done) | (simp only [RL, Je]; omega))) only [RD, reduceCtorEq, reduceIte, Je, J1, J3, J2, J6, tf35RfI])
  all_goals
    refine Jt (Rsub_calls x y s t _ (hs.ext (ext4 _ _)) (ht.ext (ext4 _ _)) bx by_) ?_
    rintro _ H4 ⟨u, rfl, U, x4⟩
    repeat' first
      | (with_reducible first | refine Qb ?_)
      | ((with_reducible refine Jt (Sign_calls _ _ _ U) ?_); rintro _ _ ⟨rfl, rfl⟩)
      | (simp only [Q8, Jk, reduceIte, J0])
      | ((with_reducible refine hK _ _ ?_); clear hK)
      | (simp only [Qa, RA, Jo, Jn, Jp, Q7, Q5, ev, ofValue, Ju, J0, J3, J2, J4, reduceCtorEq, reduceIte, Jx, Qm, Qk, Q1, aun, Qj, Jm, Jh, Q0, Jz, Ji, Qi, Jf, Q6, Jw, Jr, J1, J5, Ja, J9, Jb, J6, J7, Jd, J8, RB, Jy, Je, tf35RfI])
    (
     (refine Q9 (rs := [.tmp 4]) rfl ?_)
     (simp only [Qt, Q4, Fr.put_some, Fr.put_none, Qg, Qh, Qn, J0, reduceIte])
     (try simp (disch := (first | omega | (simp only [RO]; done) | assumption | (simp only [RM, Je]; done) | (simp only [RL, Je]; omega))) only [RD, reduceCtorEq, reduceIte, Je, J1, J3, J2, J6, tf35RfI]))
    exact ⟨(ext4 _ _).trans x4, trivial⟩
theorem Sm.abs {x : Int} (h : Sm x) : Sm x.natAbs := by unfold Sm at *; rw [Int.natAbs_natCast]; exact h
theorem Fits_calls (x m : Int) (s : AV) (H : Hp) (hs : Bs_ H s x) (bx : Sm x) (hm : -9223372036854775808 ≤ m ∧ m ≤ 9223372036854775807) : ACalls Tryd.prog 16 [BV x s, .int .i64 m] H fun r H' => r = .bool (decide ((x.natAbs : Int) ≤ m)) ∧ H = H' := by
  refine ACalls.drop (R := fun r => r = .bool (decide ((x.natAbs : Int) ≤ m))) ?_
  have hs1 := hs.one
  have hc1 : s.cells = [s] := AV.cells_one hs1
  refine Qe Tryd.func16 rfl (by kernel_rfl) (by kernel_rfl) ?_
  repeat' first
    | (with_reducible first | refine Jj (fun K hK => ?_) | refine Jg ?_)
    | ((with_reducible refine Jt (Amount_calls _ _ _ (hs.push _)) ?_); rintro _ _ ⟨rfl, rfl⟩)
    | (simp only [Q8, Jk, reduceIte, J0])
    | ((with_reducible refine hK _ _ ?_); clear hK)
    | (simp only [Qa, RA, Jo, Jn, Jp, Q7, Q5, ev, ofValue, Ju, J0, J3, J2, J4, reduceCtorEq, reduceIte, Jx, Qm, Qk, Q1, aun, Qj, Jm, Jh, Q0, Jz, Ji, Qi, Jf, Q6, Jw, Jr, J1, J5, Ja, J9, Jb, J6, J7, Jd, J8, RB, Jy, Je, tf16RfI])
    | (simp (disch := first | omega | (simp only [RO]; done) | assumption) only [RS, Xc, Xe, Xb, Xk])
    | (simp (disch := (first | omega | (simp only [RO]; done) | assumption | (simp only [RM, Je]; done) | (simp only [RL, Je]; omega))) only [RD, reduceCtorEq, reduceIte, Je, J1, J3, J2, J6, tf16RfI])
  all_goals
    refine Jt (Of_calls m _ hm) ?_
    rintro _ H4 ⟨u, rfl, U, x4⟩
    have A4 : Bs_ H4 s x.natAbs := (hs.abs.push _).ext x4
    repeat' first
      | (with_reducible first | refine Qb ?_)
      | ((with_reducible refine Jt (Cmp_calls _ _ _ _ _ A4 U bx.abs (Sm.int hm)) ?_); rintro _ _ ⟨rfl, rfl⟩)
      | (simp only [Q8, Jk, reduceIte, J0])
      | ((with_reducible refine hK _ _ ?_); clear hK)
      | (simp only [Qa, RA, Jo, Jn, Jp, Q7, Q5, ev, ofValue, Ju, J0, J3, J2, J4, reduceCtorEq, reduceIte, Jx, Qm, Qk, Q1, aun, Qj, Jm, Jh, Q0, Jz, Ji, Qi, Jf, Q6, Jw, Jr, J1, J5, Ja, J9, Jb, J6, J7, Jd, J8, RB, Jy, Je, tf16RfI])
    (
     (refine Q9 (rs := [.tmp 4]) rfl ?_)
     (simp only [Qt, Q4, Fr.put_some, Fr.put_none, Qg, Qh, Qn, J0, reduceIte])
     (try simp (disch := (first | omega | (simp only [RO]; done) | assumption | (simp only [RM, Je]; done) | (simp only [RL, Je]; omega))) only [RD, reduceCtorEq, reduceIte, Je, J1, J3, J2, J6, tf16RfI]))
    refine ⟨(Ext.push _ _).trans x4, trivial, ?_⟩
    congr 1
    refine decide_eq_decide.mpr ?_
    rw [Int.sign_nonpos_iff]
    omega
end Go.Proofs.YtlgpemndbfclfaaDoor
namespace Go.Proofs.YtlgpemndbfclfaaDoor
open Go.AL Go.PW
set_option maxRecDepth 8000
theorem Bs_.single {H : Hp} {s : AV} {x : Int} (h : Bs_ H s x) (hx : x ≠ 0) (hb : x.natAbs ≤ 9223372036854775808) : Ints H .u64 s [(x.natAbs : Int)] := by
  obtain ⟨xs, u, c, hv⟩ := h.ex
  have hz := Bs_.nil (H := H) (s := s) c hv
  have hl : xs.length < 2 := by
    rcases Nat.lt_or_ge xs.length 2 with h | h
    · exact h
    · have h1 := c.low (by omega)
      have h2 : Bs ^ 1 ≤ Bs ^ (xs.length - 1) := Vv (by omega)
      have h3 : Bs ^ 1 = 18446744073709551616 := by decide
      omega
  have hn : xs.length ≠ 0 := fun e => hx (hz.1 e)
  match xs, hl, hn, hv, u with
  | [m], _, _, hv, u =>
    simp only [val] at hv
    have : m = (x.natAbs : Int) := by omega
    rw [← this]; exact u.rd
end Go.Proofs.YtlgpemndbfclfaaDoor
namespace Go.Proofs.YtlgpemndbfclfaaDoor
open Go.AL Go.PW Go.PD
set_option maxRecDepth 8000
section
variable {H : Hp} {a : AV} {xs : List Int} {lo : Nat}
theorem Mo.other (m : Mo H a xs lo) {h : Nat} (hh : h < lo) (hl : h < H.length) (b : Blk) : Mo (H.set h b) a xs lo := by
  rcases m with e | ⟨k, h1, h2, h3⟩
  · exact .inl e
  · exact .inr ⟨k, h1, by rw [X9 hl, if_neg (by omega)]; exact h2, h3⟩
theorem Mo.low (m : Mo H a xs lo) {lo' : Nat} (h : lo' ≤ lo) : Mo H a xs lo' := by
  rcases m with e | ⟨k, h1, h2, h3⟩
  · exact .inl e
  · exact .inr ⟨k, h1, h2, by omega⟩
end
end Go.Proofs.YtlgpemndbfclfaaDoor
namespace Go.Proofs.YtlgpemndbfclfaaDoor
open Go.AL Go.PW Go.PR
theorem Zp : type_of% (Jc @Xz (Jc @Zn (Jc @Z6 (Jc @Vb (Jc @Va (@Qx)))))) := Jc @Xz (Jc @Zn (Jc @Z6 (Jc @Vb (Jc @Va (@Qx)))))
abbrev V9 : Plan := (.one 0 (.one 1 (.one 3 (.one 4 (.ext 2 (.one 5 (.one 6 .nil)))))))
set_option maxRecDepth 8000
set_option maxHeartbeats 8000000 in
theorem Rooted_calls (n : Nat) (t : AV) (H : Hp) (T : Bs_ H t (n : Int)) : ACalls Tryd.prog 18 [BV (n : Int) t] H fun r H' => r = .int .u64 (rt n : Nat) ∧ H = H' := by
  refine ACalls.drop (R := fun r => r = .int .u64 (rt n : Nat)) ?_
  obtain ⟨xs, hu, hcan, hval⟩ := T.ex
  rw [Int.natAbs_natCast] at hval
  have ht1 := T.one
  have ht2 := T.cells
  obtain ⟨H0, hH0⟩ : ∃ H0, H0 = H ++ [⟨[.bool (decide ((n : Int) < 0)), t], .own, 51⟩] := ⟨_, rfl⟩
  have y0 : Ext H H0 := by rw [hH0]; exact Ext.push _ _
  have q0 : Qy H0 H.length = some ⟨[.bool (decide ((n : Int) < 0)), t], .own, 51⟩ := by rw [hH0]; exact Xm rfl
  refine Qe Tryd.func18 rfl (by kernel_rfl) (by kernel_rfl) ?_
  repeat' first
    | (with_reducible first | refine Jj (fun K hK => ?_) | refine Js ?_ | refine Q2 ?_ | refine Qc ?_ | refine Qb ?_ | refine Jg ?_ | refine Qf (id := 6) [2] V9 (by kernel_rfl) (by kernel_rfl) ?_ | refine Jq ?_ | refine Xt ?_ | refine Ud ?_)
    | (with_reducible refine Jv (fun hc => ?_) (fun hc => ?_) <;> (try simp only [RC] at hc) <;> (try (exfalso; first | omega | contradiction)))
    | (with_reducible refine Jc ?_ ?_)
    | (with_reducible refine X3 (fun hc => ?_) (fun hc => ?_) <;> (try simp only [RC] at hc) <;> (try (exfalso; first | omega | contradiction)))
    | (simp only [Q8, Jk, reduceIte, J0])
    | ((with_reducible refine hK _ _ ?_); clear hK)
    | (clear hK; (with_reducible refine hK _ _ ?_); clear hK)
    | (clear hK; clear hK; (with_reducible refine hK _ _ ?_); clear hK)
    | (clear hK; clear hK; clear hK; (with_reducible refine hK _ _ ?_); clear hK)
    | (clear hK; clear hK; clear hK; clear hK; (with_reducible refine hK _ _ ?_); clear hK)
    | (clear hK; clear hK; clear hK; clear hK; clear hK; (with_reducible refine hK _ _ ?_); clear hK)
    | (simp only [Qa, RA, Jo, Jn, Jp, Q7, Q5, ev, ofValue, Ju, J0, J3, J2, J4, reduceCtorEq, reduceIte, Jx, Qm, Qk, Q1, aun, Qj, Jm, Jh, Q0, Jz, Ji, Qi, Jf, Q6, Jw, Jr, J1, J5, Ja, J9, Jb, J6, J7, Jd, J8, RB, Jy, Je, Zp])
    | (simp (disch := first | omega | (simp only [RO]; done) | assumption) only [RS, Xc, Xe, Xb, Xk])
    | (simp (disch := (first | omega | (simp only [RO]; done) | assumption | (simp only [RM, Je]; done) | (simp only [RL, Je]; omega))) only [RD, reduceCtorEq, reduceIte, Je, J1, J3, J2, J6, Zp])
  refine Xr (fun m fr' H1 => ∃ (s r c : Nat), m = s ∧ s ≤ 64 ∧ fr' 1 = .ptr H.length 0 ∧ fr' 3 = .int .u64 (r : Int) ∧ fr' 4 = .int .i64 ((s : Int) - 1) ∧ r = c * 2 ^ s ∧ (r : Int) + 2 ^ s ≤ Bs ∧ Gm n s r = rt n ∧ Ext H0 H1) (m := 64)
    ⟨64, 0, 0, rfl, by omega, rfl, rfl, rfl, by simp, by decide, rfl, by rw [hH0]; exact Ext.refl _⟩ ?_
  rintro s fr' H1 ⟨s0, r, c, hm0, hs, k1, k3, k4, hc, hb, hg, x1⟩
  subst hm0
  have q1 := Xd q0 x1
  cases s with
  | zero =>
    have f0 : (((0 : Nat) : Int) - 1 ≥ 0) = False := eq_false (by omega)
    repeat' first
      | (with_reducible first | refine Jj (fun K hK => ?_) | refine Js ?_ | refine Q2 ?_ | refine Qc ?_ | refine Qb ?_ | refine Jg ?_ | refine Qf (id := 6) [2] V9 (by kernel_rfl) (by kernel_rfl) ?_ | refine Jq ?_ | refine Xt ?_ | refine Ud ?_)
      | (with_reducible refine Jv (fun hc => ?_) (fun hc => ?_) <;> (try simp only [RC] at hc) <;> (try (exfalso; first | omega | contradiction)))
      | (with_reducible refine Jc ?_ ?_)
      | (with_reducible refine X3 (fun hc => ?_) (fun hc => ?_) <;> (try simp only [RC] at hc) <;> (try (exfalso; first | omega | contradiction)))
      | (simp only [Q8, Jk, reduceIte, J0])
      | ((with_reducible refine hK _ _ ?_); clear hK)
      | (clear hK; (with_reducible refine hK _ _ ?_); clear hK)
      | (clear hK; clear hK; (with_reducible refine hK _ _ ?_); clear hK)
      | (clear hK; clear hK; clear hK; (with_reducible refine hK _ _ ?_); clear hK)
      | (clear hK; clear hK; clear hK; clear hK; (with_reducible refine hK _ _ ?_); clear hK)
      | (clear hK; clear hK; clear hK; clear hK; clear hK; (with_reducible refine hK _ _ ?_); clear hK)
      | (simp only [Qa, RA, Jo, Jn, Jp, Q7, Q5, ev, ofValue, Ju, J0, J3, J2, J4, reduceCtorEq, reduceIte, Jx, Qm, Qk, Q1, aun, Qj, Jm, Jh, Q0, Jz, Ji, Qi, Jf, Q6, Jw, Jr, J1, J5, Ja, J9, Jb, J6, J7, Jd, J8, RB, Jy, Je, Zp, k1, k3, k4, f0])
      | (simp (disch := first | omega | (simp only [RO]; done) | assumption) only [RS, Xc, Xe, Xb, Xk])
      | (simp (disch := (first | omega | (simp only [RO]; done) | assumption | (simp only [RM, Je]; done) | (simp only [RL, Je]; omega))) only [RD, reduceCtorEq, reduceIte, Je, J1, J3, J2, J6, Zp, k1, k3, k4, f0])
    (
     (refine Q9 (rs := [.tmp 2]) rfl ?_)
     (simp only [Qt, Q4, Fr.put_some, Fr.put_none, Qg, Qh, Qn, J0, reduceIte])
     (try simp (disch := (first | omega | (simp only [RO]; done) | assumption | (simp only [RM, Je]; done) | (simp only [RL, Je]; omega))) only [RD, reduceCtorEq, reduceIte, Je, J1, J3, J2, J6, Zp]))
    exact ⟨y0.trans x1, trivial, by rw [← hg]; rfl⟩
  | succ s =>
    have f0 : (((s + 1 : Nat) : Int) - 1 ≥ 0) = True := eq_true (by omega)
    have e0 : ((s + 1 : Nat) : Int) - 1 = (s : Int) := by omega
    have hm : min s 64 = s := by omega
    have hp : (2 : Int) ^ (s + 1) = 2 * 2 ^ s := by rw [Int.pow_succ]; omega
    have h2p : (0 : Int) < 2 ^ s := Int.pow_pos (by decide)
    have w2 : IntKind.u64.wrap (1 * 2 ^ s) = 2 ^ s := by rw [Int.one_mul]; exact Xx (by omega) (two_lt (by omega))
    obtain ⟨q, hq⟩ : ∃ q : Nat, q = r + 2 ^ s := ⟨_, rfl⟩
    have hqi : (q : Int) = (r : Int) + 2 ^ s := by rw [hq]; push_cast; rfl
    have hor : bits .or .u64 (r : Int) (2 ^ s) = (q : Int) := by
      have e : (r : Int) = (c : Int) * 2 ^ (s + 1) := by rw [hc]; push_cast; rfl
      rw [hqi, e]
      exact or_add (s + 1) (by omega) (by rw [← e]; omega) (by omega) (by omega) (two_lt (by omega))
    have hqb : 0 ≤ (q : Int) ∧ (q : Int) < Bs := by omega
    have w3 : IntKind.i64.wrap ((s : Int) - 1) = (s : Int) - 1 := Q3 (by omega) (by omega)
    have hc1 : r = 2 * c * 2 ^ s := by rw [hc, Nat.pow_succ]; rw [Nat.mul_comm 2 c, Nat.mul_assoc, Nat.mul_comm 2]
    have hc2 : q = (2 * c + 1) * 2 ^ s := by rw [hq, Nat.add_mul, ← hc1, Nat.one_mul]
    have take : q * q ≤ n → Gm n s q = rt n := fun h => by rw [← hg, hq]; simp only [Gm]; rw [if_pos (by rw [← hq]; exact h)]
    have skp : ¬ q * q ≤ n → Gm n s r = rt n := fun h => by rw [← hg]; simp only [Gm]; rw [if_neg (by rw [← hq]; exact h)]
    clear hg
    obtain ⟨H2, hH2⟩ : ∃ H2, H2 = H1 ++ [⟨[.int .u64 (q : Int)], .own, 53⟩] := ⟨_, rfl⟩
    have x12 : Ext H1 H2 := by rw [hH2]; exact Ext.push _ _
    have g2 : Qy H2 H1.length = some (Ub [(q : Int)]) := by rw [hH2]; exact Xm rfl
    have hL : Limbs [(q : Int)] := fun y hy => by rw [List.mem_singleton.1 hy]; exact hqb
    have hI : Uv H2 (.sl H1.length 0 1 1) [(q : Int)] := (Uv.front (k := 1) (c := 1) g2 (by simp) (Nat.le_refl _))
    have q2 := Xd q1 x12
    have vq : val [(q : Int)] = (q : Int) := by simp [val]
    refine Jj (fun K hQ => ?_)
    repeat' first
      | (with_reducible first | refine Jj (fun K hK => ?_) | refine Js ?_ | refine Q2 ?_ | refine Qc ?_ | refine Qb ?_ | refine Jg ?_ | refine Qf (id := 6) [2] V9 (by kernel_rfl) (by kernel_rfl) ?_ | refine Jq ?_ | refine Xt ?_ | refine Ud ?_)
      | (with_reducible refine Jv (fun hc => ?_) (fun hc => ?_) <;> (try simp only [RC] at hc) <;> (try (exfalso; first | omega | contradiction)))
      | (with_reducible refine Jc ?_ ?_)
      | (with_reducible refine X3 (fun hc => ?_) (fun hc => ?_) <;> (try simp only [RC] at hc) <;> (try (exfalso; first | omega | contradiction)))
      | (simp only [Q8, Jk, reduceIte, J0])
      | ((with_reducible refine hK _ _ ?_); clear hK)
      | (clear hK; (with_reducible refine hK _ _ ?_); clear hK)
      | (clear hK; clear hK; (with_reducible refine hK _ _ ?_); clear hK)
      | (clear hK; clear hK; clear hK; (with_reducible refine hK _ _ ?_); clear hK)
      | (clear hK; clear hK; clear hK; clear hK; (with_reducible refine hK _ _ ?_); clear hK)
      | (clear hK; clear hK; clear hK; clear hK; clear hK; (with_reducible refine hK _ _ ?_); clear hK)
      | (simp only [Qa, RA, Jo, Jn, Jp, Q7, Q5, ev, ofValue, Ju, J0, J3, J2, J4, reduceCtorEq, reduceIte, Jx, Qm, Qk, Q1, aun, Qj, Jm, Jh, Q0, Jz, Ji, Qi, Jf, Q6, Jw, Jr, J1, J5, Ja, J9, Jb, J6, J7, Jd, J8, RB, Jy, Je, Zp, k1, k3, k4, f0])
      | (simp (disch := first | omega | (simp only [RO]; done) | assumption) only [RS, Xc, Xe, Xb, Xk])
      | (simp (disch := (first | omega | (simp only [RO]; done) | assumption | (simp only [RM, Je]; done) | (simp only [RL, Je]; omega))) only [RD, reduceCtorEq, reduceIte, Je, J1, J3, J2, J6, Zp, k1, k3, k4, f0])
    refine hQ _ _ ?_
    clear hQ
    refine Jj (fun K2 hK2 => ?_)
    refine Js ?_
    refine Jj (fun K hQ => ?_)
    repeat' first
      | (with_reducible first | refine Jj (fun K hK => ?_) | refine Js ?_ | refine Q2 ?_ | refine Qc ?_ | refine Qb ?_ | refine Jg ?_ | refine Qf (id := 6) [2] V9 (by kernel_rfl) (by kernel_rfl) ?_ | refine Jq ?_ | refine Xt ?_ | refine Ud ?_)
      | (with_reducible refine Jv (fun hc => ?_) (fun hc => ?_) <;> (try simp only [RC] at hc) <;> (try (exfalso; first | omega | contradiction)))
      | (with_reducible refine Jc ?_ ?_)
      | (with_reducible refine X3 (fun hc => ?_) (fun hc => ?_) <;> (try simp only [RC] at hc) <;> (try (exfalso; first | omega | contradiction)))
      | (simp only [Q8, Jk, reduceIte, J0])
      | ((with_reducible refine hK _ _ ?_); clear hK)
      | (clear hK; (with_reducible refine hK _ _ ?_); clear hK)
      | (clear hK; clear hK; (with_reducible refine hK _ _ ?_); clear hK)
      | (clear hK; clear hK; clear hK; (with_reducible refine hK _ _ ?_); clear hK)
      | (clear hK; clear hK; clear hK; clear hK; (with_reducible refine hK _ _ ?_); clear hK)
      | (clear hK; clear hK; clear hK; clear hK; clear hK; (with_reducible refine hK _ _ ?_); clear hK)
      | (simp only [Qa, RA, Jo, Jn, Jp, Q7, Q5, ev, ofValue, Ju, J0, J3, J2, J4, reduceCtorEq, reduceIte, Jx, Qm, Qk, Q1, aun, Qj, Jm, Jh, Q0, Jz, Ji, Qi, Jf, Q6, Jw, Jr, J1, J5, Ja, J9, Jb, J6, J7, Jd, J8, RB, Jy, Je, Zp, k1, k3, k4, e0, hm, w2, hor])
      | (simp (disch := first | omega | (simp only [RO]; done) | assumption) only [RS, Xc, Xe, Xb, Xk])
      | (simp (disch := (first | omega | (simp only [RO]; done) | assumption | (simp only [RM, Je]; done) | (simp only [RL, Je]; omega))) only [RD, reduceCtorEq, reduceIte, Je, J1, J3, J2, J6, Zp, k1, k3, k4, e0, hm, w2, hor])
    refine hQ _ _ ?_
    clear hQ
    rw [← hH2]
    repeat' first
      | (with_reducible first | refine Jj (fun K hK => ?_) | refine Js ?_ | refine Q2 ?_ | refine Qc ?_ | refine Qb ?_ | refine Jg ?_ | refine Qf (id := 6) [2] V9 (by kernel_rfl) (by kernel_rfl) ?_ | refine Jq ?_ | refine Xt ?_ | refine Ud ?_)
      | (with_reducible refine Jv (fun hc => ?_) (fun hc => ?_) <;> (try simp only [RC] at hc) <;> (try (exfalso; first | omega | contradiction)))
      | (with_reducible refine Jc ?_ ?_)
      | (with_reducible refine X3 (fun hc => ?_) (fun hc => ?_) <;> (try simp only [RC] at hc) <;> (try (exfalso; first | omega | contradiction)))
      | (simp only [Q8, Jk, reduceIte, J0])
      | ((with_reducible refine hK _ _ ?_); clear hK)
      | (clear hK; (with_reducible refine hK _ _ ?_); clear hK)
      | (clear hK; clear hK; (with_reducible refine hK _ _ ?_); clear hK)
      | (clear hK; clear hK; clear hK; (with_reducible refine hK _ _ ?_); clear hK)
      | (clear hK; clear hK; clear hK; clear hK; (with_reducible refine hK _ _ ?_); clear hK)
      | (clear hK; clear hK; clear hK; clear hK; clear hK; (with_reducible refine hK _ _ ?_); clear hK)
      | (simp only [Qa, RA, Jo, Jn, Jp, Q7, Q5, ev, ofValue, Ju, J0, J3, J2, J4, reduceCtorEq, reduceIte, Jx, Qm, Qk, Q1, aun, Qj, Jm, Jh, Q0, Jz, Ji, Qi, Jf, Q6, Jw, Jr, J1, J5, Ja, J9, Jb, J6, J7, Jd, J8, RB, Jy, Je, Zp, k1, k3, k4, q2])
      | (simp (disch := first | omega | (simp only [RO]; done) | assumption) only [RS, Xc, Xe, Xb, Xk])
      | (simp (disch := (first | omega | (simp only [RO]; done) | assumption | (simp only [RM, Je]; done) | (simp only [RL, Je]; omega))) only [RD, reduceCtorEq, reduceIte, Je, J1, J3, J2, J6, Zp, k1, k3, k4, q2])
    all_goals
      refine J0u (Rtimes_calls _ _ [(q : Int)] [(q : Int)] _ hI.rd hI.rd hL hL (by show 1 < 40000; omega) (by show 1 < 40000; omega)) ?_
      rintro z H4 ⟨zs, U, cz, vz, x4⟩
      refine ⟨x4, ?_⟩
      have ht4 := hu.rd.ext (((y0.trans x1).trans x12).trans x4)
      have h14 := hI.rd.ext x4
      have q4 := Xd q2 x4
      rw [vq] at vz
      by_cases hle : q * q ≤ n
      · have fs : ((val zs - val xs).sign ≤ 0) = True := eq_true (by
          have : (q : Int) * q ≤ n := by exact_mod_cast hle
          rw [vz, hval]
          rcases Int.lt_or_eq_of_le this with h | h
          · rw [Int.sign_eq_neg_one_of_neg (by omega)]; decide
          · rw [h, Int.sub_self]; decide)
        have g24 : Qy H4 H1.length = some ⟨[.int .u64 (q : Int)], .own, 53⟩ := Xd g2 x4
        repeat' first
          | (with_reducible first | refine Jj (fun K hK => ?_) | refine Js ?_ | refine Q2 ?_ | refine Qc ?_ | refine Qb ?_ | refine Jg ?_ | refine Qf (id := 6) [2] V9 (by kernel_rfl) (by kernel_rfl) ?_ | refine Jq ?_ | refine Xt ?_ | refine Ud ?_)
          | (with_reducible refine Kp (cmp_calls _ _ _ _ _ U.rd ht4 cz hcan) ?_)
          | ((with_reducible refine Jt (cmp_calls _ _ _ _ _ U.rd ht4 cz hcan) ?_); rintro _ _ ⟨rfl, rfl⟩)
          | (with_reducible refine Jv (fun hc => ?_) (fun hc => ?_) <;> (try simp only [RC] at hc) <;> (try (exfalso; first | omega | contradiction)))
          | (with_reducible refine Jc ?_ ?_)
          | (with_reducible refine X3 (fun hc => ?_) (fun hc => ?_) <;> (try simp only [RC] at hc) <;> (try (exfalso; first | omega | contradiction)))
          | (simp only [Q8, Jk, reduceIte, J0])
          | ((with_reducible refine hK _ _ ?_); clear hK)
          | (clear hK; (with_reducible refine hK _ _ ?_); clear hK)
          | (clear hK; clear hK; (with_reducible refine hK _ _ ?_); clear hK)
          | (clear hK; clear hK; clear hK; (with_reducible refine hK _ _ ?_); clear hK)
          | (clear hK; clear hK; clear hK; clear hK; (with_reducible refine hK _ _ ?_); clear hK)
          | (clear hK; clear hK; clear hK; clear hK; clear hK; (with_reducible refine hK _ _ ?_); clear hK)
          | (simp only [Qa, RA, Jo, Jn, Jp, Q7, Q5, ev, ofValue, Ju, J0, J3, J2, J4, reduceCtorEq, reduceIte, Jx, Qm, Qk, Q1, aun, Qj, Jm, Jh, Q0, Jz, Ji, Qi, Jf, Q6, Jw, Jr, J1, J5, Ja, J9, Jb, J6, J7, Jd, J8, RB, Jy, Je, Zp, k1, k3, k4, q4, fs, g24])
          | (simp (disch := first | omega | (simp only [RO]; done) | assumption) only [RS, h14.rd.at1 Xo Xa, Xc, Xe, Xb, Xk])
          | (simp (disch := (first | omega | (simp only [RO]; done) | assumption | (simp only [RM, Je]; done) | (simp only [RL, Je]; omega))) only [RD, reduceCtorEq, reduceIte, Je, J1, J3, J2, J6, Zp, k1, k3, k4, q4, fs, g24])
        all_goals refine hK2 _ _ ?_
        all_goals
          repeat' first
            | (with_reducible first | refine Jj (fun K hK => ?_) | refine Js ?_ | refine Q2 ?_ | refine Qc ?_ | refine Qb ?_ | refine Jg ?_ | refine Qf (id := 6) [2] V9 (by kernel_rfl) (by kernel_rfl) ?_ | refine Jq ?_ | refine Xt ?_ | refine Ud ?_)
            | (with_reducible refine Jv (fun hc => ?_) (fun hc => ?_) <;> (try simp only [RC] at hc) <;> (try (exfalso; first | omega | contradiction)))
            | (with_reducible refine Jc ?_ ?_)
            | (with_reducible refine X3 (fun hc => ?_) (fun hc => ?_) <;> (try simp only [RC] at hc) <;> (try (exfalso; first | omega | contradiction)))
            | (simp only [Q8, Jk, reduceIte, J0])
            | ((with_reducible refine hK _ _ ?_); clear hK)
            | (clear hK; (with_reducible refine hK _ _ ?_); clear hK)
            | (clear hK; clear hK; (with_reducible refine hK _ _ ?_); clear hK)
            | (clear hK; clear hK; clear hK; (with_reducible refine hK _ _ ?_); clear hK)
            | (clear hK; clear hK; clear hK; clear hK; (with_reducible refine hK _ _ ?_); clear hK)
            | (clear hK; clear hK; clear hK; clear hK; clear hK; (with_reducible refine hK _ _ ?_); clear hK)
            | (simp only [Qa, RA, Jo, Jn, Jp, Q7, Q5, ev, ofValue, Ju, J0, J3, J2, J4, reduceCtorEq, reduceIte, Jx, Qm, Qk, Q1, aun, Qj, Jm, Jh, Q0, Jz, Ji, Qi, Jf, Q6, Jw, Jr, J1, J5, Ja, J9, Jb, J6, J7, Jd, J8, RB, Jy, Je, Zp, k1, k3, k4, e0, w3])
            | (simp (disch := first | omega | (simp only [RO]; done) | assumption) only [RS, Xc, Xe, Xb, Xk])
            | (simp (disch := (first | omega | (simp only [RO]; done) | assumption | (simp only [RM, Je]; done) | (simp only [RL, Je]; omega))) only [RD, reduceCtorEq, reduceIte, Je, J1, J3, J2, J6, Zp, k1, k3, k4, e0, w3])
        all_goals exact ⟨s, by omega, s, q, 2 * c + 1, rfl, by omega, rfl, rfl, hc2, by rw [hqi]; omega, take hle, (x1.trans x12).trans x4⟩
      · have fs : ((val zs - val xs).sign ≤ 0) = False := eq_false (by
          have : ¬ (q : Int) * q ≤ n := by exact_mod_cast hle
          rw [vz, hval, Int.sign_eq_one_of_pos (by omega)]; decide)
        repeat' first
          | (with_reducible first | refine Jj (fun K hK => ?_) | refine Js ?_ | refine Q2 ?_ | refine Qc ?_ | refine Qb ?_ | refine Jg ?_ | refine Qf (id := 6) [2] V9 (by kernel_rfl) (by kernel_rfl) ?_ | refine Jq ?_ | refine Xt ?_ | refine Ud ?_)
          | (with_reducible refine Kp (cmp_calls _ _ _ _ _ U.rd ht4 cz hcan) ?_)
          | ((with_reducible refine Jt (cmp_calls _ _ _ _ _ U.rd ht4 cz hcan) ?_); rintro _ _ ⟨rfl, rfl⟩)
          | (with_reducible refine Jv (fun hc => ?_) (fun hc => ?_) <;> (try simp only [RC] at hc) <;> (try (exfalso; first | omega | contradiction)))
          | (with_reducible refine Jc ?_ ?_)
          | (with_reducible refine X3 (fun hc => ?_) (fun hc => ?_) <;> (try simp only [RC] at hc) <;> (try (exfalso; first | omega | contradiction)))
          | (simp only [Q8, Jk, reduceIte, J0])
          | ((with_reducible refine hK _ _ ?_); clear hK)
          | (clear hK; (with_reducible refine hK _ _ ?_); clear hK)
          | (clear hK; clear hK; (with_reducible refine hK _ _ ?_); clear hK)
          | (clear hK; clear hK; clear hK; (with_reducible refine hK _ _ ?_); clear hK)
          | (clear hK; clear hK; clear hK; clear hK; (with_reducible refine hK _ _ ?_); clear hK)
          | (clear hK; clear hK; clear hK; clear hK; clear hK; (with_reducible refine hK _ _ ?_); clear hK)
          | (simp only [Qa, RA, Jo, Jn, Jp, Q7, Q5, ev, ofValue, Ju, J0, J3, J2, J4, reduceCtorEq, reduceIte, Jx, Qm, Qk, Q1, aun, Qj, Jm, Jh, Q0, Jz, Ji, Qi, Jf, Q6, Jw, Jr, J1, J5, Ja, J9, Jb, J6, J7, Jd, J8, RB, Jy, Je, Zp, k1, k3, k4, q4, fs])
          | (simp (disch := first | omega | (simp only [RO]; done) | assumption) only [RS, Xc, Xe, Xb, Xk])
          | (simp (disch := (first | omega | (simp only [RO]; done) | assumption | (simp only [RM, Je]; done) | (simp only [RL, Je]; omega))) only [RD, reduceCtorEq, reduceIte, Je, J1, J3, J2, J6, Zp, k1, k3, k4, q4, fs])
        all_goals refine hK2 _ _ ?_
        all_goals
          repeat' first
            | (with_reducible first | refine Jj (fun K hK => ?_) | refine Js ?_ | refine Q2 ?_ | refine Qc ?_ | refine Qb ?_ | refine Jg ?_ | refine Qf (id := 6) [2] V9 (by kernel_rfl) (by kernel_rfl) ?_ | refine Jq ?_ | refine Xt ?_ | refine Ud ?_)
            | (with_reducible refine Jv (fun hc => ?_) (fun hc => ?_) <;> (try simp only [RC] at hc) <;> (try (exfalso; first | omega | contradiction)))
            | (with_reducible refine Jc ?_ ?_)
            | (with_reducible refine X3 (fun hc => ?_) (fun hc => ?_) <;> (try simp only [RC] at hc) <;> (try (exfalso; first | omega | contradiction)))
            | (simp only [Q8, Jk, reduceIte, J0])
            | ((with_reducible refine hK _ _ ?_); clear hK)
            | (clear hK; (with_reducible refine hK _ _ ?_); clear hK)
            | (clear hK; clear hK; (with_reducible refine hK _ _ ?_); clear hK)
            | (clear hK; clear hK; clear hK; (with_reducible refine hK _ _ ?_); clear hK)
            | (clear hK; clear hK; clear hK; clear hK; (with_reducible refine hK _ _ ?_); clear hK)
            | (clear hK; clear hK; clear hK; clear hK; clear hK; (with_reducible refine hK _ _ ?_); clear hK)
            | (simp only [Qa, RA, Jo, Jn, Jp, Q7, Q5, ev, ofValue, Ju, J0, J3, J2, J4, reduceCtorEq, reduceIte, Jx, Qm, Qk, Q1, aun, Qj, Jm, Jh, Q0, Jz, Ji, Qi, Jf, Q6, Jw, Jr, J1, J5, Ja, J9, Jb, J6, J7, Jd, J8, RB, Jy, Je, Zp, k1, k3, k4, e0, w3])
            | (simp (disch := first | omega | (simp only [RO]; done) | assumption) only [RS, Xc, Xe, Xb, Xk])
            | (simp (disch := (first | omega | (simp only [RO]; done) | assumption | (simp only [RM, Je]; done) | (simp only [RL, Je]; omega))) only [RD, reduceCtorEq, reduceIte, Je, J1, J3, J2, J6, Zp, k1, k3, k4, e0, w3])
        all_goals exact ⟨s, by omega, s, r, 2 * c, rfl, by omega, rfl, rfl, hc1, by omega, skp hle, (x1.trans x12).trans x4⟩
end Go.Proofs.YtlgpemndbfclfaaDoor
namespace Go.Proofs.YtlgpemndbfclfaaDoor
open Go.AL Go.PW Go.PD Go.PR
set_option maxRecDepth 8000
abbrev Pb (x y : Int) : Blk := ⟨[.int .i64 x, .int .i64 y], .own, 23⟩
end Go.Proofs.YtlgpemndbfclfaaDoor
namespace Go.Proofs.YtlgpemndbfclfaaDoor
open Go.AL Go.PW
set_option maxRecDepth 8000
abbrev Bz (x : Int) : AV := BV x (lbA x)
theorem Vm {x : Int} (h : Sm x) (H : Hp) : Bs_ H (lbA x) x := by
  obtain ⟨h1, h2, h3⟩ := lim_spec x.natAbs
  refine ⟨⟨_, ⟨Ints.fz H .u64 _, .inl (.inr ⟨_, _, rfl⟩)⟩, ⟨h1, h3, ?_⟩, h2⟩⟩
  refine Nat.lt_of_not_le fun hl => ?_
  rcases h3 with h3 | h3
  · rw [h3] at hl; simp at hl
  · have hv := val_top h1 h3
    rw [h2] at hv
    have hp : Bs ^ 20 ≤ Bs ^ ((lim x.natAbs).length - 1) := Vv (by omega)
    unfold Sm at h
    omega
theorem Bz_frz {H : Hp} {s : AV} {x : Int} (h : Bs_ H s x) : Frz H (Bz x) (BV x s) := by
  simp only [RF]; exact h.frz
theorem Of_s (v : Int) (hv : -9223372036854775808 ≤ v ∧ v ≤ 9223372036854775807) : Fn 17 [.int .i64 v] (Bz v) :=
  Sure.of (by simp only [RT]) (Of_calls v _ hv) (by rintro _ _ ⟨u, rfl, U, _⟩; exact Bz_frz U)
theorem Mul_s (x y : Int) (bx : Sm x) (by_ : Sm y) : Fn 20 [Bz x, Bz y] (Bz (x * y)) :=
  Sure.of (by simp only [RT]) (Rmul_calls x y _ _ _ (Vm bx _) (Vm by_ _) bx by_) (by rintro _ _ ⟨u, rfl, U, _⟩; exact Bz_frz U)
theorem Add_s (x y : Int) (bx : Sm x) (by_ : Sm y) : Fn 19 [Bz x, Bz y] (Bz (x + y)) :=
  Sure.of (by simp only [RT]) (Radd_calls x y _ _ _ (Vm bx _) (Vm by_ _) bx by_) (by rintro _ _ ⟨u, rfl, U, _⟩; exact Bz_frz U)
theorem Fits_s (x m : Int) (bx : Sm x) (hm : -9223372036854775808 ≤ m ∧ m ≤ 9223372036854775807) : Fn 16 [Bz x, .int .i64 m] (.bool (decide ((x.natAbs : Int) ≤ m))) :=
  Sure.st (by simp only [RT]) trivial fun H => Fits_calls x m _ H (Vm bx _) bx hm
end Go.Proofs.YtlgpemndbfclfaaDoor
namespace Go.Proofs.YtlgpemndbfclfaaDoor
open Go.AL Go.PW Go.PR
set_option maxRecDepth 8000
theorem Sm_two {x : Int} (h : x.natAbs ≤ 2 ^ 1000) : Sm x := by
  unfold Sm; have : (2 : Int) ^ 1000 < Bs ^ 20 := by decide +kernel
  omega
theorem Rooted_s (n : Nat) (bn : Sm (n : Int)) : Fn 18 [Bz (n : Int)] (.int .u64 (rt n : Nat)) :=
  Sure.st (by simp only [RT]) trivial fun H => Rooted_calls n _ H (Vm bn _)
end Go.Proofs.YtlgpemndbfclfaaDoor
namespace Go.Proofs.YtlgpemndbfclfaaDoor
open Go.AL Go.PW Go.PD Go.PR
theorem tf8ZcC : type_of% (Jc @Yj (Jc @Zn (Jc @Z6 (Jc @Vb (Jc @Va (Jc @Qx (@cv53_2))))))) := Jc @Yj (Jc @Zn (Jc @Z6 (Jc @Vb (Jc @Va (Jc @Qx (@cv53_2))))))
set_option maxRecDepth 8000
theorem RHypot_s (x y : Int) (n : Nat) (hx : -2147483648 ≤ x ∧ x ≤ 2147483648) (hy : -2147483648 ≤ y ∧ y ≤ 2147483648) (hn : (n : Int) = x * x + y * y) : Fn 8 [.int .i64 x, .int .i64 y] (.tup [.int .i64 (rt n : Nat), .bool true]) := by
  have s1 := Rx (x := x) (b := 2147483648) (by decide) hx
  have s2 := Rx (x := y) (b := 2147483648) (by decide) hy
  have sm : ∀ {z : Int}, z.natAbs ≤ 18446744073709551616 → Sm z := fun h => Sm_two (Nat.le_trans h (by decide +kernel))
  have hr := rt_32 (n := n) (by omega)
  have w : IntKind.i64.wrap ((rt n : Nat) : Int) = (rt n : Nat) := Q3 (by omega) (by omega)
  have O1 := Of_s x (by omega)
  have O2 := Of_s y (by omega)
  have F1 := Fits_s x 2147483648 (sm (by omega)) (by decide)
  have F2 := Fits_s y 2147483648 (sm (by omega)) (by decide)
  rw [decide_eq_true (by omega)] at F1 F2
  have M1 := Mul_s x x (sm (by omega)) (sm (by omega))
  have M2 := Mul_s y y (sm (by omega)) (sm (by omega))
  have A1 := Add_s (x * x) (y * y) (sm (by omega)) (sm (by omega))
  rw [← hn] at A1
  have R := Rooted_s n (sm (by omega))
  refine Sure.body (by first | (simp only [RT]; done) | simp_all only [RT]) Tryd.func8 rfl (by kernel_rfl) (by kernel_rfl) ?_
  repeat' first
    | (with_reducible first | refine Jj (fun K hK => ?_) | refine Js ?_ | refine Q2 ?_ | refine Qc ?_ | refine Qb ?_ | refine Jg ?_ | refine Jq ?_)
    | (with_reducible refine Qu (O1) (Qo _ _) ?_)
    | (with_reducible refine Qu (O2) (Qo _ _) ?_)
    | (with_reducible refine Qu (F1) (Qo _ _) ?_)
    | (with_reducible refine Qu (F2) (Qo _ _) ?_)
    | (with_reducible refine Qu (M1) (Qo _ _) ?_)
    | (with_reducible refine Qu (M2) (Qo _ _) ?_)
    | (with_reducible refine Qu (A1) (Qo _ _) ?_)
    | (with_reducible refine Qu (R) (Qo _ _) ?_)
    | (with_reducible refine Jv (fun hc => ?_) (fun hc => ?_) <;> (try simp only [RC] at hc) <;> (try (exfalso; first | omega | contradiction)))
    | (with_reducible refine X3 (fun hc => ?_) (fun hc => ?_) <;> (try simp only [RC] at hc) <;> (try (exfalso; first | omega | contradiction)))
    | (simp only [Q8, Jk, reduceIte, J0])
    | ((with_reducible refine hK _ _ ?_); clear hK)
    | (clear hK; (with_reducible refine hK _ _ ?_); clear hK)
    | (clear hK; clear hK; (with_reducible refine hK _ _ ?_); clear hK)
    | (clear hK; clear hK; clear hK; (with_reducible refine hK _ _ ?_); clear hK)
    | (clear hK; clear hK; clear hK; clear hK; (with_reducible refine hK _ _ ?_); clear hK)
    | (clear hK; clear hK; clear hK; clear hK; clear hK; (with_reducible refine hK _ _ ?_); clear hK)
    | (simp only [Qa, RA, Jo, Jn, Jp, Q7, Q5, ev, ofValue, Ju, J0, J3, J2, J4, reduceCtorEq, reduceIte, Jx, Qm, Qk, Q1, aun, Qj, Jm, Jh, Q0, Jz, Ji, Qi, Jf, Q6, Jr, J1, J5, Ja, J9, Jb, J6, J7, Jd, J8, RB, Jy, Je, RZ, tf8ZcC, w])
    | (simp (disch := first | omega | (simp only [RO]; done) | assumption) only [RS, RG, Xc, Xe, Xb, Xk])
    | (simp (disch := (first | omega | (simp only [RO]; done) | assumption | (simp only [RM, Je]; done) | (simp only [RL, Je]; omega))) only [RD, reduceCtorEq, reduceIte, Je, J1, J3, J2, J6, tf8ZcC, w])
  all_goals
    (
     (refine Q9 (rs := [.tmp 4, .tmp 5]) rfl ?_)
     (simp only [Qt, Q4, RA, RZ, J0, J3, J1, reduceCtorEq, reduceIte, tf8ZcC])
     (try simp only [RF]))
end Go.Proofs.YtlgpemndbfclfaaDoor

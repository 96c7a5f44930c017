/- Part 2 of the proof of the law BoundBelow: lemmas on the model's code, on this program's functions, on numbers. No condition. -/
import Derived.Test.YtfalfmfkifemeaaGreatDoorZBoundBelowaa
import Derived.OpenShut
set_option linter.unusedVariables false
set_option linter.unusedSimpArgs false
open Nat renaming reduceEqDiff → J0, reduceLeDiff → J1, reduceMul → J2, reduceAdd → J3, reduceSub → J4, reduceLT → J5
open Int renaming reduceToNat → J6, reducePow → J7, reduceNeg → J8, reduceLT → J9, reduceLE → Ja, reduceEq → Jb
open And renaming intro → Jc
open Go.IntKind renaming bits → Jd
open Go.PW renaming dig_length → Je
namespace Go.Proofs.YtfalfmfkifemeaaGreatDoor
open Go.AL Go.PW Go.PD
theorem Wc : type_of% (Jc @Z8 (Jc @Xd (Jc @Xz (Jc @Ng (Jc @Xx (Jc @Xw (Jc @Xv (Jc @Yd (Jc @Yc (@Rr)))))))))) := Jc @Z8 (Jc @Xd (Jc @Xz (Jc @Ng (Jc @Xx (Jc @Xw (Jc @Xv (Jc @Yd (Jc @Yc (@Rr)))))))))
theorem Vr : type_of% (Jc @Z8 (Jc @Xd (Jc @Xz (Jc @Xx (Jc @Xw (Jc @Xv (Jc @X1 (Jc @Z3 (Jc @Z2 (Jc @Yo (@Vw))))))))))) := Jc @Z8 (Jc @Xd (Jc @Xz (Jc @Xx (Jc @Xw (Jc @Xv (Jc @X1 (Jc @Z3 (Jc @Z2 (Jc @Yo (@Vw))))))))))
abbrev pn39_3BdC : Plan := (.one 0 (.one 2 (.ext 1 (.one 3 (.one 4 (.one 5 (.one 6 (.one 7 .nil))))))))
set_option maxRecDepth 8000
abbrev N9 : ByteArray := ⟨#[98, 111, 117, 110, 100]⟩
def BetwR (n : Nat) (xs : List Int) (k l : Int) (v : AV) (H : Hp) : Prop :=
  if U8 n xs k = false then Err H v N9 30 else if Ww n xs l = false then Err H v N9 31 else v = .nilI
set_option maxHeartbeats 4000000 in
theorem Between_calls (n : Nat) (xs : List Int) (a : AV) (k l : Int) (H : Hp) (ha : Ints H .i64 a xs) (hr : Right n xs) (hk : -9223372036854775808 ≤ k ∧ k ≤ 9223372036854775807) (hl : -9223372036854775808 ≤ l ∧ l ≤ 9223372036854775807) : ACalls Tryz.prog 35 [Ya n a, .int .i64 k, .int .i64 l] H fun r H' => BetwR n xs k l r H' ∧ Ext H H' := by
  have ha1 : a.one = true := ha.rd.one
  have hc : a.cells = [a] := AV.cells_one ha1
  obtain ⟨h8, hlx⟩ := hr.len
  have hd : decide (Right n xs) = true := decide_eq_true hr
  have hw := fun n H0 => wrap_calls N9 n H0
  have hL := fun H0 (x0 : Ext H H0) => Least_calls n xs a k H0 (ha.ext x0) hr hk
  have hM := fun H0 (x0 : Ext H H0) => Most_calls n xs a l H0 (ha.ext x0) hr hl
  cases hb : U8 n xs k <;> rw [hb] at hL
  · skip
    refine Q7 Tryz.func35 rfl (by kernel_rfl) (by kernel_rfl) ?_
    repeat' first
      | (with_reducible first | refine Jj (fun K hK => ?_) | refine Qc ?_ | refine Qj ?_ | refine Jg ?_ | refine Jz ?_)
      | ((with_reducible refine Jq (right_calls _ _ _ _ (ha.push _) hlx) ?_); rintro _ _ ⟨rfl, rfl⟩)
      | ((with_reducible refine Jq (hL _ (Ext.push _ _)) ?_); rintro _ _ ⟨rfl, rfl⟩)
      | ((with_reducible refine Jq (hw _ _) ?_); rintro _ _ ⟨rfl, rfl⟩)
      | (simp only [Q4, Jo, reduceIte, J0])
      | ((with_reducible refine hK _ _ ?_); clear hK)
      | (simp only [Q3, RA, Jn, Jm, Jp, Q2, Q0, ev, ofValue, Jt, J0, J3, J2, J4, reduceCtorEq, reduceIte, Ju, Qb, Qa, Jy, aun, Q9, Jk, Jh, Jx, Jw, Ji, Q8, Jf, Q1, Jr, Js, J1, J5, Ja, J9, Jb, J6, J7, Jd, J8, RB, Jv, Je, Wc, hd])
      | (simp (disch := first | omega | (simp only [RO]; done) | assumption) only [RS, X8, X9, Qu, Qv, Qq])
      | (simp (disch := (first | omega | (simp only [RO]; done) | assumption | (simp only [RM, Je]; done) | (simp only [RL, Je]; omega))) only [RD, reduceCtorEq, reduceIte, Je, J1, J3, J2, J6, Wc, hd])
    all_goals
      (
       (refine Qg (rs := [.tmp 6]) rfl ?_)
       (simp only [Qx, Qd, Fr.put_some, Fr.put_none, Qe, Qf, Qi, J0, reduceIte])
       (try simp (disch := (first | omega | (simp only [RO]; done) | assumption | (simp only [RM, Je]; done) | (simp only [RL, Je]; omega))) only [RD, reduceCtorEq, reduceIte, Je, J1, J3, J2, J6, Wc]))
    all_goals exact ⟨by unfold BetwR; rw [if_pos hb]; exact ⟨_, rfl, Qo (by simp)⟩, (Ext.push _ _).pushed _⟩
  · cases hb2 : Ww n xs l <;> rw [hb2] at hM
    · skip
      refine Q7 Tryz.func35 rfl (by kernel_rfl) (by kernel_rfl) ?_
      repeat' first
        | (with_reducible first | refine Jj (fun K hK => ?_) | refine Qc ?_ | refine Qj ?_ | refine Jg ?_ | refine Jz ?_)
        | ((with_reducible refine Jq (right_calls _ _ _ _ (ha.push _) hlx) ?_); rintro _ _ ⟨rfl, rfl⟩)
        | ((with_reducible refine Jq (hL _ (Ext.push _ _)) ?_); rintro _ _ ⟨rfl, rfl⟩)
        | ((with_reducible refine Jq (hM _ (Ext.push _ _)) ?_); rintro _ _ ⟨rfl, rfl⟩)
        | ((with_reducible refine Jq (hw _ _) ?_); rintro _ _ ⟨rfl, rfl⟩)
        | (simp only [Q4, Jo, reduceIte, J0])
        | ((with_reducible refine hK _ _ ?_); clear hK)
        | (simp only [Q3, RA, Jn, Jm, Jp, Q2, Q0, ev, ofValue, Jt, J0, J3, J2, J4, reduceCtorEq, reduceIte, Ju, Qb, Qa, Jy, aun, Q9, Jk, Jh, Jx, Jw, Ji, Q8, Jf, Q1, Jr, Js, J1, J5, Ja, J9, Jb, J6, J7, Jd, J8, RB, Jv, Je, Wc, hd])
        | (simp (disch := first | omega | (simp only [RO]; done) | assumption) only [RS, X8, X9, Qu, Qv, Qq])
        | (simp (disch := (first | omega | (simp only [RO]; done) | assumption | (simp only [RM, Je]; done) | (simp only [RL, Je]; omega))) only [RD, reduceCtorEq, reduceIte, Je, J1, J3, J2, J6, Wc, hd])
      all_goals
        (
         (refine Qg (rs := [.tmp 6]) rfl ?_)
         (simp only [Qx, Qd, Fr.put_some, Fr.put_none, Qe, Qf, Qi, J0, reduceIte])
         (try simp (disch := (first | omega | (simp only [RO]; done) | assumption | (simp only [RM, Je]; done) | (simp only [RL, Je]; omega))) only [RD, reduceCtorEq, reduceIte, Je, J1, J3, J2, J6, Wc]))
      all_goals exact ⟨by unfold BetwR; rw [if_neg (by rw [hb]; decide), if_pos hb2]; exact ⟨_, rfl, Qo (by simp)⟩, (Ext.push _ _).pushed _⟩
    · skip
      refine Q7 Tryz.func35 rfl (by kernel_rfl) (by kernel_rfl) ?_
      repeat' first
        | (with_reducible first | refine Jj (fun K hK => ?_) | refine Qc ?_ | refine Q6 ?_ | refine Qj ?_ | refine Jg ?_ | refine Jz ?_)
        | ((with_reducible refine Jq (right_calls _ _ _ _ (ha.push _) hlx) ?_); rintro _ _ ⟨rfl, rfl⟩)
        | ((with_reducible refine Jq (hL _ (Ext.push _ _)) ?_); rintro _ _ ⟨rfl, rfl⟩)
        | ((with_reducible refine Jq (hM _ (Ext.push _ _)) ?_); rintro _ _ ⟨rfl, rfl⟩)
        | (simp only [Q4, Jo, reduceIte, J0])
        | ((with_reducible refine hK _ _ ?_); clear hK)
        | (simp only [Q3, RA, Jn, Jm, Jp, Q2, Q0, ev, ofValue, Jt, J0, J3, J2, J4, reduceCtorEq, reduceIte, Ju, Qb, Qa, Jy, aun, Q9, Jk, Jh, Jx, Jw, Ji, Q8, Jf, Q1, Jr, Js, J1, J5, Ja, J9, Jb, J6, J7, Jd, J8, RB, Jv, Je, Wc, hd])
        | (simp (disch := first | omega | (simp only [RO]; done) | assumption) only [RS, X8, X9, Qu, Qv, Qq])
        | (simp (disch := (first | omega | (simp only [RO]; done) | assumption | (simp only [RM, Je]; done) | (simp only [RL, Je]; omega))) only [RD, reduceCtorEq, reduceIte, Je, J1, J3, J2, J6, Wc, hd])
      all_goals
        (
         (refine Qg (rs := [.tmp 6]) rfl ?_)
         (simp only [Qx, Qd, Fr.put_some, Fr.put_none, Qe, Qf, Qi, J0, reduceIte])
         (try simp (disch := (first | omega | (simp only [RO]; done) | assumption | (simp only [RM, Je]; done) | (simp only [RL, Je]; omega))) only [RD, reduceCtorEq, reduceIte, Je, J1, J3, J2, J6, Wc]))
      all_goals exact ⟨by unfold BetwR; rw [if_neg (by rw [hb]; decide), if_neg (by rw [hb2]; decide)], Ext.push _ _⟩
set_option maxHeartbeats 4000000 in
theorem Below_calls (n : Nat) (xs ys : List Int) (a b : AV) (H : Hp) (ha : Ints H .i64 a xs) (hb : Ints H .i64 b ys) (hr : Right n xs) (hs : Right n ys) : ACalls Tryz.prog 39 [Ya n a, Ya n b] H fun r H' => r = .bool (belowB n xs ys) ∧ H = H' := by
  refine ACalls.drop (R := fun r => r = .bool (belowB n xs ys)) ?_
  have ha1 : a.one = true := ha.rd.one
  have hc : a.cells = [a] := AV.cells_one ha1
  have hb1 : b.one = true := hb.rd.one
  have hcb : b.cells = [b] := AV.cells_one hb1
  obtain ⟨h8, hlx⟩ := hr.len
  have hly := hs.len.2
  have hd : decide (Right n xs) = true := decide_eq_true hr
  have hd2 : decide (Right n ys) = true := decide_eq_true hs
  have e30 := J0t hr
  have f30 := J0t hs
  refine Q7 Tryz.func39 rfl (by kernel_rfl) (by kernel_rfl) ?_
  repeat' first
    | (with_reducible first | refine Jj (fun K hK => ?_) | refine Q6 ?_ | refine Jg ?_ | refine Qw (id := 3) [1] pn39_3BdC (by kernel_rfl) (by kernel_rfl) ?_ | refine Jz ?_ | refine Z1 ?_)
    | ((with_reducible refine Jq (right_calls _ _ _ _ ((ha.push _).push _) hlx) ?_); rintro _ _ ⟨rfl, rfl⟩)
    | ((with_reducible refine Jq (right_calls _ _ _ _ ((hb.push _).push _) hly) ?_); rintro _ _ ⟨rfl, rfl⟩)
    | (simp only [Q4, Jo, reduceIte, J0])
    | ((with_reducible refine hK _ _ ?_); clear hK)
    | (simp only [Q3, RA, Jn, Jm, Jp, Q2, Q0, ev, ofValue, Jt, J0, J3, J2, J4, reduceCtorEq, reduceIte, Ju, Qb, Qa, Jy, aun, Q9, Jk, Jh, Jx, Jw, Ji, Q8, Jf, Q1, Jr, Js, J1, J5, Ja, J9, Jb, J6, J7, Jd, J8, RB, Jv, Je, Vr, hd, hd2])
    | (simp (disch := first | omega | (simp only [RO]; done) | assumption) only [RS, X8, X9, Zm, Zn, Yi, Yk, Xs, Xq, Xr, Xp, Qu, Qv, Qq])
    | (simp (disch := (first | omega | (simp only [RO]; done) | assumption | (simp only [RM, Je]; done) | (simp only [RL, Je]; omega))) only [RD, reduceCtorEq, reduceIte, Je, J1, J3, J2, J6, Vr, hd, hd2])
  all_goals
    refine Xi (Rows_calls n ys b _ ((hb.push _).push _) hs) ?_
    rintro _ H1 ⟨p1, vs1, rfl, M1, x1, _⟩
    refine ⟨x1, ?_⟩
    repeat' first
      | (simp only [Q3, RA, Jn, Jm, Jp, Q2, Q0, ev, ofValue, Jt, J0, J3, J2, J4, reduceCtorEq, reduceIte, Ju, Qb, Qa, Jy, aun, Q9, Jk, Jh, Jx, Jw, Ji, Q8, Jf, Q1, Jr, Js, J1, J5, Ja, J9, Jb, J6, J7, Jd, J8, RB, Jv, Je, Vr])
    refine Jq (Rows_calls n xs a _ (((ha.push _).push _).ext x1) hr) ?_
    rintro _ H3 ⟨p3, vs3, rfl, M3, x3, _⟩
    rw [J0q] at M1 M3
    repeat' first
      | ((with_reducible refine Jq (of_calls _ _ (by omega)) ?_); rintro _ _ ⟨rfl, rfl⟩)
      | (simp only [Q3, RA, Jn, Jm, Jp, Q2, Q0, ev, ofValue, Jt, J0, J3, J2, J4, reduceCtorEq, reduceIte, Ju, Qb, Qa, Jy, aun, Q9, Jk, Jh, Jx, Jw, Ji, Q8, Jf, Q1, Jr, Js, J1, J5, Ja, J9, Jb, J6, J7, Jd, J8, RB, Jv, Je, Vr])
    refine Jq (less_calls n p1 p3 vs1 vs3 (ent n ys) (ent n xs) 1 _ (M1.ext x3) M3 h8 (fun i j _ _ => f30 i j) (fun i j _ _ => e30 i j) (by omega)) ?_
    rintro _ H4 ⟨p, vs, rfl, M, x4, hF⟩
    repeat' first
      | (simp only [Q3, RA, Jn, Jm, Jp, Q2, Q0, ev, ofValue, Jt, J0, J3, J2, J4, reduceCtorEq, reduceIte, Ju, Qb, Qa, Jy, aun, Q9, Jk, Jh, Jx, Jw, Ji, Q8, Jf, Q1, Jr, Js, J1, J5, Ja, J9, Jb, J6, J7, Jd, J8, RB, Jv, Je, Vr])
    refine Jq (Positive_calls n p _ vs _ H4 M (St.zeroF n _) h8 (dif_64 f30 e30 (by omega))) ?_
    rintro _ H5 ⟨rfl, O⟩
    repeat' first
      | (with_reducible first | refine Qj ?_)
      | (simp only [Q4, Jo, reduceIte, J0])
      | ((with_reducible refine hK _ _ ?_); clear hK)
      | (simp only [Q3, RA, Jn, Jm, Jp, Q2, Q0, ev, ofValue, Jt, J0, J3, J2, J4, reduceCtorEq, reduceIte, Ju, Qb, Qa, Jy, aun, Q9, Jk, Jh, Jx, Jw, Ji, Q8, Jf, Q1, Jr, Js, J1, J5, Ja, J9, Jb, J6, J7, Jd, J8, RB, Jv, Je, Vr])
    (
     (refine Qg (rs := [.tmp 4]) rfl ?_)
     (simp only [Qx, Qd, Fr.put_some, Fr.put_none, Qe, Qf, Qi, J0, reduceIte])
     (try simp (disch := (first | omega | (simp only [RO]; done) | assumption | (simp only [RM, Je]; done) | (simp only [RL, Je]; omega))) only [RD, reduceCtorEq, reduceIte, Je, J1, J3, J2, J6, Vr]))
    have x5 := Off.toExt x4 O (fun h ⟨i, hi, e⟩ => by rw [e]; exact hF.2 i hi)
    exact ⟨((((Ext.push _ _).pushed _).trans x1).trans x3).trans x5, trivial, rfl⟩
theorem Below_bad (n m : Int) (xs ys : List Int) (a b : AV) (H : Hp) (ha : Ints H .i64 a xs) (hb : Ints H .i64 b ys) (hlx : xs.length < 1000000) (hly : ys.length < 1000000) (h : ¬ (Right n xs ∧ Right m ys ∧ n = m)) : ACalls Tryz.prog 39 [Ya n a, Ya m b] H fun r H' => r = .bool false ∧ H = H' := by
  refine ACalls.drop (R := fun r => r = .bool false) ?_
  have ha1 : a.one = true := ha.rd.one
  have hc : a.cells = [a] := AV.cells_one ha1
  have hb1 : b.one = true := hb.rd.one
  have hcb : b.cells = [b] := AV.cells_one hb1
  by_cases hr : Right n xs
  · by_cases hs : Right m ys
    · have hne : (n = m) = False := eq_false (fun e => h ⟨hr, hs, e⟩)
      have hd : decide (Right n xs) = true := decide_eq_true hr
      have hd2 : decide (Right m ys) = true := decide_eq_true hs
      refine Q7 Tryz.func39 rfl (by kernel_rfl) (by kernel_rfl) ?_
      repeat' first
        | (with_reducible first | refine Jj (fun K hK => ?_) | refine Qj ?_ | refine Jg ?_ | refine Jz ?_)
        | ((with_reducible refine Jq (right_calls _ _ _ _ ((ha.push _).push _) hlx) ?_); rintro _ _ ⟨rfl, rfl⟩)
        | ((with_reducible refine Jq (right_calls _ _ _ _ ((hb.push _).push _) hly) ?_); rintro _ _ ⟨rfl, rfl⟩)
        | (simp only [Q4, Jo, reduceIte, J0])
        | ((with_reducible refine hK _ _ ?_); clear hK)
        | (simp only [Q3, RA, Jn, Jm, Jp, Q2, Q0, ev, ofValue, Jt, J0, J3, J2, J4, reduceCtorEq, reduceIte, Ju, Qb, Qa, Jy, aun, Q9, Jk, Jh, Jx, Jw, Ji, Q8, Jf, Q1, Jr, Js, J1, J5, Ja, J9, Jb, J6, J7, Jd, J8, RB, Jv, Je, Vr, hd, hd2, hne])
        | (simp (disch := first | omega | (simp only [RO]; done) | assumption) only [RS, X8, X9, Zm, Zn, Yi, Yk, Xs, Xq, Xr, Xp, Qu, Qv, Qq])
        | (simp (disch := (first | omega | (simp only [RO]; done) | assumption | (simp only [RM, Je]; done) | (simp only [RL, Je]; omega))) only [RD, reduceCtorEq, reduceIte, Je, J1, J3, J2, J6, Vr, hd, hd2, hne])
      all_goals
        (
         (refine Qg (rs := [.tmp 4]) rfl ?_)
         (simp only [Qx, Qd, Fr.put_some, Fr.put_none, Qe, Qf, Qi, J0, reduceIte])
         (try simp (disch := (first | omega | (simp only [RO]; done) | assumption | (simp only [RM, Je]; done) | (simp only [RL, Je]; omega))) only [RD, reduceCtorEq, reduceIte, Je, J1, J3, J2, J6, Vr]))
      all_goals exact ⟨(Ext.push _ _).pushed _, trivial⟩
    · have hd : decide (Right n xs) = true := decide_eq_true hr
      have hd2 : decide (Right m ys) = false := decide_eq_false hs
      refine Q7 Tryz.func39 rfl (by kernel_rfl) (by kernel_rfl) ?_
      repeat' first
        | (with_reducible first | refine Jj (fun K hK => ?_) | refine Qj ?_ | refine Jg ?_ | refine Jz ?_)
        | ((with_reducible refine Jq (right_calls _ _ _ _ ((ha.push _).push _) hlx) ?_); rintro _ _ ⟨rfl, rfl⟩)
        | ((with_reducible refine Jq (right_calls _ _ _ _ ((hb.push _).push _) hly) ?_); rintro _ _ ⟨rfl, rfl⟩)
        | (simp only [Q4, Jo, reduceIte, J0])
        | ((with_reducible refine hK _ _ ?_); clear hK)
        | (simp only [Q3, RA, Jn, Jm, Jp, Q2, Q0, ev, ofValue, Jt, J0, J3, J2, J4, reduceCtorEq, reduceIte, Ju, Qb, Qa, Jy, aun, Q9, Jk, Jh, Jx, Jw, Ji, Q8, Jf, Q1, Jr, Js, J1, J5, Ja, J9, Jb, J6, J7, Jd, J8, RB, Jv, Je, Vr, hd, hd2])
        | (simp (disch := first | omega | (simp only [RO]; done) | assumption) only [RS, X8, X9, Zm, Zn, Yi, Yk, Xs, Xq, Xr, Xp, Qu, Qv, Qq])
        | (simp (disch := (first | omega | (simp only [RO]; done) | assumption | (simp only [RM, Je]; done) | (simp only [RL, Je]; omega))) only [RD, reduceCtorEq, reduceIte, Je, J1, J3, J2, J6, Vr, hd, hd2])
      all_goals
        (
         (refine Qg (rs := [.tmp 4]) rfl ?_)
         (simp only [Qx, Qd, Fr.put_some, Fr.put_none, Qe, Qf, Qi, J0, reduceIte])
         (try simp (disch := (first | omega | (simp only [RO]; done) | assumption | (simp only [RM, Je]; done) | (simp only [RL, Je]; omega))) only [RD, reduceCtorEq, reduceIte, Je, J1, J3, J2, J6, Vr]))
      all_goals exact ⟨(Ext.push _ _).pushed _, trivial⟩
  · have hd : decide (Right n xs) = false := decide_eq_false hr
    refine Q7 Tryz.func39 rfl (by kernel_rfl) (by kernel_rfl) ?_
    repeat' first
      | (with_reducible first | refine Jj (fun K hK => ?_) | refine Qj ?_ | refine Jg ?_ | refine Jz ?_)
      | ((with_reducible refine Jq (right_calls _ _ _ _ ((ha.push _).push _) hlx) ?_); rintro _ _ ⟨rfl, rfl⟩)
      | (simp only [Q4, Jo, reduceIte, J0])
      | ((with_reducible refine hK _ _ ?_); clear hK)
      | (simp only [Q3, RA, Jn, Jm, Jp, Q2, Q0, ev, ofValue, Jt, J0, J3, J2, J4, reduceCtorEq, reduceIte, Ju, Qb, Qa, Jy, aun, Q9, Jk, Jh, Jx, Jw, Ji, Q8, Jf, Q1, Jr, Js, J1, J5, Ja, J9, Jb, J6, J7, Jd, J8, RB, Jv, Je, Vr, hd])
      | (simp (disch := first | omega | (simp only [RO]; done) | assumption) only [RS, X8, X9, Zm, Zn, Yi, Yk, Xs, Xq, Xr, Xp, Qu, Qv, Qq])
      | (simp (disch := (first | omega | (simp only [RO]; done) | assumption | (simp only [RM, Je]; done) | (simp only [RL, Je]; omega))) only [RD, reduceCtorEq, reduceIte, Je, J1, J3, J2, J6, Vr, hd])
    all_goals
      (
       (refine Qg (rs := [.tmp 4]) rfl ?_)
       (simp only [Qx, Qd, Fr.put_some, Fr.put_none, Qe, Qf, Qi, J0, reduceIte])
       (try simp (disch := (first | omega | (simp only [RO]; done) | assumption | (simp only [RM, Je]; done) | (simp only [RL, Je]; omega))) only [RD, reduceCtorEq, reduceIte, Je, J1, J3, J2, J6, Vr]))
    all_goals exact ⟨(Ext.push _ _).pushed _, trivial⟩
end Go.Proofs.YtfalfmfkifemeaaGreatDoor
namespace Go.Proofs.YtfalfmfkifemeaaGreatDoor
open Go.AL Go.PW Go.PD
set_option maxRecDepth 8000
theorem J1n {pss : List (List (Int × AV))} {i : Nat} (hi : i < pss.length) (l : List (Int × AV)) (x : Nat) : (pss.set i l).getD x [] = if x = i then l else pss.getD x [] := Yj _ _ _ _ _ hi
end Go.Proofs.YtfalfmfkifemeaaGreatDoor
namespace Go.Proofs.YtfalfmfkifemeaaGreatDoor
open Go.AL Go.PW Go.PD
theorem Zw : type_of% (Jc @Z8 (Jc @Xd (Jc @Xz (Jc @Xx (Jc @Xw (Jc @Xv (Jc @X1 (Jc @Xj (Jc @Za (Jc @Z9 (Jc @Vx (@W0)))))))))))) := Jc @Z8 (Jc @Xd (Jc @Xz (Jc @Xx (Jc @Xw (Jc @Xv (Jc @X1 (Jc @Xj (Jc @Za (Jc @Z9 (Jc @Vx (@W0)))))))))))
abbrev pn40_3RgI : Plan := (.one 0 (.one 2 (.ext 1 (.one 3 (.one 4 (.one 5 .nil))))))
abbrev pn40_10RgI : Plan := (.one 0 (.one 1 (.one 2 (.one 3 (.one 4 (.one 5 (.one 6 (.one 7 (.one 8 (.one 9 (.one 10 (.one 11 (.one 12 (.one 13 (.one 14 (.one 15 (.one 16 (.one 17 (.one 18 (.ext 19 (.one 20 (.one 21 .nil))))))))))))))))))))))
set_option maxRecDepth 8000
set_option maxHeartbeats 8000000 in
theorem RBelow_calls (n : Nat) (xs ys : List Int) (a b : AV) (H : Hp) (ha : Ints H .i64 a xs) (hb : Ints H .i64 b ys) (hr : Right n xs) (hs : Right n ys) : ACalls Tryz.prog 40 [Ya n a, Ya n b] H fun r H' => r = .bool (belowB n xs ys) ∧ H = H' := by
  refine ACalls.drop (R := fun r => r = .bool (belowB n xs ys)) ?_
  have ha1 : a.one = true := ha.rd.one
  have hc : a.cells = [a] := AV.cells_one ha1
  have hb1 : b.one = true := hb.rd.one
  have hcb : b.cells = [b] := AV.cells_one hb1
  obtain ⟨h8, hlx⟩ := hr.len
  obtain ⟨_, hly⟩ := hs.len
  have hd : decide (Right n xs) = true := decide_eq_true hr
  have hd2 : decide (Right n ys) = true := decide_eq_true hs
  have e30 := J0t hr
  have f30 := J0t hs
  refine Q7 Tryz.func40 rfl (by kernel_rfl) (by kernel_rfl) ?_
  repeat' first
    | (with_reducible first | refine Jj (fun K hK => ?_) | refine Q6 ?_ | refine Jg ?_ | refine Qw (id := 3) [1] pn40_3RgI (by kernel_rfl) (by kernel_rfl) ?_ | refine Jz ?_ | refine Z1 ?_)
    | ((with_reducible refine Jq (symRight_calls _ _ _ _ ((ha.push _).push _) hlx) ?_); rintro _ _ ⟨rfl, rfl⟩)
    | ((with_reducible refine Jq (symRight_calls _ _ _ _ ((hb.push _).push _) hly) ?_); rintro _ _ ⟨rfl, rfl⟩)
    | (simp only [Q4, Jo, reduceIte, J0])
    | ((with_reducible refine hK _ _ ?_); clear hK)
    | (simp only [Q3, RA, Jn, Jm, Jp, Q2, Q0, ev, ofValue, Jt, J0, J3, J2, J4, reduceCtorEq, reduceIte, Ju, Qb, Qa, Jy, aun, Q9, Jk, Jh, Jx, Jw, Ji, Q8, Jf, Q1, Jr, Js, J1, J5, Ja, J9, Jb, J6, J7, Jd, J8, RB, Jv, Je, Zw, hd, hd2])
    | (simp (disch := first | omega | (simp only [RO]; done) | assumption) only [RS, X8, X9, X6, X7, Ye, Yf, Vm, Vn, Qu, Qv, Qq, X4, X0])
    | (simp (disch := (first | omega | (simp only [RO]; done) | assumption | (simp only [RM, Je]; done) | (simp only [RL, Je]; omega))) only [RD, reduceCtorEq, reduceIte, Je, J1, J3, J2, J6, Zw, hd, hd2])
  all_goals
    refine Xi (Rrows_calls n xs a 1 0 _ ((ha.push _).push _) hr (by omega) (by omega)) ?_
    rintro v H1 ⟨vs, pss, B, S, x0⟩
    refine ⟨x0, ?_⟩
    rw [rv_ent] at S
    have lx0 := x0.len
    simp only [Qm] at lx0
    repeat' first
      | (simp only [Q3, RA, Jn, Jm, Jp, Q2, Q0, ev, ofValue, Jt, J0, J3, J2, J4, reduceCtorEq, reduceIte, Ju, Qb, Qa, Jy, aun, Q9, Jk, Jh, Jx, Jw, Ji, Q8, Jf, Q1, Jr, Js, J1, J5, Ja, J9, Jb, J6, J7, Jd, J8, RB, Jv, Je, Zw])
  all_goals
    refine Jq (Rrows_calls n ys b 1 1 _ (((hb.push _).push _).ext x0) hs (by omega) (by omega)) ?_
    rintro w H2 ⟨ws, qss, C, T, y0⟩
    have g2 : Qt H2 H.length = some (Sb n a) := Qh (Qh (by rw [Qp (by rw [Qm]; omega), Qo rfl]) x0) y0
    have ly0 := y0.len
    have hbel := B.below
    have B2 := B.ext y0
    have x2 : Ext H H2 := (((Ext.push _ _).pushed _).trans x0).trans y0
    repeat' first
      | (with_reducible first | refine Jj (fun K hK => ?_) | refine Qc ?_ | refine Jg ?_)
      | (simp only [Q4, Jo, reduceIte, J0])
      | ((with_reducible refine hK _ _ ?_); clear hK)
      | (simp only [Q3, RA, Jn, Jm, Jp, Q2, Q0, ev, ofValue, Jt, J0, J3, J2, J4, reduceCtorEq, reduceIte, Ju, Qb, Qa, Jy, aun, Q9, Jk, Jh, Jx, Jw, Ji, Q8, Jf, Q1, Jr, Js, J1, J5, Ja, J9, Jb, J6, J7, Jd, J8, RB, Jv, Je, Zw])
  all_goals
    refine X2 (fun m fr' H3 => ∃ (i : Nat) (qss : List (List (Int × AV))), m = n - i ∧ i ≤ n ∧ fr' 2 = .ptr H.length 0 ∧ fr' 5 = v ∧ fr' 6 = w ∧ fr' 7 = .int .i64 (i : Int) ∧ Qt H3 H.length = some (Sb n a) ∧ BRows H3 v vs pss (H.length + 2) ∧ BRows H3 w ws qss H1.length ∧ qss.length = n ∧ (∀ x, x < n → (qss.getD x []).length = n) ∧ (∀ x y, x < n → y < n → ((qss.getD x []).getD y (0, .nilS)).1 = if x < i then dif (ent n ys) (ent n xs) 1 x y else rv 1 1 n ys x y) ∧ Ext H H3) (m := n)
      ⟨0, qss, by omega, by omega, rfl, rfl, rfl, rfl, g2, by simpa only [Qm] using B2, C, T.len, T.wid, fun x y h1 h2 => by rw [T.get x y (by omega) (by omega) h1 h2, Gj, if_neg (by omega)], x2⟩ ?_
    clear T C qss g2 B2 x2 B
    rintro m fr' H3 ⟨i, qss, rfl, hi, k2, k5, k6, k7, g2, B, C, hpl, hw, hv, x2⟩
    have e1 : IntKind.i64.wrap ((i : Int) + 1) = ((i + 1 : Nat) : Int) := by rw [Q5 (by omega) (by omega)]; omega
    by_cases hlt : i < n
    · skip
      refine Jj (fun K hQ => ?_)
      repeat' first
        | (with_reducible first | refine Jj (fun K hK => ?_) | refine Q6 ?_ | refine Jg ?_ | refine Jz ?_)
        | (with_reducible refine X5 (fun hc => ?_) (fun hc => ?_) <;> (try simp only [RC] at hc) <;> (try (exfalso; first | omega | contradiction)))
        | (simp only [Q4, Jo, reduceIte, J0])
        | ((with_reducible refine hK _ _ ?_); clear hK)
        | (simp only [Q3, RA, Jn, Jm, Jp, Q2, Q0, ev, ofValue, Jt, J0, J3, J2, J4, reduceCtorEq, reduceIte, Ju, Qb, Qa, Jy, aun, Q9, Jk, Jh, Jx, Jw, Ji, Q8, Jf, Q1, Jr, Js, J1, J5, Ja, J9, Jb, J6, J7, Jd, J8, RB, Jv, Je, Zw, k2, k5, k6, k7, g2])
        | (simp (disch := (first | omega | (simp only [RO]; done) | assumption | (simp only [RM, Je]; done) | (simp only [RL, Je]; omega))) only [RD, reduceCtorEq, reduceIte, Je, J1, J3, J2, J6, Zw, k2, k5, k6, k7, g2])
      refine hQ _ _ ?_
      clear hQ
      refine Jj (fun K3 hK3 => ?_)
      refine Qc ?_
      repeat' first
        | (with_reducible first | refine Jj (fun K hK => ?_) | refine Qc ?_ | refine Jg ?_)
        | (simp only [Q4, Jo, reduceIte, J0])
        | ((with_reducible refine hK _ _ ?_); clear hK)
        | (simp only [Q3, RA, Jn, Jm, Jp, Q2, Q0, ev, ofValue, Jt, J0, J3, J2, J4, reduceCtorEq, reduceIte, Ju, Qb, Qa, Jy, aun, Q9, Jk, Jh, Jx, Jw, Ji, Q8, Jf, Q1, Jr, Js, J1, J5, Ja, J9, Jb, J6, J7, Jd, J8, RB, Jv, Je, Zw, k2, k5, k6, k7])
      refine X2 (fun m fr' H4 => ∃ (j : Nat) (qss : List (List (Int × AV))), m = n - j ∧ j ≤ n ∧ fr' 2 = .ptr H.length 0 ∧ fr' 5 = v ∧ fr' 6 = w ∧ fr' 7 = .int .i64 (i : Int) ∧ fr' 8 = .int .i64 (j : Int) ∧ Qt H4 H.length = some (Sb n a) ∧ BRows H4 v vs pss (H.length + 2) ∧ BRows H4 w ws qss H1.length ∧ qss.length = n ∧ (∀ x, x < n → (qss.getD x []).length = n) ∧ (∀ x y, x < n → y < n → ((qss.getD x []).getD y (0, .nilS)).1 = if x < i ∨ (x = i ∧ y < j) then dif (ent n ys) (ent n xs) 1 x y else rv 1 1 n ys x y) ∧ Ext H H4) (m := n)
        ⟨0, qss, by omega, by omega, k2, k5, k6, k7, rfl, g2, B, C, hpl, hw, fun x y h1 h2 => by rw [hv x y h1 h2]; simp only [show (x < i ∨ (x = i ∧ y < 0)) ↔ x < i by omega], x2⟩ ?_
      clear k2 k5 k6 k7 g2 B C hpl hw hv x2 qss
      rintro m fr' H4 ⟨j, qss, rfl, hj, k2, k5, k6, k7, k8, g2, B, C, hpl, hw, hv, x2⟩
      have e2 : IntKind.i64.wrap ((j : Int) + 1) = ((j + 1 : Nat) : Int) := by rw [Q5 (by omega) (by omega)]; omega
      by_cases hjt : j < n
      · cases B with
        | no h1 h2 h3 => have := S.len; subst h3; simp at this; omega
        | yes p hvv M hp hvl hpos =>
          cases C with
          | no h1 h2 h3 => subst h3; simp at hpl; omega
          | yes q hww N hq hwl hqos =>
            have hil : i < pss.length := by rw [S.len]; exact hlt
            have hjl : j < (pss.getD i []).length := by rw [S.wid i hlt]; exact hjt
            have hil2 : i < qss.length := by omega
            have hjl2 : j < (qss.getD i []).length := by rw [hw i hlt]; exact hjt
            have a0 := BMat.idx0 (p := p) (n := pss.length) (k := .i64) (j := (i : Int)) (by omega) (by omega)
            have a1 := M.at0 hil
            have a2 := M.idx hil (k := .i64) (j := (j : Int)) (by omega) (by omega)
            have a3 := M.get hil (j := j) hjl
            have Sa := M.big i j hil hjl
            have b0 := BMat.idx0 (p := q) (n := qss.length) (k := .i64) (j := (i : Int)) (by omega) (by omega)
            have b1 := N.at0 hil2
            have b2 := N.idx hil2 (k := .i64) (j := (j : Int)) (by omega) (by omega)
            have b3 := N.get hil2 (j := j) hjl2
            have Sb := N.big i j hil2 hjl2
            rw [Int.toNat_natCast] at a0 a2 b0 b2
            have he := e30 i j
            have hf := f30 i j
            obtain ⟨x', hx'⟩ : ∃ x', x' = rv 1 1 n ys i j := ⟨_, rfl⟩
            have hz : x' - ent n xs i j = dif (ent n ys) (ent n xs) 1 i j := by rw [hx']; unfold rv dif; split <;> omega
            have hxb : x'.natAbs ≤ 1073741825 := by rw [hx']; unfold rv; split <;> omega
            rw [S.get i j (by omega) (by omega) hlt hjt, Gj] at a3 Sa
            rw [hv i j hlt hjt, if_neg (by omega), ← hx'] at b3 Sb
            obtain ⟨s, hs'⟩ : ∃ s, s = ((pss.getD i []).getD j (0, .nilS)).2 := ⟨_, rfl⟩
            obtain ⟨t, ht'⟩ : ∃ t, t = ((qss.getD i []).getD j (0, .nilS)).2 := ⟨_, rfl⟩
            rw [← hs'] at a3 Sa
            rw [← ht'] at b3 Sb
            have hbel2 : p < H1.length ∧ ∀ i, i < pss.length → (vs.getD i .nilS).hd < H1.length := by
              rw [hvv] at hbel
              rcases hbel with e | e
              · cases e
              · exact e
            have hri := hwl i hil2
            have hq' := N.off i hil2
            repeat' first
              | (with_reducible first | refine Jj (fun K hK => ?_) | refine Qc ?_ | refine Q6 ?_ | refine Jg ?_ | refine Qw (id := 10) [19] pn40_10RgI (by kernel_rfl) (by kernel_rfl) ?_ | refine Jz ?_ | refine Z1 ?_)
              | (with_reducible refine X5 (fun hc => ?_) (fun hc => ?_) <;> (try simp only [RC] at hc) <;> (try (exfalso; first | omega | contradiction)))
              | (simp only [Q4, Jo, reduceIte, J0])
              | ((with_reducible refine hK _ _ ?_); clear hK)
              | (simp only [Q3, RA, Jn, Jm, Jp, Q2, Q0, ev, ofValue, Jt, J0, J3, J2, J4, reduceCtorEq, reduceIte, Ju, Qb, Qa, Jy, aun, Q9, Jk, Jh, Jx, Jw, Ji, Q8, Jf, Q1, Jr, Js, J1, J5, Ja, J9, Jb, J6, J7, Jd, J8, RB, Jv, Je, Zw, k2, k5, k6, k7, k8, hvv, hww, g2, a0, a1, a2, a3, b0, b1, b2, b3])
              | (simp (disch := (first | omega | (simp only [RO]; done) | assumption | (simp only [RM, Je]; done) | (simp only [RL, Je]; omega))) only [RD, reduceCtorEq, reduceIte, Je, J1, J3, J2, J6, Zw, k2, k5, k6, k7, k8, hvv, hww, g2, a0, a1, a2, a3, b0, b1, b2, b3])
            all_goals
              refine Xi (Rsub_calls x' (ent n xs i j) t s _ Sb Sa (Sm.int (by omega)) (Sm.int (by omega))) ?_
              rintro _ H5 ⟨u, rfl, U, y5⟩
              refine ⟨y5, ?_⟩
              rw [hz] at U
              have N5 := N.ext y5
              have b4 := N5.put (x := dif (ent n ys) (ent n xs) 1 i j) hil2 hjl2 U.one
              have hg5 := (N5.row i hil2).2
              repeat' first
                | (with_reducible first | refine Jg ?_)
                | (simp only [Q4, Jo, reduceIte, J0])
                | ((with_reducible refine hK _ _ ?_); clear hK)
                | (simp only [Q3, RA, Jn, Jm, Jp, Q2, Q0, ev, ofValue, Jt, J0, J3, J2, J4, reduceCtorEq, reduceIte, Ju, Qb, Qa, Jy, aun, Q9, Jk, Jh, Jx, Jw, Ji, Q8, Jf, Q1, Jr, Js, J1, J5, Ja, J9, Jb, J6, J7, Jd, J8, RB, Jv, Je, Zw, k2, k5, k6, k7, k8, b2, hz, b4, e2])
            all_goals
              refine ⟨_, by omega, j + 1, _, rfl, by omega, rfl, by rw [Qk (Qr hg5), if_neg (by omega)]; exact Qh g2 y5, .yes p hvv ((M.ext y5).other hg5 (Na _) _ (by omega) (fun x hx => by have := hbel2.2 x hx; omega)) hp hvl hpos, .yes q (by rw [List.length_set]; exact hww) (N5.set hil2 hjl2 U) hq (fun x hx => hwl x (by rwa [List.length_set] at hx)) (by rw [List.length_set]; exact hqos), by rw [List.length_set]; exact hpl, fun x hx => ?_, fun x y hx hy => ?_, (x2.trans y5).set (by omega) _⟩
              · rw [J1n hil2]
                split
                · rw [List.length_set]; exact hw i hlt
                · exact hw x hx
              · rw [J1n hil2]
                by_cases e : x = i
                · subst e
                  rw [if_pos rfl, Yj _ _ _ _ _ hjl2]
                  by_cases e2 : y = j
                  · subst e2; rw [if_pos rfl, if_pos (.inr ⟨rfl, by omega⟩)]
                  · rw [if_neg e2, hv x y hx hy]
                    exact ite_congr (propext (by omega)) (fun _ => rfl) (fun _ => rfl)
                · rw [if_neg e, hv x y hx hy]
                  have : (x < i ∨ x = i ∧ y < j) ↔ (x < i ∨ x = i ∧ y < j + 1) := by omega
                  simp only [this]
      · obtain rfl : j = n := by omega
        repeat' first
          | (with_reducible first | refine Jj (fun K hK => ?_) | refine Qz ?_ | refine Jg ?_ | refine Jz ?_)
          | (with_reducible refine X5 (fun hc => ?_) (fun hc => ?_) <;> (try simp only [RC] at hc) <;> (try (exfalso; first | omega | contradiction)))
          | (simp only [Q4, Jo, reduceIte, J0])
          | ((with_reducible refine hK _ _ ?_); clear hK)
          | (simp only [Q3, RA, Jn, Jm, Jp, Q2, Q0, ev, ofValue, Jt, J0, J3, J2, J4, reduceCtorEq, reduceIte, Ju, Qb, Qa, Jy, aun, Q9, Jk, Jh, Jx, Jw, Ji, Q8, Jf, Q1, Jr, Js, J1, J5, Ja, J9, Jb, J6, J7, Jd, J8, RB, Jv, Je, Zw, k2, k5, k6, k7, k8, g2])
          | (simp (disch := (first | omega | (simp only [RO]; done) | assumption | (simp only [RM, Je]; done) | (simp only [RL, Je]; omega))) only [RD, reduceCtorEq, reduceIte, Je, J1, J3, J2, J6, Zw, k2, k5, k6, k7, k8, g2])
        refine hK3 _ _ ?_
        repeat' first
          | (with_reducible first | refine Jg ?_)
          | (simp only [Q4, Jo, reduceIte, J0])
          | (simp only [Q3, RA, Jn, Jm, Jp, Q2, Q0, ev, ofValue, Jt, J0, J3, J2, J4, reduceCtorEq, reduceIte, Ju, Qb, Qa, Jy, aun, Q9, Jk, Jh, Jx, Jw, Ji, Q8, Jf, Q1, Jr, Js, J1, J5, Ja, J9, Jb, J6, J7, Jd, J8, RB, Jv, Je, Zw, k2, k5, k6, k7, e1])
        exact ⟨_, by omega, i + 1, qss, rfl, by omega, rfl, g2, B, C, hpl, hw, fun x y h1 h2 => by rw [hv x y h1 h2]; simp only [show (x < i ∨ (x = i ∧ y < j)) ↔ x < i + 1 by omega], x2⟩
    · obtain rfl : i = n := by omega
      repeat' first
        | (with_reducible first | refine Jj (fun K hK => ?_) | refine Qz ?_ | refine Jg ?_ | refine Jz ?_)
        | (with_reducible refine X5 (fun hc => ?_) (fun hc => ?_) <;> (try simp only [RC] at hc) <;> (try (exfalso; first | omega | contradiction)))
        | (simp only [Q4, Jo, reduceIte, J0])
        | ((with_reducible refine hK _ _ ?_); clear hK)
        | (clear hK; (with_reducible refine hK _ _ ?_); clear hK)
        | (simp only [Q3, RA, Jn, Jm, Jp, Q2, Q0, ev, ofValue, Jt, J0, J3, J2, J4, reduceCtorEq, reduceIte, Ju, Qb, Qa, Jy, aun, Q9, Jk, Jh, Jx, Jw, Ji, Q8, Jf, Q1, Jr, Js, J1, J5, Ja, J9, Jb, J6, J7, Jd, J8, RB, Jv, Je, Zw, k2, k5, k6, k7, g2])
        | (simp (disch := (first | omega | (simp only [RO]; done) | assumption | (simp only [RM, Je]; done) | (simp only [RL, Je]; omega))) only [RD, reduceCtorEq, reduceIte, Je, J1, J3, J2, J6, Zw, k2, k5, k6, k7, g2])
      have S' : StB i 0 (dif (ent i ys) (ent i xs) 1) qss := ⟨hpl, hw, fun x y _ _ hx hy => by rw [hv x y hx hy, Gj, if_pos hx]⟩
      refine Jq (Rdefinite_calls i _ w ws qss _ _ C S' h8 (dif_64 f30 e30 (by omega))) ?_
      rintro _ H5 ⟨rfl, O⟩
      have x3 := C.toExt hpl (H0 := H) (by omega) x2 O
      repeat' first
        | (with_reducible first | refine Qj ?_)
        | (simp only [Q4, Jo, reduceIte, J0])
        | ((with_reducible refine hK _ _ ?_); clear hK)
        | (simp only [Q3, RA, Jn, Jm, Jp, Q2, Q0, ev, ofValue, Jt, J0, J3, J2, J4, reduceCtorEq, reduceIte, Ju, Qb, Qa, Jy, aun, Q9, Jk, Jh, Jx, Jw, Ji, Q8, Jf, Q1, Jr, Js, J1, J5, Ja, J9, Jb, J6, J7, Jd, J8, RB, Jv, Je, Zw])
      (
       (refine Qg (rs := [.tmp 4]) rfl ?_)
       (simp only [Qx, Qd, Fr.put_some, Fr.put_none, Qe, Qf, Qi, J0, reduceIte])
       (try simp (disch := (first | omega | (simp only [RO]; done) | assumption | (simp only [RM, Je]; done) | (simp only [RL, Je]; omega))) only [RD, reduceCtorEq, reduceIte, Je, J1, J3, J2, J6, Zw]))
      exact ⟨x3, trivial, rfl⟩
theorem RBelow_bad (n m : Int) (xs ys : List Int) (a b : AV) (H : Hp) (ha : Ints H .i64 a xs) (hb : Ints H .i64 b ys) (hlx : xs.length < 1000000) (hly : ys.length < 1000000) (h : ¬ (Right n xs ∧ Right m ys ∧ n = m)) : ACalls Tryz.prog 40 [Ya n a, Ya m b] H fun r H' => r = .bool false ∧ H = H' := by
  refine ACalls.drop (R := fun r => r = .bool false) ?_
  have ha1 : a.one = true := ha.rd.one
  have hc : a.cells = [a] := AV.cells_one ha1
  have hb1 : b.one = true := hb.rd.one
  have hcb : b.cells = [b] := AV.cells_one hb1
  by_cases hr : Right n xs
  · by_cases hs : Right m ys
    · have hne : (n = m) = False := eq_false (fun e => h ⟨hr, hs, e⟩)
      have hd : decide (Right n xs) = true := decide_eq_true hr
      have hd2 : decide (Right m ys) = true := decide_eq_true hs
      refine Q7 Tryz.func40 rfl (by kernel_rfl) (by kernel_rfl) ?_
      repeat' first
        | (with_reducible first | refine Jj (fun K hK => ?_) | refine Qj ?_ | refine Jg ?_ | refine Jz ?_)
        | ((with_reducible refine Jq (symRight_calls _ _ _ _ ((ha.push _).push _) hlx) ?_); rintro _ _ ⟨rfl, rfl⟩)
        | ((with_reducible refine Jq (symRight_calls _ _ _ _ ((hb.push _).push _) hly) ?_); rintro _ _ ⟨rfl, rfl⟩)
        | (simp only [Q4, Jo, reduceIte, J0])
        | ((with_reducible refine hK _ _ ?_); clear hK)
        | (simp only [Q3, RA, Jn, Jm, Jp, Q2, Q0, ev, ofValue, Jt, J0, J3, J2, J4, reduceCtorEq, reduceIte, Ju, Qb, Qa, Jy, aun, Q9, Jk, Jh, Jx, Jw, Ji, Q8, Jf, Q1, Jr, Js, J1, J5, Ja, J9, Jb, J6, J7, Jd, J8, RB, Jv, Je, Zw, hd, hd2, hne])
        | (simp (disch := first | omega | (simp only [RO]; done) | assumption) only [RS, X8, X9, X6, X7, Ye, Yf, Vm, Vn, Qu, Qv, Qq, X4, X0])
        | (simp (disch := (first | omega | (simp only [RO]; done) | assumption | (simp only [RM, Je]; done) | (simp only [RL, Je]; omega))) only [RD, reduceCtorEq, reduceIte, Je, J1, J3, J2, J6, Zw, hd, hd2, hne])
      all_goals
        (
         (refine Qg (rs := [.tmp 4]) rfl ?_)
         (simp only [Qx, Qd, Fr.put_some, Fr.put_none, Qe, Qf, Qi, J0, reduceIte])
         (try simp (disch := (first | omega | (simp only [RO]; done) | assumption | (simp only [RM, Je]; done) | (simp only [RL, Je]; omega))) only [RD, reduceCtorEq, reduceIte, Je, J1, J3, J2, J6, Zw]))
      all_goals exact ⟨(Ext.push _ _).pushed _, trivial⟩
    · have hd : decide (Right n xs) = true := decide_eq_true hr
      have hd2 : decide (Right m ys) = false := decide_eq_false hs
      refine Q7 Tryz.func40 rfl (by kernel_rfl) (by kernel_rfl) ?_
      repeat' first
        | (with_reducible first | refine Jj (fun K hK => ?_) | refine Qj ?_ | refine Jg ?_ | refine Jz ?_)
        | ((with_reducible refine Jq (symRight_calls _ _ _ _ ((ha.push _).push _) hlx) ?_); rintro _ _ ⟨rfl, rfl⟩)
        | ((with_reducible refine Jq (symRight_calls _ _ _ _ ((hb.push _).push _) hly) ?_); rintro _ _ ⟨rfl, rfl⟩)
        | (simp only [Q4, Jo, reduceIte, J0])
        | ((with_reducible refine hK _ _ ?_); clear hK)
        | (simp only [Q3, RA, Jn, Jm, Jp, Q2, Q0, ev, ofValue, Jt, J0, J3, J2, J4, reduceCtorEq, reduceIte, Ju, Qb, Qa, Jy, aun, Q9, Jk, Jh, Jx, Jw, Ji, Q8, Jf, Q1, Jr, Js, J1, J5, Ja, J9, Jb, J6, J7, Jd, J8, RB, Jv, Je, Zw, hd, hd2])
        | (simp (disch := first | omega | (simp only [RO]; done) | assumption) only [RS, X8, X9, X6, X7, Ye, Yf, Vm, Vn, Qu, Qv, Qq, X4, X0])
        | (simp (disch := (first | omega | (simp only [RO]; done) | assumption | (simp only [RM, Je]; done) | (simp only [RL, Je]; omega))) only [RD, reduceCtorEq, reduceIte, Je, J1, J3, J2, J6, Zw, hd, hd2])
      all_goals
        (
         (refine Qg (rs := [.tmp 4]) rfl ?_)
         (simp only [Qx, Qd, Fr.put_some, Fr.put_none, Qe, Qf, Qi, J0, reduceIte])
         (try simp (disch := (first | omega | (simp only [RO]; done) | assumption | (simp only [RM, Je]; done) | (simp only [RL, Je]; omega))) only [RD, reduceCtorEq, reduceIte, Je, J1, J3, J2, J6, Zw]))
      all_goals exact ⟨(Ext.push _ _).pushed _, trivial⟩
  · have hd : decide (Right n xs) = false := decide_eq_false hr
    refine Q7 Tryz.func40 rfl (by kernel_rfl) (by kernel_rfl) ?_
    repeat' first
      | (with_reducible first | refine Jj (fun K hK => ?_) | refine Qj ?_ | refine Jg ?_ | refine Jz ?_)
      | ((with_reducible refine Jq (symRight_calls _ _ _ _ ((ha.push _).push _) hlx) ?_); rintro _ _ ⟨rfl, rfl⟩)
      | (simp only [Q4, Jo, reduceIte, J0])
      | ((with_reducible refine hK _ _ ?_); clear hK)
      | (simp only [Q3, RA, Jn, Jm, Jp, Q2, Q0, ev, ofValue, Jt, J0, J3, J2, J4, reduceCtorEq, reduceIte, Ju, Qb, Qa, Jy, aun, Q9, Jk, Jh, Jx, Jw, Ji, Q8, Jf, Q1, Jr, Js, J1, J5, Ja, J9, Jb, J6, J7, Jd, J8, RB, Jv, Je, Zw, hd])
      | (simp (disch := first | omega | (simp only [RO]; done) | assumption) only [RS, X8, X9, X6, X7, Ye, Yf, Vm, Vn, Qu, Qv, Qq, X4, X0])
      | (simp (disch := (first | omega | (simp only [RO]; done) | assumption | (simp only [RM, Je]; done) | (simp only [RL, Je]; omega))) only [RD, reduceCtorEq, reduceIte, Je, J1, J3, J2, J6, Zw, hd])
    all_goals
      (
       (refine Qg (rs := [.tmp 4]) rfl ?_)
       (simp only [Qx, Qd, Fr.put_some, Fr.put_none, Qe, Qf, Qi, J0, reduceIte])
       (try simp (disch := (first | omega | (simp only [RO]; done) | assumption | (simp only [RM, Je]; done) | (simp only [RL, Je]; omega))) only [RD, reduceCtorEq, reduceIte, Je, J1, J3, J2, J6, Zw]))
    all_goals exact ⟨(Ext.push _ _).pushed _, trivial⟩
end Go.Proofs.YtfalfmfkifemeaaGreatDoor
namespace Go.Proofs.YtfalfmfkifemeaaGreatDoor
open Go.AL
theorem wf_u8 {n : Int} (h : (Lit.int .u8 n).wf = true) : 0 ≤ n ∧ n ≤ 255 := by
  simp only [Lit.wf, Bool.and_eq_true, decide_eq_true_eq] at h
  have h1 : IntKind.u8.min = 0 := by decide +kernel
  have h2 : IntKind.u8.max = 255 := by decide +kernel
  omega
theorem wf_u16 {n : Int} (h : (Lit.int .u16 n).wf = true) : 0 ≤ n ∧ n ≤ 65535 := by
  simp only [Lit.wf, Bool.and_eq_true, decide_eq_true_eq] at h
  have h1 : IntKind.u16.min = 0 := by decide +kernel
  have h2 : IntKind.u16.max = 65535 := by decide +kernel
  omega
theorem wf_i64 {n : Int} (h : (Lit.int .i64 n).wf = true) : -9223372036854775808 ≤ n ∧ n ≤ 9223372036854775807 := by
  simp only [Lit.wf, Bool.and_eq_true, decide_eq_true_eq] at h
  have h1 : IntKind.i64.min = -9223372036854775808 := by decide +kernel
  have h2 : IntKind.i64.max = 9223372036854775807 := by decide +kernel
  omega
theorem noted_first (H : Hp) (x : Ext [⟨[], .glob 0 165 3 35, 0⟩] H) : Noted H := Noted.ext ⟨0, 0, rfl⟩ x
end Go.Proofs.YtfalfmfkifemeaaGreatDoor
namespace Go.Proofs.YtfalfmfkifemeaaGreatDoor
open Go.AL Go.PW Go.PD
theorem tf34LnA : type_of% (Jc @Xd (Jc @Ng (Jc @Yd (Jc @Yc (@tyb87))))) := Jc @Xd (Jc @Ng (Jc @Yd (Jc @Yc (@tyb87))))
theorem R7 : type_of% (Jc @Z8 (Jc @Xd (Jc @Xz (Jc @Xx (Jc @Xw (Jc @Xv (Jc @Yd (@Yc)))))))) := Jc @Z8 (Jc @Xd (Jc @Xz (Jc @Xx (Jc @Xw (Jc @Xv (Jc @Yd (@Yc)))))))
set_option maxRecDepth 8000
theorem Between_ok (n : Nat) (xs : List Int) (a : AV) (k l : Int) (H : Hp) (ha : Ints H .i64 a xs) (hr : Right n xs) (hk : -9223372036854775808 ≤ k ∧ k ≤ 9223372036854775807) (hl : -9223372036854775808 ≤ l ∧ l ≤ 9223372036854775807) (h1 : U8 n xs k = true) (h2 : Ww n xs l = true) : ACalls Tryz.prog 35 [Ya n a, .int .i64 k, .int .i64 l] H fun r H' => r = .nilI ∧ H = H' := by
  refine ACalls.drop (R := fun r => r = .nilI) ?_
  refine (Between_calls n xs a k l H ha hr hk hl).mono fun r H' ⟨h, x⟩ => ?_
  unfold BetwR at h
  rw [if_neg (by rw [h1]; decide), if_neg (by rw [h2]; decide)] at h
  subst h
  exact ⟨x, trivial, rfl⟩
set_option maxHeartbeats 2000000 in
theorem says9_err (n m : Int) (v : AV) (H : Hp) (hv : Err H v N9 m) (hN : Noted H) (hn : 0 < n ∧ n < 256) (hm : 0 < m ∧ m < 256) : ACalls Tryz.prog 34 [v, .int .i64 n] H fun r H' => r = .bool (decide (m = n)) ∧ H = H' := by
  refine ACalls.drop (R := fun r => r = .bool (decide (m = n))) ?_
  have f0 : (n = 0) = False := eq_false (by omega)
  have hC := fun H0 (x0 : Ext H H0) => code_calls N9 m v H0 (hv.ext x0) (hN.ext x0)
  refine Q7 Tryz.func34 rfl (by kernel_rfl) (by kernel_rfl) ?_
  repeat' first
    | (with_reducible first | refine Jj (fun K hK => ?_) | refine Q6 ?_ | refine Qj ?_ | refine Jg ?_ | refine Jz ?_)
    | ((with_reducible refine Jq (ops_calls N9 m v _ hv) ?_); rintro _ _ ⟨rfl, rfl⟩)
    | ((with_reducible refine Jq (hC _ ((Ext.push _ _).pushed _)) ?_); rintro _ _ ⟨rfl, rfl⟩)
    | (with_reducible refine Qn (fun hc => ?_) (fun hc => ?_) <;> (try simp only [RC] at hc) <;> (try (exfalso; first | omega | contradiction)))
    | (simp only [Q4, Jo, reduceIte, J0])
    | ((with_reducible refine hK _ _ ?_); clear hK)
    | (simp only [Q3, RA, Jn, Jm, Jp, Q2, Q0, ev, ofValue, Jt, J0, J3, J2, J4, reduceCtorEq, reduceIte, Ju, Qb, Qa, Jy, aun, Q9, Jk, Jh, Jx, Jw, Ji, Q8, Jf, Q1, Jr, Js, J1, J5, Ja, J9, Jb, J6, J7, Jd, J8, RB, Jv, Je, tf34LnA, f0])
    | (simp (disch := first | omega | (simp only [RO]; done) | assumption) only [RS, six87, gix87])
    | (simp (disch := (first | omega | (simp only [RO]; done) | assumption | (simp only [RM, Je]; done) | (simp only [RL, Je]; omega))) only [RD, reduceCtorEq, reduceIte, Je, J1, J3, J2, J6, tf34LnA, f0])
  all_goals
    (
     (refine Qg (rs := [.tmp 4]) rfl ?_)
     (simp only [Qx, Qd, Fr.put_some, Fr.put_none, Qe, Qf, Qi, J0, reduceIte])
     (try simp (disch := (first | omega | (simp only [RO]; done) | assumption | (simp only [RM, Je]; done) | (simp only [RL, Je]; omega))) only [RD, reduceCtorEq, reduceIte, Je, J1, J3, J2, J6, tf34LnA]))
  all_goals
    refine ⟨(Ext.push _ _).pushed _, trivial, ?_⟩
    first | rw [decide_eq_true (show m = n by assumption)] | rw [decide_eq_false (show ¬ m = n by assumption)]
theorem right_one (x : Int) (h : Fit x) : Right (1 : Nat) [x] := ⟨⟨by omega, by omega, by rfl⟩, fun y hy => by rw [List.mem_singleton.1 hy]; exact h⟩
theorem ints_one1 (H : Hp) (x : Int) : Ints (H ++ [Ib [x]]) .i64 (.sl H.length 0 1 1) [x] := Ints.lit H (by decide) rfl
set_option maxHeartbeats 8000000 in
theorem known9_calls (H : Hp) (hN : Noted H) : ACalls Tryz.prog 29 [] H fun r H' => r = .bool true ∧ H = H' := by
  refine ACalls.drop (R := fun r => r = .bool true) ?_
  obtain ⟨a, ha⟩ : ∃ a : AV, a = .sl H.length 0 1 1 := ⟨_, rfl⟩
  have I : Ints (H ++ [Ib [5]]) .i64 a [5] := by rw [ha]; exact ints_one1 H 5
  have R5 := right_one 5 (by unfold Fit; omega)
  have R4 := right_one 4 (by unfold Fit; omega)
  have d1 : U8 1 [5] 4 = true := by decide +kernel
  have d2 : U8 1 [5] 5 = false := by decide +kernel
  have d3 : Ww 1 [5] 6 = true := by decide +kernel
  have d4 : Ww 1 [5] 5 = false := by decide +kernel
  have d5 : belowB 1 [5] [5] = true := by decide +kernel
  have d6 : belowB 1 [5] [4] = false := by decide +kernel
  have L4 := fun H0 (x0 : Ext (H ++ [Ib [5]]) H0) => Least_calls 1 [5] a 4 H0 (I.ext x0) R5 (by omega)
  have L5 := fun H0 (x0 : Ext (H ++ [Ib [5]]) H0) => Least_calls 1 [5] a 5 H0 (I.ext x0) R5 (by omega)
  have M6 := fun H0 (x0 : Ext (H ++ [Ib [5]]) H0) => Most_calls 1 [5] a 6 H0 (I.ext x0) R5 (by omega)
  have M5 := fun H0 (x0 : Ext (H ++ [Ib [5]]) H0) => Most_calls 1 [5] a 5 H0 (I.ext x0) R5 (by omega)
  have B46 := fun H0 (x0 : Ext (H ++ [Ib [5]]) H0) => Between_ok 1 [5] a 4 6 H0 (I.ext x0) R5 (by omega) (by omega) d1 d3
  rw [d1] at L4
  rw [d2] at L5
  rw [d3] at M6
  rw [d4] at M5
  simp only [Int.cast_ofNat_Int] at L4 L5 M6 M5 B46
  have ha1 : a.one = true := by rw [ha]; rfl
  have hc : a.cells = [a] := AV.cells_one ha1
  refine Q7 Tryz.func29 rfl (by kernel_rfl) (by kernel_rfl) ?_
  repeat' first
    | (with_reducible first | refine Jj (fun K hK => ?_) | refine Jg ?_)
    | ((with_reducible refine Jq (L4 _ (Ext.push _ _)) ?_); rintro _ _ ⟨rfl, rfl⟩)
    | ((with_reducible refine Jq (L5 _ (Ext.push _ _)) ?_); rintro _ _ ⟨rfl, rfl⟩)
    | ((with_reducible refine Jq (M6 _ (Ext.push _ _)) ?_); rintro _ _ ⟨rfl, rfl⟩)
    | ((with_reducible refine Jq (M5 _ (Ext.push _ _)) ?_); rintro _ _ ⟨rfl, rfl⟩)
    | ((with_reducible refine Jq (B46 _ (Ext.push _ _)) ?_); rintro _ _ ⟨rfl, rfl⟩)
    | (simp only [Q4, Jo, reduceIte, J0])
    | ((with_reducible refine hK _ _ ?_); clear hK)
    | (simp only [Q3, RA, Jn, Jm, Jp, Q2, Q0, ev, ofValue, Jt, J0, J3, J2, J4, reduceCtorEq, reduceIte, Ju, Qb, Qa, Jy, aun, Q9, Jk, Jh, Jx, Jw, Ji, Q8, Jf, Q1, Jr, Js, J1, J5, Ja, J9, Jb, J6, J7, Jd, J8, RB, Jv, Je, R7, ← ha, Zy Yt])
    | (simp (disch := first | omega | (simp only [RO]; done) | assumption) only [RS, X8, X9, Qu, Qv, Qq])
    | (simp (disch := (first | omega | (simp only [RO]; done) | assumption | (simp only [RM, Je]; done) | (simp only [RL, Je]; omega))) only [RD, reduceCtorEq, reduceIte, Je, J1, J3, J2, J6, R7, ← ha, Zy Yt])
  refine Jq (Between_calls 1 [5] a 5 6 _ (I.ext (Ext.push _ _)) R5 (by omega) (by omega)) ?_
  rintro v2 H2 ⟨hv2, x2⟩
  have E2 : Err H2 v2 N9 30 := by unfold BetwR at hv2; rw [if_pos d2] at hv2; exact hv2
  have N2 : Noted H2 := ((hN.push _).push _).ext x2
  have S2 := says9_err 30 30 v2 H2 E2 N2 (by omega) (by omega)
  rw [decide_eq_true rfl] at S2
  have q2 : Qt H2 (H.length + 1) = some (Sb 1 a) := Qh (Qo (by simp)) x2
  have I2 : Ints H2 .i64 a [5] := (I.push _).ext x2
  repeat' first
    | ((with_reducible refine Jq (S2) ?_); rintro _ _ ⟨rfl, rfl⟩)
    | (simp only [Q3, RA, Jn, Jm, Jp, Q2, Q0, ev, ofValue, Jt, J0, J3, J2, J4, reduceCtorEq, reduceIte, Ju, Qb, Qa, Jy, aun, Q9, Jk, Jh, Jx, Jw, Ji, Q8, Jf, Q1, Jr, Js, J1, J5, Ja, J9, Jb, J6, J7, Jd, J8, RB, Jv, Je, R7, q2])
    | (simp (disch := (first | omega | (simp only [RO]; done) | assumption | (simp only [RM, Je]; done) | (simp only [RL, Je]; omega))) only [RD, reduceCtorEq, reduceIte, Je, J1, J3, J2, J6, R7, q2])
  refine Jq (Between_calls 1 [5] a 4 5 _ I2 R5 (by omega) (by omega)) ?_
  rintro v3 H3 ⟨hv3, x3⟩
  have E3 : Err H3 v3 N9 31 := by unfold BetwR at hv3; rw [if_neg (by rw [d1]; decide), if_pos d4] at hv3; exact hv3
  have N3 : Noted H3 := N2.ext x3
  have S3 := says9_err 31 31 v3 H3 E3 N3 (by omega) (by omega)
  rw [decide_eq_true rfl] at S3
  have q3 : Qt H3 (H.length + 1) = some (Sb 1 a) := Qh q2 x3
  have I3 : Ints H3 .i64 a [5] := I2.ext x3
  have q4 : Qt (H3 ++ [Ib [5]]) (H.length + 1) = some (Sb 1 a) := Qh q3 (Ext.push _ _)
  have hB1 := Below_calls 1 [5] [5] a (.sl H3.length 0 1 1) (H3 ++ [Ib [5]]) (I3.push _) (ints_one1 H3 5) R5 R5
  have hB2 := Below_calls 1 [5] [4] a (.sl (H3.length + 1) 0 1 1) (H3 ++ [Ib [5]] ++ [Ib [4]]) ((I3.push _).push _) (by have := ints_one1 (H3 ++ [Ib [5]]) 4; rwa [Qm] at this) R5 R4
  rw [d5] at hB1
  rw [d6] at hB2
  simp only [Int.cast_ofNat_Int, Ib, List.map_cons, List.map_nil] at hB1 hB2 q4
  repeat' first
    | (with_reducible first | refine Qj ?_)
    | ((with_reducible refine Jq (S3) ?_); rintro _ _ ⟨rfl, rfl⟩)
    | ((with_reducible refine Jq (hB1) ?_); rintro _ _ ⟨rfl, rfl⟩)
    | ((with_reducible refine Jq (hB2) ?_); rintro _ _ ⟨rfl, rfl⟩)
    | (simp only [Q4, Jo, reduceIte, J0])
    | ((with_reducible refine hK _ _ ?_); clear hK)
    | (simp only [Q3, RA, Jn, Jm, Jp, Q2, Q0, ev, ofValue, Jt, J0, J3, J2, J4, reduceCtorEq, reduceIte, Ju, Qb, Qa, Jy, aun, Q9, Jk, Jh, Jx, Jw, Ji, Q8, Jf, Q1, Jr, Js, J1, J5, Ja, J9, Jb, J6, J7, Jd, J8, RB, Jv, Je, R7, q3, q4])
    | (simp (disch := first | omega | (simp only [RO]; done) | assumption) only [RS, X8, X9, Qu, Qv, Qq])
    | (simp (disch := (first | omega | (simp only [RO]; done) | assumption | (simp only [RM, Je]; done) | (simp only [RL, Je]; omega))) only [RD, reduceCtorEq, reduceIte, Je, J1, J3, J2, J6, R7, q3, q4])
  all_goals
    (
     (refine Qg (rs := [.tmp 0]) rfl ?_)
     (simp only [Qx, Qd, Fr.put_some, Fr.put_none, Qe, Qf, Qi, J0, reduceIte])
     (try simp (disch := (first | omega | (simp only [RO]; done) | assumption | (simp only [RM, Je]; done) | (simp only [RL, Je]; omega))) only [RD, reduceCtorEq, reduceIte, Je, J1, J3, J2, J6, R7]))
  all_goals exact ⟨(((((Ext.push _ _).pushed _).trans x2).trans x3).pushed _).pushed _, trivial⟩
end Go.Proofs.YtfalfmfkifemeaaGreatDoor
namespace Go.Proofs.YtfalfmfkifemeaaGreatDoor
open Go.AL Go.PW Go.PD
set_option maxRecDepth 8000
theorem symm_ent (n : Nat) (xs : List Int) : Symm n (ent n xs) := fun i j _ _ => Gi n xs i j
theorem posB_Pos {n : Nat} {a : Nat → Nat → Int} (hs : Symm n a) : Ks a n = true ↔ Pos n a := by
  rw [Gf, pos_iff hs]
end Go.Proofs.YtfalfmfkifemeaaGreatDoor
namespace Go.Proofs.YtfalfmfkifemeaaGreatDoor
open Go.AL Go.PW Go.PD
set_option maxRecDepth 8000
abbrev S2 (n0 n1 : Int) (a0 a1 : AV) : Blk := ⟨[.int .i64 n0, a0, .int .i64 n1, a1], .own, 24⟩
abbrev A3 (k0 l0 k1 l1 k2 l2 : Int) : Blk := ⟨[.int .i64 k0, .int .i64 l0, .int .i64 k1, .int .i64 l1, .int .i64 k2, .int .i64 l2], .own, 63⟩
theorem BetwR.one {n : Nat} {xs : List Int} {k l : Int} {v : AV} {H : Hp} (h : BetwR n xs k l v H) : v.one = true := by
  unfold BetwR at h
  split at h
  · obtain ⟨_, rfl, _⟩ := h; rfl
  · split at h
    · obtain ⟨_, rfl, _⟩ := h; rfl
    · rw [h]; rfl
end Go.Proofs.YtfalfmfkifemeaaGreatDoor

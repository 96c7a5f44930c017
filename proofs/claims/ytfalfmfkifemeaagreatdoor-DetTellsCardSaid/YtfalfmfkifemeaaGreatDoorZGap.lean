/- Part 16 of the proof of laws of this seat: lemmas on the model's code, on this program's functions, on numbers. No condition. -/
import Derived.Test.YtfalfmfkifemeaaGreatDoorZGao
set_option linter.unusedVariables false
set_option linter.unusedSimpArgs false
open Nat renaming reduceEqDiff → J0, reduceLeDiff → J1, reduceMul → J2, reduceAdd → J3, reduceSub → J4, reduceLT → J5
open Int renaming reduceToNat → J6, reducePow → J7, reduceNeg → J8, reduceLT → J9, reduceLE → Ja, reduceEq → Jb
open And renaming intro → Jc
open Go.IntKind renaming bits → Jd
open Go.PW renaming dig_length → Je
namespace Go.Proofs.YtfalfmfkifemeaaGreatDoor
open Go.AL Go.PW
theorem U0 : type_of% (Jc @Z8 (Jc @Xd (Jc @Xx (Jc @Xw (Jc @Xv (Jc @X1 (Jc @Z3 (Jc @Z2 (Jc @Yo (@Vw)))))))))) := Jc @Z8 (Jc @Xd (Jc @Xx (Jc @Xw (Jc @Xv (Jc @X1 (Jc @Z3 (Jc @Z2 (Jc @Yo (@Vw)))))))))
abbrev pn45_10MaE : Plan := (.one 0 (.one 1 (.one 2 (.one 4 (.one 5 (.pur 6 (.one 3 (.one 7 (.one 8 .nil)))))))))
set_option maxRecDepth 8000
theorem J1i {H : Hp} {p : Nat} {vs : List AV} {t : Nat} {x : AV} (hg : Qt H p = some ⟨vs, .own, 38⟩) (ht : t < vs.length) (hx : x.one = true) : Ke Tryz.prog H 38 (.ptr p t) x = some (H.set p ⟨vs.set t x, .own, 38⟩) := by
  rw [Uc, hg]
  simp only [size38]
  rw [if_pos ⟨trivial, AV.solid_one hx, by rw [AV.cells_one hx]; rfl, ht⟩, AV.cells_one hx]
  have := Wd (fun v : AV => v) vs x ht
  rw [List.map_id', List.map_id'] at this
  rw [this]
theorem G7 {n : Nat} {xs : List Int} (hr : Right n xs) {i j : Nat} (hi : i < n) (hj : j < n) : Fit (ent n xs i j) := hr.2 _ (Wy (hr.pl hi hj).2)
def Fresh (H0 : Hp) (p : Nat) (vs : List AV) (n : Nat) : Prop := H0.length ≤ p ∧ ∀ i, i < n → H0.length ≤ (vs.getD i .nilS).hd
set_option maxHeartbeats 4000000 in
theorem Rows_calls (n : Nat) (xs : List Int) (a : AV) (H : Hp) (ha : Ints H .i64 a xs) (hr : Right n xs) : ACalls Tryz.prog 45 [Ya n a] H fun r H' => ∃ p vs, r = .sl p 0 n n ∧ Mat H' p vs (Kx n xs) ∧ Ext H H' ∧ Fresh H p vs n := by
  have ha1 : a.one = true := ha.rd.one
  have hc : a.cells = [a] := AV.cells_one ha1
  obtain ⟨k, hk, h8, _⟩ := hr.nat
  obtain rfl : n = k := by omega
  have mo := fun H => make_outer H n .i64 (by omega)
  have mr := fun H => make_row H n .i64 (by omega)
  refine Q7 Tryz.func45 rfl (by kernel_rfl) (by kernel_rfl) ?_
  repeat' first
    | (with_reducible first | refine Jj (fun K hK => ?_) | refine Qc ?_ | refine Jg ?_)
    | (simp only [Q4, Jo, reduceIte, J0])
    | ((with_reducible refine hK _ _ ?_); clear hK)
    | (simp only [Q3, RA, Jn, Jm, Jp, Q2, Q0, ev, ofValue, Jt, J0, J3, J2, J4, reduceCtorEq, reduceIte, Ju, Qb, Qa, Jy, aun, Q9, Jk, Jh, Jx, Jw, Ji, Q8, Jf, Q1, Jr, Js, J1, J5, Ja, J9, Jb, J6, J7, Jd, J8, RB, Jv, Je, U0, mo])
    | (simp (disch := first | omega | (simp only [RO]; done) | assumption) only [RS, X8, X9, Zm, Zn, Yi, Yk, Xs, Xq, Xr, Xp, Qu, Qv, Qq])
    | (simp (disch := (first | omega | (simp only [RO]; done) | assumption | (simp only [RM, Je]; done) | (simp only [RL, Je]; omega))) only [RD, reduceCtorEq, reduceIte, Je, J1, J3, J2, J6, U0, mo])
  obtain ⟨p, hp⟩ : ∃ p, p = H.length + 1 := ⟨_, rfl⟩
  rw [← hp]
  refine X2 (fun m fr' H1 => ∃ (t : Nat) (vs : List AV) (rss : List (List Int)), m = n - t ∧ t ≤ n ∧ fr' 1 = .ptr H.length 0 ∧ fr' 3 = .sl p 0 n n ∧ fr' 12 = .int .i64 (n : Int) ∧ fr' 13 = .int .i64 (t : Int) ∧
      Mat H1 p vs rss ∧ vs.length = n ∧ rss.length = t ∧ (∀ i, i < t → rss.getD i [] = (List.range n).map fun j => ent n xs i j) ∧ (∀ i, i < t → H.length ≤ (vs.getD i .nilS).hd) ∧ Ext H H1 ∧ Qt H1 H.length = some ⟨[.int .i64 (n : Int), a], .own, 24⟩) (m := n)
    ⟨0, List.replicate n .nilS, [], by omega, by omega, rfl, rfl, rfl, rfl, ⟨by simp, by rw [hp]; exact Qo (by simp), fun i hi => by simp at hi, fun i j hi => by simp at hi, fun i hi => by simp at hi⟩, by simp, rfl, fun i hi => by omega, fun i hi => by omega, (Ext.push _ _).pushed _, by rw [Qp (by simp), Qo rfl]⟩ ?_
  rintro m fr' H1 ⟨t, vs, rss, rfl, ht, k1, k3, k12, k13, M, hvl, hrl, hrow, hfr, x1, g1⟩
  have e1 : IntKind.i64.wrap ((t : Int) + 1) = ((t + 1 : Nat) : Int) := by rw [Q5 (by omega) (by omega)]; omega
  have l1 := Qr g1
  by_cases hlt : t < n
  · obtain ⟨hh, hhe⟩ : ∃ hh, hh = H1.length := ⟨_, rfl⟩
    have lp := Qr M.out
    have op := J1i (H := H1 ++ [Rb (List.replicate n 0)]) (p := p) (vs := vs) (t := t) (x := .sl hh 0 n n) (by rw [Qp lp]; exact M.out) (by omega) rfl
    have MS := M.snoc (by omega) (List.replicate n 0)
    rw [hrl, List.length_replicate, ← hhe, List.set_append_left _ _ lp] at MS
    refine Jj (fun K hQ => ?_)
    repeat' first
      | (with_reducible first | refine Q6 ?_ | refine Jg ?_ | refine Jz ?_)
      | (with_reducible refine X5 (fun hc => ?_) (fun hc => ?_) <;> (try simp only [RC] at hc) <;> (try (exfalso; first | omega | contradiction)))
      | (simp only [Q4, Jo, reduceIte, J0])
      | (simp only [Q3, RA, Jn, Jm, Jp, Q2, Q0, ev, ofValue, Jt, J0, J3, J2, J4, reduceCtorEq, reduceIte, Ju, Qb, Qa, Jy, aun, Q9, Jk, Jh, Jx, Jw, Ji, Q8, Jf, Q1, Jr, Js, J1, J5, Ja, J9, Jb, J6, J7, Jd, J8, RB, Jv, Je, U0, k1, k3, k12, k13])
    refine hQ _ _ ?_
    clear hQ
    refine Jj (fun K hQ => ?_)
    repeat' first
      | (with_reducible first | refine Q6 ?_ | refine Jg ?_ | refine Jz ?_)
      | (with_reducible refine X5 (fun hc => ?_) (fun hc => ?_) <;> (try simp only [RC] at hc) <;> (try (exfalso; first | omega | contradiction)))
      | (simp only [Q4, Jo, reduceIte, J0])
      | (simp only [Q3, RA, Jn, Jm, Jp, Q2, Q0, ev, ofValue, Jt, J0, J3, J2, J4, reduceCtorEq, reduceIte, Ju, Qb, Qa, Jy, aun, Q9, Jk, Jh, Jx, Jw, Ji, Q8, Jf, Q1, Jr, Js, J1, J5, Ja, J9, Jb, J6, J7, Jd, J8, RB, Jv, Je, U0, k1, k3, k12, k13])
    refine hQ _ _ ?_
    clear hQ
    refine Jj (fun K3 hK3 => ?_)
    refine Qc ?_
    refine Jj (fun K hQ => ?_)
    repeat' first
      | (with_reducible first | refine Jg ?_)
      | (simp only [Q4, Jo, reduceIte, J0])
      | (simp only [Q3, RA, Jn, Jm, Jp, Q2, Q0, ev, ofValue, Jt, J0, J3, J2, J4, reduceCtorEq, reduceIte, Ju, Qb, Qa, Jy, aun, Q9, Jk, Jh, Jx, Jw, Ji, Q8, Jf, Q1, Jr, Js, J1, J5, Ja, J9, Jb, J6, J7, Jd, J8, RB, Jv, Je, U0, k1, k3, k12, k13, g1, mr, ← hhe, op])
      | (simp (disch := first | omega | (simp only [RO]; done) | assumption) only [RS, X8, X9, Zm, Zn, Yi, Yk, Xs, Xq, Xr, Xp, Qu, Qv, Qq])
      | (simp (disch := (first | omega | (simp only [RO]; done) | assumption | (simp only [RM, Je]; done) | (simp only [RL, Je]; omega))) only [RD, reduceCtorEq, reduceIte, Je, J1, J3, J2, J6, U0, k1, k3, k12, k13, g1, mr, ← hhe, op])
    refine hQ _ _ ?_
    clear hQ
    refine Jj (fun K hQ => ?_)
    repeat' first
      | (with_reducible first | refine Jg ?_)
      | (simp only [Q4, Jo, reduceIte, J0])
      | (simp only [Q3, RA, Jn, Jm, Jp, Q2, Q0, ev, ofValue, Jt, J0, J3, J2, J4, reduceCtorEq, reduceIte, Ju, Qb, Qa, Jy, aun, Q9, Jk, Jh, Jx, Jw, Ji, Q8, Jf, Q1, Jr, Js, J1, J5, Ja, J9, Jb, J6, J7, Jd, J8, RB, Jv, Je, U0, k1, k3, k12, k13, g1, mr, ← hhe, op])
      | (simp (disch := first | omega | (simp only [RO]; done) | assumption) only [RS, X8, X9, Zm, Zn, Yi, Yk, Xs, Xq, Xr, Xp, Qu, Qv, Qq])
      | (simp (disch := (first | omega | (simp only [RO]; done) | assumption | (simp only [RM, Je]; done) | (simp only [RL, Je]; omega))) only [RD, reduceCtorEq, reduceIte, Je, J1, J3, J2, J6, U0, k1, k3, k12, k13, g1, mr, ← hhe, op])
    refine hQ _ _ ?_
    clear hQ
    have hv2 : (vs.set t (AV.sl hh 0 n n)).getD t .nilS = .sl hh 0 n n := by rw [Yj _ _ _ _ _ (by omega), if_pos rfl]
    have hr2 : ∀ rr : List Int, (rss ++ [rr]).getD t [] = rr := fun rr => by rw [← hrl]; simp [List.getD]
    have hs2 : ∀ rr : List Int, (rss ++ [rr]).set t (rr : List Int) = rss ++ [rr] := fun rr => by rw [← hrl]; simp
    have hl2 : ∀ rr : List Int, t < (rss ++ [rr]).length := fun rr => by simp; omega
    have m1 := MS.at0 (hl2 _)
    have m2 := MS.rlen (hl2 _)
    rw [hv2] at m1 m2
    rw [hr2, List.length_replicate] at m2
    have lhh : H.length < hh := by omega
    have php : p ≠ H.length := by omega
    repeat' first
      | (with_reducible first | refine Jj (fun K hK => ?_) | refine Qc ?_ | refine Jg ?_)
      | (simp only [Q4, Jo, reduceIte, J0])
      | ((with_reducible refine hK _ _ ?_); clear hK)
      | (simp only [Q3, RA, Jn, Jm, Jp, Q2, Q0, ev, ofValue, Jt, J0, J3, J2, J4, reduceCtorEq, reduceIte, Ju, Qb, Qa, Jy, aun, Q9, Jk, Jh, Jx, Jw, Ji, Q8, Jf, Q1, Jr, Js, J1, J5, Ja, J9, Jb, J6, J7, Jd, J8, RB, Jv, Je, U0, k1, k3, k12, k13, m1, m2])
      | (simp (disch := first | omega | (simp only [RO]; done) | assumption) only [RS, X8, X9, Zm, Zn, Yi, Yk, Xs, Xq, Xr, Xp, Qu, Qv, Qq])
    refine X2 (fun m fr' H2 => ∃ (j : Nat) (rr : List Int), m = n - j ∧ j ≤ n ∧ fr' 1 = .ptr H.length 0 ∧ fr' 3 = .sl p 0 n n ∧ fr' 4 = .int .i64 (t : Int) ∧ fr' 12 = .int .i64 (n : Int) ∧ fr' 13 = .int .i64 (t : Int) ∧ fr' 26 = .int .i64 (n : Int) ∧ fr' 27 = .int .i64 (j : Int) ∧
        Mat H2 p (vs.set t (.sl hh 0 n n)) (rss ++ [rr]) ∧ rr.length = n ∧ (∀ b, b < n → rr.getD b 0 = if b < j then ent n xs t b else 0) ∧ Ext H H2 ∧ Qt H2 H.length = some ⟨[.int .i64 (n : Int), a], .own, 24⟩) (m := n)
      ⟨0, List.replicate n 0, by omega, by omega, k1, k3, rfl, k12, k13, rfl, rfl, MS, by simp, fun b hb => by rw [if_neg (by omega)]; simp [List.getD, hb], (x1.set (by omega) _).pushed _, by rw [Qp (by rw [List.length_set]; exact l1), Qk lp, if_neg (by omega)]; exact g1⟩ ?_
    rintro m fr' H2 ⟨j, rr, rfl, hj, k1, k3, k4, k12, k13, k26, k27, M2, hrl2, hrr, x2, g2⟩
    have e2 : IntKind.i64.wrap ((j : Int) + 1) = ((j + 1 : Nat) : Int) := by rw [Q5 (by omega) (by omega)]; omega
    by_cases hjn : j < n
    · have hat := At_calls n xs a t j H2 (ha.ext x2) hr hlt hjn
      have hof := fun H0 => of_calls (ent n xs t j) H0 (by have := G7 hr hlt hjn; unfold Fit at this; omega)
      have b1 := M2.at0 (hl2 _)
      have b3 := M2.idx (hl2 _) (k := .i64) (j := (j : Int)) (by omega) (by rw [hr2]; omega)
      have d1 := M2.put (x := ent n xs t j) (hl2 _) (j := j) (by rw [hr2]; omega)
      rw [hv2] at b1 b3 d1
      rw [hr2] at d1
      rw [Int.toNat_natCast] at b3
      have hdd : (AV.sl hh 0 n n).hd = hh := rfl
      rw [hdd] at b3 d1
      have lh2 : hh < H2.length := by have := Qr (M2.row t (hl2 _)).2; rw [hv2] at this; exact this
      have M3 := M2.set (hl2 _) (rs := rr.set j (ent n xs t j)) (by rw [hr2, List.length_set])
      rw [hv2, hdd] at M3
      have hs3 : (rss ++ [rr]).set t (rr.set j (ent n xs t j)) = rss ++ [rr.set j (ent n xs t j)] := by rw [← hrl]; simp
      rw [hs3] at M3
      repeat' first
        | (with_reducible first | refine Jj (fun K hK => ?_) | refine Qc ?_ | refine Q6 ?_ | refine Jg ?_ | refine Qw (id := 10) [] pn45_10MaE (by kernel_rfl) (by kernel_rfl) ?_ | refine Jz ?_ | refine Zs ?_)
        | (with_reducible refine Xe (fun _ x => (hof _)) ?_)
        | ((with_reducible refine Jq (hat) ?_); rintro _ _ ⟨rfl, rfl⟩)
        | (with_reducible refine X5 (fun hc => ?_) (fun hc => ?_) <;> (try simp only [RC] at hc) <;> (try (exfalso; first | omega | contradiction)))
        | (simp only [Q4, Jo, reduceIte, J0])
        | ((with_reducible refine hK _ _ ?_); clear hK)
        | (simp only [Q3, RA, Jn, Jm, Jp, Q2, Q0, ev, ofValue, Jt, J0, J3, J2, J4, reduceCtorEq, reduceIte, Ju, Qb, Qa, Jy, aun, Q9, Jk, Jh, Jx, Jw, Ji, Q8, Jf, Q1, Jr, Js, J1, J5, Ja, J9, Jb, J6, J7, Jd, J8, RB, Jv, Je, U0, k1, k3, k4, k12, k13, k26, k27, e2, g2, b1, b3, d1])
        | (simp (disch := first | omega | (simp only [RO]; done) | assumption) only [RS, X8, X9, Zm, Zn, Yi, Yk, Xs, Xq, Xr, Xp, Qu, Qv, Qq])
        | (simp (disch := (first | omega | (simp only [RO]; done) | assumption | (simp only [RM, Je]; done) | (simp only [RL, Je]; omega))) only [RD, reduceCtorEq, reduceIte, Je, J1, J3, J2, J6, U0, k1, k3, k4, k12, k13, k26, k27, e2, g2, b1, b3, d1])
      all_goals
        refine ⟨_, by omega, j + 1, rr.set j (ent n xs t j), rfl, by omega, rfl, M3, by rw [List.length_set]; exact hrl2, fun b hb => ?_, x2.set (by omega) _, by rw [Qk lh2, if_neg (by omega)]; exact g2⟩
        rw [Xf _ _ (by omega)]
        by_cases hbj : b = j
        · rw [if_pos hbj, if_pos (by omega), hbj]
        · rw [if_neg hbj, hrr b hb]
          have : b < j ↔ b < j + 1 := by omega
          simp only [this]
    · obtain rfl : n = j := by omega
      repeat' first
        | (with_reducible first | refine Jj (fun K hK => ?_) | refine Qz ?_ | refine Jg ?_ | refine Jz ?_)
        | (with_reducible refine X5 (fun hc => ?_) (fun hc => ?_) <;> (try simp only [RC] at hc) <;> (try (exfalso; first | omega | contradiction)))
        | (simp only [Q4, Jo, reduceIte, J0])
        | ((with_reducible refine hK _ _ ?_); clear hK)
        | (simp only [Q3, RA, Jn, Jm, Jp, Q2, Q0, ev, ofValue, Jt, J0, J3, J2, J4, reduceCtorEq, reduceIte, Ju, Qb, Qa, Jy, aun, Q9, Jk, Jh, Jx, Jw, Ji, Q8, Jf, Q1, Jr, Js, J1, J5, Ja, J9, Jb, J6, J7, Jd, J8, RB, Jv, Je, U0, k1, k3, k4, k12, k13, k26, k27])
      refine hK3 _ _ ?_
      repeat' first
        | (with_reducible first | refine Jg ?_)
        | (simp only [Q4, Jo, reduceIte, J0])
        | (simp only [Q3, RA, Jn, Jm, Jp, Q2, Q0, ev, ofValue, Jt, J0, J3, J2, J4, reduceCtorEq, reduceIte, Ju, Qb, Qa, Jy, aun, Q9, Jk, Jh, Jx, Jw, Ji, Q8, Jf, Q1, Jr, Js, J1, J5, Ja, J9, Jb, J6, J7, Jd, J8, RB, Jv, Je, U0, k1, k3, k4, k12, k13, e1])
      refine ⟨_, by omega, t + 1, _, _, rfl, by omega, rfl, M2, by rw [List.length_set]; exact hvl, by rw [List.length_append, hrl]; rfl, fun i hi => ?_, fun i hi => ?_, x2, g2⟩
      · by_cases e : i = t
        · rw [e, hr2]
          apply Gh 0
          · rw [hrl2]; simp
          · intro b hb
            rw [List.length_map, List.length_range] at hb
            rw [hrr b hb, if_pos hb]
            simp [List.getD, hb]
        · rw [← hrow i (by omega), List.getD_eq_getElem?_getD, List.getElem?_append_left (by omega), ← List.getD_eq_getElem?_getD]
      · rw [Yj _ _ _ _ _ (by omega)]
        by_cases e : i = t
        · rw [if_pos e]; show H.length ≤ hh; omega
        · rw [if_neg e]; exact hfr i (by omega)
  · obtain rfl : t = n := by omega
    repeat' first
      | (with_reducible first | refine Jj (fun K hK => ?_) | refine Qz ?_ | refine Qj ?_ | refine Jg ?_ | refine Jz ?_)
      | (with_reducible refine X5 (fun hc => ?_) (fun hc => ?_) <;> (try simp only [RC] at hc) <;> (try (exfalso; first | omega | contradiction)))
      | (simp only [Q4, Jo, reduceIte, J0])
      | ((with_reducible refine hK _ _ ?_); clear hK)
      | (clear hK; (with_reducible refine hK _ _ ?_); clear hK)
      | (simp only [Q3, RA, Jn, Jm, Jp, Q2, Q0, ev, ofValue, Jt, J0, J3, J2, J4, reduceCtorEq, reduceIte, Ju, Qb, Qa, Jy, aun, Q9, Jk, Jh, Jx, Jw, Ji, Q8, Jf, Q1, Jr, Js, J1, J5, Ja, J9, Jb, J6, J7, Jd, J8, RB, Jv, Je, U0, k1, k3, k12, k13])
    (
     (refine Qg (rs := [.tmp 2]) rfl ?_)
     (simp only [Qx, Qd, Fr.put_some, Fr.put_none, Qe, Qf, Qi, J0, reduceIte, k3])
     (try simp (disch := (first | omega | (simp only [RO]; done) | assumption | (simp only [RM, Je]; done) | (simp only [RL, Je]; omega))) only [RD, reduceCtorEq, reduceIte, Je, J1, J3, J2, J6, U0, k3]))
    refine ⟨p, vs, rfl, ?_, x1, by omega, hfr⟩
    have : rss = Kx t xs := by
      apply Gh []
      · rw [Kn, hrl]
      · intro i hi
        rw [Kn] at hi
        rw [rowsOf_get _ _ _ hi, hrow i hi]
    rw [← this]; exact M
end Go.Proofs.YtfalfmfkifemeaaGreatDoor
namespace Go.Proofs.YtfalfmfkifemeaaGreatDoor
open Go.AL Go.PW
set_option maxRecDepth 8000
def swp {α : Type} (d : α) (xs : List α) (k i : Nat) : List α := (xs.set i (xs.getD k d)).set k (xs.getD i d)
theorem Y9 {α : Type} (d : α) (xs : List α) (k i : Nat) : (swp d xs k i).length = xs.length := by simp [swp]
theorem Kr {α : Type} (d : α) (xs : List α) (k i j : Nat) (hk : k < xs.length) (hi : i < xs.length) : (swp d xs k i).getD j d = if j = k then xs.getD i d else if j = i then xs.getD k d else xs.getD j d := by
  unfold swp
  rw [Yj _ _ _ _ _ (by rw [List.length_set]; exact hk), Yj _ _ _ _ _ hi]
theorem Mat.swap {H : Hp} {p : Nat} {vs : List AV} {rss : List (List Int)} (M : Mat H p vs rss) {k i : Nat} (hk : k < rss.length) (hi : i < rss.length) :
    Mat (H.set p ⟨swp .nilS vs k i, .own, 38⟩) p (swp .nilS vs k i) (swp [] rss k i) := by
  have lp := Qr M.out
  have hl := M.len
  have gv := fun j => Kr (.nilS : AV) vs k i j (by omega) (by omega)
  have gr := fun j => Kr ([] : List Int) rss k i j hk hi
  have key : ∀ j, j < rss.length → ∃ l, l < rss.length ∧ (swp .nilS vs k i).getD j .nilS = vs.getD l .nilS ∧ (swp [] rss k i).getD j [] = rss.getD l [] ∧ l = (if j = k then i else if j = i then k else j) := by
    intro j hj
    rw [gv, gr]
    by_cases e1 : j = k
    · rw [if_pos e1, if_pos e1, if_pos e1]; exact ⟨i, hi, rfl, rfl, rfl⟩
    · rw [if_neg e1, if_neg e1, if_neg e1]
      by_cases e2 : j = i
      · rw [if_pos e2, if_pos e2, if_pos e2]; exact ⟨k, hk, rfl, rfl, rfl⟩
      · rw [if_neg e2, if_neg e2, if_neg e2]; exact ⟨j, hj, rfl, rfl, rfl⟩
  refine ⟨by rw [Y9, Y9]; exact hl, by rw [Qk lp, if_pos rfl], fun j hj => ?_, fun a b ha hb hne => ?_, fun a ha => ?_⟩
  · rw [Y9] at hj
    obtain ⟨l, hl', e1, e2, _⟩ := key j hj
    rw [e1, e2, Qk lp, if_neg (M.off l hl')]
    exact M.row l hl'
  · rw [Y9] at ha hb
    obtain ⟨l, hl', e1, _, w1⟩ := key a ha
    obtain ⟨l2, hl2', e2, _, w2⟩ := key b hb
    rw [e1, e2]
    refine M.apart l l2 hl' hl2' ?_
    rw [w1, w2]
    repeat' split
    all_goals omega
  · rw [Y9] at ha
    obtain ⟨l, hl', e1, _, _⟩ := key a ha
    rw [e1]; exact M.off l hl'
end Go.Proofs.YtfalfmfkifemeaaGreatDoor
namespace Go.Proofs.YtfalfmfkifemeaaGreatDoor
open Go.AL Go.PW Go.PD
set_option maxRecDepth 8000
theorem Mh_big : (2 : Int) ^ 1000 < Mh := by decide +kernel
theorem Kt {x : Int} (h : x.natAbs ≤ 2 ^ 1000) : In x := by
  have h1 := Mh_big
  have h2 : ((2 ^ 1000 : Nat) : Int) = (2 : Int) ^ 1000 := by decide +kernel
  generalize (2 ^ 1000 : Nat) = y at h h2
  rw [← h2] at h1
  unfold In
  omega
theorem fact_small : ∀ k : Fin 8, fact (k.1 + 1) * (18446744073709551616 : Nat) ^ (k.1 + 1) ≤ 2 ^ 530 := by decide +kernel
theorem fact_mid : ∀ k : Fin 7, fact (k.1 + 1) * (18446744073709551616 : Nat) ^ (k.1 + 1) ≤ 2 ^ 465 := by decide +kernel
theorem d_small {rho : Nat → Nat → Int} (hB : ∀ i j, (rho i j).natAbs ≤ 18446744073709551616) {k : Nat} (hk : k ≤ 7) (i j : Nat) : (d rho k i j).natAbs ≤ 2 ^ 530 :=
  Nat.le_trans (d_bound hB k i j) (fact_small ⟨k, by omega⟩)
theorem d_mid {rho : Nat → Nat → Int} (hB : ∀ i j, (rho i j).natAbs ≤ 18446744073709551616) {k : Nat} (hk : k ≤ 6) (i j : Nat) : (d rho k i j).natAbs ≤ 2 ^ 465 :=
  Nat.le_trans (d_bound hB k i j) (fact_mid ⟨k, by omega⟩)
theorem Kp {rho : Nat → Nat → Int} (hB : ∀ i j, (rho i j).natAbs ≤ 18446744073709551616) {k : Nat} (hk : k ≤ 8) : (P rho k).natAbs ≤ 2 ^ 530 := by
  cases k with
  | zero => rw [Kz]; decide +kernel
  | succ k => rw [Kf]; exact d_small hB (by omega) _ _
theorem Nd {x : Int} (h : x.natAbs ≤ 2 ^ 530) : In x := Kt (Nat.le_trans h (by decide +kernel))
theorem Gw {x y : Int} (h : x.natAbs ≤ 2 ^ 465) (h' : y.natAbs ≤ 2 ^ 465) : (x * y).natAbs ≤ 2 ^ 930 := by
  rw [Int.natAbs_mul]
  exact Nat.le_trans (Nat.mul_le_mul h h') (by decide +kernel)
theorem In_600 {x : Int} (h : x.natAbs ≤ 2 ^ 930) : In x := Kt (Nat.le_trans h (by decide +kernel))
theorem In_601 {x y : Int} (h : x.natAbs ≤ 2 ^ 930) (h' : y.natAbs ≤ 2 ^ 930) : In (x - y) := Kt (by
  have h2 : 2 ^ 930 + 2 ^ 930 ≤ 2 ^ 1000 := by decide +kernel
  generalize (2 ^ 930 : Nat) = u at h h' h2
  generalize (2 ^ 1000 : Nat) = v at h2
  omega)
structure St (n k : Nat) (rho : Nat → Nat → Int) (rss : List (List Int)) : Prop where
  len : rss.length = n
  wid : ∀ i, i < n → (rss.getD i []).length = n
  get : ∀ i j, k ≤ i → i < n → j < n → (rss.getD i []).getD j 0 = d rho k i j
theorem St.zero (n : Nat) (xs : List Int) : St n 0 (ent n xs) (Kx n xs) := by
  refine ⟨Kn n xs, fun i hi => by rw [rowsOf_get _ _ _ hi]; simp, fun i j _ hi hj => by rw [rowsOf_get2 _ _ _ _ hi hj, Gj]⟩
theorem St.swap {n k : Nat} {rho : Nat → Nat → Int} {rss : List (List Int)} (S : St n k rho rss) {i : Nat} (hki : k ≤ i) (hi : i < n) : St n k (swr rho k i) (swp [] rss k i) := by
  have g := fun l => Kr ([] : List Int) rss k i l (by rw [S.len]; omega) (by rw [S.len]; omega)
  refine ⟨by rw [Y9]; exact S.len, fun l hl => ?_, fun l j hkl hl hj => ?_⟩
  · rw [g]
    split
    · exact S.wid i hi
    · split
      · exact S.wid k (by omega)
      · exact S.wid l hl
  · rw [g, d_swr hki]
    split
    · exact S.get i j hki hi hj
    · split
      · exact S.get k j (Nat.le_refl _) (by omega) hj
      · exact S.get l j hkl hl hj
theorem St.step {n k : Nat} {rho : Nat → Nat → Int} {rss : List (List Int)} (S : St n k rho rss) (hk : k < n) (hp : P rho k ≠ 0) : St n (k + 1) rho (J0h rss k (P rho k) false) := by
  have hl := S.len
  have g := fun i (hi : i < n) => Us rss k (P rho k) false rss.length i (by omega)
  refine ⟨by unfold J0h; rw [V1]; exact hl, fun i hi => ?_, fun i j hki hi hj => ?_⟩
  · unfold J0h
    rw [g i hi]
    split
    · rw [Wp]; exact S.wid i hi
    · exact S.wid i hi
  · unfold J0h
    rw [g i hi, if_pos ⟨by omega, by omega, .inl (by omega)⟩, stepRow_getD _ _ _ _ _ (by rw [S.wid i hi]; exact hj)]
    split
    · rename_i e; rw [e, d_col (by omega)]
    · unfold J0g
      rw [S.get k k (Nat.le_refl _) hk hk, S.get i j (by omega) hi hj, S.get i k (by omega) hi hk, S.get k j (Nat.le_refl _) hk hj, d_step hp]
theorem St.fits {n k : Nat} {rho : Nat → Nat → Int} {rss : List (List Int)} (S : St n k rho rss) (h8 : n ≤ 8) (hk : k < n) (hp : P rho k ≠ 0) (hB : ∀ i j, (rho i j).natAbs ≤ 18446744073709551616) (i j : Nat) (hi : i < rss.length) (hc : Proc k false i) (hj : j < n) (hjk : j ≠ k) : Fits (rss.getD k []) (rss.getD i []) k (P rho k) j := by
  rw [S.len] at hi
  have hki : k < i := by
    rcases hc.2 with h | h
    · exact h
    · cases h
  have e1 := S.get k k (Nat.le_refl _) hk hk
  have e2 := S.get i j (by omega) hi hj
  have e3 := S.get i k (by omega) hi hk
  have e4 := S.get k j (Nat.le_refl _) hk hj
  have s := fun i j => d_small hB (k := k) (by omega) i j
  have m := fun i j => d_mid hB (k := k) (by omega) i j
  refine ⟨?_, ?_, ?_, ?_, ?_, ?_, ?_, ?_⟩
  · rw [e1]; exact Nd (s _ _)
  · rw [e2]; exact Nd (s _ _)
  · rw [e3]; exact Nd (s _ _)
  · rw [e4]; exact Nd (s _ _)
  · rw [e1, e2]; exact In_600 (Gw (m _ _) (m _ _))
  · rw [e3, e4]; exact In_600 (Gw (m _ _) (m _ _))
  · rw [e1, e2, e3, e4]; exact In_601 (Gw (m _ _) (m _ _)) (Gw (m _ _) (m _ _))
  · unfold J0g
    rw [e1, e2, e3, e4, d_step hp]
    exact Nd (d_small hB (by omega) _ _)
theorem Vi {n : Nat} {xs : List Int} (hr : Right n xs) (i j : Nat) : (ent n xs i j).natAbs ≤ 18446744073709551616 := by
  unfold ent
  rcases Nat.lt_or_ge (pl n i j) xs.length with h | h
  · have := hr.2 _ (Wy h)
    unfold Fit at this
    omega
  · rw [List.getD_eq_getElem?_getD, List.getElem?_eq_none h]; decide
end Go.Proofs.YtfalfmfkifemeaaGreatDoor
namespace Go.Proofs.YtfalfmfkifemeaaGreatDoor
open Go.AL Go.PW Go.PD
set_option maxRecDepth 8000
theorem Right.len {n : Nat} {xs : List Int} (h : Right n xs) : n ≤ 8 ∧ xs.length < 1000000 := by
  obtain ⟨k, hk, h8, hl⟩ := h.nat
  obtain rfl : n = k := by omega
  have : n * (n + 1) ≤ 8 * 9 := Nat.mul_le_mul h8 (by omega)
  exact ⟨h8, by omega⟩
end Go.Proofs.YtfalfmfkifemeaaGreatDoor
namespace Go.Proofs.YtfalfmfkifemeaaGreatDoor
open Go.AL Go.PW Go.PD
theorem Kj : type_of% (Jc @Z8 (Jc @Xd (Jc @Xz (Jc @X1 (Jc @Z3 (Jc @Z2 (Jc @Yo (@Vw)))))))) := Jc @Z8 (Jc @Xd (Jc @Xz (Jc @X1 (Jc @Z3 (Jc @Z2 (Jc @Yo (@Vw)))))))
set_option maxRecDepth 8000
def Yn (a : Nat → Nat → Int) : Nat → Nat → List Int
  | 0, _ => []
  | c + 1, k => P a (k + 1) :: if P a (k + 1) ≤ 0 then [] else Yn a c (k + 1)
theorem Wj (a : Nat → Nat → Int) : ∀ c k, (Yn a c k).length ≤ c
  | 0, _ => Nat.le_refl _
  | c + 1, k => by
    simp only [Yn, List.length_cons]
    split
    · simp
    · have := Wj a c (k + 1); omega
def WsV (H : Hp) (v : AV) (ls : List Int) (lo : Nat) : Prop := (ls = [] ∧ v = .nilS) ∨ ∃ h, v = .sg h 0 ls.length 16 ∧ Qt H h = some (Rb ls) ∧ lo ≤ h
theorem WsV.push {H : Hp} {v : AV} {ls : List Int} {lo : Nat} (h : WsV H v ls lo) (b : Blk) : WsV (H ++ [b]) v ls lo := by
  rcases h with h | ⟨k, h1, h2, h3⟩
  · exact .inl h
  · exact .inr ⟨k, h1, by rw [Qp (Qr h2)]; exact h2, h3⟩
theorem WsV.lt {H : Hp} {v : AV} {ls : List Int} {lo : Nat} (h : WsV H v ls lo) : v.lt H.length := by
  rcases h with ⟨_, rfl⟩ | ⟨k, rfl, h2, _⟩
  · trivial
  · simpa [AV.lt] using Qr h2
theorem cellsOf_snoc (ls : List Int) (x : Int) : Xy (ls ++ [x]) = Xy ls ++ dig 16 x := by simp [Xy]
theorem WsV.append {H : Hp} {v : AV} {ls : List Int} {lo : Nat} (h : WsV H v ls lo) (hlo : lo ≤ H.length) (hl : ls.length < 1000000) (x : Int) :
    ∃ v' H', Y2 Tryz.prog (H ++ [Wb x]) 38 v (.sl H.length 0 1 1) = some (v', H') ∧ WsV H' v' (ls ++ [x]) lo ∧ (∀ k, k < lo → Qt H' k = Qt H k) ∧ H.length ≤ H'.length := by
  have hx := Rd.lit H (n := 1) (z := 16) (cs := (dig 16 x).map (AV.int .u64)) (k := .own) (e := 33) (by decide) (by rw [Y1, dig_length])
  have ho := V9 (k := .u64) (dig 16 x)
  have hc := V9 (k := .u64) (Xy ls)
  have hzl : (AV.agg ((dig 16 0).map (AV.int .u64))).cells.length = 16 := by rw [AV.cells_agg, Y1, dig_length]
  rcases h with ⟨rfl, rfl⟩ | ⟨k, rfl, hg, hk⟩
  · refine ⟨_, _, append_nil hx Wh Wr zero33 hzl (by decide) bytes33 ho (by decide) (by decide) (by decide), .inr ⟨_, rfl, ?_, ?_⟩, fun k hk => ?_, by simp⟩
    · rw [Qo rfl]; simp [Xy]
    · simp; omega
    · rw [Qp (by simp; omega), Qp (by omega)]
  · have hkl := Qr hg
    have hcl := K0 ls
    have hlen : ((Xy ls).map (AV.int .u64)).length = ls.length * 16 := by rw [Y1, hcl]
    refine ⟨.sg (H ++ [Wb x]).length 0 (ls.length + 1) 16, (H ++ [Wb x]).set k ⟨[], .dead, 33⟩ ++ [Rb (ls ++ [x])], ?_, .inr ⟨(H ++ [Wb x]).length, by rw [show (ls ++ [x]).length = ls.length + 1 by simp], ?_, ?_⟩, fun j hj => ?_, by simp; omega⟩
    · have h2 : ¬ ls.length * 16 + 1 * 16 ≤ ((Xy ls).map (AV.int .u64)).length := by omega
      have h3 : ((Xy ls).map (AV.int .u64)).take (ls.length * 16) = (Xy ls).map (AV.int .u64) := List.take_of_length_le (by omega)
      have h4 : ls.length * 16 ≤ ((Xy ls).map (AV.int .u64)).length := by omega
      have h5 : (Xy (ls ++ [x])).map (AV.int .u64) = (Xy ls).map (AV.int .u64) ++ (dig 16 x).map (AV.int .u64) := by rw [cellsOf_snoc, List.map_append]
      have hby1 : (ls.length + 1) * 128 ≤ 140737488355328 := by omega
      have hby2 : (ls.length + 1) ≤ 140737488355328 := by omega
      have hg' : Qt (H ++ [Wb x]) k = some (Rb ls) := by rw [Qp hkl]; exact hg
      have hrow := hx.row
      unfold Y2
      simp only [Wh, Wr, zero33, bytes33, hzl, hrow, hg', h2, h3, h4, ho, hc, hby1, hby2, and_self, if_true, if_false, show ¬ (1 : Nat) = 0 by decide, show (0 : Nat) < 16 by decide]
      rw [← h5]
    · rw [Qo (by simp)]
    · simp; omega
    · rw [Qp (by simp; omega), Qk (by simp; omega), if_neg (by omega), Qp (by omega)]
theorem Mat.keep {H H' : Hp} {p : Nat} {vs : List AV} {rss : List (List Int)} (M : Mat H p vs rss) {lo : Nat} (hk : ∀ k, k < lo → Qt H' k = Qt H k) (hp : p < lo) (hv : ∀ i, i < rss.length → (vs.getD i .nilS).hd < lo) : Mat H' p vs rss := by
  refine ⟨M.len, ?_, fun i hi => ⟨(M.row i hi).1, ?_⟩, M.apart, M.off⟩
  · rw [hk _ hp]; exact M.out
  · rw [hk _ (hv i hi)]; exact (M.row i hi).2
theorem Off.keep {S : Nat → Prop} {H H1 H' : Hp} (o : Off S H H1) {lo : Nat} (hlo : H.length ≤ lo) (hl : H.length ≤ H'.length) (hk : ∀ k, k < lo → Qt H' k = Qt H1 k) : Off S H H' :=
  ⟨hl, fun k h1 h2 => by rw [hk k (by omega)]; exact o.2 k h1 h2⟩
set_option maxHeartbeats 4000000 in
theorem leading_calls (n p : Nat) (a : Nat → Nat → Int) (vs : List AV) (rss : List (List Int)) (H : Hp) (M : Mat H p vs rss) (S : St n 0 a rss) (h8 : n ≤ 8) (hB : ∀ i j, (a i j).natAbs ≤ 18446744073709551616) :
    ACalls Tryz.prog 50 [.sl p 0 n n] H fun r H' => WsV H' r (Yn a n 0) (H.length + 1) ∧ Off (fun h => ∃ i, i < n ∧ h = (vs.getD i .nilS).hd) H H' := by
  have hof := fun H0 => of_calls 1 H0 (by omega)
  have lp := Qr M.out
  have hrl : ∀ i, i < n → (vs.getD i .nilS).hd < H.length := fun i hi => Qr (M.row i (by rw [S.len]; exact hi)).2
  refine Q7 Tryz.func50 rfl (by kernel_rfl) (by kernel_rfl) ?_
  repeat' first
    | (with_reducible first | refine Jj (fun K hK => ?_) | refine Qc ?_ | refine Jg ?_)
    | ((with_reducible refine Jq (hof _) ?_); rintro _ _ ⟨rfl, rfl⟩)
    | (simp only [Q4, Jo, reduceIte, J0])
    | ((with_reducible refine hK _ _ ?_); clear hK)
    | (simp only [Q3, RA, Jn, Jm, Jp, Q2, Q0, ev, ofValue, Jt, J0, J3, J2, J4, reduceCtorEq, reduceIte, Ju, Qb, Qa, Jy, aun, Q9, Jk, Jh, Jx, Jw, Ji, Q8, Jf, Q1, Jr, Js, J1, J5, Ja, J9, Jb, J6, J7, Jd, J8, RB, Jv, Je, Kj])
    | (simp (disch := (first | omega | (simp only [RO]; done) | assumption | (simp only [RM, Je]; done) | (simp only [RL, Je]; omega))) only [RD, reduceCtorEq, reduceIte, Je, J1, J3, J2, J6, Kj])
  refine X2 (fun m fr' H1 => ∃ (k : Nat) (v : AV) (rss : List (List Int)) (ls : List Int), m = n - k ∧ k ≤ n ∧ fr' 0 = .sl p 0 n n ∧ fr' 3 = v ∧ fr' 4 = .ptr H.length 0 ∧ fr' 8 = .int .i64 (n : Int) ∧ fr' 9 = .int .i64 (k : Int) ∧
      St n k a rss ∧ Mat H1 p vs rss ∧ P a k ≠ 0 ∧ WsV H1 v ls (H.length + 1) ∧ ls.length = k ∧ ls ++ Yn a (n - k) k = Yn a n 0 ∧ Qt H1 H.length = some (Wb (P a k)) ∧ Off (fun h => ∃ i, i < n ∧ h = (vs.getD i .nilS).hd) H H1) (m := n)
    ⟨0, .nilS, rss, [], by omega, by omega, rfl, rfl, rfl, rfl, rfl, S, M.push _, by rw [Kz]; decide, .inl ⟨rfl, rfl⟩, rfl, rfl, Qo rfl, (Off.refl _ _).push _⟩ ?_
  clear M S
  rintro m fr' H1 ⟨k, v, rss, ls, rfl, hk, k0, k3, k4, k8, k9, S, M, hne, V, hls, hle, g4, O⟩
  have e1 : IntKind.i64.wrap ((k : Int) + 1) = ((k + 1 : Nat) : Int) := by rw [Q5 (by omega) (by omega)]; omega
  have l4 := Qr g4
  have hv1 : v.one = true := by rcases V with ⟨_, rfl⟩ | ⟨_, rfl, _⟩ <;> rfl
  by_cases hlt : k < n
  · have hkl : k < rss.length := by rw [S.len]; exact hlt
    have a1 := M.at0 hkl
    have a2 := M.idx hkl (k := .i64) (j := (k : Int)) (by omega) (by rw [S.wid k hlt]; omega)
    have a3 := M.get hkl (j := k) (by rw [S.wid k hlt]; exact hlt)
    rw [Int.toNat_natCast] at a2
    rw [S.get k k (Nat.le_refl _) hlt hlt, ← Kf (rho := a)] at a3
    obtain ⟨v', H2, g, V2, hkeep, hlen⟩ := V.append (by omega) (by omega) (P a (k + 1))
    have M2 := M.keep hkeep (by omega) (fun i hi => by rw [S.len] at hi; have := hrl i hi; omega)
    have O2 := O.keep (lo := H.length + 1) (by omega) (by omega) hkeep
    have g42 : Qt H2 H.length = some (Wb (P a k)) := by rw [hkeep _ (by omega)]; exact g4
    have hsg := sign_calls (P a (k + 1)) H2 (Nd (Kp hB (by omega)))
    have b1 := M2.at0 hkl
    have b2 := M2.idx hkl (k := .i64) (j := (k : Int)) (by omega) (by rw [S.wid k hlt]; omega)
    have b3 := M2.get hkl (j := k) (by rw [S.wid k hlt]; exact hlt)
    rw [Int.toNat_natCast] at b2
    rw [S.get k k (Nat.le_refl _) hlt hlt, ← Kf (rho := a)] at b3
    have hdr : List.drop 16 (List.map (AV.int .u64) (dig 16 0)) = [] := List.drop_eq_nil_of_le (by rw [Y1, dig_length]; exact Nat.le_refl _)
    have hall := V9 (k := .u64) (dig 16 (P a (k + 1)))
    by_cases hx : P a (k + 1) ≤ 0
    · have hs0 : ((P a (k + 1)).sign ≤ 0) = True := eq_true (by have := Int.sign_nonpos_iff.mpr hx; exact this)
      repeat' first
        | (with_reducible first | refine Jj (fun K hK => ?_) | refine Qc ?_ | refine Q6 ?_ | refine Qz ?_ | refine Qj ?_ | refine Jg ?_ | refine Jz ?_)
        | ((with_reducible refine Jq (hsg) ?_); rintro _ _ ⟨rfl, rfl⟩)
        | (with_reducible refine X5 (fun hc => ?_) (fun hc => ?_) <;> (try simp only [RC] at hc) <;> (try (exfalso; first | omega | contradiction)))
        | (simp only [Q4, Jo, reduceIte, J0])
        | ((with_reducible refine hK _ _ ?_); clear hK)
        | (clear hK; clear hK; (with_reducible refine hK _ _ ?_); clear hK)
        | (simp only [Q3, RA, Jn, Jm, Jp, Q2, Q0, ev, ofValue, Jt, J0, J3, J2, J4, reduceCtorEq, reduceIte, Ju, Qb, Qa, Jy, aun, Q9, Jk, Jh, Jx, Jw, Ji, Q8, Jf, Q1, Jr, Js, J1, J5, Ja, J9, Jb, J6, J7, Jd, J8, RB, Jv, Je, Kj, k0, k3, k4, k8, k9, a1, a2, a3, hdr, List.append_nil, hall, g, b1, b2, b3, hs0])
        | (simp (disch := first | omega | (simp only [RO]; done) | assumption) only [RS, Zm, Zn, Yi, Yk, Xs, Xq, Xr, Xp])
      all_goals
        (
         (refine Qg (rs := [.tmp 2]) rfl ?_)
         (simp only [Qx, Qd, Fr.put_some, Fr.put_none, Qe, Qf, Qi, J0, reduceIte])
         (try simp (disch := (first | omega | (simp only [RO]; done) | assumption | (simp only [RM, Je]; done) | (simp only [RL, Je]; omega))) only [RD, reduceCtorEq, reduceIte, Je, J1, J3, J2, J6, Kj]))
      all_goals
        rw [show n - k = (n - (k + 1)) + 1 by omega] at hle
        simp only [Yn, hx, if_true] at hle
        rw [hle] at V2
        exact ⟨V2, O2⟩
    · have hs0 : ((P a (k + 1)).sign ≤ 0) = False := eq_false (fun h => hx (Int.sign_nonpos_iff.mp h))
      repeat' first
        | (with_reducible first | refine Jj (fun K hK => ?_) | refine Qc ?_ | refine Q6 ?_ | refine Jg ?_ | refine Jz ?_)
        | ((with_reducible refine Jq (hsg) ?_); rintro _ _ ⟨rfl, rfl⟩)
        | (with_reducible refine X5 (fun hc => ?_) (fun hc => ?_) <;> (try simp only [RC] at hc) <;> (try (exfalso; first | omega | contradiction)))
        | (simp only [Q4, Jo, reduceIte, J0])
        | ((with_reducible refine hK _ _ ?_); clear hK)
        | (simp only [Q3, RA, Jn, Jm, Jp, Q2, Q0, ev, ofValue, Jt, J0, J3, J2, J4, reduceCtorEq, reduceIte, Ju, Qb, Qa, Jy, aun, Q9, Jk, Jh, Jx, Jw, Ji, Q8, Jf, Q1, Jr, Js, J1, J5, Ja, J9, Jb, J6, J7, Jd, J8, RB, Jv, Je, Kj, k0, k3, k4, k8, k9, a1, a2, a3, hdr, List.append_nil, hall, g, b1, b2, b3, hs0, g42])
        | (simp (disch := first | omega | (simp only [RO]; done) | assumption) only [RS, Zm, Zn, Yi, Yk, Xs, Xq, Xr, Xp])
        | (simp (disch := (first | omega | (simp only [RO]; done) | assumption | (simp only [RM, Je]; done) | (simp only [RL, Je]; omega))) only [RD, reduceCtorEq, reduceIte, Je, J1, J3, J2, J6, Kj, k0, k3, k4, k8, k9, a1, a2, a3, hdr, List.append_nil, hall, g, b1, b2, b3, hs0, g42])
      have hst := Step_calls p k vs rss (P a k) false n H2 M2 hkl (fun i hi => S.wid i (by rw [S.len] at hi; exact hi)) hlt (by rw [S.len]; omega) (by omega) (Nd (Kp hB (by omega))) hne (fun i j h1 h2 h3 h4 => S.fits h8 hlt hne hB i j h1 h2 h3 h4)
      have hsl := S.len
      have hr : AV.sl p 0 rss.length rss.length = AV.sl p 0 n n := by rw [hsl]
      rw [hr] at hst
      all_goals
        refine Jq hst ?_
        rintro r H4 ⟨rfl, M4, O4⟩
        have S4 := S.step hlt hne
        have hl2 : H.length < H2.length := by omega
        have g44 : Qt H4 H.length = some (Wb (P a k)) := by rw [O4.2 _ hl2 (fun ⟨i, hi, e⟩ => by have := hrl i (by omega); omega)]; exact g42
        have V4 : WsV H4 v' (ls ++ [P a (k + 1)]) (H.length + 1) := by
          rcases V2 with h | ⟨q, h1, h2, h3⟩
          · exact .inl h
          · exact .inr ⟨q, h1, by rw [O4.2 _ (Qr h2) (fun ⟨i, hi, e⟩ => by have := hrl i (by omega); omega)]; exact h2, h3⟩
        have O24 : Off (fun h => ∃ i, i < n ∧ h = (vs.getD i .nilS).hd) H H4 := ⟨by have := O4.1; omega, fun q h1 h2 => by
          rw [O4.2 q (by omega) (fun ⟨i, hi, e⟩ => h2 ⟨i, by omega, e⟩)]; exact O2.2 q h1 h2⟩
        have l44 := Qr g44
        have hl4 : k < (J0h rss k (P a k) false).length := by rw [S4.len]; exact hlt
        have hrk : (J0h rss k (P a k) false).getD k [] = rss.getD k [] := by unfold J0h; rw [Us _ _ _ _ _ _ hkl, if_neg (fun h => h.2.1 rfl)]
        have c1 := M4.at0 hl4
        have c2 := M4.idx hl4 (k := .i64) (j := (k : Int)) (by omega) (by rw [S4.wid k hlt]; omega)
        have c3 := M4.get hl4 (j := k) (by rw [S4.wid k hlt]; exact hlt)
        rw [Int.toNat_natCast] at c2
        rw [hrk, S.get k k (Nat.le_refl _) hlt hlt, ← Kf (rho := a)] at c3
        repeat' first
          | (with_reducible first | refine Jg ?_)
          | (simp only [Q4, Jo, reduceIte, J0])
          | ((with_reducible refine hK _ _ ?_); clear hK)
          | (simp only [Q3, RA, Jn, Jm, Jp, Q2, Q0, ev, ofValue, Jt, J0, J3, J2, J4, reduceCtorEq, reduceIte, Ju, Qb, Qa, Jy, aun, Q9, Jk, Jh, Jx, Jw, Ji, Q8, Jf, Q1, Jr, Js, J1, J5, Ja, J9, Jb, J6, J7, Jd, J8, RB, Jv, Je, Kj, k0, k3, k4, k8, k9, c1, c2, c3, g44, e1])
          | (simp (disch := first | omega | (simp only [RO]; done) | assumption) only [RS, Zm, Zn, Yi, Yk, Xs, Xq, Xr, Xp])
          | (simp (disch := (first | omega | (simp only [RO]; done) | assumption | (simp only [RM, Je]; done) | (simp only [RL, Je]; omega))) only [RD, reduceCtorEq, reduceIte, Je, J1, J3, J2, J6, Kj, k0, k3, k4, k8, k9, c1, c2, c3, g44, e1])
        have hle2 : (ls ++ [P a (k + 1)]) ++ Yn a (n - (k + 1)) (k + 1) = Yn a n 0 := by
          rw [show n - k = (n - (k + 1)) + 1 by omega] at hle
          simp only [Yn, hx, if_false] at hle
          rw [List.append_assoc]; exact hle
        refine ⟨_, by omega, k + 1, v', _, _, rfl, by omega, rfl, rfl, S4, M4.other l44 _ (by omega) (fun i hi => ?_), by omega, ?_, by rw [List.length_append, hls]; rfl, hle2, by rw [Qk l44, if_pos rfl], O24.set l44 _ (.inr (Nat.le_refl _))⟩
        · rw [S4.len] at hi; have := hrl i hi; omega
        · rcases V4 with h | ⟨q, h1, h2, h3⟩
          · exact .inl h
          · exact .inr ⟨q, h1, by rw [Qk l44, if_neg (by omega)]; exact h2, h3⟩
  · obtain rfl : n = k := by omega
    repeat' first
      | (with_reducible first | refine Jj (fun K hK => ?_) | refine Qz ?_ | refine Qj ?_ | refine Jg ?_ | refine Jz ?_)
      | (with_reducible refine X5 (fun hc => ?_) (fun hc => ?_) <;> (try simp only [RC] at hc) <;> (try (exfalso; first | omega | contradiction)))
      | (simp only [Q4, Jo, reduceIte, J0])
      | ((with_reducible refine hK _ _ ?_); clear hK)
      | (clear hK; (with_reducible refine hK _ _ ?_); clear hK)
      | (simp only [Q3, RA, Jn, Jm, Jp, Q2, Q0, ev, ofValue, Jt, J0, J3, J2, J4, reduceCtorEq, reduceIte, Ju, Qb, Qa, Jy, aun, Q9, Jk, Jh, Jx, Jw, Ji, Q8, Jf, Q1, Jr, Js, J1, J5, Ja, J9, Jb, J6, J7, Jd, J8, RB, Jv, Je, Kj, k0, k3, k4, k8, k9])
    (
     (refine Qg (rs := [.tmp 2]) rfl ?_)
     (simp only [Qx, Qd, Fr.put_some, Fr.put_none, Qe, Qf, Qi, J0, reduceIte])
     (try simp (disch := (first | omega | (simp only [RO]; done) | assumption | (simp only [RM, Je]; done) | (simp only [RL, Je]; omega))) only [RD, reduceCtorEq, reduceIte, Je, J1, J3, J2, J6, Kj]))
    rw [Nat.sub_self] at hle
    simp only [Yn, List.append_nil] at hle
    rw [hle] at V
    exact ⟨V, O⟩
end Go.Proofs.YtfalfmfkifemeaaGreatDoor
namespace Go.Proofs.YtfalfmfkifemeaaGreatDoor
open Go.AL Go.PW Go.PD
theorem R6 : type_of% (Jc @Xd (Jc @X1 (Jc @Z3 (Jc @Z2 (Jc @Yo (@Vw)))))) := Jc @Xd (Jc @X1 (Jc @Z3 (Jc @Z2 (Jc @Yo (@Vw)))))
set_option maxRecDepth 8000
theorem WsV.rd {H : Hp} {v : AV} {ls : List Int} {lo : Nat} (h : WsV H v ls lo) : Rd H 16 v ((Xy ls).map (AV.int .u64)) ls.length := by
  rcases h with ⟨rfl, rfl⟩ | ⟨k, rfl, hg, _⟩
  · exact Rd.nil _ _
  · have hcl : ((Xy ls).map (AV.int .u64)).length = ls.length * 16 := by rw [Y1, K0]
    refine ⟨?_, rfl⟩
    simp only [arow, hg]
    rw [if_neg (by decide), if_pos (by omega), List.drop_zero, List.take_of_length_le (by omega)]
theorem WsV.get {H : Hp} {v : AV} {ls : List Int} {lo : Nat} (h : WsV H v ls lo) {i : Nat} (hi : i < ls.length) : Yq Tryz.prog H 33 (.ptr v.hd (v.of + i * 16)) = some (W (ls.getD i 0)) := by
  rw [Rd.loads h.rd agg33 Wr hi, ← List.map_drop, ← List.map_take, J0v _ _ hi]
theorem lead_pos (a : Nat → Nat → Int) : ∀ c k, ((Yn a c k).length = c ∧ (c = 0 ∨ 0 < (Yn a c k).getD (c - 1) 0)) ↔ ∀ m, k < m → m ≤ k + c → 0 < P a m
  | 0, k => by
    simp only [Yn, List.length_nil, true_and, true_or, true_iff]
    intro m h1 h2; omega
  | c + 1, k => by
    have ih := lead_pos a c (k + 1)
    have hs : (∀ m, k < m → m ≤ k + (c + 1) → 0 < P a m) ↔ 0 < P a (k + 1) ∧ ∀ m, k + 1 < m → m ≤ k + 1 + c → 0 < P a m := by
      constructor
      · intro h; exact ⟨h _ (by omega) (by omega), fun m h1 h2 => h m (by omega) (by omega)⟩
      · rintro ⟨h1, h2⟩ m h3 h4
        by_cases e : m = k + 1
        · rw [e]; exact h1
        · exact h2 m (by omega) (by omega)
    rw [hs]
    simp only [Yn, List.length_cons, Nat.add_sub_cancel]
    by_cases hx : P a (k + 1) ≤ 0
    · simp only [hx, if_true, List.length_nil]
      constructor
      · rintro ⟨h1, h2⟩
        obtain rfl : c = 0 := by omega
        rcases h2 with h2 | h2
        · omega
        · simp at h2; omega
      · rintro ⟨h1, _⟩; omega
    · simp only [hx, if_false]
      rw [← ih]
      have hx' : 0 < P a (k + 1) := by omega
      constructor
      · rintro ⟨h1, h2⟩
        refine ⟨hx', by omega, ?_⟩
        cases c with
        | zero => exact .inl rfl
        | succ c =>
          rcases h2 with h2 | h2
          · omega
          · right; simpa using h2
      · rintro ⟨_, h1, h2⟩
        refine ⟨by omega, .inr ?_⟩
        cases c with
        | zero => simpa using hx'
        | succ c =>
          rcases h2 with h2 | h2
          · omega
          · simpa using h2
theorem lead_get (a : Nat → Nat → Int) : ∀ c k i, i < (Yn a c k).length → (Yn a c k).getD i 0 = P a (k + 1 + i)
  | 0, k, i, h => by simp [Yn] at h
  | c + 1, k, i, h => by
    simp only [Yn, List.length_cons] at h ⊢
    cases i with
    | zero => simp
    | succ i =>
      rw [List.getD_cons_succ]
      by_cases hx : P a (k + 1) ≤ 0
      · simp [hx] at h
      · simp only [hx, if_false] at h ⊢
        rw [lead_get a c (k + 1) i (by omega)]
        congr 1; omega
def Ks (a : Nat → Nat → Int) (n : Nat) : Bool := decide ((Yn a n 0).length = n ∧ (n = 0 ∨ 0 < (Yn a n 0).getD (n - 1) 0))
theorem Gf (a : Nat → Nat → Int) (n : Nat) : Ks a n = true ↔ ∀ m, m ≤ n → 0 < P a m := by
  unfold Ks
  rw [decide_eq_true_iff, lead_pos]
  constructor
  · intro h m hm
    rcases Nat.eq_zero_or_pos m with rfl | h0
    · rw [Kz]; decide
    · exact h m h0 (by omega)
  · intro h m _ h2; exact h m (by omega)
set_option maxHeartbeats 4000000 in
theorem Positive_calls (n p : Nat) (a : Nat → Nat → Int) (vs : List AV) (rss : List (List Int)) (H : Hp) (M : Mat H p vs rss) (S : St n 0 a rss) (h8 : n ≤ 8) (hB : ∀ i j, (a i j).natAbs ≤ 18446744073709551616) :
    ACalls Tryz.prog 53 [.sl p 0 n n] H fun r H' => r = .bool (Ks a n) ∧ Off (fun h => ∃ i, i < n ∧ h = (vs.getD i .nilS).hd) H H' := by
  have hL := Wj a n 0
  refine Q7 Tryz.func53 rfl (by kernel_rfl) (by kernel_rfl) ?_
  repeat' first
    | (with_reducible first | refine Jj (fun K hK => ?_) | refine Jg ?_)
    | (simp only [Q4, Jo, reduceIte, J0])
    | ((with_reducible refine hK _ _ ?_); clear hK)
    | (simp only [Q3, RA, Jn, Jm, Jp, Q2, Q0, ev, ofValue, Jt, J0, J3, J2, J4, reduceCtorEq, reduceIte, Ju, Qb, Qa, Jy, aun, Q9, Jk, Jh, Jx, Jw, Ji, Q8, Jf, Q1, Jr, Js, J1, J5, Ja, J9, Jb, J6, J7, Jd, J8, RB, Jv, Je, R6])
  refine Jq (leading_calls n p a vs rss H M S h8 hB) ?_
  rintro v H1 ⟨V, O⟩
  have hlen := V.rd.len Wh
  have hp : Ks a n = decide ((Yn a n 0).length = n ∧ (n = 0 ∨ 0 < (Yn a n 0).getD (n - 1) 0)) := rfl
  have hb : In ((Yn a n 0).getD (n - 1) 0) := by
    rcases Nat.lt_or_ge (n - 1) (Yn a n 0).length with h | h
    · rw [lead_get _ _ _ _ h]; exact Nd (Kp hB (by omega))
    · rw [List.getD_eq_getElem?_getD, List.getElem?_eq_none h]; exact In.zero
  generalize Yn a n 0 = ls at *
  by_cases h1 : ls.length = n
  · have e1 : ((ls.length : Int) = (n : Int)) = True := eq_true (by omega)
    rcases Nat.eq_zero_or_pos n with h0 | h0
    · have e2 : ((ls.length : Int) = 0) = True := eq_true (by omega)
      repeat' first
        | (with_reducible first | refine Jj (fun K hK => ?_) | refine Qj ?_ | refine Jg ?_)
        | (with_reducible refine Qn (fun hc => ?_) (fun hc => ?_) <;> (try simp only [RC] at hc) <;> (try (exfalso; first | omega | contradiction)))
        | (simp only [Q4, Jo, reduceIte, J0])
        | ((with_reducible refine hK _ _ ?_); clear hK)
        | (simp only [Q3, RA, Jn, Jm, Jp, Q2, Q0, ev, ofValue, Jt, J0, J3, J2, J4, reduceCtorEq, reduceIte, Ju, Qb, Qa, Jy, aun, Q9, Jk, Jh, Jx, Jw, Ji, Q8, Jf, Q1, Jr, Js, J1, J5, Ja, J9, Jb, J6, J7, Jd, J8, RB, Jv, Je, R6, hlen, e1, e2])
      all_goals
        (
         (refine Qg (rs := [.tmp 2]) rfl ?_)
         (simp only [Qx, Qd, Fr.put_some, Fr.put_none, Qe, Qf, Qi, J0, reduceIte])
         (try simp (disch := (first | omega | (simp only [RO]; done) | assumption | (simp only [RM, Je]; done) | (simp only [RL, Je]; omega))) only [RD, reduceCtorEq, reduceIte, Je, J1, J3, J2, J6, R6]))
      all_goals exact ⟨by rw [hp, decide_eq_true ⟨h1, .inl h0⟩], O⟩
    · have e2 : ((ls.length : Int) = 0) = False := eq_false (by omega)
      have w1 : IntKind.i64.wrap ((ls.length : Int) - 1) = ((n - 1 : Nat) : Int) := by rw [Q5 (by omega) (by omega)]; omega
      have a1 := V.rd.at_ Wh Wr (k := .i64) (j := ((n - 1 : Nat) : Int)) (by omega) (by omega)
      have a2 := V.get (i := n - 1) (by omega)
      rw [Int.toNat_natCast] at a1
      have hsg := sign_calls (ls.getD (n - 1) 0) H1 hb
      repeat' first
        | (with_reducible first | refine Jj (fun K hK => ?_) | refine Qj ?_ | refine Jg ?_)
        | ((with_reducible refine Jq (hsg) ?_); rintro _ _ ⟨rfl, rfl⟩)
        | (with_reducible refine Qn (fun hc => ?_) (fun hc => ?_) <;> (try simp only [RC] at hc) <;> (try (exfalso; first | omega | contradiction)))
        | (simp only [Q4, Jo, reduceIte, J0])
        | ((with_reducible refine hK _ _ ?_); clear hK)
        | (simp only [Q3, RA, Jn, Jm, Jp, Q2, Q0, ev, ofValue, Jt, J0, J3, J2, J4, reduceCtorEq, reduceIte, Ju, Qb, Qa, Jy, aun, Q9, Jk, Jh, Jx, Jw, Ji, Q8, Jf, Q1, Jr, Js, J1, J5, Ja, J9, Jb, J6, J7, Jd, J8, RB, Jv, Je, R6, hlen, e1, e2, w1, a1, a2])
      all_goals
        (
         (refine Qg (rs := [.tmp 2]) rfl ?_)
         (simp only [Qx, Qd, Fr.put_some, Fr.put_none, Qe, Qf, Qi, J0, reduceIte])
         (try simp (disch := (first | omega | (simp only [RO]; done) | assumption | (simp only [RM, Je]; done) | (simp only [RL, Je]; omega))) only [RD, reduceCtorEq, reduceIte, Je, J1, J3, J2, J6, R6]))
      all_goals
        refine ⟨?_, O⟩
        rw [hp]
        congr 1
        refine decide_eq_decide.mpr ?_
        rw [Int.sign_pos_iff]
        exact ⟨fun h => ⟨h1, .inr h⟩, fun h => h.2.resolve_left (by omega)⟩
  · have e1 : ((ls.length : Int) = (n : Int)) = False := eq_false (by omega)
    repeat' first
      | (with_reducible first | refine Jj (fun K hK => ?_) | refine Qj ?_ | refine Jg ?_)
      | (with_reducible refine Qn (fun hc => ?_) (fun hc => ?_) <;> (try simp only [RC] at hc) <;> (try (exfalso; first | omega | contradiction)))
      | (simp only [Q4, Jo, reduceIte, J0])
      | ((with_reducible refine hK _ _ ?_); clear hK)
      | (simp only [Q3, RA, Jn, Jm, Jp, Q2, Q0, ev, ofValue, Jt, J0, J3, J2, J4, reduceCtorEq, reduceIte, Ju, Qb, Qa, Jy, aun, Q9, Jk, Jh, Jx, Jw, Ji, Q8, Jf, Q1, Jr, Js, J1, J5, Ja, J9, Jb, J6, J7, Jd, J8, RB, Jv, Je, R6, hlen, e1])
    all_goals
      (
       (refine Qg (rs := [.tmp 2]) rfl ?_)
       (simp only [Qx, Qd, Fr.put_some, Fr.put_none, Qe, Qf, Qi, J0, reduceIte])
       (try simp (disch := (first | omega | (simp only [RO]; done) | assumption | (simp only [RM, Je]; done) | (simp only [RL, Je]; omega))) only [RD, reduceCtorEq, reduceIte, Je, J1, J3, J2, J6, R6]))
    all_goals exact ⟨by rw [hp, decide_eq_false (fun h => h1 h.1)], O⟩
end Go.Proofs.YtfalfmfkifemeaaGreatDoor
namespace Go.Proofs.YtfalfmfkifemeaaGreatDoor
open Go.AL Go.PW Go.PD
set_option maxRecDepth 8000
theorem WsV.low {H : Hp} {v : AV} {ls : List Int} {lo lo' : Nat} (h : WsV H v ls lo) (hl : lo' ≤ lo) : WsV H v ls lo' := by
  rcases h with h | ⟨k, h1, h2, h3⟩
  · exact .inl h
  · exact .inr ⟨k, h1, h2, by omega⟩
end Go.Proofs.YtfalfmfkifemeaaGreatDoor

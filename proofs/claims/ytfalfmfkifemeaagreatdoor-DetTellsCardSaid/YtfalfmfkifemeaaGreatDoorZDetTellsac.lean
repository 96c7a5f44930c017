/- Part 3 of the proof of the law DetTells: lemmas on the model's code, on this program's functions, on numbers. No condition. -/
import Derived.Test.YtfalfmfkifemeaaGreatDoorZDetTellsab
import Derived.OpenShut
set_option linter.unusedVariables false
set_option linter.unusedSimpArgs false
open Nat renaming reduceEqDiff → J0, reduceLeDiff → J1, reduceMul → J2, reduceAdd → J3, reduceSub → J4, reduceLT → J5
open Int renaming reduceToNat → J6, reducePow → J7, reduceNeg → J8, reduceLT → J9, reduceLE → Ja, reduceEq → Jb
open And renaming intro → Jc
open Go.IntKind renaming bits → Jd
open Go.PW renaming dig_length → Je
namespace Go.Proofs.YtfalfmfkifemeaaGreatDoor
open Go.AL Go.PW Go.PD
theorem Gs : type_of% (Jc @Z8 (Jc @Xd (Jc @Xz (Jc @Xx (Jc @Xw (Jc @Xv (Jc @X1 (Jc @Z3 (Jc @Z2 (Jc @Yd (Jc @Yc (Jc @Yo (Jc @Xj (Jc @Za (@Z9))))))))))))))) := Jc @Z8 (Jc @Xd (Jc @Xz (Jc @Xx (Jc @Xw (Jc @Xv (Jc @X1 (Jc @Z3 (Jc @Z2 (Jc @Yd (Jc @Yc (Jc @Yo (Jc @Xj (Jc @Za (@Z9))))))))))))))
abbrev pn10_5LdB : Plan := (.one 0 (.one 1 (.one 2 (.one 3 (.one 4 (.one 5 (.one 6 (.one 7 (.ext 8 (.one 9 (.one 10 (.one 11 (.one 12 (.one 13 (.one 14 (.one 15 (.one 16 (.one 17 (.one 18 (.one 19 (.one 20 (.one 21 (.one 22 (.one 23 (.one 24 (.one 25 (.one 26 (.one 27 (.one 28 (.one 29 (.one 30 .nil)))))))))))))))))))))))))))))))
set_option maxRecDepth 8000
theorem not_right_nil : ¬ Right (1 : Int) [] := fun h => by have := h.1.2.2; simp at this
theorem right_o1 (x : Int) (h : Fit x) : Right (1 : Nat) [x] := ⟨⟨by omega, by omega, by rfl⟩, fun y hy => by rw [List.mem_singleton.1 hy]; exact h⟩
theorem ints_o1 (H : Hp) (x : Int) : Ints (H ++ [Ib [x]]) .i64 (.sl H.length 0 1 1) [x] := Ints.lit H (by decide) rfl
theorem ints_lit3 (H : Hp) : Ints (H ++ [Ib [2, 1, 2]]) .i64 (.sl H.length 0 3 3) [2, 1, 2] := Ints.lit H (by decide) rfl
set_option maxHeartbeats 8000000 in
theorem known6_calls (H : Hp) (hN : Noted H) : ACalls Tryz.prog 10 [] H fun r H' => r = .bool true ∧ H = H' := by
  refine ACalls.drop (R := fun r => r = .bool true) ?_
  obtain ⟨a, ha⟩ : ∃ a : AV, a = .sl H.length 0 3 3 := ⟨_, rfl⟩
  have I : Ints (H ++ [Ib [2, 1, 2]]) .i64 a [2, 1, 2] := by rw [ha]; exact ints_lit3 H
  have R3 : Right (2 : Nat) [2, 1, 2] := ⟨⟨by omega, by omega, by rfl⟩, fun x hx => by
    simp only [List.mem_cons, List.not_mem_nil, or_false] at hx
    unfold Fit
    rcases hx with rfl | rfl | rfl <;> omega⟩
  have d1 : P (ent 2 [2, 1, 2]) 2 = 3 := by decide +kernel
  have d2 : (Yn (ent 2 [2, 1, 2]) 2 0).length = 2 := by decide +kernel
  have d3 : Ks (ent 2 [2, 1, 2]) 2 = true := by decide +kernel
  have d4 : Ks (ent 1 [0]) 1 = false := by decide +kernel
  have D1 := fun H0 (x0 : Ext (H ++ [Ib [2, 1, 2]]) H0) => Det_calls 2 [2, 1, 2] a H0 (I.ext x0) R3
  have D2 := fun H0 (x0 : Ext (H ++ [Ib [2, 1, 2]]) H0) => Definite_calls 2 [2, 1, 2] a H0 (I.ext x0) R3
  have D3 := fun H0 (x0 : Ext (H ++ [Ib [2, 1, 2]]) H0) => Minors_calls 2 [2, 1, 2] a H0 (I.ext x0) R3
  rw [d1] at D1
  rw [d3] at D2
  have ha1 : a.one = true := by rw [ha]; rfl
  have hc : a.cells = [a] := AV.cells_one ha1
  simp only [Int.cast_ofNat_Int] at D1 D2 D3
  refine Q7 Tryz.func10 rfl (by kernel_rfl) (by kernel_rfl) ?_
  repeat' first
    | (with_reducible first | refine Jj (fun K hK => ?_) | refine Jg ?_)
    | ((with_reducible refine Jq (D1 _ (Ext.push _ _)) ?_); rintro _ _ ⟨rfl, rfl⟩)
    | (simp only [Q4, Jo, reduceIte, J0])
    | ((with_reducible refine hK _ _ ?_); clear hK)
    | (simp only [Q3, RA, Jn, Jm, Jp, Q2, Q0, ev, ofValue, Jt, J0, J3, J2, J4, reduceCtorEq, reduceIte, Ju, Qb, Qa, Jy, aun, Q9, Jk, Jh, Jx, Jw, Ji, Q8, Jf, Q1, Jr, Js, J1, J5, Ja, J9, Jb, J6, J7, Jd, J8, RB, Jv, Je, Gs, ← ha])
    | (simp (disch := first | omega | (simp only [RO]; done) | assumption) only [RS, X8, X9, Zm, Zn, X6, X7, Xs, Xq, Xr, Xp, Qu, Qv, Qq, X4, X0])
    | (simp (disch := (first | omega | (simp only [RO]; done) | assumption | (simp only [RM, Je]; done) | (simp only [RL, Je]; omega))) only [RD, reduceCtorEq, reduceIte, Je, J1, J3, J2, J6, Gs, ← ha])
  refine Jq (D3 _ (((Ext.push _ _).pushed _))) ?_
  rintro _ H2 ⟨v, rfl, V, x2⟩
  have q1 : Qt H2 (H.length + 1) = some (Sb 2 a) := Qh (by rw [Qp (by simp), Qo (by simp)]) x2
  have q2 : Qt H2 (H.length + 1 + 1) = some (Wb 3) := Qh (Qo (by simp)) x2
  have hv1 : v.one = true := V.rd.one
  have hcv : v.cells = [v] := AV.cells_one hv1
  repeat' first
    | (with_reducible first | refine Jj (fun K hK => ?_) | refine Jg ?_)
    | (simp only [Q4, Jo, reduceIte, J0])
    | ((with_reducible refine hK _ _ ?_); clear hK)
    | (simp only [Q3, RA, Jn, Jm, Jp, Q2, Q0, ev, ofValue, Jt, J0, J3, J2, J4, reduceCtorEq, reduceIte, Ju, Qb, Qa, Jy, aun, Q9, Jk, Jh, Jx, Jw, Ji, Q8, Jf, Q1, Jr, Js, J1, J5, Ja, J9, Jb, J6, J7, Jd, J8, RB, Jv, Je, Gs, q1])
    | (simp (disch := first | omega | (simp only [RO]; done) | assumption) only [RS, X8, X9, Zm, Zn, X6, X7, Xs, Xq, Xr, Xp, Qu, Qv, Qq, X4, X0])
  refine Jq (Det_bad 1 [] .nilS _ (Ints.nil _ _) (by simp) not_right_nil) ?_
  rintro _ H3 ⟨e, rfl, E, x3⟩
  have he1 : e.one = true := by obtain ⟨k, rfl, _⟩ := E; rfl
  have hce : e.cells = [e] := AV.cells_one he1
  have x0 : Ext H (H3 ++ [Wb 0]) := (((((Ext.push _ _).pushed _).pushed _).trans x2).trans x3).pushed _
  have q13 := Qh (Qh q1 x3) (Ext.push H3 (Wb 0))
  have q23 := Qh (Qh q2 x3) (Ext.push H3 (Wb 0))
  have hlen := V.len
  rw [d2] at hlen
  repeat' first
    | (with_reducible first | refine Jj (fun K hK => ?_) | refine Qw (id := 5) [8] pn10_5LdB (by kernel_rfl) (by kernel_rfl) ?_ | refine Z1 ?_)
    | (simp only [Q4, Jo, reduceIte, J0])
    | ((with_reducible refine hK _ _ ?_); clear hK)
    | (simp only [Q3, RA, Jn, Jm, Jp, Q2, Q0, ev, ofValue, Jt, J0, J3, J2, J4, reduceCtorEq, reduceIte, Ju, Qb, Qa, Jy, aun, Q9, Jk, Jh, Jx, Jw, Ji, Q8, Jf, Q1, Jr, Js, J1, J5, Ja, J9, Jb, J6, J7, Jd, J8, RB, Jv, Je, Gs, Zy Yt, q13, q23, hlen])
    | (simp (disch := (first | omega | (simp only [RO]; done) | assumption | (simp only [RM, Je]; done) | (simp only [RL, Je]; omega))) only [RD, reduceCtorEq, reduceIte, Je, J1, J3, J2, J6, Gs, Zy Yt, q13, q23, hlen])
  all_goals
    refine Xi (Of_calls 3 _ (by omega)) ?_
    rintro _ H4 ⟨s, rfl, S, x4⟩
    refine ⟨x4, ?_⟩
    have hos : s.one = true := S.one
    have hcs : s.cells = [s] := S.cells
    have q14 := Qh q13 x4
    have q15 : Qt (H4 ++ [⟨[.int .i64 0], .own, 2⟩]) (H.length + 1) = some (Sb 2 a) := Qh q14 (Ext.push _ _)
    have E4 : Err H4 e elimS 23 := (E.push _).ext x4
    have N4 : Noted H4 := (hN.ext x0).ext x4
    have S4 := says6_err 23 23 e H4 E4 N4 (by omega) (by omega)
    rw [decide_eq_true rfl] at S4
    have xx : Ext (H ++ [Ib [2, 1, 2]]) H4 := ((((((Ext.push _ _).pushed _).trans x2).trans x3).pushed _).trans x4)
    have D2' := D2 _ xx
    have D4 := Definite_calls 1 [0] (.sl H4.length 0 1 1) (H4 ++ [Ib [0]]) (ints_o1 H4 0) (right_o1 0 (by unfold Fit; omega))
    rw [d4] at D4
    simp only [Int.cast_ofNat_Int, Ib, List.map_cons, List.map_nil] at D4
    have hW := HWide_calls 3 s H4 S (by decide)
    repeat' first
      | (with_reducible first | refine Qj ?_)
      | ((with_reducible refine Jq (hW) ?_); rintro _ _ ⟨rfl, rfl⟩)
      | ((with_reducible refine Jq (S4) ?_); rintro _ _ ⟨rfl, rfl⟩)
      | ((with_reducible refine Jq (D2') ?_); rintro _ _ ⟨rfl, rfl⟩)
      | ((with_reducible refine Jq (D4) ?_); rintro _ _ ⟨rfl, rfl⟩)
      | (simp only [Q4, Jo, reduceIte, J0])
      | ((with_reducible refine hK _ _ ?_); clear hK)
      | (simp only [Q3, RA, Jn, Jm, Jp, Q2, Q0, ev, ofValue, Jt, J0, J3, J2, J4, reduceCtorEq, reduceIte, Ju, Qb, Qa, Jy, aun, Q9, Jk, Jh, Jx, Jw, Ji, Q8, Jf, Q1, Jr, Js, J1, J5, Ja, J9, Jb, J6, J7, Jd, J8, RB, Jv, Je, Gs, q14, q15, hlen])
      | (simp (disch := first | omega | (simp only [RO]; done) | assumption) only [RS, X8, X9, Zm, Zn, X6, X7, Xs, Xq, Xr, Xp, Qu, Qv, Qq, X4, X0])
      | (simp (disch := (first | omega | (simp only [RO]; done) | assumption | (simp only [RM, Je]; done) | (simp only [RL, Je]; omega))) only [RD, reduceCtorEq, reduceIte, Je, J1, J3, J2, J6, Gs, q14, q15, hlen])
  all_goals
    (
     (refine Qg (rs := [.tmp 0]) rfl ?_)
     (simp only [Qx, Qd, Fr.put_some, Fr.put_none, Qe, Qf, Qi, J0, reduceIte])
     (try simp (disch := (first | omega | (simp only [RO]; done) | assumption | (simp only [RM, Je]; done) | (simp only [RL, Je]; omega))) only [RD, reduceCtorEq, reduceIte, Je, J1, J3, J2, J6, Gs]))
  all_goals exact ⟨(x0.trans x4).pushed _, trivial⟩
end Go.Proofs.YtfalfmfkifemeaaGreatDoor
namespace Go.Proofs.YtfalfmfkifemeaaGreatDoor
open Go.AL Go.PW Go.PD
theorem tf20LdF : type_of% (Jc @Xd (Jc @Xz (Jc @X1 (Jc @Z3 (Jc @Z2 (Jc @Yo (Jc @Xj (Jc @Za (Jc @Z9 (@Vx)))))))))) := Jc @Xd (Jc @Xz (Jc @X1 (Jc @Z3 (Jc @Z2 (Jc @Yo (Jc @Xj (Jc @Za (Jc @Z9 (@Vx)))))))))
abbrev pn20_6LdF : Plan := (.one 0 (.one 1 (.one 2 (.one 3 (.one 4 (.one 5 (.one 6 (.one 7 (.one 8 (.one 9 .nil))))))))))
set_option maxRecDepth 8000
set_option maxHeartbeats 4000000 in
theorem HWides_calls (ls : List Int) (l : List (Int × AV)) (v w : AV) (lo lo' : Nat) (H : Hp) (V : WsV H v ls lo) (B : BsV H w l lo') (hl : l.map Prod.fst = ls) (hb : ∀ x ∈ ls, (x.natAbs : Int) < Bs ^ 15) (hn : ls.length < 1000000) : ACalls Tryz.prog 20 [v, w] H fun r H' => r = .bool true ∧ H = H' := by
  have h1 := V.rd.len Wh
  have h2 := B.rd.len Kq
  have hll : l.length = ls.length := by rw [← hl, List.length_map]
  rw [hll] at h2
  refine Q7 Tryz.func20 rfl (by kernel_rfl) (by kernel_rfl) ?_
  repeat' first
    | (with_reducible first | refine Jj (fun K hK => ?_) | refine Qc ?_ | refine Q6 ?_ | refine Jg ?_ | refine Jz ?_)
    | (simp only [Q4, Jo, reduceIte, J0])
    | ((with_reducible refine hK _ _ ?_); clear hK)
    | (simp only [Q3, RA, Jn, Jm, Jp, Q2, Q0, ev, ofValue, Jt, J0, J3, J2, J4, reduceCtorEq, reduceIte, Ju, Qb, Qa, Jy, aun, Q9, Jk, Jh, Jx, Jw, Ji, Q8, Jf, Q1, Jr, Js, J1, J5, Ja, J9, Jb, J6, J7, Jd, J8, RB, Jv, Je, tf20LdF, h1, h2])
  refine X2 (fun m fr' H1 => ∃ i : Nat, m = ls.length - i ∧ i ≤ ls.length ∧ fr' 0 = v ∧ fr' 1 = w ∧ fr' 5 = .int .i64 (i : Int) ∧ H = H1) (m := ls.length) ⟨0, by omega, by omega, rfl, rfl, rfl, rfl⟩ ?_
  rintro m fr' H1 ⟨i, rfl, hi, k0, k1, k5, rfl⟩
  have e1 : IntKind.i64.wrap ((i : Int) + 1) = ((i + 1 : Nat) : Int) := by rw [Q5 (by omega) (by omega)]; omega
  by_cases hlt : i < ls.length
  · have a1 := V.rd.at_ Wh Wr (k := .i64) (j := (i : Int)) (by omega) (by omega)
    have a2 := V.get (i := i) hlt
    have b1 := B.rd.at_ Kq Kv (k := .i64) (j := (i : Int)) (by omega) (by omega)
    have b2 := B.get (i := i) (by omega)
    have Sb := B.big _ (J1o (i := i) (l := l) (by omega))
    rw [vals_get, hl] at b2
    rw [Int.toNat_natCast] at a1 b1
    have hv : (l.getD i (0, .nilS)).1 = ls.getD i 0 := by rw [vals_get, hl]
    rw [hv] at Sb
    have hW := HWide_calls (ls.getD i 0) _ H Sb (hb _ (Wy hlt))
    repeat' first
      | (with_reducible first | refine Jj (fun K hK => ?_) | refine Qc ?_ | refine Q6 ?_ | refine Jg ?_ | refine Qw (id := 6) [] pn20_6LdF (by kernel_rfl) (by kernel_rfl) ?_ | refine Jz ?_)
      | ((with_reducible refine Jq (hW) ?_); rintro _ _ ⟨rfl, rfl⟩)
      | (with_reducible refine X5 (fun hc => ?_) (fun hc => ?_) <;> (try simp only [RC] at hc) <;> (try (exfalso; first | omega | contradiction)))
      | (simp only [Q4, Jo, reduceIte, J0])
      | ((with_reducible refine hK _ _ ?_); clear hK)
      | (simp only [Q3, RA, Jn, Jm, Jp, Q2, Q0, ev, ofValue, Jt, J0, J3, J2, J4, reduceCtorEq, reduceIte, Ju, Qb, Qa, Jy, aun, Q9, Jk, Jh, Jx, Jw, Ji, Q8, Jf, Q1, Jr, Js, J1, J5, Ja, J9, Jb, J6, J7, Jd, J8, RB, Jv, Je, tf20LdF, k0, k1, k5, h1, a1, a2, b1, b2, e1])
    all_goals exact ⟨_, by omega, i + 1, rfl, by omega, rfl⟩
  · obtain rfl : i = ls.length := by omega
    repeat' first
      | (with_reducible first | refine Jj (fun K hK => ?_) | refine Qz ?_ | refine Qj ?_ | refine Jg ?_ | refine Jz ?_)
      | (with_reducible refine X5 (fun hc => ?_) (fun hc => ?_) <;> (try simp only [RC] at hc) <;> (try (exfalso; first | omega | contradiction)))
      | (simp only [Q4, Jo, reduceIte, J0])
      | ((with_reducible refine hK _ _ ?_); clear hK)
      | (clear hK; (with_reducible refine hK _ _ ?_); clear hK)
      | (simp only [Q3, RA, Jn, Jm, Jp, Q2, Q0, ev, ofValue, Jt, J0, J3, J2, J4, reduceCtorEq, reduceIte, Ju, Qb, Qa, Jy, aun, Q9, Jk, Jh, Jx, Jw, Ji, Q8, Jf, Q1, Jr, Js, J1, J5, Ja, J9, Jb, J6, J7, Jd, J8, RB, Jv, Je, tf20LdF, k0, k1, k5, h1])
    (
     (refine Qg (rs := [.tmp 4]) rfl ?_)
     (simp only [Qx, Qd, Fr.put_some, Fr.put_none, Qe, Qf, Qi, J0, reduceIte])
     (try simp (disch := (first | omega | (simp only [RO]; done) | assumption | (simp only [RM, Je]; done) | (simp only [RL, Je]; omega))) only [RD, reduceCtorEq, reduceIte, Je, J1, J3, J2, J6, tf20LdF]))
end Go.Proofs.YtfalfmfkifemeaaGreatDoor
namespace Go.Proofs.YtfalfmfkifemeaaGreatDoor
open Go.AL Go.PW Go.PD
theorem Ze : type_of% (Jc @Z8 (Jc @Xd (Jc @Xz (Jc @tyb5 (Jc @Xx (Jc @Xw (Jc @Xv (Jc @Rv (Jc @Ru (Jc @tyb30 (Jc @X1 (Jc @Z3 (Jc @Z2 (Jc @Yd (Jc @Yc (Jc @Yo (Jc @Xj (Jc @Za (Jc @Z9 (Jc @Vx (Jc @Rt (@J1w)))))))))))))))))))))) := Jc @Z8 (Jc @Xd (Jc @Xz (Jc @tyb5 (Jc @Xx (Jc @Xw (Jc @Xv (Jc @Rv (Jc @Ru (Jc @tyb30 (Jc @X1 (Jc @Z3 (Jc @Z2 (Jc @Yd (Jc @Yc (Jc @Yo (Jc @Xj (Jc @Za (Jc @Z9 (Jc @Vx (Jc @Rt (@J1w)))))))))))))))))))))
abbrev pn3_8LdG : Plan := (.one 0 (.one 1 (.one 2 (.one 3 (.one 4 (.one 5 (.one 6 (.one 7 (.one 8 (.one 9 (.one 10 (.one 11 .nil))))))))))))
abbrev pn3_17LdG : Plan := (.one 0 (.one 1 (.one 2 (.one 3 (.one 4 (.one 5 (.one 6 (.one 7 (.one 8 (.ext 9 (.one 10 (.one 11 (.one 12 (.one 13 (.one 14 (.one 15 (.one 16 (.one 17 (.one 18 (.one 19 (.one 20 (.one 21 (.one 23 (.ext 22 (.one 24 (.one 25 (.one 26 .nil)))))))))))))))))))))))))))
set_option maxRecDepth 8000
theorem P_fits {n : Nat} {xs : List Int} (hr : Right n xs) {k : Nat} (hk : k ≤ 8) : ((P (ent n xs) k).natAbs : Int) < Bs ^ 15 := by
  have h := Kp (Vi hr) hk
  have h2 : (2 ^ 530 : Nat) < 18446744073709551616 ^ 15 := by decide +kernel
  have h3 : ((18446744073709551616 ^ 15 : Nat) : Int) = Bs ^ 15 := by simp only [Bs]; decide +kernel
  rw [← h3]
  generalize (2 ^ 530 : Nat) = y at *
  generalize (18446744073709551616 ^ 15 : Nat) = z at *
  omega
theorem lead_fits {n : Nat} {xs : List Int} (hr : Right n xs) : ∀ x ∈ Yn (ent n xs) n 0, (x.natAbs : Int) < Bs ^ 15 := by
  intro x hx
  obtain ⟨i, hi, rfl⟩ := List.getElem_of_mem hx
  have hg := lead_get (ent n xs) n 0 i hi
  rw [List.getD_eq_getElem?_getD, List.getElem?_eq_getElem hi, Option.getD_some] at hg
  rw [hg]
  have := Wj (ent n xs) n 0
  exact P_fits hr (by have := hr.len.1; omega)
theorem tmod_rng {a m : Int} (hm : 0 < m) : -m < a.tmod m ∧ a.tmod m < m := ⟨by have := Int.lt_tmod_of_pos a hm; omega, Int.tmod_lt_of_pos a hm⟩
theorem S3_get {H : Hp} {p : Nat} {n0 n1 n2 : Int} {a0 a1 a2 : AV} (hg : Qt H p = some (S3 n0 n1 n2 a0 a1 a2)) (i : Nat) (hi : i < 3) :
    Yq Tryz.prog H 24 (.ptr p (i * 2)) = some (Ya (if i = 0 then n0 else if i = 1 then n1 else n2) (if i = 0 then a0 else if i = 1 then a1 else a2)) := by
  rw [Uz, hg]
  simp only [agg24, size24]
  match i, hi with
  | 0, _ => rfl
  | 1, _ => rfl
  | 2, _ => rfl
set_option maxHeartbeats 16000000 in
theorem detTells_calls (rn : Int) (rs : List Int) (ra : AV) (n dg : Int) (hs : List Int) (c : AV) (at_ v : Int) (H : Hp) (hN : Noted H) (hra : Ints H .i64 ra rs) (hn : 0 ≤ n ∧ n ≤ 255) (hdg : 0 ≤ dg ∧ dg ≤ 65535) (hh : Ints H .i16 c hs) (hat : 0 ≤ at_ ∧ at_ ≤ 255) (hv : -9223372036854775808 ≤ v ∧ v ≤ 9223372036854775807) : ACalls Tryz.prog 3 [Ya rn ra, .int .u8 n, .int .u16 dg, c, .int .u8 at_, .int .i64 v] H fun r H' => r = .bool true ∧ H = H' := by
  refine ACalls.drop (R := fun r => r = .bool true) ?_
  have hlen := hh.rd.len K8
  have hrlen := hra.rd.len Ym
  have ra1 : ra.one = true := hra.rd.one
  have hcr : ra.cells = [ra] := AV.cells_one ra1
  by_cases h60 : (rs.length : Int) > 60
  · have f60 : ((rs.length : Int) > 60) = True := eq_true h60
    refine Q7 Tryz.func3 rfl (by kernel_rfl) (by kernel_rfl) ?_
    repeat' first
      | (with_reducible first | refine Jj (fun K hK => ?_) | refine Q6 ?_ | refine Qj ?_ | refine Jg ?_ | refine Jz ?_)
      | ((with_reducible refine Jq (known6_calls _ (hN.ext (Ext.push _ _))) ?_); rintro _ _ ⟨rfl, rfl⟩)
      | (with_reducible refine Qn (fun hc => ?_) (fun hc => ?_) <;> (try simp only [RC] at hc) <;> (try (exfalso; first | omega | contradiction)))
      | (simp only [Q4, Jo, reduceIte, J0])
      | ((with_reducible refine hK _ _ ?_); clear hK)
      | (simp only [Q3, RA, Jn, Jm, Jp, Q2, Q0, ev, ofValue, Jt, J0, J3, J2, J4, reduceCtorEq, reduceIte, Ju, Qb, Qa, Jy, aun, Q9, Jk, Jh, Jx, Jw, Ji, Q8, Jf, Q1, Jr, Js, J1, J5, Ja, J9, Jb, J6, J7, Jd, J8, RB, Jv, Je, Ze, hrlen, f60])
      | (simp (disch := first | omega | (simp only [RO]; done) | assumption) only [RS, X8, X9, Vp, Vq, six30, gix30, Zm, Zn, X6, X7, Ye, Yf, Xs, Xq, Xr, Xp, Qu, Qv, Qq, X4, X0])
      | (simp (disch := (first | omega | (simp only [RO]; done) | assumption | (simp only [RM, Je]; done) | (simp only [RL, Je]; omega))) only [RD, reduceCtorEq, reduceIte, Je, J1, J3, J2, J6, Ze, hrlen, f60])
    all_goals
      (
       (refine Qg (rs := [.tmp 12]) rfl ?_)
       (simp only [Qx, Qd, Fr.put_some, Fr.put_none, Qe, Qf, Qi, J0, reduceIte])
       (try simp (disch := (first | omega | (simp only [RO]; done) | assumption | (simp only [RM, Je]; done) | (simp only [RL, Je]; omega))) only [RD, reduceCtorEq, reduceIte, Je, J1, J3, J2, J6, Ze]))
    all_goals exact ⟨Ext.push _ _, trivial⟩
  have f60 : ((rs.length : Int) > 60) = False := eq_false h60
  by_cases g60 : (hs.length : Int) > 60
  · have f61 : ((hs.length : Int) > 60) = True := eq_true g60
    refine Q7 Tryz.func3 rfl (by kernel_rfl) (by kernel_rfl) ?_
    repeat' first
      | (with_reducible first | refine Jj (fun K hK => ?_) | refine Q6 ?_ | refine Qj ?_ | refine Jg ?_ | refine Jz ?_)
      | ((with_reducible refine Jq (known6_calls _ (hN.ext (Ext.push _ _))) ?_); rintro _ _ ⟨rfl, rfl⟩)
      | (with_reducible refine Qn (fun hc => ?_) (fun hc => ?_) <;> (try simp only [RC] at hc) <;> (try (exfalso; first | omega | contradiction)))
      | (simp only [Q4, Jo, reduceIte, J0])
      | ((with_reducible refine hK _ _ ?_); clear hK)
      | (simp only [Q3, RA, Jn, Jm, Jp, Q2, Q0, ev, ofValue, Jt, J0, J3, J2, J4, reduceCtorEq, reduceIte, Ju, Qb, Qa, Jy, aun, Q9, Jk, Jh, Jx, Jw, Ji, Q8, Jf, Q1, Jr, Js, J1, J5, Ja, J9, Jb, J6, J7, Jd, J8, RB, Jv, Je, Ze, hrlen, hlen, f60, f61])
      | (simp (disch := first | omega | (simp only [RO]; done) | assumption) only [RS, X8, X9, Vp, Vq, six30, gix30, Zm, Zn, X6, X7, Ye, Yf, Xs, Xq, Xr, Xp, Qu, Qv, Qq, X4, X0])
      | (simp (disch := (first | omega | (simp only [RO]; done) | assumption | (simp only [RM, Je]; done) | (simp only [RL, Je]; omega))) only [RD, reduceCtorEq, reduceIte, Je, J1, J3, J2, J6, Ze, hrlen, hlen, f60, f61])
    all_goals
      (
       (refine Qg (rs := [.tmp 12]) rfl ?_)
       (simp only [Qx, Qd, Fr.put_some, Fr.put_none, Qe, Qf, Qi, J0, reduceIte])
       (try simp (disch := (first | omega | (simp only [RO]; done) | assumption | (simp only [RM, Je]; done) | (simp only [RL, Je]; omega))) only [RD, reduceCtorEq, reduceIte, Je, J1, J3, J2, J6, Ze]))
    all_goals exact ⟨Ext.push _ _, trivial⟩
  have f61 : ((hs.length : Int) > 60) = False := eq_false g60
  refine Q7 Tryz.func3 rfl (by kernel_rfl) (by kernel_rfl) ?_
  refine Jj (fun K hQ => ?_)
  repeat' first
    | (with_reducible first | refine Jj (fun K hK => ?_) | refine Q6 ?_ | refine Jg ?_ | refine Jz ?_)
    | ((with_reducible refine Jq (known6_calls _ (hN.ext (Ext.push _ _))) ?_); rintro _ _ ⟨rfl, rfl⟩)
    | (with_reducible refine Qn (fun hc => ?_) (fun hc => ?_) <;> (try simp only [RC] at hc) <;> (try (exfalso; first | omega | contradiction)))
    | (simp only [Q4, Jo, reduceIte, J0])
    | ((with_reducible refine hK _ _ ?_); clear hK)
    | (simp only [Q3, RA, Jn, Jm, Jp, Q2, Q0, ev, ofValue, Jt, J0, J3, J2, J4, reduceCtorEq, reduceIte, Ju, Qb, Qa, Jy, aun, Q9, Jk, Jh, Jx, Jw, Ji, Q8, Jf, Q1, Jr, Js, J1, J5, Ja, J9, Jb, J6, J7, Jd, J8, RB, Jv, Je, Ze, hrlen, hlen, f60, f61])
    | (simp (disch := first | omega | (simp only [RO]; done) | assumption) only [RS, X8, X9, Vp, Vq, six30, gix30, Zm, Zn, X6, X7, Ye, Yf, Xs, Xq, Xr, Xp, Qu, Qv, Qq, X4, X0])
    | (simp (disch := (first | omega | (simp only [RO]; done) | assumption | (simp only [RM, Je]; done) | (simp only [RL, Je]; omega))) only [RD, reduceCtorEq, reduceIte, Je, J1, J3, J2, J6, Ze, hrlen, hlen, f60, f61])
  refine hQ _ _ ?_
  clear hQ
  refine Jj (fun K hQ => ?_)
  repeat' first
    | (with_reducible first | refine Jj (fun K hK => ?_) | refine Q6 ?_ | refine Jg ?_ | refine Jz ?_)
    | ((with_reducible refine Jq (known6_calls _ (hN.ext (Ext.push _ _))) ?_); rintro _ _ ⟨rfl, rfl⟩)
    | (with_reducible refine Qn (fun hc => ?_) (fun hc => ?_) <;> (try simp only [RC] at hc) <;> (try (exfalso; first | omega | contradiction)))
    | (simp only [Q4, Jo, reduceIte, J0])
    | ((with_reducible refine hK _ _ ?_); clear hK)
    | (simp only [Q3, RA, Jn, Jm, Jp, Q2, Q0, ev, ofValue, Jt, J0, J3, J2, J4, reduceCtorEq, reduceIte, Ju, Qb, Qa, Jy, aun, Q9, Jk, Jh, Jx, Jw, Ji, Q8, Jf, Q1, Jr, Js, J1, J5, Ja, J9, Jb, J6, J7, Jd, J8, RB, Jv, Je, Ze, hrlen, hlen, f60, f61])
    | (simp (disch := first | omega | (simp only [RO]; done) | assumption) only [RS, X8, X9, Vp, Vq, six30, gix30, Zm, Zn, X6, X7, Ye, Yf, Xs, Xq, Xr, Xp, Qu, Qv, Qq, X4, X0])
    | (simp (disch := (first | omega | (simp only [RO]; done) | assumption | (simp only [RM, Je]; done) | (simp only [RL, Je]; omega))) only [RD, reduceCtorEq, reduceIte, Je, J1, J3, J2, J6, Ze, hrlen, hlen, f60, f61])
  refine hQ _ _ ?_
  clear hQ
  refine Jj (fun K hQ => ?_)
  repeat' first
    | (with_reducible first | refine Jj (fun K hK => ?_) | refine Q6 ?_ | refine Jg ?_ | refine Jz ?_)
    | ((with_reducible refine Jq (known6_calls _ (hN.ext (Ext.push _ _))) ?_); rintro _ _ ⟨rfl, rfl⟩)
    | (with_reducible refine Qn (fun hc => ?_) (fun hc => ?_) <;> (try simp only [RC] at hc) <;> (try (exfalso; first | omega | contradiction)))
    | (simp only [Q4, Jo, reduceIte, J0])
    | ((with_reducible refine hK _ _ ?_); clear hK)
    | (simp only [Q3, RA, Jn, Jm, Jp, Q2, Q0, ev, ofValue, Jt, J0, J3, J2, J4, reduceCtorEq, reduceIte, Ju, Qb, Qa, Jy, aun, Q9, Jk, Jh, Jx, Jw, Ji, Q8, Jf, Q1, Jr, Js, J1, J5, Ja, J9, Jb, J6, J7, Jd, J8, RB, Jv, Je, Ze, hrlen, hlen, f60, f61])
    | (simp (disch := first | omega | (simp only [RO]; done) | assumption) only [RS, X8, X9, Vp, Vq, six30, gix30, Zm, Zn, X6, X7, Ye, Yf, Xs, Xq, Xr, Xp, Qu, Qv, Qq, X4, X0])
    | (simp (disch := (first | omega | (simp only [RO]; done) | assumption | (simp only [RM, Je]; done) | (simp only [RL, Je]; omega))) only [RD, reduceCtorEq, reduceIte, Je, J1, J3, J2, J6, Ze, hrlen, hlen, f60, f61])
  refine hQ _ _ ?_
  clear hQ
  obtain ⟨H0, hH0⟩ : ∃ H0, H0 = H ++ [Sb rn ra] := ⟨_, rfl⟩
  have y0 : Ext H H0 := by rw [hH0]; exact Ext.push _ _
  have q6 : Qt H0 H.length = some (Sb rn ra) := by rw [hH0]; exact Qo rfl
  refine Jj (fun K2 hK2 => ?_)
  refine Z6 (fun fr' H1 => ∃ (q k : Nat) (b : AV) (ys : List Int), fr' 4 = .int .u8 at_ ∧ fr' 5 = .int .i64 v ∧ fr' 6 = .ptr H.length 0 ∧ fr' 13 = .ptr q 0 ∧ Qt H1 q = some (Sb k b) ∧ Ints H1 .i64 b ys ∧ Right k ys ∧ Ext H0 H1) ?_ (fun fr' H1 h => hK2 _ _ ?_)
  · clear hK2
    repeat' first
      | (with_reducible first | refine Jg ?_)
      | (simp only [Q4, Jo, reduceIte, J0])
      | (simp only [Q3, RA, Jn, Jm, Jp, Q2, Q0, ev, ofValue, Jt, J0, J3, J2, J4, reduceCtorEq, reduceIte, Ju, Qb, Qa, Jy, aun, Q9, Jk, Jh, Jx, Jw, Ji, Q8, Jf, Q1, Jr, Js, J1, J5, Ja, J9, Jb, J6, J7, Jd, J8, RB, Jv, Je, Ze])
    refine Jq (Sym_calls n dg hs c _ hn hdg (hh.push _) (by omega)) ?_
    rintro _ H2 ⟨m, b, ys, rfl, _, M, hr, x2⟩
    rw [← hH0] at x2
    have hb1 := M.one
    have hcb : b.cells = [b] := AV.cells_one hb1
    repeat' first
      | (simp only [Q4, Jo, reduceIte, J0])
      | (simp only [Q3, RA, Jn, Jm, Jp, Q2, Q0, ev, ofValue, Jt, J0, J3, J2, J4, reduceCtorEq, reduceIte, Ju, Qb, Qa, Jy, aun, Q9, Jk, Jh, Jx, Jw, Ji, Q8, Jf, Q1, Jr, Js, J1, J5, Ja, J9, Jb, J6, J7, Jd, J8, RB, Jv, Je, Ze])
      | (simp (disch := first | omega | (simp only [RO]; done) | assumption) only [RS, X8, X9, Vp, Vq, six30, gix30, Zm, Zn, X6, X7, Ye, Yf, Xs, Xq, Xr, Xp, Qu, Qv, Qq, X4, X0])
      | (simp (disch := (first | omega | (simp only [RO]; done) | assumption | (simp only [RM, Je]; done) | (simp only [RL, Je]; omega))) only [RD, reduceCtorEq, reduceIte, Je, J1, J3, J2, J6, Ze])
    all_goals exact ⟨H2.length, m, b, ys, rfl, by first | exact Qo rfl | rw [if_pos rfl], M.ints.push _, hr, x2.pushed _⟩
  clear hK2
  obtain ⟨q, k, b, ys, k4, k5, k6, k13, q13, I1, hr1, x1⟩ := h
  have hb1 : b.one = true := I1.rd.one
  have hcb : b.cells = [b] := AV.cells_one hb1
  have hly := hr1.len.2
  refine Jj (fun K2 hK2 => ?_)
  refine Z6 (fun fr' H2 => ∃ (q2 : Nat) (b2 : AV), fr' 4 = .int .u8 at_ ∧ fr' 5 = .int .i64 v ∧ fr' 6 = .ptr H.length 0 ∧ fr' 13 = .ptr q 0 ∧ fr' 14 = .ptr q2 0 ∧ Qt H2 q2 = some (Sb k b2) ∧ Mo H2 b2 ys H1.length ∧ Ext H1 H2) ?_ (fun fr' H2 h => hK2 _ _ ?_)
  · clear hK2
    repeat' first
      | (with_reducible first | refine Jg ?_)
      | (simp only [Q4, Jo, reduceIte, J0])
      | (simp only [Q3, RA, Jn, Jm, Jp, Q2, Q0, ev, ofValue, Jt, J0, J3, J2, J4, reduceCtorEq, reduceIte, Ju, Qb, Qa, Jy, aun, Q9, Jk, Jh, Jx, Jw, Ji, Q8, Jf, Q1, Jr, Js, J1, J5, Ja, J9, Jb, J6, J7, Jd, J8, RB, Jv, Je, Ze, k4, k5, k6, k13, q13])
      | (simp (disch := (first | omega | (simp only [RO]; done) | assumption | (simp only [RM, Je]; done) | (simp only [RL, Je]; omega))) only [RD, reduceCtorEq, reduceIte, Je, J1, J3, J2, J6, Ze, k4, k5, k6, k13, q13])
    refine Jq (MoCopy_calls k ys b _ I1 hly) ?_
    rintro _ H2 ⟨b2, rfl, M, x2⟩
    have hb2 := M.one
    have hcb2 : b2.cells = [b2] := AV.cells_one hb2
    repeat' first
      | (simp only [Q4, Jo, reduceIte, J0])
      | (simp only [Q3, RA, Jn, Jm, Jp, Q2, Q0, ev, ofValue, Jt, J0, J3, J2, J4, reduceCtorEq, reduceIte, Ju, Qb, Qa, Jy, aun, Q9, Jk, Jh, Jx, Jw, Ji, Q8, Jf, Q1, Jr, Js, J1, J5, Ja, J9, Jb, J6, J7, Jd, J8, RB, Jv, Je, Ze, k4, k5, k6, k13])
      | (simp (disch := first | omega | (simp only [RO]; done) | assumption) only [RS, X8, X9, Vp, Vq, six30, gix30, Zm, Zn, X6, X7, Ye, Yf, Xs, Xq, Xr, Xp, Qu, Qv, Qq, X4, X0])
      | (simp (disch := (first | omega | (simp only [RO]; done) | assumption | (simp only [RM, Je]; done) | (simp only [RL, Je]; omega))) only [RD, reduceCtorEq, reduceIte, Je, J1, J3, J2, J6, Ze, k4, k5, k6, k13])
    all_goals exact ⟨H2.length, b2, rfl, by first | exact Qo rfl | rw [if_pos rfl], M.push _, x2.pushed _⟩
  clear hK2 k4 k5 k6 k13
  obtain ⟨q2, b2, k4, k5, k6, k13, k14, q14, M2, x2⟩ := h
  have hb2 := M2.one
  have hcb2 : b2.cells = [b2] := AV.cells_one hb2
  refine Jj (fun K2 hK2 => ?_)
  refine Z6 (fun fr' H3 => ∃ (zs : List Int), fr' 6 = .ptr H.length 0 ∧ fr' 13 = .ptr q 0 ∧ fr' 14 = .ptr q2 0 ∧ Qt H3 q2 = some (Sb k b2) ∧ Ints H3 .i64 b2 zs ∧ Right k zs ∧ Ext H1 H3) ?_ (fun fr' H3 h => hK2 _ _ ?_)
  · clear hK2
    have h2len := M2.ints.rd.len Ym
    by_cases hp : 0 < ys.length
    · have f0 : ((ys.length : Int) > 0) = True := eq_true (by omega)
      obtain ⟨j, hj⟩ : ∃ j : Nat, (j : Int) = at_ % (ys.length : Int) := ⟨(at_ % (ys.length : Int)).toNat, by have := Int.emod_nonneg at_ (b := (ys.length : Int)) (by omega); omega⟩
      have hjl : j < ys.length := by have := Int.emod_lt_of_pos at_ (b := (ys.length : Int)) (by omega); omega
      have w0 : IntKind.i64.wrap at_ = at_ := Q5 (by omega) (by omega)
      have w1 : at_.tmod (ys.length : Int) = (j : Int) := by rw [Ug hat.1, ← hj]
      have w1' : IntKind.i64.wrap (j : Int) = (j : Int) := Q5 (by omega) (by omega)
      have hnz : ((ys.length : Int) = 0) = False := eq_false (by omega)
      obtain ⟨w, hw⟩ : ∃ w, w = v.tmod 1073741825 := ⟨_, rfl⟩
      have hwb := tmod_rng (a := v) (m := 1073741825) (by decide)
      rw [← hw] at hwb
      have w2 : IntKind.i64.wrap w = w := Q5 (by omega) (by omega)
      have hati := M2.at_ (k := .i64) (i := j) hjl
      have hput := M2.put (i := j) hjl w
      obtain ⟨g1, g2⟩ := M2.hd (i := j) hjl
      have lb := Qr g1
      have hne : q2 ≠ b2.hd := by
        intro e
        rw [e, g1] at q14
        have := congrArg (fun o : Option Blk => o.map (·.ety)) q14
        revert this
        simp
      repeat' first
        | (with_reducible first | refine Jj (fun K hK => ?_) | refine Jg ?_ | refine Qw (id := 8) [] pn3_8LdG (by kernel_rfl) (by kernel_rfl) ?_ | refine Jz ?_)
        | (simp only [Q4, Jo, reduceIte, J0])
        | ((with_reducible refine hK _ _ ?_); clear hK)
        | (simp only [Q3, RA, Jn, Jm, Jp, Q2, Q0, ev, ofValue, Jt, J0, J3, J2, J4, reduceCtorEq, reduceIte, Ju, Qb, Qa, Jy, aun, Q9, Jk, Jh, Jx, Jw, Ji, Q8, Jf, Q1, Jr, Js, J1, J5, Ja, J9, Jb, J6, J7, Jd, J8, RB, Jv, Je, Ze, k4, k5, k6, k13, k14, q14, h2len, f0, w0, w1, w1', hnz, ← hw, w2, hati, hput])
        | (simp (disch := (first | omega | (simp only [RO]; done) | assumption | (simp only [RM, Je]; done) | (simp only [RL, Je]; omega))) only [RD, reduceCtorEq, reduceIte, Je, J1, J3, J2, J6, Ze, k4, k5, k6, k13, k14, q14, h2len, f0, w0, w1, w1', hnz, ← hw, w2, hati, hput])
      all_goals exact ⟨ys.set j w, by rw [Qk lb, if_neg hne]; exact q14, (M2.set hjl (by rw [List.length_set])).ints, hr1.set _ (by unfold Fit; omega), x2.set (by omega) _⟩
    · have f0 : ((ys.length : Int) > 0) = False := eq_false (by omega)
      repeat' first
        | (with_reducible first | refine Jj (fun K hK => ?_) | refine Q6 ?_ | refine Jg ?_ | refine Jz ?_)
        | (simp only [Q4, Jo, reduceIte, J0])
        | ((with_reducible refine hK _ _ ?_); clear hK)
        | (simp only [Q3, RA, Jn, Jm, Jp, Q2, Q0, ev, ofValue, Jt, J0, J3, J2, J4, reduceCtorEq, reduceIte, Ju, Qb, Qa, Jy, aun, Q9, Jk, Jh, Jx, Jw, Ji, Q8, Jf, Q1, Jr, Js, J1, J5, Ja, J9, Jb, J6, J7, Jd, J8, RB, Jv, Je, Ze, k4, k5, k6, k13, k14, q14, h2len, f0])
        | (simp (disch := (first | omega | (simp only [RO]; done) | assumption | (simp only [RM, Je]; done) | (simp only [RL, Je]; omega))) only [RD, reduceCtorEq, reduceIte, Je, J1, J3, J2, J6, Ze, k4, k5, k6, k13, k14, q14, h2len, f0])
      all_goals exact ⟨ys, M2.ints, hr1, x2⟩
  clear hK2 k4 k5 k6 k13 k14 q14 M2 x2
  obtain ⟨zs, k6, k13, k14, q14, I2, hr2, x3⟩ := h
  have q63 := Qh (Qh q6 x1) x3
  have q133 := Qh q13 x3
  have I1' := I1.ext x3
  have R3 : Ints H3 .i64 ra rs := ((hra.ext y0).ext x1).ext x3
  have hN3 := ((hN.ext y0).ext x1).ext x3
  have yA : Ext H H3 := (y0.trans x1).trans x3
  clear q6 q13 I1 x1 x3
  refine Jj (fun K2 hK2 => ?_)
  repeat' first
    | (with_reducible first | refine Jj (fun K hK => ?_) | refine Qc ?_ | refine Jg ?_)
    | (simp only [Q4, Jo, reduceIte, J0])
    | ((with_reducible refine hK _ _ ?_); clear hK)
    | (simp only [Q3, RA, Jn, Jm, Jp, Q2, Q0, ev, ofValue, Jt, J0, J3, J2, J4, reduceCtorEq, reduceIte, Ju, Qb, Qa, Jy, aun, Q9, Jk, Jh, Jx, Jw, Ji, Q8, Jf, Q1, Jr, Js, J1, J5, Ja, J9, Jb, J6, J7, Jd, J8, RB, Jv, Je, Ze, k6, k13, k14, q63, q133, q14, ra1, hb1, hb2, Bool.and_self])
    | (simp (disch := (first | omega | (simp only [RO]; done) | assumption | (simp only [RM, Je]; done) | (simp only [RL, Je]; omega))) only [RD, reduceCtorEq, reduceIte, Je, J1, J3, J2, J6, Ze, k6, k13, k14, q63, q133, q14, ra1, hb1, hb2, Bool.and_self])
  obtain ⟨H4, hH4⟩ : ∃ H4, H4 = H3 ++ [S3 rn k k ra b b2] := ⟨_, rfl⟩
  have x34 : Ext H3 H4 := by rw [hH4]; exact Ext.push _ _
  have qp : Qt H4 H3.length = some (S3 rn k k ra b b2) := by rw [hH4]; exact Qo rfl
  refine X2 (fun m fr' H5 => ∃ i : Nat, m = 3 - i ∧ i ≤ 3 ∧ fr' 56 = .sl H3.length 0 3 3 ∧ fr' 57 = .int .i64 3 ∧ fr' 58 = .int .i64 (i : Int) ∧ Ext H4 H5) (m := 3)
    ⟨0, rfl, by omega, rfl, rfl, rfl, by rw [hH4]; exact Ext.refl _⟩ ?_
  clear k6 k13 k14
  rintro m fr' H5 ⟨i, rfl, hi, k56, k57, k58, x5⟩
  have e1 : IntKind.i64.wrap ((i : Int) + 1) = ((i + 1 : Nat) : Int) := by rw [Q5 (by omega) (by omega)]; omega
  by_cases hlt : i < 3
  · have hga := S3_get (Qh qp x5) i hlt
    obtain ⟨m, hm⟩ : ∃ m, m = (if i = 0 then rn else if i = 1 then (k : Int) else k) := ⟨_, rfl⟩
    obtain ⟨a, ha⟩ : ∃ a, a = (if i = 0 then ra else if i = 1 then b else b2) := ⟨_, rfl⟩
    obtain ⟨xs, hxs⟩ : ∃ xs, xs = (if i = 0 then rs else if i = 1 then ys else zs) := ⟨_, rfl⟩
    rw [← hm, ← ha] at hga
    have I : Ints H5 .i64 a xs := by
      rw [ha, hxs]
      split
      · exact (R3.ext x34).ext x5
      · split
        · exact (I1'.ext x34).ext x5
        · exact (I2.ext x34).ext x5
    have hlx : xs.length < 1000000 := by
      rw [hxs]
      split
      · omega
      · split
        · exact hly
        · exact hr2.len.2
    clear hm ha hxs
    have ha1 : a.one = true := I.rd.one
    have hca : a.cells = [a] := AV.cells_one ha1
    have hN5 := (hN3.ext x34).ext x5
    have yB : Ext H H5 := (yA.trans x34).trans x5
    have hx0 : X3 Tryz.prog 30 (.sl H3.length 0 3 3) (.int .i64 (i : Int)) = some (.ptr H3.length (i * 2)) := by
      have h := at_sl J0b size24 (h := H3.length) (o := 0) (n := 3) (c := 3) (l := .i64) (j := (i : Int)) (by omega) (by omega)
      rw [Int.toNat_natCast, Nat.zero_add] at h
      exact h
    have f3 : ((i : Int) < 3) = True := eq_true (by omega)
    refine Jj (fun K hQ => ?_)
    repeat' first
      | (with_reducible first | refine Jg ?_)
      | (simp only [Q4, Jo, reduceIte, J0])
      | (simp only [Q3, RA, Jn, Jm, Jp, Q2, Q0, ev, ofValue, Jt, J0, J3, J2, J4, reduceCtorEq, reduceIte, Ju, Qb, Qa, Jy, aun, Q9, Jk, Jh, Jx, Jw, Ji, Q8, Jf, Q1, Jr, Js, J1, J5, Ja, J9, Jb, J6, J7, Jd, J8, RB, Jv, Je, Ze, k56, k57, k58])
    refine hQ _ _ ?_
    clear hQ
    by_cases hr : Right m xs
    · obtain ⟨k, rfl, h8, _⟩ := hr.nat
      have hd : decide (Right (k : Int) xs) = true := decide_eq_true hr
      have D1 := fun H0 (x0 : Ext H5 H0) => Det_calls k xs a H0 (I.ext x0) hr
      repeat' first
        | (with_reducible first | refine Jj (fun K hK => ?_) | refine Qc ?_ | refine Q6 ?_ | refine Jg ?_ | refine Jz ?_)
        | ((with_reducible refine Jq (D1 _ (Ext.push _ _)) ?_); rintro _ _ ⟨rfl, rfl⟩)
        | (simp only [Q4, Jo, reduceIte, J0])
        | ((with_reducible refine hK _ _ ?_); clear hK)
        | (simp only [Q3, RA, Jn, Jm, Jp, Q2, Q0, ev, ofValue, Jt, J0, J3, J2, J4, reduceCtorEq, reduceIte, Ju, Qb, Qa, Jy, aun, Q9, Jk, Jh, Jx, Jw, Ji, Q8, Jf, Q1, Jr, Js, J1, J5, Ja, J9, Jb, J6, J7, Jd, J8, RB, Jv, Je, Ze, k56, k57, k58, f3, hx0, hga])
        | (simp (disch := first | omega | (simp only [RO]; done) | assumption) only [RS, X8, X9, Vp, Vq, six30, gix30, Zm, Zn, X6, X7, Ye, Yf, Xs, Xq, Xr, Xp, Qu, Qv, Qq, X4, X0])
        | (simp (disch := (first | omega | (simp only [RO]; done) | assumption | (simp only [RM, Je]; done) | (simp only [RL, Je]; omega))) only [RD, reduceCtorEq, reduceIte, Je, J1, J3, J2, J6, Ze, k56, k57, k58, f3, hx0, hga])
      refine Jq (Minors_calls k xs a _ ((I.push _).push _) hr) ?_
      rintro _ H6 ⟨v', rfl, V, x6⟩
      have ov : v'.one = true := by rcases V with ⟨_, rfl⟩ | ⟨_, rfl, _⟩ <;> rfl
      have q16 : Qt H6 H5.length = some (Sb k a) := Qh (by rw [Qp (by rw [Qm]; omega)]; exact Qo rfl) x6
      have q17 : Qt H6 (H5.length + 1) = some (Wb (P (ent k xs) k)) := Qh (Qo (by rw [Qm])) x6
      have I6 := ((I.push (Sb k a)).push (Wb (P (ent k xs) k))).ext x6
      have y6 : Ext H4 H6 := ((x5.pushed _).pushed _).trans x6
      repeat' first
        | (with_reducible first | refine Jj (fun K hK => ?_) | refine Q6 ?_ | refine Jg ?_ | refine Qw (id := 17) [9, 22] pn3_17LdG (by kernel_rfl) (by kernel_rfl) ?_ | refine Jz ?_ | refine Z1 ?_)
        | ((with_reducible refine Jq (symRight_calls _ _ _ _ I6 hlx) ?_); rintro _ _ ⟨rfl, rfl⟩)
        | (simp only [Q4, Jo, reduceIte, J0])
        | ((with_reducible refine hK _ _ ?_); clear hK)
        | (simp only [Q3, RA, Jn, Jm, Jp, Q2, Q0, ev, ofValue, Jt, J0, J3, J2, J4, reduceCtorEq, reduceIte, Ju, Qb, Qa, Jy, aun, Q9, Jk, Jh, Jx, Jw, Ji, Q8, Jf, Q1, Jr, Js, J1, J5, Ja, J9, Jb, J6, J7, Jd, J8, RB, Jv, Je, Ze, k56, k57, k58, q16, q17, hd, Zy Yt])
        | (simp (disch := (first | omega | (simp only [RO]; done) | assumption | (simp only [RM, Je]; done) | (simp only [RL, Je]; omega))) only [RD, reduceCtorEq, reduceIte, Je, J1, J3, J2, J6, Ze, k56, k57, k58, q16, q17, hd, Zy Yt])
      all_goals
        refine Xi (RDet_calls k xs a H6 I6 hr) ?_
        rintro _ H7 ⟨u, rfl, U, x7⟩
        refine ⟨x7, ?_⟩
        have I7 := I6.ext x7
        have q167 := Qh q16 x7
        have W1 := fun H0 (x0 : Ext H7 H0) => HWide_calls _ u H0 (U.ext x0) (P_fits hr h8)
        repeat' first
          | ((with_reducible refine Jq (W1 _ (Ext.refl _)) ?_); rintro _ _ ⟨rfl, rfl⟩)
          | (simp only [Q3, RA, Jn, Jm, Jp, Q2, Q0, ev, ofValue, Jt, J0, J3, J2, J4, reduceCtorEq, reduceIte, Ju, Qb, Qa, Jy, aun, Q9, Jk, Jh, Jx, Jw, Ji, Q8, Jf, Q1, Jr, Js, J1, J5, Ja, J9, Jb, J6, J7, Jd, J8, RB, Jv, Je, Ze, k56, k57, k58, q167, q17, Zy Yt])
          | (simp (disch := (first | omega | (simp only [RO]; done) | assumption | (simp only [RM, Je]; done) | (simp only [RL, Je]; omega))) only [RD, reduceCtorEq, reduceIte, Je, J1, J3, J2, J6, Ze, k56, k57, k58, q167, q17, Zy Yt])
      all_goals
        refine Jq (RMinors_calls k xs a H7 I7 hr) ?_
        rintro w H8 ⟨l, L, hl, x8⟩
        have I8 := I7.ext x8
        have q168 := Qh q167 x8
        have V8 := (V.ext x7).ext x8
        have hll := Wj (ent k xs) k 0
        have W2 := fun H0 (x0 : Ext H8 H0) => HWides_calls _ l v' w _ _ H0 (V8.ext x0) (L.ext x0) hl (lead_fits hr) (by omega)
        have F1 := fun H0 (x0 : Ext H8 H0) => Definite_calls k xs a H0 (I8.ext x0) hr
        have F2 := fun H0 (x0 : Ext H8 H0) => RDefinite_calls k xs a H0 (I8.ext x0) hr
        have y8 : Ext H4 H8 := (y6.trans x7).trans x8
        repeat' first
          | (with_reducible first | refine Q6 ?_ | refine Jg ?_ | refine Jz ?_ | refine Z1 ?_)
          | (with_reducible refine Nv (F1 _ (Ext.refl _)) ?_)
          | ((with_reducible refine Jq (W2 _ (Ext.refl _)) ?_); rintro _ _ ⟨rfl, rfl⟩)
          | ((with_reducible refine Jq (F2 _ (Ext.refl _)) ?_); rintro _ _ ⟨rfl, rfl⟩)
          | (simp only [Q4, Jo, reduceIte, J0])
          | ((with_reducible refine hK _ _ ?_); clear hK)
          | (simp only [Q3, RA, Jn, Jm, Jp, Q2, Q0, ev, ofValue, Jt, J0, J3, J2, J4, reduceCtorEq, reduceIte, Ju, Qb, Qa, Jy, aun, Q9, Jk, Jh, Jx, Jw, Ji, Q8, Jf, Q1, Jr, Js, J1, J5, Ja, J9, Jb, J6, J7, Jd, J8, RB, Jv, Je, Ze, k56, k57, k58, q168, e1, Zy Yt])
          | (simp (disch := (first | omega | (simp only [RO]; done) | assumption | (simp only [RM, Je]; done) | (simp only [RL, Je]; omega))) only [RD, reduceCtorEq, reduceIte, Je, J1, J3, J2, J6, Ze, k56, k57, k58, q168, e1, Zy Yt])
      all_goals exact ⟨_, by omega, i + 1, rfl, by omega, rfl, y8⟩
    · have hd : decide (Right m xs) = false := decide_eq_false hr
      repeat' first
        | (with_reducible first | refine Jj (fun K hK => ?_) | refine Qc ?_ | refine Q6 ?_ | refine Jg ?_ | refine Jz ?_)
        | (simp only [Q4, Jo, reduceIte, J0])
        | ((with_reducible refine hK _ _ ?_); clear hK)
        | (simp only [Q3, RA, Jn, Jm, Jp, Q2, Q0, ev, ofValue, Jt, J0, J3, J2, J4, reduceCtorEq, reduceIte, Ju, Qb, Qa, Jy, aun, Q9, Jk, Jh, Jx, Jw, Ji, Q8, Jf, Q1, Jr, Js, J1, J5, Ja, J9, Jb, J6, J7, Jd, J8, RB, Jv, Je, Ze, k56, k57, k58, f3, hx0, hga])
        | (simp (disch := first | omega | (simp only [RO]; done) | assumption) only [RS, X8, X9, Vp, Vq, six30, gix30, Zm, Zn, X6, X7, Ye, Yf, Xs, Xq, Xr, Xp, Qu, Qv, Qq, X4, X0])
        | (simp (disch := (first | omega | (simp only [RO]; done) | assumption | (simp only [RM, Je]; done) | (simp only [RL, Je]; omega))) only [RD, reduceCtorEq, reduceIte, Je, J1, J3, J2, J6, Ze, k56, k57, k58, f3, hx0, hga])
      refine Jq (Det_bad m xs a _ (I.push _) hlx hr) ?_
      rintro _ H6 ⟨e, rfl, E1, x6⟩
      have q16 : Qt H6 H5.length = some (Sb m a) := Qh (Qo rfl) x6
      have q16' := Qh q16 (Ext.push H6 (Wb 0))
      repeat' first
        | (with_reducible first | refine Jj (fun K hK => ?_) | refine Jg ?_)
        | (simp only [Q4, Jo, reduceIte, J0])
        | ((with_reducible refine hK _ _ ?_); clear hK)
        | (simp only [Q3, RA, Jn, Jm, Jp, Q2, Q0, ev, ofValue, Jt, J0, J3, J2, J4, reduceCtorEq, reduceIte, Ju, Qb, Qa, Jy, aun, Q9, Jk, Jh, Jx, Jw, Ji, Q8, Jf, Q1, Jr, Js, J1, J5, Ja, J9, Jb, J6, J7, Jd, J8, RB, Jv, Je, Ze, k56, k57, k58, q16, q16'])
        | (simp (disch := (first | omega | (simp only [RO]; done) | assumption | (simp only [RM, Je]; done) | (simp only [RL, Je]; omega))) only [RD, reduceCtorEq, reduceIte, Je, J1, J3, J2, J6, Ze, k56, k57, k58, q16, q16'])
      refine Jq (Minors_bad m xs a _ (((I.push _).ext x6).push _) hlx hr) ?_
      rintro _ H7 ⟨e', rfl, E2, x7⟩
      have q167 := Qh q16' x7
      have q177 : Qt H7 H6.length = some (Wb 0) := Qh (Qo rfl) x7
      have I7 := (((I.push (Sb m a)).ext x6).push (Wb 0)).ext x7
      have N7 := (((hN5.ext (Ext.push _ (Sb m a))).ext x6).ext (Ext.push _ (Wb 0))).ext x7
      have E17 := (E1.ext (Ext.push _ (Wb 0))).ext x7
      have S1 := says6_err 23 23 e H7 E17 N7 (by decide) (by decide)
      have S2 := says6_err 23 23 e' H7 E2 N7 (by decide) (by decide)
      have B1 := Definite_bad m xs a H7 I7 hlx hr
      have hd23 : decide ((23 : Int) = 23) = true := rfl
      have he := eq_wide 0
      have hg := guardW
      have y7 : Ext H4 H7 := (((x5.pushed _).trans x6).pushed _).trans x7
      repeat' first
        | (with_reducible first | refine Jj (fun K hK => ?_) | refine Q6 ?_ | refine Qz ?_ | refine Jg ?_ | refine Jz ?_)
        | ((with_reducible refine Jq (symRight_calls _ _ _ _ I7 hlx) ?_); rintro _ _ ⟨rfl, rfl⟩)
        | ((with_reducible refine Jq (S1) ?_); rintro _ _ ⟨rfl, rfl⟩)
        | ((with_reducible refine Jq (S2) ?_); rintro _ _ ⟨rfl, rfl⟩)
        | ((with_reducible refine Jq (B1) ?_); rintro _ _ ⟨rfl, rfl⟩)
        | (with_reducible refine Qn (fun hc => ?_) (fun hc => ?_) <;> (try simp only [RC] at hc) <;> (try (exfalso; first | omega | contradiction)))
        | (simp only [Q4, Jo, reduceIte, J0])
        | ((with_reducible refine hK _ _ ?_); clear hK)
        | (clear hK; (with_reducible refine hK _ _ ?_); clear hK)
        | (simp only [Q3, RA, Jn, Jm, Jp, Q2, Q0, ev, ofValue, Jt, J0, J3, J2, J4, reduceCtorEq, reduceIte, Ju, Qb, Qa, Jy, aun, Q9, Jk, Jh, Jx, Jw, Ji, Q8, Jf, Q1, Jr, Js, J1, J5, Ja, J9, Jb, J6, J7, Jd, J8, RB, Jv, Je, Ze, k56, k57, k58, q167, q177, hd, he, hg, e1])
        | (simp (disch := (first | omega | (simp only [RO]; done) | assumption | (simp only [RM, Je]; done) | (simp only [RL, Je]; omega))) only [RD, reduceCtorEq, reduceIte, Je, J1, J3, J2, J6, Ze, k56, k57, k58, q167, q177, hd, he, hg, e1])
      all_goals exact ⟨_, by omega, i + 1, rfl, by omega, rfl, y7⟩
  · obtain rfl : i = 3 := by omega
    repeat' first
      | (with_reducible first | refine Jj (fun K hK => ?_) | refine Qz ?_ | refine Jg ?_ | refine Jz ?_)
      | (simp only [Q4, Jo, reduceIte, J0])
      | ((with_reducible refine hK _ _ ?_); clear hK)
      | (simp only [Q3, RA, Jn, Jm, Jp, Q2, Q0, ev, ofValue, Jt, J0, J3, J2, J4, reduceCtorEq, reduceIte, Ju, Qb, Qa, Jy, aun, Q9, Jk, Jh, Jx, Jw, Ji, Q8, Jf, Q1, Jr, Js, J1, J5, Ja, J9, Jb, J6, J7, Jd, J8, RB, Jv, Je, Ze, k56, k57, k58])
    refine hK2 _ _ ?_
    repeat' first
      | (with_reducible first | refine Jj (fun K hK => ?_) | refine Qj ?_ | refine Jg ?_)
      | (simp only [Q4, Jo, reduceIte, J0])
      | ((with_reducible refine hK _ _ ?_); clear hK)
      | (simp only [Q3, RA, Jn, Jm, Jp, Q2, Q0, ev, ofValue, Jt, J0, J3, J2, J4, reduceCtorEq, reduceIte, Ju, Qb, Qa, Jy, aun, Q9, Jk, Jh, Jx, Jw, Ji, Q8, Jf, Q1, Jr, Js, J1, J5, Ja, J9, Jb, J6, J7, Jd, J8, RB, Jv, Je, Ze])
    (
     (refine Qg (rs := [.tmp 12]) rfl ?_)
     (simp only [Qx, Qd, Fr.put_some, Fr.put_none, Qe, Qf, Qi, J0, reduceIte])
     (try simp (disch := (first | omega | (simp only [RO]; done) | assumption | (simp only [RM, Je]; done) | (simp only [RL, Je]; omega))) only [RD, reduceCtorEq, reduceIte, Je, J1, J3, J2, J6, Ze]))
    exact ⟨(yA.trans x34).trans x5, trivial⟩
end Go.Proofs.YtfalfmfkifemeaaGreatDoor
namespace Go.Proofs.YtfalfmfkifemeaaGreatDoor
open Go.AL Go.PW Go.PD
set_option maxRecDepth 8000
abbrev S2 (n0 n1 : Int) (a0 a1 : AV) : Blk := ⟨[.int .i64 n0, a0, .int .i64 n1, a1], .own, 24⟩
theorem BetwR.one {n : Nat} {xs : List Int} {k l : Int} {v : AV} {H : Hp} (h : BetwR n xs k l v H) : v.one = true := by
  unfold BetwR at h
  split at h
  · obtain ⟨_, rfl, _⟩ := h; rfl
  · split at h
    · obtain ⟨_, rfl, _⟩ := h; rfl
    · rw [h]; rfl
end Go.Proofs.YtfalfmfkifemeaaGreatDoor
namespace Go.Proofs.YtfalfmfkifemeaaGreatDoor
open Go.AL Go.PW Go.PD
set_option maxRecDepth 8000
inductive OwnI (H : Hp) (v : AV) (gs : List Int) (lo : Nat) : Prop
  | no : v = .nilS → gs = [] → OwnI H v gs lo
  | yes (h : Nat) : v = .sg h 0 gs.length 1 → Qt H h = some (Ib gs) → lo ≤ h → OwnI H v gs lo
theorem OwnI.one {H : Hp} {v : AV} {gs : List Int} {lo : Nat} (O : OwnI H v gs lo) : v.one = true := by
  cases O with
  | no h => rw [h]; rfl
  | yes h e => rw [e]; rfl
theorem OwnI.lt {H : Hp} {v : AV} {gs : List Int} {lo : Nat} (O : OwnI H v gs lo) : v.lt H.length := by
  cases O with
  | no h => rw [h]; trivial
  | yes h e g => rw [e]; simpa [AV.lt] using Qr g
theorem OwnI.ext {H H' : Hp} {v : AV} {gs : List Int} {lo : Nat} (O : OwnI H v gs lo) (x : Ext H H') : OwnI H' v gs lo := by
  cases O with
  | no h1 h2 => exact .no h1 h2
  | yes h h1 h2 h3 => exact .yes h h1 (Qh h2 x) h3
theorem OwnI.ints {H : Hp} {v : AV} {gs : List Int} {lo : Nat} (O : OwnI H v gs lo) : Ints H .i64 v gs := by
  cases O with
  | no h1 h2 => rw [h1, h2]; exact Rd.nil _ _
  | yes h h1 h2 h3 =>
    rw [h1]
    refine ⟨?_, rfl⟩
    simp only [arow, h2]
    rw [if_neg (by decide), if_pos (by simp), List.drop_zero, List.take_of_length_le (by simp)]
theorem OwnI.of {H : Hp} {v : AV} {gs : List Int} {n lo : Nat} (O : Own H 1 2 v (gs.map (AV.int .i64)) n lo) (hn : gs.length = n) (hf : v = .nilS ∨ ∃ h, v = .sg h 0 n 1) : OwnI H v gs lo := by
  rcases O.row with ⟨h1, h2, h3⟩ | ⟨h, o, h1, h2⟩ | ⟨h, h1, h2, h3, h4⟩
  · exact .no h1 (by rw [h3] at hn; exact List.eq_nil_of_length_eq_zero hn)
  · rcases hf with e | ⟨h', e⟩
    · rw [e] at h1; cases h1
    · rw [e] at h1; cases h1
  · subst hn; exact .yes h h1 h2 h4
theorem OwnI.idx {H : Hp} {v : AV} {gs : List Int} {lo : Nat} (O : OwnI H v gs lo) {i : Nat} (hi : i < gs.length) {k : IntKind} : X3 Tryz.prog 22 v (.int k (i : Int)) = some (.ptr v.hd i) := by
  cases O with
  | no h1 h2 => subst h2; simp at hi
  | yes h h1 h2 h3 =>
    rw [h1, J0y Ym W3 (by omega) (by omega), Int.toNat_natCast, Nat.zero_add]; rfl
theorem OwnI.get {H : Hp} {v : AV} {gs : List Int} {lo : Nat} (O : OwnI H v gs lo) {i : Nat} (hi : i < gs.length) : Qt H v.hd = some (Ib gs) ∧ lo ≤ v.hd := by
  cases O with
  | no h1 h2 => subst h2; simp at hi
  | yes h h1 h2 h3 => rw [h1]; exact ⟨h2, h3⟩
theorem OwnI.mo {H : Hp} {v : AV} {gs : List Int} {lo : Nat} (O : OwnI H v gs lo) : Mo H v gs lo := by
  cases O with
  | no h1 h2 => exact .inl ⟨h2, h1⟩
  | yes h h1 h2 h3 => exact .inr ⟨h, .inr h1, h2, h3⟩
end Go.Proofs.YtfalfmfkifemeaaGreatDoor

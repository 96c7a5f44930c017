/- Part 24 of the proof of laws of this seat: lemmas on the model's code, on this program's functions, on numbers. No condition. -/
import Derived.Test.YtfalfmfkifemeaaGreatDoorZGaw
set_option linter.unusedVariables false
set_option linter.unusedSimpArgs false
open Nat renaming reduceEqDiff → J0, reduceLeDiff → J1, reduceMul → J2, reduceAdd → J3, reduceSub → J4, reduceLT → J5
open Int renaming reduceToNat → J6, reducePow → J7, reduceNeg → J8, reduceLT → J9, reduceLE → Ja, reduceEq → Jb
open And renaming intro → Jc
open Go.IntKind renaming bits → Jd
open Go.PW renaming dig_length → Je
namespace Go.Proofs.YtfalfmfkifemeaaGreatDoor
open Go.AL Go.PW Go.PD
theorem Zq : type_of% (Jc @Z8 (Jc @Xd (Jc @Xz (Jc @Xx (Jc @Xw (Jc @Xv (Jc @X1 (Jc @Xj (Jc @Za (Jc @Z9 (Jc @Vx (@W0)))))))))))) := Jc @Z8 (Jc @Xd (Jc @Xz (Jc @Xx (Jc @Xw (Jc @Xv (Jc @X1 (Jc @Xj (Jc @Za (Jc @Z9 (Jc @Vx (@W0)))))))))))
abbrev pn55_9RgD : Plan := (.one 0 (.one 2 (.one 3 (.one 4 (.alt 8 (.ext 1 (.pur 5 (.ext 6 (.ext 7 (.one 9 .nil))))) (.ext 1 (.pur 5 (.alt 8 (.ext 6 (.ext 7 (.one 9 .nil))) (.ext 6 (.alt 8 (.ext 7 (.one 9 .nil)) (.ext 7 (.one 8 (.one 9 .nil)))))))))))))
abbrev pn55_11RgD : Plan := (.one 0 (.one 1 (.ext 2 (.one 3 (.one 4 .nil)))))
set_option maxRecDepth 8000
def rv (sg k : Int) (n : Nat) (xs : List Int) (i j : Nat) : Int := if i = j then sg * ent n xs i j + k else sg * ent n xs i j
theorem rv_ent (n : Nat) (xs : List Int) : rv 1 0 n xs = ent n xs := by
  funext i j; unfold rv; split <;> simp
structure StB (n k : Nat) (rho : Nat → Nat → Int) (pss : List (List (Int × AV))) : Prop where
  len : pss.length = n
  wid : ∀ i, i < n → (pss.getD i []).length = n
  get : ∀ i j, k ≤ i → k ≤ j → i < n → j < n → ((pss.getD i []).getD j (0, .nilS)).1 = d rho k i j
set_option maxHeartbeats 16000000 in
theorem Rrows_calls (n : Nat) (xs : List Int) (a : AV) (sg k : Int) (H : Hp) (ha : Ints H .i64 a xs) (hr : Right n xs) (hsg : -1 ≤ sg ∧ sg ≤ 1) (hk : -9223372036854775808 ≤ k ∧ k ≤ 9223372036854775807) :
    ACalls Tryz.prog 55 [Ya n a, .int .i64 sg, .int .i64 k] H fun r H' => ∃ vs pss, BRows H' r vs pss H.length ∧ StB n 0 (rv sg k n xs) pss ∧ Ext H H' := by
  have ha1 : a.one = true := ha.rd.one
  have hc : a.cells = [a] := AV.cells_one ha1
  obtain ⟨h8, hlx⟩ := hr.len
  refine Q7 Tryz.func55 rfl (by kernel_rfl) (by kernel_rfl) ?_
  repeat' first
    | (with_reducible first | refine Jj (fun K hK => ?_) | refine Qc ?_ | refine Jg ?_)
    | (simp only [Q4, Jo, reduceIte, J0])
    | ((with_reducible refine hK _ _ ?_); clear hK)
    | (simp only [Q3, RA, Jn, Jm, Jp, Q2, Q0, ev, ofValue, Jt, J0, J3, J2, J4, reduceCtorEq, reduceIte, Ju, Qb, Qa, Jy, aun, Q9, Jk, Jh, Jx, Jw, Ji, Q8, Jf, Q1, Jr, Js, J1, J5, Ja, J9, Jb, J6, J7, Jd, J8, RB, Jv, Je, Zq])
    | (simp (disch := first | omega | (simp only [RO]; done) | assumption) only [RS, X8, X9, X6, X7, Ye, Yf, Vm, Vn, Qu, Qv, Qq, X4, X0])
  refine X2 (fun m fr' H1 => ∃ (i : Nat) (v : AV) (vs : List AV) (pss : List (List (Int × AV))), m = n - i ∧ i ≤ n ∧ fr' 1 = .int .i64 sg ∧ fr' 2 = .int .i64 k ∧ fr' 3 = .ptr H.length 0 ∧ fr' 7 = v ∧ fr' 8 = .int .i64 (i : Int) ∧ Qt H1 H.length = some (Sb n a) ∧ BRows H1 v vs pss (H.length + 1) ∧ pss.length = i ∧ (∀ x, x < i → (pss.getD x []).length = n) ∧ (∀ x y, x < i → y < n → ((pss.getD x []).getD y (0, .nilS)).1 = rv sg k n xs x y) ∧ Ext (H ++ [Sb n a]) H1) (m := n)
    ⟨0, .nilS, [], [], by omega, by omega, rfl, rfl, rfl, rfl, rfl, Qo rfl, .no rfl rfl rfl, rfl, fun x h => by omega, fun x y h => by omega, Ext.refl _⟩ ?_
  rintro m fr' H1 ⟨i, v, vs, pss, rfl, hi, k1, k2, k3, k7, k8, q3, B, hpl, hw, hv, x1⟩
  have e1 : IntKind.i64.wrap ((i : Int) + 1) = ((i + 1 : Nat) : Int) := by rw [Q5 (by omega) (by omega)]; omega
  have l1 := x1.len
  rw [Qm] at l1
  have l3 := Qr q3
  by_cases hlt : i < n
  · have hbel := B.below
    refine Jj (fun K hQ => ?_)
    repeat' first
      | (with_reducible first | refine Jj (fun K hK => ?_) | refine Q6 ?_ | refine Jg ?_ | refine Jz ?_)
      | (with_reducible refine X5 (fun hc => ?_) (fun hc => ?_) <;> (try simp only [RC] at hc) <;> (try (exfalso; first | omega | contradiction)))
      | (simp only [Q4, Jo, reduceIte, J0])
      | ((with_reducible refine hK _ _ ?_); clear hK)
      | (simp only [Q3, RA, Jn, Jm, Jp, Q2, Q0, ev, ofValue, Jt, J0, J3, J2, J4, reduceCtorEq, reduceIte, Ju, Qb, Qa, Jy, aun, Q9, Jk, Jh, Jx, Jw, Ji, Q8, Jf, Q1, Jr, Js, J1, J5, Ja, J9, Jb, J6, J7, Jd, J8, RB, Jv, Je, Zq, k1, k2, k3, k7, k8, q3])
      | (simp (disch := (first | omega | (simp only [RO]; done) | assumption | (simp only [RM, Je]; done) | (simp only [RL, Je]; omega))) only [RD, reduceCtorEq, reduceIte, Je, J1, J3, J2, J6, Zq, k1, k2, k3, k7, k8, q3])
    refine hQ _ _ ?_
    clear hQ
    refine Jj (fun K3 hK3 => ?_)
    refine Qc ?_
    refine Jj (fun K hQ => ?_)
    repeat' first
      | (with_reducible first | refine Jg ?_)
      | (simp only [Q4, Jo, reduceIte, J0])
      | (simp only [Q3, RA, Jn, Jm, Jp, Q2, Q0, ev, ofValue, Jt, J0, J3, J2, J4, reduceCtorEq, reduceIte, Ju, Qb, Qa, Jy, aun, Q9, Jk, Jh, Jx, Jw, Ji, Q8, Jf, Q1, Jr, Js, J1, J5, Ja, J9, Jb, J6, J7, Jd, J8, RB, Jv, Je, Zq, k1, k2, k3, k7, k8])
    refine hQ _ _ ?_
    clear hQ
    refine Jj (fun K4 hK4 => ?_)
    repeat' first
      | (with_reducible first | refine Jj (fun K hK => ?_) | refine Qc ?_ | refine Jg ?_)
      | (simp only [Q4, Jo, reduceIte, J0])
      | ((with_reducible refine hK _ _ ?_); clear hK)
      | (simp only [Q3, RA, Jn, Jm, Jp, Q2, Q0, ev, ofValue, Jt, J0, J3, J2, J4, reduceCtorEq, reduceIte, Ju, Qb, Qa, Jy, aun, Q9, Jk, Jh, Jx, Jw, Ji, Q8, Jf, Q1, Jr, Js, J1, J5, Ja, J9, Jb, J6, J7, Jd, J8, RB, Jv, Je, Zq, k1, k2, k3, k7, k8])
    refine X2 (fun m fr' H2 => ∃ (j : Nat) (w : AV) (l : List (Int × AV)), m = n - j ∧ j ≤ n ∧ fr' 1 = .int .i64 sg ∧ fr' 2 = .int .i64 k ∧ fr' 3 = .ptr H.length 0 ∧ fr' 7 = v ∧ fr' 8 = .int .i64 (i : Int) ∧ fr' 9 = w ∧ fr' 10 = .int .i64 (j : Int) ∧ Qt H2 H.length = some (Sb n a) ∧ BsV H2 w l H1.length ∧ l.length = j ∧ (j = 0 ∨ w = .sg w.hd 0 j 2) ∧ (∀ y, y < j → (l.getD y (0, .nilS)).1 = rv sg k n xs i y) ∧ BRows H2 v vs pss (H.length + 1) ∧ H1.length ≤ H2.length ∧ Ext (H ++ [Sb n a]) H2) (m := n)
      ⟨0, .nilS, [], by omega, by omega, k1, k2, k3, k7, k8, rfl, rfl, q3, BsV.nil _ _, rfl, .inl rfl, fun y h => by omega, B, Nat.le_refl _, x1⟩ ?_
    clear k1 k2 k3 k7 k8 q3 B
    rintro m fr' H2 ⟨j, w, l, rfl, hj, k1, k2, k3, k7, k8, k9, k10, q3, L, hll, hw0, hlv, B, y12, x2⟩
    have e2 : IntKind.i64.wrap ((j : Int) + 1) = ((j + 1 : Nat) : Int) := by rw [Q5 (by omega) (by omega)]; omega
    by_cases hjt : j < n
    · skip
      refine Jj (fun K hQ => ?_)
      repeat' first
        | (with_reducible first | refine Jj (fun K hK => ?_) | refine Q6 ?_ | refine Jg ?_ | refine Jz ?_)
        | (with_reducible refine X5 (fun hc => ?_) (fun hc => ?_) <;> (try simp only [RC] at hc) <;> (try (exfalso; first | omega | contradiction)))
        | (simp only [Q4, Jo, reduceIte, J0])
        | ((with_reducible refine hK _ _ ?_); clear hK)
        | (simp only [Q3, RA, Jn, Jm, Jp, Q2, Q0, ev, ofValue, Jt, J0, J3, J2, J4, reduceCtorEq, reduceIte, Ju, Qb, Qa, Jy, aun, Q9, Jk, Jh, Jx, Jw, Ji, Q8, Jf, Q1, Jr, Js, J1, J5, Ja, J9, Jb, J6, J7, Jd, J8, RB, Jv, Je, Zq, k1, k2, k3, k7, k8, k9, k10, q3])
        | (simp (disch := (first | omega | (simp only [RO]; done) | assumption | (simp only [RM, Je]; done) | (simp only [RL, Je]; omega))) only [RD, reduceCtorEq, reduceIte, Je, J1, J3, J2, J6, Zq, k1, k2, k3, k7, k8, k9, k10, q3])
      refine hQ _ _ ?_
      clear hQ
      refine Jj (fun K5 hK5 => ?_)
      refine Qc ?_
      refine Jj (fun K6 hK6 => ?_)
      have hAt := fun H0 (x0 : ∃ E, H0 = H2 ++ E) => refAt_calls n xs a i j H0 (((ha.push _).ext x2).ext x0) hr hlt hjt
      have hfe := G7 hr hlt hjt
      unfold Fit at hfe
      obtain ⟨z, hz⟩ : ∃ z, z = ent n xs i j := ⟨_, rfl⟩
      rw [← hz] at hfe hAt
      have s0 : Sm sg := Sm.int (by omega)
      have s1 : Sm z := Sm.int (by omega)
      refine Z6 (fun fr' H3 => ∃ h u, fr' 1 = .int .i64 sg ∧ fr' 2 = .int .i64 k ∧ fr' 3 = .ptr H.length 0 ∧ fr' 7 = v ∧ fr' 8 = .int .i64 (i : Int) ∧ fr' 9 = w ∧ fr' 10 = .int .i64 (j : Int) ∧ fr' 11 = .ptr h 0 ∧ H2.length ≤ h ∧ Qt H3 h = some (BB (sg * z) u) ∧ Bs_ H3 u (sg * z) ∧ Ext H2 H3) ?_ (fun fr' H3 h => hK6 _ _ ?_)
      · clear hK3 hK4 hK5 hK6
        have hm := hAt H2 ⟨[], by simp⟩
        repeat' first
          | (with_reducible first | refine Qw (id := 9) [1, 5, 6, 7] pn55_9RgD (by kernel_rfl) (by kernel_rfl) ?_ | refine Z1 ?_)
          | (with_reducible refine Jc ?_ ?_)
          | (simp only [Q3, RA, Jn, Jm, Jp, Q2, Q0, ev, ofValue, Jt, J0, J3, J2, J4, reduceCtorEq, reduceIte, Ju, Qb, Qa, Jy, aun, Q9, Jk, Jh, Jx, Jw, Ji, Q8, Jf, Q1, Jr, Js, J1, J5, Ja, J9, Jb, J6, J7, Jd, J8, RB, Jv, Je, Zq, k1, k2, k3, k7, k8, k9, k10, q3])
          | (simp (disch := (first | omega | (simp only [RO]; done) | assumption | (simp only [RM, Je]; done) | (simp only [RL, Je]; omega))) only [RD, reduceCtorEq, reduceIte, Je, J1, J3, J2, J6, Zq, k1, k2, k3, k7, k8, k9, k10, q3])
        all_goals
          refine Xi (Of_calls sg _ (by omega)) ?_
          rintro _ H4 ⟨u1, rfl, Uu1, xu1⟩
          refine ⟨xu1, ?_⟩
          have lu1 := Ext.len xu1
          try simp only [Qm] at lu1
          have y4 : Ext H2 H4 := by first | exact xu1 | exact (Ext.push _ _).trans xu1
          have hAt4 := fun H0 (x0 : ∃ E, H0 = H4 ++ E) => hAt H0 (y4.trans x0)
          have hm4 := hAt4 H4 ⟨[], by simp⟩
          repeat' first
            | (with_reducible first | refine Zs ?_ | refine Z1 ?_)
            | (with_reducible refine Xe (fun _ x => (hAt4 _ x)) ?_)
            | (with_reducible refine Jc ?_ ?_)
            | (simp only [Q3, RA, Jn, Jm, Jp, Q2, Q0, ev, ofValue, Jt, J0, J3, J2, J4, reduceCtorEq, reduceIte, Ju, Qb, Qa, Jy, aun, Q9, Jk, Jh, Jx, Jw, Ji, Q8, Jf, Q1, Jr, Js, J1, J5, Ja, J9, Jb, J6, J7, Jd, J8, RB, Jv, Je, Zq, k1, k2, k3, k7, k8, k9, k10])
        all_goals
          refine Xi (Of_calls z _ (by omega)) ?_
          rintro _ H5 ⟨u2, rfl, Uu2, xu2⟩
          refine ⟨xu2, ?_⟩
          have lu2 := Ext.len xu2
          try simp only [Qm] at lu2
          repeat' first
            | (with_reducible first | refine Z1 ?_)
            | (with_reducible refine Jc ?_ ?_)
            | (simp only [Q3, RA, Jn, Jm, Jp, Q2, Q0, ev, ofValue, Jt, J0, J3, J2, J4, reduceCtorEq, reduceIte, Ju, Qb, Qa, Jy, aun, Q9, Jk, Jh, Jx, Jw, Ji, Q8, Jf, Q1, Jr, Js, J1, J5, Ja, J9, Jb, J6, J7, Jd, J8, RB, Jv, Je, Zq, k1, k2, k3, k7, k8, k9, k10])
        all_goals
          refine Xi (Rmul_calls sg z u1 u2 _ (by repeat (first | assumption | refine Bs_.push ?_ _ | refine Bs_.ext ?_ (by assumption))) (by repeat (first | assumption | refine Bs_.push ?_ _ | refine Bs_.ext ?_ (by assumption))) s0 s1) ?_
          rintro _ H6 ⟨u3, rfl, Uu3, xu3⟩
          refine ⟨xu3, ?_⟩
          have lu3 := Ext.len xu3
          try simp only [Qm] at lu3
          have cu3 := Uu3.cells
          have ou3 := Uu3.one
          first | (have q11 : Qt H6 (List.length H2) = some zb := by (refine Qh (H := H2 ++ [zb]) (Qo rfl) ?_; (repeat first | exact Ext.refl _ | exact Ext.push _ _ | assumption | refine Ext.pushed ?_ _ | refine Ext.trans ?_ (by assumption)))) | (have q11 : Qt H6 (List.length H4) = some zb := by (refine Qh (H := H4 ++ [zb]) (Qo rfl) ?_; (repeat first | exact Ext.refl _ | exact Ext.push _ _ | assumption | refine Ext.pushed ?_ _ | refine Ext.trans ?_ (by assumption)))) | (have q11 : Qt H6 (List.length H5) = some zb := by (refine Qh (H := H5 ++ [zb]) (Qo rfl) ?_; (repeat first | exact Ext.refl _ | exact Ext.push _ _ | assumption | refine Ext.pushed ?_ _ | refine Ext.trans ?_ (by assumption)))) | (have q11 : Qt (H6 ++ [zb]) H6.length = some zb := Qo rfl)
          repeat' first
            | (simp only [Q4, Jo, reduceIte, J0])
            | (simp only [Q3, RA, Jn, Jm, Jp, Q2, Q0, ev, ofValue, Jt, J0, J3, J2, J4, reduceCtorEq, reduceIte, Ju, Qb, Qa, Jy, aun, Q9, Jk, Jh, Jx, Jw, Ji, Q8, Jf, Q1, Jr, Js, J1, J5, Ja, J9, Jb, J6, J7, Jd, J8, RB, Jv, Je, Zq, k1, k2, k3, k7, k8, k9, k10, q11])
            | (simp (disch := first | omega | (simp only [RO]; done) | assumption) only [RS, X8, X9, X6, X7, Ye, Yf, Vm, Vn, Qu, Qv, Qq, X4, X0])
            | (simp (disch := (first | omega | (simp only [RO]; done) | assumption | (simp only [RM, Je]; done) | (simp only [RL, Je]; omega))) only [RD, reduceCtorEq, reduceIte, Je, J1, J3, J2, J6, Zq, k1, k2, k3, k7, k8, k9, k10, q11])
        all_goals first
          | exact ⟨_, _, rfl, by omega, by rw [Qk (Qr q11), if_pos rfl], Uu3.other q11 (by decide) _, Ext.set (by (repeat first | exact Ext.refl _ | exact Ext.push _ _ | assumption | refine Ext.pushed ?_ _ | refine Ext.trans ?_ (by assumption))) (by omega) _⟩
          | exact ⟨_, _, rfl, by omega, by first | exact Qo rfl | rw [if_pos rfl], Uu3.push _, by (repeat first | exact Ext.refl _ | exact Ext.push _ _ | assumption | refine Ext.pushed ?_ _ | refine Ext.trans ?_ (by assumption))⟩
      clear hK6 k1 k2 k3 k7 k8 k9 k10
      obtain ⟨h, u, k1, k2, k3, k7, k8, k9, k10, k11, lh, q11, U, x3⟩ := h
      have L3 := L.ext x3
      have B3 := B.ext x3
      have y3 := x2.trans x3
      have l23 := x3.len
      have wbel := L.below
      clear L B
      refine Jj (fun K7 hK7 => ?_)
      refine Z6 (fun fr' H4 => ∃ u, fr' 1 = .int .i64 sg ∧ fr' 2 = .int .i64 k ∧ fr' 3 = .ptr H.length 0 ∧ fr' 7 = v ∧ fr' 8 = .int .i64 (i : Int) ∧ fr' 9 = w ∧ fr' 10 = .int .i64 (j : Int) ∧ fr' 11 = .ptr h 0 ∧ Qt H4 h = some (BB (rv sg k n xs i j) u) ∧ Bs_ H4 u (rv sg k n xs i j) ∧ Grew H2.length H3 H4) ?_ (fun fr' H4 hq => hK7 _ _ ?_)
      · clear hK3 hK4 hK5 hK7
        have ou := U.one
        have cu := U.cells
        by_cases hij : i = j
        · have f1 : ((i : Int) = (j : Int)) = True := eq_true (by omega)
          have hrv : sg * z + k = rv sg k n xs i j := by unfold rv; rw [if_pos hij, hz]
          have bz : Sm (sg * z) := Sm_of (Nat.le_trans (show (sg * z).natAbs ≤ 1 * 9223372036854775808 from mul_nat (by omega) (by omega)) (by decide +kernel))
          repeat' first
            | (with_reducible first | refine Jj (fun K hK => ?_) | refine Jg ?_ | refine Qw (id := 11) [2] pn55_11RgD (by kernel_rfl) (by kernel_rfl) ?_ | refine Jz ?_ | refine Z1 ?_)
            | (simp only [Q4, Jo, reduceIte, J0])
            | ((with_reducible refine hK _ _ ?_); clear hK)
            | (simp only [Q3, RA, Jn, Jm, Jp, Q2, Q0, ev, ofValue, Jt, J0, J3, J2, J4, reduceCtorEq, reduceIte, Ju, Qb, Qa, Jy, aun, Q9, Jk, Jh, Jx, Jw, Ji, Q8, Jf, Q1, Jr, Js, J1, J5, Ja, J9, Jb, J6, J7, Jd, J8, RB, Jv, Je, Zq, k1, k2, k3, k7, k8, k9, k10, k11, f1, q11])
            | (simp (disch := (first | omega | (simp only [RO]; done) | assumption | (simp only [RM, Je]; done) | (simp only [RL, Je]; omega))) only [RD, reduceCtorEq, reduceIte, Je, J1, J3, J2, J6, Zq, k1, k2, k3, k7, k8, k9, k10, k11, f1, q11])
          all_goals
            refine Xi (Of_calls k _ hk) ?_
            rintro _ H4 ⟨u4, rfl, U4, x4⟩
            refine ⟨x4, ?_⟩
            repeat' first
              | (simp only [Q3, RA, Jn, Jm, Jp, Q2, Q0, ev, ofValue, Jt, J0, J3, J2, J4, reduceCtorEq, reduceIte, Ju, Qb, Qa, Jy, aun, Q9, Jk, Jh, Jx, Jw, Ji, Q8, Jf, Q1, Jr, Js, J1, J5, Ja, J9, Jb, J6, J7, Jd, J8, RB, Jv, Je, Zq, k1, k2, k3, k7, k8, k9, k10, k11])
          all_goals
            refine Jq (Radd_calls (sg * z) k u u4 _ (U.ext x4) U4 bz (Sm.int hk)) ?_
            rintro _ H5 ⟨u5, rfl, U5, x5⟩
            rw [hrv] at U5
            rw [hrv]
            have o5 := U5.one
            have c5 := U5.cells
            have q115 := Qh (Qh q11 x4) x5
            repeat' first
              | (simp only [Q4, Jo, reduceIte, J0])
              | (simp only [Q3, RA, Jn, Jm, Jp, Q2, Q0, ev, ofValue, Jt, J0, J3, J2, J4, reduceCtorEq, reduceIte, Ju, Qb, Qa, Jy, aun, Q9, Jk, Jh, Jx, Jw, Ji, Q8, Jf, Q1, Jr, Js, J1, J5, Ja, J9, Jb, J6, J7, Jd, J8, RB, Jv, Je, Zq, k1, k2, k3, k7, k8, k9, k10, k11, q115])
              | (simp (disch := first | omega | (simp only [RO]; done) | assumption) only [RS, X8, X9, X6, X7, Ye, Yf, Vm, Vn, Qu, Qv, Qq, X4, X0])
              | (simp (disch := (first | omega | (simp only [RO]; done) | assumption | (simp only [RM, Je]; done) | (simp only [RL, Je]; omega))) only [RD, reduceCtorEq, reduceIte, Je, J1, J3, J2, J6, Zq, k1, k2, k3, k7, k8, k9, k10, k11, q115])
          all_goals exact ⟨u5, by rw [Qk (Qr q115), if_pos rfl], U5.other q115 (Uy _ _) _, .inr ⟨h, [(sg * z, u)], _, lh, q11, (Ext.trans x4 x5).set2 (Qr q11) _⟩⟩
        · have f1 : ((i : Int) = (j : Int)) = False := eq_false (by omega)
          have hrv : sg * z = rv sg k n xs i j := by unfold rv; rw [if_neg hij, hz]
          rw [hrv] at q11 U
          repeat' first
            | (with_reducible first | refine Jj (fun K hK => ?_) | refine Q6 ?_ | refine Jg ?_ | refine Jz ?_)
            | (simp only [Q4, Jo, reduceIte, J0])
            | ((with_reducible refine hK _ _ ?_); clear hK)
            | (simp only [Q3, RA, Jn, Jm, Jp, Q2, Q0, ev, ofValue, Jt, J0, J3, J2, J4, reduceCtorEq, reduceIte, Ju, Qb, Qa, Jy, aun, Q9, Jk, Jh, Jx, Jw, Ji, Q8, Jf, Q1, Jr, Js, J1, J5, Ja, J9, Jb, J6, J7, Jd, J8, RB, Jv, Je, Zq, k1, k2, k3, k7, k8, k9, k10, k11, f1])
          exact ⟨u, q11, U, .inl (Ext.refl _)⟩
      clear hK7 k1 k2 k3 k7 k8 k9 k10 k11 U q11 u
      obtain ⟨u, k1, k2, k3, k7, k8, k9, k10, k11, q11, U, g4⟩ := hq
      have ou := U.one
      have cu := U.cells
      have lg := g4.len
      have L4 := L3.grew g4 wbel
      have B4 := B3.grew g4 (hbel.imp id fun ⟨e1, e2⟩ => ⟨by omega, fun x hx => by have := e2 x hx; omega⟩)
      have x4 := Ext.grew y3 g4 (by rw [Qm]; omega)
      obtain ⟨w', H5, ga, L5, gr, h', hw'⟩ := L4.append (by omega) (by omega) U
      have lg5 := gr.len
      have B5 := B4.grew gr hbel
      have x5 := Ext.grew x4 gr (by rw [Qm]; omega)
      have q35 : Qt H5 H.length = some (Sb n a) := Qh (Qo rfl) x5
      repeat' first
        | (with_reducible first | refine Jg ?_)
        | (simp only [Q4, Jo, reduceIte, J0])
        | (simp only [Q3, RA, Jn, Jm, Jp, Q2, Q0, ev, ofValue, Jt, J0, J3, J2, J4, reduceCtorEq, reduceIte, Ju, Qb, Qa, Jy, aun, Q9, Jk, Jh, Jx, Jw, Ji, Q8, Jf, Q1, Jr, Js, J1, J5, Ja, J9, Jb, J6, J7, Jd, J8, RB, Jv, Je, Zq, k1, k2, k3, k7, k8, k9, k10, k11, q11, ou, cu, ga])
        | (simp (disch := (first | omega | (simp only [RO]; done) | assumption | (simp only [RM, Je]; done) | (simp only [RL, Je]; omega))) only [RD, reduceCtorEq, reduceIte, Je, J1, J3, J2, J6, Zq, k1, k2, k3, k7, k8, k9, k10, k11, q11, ou, cu, ga])
      all_goals
        refine hK5 _ _ ?_
        repeat' first
          | (with_reducible first | refine Jg ?_)
          | (simp only [Q4, Jo, reduceIte, J0])
          | (simp only [Q3, RA, Jn, Jm, Jp, Q2, Q0, ev, ofValue, Jt, J0, J3, J2, J4, reduceCtorEq, reduceIte, Ju, Qb, Qa, Jy, aun, Q9, Jk, Jh, Jx, Jw, Ji, Q8, Jf, Q1, Jr, Js, J1, J5, Ja, J9, Jb, J6, J7, Jd, J8, RB, Jv, Je, Zq, k1, k2, k3, k7, k8, k9, k10, e2])
      all_goals
        refine ⟨_, by omega, j + 1, w', _, rfl, by omega, rfl, rfl, q35, L5, by rw [List.length_append, hll]; rfl, .inr (by rw [hw', hll]; rfl), fun y hy => ?_, B5, by omega, x5⟩
        rw [Nt, hll]
        by_cases e : y = j
        · rw [if_pos e, e]
        · rw [if_neg e]; exact hlv y (by omega)
    · obtain rfl : j = n := by omega
      repeat' first
        | (with_reducible first | refine Jj (fun K hK => ?_) | refine Qz ?_ | refine Jg ?_ | refine Jz ?_)
        | (with_reducible refine X5 (fun hc => ?_) (fun hc => ?_) <;> (try simp only [RC] at hc) <;> (try (exfalso; first | omega | contradiction)))
        | (simp only [Q4, Jo, reduceIte, J0])
        | ((with_reducible refine hK _ _ ?_); clear hK)
        | (simp only [Q3, RA, Jn, Jm, Jp, Q2, Q0, ev, ofValue, Jt, J0, J3, J2, J4, reduceCtorEq, reduceIte, Ju, Qb, Qa, Jy, aun, Q9, Jk, Jh, Jx, Jw, Ji, Q8, Jf, Q1, Jr, Js, J1, J5, Ja, J9, Jb, J6, J7, Jd, J8, RB, Jv, Je, Zq, k1, k2, k3, k7, k8, k9, k10, q3])
        | (simp (disch := (first | omega | (simp only [RO]; done) | assumption | (simp only [RM, Je]; done) | (simp only [RL, Je]; omega))) only [RD, reduceCtorEq, reduceIte, Je, J1, J3, J2, J6, Zq, k1, k2, k3, k7, k8, k9, k10, q3])
      refine hK4 _ _ ?_
      have ow := L.one
      have cw := AV.cells_one ow
      have sw := AV.solid_one ow
      have aw : [w].all AV.one = true := by simp [ow]
      have l2 := x2.len
      rw [Qm] at l2
      obtain ⟨v', H3, g, B3, hx3⟩ := B.append (l := l) (mid := H1.length) (by omega) (by omega) L (by rw [hll]; exact hw0.resolve_left (by omega)) (by omega) hbel
      have x3 := hx3 (H ++ [Sb j a]) x2 (by rw [Qm]; exact Nat.le_refl _)
      have q33 : Qt H3 H.length = some (Sb j a) := Qh (Qo rfl) x3
      repeat' first
        | (with_reducible first | refine Jg ?_)
        | (simp only [Q4, Jo, reduceIte, J0])
        | (simp only [Q3, RA, Jn, Jm, Jp, Q2, Q0, ev, ofValue, Jt, J0, J3, J2, J4, reduceCtorEq, reduceIte, Ju, Qb, Qa, Jy, aun, Q9, Jk, Jh, Jx, Jw, Ji, Q8, Jf, Q1, Jr, Js, J1, J5, Ja, J9, Jb, J6, J7, Jd, J8, RB, Jv, Je, Zq, k1, k2, k3, k7, k8, k9, k10, ow, cw, sw, aw, g])
      refine hK3 _ _ ?_
      repeat' first
        | (with_reducible first | refine Jg ?_)
        | (simp only [Q4, Jo, reduceIte, J0])
        | (simp only [Q3, RA, Jn, Jm, Jp, Q2, Q0, ev, ofValue, Jt, J0, J3, J2, J4, reduceCtorEq, reduceIte, Ju, Qb, Qa, Jy, aun, Q9, Jk, Jh, Jx, Jw, Ji, Q8, Jf, Q1, Jr, Js, J1, J5, Ja, J9, Jb, J6, J7, Jd, J8, RB, Jv, Je, Zq, k1, k2, k3, k7, k8, e1])
      refine ⟨_, by omega, i + 1, v', _, _, rfl, by omega, rfl, rfl, q33, B3, by rw [List.length_append, hpl]; rfl, fun x hx => ?_, fun x y hx hy => ?_, x3⟩
      · rw [Nt, hpl]
        split
        · exact hll
        · exact hw x (by omega)
      · rw [Nt, hpl]
        by_cases e : x = i
        · rw [if_pos e, e]; exact hlv y hy
        · rw [if_neg e]; exact hv x y (by omega) hy
  · obtain rfl : i = n := by omega
    repeat' first
      | (with_reducible first | refine Jj (fun K hK => ?_) | refine Qz ?_ | refine Qj ?_ | refine Jg ?_ | refine Jz ?_)
      | (with_reducible refine X5 (fun hc => ?_) (fun hc => ?_) <;> (try simp only [RC] at hc) <;> (try (exfalso; first | omega | contradiction)))
      | (simp only [Q4, Jo, reduceIte, J0])
      | ((with_reducible refine hK _ _ ?_); clear hK)
      | (clear hK; (with_reducible refine hK _ _ ?_); clear hK)
      | (simp only [Q3, RA, Jn, Jm, Jp, Q2, Q0, ev, ofValue, Jt, J0, J3, J2, J4, reduceCtorEq, reduceIte, Ju, Qb, Qa, Jy, aun, Q9, Jk, Jh, Jx, Jw, Ji, Q8, Jf, Q1, Jr, Js, J1, J5, Ja, J9, Jb, J6, J7, Jd, J8, RB, Jv, Je, Zq, k1, k2, k3, k7, k8, q3])
      | (simp (disch := (first | omega | (simp only [RO]; done) | assumption | (simp only [RM, Je]; done) | (simp only [RL, Je]; omega))) only [RD, reduceCtorEq, reduceIte, Je, J1, J3, J2, J6, Zq, k1, k2, k3, k7, k8, q3])
    (
     (refine Qg (rs := [.tmp 6]) rfl ?_)
     (simp only [Qx, Qd, Fr.put_some, Fr.put_none, Qe, Qf, Qi, J0, reduceIte, k7])
     (try simp (disch := (first | omega | (simp only [RO]; done) | assumption | (simp only [RM, Je]; done) | (simp only [RL, Je]; omega))) only [RD, reduceCtorEq, reduceIte, Je, J1, J3, J2, J6, Zq, k7]))
    refine ⟨vs, pss, ?_, ⟨hpl, hw, fun x y _ _ hx hy => by rw [Gj]; exact hv x y hx hy⟩, (Ext.push _ _).trans x1⟩
    cases B with
    | no h1 h2 h3 => exact .no h1 h2 h3
    | yes p h1 h2 h3 h4 h5 => exact .yes p h1 h2 (by omega) (fun x hx => by have := h4 x hx; omega) h5
end Go.Proofs.YtfalfmfkifemeaaGreatDoor
namespace Go.Proofs.YtfalfmfkifemeaaGreatDoor
open Go.AL Go.PW Go.PD
theorem Yh : type_of% (Jc @Z8 (Jc @Xd (Jc @Xz (Jc @X1 (Jc @Xj (Jc @Za (Jc @Z9 (Jc @Vx (@W0))))))))) := Jc @Z8 (Jc @Xd (Jc @Xz (Jc @X1 (Jc @Xj (Jc @Za (Jc @Z9 (Jc @Vx (@W0))))))))
abbrev pn59_14RgE : Plan := (.one 0 (.one 1 (.one 2 (.one 3 (.one 4 (.one 5 (.one 6 (.one 7 (.one 8 (.one 9 (.ext 10 (.one 11 (.one 12 .nil)))))))))))))
set_option maxRecDepth 8000
def midB (rho : Nat → Nat → Int) (k i j x y : Nat) : Int := if k < x ∧ k < y ∧ (x < i ∨ (x = i ∧ y < j)) then d rho (k + 1) x y else d rho k x y
structure StM (n k i j : Nat) (rho : Nat → Nat → Int) (pss : List (List (Int × AV))) : Prop where
  len : pss.length = n
  wid : ∀ x, x < n → (pss.getD x []).length = n
  get : ∀ x y, k ≤ x → k ≤ y → x < n → y < n → ((pss.getD x []).getD y (0, .nilS)).1 = midB rho k i j x y
theorem StB.mid {n k : Nat} {rho : Nat → Nat → Int} {pss : List (List (Int × AV))} (S : StB n k rho pss) : StM n k (k + 1) (k + 1) rho pss :=
  ⟨S.len, S.wid, fun x y h1 h2 h3 h4 => by rw [S.get x y h1 h2 h3 h4]; unfold midB; rw [if_neg (by omega)]⟩
theorem StM.row {n k i : Nat} {rho : Nat → Nat → Int} {pss : List (List (Int × AV))} (S : StM n k i n rho pss) : StM n k (i + 1) (k + 1) rho pss :=
  ⟨S.len, S.wid, fun x y h1 h2 h3 h4 => by
    rw [S.get x y h1 h2 h3 h4]; unfold midB
    have : (k < x ∧ k < y ∧ (x < i ∨ x = i ∧ y < n)) ↔ (k < x ∧ k < y ∧ (x < i + 1 ∨ x = i + 1 ∧ y < k + 1)) := by omega
    simp only [this]⟩
theorem StM.done {n k : Nat} {rho : Nat → Nat → Int} {pss : List (List (Int × AV))} (S : StM n k n (k + 1) rho pss) : StB n (k + 1) rho pss :=
  ⟨S.len, S.wid, fun x y h1 h2 h3 h4 => by rw [S.get x y (by omega) (by omega) h3 h4]; unfold midB; rw [if_pos ⟨by omega, by omega, .inl h3⟩]⟩
theorem StM.set {n k i j : Nat} {rho : Nat → Nat → Int} {pss : List (List (Int × AV))} (S : StM n k i j rho pss) (hki : k < i) (hkj : k < j) (hi : i < n) (hj : j < n) (u : AV) : StM n k i (j + 1) rho (pss.set i ((pss.getD i []).set j (d rho (k + 1) i j, u))) := by
  have hil : i < pss.length := by rw [S.len]; exact hi
  have hjl : j < (pss.getD i []).length := by rw [S.wid i hi]; exact hj
  have hg : ∀ x, (pss.set i ((pss.getD i []).set j (d rho (k + 1) i j, u))).getD x [] = if x = i then (pss.getD i []).set j (d rho (k + 1) i j, u) else pss.getD x [] := fun x => Yj _ _ _ _ _ hil
  refine ⟨by rw [List.length_set]; exact S.len, fun x hx => ?_, fun x y h1 h2 h3 h4 => ?_⟩
  · rw [hg]
    split
    · rw [List.length_set]; exact S.wid i hi
    · exact S.wid x hx
  · rw [hg]
    by_cases e : x = i
    · subst e
      rw [if_pos rfl, Yj _ _ _ _ _ hjl]
      by_cases e2 : y = j
      · subst e2
        rw [if_pos rfl]; unfold midB; rw [if_pos ⟨hki, hkj, .inr ⟨rfl, by omega⟩⟩]
      · rw [if_neg e2, S.get x y h1 h2 h3 h4]; unfold midB
        exact ite_congr (propext (by omega)) (fun _ => rfl) (fun _ => rfl)
    · rw [if_neg e, S.get x y h1 h2 h3 h4]; unfold midB
      have : (k < x ∧ k < y ∧ (x < i ∨ x = i ∧ y < j)) ↔ (k < x ∧ k < y ∧ (x < i ∨ x = i ∧ y < j + 1)) := by omega
      simp only [this]
def RowsAt (n : Nat) (vs : List AV) (h : Nat) : Prop := ∃ i, i < n ∧ h = (vs.getD i .nilS).hd
theorem Ro {x : Int} (h : x.natAbs ≤ 2 ^ 530) : Sm x := Sm_of (Nat.le_trans h (by decide +kernel))
theorem Sm_600 {x : Int} (h : x.natAbs ≤ 2 ^ 930) : Sm x := Sm_of (Nat.le_trans h (by decide +kernel))
theorem Sm_601 {x y : Int} (h : x.natAbs ≤ 2 ^ 930) (h' : y.natAbs ≤ 2 ^ 930) : Sm (x - y) := Sm_of (by
  have h2 : 2 ^ 930 + 2 ^ 930 ≤ 2 ^ 1000 := by decide +kernel
  generalize (2 ^ 930 : Nat) = u at h h' h2
  generalize (2 ^ 1000 : Nat) = v at h2
  omega)
theorem Rstep_d (p n k i j : Nat) (rho : Nat → Nat → Int) (vs : List AV) (pss : List (List (Int × AV))) (t : AV) (H : Hp) (M : BMat H p vs pss) (S : StM n k i j rho pss) (h8 : n ≤ 8) (hki : k < i) (hkj : k < j) (hi : i < n) (hj : j < n) (T : Bs_ H t (P rho k)) (hp : P rho k ≠ 0) (hB : ∀ i j, (rho i j).natAbs ≤ 18446744073709551616) :
    ACalls Tryz.prog 58 [.sg p 0 n 1, .int .i64 (k : Int), .int .i64 (i : Int), .int .i64 (j : Int), BV (P rho k) t] H fun r H' => ∃ u, r = BV (d rho (k + 1) i j) u ∧ Bs_ H' u (d rho (k + 1) i j) ∧ Ext H H' := by
  have s := fun i j => d_small hB (k := k) (by omega) i j
  have m := fun i j => d_mid hB (k := k) (by omega) i j
  have h := Rstep_calls p n k i j vs pss (P rho k) t H M S.len S.wid (by omega) hi hj T hp (d rho k k k) (d rho k i j) (d rho k i k) (d rho k k j)
    (by rw [S.get k k (by omega) (by omega) (by omega) (by omega)]; unfold midB; rw [if_neg (by omega)])
    (by rw [S.get i j (by omega) (by omega) (by omega) (by omega)]; unfold midB; rw [if_neg (by omega)])
    (by rw [S.get i k (by omega) (by omega) (by omega) (by omega)]; unfold midB; rw [if_neg (by omega)])
    (by rw [S.get k j (by omega) (by omega) (by omega) (by omega)]; unfold midB; rw [if_neg (by omega)])
    (Ro (s _ _)) (Ro (s _ _)) (Ro (s _ _)) (Ro (s _ _)) (Sm_600 (Gw (m _ _) (m _ _))) (Sm_600 (Gw (m _ _) (m _ _))) (Sm_601 (Gw (m _ _) (m _ _)) (Gw (m _ _) (m _ _)))
  rw [d_step hp] at h
  exact h
theorem BsV.away {H : Hp} {v : AV} {l : List (Int × AV)} {lo h : Nat} (B : BsV H v l lo) (hh : h < lo) : v = .nilS ∨ v.hd ≠ h := by
  rcases B.at_ with ⟨_, e⟩ | ⟨k, e, _, h3⟩
  · exact .inl e
  · right; rw [e]; show k ≠ h; omega
theorem BsV.low {H : Hp} {v : AV} {l : List (Int × AV)} {lo lo' : Nat} (B : BsV H v l lo) (h : lo' ≤ lo) : BsV H v l lo' := by
  refine ⟨?_, B.big⟩
  rcases B.at_ with e | ⟨k, e, h2, h3⟩
  · exact .inl e
  · exact .inr ⟨k, e, h2, by omega⟩
set_option maxHeartbeats 16000000 in
theorem Rminors_calls (n p : Nat) (rho : Nat → Nat → Int) (vs : List AV) (pss : List (List (Int × AV))) (H : Hp) (M : BMat H p vs pss) (S : StB n 0 rho pss) (h8 : n ≤ 8) (hB : ∀ i j, (rho i j).natAbs ≤ 18446744073709551616) :
    ACalls Tryz.prog 59 [.sg p 0 n 1] H fun r H' => ∃ l, BsV H' r l H.length ∧ l.map Prod.fst = Yn rho n 0 ∧ Off (RowsAt n vs) H H' := by
  have lp := Qr M.out
  have hrl : ∀ i, i < n → (vs.getD i .nilS).hd < H.length := fun i hi => Qr (M.row i (by rw [S.len]; exact hi)).2
  have hrp : ∀ i, i < n → (vs.getD i .nilS).hd ≠ p := fun i hi => M.off i (by rw [S.len]; exact hi)
  refine Q7 Tryz.func59 rfl (by kernel_rfl) (by kernel_rfl) ?_
  repeat' first
    | (with_reducible first | refine Jj (fun K hK => ?_) | refine Jg ?_)
    | (simp only [Q4, Jo, reduceIte, J0])
    | ((with_reducible refine hK _ _ ?_); clear hK)
    | (simp only [Q3, RA, Jn, Jm, Jp, Q2, Q0, ev, ofValue, Jt, J0, J3, J2, J4, reduceCtorEq, reduceIte, Ju, Qb, Qa, Jy, aun, Q9, Jk, Jh, Jx, Jw, Ji, Q8, Jf, Q1, Jr, Js, J1, J5, Ja, J9, Jb, J6, J7, Jd, J8, RB, Jv, Je, Yh])
  refine Jq (Of_calls 1 _ (by omega)) ?_
  rintro _ H1 ⟨t, rfl, T, x1⟩
  have ot := T.one
  have ct := T.cells
  have lx1 := x1.len
  repeat' first
    | (with_reducible first | refine Jj (fun K hK => ?_) | refine Qc ?_ | refine Jg ?_)
    | (simp only [Q4, Jo, reduceIte, J0])
    | ((with_reducible refine hK _ _ ?_); clear hK)
    | (simp only [Q3, RA, Jn, Jm, Jp, Q2, Q0, ev, ofValue, Jt, J0, J3, J2, J4, reduceCtorEq, reduceIte, Ju, Qb, Qa, Jy, aun, Q9, Jk, Jh, Jx, Jw, Ji, Q8, Jf, Q1, Jr, Js, J1, J5, Ja, J9, Jb, J6, J7, Jd, J8, RB, Jv, Je, Yh])
    | (simp (disch := first | omega | (simp only [RO]; done) | assumption) only [RS, X6, X7, Ye, Yf, Vm, Vn, X4, X0])
    | (simp (disch := (first | omega | (simp only [RO]; done) | assumption | (simp only [RM, Je]; done) | (simp only [RL, Je]; omega))) only [RD, reduceCtorEq, reduceIte, Je, J1, J3, J2, J6, Yh])
  refine X2 (fun m fr' H2 => ∃ (k : Nat) (v t : AV) (l : List (Int × AV)) (pss : List (List (Int × AV))), m = n - k ∧ k ≤ n ∧ fr' 0 = .sg p 0 n 1 ∧ fr' 3 = .ptr H1.length 0 ∧ fr' 4 = v ∧ fr' 5 = .int .i64 (k : Int) ∧
      StB n k rho pss ∧ BMat H2 p vs pss ∧ P rho k ≠ 0 ∧ BsV H2 v l (H1.length + 1) ∧ l.length = k ∧ l.map Prod.fst ++ Yn rho (n - k) k = Yn rho n 0 ∧ Qt H2 H1.length = some (BB (P rho k) t) ∧ Bs_ H2 t (P rho k) ∧ Off (RowsAt n vs) H H2) (m := n)
    ⟨0, .nilS, t, [], pss, by omega, by omega, rfl, rfl, rfl, rfl, S, (M.ext x1).push _, by rw [Kz]; decide, BsV.nil _ _, rfl, rfl, by rw [Kz]; exact Qo rfl, by rw [Kz]; exact T.push _, ((Off.refl _ _).ext x1).push _⟩ ?_
  clear M S
  rintro m fr' H2 ⟨k, v, t, l, pss, rfl, hk, k0, k3, k4, k5, S, M, hne, V, hll, hle, q3, T, O⟩
  have e1 : IntKind.i64.wrap ((k : Int) + 1) = ((k + 1 : Nat) : Int) := by rw [Q5 (by omega) (by omega)]; omega
  have l3 := Qr q3
  by_cases hlt : k < n
  · have hkl : k < pss.length := by rw [S.len]; exact hlt
    have hP : ((pss.getD k []).getD k (0, .nilS)).1 = P rho (k + 1) := by rw [S.get k k (Nat.le_refl _) (Nat.le_refl _) hlt hlt, ← Kf]
    have a0 := BMat.idx0 (p := p) (n := n) (k := .i64) (j := (k : Int)) (by omega) (by omega)
    have a1 := M.at0 hkl
    have a2 := M.idx hkl (k := .i64) (j := (k : Int)) (by omega) (by rw [S.wid k hlt]; omega)
    have a3 := M.get hkl (j := k) (by rw [S.wid k hlt]; exact hlt)
    have Sb := M.big k k hkl (by rw [S.wid k hlt]; exact hlt)
    rw [Int.toNat_natCast] at a0 a2
    obtain ⟨s, hs⟩ : ∃ s, s = ((pss.getD k []).getD k (0, .nilS)).2 := ⟨_, rfl⟩
    rw [hP, ← hs] at a3 Sb
    obtain ⟨v', H3, g, V3, gr, h', hv'⟩ := V.append (by omega) (by omega) Sb
    have M3 := M.grew gr (by omega) (fun i hi => by rw [S.len] at hi; have := hrl i hi; omega)
    have O3 := O.grew gr (by omega)
    have q33 : Qt H3 H1.length = some (BB (P rho k) t) := by rw [gr.get (by omega) l3]; exact q3
    have T3 := T.grew gr
    have S3 := Sb.grew gr
    have os := Sb.one
    have cs := Sb.cells
    have b1 := M3.at0 hkl
    have b3 := M3.get hkl (j := k) (by rw [S.wid k hlt]; exact hlt)
    rw [hP, ← hs] at b3
    have hsg := Sign_calls (P rho (k + 1)) s H3 S3
    by_cases hx : P rho (k + 1) ≤ 0
    · have hs0 : ((P rho (k + 1)).sign ≤ 0) = True := eq_true (Int.sign_nonpos_iff.mpr hx)
      repeat' first
        | (with_reducible first | refine Jj (fun K hK => ?_) | refine Qc ?_ | refine Q6 ?_ | refine Qz ?_ | refine Qj ?_ | refine Jg ?_ | refine Jz ?_)
        | ((with_reducible refine Jq (hsg) ?_); rintro _ _ ⟨rfl, rfl⟩)
        | (with_reducible refine X5 (fun hc => ?_) (fun hc => ?_) <;> (try simp only [RC] at hc) <;> (try (exfalso; first | omega | contradiction)))
        | (simp only [Q4, Jo, reduceIte, J0])
        | ((with_reducible refine hK _ _ ?_); clear hK)
        | (clear hK; clear hK; (with_reducible refine hK _ _ ?_); clear hK)
        | (simp only [Q3, RA, Jn, Jm, Jp, Q2, Q0, ev, ofValue, Jt, J0, J3, J2, J4, reduceCtorEq, reduceIte, Ju, Qb, Qa, Jy, aun, Q9, Jk, Jh, Jx, Jw, Ji, Q8, Jf, Q1, Jr, Js, J1, J5, Ja, J9, Jb, J6, J7, Jd, J8, RB, Jv, Je, Yh, k0, k3, k4, k5, a0, a1, a2, a3, os, g, b1, b3, hs0])
      all_goals
        (
         (refine Qg (rs := [.tmp 2]) rfl ?_)
         (simp only [Qx, Qd, Fr.put_some, Fr.put_none, Qe, Qf, Qi, J0, reduceIte])
         (try simp (disch := (first | omega | (simp only [RO]; done) | assumption | (simp only [RM, Je]; done) | (simp only [RL, Je]; omega))) only [RD, reduceCtorEq, reduceIte, Je, J1, J3, J2, J6, Yh]))
      all_goals
        rw [show n - k = (n - (k + 1)) + 1 by omega] at hle
        simp only [Yn, hx, if_true] at hle
        exact ⟨_, V3.low (by omega), by rw [List.map_append]; exact hle, O3⟩
    · have hs0 : ((P rho (k + 1)).sign ≤ 0) = False := eq_false (fun h => hx (Int.sign_nonpos_iff.mp h))
      refine Jj (fun K hQ => ?_)
      repeat' first
        | (with_reducible first | refine Jj (fun K hK => ?_) | refine Q6 ?_ | refine Jg ?_ | refine Jz ?_)
        | (with_reducible refine X5 (fun hc => ?_) (fun hc => ?_) <;> (try simp only [RC] at hc) <;> (try (exfalso; first | omega | contradiction)))
        | (simp only [Q4, Jo, reduceIte, J0])
        | ((with_reducible refine hK _ _ ?_); clear hK)
        | (simp only [Q3, RA, Jn, Jm, Jp, Q2, Q0, ev, ofValue, Jt, J0, J3, J2, J4, reduceCtorEq, reduceIte, Ju, Qb, Qa, Jy, aun, Q9, Jk, Jh, Jx, Jw, Ji, Q8, Jf, Q1, Jr, Js, J1, J5, Ja, J9, Jb, J6, J7, Jd, J8, RB, Jv, Je, Yh, k0, k3, k4, k5])
      refine hQ _ _ ?_
      clear hQ
      refine Jj (fun K3 hK3 => ?_)
      refine Qc ?_
      refine Jj (fun K hQ => ?_)
      repeat' first
        | (with_reducible first | refine Jj (fun K hK => ?_) | refine Q6 ?_ | refine Jg ?_ | refine Jz ?_)
        | ((with_reducible refine Jq (hsg) ?_); rintro _ _ ⟨rfl, rfl⟩)
        | (simp only [Q4, Jo, reduceIte, J0])
        | ((with_reducible refine hK _ _ ?_); clear hK)
        | (simp only [Q3, RA, Jn, Jm, Jp, Q2, Q0, ev, ofValue, Jt, J0, J3, J2, J4, reduceCtorEq, reduceIte, Ju, Qb, Qa, Jy, aun, Q9, Jk, Jh, Jx, Jw, Ji, Q8, Jf, Q1, Jr, Js, J1, J5, Ja, J9, Jb, J6, J7, Jd, J8, RB, Jv, Je, Yh, k0, k3, k4, k5, a0, a1, a2, a3, os, g, b1, b3, hs0])
      refine hQ _ _ ?_
      clear hQ
      refine Jj (fun K hQ => ?_)
      repeat' first
        | (with_reducible first | refine Jj (fun K hK => ?_) | refine Q6 ?_ | refine Jg ?_ | refine Jz ?_)
        | ((with_reducible refine Jq (hsg) ?_); rintro _ _ ⟨rfl, rfl⟩)
        | (simp only [Q4, Jo, reduceIte, J0])
        | ((with_reducible refine hK _ _ ?_); clear hK)
        | (simp only [Q3, RA, Jn, Jm, Jp, Q2, Q0, ev, ofValue, Jt, J0, J3, J2, J4, reduceCtorEq, reduceIte, Ju, Qb, Qa, Jy, aun, Q9, Jk, Jh, Jx, Jw, Ji, Q8, Jf, Q1, Jr, Js, J1, J5, Ja, J9, Jb, J6, J7, Jd, J8, RB, Jv, Je, Yh, k0, k3, k4, k5, a0, a1, a2, a3, os, g, b1, b3, hs0])
      refine hQ _ _ ?_
      clear hQ
      refine Jj (fun K4 hK4 => ?_)
      repeat' first
        | (with_reducible first | refine Jj (fun K hK => ?_) | refine Qc ?_ | refine Jg ?_)
        | (simp only [Q4, Jo, reduceIte, J0])
        | ((with_reducible refine hK _ _ ?_); clear hK)
        | (simp only [Q3, RA, Jn, Jm, Jp, Q2, Q0, ev, ofValue, Jt, J0, J3, J2, J4, reduceCtorEq, reduceIte, Ju, Qb, Qa, Jy, aun, Q9, Jk, Jh, Jx, Jw, Ji, Q8, Jf, Q1, Jr, Js, J1, J5, Ja, J9, Jb, J6, J7, Jd, J8, RB, Jv, Je, Yh, k0, k3, k4, k5, e1])
      refine X2 (fun m fr' H4 => ∃ (i : Nat) (pss : List (List (Int × AV))), m = n - i ∧ k < i ∧ i ≤ n ∧ fr' 0 = .sg p 0 n 1 ∧ fr' 3 = .ptr H1.length 0 ∧ fr' 4 = v' ∧ fr' 5 = .int .i64 (k : Int) ∧ fr' 6 = .int .i64 (i : Int) ∧ StM n k i (k + 1) rho pss ∧ BMat H4 p vs pss ∧ BsV H4 v' (l ++ [(P rho (k + 1), s)]) (H1.length + 1) ∧ Qt H4 H1.length = some (BB (P rho k) t) ∧ Bs_ H4 t (P rho k) ∧ Off (RowsAt n vs) H H4) (m := n - (k + 1))
        ⟨k + 1, pss, rfl, by omega, by omega, k0, k3, rfl, k5, rfl, S.mid, M3, V3, q33, T3, O3⟩ ?_
      clear k0 k3 k4 k5 S M V q3 T O M3 V3 q33 T3 O3 a0 a1 a2 a3 b1 b3 hsg g Sb S3 hkl hP hs gr hv'
      rintro m fr' H4 ⟨i, pss, rfl, hki, hi, k0, k3, k4, k5, k6, S, M, V, q3, T, O⟩
      have e6 : IntKind.i64.wrap ((i : Int) + 1) = ((i + 1 : Nat) : Int) := by rw [Q5 (by omega) (by omega)]; omega
      by_cases hin : i < n
      · skip
        refine Jj (fun K hQ => ?_)
        repeat' first
          | (with_reducible first | refine Jj (fun K hK => ?_) | refine Q6 ?_ | refine Jg ?_ | refine Jz ?_)
          | (with_reducible refine X5 (fun hc => ?_) (fun hc => ?_) <;> (try simp only [RC] at hc) <;> (try (exfalso; first | omega | contradiction)))
          | (simp only [Q4, Jo, reduceIte, J0])
          | ((with_reducible refine hK _ _ ?_); clear hK)
          | (simp only [Q3, RA, Jn, Jm, Jp, Q2, Q0, ev, ofValue, Jt, J0, J3, J2, J4, reduceCtorEq, reduceIte, Ju, Qb, Qa, Jy, aun, Q9, Jk, Jh, Jx, Jw, Ji, Q8, Jf, Q1, Jr, Js, J1, J5, Ja, J9, Jb, J6, J7, Jd, J8, RB, Jv, Je, Yh, k0, k3, k4, k5, k6])
        refine hQ _ _ ?_
        clear hQ
        refine Jj (fun K5 hK5 => ?_)
        refine Qc ?_
        repeat' first
          | (with_reducible first | refine Jj (fun K hK => ?_) | refine Qc ?_ | refine Jg ?_)
          | (simp only [Q4, Jo, reduceIte, J0])
          | ((with_reducible refine hK _ _ ?_); clear hK)
          | (simp only [Q3, RA, Jn, Jm, Jp, Q2, Q0, ev, ofValue, Jt, J0, J3, J2, J4, reduceCtorEq, reduceIte, Ju, Qb, Qa, Jy, aun, Q9, Jk, Jh, Jx, Jw, Ji, Q8, Jf, Q1, Jr, Js, J1, J5, Ja, J9, Jb, J6, J7, Jd, J8, RB, Jv, Je, Yh, k0, k3, k4, k5, k6, e1])
        refine X2 (fun m fr' H5 => ∃ (j : Nat) (pss : List (List (Int × AV))), m = n - j ∧ k < j ∧ j ≤ n ∧ fr' 0 = .sg p 0 n 1 ∧ fr' 3 = .ptr H1.length 0 ∧ fr' 4 = v' ∧ fr' 5 = .int .i64 (k : Int) ∧ fr' 6 = .int .i64 (i : Int) ∧ fr' 7 = .int .i64 (j : Int) ∧ StM n k i j rho pss ∧ BMat H5 p vs pss ∧ BsV H5 v' (l ++ [(P rho (k + 1), s)]) (H1.length + 1) ∧ Qt H5 H1.length = some (BB (P rho k) t) ∧ Bs_ H5 t (P rho k) ∧ Off (RowsAt n vs) H H5) (m := n - (k + 1))
          ⟨k + 1, pss, rfl, by omega, by omega, k0, k3, k4, k5, k6, rfl, S, M, V, q3, T, O⟩ ?_
        clear k0 k3 k4 k5 k6 S M V q3 T O pss
        rintro m fr' H5 ⟨j, pss, rfl, hkj, hj, k0, k3, k4, k5, k6, k7, S, M, V, q3, T, O⟩
        have e7 : IntKind.i64.wrap ((j : Int) + 1) = ((j + 1 : Nat) : Int) := by rw [Q5 (by omega) (by omega)]; omega
        by_cases hjn : j < n
        · have hil : i < pss.length := by rw [S.len]; exact hin
          have hjl : j < (pss.getD i []).length := by rw [S.wid i hin]; exact hjn
          have a0 := BMat.idx0 (p := p) (n := n) (k := .i64) (j := (i : Int)) (by omega) (by omega)
          have a1 := M.at0 hil
          have a2 := M.idx hil (k := .i64) (j := (j : Int)) (by omega) (by omega)
          rw [Int.toNat_natCast] at a0 a2
          have l5 := O.1
          have hri := hrl i hin
          have hrpi := hrp i hin
          repeat' first
            | (with_reducible first | refine Jj (fun K hK => ?_) | refine Qc ?_ | refine Q6 ?_ | refine Jg ?_ | refine Qw (id := 14) [10] pn59_14RgE (by kernel_rfl) (by kernel_rfl) ?_ | refine Jz ?_ | refine Z1 ?_)
            | (with_reducible refine X5 (fun hc => ?_) (fun hc => ?_) <;> (try simp only [RC] at hc) <;> (try (exfalso; first | omega | contradiction)))
            | (simp only [Q4, Jo, reduceIte, J0])
            | ((with_reducible refine hK _ _ ?_); clear hK)
            | (simp only [Q3, RA, Jn, Jm, Jp, Q2, Q0, ev, ofValue, Jt, J0, J3, J2, J4, reduceCtorEq, reduceIte, Ju, Qb, Qa, Jy, aun, Q9, Jk, Jh, Jx, Jw, Ji, Q8, Jf, Q1, Jr, Js, J1, J5, Ja, J9, Jb, J6, J7, Jd, J8, RB, Jv, Je, Yh, k0, k3, k4, k5, k6, k7, a0, a1, a2, q3])
            | (simp (disch := (first | omega | (simp only [RO]; done) | assumption | (simp only [RM, Je]; done) | (simp only [RL, Je]; omega))) only [RD, reduceCtorEq, reduceIte, Je, J1, J3, J2, J6, Yh, k0, k3, k4, k5, k6, k7, a0, a1, a2, q3])
          all_goals
            refine Xi (Rstep_d p n k i j rho vs pss t H5 M S h8 hki hkj hin hjn T hne hB) ?_
            rintro _ H6 ⟨u, rfl, U, x6⟩
            refine ⟨x6, ?_⟩
            have M6 := M.ext x6
            have a3 := M6.put (x := d rho (k + 1) i j) hil hjl U.one
            have hg6 := (M6.row i hil).2
            have l6 := x6.len
            repeat' first
              | (with_reducible first | refine Jg ?_)
              | (simp only [Q4, Jo, reduceIte, J0])
              | ((with_reducible refine hK _ _ ?_); clear hK)
              | (simp only [Q3, RA, Jn, Jm, Jp, Q2, Q0, ev, ofValue, Jt, J0, J3, J2, J4, reduceCtorEq, reduceIte, Ju, Qb, Qa, Jy, aun, Q9, Jk, Jh, Jx, Jw, Ji, Q8, Jf, Q1, Jr, Js, J1, J5, Ja, J9, Jb, J6, J7, Jd, J8, RB, Jv, Je, Yh, k0, k3, k4, k5, k6, k7, a2, a3, e7])
          all_goals
            exact ⟨_, by omega, j + 1, _, rfl, by omega, by omega, rfl, S.set hki hkj hin hjn u, M6.set hil hjl U, (V.ext x6).other hg6 (Na _) _ (V.away (by omega)), by rw [Qk (Qr hg6), if_neg (by omega)]; exact Qh q3 x6, (T.ext x6).other hg6 (Na _) _, (O.ext x6).set (Qr hg6) _ (.inl ⟨i, hin, rfl⟩)⟩
        · obtain rfl : j = n := by omega
          repeat' first
            | (with_reducible first | refine Jj (fun K hK => ?_) | refine Qz ?_ | refine Jg ?_ | refine Jz ?_)
            | (with_reducible refine X5 (fun hc => ?_) (fun hc => ?_) <;> (try simp only [RC] at hc) <;> (try (exfalso; first | omega | contradiction)))
            | (simp only [Q4, Jo, reduceIte, J0])
            | ((with_reducible refine hK _ _ ?_); clear hK)
            | (simp only [Q3, RA, Jn, Jm, Jp, Q2, Q0, ev, ofValue, Jt, J0, J3, J2, J4, reduceCtorEq, reduceIte, Ju, Qb, Qa, Jy, aun, Q9, Jk, Jh, Jx, Jw, Ji, Q8, Jf, Q1, Jr, Js, J1, J5, Ja, J9, Jb, J6, J7, Jd, J8, RB, Jv, Je, Yh, k0, k3, k4, k5, k6, k7])
          refine hK5 _ _ ?_
          repeat' first
            | (with_reducible first | refine Jg ?_)
            | (simp only [Q4, Jo, reduceIte, J0])
            | (simp only [Q3, RA, Jn, Jm, Jp, Q2, Q0, ev, ofValue, Jt, J0, J3, J2, J4, reduceCtorEq, reduceIte, Ju, Qb, Qa, Jy, aun, Q9, Jk, Jh, Jx, Jw, Ji, Q8, Jf, Q1, Jr, Js, J1, J5, Ja, J9, Jb, J6, J7, Jd, J8, RB, Jv, Je, Yh, k0, k3, k4, k5, k6, e6])
          exact ⟨_, by omega, i + 1, pss, rfl, by omega, by omega, rfl, S.row, M, V, q3, T, O⟩
      · obtain rfl : i = n := by omega
        repeat' first
          | (with_reducible first | refine Jj (fun K hK => ?_) | refine Qz ?_ | refine Jg ?_ | refine Jz ?_)
          | (with_reducible refine X5 (fun hc => ?_) (fun hc => ?_) <;> (try simp only [RC] at hc) <;> (try (exfalso; first | omega | contradiction)))
          | (simp only [Q4, Jo, reduceIte, J0])
          | ((with_reducible refine hK _ _ ?_); clear hK)
          | (simp only [Q3, RA, Jn, Jm, Jp, Q2, Q0, ev, ofValue, Jt, J0, J3, J2, J4, reduceCtorEq, reduceIte, Ju, Qb, Qa, Jy, aun, Q9, Jk, Jh, Jx, Jw, Ji, Q8, Jf, Q1, Jr, Js, J1, J5, Ja, J9, Jb, J6, J7, Jd, J8, RB, Jv, Je, Yh, k0, k3, k4, k5, k6])
        refine hK4 _ _ ?_
        have hkl : k < pss.length := by rw [S.len]; exact hlt
        have hP : ((pss.getD k []).getD k (0, .nilS)).1 = P rho (k + 1) := by rw [S.get k k (Nat.le_refl _) (Nat.le_refl _) hlt hlt, Kf]; unfold midB; rw [if_neg (by omega)]
        have a0 := BMat.idx0 (p := p) (n := i) (k := .i64) (j := (k : Int)) (by omega) (by omega)
        have a1 := M.at0 hkl
        have a2 := M.idx hkl (k := .i64) (j := (k : Int)) (by omega) (by rw [S.wid k hlt]; omega)
        have a3 := M.get hkl (j := k) (by rw [S.wid k hlt]; exact hlt)
        have Sb := M.big k k hkl (by rw [S.wid k hlt]; exact hlt)
        rw [Int.toNat_natCast] at a0 a2
        obtain ⟨s', hs'⟩ : ∃ s', s' = ((pss.getD k []).getD k (0, .nilS)).2 := ⟨_, rfl⟩
        rw [hP, ← hs'] at a3 Sb
        have os' := Sb.one
        have cs' := Sb.cells
        have l3 := Qr q3
        have l4 := O.1
        repeat' first
          | (with_reducible first | refine Jg ?_)
          | (simp only [Q4, Jo, reduceIte, J0])
          | (simp only [Q3, RA, Jn, Jm, Jp, Q2, Q0, ev, ofValue, Jt, J0, J3, J2, J4, reduceCtorEq, reduceIte, Ju, Qb, Qa, Jy, aun, Q9, Jk, Jh, Jx, Jw, Ji, Q8, Jf, Q1, Jr, Js, J1, J5, Ja, J9, Jb, J6, J7, Jd, J8, RB, Jv, Je, Yh, k0, k3, k4, k5, k6, a0, a1, a2, a3, q3, os', cs'])
          | (simp (disch := (first | omega | (simp only [RO]; done) | assumption | (simp only [RM, Je]; done) | (simp only [RL, Je]; omega))) only [RD, reduceCtorEq, reduceIte, Je, J1, J3, J2, J6, Yh, k0, k3, k4, k5, k6, a0, a1, a2, a3, q3, os', cs'])
        refine hK3 _ _ ?_
        repeat' first
          | (with_reducible first | refine Jg ?_)
          | (simp only [Q4, Jo, reduceIte, J0])
          | (simp only [Q3, RA, Jn, Jm, Jp, Q2, Q0, ev, ofValue, Jt, J0, J3, J2, J4, reduceCtorEq, reduceIte, Ju, Qb, Qa, Jy, aun, Q9, Jk, Jh, Jx, Jw, Ji, Q8, Jf, Q1, Jr, Js, J1, J5, Ja, J9, Jb, J6, J7, Jd, J8, RB, Jv, Je, Yh, k0, k3, k4, k5, k6, e1])
        have hle2 : (l ++ [(P rho (k + 1), s)]).map Prod.fst ++ Yn rho (i - (k + 1)) (k + 1) = Yn rho i 0 := by
          rw [show i - k = (i - (k + 1)) + 1 by omega] at hle
          simp only [Yn, hx, if_false] at hle
          rw [List.map_append, List.append_assoc]; exact hle
        exact ⟨_, by omega, k + 1, v', s', _, pss, rfl, by omega, rfl, rfl, S.done, M.other q3 (Uy _ _) _ (by omega) (fun x hx => by rw [S.len] at hx; have := hrl x hx; omega), by omega, V.other q3 (Uy _ _) _ (V.away (by omega)), by rw [List.length_append, hll]; rfl, hle2, by rw [Qk l3, if_pos rfl], Sb.other q3 (Uy _ _) _, O.set l3 _ (.inr (by omega))⟩
  · obtain rfl : n = k := by omega
    repeat' first
      | (with_reducible first | refine Jj (fun K hK => ?_) | refine Qz ?_ | refine Qj ?_ | refine Jg ?_ | refine Jz ?_)
      | (with_reducible refine X5 (fun hc => ?_) (fun hc => ?_) <;> (try simp only [RC] at hc) <;> (try (exfalso; first | omega | contradiction)))
      | (simp only [Q4, Jo, reduceIte, J0])
      | ((with_reducible refine hK _ _ ?_); clear hK)
      | (clear hK; (with_reducible refine hK _ _ ?_); clear hK)
      | (simp only [Q3, RA, Jn, Jm, Jp, Q2, Q0, ev, ofValue, Jt, J0, J3, J2, J4, reduceCtorEq, reduceIte, Ju, Qb, Qa, Jy, aun, Q9, Jk, Jh, Jx, Jw, Ji, Q8, Jf, Q1, Jr, Js, J1, J5, Ja, J9, Jb, J6, J7, Jd, J8, RB, Jv, Je, Yh, k0, k3, k4, k5])
    (
     (refine Qg (rs := [.tmp 2]) rfl ?_)
     (simp only [Qx, Qd, Fr.put_some, Fr.put_none, Qe, Qf, Qi, J0, reduceIte])
     (try simp (disch := (first | omega | (simp only [RO]; done) | assumption | (simp only [RM, Je]; done) | (simp only [RL, Je]; omega))) only [RD, reduceCtorEq, reduceIte, Je, J1, J3, J2, J6, Yh]))
    rw [Nat.sub_self] at hle
    simp only [Yn, List.append_nil] at hle
    exact ⟨l, V.low (by omega), hle, O⟩
end Go.Proofs.YtfalfmfkifemeaaGreatDoor
namespace Go.Proofs.YtfalfmfkifemeaaGreatDoor
open Go.AL Go.PW Go.PD
set_option maxRecDepth 8000
theorem BMat.swap {H : Hp} {p : Nat} {vs : List AV} {pss : List (List (Int × AV))} (M : BMat H p vs pss) {k i : Nat} (hk : k < pss.length) (hi : i < pss.length) :
    BMat (H.set p ⟨swp .nilS vs k i, .own, 49⟩) p (swp .nilS vs k i) (swp [] pss k i) := by
  have lp := Qr M.out
  have hl := M.len
  have gv := fun j => Kr (.nilS : AV) vs k i j (by omega) (by omega)
  have gr := fun j => Kr ([] : List (Int × AV)) pss k i j hk hi
  have hety : (⟨vs, .own, 49⟩ : Blk).ety ≠ 31 := show (49 : Nat) ≠ 31 by decide
  have key : ∀ j, j < pss.length → ∃ l, l < pss.length ∧ (swp .nilS vs k i).getD j .nilS = vs.getD l .nilS ∧ (swp [] pss k i).getD j [] = pss.getD l [] ∧ l = (if j = k then i else if j = i then k else j) := by
    intro j hj
    rw [gv, gr]
    by_cases e1 : j = k
    · rw [if_pos e1, if_pos e1, if_pos e1]; exact ⟨i, hi, rfl, rfl, rfl⟩
    · rw [if_neg e1, if_neg e1, if_neg e1]
      by_cases e2 : j = i
      · rw [if_pos e2, if_pos e2, if_pos e2]; exact ⟨k, hk, rfl, rfl, rfl⟩
      · rw [if_neg e2, if_neg e2, if_neg e2]; exact ⟨j, hj, rfl, rfl, rfl⟩
  refine ⟨by rw [Y9, Y9]; exact hl, by rw [Qk lp, if_pos rfl], fun j hj => ?_, fun a b ha hb hne => ?_, fun a ha => ?_, fun a b ha hb => ?_⟩
  · rw [Y9] at hj
    obtain ⟨l, hl', e1, e2, _⟩ := key j hj
    rw [e1, e2, Qk lp, if_neg (M.off l hl')]
    exact M.row l hl'
  · rw [Y9] at ha hb
    obtain ⟨l, hl', e1, _, w1⟩ := key a ha
    obtain ⟨l2, hl2', e2, _, w2⟩ := key b hb
    rw [e1, e2]
    refine M.apart l l2 hl' hl2' ?_
    rw [w1, w2]
    repeat' split
    all_goals omega
  · rw [Y9] at ha
    obtain ⟨l, hl', e1, _, _⟩ := key a ha
    rw [e1]; exact M.off l hl'
  · rw [Y9] at ha
    obtain ⟨l, hl', _, e2, _⟩ := key a ha
    rw [e2] at hb ⊢
    exact (M.big l b hl' hb).other M.out hety _
theorem StB.swap {n k : Nat} {rho : Nat → Nat → Int} {pss : List (List (Int × AV))} (S : StB n k rho pss) {i : Nat} (hki : k ≤ i) (hi : i < n) : StB n k (swr rho k i) (swp [] pss k i) := by
  have g := fun l => Kr ([] : List (Int × AV)) pss k i l (by rw [S.len]; omega) (by rw [S.len]; omega)
  refine ⟨by rw [Y9]; exact S.len, fun l hl => ?_, fun l j hkl hkj hl hj => ?_⟩
  · rw [g]
    split
    · exact S.wid i hi
    · split
      · exact S.wid k (by omega)
      · exact S.wid l hl
  · rw [g, d_swr hki]
    split
    · exact S.get i j hki hkj hi hj
    · split
      · exact S.get k j (Nat.le_refl _) hkj (by omega) hj
      · exact S.get l j hkl hkj hl hj
theorem big_ety (vs : List AV) : (⟨vs, .own, 49⟩ : Blk).ety ≠ 31 := show (49 : Nat) ≠ 31 by decide
structure DetB (H H2 : Hp) (n k p q : Nat) (a rho : Nat → Nat → Int) (mn : Bool) (vs : List AV) (pss : List (List (Int × AV))) (t4 t5 : AV) : Prop where
  M : BMat H2 p vs pss
  hv : ∀ i, i < n → H.length + 2 ≤ (vs.getD i .nilS).hd ∧ (vs.getD i .nilS).hd < q
  hp : H.length + 2 ≤ p ∧ p < q
  q2 : Qt H2 (H.length + 1) = some (BB 0 .nilS)
  q4 : Qt H2 q = some (BB (if mn then -1 else 1) t4)
  q5 : Qt H2 (q + 1) = some (BB (P rho k) t5)
  T4 : Bs_ H2 t4 (if mn then -1 else 1)
  T5 : Bs_ H2 t5 (P rho k)
  x : Ext H H2
theorem DetB.len {H H2 : Hp} {n k p q : Nat} {a rho : Nat → Nat → Int} {mn : Bool} {vs : List AV} {pss : List (List (Int × AV))} {t4 t5 : AV} (D : DetB H H2 n k p q a rho mn vs pss t4 t5) : H.length + 2 ≤ q ∧ q + 1 < H2.length := by
  have := Qr D.q5; have := D.hp; omega
theorem DetB.ext {H H2 H3 : Hp} {n k p q : Nat} {a rho : Nat → Nat → Int} {mn : Bool} {vs : List AV} {pss : List (List (Int × AV))} {t4 t5 : AV} (D : DetB H H2 n k p q a rho mn vs pss t4 t5) (x : Ext H2 H3) : DetB H H3 n k p q a rho mn vs pss t4 t5 :=
  ⟨D.M.ext x, D.hv, D.hp, Qh D.q2 x, Qh D.q4 x, Qh D.q5 x, D.T4.ext x, D.T5.ext x, D.x.trans x⟩
theorem DetB.set {H H2 : Hp} {n k p q : Nat} {a rho : Nat → Nat → Int} {mn : Bool} {vs : List AV} {pss : List (List (Int × AV))} {t4 t5 : AV} (D : DetB H H2 n k p q a rho mn vs pss t4 t5) {i j : Nat} {x : Int} {s : AV} (hin : i < n) (hi : i < pss.length) (hj : j < (pss.getD i []).length) (hs : Bs_ H2 s x) :
    DetB H (H2.set (vs.getD i .nilS).hd (Bb ((pss.getD i []).set j (x, s)))) n k p q a rho mn vs (pss.set i ((pss.getD i []).set j (x, s))) t4 t5 := by
  have hg := (D.M.row i hi).2
  have hl := Qr hg
  have h1 := D.hv i hin
  have h2 := D.hp
  exact ⟨D.M.set hi hj hs, D.hv, D.hp, by rw [Qk hl, if_neg (by omega)]; exact D.q2, by rw [Qk hl, if_neg (by omega)]; exact D.q4, by rw [Qk hl, if_neg (by omega)]; exact D.q5, D.T4.other hg (Na _) _, D.T5.other hg (Na _) _, D.x.set (by omega) _⟩
theorem DetB.swap {H H2 : Hp} {n k p q : Nat} {a rho : Nat → Nat → Int} {mn : Bool} {vs : List AV} {pss : List (List (Int × AV))} {t4 t5 : AV} (D : DetB H H2 n k p q a rho mn vs pss t4 t5) (hl : pss.length = n) {i : Nat} (hk : k < n) (hki : k ≤ i) (hi : i < n) :
    DetB H (H2.set p ⟨swp .nilS vs k i, .own, 49⟩) n k p q a (swr rho k i) mn (swp .nilS vs k i) (swp [] pss k i) t4 t5 := by
  have lp := Qr D.M.out
  have h2 := D.hp
  have hml := D.M.len
  have hPk : P (swr rho k i) k = P rho k := by unfold P; rw [swr_low (Nat.le_refl _) hki]
  refine ⟨D.M.swap (by omega) (by omega), fun l hln => ?_, D.hp, by rw [Qk lp, if_neg (by omega)]; exact D.q2, by rw [Qk lp, if_neg (by omega)]; exact D.q4, by rw [Qk lp, if_neg (by omega), hPk]; exact D.q5, D.T4.other D.M.out (big_ety _) _, by rw [hPk]; exact D.T5.other D.M.out (big_ety _) _, D.x.set (by omega) _⟩
  rw [Kr _ _ _ _ _ (by omega) (by omega)]
  split
  · exact D.hv i hi
  · split
    · exact D.hv k hk
    · exact D.hv l hln
theorem DetB.next {H H2 : Hp} {n k p q : Nat} {a rho : Nat → Nat → Int} {mn : Bool} {vs : List AV} {pss : List (List (Int × AV))} {t4 t5 s : AV} (D : DetB H H2 n k p q a rho mn vs pss t4 t5) (hl : pss.length = n) (hs : Bs_ H2 s (P rho (k + 1))) :
    DetB H (H2.set (q + 1) (BB (P rho (k + 1)) s)) n (k + 1) p q a rho mn vs pss t4 s := by
  have lq := Qr D.q5
  have h2 := D.hp
  exact ⟨D.M.other D.q5 (Uy _ _) _ (by omega) (fun i hi => by have := D.hv i (by omega); omega), D.hv, D.hp, by rw [Qk lq, if_neg (by omega)]; exact D.q2, by rw [Qk lq, if_neg (by omega)]; exact D.q4, by rw [Qk lq, if_pos rfl], D.T4.other D.q5 (Uy _ _) _, hs.other D.q5 (Uy _ _) _, D.x.set (by omega) _⟩
end Go.Proofs.YtfalfmfkifemeaaGreatDoor

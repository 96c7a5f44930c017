/- Part 2 of the proof of the law BoundTells: lemmas on the model's code, on this program's functions, on numbers. No condition. -/
import Derived.Test.YtfalfmfkifemeaaGreatDoorZBoundTellsaa
set_option linter.unusedVariables false
set_option linter.unusedSimpArgs false
open Nat renaming reduceEqDiff → J0, reduceLeDiff → J1, reduceMul → J2, reduceAdd → J3, reduceSub → J4, reduceLT → J5
open Int renaming reduceToNat → J6, reducePow → J7, reduceNeg → J8, reduceLT → J9, reduceLE → Ja, reduceEq → Jb
open And renaming intro → Jc
open Go.IntKind renaming bits → Jd
open Go.PW renaming dig_length → Je
namespace Go.Proofs.YtfalfmfkifemeaaGreatDoor
open Go.AL Go.PW Go.PD
theorem Up : type_of% (Jc @Z8 (Jc @Xd (Jc @Xz (Jc @Xx (Jc @Xw (Jc @Xv (Jc @X1 (Jc @Xj (Jc @Za (Jc @Z9 (Jc @Vx (@W0)))))))))))) := Jc @Z8 (Jc @Xd (Jc @Xz (Jc @Xx (Jc @Xw (Jc @Xv (Jc @X1 (Jc @Xj (Jc @Za (Jc @Z9 (Jc @Vx (@W0)))))))))))
theorem Gn : type_of% (Jc @Z8 (Jc @Xd (Jc @Xz (Jc @Xx (Jc @Xw (Jc @Xv (Jc @X1 (Jc @Xj (Jc @Za (Jc @Z9 (Jc @Vx (@W0)))))))))))) := Jc @Z8 (Jc @Xd (Jc @Xz (Jc @Xx (Jc @Xw (Jc @Xv (Jc @X1 (Jc @Xj (Jc @Za (Jc @Z9 (Jc @Vx (@W0)))))))))))
theorem J1f : type_of% (Jc @Z8 (Jc @Xd (Jc @Xz (Jc @Xx (Jc @Xw (@Xv)))))) := Jc @Z8 (Jc @Xd (Jc @Xz (Jc @Xx (Jc @Xw (@Xv)))))
abbrev pn31_7RgH : Plan := (.one 0 (.one 1 (.one 2 (.one 3 (.one 4 (.one 5 (.one 6 (.one 7 (.one 8 (.one 9 (.one 10 (.one 11 (.one 12 (.ext 13 (.ext 14 (.one 15 (.one 16 .nil)))))))))))))))))
set_option maxRecDepth 8000
theorem J1n {pss : List (List (Int × AV))} {i : Nat} (hi : i < pss.length) (l : List (Int × AV)) (x : Nat) : (pss.set i l).getD x [] = if x = i then l else pss.getD x [] := Yj _ _ _ _ _ hi
set_option maxHeartbeats 8000000 in
theorem RLeast_calls (n : Nat) (xs : List Int) (a : AV) (k : Int) (H : Hp) (ha : Ints H .i64 a xs) (hr : Right n xs) (hk : -9223372036854775808 ≤ k ∧ k ≤ 9223372036854775807) : ACalls Tryz.prog 31 [Ya n a, .int .i64 k] H fun r H' => r = .bool (U8 n xs k) ∧ H = H' := by
  refine ACalls.drop (R := fun r => r = .bool (U8 n xs k)) ?_
  have ha1 : a.one = true := ha.rd.one
  have hc : a.cells = [a] := AV.cells_one ha1
  obtain ⟨h8, hlx⟩ := hr.len
  have hd : decide (Right n xs) = true := decide_eq_true hr
  have hB := Vi hr
  have e30 := J0t hr
  refine Q7 Tryz.func31 rfl (by kernel_rfl) (by kernel_rfl) ?_
  repeat' first
    | (with_reducible first | refine Jj (fun K hK => ?_) | refine Q6 ?_ | refine Jg ?_ | refine Jz ?_)
    | ((with_reducible refine Jq (symRight_calls _ _ _ _ (ha.push _) hlx) ?_); rintro _ _ ⟨rfl, rfl⟩)
    | (simp only [Q4, Jo, reduceIte, J0])
    | ((with_reducible refine hK _ _ ?_); clear hK)
    | (simp only [Q3, RA, Jn, Jm, Jp, Q2, Q0, ev, ofValue, Jt, J0, J3, J2, J4, reduceCtorEq, reduceIte, Ju, Qb, Qa, Jy, aun, Q9, Jk, Jh, Jx, Jw, Ji, Q8, Jf, Q1, Jr, Js, J1, J5, Ja, J9, Jb, J6, J7, Jd, J8, RB, Jv, Je, Up, hd])
    | (simp (disch := first | omega | (simp only [RO]; done) | assumption) only [RS, X8, X9, X6, X7, Ye, Yf, Vm, Vn, Qu, Qv, Qq, X4, X0])
    | (simp (disch := (first | omega | (simp only [RO]; done) | assumption | (simp only [RM, Je]; done) | (simp only [RL, Je]; omega))) only [RD, reduceCtorEq, reduceIte, Je, J1, J3, J2, J6, Up, hd])
  all_goals
    refine Jq (Rrows_calls n xs a 1 0 _ (ha.push _) hr (by omega) (by omega)) ?_
    rintro v H1 ⟨vs, pss, B, S, x0⟩
    rw [rv_ent] at S
    have lx0 := x0.len
    simp only [Qm] at lx0
    have g2 : Qt H1 H.length = some (Sb n a) := Qh (Qo rfl) x0
    repeat' first
      | (with_reducible first | refine Jj (fun K hK => ?_) | refine Qc ?_ | refine Jg ?_)
      | (simp only [Q4, Jo, reduceIte, J0])
      | ((with_reducible refine hK _ _ ?_); clear hK)
      | (simp only [Q3, RA, Jn, Jm, Jp, Q2, Q0, ev, ofValue, Jt, J0, J3, J2, J4, reduceCtorEq, reduceIte, Ju, Qb, Qa, Jy, aun, Q9, Jk, Jh, Jx, Jw, Ji, Q8, Jf, Q1, Jr, Js, J1, J5, Ja, J9, Jb, J6, J7, Jd, J8, RB, Jv, Je, Up])
    refine X2 (fun m fr' H2 => ∃ (i : Nat) (pss : List (List (Int × AV))), m = n - i ∧ i ≤ n ∧ fr' 1 = .int .i64 k ∧ fr' 2 = .ptr H.length 0 ∧ fr' 5 = v ∧ fr' 6 = .int .i64 (i : Int) ∧ Qt H2 H.length = some (Sb n a) ∧ BRows H2 v vs pss (H.length + 1) ∧ pss.length = n ∧ (∀ x, x < n → (pss.getD x []).length = n) ∧ (∀ x y, x < n → y < n → ((pss.getD x []).getD y (0, .nilS)).1 = if x = y ∧ x < i then ent n xs x y - k else ent n xs x y) ∧ Ext H H2) (m := n)
      ⟨0, pss, by omega, by omega, rfl, rfl, rfl, rfl, g2, by simpa only [Qm] using B, S.len, S.wid, fun x y h1 h2 => by rw [S.get x y (by omega) (by omega) h1 h2, Gj, if_neg (by omega)], (Ext.push _ _).trans x0⟩ ?_
    clear S B pss g2
    rintro m fr' H2 ⟨i, pss, rfl, hi, k1, k2, k5, k6, g2, B, hpl, hw, hv, x2⟩
    have e1 : IntKind.i64.wrap ((i : Int) + 1) = ((i + 1 : Nat) : Int) := by rw [Q5 (by omega) (by omega)]; omega
    by_cases hlt : i < n
    · cases B with
      | no h1 h2 h3 => subst h3; simp at hpl; omega
      | yes p hvv M hp hvl hpos =>
        have hil : i < pss.length := by omega
        have hjl : i < (pss.getD i []).length := by rw [hw i hlt]; exact hlt
        have a0 := BMat.idx0 (p := p) (n := pss.length) (k := .i64) (j := (i : Int)) (by omega) (by omega)
        have a1 := M.at0 hil
        have a2 := M.idx hil (k := .i64) (j := (i : Int)) (by omega) (by omega)
        have a3 := M.get hil (j := i) hjl
        have Sb := M.big i i hil hjl
        have he := e30 i i
        rw [Int.toNat_natCast] at a0 a2
        rw [hv i i hlt hlt, if_neg (by omega)] at a3 Sb
        obtain ⟨s, hs⟩ : ∃ s, s = ((pss.getD i []).getD i (0, .nilS)).2 := ⟨_, rfl⟩
        rw [← hs] at a3 Sb
        have lg2 := Qr g2
        have hri := hvl i hil
        repeat' first
          | (with_reducible first | refine Jj (fun K hK => ?_) | refine Qc ?_ | refine Q6 ?_ | refine Jg ?_ | refine Qw (id := 7) [13, 14] pn31_7RgH (by kernel_rfl) (by kernel_rfl) ?_ | refine Jz ?_ | refine Z1 ?_)
          | (with_reducible refine X5 (fun hc => ?_) (fun hc => ?_) <;> (try simp only [RC] at hc) <;> (try (exfalso; first | omega | contradiction)))
          | (simp only [Q4, Jo, reduceIte, J0])
          | ((with_reducible refine hK _ _ ?_); clear hK)
          | (simp only [Q3, RA, Jn, Jm, Jp, Q2, Q0, ev, ofValue, Jt, J0, J3, J2, J4, reduceCtorEq, reduceIte, Ju, Qb, Qa, Jy, aun, Q9, Jk, Jh, Jx, Jw, Ji, Q8, Jf, Q1, Jr, Js, J1, J5, Ja, J9, Jb, J6, J7, Jd, J8, RB, Jv, Je, Up, k1, k2, k5, k6, hvv, g2, a0, a1, a2, a3])
          | (simp (disch := (first | omega | (simp only [RO]; done) | assumption | (simp only [RM, Je]; done) | (simp only [RL, Je]; omega))) only [RD, reduceCtorEq, reduceIte, Je, J1, J3, J2, J6, Up, k1, k2, k5, k6, hvv, g2, a0, a1, a2, a3])
        all_goals
          refine Xi (Of_calls k _ hk) ?_
          rintro _ H4 ⟨u1, rfl, U1, y1⟩
          refine ⟨y1, ?_⟩
          repeat' first
            | (with_reducible first | refine Z1 ?_)
            | (simp only [Q3, RA, Jn, Jm, Jp, Q2, Q0, ev, ofValue, Jt, J0, J3, J2, J4, reduceCtorEq, reduceIte, Ju, Qb, Qa, Jy, aun, Q9, Jk, Jh, Jx, Jw, Ji, Q8, Jf, Q1, Jr, Js, J1, J5, Ja, J9, Jb, J6, J7, Jd, J8, RB, Jv, Je, Up, k1, k2, k5, k6, hvv, a2])
        all_goals
          refine Xi (Rsub_calls (ent n xs i i) k s u1 _ (Sb.ext y1) U1 (Sm.int (by omega)) (Sm.int hk)) ?_
          rintro _ H5 ⟨u2, rfl, U2, y2⟩
          refine ⟨y2, ?_⟩
          have M5 := (M.ext y1).ext y2
          have a4 := M5.put (x := ent n xs i i - k) hil hjl U2.one
          have hg5 := (M5.row i hil).2
          repeat' first
            | (with_reducible first | refine Jg ?_)
            | (simp only [Q4, Jo, reduceIte, J0])
            | ((with_reducible refine hK _ _ ?_); clear hK)
            | (simp only [Q3, RA, Jn, Jm, Jp, Q2, Q0, ev, ofValue, Jt, J0, J3, J2, J4, reduceCtorEq, reduceIte, Ju, Qb, Qa, Jy, aun, Q9, Jk, Jh, Jx, Jw, Ji, Q8, Jf, Q1, Jr, Js, J1, J5, Ja, J9, Jb, J6, J7, Jd, J8, RB, Jv, Je, Up, k1, k2, k5, k6, a2, a4, e1])
        all_goals
          refine ⟨_, by omega, i + 1, _, rfl, by omega, rfl, by rw [Qk (Qr hg5), if_neg (by omega)]; exact Qh (Qh g2 y1) y2, .yes p (by rw [List.length_set]; exact hvv) (M5.set hil hjl U2) hp (fun x hx => hvl x (by rwa [List.length_set] at hx)) (by rw [List.length_set]; exact hpos), by rw [List.length_set]; exact hpl, fun x hx => ?_, fun x y hx hy => ?_, ((x2.trans y1).trans y2).set (by omega) _⟩
          · rw [J1n hil]
            split
            · rw [List.length_set]; exact hw i hlt
            · exact hw x hx
          · rw [J1n hil]
            by_cases e : x = i
            · subst e
              rw [if_pos rfl, Yj _ _ _ _ _ hjl]
              by_cases e2 : y = x
              · subst e2; rw [if_pos rfl, if_pos ⟨rfl, by omega⟩]
              · rw [if_neg e2, hv x y hx hy, if_neg (by omega), if_neg (by omega)]
            · rw [if_neg e, hv x y hx hy]
              have : (x = y ∧ x < i) ↔ (x = y ∧ x < i + 1) := by omega
              simp only [this]
    · obtain rfl : i = n := by omega
      repeat' first
        | (with_reducible first | refine Jj (fun K hK => ?_) | refine Qz ?_ | refine Jg ?_ | refine Jz ?_)
        | (with_reducible refine X5 (fun hc => ?_) (fun hc => ?_) <;> (try simp only [RC] at hc) <;> (try (exfalso; first | omega | contradiction)))
        | (simp only [Q4, Jo, reduceIte, J0])
        | ((with_reducible refine hK _ _ ?_); clear hK)
        | (clear hK; (with_reducible refine hK _ _ ?_); clear hK)
        | (simp only [Q3, RA, Jn, Jm, Jp, Q2, Q0, ev, ofValue, Jt, J0, J3, J2, J4, reduceCtorEq, reduceIte, Ju, Qb, Qa, Jy, aun, Q9, Jk, Jh, Jx, Jw, Ji, Q8, Jf, Q1, Jr, Js, J1, J5, Ja, J9, Jb, J6, J7, Jd, J8, RB, Jv, Je, Up, k1, k2, k5, k6, g2])
        | (simp (disch := (first | omega | (simp only [RO]; done) | assumption | (simp only [RM, Je]; done) | (simp only [RL, Je]; omega))) only [RD, reduceCtorEq, reduceIte, Je, J1, J3, J2, J6, Up, k1, k2, k5, k6, g2])
      have S : StB i 0 (dif (ent i xs) nul (-k)) pss := ⟨hpl, hw, fun x y _ _ hx hy => by
        rw [hv x y hx hy, Gj]
        unfold dif nul
        by_cases e : x = y
        · rw [if_pos ⟨e, hx⟩, if_pos e]; omega
        · rw [if_neg (fun h => e h.1), if_neg e]; omega⟩
      refine Jq (Rdefinite_calls i _ v vs pss _ _ B S h8 (dif_64 e30 nul_30 (by omega))) ?_
      rintro _ H3 ⟨rfl, O⟩
      have x3 := B.toExt hpl (H0 := H) (by omega) x2 O
      repeat' first
        | (with_reducible first | refine Qj ?_)
        | (simp only [Q4, Jo, reduceIte, J0])
        | ((with_reducible refine hK _ _ ?_); clear hK)
        | (simp only [Q3, RA, Jn, Jm, Jp, Q2, Q0, ev, ofValue, Jt, J0, J3, J2, J4, reduceCtorEq, reduceIte, Ju, Qb, Qa, Jy, aun, Q9, Jk, Jh, Jx, Jw, Ji, Q8, Jf, Q1, Jr, Js, J1, J5, Ja, J9, Jb, J6, J7, Jd, J8, RB, Jv, Je, Up])
      (
       (refine Qg (rs := [.tmp 4]) rfl ?_)
       (simp only [Qx, Qd, Fr.put_some, Fr.put_none, Qe, Qf, Qi, J0, reduceIte])
       (try simp (disch := (first | omega | (simp only [RO]; done) | assumption | (simp only [RM, Je]; done) | (simp only [RL, Je]; omega))) only [RD, reduceCtorEq, reduceIte, Je, J1, J3, J2, J6, Up]))
      exact ⟨x3, trivial, rfl⟩
theorem RLeast_bad (n : Int) (xs : List Int) (a : AV) (k : Int) (H : Hp) (ha : Ints H .i64 a xs) (hlx : xs.length < 1000000) (hr : ¬ Right n xs) : ACalls Tryz.prog 31 [Ya n a, .int .i64 k] H fun r H' => r = .bool false ∧ H = H' := by
  refine ACalls.drop (R := fun r => r = .bool false) ?_
  have ha1 : a.one = true := ha.rd.one
  have hc : a.cells = [a] := AV.cells_one ha1
  have hd : decide (Right n xs) = false := decide_eq_false hr
  refine Q7 Tryz.func31 rfl (by kernel_rfl) (by kernel_rfl) ?_
  repeat' first
    | (with_reducible first | refine Jj (fun K hK => ?_) | refine Qj ?_ | refine Jg ?_ | refine Jz ?_)
    | ((with_reducible refine Jq (symRight_calls _ _ _ _ (ha.push _) hlx) ?_); rintro _ _ ⟨rfl, rfl⟩)
    | (simp only [Q4, Jo, reduceIte, J0])
    | ((with_reducible refine hK _ _ ?_); clear hK)
    | (simp only [Q3, RA, Jn, Jm, Jp, Q2, Q0, ev, ofValue, Jt, J0, J3, J2, J4, reduceCtorEq, reduceIte, Ju, Qb, Qa, Jy, aun, Q9, Jk, Jh, Jx, Jw, Ji, Q8, Jf, Q1, Jr, Js, J1, J5, Ja, J9, Jb, J6, J7, Jd, J8, RB, Jv, Je, Up, hd])
    | (simp (disch := first | omega | (simp only [RO]; done) | assumption) only [RS, X8, X9, X6, X7, Ye, Yf, Vm, Vn, Qu, Qv, Qq, X4, X0])
    | (simp (disch := (first | omega | (simp only [RO]; done) | assumption | (simp only [RM, Je]; done) | (simp only [RL, Je]; omega))) only [RD, reduceCtorEq, reduceIte, Je, J1, J3, J2, J6, Up, hd])
  all_goals
    (
     (refine Qg (rs := [.tmp 4]) rfl ?_)
     (simp only [Qx, Qd, Fr.put_some, Fr.put_none, Qe, Qf, Qi, J0, reduceIte])
     (try simp (disch := (first | omega | (simp only [RO]; done) | assumption | (simp only [RM, Je]; done) | (simp only [RL, Je]; omega))) only [RD, reduceCtorEq, reduceIte, Je, J1, J3, J2, J6, Up]))
  all_goals exact ⟨Ext.push _ _, trivial⟩
theorem rv_most (n : Nat) (xs : List Int) (k : Int) : rv (-1) k n xs = dif nul (ent n xs) k := by
  funext i j; unfold rv dif nul; split <;> omega
set_option maxHeartbeats 4000000 in
theorem RMost_calls (n : Nat) (xs : List Int) (a : AV) (k : Int) (H : Hp) (ha : Ints H .i64 a xs) (hr : Right n xs) (hk : -9223372036854775808 ≤ k ∧ k ≤ 9223372036854775807) : ACalls Tryz.prog 33 [Ya n a, .int .i64 k] H fun r H' => r = .bool (Ww n xs k) ∧ H = H' := by
  refine ACalls.drop (R := fun r => r = .bool (Ww n xs k)) ?_
  have ha1 : a.one = true := ha.rd.one
  have hc : a.cells = [a] := AV.cells_one ha1
  obtain ⟨h8, hlx⟩ := hr.len
  have hd : decide (Right n xs) = true := decide_eq_true hr
  have e30 := J0t hr
  refine Q7 Tryz.func33 rfl (by kernel_rfl) (by kernel_rfl) ?_
  repeat' first
    | (with_reducible first | refine Jj (fun K hK => ?_) | refine Jg ?_)
    | ((with_reducible refine Jq (symRight_calls _ _ _ _ (ha.push _) hlx) ?_); rintro _ _ ⟨rfl, rfl⟩)
    | (simp only [Q4, Jo, reduceIte, J0])
    | ((with_reducible refine hK _ _ ?_); clear hK)
    | (simp only [Q3, RA, Jn, Jm, Jp, Q2, Q0, ev, ofValue, Jt, J0, J3, J2, J4, reduceCtorEq, reduceIte, Ju, Qb, Qa, Jy, aun, Q9, Jk, Jh, Jx, Jw, Ji, Q8, Jf, Q1, Jr, Js, J1, J5, Ja, J9, Jb, J6, J7, Jd, J8, RB, Jv, Je, Gn, hd])
    | (simp (disch := first | omega | (simp only [RO]; done) | assumption) only [RS, X8, X9, X6, X7, Ye, Yf, Vm, Vn, Qu, Qv, Qq, X4, X0])
    | (simp (disch := (first | omega | (simp only [RO]; done) | assumption | (simp only [RM, Je]; done) | (simp only [RL, Je]; omega))) only [RD, reduceCtorEq, reduceIte, Je, J1, J3, J2, J6, Gn, hd])
  all_goals
    refine Jq (Rrows_calls n xs a (-1) k _ (ha.push _) hr (by omega) hk) ?_
    rintro v H1 ⟨vs, pss, B, S, x0⟩
    rw [rv_most] at S
    repeat' first
      | (simp only [Q3, RA, Jn, Jm, Jp, Q2, Q0, ev, ofValue, Jt, J0, J3, J2, J4, reduceCtorEq, reduceIte, Ju, Qb, Qa, Jy, aun, Q9, Jk, Jh, Jx, Jw, Ji, Q8, Jf, Q1, Jr, Js, J1, J5, Ja, J9, Jb, J6, J7, Jd, J8, RB, Jv, Je, Gn])
    refine Jq (Rdefinite_calls n _ v vs pss _ H1 B S h8 (dif_64 nul_30 e30 (by omega))) ?_
    rintro _ H2 ⟨rfl, O⟩
    have x2 := B.toExt S.len (H0 := H) (by rw [Qm]; omega) ((Ext.push _ _).trans x0) O
    repeat' first
      | (with_reducible first | refine Qj ?_)
      | (simp only [Q4, Jo, reduceIte, J0])
      | ((with_reducible refine hK _ _ ?_); clear hK)
      | (simp only [Q3, RA, Jn, Jm, Jp, Q2, Q0, ev, ofValue, Jt, J0, J3, J2, J4, reduceCtorEq, reduceIte, Ju, Qb, Qa, Jy, aun, Q9, Jk, Jh, Jx, Jw, Ji, Q8, Jf, Q1, Jr, Js, J1, J5, Ja, J9, Jb, J6, J7, Jd, J8, RB, Jv, Je, Gn])
    (
     (refine Qg (rs := [.tmp 4]) rfl ?_)
     (simp only [Qx, Qd, Fr.put_some, Fr.put_none, Qe, Qf, Qi, J0, reduceIte])
     (try simp (disch := (first | omega | (simp only [RO]; done) | assumption | (simp only [RM, Je]; done) | (simp only [RL, Je]; omega))) only [RD, reduceCtorEq, reduceIte, Je, J1, J3, J2, J6, Gn]))
    exact ⟨x2, trivial, rfl⟩
theorem RMost_bad (n : Int) (xs : List Int) (a : AV) (k : Int) (H : Hp) (ha : Ints H .i64 a xs) (hlx : xs.length < 1000000) (hr : ¬ Right n xs) : ACalls Tryz.prog 33 [Ya n a, .int .i64 k] H fun r H' => r = .bool false ∧ H = H' := by
  refine ACalls.drop (R := fun r => r = .bool false) ?_
  have ha1 : a.one = true := ha.rd.one
  have hc : a.cells = [a] := AV.cells_one ha1
  have hd : decide (Right n xs) = false := decide_eq_false hr
  refine Q7 Tryz.func33 rfl (by kernel_rfl) (by kernel_rfl) ?_
  repeat' first
    | (with_reducible first | refine Jj (fun K hK => ?_) | refine Qj ?_ | refine Jg ?_)
    | ((with_reducible refine Jq (symRight_calls _ _ _ _ (ha.push _) hlx) ?_); rintro _ _ ⟨rfl, rfl⟩)
    | (simp only [Q4, Jo, reduceIte, J0])
    | ((with_reducible refine hK _ _ ?_); clear hK)
    | (simp only [Q3, RA, Jn, Jm, Jp, Q2, Q0, ev, ofValue, Jt, J0, J3, J2, J4, reduceCtorEq, reduceIte, Ju, Qb, Qa, Jy, aun, Q9, Jk, Jh, Jx, Jw, Ji, Q8, Jf, Q1, Jr, Js, J1, J5, Ja, J9, Jb, J6, J7, Jd, J8, RB, Jv, Je, Gn, hd])
    | (simp (disch := first | omega | (simp only [RO]; done) | assumption) only [RS, X8, X9, X6, X7, Ye, Yf, Vm, Vn, Qu, Qv, Qq, X4, X0])
    | (simp (disch := (first | omega | (simp only [RO]; done) | assumption | (simp only [RM, Je]; done) | (simp only [RL, Je]; omega))) only [RD, reduceCtorEq, reduceIte, Je, J1, J3, J2, J6, Gn, hd])
  all_goals
    (
     (refine Qg (rs := [.tmp 4]) rfl ?_)
     (simp only [Qx, Qd, Fr.put_some, Fr.put_none, Qe, Qf, Qi, J0, reduceIte])
     (try simp (disch := (first | omega | (simp only [RO]; done) | assumption | (simp only [RM, Je]; done) | (simp only [RL, Je]; omega))) only [RD, reduceCtorEq, reduceIte, Je, J1, J3, J2, J6, Gn]))
  all_goals exact ⟨Ext.push _ _, trivial⟩
def betwN (n : Nat) (xs : List Int) (k l : Int) : Int := if U8 n xs k then if Ww n xs l then 0 else 31 else 30
theorem RBetween_calls (n : Nat) (xs : List Int) (a : AV) (k l : Int) (H : Hp) (ha : Ints H .i64 a xs) (hr : Right n xs) (hk : -9223372036854775808 ≤ k ∧ k ≤ 9223372036854775807) (hl : -9223372036854775808 ≤ l ∧ l ≤ 9223372036854775807) : ACalls Tryz.prog 36 [Ya n a, .int .i64 k, .int .i64 l] H fun r H' => r = .int .i64 (betwN n xs k l) ∧ H = H' := by
  refine ACalls.drop (R := fun r => r = .int .i64 (betwN n xs k l)) ?_
  have ha1 : a.one = true := ha.rd.one
  have hc : a.cells = [a] := AV.cells_one ha1
  obtain ⟨h8, hlx⟩ := hr.len
  have hd : decide (Right n xs) = true := decide_eq_true hr
  have LA := fun H0 x0 => RLeast_calls n xs a k H0 (ha.ext x0) hr hk
  have MO := fun H0 x0 => RMost_calls n xs a l H0 (ha.ext x0) hr hl
  unfold betwN
  refine Q7 Tryz.func36 rfl (by kernel_rfl) (by kernel_rfl) ?_
  cases h1 : U8 n xs k <;> cases h2 : Ww n xs l <;> rw [h1] at LA <;> rw [h2] at MO
  all_goals
    repeat' first
      | (with_reducible first | refine Jj (fun K hK => ?_) | refine Q6 ?_ | refine Qj ?_ | refine Jg ?_ | refine Jz ?_)
      | ((with_reducible refine Jq (symRight_calls _ _ _ _ (ha.push _) hlx) ?_); rintro _ _ ⟨rfl, rfl⟩)
      | ((with_reducible refine Jq (LA _ (Ext.push _ _)) ?_); rintro _ _ ⟨rfl, rfl⟩)
      | ((with_reducible refine Jq (MO _ (Ext.push _ _)) ?_); rintro _ _ ⟨rfl, rfl⟩)
      | (simp only [Q4, Jo, reduceIte, J0])
      | ((with_reducible refine hK _ _ ?_); clear hK)
      | (simp only [Q3, RA, Jn, Jm, Jp, Q2, Q0, ev, ofValue, Jt, J0, J3, J2, J4, reduceCtorEq, reduceIte, Ju, Qb, Qa, Jy, aun, Q9, Jk, Jh, Jx, Jw, Ji, Q8, Jf, Q1, Jr, Js, J1, J5, Ja, J9, Jb, J6, J7, Jd, J8, RB, Jv, Je, J1f, hd])
      | (simp (disch := first | omega | (simp only [RO]; done) | assumption) only [RS, X8, X9, Qu, Qv, Qq])
      | (simp (disch := (first | omega | (simp only [RO]; done) | assumption | (simp only [RM, Je]; done) | (simp only [RL, Je]; omega))) only [RD, reduceCtorEq, reduceIte, Je, J1, J3, J2, J6, J1f, hd])
  all_goals
    (
     (refine Qg (rs := [.tmp 6]) rfl ?_)
     (simp only [Qx, Qd, Fr.put_some, Fr.put_none, Qe, Qf, Qi, J0, reduceIte])
     (try simp (disch := (first | omega | (simp only [RO]; done) | assumption | (simp only [RM, Je]; done) | (simp only [RL, Je]; omega))) only [RD, reduceCtorEq, reduceIte, Je, J1, J3, J2, J6, J1f]))
  all_goals exact ⟨Ext.push _ _, trivial⟩
theorem RBetween_bad (n : Int) (xs : List Int) (a : AV) (k l : Int) (H : Hp) (ha : Ints H .i64 a xs) (hlx : xs.length < 1000000) (hr : ¬ Right n xs) : ACalls Tryz.prog 36 [Ya n a, .int .i64 k, .int .i64 l] H fun r H' => r = .int .i64 23 ∧ H = H' := by
  refine ACalls.drop (R := fun r => r = .int .i64 23) ?_
  have ha1 : a.one = true := ha.rd.one
  have hc : a.cells = [a] := AV.cells_one ha1
  have hd : decide (Right n xs) = false := decide_eq_false hr
  refine Q7 Tryz.func36 rfl (by kernel_rfl) (by kernel_rfl) ?_
  repeat' first
    | (with_reducible first | refine Jj (fun K hK => ?_) | refine Qj ?_ | refine Jg ?_ | refine Jz ?_)
    | ((with_reducible refine Jq (symRight_calls _ _ _ _ (ha.push _) hlx) ?_); rintro _ _ ⟨rfl, rfl⟩)
    | (simp only [Q4, Jo, reduceIte, J0])
    | ((with_reducible refine hK _ _ ?_); clear hK)
    | (simp only [Q3, RA, Jn, Jm, Jp, Q2, Q0, ev, ofValue, Jt, J0, J3, J2, J4, reduceCtorEq, reduceIte, Ju, Qb, Qa, Jy, aun, Q9, Jk, Jh, Jx, Jw, Ji, Q8, Jf, Q1, Jr, Js, J1, J5, Ja, J9, Jb, J6, J7, Jd, J8, RB, Jv, Je, J1f, hd])
    | (simp (disch := first | omega | (simp only [RO]; done) | assumption) only [RS, X8, X9, Qu, Qv, Qq])
    | (simp (disch := (first | omega | (simp only [RO]; done) | assumption | (simp only [RM, Je]; done) | (simp only [RL, Je]; omega))) only [RD, reduceCtorEq, reduceIte, Je, J1, J3, J2, J6, J1f, hd])
  all_goals
    (
     (refine Qg (rs := [.tmp 6]) rfl ?_)
     (simp only [Qx, Qd, Fr.put_some, Fr.put_none, Qe, Qf, Qi, J0, reduceIte])
     (try simp (disch := (first | omega | (simp only [RO]; done) | assumption | (simp only [RM, Je]; done) | (simp only [RL, Je]; omega))) only [RD, reduceCtorEq, reduceIte, Je, J1, J3, J2, J6, J1f]))
  all_goals exact ⟨Ext.push _ _, trivial⟩
end Go.Proofs.YtfalfmfkifemeaaGreatDoor
namespace Go.Proofs.YtfalfmfkifemeaaGreatDoor
open Go.AL
theorem wf_u8 {n : Int} (h : (Lit.int .u8 n).wf = true) : 0 ≤ n ∧ n ≤ 255 := by
  simp only [Lit.wf, Bool.and_eq_true, decide_eq_true_eq] at h
  have h1 : IntKind.u8.min = 0 := by decide +kernel
  have h2 : IntKind.u8.max = 255 := by decide +kernel
  omega
theorem wf_u16 {n : Int} (h : (Lit.int .u16 n).wf = true) : 0 ≤ n ∧ n ≤ 65535 := by
  simp only [Lit.wf, Bool.and_eq_true, decide_eq_true_eq] at h
  have h1 : IntKind.u16.min = 0 := by decide +kernel
  have h2 : IntKind.u16.max = 65535 := by decide +kernel
  omega
theorem wf_i64 {n : Int} (h : (Lit.int .i64 n).wf = true) : -9223372036854775808 ≤ n ∧ n ≤ 9223372036854775807 := by
  simp only [Lit.wf, Bool.and_eq_true, decide_eq_true_eq] at h
  have h1 : IntKind.i64.min = -9223372036854775808 := by decide +kernel
  have h2 : IntKind.i64.max = 9223372036854775807 := by decide +kernel
  omega
theorem noted_first (H : Hp) (x : Ext [⟨[], .glob 0 165 3 35, 0⟩] H) : Noted H := Noted.ext ⟨0, 0, rfl⟩ x
end Go.Proofs.YtfalfmfkifemeaaGreatDoor
namespace Go.Proofs.YtfalfmfkifemeaaGreatDoor
open Go.AL Go.PW Go.PD
theorem tf34LnA : type_of% (Jc @Xd (Jc @Ng (Jc @Yd (Jc @Yc (@tyb87))))) := Jc @Xd (Jc @Ng (Jc @Yd (Jc @Yc (@tyb87))))
theorem R7 : type_of% (Jc @Z8 (Jc @Xd (Jc @Xz (Jc @Xx (Jc @Xw (Jc @Xv (Jc @Yd (@Yc)))))))) := Jc @Z8 (Jc @Xd (Jc @Xz (Jc @Xx (Jc @Xw (Jc @Xv (Jc @Yd (@Yc)))))))
set_option maxRecDepth 8000
theorem Between_ok (n : Nat) (xs : List Int) (a : AV) (k l : Int) (H : Hp) (ha : Ints H .i64 a xs) (hr : Right n xs) (hk : -9223372036854775808 ≤ k ∧ k ≤ 9223372036854775807) (hl : -9223372036854775808 ≤ l ∧ l ≤ 9223372036854775807) (h1 : U8 n xs k = true) (h2 : Ww n xs l = true) : ACalls Tryz.prog 35 [Ya n a, .int .i64 k, .int .i64 l] H fun r H' => r = .nilI ∧ H = H' := by
  refine ACalls.drop (R := fun r => r = .nilI) ?_
  refine (Between_calls n xs a k l H ha hr hk hl).mono fun r H' ⟨h, x⟩ => ?_
  unfold BetwR at h
  rw [if_neg (by rw [h1]; decide), if_neg (by rw [h2]; decide)] at h
  subst h
  exact ⟨x, trivial, rfl⟩
set_option maxHeartbeats 2000000 in
theorem says9_err (n m : Int) (v : AV) (H : Hp) (hv : Err H v N9 m) (hN : Noted H) (hn : 0 < n ∧ n < 256) (hm : 0 < m ∧ m < 256) : ACalls Tryz.prog 34 [v, .int .i64 n] H fun r H' => r = .bool (decide (m = n)) ∧ H = H' := by
  refine ACalls.drop (R := fun r => r = .bool (decide (m = n))) ?_
  have f0 : (n = 0) = False := eq_false (by omega)
  have hC := fun H0 (x0 : Ext H H0) => code_calls N9 m v H0 (hv.ext x0) (hN.ext x0)
  refine Q7 Tryz.func34 rfl (by kernel_rfl) (by kernel_rfl) ?_
  repeat' first
    | (with_reducible first | refine Jj (fun K hK => ?_) | refine Q6 ?_ | refine Qj ?_ | refine Jg ?_ | refine Jz ?_)
    | ((with_reducible refine Jq (ops_calls N9 m v _ hv) ?_); rintro _ _ ⟨rfl, rfl⟩)
    | ((with_reducible refine Jq (hC _ ((Ext.push _ _).pushed _)) ?_); rintro _ _ ⟨rfl, rfl⟩)
    | (with_reducible refine Qn (fun hc => ?_) (fun hc => ?_) <;> (try simp only [RC] at hc) <;> (try (exfalso; first | omega | contradiction)))
    | (simp only [Q4, Jo, reduceIte, J0])
    | ((with_reducible refine hK _ _ ?_); clear hK)
    | (simp only [Q3, RA, Jn, Jm, Jp, Q2, Q0, ev, ofValue, Jt, J0, J3, J2, J4, reduceCtorEq, reduceIte, Ju, Qb, Qa, Jy, aun, Q9, Jk, Jh, Jx, Jw, Ji, Q8, Jf, Q1, Jr, Js, J1, J5, Ja, J9, Jb, J6, J7, Jd, J8, RB, Jv, Je, tf34LnA, f0])
    | (simp (disch := first | omega | (simp only [RO]; done) | assumption) only [RS, six87, gix87])
    | (simp (disch := (first | omega | (simp only [RO]; done) | assumption | (simp only [RM, Je]; done) | (simp only [RL, Je]; omega))) only [RD, reduceCtorEq, reduceIte, Je, J1, J3, J2, J6, tf34LnA, f0])
  all_goals
    (
     (refine Qg (rs := [.tmp 4]) rfl ?_)
     (simp only [Qx, Qd, Fr.put_some, Fr.put_none, Qe, Qf, Qi, J0, reduceIte])
     (try simp (disch := (first | omega | (simp only [RO]; done) | assumption | (simp only [RM, Je]; done) | (simp only [RL, Je]; omega))) only [RD, reduceCtorEq, reduceIte, Je, J1, J3, J2, J6, tf34LnA]))
  all_goals
    refine ⟨(Ext.push _ _).pushed _, trivial, ?_⟩
    first | rw [decide_eq_true (show m = n by assumption)] | rw [decide_eq_false (show ¬ m = n by assumption)]
theorem says9_nil (H : Hp) : ACalls Tryz.prog 34 [.nilI, .int .i64 0] H fun r H' => r = .bool true ∧ H = H' := by
  refine Q7 Tryz.func34 rfl (by kernel_rfl) (by kernel_rfl) ?_
  repeat' first
    | (with_reducible first | refine Jj (fun K hK => ?_) | refine Qj ?_ | refine Jg ?_ | refine Jz ?_)
    | (simp only [Q4, Jo, reduceIte, J0])
    | ((with_reducible refine hK _ _ ?_); clear hK)
    | (simp only [Q3, RA, Jn, Jm, Jp, Q2, Q0, ev, ofValue, Jt, J0, J3, J2, J4, reduceCtorEq, reduceIte, Ju, Qb, Qa, Jy, aun, Q9, Jk, Jh, Jx, Jw, Ji, Q8, Jf, Q1, Jr, Js, J1, J5, Ja, J9, Jb, J6, J7, Jd, J8, RB, Jv, Je, tf34LnA, Zy Yt])
  all_goals
    (
     (refine Qg (rs := [.tmp 4]) rfl ?_)
     (simp only [Qx, Qd, Fr.put_some, Fr.put_none, Qe, Qf, Qi, J0, reduceIte])
     (try simp (disch := (first | omega | (simp only [RO]; done) | assumption | (simp only [RM, Je]; done) | (simp only [RL, Je]; omega))) only [RD, reduceCtorEq, reduceIte, Je, J1, J3, J2, J6, tf34LnA]))
theorem right_one (x : Int) (h : Fit x) : Right (1 : Nat) [x] := ⟨⟨by omega, by omega, by rfl⟩, fun y hy => by rw [List.mem_singleton.1 hy]; exact h⟩
theorem ints_one1 (H : Hp) (x : Int) : Ints (H ++ [Ib [x]]) .i64 (.sl H.length 0 1 1) [x] := Ints.lit H (by decide) rfl
set_option maxHeartbeats 8000000 in
theorem known9_calls (H : Hp) (hN : Noted H) : ACalls Tryz.prog 29 [] H fun r H' => r = .bool true ∧ H = H' := by
  refine ACalls.drop (R := fun r => r = .bool true) ?_
  obtain ⟨a, ha⟩ : ∃ a : AV, a = .sl H.length 0 1 1 := ⟨_, rfl⟩
  have I : Ints (H ++ [Ib [5]]) .i64 a [5] := by rw [ha]; exact ints_one1 H 5
  have R5 := right_one 5 (by unfold Fit; omega)
  have R4 := right_one 4 (by unfold Fit; omega)
  have d1 : U8 1 [5] 4 = true := by decide +kernel
  have d2 : U8 1 [5] 5 = false := by decide +kernel
  have d3 : Ww 1 [5] 6 = true := by decide +kernel
  have d4 : Ww 1 [5] 5 = false := by decide +kernel
  have d5 : belowB 1 [5] [5] = true := by decide +kernel
  have d6 : belowB 1 [5] [4] = false := by decide +kernel
  have L4 := fun H0 (x0 : Ext (H ++ [Ib [5]]) H0) => Least_calls 1 [5] a 4 H0 (I.ext x0) R5 (by omega)
  have L5 := fun H0 (x0 : Ext (H ++ [Ib [5]]) H0) => Least_calls 1 [5] a 5 H0 (I.ext x0) R5 (by omega)
  have M6 := fun H0 (x0 : Ext (H ++ [Ib [5]]) H0) => Most_calls 1 [5] a 6 H0 (I.ext x0) R5 (by omega)
  have M5 := fun H0 (x0 : Ext (H ++ [Ib [5]]) H0) => Most_calls 1 [5] a 5 H0 (I.ext x0) R5 (by omega)
  have B46 := fun H0 (x0 : Ext (H ++ [Ib [5]]) H0) => Between_ok 1 [5] a 4 6 H0 (I.ext x0) R5 (by omega) (by omega) d1 d3
  rw [d1] at L4
  rw [d2] at L5
  rw [d3] at M6
  rw [d4] at M5
  simp only [Int.cast_ofNat_Int] at L4 L5 M6 M5 B46
  have ha1 : a.one = true := by rw [ha]; rfl
  have hc : a.cells = [a] := AV.cells_one ha1
  refine Q7 Tryz.func29 rfl (by kernel_rfl) (by kernel_rfl) ?_
  repeat' first
    | (with_reducible first | refine Jj (fun K hK => ?_) | refine Jg ?_)
    | ((with_reducible refine Jq (L4 _ (Ext.push _ _)) ?_); rintro _ _ ⟨rfl, rfl⟩)
    | ((with_reducible refine Jq (L5 _ (Ext.push _ _)) ?_); rintro _ _ ⟨rfl, rfl⟩)
    | ((with_reducible refine Jq (M6 _ (Ext.push _ _)) ?_); rintro _ _ ⟨rfl, rfl⟩)
    | ((with_reducible refine Jq (M5 _ (Ext.push _ _)) ?_); rintro _ _ ⟨rfl, rfl⟩)
    | ((with_reducible refine Jq (B46 _ (Ext.push _ _)) ?_); rintro _ _ ⟨rfl, rfl⟩)
    | (simp only [Q4, Jo, reduceIte, J0])
    | ((with_reducible refine hK _ _ ?_); clear hK)
    | (simp only [Q3, RA, Jn, Jm, Jp, Q2, Q0, ev, ofValue, Jt, J0, J3, J2, J4, reduceCtorEq, reduceIte, Ju, Qb, Qa, Jy, aun, Q9, Jk, Jh, Jx, Jw, Ji, Q8, Jf, Q1, Jr, Js, J1, J5, Ja, J9, Jb, J6, J7, Jd, J8, RB, Jv, Je, R7, ← ha, Zy Yt])
    | (simp (disch := first | omega | (simp only [RO]; done) | assumption) only [RS, X8, X9, Qu, Qv, Qq])
    | (simp (disch := (first | omega | (simp only [RO]; done) | assumption | (simp only [RM, Je]; done) | (simp only [RL, Je]; omega))) only [RD, reduceCtorEq, reduceIte, Je, J1, J3, J2, J6, R7, ← ha, Zy Yt])
  refine Jq (Between_calls 1 [5] a 5 6 _ (I.ext (Ext.push _ _)) R5 (by omega) (by omega)) ?_
  rintro v2 H2 ⟨hv2, x2⟩
  have E2 : Err H2 v2 N9 30 := by unfold BetwR at hv2; rw [if_pos d2] at hv2; exact hv2
  have N2 : Noted H2 := ((hN.push _).push _).ext x2
  have S2 := says9_err 30 30 v2 H2 E2 N2 (by omega) (by omega)
  rw [decide_eq_true rfl] at S2
  have q2 : Qt H2 (H.length + 1) = some (Sb 1 a) := Qh (Qo (by simp)) x2
  have I2 : Ints H2 .i64 a [5] := (I.push _).ext x2
  repeat' first
    | ((with_reducible refine Jq (S2) ?_); rintro _ _ ⟨rfl, rfl⟩)
    | (simp only [Q3, RA, Jn, Jm, Jp, Q2, Q0, ev, ofValue, Jt, J0, J3, J2, J4, reduceCtorEq, reduceIte, Ju, Qb, Qa, Jy, aun, Q9, Jk, Jh, Jx, Jw, Ji, Q8, Jf, Q1, Jr, Js, J1, J5, Ja, J9, Jb, J6, J7, Jd, J8, RB, Jv, Je, R7, q2])
    | (simp (disch := (first | omega | (simp only [RO]; done) | assumption | (simp only [RM, Je]; done) | (simp only [RL, Je]; omega))) only [RD, reduceCtorEq, reduceIte, Je, J1, J3, J2, J6, R7, q2])
  refine Jq (Between_calls 1 [5] a 4 5 _ I2 R5 (by omega) (by omega)) ?_
  rintro v3 H3 ⟨hv3, x3⟩
  have E3 : Err H3 v3 N9 31 := by unfold BetwR at hv3; rw [if_neg (by rw [d1]; decide), if_pos d4] at hv3; exact hv3
  have N3 : Noted H3 := N2.ext x3
  have S3 := says9_err 31 31 v3 H3 E3 N3 (by omega) (by omega)
  rw [decide_eq_true rfl] at S3
  have q3 : Qt H3 (H.length + 1) = some (Sb 1 a) := Qh q2 x3
  have I3 : Ints H3 .i64 a [5] := I2.ext x3
  have q4 : Qt (H3 ++ [Ib [5]]) (H.length + 1) = some (Sb 1 a) := Qh q3 (Ext.push _ _)
  have hB1 := Below_calls 1 [5] [5] a (.sl H3.length 0 1 1) (H3 ++ [Ib [5]]) (I3.push _) (ints_one1 H3 5) R5 R5
  have hB2 := Below_calls 1 [5] [4] a (.sl (H3.length + 1) 0 1 1) (H3 ++ [Ib [5]] ++ [Ib [4]]) ((I3.push _).push _) (by have := ints_one1 (H3 ++ [Ib [5]]) 4; rwa [Qm] at this) R5 R4
  rw [d5] at hB1
  rw [d6] at hB2
  simp only [Int.cast_ofNat_Int, Ib, List.map_cons, List.map_nil] at hB1 hB2 q4
  repeat' first
    | (with_reducible first | refine Qj ?_)
    | ((with_reducible refine Jq (S3) ?_); rintro _ _ ⟨rfl, rfl⟩)
    | ((with_reducible refine Jq (hB1) ?_); rintro _ _ ⟨rfl, rfl⟩)
    | ((with_reducible refine Jq (hB2) ?_); rintro _ _ ⟨rfl, rfl⟩)
    | (simp only [Q4, Jo, reduceIte, J0])
    | ((with_reducible refine hK _ _ ?_); clear hK)
    | (simp only [Q3, RA, Jn, Jm, Jp, Q2, Q0, ev, ofValue, Jt, J0, J3, J2, J4, reduceCtorEq, reduceIte, Ju, Qb, Qa, Jy, aun, Q9, Jk, Jh, Jx, Jw, Ji, Q8, Jf, Q1, Jr, Js, J1, J5, Ja, J9, Jb, J6, J7, Jd, J8, RB, Jv, Je, R7, q3, q4])
    | (simp (disch := first | omega | (simp only [RO]; done) | assumption) only [RS, X8, X9, Qu, Qv, Qq])
    | (simp (disch := (first | omega | (simp only [RO]; done) | assumption | (simp only [RM, Je]; done) | (simp only [RL, Je]; omega))) only [RD, reduceCtorEq, reduceIte, Je, J1, J3, J2, J6, R7, q3, q4])
  all_goals
    (
     (refine Qg (rs := [.tmp 0]) rfl ?_)
     (simp only [Qx, Qd, Fr.put_some, Fr.put_none, Qe, Qf, Qi, J0, reduceIte])
     (try simp (disch := (first | omega | (simp only [RO]; done) | assumption | (simp only [RM, Je]; done) | (simp only [RL, Je]; omega))) only [RD, reduceCtorEq, reduceIte, Je, J1, J3, J2, J6, R7]))
  all_goals exact ⟨(((((Ext.push _ _).pushed _).trans x2).trans x3).pushed _).pushed _, trivial⟩
end Go.Proofs.YtfalfmfkifemeaaGreatDoor

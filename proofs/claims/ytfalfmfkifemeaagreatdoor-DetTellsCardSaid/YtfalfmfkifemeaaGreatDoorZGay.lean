/- Part 25 of the proof of laws of this seat: lemmas on the model's code, on this program's functions, on numbers. No condition. -/
import Derived.Test.YtfalfmfkifemeaaGreatDoorZGax
set_option linter.unusedVariables false
set_option linter.unusedSimpArgs false
open Nat renaming reduceEqDiff → J0, reduceLeDiff → J1, reduceMul → J2, reduceAdd → J3, reduceSub → J4, reduceLT → J5
open Int renaming reduceToNat → J6, reducePow → J7, reduceNeg → J8, reduceLT → J9, reduceLE → Ja, reduceEq → Jb
open And renaming intro → Jc
open Go.IntKind renaming bits → Jd
open Go.PW renaming dig_length → Je
namespace Go.Proofs.YtfalfmfkifemeaaGreatDoor
open Go.AL Go.PW Go.PD
theorem tf59RgG : type_of% (Jc @Z8 (Jc @Xd (Jc @Xz (Jc @X1 (Jc @Xj (Jc @Za (Jc @Z9 (Jc @Vx (@W0))))))))) := Jc @Z8 (Jc @Xd (Jc @Xz (Jc @X1 (Jc @Xj (Jc @Za (Jc @Z9 (Jc @Vx (@W0))))))))
theorem R0 : type_of% (Jc @Xd (Jc @Xz (Jc @X1 (Jc @Xj (Jc @Za (Jc @Z9 (Jc @Vx (@W0)))))))) := Jc @Xd (Jc @Xz (Jc @X1 (Jc @Xj (Jc @Za (Jc @Z9 (Jc @Vx (@W0)))))))
set_option maxRecDepth 8000
theorem BsV.rd {H : Hp} {v : AV} {l : List (Int × AV)} {lo : Nat} (B : BsV H v l lo) : Rd H 2 v (Ua l) l.length := by
  rcases B.at_ with ⟨rfl, rfl⟩ | ⟨k, rfl, hg, _⟩
  · exact Rd.nil _ _
  · have hcl := W9 l
    refine ⟨?_, rfl⟩
    simp only [arow, hg]
    rw [if_neg (by decide), if_pos (by omega), List.drop_zero, List.take_of_length_le (by omega)]
theorem BsV.get {H : Hp} {v : AV} {l : List (Int × AV)} {lo : Nat} (B : BsV H v l lo) {i : Nat} (hi : i < l.length) : Yq Tryz.prog H 46 (.ptr v.hd (v.of + i * 2)) = some (BV (l.getD i (0, .nilS)).1 (l.getD i (0, .nilS)).2) := by
  rw [Rd.loads B.rd agg46 Kv hi, cellsB_get _ _ hi]
theorem vals_get (l : List (Int × AV)) (i : Nat) : (l.getD i (0, .nilS)).1 = (l.map Prod.fst).getD i 0 := by
  simp only [List.getD_eq_getElem?_getD, List.getElem?_map]
  cases l[i]? <;> rfl
theorem Rminors_nil (H : Hp) : ACalls Tryz.prog 59 [.nilS] H fun r H' => r = .nilS ∧ Ext H H' := by
  refine Q7 Tryz.func59 rfl (by kernel_rfl) (by kernel_rfl) ?_
  repeat' first
    | (with_reducible first | refine Jj (fun K hK => ?_) | refine Jg ?_)
    | (simp only [Q4, Jo, reduceIte, J0])
    | ((with_reducible refine hK _ _ ?_); clear hK)
    | (simp only [Q3, RA, Jn, Jm, Jp, Q2, Q0, ev, ofValue, Jt, J0, J3, J2, J4, reduceCtorEq, reduceIte, Ju, Qb, Qa, Jy, aun, Q9, Jk, Jh, Jx, Jw, Ji, Q8, Jf, Q1, Jr, Js, J1, J5, Ja, J9, Jb, J6, J7, Jd, J8, RB, Jv, Je, tf59RgG])
  refine Jq (Of_calls 1 _ (by omega)) ?_
  rintro _ H1 ⟨t, rfl, T, x1⟩
  have ot := T.one
  have ct := T.cells
  repeat' first
    | (with_reducible first | refine Jj (fun K hK => ?_) | refine Qc ?_ | refine Jg ?_)
    | (simp only [Q4, Jo, reduceIte, J0])
    | ((with_reducible refine hK _ _ ?_); clear hK)
    | (simp only [Q3, RA, Jn, Jm, Jp, Q2, Q0, ev, ofValue, Jt, J0, J3, J2, J4, reduceCtorEq, reduceIte, Ju, Qb, Qa, Jy, aun, Q9, Jk, Jh, Jx, Jw, Ji, Q8, Jf, Q1, Jr, Js, J1, J5, Ja, J9, Jb, J6, J7, Jd, J8, RB, Jv, Je, tf59RgG])
    | (simp (disch := first | omega | (simp only [RO]; done) | assumption) only [RS, X6, X7, Ye, Yf, Vm, Vn, X4, X0])
    | (simp (disch := (first | omega | (simp only [RO]; done) | assumption | (simp only [RM, Je]; done) | (simp only [RL, Je]; omega))) only [RD, reduceCtorEq, reduceIte, Je, J1, J3, J2, J6, tf59RgG])
  refine X2 (fun m fr' H2 => m = 0 ∧ fr' 0 = .nilS ∧ fr' 4 = .nilS ∧ fr' 5 = .int .i64 0 ∧ Ext H H2) (m := 0) ⟨rfl, rfl, rfl, rfl, x1.pushed _⟩ ?_
  rintro m fr' H2 ⟨rfl, k0, k4, k5, x2⟩
  repeat' first
    | (with_reducible first | refine Jj (fun K hK => ?_) | refine Qz ?_ | refine Qj ?_ | refine Jg ?_ | refine Jz ?_)
    | (simp only [Q4, Jo, reduceIte, J0])
    | ((with_reducible refine hK _ _ ?_); clear hK)
    | (clear hK; (with_reducible refine hK _ _ ?_); clear hK)
    | (simp only [Q3, RA, Jn, Jm, Jp, Q2, Q0, ev, ofValue, Jt, J0, J3, J2, J4, reduceCtorEq, reduceIte, Ju, Qb, Qa, Jy, aun, Q9, Jk, Jh, Jx, Jw, Ji, Q8, Jf, Q1, Jr, Js, J1, J5, Ja, J9, Jb, J6, J7, Jd, J8, RB, Jv, Je, tf59RgG, k0, k4, k5])
  (
   (refine Qg (rs := [.tmp 2]) rfl ?_)
   (simp only [Qx, Qd, Fr.put_some, Fr.put_none, Qe, Qf, Qi, J0, reduceIte])
   (try simp (disch := (first | omega | (simp only [RO]; done) | assumption | (simp only [RM, Je]; done) | (simp only [RL, Je]; omega))) only [RD, reduceCtorEq, reduceIte, Je, J1, J3, J2, J6, tf59RgG]))
  exact x2
theorem Rminors_any (n : Nat) (rho : Nat → Nat → Int) (v : AV) (vs : List AV) (pss : List (List (Int × AV))) (lo : Nat) (H : Hp) (B : BRows H v vs pss lo) (S : StB n 0 rho pss) (h8 : n ≤ 8) (hB : ∀ i j, (rho i j).natAbs ≤ 18446744073709551616) :
    ACalls Tryz.prog 59 [v] H fun r H' => ∃ l, BsV H' r l H.length ∧ l.map Prod.fst = Yn rho n 0 ∧ Off (RowsAt n vs) H H' := by
  cases B with
  | no h1 h2 h3 =>
    subst h1 h2 h3
    have hn := S.len
    simp only [List.length_nil] at hn
    subst hn
    exact (Rminors_nil H).mono fun r H' ⟨h, x⟩ => by subst h; exact ⟨[], BsV.nil _ _, rfl, (Off.refl _ _).ext x⟩
  | yes p h M h1 h2 h3 =>
    subst h
    rw [S.len]
    exact Rminors_calls n p rho vs pss H M S h8 hB
theorem BRows.toExt {H0 H H' : Hp} {n : Nat} {v : AV} {vs : List AV} {pss : List (List (Int × AV))} {lo : Nat} (B : BRows H v vs pss lo) (hn : pss.length = n) (hlo : H0.length ≤ lo) (x : Ext H0 H) (O : Off (RowsAt n vs) H H') : Ext H0 H' := by
  refine Off.toExt x O fun h ⟨i, hi, e⟩ => ?_
  cases B with
  | no h1 h2 h3 => subst h3; simp at hn; omega
  | yes p hv M h1 h2 h3 => have := h2 i (by omega); omega
set_option maxHeartbeats 4000000 in
theorem Rdefinite_calls (n : Nat) (rho : Nat → Nat → Int) (v : AV) (vs : List AV) (pss : List (List (Int × AV))) (lo : Nat) (H : Hp) (B : BRows H v vs pss lo) (S : StB n 0 rho pss) (h8 : n ≤ 8) (hB : ∀ i j, (rho i j).natAbs ≤ 18446744073709551616) :
    ACalls Tryz.prog 60 [v] H fun r H' => r = .bool (Ks rho n) ∧ Off (RowsAt n vs) H H' := by
  have hL := Wj rho n 0
  have hvl : Qy Tryz.prog .len #[93] [v] = some (.int .i64 (n : Int)) := by
    cases B with
    | no h1 h2 h3 =>
      subst h1 h3
      have hn := S.len
      simp only [List.length_nil] at hn
      subst hn
      exact Rd.len (Rd.nil H 1) Gm
    | yes p h M h1 h2 h3 =>
      rw [h, lenG93, S.len]
  refine Q7 Tryz.func60 rfl (by kernel_rfl) (by kernel_rfl) ?_
  repeat' first
    | (with_reducible first | refine Jj (fun K hK => ?_) | refine Jg ?_)
    | (simp only [Q4, Jo, reduceIte, J0])
    | ((with_reducible refine hK _ _ ?_); clear hK)
    | (simp only [Q3, RA, Jn, Jm, Jp, Q2, Q0, ev, ofValue, Jt, J0, J3, J2, J4, reduceCtorEq, reduceIte, Ju, Qb, Qa, Jy, aun, Q9, Jk, Jh, Jx, Jw, Ji, Q8, Jf, Q1, Jr, Js, J1, J5, Ja, J9, Jb, J6, J7, Jd, J8, RB, Jv, Je, R0])
  refine Jq (Rminors_any n rho v vs pss lo H B S h8 hB) ?_
  rintro w H1 ⟨l, V, hle, O⟩
  have hlen := V.rd.len Kq
  have hp : Ks rho n = decide ((Yn rho n 0).length = n ∧ (n = 0 ∨ 0 < (Yn rho n 0).getD (n - 1) 0)) := rfl
  rw [← hle] at hp hL
  rw [List.length_map] at hp hL
  by_cases h1 : l.length = n
  · have e1 : ((l.length : Int) = (n : Int)) = True := eq_true (by omega)
    rcases Nat.eq_zero_or_pos n with h0 | h0
    · have e2 : ((n : Int) = 0) = True := eq_true (by omega)
      repeat' first
        | (with_reducible first | refine Jj (fun K hK => ?_) | refine Qj ?_ | refine Jg ?_)
        | (with_reducible refine Qn (fun hc => ?_) (fun hc => ?_) <;> (try simp only [RC] at hc) <;> (try (exfalso; first | omega | contradiction)))
        | (simp only [Q4, Jo, reduceIte, J0])
        | ((with_reducible refine hK _ _ ?_); clear hK)
        | (simp only [Q3, RA, Jn, Jm, Jp, Q2, Q0, ev, ofValue, Jt, J0, J3, J2, J4, reduceCtorEq, reduceIte, Ju, Qb, Qa, Jy, aun, Q9, Jk, Jh, Jx, Jw, Ji, Q8, Jf, Q1, Jr, Js, J1, J5, Ja, J9, Jb, J6, J7, Jd, J8, RB, Jv, Je, R0, hlen, hvl, e1, e2])
      all_goals
        (
         (refine Qg (rs := [.tmp 2]) rfl ?_)
         (simp only [Qx, Qd, Fr.put_some, Fr.put_none, Qe, Qf, Qi, J0, reduceIte])
         (try simp (disch := (first | omega | (simp only [RO]; done) | assumption | (simp only [RM, Je]; done) | (simp only [RL, Je]; omega))) only [RD, reduceCtorEq, reduceIte, Je, J1, J3, J2, J6, R0]))
      all_goals exact ⟨by rw [hp, decide_eq_true ⟨h1, .inl h0⟩], O⟩
    · have e2 : ((n : Int) = 0) = False := eq_false (by omega)
      have w1 : IntKind.i64.wrap ((l.length : Int) - 1) = ((n - 1 : Nat) : Int) := by rw [Q5 (by omega) (by omega)]; omega
      have a1 := V.rd.at_ Kq Kv (k := .i64) (j := ((n - 1 : Nat) : Int)) (by omega) (by omega)
      have a2 := V.get (i := n - 1) (by omega)
      rw [Int.toNat_natCast] at a1
      have Sb := V.big _ (J1o (i := n - 1) (l := l) (by omega))
      have hsg := Sign_calls _ _ H1 Sb
      rw [← vals_get] at hp
      generalize l.getD (n - 1) (0, .nilS) = y at *
      repeat' first
        | (with_reducible first | refine Jj (fun K hK => ?_) | refine Qj ?_ | refine Jg ?_)
        | ((with_reducible refine Jq (hsg) ?_); rintro _ _ ⟨rfl, rfl⟩)
        | (with_reducible refine Qn (fun hc => ?_) (fun hc => ?_) <;> (try simp only [RC] at hc) <;> (try (exfalso; first | omega | contradiction)))
        | (simp only [Q4, Jo, reduceIte, J0])
        | ((with_reducible refine hK _ _ ?_); clear hK)
        | (simp only [Q3, RA, Jn, Jm, Jp, Q2, Q0, ev, ofValue, Jt, J0, J3, J2, J4, reduceCtorEq, reduceIte, Ju, Qb, Qa, Jy, aun, Q9, Jk, Jh, Jx, Jw, Ji, Q8, Jf, Q1, Jr, Js, J1, J5, Ja, J9, Jb, J6, J7, Jd, J8, RB, Jv, Je, R0, hlen, hvl, e1, e2, w1, a1, a2])
      all_goals
        (
         (refine Qg (rs := [.tmp 2]) rfl ?_)
         (simp only [Qx, Qd, Fr.put_some, Fr.put_none, Qe, Qf, Qi, J0, reduceIte])
         (try simp (disch := (first | omega | (simp only [RO]; done) | assumption | (simp only [RM, Je]; done) | (simp only [RL, Je]; omega))) only [RD, reduceCtorEq, reduceIte, Je, J1, J3, J2, J6, R0]))
      all_goals
        refine ⟨?_, O⟩
        rw [hp]
        congr 1
        refine decide_eq_decide.mpr ?_
        rw [Int.sign_pos_iff]
        exact ⟨fun h => ⟨h1, .inr h⟩, fun h => h.2.resolve_left (by omega)⟩
  · have e1 : ((l.length : Int) = (n : Int)) = False := eq_false (by omega)
    have e2 : ((n : Int) = 0) = False := eq_false (by omega)
    repeat' first
      | (with_reducible first | refine Jj (fun K hK => ?_) | refine Qj ?_ | refine Jg ?_)
      | (with_reducible refine Qn (fun hc => ?_) (fun hc => ?_) <;> (try simp only [RC] at hc) <;> (try (exfalso; first | omega | contradiction)))
      | (simp only [Q4, Jo, reduceIte, J0])
      | ((with_reducible refine hK _ _ ?_); clear hK)
      | (simp only [Q3, RA, Jn, Jm, Jp, Q2, Q0, ev, ofValue, Jt, J0, J3, J2, J4, reduceCtorEq, reduceIte, Ju, Qb, Qa, Jy, aun, Q9, Jk, Jh, Jx, Jw, Ji, Q8, Jf, Q1, Jr, Js, J1, J5, Ja, J9, Jb, J6, J7, Jd, J8, RB, Jv, Je, R0, hlen, hvl, e1, e2])
    all_goals
      (
       (refine Qg (rs := [.tmp 2]) rfl ?_)
       (simp only [Qx, Qd, Fr.put_some, Fr.put_none, Qe, Qf, Qi, J0, reduceIte])
       (try simp (disch := (first | omega | (simp only [RO]; done) | assumption | (simp only [RM, Je]; done) | (simp only [RL, Je]; omega))) only [RD, reduceCtorEq, reduceIte, Je, J1, J3, J2, J6, R0]))
    all_goals exact ⟨by rw [hp, decide_eq_false (fun h => h1 h.1)], O⟩
end Go.Proofs.YtfalfmfkifemeaaGreatDoor
namespace Go.Proofs.YtfalfmfkifemeaaGreatDoor
open Go.AL Go.PW Go.PD
theorem Zo : type_of% (Jc @Z8 (Jc @Xd (Jc @tyb5 (Jc @Xx (Jc @Xw (Jc @Xv (Jc @Rv (Jc @Ru (Jc @Rt (Jc @J1w (Jc @cv25_2 (@cv76_2)))))))))))) := Jc @Z8 (Jc @Xd (Jc @tyb5 (Jc @Xx (Jc @Xw (Jc @Xv (Jc @Rv (Jc @Ru (Jc @Rt (Jc @J1w (Jc @cv25_2 (@cv76_2)))))))))))
set_option maxRecDepth 8000
theorem Ug {x m : Int} (hx : 0 ≤ x) : x.tmod m = x % m := Int.tmod_eq_emod_of_nonneg hx
theorem tmod_200 (x : Int) : -200 < x.tmod 200 ∧ x.tmod 200 < 200 := by
  rcases Int.le_total 0 x with h | h
  · rw [Ug h]; omega
  · obtain ⟨y, rfl⟩ : ∃ y, x = -y := ⟨-x, by omega⟩
    rw [Int.neg_tmod, Ug (by omega)]; omega
theorem own_ints {H : Hp} {v : AV} {gs : List Int} {lo : Nat} {e : TypeId} (h : Own H 1 e v (gs.map (AV.int .i64)) gs.length lo) : Ints H .i64 v gs := h.rd
set_option maxHeartbeats 16000000 in
theorem Sym_calls (n dg : Int) (hs : List Int) (c : AV) (H : Hp) (hn : 0 ≤ n ∧ n ≤ 255) (hdg : 0 ≤ dg ∧ dg ≤ 65535) (hh : Ints H .i16 c hs) (hl : hs.length < 1000000) : ACalls Tryz.prog 11 [.int .u8 n, .int .u16 dg, c] H fun r H' => ∃ (k : Nat) (b : AV) (ys : List Int), r = Ya k b ∧ (k : Int) = n % 7 ∧ Mo H' b ys H.length ∧ Right k ys ∧ Ext H H' := by
  obtain ⟨k, hk⟩ : ∃ k : Nat, (k : Int) = n % 7 := ⟨(n % 7).toNat, by omega⟩
  have e7 : IntKind.i64.wrap (n.tmod 7) = (k : Int) := by rw [Ug hn.1, Q5 (by omega) (by omega), hk]
  have e5 : IntKind.i64.wrap (dg.tmod 5000) = dg % 5000 := by rw [Ug hdg.1, Q5 (by omega) (by omega)]
  have hlen := hh.rd.len K8
  refine Q7 Tryz.func11 rfl (by kernel_rfl) (by kernel_rfl) ?_
  refine Jj (fun K hQ => ?_)
  repeat' first
    | (with_reducible first | refine Jg ?_)
    | (simp only [Q4, Jo, reduceIte, J0])
    | (simp only [Q3, RA, Jn, Jm, Jp, Q2, Q0, ev, ofValue, Jt, J0, J3, J2, J4, reduceCtorEq, reduceIte, Ju, Qb, Qa, Jy, aun, Q9, Jk, Jh, Jx, Jw, Ji, Q8, Jf, Q1, Jr, Js, J1, J5, Ja, J9, Jb, J6, J7, Jd, J8, RB, Jv, Je, Zo, e7])
  refine hQ _ _ ?_
  clear hQ
  refine Jj (fun K hQ => ?_)
  repeat' first
    | (with_reducible first | refine Jg ?_)
    | (simp only [Q4, Jo, reduceIte, J0])
    | (simp only [Q3, RA, Jn, Jm, Jp, Q2, Q0, ev, ofValue, Jt, J0, J3, J2, J4, reduceCtorEq, reduceIte, Ju, Qb, Qa, Jy, aun, Q9, Jk, Jh, Jx, Jw, Ji, Q8, Jf, Q1, Jr, Js, J1, J5, Ja, J9, Jb, J6, J7, Jd, J8, RB, Jv, Je, Zo, e7])
  refine hQ _ _ ?_
  clear hQ
  refine Jj (fun K2 hK2 => ?_)
  refine Z6 (fun fr' H1 => ∃ b p ys, fr' 2 = c ∧ fr' 6 = .ptr H.length 0 ∧ fr' 7 = .int .i64 (k : Int) ∧ fr' 8 = .ptr p 0 ∧ Qt H1 H.length = some (Sb 0 .nilS) ∧ Qt H1 p = some (Sb k b) ∧ H.length + 1 ≤ p ∧ Mo H1 b ys (H.length + 1) ∧ Right k ys ∧ Ext H H1) ?_ (fun fr' H1 h => hK2 _ _ ?_)
  · clear hK2
    repeat' first
      | (with_reducible first | refine Jg ?_)
      | (simp only [Q4, Jo, reduceIte, J0])
      | (simp only [Q3, RA, Jn, Jm, Jp, Q2, Q0, ev, ofValue, Jt, J0, J3, J2, J4, reduceCtorEq, reduceIte, Ju, Qb, Qa, Jy, aun, Q9, Jk, Jh, Jx, Jw, Ji, Q8, Jf, Q1, Jr, Js, J1, J5, Ja, J9, Jb, J6, J7, Jd, J8, RB, Jv, Je, Zo, e7])
    refine Jq (MoNew_calls k _ (by omega)) ?_
    rintro _ H2 ⟨b, rfl, m, x2⟩
    have hb1 := m.one
    have hcb : b.cells = [b] := AV.cells_one hb1
    repeat' first
      | (simp only [Q3, RA, Jn, Jm, Jp, Q2, Q0, ev, ofValue, Jt, J0, J3, J2, J4, reduceCtorEq, reduceIte, Ju, Qb, Qa, Jy, aun, Q9, Jk, Jh, Jx, Jw, Ji, Q8, Jf, Q1, Jr, Js, J1, J5, Ja, J9, Jb, J6, J7, Jd, J8, RB, Jv, Je, Zo, e5])
    refine Jq (Diag_calls k _ b (dg % 5000) _ m.ints (Uh (by omega)) (by omega) (fun i _ => by rw [Wk]; unfold Fit; omega)) ?_
    rintro _ H3 ⟨b', ys, rfl, m', hry, _, x3⟩
    have hb1' := m'.one
    have hcb' : b'.cells = [b'] := AV.cells_one hb1'
    have q6 : Qt H3 H.length = some (Sb 0 .nilS) := Qh (Qh (Qo rfl) x2) x3
    have l3 := x3.len
    have l2 := x2.len
    simp only [List.length_append, List.length_cons, List.length_nil] at l2
    have m2 : Mo H3 b' ys (H.length + 1) := m'.low (by omega)
    repeat' first
      | (simp only [Q4, Jo, reduceIte, J0])
      | (simp only [Q3, RA, Jn, Jm, Jp, Q2, Q0, ev, ofValue, Jt, J0, J3, J2, J4, reduceCtorEq, reduceIte, Ju, Qb, Qa, Jy, aun, Q9, Jk, Jh, Jx, Jw, Ji, Q8, Jf, Q1, Jr, Js, J1, J5, Ja, J9, Jb, J6, J7, Jd, J8, RB, Jv, Je, Zo, q6])
      | (simp (disch := first | omega | (simp only [RO]; done) | assumption) only [RS, X8, X9, Vp, Vq, Qu, Qv, Qq])
      | (simp (disch := (first | omega | (simp only [RO]; done) | assumption | (simp only [RM, Je]; done) | (simp only [RL, Je]; omega))) only [RD, reduceCtorEq, reduceIte, Je, J1, J3, J2, J6, Zo, q6])
    all_goals exact ⟨b', H3.length, ys, rfl, by first | exact Qo rfl | rw [if_pos rfl], by omega, m2.push _, hry, (((Ext.push _ _).trans x2).trans x3).pushed _⟩
  clear hK2
  obtain ⟨b, p, ys, k2, k6, k7, k8, q6, q8, lp, m, hry, x1⟩ := h
  repeat' first
    | (with_reducible first | refine Jj (fun K hK => ?_) | refine Qc ?_ | refine Jg ?_)
    | (simp only [Q4, Jo, reduceIte, J0])
    | ((with_reducible refine hK _ _ ?_); clear hK)
    | (simp only [Q3, RA, Jn, Jm, Jp, Q2, Q0, ev, ofValue, Jt, J0, J3, J2, J4, reduceCtorEq, reduceIte, Ju, Qb, Qa, Jy, aun, Q9, Jk, Jh, Jx, Jw, Ji, Q8, Jf, Q1, Jr, Js, J1, J5, Ja, J9, Jb, J6, J7, Jd, J8, RB, Jv, Je, Zo, k2, k6, k7, k8])
  refine X2 (fun l fr' H1 => ∃ (i : Nat) (b : AV) (ys : List Int), l = 40 - i ∧ i ≤ 39 ∧ fr' 2 = c ∧ fr' 6 = .ptr H.length 0 ∧ fr' 7 = .int .i64 (k : Int) ∧ fr' 8 = .ptr p 0 ∧ fr' 10 = .int .i64 (i : Int) ∧ Qt H1 H.length = some (Sb 0 .nilS) ∧ Qt H1 p = some (Sb k b) ∧ Mo H1 b ys (H.length + 1) ∧ Right k ys ∧ Ext H H1) (m := 40)
    ⟨0, b, ys, by omega, by omega, k2, k6, k7, k8, rfl, q6, q8, m, hry, x1⟩ ?_
  clear k2 k6 k7 k8 q6 q8 m hry x1 b ys
  rintro l fr' H1 ⟨i, b, ys, rfl, hi, k2, k6, k7, k8, k10, q6, q8, m, hry, x1⟩
  have hb1 := m.one
  have hcb : b.cells = [b] := AV.cells_one hb1
  have w1 : IntKind.i64.wrap ((i : Int) + (k : Int)) = ((i + k : Nat) : Int) := by rw [Q5 (by omega) (by omega)]; omega
  have w2 : IntKind.i64.wrap (4 * (k : Int)) = ((4 * k : Nat) : Int) := by rw [Q5 (by omega) (by omega)]; omega
  by_cases hcond : i + k ≤ hs.length ∧ 0 < k ∧ i < 4 * k
  · obtain ⟨h1, h2, h3⟩ := hcond
    have f1 : (((i + k : Nat) : Int) ≤ (hs.length : Int)) = True := eq_true (by omega)
    have f2 : ((k : Int) > 0) = True := eq_true (by omega)
    have f3 : ((i : Int) < ((4 * k : Nat) : Int)) = True := eq_true (by omega)
    refine Jj (fun K hQ => ?_)
    repeat' first
      | (with_reducible first | refine Jj (fun K hK => ?_) | refine Q6 ?_ | refine Jg ?_ | refine Jz ?_)
      | (with_reducible refine Qn (fun hc => ?_) (fun hc => ?_) <;> (try simp only [RC] at hc) <;> (try (exfalso; first | omega | contradiction)))
      | (simp only [Q4, Jo, reduceIte, J0])
      | ((with_reducible refine hK _ _ ?_); clear hK)
      | (simp only [Q3, RA, Jn, Jm, Jp, Q2, Q0, ev, ofValue, Jt, J0, J3, J2, J4, reduceCtorEq, reduceIte, Ju, Qb, Qa, Jy, aun, Q9, Jk, Jh, Jx, Jw, Ji, Q8, Jf, Q1, Jr, Js, J1, J5, Ja, J9, Jb, J6, J7, Jd, J8, RB, Jv, Je, Zo, k2, k6, k7, k8, k10, hlen, w1, w2, f1, f2, f3])
    refine hQ _ _ ?_
    clear hQ
    refine Jj (fun K3 hK3 => ?_)
    refine Qc ?_
    refine Jj (fun K hQ => ?_)
    repeat' first
      | (with_reducible first | refine Jg ?_)
      | (simp only [Q4, Jo, reduceIte, J0])
      | (simp only [Q3, RA, Jn, Jm, Jp, Q2, Q0, ev, ofValue, Jt, J0, J3, J2, J4, reduceCtorEq, reduceIte, Ju, Qb, Qa, Jy, aun, Q9, Jk, Jh, Jx, Jw, Ji, Q8, Jf, Q1, Jr, Js, J1, J5, Ja, J9, Jb, J6, J7, Jd, J8, RB, Jv, Je, Zo, k2, k6, k7, k8, k10])
    refine hQ _ _ ?_
    clear hQ
    refine Jj (fun K4 hK4 => ?_)
    repeat' first
      | (with_reducible first | refine Jj (fun K hK => ?_) | refine Qc ?_ | refine Jg ?_)
      | (simp only [Q4, Jo, reduceIte, J0])
      | ((with_reducible refine hK _ _ ?_); clear hK)
      | (simp only [Q3, RA, Jn, Jm, Jp, Q2, Q0, ev, ofValue, Jt, J0, J3, J2, J4, reduceCtorEq, reduceIte, Ju, Qb, Qa, Jy, aun, Q9, Jk, Jh, Jx, Jw, Ji, Q8, Jf, Q1, Jr, Js, J1, J5, Ja, J9, Jb, J6, J7, Jd, J8, RB, Jv, Je, Zo, k2, k6, k7, k8, k10])
    refine X2 (fun l fr' H2 => ∃ (j : Nat) (v : AV) (gs : List Int), l = k - j ∧ j ≤ k ∧ fr' 2 = c ∧ fr' 6 = .ptr H.length 0 ∧ fr' 7 = .int .i64 (k : Int) ∧ fr' 8 = .ptr p 0 ∧ fr' 10 = .int .i64 (i : Int) ∧ fr' 11 = v ∧ fr' 12 = .int .i64 (j : Int) ∧ gs.length = j ∧ Own H2 1 2 v (gs.map (AV.int .i64)) j H1.length ∧ (∀ x ∈ gs, -200 < x ∧ x < 200) ∧ Ext H1 H2) (m := k)
      ⟨0, .nilS, [], by omega, by omega, k2, k6, k7, k8, k10, rfl, rfl, rfl, Own.nil _ _ _ _, fun x hx => by simp at hx, Ext.refl _⟩ ?_
    clear k2 k6 k7 k8 k10
    rintro l fr' H2 ⟨j, v, gs, rfl, hj, k2, k6, k7, k8, k10, k11, k12, hgl, O, hgs, x2⟩
    by_cases hjt : j < k
    · have w3 : IntKind.i64.wrap ((i : Int) + (j : Int)) = ((i + j : Nat) : Int) := by rw [Q5 (by omega) (by omega)]; omega
      have w4 : IntKind.i64.wrap ((j : Int) + 1) = ((j + 1 : Nat) : Int) := by rw [Q5 (by omega) (by omega)]; omega
      have hh2 := (hh.ext x1).ext x2
      obtain ⟨g, hg⟩ : ∃ g, g = (hs.getD (i + j) 0).tmod 200 := ⟨_, rfl⟩
      have hgb := tmod_200 (hs.getD (i + j) 0)
      rw [← hg] at hgb
      have w5 : IntKind.i64.wrap g = g := Q5 (by omega) (by omega)
      have hx := Rd.lit H2 (n := 1) (z := 1) (cs := [AV.int .i64 g]) (k := .own) (e := 2) (by decide) rfl
      obtain ⟨v', H', ha, O', x', _⟩ := Own.append (P := Tryz.prog) (H0 := H1) (O.push ⟨[AV.int .i64 g], .own, 2⟩) hx (x2.pushed _) Ym W3 zero2 rfl (by decide) bytes2 (V9 _ _) rfl (by omega) (by omega)
      repeat' first
        | (with_reducible first | refine Jj (fun K hK => ?_) | refine Qc ?_ | refine Q6 ?_ | refine Jg ?_ | refine Jz ?_)
        | (with_reducible refine X5 (fun hc => ?_) (fun hc => ?_) <;> (try simp only [RC] at hc) <;> (try (exfalso; first | omega | contradiction)))
        | (simp only [Q4, Jo, reduceIte, J0])
        | ((with_reducible refine hK _ _ ?_); clear hK)
        | (simp only [Q3, RA, Jn, Jm, Jp, Q2, Q0, ev, ofValue, Jt, J0, J3, J2, J4, reduceCtorEq, reduceIte, Ju, Qb, Qa, Jy, aun, Q9, Jk, Jh, Jx, Jw, Ji, Q8, Jf, Q1, Jr, Js, J1, J5, Ja, J9, Jb, J6, J7, Jd, J8, RB, Jv, Je, Zo, k2, k6, k7, k8, k10, k11, k12, w3, w4, ← hg, w5, ha])
        | (simp (disch := first | omega | (simp only [RO]; done) | assumption) only [RS, hh2.rd.at1 K8 size76, hh2.load1 agg76, X8, X9, Vp, Vq, Qu, Qv, Qq])
      all_goals
        refine ⟨_, by omega, j + 1, v', gs ++ [g], rfl, by omega, rfl, rfl, by rw [List.length_append, hgl]; rfl, by rw [List.map_append]; exact O', fun x hx => ?_, x'⟩
        rcases List.mem_append.1 hx with h | h
        · exact hgs x h
        · rw [List.mem_singleton.1 h]; exact hgb
    · obtain rfl : j = k := by omega
      repeat' first
        | (with_reducible first | refine Jj (fun K hK => ?_) | refine Qz ?_ | refine Jg ?_ | refine Jz ?_)
        | (with_reducible refine X5 (fun hc => ?_) (fun hc => ?_) <;> (try simp only [RC] at hc) <;> (try (exfalso; first | omega | contradiction)))
        | (simp only [Q4, Jo, reduceIte, J0])
        | ((with_reducible refine hK _ _ ?_); clear hK)
        | (simp only [Q3, RA, Jn, Jm, Jp, Q2, Q0, ev, ofValue, Jt, J0, J3, J2, J4, reduceCtorEq, reduceIte, Ju, Qb, Qa, Jy, aun, Q9, Jk, Jh, Jx, Jw, Ji, Q8, Jf, Q1, Jr, Js, J1, J5, Ja, J9, Jb, J6, J7, Jd, J8, RB, Jv, Je, Zo, k2, k6, k7, k8, k10, k11, k12])
      refine hK4 _ _ ?_
      have q62 := Qh q6 x2
      have q82 := Qh q8 x2
      have m2 := m.ext x2
      obtain ⟨w, hw⟩ : ∃ w, w = IntKind.i64.wrap (1 + (i : Int).tmod 3) := ⟨_, rfl⟩
      have hwv : w = 1 + (i : Int) % 3 := by rw [hw, Ug (by omega), Q5 (by omega) (by omega)]
      have hv1 : v.one = true := O.rd.one
      have hcv : v.cells = [v] := AV.cells_one hv1
      subst hgl
      repeat' first
        | (with_reducible first | refine Jj (fun K hK => ?_) | refine Jg ?_)
        | (simp only [Q4, Jo, reduceIte, J0])
        | (simp only [Q3, RA, Jn, Jm, Jp, Q2, Q0, ev, ofValue, Jt, J0, J3, J2, J4, reduceCtorEq, reduceIte, Ju, Qb, Qa, Jy, aun, Q9, Jk, Jh, Jx, Jw, Ji, Q8, Jf, Q1, Jr, Js, J1, J5, Ja, J9, Jb, J6, J7, Jd, J8, RB, Jv, Je, Zo, k2, k6, k7, k8, k10, k11, k12, q62, q82, ← hw])
        | (simp (disch := (first | omega | (simp only [RO]; done) | assumption | (simp only [RM, Je]; done) | (simp only [RL, Je]; omega))) only [RD, reduceCtorEq, reduceIte, Je, J1, J3, J2, J6, Zo, k2, k6, k7, k8, k10, k11, k12, q62, q82, ← hw])
      refine Jq (Outer_calls gs.length ys gs b v w _ m2.ints hry (own_ints O) rfl (by omega) (fun x hx => by have := hgs x hx; omega)) ?_
      rintro _ H3 ⟨hres, x3⟩
      have q63 := Qh q62 x3
      have q83 := Qh q82 x3
      have l3 := x3.len
      have l2 := x2.len
      have l1 := x1.len
      have l6 := Qr q63
      have l8 := Qr q83
      have l0 := Qr q62
      have lq := Qr q82
      rcases hres with ⟨b', ys', rfl, m', hry', _⟩ | rfl
      · have hb1' := m'.one
        have hcb' : b'.cells = [b'] := AV.cells_one hb1'
        repeat' first
          | (with_reducible first | refine Jj (fun K hK => ?_) | refine Jg ?_ | refine Jz ?_)
          | (simp only [Q4, Jo, reduceIte, J0])
          | ((with_reducible refine hK _ _ ?_); clear hK)
          | (simp only [Q3, RA, Jn, Jm, Jp, Q2, Q0, ev, ofValue, Jt, J0, J3, J2, J4, reduceCtorEq, reduceIte, Ju, Qb, Qa, Jy, aun, Q9, Jk, Jh, Jx, Jw, Ji, Q8, Jf, Q1, Jr, Js, J1, J5, Ja, J9, Jb, J6, J7, Jd, J8, RB, Jv, Je, Zo, k2, k6, k7, k8, k10, k11, k12, q63, q83])
          | (simp (disch := first | omega | (simp only [RO]; done) | assumption) only [RS, X8, X9, Vp, Vq, Qu, Qv, Qq])
          | (simp (disch := (first | omega | (simp only [RO]; done) | assumption | (simp only [RM, Je]; done) | (simp only [RL, Je]; omega))) only [RD, reduceCtorEq, reduceIte, Je, J1, J3, J2, J6, Zo, k2, k6, k7, k8, k10, k11, k12, q63, q83])
        all_goals
          refine hK3 _ _ ?_
          repeat' first
            | (with_reducible first | refine Jg ?_)
            | (simp only [Q4, Jo, reduceIte, J0])
            | (simp only [Q3, RA, Jn, Jm, Jp, Q2, Q0, ev, ofValue, Jt, J0, J3, J2, J4, reduceCtorEq, reduceIte, Ju, Qb, Qa, Jy, aun, Q9, Jk, Jh, Jx, Jw, Ji, Q8, Jf, Q1, Jr, Js, J1, J5, Ja, J9, Jb, J6, J7, Jd, J8, RB, Jv, Je, Zo, k2, k6, k7, k8, k10, w1])
            | (simp (disch := (first | omega | (simp only [RO]; done) | assumption | (simp only [RM, Je]; done) | (simp only [RL, Je]; omega))) only [RD, reduceCtorEq, reduceIte, Je, J1, J3, J2, J6, Zo, k2, k6, k7, k8, k10, w1])
        all_goals
          exact ⟨_, by omega, i + gs.length, b', ys', rfl, by omega, rfl, by rw [Qk l8, if_neg (by omega)]; exact q63, by rw [Qk l8, if_pos rfl], ((m'.other (Qr q82) l8 _).low (by omega)).push _, hry', (((x1.trans x2).trans x3).set (by omega) _).pushed _⟩
      · skip
        repeat' first
          | (with_reducible first | refine Jj (fun K hK => ?_) | refine Q6 ?_ | refine Jg ?_ | refine Jz ?_)
          | (simp only [Q4, Jo, reduceIte, J0])
          | ((with_reducible refine hK _ _ ?_); clear hK)
          | (simp only [Q3, RA, Jn, Jm, Jp, Q2, Q0, ev, ofValue, Jt, J0, J3, J2, J4, reduceCtorEq, reduceIte, Ju, Qb, Qa, Jy, aun, Q9, Jk, Jh, Jx, Jw, Ji, Q8, Jf, Q1, Jr, Js, J1, J5, Ja, J9, Jb, J6, J7, Jd, J8, RB, Jv, Je, Zo, k2, k6, k7, k8, k10, k11, k12, q63, q83])
          | (simp (disch := (first | omega | (simp only [RO]; done) | assumption | (simp only [RM, Je]; done) | (simp only [RL, Je]; omega))) only [RD, reduceCtorEq, reduceIte, Je, J1, J3, J2, J6, Zo, k2, k6, k7, k8, k10, k11, k12, q63, q83])
        all_goals
          refine hK3 _ _ ?_
          repeat' first
            | (with_reducible first | refine Jg ?_)
            | (simp only [Q4, Jo, reduceIte, J0])
            | (simp only [Q3, RA, Jn, Jm, Jp, Q2, Q0, ev, ofValue, Jt, J0, J3, J2, J4, reduceCtorEq, reduceIte, Ju, Qb, Qa, Jy, aun, Q9, Jk, Jh, Jx, Jw, Ji, Q8, Jf, Q1, Jr, Js, J1, J5, Ja, J9, Jb, J6, J7, Jd, J8, RB, Jv, Je, Zo, k2, k6, k7, k8, k10, w1])
            | (simp (disch := first | omega | (simp only [RO]; done) | assumption) only [RS, X8, X9, Vp, Vq, Qu, Qv, Qq])
        all_goals
          exact ⟨_, by omega, i + gs.length, b, ys, rfl, by omega, rfl, q63, q83, (m2.ext x3).push _, hry, ((x1.trans x2).trans x3).pushed _⟩
  · have l6 := Qr q6
    by_cases h1 : i + k ≤ hs.length
    · have f1 : (((i + k : Nat) : Int) ≤ (hs.length : Int)) = True := eq_true (by omega)
      by_cases h2 : 0 < k
      · have f2 : ((k : Int) > 0) = True := eq_true (by omega)
        have f3 : ((i : Int) < ((4 * k : Nat) : Int)) = False := eq_false (by omega)
        repeat' first
          | (with_reducible first | refine Jj (fun K hK => ?_) | refine Qz ?_ | refine Qj ?_ | refine Jg ?_ | refine Jz ?_)
          | (with_reducible refine Qn (fun hc => ?_) (fun hc => ?_) <;> (try simp only [RC] at hc) <;> (try (exfalso; first | omega | contradiction)))
          | (simp only [Q4, Jo, reduceIte, J0])
          | ((with_reducible refine hK _ _ ?_); clear hK)
          | (clear hK; (with_reducible refine hK _ _ ?_); clear hK)
          | (simp only [Q3, RA, Jn, Jm, Jp, Q2, Q0, ev, ofValue, Jt, J0, J3, J2, J4, reduceCtorEq, reduceIte, Ju, Qb, Qa, Jy, aun, Q9, Jk, Jh, Jx, Jw, Ji, Q8, Jf, Q1, Jr, Js, J1, J5, Ja, J9, Jb, J6, J7, Jd, J8, RB, Jv, Je, Zo, k2, k6, k7, k8, k10, hlen, w1, w2, f1, f2, f3, q6, q8])
          | (simp (disch := first | omega | (simp only [RO]; done) | assumption) only [RS, X8, X9, Vp, Vq, Qu, Qv, Qq])
          | (simp (disch := (first | omega | (simp only [RO]; done) | assumption | (simp only [RM, Je]; done) | (simp only [RL, Je]; omega))) only [RD, reduceCtorEq, reduceIte, Je, J1, J3, J2, J6, Zo, k2, k6, k7, k8, k10, hlen, w1, w2, f1, f2, f3, q6, q8])
        all_goals
          (
           (refine Qg (rs := [.cell 6 24]) rfl ?_)
           (simp only [Qx, Qd, Fr.put_some, Fr.put_none, Qe, Qf, Qi, J0, reduceIte, k6, Qk l6])
           (try simp (disch := (first | omega | (simp only [RO]; done) | assumption | (simp only [RM, Je]; done) | (simp only [RL, Je]; omega))) only [RD, reduceCtorEq, reduceIte, Je, J1, J3, J2, J6, Zo, k6, Qk l6]))
        all_goals exact ⟨k, b, ys, rfl, hk, (m.other (by omega) l6 _).low (by omega), hry, x1.set (by omega) _⟩
      · have f2 : ((k : Int) > 0) = False := eq_false (by omega)
        repeat' first
          | (with_reducible first | refine Jj (fun K hK => ?_) | refine Qz ?_ | refine Qj ?_ | refine Jg ?_ | refine Jz ?_)
          | (with_reducible refine Qn (fun hc => ?_) (fun hc => ?_) <;> (try simp only [RC] at hc) <;> (try (exfalso; first | omega | contradiction)))
          | (simp only [Q4, Jo, reduceIte, J0])
          | ((with_reducible refine hK _ _ ?_); clear hK)
          | (clear hK; (with_reducible refine hK _ _ ?_); clear hK)
          | (simp only [Q3, RA, Jn, Jm, Jp, Q2, Q0, ev, ofValue, Jt, J0, J3, J2, J4, reduceCtorEq, reduceIte, Ju, Qb, Qa, Jy, aun, Q9, Jk, Jh, Jx, Jw, Ji, Q8, Jf, Q1, Jr, Js, J1, J5, Ja, J9, Jb, J6, J7, Jd, J8, RB, Jv, Je, Zo, k2, k6, k7, k8, k10, hlen, w1, w2, f1, f2, q6, q8])
          | (simp (disch := first | omega | (simp only [RO]; done) | assumption) only [RS, X8, X9, Vp, Vq, Qu, Qv, Qq])
          | (simp (disch := (first | omega | (simp only [RO]; done) | assumption | (simp only [RM, Je]; done) | (simp only [RL, Je]; omega))) only [RD, reduceCtorEq, reduceIte, Je, J1, J3, J2, J6, Zo, k2, k6, k7, k8, k10, hlen, w1, w2, f1, f2, q6, q8])
        all_goals
          (
           (refine Qg (rs := [.cell 6 24]) rfl ?_)
           (simp only [Qx, Qd, Fr.put_some, Fr.put_none, Qe, Qf, Qi, J0, reduceIte, k6, Qk l6])
           (try simp (disch := (first | omega | (simp only [RO]; done) | assumption | (simp only [RM, Je]; done) | (simp only [RL, Je]; omega))) only [RD, reduceCtorEq, reduceIte, Je, J1, J3, J2, J6, Zo, k6, Qk l6]))
        all_goals exact ⟨k, b, ys, rfl, hk, (m.other (by omega) l6 _).low (by omega), hry, x1.set (by omega) _⟩
    · have f1 : (((i + k : Nat) : Int) ≤ (hs.length : Int)) = False := eq_false (by omega)
      repeat' first
        | (with_reducible first | refine Jj (fun K hK => ?_) | refine Qz ?_ | refine Qj ?_ | refine Jg ?_ | refine Jz ?_)
        | (with_reducible refine Qn (fun hc => ?_) (fun hc => ?_) <;> (try simp only [RC] at hc) <;> (try (exfalso; first | omega | contradiction)))
        | (simp only [Q4, Jo, reduceIte, J0])
        | ((with_reducible refine hK _ _ ?_); clear hK)
        | (clear hK; (with_reducible refine hK _ _ ?_); clear hK)
        | (simp only [Q3, RA, Jn, Jm, Jp, Q2, Q0, ev, ofValue, Jt, J0, J3, J2, J4, reduceCtorEq, reduceIte, Ju, Qb, Qa, Jy, aun, Q9, Jk, Jh, Jx, Jw, Ji, Q8, Jf, Q1, Jr, Js, J1, J5, Ja, J9, Jb, J6, J7, Jd, J8, RB, Jv, Je, Zo, k2, k6, k7, k8, k10, hlen, w1, w2, f1, q6, q8])
        | (simp (disch := first | omega | (simp only [RO]; done) | assumption) only [RS, X8, X9, Vp, Vq, Qu, Qv, Qq])
        | (simp (disch := (first | omega | (simp only [RO]; done) | assumption | (simp only [RM, Je]; done) | (simp only [RL, Je]; omega))) only [RD, reduceCtorEq, reduceIte, Je, J1, J3, J2, J6, Zo, k2, k6, k7, k8, k10, hlen, w1, w2, f1, q6, q8])
      all_goals
        (
         (refine Qg (rs := [.cell 6 24]) rfl ?_)
         (simp only [Qx, Qd, Fr.put_some, Fr.put_none, Qe, Qf, Qi, J0, reduceIte, k6, Qk l6])
         (try simp (disch := (first | omega | (simp only [RO]; done) | assumption | (simp only [RM, Je]; done) | (simp only [RL, Je]; omega))) only [RD, reduceCtorEq, reduceIte, Je, J1, J3, J2, J6, Zo, k6, Qk l6]))
      all_goals exact ⟨k, b, ys, rfl, hk, (m.other (by omega) l6 _).low (by omega), hry, x1.set (by omega) _⟩
end Go.Proofs.YtfalfmfkifemeaaGreatDoor
namespace Go.Proofs.YtfalfmfkifemeaaGreatDoor
open Go.AL Go.PW Go.PD
set_option maxRecDepth 8000
theorem WsV.len {H : Hp} {v : AV} {ls : List Int} {lo : Nat} (h : WsV H v ls lo) : Qy Tryz.prog .len #[38] [v] = some (.int .i64 (ls.length : Int)) := h.rd.len Wh
theorem WsV.ext {H H' : Hp} {v : AV} {ls : List Int} {lo : Nat} (h : WsV H v ls lo) (x : Ext H H') : WsV H' v ls lo := by
  rcases h with h | ⟨k, h1, h2, h3⟩
  · exact .inl h
  · exact .inr ⟨k, h1, Qh h2 x, h3⟩
end Go.Proofs.YtfalfmfkifemeaaGreatDoor
namespace Go.Proofs.YtfalfmfkifemeaaGreatDoor
open Go.AL Go.PW Go.PD
set_option maxRecDepth 8000
def DgUp (n : Nat) (w : Nat → Int) (i : Nat) (zs : List Int) : Prop := ∀ p q, p < n → q < n → ent n zs p q = if p = q ∧ p < i then w p else 0
theorem DgUp.zero {n : Nat} (w : Nat → Int) : DgUp n w 0 (List.replicate (n * (n + 1) / 2) 0) := fun p q _ _ => by rw [if_neg (by omega), Wk]
theorem DgUp.step {n i : Nat} {w : Nat → Int} {zs : List Int} (h : DgUp n w i zs) (h8 : n ≤ 8) (hi : i < n) (hl : pl n i i < zs.length) : DgUp n w (i + 1) (zs.set (pl n i i) (w i)) := fun p q hp hq => by
  rw [Rh h8 hi hi hp hq hl, h p q hp hq]
  by_cases e : p = i ∧ q = i
  · rw [if_pos (by omega), if_pos (by omega), e.1]
  · rw [if_neg (by omega)]
    have : (p = q ∧ p < i) ↔ (p = q ∧ p < i + 1) := by omega
    simp only [this]
theorem DgUp.done {n : Nat} {w : Nat → Int} {zs : List Int} (h : DgUp n w n zs) : ∀ p q, p < n → q < n → ent n zs p q = if p = q then w p else 0 := fun p q hp hq => by
  rw [h p q hp hq]
  have : (p = q ∧ p < n) ↔ p = q := by omega
  simp only [this]
end Go.Proofs.YtfalfmfkifemeaaGreatDoor
namespace Go.Proofs.YtfalfmfkifemeaaGreatDoor
open Go.AL Go.PW Go.PD
set_option maxRecDepth 8000
abbrev S3 (n0 n1 n2 : Int) (a0 a1 a2 : AV) : Blk := ⟨[.int .i64 n0, a0, .int .i64 n1, a1, .int .i64 n2, a2], .own, 24⟩
end Go.Proofs.YtfalfmfkifemeaaGreatDoor
namespace Go.Proofs.YtfalfmfkifemeaaGreatDoor
open Go.AL Go.PW Go.PD
set_option maxRecDepth 8000
def BlkUp (n k : Nat) (xs ys : List Int) (i j : Nat) (zs : List Int) : Prop := ∀ x y, x < n + k → y < n + k → ent (n + k) zs x y = if x < n ∧ y < n then ent n xs x y else if n ≤ x ∧ n ≤ y ∧ Yb i j (x - n) (y - n) then ent k ys (x - n) (y - n) else 0
theorem BlkUp.row {n k i : Nat} {xs ys zs : List Int} (B : BlkUp n k xs ys i k zs) : BlkUp n k xs ys (i + 1) (i + 1) zs := fun x y hx hy => by
  rw [B x y hx hy]
  split
  · rfl
  · exact ite_congr (propext (by unfold Yb; omega)) (fun _ => rfl) (fun _ => rfl)
theorem BlkUp.step {n k i j : Nat} {xs ys zs : List Int} (B : BlkUp n k xs ys i j zs) (h8 : n + k ≤ 8) (hij : i ≤ j) (hj : j < k) (hl : pl (n + k) (n + i) (n + j) < zs.length) : BlkUp n k xs ys i (j + 1) (zs.set (pl (n + k) (n + i) (n + j)) (ent k ys i j)) := fun x y hx hy => by
  rw [Rh h8 (by omega) (by omega) hx hy hl, B x y hx hy]
  by_cases e : (x = n + i ∧ y = n + j) ∨ (x = n + j ∧ y = n + i)
  · rw [if_pos e, if_neg (by omega), if_pos (by unfold Yb; omega)]
    rcases e with ⟨rfl, rfl⟩ | ⟨rfl, rfl⟩
    · rw [Nat.add_sub_cancel_left, Nat.add_sub_cancel_left]
    · rw [Nat.add_sub_cancel_left, Nat.add_sub_cancel_left, Gi]
  · rw [if_neg e]
    split
    · rfl
    · exact ite_congr (propext (by unfold Yb; omega)) (fun _ => rfl) (fun _ => rfl)
theorem BlkUp.vals {n k : Nat} {xs ys zs : List Int} (B : BlkUp n k xs ys k k zs) :
    (∀ m, m ≤ n → P (ent (n + k) zs) m = P (ent n xs) m) ∧ (∀ m, m ≤ k → P (ent (n + k) zs) (n + m) = P (ent n xs) n * P (ent k ys) m) := by
  have h1 : ∀ m, m ≤ n → P (ent (n + k) zs) m = P (ent n xs) m := fun m hm => P_congr fun i j hi hj => by rw [B i j (by omega) (by omega), if_pos ⟨by omega, by omega⟩]
  refine ⟨h1, fun m hm => ?_⟩
  rw [P_block m (fun i j hi hj => by rw [B (n + i) j (by omega) (by omega), if_neg (by omega), if_neg (by omega)]), h1 n (Nat.le_refl _)]
  congr 1
  exact P_congr fun i j hi hj => by rw [B (n + i) (n + j) (by omega) (by omega), if_neg (by omega), if_pos ⟨by omega, by omega, by unfold Yb; omega⟩, Nat.add_sub_cancel_left, Nat.add_sub_cancel_left]
theorem BlkUp.pos {n k : Nat} {xs ys zs : List Int} (B : BlkUp n k xs ys k k zs) : Ks (ent (n + k) zs) (n + k) = (Ks (ent n xs) n && Ks (ent k ys) k) := by
  obtain ⟨h1, h2⟩ := B.vals
  rw [Bool.eq_iff_iff, Bool.and_eq_true, Gf, Gf, Gf]
  constructor
  · intro h
    have hn : ∀ m, m ≤ n → 0 < P (ent n xs) m := fun m hm => by rw [← h1 m hm]; exact h m (by omega)
    refine ⟨hn, fun m hm => ?_⟩
    have := h (n + m) (by omega)
    rw [h2 m hm] at this
    exact Int.lt_of_mul_lt_mul_left (a := P (ent n xs) n) (by rw [Int.mul_zero]; exact this) (Int.le_of_lt (hn n (Nat.le_refl _)))
  · rintro ⟨ha, hb⟩ m hm
    rcases Nat.lt_or_ge n m with h | h
    · obtain ⟨m', rfl⟩ : ∃ m', m = n + m' := ⟨m - n, by omega⟩
      rw [h2 m' (by omega)]
      exact Int.mul_pos (ha n (Nat.le_refl _)) (hb m' (by omega))
    · rw [h1 m h]; exact ha m h
end Go.Proofs.YtfalfmfkifemeaaGreatDoor

/- Part 3 of the proof of the law BoundTells: lemmas on the model's code, on this program's functions, on numbers. No condition. -/
import Derived.Test.YtfalfmfkifemeaaGreatDoorZBoundTellsab
import Derived.OpenShut
set_option linter.unusedVariables false
set_option linter.unusedSimpArgs false
open Nat renaming reduceEqDiff → J0, reduceLeDiff → J1, reduceMul → J2, reduceAdd → J3, reduceSub → J4, reduceLT → J5
open Int renaming reduceToNat → J6, reducePow → J7, reduceNeg → J8, reduceLT → J9, reduceLE → Ja, reduceEq → Jb
open And renaming intro → Jc
open Go.IntKind renaming bits → Jd
open Go.PW renaming dig_length → Je
namespace Go.Proofs.YtfalfmfkifemeaaGreatDoor
open Go.AL Go.PW Go.PD
theorem tf7LnD : type_of% (Jc @Z8 (Jc @Xd (Jc @Xz (Jc @tyb5 (Jc @Xx (Jc @Xw (Jc @Xv (Jc @Rv (Jc @Ru (Jc @tyb30 (Jc @Yd (Jc @Yc (Jc @tyb63 (Jc @tyb64 (Jc @Rt (@cv25_2)))))))))))))))) := Jc @Z8 (Jc @Xd (Jc @Xz (Jc @tyb5 (Jc @Xx (Jc @Xw (Jc @Xv (Jc @Rv (Jc @Ru (Jc @tyb30 (Jc @Yd (Jc @Yc (Jc @tyb63 (Jc @tyb64 (Jc @Rt (@cv25_2)))))))))))))))
abbrev pn7_5LnD : Plan := (.one 0 (.one 1 (.one 2 (.one 3 (.one 7 (.ext 4 (.one 5 (.one 6 .nil))))))))
abbrev pn7_11LnD : Plan := (.one 0 (.one 1 (.one 2 (.one 4 (.one 5 (.one 6 (.ext 3 (.one 7 (.one 8 (.one 9 (.one 10 (.one 11 (.one 12 (.one 14 (.one 15 (.one 16 (.ext 13 (.one 17 (.one 18 (.one 19 (.one 20 (.one 21 (.one 22 (.one 23 (.one 24 (.one 25 (.one 27 (.one 28 (.one 29 (.one 30 (.one 31 (.ext 26 (.one 32 (.one 33 (.one 34 (.one 35 .nil))))))))))))))))))))))))))))))))))))
set_option maxRecDepth 8000
abbrev S2 (n0 n1 : Int) (a0 a1 : AV) : Blk := ⟨[.int .i64 n0, a0, .int .i64 n1, a1], .own, 24⟩
theorem S2_get {H : Hp} {p : Nat} {n0 n1 : Int} {a0 a1 : AV} (hg : Qt H p = some (S2 n0 n1 a0 a1)) (i : Nat) (hi : i < 2) :
    Yq Tryz.prog H 24 (.ptr p (i * 2)) = some (Ya (if i = 0 then n0 else n1) (if i = 0 then a0 else a1)) := by
  rw [Uz, hg]
  simp only [agg24, size24]
  match i, hi with
  | 0, _ => rfl
  | 1, _ => rfl
abbrev A3 (k0 l0 k1 l1 k2 l2 : Int) : Blk := ⟨[.int .i64 k0, .int .i64 l0, .int .i64 k1, .int .i64 l1, .int .i64 k2, .int .i64 l2], .own, 63⟩
theorem A3_get {H : Hp} {p : Nat} {k0 l0 k1 l1 k2 l2 : Int} (hg : Qt H p = some (A3 k0 l0 k1 l1 k2 l2)) (i : Nat) (hi : i < 3) :
    Yq Tryz.prog H 63 (.ptr p (i * 2)) = some (.agg [.int .i64 (if i = 0 then k0 else if i = 1 then k1 else k2), .int .i64 (if i = 0 then l0 else if i = 1 then l1 else l2)]) := by
  rw [Uz, hg]
  simp only [agg63, size63]
  match i, hi with
  | 0, _ => rfl
  | 1, _ => rfl
  | 2, _ => rfl
theorem bld_pair (x y : Int) : Va Tryz.prog 63 [(0, .int .i64 x), (1, .int .i64 y)] = some (.agg [.int .i64 x, .int .i64 y]) := by
  unfold Va Nc
  simp only [zero63, und63, W3]
  rfl
theorem says9_betw (n : Nat) (xs : List Int) (k l : Int) (v : AV) (H : Hp) (h : BetwR n xs k l v H) (hN : Noted H) : ACalls Tryz.prog 34 [v, .int .i64 (betwN n xs k l)] H fun r H' => r = .bool true ∧ H = H' := by
  unfold BetwR at h
  unfold betwN
  cases h1 : U8 n xs k <;> rw [h1] at h
  · exact says9_err 30 30 v H h hN (by decide) (by decide)
  · cases h2 : Ww n xs l <;> rw [h2] at h
    · exact says9_err 31 31 v H h hN (by decide) (by decide)
    · obtain rfl : v = .nilI := h
      exact says9_nil H
theorem BetwR.one {n : Nat} {xs : List Int} {k l : Int} {v : AV} {H : Hp} (h : BetwR n xs k l v H) : v.one = true := by
  unfold BetwR at h
  split at h
  · obtain ⟨_, rfl, _⟩ := h; rfl
  · split at h
    · obtain ⟨_, rfl, _⟩ := h; rfl
    · rw [h]; rfl
set_option maxHeartbeats 16000000 in
theorem boundTells_calls (rn : Int) (rs : List Int) (ra : AV) (n dg : Int) (hs : List Int) (c : AV) (k l : Int) (H : Hp) (hN : Noted H) (hra : Ints H .i64 ra rs) (hn : 0 ≤ n ∧ n ≤ 255) (hdg : 0 ≤ dg ∧ dg ≤ 65535) (hh : Ints H .i16 c hs) (hk : -9223372036854775808 ≤ k ∧ k ≤ 9223372036854775807) (hl : -9223372036854775808 ≤ l ∧ l ≤ 9223372036854775807) : ACalls Tryz.prog 7 [Ya rn ra, .int .u8 n, .int .u16 dg, c, .int .i64 k, .int .i64 l] H fun r H' => r = .bool true ∧ H = H' := by
  refine ACalls.drop (R := fun r => r = .bool true) ?_
  have hlen := hh.rd.len K8
  have hrlen := hra.rd.len Ym
  have ra1 : ra.one = true := hra.rd.one
  have hcr : ra.cells = [ra] := AV.cells_one ra1
  by_cases h60 : (rs.length : Int) > 60
  · have f60 : ((rs.length : Int) > 60) = True := eq_true h60
    refine Q7 Tryz.func7 rfl (by kernel_rfl) (by kernel_rfl) ?_
    repeat' first
      | (with_reducible first | refine Jj (fun K hK => ?_) | refine Q6 ?_ | refine Qj ?_ | refine Jg ?_ | refine Jz ?_)
      | ((with_reducible refine Jq (known9_calls _ (hN.ext (Ext.push _ _))) ?_); rintro _ _ ⟨rfl, rfl⟩)
      | (with_reducible refine Qn (fun hc => ?_) (fun hc => ?_) <;> (try simp only [RC] at hc) <;> (try (exfalso; first | omega | contradiction)))
      | (simp only [Q4, Jo, reduceIte, J0])
      | ((with_reducible refine hK _ _ ?_); clear hK)
      | (simp only [Q3, RA, Jn, Jm, Jp, Q2, Q0, ev, ofValue, Jt, J0, J3, J2, J4, reduceCtorEq, reduceIte, Ju, Qb, Qa, Jy, aun, Q9, Jk, Jh, Jx, Jw, Ji, Q8, Jf, Q1, Jr, Js, J1, J5, Ja, J9, Jb, J6, J7, Jd, J8, RB, Jv, Je, tf7LnD, hrlen, f60])
      | (simp (disch := first | omega | (simp only [RO]; done) | assumption) only [RS, X8, X9, Vp, Vq, six30, gix30, six64, gix64, idx63, slh63, Qu, Qv, Qq])
      | (simp (disch := (first | omega | (simp only [RO]; done) | assumption | (simp only [RM, Je]; done) | (simp only [RL, Je]; omega))) only [RD, reduceCtorEq, reduceIte, Je, J1, J3, J2, J6, tf7LnD, hrlen, f60])
    all_goals
      (
       (refine Qg (rs := [.tmp 12]) rfl ?_)
       (simp only [Qx, Qd, Fr.put_some, Fr.put_none, Qe, Qf, Qi, J0, reduceIte])
       (try simp (disch := (first | omega | (simp only [RO]; done) | assumption | (simp only [RM, Je]; done) | (simp only [RL, Je]; omega))) only [RD, reduceCtorEq, reduceIte, Je, J1, J3, J2, J6, tf7LnD]))
    all_goals exact ⟨Ext.push _ _, trivial⟩
  have f60 : ((rs.length : Int) > 60) = False := eq_false h60
  by_cases g60 : (hs.length : Int) > 60
  · have f61 : ((hs.length : Int) > 60) = True := eq_true g60
    refine Q7 Tryz.func7 rfl (by kernel_rfl) (by kernel_rfl) ?_
    repeat' first
      | (with_reducible first | refine Jj (fun K hK => ?_) | refine Q6 ?_ | refine Qj ?_ | refine Jg ?_ | refine Jz ?_)
      | ((with_reducible refine Jq (known9_calls _ (hN.ext (Ext.push _ _))) ?_); rintro _ _ ⟨rfl, rfl⟩)
      | (with_reducible refine Qn (fun hc => ?_) (fun hc => ?_) <;> (try simp only [RC] at hc) <;> (try (exfalso; first | omega | contradiction)))
      | (simp only [Q4, Jo, reduceIte, J0])
      | ((with_reducible refine hK _ _ ?_); clear hK)
      | (simp only [Q3, RA, Jn, Jm, Jp, Q2, Q0, ev, ofValue, Jt, J0, J3, J2, J4, reduceCtorEq, reduceIte, Ju, Qb, Qa, Jy, aun, Q9, Jk, Jh, Jx, Jw, Ji, Q8, Jf, Q1, Jr, Js, J1, J5, Ja, J9, Jb, J6, J7, Jd, J8, RB, Jv, Je, tf7LnD, hrlen, hlen, f60, f61])
      | (simp (disch := first | omega | (simp only [RO]; done) | assumption) only [RS, X8, X9, Vp, Vq, six30, gix30, six64, gix64, idx63, slh63, Qu, Qv, Qq])
      | (simp (disch := (first | omega | (simp only [RO]; done) | assumption | (simp only [RM, Je]; done) | (simp only [RL, Je]; omega))) only [RD, reduceCtorEq, reduceIte, Je, J1, J3, J2, J6, tf7LnD, hrlen, hlen, f60, f61])
    all_goals
      (
       (refine Qg (rs := [.tmp 12]) rfl ?_)
       (simp only [Qx, Qd, Fr.put_some, Fr.put_none, Qe, Qf, Qi, J0, reduceIte])
       (try simp (disch := (first | omega | (simp only [RO]; done) | assumption | (simp only [RM, Je]; done) | (simp only [RL, Je]; omega))) only [RD, reduceCtorEq, reduceIte, Je, J1, J3, J2, J6, tf7LnD]))
    all_goals exact ⟨Ext.push _ _, trivial⟩
  have f61 : ((hs.length : Int) > 60) = False := eq_false g60
  refine Q7 Tryz.func7 rfl (by kernel_rfl) (by kernel_rfl) ?_
  refine Jj (fun K hQ => ?_)
  repeat' first
    | (with_reducible first | refine Jj (fun K hK => ?_) | refine Q6 ?_ | refine Jg ?_ | refine Jz ?_)
    | ((with_reducible refine Jq (known9_calls _ (hN.ext (Ext.push _ _))) ?_); rintro _ _ ⟨rfl, rfl⟩)
    | (with_reducible refine Qn (fun hc => ?_) (fun hc => ?_) <;> (try simp only [RC] at hc) <;> (try (exfalso; first | omega | contradiction)))
    | (simp only [Q4, Jo, reduceIte, J0])
    | ((with_reducible refine hK _ _ ?_); clear hK)
    | (simp only [Q3, RA, Jn, Jm, Jp, Q2, Q0, ev, ofValue, Jt, J0, J3, J2, J4, reduceCtorEq, reduceIte, Ju, Qb, Qa, Jy, aun, Q9, Jk, Jh, Jx, Jw, Ji, Q8, Jf, Q1, Jr, Js, J1, J5, Ja, J9, Jb, J6, J7, Jd, J8, RB, Jv, Je, tf7LnD, hrlen, hlen, f60, f61])
    | (simp (disch := first | omega | (simp only [RO]; done) | assumption) only [RS, X8, X9, Vp, Vq, six30, gix30, six64, gix64, idx63, slh63, Qu, Qv, Qq])
    | (simp (disch := (first | omega | (simp only [RO]; done) | assumption | (simp only [RM, Je]; done) | (simp only [RL, Je]; omega))) only [RD, reduceCtorEq, reduceIte, Je, J1, J3, J2, J6, tf7LnD, hrlen, hlen, f60, f61])
  refine hQ _ _ ?_
  clear hQ
  refine Jj (fun K hQ => ?_)
  repeat' first
    | (with_reducible first | refine Jj (fun K hK => ?_) | refine Q6 ?_ | refine Jg ?_ | refine Jz ?_)
    | ((with_reducible refine Jq (known9_calls _ (hN.ext (Ext.push _ _))) ?_); rintro _ _ ⟨rfl, rfl⟩)
    | (with_reducible refine Qn (fun hc => ?_) (fun hc => ?_) <;> (try simp only [RC] at hc) <;> (try (exfalso; first | omega | contradiction)))
    | (simp only [Q4, Jo, reduceIte, J0])
    | ((with_reducible refine hK _ _ ?_); clear hK)
    | (simp only [Q3, RA, Jn, Jm, Jp, Q2, Q0, ev, ofValue, Jt, J0, J3, J2, J4, reduceCtorEq, reduceIte, Ju, Qb, Qa, Jy, aun, Q9, Jk, Jh, Jx, Jw, Ji, Q8, Jf, Q1, Jr, Js, J1, J5, Ja, J9, Jb, J6, J7, Jd, J8, RB, Jv, Je, tf7LnD, hrlen, hlen, f60, f61])
    | (simp (disch := first | omega | (simp only [RO]; done) | assumption) only [RS, X8, X9, Vp, Vq, six30, gix30, six64, gix64, idx63, slh63, Qu, Qv, Qq])
    | (simp (disch := (first | omega | (simp only [RO]; done) | assumption | (simp only [RM, Je]; done) | (simp only [RL, Je]; omega))) only [RD, reduceCtorEq, reduceIte, Je, J1, J3, J2, J6, tf7LnD, hrlen, hlen, f60, f61])
  refine hQ _ _ ?_
  clear hQ
  refine Jj (fun K hQ => ?_)
  repeat' first
    | (with_reducible first | refine Jj (fun K hK => ?_) | refine Q6 ?_ | refine Jg ?_ | refine Jz ?_)
    | ((with_reducible refine Jq (known9_calls _ (hN.ext (Ext.push _ _))) ?_); rintro _ _ ⟨rfl, rfl⟩)
    | (with_reducible refine Qn (fun hc => ?_) (fun hc => ?_) <;> (try simp only [RC] at hc) <;> (try (exfalso; first | omega | contradiction)))
    | (simp only [Q4, Jo, reduceIte, J0])
    | ((with_reducible refine hK _ _ ?_); clear hK)
    | (simp only [Q3, RA, Jn, Jm, Jp, Q2, Q0, ev, ofValue, Jt, J0, J3, J2, J4, reduceCtorEq, reduceIte, Ju, Qb, Qa, Jy, aun, Q9, Jk, Jh, Jx, Jw, Ji, Q8, Jf, Q1, Jr, Js, J1, J5, Ja, J9, Jb, J6, J7, Jd, J8, RB, Jv, Je, tf7LnD, hrlen, hlen, f60, f61])
    | (simp (disch := first | omega | (simp only [RO]; done) | assumption) only [RS, X8, X9, Vp, Vq, six30, gix30, six64, gix64, idx63, slh63, Qu, Qv, Qq])
    | (simp (disch := (first | omega | (simp only [RO]; done) | assumption | (simp only [RM, Je]; done) | (simp only [RL, Je]; omega))) only [RD, reduceCtorEq, reduceIte, Je, J1, J3, J2, J6, tf7LnD, hrlen, hlen, f60, f61])
  refine hQ _ _ ?_
  clear hQ
  obtain ⟨H0, hH0⟩ : ∃ H0, H0 = H ++ [Sb rn ra] := ⟨_, rfl⟩
  have y0 : Ext H H0 := by rw [hH0]; exact Ext.push _ _
  refine Jj (fun K2 hK2 => ?_)
  refine Jj (fun K3 hK3 => ?_)
  refine Z6 (fun fr' H1 => ∃ (q m : Nat) (b : AV) (ys : List Int), fr' 2 = .int .u16 dg ∧ fr' 4 = .int .i64 k ∧ fr' 5 = .int .i64 l ∧ fr' 33 = .sl q 0 2 2 ∧ fr' 34 = .int .i64 2 ∧ fr' 35 = .int .i64 0 ∧ Qt H1 q = some (S2 rn m ra b) ∧ Ints H1 .i64 b ys ∧ Right m ys ∧ Ext H0 H1) ?_ (fun fr' H1 h => hK3 _ _ ?_)
  · clear hK3 hK2
    repeat' first
      | (with_reducible first | refine Qw (id := 5) [4] pn7_5LnD (by kernel_rfl) (by kernel_rfl) ?_ | refine Z1 ?_)
      | (simp only [Q3, RA, Jn, Jm, Jp, Q2, Q0, ev, ofValue, Jt, J0, J3, J2, J4, reduceCtorEq, reduceIte, Ju, Qb, Qa, Jy, aun, Q9, Jk, Jh, Jx, Jw, Ji, Q8, Jf, Q1, Jr, Js, J1, J5, Ja, J9, Jb, J6, J7, Jd, J8, RB, Jv, Je, tf7LnD])
      | (simp (disch := (first | omega | (simp only [RO]; done) | assumption | (simp only [RM, Je]; done) | (simp only [RL, Je]; omega))) only [RD, reduceCtorEq, reduceIte, Je, J1, J3, J2, J6, tf7LnD])
    all_goals
      refine Xi (Sym_calls n dg hs c _ hn hdg (hh.push _) (by omega)) ?_
      rintro _ H2 ⟨m, b, ys, rfl, _, M, hr, x2⟩
      refine ⟨x2, ?_⟩
      rw [← hH0] at x2
      have hb1 := M.one
      have hcb : b.cells = [b] := AV.cells_one hb1
      repeat' first
        | (simp only [Q4, Jo, reduceIte, J0])
        | (simp only [Q3, RA, Jn, Jm, Jp, Q2, Q0, ev, ofValue, Jt, J0, J3, J2, J4, reduceCtorEq, reduceIte, Ju, Qb, Qa, Jy, aun, Q9, Jk, Jh, Jx, Jw, Ji, Q8, Jf, Q1, Jr, Js, J1, J5, Ja, J9, Jb, J6, J7, Jd, J8, RB, Jv, Je, tf7LnD, ra1, hb1, Bool.and_self])
    all_goals exact ⟨H2.length, m, b, ys, rfl, by first | exact Qo rfl | rw [if_pos rfl], M.ints.push _, hr, x2.pushed _⟩
  clear hK3
  obtain ⟨q, m, b, ys, k2, k4, k5, k33, k34, k35, gq, I1, hr1, x1⟩ := h
  have hb1 : b.one = true := I1.rd.one
  have hcb : b.cells = [b] := AV.cells_one hb1
  have hly := hr1.len.2
  have R1 : Ints H1 .i64 ra rs := (hra.ext y0).ext x1
  have hN1 := (hN.ext y0).ext x1
  have yA : Ext H H1 := y0.trans x1
  repeat' first
    | (with_reducible first | refine Qc ?_)
  refine X2 (fun t fr' H5 => ∃ i : Nat, t = 2 - i ∧ i ≤ 2 ∧ fr' 2 = .int .u16 dg ∧ fr' 4 = .int .i64 k ∧ fr' 5 = .int .i64 l ∧ fr' 33 = .sl q 0 2 2 ∧ fr' 34 = .int .i64 2 ∧ fr' 35 = .int .i64 (i : Int) ∧ Ext H1 H5) (m := 2)
    ⟨0, rfl, by omega, k2, k4, k5, k33, k34, k35, Ext.refl _⟩ ?_
  clear k2 k4 k5 k33 k34 k35
  rintro t fr' H5 ⟨i, rfl, hi, k2, k4, k5, k33, k34, k35, x5⟩
  have e1 : IntKind.i64.wrap ((i : Int) + 1) = ((i + 1 : Nat) : Int) := by rw [Q5 (by omega) (by omega)]; omega
  by_cases hlt : i < 2
  · have hga := S2_get (Qh gq x5) i hlt
    obtain ⟨m', hm⟩ : ∃ m', m' = (if i = 0 then rn else (m : Int)) := ⟨_, rfl⟩
    obtain ⟨a, ha⟩ : ∃ a, a = (if i = 0 then ra else b) := ⟨_, rfl⟩
    obtain ⟨xs, hxs⟩ : ∃ xs, xs = (if i = 0 then rs else ys) := ⟨_, rfl⟩
    rw [← hm, ← ha] at hga
    have I : Ints H5 .i64 a xs := by
      rw [ha, hxs]
      split
      · exact R1.ext x5
      · exact I1.ext x5
    have hlx : xs.length < 1000000 := by
      rw [hxs]
      split
      · omega
      · exact hly
    clear hm ha hxs
    have ha1 : a.one = true := I.rd.one
    have hca : a.cells = [a] := AV.cells_one ha1
    have hN5 := hN1.ext x5
    have hx0 : X3 Tryz.prog 30 (.sl q 0 2 2) (.int .i64 (i : Int)) = some (.ptr q (i * 2)) := by
      have h := at_sl J0b size24 (h := q) (o := 0) (n := 2) (c := 2) (l := .i64) (j := (i : Int)) (by omega) (by omega)
      rw [Int.toNat_natCast, Nat.zero_add] at h
      exact h
    have f2 : ((i : Int) < 2) = True := eq_true (by omega)
    have w1 : dg.tmod 5000 = dg % 5000 := Int.tmod_eq_emod_of_nonneg hdg.1
    have w2 : IntKind.i64.wrap (dg % 5000) = dg % 5000 := Q5 (by omega) (by omega)
    have w3 : IntKind.i64.wrap (dg % 5000 - 1) = dg % 5000 - 1 := Q5 (by omega) (by omega)
    obtain ⟨k1, hk1⟩ : ∃ k1, k1 = bits .and .i64 k 1023 := ⟨_, rfl⟩
    obtain ⟨l1, hl1⟩ : ∃ l1, l1 = bits .and .i64 l 16777215 := ⟨_, rfl⟩
    have hk1r := wf_i64 (Go.wf_bits .and .i64 k 1023)
    have hl1r := wf_i64 (Go.wf_bits .and .i64 l 16777215)
    rw [← hk1] at hk1r
    rw [← hl1] at hl1r
    have hz2 : (Go.PW.dig 2 0).map (AV.int .i64) = [.int .i64 0, .int .i64 0] := rfl
    refine Jj (fun K hQ => ?_)
    repeat' first
      | (with_reducible first | refine Q6 ?_ | refine Jg ?_ | refine Jz ?_)
      | (simp only [Q4, Jo, reduceIte, J0])
      | (simp only [Q3, RA, Jn, Jm, Jp, Q2, Q0, ev, ofValue, Jt, J0, J3, J2, J4, reduceCtorEq, reduceIte, Ju, Qb, Qa, Jy, aun, Q9, Jk, Jh, Jx, Jw, Ji, Q8, Jf, Q1, Jr, Js, J1, J5, Ja, J9, Jb, J6, J7, Jd, J8, RB, Jv, Je, tf7LnD, k33, k34, k35, f2])
    refine hQ _ _ ?_
    clear hQ
    refine Jj (fun K hQ => ?_)
    repeat' first
      | (with_reducible first | refine Q6 ?_ | refine Jg ?_ | refine Jz ?_)
      | (simp only [Q4, Jo, reduceIte, J0])
      | (simp only [Q3, RA, Jn, Jm, Jp, Q2, Q0, ev, ofValue, Jt, J0, J3, J2, J4, reduceCtorEq, reduceIte, Ju, Qb, Qa, Jy, aun, Q9, Jk, Jh, Jx, Jw, Ji, Q8, Jf, Q1, Jr, Js, J1, J5, Ja, J9, Jb, J6, J7, Jd, J8, RB, Jv, Je, tf7LnD, k33, k34, k35, f2])
    refine hQ _ _ ?_
    clear hQ
    refine Jj (fun K6 hK6 => ?_)
    refine Qc ?_
    repeat' first
      | (with_reducible first | refine Jj (fun K hK => ?_) | refine Qc ?_ | refine Jg ?_)
      | (simp only [Q4, Jo, reduceIte, J0])
      | ((with_reducible refine hK _ _ ?_); clear hK)
      | (simp only [Q3, RA, Jn, Jm, Jp, Q2, Q0, ev, ofValue, Jt, J0, J3, J2, J4, reduceCtorEq, reduceIte, Ju, Qb, Qa, Jy, aun, Q9, Jk, Jh, Jx, Jw, Ji, Q8, Jf, Q1, Jr, Js, J1, J5, Ja, J9, Jb, J6, J7, Jd, J8, RB, Jv, Je, tf7LnD, k2, k4, k5, k33, k34, k35, hx0, hga, w1, w2, w3, ← hk1, ← hl1, bld_pair, hz2, List.cons_append, List.nil_append, List.drop_succ_cons, List.drop_zero, List.length_cons, List.length_nil, List.all_cons, List.all_nil, AV.one_int, Bool.and_self])
      | (simp (disch := first | omega | (simp only [RO]; done) | assumption) only [RS, X8, X9, Vp, Vq, six30, gix30, six64, gix64, idx63, slh63, Qu, Qv, Qq])
      | (simp (disch := (first | omega | (simp only [RO]; done) | assumption | (simp only [RM, Je]; done) | (simp only [RL, Je]; omega))) only [RD, reduceCtorEq, reduceIte, Je, J1, J3, J2, J6, tf7LnD, k2, k4, k5, k33, k34, k35, hx0, hga, w1, w2, w3, ← hk1, ← hl1, bld_pair, hz2, List.cons_append, List.nil_append, List.drop_succ_cons, List.drop_zero, List.length_cons, List.length_nil, List.all_cons, List.all_nil, AV.one_int, Bool.and_self])
    obtain ⟨H6, hH6⟩ : ∃ H6, H6 = H5 ++ [Sb m' a] ++ [A3 k l k1 l1 (dg % 5000 - 1) 268435456] := ⟨_, rfl⟩
    have x56 : Ext H5 H6 := by rw [hH6]; exact (Ext.push _ _).pushed _
    have qp : Qt H6 (H5.length + 1) = some (A3 k l k1 l1 (dg % 5000 - 1) 268435456) := by rw [hH6]; exact Qo (by rw [Qm])
    have q14 : Qt H6 H5.length = some (Sb m' a) := by rw [hH6, Qp (by rw [Qm]; omega)]; exact Qo rfl
    refine X2 (fun t fr' H7 => ∃ j : Nat, t = 3 - j ∧ j ≤ 3 ∧ fr' 2 = .int .u16 dg ∧ fr' 4 = .int .i64 k ∧ fr' 5 = .int .i64 l ∧ fr' 14 = .ptr H5.length 0 ∧ fr' 33 = .sl q 0 2 2 ∧ fr' 34 = .int .i64 2 ∧ fr' 35 = .int .i64 (i : Int) ∧ fr' 52 = .sl (H5.length + 1) 0 3 3 ∧ fr' 53 = .int .i64 3 ∧ fr' 54 = .int .i64 (j : Int) ∧ Ext H6 H7) (m := 3)
      ⟨0, rfl, by omega, k2, k4, k5, rfl, k33, k34, k35, rfl, rfl, rfl, by rw [hH6]; exact Ext.refl _⟩ ?_
    clear k2 k4 k5 k33 k34 k35
    rintro t fr' H7 ⟨j, rfl, hj, k2, k4, k5, k14, k33, k34, k35, k52, k53, k54, x7⟩
    have e2 : IntKind.i64.wrap ((j : Int) + 1) = ((j + 1 : Nat) : Int) := by rw [Q5 (by omega) (by omega)]; omega
    by_cases hjt : j < 3
    · have hpa := A3_get (Qh qp x7) j hjt
      have q147 := Qh q14 x7
      obtain ⟨p0, hp0⟩ : ∃ p0, p0 = (if j = 0 then k else if j = 1 then k1 else dg % 5000 - 1) := ⟨_, rfl⟩
      obtain ⟨p1, hp1⟩ : ∃ p1, p1 = (if j = 0 then l else if j = 1 then l1 else 268435456) := ⟨_, rfl⟩
      rw [← hp0, ← hp1] at hpa
      have b0 : -9223372036854775808 ≤ p0 ∧ p0 ≤ 9223372036854775807 := by
        rw [hp0]; split
        · exact hk
        · split
          · exact hk1r
          · omega
      have b1 : -9223372036854775808 ≤ p1 ∧ p1 ≤ 9223372036854775807 := by
        rw [hp1]; split
        · exact hl
        · split
          · exact hl1r
          · omega
      clear hp0 hp1
      have f3 : ((j : Int) < 3) = True := eq_true (by omega)
      have hx1 : X3 Tryz.prog 64 (.sl (H5.length + 1) 0 3 3) (.int .i64 (j : Int)) = some (.ptr (H5.length + 1) (j * 2)) := by
        have h := at_sl J1u size63 (h := H5.length + 1) (o := 0) (n := 3) (c := 3) (l := .i64) (j := (j : Int)) (by omega) (by omega)
        rw [Int.toNat_natCast, Nat.zero_add] at h
        exact h
      have I7 := (I.ext x56).ext x7
      have N7 := (hN5.ext x56).ext x7
      obtain ⟨H8, hH8⟩ : ∃ H8, H8 = H7 ++ [⟨[.int .i64 p0, .int .i64 p1], .own, 63⟩] := ⟨_, rfl⟩
      have x78 : Ext H7 H8 := by rw [hH8]; exact Ext.push _ _
      have q148 := Qh q147 x78
      have q16 : Qt H8 H7.length = some ⟨[.int .i64 p0, .int .i64 p1], .own, 63⟩ := by rw [hH8]; exact Qo rfl
      refine Jj (fun K hQ => ?_)
      repeat' first
        | (with_reducible first | refine Q6 ?_ | refine Jg ?_ | refine Jz ?_)
        | (simp only [Q4, Jo, reduceIte, J0])
        | (simp only [Q3, RA, Jn, Jm, Jp, Q2, Q0, ev, ofValue, Jt, J0, J3, J2, J4, reduceCtorEq, reduceIte, Ju, Qb, Qa, Jy, aun, Q9, Jk, Jh, Jx, Jw, Ji, Q8, Jf, Q1, Jr, Js, J1, J5, Ja, J9, Jb, J6, J7, Jd, J8, RB, Jv, Je, tf7LnD, k53, k54, f3])
      refine hQ _ _ ?_
      clear hQ
      refine Jj (fun K hQ => ?_)
      repeat' first
        | (with_reducible first | refine Q6 ?_ | refine Jg ?_ | refine Jz ?_)
        | (simp only [Q4, Jo, reduceIte, J0])
        | (simp only [Q3, RA, Jn, Jm, Jp, Q2, Q0, ev, ofValue, Jt, J0, J3, J2, J4, reduceCtorEq, reduceIte, Ju, Qb, Qa, Jy, aun, Q9, Jk, Jh, Jx, Jw, Ji, Q8, Jf, Q1, Jr, Js, J1, J5, Ja, J9, Jb, J6, J7, Jd, J8, RB, Jv, Je, tf7LnD, k53, k54, f3])
      refine hQ _ _ ?_
      clear hQ
      refine Jj (fun K7 hK7 => ?_)
      refine Qc ?_
      refine Jj (fun K8zz hK8 => ?_)
      repeat' first
        | (with_reducible first | refine Jg ?_)
        | (simp only [Q4, Jo, reduceIte, J0])
        | (simp only [Q3, RA, Jn, Jm, Jp, Q2, Q0, ev, ofValue, Jt, J0, J3, J2, J4, reduceCtorEq, reduceIte, Ju, Qb, Qa, Jy, aun, Q9, Jk, Jh, Jx, Jw, Ji, Q8, Jf, Q1, Jr, Js, J1, J5, Ja, J9, Jb, J6, J7, Jd, J8, RB, Jv, Je, tf7LnD, k2, k4, k5, k14, k33, k34, k35, k52, k53, k54, hx1, hpa])
        | (simp (disch := (first | omega | (simp only [RO]; done) | assumption | (simp only [RM, Je]; done) | (simp only [RL, Je]; omega))) only [RD, reduceCtorEq, reduceIte, Je, J1, J3, J2, J6, tf7LnD, k2, k4, k5, k14, k33, k34, k35, k52, k53, k54, hx1, hpa])
      refine hK8 _ _ ?_
      rw [← hH8]
      clear hK8
      have I8 := I7.ext x78
      have N8zz := N7.ext x78
      by_cases hr : Right m' xs
      · obtain ⟨n', rfl, h8, _⟩ := hr.nat
        have B1 := fun H0 (x0 : Ext H8 H0) => Least_calls n' xs a p0 H0 (I8.ext x0) hr b0
        have B2 := fun H0 (x0 : Ext H8 H0) => RLeast_calls n' xs a p0 H0 (I8.ext x0) hr b0
        have B3 := fun H0 (x0 : Ext H8 H0) => Most_calls n' xs a p1 H0 (I8.ext x0) hr b1
        have B4 := fun H0 (x0 : Ext H8 H0) => RMost_calls n' xs a p1 H0 (I8.ext x0) hr b1
        have B1' := B1 H8 (Ext.refl _)
        have B2' := B2 H8 (Ext.refl _)
        have B3' := B3 H8 (Ext.refl _)
        have B4' := B4 H8 (Ext.refl _)
        repeat' first
          | (with_reducible first | refine Jj (fun K hK => ?_) | refine Qw (id := 11) [3, 13, 26] pn7_11LnD (by kernel_rfl) (by kernel_rfl) ?_ | refine Z1 ?_)
          | (with_reducible refine Nv (B1') ?_)
          | (with_reducible refine Nv (B3') ?_)
          | ((with_reducible refine Jq (B2') ?_); rintro _ _ ⟨rfl, rfl⟩)
          | ((with_reducible refine Jq (B4') ?_); rintro _ _ ⟨rfl, rfl⟩)
          | (simp only [Q3, RA, Jn, Jm, Jp, Q2, Q0, ev, ofValue, Jt, J0, J3, J2, J4, reduceCtorEq, reduceIte, Ju, Qb, Qa, Jy, aun, Q9, Jk, Jh, Jx, Jw, Ji, Q8, Jf, Q1, Jr, Js, J1, J5, Ja, J9, Jb, J6, J7, Jd, J8, RB, Jv, Je, tf7LnD, k14, q148, q16])
          | (simp (disch := first | omega | (simp only [RO]; done) | assumption) only [RS, X8, X9, Vp, Vq, six30, gix30, six64, gix64, idx63, slh63, Qu, Qv, Qq])
          | (simp (disch := (first | omega | (simp only [RO]; done) | assumption | (simp only [RM, Je]; done) | (simp only [RL, Je]; omega))) only [RD, reduceCtorEq, reduceIte, Je, J1, J3, J2, J6, tf7LnD, k14, q148, q16])
        all_goals
          refine Xi (Between_calls n' xs a p0 p1 H8 I8 hr b0 b1) ?_
          rintro w H9 ⟨E, x9⟩
          refine ⟨x9, ?_⟩
          have ow : w.one = true := E.one
          have q149 := Qh q148 x9
          have q169 := Qh q16 x9
          have RB := fun H0 (x0 : Ext H9 H0) => RBetween_calls n' xs a p0 p1 H0 ((I8.ext x9).ext x0) hr b0 b1
          have RB' := RB H9 (Ext.refl _)
          have SY := says9_betw n' xs p0 p1 w H9 E (N8zz.ext x9)
          skip
          repeat' first
            | (with_reducible first | refine Q6 ?_ | refine Jz ?_)
            | ((with_reducible refine Jq (RB') ?_); rintro _ _ ⟨rfl, rfl⟩)
            | ((with_reducible refine Jq (SY) ?_); rintro _ _ ⟨rfl, rfl⟩)
            | (simp only [Q4, Jo, reduceIte, J0])
            | ((with_reducible refine hK _ _ ?_); clear hK)
            | (simp only [Q3, RA, Jn, Jm, Jp, Q2, Q0, ev, ofValue, Jt, J0, J3, J2, J4, reduceCtorEq, reduceIte, Ju, Qb, Qa, Jy, aun, Q9, Jk, Jh, Jx, Jw, Ji, Q8, Jf, Q1, Jr, Js, J1, J5, Ja, J9, Jb, J6, J7, Jd, J8, RB, Jv, Je, tf7LnD, k14, q149, q169])
        all_goals
          refine hK7 _ _ ?_
          repeat' first
            | (with_reducible first | refine Jg ?_)
            | (simp only [Q4, Jo, reduceIte, J0])
            | (simp only [Q3, RA, Jn, Jm, Jp, Q2, Q0, ev, ofValue, Jt, J0, J3, J2, J4, reduceCtorEq, reduceIte, Ju, Qb, Qa, Jy, aun, Q9, Jk, Jh, Jx, Jw, Ji, Q8, Jf, Q1, Jr, Js, J1, J5, Ja, J9, Jb, J6, J7, Jd, J8, RB, Jv, Je, tf7LnD, k2, k4, k5, k14, k33, k34, k35, k52, k53, k54, e2])
        all_goals exact ⟨_, by omega, j + 1, rfl, by omega, rfl, (x7.trans x78).trans x9⟩
      · have B1 := fun H0 (x0 : Ext H8 H0) => Least_bad m' xs a p0 H0 (I8.ext x0) hlx hr
        have B2 := fun H0 (x0 : Ext H8 H0) => RLeast_bad m' xs a p0 H0 (I8.ext x0) hlx hr
        have B3 := fun H0 (x0 : Ext H8 H0) => Most_bad m' xs a p1 H0 (I8.ext x0) hlx hr
        have B4 := fun H0 (x0 : Ext H8 H0) => RMost_bad m' xs a p1 H0 (I8.ext x0) hlx hr
        have B1' := B1 H8 (Ext.refl _)
        have B2' := B2 H8 (Ext.refl _)
        have B3' := B3 H8 (Ext.refl _)
        have B4' := B4 H8 (Ext.refl _)
        repeat' first
          | (with_reducible first | refine Jj (fun K hK => ?_) | refine Qw (id := 11) [3, 13, 26] pn7_11LnD (by kernel_rfl) (by kernel_rfl) ?_ | refine Z1 ?_)
          | (with_reducible refine Nv (B1') ?_)
          | (with_reducible refine Nv (B3') ?_)
          | ((with_reducible refine Jq (B2') ?_); rintro _ _ ⟨rfl, rfl⟩)
          | ((with_reducible refine Jq (B4') ?_); rintro _ _ ⟨rfl, rfl⟩)
          | (simp only [Q3, RA, Jn, Jm, Jp, Q2, Q0, ev, ofValue, Jt, J0, J3, J2, J4, reduceCtorEq, reduceIte, Ju, Qb, Qa, Jy, aun, Q9, Jk, Jh, Jx, Jw, Ji, Q8, Jf, Q1, Jr, Js, J1, J5, Ja, J9, Jb, J6, J7, Jd, J8, RB, Jv, Je, tf7LnD, k14, q148, q16])
          | (simp (disch := first | omega | (simp only [RO]; done) | assumption) only [RS, X8, X9, Vp, Vq, six30, gix30, six64, gix64, idx63, slh63, Qu, Qv, Qq])
          | (simp (disch := (first | omega | (simp only [RO]; done) | assumption | (simp only [RM, Je]; done) | (simp only [RL, Je]; omega))) only [RD, reduceCtorEq, reduceIte, Je, J1, J3, J2, J6, tf7LnD, k14, q148, q16])
        all_goals
          refine Xi (Between_bad m' xs a p0 p1 H8 I8 hlx hr) ?_
          rintro w H9 ⟨E, x9⟩
          refine ⟨x9, ?_⟩
          have ow : w.one = true := (by obtain ⟨_, rfl, _⟩ := E; rfl)
          have q149 := Qh q148 x9
          have q169 := Qh q16 x9
          have RB := fun H0 (x0 : Ext H9 H0) => RBetween_bad m' xs a p0 p1 H0 ((I8.ext x9).ext x0) hlx hr
          have RB' := RB H9 (Ext.refl _)
          have SY := says9_err 23 23 w H9 E (N8zz.ext x9) (by decide) (by decide)
          have hd23 : decide ((23 : Int) = 23) = true := rfl
          repeat' first
            | (with_reducible first | refine Q6 ?_ | refine Jz ?_)
            | ((with_reducible refine Jq (RB') ?_); rintro _ _ ⟨rfl, rfl⟩)
            | ((with_reducible refine Jq (SY) ?_); rintro _ _ ⟨rfl, rfl⟩)
            | (simp only [Q4, Jo, reduceIte, J0])
            | ((with_reducible refine hK _ _ ?_); clear hK)
            | (simp only [Q3, RA, Jn, Jm, Jp, Q2, Q0, ev, ofValue, Jt, J0, J3, J2, J4, reduceCtorEq, reduceIte, Ju, Qb, Qa, Jy, aun, Q9, Jk, Jh, Jx, Jw, Ji, Q8, Jf, Q1, Jr, Js, J1, J5, Ja, J9, Jb, J6, J7, Jd, J8, RB, Jv, Je, tf7LnD, k14, q149, q169])
        all_goals
          refine hK7 _ _ ?_
          repeat' first
            | (with_reducible first | refine Jg ?_)
            | (simp only [Q4, Jo, reduceIte, J0])
            | (simp only [Q3, RA, Jn, Jm, Jp, Q2, Q0, ev, ofValue, Jt, J0, J3, J2, J4, reduceCtorEq, reduceIte, Ju, Qb, Qa, Jy, aun, Q9, Jk, Jh, Jx, Jw, Ji, Q8, Jf, Q1, Jr, Js, J1, J5, Ja, J9, Jb, J6, J7, Jd, J8, RB, Jv, Je, tf7LnD, k2, k4, k5, k14, k33, k34, k35, k52, k53, k54, e2])
        all_goals exact ⟨_, by omega, j + 1, rfl, by omega, rfl, (x7.trans x78).trans x9⟩
    · obtain rfl : j = 3 := by omega
      repeat' first
        | (with_reducible first | refine Jj (fun K hK => ?_) | refine Qz ?_ | refine Jg ?_ | refine Jz ?_)
        | (simp only [Q4, Jo, reduceIte, J0])
        | ((with_reducible refine hK _ _ ?_); clear hK)
        | (simp only [Q3, RA, Jn, Jm, Jp, Q2, Q0, ev, ofValue, Jt, J0, J3, J2, J4, reduceCtorEq, reduceIte, Ju, Qb, Qa, Jy, aun, Q9, Jk, Jh, Jx, Jw, Ji, Q8, Jf, Q1, Jr, Js, J1, J5, Ja, J9, Jb, J6, J7, Jd, J8, RB, Jv, Je, tf7LnD, k2, k4, k5, k14, k33, k34, k35, k52, k53, k54])
      refine hK6 _ _ ?_
      repeat' first
        | (with_reducible first | refine Jg ?_)
        | (simp only [Q4, Jo, reduceIte, J0])
        | (simp only [Q3, RA, Jn, Jm, Jp, Q2, Q0, ev, ofValue, Jt, J0, J3, J2, J4, reduceCtorEq, reduceIte, Ju, Qb, Qa, Jy, aun, Q9, Jk, Jh, Jx, Jw, Ji, Q8, Jf, Q1, Jr, Js, J1, J5, Ja, J9, Jb, J6, J7, Jd, J8, RB, Jv, Je, tf7LnD, k2, k4, k5, k33, k34, k35, e1])
      exact ⟨_, by omega, i + 1, rfl, by omega, rfl, (x5.trans x56).trans x7⟩
  · obtain rfl : i = 2 := by omega
    repeat' first
      | (with_reducible first | refine Jj (fun K hK => ?_) | refine Qz ?_ | refine Jg ?_ | refine Jz ?_)
      | (simp only [Q4, Jo, reduceIte, J0])
      | ((with_reducible refine hK _ _ ?_); clear hK)
      | (simp only [Q3, RA, Jn, Jm, Jp, Q2, Q0, ev, ofValue, Jt, J0, J3, J2, J4, reduceCtorEq, reduceIte, Ju, Qb, Qa, Jy, aun, Q9, Jk, Jh, Jx, Jw, Ji, Q8, Jf, Q1, Jr, Js, J1, J5, Ja, J9, Jb, J6, J7, Jd, J8, RB, Jv, Je, tf7LnD, k33, k34, k35])
    refine hK2 _ _ ?_
    repeat' first
      | (with_reducible first | refine Jj (fun K hK => ?_) | refine Qj ?_ | refine Jg ?_)
      | (simp only [Q4, Jo, reduceIte, J0])
      | ((with_reducible refine hK _ _ ?_); clear hK)
      | (simp only [Q3, RA, Jn, Jm, Jp, Q2, Q0, ev, ofValue, Jt, J0, J3, J2, J4, reduceCtorEq, reduceIte, Ju, Qb, Qa, Jy, aun, Q9, Jk, Jh, Jx, Jw, Ji, Q8, Jf, Q1, Jr, Js, J1, J5, Ja, J9, Jb, J6, J7, Jd, J8, RB, Jv, Je, tf7LnD])
    (
     (refine Qg (rs := [.tmp 12]) rfl ?_)
     (simp only [Qx, Qd, Fr.put_some, Fr.put_none, Qe, Qf, Qi, J0, reduceIte])
     (try simp (disch := (first | omega | (simp only [RO]; done) | assumption | (simp only [RM, Je]; done) | (simp only [RL, Je]; omega))) only [RD, reduceCtorEq, reduceIte, Je, J1, J3, J2, J6, tf7LnD]))
    exact ⟨yA.trans x5, trivial⟩
end Go.Proofs.YtfalfmfkifemeaaGreatDoor
namespace Go.Proofs.YtfalfmfkifemeaaGreatDoor
open Go.AL Go.PW Go.PD
set_option maxRecDepth 8000
inductive OwnI (H : Hp) (v : AV) (gs : List Int) (lo : Nat) : Prop
  | no : v = .nilS → gs = [] → OwnI H v gs lo
  | yes (h : Nat) : v = .sg h 0 gs.length 1 → Qt H h = some (Ib gs) → lo ≤ h → OwnI H v gs lo
theorem OwnI.one {H : Hp} {v : AV} {gs : List Int} {lo : Nat} (O : OwnI H v gs lo) : v.one = true := by
  cases O with
  | no h => rw [h]; rfl
  | yes h e => rw [e]; rfl
theorem OwnI.lt {H : Hp} {v : AV} {gs : List Int} {lo : Nat} (O : OwnI H v gs lo) : v.lt H.length := by
  cases O with
  | no h => rw [h]; trivial
  | yes h e g => rw [e]; simpa [AV.lt] using Qr g
theorem OwnI.ext {H H' : Hp} {v : AV} {gs : List Int} {lo : Nat} (O : OwnI H v gs lo) (x : Ext H H') : OwnI H' v gs lo := by
  cases O with
  | no h1 h2 => exact .no h1 h2
  | yes h h1 h2 h3 => exact .yes h h1 (Qh h2 x) h3
theorem OwnI.ints {H : Hp} {v : AV} {gs : List Int} {lo : Nat} (O : OwnI H v gs lo) : Ints H .i64 v gs := by
  cases O with
  | no h1 h2 => rw [h1, h2]; exact Rd.nil _ _
  | yes h h1 h2 h3 =>
    rw [h1]
    refine ⟨?_, rfl⟩
    simp only [arow, h2]
    rw [if_neg (by decide), if_pos (by simp), List.drop_zero, List.take_of_length_le (by simp)]
theorem OwnI.of {H : Hp} {v : AV} {gs : List Int} {n lo : Nat} (O : Own H 1 2 v (gs.map (AV.int .i64)) n lo) (hn : gs.length = n) (hf : v = .nilS ∨ ∃ h, v = .sg h 0 n 1) : OwnI H v gs lo := by
  rcases O.row with ⟨h1, h2, h3⟩ | ⟨h, o, h1, h2⟩ | ⟨h, h1, h2, h3, h4⟩
  · exact .no h1 (by rw [h3] at hn; exact List.eq_nil_of_length_eq_zero hn)
  · rcases hf with e | ⟨h', e⟩
    · rw [e] at h1; cases h1
    · rw [e] at h1; cases h1
  · subst hn; exact .yes h h1 h2 h4
theorem OwnI.idx {H : Hp} {v : AV} {gs : List Int} {lo : Nat} (O : OwnI H v gs lo) {i : Nat} (hi : i < gs.length) {k : IntKind} : X3 Tryz.prog 22 v (.int k (i : Int)) = some (.ptr v.hd i) := by
  cases O with
  | no h1 h2 => subst h2; simp at hi
  | yes h h1 h2 h3 =>
    rw [h1, J0y Ym W3 (by omega) (by omega), Int.toNat_natCast, Nat.zero_add]; rfl
theorem OwnI.get {H : Hp} {v : AV} {gs : List Int} {lo : Nat} (O : OwnI H v gs lo) {i : Nat} (hi : i < gs.length) : Qt H v.hd = some (Ib gs) ∧ lo ≤ v.hd := by
  cases O with
  | no h1 h2 => subst h2; simp at hi
  | yes h h1 h2 h3 => rw [h1]; exact ⟨h2, h3⟩
theorem OwnI.mo {H : Hp} {v : AV} {gs : List Int} {lo : Nat} (O : OwnI H v gs lo) : Mo H v gs lo := by
  cases O with
  | no h1 h2 => exact .inl ⟨h2, h1⟩
  | yes h h1 h2 h3 => exact .inr ⟨h, .inr h1, h2, h3⟩
end Go.Proofs.YtfalfmfkifemeaaGreatDoor

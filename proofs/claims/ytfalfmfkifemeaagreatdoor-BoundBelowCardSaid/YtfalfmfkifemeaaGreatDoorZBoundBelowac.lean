/- Part 3 of the proof of the law BoundBelow: lemmas on the model's code, on this program's functions, on numbers. No condition. -/
import Derived.Test.YtfalfmfkifemeaaGreatDoorZBoundBelowab
set_option linter.unusedVariables false
set_option linter.unusedSimpArgs false
open Nat renaming reduceEqDiff → J0, reduceLeDiff → J1, reduceMul → J2, reduceAdd → J3, reduceSub → J4, reduceLT → J5
open Int renaming reduceToNat → J6, reducePow → J7, reduceNeg → J8, reduceLT → J9, reduceLE → Ja, reduceEq → Jb
open And renaming intro → Jc
open Go.IntKind renaming bits → Jd
open Go.PW renaming dig_length → Je
namespace Go.Proofs.YtfalfmfkifemeaaGreatDoor
open Go.AL Go.PW Go.PD
theorem tf37LnE : type_of% (Jc @Z8 (Jc @Xd (Jc @Xx (Jc @Xw (@Xv))))) := Jc @Z8 (Jc @Xd (Jc @Xx (Jc @Xw (@Xv))))
set_option maxRecDepth 8000
theorem tmod_mil (x : Int) : -1000000 < x.tmod 1000000 ∧ x.tmod 1000000 < 1000000 := ⟨by have := Int.lt_tmod_of_pos x (b := 1000000) (by decide); omega, Int.tmod_lt_of_pos x (by decide)⟩
theorem tmod_500 (x : Int) : -500 < x.tmod 500 ∧ x.tmod 500 < 500 := ⟨by have := Int.lt_tmod_of_pos x (b := 500) (by decide); omega, Int.tmod_lt_of_pos x (by decide)⟩
inductive OwnI (H : Hp) (v : AV) (gs : List Int) (lo : Nat) : Prop
  | no : v = .nilS → gs = [] → OwnI H v gs lo
  | yes (h : Nat) : v = .sg h 0 gs.length 1 → Qt H h = some (Ib gs) → lo ≤ h → OwnI H v gs lo
theorem OwnI.one {H : Hp} {v : AV} {gs : List Int} {lo : Nat} (O : OwnI H v gs lo) : v.one = true := by
  cases O with
  | no h => rw [h]; rfl
  | yes h e => rw [e]; rfl
theorem OwnI.lt {H : Hp} {v : AV} {gs : List Int} {lo : Nat} (O : OwnI H v gs lo) : v.lt H.length := by
  cases O with
  | no h => rw [h]; trivial
  | yes h e g => rw [e]; simpa [AV.lt] using Qr g
theorem OwnI.ext {H H' : Hp} {v : AV} {gs : List Int} {lo : Nat} (O : OwnI H v gs lo) (x : Ext H H') : OwnI H' v gs lo := by
  cases O with
  | no h1 h2 => exact .no h1 h2
  | yes h h1 h2 h3 => exact .yes h h1 (Qh h2 x) h3
theorem OwnI.ints {H : Hp} {v : AV} {gs : List Int} {lo : Nat} (O : OwnI H v gs lo) : Ints H .i64 v gs := by
  cases O with
  | no h1 h2 => rw [h1, h2]; exact Rd.nil _ _
  | yes h h1 h2 h3 =>
    rw [h1]
    refine ⟨?_, rfl⟩
    simp only [arow, h2]
    rw [if_neg (by decide), if_pos (by simp), List.drop_zero, List.take_of_length_le (by simp)]
theorem OwnI.of {H : Hp} {v : AV} {gs : List Int} {n lo : Nat} (O : Own H 1 2 v (gs.map (AV.int .i64)) n lo) (hn : gs.length = n) (hf : v = .nilS ∨ ∃ h, v = .sg h 0 n 1) : OwnI H v gs lo := by
  rcases O.row with ⟨h1, h2, h3⟩ | ⟨h, o, h1, h2⟩ | ⟨h, h1, h2, h3, h4⟩
  · exact .no h1 (by rw [h3] at hn; exact List.eq_nil_of_length_eq_zero hn)
  · rcases hf with e | ⟨h', e⟩
    · rw [e] at h1; cases h1
    · rw [e] at h1; cases h1
  · subst hn; exact .yes h h1 h2 h4
theorem OwnI.idx {H : Hp} {v : AV} {gs : List Int} {lo : Nat} (O : OwnI H v gs lo) {i : Nat} (hi : i < gs.length) {k : IntKind} : X3 Tryz.prog 22 v (.int k (i : Int)) = some (.ptr v.hd i) := by
  cases O with
  | no h1 h2 => subst h2; simp at hi
  | yes h h1 h2 h3 =>
    rw [h1, J0y Ym W3 (by omega) (by omega), Int.toNat_natCast, Nat.zero_add]; rfl
theorem OwnI.get {H : Hp} {v : AV} {gs : List Int} {lo : Nat} (O : OwnI H v gs lo) {i : Nat} (hi : i < gs.length) : Qt H v.hd = some (Ib gs) ∧ lo ≤ v.hd := by
  cases O with
  | no h1 h2 => subst h2; simp at hi
  | yes h h1 h2 h3 => rw [h1]; exact ⟨h2, h3⟩
theorem OwnI.mo {H : Hp} {v : AV} {gs : List Int} {lo : Nat} (O : OwnI H v gs lo) : Mo H v gs lo := by
  cases O with
  | no h1 h2 => exact .inl ⟨h2, h1⟩
  | yes h h1 h2 h3 => exact .inr ⟨h, .inr h1, h2, h3⟩
set_option maxHeartbeats 8000000 in
theorem Vec_calls (m : Nat) (a c : AV) (xs hs : List Int) (H : Hp) (ha : Ints H .i64 a xs) (hr : Right m xs) (hh : Ints H .i64 c hs) (hl : hs.length < 1000000) (hb : ∀ x ∈ hs, -9223372036854775808 ≤ x ∧ x ≤ 9223372036854775807) : ACalls Tryz.prog 37 [Ya m a, c, .bool true] H fun r H' => ∃ gs : List Int, OwnI H' r gs H.length ∧ gs.length = m ∧ (∀ x ∈ gs, -1000000 < x ∧ x < 1000000) ∧ Ext H H' := by
  have ha1 : a.one = true := ha.rd.one
  have hc : a.cells = [a] := AV.cells_one ha1
  have h8 := hr.len.1
  have hlen := hh.rd.len Ym
  obtain ⟨H0, hH0⟩ : ∃ H0, H0 = H ++ [Sb m a] := ⟨_, rfl⟩
  have y0 : Ext H H0 := by rw [hH0]; exact Ext.push _ _
  have q3 : Qt H0 H.length = some (Sb m a) := by rw [hH0]; exact Qo rfl
  have l0 : H0.length = H.length + 1 := by rw [hH0, Qm]
  refine Q7 Tryz.func37 rfl (by kernel_rfl) (by kernel_rfl) ?_
  repeat' first
    | (with_reducible first | refine Jj (fun K hK => ?_) | refine Qc ?_ | refine Jg ?_)
    | (simp only [Q4, Jo, reduceIte, J0])
    | ((with_reducible refine hK _ _ ?_); clear hK)
    | (simp only [Q3, RA, Jn, Jm, Jp, Q2, Q0, ev, ofValue, Jt, J0, J3, J2, J4, reduceCtorEq, reduceIte, Ju, Qb, Qa, Jy, aun, Q9, Jk, Jh, Jx, Jw, Ji, Q8, Jf, Q1, Jr, Js, J1, J5, Ja, J9, Jb, J6, J7, Jd, J8, RB, Jv, Je, tf37LnE])
    | (simp (disch := first | omega | (simp only [RO]; done) | assumption) only [RS, X8, X9, Qu, Qv, Qq])
  refine X2 (fun t fr' H2 => ∃ (j : Nat) (v : AV) (gs : List Int), t = m - j ∧ j ≤ m ∧ fr' 1 = c ∧ fr' 2 = .bool true ∧ fr' 3 = .ptr H.length 0 ∧ fr' 7 = v ∧ fr' 8 = .int .i64 (j : Int) ∧ gs.length = j ∧ Own H2 1 2 v (gs.map (AV.int .i64)) j H0.length ∧ (v = .nilS ∨ ∃ h, v = .sg h 0 j 1) ∧ (∀ x ∈ gs, -1000000 < x ∧ x < 1000000) ∧ Ext H0 H2) (m := m)
    ⟨0, .nilS, [], by omega, by omega, rfl, rfl, rfl, rfl, rfl, rfl, Own.nil _ _ _ _, .inl rfl, fun x hx => by simp at hx, by rw [hH0]; exact Ext.refl _⟩ ?_
  rintro t fr' H2 ⟨j, v, gs, rfl, hj, k1, k2, k3, k7, k8, hgl, O, hf, hgs, x2⟩
  have q32 := Qh q3 x2
  by_cases hjt : j < m
  · have w1 : IntKind.i64.wrap ((j : Int) + 1) = ((j + 1 : Nat) : Int) := by rw [Q5 (by omega) (by omega)]; omega
    have w2 : IntKind.i64.wrap (j : Int) = (j : Int) := Q5 (by omega) (by omega)
    obtain ⟨e, he⟩ : ∃ e, e = (if j < hs.length then hs.getD j 0 else (j : Int)) := ⟨_, rfl⟩
    obtain ⟨g, hg⟩ : ∃ g, g = e.tmod 1000000 := ⟨_, rfl⟩
    have hgb := tmod_mil e
    rw [← hg] at hgb
    have w3 : IntKind.i64.wrap g = g := Q5 (by omega) (by omega)
    have hx := Rd.lit H2 (n := 1) (z := 1) (cs := [AV.int .i64 g]) (k := .own) (e := 2) (by decide) rfl
    obtain ⟨v', H', hap, O', x', hf'⟩ := Own.append (P := Tryz.prog) (H0 := H0) (O.push ⟨[AV.int .i64 g], .own, 2⟩) hx (x2.pushed _) Ym W3 zero2 rfl (by decide) bytes2 (V9 _ _) rfl (by omega) (by omega)
    have hh2 := (hh.ext y0).ext x2
    by_cases hjl : j < hs.length
    · have f1 : ((j : Int) < (hs.length : Int)) = True := eq_true (by omega)
      have he' : e = hs.getD j 0 := by rw [he, if_pos hjl]
      rw [he'] at hg
      repeat' first
        | (with_reducible first | refine Jj (fun K hK => ?_) | refine Qc ?_ | refine Q6 ?_ | refine Jg ?_ | refine Jz ?_)
        | (with_reducible refine X5 (fun hc => ?_) (fun hc => ?_) <;> (try simp only [RC] at hc) <;> (try (exfalso; first | omega | contradiction)))
        | (simp only [Q4, Jo, reduceIte, J0])
        | ((with_reducible refine hK _ _ ?_); clear hK)
        | (simp only [Q3, RA, Jn, Jm, Jp, Q2, Q0, ev, ofValue, Jt, J0, J3, J2, J4, reduceCtorEq, reduceIte, Ju, Qb, Qa, Jy, aun, Q9, Jk, Jh, Jx, Jw, Ji, Q8, Jf, Q1, Jr, Js, J1, J5, Ja, J9, Jb, J6, J7, Jd, J8, RB, Jv, Je, tf37LnE, k1, k2, k3, k7, k8, q32, hlen, f1, w1, w2, ← hg, w3, hap])
        | (simp (disch := first | omega | (simp only [RO]; done) | assumption) only [RS, hh2.rd.at1 Ym W3, hh2.load1 agg2, X8, X9, Qu, Qv, Qq])
        | (simp (disch := (first | omega | (simp only [RO]; done) | assumption | (simp only [RM, Je]; done) | (simp only [RL, Je]; omega))) only [RD, reduceCtorEq, reduceIte, Je, J1, J3, J2, J6, tf37LnE, k1, k2, k3, k7, k8, q32, hlen, f1, w1, w2, ← hg, w3, hap])
      all_goals
        refine ⟨_, by omega, j + 1, v', gs ++ [g], rfl, by omega, rfl, rfl, by rw [List.length_append, hgl]; rfl, by rw [List.map_append]; exact O', .inr (hf' (by decide)), fun x hx => ?_, x'⟩
        rcases List.mem_append.1 hx with h | h
        · exact hgs x h
        · rw [List.mem_singleton.1 h]; exact hgb
    · have f1 : ((j : Int) < (hs.length : Int)) = False := eq_false (by omega)
      have he' : e = (j : Int) := by rw [he, if_neg hjl]
      rw [he'] at hg
      repeat' first
        | (with_reducible first | refine Jj (fun K hK => ?_) | refine Qc ?_ | refine Q6 ?_ | refine Jg ?_ | refine Jz ?_)
        | (with_reducible refine X5 (fun hc => ?_) (fun hc => ?_) <;> (try simp only [RC] at hc) <;> (try (exfalso; first | omega | contradiction)))
        | (simp only [Q4, Jo, reduceIte, J0])
        | ((with_reducible refine hK _ _ ?_); clear hK)
        | (simp only [Q3, RA, Jn, Jm, Jp, Q2, Q0, ev, ofValue, Jt, J0, J3, J2, J4, reduceCtorEq, reduceIte, Ju, Qb, Qa, Jy, aun, Q9, Jk, Jh, Jx, Jw, Ji, Q8, Jf, Q1, Jr, Js, J1, J5, Ja, J9, Jb, J6, J7, Jd, J8, RB, Jv, Je, tf37LnE, k1, k2, k3, k7, k8, q32, hlen, f1, w1, w2, ← hg, w3, hap])
        | (simp (disch := (first | omega | (simp only [RO]; done) | assumption | (simp only [RM, Je]; done) | (simp only [RL, Je]; omega))) only [RD, reduceCtorEq, reduceIte, Je, J1, J3, J2, J6, tf37LnE, k1, k2, k3, k7, k8, q32, hlen, f1, w1, w2, ← hg, w3, hap])
      all_goals
        refine ⟨_, by omega, j + 1, v', gs ++ [g], rfl, by omega, rfl, rfl, by rw [List.length_append, hgl]; rfl, by rw [List.map_append]; exact O', .inr (hf' (by decide)), fun x hx => ?_, x'⟩
        rcases List.mem_append.1 hx with h | h
        · exact hgs x h
        · rw [List.mem_singleton.1 h]; exact hgb
  · obtain rfl : j = m := by omega
    repeat' first
      | (with_reducible first | refine Jj (fun K hK => ?_) | refine Qz ?_ | refine Qj ?_ | refine Jg ?_ | refine Jz ?_)
      | (with_reducible refine X5 (fun hc => ?_) (fun hc => ?_) <;> (try simp only [RC] at hc) <;> (try (exfalso; first | omega | contradiction)))
      | (simp only [Q4, Jo, reduceIte, J0])
      | ((with_reducible refine hK _ _ ?_); clear hK)
      | (clear hK; (with_reducible refine hK _ _ ?_); clear hK)
      | (simp only [Q3, RA, Jn, Jm, Jp, Q2, Q0, ev, ofValue, Jt, J0, J3, J2, J4, reduceCtorEq, reduceIte, Ju, Qb, Qa, Jy, aun, Q9, Jk, Jh, Jx, Jw, Ji, Q8, Jf, Q1, Jr, Js, J1, J5, Ja, J9, Jb, J6, J7, Jd, J8, RB, Jv, Je, tf37LnE, k1, k2, k3, k7, k8, q32])
      | (simp (disch := (first | omega | (simp only [RO]; done) | assumption | (simp only [RM, Je]; done) | (simp only [RL, Je]; omega))) only [RD, reduceCtorEq, reduceIte, Je, J1, J3, J2, J6, tf37LnE, k1, k2, k3, k7, k8, q32])
    (
     (refine Qg (rs := [.tmp 6]) rfl ?_)
     (simp only [Qx, Qd, Fr.put_some, Fr.put_none, Qe, Qf, Qi, J0, reduceIte, k7])
     (try simp (disch := (first | omega | (simp only [RO]; done) | assumption | (simp only [RM, Je]; done) | (simp only [RL, Je]; omega))) only [RD, reduceCtorEq, reduceIte, Je, J1, J3, J2, J6, tf37LnE, k7]))
    exact ⟨gs, .of (Own.mk (by rcases O.row with h | h | ⟨h, h1, h2, h3, h4⟩
                               · exact .inl h
                               · exact .inr (.inl h)
                               · exact .inr (.inr ⟨h, h1, h2, h3, by omega⟩))) hgl hf, hgl, hgs, y0.trans x2⟩
end Go.Proofs.YtfalfmfkifemeaaGreatDoor
namespace Go.Proofs.YtfalfmfkifemeaaGreatDoor
open Go.AL Go.PW Go.PD
theorem tf8LnF : type_of% (Jc @Z8 (Jc @Xd (Jc @Xz (Jc @tyb5 (Jc @Xx (Jc @Xw (Jc @Xv (Jc @Rv (Jc @Ru (Jc @Rt (Jc @cv5_2 (@J1w)))))))))))) := Jc @Z8 (Jc @Xd (Jc @Xz (Jc @tyb5 (Jc @Xx (Jc @Xw (Jc @Xv (Jc @Rv (Jc @Ru (Jc @Rt (Jc @cv5_2 (@J1w)))))))))))
abbrev pn8_16LnF : Plan := (.one 0 (.one 1 (.one 2 (.one 3 (.one 4 (.one 5 (.one 6 (.one 7 (.one 8 (.one 9 (.one 10 (.one 11 .nil))))))))))))
abbrev pn8_17LnF : Plan := (.one 0 (.one 1 (.one 2 (.one 3 (.one 4 (.one 5 (.one 7 (.one 8 (.ext 6 (.one 9 (.one 10 (.one 11 (.one 12 (.one 13 (.one 14 (.one 16 (.one 17 (.ext 15 (.one 18 (.one 19 (.one 20 (.one 21 (.one 22 (.one 23 (.one 25 (.one 26 (.ext 24 (.one 27 (.one 28 (.one 29 (.one 30 (.one 31 (.one 32 (.one 34 (.one 35 (.ext 33 (.one 36 (.one 37 (.one 38 (.one 39 .nil))))))))))))))))))))))))))))))))))))))))
set_option maxRecDepth 8000
theorem tmod_rg2 {a m : Int} (hm : 0 < m) : -m < a.tmod m ∧ a.tmod m < m := ⟨by have := Int.lt_tmod_of_pos a hm; omega, Int.tmod_lt_of_pos a hm⟩
theorem below_outer {n : Nat} {xs ys : List Int} {w : Int} {h : Nat → Int} (hw : 0 ≤ w) (hab : ∀ i j, i < n → j < n → ent n ys i j = ent n xs i j + w * (h i * h j)) : belowB n xs ys = true :=
  (posB_Pos (Symm.dif (symm_ent n ys) (symm_ent n xs))).2 (Pos_outer hw hab)
theorem below_two (rn : Int) (rs ys : List Int) (ra b : AV) (m : Nat) (H : Hp) (hr : Ints H .i64 ra rs) (hb : Ints H .i64 b ys) (hlr : rs.length < 1000000) (hm : Right m ys) :
    (∃ c, (∀ H0, Ext H H0 → ACalls Tryz.prog 39 [Ya rn ra, Ya m b] H0 fun r H' => r = .bool c ∧ H0 = H') ∧ (∀ H0, Ext H H0 → ACalls Tryz.prog 40 [Ya rn ra, Ya m b] H0 fun r H' => r = .bool c ∧ H0 = H')) ∧
    (∃ c, (∀ H0, Ext H H0 → ACalls Tryz.prog 39 [Ya m b, Ya rn ra] H0 fun r H' => r = .bool c ∧ H0 = H') ∧ (∀ H0, Ext H H0 → ACalls Tryz.prog 40 [Ya m b, Ya rn ra] H0 fun r H' => r = .bool c ∧ H0 = H')) := by
  have hly := hm.len.2
  by_cases hg : Right rn rs ∧ rn = m
  · obtain ⟨h1, rfl⟩ := hg
    exact ⟨⟨_, fun H0 x => Below_calls m rs ys ra b H0 (hr.ext x) (hb.ext x) h1 hm, fun H0 x => RBelow_calls m rs ys ra b H0 (hr.ext x) (hb.ext x) h1 hm⟩,
      ⟨_, fun H0 x => Below_calls m ys rs b ra H0 (hb.ext x) (hr.ext x) hm h1, fun H0 x => RBelow_calls m ys rs b ra H0 (hb.ext x) (hr.ext x) hm h1⟩⟩
  · have n1 : ¬ (Right rn rs ∧ Right m ys ∧ rn = m) := fun h => hg ⟨h.1, h.2.2⟩
    have n2 : ¬ (Right m ys ∧ Right rn rs ∧ (m : Int) = rn) := fun h => hg ⟨h.2.1, h.2.2.symm⟩
    exact ⟨⟨false, fun H0 x => Below_bad rn m rs ys ra b H0 (hr.ext x) (hb.ext x) hlr hly n1, fun H0 x => RBelow_bad rn m rs ys ra b H0 (hr.ext x) (hb.ext x) hlr hly n1⟩,
      ⟨false, fun H0 x => Below_bad m rn ys rs b ra H0 (hb.ext x) (hr.ext x) hly hlr n2, fun H0 x => RBelow_bad m rn ys rs b ra H0 (hb.ext x) (hr.ext x) hly hlr n2⟩⟩
set_option maxHeartbeats 16000000 in
theorem boundBelow_calls (rn : Int) (rs : List Int) (ra : AV) (n dg : Int) (hs gs : List Int) (c d : AV) (w at_ v : Int) (H : Hp) (hN : Noted H) (hra : Ints H .i64 ra rs) (hn : 0 ≤ n ∧ n ≤ 255) (hdg : 0 ≤ dg ∧ dg ≤ 65535) (hh : Ints H .i16 c hs) (hg : Ints H .i64 d gs) (hgb : ∀ x ∈ gs, -9223372036854775808 ≤ x ∧ x ≤ 9223372036854775807) (hw : 0 ≤ w ∧ w ≤ 255) (hat : 0 ≤ at_ ∧ at_ ≤ 255) (hv : -9223372036854775808 ≤ v ∧ v ≤ 9223372036854775807) : ACalls Tryz.prog 8 [Ya rn ra, .int .u8 n, .int .u16 dg, c, d, .int .u8 w, .int .u8 at_, .int .i64 v] H fun r H' => r = .bool true ∧ H = H' := by
  refine ACalls.drop (R := fun r => r = .bool true) ?_
  have hlen := hh.rd.len K8
  have hrlen := hra.rd.len Ym
  have hglen := hg.rd.len Ym
  have ra1 : ra.one = true := hra.rd.one
  have hcr : ra.cells = [ra] := AV.cells_one ra1
  by_cases h60 : (rs.length : Int) > 60
  · have f60 : ((rs.length : Int) > 60) = True := eq_true h60
    refine Q7 Tryz.func8 rfl (by kernel_rfl) (by kernel_rfl) ?_
    repeat' first
      | (with_reducible first | refine Jj (fun K hK => ?_) | refine Q6 ?_ | refine Qj ?_ | refine Jg ?_ | refine Jz ?_)
      | ((with_reducible refine Jq (known9_calls _ (hN.ext (Ext.push _ _))) ?_); rintro _ _ ⟨rfl, rfl⟩)
      | (with_reducible refine Qn (fun hc => ?_) (fun hc => ?_) <;> (try simp only [RC] at hc) <;> (try (exfalso; first | omega | contradiction)))
      | (simp only [Q4, Jo, reduceIte, J0])
      | ((with_reducible refine hK _ _ ?_); clear hK)
      | (simp only [Q3, RA, Jn, Jm, Jp, Q2, Q0, ev, ofValue, Jt, J0, J3, J2, J4, reduceCtorEq, reduceIte, Ju, Qb, Qa, Jy, aun, Q9, Jk, Jh, Jx, Jw, Ji, Q8, Jf, Q1, Jr, Js, J1, J5, Ja, J9, Jb, J6, J7, Jd, J8, RB, Jv, Je, tf8LnF, hrlen, f60])
      | (simp (disch := first | omega | (simp only [RO]; done) | assumption) only [RS, X8, X9, Vp, Vq, Qu, Qv, Qq])
      | (simp (disch := (first | omega | (simp only [RO]; done) | assumption | (simp only [RM, Je]; done) | (simp only [RL, Je]; omega))) only [RD, reduceCtorEq, reduceIte, Je, J1, J3, J2, J6, tf8LnF, hrlen, f60])
    all_goals
      (
       (refine Qg (rs := [.tmp 16]) rfl ?_)
       (simp only [Qx, Qd, Fr.put_some, Fr.put_none, Qe, Qf, Qi, J0, reduceIte])
       (try simp (disch := (first | omega | (simp only [RO]; done) | assumption | (simp only [RM, Je]; done) | (simp only [RL, Je]; omega))) only [RD, reduceCtorEq, reduceIte, Je, J1, J3, J2, J6, tf8LnF]))
    all_goals exact ⟨Ext.push _ _, trivial⟩
  have f60 : ((rs.length : Int) > 60) = False := eq_false h60
  by_cases g60 : (hs.length : Int) > 60
  · have f61 : ((hs.length : Int) > 60) = True := eq_true g60
    refine Q7 Tryz.func8 rfl (by kernel_rfl) (by kernel_rfl) ?_
    repeat' first
      | (with_reducible first | refine Jj (fun K hK => ?_) | refine Q6 ?_ | refine Qj ?_ | refine Jg ?_ | refine Jz ?_)
      | ((with_reducible refine Jq (known9_calls _ (hN.ext (Ext.push _ _))) ?_); rintro _ _ ⟨rfl, rfl⟩)
      | (with_reducible refine Qn (fun hc => ?_) (fun hc => ?_) <;> (try simp only [RC] at hc) <;> (try (exfalso; first | omega | contradiction)))
      | (simp only [Q4, Jo, reduceIte, J0])
      | ((with_reducible refine hK _ _ ?_); clear hK)
      | (simp only [Q3, RA, Jn, Jm, Jp, Q2, Q0, ev, ofValue, Jt, J0, J3, J2, J4, reduceCtorEq, reduceIte, Ju, Qb, Qa, Jy, aun, Q9, Jk, Jh, Jx, Jw, Ji, Q8, Jf, Q1, Jr, Js, J1, J5, Ja, J9, Jb, J6, J7, Jd, J8, RB, Jv, Je, tf8LnF, hrlen, hlen, f60, f61])
      | (simp (disch := first | omega | (simp only [RO]; done) | assumption) only [RS, X8, X9, Vp, Vq, Qu, Qv, Qq])
      | (simp (disch := (first | omega | (simp only [RO]; done) | assumption | (simp only [RM, Je]; done) | (simp only [RL, Je]; omega))) only [RD, reduceCtorEq, reduceIte, Je, J1, J3, J2, J6, tf8LnF, hrlen, hlen, f60, f61])
    all_goals
      (
       (refine Qg (rs := [.tmp 16]) rfl ?_)
       (simp only [Qx, Qd, Fr.put_some, Fr.put_none, Qe, Qf, Qi, J0, reduceIte])
       (try simp (disch := (first | omega | (simp only [RO]; done) | assumption | (simp only [RM, Je]; done) | (simp only [RL, Je]; omega))) only [RD, reduceCtorEq, reduceIte, Je, J1, J3, J2, J6, tf8LnF]))
    all_goals exact ⟨Ext.push _ _, trivial⟩
  have f61 : ((hs.length : Int) > 60) = False := eq_false g60
  by_cases g40 : (gs.length : Int) > 40
  · have f62 : ((gs.length : Int) > 40) = True := eq_true g40
    refine Q7 Tryz.func8 rfl (by kernel_rfl) (by kernel_rfl) ?_
    repeat' first
      | (with_reducible first | refine Jj (fun K hK => ?_) | refine Q6 ?_ | refine Qj ?_ | refine Jg ?_ | refine Jz ?_)
      | ((with_reducible refine Jq (known9_calls _ (hN.ext (Ext.push _ _))) ?_); rintro _ _ ⟨rfl, rfl⟩)
      | (with_reducible refine Qn (fun hc => ?_) (fun hc => ?_) <;> (try simp only [RC] at hc) <;> (try (exfalso; first | omega | contradiction)))
      | (simp only [Q4, Jo, reduceIte, J0])
      | ((with_reducible refine hK _ _ ?_); clear hK)
      | (simp only [Q3, RA, Jn, Jm, Jp, Q2, Q0, ev, ofValue, Jt, J0, J3, J2, J4, reduceCtorEq, reduceIte, Ju, Qb, Qa, Jy, aun, Q9, Jk, Jh, Jx, Jw, Ji, Q8, Jf, Q1, Jr, Js, J1, J5, Ja, J9, Jb, J6, J7, Jd, J8, RB, Jv, Je, tf8LnF, hrlen, hlen, hglen, f60, f61, f62])
      | (simp (disch := first | omega | (simp only [RO]; done) | assumption) only [RS, X8, X9, Vp, Vq, Qu, Qv, Qq])
      | (simp (disch := (first | omega | (simp only [RO]; done) | assumption | (simp only [RM, Je]; done) | (simp only [RL, Je]; omega))) only [RD, reduceCtorEq, reduceIte, Je, J1, J3, J2, J6, tf8LnF, hrlen, hlen, hglen, f60, f61, f62])
    all_goals
      (
       (refine Qg (rs := [.tmp 16]) rfl ?_)
       (simp only [Qx, Qd, Fr.put_some, Fr.put_none, Qe, Qf, Qi, J0, reduceIte])
       (try simp (disch := (first | omega | (simp only [RO]; done) | assumption | (simp only [RM, Je]; done) | (simp only [RL, Je]; omega))) only [RD, reduceCtorEq, reduceIte, Je, J1, J3, J2, J6, tf8LnF]))
    all_goals exact ⟨Ext.push _ _, trivial⟩
  have f62 : ((gs.length : Int) > 40) = False := eq_false g40
  refine Q7 Tryz.func8 rfl (by kernel_rfl) (by kernel_rfl) ?_
  refine Jj (fun K hQ => ?_)
  repeat' first
    | (with_reducible first | refine Jj (fun K hK => ?_) | refine Q6 ?_ | refine Jg ?_ | refine Jz ?_)
    | ((with_reducible refine Jq (known9_calls _ (hN.ext (Ext.push _ _))) ?_); rintro _ _ ⟨rfl, rfl⟩)
    | (with_reducible refine Qn (fun hc => ?_) (fun hc => ?_) <;> (try simp only [RC] at hc) <;> (try (exfalso; first | omega | contradiction)))
    | (simp only [Q4, Jo, reduceIte, J0])
    | ((with_reducible refine hK _ _ ?_); clear hK)
    | (simp only [Q3, RA, Jn, Jm, Jp, Q2, Q0, ev, ofValue, Jt, J0, J3, J2, J4, reduceCtorEq, reduceIte, Ju, Qb, Qa, Jy, aun, Q9, Jk, Jh, Jx, Jw, Ji, Q8, Jf, Q1, Jr, Js, J1, J5, Ja, J9, Jb, J6, J7, Jd, J8, RB, Jv, Je, tf8LnF, hrlen, hlen, hglen, f60, f61, f62])
    | (simp (disch := first | omega | (simp only [RO]; done) | assumption) only [RS, X8, X9, Vp, Vq, Qu, Qv, Qq])
    | (simp (disch := (first | omega | (simp only [RO]; done) | assumption | (simp only [RM, Je]; done) | (simp only [RL, Je]; omega))) only [RD, reduceCtorEq, reduceIte, Je, J1, J3, J2, J6, tf8LnF, hrlen, hlen, hglen, f60, f61, f62])
  refine hQ _ _ ?_
  clear hQ
  refine Jj (fun K hQ => ?_)
  repeat' first
    | (with_reducible first | refine Jj (fun K hK => ?_) | refine Q6 ?_ | refine Jg ?_ | refine Jz ?_)
    | ((with_reducible refine Jq (known9_calls _ (hN.ext (Ext.push _ _))) ?_); rintro _ _ ⟨rfl, rfl⟩)
    | (with_reducible refine Qn (fun hc => ?_) (fun hc => ?_) <;> (try simp only [RC] at hc) <;> (try (exfalso; first | omega | contradiction)))
    | (simp only [Q4, Jo, reduceIte, J0])
    | ((with_reducible refine hK _ _ ?_); clear hK)
    | (simp only [Q3, RA, Jn, Jm, Jp, Q2, Q0, ev, ofValue, Jt, J0, J3, J2, J4, reduceCtorEq, reduceIte, Ju, Qb, Qa, Jy, aun, Q9, Jk, Jh, Jx, Jw, Ji, Q8, Jf, Q1, Jr, Js, J1, J5, Ja, J9, Jb, J6, J7, Jd, J8, RB, Jv, Je, tf8LnF, hrlen, hlen, hglen, f60, f61, f62])
    | (simp (disch := first | omega | (simp only [RO]; done) | assumption) only [RS, X8, X9, Vp, Vq, Qu, Qv, Qq])
    | (simp (disch := (first | omega | (simp only [RO]; done) | assumption | (simp only [RM, Je]; done) | (simp only [RL, Je]; omega))) only [RD, reduceCtorEq, reduceIte, Je, J1, J3, J2, J6, tf8LnF, hrlen, hlen, hglen, f60, f61, f62])
  refine hQ _ _ ?_
  clear hQ
  refine Jj (fun K hQ => ?_)
  repeat' first
    | (with_reducible first | refine Jj (fun K hK => ?_) | refine Q6 ?_ | refine Jg ?_ | refine Jz ?_)
    | ((with_reducible refine Jq (known9_calls _ (hN.ext (Ext.push _ _))) ?_); rintro _ _ ⟨rfl, rfl⟩)
    | (with_reducible refine Qn (fun hc => ?_) (fun hc => ?_) <;> (try simp only [RC] at hc) <;> (try (exfalso; first | omega | contradiction)))
    | (simp only [Q4, Jo, reduceIte, J0])
    | ((with_reducible refine hK _ _ ?_); clear hK)
    | (simp only [Q3, RA, Jn, Jm, Jp, Q2, Q0, ev, ofValue, Jt, J0, J3, J2, J4, reduceCtorEq, reduceIte, Ju, Qb, Qa, Jy, aun, Q9, Jk, Jh, Jx, Jw, Ji, Q8, Jf, Q1, Jr, Js, J1, J5, Ja, J9, Jb, J6, J7, Jd, J8, RB, Jv, Je, tf8LnF, hrlen, hlen, hglen, f60, f61, f62])
    | (simp (disch := first | omega | (simp only [RO]; done) | assumption) only [RS, X8, X9, Vp, Vq, Qu, Qv, Qq])
    | (simp (disch := (first | omega | (simp only [RO]; done) | assumption | (simp only [RM, Je]; done) | (simp only [RL, Je]; omega))) only [RD, reduceCtorEq, reduceIte, Je, J1, J3, J2, J6, tf8LnF, hrlen, hlen, hglen, f60, f61, f62])
  refine hQ _ _ ?_
  clear hQ
  obtain ⟨H0, hH0⟩ : ∃ H0, H0 = H ++ [Sb rn ra] := ⟨_, rfl⟩
  have y0 : Ext H H0 := by rw [hH0]; exact Ext.push _ _
  have q8 : Qt H0 H.length = some (Sb rn ra) := by rw [hH0]; exact Qo rfl
  refine Jj (fun K2 hK2 => ?_)
  refine Z6 (fun fr' H1 => ∃ (q k : Nat) (b : AV) (ys : List Int), fr' 4 = d ∧ fr' 5 = .int .u8 w ∧ fr' 6 = .int .u8 at_ ∧ fr' 7 = .int .i64 v ∧ fr' 8 = .ptr H.length 0 ∧ fr' 17 = .ptr q 0 ∧ Qt H1 q = some (Sb k b) ∧ Ints H1 .i64 b ys ∧ Right k ys ∧ Ext H0 H1) ?_ (fun fr' H1 h => hK2 _ _ ?_)
  · clear hK2
    repeat' first
      | (with_reducible first | refine Jg ?_)
      | (simp only [Q4, Jo, reduceIte, J0])
      | (simp only [Q3, RA, Jn, Jm, Jp, Q2, Q0, ev, ofValue, Jt, J0, J3, J2, J4, reduceCtorEq, reduceIte, Ju, Qb, Qa, Jy, aun, Q9, Jk, Jh, Jx, Jw, Ji, Q8, Jf, Q1, Jr, Js, J1, J5, Ja, J9, Jb, J6, J7, Jd, J8, RB, Jv, Je, tf8LnF])
    refine Jq (Sym_calls n dg hs c _ hn hdg (hh.push _) (by omega)) ?_
    rintro _ H2 ⟨m, b, ys, rfl, _, M, hr, x2⟩
    rw [← hH0] at x2
    have hb1 := M.one
    have hcb : b.cells = [b] := AV.cells_one hb1
    repeat' first
      | (simp only [Q4, Jo, reduceIte, J0])
      | (simp only [Q3, RA, Jn, Jm, Jp, Q2, Q0, ev, ofValue, Jt, J0, J3, J2, J4, reduceCtorEq, reduceIte, Ju, Qb, Qa, Jy, aun, Q9, Jk, Jh, Jx, Jw, Ji, Q8, Jf, Q1, Jr, Js, J1, J5, Ja, J9, Jb, J6, J7, Jd, J8, RB, Jv, Je, tf8LnF])
      | (simp (disch := first | omega | (simp only [RO]; done) | assumption) only [RS, X8, X9, Vp, Vq, Qu, Qv, Qq])
      | (simp (disch := (first | omega | (simp only [RO]; done) | assumption | (simp only [RM, Je]; done) | (simp only [RL, Je]; omega))) only [RD, reduceCtorEq, reduceIte, Je, J1, J3, J2, J6, tf8LnF])
    all_goals exact ⟨H2.length, m, b, ys, rfl, by first | exact Qo rfl | rw [if_pos rfl], M.ints.push _, hr, x2.pushed _⟩
  clear hK2
  obtain ⟨q, m, b, ys, k4, k5, k6, k7, k8, k17, q17, I1, hr1, x1⟩ := h
  have hb1 : b.one = true := I1.rd.one
  have hcb : b.cells = [b] := AV.cells_one hb1
  have hly := hr1.len.2
  have h8 := hr1.len.1
  refine Jj (fun K2 hK2 => ?_)
  refine Z6 (fun fr' H2 => ∃ (e : AV) (g : List Int), fr' 5 = .int .u8 w ∧ fr' 6 = .int .u8 at_ ∧ fr' 7 = .int .i64 v ∧ fr' 8 = .ptr H.length 0 ∧ fr' 17 = .ptr q 0 ∧ fr' 18 = e ∧ Mo H2 e g H1.length ∧ g.length = m ∧ (∀ x ∈ g, -1000000 < x ∧ x < 1000000) ∧ Ext H1 H2) ?_ (fun fr' H2 h => hK2 _ _ ?_)
  · clear hK2
    repeat' first
      | (with_reducible first | refine Jg ?_)
      | (simp only [Q4, Jo, reduceIte, J0])
      | (simp only [Q3, RA, Jn, Jm, Jp, Q2, Q0, ev, ofValue, Jt, J0, J3, J2, J4, reduceCtorEq, reduceIte, Ju, Qb, Qa, Jy, aun, Q9, Jk, Jh, Jx, Jw, Ji, Q8, Jf, Q1, Jr, Js, J1, J5, Ja, J9, Jb, J6, J7, Jd, J8, RB, Jv, Je, tf8LnF, k4, k5, k6, k7, k8, k17, q17])
      | (simp (disch := (first | omega | (simp only [RO]; done) | assumption | (simp only [RM, Je]; done) | (simp only [RL, Je]; omega))) only [RD, reduceCtorEq, reduceIte, Je, J1, J3, J2, J6, tf8LnF, k4, k5, k6, k7, k8, k17, q17])
    refine Jq (Vec_calls m b d ys gs H1 I1 hr1 ((hg.ext y0).ext x1) (by omega) hgb) ?_
    rintro e H2 ⟨g, O, hgl, hgr, x2⟩
    repeat' first
      | (simp only [Q4, Jo, reduceIte, J0])
      | (simp only [Q3, RA, Jn, Jm, Jp, Q2, Q0, ev, ofValue, Jt, J0, J3, J2, J4, reduceCtorEq, reduceIte, Ju, Qb, Qa, Jy, aun, Q9, Jk, Jh, Jx, Jw, Ji, Q8, Jf, Q1, Jr, Js, J1, J5, Ja, J9, Jb, J6, J7, Jd, J8, RB, Jv, Je, tf8LnF, k4, k5, k6, k7, k8, k17])
    all_goals exact ⟨e, g, rfl, O.mo, hgl, hgr, x2⟩
  clear hK2 k4 k5 k6 k7 k8 k17
  obtain ⟨e, g, k5, k6, k7, k8, k17, k18, O, hgl, hgr, x2⟩ := h
  refine Jj (fun K2 hK2 => ?_)
  repeat' first
    | (with_reducible first | refine Jj (fun K hK => ?_) | refine Qc ?_ | refine Jg ?_)
    | (simp only [Q4, Jo, reduceIte, J0])
    | ((with_reducible refine hK _ _ ?_); clear hK)
    | (simp only [Q3, RA, Jn, Jm, Jp, Q2, Q0, ev, ofValue, Jt, J0, J3, J2, J4, reduceCtorEq, reduceIte, Ju, Qb, Qa, Jy, aun, Q9, Jk, Jh, Jx, Jw, Ji, Q8, Jf, Q1, Jr, Js, J1, J5, Ja, J9, Jb, J6, J7, Jd, J8, RB, Jv, Je, tf8LnF, k5, k6, k7, k8, k17, k18])
  refine X2 (fun t fr' H2 => ∃ (i : Nat) (g : List Int), t = m - i ∧ i ≤ m ∧ fr' 5 = .int .u8 w ∧ fr' 6 = .int .u8 at_ ∧ fr' 7 = .int .i64 v ∧ fr' 8 = .ptr H.length 0 ∧ fr' 17 = .ptr q 0 ∧ fr' 18 = e ∧ fr' 19 = .int .i64 (i : Int) ∧ Mo H2 e g H1.length ∧ g.length = m ∧ (∀ x ∈ g, -1000000 < x ∧ x < 1000000) ∧ Ext H1 H2) (m := m)
    ⟨0, g, by omega, by omega, k5, k6, k7, k8, k17, k18, rfl, O, hgl, hgr, x2⟩ ?_
  clear k5 k6 k7 k8 k17 k18 O hgl hgr x2 g
  rintro t fr' H2 ⟨i, g, rfl, hi, k5, k6, k7, k8, k17, k18, k19, O, hgl, hgr, x2⟩
  have hel := O.ints.rd.len Ym
  rw [hgl] at hel
  by_cases hlt : i < m
  · have e1 : IntKind.i64.wrap ((i : Int) + 1) = ((i + 1 : Nat) : Int) := by rw [Q5 (by omega) (by omega)]; omega
    have hig : i < g.length := by omega
    obtain ⟨gh, gl⟩ := O.hd hig
    have lb := Qr gh
    have a1 := O.at_ (k := .i64) hig
    have a2 := O.ints.load1 agg2 hig
    rw [show e.of = 0 by rcases O with ⟨h1, _⟩ | ⟨_, h1, _⟩; · subst h1; simp at hig
                         · rcases h1 with rfl | rfl <;> rfl, Nat.zero_add] at a2
    obtain ⟨z, hz⟩ : ∃ z, z = (g.getD i 0).tmod 500 := ⟨_, rfl⟩
    have hzb := tmod_500 (g.getD i 0)
    rw [← hz] at hzb
    have w1 : IntKind.i64.wrap z = z := Q5 (by omega) (by omega)
    have a3 := O.put hig z
    repeat' first
      | (with_reducible first | refine Jj (fun K hK => ?_) | refine Qc ?_ | refine Q6 ?_ | refine Jg ?_ | refine Jz ?_)
      | (with_reducible refine X5 (fun hc => ?_) (fun hc => ?_) <;> (try simp only [RC] at hc) <;> (try (exfalso; first | omega | contradiction)))
      | (simp only [Q4, Jo, reduceIte, J0])
      | ((with_reducible refine hK _ _ ?_); clear hK)
      | (simp only [Q3, RA, Jn, Jm, Jp, Q2, Q0, ev, ofValue, Jt, J0, J3, J2, J4, reduceCtorEq, reduceIte, Ju, Qb, Qa, Jy, aun, Q9, Jk, Jh, Jx, Jw, Ji, Q8, Jf, Q1, Jr, Js, J1, J5, Ja, J9, Jb, J6, J7, Jd, J8, RB, Jv, Je, tf8LnF, k5, k6, k7, k8, k17, k18, k19, hel, a1, a2, ← hz, w1, a3, e1])
    all_goals
      refine ⟨_, by omega, i + 1, g.set i z, rfl, by omega, rfl, O.set hig (by rw [List.length_set]), by rw [List.length_set]; exact hgl, fun x hx => ?_, x2.set (by omega) _⟩
      rcases List.mem_or_eq_of_mem_set hx with h | h
      · exact hgr x h
      · rw [h]; omega
  · obtain rfl : i = m := by omega
    repeat' first
      | (with_reducible first | refine Jj (fun K hK => ?_) | refine Qz ?_ | refine Jg ?_ | refine Jz ?_)
      | (with_reducible refine X5 (fun hc => ?_) (fun hc => ?_) <;> (try simp only [RC] at hc) <;> (try (exfalso; first | omega | contradiction)))
      | (simp only [Q4, Jo, reduceIte, J0])
      | ((with_reducible refine hK _ _ ?_); clear hK)
      | (simp only [Q3, RA, Jn, Jm, Jp, Q2, Q0, ev, ofValue, Jt, J0, J3, J2, J4, reduceCtorEq, reduceIte, Ju, Qb, Qa, Jy, aun, Q9, Jk, Jh, Jx, Jw, Ji, Q8, Jf, Q1, Jr, Js, J1, J5, Ja, J9, Jb, J6, J7, Jd, J8, RB, Jv, Je, tf8LnF, k5, k6, k7, k8, k17, k18, k19, hel])
    refine hK2 _ _ ?_
    clear hK2 k19
    have I1' := I1.ext x2
    have q17' := Qh q17 x2
    have w0 : IntKind.i64.wrap w = w := Q5 (by omega) (by omega)
    have oe := O.ints.rd.one
    have ce := AV.cells_one oe
    have qw := Qh (Qh q8 x1) x2
    refine Jj (fun K2 hK2 => ?_)
    repeat' first
      | (with_reducible first | refine Jg ?_)
      | (simp only [Q4, Jo, reduceIte, J0])
      | (simp only [Q3, RA, Jn, Jm, Jp, Q2, Q0, ev, ofValue, Jt, J0, J3, J2, J4, reduceCtorEq, reduceIte, Ju, Qb, Qa, Jy, aun, Q9, Jk, Jh, Jx, Jw, Ji, Q8, Jf, Q1, Jr, Js, J1, J5, Ja, J9, Jb, J6, J7, Jd, J8, RB, Jv, Je, tf8LnF, k5, k6, k7, k8, k17, k18, q17', w0])
      | (simp (disch := (first | omega | (simp only [RO]; done) | assumption | (simp only [RM, Je]; done) | (simp only [RL, Je]; omega))) only [RD, reduceCtorEq, reduceIte, Je, J1, J3, J2, J6, tf8LnF, k5, k6, k7, k8, k17, k18, q17', w0])
    refine Jq (Outer_calls i ys g b e w H2 I1' hr1 O.ints hgl (by omega) (fun x hx => by have := hgr x hx; omega)) ?_
    rintro _ H3 ⟨hres, x3⟩
    have q173 := Qh q17' x3
    have qw3 := Qh qw x3
    rcases hres with ⟨b2, zs, rfl, M2, hr2, hent⟩ | rfl
    · have hb2 := M2.one
      have hcb2 : b2.cells = [b2] := AV.cells_one hb2
      have hbel := below_outer (n := i) (xs := ys) (ys := zs) (w := w) (h := fun p => g.getD p 0) hw.1 hent
      have hlz := hr2.len.2
      repeat' first
        | (simp only [Q4, Jo, reduceIte, J0])
        | (simp only [Q3, RA, Jn, Jm, Jp, Q2, Q0, ev, ofValue, Jt, J0, J3, J2, J4, reduceCtorEq, reduceIte, Ju, Qb, Qa, Jy, aun, Q9, Jk, Jh, Jx, Jw, Ji, Q8, Jf, Q1, Jr, Js, J1, J5, Ja, J9, Jb, J6, J7, Jd, J8, RB, Jv, Je, tf8LnF, k5, k6, k7, k8, k17])
        | (simp (disch := first | omega | (simp only [RO]; done) | assumption) only [RS, X8, X9, Vp, Vq, Qu, Qv, Qq])
        | (simp (disch := (first | omega | (simp only [RO]; done) | assumption | (simp only [RM, Je]; done) | (simp only [RL, Je]; omega))) only [RD, reduceCtorEq, reduceIte, Je, J1, J3, J2, J6, tf8LnF, k5, k6, k7, k8, k17])
      refine hK2 _ _ ?_
      clear hK2
      obtain ⟨H4, hH4⟩ : ∃ H4, H4 = H3 ++ [Sb i b2] := ⟨_, rfl⟩
      have x34 : Ext H3 H4 := by rw [hH4]; exact Ext.push _ _
      have q20 : Qt H4 H3.length = some (Sb i b2) := by rw [hH4]; exact Qo rfl
      rw [← hH4]
      have q174 := Qh q173 x34
      have qw4 := Qh qw3 x34
      have I2 := M2.ints.ext x34
      refine Jj (fun K hQ => ?_)
      repeat' first
        | (with_reducible first | refine Jj (fun K hK => ?_) | refine Q6 ?_ | refine Jg ?_ | refine Jz ?_)
        | (simp only [Q4, Jo, reduceIte, J0])
        | ((with_reducible refine hK _ _ ?_); clear hK)
        | (simp only [Q3, RA, Jn, Jm, Jp, Q2, Q0, ev, ofValue, Jt, J0, J3, J2, J4, reduceCtorEq, reduceIte, Ju, Qb, Qa, Jy, aun, Q9, Jk, Jh, Jx, Jw, Ji, Q8, Jf, Q1, Jr, Js, J1, J5, Ja, J9, Jb, J6, J7, Jd, J8, RB, Jv, Je, tf8LnF, k5, k6, k7, k8, k17])
      refine hQ _ _ ?_
      clear hQ
      refine Jj (fun K3 hK3 => ?_)
      refine Z6 (fun fr' H5 => ∃ (q2 : Nat) (b3 : AV), fr' 6 = .int .u8 at_ ∧ fr' 7 = .int .i64 v ∧ fr' 8 = .ptr H.length 0 ∧ fr' 17 = .ptr q 0 ∧ fr' 20 = .ptr H3.length 0 ∧ fr' 22 = .ptr q2 0 ∧ Qt H5 q2 = some (Sb i b3) ∧ Mo H5 b3 zs H4.length ∧ Ext H4 H5) ?_ (fun fr' H5 h => hK3 _ _ ?_)
      · clear hK3
        repeat' first
          | (with_reducible first | refine Jg ?_)
          | (simp only [Q4, Jo, reduceIte, J0])
          | (simp only [Q3, RA, Jn, Jm, Jp, Q2, Q0, ev, ofValue, Jt, J0, J3, J2, J4, reduceCtorEq, reduceIte, Ju, Qb, Qa, Jy, aun, Q9, Jk, Jh, Jx, Jw, Ji, Q8, Jf, Q1, Jr, Js, J1, J5, Ja, J9, Jb, J6, J7, Jd, J8, RB, Jv, Je, tf8LnF, k6, k7, k8, k17, q20])
          | (simp (disch := (first | omega | (simp only [RO]; done) | assumption | (simp only [RM, Je]; done) | (simp only [RL, Je]; omega))) only [RD, reduceCtorEq, reduceIte, Je, J1, J3, J2, J6, tf8LnF, k6, k7, k8, k17, q20])
        refine Jq (MoCopy_calls i zs b2 H4 I2 hlz) ?_
        rintro _ H5 ⟨b3, rfl, M, x5⟩
        have hb3 := M.one
        have hcb3 : b3.cells = [b3] := AV.cells_one hb3
        repeat' first
          | (simp only [Q4, Jo, reduceIte, J0])
          | (simp only [Q3, RA, Jn, Jm, Jp, Q2, Q0, ev, ofValue, Jt, J0, J3, J2, J4, reduceCtorEq, reduceIte, Ju, Qb, Qa, Jy, aun, Q9, Jk, Jh, Jx, Jw, Ji, Q8, Jf, Q1, Jr, Js, J1, J5, Ja, J9, Jb, J6, J7, Jd, J8, RB, Jv, Je, tf8LnF, k6, k7, k8, k17])
          | (simp (disch := first | omega | (simp only [RO]; done) | assumption) only [RS, X8, X9, Vp, Vq, Qu, Qv, Qq])
          | (simp (disch := (first | omega | (simp only [RO]; done) | assumption | (simp only [RM, Je]; done) | (simp only [RL, Je]; omega))) only [RD, reduceCtorEq, reduceIte, Je, J1, J3, J2, J6, tf8LnF, k6, k7, k8, k17])
        all_goals exact ⟨H5.length, b3, rfl, by first | exact Qo rfl | rw [if_pos rfl], M.push _, x5.pushed _⟩
      clear hK3 k5 k6 k7 k8 k17
      obtain ⟨q2, b3, k6, k7, k8, k17, k20, k22, q22, M3, x5⟩ := h
      have hb3 := M3.one
      have hcb3 : b3.cells = [b3] := AV.cells_one hb3
      refine Jj (fun K3 hK3 => ?_)
      refine Z6 (fun fr' H6 => ∃ (us : List Int), fr' 8 = .ptr H.length 0 ∧ fr' 17 = .ptr q 0 ∧ fr' 20 = .ptr H3.length 0 ∧ fr' 22 = .ptr q2 0 ∧ Qt H6 q2 = some (Sb i b3) ∧ Ints H6 .i64 b3 us ∧ Right i us ∧ Ext H4 H6) ?_ (fun fr' H6 h => hK3 _ _ ?_)
      · clear hK3
        have h2len := M3.ints.rd.len Ym
        by_cases hp : 0 < zs.length
        · have f0 : ((zs.length : Int) > 0) = True := eq_true (by omega)
          obtain ⟨j, hj⟩ : ∃ j : Nat, (j : Int) = at_ % (zs.length : Int) := ⟨(at_ % (zs.length : Int)).toNat, by have := Int.emod_nonneg at_ (b := (zs.length : Int)) (by omega); omega⟩
          have hjl : j < zs.length := by have := Int.emod_lt_of_pos at_ (b := (zs.length : Int)) (by omega); omega
          have w0 : IntKind.i64.wrap at_ = at_ := Q5 (by omega) (by omega)
          have w1 : at_.tmod (zs.length : Int) = (j : Int) := by rw [Ug hat.1, ← hj]
          have w1' : IntKind.i64.wrap (j : Int) = (j : Int) := Q5 (by omega) (by omega)
          have hnz : ((zs.length : Int) = 0) = False := eq_false (by omega)
          obtain ⟨w, hw⟩ : ∃ w, w = v.tmod 1073741825 := ⟨_, rfl⟩
          have hwb := tmod_rg2 (a := v) (m := 1073741825) (by decide)
          rw [← hw] at hwb
          have w2 : IntKind.i64.wrap w = w := Q5 (by omega) (by omega)
          have hati := M3.at_ (k := .i64) (i := j) hjl
          have hput := M3.put (i := j) hjl w
          obtain ⟨g1, g2⟩ := M3.hd (i := j) hjl
          have lb := Qr g1
          have hne : q2 ≠ b3.hd := by
            intro e
            rw [e, g1] at q22
            have := congrArg (fun o : Option Blk => o.map (·.ety)) q22
            revert this
            simp
          repeat' first
            | (with_reducible first | refine Jj (fun K hK => ?_) | refine Jg ?_ | refine Qw (id := 16) [] pn8_16LnF (by kernel_rfl) (by kernel_rfl) ?_ | refine Jz ?_)
            | (simp only [Q4, Jo, reduceIte, J0])
            | ((with_reducible refine hK _ _ ?_); clear hK)
            | (simp only [Q3, RA, Jn, Jm, Jp, Q2, Q0, ev, ofValue, Jt, J0, J3, J2, J4, reduceCtorEq, reduceIte, Ju, Qb, Qa, Jy, aun, Q9, Jk, Jh, Jx, Jw, Ji, Q8, Jf, Q1, Jr, Js, J1, J5, Ja, J9, Jb, J6, J7, Jd, J8, RB, Jv, Je, tf8LnF, k6, k7, k8, k17, k20, k22, q22, h2len, f0, w0, w1, w1', hnz, ← hw, w2, hati, hput])
            | (simp (disch := (first | omega | (simp only [RO]; done) | assumption | (simp only [RM, Je]; done) | (simp only [RL, Je]; omega))) only [RD, reduceCtorEq, reduceIte, Je, J1, J3, J2, J6, tf8LnF, k6, k7, k8, k17, k20, k22, q22, h2len, f0, w0, w1, w1', hnz, ← hw, w2, hati, hput])
          all_goals exact ⟨zs.set j w, by rw [Qk lb, if_neg hne]; exact q22, (M3.set hjl (by rw [List.length_set])).ints, hr2.set _ (by unfold Fit; omega), x5.set (by omega) _⟩
        · have f0 : ((zs.length : Int) > 0) = False := eq_false (by omega)
          repeat' first
            | (with_reducible first | refine Jj (fun K hK => ?_) | refine Q6 ?_ | refine Jg ?_ | refine Jz ?_)
            | (simp only [Q4, Jo, reduceIte, J0])
            | ((with_reducible refine hK _ _ ?_); clear hK)
            | (simp only [Q3, RA, Jn, Jm, Jp, Q2, Q0, ev, ofValue, Jt, J0, J3, J2, J4, reduceCtorEq, reduceIte, Ju, Qb, Qa, Jy, aun, Q9, Jk, Jh, Jx, Jw, Ji, Q8, Jf, Q1, Jr, Js, J1, J5, Ja, J9, Jb, J6, J7, Jd, J8, RB, Jv, Je, tf8LnF, k6, k7, k8, k17, k20, k22, q22, h2len, f0])
            | (simp (disch := (first | omega | (simp only [RO]; done) | assumption | (simp only [RM, Je]; done) | (simp only [RL, Je]; omega))) only [RD, reduceCtorEq, reduceIte, Je, J1, J3, J2, J6, tf8LnF, k6, k7, k8, k17, k20, k22, q22, h2len, f0])
          all_goals exact ⟨zs, M3.ints, hr2, x5⟩
      clear hK3 k6 k7 k8 k17 k20 k22 q22 M3 x5
      obtain ⟨us, k8, k17, k20, k22, q22, I3, hr3, x6⟩ := h
      have q176 := Qh q174 x6
      have qw6 := Qh qw4 x6
      have q206 := Qh q20 x6
      have yA : Ext H H4 := (((y0.trans x1).trans x2).trans x3).trans x34
      have R6zz : Ints H6 .i64 ra rs := (hra.ext yA).ext x6
      have I16 : Ints H6 .i64 b ys := ((I1'.ext x3).ext x34).ext x6
      have I26 : Ints H6 .i64 b2 zs := I2.ext x6
      have C0 := fun H0 (x0 : Ext H6 H0) => Below_calls i ys zs b b2 H0 (I16.ext x0) (I26.ext x0) hr1 hr2
      rw [hbel] at C0
      have C1 := fun H0 (x0 : Ext H6 H0) => Below_calls i ys us b b3 H0 (I16.ext x0) (I3.ext x0) hr1 hr3
      have C2 := fun H0 (x0 : Ext H6 H0) => RBelow_calls i ys us b b3 H0 (I16.ext x0) (I3.ext x0) hr1 hr3
      have C3 := fun H0 (x0 : Ext H6 H0) => Below_calls i us ys b3 b H0 (I3.ext x0) (I16.ext x0) hr3 hr1
      have C4 := fun H0 (x0 : Ext H6 H0) => RBelow_calls i us ys b3 b H0 (I3.ext x0) (I16.ext x0) hr3 hr1
      obtain ⟨⟨c5, C5, C6⟩, ⟨c7, C7, C8⟩⟩ := below_two rn rs ys ra b i H6 R6zz I16 (by omega) hr1
      generalize belowB i ys us = c1 at C1 C2
      generalize belowB i us ys = c3 at C3 C4
      have D0 := C0 H6 (Ext.refl _)
      have D1 := C1 H6 (Ext.refl _)
      have D2 := C2 H6 (Ext.refl _)
      have D3 := C3 H6 (Ext.refl _)
      have D4 := C4 H6 (Ext.refl _)
      have D5 := C5 H6 (Ext.refl _)
      have D6 := C6 H6 (Ext.refl _)
      have D7 := C7 H6 (Ext.refl _)
      have D8 := C8 H6 (Ext.refl _)
      repeat' first
        | (with_reducible first | refine Jj (fun K hK => ?_) | refine Qj ?_ | refine Qw (id := 17) [6, 15, 24, 33] pn8_17LnF (by kernel_rfl) (by kernel_rfl) ?_ | refine Z1 ?_)
        | (with_reducible refine Nv (D1) ?_)
        | (with_reducible refine Nv (D3) ?_)
        | (with_reducible refine Nv (D5) ?_)
        | (with_reducible refine Nv (D7) ?_)
        | ((with_reducible refine Jq (D0) ?_); rintro _ _ ⟨rfl, rfl⟩)
        | ((with_reducible refine Jq (D2) ?_); rintro _ _ ⟨rfl, rfl⟩)
        | ((with_reducible refine Jq (D4) ?_); rintro _ _ ⟨rfl, rfl⟩)
        | ((with_reducible refine Jq (D6) ?_); rintro _ _ ⟨rfl, rfl⟩)
        | ((with_reducible refine Jq (D8) ?_); rintro _ _ ⟨rfl, rfl⟩)
        | (simp only [Q4, Jo, reduceIte, J0])
        | ((with_reducible refine hK _ _ ?_); clear hK)
        | (simp only [Q3, RA, Jn, Jm, Jp, Q2, Q0, ev, ofValue, Jt, J0, J3, J2, J4, reduceCtorEq, reduceIte, Ju, Qb, Qa, Jy, aun, Q9, Jk, Jh, Jx, Jw, Ji, Q8, Jf, Q1, Jr, Js, J1, J5, Ja, J9, Jb, J6, J7, Jd, J8, RB, Jv, Je, tf8LnF, k8, k17, k20, k22, q176, qw6, q206, q22])
        | (simp (disch := (first | omega | (simp only [RO]; done) | assumption | (simp only [RM, Je]; done) | (simp only [RL, Je]; omega))) only [RD, reduceCtorEq, reduceIte, Je, J1, J3, J2, J6, tf8LnF, k8, k17, k20, k22, q176, qw6, q206, q22])
      all_goals
        (
         (refine Qg (rs := [.tmp 16]) rfl ?_)
         (simp only [Qx, Qd, Fr.put_some, Fr.put_none, Qe, Qf, Qi, J0, reduceIte])
         (try simp (disch := (first | omega | (simp only [RO]; done) | assumption | (simp only [RM, Je]; done) | (simp only [RL, Je]; omega))) only [RD, reduceCtorEq, reduceIte, Je, J1, J3, J2, J6, tf8LnF]))
      all_goals exact ⟨yA.trans x6, trivial⟩
    · skip
      repeat' first
        | (simp only [Q4, Jo, reduceIte, J0])
        | (simp only [Q3, RA, Jn, Jm, Jp, Q2, Q0, ev, ofValue, Jt, J0, J3, J2, J4, reduceCtorEq, reduceIte, Ju, Qb, Qa, Jy, aun, Q9, Jk, Jh, Jx, Jw, Ji, Q8, Jf, Q1, Jr, Js, J1, J5, Ja, J9, Jb, J6, J7, Jd, J8, RB, Jv, Je, tf8LnF, k5, k6, k7, k8, k17])
        | (simp (disch := (first | omega | (simp only [RO]; done) | assumption | (simp only [RM, Je]; done) | (simp only [RL, Je]; omega))) only [RD, reduceCtorEq, reduceIte, Je, J1, J3, J2, J6, tf8LnF, k5, k6, k7, k8, k17])
      refine hK2 _ _ ?_
      clear hK2
      repeat' first
        | (with_reducible first | refine Jj (fun K hK => ?_) | refine Qj ?_ | refine Jg ?_ | refine Jz ?_)
        | (simp only [Q4, Jo, reduceIte, J0])
        | ((with_reducible refine hK _ _ ?_); clear hK)
        | (simp only [Q3, RA, Jn, Jm, Jp, Q2, Q0, ev, ofValue, Jt, J0, J3, J2, J4, reduceCtorEq, reduceIte, Ju, Qb, Qa, Jy, aun, Q9, Jk, Jh, Jx, Jw, Ji, Q8, Jf, Q1, Jr, Js, J1, J5, Ja, J9, Jb, J6, J7, Jd, J8, RB, Jv, Je, tf8LnF, k5, k6, k7, k8, k17])
      all_goals
        (
         (refine Qg (rs := [.tmp 16]) rfl ?_)
         (simp only [Qx, Qd, Fr.put_some, Fr.put_none, Qe, Qf, Qi, J0, reduceIte])
         (try simp (disch := (first | omega | (simp only [RO]; done) | assumption | (simp only [RM, Je]; done) | (simp only [RL, Je]; omega))) only [RD, reduceCtorEq, reduceIte, Je, J1, J3, J2, J6, tf8LnF]))
      all_goals exact ⟨(((y0.trans x1).trans x2).trans x3).pushed _, trivial⟩
end Go.Proofs.YtfalfmfkifemeaaGreatDoor

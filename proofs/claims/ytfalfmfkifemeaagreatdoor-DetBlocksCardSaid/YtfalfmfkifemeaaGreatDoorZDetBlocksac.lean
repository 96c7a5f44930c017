/- Part 3 of the proof of the law DetBlocks: lemmas on the model's code, on this program's functions, on numbers. No condition. -/
import Derived.Test.YtfalfmfkifemeaaGreatDoorZDetBlocksab
import Derived.OpenShut
set_option linter.unusedVariables false
set_option linter.unusedSimpArgs false
open Nat renaming reduceEqDiff → J0, reduceLeDiff → J1, reduceMul → J2, reduceAdd → J3, reduceSub → J4, reduceLT → J5
open Int renaming reduceToNat → J6, reducePow → J7, reduceNeg → J8, reduceLT → J9, reduceLE → Ja, reduceEq → Jb
open And renaming intro → Jc
open Go.IntKind renaming bits → Jd
open Go.PW renaming dig_length → Je
namespace Go.Proofs.YtfalfmfkifemeaaGreatDoor
open Go.AL Go.PW Go.PD
theorem Y7 : type_of% (Jc @Z8 (Jc @Xd (Jc @Xz (Jc @Xx (Jc @Xw (@Xv)))))) := Jc @Z8 (Jc @Xd (Jc @Xz (Jc @Xx (Jc @Xw (@Xv)))))
abbrev pn23_14RgJ : Plan := (.one 0 (.one 1 (.one 2 (.one 3 (.one 4 (.one 5 (.one 7 (.one 8 (.one 9 (.pur 6 (.pur 10 (.one 11 (.one 12 .nil)))))))))))))
set_option maxRecDepth 8000
set_option maxHeartbeats 8000000 in
theorem Grow_calls (n n' : Nat) (xs : List Int) (a : AV) (k : Nat) (H : Hp) (ha : Ints H .i64 a xs) (hr : Right n xs) (hn' : n + k = n') (h8' : n' ≤ 8) : ACalls Tryz.prog 23 [Ya n a, .int .i64 (k : Int)] H fun r H' => ∃ b ys, r = .tup [Ya n' b, .int .i64 0] ∧ Mo H' b ys H.length ∧ Right n' ys ∧ (∀ p q, p < n' → q < n' → ent n' ys p q = if p < n ∧ q < n then ent n xs p q else 0) ∧ Ext H H' := by
  have ha1 : a.one = true := ha.rd.one
  have hc : a.cells = [a] := AV.cells_one ha1
  obtain ⟨h8, hlx⟩ := hr.len
  have hd : decide (Right n xs) = true := decide_eq_true hr
  have w1 : IntKind.i64.wrap (8 - (n : Int)) = 8 - (n : Int) := Q5 (by omega) (by omega)
  have w2 : IntKind.i64.wrap ((n : Int) + (k : Int)) = (n' : Int) := by rw [Q5 (by omega) (by omega)]; omega
  refine Q7 Tryz.func23 rfl (by kernel_rfl) (by kernel_rfl) ?_
  refine Jj (fun K hQ => ?_)
  repeat' first
    | (with_reducible first | refine Jj (fun K hK => ?_) | refine Q6 ?_ | refine Jg ?_ | refine Jz ?_)
    | ((with_reducible refine Jq (symRight_calls _ _ _ _ ((ha.push _).push _) hlx) ?_); rintro _ _ ⟨rfl, rfl⟩)
    | (with_reducible refine X5 (fun hc => ?_) (fun hc => ?_) <;> (try simp only [RC] at hc) <;> (try (exfalso; first | omega | contradiction)))
    | (simp only [Q4, Jo, reduceIte, J0])
    | ((with_reducible refine hK _ _ ?_); clear hK)
    | (simp only [Q3, RA, Jn, Jm, Jp, Q2, Q0, ev, ofValue, Jt, J0, J3, J2, J4, reduceCtorEq, reduceIte, Ju, Qb, Qa, Jy, aun, Q9, Jk, Jh, Jx, Jw, Ji, Q8, Jf, Q1, Jr, Js, J1, J5, Ja, J9, Jb, J6, J7, Jd, J8, RB, Jv, Je, Y7, hd, w1])
    | (simp (disch := first | omega | (simp only [RO]; done) | assumption) only [RS, X8, X9, Qu, Qv, Qq])
    | (simp (disch := (first | omega | (simp only [RO]; done) | assumption | (simp only [RM, Je]; done) | (simp only [RL, Je]; omega))) only [RD, reduceCtorEq, reduceIte, Je, J1, J3, J2, J6, Y7, hd, w1])
  refine hQ _ _ ?_
  clear hQ
  refine Jj (fun K hQ => ?_)
  repeat' first
    | (with_reducible first | refine Jj (fun K hK => ?_) | refine Q6 ?_ | refine Jg ?_ | refine Jz ?_)
    | ((with_reducible refine Jq (symRight_calls _ _ _ _ ((ha.push _).push _) hlx) ?_); rintro _ _ ⟨rfl, rfl⟩)
    | (with_reducible refine X5 (fun hc => ?_) (fun hc => ?_) <;> (try simp only [RC] at hc) <;> (try (exfalso; first | omega | contradiction)))
    | (simp only [Q4, Jo, reduceIte, J0])
    | ((with_reducible refine hK _ _ ?_); clear hK)
    | (simp only [Q3, RA, Jn, Jm, Jp, Q2, Q0, ev, ofValue, Jt, J0, J3, J2, J4, reduceCtorEq, reduceIte, Ju, Qb, Qa, Jy, aun, Q9, Jk, Jh, Jx, Jw, Ji, Q8, Jf, Q1, Jr, Js, J1, J5, Ja, J9, Jb, J6, J7, Jd, J8, RB, Jv, Je, Y7, hd, w1])
    | (simp (disch := first | omega | (simp only [RO]; done) | assumption) only [RS, X8, X9, Qu, Qv, Qq])
    | (simp (disch := (first | omega | (simp only [RO]; done) | assumption | (simp only [RM, Je]; done) | (simp only [RL, Je]; omega))) only [RD, reduceCtorEq, reduceIte, Je, J1, J3, J2, J6, Y7, hd, w1])
  refine hQ _ _ ?_
  clear hQ
  refine Jj (fun K hQ => ?_)
  repeat' first
    | (with_reducible first | refine Jj (fun K hK => ?_) | refine Q6 ?_ | refine Jg ?_ | refine Jz ?_)
    | ((with_reducible refine Jq (symRight_calls _ _ _ _ ((ha.push _).push _) hlx) ?_); rintro _ _ ⟨rfl, rfl⟩)
    | (with_reducible refine X5 (fun hc => ?_) (fun hc => ?_) <;> (try simp only [RC] at hc) <;> (try (exfalso; first | omega | contradiction)))
    | (simp only [Q4, Jo, reduceIte, J0])
    | ((with_reducible refine hK _ _ ?_); clear hK)
    | (simp only [Q3, RA, Jn, Jm, Jp, Q2, Q0, ev, ofValue, Jt, J0, J3, J2, J4, reduceCtorEq, reduceIte, Ju, Qb, Qa, Jy, aun, Q9, Jk, Jh, Jx, Jw, Ji, Q8, Jf, Q1, Jr, Js, J1, J5, Ja, J9, Jb, J6, J7, Jd, J8, RB, Jv, Je, Y7, hd, w1])
    | (simp (disch := first | omega | (simp only [RO]; done) | assumption) only [RS, X8, X9, Qu, Qv, Qq])
    | (simp (disch := (first | omega | (simp only [RO]; done) | assumption | (simp only [RM, Je]; done) | (simp only [RL, Je]; omega))) only [RD, reduceCtorEq, reduceIte, Je, J1, J3, J2, J6, Y7, hd, w1])
  refine hQ _ _ ?_
  clear hQ
  refine Jj (fun K hQ => ?_)
  repeat' first
    | (with_reducible first | refine Jj (fun K hK => ?_) | refine Q6 ?_ | refine Jg ?_ | refine Jz ?_)
    | ((with_reducible refine Jq (symRight_calls _ _ _ _ ((ha.push _).push _) hlx) ?_); rintro _ _ ⟨rfl, rfl⟩)
    | (with_reducible refine X5 (fun hc => ?_) (fun hc => ?_) <;> (try simp only [RC] at hc) <;> (try (exfalso; first | omega | contradiction)))
    | (simp only [Q4, Jo, reduceIte, J0])
    | ((with_reducible refine hK _ _ ?_); clear hK)
    | (simp only [Q3, RA, Jn, Jm, Jp, Q2, Q0, ev, ofValue, Jt, J0, J3, J2, J4, reduceCtorEq, reduceIte, Ju, Qb, Qa, Jy, aun, Q9, Jk, Jh, Jx, Jw, Ji, Q8, Jf, Q1, Jr, Js, J1, J5, Ja, J9, Jb, J6, J7, Jd, J8, RB, Jv, Je, Y7, hd, w1])
    | (simp (disch := first | omega | (simp only [RO]; done) | assumption) only [RS, X8, X9, Qu, Qv, Qq])
    | (simp (disch := (first | omega | (simp only [RO]; done) | assumption | (simp only [RM, Je]; done) | (simp only [RL, Je]; omega))) only [RD, reduceCtorEq, reduceIte, Je, J1, J3, J2, J6, Y7, hd, w1])
  refine hQ _ _ ?_
  clear hQ
  refine Jj (fun K2 hK2 => ?_)
  refine Z6 (fun fr' H1 => ∃ b h, fr' 2 = .ptr H.length 0 ∧ fr' 4 = .ptr (H.length + 1) 0 ∧ fr' 6 = .ptr h 0 ∧ Qt H1 H.length = some (Sb n a) ∧ Qt H1 (H.length + 1) = some (Sb 0 .nilS) ∧ Qt H1 h = some (Sb n' b) ∧ H.length + 2 ≤ h ∧ Mo H1 b (List.replicate (n' * (n' + 1) / 2) 0) (H.length + 2) ∧ Ext H H1) ?_ (fun fr' H1 h => hK2 _ _ ?_)
  · clear hK2
    repeat' first
      | (with_reducible first | refine Jg ?_)
      | (simp only [Q4, Jo, reduceIte, J0])
      | (simp only [Q3, RA, Jn, Jm, Jp, Q2, Q0, ev, ofValue, Jt, J0, J3, J2, J4, reduceCtorEq, reduceIte, Ju, Qb, Qa, Jy, aun, Q9, Jk, Jh, Jx, Jw, Ji, Q8, Jf, Q1, Jr, Js, J1, J5, Ja, J9, Jb, J6, J7, Jd, J8, RB, Jv, Je, Y7, w2])
      | (simp (disch := (first | omega | (simp only [RO]; done) | assumption | (simp only [RM, Je]; done) | (simp only [RL, Je]; omega))) only [RD, reduceCtorEq, reduceIte, Je, J1, J3, J2, J6, Y7, w2])
    refine Jq (MoNew_calls n' _ (by omega)) ?_
    rintro _ H2 ⟨b, rfl, m, x2⟩
    have hb1 := m.one
    have hcb : b.cells = [b] := AV.cells_one hb1
    have q4 : Qt H2 H.length = some (Sb n a) := Qh (by rw [Qp (by simp), Qo rfl]) x2
    have q8 : Qt H2 (H.length + 1) = some (Sb 0 .nilS) := Qh (Qo (by simp)) x2
    have l4 := x2.len
    simp only [List.length_append, List.length_cons, List.length_nil] at l4
    have m2 : Mo H2 b (List.replicate (n' * (n' + 1) / 2) 0) (H.length + 2) := m.low (by simp)
    repeat' first
      | (simp only [Q4, Jo, reduceIte, J0])
      | (simp only [Q3, RA, Jn, Jm, Jp, Q2, Q0, ev, ofValue, Jt, J0, J3, J2, J4, reduceCtorEq, reduceIte, Ju, Qb, Qa, Jy, aun, Q9, Jk, Jh, Jx, Jw, Ji, Q8, Jf, Q1, Jr, Js, J1, J5, Ja, J9, Jb, J6, J7, Jd, J8, RB, Jv, Je, Y7])
      | (simp (disch := first | omega | (simp only [RO]; done) | assumption) only [RS, X8, X9, Qu, Qv, Qq])
      | (simp (disch := (first | omega | (simp only [RO]; done) | assumption | (simp only [RM, Je]; done) | (simp only [RL, Je]; omega))) only [RD, reduceCtorEq, reduceIte, Je, J1, J3, J2, J6, Y7])
    all_goals
      exact ⟨b, H2.length, rfl, by first | exact q4 | exact Qh q4 (Ext.push _ _), by first | exact q8 | exact Qh q8 (Ext.push _ _), by first | exact Qo rfl | rw [if_pos rfl], by omega, m2.push _, (((Ext.push _ _).pushed _).trans x2).pushed _⟩
  clear hK2
  obtain ⟨b, h, k2, k4, k6, q2, q4, q6, lh, m, x1⟩ := h
  have hb1 := m.one
  have hcb : b.cells = [b] := AV.cells_one hb1
  repeat' first
    | (with_reducible first | refine Jj (fun K hK => ?_) | refine Qc ?_ | refine Jg ?_)
    | (simp only [Q4, Jo, reduceIte, J0])
    | ((with_reducible refine hK _ _ ?_); clear hK)
    | (simp only [Q3, RA, Jn, Jm, Jp, Q2, Q0, ev, ofValue, Jt, J0, J3, J2, J4, reduceCtorEq, reduceIte, Ju, Qb, Qa, Jy, aun, Q9, Jk, Jh, Jx, Jw, Ji, Q8, Jf, Q1, Jr, Js, J1, J5, Ja, J9, Jb, J6, J7, Jd, J8, RB, Jv, Je, Y7, k2, k4, k6, q2, q4, q6])
  refine X2 (fun l fr' H1 => ∃ (s : Nat) (ys : List Int), l = n - s ∧ s ≤ n ∧ fr' 2 = .ptr H.length 0 ∧ fr' 4 = .ptr (H.length + 1) 0 ∧ fr' 6 = .ptr h 0 ∧ fr' 7 = .int .i64 (s : Int) ∧ Qt H1 H.length = some (Sb n a) ∧ Qt H1 (H.length + 1) = some (Sb 0 .nilS) ∧ Qt H1 h = some (Sb n' b) ∧ Mo H1 b ys (H.length + 2) ∧ Right n' ys ∧ (∀ p q, p < n' → q < n' → ent n' ys p q = if p < n ∧ q < n ∧ Yb s s p q then ent n xs p q else 0) ∧ Ext H H1) (m := n)
    ⟨0, _, by omega, by omega, k2, k4, k6, rfl, q2, q4, q6, m, Uh (by omega), fun p q _ _ => by rw [if_neg (by unfold Yb; omega), Wk], x1⟩ ?_
  clear k2 k4 k6 q2 q4 q6 m x1
  rintro l fr' H1 ⟨s, ys, rfl, hs, k2, k4, k6, k7, q2, q4, q6, m, hry, hy, x1⟩
  have e1 : IntKind.i64.wrap ((s : Int) + 1) = ((s + 1 : Nat) : Int) := by rw [Q5 (by omega) (by omega)]; omega
  by_cases hlt : s < n
  · skip
    repeat' first
      | (with_reducible first | refine Jj (fun K hK => ?_) | refine Qc ?_ | refine Q6 ?_ | refine Jg ?_ | refine Jz ?_)
      | (with_reducible refine X5 (fun hc => ?_) (fun hc => ?_) <;> (try simp only [RC] at hc) <;> (try (exfalso; first | omega | contradiction)))
      | (simp only [Q4, Jo, reduceIte, J0])
      | ((with_reducible refine hK _ _ ?_); clear hK)
      | (simp only [Q3, RA, Jn, Jm, Jp, Q2, Q0, ev, ofValue, Jt, J0, J3, J2, J4, reduceCtorEq, reduceIte, Ju, Qb, Qa, Jy, aun, Q9, Jk, Jh, Jx, Jw, Ji, Q8, Jf, Q1, Jr, Js, J1, J5, Ja, J9, Jb, J6, J7, Jd, J8, RB, Jv, Je, Y7, k2, k4, k6, k7, q2, q4, q6])
      | (simp (disch := (first | omega | (simp only [RO]; done) | assumption | (simp only [RM, Je]; done) | (simp only [RL, Je]; omega))) only [RD, reduceCtorEq, reduceIte, Je, J1, J3, J2, J6, Y7, k2, k4, k6, k7, q2, q4, q6])
    refine X2 (fun l fr' H1 => ∃ (j : Nat) (ys : List Int), l = n - j ∧ s ≤ j ∧ j ≤ n ∧ fr' 2 = .ptr H.length 0 ∧ fr' 4 = .ptr (H.length + 1) 0 ∧ fr' 6 = .ptr h 0 ∧ fr' 7 = .int .i64 (s : Int) ∧ fr' 8 = .int .i64 (j : Int) ∧ Qt H1 H.length = some (Sb n a) ∧ Qt H1 (H.length + 1) = some (Sb 0 .nilS) ∧ Qt H1 h = some (Sb n' b) ∧ Mo H1 b ys (H.length + 2) ∧ Right n' ys ∧ (∀ p q, p < n' → q < n' → ent n' ys p q = if p < n ∧ q < n ∧ Yb s j p q then ent n xs p q else 0) ∧ Ext H H1) (m := n - s)
      ⟨s, ys, by omega, by omega, by omega, k2, k4, k6, k7, rfl, q2, q4, q6, m, hry, hy, x1⟩ ?_
    clear k2 k4 k6 k7 q2 q4 q6 m hry hy x1
    rintro l fr' H1 ⟨j, ys, rfl, hij, hj, k2, k4, k6, k7, k8, q2, q4, q6, m, hry, hy, x1⟩
    have e2 : IntKind.i64.wrap ((j : Int) + 1) = ((j + 1 : Nat) : Int) := by rw [Q5 (by omega) (by omega)]; omega
    by_cases hjt : j < n
    · have hsn : s < n' := by omega
      have hjn : j < n' := by omega
      have hpl := (hry.pl hsn hjn).2
      have hAt := fun H0 (x0 : ∃ E, H0 = H1 ++ E) => refAt_calls n xs a s j H0 ((ha.ext x1).ext x0) hr hlt hjt
      have hat := m.at_ (k := .i64) (i := pl n' s j) (by omega)
      have hput := m.put (i := pl n' s j) (by omega) (ent n xs s j)
      obtain ⟨g1, g2⟩ := m.hd (i := pl n' s j) (by omega)
      have lb := Qr g1
      have hset := Qk lb (Ib (ys.set (pl n' s j) (ent n xs s j)))
      have hne : h ≠ b.hd := by
        intro e
        rw [e, g1] at q6
        have := congrArg (fun o : Option Blk => o.map (·.ety)) q6
        revert this
        simp
      have hm := hAt H1 ⟨[], by simp⟩
      repeat' first
        | (with_reducible first | refine Jj (fun K hK => ?_) | refine Qc ?_ | refine Q6 ?_ | refine Jg ?_ | refine Qw (id := 14) [6, 10] pn23_14RgJ (by kernel_rfl) (by kernel_rfl) ?_ | refine Jz ?_ | refine Zs ?_)
        | (with_reducible refine Xe (fun _ x => (hAt _ x)) ?_)
        | (with_reducible refine Xe (fun _ x => (at_calls _ _ _ _ h8' hsn hjn)) ?_)
        | (with_reducible refine X5 (fun hc => ?_) (fun hc => ?_) <;> (try simp only [RC] at hc) <;> (try (exfalso; first | omega | contradiction)))
        | (simp only [Q4, Jo, reduceIte, J0])
        | ((with_reducible refine hK _ _ ?_); clear hK)
        | (simp only [Q3, RA, Jn, Jm, Jp, Q2, Q0, ev, ofValue, Jt, J0, J3, J2, J4, reduceCtorEq, reduceIte, Ju, Qb, Qa, Jy, aun, Q9, Jk, Jh, Jx, Jw, Ji, Q8, Jf, Q1, Jr, Js, J1, J5, Ja, J9, Jb, J6, J7, Jd, J8, RB, Jv, Je, Y7, k2, k4, k6, k7, k8, q2, q4, q6, hat, hput])
        | (simp (disch := (first | omega | (simp only [RO]; done) | assumption | (simp only [RM, Je]; done) | (simp only [RL, Je]; omega))) only [RD, reduceCtorEq, reduceIte, Je, J1, J3, J2, J6, Y7, k2, k4, k6, k7, k8, q2, q4, q6, hat, hput])
      all_goals
        repeat' first
          | (simp only [Q3, RA, Jn, Jm, Jp, Q2, Q0, ev, ofValue, Jt, J0, J3, J2, J4, reduceCtorEq, reduceIte, Ju, Qb, Qa, Jy, aun, Q9, Jk, Jh, Jx, Jw, Ji, Q8, Jf, Q1, Jr, Js, J1, J5, Ja, J9, Jb, J6, J7, Jd, J8, RB, Jv, Je, Y7, k2, k4, k6, k7, k8, e2])
      all_goals
        refine ⟨_, by omega, j + 1, _, rfl, by omega, by omega, rfl, by rw [hset, if_neg (by omega)]; exact q2, by rw [hset, if_neg (by omega)]; exact q4, by rw [hset, if_neg hne]; exact q6, m.set (by omega) (by rw [List.length_set]), hry.set _ (G7 hr hlt hjt), fun p q hp hq => ?_, x1.set (by omega) _⟩
        rw [Rh (by omega) hsn hjn hp hq (by omega), hy p q hp hq]
        by_cases e : (p = s ∧ q = j) ∨ (p = j ∧ q = s)
        · rw [if_pos e]
          rcases e with ⟨rfl, rfl⟩ | ⟨rfl, rfl⟩
          · rw [if_pos (by unfold Yb; omega)]
          · rw [if_pos (by unfold Yb; omega), Gi]
        · rw [if_neg e]
          have : (p < n ∧ q < n ∧ Yb s j p q) ↔ (p < n ∧ q < n ∧ Yb s (j + 1) p q) := by unfold Yb; omega
          simp only [this]
    · obtain rfl : j = n := by omega
      repeat' first
        | (with_reducible first | refine Jj (fun K hK => ?_) | refine Qz ?_ | refine Jg ?_ | refine Jz ?_)
        | (with_reducible refine X5 (fun hc => ?_) (fun hc => ?_) <;> (try simp only [RC] at hc) <;> (try (exfalso; first | omega | contradiction)))
        | (simp only [Q4, Jo, reduceIte, J0])
        | ((with_reducible refine hK _ _ ?_); clear hK)
        | (clear hK; (with_reducible refine hK _ _ ?_); clear hK)
        | (simp only [Q3, RA, Jn, Jm, Jp, Q2, Q0, ev, ofValue, Jt, J0, J3, J2, J4, reduceCtorEq, reduceIte, Ju, Qb, Qa, Jy, aun, Q9, Jk, Jh, Jx, Jw, Ji, Q8, Jf, Q1, Jr, Js, J1, J5, Ja, J9, Jb, J6, J7, Jd, J8, RB, Jv, Je, Y7, k2, k4, k6, k7, k8, q2, q4, q6, e1])
        | (simp (disch := (first | omega | (simp only [RO]; done) | assumption | (simp only [RM, Je]; done) | (simp only [RL, Je]; omega))) only [RD, reduceCtorEq, reduceIte, Je, J1, J3, J2, J6, Y7, k2, k4, k6, k7, k8, q2, q4, q6, e1])
      all_goals
        refine ⟨_, by omega, s + 1, ys, rfl, by omega, rfl, m, hry, fun p q hp hq => ?_, x1⟩
        rw [hy p q hp hq]
        have : (p < j ∧ q < j ∧ Yb s j p q) ↔ (p < j ∧ q < j ∧ Yb (s + 1) (s + 1) p q) := by unfold Yb; omega
        simp only [this]
  · obtain rfl : s = n := by omega
    have l4 := Qr q4
    repeat' first
      | (with_reducible first | refine Jj (fun K hK => ?_) | refine Qz ?_ | refine Qj ?_ | refine Jg ?_ | refine Jz ?_)
      | (with_reducible refine X5 (fun hc => ?_) (fun hc => ?_) <;> (try simp only [RC] at hc) <;> (try (exfalso; first | omega | contradiction)))
      | (simp only [Q4, Jo, reduceIte, J0])
      | ((with_reducible refine hK _ _ ?_); clear hK)
      | (clear hK; (with_reducible refine hK _ _ ?_); clear hK)
      | (simp only [Q3, RA, Jn, Jm, Jp, Q2, Q0, ev, ofValue, Jt, J0, J3, J2, J4, reduceCtorEq, reduceIte, Ju, Qb, Qa, Jy, aun, Q9, Jk, Jh, Jx, Jw, Ji, Q8, Jf, Q1, Jr, Js, J1, J5, Ja, J9, Jb, J6, J7, Jd, J8, RB, Jv, Je, Y7, k2, k4, k6, k7, q2, q4, q6])
      | (simp (disch := first | omega | (simp only [RO]; done) | assumption) only [RS, X8, X9, Qu, Qv, Qq])
      | (simp (disch := (first | omega | (simp only [RO]; done) | assumption | (simp only [RM, Je]; done) | (simp only [RL, Je]; omega))) only [RD, reduceCtorEq, reduceIte, Je, J1, J3, J2, J6, Y7, k2, k4, k6, k7, q2, q4, q6])
    all_goals
      (
       (refine Qg (rs := [.cell 4 24, .tmp 5]) rfl ?_)
       (simp only [Qx, Qd, Fr.put_some, Fr.put_none, Qe, Qf, Qi, J0, reduceIte, k4, Qk l4])
       (try simp (disch := (first | omega | (simp only [RO]; done) | assumption | (simp only [RM, Je]; done) | (simp only [RL, Je]; omega))) only [RD, reduceCtorEq, reduceIte, Je, J1, J3, J2, J6, Y7, k4, Qk l4]))
    all_goals
      refine ⟨b, ys, rfl, (m.other (by omega) l4 _).low (by omega), hry, fun p q hp hq => ?_, x1.set (by omega) _⟩
      rw [hy p q hp hq]
      have : (p < s ∧ q < s ∧ Yb s s p q) ↔ (p < s ∧ q < s) := by unfold Yb; omega
      simp only [this]
end Go.Proofs.YtfalfmfkifemeaaGreatDoor
namespace Go.Proofs.YtfalfmfkifemeaaGreatDoor
open Go.AL
theorem wf_u8 {n : Int} (h : (Lit.int .u8 n).wf = true) : 0 ≤ n ∧ n ≤ 255 := by
  simp only [Lit.wf, Bool.and_eq_true, decide_eq_true_eq] at h
  have h1 : IntKind.u8.min = 0 := by decide +kernel
  have h2 : IntKind.u8.max = 255 := by decide +kernel
  omega
theorem wf_u16 {n : Int} (h : (Lit.int .u16 n).wf = true) : 0 ≤ n ∧ n ≤ 65535 := by
  simp only [Lit.wf, Bool.and_eq_true, decide_eq_true_eq] at h
  have h1 : IntKind.u16.min = 0 := by decide +kernel
  have h2 : IntKind.u16.max = 65535 := by decide +kernel
  omega
theorem noted_first (H : Hp) (x : Ext [⟨[], .glob 0 165 3 35, 0⟩] H) : Noted H := Noted.ext ⟨0, 0, rfl⟩ x
end Go.Proofs.YtfalfmfkifemeaaGreatDoor
namespace Go.Proofs.YtfalfmfkifemeaaGreatDoor
open Go.AL Go.PW Go.PD
theorem tf18LdA : type_of% (Jc @Xz (Jc @X1 (Jc @Z3 (Jc @Z2 (Jc @Xj (Jc @Za (@Z9))))))) := Jc @Xz (Jc @X1 (Jc @Z3 (Jc @Z2 (Jc @Xj (Jc @Za (@Z9))))))
theorem tf16LdA : type_of% (Jc @Xd (Jc @Ng (Jc @Yd (Jc @Yc (@tyb87))))) := Jc @Xd (Jc @Ng (Jc @Yd (Jc @Yc (@tyb87))))
set_option maxRecDepth 8000
theorem guardW : Tryz.prog.eqGuardType Tryz.prog.depth 33 = false := by kernel_rfl
set_option maxHeartbeats 2000000 in
theorem HWide_calls (x : Int) (s : AV) (H : Hp) (hs : Bs_ H s x) (hx : (x.natAbs : Int) < Bs ^ 15) : ACalls Tryz.prog 18 [W x, BV x s] H fun r H' => r = .bool true ∧ H = H' := by
  refine ACalls.drop (R := fun r => r = .bool true) ?_
  have hs1 := hs.one
  have hc1 : s.cells = [s] := hs.cells
  have hW := fun H0 (x0 : Ext H H0) => ToWide_calls x s H0 (hs.ext x0) hx
  have he := eq_wide x
  have hg := guardW
  refine Q7 Tryz.func18 rfl (by kernel_rfl) (by kernel_rfl) ?_
  repeat' first
    | (with_reducible first | refine Jj (fun K hK => ?_) | refine Qj ?_ | refine Jg ?_)
    | ((with_reducible refine Jq (hW _ ((Ext.push _ _).pushed _)) ?_); rintro _ _ ⟨rfl, rfl⟩)
    | (simp only [Q4, Jo, reduceIte, J0])
    | ((with_reducible refine hK _ _ ?_); clear hK)
    | (simp only [Q3, RA, Jn, Jm, Jp, Q2, Q0, ev, ofValue, Jt, J0, J3, J2, J4, reduceCtorEq, reduceIte, Ju, Qb, Qa, Jy, aun, Q9, Jk, Jh, Jx, Jw, Ji, Q8, Jf, Q1, Jr, Js, J1, J5, Ja, J9, Jb, J6, J7, Jd, J8, RB, Jv, Je, tf18LdA, he, hg])
    | (simp (disch := first | omega | (simp only [RO]; done) | assumption) only [RS, X6, X7, Xs, Xq, Xr, Xp, X4, X0])
    | (simp (disch := (first | omega | (simp only [RO]; done) | assumption | (simp only [RM, Je]; done) | (simp only [RL, Je]; omega))) only [RD, reduceCtorEq, reduceIte, Je, J1, J3, J2, J6, tf18LdA, he, hg])
  all_goals
    (
     (refine Qg (rs := [.tmp 4]) rfl ?_)
     (simp only [Qx, Qd, Fr.put_some, Fr.put_none, Qe, Qf, Qi, J0, reduceIte])
     (try simp (disch := (first | omega | (simp only [RO]; done) | assumption | (simp only [RM, Je]; done) | (simp only [RL, Je]; omega))) only [RD, reduceCtorEq, reduceIte, Je, J1, J3, J2, J6, tf18LdA]))
  all_goals exact ⟨((Ext.push _ _).pushed _).pushed _, trivial⟩
set_option maxHeartbeats 2000000 in
theorem says6_err (n m : Int) (v : AV) (H : Hp) (hv : Err H v elimS m) (hN : Noted H) (hn : 0 < n ∧ n < 256) (hm : 0 < m ∧ m < 256) : ACalls Tryz.prog 16 [v, .int .i64 n] H fun r H' => r = .bool (decide (m = n)) ∧ H = H' := by
  refine ACalls.drop (R := fun r => r = .bool (decide (m = n))) ?_
  have f0 : (n = 0) = False := eq_false (by omega)
  have hC := fun H0 (x0 : Ext H H0) => code_calls elimS m v H0 (hv.ext x0) (hN.ext x0)
  refine Q7 Tryz.func16 rfl (by kernel_rfl) (by kernel_rfl) ?_
  repeat' first
    | (with_reducible first | refine Jj (fun K hK => ?_) | refine Q6 ?_ | refine Qj ?_ | refine Jg ?_ | refine Jz ?_)
    | ((with_reducible refine Jq (ops_calls elimS m v _ hv) ?_); rintro _ _ ⟨rfl, rfl⟩)
    | ((with_reducible refine Jq (hC _ ((Ext.push _ _).pushed _)) ?_); rintro _ _ ⟨rfl, rfl⟩)
    | (with_reducible refine Qn (fun hc => ?_) (fun hc => ?_) <;> (try simp only [RC] at hc) <;> (try (exfalso; first | omega | contradiction)))
    | (simp only [Q4, Jo, reduceIte, J0])
    | ((with_reducible refine hK _ _ ?_); clear hK)
    | (simp only [Q3, RA, Jn, Jm, Jp, Q2, Q0, ev, ofValue, Jt, J0, J3, J2, J4, reduceCtorEq, reduceIte, Ju, Qb, Qa, Jy, aun, Q9, Jk, Jh, Jx, Jw, Ji, Q8, Jf, Q1, Jr, Js, J1, J5, Ja, J9, Jb, J6, J7, Jd, J8, RB, Jv, Je, tf16LdA, f0])
    | (simp (disch := first | omega | (simp only [RO]; done) | assumption) only [RS, six87, gix87])
    | (simp (disch := (first | omega | (simp only [RO]; done) | assumption | (simp only [RM, Je]; done) | (simp only [RL, Je]; omega))) only [RD, reduceCtorEq, reduceIte, Je, J1, J3, J2, J6, tf16LdA, f0])
  all_goals
    (
     (refine Qg (rs := [.tmp 4]) rfl ?_)
     (simp only [Qx, Qd, Fr.put_some, Fr.put_none, Qe, Qf, Qi, J0, reduceIte])
     (try simp (disch := (first | omega | (simp only [RO]; done) | assumption | (simp only [RM, Je]; done) | (simp only [RL, Je]; omega))) only [RD, reduceCtorEq, reduceIte, Je, J1, J3, J2, J6, tf16LdA]))
  all_goals
    refine ⟨(Ext.push _ _).pushed _, trivial, ?_⟩
    first | rw [decide_eq_true (show m = n by assumption)] | rw [decide_eq_false (show ¬ m = n by assumption)]
end Go.Proofs.YtfalfmfkifemeaaGreatDoor
namespace Go.Proofs.YtfalfmfkifemeaaGreatDoor
open Go.AL Go.PW Go.PD
theorem Gs : type_of% (Jc @Z8 (Jc @Xd (Jc @Xz (Jc @Xx (Jc @Xw (Jc @Xv (Jc @X1 (Jc @Z3 (Jc @Z2 (Jc @Yd (Jc @Yc (Jc @Yo (Jc @Xj (Jc @Za (@Z9))))))))))))))) := Jc @Z8 (Jc @Xd (Jc @Xz (Jc @Xx (Jc @Xw (Jc @Xv (Jc @X1 (Jc @Z3 (Jc @Z2 (Jc @Yd (Jc @Yc (Jc @Yo (Jc @Xj (Jc @Za (@Z9))))))))))))))
abbrev pn10_5LdB : Plan := (.one 0 (.one 1 (.one 2 (.one 3 (.one 4 (.one 5 (.one 6 (.one 7 (.ext 8 (.one 9 (.one 10 (.one 11 (.one 12 (.one 13 (.one 14 (.one 15 (.one 16 (.one 17 (.one 18 (.one 19 (.one 20 (.one 21 (.one 22 (.one 23 (.one 24 (.one 25 (.one 26 (.one 27 (.one 28 (.one 29 (.one 30 .nil)))))))))))))))))))))))))))))))
set_option maxRecDepth 8000
theorem not_right_nil : ¬ Right (1 : Int) [] := fun h => by have := h.1.2.2; simp at this
theorem right_o1 (x : Int) (h : Fit x) : Right (1 : Nat) [x] := ⟨⟨by omega, by omega, by rfl⟩, fun y hy => by rw [List.mem_singleton.1 hy]; exact h⟩
theorem ints_o1 (H : Hp) (x : Int) : Ints (H ++ [Ib [x]]) .i64 (.sl H.length 0 1 1) [x] := Ints.lit H (by decide) rfl
theorem ints_lit3 (H : Hp) : Ints (H ++ [Ib [2, 1, 2]]) .i64 (.sl H.length 0 3 3) [2, 1, 2] := Ints.lit H (by decide) rfl
set_option maxHeartbeats 8000000 in
theorem known6_calls (H : Hp) (hN : Noted H) : ACalls Tryz.prog 10 [] H fun r H' => r = .bool true ∧ H = H' := by
  refine ACalls.drop (R := fun r => r = .bool true) ?_
  obtain ⟨a, ha⟩ : ∃ a : AV, a = .sl H.length 0 3 3 := ⟨_, rfl⟩
  have I : Ints (H ++ [Ib [2, 1, 2]]) .i64 a [2, 1, 2] := by rw [ha]; exact ints_lit3 H
  have R3 : Right (2 : Nat) [2, 1, 2] := ⟨⟨by omega, by omega, by rfl⟩, fun x hx => by
    simp only [List.mem_cons, List.not_mem_nil, or_false] at hx
    unfold Fit
    rcases hx with rfl | rfl | rfl <;> omega⟩
  have d1 : P (ent 2 [2, 1, 2]) 2 = 3 := by decide +kernel
  have d2 : (Yn (ent 2 [2, 1, 2]) 2 0).length = 2 := by decide +kernel
  have d3 : Ks (ent 2 [2, 1, 2]) 2 = true := by decide +kernel
  have d4 : Ks (ent 1 [0]) 1 = false := by decide +kernel
  have D1 := fun H0 (x0 : Ext (H ++ [Ib [2, 1, 2]]) H0) => Det_calls 2 [2, 1, 2] a H0 (I.ext x0) R3
  have D2 := fun H0 (x0 : Ext (H ++ [Ib [2, 1, 2]]) H0) => Definite_calls 2 [2, 1, 2] a H0 (I.ext x0) R3
  have D3 := fun H0 (x0 : Ext (H ++ [Ib [2, 1, 2]]) H0) => Minors_calls 2 [2, 1, 2] a H0 (I.ext x0) R3
  rw [d1] at D1
  rw [d3] at D2
  have ha1 : a.one = true := by rw [ha]; rfl
  have hc : a.cells = [a] := AV.cells_one ha1
  simp only [Int.cast_ofNat_Int] at D1 D2 D3
  refine Q7 Tryz.func10 rfl (by kernel_rfl) (by kernel_rfl) ?_
  repeat' first
    | (with_reducible first | refine Jj (fun K hK => ?_) | refine Jg ?_)
    | ((with_reducible refine Jq (D1 _ (Ext.push _ _)) ?_); rintro _ _ ⟨rfl, rfl⟩)
    | (simp only [Q4, Jo, reduceIte, J0])
    | ((with_reducible refine hK _ _ ?_); clear hK)
    | (simp only [Q3, RA, Jn, Jm, Jp, Q2, Q0, ev, ofValue, Jt, J0, J3, J2, J4, reduceCtorEq, reduceIte, Ju, Qb, Qa, Jy, aun, Q9, Jk, Jh, Jx, Jw, Ji, Q8, Jf, Q1, Jr, Js, J1, J5, Ja, J9, Jb, J6, J7, Jd, J8, RB, Jv, Je, Gs, ← ha])
    | (simp (disch := first | omega | (simp only [RO]; done) | assumption) only [RS, X8, X9, Zm, Zn, X6, X7, Xs, Xq, Xr, Xp, Qu, Qv, Qq, X4, X0])
    | (simp (disch := (first | omega | (simp only [RO]; done) | assumption | (simp only [RM, Je]; done) | (simp only [RL, Je]; omega))) only [RD, reduceCtorEq, reduceIte, Je, J1, J3, J2, J6, Gs, ← ha])
  refine Jq (D3 _ (((Ext.push _ _).pushed _))) ?_
  rintro _ H2 ⟨v, rfl, V, x2⟩
  have q1 : Qt H2 (H.length + 1) = some (Sb 2 a) := Qh (by rw [Qp (by simp), Qo (by simp)]) x2
  have q2 : Qt H2 (H.length + 1 + 1) = some (Wb 3) := Qh (Qo (by simp)) x2
  have hv1 : v.one = true := V.rd.one
  have hcv : v.cells = [v] := AV.cells_one hv1
  repeat' first
    | (with_reducible first | refine Jj (fun K hK => ?_) | refine Jg ?_)
    | (simp only [Q4, Jo, reduceIte, J0])
    | ((with_reducible refine hK _ _ ?_); clear hK)
    | (simp only [Q3, RA, Jn, Jm, Jp, Q2, Q0, ev, ofValue, Jt, J0, J3, J2, J4, reduceCtorEq, reduceIte, Ju, Qb, Qa, Jy, aun, Q9, Jk, Jh, Jx, Jw, Ji, Q8, Jf, Q1, Jr, Js, J1, J5, Ja, J9, Jb, J6, J7, Jd, J8, RB, Jv, Je, Gs, q1])
    | (simp (disch := first | omega | (simp only [RO]; done) | assumption) only [RS, X8, X9, Zm, Zn, X6, X7, Xs, Xq, Xr, Xp, Qu, Qv, Qq, X4, X0])
  refine Jq (Det_bad 1 [] .nilS _ (Ints.nil _ _) (by simp) not_right_nil) ?_
  rintro _ H3 ⟨e, rfl, E, x3⟩
  have he1 : e.one = true := by obtain ⟨k, rfl, _⟩ := E; rfl
  have hce : e.cells = [e] := AV.cells_one he1
  have x0 : Ext H (H3 ++ [Wb 0]) := (((((Ext.push _ _).pushed _).pushed _).trans x2).trans x3).pushed _
  have q13 := Qh (Qh q1 x3) (Ext.push H3 (Wb 0))
  have q23 := Qh (Qh q2 x3) (Ext.push H3 (Wb 0))
  have hlen := V.len
  rw [d2] at hlen
  repeat' first
    | (with_reducible first | refine Jj (fun K hK => ?_) | refine Qw (id := 5) [8] pn10_5LdB (by kernel_rfl) (by kernel_rfl) ?_ | refine Z1 ?_)
    | (simp only [Q4, Jo, reduceIte, J0])
    | ((with_reducible refine hK _ _ ?_); clear hK)
    | (simp only [Q3, RA, Jn, Jm, Jp, Q2, Q0, ev, ofValue, Jt, J0, J3, J2, J4, reduceCtorEq, reduceIte, Ju, Qb, Qa, Jy, aun, Q9, Jk, Jh, Jx, Jw, Ji, Q8, Jf, Q1, Jr, Js, J1, J5, Ja, J9, Jb, J6, J7, Jd, J8, RB, Jv, Je, Gs, Zy Yt, q13, q23, hlen])
    | (simp (disch := (first | omega | (simp only [RO]; done) | assumption | (simp only [RM, Je]; done) | (simp only [RL, Je]; omega))) only [RD, reduceCtorEq, reduceIte, Je, J1, J3, J2, J6, Gs, Zy Yt, q13, q23, hlen])
  all_goals
    refine Xi (Of_calls 3 _ (by omega)) ?_
    rintro _ H4 ⟨s, rfl, S, x4⟩
    refine ⟨x4, ?_⟩
    have hos : s.one = true := S.one
    have hcs : s.cells = [s] := S.cells
    have q14 := Qh q13 x4
    have q15 : Qt (H4 ++ [⟨[.int .i64 0], .own, 2⟩]) (H.length + 1) = some (Sb 2 a) := Qh q14 (Ext.push _ _)
    have E4 : Err H4 e elimS 23 := (E.push _).ext x4
    have N4 : Noted H4 := (hN.ext x0).ext x4
    have S4 := says6_err 23 23 e H4 E4 N4 (by omega) (by omega)
    rw [decide_eq_true rfl] at S4
    have xx : Ext (H ++ [Ib [2, 1, 2]]) H4 := ((((((Ext.push _ _).pushed _).trans x2).trans x3).pushed _).trans x4)
    have D2' := D2 _ xx
    have D4 := Definite_calls 1 [0] (.sl H4.length 0 1 1) (H4 ++ [Ib [0]]) (ints_o1 H4 0) (right_o1 0 (by unfold Fit; omega))
    rw [d4] at D4
    simp only [Int.cast_ofNat_Int, Ib, List.map_cons, List.map_nil] at D4
    have hW := HWide_calls 3 s H4 S (by decide)
    repeat' first
      | (with_reducible first | refine Qj ?_)
      | ((with_reducible refine Jq (hW) ?_); rintro _ _ ⟨rfl, rfl⟩)
      | ((with_reducible refine Jq (S4) ?_); rintro _ _ ⟨rfl, rfl⟩)
      | ((with_reducible refine Jq (D2') ?_); rintro _ _ ⟨rfl, rfl⟩)
      | ((with_reducible refine Jq (D4) ?_); rintro _ _ ⟨rfl, rfl⟩)
      | (simp only [Q4, Jo, reduceIte, J0])
      | ((with_reducible refine hK _ _ ?_); clear hK)
      | (simp only [Q3, RA, Jn, Jm, Jp, Q2, Q0, ev, ofValue, Jt, J0, J3, J2, J4, reduceCtorEq, reduceIte, Ju, Qb, Qa, Jy, aun, Q9, Jk, Jh, Jx, Jw, Ji, Q8, Jf, Q1, Jr, Js, J1, J5, Ja, J9, Jb, J6, J7, Jd, J8, RB, Jv, Je, Gs, q14, q15, hlen])
      | (simp (disch := first | omega | (simp only [RO]; done) | assumption) only [RS, X8, X9, Zm, Zn, X6, X7, Xs, Xq, Xr, Xp, Qu, Qv, Qq, X4, X0])
      | (simp (disch := (first | omega | (simp only [RO]; done) | assumption | (simp only [RM, Je]; done) | (simp only [RL, Je]; omega))) only [RD, reduceCtorEq, reduceIte, Je, J1, J3, J2, J6, Gs, q14, q15, hlen])
  all_goals
    (
     (refine Qg (rs := [.tmp 0]) rfl ?_)
     (simp only [Qx, Qd, Fr.put_some, Fr.put_none, Qe, Qf, Qi, J0, reduceIte])
     (try simp (disch := (first | omega | (simp only [RO]; done) | assumption | (simp only [RM, Je]; done) | (simp only [RL, Je]; omega))) only [RD, reduceCtorEq, reduceIte, Je, J1, J3, J2, J6, Gs]))
  all_goals exact ⟨(x0.trans x4).pushed _, trivial⟩
end Go.Proofs.YtfalfmfkifemeaaGreatDoor
namespace Go.Proofs.YtfalfmfkifemeaaGreatDoor
open Go.AL Go.PW Go.PD
set_option maxRecDepth 8000
theorem Mo.otherE {H : Hp} {a : AV} {xs : List Int} {lo : Nat} (m : Mo H a xs lo) {h : Nat} {b0 : Blk} (hg : Qt H h = some b0) (he : b0.ety ≠ 2) (b : Blk) : Mo (H.set h b) a xs lo := by
  rcases m with e | ⟨k, h1, h2, h3⟩
  · exact .inl e
  · have hne : k ≠ h := fun e => by rw [e, hg] at h2; cases h2; exact he rfl
    exact .inr ⟨k, h1, by rw [Qk (Qr hg), if_neg hne]; exact h2, h3⟩
end Go.Proofs.YtfalfmfkifemeaaGreatDoor
namespace Go.Proofs.YtfalfmfkifemeaaGreatDoor
open Go.AL Go.PW Go.PD
set_option maxRecDepth 8000
theorem P_fits {n : Nat} {xs : List Int} (hr : Right n xs) {k : Nat} (hk : k ≤ 8) : ((P (ent n xs) k).natAbs : Int) < Bs ^ 15 := by
  have h := Kp (Vi hr) hk
  have h2 : (2 ^ 530 : Nat) < 18446744073709551616 ^ 15 := by decide +kernel
  have h3 : ((18446744073709551616 ^ 15 : Nat) : Int) = Bs ^ 15 := by simp only [Bs]; decide +kernel
  rw [← h3]
  generalize (2 ^ 530 : Nat) = y at *
  generalize (18446744073709551616 ^ 15 : Nat) = z at *
  omega
end Go.Proofs.YtfalfmfkifemeaaGreatDoor
namespace Go.Proofs.YtfalfmfkifemeaaGreatDoor
open Go.AL Go.PW Go.PD
theorem Zp : type_of% (Jc @Z8 (Jc @Xd (Jc @Xz (Jc @tyb5 (Jc @Xx (Jc @Xw (Jc @Xv (Jc @Rv (Jc @Ru (Jc @X1 (Jc @Z3 (Jc @Z2 (Jc @Yd (Jc @Yc (Jc @Xj (Jc @Za (Jc @Z9 (@Rt)))))))))))))))))) := Jc @Z8 (Jc @Xd (Jc @Xz (Jc @tyb5 (Jc @Xx (Jc @Xw (Jc @Xv (Jc @Rv (Jc @Ru (Jc @X1 (Jc @Z3 (Jc @Z2 (Jc @Yd (Jc @Yc (Jc @Xj (Jc @Za (Jc @Z9 (@Rt)))))))))))))))))
abbrev pn4_13LdH : Plan := (.one 0 (.one 1 (.one 2 (.one 3 (.one 4 (.one 5 (.one 6 (.one 7 (.one 8 (.one 9 (.one 10 (.one 11 (.pur 12 (.one 13 (.one 14 (.one 15 (.one 16 (.one 17 .nil))))))))))))))))))
abbrev pn4_15LdH : Plan := (.one 0 (.one 1 (.one 2 (.one 3 (.one 4 (.one 6 (.ext 5 (.ext 7 (.ext 8 (.one 9 (.one 10 (.one 11 (.one 12 (.one 14 (.ext 13 (.one 15 (.one 16 (.one 17 (.one 18 (.one 19 (.one 20 (.one 21 (.one 22 .nil)))))))))))))))))))))))
set_option maxRecDepth 8000
set_option maxHeartbeats 16000000 in
theorem detBlocks_calls (n k dg eg : Int) (hs gs : List Int) (c d : AV) (H : Hp) (hN : Noted H) (hn : 0 ≤ n ∧ n ≤ 255) (hk : 0 ≤ k ∧ k ≤ 255) (hdg : 0 ≤ dg ∧ dg ≤ 65535) (heg : 0 ≤ eg ∧ eg ≤ 65535) (hh : Ints H .i16 c hs) (hg : Ints H .i16 d gs) : ACalls Tryz.prog 4 [.int .u8 n, .int .u8 k, .int .u16 dg, .int .u16 eg, c, d] H fun r H' => r = .bool true ∧ H = H' := by
  refine ACalls.drop (R := fun r => r = .bool true) ?_
  have hlen := hh.rd.len K8
  have hglen := hg.rd.len K8
  by_cases h60 : (hs.length : Int) > 60
  · have f60 : ((hs.length : Int) > 60) = True := eq_true h60
    refine Q7 Tryz.func4 rfl (by kernel_rfl) (by kernel_rfl) ?_
    repeat' first
      | (with_reducible first | refine Jj (fun K hK => ?_) | refine Q6 ?_ | refine Qj ?_ | refine Jg ?_ | refine Jz ?_)
      | ((with_reducible refine Jq (known6_calls _ hN) ?_); rintro _ _ ⟨rfl, rfl⟩)
      | (with_reducible refine Qn (fun hc => ?_) (fun hc => ?_) <;> (try simp only [RC] at hc) <;> (try (exfalso; first | omega | contradiction)))
      | (simp only [Q4, Jo, reduceIte, J0])
      | ((with_reducible refine hK _ _ ?_); clear hK)
      | (simp only [Q3, RA, Jn, Jm, Jp, Q2, Q0, ev, ofValue, Jt, J0, J3, J2, J4, reduceCtorEq, reduceIte, Ju, Qb, Qa, Jy, aun, Q9, Jk, Jh, Jx, Jw, Ji, Q8, Jf, Q1, Jr, Js, J1, J5, Ja, J9, Jb, J6, J7, Jd, J8, RB, Jv, Je, Zp, hlen, f60])
    all_goals
      (
       (refine Qg (rs := [.tmp 12]) rfl ?_)
       (simp only [Qx, Qd, Fr.put_some, Fr.put_none, Qe, Qf, Qi, J0, reduceIte])
       (try simp (disch := (first | omega | (simp only [RO]; done) | assumption | (simp only [RM, Je]; done) | (simp only [RL, Je]; omega))) only [RD, reduceCtorEq, reduceIte, Je, J1, J3, J2, J6, Zp]))
    all_goals exact ⟨Ext.refl _, trivial⟩
  have f60 : ((hs.length : Int) > 60) = False := eq_false h60
  by_cases g60 : (gs.length : Int) > 60
  · have f61 : ((gs.length : Int) > 60) = True := eq_true g60
    refine Q7 Tryz.func4 rfl (by kernel_rfl) (by kernel_rfl) ?_
    repeat' first
      | (with_reducible first | refine Jj (fun K hK => ?_) | refine Q6 ?_ | refine Qj ?_ | refine Jg ?_ | refine Jz ?_)
      | ((with_reducible refine Jq (known6_calls _ hN) ?_); rintro _ _ ⟨rfl, rfl⟩)
      | (with_reducible refine Qn (fun hc => ?_) (fun hc => ?_) <;> (try simp only [RC] at hc) <;> (try (exfalso; first | omega | contradiction)))
      | (simp only [Q4, Jo, reduceIte, J0])
      | ((with_reducible refine hK _ _ ?_); clear hK)
      | (simp only [Q3, RA, Jn, Jm, Jp, Q2, Q0, ev, ofValue, Jt, J0, J3, J2, J4, reduceCtorEq, reduceIte, Ju, Qb, Qa, Jy, aun, Q9, Jk, Jh, Jx, Jw, Ji, Q8, Jf, Q1, Jr, Js, J1, J5, Ja, J9, Jb, J6, J7, Jd, J8, RB, Jv, Je, Zp, hlen, hglen, f60, f61])
    all_goals
      (
       (refine Qg (rs := [.tmp 12]) rfl ?_)
       (simp only [Qx, Qd, Fr.put_some, Fr.put_none, Qe, Qf, Qi, J0, reduceIte])
       (try simp (disch := (first | omega | (simp only [RO]; done) | assumption | (simp only [RM, Je]; done) | (simp only [RL, Je]; omega))) only [RD, reduceCtorEq, reduceIte, Je, J1, J3, J2, J6, Zp]))
    all_goals exact ⟨Ext.refl _, trivial⟩
  have f61 : ((gs.length : Int) > 60) = False := eq_false g60
  have w1 : n.tmod 4 = n % 4 := Ug hn.1
  have w2 : k.tmod 4 = k % 4 := Ug hk.1
  have w3 : IntKind.u8.wrap (n % 4) = n % 4 := by rw [u8_wrap]; omega
  have w4 : IntKind.u8.wrap (k % 4) = k % 4 := by rw [u8_wrap]; omega
  refine Q7 Tryz.func4 rfl (by kernel_rfl) (by kernel_rfl) ?_
  refine Jj (fun K hQ => ?_)
  repeat' first
    | (with_reducible first | refine Jj (fun K hK => ?_) | refine Q6 ?_ | refine Jg ?_ | refine Jz ?_)
    | ((with_reducible refine Jq (known6_calls _ hN) ?_); rintro _ _ ⟨rfl, rfl⟩)
    | (with_reducible refine Qn (fun hc => ?_) (fun hc => ?_) <;> (try simp only [RC] at hc) <;> (try (exfalso; first | omega | contradiction)))
    | (simp only [Q4, Jo, reduceIte, J0])
    | ((with_reducible refine hK _ _ ?_); clear hK)
    | (simp only [Q3, RA, Jn, Jm, Jp, Q2, Q0, ev, ofValue, Jt, J0, J3, J2, J4, reduceCtorEq, reduceIte, Ju, Qb, Qa, Jy, aun, Q9, Jk, Jh, Jx, Jw, Ji, Q8, Jf, Q1, Jr, Js, J1, J5, Ja, J9, Jb, J6, J7, Jd, J8, RB, Jv, Je, Zp, hlen, hglen, f60, f61])
  refine hQ _ _ ?_
  clear hQ
  refine Jj (fun K hQ => ?_)
  repeat' first
    | (with_reducible first | refine Jj (fun K hK => ?_) | refine Q6 ?_ | refine Jg ?_ | refine Jz ?_)
    | ((with_reducible refine Jq (known6_calls _ hN) ?_); rintro _ _ ⟨rfl, rfl⟩)
    | (with_reducible refine Qn (fun hc => ?_) (fun hc => ?_) <;> (try simp only [RC] at hc) <;> (try (exfalso; first | omega | contradiction)))
    | (simp only [Q4, Jo, reduceIte, J0])
    | ((with_reducible refine hK _ _ ?_); clear hK)
    | (simp only [Q3, RA, Jn, Jm, Jp, Q2, Q0, ev, ofValue, Jt, J0, J3, J2, J4, reduceCtorEq, reduceIte, Ju, Qb, Qa, Jy, aun, Q9, Jk, Jh, Jx, Jw, Ji, Q8, Jf, Q1, Jr, Js, J1, J5, Ja, J9, Jb, J6, J7, Jd, J8, RB, Jv, Je, Zp, hlen, hglen, f60, f61])
  refine hQ _ _ ?_
  clear hQ
  refine Jj (fun K hQ => ?_)
  repeat' first
    | (with_reducible first | refine Jj (fun K hK => ?_) | refine Q6 ?_ | refine Jg ?_ | refine Jz ?_)
    | ((with_reducible refine Jq (known6_calls _ hN) ?_); rintro _ _ ⟨rfl, rfl⟩)
    | (with_reducible refine Qn (fun hc => ?_) (fun hc => ?_) <;> (try simp only [RC] at hc) <;> (try (exfalso; first | omega | contradiction)))
    | (simp only [Q4, Jo, reduceIte, J0])
    | ((with_reducible refine hK _ _ ?_); clear hK)
    | (simp only [Q3, RA, Jn, Jm, Jp, Q2, Q0, ev, ofValue, Jt, J0, J3, J2, J4, reduceCtorEq, reduceIte, Ju, Qb, Qa, Jy, aun, Q9, Jk, Jh, Jx, Jw, Ji, Q8, Jf, Q1, Jr, Js, J1, J5, Ja, J9, Jb, J6, J7, Jd, J8, RB, Jv, Je, Zp, hlen, hglen, f60, f61])
  refine hQ _ _ ?_
  clear hQ
  refine Jj (fun K2 hK2 => ?_)
  refine Z6 (fun fr' H1 => ∃ (q1 q2 m l : Nat) (a b : AV) (xs ys : List Int), fr' 13 = .ptr q1 0 ∧ fr' 14 = .ptr q2 0 ∧ m ≤ 3 ∧ l ≤ 3 ∧ Qt H1 q1 = some (Sb m a) ∧ Qt H1 q2 = some (Sb l b) ∧ Ints H1 .i64 a xs ∧ Ints H1 .i64 b ys ∧ Right m xs ∧ Right l ys ∧ Ext H H1) ?_ (fun fr' H1 h => hK2 _ _ ?_)
  · clear hK2
    repeat' first
      | (with_reducible first | refine Jg ?_)
      | (simp only [Q4, Jo, reduceIte, J0])
      | (simp only [Q3, RA, Jn, Jm, Jp, Q2, Q0, ev, ofValue, Jt, J0, J3, J2, J4, reduceCtorEq, reduceIte, Ju, Qb, Qa, Jy, aun, Q9, Jk, Jh, Jx, Jw, Ji, Q8, Jf, Q1, Jr, Js, J1, J5, Ja, J9, Jb, J6, J7, Jd, J8, RB, Jv, Je, Zp, w1, w2, w3, w4])
    refine Jq (Sym_calls (n % 4) dg hs c _ (by omega) hdg hh (by omega)) ?_
    rintro _ H2 ⟨m, a, xs, rfl, hm, M, hr, x2⟩
    have ha1 := M.one
    have hca : a.cells = [a] := AV.cells_one ha1
    repeat' first
      | (simp only [Q3, RA, Jn, Jm, Jp, Q2, Q0, ev, ofValue, Jt, J0, J3, J2, J4, reduceCtorEq, reduceIte, Ju, Qb, Qa, Jy, aun, Q9, Jk, Jh, Jx, Jw, Ji, Q8, Jf, Q1, Jr, Js, J1, J5, Ja, J9, Jb, J6, J7, Jd, J8, RB, Jv, Je, Zp, w1, w2, w3, w4])
    refine Jq (Sym_calls (k % 4) eg gs d _ (by omega) heg (hg.ext x2) (by omega)) ?_
    rintro _ H3 ⟨l, b, ys, rfl, hl, N, hr2, x3⟩
    have hb1 := N.one
    have hcb : b.cells = [b] := AV.cells_one hb1
    repeat' first
      | (simp only [Q4, Jo, reduceIte, J0])
      | (simp only [Q3, RA, Jn, Jm, Jp, Q2, Q0, ev, ofValue, Jt, J0, J3, J2, J4, reduceCtorEq, reduceIte, Ju, Qb, Qa, Jy, aun, Q9, Jk, Jh, Jx, Jw, Ji, Q8, Jf, Q1, Jr, Js, J1, J5, Ja, J9, Jb, J6, J7, Jd, J8, RB, Jv, Je, Zp])
      | (simp (disch := first | omega | (simp only [RO]; done) | assumption) only [RS, X8, X9, Vp, Vq, X6, X7, Xs, Xq, Xr, Xp, Qu, Qv, Qq, X4, X0])
      | (simp (disch := (first | omega | (simp only [RO]; done) | assumption | (simp only [RM, Je]; done) | (simp only [RL, Je]; omega))) only [RD, reduceCtorEq, reduceIte, Je, J1, J3, J2, J6, Zp])
    all_goals exact ⟨H3.length, H3.length + 1, m, l, a, b, xs, ys, rfl, rfl, by omega, by omega, by rw [if_neg (by omega), if_pos rfl], by rw [if_pos rfl], ((M.ints.ext x3).push _).push _, (N.ints.push _).push _, hr, hr2, ((x2.trans x3).pushed _).pushed _⟩
  clear hK2
  obtain ⟨q1, q2, m, l, a, b, xs, ys, k13, k14, hm3, hl3, g1, g2, I1, I2, hr1, hr2, x1⟩ := h
  have ha1 : a.one = true := I1.rd.one
  have hca : a.cells = [a] := AV.cells_one ha1
  have hb1 : b.one = true := I2.rd.one
  have hcb : b.cells = [b] := AV.cells_one hb1
  refine Jj (fun K2 hK2 => ?_)
  refine Z6 (fun fr' H2 => ∃ (q3 : Nat) (e : AV) (zs : List Int), fr' 13 = .ptr q1 0 ∧ fr' 14 = .ptr q2 0 ∧ fr' 15 = .ptr q3 0 ∧ H1.length ≤ q3 ∧ Qt H2 q3 = some (Sb ((m + l : Nat) : Int) e) ∧ Ints H2 .i64 e zs ∧ Right ((m + l : Nat) : Int) zs ∧ BlkUp m l xs ys 0 0 zs ∧ Ext H1 H2) ?_ (fun fr' H2 h => hK2 _ _ ?_)
  · clear hK2
    repeat' first
      | (with_reducible first | refine Jg ?_)
      | (simp only [Q4, Jo, reduceIte, J0])
      | (simp only [Q3, RA, Jn, Jm, Jp, Q2, Q0, ev, ofValue, Jt, J0, J3, J2, J4, reduceCtorEq, reduceIte, Ju, Qb, Qa, Jy, aun, Q9, Jk, Jh, Jx, Jw, Ji, Q8, Jf, Q1, Jr, Js, J1, J5, Ja, J9, Jb, J6, J7, Jd, J8, RB, Jv, Je, Zp, k13, k14, g1, g2])
      | (simp (disch := (first | omega | (simp only [RO]; done) | assumption | (simp only [RM, Je]; done) | (simp only [RL, Je]; omega))) only [RD, reduceCtorEq, reduceIte, Je, J1, J3, J2, J6, Zp, k13, k14, g1, g2])
    refine Jq (Grow_calls m (m + l) xs a l _ I1 hr1 rfl (by omega)) ?_
    rintro _ H2 ⟨e, zs, rfl, M, hr, hz, x2⟩
    have he1 := M.one
    have hce : e.cells = [e] := AV.cells_one he1
    have l2 := x2.len
    repeat' first
      | (simp only [Q4, Jo, reduceIte, J0])
      | (simp only [Q3, RA, Jn, Jm, Jp, Q2, Q0, ev, ofValue, Jt, J0, J3, J2, J4, reduceCtorEq, reduceIte, Ju, Qb, Qa, Jy, aun, Q9, Jk, Jh, Jx, Jw, Ji, Q8, Jf, Q1, Jr, Js, J1, J5, Ja, J9, Jb, J6, J7, Jd, J8, RB, Jv, Je, Zp, k13, k14])
      | (simp (disch := first | omega | (simp only [RO]; done) | assumption) only [RS, X8, X9, Vp, Vq, X6, X7, Xs, Xq, Xr, Xp, Qu, Qv, Qq, X4, X0])
      | (simp (disch := (first | omega | (simp only [RO]; done) | assumption | (simp only [RM, Je]; done) | (simp only [RL, Je]; omega))) only [RD, reduceCtorEq, reduceIte, Je, J1, J3, J2, J6, Zp, k13, k14])
    all_goals
      refine ⟨H2.length, e, zs, rfl, by omega, by first | exact Qo rfl | rw [if_pos rfl], M.ints.push _, hr, fun x y hx hy => ?_, x2.pushed _⟩
      rw [hz x y hx hy]
      exact ite_congr rfl (fun _ => rfl) (fun _ => by rw [if_neg (by unfold Yb; omega)])
  clear hK2 k13 k14
  obtain ⟨q3, e, zs, k13, k14, k15, lq3, g3, I3, hr3, B, x2⟩ := h
  refine Jj (fun K2 hK2 => ?_)
  repeat' first
    | (with_reducible first | refine Jj (fun K hK => ?_) | refine Qc ?_ | refine Jg ?_)
    | (simp only [Q4, Jo, reduceIte, J0])
    | ((with_reducible refine hK _ _ ?_); clear hK)
    | (simp only [Q3, RA, Jn, Jm, Jp, Q2, Q0, ev, ofValue, Jt, J0, J3, J2, J4, reduceCtorEq, reduceIte, Ju, Qb, Qa, Jy, aun, Q9, Jk, Jh, Jx, Jw, Ji, Q8, Jf, Q1, Jr, Js, J1, J5, Ja, J9, Jb, J6, J7, Jd, J8, RB, Jv, Je, Zp, k13, k14, k15])
  refine X2 (fun t fr' H2 => ∃ (i : Nat) (e : AV) (zs : List Int), t = l - i ∧ i ≤ l ∧ fr' 13 = .ptr q1 0 ∧ fr' 14 = .ptr q2 0 ∧ fr' 15 = .ptr q3 0 ∧ fr' 17 = .int .i64 (i : Int) ∧ Qt H2 q3 = some (Sb ((m + l : Nat) : Int) e) ∧ Ints H2 .i64 e zs ∧ Right ((m + l : Nat) : Int) zs ∧ BlkUp m l xs ys i i zs ∧ Ext H1 H2) (m := l)
    ⟨0, e, zs, by omega, by omega, k13, k14, k15, rfl, g3, I3, hr3, B, x2⟩ ?_
  clear k13 k14 k15 g3 I3 hr3 B x2 e zs
  rintro t fr' H2 ⟨i, e, zs, rfl, hi, k13, k14, k15, k17, g3, I3, hr3, B, x2⟩
  have e1 : IntKind.i64.wrap ((i : Int) + 1) = ((i + 1 : Nat) : Int) := by rw [Q5 (by omega) (by omega)]; omega
  have g22 := Qh g2 x2
  by_cases hlt : i < l
  · skip
    refine Jj (fun K hQ => ?_)
    repeat' first
      | (with_reducible first | refine Jj (fun K hK => ?_) | refine Q6 ?_ | refine Jg ?_ | refine Jz ?_)
      | (with_reducible refine X5 (fun hc => ?_) (fun hc => ?_) <;> (try simp only [RC] at hc) <;> (try (exfalso; first | omega | contradiction)))
      | (simp only [Q4, Jo, reduceIte, J0])
      | ((with_reducible refine hK _ _ ?_); clear hK)
      | (simp only [Q3, RA, Jn, Jm, Jp, Q2, Q0, ev, ofValue, Jt, J0, J3, J2, J4, reduceCtorEq, reduceIte, Ju, Qb, Qa, Jy, aun, Q9, Jk, Jh, Jx, Jw, Ji, Q8, Jf, Q1, Jr, Js, J1, J5, Ja, J9, Jb, J6, J7, Jd, J8, RB, Jv, Je, Zp, k13, k14, k15, k17, g22])
      | (simp (disch := (first | omega | (simp only [RO]; done) | assumption | (simp only [RM, Je]; done) | (simp only [RL, Je]; omega))) only [RD, reduceCtorEq, reduceIte, Je, J1, J3, J2, J6, Zp, k13, k14, k15, k17, g22])
    refine hQ _ _ ?_
    clear hQ
    refine Jj (fun K3 hK3 => ?_)
    refine Qc ?_
    repeat' first
      | (with_reducible first | refine Jj (fun K hK => ?_) | refine Qc ?_ | refine Jg ?_)
      | (simp only [Q4, Jo, reduceIte, J0])
      | ((with_reducible refine hK _ _ ?_); clear hK)
      | (simp only [Q3, RA, Jn, Jm, Jp, Q2, Q0, ev, ofValue, Jt, J0, J3, J2, J4, reduceCtorEq, reduceIte, Ju, Qb, Qa, Jy, aun, Q9, Jk, Jh, Jx, Jw, Ji, Q8, Jf, Q1, Jr, Js, J1, J5, Ja, J9, Jb, J6, J7, Jd, J8, RB, Jv, Je, Zp, k13, k14, k15, k17])
    refine X2 (fun t fr' H2 => ∃ (j : Nat) (e : AV) (zs : List Int), t = l - j ∧ i ≤ j ∧ j ≤ l ∧ fr' 13 = .ptr q1 0 ∧ fr' 14 = .ptr q2 0 ∧ fr' 15 = .ptr q3 0 ∧ fr' 17 = .int .i64 (i : Int) ∧ fr' 18 = .int .i64 (j : Int) ∧ Qt H2 q3 = some (Sb ((m + l : Nat) : Int) e) ∧ Ints H2 .i64 e zs ∧ Right ((m + l : Nat) : Int) zs ∧ BlkUp m l xs ys i j zs ∧ Ext H1 H2) (m := l - i)
      ⟨i, e, zs, rfl, by omega, by omega, k13, k14, k15, k17, rfl, g3, I3, hr3, B, x2⟩ ?_
    clear k13 k14 k15 k17 g3 I3 hr3 B x2 e zs g22
    rintro t fr' H2 ⟨j, e, zs, rfl, hij, hj, k13, k14, k15, k17, k18, g3, I3, hr3, B, x2⟩
    have e2 : IntKind.i64.wrap ((j : Int) + 1) = ((j + 1 : Nat) : Int) := by rw [Q5 (by omega) (by omega)]; omega
    have g12 := Qh g1 x2
    have g22 := Qh g2 x2
    have he1 : e.one = true := I3.rd.one
    have hce : e.cells = [e] := AV.cells_one he1
    by_cases hjt : j < l
    · have w5 : IntKind.i64.wrap ((m : Int) + (i : Int)) = ((m + i : Nat) : Int) := by rw [Q5 (by omega) (by omega)]; omega
      have w6 : IntKind.i64.wrap ((m : Int) + (j : Int)) = ((m + j : Nat) : Int) := by rw [Q5 (by omega) (by omega)]; omega
      have hAt := fun H0 (x0 : ∃ E, H0 = H2 ++ E) => refAt_calls l ys b i j H0 ((I2.ext x2).ext x0) hr2 hlt hjt
      have hm := hAt H2 ⟨[], by simp⟩
      have hpl := (hr3.pl (i := m + i) (j := m + j) (by omega) (by omega)).2
      repeat' first
        | (with_reducible first | refine Jj (fun K hK => ?_) | refine Qc ?_ | refine Q6 ?_ | refine Jg ?_ | refine Qw (id := 13) [12] pn4_13LdH (by kernel_rfl) (by kernel_rfl) ?_ | refine Jz ?_ | refine Zs ?_)
        | (with_reducible refine Xe (fun _ x => (hAt _ x)) ?_)
        | (with_reducible refine X5 (fun hc => ?_) (fun hc => ?_) <;> (try simp only [RC] at hc) <;> (try (exfalso; first | omega | contradiction)))
        | (simp only [Q4, Jo, reduceIte, J0])
        | ((with_reducible refine hK _ _ ?_); clear hK)
        | (simp only [Q3, RA, Jn, Jm, Jp, Q2, Q0, ev, ofValue, Jt, J0, J3, J2, J4, reduceCtorEq, reduceIte, Ju, Qb, Qa, Jy, aun, Q9, Jk, Jh, Jx, Jw, Ji, Q8, Jf, Q1, Jr, Js, J1, J5, Ja, J9, Jb, J6, J7, Jd, J8, RB, Jv, Je, Zp, k13, k14, k15, k17, k18, g12, g22, g3, w5, w6])
        | (simp (disch := (first | omega | (simp only [RO]; done) | assumption | (simp only [RM, Je]; done) | (simp only [RL, Je]; omega))) only [RD, reduceCtorEq, reduceIte, Je, J1, J3, J2, J6, Zp, k13, k14, k15, k17, k18, g12, g22, g3, w5, w6])
      refine Jq (Set_calls (m + l) zs e (m + i) (m + j) (ent l ys i j) _ I3 hr3 (by omega) (by omega) (G7 hr2 hlt hjt)) ?_
      rintro _ H3 ⟨e3, rfl, M3, x3⟩
      have he3 := M3.one
      have hce3 : e3.cells = [e3] := AV.cells_one he3
      have g33 := Qh g3 x3
      have l33 := Qr g33
      have M4 := M3.otherE g33 (show (24 : Nat) ≠ 2 by decide) (Sb ((m + l : Nat) : Int) e3)
      repeat' first
        | (with_reducible first | refine Jg ?_)
        | (simp only [Q4, Jo, reduceIte, J0])
        | ((with_reducible refine hK _ _ ?_); clear hK)
        | (simp only [Q3, RA, Jn, Jm, Jp, Q2, Q0, ev, ofValue, Jt, J0, J3, J2, J4, reduceCtorEq, reduceIte, Ju, Qb, Qa, Jy, aun, Q9, Jk, Jh, Jx, Jw, Ji, Q8, Jf, Q1, Jr, Js, J1, J5, Ja, J9, Jb, J6, J7, Jd, J8, RB, Jv, Je, Zp, k13, k14, k15, k17, k18, g33, e2])
        | (simp (disch := first | omega | (simp only [RO]; done) | assumption) only [RS, X8, X9, Vp, Vq, X6, X7, Xs, Xq, Xr, Xp, Qu, Qv, Qq, X4, X0])
        | (simp (disch := (first | omega | (simp only [RO]; done) | assumption | (simp only [RM, Je]; done) | (simp only [RL, Je]; omega))) only [RD, reduceCtorEq, reduceIte, Je, J1, J3, J2, J6, Zp, k13, k14, k15, k17, k18, g33, e2])
      all_goals
        exact ⟨_, by omega, j + 1, e3, _, rfl, by omega, by omega, rfl, by rw [Qk l33, if_pos rfl], M4.ints, hr3.set _ (G7 hr2 hlt hjt), B.step (by omega) hij hjt (by omega), (x2.trans x3).set (by omega) _⟩
    · obtain rfl : j = l := by omega
      repeat' first
        | (with_reducible first | refine Jj (fun K hK => ?_) | refine Qz ?_ | refine Jg ?_ | refine Jz ?_)
        | (with_reducible refine X5 (fun hc => ?_) (fun hc => ?_) <;> (try simp only [RC] at hc) <;> (try (exfalso; first | omega | contradiction)))
        | (simp only [Q4, Jo, reduceIte, J0])
        | ((with_reducible refine hK _ _ ?_); clear hK)
        | (simp only [Q3, RA, Jn, Jm, Jp, Q2, Q0, ev, ofValue, Jt, J0, J3, J2, J4, reduceCtorEq, reduceIte, Ju, Qb, Qa, Jy, aun, Q9, Jk, Jh, Jx, Jw, Ji, Q8, Jf, Q1, Jr, Js, J1, J5, Ja, J9, Jb, J6, J7, Jd, J8, RB, Jv, Je, Zp, k13, k14, k15, k17, k18, g22])
        | (simp (disch := (first | omega | (simp only [RO]; done) | assumption | (simp only [RM, Je]; done) | (simp only [RL, Je]; omega))) only [RD, reduceCtorEq, reduceIte, Je, J1, J3, J2, J6, Zp, k13, k14, k15, k17, k18, g22])
      refine hK3 _ _ ?_
      repeat' first
        | (with_reducible first | refine Jg ?_)
        | (simp only [Q4, Jo, reduceIte, J0])
        | (simp only [Q3, RA, Jn, Jm, Jp, Q2, Q0, ev, ofValue, Jt, J0, J3, J2, J4, reduceCtorEq, reduceIte, Ju, Qb, Qa, Jy, aun, Q9, Jk, Jh, Jx, Jw, Ji, Q8, Jf, Q1, Jr, Js, J1, J5, Ja, J9, Jb, J6, J7, Jd, J8, RB, Jv, Je, Zp, k13, k14, k15, k17, e1])
      exact ⟨_, by omega, i + 1, e, zs, rfl, by omega, rfl, g3, I3, hr3, B.row, x2⟩
  · obtain rfl : i = l := by omega
    repeat' first
      | (with_reducible first | refine Jj (fun K hK => ?_) | refine Qz ?_ | refine Jg ?_ | refine Jz ?_)
      | (with_reducible refine X5 (fun hc => ?_) (fun hc => ?_) <;> (try simp only [RC] at hc) <;> (try (exfalso; first | omega | contradiction)))
      | (simp only [Q4, Jo, reduceIte, J0])
      | ((with_reducible refine hK _ _ ?_); clear hK)
      | (simp only [Q3, RA, Jn, Jm, Jp, Q2, Q0, ev, ofValue, Jt, J0, J3, J2, J4, reduceCtorEq, reduceIte, Ju, Qb, Qa, Jy, aun, Q9, Jk, Jh, Jx, Jw, Ji, Q8, Jf, Q1, Jr, Js, J1, J5, Ja, J9, Jb, J6, J7, Jd, J8, RB, Jv, Je, Zp, k13, k14, k15, k17, g22])
      | (simp (disch := (first | omega | (simp only [RO]; done) | assumption | (simp only [RM, Je]; done) | (simp only [RL, Je]; omega))) only [RD, reduceCtorEq, reduceIte, Je, J1, J3, J2, J6, Zp, k13, k14, k15, k17, g22])
    refine hK2 _ _ ?_
    have g12 := Qh g1 x2
    have he1 : e.one = true := I3.rd.one
    have hce : e.cells = [e] := AV.cells_one he1
    obtain ⟨hv1, hv2⟩ := B.vals
    have hpos := B.pos
    have hdet : P (ent (m + i) zs) (m + i) = P (ent m xs) m * P (ent i ys) i := hv2 i (Nat.le_refl _)
    have I1' := I1.ext x2
    have I2' := I2.ext x2
    have D1 := Det_calls (m + i) zs e H2 I3 hr3
    have D2 := fun H0 (x0 : Ext H2 H0) => Definite_calls (m + i) zs e H0 (I3.ext x0) hr3
    have F1 := fun H0 (x0 : Ext H2 H0) => RDefinite_calls m xs a H0 (I1'.ext x0) hr1
    have F2 := fun H0 (x0 : Ext H2 H0) => RDefinite_calls i ys b H0 (I2'.ext x0) hr2
    rw [hdet] at D1
    rw [hpos] at D2
    have hfit := P_fits hr3 (k := m + i) (by omega)
    rw [hdet] at hfit
    obtain ⟨H3, hH3⟩ : ∃ H3, H3 = H2 ++ [Wb (P (ent m xs) m * P (ent i ys) i)] := ⟨_, rfl⟩
    have x3 : Ext H2 H3 := by rw [hH3]; exact Ext.push _ _
    have g13 := Qh g12 x3
    have g23 := Qh g22 x3
    have g33 := Qh g3 x3
    have g43 : Qt H3 H2.length = some (Wb (P (ent m xs) m * P (ent i ys) i)) := by rw [hH3]; exact Qo rfl
    refine Jj (fun K3 hK3 => ?_)
    repeat' first
      | (with_reducible first | refine Jg ?_)
      | ((with_reducible refine Jq (D1) ?_); rintro _ _ ⟨rfl, rfl⟩)
      | (simp only [Q4, Jo, reduceIte, J0])
      | (simp only [Q3, RA, Jn, Jm, Jp, Q2, Q0, ev, ofValue, Jt, J0, J3, J2, J4, reduceCtorEq, reduceIte, Ju, Qb, Qa, Jy, aun, Q9, Jk, Jh, Jx, Jw, Ji, Q8, Jf, Q1, Jr, Js, J1, J5, Ja, J9, Jb, J6, J7, Jd, J8, RB, Jv, Je, Zp, k13, k14, k15, g3])
      | (simp (disch := (first | omega | (simp only [RO]; done) | assumption | (simp only [RM, Je]; done) | (simp only [RL, Je]; omega))) only [RD, reduceCtorEq, reduceIte, Je, J1, J3, J2, J6, Zp, k13, k14, k15, g3])
    refine hK3 _ _ ?_
    rw [← hH3]
    repeat' first
      | (with_reducible first | refine Jj (fun K hK => ?_) | refine Qw (id := 15) [5, 7, 8, 13] pn4_15LdH (by kernel_rfl) (by kernel_rfl) ?_ | refine Z1 ?_)
      | (simp only [Q3, RA, Jn, Jm, Jp, Q2, Q0, ev, ofValue, Jt, J0, J3, J2, J4, reduceCtorEq, reduceIte, Ju, Qb, Qa, Jy, aun, Q9, Jk, Jh, Jx, Jw, Ji, Q8, Jf, Q1, Jr, Js, J1, J5, Ja, J9, Jb, J6, J7, Jd, J8, RB, Jv, Je, Zp, k13, k14, k15, g13, g23, g33, g43, Zy Yt])
      | (simp (disch := (first | omega | (simp only [RO]; done) | assumption | (simp only [RM, Je]; done) | (simp only [RL, Je]; omega))) only [RD, reduceCtorEq, reduceIte, Je, J1, J3, J2, J6, Zp, k13, k14, k15, g13, g23, g33, g43, Zy Yt])
    all_goals
      refine Xi (RDet_calls m xs a H3 (I1'.ext x3) hr1) ?_
      rintro _ H4 ⟨u, rfl, U, x4⟩
      refine ⟨x4, ?_⟩
      have g14 := Qh g13 x4
      have g24 := Qh g23 x4
      have g34 := Qh g33 x4
      have g44 := Qh g43 x4
      have I24 := (I2'.ext x3).ext x4
      repeat' first
        | (with_reducible first | refine Z1 ?_)
        | (simp only [Q3, RA, Jn, Jm, Jp, Q2, Q0, ev, ofValue, Jt, J0, J3, J2, J4, reduceCtorEq, reduceIte, Ju, Qb, Qa, Jy, aun, Q9, Jk, Jh, Jx, Jw, Ji, Q8, Jf, Q1, Jr, Js, J1, J5, Ja, J9, Jb, J6, J7, Jd, J8, RB, Jv, Je, Zp, k13, k14, k15, g14, g24, g34, g44, Zy Yt])
    all_goals
      refine Xi (RDet_calls i ys b H4 I24 hr2) ?_
      rintro _ H5 ⟨w, rfl, W, x5⟩
      refine ⟨x5, ?_⟩
      have g15 := Qh g14 x5
      have g25 := Qh g24 x5
      have g35 := Qh g34 x5
      have g45 := Qh g44 x5
      repeat' first
        | (with_reducible first | refine Z1 ?_)
        | (simp only [Q3, RA, Jn, Jm, Jp, Q2, Q0, ev, ofValue, Jt, J0, J3, J2, J4, reduceCtorEq, reduceIte, Ju, Qb, Qa, Jy, aun, Q9, Jk, Jh, Jx, Jw, Ji, Q8, Jf, Q1, Jr, Js, J1, J5, Ja, J9, Jb, J6, J7, Jd, J8, RB, Jv, Je, Zp, k13, k14, k15, g15, g25, g35, g45, Zy Yt])
    all_goals
      first
        | (refine Xi (Rmul_calls (P (ent m xs) m) (P (ent i ys) i) u w H5 (U.ext x5) W (Ro (Kp (Vi hr1) (by omega))) (Ro (Kp (Vi hr2) (by omega)))) ?_
           rintro _ H6 ⟨z, rfl, Z, x6⟩
           refine ⟨x6, ?_⟩)
        | (refine Jq (Rmul_calls (P (ent m xs) m) (P (ent i ys) i) u w H5 (U.ext x5) W (Ro (Kp (Vi hr1) (by omega))) (Ro (Kp (Vi hr2) (by omega)))) ?_
           rintro _ H6 ⟨z, rfl, Z, x6⟩)
      have g16 := Qh g15 x6
      have g26 := Qh g25 x6
      have g36 := Qh g35 x6
      have g46 := Qh g45 x6
      have x26 : Ext H2 H6 := ((Ext.trans x3 x4).trans x5).trans x6
      have HW := HWide_calls _ z H6 Z hfit
      have D26 := D2 H6 x26
      have F16 := F1 H6 x26
      have F26 := F2 H6 x26
      have xF : Ext H H6 := (Ext.trans x1 x2).trans x26
      cases hb1 : Ks (ent m xs) m <;> cases hb2 : Ks (ent i ys) i <;> rw [hb1] at F16 D26 <;> rw [hb2] at F26 D26
    all_goals
      repeat' first
        | (with_reducible first | refine Qj ?_ | refine Z1 ?_)
        | (with_reducible refine Nv (D26) ?_)
        | ((with_reducible refine Jq (HW) ?_); rintro _ _ ⟨rfl, rfl⟩)
        | ((with_reducible refine Jq (F16) ?_); rintro _ _ ⟨rfl, rfl⟩)
        | ((with_reducible refine Jq (F26) ?_); rintro _ _ ⟨rfl, rfl⟩)
        | (simp only [Q4, Jo, reduceIte, J0])
        | ((with_reducible refine hK _ _ ?_); clear hK)
        | (simp only [Q3, RA, Jn, Jm, Jp, Q2, Q0, ev, ofValue, Jt, J0, J3, J2, J4, reduceCtorEq, reduceIte, Ju, Qb, Qa, Jy, aun, Q9, Jk, Jh, Jx, Jw, Ji, Q8, Jf, Q1, Jr, Js, J1, J5, Ja, J9, Jb, J6, J7, Jd, J8, RB, Jv, Je, Zp, k13, k14, k15, g16, g26, g36, g46, Zy Yt, Bool.and_true, Bool.and_false])
        | (simp (disch := (first | omega | (simp only [RO]; done) | assumption | (simp only [RM, Je]; done) | (simp only [RL, Je]; omega))) only [RD, reduceCtorEq, reduceIte, Je, J1, J3, J2, J6, Zp, k13, k14, k15, g16, g26, g36, g46, Zy Yt, Bool.and_true, Bool.and_false])
    all_goals
      (
       (refine Qg (rs := [.tmp 12]) rfl ?_)
       (simp only [Qx, Qd, Fr.put_some, Fr.put_none, Qe, Qf, Qi, J0, reduceIte])
       (try simp (disch := (first | omega | (simp only [RO]; done) | assumption | (simp only [RM, Je]; done) | (simp only [RL, Je]; omega))) only [RD, reduceCtorEq, reduceIte, Je, J1, J3, J2, J6, Zp]))
    all_goals exact ⟨xF, trivial⟩
end Go.Proofs.YtfalfmfkifemeaaGreatDoor
namespace Go.Proofs.YtfalfmfkifemeaaGreatDoor
open Go.AL Go.PW Go.PD
set_option maxRecDepth 8000
abbrev S2 (n0 n1 : Int) (a0 a1 : AV) : Blk := ⟨[.int .i64 n0, a0, .int .i64 n1, a1], .own, 24⟩
theorem BetwR.one {n : Nat} {xs : List Int} {k l : Int} {v : AV} {H : Hp} (h : BetwR n xs k l v H) : v.one = true := by
  unfold BetwR at h
  split at h
  · obtain ⟨_, rfl, _⟩ := h; rfl
  · split at h
    · obtain ⟨_, rfl, _⟩ := h; rfl
    · rw [h]; rfl
end Go.Proofs.YtfalfmfkifemeaaGreatDoor

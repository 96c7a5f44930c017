/- Part 23 of the proof of laws of this seat: lemmas on the model's code, on this program's functions, on numbers. No condition. -/
import Derived.Test.YtfalfmfkifemeaaGreatDoorZGav
set_option linter.unusedVariables false
set_option linter.unusedSimpArgs false
open Nat renaming reduceEqDiff → J0, reduceLeDiff → J1, reduceMul → J2, reduceAdd → J3, reduceSub → J4, reduceLT → J5
open Int renaming reduceToNat → J6, reducePow → J7, reduceNeg → J8, reduceLT → J9, reduceLE → Ja, reduceEq → Jb
open And renaming intro → Jc
open Go.IntKind renaming bits → Jd
open Go.PW renaming dig_length → Je
namespace Go.Proofs.YtfalfmfkifemeaaGreatDoor
open Go.AL Go.PW Go.PD
theorem Y6 : type_of% (Jc @Xz (Jc @X1 (Jc @Xj (Jc @Za (Jc @Z9 (Jc @Vx (@W0))))))) := Jc @Xz (Jc @X1 (Jc @Xj (Jc @Za (Jc @Z9 (Jc @Vx (@W0))))))
abbrev pn58_1RgB : Plan := (.one 0 (.one 1 (.one 2 (.one 3 (.one 4 (.one 5 (.one 6 (.one 7 (.one 8 (.one 9 (.one 10 (.one 11 (.one 12 (.one 13 (.one 15 (.one 16 (.one 17 (.one 18 (.one 19 (.one 20 (.one 21 (.one 22 (.one 23 (.one 24 (.one 25 (.one 26 (.one 27 (.one 28 (.one 31 (.alt 36 (.alt 37 (.ext 14 (.ext 29 (.ext 30 (.ext 32 (.one 33 (.one 34 (.one 35 (.one 38 (.one 39 .nil))))))))) (.ext 14 (.alt 37 (.ext 29 (.ext 30 (.ext 32 (.one 33 (.one 34 (.one 35 (.one 38 (.one 39 .nil)))))))) (.ext 29 (.alt 37 (.ext 30 (.ext 32 (.one 33 (.one 34 (.one 35 (.one 38 (.one 39 .nil))))))) (.ext 30 (.alt 37 (.ext 32 (.one 33 (.one 34 (.one 35 (.one 38 (.one 39 .nil)))))) (.ext 32 (.one 33 (.one 34 (.one 35 (.one 37 (.one 38 (.one 39 .nil)))))))))))))) (.alt 37 (.alt 36 (.ext 14 (.ext 29 (.ext 30 (.ext 32 (.one 33 (.one 34 (.one 35 (.one 38 (.one 39 .nil))))))))) (.ext 14 (.alt 36 (.ext 29 (.ext 30 (.ext 32 (.one 33 (.one 34 (.one 35 (.one 38 (.one 39 .nil)))))))) (.ext 29 (.alt 36 (.ext 30 (.ext 32 (.one 33 (.one 34 (.one 35 (.one 38 (.one 39 .nil))))))) (.ext 30 (.alt 36 (.ext 32 (.one 33 (.one 34 (.one 35 (.one 38 (.one 39 .nil)))))) (.ext 32 (.one 33 (.one 34 (.one 35 (.one 36 (.one 38 (.one 39 .nil)))))))))))))) (.ext 14 (.alt 36 (.alt 37 (.ext 29 (.ext 30 (.ext 32 (.one 33 (.one 34 (.one 35 (.one 38 (.one 39 .nil)))))))) (.ext 29 (.alt 37 (.ext 30 (.ext 32 (.one 33 (.one 34 (.one 35 (.one 38 (.one 39 .nil))))))) (.ext 30 (.alt 37 (.ext 32 (.one 33 (.one 34 (.one 35 (.one 38 (.one 39 .nil)))))) (.ext 32 (.one 33 (.one 34 (.one 35 (.one 37 (.one 38 (.one 39 .nil)))))))))))) (.alt 37 (.alt 36 (.ext 29 (.ext 30 (.ext 32 (.one 33 (.one 34 (.one 35 (.one 38 (.one 39 .nil)))))))) (.ext 29 (.alt 36 (.ext 30 (.ext 32 (.one 33 (.one 34 (.one 35 (.one 38 (.one 39 .nil))))))) (.ext 30 (.alt 36 (.ext 32 (.one 33 (.one 34 (.one 35 (.one 38 (.one 39 .nil)))))) (.ext 32 (.one 33 (.one 34 (.one 35 (.one 36 (.one 38 (.one 39 .nil)))))))))))) (.ext 29 (.alt 36 (.alt 37 (.ext 30 (.ext 32 (.one 33 (.one 34 (.one 35 (.one 38 (.one 39 .nil))))))) (.ext 30 (.alt 37 (.ext 32 (.one 33 (.one 34 (.one 35 (.one 38 (.one 39 .nil)))))) (.ext 32 (.one 33 (.one 34 (.one 35 (.one 37 (.one 38 (.one 39 .nil)))))))))) (.alt 37 (.alt 36 (.ext 30 (.ext 32 (.one 33 (.one 34 (.one 35 (.one 38 (.one 39 .nil))))))) (.ext 30 (.alt 36 (.ext 32 (.one 33 (.one 34 (.one 35 (.one 38 (.one 39 .nil)))))) (.ext 32 (.one 33 (.one 34 (.one 35 (.one 36 (.one 38 (.one 39 .nil)))))))))) (.ext 30 (.alt 36 (.alt 37 (.ext 32 (.one 33 (.one 34 (.one 35 (.one 38 (.one 39 .nil)))))) (.ext 32 (.one 33 (.one 34 (.one 35 (.one 37 (.one 38 (.one 39 .nil)))))))) (.alt 37 (.alt 36 (.ext 32 (.one 33 (.one 34 (.one 35 (.one 38 (.one 39 .nil)))))) (.ext 32 (.one 33 (.one 34 (.one 35 (.one 36 (.one 38 (.one 39 .nil)))))))) (.ext 32 (.one 33 (.one 34 (.one 35 (.alt 36 (.one 37 (.one 38 (.one 39 .nil))) (.one 37 (.one 36 (.one 38 (.one 39 .nil)))))))))))))))))))))))))))))))))))))))))))))))))
set_option maxRecDepth 8000
noncomputable abbrev Vs : Array Oper := match Tryz.f58.body with
  | some (.seq _ (.seq (.region _ ops _) _)) => ops
  | _ => #[]
abbrev stepPlan_midB : Plan := (.ext 30 (.ext 32 (.one 33 (.one 34 (.one 35 (.one 38 (.one 39 .nil)))))))
abbrev stepPlan_midL : Plan := (.alt 37 (.ext 30 (.ext 32 (.one 33 (.one 34 (.one 35 (.one 38 (.one 39 .nil))))))) (.ext 30 (.alt 37 (.ext 32 (.one 33 (.one 34 (.one 35 (.one 38 (.one 39 .nil)))))) (.ext 32 (.one 33 (.one 34 (.one 35 (.one 37 (.one 38 (.one 39 .nil))))))))))
abbrev stepPlan_midR : Plan := (.alt 36 (.ext 30 (.ext 32 (.one 33 (.one 34 (.one 35 (.one 38 (.one 39 .nil))))))) (.ext 30 (.alt 36 (.ext 32 (.one 33 (.one 34 (.one 35 (.one 38 (.one 39 .nil)))))) (.ext 32 (.one 33 (.one 34 (.one 35 (.one 36 (.one 38 (.one 39 .nil))))))))))
abbrev stepPlan_midN : Plan := (.alt 36 (.alt 37 (.ext 30 (.ext 32 (.one 33 (.one 34 (.one 35 (.one 38 (.one 39 .nil))))))) (.ext 30 (.alt 37 (.ext 32 (.one 33 (.one 34 (.one 35 (.one 38 (.one 39 .nil)))))) (.ext 32 (.one 33 (.one 34 (.one 35 (.one 37 (.one 38 (.one 39 .nil)))))))))) (.alt 37 (.alt 36 (.ext 30 (.ext 32 (.one 33 (.one 34 (.one 35 (.one 38 (.one 39 .nil))))))) (.ext 30 (.alt 36 (.ext 32 (.one 33 (.one 34 (.one 35 (.one 38 (.one 39 .nil)))))) (.ext 32 (.one 33 (.one 34 (.one 35 (.one 36 (.one 38 (.one 39 .nil)))))))))) (.ext 30 (.alt 36 (.alt 37 (.ext 32 (.one 33 (.one 34 (.one 35 (.one 38 (.one 39 .nil)))))) (.ext 32 (.one 33 (.one 34 (.one 35 (.one 37 (.one 38 (.one 39 .nil)))))))) (.alt 37 (.alt 36 (.ext 32 (.one 33 (.one 34 (.one 35 (.one 38 (.one 39 .nil)))))) (.ext 32 (.one 33 (.one 34 (.one 35 (.one 36 (.one 38 (.one 39 .nil)))))))) (.ext 32 (.one 33 (.one 34 (.one 35 (.alt 36 (.one 37 (.one 38 (.one 39 .nil))) (.one 37 (.one 36 (.one 38 (.one 39 .nil))))))))))))))
abbrev stepPlan_endB : Plan := (.one 33 (.one 34 (.one 35 (.one 38 (.one 39 .nil)))))
abbrev stepPlan_endL : Plan := (.one 33 (.one 34 (.one 35 (.one 37 (.one 38 (.one 39 .nil))))))
abbrev stepPlan_endR : Plan := (.one 33 (.one 34 (.one 35 (.one 36 (.one 38 (.one 39 .nil))))))
abbrev stepPlan_endN : Plan := (.one 33 (.one 34 (.one 35 (.alt 36 (.one 37 (.one 38 (.one 39 .nil))) (.one 37 (.one 36 (.one 38 (.one 39 .nil))))))))
abbrev G8 (H : Hp) (z : Int) (fr' : Fr) (H' : Hp) : Prop := ∃ (p11 : Nat) (u : AV), fr' 10 = .ptr (H.length + 1) 0 ∧ fr' 11 = .ptr p11 0 ∧ Qt H' (H.length + 1) = some (BB 0 .nilS) ∧ Qt H' p11 = some (BB z u) ∧ H.length + 1 < p11 ∧ Bs_ H' u z ∧ Ext H H'
abbrev StepEndB (H : Hp) (z w : Int) (fr' : Fr) (H' : Hp) : Prop := ∃ (p11 p12 : Nat), ∃ (u v : AV), fr' 10 = .ptr (H.length + 1) 0 ∧ fr' 11 = .ptr p11 0 ∧ fr' 12 = .ptr p12 0 ∧ fr' 46 = .tup [BV z u, BV w v] ∧ Qt H' (H.length + 1) = some (BB 0 .nilS) ∧ (Qt H' p11 = some (BB 0 .nilS) ∧ H.length + 1 < p11) ∧ (Qt H' p12 = some (BB 0 .nilS) ∧ H.length + 1 < p12) ∧ p11 ≠ p12 ∧ Bs_ H' u z ∧ Bs_ H' v w ∧ Ext H H'
abbrev StepEndL (H : Hp) (z w : Int) (fr' : Fr) (H' : Hp) : Prop := ∃ (p11 : Nat), ∃ (u v : AV), fr' 10 = .ptr (H.length + 1) 0 ∧ fr' 11 = .ptr p11 0 ∧ fr' 46 = .tup [BV z u, BV w v] ∧ Qt H' (H.length + 1) = some (BB 0 .nilS) ∧ (Qt H' p11 = some (BB 0 .nilS) ∧ H.length + 1 < p11) ∧ Bs_ H' u z ∧ Bs_ H' v w ∧ Ext H H'
abbrev StepEndR (H : Hp) (z w : Int) (fr' : Fr) (H' : Hp) : Prop := ∃ (p12 : Nat), ∃ (u v : AV), fr' 10 = .ptr (H.length + 1) 0 ∧ fr' 12 = .ptr p12 0 ∧ fr' 46 = .tup [BV z u, BV w v] ∧ Qt H' (H.length + 1) = some (BB 0 .nilS) ∧ (Qt H' p12 = some (BB 0 .nilS) ∧ H.length + 1 < p12) ∧ Bs_ H' u z ∧ Bs_ H' v w ∧ Ext H H'
abbrev StepEndN (H : Hp) (z w : Int) (fr' : Fr) (H' : Hp) : Prop := ∃ (u v : AV), fr' 10 = .ptr (H.length + 1) 0 ∧ fr' 46 = .tup [BV z u, BV w v] ∧ Qt H' (H.length + 1) = some (BB 0 .nilS) ∧ Bs_ H' u z ∧ Bs_ H' v w ∧ Ext H H'
abbrev StepMidB (H : Hp) (x y q : Int) (t : AV) (fr' : Fr) (H' : Hp) : Prop := ∃ (p11 p12 : Nat), ∃ (u v : AV), fr' 10 = .ptr (H.length + 1) 0 ∧ fr' 11 = .ptr p11 0 ∧ fr' 12 = .ptr p12 0 ∧ fr' 28 = BV x u ∧ fr' 43 = BV y v ∧ fr' 45 = BV q t ∧ Qt H' (H.length + 1) = some (BB 0 .nilS) ∧ (Qt H' p11 = some (BB 0 .nilS) ∧ H.length + 1 < p11) ∧ (Qt H' p12 = some (BB 0 .nilS) ∧ H.length + 1 < p12) ∧ p11 ≠ p12 ∧ Bs_ H' u x ∧ Bs_ H' v y ∧ Bs_ H' t q ∧ Ext H H'
abbrev StepMidL (H : Hp) (x y q : Int) (t : AV) (fr' : Fr) (H' : Hp) : Prop := ∃ (p11 : Nat), ∃ (u v : AV), fr' 10 = .ptr (H.length + 1) 0 ∧ fr' 11 = .ptr p11 0 ∧ fr' 28 = BV x u ∧ fr' 43 = BV y v ∧ fr' 45 = BV q t ∧ Qt H' (H.length + 1) = some (BB 0 .nilS) ∧ (Qt H' p11 = some (BB 0 .nilS) ∧ H.length + 1 < p11) ∧ Bs_ H' u x ∧ Bs_ H' v y ∧ Bs_ H' t q ∧ Ext H H'
abbrev StepMidR (H : Hp) (x y q : Int) (t : AV) (fr' : Fr) (H' : Hp) : Prop := ∃ (p12 : Nat), ∃ (u v : AV), fr' 10 = .ptr (H.length + 1) 0 ∧ fr' 12 = .ptr p12 0 ∧ fr' 28 = BV x u ∧ fr' 43 = BV y v ∧ fr' 45 = BV q t ∧ Qt H' (H.length + 1) = some (BB 0 .nilS) ∧ (Qt H' p12 = some (BB 0 .nilS) ∧ H.length + 1 < p12) ∧ Bs_ H' u x ∧ Bs_ H' v y ∧ Bs_ H' t q ∧ Ext H H'
abbrev StepMidN (H : Hp) (x y q : Int) (t : AV) (fr' : Fr) (H' : Hp) : Prop := ∃ (u v : AV), fr' 10 = .ptr (H.length + 1) 0 ∧ fr' 28 = BV x u ∧ fr' 43 = BV y v ∧ fr' 45 = BV q t ∧ Qt H' (H.length + 1) = some (BB 0 .nilS) ∧ Bs_ H' u x ∧ Bs_ H' v y ∧ Bs_ H' t q ∧ Ext H H'
set_option maxHeartbeats 16000000 in
theorem J1g (H : Hp) (z w : Int) (K : Fr → Hp → Prop) (hK : ∀ fr' H', G8 H z fr' H' → K fr' H') (fr' : Fr) (H' : Hp) (h : StepEndB H z w fr' H') : Run Tryz.prog Vs K (.ord stepPlan_endB) fr' H' := by
  obtain ⟨p11, p12, u, v, k10, k11, k12, k46, g10, ⟨g11, n11⟩, ⟨g12, n12⟩, n1, U, V, x0⟩ := h
  simp only [Vs, Tryz.f58]
  have tu1 := U.one
  have tu2 := U.cells
  have tv1 := V.one
  have tv2 := V.cells
  have y10 := Qr g10
  have y11 := Qr g11
  have y12 := Qr g12
  have h1 : ∀ b k, Qt (H'.set p11 b) k = if k = p11 then some b else Qt H' k := fun b k => Qk y11 b k
  have h2 : ∀ b c k, Qt ((H'.set p11 b).set p12 c) k = if k = p12 then some c else Qt (H'.set p11 b) k := fun b c k => Qk (by rw [List.length_set]; exact y12) c k
  have q1 : (p12 = p11) = False := eq_false (by omega)
  have q2 : (p11 = p12) = False := eq_false (by omega)
  repeat' first
    | ((with_reducible refine hK _ _ ?_); clear hK)
    | (simp only [Q3, RA, Jn, Jm, Jp, Q2, Q0, ev, ofValue, Jt, J0, J3, J2, J4, reduceCtorEq, reduceIte, Ju, Qb, Qa, Jy, aun, Q9, Jk, Jh, Jx, Jw, Ji, Q8, Jf, Q1, Jr, Js, J1, J5, Ja, J9, Jb, J6, J7, Jd, J8, RB, Jv, Je, Y6, k10, k11, k12, k46, g10, g11, g12, h1, q1, q2])
    | (simp (disch := first | omega | (simp only [RO]; done) | assumption) only [RS, X6, X7, Ye, Yf, Vm, Vn, X4, X0])
    | (simp (disch := (first | omega | (simp only [RO]; done) | assumption | (simp only [RM, Je]; done) | (simp only [RL, Je]; omega))) only [RD, reduceCtorEq, reduceIte, Je, J1, J3, J2, J6, Y6, k10, k11, k12, k46, g10, g11, g12, h1, q1, q2])
  all_goals exact ⟨p11, u, k10, k11, by rw [h2, if_neg (by omega), h1, if_neg (by omega)]; exact g10, by rw [h2, if_neg (by omega), h1, if_pos rfl], n11, (U.other g11 (show (46 : Nat) ≠ 31 by decide) _).other (b := BB 0 .nilS) (by rw [h1, if_neg (by omega)]; exact g12) (show (46 : Nat) ≠ 31 by decide) _, (x0.set (by omega) _).set (by omega) _⟩
set_option maxHeartbeats 16000000 in
theorem step_endL (H : Hp) (z w : Int) (K : Fr → Hp → Prop) (hK : ∀ fr' H', G8 H z fr' H' → K fr' H') (fr' : Fr) (H' : Hp) (h : StepEndL H z w fr' H') : Run Tryz.prog Vs K (.ord stepPlan_endL) fr' H' := by
  obtain ⟨p11, u, v, k10, k11, k46, g10, ⟨g11, n11⟩, U, V, x0⟩ := h
  simp only [Vs, Tryz.f58]
  have tu1 := U.one
  have tu2 := U.cells
  have tv1 := V.one
  have tv2 := V.cells
  have y10 := Qr g10
  have y11 := Qr g11
  repeat' first
    | ((with_reducible refine hK _ _ ?_); clear hK)
    | (simp only [Q3, RA, Jn, Jm, Jp, Q2, Q0, ev, ofValue, Jt, J0, J3, J2, J4, reduceCtorEq, reduceIte, Ju, Qb, Qa, Jy, aun, Q9, Jk, Jh, Jx, Jw, Ji, Q8, Jf, Q1, Jr, Js, J1, J5, Ja, J9, Jb, J6, J7, Jd, J8, RB, Jv, Je, Y6, k10, k11, k46, g10, g11])
    | (simp (disch := first | omega | (simp only [RO]; done) | assumption) only [RS, X6, X7, Ye, Yf, Vm, Vn, X4, X0])
    | (simp (disch := (first | omega | (simp only [RO]; done) | assumption | (simp only [RM, Je]; done) | (simp only [RL, Je]; omega))) only [RD, reduceCtorEq, reduceIte, Je, J1, J3, J2, J6, Y6, k10, k11, k46, g10, g11])
  all_goals exact ⟨p11, u, k10, k11, by rw [Qp (by rw [List.length_set]; exact y10), Qk y11, if_neg (by omega)]; exact g10, by rw [Qp (by rw [List.length_set]; exact y11), Qk y11, if_pos rfl], n11, (U.other g11 (show (46 : Nat) ≠ 31 by decide) _).push _, (x0.set (by omega) _).pushed _⟩
set_option maxHeartbeats 16000000 in
theorem step_endR (H : Hp) (z w : Int) (K : Fr → Hp → Prop) (hK : ∀ fr' H', G8 H z fr' H' → K fr' H') (fr' : Fr) (H' : Hp) (h : StepEndR H z w fr' H') : Run Tryz.prog Vs K (.ord stepPlan_endR) fr' H' := by
  obtain ⟨p12, u, v, k10, k12, k46, g10, ⟨g12, n12⟩, U, V, x0⟩ := h
  simp only [Vs, Tryz.f58]
  have tu1 := U.one
  have tu2 := U.cells
  have tv1 := V.one
  have tv2 := V.cells
  have y10 := Qr g10
  have y12 := Qr g12
  repeat' first
    | ((with_reducible refine hK _ _ ?_); clear hK)
    | (simp only [Q3, RA, Jn, Jm, Jp, Q2, Q0, ev, ofValue, Jt, J0, J3, J2, J4, reduceCtorEq, reduceIte, Ju, Qb, Qa, Jy, aun, Q9, Jk, Jh, Jx, Jw, Ji, Q8, Jf, Q1, Jr, Js, J1, J5, Ja, J9, Jb, J6, J7, Jd, J8, RB, Jv, Je, Y6, k10, k12, k46, g10, g12])
    | (simp (disch := first | omega | (simp only [RO]; done) | assumption) only [RS, X6, X7, Ye, Yf, Vm, Vn, X4, X0])
    | (simp (disch := (first | omega | (simp only [RO]; done) | assumption | (simp only [RM, Je]; done) | (simp only [RL, Je]; omega))) only [RD, reduceCtorEq, reduceIte, Je, J1, J3, J2, J6, Y6, k10, k12, k46, g10, g12])
  all_goals exact ⟨H'.length, u, k10, rfl, by rw [Qp (by rw [List.length_set]; exact y10), Qk y12, if_neg (by omega)]; exact g10, Qo (by rw [List.length_set]), y10, (U.other g12 (show (46 : Nat) ≠ 31 by decide) _).push _, (x0.set (by omega) _).pushed _⟩
set_option maxHeartbeats 16000000 in
theorem step_endN (H : Hp) (z w : Int) (K : Fr → Hp → Prop) (hK : ∀ fr' H', G8 H z fr' H' → K fr' H') (fr' : Fr) (H' : Hp) (h : StepEndN H z w fr' H') : Run Tryz.prog Vs K (.ord stepPlan_endN) fr' H' := by
  obtain ⟨u, v, k10, k46, g10, U, V, x0⟩ := h
  simp only [Vs, Tryz.f58]
  have tu1 := U.one
  have tu2 := U.cells
  have tv1 := V.one
  have tv2 := V.cells
  have y10 := Qr g10
  repeat' first
    | (with_reducible refine Jc ?_ ?_)
    | ((with_reducible refine hK _ _ ?_); clear hK)
    | (simp only [Q3, RA, Jn, Jm, Jp, Q2, Q0, ev, ofValue, Jt, J0, J3, J2, J4, reduceCtorEq, reduceIte, Ju, Qb, Qa, Jy, aun, Q9, Jk, Jh, Jx, Jw, Ji, Q8, Jf, Q1, Jr, Js, J1, J5, Ja, J9, Jb, J6, J7, Jd, J8, RB, Jv, Je, Y6, k10, k46, g10])
    | (simp (disch := first | omega | (simp only [RO]; done) | assumption) only [RS, X6, X7, Ye, Yf, Vm, Vn, X4, X0])
    | (simp (disch := (first | omega | (simp only [RO]; done) | assumption | (simp only [RM, Je]; done) | (simp only [RL, Je]; omega))) only [RD, reduceCtorEq, reduceIte, Je, J1, J3, J2, J6, Y6, k10, k46, g10])
  · exact ⟨H'.length, u, k10, rfl, by rw [Qp (by rw [Qm]; omega), Qp y10]; exact g10, by rw [Qp (by rw [Qm]; omega)]; exact Qo rfl, y10, (U.push _).push _, (x0.pushed _).pushed _⟩
  · exact ⟨H'.length + 1, u, k10, rfl, by rw [Qp (by rw [Qm]; omega), Qp y10]; exact g10, Qo (by rw [Qm]), by omega, (U.push _).push _, (x0.pushed _).pushed _⟩
set_option maxHeartbeats 16000000 in
theorem step_midB (H : Hp) (x y q : Int) (t : AV) (bx : Sm x) (b_y : Sm y) (bz : Sm (x - y)) (hq : q ≠ 0) (K : Fr → Hp → Prop) (hK : ∀ fr' H', G8 H ((x - y).tdiv q) fr' H' → K fr' H') (fr' : Fr) (H' : Hp) (h : StepMidB H x y q t fr' H') : Run Tryz.prog Vs K (.ord stepPlan_midB) fr' H' := by
  obtain ⟨p11, p12, u, v, k10, k11, k12, k28, k43, k45, g10, ⟨g11, n11⟩, ⟨g12, n12⟩, n1, U, V, T, x0⟩ := h
  have y10 := Qr g10
  have y11 := Qr g11
  have y12 := Qr g12
  simp only [Vs, Tryz.f58]
  repeat' first
    | (with_reducible first | refine Z1 ?_)
    | (simp only [Q3, RA, Jn, Jm, Jp, Q2, Q0, ev, ofValue, Jt, J0, J3, J2, J4, reduceCtorEq, reduceIte, Ju, Qb, Qa, Jy, aun, Q9, Jk, Jh, Jx, Jw, Ji, Q8, Jf, Q1, Jr, Js, J1, J5, Ja, J9, Jb, J6, J7, Jd, J8, RB, Jv, Je, Y6, k10, k11, k12, k28, k43, k45])
  all_goals
    refine Xi (Rsub_calls x y u v _ (by repeat (first | assumption | refine Bs_.push ?_ _ | refine Bs_.ext ?_ (by assumption))) (by repeat (first | assumption | refine Bs_.push ?_ _ | refine Bs_.ext ?_ (by assumption))) bx b_y) ?_
    rintro _ H6 ⟨u3, rfl, U3, x3⟩
    refine ⟨x3, ?_⟩
    have l3 := Ext.len x3
    try simp only [Qm] at l3
    repeat' first
      | (with_reducible first | refine Z1 ?_)
      | (simp only [Q3, RA, Jn, Jm, Jp, Q2, Q0, ev, ofValue, Jt, J0, J3, J2, J4, reduceCtorEq, reduceIte, Ju, Qb, Qa, Jy, aun, Q9, Jk, Jh, Jx, Jw, Ji, Q8, Jf, Q1, Jr, Js, J1, J5, Ja, J9, Jb, J6, J7, Jd, J8, RB, Jv, Je, Y6, k10, k11, k12, k28, k43, k45])
  all_goals
    refine Xi (Rdiv_calls (x - y) q u3 t _ (by repeat (first | assumption | refine Bs_.push ?_ _ | refine Bs_.ext ?_ (by assumption))) (by repeat (first | assumption | refine Bs_.push ?_ _ | refine Bs_.ext ?_ (by assumption))) bz hq) ?_
    rintro _ H7 ⟨u4, v4, rfl, U4, V4, x4⟩
    refine ⟨x4, ?_⟩
    have l4 := Ext.len x4
    try simp only [Qm] at l4
  all_goals first
    | (refine J1g H ((x - y).tdiv q) ((x - y).tmod q) _ hK _ _ ?_; exact ⟨_, _, _, _, (by first | rfl | assumption), (by first | rfl | assumption), (by first | rfl | assumption), (by first | rfl | assumption), (by (repeat (first | assumption | exact Qo (by first | rfl | omega | (simp only [Qm]; done) | (simp only [Qm]; omega)) | rw [Qp (by omega)] | rw [Qp (by simp only [Qm]; omega)] | refine Qh ?_ (by assumption))); done), ⟨(by (repeat (first | assumption | exact Qo (by first | rfl | omega | (simp only [Qm]; done) | (simp only [Qm]; omega)) | rw [Qp (by omega)] | rw [Qp (by simp only [Qm]; omega)] | refine Qh ?_ (by assumption))); done), by omega⟩, ⟨(by (repeat (first | assumption | exact Qo (by first | rfl | omega | (simp only [Qm]; done) | (simp only [Qm]; omega)) | rw [Qp (by omega)] | rw [Qp (by simp only [Qm]; omega)] | refine Qh ?_ (by assumption))); done), by omega⟩, by omega, (by repeat (first | assumption | refine Bs_.push ?_ _ | refine Bs_.ext ?_ (by assumption))), (by repeat (first | assumption | refine Bs_.push ?_ _ | refine Bs_.ext ?_ (by assumption))), (by repeat (first | exact Ext.refl _ | exact Ext.push _ _ | assumption | refine Ext.trans ?_ (by assumption) | refine Ext.pushed ?_ _))⟩)
set_option maxHeartbeats 16000000 in
theorem step_midL (H : Hp) (x y q : Int) (t : AV) (bx : Sm x) (b_y : Sm y) (bz : Sm (x - y)) (hq : q ≠ 0) (K : Fr → Hp → Prop) (hK : ∀ fr' H', G8 H ((x - y).tdiv q) fr' H' → K fr' H') (fr' : Fr) (H' : Hp) (h : StepMidL H x y q t fr' H') : Run Tryz.prog Vs K (.ord stepPlan_midL) fr' H' := by
  obtain ⟨p11, u, v, k10, k11, k28, k43, k45, g10, ⟨g11, n11⟩, U, V, T, x0⟩ := h
  have y10 := Qr g10
  have y11 := Qr g11
  simp only [Vs, Tryz.f58]
  repeat' first
    | (with_reducible first | refine Z1 ?_)
    | (with_reducible refine Jc ?_ ?_)
    | (simp only [Q3, RA, Jn, Jm, Jp, Q2, Q0, ev, ofValue, Jt, J0, J3, J2, J4, reduceCtorEq, reduceIte, Ju, Qb, Qa, Jy, aun, Q9, Jk, Jh, Jx, Jw, Ji, Q8, Jf, Q1, Jr, Js, J1, J5, Ja, J9, Jb, J6, J7, Jd, J8, RB, Jv, Je, Y6, k10, k11, k28, k43, k45])
  all_goals
    refine Xi (Rsub_calls x y u v _ (by repeat (first | assumption | refine Bs_.push ?_ _ | refine Bs_.ext ?_ (by assumption))) (by repeat (first | assumption | refine Bs_.push ?_ _ | refine Bs_.ext ?_ (by assumption))) bx b_y) ?_
    rintro _ H6 ⟨u3, rfl, U3, x3⟩
    refine ⟨x3, ?_⟩
    have l3 := Ext.len x3
    try simp only [Qm] at l3
    repeat' first
      | (with_reducible first | refine Z1 ?_)
      | (with_reducible refine Jc ?_ ?_)
      | (simp only [Q3, RA, Jn, Jm, Jp, Q2, Q0, ev, ofValue, Jt, J0, J3, J2, J4, reduceCtorEq, reduceIte, Ju, Qb, Qa, Jy, aun, Q9, Jk, Jh, Jx, Jw, Ji, Q8, Jf, Q1, Jr, Js, J1, J5, Ja, J9, Jb, J6, J7, Jd, J8, RB, Jv, Je, Y6, k10, k11, k28, k43, k45])
  all_goals
    refine Xi (Rdiv_calls (x - y) q u3 t _ (by repeat (first | assumption | refine Bs_.push ?_ _ | refine Bs_.ext ?_ (by assumption))) (by repeat (first | assumption | refine Bs_.push ?_ _ | refine Bs_.ext ?_ (by assumption))) bz hq) ?_
    rintro _ H7 ⟨u4, v4, rfl, U4, V4, x4⟩
    refine ⟨x4, ?_⟩
    have l4 := Ext.len x4
    try simp only [Qm] at l4
  all_goals first
    | (refine J1g H ((x - y).tdiv q) ((x - y).tmod q) _ hK _ _ ?_; exact ⟨_, _, _, _, (by first | rfl | assumption), (by first | rfl | assumption), (by first | rfl | assumption), (by first | rfl | assumption), (by (repeat (first | assumption | exact Qo (by first | rfl | omega | (simp only [Qm]; done) | (simp only [Qm]; omega)) | rw [Qp (by omega)] | rw [Qp (by simp only [Qm]; omega)] | refine Qh ?_ (by assumption))); done), ⟨(by (repeat (first | assumption | exact Qo (by first | rfl | omega | (simp only [Qm]; done) | (simp only [Qm]; omega)) | rw [Qp (by omega)] | rw [Qp (by simp only [Qm]; omega)] | refine Qh ?_ (by assumption))); done), by omega⟩, ⟨(by (repeat (first | assumption | exact Qo (by first | rfl | omega | (simp only [Qm]; done) | (simp only [Qm]; omega)) | rw [Qp (by omega)] | rw [Qp (by simp only [Qm]; omega)] | refine Qh ?_ (by assumption))); done), by omega⟩, by omega, (by repeat (first | assumption | refine Bs_.push ?_ _ | refine Bs_.ext ?_ (by assumption))), (by repeat (first | assumption | refine Bs_.push ?_ _ | refine Bs_.ext ?_ (by assumption))), (by repeat (first | exact Ext.refl _ | exact Ext.push _ _ | assumption | refine Ext.trans ?_ (by assumption) | refine Ext.pushed ?_ _))⟩)
    | (refine step_endL H ((x - y).tdiv q) ((x - y).tmod q) _ hK _ _ ?_; exact ⟨_, _, _, (by first | rfl | assumption), (by first | rfl | assumption), (by first | rfl | assumption), (by (repeat (first | assumption | exact Qo (by first | rfl | omega | (simp only [Qm]; done) | (simp only [Qm]; omega)) | rw [Qp (by omega)] | rw [Qp (by simp only [Qm]; omega)] | refine Qh ?_ (by assumption))); done), ⟨(by (repeat (first | assumption | exact Qo (by first | rfl | omega | (simp only [Qm]; done) | (simp only [Qm]; omega)) | rw [Qp (by omega)] | rw [Qp (by simp only [Qm]; omega)] | refine Qh ?_ (by assumption))); done), by omega⟩, (by repeat (first | assumption | refine Bs_.push ?_ _ | refine Bs_.ext ?_ (by assumption))), (by repeat (first | assumption | refine Bs_.push ?_ _ | refine Bs_.ext ?_ (by assumption))), (by repeat (first | exact Ext.refl _ | exact Ext.push _ _ | assumption | refine Ext.trans ?_ (by assumption) | refine Ext.pushed ?_ _))⟩)
set_option maxHeartbeats 16000000 in
theorem step_midR (H : Hp) (x y q : Int) (t : AV) (bx : Sm x) (b_y : Sm y) (bz : Sm (x - y)) (hq : q ≠ 0) (K : Fr → Hp → Prop) (hK : ∀ fr' H', G8 H ((x - y).tdiv q) fr' H' → K fr' H') (fr' : Fr) (H' : Hp) (h : StepMidR H x y q t fr' H') : Run Tryz.prog Vs K (.ord stepPlan_midR) fr' H' := by
  obtain ⟨p12, u, v, k10, k12, k28, k43, k45, g10, ⟨g12, n12⟩, U, V, T, x0⟩ := h
  have y10 := Qr g10
  have y12 := Qr g12
  simp only [Vs, Tryz.f58]
  repeat' first
    | (with_reducible first | refine Z1 ?_)
    | (with_reducible refine Jc ?_ ?_)
    | (simp only [Q3, RA, Jn, Jm, Jp, Q2, Q0, ev, ofValue, Jt, J0, J3, J2, J4, reduceCtorEq, reduceIte, Ju, Qb, Qa, Jy, aun, Q9, Jk, Jh, Jx, Jw, Ji, Q8, Jf, Q1, Jr, Js, J1, J5, Ja, J9, Jb, J6, J7, Jd, J8, RB, Jv, Je, Y6, k10, k12, k28, k43, k45])
  all_goals
    refine Xi (Rsub_calls x y u v _ (by repeat (first | assumption | refine Bs_.push ?_ _ | refine Bs_.ext ?_ (by assumption))) (by repeat (first | assumption | refine Bs_.push ?_ _ | refine Bs_.ext ?_ (by assumption))) bx b_y) ?_
    rintro _ H6 ⟨u3, rfl, U3, x3⟩
    refine ⟨x3, ?_⟩
    have l3 := Ext.len x3
    try simp only [Qm] at l3
    repeat' first
      | (with_reducible first | refine Z1 ?_)
      | (with_reducible refine Jc ?_ ?_)
      | (simp only [Q3, RA, Jn, Jm, Jp, Q2, Q0, ev, ofValue, Jt, J0, J3, J2, J4, reduceCtorEq, reduceIte, Ju, Qb, Qa, Jy, aun, Q9, Jk, Jh, Jx, Jw, Ji, Q8, Jf, Q1, Jr, Js, J1, J5, Ja, J9, Jb, J6, J7, Jd, J8, RB, Jv, Je, Y6, k10, k12, k28, k43, k45])
  all_goals
    refine Xi (Rdiv_calls (x - y) q u3 t _ (by repeat (first | assumption | refine Bs_.push ?_ _ | refine Bs_.ext ?_ (by assumption))) (by repeat (first | assumption | refine Bs_.push ?_ _ | refine Bs_.ext ?_ (by assumption))) bz hq) ?_
    rintro _ H7 ⟨u4, v4, rfl, U4, V4, x4⟩
    refine ⟨x4, ?_⟩
    have l4 := Ext.len x4
    try simp only [Qm] at l4
  all_goals first
    | (refine J1g H ((x - y).tdiv q) ((x - y).tmod q) _ hK _ _ ?_; exact ⟨_, _, _, _, (by first | rfl | assumption), (by first | rfl | assumption), (by first | rfl | assumption), (by first | rfl | assumption), (by (repeat (first | assumption | exact Qo (by first | rfl | omega | (simp only [Qm]; done) | (simp only [Qm]; omega)) | rw [Qp (by omega)] | rw [Qp (by simp only [Qm]; omega)] | refine Qh ?_ (by assumption))); done), ⟨(by (repeat (first | assumption | exact Qo (by first | rfl | omega | (simp only [Qm]; done) | (simp only [Qm]; omega)) | rw [Qp (by omega)] | rw [Qp (by simp only [Qm]; omega)] | refine Qh ?_ (by assumption))); done), by omega⟩, ⟨(by (repeat (first | assumption | exact Qo (by first | rfl | omega | (simp only [Qm]; done) | (simp only [Qm]; omega)) | rw [Qp (by omega)] | rw [Qp (by simp only [Qm]; omega)] | refine Qh ?_ (by assumption))); done), by omega⟩, by omega, (by repeat (first | assumption | refine Bs_.push ?_ _ | refine Bs_.ext ?_ (by assumption))), (by repeat (first | assumption | refine Bs_.push ?_ _ | refine Bs_.ext ?_ (by assumption))), (by repeat (first | exact Ext.refl _ | exact Ext.push _ _ | assumption | refine Ext.trans ?_ (by assumption) | refine Ext.pushed ?_ _))⟩)
    | (refine step_endR H ((x - y).tdiv q) ((x - y).tmod q) _ hK _ _ ?_; exact ⟨_, _, _, (by first | rfl | assumption), (by first | rfl | assumption), (by first | rfl | assumption), (by (repeat (first | assumption | exact Qo (by first | rfl | omega | (simp only [Qm]; done) | (simp only [Qm]; omega)) | rw [Qp (by omega)] | rw [Qp (by simp only [Qm]; omega)] | refine Qh ?_ (by assumption))); done), ⟨(by (repeat (first | assumption | exact Qo (by first | rfl | omega | (simp only [Qm]; done) | (simp only [Qm]; omega)) | rw [Qp (by omega)] | rw [Qp (by simp only [Qm]; omega)] | refine Qh ?_ (by assumption))); done), by omega⟩, (by repeat (first | assumption | refine Bs_.push ?_ _ | refine Bs_.ext ?_ (by assumption))), (by repeat (first | assumption | refine Bs_.push ?_ _ | refine Bs_.ext ?_ (by assumption))), (by repeat (first | exact Ext.refl _ | exact Ext.push _ _ | assumption | refine Ext.trans ?_ (by assumption) | refine Ext.pushed ?_ _))⟩)
set_option maxHeartbeats 16000000 in
theorem step_midN (H : Hp) (x y q : Int) (t : AV) (bx : Sm x) (b_y : Sm y) (bz : Sm (x - y)) (hq : q ≠ 0) (K : Fr → Hp → Prop) (hK : ∀ fr' H', G8 H ((x - y).tdiv q) fr' H' → K fr' H') (fr' : Fr) (H' : Hp) (h : StepMidN H x y q t fr' H') : Run Tryz.prog Vs K (.ord stepPlan_midN) fr' H' := by
  obtain ⟨u, v, k10, k28, k43, k45, g10, U, V, T, x0⟩ := h
  have y10 := Qr g10
  simp only [Vs, Tryz.f58]
  repeat' first
    | (with_reducible first | refine Z1 ?_)
    | (with_reducible refine Jc ?_ ?_)
    | (simp only [Q3, RA, Jn, Jm, Jp, Q2, Q0, ev, ofValue, Jt, J0, J3, J2, J4, reduceCtorEq, reduceIte, Ju, Qb, Qa, Jy, aun, Q9, Jk, Jh, Jx, Jw, Ji, Q8, Jf, Q1, Jr, Js, J1, J5, Ja, J9, Jb, J6, J7, Jd, J8, RB, Jv, Je, Y6, k10, k28, k43, k45])
  all_goals
    refine Xi (Rsub_calls x y u v _ (by repeat (first | assumption | refine Bs_.push ?_ _ | refine Bs_.ext ?_ (by assumption))) (by repeat (first | assumption | refine Bs_.push ?_ _ | refine Bs_.ext ?_ (by assumption))) bx b_y) ?_
    rintro _ H6 ⟨u3, rfl, U3, x3⟩
    refine ⟨x3, ?_⟩
    have l3 := Ext.len x3
    try simp only [Qm] at l3
    repeat' first
      | (with_reducible first | refine Z1 ?_)
      | (with_reducible refine Jc ?_ ?_)
      | (simp only [Q3, RA, Jn, Jm, Jp, Q2, Q0, ev, ofValue, Jt, J0, J3, J2, J4, reduceCtorEq, reduceIte, Ju, Qb, Qa, Jy, aun, Q9, Jk, Jh, Jx, Jw, Ji, Q8, Jf, Q1, Jr, Js, J1, J5, Ja, J9, Jb, J6, J7, Jd, J8, RB, Jv, Je, Y6, k10, k28, k43, k45])
  all_goals
    refine Xi (Rdiv_calls (x - y) q u3 t _ (by repeat (first | assumption | refine Bs_.push ?_ _ | refine Bs_.ext ?_ (by assumption))) (by repeat (first | assumption | refine Bs_.push ?_ _ | refine Bs_.ext ?_ (by assumption))) bz hq) ?_
    rintro _ H7 ⟨u4, v4, rfl, U4, V4, x4⟩
    refine ⟨x4, ?_⟩
    have l4 := Ext.len x4
    try simp only [Qm] at l4
  all_goals first
    | (refine J1g H ((x - y).tdiv q) ((x - y).tmod q) _ hK _ _ ?_; exact ⟨_, _, _, _, (by first | rfl | assumption), (by first | rfl | assumption), (by first | rfl | assumption), (by first | rfl | assumption), (by (repeat (first | assumption | exact Qo (by first | rfl | omega | (simp only [Qm]; done) | (simp only [Qm]; omega)) | rw [Qp (by omega)] | rw [Qp (by simp only [Qm]; omega)] | refine Qh ?_ (by assumption))); done), ⟨(by (repeat (first | assumption | exact Qo (by first | rfl | omega | (simp only [Qm]; done) | (simp only [Qm]; omega)) | rw [Qp (by omega)] | rw [Qp (by simp only [Qm]; omega)] | refine Qh ?_ (by assumption))); done), by omega⟩, ⟨(by (repeat (first | assumption | exact Qo (by first | rfl | omega | (simp only [Qm]; done) | (simp only [Qm]; omega)) | rw [Qp (by omega)] | rw [Qp (by simp only [Qm]; omega)] | refine Qh ?_ (by assumption))); done), by omega⟩, by omega, (by repeat (first | assumption | refine Bs_.push ?_ _ | refine Bs_.ext ?_ (by assumption))), (by repeat (first | assumption | refine Bs_.push ?_ _ | refine Bs_.ext ?_ (by assumption))), (by repeat (first | exact Ext.refl _ | exact Ext.push _ _ | assumption | refine Ext.trans ?_ (by assumption) | refine Ext.pushed ?_ _))⟩)
    | (refine step_endL H ((x - y).tdiv q) ((x - y).tmod q) _ hK _ _ ?_; exact ⟨_, _, _, (by first | rfl | assumption), (by first | rfl | assumption), (by first | rfl | assumption), (by (repeat (first | assumption | exact Qo (by first | rfl | omega | (simp only [Qm]; done) | (simp only [Qm]; omega)) | rw [Qp (by omega)] | rw [Qp (by simp only [Qm]; omega)] | refine Qh ?_ (by assumption))); done), ⟨(by (repeat (first | assumption | exact Qo (by first | rfl | omega | (simp only [Qm]; done) | (simp only [Qm]; omega)) | rw [Qp (by omega)] | rw [Qp (by simp only [Qm]; omega)] | refine Qh ?_ (by assumption))); done), by omega⟩, (by repeat (first | assumption | refine Bs_.push ?_ _ | refine Bs_.ext ?_ (by assumption))), (by repeat (first | assumption | refine Bs_.push ?_ _ | refine Bs_.ext ?_ (by assumption))), (by repeat (first | exact Ext.refl _ | exact Ext.push _ _ | assumption | refine Ext.trans ?_ (by assumption) | refine Ext.pushed ?_ _))⟩)
    | (refine step_endR H ((x - y).tdiv q) ((x - y).tmod q) _ hK _ _ ?_; exact ⟨_, _, _, (by first | rfl | assumption), (by first | rfl | assumption), (by first | rfl | assumption), (by (repeat (first | assumption | exact Qo (by first | rfl | omega | (simp only [Qm]; done) | (simp only [Qm]; omega)) | rw [Qp (by omega)] | rw [Qp (by simp only [Qm]; omega)] | refine Qh ?_ (by assumption))); done), ⟨(by (repeat (first | assumption | exact Qo (by first | rfl | omega | (simp only [Qm]; done) | (simp only [Qm]; omega)) | rw [Qp (by omega)] | rw [Qp (by simp only [Qm]; omega)] | refine Qh ?_ (by assumption))); done), by omega⟩, (by repeat (first | assumption | refine Bs_.push ?_ _ | refine Bs_.ext ?_ (by assumption))), (by repeat (first | assumption | refine Bs_.push ?_ _ | refine Bs_.ext ?_ (by assumption))), (by repeat (first | exact Ext.refl _ | exact Ext.push _ _ | assumption | refine Ext.trans ?_ (by assumption) | refine Ext.pushed ?_ _))⟩)
    | (refine step_endN H ((x - y).tdiv q) ((x - y).tmod q) _ hK _ _ ?_; exact ⟨_, _, (by first | rfl | assumption), (by first | rfl | assumption), (by (repeat (first | assumption | exact Qo (by first | rfl | omega | (simp only [Qm]; done) | (simp only [Qm]; omega)) | rw [Qp (by omega)] | rw [Qp (by simp only [Qm]; omega)] | refine Qh ?_ (by assumption))); done), (by repeat (first | assumption | refine Bs_.push ?_ _ | refine Bs_.ext ?_ (by assumption))), (by repeat (first | assumption | refine Bs_.push ?_ _ | refine Bs_.ext ?_ (by assumption))), (by repeat (first | exact Ext.refl _ | exact Ext.push _ _ | assumption | refine Ext.trans ?_ (by assumption) | refine Ext.pushed ?_ _))⟩)
set_option maxHeartbeats 64000000 in
theorem Rstep_calls (p n k i j : Nat) (vs : List AV) (pss : List (List (Int × AV))) (q : Int) (t : AV) (H : Hp) (M : BMat H p vs pss) (hn : pss.length = n) (hw : ∀ x, x < n → (pss.getD x []).length = n) (hk : k < n) (hi : i < n) (hj : j < n) (T : Bs_ H t q) (hq : q ≠ 0)
    (wkk wij wik wkj : Int) (ekk : ((pss.getD k []).getD k (0, .nilS)).1 = wkk) (eij : ((pss.getD i []).getD j (0, .nilS)).1 = wij) (eik : ((pss.getD i []).getD k (0, .nilS)).1 = wik) (ekj : ((pss.getD k []).getD j (0, .nilS)).1 = wkj)
    (b1 : Sm wkk) (b2 : Sm wij) (b3 : Sm wik) (b4 : Sm wkj) (b5 : Sm (wkk * wij)) (b6 : Sm (wik * wkj)) (b7 : Sm (wkk * wij - wik * wkj)) :
    ACalls Tryz.prog 58 [.sg p 0 n 1, .int .i64 (k : Int), .int .i64 (i : Int), .int .i64 (j : Int), BV q t] H fun r H' => ∃ u, r = BV ((wkk * wij - wik * wkj).tdiv q) u ∧ Bs_ H' u ((wkk * wij - wik * wkj).tdiv q) ∧ Ext H H' := by
  have ht1 : t.one = true := T.one
  have ht2 : t.cells = [t] := T.cells
  have c1 := BMat.idx0 (p := p) (n := n) (k := .i64) (j := (k : Int)) (by omega) (by omega)
  have c2 := BMat.idx0 (p := p) (n := n) (k := .i64) (j := (i : Int)) (by omega) (by omega)
  rw [Int.toNat_natCast] at c1 c2
  have M2 := fun b1 b2 => (M.push b1).push b2
  have d1 := fun b1 b2 => (M2 b1 b2).at0 (i := k) (by omega)
  have d2 := fun b1 b2 => (M2 b1 b2).at0 (i := i) (by omega)
  have f1 := M.idx (i := k) (k := .i64) (j := (k : Int)) (by omega) (by omega) (by rw [hw k hk]; omega)
  have f2 := M.idx (i := k) (k := .i64) (j := (j : Int)) (by omega) (by omega) (by rw [hw k hk]; omega)
  have f3 := M.idx (i := i) (k := .i64) (j := (k : Int)) (by omega) (by omega) (by rw [hw i hi]; omega)
  have f4 := M.idx (i := i) (k := .i64) (j := (j : Int)) (by omega) (by omega) (by rw [hw i hi]; omega)
  rw [Int.toNat_natCast] at f1 f2 f3 f4
  have g1 := fun b1 b2 => (M2 b1 b2).get (i := k) (j := k) (by omega) (by rw [hw k hk]; exact hk)
  have g2 := fun b1 b2 => (M2 b1 b2).get (i := k) (j := j) (by omega) (by rw [hw k hk]; exact hj)
  have g3 := fun b1 b2 => (M2 b1 b2).get (i := i) (j := k) (by omega) (by rw [hw i hi]; exact hk)
  have g4 := fun b1 b2 => (M2 b1 b2).get (i := i) (j := j) (by omega) (by rw [hw i hi]; exact hj)
  have B1 := M.big k k (by omega) (by rw [hw k hk]; exact hk)
  have B2 := M.big k j (by omega) (by rw [hw k hk]; exact hj)
  have B3 := M.big i k (by omega) (by rw [hw i hi]; exact hk)
  have B4 := M.big i j (by omega) (by rw [hw i hi]; exact hj)
  rw [ekk] at g1 B1
  rw [ekj] at g2 B2
  rw [eik] at g3 B3
  rw [eij] at g4 B4
  obtain ⟨skk, hskk⟩ : ∃ s, s = ((pss.getD k []).getD k (0, .nilS)).2 := ⟨_, rfl⟩
  obtain ⟨skj, hskj⟩ : ∃ s, s = ((pss.getD k []).getD j (0, .nilS)).2 := ⟨_, rfl⟩
  obtain ⟨sik, hsik⟩ : ∃ s, s = ((pss.getD i []).getD k (0, .nilS)).2 := ⟨_, rfl⟩
  obtain ⟨sij, hsij⟩ : ∃ s, s = ((pss.getD i []).getD j (0, .nilS)).2 := ⟨_, rfl⟩
  rw [← hskk] at g1 B1
  rw [← hskj] at g2 B2
  rw [← hsik] at g3 B3
  rw [← hsij] at g4 B4
  refine Q7 Tryz.func58 rfl (by kernel_rfl) (by kernel_rfl) ?_
  refine Jj (fun K hQ => ?_)
  repeat' first
    | (with_reducible first | refine Jg ?_)
    | (simp only [Q4, Jo, reduceIte, J0])
    | (simp only [Q3, RA, Jn, Jm, Jp, Q2, Q0, ev, ofValue, Jt, J0, J3, J2, J4, reduceCtorEq, reduceIte, Ju, Qb, Qa, Jy, aun, Q9, Jk, Jh, Jx, Jw, Ji, Q8, Jf, Q1, Jr, Js, J1, J5, Ja, J9, Jb, J6, J7, Jd, J8, RB, Jv, Je, Y6])
    | (simp (disch := first | omega | (simp only [RO]; done) | assumption) only [RS, X6, X7, Ye, Yf, Vm, Vn, X4, X0])
  refine hQ _ _ ?_
  clear hQ
  refine Jj (fun K2 hK2 => ?_)
  refine Z6 (fun fr' H' => G8 H ((wkk * wij - wik * wkj).tdiv q) fr' H') ?_ (fun fr' H' h => hK2 _ _ ?_)
  · clear hK2
    repeat' first
      | (with_reducible first | refine Qw (id := 1) [14, 29, 30, 32] pn58_1RgB (by kernel_rfl) (by kernel_rfl) ?_ | refine Z1 ?_)
      | (with_reducible refine Jc ?_ ?_)
      | (simp only [Q3, RA, Jn, Jm, Jp, Q2, Q0, ev, ofValue, Jt, J0, J3, J2, J4, reduceCtorEq, reduceIte, Ju, Qb, Qa, Jy, aun, Q9, Jk, Jh, Jx, Jw, Ji, Q8, Jf, Q1, Jr, Js, J1, J5, Ja, J9, Jb, J6, J7, Jd, J8, RB, Jv, Je, Y6, c1, c2, d1, d2, f1, f2, f3, f4, g1, g2, g3, g4])
      | (simp (disch := (first | omega | (simp only [RO]; done) | assumption | (simp only [RM, Je]; done) | (simp only [RL, Je]; omega))) only [RD, reduceCtorEq, reduceIte, Je, J1, J3, J2, J6, Y6, c1, c2, d1, d2, f1, f2, f3, f4, g1, g2, g3, g4])
    all_goals
      refine Xi (Rmul_calls wkk wij skk sij _ (by repeat (first | assumption | refine Bs_.push ?_ _ | refine Bs_.ext ?_ (by assumption))) (by repeat (first | assumption | refine Bs_.push ?_ _ | refine Bs_.ext ?_ (by assumption))) b1 b2) ?_
      rintro _ H4 ⟨u1, rfl, Uu1, xu1⟩
      refine ⟨xu1, ?_⟩
      have lu1 := Ext.len xu1
      try simp only [Qm] at lu1
      repeat' first
        | (with_reducible first | refine Z1 ?_)
        | (with_reducible refine Jc ?_ ?_)
        | (simp only [Q3, RA, Jn, Jm, Jp, Q2, Q0, ev, ofValue, Jt, J0, J3, J2, J4, reduceCtorEq, reduceIte, Ju, Qb, Qa, Jy, aun, Q9, Jk, Jh, Jx, Jw, Ji, Q8, Jf, Q1, Jr, Js, J1, J5, Ja, J9, Jb, J6, J7, Jd, J8, RB, Jv, Je, Y6, c1, c2, d1, d2, f1, f2, f3, f4, g1, g2, g3, g4])
    all_goals
      refine Xi (Rmul_calls wik wkj sik skj _ (by repeat (first | assumption | refine Bs_.push ?_ _ | refine Bs_.ext ?_ (by assumption))) (by repeat (first | assumption | refine Bs_.push ?_ _ | refine Bs_.ext ?_ (by assumption))) b3 b4) ?_
      rintro _ H5 ⟨u2, rfl, Uu2, xu2⟩
      refine ⟨xu2, ?_⟩
      have lu2 := Ext.len xu2
      try simp only [Qm] at lu2
    all_goals first
      | (refine step_midB H (wkk * wij) (wik * wkj) q t b5 b6 b7 hq _ (fun _ _ h => h) _ _ ?_; exact ⟨_, _, _, _, (by first | rfl | assumption), (by first | rfl | assumption), (by first | rfl | assumption), (by first | rfl | assumption), (by first | rfl | assumption), (by first | rfl | assumption), (by (repeat (first | assumption | exact Qo (by first | rfl | omega | (simp only [Qm]; done) | (simp only [Qm]; omega)) | rw [Qp (by omega)] | rw [Qp (by simp only [Qm]; omega)] | refine Qh ?_ (by assumption))); done), ⟨(by (repeat (first | assumption | exact Qo (by first | rfl | omega | (simp only [Qm]; done) | (simp only [Qm]; omega)) | rw [Qp (by omega)] | rw [Qp (by simp only [Qm]; omega)] | refine Qh ?_ (by assumption))); done), by omega⟩, ⟨(by (repeat (first | assumption | exact Qo (by first | rfl | omega | (simp only [Qm]; done) | (simp only [Qm]; omega)) | rw [Qp (by omega)] | rw [Qp (by simp only [Qm]; omega)] | refine Qh ?_ (by assumption))); done), by omega⟩, by omega, (by repeat (first | assumption | refine Bs_.push ?_ _ | refine Bs_.ext ?_ (by assumption))), (by repeat (first | assumption | refine Bs_.push ?_ _ | refine Bs_.ext ?_ (by assumption))), (by repeat (first | assumption | refine Bs_.push ?_ _ | refine Bs_.ext ?_ (by assumption))), (by repeat (first | exact Ext.refl _ | exact Ext.push _ _ | assumption | refine Ext.trans ?_ (by assumption) | refine Ext.pushed ?_ _))⟩)
      | (refine step_midL H (wkk * wij) (wik * wkj) q t b5 b6 b7 hq _ (fun _ _ h => h) _ _ ?_; exact ⟨_, _, _, (by first | rfl | assumption), (by first | rfl | assumption), (by first | rfl | assumption), (by first | rfl | assumption), (by first | rfl | assumption), (by (repeat (first | assumption | exact Qo (by first | rfl | omega | (simp only [Qm]; done) | (simp only [Qm]; omega)) | rw [Qp (by omega)] | rw [Qp (by simp only [Qm]; omega)] | refine Qh ?_ (by assumption))); done), ⟨(by (repeat (first | assumption | exact Qo (by first | rfl | omega | (simp only [Qm]; done) | (simp only [Qm]; omega)) | rw [Qp (by omega)] | rw [Qp (by simp only [Qm]; omega)] | refine Qh ?_ (by assumption))); done), by omega⟩, (by repeat (first | assumption | refine Bs_.push ?_ _ | refine Bs_.ext ?_ (by assumption))), (by repeat (first | assumption | refine Bs_.push ?_ _ | refine Bs_.ext ?_ (by assumption))), (by repeat (first | assumption | refine Bs_.push ?_ _ | refine Bs_.ext ?_ (by assumption))), (by repeat (first | exact Ext.refl _ | exact Ext.push _ _ | assumption | refine Ext.trans ?_ (by assumption) | refine Ext.pushed ?_ _))⟩)
      | (refine step_midR H (wkk * wij) (wik * wkj) q t b5 b6 b7 hq _ (fun _ _ h => h) _ _ ?_; exact ⟨_, _, _, (by first | rfl | assumption), (by first | rfl | assumption), (by first | rfl | assumption), (by first | rfl | assumption), (by first | rfl | assumption), (by (repeat (first | assumption | exact Qo (by first | rfl | omega | (simp only [Qm]; done) | (simp only [Qm]; omega)) | rw [Qp (by omega)] | rw [Qp (by simp only [Qm]; omega)] | refine Qh ?_ (by assumption))); done), ⟨(by (repeat (first | assumption | exact Qo (by first | rfl | omega | (simp only [Qm]; done) | (simp only [Qm]; omega)) | rw [Qp (by omega)] | rw [Qp (by simp only [Qm]; omega)] | refine Qh ?_ (by assumption))); done), by omega⟩, (by repeat (first | assumption | refine Bs_.push ?_ _ | refine Bs_.ext ?_ (by assumption))), (by repeat (first | assumption | refine Bs_.push ?_ _ | refine Bs_.ext ?_ (by assumption))), (by repeat (first | assumption | refine Bs_.push ?_ _ | refine Bs_.ext ?_ (by assumption))), (by repeat (first | exact Ext.refl _ | exact Ext.push _ _ | assumption | refine Ext.trans ?_ (by assumption) | refine Ext.pushed ?_ _))⟩)
      | (refine step_midN H (wkk * wij) (wik * wkj) q t b5 b6 b7 hq _ (fun _ _ h => h) _ _ ?_; exact ⟨_, _, (by first | rfl | assumption), (by first | rfl | assumption), (by first | rfl | assumption), (by first | rfl | assumption), (by (repeat (first | assumption | exact Qo (by first | rfl | omega | (simp only [Qm]; done) | (simp only [Qm]; omega)) | rw [Qp (by omega)] | rw [Qp (by simp only [Qm]; omega)] | refine Qh ?_ (by assumption))); done), (by repeat (first | assumption | refine Bs_.push ?_ _ | refine Bs_.ext ?_ (by assumption))), (by repeat (first | assumption | refine Bs_.push ?_ _ | refine Bs_.ext ?_ (by assumption))), (by repeat (first | assumption | refine Bs_.push ?_ _ | refine Bs_.ext ?_ (by assumption))), (by repeat (first | exact Ext.refl _ | exact Ext.push _ _ | assumption | refine Ext.trans ?_ (by assumption) | refine Ext.pushed ?_ _))⟩)
  clear hK2
  obtain ⟨p11, u, k10, k11, g10, g11, n11, U, x0⟩ := h
  have tu1 := U.one
  have tu2 := U.cells
  have y10 := Qr g10
  repeat' first
    | (with_reducible first | refine Jj (fun K hK => ?_) | refine Qj ?_ | refine Jg ?_)
    | (simp only [Q4, Jo, reduceIte, J0])
    | ((with_reducible refine hK _ _ ?_); clear hK)
    | (simp only [Q3, RA, Jn, Jm, Jp, Q2, Q0, ev, ofValue, Jt, J0, J3, J2, J4, reduceCtorEq, reduceIte, Ju, Qb, Qa, Jy, aun, Q9, Jk, Jh, Jx, Jw, Ji, Q8, Jf, Q1, Jr, Js, J1, J5, Ja, J9, Jb, J6, J7, Jd, J8, RB, Jv, Je, Y6, k10, k11, g10, g11])
    | (simp (disch := first | omega | (simp only [RO]; done) | assumption) only [RS, X6, X7, Ye, Yf, Vm, Vn, X4, X0])
    | (simp (disch := (first | omega | (simp only [RO]; done) | assumption | (simp only [RM, Je]; done) | (simp only [RL, Je]; omega))) only [RD, reduceCtorEq, reduceIte, Je, J1, J3, J2, J6, Y6, k10, k11, g10, g11])
  all_goals
    (
     (refine Qg (rs := [.cell 10 46]) rfl ?_)
     (simp only [Qx, Qd, Fr.put_some, Fr.put_none, Qe, Qf, Qi, J0, reduceIte, k10, Qk y10])
     (try simp (disch := (first | omega | (simp only [RO]; done) | assumption | (simp only [RM, Je]; done) | (simp only [RL, Je]; omega))) only [RD, reduceCtorEq, reduceIte, Je, J1, J3, J2, J6, Y6, k10, Qk y10]))
  all_goals exact ⟨u, rfl, U.other g10 (Uy _ _) _, x0.set (by omega) _⟩
end Go.Proofs.YtfalfmfkifemeaaGreatDoor

/- Part 19 of the proof of laws of this seat: lemmas on the model's code, on this program's functions, on numbers. No condition. -/
import Derived.Test.YtigddjlhncnnoaaGreatDoorZGar
import Derived.Laws.BitsLemmas
set_option linter.unusedVariables false
set_option linter.unusedSimpArgs false
open Nat renaming reduceEqDiff → J0, reduceLeDiff → J1, reduceMul → J2, reduceAdd → J3, reduceSub → J4, reduceLT → J5
open Int renaming reduceToNat → J6, reducePow → J7, reduceNeg → J8, reduceLT → J9, reduceLE → Ja, reduceEq → Jb
open And renaming intro → Jc
open Go.IntKind renaming bits → Jd
open Go.PW renaming dig_length → Je
namespace Go.Proofs.YtigddjlhncnnoaaGreatDoor
open Go.AL Go.PW Go.PD Go.PR
theorem tf53CiD : type_of% (Jc @Zg (Jc @Uz (@Uy))) := Jc @Zg (Jc @Uz (@Uy))
theorem J0h : type_of% (Jc @Zg (Jc @Xw (@Yv))) := Jc @Zg (Jc @Xw (@Yv))
theorem tf57CiD : type_of% (Jc @Zg (Jc @Xc (Jc @Y9 (@Y8)))) := Jc @Zg (Jc @Xc (Jc @Y9 (@Y8)))
set_option maxRecDepth 8000
abbrev PtA (x y : Int) : AV := .agg [.int .i64 x, .int .i64 y]
theorem Far_calls (x y : Int) (H : Hp) : ACalls Tryz.prog 53 [PtA x y] H fun r H' => r = .bool (Y7 x || Y7 y) ∧ H = H' := by
  refine ACalls.drop (R := fun r => r = .bool (Y7 x || Y7 y)) ?_
  unfold Y7
  refine Qo Tryz.func53 rfl (by kernel_rfl) (by kernel_rfl) ?_
  repeat' first
    | (with_reducible first | refine Jh (fun K hK => ?_) | refine Jx ?_ | refine Q4 ?_ | refine Qc ?_ | refine Qd ?_ | refine Jg ?_ | refine Jr ?_)
    | (with_reducible refine Jt (fun hc => ?_) (fun hc => ?_) <;> (try simp only [RC] at hc) <;> (try (exfalso; first | omega | contradiction)))
    | (with_reducible refine X4 (fun hc => ?_) (fun hc => ?_) <;> (try simp only [RC] at hc) <;> (try (exfalso; first | omega | contradiction)))
    | (simp only [Qb, Jo, reduceIte, J0])
    | ((with_reducible refine hK _ _ ?_); clear hK)
    | (clear hK; (with_reducible refine hK _ _ ?_); clear hK)
    | (clear hK; clear hK; (with_reducible refine hK _ _ ?_); clear hK)
    | (clear hK; clear hK; clear hK; (with_reducible refine hK _ _ ?_); clear hK)
    | (clear hK; clear hK; clear hK; clear hK; (with_reducible refine hK _ _ ?_); clear hK)
    | (clear hK; clear hK; clear hK; clear hK; clear hK; (with_reducible refine hK _ _ ?_); clear hK)
    | (simp only [Q9, RA, Jn, Jm, Jp, Q8, Q6, ev, ofValue, Ju, J0, J3, J2, J4, reduceCtorEq, reduceIte, Jv, Qm, Qk, Q0, aun, Qj, Jk, Ji, Jz, Jy, Jj, Qi, Jf, Q7, Q2, Js, J1, J5, Ja, J9, Jb, J6, J7, Jd, J8, RB, Jw, Je, tf53CiD])
    | (simp (disch := first | omega | (simp only [RO]; done) | assumption) only [RS, Xt, Xv, Xj, Xu])
    | (simp (disch := (first | omega | (simp only [RO]; done) | assumption | (simp only [RM, Je]; done) | (simp only [RL, Je]; omega))) only [RD, reduceCtorEq, reduceIte, Je, J1, J3, J2, J6, tf53CiD])
  all_goals
    (
     (refine Qg (rs := [.tmp 2]) rfl ?_)
     (simp only [X5, Qf, Fr.put_some, Fr.put_none, Qp, Qq, Qt, J0, reduceIte])
     (try simp (disch := (first | omega | (simp only [RO]; done) | assumption | (simp only [RM, Je]; done) | (simp only [RL, Je]; omega))) only [RD, reduceCtorEq, reduceIte, Je, J1, J3, J2, J6, tf53CiD]))
  all_goals
    refine ⟨Ext.push _ _, trivial, ?_⟩
    congr 1
    rw [← Bool.decide_or]
    first
      | exact decide_eq_decide.mpr (by omega)
      | exact (decide_eq_true (by omega)).symm
def okR (v : Int) : Bool := decide (0 ≤ v ∧ v ≤ 2097152)
set_option maxHeartbeats 4000000 in
theorem ranges_calls (v : AV) (xs : List Int) (H : Hp) (hv : Ints H .i64 v xs) (hl : xs.length < 1000000) : ACalls Tryz.prog 54 [v] H fun r H' => r = .bool (xs.all okR) ∧ H = H' := by
  have hlen := hv.rd.len Vb
  refine Qo Tryz.func54 rfl (by kernel_rfl) (by kernel_rfl) ?_
  repeat' first
    | (with_reducible first | refine Jh (fun K hK => ?_) | refine Jx ?_ | refine Q4 ?_ | refine Qc ?_ | refine Qd ?_ | refine Jg ?_ | refine Jr ?_)
    | (with_reducible refine Jt (fun hc => ?_) (fun hc => ?_) <;> (try simp only [RC] at hc) <;> (try (exfalso; first | omega | contradiction)))
    | (with_reducible refine X4 (fun hc => ?_) (fun hc => ?_) <;> (try simp only [RC] at hc) <;> (try (exfalso; first | omega | contradiction)))
    | (simp only [Qb, Jo, reduceIte, J0])
    | ((with_reducible refine hK _ _ ?_); clear hK)
    | (clear hK; (with_reducible refine hK _ _ ?_); clear hK)
    | (clear hK; clear hK; (with_reducible refine hK _ _ ?_); clear hK)
    | (clear hK; clear hK; clear hK; (with_reducible refine hK _ _ ?_); clear hK)
    | (clear hK; clear hK; clear hK; clear hK; (with_reducible refine hK _ _ ?_); clear hK)
    | (clear hK; clear hK; clear hK; clear hK; clear hK; (with_reducible refine hK _ _ ?_); clear hK)
    | (simp only [Q9, RA, Jn, Jm, Jp, Q8, Q6, ev, ofValue, Ju, J0, J3, J2, J4, reduceCtorEq, reduceIte, Jv, Qm, Qk, Q0, aun, Qj, Jk, Ji, Jz, Jy, Jj, Qi, Jf, Q7, Q2, Js, J1, J5, Ja, J9, Jb, J6, J7, Jd, J8, RB, Jw, Je, J0h, hlen])
    | (simp (disch := first | omega | (simp only [RO]; done) | assumption) only [RS, Xx, Xy, Z0])
    | (simp (disch := (first | omega | (simp only [RO]; done) | assumption | (simp only [RM, Je]; done) | (simp only [RL, Je]; omega))) only [RD, reduceCtorEq, reduceIte, Je, J1, J3, J2, J6, J0h, hlen])
  refine Xi (fun m fr' H1 => ∃ i : Nat, m = xs.length - i ∧ i ≤ xs.length ∧ fr' 5 = v ∧ fr' 6 = .int .i64 (xs.length : Int) ∧ fr' 7 = .int .i64 (i : Int) ∧ (∀ j, j < i → okR (xs.getD j 0) = true) ∧ H = H1) (m := xs.length) ⟨0, rfl, by omega, rfl, rfl, rfl, fun j h => by omega, rfl⟩ ?_
  rintro m fr' H1 ⟨i, rfl, hi, k5, k6, k7, ha, rfl⟩
  have e1 : IntKind.i64.wrap ((i : Int) + 1) = ((i + 1 : Nat) : Int) := by rw [Qe (by omega) (by omega)]; omega
  by_cases hlt : i < xs.length
  · skip
    repeat' first
      | (with_reducible first | refine Jh (fun K hK => ?_) | refine Jx ?_ | refine Q4 ?_ | refine Qc ?_ | refine Qd ?_ | refine Jg ?_ | refine Jr ?_)
      | (with_reducible refine Jt (fun hc => ?_) (fun hc => ?_) <;> (try simp only [RC] at hc) <;> (try (exfalso; first | omega | contradiction)))
      | (with_reducible refine X4 (fun hc => ?_) (fun hc => ?_) <;> (try simp only [RC] at hc) <;> (try (exfalso; first | omega | contradiction)))
      | (simp only [Qb, Jo, reduceIte, J0])
      | ((with_reducible refine hK _ _ ?_); clear hK)
      | (clear hK; (with_reducible refine hK _ _ ?_); clear hK)
      | (clear hK; clear hK; (with_reducible refine hK _ _ ?_); clear hK)
      | (clear hK; clear hK; clear hK; (with_reducible refine hK _ _ ?_); clear hK)
      | (clear hK; clear hK; clear hK; clear hK; (with_reducible refine hK _ _ ?_); clear hK)
      | (clear hK; clear hK; clear hK; clear hK; clear hK; (with_reducible refine hK _ _ ?_); clear hK)
      | (simp only [Q9, RA, Jn, Jm, Jp, Q8, Q6, ev, ofValue, Ju, J0, J3, J2, J4, reduceCtorEq, reduceIte, Jv, Qm, Qk, Q0, aun, Qj, Jk, Ji, Jz, Jy, Jj, Qi, Jf, Q7, Q2, Js, J1, J5, Ja, J9, Jb, J6, J7, Jd, J8, RB, Jw, Je, J0h, k5, k6, k7, e1])
      | (simp (disch := first | omega | (simp only [RO]; done) | assumption) only [RS, hv.rd.at1 Vb Yr, hv.load1 agg2, Xx, Xy, Z0])
      | (simp (disch := (first | omega | (simp only [RO]; done) | assumption | (simp only [RM, Je]; done) | (simp only [RL, Je]; omega))) only [RD, reduceCtorEq, reduceIte, Je, J1, J3, J2, J6, J0h, k5, k6, k7, e1])
    all_goals first
      | (refine ⟨_, by omega, i + 1, rfl, by omega, rfl, fun j hj => ?_⟩
         by_cases e : j = i
         · rw [e]; unfold okR; exact decide_eq_true (by omega)
         · exact ha j (by omega))
      | (
         (
          (refine Qg (rs := [.tmp 2]) rfl ?_)
          (simp only [X5, Qf, Fr.put_some, Fr.put_none, Qp, Qq, Qt, J0, reduceIte])
          (try simp (disch := (first | omega | (simp only [RO]; done) | assumption | (simp only [RM, Je]; done) | (simp only [RL, Je]; omega))) only [RD, reduceCtorEq, reduceIte, Je, J1, J3, J2, J6, J0h]))
         refine congrArg AV.bool ?_
         rw [eq_comm, List.all_eq_false]
         exact ⟨_, Gh hlt, by unfold okR; rw [decide_eq_false (by omega)]; decide⟩)
  · obtain rfl : i = xs.length := by omega
    repeat' first
      | (with_reducible first | refine Jh (fun K hK => ?_) | refine Jx ?_ | refine Q4 ?_ | refine Qc ?_ | refine Qd ?_ | refine Jg ?_ | refine Jr ?_)
      | (with_reducible refine Jt (fun hc => ?_) (fun hc => ?_) <;> (try simp only [RC] at hc) <;> (try (exfalso; first | omega | contradiction)))
      | (with_reducible refine X4 (fun hc => ?_) (fun hc => ?_) <;> (try simp only [RC] at hc) <;> (try (exfalso; first | omega | contradiction)))
      | (simp only [Qb, Jo, reduceIte, J0])
      | ((with_reducible refine hK _ _ ?_); clear hK)
      | (clear hK; (with_reducible refine hK _ _ ?_); clear hK)
      | (clear hK; clear hK; (with_reducible refine hK _ _ ?_); clear hK)
      | (clear hK; clear hK; clear hK; (with_reducible refine hK _ _ ?_); clear hK)
      | (clear hK; clear hK; clear hK; clear hK; (with_reducible refine hK _ _ ?_); clear hK)
      | (clear hK; clear hK; clear hK; clear hK; clear hK; (with_reducible refine hK _ _ ?_); clear hK)
      | (simp only [Q9, RA, Jn, Jm, Jp, Q8, Q6, ev, ofValue, Ju, J0, J3, J2, J4, reduceCtorEq, reduceIte, Jv, Qm, Qk, Q0, aun, Qj, Jk, Ji, Jz, Jy, Jj, Qi, Jf, Q7, Q2, Js, J1, J5, Ja, J9, Jb, J6, J7, Jd, J8, RB, Jw, Je, J0h, k5, k6, k7])
      | (simp (disch := first | omega | (simp only [RO]; done) | assumption) only [RS, Xx, Xy, Z0])
      | (simp (disch := (first | omega | (simp only [RO]; done) | assumption | (simp only [RM, Je]; done) | (simp only [RL, Je]; omega))) only [RD, reduceCtorEq, reduceIte, Je, J1, J3, J2, J6, J0h, k5, k6, k7])
    (
     (refine Qg (rs := [.tmp 2]) rfl ?_)
     (simp only [X5, Qf, Fr.put_some, Fr.put_none, Qp, Qq, Qt, J0, reduceIte])
     (try simp (disch := (first | omega | (simp only [RO]; done) | assumption | (simp only [RM, Je]; done) | (simp only [RL, Je]; omega))) only [RD, reduceCtorEq, reduceIte, Je, J1, J3, J2, J6, J0h]))
    refine congrArg AV.bool ?_
    rw [eq_comm, List.all_eq_true]
    intro x hx
    obtain ⟨j, hj, rfl⟩ := List.getElem_of_mem hx
    have := ha j hj
    rwa [List.getD_eq_getElem?_getD, List.getElem?_eq_getElem hj, Option.getD_some] at this
theorem product_calls (a b : Int) (H : Hp) (ha : -9223372036854775808 ≤ a ∧ a ≤ 9223372036854775807) (hb : -9223372036854775808 ≤ b ∧ b ≤ 9223372036854775807) : ACalls Tryz.prog 57 [.int .i64 a, .int .i64 b] H fun r H' => r = W (a * b) ∧ H = H' := by
  refine ACalls.drop (R := fun r => r = W (a * b)) ?_
  have hn : (a * b).natAbs ≤ 9223372036854775808 * 9223372036854775808 := by rw [Int.natAbs_mul]; exact Nat.mul_le_mul (by omega) (by omega)
  have i1 : In a := Ue (Nat.le_trans (show a.natAbs ≤ 9223372036854775808 by omega) (by decide +kernel))
  have i2 : In b := Ue (Nat.le_trans (show b.natAbs ≤ 9223372036854775808 by omega) (by decide +kernel))
  have i3 : In (a * b) := Ue (Nat.le_trans hn (by decide +kernel))
  have OA := fun H0 => of_calls a H0 ha
  have OB := fun H0 => of_calls b H0 hb
  have MU := fun H0 => mul_calls a b H0 i1 i2 i3
  refine Qo Tryz.func57 rfl (by kernel_rfl) (by kernel_rfl) ?_
  repeat' first
    | (with_reducible first | refine Jh (fun K hK => ?_) | refine Jx ?_ | refine Q4 ?_ | refine Qc ?_ | refine Qd ?_ | refine Jg ?_ | refine Jr ?_)
    | ((with_reducible refine Q5 (OA _) ?_); rintro _ _ ⟨rfl, rfl⟩)
    | ((with_reducible refine Q5 (OB _) ?_); rintro _ _ ⟨rfl, rfl⟩)
    | ((with_reducible refine Q5 (MU _) ?_); rintro _ _ ⟨rfl, rfl⟩)
    | (with_reducible refine Jt (fun hc => ?_) (fun hc => ?_) <;> (try simp only [RC] at hc) <;> (try (exfalso; first | omega | contradiction)))
    | (with_reducible refine X4 (fun hc => ?_) (fun hc => ?_) <;> (try simp only [RC] at hc) <;> (try (exfalso; first | omega | contradiction)))
    | (simp only [Qb, Jo, reduceIte, J0])
    | ((with_reducible refine hK _ _ ?_); clear hK)
    | (clear hK; (with_reducible refine hK _ _ ?_); clear hK)
    | (clear hK; clear hK; (with_reducible refine hK _ _ ?_); clear hK)
    | (clear hK; clear hK; clear hK; (with_reducible refine hK _ _ ?_); clear hK)
    | (clear hK; clear hK; clear hK; clear hK; (with_reducible refine hK _ _ ?_); clear hK)
    | (clear hK; clear hK; clear hK; clear hK; clear hK; (with_reducible refine hK _ _ ?_); clear hK)
    | (simp only [Q9, RA, Jn, Jm, Jp, Q8, Q6, ev, ofValue, Ju, J0, J3, J2, J4, reduceCtorEq, reduceIte, Jv, Qm, Qk, Q0, aun, Qj, Jk, Ji, Jz, Jy, Jj, Qi, Jf, Q7, Q2, Js, J1, J5, Ja, J9, Jb, J6, J7, Jd, J8, RB, Jw, Je, tf57CiD])
    | (simp (disch := first | omega | (simp only [RO]; done) | assumption) only [RS, Zz, Zx, Zy, Zw])
    | (simp (disch := (first | omega | (simp only [RO]; done) | assumption | (simp only [RM, Je]; done) | (simp only [RL, Je]; omega))) only [RD, reduceCtorEq, reduceIte, Je, J1, J3, J2, J6, tf57CiD])
  all_goals
    (
     (refine Qg (rs := [.cell 4 73]) rfl ?_)
     (simp only [X5, Qf, Fr.put_some, Fr.put_none, Qp, Qq, Qt, J0, reduceIte])
     (try simp (disch := (first | omega | (simp only [RO]; done) | assumption | (simp only [RM, Je]; done) | (simp only [RL, Je]; omega))) only [RD, reduceCtorEq, reduceIte, Je, J1, J3, J2, J6, tf57CiD]))
  all_goals exact ⟨(Ext.push _ _).pushed _, W_lt _ _⟩
abbrev J0v : ByteArray := ⟨#[99, 105, 114, 99, 108, 101]⟩
end Go.Proofs.YtigddjlhncnnoaaGreatDoor
namespace Go.Proofs.YtigddjlhncnnoaaGreatDoor
open Go.AL Go.PW Go.PD Go.PR
theorem tf79CiE : type_of% (Jc @Zg (Jc @Xc (Jc @Y9 (Jc @Y8 (@J05))))) := Jc @Zg (Jc @Xc (Jc @Y9 (Jc @Y8 (@J05))))
theorem tf114CiE : type_of% (Jc @Zg (Jc @Xc (Jc @Y9 (@Y8)))) := Jc @Zg (Jc @Xc (Jc @Y9 (@Y8)))
theorem tf60CiE : type_of% (Jc @Zg (Jc @Zh (Jc @Uz (@Uy)))) := Jc @Zg (Jc @Zh (Jc @Uz (@Uy)))
abbrev pn79_2CiE : Plan := (.one 0 (.one 2 (.pur 1 (.one 3 .nil))))
abbrev pn114_2CiE : Plan := (.one 0 (.one 1 (.one 2 (.pur 3 (.pur 4 (.one 5 (.one 6 (.one 7 (.one 8 (.one 9 (.one 10 .nil)))))))))))
abbrev pn114_3CiE : Plan := (.one 0 (.one 1 (.pur 2 (.one 3 (.one 4 (.one 5 (.one 6 (.one 7 .nil))))))))
abbrev pn60_4CiE : Plan := (.one 0 (.one 1 (.one 2 (.one 3 (.one 4 (.one 5 (.one 6 (.ext 7 (.one 8 (.one 9 (.one 10 (.one 11 .nil))))))))))))
set_option maxRecDepth 8000
theorem guardW2 : Tryz.prog.eqGuardType Tryz.prog.depth 73 = false := by kernel_rfl
set_option maxHeartbeats 4000000 in
theorem wint64_calls (x : Int) (H : Hp) (hx : -9223372036854775808 ≤ x ∧ x ≤ 9223372036854775807) : ACalls Tryz.prog 79 [W x] H fun r H' => r = .tup [.int .i64 x, .bool true] ∧ H = H' := by
  refine ACalls.drop (R := fun r => r = .tup [.int .i64 x, .bool true]) ?_
  have OF := fun H0 => of_calls x H0 hx
  refine Qo Tryz.func79 rfl (by kernel_rfl) (by kernel_rfl) ?_
  have w : IntKind.i64.wrap ((dig 16 x).getD 0 0) = x := by
    show IntKind.i64.wrap (x % Bs) = x
    rw [IntKind.wrap_i64]; simp only [Bs]; omega
  have he := eq_wide x
  have hg := guardW2
  repeat' first
    | (with_reducible first | refine Jh (fun K hK => ?_) | refine Jx ?_ | refine Q4 ?_ | refine Qc ?_ | refine Qd ?_ | refine Jg ?_ | refine Q1 (id := 2) [1] pn79_2CiE (by kernel_rfl) (by kernel_rfl) ?_ | refine Jr ?_ | refine X8 ?_)
    | (with_reducible refine Xd (fun _ x => (OF _)) ?_)
    | ((with_reducible refine Q5 (OF _) ?_); rintro _ _ ⟨rfl, rfl⟩)
    | (with_reducible refine Jt (fun hc => ?_) (fun hc => ?_) <;> (try simp only [RC] at hc) <;> (try (exfalso; first | omega | contradiction)))
    | (with_reducible refine Jc ?_ ?_)
    | (with_reducible refine X4 (fun hc => ?_) (fun hc => ?_) <;> (try simp only [RC] at hc) <;> (try (exfalso; first | omega | contradiction)))
    | (simp only [Qb, Jo, reduceIte, J0])
    | ((with_reducible refine hK _ _ ?_); clear hK)
    | (clear hK; (with_reducible refine hK _ _ ?_); clear hK)
    | (clear hK; clear hK; (with_reducible refine hK _ _ ?_); clear hK)
    | (clear hK; clear hK; clear hK; (with_reducible refine hK _ _ ?_); clear hK)
    | (clear hK; clear hK; clear hK; clear hK; (with_reducible refine hK _ _ ?_); clear hK)
    | (clear hK; clear hK; clear hK; clear hK; clear hK; (with_reducible refine hK _ _ ?_); clear hK)
    | (simp only [Q9, RA, Jn, Jm, Jp, Q8, Q6, ev, ofValue, Ju, J0, J3, J2, J4, reduceCtorEq, reduceIte, Jv, Qm, Qk, Q0, aun, Qj, Jk, Ji, Jz, Jy, Jj, Qi, Jf, Q7, Q2, Js, J1, J5, Ja, J9, Jb, J6, J7, Jd, J8, RB, Jw, Je, tf79CiE, w, he, hg])
    | (simp (disch := first | omega | (simp only [RO]; done) | assumption) only [RS, Zz, Zx, Zy, Zw])
    | (simp (disch := (first | omega | (simp only [RO]; done) | assumption | (simp only [RM, Je]; done) | (simp only [RL, Je]; omega))) only [RD, reduceCtorEq, reduceIte, Je, J1, J3, J2, J6, tf79CiE, w, he, hg])
  all_goals
    (
     (refine Qg (rs := [.tmp 2, .tmp 3]) rfl ?_)
     (simp only [X5, Qf, Fr.put_some, Fr.put_none, Qp, Qq, Qt, J0, reduceIte])
     (try simp (disch := (first | omega | (simp only [RO]; done) | assumption | (simp only [RM, Je]; done) | (simp only [RL, Je]; omega))) only [RD, reduceCtorEq, reduceIte, Je, J1, J3, J2, J6, tf79CiE]))
  all_goals exact ⟨Ext.push _ _, ⟨trivial, trivial, trivial⟩⟩
set_option maxHeartbeats 4000000 in
theorem side_calls (f a b c d e : Int) (H : Hp) (hf : -9223372036854775808 ≤ f ∧ f ≤ 9223372036854775807) (ha : -9223372036854775808 ≤ a ∧ a ≤ 9223372036854775807) (hb : -9223372036854775808 ≤ b ∧ b ≤ 9223372036854775807) (hc : -9223372036854775808 ≤ c ∧ c ≤ 9223372036854775807) (hd : -9223372036854775808 ≤ d ∧ d ≤ 9223372036854775807) (he : 0 < e ∧ e ≤ 4611686018427387903) (hr : -9223372036854775808 ≤ rnd (a * b + c * d) (2 * e) + f ∧ rnd (a * b + c * d) (2 * e) + f ≤ 9223372036854775807) :
    ACalls Tryz.prog 114 [.int .i64 f, .int .i64 a, .int .i64 b, .int .i64 c, .int .i64 d, .int .i64 e] H fun r H' => r = .tup [.int .i64 (rnd (a * b + c * d) (2 * e) + f), .bool true] ∧ H = H' := by
  refine ACalls.drop (R := fun r => r = .tup [.int .i64 (rnd (a * b + c * d) (2 * e) + f), .bool true]) ?_
  have n1 : (a * b).natAbs ≤ 9223372036854775808 * 9223372036854775808 := by rw [Int.natAbs_mul]; exact Nat.mul_le_mul (by omega) (by omega)
  have n2 : (c * d).natAbs ≤ 9223372036854775808 * 9223372036854775808 := by rw [Int.natAbs_mul]; exact Nat.mul_le_mul (by omega) (by omega)
  have big : (9223372036854775808 * 9223372036854775808 + 9223372036854775808 * 9223372036854775808 : Nat) ≤ 2 ^ 200 := by decide +kernel
  have h200 : (2 ^ 200 : Nat) ≤ 2 ^ 203 := by decide +kernel
  have P1 := fun H0 => product_calls a b H0 ha hb
  have P2 := fun H0 => product_calls c d H0 hc hd
  obtain ⟨X, hX⟩ : ∃ X, X = a * b := ⟨_, rfl⟩
  obtain ⟨Y, hY⟩ : ∃ Y, Y = c * d := ⟨_, rfl⟩
  rw [← hX] at n1 P1 hr ⊢
  rw [← hY] at n2 P2 hr ⊢
  obtain ⟨R, hR⟩ : ∃ R, R = rnd (X + Y) (2 * e) := ⟨_, rfl⟩
  have A1 := fun H0 => add_calls X Y H0 (Ue (by omega)) (Ue (by omega)) (Ue (by omega))
  have w1 : IntKind.i64.wrap (2 * e) = 2 * e := Qe (by omega) (by omega)
  have O1 := fun H0 => of_calls (2 * e) H0 (by omega)
  have RN := fun H0 => wround_calls (X + Y) (2 * e) H0 (by omega) (by omega) (Nat.le_trans (show (2 * e).natAbs ≤ 9223372036854775808 by omega) (by decide +kernel))
  have O2 := fun H0 => of_calls f H0 hf
  rw [← hR] at RN hr ⊢
  have A2 := fun H0 => add_calls R f H0 (Ue (Nat.le_trans (show R.natAbs ≤ 18446744073709551616 by omega) (by decide +kernel))) (Ue (Nat.le_trans (show f.natAbs ≤ 9223372036854775808 by omega) (by decide +kernel))) (Ue (Nat.le_trans (show (R + f).natAbs ≤ 9223372036854775808 by omega) (by decide +kernel)))
  have I64 := fun H0 => wint64_calls (R + f) H0 hr
  refine Qo Tryz.func114 rfl (by kernel_rfl) (by kernel_rfl) ?_
  repeat' first
    | (with_reducible first | refine Jh (fun K hK => ?_) | refine Jx ?_ | refine Q4 ?_ | refine Qc ?_ | refine Qd ?_ | refine Jg ?_ | refine Q1 (id := 2) [3, 4] pn114_2CiE (by kernel_rfl) (by kernel_rfl) ?_ | refine Q1 (id := 3) [2] pn114_3CiE (by kernel_rfl) (by kernel_rfl) ?_ | refine Jr ?_ | refine X8 ?_)
    | (with_reducible refine Xd (fun _ x => (P1 _)) ?_)
    | (with_reducible refine Xd (fun _ x => (P2 _)) ?_)
    | (with_reducible refine Xd (fun _ x => (A1 _)) ?_)
    | (with_reducible refine Xd (fun _ x => (O1 _)) ?_)
    | (with_reducible refine Xd (fun _ x => (RN _)) ?_)
    | (with_reducible refine Xd (fun _ x => (O2 _)) ?_)
    | (with_reducible refine Xd (fun _ x => (A2 _)) ?_)
    | (with_reducible refine Xd (fun _ x => (I64 _)) ?_)
    | ((with_reducible refine Q5 (P1 _) ?_); rintro _ _ ⟨rfl, rfl⟩)
    | ((with_reducible refine Q5 (P2 _) ?_); rintro _ _ ⟨rfl, rfl⟩)
    | ((with_reducible refine Q5 (A1 _) ?_); rintro _ _ ⟨rfl, rfl⟩)
    | ((with_reducible refine Q5 (O1 _) ?_); rintro _ _ ⟨rfl, rfl⟩)
    | ((with_reducible refine Q5 (RN _) ?_); rintro _ _ ⟨rfl, rfl⟩)
    | ((with_reducible refine Q5 (O2 _) ?_); rintro _ _ ⟨rfl, rfl⟩)
    | ((with_reducible refine Q5 (A2 _) ?_); rintro _ _ ⟨rfl, rfl⟩)
    | ((with_reducible refine Q5 (I64 _) ?_); rintro _ _ ⟨rfl, rfl⟩)
    | (with_reducible refine Jt (fun hc => ?_) (fun hc => ?_) <;> (try simp only [RC] at hc) <;> (try (exfalso; first | omega | contradiction)))
    | (with_reducible refine Jc ?_ ?_)
    | (with_reducible refine X4 (fun hc => ?_) (fun hc => ?_) <;> (try simp only [RC] at hc) <;> (try (exfalso; first | omega | contradiction)))
    | (simp only [Qb, Jo, reduceIte, J0])
    | ((with_reducible refine hK _ _ ?_); clear hK)
    | (clear hK; (with_reducible refine hK _ _ ?_); clear hK)
    | (clear hK; clear hK; (with_reducible refine hK _ _ ?_); clear hK)
    | (clear hK; clear hK; clear hK; (with_reducible refine hK _ _ ?_); clear hK)
    | (clear hK; clear hK; clear hK; clear hK; (with_reducible refine hK _ _ ?_); clear hK)
    | (clear hK; clear hK; clear hK; clear hK; clear hK; (with_reducible refine hK _ _ ?_); clear hK)
    | (simp only [Q9, RA, Jn, Jm, Jp, Q8, Q6, ev, ofValue, Ju, J0, J3, J2, J4, reduceCtorEq, reduceIte, Jv, Qm, Qk, Q0, aun, Qj, Jk, Ji, Jz, Jy, Jj, Qi, Jf, Q7, Q2, Js, J1, J5, Ja, J9, Jb, J6, J7, Jd, J8, RB, Jw, Je, tf114CiE, w1])
    | (simp (disch := first | omega | (simp only [RO]; done) | assumption) only [RS, Zz, Zx, Zy, Zw])
    | (simp (disch := (first | omega | (simp only [RO]; done) | assumption | (simp only [RM, Je]; done) | (simp only [RL, Je]; omega))) only [RD, reduceCtorEq, reduceIte, Je, J1, J3, J2, J6, tf114CiE, w1])
  all_goals
    (
     (refine Qg (rs := [.tmp 12, .tmp 13]) rfl ?_)
     (simp only [X5, Qf, Fr.put_some, Fr.put_none, Qp, Qq, Qt, J0, reduceIte])
     (try simp (disch := (first | omega | (simp only [RO]; done) | assumption | (simp only [RM, Je]; done) | (simp only [RL, Je]; omega))) only [RD, reduceCtorEq, reduceIte, Je, J1, J3, J2, J6, tf114CiE]))
  all_goals exact ⟨by repeat (first | exact Ext.push _ _ | refine Ext.pushed ?_ _), ⟨trivial, trivial, trivial⟩⟩
set_option maxHeartbeats 4000000 in
theorem cplace_calls (px py a k dx dy d : Int) (H : Hp) (hd : 0 < d ∧ d ≤ 281474976710656) (ha : -281474976710656 ≤ a ∧ a ≤ 281474976710656) (hk : -140737488355328 ≤ k ∧ k ≤ 140737488355328) (hx : -d ≤ dx ∧ dx ≤ d) (hy : -d ≤ dy ∧ dy ≤ d) (hpx : -4194304 ≤ px ∧ px ≤ 4194304) (hpy : -4194304 ≤ py ∧ py ≤ 4194304) :
    ACalls Tryz.prog 60 [PtA px py, .int .i64 a, .int .i64 k, .int .i64 dx, .int .i64 dy, .int .i64 d] H fun r H' => r = .tup [PtA (plX px a k dx dy d) (plY py a k dx dy d), .bool (!(Y7 (plX px a k dx dy d) || Y7 (plY py a k dx dy d)))] ∧ H = H' := by
  refine ACalls.drop (R := fun r => r = .tup [PtA (plX px a k dx dy d) (plY py a k dx dy d), .bool (!(Y7 (plX px a k dx dy d) || Y7 (plY py a k dx dy d)))]) ?_
  have s1 := pl_small (f := px) (a := a) (k := -k) (x := dx) (y := dy) hd.1 ha (by omega) hx hy hpx
  have s2 := pl_small (f := py) (a := a) (k := k) (x := dy) (y := dx) hd.1 ha hk hy hx hpy
  have S1 := fun H0 => side_calls px a dx (-k) dy d H0 (by omega) (by omega) (by omega) (by omega) (by omega) (by omega) (by omega)
  have S2 := fun H0 => side_calls py a dy k dx d H0 (by omega) (by omega) (by omega) (by omega) (by omega) (by omega) (by omega)
  have w1 : IntKind.i64.wrap (-k) = -k := Qe (by omega) (by omega)
  have w2 : IntKind.i64.wrap (0 - k) = -k := by rw [Qe (by omega) (by omega)]; omega
  have FA := fun H0 => Far_calls (plX px a k dx dy d) (plY py a k dx dy d) H0
  have eX : rnd (a * dx + -k * dy) (2 * d) + px = plX px a k dx dy d := rfl
  have eY : rnd (a * dy + k * dx) (2 * d) + py = plY py a k dx dy d := rfl
  rw [eX] at S1
  rw [eY] at S2
  refine Qo Tryz.func60 rfl (by kernel_rfl) (by kernel_rfl) ?_
  repeat' first
    | (with_reducible first | refine Jh (fun K hK => ?_) | refine Jx ?_ | refine Q4 ?_ | refine Qc ?_ | refine Qd ?_ | refine Jg ?_ | refine Q1 (id := 4) [7] pn60_4CiE (by kernel_rfl) (by kernel_rfl) ?_ | refine Jr ?_ | refine X8 ?_ | refine Xr ?_)
    | (with_reducible refine Kd (S1 _) ?_)
    | (with_reducible refine Kd (S2 _) ?_)
    | (with_reducible refine Kd (FA _) ?_)
    | ((with_reducible refine Q5 (S1 _) ?_); rintro _ _ ⟨rfl, rfl⟩)
    | ((with_reducible refine Q5 (S2 _) ?_); rintro _ _ ⟨rfl, rfl⟩)
    | ((with_reducible refine Q5 (FA _) ?_); rintro _ _ ⟨rfl, rfl⟩)
    | (with_reducible refine Jt (fun hc => ?_) (fun hc => ?_) <;> (try simp only [RC] at hc) <;> (try (exfalso; first | omega | contradiction)))
    | (with_reducible refine Jc ?_ ?_)
    | (with_reducible refine X4 (fun hc => ?_) (fun hc => ?_) <;> (try simp only [RC] at hc) <;> (try (exfalso; first | omega | contradiction)))
    | (simp only [Qb, Jo, reduceIte, J0])
    | ((with_reducible refine hK _ _ ?_); clear hK)
    | (clear hK; (with_reducible refine hK _ _ ?_); clear hK)
    | (clear hK; clear hK; (with_reducible refine hK _ _ ?_); clear hK)
    | (clear hK; clear hK; clear hK; (with_reducible refine hK _ _ ?_); clear hK)
    | (clear hK; clear hK; clear hK; clear hK; (with_reducible refine hK _ _ ?_); clear hK)
    | (clear hK; clear hK; clear hK; clear hK; clear hK; (with_reducible refine hK _ _ ?_); clear hK)
    | (simp only [Q9, RA, Jn, Jm, Jp, Q8, Q6, ev, ofValue, Ju, J0, J3, J2, J4, reduceCtorEq, reduceIte, Jv, Qm, Qk, Q0, aun, Qj, Jk, Ji, Jz, Jy, Jj, Qi, Jf, Q7, Q2, Js, J1, J5, Ja, J9, Jb, J6, J7, Jd, J8, RB, Jw, Je, tf60CiE, w1, w2])
    | (simp (disch := first | omega | (simp only [RO]; done) | assumption) only [RS, Xt, Xv, Xj, Xu])
    | (simp (disch := (first | omega | (simp only [RO]; done) | assumption | (simp only [RM, Je]; done) | (simp only [RL, Je]; omega))) only [RD, reduceCtorEq, reduceIte, Je, J1, J3, J2, J6, tf60CiE, w1, w2])
  all_goals
    (
     (refine Qg (rs := [.cell 12 23, .tmp 13]) rfl ?_)
     (simp only [X5, Qf, Fr.put_some, Fr.put_none, Qp, Qq, Qt, J0, reduceIte])
     (try simp (disch := (first | omega | (simp only [RO]; done) | assumption | (simp only [RM, Je]; done) | (simp only [RL, Je]; omega))) only [RD, reduceCtorEq, reduceIte, Je, J1, J3, J2, J6, tf60CiE]))
  all_goals exact ⟨((Ext.push _ _).pushed _).pushed _, ⟨⟨trivial, trivial, trivial⟩, trivial, trivial⟩⟩
end Go.Proofs.YtigddjlhncnnoaaGreatDoor
namespace Go.Proofs.YtigddjlhncnnoaaGreatDoor
open Go.AL Go.PW Go.PD
set_option maxRecDepth 8000
abbrev IsA (xs : List Int) : AV := .fz xs.length (xs.map (AV.int .i64))
theorem wsub_s (x y : Int) (hx : In x) (hy : In y) (hs : In (x - y)) : Fn 56 [W x, W y] (.tup [W (x - y), .bool true]) := Sure.st (by simp only [RT]) (by simp only [RT]) fun H => sub_calls x y H hx hy hs
theorem wsign_s (x : Int) (hx : In x) : Fn 58 [W x] (.int .i64 x.sign) := Sure.st (by simp only [RT]) trivial fun H => sign_calls x H hx
end Go.Proofs.YtigddjlhncnnoaaGreatDoor
namespace Go.Proofs.YtigddjlhncnnoaaGreatDoor
open Go.AL Go.PW Go.PD Go.PR
theorem tf55ZaA : type_of% (Jc @Xw (Jc @tyb9 (Jc @U1 (Jc @U0 (@Kg))))) := Jc @Xw (Jc @tyb9 (Jc @U1 (Jc @U0 (@Kg))))
theorem Ky : type_of% (Jc @Zg (Jc @Xw (Jc @Zh (Jc @Uz (Jc @Uy (Jc @Yv (Jc @Xc (Jc @Y9 (Jc @Y8 (Jc @Kg (@J05))))))))))) := Jc @Zg (Jc @Xw (Jc @Zh (Jc @Uz (Jc @Uy (Jc @Yv (Jc @Xc (Jc @Y9 (Jc @Y8 (Jc @Kg (@J05))))))))))
abbrev pn14_3ZaA : Plan := (.pur 2 (.one 0 (.alt 1 (.one 3 (.one 4 (.one 5 .nil))) (.one 3 (.one 1 (.one 4 (.one 5 .nil)))))))
abbrev pn14_4ZaA : Plan := (.one 0 (.one 1 (.one 2 (.one 3 (.one 4 (.one 5 (.one 6 (.one 7 (.one 8 (.one 9 (.one 10 (.one 11 .nil))))))))))))
abbrev pn14_7ZaA : Plan := (.pur 2 (.one 0 (.alt 1 (.one 3 (.one 4 (.one 5 .nil))) (.one 3 (.one 1 (.one 4 (.one 5 .nil)))))))
abbrev J17 : Plan := (.pur 2 (.one 0 (.alt 1 (.one 3 (.one 4 (.one 5 .nil))) (.one 3 (.one 1 (.one 4 (.one 5 .nil)))))))
abbrev J16 : Plan := (.pur 2 (.one 0 (.alt 1 (.one 3 (.one 4 (.one 5 .nil))) (.one 3 (.one 1 (.one 4 (.one 5 .nil)))))))
abbrev J15 : Plan := (.one 0 (.alt 1 (.one 2 (.one 3 (.one 4 .nil))) (.one 2 (.one 1 (.one 3 (.one 4 .nil))))))
set_option maxRecDepth 8000
theorem root_s (hi lo : Int) (n : Nat) (hh : 0 ≤ hi ∧ hi < Bs) (hl : 0 ≤ lo ∧ lo < Bs) (hn : (n : Int) = hi * Bs + lo) : Fn 59 [.int .u64 hi, .int .u64 lo] (.int .u64 (rt n : Nat)) := Sure.st (by simp only [RT]) trivial fun H => root_calls hi lo n H hh hl hn
theorem hypot_s (x y : Int) (n : Nat) (hx : -2147483648 ≤ x ∧ x ≤ 2147483648) (hy : -2147483648 ≤ y ∧ y ≤ 2147483648) (hn : (n : Int) = x * x + y * y) : Fn 138 [.int .i64 x, .int .i64 y] (.tup [.int .i64 (rt n : Nat), .bool true]) := Sure.st (by simp only [RT]) ⟨trivial, trivial, trivial⟩ fun H => hypot_calls x y n H hx hy hn
theorem Far_s (x y : Int) : Fn 53 [PtA x y] (.bool (Y7 x || Y7 y)) := Sure.st (by simp only [RT]) trivial fun H => Far_calls x y H
theorem ranges_s (xs : List Int) (hl : xs.length < 1000000) : Fn 54 [IsA xs] (.bool (xs.all okR)) := Sure.st (by simp only [RT]) trivial fun H => ranges_calls _ xs H (Ints.fz H .i64 xs) hl
theorem product_s (a b : Int) (ha : -9223372036854775808 ≤ a ∧ a ≤ 9223372036854775807) (hb : -9223372036854775808 ≤ b ∧ b ≤ 9223372036854775807) : Fn 57 [.int .i64 a, .int .i64 b] (W (a * b)) := Sure.st (by simp only [RT]) (by simp only [RT]) fun H => product_calls a b H ha hb
theorem place_s (px py a k dx dy d : Int) (hd : 0 < d ∧ d ≤ 281474976710656) (ha : -281474976710656 ≤ a ∧ a ≤ 281474976710656) (hk : -140737488355328 ≤ k ∧ k ≤ 140737488355328) (hx : -d ≤ dx ∧ dx ≤ d) (hy : -d ≤ dy ∧ dy ≤ d) (hpx : -4194304 ≤ px ∧ px ≤ 4194304) (hpy : -4194304 ≤ py ∧ py ≤ 4194304) :
    Fn 60 [PtA px py, .int .i64 a, .int .i64 k, .int .i64 dx, .int .i64 dy, .int .i64 d] (.tup [PtA (plX px a k dx dy d) (plY py a k dx dy d), .bool (!(Y7 (plX px a k dx dy d) || Y7 (plY py a k dx dy d)))]) :=
  Sure.st (by simp only [RT]) ⟨⟨trivial, trivial, trivial⟩, trivial, trivial⟩ fun H => cplace_calls px py a k dx dy d H hd ha hk hx hy hpx hpy
theorem bad_s (n : Int) : Fn 55 [.int .i64 n] (ErrA J0v n) := by
  refine Sure.body (by first | (simp only [RT]; done) | simp_all only [RT]) Tryz.func55 rfl (by kernel_rfl) (by kernel_rfl) ?_
  repeat' first
    | (with_reducible first | refine Jh (fun K hK => ?_) | refine Jx ?_ | refine Q4 ?_ | refine Qc ?_ | refine Qd ?_ | refine Jg ?_ | refine Jr ?_)
    | (with_reducible refine Q3 (wrap_s J0v n) (Jq _ _) ?_)
    | (with_reducible refine Jt (fun hc => ?_) (fun hc => ?_) <;> (try simp only [RC] at hc) <;> (try (exfalso; first | omega | contradiction)))
    | (with_reducible refine X4 (fun hc => ?_) (fun hc => ?_) <;> (try simp only [RC] at hc) <;> (try (exfalso; first | omega | contradiction)))
    | (simp only [Qb, Jo, reduceIte, J0])
    | ((with_reducible refine hK _ _ ?_); clear hK)
    | (clear hK; (with_reducible refine hK _ _ ?_); clear hK)
    | (clear hK; clear hK; (with_reducible refine hK _ _ ?_); clear hK)
    | (clear hK; clear hK; clear hK; (with_reducible refine hK _ _ ?_); clear hK)
    | (clear hK; clear hK; clear hK; clear hK; (with_reducible refine hK _ _ ?_); clear hK)
    | (clear hK; clear hK; clear hK; clear hK; clear hK; (with_reducible refine hK _ _ ?_); clear hK)
    | (simp only [Q9, RA, Jn, Jm, Jp, Q8, Q6, ev, ofValue, Ju, J0, J3, J2, J4, reduceCtorEq, reduceIte, Jv, Qm, Qk, Q0, aun, Qj, Jk, Ji, Jz, Jy, Jj, Qi, Jf, Q7, Js, J1, J5, Ja, J9, Jb, J6, J7, Jd, J8, RB, Jw, Je, RZ, tf55ZaA])
    | (simp (disch := first | omega | (simp only [RO]; done) | assumption) only [RS, RG])
    | (simp (disch := (first | omega | (simp only [RO]; done) | assumption | (simp only [RM, Je]; done) | (simp only [RL, Je]; omega))) only [RD, reduceCtorEq, reduceIte, Je, J1, J3, J2, J6, tf55ZaA])
  all_goals
    (
     (refine Qg (rs := [.tmp 2]) rfl ?_)
     (simp only [X5, Qf, RA, RZ, J0, J3, J1, reduceCtorEq, reduceIte, tf55ZaA])
     (try simp only [RF]))
def errC (n : Int) : AV := if n = 0 then .nilI else ErrA J0v n
def meetA (m : Int × (Int × Int) × (Int × Int)) : AV := .tup [PtA m.2.1.1 m.2.1.2, PtA m.2.2.1 m.2.2.2, errC m.1]
theorem Vj : errC 27 = ErrA J0v 27 := rfl
theorem Gj : errC 33 = ErrA J0v 33 := rfl
theorem N6 : errC 34 = ErrA J0v 34 := rfl
theorem J0u : errC 21 = ErrA J0v 21 := rfl
theorem Uc : errC 0 = .nilI := rfl
theorem meetS_far {px py r qx qy s base : Int} (h : Gq px py r qx qy s base = true) : J0q px py r qx qy s base = (27, (0, 0), (0, 0)) := by
  unfold J0q; rw [if_pos h]
set_option maxHeartbeats 16000000 in
theorem Meet_s (px py r qx qy s base : Int) : Fn 14 [PtA px py, .int .i64 r, PtA qx qy, .int .i64 s, .int .i64 base] (meetA (J0q px py r qx qy s base)) := by
  have B := bad_s
  have F1 := Far_s px py
  have F2 := Far_s qx qy
  have RG := ranges_s [r, s] (by show 2 < 1000000; omega)
  obtain ⟨b1, hb1⟩ : ∃ b1, b1 = (Y7 px || Y7 py) := ⟨_, rfl⟩
  obtain ⟨b2, hb2⟩ : ∃ b2, b2 = (Y7 qx || Y7 qy) := ⟨_, rfl⟩
  obtain ⟨b3, hb3⟩ : ∃ b3, b3 = [r, s].all okR := ⟨_, rfl⟩
  have hU0 : Gq px py r qx qy s base = (b1 || b2 || !b3 || decide (base < 1 ∨ 4194304 < base)) := by
    unfold Gq; rw [hb1, hb2, hb3]
    simp only [List.all_cons, List.all_nil, Bool.and_true, okR]
  rw [← hb1] at F1
  rw [← hb2] at F2
  rw [← hb3] at RG
  rcases Bool.eq_false_or_eq_true (Gq px py r qx qy s base) with hU | hU
  · rw [meetS_far hU]
    rw [hU0] at hU
    clear hU0 hb1 hb2 hb3
    by_cases hb : base < 1 ∨ 4194304 < base
    all_goals
      cases b1 <;> cases b2 <;> cases b3
    all_goals first
      | (simp [hb] at hU; done)
      | skip
    all_goals
      refine Sure.body (by first | (simp only [RT]; done) | simp_all only [RT]) Tryz.func14 rfl (by kernel_rfl) (by kernel_rfl) ?_
      repeat' first
        | (with_reducible first | refine Jh (fun K hK => ?_) | refine Jx ?_ | refine Q4 ?_ | refine Qc ?_ | refine Qd ?_ | refine Jg ?_ | refine Q1 (id := 3) [] pn14_3ZaA (by kernel_rfl) (by kernel_rfl) ?_ | refine Q1 (id := 4) [] pn14_4ZaA (by kernel_rfl) (by kernel_rfl) ?_ | refine Q1 (id := 7) [] pn14_7ZaA (by kernel_rfl) (by kernel_rfl) ?_ | refine Q1 (id := 11) [] J17 (by kernel_rfl) (by kernel_rfl) ?_ | refine Q1 (id := 16) [] J16 (by kernel_rfl) (by kernel_rfl) ?_ | refine Q1 (id := 17) [] J15 (by kernel_rfl) (by kernel_rfl) ?_ | refine Jr ?_ | refine X8 ?_)
        | (with_reducible refine Q3 (F1) (Jq _ _) ?_)
        | (with_reducible refine Qa (F1) (Jq _ _) ?_)
        | (with_reducible refine Q3 (F2) (Jq _ _) ?_)
        | (with_reducible refine Qa (F2) (Jq _ _) ?_)
        | ((with_reducible refine J0x (RG) (Jq _ _) ?_ ?_ ?_); (· rfl); (· (repeat' first | exact Wg | refine Vo ?_ ?_ | exact Frz.self (by simp only [RT]) | exact Ra (z := 1) rfl rfl (by first | exact Nat.le_refl _ | omega) rfl (by first | rfl | simp only [List.length_map, Nat.mul_one]) (by simp only [RT]))))
        | (with_reducible refine Q3 (B _) (Jq _ _) ?_)
        | (with_reducible refine Qa (B _) (Jq _ _) ?_)
        | (with_reducible refine Jt (fun hc => ?_) (fun hc => ?_) <;> (try simp only [RC] at hc) <;> (try (exfalso; first | omega | contradiction)))
        | (with_reducible refine Jc ?_ ?_)
        | (with_reducible refine X4 (fun hc => ?_) (fun hc => ?_) <;> (try simp only [RC] at hc) <;> (try (exfalso; first | omega | contradiction)))
        | (simp only [Qb, Jo, reduceIte, J0])
        | ((with_reducible refine hK _ _ ?_); clear hK)
        | (clear hK; (with_reducible refine hK _ _ ?_); clear hK)
        | (clear hK; clear hK; (with_reducible refine hK _ _ ?_); clear hK)
        | (clear hK; clear hK; clear hK; (with_reducible refine hK _ _ ?_); clear hK)
        | (clear hK; clear hK; clear hK; clear hK; (with_reducible refine hK _ _ ?_); clear hK)
        | (clear hK; clear hK; clear hK; clear hK; clear hK; (with_reducible refine hK _ _ ?_); clear hK)
        | (simp only [Q9, RA, Jn, Jm, Jp, Q8, Q6, ev, ofValue, Ju, J0, J3, J2, J4, reduceCtorEq, reduceIte, Jv, Qm, Qk, Q0, aun, Qj, Jk, Ji, Jz, Jy, Jj, Qi, Jf, Q7, Js, J1, J5, Ja, J9, Jb, J6, J7, Jd, J8, RB, Jw, Je, RZ, Ky])
        | (simp (disch := first | omega | (simp only [RO]; done) | assumption) only [RS, RG, Xx, Xy, Z0, Zz, Zx, Zy, Zw, Xt, Xv, Xj, Xu])
        | (simp (disch := (first | omega | (simp only [RO]; done) | assumption | (simp only [RM, Je]; done) | (simp only [RL, Je]; omega))) only [RD, reduceCtorEq, reduceIte, Je, J1, J3, J2, J6, Ky])
    all_goals
      (
       (refine Qg (rs := [.cell 10 23, .cell 11 23, .tmp 12]) rfl ?_)
       (simp only [X5, Qf, RA, RZ, J0, J3, J1, reduceCtorEq, reduceIte, Ky, meetA, Vj, Gj, N6, J0u, Uc, Bool.false_eq_true, Bool.or_self, Bool.or_true, Bool.true_or])
       (try simp only [RF, meetA, Vj, Gj, N6, J0u, Uc, Bool.false_eq_true, Bool.or_self, Bool.or_true, Bool.true_or]))
  have Z := sized_of hU
  have hmu := meetS_ok hU
  have hb : 1 ≤ base ∧ base ≤ 4194304 := Z.b0
  have hbb : b1 = false ∧ b2 = false ∧ b3 = true := by rw [hU0] at hU; revert hU; cases b1 <;> cases b2 <;> cases b3 <;> simp
  obtain ⟨rfl, rfl, rfl⟩ := hbb
  clear hU0 hb1 hb2 hb3 hU
  have wx : IntKind.i64.wrap (qx - px) = qx - px := Qe (by have := Z.dx; omega) (by have := Z.dx; omega)
  have wy : IntKind.i64.wrap (qy - py) = qy - py := Qe (by have := Z.dy; omega) (by have := Z.dy; omega)
  have wxx : IntKind.i64.wrap ((qx - px) * (qx - px)) = (qx - px) * (qx - px) := Qe (by have := Z.dxx; omega) (by have := Z.dxx; omega)
  have wyy : IntKind.i64.wrap ((qy - py) * (qy - py)) = (qy - py) * (qy - py) := Qe (by have := Z.dyy; omega) (by have := Z.dyy; omega)
  have wd : IntKind.i64.wrap ((qx - px) * (qx - px) + (qy - py) * (qy - py)) = dd px py qx qy := by have := Z.d; unfold dd at *; exact Qe (by omega) (by omega)
  have wb : IntKind.i64.wrap (base * base) = base * base := Qe (by have := Z.bb; omega) (by have := Z.bb; omega)
  rw [hmu]
  by_cases hn : dd px py qx qy < base * base
  · have f1 : (dd px py qx qy < base * base) = True := eq_true hn
    rw [if_pos hn]
    refine Sure.body (by first | (simp only [RT]; done) | simp_all only [RT]) Tryz.func14 rfl (by kernel_rfl) (by kernel_rfl) ?_
    repeat' first
      | (with_reducible first | refine Jh (fun K hK => ?_) | refine Jx ?_ | refine Q4 ?_ | refine Qc ?_ | refine Qd ?_ | refine Jg ?_ | refine Q1 (id := 3) [] pn14_3ZaA (by kernel_rfl) (by kernel_rfl) ?_ | refine Q1 (id := 4) [] pn14_4ZaA (by kernel_rfl) (by kernel_rfl) ?_ | refine Q1 (id := 7) [] pn14_7ZaA (by kernel_rfl) (by kernel_rfl) ?_ | refine Q1 (id := 11) [] J17 (by kernel_rfl) (by kernel_rfl) ?_ | refine Q1 (id := 16) [] J16 (by kernel_rfl) (by kernel_rfl) ?_ | refine Q1 (id := 17) [] J15 (by kernel_rfl) (by kernel_rfl) ?_ | refine Jr ?_ | refine X8 ?_)
      | (with_reducible refine Q3 (F1) (Jq _ _) ?_)
      | (with_reducible refine Qa (F1) (Jq _ _) ?_)
      | (with_reducible refine Q3 (F2) (Jq _ _) ?_)
      | (with_reducible refine Qa (F2) (Jq _ _) ?_)
      | ((with_reducible refine J0x (RG) (Jq _ _) ?_ ?_ ?_); (· rfl); (· (repeat' first | exact Wg | refine Vo ?_ ?_ | exact Frz.self (by simp only [RT]) | exact Ra (z := 1) rfl rfl (by first | exact Nat.le_refl _ | omega) rfl (by first | rfl | simp only [List.length_map, Nat.mul_one]) (by simp only [RT]))))
      | (with_reducible refine Q3 (B _) (Jq _ _) ?_)
      | (with_reducible refine Qa (B _) (Jq _ _) ?_)
      | (with_reducible refine Jt (fun hc => ?_) (fun hc => ?_) <;> (try simp only [RC] at hc) <;> (try (exfalso; first | omega | contradiction)))
      | (with_reducible refine Jc ?_ ?_)
      | (with_reducible refine X4 (fun hc => ?_) (fun hc => ?_) <;> (try simp only [RC] at hc) <;> (try (exfalso; first | omega | contradiction)))
      | (simp only [Qb, Jo, reduceIte, J0])
      | ((with_reducible refine hK _ _ ?_); clear hK)
      | (clear hK; (with_reducible refine hK _ _ ?_); clear hK)
      | (clear hK; clear hK; (with_reducible refine hK _ _ ?_); clear hK)
      | (clear hK; clear hK; clear hK; (with_reducible refine hK _ _ ?_); clear hK)
      | (clear hK; clear hK; clear hK; clear hK; (with_reducible refine hK _ _ ?_); clear hK)
      | (clear hK; clear hK; clear hK; clear hK; clear hK; (with_reducible refine hK _ _ ?_); clear hK)
      | (simp only [Q9, RA, Jn, Jm, Jp, Q8, Q6, ev, ofValue, Ju, J0, J3, J2, J4, reduceCtorEq, reduceIte, Jv, Qm, Qk, Q0, aun, Qj, Jk, Ji, Jz, Jy, Jj, Qi, Jf, Q7, Js, J1, J5, Ja, J9, Jb, J6, J7, Jd, J8, RB, Jw, Je, RZ, Ky, wx, wy, wxx, wyy, wd, wb, f1])
      | (simp (disch := first | omega | (simp only [RO]; done) | assumption) only [RS, RG, Xx, Xy, Z0, Zz, Zx, Zy, Zw, Xt, Xv, Xj, Xu])
      | (simp (disch := (first | omega | (simp only [RO]; done) | assumption | (simp only [RM, Je]; done) | (simp only [RL, Je]; omega))) only [RD, reduceCtorEq, reduceIte, Je, J1, J3, J2, J6, Ky, wx, wy, wxx, wyy, wd, wb, f1])
    all_goals
      (
       (refine Qg (rs := [.cell 10 23, .cell 11 23, .tmp 12]) rfl ?_)
       (simp only [X5, Qf, RA, RZ, J0, J3, J1, reduceCtorEq, reduceIte, Ky, meetA, Vj, Gj, N6, J0u, Uc, Bool.false_eq_true, Bool.or_self, Bool.or_true, Bool.true_or])
       (try simp only [RF, meetA, Vj, Gj, N6, J0u, Uc, Bool.false_eq_true, Bool.or_self, Bool.or_true, Bool.true_or]))
  rw [if_neg hn]
  have f1 : (dd px py qx qy < base * base) = False := eq_false hn
  have wr : IntKind.i64.wrap (r * r) = r * r := Qe (by have := Z.rr; omega) (by have := Z.rr; omega)
  have ws : IntKind.i64.wrap (s * s) = s * s := Qe (by have := Z.ss; omega) (by have := Z.ss; omega)
  have w1 : IntKind.i64.wrap (r * r - s * s) = r * r - s * s := Qe (by have := Z.rr; have := Z.ss; omega) (by have := Z.rr; have := Z.ss; omega)
  have w2 : IntKind.i64.wrap (r * r - s * s + dd px py qx qy) = aa px py r qx qy s := by have := Z.a; unfold aa at *; exact Qe (by omega) (by omega)
  have w3 : IntKind.i64.wrap (4 * r) = 4 * r := Qe (by have := Z.r0; omega) (by have := Z.r0; omega)
  have w4 : IntKind.i64.wrap (4 * r * r) = 4 * r * r := by rw [Rc]; exact Qe (by have := Z.rr; omega) (by have := Z.rr; omega)
  obtain ⟨hd0, hdx, hdy⟩ := Z.near hn
  have hd := Z.d
  have hA := Z.a
  have hrr := Z.rr
  have P1 := product_s (4 * r * r) (dd px py qx qy) (by rw [Rc]; omega) (by omega)
  have P2 := product_s (aa px py r qx qy s) (aa px py r qx qy s) (by omega) (by omega)
  have hrl := Z.rest_le
  obtain ⟨Q, hQ⟩ : ∃ Q, Q = rest px py r qx qy s := ⟨_, rfl⟩
  have hQe : 4 * r * r * dd px py qx qy - aa px py r qx qy s * aa px py r qx qy s = Q := by rw [hQ]; rfl
  have n1 : (4 * r * r * dd px py qx qy).natAbs ≤ 17592186044416 * 140737488355328 := W7 (by rw [Rc]; omega) (by omega)
  have n2 : (aa px py r qx qy s * aa px py r qx qy s).natAbs ≤ 281474976710656 * 281474976710656 := W7 (by omega) (by omega)
  have nQ : Q.natAbs ≤ 2 ^ 203 := Nat.le_trans (show Q.natAbs ≤ 17592186044416 * 140737488355328 + 281474976710656 * 281474976710656 by rw [← hQe]; omega) (by decide +kernel)
  have SB := wsub_s (4 * r * r * dd px py qx qy) (aa px py r qx qy s * aa px py r qx qy s) (Ue (Nat.le_trans n1 (by decide +kernel))) (Ue (Nat.le_trans n2 (by decide +kernel))) (by rw [hQe]; exact Ue (Nat.le_trans nQ (by decide +kernel)))
  rw [hQe] at SB
  have SG := wsign_s Q (Ue (Nat.le_trans nQ (by decide +kernel)))
  rw [← hQ] at hrl ⊢
  by_cases hs : Q < 0
  · have fs : (Q.sign < 0) = True := eq_true (Int.sign_neg_iff.mpr hs)
    rw [if_pos hs]
    refine Sure.body (by first | (simp only [RT]; done) | simp_all only [RT]) Tryz.func14 rfl (by kernel_rfl) (by kernel_rfl) ?_
    repeat' first
      | (with_reducible first | refine Jh (fun K hK => ?_) | refine Jx ?_ | refine Q4 ?_ | refine Qc ?_ | refine Qd ?_ | refine Jg ?_ | refine Q1 (id := 3) [] pn14_3ZaA (by kernel_rfl) (by kernel_rfl) ?_ | refine Q1 (id := 4) [] pn14_4ZaA (by kernel_rfl) (by kernel_rfl) ?_ | refine Q1 (id := 7) [] pn14_7ZaA (by kernel_rfl) (by kernel_rfl) ?_ | refine Q1 (id := 11) [] J17 (by kernel_rfl) (by kernel_rfl) ?_ | refine Q1 (id := 16) [] J16 (by kernel_rfl) (by kernel_rfl) ?_ | refine Q1 (id := 17) [] J15 (by kernel_rfl) (by kernel_rfl) ?_ | refine Jr ?_ | refine X8 ?_)
      | (with_reducible refine Q3 (F1) (Jq _ _) ?_)
      | (with_reducible refine Qa (F1) (Jq _ _) ?_)
      | (with_reducible refine Q3 (F2) (Jq _ _) ?_)
      | (with_reducible refine Qa (F2) (Jq _ _) ?_)
      | ((with_reducible refine J0x (RG) (Jq _ _) ?_ ?_ ?_); (· rfl); (· (repeat' first | exact Wg | refine Vo ?_ ?_ | exact Frz.self (by simp only [RT]) | exact Ra (z := 1) rfl rfl (by first | exact Nat.le_refl _ | omega) rfl (by first | rfl | simp only [List.length_map, Nat.mul_one]) (by simp only [RT]))))
      | (with_reducible refine Q3 (B _) (Jq _ _) ?_)
      | (with_reducible refine Qa (B _) (Jq _ _) ?_)
      | (with_reducible refine Q3 (P1) (Jq _ _) ?_)
      | (with_reducible refine Qa (P1) (Jq _ _) ?_)
      | (with_reducible refine Q3 (P2) (Jq _ _) ?_)
      | (with_reducible refine Qa (P2) (Jq _ _) ?_)
      | (with_reducible refine Q3 (SB) (Jq _ _) ?_)
      | (with_reducible refine Qa (SB) (Jq _ _) ?_)
      | (with_reducible refine Q3 (SG) (Jq _ _) ?_)
      | (with_reducible refine Qa (SG) (Jq _ _) ?_)
      | (with_reducible refine Jt (fun hc => ?_) (fun hc => ?_) <;> (try simp only [RC] at hc) <;> (try (exfalso; first | omega | contradiction)))
      | (with_reducible refine Jc ?_ ?_)
      | (with_reducible refine X4 (fun hc => ?_) (fun hc => ?_) <;> (try simp only [RC] at hc) <;> (try (exfalso; first | omega | contradiction)))
      | (simp only [Qb, Jo, reduceIte, J0])
      | ((with_reducible refine hK _ _ ?_); clear hK)
      | (clear hK; (with_reducible refine hK _ _ ?_); clear hK)
      | (clear hK; clear hK; (with_reducible refine hK _ _ ?_); clear hK)
      | (clear hK; clear hK; clear hK; (with_reducible refine hK _ _ ?_); clear hK)
      | (clear hK; clear hK; clear hK; clear hK; (with_reducible refine hK _ _ ?_); clear hK)
      | (clear hK; clear hK; clear hK; clear hK; clear hK; (with_reducible refine hK _ _ ?_); clear hK)
      | (simp only [Q9, RA, Jn, Jm, Jp, Q8, Q6, ev, ofValue, Ju, J0, J3, J2, J4, reduceCtorEq, reduceIte, Jv, Qm, Qk, Q0, aun, Qj, Jk, Ji, Jz, Jy, Jj, Qi, Jf, Q7, Js, J1, J5, Ja, J9, Jb, J6, J7, Jd, J8, RB, Jw, Je, RZ, Ky, wx, wy, wxx, wyy, wd, wb, f1, wr, ws, w1, w2, w3, w4, fs])
      | (simp (disch := first | omega | (simp only [RO]; done) | assumption) only [RS, RG, Xx, Xy, Z0, Zz, Zx, Zy, Zw, Xt, Xv, Xj, Xu])
      | (simp (disch := (first | omega | (simp only [RO]; done) | assumption | (simp only [RM, Je]; done) | (simp only [RL, Je]; omega))) only [RD, reduceCtorEq, reduceIte, Je, J1, J3, J2, J6, Ky, wx, wy, wxx, wyy, wd, wb, f1, wr, ws, w1, w2, w3, w4, fs])
    all_goals
      (
       (refine Qg (rs := [.cell 10 23, .cell 11 23, .tmp 12]) rfl ?_)
       (simp only [X5, Qf, RA, RZ, J0, J3, J1, reduceCtorEq, reduceIte, Ky, meetA, Vj, Gj, N6, J0u, Uc, Bool.false_eq_true, Bool.or_self, Bool.or_true, Bool.true_or])
       (try simp only [RF, meetA, Vj, Gj, N6, J0u, Uc, Bool.false_eq_true, Bool.or_self, Bool.or_true, Bool.true_or]))
  have fs : (Q.sign < 0) = False := eq_false (fun h => hs (Int.sign_neg_iff.mp h))
  have hrt := Z.root
  rw [← hQ] at hrt
  have hroot := root_s (Q / Bs % Bs) (Q % Bs) Q.toNat (by simp only [Bs]; omega) (by simp only [Bs]; omega) (by simp only [Bs]; omega)
  have e1 : (dig 16 Q).getD 1 0 = Q / Bs % Bs := rfl
  have e0 : (dig 16 Q).getD 0 0 = Q % Bs := rfl
  obtain ⟨k, hk⟩ : ∃ k : Int, k = ((rt Q.toNat : Nat) : Int) := ⟨_, rfl⟩
  rw [← hk] at hroot hrt
  have hk0 : 0 ≤ k := by omega
  have wk : IntKind.i64.wrap k = k := Qe (by omega) (by omega)
  have wnk : IntKind.i64.wrap (-k) = -k := Qe (by omega) (by omega)
  have wnk0 : IntKind.i64.wrap (0 - k) = -k := by rw [Qe (by omega) (by omega)]; omega
  have L1 := place_s px py (aa px py r qx qy s) k (qx - px) (qy - py) (dd px py qx qy) (by omega) hA (by omega) hdx hdy Z.p1 Z.p2
  have L2 := place_s px py (aa px py r qx qy s) (-k) (qx - px) (qy - py) (dd px py qx qy) (by omega) hA (by omega) hdx hdy Z.p1 Z.p2
  rw [if_neg hs, meetK, ← hQ, ← hk]
  generalize plX px (aa px py r qx qy s) k (qx - px) (qy - py) (dd px py qx qy) = X1 at *
  generalize plY py (aa px py r qx qy s) k (qx - px) (qy - py) (dd px py qx qy) = Y1 at *
  generalize plX px (aa px py r qx qy s) (-k) (qx - px) (qy - py) (dd px py qx qy) = X2 at *
  generalize plY py (aa px py r qx qy s) (-k) (qx - px) (qy - py) (dd px py qx qy) = Y2 at *
  generalize (Y7 X1 || Y7 Y1) = b1 at *
  generalize (Y7 X2 || Y7 Y2) = b2 at *
  cases b1 <;> cases b2
  all_goals
    refine Sure.body (by first | (simp only [RT]; done) | simp_all only [RT]) Tryz.func14 rfl (by kernel_rfl) (by kernel_rfl) ?_
    repeat' first
      | (with_reducible first | refine Jh (fun K hK => ?_) | refine Jx ?_ | refine Q4 ?_ | refine Qc ?_ | refine Qd ?_ | refine Jg ?_ | refine Q1 (id := 3) [] pn14_3ZaA (by kernel_rfl) (by kernel_rfl) ?_ | refine Q1 (id := 4) [] pn14_4ZaA (by kernel_rfl) (by kernel_rfl) ?_ | refine Q1 (id := 7) [] pn14_7ZaA (by kernel_rfl) (by kernel_rfl) ?_ | refine Q1 (id := 11) [] J17 (by kernel_rfl) (by kernel_rfl) ?_ | refine Q1 (id := 16) [] J16 (by kernel_rfl) (by kernel_rfl) ?_ | refine Q1 (id := 17) [] J15 (by kernel_rfl) (by kernel_rfl) ?_ | refine Jr ?_ | refine X8 ?_)
      | (with_reducible refine Q3 (F1) (Jq _ _) ?_)
      | (with_reducible refine Qa (F1) (Jq _ _) ?_)
      | (with_reducible refine Q3 (F2) (Jq _ _) ?_)
      | (with_reducible refine Qa (F2) (Jq _ _) ?_)
      | ((with_reducible refine J0x (RG) (Jq _ _) ?_ ?_ ?_); (· rfl); (· (repeat' first | exact Wg | refine Vo ?_ ?_ | exact Frz.self (by simp only [RT]) | exact Ra (z := 1) rfl rfl (by first | exact Nat.le_refl _ | omega) rfl (by first | rfl | simp only [List.length_map, Nat.mul_one]) (by simp only [RT]))))
      | (with_reducible refine Q3 (B _) (Jq _ _) ?_)
      | (with_reducible refine Qa (B _) (Jq _ _) ?_)
      | (with_reducible refine Q3 (P1) (Jq _ _) ?_)
      | (with_reducible refine Qa (P1) (Jq _ _) ?_)
      | (with_reducible refine Q3 (P2) (Jq _ _) ?_)
      | (with_reducible refine Qa (P2) (Jq _ _) ?_)
      | (with_reducible refine Q3 (SB) (Jq _ _) ?_)
      | (with_reducible refine Qa (SB) (Jq _ _) ?_)
      | (with_reducible refine Q3 (SG) (Jq _ _) ?_)
      | (with_reducible refine Qa (SG) (Jq _ _) ?_)
      | (with_reducible refine Q3 (hroot) (Jq _ _) ?_)
      | (with_reducible refine Qa (hroot) (Jq _ _) ?_)
      | (with_reducible refine Q3 (L1) (Jq _ _) ?_)
      | (with_reducible refine Qa (L1) (Jq _ _) ?_)
      | (with_reducible refine Q3 (L2) (Jq _ _) ?_)
      | (with_reducible refine Qa (L2) (Jq _ _) ?_)
      | (with_reducible refine Jt (fun hc => ?_) (fun hc => ?_) <;> (try simp only [RC] at hc) <;> (try (exfalso; first | omega | contradiction)))
      | (with_reducible refine Jc ?_ ?_)
      | (with_reducible refine X4 (fun hc => ?_) (fun hc => ?_) <;> (try simp only [RC] at hc) <;> (try (exfalso; first | omega | contradiction)))
      | (simp only [Qb, Jo, reduceIte, J0])
      | ((with_reducible refine hK _ _ ?_); clear hK)
      | (clear hK; (with_reducible refine hK _ _ ?_); clear hK)
      | (clear hK; clear hK; (with_reducible refine hK _ _ ?_); clear hK)
      | (clear hK; clear hK; clear hK; (with_reducible refine hK _ _ ?_); clear hK)
      | (clear hK; clear hK; clear hK; clear hK; (with_reducible refine hK _ _ ?_); clear hK)
      | (clear hK; clear hK; clear hK; clear hK; clear hK; (with_reducible refine hK _ _ ?_); clear hK)
      | (simp only [Q9, RA, Jn, Jm, Jp, Q8, Q6, ev, ofValue, Ju, J0, J3, J2, J4, reduceCtorEq, reduceIte, Jv, Qm, Qk, Q0, aun, Qj, Jk, Ji, Jz, Jy, Jj, Qi, Jf, Q7, Js, J1, J5, Ja, J9, Jb, J6, J7, Jd, J8, RB, Jw, Je, RZ, Ky, wx, wy, wxx, wyy, wd, wb, f1, wr, ws, w1, w2, w3, w4, fs, e1, e0, wk, wnk, wnk0])
      | (simp (disch := first | omega | (simp only [RO]; done) | assumption) only [RS, RG, Xx, Xy, Z0, Zz, Zx, Zy, Zw, Xt, Xv, Xj, Xu])
      | (simp (disch := (first | omega | (simp only [RO]; done) | assumption | (simp only [RM, Je]; done) | (simp only [RL, Je]; omega))) only [RD, reduceCtorEq, reduceIte, Je, J1, J3, J2, J6, Ky, wx, wy, wxx, wyy, wd, wb, f1, wr, ws, w1, w2, w3, w4, fs, e1, e0, wk, wnk, wnk0])
  all_goals
    (
     (refine Qg (rs := [.cell 10 23, .cell 11 23, .tmp 12]) rfl ?_)
     (simp only [X5, Qf, RA, RZ, J0, J3, J1, reduceCtorEq, reduceIte, Ky, meetA, Vj, Gj, N6, J0u, Uc, Bool.false_eq_true, Bool.or_self, Bool.or_true, Bool.true_or])
     (try simp only [RF, meetA, Vj, Gj, N6, J0u, Uc, Bool.false_eq_true, Bool.or_self, Bool.or_true, Bool.true_or]))
end Go.Proofs.YtigddjlhncnnoaaGreatDoor

/- Part 20 of the proof of laws of this seat: lemmas on the model's code, on this program's functions, on numbers. No condition. -/
import Derived.Test.YtigddjlhncnnoaaGreatDoorZGas
set_option linter.unusedVariables false
set_option linter.unusedSimpArgs false
open Nat renaming reduceEqDiff → J0, reduceLeDiff → J1, reduceMul → J2, reduceAdd → J3, reduceSub → J4, reduceLT → J5
open Int renaming reduceToNat → J6, reducePow → J7, reduceNeg → J8, reduceLT → J9, reduceLE → Ja, reduceEq → Jb
open And renaming intro → Jc
open Go.IntKind renaming bits → Jd
open Go.PW renaming dig_length → Je
namespace Go.Proofs.YtigddjlhncnnoaaGreatDoor
open Go.AL Go.PW Go.PD Go.PR
theorem J08 : type_of% (Jc @Zg (Jc @Xc (@cv2_71))) := Jc @Zg (Jc @Xc (@cv2_71))
theorem tf156ZaB : type_of% (Jc @Zg (Jc @Zh (Jc @Xc (@J05)))) := Jc @Zg (Jc @Zh (Jc @Xc (@J05)))
theorem tf139ZaB : type_of% (Jc @Zg (Jc @Zh (@Xc))) := Jc @Zg (Jc @Zh (@Xc))
theorem J1c : type_of% (Jc @Zg (Jc @Xw (Jc @Zh (Jc @Uz (Jc @Uy (Jc @Yv (@Kg))))))) := Jc @Zg (Jc @Xw (Jc @Zh (Jc @Uz (Jc @Uy (Jc @Yv (@Kg))))))
theorem Kx : type_of% (Jc @Zg (Jc @Xw (Jc @Zh (Jc @Uz (Jc @Uy (Jc @U1 (Jc @U0 (Jc @Yv (@Kg))))))))) := Jc @Zg (Jc @Xw (Jc @Zh (Jc @Uz (Jc @Uy (Jc @U1 (Jc @U0 (Jc @Yv (@Kg))))))))
set_option maxRecDepth 8000
theorem fsize_s (v : Int) (hv : -9223372036854775808 ≤ v ∧ v ≤ 9223372036854775807) : Fn 157 [.int .i64 v] (.int .u64 v.natAbs) := by
  by_cases h : v < 0
  · have f : (v < 0) = True := eq_true h
    have w : IntKind.u64.wrap (0 - IntKind.u64.wrap v) = (v.natAbs : Int) := by
      simp only [IntKind.wrap, IntKind.signed, Bool.false_and, Bool.false_eq_true, if_false, Jd, J7]
      omega
    refine Sure.body (by first | (simp only [RT]; done) | simp_all only [RT]) Tryz.func157 rfl (by kernel_rfl) (by kernel_rfl) ?_
    repeat' first
      | (with_reducible first | refine Jh (fun K hK => ?_) | refine Jx ?_ | refine Q4 ?_ | refine Qc ?_ | refine Qd ?_ | refine Jg ?_ | refine Jr ?_)
      | (with_reducible refine Jt (fun hc => ?_) (fun hc => ?_) <;> (try simp only [RC] at hc) <;> (try (exfalso; first | omega | contradiction)))
      | (with_reducible refine X4 (fun hc => ?_) (fun hc => ?_) <;> (try simp only [RC] at hc) <;> (try (exfalso; first | omega | contradiction)))
      | (simp only [Qb, Jo, reduceIte, J0])
      | ((with_reducible refine hK _ _ ?_); clear hK)
      | (clear hK; (with_reducible refine hK _ _ ?_); clear hK)
      | (clear hK; clear hK; (with_reducible refine hK _ _ ?_); clear hK)
      | (clear hK; clear hK; clear hK; (with_reducible refine hK _ _ ?_); clear hK)
      | (clear hK; clear hK; clear hK; clear hK; (with_reducible refine hK _ _ ?_); clear hK)
      | (clear hK; clear hK; clear hK; clear hK; clear hK; (with_reducible refine hK _ _ ?_); clear hK)
      | (simp only [Q9, RA, Jn, Jm, Jp, Q8, Q6, ev, ofValue, Ju, J0, J3, J2, J4, reduceCtorEq, reduceIte, Jv, Qm, Qk, Q0, aun, Qj, Jk, Ji, Jz, Jy, Jj, Qi, Jf, Q7, Js, J1, J5, Ja, J9, Jb, J6, J7, Jd, J8, RB, Jw, Je, RZ, J08, f, w])
      | (simp (disch := first | omega | (simp only [RO]; done) | assumption) only [RS, RG])
      | (simp (disch := (first | omega | (simp only [RO]; done) | assumption | (simp only [RM, Je]; done) | (simp only [RL, Je]; omega))) only [RD, reduceCtorEq, reduceIte, Je, J1, J3, J2, J6, J08, f, w])
    all_goals
      (
       (refine Qg (rs := [.tmp 2]) rfl ?_)
       (simp only [X5, Qf, RA, RZ, J0, J3, J1, reduceCtorEq, reduceIte, J08])
       (try simp only [RF]))
  · have f : (v < 0) = False := eq_false h
    have w : IntKind.u64.wrap v = (v.natAbs : Int) := by rw [Y0 (by omega) (by simp only [Bs]; omega)]; omega
    refine Sure.body (by first | (simp only [RT]; done) | simp_all only [RT]) Tryz.func157 rfl (by kernel_rfl) (by kernel_rfl) ?_
    repeat' first
      | (with_reducible first | refine Jh (fun K hK => ?_) | refine Jx ?_ | refine Q4 ?_ | refine Qc ?_ | refine Qd ?_ | refine Jg ?_ | refine Jr ?_)
      | (with_reducible refine Jt (fun hc => ?_) (fun hc => ?_) <;> (try simp only [RC] at hc) <;> (try (exfalso; first | omega | contradiction)))
      | (with_reducible refine X4 (fun hc => ?_) (fun hc => ?_) <;> (try simp only [RC] at hc) <;> (try (exfalso; first | omega | contradiction)))
      | (simp only [Qb, Jo, reduceIte, J0])
      | ((with_reducible refine hK _ _ ?_); clear hK)
      | (clear hK; (with_reducible refine hK _ _ ?_); clear hK)
      | (clear hK; clear hK; (with_reducible refine hK _ _ ?_); clear hK)
      | (clear hK; clear hK; clear hK; (with_reducible refine hK _ _ ?_); clear hK)
      | (clear hK; clear hK; clear hK; clear hK; (with_reducible refine hK _ _ ?_); clear hK)
      | (clear hK; clear hK; clear hK; clear hK; clear hK; (with_reducible refine hK _ _ ?_); clear hK)
      | (simp only [Q9, RA, Jn, Jm, Jp, Q8, Q6, ev, ofValue, Ju, J0, J3, J2, J4, reduceCtorEq, reduceIte, Jv, Qm, Qk, Q0, aun, Qj, Jk, Ji, Jz, Jy, Jj, Qi, Jf, Q7, Js, J1, J5, Ja, J9, Jb, J6, J7, Jd, J8, RB, Jw, Je, RZ, J08, f, w])
      | (simp (disch := first | omega | (simp only [RO]; done) | assumption) only [RS, RG])
      | (simp (disch := (first | omega | (simp only [RO]; done) | assumption | (simp only [RM, Je]; done) | (simp only [RL, Je]; omega))) only [RD, reduceCtorEq, reduceIte, Je, J1, J3, J2, J6, J08, f, w])
    all_goals
      (
       (refine Qg (rs := [.tmp 2]) rfl ?_)
       (simp only [X5, Qf, RA, RZ, J0, J3, J1, reduceCtorEq, reduceIte, J08])
       (try simp only [RF]))
theorem fsigned_s (n : Int) (hn : 0 ≤ n ∧ n < 9223372036854775808) : Fn 156 [.int .u64 n, .bool false] (.tup [.int .i64 n, .bool true]) := by
  have w : IntKind.i64.wrap n = n := Qe (by omega) (by omega)
  have f : (n < 9223372036854775808) = True := eq_true hn.2
  refine Sure.body (by first | (simp only [RT]; done) | simp_all only [RT]) Tryz.func156 rfl (by kernel_rfl) (by kernel_rfl) ?_
  repeat' first
    | (with_reducible first | refine Jh (fun K hK => ?_) | refine Jx ?_ | refine Q4 ?_ | refine Qc ?_ | refine Qd ?_ | refine Jg ?_ | refine Jr ?_)
    | (with_reducible refine Jt (fun hc => ?_) (fun hc => ?_) <;> (try simp only [RC] at hc) <;> (try (exfalso; first | omega | contradiction)))
    | (with_reducible refine X4 (fun hc => ?_) (fun hc => ?_) <;> (try simp only [RC] at hc) <;> (try (exfalso; first | omega | contradiction)))
    | (simp only [Qb, Jo, reduceIte, J0])
    | ((with_reducible refine hK _ _ ?_); clear hK)
    | (clear hK; (with_reducible refine hK _ _ ?_); clear hK)
    | (clear hK; clear hK; (with_reducible refine hK _ _ ?_); clear hK)
    | (clear hK; clear hK; clear hK; (with_reducible refine hK _ _ ?_); clear hK)
    | (clear hK; clear hK; clear hK; clear hK; (with_reducible refine hK _ _ ?_); clear hK)
    | (clear hK; clear hK; clear hK; clear hK; clear hK; (with_reducible refine hK _ _ ?_); clear hK)
    | (simp only [Q9, RA, Jn, Jm, Jp, Q8, Q6, ev, ofValue, Ju, J0, J3, J2, J4, reduceCtorEq, reduceIte, Jv, Qm, Qk, Q0, aun, Qj, Jk, Ji, Jz, Jy, Jj, Qi, Jf, Q7, Js, J1, J5, Ja, J9, Jb, J6, J7, Jd, J8, RB, Jw, Je, RZ, tf156ZaB, w, f])
    | (simp (disch := first | omega | (simp only [RO]; done) | assumption) only [RS, RG])
    | (simp (disch := (first | omega | (simp only [RO]; done) | assumption | (simp only [RM, Je]; done) | (simp only [RL, Je]; omega))) only [RD, reduceCtorEq, reduceIte, Je, J1, J3, J2, J6, tf156ZaB, w, f])
  all_goals
    (
     (refine Qg (rs := [.tmp 4, .tmp 5]) rfl ?_)
     (simp only [X5, Qf, RA, RZ, J0, J3, J1, reduceCtorEq, reduceIte, tf156ZaB])
     (try simp only [RF]))
theorem famount_s (v : Int) (hv : -9223372036854775807 ≤ v ∧ v ≤ 9223372036854775807) : Fn 139 [.int .i64 v] (.tup [.int .i64 v.natAbs, .bool true]) := by
  refine Sure.body (by first | (simp only [RT]; done) | simp_all only [RT]) Tryz.func139 rfl (by kernel_rfl) (by kernel_rfl) ?_
  repeat' first
    | (with_reducible first | refine Jh (fun K hK => ?_) | refine Jx ?_ | refine Q4 ?_ | refine Qc ?_ | refine Qd ?_ | refine Jg ?_ | refine Jr ?_)
    | (with_reducible refine Q3 (fsize_s v (by omega)) (Jq _ _) ?_)
    | (with_reducible refine Q3 (fsigned_s v.natAbs (by omega)) (Jq _ _) ?_)
    | (with_reducible refine Jt (fun hc => ?_) (fun hc => ?_) <;> (try simp only [RC] at hc) <;> (try (exfalso; first | omega | contradiction)))
    | (with_reducible refine X4 (fun hc => ?_) (fun hc => ?_) <;> (try simp only [RC] at hc) <;> (try (exfalso; first | omega | contradiction)))
    | (simp only [Qb, Jo, reduceIte, J0])
    | ((with_reducible refine hK _ _ ?_); clear hK)
    | (clear hK; (with_reducible refine hK _ _ ?_); clear hK)
    | (clear hK; clear hK; (with_reducible refine hK _ _ ?_); clear hK)
    | (clear hK; clear hK; clear hK; (with_reducible refine hK _ _ ?_); clear hK)
    | (clear hK; clear hK; clear hK; clear hK; (with_reducible refine hK _ _ ?_); clear hK)
    | (clear hK; clear hK; clear hK; clear hK; clear hK; (with_reducible refine hK _ _ ?_); clear hK)
    | (simp only [Q9, RA, Jn, Jm, Jp, Q8, Q6, ev, ofValue, Ju, J0, J3, J2, J4, reduceCtorEq, reduceIte, Jv, Qm, Qk, Q0, aun, Qj, Jk, Ji, Jz, Jy, Jj, Qi, Jf, Q7, Js, J1, J5, Ja, J9, Jb, J6, J7, Jd, J8, RB, Jw, Je, RZ, tf139ZaB])
    | (simp (disch := first | omega | (simp only [RO]; done) | assumption) only [RS, RG])
    | (simp (disch := (first | omega | (simp only [RO]; done) | assumption | (simp only [RM, Je]; done) | (simp only [RL, Je]; omega))) only [RD, reduceCtorEq, reduceIte, Je, J1, J3, J2, J6, tf139ZaB])
  all_goals
    (
     (refine Qg (rs := [.tmp 2, .tmp 3]) rfl ?_)
     (simp only [X5, Qf, RA, RZ, J0, J3, J1, reduceCtorEq, reduceIte, tf139ZaB])
     (try simp only [RF]))
def R8 (ax ay px py r : Int) : Int × Int := if Y7 ax || Y7 ay || (Y7 px || Y7 py) || !okR r then (27, 0) else (0, (((rt ((ax - px) * (ax - px) + (ay - py) * (ay - py)).toNat : Nat) : Int) - r).natAbs)
theorem Wu {v : Int} (h : Y7 v = false) : -4194304 ≤ v ∧ v ≤ 4194304 := by
  unfold Y7 at h; have := of_decide_eq_false h; omega
def offA (m : Int × Int) : AV := .tup [.int .i64 m.2, errC m.1]
set_option maxHeartbeats 4000000 in
theorem Off_s (ax ay px py r : Int) : Fn 108 [PtA ax ay, PtA px py, .int .i64 r] (offA (R8 ax ay px py r)) := by
  have B := bad_s 27
  have F1 := Far_s ax ay
  have F2 := Far_s px py
  have RG := ranges_s [r] (by show 1 < 1000000; omega)
  have hb3 : [r].all okR = okR r := by simp only [List.all_cons, List.all_nil, Bool.and_true]
  rw [hb3] at RG
  by_cases hU : (Y7 ax || Y7 ay || (Y7 px || Y7 py) || !okR r) = true
  · unfold R8
    rw [if_pos hU]
    generalize (Y7 ax || Y7 ay) = b1 at *
    generalize (Y7 px || Y7 py) = b2 at *
    generalize okR r = b3 at *
    clear hb3
    cases b1 <;> cases b2 <;> cases b3
    all_goals first
      | (cases hU; done)
      | skip
    all_goals
      refine Sure.body (by first | (simp only [RT]; done) | simp_all only [RT]) Tryz.func108 rfl (by kernel_rfl) (by kernel_rfl) ?_
      repeat' first
        | (with_reducible first | refine Jh (fun K hK => ?_) | refine Jx ?_ | refine Q4 ?_ | refine Qc ?_ | refine Qd ?_ | refine Jg ?_ | refine Jr ?_)
        | (with_reducible refine Q3 (F1) (Jq _ _) ?_)
        | (with_reducible refine Q3 (F2) (Jq _ _) ?_)
        | ((with_reducible refine J0x (RG) (Jq _ _) ?_ ?_ ?_); (· rfl); (· (repeat' first | exact Wg | refine Vo ?_ ?_ | exact Frz.self (by simp only [RT]) | exact Ra (z := 1) rfl rfl (by first | exact Nat.le_refl _ | omega) rfl (by first | rfl | simp only [List.length_map, Nat.mul_one]) (by simp only [RT]))))
        | (with_reducible refine Q3 (B) (Jq _ _) ?_)
        | (with_reducible refine Jt (fun hc => ?_) (fun hc => ?_) <;> (try simp only [RC] at hc) <;> (try (exfalso; first | omega | contradiction)))
        | (with_reducible refine X4 (fun hc => ?_) (fun hc => ?_) <;> (try simp only [RC] at hc) <;> (try (exfalso; first | omega | contradiction)))
        | (simp only [Qb, Jo, reduceIte, J0])
        | ((with_reducible refine hK _ _ ?_); clear hK)
        | (clear hK; (with_reducible refine hK _ _ ?_); clear hK)
        | (clear hK; clear hK; (with_reducible refine hK _ _ ?_); clear hK)
        | (clear hK; clear hK; clear hK; (with_reducible refine hK _ _ ?_); clear hK)
        | (clear hK; clear hK; clear hK; clear hK; (with_reducible refine hK _ _ ?_); clear hK)
        | (clear hK; clear hK; clear hK; clear hK; clear hK; (with_reducible refine hK _ _ ?_); clear hK)
        | (simp only [Q9, RA, Jn, Jm, Jp, Q8, Q6, ev, ofValue, Ju, J0, J3, J2, J4, reduceCtorEq, reduceIte, Jv, Qm, Qk, Q0, aun, Qj, Jk, Ji, Jz, Jy, Jj, Qi, Jf, Q7, Js, J1, J5, Ja, J9, Jb, J6, J7, Jd, J8, RB, Jw, Je, RZ, J1c])
        | (simp (disch := first | omega | (simp only [RO]; done) | assumption) only [RS, RG, Xx, Xy, Z0, Xt, Xv, Xj, Xu])
        | (simp (disch := (first | omega | (simp only [RO]; done) | assumption | (simp only [RM, Je]; done) | (simp only [RL, Je]; omega))) only [RD, reduceCtorEq, reduceIte, Je, J1, J3, J2, J6, J1c])
    all_goals
      (
       (refine Qg (rs := [.tmp 6, .tmp 7]) rfl ?_)
       (simp only [X5, Qf, RA, RZ, J0, J3, J1, reduceCtorEq, reduceIte, J1c, offA, Vj])
       (try simp only [RF, offA, Vj]))
  unfold R8
  rw [if_neg hU]
  simp only [Bool.not_eq_true, Bool.or_eq_false_iff, Bool.not_eq_false'] at hU
  obtain ⟨⟨⟨h1, h2⟩, h3, h4⟩, h5⟩ := hU
  have a1 := Wu h1
  have a2 := Wu h2
  have a3 := Wu h3
  have a4 := Wu h4
  have a5 : 0 ≤ r ∧ r ≤ 2097152 := of_decide_eq_true h5
  rw [h1, h2, Bool.or_self] at F1
  rw [h3, h4, Bool.or_self] at F2
  rw [h5] at RG
  clear h1 h2 h3 h4 h5 hb3
  have s1 := Ns (x := ax - px) (b := 8388608) (by decide) (by omega)
  have s2 := Ns (x := ay - py) (b := 8388608) (by decide) (by omega)
  obtain ⟨n, hn⟩ : ∃ n, n = ((ax - px) * (ax - px) + (ay - py) * (ay - py)).toNat := ⟨_, rfl⟩
  have hnn : (n : Int) = (ax - px) * (ax - px) + (ay - py) * (ay - py) := by omega
  rw [← hn]
  have hrt := rt_lt (n := n) (b := 16777216) (by have : (2 : Nat) ^ 128 = 340282366920938463463374607431768211456 := by decide
                                                 omega) (by omega)
  have w1 : IntKind.i64.wrap (ax - px) = ax - px := Qe (by omega) (by omega)
  have w2 : IntKind.i64.wrap (ay - py) = ay - py := Qe (by omega) (by omega)
  have w3 : IntKind.i64.wrap ((rt n : Nat) - r) = (rt n : Nat) - r := Qe (by omega) (by omega)
  have HY := hypot_s (ax - px) (ay - py) n (by omega) (by omega) hnn
  have AM := famount_s ((rt n : Nat) - r) (by omega)
  refine Sure.body (by first | (simp only [RT]; done) | simp_all only [RT]) Tryz.func108 rfl (by kernel_rfl) (by kernel_rfl) ?_
  repeat' first
    | (with_reducible first | refine Jh (fun K hK => ?_) | refine Jx ?_ | refine Q4 ?_ | refine Qc ?_ | refine Qd ?_ | refine Jg ?_ | refine Jr ?_)
    | (with_reducible refine Q3 (F1) (Jq _ _) ?_)
    | (with_reducible refine Q3 (F2) (Jq _ _) ?_)
    | ((with_reducible refine J0x (RG) (Jq _ _) ?_ ?_ ?_); (· rfl); (· (repeat' first | exact Wg | refine Vo ?_ ?_ | exact Frz.self (by simp only [RT]) | exact Ra (z := 1) rfl rfl (by first | exact Nat.le_refl _ | omega) rfl (by first | rfl | simp only [List.length_map, Nat.mul_one]) (by simp only [RT]))))
    | (with_reducible refine Q3 (B) (Jq _ _) ?_)
    | (with_reducible refine Q3 (HY) (Jq _ _) ?_)
    | (with_reducible refine Q3 (AM) (Jq _ _) ?_)
    | (with_reducible refine Jt (fun hc => ?_) (fun hc => ?_) <;> (try simp only [RC] at hc) <;> (try (exfalso; first | omega | contradiction)))
    | (with_reducible refine X4 (fun hc => ?_) (fun hc => ?_) <;> (try simp only [RC] at hc) <;> (try (exfalso; first | omega | contradiction)))
    | (simp only [Qb, Jo, reduceIte, J0])
    | ((with_reducible refine hK _ _ ?_); clear hK)
    | (clear hK; (with_reducible refine hK _ _ ?_); clear hK)
    | (clear hK; clear hK; (with_reducible refine hK _ _ ?_); clear hK)
    | (clear hK; clear hK; clear hK; (with_reducible refine hK _ _ ?_); clear hK)
    | (clear hK; clear hK; clear hK; clear hK; (with_reducible refine hK _ _ ?_); clear hK)
    | (clear hK; clear hK; clear hK; clear hK; clear hK; (with_reducible refine hK _ _ ?_); clear hK)
    | (simp only [Q9, RA, Jn, Jm, Jp, Q8, Q6, ev, ofValue, Ju, J0, J3, J2, J4, reduceCtorEq, reduceIte, Jv, Qm, Qk, Q0, aun, Qj, Jk, Ji, Jz, Jy, Jj, Qi, Jf, Q7, Js, J1, J5, Ja, J9, Jb, J6, J7, Jd, J8, RB, Jw, Je, RZ, J1c, w1, w2, w3])
    | (simp (disch := first | omega | (simp only [RO]; done) | assumption) only [RS, RG, Xx, Xy, Z0, Xt, Xv, Xj, Xu])
    | (simp (disch := (first | omega | (simp only [RO]; done) | assumption | (simp only [RM, Je]; done) | (simp only [RL, Je]; omega))) only [RD, reduceCtorEq, reduceIte, Je, J1, J3, J2, J6, J1c, w1, w2, w3])
  all_goals
    (
     (refine Qg (rs := [.tmp 6, .tmp 7]) rfl ?_)
     (simp only [X5, Qf, RA, RZ, J0, J3, J1, reduceCtorEq, reduceIte, J1c, offA, Uc])
     (try simp only [RF, offA, Uc]))
def pickS (ax ay bx by_ px py r near : Int) : Int × Int × Int :=
  if (R8 ax ay px py r).1 ≠ 0 then (27, 0, 0) else if (R8 bx by_ px py r).1 ≠ 0 then (27, 0, 0) else if !okR near then (27, 0, 0)
  else if (R8 ax ay px py r).2 ≤ near ∧ (R8 bx by_ px py r).2 > near then (0, ax, ay)
  else if (R8 bx by_ px py r).2 ≤ near ∧ (R8 ax ay px py r).2 > near then (0, bx, by_) else (34, 0, 0)
theorem J18 (ax ay px py r : Int) : R8 ax ay px py r = (27, 0) ∨ ∃ n, R8 ax ay px py r = (0, n) := by
  unfold R8; split
  · exact .inl rfl
  · exact .inr ⟨_, rfl⟩
set_option maxHeartbeats 4000000 in
theorem Pick_s (ax ay bx by_ px py r near : Int) : Fn 50 [PtA ax ay, PtA bx by_, PtA px py, .int .i64 r, .int .i64 near] (.tup [PtA (pickS ax ay bx by_ px py r near).2.1 (pickS ax ay bx by_ px py r near).2.2, errC (pickS ax ay bx by_ px py r near).1]) := by
  have B := bad_s
  have O1 := Off_s ax ay px py r
  have O2 := Off_s bx by_ px py r
  have RG := ranges_s [near] (by show 1 < 1000000; omega)
  have hb3 : [near].all okR = okR near := by simp only [List.all_cons, List.all_nil, Bool.and_true]
  rw [hb3] at RG
  unfold pickS
  generalize okR near = b3 at *
  rcases J18 ax ay px py r with h1 | ⟨x, h1⟩
  all_goals rw [h1] at O1 ⊢
  · rw [if_pos (by decide)]
    refine Sure.body (by first | (simp only [RT]; done) | simp_all only [RT]) Tryz.func50 rfl (by kernel_rfl) (by kernel_rfl) ?_
    repeat' first
      | (with_reducible first | refine Jh (fun K hK => ?_) | refine Jx ?_ | refine Q4 ?_ | refine Qc ?_ | refine Qd ?_ | refine Jg ?_ | refine Jr ?_)
      | (with_reducible refine Q3 (O1) (Jq _ _) ?_)
      | (with_reducible refine Jt (fun hc => ?_) (fun hc => ?_) <;> (try simp only [RC] at hc) <;> (try (exfalso; first | omega | contradiction)))
      | (with_reducible refine X4 (fun hc => ?_) (fun hc => ?_) <;> (try simp only [RC] at hc) <;> (try (exfalso; first | omega | contradiction)))
      | (simp only [Qb, Jo, reduceIte, J0])
      | ((with_reducible refine hK _ _ ?_); clear hK)
      | (clear hK; (with_reducible refine hK _ _ ?_); clear hK)
      | (clear hK; clear hK; (with_reducible refine hK _ _ ?_); clear hK)
      | (clear hK; clear hK; clear hK; (with_reducible refine hK _ _ ?_); clear hK)
      | (clear hK; clear hK; clear hK; clear hK; (with_reducible refine hK _ _ ?_); clear hK)
      | (clear hK; clear hK; clear hK; clear hK; clear hK; (with_reducible refine hK _ _ ?_); clear hK)
      | (simp only [Q9, RA, Jn, Jm, Jp, Q8, Q6, ev, ofValue, Ju, J0, J3, J2, J4, reduceCtorEq, reduceIte, Jv, Qm, Qk, Q0, aun, Qj, Jk, Ji, Jz, Jy, Jj, Qi, Jf, Q7, Js, J1, J5, Ja, J9, Jb, J6, J7, Jd, J8, RB, Jw, Je, RZ, Kx, offA, Vj, Yd Ys])
      | (simp (disch := first | omega | (simp only [RO]; done) | assumption) only [RS, RG, Xx, Xy, Z0, Xt, Xv, Xj, Xu])
      | (simp (disch := (first | omega | (simp only [RO]; done) | assumption | (simp only [RM, Je]; done) | (simp only [RL, Je]; omega))) only [RD, reduceCtorEq, reduceIte, Je, J1, J3, J2, J6, Kx, offA, Vj, Yd Ys])
    all_goals
      (
       (refine Qg (rs := [.cell 10 23, .tmp 11]) rfl ?_)
       (simp only [X5, Qf, RA, RZ, J0, J3, J1, reduceCtorEq, reduceIte, Kx, Vj])
       (try simp only [RF, Vj]))
  rw [if_neg (fun h => h rfl)]
  rcases J18 bx by_ px py r with h2 | ⟨y, h2⟩
  all_goals rw [h2] at O2 ⊢
  · rw [if_pos (by decide)]
    refine Sure.body (by first | (simp only [RT]; done) | simp_all only [RT]) Tryz.func50 rfl (by kernel_rfl) (by kernel_rfl) ?_
    repeat' first
      | (with_reducible first | refine Jh (fun K hK => ?_) | refine Jx ?_ | refine Q4 ?_ | refine Qc ?_ | refine Qd ?_ | refine Jg ?_ | refine Jr ?_)
      | (with_reducible refine Q3 (O1) (Jq _ _) ?_)
      | (with_reducible refine Q3 (O2) (Jq _ _) ?_)
      | (with_reducible refine Jt (fun hc => ?_) (fun hc => ?_) <;> (try simp only [RC] at hc) <;> (try (exfalso; first | omega | contradiction)))
      | (with_reducible refine X4 (fun hc => ?_) (fun hc => ?_) <;> (try simp only [RC] at hc) <;> (try (exfalso; first | omega | contradiction)))
      | (simp only [Qb, Jo, reduceIte, J0])
      | ((with_reducible refine hK _ _ ?_); clear hK)
      | (clear hK; (with_reducible refine hK _ _ ?_); clear hK)
      | (clear hK; clear hK; (with_reducible refine hK _ _ ?_); clear hK)
      | (clear hK; clear hK; clear hK; (with_reducible refine hK _ _ ?_); clear hK)
      | (clear hK; clear hK; clear hK; clear hK; (with_reducible refine hK _ _ ?_); clear hK)
      | (clear hK; clear hK; clear hK; clear hK; clear hK; (with_reducible refine hK _ _ ?_); clear hK)
      | (simp only [Q9, RA, Jn, Jm, Jp, Q8, Q6, ev, ofValue, Ju, J0, J3, J2, J4, reduceCtorEq, reduceIte, Jv, Qm, Qk, Q0, aun, Qj, Jk, Ji, Jz, Jy, Jj, Qi, Jf, Q7, Js, J1, J5, Ja, J9, Jb, J6, J7, Jd, J8, RB, Jw, Je, RZ, Kx, offA, Vj, Uc, Yd Ys, Vd Ys])
      | (simp (disch := first | omega | (simp only [RO]; done) | assumption) only [RS, RG, Xx, Xy, Z0, Xt, Xv, Xj, Xu])
      | (simp (disch := (first | omega | (simp only [RO]; done) | assumption | (simp only [RM, Je]; done) | (simp only [RL, Je]; omega))) only [RD, reduceCtorEq, reduceIte, Je, J1, J3, J2, J6, Kx, offA, Vj, Uc, Yd Ys, Vd Ys])
    all_goals
      (
       (refine Qg (rs := [.cell 10 23, .tmp 11]) rfl ?_)
       (simp only [X5, Qf, RA, RZ, J0, J3, J1, reduceCtorEq, reduceIte, Kx, Vj])
       (try simp only [RF, Vj]))
  rw [if_neg (fun h => h rfl)]
  cases b3
  · skip
    refine Sure.body (by first | (simp only [RT]; done) | simp_all only [RT]) Tryz.func50 rfl (by kernel_rfl) (by kernel_rfl) ?_
    repeat' first
      | (with_reducible first | refine Jh (fun K hK => ?_) | refine Jx ?_ | refine Q4 ?_ | refine Qc ?_ | refine Qd ?_ | refine Jg ?_ | refine Jr ?_)
      | (with_reducible refine Q3 (O1) (Jq _ _) ?_)
      | (with_reducible refine Q3 (O2) (Jq _ _) ?_)
      | ((with_reducible refine J0x (RG) (Jq _ _) ?_ ?_ ?_); (· rfl); (· (repeat' first | exact Wg | refine Vo ?_ ?_ | exact Frz.self (by simp only [RT]) | exact Ra (z := 1) rfl rfl (by first | exact Nat.le_refl _ | omega) rfl (by first | rfl | simp only [List.length_map, Nat.mul_one]) (by simp only [RT]))))
      | (with_reducible refine Q3 (B _) (Jq _ _) ?_)
      | (with_reducible refine Jt (fun hc => ?_) (fun hc => ?_) <;> (try simp only [RC] at hc) <;> (try (exfalso; first | omega | contradiction)))
      | (with_reducible refine X4 (fun hc => ?_) (fun hc => ?_) <;> (try simp only [RC] at hc) <;> (try (exfalso; first | omega | contradiction)))
      | (simp only [Qb, Jo, reduceIte, J0])
      | ((with_reducible refine hK _ _ ?_); clear hK)
      | (clear hK; (with_reducible refine hK _ _ ?_); clear hK)
      | (clear hK; clear hK; (with_reducible refine hK _ _ ?_); clear hK)
      | (clear hK; clear hK; clear hK; (with_reducible refine hK _ _ ?_); clear hK)
      | (clear hK; clear hK; clear hK; clear hK; (with_reducible refine hK _ _ ?_); clear hK)
      | (clear hK; clear hK; clear hK; clear hK; clear hK; (with_reducible refine hK _ _ ?_); clear hK)
      | (simp only [Q9, RA, Jn, Jm, Jp, Q8, Q6, ev, ofValue, Ju, J0, J3, J2, J4, reduceCtorEq, reduceIte, Jv, Qm, Qk, Q0, aun, Qj, Jk, Ji, Jz, Jy, Jj, Qi, Jf, Q7, Js, J1, J5, Ja, J9, Jb, J6, J7, Jd, J8, RB, Jw, Je, RZ, Kx, offA, Uc, Vd Ys])
      | (simp (disch := first | omega | (simp only [RO]; done) | assumption) only [RS, RG, Xx, Xy, Z0, Xt, Xv, Xj, Xu])
      | (simp (disch := (first | omega | (simp only [RO]; done) | assumption | (simp only [RM, Je]; done) | (simp only [RL, Je]; omega))) only [RD, reduceCtorEq, reduceIte, Je, J1, J3, J2, J6, Kx, offA, Uc, Vd Ys])
    all_goals
      (
       (refine Qg (rs := [.cell 10 23, .tmp 11]) rfl ?_)
       (simp only [X5, Qf, RA, RZ, J0, J3, J1, reduceCtorEq, reduceIte, Kx, Vj, Bool.not_false])
       (try simp only [RF, Vj, Bool.not_false]))
  by_cases hx : x ≤ near <;> by_cases hy : y ≤ near
  all_goals
    have e1 : (near < x) = ¬ (x ≤ near) := propext (by omega)
    have e2 : (near < y) = ¬ (y ≤ near) := propext (by omega)
    have fx : (x ≤ near) = decide (x ≤ near) := by simp
  all_goals
    refine Sure.body (by first | (simp only [RT]; done) | simp_all only [RT]) Tryz.func50 rfl (by kernel_rfl) (by kernel_rfl) ?_
    repeat' first
      | (with_reducible first | refine Jh (fun K hK => ?_) | refine Jx ?_ | refine Q4 ?_ | refine Qc ?_ | refine Qd ?_ | refine Jg ?_ | refine Jr ?_)
      | (with_reducible refine Q3 (O1) (Jq _ _) ?_)
      | (with_reducible refine Q3 (O2) (Jq _ _) ?_)
      | ((with_reducible refine J0x (RG) (Jq _ _) ?_ ?_ ?_); (· rfl); (· (repeat' first | exact Wg | refine Vo ?_ ?_ | exact Frz.self (by simp only [RT]) | exact Ra (z := 1) rfl rfl (by first | exact Nat.le_refl _ | omega) rfl (by first | rfl | simp only [List.length_map, Nat.mul_one]) (by simp only [RT]))))
      | (with_reducible refine Q3 (B _) (Jq _ _) ?_)
      | (with_reducible refine Jt (fun hc => ?_) (fun hc => ?_) <;> (try simp only [RC] at hc) <;> (try (exfalso; first | omega | contradiction)))
      | (with_reducible refine X4 (fun hc => ?_) (fun hc => ?_) <;> (try simp only [RC] at hc) <;> (try (exfalso; first | omega | contradiction)))
      | (simp only [Qb, Jo, reduceIte, J0])
      | ((with_reducible refine hK _ _ ?_); clear hK)
      | (clear hK; (with_reducible refine hK _ _ ?_); clear hK)
      | (clear hK; clear hK; (with_reducible refine hK _ _ ?_); clear hK)
      | (clear hK; clear hK; clear hK; (with_reducible refine hK _ _ ?_); clear hK)
      | (clear hK; clear hK; clear hK; clear hK; (with_reducible refine hK _ _ ?_); clear hK)
      | (clear hK; clear hK; clear hK; clear hK; clear hK; (with_reducible refine hK _ _ ?_); clear hK)
      | (simp only [Q9, RA, Jn, Jm, Jp, Q8, Q6, ev, ofValue, Ju, J0, J3, J2, J4, reduceCtorEq, reduceIte, Jv, Qm, Qk, Q0, aun, Qj, Jk, Ji, Jz, Jy, Jj, Qi, Jf, Q7, Js, J1, J5, Ja, J9, Jb, J6, J7, Jd, J8, RB, Jw, Je, RZ, Kx, offA, Uc, Vd Ys, e1, e2, hx, hy])
      | (simp (disch := first | omega | (simp only [RO]; done) | assumption) only [RS, RG, Xx, Xy, Z0, Xt, Xv, Xj, Xu])
      | (simp (disch := (first | omega | (simp only [RO]; done) | assumption | (simp only [RM, Je]; done) | (simp only [RL, Je]; omega))) only [RD, reduceCtorEq, reduceIte, Je, J1, J3, J2, J6, Kx, offA, Uc, Vd Ys, e1, e2, hx, hy])
  all_goals
    (
     (refine Qg (rs := [.cell 10 23, .tmp 11]) rfl ?_)
     (simp only [X5, Qf, RA, RZ, J0, J3, J1, reduceCtorEq, reduceIte, Kx, N6, Uc, Bool.not_true, hx, hy, e1, e2])
     (try simp only [RF, N6, Uc, Bool.not_true, hx, hy, e1, e2]))
end Go.Proofs.YtigddjlhncnnoaaGreatDoor
namespace Go.Proofs.YtigddjlhncnnoaaGreatDoor
open Go.AL Go.PW
set_option maxRecDepth 8000
abbrev lbA (x : Int) : AV := .fz (lim x.natAbs).length ((lim x.natAbs).map (AV.int .u64))
theorem Bs_.frz {H : Hp} {s : AV} {x : Int} (h : Bs_ H s x) : Frz H (lbA x) s := by
  obtain ⟨xs, u, c, hv⟩ := h.ex
  show Frz H (.fz (lim x.natAbs).length ((lim x.natAbs).map (AV.int .u64))) s
  rw [show lim x.natAbs = xs from (lim_unique xs _ c.lim hv c.top).symm]
  exact u.rd.frz
end Go.Proofs.YtigddjlhncnnoaaGreatDoor
namespace Go.Proofs.YtigddjlhncnnoaaGreatDoor
open Go.AL Go.PW Go.PD Go.PR
theorem W4 : type_of% (Jc @Xw (Jc @tyb9 (Jc @U1 (Jc @U0 (@J02))))) := Jc @Xw (Jc @tyb9 (Jc @U1 (Jc @U0 (@J02))))
theorem tf12ZcA : type_of% (Jc @Zg (Jc @Xw (Jc @Uz (Jc @Uy (Jc @U1 (@U0)))))) := Jc @Zg (Jc @Xw (Jc @Uz (Jc @Uy (Jc @U1 (@U0)))))
set_option maxRecDepth 8000
theorem eq_pt (a b c d0 : Int) : Xm Tryz.prog Op.maxDepth 23 (PtA a b) (PtA c d0) = some (a == c && b == d0) := by
  have hs : Tryz.prog.stoodInHeld 23 = false := by kernel_rfl
  have key : ∀ d, Xm Tryz.prog (d + 1 + 1) 23 (PtA a b) (PtA c d0) = some (a == c && b == d0) := fun d => by
    simp [Xm, und23, hs, apart, agg2, Yr, und2]
  exact key (Op.maxDepth - 2)
theorem errC_ne {n : Int} (h : n ≠ 0) : errC n = ErrA J0v n := if_neg h
theorem says_s (m n : Int) (hm : -9223372036854775808 ≤ m ∧ m ≤ 9223372036854775807) : Fn 16 [errC m, .int .i64 n] (.bool (decide (m = n))) := by
  have w : IntKind.i64.wrap m = m := Qe hm.1 hm.2
  by_cases hn : n = 0
  · subst hn
    by_cases h0 : m = 0
    · subst h0
      rw [Uc]
      refine Sure.body (by first | (simp only [RT]; done) | simp_all only [RT]) Tryz.func16 rfl (by kernel_rfl) (by kernel_rfl) ?_
      repeat' first
        | (with_reducible first | refine Jh (fun K hK => ?_) | refine Jx ?_ | refine Q4 ?_ | refine Qc ?_ | refine Qd ?_ | refine Jg ?_ | refine Jr ?_)
        | (with_reducible refine Jt (fun hc => ?_) (fun hc => ?_) <;> (try simp only [RC] at hc) <;> (try (exfalso; first | omega | contradiction)))
        | (with_reducible refine X4 (fun hc => ?_) (fun hc => ?_) <;> (try simp only [RC] at hc) <;> (try (exfalso; first | omega | contradiction)))
        | (simp only [Qb, Jo, reduceIte, J0])
        | ((with_reducible refine hK _ _ ?_); clear hK)
        | (clear hK; (with_reducible refine hK _ _ ?_); clear hK)
        | (clear hK; clear hK; (with_reducible refine hK _ _ ?_); clear hK)
        | (clear hK; clear hK; clear hK; (with_reducible refine hK _ _ ?_); clear hK)
        | (clear hK; clear hK; clear hK; clear hK; (with_reducible refine hK _ _ ?_); clear hK)
        | (clear hK; clear hK; clear hK; clear hK; clear hK; (with_reducible refine hK _ _ ?_); clear hK)
        | (simp only [Q9, RA, Jn, Jm, Jp, Q8, Q6, ev, ofValue, Ju, J0, J3, J2, J4, reduceCtorEq, reduceIte, Jv, Qm, Qk, Q0, aun, Qj, Jk, Ji, Jz, Jy, Jj, Qi, Jf, Q7, Js, J1, J5, Ja, J9, Jb, J6, J7, Jd, J8, RB, Jw, Je, RZ, W4, Vd Ys])
        | (simp (disch := first | omega | (simp only [RO]; done) | assumption) only [RS, RG, Nk, Nn, Ng])
        | (simp (disch := (first | omega | (simp only [RO]; done) | assumption | (simp only [RM, Je]; done) | (simp only [RL, Je]; omega))) only [RD, reduceCtorEq, reduceIte, Je, J1, J3, J2, J6, W4, Vd Ys])
      all_goals
        (
         (refine Qg (rs := [.tmp 4]) rfl ?_)
         (simp only [X5, Qf, RA, RZ, J0, J3, J1, reduceCtorEq, reduceIte, W4])
         (try simp only [RF]))
    · rw [errC_ne h0]
      refine Sure.body (by first | (simp only [RT]; done) | simp_all only [RT]) Tryz.func16 rfl (by kernel_rfl) (by kernel_rfl) ?_
      repeat' first
        | (with_reducible first | refine Jh (fun K hK => ?_) | refine Jx ?_ | refine Q4 ?_ | refine Qc ?_ | refine Qd ?_ | refine Jg ?_ | refine Jr ?_)
        | (with_reducible refine Jt (fun hc => ?_) (fun hc => ?_) <;> (try simp only [RC] at hc) <;> (try (exfalso; first | omega | contradiction)))
        | (with_reducible refine X4 (fun hc => ?_) (fun hc => ?_) <;> (try simp only [RC] at hc) <;> (try (exfalso; first | omega | contradiction)))
        | (simp only [Qb, Jo, reduceIte, J0])
        | ((with_reducible refine hK _ _ ?_); clear hK)
        | (clear hK; (with_reducible refine hK _ _ ?_); clear hK)
        | (clear hK; clear hK; (with_reducible refine hK _ _ ?_); clear hK)
        | (clear hK; clear hK; clear hK; (with_reducible refine hK _ _ ?_); clear hK)
        | (clear hK; clear hK; clear hK; clear hK; (with_reducible refine hK _ _ ?_); clear hK)
        | (clear hK; clear hK; clear hK; clear hK; clear hK; (with_reducible refine hK _ _ ?_); clear hK)
        | (simp only [Q9, RA, Jn, Jm, Jp, Q8, Q6, ev, ofValue, Ju, J0, J3, J2, J4, reduceCtorEq, reduceIte, Jv, Qm, Qk, Q0, aun, Qj, Jk, Ji, Jz, Jy, Jj, Qi, Jf, Q7, Js, J1, J5, Ja, J9, Jb, J6, J7, Jd, J8, RB, Jw, Je, RZ, W4, Yd Ys])
        | (simp (disch := first | omega | (simp only [RO]; done) | assumption) only [RS, RG, Nk, Nn, Ng])
        | (simp (disch := (first | omega | (simp only [RO]; done) | assumption | (simp only [RM, Je]; done) | (simp only [RL, Je]; omega))) only [RD, reduceCtorEq, reduceIte, Je, J1, J3, J2, J6, W4, Yd Ys])
      all_goals
        (
         (refine Qg (rs := [.tmp 4]) rfl ?_)
         (simp only [X5, Qf, RA, RZ, J0, J3, J1, reduceCtorEq, reduceIte, W4])
         (try simp only [RF]))
      all_goals simp [h0]
  have f0 : (n = 0) = False := eq_false hn
  by_cases h0 : m = 0
  · subst h0
    have f1 : ((0 : Int) = n) = False := eq_false (fun h => hn h.symm)
    rw [Uc]
    refine Sure.body (by first | (simp only [RT]; done) | simp_all only [RT]) Tryz.func16 rfl (by kernel_rfl) (by kernel_rfl) ?_
    repeat' first
      | (with_reducible first | refine Jh (fun K hK => ?_) | refine Jx ?_ | refine Q4 ?_ | refine Qc ?_ | refine Qd ?_ | refine Jg ?_ | refine Jr ?_)
      | (with_reducible refine Q3 (ops_nil) (Jq _ _) ?_)
      | (with_reducible refine Q3 (code_nil) (Jq _ _) ?_)
      | (with_reducible refine Jt (fun hc => ?_) (fun hc => ?_) <;> (try simp only [RC] at hc) <;> (try (exfalso; first | omega | contradiction)))
      | (with_reducible refine X4 (fun hc => ?_) (fun hc => ?_) <;> (try simp only [RC] at hc) <;> (try (exfalso; first | omega | contradiction)))
      | (simp only [Qb, Jo, reduceIte, J0])
      | ((with_reducible refine hK _ _ ?_); clear hK)
      | (clear hK; (with_reducible refine hK _ _ ?_); clear hK)
      | (clear hK; clear hK; (with_reducible refine hK _ _ ?_); clear hK)
      | (clear hK; clear hK; clear hK; (with_reducible refine hK _ _ ?_); clear hK)
      | (clear hK; clear hK; clear hK; clear hK; (with_reducible refine hK _ _ ?_); clear hK)
      | (clear hK; clear hK; clear hK; clear hK; clear hK; (with_reducible refine hK _ _ ?_); clear hK)
      | (simp only [Q9, RA, Jn, Jm, Jp, Q8, Q6, ev, ofValue, Ju, J0, J3, J2, J4, reduceCtorEq, reduceIte, Jv, Qm, Qk, Q0, aun, Qj, Jk, Ji, Jz, Jy, Jj, Qi, Jf, Q7, Js, J1, J5, Ja, J9, Jb, J6, J7, Jd, J8, RB, Jw, Je, RZ, W4, f0, f1])
      | (simp (disch := first | omega | (simp only [RO]; done) | assumption) only [RS, RG, Nk, Nn, Ng])
      | (simp (disch := (first | omega | (simp only [RO]; done) | assumption | (simp only [RM, Je]; done) | (simp only [RL, Je]; omega))) only [RD, reduceCtorEq, reduceIte, Je, J1, J3, J2, J6, W4, f0, f1])
    all_goals
      (
       (refine Qg (rs := [.tmp 4]) rfl ?_)
       (simp only [X5, Qf, RA, RZ, J0, J3, J1, reduceCtorEq, reduceIte, W4])
       (try simp only [RF]))
    all_goals simp [f1]
  · rw [errC_ne h0]
    by_cases hmn : m = n
    · subst hmn
      refine Sure.body (by first | (simp only [RT]; done) | simp_all only [RT]) Tryz.func16 rfl (by kernel_rfl) (by kernel_rfl) ?_
      repeat' first
        | (with_reducible first | refine Jh (fun K hK => ?_) | refine Jx ?_ | refine Q4 ?_ | refine Qc ?_ | refine Qd ?_ | refine Jg ?_ | refine Jr ?_)
        | (with_reducible refine Q3 (ops_s J0v m) (Jq _ _) ?_)
        | (with_reducible refine Q3 (code_s J0v m) (Jq _ _) ?_)
        | (with_reducible refine Jt (fun hc => ?_) (fun hc => ?_) <;> (try simp only [RC] at hc) <;> (try (exfalso; first | omega | contradiction)))
        | (with_reducible refine X4 (fun hc => ?_) (fun hc => ?_) <;> (try simp only [RC] at hc) <;> (try (exfalso; first | omega | contradiction)))
        | (simp only [Qb, Jo, reduceIte, J0])
        | ((with_reducible refine hK _ _ ?_); clear hK)
        | (clear hK; (with_reducible refine hK _ _ ?_); clear hK)
        | (clear hK; clear hK; (with_reducible refine hK _ _ ?_); clear hK)
        | (clear hK; clear hK; clear hK; (with_reducible refine hK _ _ ?_); clear hK)
        | (clear hK; clear hK; clear hK; clear hK; (with_reducible refine hK _ _ ?_); clear hK)
        | (clear hK; clear hK; clear hK; clear hK; clear hK; (with_reducible refine hK _ _ ?_); clear hK)
        | (simp only [Q9, RA, Jn, Jm, Jp, Q8, Q6, ev, ofValue, Ju, J0, J3, J2, J4, reduceCtorEq, reduceIte, Jv, Qm, Qk, Q0, aun, Qj, Jk, Ji, Jz, Jy, Jj, Qi, Jf, Q7, Js, J1, J5, Ja, J9, Jb, J6, J7, Jd, J8, RB, Jw, Je, RZ, W4, f0, w])
        | (simp (disch := first | omega | (simp only [RO]; done) | assumption) only [RS, RG, Nk, Nn, Ng])
        | (simp (disch := (first | omega | (simp only [RO]; done) | assumption | (simp only [RM, Je]; done) | (simp only [RL, Je]; omega))) only [RD, reduceCtorEq, reduceIte, Je, J1, J3, J2, J6, W4, f0, w])
      all_goals
        (
         (refine Qg (rs := [.tmp 4]) rfl ?_)
         (simp only [X5, Qf, RA, RZ, J0, J3, J1, reduceCtorEq, reduceIte, W4])
         (try simp only [RF]))
    · have f1 : (m = n) = False := eq_false hmn
      refine Sure.body (by first | (simp only [RT]; done) | simp_all only [RT]) Tryz.func16 rfl (by kernel_rfl) (by kernel_rfl) ?_
      repeat' first
        | (with_reducible first | refine Jh (fun K hK => ?_) | refine Jx ?_ | refine Q4 ?_ | refine Qc ?_ | refine Qd ?_ | refine Jg ?_ | refine Jr ?_)
        | (with_reducible refine Q3 (ops_s J0v m) (Jq _ _) ?_)
        | (with_reducible refine Q3 (code_s J0v m) (Jq _ _) ?_)
        | (with_reducible refine Jt (fun hc => ?_) (fun hc => ?_) <;> (try simp only [RC] at hc) <;> (try (exfalso; first | omega | contradiction)))
        | (with_reducible refine X4 (fun hc => ?_) (fun hc => ?_) <;> (try simp only [RC] at hc) <;> (try (exfalso; first | omega | contradiction)))
        | (simp only [Qb, Jo, reduceIte, J0])
        | ((with_reducible refine hK _ _ ?_); clear hK)
        | (clear hK; (with_reducible refine hK _ _ ?_); clear hK)
        | (clear hK; clear hK; (with_reducible refine hK _ _ ?_); clear hK)
        | (clear hK; clear hK; clear hK; (with_reducible refine hK _ _ ?_); clear hK)
        | (clear hK; clear hK; clear hK; clear hK; (with_reducible refine hK _ _ ?_); clear hK)
        | (clear hK; clear hK; clear hK; clear hK; clear hK; (with_reducible refine hK _ _ ?_); clear hK)
        | (simp only [Q9, RA, Jn, Jm, Jp, Q8, Q6, ev, ofValue, Ju, J0, J3, J2, J4, reduceCtorEq, reduceIte, Jv, Qm, Qk, Q0, aun, Qj, Jk, Ji, Jz, Jy, Jj, Qi, Jf, Q7, Js, J1, J5, Ja, J9, Jb, J6, J7, Jd, J8, RB, Jw, Je, RZ, W4, f0, w, f1])
        | (simp (disch := first | omega | (simp only [RO]; done) | assumption) only [RS, RG, Nk, Nn, Ng])
        | (simp (disch := (first | omega | (simp only [RO]; done) | assumption | (simp only [RM, Je]; done) | (simp only [RL, Je]; omega))) only [RD, reduceCtorEq, reduceIte, Je, J1, J3, J2, J6, W4, f0, w, f1])
      all_goals
        (
         (refine Qg (rs := [.tmp 4]) rfl ?_)
         (simp only [X5, Qf, RA, RZ, J0, J3, J1, reduceCtorEq, reduceIte, W4])
         (try simp only [RF]))
theorem known_s : Fn 12 [] (.bool true) := by
  have M1 := Meet_s 0 0 5000 6000 0 5000 1000
  have M2 := Meet_s 0 0 5000 6 0 5000 1000
  have P1 := Pick_s 3000 4000 3000 (-4000) 0 4000 3000 10
  have S1 := says_s 33 33 (by decide)
  rw [show J0q 0 0 5000 6000 0 5000 1000 = (0, (3000, 4000), (3000, -4000)) by decide +kernel] at M1
  rw [show J0q 0 0 5000 6 0 5000 1000 = (33, (0, 0), (0, 0)) by decide +kernel] at M2
  rw [show pickS 3000 4000 3000 (-4000) 0 4000 3000 10 = (0, 3000, 4000) by decide +kernel] at P1
  rw [Gj] at S1
  refine Sure.body (by first | (simp only [RT]; done) | simp_all only [RT]) Tryz.func12 rfl (by kernel_rfl) (by kernel_rfl) ?_
  repeat' first
    | (with_reducible first | refine Jh (fun K hK => ?_) | refine Jx ?_ | refine Q4 ?_ | refine Qc ?_ | refine Qd ?_ | refine Jg ?_ | refine Jr ?_)
    | (with_reducible refine Q3 (M1) (Jq _ _) ?_)
    | (with_reducible refine Q3 (M2) (Jq _ _) ?_)
    | (with_reducible refine Q3 (P1) (Jq _ _) ?_)
    | (with_reducible refine Q3 (S1) (Jq _ _) ?_)
    | (with_reducible refine Jt (fun hc => ?_) (fun hc => ?_) <;> (try simp only [RC] at hc) <;> (try (exfalso; first | omega | contradiction)))
    | (with_reducible refine X4 (fun hc => ?_) (fun hc => ?_) <;> (try simp only [RC] at hc) <;> (try (exfalso; first | omega | contradiction)))
    | (simp only [Qb, Jo, reduceIte, J0])
    | ((with_reducible refine hK _ _ ?_); clear hK)
    | (clear hK; (with_reducible refine hK _ _ ?_); clear hK)
    | (clear hK; clear hK; (with_reducible refine hK _ _ ?_); clear hK)
    | (clear hK; clear hK; clear hK; (with_reducible refine hK _ _ ?_); clear hK)
    | (clear hK; clear hK; clear hK; clear hK; (with_reducible refine hK _ _ ?_); clear hK)
    | (clear hK; clear hK; clear hK; clear hK; clear hK; (with_reducible refine hK _ _ ?_); clear hK)
    | (simp only [Q9, RA, Jn, Jm, Jp, Q8, Q6, ev, ofValue, Ju, J0, J3, J2, J4, reduceCtorEq, reduceIte, Jv, Qm, Qk, Q0, aun, Qj, Jk, Ji, Jz, Jy, Jj, Qi, Jf, Q7, Js, J1, J5, Ja, J9, Jb, J6, J7, Jd, J8, RB, Jw, Je, RZ, tf12ZcA, meetA, Uc, Gj, Vd Ys, eq_pt])
    | (simp (disch := first | omega | (simp only [RO]; done) | assumption) only [RS, RG, Xt, Xv, Xj, Xu])
    | (simp (disch := (first | omega | (simp only [RO]; done) | assumption | (simp only [RM, Je]; done) | (simp only [RL, Je]; omega))) only [RD, reduceCtorEq, reduceIte, Je, J1, J3, J2, J6, tf12ZcA, meetA, Uc, Gj, Vd Ys, eq_pt])
  all_goals
    (
     (refine Qg (rs := [.tmp 0]) rfl ?_)
     (simp only [X5, Qf, RA, RZ, J0, J3, J1, reduceCtorEq, reduceIte, tf12ZcA])
     (try simp only [RF]))
end Go.Proofs.YtigddjlhncnnoaaGreatDoor

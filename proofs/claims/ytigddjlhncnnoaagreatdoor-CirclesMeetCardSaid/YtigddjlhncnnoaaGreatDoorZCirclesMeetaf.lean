/- Part 6 of the proof of the law CirclesMeet: lemmas on the model's code, on this program's functions, on numbers. No condition. -/
import Derived.Test.YtigddjlhncnnoaaGreatDoorZCirclesMeetae
set_option linter.unusedVariables false
set_option linter.unusedSimpArgs false
open Nat renaming reduceEqDiff → J0, reduceLeDiff → J1, reduceMul → J2, reduceAdd → J3, reduceSub → J4, reduceLT → J5
open Int renaming reduceToNat → J6, reducePow → J7, reduceNeg → J8, reduceLT → J9, reduceLE → Ja, reduceEq → Jb
open And renaming intro → Jc
open Go.IntKind renaming bits → Jd
open Go.PW renaming dig_length → Je
namespace Go.Proofs.YtigddjlhncnnoaaGreatDoor
open Go.AL Go.PW Go.PR
theorem Vu : type_of% (Jc @Xw (Jc @Zh (Jc @Z1 (Jc @Zq (Jc @Zp (@Xc)))))) := Jc @Xw (Jc @Zh (Jc @Z1 (Jc @Zq (Jc @Zp (@Xc)))))
abbrev Wz : Plan := (.one 0 (.one 1 (.one 3 (.one 4 (.ext 2 (.one 5 (.one 6 .nil)))))))
set_option maxRecDepth 8000
set_option maxHeartbeats 8000000 in
theorem Rooted_calls (n : Nat) (t : AV) (H : Hp) (T : Bs_ H t (n : Int)) : ACalls Tryz.prog 52 [BV (n : Int) t] H fun r H' => r = .int .u64 (rt n : Nat) ∧ H = H' := by
  refine ACalls.drop (R := fun r => r = .int .u64 (rt n : Nat)) ?_
  obtain ⟨xs, hu, hcan, hval⟩ := T.ex
  rw [Int.natAbs_natCast] at hval
  have ht1 := T.one
  have ht2 := T.cells
  obtain ⟨H0, hH0⟩ : ∃ H0, H0 = H ++ [⟨[.bool (decide ((n : Int) < 0)), t], .own, 67⟩] := ⟨_, rfl⟩
  have y0 : Ext H H0 := by rw [hH0]; exact Ext.push _ _
  have q0 : X3 H0 H.length = some ⟨[.bool (decide ((n : Int) < 0)), t], .own, 67⟩ := by rw [hH0]; exact X7 rfl
  refine Qo Tryz.func52 rfl (by kernel_rfl) (by kernel_rfl) ?_
  repeat' first
    | (with_reducible first | refine Jh (fun K hK => ?_) | refine Jx ?_ | refine Q4 ?_ | refine Qc ?_ | refine Qd ?_ | refine Jg ?_ | refine Q1 (id := 6) [2] Wz (by kernel_rfl) (by kernel_rfl) ?_ | refine Jr ?_ | refine X8 ?_ | refine Xr ?_)
    | (with_reducible refine Jt (fun hc => ?_) (fun hc => ?_) <;> (try simp only [RC] at hc) <;> (try (exfalso; first | omega | contradiction)))
    | (with_reducible refine Jc ?_ ?_)
    | (with_reducible refine X4 (fun hc => ?_) (fun hc => ?_) <;> (try simp only [RC] at hc) <;> (try (exfalso; first | omega | contradiction)))
    | (simp only [Qb, Jo, reduceIte, J0])
    | ((with_reducible refine hK _ _ ?_); clear hK)
    | (clear hK; (with_reducible refine hK _ _ ?_); clear hK)
    | (clear hK; clear hK; (with_reducible refine hK _ _ ?_); clear hK)
    | (clear hK; clear hK; clear hK; (with_reducible refine hK _ _ ?_); clear hK)
    | (clear hK; clear hK; clear hK; clear hK; (with_reducible refine hK _ _ ?_); clear hK)
    | (clear hK; clear hK; clear hK; clear hK; clear hK; (with_reducible refine hK _ _ ?_); clear hK)
    | (simp only [Q9, RA, Jn, Jm, Jp, Q8, Q6, ev, ofValue, Ju, J0, J3, J2, J4, reduceCtorEq, reduceIte, Jv, Qm, Qk, Q0, aun, Qj, Jk, Ji, Jz, Jy, Jj, Qi, Jf, Q7, Q2, Js, J1, J5, Ja, J9, Jb, J6, J7, Jd, J8, RB, Jw, Je, Vu])
    | (simp (disch := first | omega | (simp only [RO]; done) | assumption) only [RS, Xa, Xb, X9, Qz, Qr, X0])
    | (simp (disch := (first | omega | (simp only [RO]; done) | assumption | (simp only [RM, Je]; done) | (simp only [RL, Je]; omega))) only [RD, reduceCtorEq, reduceIte, Je, J1, J3, J2, J6, Vu])
  refine Xi (fun m fr' H1 => ∃ (s r c : Nat), m = s ∧ s ≤ 64 ∧ fr' 1 = .ptr H.length 0 ∧ fr' 3 = .int .u64 (r : Int) ∧ fr' 4 = .int .i64 ((s : Int) - 1) ∧ r = c * 2 ^ s ∧ (r : Int) + 2 ^ s ≤ Bs ∧ rtGo n s r = rt n ∧ Ext H0 H1) (m := 64)
    ⟨64, 0, 0, rfl, by omega, rfl, rfl, rfl, by simp, by decide, rfl, by rw [hH0]; exact Ext.refl _⟩ ?_
  rintro s fr' H1 ⟨s0, r, c, hm0, hs, k1, k3, k4, hc, hb, hg, x1⟩
  subst hm0
  have q1 := Qy q0 x1
  cases s with
  | zero =>
    have f0 : (((0 : Nat) : Int) - 1 ≥ 0) = False := eq_false (by omega)
    repeat' first
      | (with_reducible first | refine Jh (fun K hK => ?_) | refine Jx ?_ | refine Q4 ?_ | refine Qc ?_ | refine Qd ?_ | refine Jg ?_ | refine Q1 (id := 6) [2] Wz (by kernel_rfl) (by kernel_rfl) ?_ | refine Jr ?_ | refine X8 ?_ | refine Xr ?_)
      | (with_reducible refine Jt (fun hc => ?_) (fun hc => ?_) <;> (try simp only [RC] at hc) <;> (try (exfalso; first | omega | contradiction)))
      | (with_reducible refine Jc ?_ ?_)
      | (with_reducible refine X4 (fun hc => ?_) (fun hc => ?_) <;> (try simp only [RC] at hc) <;> (try (exfalso; first | omega | contradiction)))
      | (simp only [Qb, Jo, reduceIte, J0])
      | ((with_reducible refine hK _ _ ?_); clear hK)
      | (clear hK; (with_reducible refine hK _ _ ?_); clear hK)
      | (clear hK; clear hK; (with_reducible refine hK _ _ ?_); clear hK)
      | (clear hK; clear hK; clear hK; (with_reducible refine hK _ _ ?_); clear hK)
      | (clear hK; clear hK; clear hK; clear hK; (with_reducible refine hK _ _ ?_); clear hK)
      | (clear hK; clear hK; clear hK; clear hK; clear hK; (with_reducible refine hK _ _ ?_); clear hK)
      | (simp only [Q9, RA, Jn, Jm, Jp, Q8, Q6, ev, ofValue, Ju, J0, J3, J2, J4, reduceCtorEq, reduceIte, Jv, Qm, Qk, Q0, aun, Qj, Jk, Ji, Jz, Jy, Jj, Qi, Jf, Q7, Q2, Js, J1, J5, Ja, J9, Jb, J6, J7, Jd, J8, RB, Jw, Je, Vu, k1, k3, k4, f0])
      | (simp (disch := first | omega | (simp only [RO]; done) | assumption) only [RS, Xa, Xb, X9, Qz, Qr, X0])
      | (simp (disch := (first | omega | (simp only [RO]; done) | assumption | (simp only [RM, Je]; done) | (simp only [RL, Je]; omega))) only [RD, reduceCtorEq, reduceIte, Je, J1, J3, J2, J6, Vu, k1, k3, k4, f0])
    (
     (refine Qg (rs := [.tmp 2]) rfl ?_)
     (simp only [X5, Qf, Fr.put_some, Fr.put_none, Qp, Qq, Qt, J0, reduceIte])
     (try simp (disch := (first | omega | (simp only [RO]; done) | assumption | (simp only [RM, Je]; done) | (simp only [RL, Je]; omega))) only [RD, reduceCtorEq, reduceIte, Je, J1, J3, J2, J6, Vu]))
    exact ⟨y0.trans x1, trivial, by rw [← hg]; rfl⟩
  | succ s =>
    have f0 : (((s + 1 : Nat) : Int) - 1 ≥ 0) = True := eq_true (by omega)
    have e0 : ((s + 1 : Nat) : Int) - 1 = (s : Int) := by omega
    have hm : min s 64 = s := by omega
    have hp : (2 : Int) ^ (s + 1) = 2 * 2 ^ s := by rw [Int.pow_succ]; omega
    have h2p : (0 : Int) < 2 ^ s := Int.pow_pos (by decide)
    have w2 : IntKind.u64.wrap (1 * 2 ^ s) = 2 ^ s := by rw [Int.one_mul]; exact Y0 (by omega) (two_lt (by omega))
    obtain ⟨q, hq⟩ : ∃ q : Nat, q = r + 2 ^ s := ⟨_, rfl⟩
    have hqi : (q : Int) = (r : Int) + 2 ^ s := by rw [hq]; push_cast; rfl
    have hor : bits .or .u64 (r : Int) (2 ^ s) = (q : Int) := by
      have e : (r : Int) = (c : Int) * 2 ^ (s + 1) := by rw [hc]; push_cast; rfl
      rw [hqi, e]
      exact or_add (s + 1) (by omega) (by rw [← e]; omega) (by omega) (by omega) (two_lt (by omega))
    have hqb : 0 ≤ (q : Int) ∧ (q : Int) < Bs := by omega
    have w3 : IntKind.i64.wrap ((s : Int) - 1) = (s : Int) - 1 := Qe (by omega) (by omega)
    have hc1 : r = 2 * c * 2 ^ s := by rw [hc, Nat.pow_succ]; rw [Nat.mul_comm 2 c, Nat.mul_assoc, Nat.mul_comm 2]
    have hc2 : q = (2 * c + 1) * 2 ^ s := by rw [hq, Nat.add_mul, ← hc1, Nat.one_mul]
    have take : q * q ≤ n → rtGo n s q = rt n := fun h => by rw [← hg, hq]; simp only [rtGo]; rw [if_pos (by rw [← hq]; exact h)]
    have skp : ¬ q * q ≤ n → rtGo n s r = rt n := fun h => by rw [← hg]; simp only [rtGo]; rw [if_neg (by rw [← hq]; exact h)]
    clear hg
    obtain ⟨H2, hH2⟩ : ∃ H2, H2 = H1 ++ [⟨[.int .u64 (q : Int)], .own, 71⟩] := ⟨_, rfl⟩
    have x12 : Ext H1 H2 := by rw [hH2]; exact Ext.push _ _
    have g2 : X3 H2 H1.length = some (Ub [(q : Int)]) := by rw [hH2]; exact X7 rfl
    have hL : Limbs [(q : Int)] := fun y hy => by rw [List.mem_singleton.1 hy]; exact hqb
    have hI : Uv H2 (.sl H1.length 0 1 1) [(q : Int)] := (Uv.front (k := 1) (c := 1) g2 (by simp) (Nat.le_refl _))
    have q2 := Qy q1 x12
    have vq : val [(q : Int)] = (q : Int) := by simp [val]
    refine Jh (fun K hQ => ?_)
    repeat' first
      | (with_reducible first | refine Jh (fun K hK => ?_) | refine Jx ?_ | refine Q4 ?_ | refine Qc ?_ | refine Qd ?_ | refine Jg ?_ | refine Q1 (id := 6) [2] Wz (by kernel_rfl) (by kernel_rfl) ?_ | refine Jr ?_ | refine X8 ?_ | refine Xr ?_)
      | (with_reducible refine Jt (fun hc => ?_) (fun hc => ?_) <;> (try simp only [RC] at hc) <;> (try (exfalso; first | omega | contradiction)))
      | (with_reducible refine Jc ?_ ?_)
      | (with_reducible refine X4 (fun hc => ?_) (fun hc => ?_) <;> (try simp only [RC] at hc) <;> (try (exfalso; first | omega | contradiction)))
      | (simp only [Qb, Jo, reduceIte, J0])
      | ((with_reducible refine hK _ _ ?_); clear hK)
      | (clear hK; (with_reducible refine hK _ _ ?_); clear hK)
      | (clear hK; clear hK; (with_reducible refine hK _ _ ?_); clear hK)
      | (clear hK; clear hK; clear hK; (with_reducible refine hK _ _ ?_); clear hK)
      | (clear hK; clear hK; clear hK; clear hK; (with_reducible refine hK _ _ ?_); clear hK)
      | (clear hK; clear hK; clear hK; clear hK; clear hK; (with_reducible refine hK _ _ ?_); clear hK)
      | (simp only [Q9, RA, Jn, Jm, Jp, Q8, Q6, ev, ofValue, Ju, J0, J3, J2, J4, reduceCtorEq, reduceIte, Jv, Qm, Qk, Q0, aun, Qj, Jk, Ji, Jz, Jy, Jj, Qi, Jf, Q7, Q2, Js, J1, J5, Ja, J9, Jb, J6, J7, Jd, J8, RB, Jw, Je, Vu, k1, k3, k4, f0])
      | (simp (disch := first | omega | (simp only [RO]; done) | assumption) only [RS, Xa, Xb, X9, Qz, Qr, X0])
      | (simp (disch := (first | omega | (simp only [RO]; done) | assumption | (simp only [RM, Je]; done) | (simp only [RL, Je]; omega))) only [RD, reduceCtorEq, reduceIte, Je, J1, J3, J2, J6, Vu, k1, k3, k4, f0])
    refine hQ _ _ ?_
    clear hQ
    refine Jh (fun K2 hK2 => ?_)
    refine Jx ?_
    refine Jh (fun K hQ => ?_)
    repeat' first
      | (with_reducible first | refine Jh (fun K hK => ?_) | refine Jx ?_ | refine Q4 ?_ | refine Qc ?_ | refine Qd ?_ | refine Jg ?_ | refine Q1 (id := 6) [2] Wz (by kernel_rfl) (by kernel_rfl) ?_ | refine Jr ?_ | refine X8 ?_ | refine Xr ?_)
      | (with_reducible refine Jt (fun hc => ?_) (fun hc => ?_) <;> (try simp only [RC] at hc) <;> (try (exfalso; first | omega | contradiction)))
      | (with_reducible refine Jc ?_ ?_)
      | (with_reducible refine X4 (fun hc => ?_) (fun hc => ?_) <;> (try simp only [RC] at hc) <;> (try (exfalso; first | omega | contradiction)))
      | (simp only [Qb, Jo, reduceIte, J0])
      | ((with_reducible refine hK _ _ ?_); clear hK)
      | (clear hK; (with_reducible refine hK _ _ ?_); clear hK)
      | (clear hK; clear hK; (with_reducible refine hK _ _ ?_); clear hK)
      | (clear hK; clear hK; clear hK; (with_reducible refine hK _ _ ?_); clear hK)
      | (clear hK; clear hK; clear hK; clear hK; (with_reducible refine hK _ _ ?_); clear hK)
      | (clear hK; clear hK; clear hK; clear hK; clear hK; (with_reducible refine hK _ _ ?_); clear hK)
      | (simp only [Q9, RA, Jn, Jm, Jp, Q8, Q6, ev, ofValue, Ju, J0, J3, J2, J4, reduceCtorEq, reduceIte, Jv, Qm, Qk, Q0, aun, Qj, Jk, Ji, Jz, Jy, Jj, Qi, Jf, Q7, Q2, Js, J1, J5, Ja, J9, Jb, J6, J7, Jd, J8, RB, Jw, Je, Vu, k1, k3, k4, e0, hm, w2, hor])
      | (simp (disch := first | omega | (simp only [RO]; done) | assumption) only [RS, Xa, Xb, X9, Qz, Qr, X0])
      | (simp (disch := (first | omega | (simp only [RO]; done) | assumption | (simp only [RM, Je]; done) | (simp only [RL, Je]; omega))) only [RD, reduceCtorEq, reduceIte, Je, J1, J3, J2, J6, Vu, k1, k3, k4, e0, hm, w2, hor])
    refine hQ _ _ ?_
    clear hQ
    rw [← hH2]
    repeat' first
      | (with_reducible first | refine Jh (fun K hK => ?_) | refine Jx ?_ | refine Q4 ?_ | refine Qc ?_ | refine Qd ?_ | refine Jg ?_ | refine Q1 (id := 6) [2] Wz (by kernel_rfl) (by kernel_rfl) ?_ | refine Jr ?_ | refine X8 ?_ | refine Xr ?_)
      | (with_reducible refine Jt (fun hc => ?_) (fun hc => ?_) <;> (try simp only [RC] at hc) <;> (try (exfalso; first | omega | contradiction)))
      | (with_reducible refine Jc ?_ ?_)
      | (with_reducible refine X4 (fun hc => ?_) (fun hc => ?_) <;> (try simp only [RC] at hc) <;> (try (exfalso; first | omega | contradiction)))
      | (simp only [Qb, Jo, reduceIte, J0])
      | ((with_reducible refine hK _ _ ?_); clear hK)
      | (clear hK; (with_reducible refine hK _ _ ?_); clear hK)
      | (clear hK; clear hK; (with_reducible refine hK _ _ ?_); clear hK)
      | (clear hK; clear hK; clear hK; (with_reducible refine hK _ _ ?_); clear hK)
      | (clear hK; clear hK; clear hK; clear hK; (with_reducible refine hK _ _ ?_); clear hK)
      | (clear hK; clear hK; clear hK; clear hK; clear hK; (with_reducible refine hK _ _ ?_); clear hK)
      | (simp only [Q9, RA, Jn, Jm, Jp, Q8, Q6, ev, ofValue, Ju, J0, J3, J2, J4, reduceCtorEq, reduceIte, Jv, Qm, Qk, Q0, aun, Qj, Jk, Ji, Jz, Jy, Jj, Qi, Jf, Q7, Q2, Js, J1, J5, Ja, J9, Jb, J6, J7, Jd, J8, RB, Jw, Je, Vu, k1, k3, k4, q2])
      | (simp (disch := first | omega | (simp only [RO]; done) | assumption) only [RS, Xa, Xb, X9, Qz, Qr, X0])
      | (simp (disch := (first | omega | (simp only [RO]; done) | assumption | (simp only [RM, Je]; done) | (simp only [RL, Je]; omega))) only [RD, reduceCtorEq, reduceIte, Je, J1, J3, J2, J6, Vu, k1, k3, k4, q2])
    all_goals
      refine Zc (Rtimes_calls _ _ [(q : Int)] [(q : Int)] _ hI.rd hI.rd hL hL (by show 1 < 40000; omega) (by show 1 < 40000; omega)) ?_
      rintro z H4 ⟨zs, U, cz, vz, x4⟩
      refine ⟨x4, ?_⟩
      have ht4 := hu.rd.ext (((y0.trans x1).trans x12).trans x4)
      have h14 := hI.rd.ext x4
      have q4 := Qy q2 x4
      rw [vq] at vz
      by_cases hle : q * q ≤ n
      · have fs : ((val zs - val xs).sign ≤ 0) = True := eq_true (by
          have : (q : Int) * q ≤ n := by exact_mod_cast hle
          rw [vz, hval]
          rcases Int.lt_or_eq_of_le this with h | h
          · rw [Int.sign_eq_neg_one_of_neg (by omega)]; decide
          · rw [h, Int.sub_self]; decide)
        have g24 : X3 H4 H1.length = some ⟨[.int .u64 (q : Int)], .own, 71⟩ := Qy g2 x4
        repeat' first
          | (with_reducible first | refine Jh (fun K hK => ?_) | refine Jx ?_ | refine Q4 ?_ | refine Qc ?_ | refine Qd ?_ | refine Jg ?_ | refine Q1 (id := 6) [2] Wz (by kernel_rfl) (by kernel_rfl) ?_ | refine Jr ?_ | refine X8 ?_ | refine Xr ?_)
          | (with_reducible refine Kd (cmp_calls _ _ _ _ _ U.rd ht4 cz hcan) ?_)
          | ((with_reducible refine Q5 (cmp_calls _ _ _ _ _ U.rd ht4 cz hcan) ?_); rintro _ _ ⟨rfl, rfl⟩)
          | (with_reducible refine Jt (fun hc => ?_) (fun hc => ?_) <;> (try simp only [RC] at hc) <;> (try (exfalso; first | omega | contradiction)))
          | (with_reducible refine Jc ?_ ?_)
          | (with_reducible refine X4 (fun hc => ?_) (fun hc => ?_) <;> (try simp only [RC] at hc) <;> (try (exfalso; first | omega | contradiction)))
          | (simp only [Qb, Jo, reduceIte, J0])
          | ((with_reducible refine hK _ _ ?_); clear hK)
          | (clear hK; (with_reducible refine hK _ _ ?_); clear hK)
          | (clear hK; clear hK; (with_reducible refine hK _ _ ?_); clear hK)
          | (clear hK; clear hK; clear hK; (with_reducible refine hK _ _ ?_); clear hK)
          | (clear hK; clear hK; clear hK; clear hK; (with_reducible refine hK _ _ ?_); clear hK)
          | (clear hK; clear hK; clear hK; clear hK; clear hK; (with_reducible refine hK _ _ ?_); clear hK)
          | (simp only [Q9, RA, Jn, Jm, Jp, Q8, Q6, ev, ofValue, Ju, J0, J3, J2, J4, reduceCtorEq, reduceIte, Jv, Qm, Qk, Q0, aun, Qj, Jk, Ji, Jz, Jy, Jj, Qi, Jf, Q7, Q2, Js, J1, J5, Ja, J9, Jb, J6, J7, Jd, J8, RB, Jw, Je, Vu, k1, k3, k4, q4, fs, g24])
          | (simp (disch := first | omega | (simp only [RO]; done) | assumption) only [RS, h14.rd.at1 Z8 Z4, Xa, Xb, X9, Qz, Qr, X0])
          | (simp (disch := (first | omega | (simp only [RO]; done) | assumption | (simp only [RM, Je]; done) | (simp only [RL, Je]; omega))) only [RD, reduceCtorEq, reduceIte, Je, J1, J3, J2, J6, Vu, k1, k3, k4, q4, fs, g24])
        all_goals refine hK2 _ _ ?_
        all_goals
          repeat' first
            | (with_reducible first | refine Jh (fun K hK => ?_) | refine Jx ?_ | refine Q4 ?_ | refine Qc ?_ | refine Qd ?_ | refine Jg ?_ | refine Q1 (id := 6) [2] Wz (by kernel_rfl) (by kernel_rfl) ?_ | refine Jr ?_ | refine X8 ?_ | refine Xr ?_)
            | (with_reducible refine Jt (fun hc => ?_) (fun hc => ?_) <;> (try simp only [RC] at hc) <;> (try (exfalso; first | omega | contradiction)))
            | (with_reducible refine Jc ?_ ?_)
            | (with_reducible refine X4 (fun hc => ?_) (fun hc => ?_) <;> (try simp only [RC] at hc) <;> (try (exfalso; first | omega | contradiction)))
            | (simp only [Qb, Jo, reduceIte, J0])
            | ((with_reducible refine hK _ _ ?_); clear hK)
            | (clear hK; (with_reducible refine hK _ _ ?_); clear hK)
            | (clear hK; clear hK; (with_reducible refine hK _ _ ?_); clear hK)
            | (clear hK; clear hK; clear hK; (with_reducible refine hK _ _ ?_); clear hK)
            | (clear hK; clear hK; clear hK; clear hK; (with_reducible refine hK _ _ ?_); clear hK)
            | (clear hK; clear hK; clear hK; clear hK; clear hK; (with_reducible refine hK _ _ ?_); clear hK)
            | (simp only [Q9, RA, Jn, Jm, Jp, Q8, Q6, ev, ofValue, Ju, J0, J3, J2, J4, reduceCtorEq, reduceIte, Jv, Qm, Qk, Q0, aun, Qj, Jk, Ji, Jz, Jy, Jj, Qi, Jf, Q7, Q2, Js, J1, J5, Ja, J9, Jb, J6, J7, Jd, J8, RB, Jw, Je, Vu, k1, k3, k4, e0, w3])
            | (simp (disch := first | omega | (simp only [RO]; done) | assumption) only [RS, Xa, Xb, X9, Qz, Qr, X0])
            | (simp (disch := (first | omega | (simp only [RO]; done) | assumption | (simp only [RM, Je]; done) | (simp only [RL, Je]; omega))) only [RD, reduceCtorEq, reduceIte, Je, J1, J3, J2, J6, Vu, k1, k3, k4, e0, w3])
        all_goals exact ⟨s, by omega, s, q, 2 * c + 1, rfl, by omega, rfl, rfl, hc2, by rw [hqi]; omega, take hle, (x1.trans x12).trans x4⟩
      · have fs : ((val zs - val xs).sign ≤ 0) = False := eq_false (by
          have : ¬ (q : Int) * q ≤ n := by exact_mod_cast hle
          rw [vz, hval, Int.sign_eq_one_of_pos (by omega)]; decide)
        repeat' first
          | (with_reducible first | refine Jh (fun K hK => ?_) | refine Jx ?_ | refine Q4 ?_ | refine Qc ?_ | refine Qd ?_ | refine Jg ?_ | refine Q1 (id := 6) [2] Wz (by kernel_rfl) (by kernel_rfl) ?_ | refine Jr ?_ | refine X8 ?_ | refine Xr ?_)
          | (with_reducible refine Kd (cmp_calls _ _ _ _ _ U.rd ht4 cz hcan) ?_)
          | ((with_reducible refine Q5 (cmp_calls _ _ _ _ _ U.rd ht4 cz hcan) ?_); rintro _ _ ⟨rfl, rfl⟩)
          | (with_reducible refine Jt (fun hc => ?_) (fun hc => ?_) <;> (try simp only [RC] at hc) <;> (try (exfalso; first | omega | contradiction)))
          | (with_reducible refine Jc ?_ ?_)
          | (with_reducible refine X4 (fun hc => ?_) (fun hc => ?_) <;> (try simp only [RC] at hc) <;> (try (exfalso; first | omega | contradiction)))
          | (simp only [Qb, Jo, reduceIte, J0])
          | ((with_reducible refine hK _ _ ?_); clear hK)
          | (clear hK; (with_reducible refine hK _ _ ?_); clear hK)
          | (clear hK; clear hK; (with_reducible refine hK _ _ ?_); clear hK)
          | (clear hK; clear hK; clear hK; (with_reducible refine hK _ _ ?_); clear hK)
          | (clear hK; clear hK; clear hK; clear hK; (with_reducible refine hK _ _ ?_); clear hK)
          | (clear hK; clear hK; clear hK; clear hK; clear hK; (with_reducible refine hK _ _ ?_); clear hK)
          | (simp only [Q9, RA, Jn, Jm, Jp, Q8, Q6, ev, ofValue, Ju, J0, J3, J2, J4, reduceCtorEq, reduceIte, Jv, Qm, Qk, Q0, aun, Qj, Jk, Ji, Jz, Jy, Jj, Qi, Jf, Q7, Q2, Js, J1, J5, Ja, J9, Jb, J6, J7, Jd, J8, RB, Jw, Je, Vu, k1, k3, k4, q4, fs])
          | (simp (disch := first | omega | (simp only [RO]; done) | assumption) only [RS, Xa, Xb, X9, Qz, Qr, X0])
          | (simp (disch := (first | omega | (simp only [RO]; done) | assumption | (simp only [RM, Je]; done) | (simp only [RL, Je]; omega))) only [RD, reduceCtorEq, reduceIte, Je, J1, J3, J2, J6, Vu, k1, k3, k4, q4, fs])
        all_goals refine hK2 _ _ ?_
        all_goals
          repeat' first
            | (with_reducible first | refine Jh (fun K hK => ?_) | refine Jx ?_ | refine Q4 ?_ | refine Qc ?_ | refine Qd ?_ | refine Jg ?_ | refine Q1 (id := 6) [2] Wz (by kernel_rfl) (by kernel_rfl) ?_ | refine Jr ?_ | refine X8 ?_ | refine Xr ?_)
            | (with_reducible refine Jt (fun hc => ?_) (fun hc => ?_) <;> (try simp only [RC] at hc) <;> (try (exfalso; first | omega | contradiction)))
            | (with_reducible refine Jc ?_ ?_)
            | (with_reducible refine X4 (fun hc => ?_) (fun hc => ?_) <;> (try simp only [RC] at hc) <;> (try (exfalso; first | omega | contradiction)))
            | (simp only [Qb, Jo, reduceIte, J0])
            | ((with_reducible refine hK _ _ ?_); clear hK)
            | (clear hK; (with_reducible refine hK _ _ ?_); clear hK)
            | (clear hK; clear hK; (with_reducible refine hK _ _ ?_); clear hK)
            | (clear hK; clear hK; clear hK; (with_reducible refine hK _ _ ?_); clear hK)
            | (clear hK; clear hK; clear hK; clear hK; (with_reducible refine hK _ _ ?_); clear hK)
            | (clear hK; clear hK; clear hK; clear hK; clear hK; (with_reducible refine hK _ _ ?_); clear hK)
            | (simp only [Q9, RA, Jn, Jm, Jp, Q8, Q6, ev, ofValue, Ju, J0, J3, J2, J4, reduceCtorEq, reduceIte, Jv, Qm, Qk, Q0, aun, Qj, Jk, Ji, Jz, Jy, Jj, Qi, Jf, Q7, Q2, Js, J1, J5, Ja, J9, Jb, J6, J7, Jd, J8, RB, Jw, Je, Vu, k1, k3, k4, e0, w3])
            | (simp (disch := first | omega | (simp only [RO]; done) | assumption) only [RS, Xa, Xb, X9, Qz, Qr, X0])
            | (simp (disch := (first | omega | (simp only [RO]; done) | assumption | (simp only [RM, Je]; done) | (simp only [RL, Je]; omega))) only [RD, reduceCtorEq, reduceIte, Je, J1, J3, J2, J6, Vu, k1, k3, k4, e0, w3])
        all_goals exact ⟨s, by omega, s, r, 2 * c, rfl, by omega, rfl, rfl, hc1, by omega, skp hle, (x1.trans x12).trans x4⟩
end Go.Proofs.YtigddjlhncnnoaaGreatDoor
namespace Go.Proofs.YtigddjlhncnnoaaGreatDoor
open Go.AL Go.PW Go.PD Go.PR
set_option maxRecDepth 8000
abbrev Pb (x y : Int) : Blk := ⟨[.int .i64 x, .int .i64 y], .own, 23⟩
end Go.Proofs.YtigddjlhncnnoaaGreatDoor
namespace Go.Proofs.YtigddjlhncnnoaaGreatDoor
open Go.AL Go.PW
set_option maxRecDepth 8000
abbrev Bz (x : Int) : AV := BV x (lbA x)
theorem Wi {x : Int} (h : Sm x) (H : Hp) : Bs_ H (lbA x) x := by
  obtain ⟨h1, h2, h3⟩ := lim_spec x.natAbs
  refine ⟨⟨_, ⟨Ints.fz H .u64 _, .inl (.inr ⟨_, _, rfl⟩)⟩, ⟨h1, h3, ?_⟩, h2⟩⟩
  refine Nat.lt_of_not_le fun hl => ?_
  rcases h3 with h3 | h3
  · rw [h3] at hl; simp at hl
  · have hv := val_top h1 h3
    rw [h2] at hv
    have hp : Bs ^ 20 ≤ Bs ^ ((lim x.natAbs).length - 1) := Ks (by omega)
    unfold Sm at h
    omega
theorem Bz_frz {H : Hp} {s : AV} {x : Int} (h : Bs_ H s x) : Frz H (Bz x) (BV x s) := by
  simp only [RF]; exact h.frz
theorem Of_s (v : Int) (hv : -9223372036854775808 ≤ v ∧ v ≤ 9223372036854775807) : Fn 32 [.int .i64 v] (Bz v) :=
  Sure.of (by simp only [RT]) (Of_calls v _ hv) (by rintro _ _ ⟨u, rfl, U, _⟩; exact Bz_frz U)
theorem Mul_s (x y : Int) (bx : Sm x) (by_ : Sm y) : Fn 31 [Bz x, Bz y] (Bz (x * y)) :=
  Sure.of (by simp only [RT]) (Rmul_calls x y _ _ _ (Wi bx _) (Wi by_ _) bx by_) (by rintro _ _ ⟨u, rfl, U, _⟩; exact Bz_frz U)
theorem Add_s (x y : Int) (bx : Sm x) (by_ : Sm y) : Fn 30 [Bz x, Bz y] (Bz (x + y)) :=
  Sure.of (by simp only [RT]) (Radd_calls x y _ _ _ (Wi bx _) (Wi by_ _) bx by_) (by rintro _ _ ⟨u, rfl, U, _⟩; exact Bz_frz U)
theorem Sub_s (x y : Int) (bx : Sm x) (by_ : Sm y) : Fn 89 [Bz x, Bz y] (Bz (x - y)) :=
  Sure.of (by simp only [RT]) (Rsub_calls x y _ _ _ (Wi bx _) (Wi by_ _) bx by_) (by rintro _ _ ⟨u, rfl, U, _⟩; exact Bz_frz U)
theorem Sign_s (x : Int) (bx : Sm x) : Fn 35 [Bz x] (.int .i64 x.sign) :=
  Sure.st (by simp only [RT]) trivial fun H => Sign_calls x _ H (Wi bx _)
theorem Fits_s (x m : Int) (bx : Sm x) (hm : -9223372036854775808 ≤ m ∧ m ≤ 9223372036854775807) : Fn 51 [Bz x, .int .i64 m] (.bool (decide ((x.natAbs : Int) ≤ m))) :=
  Sure.st (by simp only [RT]) trivial fun H => Fits_calls x m _ H (Wi bx _) bx hm
theorem Int64_s (x : Int) (hx : -9223372036854775808 ≤ x ∧ x ≤ 9223372036854775807) : Fn 83 [Bz x] (.tup [.int .i64 x, .bool true]) :=
  Sure.st (by simp only [RT]) ⟨trivial, trivial, trivial⟩ fun H => Int64_calls x _ H (Wi (Sm.int hx) _) hx
theorem Div_s (x y : Int) (bx : Sm x) (by_ : Sm y) (hy : y ≠ 0) : Fn 123 [Bz x, Bz y] (.tup [Bz (x.tdiv y), Bz (x.tmod y)]) :=
  Sure.of (by simp only [RT]) (Rdiv_calls x y _ _ _ (Wi bx _) (Wi by_ _) bx hy) (by rintro _ _ ⟨u, v, rfl, U, V, _⟩; simp only [RF]; exact ⟨U.frz, V.frz⟩)
end Go.Proofs.YtigddjlhncnnoaaGreatDoor
namespace Go.Proofs.YtigddjlhncnnoaaGreatDoor
open Go.AL Go.PW Go.PR
theorem tf64ZrB : type_of% (Jc @Zg (Jc @Zh (Jc @Z1 (Jc @Zq (Jc @Zp (@Xc)))))) := Jc @Zg (Jc @Zh (Jc @Z1 (Jc @Zq (Jc @Zp (@Xc)))))
theorem tf63ZrB : type_of% (Jc @Zh (Jc @Z1 (Jc @Zq (Jc @Zp (@Xc))))) := Jc @Zh (Jc @Z1 (Jc @Zq (Jc @Zp (@Xc))))
theorem tf66ZrB : type_of% (Jc @Zh (Jc @Z1 (Jc @Zq (Jc @Zp (@Xc))))) := Jc @Zh (Jc @Z1 (Jc @Zq (Jc @Zp (@Xc))))
theorem tf62ZrB : type_of% (Jc @Zh (Jc @Z1 (Jc @Zq (Jc @Zp (@Xc))))) := Jc @Zh (Jc @Z1 (Jc @Zq (Jc @Zp (@Xc))))
theorem tf82ZrB : type_of% (Jc @Zg (Jc @Xw (Jc @Zh (Jc @Z1 (Jc @Zq (Jc @Zp (@Xc))))))) := Jc @Zg (Jc @Xw (Jc @Zh (Jc @Z1 (Jc @Zq (Jc @Zp (@Xc))))))
abbrev pn82_2ZrB : Plan := (.one 0 (.one 1 (.pur 2 (.one 3 (.pur 4 (.one 5 (.one 6 (.pur 7 (.pur 8 (.one 9 (.one 10 (.one 11 (.alt 12 (.one 13 (.one 14 (.one 15 .nil))) (.one 13 (.one 12 (.one 14 (.one 15 .nil)))))))))))))))))
abbrev pn82_4ZrB : Plan := (.pur 1 (.one 0 (.one 2 (.one 3 .nil))))
set_option maxRecDepth 8000
theorem Ud {x : Int} (h : x.natAbs ≤ 2 ^ 1000) : Sm x := by
  unfold Sm; have : (2 : Int) ^ 1000 < Bs ^ 20 := by decide +kernel
  omega
theorem Rooted_s (n : Nat) (bn : Sm (n : Int)) : Fn 52 [Bz (n : Int)] (.int .u64 (rt n : Nat)) :=
  Sure.st (by simp only [RT]) trivial fun H => Rooted_calls n _ H (Wi bn _)
theorem of18_s (v : Int) (hv : -9223372036854775808 ≤ v ∧ v ≤ 9223372036854775807) : Fn 64 [.int .i64 v] (Bz v) := by
  refine Sure.body (by first | (simp only [RT]; done) | simp_all only [RT]) Tryz.func64 rfl (by kernel_rfl) (by kernel_rfl) ?_
  repeat' first
    | (with_reducible first | refine Jh (fun K hK => ?_) | refine Jx ?_ | refine Q4 ?_ | refine Qc ?_ | refine Qd ?_ | refine Jg ?_ | refine Jr ?_)
    | (with_reducible refine Q3 (Of_s v hv) (Jq _ _) ?_)
    | (with_reducible refine Jt (fun hc => ?_) (fun hc => ?_) <;> (try simp only [RC] at hc) <;> (try (exfalso; first | omega | contradiction)))
    | (with_reducible refine X4 (fun hc => ?_) (fun hc => ?_) <;> (try simp only [RC] at hc) <;> (try (exfalso; first | omega | contradiction)))
    | (simp only [Qb, Jo, reduceIte, J0])
    | ((with_reducible refine hK _ _ ?_); clear hK)
    | (clear hK; (with_reducible refine hK _ _ ?_); clear hK)
    | (clear hK; clear hK; (with_reducible refine hK _ _ ?_); clear hK)
    | (clear hK; clear hK; clear hK; (with_reducible refine hK _ _ ?_); clear hK)
    | (clear hK; clear hK; clear hK; clear hK; (with_reducible refine hK _ _ ?_); clear hK)
    | (clear hK; clear hK; clear hK; clear hK; clear hK; (with_reducible refine hK _ _ ?_); clear hK)
    | (simp only [Q9, RA, Jn, Jm, Jp, Q8, Q6, ev, ofValue, Ju, J0, J3, J2, J4, reduceCtorEq, reduceIte, Jv, Qm, Qk, Q0, aun, Qj, Jk, Ji, Jz, Jy, Jj, Qi, Jf, Q7, Js, J1, J5, Ja, J9, Jb, J6, J7, Jd, J8, RB, Jw, Je, RZ, tf64ZrB])
    | (simp (disch := first | omega | (simp only [RO]; done) | assumption) only [RS, RG, Xa, Xb, X9, Qz, Qr, X0])
    | (simp (disch := (first | omega | (simp only [RO]; done) | assumption | (simp only [RM, Je]; done) | (simp only [RL, Je]; omega))) only [RD, reduceCtorEq, reduceIte, Je, J1, J3, J2, J6, tf64ZrB])
  all_goals
    (
     (refine Qg (rs := [.cell 2 67]) rfl ?_)
     (simp only [X5, Qf, RA, RZ, J0, J3, J1, reduceCtorEq, reduceIte, tf64ZrB])
     (try simp only [RF]))
theorem mul18_s (x y : Int) (bx : Sm x) (by_ : Sm y) : Fn 63 [Bz x, Bz y] (Bz (x * y)) := by
  refine Sure.body (by first | (simp only [RT]; done) | simp_all only [RT]) Tryz.func63 rfl (by kernel_rfl) (by kernel_rfl) ?_
  repeat' first
    | (with_reducible first | refine Jh (fun K hK => ?_) | refine Jx ?_ | refine Q4 ?_ | refine Qc ?_ | refine Qd ?_ | refine Jg ?_ | refine Jr ?_)
    | (with_reducible refine Q3 (Mul_s x y bx by_) (Jq _ _) ?_)
    | (with_reducible refine Jt (fun hc => ?_) (fun hc => ?_) <;> (try simp only [RC] at hc) <;> (try (exfalso; first | omega | contradiction)))
    | (with_reducible refine X4 (fun hc => ?_) (fun hc => ?_) <;> (try simp only [RC] at hc) <;> (try (exfalso; first | omega | contradiction)))
    | (simp only [Qb, Jo, reduceIte, J0])
    | ((with_reducible refine hK _ _ ?_); clear hK)
    | (clear hK; (with_reducible refine hK _ _ ?_); clear hK)
    | (clear hK; clear hK; (with_reducible refine hK _ _ ?_); clear hK)
    | (clear hK; clear hK; clear hK; (with_reducible refine hK _ _ ?_); clear hK)
    | (clear hK; clear hK; clear hK; clear hK; (with_reducible refine hK _ _ ?_); clear hK)
    | (clear hK; clear hK; clear hK; clear hK; clear hK; (with_reducible refine hK _ _ ?_); clear hK)
    | (simp only [Q9, RA, Jn, Jm, Jp, Q8, Q6, ev, ofValue, Ju, J0, J3, J2, J4, reduceCtorEq, reduceIte, Jv, Qm, Qk, Q0, aun, Qj, Jk, Ji, Jz, Jy, Jj, Qi, Jf, Q7, Js, J1, J5, Ja, J9, Jb, J6, J7, Jd, J8, RB, Jw, Je, RZ, tf63ZrB])
    | (simp (disch := first | omega | (simp only [RO]; done) | assumption) only [RS, RG, Xa, Xb, X9, Qz, Qr, X0])
    | (simp (disch := (first | omega | (simp only [RO]; done) | assumption | (simp only [RM, Je]; done) | (simp only [RL, Je]; omega))) only [RD, reduceCtorEq, reduceIte, Je, J1, J3, J2, J6, tf63ZrB])
  all_goals
    (
     (refine Qg (rs := [.cell 4 67]) rfl ?_)
     (simp only [X5, Qf, RA, RZ, J0, J3, J1, reduceCtorEq, reduceIte, tf63ZrB])
     (try simp only [RF]))
theorem add18_s (x y : Int) (bx : Sm x) (by_ : Sm y) : Fn 66 [Bz x, Bz y] (Bz (x + y)) := by
  refine Sure.body (by first | (simp only [RT]; done) | simp_all only [RT]) Tryz.func66 rfl (by kernel_rfl) (by kernel_rfl) ?_
  repeat' first
    | (with_reducible first | refine Jh (fun K hK => ?_) | refine Jx ?_ | refine Q4 ?_ | refine Qc ?_ | refine Qd ?_ | refine Jg ?_ | refine Jr ?_)
    | (with_reducible refine Q3 (Add_s x y bx by_) (Jq _ _) ?_)
    | (with_reducible refine Jt (fun hc => ?_) (fun hc => ?_) <;> (try simp only [RC] at hc) <;> (try (exfalso; first | omega | contradiction)))
    | (with_reducible refine X4 (fun hc => ?_) (fun hc => ?_) <;> (try simp only [RC] at hc) <;> (try (exfalso; first | omega | contradiction)))
    | (simp only [Qb, Jo, reduceIte, J0])
    | ((with_reducible refine hK _ _ ?_); clear hK)
    | (clear hK; (with_reducible refine hK _ _ ?_); clear hK)
    | (clear hK; clear hK; (with_reducible refine hK _ _ ?_); clear hK)
    | (clear hK; clear hK; clear hK; (with_reducible refine hK _ _ ?_); clear hK)
    | (clear hK; clear hK; clear hK; clear hK; (with_reducible refine hK _ _ ?_); clear hK)
    | (clear hK; clear hK; clear hK; clear hK; clear hK; (with_reducible refine hK _ _ ?_); clear hK)
    | (simp only [Q9, RA, Jn, Jm, Jp, Q8, Q6, ev, ofValue, Ju, J0, J3, J2, J4, reduceCtorEq, reduceIte, Jv, Qm, Qk, Q0, aun, Qj, Jk, Ji, Jz, Jy, Jj, Qi, Jf, Q7, Js, J1, J5, Ja, J9, Jb, J6, J7, Jd, J8, RB, Jw, Je, RZ, tf66ZrB])
    | (simp (disch := first | omega | (simp only [RO]; done) | assumption) only [RS, RG, Xa, Xb, X9, Qz, Qr, X0])
    | (simp (disch := (first | omega | (simp only [RO]; done) | assumption | (simp only [RM, Je]; done) | (simp only [RL, Je]; omega))) only [RD, reduceCtorEq, reduceIte, Je, J1, J3, J2, J6, tf66ZrB])
  all_goals
    (
     (refine Qg (rs := [.cell 4 67]) rfl ?_)
     (simp only [X5, Qf, RA, RZ, J0, J3, J1, reduceCtorEq, reduceIte, tf66ZrB])
     (try simp only [RF]))
theorem sub18_s (x y : Int) (bx : Sm x) (by_ : Sm y) : Fn 62 [Bz x, Bz y] (Bz (x - y)) := by
  refine Sure.body (by first | (simp only [RT]; done) | simp_all only [RT]) Tryz.func62 rfl (by kernel_rfl) (by kernel_rfl) ?_
  repeat' first
    | (with_reducible first | refine Jh (fun K hK => ?_) | refine Jx ?_ | refine Q4 ?_ | refine Qc ?_ | refine Qd ?_ | refine Jg ?_ | refine Jr ?_)
    | (with_reducible refine Q3 (Sub_s x y bx by_) (Jq _ _) ?_)
    | (with_reducible refine Jt (fun hc => ?_) (fun hc => ?_) <;> (try simp only [RC] at hc) <;> (try (exfalso; first | omega | contradiction)))
    | (with_reducible refine X4 (fun hc => ?_) (fun hc => ?_) <;> (try simp only [RC] at hc) <;> (try (exfalso; first | omega | contradiction)))
    | (simp only [Qb, Jo, reduceIte, J0])
    | ((with_reducible refine hK _ _ ?_); clear hK)
    | (clear hK; (with_reducible refine hK _ _ ?_); clear hK)
    | (clear hK; clear hK; (with_reducible refine hK _ _ ?_); clear hK)
    | (clear hK; clear hK; clear hK; (with_reducible refine hK _ _ ?_); clear hK)
    | (clear hK; clear hK; clear hK; clear hK; (with_reducible refine hK _ _ ?_); clear hK)
    | (clear hK; clear hK; clear hK; clear hK; clear hK; (with_reducible refine hK _ _ ?_); clear hK)
    | (simp only [Q9, RA, Jn, Jm, Jp, Q8, Q6, ev, ofValue, Ju, J0, J3, J2, J4, reduceCtorEq, reduceIte, Jv, Qm, Qk, Q0, aun, Qj, Jk, Ji, Jz, Jy, Jj, Qi, Jf, Q7, Js, J1, J5, Ja, J9, Jb, J6, J7, Jd, J8, RB, Jw, Je, RZ, tf62ZrB])
    | (simp (disch := first | omega | (simp only [RO]; done) | assumption) only [RS, RG, Xa, Xb, X9, Qz, Qr, X0])
    | (simp (disch := (first | omega | (simp only [RO]; done) | assumption | (simp only [RM, Je]; done) | (simp only [RL, Je]; omega))) only [RD, reduceCtorEq, reduceIte, Je, J1, J3, J2, J6, tf62ZrB])
  all_goals
    (
     (refine Qg (rs := [.cell 4 67]) rfl ?_)
     (simp only [X5, Qf, RA, RZ, J0, J3, J1, reduceCtorEq, reduceIte, tf62ZrB])
     (try simp only [RF]))
theorem Round_s (x y : Int) (bx : x.natAbs ≤ 2 ^ 900) (b_y : y.natAbs ≤ 2 ^ 900) (hy : 0 < y) : Fn 82 [Bz x, Bz y] (Bz (rnd x y)) := by
  have h9 : (2 : Nat) * 2 ^ 900 + 2 ^ 900 ≤ 2 ^ 1000 := by decide +kernel
  have hp : 0 < 2 * y := by omega
  have q1 : ((2 * x + y).tdiv (2 * y)).natAbs ≤ (2 * x + y).natAbs := by rw [Int.natAbs_tdiv]; exact Nat.div_le_self _ _
  have r1 := Int.tmod_lt_of_pos (2 * x + y) hp
  have r2 := Int.lt_tmod_of_pos (2 * x + y) hp
  have hr : rnd x y = if (2 * x + y).tmod (2 * y) < 0 then (2 * x + y).tdiv (2 * y) - 1 else (2 * x + y).tdiv (2 * y) := ediv_of_t _ hp
  have O2 := Of_s 2 (by omega)
  have M1 := Mul_s 2 x (Ud (by decide +kernel)) (Ud (by omega))
  have A1 := Add_s (2 * x) y (Ud (by omega)) (Ud (by omega))
  have M2 := Mul_s 2 y (Ud (by decide +kernel)) (Ud (by omega))
  have D := Div_s (2 * x + y) (2 * y) (Ud (by omega)) (Ud (by omega)) (by omega)
  have S := Sign_s ((2 * x + y).tmod (2 * y)) (Ud (by omega))
  have O1 := Of_s 1 (by omega)
  have B := Sub_s ((2 * x + y).tdiv (2 * y)) 1 (Ud (by omega)) (Ud (by decide +kernel))
  rw [hr]
  by_cases h : (2 * x + y).tmod (2 * y) < 0
  · have hs : (((2 * x + y).tmod (2 * y)).sign < 0) = True := eq_true (Int.sign_neg_iff.mpr h)
    rw [if_pos h]
    refine Sure.body (by first | (simp only [RT]; done) | simp_all only [RT]) Tryz.func82 rfl (by kernel_rfl) (by kernel_rfl) ?_
    repeat' first
      | (with_reducible first | refine Jh (fun K hK => ?_) | refine Jx ?_ | refine Q4 ?_ | refine Qc ?_ | refine Qd ?_ | refine Jg ?_ | refine Q1 (id := 2) [] pn82_2ZrB (by kernel_rfl) (by kernel_rfl) ?_ | refine Q1 (id := 4) [] pn82_4ZrB (by kernel_rfl) (by kernel_rfl) ?_ | refine Jr ?_ | refine X8 ?_)
      | (with_reducible refine Q3 (O2) (Jq _ _) ?_)
      | (with_reducible refine Qa (O2) (Jq _ _) ?_)
      | (with_reducible refine Q3 (M1) (Jq _ _) ?_)
      | (with_reducible refine Qa (M1) (Jq _ _) ?_)
      | (with_reducible refine Q3 (A1) (Jq _ _) ?_)
      | (with_reducible refine Qa (A1) (Jq _ _) ?_)
      | (with_reducible refine Q3 (M2) (Jq _ _) ?_)
      | (with_reducible refine Qa (M2) (Jq _ _) ?_)
      | (with_reducible refine Q3 (D) (Jq _ _) ?_)
      | (with_reducible refine Qa (D) (Jq _ _) ?_)
      | (with_reducible refine Q3 (S) (Jq _ _) ?_)
      | (with_reducible refine Qa (S) (Jq _ _) ?_)
      | (with_reducible refine Q3 (O1) (Jq _ _) ?_)
      | (with_reducible refine Qa (O1) (Jq _ _) ?_)
      | (with_reducible refine Q3 (B) (Jq _ _) ?_)
      | (with_reducible refine Qa (B) (Jq _ _) ?_)
      | (with_reducible refine Jt (fun hc => ?_) (fun hc => ?_) <;> (try simp only [RC] at hc) <;> (try (exfalso; first | omega | contradiction)))
      | (with_reducible refine Jc ?_ ?_)
      | (with_reducible refine X4 (fun hc => ?_) (fun hc => ?_) <;> (try simp only [RC] at hc) <;> (try (exfalso; first | omega | contradiction)))
      | (simp only [Qb, Jo, reduceIte, J0])
      | ((with_reducible refine hK _ _ ?_); clear hK)
      | (clear hK; (with_reducible refine hK _ _ ?_); clear hK)
      | (clear hK; clear hK; (with_reducible refine hK _ _ ?_); clear hK)
      | (clear hK; clear hK; clear hK; (with_reducible refine hK _ _ ?_); clear hK)
      | (clear hK; clear hK; clear hK; clear hK; (with_reducible refine hK _ _ ?_); clear hK)
      | (clear hK; clear hK; clear hK; clear hK; clear hK; (with_reducible refine hK _ _ ?_); clear hK)
      | (simp only [Q9, RA, Jn, Jm, Jp, Q8, Q6, ev, ofValue, Ju, J0, J3, J2, J4, reduceCtorEq, reduceIte, Jv, Qm, Qk, Q0, aun, Qj, Jk, Ji, Jz, Jy, Jj, Qi, Jf, Q7, Js, J1, J5, Ja, J9, Jb, J6, J7, Jd, J8, RB, Jw, Je, RZ, tf82ZrB, hs])
      | (simp (disch := first | omega | (simp only [RO]; done) | assumption) only [RS, RG, Xa, Xb, X9, Qz, Qr, X0])
      | (simp (disch := (first | omega | (simp only [RO]; done) | assumption | (simp only [RM, Je]; done) | (simp only [RL, Je]; omega))) only [RD, reduceCtorEq, reduceIte, Je, J1, J3, J2, J6, tf82ZrB, hs])
    all_goals
      (
       (refine Qg (rs := [.cell 4 67]) rfl ?_)
       (simp only [X5, Qf, RA, RZ, J0, J3, J1, reduceCtorEq, reduceIte, tf82ZrB])
       (try simp only [RF]))
  · have hs : (((2 * x + y).tmod (2 * y)).sign < 0) = False := eq_false (fun h' => h (Int.sign_neg_iff.mp h'))
    rw [if_neg h]
    refine Sure.body (by first | (simp only [RT]; done) | simp_all only [RT]) Tryz.func82 rfl (by kernel_rfl) (by kernel_rfl) ?_
    repeat' first
      | (with_reducible first | refine Jh (fun K hK => ?_) | refine Jx ?_ | refine Q4 ?_ | refine Qc ?_ | refine Qd ?_ | refine Jg ?_ | refine Q1 (id := 2) [] pn82_2ZrB (by kernel_rfl) (by kernel_rfl) ?_ | refine Q1 (id := 4) [] pn82_4ZrB (by kernel_rfl) (by kernel_rfl) ?_ | refine Jr ?_ | refine X8 ?_)
      | (with_reducible refine Q3 (O2) (Jq _ _) ?_)
      | (with_reducible refine Qa (O2) (Jq _ _) ?_)
      | (with_reducible refine Q3 (M1) (Jq _ _) ?_)
      | (with_reducible refine Qa (M1) (Jq _ _) ?_)
      | (with_reducible refine Q3 (A1) (Jq _ _) ?_)
      | (with_reducible refine Qa (A1) (Jq _ _) ?_)
      | (with_reducible refine Q3 (M2) (Jq _ _) ?_)
      | (with_reducible refine Qa (M2) (Jq _ _) ?_)
      | (with_reducible refine Q3 (D) (Jq _ _) ?_)
      | (with_reducible refine Qa (D) (Jq _ _) ?_)
      | (with_reducible refine Q3 (S) (Jq _ _) ?_)
      | (with_reducible refine Qa (S) (Jq _ _) ?_)
      | (with_reducible refine Q3 (O1) (Jq _ _) ?_)
      | (with_reducible refine Qa (O1) (Jq _ _) ?_)
      | (with_reducible refine Q3 (B) (Jq _ _) ?_)
      | (with_reducible refine Qa (B) (Jq _ _) ?_)
      | (with_reducible refine Jt (fun hc => ?_) (fun hc => ?_) <;> (try simp only [RC] at hc) <;> (try (exfalso; first | omega | contradiction)))
      | (with_reducible refine Jc ?_ ?_)
      | (with_reducible refine X4 (fun hc => ?_) (fun hc => ?_) <;> (try simp only [RC] at hc) <;> (try (exfalso; first | omega | contradiction)))
      | (simp only [Qb, Jo, reduceIte, J0])
      | ((with_reducible refine hK _ _ ?_); clear hK)
      | (clear hK; (with_reducible refine hK _ _ ?_); clear hK)
      | (clear hK; clear hK; (with_reducible refine hK _ _ ?_); clear hK)
      | (clear hK; clear hK; clear hK; (with_reducible refine hK _ _ ?_); clear hK)
      | (clear hK; clear hK; clear hK; clear hK; (with_reducible refine hK _ _ ?_); clear hK)
      | (clear hK; clear hK; clear hK; clear hK; clear hK; (with_reducible refine hK _ _ ?_); clear hK)
      | (simp only [Q9, RA, Jn, Jm, Jp, Q8, Q6, ev, ofValue, Ju, J0, J3, J2, J4, reduceCtorEq, reduceIte, Jv, Qm, Qk, Q0, aun, Qj, Jk, Ji, Jz, Jy, Jj, Qi, Jf, Q7, Js, J1, J5, Ja, J9, Jb, J6, J7, Jd, J8, RB, Jw, Je, RZ, tf82ZrB, hs])
      | (simp (disch := first | omega | (simp only [RO]; done) | assumption) only [RS, RG, Xa, Xb, X9, Qz, Qr, X0])
      | (simp (disch := (first | omega | (simp only [RO]; done) | assumption | (simp only [RM, Je]; done) | (simp only [RL, Je]; omega))) only [RD, reduceCtorEq, reduceIte, Je, J1, J3, J2, J6, tf82ZrB, hs])
    all_goals
      (
       (refine Qg (rs := [.cell 4 67]) rfl ?_)
       (simp only [X5, Qf, RA, RZ, J0, J3, J1, reduceCtorEq, reduceIte, tf82ZrB])
       (try simp only [RF]))
end Go.Proofs.YtigddjlhncnnoaaGreatDoor
namespace Go.Proofs.YtigddjlhncnnoaaGreatDoor
open Go.AL Go.PW Go.PD Go.PR
theorem tf13ZcC : type_of% (Jc @Zg (Jc @Zh (Jc @Z1 (Jc @Zq (Jc @Zp (Jc @Xc (@J05))))))) := Jc @Zg (Jc @Zh (Jc @Z1 (Jc @Zq (Jc @Zp (Jc @Xc (@J05))))))
set_option maxRecDepth 8000
theorem RHypot_s (x y : Int) (n : Nat) (hx : -2147483648 ≤ x ∧ x ≤ 2147483648) (hy : -2147483648 ≤ y ∧ y ≤ 2147483648) (hn : (n : Int) = x * x + y * y) : Fn 13 [.int .i64 x, .int .i64 y] (.tup [.int .i64 (rt n : Nat), .bool true]) := by
  have s1 := Ns (x := x) (b := 2147483648) (by decide) hx
  have s2 := Ns (x := y) (b := 2147483648) (by decide) hy
  have sm : ∀ {z : Int}, z.natAbs ≤ 18446744073709551616 → Sm z := fun h => Ud (Nat.le_trans h (by decide +kernel))
  have hr := rt_32 (n := n) (by omega)
  have w : IntKind.i64.wrap ((rt n : Nat) : Int) = (rt n : Nat) := Qe (by omega) (by omega)
  have O1 := Of_s x (by omega)
  have O2 := Of_s y (by omega)
  have F1 := Fits_s x 2147483648 (sm (by omega)) (by decide)
  have F2 := Fits_s y 2147483648 (sm (by omega)) (by decide)
  rw [decide_eq_true (by omega)] at F1 F2
  have M1 := Mul_s x x (sm (by omega)) (sm (by omega))
  have M2 := Mul_s y y (sm (by omega)) (sm (by omega))
  have A1 := Add_s (x * x) (y * y) (sm (by omega)) (sm (by omega))
  rw [← hn] at A1
  have R := Rooted_s n (sm (by omega))
  refine Sure.body (by first | (simp only [RT]; done) | simp_all only [RT]) Tryz.func13 rfl (by kernel_rfl) (by kernel_rfl) ?_
  repeat' first
    | (with_reducible first | refine Jh (fun K hK => ?_) | refine Jx ?_ | refine Q4 ?_ | refine Qc ?_ | refine Qd ?_ | refine Jg ?_ | refine Jr ?_)
    | (with_reducible refine Q3 (O1) (Jq _ _) ?_)
    | (with_reducible refine Q3 (O2) (Jq _ _) ?_)
    | (with_reducible refine Q3 (F1) (Jq _ _) ?_)
    | (with_reducible refine Q3 (F2) (Jq _ _) ?_)
    | (with_reducible refine Q3 (M1) (Jq _ _) ?_)
    | (with_reducible refine Q3 (M2) (Jq _ _) ?_)
    | (with_reducible refine Q3 (A1) (Jq _ _) ?_)
    | (with_reducible refine Q3 (R) (Jq _ _) ?_)
    | (with_reducible refine Jt (fun hc => ?_) (fun hc => ?_) <;> (try simp only [RC] at hc) <;> (try (exfalso; first | omega | contradiction)))
    | (with_reducible refine X4 (fun hc => ?_) (fun hc => ?_) <;> (try simp only [RC] at hc) <;> (try (exfalso; first | omega | contradiction)))
    | (simp only [Qb, Jo, reduceIte, J0])
    | ((with_reducible refine hK _ _ ?_); clear hK)
    | (clear hK; (with_reducible refine hK _ _ ?_); clear hK)
    | (clear hK; clear hK; (with_reducible refine hK _ _ ?_); clear hK)
    | (clear hK; clear hK; clear hK; (with_reducible refine hK _ _ ?_); clear hK)
    | (clear hK; clear hK; clear hK; clear hK; (with_reducible refine hK _ _ ?_); clear hK)
    | (clear hK; clear hK; clear hK; clear hK; clear hK; (with_reducible refine hK _ _ ?_); clear hK)
    | (simp only [Q9, RA, Jn, Jm, Jp, Q8, Q6, ev, ofValue, Ju, J0, J3, J2, J4, reduceCtorEq, reduceIte, Jv, Qm, Qk, Q0, aun, Qj, Jk, Ji, Jz, Jy, Jj, Qi, Jf, Q7, Js, J1, J5, Ja, J9, Jb, J6, J7, Jd, J8, RB, Jw, Je, RZ, tf13ZcC, w])
    | (simp (disch := first | omega | (simp only [RO]; done) | assumption) only [RS, RG, Xa, Xb, X9, Qz, Qr, X0])
    | (simp (disch := (first | omega | (simp only [RO]; done) | assumption | (simp only [RM, Je]; done) | (simp only [RL, Je]; omega))) only [RD, reduceCtorEq, reduceIte, Je, J1, J3, J2, J6, tf13ZcC, w])
  all_goals
    (
     (refine Qg (rs := [.tmp 4, .tmp 5]) rfl ?_)
     (simp only [X5, Qf, RA, RZ, J0, J3, J1, reduceCtorEq, reduceIte, tf13ZcC])
     (try simp only [RF]))
end Go.Proofs.YtigddjlhncnnoaaGreatDoor
namespace Go.Proofs.YtigddjlhncnnoaaGreatDoor
open Go.AL Go.PW Go.PD Go.PR
theorem tf115ZcE : type_of% (@Zg) := @Zg
theorem tf61ZcE : type_of% (Jc @Zg (Jc @Uz (@Uy))) := Jc @Zg (Jc @Uz (@Uy))
set_option maxRecDepth 8000
theorem far10_s (v most : Int) (hm : 0 ≤ most ∧ most ≤ 9223372036854775807) : Fn 115 [.int .i64 v, .int .i64 most] (.bool (decide (v < -most ∨ most < v))) := by
  have w : IntKind.i64.wrap (0 - most) = -most := by rw [Qe (by omega) (by omega)]; omega
  by_cases h1 : most < v <;> by_cases h2 : v < -most
  all_goals
    refine Sure.body (by first | (simp only [RT]; done) | simp_all only [RT]) Tryz.func115 rfl (by kernel_rfl) (by kernel_rfl) ?_
    repeat' first
      | (with_reducible first | refine Jh (fun K hK => ?_) | refine Jx ?_ | refine Q4 ?_ | refine Qc ?_ | refine Qd ?_ | refine Jg ?_ | refine Jr ?_)
      | (with_reducible refine Jt (fun hc => ?_) (fun hc => ?_) <;> (try simp only [RC] at hc) <;> (try (exfalso; first | omega | contradiction)))
      | (with_reducible refine X4 (fun hc => ?_) (fun hc => ?_) <;> (try simp only [RC] at hc) <;> (try (exfalso; first | omega | contradiction)))
      | (simp only [Qb, Jo, reduceIte, J0])
      | ((with_reducible refine hK _ _ ?_); clear hK)
      | (clear hK; (with_reducible refine hK _ _ ?_); clear hK)
      | (clear hK; clear hK; (with_reducible refine hK _ _ ?_); clear hK)
      | (clear hK; clear hK; clear hK; (with_reducible refine hK _ _ ?_); clear hK)
      | (clear hK; clear hK; clear hK; clear hK; (with_reducible refine hK _ _ ?_); clear hK)
      | (clear hK; clear hK; clear hK; clear hK; clear hK; (with_reducible refine hK _ _ ?_); clear hK)
      | (simp only [Q9, RA, Jn, Jm, Jp, Q8, Q6, ev, ofValue, Ju, J0, J3, J2, J4, reduceCtorEq, reduceIte, Jv, Qm, Qk, Q0, aun, Qj, Jk, Ji, Jz, Jy, Jj, Qi, Jf, Q7, Js, J1, J5, Ja, J9, Jb, J6, J7, Jd, J8, RB, Jw, Je, RZ, tf115ZcE, w, h1, h2])
      | (simp (disch := first | omega | (simp only [RO]; done) | assumption) only [RS, RG])
      | (simp (disch := (first | omega | (simp only [RO]; done) | assumption | (simp only [RM, Je]; done) | (simp only [RL, Je]; omega))) only [RD, reduceCtorEq, reduceIte, Je, J1, J3, J2, J6, tf115ZcE, w, h1, h2])
  all_goals
    (
     (refine Qg (rs := [.tmp 4]) rfl ?_)
     (simp only [X5, Qf, RA, RZ, J0, J3, J1, reduceCtorEq, reduceIte, tf115ZcE])
     (try simp only [RF]))
  all_goals simp [h1, h2]
theorem Away_s (x y : Int) : Fn 61 [PtA x y] (.bool (Y7 x || Y7 y)) := by
  have F1 := far10_s x 4194304 (by decide)
  have F2 := far10_s y 4194304 (by decide)
  unfold Y7
  generalize decide (x < -4194304 ∨ 4194304 < x) = b1 at *
  generalize decide (y < -4194304 ∨ 4194304 < y) = b2 at *
  cases b1 <;> cases b2
  all_goals
    refine Sure.body (by first | (simp only [RT]; done) | simp_all only [RT]) Tryz.func61 rfl (by kernel_rfl) (by kernel_rfl) ?_
    repeat' first
      | (with_reducible first | refine Jh (fun K hK => ?_) | refine Jx ?_ | refine Q4 ?_ | refine Qc ?_ | refine Qd ?_ | refine Jg ?_ | refine Jr ?_)
      | (with_reducible refine Q3 (F1) (Jq _ _) ?_)
      | (with_reducible refine Q3 (F2) (Jq _ _) ?_)
      | (with_reducible refine Jt (fun hc => ?_) (fun hc => ?_) <;> (try simp only [RC] at hc) <;> (try (exfalso; first | omega | contradiction)))
      | (with_reducible refine X4 (fun hc => ?_) (fun hc => ?_) <;> (try simp only [RC] at hc) <;> (try (exfalso; first | omega | contradiction)))
      | (simp only [Qb, Jo, reduceIte, J0])
      | ((with_reducible refine hK _ _ ?_); clear hK)
      | (clear hK; (with_reducible refine hK _ _ ?_); clear hK)
      | (clear hK; clear hK; (with_reducible refine hK _ _ ?_); clear hK)
      | (clear hK; clear hK; clear hK; (with_reducible refine hK _ _ ?_); clear hK)
      | (clear hK; clear hK; clear hK; clear hK; (with_reducible refine hK _ _ ?_); clear hK)
      | (clear hK; clear hK; clear hK; clear hK; clear hK; (with_reducible refine hK _ _ ?_); clear hK)
      | (simp only [Q9, RA, Jn, Jm, Jp, Q8, Q6, ev, ofValue, Ju, J0, J3, J2, J4, reduceCtorEq, reduceIte, Jv, Qm, Qk, Q0, aun, Qj, Jk, Ji, Jz, Jy, Jj, Qi, Jf, Q7, Js, J1, J5, Ja, J9, Jb, J6, J7, Jd, J8, RB, Jw, Je, RZ, tf61ZcE])
      | (simp (disch := first | omega | (simp only [RO]; done) | assumption) only [RS, RG, Xt, Xv, Xj, Xu])
      | (simp (disch := (first | omega | (simp only [RO]; done) | assumption | (simp only [RM, Je]; done) | (simp only [RL, Je]; omega))) only [RD, reduceCtorEq, reduceIte, Je, J1, J3, J2, J6, tf61ZcE])
  all_goals
    (
     (refine Qg (rs := [.tmp 2]) rfl ?_)
     (simp only [X5, Qf, RA, RZ, J0, J3, J1, reduceCtorEq, reduceIte, tf61ZcE, Bool.or_false, Bool.or_true, Bool.true_or, Bool.or_self])
     (try simp only [RF, Bool.or_false, Bool.or_true, Bool.true_or, Bool.or_self]))
end Go.Proofs.YtigddjlhncnnoaaGreatDoor

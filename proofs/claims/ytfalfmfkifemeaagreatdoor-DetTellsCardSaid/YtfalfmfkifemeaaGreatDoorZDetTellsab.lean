/- Part 2 of the proof of the law DetTells: lemmas on the model's code, on this program's functions, on numbers. No condition. -/
import Derived.Test.YtfalfmfkifemeaaGreatDoorZDetTellsaa
set_option linter.unusedVariables false
set_option linter.unusedSimpArgs false
open Nat renaming reduceEqDiff → J0, reduceLeDiff → J1, reduceMul → J2, reduceAdd → J3, reduceSub → J4, reduceLT → J5
open Int renaming reduceToNat → J6, reducePow → J7, reduceNeg → J8, reduceLT → J9, reduceLE → Ja, reduceEq → Jb
open And renaming intro → Jc
open Go.IntKind renaming bits → Jd
open Go.PW renaming dig_length → Je
namespace Go.Proofs.YtfalfmfkifemeaaGreatDoor
open Go.AL Go.PW Go.PD
theorem Ki : type_of% (Jc @Xd (Jc @Xz (Jc @X1 (Jc @Z3 (Jc @Z2 (Jc @Xj (Jc @Za (@Z9)))))))) := Jc @Xd (Jc @Xz (Jc @X1 (Jc @Z3 (Jc @Z2 (Jc @Xj (Jc @Za (@Z9)))))))
abbrev pn54_3RfS : Plan := (.one 0 (.one 1 (.one 2 (.one 3 (.one 4 (.one 5 (.one 6 (.one 7 (.one 8 (.one 9 (.one 10 (.one 11 (.one 12 (.ext 13 (.one 14 (.one 15 (.one 16 (.one 17 (.one 18 .nil)))))))))))))))))))
abbrev pn54_5RfS : Plan := (.one 0 (.one 1 (.one 2 (.one 3 .nil))))
set_option maxRecDepth 8000
theorem copy_limbs {H : Hp} {h : Nat} {xs : List Int} {s : AV} (hg : Qt H h = some (Wb 0)) (hs : Ints H .u64 s xs) (hL : Limbs xs) (hl : xs.length ≤ 16) : acopy Tryz.prog H 44 (.sl h 0 16 16) s = some (.int .i64 (xs.length : Nat), H.set h (Wb (val xs))) := by
  have hm : min xs.length 16 = xs.length := by omega
  unfold acopy
  simp only [Z4, Xt, hs.rd.row, hm]
  by_cases h0 : xs.length = 0
  · rw [if_pos h0]
    obtain rfl : xs = [] := List.eq_nil_of_length_eq_zero h0
    rw [show val [] = 0 from rfl, set_same hg]
    rfl
  · rw [if_neg h0]
    simp only [hg]
    have hb := Xa hL
    have hb2 : Bs ^ xs.length ≤ Bs ^ 16 := Wv (by omega)
    have hz : ∀ k, val ((dig 16 0).drop k) = 0 := fun k => by
      have h1 := Zx (dig 16 0) k
      have h2 : val (dig 16 0) = 0 := by rw [Uo]; rfl
      have h3 := Xa ((Xu 16 0).take k)
      have h4 := Xa ((Xu 16 0).drop k)
      have h5 := Xc (min k (dig 16 0).length)
      rcases Int.lt_or_le 0 (val ((dig 16 0).drop k)) with h | h
      · have := Int.mul_pos h5 h; omega
      · omega
    have hd : xs ++ (dig 16 0).drop xs.length = dig 16 (val xs) := by
      refine Ys (Limbs.append.2 ⟨hL, (Xu 16 0).drop _⟩) (by rw [List.length_append, List.length_drop, dig_length]; omega) ?_
      rw [Gc, hz, Int.mul_zero, Int.add_zero, Int.emod_eq_of_lt hb.1 (by omega)]
    have hsp : Jr ((dig 16 0).map (AV.int .u64)) 0 ((xs.map (AV.int .u64)).take (xs.length * 1)) = (dig 16 (val xs)).map (AV.int .u64) := by
      rw [List.take_of_length_le (by rw [List.length_map]; omega)]
      simp only [Jr, List.take_zero, List.nil_append, List.length_map, Nat.zero_add]
      rw [← List.map_drop, ← List.map_append, hd]
    have hlen : ((dig 16 0).map (AV.int .u64)).length = 16 := by rw [List.length_map, dig_length]
    rw [if_pos ⟨trivial, V9 _ _, by rw [hlen]; omega, by decide⟩, hsp]
theorem foldr_true {α : Type} {f : α → Option Bool → Option Bool} : ∀ {l : List α}, (∀ a ∈ l, f a (some true) = some true) → l.foldr f (some true) = some true
  | [], _ => rfl
  | a :: l, h => by
    rw [List.foldr_cons, foldr_true (fun b hb => h b (by simp [hb])), h a (by simp)]
theorem eq_wide (x : Int) : Xk Tryz.prog Op.maxDepth 33 (W x) (W x) = some true := by
  have h : ∀ d, Xk Tryz.prog (d + 1 + 1) 33 (W x) (W x) = some true := by
    intro d
    unfold W
    unfold Xk
    simp only [und33, Xt]
    refine foldr_true fun i hi => ?_
    have hi := List.mem_range.1 hi
    have e : apart Tryz.prog 31 ((dig 16 x).map (AV.int .u64)) (i * 1) = some (.int .u64 ((dig 16 x).getD i 0)) := by
      unfold apart
      simp only [Y0]
      rw [Nat.mul_one]
      exact map_get (AV.int .u64) (dig 16 x) 0 (by rw [dig_length]; omega)
    rw [e]
    simp only [Xk, und31, if_true, beq_self_eq_true, Bool.and_self]
  exact h (Op.maxDepth - 2)
theorem Can.at_most {xs : List Int} (c : Can xs) {k : Nat} (h : val xs < Bs ^ k) : xs.length ≤ k := by
  rcases Nat.lt_or_ge k xs.length with h1 | h1
  · have h2 := c.low (by omega)
    have h3 : Bs ^ k ≤ Bs ^ (xs.length - 1) := Wv (by omega)
    omega
  · exact h1
set_option maxHeartbeats 4000000 in
theorem ToWide_calls (x : Int) (s : AV) (H : Hp) (hs : Bs_ H s x) (hx : (x.natAbs : Int) < Bs ^ 15) : ACalls Tryz.prog 54 [BV x s] H fun r H' => r = .tup [W x, .bool true] ∧ H = H' := by
  refine ACalls.drop (R := fun r => r = .tup [W x, .bool true]) ?_
  obtain ⟨xs, u, c, vx⟩ := hs.ex
  have hs1 := hs.one
  have hc1 : s.cells = [s] := hs.cells
  have hl := c.at_most (k := 15) (by rw [vx]; exact hx)
  have hbits : bits_ xs ≤ 960 := by
    unfold bits_
    split
    · omega
    · have hb := c.lim.get (xs.length - 1)
      have : bl (xs.getD (xs.length - 1) 0).toNat ≤ 64 := bl_le (by simp only [Bs] at hb; omega)
      omega
  have f1 : (((bits_ xs : Nat) : Int) > 1024) = False := eq_false (by omega)
  have f2 : (((bits_ xs : Nat) : Int) = 1024) = False := eq_false (by omega)
  have hcp := copy_limbs (H := H ++ [⟨[.bool (decide (x < 0)), s], .own, 46⟩] ++ [Wb 0] ++ [Wb 0]) (h := H.length + 1 + 1) (Qo (by simp)) (u.rd.ext (G5 _ _ _)) c.lim (by omega)
  rw [List.set_append_right _ _ (by simp), vx] at hcp
  simp only [List.length_append, List.length_cons, List.length_nil, Nat.zero_add, Nat.sub_self, List.set_cons_zero] at hcp
  have hb15 : Bs ^ 15 ≤ Bs ^ 16 := Wv (by omega)
  have hsz := fun H0 (x0 : Ext H H0) => size_calls s xs H0 (u.rd.ext x0) c
  refine Q7 Tryz.func54 rfl (by kernel_rfl) (by kernel_rfl) ?_
  by_cases hn : x < 0
  · have e1 : decide (x < 0) = true := decide_eq_true hn
    rw [e1] at hcp
    repeat' first
      | (with_reducible first | refine Jj (fun K hK => ?_) | refine Qc ?_ | refine Q6 ?_ | refine Jg ?_ | refine Qw (id := 3) [13] pn54_3RfS (by kernel_rfl) (by kernel_rfl) ?_ | refine Qw (id := 5) [] pn54_5RfS (by kernel_rfl) (by kernel_rfl) ?_ | refine Jz ?_ | refine Z1 ?_)
      | ((with_reducible refine Jq (hsz _ ((Ext.push _ _).pushed _)) ?_); rintro _ _ ⟨rfl, rfl⟩)
      | (with_reducible refine Qn (fun hc => ?_) (fun hc => ?_) <;> (try simp only [RC] at hc) <;> (try (exfalso; first | omega | contradiction)))
      | (simp only [Q4, Jo, reduceIte, J0])
      | ((with_reducible refine hK _ _ ?_); clear hK)
      | (simp only [Q3, RA, Jn, Jm, Jp, Q2, Q0, ev, ofValue, Jt, J0, J3, J2, J4, reduceCtorEq, reduceIte, Ju, Qb, Qa, Jy, aun, Q9, Jk, Jh, Jx, Jw, Ji, Q8, Jf, Q1, Jr, Js, J1, J5, Ja, J9, Jb, J6, J7, Jd, J8, RB, Jv, Je, Ki, f1, f2, hcp, e1])
      | (simp (disch := first | omega | (simp only [RO]; done) | assumption) only [RS, X6, X7, Xs, Xq, Xr, Xp, X4, X0])
      | (simp (disch := (first | omega | (simp only [RO]; done) | assumption | (simp only [RM, Je]; done) | (simp only [RL, Je]; omega))) only [RD, reduceCtorEq, reduceIte, Je, J1, J3, J2, J6, Ki, f1, f2, hcp, e1])
    obtain ⟨N, hN⟩ : ∃ N : Int, N = x.natAbs := ⟨_, rfl⟩
    rw [← hN]
    have hNx : x = -N := by omega
    have hN0 : 0 < N ∧ N < Bs ^ 16 := by omega
    have hvN : val (dig 16 N) = N := by rw [Uo, Int.emod_eq_of_lt (by omega) hN0.2]
    refine X2 (fun m fr' H1 => ∃ (i : Nat) (ys : List Int) (cc : Int), m = 16 - i ∧ i ≤ 16 ∧ fr' 2 = .ptr (H.length + 1) 0 ∧ fr' 5 = .ptr (H.length + 1 + 1) 0 ∧ fr' 6 = .int .u64 cc ∧ fr' 7 = .int .i64 (i : Int) ∧ (0 ≤ cc ∧ cc ≤ 1) ∧ ys.length = 16 ∧ Limbs ys ∧ (∀ k, i ≤ k → ys.getD k 0 = (dig 16 N).getD k 0) ∧
        val (ys.take i) + Bs ^ i * cc = Bs ^ i - val ((dig 16 N).take i) ∧ H ++ [⟨[.bool true, s], .own, 46⟩] ++ [Wb 0] ++ [⟨ys.map (AV.int .u64), .own, 33⟩] = H1) (m := 16)
      ⟨0, dig 16 N, 1, by omega, by omega, rfl, rfl, rfl, rfl, ⟨by omega, by omega⟩, dig_length _ _, Xu _ _, fun _ _ => rfl, by simp [val], rfl⟩ ?_
    rintro m fr' H1 ⟨i, ys, cc, rfl, hi, k2, k5, k6, k7, hcc, hyl, hys, hyk, hy, rfl⟩
    by_cases hlt : i < 16
    · have hd := hys.get i
      have e1 : IntKind.i64.wrap ((i : Int) + 1) = ((i + 1 : Nat) : Int) := by rw [Q5 (by omega) (by omega)]; omega
      have hnn : 0 ≤ Bs - 1 - ys.getD i 0 := by omega
      repeat' first
        | (with_reducible first | refine Jj (fun K hK => ?_) | refine Qc ?_ | refine Q6 ?_ | refine Jg ?_ | refine Jz ?_)
        | ((with_reducible refine Xo (K1 _ _ _ _ hnn (by decide) hcc) ?_); rintro _ _ ⟨rfl, rfl⟩)
        | (with_reducible refine X5 (fun hc => ?_) (fun hc => ?_) <;> (try simp only [RC] at hc) <;> (try (exfalso; first | omega | contradiction)))
        | (simp only [Q4, Jo, reduceIte, J0])
        | ((with_reducible refine hK _ _ ?_); clear hK)
        | (simp only [Q3, RA, Jn, Jm, Jp, Q2, Q0, ev, ofValue, Jt, J0, J3, J2, J4, reduceCtorEq, reduceIte, Ju, Qb, Qa, Jy, aun, Q9, Jk, Jh, Jx, Jw, Ji, Q8, Jf, Q1, Jr, Js, J1, J5, Ja, J9, Jb, J6, J7, Jd, J8, RB, Jv, Je, Ki, k2, k5, k6, k7, e1, not64 hd.1 hd.2])
        | (simp (disch := first | omega | (simp only [RO]; done) | assumption) only [RS, hyl, X6, X7, Xs, Xq, Xr, Xp, X4, X0])
        | (simp (disch := (first | omega | (simp only [RO]; done) | assumption | (simp only [RM, Je]; done) | (simp only [RL, Je]; omega))) only [RD, reduceCtorEq, reduceIte, Je, J1, J3, J2, J6, Ki, k2, k5, k6, k7, e1, not64 hd.1 hd.2])
      all_goals
        generalize hS : Bs - 1 - ys.getD i 0 + 0 + cc = S
        have hS0 : 0 ≤ S ∧ S < 2 * Bs := by simp only [Bs] at *; omega
        have hm := Int.emod_add_mul_ediv S Bs
        have hm0 := Int.emod_nonneg S (b := Bs) (by decide)
        have hm1 := Int.emod_lt_of_pos S (b := Bs) (by decide)
        have hq : 0 ≤ S / Bs ∧ S / Bs ≤ 1 := by simp only [Bs] at *; omega
        refine ⟨_, by omega, i + 1, ys.set i (S % Bs), _, rfl, by omega, rfl, rfl, hq, by rw [List.length_set]; exact hyl, hys.set i ⟨hm0, hm1⟩, fun k hk => ?_, ?_, rfl⟩
        · rw [Xf _ _ (by omega), if_neg (by omega)]; exact hyk k (by omega)
        · have hv := Xb (dig 16 N) (i := i) (by rw [dig_length]; exact hlt)
          have hv2 := Xb (ys.set i (S % Bs)) (i := i) (by rw [List.length_set]; omega)
          rw [Xf _ _ (by omega), if_pos rfl, List.take_set_of_le (Nat.le_refl _)] at hv2
          rw [hv, hv2, Int.pow_succ, ← hyk i (Nat.le_refl _)]
          have : ys.getD i 0 = Bs - 1 + cc - S := by omega
          rw [this]
          generalize Bs ^ i = p at *
          have h9 : p * S = p * (S % Bs) + p * Bs * (S / Bs) := by rw [Int.mul_assoc, ← Int.mul_add, hm]
          generalize Bs = B at *
          grind
    · obtain rfl : i = 16 := by omega
      repeat' first
        | (with_reducible first | refine Jj (fun K hK => ?_) | refine Qz ?_ | refine Qj ?_ | refine Jg ?_ | refine Jz ?_)
        | (simp only [Q4, Jo, reduceIte, J0])
        | ((with_reducible refine hK _ _ ?_); clear hK)
        | (clear hK; (with_reducible refine hK _ _ ?_); clear hK)
        | (simp only [Q3, RA, Jn, Jm, Jp, Q2, Q0, ev, ofValue, Jt, J0, J3, J2, J4, reduceCtorEq, reduceIte, Ju, Qb, Qa, Jy, aun, Q9, Jk, Jh, Jx, Jw, Ji, Q8, Jf, Q1, Jr, Js, J1, J5, Ja, J9, Jb, J6, J7, Jd, J8, RB, Jv, Je, Ki, k2, k5, k6, k7])
        | (simp (disch := (first | omega | (simp only [RO]; done) | assumption | (simp only [RM, Je]; done) | (simp only [RL, Je]; omega))) only [RD, reduceCtorEq, reduceIte, Je, J1, J3, J2, J6, Ki, k2, k5, k6, k7])
      all_goals
        (
         (refine Qg (rs := [.cell 2 33, .tmp 3]) rfl ?_)
         (simp only [Qx, Qd, Fr.put_some, Fr.put_none, Qe, Qf, Qi, J0, reduceIte, k2])
         (try simp (disch := (first | omega | (simp only [RO]; done) | assumption | (simp only [RM, Je]; done) | (simp only [RL, Je]; omega))) only [RD, reduceCtorEq, reduceIte, Je, J1, J3, J2, J6, Ki, k2]))
      have e1 : ys.take 16 = ys := List.take_of_length_le (by omega)
      have e2 : (dig 16 N).take 16 = dig 16 N := List.take_of_length_le (by rw [dig_length]; omega)
      rw [e1, e2, hvN] at hy
      have h1 := Xa hys
      rw [hyl] at h1
      have hc0 : cc = 0 := by
        rcases Int.lt_or_le cc 1 with h | h
        · omega
        · exfalso
          obtain rfl : cc = 1 := by omega
          omega
      rw [hc0] at hy
      have hyd : ys = dig 16 x := by
        refine Ys hys hyl ?_
        have : x = val ys + Bs ^ 16 * (-1) := by omega
        rw [this, Int.add_mul_emod_self_left, Int.emod_eq_of_lt h1.1 h1.2]
      all_goals
        refine ⟨((Ext.push _ _).pushed _).pushed _, ?_, ?_⟩
        · first | exact Vu _ _ _ | (rw [hyd]; exact Vu _ _ _) | simp [AV.lt, AV.lts, AV.lts_iff]
        · rw [hyd]
  · have e1 : decide (x < 0) = false := decide_eq_false hn
    rw [e1] at hcp
    repeat' first
      | (with_reducible first | refine Jj (fun K hK => ?_) | refine Q6 ?_ | refine Qj ?_ | refine Jg ?_ | refine Qw (id := 3) [13] pn54_3RfS (by kernel_rfl) (by kernel_rfl) ?_ | refine Qw (id := 5) [] pn54_5RfS (by kernel_rfl) (by kernel_rfl) ?_ | refine Jz ?_ | refine Z1 ?_)
      | ((with_reducible refine Jq (hsz _ ((Ext.push _ _).pushed _)) ?_); rintro _ _ ⟨rfl, rfl⟩)
      | (with_reducible refine Qn (fun hc => ?_) (fun hc => ?_) <;> (try simp only [RC] at hc) <;> (try (exfalso; first | omega | contradiction)))
      | (simp only [Q4, Jo, reduceIte, J0])
      | ((with_reducible refine hK _ _ ?_); clear hK)
      | (simp only [Q3, RA, Jn, Jm, Jp, Q2, Q0, ev, ofValue, Jt, J0, J3, J2, J4, reduceCtorEq, reduceIte, Ju, Qb, Qa, Jy, aun, Q9, Jk, Jh, Jx, Jw, Ji, Q8, Jf, Q1, Jr, Js, J1, J5, Ja, J9, Jb, J6, J7, Jd, J8, RB, Jv, Je, Ki, f1, f2, hcp, e1])
      | (simp (disch := first | omega | (simp only [RO]; done) | assumption) only [RS, X6, X7, Xs, Xq, Xr, Xp, X4, X0])
      | (simp (disch := (first | omega | (simp only [RO]; done) | assumption | (simp only [RM, Je]; done) | (simp only [RL, Je]; omega))) only [RD, reduceCtorEq, reduceIte, Je, J1, J3, J2, J6, Ki, f1, f2, hcp, e1])
    all_goals
      (
       (refine Qg (rs := [.cell 2 33, .tmp 3]) rfl ?_)
       (simp only [Qx, Qd, Fr.put_some, Fr.put_none, Qe, Qf, Qi, J0, reduceIte])
       (try simp (disch := (first | omega | (simp only [RO]; done) | assumption | (simp only [RM, Je]; done) | (simp only [RL, Je]; omega))) only [RD, reduceCtorEq, reduceIte, Je, J1, J3, J2, J6, Ki]))
    all_goals
      have hxx : ((x.natAbs : Nat) : Int) = x := by omega
      rw [hxx]
      exact ⟨((Ext.push _ _).pushed _).pushed _, Vu _ _ _, rfl⟩
end Go.Proofs.YtfalfmfkifemeaaGreatDoor
namespace Go.Proofs.YtfalfmfkifemeaaGreatDoor
open Go.AL Go.PW Go.PD
theorem Z7 : type_of% (Jc @Z8 (Jc @Xd (Jc @Xz (Jc @Xx (Jc @Xw (Jc @Xv (Jc @X1 (Jc @Xj (Jc @Za (Jc @Z9 (Jc @Vx (@W0)))))))))))) := Jc @Z8 (Jc @Xd (Jc @Xz (Jc @Xx (Jc @Xw (Jc @Xv (Jc @X1 (Jc @Xj (Jc @Za (Jc @Z9 (Jc @Vx (@W0)))))))))))
abbrev pn19_12RgF : Plan := (.one 0 (.one 1 (.one 2 (.one 3 (.one 4 (.one 5 (.one 6 (.one 7 (.one 8 (.one 9 (.one 10 (.one 11 (.one 12 (.one 13 (.one 14 (.one 15 .nil))))))))))))))))
abbrev pn19_20RgF : Plan := (.one 0 (.one 1 (.one 2 (.one 3 (.one 4 (.one 5 (.one 6 (.one 7 (.one 8 (.one 9 (.ext 10 (.one 11 (.one 12 .nil)))))))))))))
set_option maxRecDepth 8000
theorem outerB_put {H : Hp} {p : Nat} {vs : List AV} {t : Nat} {x : AV} (hg : Qt H p = some ⟨vs, .own, 49⟩) (ht : t < vs.length) (hx : x.one = true) : Ke Tryz.prog H 49 (.ptr p t) x = some (H.set p ⟨vs.set t x, .own, 49⟩) := by
  rw [Uc, hg]
  simp only [J0k]
  rw [if_pos ⟨trivial, AV.solid_one hx, by rw [AV.cells_one hx]; rfl, ht⟩, AV.cells_one hx]
  have := Wd (fun v : AV => v) vs x ht
  rw [List.map_id', List.map_id'] at this
  rw [this]
theorem DetB.turn {H H2 : Hp} {n k p q : Nat} {a rho : Nat → Nat → Int} {mn : Bool} {vs : List AV} {pss : List (List (Int × AV))} {t4 t5 : AV} (D : DetB H H2 n k p q a rho mn vs pss t4 t5) (hl : pss.length = n) :
    DetB H (H2.set q (BB (-(if mn then -1 else 1)) t4)) n k p q a rho (!mn) vs pss t4 t5 := by
  have lq := Qr D.q4
  have h2 := D.hp
  have hs : (if (!mn) then -1 else 1 : Int) = -(if mn then -1 else 1) := by cases mn <;> rfl
  exact ⟨D.M.other D.q4 (Uy _ _) _ (by omega) (fun i hi => by have := D.hv i (by omega); omega), D.hv, D.hp, by rw [Qk lq, if_neg (by omega)]; exact D.q2, by rw [Qk lq, if_pos rfl, hs], by rw [Qk lq, if_neg (by omega)]; exact D.q5, by rw [hs]; exact (D.T4.other D.q4 (Uy _ _) _).neg, D.T5.other D.q4 (Uy _ _) _, D.x.set (by omega) _⟩
theorem Bs_.nought (H : Hp) : Bs_ H .nilS 0 := ⟨⟨[], ⟨Rd.nil _ _, .inl rfl⟩, Can.nil, rfl⟩⟩
theorem swr_self (rho : Nat → Nat → Int) (k : Nat) : swr rho k k = rho := by
  funext l j; unfold swr; split
  · rename_i e; rw [e]
  · rfl
set_option maxHeartbeats 16000000 in
theorem RDet_calls (n : Nat) (xs : List Int) (a : AV) (H : Hp) (ha : Ints H .i64 a xs) (hr : Right n xs) : ACalls Tryz.prog 19 [Ya n a] H fun r H' => ∃ u, r = BV (P (ent n xs) n) u ∧ Bs_ H' u (P (ent n xs) n) ∧ Ext H H' := by
  have ha1 : a.one = true := ha.rd.one
  have hc : a.cells = [a] := AV.cells_one ha1
  obtain ⟨h8, hlx⟩ := hr.len
  have hB := Vi hr
  refine Q7 Tryz.func19 rfl (by kernel_rfl) (by kernel_rfl) ?_
  repeat' first
    | (with_reducible first | refine Jj (fun K hK => ?_) | refine Jg ?_)
    | (simp only [Q4, Jo, reduceIte, J0])
    | ((with_reducible refine hK _ _ ?_); clear hK)
    | (simp only [Q3, RA, Jn, Jm, Jp, Q2, Q0, ev, ofValue, Jt, J0, J3, J2, J4, reduceCtorEq, reduceIte, Ju, Qb, Qa, Jy, aun, Q9, Jk, Jh, Jx, Jw, Ji, Q8, Jf, Q1, Jr, Js, J1, J5, Ja, J9, Jb, J6, J7, Jd, J8, RB, Jv, Je, Z7])
    | (simp (disch := first | omega | (simp only [RO]; done) | assumption) only [RS, X8, X9, X6, X7, Ye, Yf, Vm, Vn, Qu, Qv, Qq, X4, X0])
    | (simp (disch := (first | omega | (simp only [RO]; done) | assumption | (simp only [RM, Je]; done) | (simp only [RL, Je]; omega))) only [RD, reduceCtorEq, reduceIte, Je, J1, J3, J2, J6, Z7])
  refine Jq (Rrows_calls n xs a 1 0 _ ((ha.push _).push _) hr (by omega) (by omega)) ?_
  rintro v H1 ⟨vs, pss, B, S, x0⟩
  rw [rv_ent] at S
  have lx0 := x0.len
  simp only [Qm] at lx0
  have g2 : Qt H1 (H.length + 1) = some (BB 0 .nilS) := Qh (Qo (by rw [Qm])) x0
  repeat' first
    | (with_reducible first | refine Jj (fun K hK => ?_) | refine Jg ?_)
    | (simp only [Q4, Jo, reduceIte, J0])
    | ((with_reducible refine hK _ _ ?_); clear hK)
    | (simp only [Q3, RA, Jn, Jm, Jp, Q2, Q0, ev, ofValue, Jt, J0, J3, J2, J4, reduceCtorEq, reduceIte, Ju, Qb, Qa, Jy, aun, Q9, Jk, Jh, Jx, Jw, Ji, Q8, Jf, Q1, Jr, Js, J1, J5, Ja, J9, Jb, J6, J7, Jd, J8, RB, Jv, Je, Z7])
  refine Jq (Of_calls 1 _ (by omega)) ?_
  rintro _ H2 ⟨t4, rfl, T4, x2⟩
  have lx2 := x2.len
  have o4 := T4.one
  have c4 := T4.cells
  repeat' first
    | (simp only [Q3, RA, Jn, Jm, Jp, Q2, Q0, ev, ofValue, Jt, J0, J3, J2, J4, reduceCtorEq, reduceIte, Ju, Qb, Qa, Jy, aun, Q9, Jk, Jh, Jx, Jw, Ji, Q8, Jf, Q1, Jr, Js, J1, J5, Ja, J9, Jb, J6, J7, Jd, J8, RB, Jv, Je, Z7])
  refine Jq (Of_calls 1 _ (by omega)) ?_
  rintro _ H3 ⟨t5, rfl, T5, x3⟩
  have lx3 := x3.len
  have o5 := T5.one
  have c5 := T5.cells
  repeat' first
    | (with_reducible first | refine Jj (fun K hK => ?_) | refine Qc ?_ | refine Jg ?_)
    | (simp only [Q4, Jo, reduceIte, J0])
    | ((with_reducible refine hK _ _ ?_); clear hK)
    | (simp only [Q3, RA, Jn, Jm, Jp, Q2, Q0, ev, ofValue, Jt, J0, J3, J2, J4, reduceCtorEq, reduceIte, Ju, Qb, Qa, Jy, aun, Q9, Jk, Jh, Jx, Jw, Ji, Q8, Jf, Q1, Jr, Js, J1, J5, Ja, J9, Jb, J6, J7, Jd, J8, RB, Jv, Je, Z7])
    | (simp (disch := first | omega | (simp only [RO]; done) | assumption) only [RS, X8, X9, X6, X7, Ye, Yf, Vm, Vn, Qu, Qv, Qq, X4, X0])
    | (simp (disch := (first | omega | (simp only [RO]; done) | assumption | (simp only [RM, Je]; done) | (simp only [RL, Je]; omega))) only [RD, reduceCtorEq, reduceIte, Je, J1, J3, J2, J6, Z7])
  have g4 : Qt (H3 ++ [BB 1 t4] ++ [BB 1 t5]) H3.length = some (BB 1 t4) := by rw [Qp (by rw [Qm]; omega), Qo rfl]
  have g5 : Qt (H3 ++ [BB 1 t4] ++ [BB 1 t5]) (H3.length + 1) = some (BB 1 t5) := Qo (by rw [Qm])
  have y0 : Ext H (H3 ++ [BB 1 t4] ++ [BB 1 t5]) := ((((((Ext.push _ _).pushed _).trans x0).trans x2).trans x3).pushed _).pushed _
  have g2' : Qt (H3 ++ [BB 1 t4] ++ [BB 1 t5]) (H.length + 1) = some (BB 0 .nilS) := Qh (Qh (Qh g2 x2) x3) ((Ext.push _ _).pushed _)
  have U4 : Bs_ (H3 ++ [BB 1 t4] ++ [BB 1 t5]) t4 1 := ((T4.ext x3).push _).push _
  have U5 : Bs_ (H3 ++ [BB 1 t4] ++ [BB 1 t5]) t5 1 := (T5.push _).push _
  cases B with
  | no hv hvs hps =>
    subst hv hvs hps
    have hn := S.len
    simp only [List.length_nil] at hn
    subst hn
    refine X2 (fun m fr' H4 => m = 0 ∧ fr' 2 = .ptr (H.length + 1) 0 ∧ fr' 3 = .nilS ∧ fr' 4 = .ptr H3.length 0 ∧ fr' 5 = .ptr (H3.length + 1) 0 ∧ fr' 6 = .int .i64 0 ∧ Qt H4 (H.length + 1) = some (BB 0 .nilS) ∧ Qt H4 H3.length = some (BB 1 t4) ∧ Qt H4 (H3.length + 1) = some (BB 1 t5) ∧ Bs_ H4 t4 1 ∧ Bs_ H4 t5 1 ∧ Ext H H4) (m := 0)
      ⟨rfl, rfl, rfl, rfl, rfl, rfl, g2', g4, g5, U4, U5, y0⟩ ?_
    rintro m fr' H4 ⟨rfl, k2, k3, k4, k5, k6, q2, q4, q5, T4, T5, x4⟩
    repeat' first
      | (with_reducible first | refine Jj (fun K hK => ?_) | refine Qz ?_ | refine Jg ?_ | refine Jz ?_)
      | (simp only [Q4, Jo, reduceIte, J0])
      | ((with_reducible refine hK _ _ ?_); clear hK)
      | (clear hK; (with_reducible refine hK _ _ ?_); clear hK)
      | (simp only [Q3, RA, Jn, Jm, Jp, Q2, Q0, ev, ofValue, Jt, J0, J3, J2, J4, reduceCtorEq, reduceIte, Ju, Qb, Qa, Jy, aun, Q9, Jk, Jh, Jx, Jw, Ji, Q8, Jf, Q1, Jr, Js, J1, J5, Ja, J9, Jb, J6, J7, Jd, J8, RB, Jv, Je, Z7, k2, k3, k4, k5, k6, q4, q5])
      | (simp (disch := (first | omega | (simp only [RO]; done) | assumption | (simp only [RM, Je]; done) | (simp only [RL, Je]; omega))) only [RD, reduceCtorEq, reduceIte, Je, J1, J3, J2, J6, Z7, k2, k3, k4, k5, k6, q4, q5])
    refine Jq (Rmul_calls 1 1 t4 t5 _ T4 T5 (Sm.int (by omega)) (Sm.int (by omega))) ?_
    rintro _ H5 ⟨u, rfl, U, x5⟩
    have q25 := Qh q2 x5
    have l25 := Qr q25
    have ou := U.one
    have cu := U.cells
    repeat' first
      | (with_reducible first | refine Qj ?_)
      | (simp only [Q4, Jo, reduceIte, J0])
      | ((with_reducible refine hK _ _ ?_); clear hK)
      | (simp only [Q3, RA, Jn, Jm, Jp, Q2, Q0, ev, ofValue, Jt, J0, J3, J2, J4, reduceCtorEq, reduceIte, Ju, Qb, Qa, Jy, aun, Q9, Jk, Jh, Jx, Jw, Ji, Q8, Jf, Q1, Jr, Js, J1, J5, Ja, J9, Jb, J6, J7, Jd, J8, RB, Jv, Je, Z7, k2, k3, k4, k5, k6, q25])
      | (simp (disch := first | omega | (simp only [RO]; done) | assumption) only [RS, X8, X9, X6, X7, Ye, Yf, Vm, Vn, Qu, Qv, Qq, X4, X0])
      | (simp (disch := (first | omega | (simp only [RO]; done) | assumption | (simp only [RM, Je]; done) | (simp only [RL, Je]; omega))) only [RD, reduceCtorEq, reduceIte, Je, J1, J3, J2, J6, Z7, k2, k3, k4, k5, k6, q25])
    all_goals
      (
       (refine Qg (rs := [.cell 2 46]) rfl ?_)
       (simp only [Qx, Qd, Fr.put_some, Fr.put_none, Qe, Qf, Qi, J0, reduceIte, k2, Qk l25])
       (try simp (disch := (first | omega | (simp only [RO]; done) | assumption | (simp only [RM, Je]; done) | (simp only [RL, Je]; omega))) only [RD, reduceCtorEq, reduceIte, Je, J1, J3, J2, J6, Z7, k2, Qk l25]))
    all_goals exact ⟨u, by rw [Kz]; rfl, by rw [Kz]; exact U.other q25 (Uy _ _) _, (x4.trans x5).set (by omega) _⟩
  | yes p hv M hp hvl hpos =>
    subst hv
    rw [S.len]
    have lp := Qr M.out
    have hrl : ∀ i, i < n → (vs.getD i .nilS).hd < H1.length := fun i hi => Qr (M.row i (by rw [S.len]; exact hi)).2
    simp only [Qm] at hp hvl
    have D0 : DetB H (H3 ++ [BB 1 t4] ++ [BB 1 t5]) n 0 p H3.length (ent n xs) (ent n xs) false vs pss t4 t5 :=
      ⟨(((M.ext x2).ext x3).push _).push _, fun i hi => ⟨hvl i (by rw [S.len]; exact hi), by have := hrl i hi; omega⟩, ⟨hp, by omega⟩, g2', g4, by rw [Kz]; exact g5, U4, by rw [Kz]; exact U5, y0⟩
    refine X2 (fun m fr' H4 => ∃ (k : Nat) (rho : Nat → Nat → Int) (mn : Bool) (vs : List AV) (pss : List (List (Int × AV))) (t4 t5 : AV), m = n - k ∧ k ≤ n ∧ fr' 2 = .ptr (H.length + 1) 0 ∧ fr' 3 = .sg p 0 n 1 ∧ fr' 4 = .ptr H3.length 0 ∧ fr' 5 = .ptr (H3.length + 1) 0 ∧ fr' 6 = .int .i64 (k : Int) ∧ Go.PD.Reach (ent n xs) n k rho mn ∧ StB n k rho pss ∧ DetB H H4 n k p H3.length (ent n xs) rho mn vs pss t4 t5) (m := n)
      ⟨0, ent n xs, false, vs, pss, t4, t5, by omega, by omega, rfl, rfl, rfl, rfl, rfl, .start, S, D0⟩ ?_
    clear M S D0 U4 U5 g2' y0 g5 g4 T5 T4 g2 hvl hpos lp hrl
    rintro m fr' H4 ⟨k, rho, mn, vs, pss, t4, t5, rfl, hk, k2, k3, k4, k5, k6, R, S, D⟩
    have e1 : IntKind.i64.wrap ((k : Int) + 1) = ((k + 1 : Nat) : Int) := by rw [Q5 (by omega) (by omega)]; omega
    by_cases hlt : k < n
    · skip
      refine Jj (fun K hQ => ?_)
      repeat' first
        | (with_reducible first | refine Jj (fun K hK => ?_) | refine Q6 ?_ | refine Jg ?_ | refine Jz ?_)
        | (with_reducible refine X5 (fun hc => ?_) (fun hc => ?_) <;> (try simp only [RC] at hc) <;> (try (exfalso; first | omega | contradiction)))
        | (simp only [Q4, Jo, reduceIte, J0])
        | ((with_reducible refine hK _ _ ?_); clear hK)
        | (simp only [Q3, RA, Jn, Jm, Jp, Q2, Q0, ev, ofValue, Jt, J0, J3, J2, J4, reduceCtorEq, reduceIte, Ju, Qb, Qa, Jy, aun, Q9, Jk, Jh, Jx, Jw, Ji, Q8, Jf, Q1, Jr, Js, J1, J5, Ja, J9, Jb, J6, J7, Jd, J8, RB, Jv, Je, Z7, k2, k3, k4, k5, k6])
      refine hQ _ _ ?_
      clear hQ
      refine Jj (fun K3 hK3 => ?_)
      refine Qc ?_
      refine Jj (fun K hQ => ?_)
      repeat' first
        | (with_reducible first | refine Jg ?_)
        | (simp only [Q4, Jo, reduceIte, J0])
        | (simp only [Q3, RA, Jn, Jm, Jp, Q2, Q0, ev, ofValue, Jt, J0, J3, J2, J4, reduceCtorEq, reduceIte, Ju, Qb, Qa, Jy, aun, Q9, Jk, Jh, Jx, Jw, Ji, Q8, Jf, Q1, Jr, Js, J1, J5, Ja, J9, Jb, J6, J7, Jd, J8, RB, Jv, Je, Z7, k2, k3, k4, k5, k6])
      refine hQ _ _ ?_
      clear hQ
      refine Jj (fun K4 hK4 => ?_)
      refine Qc ?_
      refine X2 (fun m fr' H5 => ∃ i : Nat, m = n - i ∧ k ≤ i ∧ i ≤ n ∧ fr' 2 = .ptr (H.length + 1) 0 ∧ fr' 3 = .sg p 0 n 1 ∧ fr' 4 = .ptr H3.length 0 ∧ fr' 5 = .ptr (H3.length + 1) 0 ∧ fr' 6 = .int .i64 (k : Int) ∧ fr' 7 = .int .i64 (i : Int) ∧ (∀ l, k ≤ l → l < i → d rho k l k = 0) ∧ H4 = H5) (m := n - k) ?_ ?_
      · exact ⟨k, rfl, by omega, by omega, k2, k3, k4, k5, k6, rfl, fun l h1 h2 => by omega, rfl⟩
      clear k2 k3 k4 k5 k6
      rintro m fr' H5 ⟨i, rfl, hki, hi, k2, k3, k4, k5, k6, k7, hz, rfl⟩
      have e7 : IntKind.i64.wrap ((i : Int) + 1) = ((i + 1 : Nat) : Int) := by rw [Q5 (by omega) (by omega)]; omega
      by_cases hin : i < n
      · have hil : i < pss.length := by rw [S.len]; exact hin
        have hkl : k < pss.length := by rw [S.len]; exact hlt
        have a0 := BMat.idx0 (p := p) (n := n) (k := .i64) (j := (i : Int)) (by omega) (by omega)
        have a1 := D.M.at0 hil
        have a2 := D.M.idx hil (k := .i64) (j := (k : Int)) (by omega) (by rw [S.wid i hin]; omega)
        have a3 := D.M.get hil (j := k) (by rw [S.wid i hin]; exact hlt)
        have Sb := D.M.big i k hil (by rw [S.wid i hin]; exact hlt)
        rw [Int.toNat_natCast] at a0 a2
        rw [S.get i k hki (Nat.le_refl _) hin hlt] at a3 Sb
        have hs := Sign_calls (d rho k i k) _ _ Sb
        have f1 : ((i : Int) = (n : Int)) = False := eq_false (by omega)
        repeat' first
          | (with_reducible first | refine Jj (fun K hK => ?_) | refine Qc ?_ | refine Q6 ?_ | refine Qz ?_ | refine Jg ?_ | refine Jz ?_)
          | ((with_reducible refine Jq (hs) ?_); rintro _ _ ⟨rfl, rfl⟩)
          | (with_reducible refine Qn (fun hc => ?_) (fun hc => ?_) <;> (try simp only [RC] at hc) <;> (try (exfalso; first | omega | contradiction)))
          | (with_reducible refine X5 (fun hc => ?_) (fun hc => ?_) <;> (try simp only [RC] at hc) <;> (try (exfalso; first | omega | contradiction)))
          | (simp only [Q4, Jo, reduceIte, J0])
          | ((with_reducible refine hK _ _ ?_); clear hK)
          | (simp only [Q3, RA, Jn, Jm, Jp, Q2, Q0, ev, ofValue, Jt, J0, J3, J2, J4, reduceCtorEq, reduceIte, Ju, Qb, Qa, Jy, aun, Q9, Jk, Jh, Jx, Jw, Ji, Q8, Jf, Q1, Jr, Js, J1, J5, Ja, J9, Jb, J6, J7, Jd, J8, RB, Jv, Je, Z7, k2, k3, k4, k5, k6, k7, a0, a1, a2, a3, e7])
          | (simp (disch := first | omega | (simp only [RO]; done) | assumption) only [RS, X8, X9, X6, X7, Ye, Yf, Vm, Vn, Qu, Qv, Qq, X4, X0])
        · have hx : d rho k i k = 0 := Int.sign_eq_zero_iff_zero.mp hc
          refine ⟨_, by omega, i + 1, rfl, by omega, by omega, rfl, fun l h1 h2 => ?_⟩
          by_cases e : l = i
          · rw [e]; exact hx
          · exact hz l h1 (by omega)
        · have hx : ¬ d rho k i k = 0 := fun h => hc (Int.sign_eq_zero_iff_zero.mpr h)
          clear hc
          refine hK4 _ _ ?_
          clear hK4
          refine Jj (fun K hQ => ?_)
          repeat' first
            | (with_reducible first | refine Jj (fun K hK => ?_) | refine Q6 ?_ | refine Jg ?_ | refine Jz ?_)
            | (simp only [Q4, Jo, reduceIte, J0])
            | ((with_reducible refine hK _ _ ?_); clear hK)
            | (simp only [Q3, RA, Jn, Jm, Jp, Q2, Q0, ev, ofValue, Jt, J0, J3, J2, J4, reduceCtorEq, reduceIte, Ju, Qb, Qa, Jy, aun, Q9, Jk, Jh, Jx, Jw, Ji, Q8, Jf, Q1, Jr, Js, J1, J5, Ja, J9, Jb, J6, J7, Jd, J8, RB, Jv, Je, Z7, k2, k3, k4, k5, k6, k7, f1])
          refine hQ _ _ ?_
          clear hQ
          refine Jj (fun K5 hK5 => ?_)
          refine Z6 (fun fr' H6 => ∃ (rho : Nat → Nat → Int) (mn : Bool) (vs : List AV) (pss : List (List (Int × AV))), fr' 2 = .ptr (H.length + 1) 0 ∧ fr' 3 = .sg p 0 n 1 ∧ fr' 4 = .ptr H3.length 0 ∧ fr' 5 = .ptr (H3.length + 1) 0 ∧ fr' 6 = .int .i64 (k : Int) ∧ Go.PD.Reach (ent n xs) n (k + 1) rho mn ∧ StB n k rho pss ∧ P rho k ≠ 0 ∧ DetB H H6 n k p H3.length (ent n xs) rho mn vs pss t4 t5) ?_ (fun fr' H6 h => hK5 _ _ ?_)
          · clear hK3 hK5
            have R' := R.step hki hin hx
            have S' := S.swap hki hin
            have ne' : P (swr rho k i) k ≠ 0 := by
              have := R.ne
              unfold P at this ⊢
              rwa [swr_low (Nat.le_refl _) hki]
            by_cases hik : i = k
            · have f2 : ((i : Int) = (k : Int)) = True := eq_true (by omega)
              subst hik
              rw [swr_self] at R' ne'
              have hb : (mn != decide (i ≠ i)) = mn := by simp
              rw [hb] at R'
              repeat' first
                | (with_reducible first | refine Jj (fun K hK => ?_) | refine Q6 ?_ | refine Jg ?_ | refine Jz ?_)
                | (simp only [Q4, Jo, reduceIte, J0])
                | ((with_reducible refine hK _ _ ?_); clear hK)
                | (simp only [Q3, RA, Jn, Jm, Jp, Q2, Q0, ev, ofValue, Jt, J0, J3, J2, J4, reduceCtorEq, reduceIte, Ju, Qb, Qa, Jy, aun, Q9, Jk, Jh, Jx, Jw, Ji, Q8, Jf, Q1, Jr, Js, J1, J5, Ja, J9, Jb, J6, J7, Jd, J8, RB, Jv, Je, Z7, k2, k3, k4, k5, k6, k7, f2])
              exact ⟨rho, mn, vs, pss, R', S, ne', D⟩
            · have f2 : ((i : Int) = (k : Int)) = False := eq_false (by omega)
              have b0 := BMat.idx0 (p := p) (n := n) (k := .i64) (j := (k : Int)) (by omega) (by omega)
              rw [Int.toNat_natCast] at b0
              have b1 := D.M.at0 hkl
              have hml := D.M.len
              have lp := Qr D.M.out
              have hv1 : (vs.getD k .nilS).one = true := by rw [(D.M.row k hkl).1]; rfl
              have hv2 : (vs.getD i .nilS).one = true := by rw [(D.M.row i hil).1]; rfl
              have o1 := outerB_put (t := i) (x := vs.getD k .nilS) D.M.out (by omega) hv1
              have o2 : Ke Tryz.prog (H4.set p ⟨vs.set i (vs.getD k .nilS), .own, 49⟩) 49 (.ptr p k) (vs.getD i .nilS) = some (H4.set p ⟨swp .nilS vs k i, .own, 49⟩) := by
                rw [outerB_put (vs := vs.set i (vs.getD k .nilS)) (by rw [Qk lp, if_pos rfl]) (by rw [List.length_set]; omega) hv2, List.set_set]; rfl
              have D1 := D.swap S.len hlt hki hin
              have D2 := D1.turn (by rw [Y9]; exact S.len)
              have hb : (mn != decide (i ≠ k)) = !mn := by cases mn <;> simp [hik]
              rw [hb] at R'
              have hng := Neg_calls _ _ _ D1.T4
              have g4 := D1.q4
              have ou := D1.T4.one
              have cu := D1.T4.cells
              generalize (if mn = true then (-1 : Int) else 1) = sg at *
              repeat' first
                | (with_reducible first | refine Jj (fun K hK => ?_) | refine Jg ?_ | refine Qw (id := 12) [] pn19_12RgF (by kernel_rfl) (by kernel_rfl) ?_ | refine Jz ?_)
                | ((with_reducible refine Jq (hng) ?_); rintro _ _ ⟨rfl, rfl⟩)
                | (simp only [Q4, Jo, reduceIte, J0])
                | ((with_reducible refine hK _ _ ?_); clear hK)
                | (simp only [Q3, RA, Jn, Jm, Jp, Q2, Q0, ev, ofValue, Jt, J0, J3, J2, J4, reduceCtorEq, reduceIte, Ju, Qb, Qa, Jy, aun, Q9, Jk, Jh, Jx, Jw, Ji, Q8, Jf, Q1, Jr, Js, J1, J5, Ja, J9, Jb, J6, J7, Jd, J8, RB, Jv, Je, Z7, k2, k3, k4, k5, k6, k7, f2, a0, a1, b0, b1, o1, o2, g4, ou, cu])
                | (simp (disch := (first | omega | (simp only [RO]; done) | assumption | (simp only [RM, Je]; done) | (simp only [RL, Je]; omega))) only [RD, reduceCtorEq, reduceIte, Je, J1, J3, J2, J6, Z7, k2, k3, k4, k5, k6, k7, f2, a0, a1, b0, b1, o1, o2, g4, ou, cu])
              all_goals exact ⟨_, _, _, _, R', S', ne', D2⟩
          clear hK5 k2 k3 k4 k5 k6 k7 R S D a1 a3 Sb hs hx hz hil hkl
          obtain ⟨rho, mn, vs, pss, k2, k3, k4, k5, k6, R, S, hne, D⟩ := h
          have hB' := R.bound hB
          refine Jj (fun K6 hK6 => ?_)
          repeat' first
            | (with_reducible first | refine Jj (fun K hK => ?_) | refine Qc ?_ | refine Jg ?_)
            | (simp only [Q4, Jo, reduceIte, J0])
            | ((with_reducible refine hK _ _ ?_); clear hK)
            | (simp only [Q3, RA, Jn, Jm, Jp, Q2, Q0, ev, ofValue, Jt, J0, J3, J2, J4, reduceCtorEq, reduceIte, Ju, Qb, Qa, Jy, aun, Q9, Jk, Jh, Jx, Jw, Ji, Q8, Jf, Q1, Jr, Js, J1, J5, Ja, J9, Jb, J6, J7, Jd, J8, RB, Jv, Je, Z7, k2, k3, k4, k5, k6, e1])
          clear hin hki hi
          refine X2 (fun m fr' H7 => ∃ (i : Nat) (pss : List (List (Int × AV))), m = n - i ∧ k < i ∧ i ≤ n ∧ fr' 2 = .ptr (H.length + 1) 0 ∧ fr' 3 = .sg p 0 n 1 ∧ fr' 4 = .ptr H3.length 0 ∧ fr' 5 = .ptr (H3.length + 1) 0 ∧ fr' 6 = .int .i64 (k : Int) ∧ fr' 8 = .int .i64 (i : Int) ∧ StM n k i (k + 1) rho pss ∧ DetB H H7 n k p H3.length (ent n xs) rho mn vs pss t4 t5) (m := n - (k + 1))
            ⟨k + 1, pss, rfl, by omega, by omega, k2, k3, k4, k5, k6, rfl, S.mid, D⟩ ?_
          clear k2 k3 k4 k5 k6 S D
          rintro m fr' H7 ⟨i, pss, rfl, hki, hi, k2, k3, k4, k5, k6, k8, S, D⟩
          have e8 : IntKind.i64.wrap ((i : Int) + 1) = ((i + 1 : Nat) : Int) := by rw [Q5 (by omega) (by omega)]; omega
          by_cases hin : i < n
          · skip
            refine Jj (fun K hQ => ?_)
            repeat' first
              | (with_reducible first | refine Jj (fun K hK => ?_) | refine Q6 ?_ | refine Jg ?_ | refine Jz ?_)
              | (with_reducible refine X5 (fun hc => ?_) (fun hc => ?_) <;> (try simp only [RC] at hc) <;> (try (exfalso; first | omega | contradiction)))
              | (simp only [Q4, Jo, reduceIte, J0])
              | ((with_reducible refine hK _ _ ?_); clear hK)
              | (simp only [Q3, RA, Jn, Jm, Jp, Q2, Q0, ev, ofValue, Jt, J0, J3, J2, J4, reduceCtorEq, reduceIte, Ju, Qb, Qa, Jy, aun, Q9, Jk, Jh, Jx, Jw, Ji, Q8, Jf, Q1, Jr, Js, J1, J5, Ja, J9, Jb, J6, J7, Jd, J8, RB, Jv, Je, Z7, k2, k3, k4, k5, k6, k8])
            refine hQ _ _ ?_
            clear hQ
            refine Jj (fun K7 hK7 => ?_)
            refine Qc ?_
            repeat' first
              | (with_reducible first | refine Jj (fun K hK => ?_) | refine Qc ?_ | refine Jg ?_)
              | (simp only [Q4, Jo, reduceIte, J0])
              | ((with_reducible refine hK _ _ ?_); clear hK)
              | (simp only [Q3, RA, Jn, Jm, Jp, Q2, Q0, ev, ofValue, Jt, J0, J3, J2, J4, reduceCtorEq, reduceIte, Ju, Qb, Qa, Jy, aun, Q9, Jk, Jh, Jx, Jw, Ji, Q8, Jf, Q1, Jr, Js, J1, J5, Ja, J9, Jb, J6, J7, Jd, J8, RB, Jv, Je, Z7, k2, k3, k4, k5, k6, k8, e1])
            refine X2 (fun m fr' H8 => ∃ (j : Nat) (pss : List (List (Int × AV))), m = n - j ∧ k < j ∧ j ≤ n ∧ fr' 2 = .ptr (H.length + 1) 0 ∧ fr' 3 = .sg p 0 n 1 ∧ fr' 4 = .ptr H3.length 0 ∧ fr' 5 = .ptr (H3.length + 1) 0 ∧ fr' 6 = .int .i64 (k : Int) ∧ fr' 8 = .int .i64 (i : Int) ∧ fr' 9 = .int .i64 (j : Int) ∧ StM n k i j rho pss ∧ DetB H H8 n k p H3.length (ent n xs) rho mn vs pss t4 t5) (m := n - (k + 1))
              ⟨k + 1, pss, rfl, by omega, by omega, k2, k3, k4, k5, k6, k8, rfl, S, D⟩ ?_
            clear k2 k3 k4 k5 k6 k8 S D pss
            rintro m fr' H8 ⟨j, pss, rfl, hkj, hj, k2, k3, k4, k5, k6, k8, k9, S, D⟩
            have e9 : IntKind.i64.wrap ((j : Int) + 1) = ((j + 1 : Nat) : Int) := by rw [Q5 (by omega) (by omega)]; omega
            by_cases hjn : j < n
            · have hil : i < pss.length := by rw [S.len]; exact hin
              have hjl : j < (pss.getD i []).length := by rw [S.wid i hin]; exact hjn
              have a0 := BMat.idx0 (p := p) (n := n) (k := .i64) (j := (i : Int)) (by omega) (by omega)
              have a1 := D.M.at0 hil
              have a2 := D.M.idx hil (k := .i64) (j := (j : Int)) (by omega) (by omega)
              rw [Int.toNat_natCast] at a0 a2
              have q5 := D.q5
              repeat' first
                | (with_reducible first | refine Jj (fun K hK => ?_) | refine Qc ?_ | refine Q6 ?_ | refine Jg ?_ | refine Qw (id := 20) [10] pn19_20RgF (by kernel_rfl) (by kernel_rfl) ?_ | refine Jz ?_ | refine Z1 ?_)
                | (with_reducible refine X5 (fun hc => ?_) (fun hc => ?_) <;> (try simp only [RC] at hc) <;> (try (exfalso; first | omega | contradiction)))
                | (simp only [Q4, Jo, reduceIte, J0])
                | ((with_reducible refine hK _ _ ?_); clear hK)
                | (simp only [Q3, RA, Jn, Jm, Jp, Q2, Q0, ev, ofValue, Jt, J0, J3, J2, J4, reduceCtorEq, reduceIte, Ju, Qb, Qa, Jy, aun, Q9, Jk, Jh, Jx, Jw, Ji, Q8, Jf, Q1, Jr, Js, J1, J5, Ja, J9, Jb, J6, J7, Jd, J8, RB, Jv, Je, Z7, k2, k3, k4, k5, k6, k8, k9, a0, a1, a2, q5])
                | (simp (disch := (first | omega | (simp only [RO]; done) | assumption | (simp only [RM, Je]; done) | (simp only [RL, Je]; omega))) only [RD, reduceCtorEq, reduceIte, Je, J1, J3, J2, J6, Z7, k2, k3, k4, k5, k6, k8, k9, a0, a1, a2, q5])
              all_goals
                refine Xi (Rstep_d p n k i j rho vs pss t5 H8 D.M S h8 hki hkj hin hjn D.T5 hne hB') ?_
                rintro _ H9 ⟨u, rfl, U, x9⟩
                refine ⟨x9, ?_⟩
                have D9 := D.ext x9
                have a3 := D9.M.put (x := d rho (k + 1) i j) hil hjl U.one
                repeat' first
                  | (with_reducible first | refine Jg ?_)
                  | (simp only [Q4, Jo, reduceIte, J0])
                  | ((with_reducible refine hK _ _ ?_); clear hK)
                  | (simp only [Q3, RA, Jn, Jm, Jp, Q2, Q0, ev, ofValue, Jt, J0, J3, J2, J4, reduceCtorEq, reduceIte, Ju, Qb, Qa, Jy, aun, Q9, Jk, Jh, Jx, Jw, Ji, Q8, Jf, Q1, Jr, Js, J1, J5, Ja, J9, Jb, J6, J7, Jd, J8, RB, Jv, Je, Z7, k2, k3, k4, k5, k6, k8, k9, a2, a3, e9])
              all_goals
                exact ⟨_, by omega, j + 1, _, rfl, by omega, by omega, rfl, S.set hki hkj hin hjn u, D9.set hin hil hjl U⟩
            · obtain rfl : j = n := by omega
              repeat' first
                | (with_reducible first | refine Jj (fun K hK => ?_) | refine Qz ?_ | refine Jg ?_ | refine Jz ?_)
                | (with_reducible refine X5 (fun hc => ?_) (fun hc => ?_) <;> (try simp only [RC] at hc) <;> (try (exfalso; first | omega | contradiction)))
                | (simp only [Q4, Jo, reduceIte, J0])
                | ((with_reducible refine hK _ _ ?_); clear hK)
                | (simp only [Q3, RA, Jn, Jm, Jp, Q2, Q0, ev, ofValue, Jt, J0, J3, J2, J4, reduceCtorEq, reduceIte, Ju, Qb, Qa, Jy, aun, Q9, Jk, Jh, Jx, Jw, Ji, Q8, Jf, Q1, Jr, Js, J1, J5, Ja, J9, Jb, J6, J7, Jd, J8, RB, Jv, Je, Z7, k2, k3, k4, k5, k6, k8, k9])
              refine hK7 _ _ ?_
              repeat' first
                | (with_reducible first | refine Jg ?_)
                | (simp only [Q4, Jo, reduceIte, J0])
                | (simp only [Q3, RA, Jn, Jm, Jp, Q2, Q0, ev, ofValue, Jt, J0, J3, J2, J4, reduceCtorEq, reduceIte, Ju, Qb, Qa, Jy, aun, Q9, Jk, Jh, Jx, Jw, Ji, Q8, Jf, Q1, Jr, Js, J1, J5, Ja, J9, Jb, J6, J7, Jd, J8, RB, Jv, Je, Z7, k2, k3, k4, k5, k6, k8, e8])
              exact ⟨_, by omega, i + 1, pss, rfl, by omega, by omega, rfl, S.row, D⟩
          · obtain rfl : i = n := by omega
            repeat' first
              | (with_reducible first | refine Jj (fun K hK => ?_) | refine Qz ?_ | refine Jg ?_ | refine Jz ?_)
              | (with_reducible refine X5 (fun hc => ?_) (fun hc => ?_) <;> (try simp only [RC] at hc) <;> (try (exfalso; first | omega | contradiction)))
              | (simp only [Q4, Jo, reduceIte, J0])
              | ((with_reducible refine hK _ _ ?_); clear hK)
              | (simp only [Q3, RA, Jn, Jm, Jp, Q2, Q0, ev, ofValue, Jt, J0, J3, J2, J4, reduceCtorEq, reduceIte, Ju, Qb, Qa, Jy, aun, Q9, Jk, Jh, Jx, Jw, Ji, Q8, Jf, Q1, Jr, Js, J1, J5, Ja, J9, Jb, J6, J7, Jd, J8, RB, Jv, Je, Z7, k2, k3, k4, k5, k6, k8])
            refine hK6 _ _ ?_
            have hkl : k < pss.length := by rw [S.len]; exact hlt
            have hP : ((pss.getD k []).getD k (0, .nilS)).1 = P rho (k + 1) := by rw [S.get k k (Nat.le_refl _) (Nat.le_refl _) hlt hlt, Kf]; unfold midB; rw [if_neg (by omega)]
            have a0 := BMat.idx0 (p := p) (n := i) (k := .i64) (j := (k : Int)) (by omega) (by omega)
            have a1 := D.M.at0 hkl
            have a2 := D.M.idx hkl (k := .i64) (j := (k : Int)) (by omega) (by rw [S.wid k hlt]; omega)
            have a3 := D.M.get hkl (j := k) (by rw [S.wid k hlt]; exact hlt)
            have Sb := D.M.big k k hkl (by rw [S.wid k hlt]; exact hlt)
            rw [Int.toNat_natCast] at a0 a2
            obtain ⟨s', hs'⟩ : ∃ s', s' = ((pss.getD k []).getD k (0, .nilS)).2 := ⟨_, rfl⟩
            rw [hP, ← hs'] at a3 Sb
            have os' := Sb.one
            have cs' := Sb.cells
            have q5 := D.q5
            repeat' first
              | (with_reducible first | refine Jg ?_)
              | (simp only [Q4, Jo, reduceIte, J0])
              | (simp only [Q3, RA, Jn, Jm, Jp, Q2, Q0, ev, ofValue, Jt, J0, J3, J2, J4, reduceCtorEq, reduceIte, Ju, Qb, Qa, Jy, aun, Q9, Jk, Jh, Jx, Jw, Ji, Q8, Jf, Q1, Jr, Js, J1, J5, Ja, J9, Jb, J6, J7, Jd, J8, RB, Jv, Je, Z7, k2, k3, k4, k5, k6, k8, a0, a1, a2, a3, q5, os', cs'])
              | (simp (disch := (first | omega | (simp only [RO]; done) | assumption | (simp only [RM, Je]; done) | (simp only [RL, Je]; omega))) only [RD, reduceCtorEq, reduceIte, Je, J1, J3, J2, J6, Z7, k2, k3, k4, k5, k6, k8, a0, a1, a2, a3, q5, os', cs'])
            refine hK3 _ _ ?_
            repeat' first
              | (with_reducible first | refine Jg ?_)
              | (simp only [Q4, Jo, reduceIte, J0])
              | (simp only [Q3, RA, Jn, Jm, Jp, Q2, Q0, ev, ofValue, Jt, J0, J3, J2, J4, reduceCtorEq, reduceIte, Ju, Qb, Qa, Jy, aun, Q9, Jk, Jh, Jx, Jw, Ji, Q8, Jf, Q1, Jr, Js, J1, J5, Ja, J9, Jb, J6, J7, Jd, J8, RB, Jv, Je, Z7, k2, k3, k4, k5, k6, e1])
            exact ⟨_, by omega, k + 1, rho, mn, vs, pss, t4, s', rfl, by omega, rfl, R, S.done, D.next S.len Sb⟩
      · obtain rfl : i = n := by omega
        have f1 : ((i : Int) = (i : Int)) = True := eq_true rfl
        repeat' first
          | (with_reducible first | refine Jj (fun K hK => ?_) | refine Qz ?_ | refine Jg ?_ | refine Jz ?_)
          | (with_reducible refine Qn (fun hc => ?_) (fun hc => ?_) <;> (try simp only [RC] at hc) <;> (try (exfalso; first | omega | contradiction)))
          | (with_reducible refine X5 (fun hc => ?_) (fun hc => ?_) <;> (try simp only [RC] at hc) <;> (try (exfalso; first | omega | contradiction)))
          | (simp only [Q4, Jo, reduceIte, J0])
          | ((with_reducible refine hK _ _ ?_); clear hK)
          | (simp only [Q3, RA, Jn, Jm, Jp, Q2, Q0, ev, ofValue, Jt, J0, J3, J2, J4, reduceCtorEq, reduceIte, Ju, Qb, Qa, Jy, aun, Q9, Jk, Jh, Jx, Jw, Ji, Q8, Jf, Q1, Jr, Js, J1, J5, Ja, J9, Jb, J6, J7, Jd, J8, RB, Jv, Je, Z7, k2, k3, k4, k5, k6, k7])
          | (simp (disch := first | omega | (simp only [RO]; done) | assumption) only [RS, X8, X9, X6, X7, Ye, Yf, Vm, Vn, Qu, Qv, Qq, X4, X0])
        refine hK4 _ _ ?_
        have l2 := Qr D.q2
        repeat' first
          | (with_reducible first | refine Jj (fun K hK => ?_) | refine Qj ?_ | refine Jg ?_ | refine Jz ?_)
          | (simp only [Q4, Jo, reduceIte, J0])
          | ((with_reducible refine hK _ _ ?_); clear hK)
          | (simp only [Q3, RA, Jn, Jm, Jp, Q2, Q0, ev, ofValue, Jt, J0, J3, J2, J4, reduceCtorEq, reduceIte, Ju, Qb, Qa, Jy, aun, Q9, Jk, Jh, Jx, Jw, Ji, Q8, Jf, Q1, Jr, Js, J1, J5, Ja, J9, Jb, J6, J7, Jd, J8, RB, Jv, Je, Z7, k2, k3, k4, k5, k6, k7, D.q2])
          | (simp (disch := first | omega | (simp only [RO]; done) | assumption) only [RS, X8, X9, X6, X7, Ye, Yf, Vm, Vn, Qu, Qv, Qq, X4, X0])
          | (simp (disch := (first | omega | (simp only [RO]; done) | assumption | (simp only [RM, Je]; done) | (simp only [RL, Je]; omega))) only [RD, reduceCtorEq, reduceIte, Je, J1, J3, J2, J6, Z7, k2, k3, k4, k5, k6, k7, D.q2])
        all_goals
          (
           (refine Qg (rs := [.cell 2 46]) rfl ?_)
           (simp only [Qx, Qd, Fr.put_some, Fr.put_none, Qe, Qf, Qi, J0, reduceIte, k2, Qk l2])
           (try simp (disch := (first | omega | (simp only [RO]; done) | assumption | (simp only [RM, Je]; done) | (simp only [RL, Je]; omega))) only [RD, reduceCtorEq, reduceIte, Je, J1, J3, J2, J6, Z7, k2, Qk l2]))
        all_goals exact ⟨.nilS, by rw [R.stuck hlt hz]; rfl, by rw [R.stuck hlt hz]; exact Bs_.nought _, D.x.set (by omega) _⟩
    · obtain rfl : k = n := by omega
      have hdet := R.det
      have q4 := D.q4
      have q5 := D.q5
      repeat' first
        | (with_reducible first | refine Jj (fun K hK => ?_) | refine Qz ?_ | refine Jg ?_ | refine Jz ?_)
        | (with_reducible refine X5 (fun hc => ?_) (fun hc => ?_) <;> (try simp only [RC] at hc) <;> (try (exfalso; first | omega | contradiction)))
        | (simp only [Q4, Jo, reduceIte, J0])
        | ((with_reducible refine hK _ _ ?_); clear hK)
        | (clear hK; (with_reducible refine hK _ _ ?_); clear hK)
        | (simp only [Q3, RA, Jn, Jm, Jp, Q2, Q0, ev, ofValue, Jt, J0, J3, J2, J4, reduceCtorEq, reduceIte, Ju, Qb, Qa, Jy, aun, Q9, Jk, Jh, Jx, Jw, Ji, Q8, Jf, Q1, Jr, Js, J1, J5, Ja, J9, Jb, J6, J7, Jd, J8, RB, Jv, Je, Z7, k2, k3, k4, k5, k6, q4, q5])
        | (simp (disch := (first | omega | (simp only [RO]; done) | assumption | (simp only [RM, Je]; done) | (simp only [RL, Je]; omega))) only [RD, reduceCtorEq, reduceIte, Je, J1, J3, J2, J6, Z7, k2, k3, k4, k5, k6, q4, q5])
      refine Jq (Rmul_calls _ _ t4 t5 _ D.T4 D.T5 (by cases mn <;> exact Sm.int (by decide)) (Ro (Kp (R.bound hB) (by omega)))) ?_
      rintro _ H5 ⟨u, rfl, U, x5⟩
      have hz : (if mn = true then (-1 : Int) else 1) * P rho k = P (ent k xs) k := by rw [hdet]; cases mn <;> simp
      rw [hz] at U
      rw [hz]
      have q25 := Qh D.q2 x5
      have l25 := Qr q25
      have ou := U.one
      have cu := U.cells
      repeat' first
        | (with_reducible first | refine Qj ?_)
        | (simp only [Q4, Jo, reduceIte, J0])
        | ((with_reducible refine hK _ _ ?_); clear hK)
        | (simp only [Q3, RA, Jn, Jm, Jp, Q2, Q0, ev, ofValue, Jt, J0, J3, J2, J4, reduceCtorEq, reduceIte, Ju, Qb, Qa, Jy, aun, Q9, Jk, Jh, Jx, Jw, Ji, Q8, Jf, Q1, Jr, Js, J1, J5, Ja, J9, Jb, J6, J7, Jd, J8, RB, Jv, Je, Z7, k2, k3, k4, k5, k6, q25])
        | (simp (disch := first | omega | (simp only [RO]; done) | assumption) only [RS, X8, X9, X6, X7, Ye, Yf, Vm, Vn, Qu, Qv, Qq, X4, X0])
        | (simp (disch := (first | omega | (simp only [RO]; done) | assumption | (simp only [RM, Je]; done) | (simp only [RL, Je]; omega))) only [RD, reduceCtorEq, reduceIte, Je, J1, J3, J2, J6, Z7, k2, k3, k4, k5, k6, q25])
      all_goals
        (
         (refine Qg (rs := [.cell 2 46]) rfl ?_)
         (simp only [Qx, Qd, Fr.put_some, Fr.put_none, Qe, Qf, Qi, J0, reduceIte, k2, Qk l25])
         (try simp (disch := (first | omega | (simp only [RO]; done) | assumption | (simp only [RM, Je]; done) | (simp only [RL, Je]; omega))) only [RD, reduceCtorEq, reduceIte, Je, J1, J3, J2, J6, Z7, k2, Qk l25]))
      all_goals exact ⟨u, rfl, U.other q25 (Uy _ _) _, (D.x.trans x5).set (by omega) _⟩
end Go.Proofs.YtfalfmfkifemeaaGreatDoor
namespace Go.Proofs.YtfalfmfkifemeaaGreatDoor
open Go.AL Go.PW Go.PD
theorem tf21RgG : type_of% (Jc @Z8 (Jc @Xd (Jc @Xz (Jc @Xx (Jc @Xw (Jc @Xv (Jc @X1 (Jc @Xj (Jc @Za (Jc @Z9 (Jc @Vx (@W0)))))))))))) := Jc @Z8 (Jc @Xd (Jc @Xz (Jc @Xx (Jc @Xw (Jc @Xv (Jc @X1 (Jc @Xj (Jc @Za (Jc @Z9 (Jc @Vx (@W0)))))))))))
theorem Gp : type_of% (Jc @Z8 (Jc @Xd (Jc @Xz (Jc @Xx (Jc @Xw (Jc @Xv (Jc @X1 (Jc @Xj (Jc @Za (Jc @Z9 (Jc @Vx (@W0)))))))))))) := Jc @Z8 (Jc @Xd (Jc @Xz (Jc @Xx (Jc @Xw (Jc @Xv (Jc @X1 (Jc @Xj (Jc @Za (Jc @Z9 (Jc @Vx (@W0)))))))))))
set_option maxRecDepth 8000
set_option maxHeartbeats 4000000 in
theorem RMinors_calls (n : Nat) (xs : List Int) (a : AV) (H : Hp) (ha : Ints H .i64 a xs) (hr : Right n xs) : ACalls Tryz.prog 21 [Ya n a] H fun r H' => ∃ l, BsV H' r l H.length ∧ l.map Prod.fst = Yn (ent n xs) n 0 ∧ Ext H H' := by
  have ha1 : a.one = true := ha.rd.one
  have hc : a.cells = [a] := AV.cells_one ha1
  obtain ⟨h8, hlx⟩ := hr.len
  have hB := Vi hr
  refine Q7 Tryz.func21 rfl (by kernel_rfl) (by kernel_rfl) ?_
  repeat' first
    | (with_reducible first | refine Jj (fun K hK => ?_) | refine Jg ?_)
    | (simp only [Q4, Jo, reduceIte, J0])
    | ((with_reducible refine hK _ _ ?_); clear hK)
    | (simp only [Q3, RA, Jn, Jm, Jp, Q2, Q0, ev, ofValue, Jt, J0, J3, J2, J4, reduceCtorEq, reduceIte, Ju, Qb, Qa, Jy, aun, Q9, Jk, Jh, Jx, Jw, Ji, Q8, Jf, Q1, Jr, Js, J1, J5, Ja, J9, Jb, J6, J7, Jd, J8, RB, Jv, Je, tf21RgG])
    | (simp (disch := first | omega | (simp only [RO]; done) | assumption) only [RS, X8, X9, X6, X7, Ye, Yf, Vm, Vn, Qu, Qv, Qq, X4, X0])
    | (simp (disch := (first | omega | (simp only [RO]; done) | assumption | (simp only [RM, Je]; done) | (simp only [RL, Je]; omega))) only [RD, reduceCtorEq, reduceIte, Je, J1, J3, J2, J6, tf21RgG])
  refine Jq (Rrows_calls n xs a 1 0 _ (ha.push _) hr (by omega) (by omega)) ?_
  rintro v H1 ⟨vs, pss, B, S, x0⟩
  rw [rv_ent] at S
  have l1 := x0.len
  simp only [Qm] at l1
  repeat' first
    | (simp only [Q3, RA, Jn, Jm, Jp, Q2, Q0, ev, ofValue, Jt, J0, J3, J2, J4, reduceCtorEq, reduceIte, Ju, Qb, Qa, Jy, aun, Q9, Jk, Jh, Jx, Jw, Ji, Q8, Jf, Q1, Jr, Js, J1, J5, Ja, J9, Jb, J6, J7, Jd, J8, RB, Jv, Je, tf21RgG])
  refine Jq (Rminors_any n (ent n xs) v vs pss _ H1 B S h8 hB) ?_
  rintro w H2 ⟨l, V, hle, O⟩
  have x2 := B.toExt S.len (H0 := H) (by rw [Qm]; omega) ((Ext.push _ _).trans x0) O
  repeat' first
    | (with_reducible first | refine Qj ?_)
    | (simp only [Q4, Jo, reduceIte, J0])
    | ((with_reducible refine hK _ _ ?_); clear hK)
    | (simp only [Q3, RA, Jn, Jm, Jp, Q2, Q0, ev, ofValue, Jt, J0, J3, J2, J4, reduceCtorEq, reduceIte, Ju, Qb, Qa, Jy, aun, Q9, Jk, Jh, Jx, Jw, Ji, Q8, Jf, Q1, Jr, Js, J1, J5, Ja, J9, Jb, J6, J7, Jd, J8, RB, Jv, Je, tf21RgG])
  (
   (refine Qg (rs := [.tmp 2]) rfl ?_)
   (simp only [Qx, Qd, Fr.put_some, Fr.put_none, Qe, Qf, Qi, J0, reduceIte])
   (try simp (disch := (first | omega | (simp only [RO]; done) | assumption | (simp only [RM, Je]; done) | (simp only [RL, Je]; omega))) only [RD, reduceCtorEq, reduceIte, Je, J1, J3, J2, J6, tf21RgG]))
  exact ⟨l, V.low (by omega), hle, x2⟩
set_option maxHeartbeats 4000000 in
theorem RDefinite_calls (n : Nat) (xs : List Int) (a : AV) (H : Hp) (ha : Ints H .i64 a xs) (hr : Right n xs) : ACalls Tryz.prog 22 [Ya n a] H fun r H' => r = .bool (Ks (ent n xs) n) ∧ H = H' := by
  refine ACalls.drop (R := fun r => r = .bool (Ks (ent n xs) n)) ?_
  have ha1 : a.one = true := ha.rd.one
  have hc : a.cells = [a] := AV.cells_one ha1
  obtain ⟨h8, hlx⟩ := hr.len
  have hd : decide (Right n xs) = true := decide_eq_true hr
  have hB := Vi hr
  refine Q7 Tryz.func22 rfl (by kernel_rfl) (by kernel_rfl) ?_
  repeat' first
    | (with_reducible first | refine Jj (fun K hK => ?_) | refine Jg ?_)
    | ((with_reducible refine Jq (symRight_calls _ _ _ _ (ha.push _) hlx) ?_); rintro _ _ ⟨rfl, rfl⟩)
    | (simp only [Q4, Jo, reduceIte, J0])
    | ((with_reducible refine hK _ _ ?_); clear hK)
    | (simp only [Q3, RA, Jn, Jm, Jp, Q2, Q0, ev, ofValue, Jt, J0, J3, J2, J4, reduceCtorEq, reduceIte, Ju, Qb, Qa, Jy, aun, Q9, Jk, Jh, Jx, Jw, Ji, Q8, Jf, Q1, Jr, Js, J1, J5, Ja, J9, Jb, J6, J7, Jd, J8, RB, Jv, Je, Gp, hd])
    | (simp (disch := first | omega | (simp only [RO]; done) | assumption) only [RS, X8, X9, X6, X7, Ye, Yf, Vm, Vn, Qu, Qv, Qq, X4, X0])
    | (simp (disch := (first | omega | (simp only [RO]; done) | assumption | (simp only [RM, Je]; done) | (simp only [RL, Je]; omega))) only [RD, reduceCtorEq, reduceIte, Je, J1, J3, J2, J6, Gp, hd])
  all_goals
    refine Jq (Rrows_calls n xs a 1 0 _ (ha.push _) hr (by omega) (by omega)) ?_
    rintro v H1 ⟨vs, pss, B, S, x0⟩
    rw [rv_ent] at S
    repeat' first
      | (simp only [Q3, RA, Jn, Jm, Jp, Q2, Q0, ev, ofValue, Jt, J0, J3, J2, J4, reduceCtorEq, reduceIte, Ju, Qb, Qa, Jy, aun, Q9, Jk, Jh, Jx, Jw, Ji, Q8, Jf, Q1, Jr, Js, J1, J5, Ja, J9, Jb, J6, J7, Jd, J8, RB, Jv, Je, Gp])
    refine Jq (Rdefinite_calls n (ent n xs) v vs pss _ H1 B S h8 hB) ?_
    rintro _ H2 ⟨rfl, O⟩
    have x2 := B.toExt S.len (H0 := H) (by rw [Qm]; omega) ((Ext.push _ _).trans x0) O
    repeat' first
      | (with_reducible first | refine Qj ?_)
      | (simp only [Q4, Jo, reduceIte, J0])
      | ((with_reducible refine hK _ _ ?_); clear hK)
      | (simp only [Q3, RA, Jn, Jm, Jp, Q2, Q0, ev, ofValue, Jt, J0, J3, J2, J4, reduceCtorEq, reduceIte, Ju, Qb, Qa, Jy, aun, Q9, Jk, Jh, Jx, Jw, Ji, Q8, Jf, Q1, Jr, Js, J1, J5, Ja, J9, Jb, J6, J7, Jd, J8, RB, Jv, Je, Gp])
    (
     (refine Qg (rs := [.tmp 2]) rfl ?_)
     (simp only [Qx, Qd, Fr.put_some, Fr.put_none, Qe, Qf, Qi, J0, reduceIte])
     (try simp (disch := (first | omega | (simp only [RO]; done) | assumption | (simp only [RM, Je]; done) | (simp only [RL, Je]; omega))) only [RD, reduceCtorEq, reduceIte, Je, J1, J3, J2, J6, Gp]))
    exact ⟨x2, trivial⟩
end Go.Proofs.YtfalfmfkifemeaaGreatDoor
namespace Go.Proofs.YtfalfmfkifemeaaGreatDoor
open Go.AL
theorem wf_u8 {n : Int} (h : (Lit.int .u8 n).wf = true) : 0 ≤ n ∧ n ≤ 255 := by
  simp only [Lit.wf, Bool.and_eq_true, decide_eq_true_eq] at h
  have h1 : IntKind.u8.min = 0 := by decide +kernel
  have h2 : IntKind.u8.max = 255 := by decide +kernel
  omega
theorem wf_u16 {n : Int} (h : (Lit.int .u16 n).wf = true) : 0 ≤ n ∧ n ≤ 65535 := by
  simp only [Lit.wf, Bool.and_eq_true, decide_eq_true_eq] at h
  have h1 : IntKind.u16.min = 0 := by decide +kernel
  have h2 : IntKind.u16.max = 65535 := by decide +kernel
  omega
theorem wf_i64 {n : Int} (h : (Lit.int .i64 n).wf = true) : -9223372036854775808 ≤ n ∧ n ≤ 9223372036854775807 := by
  simp only [Lit.wf, Bool.and_eq_true, decide_eq_true_eq] at h
  have h1 : IntKind.i64.min = -9223372036854775808 := by decide +kernel
  have h2 : IntKind.i64.max = 9223372036854775807 := by decide +kernel
  omega
theorem noted_first (H : Hp) (x : Ext [⟨[], .glob 0 165 3 35, 0⟩] H) : Noted H := Noted.ext ⟨0, 0, rfl⟩ x
end Go.Proofs.YtfalfmfkifemeaaGreatDoor
namespace Go.Proofs.YtfalfmfkifemeaaGreatDoor
open Go.AL Go.PW Go.PD
theorem tf18LdA : type_of% (Jc @Xz (Jc @X1 (Jc @Z3 (Jc @Z2 (Jc @Xj (Jc @Za (@Z9))))))) := Jc @Xz (Jc @X1 (Jc @Z3 (Jc @Z2 (Jc @Xj (Jc @Za (@Z9))))))
theorem tf16LdA : type_of% (Jc @Xd (Jc @Ng (Jc @Yd (Jc @Yc (@tyb87))))) := Jc @Xd (Jc @Ng (Jc @Yd (Jc @Yc (@tyb87))))
set_option maxRecDepth 8000
theorem guardW : Tryz.prog.eqGuardType Tryz.prog.depth 33 = false := by kernel_rfl
set_option maxHeartbeats 2000000 in
theorem HWide_calls (x : Int) (s : AV) (H : Hp) (hs : Bs_ H s x) (hx : (x.natAbs : Int) < Bs ^ 15) : ACalls Tryz.prog 18 [W x, BV x s] H fun r H' => r = .bool true ∧ H = H' := by
  refine ACalls.drop (R := fun r => r = .bool true) ?_
  have hs1 := hs.one
  have hc1 : s.cells = [s] := hs.cells
  have hW := fun H0 (x0 : Ext H H0) => ToWide_calls x s H0 (hs.ext x0) hx
  have he := eq_wide x
  have hg := guardW
  refine Q7 Tryz.func18 rfl (by kernel_rfl) (by kernel_rfl) ?_
  repeat' first
    | (with_reducible first | refine Jj (fun K hK => ?_) | refine Qj ?_ | refine Jg ?_)
    | ((with_reducible refine Jq (hW _ ((Ext.push _ _).pushed _)) ?_); rintro _ _ ⟨rfl, rfl⟩)
    | (simp only [Q4, Jo, reduceIte, J0])
    | ((with_reducible refine hK _ _ ?_); clear hK)
    | (simp only [Q3, RA, Jn, Jm, Jp, Q2, Q0, ev, ofValue, Jt, J0, J3, J2, J4, reduceCtorEq, reduceIte, Ju, Qb, Qa, Jy, aun, Q9, Jk, Jh, Jx, Jw, Ji, Q8, Jf, Q1, Jr, Js, J1, J5, Ja, J9, Jb, J6, J7, Jd, J8, RB, Jv, Je, tf18LdA, he, hg])
    | (simp (disch := first | omega | (simp only [RO]; done) | assumption) only [RS, X6, X7, Xs, Xq, Xr, Xp, X4, X0])
    | (simp (disch := (first | omega | (simp only [RO]; done) | assumption | (simp only [RM, Je]; done) | (simp only [RL, Je]; omega))) only [RD, reduceCtorEq, reduceIte, Je, J1, J3, J2, J6, tf18LdA, he, hg])
  all_goals
    (
     (refine Qg (rs := [.tmp 4]) rfl ?_)
     (simp only [Qx, Qd, Fr.put_some, Fr.put_none, Qe, Qf, Qi, J0, reduceIte])
     (try simp (disch := (first | omega | (simp only [RO]; done) | assumption | (simp only [RM, Je]; done) | (simp only [RL, Je]; omega))) only [RD, reduceCtorEq, reduceIte, Je, J1, J3, J2, J6, tf18LdA]))
  all_goals exact ⟨((Ext.push _ _).pushed _).pushed _, trivial⟩
set_option maxHeartbeats 2000000 in
theorem says6_err (n m : Int) (v : AV) (H : Hp) (hv : Err H v elimS m) (hN : Noted H) (hn : 0 < n ∧ n < 256) (hm : 0 < m ∧ m < 256) : ACalls Tryz.prog 16 [v, .int .i64 n] H fun r H' => r = .bool (decide (m = n)) ∧ H = H' := by
  refine ACalls.drop (R := fun r => r = .bool (decide (m = n))) ?_
  have f0 : (n = 0) = False := eq_false (by omega)
  have hC := fun H0 (x0 : Ext H H0) => code_calls elimS m v H0 (hv.ext x0) (hN.ext x0)
  refine Q7 Tryz.func16 rfl (by kernel_rfl) (by kernel_rfl) ?_
  repeat' first
    | (with_reducible first | refine Jj (fun K hK => ?_) | refine Q6 ?_ | refine Qj ?_ | refine Jg ?_ | refine Jz ?_)
    | ((with_reducible refine Jq (ops_calls elimS m v _ hv) ?_); rintro _ _ ⟨rfl, rfl⟩)
    | ((with_reducible refine Jq (hC _ ((Ext.push _ _).pushed _)) ?_); rintro _ _ ⟨rfl, rfl⟩)
    | (with_reducible refine Qn (fun hc => ?_) (fun hc => ?_) <;> (try simp only [RC] at hc) <;> (try (exfalso; first | omega | contradiction)))
    | (simp only [Q4, Jo, reduceIte, J0])
    | ((with_reducible refine hK _ _ ?_); clear hK)
    | (simp only [Q3, RA, Jn, Jm, Jp, Q2, Q0, ev, ofValue, Jt, J0, J3, J2, J4, reduceCtorEq, reduceIte, Ju, Qb, Qa, Jy, aun, Q9, Jk, Jh, Jx, Jw, Ji, Q8, Jf, Q1, Jr, Js, J1, J5, Ja, J9, Jb, J6, J7, Jd, J8, RB, Jv, Je, tf16LdA, f0])
    | (simp (disch := first | omega | (simp only [RO]; done) | assumption) only [RS, six87, gix87])
    | (simp (disch := (first | omega | (simp only [RO]; done) | assumption | (simp only [RM, Je]; done) | (simp only [RL, Je]; omega))) only [RD, reduceCtorEq, reduceIte, Je, J1, J3, J2, J6, tf16LdA, f0])
  all_goals
    (
     (refine Qg (rs := [.tmp 4]) rfl ?_)
     (simp only [Qx, Qd, Fr.put_some, Fr.put_none, Qe, Qf, Qi, J0, reduceIte])
     (try simp (disch := (first | omega | (simp only [RO]; done) | assumption | (simp only [RM, Je]; done) | (simp only [RL, Je]; omega))) only [RD, reduceCtorEq, reduceIte, Je, J1, J3, J2, J6, tf16LdA]))
  all_goals
    refine ⟨(Ext.push _ _).pushed _, trivial, ?_⟩
    first | rw [decide_eq_true (show m = n by assumption)] | rw [decide_eq_false (show ¬ m = n by assumption)]
end Go.Proofs.YtfalfmfkifemeaaGreatDoor

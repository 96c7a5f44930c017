/- Part 12 of the proof of laws of this seat: lemmas on the model's code, on this program's functions, on numbers. No condition. -/
import Derived.Test.YtlgpemndbfclfaaDoorZGak
set_option linter.unusedVariables false
set_option linter.unusedSimpArgs false
open Nat renaming reduceEqDiff → J0, reduceLeDiff → J1, reduceMul → J2, reduceAdd → J3, reduceSub → J4, reduceLT → J5
open Int renaming reduceToNat → J6, reducePow → J7, reduceNeg → J8, reduceLT → J9, reduceLE → Ja, reduceEq → Jb
open And renaming intro → Jc
open Go.IntKind renaming bits → Jd
open Go.PW renaming dig_length → Je
namespace Go.Proofs.YtlgpemndbfclfaaDoor
open Go.AL Go.PW
theorem Nx : type_of% (Jc @Xz (Jc @Qx (Jc @Zb (@Za)))) := Jc @Xz (Jc @Qx (Jc @Zb (@Za)))
theorem tf76WdB : type_of% (Jc @Qx (Jc @Zb (@Za))) := Jc @Qx (Jc @Zb (@Za))
theorem Nw : type_of% (Jc @Yj (Jc @Xz (Jc @Qx (Jc @Zb (Jc @Za (@Ni)))))) := Jc @Yj (Jc @Xz (Jc @Qx (Jc @Zb (Jc @Za (@Ni)))))
theorem tf66WdB : type_of% (Jc @Qx (Jc @Zb (@Za))) := Jc @Qx (Jc @Zb (@Za))
abbrev pn50_5WdB : Plan := (.one 0 (.one 1 (.one 2 (.one 3 (.one 4 (.one 5 (.one 6 (.one 7 (.one 8 (.one 9 (.one 10 (.one 11 (.one 12 (.one 13 (.one 14 .nil)))))))))))))))
set_option maxRecDepth 8000
theorem Wc {H : Hp} (a b c : Blk) : Ext H (H ++ [a] ++ [b] ++ [c]) := (ext4 _ _).pushed _
theorem ext6 {H : Hp} (a b c d : Blk) : Ext H (H ++ [a] ++ [b] ++ [c] ++ [d]) := (Wc _ _ _).pushed _
theorem plus_calls (x y c : Int) (H : Hp) (hc : 0 ≤ c ∧ c ≤ 1) : ACalls Tryd.prog 50 [W x, W y, .int .u64 c] H fun r H' => r = .tup [W (x + y + c), .int .u64 ((x % M + y % M + c) / M)] ∧ H = H' := by
  refine ACalls.drop (R := fun r => r = .tup [W (x + y + c), .int .u64 ((x % M + y % M + c) / M)]) ?_
  refine Qe Tryd.func50 rfl (by kernel_rfl) (by kernel_rfl) ?_
  repeat' first
    | (with_reducible first | refine Jj (fun K hK => ?_) | refine Js ?_ | refine Jg ?_)
    | (simp only [Q8, Jk, reduceIte, J0])
    | ((with_reducible refine hK _ _ ?_); clear hK)
    | (simp only [Qa, RA, Jo, Jn, Jp, Q7, Q5, ev, ofValue, Ju, J0, J3, J2, J4, reduceCtorEq, reduceIte, Jx, Qm, Qk, Q1, aun, Qj, Jm, Jh, Q0, Jz, Ji, Qi, Jf, Q6, Jw, Jr, J1, J5, Ja, J9, Jb, J6, J7, Jd, J8, RB, Jy, Je, Nx])
  refine Xr (fun m fr' H' => ∃ (i : Nat) (ys : List Int) (cc : Int), m = 16 - i ∧ i ≤ 16 ∧ fr' 2 = .int .u64 cc ∧ fr' 3 = .ptr H.length 0 ∧ fr' 4 = .ptr (H.length + 1) 0 ∧ fr' 6 = .ptr (H.length + 1 + 1) 0 ∧ fr' 8 = .ptr (H.length + 1 + 1 + 1) 0 ∧ fr' 10 = .int .i64 (i : Int) ∧ 0 ≤ cc ∧ cc ≤ 1 ∧ ys.length = 16 ∧ Limbs ys ∧
      val (ys.take i) + Bs ^ i * cc = val ((dig 16 x).take i) + val ((dig 16 y).take i) + c ∧ H ++ [Wb x] ++ [Wb y] ++ [Wb 0] ++ [⟨ys.map (AV.int .u64), .own, 66⟩] = H') (m := 16)
    ⟨0, dig 16 0, c, by omega, by omega, rfl, rfl, rfl, rfl, rfl, rfl, hc.1, hc.2, dig_length _ _, X6 _ _, by simp [val], rfl⟩ ?_
  rintro m fr' H' ⟨i, ys, cc, rfl, hi, k2, k3, k4, k6, k8, k10, c0, c1, hl, hys, hy, rfl⟩
  by_cases hlt : i < 16
  · have hdx := (X6 16 x).get i
    have hdy := (X6 16 y).get i
    repeat' first
      | (with_reducible first | refine Jj (fun K hK => ?_) | refine Js ?_ | refine Q2 ?_ | refine Jg ?_ | refine Qf (id := 5) [] pn50_5WdB (by kernel_rfl) (by kernel_rfl) ?_ | refine Jq ?_)
      | ((with_reducible refine Xj (Kk _ _ _ _ hdx.1 hdy.1 ⟨c0, c1⟩) ?_); rintro _ _ ⟨rfl, rfl⟩)
      | (with_reducible refine X3 (fun hc => ?_) (fun hc => ?_) <;> (try simp only [RC] at hc) <;> (try (exfalso; first | omega | contradiction)))
      | (simp only [Q8, Jk, reduceIte, J0])
      | ((with_reducible refine hK _ _ ?_); clear hK)
      | (simp only [Qa, RA, Jo, Jn, Jp, Q7, Q5, ev, ofValue, Ju, J0, J3, J2, J4, reduceCtorEq, reduceIte, Jx, Qm, Qk, Q1, aun, Qj, Jm, Jh, Q0, Jz, Ji, Qi, Jf, Q6, Jw, Jr, J1, J5, Ja, J9, Jb, J6, J7, Jd, J8, RB, Jy, Je, Nx, k2, k3, k4, k6, k8, k10])
      | (simp (disch := first | omega | (simp only [RO]; done) | assumption) only [RS, hl, Y4, Y0, Y3, Zz])
      | (simp (disch := (first | omega | (simp only [RO]; done) | assumption | (simp only [RM, Je]; done) | (simp only [RL, Je]; omega))) only [RD, reduceCtorEq, reduceIte, Je, J1, J3, J2, J6, Nx, k2, k3, k4, k6, k8, k10])
    generalize hS : (dig 16 x).getD i 0 + (dig 16 y).getD i 0 + cc = S
    have hS0 : 0 ≤ S ∧ S < 2 * Bs := by simp only [Bs] at *; omega
    have hm := Int.emod_add_mul_ediv S Bs
    have hm0 := Int.emod_nonneg S (b := Bs) (by decide)
    have hm1 := Int.emod_lt_of_pos S (b := Bs) (by decide)
    refine ⟨16 - (i + 1), by omega, i + 1, ys.set i (S % Bs), _, rfl, by omega, rfl, by rw [Q3 (by omega) (by omega)]; rfl, ?_, ?_, ?_, hys.set i ⟨hm0, hm1⟩, ?_, rfl⟩
    · simp only [Bs] at *; omega
    · simp only [Bs] at *; omega
    · rw [List.length_set]; exact hl
    · have hv := Qz (dig 16 x) (i := i) (by rw [dig_length]; exact hlt)
      have hv' := Qz (dig 16 y) (i := i) (by rw [dig_length]; exact hlt)
      have hv2 := Qz (ys.set i (S % Bs)) (i := i) (by rw [List.length_set]; omega)
      rw [Xh _ _ (by omega), if_pos rfl, List.take_set_of_le (Nat.le_refl _)] at hv2
      rw [hv, hv', hv2, Int.pow_succ]
      have : (dig 16 y).getD i 0 = S - (dig 16 x).getD i 0 - cc := by omega
      rw [this]
      generalize Bs ^ i = p at *
      have : p * S = p * (S % Bs) + p * Bs * (S / Bs) := by rw [Int.mul_assoc, ← Int.mul_add, hm]
      grind
  · obtain rfl : i = 16 := by omega
    repeat' first
      | (with_reducible first | refine Jj (fun K hK => ?_) | refine Qc ?_ | refine Qb ?_ | refine Jg ?_ | refine Jq ?_)
      | (simp only [Q8, Jk, reduceIte, J0])
      | ((with_reducible refine hK _ _ ?_); clear hK)
      | (clear hK; (with_reducible refine hK _ _ ?_); clear hK)
      | (simp only [Qa, RA, Jo, Jn, Jp, Q7, Q5, ev, ofValue, Ju, J0, J3, J2, J4, reduceCtorEq, reduceIte, Jx, Qm, Qk, Q1, aun, Qj, Jm, Jh, Q0, Jz, Ji, Qi, Jf, Q6, Jw, Jr, J1, J5, Ja, J9, Jb, J6, J7, Jd, J8, RB, Jy, Je, Nx, k2, k3, k4, k6, k8, k10])
      | (simp (disch := (first | omega | (simp only [RO]; done) | assumption | (simp only [RM, Je]; done) | (simp only [RL, Je]; omega))) only [RD, reduceCtorEq, reduceIte, Je, J1, J3, J2, J6, Nx, k2, k3, k4, k6, k8, k10])
    (
     (refine Q9 (rs := [.cell 6 66, .tmp 7]) rfl ?_)
     (simp only [Qt, Q4, Fr.put_some, Fr.put_none, Qg, Qh, Qn, J0, reduceIte, k2, k6])
     (try simp (disch := (first | omega | (simp only [RO]; done) | assumption | (simp only [RM, Je]; done) | (simp only [RL, Je]; omega))) only [RD, reduceCtorEq, reduceIte, Je, J1, J3, J2, J6, Nx, k2, k6]))
    refine ⟨ext6 _ _ _ _, by simp [AV.lt, AV.lts, AV.lts_iff], ?_⟩
    have e1 : ys.take 16 = ys := List.take_of_length_le (by omega)
    have e2 : (dig 16 x).take 16 = dig 16 x := List.take_of_length_le (by rw [dig_length]; omega)
    have e3 : (dig 16 y).take 16 = dig 16 y := List.take_of_length_le (by rw [dig_length]; omega)
    rw [e1, e2, e3, J0w, J0w, ← M_pow] at hy
    have h1 := Qq hys
    rw [hl, ← M_pow] at h1
    have hmx := M_pos
    have hq : (x % M + y % M + c) / M = cc := by
      rw [← hy, Int.add_mul_ediv_left _ _ (by omega), Int.ediv_eq_zero_of_lt h1.1 h1.2, Int.zero_add]
    have : ys = dig 16 (x + y + c) := by
      refine Zw hys hl ?_
      have h2 : (x + y + c) % M = (x % M + y % M + c) % M := by
        rw [Int.add_emod (x + y), Int.add_emod x y, Int.add_emod (x % M + y % M) c]
      rw [← M_pow, h2, ← hy, Int.add_mul_emod_self_left, Int.emod_eq_of_lt h1.1 h1.2]
    rw [this, hq]
theorem W_lt (n : Nat) (x : Int) : AV.lt n (W x) := by simp [AV.lt, AV.lts_iff]
theorem Np (n : Nat) (x : Int) {v : AV} (h : v.lt n) : AV.lt n (.tup [W x, v]) := by
  simp only [AV.lt, AV.lts]
  exact ⟨by have := W_lt n x; simpa only [AV.lt] using this, h, trivial⟩
theorem Vq (n : Nat) (x : Int) (b : Bool) : AV.lt n (.tup [W x, .bool b]) := Np n x (v := .bool b) trivial
theorem neg_calls (x : Int) (H : Hp) : ACalls Tryd.prog 76 [W x] H fun r H' => r = W (-x) ∧ H = H' := by
  refine ACalls.drop (R := fun r => r = W (-x)) ?_
  refine Qe Tryd.func76 rfl (by kernel_rfl) (by kernel_rfl) ?_
  repeat' first
    | (with_reducible first | refine Jj (fun K hK => ?_) | refine Qb ?_ | refine Jg ?_)
    | ((with_reducible refine Jt (inverse_calls _ _) ?_); rintro _ _ ⟨rfl, rfl⟩)
    | ((with_reducible refine Jt (plus_calls _ _ _ _ (by decide)) ?_); rintro _ _ ⟨rfl, rfl⟩)
    | (simp only [Q8, Jk, reduceIte, J0])
    | ((with_reducible refine hK _ _ ?_); clear hK)
    | (simp only [Qa, RA, Jo, Jn, Jp, Q7, Q5, ev, ofValue, Ju, J0, J3, J2, J4, reduceCtorEq, reduceIte, Jx, Qm, Qk, Q1, aun, Qj, Jm, Jh, Q0, Jz, Ji, Qi, Jf, Q6, Jw, Jr, J1, J5, Ja, J9, Jb, J6, J7, Jd, J8, RB, Jy, Je, tf76WdB])
    | (simp (disch := (first | omega | (simp only [RO]; done) | assumption | (simp only [RM, Je]; done) | (simp only [RL, Je]; omega))) only [RD, reduceCtorEq, reduceIte, Je, J1, J3, J2, J6, tf76WdB])
  (
   (refine Q9 (rs := [.cell 2 66]) rfl ?_)
   (simp only [Qt, Q4, Fr.put_some, Fr.put_none, Qg, Qh, Qn, J0, reduceIte])
   (try simp (disch := (first | omega | (simp only [RO]; done) | assumption | (simp only [RM, Je]; done) | (simp only [RL, Je]; omega))) only [RD, reduceCtorEq, reduceIte, Je, J1, J3, J2, J6, tf76WdB]))
  exact ⟨Wc _ _ _, W_lt _ _, by rw [show 0 + (-x - 1) + 1 = -x by omega]⟩
theorem top_shift {v : Int} (hv : -9223372036854775808 ≤ v ∧ v ≤ 9223372036854775807) (i : Nat) : IntKind.u64.wrap (v / 9223372036854775808) = v / Bs ^ (i + 1) % Bs := by
  rw [Xp]
  have hp : ∀ n : Nat, (1 : Int) ≤ Bs ^ n := fun n => X0 n
  have hb : Bs ^ (i + 1) = 18446744073709551616 * Bs ^ i := by rw [Int.pow_succ, Int.mul_comm]
  have h1 := hp i
  have h2 : Bs ≤ Bs ^ (i + 1) := by
    rw [hb]
    have : 18446744073709551616 * 1 ≤ 18446744073709551616 * Bs ^ i := Int.mul_le_mul_of_nonneg_left h1 (by decide)
    simp only [Bs] at *
    omega
  have e : v / Bs ^ (i + 1) = v / 9223372036854775808 := by
    rcases Int.lt_or_le v 0 with h | h
    · have a : v / 9223372036854775808 = -1 := by omega
      have b : v / Bs ^ (i + 1) = -1 := by
        generalize Bs ^ (i + 1) = p at *
        simp only [Bs] at h2
        have : v = (v + p) + p * (-1) := by omega
        rw [this, Int.add_mul_ediv_left _ _ (by omega), Int.ediv_eq_zero_of_lt (by omega) (by omega)]
        rfl
      rw [a, b]
    · have a : v / 9223372036854775808 = 0 := by omega
      rw [a, Int.ediv_eq_zero_of_lt h (by simp only [Bs] at h2; omega)]
  rw [e]
theorem of_calls (v : Int) (H : Hp) (hv : -9223372036854775808 ≤ v ∧ v ≤ 9223372036854775807) : ACalls Tryd.prog 54 [.int .i64 v] H fun r H' => r = W v ∧ H = H' := by
  refine ACalls.drop (R := fun r => r = W v) ?_
  have h63 : (IntKind.i64.bits : Nat) = 64 := by decide
  refine Qe Tryd.func54 rfl (by kernel_rfl) (by kernel_rfl) ?_
  repeat' first
    | (with_reducible first | refine Jj (fun K hK => ?_) | refine Js ?_ | refine Jg ?_)
    | (simp only [Q8, Jk, reduceIte, J0])
    | ((with_reducible refine hK _ _ ?_); clear hK)
    | (simp only [Qa, RA, Jo, Jn, Jp, Q7, Q5, ev, ofValue, Ju, J0, J3, J2, J4, reduceCtorEq, reduceIte, Jx, Qm, Qk, Q1, aun, Qj, Jm, Jh, Q0, Jz, Ji, Qi, Jf, Q6, Jw, Jr, J1, J5, Ja, J9, Jb, J6, J7, Jd, J8, RB, Jy, Je, Nw])
  refine Xr (fun m fr' H' => ∃ (i : Nat) (ys : List Int), m = 16 - i ∧ i ≤ 16 ∧ fr' 0 = .int .i64 v ∧ fr' 2 = .ptr H.length 0 ∧ fr' 3 = .ptr (H.length + 1) 0 ∧ fr' 5 = .int .i64 (i : Int) ∧ ys.length = 16 ∧ (∀ j, j < i → 0 < j → ys.getD j 0 = v / Bs ^ j % Bs) ∧ H ++ [Wb 0] ++ [⟨ys.map (AV.int .u64), .own, 66⟩] = H') (m := 16)
    ⟨0, dig 16 0, by omega, by omega, rfl, rfl, rfl, rfl, dig_length _ _, fun j hj => by omega, rfl⟩ ?_
  rintro m fr' H' ⟨i, ys, rfl, hi, k0, k2, k3, k5, hl, hy, rfl⟩
  by_cases hlt : i < 16
  · skip
    repeat' first
      | (with_reducible first | refine Jj (fun K hK => ?_) | refine Js ?_ | refine Q2 ?_ | refine Jg ?_ | refine Jq ?_)
      | (with_reducible refine X3 (fun hc => ?_) (fun hc => ?_) <;> (try simp only [RC] at hc) <;> (try (exfalso; first | omega | contradiction)))
      | (simp only [Q8, Jk, reduceIte, J0])
      | ((with_reducible refine hK _ _ ?_); clear hK)
      | (simp only [Qa, RA, Jo, Jn, Jp, Q7, Q5, ev, ofValue, Ju, J0, J3, J2, J4, reduceCtorEq, reduceIte, Jx, Qm, Qk, Q1, aun, Qj, Jm, Jh, Q0, Jz, Ji, Qi, Jf, Q6, Jw, Jr, J1, J5, Ja, J9, Jb, J6, J7, Jd, J8, RB, Jy, Je, Nw, k0, k2, k3, k5, h63])
      | (simp (disch := first | omega | (simp only [RO]; done) | assumption) only [RS, hl, Y4, Y0, Y3, Zz])
      | (simp (disch := (first | omega | (simp only [RO]; done) | assumption | (simp only [RM, Je]; done) | (simp only [RL, Je]; omega))) only [RD, reduceCtorEq, reduceIte, Je, J1, J3, J2, J6, Nw, k0, k2, k3, k5, h63])
    refine ⟨16 - (i + 1), by omega, i + 1, _, rfl, by omega, by rw [Q3 (by omega) (by omega)]; rfl, by rw [List.length_set]; exact hl, ?_, rfl⟩
    intro j hj h0
    rw [Xh _ _ (by omega)]
    by_cases he : j = i
    · subst he
      rw [if_pos rfl]
      obtain ⟨k, rfl⟩ : ∃ k, j = k + 1 := ⟨j - 1, by omega⟩
      exact top_shift hv k
    · rw [if_neg he]; exact hy j (by omega) h0
  · obtain rfl : i = 16 := by omega
    repeat' first
      | (with_reducible first | refine Jj (fun K hK => ?_) | refine Qc ?_ | refine Qb ?_ | refine Jg ?_ | refine Jq ?_)
      | (simp only [Q8, Jk, reduceIte, J0])
      | ((with_reducible refine hK _ _ ?_); clear hK)
      | (clear hK; (with_reducible refine hK _ _ ?_); clear hK)
      | (simp only [Qa, RA, Jo, Jn, Jp, Q7, Q5, ev, ofValue, Ju, J0, J3, J2, J4, reduceCtorEq, reduceIte, Jx, Qm, Qk, Q1, aun, Qj, Jm, Jh, Q0, Jz, Ji, Qi, Jf, Q6, Jw, Jr, J1, J5, Ja, J9, Jb, J6, J7, Jd, J8, RB, Jy, Je, Nw, k0, k2, k3, k5])
      | (simp (disch := first | omega | (simp only [RO]; done) | assumption) only [RS, hl, Y4, Y0, Y3, Zz])
      | (simp (disch := (first | omega | (simp only [RO]; done) | assumption | (simp only [RM, Je]; done) | (simp only [RL, Je]; omega))) only [RD, reduceCtorEq, reduceIte, Je, J1, J3, J2, J6, Nw, k0, k2, k3, k5])
    (
     (refine Q9 (rs := [.cell 2 66]) rfl ?_)
     (simp only [Qt, Q4, Fr.put_some, Fr.put_none, Qg, Qh, Qn, J0, reduceIte, k2])
     (try simp (disch := (first | omega | (simp only [RO]; done) | assumption | (simp only [RM, Je]; done) | (simp only [RL, Je]; omega))) only [RD, reduceCtorEq, reduceIte, Je, J1, J3, J2, J6, Nw, k2]))
    have : ys.set 0 (IntKind.u64.wrap v) = dig 16 v := by
      apply List.ext_getElem
      · rw [List.length_set, hl, dig_length]
      · intro j h1 h2
        rw [dig_length] at h2
        have e1 := Xh ys (IntKind.u64.wrap v) (i := 0) (by omega) j
        have e2 := Vf 16 v j h2
        rw [List.getD_eq_getElem?_getD, List.getElem?_eq_getElem h1] at e1
        rw [List.getD_eq_getElem?_getD, List.getElem?_eq_getElem (by rw [dig_length]; exact h2)] at e2
        simp only [Option.getD_some] at e1 e2
        rw [e1, e2]
        by_cases h0 : j = 0
        · subst h0; rw [if_pos rfl, Xp]; simp
        · rw [if_neg h0]; exact hy j (by omega) (by omega)
    rw [this]
    exact ⟨ext4 _ _, W_lt _ _, rfl⟩
set_option maxRecDepth 4000 in
theorem amount_calls (x : Int) (H : Hp) (hx : In x) : ACalls Tryd.prog 66 [W x] H fun r H' => r = W (x.natAbs : Int) ∧ H = H' := by
  refine ACalls.drop (R := fun r => r = W (x.natAbs : Int)) ?_
  have hn := Yp hx
  refine Qe Tryd.func66 rfl (by kernel_rfl) (by kernel_rfl) ?_
  repeat' first
    | (with_reducible first | refine Jj (fun K hK => ?_) | refine Q2 ?_ | refine Qb ?_ | refine Jg ?_ | refine Jq ?_)
    | ((with_reducible refine Jt (below_calls _ _) ?_); rintro _ _ ⟨rfl, rfl⟩)
    | ((with_reducible refine Jt (neg_calls _ _) ?_); rintro _ _ ⟨rfl, rfl⟩)
    | (with_reducible refine X3 (fun hc => ?_) (fun hc => ?_) <;> (try simp only [RC] at hc) <;> (try (exfalso; first | omega | contradiction)))
    | (simp only [Q8, Jk, reduceIte, J0])
    | ((with_reducible refine hK _ _ ?_); clear hK)
    | (simp only [Qa, RA, Jo, Jn, Jp, Q7, Q5, ev, ofValue, Ju, J0, J3, J2, J4, reduceCtorEq, reduceIte, Jx, Qm, Qk, Q1, aun, Qj, Jm, Jh, Q0, Jz, Ji, Qi, Jf, Q6, Jw, Jr, J1, J5, Ja, J9, Jb, J6, J7, Jd, J8, RB, Jy, Je, tf66WdB, hn])
    | (simp (disch := (first | omega | (simp only [RO]; done) | assumption | (simp only [RM, Je]; done) | (simp only [RL, Je]; omega))) only [RD, reduceCtorEq, reduceIte, Je, J1, J3, J2, J6, tf66WdB, hn])
  · skip
    (
     (refine Q9 (rs := [.cell 2 66]) rfl ?_)
     (simp only [Qt, Q4, Fr.put_some, Fr.put_none, Qg, Qh, Qn, J0, reduceIte])
     (try simp (disch := (first | omega | (simp only [RO]; done) | assumption | (simp only [RM, Je]; done) | (simp only [RL, Je]; omega))) only [RD, reduceCtorEq, reduceIte, Je, J1, J3, J2, J6, tf66WdB]))
    exact ⟨ext4 _ _, W_lt _ _, by rw [show (x.natAbs : Int) = -x by omega]⟩
  · skip
    (
     (refine Q9 (rs := [.cell 2 66]) rfl ?_)
     (simp only [Qt, Q4, Fr.put_some, Fr.put_none, Qg, Qh, Qn, J0, reduceIte])
     (try simp (disch := (first | omega | (simp only [RO]; done) | assumption | (simp only [RM, Je]; done) | (simp only [RL, Je]; omega))) only [RD, reduceCtorEq, reduceIte, Je, J1, J3, J2, J6, tf66WdB]))
    exact ⟨ext4 _ _, W_lt _ _, by rw [show (x.natAbs : Int) = x by omega]⟩
end Go.Proofs.YtlgpemndbfclfaaDoor
namespace Go.Proofs.YtlgpemndbfclfaaDoor
open Go.AL Go.PW
theorem tf32WdC : type_of% (Jc @Qx (Jc @Zb (@Za))) := Jc @Qx (Jc @Zb (@Za))
theorem tf69WdC : type_of% (Jc @Zn (Jc @Qx (Jc @Zb (@Za)))) := Jc @Zn (Jc @Qx (Jc @Zb (@Za)))
abbrev pn69_2WdC : Plan := (.one 0 (.pur 1 (.one 2 (.one 3 (.one 4 (.one 5 (.one 6 (.pur 7 (.one 8 (.one 9 (.one 10 (.one 11 .nil))))))))))))
set_option maxRecDepth 8000
theorem W_eq (x y : Int) : X5 Tryd.prog Op.maxDepth 66 (W x) (W y) = some (decide (x % M = y % M)) := by
  rw [eq_arr J0x Xa Zx und53 (dig_length _ _) (dig_length _ _)]
  congr 1
  rw [decide_eq_decide]
  constructor
  · intro h
    have := congrArg val h
    rwa [J0w, J0w] at this
  · exact dig_M
theorem mod_inj {x y : Int} (hx : In x) (hy : In y) : x % M = y % M ↔ x = y := by
  refine ⟨fun h => ?_, fun h => by rw [h]⟩
  have hm := M_two
  have hp := Ns
  obtain ⟨a, b⟩ := hx
  obtain ⟨c, d⟩ := hy
  have h1 : (x - y) % M = 0 := by rw [Int.sub_emod, h]; simp
  obtain ⟨k, hk⟩ := Int.dvd_of_emod_eq_zero h1
  have hk0 : k = 0 := by
    rcases Int.lt_trichotomy k 0 with h | h | h
    · have : M * k ≤ M * (-1) := Int.mul_le_mul_of_nonneg_left (by omega) (by omega)
      omega
    · exact h
    · have : M * 1 ≤ M * k := Int.mul_le_mul_of_nonneg_left (by omega) (by omega)
      omega
  rw [hk0] at hk
  omega
theorem In.zero : In 0 := ⟨by have := Ns; omega, Ns⟩
theorem J0j {x : Int} (h : In x) : decide (x % M = 0 % M) = decide (x = 0) := by
  rw [decide_eq_decide]; exact mod_inj h In.zero
theorem sign_calls (x : Int) (H : Hp) (hx : In x) : ACalls Tryd.prog 32 [W x] H fun r H' => r = .int .i64 x.sign ∧ H = H' := by
  refine ACalls.drop (R := fun r => r = .int .i64 x.sign) ?_
  have hn := Yp hx
  have hz := J0j hx
  refine Qe Tryd.func32 rfl (by kernel_rfl) (by kernel_rfl) ?_
  repeat' first
    | (with_reducible first | refine Jj (fun K hK => ?_) | refine Js ?_ | refine Q2 ?_ | refine Qb ?_ | refine Jg ?_ | refine Jq ?_)
    | ((with_reducible refine Jt (below_calls _ _) ?_); rintro _ _ ⟨rfl, rfl⟩)
    | (with_reducible refine X3 (fun hc => ?_) (fun hc => ?_) <;> (try simp only [RC] at hc) <;> (try (exfalso; first | omega | contradiction)))
    | (simp only [Q8, Jk, reduceIte, J0])
    | ((with_reducible refine hK _ _ ?_); clear hK)
    | (simp only [Qa, RA, Jo, Jn, Jp, Q7, Q5, ev, ofValue, Ju, J0, J3, J2, J4, reduceCtorEq, reduceIte, Jx, Qm, Qk, Q1, aun, Qj, Jm, Jh, Q0, Jz, Ji, Qi, Jf, Q6, Jw, Jr, J1, J5, Ja, J9, Jb, J6, J7, Jd, J8, RB, Jy, Je, tf32WdC, hn, hz, W_eq])
    | (simp (disch := (first | omega | (simp only [RO]; done) | assumption | (simp only [RM, Je]; done) | (simp only [RL, Je]; omega))) only [RD, reduceCtorEq, reduceIte, Je, J1, J3, J2, J6, tf32WdC, hn, hz, W_eq])
  all_goals
    (
     (refine Q9 (rs := [.tmp 2]) rfl ?_)
     (simp only [Qt, Q4, Fr.put_some, Fr.put_none, Qg, Qh, Qn, J0, reduceIte])
     (try simp (disch := (first | omega | (simp only [RO]; done) | assumption | (simp only [RM, Je]; done) | (simp only [RL, Je]; omega))) only [RD, reduceCtorEq, reduceIte, Je, J1, J3, J2, J6, tf32WdC]))
  · exact ⟨Ext.push _ _, trivial, by rw [Int.sign_eq_neg_one_of_neg (show x < 0 by omega)]⟩
  · exact ⟨Ext.push _ _, trivial, by have h0 : x = 0 := by omega
                                     rw [h0]; rfl⟩
  · exact ⟨Ext.push _ _, trivial, by rw [Int.sign_eq_one_of_pos (show 0 < x by omega)]⟩
theorem add_signs (x y : Int) (p q s : Bool) (H : Hp) (hn : decide (Mh ≤ x % M) = p) (hm : decide (Mh ≤ y % M) = q) (hk : decide (Mh ≤ (x + y) % M) = s) (hs : p = q → s = p) : ACalls Tryd.prog 69 [W x, W y] H fun r H' => r = .tup [W (x + y), .bool true] ∧ H = H' := by
  refine ACalls.drop (R := fun r => r = .tup [W (x + y), .bool true]) ?_
  have e0 : x + y + 0 = x + y := by omega
  refine Qe Tryd.func69 rfl (by kernel_rfl) (by kernel_rfl) ?_
  repeat' first
    | (with_reducible first | refine Jj (fun K hK => ?_) | refine Q2 ?_ | refine Qb ?_ | refine Jg ?_ | refine Qf (id := 2) [] pn69_2WdC (by kernel_rfl) (by kernel_rfl) ?_ | refine Jq ?_ | refine Xt ?_)
    | (with_reducible refine Qp (fun _ x => (below_calls _ _)) ?_)
    | ((with_reducible refine Jt (plus_calls _ _ _ _ (by decide)) ?_); rintro _ _ ⟨rfl, rfl⟩)
    | ((with_reducible refine Jt (below_calls _ _) ?_); rintro _ _ ⟨rfl, rfl⟩)
    | (with_reducible refine Jv (fun hc => ?_) (fun hc => ?_) <;> (try simp only [RC] at hc) <;> (try (exfalso; first | omega | contradiction)))
    | (with_reducible refine X3 (fun hc => ?_) (fun hc => ?_) <;> (try simp only [RC] at hc) <;> (try (exfalso; first | omega | contradiction)))
    | (simp only [Q8, Jk, reduceIte, J0])
    | ((with_reducible refine hK _ _ ?_); clear hK)
    | (simp only [Qa, RA, Jo, Jn, Jp, Q7, Q5, ev, ofValue, Ju, J0, J3, J2, J4, reduceCtorEq, reduceIte, Jx, Qm, Qk, Q1, aun, Qj, Jm, Jh, Q0, Jz, Ji, Qi, Jf, Q6, Jw, Jr, J1, J5, Ja, J9, Jb, J6, J7, Jd, J8, RB, Jy, Je, tf69WdC, hn, hm, hk, e0])
    | (simp (disch := first | omega | (simp only [RO]; done) | assumption) only [RS, Y4, Y0, Y3, Zz])
    | (simp (disch := (first | omega | (simp only [RO]; done) | assumption | (simp only [RM, Je]; done) | (simp only [RL, Je]; omega))) only [RD, reduceCtorEq, reduceIte, Je, J1, J3, J2, J6, tf69WdC, hn, hm, hk, e0])
  all_goals first
    | (exfalso; exact absurd (hs (by assumption)) (by assumption))
    | skip
  all_goals
    (
     (refine Q9 (rs := [.cell 4 66, .tmp 5]) rfl ?_)
     (simp only [Qt, Q4, Fr.put_some, Fr.put_none, Qg, Qh, Qn, J0, reduceIte])
     (try simp (disch := (first | omega | (simp only [RO]; done) | assumption | (simp only [RM, Je]; done) | (simp only [RL, Je]; omega))) only [RD, reduceCtorEq, reduceIte, Je, J1, J3, J2, J6, tf69WdC]))
  all_goals exact ⟨ext6 _ _ _ _, Vq _ _ _⟩
theorem add_calls (x y : Int) (H : Hp) (hx : In x) (hy : In y) (hs : In (x + y)) : ACalls Tryd.prog 69 [W x, W y] H fun r H' => r = .tup [W (x + y), .bool true] ∧ H = H' :=
  add_signs x y _ _ _ H (Yp hx) (Yp hy) (Yp hs) fun h => by
    rw [decide_eq_decide] at h ⊢
    omega
end Go.Proofs.YtlgpemndbfclfaaDoor
namespace Go.Proofs.YtlgpemndbfclfaaDoor
open Go.AL Go.PW
theorem R8 : type_of% (Jc @Zn (Jc @Qx (Jc @Zb (@Za)))) := Jc @Zn (Jc @Qx (Jc @Zb (@Za)))
abbrev pn30_1WdD : Plan := (.one 1 (.pur 2 (.one 0 (.pur 3 (.one 4 (.one 5 (.one 6 (.one 7 (.one 8 (.one 9 .nil))))))))))
abbrev pn30_2WdD : Plan := (.one 0 (.pur 1 (.one 2 (.one 3 (.one 4 (.one 5 (.one 6 (.pur 7 (.one 8 (.one 9 (.one 10 (.one 11 .nil))))))))))))
set_option maxRecDepth 8000
set_option maxHeartbeats 1000000 in
theorem sub_signs (x y : Int) (p q s : Bool) (H : Hp) (hn : decide (Mh ≤ x % M) = p) (hm : decide (Mh ≤ y % M) = q) (hk : decide (Mh ≤ (x - y) % M) = s) (hs : ¬ p = q → s = p) : ACalls Tryd.prog 30 [W x, W y] H fun r H' => r = .tup [W (x - y), .bool true] ∧ H = H' := by
  refine ACalls.drop (R := fun r => r = .tup [W (x - y), .bool true]) ?_
  have e0 : x + (-y - 1) + 1 = x - y := by omega
  refine Qe Tryd.func30 rfl (by kernel_rfl) (by kernel_rfl) ?_
  repeat' first
    | (with_reducible first | refine Jj (fun K hK => ?_) | refine Jg ?_)
    | (simp only [Q8, Jk, reduceIte, J0])
    | ((with_reducible refine hK _ _ ?_); clear hK)
    | (simp only [Qa, RA, Jo, Jn, Jp, Q7, Q5, ev, ofValue, Ju, J0, J3, J2, J4, reduceCtorEq, reduceIte, Jx, Qm, Qk, Q1, aun, Qj, Jm, Jh, Q0, Jz, Ji, Qi, Jf, Q6, Jw, Jr, J1, J5, Ja, J9, Jb, J6, J7, Jd, J8, RB, Jy, Je, R8])
  refine Ue (fun fr' H' => fr' 2 = .ptr H.length 0 ∧ fr' 3 = .ptr (H.length + 1) 0 ∧ fr' 4 = .ptr (H.length + 1 + 1) 0 ∧ fr' 6 = .ptr (H.length + 1 + 1 + 1) 0 ∧ H ++ [Wb x] ++ [Wb y] ++ [Wb 0] ++ [Wb (x - y)] = H') ?_ (fun fr' H' h => hK _ _ ?_)
  · clear hK
    repeat' first
      | (with_reducible first | refine Qf (id := 1) [] pn30_1WdD (by kernel_rfl) (by kernel_rfl) ?_ | refine Xt ?_)
      | (with_reducible refine Qp (fun _ x => (inverse_calls _ _)) ?_)
      | (with_reducible refine Qp (fun _ x => (plus_calls _ _ _ _ (by decide))) ?_)
      | (with_reducible refine Jc ?_ ?_)
      | (simp only [Q8, Jk, reduceIte, J0])
      | (simp only [Qa, RA, Jo, Jn, Jp, Q7, Q5, ev, ofValue, Ju, J0, J3, J2, J4, reduceCtorEq, reduceIte, Jx, Qm, Qk, Q1, aun, Qj, Jm, Jh, Q0, Jz, Ji, Qi, Jf, Q6, Jw, Jr, J1, J5, Ja, J9, Jb, J6, J7, Jd, J8, RB, Jy, Je, R8, e0])
      | (simp (disch := (first | omega | (simp only [RO]; done) | assumption | (simp only [RM, Je]; done) | (simp only [RL, Je]; omega))) only [RD, reduceCtorEq, reduceIte, Je, J1, J3, J2, J6, R8, e0])
    all_goals exact ⟨rfl, rfl, rfl, rfl, rfl⟩
  · clear hK
    obtain ⟨k2, k3, k4, k6, rfl⟩ := h
    cases p <;> cases q <;> cases s <;> (try (exfalso; exact absurd hs (by decide)))
    repeat' first
      | (with_reducible first | refine Jj (fun K hK => ?_) | refine Q2 ?_ | refine Qb ?_ | refine Jg ?_ | refine Qf (id := 2) [] pn30_2WdD (by kernel_rfl) (by kernel_rfl) ?_ | refine Jq ?_ | refine Xt ?_)
      | (with_reducible refine Qp (fun _ x => (below_calls _ _)) ?_)
      | ((with_reducible refine Jt (below_calls _ _) ?_); rintro _ _ ⟨rfl, rfl⟩)
      | (simp only [Q8, Jk, reduceIte, J0])
      | ((with_reducible refine hK _ _ ?_); clear hK)
      | (simp only [Qa, RA, Jo, Jn, Jp, Q7, Q5, ev, ofValue, Ju, J0, J3, J2, J4, reduceCtorEq, reduceIte, Jx, Qm, Qk, Q1, aun, Qj, Jm, Jh, Q0, Jz, Ji, Qi, Jf, Q6, Jw, Jr, J1, J5, Ja, J9, Jb, J6, J7, Jd, J8, RB, Jy, Je, R8, k2, k3, k4, k6, hn, hm, hk])
      | (simp (disch := (first | omega | (simp only [RO]; done) | assumption | (simp only [RM, Je]; done) | (simp only [RL, Je]; omega))) only [RD, reduceCtorEq, reduceIte, Je, J1, J3, J2, J6, R8, k2, k3, k4, k6, hn, hm, hk])
    all_goals
      (
       (refine Q9 (rs := [.cell 4 66, .tmp 5]) rfl ?_)
       (simp only [Qt, Q4, Fr.put_some, Fr.put_none, Qg, Qh, Qn, J0, reduceIte, k4])
       (try simp (disch := (first | omega | (simp only [RO]; done) | assumption | (simp only [RM, Je]; done) | (simp only [RL, Je]; omega))) only [RD, reduceCtorEq, reduceIte, Je, J1, J3, J2, J6, R8, k4]))
    all_goals exact ⟨ext6 _ _ _ _, Vq _ _ _⟩
theorem sub_calls (x y : Int) (H : Hp) (hx : In x) (hy : In y) (hs : In (x - y)) : ACalls Tryd.prog 30 [W x, W y] H fun r H' => r = .tup [W (x - y), .bool true] ∧ H = H' :=
  sub_signs x y _ _ _ H (Yp hx) (Yp hy) (Yp hs) fun h => by
    rw [decide_eq_decide] at h ⊢
    omega
end Go.Proofs.YtlgpemndbfclfaaDoor
namespace Go.Proofs.YtlgpemndbfclfaaDoor
open Go.AL Go.PW
theorem Uu : type_of% (Jc @Zn (Jc @Qx (Jc @Zb (@Za)))) := Jc @Zn (Jc @Qx (Jc @Zb (@Za)))
theorem J0y : type_of% (Jc @Xz (Jc @Z6 (@Qx))) := Jc @Xz (Jc @Z6 (@Qx))
abbrev pn68_3WdE : Plan := (.one 1 (.pur 2 (.one 0 (.one 3 (.one 5 (.alt 4 (.one 6 (.one 7 (.one 8 (.one 9 .nil)))) (.one 8 (.one 4 (.one 6 (.one 7 (.one 9 .nil)))))))))))
abbrev pn68_4WdE : Plan := (.one 1 (.pur 2 (.one 0 (.one 3 (.one 4 (.one 5 .nil))))))
set_option maxRecDepth 8000
theorem Gw (x : Int) (H : Hp) (h0 : 0 ≤ x) (h1 : x < Mh) : ACalls Tryd.prog 68 [W x, .bool false] H fun r H' => r = .tup [W x, .bool true] ∧ H = H' := by
  refine ACalls.drop (R := fun r => r = .tup [W x, .bool true]) ?_
  have hn := Yp (x := x) ⟨by have := Ns; omega, h1⟩
  have hx : ¬ x < 0 := by omega
  simp only [hx, decide_false] at hn
  refine Qe Tryd.func68 rfl (by kernel_rfl) (by kernel_rfl) ?_
  repeat' first
    | (with_reducible first | refine Jj (fun K hK => ?_) | refine Q2 ?_ | refine Qb ?_ | refine Jg ?_ | refine Qf (id := 4) [] pn68_4WdE (by kernel_rfl) (by kernel_rfl) ?_ | refine Jq ?_ | refine Xt ?_)
    | (with_reducible refine Qp (fun _ x => (below_calls _ _)) ?_)
    | (simp only [Q8, Jk, reduceIte, J0])
    | ((with_reducible refine hK _ _ ?_); clear hK)
    | (simp only [Qa, RA, Jo, Jn, Jp, Q7, Q5, ev, ofValue, Ju, J0, J3, J2, J4, reduceCtorEq, reduceIte, Jx, Qm, Qk, Q1, aun, Qj, Jm, Jh, Q0, Jz, Ji, Qi, Jf, Q6, Jw, Jr, J1, J5, Ja, J9, Jb, J6, J7, Jd, J8, RB, Jy, Je, Uu, hn])
    | (simp (disch := (first | omega | (simp only [RO]; done) | assumption | (simp only [RM, Je]; done) | (simp only [RL, Je]; omega))) only [RD, reduceCtorEq, reduceIte, Je, J1, J3, J2, J6, Uu, hn])
  all_goals
    (
     (refine Q9 (rs := [.cell 4 66, .tmp 5]) rfl ?_)
     (simp only [Qt, Q4, Fr.put_some, Fr.put_none, Qg, Qh, Qn, J0, reduceIte])
     (try simp (disch := (first | omega | (simp only [RO]; done) | assumption | (simp only [RM, Je]; done) | (simp only [RL, Je]; omega))) only [RD, reduceCtorEq, reduceIte, Je, J1, J3, J2, J6, Uu]))
  all_goals exact ⟨ext4 _ _, Vq _ _ _⟩
theorem Ky (x : Int) (H : Hp) (h0 : 0 ≤ x) (h1 : x ≤ Mh) : ACalls Tryd.prog 68 [W x, .bool true] H fun r H' => r = .tup [W (-x), .bool true] ∧ H = H' := by
  refine ACalls.drop (R := fun r => r = .tup [W (-x), .bool true]) ?_
  have hI : In (-x) := ⟨by omega, by have := Ns; omega⟩
  have hn := Yp hI
  by_cases hx : -x < 0
  · simp only [hx, decide_true] at hn
    refine Qe Tryd.func68 rfl (by kernel_rfl) (by kernel_rfl) ?_
    repeat' first
      | (with_reducible first | refine Jj (fun K hK => ?_) | refine Qb ?_ | refine Jg ?_ | refine Qf (id := 3) [] pn68_3WdE (by kernel_rfl) (by kernel_rfl) ?_ | refine Jq ?_ | refine Xt ?_)
      | (with_reducible refine Qp (fun _ x => (below_calls _ _)) ?_)
      | ((with_reducible refine Jt (neg_calls _ _) ?_); rintro _ _ ⟨rfl, rfl⟩)
      | (with_reducible refine Jc ?_ ?_)
      | (simp only [Q8, Jk, reduceIte, J0])
      | ((with_reducible refine hK _ _ ?_); clear hK)
      | (simp only [Qa, RA, Jo, Jn, Jp, Q7, Q5, ev, ofValue, Ju, J0, J3, J2, J4, reduceCtorEq, reduceIte, Jx, Qm, Qk, Q1, aun, Qj, Jm, Jh, Q0, Jz, Ji, Qi, Jf, Q6, Jw, Jr, J1, J5, Ja, J9, Jb, J6, J7, Jd, J8, RB, Jy, Je, Uu, hn])
      | (simp (disch := (first | omega | (simp only [RO]; done) | assumption | (simp only [RM, Je]; done) | (simp only [RL, Je]; omega))) only [RD, reduceCtorEq, reduceIte, Je, J1, J3, J2, J6, Uu, hn])
    all_goals
      (
       (refine Q9 (rs := [.cell 4 66, .tmp 5]) rfl ?_)
       (simp only [Qt, Q4, Fr.put_some, Fr.put_none, Qg, Qh, Qn, J0, reduceIte])
       (try simp (disch := (first | omega | (simp only [RO]; done) | assumption | (simp only [RM, Je]; done) | (simp only [RL, Je]; omega))) only [RD, reduceCtorEq, reduceIte, Je, J1, J3, J2, J6, Uu]))
    all_goals exact ⟨ext4 _ _, Vq _ _ _⟩
  · have h0 : x = 0 := by omega
    simp only [hx, decide_false] at hn
    have hz : decide (-x % M = 0 % M) = true := by
      rw [J0j hI]
      have : -x = 0 := by omega
      simp [this]
    refine Qe Tryd.func68 rfl (by kernel_rfl) (by kernel_rfl) ?_
    repeat' first
      | (with_reducible first | refine Jj (fun K hK => ?_) | refine Qb ?_ | refine Jg ?_ | refine Qf (id := 3) [] pn68_3WdE (by kernel_rfl) (by kernel_rfl) ?_ | refine Jq ?_ | refine Xt ?_)
      | (with_reducible refine Qp (fun _ x => (below_calls _ _)) ?_)
      | ((with_reducible refine Jt (neg_calls _ _) ?_); rintro _ _ ⟨rfl, rfl⟩)
      | (with_reducible refine Jc ?_ ?_)
      | (simp only [Q8, Jk, reduceIte, J0])
      | ((with_reducible refine hK _ _ ?_); clear hK)
      | (simp only [Qa, RA, Jo, Jn, Jp, Q7, Q5, ev, ofValue, Ju, J0, J3, J2, J4, reduceCtorEq, reduceIte, Jx, Qm, Qk, Q1, aun, Qj, Jm, Jh, Q0, Jz, Ji, Qi, Jf, Q6, Jw, Jr, J1, J5, Ja, J9, Jb, J6, J7, Jd, J8, RB, Jy, Je, Uu, hn, W_eq, hz])
      | (simp (disch := (first | omega | (simp only [RO]; done) | assumption | (simp only [RM, Je]; done) | (simp only [RL, Je]; omega))) only [RD, reduceCtorEq, reduceIte, Je, J1, J3, J2, J6, Uu, hn, W_eq, hz])
    all_goals
      (
       (refine Q9 (rs := [.cell 4 66, .tmp 5]) rfl ?_)
       (simp only [Qt, Q4, Fr.put_some, Fr.put_none, Qg, Qh, Qn, J0, reduceIte])
       (try simp (disch := (first | omega | (simp only [RO]; done) | assumption | (simp only [RM, Je]; done) | (simp only [RL, Je]; omega))) only [RD, reduceCtorEq, reduceIte, Je, J1, J3, J2, J6, Uu]))
    all_goals exact ⟨ext4 _ _, Vq _ _ _⟩
def cnt : List Int → Nat
  | [] => 0
  | x :: xs => if cnt xs = 0 then (if x = 0 then 0 else 1) else cnt xs + 1
theorem J0o : ∀ xs, cnt xs ≤ xs.length
  | [] => Nat.le_refl _
  | x :: xs => by
    have := J0o xs
    simp only [cnt, List.length_cons]
    split
    · split <;> omega
    · omega
theorem cnt_above : ∀ (xs : List Int) (j : Nat), cnt xs ≤ j → xs.getD j 0 = 0
  | [], j, _ => by simp
  | x :: xs, j, h => by
    have ih := cnt_above xs
    simp only [cnt] at h
    cases j with
    | zero =>
      split at h
      · split at h
        · simpa
        · omega
      · omega
    | succ j =>
      rw [List.getD_cons_succ]
      apply ih
      split at h
      · omega
      · omega
theorem cnt_top : ∀ (xs : List Int), 0 < cnt xs → xs.getD (cnt xs - 1) 0 ≠ 0
  | [], h => by simp [cnt] at h
  | x :: xs, h => by
    have ih := cnt_top xs
    simp only [cnt] at h ⊢
    split
    · rename_i h0
      rw [if_pos h0] at h
      split
      · rename_i h1; rw [if_pos h1] at h; omega
      · rename_i h1; simpa
    · rename_i h0
      obtain ⟨m, hm⟩ : ∃ m, cnt xs = m + 1 := ⟨cnt xs - 1, by omega⟩
      have := ih (by omega)
      rw [hm] at this ⊢
      simpa using this
theorem cnt_uniq {xs : List Int} {n : Nat} (h1 : ∀ j, n ≤ j → xs.getD j 0 = 0) (h2 : n = 0 ∨ xs.getD (n - 1) 0 ≠ 0) : n = cnt xs := by
  have a := cnt_above xs
  have b := cnt_top xs
  rcases Nat.lt_trichotomy n (cnt xs) with h | h | h
  · exact absurd (h1 (cnt xs - 1) (by omega)) (b (by omega))
  · exact h
  · rcases h2 with h2 | h2
    · omega
    · exact absurd (a (n - 1) (by omega)) h2
theorem count_calls (v : AV) (xs : List Int) (H : Hp) (hv : Ints H .u64 v xs) (hx : xs.length < 1000000) : ACalls Tryd.prog 67 [v] H fun r H' => r = .int .i64 (cnt xs : Int) ∧ H = H' := by
  refine Qe Tryd.func67 rfl (by kernel_rfl) (by kernel_rfl) ?_
  repeat' first
    | (with_reducible first | refine Jj (fun K hK => ?_) | refine Js ?_ | refine Jg ?_)
    | (simp only [Q8, Jk, reduceIte, J0])
    | ((with_reducible refine hK _ _ ?_); clear hK)
    | (simp only [Qa, RA, Jo, Jn, Jp, Q7, Q5, ev, ofValue, Ju, J0, J3, J2, J4, reduceCtorEq, reduceIte, Jx, Qm, Qk, Q1, aun, Qj, Jm, Jh, Q0, Jz, Ji, Qi, Jf, Q6, Jw, Jr, J1, J5, Ja, J9, Jb, J6, J7, Jd, J8, RB, Jy, Je, J0y, hv.rd.len Xo])
  refine Xr (fun m fr' H' => ∃ n : Nat, m = n ∧ n ≤ xs.length ∧ fr' 0 = v ∧ fr' 3 = .int .i64 (n : Int) ∧ (∀ j, n ≤ j → xs.getD j 0 = 0) ∧ H = H') (m := xs.length) ⟨xs.length, rfl, Nat.le_refl _, rfl, rfl, fun j hj => by simp [List.getD, List.getElem?_eq_none hj], rfl⟩ ?_
  rintro m fr' H' ⟨n, rfl, hn, k0, k3, hz, rfl⟩
  by_cases h0 : 0 < m
  · have e1 : IntKind.i64.wrap ((m : Int) - 1) = ((m - 1 : Nat) : Int) := by rw [Q3 (by omega) (by omega)]; omega
    repeat' first
      | (with_reducible first | refine Jj (fun K hK => ?_) | refine Js ?_ | refine Q2 ?_ | refine Qc ?_ | refine Qb ?_ | refine Jg ?_ | refine Jq ?_)
      | (with_reducible refine Jv (fun hc => ?_) (fun hc => ?_) <;> (try simp only [RC] at hc) <;> (try (exfalso; first | omega | contradiction)))
      | (with_reducible refine X3 (fun hc => ?_) (fun hc => ?_) <;> (try simp only [RC] at hc) <;> (try (exfalso; first | omega | contradiction)))
      | (simp only [Q8, Jk, reduceIte, J0])
      | ((with_reducible refine hK _ _ ?_); clear hK)
      | (clear hK; (with_reducible refine hK _ _ ?_); clear hK)
      | (simp only [Qa, RA, Jo, Jn, Jp, Q7, Q5, ev, ofValue, Ju, J0, J3, J2, J4, reduceCtorEq, reduceIte, Jx, Qm, Qk, Q1, aun, Qj, Jm, Jh, Q0, Jz, Ji, Qi, Jf, Q6, Jw, Jr, J1, J5, Ja, J9, Jb, J6, J7, Jd, J8, RB, Jy, Je, J0y, k0, k3, e1])
      | (simp (disch := first | omega | (simp only [RO]; done) | assumption) only [RS, hv.rd.at1 Xo Xa, hv.load1 Zx, Xc, Xe, Xb])
    · refine ⟨m - 1, by omega, m - 1, rfl, by omega, rfl, fun j hj => ?_⟩
      by_cases he : j = m - 1
      · subst he; assumption
      · exact hz j (by omega)
    · skip
      (
       (refine Q9 (rs := [.tmp 2]) rfl ?_)
       (simp only [Qt, Q4, Fr.put_some, Fr.put_none, Qg, Qh, Qn, J0, reduceIte, k3])
       (try simp (disch := (first | omega | (simp only [RO]; done) | assumption | (simp only [RM, Je]; done) | (simp only [RL, Je]; omega))) only [RD, reduceCtorEq, reduceIte, Je, J1, J3, J2, J6, J0y, k3]))
      rw [cnt_uniq hz (.inr (by assumption))]
  · skip
    repeat' first
      | (with_reducible first | refine Jj (fun K hK => ?_) | refine Qc ?_ | refine Qb ?_ | refine Jg ?_ | refine Jq ?_)
      | (with_reducible refine Jv (fun hc => ?_) (fun hc => ?_) <;> (try simp only [RC] at hc) <;> (try (exfalso; first | omega | contradiction)))
      | (with_reducible refine X3 (fun hc => ?_) (fun hc => ?_) <;> (try simp only [RC] at hc) <;> (try (exfalso; first | omega | contradiction)))
      | (simp only [Q8, Jk, reduceIte, J0])
      | ((with_reducible refine hK _ _ ?_); clear hK)
      | (clear hK; (with_reducible refine hK _ _ ?_); clear hK)
      | (simp only [Qa, RA, Jo, Jn, Jp, Q7, Q5, ev, ofValue, Ju, J0, J3, J2, J4, reduceCtorEq, reduceIte, Jx, Qm, Qk, Q1, aun, Qj, Jm, Jh, Q0, Jz, Ji, Qi, Jf, Q6, Jw, Jr, J1, J5, Ja, J9, Jb, J6, J7, Jd, J8, RB, Jy, Je, J0y, k0, k3])
      | (simp (disch := first | omega | (simp only [RO]; done) | assumption) only [RS, Xc, Xe, Xb])
    (
     (refine Q9 (rs := [.tmp 2]) rfl ?_)
     (simp only [Qt, Q4, Fr.put_some, Fr.put_none, Qg, Qh, Qn, J0, reduceIte, k3])
     (try simp (disch := (first | omega | (simp only [RO]; done) | assumption | (simp only [RM, Je]; done) | (simp only [RL, Je]; omega))) only [RD, reduceCtorEq, reduceIte, Je, J1, J3, J2, J6, J0y, k3]))
    rw [← cnt_uniq hz (.inl (by omega))]
end Go.Proofs.YtlgpemndbfclfaaDoor
namespace Go.Proofs.YtlgpemndbfclfaaDoor
open Go.AL Go.PW
theorem tf55WdF : type_of% (@Qx) := @Qx
theorem tf85WdF : type_of% (Jc @Xz (Jc @tyb5 (Jc @Gj (Jc @Qx (Jc @cv5_3 (@cv53_5)))))) := Jc @Xz (Jc @tyb5 (Jc @Gj (Jc @Qx (Jc @cv5_3 (@cv53_5)))))
theorem tf80WdF : type_of% (Jc @Xz (@Qx)) := Jc @Xz (@Qx)
set_option maxRecDepth 8000
theorem mul64_calls (x y : Int) (H : Hp) (hx : 0 ≤ x ∧ x < Bs) (hy : 0 ≤ y ∧ y < Bs) : ACalls Tryd.prog 55 [.int .u64 x, .int .u64 y] H fun r H' => r = .tup [.int .u64 (x * y / Bs), .int .u64 (x * y % Bs)] ∧ H = H' := by
  refine Qe Tryd.func55 rfl (by kernel_rfl) (by kernel_rfl) ?_
  repeat' first
    | (with_reducible first | refine Jj (fun K hK => ?_) | refine Qb ?_ | refine Jg ?_)
    | (simp only [Q8, Jk, reduceIte, J0])
    | ((with_reducible refine hK _ _ ?_); clear hK)
    | (simp only [Qa, RA, Jo, Jn, Jp, Q7, Q5, ev, ofValue, Ju, J0, J3, J2, J4, reduceCtorEq, reduceIte, Jx, Qm, Qk, Q1, aun, Qj, Jm, Jh, Q0, Jz, Ji, Qi, Jf, Q6, Jw, Jr, J1, J5, Ja, J9, Jb, J6, J7, Jd, J8, RB, Jy, Je, tf55WdF])
  (
   (refine Q9 (rs := [.tmp 4, .tmp 5]) rfl ?_)
   (simp only [Qt, Q4, Fr.put_some, Fr.put_none, Qg, Qh, Qn, J0, reduceIte])
   (try simp (disch := (first | omega | (simp only [RO]; done) | assumption | (simp only [RM, Je]; done) | (simp only [RL, Je]; omega))) only [RD, reduceCtorEq, reduceIte, Je, J1, J3, J2, J6, tf55WdF]))
  have h := mul_high hx hy
  simp only at h
  rw [← h, low32 hx.1 hx.2, low32 hy.1 hy.2]
  have hT : ∀ n : Int, bits .and .u64 (IntKind.u64.wrap n) 4294967295 = IntKind.u64.wrap n % 4294967296 := fun n => by
    rw [Xp]; exact low32 (Int.emod_nonneg _ (by decide)) (Int.emod_lt_of_pos _ (by decide))
  rw [hT]
  simp only [Xp]
def lenTab : ByteArray := { data := (([0, 1, 2, 2, 3, 3, 3, 3, 4, 4, 4, 4, 4, 4, 4, 4, 5, 5, 5, 5, 5, 5, 5, 5, 5, 5, 5, 5, 5, 5, 5, 5, 6, 6, 6, 6, 6, 6, 6, 6, 6, 6, 6, 6, 6, 6, 6, 6, 6, 6, 6, 6, 6, 6, 6, 6, 6, 6, 6, 6, 6, 6, 6, 6].append [7, 7, 7, 7, 7, 7, 7, 7, 7, 7, 7, 7, 7, 7, 7, 7, 7, 7, 7, 7, 7, 7, 7, 7, 7, 7, 7, 7, 7, 7, 7, 7, 7, 7, 7, 7, 7, 7, 7, 7, 7, 7, 7, 7, 7, 7, 7, 7, 7, 7, 7, 7, 7, 7, 7, 7, 7, 7, 7, 7, 7, 7, 7, 7]).append ([8, 8, 8, 8, 8, 8, 8, 8, 8, 8, 8, 8, 8, 8, 8, 8, 8, 8, 8, 8, 8, 8, 8, 8, 8, 8, 8, 8, 8, 8, 8, 8, 8, 8, 8, 8, 8, 8, 8, 8, 8, 8, 8, 8, 8, 8, 8, 8, 8, 8, 8, 8, 8, 8, 8, 8, 8, 8, 8, 8, 8, 8, 8, 8].append [8, 8, 8, 8, 8, 8, 8, 8, 8, 8, 8, 8, 8, 8, 8, 8, 8, 8, 8, 8, 8, 8, 8, 8, 8, 8, 8, 8, 8, 8, 8, 8, 8, 8, 8, 8, 8, 8, 8, 8, 8, 8, 8, 8, 8, 8, 8, 8, 8, 8, 8, 8, 8, 8, 8, 8, 8, 8, 8, 8, 8, 8, 8, 8])).toArray }
theorem lenTab_at : ∀ i : Fin 256, (lenTab.data[i.1]?).map (fun b => b.toNat) = some (bl i.1) := by decide +kernel
theorem u8_wrap (n : Int) : IntKind.u8.wrap n = n % 256 := by
  have e : ((2 : Int) ^ IntKind.u8.bits) = 256 := by decide
  simp only [IntKind.wrap, IntKind.signed, Bool.false_and, Bool.false_eq_true, if_false, e]
theorem len_index (n : Int) (k : IntKind) : We Tryd.prog 9 (.str { data := (([0, 1, 2, 2, 3, 3, 3, 3, 4, 4, 4, 4, 4, 4, 4, 4, 5, 5, 5, 5, 5, 5, 5, 5, 5, 5, 5, 5, 5, 5, 5, 5, 6, 6, 6, 6, 6, 6, 6, 6, 6, 6, 6, 6, 6, 6, 6, 6, 6, 6, 6, 6, 6, 6, 6, 6, 6, 6, 6, 6, 6, 6, 6, 6].append [7, 7, 7, 7, 7, 7, 7, 7, 7, 7, 7, 7, 7, 7, 7, 7, 7, 7, 7, 7, 7, 7, 7, 7, 7, 7, 7, 7, 7, 7, 7, 7, 7, 7, 7, 7, 7, 7, 7, 7, 7, 7, 7, 7, 7, 7, 7, 7, 7, 7, 7, 7, 7, 7, 7, 7, 7, 7, 7, 7, 7, 7, 7, 7]).append ([8, 8, 8, 8, 8, 8, 8, 8, 8, 8, 8, 8, 8, 8, 8, 8, 8, 8, 8, 8, 8, 8, 8, 8, 8, 8, 8, 8, 8, 8, 8, 8, 8, 8, 8, 8, 8, 8, 8, 8, 8, 8, 8, 8, 8, 8, 8, 8, 8, 8, 8, 8, 8, 8, 8, 8, 8, 8, 8, 8, 8, 8, 8, 8].append [8, 8, 8, 8, 8, 8, 8, 8, 8, 8, 8, 8, 8, 8, 8, 8, 8, 8, 8, 8, 8, 8, 8, 8, 8, 8, 8, 8, 8, 8, 8, 8, 8, 8, 8, 8, 8, 8, 8, 8, 8, 8, 8, 8, 8, 8, 8, 8, 8, 8, 8, 8, 8, 8, 8, 8, 8, 8, 8, 8, 8, 8, 8, 8])).toArray }) (.int k (IntKind.u8.wrap n)) = some (.int .u8 (bl (n % 256).toNat : Nat)) := by
  show We Tryd.prog 9 (.str lenTab) (.int k (IntKind.u8.wrap n)) = _
  rw [u8_wrap]
  have h0 : 0 ≤ n % 256 := Int.emod_nonneg _ (by decide)
  have h1 : n % 256 < 256 := Int.emod_lt_of_pos _ (by decide)
  have h := lenTab_at ⟨(n % 256).toNat, by omega⟩
  simp only [We, und9]
  rw [if_pos h0]
  obtain ⟨b, hb, hb2⟩ := Option.map_eq_some_iff.1 h
  rw [hb]
  simp only [Option.map_some, ← hb2]
theorem bl_step {x k : Int} {n : Nat} (hk : k = 2 ^ n) (h : k ≤ x) : bl x.toNat = n + bl (x / k).toNat := by
  subst hk
  have hp : (0 : Int) < 2 ^ n := Int.pow_pos (by decide)
  obtain ⟨a, rfl⟩ := Int.eq_ofNat_of_zero_le (show 0 ≤ x by omega)
  have h' : 2 ^ n ≤ a := by
    have : ((2 ^ n : Nat) : Int) ≤ a := by simpa using h
    omega
  rw [Int.toNat_natCast, bl_div h']
  congr 2
def l3 (z : Int) : Nat := if 256 ≤ z then 8 + bl (z / 256).toNat else bl z.toNat
def l2 (y : Int) : Nat := if 65536 ≤ y then 16 + l3 (y / 65536) else l3 y
def l1 (x : Int) : Nat := if 4294967296 ≤ x then 32 + l2 (x / 4294967296) else l2 x
theorem l3_eq (z : Int) : l3 z = bl z.toNat := by
  unfold l3; split
  · rename_i h; rw [bl_step (n := 8) (by decide) h]
  · rfl
theorem l2_eq (z : Int) : l2 z = bl z.toNat := by
  unfold l2; simp only [l3_eq]; split
  · rename_i h; rw [bl_step (n := 16) (by decide) h]
  · rfl
theorem l1_eq (z : Int) : l1 z = bl z.toNat := by
  unfold l1; simp only [l2_eq]; split
  · rename_i h; rw [bl_step (n := 32) (by decide) h]
  · rfl
theorem len64_calls (x : Int) (H : Hp) (hx : 0 ≤ x ∧ x < Bs) : ACalls Tryd.prog 85 [.int .u64 x] H fun r H' => r = .int .i64 (bl x.toNat : Nat) ∧ H = H' := by
  have hb : ∀ n : Int, bl (n % 256).toNat ≤ 8 := fun n => bl_le (by have := Int.emod_nonneg n (b := 256) (by decide); have := Int.emod_lt_of_pos n (b := 256) (by decide); omega)
  have hw : ∀ n : Int, IntKind.i64.wrap ((bl (n % 256).toNat : Nat) : Int) = (bl (n % 256).toNat : Nat) := fun n => Q3 (by omega) (by have := hb n; omega)
  have w0 : IntKind.i64.wrap (0 + 16) = 16 := by decide
  have w1 : IntKind.i64.wrap (32 + 16) = 48 := by decide
  have w2 : IntKind.i64.wrap (0 + 8) = 8 := by decide
  have w3 : IntKind.i64.wrap (16 + 8) = 24 := by decide
  have w4 : IntKind.i64.wrap (32 + 8) = 40 := by decide
  have w5 : IntKind.i64.wrap (48 + 8) = 56 := by decide
  have hw2 : ∀ (c n : Int), 0 ≤ c → c ≤ 56 → IntKind.i64.wrap (c + (bl (n % 256).toNat : Nat)) = c + (bl (n % 256).toNat : Nat) := fun c n h0 h1 => Q3 (by omega) (by have := hb n; omega)
  simp only [Bs] at hx
  refine Qe Tryd.func85 rfl (by kernel_rfl) (by kernel_rfl) ?_
  repeat' first
    | (with_reducible first | refine Jj (fun K hK => ?_) | refine Q2 ?_ | refine Qb ?_ | refine Jg ?_ | refine Jq ?_)
    | (with_reducible refine X3 (fun hc => ?_) (fun hc => ?_) <;> (try simp only [RC] at hc) <;> (try (exfalso; first | omega | contradiction)))
    | (simp only [Q8, Jk, reduceIte, J0])
    | ((with_reducible refine hK _ _ ?_); clear hK)
    | (simp only [Qa, RA, Jo, Jn, Jp, Q7, Q5, ev, ofValue, Ju, J0, J3, J2, J4, reduceCtorEq, reduceIte, Jx, Qm, Qk, Q1, aun, Qj, Jm, Jh, Q0, Jz, Ji, Qi, Jf, Q6, Jw, Jr, J1, J5, Ja, J9, Jb, J6, J7, Jd, J8, RB, Jy, Je, tf85WdF, len_index, hw, w0, w1, w2, w3, w4, w5])
  all_goals
    (
     (refine Q9 (rs := [.tmp 2]) rfl ?_)
     (simp only [Qt, Q4, Fr.put_some, Fr.put_none, Qg, Qh, Qn, J0, reduceIte])
     (try simp (disch := (first | omega | (simp only [RO]; done) | assumption | (simp only [RM, Je]; done) | (simp only [RL, Je]; omega))) only [RD, reduceCtorEq, reduceIte, Je, J1, J3, J2, J6, tf85WdF]))
  all_goals
    rw [hw2 _ _ (by decide) (by decide), ← l1_eq x]
    unfold l1
    split <;> (try (exfalso; omega))
    unfold l2
    split <;> (try (exfalso; omega))
    unfold l3
    split <;> (try (exfalso; omega))
    rw [Int.emod_eq_of_lt (by omega) (by omega)]
    congr 1 <;> omega
theorem lz64_calls (x : Int) (H : Hp) (hx : 0 ≤ x ∧ x < Bs) : ACalls Tryd.prog 80 [.int .u64 x] H fun r H' => r = .int .i64 ((64 - bl x.toNat : Nat) : Int) ∧ H = H' := by
  have hb : bl x.toNat ≤ 64 := bl_le (by simp only [Bs] at hx; omega)
  have e : IntKind.i64.wrap (64 - (bl x.toNat : Nat)) = ((64 - bl x.toNat : Nat) : Int) := by rw [Q3 (by omega) (by omega)]; omega
  refine Qe Tryd.func80 rfl (by kernel_rfl) (by kernel_rfl) ?_
  repeat' first
    | (with_reducible first | refine Jj (fun K hK => ?_) | refine Qb ?_ | refine Jg ?_)
    | ((with_reducible refine Jt (len64_calls _ _ hx) ?_); rintro _ _ ⟨rfl, rfl⟩)
    | (simp only [Q8, Jk, reduceIte, J0])
    | ((with_reducible refine hK _ _ ?_); clear hK)
    | (simp only [Qa, RA, Jo, Jn, Jp, Q7, Q5, ev, ofValue, Ju, J0, J3, J2, J4, reduceCtorEq, reduceIte, Jx, Qm, Qk, Q1, aun, Qj, Jm, Jh, Q0, Jz, Ji, Qi, Jf, Q6, Jw, Jr, J1, J5, Ja, J9, Jb, J6, J7, Jd, J8, RB, Jy, Je, tf80WdF, e])
  (
   (refine Q9 (rs := [.tmp 2]) rfl ?_)
   (simp only [Qt, Q4, Fr.put_some, Fr.put_none, Qg, Qh, Qn, J0, reduceIte])
   (try simp (disch := (first | omega | (simp only [RO]; done) | assumption | (simp only [RM, Je]; done) | (simp only [RL, Je]; omega))) only [RD, reduceCtorEq, reduceIte, Je, J1, J3, J2, J6, tf80WdF]))
end Go.Proofs.YtlgpemndbfclfaaDoor

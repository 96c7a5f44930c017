/- Part 4 of the proof of the law CirclesMeet: lemmas on the model's code, on this program's functions, on numbers. No condition. -/
import Derived.Test.YtigddjlhncnnoaaGreatDoorZCirclesMeetac
set_option linter.unusedVariables false
set_option linter.unusedSimpArgs false
open Nat renaming reduceEqDiff → J0, reduceLeDiff → J1, reduceMul → J2, reduceAdd → J3, reduceSub → J4, reduceLT → J5
open Int renaming reduceToNat → J6, reducePow → J7, reduceNeg → J8, reduceLT → J9, reduceLE → Ja, reduceEq → Jb
open And renaming intro → Jc
open Go.IntKind renaming bits → Jd
open Go.PW renaming dig_length → Je
namespace Go.Proofs.YtigddjlhncnnoaaGreatDoor
open Go.AL Go.PW
theorem tf154RfV : type_of% (Jc @Xw (Jc @Z1 (@Xc))) := Jc @Xw (Jc @Z1 (@Xc))
abbrev pn154_8RfV : Plan := (.one 0 (.one 1 (.one 2 (.one 3 (.one 4 (.one 5 (.one 6 (.one 7 (.one 8 (.one 9 (.one 10 (.one 11 (.one 12 (.one 13 (.one 14 (.one 15 .nil))))))))))))))))
abbrev pn154_10RfV : Plan := (.one 0 (.one 1 (.one 2 (.one 3 (.one 4 (.one 5 (.one 6 (.one 7 (.one 8 (.one 9 (.one 10 (.one 11 (.one 12 (.one 13 (.one 14 (.one 15 (.one 16 (.one 17 .nil))))))))))))))))))
set_option maxRecDepth 8000
theorem or_zero {v : Int} (h0 : 0 ≤ v) (h1 : v < Bs) : bits .or .u64 0 v = v := by
  have h := or_low (x := v) (y := 0) (s := 0) (by omega) h0 (Int.le_refl _) (by decide)
  rw [Int.pow_zero, Int.mul_one, Int.emod_eq_of_lt h0 h1, Int.zero_add] at h
  exact h
set_option maxHeartbeats 4000000 in
theorem Rleft_calls (t : AV) (xs : List Int) (s : Nat) (H : Hp) (ht : Ints H .u64 t xs) (hx : Limbs xs) (l0 : 0 < xs.length) (lx : xs.length < 90000) (hs : s < 64) : ACalls Tryz.prog 154 [t, .int .i64 (s : Int)] H fun r H' => ∃ os, r = .sl H.length 0 (tl os (xs.length + 1)) (xs.length + 1) ∧ os.length = xs.length + 1 ∧ Limbs os ∧ val os = val xs * 2 ^ s ∧ H ++ [Ub os] = H' := by
  have l1 := ht.rd.len Z8
  obtain ⟨n, hn⟩ : ∃ n, n = xs.length := ⟨_, rfl⟩
  rw [← hn] at l1 ⊢
  have fz : ((n : Int) = 0) = False := eq_false (by omega)
  have hmk := fun H0 => J0b H0 (n + 1) .i64 (by omega)
  have hps := Zb s
  have w8 : IntKind.u64.bits = 64 := by decide
  have m1 : (s ≤ 64) = True := eq_true (by omega)
  have m2 : (64 - s ≤ 64) = True := eq_true (by omega)
  have f0 : ((s : Int) < 0) = False := eq_false (by omega)
  have f1 : (((64 - s : Nat) : Int) < 0) = False := eq_false (by omega)
  have w2 : IntKind.i64.wrap (64 - (s : Int)) = ((64 - s : Nat) : Int) := by rw [Qe (by omega) (by omega)]; omega
  have d1 : IntKind.i64.wrap ((s : Int).tdiv 64) = 0 := by
    rw [Int.tdiv_eq_ediv_of_nonneg (by omega), Int.ediv_eq_zero_of_lt (by omega) (by omega)]; decide
  have d2 : (s : Int).tmod 64 = (s : Int) := by rw [Int.tmod_eq_emod_of_nonneg (by omega), Int.emod_eq_of_lt (by omega) (by omega)]
  have a1 : IntKind.i64.wrap ((n : Int) + 0) = (n : Int) := by rw [Int.add_zero]; exact Qe (by omega) (by omega)
  have a2 : IntKind.i64.wrap ((n : Int) + 1) = ((n + 1 : Nat) : Int) := by rw [Qe (by omega) (by omega)]; omega
  refine Qo Tryz.func154 rfl (by kernel_rfl) (by kernel_rfl) ?_
  repeat' first
    | (with_reducible first | refine Jh (fun K hK => ?_) | refine Jx ?_ | refine Q4 ?_ | refine Jg ?_ | refine Jr ?_)
    | (simp only [Qb, Jo, reduceIte, J0])
    | ((with_reducible refine hK _ _ ?_); clear hK)
    | (simp only [Q9, RA, Jn, Jm, Jp, Q8, Q6, ev, ofValue, Ju, J0, J3, J2, J4, reduceCtorEq, reduceIte, Jv, Qm, Qk, Q0, aun, Qj, Jk, Ji, Jz, Jy, Jj, Qi, Jf, Q7, Q2, Js, J1, J5, Ja, J9, Jb, J6, J7, Jd, J8, RB, Jw, Je, tf154RfV, l1, fz, d1, d2, a1, a2, hmk])
  refine Xi (fun m fr' H1 => ∃ (i : Nat) (os : List Int), m = n - i ∧ i ≤ n ∧ fr' 0 = t ∧ fr' 1 = .int .i64 (s : Int) ∧ fr' 5 = .sl H.length 0 (n + 1) (n + 1) ∧ fr' 6 = .int .i64 (s : Int) ∧ fr' 7 = .int .i64 (i : Int) ∧ os.length = n + 1 ∧ Limbs os ∧ (∀ k, i < k → os.getD k 0 = 0) ∧ os.getD i 0 < 2 ^ s ∧ val os = val (xs.take i) * 2 ^ s ∧ H ++ [Ub os] = H1) (m := n)
    ⟨0, List.replicate (n + 1) 0, by omega, by omega, rfl, rfl, rfl, rfl, rfl, by simp, Limbs.replicate _, fun k _ => by simp [List.getD, List.getElem?_replicate]; split <;> rfl, by simp [List.getD]; exact hps, by rw [Gw]; simp [val], rfl⟩ ?_
  rintro m fr' H1 ⟨i, os, rfl, hi, k0, k1, k5, k6, k7, hol, hos, hok, hoi, hov, rfl⟩
  have hg : ∀ ys, X3 (H ++ [Ub ys]) H.length = some (Ub ys) := fun ys => X7 rfl
  by_cases hlt : i < n
  · have e0 : IntKind.i64.wrap ((i : Int) + 0) = (i : Int) := by rw [Int.add_zero]; exact Qe (by omega) (by omega)
    have e1 : IntKind.i64.wrap ((i : Int) + 1) = ((i + 1 : Nat) : Int) := by rw [Qe (by omega) (by omega)]; omega
    have hd := hx.get i
    have hoi0 := hos.get i
    have hset : ∀ ys z, (H ++ [Ub ys]).set H.length (Ub z) = H ++ [Ub z] := fun ys z => by
      rw [List.set_append_right _ _ (Nat.le_refl _), Nat.sub_self]; rfl
    obtain ⟨sp1, sp2⟩ := shl_split (x := xs.getD i 0) (s := s) (by omega) hd.1
    have hsh := shr_lt (x := xs.getD i 0) (s := s) (by omega) hd.2
    have hsh0 : 0 ≤ xs.getD i 0 / 2 ^ (64 - s) := Int.ediv_nonneg hd.1 (Int.le_of_lt (Zb _))
    have hor := or_low (x := xs.getD i 0) (y := os.getD i 0) (s := s) hs hd.1 hoi0.1 hoi
    obtain ⟨a, ha⟩ : ∃ a, a = xs.getD i 0 * 2 ^ s % Bs := ⟨_, rfl⟩
    obtain ⟨b, hb⟩ : ∃ b, b = xs.getD i 0 / 2 ^ (64 - s) := ⟨_, rfl⟩
    rw [← ha] at hor sp1
    rw [← hb] at sp1 hsh hsh0
    have ha0 : 0 ≤ a := by rw [ha]; exact Int.emod_nonneg _ (by decide)
    have haB : os.getD i 0 + a < Bs := by
      have h1 : bits .or .u64 (os.getD i 0) a = os.getD i 0 + a := hor
      have h2 : a ≤ Bs - 2 ^ s := by
        rw [ha, sp2]
        have h3 := Int.emod_lt_of_pos (xs.getD i 0) (Zb (64 - s))
        have h4 := Int.mul_le_mul_of_nonneg_right (show xs.getD i 0 % 2 ^ (64 - s) ≤ 2 ^ (64 - s) - 1 by omega) (Int.le_of_lt hps)
        have h5 := Ug (s := s) (by omega)
        rw [Int.sub_mul, Int.mul_comm (2 ^ (64 - s)), h5] at h4
        omega
      omega
    have hbB : b < Bs := by
      have h5 := Ug (s := s) (by omega)
      have := Int.mul_le_mul_of_nonneg_left (show (1 : Int) ≤ 2 ^ (64 - s) by have := Zb (64 - s); omega) (Int.le_of_lt hps)
      omega
    have ld := Vp (hg os) (i := i) (by omega)
    have st := Vh (hg os) (i := i) (by omega) (os.getD i 0 + a)
    rw [hset] at st
    have hvt := Xk xs (i := i) (by omega)
    have hv1 := Vt os (i := i) (by omega) (os.getD i 0 + a)
    by_cases c1 : 0 < s
    · have g1 : ((s : Int) > 0) = True := eq_true (by omega)
      have hz : (os.set i (os.getD i 0 + a)).getD (i + 1) 0 = 0 := by rw [Xs _ _ (by omega), if_neg (by omega)]; exact hok _ (by omega)
      have ld2 := Vp (hg (os.set i (os.getD i 0 + a))) (i := i + 1) (by rw [List.length_set]; omega)
      rw [hz] at ld2
      have hoz := or_zero hsh0 hbB
      have st2 := Vh (hg (os.set i (os.getD i 0 + a))) (i := i + 1) (by rw [List.length_set]; omega) b
      rw [hset] at st2
      have hv2 := Vt (os.set i (os.getD i 0 + a)) (i := i + 1) (by rw [List.length_set]; omega) b
      repeat' first
        | (with_reducible first | refine Jh (fun K hK => ?_) | refine Jx ?_ | refine Q4 ?_ | refine Jg ?_ | refine Q1 (id := 8) [] pn154_8RfV (by kernel_rfl) (by kernel_rfl) ?_ | refine Q1 (id := 10) [] pn154_10RfV (by kernel_rfl) (by kernel_rfl) ?_ | refine Jr ?_)
        | (with_reducible refine X4 (fun hc => ?_) (fun hc => ?_) <;> (try simp only [RC] at hc) <;> (try (exfalso; first | omega | contradiction)))
        | (simp only [Qb, Jo, reduceIte, J0])
        | ((with_reducible refine hK _ _ ?_); clear hK)
        | (simp only [Q9, RA, Jn, Jm, Jp, Q8, Q6, ev, ofValue, Ju, J0, J3, J2, J4, reduceCtorEq, reduceIte, Jv, Qm, Qk, Q0, aun, Qj, Jk, Ji, Jz, Jy, Jj, Qi, Jf, Q7, Q2, Js, J1, J5, Ja, J9, Jb, J6, J7, Jd, J8, RB, Jw, Je, tf154RfV, l1, k0, k1, k5, k6, k7, e0, e1, d1, f0, f1, m1, m2, w2, w8, Zr, ← ha, ← hb, ld, hor, st, g1, ld2, hoz, st2])
        | (simp (disch := first | omega | (simp only [RO]; done) | assumption) only [RS, ht.rd.at1 Z8 Z4, (ht.push _).load1 Yt, Xa, Xb, X9])
      all_goals
        refine ⟨_, by omega, i + 1, _, rfl, by omega, rfl, by rw [List.length_set, List.length_set]; exact hol, (hos.set i ⟨by omega, haB⟩).set (i + 1) ⟨hsh0, hbB⟩, fun k hk => ?_, ?_, ?_, rfl⟩
        · rw [Xs _ _ (by rw [List.length_set]; omega), if_neg (by omega), Xs _ _ (by omega), if_neg (by omega)]; exact hok k (by omega)
        · rw [Xs _ _ (by rw [List.length_set]; omega), if_pos rfl]; exact hsh
        · rw [hv2, hz, hv1, hov, hvt, Int.pow_succ, Int.add_mul]
          have e : Bs ^ i * xs.getD i 0 * 2 ^ s = Bs ^ i * (a + Bs * b) := by rw [Int.mul_assoc, sp1]
          rw [e]
          generalize Bs ^ i = p at *
          generalize Bs = B at *
          grind
    · have g1 : ((s : Int) > 0) = False := eq_false (by omega)
      have hs0 : s = 0 := by omega
      have hb0 : b = 0 := by
        rw [hb]
        exact Int.ediv_eq_zero_of_lt hd.1 (by have e : (2 : Int) ^ (64 - s) = Bs := by rw [hs0]; decide
                                              rw [e]; exact hd.2)
      repeat' first
        | (with_reducible first | refine Jh (fun K hK => ?_) | refine Jx ?_ | refine Q4 ?_ | refine Jg ?_ | refine Q1 (id := 8) [] pn154_8RfV (by kernel_rfl) (by kernel_rfl) ?_ | refine Jr ?_)
        | (with_reducible refine X4 (fun hc => ?_) (fun hc => ?_) <;> (try simp only [RC] at hc) <;> (try (exfalso; first | omega | contradiction)))
        | (simp only [Qb, Jo, reduceIte, J0])
        | ((with_reducible refine hK _ _ ?_); clear hK)
        | (simp only [Q9, RA, Jn, Jm, Jp, Q8, Q6, ev, ofValue, Ju, J0, J3, J2, J4, reduceCtorEq, reduceIte, Jv, Qm, Qk, Q0, aun, Qj, Jk, Ji, Jz, Jy, Jj, Qi, Jf, Q7, Q2, Js, J1, J5, Ja, J9, Jb, J6, J7, Jd, J8, RB, Jw, Je, tf154RfV, l1, k0, k1, k5, k6, k7, e0, e1, d1, f0, m1, w8, Zr, ← ha, ld, hor, st, g1])
        | (simp (disch := first | omega | (simp only [RO]; done) | assumption) only [RS, ht.rd.at1 Z8 Z4, (ht.push _).load1 Yt, Xa, Xb, X9])
      all_goals
        refine ⟨_, by omega, i + 1, _, rfl, by omega, rfl, by rw [List.length_set]; exact hol, hos.set i ⟨by omega, haB⟩, fun k hk => ?_, ?_, ?_, rfl⟩
        · rw [Xs _ _ (by omega), if_neg (by omega)]; exact hok k (by omega)
        · rw [Xs _ _ (by omega), if_neg (by omega), hok (i + 1) (by omega)]; exact hps
        · rw [hv1, hov, hvt, Int.add_mul, Int.mul_assoc, sp1, hb0]
          generalize Bs ^ i = p at *
          grind
  · obtain rfl : i = n := by omega
    have htr := trim_calls H.length (i + 1) (i + 1) os (H ++ [Ub os]) (hg os) (by omega) (Nat.le_refl _) (by omega)
    repeat' first
      | (with_reducible first | refine Jh (fun K hK => ?_) | refine Qc ?_ | refine Qd ?_ | refine Jg ?_ | refine Jr ?_)
      | ((with_reducible refine Q5 (htr) ?_); rintro _ _ ⟨rfl, rfl⟩)
      | (with_reducible refine X4 (fun hc => ?_) (fun hc => ?_) <;> (try simp only [RC] at hc) <;> (try (exfalso; first | omega | contradiction)))
      | (simp only [Qb, Jo, reduceIte, J0])
      | ((with_reducible refine hK _ _ ?_); clear hK)
      | (clear hK; (with_reducible refine hK _ _ ?_); clear hK)
      | (simp only [Q9, RA, Jn, Jm, Jp, Q8, Q6, ev, ofValue, Ju, J0, J3, J2, J4, reduceCtorEq, reduceIte, Jv, Qm, Qk, Q0, aun, Qj, Jk, Ji, Jz, Jy, Jj, Qi, Jf, Q7, Q2, Js, J1, J5, Ja, J9, Jb, J6, J7, Jd, J8, RB, Jw, Je, tf154RfV, l1, k0, k1, k5, k6, k7])
    all_goals
      (
       (refine Qg (rs := [.tmp 4]) rfl ?_)
       (simp only [X5, Qf, Fr.put_some, Fr.put_none, Qp, Qq, Qt, J0, reduceIte])
       (try simp (disch := (first | omega | (simp only [RO]; done) | assumption | (simp only [RM, Je]; done) | (simp only [RL, Je]; omega))) only [RD, reduceCtorEq, reduceIte, Je, J1, J3, J2, J6, tf154RfV]))
    have hall : xs.take i = xs := List.take_of_length_le (by omega)
    rw [hall] at hov
    all_goals exact ⟨os, rfl, hol, hos, hov, rfl⟩
end Go.Proofs.YtigddjlhncnnoaaGreatDoor
namespace Go.Proofs.YtigddjlhncnnoaaGreatDoor
open Go.AL Go.PW
theorem Ko : type_of% (Jc @Xw (Jc @Z1 (@Xc))) := Jc @Xw (Jc @Z1 (@Xc))
abbrev J0o : Plan := (.one 0 (.one 1 (.one 2 (.one 3 (.one 4 (.one 5 (.one 6 (.one 7 (.one 8 (.one 9 (.one 10 (.one 11 (.one 12 (.one 13 (.one 14 (.one 15 (.one 16 .nil)))))))))))))))))
abbrev J0n : Plan := (.one 0 (.one 1 (.one 2 (.one 3 (.one 4 (.one 5 (.one 6 (.one 7 (.one 8 (.one 9 (.one 10 (.one 11 (.one 12 (.one 13 (.one 14 (.one 15 (.one 16 (.one 17 (.one 18 (.one 19 (.one 20 (.one 21 (.one 22 (.one 23 (.one 24 (.one 25 (.one 26 (.one 27 (.one 28 (.one 29 (.one 30 (.one 31 .nil))))))))))))))))))))))))))))))))
abbrev J0m : Plan := (.one 0 (.one 1 (.one 2 (.one 3 (.one 4 (.one 5 (.one 6 (.one 7 (.one 8 (.one 9 (.one 10 (.one 11 (.one 12 (.one 13 (.one 14 (.one 15 (.one 16 (.one 17 (.one 18 (.one 19 (.one 20 (.one 21 .nil))))))))))))))))))))))
abbrev J0k : Plan := (.one 0 (.one 2 (.one 3 (.one 4 (.one 6 (.one 1 (.one 5 (.one 7 (.one 8 (.one 9 .nil))))))))))
set_option maxRecDepth 8000
def OverR (H : Hp) (X Y : Int) (r : AV) (H' : Hp) : Prop := ∃ u v qs rs, r = .tup [u, v] ∧ Uv H' u qs ∧ Can qs ∧ val qs = X / Y ∧ Uv H' v rs ∧ Can rs ∧ val rs = X % Y ∧ Ext H H'
set_option maxHeartbeats 4000000 in
theorem Rover_less (s t : AV) (xs ys : List Int) (H : Hp) (hs : Uv H s xs) (ht : Ints H .u64 t ys) (cx : Can xs) (cy : Can ys) (h : val xs < val ys) : ACalls Tryz.prog 149 [s, t] H fun r H' => OverR H (val xs) (val ys) r H' := by
  have f1 : ((val xs - val ys).sign < 0) = True := eq_true (by rw [Int.sign_eq_neg_one_of_neg (by omega)]; decide)
  have h0 := Xh cx.lim
  refine Qo Tryz.func149 rfl (by kernel_rfl) (by kernel_rfl) ?_
  repeat' first
    | (with_reducible first | refine Jh (fun K hK => ?_) | refine Jx ?_ | refine Q4 ?_ | refine Qc ?_ | refine Qd ?_ | refine Jg ?_ | refine Q1 (id := 10) [] J0o (by kernel_rfl) (by kernel_rfl) ?_ | refine Q1 (id := 20) [] J0n (by kernel_rfl) (by kernel_rfl) ?_ | refine Q1 (id := 36) [] J0m (by kernel_rfl) (by kernel_rfl) ?_ | refine Q1 (id := 40) [] J0k (by kernel_rfl) (by kernel_rfl) ?_ | refine Jr ?_ | refine X8 ?_)
    | ((with_reducible refine Q5 (cmp_calls _ _ _ _ _ hs.rd ht cx cy) ?_); rintro _ _ ⟨rfl, rfl⟩)
    | (with_reducible refine Jt (fun hc => ?_) (fun hc => ?_) <;> (try simp only [RC] at hc) <;> (try (exfalso; first | omega | contradiction)))
    | (with_reducible refine Jc ?_ ?_)
    | (with_reducible refine X4 (fun hc => ?_) (fun hc => ?_) <;> (try simp only [RC] at hc) <;> (try (exfalso; first | omega | contradiction)))
    | (simp only [Qb, Jo, reduceIte, J0])
    | ((with_reducible refine hK _ _ ?_); clear hK)
    | (clear hK; (with_reducible refine hK _ _ ?_); clear hK)
    | (clear hK; clear hK; (with_reducible refine hK _ _ ?_); clear hK)
    | (clear hK; clear hK; clear hK; (with_reducible refine hK _ _ ?_); clear hK)
    | (clear hK; clear hK; clear hK; clear hK; (with_reducible refine hK _ _ ?_); clear hK)
    | (clear hK; clear hK; clear hK; clear hK; clear hK; (with_reducible refine hK _ _ ?_); clear hK)
    | (simp only [Q9, RA, Jn, Jm, Jp, Q8, Q6, ev, ofValue, Ju, J0, J3, J2, J4, reduceCtorEq, reduceIte, Jv, Qm, Qk, Q0, aun, Qj, Jk, Ji, Jz, Jy, Jj, Qi, Jf, Q7, Q2, Js, J1, J5, Ja, J9, Jb, J6, J7, Jd, J8, RB, Jw, Je, Ko, f1])
    | (simp (disch := first | omega | (simp only [RO]; done) | assumption) only [RS, Xa, Xb, X9])
    | (simp (disch := (first | omega | (simp only [RO]; done) | assumption | (simp only [RM, Je]; done) | (simp only [RL, Je]; omega))) only [RD, reduceCtorEq, reduceIte, Je, J1, J3, J2, J6, Ko, f1])
  all_goals
    (
     (refine Qg (rs := [.tmp 4, .tmp 5]) rfl ?_)
     (simp only [X5, Qf, Fr.put_some, Fr.put_none, Qp, Qq, Qt, J0, reduceIte])
     (try simp (disch := (first | omega | (simp only [RO]; done) | assumption | (simp only [RM, Je]; done) | (simp only [RL, Je]; omega))) only [RD, reduceCtorEq, reduceIte, Je, J1, J3, J2, J6, Ko]))
  all_goals exact ⟨.nilS, s, [], xs, rfl, Uv.nil H, Can.nil, by rw [Int.ediv_eq_zero_of_lt h0.1 h]; rfl, hs, cx, by rw [Int.emod_eq_of_lt h0.1 h], Ext.refl _⟩
theorem one_limb {ys : List Int} (h : ys.length = 1) : val ys = ys.getD 0 0 := by
  match ys, h with
  | [y], _ => simp [val]
set_option maxHeartbeats 4000000 in
theorem Rover_one (s t : AV) (xs ys : List Int) (H : Hp) (hs : Uv H s xs) (ht : Ints H .u64 t ys) (cx : Can xs) (cy : Can ys) (h : ¬ val xs < val ys) (h1 : ys.length = 1) (lx : xs.length < 90000) : ACalls Tryz.prog 149 [s, t] H fun r H' => OverR H (val xs) (val ys) r H' := by
  have f1 : ((val xs - val ys).sign < 0) = False := eq_false (fun hh => by have := Int.sign_neg_iff.1 hh; omega)
  have l1 := hs.rd.rd.len Z8
  have l2 := ht.rd.len Z8
  rw [h1] at l2
  have hb := cy.lim.get 0
  have hyv := one_limb h1
  have hb0 : 0 < ys.getD 0 0 := by
    rcases cy.top with e | e
    · rw [e] at h1; simp at h1
    · rw [h1] at e
      have e' : ys.getD 0 0 ≠ 0 := e
      omega
  obtain ⟨b, hbd⟩ : ∃ b, b = ys.getD 0 0 := ⟨_, rfl⟩
  rw [← hbd] at hb hyv hb0
  obtain ⟨n, hn⟩ : ∃ n, n = xs.length := ⟨_, rfl⟩
  rw [← hn] at l1
  have hmk := fun H0 => J0b H0 n .i64 (by omega)
  have w1 : IntKind.i64.wrap ((n : Int) - 1) = (n : Int) - 1 := Qe (by omega) (by omega)
  have b0 : ∀ H0, Ext H H0 → Qx Tryz.prog 65 t (.int .i64 0) = some (t.pl 0) ∧ V7 Tryz.prog H0 71 (t.pl 0) = some (.int .u64 b) := fun H0 x0 => by
    have a := ht.rd.at_ Z8 Z4 (k := .i64) (j := 0) (by omega) (by omega)
    have l := (ht.ext x0).load Yt (i := 0) (by omega)
    rw [← hbd] at l
    exact ⟨by simpa using a, by simpa using l⟩
  refine Qo Tryz.func149 rfl (by kernel_rfl) (by kernel_rfl) ?_
  repeat' first
    | (with_reducible first | refine Jh (fun K hK => ?_) | refine Jx ?_ | refine Q4 ?_ | refine Qc ?_ | refine Qd ?_ | refine Jg ?_ | refine Q1 (id := 10) [] J0o (by kernel_rfl) (by kernel_rfl) ?_ | refine Q1 (id := 20) [] J0n (by kernel_rfl) (by kernel_rfl) ?_ | refine Q1 (id := 36) [] J0m (by kernel_rfl) (by kernel_rfl) ?_ | refine Q1 (id := 40) [] J0k (by kernel_rfl) (by kernel_rfl) ?_ | refine Jr ?_ | refine X8 ?_)
    | ((with_reducible refine Q5 (cmp_calls _ _ _ _ _ hs.rd ht cx cy) ?_); rintro _ _ ⟨rfl, rfl⟩)
    | (with_reducible refine Jt (fun hc => ?_) (fun hc => ?_) <;> (try simp only [RC] at hc) <;> (try (exfalso; first | omega | contradiction)))
    | (with_reducible refine Jc ?_ ?_)
    | (with_reducible refine X4 (fun hc => ?_) (fun hc => ?_) <;> (try simp only [RC] at hc) <;> (try (exfalso; first | omega | contradiction)))
    | (simp only [Qb, Jo, reduceIte, J0])
    | ((with_reducible refine hK _ _ ?_); clear hK)
    | (clear hK; (with_reducible refine hK _ _ ?_); clear hK)
    | (clear hK; clear hK; (with_reducible refine hK _ _ ?_); clear hK)
    | (clear hK; clear hK; clear hK; (with_reducible refine hK _ _ ?_); clear hK)
    | (clear hK; clear hK; clear hK; clear hK; (with_reducible refine hK _ _ ?_); clear hK)
    | (clear hK; clear hK; clear hK; clear hK; clear hK; (with_reducible refine hK _ _ ?_); clear hK)
    | (simp only [Q9, RA, Jn, Jm, Jp, Q8, Q6, ev, ofValue, Ju, J0, J3, J2, J4, reduceCtorEq, reduceIte, Jv, Qm, Qk, Q0, aun, Qj, Jk, Ji, Jz, Jy, Jj, Qi, Jf, Q7, Q2, Js, J1, J5, Ja, J9, Jb, J6, J7, Jd, J8, RB, Jw, Je, Ko, f1, l1, l2, w1, hmk])
    | (simp (disch := first | omega | (simp only [RO]; done) | assumption) only [RS, Xa, Xb, X9])
    | (simp (disch := (first | omega | (simp only [RO]; done) | assumption | (simp only [RM, Je]; done) | (simp only [RL, Je]; omega))) only [RD, reduceCtorEq, reduceIte, Je, J1, J3, J2, J6, Ko, f1, l1, l2, w1, hmk])
  refine Xi (fun m fr' H1 => ∃ (os : List Int) (r : Int), m ≤ n ∧ fr' 0 = s ∧ fr' 1 = t ∧ fr' 7 = .sl H.length 0 n n ∧ fr' 8 = .int .u64 r ∧ fr' 9 = .int .i64 ((m : Int) - 1) ∧ os.length = n ∧ Limbs os ∧ 0 ≤ r ∧ r < b ∧ val (os.drop m) * b + r = val (xs.drop m) ∧ H ++ [Ub os] = H1) (m := n)
    ⟨List.replicate n 0, 0, by omega, rfl, rfl, rfl, rfl, rfl, by simp, Limbs.replicate n, by omega, hb0, by rw [List.drop_of_length_le (by simp), List.drop_of_length_le (by omega)]; simp [val], rfl⟩ ?_
  rintro m fr' H1 ⟨os, r, hm, k0, k1, k7, k8, k9, hol, hos, r0, r1, hv, rfl⟩
  have hg : X3 (H ++ [Ub os]) H.length = some (Ub os) := X7 rfl
  cases m with
  | succ i =>
    have k9' : fr' 9 = .int .i64 (i : Int) := by rw [k9]; congr 1; omega
    have e2 : IntKind.i64.wrap ((i : Int) - 1) = (i : Int) - 1 := Qe (by omega) (by omega)
    have hxi := cx.lim.get i
    have hdb : 0 ≤ r * Bs + xs.getD i 0 := by simp only [Bs]; omega
    obtain ⟨q, hq⟩ : ∃ q, q = (r * Bs + xs.getD i 0) / b := ⟨_, rfl⟩
    obtain ⟨z, hz⟩ : ∃ z, z = (r * Bs + xs.getD i 0) % b := ⟨_, rfl⟩
    have hq0 : 0 ≤ q := by rw [hq]; exact Int.ediv_nonneg hdb (by omega)
    have hq1 : q < Bs := by
      rw [hq, Int.ediv_lt_iff_lt_mul hb0]
      simp only [Bs] at *
      omega
    have hz0 : 0 ≤ z := by rw [hz]; exact Int.emod_nonneg _ (by omega)
    have hz1 : z < b := by rw [hz]; exact Int.emod_lt_of_pos _ hb0
    have hqz : q * b + z = r * Bs + xs.getD i 0 := by
      have := Int.emod_add_mul_ediv (r * Bs + xs.getD i 0) b
      rw [← hq, ← hz, Int.mul_comm] at this
      omega
    have hdv := fun H0 => div64_calls r (xs.getD i 0) b H0 r0 r1 hxi hb.2
    rw [← hq, ← hz] at hdv
    have st := Vh hg (i := i) (by omega) q
    have hset : (H ++ [Ub os]).set H.length (Ub (os.set i q)) = H ++ [Ub (os.set i q)] := by
      rw [List.set_append_right _ _ (Nat.le_refl _), Nat.sub_self]; rfl
    rw [hset] at st
    obtain ⟨bA, bL⟩ := b0 (H ++ [Ub os]) (Ext.push _ _)
    repeat' first
      | (with_reducible first | refine Jh (fun K hK => ?_) | refine Jx ?_ | refine Q4 ?_ | refine Qc ?_ | refine Qd ?_ | refine Jg ?_ | refine Q1 (id := 10) [] J0o (by kernel_rfl) (by kernel_rfl) ?_ | refine Q1 (id := 20) [] J0n (by kernel_rfl) (by kernel_rfl) ?_ | refine Q1 (id := 36) [] J0m (by kernel_rfl) (by kernel_rfl) ?_ | refine Q1 (id := 40) [] J0k (by kernel_rfl) (by kernel_rfl) ?_ | refine Jr ?_ | refine X8 ?_)
      | ((with_reducible refine Q5 (hdv _) ?_); rintro _ _ ⟨rfl, rfl⟩)
      | (with_reducible refine Jt (fun hc => ?_) (fun hc => ?_) <;> (try simp only [RC] at hc) <;> (try (exfalso; first | omega | contradiction)))
      | (with_reducible refine Jc ?_ ?_)
      | (with_reducible refine X4 (fun hc => ?_) (fun hc => ?_) <;> (try simp only [RC] at hc) <;> (try (exfalso; first | omega | contradiction)))
      | (simp only [Qb, Jo, reduceIte, J0])
      | ((with_reducible refine hK _ _ ?_); clear hK)
      | (clear hK; (with_reducible refine hK _ _ ?_); clear hK)
      | (clear hK; clear hK; (with_reducible refine hK _ _ ?_); clear hK)
      | (clear hK; clear hK; clear hK; (with_reducible refine hK _ _ ?_); clear hK)
      | (clear hK; clear hK; clear hK; clear hK; (with_reducible refine hK _ _ ?_); clear hK)
      | (clear hK; clear hK; clear hK; clear hK; clear hK; (with_reducible refine hK _ _ ?_); clear hK)
      | (simp only [Q9, RA, Jn, Jm, Jp, Q8, Q6, ev, ofValue, Ju, J0, J3, J2, J4, reduceCtorEq, reduceIte, Jv, Qm, Qk, Q0, aun, Qj, Jk, Ji, Jz, Jy, Jj, Qi, Jf, Q7, Q2, Js, J1, J5, Ja, J9, Jb, J6, J7, Jd, J8, RB, Jw, Je, Ko, k0, k1, k7, k8, k9', e2, st, bA, bL])
      | (simp (disch := first | omega | (simp only [RO]; done) | assumption) only [RS, hs.rd.rd.at1 Z8 Z4, (hs.rd.push _).load1 Yt, Xa, Xb, X9])
      | (simp (disch := (first | omega | (simp only [RO]; done) | assumption | (simp only [RM, Je]; done) | (simp only [RL, Je]; omega))) only [RD, reduceCtorEq, reduceIte, Je, J1, J3, J2, J6, Ko, k0, k1, k7, k8, k9', e2, st, bA, bL])
    all_goals
      refine ⟨i, by omega, os.set i q, z, by omega, rfl, rfl, by rw [List.length_set]; exact hol, hos.set i ⟨hq0, hq1⟩, hz0, hz1, ?_, rfl⟩
      rw [Yw _ (by rw [List.length_set]; omega), Xs _ _ (by omega), if_pos rfl, List.drop_set_of_lt (by omega), Yw xs (by omega), ← hv]
      generalize val (os.drop (i + 1)) = d at *
      generalize Bs = B at *
      grind
  | zero =>
    have k9' : fr' 9 = .int .i64 (-1) := k9
    have htr := trim_calls H.length n n os (H ++ [Ub os]) hg (by omega) (Nat.le_refl _) (by omega)
    have htr2 := trim_calls (H.length + 1) 1 1 [r] (H ++ [Ub os] ++ [Ub [r]]) (X7 (by simp)) (by simp) (Nat.le_refl _) (by omega)
    simp only [Ub, List.map_cons, List.map_nil] at htr2
    repeat' first
      | (with_reducible first | refine Jh (fun K hK => ?_) | refine Jx ?_ | refine Q4 ?_ | refine Qc ?_ | refine Qd ?_ | refine Jg ?_ | refine Q1 (id := 10) [] J0o (by kernel_rfl) (by kernel_rfl) ?_ | refine Q1 (id := 20) [] J0n (by kernel_rfl) (by kernel_rfl) ?_ | refine Q1 (id := 36) [] J0m (by kernel_rfl) (by kernel_rfl) ?_ | refine Q1 (id := 40) [] J0k (by kernel_rfl) (by kernel_rfl) ?_ | refine Jr ?_ | refine X8 ?_)
      | ((with_reducible refine Q5 (htr) ?_); rintro _ _ ⟨rfl, rfl⟩)
      | ((with_reducible refine Q5 (htr2) ?_); rintro _ _ ⟨rfl, rfl⟩)
      | (with_reducible refine Jt (fun hc => ?_) (fun hc => ?_) <;> (try simp only [RC] at hc) <;> (try (exfalso; first | omega | contradiction)))
      | (with_reducible refine Jc ?_ ?_)
      | (with_reducible refine X4 (fun hc => ?_) (fun hc => ?_) <;> (try simp only [RC] at hc) <;> (try (exfalso; first | omega | contradiction)))
      | (simp only [Qb, Jo, reduceIte, J0])
      | ((with_reducible refine hK _ _ ?_); clear hK)
      | (clear hK; (with_reducible refine hK _ _ ?_); clear hK)
      | (clear hK; clear hK; (with_reducible refine hK _ _ ?_); clear hK)
      | (clear hK; clear hK; clear hK; (with_reducible refine hK _ _ ?_); clear hK)
      | (clear hK; clear hK; clear hK; clear hK; (with_reducible refine hK _ _ ?_); clear hK)
      | (clear hK; clear hK; clear hK; clear hK; clear hK; (with_reducible refine hK _ _ ?_); clear hK)
      | (simp only [Q9, RA, Jn, Jm, Jp, Q8, Q6, ev, ofValue, Ju, J0, J3, J2, J4, reduceCtorEq, reduceIte, Jv, Qm, Qk, Q0, aun, Qj, Jk, Ji, Jz, Jy, Jj, Qi, Jf, Q7, Q2, Js, J1, J5, Ja, J9, Jb, J6, J7, Jd, J8, RB, Jw, Je, Ko, k0, k1, k7, k8, k9'])
      | (simp (disch := first | omega | (simp only [RO]; done) | assumption) only [RS, Xa, Xb, X9])
      | (simp (disch := (first | omega | (simp only [RO]; done) | assumption | (simp only [RM, Je]; done) | (simp only [RL, Je]; omega))) only [RD, reduceCtorEq, reduceIte, Je, J1, J3, J2, J6, Ko, k0, k1, k7, k8, k9'])
    all_goals
      (
       (refine Qg (rs := [.tmp 4, .tmp 5]) rfl ?_)
       (simp only [X5, Qf, Fr.put_some, Fr.put_none, Qp, Qq, Qt, J0, reduceIte])
       (try simp (disch := (first | omega | (simp only [RO]; done) | assumption | (simp only [RM, Je]; done) | (simp only [RL, Je]; omega))) only [RD, reduceCtorEq, reduceIte, Je, J1, J3, J2, J6, Ko]))
    simp only [List.drop_zero] at hv
    have hall : os.take n = os := List.take_of_length_le (by omega)
    have hL : Limbs [r] := fun y hy => by rw [List.mem_singleton.1 hy]; omega
    have hqv : val os = val xs / b := (ediv_eq hb0 (by omega) (by rw [Int.add_mul]; omega)).symm
    have hrv : r = val xs % b := by
      have h9 := Int.emod_add_mul_ediv (val xs) b
      rw [← hqv, Int.mul_comm] at h9
      omega
    all_goals
      refine ⟨_, _, os.take (tl os n), [r].take (tl [r] 1), rfl, (Uv.front hg (by have := Wo os n; omega) (Wo os n)).push _, tl_can hos n (by omega) (by omega), ?_, Uv.front (xs := [r]) (X7 (by simp)) (by have := Wo [r] 1; simpa using this) (Wo [r] 1), tl_can hL 1 (by simp) (by omega), ?_, (Ext.push _ _).pushed _⟩
      · rw [J1s _ _ (by omega), hall, hyv]; exact hqv
      · rw [J1s _ _ (by simp), hyv]; simp only [List.take, val]; omega
end Go.Proofs.YtigddjlhncnnoaaGreatDoor

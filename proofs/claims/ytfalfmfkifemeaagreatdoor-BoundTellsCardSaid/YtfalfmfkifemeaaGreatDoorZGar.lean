/- Part 18 of the proof of laws of this seat: lemmas on the model's code, on this program's functions, on numbers. No condition. -/
import Derived.Test.YtfalfmfkifemeaaGreatDoorZGaq
set_option linter.unusedVariables false
set_option linter.unusedSimpArgs false
open Nat renaming reduceEqDiff → J0, reduceLeDiff → J1, reduceMul → J2, reduceAdd → J3, reduceSub → J4, reduceLT → J5
open Int renaming reduceToNat → J6, reducePow → J7, reduceNeg → J8, reduceLT → J9, reduceLE → Ja, reduceEq → Jb
open And renaming intro → Jc
open Go.IntKind renaming bits → Jd
open Go.PW renaming dig_length → Je
namespace Go.Proofs.YtfalfmfkifemeaaGreatDoor
open Go.AL Go.PW
theorem J1a : type_of% (Jc @Xd (Jc @X1 (@Xj))) := Jc @Xd (Jc @X1 (@Xj))
abbrev pn63_9RfE : Plan := (.one 0 (.one 1 (.one 2 (.one 3 (.one 4 (.one 5 (.one 6 (.one 7 (.one 8 (.one 9 (.one 10 (.one 11 (.one 12 (.one 13 .nil))))))))))))))
set_option maxRecDepth 8000
theorem mac {a b o c : Int} (ha : 0 ≤ a ∧ a < Bs) (hb : 0 ≤ b ∧ b < Bs) (ho : 0 ≤ o ∧ o < Bs) (hc : 0 ≤ c ∧ c < Bs) :
    (0 ≤ a * b / Bs + (a * b % Bs + o) / Bs ∧ a * b / Bs + (a * b % Bs + o) / Bs < Bs) ∧
    (0 ≤ a * b / Bs + (a * b % Bs + o) / Bs + ((a * b % Bs + o) % Bs + c) / Bs ∧ a * b / Bs + (a * b % Bs + o) / Bs + ((a * b % Bs + o) % Bs + c) / Bs < Bs) ∧
    (0 ≤ ((a * b % Bs + o) % Bs + c) % Bs ∧ ((a * b % Bs + o) % Bs + c) % Bs < Bs) ∧
    (a * b / Bs + (a * b % Bs + o) / Bs + ((a * b % Bs + o) % Bs + c) / Bs) * Bs + ((a * b % Bs + o) % Bs + c) % Bs = a * b + o + c := by
  have h := Uj (x := a) (y := b) (p := Bs - 1) (q := Bs - 1) ⟨ha.1, by omega⟩ ⟨hb.1, by omega⟩
  have e : (Bs - 1) * (Bs - 1) = 340282366920938463426481119284349108225 := by decide
  rw [e] at h
  generalize a * b = p at *
  simp only [Bs] at *
  omega
theorem mac_step {xs ys os os0 : List Int} {i k : Nat} {c : Int} (hx : Limbs xs) (hy : Limbs ys) (ho : Limbs os) (hik : i + k < os.length) (hk : k < ys.length) (hc : 0 ≤ c ∧ c < Bs)
    (h : val os + Bs ^ (i + k) * c = val os0 + Bs ^ i * xs.getD i 0 * val (ys.take k)) (u v : Int) (hv : 0 ≤ v ∧ v < Bs) (he : u * Bs + v = xs.getD i 0 * ys.getD k 0 + os.getD (i + k) 0 + c) :
    Limbs (os.set (i + k) v) ∧ val (os.set (i + k) v) + Bs ^ (i + (k + 1)) * u = val os0 + Bs ^ i * xs.getD i 0 * val (ys.take (k + 1)) := by
  refine ⟨ho.set _ hv, ?_⟩
  rw [Yw _ hik, Uw, show i + (k + 1) = i + k + 1 by omega, Int.pow_succ, Int.mul_add, Int.pow_add]
  rw [Int.pow_add] at h
  have : v = xs.getD i 0 * ys.getD k 0 + os.getD (i + k) 0 + c - u * Bs := by omega
  rw [this]
  generalize Bs ^ i = p at *
  generalize Bs ^ k = q at *
  grind
set_option maxHeartbeats 4000000 in
theorem Rtimes_calls (s t : AV) (xs ys : List Int) (H : Hp) (hs : Ints H .u64 s xs) (ht : Ints H .u64 t ys) (hx : Limbs xs) (hy : Limbs ys) (lx : xs.length < 40000) (ly : ys.length < 40000) : ACalls Tryz.prog 63 [s, t] H fun r H' => ∃ zs, Uv H' r zs ∧ Can zs ∧ val zs = val xs * val ys ∧ Ext H H' := by
  have l1 := hs.rd.len Z4
  have l2 := ht.rd.len Z4
  obtain ⟨n, hn⟩ : ∃ n, n = xs.length + ys.length := ⟨_, rfl⟩
  have w0 : IntKind.i64.wrap ((xs.length : Int) + (ys.length : Int)) = (n : Int) := by rw [Q5 (by omega) (by omega)]; omega
  have hmk := fun H0 => Gg H0 n .i64 (by omega)
  refine Q7 Tryz.func63 rfl (by kernel_rfl) (by kernel_rfl) ?_
  repeat' first
    | (with_reducible first | refine Jj (fun K hK => ?_) | refine Qc ?_ | refine Jg ?_)
    | (simp only [Q4, Jo, reduceIte, J0])
    | ((with_reducible refine hK _ _ ?_); clear hK)
    | (simp only [Q3, RA, Jn, Jm, Jp, Q2, Q0, ev, ofValue, Jt, J0, J3, J2, J4, reduceCtorEq, reduceIte, Ju, Qb, Qa, Jy, aun, Q9, Jk, Jh, Jx, Jw, Ji, Q8, Jf, Q1, Jr, Js, J1, J5, Ja, J9, Jb, J6, J7, Jd, J8, RB, Jv, Je, J1a, l1, l2, w0, hmk])
  refine X2 (fun m fr' H1 => ∃ (i : Nat) (os : List Int), m = xs.length - i ∧ i ≤ xs.length ∧ fr' 0 = s ∧ fr' 1 = t ∧ fr' 5 = .sl H.length 0 n n ∧ fr' 6 = .int .i64 (i : Int) ∧ os.length = n ∧ Limbs os ∧ (∀ j, i + ys.length ≤ j → os.getD j 0 = 0) ∧ val os = val (xs.take i) * val ys ∧ H ++ [Ub os] = H1) (m := xs.length)
    ⟨0, List.replicate n 0, by omega, by omega, rfl, rfl, rfl, rfl, by simp, Limbs.replicate n, fun j _ => by simp [List.getD, List.getElem?_replicate]; split <;> rfl, by rw [Kg]; simp [val], rfl⟩ ?_
  rintro m fr' H1 ⟨i, os, rfl, hi, k0, k1, k5, k6, hol, hos, hz, hv, rfl⟩
  by_cases hlt : i < xs.length
  · have e1 : IntKind.i64.wrap ((i : Int) + 1) = ((i + 1 : Nat) : Int) := by rw [Q5 (by omega) (by omega)]; omega
    have e2 : IntKind.i64.wrap ((i : Int) + (ys.length : Int)) = ((i + ys.length : Nat) : Int) := by rw [Q5 (by omega) (by omega)]; omega
    repeat' first
      | (with_reducible first | refine Jj (fun K hK => ?_) | refine Qc ?_ | refine Q6 ?_ | refine Jg ?_ | refine Jz ?_)
      | (with_reducible refine X5 (fun hc => ?_) (fun hc => ?_) <;> (try simp only [RC] at hc) <;> (try (exfalso; first | omega | contradiction)))
      | (simp only [Q4, Jo, reduceIte, J0])
      | ((with_reducible refine hK _ _ ?_); clear hK)
      | (simp only [Q3, RA, Jn, Jm, Jp, Q2, Q0, ev, ofValue, Jt, J0, J3, J2, J4, reduceCtorEq, reduceIte, Ju, Qb, Qa, Jy, aun, Q9, Jk, Jh, Jx, Jw, Ji, Q8, Jf, Q1, Jr, Js, J1, J5, Ja, J9, Jb, J6, J7, Jd, J8, RB, Jv, Je, J1a, l1, l2, k0, k1, k5, k6])
    refine X2 (fun m fr' H1 => ∃ (k : Nat) (os1 : List Int) (c : Int), m = ys.length - k ∧ k ≤ ys.length ∧ fr' 0 = s ∧ fr' 1 = t ∧ fr' 5 = .sl H.length 0 n n ∧ fr' 6 = .int .i64 (i : Int) ∧ fr' 7 = .int .u64 c ∧ fr' 8 = .int .i64 (k : Int) ∧ os1.length = n ∧ Limbs os1 ∧ (0 ≤ c ∧ c < Bs) ∧ (∀ j, i + ys.length ≤ j → os1.getD j 0 = 0) ∧ val os1 + Bs ^ (i + k) * c = val os + Bs ^ i * xs.getD i 0 * val (ys.take k) ∧ H ++ [Ub os1] = H1) (m := ys.length)
      ⟨0, os, 0, by omega, by omega, k0, k1, k5, k6, rfl, rfl, hol, hos, ⟨by omega, by decide⟩, hz, by simp [val], rfl⟩ ?_
    rintro m fr' H1 ⟨k, os1, c, rfl, hk, k0, k1, k5, k6, k7, k8, hol1, hos1, hcc, hz1, hv1, rfl⟩
    have hg : Qt (H ++ [Ub os1]) H.length = some (Ub os1) := Qo rfl
    by_cases hkl : k < ys.length
    · have e3 : IntKind.i64.wrap ((k : Int) + 1) = ((k + 1 : Nat) : Int) := by rw [Q5 (by omega) (by omega)]; omega
      have e4 : IntKind.i64.wrap ((i : Int) + (k : Int)) = ((i + k : Nat) : Int) := by rw [Q5 (by omega) (by omega)]; omega
      have ha := hx.get i
      have hb := hy.get k
      have ho := hos1.get (i + k)
      have hM := mul64_calls (xs.getD i 0) (ys.getD k 0) (H ++ [Ub os1]) ha hb
      have ld := Yu hg (i := i + k) (by omega)
      obtain ⟨m1, m2, m3, m4⟩ := mac ha hb ho hcc
      obtain ⟨q1, q2⟩ := mac_step hx hy hos1 (by omega) hkl hcc hv1 _ _ m3 m4
      have w1 := Zt m1.1 m1.2
      have w2 := Zt m2.1 m2.2
      have st := Yp hg (i := i + k) (by omega) (((xs.getD i 0 * ys.getD k 0 % Bs + os1.getD (i + k) 0) % Bs + c) % Bs)
      have hp0 : 0 ≤ xs.getD i 0 * ys.getD k 0 % Bs := Int.emod_nonneg _ (by decide)
      have hp1 : 0 ≤ (xs.getD i 0 * ys.getD k 0 % Bs + os1.getD (i + k) 0) % Bs := Int.emod_nonneg _ (by decide)
      have hset : ∀ z, (H ++ [Ub os1]).set H.length (Ub (os1.set (i + k) z)) = H ++ [Ub (os1.set (i + k) z)] := fun z => by
        rw [List.set_append_right _ _ (Nat.le_refl _), Nat.sub_self]; rfl
      rw [hset] at st
      have hzo : (0 : Int) ≤ 0 ∧ (0 : Int) ≤ 1 := ⟨by omega, by omega⟩
      repeat' first
        | (with_reducible first | refine Jj (fun K hK => ?_) | refine Qc ?_ | refine Q6 ?_ | refine Jg ?_ | refine Qw (id := 9) [] pn63_9RfE (by kernel_rfl) (by kernel_rfl) ?_ | refine Jz ?_)
        | ((with_reducible refine Jq (hM) ?_); rintro _ _ ⟨rfl, rfl⟩)
        | ((with_reducible refine Xo (K1 _ _ _ _ hp0 ho.1 hzo) ?_); rintro _ _ ⟨rfl, rfl⟩)
        | ((with_reducible refine Xo (K1 _ _ _ _ hp1 hcc.1 hzo) ?_); rintro _ _ ⟨rfl, rfl⟩)
        | (with_reducible refine X5 (fun hc => ?_) (fun hc => ?_) <;> (try simp only [RC] at hc) <;> (try (exfalso; first | omega | contradiction)))
        | (simp only [Q4, Jo, reduceIte, J0])
        | ((with_reducible refine hK _ _ ?_); clear hK)
        | (simp only [Q3, RA, Jn, Jm, Jp, Q2, Q0, ev, ofValue, Jt, J0, J3, J2, J4, reduceCtorEq, reduceIte, Ju, Qb, Qa, Jy, aun, Q9, Jk, Jh, Jx, Jw, Ji, Q8, Jf, Q1, Jr, Js, J1, J5, Ja, J9, Jb, J6, J7, Jd, J8, RB, Jv, Je, J1a, l1, l2, k0, k1, k5, k6, k7, k8, e3, e4, ld, st, w1, w2, Int.add_zero])
        | (simp (disch := first | omega | (simp only [RO]; done) | assumption) only [RS, hs.rd.at1 Z4 Xt, (hs.push _).load1 Y0, ht.rd.at1 Z4 Xt, (ht.push _).load1 Y0, X6, X7])
      all_goals exact ⟨_, by omega, k + 1, _, _, rfl, by omega, rfl, rfl, by rw [List.length_set]; exact hol1, q1, m2, fun j hj => by rw [Xf _ _ (by omega), if_neg (by omega)]; exact hz1 j hj, q2, rfl⟩
    · obtain rfl : ys.length = k := by omega
      have st := Yp hg (i := i + ys.length) (by omega) c
      have hset : ∀ z, (H ++ [Ub os1]).set H.length (Ub (os1.set (i + ys.length) z)) = H ++ [Ub (os1.set (i + ys.length) z)] := fun z => by
        rw [List.set_append_right _ _ (Nat.le_refl _), Nat.sub_self]; rfl
      rw [hset] at st
      repeat' first
        | (with_reducible first | refine Jj (fun K hK => ?_) | refine Qz ?_ | refine Jg ?_ | refine Jz ?_)
        | (with_reducible refine X5 (fun hc => ?_) (fun hc => ?_) <;> (try simp only [RC] at hc) <;> (try (exfalso; first | omega | contradiction)))
        | (simp only [Q4, Jo, reduceIte, J0])
        | ((with_reducible refine hK _ _ ?_); clear hK)
        | (clear hK; (with_reducible refine hK _ _ ?_); clear hK)
        | (simp only [Q3, RA, Jn, Jm, Jp, Q2, Q0, ev, ofValue, Jt, J0, J3, J2, J4, reduceCtorEq, reduceIte, Ju, Qb, Qa, Jy, aun, Q9, Jk, Jh, Jx, Jw, Ji, Q8, Jf, Q1, Jr, Js, J1, J5, Ja, J9, Jb, J6, J7, Jd, J8, RB, Jv, Je, J1a, l1, l2, k0, k1, k5, k6, k7, k8, e1, e2, st])
        | (simp (disch := first | omega | (simp only [RO]; done) | assumption) only [RS, X6, X7])
      all_goals
        refine ⟨_, by omega, i + 1, _, rfl, by omega, rfl, by rw [List.length_set]; exact hol1, hos1.set _ hcc, fun j hj => by rw [Xf _ _ (by omega), if_neg (by omega)]; exact hz1 j (by omega), ?_, rfl⟩
        rw [List.take_length] at hv1
        rw [Yw _ (by omega), hz1 _ (Nat.le_refl _), Int.sub_zero, hv1, hv, Uw, Int.add_mul]
  · obtain rfl : xs.length = i := by omega
    have hg : Qt (H ++ [Ub os]) H.length = some (Ub os) := Qo rfl
    have htr := trim_calls H.length n n os (H ++ [Ub os]) hg (by omega) (Nat.le_refl _) (by omega)
    repeat' first
      | (with_reducible first | refine Jj (fun K hK => ?_) | refine Qz ?_ | refine Qj ?_ | refine Jg ?_ | refine Jz ?_)
      | ((with_reducible refine Jq (htr) ?_); rintro _ _ ⟨rfl, rfl⟩)
      | (with_reducible refine X5 (fun hc => ?_) (fun hc => ?_) <;> (try simp only [RC] at hc) <;> (try (exfalso; first | omega | contradiction)))
      | (simp only [Q4, Jo, reduceIte, J0])
      | ((with_reducible refine hK _ _ ?_); clear hK)
      | (clear hK; (with_reducible refine hK _ _ ?_); clear hK)
      | (simp only [Q3, RA, Jn, Jm, Jp, Q2, Q0, ev, ofValue, Jt, J0, J3, J2, J4, reduceCtorEq, reduceIte, Ju, Qb, Qa, Jy, aun, Q9, Jk, Jh, Jx, Jw, Ji, Q8, Jf, Q1, Jr, Js, J1, J5, Ja, J9, Jb, J6, J7, Jd, J8, RB, Jv, Je, J1a, l1, k0, k1, k5, k6])
    all_goals
      (
       (refine Qg (rs := [.tmp 4]) rfl ?_)
       (simp only [Qx, Qd, Fr.put_some, Fr.put_none, Qe, Qf, Qi, J0, reduceIte])
       (try simp (disch := (first | omega | (simp only [RO]; done) | assumption | (simp only [RM, Je]; done) | (simp only [RL, Je]; omega))) only [RD, reduceCtorEq, reduceIte, Je, J1, J3, J2, J6, J1a]))
    have hall : os.take n = os := List.take_of_length_le (by omega)
    rw [List.take_length] at hv
    all_goals
      refine ⟨os.take (tl os n), Uv.front hg (by have := Ur os n; omega) (Ur os n), J0e hos n (by omega) (by omega), ?_, Ext.push _ _⟩
      rw [Nw _ _ (by omega), hall]
      exact hv
end Go.Proofs.YtfalfmfkifemeaaGreatDoor
namespace Go.Proofs.YtfalfmfkifemeaaGreatDoor
open Go.AL Go.PW
theorem J1e : type_of% (Jc @Z8 (Jc @Xz (Jc @X1 (Jc @Xj (Jc @Za (Jc @Z9 (@cv2_31))))))) := Jc @Z8 (Jc @Xz (Jc @X1 (Jc @Xj (Jc @Za (Jc @Z9 (@cv2_31))))))
set_option maxRecDepth 8000
theorem Can.single {x : Int} (h0 : 0 < x) (h : x < Bs) : Can [x] := ⟨fun y hy => by simp at hy; subst hy; omega, .inr (by simp; omega), by simp⟩
theorem Can.nil : Can [] := ⟨Limbs.nil, .inl rfl, by simp⟩
set_option maxHeartbeats 2000000 in
theorem Of_calls (v : Int) (H : Hp) (hv : -9223372036854775808 ≤ v ∧ v ≤ 9223372036854775807) : ACalls Tryz.prog 41 [.int .i64 v] H fun r H' => ∃ s, r = BV v s ∧ Bs_ H' s v ∧ Ext H H' := by
  refine Q7 Tryz.func41 rfl (by kernel_rfl) (by kernel_rfl) ?_
  by_cases hn : v < 0
  · have e1 : (v < 0) = True := eq_true hn
    have w1 : IntKind.i64.wrap (v + 1) = v + 1 := Q5 (by omega) (by omega)
    have w2 : IntKind.i64.wrap (0 - (v + 1)) = -(v + 1) := by rw [Q5 (by omega) (by omega)]; omega
    have w3 : IntKind.u64.wrap (-(v + 1)) = -(v + 1) := Zt (by omega) (by simp only [Bs]; omega)
    have w4 : IntKind.u64.wrap (-(v + 1) + 1) = -v := by rw [Zt (by omega) (by simp only [Bs]; omega)]; omega
    have hg : Qt (H ++ [⟨[.bool false, .nilS], .own, 46⟩] ++ [⟨[.int .u64 (-v)], .own, 31⟩]) (H.length + 1) = some (Ub [-v]) := Qo (by simp)
    have hu := Uv.front (k := 1) (c := 1) hg (by simp) (Nat.le_refl _)
    have hm := made_calls true _ _ _ hu.rd
    rw [show (true && decide (0 < ([-v].take 1).length)) = true from rfl] at hm
    have hb : (decide (v < 0)) = true := decide_eq_true hn
    repeat' first
      | (with_reducible first | refine Jj (fun K hK => ?_) | refine Qj ?_ | refine Jg ?_ | refine Jz ?_)
      | ((with_reducible refine Jq (hm) ?_); rintro _ _ ⟨rfl, rfl⟩)
      | (simp only [Q4, Jo, reduceIte, J0])
      | ((with_reducible refine hK _ _ ?_); clear hK)
      | (simp only [Q3, RA, Jn, Jm, Jp, Q2, Q0, ev, ofValue, Jt, J0, J3, J2, J4, reduceCtorEq, reduceIte, Ju, Qb, Qa, Jy, aun, Q9, Jk, Jh, Jx, Jw, Ji, Q8, Jf, Q1, Jr, Js, J1, J5, Ja, J9, Jb, J6, J7, Jd, J8, RB, Jv, Je, J1e, e1, w1, w2, w3, w4])
      | (simp (disch := (first | omega | (simp only [RO]; done) | assumption | (simp only [RM, Je]; done) | (simp only [RL, Je]; omega))) only [RD, reduceCtorEq, reduceIte, Je, J1, J3, J2, J6, J1e, e1, w1, w2, w3, w4])
    all_goals
      (
       (refine Qg (rs := [.cell 2 46]) rfl ?_)
       (simp only [Qx, Qd, Fr.put_some, Fr.put_none, Qe, Qf, Qi, J0, reduceIte])
       (try simp (disch := (first | omega | (simp only [RO]; done) | assumption | (simp only [RM, Je]; done) | (simp only [RL, Je]; omega))) only [RD, reduceCtorEq, reduceIte, Je, J1, J3, J2, J6, J1e]))
    all_goals exact ⟨_, by rw [show BV v (AV.sl (H.length + 1) 0 1 1) = AV.agg [.bool (decide (v < 0)), AV.sl (H.length + 1) 0 1 1] from rfl, hb], ⟨[-v], Uv.front (k := 1) (c := 1) (xs := [-v]) (Qo (by simp)) (by simp) (Nat.le_refl _), Can.single (by omega) (by simp only [Bs]; omega), by simp only [val]; omega⟩, (Ext.push _ _).pushed _⟩
  · have e1 : (v < 0) = False := eq_false hn
    have w3 : IntKind.u64.wrap v = v := Zt (by omega) (by simp only [Bs]; omega)
    have hg : Qt (H ++ [⟨[.bool false, .nilS], .own, 46⟩] ++ [⟨[.int .u64 v], .own, 31⟩]) (H.length + 1) = some (Ub [v]) := Qo (by simp)
    have htr := trim_calls (H.length + 1) 1 1 [v] _ hg (by simp) (Nat.le_refl _) (by omega)
    have hu := Uv.front (k := tl [v] 1) (c := 1) hg (Ur [v] 1) (Ur [v] 1)
    have hm := made_calls false _ _ _ hu.rd
    rw [Bool.false_and] at hm
    repeat' first
      | (with_reducible first | refine Jj (fun K hK => ?_) | refine Q6 ?_ | refine Qj ?_ | refine Jg ?_ | refine Jz ?_)
      | ((with_reducible refine Jq (htr) ?_); rintro _ _ ⟨rfl, rfl⟩)
      | ((with_reducible refine Jq (hm) ?_); rintro _ _ ⟨rfl, rfl⟩)
      | (simp only [Q4, Jo, reduceIte, J0])
      | ((with_reducible refine hK _ _ ?_); clear hK)
      | (simp only [Q3, RA, Jn, Jm, Jp, Q2, Q0, ev, ofValue, Jt, J0, J3, J2, J4, reduceCtorEq, reduceIte, Ju, Qb, Qa, Jy, aun, Q9, Jk, Jh, Jx, Jw, Ji, Q8, Jf, Q1, Jr, Js, J1, J5, Ja, J9, Jb, J6, J7, Jd, J8, RB, Jv, Je, J1e, e1, w3])
      | (simp (disch := (first | omega | (simp only [RO]; done) | assumption | (simp only [RM, Je]; done) | (simp only [RL, Je]; omega))) only [RD, reduceCtorEq, reduceIte, Je, J1, J3, J2, J6, J1e, e1, w3])
    all_goals
      (
       (refine Qg (rs := [.cell 2 46]) rfl ?_)
       (simp only [Qx, Qd, Fr.put_some, Fr.put_none, Qe, Qf, Qi, J0, reduceIte])
       (try simp (disch := (first | omega | (simp only [RO]; done) | assumption | (simp only [RM, Je]; done) | (simp only [RL, Je]; omega))) only [RD, reduceCtorEq, reduceIte, Je, J1, J3, J2, J6, J1e]))
    have hb : (decide (v < 0)) = false := decide_eq_false hn
    have hL : Limbs [v] := fun y hy => by simp at hy; subst hy; simp only [Bs]; omega
    all_goals exact ⟨_, by rw [show BV v (AV.sl (H.length + 1) 0 (tl [v] 1) 1) = AV.agg [.bool (decide (v < 0)), AV.sl (H.length + 1) 0 (tl [v] 1) 1] from rfl, hb], ⟨[v].take (tl [v] 1), Uv.front (k := tl [v] 1) (c := 1) (xs := [v]) (Qo (by simp)) (Ur [v] 1) (Ur [v] 1), J0e hL 1 (by simp) (by omega), by rw [Nw _ _ (by simp)]; simp only [val, List.take]; omega⟩, (Ext.push _ _).pushed _⟩
end Go.Proofs.YtfalfmfkifemeaaGreatDoor
namespace Go.Proofs.YtfalfmfkifemeaaGreatDoor
open Go.AL Go.PW
theorem tf26RfG : type_of% (Jc @Xz (Jc @X1 (Jc @Xj (Jc @Za (@Z9))))) := Jc @Xz (Jc @X1 (Jc @Xj (Jc @Za (@Z9))))
abbrev pn26_1RfG : Plan := (.one 0 (.one 2 (.one 5 (.one 6 (.one 7 (.one 8 (.alt 1 (.alt 3 (.one 4 (.one 9 (.one 10 (.one 11 .nil)))) (.one 9 (.one 3 (.one 4 (.one 10 (.one 11 .nil)))))) (.alt 3 (.alt 1 (.one 4 (.one 9 (.one 10 (.one 11 .nil)))) (.one 9 (.one 1 (.one 4 (.one 10 (.one 11 .nil)))))) (.one 9 (.one 1 (.one 3 (.one 4 (.one 10 (.one 11 .nil))))))))))))))
set_option maxRecDepth 8000
def Sm (x : Int) : Prop := (x.natAbs : Int) < Bs ^ 20
theorem Can.small {xs : List Int} (c : Can xs) (h : val xs < Bs ^ 20) : xs.length ≤ 20 := by
  rcases Nat.lt_or_ge xs.length 21 with h1 | h1
  · omega
  · have h2 := c.low (by omega)
    have h3 : Bs ^ 20 ≤ Bs ^ (xs.length - 1) := Wv (by omega)
    omega
theorem mul_sign (x y : Int) (n : Nat) (hn : n = 0 ↔ x * y = 0) : ((decide (x < 0) != decide (y < 0)) && decide (0 < n)) = decide (x * y < 0) := by
  rcases Int.lt_trichotomy x 0 with hx | hx | hx
  · rcases Int.lt_trichotomy y 0 with hy | hy | hy
    · have := Int.mul_pos_of_neg_of_neg hx hy
      simp [hx, hy]; omega
    · subst hy; simp at hn; simp [hn]
    · have h := Int.mul_neg_of_neg_of_pos hx hy
      have : ¬ n = 0 := fun e => by have := hn.1 e; omega
      have hy' : ¬ y < 0 := by omega
      simp [hx, hy', h]; omega
  · subst hx; simp at hn; simp [hn]
  · have hx' : ¬ x < 0 := by omega
    rcases Int.lt_trichotomy y 0 with hy | hy | hy
    · have h := Int.mul_neg_of_pos_of_neg hx hy
      have : ¬ n = 0 := fun e => by have := hn.1 e; omega
      simp [hx', hy, h]; omega
    · subst hy; simp at hn; simp [hn]
    · have := Int.mul_pos hx hy
      have hy' : ¬ y < 0 := by omega
      simp [hx', hy']; omega
theorem arow_same {H H' : Hp} {z : Nat} {v : AV} (h : Qt H' v.hd = Qt H v.hd) : arow H' z v = arow H z v := by
  cases v <;> simp only [arow] <;> (simp only [AV.hd] at h; rw [h])
theorem Uv.other {H : Hp} {s : AV} {xs : List Int} (u : Uv H s xs) {h : Nat} {b : Blk} (hg : Qt H h = some b) (hb : b.ety ≠ 31) (b' : Blk) : Uv (H.set h b') s xs := by
  rcases u.ety with e | ⟨c, g, e⟩
  · subst e
    exact ⟨⟨u.rd.rd.row, u.rd.rd.fine⟩, .inl rfl⟩
  · have hne : s.hd ≠ h := fun e2 => by
      rw [e2, hg] at g; cases g; exact hb e
    have hs : Qt (H.set h b') s.hd = Qt H s.hd := by rw [Qk (Qr hg), if_neg hne]
    exact ⟨⟨by rw [arow_same hs]; exact u.rd.rd.row, u.rd.rd.fine⟩, .inr ⟨c, by rw [hs]; exact g, e⟩⟩
theorem mul_sign2 (x y : Int) (n : Nat) (hn : n = 0 ↔ x * y = 0) : ((!(decide (x < 0) == decide (y < 0))) && decide (0 < n)) = decide (x * y < 0) := mul_sign x y n hn
set_option maxHeartbeats 2000000 in
theorem Rmul_calls (x y : Int) (s t : AV) (H : Hp) (hs : Bs_ H s x) (ht : Bs_ H t y) (bx : Sm x) (by_ : Sm y) : ACalls Tryz.prog 26 [BV x s, BV y t] H fun r H' => ∃ u, r = BV (x * y) u ∧ Bs_ H' u (x * y) ∧ Ext H H' := by
  obtain ⟨xs, ux, cx, vx⟩ := hs.ex
  obtain ⟨ys, uy, cy, vy⟩ := ht.ex
  have hs1 : s.one = true := ux.rd.rd.one
  have hc1 : s.cells = [s] := AV.cells_one hs1
  have ht1 : t.one = true := uy.rd.rd.one
  have hc2 : t.cells = [t] := AV.cells_one ht1
  have lx := cx.small (by rw [vx]; exact bx)
  have ly := cy.small (by rw [vy]; exact by_)
  refine Q7 Tryz.func26 rfl (by kernel_rfl) (by kernel_rfl) ?_
  repeat' first
    | (with_reducible first | refine Jj (fun K hK => ?_) | refine Jg ?_ | refine Qw (id := 1) [] pn26_1RfG (by kernel_rfl) (by kernel_rfl) ?_)
    | (with_reducible refine Jc ?_ ?_)
    | (simp only [Q4, Jo, reduceIte, J0])
    | ((with_reducible refine hK _ _ ?_); clear hK)
    | (simp only [Q3, RA, Jn, Jm, Jp, Q2, Q0, ev, ofValue, Jt, J0, J3, J2, J4, reduceCtorEq, reduceIte, Ju, Qb, Qa, Jy, aun, Q9, Jk, Jh, Jx, Jw, Ji, Q8, Jf, Q1, Jr, Js, J1, J5, Ja, J9, Jb, J6, J7, Jd, J8, RB, Jv, Je, tf26RfG])
    | (simp (disch := first | omega | (simp only [RO]; done) | assumption) only [RS, X6, X7, X4, X0])
    | (simp (disch := (first | omega | (simp only [RO]; done) | assumption | (simp only [RM, Je]; done) | (simp only [RL, Je]; omega))) only [RD, reduceCtorEq, reduceIte, Je, J1, J3, J2, J6, tf26RfG])
  all_goals
    refine Jq (Rtimes_calls s t xs ys _ (ux.rd.ext (G5 _ _ _)) (uy.rd.ext (G5 _ _ _)) cx.lim cy.lim (by omega) (by omega)) ?_
    rintro u H4 ⟨zs, U, C, vz, x4⟩
    have hz := Bs_.nil (H := H4) (s := u) (x := x * y) C (by rw [vz, vx, vy, Int.natAbs_mul]; push_cast; rfl)
    have q2 : Qt H4 H.length = some ⟨[.bool (decide (x < 0)), s], .own, 46⟩ := Qh (by rw [Qp (by simp), Qp (by simp), Qo rfl]) x4
    have q3 : Qt H4 (H.length + 1) = some ⟨[.bool (decide (y < 0)), t], .own, 46⟩ := Qh (by rw [Qp (by simp), Qo (by simp)]) x4
    have q4 : Qt H4 (H.length + 1 + 1) = some ⟨[.bool false, .nilS], .own, 46⟩ := Qh (Qo (by simp)) x4
    have hu1 : u.one = true := U.rd.rd.one
    have hc3 : u.cells = [u] := AV.cells_one hu1
    have hm := made_calls (!(decide (x < 0) == decide (y < 0))) u zs H4 U.rd
    rw [mul_sign2 x y zs.length hz] at hm
    repeat' first
      | (with_reducible first | refine Qj ?_)
      | ((with_reducible refine Jq (hm) ?_); rintro _ _ ⟨rfl, rfl⟩)
      | (simp only [Q4, Jo, reduceIte, J0])
      | ((with_reducible refine hK _ _ ?_); clear hK)
      | (simp only [Q3, RA, Jn, Jm, Jp, Q2, Q0, ev, ofValue, Jt, J0, J3, J2, J4, reduceCtorEq, reduceIte, Ju, Qb, Qa, Jy, aun, Q9, Jk, Jh, Jx, Jw, Ji, Q8, Jf, Q1, Jr, Js, J1, J5, Ja, J9, Jb, J6, J7, Jd, J8, RB, Jv, Je, tf26RfG, q2, q3, q4])
      | (simp (disch := first | omega | (simp only [RO]; done) | assumption) only [RS, X6, X7, X4, X0])
      | (simp (disch := (first | omega | (simp only [RO]; done) | assumption | (simp only [RM, Je]; done) | (simp only [RL, Je]; omega))) only [RD, reduceCtorEq, reduceIte, Je, J1, J3, J2, J6, tf26RfG, q2, q3, q4])
    have l4 := Qr q4
    have hxl : H.length + 1 + 1 < H4.length := l4
    (
     (refine Qg (rs := [.cell 4 46]) rfl ?_)
     (simp only [Qx, Qd, Fr.put_some, Fr.put_none, Qe, Qf, Qi, J0, reduceIte, Qk l4])
     (try simp (disch := (first | omega | (simp only [RO]; done) | assumption | (simp only [RM, Je]; done) | (simp only [RL, Je]; omega))) only [RD, reduceCtorEq, reduceIte, Je, J1, J3, J2, J6, tf26RfG, Qk l4]))
    exact ⟨u, rfl, ⟨zs, U.other q4 (by decide) _, C, by rw [vz, vx, vy, Int.natAbs_mul]; push_cast; rfl⟩, ((G5 _ _ _).trans x4).set (by omega) _⟩
end Go.Proofs.YtfalfmfkifemeaaGreatDoor
namespace Go.Proofs.YtfalfmfkifemeaaGreatDoor
open Go.AL Go.PW
theorem Vy : type_of% (Jc @Xd (Jc @Xz (Jc @X1 (Jc @Xj (Jc @Za (@Z9)))))) := Jc @Xd (Jc @Xz (Jc @X1 (Jc @Xj (Jc @Za (@Z9)))))
abbrev pn67_2RfH : Plan := (.one 0 (.one 2 (.one 3 (.one 4 (.one 5 (.alt 1 (.one 6 (.one 7 (.one 8 .nil))) (.one 6 (.one 1 (.one 7 (.one 8 .nil))))))))))
abbrev pn67_4RfH : Plan := (.one 0 (.one 2 (.one 3 (.one 4 (.one 5 (.alt 1 (.one 6 (.one 7 (.one 8 .nil))) (.one 6 (.one 1 (.one 7 (.one 8 .nil))))))))))
abbrev pn67_5RfH : Plan := (.one 0 (.one 2 (.one 3 (.one 4 (.one 5 (.alt 1 (.one 6 (.one 7 (.one 8 .nil))) (.one 6 (.one 1 (.one 7 (.one 8 .nil))))))))))
set_option maxRecDepth 8000
theorem Can.le {xs ys : List Int} (cx : Can xs) (cy : Can ys) (h : val ys ≤ val xs) : ys.length ≤ xs.length := by
  rcases Nat.lt_or_ge xs.length ys.length with e | e
  · have := J1y cx.lim cy e; omega
  · exact e
set_option maxHeartbeats 4000000 in
theorem Radd_calls (x y : Int) (s t : AV) (H : Hp) (hs : Bs_ H s x) (ht : Bs_ H t y) (bx : Sm x) (by_ : Sm y) : ACalls Tryz.prog 67 [BV x s, BV y t] H fun r H' => ∃ u, r = BV (x + y) u ∧ Bs_ H' u (x + y) ∧ Ext H H' := by
  obtain ⟨xs, ux, cx, vx⟩ := hs.ex
  obtain ⟨ys, uy, cy, vy⟩ := ht.ex
  have hs1 : s.one = true := ux.rd.rd.one
  have hc1 : s.cells = [s] := AV.cells_one hs1
  have ht1 : t.one = true := uy.rd.rd.one
  have hc2 : t.cells = [t] := AV.cells_one ht1
  have lx := cx.small (by rw [vx]; exact bx)
  have ly := cy.small (by rw [vy]; exact by_)
  refine Q7 Tryz.func67 rfl (by kernel_rfl) (by kernel_rfl) ?_
  by_cases hsame : decide (x < 0) = decide (y < 0)
  · have e1 : (decide (x < 0) = decide (y < 0)) = True := eq_true hsame
    have e1b : (decide (x < 0) == decide (y < 0)) = true := by rw [hsame]; exact beq_self_eq_true _
    have hiff : x < 0 ↔ y < 0 := by
      rw [← decide_eq_true_iff (p := x < 0), hsame, decide_eq_true_iff]
    repeat' first
      | (with_reducible first | refine Jj (fun K hK => ?_) | refine Jg ?_ | refine Qw (id := 2) [] pn67_2RfH (by kernel_rfl) (by kernel_rfl) ?_ | refine Jz ?_)
      | (with_reducible refine Jc ?_ ?_)
      | (simp only [Q4, Jo, reduceIte, J0])
      | ((with_reducible refine hK _ _ ?_); clear hK)
      | (simp only [Q3, RA, Jn, Jm, Jp, Q2, Q0, ev, ofValue, Jt, J0, J3, J2, J4, reduceCtorEq, reduceIte, Ju, Qb, Qa, Jy, aun, Q9, Jk, Jh, Jx, Jw, Ji, Q8, Jf, Q1, Jr, Js, J1, J5, Ja, J9, Jb, J6, J7, Jd, J8, RB, Jv, Je, Vy, e1b])
      | (simp (disch := first | omega | (simp only [RO]; done) | assumption) only [RS, X6, X7, X4, X0])
      | (simp (disch := (first | omega | (simp only [RO]; done) | assumption | (simp only [RM, Je]; done) | (simp only [RL, Je]; omega))) only [RD, reduceCtorEq, reduceIte, Je, J1, J3, J2, J6, Vy, e1b])
    all_goals
      refine Jq (Rplus_calls s t xs ys _ (ux.rd.ext (G5 _ _ _)) (uy.rd.ext (G5 _ _ _)) cx.lim cy.lim (by omega) (by omega)) ?_
      rintro u H4 ⟨zs, U, C, vz, x4⟩
      have vz2 : val zs = (x + y).natAbs := by rw [vz, vx, vy]; omega
      have hz := Bs_.nil (H := H4) (s := u) (x := x + y) C vz2
      have q2 : Qt H4 H.length = some ⟨[.bool (decide (x < 0)), s], .own, 46⟩ := Qh (by rw [Qp (by simp), Qp (by simp), Qo rfl]) x4
      have q3 : Qt H4 (H.length + 1) = some ⟨[.bool (decide (y < 0)), t], .own, 46⟩ := Qh (by rw [Qp (by simp), Qo (by simp)]) x4
      have q4 : Qt H4 (H.length + 1 + 1) = some ⟨[.bool false, .nilS], .own, 46⟩ := Qh (Qo (by simp)) x4
      have hu1 : u.one = true := U.rd.rd.one
      have hc3 : u.cells = [u] := AV.cells_one hu1
      have hm := made_calls (decide (x < 0)) u zs H4 U.rd
      have hsg : (decide (x < 0) && decide (0 < zs.length)) = decide (x + y < 0) := by
        rw [Bool.eq_iff_iff]; simp only [Bool.and_eq_true, decide_eq_true_iff]; omega
      rw [hsg] at hm
      repeat' first
        | (with_reducible first | refine Qj ?_)
        | ((with_reducible refine Jq (hm) ?_); rintro _ _ ⟨rfl, rfl⟩)
        | (simp only [Q4, Jo, reduceIte, J0])
        | ((with_reducible refine hK _ _ ?_); clear hK)
        | (simp only [Q3, RA, Jn, Jm, Jp, Q2, Q0, ev, ofValue, Jt, J0, J3, J2, J4, reduceCtorEq, reduceIte, Ju, Qb, Qa, Jy, aun, Q9, Jk, Jh, Jx, Jw, Ji, Q8, Jf, Q1, Jr, Js, J1, J5, Ja, J9, Jb, J6, J7, Jd, J8, RB, Jv, Je, Vy, q2, q3, q4])
        | (simp (disch := first | omega | (simp only [RO]; done) | assumption) only [RS, X6, X7, X4, X0])
        | (simp (disch := (first | omega | (simp only [RO]; done) | assumption | (simp only [RM, Je]; done) | (simp only [RL, Je]; omega))) only [RD, reduceCtorEq, reduceIte, Je, J1, J3, J2, J6, Vy, q2, q3, q4])
      have l4 := Qr q4
      (
       (refine Qg (rs := [.cell 4 46]) rfl ?_)
       (simp only [Qx, Qd, Fr.put_some, Fr.put_none, Qe, Qf, Qi, J0, reduceIte, Qk l4])
       (try simp (disch := (first | omega | (simp only [RO]; done) | assumption | (simp only [RM, Je]; done) | (simp only [RL, Je]; omega))) only [RD, reduceCtorEq, reduceIte, Je, J1, J3, J2, J6, Vy, Qk l4]))
      exact ⟨u, rfl, ⟨zs, U.other q4 (by decide) _, C, vz2⟩, ((G5 _ _ _).trans x4).set (by omega) _⟩
  · have e1b : (decide (x < 0) == decide (y < 0)) = false := by
      rw [Bool.eq_false_iff]; intro h; exact hsame (eq_of_beq h)
    have hiff : ¬ (x < 0 ↔ y < 0) := fun h => hsame (decide_eq_decide.mpr h)
    by_cases hle : val ys ≤ val xs
    · have e2 : (0 ≤ (val xs - val ys).sign) = True := eq_true (Int.sign_nonneg_iff.mpr (by omega))
      repeat' first
        | (with_reducible first | refine Jj (fun K hK => ?_) | refine Q6 ?_ | refine Jg ?_ | refine Qw (id := 4) [] pn67_4RfH (by kernel_rfl) (by kernel_rfl) ?_ | refine Jz ?_)
        | ((with_reducible refine Jq (cmp_calls s t xs ys _ (ux.rd.ext (G5 _ _ _)) (uy.rd.ext (G5 _ _ _)) cx cy) ?_); rintro _ _ ⟨rfl, rfl⟩)
        | (with_reducible refine Jc ?_ ?_)
        | (simp only [Q4, Jo, reduceIte, J0])
        | ((with_reducible refine hK _ _ ?_); clear hK)
        | (simp only [Q3, RA, Jn, Jm, Jp, Q2, Q0, ev, ofValue, Jt, J0, J3, J2, J4, reduceCtorEq, reduceIte, Ju, Qb, Qa, Jy, aun, Q9, Jk, Jh, Jx, Jw, Ji, Q8, Jf, Q1, Jr, Js, J1, J5, Ja, J9, Jb, J6, J7, Jd, J8, RB, Jv, Je, Vy, e1b, e2])
        | (simp (disch := first | omega | (simp only [RO]; done) | assumption) only [RS, X6, X7, X4, X0])
        | (simp (disch := (first | omega | (simp only [RO]; done) | assumption | (simp only [RM, Je]; done) | (simp only [RL, Je]; omega))) only [RD, reduceCtorEq, reduceIte, Je, J1, J3, J2, J6, Vy, e1b, e2])
      all_goals
        refine Jq (Rminus_calls s t xs ys _ (ux.rd.ext (G5 _ _ _)) (uy.rd.ext (G5 _ _ _)) cx.lim cy.lim (by omega) (cx.le cy hle) hle) ?_
        rintro u H4 ⟨zs, U, C, vz, x4⟩
        have vz2 : val zs = (x + y).natAbs := by rw [vz, vx, vy]; omega
        have hz := Bs_.nil (H := H4) (s := u) (x := x + y) C vz2
        have q2 : Qt H4 H.length = some ⟨[.bool (decide (x < 0)), s], .own, 46⟩ := Qh (by rw [Qp (by simp), Qp (by simp), Qo rfl]) x4
        have q3 : Qt H4 (H.length + 1) = some ⟨[.bool (decide (y < 0)), t], .own, 46⟩ := Qh (by rw [Qp (by simp), Qo (by simp)]) x4
        have q4 : Qt H4 (H.length + 1 + 1) = some ⟨[.bool false, .nilS], .own, 46⟩ := Qh (Qo (by simp)) x4
        have hu1 : u.one = true := U.rd.rd.one
        have hc3 : u.cells = [u] := AV.cells_one hu1
        have hm := made_calls (decide (x < 0)) u zs H4 U.rd
        have hsg : (decide (x < 0) && decide (0 < zs.length)) = decide (x + y < 0) := by
          rw [Bool.eq_iff_iff]; simp only [Bool.and_eq_true, decide_eq_true_iff]; omega
        rw [hsg] at hm
        repeat' first
          | (with_reducible first | refine Qj ?_)
          | ((with_reducible refine Jq (hm) ?_); rintro _ _ ⟨rfl, rfl⟩)
          | (simp only [Q4, Jo, reduceIte, J0])
          | ((with_reducible refine hK _ _ ?_); clear hK)
          | (simp only [Q3, RA, Jn, Jm, Jp, Q2, Q0, ev, ofValue, Jt, J0, J3, J2, J4, reduceCtorEq, reduceIte, Ju, Qb, Qa, Jy, aun, Q9, Jk, Jh, Jx, Jw, Ji, Q8, Jf, Q1, Jr, Js, J1, J5, Ja, J9, Jb, J6, J7, Jd, J8, RB, Jv, Je, Vy, q2, q3, q4])
          | (simp (disch := first | omega | (simp only [RO]; done) | assumption) only [RS, X6, X7, X4, X0])
          | (simp (disch := (first | omega | (simp only [RO]; done) | assumption | (simp only [RM, Je]; done) | (simp only [RL, Je]; omega))) only [RD, reduceCtorEq, reduceIte, Je, J1, J3, J2, J6, Vy, q2, q3, q4])
        have l4 := Qr q4
        (
         (refine Qg (rs := [.cell 4 46]) rfl ?_)
         (simp only [Qx, Qd, Fr.put_some, Fr.put_none, Qe, Qf, Qi, J0, reduceIte, Qk l4])
         (try simp (disch := (first | omega | (simp only [RO]; done) | assumption | (simp only [RM, Je]; done) | (simp only [RL, Je]; omega))) only [RD, reduceCtorEq, reduceIte, Je, J1, J3, J2, J6, Vy, Qk l4]))
        exact ⟨u, rfl, ⟨zs, U.other q4 (by decide) _, C, vz2⟩, ((G5 _ _ _).trans x4).set (by omega) _⟩
    · have e2 : (0 ≤ (val xs - val ys).sign) = False := eq_false (fun h => by have := Int.sign_nonneg_iff.mp h; omega)
      repeat' first
        | (with_reducible first | refine Jj (fun K hK => ?_) | refine Q6 ?_ | refine Jg ?_ | refine Qw (id := 5) [] pn67_5RfH (by kernel_rfl) (by kernel_rfl) ?_ | refine Jz ?_)
        | ((with_reducible refine Jq (cmp_calls s t xs ys _ (ux.rd.ext (G5 _ _ _)) (uy.rd.ext (G5 _ _ _)) cx cy) ?_); rintro _ _ ⟨rfl, rfl⟩)
        | (with_reducible refine Jc ?_ ?_)
        | (simp only [Q4, Jo, reduceIte, J0])
        | ((with_reducible refine hK _ _ ?_); clear hK)
        | (simp only [Q3, RA, Jn, Jm, Jp, Q2, Q0, ev, ofValue, Jt, J0, J3, J2, J4, reduceCtorEq, reduceIte, Ju, Qb, Qa, Jy, aun, Q9, Jk, Jh, Jx, Jw, Ji, Q8, Jf, Q1, Jr, Js, J1, J5, Ja, J9, Jb, J6, J7, Jd, J8, RB, Jv, Je, Vy, e1b, e2])
        | (simp (disch := first | omega | (simp only [RO]; done) | assumption) only [RS, X6, X7, X4, X0])
        | (simp (disch := (first | omega | (simp only [RO]; done) | assumption | (simp only [RM, Je]; done) | (simp only [RL, Je]; omega))) only [RD, reduceCtorEq, reduceIte, Je, J1, J3, J2, J6, Vy, e1b, e2])
      all_goals
        refine Jq (Rminus_calls t s ys xs _ (uy.rd.ext (G5 _ _ _)) (ux.rd.ext (G5 _ _ _)) cy.lim cx.lim (by omega) (cy.le cx (by omega)) (by omega)) ?_
        rintro u H4 ⟨zs, U, C, vz, x4⟩
        have vz2 : val zs = (x + y).natAbs := by rw [vz, vx, vy]; omega
        have hz := Bs_.nil (H := H4) (s := u) (x := x + y) C vz2
        have q2 : Qt H4 H.length = some ⟨[.bool (decide (x < 0)), s], .own, 46⟩ := Qh (by rw [Qp (by simp), Qp (by simp), Qo rfl]) x4
        have q3 : Qt H4 (H.length + 1) = some ⟨[.bool (decide (y < 0)), t], .own, 46⟩ := Qh (by rw [Qp (by simp), Qo (by simp)]) x4
        have q4 : Qt H4 (H.length + 1 + 1) = some ⟨[.bool false, .nilS], .own, 46⟩ := Qh (Qo (by simp)) x4
        have hu1 : u.one = true := U.rd.rd.one
        have hc3 : u.cells = [u] := AV.cells_one hu1
        have hm := made_calls (decide (y < 0)) u zs H4 U.rd
        have hsg : (decide (y < 0) && decide (0 < zs.length)) = decide (x + y < 0) := by
          rw [Bool.eq_iff_iff]; simp only [Bool.and_eq_true, decide_eq_true_iff]; omega
        rw [hsg] at hm
        repeat' first
          | (with_reducible first | refine Qj ?_)
          | ((with_reducible refine Jq (hm) ?_); rintro _ _ ⟨rfl, rfl⟩)
          | (simp only [Q4, Jo, reduceIte, J0])
          | ((with_reducible refine hK _ _ ?_); clear hK)
          | (simp only [Q3, RA, Jn, Jm, Jp, Q2, Q0, ev, ofValue, Jt, J0, J3, J2, J4, reduceCtorEq, reduceIte, Ju, Qb, Qa, Jy, aun, Q9, Jk, Jh, Jx, Jw, Ji, Q8, Jf, Q1, Jr, Js, J1, J5, Ja, J9, Jb, J6, J7, Jd, J8, RB, Jv, Je, Vy, q2, q3, q4])
          | (simp (disch := first | omega | (simp only [RO]; done) | assumption) only [RS, X6, X7, X4, X0])
          | (simp (disch := (first | omega | (simp only [RO]; done) | assumption | (simp only [RM, Je]; done) | (simp only [RL, Je]; omega))) only [RD, reduceCtorEq, reduceIte, Je, J1, J3, J2, J6, Vy, q2, q3, q4])
        have l4 := Qr q4
        (
         (refine Qg (rs := [.cell 4 46]) rfl ?_)
         (simp only [Qx, Qd, Fr.put_some, Fr.put_none, Qe, Qf, Qi, J0, reduceIte, Qk l4])
         (try simp (disch := (first | omega | (simp only [RO]; done) | assumption | (simp only [RM, Je]; done) | (simp only [RL, Je]; omega))) only [RD, reduceCtorEq, reduceIte, Je, J1, J3, J2, J6, Vy, Qk l4]))
        exact ⟨u, rfl, ⟨zs, U.other q4 (by decide) _, C, vz2⟩, ((G5 _ _ _).trans x4).set (by omega) _⟩
end Go.Proofs.YtfalfmfkifemeaaGreatDoor
namespace Go.Proofs.YtfalfmfkifemeaaGreatDoor
open Go.AL Go.PW
theorem Nz : type_of% (Jc @Xz (Jc @X1 (Jc @Xj (Jc @Za (@Z9))))) := Jc @Xz (Jc @X1 (Jc @Xj (Jc @Za (@Z9))))
theorem tf91RfI : type_of% (Jc @Xz (Jc @X1 (Jc @Xj (Jc @Za (@Z9))))) := Jc @Xz (Jc @X1 (Jc @Xj (Jc @Za (@Z9))))
theorem tf90RfI : type_of% (Jc @Xz (Jc @X1 (Jc @Xj (Jc @Za (@Z9))))) := Jc @Xz (Jc @X1 (Jc @Xj (Jc @Za (@Z9))))
theorem tf68RfI : type_of% (Jc @Z8 (Jc @Xd (Jc @Xz (Jc @X1 (Jc @Xj (Jc @Za (@Z9))))))) := Jc @Z8 (Jc @Xd (Jc @Xz (Jc @X1 (Jc @Xj (Jc @Za (@Z9))))))
abbrev pn66_1RfI : Plan := (.one 1 (.pur 2 (.one 0 (.one 3 (.one 4 .nil)))))
set_option maxRecDepth 8000
theorem Sm.neg {x : Int} (h : Sm x) : Sm (-x) := by unfold Sm at *; rw [Int.natAbs_neg]; exact h
theorem Bs_.one {H : Hp} {s : AV} {x : Int} (h : Bs_ H s x) : s.one = true := by
  obtain ⟨xs, u, _⟩ := h.ex
  exact u.rd.rd.one
theorem Bs_.other {H : Hp} {s : AV} {x : Int} (h : Bs_ H s x) {k : Nat} {b : Blk} (hg : Qt H k = some b) (hb : b.ety ≠ 31) (b' : Blk) : Bs_ (H.set k b') s x := by
  obtain ⟨xs, u, c⟩ := h.ex
  exact ⟨xs, u.other hg hb b', c⟩
set_option maxHeartbeats 2000000 in
theorem Rsub_calls (x y : Int) (s t : AV) (H : Hp) (hs : Bs_ H s x) (ht : Bs_ H t y) (bx : Sm x) (by_ : Sm y) : ACalls Tryz.prog 66 [BV x s, BV y t] H fun r H' => ∃ u, r = BV (x - y) u ∧ Bs_ H' u (x - y) ∧ Ext H H' := by
  have hs1 := hs.one
  have hc1 : s.cells = [s] := AV.cells_one hs1
  have ht1 := ht.one
  have hc2 : t.cells = [t] := AV.cells_one ht1
  refine Q7 Tryz.func66 rfl (by kernel_rfl) (by kernel_rfl) ?_
  repeat' first
    | (with_reducible first | refine Jj (fun K hK => ?_) | refine Jg ?_ | refine Qw (id := 1) [] pn66_1RfI (by kernel_rfl) (by kernel_rfl) ?_ | refine Zs ?_)
    | (simp only [Q4, Jo, reduceIte, J0])
    | ((with_reducible refine hK _ _ ?_); clear hK)
    | (simp only [Q3, RA, Jn, Jm, Jp, Q2, Q0, ev, ofValue, Jt, J0, J3, J2, J4, reduceCtorEq, reduceIte, Ju, Qb, Qa, Jy, aun, Q9, Jk, Jh, Jx, Jw, Ji, Q8, Jf, Q1, Jr, Js, J1, J5, Ja, J9, Jb, J6, J7, Jd, J8, RB, Jv, Je, Nz])
    | (simp (disch := first | omega | (simp only [RO]; done) | assumption) only [RS, X6, X7, X4, X0])
    | (simp (disch := (first | omega | (simp only [RO]; done) | assumption | (simp only [RM, Je]; done) | (simp only [RL, Je]; omega))) only [RD, reduceCtorEq, reduceIte, Je, J1, J3, J2, J6, Nz])
  all_goals
    refine Xe (v := BV (-y) t) (fun H0 x0 => Neg_calls y t H0 (ht.ext ((G5 _ _ _).trans x0))) ?_
    repeat' first
      | (simp only [Q3, RA, Jn, Jm, Jp, Q2, Q0, ev, ofValue, Jt, J0, J3, J2, J4, reduceCtorEq, reduceIte, Ju, Qb, Qa, Jy, aun, Q9, Jk, Jh, Jx, Jw, Ji, Q8, Jf, Q1, Jr, Js, J1, J5, Ja, J9, Jb, J6, J7, Jd, J8, RB, Jv, Je, Nz])
      | (simp (disch := (first | omega | (simp only [RO]; done) | assumption | (simp only [RM, Je]; done) | (simp only [RL, Je]; omega))) only [RD, reduceCtorEq, reduceIte, Je, J1, J3, J2, J6, Nz])
    refine Jq (Radd_calls x (-y) s t _ (hs.ext (G5 _ _ _)) (ht.neg.ext (G5 _ _ _)) bx by_.neg) ?_
    rintro _ H4 ⟨u, rfl, U, x4⟩
    have q4 : Qt H4 (H.length + 1 + 1) = some ⟨[.bool false, .nilS], .own, 46⟩ := Qh (Qo (by simp)) x4
    have hu1 : u.one = true := U.one
    have hc3 : u.cells = [u] := AV.cells_one hu1
    repeat' first
      | (with_reducible first | refine Qj ?_)
      | (simp only [Q4, Jo, reduceIte, J0])
      | ((with_reducible refine hK _ _ ?_); clear hK)
      | (simp only [Q3, RA, Jn, Jm, Jp, Q2, Q0, ev, ofValue, Jt, J0, J3, J2, J4, reduceCtorEq, reduceIte, Ju, Qb, Qa, Jy, aun, Q9, Jk, Jh, Jx, Jw, Ji, Q8, Jf, Q1, Jr, Js, J1, J5, Ja, J9, Jb, J6, J7, Jd, J8, RB, Jv, Je, Nz, q4])
      | (simp (disch := first | omega | (simp only [RO]; done) | assumption) only [RS, X6, X7, X4, X0])
      | (simp (disch := (first | omega | (simp only [RO]; done) | assumption | (simp only [RM, Je]; done) | (simp only [RL, Je]; omega))) only [RD, reduceCtorEq, reduceIte, Je, J1, J3, J2, J6, Nz, q4])
    have l4 := Qr q4
    (
     (refine Qg (rs := [.cell 4 46]) rfl ?_)
     (simp only [Qx, Qd, Fr.put_some, Fr.put_none, Qe, Qf, Qi, J0, reduceIte, Qk l4])
     (try simp (disch := (first | omega | (simp only [RO]; done) | assumption | (simp only [RM, Je]; done) | (simp only [RL, Je]; omega))) only [RD, reduceCtorEq, reduceIte, Je, J1, J3, J2, J6, Nz, Qk l4]))
    have he : x + -y = x - y := by omega
    rw [he] at U ⊢
    exact ⟨u, rfl, U.other q4 (by decide) _, ((G5 _ _ _).trans x4).set (by omega) _⟩
theorem Amount_calls (x : Int) (s : AV) (H : Hp) (hs : Bs_ H s x) : ACalls Tryz.prog 91 [BV x s] H fun r H' => r = BV x.natAbs s ∧ H = H' := by
  refine ACalls.drop (R := fun r => r = BV x.natAbs s) ?_
  obtain ⟨xs, u, c, hv⟩ := hs.ex
  have hs1 := hs.one
  have hc : s.cells = [s] := AV.cells_one hs1
  have hm := fun H0 (x0 : Ext H H0) => made_calls false s xs H0 (u.rd.ext x0)
  have hb : decide ((x.natAbs : Int) < 0) = false := decide_eq_false (by omega)
  refine Q7 Tryz.func91 rfl (by kernel_rfl) (by kernel_rfl) ?_
  repeat' first
    | (with_reducible first | refine Jj (fun K hK => ?_) | refine Qj ?_ | refine Jg ?_)
    | ((with_reducible refine Jq (hm _ ((Ext.push _ _).pushed _)) ?_); rintro _ _ ⟨rfl, rfl⟩)
    | (simp only [Q4, Jo, reduceIte, J0])
    | ((with_reducible refine hK _ _ ?_); clear hK)
    | (simp only [Q3, RA, Jn, Jm, Jp, Q2, Q0, ev, ofValue, Jt, J0, J3, J2, J4, reduceCtorEq, reduceIte, Ju, Qb, Qa, Jy, aun, Q9, Jk, Jh, Jx, Jw, Ji, Q8, Jf, Q1, Jr, Js, J1, J5, Ja, J9, Jb, J6, J7, Jd, J8, RB, Jv, Je, tf91RfI])
    | (simp (disch := first | omega | (simp only [RO]; done) | assumption) only [RS, X6, X7, X4, X0])
    | (simp (disch := (first | omega | (simp only [RO]; done) | assumption | (simp only [RM, Je]; done) | (simp only [RL, Je]; omega))) only [RD, reduceCtorEq, reduceIte, Je, J1, J3, J2, J6, tf91RfI])
  have hsl := hs.lt
  all_goals
    (
     (refine Qg (rs := [.cell 2 46]) rfl ?_)
     (simp only [Qx, Qd, Fr.put_some, Fr.put_none, Qe, Qf, Qi, J0, reduceIte])
     (try simp (disch := (first | omega | (simp only [RO]; done) | assumption | (simp only [RM, Je]; done) | (simp only [RL, Je]; omega))) only [RD, reduceCtorEq, reduceIte, Je, J1, J3, J2, J6, tf91RfI]))
  all_goals
    refine ⟨(Ext.push _ _).pushed _, ?_⟩
    simp [AV.lt, AV.lts, hsl, hb]
theorem Bs_.abs {H : Hp} {s : AV} {x : Int} (h : Bs_ H s x) : Bs_ H s x.natAbs := by
  obtain ⟨xs, u, c, hv⟩ := h.ex
  exact ⟨xs, u, c, by rw [hv, Int.natAbs_natCast]⟩
theorem Cmp_calls (x y : Int) (s t : AV) (H : Hp) (hs : Bs_ H s x) (ht : Bs_ H t y) (bx : Sm x) (by_ : Sm y) : ACalls Tryz.prog 90 [BV x s, BV y t] H fun r H' => r = .int .i64 (x - y).sign ∧ H = H' := by
  refine ACalls.drop (R := fun r => r = .int .i64 (x - y).sign) ?_
  have hs1 := hs.one
  have hc1 : s.cells = [s] := AV.cells_one hs1
  have ht1 := ht.one
  have hc2 : t.cells = [t] := AV.cells_one ht1
  refine Q7 Tryz.func90 rfl (by kernel_rfl) (by kernel_rfl) ?_
  repeat' first
    | (with_reducible first | refine Jj (fun K hK => ?_) | refine Jg ?_)
    | (simp only [Q4, Jo, reduceIte, J0])
    | ((with_reducible refine hK _ _ ?_); clear hK)
    | (simp only [Q3, RA, Jn, Jm, Jp, Q2, Q0, ev, ofValue, Jt, J0, J3, J2, J4, reduceCtorEq, reduceIte, Ju, Qb, Qa, Jy, aun, Q9, Jk, Jh, Jx, Jw, Ji, Q8, Jf, Q1, Jr, Js, J1, J5, Ja, J9, Jb, J6, J7, Jd, J8, RB, Jv, Je, tf90RfI])
    | (simp (disch := first | omega | (simp only [RO]; done) | assumption) only [RS, X6, X7, X4, X0])
    | (simp (disch := (first | omega | (simp only [RO]; done) | assumption | (simp only [RM, Je]; done) | (simp only [RL, Je]; omega))) only [RD, reduceCtorEq, reduceIte, Je, J1, J3, J2, J6, tf90RfI])
  all_goals
    refine Jq (Rsub_calls x y s t _ (hs.ext (ext4 _ _)) (ht.ext (ext4 _ _)) bx by_) ?_
    rintro _ H4 ⟨u, rfl, U, x4⟩
    repeat' first
      | (with_reducible first | refine Qj ?_)
      | ((with_reducible refine Jq (Sign_calls _ _ _ U) ?_); rintro _ _ ⟨rfl, rfl⟩)
      | (simp only [Q4, Jo, reduceIte, J0])
      | ((with_reducible refine hK _ _ ?_); clear hK)
      | (simp only [Q3, RA, Jn, Jm, Jp, Q2, Q0, ev, ofValue, Jt, J0, J3, J2, J4, reduceCtorEq, reduceIte, Ju, Qb, Qa, Jy, aun, Q9, Jk, Jh, Jx, Jw, Ji, Q8, Jf, Q1, Jr, Js, J1, J5, Ja, J9, Jb, J6, J7, Jd, J8, RB, Jv, Je, tf90RfI])
    (
     (refine Qg (rs := [.tmp 4]) rfl ?_)
     (simp only [Qx, Qd, Fr.put_some, Fr.put_none, Qe, Qf, Qi, J0, reduceIte])
     (try simp (disch := (first | omega | (simp only [RO]; done) | assumption | (simp only [RM, Je]; done) | (simp only [RL, Je]; omega))) only [RD, reduceCtorEq, reduceIte, Je, J1, J3, J2, J6, tf90RfI]))
    exact ⟨(ext4 _ _).trans x4, trivial⟩
theorem Sm.abs {x : Int} (h : Sm x) : Sm x.natAbs := by unfold Sm at *; rw [Int.natAbs_natCast]; exact h
theorem Sm.int {v : Int} (hv : -9223372036854775808 ≤ v ∧ v ≤ 9223372036854775807) : Sm v := by
  unfold Sm
  have h : Bs ^ 1 ≤ Bs ^ 20 := Wv (by omega)
  have h1 : Bs ^ 1 = 18446744073709551616 := by decide
  omega
theorem Fits_calls (x m : Int) (s : AV) (H : Hp) (hs : Bs_ H s x) (bx : Sm x) (hm : -9223372036854775808 ≤ m ∧ m ≤ 9223372036854775807) : ACalls Tryz.prog 68 [BV x s, .int .i64 m] H fun r H' => r = .bool (decide ((x.natAbs : Int) ≤ m)) ∧ H = H' := by
  refine ACalls.drop (R := fun r => r = .bool (decide ((x.natAbs : Int) ≤ m))) ?_
  have hs1 := hs.one
  have hc1 : s.cells = [s] := AV.cells_one hs1
  refine Q7 Tryz.func68 rfl (by kernel_rfl) (by kernel_rfl) ?_
  repeat' first
    | (with_reducible first | refine Jj (fun K hK => ?_) | refine Jg ?_)
    | ((with_reducible refine Jq (Amount_calls _ _ _ (hs.push _)) ?_); rintro _ _ ⟨rfl, rfl⟩)
    | (simp only [Q4, Jo, reduceIte, J0])
    | ((with_reducible refine hK _ _ ?_); clear hK)
    | (simp only [Q3, RA, Jn, Jm, Jp, Q2, Q0, ev, ofValue, Jt, J0, J3, J2, J4, reduceCtorEq, reduceIte, Ju, Qb, Qa, Jy, aun, Q9, Jk, Jh, Jx, Jw, Ji, Q8, Jf, Q1, Jr, Js, J1, J5, Ja, J9, Jb, J6, J7, Jd, J8, RB, Jv, Je, tf68RfI])
    | (simp (disch := first | omega | (simp only [RO]; done) | assumption) only [RS, X6, X7, X4, X0])
    | (simp (disch := (first | omega | (simp only [RO]; done) | assumption | (simp only [RM, Je]; done) | (simp only [RL, Je]; omega))) only [RD, reduceCtorEq, reduceIte, Je, J1, J3, J2, J6, tf68RfI])
  all_goals
    refine Jq (Of_calls m _ hm) ?_
    rintro _ H4 ⟨u, rfl, U, x4⟩
    have A4 : Bs_ H4 s x.natAbs := (hs.abs.push _).ext x4
    repeat' first
      | (with_reducible first | refine Qj ?_)
      | ((with_reducible refine Jq (Cmp_calls _ _ _ _ _ A4 U bx.abs (Sm.int hm)) ?_); rintro _ _ ⟨rfl, rfl⟩)
      | (simp only [Q4, Jo, reduceIte, J0])
      | ((with_reducible refine hK _ _ ?_); clear hK)
      | (simp only [Q3, RA, Jn, Jm, Jp, Q2, Q0, ev, ofValue, Jt, J0, J3, J2, J4, reduceCtorEq, reduceIte, Ju, Qb, Qa, Jy, aun, Q9, Jk, Jh, Jx, Jw, Ji, Q8, Jf, Q1, Jr, Js, J1, J5, Ja, J9, Jb, J6, J7, Jd, J8, RB, Jv, Je, tf68RfI])
    (
     (refine Qg (rs := [.tmp 4]) rfl ?_)
     (simp only [Qx, Qd, Fr.put_some, Fr.put_none, Qe, Qf, Qi, J0, reduceIte])
     (try simp (disch := (first | omega | (simp only [RO]; done) | assumption | (simp only [RM, Je]; done) | (simp only [RL, Je]; omega))) only [RD, reduceCtorEq, reduceIte, Je, J1, J3, J2, J6, tf68RfI]))
    refine ⟨(Ext.push _ _).trans x4, trivial, ?_⟩
    congr 1
    refine decide_eq_decide.mpr ?_
    rw [Int.sign_nonpos_iff]
    omega
end Go.Proofs.YtfalfmfkifemeaaGreatDoor
namespace Go.Proofs.YtfalfmfkifemeaaGreatDoor
open Go.AL Go.PW
theorem G1 : type_of% (Jc @Z8 (Jc @Xd (Jc @Xz (Jc @X1 (Jc @Xj (Jc @Za (Jc @Z9 (@cv31_2)))))))) := Jc @Z8 (Jc @Xd (Jc @Xz (Jc @X1 (Jc @Xj (Jc @Za (Jc @Z9 (@cv31_2)))))))
set_option maxRecDepth 8000
theorem Bs_.single {H : Hp} {s : AV} {x : Int} (h : Bs_ H s x) (hx : x ≠ 0) (hb : x.natAbs ≤ 9223372036854775808) : Ints H .u64 s [(x.natAbs : Int)] := by
  obtain ⟨xs, u, c, hv⟩ := h.ex
  have hz := Bs_.nil (H := H) (s := s) c hv
  have hl : xs.length < 2 := by
    rcases Nat.lt_or_ge xs.length 2 with h | h
    · exact h
    · have h1 := c.low (by omega)
      have h2 : Bs ^ 1 ≤ Bs ^ (xs.length - 1) := Wv (by omega)
      have h3 : Bs ^ 1 = 18446744073709551616 := by decide
      omega
  have hn : xs.length ≠ 0 := fun e => hx (hz.1 e)
  match xs, hl, hn, hv, u with
  | [m], _, _, hv, u =>
    simp only [val] at hv
    have : m = (x.natAbs : Int) := by omega
    rw [← this]; exact u.rd
set_option maxHeartbeats 2000000 in
theorem Int64_calls (x : Int) (s : AV) (H : Hp) (hs : Bs_ H s x) (hv : -9223372036854775808 ≤ x ∧ x ≤ 9223372036854775807) : ACalls Tryz.prog 69 [BV x s] H fun r H' => r = .tup [.int .i64 x, .bool true] ∧ H = H' := by
  refine ACalls.drop (R := fun r => r = .tup [.int .i64 x, .bool true]) ?_
  have hs1 := hs.one
  have hc1 : s.cells = [s] := AV.cells_one hs1
  by_cases h0 : x = 0
  · obtain ⟨xs, u, c, vx⟩ := hs.ex
    have hz := (Bs_.nil (H := H) (s := s) c vx).2 h0
    have hl := u.rd.rd.len Z4
    rw [hz] at hl
    refine Q7 Tryz.func69 rfl (by kernel_rfl) (by kernel_rfl) ?_
    repeat' first
      | (with_reducible first | refine Jj (fun K hK => ?_) | refine Qj ?_ | refine Jg ?_ | refine Jz ?_)
      | (simp only [Q4, Jo, reduceIte, J0])
      | ((with_reducible refine hK _ _ ?_); clear hK)
      | (simp only [Q3, RA, Jn, Jm, Jp, Q2, Q0, ev, ofValue, Jt, J0, J3, J2, J4, reduceCtorEq, reduceIte, Ju, Qb, Qa, Jy, aun, Q9, Jk, Jh, Jx, Jw, Ji, Q8, Jf, Q1, Jr, Js, J1, J5, Ja, J9, Jb, J6, J7, Jd, J8, RB, Jv, Je, G1, hl])
      | (simp (disch := first | omega | (simp only [RO]; done) | assumption) only [RS, X6, X7, X4, X0])
      | (simp (disch := (first | omega | (simp only [RO]; done) | assumption | (simp only [RM, Je]; done) | (simp only [RL, Je]; omega))) only [RD, reduceCtorEq, reduceIte, Je, J1, J3, J2, J6, G1, hl])
    all_goals
      (
       (refine Qg (rs := [.tmp 2, .tmp 3]) rfl ?_)
       (simp only [Qx, Qd, Fr.put_some, Fr.put_none, Qe, Qf, Qi, J0, reduceIte])
       (try simp (disch := (first | omega | (simp only [RO]; done) | assumption | (simp only [RM, Je]; done) | (simp only [RL, Je]; omega))) only [RD, reduceCtorEq, reduceIte, Je, J1, J3, J2, J6, G1]))
    all_goals exact ⟨Ext.push _ _, by simp [AV.lt, AV.lts], by rw [h0]⟩
  · have hI := hs.single h0 (by omega)
    have hl := hI.rd.len Z4
    have f1 : (9223372036854775808 < (x.natAbs : Int)) = False := eq_false (by omega)
    have a0 : X3 Tryz.prog 44 s (.int .i64 0) = some (.ptr s.hd s.of) := by
      have := hI.rd.at_ Z4 Xt (k := .i64) (j := 0) (by omega) (by simp)
      simpa using this
    have l0 : ∀ b : Blk, Yq Tryz.prog (H ++ [b]) 31 (.ptr s.hd s.of) = some (.int .u64 (x.natAbs : Int)) := fun b => by
      have := (hI.push b).load Y0 (i := 0) (by simp)
      simpa using this
    refine Q7 Tryz.func69 rfl (by kernel_rfl) (by kernel_rfl) ?_
    by_cases hn : x < 0
    · have e1 : (x < 0) = True := eq_true hn
      have w1 : IntKind.u64.wrap ((x.natAbs : Int) - 1) = -x - 1 := by rw [Zt (by omega) (by simp only [Bs]; omega)]; omega
      have w2 : IntKind.i64.wrap (-x - 1) = -x - 1 := Q5 (by omega) (by omega)
      have w3 : IntKind.i64.wrap (0 - (-x - 1)) = x + 1 := by rw [Q5 (by omega) (by omega)]; omega
      have w4 : IntKind.i64.wrap (x + 1 - 1) = x := by rw [Q5 (by omega) (by omega)]; omega
      repeat' first
        | (with_reducible first | refine Jj (fun K hK => ?_) | refine Q6 ?_ | refine Qj ?_ | refine Jg ?_ | refine Jz ?_)
        | (with_reducible refine Qn (fun hc => ?_) (fun hc => ?_) <;> (try simp only [RC] at hc) <;> (try (exfalso; first | omega | contradiction)))
        | (simp only [Q4, Jo, reduceIte, J0])
        | ((with_reducible refine hK _ _ ?_); clear hK)
        | (simp only [Q3, RA, Jn, Jm, Jp, Q2, Q0, ev, ofValue, Jt, J0, J3, J2, J4, reduceCtorEq, reduceIte, Ju, Qb, Qa, Jy, aun, Q9, Jk, Jh, Jx, Jw, Ji, Q8, Jf, Q1, Jr, Js, J1, J5, Ja, J9, Jb, J6, J7, Jd, J8, RB, Jv, Je, G1, hl, e1, f1, w1, w2, w3, w4, a0, l0])
        | (simp (disch := first | omega | (simp only [RO]; done) | assumption) only [RS, X6, X7, X4, X0])
        | (simp (disch := (first | omega | (simp only [RO]; done) | assumption | (simp only [RM, Je]; done) | (simp only [RL, Je]; omega))) only [RD, reduceCtorEq, reduceIte, Je, J1, J3, J2, J6, G1, hl, e1, f1, w1, w2, w3, w4, a0, l0])
      all_goals
        (
         (refine Qg (rs := [.tmp 2, .tmp 3]) rfl ?_)
         (simp only [Qx, Qd, Fr.put_some, Fr.put_none, Qe, Qf, Qi, J0, reduceIte])
         (try simp (disch := (first | omega | (simp only [RO]; done) | assumption | (simp only [RM, Je]; done) | (simp only [RL, Je]; omega))) only [RD, reduceCtorEq, reduceIte, Je, J1, J3, J2, J6, G1]))
      all_goals exact ⟨Ext.push _ _, by simp [AV.lt, AV.lts]⟩
    · have e1 : (x < 0) = False := eq_false hn
      have f2 : ((x.natAbs : Int) = 9223372036854775808) = False := eq_false (by omega)
      have w2 : IntKind.i64.wrap (x.natAbs : Int) = x := by rw [Q5 (by omega) (by omega)]; omega
      repeat' first
        | (with_reducible first | refine Jj (fun K hK => ?_) | refine Q6 ?_ | refine Qj ?_ | refine Jg ?_ | refine Jz ?_)
        | (with_reducible refine Qn (fun hc => ?_) (fun hc => ?_) <;> (try simp only [RC] at hc) <;> (try (exfalso; first | omega | contradiction)))
        | (simp only [Q4, Jo, reduceIte, J0])
        | ((with_reducible refine hK _ _ ?_); clear hK)
        | (simp only [Q3, RA, Jn, Jm, Jp, Q2, Q0, ev, ofValue, Jt, J0, J3, J2, J4, reduceCtorEq, reduceIte, Ju, Qb, Qa, Jy, aun, Q9, Jk, Jh, Jx, Jw, Ji, Q8, Jf, Q1, Jr, Js, J1, J5, Ja, J9, Jb, J6, J7, Jd, J8, RB, Jv, Je, G1, hl, e1, f1, f2, w2, a0, l0])
        | (simp (disch := first | omega | (simp only [RO]; done) | assumption) only [RS, X6, X7, X4, X0])
        | (simp (disch := (first | omega | (simp only [RO]; done) | assumption | (simp only [RM, Je]; done) | (simp only [RL, Je]; omega))) only [RD, reduceCtorEq, reduceIte, Je, J1, J3, J2, J6, G1, hl, e1, f1, f2, w2, a0, l0])
      all_goals
        (
         (refine Qg (rs := [.tmp 2, .tmp 3]) rfl ?_)
         (simp only [Qx, Qd, Fr.put_some, Fr.put_none, Qe, Qf, Qi, J0, reduceIte])
         (try simp (disch := (first | omega | (simp only [RO]; done) | assumption | (simp only [RM, Je]; done) | (simp only [RL, Je]; omega))) only [RD, reduceCtorEq, reduceIte, Je, J1, J3, J2, J6, G1]))
      all_goals exact ⟨Ext.push _ _, by simp [AV.lt, AV.lts]⟩
end Go.Proofs.YtfalfmfkifemeaaGreatDoor
namespace Go.Proofs.YtfalfmfkifemeaaGreatDoor
open Go.AL Go.PW
theorem tf27RfL : type_of% (Jc @Z8 (Jc @Xd (Jc @Xx (Jc @Xw (@Xv))))) := Jc @Z8 (Jc @Xd (Jc @Xx (Jc @Xw (@Xv))))
set_option maxRecDepth 8000
theorem make_i64 (H : Hp) (n : Nat) (l : IntKind) (hn : n < 1000000) : Zv Tryz.prog H 22 (.int l (n : Int)) (.int l (n : Int)) = some (.sl H.length 0 n n, H ++ [⟨(List.replicate n (0 : Int)).map (AV.int .i64), .own, 2⟩]) := by
  have e : Js [AV.int .i64 0] n = (List.replicate n (0 : Int)).map (AV.int .i64) := by
    unfold Js
    induction n with
    | zero => rfl
    | succ n ih => rw [List.replicate_succ, List.flatten_cons, ih (by omega)]; rfl
  have hc : (AV.int .i64 0).cells = [AV.int .i64 0] := rfl
  simp only [Zv, Ym, W3, zero2, bytes2, hc]
  rw [if_pos ⟨rfl, rfl, by decide, by omega, by omega, by omega, by omega⟩, Int.toNat_natCast, e]
theorem half (n : Fin 9) : IntKind.i64.wrap (Int.tdiv (IntKind.i64.wrap ((n.1 : Int) * IntKind.i64.wrap ((n.1 : Int) + 1))) 2) = ((n.1 * (n.1 + 1) / 2 : Nat) : Int) := by
  revert n; decide +kernel
set_option maxHeartbeats 2000000 in
theorem SymNew_calls (n : Nat) (H : Hp) (h8 : n ≤ 8) : ACalls Tryz.prog 27 [.int .i64 (n : Int)] H fun r H' => ∃ h, r = Ya n (.sl h 0 (n * (n + 1) / 2) (n * (n + 1) / 2)) ∧ Qt H' h = some ⟨(List.replicate (n * (n + 1) / 2) (0 : Int)).map (AV.int .i64), .own, 2⟩ ∧ H.length ≤ h ∧ Ext H H' := by
  have hm1 : Qy Tryz.prog .max #[3, 3] [.int .i64 (n : Int), .int .i64 0] = some (.int .i64 (n : Int)) := by
    show some (AV.int .i64 (if ((n : Int) < 0) then 0 else (n : Int))) = _
    rw [if_neg (by omega)]
  have hm2 : Qy Tryz.prog .min #[3, 3] [.int .i64 (n : Int), .int .i64 8] = some (.int .i64 (n : Int)) := by
    show some (AV.int .i64 (if ((8 : Int) < (n : Int)) then 8 else (n : Int))) = _
    rw [if_neg (by omega)]
  have hh := half ⟨n, by omega⟩
  have hn2 : n * (n + 1) / 2 < 1000000 := by
    have : n * (n + 1) ≤ 8 * 9 := Nat.mul_le_mul h8 (by omega)
    omega
  have hmk := fun H0 => make_i64 H0 (n * (n + 1) / 2) .i64 hn2
  refine Q7 Tryz.func27 rfl (by kernel_rfl) (by kernel_rfl) ?_
  repeat' first
    | (with_reducible first | refine Jj (fun K hK => ?_) | refine Qj ?_ | refine Jg ?_)
    | (simp only [Q4, Jo, reduceIte, J0])
    | ((with_reducible refine hK _ _ ?_); clear hK)
    | (simp only [Q3, RA, Jn, Jm, Jp, Q2, Q0, ev, ofValue, Jt, J0, J3, J2, J4, reduceCtorEq, reduceIte, Ju, Qb, Qa, Jy, aun, Q9, Jk, Jh, Jx, Jw, Ji, Q8, Jf, Q1, Jr, Js, J1, J5, Ja, J9, Jb, J6, J7, Jd, J8, RB, Jv, Je, tf27RfL, hm1, hm2, hh, hmk])
    | (simp (disch := first | omega | (simp only [RO]; done) | assumption) only [RS, X8, X9, Qu, Qv, Qq])
    | (simp (disch := (first | omega | (simp only [RO]; done) | assumption | (simp only [RM, Je]; done) | (simp only [RL, Je]; omega))) only [RD, reduceCtorEq, reduceIte, Je, J1, J3, J2, J6, tf27RfL, hm1, hm2, hh, hmk])
  all_goals
    (
     (refine Qg (rs := [.cell 2 24]) rfl ?_)
     (simp only [Qx, Qd, Fr.put_some, Fr.put_none, Qe, Qf, Qi, J0, reduceIte])
     (try simp (disch := (first | omega | (simp only [RO]; done) | assumption | (simp only [RM, Je]; done) | (simp only [RL, Je]; omega))) only [RD, reduceCtorEq, reduceIte, Je, J1, J3, J2, J6, tf27RfL]))
  all_goals exact ⟨H.length + 1, rfl, by first | exact Qo (by simp) | rw [if_pos (by simp)] | simp, by omega, (Ext.push _ _).pushed _⟩
end Go.Proofs.YtfalfmfkifemeaaGreatDoor
namespace Go.Proofs.YtfalfmfkifemeaaGreatDoor
open Go.AL Go.PW
theorem tf12RfM : type_of% (Jc @Z8 (Jc @Xd (Jc @Xx (Jc @Xw (@Xv))))) := Jc @Z8 (Jc @Xd (Jc @Xx (Jc @Xw (@Xv))))
abbrev pn12_1RfM : Plan := (.one 0 (.one 2 (.one 3 (.alt 1 (.one 4 (.one 5 (.one 6 .nil))) (.one 4 (.one 1 (.one 5 (.one 6 .nil))))))))
set_option maxRecDepth 8000
abbrev Ib (xs : List Int) : Blk := ⟨xs.map (AV.int .i64), .own, 2⟩
set_option maxHeartbeats 2000000 in
theorem Copy_calls (n : Int) (xs : List Int) (a : AV) (H : Hp) (ha : Ints H .i64 a xs) (hx : 0 < xs.length) (hl : xs.length < 1000000) : ACalls Tryz.prog 12 [Ya n a] H fun r H' => ∃ h, r = Ya n (.sg h 0 xs.length 1) ∧ Qt H' h = some (Ib xs) ∧ H.length ≤ h ∧ Ext H H' := by
  have ha1 : a.one = true := ha.rd.one
  have hc : a.cells = [a] := AV.cells_one ha1
  have g := fun (H0 : Hp) (x0 : Ext H H0) => append_nil (P := Tryz.prog) (ha.ext x0).rd Ym W3 zero2 rfl (by decide) bytes2 (V9 _ _) hx (by omega) (by omega)
  have g1 := fun b1 b2 => g _ ((Ext.push H b1).pushed b2)
  refine Q7 Tryz.func12 rfl (by kernel_rfl) (by kernel_rfl) ?_
  repeat' first
    | (with_reducible first | refine Jj (fun K hK => ?_) | refine Qj ?_ | refine Jg ?_ | refine Qw (id := 1) [] pn12_1RfM (by kernel_rfl) (by kernel_rfl) ?_)
    | (with_reducible refine Jc ?_ ?_)
    | (simp only [Q4, Jo, reduceIte, J0])
    | ((with_reducible refine hK _ _ ?_); clear hK)
    | (simp only [Q3, RA, Jn, Jm, Jp, Q2, Q0, ev, ofValue, Jt, J0, J3, J2, J4, reduceCtorEq, reduceIte, Ju, Qb, Qa, Jy, aun, Q9, Jk, Jh, Jx, Jw, Ji, Q8, Jf, Q1, Jr, Js, J1, J5, Ja, J9, Jb, J6, J7, Jd, J8, RB, Jv, Je, tf12RfM, g1])
    | (simp (disch := first | omega | (simp only [RO]; done) | assumption) only [RS, X8, X9, Qu, Qv, Qq])
    | (simp (disch := (first | omega | (simp only [RO]; done) | assumption | (simp only [RM, Je]; done) | (simp only [RL, Je]; omega))) only [RD, reduceCtorEq, reduceIte, Je, J1, J3, J2, J6, tf12RfM, g1])
  all_goals
    (
     (refine Qg (rs := [.cell 2 24]) rfl ?_)
     (simp only [Qx, Qd, Fr.put_some, Fr.put_none, Qe, Qf, Qi, J0, reduceIte])
     (try simp (disch := (first | omega | (simp only [RO]; done) | assumption | (simp only [RM, Je]; done) | (simp only [RL, Je]; omega))) only [RD, reduceCtorEq, reduceIte, Je, J1, J3, J2, J6, tf12RfM]))
  all_goals exact ⟨H.length + 1 + 1, rfl, by first | exact Qo (by simp) | rw [if_pos (by simp)] | simp, by omega, ((Ext.push _ _).pushed _).pushed _⟩
end Go.Proofs.YtfalfmfkifemeaaGreatDoor

/- Part 2 of the proof of the law CirclesMeet: lemmas on the model's code, on this program's functions, on numbers. No condition. -/
import Derived.Test.YtigddjlhncnnoaaGreatDoorZCirclesMeetaa
set_option linter.unusedVariables false
set_option linter.unusedSimpArgs false
open Nat renaming reduceEqDiff → J0, reduceLeDiff → J1, reduceMul → J2, reduceAdd → J3, reduceSub → J4, reduceLT → J5
open Int renaming reduceToNat → J6, reducePow → J7, reduceNeg → J8, reduceLT → J9, reduceLE → Ja, reduceEq → Jb
open And renaming intro → Jc
open Go.IntKind renaming bits → Jd
open Go.PW renaming dig_length → Je
namespace Go.Proofs.YtigddjlhncnnoaaGreatDoor
open Go.AL Go.PW
theorem J1t : type_of% (Jc @Xw (Jc @Z1 (@Xc))) := Jc @Xw (Jc @Z1 (@Xc))
set_option maxRecDepth 8000
theorem J0b (H : Hp) (n : Nat) (l : IntKind) (hn : n < 1000000) : Yk Tryz.prog H 65 (.int l (n : Int)) (.int l (n : Int)) = some (.sl H.length 0 n n, H ++ [Ub (List.replicate n 0)]) := by
  have e : Js [AV.int .u64 0] n = (List.replicate n (0 : Int)).map (AV.int .u64) := by
    unfold Js
    induction n with
    | zero => rfl
    | succ n ih => rw [List.replicate_succ, List.flatten_cons, ih (by omega)]; rfl
  have hc : (AV.int .u64 0).cells = [AV.int .u64 0] := rfl
  simp only [Yk, Z8, Z4, zero71, bytes71, hc]
  rw [if_pos ⟨rfl, rfl, by decide, by omega, by omega, by omega, by omega⟩, Int.toNat_natCast, e]
theorem Vh {H : Hp} {h : Nat} {xs : List Int} (hg : X3 H h = some (Ub xs)) {i : Nat} (hi : i < xs.length) (x : Int) : Np Tryz.prog H 71 (.ptr h i) (.int .u64 x) = some (H.set h (Ub (xs.set i x))) := by
  rw [Um, hg]
  simp only [Z4]
  have hc : (AV.int .u64 x).cells = [AV.int .u64 x] := rfl
  rw [if_pos ⟨trivial, rfl, rfl, by rw [V6]; exact hi⟩, hc, Gs (AV.int .u64) xs x hi]
theorem tl_zero (xs : List Int) : ∀ k i, tl xs k ≤ i → i < k → xs.getD i 0 = 0
  | 0, i, _, h => by omega
  | k + 1, i, h1, h2 => by
    by_cases hx : xs.getD k 0 = 0
    · rw [tl_z hx] at h1
      by_cases e : i = k
      · rw [e]; exact hx
      · exact tl_zero xs k i h1 (by omega)
    · rw [tl_nz hx] at h1; omega
theorem tl_top (xs : List Int) : ∀ k, tl xs k ≠ 0 → xs.getD (tl xs k - 1) 0 ≠ 0
  | 0, h => absurd rfl h
  | k + 1, h => by
    by_cases hx : xs.getD k 0 = 0
    · rw [tl_z hx] at h ⊢; exact tl_top xs k h
    · rw [tl_nz hx]; exact hx
theorem val_noughts : ∀ (xs : List Int), (∀ x ∈ xs, x = 0) → val xs = 0
  | [], _ => rfl
  | x :: xs, h => by
    rw [show val (x :: xs) = x + Bs * val xs from rfl, h x (List.mem_cons_self ..), val_noughts xs fun y hy => h y (List.mem_cons_of_mem _ hy)]
    simp
theorem J1s (xs : List Int) (k : Nat) (hk : k ≤ xs.length) : val (xs.take (tl xs k)) = val (xs.take k) := by
  have hl := Wo xs k
  have h := Yq (xs.take k) (tl xs k)
  rw [List.take_take, Nat.min_eq_left hl] at h
  rw [h, val_noughts ((xs.take k).drop (tl xs k))]
  · simp
  · intro x hx
    obtain ⟨i, hi, rfl⟩ := List.mem_iff_getElem.1 hx
    rw [List.length_drop, List.length_take] at hi
    have := tl_zero xs k (tl xs k + i) (by omega) (by omega)
    rw [List.getD_eq_getElem?_getD, List.getElem?_eq_getElem (by omega)] at this
    simpa using this
theorem tl_can {xs : List Int} (h : Limbs xs) (k : Nat) (hk : k ≤ xs.length) (hl : k < 100000) : Can (xs.take (tl xs k)) := by
  have hle := Wo xs k
  refine ⟨h.take _, ?_, by rw [List.length_take]; omega⟩
  by_cases e : tl xs k = 0
  · left; rw [e]; rfl
  · right
    rw [List.length_take, Nat.min_eq_left (by omega), List.getD_eq_getElem?_getD, List.getElem?_take, if_pos (by omega), ← List.getD_eq_getElem?_getD]
    exact tl_top xs k e
theorem Uv.front {H : Hp} {h k c : Nat} {xs : List Int} (hg : X3 H h = some (Ub xs)) (hk : k ≤ xs.length) (hkc : k ≤ c) : Uv H (.sl h 0 k c) (xs.take k) := by
  refine ⟨?_, .inr ⟨_, hg, rfl⟩⟩
  have hlen : (xs.take k).length = k := by rw [List.length_take]; omega
  show Rd H 1 _ _ _
  rw [hlen]
  refine ⟨?_, hkc⟩
  simp only [arow, hg]
  rw [if_neg (by decide), if_pos (by rw [V6]; omega), List.drop_zero, ← List.map_take, Nat.mul_one]
theorem K0 {xs : List Int} {i : Nat} (h : xs.length ≤ i) : xs.getD i 0 = 0 := by
  rw [List.getD_eq_getElem?_getD, List.getElem?_eq_none h]; rfl
theorem Wy (xs : List Int) (i : Nat) : val (xs.take (i + 1)) = val (xs.take i) + Bs ^ i * xs.getD i 0 := by
  rcases Nat.lt_or_ge i xs.length with h | h
  · exact Xk xs h
  · rw [List.take_of_length_le h, List.take_of_length_le (by omega), K0 h]; simp
theorem plus_step {xs ys os : List Int} {i : Nat} {c : Int} (hx : Limbs xs) (hy : Limbs ys) (ho : Limbs os) (hi : i < os.length) (hc : 0 ≤ c ∧ c ≤ 1) (h : val (os.take i) + Bs ^ i * c = val (xs.take i) + val (ys.take i)) :
    (0 ≤ (xs.getD i 0 + ys.getD i 0 + c) / Bs ∧ (xs.getD i 0 + ys.getD i 0 + c) / Bs ≤ 1) ∧ Limbs (os.set i ((xs.getD i 0 + ys.getD i 0 + c) % Bs)) ∧
    val ((os.set i ((xs.getD i 0 + ys.getD i 0 + c) % Bs)).take (i + 1)) + Bs ^ (i + 1) * ((xs.getD i 0 + ys.getD i 0 + c) / Bs) = val (xs.take (i + 1)) + val (ys.take (i + 1)) := by
  have hdx := hx.get i
  have hdy := hy.get i
  generalize hS : xs.getD i 0 + ys.getD i 0 + c = S
  have hS0 : 0 ≤ S ∧ S < 2 * Bs := by simp only [Bs] at *; omega
  have hm := Int.emod_add_mul_ediv S Bs
  have hm0 := Int.emod_nonneg S (b := Bs) (by decide)
  have hm1 := Int.emod_lt_of_pos S (b := Bs) (by decide)
  refine ⟨⟨?_, ?_⟩, ho.set i ⟨hm0, hm1⟩, ?_⟩
  · simp only [Bs] at *; omega
  · simp only [Bs] at *; omega
  · have hv := Wy xs i
    have hv' := Wy ys i
    have hv2 := Xk (os.set i (S % Bs)) (i := i) (by rw [List.length_set]; omega)
    rw [Xs _ _ (by omega), if_pos rfl, List.take_set_of_le (Nat.le_refl _)] at hv2
    rw [hv, hv', hv2, Int.pow_succ]
    have : ys.getD i 0 = S - xs.getD i 0 - c := by omega
    rw [this]
    generalize Bs ^ i = p at *
    have : p * S = p * (S % Bs) + p * Bs * (S / Bs) := by rw [Int.mul_assoc, ← Int.mul_add, hm]
    grind
set_option maxHeartbeats 4000000 in
theorem Rplus_calls (s t : AV) (xs ys : List Int) (H : Hp) (hs : Ints H .u64 s xs) (ht : Ints H .u64 t ys) (hx : Limbs xs) (hy : Limbs ys) (lx : xs.length < 90000) (ly : ys.length < 90000) : ACalls Tryz.prog 92 [s, t] H fun r H' => ∃ zs, Uv H' r zs ∧ Can zs ∧ val zs = val xs + val ys ∧ Ext H H' := by
  have l1 := hs.rd.len Z8
  have l2 := ht.rd.len Z8
  obtain ⟨n, hn⟩ : ∃ n, n = max xs.length ys.length + 1 := ⟨_, rfl⟩
  have hmax : Qn Tryz.prog .max #[3, 3] [.int .i64 (xs.length : Int), .int .i64 (ys.length : Int)] = some (.int .i64 ((n - 1 : Nat) : Int)) := by
    show some (AV.int .i64 (if ((xs.length : Int) < (ys.length : Int)) then (ys.length : Int) else (xs.length : Int))) = _
    congr 2
    split <;> omega
  have w0 : IntKind.i64.wrap (((n - 1 : Nat) : Int) + 1) = (n : Int) := by rw [Qe (by omega) (by omega)]; omega
  have hmk := fun H0 => J0b H0 n .i64 (by omega)
  refine Qo Tryz.func92 rfl (by kernel_rfl) (by kernel_rfl) ?_
  repeat' first
    | (with_reducible first | refine Jh (fun K hK => ?_) | refine Jx ?_ | refine Jg ?_)
    | (simp only [Qb, Jo, reduceIte, J0])
    | ((with_reducible refine hK _ _ ?_); clear hK)
    | (simp only [Q9, RA, Jn, Jm, Jp, Q8, Q6, ev, ofValue, Ju, J0, J3, J2, J4, reduceCtorEq, reduceIte, Jv, Qm, Qk, Q0, aun, Qj, Jk, Ji, Jz, Jy, Jj, Qi, Jf, Q7, Q2, Js, J1, J5, Ja, J9, Jb, J6, J7, Jd, J8, RB, Jw, Je, J1t, l1, l2, hmax, w0, hmk])
  refine Xi (fun m fr' H1 => ∃ (i : Nat) (os : List Int) (c : Int), m = n - i ∧ i ≤ n ∧ fr' 0 = s ∧ fr' 1 = t ∧ fr' 5 = .int .i64 (n : Int) ∧ fr' 6 = .sl H.length 0 n n ∧ fr' 7 = .int .u64 c ∧ fr' 8 = .int .i64 (i : Int) ∧ os.length = n ∧ Limbs os ∧ (0 ≤ c ∧ c ≤ 1) ∧ val (os.take i) + Bs ^ i * c = val (xs.take i) + val (ys.take i) ∧ H ++ [Ub os] = H1) (m := n)
    ⟨0, List.replicate n 0, 0, by omega, by omega, rfl, rfl, rfl, rfl, rfl, rfl, by simp, Limbs.replicate n, ⟨by omega, by omega⟩, by simp [val], rfl⟩ ?_
  rintro m fr' H1 ⟨i, os, c, rfl, hi, k0, k1, k5, k6, k7, k8, hol, hos, hcc, hv, rfl⟩
  have hg : X3 (H ++ [Ub os]) H.length = some (Ub os) := X7 rfl
  by_cases hlt : i < n
  · have e1 : IntKind.i64.wrap ((i : Int) + 1) = ((i + 1 : Nat) : Int) := by rw [Qe (by omega) (by omega)]; omega
    obtain ⟨hc', hos', hv'⟩ := plus_step hx hy hos (by omega) hcc hv
    have hdx := hx.get i
    have hdy := hy.get i
    have st := Vh hg (i := i) (by omega) ((xs.getD i 0 + ys.getD i 0 + c) % Bs)
    have hset : (H ++ [Ub os]).set H.length (Ub (os.set i ((xs.getD i 0 + ys.getD i 0 + c) % Bs))) = H ++ [Ub (os.set i ((xs.getD i 0 + ys.getD i 0 + c) % Bs))] := by
      rw [List.set_append_right _ _ (Nat.le_refl _), Nat.sub_self]; rfl
    rw [hset] at st
    by_cases h1 : i < xs.length
    · by_cases h2 : i < ys.length
      · skip
        repeat' first
          | (with_reducible first | refine Jh (fun K hK => ?_) | refine Jx ?_ | refine Q4 ?_ | refine Jg ?_ | refine Jr ?_)
          | ((with_reducible refine Z3 (Gn _ _ _ _ hdx.1 hdy.1 hcc) ?_); rintro _ _ ⟨rfl, rfl⟩)
          | (with_reducible refine X4 (fun hc => ?_) (fun hc => ?_) <;> (try simp only [RC] at hc) <;> (try (exfalso; first | omega | contradiction)))
          | (simp only [Qb, Jo, reduceIte, J0])
          | ((with_reducible refine hK _ _ ?_); clear hK)
          | (simp only [Q9, RA, Jn, Jm, Jp, Q8, Q6, ev, ofValue, Ju, J0, J3, J2, J4, reduceCtorEq, reduceIte, Jv, Qm, Qk, Q0, aun, Qj, Jk, Ji, Jz, Jy, Jj, Qi, Jf, Q7, Q2, Js, J1, J5, Ja, J9, Jb, J6, J7, Jd, J8, RB, Jw, Je, J1t, l1, l2, k0, k1, k5, k6, k7, k8, e1, st])
          | (simp (disch := first | omega | (simp only [RO]; done) | assumption) only [RS, hs.rd.at1 Z8 Z4, (hs.push _).load1 Yt, ht.rd.at1 Z8 Z4, (ht.push _).load1 Yt, Xa, Xb, X9])
        all_goals exact ⟨_, by omega, i + 1, _, _, rfl, by omega, rfl, rfl, by rw [List.length_set]; exact hol, hos', hc', hv', rfl⟩
      · have z2 := K0 (xs := ys) (i := i) (by omega)
        rw [z2] at hc' hos' hv' st hdy
        repeat' first
          | (with_reducible first | refine Jh (fun K hK => ?_) | refine Jx ?_ | refine Q4 ?_ | refine Jg ?_ | refine Jr ?_)
          | ((with_reducible refine Z3 (Gn _ _ _ _ hdx.1 hdy.1 hcc) ?_); rintro _ _ ⟨rfl, rfl⟩)
          | (with_reducible refine X4 (fun hc => ?_) (fun hc => ?_) <;> (try simp only [RC] at hc) <;> (try (exfalso; first | omega | contradiction)))
          | (simp only [Qb, Jo, reduceIte, J0])
          | ((with_reducible refine hK _ _ ?_); clear hK)
          | (simp only [Q9, RA, Jn, Jm, Jp, Q8, Q6, ev, ofValue, Ju, J0, J3, J2, J4, reduceCtorEq, reduceIte, Jv, Qm, Qk, Q0, aun, Qj, Jk, Ji, Jz, Jy, Jj, Qi, Jf, Q7, Q2, Js, J1, J5, Ja, J9, Jb, J6, J7, Jd, J8, RB, Jw, Je, J1t, l1, l2, k0, k1, k5, k6, k7, k8, e1, st])
          | (simp (disch := first | omega | (simp only [RO]; done) | assumption) only [RS, hs.rd.at1 Z8 Z4, (hs.push _).load1 Yt, ht.rd.at1 Z8 Z4, (ht.push _).load1 Yt, Xa, Xb, X9])
        all_goals exact ⟨_, by omega, i + 1, _, _, rfl, by omega, rfl, rfl, by rw [List.length_set]; exact hol, hos', hc', hv', rfl⟩
    · have z1 := K0 (xs := xs) (i := i) (by omega)
      rw [z1] at hc' hos' hv' st hdx
      by_cases h2 : i < ys.length
      · skip
        repeat' first
          | (with_reducible first | refine Jh (fun K hK => ?_) | refine Jx ?_ | refine Q4 ?_ | refine Jg ?_ | refine Jr ?_)
          | ((with_reducible refine Z3 (Gn _ _ _ _ hdx.1 hdy.1 hcc) ?_); rintro _ _ ⟨rfl, rfl⟩)
          | (with_reducible refine X4 (fun hc => ?_) (fun hc => ?_) <;> (try simp only [RC] at hc) <;> (try (exfalso; first | omega | contradiction)))
          | (simp only [Qb, Jo, reduceIte, J0])
          | ((with_reducible refine hK _ _ ?_); clear hK)
          | (simp only [Q9, RA, Jn, Jm, Jp, Q8, Q6, ev, ofValue, Ju, J0, J3, J2, J4, reduceCtorEq, reduceIte, Jv, Qm, Qk, Q0, aun, Qj, Jk, Ji, Jz, Jy, Jj, Qi, Jf, Q7, Q2, Js, J1, J5, Ja, J9, Jb, J6, J7, Jd, J8, RB, Jw, Je, J1t, l1, l2, k0, k1, k5, k6, k7, k8, e1, st])
          | (simp (disch := first | omega | (simp only [RO]; done) | assumption) only [RS, hs.rd.at1 Z8 Z4, (hs.push _).load1 Yt, ht.rd.at1 Z8 Z4, (ht.push _).load1 Yt, Xa, Xb, X9])
        all_goals exact ⟨_, by omega, i + 1, _, _, rfl, by omega, rfl, rfl, by rw [List.length_set]; exact hol, hos', hc', hv', rfl⟩
      · have z2 := K0 (xs := ys) (i := i) (by omega)
        rw [z2] at hc' hos' hv' st hdy
        repeat' first
          | (with_reducible first | refine Jh (fun K hK => ?_) | refine Jx ?_ | refine Q4 ?_ | refine Jg ?_ | refine Jr ?_)
          | ((with_reducible refine Z3 (Gn _ _ _ _ hdx.1 hdy.1 hcc) ?_); rintro _ _ ⟨rfl, rfl⟩)
          | (with_reducible refine X4 (fun hc => ?_) (fun hc => ?_) <;> (try simp only [RC] at hc) <;> (try (exfalso; first | omega | contradiction)))
          | (simp only [Qb, Jo, reduceIte, J0])
          | ((with_reducible refine hK _ _ ?_); clear hK)
          | (simp only [Q9, RA, Jn, Jm, Jp, Q8, Q6, ev, ofValue, Ju, J0, J3, J2, J4, reduceCtorEq, reduceIte, Jv, Qm, Qk, Q0, aun, Qj, Jk, Ji, Jz, Jy, Jj, Qi, Jf, Q7, Q2, Js, J1, J5, Ja, J9, Jb, J6, J7, Jd, J8, RB, Jw, Je, J1t, l1, l2, k0, k1, k5, k6, k7, k8, e1, st])
          | (simp (disch := first | omega | (simp only [RO]; done) | assumption) only [RS, hs.rd.at1 Z8 Z4, (hs.push _).load1 Yt, ht.rd.at1 Z8 Z4, (ht.push _).load1 Yt, Xa, Xb, X9])
        all_goals exact ⟨_, by omega, i + 1, _, _, rfl, by omega, rfl, rfl, by rw [List.length_set]; exact hol, hos', hc', hv', rfl⟩
  · obtain rfl : n = i := by omega
    have htr := trim_calls H.length n n os (H ++ [Ub os]) hg (by omega) (Nat.le_refl _) (by omega)
    repeat' first
      | (with_reducible first | refine Jh (fun K hK => ?_) | refine Qc ?_ | refine Qd ?_ | refine Jg ?_ | refine Jr ?_)
      | ((with_reducible refine Q5 (htr) ?_); rintro _ _ ⟨rfl, rfl⟩)
      | (with_reducible refine X4 (fun hc => ?_) (fun hc => ?_) <;> (try simp only [RC] at hc) <;> (try (exfalso; first | omega | contradiction)))
      | (simp only [Qb, Jo, reduceIte, J0])
      | ((with_reducible refine hK _ _ ?_); clear hK)
      | (clear hK; (with_reducible refine hK _ _ ?_); clear hK)
      | (simp only [Q9, RA, Jn, Jm, Jp, Q8, Q6, ev, ofValue, Ju, J0, J3, J2, J4, reduceCtorEq, reduceIte, Jv, Qm, Qk, Q0, aun, Qj, Jk, Ji, Jz, Jy, Jj, Qi, Jf, Q7, Q2, Js, J1, J5, Ja, J9, Jb, J6, J7, Jd, J8, RB, Jw, Je, J1t, k0, k1, k5, k6, k7, k8])
    all_goals
      (
       (refine Qg (rs := [.tmp 4]) rfl ?_)
       (simp only [X5, Qf, Fr.put_some, Fr.put_none, Qp, Qq, Qt, J0, reduceIte])
       (try simp (disch := (first | omega | (simp only [RO]; done) | assumption | (simp only [RM, Je]; done) | (simp only [RL, Je]; omega))) only [RD, reduceCtorEq, reduceIte, Je, J1, J3, J2, J6, J1t]))
    have hall : os.take n = os := List.take_of_length_le (by omega)
    have hX : xs.take n = xs := List.take_of_length_le (by omega)
    have hY : ys.take n = ys := List.take_of_length_le (by omega)
    rw [hall, hX, hY] at hv
    have hc0 : c = 0 := by
      have b1 := (Xh hx).2
      have b2 := (Xh hy).2
      have b3 := (Xh hos).1
      have m1 : Bs ^ xs.length ≤ Bs ^ (n - 1) := Ks (by omega)
      have m2 : Bs ^ ys.length ≤ Bs ^ (n - 1) := Ks (by omega)
      have m3 : Bs ^ n = Bs ^ (n - 1) * Bs := by rw [← Int.pow_succ]; congr 1; omega
      have m4 : (0 : Int) < Bs ^ (n - 1) := Int.pow_pos (by decide)
      rcases Int.lt_or_le c 1 with h | h
      · omega
      · exfalso
        obtain rfl : c = 1 := by omega
        rw [m3] at hv
        simp only [Bs] at *
        omega
    rw [hc0] at hv
    all_goals
      refine ⟨os.take (tl os n), Uv.front hg (by have := Wo os n; omega) (Wo os n), tl_can hos n (by omega) (by omega), ?_, Ext.push _ _⟩
      rw [J1s _ _ (by omega), hall]
      omega
end Go.Proofs.YtigddjlhncnnoaaGreatDoor
namespace Go.Proofs.YtigddjlhncnnoaaGreatDoor
open Go.AL Go.PW
theorem tf94RfD : type_of% (Jc @Xw (Jc @Z1 (@Xc))) := Jc @Xw (Jc @Z1 (@Xc))
set_option maxRecDepth 8000
theorem minus_step {xs ys os : List Int} {i : Nat} {c : Int} (hx : Limbs xs) (hy : Limbs ys) (ho : Limbs os) (hi : i < os.length) (hc : 0 ≤ c ∧ c ≤ 1) (h : val (os.take i) - Bs ^ i * c = val (xs.take i) - val (ys.take i)) :
    (0 ≤ (if xs.getD i 0 < ys.getD i 0 + c then (1 : Int) else 0) ∧ (if xs.getD i 0 < ys.getD i 0 + c then (1 : Int) else 0) ≤ 1) ∧ Limbs (os.set i ((xs.getD i 0 - ys.getD i 0 - c) % Bs)) ∧
    val ((os.set i ((xs.getD i 0 - ys.getD i 0 - c) % Bs)).take (i + 1)) - Bs ^ (i + 1) * (if xs.getD i 0 < ys.getD i 0 + c then (1 : Int) else 0) = val (xs.take (i + 1)) - val (ys.take (i + 1)) := by
  have hdx := hx.get i
  have hdy := hy.get i
  have hb : (if xs.getD i 0 < ys.getD i 0 + c then (1 : Int) else 0) = -((xs.getD i 0 - ys.getD i 0 - c) / Bs) := by
    split
    · simp only [Bs] at *; omega
    · simp only [Bs] at *; omega
  rw [hb]
  generalize hS : xs.getD i 0 - ys.getD i 0 - c = S
  have hS0 : -(Bs + 1) < S ∧ S < Bs := by simp only [Bs] at *; omega
  have hm := Int.emod_add_mul_ediv S Bs
  have hm0 := Int.emod_nonneg S (b := Bs) (by decide)
  have hm1 := Int.emod_lt_of_pos S (b := Bs) (by decide)
  refine ⟨⟨?_, ?_⟩, ho.set i ⟨hm0, hm1⟩, ?_⟩
  · simp only [Bs] at *; omega
  · simp only [Bs] at *; omega
  · have hv := Wy xs i
    have hv' := Wy ys i
    have hv2 := Xk (os.set i (S % Bs)) (i := i) (by rw [List.length_set]; omega)
    rw [Xs _ _ (by omega), if_pos rfl, List.take_set_of_le (Nat.le_refl _)] at hv2
    rw [hv, hv', hv2, Int.pow_succ]
    have : ys.getD i 0 = xs.getD i 0 - S - c := by omega
    rw [this]
    generalize Bs ^ i = p at *
    have : p * S = p * (S % Bs) + p * Bs * (S / Bs) := by rw [Int.mul_assoc, ← Int.mul_add, hm]
    grind
set_option maxHeartbeats 4000000 in
theorem Rminus_calls (s t : AV) (xs ys : List Int) (H : Hp) (hs : Ints H .u64 s xs) (ht : Ints H .u64 t ys) (hx : Limbs xs) (hy : Limbs ys) (lx : xs.length < 90000) (ly : ys.length ≤ xs.length) (hle : val ys ≤ val xs) : ACalls Tryz.prog 94 [s, t] H fun r H' => ∃ zs, Uv H' r zs ∧ Can zs ∧ val zs = val xs - val ys ∧ Ext H H' := by
  have l1 := hs.rd.len Z8
  have l2 := ht.rd.len Z8
  obtain ⟨n, hn⟩ : ∃ n, n = xs.length := ⟨_, rfl⟩
  rw [← hn] at l1
  have hmk := fun H0 => J0b H0 n .i64 (by omega)
  refine Qo Tryz.func94 rfl (by kernel_rfl) (by kernel_rfl) ?_
  repeat' first
    | (with_reducible first | refine Jh (fun K hK => ?_) | refine Jx ?_ | refine Jg ?_)
    | (simp only [Qb, Jo, reduceIte, J0])
    | ((with_reducible refine hK _ _ ?_); clear hK)
    | (simp only [Q9, RA, Jn, Jm, Jp, Q8, Q6, ev, ofValue, Ju, J0, J3, J2, J4, reduceCtorEq, reduceIte, Jv, Qm, Qk, Q0, aun, Qj, Jk, Ji, Jz, Jy, Jj, Qi, Jf, Q7, Q2, Js, J1, J5, Ja, J9, Jb, J6, J7, Jd, J8, RB, Jw, Je, tf94RfD, l1, l2, hmk])
  refine Xi (fun m fr' H1 => ∃ (i : Nat) (os : List Int) (c : Int), m = n - i ∧ i ≤ n ∧ fr' 0 = s ∧ fr' 1 = t ∧ fr' 5 = .sl H.length 0 n n ∧ fr' 6 = .int .u64 c ∧ fr' 7 = .int .i64 (i : Int) ∧ os.length = n ∧ Limbs os ∧ (0 ≤ c ∧ c ≤ 1) ∧ val (os.take i) - Bs ^ i * c = val (xs.take i) - val (ys.take i) ∧ H ++ [Ub os] = H1) (m := n)
    ⟨0, List.replicate n 0, 0, by omega, by omega, rfl, rfl, rfl, rfl, rfl, by simp, Limbs.replicate n, ⟨by omega, by omega⟩, by simp [val], rfl⟩ ?_
  rintro m fr' H1 ⟨i, os, c, rfl, hi, k0, k1, k5, k6, k7, hol, hos, hcc, hv, rfl⟩
  have hg : X3 (H ++ [Ub os]) H.length = some (Ub os) := X7 rfl
  by_cases hlt : i < n
  · have e1 : IntKind.i64.wrap ((i : Int) + 1) = ((i + 1 : Nat) : Int) := by rw [Qe (by omega) (by omega)]; omega
    obtain ⟨hc', hos', hv'⟩ := minus_step hx hy hos (by omega) hcc hv
    have hdx := hx.get i
    have hdy := hy.get i
    have st := Vh hg (i := i) (by omega) ((xs.getD i 0 - ys.getD i 0 - c) % Bs)
    have hset : (H ++ [Ub os]).set H.length (Ub (os.set i ((xs.getD i 0 - ys.getD i 0 - c) % Bs))) = H ++ [Ub (os.set i ((xs.getD i 0 - ys.getD i 0 - c) % Bs))] := by
      rw [List.set_append_right _ _ (Nat.le_refl _), Nat.sub_self]; rfl
    rw [hset] at st
    by_cases h2 : i < ys.length
    · skip
      repeat' first
        | (with_reducible first | refine Jh (fun K hK => ?_) | refine Jx ?_ | refine Q4 ?_ | refine Jg ?_ | refine Jr ?_)
        | ((with_reducible refine Z3 (sub64 _ _ _ _ hdx.1 hdy hcc) ?_); rintro _ _ ⟨rfl, rfl⟩)
        | (with_reducible refine X4 (fun hc => ?_) (fun hc => ?_) <;> (try simp only [RC] at hc) <;> (try (exfalso; first | omega | contradiction)))
        | (simp only [Qb, Jo, reduceIte, J0])
        | ((with_reducible refine hK _ _ ?_); clear hK)
        | (simp only [Q9, RA, Jn, Jm, Jp, Q8, Q6, ev, ofValue, Ju, J0, J3, J2, J4, reduceCtorEq, reduceIte, Jv, Qm, Qk, Q0, aun, Qj, Jk, Ji, Jz, Jy, Jj, Qi, Jf, Q7, Q2, Js, J1, J5, Ja, J9, Jb, J6, J7, Jd, J8, RB, Jw, Je, tf94RfD, l1, l2, k0, k1, k5, k6, k7, e1, st])
        | (simp (disch := first | omega | (simp only [RO]; done) | assumption) only [RS, hs.rd.at1 Z8 Z4, (hs.push _).load1 Yt, ht.rd.at1 Z8 Z4, (ht.push _).load1 Yt, Xa, Xb, X9])
      all_goals exact ⟨_, by omega, i + 1, _, _, rfl, by omega, rfl, rfl, by rw [List.length_set]; exact hol, hos', hc', hv', rfl⟩
    · have z2 := K0 (xs := ys) (i := i) (by omega)
      rw [z2] at hc' hos' hv' st hdy
      repeat' first
        | (with_reducible first | refine Jh (fun K hK => ?_) | refine Jx ?_ | refine Q4 ?_ | refine Jg ?_ | refine Jr ?_)
        | ((with_reducible refine Z3 (sub64 _ _ _ _ hdx.1 hdy hcc) ?_); rintro _ _ ⟨rfl, rfl⟩)
        | (with_reducible refine X4 (fun hc => ?_) (fun hc => ?_) <;> (try simp only [RC] at hc) <;> (try (exfalso; first | omega | contradiction)))
        | (simp only [Qb, Jo, reduceIte, J0])
        | ((with_reducible refine hK _ _ ?_); clear hK)
        | (simp only [Q9, RA, Jn, Jm, Jp, Q8, Q6, ev, ofValue, Ju, J0, J3, J2, J4, reduceCtorEq, reduceIte, Jv, Qm, Qk, Q0, aun, Qj, Jk, Ji, Jz, Jy, Jj, Qi, Jf, Q7, Q2, Js, J1, J5, Ja, J9, Jb, J6, J7, Jd, J8, RB, Jw, Je, tf94RfD, l1, l2, k0, k1, k5, k6, k7, e1, st])
        | (simp (disch := first | omega | (simp only [RO]; done) | assumption) only [RS, hs.rd.at1 Z8 Z4, (hs.push _).load1 Yt, ht.rd.at1 Z8 Z4, (ht.push _).load1 Yt, Xa, Xb, X9])
      all_goals exact ⟨_, by omega, i + 1, _, _, rfl, by omega, rfl, rfl, by rw [List.length_set]; exact hol, hos', hc', hv', rfl⟩
  · obtain rfl : n = i := by omega
    have htr := trim_calls H.length n n os (H ++ [Ub os]) hg (by omega) (Nat.le_refl _) (by omega)
    repeat' first
      | (with_reducible first | refine Jh (fun K hK => ?_) | refine Qc ?_ | refine Qd ?_ | refine Jg ?_ | refine Jr ?_)
      | ((with_reducible refine Q5 (htr) ?_); rintro _ _ ⟨rfl, rfl⟩)
      | (with_reducible refine X4 (fun hc => ?_) (fun hc => ?_) <;> (try simp only [RC] at hc) <;> (try (exfalso; first | omega | contradiction)))
      | (simp only [Qb, Jo, reduceIte, J0])
      | ((with_reducible refine hK _ _ ?_); clear hK)
      | (clear hK; (with_reducible refine hK _ _ ?_); clear hK)
      | (simp only [Q9, RA, Jn, Jm, Jp, Q8, Q6, ev, ofValue, Ju, J0, J3, J2, J4, reduceCtorEq, reduceIte, Jv, Qm, Qk, Q0, aun, Qj, Jk, Ji, Jz, Jy, Jj, Qi, Jf, Q7, Q2, Js, J1, J5, Ja, J9, Jb, J6, J7, Jd, J8, RB, Jw, Je, tf94RfD, l1, k0, k1, k5, k6, k7])
    all_goals
      (
       (refine Qg (rs := [.tmp 4]) rfl ?_)
       (simp only [X5, Qf, Fr.put_some, Fr.put_none, Qp, Qq, Qt, J0, reduceIte])
       (try simp (disch := (first | omega | (simp only [RO]; done) | assumption | (simp only [RM, Je]; done) | (simp only [RL, Je]; omega))) only [RD, reduceCtorEq, reduceIte, Je, J1, J3, J2, J6, tf94RfD]))
    have hall : os.take n = os := List.take_of_length_le (by omega)
    have hX : xs.take n = xs := List.take_of_length_le (by omega)
    have hY : ys.take n = ys := List.take_of_length_le (by omega)
    rw [hall, hX, hY] at hv
    have hc0 : c = 0 := by
      have b3 := (Xh hos).2
      rw [hol] at b3
      rcases Int.lt_or_le c 1 with h | h
      · omega
      · exfalso
        obtain rfl : c = 1 := by omega
        omega
    rw [hc0] at hv
    all_goals
      refine ⟨os.take (tl os n), Uv.front hg (by have := Wo os n; omega) (Wo os n), tl_can hos n (by omega) (by omega), ?_, Ext.push _ _⟩
      rw [J1s _ _ (by omega), hall]
      omega
end Go.Proofs.YtigddjlhncnnoaaGreatDoor
namespace Go.Proofs.YtigddjlhncnnoaaGreatDoor
open Go.AL Go.PW
theorem tf95RfE : type_of% (Jc @Xw (Jc @Z1 (@Xc))) := Jc @Xw (Jc @Z1 (@Xc))
abbrev pn95_9RfE : Plan := (.one 0 (.one 1 (.one 2 (.one 3 (.one 4 (.one 5 (.one 6 (.one 7 (.one 8 (.one 9 (.one 10 (.one 11 (.one 12 (.one 13 .nil))))))))))))))
set_option maxRecDepth 8000
theorem mac {a b o c : Int} (ha : 0 ≤ a ∧ a < Bs) (hb : 0 ≤ b ∧ b < Bs) (ho : 0 ≤ o ∧ o < Bs) (hc : 0 ≤ c ∧ c < Bs) :
    (0 ≤ a * b / Bs + (a * b % Bs + o) / Bs ∧ a * b / Bs + (a * b % Bs + o) / Bs < Bs) ∧
    (0 ≤ a * b / Bs + (a * b % Bs + o) / Bs + ((a * b % Bs + o) % Bs + c) / Bs ∧ a * b / Bs + (a * b % Bs + o) / Bs + ((a * b % Bs + o) % Bs + c) / Bs < Bs) ∧
    (0 ≤ ((a * b % Bs + o) % Bs + c) % Bs ∧ ((a * b % Bs + o) % Bs + c) % Bs < Bs) ∧
    (a * b / Bs + (a * b % Bs + o) / Bs + ((a * b % Bs + o) % Bs + c) / Bs) * Bs + ((a * b % Bs + o) % Bs + c) % Bs = a * b + o + c := by
  have h := Uh (x := a) (y := b) (p := Bs - 1) (q := Bs - 1) ⟨ha.1, by omega⟩ ⟨hb.1, by omega⟩
  have e : (Bs - 1) * (Bs - 1) = 340282366920938463426481119284349108225 := by decide
  rw [e] at h
  generalize a * b = p at *
  simp only [Bs] at *
  omega
theorem mac_step {xs ys os os0 : List Int} {i k : Nat} {c : Int} (hx : Limbs xs) (hy : Limbs ys) (ho : Limbs os) (hik : i + k < os.length) (hk : k < ys.length) (hc : 0 ≤ c ∧ c < Bs)
    (h : val os + Bs ^ (i + k) * c = val os0 + Bs ^ i * xs.getD i 0 * val (ys.take k)) (u v : Int) (hv : 0 ≤ v ∧ v < Bs) (he : u * Bs + v = xs.getD i 0 * ys.getD k 0 + os.getD (i + k) 0 + c) :
    Limbs (os.set (i + k) v) ∧ val (os.set (i + k) v) + Bs ^ (i + (k + 1)) * u = val os0 + Bs ^ i * xs.getD i 0 * val (ys.take (k + 1)) := by
  refine ⟨ho.set _ hv, ?_⟩
  rw [Vt _ hik, Wy, show i + (k + 1) = i + k + 1 by omega, Int.pow_succ, Int.mul_add, Int.pow_add]
  rw [Int.pow_add] at h
  have : v = xs.getD i 0 * ys.getD k 0 + os.getD (i + k) 0 + c - u * Bs := by omega
  rw [this]
  generalize Bs ^ i = p at *
  generalize Bs ^ k = q at *
  grind
set_option maxHeartbeats 4000000 in
theorem Rtimes_calls (s t : AV) (xs ys : List Int) (H : Hp) (hs : Ints H .u64 s xs) (ht : Ints H .u64 t ys) (hx : Limbs xs) (hy : Limbs ys) (lx : xs.length < 40000) (ly : ys.length < 40000) : ACalls Tryz.prog 95 [s, t] H fun r H' => ∃ zs, Uv H' r zs ∧ Can zs ∧ val zs = val xs * val ys ∧ Ext H H' := by
  have l1 := hs.rd.len Z8
  have l2 := ht.rd.len Z8
  obtain ⟨n, hn⟩ : ∃ n, n = xs.length + ys.length := ⟨_, rfl⟩
  have w0 : IntKind.i64.wrap ((xs.length : Int) + (ys.length : Int)) = (n : Int) := by rw [Qe (by omega) (by omega)]; omega
  have hmk := fun H0 => J0b H0 n .i64 (by omega)
  refine Qo Tryz.func95 rfl (by kernel_rfl) (by kernel_rfl) ?_
  repeat' first
    | (with_reducible first | refine Jh (fun K hK => ?_) | refine Jx ?_ | refine Jg ?_)
    | (simp only [Qb, Jo, reduceIte, J0])
    | ((with_reducible refine hK _ _ ?_); clear hK)
    | (simp only [Q9, RA, Jn, Jm, Jp, Q8, Q6, ev, ofValue, Ju, J0, J3, J2, J4, reduceCtorEq, reduceIte, Jv, Qm, Qk, Q0, aun, Qj, Jk, Ji, Jz, Jy, Jj, Qi, Jf, Q7, Q2, Js, J1, J5, Ja, J9, Jb, J6, J7, Jd, J8, RB, Jw, Je, tf95RfE, l1, l2, w0, hmk])
  refine Xi (fun m fr' H1 => ∃ (i : Nat) (os : List Int), m = xs.length - i ∧ i ≤ xs.length ∧ fr' 0 = s ∧ fr' 1 = t ∧ fr' 5 = .sl H.length 0 n n ∧ fr' 6 = .int .i64 (i : Int) ∧ os.length = n ∧ Limbs os ∧ (∀ j, i + ys.length ≤ j → os.getD j 0 = 0) ∧ val os = val (xs.take i) * val ys ∧ H ++ [Ub os] = H1) (m := xs.length)
    ⟨0, List.replicate n 0, by omega, by omega, rfl, rfl, rfl, rfl, by simp, Limbs.replicate n, fun j _ => by simp [List.getD, List.getElem?_replicate]; split <;> rfl, by rw [Gw]; simp [val], rfl⟩ ?_
  rintro m fr' H1 ⟨i, os, rfl, hi, k0, k1, k5, k6, hol, hos, hz, hv, rfl⟩
  by_cases hlt : i < xs.length
  · have e1 : IntKind.i64.wrap ((i : Int) + 1) = ((i + 1 : Nat) : Int) := by rw [Qe (by omega) (by omega)]; omega
    have e2 : IntKind.i64.wrap ((i : Int) + (ys.length : Int)) = ((i + ys.length : Nat) : Int) := by rw [Qe (by omega) (by omega)]; omega
    repeat' first
      | (with_reducible first | refine Jh (fun K hK => ?_) | refine Jx ?_ | refine Q4 ?_ | refine Jg ?_ | refine Jr ?_)
      | (with_reducible refine X4 (fun hc => ?_) (fun hc => ?_) <;> (try simp only [RC] at hc) <;> (try (exfalso; first | omega | contradiction)))
      | (simp only [Qb, Jo, reduceIte, J0])
      | ((with_reducible refine hK _ _ ?_); clear hK)
      | (simp only [Q9, RA, Jn, Jm, Jp, Q8, Q6, ev, ofValue, Ju, J0, J3, J2, J4, reduceCtorEq, reduceIte, Jv, Qm, Qk, Q0, aun, Qj, Jk, Ji, Jz, Jy, Jj, Qi, Jf, Q7, Q2, Js, J1, J5, Ja, J9, Jb, J6, J7, Jd, J8, RB, Jw, Je, tf95RfE, l1, l2, k0, k1, k5, k6])
    refine Xi (fun m fr' H1 => ∃ (k : Nat) (os1 : List Int) (c : Int), m = ys.length - k ∧ k ≤ ys.length ∧ fr' 0 = s ∧ fr' 1 = t ∧ fr' 5 = .sl H.length 0 n n ∧ fr' 6 = .int .i64 (i : Int) ∧ fr' 7 = .int .u64 c ∧ fr' 8 = .int .i64 (k : Int) ∧ os1.length = n ∧ Limbs os1 ∧ (0 ≤ c ∧ c < Bs) ∧ (∀ j, i + ys.length ≤ j → os1.getD j 0 = 0) ∧ val os1 + Bs ^ (i + k) * c = val os + Bs ^ i * xs.getD i 0 * val (ys.take k) ∧ H ++ [Ub os1] = H1) (m := ys.length)
      ⟨0, os, 0, by omega, by omega, k0, k1, k5, k6, rfl, rfl, hol, hos, ⟨by omega, by decide⟩, hz, by simp [val], rfl⟩ ?_
    rintro m fr' H1 ⟨k, os1, c, rfl, hk, k0, k1, k5, k6, k7, k8, hol1, hos1, hcc, hz1, hv1, rfl⟩
    have hg : X3 (H ++ [Ub os1]) H.length = some (Ub os1) := X7 rfl
    by_cases hkl : k < ys.length
    · have e3 : IntKind.i64.wrap ((k : Int) + 1) = ((k + 1 : Nat) : Int) := by rw [Qe (by omega) (by omega)]; omega
      have e4 : IntKind.i64.wrap ((i : Int) + (k : Int)) = ((i + k : Nat) : Int) := by rw [Qe (by omega) (by omega)]; omega
      have ha := hx.get i
      have hb := hy.get k
      have ho := hos1.get (i + k)
      have hM := mul64_calls (xs.getD i 0) (ys.getD k 0) (H ++ [Ub os1]) ha hb
      have ld := Vp hg (i := i + k) (by omega)
      obtain ⟨m1, m2, m3, m4⟩ := mac ha hb ho hcc
      obtain ⟨q1, q2⟩ := mac_step hx hy hos1 (by omega) hkl hcc hv1 _ _ m3 m4
      have w1 := Y0 m1.1 m1.2
      have w2 := Y0 m2.1 m2.2
      have st := Vh hg (i := i + k) (by omega) (((xs.getD i 0 * ys.getD k 0 % Bs + os1.getD (i + k) 0) % Bs + c) % Bs)
      have hp0 : 0 ≤ xs.getD i 0 * ys.getD k 0 % Bs := Int.emod_nonneg _ (by decide)
      have hp1 : 0 ≤ (xs.getD i 0 * ys.getD k 0 % Bs + os1.getD (i + k) 0) % Bs := Int.emod_nonneg _ (by decide)
      have hset : ∀ z, (H ++ [Ub os1]).set H.length (Ub (os1.set (i + k) z)) = H ++ [Ub (os1.set (i + k) z)] := fun z => by
        rw [List.set_append_right _ _ (Nat.le_refl _), Nat.sub_self]; rfl
      rw [hset] at st
      have hzo : (0 : Int) ≤ 0 ∧ (0 : Int) ≤ 1 := ⟨by omega, by omega⟩
      repeat' first
        | (with_reducible first | refine Jh (fun K hK => ?_) | refine Jx ?_ | refine Q4 ?_ | refine Jg ?_ | refine Q1 (id := 9) [] pn95_9RfE (by kernel_rfl) (by kernel_rfl) ?_ | refine Jr ?_)
        | ((with_reducible refine Q5 (hM) ?_); rintro _ _ ⟨rfl, rfl⟩)
        | ((with_reducible refine Z3 (Gn _ _ _ _ hp0 ho.1 hzo) ?_); rintro _ _ ⟨rfl, rfl⟩)
        | ((with_reducible refine Z3 (Gn _ _ _ _ hp1 hcc.1 hzo) ?_); rintro _ _ ⟨rfl, rfl⟩)
        | (with_reducible refine X4 (fun hc => ?_) (fun hc => ?_) <;> (try simp only [RC] at hc) <;> (try (exfalso; first | omega | contradiction)))
        | (simp only [Qb, Jo, reduceIte, J0])
        | ((with_reducible refine hK _ _ ?_); clear hK)
        | (simp only [Q9, RA, Jn, Jm, Jp, Q8, Q6, ev, ofValue, Ju, J0, J3, J2, J4, reduceCtorEq, reduceIte, Jv, Qm, Qk, Q0, aun, Qj, Jk, Ji, Jz, Jy, Jj, Qi, Jf, Q7, Q2, Js, J1, J5, Ja, J9, Jb, J6, J7, Jd, J8, RB, Jw, Je, tf95RfE, l1, l2, k0, k1, k5, k6, k7, k8, e3, e4, ld, st, w1, w2, Int.add_zero])
        | (simp (disch := first | omega | (simp only [RO]; done) | assumption) only [RS, hs.rd.at1 Z8 Z4, (hs.push _).load1 Yt, ht.rd.at1 Z8 Z4, (ht.push _).load1 Yt, Xa, Xb, X9])
      all_goals exact ⟨_, by omega, k + 1, _, _, rfl, by omega, rfl, rfl, by rw [List.length_set]; exact hol1, q1, m2, fun j hj => by rw [Xs _ _ (by omega), if_neg (by omega)]; exact hz1 j hj, q2, rfl⟩
    · obtain rfl : ys.length = k := by omega
      have st := Vh hg (i := i + ys.length) (by omega) c
      have hset : ∀ z, (H ++ [Ub os1]).set H.length (Ub (os1.set (i + ys.length) z)) = H ++ [Ub (os1.set (i + ys.length) z)] := fun z => by
        rw [List.set_append_right _ _ (Nat.le_refl _), Nat.sub_self]; rfl
      rw [hset] at st
      repeat' first
        | (with_reducible first | refine Jh (fun K hK => ?_) | refine Qc ?_ | refine Jg ?_ | refine Jr ?_)
        | (with_reducible refine X4 (fun hc => ?_) (fun hc => ?_) <;> (try simp only [RC] at hc) <;> (try (exfalso; first | omega | contradiction)))
        | (simp only [Qb, Jo, reduceIte, J0])
        | ((with_reducible refine hK _ _ ?_); clear hK)
        | (clear hK; (with_reducible refine hK _ _ ?_); clear hK)
        | (simp only [Q9, RA, Jn, Jm, Jp, Q8, Q6, ev, ofValue, Ju, J0, J3, J2, J4, reduceCtorEq, reduceIte, Jv, Qm, Qk, Q0, aun, Qj, Jk, Ji, Jz, Jy, Jj, Qi, Jf, Q7, Q2, Js, J1, J5, Ja, J9, Jb, J6, J7, Jd, J8, RB, Jw, Je, tf95RfE, l1, l2, k0, k1, k5, k6, k7, k8, e1, e2, st])
        | (simp (disch := first | omega | (simp only [RO]; done) | assumption) only [RS, Xa, Xb, X9])
      all_goals
        refine ⟨_, by omega, i + 1, _, rfl, by omega, rfl, by rw [List.length_set]; exact hol1, hos1.set _ hcc, fun j hj => by rw [Xs _ _ (by omega), if_neg (by omega)]; exact hz1 j (by omega), ?_, rfl⟩
        rw [List.take_length] at hv1
        rw [Vt _ (by omega), hz1 _ (Nat.le_refl _), Int.sub_zero, hv1, hv, Wy, Int.add_mul]
  · obtain rfl : xs.length = i := by omega
    have hg : X3 (H ++ [Ub os]) H.length = some (Ub os) := X7 rfl
    have htr := trim_calls H.length n n os (H ++ [Ub os]) hg (by omega) (Nat.le_refl _) (by omega)
    repeat' first
      | (with_reducible first | refine Jh (fun K hK => ?_) | refine Qc ?_ | refine Qd ?_ | refine Jg ?_ | refine Jr ?_)
      | ((with_reducible refine Q5 (htr) ?_); rintro _ _ ⟨rfl, rfl⟩)
      | (with_reducible refine X4 (fun hc => ?_) (fun hc => ?_) <;> (try simp only [RC] at hc) <;> (try (exfalso; first | omega | contradiction)))
      | (simp only [Qb, Jo, reduceIte, J0])
      | ((with_reducible refine hK _ _ ?_); clear hK)
      | (clear hK; (with_reducible refine hK _ _ ?_); clear hK)
      | (simp only [Q9, RA, Jn, Jm, Jp, Q8, Q6, ev, ofValue, Ju, J0, J3, J2, J4, reduceCtorEq, reduceIte, Jv, Qm, Qk, Q0, aun, Qj, Jk, Ji, Jz, Jy, Jj, Qi, Jf, Q7, Q2, Js, J1, J5, Ja, J9, Jb, J6, J7, Jd, J8, RB, Jw, Je, tf95RfE, l1, k0, k1, k5, k6])
    all_goals
      (
       (refine Qg (rs := [.tmp 4]) rfl ?_)
       (simp only [X5, Qf, Fr.put_some, Fr.put_none, Qp, Qq, Qt, J0, reduceIte])
       (try simp (disch := (first | omega | (simp only [RO]; done) | assumption | (simp only [RM, Je]; done) | (simp only [RL, Je]; omega))) only [RD, reduceCtorEq, reduceIte, Je, J1, J3, J2, J6, tf95RfE]))
    have hall : os.take n = os := List.take_of_length_le (by omega)
    rw [List.take_length] at hv
    all_goals
      refine ⟨os.take (tl os n), Uv.front hg (by have := Wo os n; omega) (Wo os n), tl_can hos n (by omega) (by omega), ?_, Ext.push _ _⟩
      rw [J1s _ _ (by omega), hall]
      exact hv
end Go.Proofs.YtigddjlhncnnoaaGreatDoor
namespace Go.Proofs.YtigddjlhncnnoaaGreatDoor
open Go.AL Go.PW
theorem tf32RfF : type_of% (Jc @Zg (Jc @Zh (Jc @Z1 (Jc @Zq (Jc @Zp (Jc @Xc (@cv2_71))))))) := Jc @Zg (Jc @Zh (Jc @Z1 (Jc @Zq (Jc @Zp (Jc @Xc (@cv2_71))))))
set_option maxRecDepth 8000
theorem Can.single {x : Int} (h0 : 0 < x) (h : x < Bs) : Can [x] := ⟨fun y hy => by simp at hy; subst hy; omega, .inr (by simp; omega), by simp⟩
set_option maxHeartbeats 2000000 in
theorem Of_calls (v : Int) (H : Hp) (hv : -9223372036854775808 ≤ v ∧ v ≤ 9223372036854775807) : ACalls Tryz.prog 32 [.int .i64 v] H fun r H' => ∃ s, r = BV v s ∧ Bs_ H' s v ∧ Ext H H' := by
  refine Qo Tryz.func32 rfl (by kernel_rfl) (by kernel_rfl) ?_
  by_cases hn : v < 0
  · have e1 : (v < 0) = True := eq_true hn
    have w1 : IntKind.i64.wrap (v + 1) = v + 1 := Qe (by omega) (by omega)
    have w2 : IntKind.i64.wrap (0 - (v + 1)) = -(v + 1) := by rw [Qe (by omega) (by omega)]; omega
    have w3 : IntKind.u64.wrap (-(v + 1)) = -(v + 1) := Y0 (by omega) (by simp only [Bs]; omega)
    have w4 : IntKind.u64.wrap (-(v + 1) + 1) = -v := by rw [Y0 (by omega) (by simp only [Bs]; omega)]; omega
    have hg : X3 (H ++ [⟨[.bool false, .nilS], .own, 67⟩] ++ [⟨[.int .u64 (-v)], .own, 71⟩]) (H.length + 1) = some (Ub [-v]) := X7 (by simp)
    have hu := Uv.front (k := 1) (c := 1) hg (by simp) (Nat.le_refl _)
    have hm := made_calls true _ _ _ hu.rd
    rw [show (true && decide (0 < ([-v].take 1).length)) = true from rfl] at hm
    have hb : (decide (v < 0)) = true := decide_eq_true hn
    repeat' first
      | (with_reducible first | refine Jh (fun K hK => ?_) | refine Qd ?_ | refine Jg ?_ | refine Jr ?_)
      | ((with_reducible refine Q5 (hm) ?_); rintro _ _ ⟨rfl, rfl⟩)
      | (simp only [Qb, Jo, reduceIte, J0])
      | ((with_reducible refine hK _ _ ?_); clear hK)
      | (simp only [Q9, RA, Jn, Jm, Jp, Q8, Q6, ev, ofValue, Ju, J0, J3, J2, J4, reduceCtorEq, reduceIte, Jv, Qm, Qk, Q0, aun, Qj, Jk, Ji, Jz, Jy, Jj, Qi, Jf, Q7, Q2, Js, J1, J5, Ja, J9, Jb, J6, J7, Jd, J8, RB, Jw, Je, tf32RfF, e1, w1, w2, w3, w4])
      | (simp (disch := (first | omega | (simp only [RO]; done) | assumption | (simp only [RM, Je]; done) | (simp only [RL, Je]; omega))) only [RD, reduceCtorEq, reduceIte, Je, J1, J3, J2, J6, tf32RfF, e1, w1, w2, w3, w4])
    all_goals
      (
       (refine Qg (rs := [.cell 2 67]) rfl ?_)
       (simp only [X5, Qf, Fr.put_some, Fr.put_none, Qp, Qq, Qt, J0, reduceIte])
       (try simp (disch := (first | omega | (simp only [RO]; done) | assumption | (simp only [RM, Je]; done) | (simp only [RL, Je]; omega))) only [RD, reduceCtorEq, reduceIte, Je, J1, J3, J2, J6, tf32RfF]))
    all_goals exact ⟨_, by rw [show BV v (AV.sl (H.length + 1) 0 1 1) = AV.agg [.bool (decide (v < 0)), AV.sl (H.length + 1) 0 1 1] from rfl, hb], ⟨[-v], Uv.front (k := 1) (c := 1) (xs := [-v]) (X7 (by simp)) (by simp) (Nat.le_refl _), Can.single (by omega) (by simp only [Bs]; omega), by simp only [val]; omega⟩, (Ext.push _ _).pushed _⟩
  · have e1 : (v < 0) = False := eq_false hn
    have w3 : IntKind.u64.wrap v = v := Y0 (by omega) (by simp only [Bs]; omega)
    have hg : X3 (H ++ [⟨[.bool false, .nilS], .own, 67⟩] ++ [⟨[.int .u64 v], .own, 71⟩]) (H.length + 1) = some (Ub [v]) := X7 (by simp)
    have htr := trim_calls (H.length + 1) 1 1 [v] _ hg (by simp) (Nat.le_refl _) (by omega)
    have hu := Uv.front (k := tl [v] 1) (c := 1) hg (Wo [v] 1) (Wo [v] 1)
    have hm := made_calls false _ _ _ hu.rd
    rw [Bool.false_and] at hm
    repeat' first
      | (with_reducible first | refine Jh (fun K hK => ?_) | refine Q4 ?_ | refine Qd ?_ | refine Jg ?_ | refine Jr ?_)
      | ((with_reducible refine Q5 (htr) ?_); rintro _ _ ⟨rfl, rfl⟩)
      | ((with_reducible refine Q5 (hm) ?_); rintro _ _ ⟨rfl, rfl⟩)
      | (simp only [Qb, Jo, reduceIte, J0])
      | ((with_reducible refine hK _ _ ?_); clear hK)
      | (simp only [Q9, RA, Jn, Jm, Jp, Q8, Q6, ev, ofValue, Ju, J0, J3, J2, J4, reduceCtorEq, reduceIte, Jv, Qm, Qk, Q0, aun, Qj, Jk, Ji, Jz, Jy, Jj, Qi, Jf, Q7, Q2, Js, J1, J5, Ja, J9, Jb, J6, J7, Jd, J8, RB, Jw, Je, tf32RfF, e1, w3])
      | (simp (disch := (first | omega | (simp only [RO]; done) | assumption | (simp only [RM, Je]; done) | (simp only [RL, Je]; omega))) only [RD, reduceCtorEq, reduceIte, Je, J1, J3, J2, J6, tf32RfF, e1, w3])
    all_goals
      (
       (refine Qg (rs := [.cell 2 67]) rfl ?_)
       (simp only [X5, Qf, Fr.put_some, Fr.put_none, Qp, Qq, Qt, J0, reduceIte])
       (try simp (disch := (first | omega | (simp only [RO]; done) | assumption | (simp only [RM, Je]; done) | (simp only [RL, Je]; omega))) only [RD, reduceCtorEq, reduceIte, Je, J1, J3, J2, J6, tf32RfF]))
    have hb : (decide (v < 0)) = false := decide_eq_false hn
    have hL : Limbs [v] := fun y hy => by simp at hy; subst hy; simp only [Bs]; omega
    all_goals exact ⟨_, by rw [show BV v (AV.sl (H.length + 1) 0 (tl [v] 1) 1) = AV.agg [.bool (decide (v < 0)), AV.sl (H.length + 1) 0 (tl [v] 1) 1] from rfl, hb], ⟨[v].take (tl [v] 1), Uv.front (k := tl [v] 1) (c := 1) (xs := [v]) (X7 (by simp)) (Wo [v] 1) (Wo [v] 1), tl_can hL 1 (by simp) (by omega), by rw [J1s _ _ (by simp)]; simp only [val, List.take]; omega⟩, (Ext.push _ _).pushed _⟩
end Go.Proofs.YtigddjlhncnnoaaGreatDoor
namespace Go.Proofs.YtigddjlhncnnoaaGreatDoor
open Go.AL Go.PW
theorem tf31RfG : type_of% (Jc @Zh (Jc @Z1 (Jc @Zq (Jc @Zp (@Xc))))) := Jc @Zh (Jc @Z1 (Jc @Zq (Jc @Zp (@Xc))))
abbrev pn31_1RfG : Plan := (.one 0 (.one 2 (.one 5 (.one 6 (.one 7 (.one 8 (.alt 1 (.alt 3 (.one 4 (.one 9 (.one 10 (.one 11 .nil)))) (.one 9 (.one 3 (.one 4 (.one 10 (.one 11 .nil)))))) (.alt 3 (.alt 1 (.one 4 (.one 9 (.one 10 (.one 11 .nil)))) (.one 9 (.one 1 (.one 4 (.one 10 (.one 11 .nil)))))) (.one 9 (.one 1 (.one 3 (.one 4 (.one 10 (.one 11 .nil))))))))))))))
set_option maxRecDepth 8000
theorem Can.small {xs : List Int} (c : Can xs) (h : val xs < Bs ^ 20) : xs.length ≤ 20 := by
  rcases Nat.lt_or_ge xs.length 21 with h1 | h1
  · omega
  · have h2 := c.low (by omega)
    have h3 : Bs ^ 20 ≤ Bs ^ (xs.length - 1) := Ks (by omega)
    omega
theorem mul_sign (x y : Int) (n : Nat) (hn : n = 0 ↔ x * y = 0) : ((decide (x < 0) != decide (y < 0)) && decide (0 < n)) = decide (x * y < 0) := by
  rcases Int.lt_trichotomy x 0 with hx | hx | hx
  · rcases Int.lt_trichotomy y 0 with hy | hy | hy
    · have := Int.mul_pos_of_neg_of_neg hx hy
      simp [hx, hy]; omega
    · subst hy; simp at hn; simp [hn]
    · have h := Int.mul_neg_of_neg_of_pos hx hy
      have : ¬ n = 0 := fun e => by have := hn.1 e; omega
      have hy' : ¬ y < 0 := by omega
      simp [hx, hy', h]; omega
  · subst hx; simp at hn; simp [hn]
  · have hx' : ¬ x < 0 := by omega
    rcases Int.lt_trichotomy y 0 with hy | hy | hy
    · have h := Int.mul_neg_of_pos_of_neg hx hy
      have : ¬ n = 0 := fun e => by have := hn.1 e; omega
      simp [hx', hy, h]; omega
    · subst hy; simp at hn; simp [hn]
    · have := Int.mul_pos hx hy
      have hy' : ¬ y < 0 := by omega
      simp [hx', hy']; omega
theorem mul_sign2 (x y : Int) (n : Nat) (hn : n = 0 ↔ x * y = 0) : ((!(decide (x < 0) == decide (y < 0))) && decide (0 < n)) = decide (x * y < 0) := mul_sign x y n hn
set_option maxHeartbeats 2000000 in
theorem Rmul_calls (x y : Int) (s t : AV) (H : Hp) (hs : Bs_ H s x) (ht : Bs_ H t y) (bx : Sm x) (by_ : Sm y) : ACalls Tryz.prog 31 [BV x s, BV y t] H fun r H' => ∃ u, r = BV (x * y) u ∧ Bs_ H' u (x * y) ∧ Ext H H' := by
  obtain ⟨xs, ux, cx, vx⟩ := hs.ex
  obtain ⟨ys, uy, cy, vy⟩ := ht.ex
  have hs1 : s.one = true := ux.rd.rd.one
  have hc1 : s.cells = [s] := AV.cells_one hs1
  have ht1 : t.one = true := uy.rd.rd.one
  have hc2 : t.cells = [t] := AV.cells_one ht1
  have lx := cx.small (by rw [vx]; exact bx)
  have ly := cy.small (by rw [vy]; exact by_)
  refine Qo Tryz.func31 rfl (by kernel_rfl) (by kernel_rfl) ?_
  repeat' first
    | (with_reducible first | refine Jh (fun K hK => ?_) | refine Jx ?_ | refine Q4 ?_ | refine Qc ?_ | refine Qd ?_ | refine Jg ?_ | refine Q1 (id := 1) [] pn31_1RfG (by kernel_rfl) (by kernel_rfl) ?_ | refine Jr ?_ | refine X8 ?_)
    | (with_reducible refine Jt (fun hc => ?_) (fun hc => ?_) <;> (try simp only [RC] at hc) <;> (try (exfalso; first | omega | contradiction)))
    | (with_reducible refine Jc ?_ ?_)
    | (with_reducible refine X4 (fun hc => ?_) (fun hc => ?_) <;> (try simp only [RC] at hc) <;> (try (exfalso; first | omega | contradiction)))
    | (simp only [Qb, Jo, reduceIte, J0])
    | ((with_reducible refine hK _ _ ?_); clear hK)
    | (clear hK; (with_reducible refine hK _ _ ?_); clear hK)
    | (clear hK; clear hK; (with_reducible refine hK _ _ ?_); clear hK)
    | (clear hK; clear hK; clear hK; (with_reducible refine hK _ _ ?_); clear hK)
    | (clear hK; clear hK; clear hK; clear hK; (with_reducible refine hK _ _ ?_); clear hK)
    | (clear hK; clear hK; clear hK; clear hK; clear hK; (with_reducible refine hK _ _ ?_); clear hK)
    | (simp only [Q9, RA, Jn, Jm, Jp, Q8, Q6, ev, ofValue, Ju, J0, J3, J2, J4, reduceCtorEq, reduceIte, Jv, Qm, Qk, Q0, aun, Qj, Jk, Ji, Jz, Jy, Jj, Qi, Jf, Q7, Q2, Js, J1, J5, Ja, J9, Jb, J6, J7, Jd, J8, RB, Jw, Je, tf31RfG])
    | (simp (disch := first | omega | (simp only [RO]; done) | assumption) only [RS, Xa, Xb, X9, Qz, Qr, X0])
    | (simp (disch := (first | omega | (simp only [RO]; done) | assumption | (simp only [RM, Je]; done) | (simp only [RL, Je]; omega))) only [RD, reduceCtorEq, reduceIte, Je, J1, J3, J2, J6, tf31RfG])
  all_goals
    refine Q5 (Rtimes_calls s t xs ys _ (ux.rd.ext (Re _ _ _)) (uy.rd.ext (Re _ _ _)) cx.lim cy.lim (by omega) (by omega)) ?_
    rintro u H4 ⟨zs, U, C, vz, x4⟩
    have hz := Bs_.nil (H := H4) (s := u) (x := x * y) C (by rw [vz, vx, vy, Int.natAbs_mul]; push_cast; rfl)
    have q2 : X3 H4 H.length = some ⟨[.bool (decide (x < 0)), s], .own, 67⟩ := Qy (by rw [Qw (by simp), Qw (by simp), X7 rfl]) x4
    have q3 : X3 H4 (H.length + 1) = some ⟨[.bool (decide (y < 0)), t], .own, 67⟩ := Qy (by rw [Qw (by simp), X7 (by simp)]) x4
    have q4 : X3 H4 (H.length + 1 + 1) = some ⟨[.bool false, .nilS], .own, 67⟩ := Qy (X7 (by simp)) x4
    have hu1 : u.one = true := U.rd.rd.one
    have hc3 : u.cells = [u] := AV.cells_one hu1
    have hm := made_calls (!(decide (x < 0) == decide (y < 0))) u zs H4 U.rd
    rw [mul_sign2 x y zs.length hz] at hm
    repeat' first
      | (with_reducible first | refine Jh (fun K hK => ?_) | refine Jx ?_ | refine Q4 ?_ | refine Qc ?_ | refine Qd ?_ | refine Jg ?_ | refine Q1 (id := 1) [] pn31_1RfG (by kernel_rfl) (by kernel_rfl) ?_ | refine Jr ?_ | refine X8 ?_)
      | ((with_reducible refine Q5 (hm) ?_); rintro _ _ ⟨rfl, rfl⟩)
      | (with_reducible refine Jt (fun hc => ?_) (fun hc => ?_) <;> (try simp only [RC] at hc) <;> (try (exfalso; first | omega | contradiction)))
      | (with_reducible refine Jc ?_ ?_)
      | (with_reducible refine X4 (fun hc => ?_) (fun hc => ?_) <;> (try simp only [RC] at hc) <;> (try (exfalso; first | omega | contradiction)))
      | (simp only [Qb, Jo, reduceIte, J0])
      | ((with_reducible refine hK _ _ ?_); clear hK)
      | (clear hK; (with_reducible refine hK _ _ ?_); clear hK)
      | (clear hK; clear hK; (with_reducible refine hK _ _ ?_); clear hK)
      | (clear hK; clear hK; clear hK; (with_reducible refine hK _ _ ?_); clear hK)
      | (clear hK; clear hK; clear hK; clear hK; (with_reducible refine hK _ _ ?_); clear hK)
      | (clear hK; clear hK; clear hK; clear hK; clear hK; (with_reducible refine hK _ _ ?_); clear hK)
      | (simp only [Q9, RA, Jn, Jm, Jp, Q8, Q6, ev, ofValue, Ju, J0, J3, J2, J4, reduceCtorEq, reduceIte, Jv, Qm, Qk, Q0, aun, Qj, Jk, Ji, Jz, Jy, Jj, Qi, Jf, Q7, Q2, Js, J1, J5, Ja, J9, Jb, J6, J7, Jd, J8, RB, Jw, Je, tf31RfG, q2, q3, q4])
      | (simp (disch := first | omega | (simp only [RO]; done) | assumption) only [RS, Xa, Xb, X9, Qz, Qr, X0])
      | (simp (disch := (first | omega | (simp only [RO]; done) | assumption | (simp only [RM, Je]; done) | (simp only [RL, Je]; omega))) only [RD, reduceCtorEq, reduceIte, Je, J1, J3, J2, J6, tf31RfG, q2, q3, q4])
    have l4 := X6 q4
    have hxl : H.length + 1 + 1 < H4.length := l4
    (
     (refine Qg (rs := [.cell 4 67]) rfl ?_)
     (simp only [X5, Qf, Fr.put_some, Fr.put_none, Qp, Qq, Qt, J0, reduceIte, Qv l4])
     (try simp (disch := (first | omega | (simp only [RO]; done) | assumption | (simp only [RM, Je]; done) | (simp only [RL, Je]; omega))) only [RD, reduceCtorEq, reduceIte, Je, J1, J3, J2, J6, tf31RfG, Qv l4]))
    exact ⟨u, rfl, ⟨zs, U.other q4 (by decide) _, C, by rw [vz, vx, vy, Int.natAbs_mul]; push_cast; rfl⟩, ((Re _ _ _).trans x4).set (by omega) _⟩
end Go.Proofs.YtigddjlhncnnoaaGreatDoor

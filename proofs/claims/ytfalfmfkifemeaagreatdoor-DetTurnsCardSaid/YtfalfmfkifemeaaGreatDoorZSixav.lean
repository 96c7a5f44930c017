/- Part 22 of the proof of laws of this seat: lemmas on the model's code, on this program's functions, on numbers. No condition. -/
import Derived.Test.YtfalfmfkifemeaaGreatDoorZSixau
set_option linter.unusedVariables false
set_option linter.unusedSimpArgs false
namespace Go.Proofs.YtfalfmfkifemeaaGreatDoor
open Go.AL Go.PW
theorem tf89RfD : type_of% (And.intro @tyb3 (And.intro @tyb31 (@tyb44))) := And.intro @tyb3 (And.intro @tyb31 (@tyb44))
set_option maxRecDepth 8000
theorem minus_step {xs ys os : List Int} {i : Nat} {c : Int} (hx : Limbs xs) (hy : Limbs ys) (ho : Limbs os) (hi : i < os.length) (hc : 0 ≤ c ∧ c ≤ 1) (h : val (os.take i) - Bs ^ i * c = val (xs.take i) - val (ys.take i)) :
    (0 ≤ (if xs.getD i 0 < ys.getD i 0 + c then (1 : Int) else 0) ∧ (if xs.getD i 0 < ys.getD i 0 + c then (1 : Int) else 0) ≤ 1) ∧ Limbs (os.set i ((xs.getD i 0 - ys.getD i 0 - c) % Bs)) ∧
    val ((os.set i ((xs.getD i 0 - ys.getD i 0 - c) % Bs)).take (i + 1)) - Bs ^ (i + 1) * (if xs.getD i 0 < ys.getD i 0 + c then (1 : Int) else 0) = val (xs.take (i + 1)) - val (ys.take (i + 1)) := by
  have hdx := hx.get i
  have hdy := hy.get i
  have hb : (if xs.getD i 0 < ys.getD i 0 + c then (1 : Int) else 0) = -((xs.getD i 0 - ys.getD i 0 - c) / Bs) := by
    split
    · simp only [Bs] at *; omega
    · simp only [Bs] at *; omega
  rw [hb]
  generalize hS : xs.getD i 0 - ys.getD i 0 - c = S
  have hS0 : -(Bs + 1) < S ∧ S < Bs := by simp only [Bs] at *; omega
  have hm := Int.emod_add_mul_ediv S Bs
  have hm0 := Int.emod_nonneg S (b := Bs) (by decide)
  have hm1 := Int.emod_lt_of_pos S (b := Bs) (by decide)
  refine ⟨⟨?_, ?_⟩, ho.set i ⟨hm0, hm1⟩, ?_⟩
  · simp only [Bs] at *; omega
  · simp only [Bs] at *; omega
  · have hv := val_take_any xs i
    have hv' := val_take_any ys i
    have hv2 := val_take_succ (os.set i (S % Bs)) (i := i) (by rw [List.length_set]; omega)
    rw [getD_set _ _ (by omega), if_pos rfl, List.take_set_of_le (Nat.le_refl _)] at hv2
    rw [hv, hv', hv2, Int.pow_succ]
    have : ys.getD i 0 = xs.getD i 0 - S - c := by omega
    rw [this]
    generalize Bs ^ i = p at *
    have : p * S = p * (S % Bs) + p * Bs * (S / Bs) := by rw [Int.mul_assoc, ← Int.mul_add, hm]
    grind
set_option maxHeartbeats 4000000 in
theorem Rminus_calls (s t : AV) (xs ys : List Int) (H : Hp) (hs : Ints H .u64 s xs) (ht : Ints H .u64 t ys) (hx : Limbs xs) (hy : Limbs ys) (lx : xs.length < 90000) (ly : ys.length ≤ xs.length) (hle : val ys ≤ val xs) : ACalls Tryz.prog 89 [s, t] H fun r H' => ∃ zs, Uv H' r zs ∧ Can zs ∧ val zs = val xs - val ys ∧ Ext H H' := by
  have l1 := hs.rd.len und44
  have l2 := ht.rd.len und44
  obtain ⟨n, hn⟩ : ∃ n, n = xs.length := ⟨_, rfl⟩
  rw [← hn] at l1
  have hmk := fun H0 => make_u64 H0 n .i64 (by omega)
  refine ACalls_body Tryz.func89 rfl (by kernel_rfl) (by kernel_rfl) ?_
  repeat' first
    | (with_reducible first | refine AWp_seq_k (fun K hK => ?_) | refine AWp_block ?_ | refine AWp_regionE ?_)
    | (simp only [thenA, inBlockA, reduceIte, Nat.reduceEqDiff])
    | ((with_reducible refine hK _ _ ?_); clear hK)
    | (simp only [ACond, RA, EAtS_def, EAtX_def, wantedA, acall, astep, ev, ofValue, ofAtom, Nat.reduceEqDiff, Nat.reduceAdd, Nat.reduceMul, Nat.reduceSub, reduceCtorEq, reduceIte, aoptEv, abin, aint, ashift, aun, astr, aeqGuard, isConstOp, aconvH, aofStr, aconvSame, isU8, abuildSlice, afill, splice, azeros, Nat.reduceLeDiff, Nat.reduceLT, Int.reduceLE, Int.reduceLT, Int.reduceEq, Int.reduceToNat, Int.reducePow, IntKind.bits, Int.reduceNeg, RB, aalloc, Go.PW.dig_length, tf89RfD, l1, l2, hmk])
  refine AWp_loop (fun m fr' H1 => ∃ (i : Nat) (os : List Int) (c : Int), m = n - i ∧ i ≤ n ∧ fr' 0 = s ∧ fr' 1 = t ∧ fr' 5 = .sl H.length 0 n n ∧ fr' 6 = .int .u64 c ∧ fr' 7 = .int .i64 (i : Int) ∧ os.length = n ∧ Limbs os ∧ (0 ≤ c ∧ c ≤ 1) ∧ val (os.take i) - Bs ^ i * c = val (xs.take i) - val (ys.take i) ∧ H ++ [Ub os] = H1) (m := n)
    ⟨0, List.replicate n 0, 0, by omega, by omega, rfl, rfl, rfl, rfl, rfl, by simp, Limbs.replicate n, ⟨by omega, by omega⟩, by simp [val], rfl⟩ ?_
  rintro m fr' H1 ⟨i, os, c, rfl, hi, k0, k1, k5, k6, k7, hol, hos, hcc, hv, rfl⟩
  have hg : hget (H ++ [Ub os]) H.length = some (Ub os) := hget_at rfl
  by_cases hlt : i < n
  · have e1 : IntKind.i64.wrap ((i : Int) + 1) = ((i + 1 : Nat) : Int) := by rw [wrap_i64_id (by omega) (by omega)]; omega
    obtain ⟨hc', hos', hv'⟩ := minus_step hx hy hos (by omega) hcc hv
    have hdx := hx.get i
    have hdy := hy.get i
    have st := store_u64 hg (i := i) (by omega) ((xs.getD i 0 - ys.getD i 0 - c) % Bs)
    have hset : (H ++ [Ub os]).set H.length (Ub (os.set i ((xs.getD i 0 - ys.getD i 0 - c) % Bs))) = H ++ [Ub (os.set i ((xs.getD i 0 - ys.getD i 0 - c) % Bs))] := by
      rw [List.set_append_right _ _ (Nat.le_refl _), Nat.sub_self]; rfl
    rw [hset] at st
    by_cases h2 : i < ys.length
    · skip
      repeat' first
        | (with_reducible first | refine AWp_seq_k (fun K hK => ?_) | refine AWp_block ?_ | refine AWp_skip ?_ | refine AWp_regionE ?_ | refine AWp_condI ?_)
        | ((with_reducible refine ECall_introX (sub64 _ _ _ _ hdx.1 hdy hcc) ?_); rintro _ _ ⟨rfl, rfl⟩)
        | (with_reducible refine AIte (fun hc => ?_) (fun hc => ?_) <;> (try simp only [RC] at hc) <;> (try (exfalso; first | omega | contradiction)))
        | (simp only [thenA, inBlockA, reduceIte, Nat.reduceEqDiff])
        | ((with_reducible refine hK _ _ ?_); clear hK)
        | (simp only [ACond, RA, EAtS_def, EAtX_def, wantedA, acall, astep, ev, ofValue, ofAtom, Nat.reduceEqDiff, Nat.reduceAdd, Nat.reduceMul, Nat.reduceSub, reduceCtorEq, reduceIte, aoptEv, abin, aint, ashift, aun, astr, aeqGuard, isConstOp, aconvH, aofStr, aconvSame, isU8, abuildSlice, afill, splice, azeros, Nat.reduceLeDiff, Nat.reduceLT, Int.reduceLE, Int.reduceLT, Int.reduceEq, Int.reduceToNat, Int.reducePow, IntKind.bits, Int.reduceNeg, RB, aalloc, Go.PW.dig_length, tf89RfD, l1, l2, k0, k1, k5, k6, k7, e1, st])
        | (simp (disch := first | omega | (simp only [RO]; done) | assumption) only [RS, hs.rd.at1 und44 size31, (hs.push _).load1 agg31, ht.rd.at1 und44 size31, (ht.push _).load1 agg31, six44, gix44])
      all_goals exact ⟨_, by omega, i + 1, _, _, rfl, by omega, rfl, rfl, by rw [List.length_set]; exact hol, hos', hc', hv', rfl⟩
    · have z2 := getD_zero (xs := ys) (i := i) (by omega)
      rw [z2] at hc' hos' hv' st hdy
      repeat' first
        | (with_reducible first | refine AWp_seq_k (fun K hK => ?_) | refine AWp_block ?_ | refine AWp_skip ?_ | refine AWp_regionE ?_ | refine AWp_condI ?_)
        | ((with_reducible refine ECall_introX (sub64 _ _ _ _ hdx.1 hdy hcc) ?_); rintro _ _ ⟨rfl, rfl⟩)
        | (with_reducible refine AIte (fun hc => ?_) (fun hc => ?_) <;> (try simp only [RC] at hc) <;> (try (exfalso; first | omega | contradiction)))
        | (simp only [thenA, inBlockA, reduceIte, Nat.reduceEqDiff])
        | ((with_reducible refine hK _ _ ?_); clear hK)
        | (simp only [ACond, RA, EAtS_def, EAtX_def, wantedA, acall, astep, ev, ofValue, ofAtom, Nat.reduceEqDiff, Nat.reduceAdd, Nat.reduceMul, Nat.reduceSub, reduceCtorEq, reduceIte, aoptEv, abin, aint, ashift, aun, astr, aeqGuard, isConstOp, aconvH, aofStr, aconvSame, isU8, abuildSlice, afill, splice, azeros, Nat.reduceLeDiff, Nat.reduceLT, Int.reduceLE, Int.reduceLT, Int.reduceEq, Int.reduceToNat, Int.reducePow, IntKind.bits, Int.reduceNeg, RB, aalloc, Go.PW.dig_length, tf89RfD, l1, l2, k0, k1, k5, k6, k7, e1, st])
        | (simp (disch := first | omega | (simp only [RO]; done) | assumption) only [RS, hs.rd.at1 und44 size31, (hs.push _).load1 agg31, ht.rd.at1 und44 size31, (ht.push _).load1 agg31, six44, gix44])
      all_goals exact ⟨_, by omega, i + 1, _, _, rfl, by omega, rfl, rfl, by rw [List.length_set]; exact hol, hos', hc', hv', rfl⟩
  · obtain rfl : n = i := by omega
    have htr := trim_calls H.length n n os (H ++ [Ub os]) hg (by omega) (Nat.le_refl _) (by omega)
    repeat' first
      | (with_reducible first | refine AWp_seq_k (fun K hK => ?_) | refine AWp_exit ?_ | refine AWp_ret ?_ | refine AWp_regionE ?_ | refine AWp_condI ?_)
      | ((with_reducible refine ECall_intro (htr) ?_); rintro _ _ ⟨rfl, rfl⟩)
      | (with_reducible refine AIte (fun hc => ?_) (fun hc => ?_) <;> (try simp only [RC] at hc) <;> (try (exfalso; first | omega | contradiction)))
      | (simp only [thenA, inBlockA, reduceIte, Nat.reduceEqDiff])
      | ((with_reducible refine hK _ _ ?_); clear hK)
      | (clear hK; (with_reducible refine hK _ _ ?_); clear hK)
      | (simp only [ACond, RA, EAtS_def, EAtX_def, wantedA, acall, astep, ev, ofValue, ofAtom, Nat.reduceEqDiff, Nat.reduceAdd, Nat.reduceMul, Nat.reduceSub, reduceCtorEq, reduceIte, aoptEv, abin, aint, ashift, aun, astr, aeqGuard, isConstOp, aconvH, aofStr, aconvSame, isU8, abuildSlice, afill, splice, azeros, Nat.reduceLeDiff, Nat.reduceLT, Int.reduceLE, Int.reduceLT, Int.reduceEq, Int.reduceToNat, Int.reducePow, IntKind.bits, Int.reduceNeg, RB, aalloc, Go.PW.dig_length, tf89RfD, l1, k0, k1, k5, k6, k7])
    all_goals
      (
       (refine AEnd_gen (rs := [.tmp 4]) rfl ?_)
       (simp only [AEndR, aresults, Fr.put_some, Fr.put_none, fr0_zero, fr0_succ, fr0_nil, Nat.reduceEqDiff, reduceIte])
       (try simp (disch := (first | omega | (simp only [RO]; done) | assumption | (simp only [RM, Go.PW.dig_length]; done) | (simp only [RL, Go.PW.dig_length]; omega))) only [RD, reduceCtorEq, reduceIte, Go.PW.dig_length, Nat.reduceLeDiff, Nat.reduceAdd, Nat.reduceMul, Int.reduceToNat, tf89RfD]))
    have hall : os.take n = os := List.take_of_length_le (by omega)
    have hX : xs.take n = xs := List.take_of_length_le (by omega)
    have hY : ys.take n = ys := List.take_of_length_le (by omega)
    rw [hall, hX, hY] at hv
    have hc0 : c = 0 := by
      have b3 := (val_bound hos).2
      rw [hol] at b3
      rcases Int.lt_or_le c 1 with h | h
      · omega
      · exfalso
        obtain rfl : c = 1 := by omega
        omega
    rw [hc0] at hv
    all_goals
      refine ⟨os.take (tl os n), Uv.front hg (by have := tl_le os n; omega) (tl_le os n), tl_can hos n (by omega) (by omega), ?_, Ext.push _ _⟩
      rw [tl_val _ _ (by omega), hall]
      omega
end Go.Proofs.YtfalfmfkifemeaaGreatDoor
set_option linter.unusedVariables false
set_option linter.unusedSimpArgs false
namespace Go.Proofs.YtfalfmfkifemeaaGreatDoor
open Go.AL Go.PW
theorem tf63RfE : type_of% (And.intro @tyb3 (And.intro @tyb31 (@tyb44))) := And.intro @tyb3 (And.intro @tyb31 (@tyb44))
abbrev pn63_9RfE : Plan := (.one 0 (.one 1 (.one 2 (.one 3 (.one 4 (.one 5 (.one 6 (.one 7 (.one 8 (.one 9 (.one 10 (.one 11 (.one 12 (.one 13 .nil))))))))))))))
set_option maxRecDepth 8000
/-- One limb times one, and two more: two limbs hold it. -/
theorem mac {a b o c : Int} (ha : 0 ≤ a ∧ a < Bs) (hb : 0 ≤ b ∧ b < Bs) (ho : 0 ≤ o ∧ o < Bs) (hc : 0 ≤ c ∧ c < Bs) :
    (0 ≤ a * b / Bs + (a * b % Bs + o) / Bs ∧ a * b / Bs + (a * b % Bs + o) / Bs < Bs) ∧
    (0 ≤ a * b / Bs + (a * b % Bs + o) / Bs + ((a * b % Bs + o) % Bs + c) / Bs ∧ a * b / Bs + (a * b % Bs + o) / Bs + ((a * b % Bs + o) % Bs + c) / Bs < Bs) ∧
    (0 ≤ ((a * b % Bs + o) % Bs + c) % Bs ∧ ((a * b % Bs + o) % Bs + c) % Bs < Bs) ∧
    (a * b / Bs + (a * b % Bs + o) / Bs + ((a * b % Bs + o) % Bs + c) / Bs) * Bs + ((a * b % Bs + o) % Bs + c) % Bs = a * b + o + c := by
  have h := mul_bound (x := a) (y := b) (p := Bs - 1) (q := Bs - 1) ⟨ha.1, by omega⟩ ⟨hb.1, by omega⟩
  have e : (Bs - 1) * (Bs - 1) = 340282366920938463426481119284349108225 := by decide
  rw [e] at h
  generalize a * b = p at *
  simp only [Bs] at *
  omega
theorem mac_step {xs ys os os0 : List Int} {i k : Nat} {c : Int} (hx : Limbs xs) (hy : Limbs ys) (ho : Limbs os) (hik : i + k < os.length) (hk : k < ys.length) (hc : 0 ≤ c ∧ c < Bs)
    (h : val os + Bs ^ (i + k) * c = val os0 + Bs ^ i * xs.getD i 0 * val (ys.take k)) (u v : Int) (hv : 0 ≤ v ∧ v < Bs) (he : u * Bs + v = xs.getD i 0 * ys.getD k 0 + os.getD (i + k) 0 + c) :
    Limbs (os.set (i + k) v) ∧ val (os.set (i + k) v) + Bs ^ (i + (k + 1)) * u = val os0 + Bs ^ i * xs.getD i 0 * val (ys.take (k + 1)) := by
  refine ⟨ho.set _ hv, ?_⟩
  rw [val_set _ hik, val_take_any, show i + (k + 1) = i + k + 1 by omega, Int.pow_succ, Int.mul_add, Int.pow_add]
  rw [Int.pow_add] at h
  have : v = xs.getD i 0 * ys.getD k 0 + os.getD (i + k) 0 + c - u * Bs := by omega
  rw [this]
  generalize Bs ^ i = p at *
  generalize Bs ^ k = q at *
  grind
set_option maxHeartbeats 4000000 in
theorem Rtimes_calls (s t : AV) (xs ys : List Int) (H : Hp) (hs : Ints H .u64 s xs) (ht : Ints H .u64 t ys) (hx : Limbs xs) (hy : Limbs ys) (lx : xs.length < 40000) (ly : ys.length < 40000) : ACalls Tryz.prog 63 [s, t] H fun r H' => ∃ zs, Uv H' r zs ∧ Can zs ∧ val zs = val xs * val ys ∧ Ext H H' := by
  have l1 := hs.rd.len und44
  have l2 := ht.rd.len und44
  obtain ⟨n, hn⟩ : ∃ n, n = xs.length + ys.length := ⟨_, rfl⟩
  have w0 : IntKind.i64.wrap ((xs.length : Int) + (ys.length : Int)) = (n : Int) := by rw [wrap_i64_id (by omega) (by omega)]; omega
  have hmk := fun H0 => make_u64 H0 n .i64 (by omega)
  refine ACalls_body Tryz.func63 rfl (by kernel_rfl) (by kernel_rfl) ?_
  repeat' first
    | (with_reducible first | refine AWp_seq_k (fun K hK => ?_) | refine AWp_block ?_ | refine AWp_regionE ?_)
    | (simp only [thenA, inBlockA, reduceIte, Nat.reduceEqDiff])
    | ((with_reducible refine hK _ _ ?_); clear hK)
    | (simp only [ACond, RA, EAtS_def, EAtX_def, wantedA, acall, astep, ev, ofValue, ofAtom, Nat.reduceEqDiff, Nat.reduceAdd, Nat.reduceMul, Nat.reduceSub, reduceCtorEq, reduceIte, aoptEv, abin, aint, ashift, aun, astr, aeqGuard, isConstOp, aconvH, aofStr, aconvSame, isU8, abuildSlice, afill, splice, azeros, Nat.reduceLeDiff, Nat.reduceLT, Int.reduceLE, Int.reduceLT, Int.reduceEq, Int.reduceToNat, Int.reducePow, IntKind.bits, Int.reduceNeg, RB, aalloc, Go.PW.dig_length, tf63RfE, l1, l2, w0, hmk])
  refine AWp_loop (fun m fr' H1 => ∃ (i : Nat) (os : List Int), m = xs.length - i ∧ i ≤ xs.length ∧ fr' 0 = s ∧ fr' 1 = t ∧ fr' 5 = .sl H.length 0 n n ∧ fr' 6 = .int .i64 (i : Int) ∧ os.length = n ∧ Limbs os ∧ (∀ j, i + ys.length ≤ j → os.getD j 0 = 0) ∧ val os = val (xs.take i) * val ys ∧ H ++ [Ub os] = H1) (m := xs.length)
    ⟨0, List.replicate n 0, by omega, by omega, rfl, rfl, rfl, rfl, by simp, Limbs.replicate n, fun j _ => by simp [List.getD, List.getElem?_replicate]; split <;> rfl, by rw [val_replicate]; simp [val], rfl⟩ ?_
  rintro m fr' H1 ⟨i, os, rfl, hi, k0, k1, k5, k6, hol, hos, hz, hv, rfl⟩
  by_cases hlt : i < xs.length
  · have e1 : IntKind.i64.wrap ((i : Int) + 1) = ((i + 1 : Nat) : Int) := by rw [wrap_i64_id (by omega) (by omega)]; omega
    have e2 : IntKind.i64.wrap ((i : Int) + (ys.length : Int)) = ((i + ys.length : Nat) : Int) := by rw [wrap_i64_id (by omega) (by omega)]; omega
    repeat' first
      | (with_reducible first | refine AWp_seq_k (fun K hK => ?_) | refine AWp_block ?_ | refine AWp_skip ?_ | refine AWp_regionE ?_ | refine AWp_condI ?_)
      | (with_reducible refine AIte (fun hc => ?_) (fun hc => ?_) <;> (try simp only [RC] at hc) <;> (try (exfalso; first | omega | contradiction)))
      | (simp only [thenA, inBlockA, reduceIte, Nat.reduceEqDiff])
      | ((with_reducible refine hK _ _ ?_); clear hK)
      | (simp only [ACond, RA, EAtS_def, EAtX_def, wantedA, acall, astep, ev, ofValue, ofAtom, Nat.reduceEqDiff, Nat.reduceAdd, Nat.reduceMul, Nat.reduceSub, reduceCtorEq, reduceIte, aoptEv, abin, aint, ashift, aun, astr, aeqGuard, isConstOp, aconvH, aofStr, aconvSame, isU8, abuildSlice, afill, splice, azeros, Nat.reduceLeDiff, Nat.reduceLT, Int.reduceLE, Int.reduceLT, Int.reduceEq, Int.reduceToNat, Int.reducePow, IntKind.bits, Int.reduceNeg, RB, aalloc, Go.PW.dig_length, tf63RfE, l1, l2, k0, k1, k5, k6])
    refine AWp_loop (fun m fr' H1 => ∃ (k : Nat) (os1 : List Int) (c : Int), m = ys.length - k ∧ k ≤ ys.length ∧ fr' 0 = s ∧ fr' 1 = t ∧ fr' 5 = .sl H.length 0 n n ∧ fr' 6 = .int .i64 (i : Int) ∧ fr' 7 = .int .u64 c ∧ fr' 8 = .int .i64 (k : Int) ∧ os1.length = n ∧ Limbs os1 ∧ (0 ≤ c ∧ c < Bs) ∧ (∀ j, i + ys.length ≤ j → os1.getD j 0 = 0) ∧ val os1 + Bs ^ (i + k) * c = val os + Bs ^ i * xs.getD i 0 * val (ys.take k) ∧ H ++ [Ub os1] = H1) (m := ys.length)
      ⟨0, os, 0, by omega, by omega, k0, k1, k5, k6, rfl, rfl, hol, hos, ⟨by omega, by decide⟩, hz, by simp [val], rfl⟩ ?_
    rintro m fr' H1 ⟨k, os1, c, rfl, hk, k0, k1, k5, k6, k7, k8, hol1, hos1, hcc, hz1, hv1, rfl⟩
    have hg : hget (H ++ [Ub os1]) H.length = some (Ub os1) := hget_at rfl
    by_cases hkl : k < ys.length
    · have e3 : IntKind.i64.wrap ((k : Int) + 1) = ((k + 1 : Nat) : Int) := by rw [wrap_i64_id (by omega) (by omega)]; omega
      have e4 : IntKind.i64.wrap ((i : Int) + (k : Int)) = ((i + k : Nat) : Int) := by rw [wrap_i64_id (by omega) (by omega)]; omega
      have ha := hx.get i
      have hb := hy.get k
      have ho := hos1.get (i + k)
      have hM := mul64_calls (xs.getD i 0) (ys.getD k 0) (H ++ [Ub os1]) ha hb
      have ld := load_u64 hg (i := i + k) (by omega)
      obtain ⟨m1, m2, m3, m4⟩ := mac ha hb ho hcc
      obtain ⟨q1, q2⟩ := mac_step hx hy hos1 (by omega) hkl hcc hv1 _ _ m3 m4
      have w1 := u64_in m1.1 m1.2
      have w2 := u64_in m2.1 m2.2
      have st := store_u64 hg (i := i + k) (by omega) (((xs.getD i 0 * ys.getD k 0 % Bs + os1.getD (i + k) 0) % Bs + c) % Bs)
      have hp0 : 0 ≤ xs.getD i 0 * ys.getD k 0 % Bs := Int.emod_nonneg _ (by decide)
      have hp1 : 0 ≤ (xs.getD i 0 * ys.getD k 0 % Bs + os1.getD (i + k) 0) % Bs := Int.emod_nonneg _ (by decide)
      have hset : ∀ z, (H ++ [Ub os1]).set H.length (Ub (os1.set (i + k) z)) = H ++ [Ub (os1.set (i + k) z)] := fun z => by
        rw [List.set_append_right _ _ (Nat.le_refl _), Nat.sub_self]; rfl
      rw [hset] at st
      have hzo : (0 : Int) ≤ 0 ∧ (0 : Int) ≤ 1 := ⟨by omega, by omega⟩
      repeat' first
        | (with_reducible first | refine AWp_seq_k (fun K hK => ?_) | refine AWp_block ?_ | refine AWp_skip ?_ | refine AWp_regionE ?_ | refine AWp_drawE (id := 9) [] pn63_9RfE (by kernel_rfl) (by kernel_rfl) ?_ | refine AWp_condI ?_)
        | ((with_reducible refine ECall_intro (hM) ?_); rintro _ _ ⟨rfl, rfl⟩)
        | ((with_reducible refine ECall_introX (add64 _ _ _ _ hp0 ho.1 hzo) ?_); rintro _ _ ⟨rfl, rfl⟩)
        | ((with_reducible refine ECall_introX (add64 _ _ _ _ hp1 hcc.1 hzo) ?_); rintro _ _ ⟨rfl, rfl⟩)
        | (with_reducible refine AIte (fun hc => ?_) (fun hc => ?_) <;> (try simp only [RC] at hc) <;> (try (exfalso; first | omega | contradiction)))
        | (simp only [thenA, inBlockA, reduceIte, Nat.reduceEqDiff])
        | ((with_reducible refine hK _ _ ?_); clear hK)
        | (simp only [ACond, RA, EAtS_def, EAtX_def, wantedA, acall, astep, ev, ofValue, ofAtom, Nat.reduceEqDiff, Nat.reduceAdd, Nat.reduceMul, Nat.reduceSub, reduceCtorEq, reduceIte, aoptEv, abin, aint, ashift, aun, astr, aeqGuard, isConstOp, aconvH, aofStr, aconvSame, isU8, abuildSlice, afill, splice, azeros, Nat.reduceLeDiff, Nat.reduceLT, Int.reduceLE, Int.reduceLT, Int.reduceEq, Int.reduceToNat, Int.reducePow, IntKind.bits, Int.reduceNeg, RB, aalloc, Go.PW.dig_length, tf63RfE, l1, l2, k0, k1, k5, k6, k7, k8, e3, e4, ld, st, w1, w2, Int.add_zero])
        | (simp (disch := first | omega | (simp only [RO]; done) | assumption) only [RS, hs.rd.at1 und44 size31, (hs.push _).load1 agg31, ht.rd.at1 und44 size31, (ht.push _).load1 agg31, six44, gix44])
      all_goals exact ⟨_, by omega, k + 1, _, _, rfl, by omega, rfl, rfl, by rw [List.length_set]; exact hol1, q1, m2, fun j hj => by rw [getD_set _ _ (by omega), if_neg (by omega)]; exact hz1 j hj, q2, rfl⟩
    · obtain rfl : ys.length = k := by omega
      have st := store_u64 hg (i := i + ys.length) (by omega) c
      have hset : ∀ z, (H ++ [Ub os1]).set H.length (Ub (os1.set (i + ys.length) z)) = H ++ [Ub (os1.set (i + ys.length) z)] := fun z => by
        rw [List.set_append_right _ _ (Nat.le_refl _), Nat.sub_self]; rfl
      rw [hset] at st
      repeat' first
        | (with_reducible first | refine AWp_seq_k (fun K hK => ?_) | refine AWp_exit ?_ | refine AWp_regionE ?_ | refine AWp_condI ?_)
        | (with_reducible refine AIte (fun hc => ?_) (fun hc => ?_) <;> (try simp only [RC] at hc) <;> (try (exfalso; first | omega | contradiction)))
        | (simp only [thenA, inBlockA, reduceIte, Nat.reduceEqDiff])
        | ((with_reducible refine hK _ _ ?_); clear hK)
        | (clear hK; (with_reducible refine hK _ _ ?_); clear hK)
        | (simp only [ACond, RA, EAtS_def, EAtX_def, wantedA, acall, astep, ev, ofValue, ofAtom, Nat.reduceEqDiff, Nat.reduceAdd, Nat.reduceMul, Nat.reduceSub, reduceCtorEq, reduceIte, aoptEv, abin, aint, ashift, aun, astr, aeqGuard, isConstOp, aconvH, aofStr, aconvSame, isU8, abuildSlice, afill, splice, azeros, Nat.reduceLeDiff, Nat.reduceLT, Int.reduceLE, Int.reduceLT, Int.reduceEq, Int.reduceToNat, Int.reducePow, IntKind.bits, Int.reduceNeg, RB, aalloc, Go.PW.dig_length, tf63RfE, l1, l2, k0, k1, k5, k6, k7, k8, e1, e2, st])
        | (simp (disch := first | omega | (simp only [RO]; done) | assumption) only [RS, six44, gix44])
      all_goals
        refine ⟨_, by omega, i + 1, _, rfl, by omega, rfl, by rw [List.length_set]; exact hol1, hos1.set _ hcc, fun j hj => by rw [getD_set _ _ (by omega), if_neg (by omega)]; exact hz1 j (by omega), ?_, rfl⟩
        rw [List.take_length] at hv1
        rw [val_set _ (by omega), hz1 _ (Nat.le_refl _), Int.sub_zero, hv1, hv, val_take_any, Int.add_mul]
  · obtain rfl : xs.length = i := by omega
    have hg : hget (H ++ [Ub os]) H.length = some (Ub os) := hget_at rfl
    have htr := trim_calls H.length n n os (H ++ [Ub os]) hg (by omega) (Nat.le_refl _) (by omega)
    repeat' first
      | (with_reducible first | refine AWp_seq_k (fun K hK => ?_) | refine AWp_exit ?_ | refine AWp_ret ?_ | refine AWp_regionE ?_ | refine AWp_condI ?_)
      | ((with_reducible refine ECall_intro (htr) ?_); rintro _ _ ⟨rfl, rfl⟩)
      | (with_reducible refine AIte (fun hc => ?_) (fun hc => ?_) <;> (try simp only [RC] at hc) <;> (try (exfalso; first | omega | contradiction)))
      | (simp only [thenA, inBlockA, reduceIte, Nat.reduceEqDiff])
      | ((with_reducible refine hK _ _ ?_); clear hK)
      | (clear hK; (with_reducible refine hK _ _ ?_); clear hK)
      | (simp only [ACond, RA, EAtS_def, EAtX_def, wantedA, acall, astep, ev, ofValue, ofAtom, Nat.reduceEqDiff, Nat.reduceAdd, Nat.reduceMul, Nat.reduceSub, reduceCtorEq, reduceIte, aoptEv, abin, aint, ashift, aun, astr, aeqGuard, isConstOp, aconvH, aofStr, aconvSame, isU8, abuildSlice, afill, splice, azeros, Nat.reduceLeDiff, Nat.reduceLT, Int.reduceLE, Int.reduceLT, Int.reduceEq, Int.reduceToNat, Int.reducePow, IntKind.bits, Int.reduceNeg, RB, aalloc, Go.PW.dig_length, tf63RfE, l1, k0, k1, k5, k6])
    all_goals
      (
       (refine AEnd_gen (rs := [.tmp 4]) rfl ?_)
       (simp only [AEndR, aresults, Fr.put_some, Fr.put_none, fr0_zero, fr0_succ, fr0_nil, Nat.reduceEqDiff, reduceIte])
       (try simp (disch := (first | omega | (simp only [RO]; done) | assumption | (simp only [RM, Go.PW.dig_length]; done) | (simp only [RL, Go.PW.dig_length]; omega))) only [RD, reduceCtorEq, reduceIte, Go.PW.dig_length, Nat.reduceLeDiff, Nat.reduceAdd, Nat.reduceMul, Int.reduceToNat, tf63RfE]))
    have hall : os.take n = os := List.take_of_length_le (by omega)
    rw [List.take_length] at hv
    all_goals
      refine ⟨os.take (tl os n), Uv.front hg (by have := tl_le os n; omega) (tl_le os n), tl_can hos n (by omega) (by omega), ?_, Ext.push _ _⟩
      rw [tl_val _ _ (by omega), hall]
      exact hv
end Go.Proofs.YtfalfmfkifemeaaGreatDoor
set_option linter.unusedVariables false
set_option linter.unusedSimpArgs false
namespace Go.Proofs.YtfalfmfkifemeaaGreatDoor
open Go.AL Go.PW
theorem tf41RfF : type_of% (And.intro @tyb2 (And.intro @tyb4 (And.intro @tyb31 (And.intro @tyb44 (And.intro @tyb45 (And.intro @tyb46 (@cv2_31))))))) := And.intro @tyb2 (And.intro @tyb4 (And.intro @tyb31 (And.intro @tyb44 (And.intro @tyb45 (And.intro @tyb46 (@cv2_31))))))
set_option maxRecDepth 8000
theorem Can.single {x : Int} (h0 : 0 < x) (h : x < Bs) : Can [x] := ⟨fun y hy => by simp at hy; subst hy; omega, .inr (by simp; omega), by simp⟩
theorem Can.nil : Can [] := ⟨Limbs.nil, .inl rfl, by simp⟩
set_option maxHeartbeats 2000000 in
theorem Of_calls (v : Int) (H : Hp) (hv : -9223372036854775808 ≤ v ∧ v ≤ 9223372036854775807) : ACalls Tryz.prog 41 [.int .i64 v] H fun r H' => ∃ s, r = BV v s ∧ Bs_ H' s v ∧ Ext H H' := by
  refine ACalls_body Tryz.func41 rfl (by kernel_rfl) (by kernel_rfl) ?_
  by_cases hn : v < 0
  · have e1 : (v < 0) = True := eq_true hn
    have w1 : IntKind.i64.wrap (v + 1) = v + 1 := wrap_i64_id (by omega) (by omega)
    have w2 : IntKind.i64.wrap (0 - (v + 1)) = -(v + 1) := by rw [wrap_i64_id (by omega) (by omega)]; omega
    have w3 : IntKind.u64.wrap (-(v + 1)) = -(v + 1) := u64_in (by omega) (by simp only [Bs]; omega)
    have w4 : IntKind.u64.wrap (-(v + 1) + 1) = -v := by rw [u64_in (by omega) (by simp only [Bs]; omega)]; omega
    have hg : hget (H ++ [⟨[.bool false, .nilS], .own, 46⟩] ++ [⟨[.int .u64 (-v)], .own, 31⟩]) (H.length + 1) = some (Ub [-v]) := hget_at (by simp)
    have hu := Uv.front (k := 1) (c := 1) hg (by simp) (Nat.le_refl _)
    have hm := made_calls true _ _ _ hu.rd
    rw [show (true && decide (0 < ([-v].take 1).length)) = true from rfl] at hm
    have hb : (decide (v < 0)) = true := decide_eq_true hn
    repeat' first
      | (with_reducible first | refine AWp_seq_k (fun K hK => ?_) | refine AWp_ret ?_ | refine AWp_regionE ?_ | refine AWp_condI ?_)
      | ((with_reducible refine ECall_intro (hm) ?_); rintro _ _ ⟨rfl, rfl⟩)
      | (simp only [thenA, inBlockA, reduceIte, Nat.reduceEqDiff])
      | ((with_reducible refine hK _ _ ?_); clear hK)
      | (simp only [ACond, RA, EAtS_def, EAtX_def, wantedA, acall, astep, ev, ofValue, ofAtom, Nat.reduceEqDiff, Nat.reduceAdd, Nat.reduceMul, Nat.reduceSub, reduceCtorEq, reduceIte, aoptEv, abin, aint, ashift, aun, astr, aeqGuard, isConstOp, aconvH, aofStr, aconvSame, isU8, abuildSlice, afill, splice, azeros, Nat.reduceLeDiff, Nat.reduceLT, Int.reduceLE, Int.reduceLT, Int.reduceEq, Int.reduceToNat, Int.reducePow, IntKind.bits, Int.reduceNeg, RB, aalloc, Go.PW.dig_length, tf41RfF, e1, w1, w2, w3, w4])
      | (simp (disch := (first | omega | (simp only [RO]; done) | assumption | (simp only [RM, Go.PW.dig_length]; done) | (simp only [RL, Go.PW.dig_length]; omega))) only [RD, reduceCtorEq, reduceIte, Go.PW.dig_length, Nat.reduceLeDiff, Nat.reduceAdd, Nat.reduceMul, Int.reduceToNat, tf41RfF, e1, w1, w2, w3, w4])
    all_goals
      (
       (refine AEnd_gen (rs := [.cell 2 46]) rfl ?_)
       (simp only [AEndR, aresults, Fr.put_some, Fr.put_none, fr0_zero, fr0_succ, fr0_nil, Nat.reduceEqDiff, reduceIte])
       (try simp (disch := (first | omega | (simp only [RO]; done) | assumption | (simp only [RM, Go.PW.dig_length]; done) | (simp only [RL, Go.PW.dig_length]; omega))) only [RD, reduceCtorEq, reduceIte, Go.PW.dig_length, Nat.reduceLeDiff, Nat.reduceAdd, Nat.reduceMul, Int.reduceToNat, tf41RfF]))
    all_goals exact ⟨_, by rw [show BV v (AV.sl (H.length + 1) 0 1 1) = AV.agg [.bool (decide (v < 0)), AV.sl (H.length + 1) 0 1 1] from rfl, hb], ⟨[-v], Uv.front (k := 1) (c := 1) (xs := [-v]) (hget_at (by simp)) (by simp) (Nat.le_refl _), Can.single (by omega) (by simp only [Bs]; omega), by simp only [val]; omega⟩, (Ext.push _ _).pushed _⟩
  · have e1 : (v < 0) = False := eq_false hn
    have w3 : IntKind.u64.wrap v = v := u64_in (by omega) (by simp only [Bs]; omega)
    have hg : hget (H ++ [⟨[.bool false, .nilS], .own, 46⟩] ++ [⟨[.int .u64 v], .own, 31⟩]) (H.length + 1) = some (Ub [v]) := hget_at (by simp)
    have htr := trim_calls (H.length + 1) 1 1 [v] _ hg (by simp) (Nat.le_refl _) (by omega)
    have hu := Uv.front (k := tl [v] 1) (c := 1) hg (tl_le [v] 1) (tl_le [v] 1)
    have hm := made_calls false _ _ _ hu.rd
    rw [Bool.false_and] at hm
    repeat' first
      | (with_reducible first | refine AWp_seq_k (fun K hK => ?_) | refine AWp_skip ?_ | refine AWp_ret ?_ | refine AWp_regionE ?_ | refine AWp_condI ?_)
      | ((with_reducible refine ECall_intro (htr) ?_); rintro _ _ ⟨rfl, rfl⟩)
      | ((with_reducible refine ECall_intro (hm) ?_); rintro _ _ ⟨rfl, rfl⟩)
      | (simp only [thenA, inBlockA, reduceIte, Nat.reduceEqDiff])
      | ((with_reducible refine hK _ _ ?_); clear hK)
      | (simp only [ACond, RA, EAtS_def, EAtX_def, wantedA, acall, astep, ev, ofValue, ofAtom, Nat.reduceEqDiff, Nat.reduceAdd, Nat.reduceMul, Nat.reduceSub, reduceCtorEq, reduceIte, aoptEv, abin, aint, ashift, aun, astr, aeqGuard, isConstOp, aconvH, aofStr, aconvSame, isU8, abuildSlice, afill, splice, azeros, Nat.reduceLeDiff, Nat.reduceLT, Int.reduceLE, Int.reduceLT, Int.reduceEq, Int.reduceToNat, Int.reducePow, IntKind.bits, Int.reduceNeg, RB, aalloc, Go.PW.dig_length, tf41RfF, e1, w3])
      | (simp (disch := (first | omega | (simp only [RO]; done) | assumption | (simp only [RM, Go.PW.dig_length]; done) | (simp only [RL, Go.PW.dig_length]; omega))) only [RD, reduceCtorEq, reduceIte, Go.PW.dig_length, Nat.reduceLeDiff, Nat.reduceAdd, Nat.reduceMul, Int.reduceToNat, tf41RfF, e1, w3])
    all_goals
      (
       (refine AEnd_gen (rs := [.cell 2 46]) rfl ?_)
       (simp only [AEndR, aresults, Fr.put_some, Fr.put_none, fr0_zero, fr0_succ, fr0_nil, Nat.reduceEqDiff, reduceIte])
       (try simp (disch := (first | omega | (simp only [RO]; done) | assumption | (simp only [RM, Go.PW.dig_length]; done) | (simp only [RL, Go.PW.dig_length]; omega))) only [RD, reduceCtorEq, reduceIte, Go.PW.dig_length, Nat.reduceLeDiff, Nat.reduceAdd, Nat.reduceMul, Int.reduceToNat, tf41RfF]))
    have hb : (decide (v < 0)) = false := decide_eq_false hn
    have hL : Limbs [v] := fun y hy => by simp at hy; subst hy; simp only [Bs]; omega
    all_goals exact ⟨_, by rw [show BV v (AV.sl (H.length + 1) 0 (tl [v] 1) 1) = AV.agg [.bool (decide (v < 0)), AV.sl (H.length + 1) 0 (tl [v] 1) 1] from rfl, hb], ⟨[v].take (tl [v] 1), Uv.front (k := tl [v] 1) (c := 1) (xs := [v]) (hget_at (by simp)) (tl_le [v] 1) (tl_le [v] 1), tl_can hL 1 (by simp) (by omega), by rw [tl_val _ _ (by simp)]; simp only [val, List.take]; omega⟩, (Ext.push _ _).pushed _⟩
end Go.Proofs.YtfalfmfkifemeaaGreatDoor
set_option linter.unusedVariables false
set_option linter.unusedSimpArgs false
namespace Go.Proofs.YtfalfmfkifemeaaGreatDoor
open Go.AL Go.PW
theorem tf26RfG : type_of% (And.intro @tyb4 (And.intro @tyb31 (And.intro @tyb44 (And.intro @tyb45 (@tyb46))))) := And.intro @tyb4 (And.intro @tyb31 (And.intro @tyb44 (And.intro @tyb45 (@tyb46))))
abbrev pn26_1RfG : Plan := (.one 0 (.one 2 (.one 5 (.one 6 (.one 7 (.one 8 (.alt 1 (.alt 3 (.one 4 (.one 9 (.one 10 (.one 11 .nil)))) (.one 9 (.one 3 (.one 4 (.one 10 (.one 11 .nil)))))) (.alt 3 (.alt 1 (.one 4 (.one 9 (.one 10 (.one 11 .nil)))) (.one 9 (.one 1 (.one 4 (.one 10 (.one 11 .nil)))))) (.one 9 (.one 1 (.one 3 (.one 4 (.one 10 (.one 11 .nil))))))))))))))
set_option maxRecDepth 8000
/-- Numbers of at most twenty limbs. -/
def Sm (x : Int) : Prop := (x.natAbs : Int) < Bs ^ 20
theorem Can.small {xs : List Int} (c : Can xs) (h : val xs < Bs ^ 20) : xs.length ≤ 20 := by
  rcases Nat.lt_or_ge xs.length 21 with h1 | h1
  · omega
  · have h2 := c.low (by omega)
    have h3 : Bs ^ 20 ≤ Bs ^ (xs.length - 1) := pow_mono (by omega)
    omega
theorem mul_sign (x y : Int) (n : Nat) (hn : n = 0 ↔ x * y = 0) : ((decide (x < 0) != decide (y < 0)) && decide (0 < n)) = decide (x * y < 0) := by
  rcases Int.lt_trichotomy x 0 with hx | hx | hx
  · rcases Int.lt_trichotomy y 0 with hy | hy | hy
    · have := Int.mul_pos_of_neg_of_neg hx hy
      simp [hx, hy]; omega
    · subst hy; simp at hn; simp [hn]
    · have h := Int.mul_neg_of_neg_of_pos hx hy
      have : ¬ n = 0 := fun e => by have := hn.1 e; omega
      have hy' : ¬ y < 0 := by omega
      simp [hx, hy', h]; omega
  · subst hx; simp at hn; simp [hn]
  · have hx' : ¬ x < 0 := by omega
    rcases Int.lt_trichotomy y 0 with hy | hy | hy
    · have h := Int.mul_neg_of_pos_of_neg hx hy
      have : ¬ n = 0 := fun e => by have := hn.1 e; omega
      simp [hx', hy, h]; omega
    · subst hy; simp at hn; simp [hn]
    · have := Int.mul_pos hx hy
      have hy' : ¬ y < 0 := by omega
      simp [hx', hy']; omega
theorem arow_same {H H' : Hp} {z : Nat} {v : AV} (h : hget H' v.hd = hget H v.hd) : arow H' z v = arow H z v := by
  cases v <;> simp only [arow] <;> (simp only [AV.hd] at h; rw [h])
theorem Uv.other {H : Hp} {s : AV} {xs : List Int} (u : Uv H s xs) {h : Nat} {b : Blk} (hg : hget H h = some b) (hb : b.ety ≠ 31) (b' : Blk) : Uv (H.set h b') s xs := by
  rcases u.ety with e | ⟨c, g, e⟩
  · subst e
    exact ⟨⟨u.rd.rd.row, u.rd.rd.fine⟩, .inl rfl⟩
  · have hne : s.hd ≠ h := fun e2 => by
      rw [e2, hg] at g; cases g; exact hb e
    have hs : hget (H.set h b') s.hd = hget H s.hd := by rw [hget_set (hget_lt hg), if_neg hne]
    exact ⟨⟨by rw [arow_same hs]; exact u.rd.rd.row, u.rd.rd.fine⟩, .inr ⟨c, by rw [hs]; exact g, e⟩⟩
theorem mul_sign2 (x y : Int) (n : Nat) (hn : n = 0 ↔ x * y = 0) : ((!(decide (x < 0) == decide (y < 0))) && decide (0 < n)) = decide (x * y < 0) := mul_sign x y n hn
set_option maxHeartbeats 2000000 in
theorem Rmul_calls (x y : Int) (s t : AV) (H : Hp) (hs : Bs_ H s x) (ht : Bs_ H t y) (bx : Sm x) (by_ : Sm y) : ACalls Tryz.prog 26 [BV x s, BV y t] H fun r H' => ∃ u, r = BV (x * y) u ∧ Bs_ H' u (x * y) ∧ Ext H H' := by
  obtain ⟨xs, ux, cx, vx⟩ := hs.ex
  obtain ⟨ys, uy, cy, vy⟩ := ht.ex
  have hs1 : s.one = true := ux.rd.rd.one
  have hc1 : s.cells = [s] := AV.cells_one hs1
  have ht1 : t.one = true := uy.rd.rd.one
  have hc2 : t.cells = [t] := AV.cells_one ht1
  have lx := cx.small (by rw [vx]; exact bx)
  have ly := cy.small (by rw [vy]; exact by_)
  refine ACalls_body Tryz.func26 rfl (by kernel_rfl) (by kernel_rfl) ?_
  repeat' first
    | (with_reducible first | refine AWp_seq_k (fun K hK => ?_) | refine AWp_regionE ?_ | refine AWp_drawE (id := 1) [] pn26_1RfG (by kernel_rfl) (by kernel_rfl) ?_)
    | (with_reducible refine And.intro ?_ ?_)
    | (simp only [thenA, inBlockA, reduceIte, Nat.reduceEqDiff])
    | ((with_reducible refine hK _ _ ?_); clear hK)
    | (simp only [ACond, RA, EAtS_def, EAtX_def, wantedA, acall, astep, ev, ofValue, ofAtom, Nat.reduceEqDiff, Nat.reduceAdd, Nat.reduceMul, Nat.reduceSub, reduceCtorEq, reduceIte, aoptEv, abin, aint, ashift, aun, astr, aeqGuard, isConstOp, aconvH, aofStr, aconvSame, isU8, abuildSlice, afill, splice, azeros, Nat.reduceLeDiff, Nat.reduceLT, Int.reduceLE, Int.reduceLT, Int.reduceEq, Int.reduceToNat, Int.reducePow, IntKind.bits, Int.reduceNeg, RB, aalloc, Go.PW.dig_length, tf26RfG])
    | (simp (disch := first | omega | (simp only [RO]; done) | assumption) only [RS, six44, gix44, bst46_e, bst46_01])
    | (simp (disch := (first | omega | (simp only [RO]; done) | assumption | (simp only [RM, Go.PW.dig_length]; done) | (simp only [RL, Go.PW.dig_length]; omega))) only [RD, reduceCtorEq, reduceIte, Go.PW.dig_length, Nat.reduceLeDiff, Nat.reduceAdd, Nat.reduceMul, Int.reduceToNat, tf26RfG])
  all_goals
    refine ECall_intro (Rtimes_calls s t xs ys _ (ux.rd.ext (ext5 _ _ _)) (uy.rd.ext (ext5 _ _ _)) cx.lim cy.lim (by omega) (by omega)) ?_
    rintro u H4 ⟨zs, U, C, vz, x4⟩
    have hz := Bs_.nil (H := H4) (s := u) (x := x * y) C (by rw [vz, vx, vy, Int.natAbs_mul]; push_cast; rfl)
    have q2 : hget H4 H.length = some ⟨[.bool (decide (x < 0)), s], .own, 46⟩ := hget_ext (by rw [hget_old (by simp), hget_old (by simp), hget_at rfl]) x4
    have q3 : hget H4 (H.length + 1) = some ⟨[.bool (decide (y < 0)), t], .own, 46⟩ := hget_ext (by rw [hget_old (by simp), hget_at (by simp)]) x4
    have q4 : hget H4 (H.length + 1 + 1) = some ⟨[.bool false, .nilS], .own, 46⟩ := hget_ext (hget_at (by simp)) x4
    have hu1 : u.one = true := U.rd.rd.one
    have hc3 : u.cells = [u] := AV.cells_one hu1
    have hm := made_calls (!(decide (x < 0) == decide (y < 0))) u zs H4 U.rd
    rw [mul_sign2 x y zs.length hz] at hm
    repeat' first
      | (with_reducible first | refine AWp_ret ?_)
      | ((with_reducible refine ECall_intro (hm) ?_); rintro _ _ ⟨rfl, rfl⟩)
      | (simp only [thenA, inBlockA, reduceIte, Nat.reduceEqDiff])
      | ((with_reducible refine hK _ _ ?_); clear hK)
      | (simp only [ACond, RA, EAtS_def, EAtX_def, wantedA, acall, astep, ev, ofValue, ofAtom, Nat.reduceEqDiff, Nat.reduceAdd, Nat.reduceMul, Nat.reduceSub, reduceCtorEq, reduceIte, aoptEv, abin, aint, ashift, aun, astr, aeqGuard, isConstOp, aconvH, aofStr, aconvSame, isU8, abuildSlice, afill, splice, azeros, Nat.reduceLeDiff, Nat.reduceLT, Int.reduceLE, Int.reduceLT, Int.reduceEq, Int.reduceToNat, Int.reducePow, IntKind.bits, Int.reduceNeg, RB, aalloc, Go.PW.dig_length, tf26RfG, q2, q3, q4])
      | (simp (disch := first | omega | (simp only [RO]; done) | assumption) only [RS, six44, gix44, bst46_e, bst46_01])
      | (simp (disch := (first | omega | (simp only [RO]; done) | assumption | (simp only [RM, Go.PW.dig_length]; done) | (simp only [RL, Go.PW.dig_length]; omega))) only [RD, reduceCtorEq, reduceIte, Go.PW.dig_length, Nat.reduceLeDiff, Nat.reduceAdd, Nat.reduceMul, Int.reduceToNat, tf26RfG, q2, q3, q4])
    have l4 := hget_lt q4
    have hxl : H.length + 1 + 1 < H4.length := l4
    (
     (refine AEnd_gen (rs := [.cell 4 46]) rfl ?_)
     (simp only [AEndR, aresults, Fr.put_some, Fr.put_none, fr0_zero, fr0_succ, fr0_nil, Nat.reduceEqDiff, reduceIte, hget_set l4])
     (try simp (disch := (first | omega | (simp only [RO]; done) | assumption | (simp only [RM, Go.PW.dig_length]; done) | (simp only [RL, Go.PW.dig_length]; omega))) only [RD, reduceCtorEq, reduceIte, Go.PW.dig_length, Nat.reduceLeDiff, Nat.reduceAdd, Nat.reduceMul, Int.reduceToNat, tf26RfG, hget_set l4]))
    exact ⟨u, rfl, ⟨zs, U.other q4 (by decide) _, C, by rw [vz, vx, vy, Int.natAbs_mul]; push_cast; rfl⟩, ((ext5 _ _ _).trans x4).set (by omega) _⟩
end Go.Proofs.YtfalfmfkifemeaaGreatDoor
set_option linter.unusedVariables false
set_option linter.unusedSimpArgs false
namespace Go.Proofs.YtfalfmfkifemeaaGreatDoor
open Go.AL Go.PW
theorem tf67RfH : type_of% (And.intro @tyb3 (And.intro @tyb4 (And.intro @tyb31 (And.intro @tyb44 (And.intro @tyb45 (@tyb46)))))) := And.intro @tyb3 (And.intro @tyb4 (And.intro @tyb31 (And.intro @tyb44 (And.intro @tyb45 (@tyb46)))))
abbrev pn67_2RfH : Plan := (.one 0 (.one 2 (.one 3 (.one 4 (.one 5 (.alt 1 (.one 6 (.one 7 (.one 8 .nil))) (.one 6 (.one 1 (.one 7 (.one 8 .nil))))))))))
abbrev pn67_4RfH : Plan := (.one 0 (.one 2 (.one 3 (.one 4 (.one 5 (.alt 1 (.one 6 (.one 7 (.one 8 .nil))) (.one 6 (.one 1 (.one 7 (.one 8 .nil))))))))))
abbrev pn67_5RfH : Plan := (.one 0 (.one 2 (.one 3 (.one 4 (.one 5 (.alt 1 (.one 6 (.one 7 (.one 8 .nil))) (.one 6 (.one 1 (.one 7 (.one 8 .nil))))))))))
set_option maxRecDepth 8000
theorem Can.le {xs ys : List Int} (cx : Can xs) (cy : Can ys) (h : val ys ≤ val xs) : ys.length ≤ xs.length := by
  rcases Nat.lt_or_ge xs.length ys.length with e | e
  · have := val_len_lt cx.lim cy e; omega
  · exact e
set_option maxHeartbeats 4000000 in
theorem Radd_calls (x y : Int) (s t : AV) (H : Hp) (hs : Bs_ H s x) (ht : Bs_ H t y) (bx : Sm x) (by_ : Sm y) : ACalls Tryz.prog 67 [BV x s, BV y t] H fun r H' => ∃ u, r = BV (x + y) u ∧ Bs_ H' u (x + y) ∧ Ext H H' := by
  obtain ⟨xs, ux, cx, vx⟩ := hs.ex
  obtain ⟨ys, uy, cy, vy⟩ := ht.ex
  have hs1 : s.one = true := ux.rd.rd.one
  have hc1 : s.cells = [s] := AV.cells_one hs1
  have ht1 : t.one = true := uy.rd.rd.one
  have hc2 : t.cells = [t] := AV.cells_one ht1
  have lx := cx.small (by rw [vx]; exact bx)
  have ly := cy.small (by rw [vy]; exact by_)
  refine ACalls_body Tryz.func67 rfl (by kernel_rfl) (by kernel_rfl) ?_
  by_cases hsame : decide (x < 0) = decide (y < 0)
  · have e1 : (decide (x < 0) = decide (y < 0)) = True := eq_true hsame
    have e1b : (decide (x < 0) == decide (y < 0)) = true := by rw [hsame]; exact beq_self_eq_true _
    have hiff : x < 0 ↔ y < 0 := by
      rw [← decide_eq_true_iff (p := x < 0), hsame, decide_eq_true_iff]
    repeat' first
      | (with_reducible first | refine AWp_seq_k (fun K hK => ?_) | refine AWp_regionE ?_ | refine AWp_drawE (id := 2) [] pn67_2RfH (by kernel_rfl) (by kernel_rfl) ?_ | refine AWp_condI ?_)
      | (with_reducible refine And.intro ?_ ?_)
      | (simp only [thenA, inBlockA, reduceIte, Nat.reduceEqDiff])
      | ((with_reducible refine hK _ _ ?_); clear hK)
      | (simp only [ACond, RA, EAtS_def, EAtX_def, wantedA, acall, astep, ev, ofValue, ofAtom, Nat.reduceEqDiff, Nat.reduceAdd, Nat.reduceMul, Nat.reduceSub, reduceCtorEq, reduceIte, aoptEv, abin, aint, ashift, aun, astr, aeqGuard, isConstOp, aconvH, aofStr, aconvSame, isU8, abuildSlice, afill, splice, azeros, Nat.reduceLeDiff, Nat.reduceLT, Int.reduceLE, Int.reduceLT, Int.reduceEq, Int.reduceToNat, Int.reducePow, IntKind.bits, Int.reduceNeg, RB, aalloc, Go.PW.dig_length, tf67RfH, e1b])
      | (simp (disch := first | omega | (simp only [RO]; done) | assumption) only [RS, six44, gix44, bst46_e, bst46_01])
      | (simp (disch := (first | omega | (simp only [RO]; done) | assumption | (simp only [RM, Go.PW.dig_length]; done) | (simp only [RL, Go.PW.dig_length]; omega))) only [RD, reduceCtorEq, reduceIte, Go.PW.dig_length, Nat.reduceLeDiff, Nat.reduceAdd, Nat.reduceMul, Int.reduceToNat, tf67RfH, e1b])
    all_goals
      refine ECall_intro (Rplus_calls s t xs ys _ (ux.rd.ext (ext5 _ _ _)) (uy.rd.ext (ext5 _ _ _)) cx.lim cy.lim (by omega) (by omega)) ?_
      rintro u H4 ⟨zs, U, C, vz, x4⟩
      have vz2 : val zs = (x + y).natAbs := by rw [vz, vx, vy]; omega
      have hz := Bs_.nil (H := H4) (s := u) (x := x + y) C vz2
      have q2 : hget H4 H.length = some ⟨[.bool (decide (x < 0)), s], .own, 46⟩ := hget_ext (by rw [hget_old (by simp), hget_old (by simp), hget_at rfl]) x4
      have q3 : hget H4 (H.length + 1) = some ⟨[.bool (decide (y < 0)), t], .own, 46⟩ := hget_ext (by rw [hget_old (by simp), hget_at (by simp)]) x4
      have q4 : hget H4 (H.length + 1 + 1) = some ⟨[.bool false, .nilS], .own, 46⟩ := hget_ext (hget_at (by simp)) x4
      have hu1 : u.one = true := U.rd.rd.one
      have hc3 : u.cells = [u] := AV.cells_one hu1
      have hm := made_calls (decide (x < 0)) u zs H4 U.rd
      have hsg : (decide (x < 0) && decide (0 < zs.length)) = decide (x + y < 0) := by
        rw [Bool.eq_iff_iff]; simp only [Bool.and_eq_true, decide_eq_true_iff]; omega
      rw [hsg] at hm
      repeat' first
        | (with_reducible first | refine AWp_ret ?_)
        | ((with_reducible refine ECall_intro (hm) ?_); rintro _ _ ⟨rfl, rfl⟩)
        | (simp only [thenA, inBlockA, reduceIte, Nat.reduceEqDiff])
        | ((with_reducible refine hK _ _ ?_); clear hK)
        | (simp only [ACond, RA, EAtS_def, EAtX_def, wantedA, acall, astep, ev, ofValue, ofAtom, Nat.reduceEqDiff, Nat.reduceAdd, Nat.reduceMul, Nat.reduceSub, reduceCtorEq, reduceIte, aoptEv, abin, aint, ashift, aun, astr, aeqGuard, isConstOp, aconvH, aofStr, aconvSame, isU8, abuildSlice, afill, splice, azeros, Nat.reduceLeDiff, Nat.reduceLT, Int.reduceLE, Int.reduceLT, Int.reduceEq, Int.reduceToNat, Int.reducePow, IntKind.bits, Int.reduceNeg, RB, aalloc, Go.PW.dig_length, tf67RfH, q2, q3, q4])
        | (simp (disch := first | omega | (simp only [RO]; done) | assumption) only [RS, six44, gix44, bst46_e, bst46_01])
        | (simp (disch := (first | omega | (simp only [RO]; done) | assumption | (simp only [RM, Go.PW.dig_length]; done) | (simp only [RL, Go.PW.dig_length]; omega))) only [RD, reduceCtorEq, reduceIte, Go.PW.dig_length, Nat.reduceLeDiff, Nat.reduceAdd, Nat.reduceMul, Int.reduceToNat, tf67RfH, q2, q3, q4])
      have l4 := hget_lt q4
      (
       (refine AEnd_gen (rs := [.cell 4 46]) rfl ?_)
       (simp only [AEndR, aresults, Fr.put_some, Fr.put_none, fr0_zero, fr0_succ, fr0_nil, Nat.reduceEqDiff, reduceIte, hget_set l4])
       (try simp (disch := (first | omega | (simp only [RO]; done) | assumption | (simp only [RM, Go.PW.dig_length]; done) | (simp only [RL, Go.PW.dig_length]; omega))) only [RD, reduceCtorEq, reduceIte, Go.PW.dig_length, Nat.reduceLeDiff, Nat.reduceAdd, Nat.reduceMul, Int.reduceToNat, tf67RfH, hget_set l4]))
      exact ⟨u, rfl, ⟨zs, U.other q4 (by decide) _, C, vz2⟩, ((ext5 _ _ _).trans x4).set (by omega) _⟩
  · have e1b : (decide (x < 0) == decide (y < 0)) = false := by
      rw [Bool.eq_false_iff]; intro h; exact hsame (eq_of_beq h)
    have hiff : ¬ (x < 0 ↔ y < 0) := fun h => hsame (decide_eq_decide.mpr h)
    by_cases hle : val ys ≤ val xs
    · have e2 : (0 ≤ (val xs - val ys).sign) = True := eq_true (Int.sign_nonneg_iff.mpr (by omega))
      repeat' first
        | (with_reducible first | refine AWp_seq_k (fun K hK => ?_) | refine AWp_skip ?_ | refine AWp_regionE ?_ | refine AWp_drawE (id := 4) [] pn67_4RfH (by kernel_rfl) (by kernel_rfl) ?_ | refine AWp_condI ?_)
        | ((with_reducible refine ECall_intro (cmp_calls s t xs ys _ (ux.rd.ext (ext5 _ _ _)) (uy.rd.ext (ext5 _ _ _)) cx cy) ?_); rintro _ _ ⟨rfl, rfl⟩)
        | (with_reducible refine And.intro ?_ ?_)
        | (simp only [thenA, inBlockA, reduceIte, Nat.reduceEqDiff])
        | ((with_reducible refine hK _ _ ?_); clear hK)
        | (simp only [ACond, RA, EAtS_def, EAtX_def, wantedA, acall, astep, ev, ofValue, ofAtom, Nat.reduceEqDiff, Nat.reduceAdd, Nat.reduceMul, Nat.reduceSub, reduceCtorEq, reduceIte, aoptEv, abin, aint, ashift, aun, astr, aeqGuard, isConstOp, aconvH, aofStr, aconvSame, isU8, abuildSlice, afill, splice, azeros, Nat.reduceLeDiff, Nat.reduceLT, Int.reduceLE, Int.reduceLT, Int.reduceEq, Int.reduceToNat, Int.reducePow, IntKind.bits, Int.reduceNeg, RB, aalloc, Go.PW.dig_length, tf67RfH, e1b, e2])
        | (simp (disch := first | omega | (simp only [RO]; done) | assumption) only [RS, six44, gix44, bst46_e, bst46_01])
        | (simp (disch := (first | omega | (simp only [RO]; done) | assumption | (simp only [RM, Go.PW.dig_length]; done) | (simp only [RL, Go.PW.dig_length]; omega))) only [RD, reduceCtorEq, reduceIte, Go.PW.dig_length, Nat.reduceLeDiff, Nat.reduceAdd, Nat.reduceMul, Int.reduceToNat, tf67RfH, e1b, e2])
      all_goals
        refine ECall_intro (Rminus_calls s t xs ys _ (ux.rd.ext (ext5 _ _ _)) (uy.rd.ext (ext5 _ _ _)) cx.lim cy.lim (by omega) (cx.le cy hle) hle) ?_
        rintro u H4 ⟨zs, U, C, vz, x4⟩
        have vz2 : val zs = (x + y).natAbs := by rw [vz, vx, vy]; omega
        have hz := Bs_.nil (H := H4) (s := u) (x := x + y) C vz2
        have q2 : hget H4 H.length = some ⟨[.bool (decide (x < 0)), s], .own, 46⟩ := hget_ext (by rw [hget_old (by simp), hget_old (by simp), hget_at rfl]) x4
        have q3 : hget H4 (H.length + 1) = some ⟨[.bool (decide (y < 0)), t], .own, 46⟩ := hget_ext (by rw [hget_old (by simp), hget_at (by simp)]) x4
        have q4 : hget H4 (H.length + 1 + 1) = some ⟨[.bool false, .nilS], .own, 46⟩ := hget_ext (hget_at (by simp)) x4
        have hu1 : u.one = true := U.rd.rd.one
        have hc3 : u.cells = [u] := AV.cells_one hu1
        have hm := made_calls (decide (x < 0)) u zs H4 U.rd
        have hsg : (decide (x < 0) && decide (0 < zs.length)) = decide (x + y < 0) := by
          rw [Bool.eq_iff_iff]; simp only [Bool.and_eq_true, decide_eq_true_iff]; omega
        rw [hsg] at hm
        repeat' first
          | (with_reducible first | refine AWp_ret ?_)
          | ((with_reducible refine ECall_intro (hm) ?_); rintro _ _ ⟨rfl, rfl⟩)
          | (simp only [thenA, inBlockA, reduceIte, Nat.reduceEqDiff])
          | ((with_reducible refine hK _ _ ?_); clear hK)
          | (simp only [ACond, RA, EAtS_def, EAtX_def, wantedA, acall, astep, ev, ofValue, ofAtom, Nat.reduceEqDiff, Nat.reduceAdd, Nat.reduceMul, Nat.reduceSub, reduceCtorEq, reduceIte, aoptEv, abin, aint, ashift, aun, astr, aeqGuard, isConstOp, aconvH, aofStr, aconvSame, isU8, abuildSlice, afill, splice, azeros, Nat.reduceLeDiff, Nat.reduceLT, Int.reduceLE, Int.reduceLT, Int.reduceEq, Int.reduceToNat, Int.reducePow, IntKind.bits, Int.reduceNeg, RB, aalloc, Go.PW.dig_length, tf67RfH, q2, q3, q4])
          | (simp (disch := first | omega | (simp only [RO]; done) | assumption) only [RS, six44, gix44, bst46_e, bst46_01])
          | (simp (disch := (first | omega | (simp only [RO]; done) | assumption | (simp only [RM, Go.PW.dig_length]; done) | (simp only [RL, Go.PW.dig_length]; omega))) only [RD, reduceCtorEq, reduceIte, Go.PW.dig_length, Nat.reduceLeDiff, Nat.reduceAdd, Nat.reduceMul, Int.reduceToNat, tf67RfH, q2, q3, q4])
        have l4 := hget_lt q4
        (
         (refine AEnd_gen (rs := [.cell 4 46]) rfl ?_)
         (simp only [AEndR, aresults, Fr.put_some, Fr.put_none, fr0_zero, fr0_succ, fr0_nil, Nat.reduceEqDiff, reduceIte, hget_set l4])
         (try simp (disch := (first | omega | (simp only [RO]; done) | assumption | (simp only [RM, Go.PW.dig_length]; done) | (simp only [RL, Go.PW.dig_length]; omega))) only [RD, reduceCtorEq, reduceIte, Go.PW.dig_length, Nat.reduceLeDiff, Nat.reduceAdd, Nat.reduceMul, Int.reduceToNat, tf67RfH, hget_set l4]))
        exact ⟨u, rfl, ⟨zs, U.other q4 (by decide) _, C, vz2⟩, ((ext5 _ _ _).trans x4).set (by omega) _⟩
    · have e2 : (0 ≤ (val xs - val ys).sign) = False := eq_false (fun h => by have := Int.sign_nonneg_iff.mp h; omega)
      repeat' first
        | (with_reducible first | refine AWp_seq_k (fun K hK => ?_) | refine AWp_skip ?_ | refine AWp_regionE ?_ | refine AWp_drawE (id := 5) [] pn67_5RfH (by kernel_rfl) (by kernel_rfl) ?_ | refine AWp_condI ?_)
        | ((with_reducible refine ECall_intro (cmp_calls s t xs ys _ (ux.rd.ext (ext5 _ _ _)) (uy.rd.ext (ext5 _ _ _)) cx cy) ?_); rintro _ _ ⟨rfl, rfl⟩)
        | (with_reducible refine And.intro ?_ ?_)
        | (simp only [thenA, inBlockA, reduceIte, Nat.reduceEqDiff])
        | ((with_reducible refine hK _ _ ?_); clear hK)
        | (simp only [ACond, RA, EAtS_def, EAtX_def, wantedA, acall, astep, ev, ofValue, ofAtom, Nat.reduceEqDiff, Nat.reduceAdd, Nat.reduceMul, Nat.reduceSub, reduceCtorEq, reduceIte, aoptEv, abin, aint, ashift, aun, astr, aeqGuard, isConstOp, aconvH, aofStr, aconvSame, isU8, abuildSlice, afill, splice, azeros, Nat.reduceLeDiff, Nat.reduceLT, Int.reduceLE, Int.reduceLT, Int.reduceEq, Int.reduceToNat, Int.reducePow, IntKind.bits, Int.reduceNeg, RB, aalloc, Go.PW.dig_length, tf67RfH, e1b, e2])
        | (simp (disch := first | omega | (simp only [RO]; done) | assumption) only [RS, six44, gix44, bst46_e, bst46_01])
        | (simp (disch := (first | omega | (simp only [RO]; done) | assumption | (simp only [RM, Go.PW.dig_length]; done) | (simp only [RL, Go.PW.dig_length]; omega))) only [RD, reduceCtorEq, reduceIte, Go.PW.dig_length, Nat.reduceLeDiff, Nat.reduceAdd, Nat.reduceMul, Int.reduceToNat, tf67RfH, e1b, e2])
      all_goals
        refine ECall_intro (Rminus_calls t s ys xs _ (uy.rd.ext (ext5 _ _ _)) (ux.rd.ext (ext5 _ _ _)) cy.lim cx.lim (by omega) (cy.le cx (by omega)) (by omega)) ?_
        rintro u H4 ⟨zs, U, C, vz, x4⟩
        have vz2 : val zs = (x + y).natAbs := by rw [vz, vx, vy]; omega
        have hz := Bs_.nil (H := H4) (s := u) (x := x + y) C vz2
        have q2 : hget H4 H.length = some ⟨[.bool (decide (x < 0)), s], .own, 46⟩ := hget_ext (by rw [hget_old (by simp), hget_old (by simp), hget_at rfl]) x4
        have q3 : hget H4 (H.length + 1) = some ⟨[.bool (decide (y < 0)), t], .own, 46⟩ := hget_ext (by rw [hget_old (by simp), hget_at (by simp)]) x4
        have q4 : hget H4 (H.length + 1 + 1) = some ⟨[.bool false, .nilS], .own, 46⟩ := hget_ext (hget_at (by simp)) x4
        have hu1 : u.one = true := U.rd.rd.one
        have hc3 : u.cells = [u] := AV.cells_one hu1
        have hm := made_calls (decide (y < 0)) u zs H4 U.rd
        have hsg : (decide (y < 0) && decide (0 < zs.length)) = decide (x + y < 0) := by
          rw [Bool.eq_iff_iff]; simp only [Bool.and_eq_true, decide_eq_true_iff]; omega
        rw [hsg] at hm
        repeat' first
          | (with_reducible first | refine AWp_ret ?_)
          | ((with_reducible refine ECall_intro (hm) ?_); rintro _ _ ⟨rfl, rfl⟩)
          | (simp only [thenA, inBlockA, reduceIte, Nat.reduceEqDiff])
          | ((with_reducible refine hK _ _ ?_); clear hK)
          | (simp only [ACond, RA, EAtS_def, EAtX_def, wantedA, acall, astep, ev, ofValue, ofAtom, Nat.reduceEqDiff, Nat.reduceAdd, Nat.reduceMul, Nat.reduceSub, reduceCtorEq, reduceIte, aoptEv, abin, aint, ashift, aun, astr, aeqGuard, isConstOp, aconvH, aofStr, aconvSame, isU8, abuildSlice, afill, splice, azeros, Nat.reduceLeDiff, Nat.reduceLT, Int.reduceLE, Int.reduceLT, Int.reduceEq, Int.reduceToNat, Int.reducePow, IntKind.bits, Int.reduceNeg, RB, aalloc, Go.PW.dig_length, tf67RfH, q2, q3, q4])
          | (simp (disch := first | omega | (simp only [RO]; done) | assumption) only [RS, six44, gix44, bst46_e, bst46_01])
          | (simp (disch := (first | omega | (simp only [RO]; done) | assumption | (simp only [RM, Go.PW.dig_length]; done) | (simp only [RL, Go.PW.dig_length]; omega))) only [RD, reduceCtorEq, reduceIte, Go.PW.dig_length, Nat.reduceLeDiff, Nat.reduceAdd, Nat.reduceMul, Int.reduceToNat, tf67RfH, q2, q3, q4])
        have l4 := hget_lt q4
        (
         (refine AEnd_gen (rs := [.cell 4 46]) rfl ?_)
         (simp only [AEndR, aresults, Fr.put_some, Fr.put_none, fr0_zero, fr0_succ, fr0_nil, Nat.reduceEqDiff, reduceIte, hget_set l4])
         (try simp (disch := (first | omega | (simp only [RO]; done) | assumption | (simp only [RM, Go.PW.dig_length]; done) | (simp only [RL, Go.PW.dig_length]; omega))) only [RD, reduceCtorEq, reduceIte, Go.PW.dig_length, Nat.reduceLeDiff, Nat.reduceAdd, Nat.reduceMul, Int.reduceToNat, tf67RfH, hget_set l4]))
        exact ⟨u, rfl, ⟨zs, U.other q4 (by decide) _, C, vz2⟩, ((ext5 _ _ _).trans x4).set (by omega) _⟩
end Go.Proofs.YtfalfmfkifemeaaGreatDoor

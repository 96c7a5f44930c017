/- Part 20 of the proof of laws of this seat: lemmas on the model's code, on this program's functions, on numbers. No condition. -/
import Derived.Test.YtfalfmfkifemeaaDoorZDiaas
set_option linter.unusedVariables false
set_option linter.unusedSimpArgs false
namespace Go.Proofs.YtfalfmfkifemeaaDoor
open Go.AL Go.PW
set_option maxRecDepth 8000
theorem make_u64 (H : Hp) (n : Nat) (l : IntKind) (hn : n < 1000000) : amakeSlice Tryd.prog H 27 (.int l (n : Int)) (.int l (n : Int)) = some (.sl H.length 0 n n, H ++ [Ub (List.replicate n 0)]) := by
  have e : azeros [AV.int .u64 0] n = (List.replicate n (0 : Int)).map (AV.int .u64) := by
    unfold azeros
    induction n with
    | zero => rfl
    | succ n ih => rw [List.replicate_succ, List.flatten_cons, ih (by omega)]; rfl
  have hc : (AV.int .u64 0).cells = [AV.int .u64 0] := rfl
  simp only [amakeSlice, und27, size34, zero34, bytes34, hc]
  rw [if_pos ⟨rfl, rfl, by decide, by omega, by omega, by omega, by omega⟩, Int.toNat_natCast, e]
theorem store_u64 {H : Hp} {h : Nat} {xs : List Int} (hg : hget H h = some (Ub xs)) {i : Nat} (hi : i < xs.length) (x : Int) : astore Tryd.prog H 34 (.ptr h i) (.int .u64 x) = some (H.set h (Ub (xs.set i x))) := by
  rw [astore_ptr, hg]
  simp only [size34]
  have hc : (AV.int .u64 x).cells = [AV.int .u64 x] := rfl
  rw [if_pos ⟨trivial, rfl, rfl, by rw [map_len]; exact hi⟩, hc, splice_set (AV.int .u64) xs x hi]
theorem tl_zero (xs : List Int) : ∀ k i, tl xs k ≤ i → i < k → xs.getD i 0 = 0
  | 0, i, _, h => by omega
  | k + 1, i, h1, h2 => by
    by_cases hx : xs.getD k 0 = 0
    · rw [tl_z hx] at h1
      by_cases e : i = k
      · rw [e]; exact hx
      · exact tl_zero xs k i h1 (by omega)
    · rw [tl_nz hx] at h1; omega
theorem tl_top (xs : List Int) : ∀ k, tl xs k ≠ 0 → xs.getD (tl xs k - 1) 0 ≠ 0
  | 0, h => absurd rfl h
  | k + 1, h => by
    by_cases hx : xs.getD k 0 = 0
    · rw [tl_z hx] at h ⊢; exact tl_top xs k h
    · rw [tl_nz hx]; exact hx
theorem val_noughts : ∀ (xs : List Int), (∀ x ∈ xs, x = 0) → val xs = 0
  | [], _ => rfl
  | x :: xs, h => by
    rw [show val (x :: xs) = x + Bs * val xs from rfl, h x (List.mem_cons_self ..), val_noughts xs fun y hy => h y (List.mem_cons_of_mem _ hy)]
    simp
theorem tl_val (xs : List Int) (k : Nat) (hk : k ≤ xs.length) : val (xs.take (tl xs k)) = val (xs.take k) := by
  have hl := tl_le xs k
  have h := val_take_drop (xs.take k) (tl xs k)
  rw [List.take_take, Nat.min_eq_left hl] at h
  rw [h, val_noughts ((xs.take k).drop (tl xs k))]
  · simp
  · intro x hx
    obtain ⟨i, hi, rfl⟩ := List.mem_iff_getElem.1 hx
    rw [List.length_drop, List.length_take] at hi
    have := tl_zero xs k (tl xs k + i) (by omega) (by omega)
    rw [List.getD_eq_getElem?_getD, List.getElem?_eq_getElem (by omega)] at this
    simpa using this
theorem tl_can {xs : List Int} (h : Limbs xs) (k : Nat) (hk : k ≤ xs.length) (hl : k < 100000) : Can (xs.take (tl xs k)) := by
  have hle := tl_le xs k
  refine ⟨h.take _, ?_, by rw [List.length_take]; omega⟩
  by_cases e : tl xs k = 0
  · left; rw [e]; rfl
  · right
    rw [List.length_take, Nat.min_eq_left (by omega), List.getD_eq_getElem?_getD, List.getElem?_take, if_pos (by omega), ← List.getD_eq_getElem?_getD]
    exact tl_top xs k e
/-- A slice of the front of a block of limbs. -/
theorem Uv.front {H : Hp} {h k c : Nat} {xs : List Int} (hg : hget H h = some (Ub xs)) (hk : k ≤ xs.length) (hkc : k ≤ c) : Uv H (.sl h 0 k c) (xs.take k) := by
  refine ⟨?_, .inr ⟨_, hg, rfl⟩⟩
  have hlen : (xs.take k).length = k := by rw [List.length_take]; omega
  show Rd H 1 _ _ _
  rw [hlen]
  refine ⟨?_, hkc⟩
  simp only [arow, hg]
  rw [if_neg (by decide), if_pos (by rw [map_len]; omega), List.drop_zero, ← List.map_take, Nat.mul_one]
theorem getD_zero {xs : List Int} {i : Nat} (h : xs.length ≤ i) : xs.getD i 0 = 0 := by
  rw [List.getD_eq_getElem?_getD, List.getElem?_eq_none h]; rfl
theorem val_take_any (xs : List Int) (i : Nat) : val (xs.take (i + 1)) = val (xs.take i) + Bs ^ i * xs.getD i 0 := by
  rcases Nat.lt_or_ge i xs.length with h | h
  · exact val_take_succ xs h
  · rw [List.take_of_length_le h, List.take_of_length_le (by omega), getD_zero h]; simp
theorem pow_mono {a b : Nat} (h : a ≤ b) : Bs ^ a ≤ Bs ^ b := by
  obtain ⟨d, rfl⟩ := Nat.exists_eq_add_of_le h
  rw [Int.pow_add]
  have h4 : (0 : Int) < Bs ^ d := Int.pow_pos (by decide)
  have h5 : (0 : Int) ≤ Bs ^ a := Int.le_of_lt (Int.pow_pos (by decide))
  have := Int.mul_le_mul_of_nonneg_left (show (1 : Int) ≤ Bs ^ d by omega) h5
  omega
end Go.Proofs.YtfalfmfkifemeaaDoor
set_option linter.unusedVariables false
set_option linter.unusedSimpArgs false
namespace Go.Proofs.YtfalfmfkifemeaaDoor
open Go.AL Go.PW
theorem tf25RfE : type_of% (And.intro @tyb3 (And.intro @tyb27 (@tyb34))) := And.intro @tyb3 (And.intro @tyb27 (@tyb34))
abbrev pn25_9RfE : Plan := (.one 0 (.one 1 (.one 2 (.one 3 (.one 4 (.one 5 (.one 6 (.one 7 (.one 8 (.one 9 (.one 10 (.one 11 (.one 12 (.one 13 .nil))))))))))))))
set_option maxRecDepth 8000
/-- One limb times one, and two more: two limbs hold it. -/
theorem mac {a b o c : Int} (ha : 0 ≤ a ∧ a < Bs) (hb : 0 ≤ b ∧ b < Bs) (ho : 0 ≤ o ∧ o < Bs) (hc : 0 ≤ c ∧ c < Bs) :
    (0 ≤ a * b / Bs + (a * b % Bs + o) / Bs ∧ a * b / Bs + (a * b % Bs + o) / Bs < Bs) ∧
    (0 ≤ a * b / Bs + (a * b % Bs + o) / Bs + ((a * b % Bs + o) % Bs + c) / Bs ∧ a * b / Bs + (a * b % Bs + o) / Bs + ((a * b % Bs + o) % Bs + c) / Bs < Bs) ∧
    (0 ≤ ((a * b % Bs + o) % Bs + c) % Bs ∧ ((a * b % Bs + o) % Bs + c) % Bs < Bs) ∧
    (a * b / Bs + (a * b % Bs + o) / Bs + ((a * b % Bs + o) % Bs + c) / Bs) * Bs + ((a * b % Bs + o) % Bs + c) % Bs = a * b + o + c := by
  have h := mul_bound (x := a) (y := b) (p := Bs - 1) (q := Bs - 1) ⟨ha.1, by omega⟩ ⟨hb.1, by omega⟩
  have e : (Bs - 1) * (Bs - 1) = 340282366920938463426481119284349108225 := by decide
  rw [e] at h
  generalize a * b = p at *
  simp only [Bs] at *
  omega
theorem mac_step {xs ys os os0 : List Int} {i k : Nat} {c : Int} (hx : Limbs xs) (hy : Limbs ys) (ho : Limbs os) (hik : i + k < os.length) (hk : k < ys.length) (hc : 0 ≤ c ∧ c < Bs)
    (h : val os + Bs ^ (i + k) * c = val os0 + Bs ^ i * xs.getD i 0 * val (ys.take k)) (u v : Int) (hv : 0 ≤ v ∧ v < Bs) (he : u * Bs + v = xs.getD i 0 * ys.getD k 0 + os.getD (i + k) 0 + c) :
    Limbs (os.set (i + k) v) ∧ val (os.set (i + k) v) + Bs ^ (i + (k + 1)) * u = val os0 + Bs ^ i * xs.getD i 0 * val (ys.take (k + 1)) := by
  refine ⟨ho.set _ hv, ?_⟩
  rw [val_set _ hik, val_take_any, show i + (k + 1) = i + k + 1 by omega, Int.pow_succ, Int.mul_add, Int.pow_add]
  rw [Int.pow_add] at h
  have : v = xs.getD i 0 * ys.getD k 0 + os.getD (i + k) 0 + c - u * Bs := by omega
  rw [this]
  generalize Bs ^ i = p at *
  generalize Bs ^ k = q at *
  grind
set_option maxHeartbeats 4000000 in
theorem Rtimes_calls (s t : AV) (xs ys : List Int) (H : Hp) (hs : Ints H .u64 s xs) (ht : Ints H .u64 t ys) (hx : Limbs xs) (hy : Limbs ys) (lx : xs.length < 40000) (ly : ys.length < 40000) : ACalls Tryd.prog 25 [s, t] H fun r H' => ∃ zs, Uv H' r zs ∧ Can zs ∧ val zs = val xs * val ys ∧ Ext H H' := by
  have l1 := hs.rd.len und27
  have l2 := ht.rd.len und27
  obtain ⟨n, hn⟩ : ∃ n, n = xs.length + ys.length := ⟨_, rfl⟩
  have w0 : IntKind.i64.wrap ((xs.length : Int) + (ys.length : Int)) = (n : Int) := by rw [wrap_i64_id (by omega) (by omega)]; omega
  have hmk := fun H0 => make_u64 H0 n .i64 (by omega)
  refine ACalls_body Tryd.func25 rfl (by kernel_rfl) (by kernel_rfl) ?_
  repeat' first
    | (with_reducible first | refine AWp_seq_k (fun K hK => ?_) | refine AWp_block ?_ | refine AWp_regionE ?_)
    | (simp only [thenA, inBlockA, reduceIte, Nat.reduceEqDiff])
    | ((with_reducible refine hK _ _ ?_); clear hK)
    | (simp only [ACond, RA, EAtS_def, EAtX_def, wantedA, acall, astep, ev, ofValue, ofAtom, Nat.reduceEqDiff, Nat.reduceAdd, Nat.reduceMul, Nat.reduceSub, reduceCtorEq, reduceIte, aoptEv, abin, aint, ashift, aun, astr, aeqGuard, isConstOp, aconvH, aofStr, aconvSame, isU8, abuildSlice, afill, splice, azeros, Nat.reduceLeDiff, Nat.reduceLT, Int.reduceLE, Int.reduceLT, Int.reduceEq, Int.reduceToNat, Int.reducePow, IntKind.bits, Int.reduceNeg, RB, aalloc, Go.PW.dig_length, tf25RfE, l1, l2, w0, hmk])
  refine AWp_loop (fun m fr' H1 => ∃ (i : Nat) (os : List Int), m = xs.length - i ∧ i ≤ xs.length ∧ fr' 0 = s ∧ fr' 1 = t ∧ fr' 5 = .sl H.length 0 n n ∧ fr' 6 = .int .i64 (i : Int) ∧ os.length = n ∧ Limbs os ∧ (∀ j, i + ys.length ≤ j → os.getD j 0 = 0) ∧ val os = val (xs.take i) * val ys ∧ H ++ [Ub os] = H1) (m := xs.length)
    ⟨0, List.replicate n 0, by omega, by omega, rfl, rfl, rfl, rfl, by simp, Limbs.replicate n, fun j _ => by simp [List.getD, List.getElem?_replicate]; split <;> rfl, by rw [val_replicate]; simp [val], rfl⟩ ?_
  rintro m fr' H1 ⟨i, os, rfl, hi, k0, k1, k5, k6, hol, hos, hz, hv, rfl⟩
  by_cases hlt : i < xs.length
  · have e1 : IntKind.i64.wrap ((i : Int) + 1) = ((i + 1 : Nat) : Int) := by rw [wrap_i64_id (by omega) (by omega)]; omega
    have e2 : IntKind.i64.wrap ((i : Int) + (ys.length : Int)) = ((i + ys.length : Nat) : Int) := by rw [wrap_i64_id (by omega) (by omega)]; omega
    repeat' first
      | (with_reducible first | refine AWp_seq_k (fun K hK => ?_) | refine AWp_block ?_ | refine AWp_skip ?_ | refine AWp_regionE ?_ | refine AWp_condI ?_)
      | (with_reducible refine AIte (fun hc => ?_) (fun hc => ?_) <;> (try simp only [RC] at hc) <;> (try (exfalso; first | omega | contradiction)))
      | (simp only [thenA, inBlockA, reduceIte, Nat.reduceEqDiff])
      | ((with_reducible refine hK _ _ ?_); clear hK)
      | (simp only [ACond, RA, EAtS_def, EAtX_def, wantedA, acall, astep, ev, ofValue, ofAtom, Nat.reduceEqDiff, Nat.reduceAdd, Nat.reduceMul, Nat.reduceSub, reduceCtorEq, reduceIte, aoptEv, abin, aint, ashift, aun, astr, aeqGuard, isConstOp, aconvH, aofStr, aconvSame, isU8, abuildSlice, afill, splice, azeros, Nat.reduceLeDiff, Nat.reduceLT, Int.reduceLE, Int.reduceLT, Int.reduceEq, Int.reduceToNat, Int.reducePow, IntKind.bits, Int.reduceNeg, RB, aalloc, Go.PW.dig_length, tf25RfE, l1, l2, k0, k1, k5, k6])
    refine AWp_loop (fun m fr' H1 => ∃ (k : Nat) (os1 : List Int) (c : Int), m = ys.length - k ∧ k ≤ ys.length ∧ fr' 0 = s ∧ fr' 1 = t ∧ fr' 5 = .sl H.length 0 n n ∧ fr' 6 = .int .i64 (i : Int) ∧ fr' 7 = .int .u64 c ∧ fr' 8 = .int .i64 (k : Int) ∧ os1.length = n ∧ Limbs os1 ∧ (0 ≤ c ∧ c < Bs) ∧ (∀ j, i + ys.length ≤ j → os1.getD j 0 = 0) ∧ val os1 + Bs ^ (i + k) * c = val os + Bs ^ i * xs.getD i 0 * val (ys.take k) ∧ H ++ [Ub os1] = H1) (m := ys.length)
      ⟨0, os, 0, by omega, by omega, k0, k1, k5, k6, rfl, rfl, hol, hos, ⟨by omega, by decide⟩, hz, by simp [val], rfl⟩ ?_
    rintro m fr' H1 ⟨k, os1, c, rfl, hk, k0, k1, k5, k6, k7, k8, hol1, hos1, hcc, hz1, hv1, rfl⟩
    have hg : hget (H ++ [Ub os1]) H.length = some (Ub os1) := hget_at rfl
    by_cases hkl : k < ys.length
    · have e3 : IntKind.i64.wrap ((k : Int) + 1) = ((k + 1 : Nat) : Int) := by rw [wrap_i64_id (by omega) (by omega)]; omega
      have e4 : IntKind.i64.wrap ((i : Int) + (k : Int)) = ((i + k : Nat) : Int) := by rw [wrap_i64_id (by omega) (by omega)]; omega
      have ha := hx.get i
      have hb := hy.get k
      have ho := hos1.get (i + k)
      have hM := mul64_calls (xs.getD i 0) (ys.getD k 0) (H ++ [Ub os1]) ha hb
      have ld := load_u64 hg (i := i + k) (by omega)
      obtain ⟨m1, m2, m3, m4⟩ := mac ha hb ho hcc
      obtain ⟨q1, q2⟩ := mac_step hx hy hos1 (by omega) hkl hcc hv1 _ _ m3 m4
      have w1 := u64_in m1.1 m1.2
      have w2 := u64_in m2.1 m2.2
      have st := store_u64 hg (i := i + k) (by omega) (((xs.getD i 0 * ys.getD k 0 % Bs + os1.getD (i + k) 0) % Bs + c) % Bs)
      have hp0 : 0 ≤ xs.getD i 0 * ys.getD k 0 % Bs := Int.emod_nonneg _ (by decide)
      have hp1 : 0 ≤ (xs.getD i 0 * ys.getD k 0 % Bs + os1.getD (i + k) 0) % Bs := Int.emod_nonneg _ (by decide)
      have hset : ∀ z, (H ++ [Ub os1]).set H.length (Ub (os1.set (i + k) z)) = H ++ [Ub (os1.set (i + k) z)] := fun z => by
        rw [List.set_append_right _ _ (Nat.le_refl _), Nat.sub_self]; rfl
      rw [hset] at st
      have hzo : (0 : Int) ≤ 0 ∧ (0 : Int) ≤ 1 := ⟨by omega, by omega⟩
      repeat' first
        | (with_reducible first | refine AWp_seq_k (fun K hK => ?_) | refine AWp_block ?_ | refine AWp_skip ?_ | refine AWp_regionE ?_ | refine AWp_drawE (id := 9) [] pn25_9RfE (by kernel_rfl) (by kernel_rfl) ?_ | refine AWp_condI ?_)
        | ((with_reducible refine ECall_intro (hM) ?_); rintro _ _ ⟨rfl, rfl⟩)
        | ((with_reducible refine ECall_introX (add64 _ _ _ _ hp0 ho.1 hzo) ?_); rintro _ _ ⟨rfl, rfl⟩)
        | ((with_reducible refine ECall_introX (add64 _ _ _ _ hp1 hcc.1 hzo) ?_); rintro _ _ ⟨rfl, rfl⟩)
        | (with_reducible refine AIte (fun hc => ?_) (fun hc => ?_) <;> (try simp only [RC] at hc) <;> (try (exfalso; first | omega | contradiction)))
        | (simp only [thenA, inBlockA, reduceIte, Nat.reduceEqDiff])
        | ((with_reducible refine hK _ _ ?_); clear hK)
        | (simp only [ACond, RA, EAtS_def, EAtX_def, wantedA, acall, astep, ev, ofValue, ofAtom, Nat.reduceEqDiff, Nat.reduceAdd, Nat.reduceMul, Nat.reduceSub, reduceCtorEq, reduceIte, aoptEv, abin, aint, ashift, aun, astr, aeqGuard, isConstOp, aconvH, aofStr, aconvSame, isU8, abuildSlice, afill, splice, azeros, Nat.reduceLeDiff, Nat.reduceLT, Int.reduceLE, Int.reduceLT, Int.reduceEq, Int.reduceToNat, Int.reducePow, IntKind.bits, Int.reduceNeg, RB, aalloc, Go.PW.dig_length, tf25RfE, l1, l2, k0, k1, k5, k6, k7, k8, e3, e4, ld, st, w1, w2, Int.add_zero])
        | (simp (disch := first | omega | (simp only [RO]; done) | assumption) only [RS, hs.rd.at1 und27 size34, (hs.push _).load1 agg34, ht.rd.at1 und27 size34, (ht.push _).load1 agg34, six27, gix27])
      all_goals exact ⟨_, by omega, k + 1, _, _, rfl, by omega, rfl, rfl, by rw [List.length_set]; exact hol1, q1, m2, fun j hj => by rw [getD_set _ _ (by omega), if_neg (by omega)]; exact hz1 j hj, q2, rfl⟩
    · obtain rfl : ys.length = k := by omega
      have st := store_u64 hg (i := i + ys.length) (by omega) c
      have hset : ∀ z, (H ++ [Ub os1]).set H.length (Ub (os1.set (i + ys.length) z)) = H ++ [Ub (os1.set (i + ys.length) z)] := fun z => by
        rw [List.set_append_right _ _ (Nat.le_refl _), Nat.sub_self]; rfl
      rw [hset] at st
      repeat' first
        | (with_reducible first | refine AWp_seq_k (fun K hK => ?_) | refine AWp_exit ?_ | refine AWp_regionE ?_ | refine AWp_condI ?_)
        | (with_reducible refine AIte (fun hc => ?_) (fun hc => ?_) <;> (try simp only [RC] at hc) <;> (try (exfalso; first | omega | contradiction)))
        | (simp only [thenA, inBlockA, reduceIte, Nat.reduceEqDiff])
        | ((with_reducible refine hK _ _ ?_); clear hK)
        | (clear hK; (with_reducible refine hK _ _ ?_); clear hK)
        | (simp only [ACond, RA, EAtS_def, EAtX_def, wantedA, acall, astep, ev, ofValue, ofAtom, Nat.reduceEqDiff, Nat.reduceAdd, Nat.reduceMul, Nat.reduceSub, reduceCtorEq, reduceIte, aoptEv, abin, aint, ashift, aun, astr, aeqGuard, isConstOp, aconvH, aofStr, aconvSame, isU8, abuildSlice, afill, splice, azeros, Nat.reduceLeDiff, Nat.reduceLT, Int.reduceLE, Int.reduceLT, Int.reduceEq, Int.reduceToNat, Int.reducePow, IntKind.bits, Int.reduceNeg, RB, aalloc, Go.PW.dig_length, tf25RfE, l1, l2, k0, k1, k5, k6, k7, k8, e1, e2, st])
        | (simp (disch := first | omega | (simp only [RO]; done) | assumption) only [RS, six27, gix27])
      all_goals
        refine ⟨_, by omega, i + 1, _, rfl, by omega, rfl, by rw [List.length_set]; exact hol1, hos1.set _ hcc, fun j hj => by rw [getD_set _ _ (by omega), if_neg (by omega)]; exact hz1 j (by omega), ?_, rfl⟩
        rw [List.take_length] at hv1
        rw [val_set _ (by omega), hz1 _ (Nat.le_refl _), Int.sub_zero, hv1, hv, val_take_any, Int.add_mul]
  · obtain rfl : xs.length = i := by omega
    have hg : hget (H ++ [Ub os]) H.length = some (Ub os) := hget_at rfl
    have htr := trim_calls H.length n n os (H ++ [Ub os]) hg (by omega) (Nat.le_refl _) (by omega)
    repeat' first
      | (with_reducible first | refine AWp_seq_k (fun K hK => ?_) | refine AWp_exit ?_ | refine AWp_ret ?_ | refine AWp_regionE ?_ | refine AWp_condI ?_)
      | ((with_reducible refine ECall_intro (htr) ?_); rintro _ _ ⟨rfl, rfl⟩)
      | (with_reducible refine AIte (fun hc => ?_) (fun hc => ?_) <;> (try simp only [RC] at hc) <;> (try (exfalso; first | omega | contradiction)))
      | (simp only [thenA, inBlockA, reduceIte, Nat.reduceEqDiff])
      | ((with_reducible refine hK _ _ ?_); clear hK)
      | (clear hK; (with_reducible refine hK _ _ ?_); clear hK)
      | (simp only [ACond, RA, EAtS_def, EAtX_def, wantedA, acall, astep, ev, ofValue, ofAtom, Nat.reduceEqDiff, Nat.reduceAdd, Nat.reduceMul, Nat.reduceSub, reduceCtorEq, reduceIte, aoptEv, abin, aint, ashift, aun, astr, aeqGuard, isConstOp, aconvH, aofStr, aconvSame, isU8, abuildSlice, afill, splice, azeros, Nat.reduceLeDiff, Nat.reduceLT, Int.reduceLE, Int.reduceLT, Int.reduceEq, Int.reduceToNat, Int.reducePow, IntKind.bits, Int.reduceNeg, RB, aalloc, Go.PW.dig_length, tf25RfE, l1, k0, k1, k5, k6])
    all_goals
      (
       (refine AEnd_gen (rs := [.tmp 4]) rfl ?_)
       (simp only [AEndR, aresults, Fr.put_some, Fr.put_none, fr0_zero, fr0_succ, fr0_nil, Nat.reduceEqDiff, reduceIte])
       (try simp (disch := (first | omega | (simp only [RO]; done) | assumption | (simp only [RM, Go.PW.dig_length]; done) | (simp only [RL, Go.PW.dig_length]; omega))) only [RD, reduceCtorEq, reduceIte, Go.PW.dig_length, Nat.reduceLeDiff, Nat.reduceAdd, Nat.reduceMul, Int.reduceToNat, tf25RfE]))
    have hall : os.take n = os := List.take_of_length_le (by omega)
    rw [List.take_length] at hv
    all_goals
      refine ⟨os.take (tl os n), Uv.front hg (by have := tl_le os n; omega) (tl_le os n), tl_can hos n (by omega) (by omega), ?_, Ext.push _ _⟩
      rw [tl_val _ _ (by omega), hall]
      exact hv
end Go.Proofs.YtfalfmfkifemeaaDoor
set_option linter.unusedVariables false
set_option linter.unusedSimpArgs false
namespace Go.Proofs.YtfalfmfkifemeaaDoor
open Go.AL Go.PW
theorem tf7RfF : type_of% (And.intro @tyb2 (And.intro @tyb4 (And.intro @tyb27 (And.intro @tyb28 (And.intro @tyb29 (And.intro @tyb34 (@cv2_34))))))) := And.intro @tyb2 (And.intro @tyb4 (And.intro @tyb27 (And.intro @tyb28 (And.intro @tyb29 (And.intro @tyb34 (@cv2_34))))))
set_option maxRecDepth 8000
theorem Can.single {x : Int} (h0 : 0 < x) (h : x < Bs) : Can [x] := ⟨fun y hy => by simp at hy; subst hy; omega, .inr (by simp; omega), by simp⟩
theorem Can.nil : Can [] := ⟨Limbs.nil, .inl rfl, by simp⟩
set_option maxHeartbeats 2000000 in
theorem Of_calls (v : Int) (H : Hp) (hv : -9223372036854775808 ≤ v ∧ v ≤ 9223372036854775807) : ACalls Tryd.prog 7 [.int .i64 v] H fun r H' => ∃ s, r = BV v s ∧ Bs_ H' s v ∧ Ext H H' := by
  refine ACalls_body Tryd.func7 rfl (by kernel_rfl) (by kernel_rfl) ?_
  by_cases hn : v < 0
  · have e1 : (v < 0) = True := eq_true hn
    have w1 : IntKind.i64.wrap (v + 1) = v + 1 := wrap_i64_id (by omega) (by omega)
    have w2 : IntKind.i64.wrap (0 - (v + 1)) = -(v + 1) := by rw [wrap_i64_id (by omega) (by omega)]; omega
    have w3 : IntKind.u64.wrap (-(v + 1)) = -(v + 1) := u64_in (by omega) (by simp only [Bs]; omega)
    have w4 : IntKind.u64.wrap (-(v + 1) + 1) = -v := by rw [u64_in (by omega) (by simp only [Bs]; omega)]; omega
    have hg : hget (H ++ [⟨[.bool false, .nilS], .own, 29⟩] ++ [⟨[.int .u64 (-v)], .own, 34⟩]) (H.length + 1) = some (Ub [-v]) := hget_at (by simp)
    have hu := Uv.front (k := 1) (c := 1) hg (by simp) (Nat.le_refl _)
    have hm := made_calls true _ _ _ hu.rd
    rw [show (true && decide (0 < ([-v].take 1).length)) = true from rfl] at hm
    have hb : (decide (v < 0)) = true := decide_eq_true hn
    repeat' first
      | (with_reducible first | refine AWp_seq_k (fun K hK => ?_) | refine AWp_ret ?_ | refine AWp_regionE ?_ | refine AWp_condI ?_)
      | ((with_reducible refine ECall_intro (hm) ?_); rintro _ _ ⟨rfl, rfl⟩)
      | (simp only [thenA, inBlockA, reduceIte, Nat.reduceEqDiff])
      | ((with_reducible refine hK _ _ ?_); clear hK)
      | (simp only [ACond, RA, EAtS_def, EAtX_def, wantedA, acall, astep, ev, ofValue, ofAtom, Nat.reduceEqDiff, Nat.reduceAdd, Nat.reduceMul, Nat.reduceSub, reduceCtorEq, reduceIte, aoptEv, abin, aint, ashift, aun, astr, aeqGuard, isConstOp, aconvH, aofStr, aconvSame, isU8, abuildSlice, afill, splice, azeros, Nat.reduceLeDiff, Nat.reduceLT, Int.reduceLE, Int.reduceLT, Int.reduceEq, Int.reduceToNat, Int.reducePow, IntKind.bits, Int.reduceNeg, RB, aalloc, Go.PW.dig_length, tf7RfF, e1, w1, w2, w3, w4])
      | (simp (disch := (first | omega | (simp only [RO]; done) | assumption | (simp only [RM, Go.PW.dig_length]; done) | (simp only [RL, Go.PW.dig_length]; omega))) only [RD, reduceCtorEq, reduceIte, Go.PW.dig_length, Nat.reduceLeDiff, Nat.reduceAdd, Nat.reduceMul, Int.reduceToNat, tf7RfF, e1, w1, w2, w3, w4])
    all_goals
      (
       (refine AEnd_gen (rs := [.cell 2 29]) rfl ?_)
       (simp only [AEndR, aresults, Fr.put_some, Fr.put_none, fr0_zero, fr0_succ, fr0_nil, Nat.reduceEqDiff, reduceIte])
       (try simp (disch := (first | omega | (simp only [RO]; done) | assumption | (simp only [RM, Go.PW.dig_length]; done) | (simp only [RL, Go.PW.dig_length]; omega))) only [RD, reduceCtorEq, reduceIte, Go.PW.dig_length, Nat.reduceLeDiff, Nat.reduceAdd, Nat.reduceMul, Int.reduceToNat, tf7RfF]))
    all_goals exact ⟨_, by rw [show BV v (AV.sl (H.length + 1) 0 1 1) = AV.agg [.bool (decide (v < 0)), AV.sl (H.length + 1) 0 1 1] from rfl, hb], ⟨[-v], Uv.front (k := 1) (c := 1) (xs := [-v]) (hget_at (by simp)) (by simp) (Nat.le_refl _), Can.single (by omega) (by simp only [Bs]; omega), by simp only [val]; omega⟩, (Ext.push _ _).pushed _⟩
  · have e1 : (v < 0) = False := eq_false hn
    have w3 : IntKind.u64.wrap v = v := u64_in (by omega) (by simp only [Bs]; omega)
    have hg : hget (H ++ [⟨[.bool false, .nilS], .own, 29⟩] ++ [⟨[.int .u64 v], .own, 34⟩]) (H.length + 1) = some (Ub [v]) := hget_at (by simp)
    have htr := trim_calls (H.length + 1) 1 1 [v] _ hg (by simp) (Nat.le_refl _) (by omega)
    have hu := Uv.front (k := tl [v] 1) (c := 1) hg (tl_le [v] 1) (tl_le [v] 1)
    have hm := made_calls false _ _ _ hu.rd
    rw [Bool.false_and] at hm
    repeat' first
      | (with_reducible first | refine AWp_seq_k (fun K hK => ?_) | refine AWp_skip ?_ | refine AWp_ret ?_ | refine AWp_regionE ?_ | refine AWp_condI ?_)
      | ((with_reducible refine ECall_intro (htr) ?_); rintro _ _ ⟨rfl, rfl⟩)
      | ((with_reducible refine ECall_intro (hm) ?_); rintro _ _ ⟨rfl, rfl⟩)
      | (simp only [thenA, inBlockA, reduceIte, Nat.reduceEqDiff])
      | ((with_reducible refine hK _ _ ?_); clear hK)
      | (simp only [ACond, RA, EAtS_def, EAtX_def, wantedA, acall, astep, ev, ofValue, ofAtom, Nat.reduceEqDiff, Nat.reduceAdd, Nat.reduceMul, Nat.reduceSub, reduceCtorEq, reduceIte, aoptEv, abin, aint, ashift, aun, astr, aeqGuard, isConstOp, aconvH, aofStr, aconvSame, isU8, abuildSlice, afill, splice, azeros, Nat.reduceLeDiff, Nat.reduceLT, Int.reduceLE, Int.reduceLT, Int.reduceEq, Int.reduceToNat, Int.reducePow, IntKind.bits, Int.reduceNeg, RB, aalloc, Go.PW.dig_length, tf7RfF, e1, w3])
      | (simp (disch := (first | omega | (simp only [RO]; done) | assumption | (simp only [RM, Go.PW.dig_length]; done) | (simp only [RL, Go.PW.dig_length]; omega))) only [RD, reduceCtorEq, reduceIte, Go.PW.dig_length, Nat.reduceLeDiff, Nat.reduceAdd, Nat.reduceMul, Int.reduceToNat, tf7RfF, e1, w3])
    all_goals
      (
       (refine AEnd_gen (rs := [.cell 2 29]) rfl ?_)
       (simp only [AEndR, aresults, Fr.put_some, Fr.put_none, fr0_zero, fr0_succ, fr0_nil, Nat.reduceEqDiff, reduceIte])
       (try simp (disch := (first | omega | (simp only [RO]; done) | assumption | (simp only [RM, Go.PW.dig_length]; done) | (simp only [RL, Go.PW.dig_length]; omega))) only [RD, reduceCtorEq, reduceIte, Go.PW.dig_length, Nat.reduceLeDiff, Nat.reduceAdd, Nat.reduceMul, Int.reduceToNat, tf7RfF]))
    have hb : (decide (v < 0)) = false := decide_eq_false hn
    have hL : Limbs [v] := fun y hy => by simp at hy; subst hy; simp only [Bs]; omega
    all_goals exact ⟨_, by rw [show BV v (AV.sl (H.length + 1) 0 (tl [v] 1) 1) = AV.agg [.bool (decide (v < 0)), AV.sl (H.length + 1) 0 (tl [v] 1) 1] from rfl, hb], ⟨[v].take (tl [v] 1), Uv.front (k := tl [v] 1) (c := 1) (xs := [v]) (hget_at (by simp)) (tl_le [v] 1) (tl_le [v] 1), tl_can hL 1 (by simp) (by omega), by rw [tl_val _ _ (by simp)]; simp only [val, List.take]; omega⟩, (Ext.push _ _).pushed _⟩
end Go.Proofs.YtfalfmfkifemeaaDoor
set_option linter.unusedVariables false
set_option linter.unusedSimpArgs false
namespace Go.Proofs.YtfalfmfkifemeaaDoor
open Go.AL Go.PW
theorem tf9RfG : type_of% (And.intro @tyb4 (And.intro @tyb27 (And.intro @tyb28 (And.intro @tyb29 (@tyb34))))) := And.intro @tyb4 (And.intro @tyb27 (And.intro @tyb28 (And.intro @tyb29 (@tyb34))))
abbrev pn9_1RfG : Plan := (.one 0 (.one 2 (.one 5 (.one 6 (.one 7 (.one 8 (.alt 1 (.alt 3 (.one 4 (.one 9 (.one 10 (.one 11 .nil)))) (.one 9 (.one 3 (.one 4 (.one 10 (.one 11 .nil)))))) (.alt 3 (.alt 1 (.one 4 (.one 9 (.one 10 (.one 11 .nil)))) (.one 9 (.one 1 (.one 4 (.one 10 (.one 11 .nil)))))) (.one 9 (.one 1 (.one 3 (.one 4 (.one 10 (.one 11 .nil))))))))))))))
set_option maxRecDepth 8000
/-- Numbers of at most twenty limbs. -/
def Sm (x : Int) : Prop := (x.natAbs : Int) < Bs ^ 20
theorem Can.small {xs : List Int} (c : Can xs) (h : val xs < Bs ^ 20) : xs.length ≤ 20 := by
  rcases Nat.lt_or_ge xs.length 21 with h1 | h1
  · omega
  · have h2 := c.low (by omega)
    have h3 : Bs ^ 20 ≤ Bs ^ (xs.length - 1) := pow_mono (by omega)
    omega
theorem mul_sign (x y : Int) (n : Nat) (hn : n = 0 ↔ x * y = 0) : ((decide (x < 0) != decide (y < 0)) && decide (0 < n)) = decide (x * y < 0) := by
  rcases Int.lt_trichotomy x 0 with hx | hx | hx
  · rcases Int.lt_trichotomy y 0 with hy | hy | hy
    · have := Int.mul_pos_of_neg_of_neg hx hy
      simp [hx, hy]; omega
    · subst hy; simp at hn; simp [hn]
    · have h := Int.mul_neg_of_neg_of_pos hx hy
      have : ¬ n = 0 := fun e => by have := hn.1 e; omega
      have hy' : ¬ y < 0 := by omega
      simp [hx, hy', h]; omega
  · subst hx; simp at hn; simp [hn]
  · have hx' : ¬ x < 0 := by omega
    rcases Int.lt_trichotomy y 0 with hy | hy | hy
    · have h := Int.mul_neg_of_pos_of_neg hx hy
      have : ¬ n = 0 := fun e => by have := hn.1 e; omega
      simp [hx', hy, h]; omega
    · subst hy; simp at hn; simp [hn]
    · have := Int.mul_pos hx hy
      have hy' : ¬ y < 0 := by omega
      simp [hx', hy']; omega
theorem arow_same {H H' : Hp} {z : Nat} {v : AV} (h : hget H' v.hd = hget H v.hd) : arow H' z v = arow H z v := by
  cases v <;> simp only [arow] <;> (simp only [AV.hd] at h; rw [h])
theorem Uv.other {H : Hp} {s : AV} {xs : List Int} (u : Uv H s xs) {h : Nat} {b : Blk} (hg : hget H h = some b) (hb : b.ety ≠ 34) (b' : Blk) : Uv (H.set h b') s xs := by
  rcases u.ety with e | ⟨c, g, e⟩
  · subst e
    exact ⟨⟨u.rd.rd.row, u.rd.rd.fine⟩, .inl rfl⟩
  · have hne : s.hd ≠ h := fun e2 => by
      rw [e2, hg] at g; cases g; exact hb e
    have hs : hget (H.set h b') s.hd = hget H s.hd := by rw [hget_set (hget_lt hg), if_neg hne]
    exact ⟨⟨by rw [arow_same hs]; exact u.rd.rd.row, u.rd.rd.fine⟩, .inr ⟨c, by rw [hs]; exact g, e⟩⟩
theorem mul_sign2 (x y : Int) (n : Nat) (hn : n = 0 ↔ x * y = 0) : ((!(decide (x < 0) == decide (y < 0))) && decide (0 < n)) = decide (x * y < 0) := mul_sign x y n hn
set_option maxHeartbeats 2000000 in
theorem Rmul_calls (x y : Int) (s t : AV) (H : Hp) (hs : Bs_ H s x) (ht : Bs_ H t y) (bx : Sm x) (by_ : Sm y) : ACalls Tryd.prog 9 [BV x s, BV y t] H fun r H' => ∃ u, r = BV (x * y) u ∧ Bs_ H' u (x * y) ∧ Ext H H' := by
  obtain ⟨xs, ux, cx, vx⟩ := hs.ex
  obtain ⟨ys, uy, cy, vy⟩ := ht.ex
  have hs1 : s.one = true := ux.rd.rd.one
  have hc1 : s.cells = [s] := AV.cells_one hs1
  have ht1 : t.one = true := uy.rd.rd.one
  have hc2 : t.cells = [t] := AV.cells_one ht1
  have lx := cx.small (by rw [vx]; exact bx)
  have ly := cy.small (by rw [vy]; exact by_)
  refine ACalls_body Tryd.func9 rfl (by kernel_rfl) (by kernel_rfl) ?_
  repeat' first
    | (with_reducible first | refine AWp_seq_k (fun K hK => ?_) | refine AWp_regionE ?_ | refine AWp_drawE (id := 1) [] pn9_1RfG (by kernel_rfl) (by kernel_rfl) ?_)
    | (with_reducible refine And.intro ?_ ?_)
    | (simp only [thenA, inBlockA, reduceIte, Nat.reduceEqDiff])
    | ((with_reducible refine hK _ _ ?_); clear hK)
    | (simp only [ACond, RA, EAtS_def, EAtX_def, wantedA, acall, astep, ev, ofValue, ofAtom, Nat.reduceEqDiff, Nat.reduceAdd, Nat.reduceMul, Nat.reduceSub, reduceCtorEq, reduceIte, aoptEv, abin, aint, ashift, aun, astr, aeqGuard, isConstOp, aconvH, aofStr, aconvSame, isU8, abuildSlice, afill, splice, azeros, Nat.reduceLeDiff, Nat.reduceLT, Int.reduceLE, Int.reduceLT, Int.reduceEq, Int.reduceToNat, Int.reducePow, IntKind.bits, Int.reduceNeg, RB, aalloc, Go.PW.dig_length, tf9RfG])
    | (simp (disch := first | omega | (simp only [RO]; done) | assumption) only [RS, six27, gix27, bst29_01])
    | (simp (disch := (first | omega | (simp only [RO]; done) | assumption | (simp only [RM, Go.PW.dig_length]; done) | (simp only [RL, Go.PW.dig_length]; omega))) only [RD, reduceCtorEq, reduceIte, Go.PW.dig_length, Nat.reduceLeDiff, Nat.reduceAdd, Nat.reduceMul, Int.reduceToNat, tf9RfG])
  all_goals
    refine ECall_intro (Rtimes_calls s t xs ys _ (ux.rd.ext (ext5 _ _ _)) (uy.rd.ext (ext5 _ _ _)) cx.lim cy.lim (by omega) (by omega)) ?_
    rintro u H4 ⟨zs, U, C, vz, x4⟩
    have hz := Bs_.nil (H := H4) (s := u) (x := x * y) C (by rw [vz, vx, vy, Int.natAbs_mul]; push_cast; rfl)
    have q2 : hget H4 H.length = some ⟨[.bool (decide (x < 0)), s], .own, 29⟩ := hget_ext (by rw [hget_old (by simp), hget_old (by simp), hget_at rfl]) x4
    have q3 : hget H4 (H.length + 1) = some ⟨[.bool (decide (y < 0)), t], .own, 29⟩ := hget_ext (by rw [hget_old (by simp), hget_at (by simp)]) x4
    have q4 : hget H4 (H.length + 1 + 1) = some ⟨[.bool false, .nilS], .own, 29⟩ := hget_ext (hget_at (by simp)) x4
    have hu1 : u.one = true := U.rd.rd.one
    have hc3 : u.cells = [u] := AV.cells_one hu1
    have hm := made_calls (!(decide (x < 0) == decide (y < 0))) u zs H4 U.rd
    rw [mul_sign2 x y zs.length hz] at hm
    repeat' first
      | (with_reducible first | refine AWp_ret ?_)
      | ((with_reducible refine ECall_intro (hm) ?_); rintro _ _ ⟨rfl, rfl⟩)
      | (simp only [thenA, inBlockA, reduceIte, Nat.reduceEqDiff])
      | ((with_reducible refine hK _ _ ?_); clear hK)
      | (simp only [ACond, RA, EAtS_def, EAtX_def, wantedA, acall, astep, ev, ofValue, ofAtom, Nat.reduceEqDiff, Nat.reduceAdd, Nat.reduceMul, Nat.reduceSub, reduceCtorEq, reduceIte, aoptEv, abin, aint, ashift, aun, astr, aeqGuard, isConstOp, aconvH, aofStr, aconvSame, isU8, abuildSlice, afill, splice, azeros, Nat.reduceLeDiff, Nat.reduceLT, Int.reduceLE, Int.reduceLT, Int.reduceEq, Int.reduceToNat, Int.reducePow, IntKind.bits, Int.reduceNeg, RB, aalloc, Go.PW.dig_length, tf9RfG, q2, q3, q4])
      | (simp (disch := first | omega | (simp only [RO]; done) | assumption) only [RS, six27, gix27, bst29_01])
      | (simp (disch := (first | omega | (simp only [RO]; done) | assumption | (simp only [RM, Go.PW.dig_length]; done) | (simp only [RL, Go.PW.dig_length]; omega))) only [RD, reduceCtorEq, reduceIte, Go.PW.dig_length, Nat.reduceLeDiff, Nat.reduceAdd, Nat.reduceMul, Int.reduceToNat, tf9RfG, q2, q3, q4])
    have l4 := hget_lt q4
    have hxl : H.length + 1 + 1 < H4.length := l4
    (
     (refine AEnd_gen (rs := [.cell 4 29]) rfl ?_)
     (simp only [AEndR, aresults, Fr.put_some, Fr.put_none, fr0_zero, fr0_succ, fr0_nil, Nat.reduceEqDiff, reduceIte, hget_set l4])
     (try simp (disch := (first | omega | (simp only [RO]; done) | assumption | (simp only [RM, Go.PW.dig_length]; done) | (simp only [RL, Go.PW.dig_length]; omega))) only [RD, reduceCtorEq, reduceIte, Go.PW.dig_length, Nat.reduceLeDiff, Nat.reduceAdd, Nat.reduceMul, Int.reduceToNat, tf9RfG, hget_set l4]))
    exact ⟨u, rfl, ⟨zs, U.other q4 (by decide) _, C, by rw [vz, vx, vy, Int.natAbs_mul]; push_cast; rfl⟩, ((ext5 _ _ _).trans x4).set (by omega) _⟩
end Go.Proofs.YtfalfmfkifemeaaDoor
set_option linter.unusedVariables false
set_option linter.unusedSimpArgs false
namespace Go.Proofs.YtfalfmfkifemeaaDoor
open Go.AL Go.PW
set_option maxRecDepth 8000
theorem Can.le {xs ys : List Int} (cx : Can xs) (cy : Can ys) (h : val ys ≤ val xs) : ys.length ≤ xs.length := by
  rcases Nat.lt_or_ge xs.length ys.length with e | e
  · have := val_len_lt cx.lim cy e; omega
  · exact e
end Go.Proofs.YtfalfmfkifemeaaDoor
set_option linter.unusedVariables false
set_option linter.unusedSimpArgs false
namespace Go.Proofs.YtfalfmfkifemeaaDoor
open Go.AL Go.PW
set_option maxRecDepth 8000
theorem Sm.neg {x : Int} (h : Sm x) : Sm (-x) := by unfold Sm at *; rw [Int.natAbs_neg]; exact h
theorem Bs_.one {H : Hp} {s : AV} {x : Int} (h : Bs_ H s x) : s.one = true := by
  obtain ⟨xs, u, _⟩ := h.ex
  exact u.rd.rd.one
theorem Bs_.other {H : Hp} {s : AV} {x : Int} (h : Bs_ H s x) {k : Nat} {b : Blk} (hg : hget H k = some b) (hb : b.ety ≠ 34) (b' : Blk) : Bs_ (H.set k b') s x := by
  obtain ⟨xs, u, c⟩ := h.ex
  exact ⟨xs, u.other hg hb b', c⟩
theorem Sm.int {v : Int} (hv : -9223372036854775808 ≤ v ∧ v ≤ 9223372036854775807) : Sm v := by
  unfold Sm
  have h : Bs ^ 1 ≤ Bs ^ 20 := pow_mono (by omega)
  have h1 : Bs ^ 1 = 18446744073709551616 := by decide
  omega
end Go.Proofs.YtfalfmfkifemeaaDoor
set_option linter.unusedVariables false
set_option linter.unusedSimpArgs false
namespace Go.Proofs.YtfalfmfkifemeaaDoor
open Go.AL Go.PW
set_option maxRecDepth 8000
theorem Bs_.single {H : Hp} {s : AV} {x : Int} (h : Bs_ H s x) (hx : x ≠ 0) (hb : x.natAbs ≤ 9223372036854775808) : Ints H .u64 s [(x.natAbs : Int)] := by
  obtain ⟨xs, u, c, hv⟩ := h.ex
  have hz := Bs_.nil (H := H) (s := s) c hv
  have hl : xs.length < 2 := by
    rcases Nat.lt_or_ge xs.length 2 with h | h
    · exact h
    · have h1 := c.low (by omega)
      have h2 : Bs ^ 1 ≤ Bs ^ (xs.length - 1) := pow_mono (by omega)
      have h3 : Bs ^ 1 = 18446744073709551616 := by decide
      omega
  have hn : xs.length ≠ 0 := fun e => hx (hz.1 e)
  match xs, hl, hn, hv, u with
  | [m], _, _, hv, u =>
    simp only [val] at hv
    have : m = (x.natAbs : Int) := by omega
    rw [← this]; exact u.rd
end Go.Proofs.YtfalfmfkifemeaaDoor
set_option linter.unusedVariables false
set_option linter.unusedSimpArgs false
namespace Go.Proofs.YtfalfmfkifemeaaDoor
open Go.AL Go.PW
theorem tf50RfK : type_of% (And.intro @tyb3 (And.intro @tyb27 (@tyb34))) := And.intro @tyb3 (And.intro @tyb27 (@tyb34))
set_option maxRecDepth 8000
/-- How many bits. -/
def bits_ (xs : List Int) : Nat := if xs.length = 0 then 0 else 64 * (xs.length - 1) + bl (xs.getD (xs.length - 1) 0).toNat
set_option maxHeartbeats 2000000 in
theorem size_calls (s : AV) (xs : List Int) (H : Hp) (hs : Ints H .u64 s xs) (c : Can xs) : ACalls Tryd.prog 50 [s] H fun r H' => r = .int .i64 (bits_ xs : Nat) ∧ H = H' := by
  have hl := hs.rd.len und27
  have lx := c.len
  unfold bits_
  refine ACalls_body Tryd.func50 rfl (by kernel_rfl) (by kernel_rfl) ?_
  by_cases h0 : xs.length = 0
  · have e1 : ((xs.length : Int) = 0) = True := eq_true (by omega)
    rw [if_pos h0]
    repeat' first
      | (with_reducible first | refine AWp_seq_k (fun K hK => ?_) | refine AWp_ret ?_ | refine AWp_regionE ?_ | refine AWp_condI ?_)
      | (simp only [thenA, inBlockA, reduceIte, Nat.reduceEqDiff])
      | ((with_reducible refine hK _ _ ?_); clear hK)
      | (simp only [ACond, RA, EAtS_def, EAtX_def, wantedA, acall, astep, ev, ofValue, ofAtom, Nat.reduceEqDiff, Nat.reduceAdd, Nat.reduceMul, Nat.reduceSub, reduceCtorEq, reduceIte, aoptEv, abin, aint, ashift, aun, astr, aeqGuard, isConstOp, aconvH, aofStr, aconvSame, isU8, abuildSlice, afill, splice, azeros, Nat.reduceLeDiff, Nat.reduceLT, Int.reduceLE, Int.reduceLT, Int.reduceEq, Int.reduceToNat, Int.reducePow, IntKind.bits, Int.reduceNeg, RB, aalloc, Go.PW.dig_length, tf50RfK, hl, e1])
    all_goals
      (
       (refine AEnd_gen (rs := [.tmp 2]) rfl ?_)
       (simp only [AEndR, aresults, Fr.put_some, Fr.put_none, fr0_zero, fr0_succ, fr0_nil, Nat.reduceEqDiff, reduceIte])
       (try simp (disch := (first | omega | (simp only [RO]; done) | assumption | (simp only [RM, Go.PW.dig_length]; done) | (simp only [RL, Go.PW.dig_length]; omega))) only [RD, reduceCtorEq, reduceIte, Go.PW.dig_length, Nat.reduceLeDiff, Nat.reduceAdd, Nat.reduceMul, Int.reduceToNat, tf50RfK]))
  · have e1 : ((xs.length : Int) = 0) = False := eq_false (by omega)
    rw [if_neg h0]
    have hb := c.lim.get (xs.length - 1)
    have hbl : bl (xs.getD (xs.length - 1) 0).toNat ≤ 64 := bl_le (by simp only [Bs] at hb; omega)
    have w1 : IntKind.i64.wrap ((xs.length : Int) - 1) = ((xs.length - 1 : Nat) : Int) := by rw [wrap_i64_id (by omega) (by omega)]; omega
    have w2 : IntKind.i64.wrap (64 * ((xs.length - 1 : Nat) : Int)) = ((64 * (xs.length - 1) : Nat) : Int) := by rw [wrap_i64_id (by omega) (by omega)]; omega
    have w3 : IntKind.i64.wrap (((64 * (xs.length - 1) : Nat) : Int) + ((bl (xs.getD (xs.length - 1) 0).toNat : Nat) : Int)) = ((64 * (xs.length - 1) + bl (xs.getD (xs.length - 1) 0).toNat : Nat) : Int) := by rw [wrap_i64_id (by omega) (by omega)]; omega
    have hlen := fun H0 => len64_calls (xs.getD (xs.length - 1) 0) H0 hb
    repeat' first
      | (with_reducible first | refine AWp_seq_k (fun K hK => ?_) | refine AWp_skip ?_ | refine AWp_ret ?_ | refine AWp_regionE ?_ | refine AWp_condI ?_)
      | ((with_reducible refine ECall_intro (hlen _) ?_); rintro _ _ ⟨rfl, rfl⟩)
      | (simp only [thenA, inBlockA, reduceIte, Nat.reduceEqDiff])
      | ((with_reducible refine hK _ _ ?_); clear hK)
      | (simp only [ACond, RA, EAtS_def, EAtX_def, wantedA, acall, astep, ev, ofValue, ofAtom, Nat.reduceEqDiff, Nat.reduceAdd, Nat.reduceMul, Nat.reduceSub, reduceCtorEq, reduceIte, aoptEv, abin, aint, ashift, aun, astr, aeqGuard, isConstOp, aconvH, aofStr, aconvSame, isU8, abuildSlice, afill, splice, azeros, Nat.reduceLeDiff, Nat.reduceLT, Int.reduceLE, Int.reduceLT, Int.reduceEq, Int.reduceToNat, Int.reducePow, IntKind.bits, Int.reduceNeg, RB, aalloc, Go.PW.dig_length, tf50RfK, hl, e1, w1, w2, w3])
      | (simp (disch := first | omega | (simp only [RO]; done) | assumption) only [RS, hs.rd.at1 und27 size34, hs.load1 agg34, six27, gix27])
    all_goals
      (
       (refine AEnd_gen (rs := [.tmp 2]) rfl ?_)
       (simp only [AEndR, aresults, Fr.put_some, Fr.put_none, fr0_zero, fr0_succ, fr0_nil, Nat.reduceEqDiff, reduceIte])
       (try simp (disch := (first | omega | (simp only [RO]; done) | assumption | (simp only [RM, Go.PW.dig_length]; done) | (simp only [RL, Go.PW.dig_length]; omega))) only [RD, reduceCtorEq, reduceIte, Go.PW.dig_length, Nat.reduceLeDiff, Nat.reduceAdd, Nat.reduceMul, Int.reduceToNat, tf50RfK]))
end Go.Proofs.YtfalfmfkifemeaaDoor
set_option linter.unusedVariables false
set_option linter.unusedSimpArgs false
namespace Go.Proofs.YtfalfmfkifemeaaDoor
open Go.AL Go.PW
theorem tf6RfL : type_of% (And.intro @tyb2 (And.intro @tyb3 (And.intro @tyb22 (And.intro @tyb24 (@tyb25))))) := And.intro @tyb2 (And.intro @tyb3 (And.intro @tyb22 (And.intro @tyb24 (@tyb25))))
set_option maxRecDepth 8000
theorem make_i64 (H : Hp) (n : Nat) (l : IntKind) (hn : n < 1000000) : amakeSlice Tryd.prog H 22 (.int l (n : Int)) (.int l (n : Int)) = some (.sl H.length 0 n n, H ++ [⟨(List.replicate n (0 : Int)).map (AV.int .i64), .own, 2⟩]) := by
  have e : azeros [AV.int .i64 0] n = (List.replicate n (0 : Int)).map (AV.int .i64) := by
    unfold azeros
    induction n with
    | zero => rfl
    | succ n ih => rw [List.replicate_succ, List.flatten_cons, ih (by omega)]; rfl
  have hc : (AV.int .i64 0).cells = [AV.int .i64 0] := rfl
  simp only [amakeSlice, und22, size2, zero2, bytes2, hc]
  rw [if_pos ⟨rfl, rfl, by decide, by omega, by omega, by omega, by omega⟩, Int.toNat_natCast, e]
theorem half (n : Fin 9) : IntKind.i64.wrap (Int.tdiv (IntKind.i64.wrap ((n.1 : Int) * IntKind.i64.wrap ((n.1 : Int) + 1))) 2) = ((n.1 * (n.1 + 1) / 2 : Nat) : Int) := by
  revert n; decide +kernel
set_option maxHeartbeats 2000000 in
theorem SymNew_calls (n : Nat) (H : Hp) (h8 : n ≤ 8) : ACalls Tryd.prog 6 [.int .i64 (n : Int)] H fun r H' => ∃ h, r = SymA n (.sl h 0 (n * (n + 1) / 2) (n * (n + 1) / 2)) ∧ hget H' h = some ⟨(List.replicate (n * (n + 1) / 2) (0 : Int)).map (AV.int .i64), .own, 2⟩ ∧ H.length ≤ h ∧ Ext H H' := by
  have hm1 : abuiltin Tryd.prog .max #[3, 3] [.int .i64 (n : Int), .int .i64 0] = some (.int .i64 (n : Int)) := by
    show some (AV.int .i64 (if ((n : Int) < 0) then 0 else (n : Int))) = _
    rw [if_neg (by omega)]
  have hm2 : abuiltin Tryd.prog .min #[3, 3] [.int .i64 (n : Int), .int .i64 8] = some (.int .i64 (n : Int)) := by
    show some (AV.int .i64 (if ((8 : Int) < (n : Int)) then 8 else (n : Int))) = _
    rw [if_neg (by omega)]
  have hh := half ⟨n, by omega⟩
  have hn2 : n * (n + 1) / 2 < 1000000 := by
    have : n * (n + 1) ≤ 8 * 9 := Nat.mul_le_mul h8 (by omega)
    omega
  have hmk := fun H0 => make_i64 H0 (n * (n + 1) / 2) .i64 hn2
  refine ACalls_body Tryd.func6 rfl (by kernel_rfl) (by kernel_rfl) ?_
  repeat' first
    | (with_reducible first | refine AWp_seq_k (fun K hK => ?_) | refine AWp_ret ?_ | refine AWp_regionE ?_)
    | (simp only [thenA, inBlockA, reduceIte, Nat.reduceEqDiff])
    | ((with_reducible refine hK _ _ ?_); clear hK)
    | (simp only [ACond, RA, EAtS_def, EAtX_def, wantedA, acall, astep, ev, ofValue, ofAtom, Nat.reduceEqDiff, Nat.reduceAdd, Nat.reduceMul, Nat.reduceSub, reduceCtorEq, reduceIte, aoptEv, abin, aint, ashift, aun, astr, aeqGuard, isConstOp, aconvH, aofStr, aconvSame, isU8, abuildSlice, afill, splice, azeros, Nat.reduceLeDiff, Nat.reduceLT, Int.reduceLE, Int.reduceLT, Int.reduceEq, Int.reduceToNat, Int.reducePow, IntKind.bits, Int.reduceNeg, RB, aalloc, Go.PW.dig_length, tf6RfL, hm1, hm2, hh, hmk])
    | (simp (disch := first | omega | (simp only [RO]; done) | assumption) only [RS, six22, gix22, bst25_e, bst25_0, bst25_01])
    | (simp (disch := (first | omega | (simp only [RO]; done) | assumption | (simp only [RM, Go.PW.dig_length]; done) | (simp only [RL, Go.PW.dig_length]; omega))) only [RD, reduceCtorEq, reduceIte, Go.PW.dig_length, Nat.reduceLeDiff, Nat.reduceAdd, Nat.reduceMul, Int.reduceToNat, tf6RfL, hm1, hm2, hh, hmk])
  all_goals
    (
     (refine AEnd_gen (rs := [.cell 2 25]) rfl ?_)
     (simp only [AEndR, aresults, Fr.put_some, Fr.put_none, fr0_zero, fr0_succ, fr0_nil, Nat.reduceEqDiff, reduceIte])
     (try simp (disch := (first | omega | (simp only [RO]; done) | assumption | (simp only [RM, Go.PW.dig_length]; done) | (simp only [RL, Go.PW.dig_length]; omega))) only [RD, reduceCtorEq, reduceIte, Go.PW.dig_length, Nat.reduceLeDiff, Nat.reduceAdd, Nat.reduceMul, Int.reduceToNat, tf6RfL]))
  all_goals exact ⟨H.length + 1, rfl, by first | exact hget_at (by simp) | rw [if_pos (by simp)] | simp, by omega, (Ext.push _ _).pushed _⟩
end Go.Proofs.YtfalfmfkifemeaaDoor
set_option linter.unusedVariables false
set_option linter.unusedSimpArgs false
namespace Go.Proofs.YtfalfmfkifemeaaDoor
open Go.AL Go.PW
theorem tf23RfM : type_of% (And.intro @tyb2 (And.intro @tyb3 (And.intro @tyb22 (And.intro @tyb24 (@tyb25))))) := And.intro @tyb2 (And.intro @tyb3 (And.intro @tyb22 (And.intro @tyb24 (@tyb25))))
abbrev pn23_1RfM : Plan := (.one 0 (.one 2 (.one 3 (.alt 1 (.one 4 (.one 5 (.one 6 .nil))) (.one 4 (.one 1 (.one 5 (.one 6 .nil))))))))
set_option maxRecDepth 8000
abbrev Ib (xs : List Int) : Blk := ⟨xs.map (AV.int .i64), .own, 2⟩
set_option maxHeartbeats 2000000 in
theorem Copy_calls (n : Int) (xs : List Int) (a : AV) (H : Hp) (ha : Ints H .i64 a xs) (hx : 0 < xs.length) (hl : xs.length < 1000000) : ACalls Tryd.prog 23 [SymA n a] H fun r H' => ∃ h, r = SymA n (.sg h 0 xs.length 1) ∧ hget H' h = some (Ib xs) ∧ H.length ≤ h ∧ Ext H H' := by
  have ha1 : a.one = true := ha.rd.one
  have hc : a.cells = [a] := AV.cells_one ha1
  have g := fun (H0 : Hp) (x0 : Ext H H0) => append_nil (P := Tryd.prog) (ha.ext x0).rd und22 size2 zero2 rfl (by decide) bytes2 (ints_one _ _) hx (by omega) (by omega)
  have g1 := fun b1 b2 => g _ ((Ext.push H b1).pushed b2)
  refine ACalls_body Tryd.func23 rfl (by kernel_rfl) (by kernel_rfl) ?_
  repeat' first
    | (with_reducible first | refine AWp_seq_k (fun K hK => ?_) | refine AWp_ret ?_ | refine AWp_regionE ?_ | refine AWp_drawE (id := 1) [] pn23_1RfM (by kernel_rfl) (by kernel_rfl) ?_)
    | (with_reducible refine And.intro ?_ ?_)
    | (simp only [thenA, inBlockA, reduceIte, Nat.reduceEqDiff])
    | ((with_reducible refine hK _ _ ?_); clear hK)
    | (simp only [ACond, RA, EAtS_def, EAtX_def, wantedA, acall, astep, ev, ofValue, ofAtom, Nat.reduceEqDiff, Nat.reduceAdd, Nat.reduceMul, Nat.reduceSub, reduceCtorEq, reduceIte, aoptEv, abin, aint, ashift, aun, astr, aeqGuard, isConstOp, aconvH, aofStr, aconvSame, isU8, abuildSlice, afill, splice, azeros, Nat.reduceLeDiff, Nat.reduceLT, Int.reduceLE, Int.reduceLT, Int.reduceEq, Int.reduceToNat, Int.reducePow, IntKind.bits, Int.reduceNeg, RB, aalloc, Go.PW.dig_length, tf23RfM, g1])
    | (simp (disch := first | omega | (simp only [RO]; done) | assumption) only [RS, six22, gix22, bst25_e, bst25_0, bst25_01])
    | (simp (disch := (first | omega | (simp only [RO]; done) | assumption | (simp only [RM, Go.PW.dig_length]; done) | (simp only [RL, Go.PW.dig_length]; omega))) only [RD, reduceCtorEq, reduceIte, Go.PW.dig_length, Nat.reduceLeDiff, Nat.reduceAdd, Nat.reduceMul, Int.reduceToNat, tf23RfM, g1])
  all_goals
    (
     (refine AEnd_gen (rs := [.cell 2 25]) rfl ?_)
     (simp only [AEndR, aresults, Fr.put_some, Fr.put_none, fr0_zero, fr0_succ, fr0_nil, Nat.reduceEqDiff, reduceIte])
     (try simp (disch := (first | omega | (simp only [RO]; done) | assumption | (simp only [RM, Go.PW.dig_length]; done) | (simp only [RL, Go.PW.dig_length]; omega))) only [RD, reduceCtorEq, reduceIte, Go.PW.dig_length, Nat.reduceLeDiff, Nat.reduceAdd, Nat.reduceMul, Int.reduceToNat, tf23RfM]))
  all_goals exact ⟨H.length + 1 + 1, rfl, by first | exact hget_at (by simp) | rw [if_pos (by simp)] | simp, by omega, ((Ext.push _ _).pushed _).pushed _⟩
end Go.Proofs.YtfalfmfkifemeaaDoor

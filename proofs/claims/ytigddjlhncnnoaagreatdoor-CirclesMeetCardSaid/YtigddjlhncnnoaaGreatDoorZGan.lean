/- Part 14 of the proof of laws of this seat: lemmas on the model's code, on this program's functions, on numbers. No condition. -/
import Derived.Test.YtigddjlhncnnoaaGreatDoorZGam
set_option linter.unusedVariables false
set_option linter.unusedSimpArgs false
open Nat renaming reduceEqDiff → J0, reduceLeDiff → J1, reduceMul → J2, reduceAdd → J3, reduceSub → J4, reduceLT → J5
open Int renaming reduceToNat → J6, reducePow → J7, reduceNeg → J8, reduceLT → J9, reduceLE → Ja, reduceEq → Jb
open And renaming intro → Jc
open Go.IntKind renaming bits → Jd
open Go.PW renaming dig_length → Je
namespace Go.Proofs.YtigddjlhncnnoaaGreatDoor
open Go.AL Go.PW
theorem Km : type_of% (Jc @Xw (Jc @U1 (Jc @U0 (Jc @Xc (Jc @J00 (@N9)))))) := Jc @Xw (Jc @U1 (Jc @U0 (Jc @Xc (Jc @J00 (@N9)))))
set_option maxRecDepth 8000
theorem emod_mul_mul {a b p : Int} (hp : 0 < p) : a * p % (b * p) = a % b * p := by
  rw [Int.mul_comm a p, Int.mul_comm b p, Int.mul_emod_mul_of_pos _ _ hp, Int.mul_comm]
theorem dg_test {y1 y0 u d q r : Int} (h : Dg 4294967296 y1 y0 u d q r) (hr0 : 0 ≤ r) (hr : r < 4294967296) (hq0 : 0 ≤ q) (hq : q < 4294967296) : IntKind.u64.wrap (q * y0) = q * y0 ∧ IntKind.u64.wrap (4294967296 * r) = 4294967296 * r ∧ IntKind.u64.wrap (4294967296 * r + d) = 4294967296 * r + d := by
  have h3 := h.h3
  have h4 := h.h4
  have h7 := h.h7
  have h8 := h.h8
  have h1 := Uh (x := q) (y := y0) (p := 4294967296 - 1) (q := 4294967296 - 1) ⟨hq0, by omega⟩ ⟨h3, by omega⟩
  have e : ((4294967296 : Int) - 1) * (4294967296 - 1) = 18446744065119617025 := by decide
  replace h1 : 0 ≤ q * y0 ∧ q * y0 ≤ 18446744065119617025 := by rw [← e]; exact h1
  exact ⟨Y0 h1.1 (by simp only [Bs]; omega), Y0 (by omega) (by simp only [Bs]; omega), Y0 (by omega) (by simp only [Bs]; omega)⟩
set_option maxHeartbeats 1000000 in
theorem div64_norm (hi lo y : Int) (s : Nat) (H : Hp) (hy0 : 0 < y) (hh0 : 0 < hi) (hh : hi < y) (hl : 0 ≤ lo ∧ lo < Bs) (hs : s = 64 - bl y.toNat) (hyB : y < Bs) : ACalls Tryz.prog 161 [.int .u64 hi, .int .u64 lo, .int .u64 y] H fun r H' => r = .tup [.int .u64 ((hi * Bs + lo) / y), .int .u64 ((hi * Bs + lo) % y)] ∧ H = H' := by
  obtain ⟨yn, rfl⟩ := Int.eq_ofNat_of_zero_le (Int.le_of_lt hy0)
  rw [Int.toNat_natCast] at hs
  have hyn : yn ≠ 0 := by omega
  have b1 := bl_lt yn
  have b2 := bl_ge hyn
  have b3 := bl_pos hyn
  have b4 : bl yn ≤ 64 := bl_le (by simp only [Bs] at hyB; omega)
  have hs63 : s ≤ 63 := by omega
  have hp : (0 : Int) < 2 ^ s := Int.pow_pos (by decide)
  have e64 : (2 : Int) ^ s * 2 ^ (64 - s) = Bs := by
    rw [← Int.pow_add, show s + (64 - s) = 64 by omega]; decide
  have hbl : bl yn = 64 - s := by omega
  -- the divisor, moved to the left
  have hY1 : (yn : Int) * 2 ^ s < Bs := by
    rw [hbl] at b1
    have h1 : (yn : Int) < 2 ^ (64 - s) := by
      have : ((yn : Nat) : Int) < ((2 ^ (64 - s) : Nat) : Int) := by omega
      simpa using this
    have := Int.mul_lt_mul_of_pos_right h1 hp
    rw [Int.mul_comm (2 ^ (64 - s))] at this
    omega
  have hY2 : 9223372036854775808 ≤ (yn : Int) * 2 ^ s := by
    rw [hbl] at b2
    have h1 : (2 : Int) ^ (64 - s - 1) ≤ yn := by
      have : ((2 ^ (64 - s - 1) : Nat) : Int) ≤ (yn : Int) := by omega
      simpa using this
    have h2 := Int.mul_le_mul_of_nonneg_right h1 (Int.le_of_lt hp)
    rw [← Int.pow_add, show 64 - s - 1 + s = 63 by omega] at h2
    have : (2 : Int) ^ 63 = 9223372036854775808 := by decide
    omega
  have hH : hi * 2 ^ s < Bs := by
    have := Int.mul_lt_mul_of_pos_right hh hp
    omega
  obtain ⟨Y, hY⟩ : ∃ Y, Y = (yn : Int) * 2 ^ s := ⟨_, rfl⟩
  -- what is divided
  obtain ⟨l1, hl1⟩ : ∃ l1, l1 = lo / 2 ^ (64 - s) := ⟨_, rfl⟩
  have hp2 : (0 : Int) < 2 ^ (64 - s) := Int.pow_pos (by decide)
  have hl1a : 0 ≤ l1 := by rw [hl1]; exact Int.ediv_nonneg hl.1 (Int.le_of_lt hp2)
  have hl1b : l1 < 2 ^ s := by
    rw [hl1]
    apply Int.ediv_lt_of_lt_mul hp2
    rw [e64]; exact hl.2
  have h2s : (2 : Int) ^ s ≤ 9223372036854775808 := by
    have : (2 : Int) ^ s ≤ 2 ^ 63 := by
      have := Nat.pow_le_pow_right (n := 2) (by decide) hs63
      have h : ((2 ^ s : Nat) : Int) ≤ ((2 ^ 63 : Nat) : Int) := by omega
      simpa using h
    have h63 : (2 : Int) ^ 63 = 9223372036854775808 := by decide
    omega
  have hor : bits .or .u64 (hi * 2 ^ s) l1 = hi * 2 ^ s + l1 := or_add s (by omega) hH hl1a hl1b (by simp only [Bs]; omega)
  obtain ⟨u, hu⟩ : ∃ u, u = hi * 2 ^ s + l1 := ⟨_, rfl⟩
  obtain ⟨l0, hl0⟩ : ∃ l0, l0 = lo * 2 ^ s % Bs := ⟨_, rfl⟩
  have hl0a : 0 ≤ l0 ∧ l0 < Bs := by rw [hl0]; exact ⟨Int.emod_nonneg _ (by decide), Int.emod_lt_of_pos _ (by decide)⟩
  have hN : u * Bs + l0 = (hi * Bs + lo) * 2 ^ s := by
    have h1 : lo * 2 ^ s = Bs * l1 + l0 := by
      have h2 : lo * 2 ^ s / Bs = l1 := by
        rw [← e64, Int.mul_comm (2 ^ s) (2 ^ (64 - s)), Int.mul_ediv_mul_of_pos_left _ _ hp, hl1]
      have := Int.emod_add_mul_ediv (lo * 2 ^ s) Bs
      rw [h2, ← hl0] at this
      omega
    rw [hu]
    grind
  have hu0 : 0 ≤ u := by have := Int.mul_pos hh0 hp; omega
  have huY : u < Y := by
    have h1 : (hi + 1) * 2 ^ s ≤ yn * 2 ^ s := Int.mul_le_mul_of_nonneg_right (by omega) (Int.le_of_lt hp)
    rw [Int.add_mul] at h1
    omega
  rw [← hY] at hY1 hY2
  obtain ⟨y1, hy1⟩ : ∃ y1, y1 = Y / 4294967296 := ⟨_, rfl⟩
  obtain ⟨y0, hy0'⟩ : ∃ y0, y0 = Y % 4294967296 := ⟨_, rfl⟩
  have hYe : Y = y1 * 4294967296 + y0 := by omega
  obtain ⟨d1, hd1⟩ : ∃ d, d = l0 / 4294967296 := ⟨_, rfl⟩
  obtain ⟨d0, hd0⟩ : ∃ d, d = l0 % 4294967296 := ⟨_, rfl⟩
  simp only [Bs] at hY1 hl0a hyB
  have w1 : IntKind.u64.wrap ((yn : Int) * 2 ^ s) = Y := by rw [← hY]; exact Y0 (by omega) (by simp only [Bs]; omega)
  have w2 : IntKind.u64.wrap (hi * 2 ^ s) = hi * 2 ^ s := Y0 (by have := Int.mul_pos hh0 hp; omega) hH
  have w3 : IntKind.u64.wrap (lo * 2 ^ s) = l0 := by rw [Zr, ← hl0]
  have w4 : IntKind.u64.wrap ((s : Nat) : Int) = s := Y0 (by omega) (by simp only [Bs]; omega)
  have w5 : IntKind.u64.wrap (64 - ((s : Nat) : Int)) = ((64 - s : Nat) : Int) := by rw [Y0 (by omega) (by simp only [Bs]; omega)]; omega
  have w6 : bits .and .u64 Y 4294967295 = y0 := by rw [low32 (by omega) (by simp only [Bs]; omega), hy0']
  have w7 : bits .and .u64 l0 4294967295 = d0 := by rw [low32 (by omega) (by simp only [Bs]; omega), hd0]
  have m1 : (s ≤ 64) = True := by simp; omega
  have m2 : (64 - s ≤ 64) = True := by simp
  have w8 : IntKind.u64.bits = 64 := by decide
  have D1 : Dg 4294967296 y1 y0 u d1 (u / y1) (u % y1) := Dg.start (by decide) (by omega) (by omega) (by omega) hu0 (by rw [← hYe]; exact huY) (by omega) (by omega)
  have hcall : ACalls Tryz.prog 162 [.int .u64 (yn : Int)] H fun r H' => r = .int .i64 (s : Int) ∧ H = H' := by
    have := lz64_calls (yn : Int) H ⟨by omega, by simp only [Bs]; omega⟩
    rwa [Int.toNat_natCast, ← hs] at this
  have w9 : IntKind.u64.wrap (u / y1) = u / y1 := Y0 (Int.ediv_nonneg hu0 (by omega)) (by have := D1.hm; simp only [Bs] at *; omega)
  have htq : (u).tdiv y1 = u / y1 := Int.tdiv_eq_ediv_of_nonneg hu0
  have hy1p : 0 < y1 := by omega
  have hem := Int.emod_add_mul_ediv u y1
  have hem0 := Int.emod_nonneg u (b := y1) (by omega)
  have hem1 := Int.emod_lt_of_pos u (b := y1) (by omega)
  have hcm := Int.mul_comm y1 (u / y1)
  have w10 : IntKind.u64.wrap (u / y1 * y1) = u / y1 * y1 := Y0 (Int.mul_nonneg (Int.ediv_nonneg hu0 (by omega)) (by omega)) (by simp only [Bs]; omega)
  have w11 : IntKind.u64.wrap (u - u / y1 * y1) = u % y1 := by rw [Y0 (by omega) (by simp only [Bs]; omega)]; omega
  have hy1n : (y1 = 0) = False := by simp; omega
  refine Qo Tryz.func161 rfl (by kernel_rfl) (by kernel_rfl) ?_
  repeat' first
    | (with_reducible first | refine Jh (fun K hK => ?_) | refine Jx ?_ | refine Q4 ?_ | refine Jg ?_ | refine Jr ?_)
    | ((with_reducible refine Q5 (hcall) ?_); rintro _ _ ⟨rfl, rfl⟩)
    | (with_reducible refine X4 (fun hc => ?_) (fun hc => ?_) <;> (try simp only [RC] at hc) <;> (try (exfalso; first | omega | contradiction)))
    | (simp only [Qb, Jo, reduceIte, J0])
    | ((with_reducible refine hK _ _ ?_); clear hK)
    | (simp only [Q9, RA, Jn, Jm, Jp, Q8, Q6, ev, ofValue, Ju, J0, J3, J2, J4, reduceCtorEq, reduceIte, Jv, Qm, Qk, Q0, aun, Qj, Jk, Ji, Jz, Jy, Jj, Qi, Jf, Q7, Q2, Js, J1, J5, Ja, J9, Jb, J6, J7, Jd, J8, RB, Jw, Je, Km, w1, w2, w3, w4, w5, w6, w7, w8, m1, m2, ← hl1, hor, ← hu, ← hy1, ← hd1, htq, w9, w10, w11, hy1n])
    | (simp (disch := first | omega | (simp only [RO]; done) | assumption) only [RS])
  refine AWp_cutB (fun fr' H' => fr' 2 = .int .u64 Y ∧ fr' 8 = .int .u64 (s : Int) ∧ fr' 9 = .int .u64 y1 ∧ fr' 10 = .int .u64 y0 ∧ fr' 11 = .int .u64 u ∧ fr' 13 = .int .u64 d1 ∧ fr' 14 = .int .u64 d0 ∧ fr' 15 = .int .u64 ((u * 4294967296 + d1) / Y) ∧ H = H') ?_ (fun fr' H' h => hK _ _ ?_)
  · clear hK
    refine Xi (fun m fr' H' => ∃ q r : Int, m = q.toNat ∧ 0 ≤ q ∧ 0 ≤ r ∧ r < 4294967296 ∧ Dg 4294967296 y1 y0 u d1 q r ∧ fr' 2 = .int .u64 Y ∧ fr' 8 = .int .u64 (s : Int) ∧ fr' 9 = .int .u64 y1 ∧ fr' 10 = .int .u64 y0 ∧ fr' 11 = .int .u64 u ∧ fr' 13 = .int .u64 d1 ∧ fr' 14 = .int .u64 d0 ∧ fr' 15 = .int .u64 q ∧ fr' 16 = .int .u64 r ∧ H = H') (m := (u / y1).toNat)
      ⟨u / y1, u % y1, rfl, Int.ediv_nonneg hu0 (by omega), hem0, by omega, D1, rfl, rfl, rfl, rfl, rfl, rfl, rfl, rfl, rfl, rfl⟩ ?_
    rintro m fr' H' ⟨q, r, rfl, q0, r0, r1, D, k2, k8, k9, k10, k11, k13, k14, k15, k16, rfl⟩
    have hqm := D.hm
    have hqp := D.hq
    have hqn := D.nonneg
    by_cases ht : 4294967296 ≤ q ∨ 4294967296 * r + d1 < q * y0
    · have hq1 : 0 < q := by
        rcases ht with h | h
        · omega
        · rcases Int.lt_or_le 0 q with h' | h'
          · exact h'
          · exfalso
            obtain rfl : q = 0 := by omega
            rw [Int.zero_mul] at h
            omega
      have D' := D.next ht
      have v1 : IntKind.u64.wrap (q - 1) = q - 1 := Y0 (by omega) (by simp only [Bs]; omega)
      have v2 : IntKind.u64.wrap (r + y1) = r + y1 := Y0 (by omega) (by simp only [Bs]; omega)
      have fin : 4294967296 ≤ r + y1 → q - 1 = (u * 4294967296 + d1) / Y := fun h => by
        rw [hYe]; exact D'.over (by omega) h
      by_cases hqB : q < 4294967296
      · obtain ⟨t1, t2, t3⟩ := dg_test D r0 r1 q0 hqB
        have ht' : 4294967296 * r + d1 < q * y0 := by omega
        repeat' first
          | (with_reducible first | refine Jh (fun K hK => ?_) | refine Jx ?_ | refine Q4 ?_ | refine Qc ?_ | refine Jg ?_ | refine Jr ?_)
          | (with_reducible refine Jt (fun hc => ?_) (fun hc => ?_) <;> (try simp only [RC] at hc) <;> (try (exfalso; first | omega | contradiction)))
          | (with_reducible refine Jc ?_ ?_)
          | (with_reducible refine X4 (fun hc => ?_) (fun hc => ?_) <;> (try simp only [RC] at hc) <;> (try (exfalso; first | omega | contradiction)))
          | (simp only [Qb, Jo, reduceIte, J0])
          | ((with_reducible refine hK _ _ ?_); clear hK)
          | (simp only [Q9, RA, Jn, Jm, Jp, Q8, Q6, ev, ofValue, Ju, J0, J3, J2, J4, reduceCtorEq, reduceIte, Jv, Qm, Qk, Q0, aun, Qj, Jk, Ji, Jz, Jy, Jj, Qi, Jf, Q7, Q2, Js, J1, J5, Ja, J9, Jb, J6, J7, Jd, J8, RB, Jw, Je, Km, k2, k8, k9, k10, k11, k13, k14, k15, k16, t1, t2, t3, v1, v2])
          | (simp (disch := first | omega | (simp only [RO]; done) | assumption) only [RS])
        · rw [fin (by omega)]
        · exact ⟨(q - 1).toNat, by omega, q - 1, r + y1, rfl, by omega, by omega, by omega, D', rfl, rfl⟩
      · skip
        repeat' first
          | (with_reducible first | refine Jh (fun K hK => ?_) | refine Jx ?_ | refine Q4 ?_ | refine Qc ?_ | refine Jg ?_ | refine Jr ?_)
          | (with_reducible refine Jt (fun hc => ?_) (fun hc => ?_) <;> (try simp only [RC] at hc) <;> (try (exfalso; first | omega | contradiction)))
          | (with_reducible refine Jc ?_ ?_)
          | (with_reducible refine X4 (fun hc => ?_) (fun hc => ?_) <;> (try simp only [RC] at hc) <;> (try (exfalso; first | omega | contradiction)))
          | (simp only [Qb, Jo, reduceIte, J0])
          | ((with_reducible refine hK _ _ ?_); clear hK)
          | (simp only [Q9, RA, Jn, Jm, Jp, Q8, Q6, ev, ofValue, Ju, J0, J3, J2, J4, reduceCtorEq, reduceIte, Jv, Qm, Qk, Q0, aun, Qj, Jk, Ji, Jz, Jy, Jj, Qi, Jf, Q7, Q2, Js, J1, J5, Ja, J9, Jb, J6, J7, Jd, J8, RB, Jw, Je, Km, k2, k8, k9, k10, k11, k13, k14, k15, k16, v1, v2])
          | (simp (disch := first | omega | (simp only [RO]; done) | assumption) only [RS])
        · rw [fin (by omega)]
        · exact ⟨(q - 1).toNat, by omega, q - 1, r + y1, rfl, by omega, by omega, by omega, D', rfl, rfl⟩
    · have hqB : q < 4294967296 := by omega
      obtain ⟨t1, t2, t3⟩ := dg_test D r0 r1 q0 hqB
      have ht' : ¬ 4294967296 * r + d1 < q * y0 := by omega
      have fin : q = (u * 4294967296 + d1) / Y := by rw [hYe]; exact D.done (by omega)
      repeat' first
        | (with_reducible first | refine Jh (fun K hK => ?_) | refine Qc ?_ | refine Jg ?_ | refine Jr ?_)
        | (with_reducible refine Jt (fun hc => ?_) (fun hc => ?_) <;> (try simp only [RC] at hc) <;> (try (exfalso; first | omega | contradiction)))
        | (with_reducible refine Jc ?_ ?_)
        | (with_reducible refine X4 (fun hc => ?_) (fun hc => ?_) <;> (try simp only [RC] at hc) <;> (try (exfalso; first | omega | contradiction)))
        | (simp only [Qb, Jo, reduceIte, J0])
        | ((with_reducible refine hK _ _ ?_); clear hK)
        | (simp only [Q9, RA, Jn, Jm, Jp, Q8, Q6, ev, ofValue, Ju, J0, J3, J2, J4, reduceCtorEq, reduceIte, Jv, Qm, Qk, Q0, aun, Qj, Jk, Ji, Jz, Jy, Jj, Qi, Jf, Q7, Q2, Js, J1, J5, Ja, J9, Jb, J6, J7, Jd, J8, RB, Jw, Je, Km, k2, k8, k9, k10, k11, k13, k14, k15, k16, t1, t2, t3])
        | (simp (disch := first | omega | (simp only [RO]; done) | assumption) only [RS])
      rw [← fin]
  · clear hK
    obtain ⟨k2, k8, k9, k10, k11, k13, k14, k15, rfl⟩ := h
    have hYp : 0 < Y := by omega
    obtain ⟨q1, hq1⟩ : ∃ q1, q1 = (u * 4294967296 + d1) / Y := ⟨_, rfl⟩
    obtain ⟨u2, hu2⟩ : ∃ u2, u2 = (u * 4294967296 + d1) % Y := ⟨_, rfl⟩
    have hem2 := Int.emod_add_mul_ediv (u * 4294967296 + d1) Y
    rw [← hq1, ← hu2] at hem2
    have hu20 : 0 ≤ u2 := by rw [hu2]; exact Int.emod_nonneg _ (by omega)
    have hu2Y : u2 < Y := by rw [hu2]; exact Int.emod_lt_of_pos _ hYp
    rw [← hq1] at k15
    have hcm2 := Int.mul_comm Y q1
    have x1 : IntKind.u64.wrap (IntKind.u64.wrap (IntKind.u64.wrap (u * 4294967296) + d1) - IntKind.u64.wrap (q1 * Y)) = u2 := by
      simp only [Zr, Bs]
      omega
    have D2 : Dg 4294967296 y1 y0 u2 d0 (u2 / y1) (u2 % y1) := Dg.start (by decide) (by omega) (by omega) (by omega) hu20 (by rw [← hYe]; exact hu2Y) (by omega) (by omega)
    have htq2 : (u2).tdiv y1 = u2 / y1 := Int.tdiv_eq_ediv_of_nonneg hu20
    have gem := Int.emod_add_mul_ediv u2 y1
    have gem0 := Int.emod_nonneg u2 (b := y1) (by omega)
    have gem1 := Int.emod_lt_of_pos u2 (b := y1) (by omega)
    have gcm := Int.mul_comm y1 (u2 / y1)
    have x2 : IntKind.u64.wrap (u2 / y1) = u2 / y1 := Y0 (Int.ediv_nonneg hu20 (by omega)) (by have := D2.hm; simp only [Bs] at *; omega)
    have x3 : IntKind.u64.wrap (u2 / y1 * y1) = u2 / y1 * y1 := Y0 (Int.mul_nonneg (Int.ediv_nonneg hu20 (by omega)) (by omega)) (by simp only [Bs]; omega)
    have x4 : IntKind.u64.wrap (u2 - u2 / y1 * y1) = u2 % y1 := by rw [Y0 (by omega) (by simp only [Bs]; omega)]; omega
    repeat' first
      | (with_reducible first | refine Jh (fun K hK => ?_) | refine Jx ?_ | refine Jg ?_)
      | (simp only [Qb, Jo, reduceIte, J0])
      | ((with_reducible refine hK _ _ ?_); clear hK)
      | (simp only [Q9, RA, Jn, Jm, Jp, Q8, Q6, ev, ofValue, Ju, J0, J3, J2, J4, reduceCtorEq, reduceIte, Jv, Qm, Qk, Q0, aun, Qj, Jk, Ji, Jz, Jy, Jj, Qi, Jf, Q7, Q2, Js, J1, J5, Ja, J9, Jb, J6, J7, Jd, J8, RB, Jw, Je, Km, k2, k8, k9, k10, k11, k13, k14, k15, x1, htq2, hy1n, x2, x3, x4])
    refine AWp_cutB (fun fr' H' => fr' 2 = .int .u64 Y ∧ fr' 8 = .int .u64 (s : Int) ∧ fr' 14 = .int .u64 d0 ∧ fr' 15 = .int .u64 q1 ∧ fr' 17 = .int .u64 u2 ∧ fr' 18 = .int .u64 ((u2 * 4294967296 + d0) / Y) ∧ H = H') ?_ (fun fr' H' h => hK _ _ ?_)
    · clear hK
      refine Xi (fun m fr' H' => ∃ q r : Int, m = q.toNat ∧ 0 ≤ q ∧ 0 ≤ r ∧ r < 4294967296 ∧ Dg 4294967296 y1 y0 u2 d0 q r ∧ fr' 2 = .int .u64 Y ∧ fr' 8 = .int .u64 (s : Int) ∧ fr' 9 = .int .u64 y1 ∧ fr' 10 = .int .u64 y0 ∧ fr' 14 = .int .u64 d0 ∧ fr' 15 = .int .u64 q1 ∧ fr' 17 = .int .u64 u2 ∧ fr' 18 = .int .u64 q ∧ fr' 16 = .int .u64 r ∧ H = H') (m := (u2 / y1).toNat)
        ⟨u2 / y1, u2 % y1, rfl, Int.ediv_nonneg hu20 (by omega), gem0, by omega, D2, k2, k8, k9, k10, k14, k15, rfl, rfl, rfl, rfl⟩ ?_
      clear k2 k8 k9 k10 k11 k13 k14 k15
      rintro m fr' H' ⟨q, r, rfl, q0, r0, r1, D, k2, k8, k9, k10, k14, k15, k17, k18, k16, rfl⟩
      have hqm := D.hm
      have hqp := D.hq
      have hqn := D.nonneg
      by_cases ht : 4294967296 ≤ q ∨ 4294967296 * r + d0 < q * y0
      · have hq1 : 0 < q := by
          rcases ht with h | h
          · omega
          · rcases Int.lt_or_le 0 q with h' | h'
            · exact h'
            · exfalso
              obtain rfl : q = 0 := by omega
              rw [Int.zero_mul] at h
              omega
        have D' := D.next ht
        have v1 : IntKind.u64.wrap (q - 1) = q - 1 := Y0 (by omega) (by simp only [Bs]; omega)
        have v2 : IntKind.u64.wrap (r + y1) = r + y1 := Y0 (by omega) (by simp only [Bs]; omega)
        have fin : 4294967296 ≤ r + y1 → q - 1 = (u2 * 4294967296 + d0) / Y := fun h => by
          rw [hYe]; exact D'.over (by omega) h
        by_cases hqB : q < 4294967296
        · obtain ⟨t1, t2, t3⟩ := dg_test D r0 r1 q0 hqB
          have ht' : 4294967296 * r + d0 < q * y0 := by omega
          repeat' first
            | (with_reducible first | refine Jh (fun K hK => ?_) | refine Jx ?_ | refine Q4 ?_ | refine Qc ?_ | refine Jg ?_ | refine Jr ?_)
            | (with_reducible refine Jt (fun hc => ?_) (fun hc => ?_) <;> (try simp only [RC] at hc) <;> (try (exfalso; first | omega | contradiction)))
            | (with_reducible refine Jc ?_ ?_)
            | (with_reducible refine X4 (fun hc => ?_) (fun hc => ?_) <;> (try simp only [RC] at hc) <;> (try (exfalso; first | omega | contradiction)))
            | (simp only [Qb, Jo, reduceIte, J0])
            | ((with_reducible refine hK _ _ ?_); clear hK)
            | (simp only [Q9, RA, Jn, Jm, Jp, Q8, Q6, ev, ofValue, Ju, J0, J3, J2, J4, reduceCtorEq, reduceIte, Jv, Qm, Qk, Q0, aun, Qj, Jk, Ji, Jz, Jy, Jj, Qi, Jf, Q7, Q2, Js, J1, J5, Ja, J9, Jb, J6, J7, Jd, J8, RB, Jw, Je, Km, k2, k8, k9, k10, k14, k15, k16, k17, k18, t1, t2, t3, v1, v2])
            | (simp (disch := first | omega | (simp only [RO]; done) | assumption) only [RS])
          · rw [fin (by omega)]
          · exact ⟨(q - 1).toNat, by omega, q - 1, r + y1, rfl, by omega, by omega, by omega, D', rfl, rfl⟩
        · skip
          repeat' first
            | (with_reducible first | refine Jh (fun K hK => ?_) | refine Jx ?_ | refine Q4 ?_ | refine Qc ?_ | refine Jg ?_ | refine Jr ?_)
            | (with_reducible refine Jt (fun hc => ?_) (fun hc => ?_) <;> (try simp only [RC] at hc) <;> (try (exfalso; first | omega | contradiction)))
            | (with_reducible refine Jc ?_ ?_)
            | (with_reducible refine X4 (fun hc => ?_) (fun hc => ?_) <;> (try simp only [RC] at hc) <;> (try (exfalso; first | omega | contradiction)))
            | (simp only [Qb, Jo, reduceIte, J0])
            | ((with_reducible refine hK _ _ ?_); clear hK)
            | (simp only [Q9, RA, Jn, Jm, Jp, Q8, Q6, ev, ofValue, Ju, J0, J3, J2, J4, reduceCtorEq, reduceIte, Jv, Qm, Qk, Q0, aun, Qj, Jk, Ji, Jz, Jy, Jj, Qi, Jf, Q7, Q2, Js, J1, J5, Ja, J9, Jb, J6, J7, Jd, J8, RB, Jw, Je, Km, k2, k8, k9, k10, k14, k15, k16, k17, k18, v1, v2])
            | (simp (disch := first | omega | (simp only [RO]; done) | assumption) only [RS])
          · rw [fin (by omega)]
          · exact ⟨(q - 1).toNat, by omega, q - 1, r + y1, rfl, by omega, by omega, by omega, D', rfl, rfl⟩
      · have hqB : q < 4294967296 := by omega
        obtain ⟨t1, t2, t3⟩ := dg_test D r0 r1 q0 hqB
        have ht' : ¬ 4294967296 * r + d0 < q * y0 := by omega
        have fin : q = (u2 * 4294967296 + d0) / Y := by rw [hYe]; exact D.done (by omega)
        repeat' first
          | (with_reducible first | refine Jh (fun K hK => ?_) | refine Qc ?_ | refine Jg ?_ | refine Jr ?_)
          | (with_reducible refine Jt (fun hc => ?_) (fun hc => ?_) <;> (try simp only [RC] at hc) <;> (try (exfalso; first | omega | contradiction)))
          | (with_reducible refine Jc ?_ ?_)
          | (with_reducible refine X4 (fun hc => ?_) (fun hc => ?_) <;> (try simp only [RC] at hc) <;> (try (exfalso; first | omega | contradiction)))
          | (simp only [Qb, Jo, reduceIte, J0])
          | ((with_reducible refine hK _ _ ?_); clear hK)
          | (simp only [Q9, RA, Jn, Jm, Jp, Q8, Q6, ev, ofValue, Ju, J0, J3, J2, J4, reduceCtorEq, reduceIte, Jv, Qm, Qk, Q0, aun, Qj, Jk, Ji, Jz, Jy, Jj, Qi, Jf, Q7, Q2, Js, J1, J5, Ja, J9, Jb, J6, J7, Jd, J8, RB, Jw, Je, Km, k2, k8, k9, k10, k14, k15, k16, k17, k18, t1, t2, t3])
          | (simp (disch := first | omega | (simp only [RO]; done) | assumption) only [RS])
        rw [← fin]
    · clear hK k2 k8 k9 k10 k11 k13 k14 k15
      obtain ⟨k2, k8, k14, k15, k17, k18, rfl⟩ := h
      obtain ⟨q0, hq0⟩ : ∃ q0, q0 = (u2 * 4294967296 + d0) / Y := ⟨_, rfl⟩
      obtain ⟨rr, hrr⟩ : ∃ rr, rr = (u2 * 4294967296 + d0) % Y := ⟨_, rfl⟩
      have hem3 := Int.emod_add_mul_ediv (u2 * 4294967296 + d0) Y
      rw [← hq0, ← hrr] at hem3
      have hrr0 : 0 ≤ rr := by rw [hrr]; exact Int.emod_nonneg _ (by omega)
      have hrrY : rr < Y := by rw [hrr]; exact Int.emod_lt_of_pos _ hYp
      rw [← hq0] at k18
      have hcm3 := Int.mul_comm Y q0
      have x5 : IntKind.u64.wrap (IntKind.u64.wrap (IntKind.u64.wrap (u2 * 4294967296) + d0) - IntKind.u64.wrap (q0 * Y)) = rr := by
        simp only [Zr, Bs]
        omega
      have htd := two_digits (B := 4294967296) (Y := Y) (N1 := u * 4294967296 + d1) (d0 := d0) hYp (by decide)
      rw [← hq1, ← hu2, ← hq0, ← hrr] at htd
      have hNN : (u * 4294967296 + d1) * 4294967296 + d0 = (hi * Bs + lo) * 2 ^ s := by
        rw [← hN]; simp only [Bs]; omega
      rw [hNN, hY, Int.mul_ediv_mul_of_pos_left _ _ hp, emod_mul_mul hp] at htd
      have hquo : 0 ≤ (hi * Bs + lo) / yn ∧ (hi * Bs + lo) / yn < Bs := by
        constructor
        · exact Int.ediv_nonneg (by have := hl.1; simp only [Bs]; omega) (by omega)
        · apply Int.ediv_lt_of_lt_mul (by omega)
          have : (hi + 1) * Bs ≤ yn * Bs := Int.mul_le_mul_of_nonneg_right (by omega) (by decide)
          have h2 := hl.2
          rw [Int.mul_comm Bs]
          rw [Int.add_mul] at this
          omega
      have x6 : IntKind.u64.wrap (IntKind.u64.wrap (q1 * 4294967296) + q0) = (hi * Bs + lo) / yn := by
        rw [htd.1] at hquo ⊢
        simp only [Zr, Bs] at hquo ⊢
        omega
      have x7 : rr / 2 ^ s = (hi * Bs + lo) % yn := by
        rw [← htd.2, Int.mul_ediv_cancel _ (by omega)]
      repeat' first
        | (with_reducible first | refine Jh (fun K hK => ?_) | refine Qd ?_ | refine Jg ?_)
        | (simp only [Qb, Jo, reduceIte, J0])
        | ((with_reducible refine hK _ _ ?_); clear hK)
        | (simp only [Q9, RA, Jn, Jm, Jp, Q8, Q6, ev, ofValue, Ju, J0, J3, J2, J4, reduceCtorEq, reduceIte, Jv, Qm, Qk, Q0, aun, Qj, Jk, Ji, Jz, Jy, Jj, Qi, Jf, Q7, Q2, Js, J1, J5, Ja, J9, Jb, J6, J7, Jd, J8, RB, Jw, Je, Km, k2, k8, k14, k15, k17, k18, x5, x6, w8, m1, x7])
        | (simp (disch := first | omega | (simp only [RO]; done) | assumption) only [RS])
      all_goals
        (
         (refine Qg (rs := [.tmp 6, .tmp 7]) rfl ?_)
         (simp only [X5, Qf, Fr.put_some, Fr.put_none, Qp, Qq, Qt, J0, reduceIte])
         (try simp (disch := (first | omega | (simp only [RO]; done) | assumption | (simp only [RM, Je]; done) | (simp only [RL, Je]; omega))) only [RD, reduceCtorEq, reduceIte, Je, J1, J3, J2, J6, Km]))
end Go.Proofs.YtigddjlhncnnoaaGreatDoor
namespace Go.Proofs.YtigddjlhncnnoaaGreatDoor
open Go.AL Go.PW
theorem tf161WdH : type_of% (Jc @Xw (Jc @U1 (Jc @U0 (Jc @Xc (Jc @J00 (@N9)))))) := Jc @Xw (Jc @U1 (Jc @U0 (Jc @Xc (Jc @J00 (@N9)))))
abbrev pn161_6WdH : Plan := (.one 0 (.one 1 (.one 2 (.one 3 (.one 4 (.one 5 (.one 6 (.one 7 .nil))))))))
set_option maxRecDepth 8000
theorem div64_zero (lo y : Int) (H : Hp) (hy0 : 0 < y) (hl : 0 ≤ lo ∧ lo < Bs) (hyB : y < Bs) : ACalls Tryz.prog 161 [.int .u64 0, .int .u64 lo, .int .u64 y] H fun r H' => r = .tup [.int .u64 (lo / y), .int .u64 (lo % y)] ∧ H = H' := by
  have hn : (y = 0) = False := by simp; omega
  have e1 : lo.tdiv y = lo / y := Int.tdiv_eq_ediv_of_nonneg hl.1
  have e2 : lo.tmod y = lo % y := Int.tmod_eq_emod_of_nonneg hl.1
  have e3 : IntKind.u64.wrap (lo / y) = lo / y := by
    refine Y0 (Int.ediv_nonneg hl.1 (Int.le_of_lt hy0)) ?_
    have := Int.ediv_le_self (b := y) hl.1
    omega
  refine Qo Tryz.func161 rfl (by kernel_rfl) (by kernel_rfl) ?_
  repeat' first
    | (with_reducible first | refine Jh (fun K hK => ?_) | refine Q4 ?_ | refine Qd ?_ | refine Jg ?_ | refine Q1 (id := 6) [] pn161_6WdH (by kernel_rfl) (by kernel_rfl) ?_ | refine Jr ?_)
    | (with_reducible refine X4 (fun hc => ?_) (fun hc => ?_) <;> (try simp only [RC] at hc) <;> (try (exfalso; first | omega | contradiction)))
    | (simp only [Qb, Jo, reduceIte, J0])
    | ((with_reducible refine hK _ _ ?_); clear hK)
    | (simp only [Q9, RA, Jn, Jm, Jp, Q8, Q6, ev, ofValue, Ju, J0, J3, J2, J4, reduceCtorEq, reduceIte, Jv, Qm, Qk, Q0, aun, Qj, Jk, Ji, Jz, Jy, Jj, Qi, Jf, Q7, Q2, Js, J1, J5, Ja, J9, Jb, J6, J7, Jd, J8, RB, Jw, Je, tf161WdH, hn, e1, e2, e3])
  all_goals
    (
     (refine Qg (rs := [.tmp 6, .tmp 7]) rfl ?_)
     (simp only [X5, Qf, Fr.put_some, Fr.put_none, Qp, Qq, Qt, J0, reduceIte])
     (try simp (disch := (first | omega | (simp only [RO]; done) | assumption | (simp only [RM, Je]; done) | (simp only [RL, Je]; omega))) only [RD, reduceCtorEq, reduceIte, Je, J1, J3, J2, J6, tf161WdH]))
theorem div64_calls (hi lo y : Int) (H : Hp) (hh0 : 0 ≤ hi) (hh : hi < y) (hl : 0 ≤ lo ∧ lo < Bs) (hyB : y < Bs) : ACalls Tryz.prog 161 [.int .u64 hi, .int .u64 lo, .int .u64 y] H fun r H' => r = .tup [.int .u64 ((hi * Bs + lo) / y), .int .u64 ((hi * Bs + lo) % y)] ∧ H = H' := by
  by_cases h0 : hi = 0
  · subst h0
    have := div64_zero lo y H (by omega) hl hyB
    rwa [Int.zero_mul, Int.zero_add]
  · exact div64_norm hi lo y _ H (by omega) (by omega) hh hl rfl hyB
end Go.Proofs.YtigddjlhncnnoaaGreatDoor
namespace Go.Proofs.YtigddjlhncnnoaaGreatDoor
open Go.AL Go.PW
theorem Ve : type_of% (Jc @Xw (Jc @Zh (Jc @Z1 (Jc @Xc (Jc @Y9 (Jc @Y8 (@tyb188))))))) := Jc @Xw (Jc @Zh (Jc @Z1 (Jc @Xc (Jc @Y9 (Jc @Y8 (@tyb188))))))
abbrev pn103_1WdI : Plan := (.one 0 (.pur 1 (.one 2 (.pur 3 (.alt 4 (.one 5 (.one 6 (.one 7 .nil))) (.one 5 (.one 4 (.one 6 (.one 7 .nil)))))))))
abbrev pn103_2WdI : Plan := (.one 0 (.one 2 (.one 1 (.one 3 (.one 4 (.one 5 .nil))))))
abbrev pn103_24WdI : Plan := (.one 0 (.one 1 (.one 3 (.pur 4 (.one 5 (.pur 6 (.one 2 (.one 7 (.pur 8 (.one 9 (.one 10 (.one 11 (.one 12 (.one 13 (.one 14 .nil)))))))))))))))
set_option maxRecDepth 8000
abbrev Bk (xs : List Int) (e : Nat) : Blk := ⟨xs.map (AV.int .u64), .own, e⟩
theorem ext7 {H : Hp} (a b c d e : Blk) : Ext H (H ++ [a] ++ [b] ++ [c] ++ [d] ++ [e]) := (ext6 _ _ _ _).pushed _
theorem natAbs_M {x : Int} (hx : In x) : ((x.natAbs : Nat) : Int) % M = x.natAbs := by
  obtain ⟨h1, h2⟩ := hx
  have := M_two
  exact Int.emod_eq_of_lt (by omega) (by omega)
theorem Gx {xs : List Int} {n : Nat} (hn : cnt xs ≤ n) : val (xs.take n) = val xs := by
  have hz : ∀ (ys : List Int), (∀ j, ys.getD j 0 = 0) → val ys = 0 := by
    intro ys
    induction ys with
    | nil => intro _; rfl
    | cons y ys ih =>
      intro h
      have h0 := h 0
      have h1 : ∀ j, ys.getD j 0 = 0 := fun j => by have := h (j + 1); rwa [List.getD_cons_succ] at this
      rw [List.getD_cons_zero] at h0
      simp [val, h0, ih h1]
  have h := Yq xs n
  rw [hz (xs.drop n)] at h
  · omega
  · intro j
    have := cnt_above xs (n + j) (by omega)
    rw [List.getD_eq_getElem?_getD] at this ⊢
    rw [List.getElem?_drop]
    exact this
theorem cnt_low {xs : List Int} (h : Limbs xs) (h0 : 0 < cnt xs) : Bs ^ (cnt xs - 1) ≤ val xs := by
  have hc := cnt_le xs
  have h1 := cnt_top xs h0
  have h2 := Xk xs (i := cnt xs - 1) (by omega)
  rw [show cnt xs - 1 + 1 = cnt xs by omega, Gx (Nat.le_refl _)] at h2
  have h3 := Xh (h.take (cnt xs - 1))
  have h4 := h.get (cnt xs - 1)
  have hp := Xn (cnt xs - 1)
  have h5 : Bs ^ (cnt xs - 1) * 1 ≤ Bs ^ (cnt xs - 1) * xs.getD (cnt xs - 1) 0 := Int.mul_le_mul_of_nonneg_left (by omega) (by omega)
  omega
theorem cnt_zero {xs : List Int} (h : cnt xs = 0) : val xs = 0 := by
  have := Gx (xs := xs) (n := 0) (by omega)
  rw [← this]; rfl
theorem getD_dig0 (n j : Nat) : (dig n 0).getD j 0 = 0 := by
  rcases Nat.lt_or_ge j n with h | h
  · rw [Kt n 0 j h]; simp
  · simp [List.getD, List.getElem?_eq_none (show (dig n 0).length ≤ j by rw [dig_length]; exact h)]
theorem l16 (x : Int) : (dig 16 x).length < 1000000 := by rw [dig_length]; omega
theorem signed_mul (a b X Y : Int) (H : Hp) (ha : In a) (hb : In b) (hab : In (a * b)) (hX : X = a.natAbs) (hY : Y = b.natAbs) : ACalls Tryz.prog 134 [W (X * Y), .bool (!(decide (a < 0) == decide (b < 0)))] H fun r H' => r = .tup [W (a * b), .bool true] ∧ H = H' := by
  have hXY : X * Y = ((a * b).natAbs : Nat) := by rw [hX, hY, Int.natAbs_mul]; simp
  obtain ⟨h1, h2⟩ := hab
  by_cases sa : a < 0 <;> by_cases sb : b < 0
  · have e : a * b = X * Y := by rw [hX, hY, show ((a.natAbs : Nat) : Int) = -a by omega, show ((b.natAbs : Nat) : Int) = -b by omega, Int.neg_mul_neg]
    have := signed_plus (X * Y) H (by omega) (by omega)
    rw [← e] at this ⊢
    simpa only [sa, sb, decide_true, beq_self_eq_true, Bool.not_true] using this
  · have e : a * b = -(X * Y) := by rw [hX, hY, show ((a.natAbs : Nat) : Int) = -a by omega, show ((b.natAbs : Nat) : Int) = b by omega, Int.neg_mul, Int.neg_neg]
    have := J11 (X * Y) H (by omega) (by omega)
    rw [← e] at this
    simpa [sa, sb] using this
  · have e : a * b = -(X * Y) := by rw [hX, hY, show ((a.natAbs : Nat) : Int) = a by omega, show ((b.natAbs : Nat) : Int) = -b by omega, Int.mul_neg, Int.neg_neg]
    have := J11 (X * Y) H (by omega) (by omega)
    rw [← e] at this
    simpa [sa, sb] using this
  · have e : a * b = X * Y := by rw [hX, hY, show ((a.natAbs : Nat) : Int) = a by omega, show ((b.natAbs : Nat) : Int) = b by omega]
    have := signed_plus (X * Y) H (by omega) (by omega)
    rw [← e] at this ⊢
    simpa only [sa, sb, decide_false, beq_self_eq_true, Bool.not_true] using this
set_option maxHeartbeats 2000000 in
theorem mul_calls (a b : Int) (H : Hp) (ha : In a) (hb : In b) (hab : In (a * b)) : ACalls Tryz.prog 103 [W a, W b] H fun r H' => r = .tup [W (a * b), .bool true] ∧ H = H' := by
  refine ACalls.drop (R := fun r => r = .tup [W (a * b), .bool true]) ?_
  obtain ⟨X, hX⟩ : ∃ X : Int, X = a.natAbs := ⟨_, rfl⟩
  obtain ⟨Y, hY⟩ : ∃ Y : Int, Y = b.natAbs := ⟨_, rfl⟩
  refine Qo Tryz.func103 rfl (by kernel_rfl) (by kernel_rfl) ?_
  repeat' first
    | (with_reducible first | refine Jh (fun K hK => ?_) | refine Jg ?_)
    | (simp only [Qb, Jo, reduceIte, J0])
    | ((with_reducible refine hK _ _ ?_); clear hK)
    | (simp only [Q9, RA, Jn, Jm, Jp, Q8, Q6, ev, ofValue, Ju, J0, J3, J2, J4, reduceCtorEq, reduceIte, Jv, Qm, Qk, Q0, aun, Qj, Jk, Ji, Jz, Jy, Jj, Qi, Jf, Q7, Q2, Js, J1, J5, Ja, J9, Jb, J6, J7, Jd, J8, RB, Jw, Je, Ve])
  refine Yn (fun fr' H1 => ∃ h2 h3 h4 h6 h7, P1 H H1 (fr' 2) h2 (Wb a) ∧ P1 H H1 (fr' 3) h3 (Wb b) ∧ P1 H H1 (fr' 4) h4 (Wb 0) ∧ P1 H H1 (fr' 6) h6 (Wb X) ∧ P1 H H1 (fr' 7) h7 (Wb Y) ∧ Ext H H1) ?_ (fun fr' H' h => hK _ _ ?_)
  · clear hK
    repeat' first
      | (with_reducible first | refine Q1 (id := 1) [] pn103_1WdI (by kernel_rfl) (by kernel_rfl) ?_ | refine X8 ?_)
      | (with_reducible refine Xd (fun _ x => (amount_calls _ _ ha)) ?_)
      | (with_reducible refine Xd (fun _ x => (amount_calls _ _ hb)) ?_)
      | (with_reducible refine Jc ?_ ?_)
      | (simp only [Qb, Jo, reduceIte, J0])
      | (simp only [Q9, RA, Jn, Jm, Jp, Q8, Q6, ev, ofValue, Ju, J0, J3, J2, J4, reduceCtorEq, reduceIte, Jv, Qm, Qk, Q0, aun, Qj, Jk, Ji, Jz, Jy, Jj, Qi, Jf, Q7, Q2, Js, J1, J5, Ja, J9, Jb, J6, J7, Jd, J8, RB, Jw, Je, Ve, ← hX, ← hY])
      | (simp (disch := (first | omega | (simp only [RO]; done) | assumption | (simp only [RM, Je]; done) | (simp only [RL, Je]; omega))) only [RD, reduceCtorEq, reduceIte, Je, J1, J3, J2, J6, Ve, ← hX, ← hY])
    all_goals
      refine ⟨H.length, H.length + 1, H.length + 1 + 1, _, _, ⟨rfl, ?_, ?_⟩, ⟨rfl, ?_, ?_⟩, ⟨rfl, ?_, ?_⟩, ⟨rfl, ?_, ?_⟩, ⟨rfl, ?_, ?_⟩, ext7 _ _ _ _ _⟩
    all_goals first
      | omega
      | (simp only [RL]; done) | (simp only [RL]; omega)
      | (simp (disch := first | omega | (simp only [RL]; done) | (simp only [RL]; omega)) only [X7, Qw]; done)
      | fail
  clear hK
  obtain ⟨h2, h3, h4, h6, h7, p2, p3, p4, p6, p7, x1⟩ := h
  have i6 : Ints H' .u64 (.sl h6 0 16 16) (dig 16 X) := by
    have := Ints.blk (n := 16) (c := 16) (o := 0) p6.get (by decide) (by rw [dig_length]; omega) (by omega)
    rwa [List.drop_zero, List.take_of_length_le (by rw [dig_length]; omega)] at this
  have i7 : Ints H' .u64 (.sl h7 0 16 16) (dig 16 Y) := by
    have := Ints.blk (n := 16) (c := 16) (o := 0) p7.get (by decide) (by rw [dig_length]; omega) (by omega)
    rwa [List.drop_zero, List.take_of_length_le (by rw [dig_length]; omega)] at this
  obtain ⟨n, hn⟩ : ∃ n, n = cnt (dig 16 X) := ⟨_, rfl⟩
  obtain ⟨m, hm⟩ : ∃ m, m = cnt (dig 16 Y) := ⟨_, rfl⟩
  repeat' first
    | (with_reducible first | refine Jh (fun K hK => ?_))
  refine Yn (fun fr' H1 => H1 = H' ∧ fr' 2 = .ptr h2 0 ∧ fr' 3 = .ptr h3 0 ∧ fr' 4 = .ptr h4 0 ∧ fr' 6 = .ptr h6 0 ∧ fr' 7 = .ptr h7 0 ∧ fr' 8 = .int .i64 (n : Int) ∧ fr' 9 = .int .i64 (m : Int)) ?_ (fun fr' H' h => hK _ _ ?_)
  · clear hK
    repeat' first
      | (with_reducible first | refine Q1 (id := 2) [] pn103_2WdI (by kernel_rfl) (by kernel_rfl) ?_)
      | ((with_reducible refine Q5 ((fun x => (count_calls _ _ _ (i6.ext x) (l16 _))) (Ext.refl _)) ?_); rintro _ _ ⟨rfl, rfl⟩)
      | ((with_reducible refine Q5 ((fun x => (count_calls _ _ _ (i7.ext x) (l16 _))) (Ext.refl _)) ?_); rintro _ _ ⟨rfl, rfl⟩)
      | (with_reducible refine Jc ?_ ?_)
      | (simp only [Qb, Jo, reduceIte, J0])
      | (simp only [Q9, RA, Jn, Jm, Jp, Q8, Q6, ev, ofValue, Ju, J0, J3, J2, J4, reduceCtorEq, reduceIte, Jv, Qm, Qk, Q0, aun, Qj, Jk, Ji, Jz, Jy, Jj, Qi, Jf, Q7, Q2, Js, J1, J5, Ja, J9, Jb, J6, J7, Jd, J8, RB, Jw, Je, Ve, p2.eq, p3.eq, p4.eq, p6.eq, p7.eq, ← hn, ← hm])
  clear hK
  obtain ⟨rfl, k2, k3, k4, k6, k7, k8, k9⟩ := h
  have hn16 : n ≤ 16 := by rw [hn]; have := cnt_le (dig 16 X); rwa [dig_length] at this
  have hm16 : m ≤ 16 := by rw [hm]; have := cnt_le (dig 16 Y); rwa [dig_length] at this
  have hXv : val (dig 16 X) = X := by rw [val_M, hX]; exact natAbs_M ha
  have hYv : val (dig 16 Y) = Y := by rw [val_M, hY]; exact natAbs_M hb
  have hXY : X * Y = ((a * b).natAbs : Nat) := by rw [hX, hY, Int.natAbs_mul]; simp
  have hXYM : X * Y < M := by have := M_two; have := hab.1; have := hab.2; omega
  have hz : n = 0 ∨ m = 0 → a * b = 0 := by
    intro h
    have : X * Y = 0 := by
      rcases h with h | h
      · rw [← hXv, cnt_zero (hn ▸ h), Int.zero_mul]
      · rw [← hYv, cnt_zero (hm ▸ h), Int.mul_zero]
    omega
  have hnm : 0 < n → 0 < m → n + m ≤ 17 := by
    intro h1 h2
    have a1 := cnt_low (Z7 16 X) (hn ▸ h1)
    have a2 := cnt_low (Z7 16 Y) (hm ▸ h2)
    rw [← hn, hXv] at a1
    rw [← hm, hYv] at a2
    rcases Nat.lt_or_ge 17 (n + m) with h | h
    · have b1 := Int.mul_le_mul a1 a2 (Int.le_of_lt (Xn _)) (by omega)
      rw [← Int.pow_add] at b1
      have b2 : Bs ^ 16 ≤ Bs ^ (n - 1 + (m - 1)) := by
        rw [show n - 1 + (m - 1) = 16 + (n + m - 18) by omega, Int.pow_add]
        have := Xn (n + m - 18)
        have := Int.mul_le_mul_of_nonneg_left (show 1 ≤ Bs ^ (n + m - 18) by omega) (Int.le_of_lt (Xn 16))
        omega
      rw [M_pow] at hXYM
      omega
    · omega
  have q2 := p2.hi
  have q3 := p3.hi
  have q4 := p4.hi
  have q6 := p6.hi
  have q7 := p7.hi
  have e1 : IntKind.i64.wrap ((n : Int) + m) = n + m := Qe (by omega) (by omega)
  have e2 : IntKind.i64.wrap ((n : Int) + m - 1) = n + m - 1 := Qe (by omega) (by omega)
  repeat' first
    | (with_reducible first | refine Jh (fun K hK => ?_) | refine Jx ?_ | refine Q4 ?_ | refine Qd ?_ | refine Jg ?_ | refine Jr ?_)
    | (with_reducible refine Jt (fun hc => ?_) (fun hc => ?_) <;> (try simp only [RC] at hc) <;> (try (exfalso; first | omega | contradiction)))
    | (with_reducible refine X4 (fun hc => ?_) (fun hc => ?_) <;> (try simp only [RC] at hc) <;> (try (exfalso; first | omega | contradiction)))
    | (simp only [Qb, Jo, reduceIte, J0])
    | ((with_reducible refine hK _ _ ?_); clear hK)
    | (simp only [Q9, RA, Jn, Jm, Jp, Q8, Q6, ev, ofValue, Ju, J0, J3, J2, J4, reduceCtorEq, reduceIte, Jv, Qm, Qk, Q0, aun, Qj, Jk, Ji, Jz, Jy, Jj, Qi, Jf, Q7, Q2, Js, J1, J5, Ja, J9, Jb, J6, J7, Jd, J8, RB, Jw, Je, Ve, k2, k3, k4, k6, k7, k8, k9, p4.get, e1, e2])
    | (simp (disch := first | omega | (simp only [RO]; done) | assumption) only [RS, Xa, Xb, X9, Zz, Zx, Zy, Zw, idx188, slh188])
    | (simp (disch := (first | omega | (simp only [RO]; done) | assumption | (simp only [RM, Je]; done) | (simp only [RL, Je]; omega))) only [RD, reduceCtorEq, reduceIte, Je, J1, J3, J2, J6, Ve, k2, k3, k4, k6, k7, k8, k9, p4.get, e1, e2])
  · skip
    (
     (refine Qg (rs := [.cell 4 73, .tmp 5]) rfl ?_)
     (simp only [X5, Qf, Fr.put_some, Fr.put_none, Qp, Qq, Qt, J0, reduceIte, k4, Qv q4])
     (try simp (disch := (first | omega | (simp only [RO]; done) | assumption | (simp only [RM, Je]; done) | (simp only [RL, Je]; omega))) only [RD, reduceCtorEq, reduceIte, Je, J1, J3, J2, J6, Ve, k4, Qv q4]))
    rw [hz (.inr (by omega))]
    exact ⟨x1.set p4.lo _, Ux _ _ _, rfl⟩
  · refine Xi (fun c fr' H1 => ∃ (i : Nat) (ys : List Int), c = n - i ∧ i ≤ n ∧ fr' 2 = .ptr h2 0 ∧ fr' 3 = .ptr h3 0 ∧ fr' 4 = .ptr h4 0 ∧ fr' 6 = .ptr h6 0 ∧ fr' 7 = .ptr h7 0 ∧ fr' 8 = .int .i64 (n : Int) ∧ fr' 9 = .int .i64 (m : Int) ∧
        fr' 10 = .ptr H'.length 0 ∧ fr' 43 = .sl h6 0 n 16 ∧ fr' 44 = .int .i64 (n : Int) ∧ fr' 45 = .int .i64 (i : Int) ∧ ys.length = 17 ∧ Limbs ys ∧ (∀ j, i + m ≤ j → ys.getD j 0 = 0) ∧ val ys = val ((dig 16 X).take i) * Y ∧ H' ++ [Bk ys 188] = H1) (m := n)
      ⟨0, dig 17 0, by omega, by omega, k2, k3, k4, k6, k7, k8, k9, rfl, rfl, rfl, rfl, dig_length _ _, Z7 _ _, fun j _ => getD_dig0 17 j, by rw [Wj]; simp [val], rfl⟩ ?_
    clear k2 k3 k4 k6 k7 k8 k9
    rintro c fr' H1 ⟨i, ys, rfl, hi, k2, k3, k4, k6, k7, k8, k9, k10, k43, k44, k45, hl, hys, hy0, hy, rfl⟩
    by_cases hlt : i < n
    · skip
      repeat' first
        | (with_reducible first | refine Jh (fun K hK => ?_) | refine Jx ?_ | refine Q4 ?_ | refine Jg ?_ | refine Jr ?_)
        | (with_reducible refine X4 (fun hc => ?_) (fun hc => ?_) <;> (try simp only [RC] at hc) <;> (try (exfalso; first | omega | contradiction)))
        | (simp only [Qb, Jo, reduceIte, J0])
        | ((with_reducible refine hK _ _ ?_); clear hK)
        | (simp only [Q9, RA, Jn, Jm, Jp, Q8, Q6, ev, ofValue, Ju, J0, J3, J2, J4, reduceCtorEq, reduceIte, Jv, Qm, Qk, Q0, aun, Qj, Jk, Ji, Jz, Jy, Jj, Qi, Jf, Q7, Q2, Js, J1, J5, Ja, J9, Jb, J6, J7, Jd, J8, RB, Jw, Je, Ve, k2, k3, k4, k6, k7, k8, k9, k10, k43, k44, k45, p6.get])
        | (simp (disch := first | omega | (simp only [RO]; done) | assumption) only [RS, Xa, Xb, X9, Zz, Zx, Zy, Zw, idx188, slh188])
        | (simp (disch := (first | omega | (simp only [RO]; done) | assumption | (simp only [RM, Je]; done) | (simp only [RL, Je]; omega))) only [RD, reduceCtorEq, reduceIte, Je, J1, J3, J2, J6, Ve, k2, k3, k4, k6, k7, k8, k9, k10, k43, k44, k45, p6.get])
      have hcX := (Z7 16 X).get i
      refine Xi (fun c fr' H1 => ∃ (k : Nat) (zs : List Int) (r : Int), c = m - k ∧ k ≤ m ∧ fr' 2 = .ptr h2 0 ∧ fr' 3 = .ptr h3 0 ∧ fr' 4 = .ptr h4 0 ∧ fr' 6 = .ptr h6 0 ∧ fr' 7 = .ptr h7 0 ∧ fr' 8 = .int .i64 (n : Int) ∧ fr' 9 = .int .i64 (m : Int) ∧
          fr' 10 = .ptr H'.length 0 ∧ fr' 11 = .int .i64 (i : Int) ∧ fr' 12 = .int .u64 ((dig 16 X).getD i 0) ∧ fr' 13 = .int .u64 r ∧ fr' 43 = .sl h6 0 n 16 ∧ fr' 44 = .int .i64 (n : Int) ∧ fr' 45 = .int .i64 (i : Int) ∧ fr' 51 = .sl h7 0 m 16 ∧ fr' 52 = .int .i64 (m : Int) ∧ fr' 53 = .int .i64 (k : Int) ∧
          zs.length = 17 ∧ Limbs zs ∧ 0 ≤ r ∧ r < Bs ∧ (∀ j, i + m ≤ j → zs.getD j 0 = 0) ∧ val zs + Bs ^ (i + k) * r = val ys + (dig 16 X).getD i 0 * val ((dig 16 Y).take k) * Bs ^ i ∧ H' ++ [Bk zs 188] = H1) (m := m)
        ⟨0, ys, 0, by omega, by omega, k2, k3, k4, k6, k7, k8, k9, k10, rfl, rfl, rfl, k43, k44, k45, rfl, rfl, rfl, hl, hys, by decide, by decide, hy0, by simp [val], rfl⟩ ?_
      clear k2 k3 k4 k6 k7 k8 k9 k10 k43 k44 k45
      rintro c fr' H1 ⟨k, zs, r, rfl, hk, k2, k3, k4, k6, k7, k8, k9, k10, k11, k12, k13, k43, k44, k45, k51, k52, k53, hzl, hzs, r0, r1, hz0, hzv, rfl⟩
      have e3 : IntKind.i64.wrap ((i : Int) + k) = ((i + k : Nat) : Int) := by rw [Qe (by omega) (by omega)]; omega
      by_cases hkm : k < m
      · have hcY := (Z7 16 Y).get k
        have hct := hzs.get (i + k)
        have hst := mul_step hcX hcY hct ⟨r0, r1⟩
        generalize hcd : (dig 16 X).getD i 0 = c at *
        generalize hdd : (dig 16 Y).getD k 0 = d at *
        repeat' first
          | (with_reducible first | refine Jh (fun K hK => ?_) | refine Jx ?_ | refine Q4 ?_ | refine Jg ?_ | refine Jr ?_)
          | ((with_reducible refine Q5 (mul64_calls _ _ _ hcX hcY) ?_); rintro _ _ ⟨rfl, rfl⟩)
          | ((with_reducible refine Z3 (Gn _ _ _ _ (Int.emod_nonneg _ (by decide)) hct.1 (by decide)) ?_); rintro _ _ ⟨rfl, rfl⟩)
          | ((with_reducible refine Z3 (Gn _ _ _ _ (Int.emod_nonneg _ (by decide)) r0 (by decide)) ?_); rintro _ _ ⟨rfl, rfl⟩)
          | (with_reducible refine X4 (fun hc => ?_) (fun hc => ?_) <;> (try simp only [RC] at hc) <;> (try (exfalso; first | omega | contradiction)))
          | (simp only [Qb, Jo, reduceIte, J0])
          | ((with_reducible refine hK _ _ ?_); clear hK)
          | (simp only [Q9, RA, Jn, Jm, Jp, Q8, Q6, ev, ofValue, Ju, J0, J3, J2, J4, reduceCtorEq, reduceIte, Jv, Qm, Qk, Q0, aun, Qj, Jk, Ji, Jz, Jy, Jj, Qi, Jf, Q7, Q2, Js, J1, J5, Ja, J9, Jb, J6, J7, Jd, J8, RB, Jw, Je, Ve, k2, k3, k4, k6, k7, k8, k9, k10, k11, k12, k13, k43, k44, k45, k51, k52, k53, p7.get, e3, hzl, hdd])
          | (simp (disch := first | omega | (simp only [RO]; done) | assumption) only [RS, Xa, Xb, X9, Zz, Zx, Zy, Zw, idx188, slh188])
          | (simp (disch := (first | omega | (simp only [RO]; done) | assumption | (simp only [RM, Je]; done) | (simp only [RL, Je]; omega))) only [RD, reduceCtorEq, reduceIte, Je, J1, J3, J2, J6, Ve, k2, k3, k4, k6, k7, k8, k9, k10, k11, k12, k13, k43, k44, k45, k51, k52, k53, p7.get, e3, hzl, hdd])
        obtain ⟨s1, s2, s3, s4, s5⟩ := hst
        refine ⟨m - (k + 1), by omega, k + 1, _, _, rfl, by omega, by rw [Zr, Zr, s1, s2], by rw [Qe (by omega) (by omega)]; rfl, by rw [List.length_set]; exact hzl, hzs.set (i + k) ⟨Int.emod_nonneg _ (by decide), Int.emod_lt_of_pos _ (by decide)⟩, s4, s5, ?_, ?_, rfl⟩
        · intro j hj
          rw [Xs _ _ (by omega), if_neg (by omega)]
          exact hz0 j hj
        · rw [Vt _ (by omega), Xk _ (by rw [dig_length]; omega), hdd]
          have hp : Bs ^ (i + (k + 1)) = Bs ^ (i + k) * Bs := by rw [← Nat.add_assoc, Int.pow_succ]
          have hq : Bs ^ (i + k) = Bs ^ i * Bs ^ k := Int.pow_add ..
          rw [hp]
          generalize hS : c * d / Bs + (c * d % Bs + zs.getD (i + k) 0 + 0) / Bs + ((c * d % Bs + zs.getD (i + k) 0 + 0) % Bs + r + 0) / Bs = S at *
          generalize hL : ((c * d % Bs + zs.getD (i + k) 0 + 0) % Bs + r + 0) % Bs = L at *
          generalize zs.getD (i + k) 0 = t at *
          have : L = c * d + t + r - Bs * S := by omega
          rw [this]
          rw [hq] at hzv ⊢
          generalize Bs ^ i = p at *
          generalize Bs ^ k = q at *
          grind
      · obtain rfl : k = m := by omega
        have e4 : IntKind.i64.wrap ((i : Int) + k) = ((i + k : Nat) : Int) := e3
        repeat' first
          | (with_reducible first | refine Jh (fun K hK => ?_) | refine Qc ?_ | refine Jg ?_ | refine Jr ?_)
          | (with_reducible refine X4 (fun hc => ?_) (fun hc => ?_) <;> (try simp only [RC] at hc) <;> (try (exfalso; first | omega | contradiction)))
          | (simp only [Qb, Jo, reduceIte, J0])
          | ((with_reducible refine hK _ _ ?_); clear hK)
          | (clear hK; (with_reducible refine hK _ _ ?_); clear hK)
          | (simp only [Q9, RA, Jn, Jm, Jp, Q8, Q6, ev, ofValue, Ju, J0, J3, J2, J4, reduceCtorEq, reduceIte, Jv, Qm, Qk, Q0, aun, Qj, Jk, Ji, Jz, Jy, Jj, Qi, Jf, Q7, Q2, Js, J1, J5, Ja, J9, Jb, J6, J7, Jd, J8, RB, Jw, Je, Ve, k2, k3, k4, k6, k7, k8, k9, k10, k11, k12, k13, k43, k44, k45, k51, k52, k53, e4, hzl])
          | (simp (disch := first | omega | (simp only [RO]; done) | assumption) only [RS, Xa, Xb, X9, Zz, Zx, Zy, Zw, idx188, slh188])
          | (simp (disch := (first | omega | (simp only [RO]; done) | assumption | (simp only [RM, Je]; done) | (simp only [RL, Je]; omega))) only [RD, reduceCtorEq, reduceIte, Je, J1, J3, J2, J6, Ve, k2, k3, k4, k6, k7, k8, k9, k10, k11, k12, k13, k43, k44, k45, k51, k52, k53, e4, hzl])
        refine ⟨n - (i + 1), by omega, i + 1, _, rfl, by omega, by rw [Qe (by omega) (by omega)]; rfl, by rw [List.length_set]; exact hzl, hzs.set (i + k) ⟨r0, r1⟩, ?_, ?_, rfl⟩
        · intro j hj
          rw [Xs _ _ (by omega), if_neg (by omega)]
          exact hz0 j (by omega)
        · rw [Vt _ (by omega), hz0 _ (Nat.le_refl _), Xk _ (by rw [dig_length]; omega)]
          have e2 : val ((dig 16 Y).take k) = Y := by rw [hm, Gx (Nat.le_refl _), hYv]
          rw [e2] at hzv
          rw [hy] at hzv
          have hq : Bs ^ (i + k) = Bs ^ i * Bs ^ k := Int.pow_add ..
          rw [hq] at hzv ⊢
          generalize Bs ^ i = p at *
          generalize Bs ^ k = q at *
          grind
    · obtain rfl : i = n := by omega
      have hyv : val ys = X * Y := by rw [hy, hn, Gx (Nat.le_refl _), hXv]
      have hyb := Xh (hys.take 16)
      have hy16 := Xk ys (i := 16) (by omega)
      rw [List.take_of_length_le (by omega), hyv] at hy16
      have hg16 := hys.get 16
      rw [List.length_take, hl, Nat.min_eq_left (by decide)] at hyb
      rw [← M_pow] at hy16 hyb
      have h16 : ys.getD 16 0 = 0 := by
        rcases Int.lt_or_le 0 (ys.getD 16 0) with h | h
        · have := Int.mul_le_mul_of_nonneg_left (show 1 ≤ ys.getD 16 0 by omega) (Int.le_of_lt M_pos)
          omega
        · omega
      have hT : (ys.map (AV.int .u64)).take 16 = (dig 16 (X * Y)).map (AV.int .u64) := by
        rw [← List.map_take]
        congr 1
        refine Vn (hys.take 16) (by rw [List.length_take]; omega) ?_
        rw [h16, Int.mul_zero, Int.add_zero] at hy16
        rw [← hy16, ← M_pow, Int.emod_eq_of_lt (by omega) hXYM]
      have hna := W6 ha
      have hnb := W6 hb
      repeat' first
        | (with_reducible first | refine Jh (fun K hK => ?_) | refine Q4 ?_ | refine Qc ?_ | refine Qd ?_ | refine Jg ?_ | refine Q1 (id := 24) [] pn103_24WdI (by kernel_rfl) (by kernel_rfl) ?_ | refine Jr ?_ | refine X8 ?_)
        | (with_reducible refine Xd (fun _ x => (below_calls _ _)) ?_)
        | (with_reducible refine Xd (fun _ x => (signed_mul _ _ _ _ _ ha hb hab hX hY)) ?_)
        | (with_reducible refine X4 (fun hc => ?_) (fun hc => ?_) <;> (try simp only [RC] at hc) <;> (try (exfalso; first | omega | contradiction)))
        | (simp only [Qb, Jo, reduceIte, J0])
        | ((with_reducible refine hK _ _ ?_); clear hK)
        | (clear hK; (with_reducible refine hK _ _ ?_); clear hK)
        | (simp only [Q9, RA, Jn, Jm, Jp, Q8, Q6, ev, ofValue, Ju, J0, J3, J2, J4, reduceCtorEq, reduceIte, Jv, Qm, Qk, Q0, aun, Qj, Jk, Ji, Jz, Jy, Jj, Qi, Jf, Q7, Q2, Js, J1, J5, Ja, J9, Jb, J6, J7, Jd, J8, RB, Jw, Je, Ve, k2, k3, k4, k6, k7, k8, k9, k10, k43, k44, k45, p2.get, p3.get, p4.get, hna, hnb, hT, h16, hl])
        | (simp (disch := first | omega | (simp only [RO]; done) | assumption) only [RS, Xa, Xb, X9, Zz, Zx, Zy, Zw, idx188, slh188])
        | (simp (disch := (first | omega | (simp only [RO]; done) | assumption | (simp only [RM, Je]; done) | (simp only [RL, Je]; omega))) only [RD, reduceCtorEq, reduceIte, Je, J1, J3, J2, J6, Ve, k2, k3, k4, k6, k7, k8, k9, k10, k43, k44, k45, p2.get, p3.get, p4.get, hna, hnb, hT, h16, hl])
      (
       (refine Qg (rs := [.cell 4 73, .tmp 5]) rfl ?_)
       (simp only [X5, Qf, Fr.put_some, Fr.put_none, Qp, Qq, Qt, J0, reduceIte, k4, Qv q4])
       (try simp (disch := (first | omega | (simp only [RO]; done) | assumption | (simp only [RM, Je]; done) | (simp only [RL, Je]; omega))) only [RD, reduceCtorEq, reduceIte, Je, J1, J3, J2, J6, Ve, k4, Qv q4]))
      exact ⟨((x1.set p4.lo _).pushed _).pushed _, Ux _ _ _⟩
  · skip
    (
     (refine Qg (rs := [.cell 4 73, .tmp 5]) rfl ?_)
     (simp only [X5, Qf, Fr.put_some, Fr.put_none, Qp, Qq, Qt, J0, reduceIte, k4, Qv q4])
     (try simp (disch := (first | omega | (simp only [RO]; done) | assumption | (simp only [RM, Je]; done) | (simp only [RL, Je]; omega))) only [RD, reduceCtorEq, reduceIte, Je, J1, J3, J2, J6, Ve, k4, Qv q4]))
    rw [hz (.inl (by omega))]
    exact ⟨x1.set p4.lo _, Ux _ _ _, rfl⟩
end Go.Proofs.YtigddjlhncnnoaaGreatDoor

/- Part 4 of the proof of the law CirclesTrue: lemmas on the model's code, on this program's functions, on numbers. No condition. -/
import Derived.Test.YtlgpemndbfclfaaDoorZCirclesTrueac
set_option linter.unusedVariables false
set_option linter.unusedSimpArgs false
open Nat renaming reduceEqDiff → J0, reduceLeDiff → J1, reduceMul → J2, reduceAdd → J3, reduceSub → J4, reduceLT → J5
open Int renaming reduceToNat → J6, reducePow → J7, reduceNeg → J8, reduceLT → J9, reduceLE → Ja, reduceEq → Jb
open And renaming intro → Jc
open Go.IntKind renaming bits → Jd
open Go.PW renaming dig_length → Je
namespace Go.Proofs.YtlgpemndbfclfaaDoor
open Go.AL Go.PW Go.PD Go.PR
theorem tf8ZcC : type_of% (Jc @Yj (Jc @Zn (Jc @Z6 (Jc @Vb (Jc @Va (Jc @Qx (@cv53_2))))))) := Jc @Yj (Jc @Zn (Jc @Z6 (Jc @Vb (Jc @Va (Jc @Qx (@cv53_2))))))
theorem tf14ZcC : type_of% (Jc @Yj (Jc @tyb5 (Jc @Uq (Jc @Up (@tyb44))))) := Jc @Yj (Jc @tyb5 (Jc @Uq (Jc @Up (@tyb44))))
set_option maxRecDepth 8000
theorem RHypot_s (x y : Int) (n : Nat) (hx : -2147483648 ≤ x ∧ x ≤ 2147483648) (hy : -2147483648 ≤ y ∧ y ≤ 2147483648) (hn : (n : Int) = x * x + y * y) : Fn 8 [.int .i64 x, .int .i64 y] (.tup [.int .i64 (rt n : Nat), .bool true]) := by
  have s1 := Rx (x := x) (b := 2147483648) (by decide) hx
  have s2 := Rx (x := y) (b := 2147483648) (by decide) hy
  have sm : ∀ {z : Int}, z.natAbs ≤ 18446744073709551616 → Sm z := fun h => Sm_two (Nat.le_trans h (by decide +kernel))
  have hr := rt_32 (n := n) (by omega)
  have w : IntKind.i64.wrap ((rt n : Nat) : Int) = (rt n : Nat) := Q3 (by omega) (by omega)
  have O1 := Of_s x (by omega)
  have O2 := Of_s y (by omega)
  have F1 := Fits_s x 2147483648 (sm (by omega)) (by decide)
  have F2 := Fits_s y 2147483648 (sm (by omega)) (by decide)
  rw [decide_eq_true (by omega)] at F1 F2
  have M1 := Mul_s x x (sm (by omega)) (sm (by omega))
  have M2 := Mul_s y y (sm (by omega)) (sm (by omega))
  have A1 := Add_s (x * x) (y * y) (sm (by omega)) (sm (by omega))
  rw [← hn] at A1
  have R := Rooted_s n (sm (by omega))
  refine Sure.body (by first | (simp only [RT]; done) | simp_all only [RT]) Tryd.func8 rfl (by kernel_rfl) (by kernel_rfl) ?_
  repeat' first
    | (with_reducible first | refine Jj (fun K hK => ?_) | refine Js ?_ | refine Q2 ?_ | refine Qc ?_ | refine Qb ?_ | refine Jg ?_ | refine Jq ?_)
    | (with_reducible refine Qu (O1) (Qo _ _) ?_)
    | (with_reducible refine Qu (O2) (Qo _ _) ?_)
    | (with_reducible refine Qu (F1) (Qo _ _) ?_)
    | (with_reducible refine Qu (F2) (Qo _ _) ?_)
    | (with_reducible refine Qu (M1) (Qo _ _) ?_)
    | (with_reducible refine Qu (M2) (Qo _ _) ?_)
    | (with_reducible refine Qu (A1) (Qo _ _) ?_)
    | (with_reducible refine Qu (R) (Qo _ _) ?_)
    | (with_reducible refine Jv (fun hc => ?_) (fun hc => ?_) <;> (try simp only [RC] at hc) <;> (try (exfalso; first | omega | contradiction)))
    | (with_reducible refine X3 (fun hc => ?_) (fun hc => ?_) <;> (try simp only [RC] at hc) <;> (try (exfalso; first | omega | contradiction)))
    | (simp only [Q8, Jk, reduceIte, J0])
    | ((with_reducible refine hK _ _ ?_); clear hK)
    | (clear hK; (with_reducible refine hK _ _ ?_); clear hK)
    | (clear hK; clear hK; (with_reducible refine hK _ _ ?_); clear hK)
    | (clear hK; clear hK; clear hK; (with_reducible refine hK _ _ ?_); clear hK)
    | (clear hK; clear hK; clear hK; clear hK; (with_reducible refine hK _ _ ?_); clear hK)
    | (clear hK; clear hK; clear hK; clear hK; clear hK; (with_reducible refine hK _ _ ?_); clear hK)
    | (simp only [Qa, RA, Jo, Jn, Jp, Q7, Q5, ev, ofValue, Ju, J0, J3, J2, J4, reduceCtorEq, reduceIte, Jx, Qm, Qk, Q1, aun, Qj, Jm, Jh, Q0, Jz, Ji, Qi, Jf, Q6, Jr, J1, J5, Ja, J9, Jb, J6, J7, Jd, J8, RB, Jy, Je, RZ, tf8ZcC, w])
    | (simp (disch := first | omega | (simp only [RO]; done) | assumption) only [RS, RG, Xc, Xe, Xb, Xk])
    | (simp (disch := (first | omega | (simp only [RO]; done) | assumption | (simp only [RM, Je]; done) | (simp only [RL, Je]; omega))) only [RD, reduceCtorEq, reduceIte, Je, J1, J3, J2, J6, tf8ZcC, w])
  all_goals
    (
     (refine Q9 (rs := [.tmp 4, .tmp 5]) rfl ?_)
     (simp only [Qt, Q4, RA, RZ, J0, J3, J1, reduceCtorEq, reduceIte, tf8ZcC])
     (try simp only [RF]))
def trX (i : Int) : Int := if i % 4 = 0 then 30000 else if i % 4 = 1 then -20000 else if i % 4 = 2 then 5000 else 60000
def trY (i : Int) : Int := if i % 4 = 0 then 10000 else if i % 4 = 1 then 40000 else if i % 4 = 2 then -35000 else 60000
theorem Truth_s (i : Int) (hi : 0 ≤ i ∧ i ≤ 255) : Fn 14 [.int .u8 i] (PtA (trX i) (trY i)) := by
  have hm : i.tmod 4 = i % 4 := Int.tmod_eq_emod_of_nonneg hi.1
  have h4 : i % 4 = 0 ∨ i % 4 = 1 ∨ i % 4 = 2 ∨ i % 4 = 3 := by omega
  unfold trX trY
  rcases h4 with h | h | h | h
  all_goals
    rw [h] at hm
    simp only [h]
    refine Sure.body (by first | (simp only [RT]; done) | simp_all only [RT]) Tryd.func14 rfl (by kernel_rfl) (by kernel_rfl) ?_
    repeat' first
      | (with_reducible first | refine Jj (fun K hK => ?_) | refine Js ?_ | refine Q2 ?_ | refine Qc ?_ | refine Qb ?_ | refine Jg ?_ | refine Jq ?_)
      | (with_reducible refine Jv (fun hc => ?_) (fun hc => ?_) <;> (try simp only [RC] at hc) <;> (try (exfalso; first | omega | contradiction)))
      | (with_reducible refine X3 (fun hc => ?_) (fun hc => ?_) <;> (try simp only [RC] at hc) <;> (try (exfalso; first | omega | contradiction)))
      | (simp only [Q8, Jk, reduceIte, J0])
      | ((with_reducible refine hK _ _ ?_); clear hK)
      | (clear hK; (with_reducible refine hK _ _ ?_); clear hK)
      | (clear hK; clear hK; (with_reducible refine hK _ _ ?_); clear hK)
      | (clear hK; clear hK; clear hK; (with_reducible refine hK _ _ ?_); clear hK)
      | (clear hK; clear hK; clear hK; clear hK; (with_reducible refine hK _ _ ?_); clear hK)
      | (clear hK; clear hK; clear hK; clear hK; clear hK; (with_reducible refine hK _ _ ?_); clear hK)
      | (simp only [Qa, RA, Jo, Jn, Jp, Q7, Q5, ev, ofValue, Ju, J0, J3, J2, J4, reduceCtorEq, reduceIte, Jx, Qm, Qk, Q1, aun, Qj, Jm, Jh, Q0, Jz, Ji, Qi, Jf, Q6, Jr, J1, J5, Ja, J9, Jb, J6, J7, Jd, J8, RB, Jy, Je, RZ, tf14ZcC, hm])
      | (simp (disch := first | omega | (simp only [RO]; done) | assumption) only [RS, RG, six44, gix44, zix44, Ya, Yc, Zg, Yb])
      | (simp (disch := (first | omega | (simp only [RO]; done) | assumption | (simp only [RM, Je]; done) | (simp only [RL, Je]; omega))) only [RD, reduceCtorEq, reduceIte, Je, J1, J3, J2, J6, tf14ZcC, hm])
  all_goals
    (
     (refine Q9 (rs := [.cell 2 23]) rfl ?_)
     (simp only [Qt, Q4, RA, RZ, J0, J3, J1, reduceCtorEq, reduceIte, tf14ZcC])
     (try simp only [RF]))
theorem off_near {X Y px py r u v : Int} (hx : X - px = u) (hy : Y - py = v) (hr : 0 ≤ r ∧ r ≤ 200000) (hp : -65536 ≤ px ∧ px ≤ 65536) (hq : -65536 ≤ py ∧ py ≤ 65536) (h1 : u * u + v * v < (r + 4) * (r + 4)) (h2 : 3 ≤ r → (r - 3) * (r - 3) ≤ u * u + v * v) :
    (Zy X = false ∧ Zy Y = false) ∧ ∃ n : Int, offS X Y px py r = (0, n) ∧ n ≤ 3 := by
  have hu2 : 0 ≤ u * u := by have := Yv u; omega
  have hv2 : 0 ≤ v * v := by have := Yv v; omega
  have bu := Km (x := u) (b := r + 4) (by omega) (by omega)
  have bv := Km (x := v) (b := r + 4) (by omega) (by omega)
  have f1 : Zy X = false := by unfold Zy; exact decide_eq_false (by omega)
  have f2 : Zy Y = false := by unfold Zy; exact decide_eq_false (by omega)
  have f3 : Zy px = false := by unfold Zy; exact decide_eq_false (by omega)
  have f4 : Zy py = false := by unfold Zy; exact decide_eq_false (by omega)
  have f5 : okR r = true := by unfold okR; exact decide_eq_true (by omega)
  refine ⟨⟨f1, f2⟩, _, by unfold offS; rw [f1, f2, f3, f4, f5]; rfl, ?_⟩
  rw [hx, hy]
  obtain ⟨n, hn⟩ : ∃ n : Nat, (n : Int) = u * u + v * v := ⟨(u * u + v * v).toNat, by omega⟩
  rw [← hn] at h1 h2 ⊢
  have hsq : (r + 4) * (r + 4) ≤ 200004 * 200004 := Int.mul_le_mul (by omega) (by omega) (by omega) (by decide)
  have h128 : n < 2 ^ 128 := by have : (2 : Nat) ^ 128 = 340282366920938463463374607431768211456 := by decide
                                omega
  obtain ⟨ρ, rfl⟩ : ∃ ρ : Nat, r = ρ := ⟨r.toNat, by omega⟩
  have e1 : rt n < ρ + 4 := rt_lt h128 (by have e : ((ρ : Int) + 4) * (ρ + 4) = (((ρ + 4) * (ρ + 4) : Nat) : Int) := by push_cast; rfl
                                           omega)
  have e2 : 3 ≤ ρ → ρ - 3 ≤ rt n := fun h3 => rt_le h128 (by
    have := h2 (by omega)
    have e : ((ρ : Int) - 3) * (ρ - 3) = (((ρ - 3) * (ρ - 3) : Nat) : Int) := by rw [Int.natCast_mul, Int.natCast_sub h3]; rfl
    omega)
  simp only [Int.toNat_natCast]
  omega
theorem true_meet {px py r qx qy s : Int} (hp : -65536 ≤ px ∧ px ≤ 65536) (hpy : -65536 ≤ py ∧ py ≤ 65536) (hq : -65536 ≤ qx ∧ qx ≤ 65536) (hqy : -65536 ≤ qy ∧ qy ≤ 65536) (hr : 0 ≤ r ∧ r ≤ 200000) (hs : 0 ≤ s ∧ s ≤ 200000) :
    J09 px py r qx qy s 1000 = (33, (0, 0), (0, 0)) ∨ J09 px py r qx qy s 1000 = (34, (0, 0), (0, 0)) ∨ ∃ X Y X' Y' n1 n2 n3 n4 : Int, J09 px py r qx qy s 1000 = (0, (X, Y), (X', Y')) ∧
      offS X Y px py r = (0, n1) ∧ n1 ≤ 3 ∧ offS X Y qx qy s = (0, n2) ∧ n2 ≤ 3 ∧ offS X' Y' px py r = (0, n3) ∧ n3 ≤ 3 ∧ offS X' Y' qx qy s = (0, n4) ∧ n4 ≤ 3 := by
  have hU : Wx px py r qx qy s 1000 = false := by
    unfold Wx Zy
    simp only [Bool.or_eq_false_iff, decide_eq_false_iff_not, Bool.not_eq_false', Bool.and_eq_true, decide_eq_true_eq]
    omega
  have Z := sized_of hU
  rw [meetS_ok hU]
  by_cases hn : dd px py qx qy < 1000 * 1000
  · rw [if_pos hn]; exact .inl rfl
  rw [if_neg hn]
  obtain ⟨hd0, _, _⟩ := Z.near hn
  by_cases hR : rest px py r qx qy s < 0
  · rw [if_pos hR]; exact .inr (.inl rfl)
  rw [if_neg hR]
  refine .inr (.inr ?_)
  have hrl := Z.rest_le
  obtain ⟨κ, hκ⟩ : ∃ κ : Nat, κ = rt (rest px py r qx qy s).toNat := ⟨_, rfl⟩
  have hsp := rt_spec (n := (rest px py r qx qy s).toNat) (by have : (2 : Nat) ^ 128 = 340282366920938463463374607431768211456 := by decide
                                                              omega)
  rw [← hκ] at hsp
  have k1 : (κ : Int) * κ ≤ rest px py r qx qy s := by
    have : ((κ * κ : Nat) : Int) ≤ ((rest px py r qx qy s).toNat : Int) := by omega
    rw [Int.natCast_mul] at this; omega
  have k2 : rest px py r qx qy s < (κ : Int) * κ + (2 * κ + 1) := by
    have h : ((rest px py r qx qy s).toNat : Int) < (((κ + 1) * (κ + 1) : Nat) : Int) := by omega
    have e : (((κ + 1) * (κ + 1) : Nat) : Int) = (κ : Int) * κ + (2 * κ + 1) := by push_cast; grind
    omega
  unfold meetK
  rw [← hκ]
  obtain ⟨k, hk⟩ : ∃ k : Int, k = κ := ⟨_, rfl⟩
  rw [← hk] at k1 k2 ⊢
  have hk0 : 0 ≤ k := by omega
  obtain ⟨D, hD⟩ : ∃ D, D = dd px py qx qy := ⟨_, rfl⟩
  obtain ⟨a, ha⟩ : ∃ a, a = aa px py r qx qy s := ⟨_, rfl⟩
  have hrest : rest px py r qx qy s = 4 * (r * r) * D - a * a := by unfold rest; rw [← hD, ← ha, four_sq]
  have hrest2 : rest px py r qx qy s = 4 * (s * s) * D - (a - 2 * D) * (a - 2 * D) := by
    rw [hrest, ha]; unfold aa; rw [← hD]; grind
  rw [← hD] at hd0 ⊢
  rw [← ha]
  have hDe : D = (qx - px) * (qx - px) + (qy - py) * (qy - py) := hD
  have one : ∀ kk : Int, kk * kk = k * k → (Zy (plX px a kk (qx - px) (qy - py) D) = false ∧ Zy (plY py a kk (qx - px) (qy - py) D) = false) ∧ ∃ n1 n2 : Int, offS (plX px a kk (qx - px) (qy - py) D) (plY py a kk (qx - px) (qy - py) D) px py r = (0, n1) ∧ n1 ≤ 3 ∧ offS (plX px a kk (qx - px) (qy - py) D) (plY py a kk (qx - px) (qy - py) D) qx qy s = (0, n2) ∧ n2 ≤ 3 := by
    intro kk hkk
    obtain ⟨x, hx⟩ : ∃ x, x = a * (qx - px) + -kk * (qy - py) := ⟨_, rfl⟩
    obtain ⟨y, hy⟩ : ∃ y, y = a * (qy - py) + kk * (qx - px) := ⟨_, rfl⟩
    have bx := J0g (x := x) (y := 2 * D) (by omega)
    have b_y := J0g (x := y) (y := 2 * D) (by omega)
    have eX : plX px a kk (qx - px) (qy - py) D = rnd x (2 * D) + px := by rw [hx]; rfl
    have eY : plY py a kk (qx - px) (qy - py) D = rnd y (2 * D) + py := by rw [hy]; rfl
    rw [eX, eY]
    generalize rnd x (2 * D) = u at *
    generalize rnd y (2 * D) = v at *
    have e4 : ∀ w : Int, 2 * (2 * D) * w = 2 * (2 * D * w) := fun w => by grind
    rw [e4] at bx b_y
    have hxy : x * x + y * y = (a * a + k * k) * D := by rw [← hkk, hx, hy, hDe]; grind
    have hxy2 : (x - 2 * D * (qx - px)) * (x - 2 * D * (qx - px)) + (y - 2 * D * (qy - py)) * (y - 2 * D * (qy - py)) = ((a - 2 * D) * (a - 2 * D) + k * k) * D := by
      rw [← hkk, hx, hy, hDe]; grind
    have N1 := near_place (x := x) (y := y) (a := a) (k := k) (D := D) (r := r) (u := u) (v := v) hd0 hr.1 hk0 hxy (by omega) (by omega) (by omega) (by omega)
    have e5 : ∀ w z : Int, 2 * D * (w - z) = 2 * D * w - 2 * D * z := fun w z => Int.mul_sub _ _ _
    have N2 := near_place (x := x - 2 * D * (qx - px)) (y := y - 2 * D * (qy - py)) (a := a - 2 * D) (k := k) (D := D) (r := s) (u := u - (qx - px)) (v := v - (qy - py)) hd0 hs.1 hk0 hxy2 (by omega) (by omega) (by rw [e5]; omega) (by rw [e5]; omega)
    obtain ⟨f, n1, g1, g2⟩ := off_near (X := u + px) (Y := v + py) (px := px) (py := py) (by omega) (by omega) hr hp hpy N1.1 N1.2
    obtain ⟨_, n2, g3, g4⟩ := off_near (X := u + px) (Y := v + py) (px := qx) (py := qy) (u := u - (qx - px)) (v := v - (qy - py)) (by omega) (by omega) hs hq hqy N2.1 N2.2
    exact ⟨f, n1, n2, g1, g2, g3, g4⟩
  obtain ⟨⟨f1, f2⟩, n1, n2, g1, g2, g3, g4⟩ := one k rfl
  obtain ⟨⟨f3, f4⟩, n3, n4, g5, g6, g7, g8⟩ := one (-k) (by grind)
  rw [f1, f2, f3, f4]
  exact ⟨_, _, _, _, n1, n2, n3, n4, rfl, g1, g2, g3, g4, g5, g6, g7, g8⟩
end Go.Proofs.YtlgpemndbfclfaaDoor
namespace Go.Proofs.YtlgpemndbfclfaaDoor
open Go.AL Go.PW Go.PD Go.PR
theorem tf4ZcD : type_of% (Jc @Yj (Jc @Xz (Jc @Zn (Jc @tyb5 (Jc @Uq (Jc @Up (Jc @Zs (Jc @Zr (Jc @tyb40 (Jc @tyb44 (@cv40_2))))))))))) := Jc @Yj (Jc @Xz (Jc @Zn (Jc @tyb5 (Jc @Uq (Jc @Up (Jc @Zs (Jc @Zr (Jc @tyb40 (Jc @tyb44 (@cv40_2))))))))))
set_option maxRecDepth 8000
theorem tr_small (k : Int) : (-35000 ≤ trX k ∧ trX k ≤ 60000) ∧ -35000 ≤ trY k ∧ trY k ≤ 60000 := by
  unfold trX trY; constructor <;> (repeat' split) <;> omega
set_option maxHeartbeats 8000000 in
theorem circlesTrue_s (k x y dx dy : Int) (hk : 0 ≤ k ∧ k ≤ 255) (hx : -32768 ≤ x ∧ x ≤ 32767) (hy : -32768 ≤ y ∧ y ≤ 32767) (hdx : -32768 ≤ dx ∧ dx ≤ 32767) (hdy : -32768 ≤ dy ∧ dy ≤ 32767) :
    Fn 4 [.int .u8 k, .int .i16 x, .int .i16 y, .int .i16 dx, .int .i16 dy] (.bool true) := by
  have KN := known_s
  have T := Truth_s k hk
  obtain ⟨⟨t1, t2⟩, t3, t4⟩ := tr_small k
  generalize trX k = tx at *
  generalize trY k = ty at *
  have s1 := Rx (x := x - tx) (b := 131072) (by decide) (by omega)
  have s2 := Rx (x := y - ty) (b := 131072) (by decide) (by omega)
  have s3 := Rx (x := x + dx - tx) (b := 131072) (by decide) (by omega)
  have s4 := Rx (x := y + dy - ty) (b := 131072) (by decide) (by omega)
  obtain ⟨n, hn⟩ : ∃ n : Nat, (n : Int) = (x - tx) * (x - tx) + (y - ty) * (y - ty) := ⟨((x - tx) * (x - tx) + (y - ty) * (y - ty)).toNat, by omega⟩
  obtain ⟨m, hm⟩ : ∃ m : Nat, (m : Int) = (x + dx - tx) * (x + dx - tx) + (y + dy - ty) * (y + dy - ty) := ⟨((x + dx - tx) * (x + dx - tx) + (y + dy - ty) * (y + dy - ty)).toNat, by omega⟩
  have e128 : (2 : Nat) ^ 128 = 340282366920938463463374607431768211456 := by decide
  have l1 := rt_lt (n := n) (b := 200000) (by omega) (by omega)
  have l2 := rt_lt (n := m) (b := 200000) (by omega) (by omega)
  have H1 := RHypot_s (x - tx) (y - ty) n (by omega) (by omega) hn
  have H2 := RHypot_s (x + dx - tx) (y + dy - ty) m (by omega) (by omega) hm
  obtain ⟨r, hr⟩ : ∃ r : Int, r = ((rt n : Nat) : Int) := ⟨_, rfl⟩
  obtain ⟨s, hs⟩ : ∃ s : Int, s = ((rt m : Nat) : Int) := ⟨_, rfl⟩
  rw [← hr] at H1
  rw [← hs] at H2
  have M := Meet_s x y r (x + dx) (y + dy) s 1000
  have w0 : ∀ z : Int, -32768 ≤ z ∧ z ≤ 32767 → IntKind.i64.wrap z = z := fun z h => Q3 (by omega) (by omega)
  have w1 := w0 x hx
  have w2 := w0 y hy
  have w3 := w0 dx hdx
  have w4 := w0 dy hdy
  have w5 : IntKind.i64.wrap (x + dx) = x + dx := Q3 (by omega) (by omega)
  have w6 : IntKind.i64.wrap (y + dy) = y + dy := Q3 (by omega) (by omega)
  have w7 : IntKind.i64.wrap (x - tx) = x - tx := Q3 (by omega) (by omega)
  have w8 : IntKind.i64.wrap (y - ty) = y - ty := Q3 (by omega) (by omega)
  have w9 : IntKind.i64.wrap (x + dx - tx) = x + dx - tx := Q3 (by omega) (by omega)
  have wa : IntKind.i64.wrap (y + dy - ty) = y + dy - ty := Q3 (by omega) (by omega)
  have S1 := says_s 33 33 (by decide)
  have S2 := says_s 34 33 (by decide)
  have S3 := says_s 34 34 (by decide)
  rw [Vz] at S1
  rw [Yq] at S2 S3
  rcases true_meet (px := x) (py := y) (r := r) (qx := x + dx) (qy := y + dy) (s := s) (by omega) (by omega) (by omega) (by omega) (by omega) (by omega) with h | h | ⟨X, Y, X', Y', n1, n2, n3, n4, h, g1, u1, g2, u2, g3, u3, g4, u4⟩
  all_goals rw [h] at M
  · skip
    refine Sure.body (by first | (simp only [RT]; done) | simp_all only [RT]) Tryd.func4 rfl (by kernel_rfl) (by kernel_rfl) ?_
    repeat' first
      | (with_reducible first | refine Jj (fun K hK => ?_) | refine Js ?_ | refine Q2 ?_ | refine Qc ?_ | refine Qb ?_ | refine Jg ?_ | refine Jq ?_)
      | (with_reducible refine Qu (KN) (Qo _ _) ?_)
      | (with_reducible refine Qu (T) (Qo _ _) ?_)
      | (with_reducible refine Qu (H1) (Qo _ _) ?_)
      | (with_reducible refine Qu (H2) (Qo _ _) ?_)
      | (with_reducible refine Qu (M) (Qo _ _) ?_)
      | (with_reducible refine Qu (S1) (Qo _ _) ?_)
      | (with_reducible refine Jv (fun hc => ?_) (fun hc => ?_) <;> (try simp only [RC] at hc) <;> (try (exfalso; first | omega | contradiction)))
      | (with_reducible refine X3 (fun hc => ?_) (fun hc => ?_) <;> (try simp only [RC] at hc) <;> (try (exfalso; first | omega | contradiction)))
      | (simp only [Q8, Jk, reduceIte, J0])
      | ((with_reducible refine hK _ _ ?_); clear hK)
      | (clear hK; (with_reducible refine hK _ _ ?_); clear hK)
      | (clear hK; clear hK; (with_reducible refine hK _ _ ?_); clear hK)
      | (clear hK; clear hK; clear hK; (with_reducible refine hK _ _ ?_); clear hK)
      | (clear hK; clear hK; clear hK; clear hK; (with_reducible refine hK _ _ ?_); clear hK)
      | (clear hK; clear hK; clear hK; clear hK; clear hK; (with_reducible refine hK _ _ ?_); clear hK)
      | (simp only [Qa, RA, Jo, Jn, Jp, Q7, Q5, ev, ofValue, Ju, J0, J3, J2, J4, reduceCtorEq, reduceIte, Jx, Qm, Qk, Q1, aun, Qj, Jm, Jh, Q0, Jz, Ji, Qi, Jf, Q6, Jr, J1, J5, Ja, J9, Jb, J6, J7, Jd, J8, RB, Jy, Je, RZ, tf4ZcD, w1, w2, w3, w4, w5, w6, w7, w8, w9, wa, Vw, Vz, Xq Z0])
      | (simp (disch := first | omega | (simp only [RO]; done) | assumption) only [RS, RG, six44, gix44, zix44, Ya, Yc, Zg, Yb])
      | (simp (disch := (first | omega | (simp only [RO]; done) | assumption | (simp only [RM, Je]; done) | (simp only [RL, Je]; omega))) only [RD, reduceCtorEq, reduceIte, Je, J1, J3, J2, J6, tf4ZcD, w1, w2, w3, w4, w5, w6, w7, w8, w9, wa, Vw, Vz, Xq Z0])
    all_goals
      (
       (refine Q9 (rs := [.tmp 10]) rfl ?_)
       (simp only [Qt, Q4, RA, RZ, J0, J3, J1, reduceCtorEq, reduceIte, tf4ZcD])
       (try simp only [RF]))
  · skip
    refine Sure.body (by first | (simp only [RT]; done) | simp_all only [RT]) Tryd.func4 rfl (by kernel_rfl) (by kernel_rfl) ?_
    repeat' first
      | (with_reducible first | refine Jj (fun K hK => ?_) | refine Js ?_ | refine Q2 ?_ | refine Qc ?_ | refine Qb ?_ | refine Jg ?_ | refine Jq ?_)
      | (with_reducible refine Qu (KN) (Qo _ _) ?_)
      | (with_reducible refine Qu (T) (Qo _ _) ?_)
      | (with_reducible refine Qu (H1) (Qo _ _) ?_)
      | (with_reducible refine Qu (H2) (Qo _ _) ?_)
      | (with_reducible refine Qu (M) (Qo _ _) ?_)
      | (with_reducible refine Qu (S2) (Qo _ _) ?_)
      | (with_reducible refine Qu (S3) (Qo _ _) ?_)
      | (with_reducible refine Jv (fun hc => ?_) (fun hc => ?_) <;> (try simp only [RC] at hc) <;> (try (exfalso; first | omega | contradiction)))
      | (with_reducible refine X3 (fun hc => ?_) (fun hc => ?_) <;> (try simp only [RC] at hc) <;> (try (exfalso; first | omega | contradiction)))
      | (simp only [Q8, Jk, reduceIte, J0])
      | ((with_reducible refine hK _ _ ?_); clear hK)
      | (clear hK; (with_reducible refine hK _ _ ?_); clear hK)
      | (clear hK; clear hK; (with_reducible refine hK _ _ ?_); clear hK)
      | (clear hK; clear hK; clear hK; (with_reducible refine hK _ _ ?_); clear hK)
      | (clear hK; clear hK; clear hK; clear hK; (with_reducible refine hK _ _ ?_); clear hK)
      | (clear hK; clear hK; clear hK; clear hK; clear hK; (with_reducible refine hK _ _ ?_); clear hK)
      | (simp only [Qa, RA, Jo, Jn, Jp, Q7, Q5, ev, ofValue, Ju, J0, J3, J2, J4, reduceCtorEq, reduceIte, Jx, Qm, Qk, Q1, aun, Qj, Jm, Jh, Q0, Jz, Ji, Qi, Jf, Q6, Jr, J1, J5, Ja, J9, Jb, J6, J7, Jd, J8, RB, Jy, Je, RZ, tf4ZcD, w1, w2, w3, w4, w5, w6, w7, w8, w9, wa, Vw, Yq, Xq Z0])
      | (simp (disch := first | omega | (simp only [RO]; done) | assumption) only [RS, RG, six44, gix44, zix44, Ya, Yc, Zg, Yb])
      | (simp (disch := (first | omega | (simp only [RO]; done) | assumption | (simp only [RM, Je]; done) | (simp only [RL, Je]; omega))) only [RD, reduceCtorEq, reduceIte, Je, J1, J3, J2, J6, tf4ZcD, w1, w2, w3, w4, w5, w6, w7, w8, w9, wa, Vw, Yq, Xq Z0])
    all_goals
      (
       (refine Q9 (rs := [.tmp 10]) rfl ?_)
       (simp only [Qt, Q4, RA, RZ, J0, J3, J1, reduceCtorEq, reduceIte, tf4ZcD])
       (try simp only [RF]))
  have O1 := Off_s X Y x y r
  have O2 := Off_s X Y (x + dx) (y + dy) s
  have O3 := Off_s X' Y' x y r
  have O4 := Off_s X' Y' (x + dx) (y + dy) s
  rw [g1] at O1
  rw [g2] at O2
  rw [g3] at O3
  rw [g4] at O4
  have v1 : (3 < n1) = False := eq_false (by omega)
  have v2 : (3 < n2) = False := eq_false (by omega)
  have v3 : (3 < n3) = False := eq_false (by omega)
  have v4 : (3 < n4) = False := eq_false (by omega)
  refine Sure.body (by first | (simp only [RT]; done) | simp_all only [RT]) Tryd.func4 rfl (by kernel_rfl) (by kernel_rfl) ?_
  repeat' first
    | (with_reducible first | refine Jj (fun K hK => ?_) | refine Js ?_ | refine Q2 ?_ | refine Qc ?_ | refine Qb ?_ | refine Jg ?_ | refine Jq ?_)
    | (with_reducible refine Qu (KN) (Qo _ _) ?_)
    | (with_reducible refine Qu (T) (Qo _ _) ?_)
    | (with_reducible refine Qu (H1) (Qo _ _) ?_)
    | (with_reducible refine Qu (H2) (Qo _ _) ?_)
    | (with_reducible refine Qu (M) (Qo _ _) ?_)
    | (with_reducible refine Jv (fun hc => ?_) (fun hc => ?_) <;> (try simp only [RC] at hc) <;> (try (exfalso; first | omega | contradiction)))
    | (with_reducible refine X3 (fun hc => ?_) (fun hc => ?_) <;> (try simp only [RC] at hc) <;> (try (exfalso; first | omega | contradiction)))
    | (simp only [Q8, Jk, reduceIte, J0])
    | ((with_reducible refine hK _ _ ?_); clear hK)
    | (clear hK; (with_reducible refine hK _ _ ?_); clear hK)
    | (clear hK; clear hK; (with_reducible refine hK _ _ ?_); clear hK)
    | (clear hK; clear hK; clear hK; (with_reducible refine hK _ _ ?_); clear hK)
    | (clear hK; clear hK; clear hK; clear hK; (with_reducible refine hK _ _ ?_); clear hK)
    | (clear hK; clear hK; clear hK; clear hK; clear hK; (with_reducible refine hK _ _ ?_); clear hK)
    | (simp only [Qa, RA, Jo, Jn, Jp, Q7, Q5, ev, ofValue, Ju, J0, J3, J2, J4, reduceCtorEq, reduceIte, Jx, Qm, Qk, Q1, aun, Qj, Jm, Jh, Q0, Jz, Ji, Qi, Jf, Q6, Jr, J1, J5, Ja, J9, Jb, J6, J7, Jd, J8, RB, Jy, Je, RZ, tf4ZcD, w1, w2, w3, w4, w5, w6, w7, w8, w9, wa, Vw, Zf, Z7 Z0])
    | (simp (disch := first | omega | (simp only [RO]; done) | assumption) only [RS, RG, six44, gix44, zix44, Ya, Yc, Zg, Yb])
    | (simp (disch := (first | omega | (simp only [RO]; done) | assumption | (simp only [RM, Je]; done) | (simp only [RL, Je]; omega))) only [RD, reduceCtorEq, reduceIte, Je, J1, J3, J2, J6, tf4ZcD, w1, w2, w3, w4, w5, w6, w7, w8, w9, wa, Vw, Zf, Z7 Z0])
  refine Xr (fun m fr' H' => fr' 12 = .ptr 2 0 ∧ fr' 13 = .ptr 3 0 ∧ fr' 14 = .int .i64 r ∧ fr' 16 = .int .i64 s ∧ fr' 94 = .sl 6 0 2 2 ∧ fr' 95 = .int .i64 2 ∧
      ((m = 2 ∧ fr' 96 = .int .i64 0 ∧ H' = [Nt, Pb tx ty, Pb x y, Pb (x + dx) (y + dy), Pb X Y, Pb X' Y', ⟨[.int .i64 X, .int .i64 Y, .int .i64 X', .int .i64 Y'], .own, 23⟩]) ∨
       (m = 1 ∧ fr' 96 = .int .i64 1 ∧ H' = [Nt, Pb tx ty, Pb x y, Pb (x + dx) (y + dy), Pb X Y, Pb X' Y', ⟨[.int .i64 X, .int .i64 Y, .int .i64 X', .int .i64 Y'], .own, 23⟩, Pb X Y]) ∨
       (m = 0 ∧ fr' 96 = .int .i64 2 ∧ H' = [Nt, Pb tx ty, Pb x y, Pb (x + dx) (y + dy), Pb X Y, Pb X' Y', ⟨[.int .i64 X, .int .i64 Y, .int .i64 X', .int .i64 Y'], .own, 23⟩, Pb X Y, Pb X' Y']))) (m := 2) ⟨rfl, rfl, rfl, rfl, rfl, rfl, .inl ⟨rfl, rfl, rfl⟩⟩ ?_
  rintro m fr' H' ⟨k12, k13, k14, k16, k94, k95, ⟨rfl, k96, rfl⟩ | ⟨rfl, k96, rfl⟩ | ⟨rfl, k96, rfl⟩⟩
  · skip
    repeat' first
      | (with_reducible first | refine Jj (fun K hK => ?_) | refine Js ?_ | refine Q2 ?_ | refine Qc ?_ | refine Qb ?_ | refine Jg ?_ | refine Jq ?_)
      | (with_reducible refine Qu (O1) (Qo _ _) ?_)
      | (with_reducible refine Qu (O2) (Qo _ _) ?_)
      | (with_reducible refine Jv (fun hc => ?_) (fun hc => ?_) <;> (try simp only [RC] at hc) <;> (try (exfalso; first | omega | contradiction)))
      | (with_reducible refine X3 (fun hc => ?_) (fun hc => ?_) <;> (try simp only [RC] at hc) <;> (try (exfalso; first | omega | contradiction)))
      | (simp only [Q8, Jk, reduceIte, J0])
      | ((with_reducible refine hK _ _ ?_); clear hK)
      | (clear hK; (with_reducible refine hK _ _ ?_); clear hK)
      | (clear hK; clear hK; (with_reducible refine hK _ _ ?_); clear hK)
      | (clear hK; clear hK; clear hK; (with_reducible refine hK _ _ ?_); clear hK)
      | (clear hK; clear hK; clear hK; clear hK; (with_reducible refine hK _ _ ?_); clear hK)
      | (clear hK; clear hK; clear hK; clear hK; clear hK; (with_reducible refine hK _ _ ?_); clear hK)
      | (simp only [Qa, RA, Jo, Jn, Jp, Q7, Q5, ev, ofValue, Ju, J0, J3, J2, J4, reduceCtorEq, reduceIte, Jx, Qm, Qk, Q1, aun, Qj, Jm, Jh, Q0, Jz, Ji, Qi, Jf, Q6, Jr, J1, J5, Ja, J9, Jb, J6, J7, Jd, J8, RB, Jy, Je, RZ, tf4ZcD, k12, k13, k14, k16, k94, k95, k96, offA, Zf, Z7 Z0, v1, v2])
      | (simp (disch := first | omega | (simp only [RO]; done) | assumption) only [RS, RG, six44, gix44, zix44, Ya, Yc, Zg, Yb])
      | (simp (disch := (first | omega | (simp only [RO]; done) | assumption | (simp only [RM, Je]; done) | (simp only [RL, Je]; omega))) only [RD, reduceCtorEq, reduceIte, Je, J1, J3, J2, J6, tf4ZcD, k12, k13, k14, k16, k94, k95, k96, offA, Zf, Z7 Z0, v1, v2])
    all_goals exact ⟨1, by omega, by simp; decide +kernel⟩
  · skip
    repeat' first
      | (with_reducible first | refine Jj (fun K hK => ?_) | refine Js ?_ | refine Q2 ?_ | refine Qc ?_ | refine Qb ?_ | refine Jg ?_ | refine Jq ?_)
      | (with_reducible refine Qu (O3) (Qo _ _) ?_)
      | (with_reducible refine Qu (O4) (Qo _ _) ?_)
      | (with_reducible refine Jv (fun hc => ?_) (fun hc => ?_) <;> (try simp only [RC] at hc) <;> (try (exfalso; first | omega | contradiction)))
      | (with_reducible refine X3 (fun hc => ?_) (fun hc => ?_) <;> (try simp only [RC] at hc) <;> (try (exfalso; first | omega | contradiction)))
      | (simp only [Q8, Jk, reduceIte, J0])
      | ((with_reducible refine hK _ _ ?_); clear hK)
      | (clear hK; (with_reducible refine hK _ _ ?_); clear hK)
      | (clear hK; clear hK; (with_reducible refine hK _ _ ?_); clear hK)
      | (clear hK; clear hK; clear hK; (with_reducible refine hK _ _ ?_); clear hK)
      | (clear hK; clear hK; clear hK; clear hK; (with_reducible refine hK _ _ ?_); clear hK)
      | (clear hK; clear hK; clear hK; clear hK; clear hK; (with_reducible refine hK _ _ ?_); clear hK)
      | (simp only [Qa, RA, Jo, Jn, Jp, Q7, Q5, ev, ofValue, Ju, J0, J3, J2, J4, reduceCtorEq, reduceIte, Jx, Qm, Qk, Q1, aun, Qj, Jm, Jh, Q0, Jz, Ji, Qi, Jf, Q6, Jr, J1, J5, Ja, J9, Jb, J6, J7, Jd, J8, RB, Jy, Je, RZ, tf4ZcD, k12, k13, k14, k16, k94, k95, k96, offA, Zf, Z7 Z0, v3, v4])
      | (simp (disch := first | omega | (simp only [RO]; done) | assumption) only [RS, RG, six44, gix44, zix44, Ya, Yc, Zg, Yb])
      | (simp (disch := (first | omega | (simp only [RO]; done) | assumption | (simp only [RM, Je]; done) | (simp only [RL, Je]; omega))) only [RD, reduceCtorEq, reduceIte, Je, J1, J3, J2, J6, tf4ZcD, k12, k13, k14, k16, k94, k95, k96, offA, Zf, Z7 Z0, v3, v4])
    all_goals exact ⟨0, by omega, by simp; decide +kernel⟩
  · skip
    repeat' first
      | (with_reducible first | refine Jj (fun K hK => ?_) | refine Js ?_ | refine Q2 ?_ | refine Qc ?_ | refine Qb ?_ | refine Jg ?_ | refine Jq ?_)
      | (with_reducible refine Jv (fun hc => ?_) (fun hc => ?_) <;> (try simp only [RC] at hc) <;> (try (exfalso; first | omega | contradiction)))
      | (with_reducible refine X3 (fun hc => ?_) (fun hc => ?_) <;> (try simp only [RC] at hc) <;> (try (exfalso; first | omega | contradiction)))
      | (simp only [Q8, Jk, reduceIte, J0])
      | ((with_reducible refine hK _ _ ?_); clear hK)
      | (clear hK; (with_reducible refine hK _ _ ?_); clear hK)
      | (clear hK; clear hK; (with_reducible refine hK _ _ ?_); clear hK)
      | (clear hK; clear hK; clear hK; (with_reducible refine hK _ _ ?_); clear hK)
      | (clear hK; clear hK; clear hK; clear hK; (with_reducible refine hK _ _ ?_); clear hK)
      | (clear hK; clear hK; clear hK; clear hK; clear hK; (with_reducible refine hK _ _ ?_); clear hK)
      | (simp only [Qa, RA, Jo, Jn, Jp, Q7, Q5, ev, ofValue, Ju, J0, J3, J2, J4, reduceCtorEq, reduceIte, Jx, Qm, Qk, Q1, aun, Qj, Jm, Jh, Q0, Jz, Ji, Qi, Jf, Q6, Jr, J1, J5, Ja, J9, Jb, J6, J7, Jd, J8, RB, Jy, Je, RZ, tf4ZcD, k12, k13, k14, k16, k94, k95, k96])
      | (simp (disch := first | omega | (simp only [RO]; done) | assumption) only [RS, RG, six44, gix44, zix44, Ya, Yc, Zg, Yb])
      | (simp (disch := (first | omega | (simp only [RO]; done) | assumption | (simp only [RM, Je]; done) | (simp only [RL, Je]; omega))) only [RD, reduceCtorEq, reduceIte, Je, J1, J3, J2, J6, tf4ZcD, k12, k13, k14, k16, k94, k95, k96])
    all_goals
      (
       (refine Q9 (rs := [.tmp 10]) rfl ?_)
       (simp only [Qt, Q4, RA, RZ, J0, J3, J1, reduceCtorEq, reduceIte, tf4ZcD])
       (try simp only [RF]))
end Go.Proofs.YtlgpemndbfclfaaDoor
namespace Go.Proofs.YtlgpemndbfclfaaDoor
open Go.AL
theorem wf_u8 {n : Int} (h : (Lit.int .u8 n).wf = true) : 0 ≤ n ∧ n ≤ 255 := by
  simp only [Lit.wf, Bool.and_eq_true, decide_eq_true_eq] at h
  have h1 : IntKind.u8.min = 0 := by decide +kernel
  have h2 : IntKind.u8.max = 255 := by decide +kernel
  omega
theorem wf_i16 {n : Int} (h : (Lit.int .i16 n).wf = true) : -32768 ≤ n ∧ n ≤ 32767 := by
  simp only [Lit.wf, Bool.and_eq_true, decide_eq_true_eq] at h
  have h1 : IntKind.i16.min = -32768 := by decide +kernel
  have h2 : IntKind.i16.max = 32767 := by decide +kernel
  omega
end Go.Proofs.YtlgpemndbfclfaaDoor

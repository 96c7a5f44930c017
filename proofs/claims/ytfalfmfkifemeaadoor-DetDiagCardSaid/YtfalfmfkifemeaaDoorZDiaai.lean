/- Part 9 of the proof of laws of this seat: lemmas on the model's code, on this program's functions, on numbers. No condition. -/
import Derived.Test.YtfalfmfkifemeaaDoorZDiaah
set_option linter.unusedVariables false
namespace Go.PW
theorem emod_mul_pos {a b p : Int} (hp : 0 < p) : a * p % (b * p) = a % b * p := by
  rw [Int.mul_comm a p, Int.mul_comm b p, Int.mul_emod_mul_of_pos _ _ hp, Int.mul_comm]
theorem two_split {s : Nat} (hs : s ≤ 64) : (2 : Int) ^ s * 2 ^ (64 - s) = Bs := by
  rw [← Int.pow_add, show s + (64 - s) = 64 by omega]; decide
theorem two_pos (s : Nat) : (0 : Int) < 2 ^ s := Int.pow_pos (by decide)
/-- A limb moved to the left falls in two. -/
theorem shl_split {x : Int} {s : Nat} (hs : s ≤ 64) (hx : 0 ≤ x) : x * 2 ^ s = x * 2 ^ s % Bs + Bs * (x / 2 ^ (64 - s)) ∧ x * 2 ^ s % Bs = x % 2 ^ (64 - s) * 2 ^ s := by
  have hp := two_pos s
  have hq := two_pos (64 - s)
  have h := two_split hs
  have e : Bs = 2 ^ (64 - s) * 2 ^ s := by rw [← h, Int.mul_comm]
  have e1 : x * 2 ^ s / Bs = x / 2 ^ (64 - s) := by rw [e, Int.mul_ediv_mul_of_pos_left _ _ hp]
  have e2 : x * 2 ^ s % Bs = x % 2 ^ (64 - s) * 2 ^ s := by rw [e, emod_mul_pos hp]
  refine ⟨?_, e2⟩
  rw [← e1]
  have := Int.emod_add_mul_ediv (x * 2 ^ s) Bs
  omega
theorem shr_lt {x : Int} {s : Nat} (hs : s ≤ 64) (hx : x < Bs) : x / 2 ^ (64 - s) < 2 ^ s := by
  apply Int.ediv_lt_of_lt_mul (two_pos _)
  rw [two_split hs]; exact hx
/-- What a guess is to be. -/
theorem guess_start {B u2 u1 u0 v1 v0 : Int} (hB : 0 < B) (h2 : 0 ≤ u2) (h1 : 0 ≤ u1) (h0 : 0 ≤ u0) (h0' : u0 < B) (hv1 : 0 < v1) (hv0 : 0 ≤ v0) : ((u2 * B + u1) * B + u0) / (v1 * B + v0) ≤ (u2 * B + u1) / v1 :=
  quo_le_guess hB hv1 h0' hv0 (by have := Int.mul_nonneg h2 (Int.le_of_lt hB); omega) h0
theorem guess_done {B u2 u1 u0 v1 v0 q r : Int} (hB : 0 < B) (hv1 : 0 < v1) (hv0 : 0 ≤ v0) (hr : q * v1 + r = u2 * B + u1) (ht : q * v0 ≤ r * B + u0) : q ≤ ((u2 * B + u1) * B + u0) / (v1 * B + v0) := by
  have hpos : 0 < v1 * B + v0 := by have := Int.mul_pos hv1 hB; omega
  apply le_ediv hpos
  have e : q * (v1 * B + v0) = q * v1 * B + q * v0 := by grind
  have e2 : (u2 * B + u1) * B = q * v1 * B + r * B := by rw [← hr]; grind
  omega
theorem guess_more {B u2 u1 u0 v1 v0 q r : Int} (hB : 0 < B) (hv1 : 0 < v1) (hv0 : 0 ≤ v0) (hr : q * v1 + r = u2 * B + u1) (ht : r * B + u0 < q * v0) : ((u2 * B + u1) * B + u0) / (v1 * B + v0) ≤ q - 1 := by
  have hpos : 0 < v1 * B + v0 := by have := Int.mul_pos hv1 hB; omega
  have : ((u2 * B + u1) * B + u0) / (v1 * B + v0) < q := by
    rw [Int.ediv_lt_iff_lt_mul hpos]
    have e : q * (v1 * B + v0) = q * v1 * B + q * v0 := by grind
    have e2 : (u2 * B + u1) * B = q * v1 * B + r * B := by rw [← hr]; grind
    omega
  omega
/-- The test of the two halves. -/
theorem guess_test {p r u0 : Int} (hp : 0 ≤ p) (h0 : 0 ≤ u0 ∧ u0 < Bs) : (p / Bs < r ∨ p / Bs = r ∧ p % Bs ≤ u0) ↔ p ≤ r * Bs + u0 := by
  simp only [Bs] at *
  omega
theorem set_mid {α : Type} (a w b : List α) (i : Nat) (x : α) (h : i < w.length) : (a ++ w ++ b).set (a.length + i) x = a ++ w.set i x ++ b := by
  rw [List.append_assoc, List.set_append_right _ _ (by omega), show a.length + i - a.length = i by omega, List.set_append_left _ _ h, List.append_assoc]
theorem getD_mid (a w b : List Int) (i : Nat) (h : i < w.length) : (a ++ w ++ b).getD (a.length + i) 0 = w.getD i 0 := by
  rw [List.append_assoc, List.getD_eq_getElem?_getD, List.getElem?_append_right (by omega), show a.length + i - a.length = i by omega, List.getElem?_append_left h, ← List.getD_eq_getElem?_getD]
theorem split_mid {α : Type} (us : List α) {o k : Nat} (h : o + k ≤ us.length) : us = us.take o ++ (us.drop o).take k ++ us.drop (o + k) := by
  rw [List.append_assoc]
  have : (us.drop o).take k ++ us.drop (o + k) = us.drop o := by
    rw [← List.drop_drop, List.take_append_drop]
  rw [this, List.take_append_drop]
/-- The top limb of what is less. -/
theorem top_le {xs ys : List Int} (hx : Limbs xs) (hy : Limbs ys) {m : Nat} (hlx : xs.length = m + 1) (hly : ys.length = m + 1) (h : val xs < val ys) : xs.getD m 0 ≤ ys.getD m 0 := by
  have a := val_take_succ xs (i := m) (by omega)
  have b := val_take_succ ys (i := m) (by omega)
  rw [List.take_of_length_le (by omega)] at a b
  have c := val_bound (hx.take m)
  have d := val_bound (hy.take m)
  rw [List.length_take, Nat.min_eq_left (by omega)] at c d
  rcases Int.lt_or_le (ys.getD m 0) (xs.getD m 0) with hlt | hle
  · exfalso
    have := Int.mul_le_mul_of_nonneg_left (show ys.getD m 0 + 1 ≤ xs.getD m 0 by omega) (Int.le_of_lt (Bs_pow_pos m))
    rw [Int.mul_add] at this
    omega
  · exact hle
/-- The three highest limbs, and what is below. -/
theorem top_two {xs : List Int} {m : Nat} (hl : xs.length = m + 2) : val xs = (xs.getD (m + 1) 0 * Bs + xs.getD m 0) * Bs ^ m + val (xs.take m) := by
  have a := val_take_succ xs (i := m + 1) (by omega)
  have b := val_take_succ xs (i := m) (by omega)
  rw [List.take_of_length_le (by omega)] at a
  rw [Int.pow_succ] at a
  grind
theorem top_three {xs : List Int} {m : Nat} (hl : xs.length = m + 3) : val xs = ((xs.getD (m + 2) 0 * Bs + xs.getD (m + 1) 0) * Bs + xs.getD m 0) * Bs ^ m + val (xs.take m) := by
  have a := val_take_succ xs (i := m + 2) (by omega)
  have b := val_take_succ xs (i := m + 1) (by omega)
  have c := val_take_succ xs (i := m) (by omega)
  rw [List.take_of_length_le (by omega)] at a
  rw [Int.pow_succ, Int.pow_succ] at a
  rw [Int.pow_succ] at b
  grind
/-- One digit of a long division. -/
theorem div_digit {U V B u : Int} (hV : 0 < V) (hu : 0 ≤ u) : (B * U + u) / V = B * (U / V) + (B * (U % V) + u) / V ∧ (B * U + u) % V = (B * (U % V) + u) % V := by
  have h := Int.emod_add_mul_ediv U V
  have e : B * U + u = (B * (U % V) + u) + V * (B * (U / V)) := by
    conv => lhs; rw [← h]
    grind
  rw [e, Int.add_mul_ediv_left _ _ (by omega), Int.add_mul_emod_self_left]
  exact ⟨by omega, rfl⟩
/-- A limb moved to the right, with what comes from the next one. -/
theorem shr_join {z : Int} {s : Nat} (hs : s ≤ 64) (hz : 0 ≤ z) : z % Bs / 2 ^ s + z / Bs % Bs * 2 ^ (64 - s) % Bs = z / 2 ^ s % Bs := by
  have hp := two_pos s
  have hq := two_pos (64 - s)
  have e : Bs = 2 ^ s * 2 ^ (64 - s) := (two_split hs).symm
  have h := Int.emod_add_mul_ediv z Bs
  have h1 : z / 2 ^ s = z % Bs / 2 ^ s + 2 ^ (64 - s) * (z / Bs) := by
    conv => lhs; rw [← h]
    rw [show z % Bs + Bs * (z / Bs) = z % Bs + 2 ^ s * (2 ^ (64 - s) * (z / Bs)) by rw [← Int.mul_assoc, ← e], Int.add_mul_ediv_left _ _ (by omega)]
  rw [h1]
  have h2 : 0 ≤ z % Bs / 2 ^ s := Int.ediv_nonneg (Int.emod_nonneg _ (by decide)) (by omega)
  have h3 : z % Bs / 2 ^ s < 2 ^ (64 - s) := by
    apply Int.ediv_lt_of_lt_mul hp
    rw [Int.mul_comm, ← e]
    exact Int.emod_lt_of_pos _ (by decide)
  have h4 : z / Bs % Bs * 2 ^ (64 - s) % Bs = z / Bs % 2 ^ s * 2 ^ (64 - s) := by
    generalize z / Bs = k
    rw [e, emod_mul_pos hq, Int.emod_emod_of_dvd _ ⟨_, rfl⟩]
  have h5 : 2 ^ (64 - s) * (z / Bs) % Bs = z / Bs % 2 ^ s * 2 ^ (64 - s) := by
    generalize z / Bs = k
    rw [Int.mul_comm, e, emod_mul_pos hq]
  rw [h4, Int.add_emod, h5]
  have h6 : z / Bs % 2 ^ s * 2 ^ (64 - s) ≤ (2 ^ s - 1) * 2 ^ (64 - s) := Int.mul_le_mul_of_nonneg_right (by have := Int.emod_lt_of_pos (z / Bs) hp; omega) (Int.le_of_lt hq)
  have h7 : 0 ≤ z / Bs % 2 ^ s * 2 ^ (64 - s) := Int.mul_nonneg (Int.emod_nonneg _ (by omega)) (Int.le_of_lt hq)
  rw [Int.sub_mul, ← e] at h6
  generalize z / Bs % 2 ^ s * 2 ^ (64 - s) = k at *
  generalize z % Bs / 2 ^ s = l at *
  generalize (2 : Int) ^ (64 - s) = t at *
  have h8 : t ≤ Bs := by
    have := Int.mul_le_mul_of_nonneg_right (show (1 : Int) ≤ 2 ^ s by omega) (Int.le_of_lt hq)
    omega
  rw [Int.emod_eq_of_lt h2 (by omega), Int.emod_eq_of_lt (by omega) (by omega)]
end Go.PW
namespace Go.PW
theorem take_val {p q y c z b x b' c' vz vt vw : Int} (hx : x + q * y + c = z - b + Bs * b' + Bs * c') (h : vz + q * vt = vw + p * (b + c)) : vz + p * (x - z) + q * (vt + p * y) = vw + p * Bs * (b' + c') := by
  have e : x - z = Bs * (b' + c') - q * y - c - b := by rw [Int.mul_add]; omega
  rw [e]
  generalize Bs = B at *
  grind
theorem take_last {p q c z b x b' vz V vw : Int} (hx : x = z - c - b + Bs * b') (h : vz + q * V = vw + p * (b + c)) : vz + p * (x - z) + q * V = vw + p * Bs * b' := by
  have e : x - z = Bs * b' - c - b := by omega
  rw [e]
  generalize Bs = B at *
  grind
theorem back_val {p y c z x c' vz vt v0 : Int} (hx : x + Bs * c' = z + y + c) (h : vz + p * c = v0 + vt) : vz + p * (x - z) + p * Bs * c' = v0 + (vt + p * y) := by
  have e : x - z = y + c - Bs * c' := by omega
  rw [e]
  generalize Bs = B at *
  grind
theorem back_last {p c z x t vz V v0 : Int} (hx : x + Bs * t = z + c) (h : vz + p * c = v0 + V) : vz + p * (x - z) = v0 + V - p * Bs * t := by
  have e : x - z = c - Bs * t := by omega
  rw [e]
  generalize Bs = B at *
  grind
/-- Taken just so often as it goes. -/
theorem take_right {n V q v : Int} (hV : 0 < V) (hv : 0 ≤ v) (he : v + q * V = n) (hq : n / V ≤ q) : q = n / V ∧ v = n % V := by
  have h1 : q ≤ n / V := le_ediv hV (by omega)
  obtain rfl : q = n / V := by omega
  have := Int.emod_add_mul_ediv n V
  rw [Int.mul_comm] at this
  exact ⟨rfl, by omega⟩
/-- Taken once too often, and added again. -/
theorem take_over {n V q v f P t : Int} (hV : 0 < V) (hVP : V ≤ P) (hv : v < P) (hf : 0 ≤ f ∧ f < P) (he : v + q * V = n + P) (hq : q ≤ n / V + 1) (hfe : f = v + V - P * t) : q - 1 = n / V ∧ f = n % V := by
  have h1 : n / V < q := by
    rw [Int.ediv_lt_iff_lt_mul hV]; omega
  have hq' : q - 1 = n / V := by omega
  have hm := Int.emod_add_mul_ediv n V
  rw [Int.mul_comm, ← hq', Int.sub_mul, Int.one_mul] at hm
  have hm0 := Int.emod_nonneg n (b := V) (by omega)
  have hm1 := Int.emod_lt_of_pos n hV
  refine ⟨hq', ?_⟩
  have hd : f = n % V + P * (1 - t) := by rw [Int.mul_sub]; omega
  rcases Int.lt_trichotomy (1 - t) 0 with h | h | h
  · have := Int.mul_le_mul_of_nonneg_left (show 1 - t ≤ -1 by omega) (show 0 ≤ P by omega)
    omega
  · rw [h] at hd; omega
  · have := Int.mul_le_mul_of_nonneg_left (show 1 ≤ 1 - t by omega) (show 0 ≤ P by omega)
    omega
end Go.PW
set_option linter.unusedVariables false
namespace Go.PW
/-- Before the round of the k-th digit. -/
structure DInv (n : Nat) (U V : Int) (k : Nat) (us qs : List Int) : Prop where
  ul : us.length = n + 1
  uL : Limbs us
  uv : val (us.drop k) = U / Bs ^ k % V
  ug : ∀ j, j < k → us.getD j 0 = U / Bs ^ j % Bs
  ql : qs.length = 16
  qL : Limbs qs
  qv : val qs = Bs ^ k * (U / Bs ^ k / V)
  qg : ∀ j, j < k → qs.getD j 0 = 0
theorem val_high_zero {xs : List Int} (hx : Limbs xs) {m : Nat} (h : val xs < Bs ^ m) : val (xs.drop m) = 0 ∧ val (xs.take m) = val xs := by
  have h1 := val_take_drop xs m
  have h2 := val_bound (hx.take m)
  have h3 := val_bound (hx.drop m)
  rcases Nat.lt_or_ge xs.length m with hl | hl
  · rw [List.drop_of_length_le (by omega), List.take_of_length_le (by omega)]
    exact ⟨rfl, rfl⟩
  · rw [Nat.min_eq_left hl] at h1
    rcases Int.lt_or_le 0 (val (xs.drop m)) with h0 | h0
    · have := Int.mul_le_mul_of_nonneg_left (show 1 ≤ val (xs.drop m) by omega) (Int.le_of_lt (Bs_pow_pos m))
      omega
    · have h4 : val (xs.drop m) = 0 := by omega
      rw [h4, Int.mul_zero] at h1
      exact ⟨h4, by omega⟩
section
variable {n m i : Nat} {U V : Int} {us qs : List Int}
theorem DInv.window (D : DInv n U V (i + 1) us qs) (hin : i + m ≤ n) (hV : 0 < V) (hVm : V < Bs ^ m) :
    ((us.drop i).take (m + 1)).length = m + 1 ∧ Limbs ((us.drop i).take (m + 1)) ∧ val (((us.drop i).take (m + 1)).drop 1) = U / Bs ^ (i + 1) % V ∧ val (us.drop (i + m + 1)) = 0 ∧
    val ((us.drop i).take (m + 1)) = Bs * (U / Bs ^ (i + 1) % V) + U / Bs ^ i % Bs := by
  have hl := D.ul
  have h1 : ((us.drop i).take (m + 1)).length = m + 1 := by rw [List.length_take, List.length_drop]; omega
  have h2 : Limbs ((us.drop i).take (m + 1)) := (D.uL.drop i).take _
  have hR : U / Bs ^ (i + 1) % V < Bs ^ m := by have := Int.emod_lt_of_pos (U / Bs ^ (i + 1)) hV; omega
  obtain ⟨z1, z2⟩ := val_high_zero (D.uL.drop (i + 1)) (m := m) (by rw [D.uv]; exact hR)
  rw [List.drop_drop, show i + 1 + m = i + m + 1 by omega] at z1
  rw [D.uv] at z2
  have e : (us.drop i).take (m + 1) = us.getD i 0 :: (us.drop (i + 1)).take m := by rw [drop_cons_getD us (by omega), List.take_succ_cons]
  refine ⟨h1, h2, ?_, z1, ?_⟩
  · rw [e]; simpa using z2
  · rw [e]
    simp only [val]
    rw [z2, D.ug i (by omega)]
    omega
theorem DInv.round (D : DInv n U V (i + 1) us qs) (hin : i + m ≤ n) (hV : 0 < V) (hVm : V < Bs ^ m) (hi : i < 16) (hU : 0 ≤ U) :
    0 ≤ val ((us.drop i).take (m + 1)) / V ∧ val ((us.drop i).take (m + 1)) / V < Bs ∧
    DInv n U V i (us.take i ++ dig (m + 1) (val ((us.drop i).take (m + 1)) % V) ++ us.drop (i + m + 1)) (qs.set i (val ((us.drop i).take (m + 1)) / V)) := by
  obtain ⟨h1, h2, h3, h4, h5⟩ := D.window hin hV hVm
  have hl := D.ul
  generalize hw : (us.drop i).take (m + 1) = w at *
  have hR0 := Int.emod_nonneg (U / Bs ^ (i + 1)) (b := V) (by omega)
  have hR1 := Int.emod_lt_of_pos (U / Bs ^ (i + 1)) hV
  have hu0 := Int.emod_nonneg (U / Bs ^ i) (b := Bs) (by decide)
  have hu1 := Int.emod_lt_of_pos (U / Bs ^ i) (b := Bs) (by decide)
  have hd0 : 0 ≤ val w / V := Int.ediv_nonneg (val_bound h2).1 (by omega)
  have hd1 : val w / V < Bs := by
    rw [Int.ediv_lt_iff_lt_mul hV, h5]
    have := Int.mul_le_mul_of_nonneg_left (show U / Bs ^ (i + 1) % V + 1 ≤ V by omega) (show (0 : Int) ≤ Bs by decide)
    rw [Int.mul_add] at this
    omega
  have hsplit : U / Bs ^ i = Bs * (U / Bs ^ (i + 1)) + U / Bs ^ i % Bs := by
    have := Int.emod_add_mul_ediv (U / Bs ^ i) Bs
    have hps : Bs ^ (i + 1) = Bs ^ i * Bs := Int.pow_succ ..
    rw [Int.ediv_ediv_of_nonneg (Int.le_of_lt (Bs_pow_pos i)), ← hps] at this
    omega
  obtain ⟨g1, g2⟩ := div_digit (U := U / Bs ^ (i + 1)) (V := V) (B := Bs) (u := U / Bs ^ i % Bs) hV hu0
  rw [← hsplit, ← h5] at g1 g2
  have hmod0 := Int.emod_nonneg (val w) (b := V) (by omega)
  have hmod1 := Int.emod_lt_of_pos (val w) hV
  have hpl : (us.take i).length = i := by rw [List.length_take]; omega
  have hVm1 : V ≤ Bs ^ (m + 1) := by
    rw [Int.pow_succ]
    have := Int.mul_le_mul_of_nonneg_left (show 1 ≤ Bs by decide) (Int.le_of_lt (Bs_pow_pos m))
    omega
  have hdv : val (dig (m + 1) (val w % V)) = val w % V := by rw [val_dig, Int.emod_eq_of_lt hmod0 (by omega)]
  refine ⟨hd0, hd1, ⟨?_, ?_, ?_, ?_, ?_, D.qL.set i ⟨hd0, hd1⟩, ?_, ?_⟩⟩
  · simp only [List.length_append, hpl, dig_length, List.length_drop]; omega
  · exact Limbs.append.2 ⟨Limbs.append.2 ⟨D.uL.take i, dig_limbs _ _⟩, D.uL.drop _⟩
  · rw [List.append_assoc, List.drop_append_of_le_length (by omega), List.drop_of_length_le (by omega), List.nil_append, val_append, hdv, h4, Int.mul_zero, Int.add_zero, g2]
  · intro j hj
    have e : (us.take i ++ dig (m + 1) (val w % V) ++ us.drop (i + m + 1)).getD j 0 = us.getD j 0 := by
      rw [List.append_assoc, List.getD_eq_getElem?_getD, List.getElem?_append_left (by omega), List.getElem?_take_of_lt hj, ← List.getD_eq_getElem?_getD]
    rw [e]; exact D.ug j (by omega)
  · rw [List.length_set]; exact D.ql
  · rw [val_set _ (by rw [D.ql]; exact hi), D.qv, D.qg i (by omega), g1, Int.pow_succ, Int.sub_zero, Int.mul_assoc, Int.mul_add]
  · intro j hj
    rw [getD_set _ _ (by rw [D.ql]; exact hi), if_neg (by omega)]
    exact D.qg j (by omega)
end
theorem DInv.start {n m : Nat} {X V : Int} {s : Nat} {qs : List Int} (hq : qs = dig 16 0) (hm : 0 < m) (hmn : m ≤ n) (hs : s < 64) (hX0 : 0 ≤ X) (hX : X < Bs ^ n) (hV : Bs ^ (m - 1) * 2 ^ s ≤ V) : DInv n (X * 2 ^ s) V (n - m + 1) (dig (n + 1) (X * 2 ^ s)) qs := by
  have hU0 : 0 ≤ X * 2 ^ s := Int.mul_nonneg hX0 (Int.le_of_lt (two_pos s))
  have hp := Bs_pow_pos (n - m + 1)
  have hU : X * 2 ^ s / Bs ^ (n - m + 1) < V := by
    rw [Int.ediv_lt_iff_lt_mul hp]
    have h1 := Int.mul_lt_mul_of_pos_right hX (two_pos s)
    have h2 : Bs ^ n * 2 ^ s = Bs ^ (m - 1) * 2 ^ s * Bs ^ (n - m + 1) := by
      rw [show Bs ^ n = Bs ^ (m - 1) * Bs ^ (n - m + 1) by rw [← Int.pow_add]; congr 1; omega, Int.mul_assoc, Int.mul_assoc, Int.mul_comm (Bs ^ (n - m + 1))]
    have h3 := Int.mul_le_mul_of_nonneg_right hV (Int.le_of_lt hp)
    omega
  have hUq : 0 ≤ X * 2 ^ s / Bs ^ (n - m + 1) := Int.ediv_nonneg hU0 (Int.le_of_lt hp)
  have h2s : (2 : Int) ^ s ≤ Bs := by
    have h := two_split (s := s) (by omega)
    have h2 := two_pos (64 - s)
    have := Int.mul_le_mul_of_nonneg_left (show (1 : Int) ≤ 2 ^ (64 - s) by omega) (Int.le_of_lt (two_pos s))
    omega
  have hUn : X * 2 ^ s < Bs ^ (n + 1) := by
    rw [Int.pow_succ]
    have h1 := Int.mul_lt_mul_of_pos_right hX (two_pos s)
    have h2 := Int.mul_le_mul_of_nonneg_left h2s (Int.le_of_lt (Bs_pow_pos n))
    omega
  subst hq
  refine ⟨dig_length _ _, dig_limbs _ _, ?_, fun j hj => getD_dig _ _ _ (by omega), dig_length _ _, dig_limbs _ _, ?_, ?_⟩
  · rw [Int.emod_eq_of_lt hUq hU]
    have h := val_take_drop (dig (n + 1) (X * 2 ^ s)) (n - m + 1)
    rw [dig_length, Nat.min_eq_left (by omega), val_dig, Int.emod_eq_of_lt hU0 hUn] at h
    have hb := val_bound ((dig_limbs (n + 1) (X * 2 ^ s)).take (n - m + 1))
    rw [List.length_take, dig_length, Nat.min_eq_left (by omega)] at hb
    rw [Int.mul_comm (Bs ^ (n - m + 1))] at h
    exact (ediv_eq (q := val ((dig (n + 1) (X * 2 ^ s)).drop (n - m + 1))) hp (by omega) (by rw [Int.add_mul]; omega)).symm
  · rw [Int.ediv_eq_zero_of_lt hUq hU, val_dig]; simp
  · intro j hj
    rcases Nat.lt_or_ge j 16 with h | h
    · rw [getD_dig 16 0 j h]; simp
    · simp [List.getD, List.getElem?_eq_none (show (dig 16 0).length ≤ j by rw [dig_length]; exact h)]
/-- What the guess of the highest limbs is worth. -/
theorem guess_right {w vs : List Int} {m : Nat} (hw : Limbs w) (hv : Limbs vs) (hwl : w.length = m + 3) (hvl : vs.length = m + 2) (hlt : val (w.drop 1) < val vs) (hv1 : 0 < vs.getD (m + 1) 0) :
    w.getD (m + 2) 0 ≤ vs.getD (m + 1) 0 ∧
    val w / val vs ≤ min (Bs - 1) (((w.getD (m + 2) 0 * Bs + w.getD (m + 1) 0) * Bs + w.getD m 0) / (vs.getD (m + 1) 0 * Bs + vs.getD m 0)) ∧
    min (Bs - 1) (((w.getD (m + 2) 0 * Bs + w.getD (m + 1) 0) * Bs + w.getD m 0) / (vs.getD (m + 1) 0 * Bs + vs.getD m 0)) ≤ val w / val vs + 1 := by
  have hp := Bs_pow_pos m
  have w2 := hw.get (m + 2)
  have w1 := hw.get (m + 1)
  have w0 := hw.get m
  have v1 := hv.get (m + 1)
  have v0 := hv.get m
  have hwt := val_bound (hw.take m)
  have hvt := val_bound (hv.take m)
  rw [List.length_take, Nat.min_eq_left (by omega)] at hwt hvt
  have htop := top_le (hw.drop 1) hv (m := m + 1) (by rw [List.length_drop]; omega) (by omega) hlt
  have hg : (w.drop 1).getD (m + 1) 0 = w.getD (m + 2) 0 := by
    rw [List.getD_eq_getElem?_getD, List.getElem?_drop, List.getD_eq_getElem?_getD]; congr 2; omega
  rw [hg] at htop
  have ew := top_three hwl
  have ev := top_two hvl
  have hVpos : 0 < val vs := by have := (val_bound (hw.drop 1)).1; omega
  have hwd := val_drop_succ w (i := 0) (by omega)
  rw [List.drop_zero] at hwd
  have hw00 := hw.get 0
  have hqB : val w / val vs ≤ Bs - 1 := by
    have : val w / val vs < Bs := by
      rw [Int.ediv_lt_iff_lt_mul hVpos, hwd]
      have := Int.mul_le_mul_of_nonneg_left (show val (w.drop (0 + 1)) + 1 ≤ val vs from hlt) (show (0 : Int) ≤ Bs by decide)
      rw [Int.mul_add] at this
      omega
    omega
  refine ⟨htop, ?_, ?_⟩
  · have : val w / val vs ≤ ((w.getD (m + 2) 0 * Bs + w.getD (m + 1) 0) * Bs + w.getD m 0) / (vs.getD (m + 1) 0 * Bs + vs.getD m 0) := by
      rw [ew, ev]
      exact quo_le_guess hp (by simp only [Bs] at *; omega) hwt.2 hvt.1 (by simp only [Bs] at *; omega) hwt.1
    omega
  · generalize hT : ((w.getD (m + 2) 0 * Bs + w.getD (m + 1) 0) * Bs + w.getD m 0) / (vs.getD (m + 1) 0 * Bs + vs.getD m 0) = T
    have hT0 : 0 ≤ T := by rw [← hT]; exact Int.ediv_nonneg (by simp only [Bs] at *; omega) (by simp only [Bs] at *; omega)
    have hV2 : 0 < vs.getD (m + 1) 0 * Bs + vs.getD m 0 := by simp only [Bs] at *; omega
    have hTV : T * (vs.getD (m + 1) 0 * Bs + vs.getD m 0) ≤ (w.getD (m + 2) 0 * Bs + w.getD (m + 1) 0) * Bs + w.getD m 0 := by rw [← hT]; exact ediv_mul_le' _ hV2
    have hmm : min (Bs - 1) T * (vs.getD (m + 1) 0 * Bs + vs.getD m 0) ≤ T * (vs.getD (m + 1) 0 * Bs + vs.getD m 0) := Int.mul_le_mul_of_nonneg_right (by omega) (Int.le_of_lt hV2)
    have hB0 : (0 : Int) < Bs := by decide
    rw [ew, ev]
    exact guess_le (B := Bs) hp (by simp only [Bs] at *; omega) (by decide) hwt.1 hvt.1 hvt.2 (by omega) (by omega) (by omega)
end Go.PW
set_option linter.unusedVariables false
namespace Go.PW
def cellsOf (rs : List Int) : List Int := rs.flatMap (dig 16)
theorem cellsOf_length (rs : List Int) : (cellsOf rs).length = rs.length * 16 := by
  induction rs with
  | nil => rfl
  | cons r rs ih =>
    have : cellsOf (r :: rs) = dig 16 r ++ cellsOf rs := rfl
    rw [this, List.length_append, dig_length, ih, List.length_cons]
    omega
theorem cellsOf_get : ∀ (rs : List Int) (j : Nat), j < rs.length → ((cellsOf rs).drop (j * 16)).take 16 = dig 16 (rs.getD j 0)
  | r :: rs, 0, _ => by
    have : cellsOf (r :: rs) = dig 16 r ++ cellsOf rs := rfl
    rw [this, Nat.zero_mul, List.drop_zero, List.take_append_of_le_length (by rw [dig_length]; omega), List.take_of_length_le (by rw [dig_length]; omega)]
    rfl
  | r :: rs, j + 1, h => by
    have e : cellsOf (r :: rs) = dig 16 r ++ cellsOf rs := rfl
    have ih := cellsOf_get rs j (by simpa using h)
    rw [e, show (j + 1) * 16 = (dig 16 r).length + j * 16 by rw [dig_length]; omega, List.drop_append, List.drop_of_length_le (by omega), List.nil_append, Nat.add_sub_cancel_left, ih, List.getD_cons_succ]
theorem cellsOf_set : ∀ (rs : List Int) (j : Nat) (x : Int), j < rs.length → (cellsOf rs).take (j * 16) ++ dig 16 x ++ (cellsOf rs).drop (j * 16 + 16) = cellsOf (rs.set j x)
  | r :: rs, 0, x, _ => by
    have e : cellsOf (r :: rs) = dig 16 r ++ cellsOf rs := rfl
    have e2 : cellsOf (x :: rs) = dig 16 x ++ cellsOf rs := rfl
    rw [e, Nat.zero_mul, List.take_zero, List.nil_append, List.set_cons_zero, e2, Nat.zero_add, List.drop_append_of_le_length (by rw [dig_length]; omega), List.drop_of_length_le (by rw [dig_length]; omega), List.nil_append]
  | r :: rs, j + 1, x, h => by
    have e : cellsOf (r :: rs) = dig 16 r ++ cellsOf rs := rfl
    have e2 : cellsOf (r :: rs.set j x) = dig 16 r ++ cellsOf (rs.set j x) := rfl
    have ih := cellsOf_set rs j x (by simpa using h)
    rw [e, List.set_cons_succ, e2, ← ih, show (j + 1) * 16 = (dig 16 r).length + j * 16 by rw [dig_length]; omega, List.take_append, List.take_of_length_le (by omega), Nat.add_sub_cancel_left,
      show (dig 16 r).length + j * 16 + 16 = (dig 16 r).length + (j * 16 + 16) by omega, List.drop_append, List.drop_of_length_le (by omega), List.nil_append, Nat.add_sub_cancel_left]
    simp only [List.append_assoc]
theorem cellsOf_zeros (n : Nat) : cellsOf (List.replicate n 0) = List.replicate (n * 16) 0 := by
  induction n with
  | zero => rfl
  | succ n ih =>
    have e : cellsOf (0 :: List.replicate n 0) = dig 16 0 ++ cellsOf (List.replicate n 0) := rfl
    have e2 : dig 16 0 = List.replicate 16 0 := by decide
    rw [List.replicate_succ, e, ih, e2, List.replicate_append_replicate]
    congr 1
    omega
end Go.PW
set_option linter.unusedVariables false
namespace Go.PD
/-- A row contracted with a function on lists of columns. -/
def iota (r : Nat → Int) : List Nat → (List Nat → Int) → Int
  | [], _ => 0
  | a :: cs, F => r a * F cs - iota r cs (fun ds => F (a :: ds))
def D : List (Nat → Int) → List Nat → Int
  | [], cs => if cs = [] then 1 else 0
  | r :: rs, cs => iota r cs (D rs)
theorem iota_congr {r : Nat → Int} : ∀ {cs : List Nat} {F G : List Nat → Int}, (∀ ds, ds.length < cs.length → F ds = G ds) → iota r cs F = iota r cs G
  | [], _, _, _ => rfl
  | a :: cs, F, G, h => by
    simp only [iota]
    rw [h cs (by simp), iota_congr (cs := cs) fun ds hd => h (a :: ds) (by simp; omega)]
theorem iota_F {r : Nat → Int} {x y : Int} : ∀ {cs : List Nat} {F G : List Nat → Int}, iota r cs (fun ds => x * F ds + y * G ds) = x * iota r cs F + y * iota r cs G
  | [], _, _ => by simp [iota]
  | a :: cs, F, G => by
    simp only [iota]
    rw [iota_F (cs := cs)]
    grind
theorem iota_row {r s : Nat → Int} {x y : Int} : ∀ {cs : List Nat} {F : List Nat → Int}, iota (fun j => x * r j + y * s j) cs F = x * iota r cs F + y * iota s cs F
  | [], _ => by simp [iota]
  | a :: cs, F => by
    simp only [iota]
    rw [iota_row (cs := cs)]
    grind
theorem iota_neg {r : Nat → Int} {cs : List Nat} {F : List Nat → Int} : iota r cs (fun ds => - F ds) = - iota r cs F := by
  have h := iota_F (r := r) (x := -1) (y := 0) (cs := cs) (F := F) (G := F)
  have e : (fun ds => -1 * F ds + 0 * F ds) = fun ds => - F ds := by funext ds; omega
  rw [e] at h
  omega
theorem iota_zero {r : Nat → Int} : ∀ {cs : List Nat} {F : List Nat → Int}, (∀ ds, ds.length < cs.length → F ds = 0) → iota r cs F = 0
  | [], _, _ => rfl
  | a :: cs, F, h => by
    simp only [iota]
    rw [h cs (by simp), iota_zero (cs := cs) fun ds hd => h (a :: ds) (by simp; omega)]
    simp
/-- Two rows change places. -/
theorem iota_iota {r s : Nat → Int} : ∀ {cs : List Nat} {F : List Nat → Int}, iota r cs (fun ds => iota s ds F) = - iota s cs (fun ds => iota r ds F)
  | [], _ => by simp [iota]
  | a :: cs, F => by
    have ih := iota_iota (r := r) (s := s) (cs := cs) (F := fun ds => F (a :: ds))
    simp only [iota]
    have h1 := iota_F (r := r) (x := s a) (y := -1) (cs := cs) (F := F) (G := fun ds => iota s ds fun es => F (a :: es))
    have h2 := iota_F (r := s) (x := r a) (y := -1) (cs := cs) (F := F) (G := fun ds => iota r ds fun es => F (a :: es))
    have e1 : (fun ds => s a * F ds - iota s ds fun es => F (a :: es)) = fun ds => s a * F ds + -1 * iota s ds fun es => F (a :: es) := by funext ds; omega
    have e2 : (fun ds => r a * F ds - iota r ds fun es => F (a :: es)) = fun ds => r a * F ds + -1 * iota r ds fun es => F (a :: es) := by funext ds; omega
    rw [e1, e2, h1, h2]
    omega
theorem D_swap0 (r s : Nat → Int) (rs : List (Nat → Int)) (cs : List Nat) : D (r :: s :: rs) cs = - D (s :: r :: rs) cs := iota_iota
theorem D_row {r s : Nat → Int} {x y : Int} (rs : List (Nat → Int)) (cs : List Nat) : D ((fun j => x * r j + y * s j) :: rs) cs = x * D (r :: rs) cs + y * D (s :: rs) cs := iota_row
theorem D_cons_neg {r : Nat → Int} {rs ss : List (Nat → Int)} (h : ∀ cs, D rs cs = - D ss cs) (cs : List Nat) : D (r :: rs) cs = - D (r :: ss) cs := by
  show iota r cs (D rs) = - iota r cs (D ss)
  rw [← iota_neg]
  exact iota_congr fun ds _ => h ds
/-- A row that stands twice. -/
theorem D_twice (r : Nat → Int) : ∀ (ps rs : List (Nat → Int)) (cs : List Nat), D (r :: ps ++ r :: rs) cs = 0
  | [], rs, cs => by
    have := D_swap0 r r rs cs
    simp only [List.singleton_append]
    omega
  | p :: ps, rs, cs => by
    have h := D_swap0 r p (ps ++ r :: rs) cs
    have h2 : D (p :: r :: (ps ++ r :: rs)) cs = 0 := iota_zero fun ds _ => D_twice r ps rs ds
    simp only [List.cons_append]
    omega
theorem D_mem {r : Nat → Int} {rs : List (Nat → Int)} (h : r ∈ rs) (cs : List Nat) : D (r :: rs) cs = 0 := by
  obtain ⟨ps, qs, rfl⟩ := List.append_of_mem h
  exact D_twice r ps qs cs
def Alt (F : List Nat → Int) : Prop := ∀ c1 a b c2, F (c1 ++ a :: b :: c2) = - F (c1 ++ b :: a :: c2)
theorem Alt.tail {F : List Nat → Int} (h : Alt F) (a : Nat) : Alt fun ds => F (a :: ds) := fun c1 x y c2 => h (a :: c1) x y c2
theorem iota_alt (r : Nat → Int) : ∀ (c1 : List Nat) {F : List Nat → Int}, Alt F → ∀ a b c2, iota r (c1 ++ a :: b :: c2) F = - iota r (c1 ++ b :: a :: c2) F
  | [], F, h, a, b, c2 => by
    simp only [List.nil_append, iota]
    have e : (fun ds => F (a :: b :: ds)) = fun ds => - F (b :: a :: ds) := by funext ds; exact h [] a b ds
    rw [e, iota_neg]
    omega
  | c :: c1, F, h, a, b, c2 => by
    simp only [List.cons_append, iota]
    rw [iota_alt r c1 (h.tail c) a b c2, h c1 a b c2]
    grind
theorem D_alt : ∀ rs, Alt (D rs)
  | [] => fun c1 a b c2 => by simp [D]
  | r :: rs => fun c1 a b c2 => iota_alt r c1 (D_alt rs) a b c2
theorem Alt.twice {F : List Nat → Int} (h : Alt F) (a : Nat) : ∀ (c1 c2 : List Nat), F (a :: c1 ++ a :: c2) = 0
  | [], c2 => by
    have := h [] a a c2
    simp only [List.nil_append] at this
    simp only [List.singleton_append]
    omega
  | c :: c1, c2 => by
    have h1 := h [] a c (c1 ++ a :: c2)
    have h2 := (h.tail c).twice a c1 c2
    simp only [List.cons_append, List.nil_append] at h1 h2 ⊢
    omega
theorem Alt.mem {F : List Nat → Int} (h : Alt F) {a : Nat} {cs : List Nat} (hm : a ∈ cs) : F (a :: cs) = 0 := by
  obtain ⟨ps, qs, rfl⟩ := List.append_of_mem hm
  exact h.twice a ps qs
inductive Span : List (Nat → Int) → (Nat → Int) → Prop
  | nil : Span [] (fun _ => 0)
  | cons {rs : List (Nat → Int)} {f : Nat → Int} (r : Nat → Int) (x : Int) : Span rs f → Span (r :: rs) (fun j => x * r j + f j)
theorem Span.D {rs ss : List (Nat → Int)} {f : Nat → Int} (h : Span rs f) (hs : ∀ r ∈ rs, r ∈ ss) (cs : List Nat) : PD.D (f :: ss) cs = 0 := by
  induction h with
  | nil =>
    have := D_row (r := fun _ => 0) (s := fun _ => 0) (x := 0) (y := 0) ss cs
    simpa using this
  | cons r x _ ih =>
    rename_i rs f _
    have := D_row (r := r) (s := f) (x := x) (y := 1) ss cs
    simp only [Int.one_mul] at this
    rw [this, D_mem (hs r (List.mem_cons_self ..)), ih fun q hq => hs q (List.mem_cons_of_mem _ hq)]
    simp
theorem Span.add {rs : List (Nat → Int)} {f g : Nat → Int} (h : Span rs f) (k : Span rs g) (x y : Int) : Span rs (fun j => x * f j + y * g j) := by
  induction h generalizing g with
  | nil =>
    cases k
    have : (fun _ : Nat => x * 0 + y * 0) = fun _ => (0 : Int) := by funext; simp
    rw [this]; exact .nil
  | cons r u _ ih =>
    rename_i rs f _
    cases k with
    | cons r' v k =>
      rename_i g
      have := Span.cons r (x * u + y * v) (ih k)
      have e : (fun j => (x * u + y * v) * r j + (x * f j + y * g j)) = fun j => x * (u * r j + f j) + y * (v * r j + g j) := by funext j; grind
      rw [e] at this
      exact this
theorem Span.zero : ∀ (rs : List (Nat → Int)), Span rs (fun _ => 0)
  | [] => .nil
  | r :: rs => by
    have := Span.cons r 0 (Span.zero rs)
    have e : (fun j => 0 * r j + (fun _ => (0 : Int)) j) = fun _ => 0 := by funext; simp
    rwa [e] at this
theorem Span.more {rs : List (Nat → Int)} {f : Nat → Int} (r : Nat → Int) (h : Span rs f) : Span (r :: rs) f := by
  have := Span.cons r 0 h
  have e : (fun j => 0 * r j + f j) = f := by funext; simp
  rwa [e] at this
/-- The determinant, as a function of one column, is in the span of the rows. -/
theorem Span.col : ∀ (rs : List (Nat → Int)) (es : List Nat), Span rs (fun j => PD.D rs (j :: es))
  | [], es => by simpa [PD.D] using Span.nil
  | r :: rs, es => by
    have key : ∀ (es : List Nat) (G : Nat → List Nat → Int), (∀ ds, Span rs fun j => G j ds) → Span rs fun j => iota r es (G j) := by
      intro es
      induction es with
      | nil => intro G _; simpa [iota] using Span.zero rs
      | cons a es ih =>
        intro G hG
        have h1 := (hG es).add (ih (fun j ds => G j (a :: ds)) fun ds => hG (a :: ds)) (r a) (-1)
        have e : (fun j => r a * G j es + -1 * iota r es fun ds => G j (a :: ds)) = fun j => iota r (a :: es) (G j) := by funext j; simp only [iota]; omega
        rwa [e] at h1
    have h1 := (key es (fun j ds => PD.D rs (j :: ds)) fun ds => Span.col rs ds).add (Span.zero rs) (-1) 0
    have h2 := Span.cons r (PD.D rs es) h1
    have e : (fun j => PD.D rs es * r j + (-1 * iota r es (fun ds => PD.D rs (j :: ds)) + 0 * 0)) = fun j => PD.D (r :: rs) (j :: es) := by
      funext j
      show _ = r j * PD.D rs es - iota r es fun ds => PD.D rs (j :: ds)
      grind
    rwa [e] at h2
theorem Span.tail {rs : List (Nat → Int)} (r : Nat → Int) {es : List Nat} : Span rs (fun j => iota r es (fun ds => PD.D rs (j :: ds))) := by
  have h := Span.col (r :: rs) es
  have key : ∀ (es : List Nat) (G : Nat → List Nat → Int), (∀ ds, Span rs fun j => G j ds) → Span rs fun j => iota r es (G j) := by
    intro es
    induction es with
    | nil => intro G _; simpa [iota] using Span.zero rs
    | cons a es ih =>
      intro G hG
      have h1 := (hG es).add (ih (fun j ds => G j (a :: ds)) fun ds => hG (a :: ds)) (r a) (-1)
      have e : (fun j => r a * G j es + -1 * iota r es fun ds => G j (a :: ds)) = fun j => iota r (a :: es) (G j) := by funext j; simp only [iota]; omega
      rwa [e] at h1
  exact key es _ fun ds => Span.col rs ds
/-- A row with the leading columns taken off, times the leading determinant. -/
def red (rs : List (Nat → Int)) (cs : List Nat) (u : Nat → Int) : Nat → Int := fun j => D (u :: rs) (j :: cs)
theorem red_eq (rs : List (Nat → Int)) (cs : List Nat) (u : Nat → Int) (j : Nat) : red rs cs u j = u j * D rs cs - iota u cs (fun ds => D rs (j :: ds)) := rfl
theorem red_zero {rs : List (Nat → Int)} {cs : List Nat} (u : Nat → Int) {j : Nat} (h : j ∈ cs) : red rs cs u j = 0 := (D_alt (u :: rs)).mem h
theorem red_row (rs : List (Nat → Int)) (cs : List Nat) (u : Nat → Int) (qs : List (Nat → Int)) (hq : ∀ r ∈ rs, r ∈ qs) (es : List Nat) : D (red rs cs u :: qs) es = D rs cs * D (u :: qs) es := by
  have hs := Span.tail (rs := rs) u (es := cs)
  have e : red rs cs u = fun j => D rs cs * u j + -1 * iota u cs (fun ds => D rs (j :: ds)) := by funext j; rw [red_eq]; grind
  rw [e, D_row, hs.D hq]
  simp
theorem iota_red {u : Nat → Int} {cs : List Nat} (h : ∀ c ∈ cs, u c = 0) {F : List Nat → Int} : iota u cs F = 0 := by
  induction cs generalizing F with
  | nil => rfl
  | cons a cs ih =>
    simp only [iota]
    rw [h a (List.mem_cons_self ..), ih fun c hc => h c (List.mem_cons_of_mem _ hc)]
    simp
theorem sylvester (rs : List (Nat → Int)) (cs : List Nat) (u v : Nat → Int) (j k : Nat) (h : D rs cs ≠ 0) :
    D rs cs * D (u :: v :: rs) (j :: k :: cs) = D (v :: rs) (k :: cs) * D (u :: rs) (j :: cs) - D (u :: rs) (k :: cs) * D (v :: rs) (j :: cs) := by
  have hu : ∀ c ∈ cs, red rs cs u c = 0 := fun c hc => red_zero u hc
  have hv : ∀ c ∈ cs, red rs cs v c = 0 := fun c hc => red_zero v hc
  have h1 : D (red rs cs u :: red rs cs v :: rs) (j :: k :: cs) = D rs cs * (D rs cs * D (u :: v :: rs) (j :: k :: cs)) := by
    rw [red_row rs cs u _ (fun r hr => List.mem_cons_of_mem _ hr)]
    have h2 : ∀ es, D (u :: red rs cs v :: rs) es = D rs cs * D (u :: v :: rs) es := by
      intro es
      rw [D_swap0, red_row rs cs v _ (fun r hr => List.mem_cons_of_mem _ hr), D_swap0 u v]
      grind
    rw [h2]
  have h3 : D (red rs cs u :: red rs cs v :: rs) (j :: k :: cs) = D rs cs * (red rs cs v k * red rs cs u j - red rs cs u k * red rs cs v j) := by
    show iota (red rs cs u) (j :: k :: cs) (fun ds => iota (red rs cs v) ds (D rs)) = _
    have e : ∀ a, (iota (red rs cs v) (a :: cs) (D rs)) = red rs cs v a * D rs cs := by
      intro a
      simp only [iota]
      rw [iota_red hv]; omega
    simp only [iota]
    rw [iota_red hv, iota_red hv, iota_red hu]
    grind
  rw [h1] at h3
  exact Int.eq_of_mul_eq_mul_left h h3
def fact : Nat → Nat
  | 0 => 1
  | n + 1 => (n + 1) * fact n
theorem iota_bound {r : Nat → Int} {B N : Nat} (hr : ∀ j, (r j).natAbs ≤ B) : ∀ {cs : List Nat} {F : List Nat → Int}, (∀ ds, ds.length + 1 = cs.length → (F ds).natAbs ≤ N) → (iota r cs F).natAbs ≤ cs.length * (B * N)
  | [], _, _ => by simp [iota]
  | a :: cs, F, h => by
    have h1 := iota_bound hr (cs := cs) (F := fun ds => F (a :: ds)) (fun ds hd => h (a :: ds) (by simp; omega))
    have h2 : (r a * F cs).natAbs ≤ B * N := by
      rw [Int.natAbs_mul]
      exact Nat.mul_le_mul (hr a) (h cs (by simp))
    simp only [iota, List.length_cons]
    rw [Nat.add_mul, Nat.one_mul]
    omega
theorem D_bound {B : Nat} : ∀ {rs : List (Nat → Int)}, (∀ r ∈ rs, ∀ j, (r j).natAbs ≤ B) → ∀ cs : List Nat, cs.length = rs.length → (D rs cs).natAbs ≤ fact rs.length * B ^ rs.length
  | [], _, cs, h => by
    simp only [D]
    split <;> simp [fact]
  | r :: rs, hr, cs, h => by
    have h1 := iota_bound (N := fact rs.length * B ^ rs.length) (hr r (List.mem_cons_self ..)) (cs := cs) (F := D rs) (fun ds hd => D_bound (fun q hq => hr q (List.mem_cons_of_mem _ hq)) ds (by simp at h; omega))
    rw [h] at h1
    show (iota r cs (D rs)).natAbs ≤ _
    refine Nat.le_trans h1 (Nat.le_of_eq ?_)
    simp only [List.length_cons, fact, Nat.pow_succ]
    grind
end Go.PD
set_option linter.unusedVariables false
namespace Go.PD
/-- The first k rows, the last first; the first k columns, likewise. -/
def Rs (rho : Nat → Nat → Int) : Nat → List (Nat → Int)
  | 0 => []
  | k + 1 => rho k :: Rs rho k
def Cs : Nat → List Nat
  | 0 => []
  | k + 1 => k :: Cs k
/-- The leading determinants; the numbers below, on the way; the numbers above. -/
def P (rho : Nat → Nat → Int) (k : Nat) : Int := D (Rs rho k) (Cs k)
def d (rho : Nat → Nat → Int) (k i j : Nat) : Int := D (rho i :: Rs rho k) (j :: Cs k)
def e (rho : Nat → Nat → Int) (k i j : Nat) : Int := D (Rs rho k) ((Cs k).map fun c => if c = i then j else c)
theorem mem_Cs : ∀ {k c : Nat}, c ∈ Cs k ↔ c < k
  | 0, c => by simp [Cs]
  | k + 1, c => by simp [Cs, mem_Cs (k := k)]; omega
theorem mem_Rs {rho : Nat → Nat → Int} : ∀ {k : Nat} {r : Nat → Int}, r ∈ Rs rho k ↔ ∃ i, i < k ∧ rho i = r
  | 0, r => by simp [Rs]
  | k + 1, r => by
    simp only [Rs, List.mem_cons, mem_Rs (k := k)]
    constructor
    · rintro (rfl | ⟨i, h, rfl⟩)
      · exact ⟨k, by omega, rfl⟩
      · exact ⟨i, by omega, rfl⟩
    · rintro ⟨i, h, rfl⟩
      by_cases e : i = k
      · subst e; exact .inl rfl
      · exact .inr ⟨i, by omega, rfl⟩
theorem Rs_length (rho : Nat → Nat → Int) : ∀ k, (Rs rho k).length = k
  | 0 => rfl
  | k + 1 => by simp [Rs, Rs_length rho k]
theorem Cs_length : ∀ k, (Cs k).length = k
  | 0 => rfl
  | k + 1 => by simp [Cs, Cs_length k]
theorem Rs_congr {rho tau : Nat → Nat → Int} : ∀ {k : Nat}, (∀ i, i < k → rho i = tau i) → Rs rho k = Rs tau k
  | 0, _ => rfl
  | k + 1, h => by simp only [Rs]; rw [h k (by omega), Rs_congr fun i hi => h i (by omega)]
variable {rho : Nat → Nat → Int}
theorem P_zero : P rho 0 = 1 := rfl
theorem P_succ (k : Nat) : P rho (k + 1) = d rho k k k := rfl
theorem d_zero (i j : Nat) : d rho 0 i j = rho i j := by
  show rho i j * 1 - 0 = _
  omega
theorem d_col {k i j : Nat} (h : j < k) : d rho k i j = 0 := (D_alt _).mem (mem_Cs.2 h)
theorem d_mul {k : Nat} (h : P rho k ≠ 0) (i j : Nat) : P rho k * d rho (k + 1) i j = d rho k k k * d rho k i j - d rho k i k * d rho k k j :=
  sylvester (Rs rho k) (Cs k) (rho i) (rho k) j k h
/-- One step below: the division goes up. -/
theorem d_step {k : Nat} (h : P rho k ≠ 0) (i j : Nat) : (d rho k k k * d rho k i j - d rho k i k * d rho k k j).tdiv (P rho k) = d rho (k + 1) i j := by
  rw [← d_mul h, Int.mul_tdiv_cancel_left _ h]
theorem Alt.front {F : List Nat → Int} (h : Alt F) (a : Nat) : ∀ (c1 : List Nat), ∃ s : Int, (s = 1 ∨ s = -1) ∧ ∀ a c2, F (c1 ++ a :: c2) = s * F (a :: (c1 ++ c2))
  | [] => ⟨1, .inl rfl, fun a c2 => by simp⟩
  | c :: c1 => by
    obtain ⟨s, hs, h1⟩ := (h.tail c).front a c1
    refine ⟨-s, by omega, fun a c2 => ?_⟩
    have h2 := h1 a c2
    have h3 := h [] c a (c1 ++ c2)
    simp only [List.nil_append] at h3
    simp only [List.cons_append, h2, h3]
    grind
theorem Rs_bound {B k : Nat} (hB : ∀ i j, (rho i j).natAbs ≤ B) : ∀ r ∈ Rs rho k, ∀ j, (r j).natAbs ≤ B := by
  intro r hr j
  obtain ⟨i, _, rfl⟩ := mem_Rs.1 hr
  exact hB i j
theorem d_bound {B : Nat} (hB : ∀ i j, (rho i j).natAbs ≤ B) (k i j : Nat) : (d rho k i j).natAbs ≤ fact (k + 1) * B ^ (k + 1) := by
  have := D_bound (B := B) (rs := rho i :: Rs rho k) (fun r hr => by
    rcases List.mem_cons.1 hr with rfl | hr
    · exact hB i
    · exact Rs_bound hB r hr) (j :: Cs k) (by simp [Rs_length, Cs_length])
  simpa [Rs_length, d] using this
end Go.PD
set_option linter.unusedVariables false
namespace Go.PD
def sum : Nat → (Nat → Int) → Int
  | 0, _ => 0
  | n + 1, f => sum n f + f n
theorem sum_congr : ∀ {n : Nat} {f g : Nat → Int}, (∀ i, i < n → f i = g i) → sum n f = sum n g
  | 0, _, _, _ => rfl
  | n + 1, f, g, h => by simp only [sum]; rw [sum_congr fun i hi => h i (by omega), h n (by omega)]
theorem sum_lin {x y : Int} : ∀ {n : Nat} {f g : Nat → Int}, sum n (fun i => x * f i + y * g i) = x * sum n f + y * sum n g
  | 0, _, _ => by simp [sum]
  | n + 1, f, g => by simp only [sum]; rw [sum_lin (n := n)]; grind
theorem sum_add {n : Nat} {f g : Nat → Int} : sum n (fun i => f i + g i) = sum n f + sum n g := by
  have := sum_lin (x := 1) (y := 1) (n := n) (f := f) (g := g)
  simpa using this
theorem sum_smul {x : Int} {n : Nat} {f : Nat → Int} : sum n (fun i => x * f i) = x * sum n f := by
  have := sum_lin (x := x) (y := 0) (n := n) (f := f) (g := f)
  simpa using this
theorem sum_zero : ∀ {n : Nat} {f : Nat → Int}, (∀ i, i < n → f i = 0) → sum n f = 0
  | 0, _, _ => rfl
  | n + 1, f, h => by simp only [sum]; rw [sum_zero fun i hi => h i (by omega), h n (by omega)]; rfl
theorem sum_one {k : Nat} : ∀ {n : Nat} {f : Nat → Int}, k < n → (∀ i, i < n → i ≠ k → f i = 0) → sum n f = f k
  | n + 1, f, hk, h => by
    simp only [sum]
    by_cases e : k = n
    · subst e
      rw [sum_zero fun i hi => h i (by omega) (by omega)]; omega
    · rw [sum_one (by omega) fun i hi => h i (by omega), h n (by omega) (fun h => e h.symm)]; omega
theorem sum_nonneg : ∀ {n : Nat} {f : Nat → Int}, (∀ i, i < n → 0 ≤ f i) → 0 ≤ sum n f
  | 0, _, _ => Int.le_refl 0
  | n + 1, f, h => by
    simp only [sum]
    have := sum_nonneg (n := n) (f := f) fun i hi => h i (by omega)
    have := h n (by omega)
    omega
/-- The form of the rows and columns from k on. -/
def form (n : Nat) (a : Nat → Nat → Int) (x : Nat → Int) : Int := sum n fun i => sum n fun j => x i * a i j * x j
/-- Above nought at each list that isn't all noughts. -/
def Pos (n : Nat) (a : Nat → Nat → Int) : Prop := ∀ x, (∃ i, i < n ∧ x i ≠ 0) → 0 < form n a x
def Symm (n : Nat) (a : Nat → Nat → Int) : Prop := ∀ i j, i < n → j < n → a i j = a j i
variable {rho : Nat → Nat → Int} {n : Nat}
theorem sq_nonneg (a : Int) : 0 ≤ a * a := by
  rcases Int.le_total 0 a with h | h
  · exact Int.mul_nonneg h h
  · have := Int.mul_nonneg (a := -a) (b := -a) (by omega) (by omega)
    rwa [Int.neg_mul_neg] at this
end Go.PD
set_option linter.unusedVariables false
set_option linter.unusedSimpArgs false
namespace Go.PD
theorem iota_split_zero {r : Nat → Int} : ∀ {cs : List Nat} {F : List Nat → Int}, (∀ c1 c c2, cs = c1 ++ c :: c2 → r c = 0 ∨ F (c1 ++ c2) = 0) → iota r cs F = 0
  | [], _, _ => rfl
  | a :: cs, F, h => by
    simp only [iota]
    have h1 : r a * F cs = 0 := by
      rcases h [] a cs rfl with h | h
      · rw [h]; simp
      · simp only [List.nil_append] at h; rw [h]; simp
    rw [h1, iota_split_zero (cs := cs) (F := fun ds => F (a :: ds)) (fun c1 c c2 e => h (a :: c1) c c2 (by rw [e]; rfl))]
    omega
/-- Rows that vanish on too many columns. -/
theorem D_count {Z : Nat → Bool} (S : List (Nat → Int)) : ∀ (R : List (Nat → Int)) (cs : List Nat), (∀ r ∈ R, ∀ c, Z c = true → r c = 0) → (cs.filter fun c => !Z c).length < R.length → D (R ++ S) cs = 0
  | [], cs, _, h => by simp at h
  | r :: R, cs, hz, h => by
    show iota r cs (D (R ++ S)) = 0
    refine iota_split_zero fun c1 c c2 e => ?_
    by_cases hc : Z c = true
    · exact .inl (hz r (List.mem_cons_self ..) c hc)
    · refine .inr (D_count S R _ (fun q hq => hz q (List.mem_cons_of_mem _ hq)) ?_)
      rw [e] at h
      simp only [List.filter_append, List.length_append, List.filter_cons, hc, List.length_cons] at h ⊢
      simp only [Bool.not_false, Bool.false_eq_true, not_false_eq_true, Bool.not_eq_true] at h
      simp at h
      omega
theorem D_cons_lin {r : Nat → Int} {rs ss : List (Nat → Int)} {x : Int} (h : ∀ cs, D rs cs = x * D ss cs) (cs : List Nat) : D (r :: rs) cs = x * D (r :: ss) cs := by
  show iota r cs (D rs) = x * iota r cs (D ss)
  have := iota_F (r := r) (x := x) (y := 0) (cs := cs) (F := D ss) (G := D ss)
  rw [show (fun ds => x * D ss ds + 0 * D ss ds) = D rs from funext fun ds => by rw [h ds]; omega] at this
  rw [this]; omega
/-- The rows from k on, reduced. -/
def Qs (rho : Nat → Nat → Int) (k : Nat) : Nat → List (Nat → Int)
  | 0 => []
  | m + 1 => (fun j => d rho k (k + m) j) :: Qs rho k m
theorem Qs_length (rho : Nat → Nat → Int) (k : Nat) : ∀ m, (Qs rho k m).length = m
  | 0 => rfl
  | m + 1 => by simp [Qs, Qs_length rho k m]
theorem Qs_mem {rho : Nat → Nat → Int} {k : Nat} : ∀ {m : Nat} {r : Nat → Int}, r ∈ Qs rho k m → ∃ l, k ≤ l ∧ l < k + m ∧ r = fun j => d rho k l j
  | 0, r, h => by simp [Qs] at h
  | m + 1, r, h => by
    simp only [Qs, List.mem_cons] at h
    rcases h with rfl | h
    · exact ⟨k + m, by omega, by omega, rfl⟩
    · obtain ⟨l, h1, h2, h3⟩ := Qs_mem h; exact ⟨l, h1, by omega, h3⟩
theorem Qs_D (rho : Nat → Nat → Int) (k : Nat) : ∀ m cs, D (Qs rho k m ++ Rs rho k) cs = P rho k ^ m * D (Rs rho (k + m)) cs
  | 0, cs => by simp [Qs]
  | m + 1, cs => by
    have h := red_row (Rs rho k) (Cs k) (rho (k + m)) (Qs rho k m ++ Rs rho k) (fun r hr => List.mem_append_right _ hr) cs
    show D (red (Rs rho k) (Cs k) (rho (k + m)) :: (Qs rho k m ++ Rs rho k)) cs = _
    rw [h, D_cons_lin (Qs_D rho k m), Int.pow_succ]
    show P rho k * _ = _
    rw [show Rs rho (k + (m + 1)) = rho (k + m) :: Rs rho (k + m) from rfl]
    rw [← Int.mul_assoc, Int.mul_comm (P rho k)]
theorem Cs_filter (k : Nat) : ∀ m, ((Cs (k + 1 + m)).filter fun c => !decide (c ≤ k)).length = m
  | 0 => by
    rw [List.length_eq_zero_iff, List.filter_eq_nil_iff]
    intro c hc
    have := mem_Cs.1 hc
    simp; omega
  | m + 1 => by
    show (((k + 1 + m) :: Cs (k + 1 + m)).filter (fun c => !decide (c ≤ k))).length = _
    rw [List.filter_cons, if_pos (by simp; omega), List.length_cons, Cs_filter k m]
theorem P_stuck {rho : Nat → Nat → Int} {k n : Nat} (hk : k < n) (hp : P rho k ≠ 0) (h : ∀ l, k ≤ l → l < n → d rho k l k = 0) : P rho n = 0 := by
  obtain ⟨m, rfl⟩ : ∃ m, n = k + 1 + m := ⟨n - (k + 1), by omega⟩
  have h1 := Qs_D rho k (m + 1) (Cs (k + 1 + m))
  rw [D_count (Z := fun c => decide (c ≤ k)) _ _ _ (fun r hr c hc => ?_) (by rw [Cs_filter, Qs_length]; omega)] at h1
  · rw [show k + (m + 1) = k + 1 + m by omega] at h1
    rcases Int.mul_eq_zero.1 h1.symm with h2 | h2
    · exact absurd h2 (Int.pow_ne_zero hp)
    · exact h2
  · obtain ⟨l, h2, h3, rfl⟩ := Qs_mem hr
    have hc := of_decide_eq_true hc
    rcases Nat.lt_or_ge c k with e | e
    · exact d_col e
    · obtain rfl : c = k := by omega
      exact h l h2 (by omega)
theorem D_trans (r s : Nat → Int) (t : List (Nat → Int)) : ∀ (q : List (Nat → Int)) (cs : List Nat), D (r :: q ++ s :: t) cs = - D (s :: q ++ r :: t) cs
  | [], cs => D_swap0 r s t cs
  | x :: q, cs => by
    have h1 : D (r :: x :: (q ++ s :: t)) cs = - D (x :: r :: (q ++ s :: t)) cs := D_swap0 ..
    have h2 : D (x :: (r :: q ++ s :: t)) cs = - D (x :: (s :: q ++ r :: t)) cs := D_cons_neg (D_trans r s t q) cs
    have h3 : D (s :: x :: (q ++ r :: t)) cs = - D (x :: s :: (q ++ r :: t)) cs := D_swap0 ..
    simp only [List.cons_append] at h1 h2 h3 ⊢
    rw [h1, h2, h3]
def swr (rho : Nat → Nat → Int) (k i : Nat) : Nat → Nat → Int := fun l => if l = k then rho i else if l = i then rho k else rho l
theorem swr_self (rho : Nat → Nat → Int) (k : Nat) : swr rho k k = rho := by
  funext l; unfold swr; split
  · rename_i h; rw [h]
  · rfl
theorem swr_low {rho : Nat → Nat → Int} {k i m : Nat} (hk : m ≤ k) (hi : m ≤ i) : Rs (swr rho k i) m = Rs rho m := Rs_congr fun l hl => by
  unfold swr; rw [if_neg (by omega), if_neg (by omega)]
theorem swr_mid {rho : Nat → Nat → Int} {k i : Nat} (hki : k < i) : ∀ m, k + 1 + m ≤ i → ∃ q, Rs rho (k + 1 + m) = q ++ rho k :: Rs rho k ∧ Rs (swr rho k i) (k + 1 + m) = q ++ rho i :: Rs rho k
  | 0, h => ⟨[], rfl, by
      show swr rho k i k :: Rs (swr rho k i) k = _
      rw [swr_low (Nat.le_refl _) (by omega)]
      unfold swr; rw [if_pos rfl]; rfl⟩
  | m + 1, h => by
    obtain ⟨q, h1, h2⟩ := swr_mid hki m (by omega)
    refine ⟨rho (k + 1 + m) :: q, ?_, ?_⟩
    · show rho (k + 1 + m) :: Rs rho (k + 1 + m) = _
      rw [h1]; rfl
    · show swr rho k i (k + 1 + m) :: Rs (swr rho k i) (k + 1 + m) = _
      rw [h2]; unfold swr; rw [if_neg (by omega), if_neg (by omega)]; rfl
theorem D_swr {rho : Nat → Nat → Int} {k i : Nat} (hki : k < i) : ∀ m cs, D (Rs (swr rho k i) (i + 1 + m)) cs = - D (Rs rho (i + 1 + m)) cs
  | 0, cs => by
    obtain ⟨q, h1, h2⟩ := swr_mid (rho := rho) hki (i - (k + 1)) (by omega)
    rw [show k + 1 + (i - (k + 1)) = i by omega] at h1 h2
    show D (swr rho k i i :: Rs (swr rho k i) i) cs = - D (rho i :: Rs rho i) cs
    rw [h1, h2]
    unfold swr; rw [if_neg (by omega), if_pos rfl]
    exact D_trans (rho k) (rho i) (Rs rho k) q cs
  | m + 1, cs => by
    show D (swr rho k i (i + 1 + m) :: Rs (swr rho k i) (i + 1 + m)) cs = - D (rho (i + 1 + m) :: Rs rho (i + 1 + m)) cs
    rw [D_cons_neg (D_swr hki m)]
    unfold swr; rw [if_neg (by omega), if_neg (by omega)]
theorem P_swr {rho : Nat → Nat → Int} {k i n : Nat} (hki : k ≤ i) (hi : i < n) : P (swr rho k i) n = if k = i then P rho n else - P rho n := by
  by_cases e : k = i
  · subst e; rw [if_pos rfl, swr_self]
  · rw [if_neg e]
    obtain ⟨m, rfl⟩ : ∃ m, n = i + 1 + m := ⟨n - (i + 1), by omega⟩
    exact D_swr (by omega) m _
theorem d_swr {rho : Nat → Nat → Int} {k i l j : Nat} (hki : k ≤ i) : d (swr rho k i) k l j = if l = k then d rho k i j else if l = i then d rho k k j else d rho k l j := by
  unfold d
  rw [swr_low (Nat.le_refl _) hki]
  unfold swr
  split
  · rfl
  · split <;> rfl
/-- The rows' order behind k steps with pivots, and whether they were turned. -/
inductive Reach (a : Nat → Nat → Int) (n : Nat) : Nat → (Nat → Nat → Int) → Bool → Prop
  | start : Reach a n 0 a false
  | step {k : Nat} {rho : Nat → Nat → Int} {m : Bool} {i : Nat} (h : Reach a n k rho m) (hk : k ≤ i) (hi : i < n) (hd : d rho k i k ≠ 0) : Reach a n (k + 1) (swr rho k i) (m != decide (i ≠ k))
theorem Reach.ne {a : Nat → Nat → Int} {n k : Nat} {rho : Nat → Nat → Int} {m : Bool} (h : Reach a n k rho m) : P rho k ≠ 0 := by
  cases h with
  | start => rw [P_zero]; decide
  | step h hk hi hd => rw [P_succ, d_swr hk, if_pos rfl]; exact hd
theorem Reach.det {a : Nat → Nat → Int} {n k : Nat} {rho : Nat → Nat → Int} {m : Bool} (h : Reach a n k rho m) : P rho n = if m then - P a n else P a n := by
  induction h with
  | start => rfl
  | step h hk hi hd ih =>
    rename_i k rho m i
    rw [P_swr hk hi, ih]
    by_cases e : i = k
    · subst e; simp
    · rw [if_neg (fun h => e h.symm)]
      cases m <;> simp [e]
theorem Reach.bound {a : Nat → Nat → Int} {n k : Nat} {rho : Nat → Nat → Int} {m : Bool} (h : Reach a n k rho m) {B : Nat} (hB : ∀ i j, (a i j).natAbs ≤ B) : ∀ i j, (rho i j).natAbs ≤ B := by
  induction h with
  | start => exact hB
  | step h hk hi hd ih =>
    intro l j
    unfold swr
    split
    · exact ih _ _
    · split <;> exact ih _ _
theorem Reach.stuck {a : Nat → Nat → Int} {n k : Nat} {rho : Nat → Nat → Int} {m : Bool} (h : Reach a n k rho m) (hk : k < n) (hz : ∀ l, k ≤ l → l < n → d rho k l k = 0) : P a n = 0 := by
  have h1 := h.det
  rw [P_stuck hk h.ne hz] at h1
  cases m <;> simp at h1 <;> omega
end Go.PD
set_option linter.unusedVariables false
namespace Go.PD
/-- One matrix less another, and so much more on the diagonal. -/
def dif (a b : Nat → Nat → Int) (m : Int) : Nat → Nat → Int := fun i j => a i j - b i j + if i = j then m else 0
def sq (n : Nat) (x : Nat → Int) : Int := sum n fun i => x i * x i
theorem sum_pick {n k : Nat} (hk : k < n) (c : Int) : sum n (fun j => if j = k then c else 0) = c := by
  rw [sum_one hk (fun i _ hi => by rw [if_neg hi]), if_pos rfl]
theorem form_dif (n : Nat) (a b : Nat → Nat → Int) (m : Int) (x : Nat → Int) : form n (dif a b m) x = form n a x - form n b x + m * sq n x := by
  have h : ∀ i, i < n → (sum n fun j => x i * dif a b m i j * x j) = (1 * (sum n fun j => x i * a i j * x j) + (-1) * (sum n fun j => x i * b i j * x j)) + m * (x i * x i) := by
    intro i hi
    have e1 : (sum n fun j => x i * dif a b m i j * x j) = sum n fun j => (1 * (x i * a i j * x j) + (-1) * (x i * b i j * x j)) + (if j = i then m * (x i * x i) else 0) := by
      refine sum_congr fun j _ => ?_
      unfold dif
      by_cases e : i = j
      · subst e; simp only [if_true]; grind
      · have e' : ¬ j = i := fun h => e h.symm
        simp only [e, e', if_false]; grind
    rw [e1, sum_add, sum_lin, sum_pick hi]
  unfold form sq
  rw [sum_congr h, sum_add, sum_lin, sum_smul]
  omega
theorem sq_pos {n : Nat} {x : Nat → Int} : 0 ≤ sq n x := sum_nonneg fun i _ => sq_nonneg _
theorem Pos.more {n : Nat} {a b : Nat → Nat → Int} {m m' : Int} (h : Pos n (dif a b m)) (hm : m ≤ m') : Pos n (dif a b m') := by
  intro x hx
  have h1 := h x hx
  rw [form_dif] at h1 ⊢
  have h2 : m * sq n x ≤ m' * sq n x := Int.mul_le_mul_of_nonneg_right hm sq_pos
  omega
theorem Symm.dif {n : Nat} {a b : Nat → Nat → Int} {m : Int} (ha : Symm n a) (hb : Symm n b) : Symm n (dif a b m) := by
  intro i j hi hj
  unfold PD.dif
  rw [ha i j hi hj, hb i j hi hj]
  by_cases e : i = j
  · rw [if_pos e, if_pos e.symm]
  · rw [if_neg e, if_neg (fun h => e h.symm)]
/-- A diagonal's leading determinants. -/
theorem P_diag {rho : Nat → Nat → Int} {k : Nat} (h : ∀ j, j < k → rho k j = 0) : P rho (k + 1) = rho k k * P rho k := by
  have e : P rho (k + 1) = rho k k * D (Rs rho k) (Cs k) - iota (rho k) (Cs k) (fun ds => D (Rs rho k) (k :: ds)) := rfl
  rw [e, iota_red (fun c hc => h c (mem_Cs.1 hc)), Int.sub_zero]
  rfl
end Go.PD
set_option linter.unusedVariables false
namespace Go.PD
theorem Alt.more {F : List Nat → Int} (h : Alt F) : ∀ (c1 : List Nat), Alt fun ds => F (c1 ++ ds)
  | [] => h
  | a :: c1 => (h.tail a).more c1
theorem Alt.trans0 : ∀ (q : List Nat) {F : List Nat → Int} (h : Alt F) (a b : Nat) (c2 : List Nat), F (a :: (q ++ b :: c2)) = - F (b :: (q ++ a :: c2))
  | [], F, h, a, b, c2 => h [] a b c2
  | x :: q, F, h, a, b, c2 => by
    have h1 := h [] a x (q ++ b :: c2)
    have h2 := Alt.trans0 q (h.tail x) a b c2
    have h3 := h [] b x (q ++ a :: c2)
    simp only [List.nil_append, List.cons_append] at h1 h2 h3 ⊢
    omega
/-- Two columns change places. -/
theorem Alt.trans {F : List Nat → Int} (h : Alt F) (c1 q c2 : List Nat) (a b : Nat) : F (c1 ++ a :: (q ++ b :: c2)) = - F (c1 ++ b :: (q ++ a :: c2)) := Alt.trans0 q (h.more c1) a b c2
end Go.PD

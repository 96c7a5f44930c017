/- Part 10 of the proof of laws of this seat: lemmas on the model's code, on this program's functions, on numbers. No condition. -/
import Derived.Test.YtfalfmfkifemeaaGreatDoorZSixai
import Derived.Test.YtfalfmfkifemeaaGreatDoorProg
set_option linter.unusedVariables false
set_option linter.unusedSimpArgs false
namespace Go.PD
theorem iota_split_zero {r : Nat → Int} : ∀ {cs : List Nat} {F : List Nat → Int}, (∀ c1 c c2, cs = c1 ++ c :: c2 → r c = 0 ∨ F (c1 ++ c2) = 0) → iota r cs F = 0
  | [], _, _ => rfl
  | a :: cs, F, h => by
    simp only [iota]
    have h1 : r a * F cs = 0 := by
      rcases h [] a cs rfl with h | h
      · rw [h]; simp
      · simp only [List.nil_append] at h; rw [h]; simp
    rw [h1, iota_split_zero (cs := cs) (F := fun ds => F (a :: ds)) (fun c1 c c2 e => h (a :: c1) c c2 (by rw [e]; rfl))]
    omega
/-- Rows that vanish on too many columns. -/
theorem D_count {Z : Nat → Bool} (S : List (Nat → Int)) : ∀ (R : List (Nat → Int)) (cs : List Nat), (∀ r ∈ R, ∀ c, Z c = true → r c = 0) → (cs.filter fun c => !Z c).length < R.length → D (R ++ S) cs = 0
  | [], cs, _, h => by simp at h
  | r :: R, cs, hz, h => by
    show iota r cs (D (R ++ S)) = 0
    refine iota_split_zero fun c1 c c2 e => ?_
    by_cases hc : Z c = true
    · exact .inl (hz r (List.mem_cons_self ..) c hc)
    · refine .inr (D_count S R _ (fun q hq => hz q (List.mem_cons_of_mem _ hq)) ?_)
      rw [e] at h
      simp only [List.filter_append, List.length_append, List.filter_cons, hc, List.length_cons] at h ⊢
      simp only [Bool.not_false, Bool.false_eq_true, not_false_eq_true, Bool.not_eq_true] at h
      simp at h
      omega
theorem D_cons_lin {r : Nat → Int} {rs ss : List (Nat → Int)} {x : Int} (h : ∀ cs, D rs cs = x * D ss cs) (cs : List Nat) : D (r :: rs) cs = x * D (r :: ss) cs := by
  show iota r cs (D rs) = x * iota r cs (D ss)
  have := iota_F (r := r) (x := x) (y := 0) (cs := cs) (F := D ss) (G := D ss)
  rw [show (fun ds => x * D ss ds + 0 * D ss ds) = D rs from funext fun ds => by rw [h ds]; omega] at this
  rw [this]; omega
/-- The rows from k on, reduced. -/
def Qs (rho : Nat → Nat → Int) (k : Nat) : Nat → List (Nat → Int)
  | 0 => []
  | m + 1 => (fun j => d rho k (k + m) j) :: Qs rho k m
theorem Qs_length (rho : Nat → Nat → Int) (k : Nat) : ∀ m, (Qs rho k m).length = m
  | 0 => rfl
  | m + 1 => by simp [Qs, Qs_length rho k m]
theorem Qs_mem {rho : Nat → Nat → Int} {k : Nat} : ∀ {m : Nat} {r : Nat → Int}, r ∈ Qs rho k m → ∃ l, k ≤ l ∧ l < k + m ∧ r = fun j => d rho k l j
  | 0, r, h => by simp [Qs] at h
  | m + 1, r, h => by
    simp only [Qs, List.mem_cons] at h
    rcases h with rfl | h
    · exact ⟨k + m, by omega, by omega, rfl⟩
    · obtain ⟨l, h1, h2, h3⟩ := Qs_mem h; exact ⟨l, h1, by omega, h3⟩
theorem Qs_D (rho : Nat → Nat → Int) (k : Nat) : ∀ m cs, D (Qs rho k m ++ Rs rho k) cs = P rho k ^ m * D (Rs rho (k + m)) cs
  | 0, cs => by simp [Qs]
  | m + 1, cs => by
    have h := red_row (Rs rho k) (Cs k) (rho (k + m)) (Qs rho k m ++ Rs rho k) (fun r hr => List.mem_append_right _ hr) cs
    show D (red (Rs rho k) (Cs k) (rho (k + m)) :: (Qs rho k m ++ Rs rho k)) cs = _
    rw [h, D_cons_lin (Qs_D rho k m), Int.pow_succ]
    show P rho k * _ = _
    rw [show Rs rho (k + (m + 1)) = rho (k + m) :: Rs rho (k + m) from rfl]
    rw [← Int.mul_assoc, Int.mul_comm (P rho k)]
theorem Cs_filter (k : Nat) : ∀ m, ((Cs (k + 1 + m)).filter fun c => !decide (c ≤ k)).length = m
  | 0 => by
    rw [List.length_eq_zero_iff, List.filter_eq_nil_iff]
    intro c hc
    have := mem_Cs.1 hc
    simp; omega
  | m + 1 => by
    show (((k + 1 + m) :: Cs (k + 1 + m)).filter (fun c => !decide (c ≤ k))).length = _
    rw [List.filter_cons, if_pos (by simp; omega), List.length_cons, Cs_filter k m]
theorem P_stuck {rho : Nat → Nat → Int} {k n : Nat} (hk : k < n) (hp : P rho k ≠ 0) (h : ∀ l, k ≤ l → l < n → d rho k l k = 0) : P rho n = 0 := by
  obtain ⟨m, rfl⟩ : ∃ m, n = k + 1 + m := ⟨n - (k + 1), by omega⟩
  have h1 := Qs_D rho k (m + 1) (Cs (k + 1 + m))
  rw [D_count (Z := fun c => decide (c ≤ k)) _ _ _ (fun r hr c hc => ?_) (by rw [Cs_filter, Qs_length]; omega)] at h1
  · rw [show k + (m + 1) = k + 1 + m by omega] at h1
    rcases Int.mul_eq_zero.1 h1.symm with h2 | h2
    · exact absurd h2 (Int.pow_ne_zero hp)
    · exact h2
  · obtain ⟨l, h2, h3, rfl⟩ := Qs_mem hr
    have hc := of_decide_eq_true hc
    rcases Nat.lt_or_ge c k with e | e
    · exact d_col e
    · obtain rfl : c = k := by omega
      exact h l h2 (by omega)
theorem D_trans (r s : Nat → Int) (t : List (Nat → Int)) : ∀ (q : List (Nat → Int)) (cs : List Nat), D (r :: q ++ s :: t) cs = - D (s :: q ++ r :: t) cs
  | [], cs => D_swap0 r s t cs
  | x :: q, cs => by
    have h1 : D (r :: x :: (q ++ s :: t)) cs = - D (x :: r :: (q ++ s :: t)) cs := D_swap0 ..
    have h2 : D (x :: (r :: q ++ s :: t)) cs = - D (x :: (s :: q ++ r :: t)) cs := D_cons_neg (D_trans r s t q) cs
    have h3 : D (s :: x :: (q ++ r :: t)) cs = - D (x :: s :: (q ++ r :: t)) cs := D_swap0 ..
    simp only [List.cons_append] at h1 h2 h3 ⊢
    rw [h1, h2, h3]
def swr (rho : Nat → Nat → Int) (k i : Nat) : Nat → Nat → Int := fun l => if l = k then rho i else if l = i then rho k else rho l
theorem swr_self (rho : Nat → Nat → Int) (k : Nat) : swr rho k k = rho := by
  funext l; unfold swr; split
  · rename_i h; rw [h]
  · rfl
theorem swr_low {rho : Nat → Nat → Int} {k i m : Nat} (hk : m ≤ k) (hi : m ≤ i) : Rs (swr rho k i) m = Rs rho m := Rs_congr fun l hl => by
  unfold swr; rw [if_neg (by omega), if_neg (by omega)]
theorem swr_mid {rho : Nat → Nat → Int} {k i : Nat} (hki : k < i) : ∀ m, k + 1 + m ≤ i → ∃ q, Rs rho (k + 1 + m) = q ++ rho k :: Rs rho k ∧ Rs (swr rho k i) (k + 1 + m) = q ++ rho i :: Rs rho k
  | 0, h => ⟨[], rfl, by
      show swr rho k i k :: Rs (swr rho k i) k = _
      rw [swr_low (Nat.le_refl _) (by omega)]
      unfold swr; rw [if_pos rfl]; rfl⟩
  | m + 1, h => by
    obtain ⟨q, h1, h2⟩ := swr_mid hki m (by omega)
    refine ⟨rho (k + 1 + m) :: q, ?_, ?_⟩
    · show rho (k + 1 + m) :: Rs rho (k + 1 + m) = _
      rw [h1]; rfl
    · show swr rho k i (k + 1 + m) :: Rs (swr rho k i) (k + 1 + m) = _
      rw [h2]; unfold swr; rw [if_neg (by omega), if_neg (by omega)]; rfl
theorem D_swr {rho : Nat → Nat → Int} {k i : Nat} (hki : k < i) : ∀ m cs, D (Rs (swr rho k i) (i + 1 + m)) cs = - D (Rs rho (i + 1 + m)) cs
  | 0, cs => by
    obtain ⟨q, h1, h2⟩ := swr_mid (rho := rho) hki (i - (k + 1)) (by omega)
    rw [show k + 1 + (i - (k + 1)) = i by omega] at h1 h2
    show D (swr rho k i i :: Rs (swr rho k i) i) cs = - D (rho i :: Rs rho i) cs
    rw [h1, h2]
    unfold swr; rw [if_neg (by omega), if_pos rfl]
    exact D_trans (rho k) (rho i) (Rs rho k) q cs
  | m + 1, cs => by
    show D (swr rho k i (i + 1 + m) :: Rs (swr rho k i) (i + 1 + m)) cs = - D (rho (i + 1 + m) :: Rs rho (i + 1 + m)) cs
    rw [D_cons_neg (D_swr hki m)]
    unfold swr; rw [if_neg (by omega), if_neg (by omega)]
theorem P_swr {rho : Nat → Nat → Int} {k i n : Nat} (hki : k ≤ i) (hi : i < n) : P (swr rho k i) n = if k = i then P rho n else - P rho n := by
  by_cases e : k = i
  · subst e; rw [if_pos rfl, swr_self]
  · rw [if_neg e]
    obtain ⟨m, rfl⟩ : ∃ m, n = i + 1 + m := ⟨n - (i + 1), by omega⟩
    exact D_swr (by omega) m _
theorem d_swr {rho : Nat → Nat → Int} {k i l j : Nat} (hki : k ≤ i) : d (swr rho k i) k l j = if l = k then d rho k i j else if l = i then d rho k k j else d rho k l j := by
  unfold d
  rw [swr_low (Nat.le_refl _) hki]
  unfold swr
  split
  · rfl
  · split <;> rfl
/-- The rows' order behind k steps with pivots, and whether they were turned. -/
inductive Reach (a : Nat → Nat → Int) (n : Nat) : Nat → (Nat → Nat → Int) → Bool → Prop
  | start : Reach a n 0 a false
  | step {k : Nat} {rho : Nat → Nat → Int} {m : Bool} {i : Nat} (h : Reach a n k rho m) (hk : k ≤ i) (hi : i < n) (hd : d rho k i k ≠ 0) : Reach a n (k + 1) (swr rho k i) (m != decide (i ≠ k))
theorem Reach.ne {a : Nat → Nat → Int} {n k : Nat} {rho : Nat → Nat → Int} {m : Bool} (h : Reach a n k rho m) : P rho k ≠ 0 := by
  cases h with
  | start => rw [P_zero]; decide
  | step h hk hi hd => rw [P_succ, d_swr hk, if_pos rfl]; exact hd
theorem Reach.det {a : Nat → Nat → Int} {n k : Nat} {rho : Nat → Nat → Int} {m : Bool} (h : Reach a n k rho m) : P rho n = if m then - P a n else P a n := by
  induction h with
  | start => rfl
  | step h hk hi hd ih =>
    rename_i k rho m i
    rw [P_swr hk hi, ih]
    by_cases e : i = k
    · subst e; simp
    · rw [if_neg (fun h => e h.symm)]
      cases m <;> simp [e]
theorem Reach.bound {a : Nat → Nat → Int} {n k : Nat} {rho : Nat → Nat → Int} {m : Bool} (h : Reach a n k rho m) {B : Nat} (hB : ∀ i j, (a i j).natAbs ≤ B) : ∀ i j, (rho i j).natAbs ≤ B := by
  induction h with
  | start => exact hB
  | step h hk hi hd ih =>
    intro l j
    unfold swr
    split
    · exact ih _ _
    · split <;> exact ih _ _
theorem Reach.stuck {a : Nat → Nat → Int} {n k : Nat} {rho : Nat → Nat → Int} {m : Bool} (h : Reach a n k rho m) (hk : k < n) (hz : ∀ l, k ≤ l → l < n → d rho k l k = 0) : P a n = 0 := by
  have h1 := h.det
  rw [P_stuck hk h.ne hz] at h1
  cases m <;> simp at h1 <;> omega
end Go.PD
set_option linter.unusedVariables false
namespace Go.PD
/-- One matrix less another, and so much more on the diagonal. -/
def dif (a b : Nat → Nat → Int) (m : Int) : Nat → Nat → Int := fun i j => a i j - b i j + if i = j then m else 0
def sq (n : Nat) (x : Nat → Int) : Int := sum n fun i => x i * x i
theorem sum_pick {n k : Nat} (hk : k < n) (c : Int) : sum n (fun j => if j = k then c else 0) = c := by
  rw [sum_one hk (fun i _ hi => by rw [if_neg hi]), if_pos rfl]
theorem form_dif (n : Nat) (a b : Nat → Nat → Int) (m : Int) (x : Nat → Int) : form n (dif a b m) x = form n a x - form n b x + m * sq n x := by
  have h : ∀ i, i < n → (sum n fun j => x i * dif a b m i j * x j) = (1 * (sum n fun j => x i * a i j * x j) + (-1) * (sum n fun j => x i * b i j * x j)) + m * (x i * x i) := by
    intro i hi
    have e1 : (sum n fun j => x i * dif a b m i j * x j) = sum n fun j => (1 * (x i * a i j * x j) + (-1) * (x i * b i j * x j)) + (if j = i then m * (x i * x i) else 0) := by
      refine sum_congr fun j _ => ?_
      unfold dif
      by_cases e : i = j
      · subst e; simp only [if_true]; grind
      · have e' : ¬ j = i := fun h => e h.symm
        simp only [e, e', if_false]; grind
    rw [e1, sum_add, sum_lin, sum_pick hi]
  unfold form sq
  rw [sum_congr h, sum_add, sum_lin, sum_smul]
  omega
theorem sq_pos {n : Nat} {x : Nat → Int} : 0 ≤ sq n x := sum_nonneg fun i _ => sq_nonneg _
theorem Pos.more {n : Nat} {a b : Nat → Nat → Int} {m m' : Int} (h : Pos n (dif a b m)) (hm : m ≤ m') : Pos n (dif a b m') := by
  intro x hx
  have h1 := h x hx
  rw [form_dif] at h1 ⊢
  have h2 : m * sq n x ≤ m' * sq n x := Int.mul_le_mul_of_nonneg_right hm sq_pos
  omega
theorem Symm.dif {n : Nat} {a b : Nat → Nat → Int} {m : Int} (ha : Symm n a) (hb : Symm n b) : Symm n (dif a b m) := by
  intro i j hi hj
  unfold PD.dif
  rw [ha i j hi hj, hb i j hi hj]
  by_cases e : i = j
  · rw [if_pos e, if_pos e.symm]
  · rw [if_neg e, if_neg (fun h => e h.symm)]
end Go.PD
set_option linter.unusedVariables false
namespace Go.PD
theorem iota_mem {r s : Nat → Int} : ∀ {cs : List Nat} {F G : List Nat → Int}, (∀ c ∈ cs, r c = s c) → (∀ ds, (∀ c ∈ ds, c ∈ cs) → F ds = G ds) → iota r cs F = iota s cs G
  | [], _, _, _, _ => rfl
  | a :: cs, F, G, h, g => by
    simp only [iota]
    rw [h a (by simp), g cs (fun c hc => by simp [hc]), iota_mem (cs := cs) (fun c hc => h c (by simp [hc])) (fun ds hd => g (a :: ds) (fun c hc => by
      rcases List.mem_cons.1 hc with rfl | hc
      · simp
      · simp [hd c hc]))]
theorem D_Rs_congr {a b : Nat → Nat → Int} : ∀ (k : Nat) (cs : List Nat), (∀ i, i < k → ∀ c ∈ cs, a i c = b i c) → D (Rs a k) cs = D (Rs b k) cs
  | 0, _, _ => rfl
  | k + 1, cs, h => iota_mem (fun c hc => h k (by omega) c hc) fun ds hd => D_Rs_congr k ds fun i hi c hc => h i (by omega) c (hd c hc)
/-- A leading determinant hangs on its own entries alone. -/
theorem P_congr {a b : Nat → Nat → Int} {m : Nat} (h : ∀ i j, i < m → j < m → a i j = b i j) : P a m = P b m := D_Rs_congr m _ fun i hi c hc => h i c hi (mem_Cs.1 hc)
/-- Columns under other names. -/
theorem iota_map {r : Nat → Int} {s : Nat → Nat} : ∀ {cs : List Nat} {F : List Nat → Int}, iota r (cs.map s) F = iota (fun j => r (s j)) cs fun ds => F (ds.map s)
  | [], _ => rfl
  | a :: cs, F => by
    simp only [List.map_cons, iota]
    rw [iota_map (cs := cs) (F := fun ds => F (s a :: ds))]
theorem D_map {s : Nat → Nat} : ∀ (rs : List (Nat → Int)) (cs : List Nat), D rs (cs.map s) = D (rs.map fun r j => r (s j)) cs
  | [], cs => by cases cs <;> simp [D]
  | r :: rs, cs => by
    simp only [D, List.map_cons]
    rw [iota_map]
    congr 1
    funext ds
    exact D_map rs ds
theorem Alt.more {F : List Nat → Int} (h : Alt F) : ∀ (c1 : List Nat), Alt fun ds => F (c1 ++ ds)
  | [] => h
  | a :: c1 => (h.tail a).more c1
theorem Alt.trans0 : ∀ (q : List Nat) {F : List Nat → Int} (h : Alt F) (a b : Nat) (c2 : List Nat), F (a :: (q ++ b :: c2)) = - F (b :: (q ++ a :: c2))
  | [], F, h, a, b, c2 => h [] a b c2
  | x :: q, F, h, a, b, c2 => by
    have h1 := h [] a x (q ++ b :: c2)
    have h2 := Alt.trans0 q (h.tail x) a b c2
    have h3 := h [] b x (q ++ a :: c2)
    simp only [List.nil_append, List.cons_append] at h1 h2 h3 ⊢
    omega
/-- Two columns change places. -/
theorem Alt.trans {F : List Nat → Int} (h : Alt F) (c1 q c2 : List Nat) (a b : Nat) : F (c1 ++ a :: (q ++ b :: c2)) = - F (c1 ++ b :: (q ++ a :: c2)) := Alt.trans0 q (h.more c1) a b c2
/-- The two that change places. -/
def sw (s t i : Nat) : Nat := if i = s then t else if i = t then s else i
theorem sw_sw (s t i : Nat) : sw s t (sw s t i) = i := by
  unfold sw
  by_cases h1 : i = s
  · by_cases h2 : t = s
    · simp [h1, h2]
    · simp [h1, h2]
  · by_cases h2 : i = t
    · simp [h2]
    · simp [h1, h2]
theorem sw_comm (s t : Nat) : sw s t = sw t s := by
  funext i
  unfold sw
  by_cases h1 : i = s <;> by_cases h2 : i = t
  · rw [if_pos h1, if_pos h2]; omega
  · rw [if_pos h1, if_neg h2, if_pos h1]
  · rw [if_neg h1, if_pos h2, if_pos h2]
  · rw [if_neg h1, if_neg h2, if_neg h2, if_neg h1]
theorem sw_lt {s t i n : Nat} (hs : s < n) (ht : t < n) (hi : i < n) : sw s t i < n := by
  unfold sw
  split
  · exact ht
  · split
    · exact hs
    · exact hi
theorem sw_self (s : Nat) : sw s s = id := by
  funext i
  unfold sw
  by_cases h : i = s
  · simp [h]
  · simp [h]
theorem map_sw_none {s t : Nat} : ∀ {cs : List Nat}, s ∉ cs → t ∉ cs → cs.map (sw s t) = cs
  | [], _, _ => rfl
  | c :: cs, h1, h2 => by
    simp only [List.mem_cons, not_or] at h1 h2
    simp only [List.map_cons]
    rw [map_sw_none h1.2 h2.2]
    unfold sw
    rw [if_neg (fun e => h1.1 e.symm), if_neg (fun e => h2.1 e.symm)]
theorem Cs_split2 : ∀ {n s t : Nat}, s < t → t < n → ∃ c1 q c2, Cs n = c1 ++ t :: (q ++ s :: c2) ∧ (s ∉ c1 ∧ t ∉ c1) ∧ (s ∉ q ∧ t ∉ q) ∧ (s ∉ c2 ∧ t ∉ c2)
  | n + 1, s, t, hst, ht => by
    by_cases h : t = n
    · subst h
      obtain ⟨q, c2, h1, h2, h3⟩ := Cs_split hst
      refine ⟨[], q, c2, by simp [Cs, h1], by simp, ⟨h2, fun hm => ?_⟩, ⟨h3, fun hm => ?_⟩⟩
      · have : t ∈ Cs t := by rw [h1]; simp [hm]
        exact absurd (mem_Cs.1 this) (by omega)
      · have : t ∈ Cs t := by rw [h1]; simp [hm]
        exact absurd (mem_Cs.1 this) (by omega)
    · obtain ⟨c1, q, c2, h1, ⟨h2, h3⟩, h4, h5⟩ := Cs_split2 (n := n) hst (by omega)
      refine ⟨n :: c1, q, c2, by simp [Cs, h1], ⟨?_, ?_⟩, h4, h5⟩
      · simp only [List.mem_cons, not_or]; exact ⟨by omega, h2⟩
      · simp only [List.mem_cons, not_or]; exact ⟨fun e => h e, h3⟩
theorem D_cols {s t n : Nat} (hst : s < t) (ht : t < n) (rs : List (Nat → Int)) : D rs ((Cs n).map (sw s t)) = - D rs (Cs n) := by
  obtain ⟨c1, q, c2, h1, h2, h3, h4⟩ := Cs_split2 hst ht
  have e : (Cs n).map (sw s t) = c1 ++ s :: (q ++ t :: c2) := by
    rw [h1]
    simp only [List.map_append, List.map_cons]
    rw [map_sw_none h2.1 h2.2, map_sw_none h3.1 h3.2, map_sw_none h4.1 h4.2]
    have a1 : sw s t t = s := by unfold sw; rw [if_neg (by omega), if_pos rfl]
    have a2 : sw s t s = t := by unfold sw; rw [if_pos rfl]
    rw [a1, a2]
  rw [e, h1, (D_alt rs).trans]
theorem Rs_map (a : Nat → Nat → Int) (f : (Nat → Int) → Nat → Int) : ∀ k, (Rs a k).map f = Rs (fun i => f (a i)) k
  | 0 => rfl
  | k + 1 => by simp only [Rs, List.map_cons, Rs_map a f k]
theorem sw_swr (a : Nat → Nat → Int) (s t : Nat) : (fun i => a (sw s t i)) = swr a s t := by
  funext l
  unfold sw swr
  by_cases h1 : l = s
  · rw [if_pos h1, if_pos h1]
  · rw [if_neg h1, if_neg h1]
    by_cases h2 : l = t
    · rw [if_pos h2, if_pos h2]
    · rw [if_neg h2, if_neg h2]
theorem P_turn_lt {a : Nat → Nat → Int} {s t n : Nat} (hst : s < t) (ht : t < n) : P (fun i j => a (sw s t i) (sw s t j)) n = P a n := by
  have h1 : P (fun i j => a (sw s t i) (sw s t j)) n = D (Rs (fun i => a (sw s t i)) n) ((Cs n).map (sw s t)) := by
    rw [D_map, Rs_map]
    rfl
  rw [h1, D_cols hst ht, sw_swr]
  have h2 := P_swr (rho := a) (k := s) (i := t) (n := n) (by omega) ht
  rw [if_neg (by omega)] at h2
  unfold P at h2 ⊢
  omega
/-- Rows and columns named in another order have the same determinant. -/
theorem P_turn {a : Nat → Nat → Int} {s t n : Nat} (hs : s < n) (ht : t < n) : P (fun i j => a (sw s t i) (sw s t j)) n = P a n := by
  rcases Nat.lt_trichotomy s t with h | h | h
  · exact P_turn_lt h ht
  · subst h; rw [sw_self]; rfl
  · rw [sw_comm]; exact P_turn_lt h hs
theorem sum_two {n s t : Nat} (hs : s < n) (ht : t < n) (hst : s ≠ t) {f : Nat → Int} (h : ∀ i, i < n → i ≠ s → i ≠ t → f i = 0) : sum n f = f s + f t := by
  have e : sum n f = sum n fun i => (if i = s then f s else 0) + (if i = t then f t else 0) := by
    refine sum_congr fun i hi => ?_
    by_cases h1 : i = s
    · rw [if_pos h1, if_neg (by omega), h1]; omega
    · by_cases h2 : i = t
      · rw [if_neg h1, if_pos h2, h2]; omega
      · rw [if_neg h1, if_neg h2, h i hi h1 h2]; omega
  rw [e, sum_add, sum_pick hs, sum_pick ht]
theorem sum_sw {n s t : Nat} (hs : s < n) (ht : t < n) (f : Nat → Int) : sum n (fun i => f (sw s t i)) = sum n f := by
  by_cases hst : s = t
  · subst hst; rw [sw_self]; rfl
  · have h := sum_two hs ht hst (f := fun i => 1 * f (sw s t i) + (-1) * f i) (fun i _ h1 h2 => by
      have : sw s t i = i := by unfold sw; rw [if_neg h1, if_neg h2]
      show 1 * f (sw s t i) + (-1) * f i = 0
      rw [this]; omega)
    rw [sum_lin] at h
    have a1 : sw s t s = t := by unfold sw; rw [if_pos rfl]
    have a2 : sw s t t = s := by unfold sw; rw [if_neg (fun e => hst e.symm), if_pos rfl]
    simp only [a1, a2] at h
    omega
theorem form_turn {n s t : Nat} (hs : s < n) (ht : t < n) (a : Nat → Nat → Int) (x : Nat → Int) : form n (fun i j => a (sw s t i) (sw s t j)) x = form n a (fun i => x (sw s t i)) := by
  unfold form
  rw [← sum_sw hs ht (fun i => sum n fun j => x (sw s t i) * a i j * x (sw s t j))]
  refine sum_congr fun i hi => ?_
  show (sum n fun j => x i * a (sw s t i) (sw s t j) * x j) = sum n fun j => x (sw s t (sw s t i)) * a (sw s t i) j * x (sw s t j)
  rw [← sum_sw hs ht (fun j => x (sw s t (sw s t i)) * a (sw s t i) j * x (sw s t j))]
  refine sum_congr fun j hj => ?_
  simp only [sw_sw]
theorem Pos_turn {n s t : Nat} (hs : s < n) (ht : t < n) {a : Nat → Nat → Int} (h : Pos n a) : Pos n (fun i j => a (sw s t i) (sw s t j)) := by
  intro x hx
  rw [form_turn hs ht]
  obtain ⟨i, hi, hne⟩ := hx
  exact h _ ⟨sw s t i, sw_lt hs ht hi, by rw [sw_sw]; exact hne⟩
theorem Pos_congr {n : Nat} {a b : Nat → Nat → Int} (h : ∀ i j, i < n → j < n → a i j = b i j) (hp : Pos n a) : Pos n b := by
  intro x hx
  have h1 := hp x hx
  have e : form n a x = form n b x := sum_congr fun i hi => sum_congr fun j hj => by rw [h i j hi hj]
  omega
end Go.PD
set_option linter.unusedSimpArgs false
namespace Go.Proofs.YtfalfmfkifemeaaGreatDoor
open Go.AL
theorem und2 : Tryz.prog.underlying 2 = some (.int .i64) := by kernel_rfl
theorem agg2 : isAggT Tryz.prog 2 = some false := by kernel_rfl
theorem und3 : Tryz.prog.underlying 3 = some (.int .i64) := by kernel_rfl
theorem agg3 : isAggT Tryz.prog 3 = some false := by kernel_rfl
theorem und4 : Tryz.prog.underlying 4 = some (.bool) := by kernel_rfl
theorem agg4 : isAggT Tryz.prog 4 = some false := by kernel_rfl
theorem und5 : Tryz.prog.underlying 5 = some (.int .u8) := by kernel_rfl
theorem agg5 : isAggT Tryz.prog 5 = some false := by kernel_rfl
theorem und9 : Tryz.prog.underlying 9 = some (.string) := by kernel_rfl
theorem agg9 : isAggT Tryz.prog 9 = some false := by kernel_rfl
theorem und20 : Tryz.prog.underlying 20 = some (.interface #[]) := by kernel_rfl
theorem agg20 : isAggT Tryz.prog 20 = some false := by kernel_rfl
theorem und22 : Tryz.prog.underlying 22 = some (.slice 2) := by kernel_rfl
theorem agg22 : isAggT Tryz.prog 22 = some false := by kernel_rfl
theorem und23 : Tryz.prog.underlying 23 = some (.struct #[{ name := "N", type := 3, offset := 0, embedded := false, tag := "", pkgPath := "", byteOffset := 0 }, { name := "A", type := 22, offset := 1, embedded := false, tag := "", pkgPath := "", byteOffset := 8 }]) := by kernel_rfl
theorem agg23 : isAggT Tryz.prog 23 = some true := by kernel_rfl
theorem und24 : Tryz.prog.underlying 24 = some (.struct #[{ name := "N", type := 3, offset := 0, embedded := false, tag := "", pkgPath := "", byteOffset := 0 }, { name := "A", type := 22, offset := 1, embedded := false, tag := "", pkgPath := "", byteOffset := 8 }]) := by kernel_rfl
theorem agg24 : isAggT Tryz.prog 24 = some true := by kernel_rfl
theorem und25 : Tryz.prog.underlying 25 = some (.int .u16) := by kernel_rfl
theorem agg25 : isAggT Tryz.prog 25 = some false := by kernel_rfl
theorem und26 : Tryz.prog.underlying 26 = some (.slice 76) := by kernel_rfl
theorem agg26 : isAggT Tryz.prog 26 = some false := by kernel_rfl
theorem und31 : Tryz.prog.underlying 31 = some (.int .u64) := by kernel_rfl
theorem agg31 : isAggT Tryz.prog 31 = some false := by kernel_rfl
theorem und32 : Tryz.prog.underlying 32 = some (.array 16 31) := by kernel_rfl
theorem agg32 : isAggT Tryz.prog 32 = some true := by kernel_rfl
theorem und33 : Tryz.prog.underlying 33 = some (.array 16 31) := by kernel_rfl
theorem agg33 : isAggT Tryz.prog 33 = some true := by kernel_rfl
theorem und34 : Tryz.prog.underlying 34 = some (.interface #[("Error", 179)]) := by kernel_rfl
theorem agg34 : isAggT Tryz.prog 34 = some false := by kernel_rfl
theorem und35 : Tryz.prog.underlying 35 = some (.interface #[("Error", 179)]) := by kernel_rfl
theorem agg35 : isAggT Tryz.prog 35 = some false := by kernel_rfl
theorem und38 : Tryz.prog.underlying 38 = some (.slice 33) := by kernel_rfl
theorem agg38 : isAggT Tryz.prog 38 = some false := by kernel_rfl
theorem und44 : Tryz.prog.underlying 44 = some (.slice 31) := by kernel_rfl
theorem agg44 : isAggT Tryz.prog 44 = some false := by kernel_rfl
theorem und45 : Tryz.prog.underlying 45 = some (.struct #[{ name := "Neg", type := 4, offset := 0, embedded := false, tag := "", pkgPath := "", byteOffset := 0 }, { name := "M", type := 44, offset := 1, embedded := false, tag := "", pkgPath := "", byteOffset := 8 }]) := by kernel_rfl
theorem agg45 : isAggT Tryz.prog 45 = some true := by kernel_rfl
theorem und46 : Tryz.prog.underlying 46 = some (.struct #[{ name := "Neg", type := 4, offset := 0, embedded := false, tag := "", pkgPath := "", byteOffset := 0 }, { name := "M", type := 44, offset := 1, embedded := false, tag := "", pkgPath := "", byteOffset := 8 }]) := by kernel_rfl
theorem agg46 : isAggT Tryz.prog 46 = some true := by kernel_rfl
theorem und58 : Tryz.prog.underlying 58 = some (.slice 3) := by kernel_rfl
theorem agg58 : isAggT Tryz.prog 58 = some false := by kernel_rfl
theorem und76 : Tryz.prog.underlying 76 = some (.int .i16) := by kernel_rfl
theorem agg76 : isAggT Tryz.prog 76 = some false := by kernel_rfl
theorem und78 : Tryz.prog.underlying 78 = some (.int .i64) := by kernel_rfl
theorem agg78 : isAggT Tryz.prog 78 = some false := by kernel_rfl
theorem und79 : Tryz.prog.underlying 79 = some (.slice 38) := by kernel_rfl
theorem agg79 : isAggT Tryz.prog 79 = some false := by kernel_rfl
theorem und87 : Tryz.prog.underlying 87 = some (.slice 9) := by kernel_rfl
theorem agg87 : isAggT Tryz.prog 87 = some false := by kernel_rfl
theorem und110 : Tryz.prog.underlying 110 = some (.pointer 112) := by kernel_rfl
theorem agg110 : isAggT Tryz.prog 110 = some false := by kernel_rfl
theorem und111 : Tryz.prog.underlying 111 = some (.struct #[{ name := "Op", type := 9, offset := 0, embedded := false, tag := "", pkgPath := "", byteOffset := 0 }, { name := "Err", type := 35, offset := 1, embedded := false, tag := "", pkgPath := "", byteOffset := 16 }]) := by kernel_rfl
theorem agg111 : isAggT Tryz.prog 111 = some true := by kernel_rfl
theorem und112 : Tryz.prog.underlying 112 = some (.struct #[{ name := "Op", type := 9, offset := 0, embedded := false, tag := "", pkgPath := "", byteOffset := 0 }, { name := "Err", type := 35, offset := 1, embedded := false, tag := "", pkgPath := "", byteOffset := 16 }]) := by kernel_rfl
theorem agg112 : isAggT Tryz.prog 112 = some true := by kernel_rfl
theorem und115 : Tryz.prog.underlying 115 = some (.int .u64) := by kernel_rfl
theorem agg115 : isAggT Tryz.prog 115 = some false := by kernel_rfl
theorem und123 : Tryz.prog.underlying 123 = some (.pointer 78) := by kernel_rfl
theorem agg123 : isAggT Tryz.prog 123 = some false := by kernel_rfl
theorem und138 : Tryz.prog.underlying 138 = some (.interface #[("Unwrap", 142)]) := by kernel_rfl
theorem agg138 : isAggT Tryz.prog 138 = some false := by kernel_rfl
theorem und141 : Tryz.prog.underlying 141 = some (.slice 35) := by kernel_rfl
theorem agg141 : isAggT Tryz.prog 141 = some false := by kernel_rfl
theorem und160 : Tryz.prog.underlying 160 = some (.array 17 31) := by kernel_rfl
theorem agg160 : isAggT Tryz.prog 160 = some true := by kernel_rfl
theorem size2 : sizeT Tryz.prog 2 = some 1 := by kernel_rfl
theorem bytes2 : bytesT Tryz.prog 2 = some 8 := by kernel_rfl
theorem zero2 : zeroT Tryz.prog 2 = some (.int .i64 0) := by kernel_rfl
theorem size3 : sizeT Tryz.prog 3 = some 1 := by kernel_rfl
theorem bytes3 : bytesT Tryz.prog 3 = some 8 := by kernel_rfl
theorem zero3 : zeroT Tryz.prog 3 = some (.int .i64 0) := by kernel_rfl
theorem size4 : sizeT Tryz.prog 4 = some 1 := by kernel_rfl
theorem bytes4 : bytesT Tryz.prog 4 = some 1 := by kernel_rfl
theorem zero4 : zeroT Tryz.prog 4 = some (.bool false) := by kernel_rfl
theorem size5 : sizeT Tryz.prog 5 = some 1 := by kernel_rfl
theorem bytes5 : bytesT Tryz.prog 5 = some 1 := by kernel_rfl
theorem zero5 : zeroT Tryz.prog 5 = some (.int .u8 0) := by kernel_rfl
theorem size9 : sizeT Tryz.prog 9 = some 1 := by kernel_rfl
theorem bytes9 : bytesT Tryz.prog 9 = some 16 := by kernel_rfl
theorem zero9 : zeroT Tryz.prog 9 = some (.str .empty) := by kernel_rfl
theorem size20 : sizeT Tryz.prog 20 = some 1 := by kernel_rfl
theorem bytes20 : bytesT Tryz.prog 20 = some 16 := by kernel_rfl
theorem zero20 : zeroT Tryz.prog 20 = some (.nilI) := by kernel_rfl
theorem size22 : sizeT Tryz.prog 22 = some 1 := by kernel_rfl
theorem bytes22 : bytesT Tryz.prog 22 = some 24 := by kernel_rfl
theorem zero22 : zeroT Tryz.prog 22 = some (.nilS) := by kernel_rfl
theorem size23 : sizeT Tryz.prog 23 = some 2 := by kernel_rfl
theorem bytes23 : bytesT Tryz.prog 23 = some 32 := by kernel_rfl
theorem zero23 : zeroT Tryz.prog 23 = some (.agg [.int .i64 0, .nilS]) := by kernel_rfl
theorem size24 : sizeT Tryz.prog 24 = some 2 := by kernel_rfl
theorem bytes24 : bytesT Tryz.prog 24 = some 32 := by kernel_rfl
theorem zero24 : zeroT Tryz.prog 24 = some (.agg [.int .i64 0, .nilS]) := by kernel_rfl
theorem size25 : sizeT Tryz.prog 25 = some 1 := by kernel_rfl
theorem bytes25 : bytesT Tryz.prog 25 = some 2 := by kernel_rfl
theorem zero25 : zeroT Tryz.prog 25 = some (.int .u16 0) := by kernel_rfl
theorem size26 : sizeT Tryz.prog 26 = some 1 := by kernel_rfl
theorem bytes26 : bytesT Tryz.prog 26 = some 24 := by kernel_rfl
theorem zero26 : zeroT Tryz.prog 26 = some (.nilS) := by kernel_rfl
theorem size31 : sizeT Tryz.prog 31 = some 1 := by kernel_rfl
theorem bytes31 : bytesT Tryz.prog 31 = some 8 := by kernel_rfl
theorem zero31 : zeroT Tryz.prog 31 = some (.int .u64 0) := by kernel_rfl
theorem size32 : sizeT Tryz.prog 32 = some 16 := by kernel_rfl
theorem bytes32 : bytesT Tryz.prog 32 = some 128 := by kernel_rfl
theorem zero32 : zeroT Tryz.prog 32 = some (.agg ((Go.PW.dig 16 0).map (AV.int .u64))) := by kernel_rfl
theorem bld32 : abuild Tryz.prog 32 [] = some (.agg ((Go.PW.dig 16 0).map (AV.int .u64))) := by kernel_rfl
theorem size33 : sizeT Tryz.prog 33 = some 16 := by kernel_rfl
theorem bytes33 : bytesT Tryz.prog 33 = some 128 := by kernel_rfl
theorem zero33 : zeroT Tryz.prog 33 = some (.agg ((Go.PW.dig 16 0).map (AV.int .u64))) := by kernel_rfl
theorem bld33 : abuild Tryz.prog 33 [] = some (.agg ((Go.PW.dig 16 0).map (AV.int .u64))) := by kernel_rfl
theorem size34 : sizeT Tryz.prog 34 = some 1 := by kernel_rfl
theorem bytes34 : bytesT Tryz.prog 34 = some 16 := by kernel_rfl
theorem zero34 : zeroT Tryz.prog 34 = some (.nilI) := by kernel_rfl
theorem size35 : sizeT Tryz.prog 35 = some 1 := by kernel_rfl
theorem bytes35 : bytesT Tryz.prog 35 = some 16 := by kernel_rfl
theorem zero35 : zeroT Tryz.prog 35 = some (.nilI) := by kernel_rfl
theorem size38 : sizeT Tryz.prog 38 = some 1 := by kernel_rfl
theorem bytes38 : bytesT Tryz.prog 38 = some 24 := by kernel_rfl
theorem zero38 : zeroT Tryz.prog 38 = some (.nilS) := by kernel_rfl
theorem size44 : sizeT Tryz.prog 44 = some 1 := by kernel_rfl
theorem bytes44 : bytesT Tryz.prog 44 = some 24 := by kernel_rfl
theorem zero44 : zeroT Tryz.prog 44 = some (.nilS) := by kernel_rfl
theorem size45 : sizeT Tryz.prog 45 = some 2 := by kernel_rfl
theorem bytes45 : bytesT Tryz.prog 45 = some 32 := by kernel_rfl
theorem zero45 : zeroT Tryz.prog 45 = some (.agg [.bool false, .nilS]) := by kernel_rfl
theorem size46 : sizeT Tryz.prog 46 = some 2 := by kernel_rfl
theorem bytes46 : bytesT Tryz.prog 46 = some 32 := by kernel_rfl
theorem zero46 : zeroT Tryz.prog 46 = some (.agg [.bool false, .nilS]) := by kernel_rfl
theorem size58 : sizeT Tryz.prog 58 = some 1 := by kernel_rfl
theorem bytes58 : bytesT Tryz.prog 58 = some 24 := by kernel_rfl
theorem zero58 : zeroT Tryz.prog 58 = some (.nilS) := by kernel_rfl
theorem size76 : sizeT Tryz.prog 76 = some 1 := by kernel_rfl
theorem bytes76 : bytesT Tryz.prog 76 = some 2 := by kernel_rfl
theorem zero76 : zeroT Tryz.prog 76 = some (.int .i16 0) := by kernel_rfl
theorem size78 : sizeT Tryz.prog 78 = some 1 := by kernel_rfl
theorem bytes78 : bytesT Tryz.prog 78 = some 8 := by kernel_rfl
theorem zero78 : zeroT Tryz.prog 78 = some (.int .i64 0) := by kernel_rfl
theorem size79 : sizeT Tryz.prog 79 = some 1 := by kernel_rfl
theorem bytes79 : bytesT Tryz.prog 79 = some 24 := by kernel_rfl
theorem zero79 : zeroT Tryz.prog 79 = some (.nilS) := by kernel_rfl
theorem size87 : sizeT Tryz.prog 87 = some 1 := by kernel_rfl
theorem bytes87 : bytesT Tryz.prog 87 = some 24 := by kernel_rfl
theorem zero87 : zeroT Tryz.prog 87 = some (.nilS) := by kernel_rfl
theorem size110 : sizeT Tryz.prog 110 = some 1 := by kernel_rfl
theorem bytes110 : bytesT Tryz.prog 110 = some 8 := by kernel_rfl
theorem zero110 : zeroT Tryz.prog 110 = some (.nilP) := by kernel_rfl
theorem size111 : sizeT Tryz.prog 111 = some 2 := by kernel_rfl
theorem bytes111 : bytesT Tryz.prog 111 = some 32 := by kernel_rfl
theorem zero111 : zeroT Tryz.prog 111 = some (.agg [.str .empty, .nilI]) := by kernel_rfl
theorem size112 : sizeT Tryz.prog 112 = some 2 := by kernel_rfl
theorem bytes112 : bytesT Tryz.prog 112 = some 32 := by kernel_rfl
theorem zero112 : zeroT Tryz.prog 112 = some (.agg [.str .empty, .nilI]) := by kernel_rfl
theorem size115 : sizeT Tryz.prog 115 = some 1 := by kernel_rfl
theorem bytes115 : bytesT Tryz.prog 115 = some 8 := by kernel_rfl
theorem zero115 : zeroT Tryz.prog 115 = some (.int .u64 0) := by kernel_rfl
theorem size123 : sizeT Tryz.prog 123 = some 1 := by kernel_rfl
theorem bytes123 : bytesT Tryz.prog 123 = some 8 := by kernel_rfl
theorem zero123 : zeroT Tryz.prog 123 = some (.nilP) := by kernel_rfl
theorem size138 : sizeT Tryz.prog 138 = some 1 := by kernel_rfl
theorem bytes138 : bytesT Tryz.prog 138 = some 16 := by kernel_rfl
theorem zero138 : zeroT Tryz.prog 138 = some (.nilI) := by kernel_rfl
theorem size141 : sizeT Tryz.prog 141 = some 1 := by kernel_rfl
theorem bytes141 : bytesT Tryz.prog 141 = some 24 := by kernel_rfl
theorem zero141 : zeroT Tryz.prog 141 = some (.nilS) := by kernel_rfl
theorem size160 : sizeT Tryz.prog 160 = some 17 := by kernel_rfl
theorem bytes160 : bytesT Tryz.prog 160 = some 136 := by kernel_rfl
theorem zero160 : zeroT Tryz.prog 160 = some (.agg ((Go.PW.dig 17 0).map (AV.int .u64))) := by kernel_rfl
theorem bld160 : abuild Tryz.prog 160 [] = some (.agg ((Go.PW.dig 17 0).map (AV.int .u64))) := by kernel_rfl
theorem lenS22 (h o n c : Nat) : abuiltin Tryz.prog .len #[22] [.sl h o n c] = some (.int .i64 n) := by simp [abuiltin, und22]
theorem lenG22 (h o n z : Nat) : abuiltin Tryz.prog .len #[22] [.sg h o n z] = some (.int .i64 n) := by simp [abuiltin, und22]
theorem lenN22 : abuiltin Tryz.prog .len #[22] [.nilS] = some (.int .i64 0) := by simp [abuiltin, und22]
theorem lenS26 (h o n c : Nat) : abuiltin Tryz.prog .len #[26] [.sl h o n c] = some (.int .i64 n) := by simp [abuiltin, und26]
theorem lenG26 (h o n z : Nat) : abuiltin Tryz.prog .len #[26] [.sg h o n z] = some (.int .i64 n) := by simp [abuiltin, und26]
theorem lenN26 : abuiltin Tryz.prog .len #[26] [.nilS] = some (.int .i64 0) := by simp [abuiltin, und26]
theorem lenS38 (h o n c : Nat) : abuiltin Tryz.prog .len #[38] [.sl h o n c] = some (.int .i64 n) := by simp [abuiltin, und38]
theorem lenG38 (h o n z : Nat) : abuiltin Tryz.prog .len #[38] [.sg h o n z] = some (.int .i64 n) := by simp [abuiltin, und38]
theorem lenN38 : abuiltin Tryz.prog .len #[38] [.nilS] = some (.int .i64 0) := by simp [abuiltin, und38]
theorem lenS44 (h o n c : Nat) : abuiltin Tryz.prog .len #[44] [.sl h o n c] = some (.int .i64 n) := by simp [abuiltin, und44]
theorem lenG44 (h o n z : Nat) : abuiltin Tryz.prog .len #[44] [.sg h o n z] = some (.int .i64 n) := by simp [abuiltin, und44]
theorem lenN44 : abuiltin Tryz.prog .len #[44] [.nilS] = some (.int .i64 0) := by simp [abuiltin, und44]
theorem lenS58 (h o n c : Nat) : abuiltin Tryz.prog .len #[58] [.sl h o n c] = some (.int .i64 n) := by simp [abuiltin, und58]
theorem lenG58 (h o n z : Nat) : abuiltin Tryz.prog .len #[58] [.sg h o n z] = some (.int .i64 n) := by simp [abuiltin, und58]
theorem lenN58 : abuiltin Tryz.prog .len #[58] [.nilS] = some (.int .i64 0) := by simp [abuiltin, und58]
theorem lenS79 (h o n c : Nat) : abuiltin Tryz.prog .len #[79] [.sl h o n c] = some (.int .i64 n) := by simp [abuiltin, und79]
theorem lenG79 (h o n z : Nat) : abuiltin Tryz.prog .len #[79] [.sg h o n z] = some (.int .i64 n) := by simp [abuiltin, und79]
theorem lenN79 : abuiltin Tryz.prog .len #[79] [.nilS] = some (.int .i64 0) := by simp [abuiltin, und79]
theorem lenS87 (h o n c : Nat) : abuiltin Tryz.prog .len #[87] [.sl h o n c] = some (.int .i64 n) := by simp [abuiltin, und87]
theorem lenG87 (h o n z : Nat) : abuiltin Tryz.prog .len #[87] [.sg h o n z] = some (.int .i64 n) := by simp [abuiltin, und87]
theorem lenN87 : abuiltin Tryz.prog .len #[87] [.nilS] = some (.int .i64 0) := by simp [abuiltin, und87]
theorem lenS141 (h o n c : Nat) : abuiltin Tryz.prog .len #[141] [.sl h o n c] = some (.int .i64 n) := by simp [abuiltin, und141]
theorem lenG141 (h o n z : Nat) : abuiltin Tryz.prog .len #[141] [.sg h o n z] = some (.int .i64 n) := by simp [abuiltin, und141]
theorem lenN141 : abuiltin Tryz.prog .len #[141] [.nilS] = some (.int .i64 0) := by simp [abuiltin, und141]
theorem six22 {h o n c : Nat} {l : IntKind} {j : Int} (h0 : 0 ≤ j) (h1 : j < (n : Int)) : aindexAddr Tryz.prog 22 (.sl h o n c) (.int l j) = some (.ptr h (o + j.toNat)) := at_sl1 und22 size2 h0 h1
theorem gix22 {h o n : Nat} {l : IntKind} {j : Int} (h0 : 0 ≤ j) (h1 : j < (n : Int)) : aindexAddr Tryz.prog 22 (.sg h o n 1) (.int l j) = some (.ptr h (o + j.toNat)) := at_sg1 und22 size2 h0 h1
theorem six26 {h o n c : Nat} {l : IntKind} {j : Int} (h0 : 0 ≤ j) (h1 : j < (n : Int)) : aindexAddr Tryz.prog 26 (.sl h o n c) (.int l j) = some (.ptr h (o + j.toNat)) := at_sl1 und26 size76 h0 h1
theorem gix26 {h o n : Nat} {l : IntKind} {j : Int} (h0 : 0 ≤ j) (h1 : j < (n : Int)) : aindexAddr Tryz.prog 26 (.sg h o n 1) (.int l j) = some (.ptr h (o + j.toNat)) := at_sg1 und26 size76 h0 h1
theorem six38 {h o n c : Nat} {l : IntKind} {j : Int} (h0 : 0 ≤ j) (h1 : j < (n : Int)) : aindexAddr Tryz.prog 38 (.sl h o n c) (.int l j) = some (.ptr h (o + j.toNat * 16)) := at_sl und38 size33 h0 h1
theorem gix38 {h o n : Nat} {l : IntKind} {j : Int} (h0 : 0 ≤ j) (h1 : j < (n : Int)) : aindexAddr Tryz.prog 38 (.sg h o n 16) (.int l j) = some (.ptr h (o + j.toNat * 16)) := at_sg und38 size33 h0 h1
theorem six44 {h o n c : Nat} {l : IntKind} {j : Int} (h0 : 0 ≤ j) (h1 : j < (n : Int)) : aindexAddr Tryz.prog 44 (.sl h o n c) (.int l j) = some (.ptr h (o + j.toNat)) := at_sl1 und44 size31 h0 h1
theorem gix44 {h o n : Nat} {l : IntKind} {j : Int} (h0 : 0 ≤ j) (h1 : j < (n : Int)) : aindexAddr Tryz.prog 44 (.sg h o n 1) (.int l j) = some (.ptr h (o + j.toNat)) := at_sg1 und44 size31 h0 h1
theorem six58 {h o n c : Nat} {l : IntKind} {j : Int} (h0 : 0 ≤ j) (h1 : j < (n : Int)) : aindexAddr Tryz.prog 58 (.sl h o n c) (.int l j) = some (.ptr h (o + j.toNat)) := at_sl1 und58 size3 h0 h1
theorem gix58 {h o n : Nat} {l : IntKind} {j : Int} (h0 : 0 ≤ j) (h1 : j < (n : Int)) : aindexAddr Tryz.prog 58 (.sg h o n 1) (.int l j) = some (.ptr h (o + j.toNat)) := at_sg1 und58 size3 h0 h1
theorem six79 {h o n c : Nat} {l : IntKind} {j : Int} (h0 : 0 ≤ j) (h1 : j < (n : Int)) : aindexAddr Tryz.prog 79 (.sl h o n c) (.int l j) = some (.ptr h (o + j.toNat)) := at_sl1 und79 size38 h0 h1
theorem gix79 {h o n : Nat} {l : IntKind} {j : Int} (h0 : 0 ≤ j) (h1 : j < (n : Int)) : aindexAddr Tryz.prog 79 (.sg h o n 1) (.int l j) = some (.ptr h (o + j.toNat)) := at_sg1 und79 size38 h0 h1
theorem six87 {h o n c : Nat} {l : IntKind} {j : Int} (h0 : 0 ≤ j) (h1 : j < (n : Int)) : aindexAddr Tryz.prog 87 (.sl h o n c) (.int l j) = some (.ptr h (o + j.toNat)) := at_sl1 und87 size9 h0 h1
theorem gix87 {h o n : Nat} {l : IntKind} {j : Int} (h0 : 0 ≤ j) (h1 : j < (n : Int)) : aindexAddr Tryz.prog 87 (.sg h o n 1) (.int l j) = some (.ptr h (o + j.toNat)) := at_sg1 und87 size9 h0 h1
theorem idx32 {h o : Nat} {l : IntKind} {j : Int} (h0 : 0 ≤ j) (h1 : j < 16) : aindexAddr Tryz.prog 32 (.ptr h o) (.int l j) = some (.ptr h (o + j.toNat * 1)) := addr_array und32 size31 h0 h1
theorem sla32 {h o : Nat} : aslice Tryz.prog 32 (.ptr h o) none none none = some (.sl h o 16 16) := slice_array und32 size31
theorem slh32 {h o : Nat} {l : IntKind} {q : Int} (h0 : 0 ≤ q) (h1 : q ≤ 16) : aslice Tryz.prog 32 (.ptr h o) none (some (.int l q)) none = some (.sl h o q.toNat 16) := slice_array_hi und32 size31 h0 h1
theorem idx33 {h o : Nat} {l : IntKind} {j : Int} (h0 : 0 ≤ j) (h1 : j < 16) : aindexAddr Tryz.prog 33 (.ptr h o) (.int l j) = some (.ptr h (o + j.toNat * 1)) := addr_array und33 size31 h0 h1
theorem sla33 {h o : Nat} : aslice Tryz.prog 33 (.ptr h o) none none none = some (.sl h o 16 16) := slice_array und33 size31
theorem slh33 {h o : Nat} {l : IntKind} {q : Int} (h0 : 0 ≤ q) (h1 : q ≤ 16) : aslice Tryz.prog 33 (.ptr h o) none (some (.int l q)) none = some (.sl h o q.toNat 16) := slice_array_hi und33 size31 h0 h1
theorem ix33 {l k : IntKind} {xs : List Int} {j : Int} (hn : xs.length = 16) (h0 : 0 ≤ j) (h1 : j < 16) : aindex Tryz.prog 33 (.agg (xs.map (AV.int k))) (.int l j) = some (.int k (xs.getD j.toNat 0)) := index_ints und33 size31 agg31 hn h0 h1
theorem idx160 {h o : Nat} {l : IntKind} {j : Int} (h0 : 0 ≤ j) (h1 : j < 17) : aindexAddr Tryz.prog 160 (.ptr h o) (.int l j) = some (.ptr h (o + j.toNat * 1)) := addr_array und160 size31 h0 h1
theorem sla160 {h o : Nat} : aslice Tryz.prog 160 (.ptr h o) none none none = some (.sl h o 17 17) := slice_array und160 size31
theorem slh160 {h o : Nat} {l : IntKind} {q : Int} (h0 : 0 ≤ q) (h1 : q ≤ 17) : aslice Tryz.prog 160 (.ptr h o) none (some (.int l q)) none = some (.sl h o q.toNat 17) := slice_array_hi und160 size31 h0 h1
theorem fad23_0 {h o : Nat} : afieldAddr Tryz.prog 23 (.ptr h o) 0 = some (.ptr h (o)) := by simp [afieldAddr, und23, size3]
theorem fad23_1 {h o : Nat} : afieldAddr Tryz.prog 23 (.ptr h o) 1 = some (.ptr h (o + 1)) := by simp [afieldAddr, und23, size22]
theorem fad24_0 {h o : Nat} : afieldAddr Tryz.prog 24 (.ptr h o) 0 = some (.ptr h (o)) := by simp [afieldAddr, und24, size3]
theorem fad24_1 {h o : Nat} : afieldAddr Tryz.prog 24 (.ptr h o) 1 = some (.ptr h (o + 1)) := by simp [afieldAddr, und24, size22]
theorem fad45_0 {h o : Nat} : afieldAddr Tryz.prog 45 (.ptr h o) 0 = some (.ptr h (o)) := by simp [afieldAddr, und45, size4]
theorem fad45_1 {h o : Nat} : afieldAddr Tryz.prog 45 (.ptr h o) 1 = some (.ptr h (o + 1)) := by simp [afieldAddr, und45, size44]
theorem fad46_0 {h o : Nat} : afieldAddr Tryz.prog 46 (.ptr h o) 0 = some (.ptr h (o)) := by simp [afieldAddr, und46, size4]
theorem fad46_1 {h o : Nat} : afieldAddr Tryz.prog 46 (.ptr h o) 1 = some (.ptr h (o + 1)) := by simp [afieldAddr, und46, size44]
theorem fad111_0 {h o : Nat} : afieldAddr Tryz.prog 111 (.ptr h o) 0 = some (.ptr h (o)) := by simp [afieldAddr, und111, size9]
theorem fad111_1 {h o : Nat} : afieldAddr Tryz.prog 111 (.ptr h o) 1 = some (.ptr h (o + 1)) := by simp [afieldAddr, und111, size35]
theorem fad112_0 {h o : Nat} : afieldAddr Tryz.prog 112 (.ptr h o) 0 = some (.ptr h (o)) := by simp [afieldAddr, und112, size9]
theorem fad112_1 {h o : Nat} : afieldAddr Tryz.prog 112 (.ptr h o) 1 = some (.ptr h (o + 1)) := by simp [afieldAddr, und112, size35]
theorem bst24_e : abuild Tryz.prog 24 [] = some (.agg [(.int .i64 0), (.nilS)]) := by
  simp [abuild, zero24, aplace, und24, size3, size22, afill, splice, AV.cells_agg]
theorem bst24_0 {x0 : AV} (h0 : x0.one = true) : abuild Tryz.prog 24 [(0, x0)] = some (.agg [x0, (.nilS)]) := by
  simp [abuild, zero24, aplace, und24, size3, size22, afill, splice, AV.solid_one h0, AV.cells_one h0, AV.cells_agg]
theorem bst24_01 {x0 x1 : AV} (h0 : x0.one = true) (h1 : x1.one = true) : abuild Tryz.prog 24 [(0, x0), (1, x1)] = some (.agg [x0, x1]) := by
  simp [abuild, zero24, aplace, und24, size3, size22, afill, splice, AV.solid_one h0, AV.cells_one h0, AV.solid_one h1, AV.cells_one h1, AV.cells_agg]
theorem bst46_e : abuild Tryz.prog 46 [] = some (.agg [(.bool false), (.nilS)]) := by
  simp [abuild, zero46, aplace, und46, size4, size44, afill, splice, AV.cells_agg]
theorem bst46_01 {x0 x1 : AV} (h0 : x0.one = true) (h1 : x1.one = true) : abuild Tryz.prog 46 [(0, x0), (1, x1)] = some (.agg [x0, x1]) := by
  simp [abuild, zero46, aplace, und46, size4, size44, afill, splice, AV.solid_one h0, AV.cells_one h0, AV.solid_one h1, AV.cells_one h1, AV.cells_agg]
theorem eg32 : Tryz.prog.eqGuardType Tryz.prog.depth 32 = false := by kernel_rfl
theorem eg33 : Tryz.prog.eqGuardType Tryz.prog.depth 33 = false := by kernel_rfl
theorem eg160 : Tryz.prog.eqGuardType Tryz.prog.depth 160 = false := by kernel_rfl
theorem eqB4 (a b : Bool) : aeqIn Tryz.prog Op.maxDepth 4 (.bool a) (.bool b) = some (a == b) := eq_bools und4
theorem eqSl22 (h o n c : Nat) : aeqIn Tryz.prog Op.maxDepth 22 (.sl h o n c) .nilS = some false := eq_sl_nil und22
theorem eqSg22 (h o n c : Nat) : aeqIn Tryz.prog Op.maxDepth 22 (.sg h o n c) .nilS = some false := eq_sg_nil und22
theorem eqSn22 : aeqIn Tryz.prog Op.maxDepth 22 .nilS .nilS = some true := eq_nil_nil und22
theorem eqSl26 (h o n c : Nat) : aeqIn Tryz.prog Op.maxDepth 26 (.sl h o n c) .nilS = some false := eq_sl_nil und26
theorem eqSg26 (h o n c : Nat) : aeqIn Tryz.prog Op.maxDepth 26 (.sg h o n c) .nilS = some false := eq_sg_nil und26
theorem eqSn26 : aeqIn Tryz.prog Op.maxDepth 26 .nilS .nilS = some true := eq_nil_nil und26
theorem eqSl38 (h o n c : Nat) : aeqIn Tryz.prog Op.maxDepth 38 (.sl h o n c) .nilS = some false := eq_sl_nil und38
theorem eqSg38 (h o n c : Nat) : aeqIn Tryz.prog Op.maxDepth 38 (.sg h o n c) .nilS = some false := eq_sg_nil und38
theorem eqSn38 : aeqIn Tryz.prog Op.maxDepth 38 .nilS .nilS = some true := eq_nil_nil und38
theorem eqSl44 (h o n c : Nat) : aeqIn Tryz.prog Op.maxDepth 44 (.sl h o n c) .nilS = some false := eq_sl_nil und44
theorem eqSg44 (h o n c : Nat) : aeqIn Tryz.prog Op.maxDepth 44 (.sg h o n c) .nilS = some false := eq_sg_nil und44
theorem eqSn44 : aeqIn Tryz.prog Op.maxDepth 44 .nilS .nilS = some true := eq_nil_nil und44
theorem eqSl58 (h o n c : Nat) : aeqIn Tryz.prog Op.maxDepth 58 (.sl h o n c) .nilS = some false := eq_sl_nil und58
theorem eqSg58 (h o n c : Nat) : aeqIn Tryz.prog Op.maxDepth 58 (.sg h o n c) .nilS = some false := eq_sg_nil und58
theorem eqSn58 : aeqIn Tryz.prog Op.maxDepth 58 .nilS .nilS = some true := eq_nil_nil und58
theorem eqSl79 (h o n c : Nat) : aeqIn Tryz.prog Op.maxDepth 79 (.sl h o n c) .nilS = some false := eq_sl_nil und79
theorem eqSg79 (h o n c : Nat) : aeqIn Tryz.prog Op.maxDepth 79 (.sg h o n c) .nilS = some false := eq_sg_nil und79
theorem eqSn79 : aeqIn Tryz.prog Op.maxDepth 79 .nilS .nilS = some true := eq_nil_nil und79
theorem eqSl87 (h o n c : Nat) : aeqIn Tryz.prog Op.maxDepth 87 (.sl h o n c) .nilS = some false := eq_sl_nil und87
theorem eqSg87 (h o n c : Nat) : aeqIn Tryz.prog Op.maxDepth 87 (.sg h o n c) .nilS = some false := eq_sg_nil und87
theorem eqSn87 : aeqIn Tryz.prog Op.maxDepth 87 .nilS .nilS = some true := eq_nil_nil und87
theorem eqPn110 (h o : Nat) : aeqIn Tryz.prog Op.maxDepth 110 (.ptr h o) .nilP = some false := eq_ptr_nil und110
theorem eqPP110 : aeqIn Tryz.prog Op.maxDepth 110 .nilP .nilP = some true := eq_nilP_nilP und110
theorem eqPn123 (h o : Nat) : aeqIn Tryz.prog Op.maxDepth 123 (.ptr h o) .nilP = some false := eq_ptr_nil und123
theorem eqPP123 : aeqIn Tryz.prog Op.maxDepth 123 .nilP .nilP = some true := eq_nilP_nilP und123
theorem eqSl141 (h o n c : Nat) : aeqIn Tryz.prog Op.maxDepth 141 (.sl h o n c) .nilS = some false := eq_sl_nil und141
theorem eqSg141 (h o n c : Nat) : aeqIn Tryz.prog Op.maxDepth 141 (.sg h o n c) .nilS = some false := eq_sg_nil und141
theorem eqSn141 : aeqIn Tryz.prog Op.maxDepth 141 .nilS .nilS = some true := eq_nil_nil und141
theorem cv2_31 (H : Hp) (k : IntKind) (n : Int) : aconv Tryz.prog H 2 31 (.int k n) = some (.int .u64 (IntKind.u64.wrap n)) := by simp [aconv, und2, und31]
theorem cv3_115 (H : Hp) (k : IntKind) (n : Int) : aconv Tryz.prog H 3 115 (.int k n) = some (.int .u64 (IntKind.u64.wrap n)) := by simp [aconv, und3, und115]
theorem cv5_3 (H : Hp) (k : IntKind) (n : Int) : aconv Tryz.prog H 5 3 (.int k n) = some (.int .i64 (IntKind.i64.wrap n)) := by simp [aconv, und5, und3]
theorem cv25_2 (H : Hp) (k : IntKind) (n : Int) : aconv Tryz.prog H 25 2 (.int k n) = some (.int .i64 (IntKind.i64.wrap n)) := by simp [aconv, und25, und2]
theorem cv31_2 (H : Hp) (k : IntKind) (n : Int) : aconv Tryz.prog H 31 2 (.int k n) = some (.int .i64 (IntKind.i64.wrap n)) := by simp [aconv, und31, und2]
theorem cv31_5 (H : Hp) (k : IntKind) (n : Int) : aconv Tryz.prog H 31 5 (.int k n) = some (.int .u8 (IntKind.u8.wrap n)) := by simp [aconv, und31, und5]
theorem cv76_2 (H : Hp) (k : IntKind) (n : Int) : aconv Tryz.prog H 76 2 (.int k n) = some (.int .i64 (IntKind.i64.wrap n)) := by simp [aconv, und76, und2]
theorem tyb2 : type_of% (And.intro @und2 (And.intro @agg2 (And.intro @size2 (And.intro @bytes2 (@zero2))))) := And.intro @und2 (And.intro @agg2 (And.intro @size2 (And.intro @bytes2 (@zero2))))
theorem tyb3 : type_of% (And.intro @und3 (And.intro @agg3 (And.intro @size3 (And.intro @bytes3 (@zero3))))) := And.intro @und3 (And.intro @agg3 (And.intro @size3 (And.intro @bytes3 (@zero3))))
theorem tyb4 : type_of% (And.intro @und4 (And.intro @agg4 (And.intro @size4 (And.intro @bytes4 (And.intro @zero4 (@eqB4)))))) := And.intro @und4 (And.intro @agg4 (And.intro @size4 (And.intro @bytes4 (And.intro @zero4 (@eqB4)))))
theorem tyb5 : type_of% (And.intro @und5 (And.intro @agg5 (And.intro @size5 (And.intro @bytes5 (@zero5))))) := And.intro @und5 (And.intro @agg5 (And.intro @size5 (And.intro @bytes5 (@zero5))))
theorem tyb9 : type_of% (And.intro @und9 (And.intro @agg9 (And.intro @size9 (And.intro @bytes9 (@zero9))))) := And.intro @und9 (And.intro @agg9 (And.intro @size9 (And.intro @bytes9 (@zero9))))
theorem tyb20 : type_of% (And.intro @und20 (And.intro @agg20 (And.intro @size20 (And.intro @bytes20 (@zero20))))) := And.intro @und20 (And.intro @agg20 (And.intro @size20 (And.intro @bytes20 (@zero20))))
theorem tyb22 : type_of% (And.intro @und22 (And.intro @agg22 (And.intro @size22 (And.intro @bytes22 (And.intro @zero22 (And.intro @lenS22 (And.intro @lenG22 (And.intro @lenN22 (And.intro @eqSl22 (And.intro @eqSg22 (@eqSn22))))))))))) := And.intro @und22 (And.intro @agg22 (And.intro @size22 (And.intro @bytes22 (And.intro @zero22 (And.intro @lenS22 (And.intro @lenG22 (And.intro @lenN22 (And.intro @eqSl22 (And.intro @eqSg22 (@eqSn22))))))))))
theorem tyb23 : type_of% (And.intro @und23 (And.intro @agg23 (And.intro @size23 (And.intro @bytes23 (And.intro @zero23 (And.intro @fad23_0 (@fad23_1))))))) := And.intro @und23 (And.intro @agg23 (And.intro @size23 (And.intro @bytes23 (And.intro @zero23 (And.intro @fad23_0 (@fad23_1))))))
theorem tyb24 : type_of% (And.intro @und24 (And.intro @agg24 (And.intro @size24 (And.intro @bytes24 (And.intro @zero24 (And.intro @fad24_0 (@fad24_1))))))) := And.intro @und24 (And.intro @agg24 (And.intro @size24 (And.intro @bytes24 (And.intro @zero24 (And.intro @fad24_0 (@fad24_1))))))
theorem tyb25 : type_of% (And.intro @und25 (And.intro @agg25 (And.intro @size25 (And.intro @bytes25 (@zero25))))) := And.intro @und25 (And.intro @agg25 (And.intro @size25 (And.intro @bytes25 (@zero25))))
theorem tyb26 : type_of% (And.intro @und26 (And.intro @agg26 (And.intro @size26 (And.intro @bytes26 (And.intro @zero26 (And.intro @lenS26 (And.intro @lenG26 (And.intro @lenN26 (And.intro @eqSl26 (And.intro @eqSg26 (@eqSn26))))))))))) := And.intro @und26 (And.intro @agg26 (And.intro @size26 (And.intro @bytes26 (And.intro @zero26 (And.intro @lenS26 (And.intro @lenG26 (And.intro @lenN26 (And.intro @eqSl26 (And.intro @eqSg26 (@eqSn26))))))))))
theorem tyb31 : type_of% (And.intro @und31 (And.intro @agg31 (And.intro @size31 (And.intro @bytes31 (@zero31))))) := And.intro @und31 (And.intro @agg31 (And.intro @size31 (And.intro @bytes31 (@zero31))))
theorem tyb32 : type_of% (And.intro @und32 (And.intro @agg32 (And.intro @size32 (And.intro @bytes32 (And.intro @zero32 (And.intro @bld32 (And.intro @sla32 (@eg32)))))))) := And.intro @und32 (And.intro @agg32 (And.intro @size32 (And.intro @bytes32 (And.intro @zero32 (And.intro @bld32 (And.intro @sla32 (@eg32)))))))
theorem tyb33 : type_of% (And.intro @und33 (And.intro @agg33 (And.intro @size33 (And.intro @bytes33 (And.intro @zero33 (And.intro @bld33 (And.intro @sla33 (@eg33)))))))) := And.intro @und33 (And.intro @agg33 (And.intro @size33 (And.intro @bytes33 (And.intro @zero33 (And.intro @bld33 (And.intro @sla33 (@eg33)))))))
theorem tyb34 : type_of% (And.intro @und34 (And.intro @agg34 (And.intro @size34 (And.intro @bytes34 (@zero34))))) := And.intro @und34 (And.intro @agg34 (And.intro @size34 (And.intro @bytes34 (@zero34))))
theorem tyb35 : type_of% (And.intro @und35 (And.intro @agg35 (And.intro @size35 (And.intro @bytes35 (@zero35))))) := And.intro @und35 (And.intro @agg35 (And.intro @size35 (And.intro @bytes35 (@zero35))))
theorem tyb38 : type_of% (And.intro @und38 (And.intro @agg38 (And.intro @size38 (And.intro @bytes38 (And.intro @zero38 (And.intro @lenS38 (And.intro @lenG38 (And.intro @lenN38 (And.intro @eqSl38 (And.intro @eqSg38 (@eqSn38))))))))))) := And.intro @und38 (And.intro @agg38 (And.intro @size38 (And.intro @bytes38 (And.intro @zero38 (And.intro @lenS38 (And.intro @lenG38 (And.intro @lenN38 (And.intro @eqSl38 (And.intro @eqSg38 (@eqSn38))))))))))
theorem tyb44 : type_of% (And.intro @und44 (And.intro @agg44 (And.intro @size44 (And.intro @bytes44 (And.intro @zero44 (And.intro @lenS44 (And.intro @lenG44 (And.intro @lenN44 (And.intro @eqSl44 (And.intro @eqSg44 (@eqSn44))))))))))) := And.intro @und44 (And.intro @agg44 (And.intro @size44 (And.intro @bytes44 (And.intro @zero44 (And.intro @lenS44 (And.intro @lenG44 (And.intro @lenN44 (And.intro @eqSl44 (And.intro @eqSg44 (@eqSn44))))))))))
theorem tyb45 : type_of% (And.intro @und45 (And.intro @agg45 (And.intro @size45 (And.intro @bytes45 (And.intro @zero45 (And.intro @fad45_0 (@fad45_1))))))) := And.intro @und45 (And.intro @agg45 (And.intro @size45 (And.intro @bytes45 (And.intro @zero45 (And.intro @fad45_0 (@fad45_1))))))
theorem tyb46 : type_of% (And.intro @und46 (And.intro @agg46 (And.intro @size46 (And.intro @bytes46 (And.intro @zero46 (And.intro @fad46_0 (@fad46_1))))))) := And.intro @und46 (And.intro @agg46 (And.intro @size46 (And.intro @bytes46 (And.intro @zero46 (And.intro @fad46_0 (@fad46_1))))))
theorem tyb58 : type_of% (And.intro @und58 (And.intro @agg58 (And.intro @size58 (And.intro @bytes58 (And.intro @zero58 (And.intro @lenS58 (And.intro @lenG58 (And.intro @lenN58 (And.intro @eqSl58 (And.intro @eqSg58 (@eqSn58))))))))))) := And.intro @und58 (And.intro @agg58 (And.intro @size58 (And.intro @bytes58 (And.intro @zero58 (And.intro @lenS58 (And.intro @lenG58 (And.intro @lenN58 (And.intro @eqSl58 (And.intro @eqSg58 (@eqSn58))))))))))
theorem tyb76 : type_of% (And.intro @und76 (And.intro @agg76 (And.intro @size76 (And.intro @bytes76 (@zero76))))) := And.intro @und76 (And.intro @agg76 (And.intro @size76 (And.intro @bytes76 (@zero76))))
theorem tyb78 : type_of% (And.intro @und78 (And.intro @agg78 (And.intro @size78 (And.intro @bytes78 (@zero78))))) := And.intro @und78 (And.intro @agg78 (And.intro @size78 (And.intro @bytes78 (@zero78))))
theorem tyb79 : type_of% (And.intro @und79 (And.intro @agg79 (And.intro @size79 (And.intro @bytes79 (And.intro @zero79 (And.intro @lenS79 (And.intro @lenG79 (And.intro @lenN79 (And.intro @eqSl79 (And.intro @eqSg79 (@eqSn79))))))))))) := And.intro @und79 (And.intro @agg79 (And.intro @size79 (And.intro @bytes79 (And.intro @zero79 (And.intro @lenS79 (And.intro @lenG79 (And.intro @lenN79 (And.intro @eqSl79 (And.intro @eqSg79 (@eqSn79))))))))))
theorem tyb87 : type_of% (And.intro @und87 (And.intro @agg87 (And.intro @size87 (And.intro @bytes87 (And.intro @zero87 (And.intro @lenS87 (And.intro @lenG87 (And.intro @lenN87 (And.intro @eqSl87 (And.intro @eqSg87 (@eqSn87))))))))))) := And.intro @und87 (And.intro @agg87 (And.intro @size87 (And.intro @bytes87 (And.intro @zero87 (And.intro @lenS87 (And.intro @lenG87 (And.intro @lenN87 (And.intro @eqSl87 (And.intro @eqSg87 (@eqSn87))))))))))
theorem tyb110 : type_of% (And.intro @und110 (And.intro @agg110 (And.intro @size110 (And.intro @bytes110 (And.intro @zero110 (And.intro @eqPn110 (@eqPP110))))))) := And.intro @und110 (And.intro @agg110 (And.intro @size110 (And.intro @bytes110 (And.intro @zero110 (And.intro @eqPn110 (@eqPP110))))))
theorem tyb111 : type_of% (And.intro @und111 (And.intro @agg111 (And.intro @size111 (And.intro @bytes111 (And.intro @zero111 (And.intro @fad111_0 (@fad111_1))))))) := And.intro @und111 (And.intro @agg111 (And.intro @size111 (And.intro @bytes111 (And.intro @zero111 (And.intro @fad111_0 (@fad111_1))))))
theorem tyb112 : type_of% (And.intro @und112 (And.intro @agg112 (And.intro @size112 (And.intro @bytes112 (And.intro @zero112 (And.intro @fad112_0 (@fad112_1))))))) := And.intro @und112 (And.intro @agg112 (And.intro @size112 (And.intro @bytes112 (And.intro @zero112 (And.intro @fad112_0 (@fad112_1))))))
theorem tyb115 : type_of% (And.intro @und115 (And.intro @agg115 (And.intro @size115 (And.intro @bytes115 (@zero115))))) := And.intro @und115 (And.intro @agg115 (And.intro @size115 (And.intro @bytes115 (@zero115))))
theorem tyb123 : type_of% (And.intro @und123 (And.intro @agg123 (And.intro @size123 (And.intro @bytes123 (And.intro @zero123 (And.intro @eqPn123 (@eqPP123))))))) := And.intro @und123 (And.intro @agg123 (And.intro @size123 (And.intro @bytes123 (And.intro @zero123 (And.intro @eqPn123 (@eqPP123))))))
theorem tyb138 : type_of% (And.intro @und138 (And.intro @agg138 (And.intro @size138 (And.intro @bytes138 (@zero138))))) := And.intro @und138 (And.intro @agg138 (And.intro @size138 (And.intro @bytes138 (@zero138))))
theorem tyb141 : type_of% (And.intro @und141 (And.intro @agg141 (And.intro @size141 (And.intro @bytes141 (And.intro @zero141 (And.intro @lenS141 (And.intro @lenG141 (And.intro @lenN141 (And.intro @eqSl141 (And.intro @eqSg141 (@eqSn141))))))))))) := And.intro @und141 (And.intro @agg141 (And.intro @size141 (And.intro @bytes141 (And.intro @zero141 (And.intro @lenS141 (And.intro @lenG141 (And.intro @lenN141 (And.intro @eqSl141 (And.intro @eqSg141 (@eqSn141))))))))))
theorem tyb160 : type_of% (And.intro @und160 (And.intro @agg160 (And.intro @size160 (And.intro @bytes160 (And.intro @zero160 (And.intro @bld160 (And.intro @sla160 (@eg160)))))))) := And.intro @und160 (And.intro @agg160 (And.intro @size160 (And.intro @bytes160 (And.intro @zero160 (And.intro @bld160 (And.intro @sla160 (@eg160)))))))
end Go.Proofs.YtfalfmfkifemeaaGreatDoor

/- Part 1 of the proof of the law CirclesFar: lemmas on the model's code, on this program's functions, on numbers. No condition. -/
import Derived.Test.YtlgpemndbfclfaaDoorZGas
import Derived.Test.YtlgpemndbfclfaaDoorProg
set_option linter.unusedVariables false
set_option linter.unusedSimpArgs false
open Nat renaming reduceEqDiff → J0, reduceLeDiff → J1, reduceMul → J2, reduceAdd → J3, reduceSub → J4, reduceLT → J5
open Int renaming reduceToNat → J6, reducePow → J7, reduceNeg → J8, reduceLT → J9, reduceLE → Ja, reduceEq → Jb
open And renaming intro → Jc
open Go.IntKind renaming bits → Jd
open Go.PW renaming dig_length → Je
namespace Go.PD
def fact : Nat → Nat
  | 0 => 1
  | n + 1 => (n + 1) * fact n
theorem iota_bound {r : Nat → Int} {B N : Nat} (hr : ∀ j, (r j).natAbs ≤ B) : ∀ {cs : List Nat} {F : List Nat → Int}, (∀ ds, ds.length + 1 = cs.length → (F ds).natAbs ≤ N) → (Xg r cs F).natAbs ≤ cs.length * (B * N)
  | [], _, _ => by simp [Xg]
  | a :: cs, F, h => by
    have h1 := iota_bound hr (cs := cs) (F := fun ds => F (a :: ds)) (fun ds hd => h (a :: ds) (by simp; omega))
    have h2 : (r a * F cs).natAbs ≤ B * N := by
      rw [Int.natAbs_mul]
      exact Nat.mul_le_mul (hr a) (h cs (by simp))
    simp only [Xg, List.length_cons]
    rw [Nat.add_mul, Nat.one_mul]
    omega
theorem D_bound {B : Nat} : ∀ {rs : List (Nat → Int)}, (∀ r ∈ rs, ∀ j, (r j).natAbs ≤ B) → ∀ cs : List Nat, cs.length = rs.length → (D rs cs).natAbs ≤ fact rs.length * B ^ rs.length
  | [], _, cs, h => by
    simp only [D]
    split <;> simp [fact]
  | r :: rs, hr, cs, h => by
    have h1 := iota_bound (N := fact rs.length * B ^ rs.length) (hr r (List.mem_cons_self ..)) (cs := cs) (F := D rs) (fun ds hd => D_bound (fun q hq => hr q (List.mem_cons_of_mem _ hq)) ds (by simp at h; omega))
    rw [h] at h1
    show (Xg r cs (D rs)).natAbs ≤ _
    refine Nat.le_trans h1 (Nat.le_of_eq ?_)
    simp only [List.length_cons, fact, Nat.pow_succ]
    grind
end Go.PD
namespace Go.PD
theorem mem_Rs {rho : Nat → Nat → Int} : ∀ {k : Nat} {r : Nat → Int}, r ∈ Rs rho k ↔ ∃ i, i < k ∧ rho i = r
  | 0, r => by simp [Rs]
  | k + 1, r => by
    simp only [Rs, List.mem_cons, mem_Rs (k := k)]
    constructor
    · rintro (rfl | ⟨i, h, rfl⟩)
      · exact ⟨k, by omega, rfl⟩
      · exact ⟨i, by omega, rfl⟩
    · rintro ⟨i, h, rfl⟩
      by_cases e : i = k
      · subst e; exact .inl rfl
      · exact .inr ⟨i, by omega, rfl⟩
theorem W4 (rho : Nat → Nat → Int) : ∀ k, (Rs rho k).length = k
  | 0 => rfl
  | k + 1 => by simp [Rs, W4 rho k]
theorem Rt : ∀ k, (Cs k).length = k
  | 0 => rfl
  | k + 1 => by simp [Cs, Rt k]
variable {rho : Nat → Nat → Int}
theorem Rs_bound {B k : Nat} (hB : ∀ i j, (rho i j).natAbs ≤ B) : ∀ r ∈ Rs rho k, ∀ j, (r j).natAbs ≤ B := by
  intro r hr j
  obtain ⟨i, _, rfl⟩ := mem_Rs.1 hr
  exact hB i j
theorem d_bound {B : Nat} (hB : ∀ i j, (rho i j).natAbs ≤ B) (k i j : Nat) : (d rho k i j).natAbs ≤ fact (k + 1) * B ^ (k + 1) := by
  have := D_bound (B := B) (rs := rho i :: Rs rho k) (fun r hr => by
    rcases List.mem_cons.1 hr with rfl | hr
    · exact hB i
    · exact Rs_bound hB r hr) (j :: Cs k) (by simp [W4, Rt])
  simpa [W4, d] using this
end Go.PD
namespace Go.PR
theorem Km {x b : Int} (hb : 0 ≤ b) (h : x * x ≤ b * b) : -b ≤ x ∧ x ≤ b := by
  have e : x * x = (x.natAbs : Int) * x.natAbs := by rw [← Int.natCast_mul]; exact (Int.natAbs_mul_self).symm
  have : (x.natAbs : Int) ≤ b := by
    refine Int.not_lt.mp fun hlt => ?_
    have h2 : (b + 1) * (b + 1) ≤ (x.natAbs : Int) * x.natAbs := Int.mul_le_mul hlt hlt (by omega) (by omega)
    have e2 : (b + 1) * (b + 1) = b * b + 2 * b + 1 := by grind
    omega
  omega
theorem rest_prod (a b c : Int) : 4 * b * b * (a * a) - (b * b - c * c + a * a) * (b * b - c * c + a * a) = (c - a + b) * (c + a - b) * ((a + b - c) * (a + b + c)) := by grind
theorem rnd_zero_sides {t y : Int} (hy : 0 < y) (ht : 0 ≤ t) : 0 ≤ rnd t y ∧ rnd (-t) y ≤ 0 ∧ 0 ≤ rnd t y + rnd (-t) y ∧ rnd t y + rnd (-t) y ≤ 1 := by
  obtain ⟨l1, u1⟩ := J0g (x := t) hy
  obtain ⟨l2, u2⟩ := J0g (x := -t) hy
  have a1 : 0 ≤ rnd t y := by
    refine Int.not_lt.mp fun h => ?_
    have := Int.mul_le_mul_of_nonneg_left (show rnd t y ≤ -1 by omega) (show 0 ≤ 2 * y by omega)
    omega
  have a2 : rnd (-t) y ≤ 0 := by
    refine Int.not_lt.mp fun h => ?_
    have := Int.mul_le_mul_of_nonneg_left (show 1 ≤ rnd (-t) y by omega) (show 0 ≤ 2 * y by omega)
    omega
  have es : 2 * y * (rnd t y + rnd (-t) y) = 2 * y * rnd t y + 2 * y * rnd (-t) y := Int.mul_add _ _ _
  refine ⟨a1, a2, ?_, ?_⟩
  · refine Int.not_lt.mp fun h => ?_
    have := Int.mul_le_mul_of_nonneg_left (show rnd t y + rnd (-t) y ≤ -1 by omega) (show 0 ≤ 2 * y by omega)
    omega
  · refine Int.not_lt.mp fun h => ?_
    have := Int.mul_le_mul_of_nonneg_left (show 2 ≤ rnd t y + rnd (-t) y by omega) (show 0 ≤ 2 * y by omega)
    omega
end Go.PR
namespace Go.Proofs.YtlgpemndbfclfaaDoor
open Go.AL
theorem und46 : Tryd.prog.underlying 46 = some (.int .u16) := by kernel_rfl
theorem agg46 : X4 Tryd.prog 46 = some false := by kernel_rfl
theorem size46 : Qv Tryd.prog 46 = some 1 := by kernel_rfl
theorem bytes46 : X7 Tryd.prog 46 = some 2 := by kernel_rfl
theorem zero46 : Xf Tryd.prog 46 = some (.int .u16 0) := by kernel_rfl
theorem cv46_2 (H : Hp) (k : IntKind) (n : Int) : Yk Tryd.prog H 46 2 (.int k n) = some (.int .i64 (IntKind.i64.wrap n)) := by simp [Yk, und46, und2]
theorem tyb46 : type_of% (Jc @und46 (Jc @agg46 (Jc @size46 (Jc @bytes46 (@zero46))))) := Jc @und46 (Jc @agg46 (Jc @size46 (Jc @bytes46 (@zero46))))
end Go.Proofs.YtlgpemndbfclfaaDoor
namespace Go.Proofs.YtlgpemndbfclfaaDoor
open Go.AL Go.PW
set_option maxRecDepth 8000
structure Fits (rk ri : List Int) (k : Nat) (prev : Int) (j : Nat) : Prop where
  a : In (rk.getD k 0)
  b : In (ri.getD j 0)
  c : In (ri.getD k 0)
  d : In (rk.getD j 0)
  ab : In (rk.getD k 0 * ri.getD j 0)
  cd : In (ri.getD k 0 * rk.getD j 0)
  s : In (rk.getD k 0 * ri.getD j 0 - ri.getD k 0 * rk.getD j 0)
  q : In (stepV rk ri k prev j)
end Go.Proofs.YtlgpemndbfclfaaDoor
namespace Go.Proofs.YtlgpemndbfclfaaDoor
open Go.AL Go.PW Go.PD
set_option maxRecDepth 8000
theorem fact_small : ∀ k : Fin 8, fact (k.1 + 1) * (18446744073709551616 : Nat) ^ (k.1 + 1) ≤ 2 ^ 530 := by decide +kernel
theorem fact_mid : ∀ k : Fin 7, fact (k.1 + 1) * (18446744073709551616 : Nat) ^ (k.1 + 1) ≤ 2 ^ 465 := by decide +kernel
theorem d_small {rho : Nat → Nat → Int} (hB : ∀ i j, (rho i j).natAbs ≤ 18446744073709551616) {k : Nat} (hk : k ≤ 7) (i j : Nat) : (d rho k i j).natAbs ≤ 2 ^ 530 :=
  Nat.le_trans (d_bound hB k i j) (fact_small ⟨k, by omega⟩)
theorem d_mid {rho : Nat → Nat → Int} (hB : ∀ i j, (rho i j).natAbs ≤ 18446744073709551616) {k : Nat} (hk : k ≤ 6) (i j : Nat) : (d rho k i j).natAbs ≤ 2 ^ 465 :=
  Nat.le_trans (d_bound hB k i j) (fact_mid ⟨k, by omega⟩)
theorem In_300 {x : Int} (h : x.natAbs ≤ 2 ^ 530) : In x := J1j (Nat.le_trans h (by decide +kernel))
theorem mul_300 {x y : Int} (h : x.natAbs ≤ 2 ^ 465) (h' : y.natAbs ≤ 2 ^ 465) : (x * y).natAbs ≤ 2 ^ 930 := by
  rw [Int.natAbs_mul]
  exact Nat.le_trans (Nat.mul_le_mul h h') (by decide +kernel)
theorem In_600 {x : Int} (h : x.natAbs ≤ 2 ^ 930) : In x := J1j (Nat.le_trans h (by decide +kernel))
theorem In_601 {x y : Int} (h : x.natAbs ≤ 2 ^ 930) (h' : y.natAbs ≤ 2 ^ 930) : In (x - y) := J1j (by
  have h2 : 2 ^ 930 + 2 ^ 930 ≤ 2 ^ 1000 := by decide +kernel
  generalize (2 ^ 930 : Nat) = u at h h' h2
  generalize (2 ^ 1000 : Nat) = v at h2
  omega)
theorem St.fits {n k : Nat} {rho : Nat → Nat → Int} {rss : List (List Int)} (S : St n k rho rss) (h8 : n ≤ 8) (hk : k < n) (hp : P rho k ≠ 0) (hB : ∀ i j, (rho i j).natAbs ≤ 18446744073709551616) (i j : Nat) (hi : i < rss.length) (hc : Proc k false i) (hj : j < n) (hjk : j ≠ k) : Fits (rss.getD k []) (rss.getD i []) k (P rho k) j := by
  rw [S.len] at hi
  have hki : k < i := by
    rcases hc.2 with h | h
    · exact h
    · cases h
  have e1 := S.get k k (Nat.le_refl _) hk hk
  have e2 := S.get i j (by omega) hi hj
  have e3 := S.get i k (by omega) hi hk
  have e4 := S.get k j (Nat.le_refl _) hk hj
  have s := fun i j => d_small hB (k := k) (by omega) i j
  have m := fun i j => d_mid hB (k := k) (by omega) i j
  refine ⟨?_, ?_, ?_, ?_, ?_, ?_, ?_, ?_⟩
  · rw [e1]; exact In_300 (s _ _)
  · rw [e2]; exact In_300 (s _ _)
  · rw [e3]; exact In_300 (s _ _)
  · rw [e4]; exact In_300 (s _ _)
  · rw [e1, e2]; exact In_600 (mul_300 (m _ _) (m _ _))
  · rw [e3, e4]; exact In_600 (mul_300 (m _ _) (m _ _))
  · rw [e1, e2, e3, e4]; exact In_601 (mul_300 (m _ _) (m _ _)) (mul_300 (m _ _) (m _ _))
  · unfold stepV
    rw [e1, e2, e3, e4, d_step hp]
    exact In_300 (d_small hB (by omega) _ _)
end Go.Proofs.YtlgpemndbfclfaaDoor
namespace Go.Proofs.YtlgpemndbfclfaaDoor
open Go.AL Go.PW Go.PD Go.PR
theorem J1w : type_of% (Jc @Yj (Jc @Xz (Jc @Zn (Jc @Uq (Jc @Up (Jc @Zs (Jc @Zr (Jc @tyb46 (@cv46_2))))))))) := Jc @Yj (Jc @Xz (Jc @Zn (Jc @Uq (Jc @Up (Jc @Zs (Jc @Zr (Jc @tyb46 (@cv46_2))))))))
set_option maxRecDepth 8000
theorem line_units {b a c : Int} (ha : 1000 ≤ a ∧ a ≤ 70000) (hb : 0 ≤ b ∧ b ≤ 70000) (hc : 0 ≤ c ∧ c ≤ 70000) : Wx 0 0 b a 0 c 1000 = false := by
  unfold Wx Zy
  simp only [Bool.or_eq_false_iff, decide_eq_false_iff_not, Bool.not_eq_false', Bool.and_eq_true, decide_eq_true_eq]
  omega
theorem line_meet {b a c : Int} (ha : 1000 ≤ a ∧ a ≤ 70000) (hb : 0 ≤ b ∧ b ≤ 70000) (hc : 0 ≤ c ∧ c ≤ 70000) :
    (b + c < a ∨ b > a + c ∨ c > a + b → J09 0 0 b a 0 c 1000 = (34, (0, 0), (0, 0))) ∧
    (¬ (b + c < a ∨ b > a + c ∨ c > a + b) → ∃ X Y Z : Int, J09 0 0 b a 0 c 1000 = (0, (X, Y), (X, Z)) ∧ 0 ≤ Y ∧ Z ≤ 0 ∧ 0 ≤ Y + Z ∧ Y + Z ≤ 1 ∧ Y ≤ 4194304 ∧ -4194304 ≤ Z) := by
  have hU := line_units ha hb hc
  rw [meetS_ok hU]
  have haa : 1000 * 1000 ≤ a * a := Int.mul_le_mul ha.1 ha.1 (by omega) (by omega)
  have hd : dd 0 0 a 0 = a * a := by simp [dd]
  have hA : aa 0 0 b a 0 c = b * b - c * c + a * a := by unfold aa; rw [hd]
  have hR : rest 0 0 b a 0 c = (c - a + b) * (c + a - b) * ((a + b - c) * (a + b + c)) := by
    unfold rest; rw [hd, hA, ← rest_prod]
  rw [hd, if_neg (by omega)]
  constructor
  · intro h
    have hneg : rest 0 0 b a 0 c < 0 := by
      rw [hR]
      rcases h with h | h | h
      · exact Int.mul_neg_of_neg_of_pos (Int.mul_neg_of_neg_of_pos (by omega) (by omega)) (Int.mul_pos (by omega) (by omega))
      · exact Int.mul_neg_of_neg_of_pos (Int.mul_neg_of_pos_of_neg (by omega) (by omega)) (Int.mul_pos (by omega) (by omega))
      · exact Int.mul_neg_of_pos_of_neg (Int.mul_pos (by omega) (by omega)) (Int.mul_neg_of_neg_of_pos (by omega) (by omega))
    rw [if_pos hneg]
  · intro h
    have hpos : 0 ≤ rest 0 0 b a 0 c := by
      rw [hR]
      exact Int.mul_nonneg (Int.mul_nonneg (by omega) (by omega)) (Int.mul_nonneg (by omega) (by omega))
    have hle : rest 0 0 b a 0 c ≤ 4 * b * b * (a * a) := by
      unfold rest; rw [hd]; have := Yv (aa 0 0 b a 0 c); omega
    have hsq : aa 0 0 b a 0 c * aa 0 0 b a 0 c ≤ (2 * (a * b)) * (2 * (a * b)) := by
      have e : (2 * (a * b)) * (2 * (a * b)) = 4 * b * b * (a * a) := by grind
      unfold rest at hpos; rw [hd] at hpos; omega
    have hab : 0 ≤ a * b := Int.mul_nonneg (by omega) (by omega)
    have bA := Km (by omega) hsq
    rw [if_neg (by omega), meetK, hd]
    obtain ⟨k, hk⟩ : ∃ k : Nat, k = rt (rest 0 0 b a 0 c).toNat := ⟨_, rfl⟩
    have hlt := (sized_of hU).rest_le
    have hk2 := (rt_spec (n := (rest 0 0 b a 0 c).toNat) (by have : (2 : Nat) ^ 128 = 340282366920938463463374607431768211456 := by decide
                                                             omega)).1
    rw [← hk] at hk2 ⊢
    have hk3 : (k : Int) * k ≤ rest 0 0 b a 0 c := by
      have : ((k * k : Nat) : Int) ≤ ((rest 0 0 b a 0 c).toNat : Int) := by omega
      rw [Int.natCast_mul] at this; omega
    have bk := Km (x := (k : Int)) (b := 2 * (a * b)) (by omega) (by
      have e : (2 * (a * b)) * (2 * (a * b)) = 4 * b * b * (a * a) := by grind
      omega)
    have hy : 0 < 2 * (a * a) := by omega
    have eX : ∀ kk : Int, plX 0 (aa 0 0 b a 0 c) kk (a - 0) (0 - 0) (a * a) = rnd (aa 0 0 b a 0 c * a) (2 * (a * a)) := fun kk => by unfold plX; simp
    have eY : ∀ kk : Int, plY 0 (aa 0 0 b a 0 c) kk (a - 0) (0 - 0) (a * a) = rnd (kk * a) (2 * (a * a)) := fun kk => by unfold plY; simp
    simp only [eX, eY]
    have ek : -(k : Int) * a = -((k : Int) * a) := Int.neg_mul _ _
    rw [ek]
    have ht : 0 ≤ (k : Int) * a := Int.mul_nonneg (by omega) (by omega)
    have S := rnd_zero_sides hy ht
    have hb2 : b * (2 * (a * a)) = 2 * (a * b) * a := by grind
    have up : (k : Int) * a ≤ b * (2 * (a * a)) := by rw [hb2]; exact Int.mul_le_mul_of_nonneg_right (by omega) (by omega)
    have sY := Rh (x := (k : Int) * a) (y := 2 * (a * a)) (b := b) hy hb.1 (by omega) up
    have sZ := Rh (x := -((k : Int) * a)) (y := 2 * (a * a)) (b := b) hy hb.1 (by omega) (by omega)
    have sX := Rh (x := aa 0 0 b a 0 c * a) (y := 2 * (a * a)) (b := b) hy hb.1
      (by rw [hb2, ← Int.neg_mul]; exact Int.mul_le_mul_of_nonneg_right (by omega) (by omega))
      (by rw [hb2]; exact Int.mul_le_mul_of_nonneg_right (by omega) (by omega))
    generalize rnd (aa 0 0 b a 0 c * a) (2 * (a * a)) = X at *
    generalize rnd ((k : Int) * a) (2 * (a * a)) = Y at *
    generalize rnd (-((k : Int) * a)) (2 * (a * a)) = Z at *
    refine ⟨X, Y, Z, ?_, S.1, S.2.1, S.2.2.1, S.2.2.2, by omega, by omega⟩
    rw [if_neg]
    unfold Zy
    simp only [Bool.or_eq_true, decide_eq_true_eq]
    omega
set_option maxHeartbeats 4000000 in
theorem circlesFar_s (d r s : Int) (hd : 0 ≤ d ∧ d ≤ 65535) (hr : 0 ≤ r ∧ r ≤ 65535) (hs : 0 ≤ s ∧ s ≤ 65535) : Fn 5 [.int .u16 d, .int .u16 r, .int .u16 s] (.bool true) := by
  have KN := known_s
  have M := Meet_s 0 0 r (d + 1000) 0 s 1000
  have S := says_s 34 34 (by decide)
  rw [Yq] at S
  obtain ⟨l1, l2⟩ := line_meet (a := d + 1000) (b := r) (c := s) (by omega) (by omega) (by omega)
  have w0 : IntKind.i64.wrap d = d := Q3 (by omega) (by omega)
  have w1 : IntKind.i64.wrap (d + 1000) = d + 1000 := Q3 (by omega) (by omega)
  have w2 : IntKind.i64.wrap r = r := Q3 (by omega) (by omega)
  have w3 : IntKind.i64.wrap s = s := Q3 (by omega) (by omega)
  have w4 : IntKind.i64.wrap (r + s) = r + s := Q3 (by omega) (by omega)
  have w5 : IntKind.i64.wrap (d + 1000 + s) = d + 1000 + s := Q3 (by omega) (by omega)
  have w6 : IntKind.i64.wrap (d + 1000 + r) = d + 1000 + r := Q3 (by omega) (by omega)
  by_cases h : r + s < d + 1000 ∨ r > d + 1000 + s ∨ s > d + 1000 + r
  · rw [l1 h] at M
    by_cases h1 : r + s < d + 1000 <;> by_cases h2 : d + 1000 + s < r <;> by_cases h3 : d + 1000 + r < s
    all_goals first
      | (exfalso; omega)
      | skip
    all_goals
      refine Sure.body (by first | (simp only [RT]; done) | simp_all only [RT]) Tryd.func5 rfl (by kernel_rfl) (by kernel_rfl) ?_
      repeat' first
        | (with_reducible first | refine Jj (fun K hK => ?_) | refine Js ?_ | refine Q2 ?_ | refine Qc ?_ | refine Qb ?_ | refine Jg ?_ | refine Jq ?_)
        | (with_reducible refine Qu (KN) (Qo _ _) ?_)
        | (with_reducible refine Qu (M) (Qo _ _) ?_)
        | (with_reducible refine Qu (S) (Qo _ _) ?_)
        | (with_reducible refine Jv (fun hc => ?_) (fun hc => ?_) <;> (try simp only [RC] at hc) <;> (try (exfalso; first | omega | contradiction)))
        | (with_reducible refine X3 (fun hc => ?_) (fun hc => ?_) <;> (try simp only [RC] at hc) <;> (try (exfalso; first | omega | contradiction)))
        | (simp only [Q8, Jk, reduceIte, J0])
        | ((with_reducible refine hK _ _ ?_); clear hK)
        | (clear hK; (with_reducible refine hK _ _ ?_); clear hK)
        | (clear hK; clear hK; (with_reducible refine hK _ _ ?_); clear hK)
        | (clear hK; clear hK; clear hK; (with_reducible refine hK _ _ ?_); clear hK)
        | (clear hK; clear hK; clear hK; clear hK; (with_reducible refine hK _ _ ?_); clear hK)
        | (clear hK; clear hK; clear hK; clear hK; clear hK; (with_reducible refine hK _ _ ?_); clear hK)
        | (simp only [Qa, RA, Jo, Jn, Jp, Q7, Q5, ev, ofValue, Ju, J0, J3, J2, J4, reduceCtorEq, reduceIte, Jx, Qm, Qk, Q1, aun, Qj, Jm, Jh, Q0, Jz, Ji, Qi, Jf, Q6, Jr, J1, J5, Ja, J9, Jb, J6, J7, Jd, J8, RB, Jy, Je, RZ, J1w, w0, w1, w2, w3, w4, w5, w6, Vw, Yq, h1, h2, h3])
        | (simp (disch := first | omega | (simp only [RO]; done) | assumption) only [RS, RG, Ya, Yc, Zg, Yb])
        | (simp (disch := (first | omega | (simp only [RO]; done) | assumption | (simp only [RM, Je]; done) | (simp only [RL, Je]; omega))) only [RD, reduceCtorEq, reduceIte, Je, J1, J3, J2, J6, J1w, w0, w1, w2, w3, w4, w5, w6, Vw, Yq, h1, h2, h3])
    all_goals
      (
       (refine Q9 (rs := [.tmp 6]) rfl ?_)
       (simp only [Qt, Q4, RA, RZ, J0, J3, J1, reduceCtorEq, reduceIte, J1w])
       (try simp only [RF]))
  · obtain ⟨X, Y, Z, e, _⟩ := l2 h
    rw [e] at M
    have h1 : ¬ r + s < d + 1000 := by omega
    have h2 : ¬ d + 1000 + s < r := by omega
    have h3 : ¬ d + 1000 + r < s := by omega
    refine Sure.body (by first | (simp only [RT]; done) | simp_all only [RT]) Tryd.func5 rfl (by kernel_rfl) (by kernel_rfl) ?_
    repeat' first
      | (with_reducible first | refine Jj (fun K hK => ?_) | refine Js ?_ | refine Q2 ?_ | refine Qc ?_ | refine Qb ?_ | refine Jg ?_ | refine Jq ?_)
      | (with_reducible refine Qu (KN) (Qo _ _) ?_)
      | (with_reducible refine Qu (M) (Qo _ _) ?_)
      | (with_reducible refine Qu (S) (Qo _ _) ?_)
      | (with_reducible refine Jv (fun hc => ?_) (fun hc => ?_) <;> (try simp only [RC] at hc) <;> (try (exfalso; first | omega | contradiction)))
      | (with_reducible refine X3 (fun hc => ?_) (fun hc => ?_) <;> (try simp only [RC] at hc) <;> (try (exfalso; first | omega | contradiction)))
      | (simp only [Q8, Jk, reduceIte, J0])
      | ((with_reducible refine hK _ _ ?_); clear hK)
      | (clear hK; (with_reducible refine hK _ _ ?_); clear hK)
      | (clear hK; clear hK; (with_reducible refine hK _ _ ?_); clear hK)
      | (clear hK; clear hK; clear hK; (with_reducible refine hK _ _ ?_); clear hK)
      | (clear hK; clear hK; clear hK; clear hK; (with_reducible refine hK _ _ ?_); clear hK)
      | (clear hK; clear hK; clear hK; clear hK; clear hK; (with_reducible refine hK _ _ ?_); clear hK)
      | (simp only [Qa, RA, Jo, Jn, Jp, Q7, Q5, ev, ofValue, Ju, J0, J3, J2, J4, reduceCtorEq, reduceIte, Jx, Qm, Qk, Q1, aun, Qj, Jm, Jh, Q0, Jz, Ji, Qi, Jf, Q6, Jr, J1, J5, Ja, J9, Jb, J6, J7, Jd, J8, RB, Jy, Je, RZ, J1w, w0, w1, w2, w3, w4, w5, w6, Vw, Zf, Z7 Z0, h1, h2, h3])
      | (simp (disch := first | omega | (simp only [RO]; done) | assumption) only [RS, RG, Ya, Yc, Zg, Yb])
      | (simp (disch := (first | omega | (simp only [RO]; done) | assumption | (simp only [RM, Je]; done) | (simp only [RL, Je]; omega))) only [RD, reduceCtorEq, reduceIte, Je, J1, J3, J2, J6, J1w, w0, w1, w2, w3, w4, w5, w6, Vw, Zf, Z7 Z0, h1, h2, h3])
    all_goals
      (
       (refine Q9 (rs := [.tmp 6]) rfl ?_)
       (simp only [Qt, Q4, RA, RZ, J0, J3, J1, reduceCtorEq, reduceIte, J1w])
       (try simp only [RF]))
end Go.Proofs.YtlgpemndbfclfaaDoor
namespace Go.Proofs.YtlgpemndbfclfaaDoor
open Go.AL
theorem wf_u16 {n : Int} (h : (Lit.int .u16 n).wf = true) : 0 ≤ n ∧ n ≤ 65535 := by
  simp only [Lit.wf, Bool.and_eq_true, decide_eq_true_eq] at h
  have h1 : IntKind.u16.min = 0 := by decide +kernel
  have h2 : IntKind.u16.max = 65535 := by decide +kernel
  omega
end Go.Proofs.YtlgpemndbfclfaaDoor

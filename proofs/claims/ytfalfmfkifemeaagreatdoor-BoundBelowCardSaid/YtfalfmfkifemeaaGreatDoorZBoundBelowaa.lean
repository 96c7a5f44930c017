/- Part 1 of the proof of the law BoundBelow: lemmas on the model's code, on this program's functions, on numbers. No condition. -/
import Derived.Test.YtfalfmfkifemeaaGreatDoorZGay
import Derived.ProofKit
import Derived.Test.YtfalfmfkifemeaaGreatDoorProg
set_option linter.unusedVariables false
set_option linter.unusedSimpArgs false
open Nat renaming reduceEqDiff → J0, reduceLeDiff → J1, reduceMul → J2, reduceAdd → J3, reduceSub → J4, reduceLT → J5
open Int renaming reduceToNat → J6, reducePow → J7, reduceNeg → J8, reduceLT → J9, reduceLE → Ja, reduceEq → Jb
open And renaming intro → Jc
open Go.IntKind renaming bits → Jd
open Go.PW renaming dig_length → Je
namespace Go.AL
open Go.RowKit
theorem ACalls.calls {P : Program} {f : FuncId} {args : List AV} {H : Hp} {b : Bool} (h : ACalls P f args H fun r _ => r = .bool b) {β : Nat → Bx} {w : World} (A : Args β H w) {vs : Array Value} (hv : VRs β args vs.toList) (hl : AV.lts H.length args) :
    Calls P f vs w fun e w' => e = .returned (.bool b) ∧ Below w.heap.size w w' :=
  (h.2 w w.heap.size β w vs A.rel hv hl).mono fun e w' ⟨β', r, v, H', h1, h2, h3, h4, h5, h6, h7⟩ => by
    subst h2
    simp only [VR] at h5
    subst h5
    exact ⟨h1, h7.below⟩
end Go.AL
namespace Go.PD
variable {rho : Nat → Nat → Int}
theorem d_row {k i j : Nat} (h : i < k) : d rho k i j = 0 := D_mem (mem_Rs.2 ⟨i, h, rfl⟩) _
end Go.PD
namespace Go.PD
variable {rho : Nat → Nat → Int} {n : Nat}
theorem d_symm (hs : Symm n rho) : ∀ {k : Nat}, (∀ m, m ≤ k → P rho m ≠ 0) → k ≤ n → Symm n (d rho k)
  | 0, _, _ => fun i j hi hj => by rw [Gj, Gj]; exact hs i j hi hj
  | k + 1, hp, hk => fun i j hi hj => by
    have ih := d_symm hs (k := k) (fun m hm => hp m (by omega)) (by omega)
    have h0 := hp k (by omega)
    have h1 := d_mul h0 i j
    have h2 := d_mul h0 j i
    have e1 := ih i j hi hj
    have e2 := ih i k hi (by omega)
    have e3 := ih j k hj (by omega)
    have : P rho k * d rho (k + 1) i j = P rho k * d rho (k + 1) j i := by rw [h1, h2, e1, e2, e3]; grind
    exact Int.eq_of_mul_eq_mul_left h0 this
theorem form_step (hs : Symm n rho) {k : Nat} (hp : ∀ m, m ≤ k → P rho m ≠ 0) (hk : k < n) (x : Nat → Int) :
    P rho (k + 1) * Um n (d rho k) x = sum n (fun j => d rho k k j * x j) * sum n (fun j => d rho k k j * x j) + P rho k * Um n (d rho (k + 1)) x := by
  have sy := d_symm hs hp (by omega)
  have e1 : P rho k * Um n (d rho (k + 1)) x = sum n fun i => sum n fun j => P rho (k + 1) * (x i * d rho k i j * x j) - (d rho k k i * x i) * (d rho k k j * x j) := by
    unfold Um
    rw [← sum_smul]
    refine Zz fun i hi => ?_
    rw [← sum_smul]
    refine Zz fun j hj => ?_
    have h1 := d_mul (hp k (by omega)) i j
    have h2 := sy i k hi hk
    rw [Kf]
    rw [h2] at h1
    calc P rho k * (x i * d rho (k + 1) i j * x j) = x i * (P rho k * d rho (k + 1) i j) * x j := by grind
      _ = _ := by rw [h1]; grind
  have e2 : (sum n fun i => sum n fun j => P rho (k + 1) * (x i * d rho k i j * x j) - (d rho k k i * x i) * (d rho k k j * x j)) = P rho (k + 1) * Um n (d rho k) x - sum n (fun j => d rho k k j * x j) * sum n (fun j => d rho k k j * x j) := by
    have e3 : ∀ i, (sum n fun j => P rho (k + 1) * (x i * d rho k i j * x j) - (d rho k k i * x i) * (d rho k k j * x j)) = P rho (k + 1) * (sum n fun j => x i * d rho k i j * x j) + (- sum n (fun j => d rho k k j * x j)) * (d rho k k i * x i) := by
      intro i
      have := Km (x := P rho (k + 1)) (y := - (d rho k k i * x i)) (n := n) (f := fun j => x i * d rho k i j * x j) (g := fun j => d rho k k j * x j)
      rw [show (fun j => P rho (k + 1) * (x i * d rho k i j * x j) - (d rho k k i * x i) * (d rho k k j * x j)) = fun j => P rho (k + 1) * (x i * d rho k i j * x j) + - (d rho k k i * x i) * (d rho k k j * x j) from by funext j; grind, this]
      grind
    rw [Zz fun i _ => e3 i, Km]
    unfold Um
    grind
  rw [e1, e2]
  omega
theorem form_end {x : Nat → Int} : Um n (d rho n) x = 0 := Nk fun i hi => Nk fun j hj => by rw [d_row hi]; simp
theorem form_pos (hs : Symm n rho) (hp : ∀ m, m ≤ n → 0 < P rho m) (x : Nat → Int) : ∀ (c k : Nat), k + c = n → 0 ≤ Um n (d rho k) x ∧ (Um n (d rho k) x = 0 → ∀ i, k ≤ i → i < n → x i = 0)
  | 0, k, h => by
    obtain rfl : k = n := by omega
    exact ⟨by rw [form_end]; omega, fun _ i h1 h2 => by omega⟩
  | c + 1, k, h => by
    have ih := form_pos hs hp x c (k + 1) (by omega)
    have st := form_step hs (k := k) (fun m hm => by have := hp m (by omega); omega) (by omega) x
    have p0 := hp k (by omega)
    have p1 := hp (k + 1) (by omega)
    have sq := sq_nonneg (sum n (fun j => d rho k k j * x j))
    have q1 := Int.mul_nonneg (Int.le_of_lt p0) ih.1
    have hnn : 0 ≤ Um n (d rho k) x := by
      rcases Int.lt_or_le (Um n (d rho k) x) 0 with hlt | hge
      · have := Int.mul_neg_of_pos_of_neg p1 hlt
        omega
      · exact hge
    refine ⟨hnn, fun h0 => ?_⟩
    rw [h0, Int.mul_zero] at st
    have z1 : P rho k * Um n (d rho (k + 1)) x = 0 := by omega
    have z2 : sum n (fun j => d rho k k j * x j) * sum n (fun j => d rho k k j * x j) = 0 := by omega
    have z3 : Um n (d rho (k + 1)) x = 0 := by
      rcases Int.mul_eq_zero.1 z1 with h | h
      · omega
      · exact h
    have above := ih.2 z3
    have z4 : sum n (fun j => d rho k k j * x j) = 0 := by
      rcases Int.mul_eq_zero.1 z2 with h | h <;> exact h
    have z5 : sum n (fun j => d rho k k j * x j) = d rho k k k * x k := by
      refine Gt (by omega) fun i hi hne => ?_
      by_cases h1 : i < k
      · rw [d_col h1]; simp
      · rw [above i (by omega) hi]; simp
    rw [z4] at z5
    have hk : x k = 0 := by
      rcases Int.mul_eq_zero.1 z5.symm with h | h
      · rw [← Kf] at h; omega
      · exact h
    intro i h1 h2
    by_cases e : i = k
    · rw [e]; exact hk
    · exact above i (by omega) h2
theorem form_d0 {x : Nat → Int} : Um n (d rho 0) x = Um n rho x := by
  unfold Um
  exact Zz fun i hi => Zz fun j hj => by rw [Gj]
theorem pos_of_minors (hs : Symm n rho) (hp : ∀ m, m ≤ n → 0 < P rho m) : Pos n rho := by
  intro x ⟨i, hi, hne⟩
  have h := form_pos hs hp x n 0 (by omega)
  rw [form_d0] at h
  rcases Int.lt_or_le 0 (Um n rho x) with h1 | h1
  · exact h1
  · exact absurd (h.2 (by omega) i (by omega) hi) hne
theorem iota_sum (n : Nat) : ∀ (cs : List Nat) (F : List Nat → Int), (∀ c ∈ cs, c < n) → ∃ x : Nat → Int, (∀ u, Zd u cs F = sum n fun j => u j * x j) ∧ ∀ j, j ∉ cs → x j = 0
  | [], F, _ => ⟨fun _ => 0, fun u => by simp only [Zd]; rw [Nk]; simp, fun _ _ => rfl⟩
  | a :: cs, F, h => by
    obtain ⟨x, hx, hx0⟩ := iota_sum n cs (fun ds => F (a :: ds)) fun c hc => h c (List.mem_cons_of_mem _ hc)
    refine ⟨fun j => (if j = a then F cs else 0) - x j, fun u => ?_, fun j hj => ?_⟩
    · simp only [Zd]
      rw [hx u]
      have e1 : sum n (fun j => u j * if j = a then F cs else 0) = u a * F cs := by
        rw [Gt (h a (List.mem_cons_self ..)) fun i hi hne => by rw [if_neg hne]; simp, if_pos rfl]
      have e2 := Km (x := 1) (y := -1) (n := n) (f := fun j => u j * if j = a then F cs else 0) (g := fun j => u j * x j)
      have e3 : (fun j => u j * ((if j = a then F cs else 0) - x j)) = fun j => 1 * (u j * if j = a then F cs else 0) + -1 * (u j * x j) := by funext j; grind
      rw [e3, e2, e1]
      omega
    · simp only [List.mem_cons, not_or] at hj
      simp only [if_neg hj.1, hx0 j hj.2]
      rfl
theorem J1v (hp : Pos n rho) : ∀ m, m ≤ n → 0 < P rho m
  | 0, _ => by rw [Kz]; omega
  | k + 1, hk => by
    have hPk := J1v hp k (by omega)
    obtain ⟨x, hx, _⟩ := iota_sum n (Cs k) (fun ds => D (Rs rho k) (k :: ds)) fun c hc => by have := W4.1 hc; omega
    -- the list that solves: P k at k, less x below
    let z : Nat → Int := fun j => (if j = k then P rho k else 0) - x j
    have hz : ∀ i, sum n (fun j => rho i j * z j) = d rho k i k := by
      intro i
      have e1 : sum n (fun j => rho i j * if j = k then P rho k else 0) = rho i k * P rho k := by
        rw [Gt (show k < n by omega) fun i hi hne => by rw [if_neg hne]; simp, if_pos rfl]
      have e2 := Km (x := 1) (y := -1) (n := n) (f := fun j => rho i j * if j = k then P rho k else 0) (g := fun j => rho i j * x j)
      have e3 : (fun j => rho i j * z j) = fun j => 1 * (rho i j * if j = k then P rho k else 0) + -1 * (rho i j * x j) := by funext j; simp only [z]; grind
      rw [e3, e2, e1, ← hx]
      show _ = rho i k * D (Rs rho k) (Cs k) - Zd (rho i) (Cs k) fun ds => D (Rs rho k) (k :: ds)
      unfold P
      omega
    have hzk : z k = P rho k := by
      obtain ⟨y, hy, hy0⟩ := iota_sum n (Cs k) (fun ds => D (Rs rho k) (k :: ds)) fun c hc => by have := W4.1 hc; omega
      have hxk : x k = 0 := by
        have h1 := hx (fun j => if j = k then 1 else 0)
        have h2 : Zd (fun j => if j = k then 1 else 0) (Cs k) (fun ds => D (Rs rho k) (k :: ds)) = 0 := Wx fun c hc => by
          have := W4.1 hc
          rw [if_neg (by omega)]
        rw [h2, Gt (show k < n by omega) fun i hi hne => by rw [if_neg hne]; simp, if_pos rfl] at h1
        omega
      simp only [z, if_pos, hxk]
      omega
    have hzab : ∀ i, k < i → i < n → z i = 0 := by
      intro i h1 h2
      have h3 := hx (fun j => if j = i then 1 else 0)
      have h4 : Zd (fun j => if j = i then 1 else 0) (Cs k) (fun ds => D (Rs rho k) (k :: ds)) = 0 := Wx fun c hc => by
        have := W4.1 hc
        rw [if_neg (by omega)]
      rw [h4, Gt h2 fun j hj hne => by rw [if_neg hne]; simp, if_pos rfl] at h3
      simp only [z, if_neg (show i ≠ k by omega)]
      omega
    have hf : Um n rho z = P rho k * P rho (k + 1) := by
      unfold Um
      have e1 : ∀ i, (sum n fun j => z i * rho i j * z j) = z i * d rho k i k := by
        intro i
        rw [← hz i, ← sum_smul]
        exact Zz fun j _ => by grind
      rw [Zz fun i _ => e1 i, Gt (show k < n by omega) fun i hi hne => ?_, hzk, Kf]
      by_cases h1 : i < k
      · rw [d_row h1]; simp
      · rw [hzab i (by omega) hi]; simp
    have hpos := hp z ⟨k, by omega, by rw [hzk]; omega⟩
    rw [hf] at hpos
    rcases Int.lt_or_le 0 (P rho (k + 1)) with h | h
    · exact h
    · have := Int.mul_nonpos_of_nonneg_of_nonpos (Int.le_of_lt hPk) h
      omega
theorem pos_iff (hs : Symm n rho) : Pos n rho ↔ ∀ m, m ≤ n → 0 < P rho m := ⟨J1v, pos_of_minors hs⟩
end Go.PD
namespace Go.PD
theorem sum_pos : ∀ {n : Nat} {f : Nat → Int}, (∀ i, i < n → 0 ≤ f i) → (∃ i, i < n ∧ 0 < f i) → 0 < sum n f
  | 0, _, _, ⟨i, hi, _⟩ => absurd hi (Nat.not_lt_zero _)
  | n + 1, f, h, ⟨i, hi, hp⟩ => by
    simp only [sum]
    have h1 := h n (by omega)
    by_cases e : i = n
    · subst e
      have := sum_nonneg (n := i) (f := f) fun j hj => h j (by omega)
      omega
    · have := sum_pos (n := n) (f := f) (fun j hj => h j (by omega)) ⟨i, by omega, hp⟩
      omega
theorem form_outer (n : Nat) (w : Int) (h x : Nat → Int) : Um n (fun i j => w * (h i * h j)) x = w * ((sum n fun i => h i * x i) * (sum n fun i => h i * x i)) := by
  have e : ∀ i, i < n → (sum n fun j => x i * (w * (h i * h j)) * x j) = (w * (sum n fun i => h i * x i)) * (h i * x i) := by
    intro i _
    have e1 : (sum n fun j => x i * (w * (h i * h j)) * x j) = sum n fun j => (w * (h i * x i)) * (h j * x j) := Zz fun j _ => by grind
    rw [e1, sum_smul]
    grind
  unfold Um
  rw [Zz e, sum_smul]
  grind
theorem form_plus {n : Nat} {a b c : Nat → Nat → Int} (h : ∀ i j, i < n → j < n → b i j = a i j + c i j) (x : Nat → Int) : Um n b x = Um n a x + Um n c x := by
  unfold Um
  rw [← sum_add]
  refine Zz fun i hi => ?_
  rw [← sum_add]
  exact Zz fun j hj => by rw [h i j hi hj]; grind
theorem Pos_outer {n : Nat} {a b : Nat → Nat → Int} {w : Int} {h : Nat → Int} (hw : 0 ≤ w) (hab : ∀ i j, i < n → j < n → b i j = a i j + w * (h i * h j)) : Pos n (dif b a 1) := by
  intro x ⟨i, hi, hx⟩
  rw [form_dif, form_plus hab x, form_outer]
  have h1 : 0 < sq n x := sum_pos (fun j _ => sq_nonneg _) ⟨i, hi, by
    have := sq_nonneg (x i)
    rcases Int.lt_or_eq_of_le this with h | h
    · exact h
    · exact absurd h.symm (Int.mul_ne_zero hx hx)⟩
  have h2 : 0 ≤ w * ((sum n fun i => h i * x i) * (sum n fun i => h i * x i)) := Int.mul_nonneg hw (sq_nonneg _)
  omega
end Go.PD
namespace Go.Proofs.YtfalfmfkifemeaaGreatDoor
open Go.AL
theorem cv5_2 (H : Hp) (k : IntKind) (n : Int) : Uu Tryz.prog H 5 2 (.int k n) = some (.int .i64 (IntKind.i64.wrap n)) := by simp [Uu, und5, und2]
end Go.Proofs.YtfalfmfkifemeaaGreatDoor
namespace Go.Proofs.YtfalfmfkifemeaaGreatDoor
open Go.AL Go.PW
theorem tf87WdC : type_of% (Jc @Xz (Jc @X1 (Jc @Z3 (@Z2)))) := Jc @Xz (Jc @X1 (Jc @Z3 (@Z2)))
abbrev pn87_2WdC : Plan := (.one 0 (.pur 1 (.one 2 (.one 3 (.one 4 (.one 5 (.one 6 (.pur 7 (.one 8 (.one 9 (.one 10 (.one 11 .nil))))))))))))
set_option maxRecDepth 8000
theorem add_signs (x y : Int) (p q s : Bool) (H : Hp) (hn : decide (Mh ≤ x % M) = p) (hm : decide (Mh ≤ y % M) = q) (hk : decide (Mh ≤ (x + y) % M) = s) (hs : p = q → s = p) : ACalls Tryz.prog 87 [W x, W y] H fun r H' => r = .tup [W (x + y), .bool true] ∧ H = H' := by
  refine ACalls.drop (R := fun r => r = .tup [W (x + y), .bool true]) ?_
  have e0 : x + y + 0 = x + y := by omega
  refine Q7 Tryz.func87 rfl (by kernel_rfl) (by kernel_rfl) ?_
  repeat' first
    | (with_reducible first | refine Jj (fun K hK => ?_) | refine Q6 ?_ | refine Qj ?_ | refine Jg ?_ | refine Qw (id := 2) [] pn87_2WdC (by kernel_rfl) (by kernel_rfl) ?_ | refine Jz ?_ | refine Zs ?_)
    | (with_reducible refine Xe (fun _ x => (below_calls _ _)) ?_)
    | ((with_reducible refine Jq (plus_calls _ _ _ _ (by decide)) ?_); rintro _ _ ⟨rfl, rfl⟩)
    | ((with_reducible refine Jq (below_calls _ _) ?_); rintro _ _ ⟨rfl, rfl⟩)
    | (with_reducible refine Qn (fun hc => ?_) (fun hc => ?_) <;> (try simp only [RC] at hc) <;> (try (exfalso; first | omega | contradiction)))
    | (with_reducible refine X5 (fun hc => ?_) (fun hc => ?_) <;> (try simp only [RC] at hc) <;> (try (exfalso; first | omega | contradiction)))
    | (simp only [Q4, Jo, reduceIte, J0])
    | ((with_reducible refine hK _ _ ?_); clear hK)
    | (simp only [Q3, RA, Jn, Jm, Jp, Q2, Q0, ev, ofValue, Jt, J0, J3, J2, J4, reduceCtorEq, reduceIte, Ju, Qb, Qa, Jy, aun, Q9, Jk, Jh, Jx, Jw, Ji, Q8, Jf, Q1, Jr, Js, J1, J5, Ja, J9, Jb, J6, J7, Jd, J8, RB, Jv, Je, tf87WdC, hn, hm, hk, e0])
    | (simp (disch := first | omega | (simp only [RO]; done) | assumption) only [RS, Xs, Xq, Xr, Xp])
    | (simp (disch := (first | omega | (simp only [RO]; done) | assumption | (simp only [RM, Je]; done) | (simp only [RL, Je]; omega))) only [RD, reduceCtorEq, reduceIte, Je, J1, J3, J2, J6, tf87WdC, hn, hm, hk, e0])
  all_goals first
    | (exfalso; exact absurd (hs (by assumption)) (by assumption))
    | skip
  all_goals
    (
     (refine Qg (rs := [.cell 4 33, .tmp 5]) rfl ?_)
     (simp only [Qx, Qd, Fr.put_some, Fr.put_none, Qe, Qf, Qi, J0, reduceIte])
     (try simp (disch := (first | omega | (simp only [RO]; done) | assumption | (simp only [RM, Je]; done) | (simp only [RL, Je]; omega))) only [RD, reduceCtorEq, reduceIte, Je, J1, J3, J2, J6, tf87WdC]))
  all_goals exact ⟨ext6 _ _ _ _, Vu _ _ _⟩
theorem add_calls (x y : Int) (H : Hp) (hx : In x) (hy : In y) (hs : In (x + y)) : ACalls Tryz.prog 87 [W x, W y] H fun r H' => r = .tup [W (x + y), .bool true] ∧ H = H' :=
  add_signs x y _ _ _ H (Uq hx) (Uq hy) (Uq hs) fun h => by
    rw [decide_eq_decide] at h ⊢
    omega
end Go.Proofs.YtfalfmfkifemeaaGreatDoor
namespace Go.Proofs.YtfalfmfkifemeaaGreatDoor
open Go.AL Go.PW Go.PD
theorem tf65BdA : type_of% (Jc @Z8 (Jc @Xd (Jc @Xx (Jc @Xw (@Xv))))) := Jc @Z8 (Jc @Xd (Jc @Xx (Jc @Xw (@Xv))))
theorem Vz : type_of% (Jc @Xd (Jc @X1 (Jc @Z3 (Jc @Z2 (Jc @Yo (@Vw)))))) := Jc @Xd (Jc @X1 (Jc @Z3 (Jc @Z2 (Jc @Yo (@Vw)))))
abbrev pn64_9BdA : Plan := (.one 0 (.one 1 (.one 2 (.one 4 (.one 5 (.one 6 (.one 7 (.one 8 (.one 9 (.one 10 (.one 11 (.one 12 (.one 13 (.one 14 (.one 15 (.one 16 (.one 17 (.one 18 (.pur 19 (.one 3 (.one 20 (.one 21 (.one 22 (.one 23 (.one 24 .nil)))))))))))))))))))))))))
abbrev pn64_11BdA : Plan := (.one 0 (.one 1 (.one 2 (.one 4 (.one 5 (.one 6 (.one 7 (.one 8 (.one 9 (.one 10 (.one 11 (.one 12 (.pur 13 (.one 3 (.one 14 (.one 15 (.one 16 (.one 17 (.one 18 .nil)))))))))))))))))))
set_option maxRecDepth 8000
set_option maxHeartbeats 2000000 in
theorem New_calls (n : Nat) (H : Hp) (h8 : n ≤ 8) : ACalls Tryz.prog 65 [.int .i64 (n : Int)] H fun r H' => ∃ a, r = Ya n a ∧ Noughts H H' a n ∧ Ext H H' := by
  have hm1 : Qy Tryz.prog .max #[3, 3] [.int .i64 (n : Int), .int .i64 0] = some (.int .i64 (n : Int)) := by
    show some (AV.int .i64 (if ((n : Int) < 0) then 0 else (n : Int))) = _
    rw [if_neg (by omega)]
  have hm2 : Qy Tryz.prog .min #[3, 3] [.int .i64 (n : Int), .int .i64 8] = some (.int .i64 (n : Int)) := by
    show some (AV.int .i64 (if ((8 : Int) < (n : Int)) then 8 else (n : Int))) = _
    rw [if_neg (by omega)]
  have hn2 : n * (n + 1) / 2 < 1000000 := by
    have : n * (n + 1) ≤ 8 * 9 := Nat.mul_le_mul h8 (by omega)
    omega
  have hr := fun H0 => room_calls n H0 (by omega) (by omega)
  rw [show ((n : Int) * ((n : Int) + 1) / 2) = ((n * (n + 1) / 2 : Nat) : Int) by push_cast; rfl] at hr
  have hmk := fun H0 => make_i64 H0 (n * (n + 1) / 2) .i64 hn2
  refine Q7 Tryz.func65 rfl (by kernel_rfl) (by kernel_rfl) ?_
  repeat' first
    | (with_reducible first | refine Jj (fun K hK => ?_) | refine Qj ?_ | refine Jg ?_)
    | ((with_reducible refine Jq (hr _) ?_); rintro _ _ ⟨rfl, rfl⟩)
    | (simp only [Q4, Jo, reduceIte, J0])
    | ((with_reducible refine hK _ _ ?_); clear hK)
    | (simp only [Q3, RA, Jn, Jm, Jp, Q2, Q0, ev, ofValue, Jt, J0, J3, J2, J4, reduceCtorEq, reduceIte, Ju, Qb, Qa, Jy, aun, Q9, Jk, Jh, Jx, Jw, Ji, Q8, Jf, Q1, Jr, Js, J1, J5, Ja, J9, Jb, J6, J7, Jd, J8, RB, Jv, Je, tf65BdA, hm1, hm2, hmk])
    | (simp (disch := first | omega | (simp only [RO]; done) | assumption) only [RS, X8, X9, Qu, Qv, Qq])
    | (simp (disch := (first | omega | (simp only [RO]; done) | assumption | (simp only [RM, Je]; done) | (simp only [RL, Je]; omega))) only [RD, reduceCtorEq, reduceIte, Je, J1, J3, J2, J6, tf65BdA, hm1, hm2, hmk])
  all_goals
    (
     (refine Qg (rs := [.cell 2 24]) rfl ?_)
     (simp only [Qx, Qd, Fr.put_some, Fr.put_none, Qe, Qf, Qi, J0, reduceIte])
     (try simp (disch := (first | omega | (simp only [RO]; done) | assumption | (simp only [RM, Je]; done) | (simp only [RL, Je]; omega))) only [RD, reduceCtorEq, reduceIte, Je, J1, J3, J2, J6, tf65BdA]))
  all_goals exact ⟨_, rfl, ⟨H.length + 1, rfl, by first | exact Qo (by simp) | rw [if_pos (by simp)] | simp, by omega⟩, (Ext.push _ _).pushed _⟩
def Nq (n : Nat) (f : Nat → Nat → Int) : List (List Int) := (List.range n).map fun i => (List.range n).map fun j => f i j
theorem Wt (n : Nat) (f : Nat → Nat → Int) : (Nq n f).length = n := by simp [Nq]
theorem Np (n : Nat) (f : Nat → Nat → Int) (i : Nat) (hi : i < n) : (Nq n f).getD i [] = (List.range n).map fun j => f i j := by
  simp [Nq, List.getD, hi]
theorem rowsF_get2 (n : Nat) (f : Nat → Nat → Int) (i j : Nat) (hi : i < n) (hj : j < n) : ((Nq n f).getD i []).getD j 0 = f i j := by
  rw [Np _ _ _ hi]
  simp [List.getD, hj]
theorem St.zeroF (n : Nat) (f : Nat → Nat → Int) : St n 0 f (Nq n f) := by
  refine ⟨Wt n f, fun i hi => by rw [Np _ _ _ hi]; simp, fun i j _ hi hj => by rw [rowsF_get2 _ _ _ _ hi hj, Gj]⟩
theorem J0q (n : Nat) (xs : List Int) : Kx n xs = Nq n (ent n xs) := rfl
set_option maxHeartbeats 8000000 in
theorem less_calls (n pa pb : Nat) (va vb : List AV) (a b : Nat → Nat → Int) (more : Int) (H : Hp) (MA : Mat H pa va (Nq n a)) (MB : Mat H pb vb (Nq n b)) (h8 : n ≤ 8) (hA : ∀ i j, i < n → j < n → (a i j).natAbs ≤ 1073741824) (hB : ∀ i j, i < n → j < n → (b i j).natAbs ≤ 1073741824) (hm : more.natAbs ≤ 9223372036854775808) :
    ACalls Tryz.prog 64 [.sl pa 0 n n, .sl pb 0 n n, W more] H fun r H' => ∃ p vs, r = .sl p 0 n n ∧ Mat H' p vs (Nq n (dif a b more)) ∧ Ext H H' ∧ Fresh H p vs n := by
  have mo := fun H => make_outer H n .i64 (by omega)
  have mr := fun H => make_row H n .i64 (by omega)
  have hInm : In more := Kt (Nat.le_trans hm (by decide +kernel))
  have hAin : ∀ i j, i < n → j < n → In (a i j) := fun i j hi hj => Kt (Nat.le_trans (hA i j hi hj) (by decide +kernel))
  have hBin : ∀ i j, i < n → j < n → In (b i j) := fun i j hi hj => Kt (Nat.le_trans (hB i j hi hj) (by decide +kernel))
  have hDb : ∀ i j, i < n → j < n → (a i j - b i j).natAbs ≤ 2147483648 := fun i j hi hj => by have := hA i j hi hj; have := hB i j hi hj; omega
  have hDin : ∀ i j, i < n → j < n → In (a i j - b i j) := fun i j hi hj => Kt (Nat.le_trans (hDb i j hi hj) (by decide +kernel))
  have hSin : ∀ i j, i < n → j < n → In (a i j - b i j + more) := fun i j hi hj => Kt (Nat.le_trans (show (a i j - b i j + more).natAbs ≤ 9223372039002259456 by have := hDb i j hi hj; omega) (by decide +kernel))
  have hwA : ∀ i, i < n → ((Nq n a).getD i []).length = n := fun i hi => by rw [Np _ _ _ hi]; simp
  have hwB : ∀ i, i < n → ((Nq n b).getD i []).length = n := fun i hi => by rw [Np _ _ _ hi]; simp
  have lA := Wt n a
  have lB := Wt n b
  refine Q7 Tryz.func64 rfl (by kernel_rfl) (by kernel_rfl) ?_
  repeat' first
    | (with_reducible first | refine Jj (fun K hK => ?_) | refine Qc ?_ | refine Jg ?_)
    | (simp only [Q4, Jo, reduceIte, J0])
    | ((with_reducible refine hK _ _ ?_); clear hK)
    | (simp only [Q3, RA, Jn, Jm, Jp, Q2, Q0, ev, ofValue, Jt, J0, J3, J2, J4, reduceCtorEq, reduceIte, Ju, Qb, Qa, Jy, aun, Q9, Jk, Jh, Jx, Jw, Ji, Q8, Jf, Q1, Jr, Js, J1, J5, Ja, J9, Jb, J6, J7, Jd, J8, RB, Jv, Je, Vz, mo])
  obtain ⟨p, hp⟩ : ∃ p, p = H.length + 1 := ⟨_, rfl⟩
  rw [← hp]
  refine X2 (fun m fr' H1 => ∃ (t : Nat) (vs : List AV) (rss : List (List Int)), m = n - t ∧ t ≤ n ∧ fr' 0 = .sl pa 0 n n ∧ fr' 1 = .sl pb 0 n n ∧ fr' 5 = .ptr H.length 0 ∧ fr' 7 = .sl p 0 n n ∧ fr' 14 = .int .i64 (n : Int) ∧ fr' 15 = .int .i64 (t : Int) ∧
      Mat H1 p vs rss ∧ vs.length = n ∧ rss.length = t ∧ (∀ i, i < t → rss.getD i [] = (List.range n).map fun j => dif a b more i j) ∧ (∀ i, i < t → H.length ≤ (vs.getD i .nilS).hd) ∧ Ext H H1 ∧ Qt H1 H.length = some (Wb more)) (m := n)
    ⟨0, List.replicate n .nilS, [], by omega, by omega, rfl, rfl, rfl, rfl, rfl, rfl, ⟨by simp, by rw [hp]; exact Qo (by simp), fun i hi => by simp at hi, fun i j hi => by simp at hi, fun i hi => by simp at hi⟩, by simp, rfl, fun i hi => by omega, fun i hi => by omega, (Ext.push _ _).pushed _, by rw [Qp (by simp), Qo rfl]⟩ ?_
  rintro m fr' H1 ⟨t, vs, rss, rfl, ht, k0, k1, k5, k7, k14, k15, M, hvl, hrl, hrow, hfr, x1, g1⟩
  have e1 : IntKind.i64.wrap ((t : Int) + 1) = ((t + 1 : Nat) : Int) := by rw [Q5 (by omega) (by omega)]; omega
  have l1 := Qr g1
  by_cases hlt : t < n
  · obtain ⟨hh, hhe⟩ : ∃ hh, hh = H1.length := ⟨_, rfl⟩
    have lp := Qr M.out
    have op := J1i (H := H1 ++ [Rb (List.replicate n 0)]) (p := p) (vs := vs) (t := t) (x := .sl hh 0 n n) (by rw [Qp lp]; exact M.out) (by omega) rfl
    have MS := M.snoc (by omega) (List.replicate n 0)
    rw [hrl, List.length_replicate, ← hhe, List.set_append_left _ _ lp] at MS
    refine Jj (fun K hQ => ?_)
    repeat' first
      | (with_reducible first | refine Q6 ?_ | refine Jg ?_ | refine Jz ?_)
      | (with_reducible refine X5 (fun hc => ?_) (fun hc => ?_) <;> (try simp only [RC] at hc) <;> (try (exfalso; first | omega | contradiction)))
      | (simp only [Q4, Jo, reduceIte, J0])
      | (simp only [Q3, RA, Jn, Jm, Jp, Q2, Q0, ev, ofValue, Jt, J0, J3, J2, J4, reduceCtorEq, reduceIte, Ju, Qb, Qa, Jy, aun, Q9, Jk, Jh, Jx, Jw, Ji, Q8, Jf, Q1, Jr, Js, J1, J5, Ja, J9, Jb, J6, J7, Jd, J8, RB, Jv, Je, Vz, k0, k1, k5, k7, k14, k15])
    refine hQ _ _ ?_
    clear hQ
    refine Jj (fun K hQ => ?_)
    repeat' first
      | (with_reducible first | refine Q6 ?_ | refine Jg ?_ | refine Jz ?_)
      | (with_reducible refine X5 (fun hc => ?_) (fun hc => ?_) <;> (try simp only [RC] at hc) <;> (try (exfalso; first | omega | contradiction)))
      | (simp only [Q4, Jo, reduceIte, J0])
      | (simp only [Q3, RA, Jn, Jm, Jp, Q2, Q0, ev, ofValue, Jt, J0, J3, J2, J4, reduceCtorEq, reduceIte, Ju, Qb, Qa, Jy, aun, Q9, Jk, Jh, Jx, Jw, Ji, Q8, Jf, Q1, Jr, Js, J1, J5, Ja, J9, Jb, J6, J7, Jd, J8, RB, Jv, Je, Vz, k0, k1, k5, k7, k14, k15])
    refine hQ _ _ ?_
    clear hQ
    refine Jj (fun K3 hK3 => ?_)
    refine Qc ?_
    refine Jj (fun K hQ => ?_)
    repeat' first
      | (with_reducible first | refine Jg ?_)
      | (simp only [Q4, Jo, reduceIte, J0])
      | (simp only [Q3, RA, Jn, Jm, Jp, Q2, Q0, ev, ofValue, Jt, J0, J3, J2, J4, reduceCtorEq, reduceIte, Ju, Qb, Qa, Jy, aun, Q9, Jk, Jh, Jx, Jw, Ji, Q8, Jf, Q1, Jr, Js, J1, J5, Ja, J9, Jb, J6, J7, Jd, J8, RB, Jv, Je, Vz, k0, k1, k5, k7, k14, k15, mr, ← hhe, op])
      | (simp (disch := first | omega | (simp only [RO]; done) | assumption) only [RS, Zm, Zn, Yi, Yk, Xs, Xq, Xr, Xp])
      | (simp (disch := (first | omega | (simp only [RO]; done) | assumption | (simp only [RM, Je]; done) | (simp only [RL, Je]; omega))) only [RD, reduceCtorEq, reduceIte, Je, J1, J3, J2, J6, Vz, k0, k1, k5, k7, k14, k15, mr, ← hhe, op])
    refine hQ _ _ ?_
    clear hQ
    refine Jj (fun K hQ => ?_)
    repeat' first
      | (with_reducible first | refine Jg ?_)
      | (simp only [Q4, Jo, reduceIte, J0])
      | (simp only [Q3, RA, Jn, Jm, Jp, Q2, Q0, ev, ofValue, Jt, J0, J3, J2, J4, reduceCtorEq, reduceIte, Ju, Qb, Qa, Jy, aun, Q9, Jk, Jh, Jx, Jw, Ji, Q8, Jf, Q1, Jr, Js, J1, J5, Ja, J9, Jb, J6, J7, Jd, J8, RB, Jv, Je, Vz, k0, k1, k5, k7, k14, k15, mr, ← hhe, op])
      | (simp (disch := first | omega | (simp only [RO]; done) | assumption) only [RS, Zm, Zn, Yi, Yk, Xs, Xq, Xr, Xp])
      | (simp (disch := (first | omega | (simp only [RO]; done) | assumption | (simp only [RM, Je]; done) | (simp only [RL, Je]; omega))) only [RD, reduceCtorEq, reduceIte, Je, J1, J3, J2, J6, Vz, k0, k1, k5, k7, k14, k15, mr, ← hhe, op])
    refine hQ _ _ ?_
    clear hQ
    refine Jj (fun K4 hK4 => ?_)
    have hv2 : (vs.set t (AV.sl hh 0 n n)).getD t .nilS = .sl hh 0 n n := by rw [Yj _ _ _ _ _ (by omega), if_pos rfl]
    have hr2 : ∀ rr : List Int, (rss ++ [rr]).getD t [] = rr := fun rr => by rw [← hrl]; simp [List.getD]
    have hl2 : ∀ rr : List Int, t < (rss ++ [rr]).length := fun rr => by simp; omega
    have lhh : H.length < hh := by omega
    have php : p ≠ H.length := by omega
    have hdd : (AV.sl hh 0 n n).hd = hh := rfl
    repeat' first
      | (with_reducible first | refine Jj (fun K hK => ?_) | refine Qc ?_ | refine Jg ?_)
      | (simp only [Q4, Jo, reduceIte, J0])
      | ((with_reducible refine hK _ _ ?_); clear hK)
      | (simp only [Q3, RA, Jn, Jm, Jp, Q2, Q0, ev, ofValue, Jt, J0, J3, J2, J4, reduceCtorEq, reduceIte, Ju, Qb, Qa, Jy, aun, Q9, Jk, Jh, Jx, Jw, Ji, Q8, Jf, Q1, Jr, Js, J1, J5, Ja, J9, Jb, J6, J7, Jd, J8, RB, Jv, Je, Vz, k0, k1, k5, k7, k14, k15])
    refine X2 (fun m fr' H2 => ∃ (j : Nat) (rr : List Int), m = n - j ∧ j ≤ n ∧ fr' 0 = .sl pa 0 n n ∧ fr' 1 = .sl pb 0 n n ∧ fr' 5 = .ptr H.length 0 ∧ fr' 7 = .sl p 0 n n ∧ fr' 8 = .int .i64 (t : Int) ∧ fr' 14 = .int .i64 (n : Int) ∧ fr' 15 = .int .i64 (t : Int) ∧ fr' 25 = .int .i64 (n : Int) ∧ fr' 26 = .int .i64 (j : Int) ∧
        Mat H2 p (vs.set t (.sl hh 0 n n)) (rss ++ [rr]) ∧ rr.length = n ∧ (∀ c, c < n → rr.getD c 0 = if c < j then a t c - b t c else 0) ∧ Ext H H2 ∧ Qt H2 H.length = some (Wb more)) (m := n)
      ⟨0, List.replicate n 0, by omega, by omega, k0, k1, k5, k7, rfl, k14, k15, rfl, rfl, MS, by simp, fun c hc => by rw [if_neg (by omega)]; simp [List.getD, hc], (x1.set (by omega) _).pushed _, by rw [Qp (by rw [List.length_set]; exact l1), Qk lp, if_neg (by omega)]; exact g1⟩ ?_
    rintro m fr' H2 ⟨j, rr, rfl, hj, k0, k1, k5, k7, k8, k14, k15, k25, k26, M2, hrl2, hrr, x2, g2⟩
    have e2 : IntKind.i64.wrap ((j : Int) + 1) = ((j + 1 : Nat) : Int) := by rw [Q5 (by omega) (by omega)]; omega
    have lh2 : hh < H2.length := by have := Qr (M2.row t (hl2 _)).2; rw [hv2] at this; exact this
    have b1 := M2.at0 (hl2 _)
    rw [hv2] at b1
    by_cases hjn : j < n
    · have A0 := (MA.ext x2).at0 (i := t) (by omega)
      have A1 := (MA.ext x2).idx (i := t) (by omega) (k := .i64) (j := (j : Int)) (by omega) (by rw [hwA _ hlt]; omega)
      have A2 := (MA.ext x2).get (i := t) (j := j) (by omega) (by rw [hwA _ hlt]; omega)
      have B0 := (MB.ext x2).at0 (i := t) (by omega)
      have B1 := (MB.ext x2).idx (i := t) (by omega) (k := .i64) (j := (j : Int)) (by omega) (by rw [hwB _ hlt]; omega)
      have B2 := (MB.ext x2).get (i := t) (j := j) (by omega) (by rw [hwB _ hlt]; omega)
      rw [Int.toNat_natCast] at A1 B1
      rw [rowsF_get2 _ _ _ _ hlt hjn] at A2 B2
      have b3 := M2.idx (hl2 _) (k := .i64) (j := (j : Int)) (by omega) (by rw [hr2]; omega)
      have d1 := M2.put (x := a t j - b t j) (hl2 _) (j := j) (by rw [hr2]; omega)
      rw [hv2] at b3 d1
      rw [hr2] at d1
      rw [Int.toNat_natCast] at b3
      rw [hdd] at b3 d1
      have M3 := M2.set (hl2 _) (rs := rr.set j (a t j - b t j)) (by rw [hr2, List.length_set])
      rw [hv2, hdd] at M3
      have hs3 : (rss ++ [rr]).set t (rr.set j (a t j - b t j)) = rss ++ [rr.set j (a t j - b t j)] := by rw [← hrl]; simp
      rw [hs3] at M3
      have hsub := fun H0 => sub_calls (a t j) (b t j) H0 (hAin t j hlt hjn) (hBin t j hlt hjn) (hDin t j hlt hjn)
      repeat' first
        | (with_reducible first | refine Jj (fun K hK => ?_) | refine Qc ?_ | refine Q6 ?_ | refine Jg ?_ | refine Qw (id := 9) [] pn64_9BdA (by kernel_rfl) (by kernel_rfl) ?_ | refine Jz ?_ | refine Zs ?_)
        | (with_reducible refine Xe (fun _ x => (hsub _)) ?_)
        | (with_reducible refine X5 (fun hc => ?_) (fun hc => ?_) <;> (try simp only [RC] at hc) <;> (try (exfalso; first | omega | contradiction)))
        | (simp only [Q4, Jo, reduceIte, J0])
        | ((with_reducible refine hK _ _ ?_); clear hK)
        | (simp only [Q3, RA, Jn, Jm, Jp, Q2, Q0, ev, ofValue, Jt, J0, J3, J2, J4, reduceCtorEq, reduceIte, Ju, Qb, Qa, Jy, aun, Q9, Jk, Jh, Jx, Jw, Ji, Q8, Jf, Q1, Jr, Js, J1, J5, Ja, J9, Jb, J6, J7, Jd, J8, RB, Jv, Je, Vz, k0, k1, k5, k7, k8, k14, k15, k25, k26, e2, A0, A1, A2, B0, B1, B2, b1, b3, d1])
        | (simp (disch := first | omega | (simp only [RO]; done) | assumption) only [RS, Zm, Zn, Yi, Yk, Xs, Xq, Xr, Xp])
      all_goals
        refine ⟨_, by omega, j + 1, rr.set j (a t j - b t j), rfl, by omega, rfl, M3, by rw [List.length_set]; exact hrl2, fun c hc => ?_, x2.set (by omega) _, by rw [Qk lh2, if_neg (by omega)]; exact g2⟩
        rw [Xf _ _ (by omega)]
        by_cases hcj : c = j
        · rw [if_pos hcj, if_pos (by omega), hcj]
        · rw [if_neg hcj, hrr c hc]
          have : c < j ↔ c < j + 1 := by omega
          simp only [this]
    · obtain rfl : n = j := by omega
      repeat' first
        | (with_reducible first | refine Jj (fun K hK => ?_) | refine Qz ?_ | refine Jg ?_ | refine Jz ?_)
        | (with_reducible refine X5 (fun hc => ?_) (fun hc => ?_) <;> (try simp only [RC] at hc) <;> (try (exfalso; first | omega | contradiction)))
        | (simp only [Q4, Jo, reduceIte, J0])
        | ((with_reducible refine hK _ _ ?_); clear hK)
        | (simp only [Q3, RA, Jn, Jm, Jp, Q2, Q0, ev, ofValue, Jt, J0, J3, J2, J4, reduceCtorEq, reduceIte, Ju, Qb, Qa, Jy, aun, Q9, Jk, Jh, Jx, Jw, Ji, Q8, Jf, Q1, Jr, Js, J1, J5, Ja, J9, Jb, J6, J7, Jd, J8, RB, Jv, Je, Vz, k0, k1, k5, k7, k8, k14, k15, k25, k26])
      refine hK4 _ _ ?_
      have hrt := hrr t hlt
      rw [if_pos hlt] at hrt
      have b3 := M2.idx (hl2 _) (k := .i64) (j := (t : Int)) (by omega) (by rw [hr2]; omega)
      have b4 := M2.get (i := t) (j := t) (hl2 _) (by rw [hr2]; omega)
      have d1 := M2.put (x := a t t - b t t + more) (hl2 _) (j := t) (by rw [hr2]; omega)
      rw [hv2] at b3 d1 b4
      rw [hr2] at d1 b4
      rw [Int.toNat_natCast] at b3
      rw [hdd] at b3 d1 b4
      rw [hrt] at b4
      have M3 := M2.set (hl2 _) (rs := rr.set t (a t t - b t t + more)) (by rw [hr2, List.length_set])
      rw [hv2, hdd] at M3
      have hs3 : (rss ++ [rr]).set t (rr.set t (a t t - b t t + more)) = rss ++ [rr.set t (a t t - b t t + more)] := by rw [← hrl]; simp
      rw [hs3] at M3
      have hadd := fun H0 => add_calls (a t t - b t t) more H0 (hDin t t hlt hlt) hInm (hSin t t hlt hlt)
      repeat' first
        | (with_reducible first | refine Qw (id := 11) [] pn64_11BdA (by kernel_rfl) (by kernel_rfl) ?_ | refine Zs ?_)
        | (with_reducible refine Xe (fun _ x => (hadd _)) ?_)
        | (simp only [Q4, Jo, reduceIte, J0])
        | (simp only [Q3, RA, Jn, Jm, Jp, Q2, Q0, ev, ofValue, Jt, J0, J3, J2, J4, reduceCtorEq, reduceIte, Ju, Qb, Qa, Jy, aun, Q9, Jk, Jh, Jx, Jw, Ji, Q8, Jf, Q1, Jr, Js, J1, J5, Ja, J9, Jb, J6, J7, Jd, J8, RB, Jv, Je, Vz, k0, k1, k5, k7, k8, k14, k15, k25, k26, b1, b3, b4, d1, g2])
        | (simp (disch := first | omega | (simp only [RO]; done) | assumption) only [RS, Zm, Zn, Yi, Yk, Xs, Xq, Xr, Xp])
        | (simp (disch := (first | omega | (simp only [RO]; done) | assumption | (simp only [RM, Je]; done) | (simp only [RL, Je]; omega))) only [RD, reduceCtorEq, reduceIte, Je, J1, J3, J2, J6, Vz, k0, k1, k5, k7, k8, k14, k15, k25, k26, b1, b3, b4, d1, g2])
      all_goals
        refine hK3 _ _ ?_
        repeat' first
          | (with_reducible first | refine Jg ?_)
          | (simp only [Q4, Jo, reduceIte, J0])
          | (simp only [Q3, RA, Jn, Jm, Jp, Q2, Q0, ev, ofValue, Jt, J0, J3, J2, J4, reduceCtorEq, reduceIte, Ju, Qb, Qa, Jy, aun, Q9, Jk, Jh, Jx, Jw, Ji, Q8, Jf, Q1, Jr, Js, J1, J5, Ja, J9, Jb, J6, J7, Jd, J8, RB, Jv, Je, Vz, k0, k1, k5, k7, k8, k14, k15, k25, k26, e1])
        refine ⟨_, by omega, t + 1, _, _, rfl, by omega, rfl, M3, by rw [List.length_set]; exact hvl, by rw [List.length_append, hrl]; rfl, fun i hi => ?_, fun i hi => ?_, x2.set (by omega) _, by rw [Qk lh2, if_neg (by omega)]; exact g2⟩
        · by_cases e : i = t
          · rw [e, hr2]
            apply Gh 0
            · rw [List.length_set, hrl2]; simp
            · intro c hc
              rw [List.length_map, List.length_range] at hc
              rw [Xf _ _ (by omega)]
              have hd : ((List.range n).map fun j => dif a b more t j).getD c 0 = dif a b more t c := by simp [List.getD, hc]
              rw [hd]
              unfold dif
              by_cases ec : c = t
              · rw [if_pos ec, if_pos ec.symm, ec]
              · rw [if_neg ec, if_neg (fun h => ec h.symm), hrr c hc, if_pos hc, Int.add_zero]
          · rw [← hrow i (by omega), List.getD_eq_getElem?_getD, List.getElem?_append_left (by omega), ← List.getD_eq_getElem?_getD]
        · rw [Yj _ _ _ _ _ (by omega)]
          by_cases e : i = t
          · rw [if_pos e]; show H.length ≤ hh; omega
          · rw [if_neg e]; exact hfr i (by omega)
  · obtain rfl : t = n := by omega
    repeat' first
      | (with_reducible first | refine Jj (fun K hK => ?_) | refine Qz ?_ | refine Qj ?_ | refine Jg ?_ | refine Jz ?_)
      | (with_reducible refine X5 (fun hc => ?_) (fun hc => ?_) <;> (try simp only [RC] at hc) <;> (try (exfalso; first | omega | contradiction)))
      | (simp only [Q4, Jo, reduceIte, J0])
      | ((with_reducible refine hK _ _ ?_); clear hK)
      | (clear hK; (with_reducible refine hK _ _ ?_); clear hK)
      | (simp only [Q3, RA, Jn, Jm, Jp, Q2, Q0, ev, ofValue, Jt, J0, J3, J2, J4, reduceCtorEq, reduceIte, Ju, Qb, Qa, Jy, aun, Q9, Jk, Jh, Jx, Jw, Ji, Q8, Jf, Q1, Jr, Js, J1, J5, Ja, J9, Jb, J6, J7, Jd, J8, RB, Jv, Je, Vz, k0, k1, k5, k7, k14, k15])
    (
     (refine Qg (rs := [.tmp 6]) rfl ?_)
     (simp only [Qx, Qd, Fr.put_some, Fr.put_none, Qe, Qf, Qi, J0, reduceIte, k7])
     (try simp (disch := (first | omega | (simp only [RO]; done) | assumption | (simp only [RM, Je]; done) | (simp only [RL, Je]; omega))) only [RD, reduceCtorEq, reduceIte, Je, J1, J3, J2, J6, Vz, k7]))
    refine ⟨p, vs, rfl, ?_, x1, by omega, hfr⟩
    have : rss = Nq t (dif a b more) := by
      apply Gh []
      · rw [Wt, hrl]
      · intro i hi
        rw [Wt] at hi
        rw [Np _ _ _ hi, hrow i hi]
    rw [← this]; exact M
end Go.Proofs.YtfalfmfkifemeaaGreatDoor
namespace Go.Proofs.YtfalfmfkifemeaaGreatDoor
open Go.AL Go.PW Go.PD
theorem Wn : type_of% (Jc @Z8 (Jc @Xd (Jc @Xz (Jc @Xx (Jc @Xw (Jc @Xv (Jc @X1 (Jc @Z3 (Jc @Z2 (Jc @Yo (@Vw))))))))))) := Jc @Z8 (Jc @Xd (Jc @Xz (Jc @Xx (Jc @Xw (Jc @Xv (Jc @X1 (Jc @Z3 (Jc @Z2 (Jc @Yo (@Vw))))))))))
theorem Wm : type_of% (Jc @Z8 (Jc @Xd (Jc @Xz (Jc @Xx (Jc @Xw (Jc @Xv (Jc @X1 (Jc @Z3 (Jc @Z2 (Jc @Yo (@Vw))))))))))) := Jc @Z8 (Jc @Xd (Jc @Xz (Jc @Xx (Jc @Xw (Jc @Xv (Jc @X1 (Jc @Z3 (Jc @Z2 (Jc @Yo (@Vw))))))))))
abbrev pn30_3BdB : Plan := (.one 0 (.one 2 (.one 3 (.one 6 (.ext 1 (.one 4 (.one 5 (.one 7 (.one 8 (.one 9 (.one 10 (.one 11 .nil))))))))))))
abbrev pn32_3BdB : Plan := (.one 0 (.one 1 (.one 4 (.one 6 (.ext 2 (.ext 3 (.one 5 (.one 7 (.one 8 (.one 9 (.one 10 .nil)))))))))))
set_option maxRecDepth 8000
def nul : Nat → Nat → Int := fun _ _ => 0
theorem ent_nul (n l : Nat) : ent n (List.replicate l 0) = nul := funext fun i => funext fun j => Wk n i j l
theorem J0t {n : Nat} {xs : List Int} (hr : Right n xs) (i j : Nat) : (ent n xs i j).natAbs ≤ 1073741824 := by
  unfold ent
  rcases Nat.lt_or_ge (pl n i j) xs.length with h | h
  · have := hr.2 _ (Wy h)
    unfold Fit at this
    omega
  · rw [List.getD_eq_getElem?_getD, List.getElem?_eq_none h]; decide
theorem dif_64 {a b : Nat → Nat → Int} {m : Int} (ha : ∀ i j, (a i j).natAbs ≤ 1073741824) (hb : ∀ i j, (b i j).natAbs ≤ 1073741824) (hm : m.natAbs ≤ 9223372036854775808) (i j : Nat) : (dif a b m i j).natAbs ≤ 18446744073709551616 := by
  have h1 := ha i j
  have h2 := hb i j
  unfold dif
  split <;> omega
theorem nul_30 (i j : Nat) : (nul i j).natAbs ≤ 1073741824 := by unfold nul; decide
def U8 (n : Nat) (xs : List Int) (k : Int) : Bool := Ks (dif (ent n xs) nul (-k)) n
def Ww (n : Nat) (xs : List Int) (k : Int) : Bool := Ks (dif nul (ent n xs) k) n
def belowB (n : Nat) (xs ys : List Int) : Bool := Ks (dif (ent n ys) (ent n xs) 1) n
set_option maxHeartbeats 4000000 in
theorem Least_calls (n : Nat) (xs : List Int) (a : AV) (k : Int) (H : Hp) (ha : Ints H .i64 a xs) (hr : Right n xs) (hk : -9223372036854775808 ≤ k ∧ k ≤ 9223372036854775807) : ACalls Tryz.prog 30 [Ya n a, .int .i64 k] H fun r H' => r = .bool (U8 n xs k) ∧ H = H' := by
  refine ACalls.drop (R := fun r => r = .bool (U8 n xs k)) ?_
  have ha1 : a.one = true := ha.rd.one
  have hc : a.cells = [a] := AV.cells_one ha1
  obtain ⟨h8, hlx⟩ := hr.len
  have hd : decide (Right n xs) = true := decide_eq_true hr
  have e30 := J0t hr
  refine Q7 Tryz.func30 rfl (by kernel_rfl) (by kernel_rfl) ?_
  repeat' first
    | (with_reducible first | refine Jj (fun K hK => ?_) | refine Q6 ?_ | refine Jg ?_ | refine Qw (id := 3) [1] pn30_3BdB (by kernel_rfl) (by kernel_rfl) ?_ | refine Jz ?_ | refine Z1 ?_)
    | ((with_reducible refine Jq (right_calls _ _ _ _ (ha.push _) hlx) ?_); rintro _ _ ⟨rfl, rfl⟩)
    | (simp only [Q4, Jo, reduceIte, J0])
    | ((with_reducible refine hK _ _ ?_); clear hK)
    | (simp only [Q3, RA, Jn, Jm, Jp, Q2, Q0, ev, ofValue, Jt, J0, J3, J2, J4, reduceCtorEq, reduceIte, Ju, Qb, Qa, Jy, aun, Q9, Jk, Jh, Jx, Jw, Ji, Q8, Jf, Q1, Jr, Js, J1, J5, Ja, J9, Jb, J6, J7, Jd, J8, RB, Jv, Je, Wn, hd])
    | (simp (disch := first | omega | (simp only [RO]; done) | assumption) only [RS, X8, X9, Zm, Zn, Yi, Yk, Xs, Xq, Xr, Xp, Qu, Qv, Qq])
    | (simp (disch := (first | omega | (simp only [RO]; done) | assumption | (simp only [RM, Je]; done) | (simp only [RL, Je]; omega))) only [RD, reduceCtorEq, reduceIte, Je, J1, J3, J2, J6, Wn, hd])
  all_goals
    refine Xi (Rows_calls n xs a _ (ha.push _) hr) ?_
    rintro _ H1 ⟨p1, vs1, rfl, M1, x1, _⟩
    refine ⟨x1, ?_⟩
    repeat' first
      | (simp only [Q3, RA, Jn, Jm, Jp, Q2, Q0, ev, ofValue, Jt, J0, J3, J2, J4, reduceCtorEq, reduceIte, Ju, Qb, Qa, Jy, aun, Q9, Jk, Jh, Jx, Jw, Ji, Q8, Jf, Q1, Jr, Js, J1, J5, Ja, J9, Jb, J6, J7, Jd, J8, RB, Jv, Je, Wn])
    refine Jq (New_calls n _ h8) ?_
    rintro _ H2 ⟨z, rfl, Z, x2⟩
    have hz1 : z.one = true := Z.ints.rd.one
    have hcz : z.cells = [z] := AV.cells_one hz1
    repeat' first
      | (simp only [Q3, RA, Jn, Jm, Jp, Q2, Q0, ev, ofValue, Jt, J0, J3, J2, J4, reduceCtorEq, reduceIte, Ju, Qb, Qa, Jy, aun, Q9, Jk, Jh, Jx, Jw, Ji, Q8, Jf, Q1, Jr, Js, J1, J5, Ja, J9, Jb, J6, J7, Jd, J8, RB, Jv, Je, Wn])
    refine Jq (Rows_calls n _ z _ Z.ints (Uh h8)) ?_
    rintro _ H3 ⟨p3, vs3, rfl, M3, x3, _⟩
    rw [J0q, ent_nul] at M3
    rw [J0q] at M1
    repeat' first
      | ((with_reducible refine Jq (of_calls _ _ hk) ?_); rintro _ _ ⟨rfl, rfl⟩)
      | ((with_reducible refine Jq (neg_calls _ _) ?_); rintro _ _ ⟨rfl, rfl⟩)
      | (simp only [Q3, RA, Jn, Jm, Jp, Q2, Q0, ev, ofValue, Jt, J0, J3, J2, J4, reduceCtorEq, reduceIte, Ju, Qb, Qa, Jy, aun, Q9, Jk, Jh, Jx, Jw, Ji, Q8, Jf, Q1, Jr, Js, J1, J5, Ja, J9, Jb, J6, J7, Jd, J8, RB, Jv, Je, Wn])
    refine Jq (less_calls n p1 p3 vs1 vs3 (ent n xs) nul (-k) _ ((M1.ext x2).ext x3) M3 h8 (fun i j _ _ => e30 i j) (fun i j _ _ => nul_30 i j) (by omega)) ?_
    rintro _ H4 ⟨p, vs, rfl, M, x4, hF⟩
    repeat' first
      | (simp only [Q3, RA, Jn, Jm, Jp, Q2, Q0, ev, ofValue, Jt, J0, J3, J2, J4, reduceCtorEq, reduceIte, Ju, Qb, Qa, Jy, aun, Q9, Jk, Jh, Jx, Jw, Ji, Q8, Jf, Q1, Jr, Js, J1, J5, Ja, J9, Jb, J6, J7, Jd, J8, RB, Jv, Je, Wn])
    refine Jq (Positive_calls n p _ vs _ H4 M (St.zeroF n _) h8 (dif_64 e30 nul_30 (by omega))) ?_
    rintro _ H5 ⟨rfl, O⟩
    repeat' first
      | (with_reducible first | refine Qj ?_)
      | (simp only [Q4, Jo, reduceIte, J0])
      | ((with_reducible refine hK _ _ ?_); clear hK)
      | (simp only [Q3, RA, Jn, Jm, Jp, Q2, Q0, ev, ofValue, Jt, J0, J3, J2, J4, reduceCtorEq, reduceIte, Ju, Qb, Qa, Jy, aun, Q9, Jk, Jh, Jx, Jw, Ji, Q8, Jf, Q1, Jr, Js, J1, J5, Ja, J9, Jb, J6, J7, Jd, J8, RB, Jv, Je, Wn])
    (
     (refine Qg (rs := [.tmp 4]) rfl ?_)
     (simp only [Qx, Qd, Fr.put_some, Fr.put_none, Qe, Qf, Qi, J0, reduceIte])
     (try simp (disch := (first | omega | (simp only [RO]; done) | assumption | (simp only [RM, Je]; done) | (simp only [RL, Je]; omega))) only [RD, reduceCtorEq, reduceIte, Je, J1, J3, J2, J6, Wn]))
    have x5 := Off.toExt x4 O (fun h ⟨i, hi, e⟩ => by rw [e]; exact hF.2 i hi)
    exact ⟨((((Ext.push _ _).trans x1).trans x2).trans x3).trans x5, trivial, rfl⟩
set_option maxHeartbeats 4000000 in
theorem Most_calls (n : Nat) (xs : List Int) (a : AV) (k : Int) (H : Hp) (ha : Ints H .i64 a xs) (hr : Right n xs) (hk : -9223372036854775808 ≤ k ∧ k ≤ 9223372036854775807) : ACalls Tryz.prog 32 [Ya n a, .int .i64 k] H fun r H' => r = .bool (Ww n xs k) ∧ H = H' := by
  refine ACalls.drop (R := fun r => r = .bool (Ww n xs k)) ?_
  have ha1 : a.one = true := ha.rd.one
  have hc : a.cells = [a] := AV.cells_one ha1
  obtain ⟨h8, hlx⟩ := hr.len
  have hd : decide (Right n xs) = true := decide_eq_true hr
  have e30 := J0t hr
  refine Q7 Tryz.func32 rfl (by kernel_rfl) (by kernel_rfl) ?_
  repeat' first
    | (with_reducible first | refine Jj (fun K hK => ?_) | refine Q6 ?_ | refine Jg ?_ | refine Qw (id := 3) [2, 3] pn32_3BdB (by kernel_rfl) (by kernel_rfl) ?_ | refine Jz ?_ | refine Z1 ?_)
    | ((with_reducible refine Jq (right_calls _ _ _ _ (ha.push _) hlx) ?_); rintro _ _ ⟨rfl, rfl⟩)
    | (simp only [Q4, Jo, reduceIte, J0])
    | ((with_reducible refine hK _ _ ?_); clear hK)
    | (simp only [Q3, RA, Jn, Jm, Jp, Q2, Q0, ev, ofValue, Jt, J0, J3, J2, J4, reduceCtorEq, reduceIte, Ju, Qb, Qa, Jy, aun, Q9, Jk, Jh, Jx, Jw, Ji, Q8, Jf, Q1, Jr, Js, J1, J5, Ja, J9, Jb, J6, J7, Jd, J8, RB, Jv, Je, Wm, hd])
    | (simp (disch := first | omega | (simp only [RO]; done) | assumption) only [RS, X8, X9, Zm, Zn, Yi, Yk, Xs, Xq, Xr, Xp, Qu, Qv, Qq])
    | (simp (disch := (first | omega | (simp only [RO]; done) | assumption | (simp only [RM, Je]; done) | (simp only [RL, Je]; omega))) only [RD, reduceCtorEq, reduceIte, Je, J1, J3, J2, J6, Wm, hd])
  all_goals
    refine Xi (New_calls n _ h8) ?_
    rintro _ H2 ⟨z, rfl, Z, x2⟩
    refine ⟨x2, ?_⟩
    have hz1 : z.one = true := Z.ints.rd.one
    have hcz : z.cells = [z] := AV.cells_one hz1
    repeat' first
      | (with_reducible first | refine Z1 ?_)
      | (simp only [Q3, RA, Jn, Jm, Jp, Q2, Q0, ev, ofValue, Jt, J0, J3, J2, J4, reduceCtorEq, reduceIte, Ju, Qb, Qa, Jy, aun, Q9, Jk, Jh, Jx, Jw, Ji, Q8, Jf, Q1, Jr, Js, J1, J5, Ja, J9, Jb, J6, J7, Jd, J8, RB, Jv, Je, Wm])
    refine Xi (Rows_calls n _ z _ Z.ints (Uh h8)) ?_
    rintro _ H3 ⟨p3, vs3, rfl, M3, x3, _⟩
    refine ⟨x3, ?_⟩
    repeat' first
      | (simp only [Q3, RA, Jn, Jm, Jp, Q2, Q0, ev, ofValue, Jt, J0, J3, J2, J4, reduceCtorEq, reduceIte, Ju, Qb, Qa, Jy, aun, Q9, Jk, Jh, Jx, Jw, Ji, Q8, Jf, Q1, Jr, Js, J1, J5, Ja, J9, Jb, J6, J7, Jd, J8, RB, Jv, Je, Wm])
    refine Jq (Rows_calls n xs a _ (((ha.push _).ext x2).ext x3) hr) ?_
    rintro _ H1 ⟨p1, vs1, rfl, M1, x1, _⟩
    rw [J0q, ent_nul] at M3
    rw [J0q] at M1
    repeat' first
      | ((with_reducible refine Jq (of_calls _ _ hk) ?_); rintro _ _ ⟨rfl, rfl⟩)
      | (simp only [Q3, RA, Jn, Jm, Jp, Q2, Q0, ev, ofValue, Jt, J0, J3, J2, J4, reduceCtorEq, reduceIte, Ju, Qb, Qa, Jy, aun, Q9, Jk, Jh, Jx, Jw, Ji, Q8, Jf, Q1, Jr, Js, J1, J5, Ja, J9, Jb, J6, J7, Jd, J8, RB, Jv, Je, Wm])
    refine Jq (less_calls n p3 p1 vs3 vs1 nul (ent n xs) k _ (M3.ext x1) M1 h8 (fun i j _ _ => nul_30 i j) (fun i j _ _ => e30 i j) (by omega)) ?_
    rintro _ H4 ⟨p, vs, rfl, M, x4, hF⟩
    repeat' first
      | (simp only [Q3, RA, Jn, Jm, Jp, Q2, Q0, ev, ofValue, Jt, J0, J3, J2, J4, reduceCtorEq, reduceIte, Ju, Qb, Qa, Jy, aun, Q9, Jk, Jh, Jx, Jw, Ji, Q8, Jf, Q1, Jr, Js, J1, J5, Ja, J9, Jb, J6, J7, Jd, J8, RB, Jv, Je, Wm])
    refine Jq (Positive_calls n p _ vs _ H4 M (St.zeroF n _) h8 (dif_64 nul_30 e30 (by omega))) ?_
    rintro _ H5 ⟨rfl, O⟩
    repeat' first
      | (with_reducible first | refine Qj ?_)
      | (simp only [Q4, Jo, reduceIte, J0])
      | ((with_reducible refine hK _ _ ?_); clear hK)
      | (simp only [Q3, RA, Jn, Jm, Jp, Q2, Q0, ev, ofValue, Jt, J0, J3, J2, J4, reduceCtorEq, reduceIte, Ju, Qb, Qa, Jy, aun, Q9, Jk, Jh, Jx, Jw, Ji, Q8, Jf, Q1, Jr, Js, J1, J5, Ja, J9, Jb, J6, J7, Jd, J8, RB, Jv, Je, Wm])
    (
     (refine Qg (rs := [.tmp 4]) rfl ?_)
     (simp only [Qx, Qd, Fr.put_some, Fr.put_none, Qe, Qf, Qi, J0, reduceIte])
     (try simp (disch := (first | omega | (simp only [RO]; done) | assumption | (simp only [RM, Je]; done) | (simp only [RL, Je]; omega))) only [RD, reduceCtorEq, reduceIte, Je, J1, J3, J2, J6, Wm]))
    have x5 := Off.toExt x4 O (fun h ⟨i, hi, e⟩ => by rw [e]; exact hF.2 i hi)
    exact ⟨((((Ext.push _ _).trans x2).trans x3).trans x1).trans x5, trivial, rfl⟩
end Go.Proofs.YtfalfmfkifemeaaGreatDoor

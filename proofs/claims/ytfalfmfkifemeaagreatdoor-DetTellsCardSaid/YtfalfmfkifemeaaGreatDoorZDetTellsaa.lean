/- Part 1 of the proof of the law DetTells: lemmas on the model's code, on this program's functions, on numbers. No condition. -/
import Derived.Test.YtfalfmfkifemeaaGreatDoorZGay
import Derived.ProofKit
import Derived.Test.YtfalfmfkifemeaaGreatDoorProg
set_option linter.unusedVariables false
set_option linter.unusedSimpArgs false
open Nat renaming reduceEqDiff → J0, reduceLeDiff → J1, reduceMul → J2, reduceAdd → J3, reduceSub → J4, reduceLT → J5
open Int renaming reduceToNat → J6, reducePow → J7, reduceNeg → J8, reduceLT → J9, reduceLE → Ja, reduceEq → Jb
open And renaming intro → Jc
open Go.IntKind renaming bits → Jd
open Go.PW renaming dig_length → Je
namespace Go.AL
open Go.RowKit
theorem ACalls.calls {P : Program} {f : FuncId} {args : List AV} {H : Hp} {b : Bool} (h : ACalls P f args H fun r _ => r = .bool b) {β : Nat → Bx} {w : World} (A : Args β H w) {vs : Array Value} (hv : VRs β args vs.toList) (hl : AV.lts H.length args) :
    Calls P f vs w fun e w' => e = .returned (.bool b) ∧ Below w.heap.size w w' :=
  (h.2 w w.heap.size β w vs A.rel hv hl).mono fun e w' ⟨β', r, v, H', h1, h2, h3, h4, h5, h6, h7⟩ => by
    subst h2
    simp only [VR] at h5
    subst h5
    exact ⟨h1, h7.below⟩
end Go.AL
namespace Go.PD
theorem iota_congr {r : Nat → Int} : ∀ {cs : List Nat} {F G : List Nat → Int}, (∀ ds, ds.length < cs.length → F ds = G ds) → Zd r cs F = Zd r cs G
  | [], _, _, _ => rfl
  | a :: cs, F, G, h => by
    simp only [Zd]
    rw [h cs (by simp), iota_congr (cs := cs) fun ds hd => h (a :: ds) (by simp; omega)]
theorem D_cons_neg {r : Nat → Int} {rs ss : List (Nat → Int)} (h : ∀ cs, D rs cs = - D ss cs) (cs : List Nat) : D (r :: rs) cs = - D (r :: ss) cs := by
  show Zd r cs (D rs) = - Zd r cs (D ss)
  rw [← iota_neg]
  exact iota_congr fun ds _ => h ds
end Go.PD
namespace Go.PD
theorem Rx {r : Nat → Int} : ∀ {cs : List Nat} {F : List Nat → Int}, (∀ c1 c c2, cs = c1 ++ c :: c2 → r c = 0 ∨ F (c1 ++ c2) = 0) → Zd r cs F = 0
  | [], _, _ => rfl
  | a :: cs, F, h => by
    simp only [Zd]
    have h1 : r a * F cs = 0 := by
      rcases h [] a cs rfl with h | h
      · rw [h]; simp
      · simp only [List.nil_append] at h; rw [h]; simp
    rw [h1, Rx (cs := cs) (F := fun ds => F (a :: ds)) (fun c1 c c2 e => h (a :: c1) c c2 (by rw [e]; rfl))]
    omega
theorem D_count {Z : Nat → Bool} (S : List (Nat → Int)) : ∀ (R : List (Nat → Int)) (cs : List Nat), (∀ r ∈ R, ∀ c, Z c = true → r c = 0) → (cs.filter fun c => !Z c).length < R.length → D (R ++ S) cs = 0
  | [], cs, _, h => by simp at h
  | r :: R, cs, hz, h => by
    show Zd r cs (D (R ++ S)) = 0
    refine Rx fun c1 c c2 e => ?_
    by_cases hc : Z c = true
    · exact .inl (hz r (List.mem_cons_self ..) c hc)
    · refine .inr (D_count S R _ (fun q hq => hz q (List.mem_cons_of_mem _ hq)) ?_)
      rw [e] at h
      simp only [List.filter_append, List.length_append, List.filter_cons, hc, List.length_cons] at h ⊢
      simp only [Bool.not_false, Bool.false_eq_true, not_false_eq_true, Bool.not_eq_true] at h
      simp at h
      omega
theorem D_cons_lin {r : Nat → Int} {rs ss : List (Nat → Int)} {x : Int} (h : ∀ cs, D rs cs = x * D ss cs) (cs : List Nat) : D (r :: rs) cs = x * D (r :: ss) cs := by
  show Zd r cs (D rs) = x * Zd r cs (D ss)
  have := iota_F (r := r) (x := x) (y := 0) (cs := cs) (F := D ss) (G := D ss)
  rw [show (fun ds => x * D ss ds + 0 * D ss ds) = D rs from funext fun ds => by rw [h ds]; omega] at this
  rw [this]; omega
def Qs (rho : Nat → Nat → Int) (k : Nat) : Nat → List (Nat → Int)
  | 0 => []
  | m + 1 => (fun j => d rho k (k + m) j) :: Qs rho k m
theorem Qs_length (rho : Nat → Nat → Int) (k : Nat) : ∀ m, (Qs rho k m).length = m
  | 0 => rfl
  | m + 1 => by simp [Qs, Qs_length rho k m]
theorem Qs_mem {rho : Nat → Nat → Int} {k : Nat} : ∀ {m : Nat} {r : Nat → Int}, r ∈ Qs rho k m → ∃ l, k ≤ l ∧ l < k + m ∧ r = fun j => d rho k l j
  | 0, r, h => by simp [Qs] at h
  | m + 1, r, h => by
    simp only [Qs, List.mem_cons] at h
    rcases h with rfl | h
    · exact ⟨k + m, by omega, by omega, rfl⟩
    · obtain ⟨l, h1, h2, h3⟩ := Qs_mem h; exact ⟨l, h1, by omega, h3⟩
theorem Qs_D (rho : Nat → Nat → Int) (k : Nat) : ∀ m cs, D (Qs rho k m ++ Rs rho k) cs = P rho k ^ m * D (Rs rho (k + m)) cs
  | 0, cs => by simp [Qs]
  | m + 1, cs => by
    have h := red_row (Rs rho k) (Cs k) (rho (k + m)) (Qs rho k m ++ Rs rho k) (fun r hr => List.mem_append_right _ hr) cs
    show D (red (Rs rho k) (Cs k) (rho (k + m)) :: (Qs rho k m ++ Rs rho k)) cs = _
    rw [h, D_cons_lin (Qs_D rho k m), Int.pow_succ]
    show P rho k * _ = _
    rw [show Rs rho (k + (m + 1)) = rho (k + m) :: Rs rho (k + m) from rfl]
    rw [← Int.mul_assoc, Int.mul_comm (P rho k)]
theorem Cs_filter (k : Nat) : ∀ m, ((Cs (k + 1 + m)).filter fun c => !decide (c ≤ k)).length = m
  | 0 => by
    rw [List.length_eq_zero_iff, List.filter_eq_nil_iff]
    intro c hc
    have := W4.1 hc
    simp; omega
  | m + 1 => by
    show (((k + 1 + m) :: Cs (k + 1 + m)).filter (fun c => !decide (c ≤ k))).length = _
    rw [List.filter_cons, if_pos (by simp; omega), List.length_cons, Cs_filter k m]
theorem P_stuck {rho : Nat → Nat → Int} {k n : Nat} (hk : k < n) (hp : P rho k ≠ 0) (h : ∀ l, k ≤ l → l < n → d rho k l k = 0) : P rho n = 0 := by
  obtain ⟨m, rfl⟩ : ∃ m, n = k + 1 + m := ⟨n - (k + 1), by omega⟩
  have h1 := Qs_D rho k (m + 1) (Cs (k + 1 + m))
  rw [D_count (Z := fun c => decide (c ≤ k)) _ _ _ (fun r hr c hc => ?_) (by rw [Cs_filter, Qs_length]; omega)] at h1
  · rw [show k + (m + 1) = k + 1 + m by omega] at h1
    rcases Int.mul_eq_zero.1 h1.symm with h2 | h2
    · exact absurd h2 (Int.pow_ne_zero hp)
    · exact h2
  · obtain ⟨l, h2, h3, rfl⟩ := Qs_mem hr
    have hc := of_decide_eq_true hc
    rcases Nat.lt_or_ge c k with e | e
    · exact d_col e
    · obtain rfl : c = k := by omega
      exact h l h2 (by omega)
theorem D_trans (r s : Nat → Int) (t : List (Nat → Int)) : ∀ (q : List (Nat → Int)) (cs : List Nat), D (r :: q ++ s :: t) cs = - D (s :: q ++ r :: t) cs
  | [], cs => Rp r s t cs
  | x :: q, cs => by
    have h1 : D (r :: x :: (q ++ s :: t)) cs = - D (x :: r :: (q ++ s :: t)) cs := Rp ..
    have h2 : D (x :: (r :: q ++ s :: t)) cs = - D (x :: (s :: q ++ r :: t)) cs := D_cons_neg (D_trans r s t q) cs
    have h3 : D (s :: x :: (q ++ r :: t)) cs = - D (x :: s :: (q ++ r :: t)) cs := Rp ..
    simp only [List.cons_append] at h1 h2 h3 ⊢
    rw [h1, h2, h3]
theorem swr_self (rho : Nat → Nat → Int) (k : Nat) : swr rho k k = rho := by
  funext l; unfold swr; split
  · rename_i h; rw [h]
  · rfl
theorem swr_mid {rho : Nat → Nat → Int} {k i : Nat} (hki : k < i) : ∀ m, k + 1 + m ≤ i → ∃ q, Rs rho (k + 1 + m) = q ++ rho k :: Rs rho k ∧ Rs (swr rho k i) (k + 1 + m) = q ++ rho i :: Rs rho k
  | 0, h => ⟨[], rfl, by
      show swr rho k i k :: Rs (swr rho k i) k = _
      rw [swr_low (Nat.le_refl _) (by omega)]
      unfold swr; rw [if_pos rfl]; rfl⟩
  | m + 1, h => by
    obtain ⟨q, h1, h2⟩ := swr_mid hki m (by omega)
    refine ⟨rho (k + 1 + m) :: q, ?_, ?_⟩
    · show rho (k + 1 + m) :: Rs rho (k + 1 + m) = _
      rw [h1]; rfl
    · show swr rho k i (k + 1 + m) :: Rs (swr rho k i) (k + 1 + m) = _
      rw [h2]; unfold swr; rw [if_neg (by omega), if_neg (by omega)]; rfl
theorem D_swr {rho : Nat → Nat → Int} {k i : Nat} (hki : k < i) : ∀ m cs, D (Rs (swr rho k i) (i + 1 + m)) cs = - D (Rs rho (i + 1 + m)) cs
  | 0, cs => by
    obtain ⟨q, h1, h2⟩ := swr_mid (rho := rho) hki (i - (k + 1)) (by omega)
    rw [show k + 1 + (i - (k + 1)) = i by omega] at h1 h2
    show D (swr rho k i i :: Rs (swr rho k i) i) cs = - D (rho i :: Rs rho i) cs
    rw [h1, h2]
    unfold swr; rw [if_neg (by omega), if_pos rfl]
    exact D_trans (rho k) (rho i) (Rs rho k) q cs
  | m + 1, cs => by
    show D (swr rho k i (i + 1 + m) :: Rs (swr rho k i) (i + 1 + m)) cs = - D (rho (i + 1 + m) :: Rs rho (i + 1 + m)) cs
    rw [D_cons_neg (D_swr hki m)]
    unfold swr; rw [if_neg (by omega), if_neg (by omega)]
theorem P_swr {rho : Nat → Nat → Int} {k i n : Nat} (hki : k ≤ i) (hi : i < n) : P (swr rho k i) n = if k = i then P rho n else - P rho n := by
  by_cases e : k = i
  · subst e; rw [if_pos rfl, swr_self]
  · rw [if_neg e]
    obtain ⟨m, rfl⟩ : ∃ m, n = i + 1 + m := ⟨n - (i + 1), by omega⟩
    exact D_swr (by omega) m _
inductive Reach (a : Nat → Nat → Int) (n : Nat) : Nat → (Nat → Nat → Int) → Bool → Prop
  | start : Reach a n 0 a false
  | step {k : Nat} {rho : Nat → Nat → Int} {m : Bool} {i : Nat} (h : Reach a n k rho m) (hk : k ≤ i) (hi : i < n) (hd : d rho k i k ≠ 0) : Reach a n (k + 1) (swr rho k i) (m != decide (i ≠ k))
theorem Reach.ne {a : Nat → Nat → Int} {n k : Nat} {rho : Nat → Nat → Int} {m : Bool} (h : Reach a n k rho m) : P rho k ≠ 0 := by
  cases h with
  | start => rw [Kz]; decide
  | step h hk hi hd => rw [Kf, d_swr hk, if_pos rfl]; exact hd
theorem Reach.det {a : Nat → Nat → Int} {n k : Nat} {rho : Nat → Nat → Int} {m : Bool} (h : Reach a n k rho m) : P rho n = if m then - P a n else P a n := by
  induction h with
  | start => rfl
  | step h hk hi hd ih =>
    rename_i k rho m i
    rw [P_swr hk hi, ih]
    by_cases e : i = k
    · subst e; simp
    · rw [if_neg (fun h => e h.symm)]
      cases m <;> simp [e]
theorem Reach.bound {a : Nat → Nat → Int} {n k : Nat} {rho : Nat → Nat → Int} {m : Bool} (h : Reach a n k rho m) {B : Nat} (hB : ∀ i j, (a i j).natAbs ≤ B) : ∀ i j, (rho i j).natAbs ≤ B := by
  induction h with
  | start => exact hB
  | step h hk hi hd ih =>
    intro l j
    unfold swr
    split
    · exact ih _ _
    · split <;> exact ih _ _
theorem Reach.stuck {a : Nat → Nat → Int} {n k : Nat} {rho : Nat → Nat → Int} {m : Bool} (h : Reach a n k rho m) (hk : k < n) (hz : ∀ l, k ≤ l → l < n → d rho k l k = 0) : P a n = 0 := by
  have h1 := h.det
  rw [P_stuck hk h.ne hz] at h1
  cases m <;> simp at h1 <;> omega
end Go.PD
namespace Go.Proofs.YtfalfmfkifemeaaGreatDoor
open Go.AL
theorem J0b : Tryz.prog.underlying 30 = some (.slice 24) := by kernel_rfl
theorem agg30 : Xm Tryz.prog 30 = some false := by kernel_rfl
theorem size30 : Xg Tryz.prog 30 = some 1 := by kernel_rfl
theorem bytes30 : Xn Tryz.prog 30 = some 24 := by kernel_rfl
theorem zero30 : Z5 Tryz.prog 30 = some (.nilS) := by kernel_rfl
theorem lenS30 (h o n c : Nat) : Qy Tryz.prog .len #[30] [.sl h o n c] = some (.int .i64 n) := by simp [Qy, J0b]
theorem lenG30 (h o n z : Nat) : Qy Tryz.prog .len #[30] [.sg h o n z] = some (.int .i64 n) := by simp [Qy, J0b]
theorem lenN30 : Qy Tryz.prog .len #[30] [.nilS] = some (.int .i64 0) := by simp [Qy, J0b]
theorem six30 {h o n c : Nat} {l : IntKind} {j : Int} (h0 : 0 ≤ j) (h1 : j < (n : Int)) : X3 Tryz.prog 30 (.sl h o n c) (.int l j) = some (.ptr h (o + j.toNat * 2)) := at_sl J0b size24 h0 h1
theorem gix30 {h o n : Nat} {l : IntKind} {j : Int} (h0 : 0 ≤ j) (h1 : j < (n : Int)) : X3 Tryz.prog 30 (.sg h o n 2) (.int l j) = some (.ptr h (o + j.toNat * 2)) := at_sg J0b size24 h0 h1
theorem eqSl30 (h o n c : Nat) : Xk Tryz.prog Op.maxDepth 30 (.sl h o n c) .nilS = some false := Vg J0b
theorem eqSg30 (h o n c : Nat) : Xk Tryz.prog Op.maxDepth 30 (.sg h o n c) .nilS = some false := Vh J0b
theorem eqSn30 : Xk Tryz.prog Op.maxDepth 30 .nilS .nilS = some true := Yr J0b
theorem tyb30 : type_of% (Jc @J0b (Jc @agg30 (Jc @size30 (Jc @bytes30 (Jc @zero30 (Jc @lenS30 (Jc @lenG30 (Jc @lenN30 (Jc @eqSl30 (Jc @eqSg30 (@eqSn30))))))))))) := Jc @J0b (Jc @agg30 (Jc @size30 (Jc @bytes30 (Jc @zero30 (Jc @lenS30 (Jc @lenG30 (Jc @lenN30 (Jc @eqSl30 (Jc @eqSg30 (@eqSn30))))))))))
end Go.Proofs.YtfalfmfkifemeaaGreatDoor
namespace Go.Proofs.YtfalfmfkifemeaaGreatDoor
open Go.AL
set_option maxRecDepth 8000
theorem Err.ne {H : Hp} {v : AV} {op : ByteArray} {n : Int} (h : Err H v op n) : v ≠ .nilI := by
  obtain ⟨k, rfl, g⟩ := h
  intro e; cases e
end Go.Proofs.YtfalfmfkifemeaaGreatDoor
namespace Go.Proofs.YtfalfmfkifemeaaGreatDoor
open Go.AL Go.PW
theorem J1c : type_of% (Jc @Xd (Jc @X1 (Jc @Z3 (Jc @Z2 (Jc @Yo (@Vw)))))) := Jc @Xd (Jc @X1 (Jc @Z3 (Jc @Z2 (Jc @Yo (@Vw)))))
abbrev pn47_5MaF : Plan := (.one 0 (.one 1 (.one 2 (.one 3 (.one 4 (.one 5 (.one 6 (.one 7 (.one 8 (.one 9 (.one 10 (.one 11 (.one 12 (.one 13 (.one 14 (.one 15 .nil))))))))))))))))
set_option maxRecDepth 8000
theorem bne_int (i k : Nat) : ((i : Int) != (k : Int)) = decide (¬ i = k) := by
  by_cases e : i = k
  · simp [e]
  · have : (i : Int) ≠ k := by omega
    simp [e, this]
set_option maxHeartbeats 4000000 in
theorem turn_calls (p k : Nat) (vs : List AV) (rss : List (List Int)) (wd : Nat) (H : Hp) (M : Mat H p vs rss) (hk : k < rss.length) (hw : ∀ i, i < rss.length → (rss.getD i []).length = wd) (hkw : k < wd) (hn : rss.length < 1000000) (hwn : wd < 1000000)
    (hin : ∀ i, k ≤ i → i < rss.length → In ((rss.getD i []).getD k 0)) :
    ACalls Tryz.prog 47 [.sl p 0 rss.length rss.length, .int .i64 (k : Int)] H fun r H' =>
      (∃ i, k ≤ i ∧ i < rss.length ∧ (rss.getD i []).getD k 0 ≠ 0 ∧ (∀ l, k ≤ l → l < i → (rss.getD l []).getD k 0 = 0) ∧ r = .tup [.bool true, .bool (decide (i ≠ k))] ∧ Mat H' p (swp .nilS vs k i) (swp [] rss k i) ∧ Off (fun h => h = p) H H')
      ∨ ((∀ l, k ≤ l → l < rss.length → (rss.getD l []).getD k 0 = 0) ∧ r = .tup [.bool false, .bool false] ∧ Mat H' p vs rss ∧ Off (fun h => h = p) H H') := by
  have lp := Qr M.out
  have hlv := M.len
  refine Q7 Tryz.func47 rfl (by kernel_rfl) (by kernel_rfl) ?_
  repeat' first
    | (with_reducible first | refine Jj (fun K hK => ?_) | refine Qc ?_ | refine Jg ?_)
    | (simp only [Q4, Jo, reduceIte, J0])
    | ((with_reducible refine hK _ _ ?_); clear hK)
    | (simp only [Q3, RA, Jn, Jm, Jp, Q2, Q0, ev, ofValue, Jt, J0, J3, J2, J4, reduceCtorEq, reduceIte, Ju, Qb, Qa, Jy, aun, Q9, Jk, Jh, Jx, Jw, Ji, Q8, Jf, Q1, Jr, Js, J1, J5, Ja, J9, Jb, J6, J7, Jd, J8, RB, Jv, Je, J1c])
  refine X2 (fun m fr' H1 => ∃ i : Nat, m = rss.length - i ∧ k ≤ i ∧ i ≤ rss.length ∧ fr' 0 = .sl p 0 rss.length rss.length ∧ fr' 1 = .int .i64 (k : Int) ∧ fr' 6 = .int .i64 (i : Int) ∧ (∀ l, k ≤ l → l < i → (rss.getD l []).getD k 0 = 0) ∧ H = H1) (m := rss.length - k)
    ⟨k, by omega, by omega, by omega, rfl, rfl, rfl, fun l h1 h2 => by omega, rfl⟩ ?_
  rintro m fr' H1 ⟨i, rfl, hki, hi, k0, k1, k6, hz, rfl⟩
  have e1 : IntKind.i64.wrap ((i : Int) + 1) = ((i + 1 : Nat) : Int) := by rw [Q5 (by omega) (by omega)]; omega
  by_cases hlt : i < rss.length
  · have a1 := M.at0 hlt
    have a2 := M.idx hlt (k := .i64) (j := (k : Int)) (by omega) (by rw [hw i hlt]; omega)
    have a3 := M.get hlt (j := k) (by rw [hw i hlt]; omega)
    rw [Int.toNat_natCast] at a2
    have hs := sign_calls ((rss.getD i []).getD k 0) H (hin i hki hlt)
    by_cases hx : (rss.getD i []).getD k 0 = 0
    · rw [hx] at a3 hs
      repeat' first
        | (with_reducible first | refine Jj (fun K hK => ?_) | refine Qc ?_ | refine Q6 ?_ | refine Jg ?_ | refine Jz ?_)
        | ((with_reducible refine Jq (hs) ?_); rintro _ _ ⟨rfl, rfl⟩)
        | (with_reducible refine X5 (fun hc => ?_) (fun hc => ?_) <;> (try simp only [RC] at hc) <;> (try (exfalso; first | omega | contradiction)))
        | (simp only [Q4, Jo, reduceIte, J0])
        | ((with_reducible refine hK _ _ ?_); clear hK)
        | (simp only [Q3, RA, Jn, Jm, Jp, Q2, Q0, ev, ofValue, Jt, J0, J3, J2, J4, reduceCtorEq, reduceIte, Ju, Qb, Qa, Jy, aun, Q9, Jk, Jh, Jx, Jw, Ji, Q8, Jf, Q1, Jr, Js, J1, J5, Ja, J9, Jb, J6, J7, Jd, J8, RB, Jv, Je, J1c, k0, k1, k6, a1, a2, a3, e1, Int.sign_zero])
        | (simp (disch := first | omega | (simp only [RO]; done) | assumption) only [RS, Zm, Zn, Yi, Yk, Xs, Xq, Xr, Xp])
      refine ⟨_, by omega, i + 1, rfl, by omega, by omega, rfl, fun l h1 h2 => ?_⟩
      by_cases e : l = i
      · rw [e]; exact hx
      · exact hz l h1 (by omega)
    · have b1 := M.at0 hk
      have hv1 : (vs.getD k .nilS).one = true := (M.row k hk).1.one
      have hv2 : (vs.getD i .nilS).one = true := (M.row i hlt).1.one
      have o1 := J1i (t := i) (x := vs.getD k .nilS) M.out (by omega) hv1
      have o2 := J1i (H := H.set p ⟨vs.set i (vs.getD k .nilS), .own, 38⟩) (p := p) (t := k) (vs := vs.set i (vs.getD k .nilS)) (x := vs.getD i .nilS) (by rw [Qk lp, if_pos rfl]) (by rw [List.length_set]; omega) hv2
      have hs0 : (((rss.getD i []).getD k 0).sign = 0) = False := eq_false (fun h => hx (Int.sign_eq_zero_iff_zero.mp h))
      repeat' first
        | (with_reducible first | refine Jj (fun K hK => ?_) | refine Qc ?_ | refine Q6 ?_ | refine Qj ?_ | refine Jg ?_ | refine Qw (id := 5) [] pn47_5MaF (by kernel_rfl) (by kernel_rfl) ?_ | refine Jz ?_)
        | ((with_reducible refine Jq (hs) ?_); rintro _ _ ⟨rfl, rfl⟩)
        | (with_reducible refine X5 (fun hc => ?_) (fun hc => ?_) <;> (try simp only [RC] at hc) <;> (try (exfalso; first | omega | contradiction)))
        | (simp only [Q4, Jo, reduceIte, J0])
        | ((with_reducible refine hK _ _ ?_); clear hK)
        | (simp only [Q3, RA, Jn, Jm, Jp, Q2, Q0, ev, ofValue, Jt, J0, J3, J2, J4, reduceCtorEq, reduceIte, Ju, Qb, Qa, Jy, aun, Q9, Jk, Jh, Jx, Jw, Ji, Q8, Jf, Q1, Jr, Js, J1, J5, Ja, J9, Jb, J6, J7, Jd, J8, RB, Jv, Je, J1c, k0, k1, k6, a1, a2, a3, b1, e1, o1, o2, hs0])
        | (simp (disch := first | omega | (simp only [RO]; done) | assumption) only [RS, Zm, Zn, Yi, Yk, Xs, Xq, Xr, Xp])
      all_goals
        (
         (refine Qg (rs := [.tmp 4, .tmp 5]) rfl ?_)
         (simp only [Qx, Qd, Fr.put_some, Fr.put_none, Qe, Qf, Qi, J0, reduceIte])
         (try simp (disch := (first | omega | (simp only [RO]; done) | assumption | (simp only [RM, Je]; done) | (simp only [RL, Je]; omega))) only [RD, reduceCtorEq, reduceIte, Je, J1, J3, J2, J6, J1c]))
      all_goals
        refine .inl ⟨i, hki, hlt, hx, hz, ?_, ?_, ?_⟩
        · rw [bne_int]
        · rw [List.set_set]; exact M.swap hk hlt
        · rw [List.set_set]; exact (Off.refl _ _).set lp _ (.inl rfl)
  · obtain rfl : i = rss.length := by omega
    repeat' first
      | (with_reducible first | refine Jj (fun K hK => ?_) | refine Qz ?_ | refine Qj ?_ | refine Jg ?_ | refine Jz ?_)
      | (with_reducible refine X5 (fun hc => ?_) (fun hc => ?_) <;> (try simp only [RC] at hc) <;> (try (exfalso; first | omega | contradiction)))
      | (simp only [Q4, Jo, reduceIte, J0])
      | ((with_reducible refine hK _ _ ?_); clear hK)
      | (clear hK; (with_reducible refine hK _ _ ?_); clear hK)
      | (simp only [Q3, RA, Jn, Jm, Jp, Q2, Q0, ev, ofValue, Jt, J0, J3, J2, J4, reduceCtorEq, reduceIte, Ju, Qb, Qa, Jy, aun, Q9, Jk, Jh, Jx, Jw, Ji, Q8, Jf, Q1, Jr, Js, J1, J5, Ja, J9, Jb, J6, J7, Jd, J8, RB, Jv, Je, J1c, k0, k1, k6])
    (
     (refine Qg (rs := [.tmp 4, .tmp 5]) rfl ?_)
     (simp only [Qx, Qd, Fr.put_some, Fr.put_none, Qe, Qf, Qi, J0, reduceIte])
     (try simp (disch := (first | omega | (simp only [RO]; done) | assumption | (simp only [RM, Je]; done) | (simp only [RL, Je]; omega))) only [RD, reduceCtorEq, reduceIte, Je, J1, J3, J2, J6, J1c]))
    exact .inr ⟨hz, M, Off.refl _ _⟩
end Go.Proofs.YtfalfmfkifemeaaGreatDoor
namespace Go.Proofs.YtfalfmfkifemeaaGreatDoor
open Go.AL Go.PW Go.PD
theorem Vc : type_of% (Jc @Z8 (Jc @Xd (Jc @Xz (Jc @Ng (Jc @Xx (Jc @Xw (Jc @Xv (Jc @X1 (Jc @Z3 (Jc @Z2 (Jc @Yd (Jc @Yc (Jc @Yo (Jc @Rr (@Vw))))))))))))))) := Jc @Z8 (Jc @Xd (Jc @Xz (Jc @Ng (Jc @Xx (Jc @Xw (Jc @Xv (Jc @X1 (Jc @Z3 (Jc @Z2 (Jc @Yd (Jc @Yc (Jc @Yo (Jc @Rr (@Vw))))))))))))))
set_option maxRecDepth 8000
set_option maxHeartbeats 4000000 in
theorem Det_calls (n : Nat) (xs : List Int) (a : AV) (H : Hp) (ha : Ints H .i64 a xs) (hr : Right n xs) : ACalls Tryz.prog 13 [Ya n a] H fun r H' => r = .tup [W (P (ent n xs) n), .nilI] ∧ H = H' := by
  refine ACalls.drop (R := fun r => r = .tup [W (P (ent n xs) n), .nilI]) ?_
  have ha1 : a.one = true := ha.rd.one
  have hc : a.cells = [a] := AV.cells_one ha1
  obtain ⟨h8, hlx⟩ := hr.len
  have hd : decide (Right n xs) = true := decide_eq_true hr
  have hB := Vi hr
  have hof := fun H0 => of_calls 1 H0 (by omega)
  refine Q7 Tryz.func13 rfl (by kernel_rfl) (by kernel_rfl) ?_
  repeat' first
    | (with_reducible first | refine Jj (fun K hK => ?_) | refine Q6 ?_ | refine Jg ?_ | refine Jz ?_)
    | ((with_reducible refine Jq (right_calls _ _ _ _ ((ha.push _).push _) hlx) ?_); rintro _ _ ⟨rfl, rfl⟩)
    | (simp only [Q4, Jo, reduceIte, J0])
    | ((with_reducible refine hK _ _ ?_); clear hK)
    | (simp only [Q3, RA, Jn, Jm, Jp, Q2, Q0, ev, ofValue, Jt, J0, J3, J2, J4, reduceCtorEq, reduceIte, Ju, Qb, Qa, Jy, aun, Q9, Jk, Jh, Jx, Jw, Ji, Q8, Jf, Q1, Jr, Js, J1, J5, Ja, J9, Jb, J6, J7, Jd, J8, RB, Jv, Je, Vc, hd])
    | (simp (disch := first | omega | (simp only [RO]; done) | assumption) only [RS, X8, X9, Zm, Zn, Yi, Yk, Xs, Xq, Xr, Xp, Qu, Qv, Qq])
    | (simp (disch := (first | omega | (simp only [RO]; done) | assumption | (simp only [RM, Je]; done) | (simp only [RL, Je]; omega))) only [RD, reduceCtorEq, reduceIte, Je, J1, J3, J2, J6, Vc, hd])
  refine Jq (Rows_calls n xs a _ ((ha.push _).push _) hr) ?_
  rintro r H1 ⟨p, vs, rfl, M, x0, hF⟩
  have l1 := x0.len
  repeat' first
    | (with_reducible first | refine Jj (fun K hK => ?_) | refine Qc ?_ | refine Jg ?_)
    | ((with_reducible refine Jq (hof _) ?_); rintro _ _ ⟨rfl, rfl⟩)
    | (simp only [Q4, Jo, reduceIte, J0])
    | ((with_reducible refine hK _ _ ?_); clear hK)
    | (simp only [Q3, RA, Jn, Jm, Jp, Q2, Q0, ev, ofValue, Jt, J0, J3, J2, J4, reduceCtorEq, reduceIte, Ju, Qb, Qa, Jy, aun, Q9, Jk, Jh, Jx, Jw, Ji, Q8, Jf, Q1, Jr, Js, J1, J5, Ja, J9, Jb, J6, J7, Jd, J8, RB, Jv, Je, Vc])
    | (simp (disch := (first | omega | (simp only [RO]; done) | assumption | (simp only [RM, Je]; done) | (simp only [RL, Je]; omega))) only [RD, reduceCtorEq, reduceIte, Je, J1, J3, J2, J6, Vc])
  have lp := Qr M.out
  have g2 : Qt H1 (H.length + 1) = some (Wb 0) := Qh (Qo (by rw [Qm])) x0
  have hr0 : Kx n xs = Kx n xs := rfl
  have hrl := Kn n xs
  refine X2 (fun m fr' H2 => ∃ (k : Nat) (rho : Nat → Nat → Int) (mn : Bool) (vs : List AV) (rss : List (List Int)), m = n - k ∧ k ≤ n ∧ fr' 2 = .ptr (H.length + 1) 0 ∧ fr' 3 = .nilI ∧ fr' 4 = .sl p 0 n n ∧ fr' 5 = .ptr H1.length 0 ∧ fr' 6 = .bool mn ∧ fr' 20 = .int .i64 (n : Int) ∧ fr' 21 = .int .i64 (k : Int) ∧
      Go.PD.Reach (ent n xs) n k rho mn ∧ St n k rho rss ∧ Mat H2 p vs rss ∧ (∀ i, i < n → H.length + 2 ≤ (vs.getD i .nilS).hd ∧ (vs.getD i .nilS).hd < H1.length) ∧ Qt H2 H1.length = some (Wb (P rho k)) ∧ Qt H2 (H.length + 1) = some (Wb 0) ∧ Ext H H2) (m := n)
    ⟨0, ent n xs, false, vs, Kx n xs, by omega, by omega, rfl, rfl, rfl, rfl, rfl, rfl, rfl, .start, St.zero n xs, M.push _, fun i hi => ⟨by have := hF.2 i hi; simpa using this, Qr (M.row i (by omega)).2⟩, Qo rfl, by rw [Qp (Qr g2)]; exact g2, (((Ext.push _ _).pushed _).trans x0).pushed _⟩ ?_
  have hpq : p < H1.length := lp
  have hpl : H.length + 2 ≤ p := by have := hF.1; simpa using this
  clear M x0 hF g2
  rintro m fr' H2 ⟨k, rho, mn, vs, rss, rfl, hk, k2, k3, k4, k5, k6, k20, k21, R, S, M, hv, g5, g2, x2⟩
  have e1 : IntKind.i64.wrap ((k : Int) + 1) = ((k + 1 : Nat) : Int) := by rw [Q5 (by omega) (by omega)]; omega
  have l5 := Qr g5
  have l2 := Qr g2
  by_cases hlt : k < n
  · have ht := turn_calls p k vs rss n H2 M (by rw [S.len]; exact hlt) (fun i hi => S.wid i (by rw [S.len] at hi; exact hi)) hlt (by rw [S.len]; omega) (by omega) (fun i h1 h2 => by rw [S.len] at h2; rw [S.get i k h1 h2 hlt]; exact Nd (d_small (R.bound hB) (by omega) _ _))
    rw [S.len] at ht
    repeat' first
      | (with_reducible first | refine Jj (fun K hK => ?_) | refine Qc ?_ | refine Q6 ?_ | refine Jg ?_ | refine Jz ?_)
      | (with_reducible refine X5 (fun hc => ?_) (fun hc => ?_) <;> (try simp only [RC] at hc) <;> (try (exfalso; first | omega | contradiction)))
      | (simp only [Q4, Jo, reduceIte, J0])
      | ((with_reducible refine hK _ _ ?_); clear hK)
      | (simp only [Q3, RA, Jn, Jm, Jp, Q2, Q0, ev, ofValue, Jt, J0, J3, J2, J4, reduceCtorEq, reduceIte, Ju, Qb, Qa, Jy, aun, Q9, Jk, Jh, Jx, Jw, Ji, Q8, Jf, Q1, Jr, Js, J1, J5, Ja, J9, Jb, J6, J7, Jd, J8, RB, Jv, Je, Vc, k2, k3, k4, k5, k6, k20, k21])
    refine Jq ht ?_
    rintro r H3 (⟨i, hki, hin, hne, _, rfl, M3, O3⟩ | ⟨hz, rfl, M3, O3⟩)
    · have x3 : Ext H H3 := Off.toExt x2 O3 (fun h e => by omega)
      have g5' : Qt H3 H1.length = some (Wb (P rho k)) := by rw [O3.2 _ l5 (by omega)]; exact g5
      have g2' : Qt H3 (H.length + 1) = some (Wb 0) := by rw [O3.2 _ l2 (by omega)]; exact g2
      have R' := R.step hki hin (by rw [← S.get i k hki hin hlt]; exact hne)
      have S' := S.swap hki hin
      have hPk : P rho k = P (swr rho k i) k := by unfold P; rw [swr_low (Nat.le_refl _) hki]
      have hv' : ∀ l, l < n → H.length + 2 ≤ ((swp .nilS vs k i).getD l .nilS).hd ∧ ((swp .nilS vs k i).getD l .nilS).hd < H1.length := by
        intro l hl
        have := M.len
        have := S.len
        rw [Kr _ _ _ _ _ (by omega) (by omega)]
        split
        · exact hv i hin
        · split
          · exact hv k hlt
          · exact hv l hl
      have hne1 := R.ne
      rw [hPk] at g5' hne1
      generalize swr rho k i = rho' at R' S' g5' hne1
      generalize swp .nilS vs k i = vs' at M3 hv'
      generalize swp [] rss k i = rss' at M3 S'
      have hB' := R'.bound hB
      have hst := Step_calls p k vs' rss' (P rho' k) false n H3 M3 (by rw [S'.len]; exact hlt) (fun i hi => S'.wid i (by rw [S'.len] at hi; exact hi)) hlt (by rw [S'.len]; omega) (by omega) (Nd (Kp hB' (by omega))) hne1 (fun i j h1 h2 h3 h4 => S'.fits h8 hlt hne1 hB' i j h1 h2 h3 h4)
      rw [S'.len] at hst
      have l5' := Qr g5'
      have l2' := Qr g2'
      repeat' first
        | (with_reducible first | refine Jj (fun K hK => ?_) | refine Q6 ?_ | refine Jg ?_ | refine Jz ?_)
        | (simp only [Q4, Jo, reduceIte, J0])
        | ((with_reducible refine hK _ _ ?_); clear hK)
        | (simp only [Q3, RA, Jn, Jm, Jp, Q2, Q0, ev, ofValue, Jt, J0, J3, J2, J4, reduceCtorEq, reduceIte, Ju, Qb, Qa, Jy, aun, Q9, Jk, Jh, Jx, Jw, Ji, Q8, Jf, Q1, Jr, Js, J1, J5, Ja, J9, Jb, J6, J7, Jd, J8, RB, Jv, Je, Vc, k2, k3, k4, k5, k6, k20, k21, g5'])
        | (simp (disch := (first | omega | (simp only [RO]; done) | assumption | (simp only [RM, Je]; done) | (simp only [RL, Je]; omega))) only [RD, reduceCtorEq, reduceIte, Je, J1, J3, J2, J6, Vc, k2, k3, k4, k5, k6, k20, k21, g5'])
      refine Jq hst ?_
      rintro r H4 ⟨rfl, M4, O4⟩
      have x4 : Ext H H4 := Off.toExt x3 O4 (fun h ⟨i, hi, e⟩ => by have := (hv' i hi).1; omega)
      have g5'' : Qt H4 H1.length = some (Wb (P rho' k)) := by rw [O4.2 _ l5' (fun ⟨i, hi, e⟩ => by have := (hv' i hi).2; omega)]; exact g5'
      have g2'' : Qt H4 (H.length + 1) = some (Wb 0) := by rw [O4.2 _ l2' (fun ⟨i, hi, e⟩ => by have := (hv' i hi).1; omega)]; exact g2'
      have l5'' := Qr g5''
      have S4 := S'.step hlt hne1
      have hl4 : k < (J0h rss' k (P rho' k) false).length := by rw [S4.len]; exact hlt
      have hrk : (J0h rss' k (P rho' k) false).getD k [] = rss'.getD k [] := by unfold J0h; rw [Us _ _ _ _ _ _ (by rw [S'.len]; exact hlt), if_neg (fun h => h.2.1 rfl)]
      have b1 := M4.at0 hl4
      have b2 := M4.idx hl4 (k := .i64) (j := (k : Int)) (by omega) (by rw [S4.wid k hlt]; omega)
      have b3 := M4.get hl4 (j := k) (by rw [S4.wid k hlt]; exact hlt)
      rw [Int.toNat_natCast] at b2
      rw [hrk, S'.get k k (Nat.le_refl _) hlt hlt, ← Kf (rho := rho')] at b3
      repeat' first
        | (with_reducible first | refine Jg ?_)
        | (simp only [Q4, Jo, reduceIte, J0])
        | ((with_reducible refine hK _ _ ?_); clear hK)
        | (simp only [Q3, RA, Jn, Jm, Jp, Q2, Q0, ev, ofValue, Jt, J0, J3, J2, J4, reduceCtorEq, reduceIte, Ju, Qb, Qa, Jy, aun, Q9, Jk, Jh, Jx, Jw, Ji, Q8, Jf, Q1, Jr, Js, J1, J5, Ja, J9, Jb, J6, J7, Jd, J8, RB, Jv, Je, Vc, k2, k3, k4, k5, k6, k20, k21, b1, b2, b3, g5'', e1])
        | (simp (disch := first | omega | (simp only [RO]; done) | assumption) only [RS, X8, X9, Zm, Zn, Yi, Yk, Xs, Xq, Xr, Xp, Qu, Qv, Qq])
        | (simp (disch := (first | omega | (simp only [RO]; done) | assumption | (simp only [RM, Je]; done) | (simp only [RL, Je]; omega))) only [RD, reduceCtorEq, reduceIte, Je, J1, J3, J2, J6, Vc, k2, k3, k4, k5, k6, k20, k21, b1, b2, b3, g5'', e1])
      refine ⟨_, by omega, k + 1, rho', _, vs', _, rfl, by omega, rfl, rfl, R', S4, M4.other l5'' _ ?_ (fun i hi => ?_), hv', ?_, ?_, x4.set (by have := x2.len; omega) _⟩
      · have := hpq; omega
      · rw [S4.len] at hi; have := (hv' i hi).2; omega
      · rw [Qk l5'', if_pos rfl]
      · rw [Qk l5'', if_neg (by omega)]; exact g2''
    · have x3 : Ext H H3 := Off.toExt x2 O3 (fun h e => by omega)
      have g2' : Qt H3 (H.length + 1) = some (Wb 0) := by rw [O3.2 _ l2 (by omega)]; exact g2
      have hP := R.stuck hlt (fun l h1 h2 => by rw [← S.get l k h1 h2 hlt]; exact hz l h1 h2)
      repeat' first
        | (with_reducible first | refine Jj (fun K hK => ?_) | refine Qj ?_ | refine Jg ?_ | refine Jz ?_)
        | (simp only [Q4, Jo, reduceIte, J0])
        | ((with_reducible refine hK _ _ ?_); clear hK)
        | (simp only [Q3, RA, Jn, Jm, Jp, Q2, Q0, ev, ofValue, Jt, J0, J3, J2, J4, reduceCtorEq, reduceIte, Ju, Qb, Qa, Jy, aun, Q9, Jk, Jh, Jx, Jw, Ji, Q8, Jf, Q1, Jr, Js, J1, J5, Ja, J9, Jb, J6, J7, Jd, J8, RB, Jv, Je, Vc, k2, k3, k4, k5, k6, k20, k21, g2'])
        | (simp (disch := (first | omega | (simp only [RO]; done) | assumption | (simp only [RM, Je]; done) | (simp only [RL, Je]; omega))) only [RD, reduceCtorEq, reduceIte, Je, J1, J3, J2, J6, Vc, k2, k3, k4, k5, k6, k20, k21, g2'])
      have l2' := Qr g2'
      (
       (refine Qg (rs := [.cell 2 33, .tmp 3]) rfl ?_)
       (simp only [Qx, Qd, Fr.put_some, Fr.put_none, Qe, Qf, Qi, J0, reduceIte, k2, Qk l2'])
       (try simp (disch := (first | omega | (simp only [RO]; done) | assumption | (simp only [RM, Je]; done) | (simp only [RL, Je]; omega))) only [RD, reduceCtorEq, reduceIte, Je, J1, J3, J2, J6, Vc, k2, Qk l2']))
      exact ⟨x3.set (by omega) _, Nu _ _ (v := .nilI) trivial, by rw [hP]⟩
  · obtain rfl : n = k := by omega
    have hdet := R.det
    cases mn
    · skip
      repeat' first
        | (with_reducible first | refine Jj (fun K hK => ?_) | refine Q6 ?_ | refine Qz ?_ | refine Qj ?_ | refine Jg ?_ | refine Jz ?_)
        | (with_reducible refine X5 (fun hc => ?_) (fun hc => ?_) <;> (try simp only [RC] at hc) <;> (try (exfalso; first | omega | contradiction)))
        | (simp only [Q4, Jo, reduceIte, J0])
        | ((with_reducible refine hK _ _ ?_); clear hK)
        | (clear hK; (with_reducible refine hK _ _ ?_); clear hK)
        | (simp only [Q3, RA, Jn, Jm, Jp, Q2, Q0, ev, ofValue, Jt, J0, J3, J2, J4, reduceCtorEq, reduceIte, Ju, Qb, Qa, Jy, aun, Q9, Jk, Jh, Jx, Jw, Ji, Q8, Jf, Q1, Jr, Js, J1, J5, Ja, J9, Jb, J6, J7, Jd, J8, RB, Jv, Je, Vc, k2, k3, k4, k5, k6, k20, k21, g2, g5])
        | (simp (disch := (first | omega | (simp only [RO]; done) | assumption | (simp only [RM, Je]; done) | (simp only [RL, Je]; omega))) only [RD, reduceCtorEq, reduceIte, Je, J1, J3, J2, J6, Vc, k2, k3, k4, k5, k6, k20, k21, g2, g5])
      (
       (refine Qg (rs := [.cell 2 33, .tmp 3]) rfl ?_)
       (simp only [Qx, Qd, Fr.put_some, Fr.put_none, Qe, Qf, Qi, J0, reduceIte, k2, Qk l2])
       (try simp (disch := (first | omega | (simp only [RO]; done) | assumption | (simp only [RM, Je]; done) | (simp only [RL, Je]; omega))) only [RD, reduceCtorEq, reduceIte, Je, J1, J3, J2, J6, Vc, k2, Qk l2]))
      exact ⟨x2.set (by omega) _, Nu _ _ (v := .nilI) trivial, by rw [hdet]; rfl⟩
    · have hne := fun H0 => neg_calls (P rho n) H0
      have hq2 : (H.length + 1 = H1.length) = False := eq_false (by omega)
      have l2n : H.length + 1 < (H2.set H1.length (Wb (- P rho n))).length := by rw [List.length_set]; exact l2
      repeat' first
        | (with_reducible first | refine Jj (fun K hK => ?_) | refine Qz ?_ | refine Qj ?_ | refine Jg ?_ | refine Jz ?_)
        | ((with_reducible refine Jq (hne _) ?_); rintro _ _ ⟨rfl, rfl⟩)
        | (with_reducible refine X5 (fun hc => ?_) (fun hc => ?_) <;> (try simp only [RC] at hc) <;> (try (exfalso; first | omega | contradiction)))
        | (simp only [Q4, Jo, reduceIte, J0])
        | ((with_reducible refine hK _ _ ?_); clear hK)
        | (clear hK; (with_reducible refine hK _ _ ?_); clear hK)
        | (simp only [Q3, RA, Jn, Jm, Jp, Q2, Q0, ev, ofValue, Jt, J0, J3, J2, J4, reduceCtorEq, reduceIte, Ju, Qb, Qa, Jy, aun, Q9, Jk, Jh, Jx, Jw, Ji, Q8, Jf, Q1, Jr, Js, J1, J5, Ja, J9, Jb, J6, J7, Jd, J8, RB, Jv, Je, Vc, k2, k3, k4, k5, k6, k20, k21, g2, g5, Qk l5, hq2])
        | (simp (disch := (first | omega | (simp only [RO]; done) | assumption | (simp only [RM, Je]; done) | (simp only [RL, Je]; omega))) only [RD, reduceCtorEq, reduceIte, Je, J1, J3, J2, J6, Vc, k2, k3, k4, k5, k6, k20, k21, g2, g5, Qk l5, hq2])
      all_goals
        (
         (refine Qg (rs := [.cell 2 33, .tmp 3]) rfl ?_)
         (simp only [Qx, Qd, Fr.put_some, Fr.put_none, Qe, Qf, Qi, J0, reduceIte, k2, Qk l2n])
         (try simp (disch := (first | omega | (simp only [RO]; done) | assumption | (simp only [RM, Je]; done) | (simp only [RL, Je]; omega))) only [RD, reduceCtorEq, reduceIte, Je, J1, J3, J2, J6, Vc, k2, Qk l2n]))
      all_goals exact ⟨(x2.set (by omega) _).set (by omega) _, Nu _ _ (v := .nilI) trivial, by rw [hdet, if_pos rfl, Int.neg_neg]⟩
end Go.Proofs.YtfalfmfkifemeaaGreatDoor
namespace Go.Proofs.YtfalfmfkifemeaaGreatDoor
open Go.AL Go.PW Go.PD
theorem Gq : type_of% (Jc @Z8 (Jc @Xd (Jc @Xx (Jc @Xw (Jc @Xv (Jc @X1 (Jc @Z3 (Jc @Z2 (Jc @Yo (@Vw)))))))))) := Jc @Z8 (Jc @Xd (Jc @Xx (Jc @Xw (Jc @Xv (Jc @X1 (Jc @Z3 (Jc @Z2 (Jc @Yo (@Vw)))))))))
set_option maxRecDepth 8000
set_option maxHeartbeats 4000000 in
theorem Definite_calls (n : Nat) (xs : List Int) (a : AV) (H : Hp) (ha : Ints H .i64 a xs) (hr : Right n xs) : ACalls Tryz.prog 17 [Ya n a] H fun r H' => r = .bool (Ks (ent n xs) n) ∧ H = H' := by
  refine ACalls.drop (R := fun r => r = .bool (Ks (ent n xs) n)) ?_
  have ha1 : a.one = true := ha.rd.one
  have hc : a.cells = [a] := AV.cells_one ha1
  obtain ⟨h8, hlx⟩ := hr.len
  have hd : decide (Right n xs) = true := decide_eq_true hr
  refine Q7 Tryz.func17 rfl (by kernel_rfl) (by kernel_rfl) ?_
  repeat' first
    | (with_reducible first | refine Jj (fun K hK => ?_) | refine Jg ?_)
    | ((with_reducible refine Jq (right_calls _ _ _ _ (ha.push _) hlx) ?_); rintro _ _ ⟨rfl, rfl⟩)
    | (simp only [Q4, Jo, reduceIte, J0])
    | ((with_reducible refine hK _ _ ?_); clear hK)
    | (simp only [Q3, RA, Jn, Jm, Jp, Q2, Q0, ev, ofValue, Jt, J0, J3, J2, J4, reduceCtorEq, reduceIte, Ju, Qb, Qa, Jy, aun, Q9, Jk, Jh, Jx, Jw, Ji, Q8, Jf, Q1, Jr, Js, J1, J5, Ja, J9, Jb, J6, J7, Jd, J8, RB, Jv, Je, Gq, hd])
    | (simp (disch := first | omega | (simp only [RO]; done) | assumption) only [RS, X8, X9, Zm, Zn, Yi, Yk, Xs, Xq, Xr, Xp, Qu, Qv, Qq])
    | (simp (disch := (first | omega | (simp only [RO]; done) | assumption | (simp only [RM, Je]; done) | (simp only [RL, Je]; omega))) only [RD, reduceCtorEq, reduceIte, Je, J1, J3, J2, J6, Gq, hd])
  all_goals
    refine Jq (Rows_calls n xs a _ (ha.push _) hr) ?_
    rintro r H1 ⟨p, vs, rfl, M, x0, hF⟩
    repeat' first
      | (simp only [Q3, RA, Jn, Jm, Jp, Q2, Q0, ev, ofValue, Jt, J0, J3, J2, J4, reduceCtorEq, reduceIte, Ju, Qb, Qa, Jy, aun, Q9, Jk, Jh, Jx, Jw, Ji, Q8, Jf, Q1, Jr, Js, J1, J5, Ja, J9, Jb, J6, J7, Jd, J8, RB, Jv, Je, Gq])
    refine Jq (Positive_calls n p (ent n xs) vs _ H1 M (St.zero n xs) h8 (Vi hr)) ?_
    rintro r H2 ⟨rfl, O⟩
    repeat' first
      | (with_reducible first | refine Qj ?_)
      | (simp only [Q4, Jo, reduceIte, J0])
      | ((with_reducible refine hK _ _ ?_); clear hK)
      | (simp only [Q3, RA, Jn, Jm, Jp, Q2, Q0, ev, ofValue, Jt, J0, J3, J2, J4, reduceCtorEq, reduceIte, Ju, Qb, Qa, Jy, aun, Q9, Jk, Jh, Jx, Jw, Ji, Q8, Jf, Q1, Jr, Js, J1, J5, Ja, J9, Jb, J6, J7, Jd, J8, RB, Jv, Je, Gq])
    (
     (refine Qg (rs := [.tmp 2]) rfl ?_)
     (simp only [Qx, Qd, Fr.put_some, Fr.put_none, Qe, Qf, Qi, J0, reduceIte])
     (try simp (disch := (first | omega | (simp only [RO]; done) | assumption | (simp only [RM, Je]; done) | (simp only [RL, Je]; omega))) only [RD, reduceCtorEq, reduceIte, Je, J1, J3, J2, J6, Gq]))
    have x2 := Off.toExt x0 O (fun h ⟨i, hi, e⟩ => by rw [e]; exact hF.2 i hi)
    exact ⟨(Ext.push _ _).trans x2, trivial⟩
theorem Definite_bad (n : Int) (xs : List Int) (a : AV) (H : Hp) (ha : Ints H .i64 a xs) (hlx : xs.length < 1000000) (hr : ¬ Right n xs) : ACalls Tryz.prog 17 [Ya n a] H fun r H' => r = .bool false ∧ H = H' := by
  refine ACalls.drop (R := fun r => r = .bool false) ?_
  have ha1 : a.one = true := ha.rd.one
  have hc : a.cells = [a] := AV.cells_one ha1
  have hd : decide (Right n xs) = false := decide_eq_false hr
  refine Q7 Tryz.func17 rfl (by kernel_rfl) (by kernel_rfl) ?_
  repeat' first
    | (with_reducible first | refine Jj (fun K hK => ?_) | refine Qj ?_ | refine Jg ?_)
    | ((with_reducible refine Jq (right_calls _ _ _ _ (ha.push _) hlx) ?_); rintro _ _ ⟨rfl, rfl⟩)
    | (simp only [Q4, Jo, reduceIte, J0])
    | ((with_reducible refine hK _ _ ?_); clear hK)
    | (simp only [Q3, RA, Jn, Jm, Jp, Q2, Q0, ev, ofValue, Jt, J0, J3, J2, J4, reduceCtorEq, reduceIte, Ju, Qb, Qa, Jy, aun, Q9, Jk, Jh, Jx, Jw, Ji, Q8, Jf, Q1, Jr, Js, J1, J5, Ja, J9, Jb, J6, J7, Jd, J8, RB, Jv, Je, Gq, hd])
    | (simp (disch := first | omega | (simp only [RO]; done) | assumption) only [RS, X8, X9, Zm, Zn, Yi, Yk, Xs, Xq, Xr, Xp, Qu, Qv, Qq])
    | (simp (disch := (first | omega | (simp only [RO]; done) | assumption | (simp only [RM, Je]; done) | (simp only [RL, Je]; omega))) only [RD, reduceCtorEq, reduceIte, Je, J1, J3, J2, J6, Gq, hd])
  all_goals
    (
     (refine Qg (rs := [.tmp 2]) rfl ?_)
     (simp only [Qx, Qd, Fr.put_some, Fr.put_none, Qe, Qf, Qi, J0, reduceIte])
     (try simp (disch := (first | omega | (simp only [RO]; done) | assumption | (simp only [RM, Je]; done) | (simp only [RL, Je]; omega))) only [RD, reduceCtorEq, reduceIte, Je, J1, J3, J2, J6, Gq]))
  all_goals exact ⟨Ext.push _ _, trivial⟩
end Go.Proofs.YtfalfmfkifemeaaGreatDoor
namespace Go.Proofs.YtfalfmfkifemeaaGreatDoor
open Go.AL Go.PW Go.PD
theorem Gr : type_of% (Jc @Z8 (Jc @Xd (Jc @Xz (Jc @Ng (Jc @Xx (Jc @Xw (Jc @Xv (Jc @X1 (Jc @Z3 (Jc @Z2 (Jc @Yd (Jc @Yc (Jc @Yo (Jc @Rr (@Vw))))))))))))))) := Jc @Z8 (Jc @Xd (Jc @Xz (Jc @Ng (Jc @Xx (Jc @Xw (Jc @Xv (Jc @X1 (Jc @Z3 (Jc @Z2 (Jc @Yd (Jc @Yc (Jc @Yo (Jc @Rr (@Vw))))))))))))))
theorem tf13MaK : type_of% (Jc @Z8 (Jc @Xd (Jc @Xz (Jc @Ng (Jc @Xx (Jc @Xw (Jc @Xv (Jc @X1 (Jc @Z3 (Jc @Z2 (Jc @Yd (Jc @Yc (Jc @Yo (Jc @Rr (@Vw))))))))))))))) := Jc @Z8 (Jc @Xd (Jc @Xz (Jc @Ng (Jc @Xx (Jc @Xw (Jc @Xv (Jc @X1 (Jc @Z3 (Jc @Z2 (Jc @Yd (Jc @Yc (Jc @Yo (Jc @Rr (@Vw))))))))))))))
set_option maxRecDepth 8000
set_option maxHeartbeats 4000000 in
theorem Minors_calls (n : Nat) (xs : List Int) (a : AV) (H : Hp) (ha : Ints H .i64 a xs) (hr : Right n xs) : ACalls Tryz.prog 14 [Ya n a] H fun r H' => ∃ v, r = .tup [v, .nilI] ∧ WsV H' v (Yn (ent n xs) n 0) H.length ∧ Ext H H' := by
  have ha1 : a.one = true := ha.rd.one
  have hc : a.cells = [a] := AV.cells_one ha1
  obtain ⟨h8, hlx⟩ := hr.len
  have hd : decide (Right n xs) = true := decide_eq_true hr
  refine Q7 Tryz.func14 rfl (by kernel_rfl) (by kernel_rfl) ?_
  repeat' first
    | (with_reducible first | refine Jj (fun K hK => ?_) | refine Q6 ?_ | refine Jg ?_ | refine Jz ?_)
    | ((with_reducible refine Jq (right_calls _ _ _ _ (ha.push _) hlx) ?_); rintro _ _ ⟨rfl, rfl⟩)
    | (simp only [Q4, Jo, reduceIte, J0])
    | ((with_reducible refine hK _ _ ?_); clear hK)
    | (simp only [Q3, RA, Jn, Jm, Jp, Q2, Q0, ev, ofValue, Jt, J0, J3, J2, J4, reduceCtorEq, reduceIte, Ju, Qb, Qa, Jy, aun, Q9, Jk, Jh, Jx, Jw, Ji, Q8, Jf, Q1, Jr, Js, J1, J5, Ja, J9, Jb, J6, J7, Jd, J8, RB, Jv, Je, Gr, hd])
    | (simp (disch := first | omega | (simp only [RO]; done) | assumption) only [RS, X8, X9, Zm, Zn, Yi, Yk, Xs, Xq, Xr, Xp, Qu, Qv, Qq])
    | (simp (disch := (first | omega | (simp only [RO]; done) | assumption | (simp only [RM, Je]; done) | (simp only [RL, Je]; omega))) only [RD, reduceCtorEq, reduceIte, Je, J1, J3, J2, J6, Gr, hd])
  all_goals
    refine Jq (Rows_calls n xs a _ (ha.push _) hr) ?_
    rintro r H1 ⟨p, vs, rfl, M, x0, hF⟩
    have l1 := x0.len
    repeat' first
      | (simp only [Q3, RA, Jn, Jm, Jp, Q2, Q0, ev, ofValue, Jt, J0, J3, J2, J4, reduceCtorEq, reduceIte, Ju, Qb, Qa, Jy, aun, Q9, Jk, Jh, Jx, Jw, Ji, Q8, Jf, Q1, Jr, Js, J1, J5, Ja, J9, Jb, J6, J7, Jd, J8, RB, Jv, Je, Gr])
    refine Jq (leading_calls n p (ent n xs) vs _ H1 M (St.zero n xs) h8 (Vi hr)) ?_
    rintro v H2 ⟨V, O⟩
    have hv1 : v.one = true := by rcases V with ⟨_, rfl⟩ | ⟨_, rfl, _⟩ <;> rfl
    have x2 := Off.toExt x0 O (fun h ⟨i, hi, e⟩ => by rw [e]; exact hF.2 i hi)
    repeat' first
      | (with_reducible first | refine Qj ?_)
      | (simp only [Q4, Jo, reduceIte, J0])
      | ((with_reducible refine hK _ _ ?_); clear hK)
      | (simp only [Q3, RA, Jn, Jm, Jp, Q2, Q0, ev, ofValue, Jt, J0, J3, J2, J4, reduceCtorEq, reduceIte, Ju, Qb, Qa, Jy, aun, Q9, Jk, Jh, Jx, Jw, Ji, Q8, Jf, Q1, Jr, Js, J1, J5, Ja, J9, Jb, J6, J7, Jd, J8, RB, Jv, Je, Gr])
    (
     (refine Qg (rs := [.tmp 2, .tmp 3]) rfl ?_)
     (simp only [Qx, Qd, Fr.put_some, Fr.put_none, Qe, Qf, Qi, J0, reduceIte])
     (try simp (disch := (first | omega | (simp only [RO]; done) | assumption | (simp only [RM, Je]; done) | (simp only [RL, Je]; omega))) only [RD, reduceCtorEq, reduceIte, Je, J1, J3, J2, J6, Gr]))
    refine ⟨v, rfl, V.low ?_, (Ext.push _ _).trans x2⟩
    simp at l1; omega
abbrev elimS : ByteArray := ⟨#[101, 108, 105, 109]⟩
theorem Minors_bad (n : Int) (xs : List Int) (a : AV) (H : Hp) (ha : Ints H .i64 a xs) (hlx : xs.length < 1000000) (hr : ¬ Right n xs) : ACalls Tryz.prog 14 [Ya n a] H fun r H' => ∃ v, r = .tup [.nilS, v] ∧ Err H' v elimS 23 ∧ Ext H H' := by
  have ha1 : a.one = true := ha.rd.one
  have hc : a.cells = [a] := AV.cells_one ha1
  have hd : decide (Right n xs) = false := decide_eq_false hr
  have hw := fun H0 => wrap_calls elimS 23 H0
  refine Q7 Tryz.func14 rfl (by kernel_rfl) (by kernel_rfl) ?_
  repeat' first
    | (with_reducible first | refine Jj (fun K hK => ?_) | refine Qj ?_ | refine Jg ?_ | refine Jz ?_)
    | ((with_reducible refine Jq (right_calls _ _ _ _ (ha.push _) hlx) ?_); rintro _ _ ⟨rfl, rfl⟩)
    | ((with_reducible refine Jq (hw _) ?_); rintro _ _ ⟨rfl, rfl⟩)
    | (simp only [Q4, Jo, reduceIte, J0])
    | ((with_reducible refine hK _ _ ?_); clear hK)
    | (simp only [Q3, RA, Jn, Jm, Jp, Q2, Q0, ev, ofValue, Jt, J0, J3, J2, J4, reduceCtorEq, reduceIte, Ju, Qb, Qa, Jy, aun, Q9, Jk, Jh, Jx, Jw, Ji, Q8, Jf, Q1, Jr, Js, J1, J5, Ja, J9, Jb, J6, J7, Jd, J8, RB, Jv, Je, Gr, hd])
    | (simp (disch := first | omega | (simp only [RO]; done) | assumption) only [RS, X8, X9, Zm, Zn, Yi, Yk, Xs, Xq, Xr, Xp, Qu, Qv, Qq])
    | (simp (disch := (first | omega | (simp only [RO]; done) | assumption | (simp only [RM, Je]; done) | (simp only [RL, Je]; omega))) only [RD, reduceCtorEq, reduceIte, Je, J1, J3, J2, J6, Gr, hd])
  all_goals
    (
     (refine Qg (rs := [.tmp 2, .tmp 3]) rfl ?_)
     (simp only [Qx, Qd, Fr.put_some, Fr.put_none, Qe, Qf, Qi, J0, reduceIte])
     (try simp (disch := (first | omega | (simp only [RO]; done) | assumption | (simp only [RM, Je]; done) | (simp only [RL, Je]; omega))) only [RD, reduceCtorEq, reduceIte, Je, J1, J3, J2, J6, Gr]))
  all_goals exact ⟨_, rfl, ⟨_, rfl, Qo (by simp)⟩, (Ext.push _ _).pushed _⟩
theorem Det_bad (n : Int) (xs : List Int) (a : AV) (H : Hp) (ha : Ints H .i64 a xs) (hlx : xs.length < 1000000) (hr : ¬ Right n xs) : ACalls Tryz.prog 13 [Ya n a] H fun r H' => ∃ v, r = .tup [W 0, v] ∧ Err H' v elimS 23 ∧ Ext H H' := by
  have ha1 : a.one = true := ha.rd.one
  have hc : a.cells = [a] := AV.cells_one ha1
  have hd : decide (Right n xs) = false := decide_eq_false hr
  have hw := fun H0 => wrap_calls elimS 23 H0
  refine Q7 Tryz.func13 rfl (by kernel_rfl) (by kernel_rfl) ?_
  repeat' first
    | (with_reducible first | refine Jj (fun K hK => ?_) | refine Qj ?_ | refine Jg ?_ | refine Jz ?_)
    | ((with_reducible refine Jq (right_calls _ _ _ _ ((ha.push _).push _) hlx) ?_); rintro _ _ ⟨rfl, rfl⟩)
    | ((with_reducible refine Jq (hw _) ?_); rintro _ _ ⟨rfl, rfl⟩)
    | (simp only [Q4, Jo, reduceIte, J0])
    | ((with_reducible refine hK _ _ ?_); clear hK)
    | (simp only [Q3, RA, Jn, Jm, Jp, Q2, Q0, ev, ofValue, Jt, J0, J3, J2, J4, reduceCtorEq, reduceIte, Ju, Qb, Qa, Jy, aun, Q9, Jk, Jh, Jx, Jw, Ji, Q8, Jf, Q1, Jr, Js, J1, J5, Ja, J9, Jb, J6, J7, Jd, J8, RB, Jv, Je, tf13MaK, hd])
    | (simp (disch := first | omega | (simp only [RO]; done) | assumption) only [RS, X8, X9, Zm, Zn, Yi, Yk, Xs, Xq, Xr, Xp, Qu, Qv, Qq])
    | (simp (disch := (first | omega | (simp only [RO]; done) | assumption | (simp only [RM, Je]; done) | (simp only [RL, Je]; omega))) only [RD, reduceCtorEq, reduceIte, Je, J1, J3, J2, J6, tf13MaK, hd])
  all_goals
    (
     (refine Qg (rs := [.cell 2 33, .tmp 3]) rfl ?_)
     (simp only [Qx, Qd, Fr.put_some, Fr.put_none, Qe, Qf, Qi, J0, reduceIte])
     (try simp (disch := (first | omega | (simp only [RO]; done) | assumption | (simp only [RM, Je]; done) | (simp only [RL, Je]; omega))) only [RD, reduceCtorEq, reduceIte, Je, J1, J3, J2, J6, tf13MaK]))
  all_goals exact ⟨_, rfl, ⟨_, rfl, Qo (by simp)⟩, ((Ext.push _ _).pushed _).pushed _⟩
end Go.Proofs.YtfalfmfkifemeaaGreatDoor
namespace Go.Proofs.YtfalfmfkifemeaaGreatDoor
open Go.AL Go.PW
theorem tf80RfK : type_of% (Jc @Xd (Jc @X1 (@Xj))) := Jc @Xd (Jc @X1 (@Xj))
set_option maxRecDepth 8000
def bits_ (xs : List Int) : Nat := if xs.length = 0 then 0 else 64 * (xs.length - 1) + bl (xs.getD (xs.length - 1) 0).toNat
set_option maxHeartbeats 2000000 in
theorem size_calls (s : AV) (xs : List Int) (H : Hp) (hs : Ints H .u64 s xs) (c : Can xs) : ACalls Tryz.prog 80 [s] H fun r H' => r = .int .i64 (bits_ xs : Nat) ∧ H = H' := by
  have hl := hs.rd.len Z4
  have lx := c.len
  unfold bits_
  refine Q7 Tryz.func80 rfl (by kernel_rfl) (by kernel_rfl) ?_
  by_cases h0 : xs.length = 0
  · have e1 : ((xs.length : Int) = 0) = True := eq_true (by omega)
    rw [if_pos h0]
    repeat' first
      | (with_reducible first | refine Jj (fun K hK => ?_) | refine Qj ?_ | refine Jg ?_ | refine Jz ?_)
      | (simp only [Q4, Jo, reduceIte, J0])
      | ((with_reducible refine hK _ _ ?_); clear hK)
      | (simp only [Q3, RA, Jn, Jm, Jp, Q2, Q0, ev, ofValue, Jt, J0, J3, J2, J4, reduceCtorEq, reduceIte, Ju, Qb, Qa, Jy, aun, Q9, Jk, Jh, Jx, Jw, Ji, Q8, Jf, Q1, Jr, Js, J1, J5, Ja, J9, Jb, J6, J7, Jd, J8, RB, Jv, Je, tf80RfK, hl, e1])
    all_goals
      (
       (refine Qg (rs := [.tmp 2]) rfl ?_)
       (simp only [Qx, Qd, Fr.put_some, Fr.put_none, Qe, Qf, Qi, J0, reduceIte])
       (try simp (disch := (first | omega | (simp only [RO]; done) | assumption | (simp only [RM, Je]; done) | (simp only [RL, Je]; omega))) only [RD, reduceCtorEq, reduceIte, Je, J1, J3, J2, J6, tf80RfK]))
  · have e1 : ((xs.length : Int) = 0) = False := eq_false (by omega)
    rw [if_neg h0]
    have hb := c.lim.get (xs.length - 1)
    have hbl : bl (xs.getD (xs.length - 1) 0).toNat ≤ 64 := bl_le (by simp only [Bs] at hb; omega)
    have w1 : IntKind.i64.wrap ((xs.length : Int) - 1) = ((xs.length - 1 : Nat) : Int) := by rw [Q5 (by omega) (by omega)]; omega
    have w2 : IntKind.i64.wrap (64 * ((xs.length - 1 : Nat) : Int)) = ((64 * (xs.length - 1) : Nat) : Int) := by rw [Q5 (by omega) (by omega)]; omega
    have w3 : IntKind.i64.wrap (((64 * (xs.length - 1) : Nat) : Int) + ((bl (xs.getD (xs.length - 1) 0).toNat : Nat) : Int)) = ((64 * (xs.length - 1) + bl (xs.getD (xs.length - 1) 0).toNat : Nat) : Int) := by rw [Q5 (by omega) (by omega)]; omega
    have hlen := fun H0 => len64_calls (xs.getD (xs.length - 1) 0) H0 hb
    repeat' first
      | (with_reducible first | refine Jj (fun K hK => ?_) | refine Q6 ?_ | refine Qj ?_ | refine Jg ?_ | refine Jz ?_)
      | ((with_reducible refine Jq (hlen _) ?_); rintro _ _ ⟨rfl, rfl⟩)
      | (simp only [Q4, Jo, reduceIte, J0])
      | ((with_reducible refine hK _ _ ?_); clear hK)
      | (simp only [Q3, RA, Jn, Jm, Jp, Q2, Q0, ev, ofValue, Jt, J0, J3, J2, J4, reduceCtorEq, reduceIte, Ju, Qb, Qa, Jy, aun, Q9, Jk, Jh, Jx, Jw, Ji, Q8, Jf, Q1, Jr, Js, J1, J5, Ja, J9, Jb, J6, J7, Jd, J8, RB, Jv, Je, tf80RfK, hl, e1, w1, w2, w3])
      | (simp (disch := first | omega | (simp only [RO]; done) | assumption) only [RS, hs.rd.at1 Z4 Xt, hs.load1 Y0, X6, X7])
    all_goals
      (
       (refine Qg (rs := [.tmp 2]) rfl ?_)
       (simp only [Qx, Qd, Fr.put_some, Fr.put_none, Qe, Qf, Qi, J0, reduceIte])
       (try simp (disch := (first | omega | (simp only [RO]; done) | assumption | (simp only [RM, Je]; done) | (simp only [RL, Je]; omega))) only [RD, reduceCtorEq, reduceIte, Je, J1, J3, J2, J6, tf80RfK]))
end Go.Proofs.YtfalfmfkifemeaaGreatDoor
namespace Go.Proofs.YtfalfmfkifemeaaGreatDoor
open Go.AL Go.PW Go.PD
set_option maxRecDepth 8000
def nul : Nat → Nat → Int := fun _ _ => 0
def U8 (n : Nat) (xs : List Int) (k : Int) : Bool := Ks (dif (ent n xs) nul (-k)) n
def Ww (n : Nat) (xs : List Int) (k : Int) : Bool := Ks (dif nul (ent n xs) k) n
end Go.Proofs.YtfalfmfkifemeaaGreatDoor
namespace Go.Proofs.YtfalfmfkifemeaaGreatDoor
open Go.AL Go.PW Go.PD
set_option maxRecDepth 8000
abbrev N9 : ByteArray := ⟨#[98, 111, 117, 110, 100]⟩
def BetwR (n : Nat) (xs : List Int) (k l : Int) (v : AV) (H : Hp) : Prop :=
  if U8 n xs k = false then Err H v N9 30 else if Ww n xs l = false then Err H v N9 31 else v = .nilI
end Go.Proofs.YtfalfmfkifemeaaGreatDoor

/- Part 1 of the proof of the law CirclesPick: lemmas on the model's code, on this program's functions, on numbers. No condition. -/
import Derived.Test.YtlgpemndbfclfaaDoorZGas
import Derived.Test.YtlgpemndbfclfaaDoorProg
set_option linter.unusedVariables false
set_option linter.unusedSimpArgs false
open Nat renaming reduceEqDiff → J0, reduceLeDiff → J1, reduceMul → J2, reduceAdd → J3, reduceSub → J4, reduceLT → J5
open Int renaming reduceToNat → J6, reducePow → J7, reduceNeg → J8, reduceLT → J9, reduceLE → Ja, reduceEq → Jb
open And renaming intro → Jc
open Go.IntKind renaming bits → Jd
open Go.PW renaming dig_length → Je
namespace Go.PD
def fact : Nat → Nat
  | 0 => 1
  | n + 1 => (n + 1) * fact n
theorem iota_bound {r : Nat → Int} {B N : Nat} (hr : ∀ j, (r j).natAbs ≤ B) : ∀ {cs : List Nat} {F : List Nat → Int}, (∀ ds, ds.length + 1 = cs.length → (F ds).natAbs ≤ N) → (Xg r cs F).natAbs ≤ cs.length * (B * N)
  | [], _, _ => by simp [Xg]
  | a :: cs, F, h => by
    have h1 := iota_bound hr (cs := cs) (F := fun ds => F (a :: ds)) (fun ds hd => h (a :: ds) (by simp; omega))
    have h2 : (r a * F cs).natAbs ≤ B * N := by
      rw [Int.natAbs_mul]
      exact Nat.mul_le_mul (hr a) (h cs (by simp))
    simp only [Xg, List.length_cons]
    rw [Nat.add_mul, Nat.one_mul]
    omega
theorem D_bound {B : Nat} : ∀ {rs : List (Nat → Int)}, (∀ r ∈ rs, ∀ j, (r j).natAbs ≤ B) → ∀ cs : List Nat, cs.length = rs.length → (D rs cs).natAbs ≤ fact rs.length * B ^ rs.length
  | [], _, cs, h => by
    simp only [D]
    split <;> simp [fact]
  | r :: rs, hr, cs, h => by
    have h1 := iota_bound (N := fact rs.length * B ^ rs.length) (hr r (List.mem_cons_self ..)) (cs := cs) (F := D rs) (fun ds hd => D_bound (fun q hq => hr q (List.mem_cons_of_mem _ hq)) ds (by simp at h; omega))
    rw [h] at h1
    show (Xg r cs (D rs)).natAbs ≤ _
    refine Nat.le_trans h1 (Nat.le_of_eq ?_)
    simp only [List.length_cons, fact, Nat.pow_succ]
    grind
end Go.PD
namespace Go.PD
theorem mem_Rs {rho : Nat → Nat → Int} : ∀ {k : Nat} {r : Nat → Int}, r ∈ Rs rho k ↔ ∃ i, i < k ∧ rho i = r
  | 0, r => by simp [Rs]
  | k + 1, r => by
    simp only [Rs, List.mem_cons, mem_Rs (k := k)]
    constructor
    · rintro (rfl | ⟨i, h, rfl⟩)
      · exact ⟨k, by omega, rfl⟩
      · exact ⟨i, by omega, rfl⟩
    · rintro ⟨i, h, rfl⟩
      by_cases e : i = k
      · subst e; exact .inl rfl
      · exact .inr ⟨i, by omega, rfl⟩
theorem W4 (rho : Nat → Nat → Int) : ∀ k, (Rs rho k).length = k
  | 0 => rfl
  | k + 1 => by simp [Rs, W4 rho k]
theorem Rt : ∀ k, (Cs k).length = k
  | 0 => rfl
  | k + 1 => by simp [Cs, Rt k]
variable {rho : Nat → Nat → Int}
theorem Alt.front {F : List Nat → Int} (h : Alt F) (a : Nat) : ∀ (c1 : List Nat), ∃ s : Int, (s = 1 ∨ s = -1) ∧ ∀ a c2, F (c1 ++ a :: c2) = s * F (a :: (c1 ++ c2))
  | [] => ⟨1, .inl rfl, fun a c2 => by simp⟩
  | c :: c1 => by
    obtain ⟨s, hs, h1⟩ := (h.tail c).front a c1
    refine ⟨-s, by omega, fun a c2 => ?_⟩
    have h2 := h1 a c2
    have h3 := h [] c a (c1 ++ c2)
    simp only [List.nil_append] at h3
    simp only [List.cons_append, h2, h3]
    grind
theorem Rs_bound {B k : Nat} (hB : ∀ i j, (rho i j).natAbs ≤ B) : ∀ r ∈ Rs rho k, ∀ j, (r j).natAbs ≤ B := by
  intro r hr j
  obtain ⟨i, _, rfl⟩ := mem_Rs.1 hr
  exact hB i j
theorem d_bound {B : Nat} (hB : ∀ i j, (rho i j).natAbs ≤ B) (k i j : Nat) : (d rho k i j).natAbs ≤ fact (k + 1) * B ^ (k + 1) := by
  have := D_bound (B := B) (rs := rho i :: Rs rho k) (fun r hr => by
    rcases List.mem_cons.1 hr with rfl | hr
    · exact hB i
    · exact Rs_bound hB r hr) (j :: Cs k) (by simp [W4, Rt])
  simpa [W4, d] using this
end Go.PD
namespace Go.PW
theorem lim_spec (n : Nat) : Limbs (lim n) ∧ val (lim n) = n ∧ (lim n = [] ∨ (lim n).getD ((lim n).length - 1) 0 ≠ 0) := by
  induction n using Nat.strongRecOn with
  | _ n ih =>
    rcases Nat.eq_zero_or_pos n with h | h
    · subst h; rw [J1b]; exact ⟨Limbs.nil, rfl, .inl rfl⟩
    · have hd : n / 18446744073709551616 < n := Nat.div_lt_self h (by decide)
      obtain ⟨h1, h2, h3⟩ := ih _ hd
      rw [lim_pos h]
      refine ⟨fun x hx => ?_, ?_, .inr ?_⟩
      · rcases List.mem_cons.1 hx with rfl | hx
        · simp only [Bs]; omega
        · exact h1 x hx
      · simp only [val, h2, Bs]; omega
      · rcases Nat.eq_zero_or_pos (n / 18446744073709551616) with h0 | h0
        · rw [h0, J1b]; simp; omega
        · rcases h3 with h3 | h3
          · rw [lim_pos h0] at h3; cases h3
          · have hl : 0 < (lim (n / 18446744073709551616)).length := by rw [lim_pos h0]; simp
            generalize lim (n / 18446744073709551616) = l at *
            rw [List.length_cons, show l.length + 1 - 1 = (l.length - 1) + 1 by omega]
            simpa [List.getD_cons_succ] using h3
end Go.PW
namespace Go.Proofs.YtlgpemndbfclfaaDoor
open Go.AL
theorem und50 : Tryd.prog.underlying 50 = some (.struct #[{ name := "Neg", type := 4, offset := 0, embedded := false, tag := "", pkgPath := "", byteOffset := 0 }, { name := "M", type := 49, offset := 1, embedded := false, tag := "", pkgPath := "", byteOffset := 8 }]) := by kernel_rfl
theorem agg50 : X4 Tryd.prog 50 = some true := by kernel_rfl
theorem und51 : Tryd.prog.underlying 51 = some (.struct #[{ name := "Neg", type := 4, offset := 0, embedded := false, tag := "", pkgPath := "", byteOffset := 0 }, { name := "M", type := 49, offset := 1, embedded := false, tag := "", pkgPath := "", byteOffset := 8 }]) := by kernel_rfl
theorem agg51 : X4 Tryd.prog 51 = some true := by kernel_rfl
theorem size50 : Qv Tryd.prog 50 = some 2 := by kernel_rfl
theorem bytes50 : X7 Tryd.prog 50 = some 32 := by kernel_rfl
theorem zero50 : Xf Tryd.prog 50 = some (.agg [.bool false, .nilS]) := by kernel_rfl
theorem size51 : Qv Tryd.prog 51 = some 2 := by kernel_rfl
theorem bytes51 : X7 Tryd.prog 51 = some 32 := by kernel_rfl
theorem zero51 : Xf Tryd.prog 51 = some (.agg [.bool false, .nilS]) := by kernel_rfl
theorem fad50_0 {h o : Nat} : Qd Tryd.prog 50 (.ptr h o) 0 = some (.ptr h (o)) := by simp [Qd, und50, size4]
theorem faz50_0 {cs : List AV} : Qd Tryd.prog 50 (.fp cs) 0 = some (.fp (cs.drop 0)) := by simp [Qd, und50, size4]
theorem fad50_1 {h o : Nat} : Qd Tryd.prog 50 (.ptr h o) 1 = some (.ptr h (o + 1)) := by simp [Qd, und50, J0e]
theorem faz50_1 {cs : List AV} : Qd Tryd.prog 50 (.fp cs) 1 = some (.fp (cs.drop 1)) := by simp [Qd, und50, J0e]
theorem fad51_0 {h o : Nat} : Qd Tryd.prog 51 (.ptr h o) 0 = some (.ptr h (o)) := by simp [Qd, und51, size4]
theorem faz51_0 {cs : List AV} : Qd Tryd.prog 51 (.fp cs) 0 = some (.fp (cs.drop 0)) := by simp [Qd, und51, size4]
theorem fad51_1 {h o : Nat} : Qd Tryd.prog 51 (.ptr h o) 1 = some (.ptr h (o + 1)) := by simp [Qd, und51, J0e]
theorem faz51_1 {cs : List AV} : Qd Tryd.prog 51 (.fp cs) 1 = some (.fp (cs.drop 1)) := by simp [Qd, und51, J0e]
theorem Xk {x0 x1 : AV} (h0 : x0.one = true) (h1 : x1.one = true) : Y5 Tryd.prog 51 [(0, x0), (1, x1)] = some (.agg [x0, x1]) := by
  simp [Y5, zero51, K0, und51, size4, J0e, Q6, Jw, AV.solid_one h0, AV.cells_one h0, AV.solid_one h1, AV.cells_one h1, AV.cells_agg]
theorem Vb : type_of% (Jc @und50 (Jc @agg50 (Jc @size50 (Jc @bytes50 (Jc @zero50 (Jc @fad50_0 (Jc @faz50_0 (Jc @fad50_1 (@faz50_1))))))))) := Jc @und50 (Jc @agg50 (Jc @size50 (Jc @bytes50 (Jc @zero50 (Jc @fad50_0 (Jc @faz50_0 (Jc @fad50_1 (@faz50_1))))))))
theorem Va : type_of% (Jc @und51 (Jc @agg51 (Jc @size51 (Jc @bytes51 (Jc @zero51 (Jc @fad51_0 (Jc @faz51_0 (Jc @fad51_1 (@faz51_1))))))))) := Jc @und51 (Jc @agg51 (Jc @size51 (Jc @bytes51 (Jc @zero51 (Jc @fad51_0 (Jc @faz51_0 (Jc @fad51_1 (@faz51_1))))))))
end Go.Proofs.YtlgpemndbfclfaaDoor
namespace Go.Proofs.YtlgpemndbfclfaaDoor
open Go.AL Go.PW
set_option maxRecDepth 8000
structure Fits (rk ri : List Int) (k : Nat) (prev : Int) (j : Nat) : Prop where
  a : In (rk.getD k 0)
  b : In (ri.getD j 0)
  c : In (ri.getD k 0)
  d : In (rk.getD j 0)
  ab : In (rk.getD k 0 * ri.getD j 0)
  cd : In (ri.getD k 0 * rk.getD j 0)
  s : In (rk.getD k 0 * ri.getD j 0 - ri.getD k 0 * rk.getD j 0)
  q : In (stepV rk ri k prev j)
end Go.Proofs.YtlgpemndbfclfaaDoor
namespace Go.Proofs.YtlgpemndbfclfaaDoor
open Go.AL Go.PW Go.PD
set_option maxRecDepth 8000
theorem fact_small : ∀ k : Fin 8, fact (k.1 + 1) * (18446744073709551616 : Nat) ^ (k.1 + 1) ≤ 2 ^ 530 := by decide +kernel
theorem fact_mid : ∀ k : Fin 7, fact (k.1 + 1) * (18446744073709551616 : Nat) ^ (k.1 + 1) ≤ 2 ^ 465 := by decide +kernel
theorem d_small {rho : Nat → Nat → Int} (hB : ∀ i j, (rho i j).natAbs ≤ 18446744073709551616) {k : Nat} (hk : k ≤ 7) (i j : Nat) : (d rho k i j).natAbs ≤ 2 ^ 530 :=
  Nat.le_trans (d_bound hB k i j) (fact_small ⟨k, by omega⟩)
theorem d_mid {rho : Nat → Nat → Int} (hB : ∀ i j, (rho i j).natAbs ≤ 18446744073709551616) {k : Nat} (hk : k ≤ 6) (i j : Nat) : (d rho k i j).natAbs ≤ 2 ^ 465 :=
  Nat.le_trans (d_bound hB k i j) (fact_mid ⟨k, by omega⟩)
theorem In_300 {x : Int} (h : x.natAbs ≤ 2 ^ 530) : In x := J1j (Nat.le_trans h (by decide +kernel))
theorem mul_300 {x y : Int} (h : x.natAbs ≤ 2 ^ 465) (h' : y.natAbs ≤ 2 ^ 465) : (x * y).natAbs ≤ 2 ^ 930 := by
  rw [Int.natAbs_mul]
  exact Nat.le_trans (Nat.mul_le_mul h h') (by decide +kernel)
theorem In_600 {x : Int} (h : x.natAbs ≤ 2 ^ 930) : In x := J1j (Nat.le_trans h (by decide +kernel))
theorem In_601 {x y : Int} (h : x.natAbs ≤ 2 ^ 930) (h' : y.natAbs ≤ 2 ^ 930) : In (x - y) := J1j (by
  have h2 : 2 ^ 930 + 2 ^ 930 ≤ 2 ^ 1000 := by decide +kernel
  generalize (2 ^ 930 : Nat) = u at h h' h2
  generalize (2 ^ 1000 : Nat) = v at h2
  omega)
theorem St.fits {n k : Nat} {rho : Nat → Nat → Int} {rss : List (List Int)} (S : St n k rho rss) (h8 : n ≤ 8) (hk : k < n) (hp : P rho k ≠ 0) (hB : ∀ i j, (rho i j).natAbs ≤ 18446744073709551616) (i j : Nat) (hi : i < rss.length) (hc : Proc k false i) (hj : j < n) (hjk : j ≠ k) : Fits (rss.getD k []) (rss.getD i []) k (P rho k) j := by
  rw [S.len] at hi
  have hki : k < i := by
    rcases hc.2 with h | h
    · exact h
    · cases h
  have e1 := S.get k k (Nat.le_refl _) hk hk
  have e2 := S.get i j (by omega) hi hj
  have e3 := S.get i k (by omega) hi hk
  have e4 := S.get k j (Nat.le_refl _) hk hj
  have s := fun i j => d_small hB (k := k) (by omega) i j
  have m := fun i j => d_mid hB (k := k) (by omega) i j
  refine ⟨?_, ?_, ?_, ?_, ?_, ?_, ?_, ?_⟩
  · rw [e1]; exact In_300 (s _ _)
  · rw [e2]; exact In_300 (s _ _)
  · rw [e3]; exact In_300 (s _ _)
  · rw [e4]; exact In_300 (s _ _)
  · rw [e1, e2]; exact In_600 (mul_300 (m _ _) (m _ _))
  · rw [e3, e4]; exact In_600 (mul_300 (m _ _) (m _ _))
  · rw [e1, e2, e3, e4]; exact In_601 (mul_300 (m _ _) (m _ _)) (mul_300 (m _ _) (m _ _))
  · unfold stepV
    rw [e1, e2, e3, e4, d_step hp]
    exact In_300 (d_small hB (by omega) _ _)
end Go.Proofs.YtlgpemndbfclfaaDoor
namespace Go.Proofs.YtlgpemndbfclfaaDoor
open Go.AL Go.PW Go.PD
set_option maxRecDepth 8000
theorem WsV.low {H : Hp} {v : AV} {ls : List Int} {lo lo' : Nat} (h : WsV H v ls lo) (hl : lo' ≤ lo) : WsV H v ls lo' := by
  rcases h with h | ⟨k, h1, h2, h3⟩
  · exact .inl h
  · exact .inr ⟨k, h1, h2, by omega⟩
end Go.Proofs.YtlgpemndbfclfaaDoor
namespace Go.Proofs.YtlgpemndbfclfaaDoor
open Go.AL Go.PW
theorem U8 : type_of% (Jc @Xz (Jc @Z6 (@Qx))) := Jc @Xz (Jc @Z6 (@Qx))
theorem R7 : type_of% (Jc @Xz (Jc @Zn (Jc @Z6 (Jc @Vb (Jc @Va (@Qx)))))) := Jc @Xz (Jc @Zn (Jc @Z6 (Jc @Vb (Jc @Va (@Qx)))))
theorem Uw : type_of% (Jc @Xz (Jc @Zn (Jc @Z6 (Jc @Vb (Jc @Va (@Qx)))))) := Jc @Xz (Jc @Zn (Jc @Z6 (Jc @Vb (Jc @Va (@Qx)))))
theorem tf72RfA : type_of% (Jc @Zn (Jc @Z6 (Jc @Vb (Jc @Va (@Qx))))) := Jc @Zn (Jc @Z6 (Jc @Vb (Jc @Va (@Qx))))
set_option maxRecDepth 8000
abbrev Ub (xs : List Int) : Blk := ⟨xs.map (AV.int .u64), .own, 53⟩
def tl (xs : List Int) : Nat → Nat
  | 0 => 0
  | k + 1 => if xs.getD k 0 = 0 then tl xs k else k + 1
theorem K5 (xs : List Int) : ∀ k, tl xs k ≤ k
  | 0 => Nat.le_refl _
  | k + 1 => by
    unfold tl
    split
    · have := K5 xs k; omega
    · exact Nat.le_refl _
theorem tl_z {xs : List Int} {m : Nat} (h : xs.getD m 0 = 0) : tl xs (m + 1) = tl xs m := by
  show (if xs.getD m 0 = 0 then tl xs m else m + 1) = tl xs m
  rw [if_pos h]
theorem tl_nz {xs : List Int} {m : Nat} (h : ¬ xs.getD m 0 = 0) : tl xs (m + 1) = m + 1 := by
  show (if xs.getD m 0 = 0 then tl xs m else m + 1) = m + 1
  rw [if_neg h]
theorem load_u64 {H : Hp} {h : Nat} {xs : List Int} (hg : Qy H h = some (Ub xs)) {i : Nat} (hi : i < xs.length) : Zt Tryd.prog H 53 (.ptr h i) = some (.int .u64 (xs.getD i 0)) := by
  rw [Kj, hg]
  simp only [Zx]
  rw [if_neg (by decide)]
  exact map_get _ _ _ hi
theorem cut_u64 (h n m c : Nat) (hm : m ≤ c) : Z5 Tryd.prog 49 (.sl h 0 n c) none (some (.int .i64 (m : Int))) none = some (.sl h 0 m c) := by
  have hb : Xn n c none (some (.int .i64 (m : Int))) none = some (0, m, c) := by
    simp [Xn, Ys, hm]
  simp only [Z5, Xo, Xa, hb, Nat.zero_mul, Nat.add_zero, Nat.sub_zero]
  split <;> rfl
set_option maxHeartbeats 2000000 in
theorem trim_calls (h k c : Nat) (xs : List Int) (H : Hp) (hg : Qy H h = some (Ub xs)) (hk : k ≤ xs.length) (hkc : k ≤ c) (hc : c < 1000000) : ACalls Tryd.prog 38 [.sl h 0 k c] H fun r H' => r = .sl h 0 (tl xs k) c ∧ H = H' := by
  refine Qe Tryd.func38 rfl (by kernel_rfl) (by kernel_rfl) ?_
  repeat' first
    | (with_reducible first | refine Jj (fun K hK => ?_) | refine Js ?_ | refine Q2 ?_ | refine Qc ?_ | refine Qb ?_ | refine Jg ?_ | refine Jq ?_)
    | (with_reducible refine Jv (fun hc => ?_) (fun hc => ?_) <;> (try simp only [RC] at hc) <;> (try (exfalso; first | omega | contradiction)))
    | (with_reducible refine X3 (fun hc => ?_) (fun hc => ?_) <;> (try simp only [RC] at hc) <;> (try (exfalso; first | omega | contradiction)))
    | (simp only [Q8, Jk, reduceIte, J0])
    | ((with_reducible refine hK _ _ ?_); clear hK)
    | (clear hK; (with_reducible refine hK _ _ ?_); clear hK)
    | (clear hK; clear hK; (with_reducible refine hK _ _ ?_); clear hK)
    | (clear hK; clear hK; clear hK; (with_reducible refine hK _ _ ?_); clear hK)
    | (clear hK; clear hK; clear hK; clear hK; (with_reducible refine hK _ _ ?_); clear hK)
    | (clear hK; clear hK; clear hK; clear hK; clear hK; (with_reducible refine hK _ _ ?_); clear hK)
    | (simp only [Qa, RA, Jo, Jn, Jp, Q7, Q5, ev, ofValue, Ju, J0, J3, J2, J4, reduceCtorEq, reduceIte, Jx, Qm, Qk, Q1, aun, Qj, Jm, Jh, Q0, Jz, Ji, Qi, Jf, Q6, Jw, Jr, J1, J5, Ja, J9, Jb, J6, J7, Jd, J8, RB, Jy, Je, U8])
    | (simp (disch := first | omega | (simp only [RO]; done) | assumption) only [RS, Xc, Xe, Xb])
    | (simp (disch := (first | omega | (simp only [RO]; done) | assumption | (simp only [RM, Je]; done) | (simp only [RL, Je]; omega))) only [RD, reduceCtorEq, reduceIte, Je, J1, J3, J2, J6, U8])
  refine Xr (fun m fr' H' => m ≤ k ∧ fr' 0 = .sl h 0 m c ∧ tl xs m = tl xs k ∧ H = H') (m := k) ⟨Nat.le_refl _, rfl, rfl, rfl⟩ ?_
  rintro m fr' H' ⟨hm, k0, ht, rfl⟩
  cases m with
  | zero =>
    repeat' first
      | (with_reducible first | refine Jj (fun K hK => ?_) | refine Js ?_ | refine Q2 ?_ | refine Qc ?_ | refine Qb ?_ | refine Jg ?_ | refine Jq ?_)
      | (with_reducible refine Jv (fun hc => ?_) (fun hc => ?_) <;> (try simp only [RC] at hc) <;> (try (exfalso; first | omega | contradiction)))
      | (with_reducible refine X3 (fun hc => ?_) (fun hc => ?_) <;> (try simp only [RC] at hc) <;> (try (exfalso; first | omega | contradiction)))
      | (simp only [Q8, Jk, reduceIte, J0])
      | ((with_reducible refine hK _ _ ?_); clear hK)
      | (clear hK; (with_reducible refine hK _ _ ?_); clear hK)
      | (clear hK; clear hK; (with_reducible refine hK _ _ ?_); clear hK)
      | (clear hK; clear hK; clear hK; (with_reducible refine hK _ _ ?_); clear hK)
      | (clear hK; clear hK; clear hK; clear hK; (with_reducible refine hK _ _ ?_); clear hK)
      | (clear hK; clear hK; clear hK; clear hK; clear hK; (with_reducible refine hK _ _ ?_); clear hK)
      | (simp only [Qa, RA, Jo, Jn, Jp, Q7, Q5, ev, ofValue, Ju, J0, J3, J2, J4, reduceCtorEq, reduceIte, Jx, Qm, Qk, Q1, aun, Qj, Jm, Jh, Q0, Jz, Ji, Qi, Jf, Q6, Jw, Jr, J1, J5, Ja, J9, Jb, J6, J7, Jd, J8, RB, Jy, Je, U8, k0])
      | (simp (disch := first | omega | (simp only [RO]; done) | assumption) only [RS, Xc, Xe, Xb])
      | (simp (disch := (first | omega | (simp only [RO]; done) | assumption | (simp only [RM, Je]; done) | (simp only [RL, Je]; omega))) only [RD, reduceCtorEq, reduceIte, Je, J1, J3, J2, J6, U8, k0])
    (
     (refine Q9 (rs := [.tmp 2]) rfl ?_)
     (simp only [Qt, Q4, Fr.put_some, Fr.put_none, Qg, Qh, Qn, J0, reduceIte])
     (try simp (disch := (first | omega | (simp only [RO]; done) | assumption | (simp only [RM, Je]; done) | (simp only [RL, Je]; omega))) only [RD, reduceCtorEq, reduceIte, Je, J1, J3, J2, J6, U8]))
    rw [← ht]; rfl
  | succ m =>
    have w1 : IntKind.i64.wrap (((m + 1 : Nat) : Int) - 1) = (m : Int) := by rw [Q3 (by omega) (by omega)]; omega
    have l1 := load_u64 hg (i := m) (by omega)
    have hpos : (((m + 1 : Nat) : Int) > 0) = True := eq_true (by omega)
    by_cases hx : xs.getD m 0 = 0
    · have hcut := cut_u64 h (m + 1) m c (by omega)
      repeat' first
        | (with_reducible first | refine Jj (fun K hK => ?_) | refine Js ?_ | refine Q2 ?_ | refine Qc ?_ | refine Qb ?_ | refine Jg ?_ | refine Jq ?_)
        | (with_reducible refine Jv (fun hc => ?_) (fun hc => ?_) <;> (try simp only [RC] at hc) <;> (try (exfalso; first | omega | contradiction)))
        | (with_reducible refine X3 (fun hc => ?_) (fun hc => ?_) <;> (try simp only [RC] at hc) <;> (try (exfalso; first | omega | contradiction)))
        | (simp only [Q8, Jk, reduceIte, J0])
        | ((with_reducible refine hK _ _ ?_); clear hK)
        | (clear hK; (with_reducible refine hK _ _ ?_); clear hK)
        | (clear hK; clear hK; (with_reducible refine hK _ _ ?_); clear hK)
        | (clear hK; clear hK; clear hK; (with_reducible refine hK _ _ ?_); clear hK)
        | (clear hK; clear hK; clear hK; clear hK; (with_reducible refine hK _ _ ?_); clear hK)
        | (clear hK; clear hK; clear hK; clear hK; clear hK; (with_reducible refine hK _ _ ?_); clear hK)
        | (simp only [Qa, RA, Jo, Jn, Jp, Q7, Q5, ev, ofValue, Ju, J0, J3, J2, J4, reduceCtorEq, reduceIte, Jx, Qm, Qk, Q1, aun, Qj, Jm, Jh, Q0, Jz, Ji, Qi, Jf, Q6, Jw, Jr, J1, J5, Ja, J9, Jb, J6, J7, Jd, J8, RB, Jy, Je, U8, k0, w1, l1, hx, hcut])
        | (simp (disch := first | omega | (simp only [RO]; done) | assumption) only [RS, Xc, Xe, Xb])
        | (simp (disch := (first | omega | (simp only [RO]; done) | assumption | (simp only [RM, Je]; done) | (simp only [RL, Je]; omega))) only [RD, reduceCtorEq, reduceIte, Je, J1, J3, J2, J6, U8, k0, w1, l1, hx, hcut])
      all_goals exact ⟨m, by omega, by omega, rfl, by rw [← ht, tl_z hx]⟩
    · skip
      repeat' first
        | (with_reducible first | refine Jj (fun K hK => ?_) | refine Js ?_ | refine Q2 ?_ | refine Qc ?_ | refine Qb ?_ | refine Jg ?_ | refine Jq ?_)
        | (with_reducible refine Jv (fun hc => ?_) (fun hc => ?_) <;> (try simp only [RC] at hc) <;> (try (exfalso; first | omega | contradiction)))
        | (with_reducible refine X3 (fun hc => ?_) (fun hc => ?_) <;> (try simp only [RC] at hc) <;> (try (exfalso; first | omega | contradiction)))
        | (simp only [Q8, Jk, reduceIte, J0])
        | ((with_reducible refine hK _ _ ?_); clear hK)
        | (clear hK; (with_reducible refine hK _ _ ?_); clear hK)
        | (clear hK; clear hK; (with_reducible refine hK _ _ ?_); clear hK)
        | (clear hK; clear hK; clear hK; (with_reducible refine hK _ _ ?_); clear hK)
        | (clear hK; clear hK; clear hK; clear hK; (with_reducible refine hK _ _ ?_); clear hK)
        | (clear hK; clear hK; clear hK; clear hK; clear hK; (with_reducible refine hK _ _ ?_); clear hK)
        | (simp only [Qa, RA, Jo, Jn, Jp, Q7, Q5, ev, ofValue, Ju, J0, J3, J2, J4, reduceCtorEq, reduceIte, Jx, Qm, Qk, Q1, aun, Qj, Jm, Jh, Q0, Jz, Ji, Qi, Jf, Q6, Jw, Jr, J1, J5, Ja, J9, Jb, J6, J7, Jd, J8, RB, Jy, Je, U8, k0, w1, l1, hx])
        | (simp (disch := first | omega | (simp only [RO]; done) | assumption) only [RS, Xc, Xe, Xb])
        | (simp (disch := (first | omega | (simp only [RO]; done) | assumption | (simp only [RM, Je]; done) | (simp only [RL, Je]; omega))) only [RD, reduceCtorEq, reduceIte, Je, J1, J3, J2, J6, U8, k0, w1, l1, hx])
      all_goals
        (
         (refine Q9 (rs := [.tmp 2]) rfl ?_)
         (simp only [Qt, Q4, Fr.put_some, Fr.put_none, Qg, Qh, Qn, J0, reduceIte])
         (try simp (disch := (first | omega | (simp only [RO]; done) | assumption | (simp only [RM, Je]; done) | (simp only [RL, Je]; omega))) only [RD, reduceCtorEq, reduceIte, Je, J1, J3, J2, J6, U8]))
      all_goals rw [← ht, tl_nz hx]
abbrev BV (x : Int) (s : AV) : AV := .agg [.bool (decide (x < 0)), s]
theorem made_calls (neg : Bool) (s : AV) (xs : List Int) (H : Hp) (hs : Ints H .u64 s xs) : ACalls Tryd.prog 37 [.bool neg, s] H fun r H' => r = .agg [.bool (neg && decide (0 < xs.length)), s] ∧ H = H' := by
  refine ACalls.drop (R := fun r => r = .agg [.bool (neg && decide (0 < xs.length)), s]) ?_
  have hs1 : s.one = true := hs.rd.one
  have hc : s.cells = [s] := AV.cells_one hs1
  have hl := hs.rd.len Xo
  have hlt := hs.rd.lt
  refine Qe Tryd.func37 rfl (by kernel_rfl) (by kernel_rfl) ?_
  have hp : (0 < (xs.length : Int)) = (0 < xs.length) := propext (by omega)
  cases neg
  · skip
    repeat' first
      | (with_reducible first | refine Jj (fun K hK => ?_) | refine Js ?_ | refine Q2 ?_ | refine Qc ?_ | refine Qb ?_ | refine Jg ?_ | refine Jq ?_)
      | (with_reducible refine Jv (fun hc => ?_) (fun hc => ?_) <;> (try simp only [RC] at hc) <;> (try (exfalso; first | omega | contradiction)))
      | (with_reducible refine X3 (fun hc => ?_) (fun hc => ?_) <;> (try simp only [RC] at hc) <;> (try (exfalso; first | omega | contradiction)))
      | (simp only [Q8, Jk, reduceIte, J0])
      | ((with_reducible refine hK _ _ ?_); clear hK)
      | (clear hK; (with_reducible refine hK _ _ ?_); clear hK)
      | (clear hK; clear hK; (with_reducible refine hK _ _ ?_); clear hK)
      | (clear hK; clear hK; clear hK; (with_reducible refine hK _ _ ?_); clear hK)
      | (clear hK; clear hK; clear hK; clear hK; (with_reducible refine hK _ _ ?_); clear hK)
      | (clear hK; clear hK; clear hK; clear hK; clear hK; (with_reducible refine hK _ _ ?_); clear hK)
      | (simp only [Qa, RA, Jo, Jn, Jp, Q7, Q5, ev, ofValue, Ju, J0, J3, J2, J4, reduceCtorEq, reduceIte, Jx, Qm, Qk, Q1, aun, Qj, Jm, Jh, Q0, Jz, Ji, Qi, Jf, Q6, Jw, Jr, J1, J5, Ja, J9, Jb, J6, J7, Jd, J8, RB, Jy, Je, R7, hl])
      | (simp (disch := first | omega | (simp only [RO]; done) | assumption) only [RS, Xc, Xe, Xb, Xk])
      | (simp (disch := (first | omega | (simp only [RO]; done) | assumption | (simp only [RM, Je]; done) | (simp only [RL, Je]; omega))) only [RD, reduceCtorEq, reduceIte, Je, J1, J3, J2, J6, R7, hl])
    (
     (refine Q9 (rs := [.cell 4 51]) rfl ?_)
     (simp only [Qt, Q4, Fr.put_some, Fr.put_none, Qg, Qh, Qn, J0, reduceIte])
     (try simp (disch := (first | omega | (simp only [RO]; done) | assumption | (simp only [RM, Je]; done) | (simp only [RL, Je]; omega))) only [RD, reduceCtorEq, reduceIte, Je, J1, J3, J2, J6, R7]))
    exact ⟨Ext.push _ _, by simp only [AV.lt, AV.lts]; exact ⟨trivial, hlt, trivial⟩⟩
  · skip
    repeat' first
      | (with_reducible first | refine Jj (fun K hK => ?_) | refine Js ?_ | refine Q2 ?_ | refine Qc ?_ | refine Qb ?_ | refine Jg ?_ | refine Jq ?_)
      | (with_reducible refine Jv (fun hc => ?_) (fun hc => ?_) <;> (try simp only [RC] at hc) <;> (try (exfalso; first | omega | contradiction)))
      | (with_reducible refine X3 (fun hc => ?_) (fun hc => ?_) <;> (try simp only [RC] at hc) <;> (try (exfalso; first | omega | contradiction)))
      | (simp only [Q8, Jk, reduceIte, J0])
      | ((with_reducible refine hK _ _ ?_); clear hK)
      | (clear hK; (with_reducible refine hK _ _ ?_); clear hK)
      | (clear hK; clear hK; (with_reducible refine hK _ _ ?_); clear hK)
      | (clear hK; clear hK; clear hK; (with_reducible refine hK _ _ ?_); clear hK)
      | (clear hK; clear hK; clear hK; clear hK; (with_reducible refine hK _ _ ?_); clear hK)
      | (clear hK; clear hK; clear hK; clear hK; clear hK; (with_reducible refine hK _ _ ?_); clear hK)
      | (simp only [Qa, RA, Jo, Jn, Jp, Q7, Q5, ev, ofValue, Ju, J0, J3, J2, J4, reduceCtorEq, reduceIte, Jx, Qm, Qk, Q1, aun, Qj, Jm, Jh, Q0, Jz, Ji, Qi, Jf, Q6, Jw, Jr, J1, J5, Ja, J9, Jb, J6, J7, Jd, J8, RB, Jy, Je, R7, hl, hp])
      | (simp (disch := first | omega | (simp only [RO]; done) | assumption) only [RS, Xc, Xe, Xb, Xk])
      | (simp (disch := (first | omega | (simp only [RO]; done) | assumption | (simp only [RM, Je]; done) | (simp only [RL, Je]; omega))) only [RD, reduceCtorEq, reduceIte, Je, J1, J3, J2, J6, R7, hl, hp])
    (
     (refine Q9 (rs := [.cell 4 51]) rfl ?_)
     (simp only [Qt, Q4, Fr.put_some, Fr.put_none, Qg, Qh, Qn, J0, reduceIte])
     (try simp (disch := (first | omega | (simp only [RO]; done) | assumption | (simp only [RM, Je]; done) | (simp only [RL, Je]; omega))) only [RD, reduceCtorEq, reduceIte, Je, J1, J3, J2, J6, R7]))
    exact ⟨Ext.push _ _, by simp only [AV.lt, AV.lts]; exact ⟨trivial, hlt, trivial⟩⟩
theorem Sign_calls (x : Int) (s : AV) (H : Hp) (hs : Bs_ H s x) : ACalls Tryd.prog 57 [BV x s] H fun r H' => r = .int .i64 x.sign ∧ H = H' := by
  refine ACalls.drop (R := fun r => r = .int .i64 x.sign) ?_
  obtain ⟨xs, u, c, hv⟩ := hs.ex
  have hs1 : s.one = true := u.rd.rd.one
  have hc : s.cells = [s] := AV.cells_one hs1
  have hl := u.rd.rd.len Xo
  have hz : xs.length = 0 ↔ x = 0 := by
    constructor
    · intro h
      have : xs = [] := List.eq_nil_of_length_eq_zero h
      subst this
      simp [val] at hv; omega
    · intro h
      subst h
      rcases c.top with h | h
      · rw [h]; rfl
      · have h1 := val_top c.lim h
        have h2 : (0 : Int) < Bs ^ (xs.length - 1) := Int.pow_pos (by decide)
        simp at hv; omega
  refine Qe Tryd.func57 rfl (by kernel_rfl) (by kernel_rfl) ?_
  rcases Int.lt_trichotomy x 0 with h | h | h
  · have e1 : ((xs.length : Int) = 0) = False := eq_false (by omega)
    have e2 : (x < 0) = True := eq_true h
    repeat' first
      | (with_reducible first | refine Jj (fun K hK => ?_) | refine Js ?_ | refine Q2 ?_ | refine Qc ?_ | refine Qb ?_ | refine Jg ?_ | refine Jq ?_)
      | (with_reducible refine Jv (fun hc => ?_) (fun hc => ?_) <;> (try simp only [RC] at hc) <;> (try (exfalso; first | omega | contradiction)))
      | (with_reducible refine X3 (fun hc => ?_) (fun hc => ?_) <;> (try simp only [RC] at hc) <;> (try (exfalso; first | omega | contradiction)))
      | (simp only [Q8, Jk, reduceIte, J0])
      | ((with_reducible refine hK _ _ ?_); clear hK)
      | (clear hK; (with_reducible refine hK _ _ ?_); clear hK)
      | (clear hK; clear hK; (with_reducible refine hK _ _ ?_); clear hK)
      | (clear hK; clear hK; clear hK; (with_reducible refine hK _ _ ?_); clear hK)
      | (clear hK; clear hK; clear hK; clear hK; (with_reducible refine hK _ _ ?_); clear hK)
      | (clear hK; clear hK; clear hK; clear hK; clear hK; (with_reducible refine hK _ _ ?_); clear hK)
      | (simp only [Qa, RA, Jo, Jn, Jp, Q7, Q5, ev, ofValue, Ju, J0, J3, J2, J4, reduceCtorEq, reduceIte, Jx, Qm, Qk, Q1, aun, Qj, Jm, Jh, Q0, Jz, Ji, Qi, Jf, Q6, Jw, Jr, J1, J5, Ja, J9, Jb, J6, J7, Jd, J8, RB, Jy, Je, Uw, hl, e1, e2])
      | (simp (disch := first | omega | (simp only [RO]; done) | assumption) only [RS, Xc, Xe, Xb, Xk])
      | (simp (disch := (first | omega | (simp only [RO]; done) | assumption | (simp only [RM, Je]; done) | (simp only [RL, Je]; omega))) only [RD, reduceCtorEq, reduceIte, Je, J1, J3, J2, J6, Uw, hl, e1, e2])
    all_goals
      (
       (refine Q9 (rs := [.tmp 2]) rfl ?_)
       (simp only [Qt, Q4, Fr.put_some, Fr.put_none, Qg, Qh, Qn, J0, reduceIte])
       (try simp (disch := (first | omega | (simp only [RO]; done) | assumption | (simp only [RM, Je]; done) | (simp only [RL, Je]; omega))) only [RD, reduceCtorEq, reduceIte, Je, J1, J3, J2, J6, Uw]))
    all_goals exact ⟨Ext.push _ _, trivial, by rw [Int.sign_eq_neg_one_of_neg h]⟩
  · have e1 : ((xs.length : Int) = 0) = True := eq_true (by omega)
    repeat' first
      | (with_reducible first | refine Jj (fun K hK => ?_) | refine Js ?_ | refine Q2 ?_ | refine Qc ?_ | refine Qb ?_ | refine Jg ?_ | refine Jq ?_)
      | (with_reducible refine Jv (fun hc => ?_) (fun hc => ?_) <;> (try simp only [RC] at hc) <;> (try (exfalso; first | omega | contradiction)))
      | (with_reducible refine X3 (fun hc => ?_) (fun hc => ?_) <;> (try simp only [RC] at hc) <;> (try (exfalso; first | omega | contradiction)))
      | (simp only [Q8, Jk, reduceIte, J0])
      | ((with_reducible refine hK _ _ ?_); clear hK)
      | (clear hK; (with_reducible refine hK _ _ ?_); clear hK)
      | (clear hK; clear hK; (with_reducible refine hK _ _ ?_); clear hK)
      | (clear hK; clear hK; clear hK; (with_reducible refine hK _ _ ?_); clear hK)
      | (clear hK; clear hK; clear hK; clear hK; (with_reducible refine hK _ _ ?_); clear hK)
      | (clear hK; clear hK; clear hK; clear hK; clear hK; (with_reducible refine hK _ _ ?_); clear hK)
      | (simp only [Qa, RA, Jo, Jn, Jp, Q7, Q5, ev, ofValue, Ju, J0, J3, J2, J4, reduceCtorEq, reduceIte, Jx, Qm, Qk, Q1, aun, Qj, Jm, Jh, Q0, Jz, Ji, Qi, Jf, Q6, Jw, Jr, J1, J5, Ja, J9, Jb, J6, J7, Jd, J8, RB, Jy, Je, Uw, hl, e1, h])
      | (simp (disch := first | omega | (simp only [RO]; done) | assumption) only [RS, Xc, Xe, Xb, Xk])
      | (simp (disch := (first | omega | (simp only [RO]; done) | assumption | (simp only [RM, Je]; done) | (simp only [RL, Je]; omega))) only [RD, reduceCtorEq, reduceIte, Je, J1, J3, J2, J6, Uw, hl, e1, h])
    all_goals
      (
       (refine Q9 (rs := [.tmp 2]) rfl ?_)
       (simp only [Qt, Q4, Fr.put_some, Fr.put_none, Qg, Qh, Qn, J0, reduceIte])
       (try simp (disch := (first | omega | (simp only [RO]; done) | assumption | (simp only [RM, Je]; done) | (simp only [RL, Je]; omega))) only [RD, reduceCtorEq, reduceIte, Je, J1, J3, J2, J6, Uw]))
    all_goals exact ⟨Ext.push _ _, trivial, rfl⟩
  · have e1 : ((xs.length : Int) = 0) = False := eq_false (by omega)
    have e2 : (x < 0) = False := eq_false (by omega)
    repeat' first
      | (with_reducible first | refine Jj (fun K hK => ?_) | refine Js ?_ | refine Q2 ?_ | refine Qc ?_ | refine Qb ?_ | refine Jg ?_ | refine Jq ?_)
      | (with_reducible refine Jv (fun hc => ?_) (fun hc => ?_) <;> (try simp only [RC] at hc) <;> (try (exfalso; first | omega | contradiction)))
      | (with_reducible refine X3 (fun hc => ?_) (fun hc => ?_) <;> (try simp only [RC] at hc) <;> (try (exfalso; first | omega | contradiction)))
      | (simp only [Q8, Jk, reduceIte, J0])
      | ((with_reducible refine hK _ _ ?_); clear hK)
      | (clear hK; (with_reducible refine hK _ _ ?_); clear hK)
      | (clear hK; clear hK; (with_reducible refine hK _ _ ?_); clear hK)
      | (clear hK; clear hK; clear hK; (with_reducible refine hK _ _ ?_); clear hK)
      | (clear hK; clear hK; clear hK; clear hK; (with_reducible refine hK _ _ ?_); clear hK)
      | (clear hK; clear hK; clear hK; clear hK; clear hK; (with_reducible refine hK _ _ ?_); clear hK)
      | (simp only [Qa, RA, Jo, Jn, Jp, Q7, Q5, ev, ofValue, Ju, J0, J3, J2, J4, reduceCtorEq, reduceIte, Jx, Qm, Qk, Q1, aun, Qj, Jm, Jh, Q0, Jz, Ji, Qi, Jf, Q6, Jw, Jr, J1, J5, Ja, J9, Jb, J6, J7, Jd, J8, RB, Jy, Je, Uw, hl, e1, e2])
      | (simp (disch := first | omega | (simp only [RO]; done) | assumption) only [RS, Xc, Xe, Xb, Xk])
      | (simp (disch := (first | omega | (simp only [RO]; done) | assumption | (simp only [RM, Je]; done) | (simp only [RL, Je]; omega))) only [RD, reduceCtorEq, reduceIte, Je, J1, J3, J2, J6, Uw, hl, e1, e2])
    all_goals
      (
       (refine Q9 (rs := [.tmp 2]) rfl ?_)
       (simp only [Qt, Q4, Fr.put_some, Fr.put_none, Qg, Qh, Qn, J0, reduceIte])
       (try simp (disch := (first | omega | (simp only [RO]; done) | assumption | (simp only [RM, Je]; done) | (simp only [RL, Je]; omega))) only [RD, reduceCtorEq, reduceIte, Je, J1, J3, J2, J6, Uw]))
    all_goals exact ⟨Ext.push _ _, trivial, by rw [Int.sign_eq_one_of_pos h]⟩
theorem Neg_calls (x : Int) (s : AV) (H : Hp) (hs : Bs_ H s x) : ACalls Tryd.prog 72 [BV x s] H fun r H' => r = BV (-x) s ∧ H = H' := by
  refine ACalls.drop (R := fun r => r = BV (-x) s) ?_
  obtain ⟨xs, u, c, hv⟩ := hs.ex
  have hs1 : s.one = true := u.rd.rd.one
  have hc : s.cells = [s] := AV.cells_one hs1
  have hz := Bs_.nil (H := H) (s := s) c hv
  have hm := fun H0 (x0 : Ext H H0) => made_calls (!decide (x < 0)) s xs H0 (u.rd.ext x0)
  have he : ((!decide (x < 0)) && decide (0 < xs.length)) = decide (-x < 0) := by
    by_cases h : x < 0
    · simp [h]; omega
    · by_cases h0 : x = 0
      · simp [h0, hz.2 h0]
      · have : ¬ xs.length = 0 := fun e => h0 (hz.1 e)
        simp [h]; omega
  rw [he] at hm
  refine Qe Tryd.func72 rfl (by kernel_rfl) (by kernel_rfl) ?_
  repeat' first
    | (with_reducible first | refine Jj (fun K hK => ?_) | refine Js ?_ | refine Q2 ?_ | refine Qc ?_ | refine Qb ?_ | refine Jg ?_ | refine Jq ?_)
    | ((with_reducible refine Jt (hm _ ((Ext.push _ _).pushed _)) ?_); rintro _ _ ⟨rfl, rfl⟩)
    | (with_reducible refine Jv (fun hc => ?_) (fun hc => ?_) <;> (try simp only [RC] at hc) <;> (try (exfalso; first | omega | contradiction)))
    | (with_reducible refine X3 (fun hc => ?_) (fun hc => ?_) <;> (try simp only [RC] at hc) <;> (try (exfalso; first | omega | contradiction)))
    | (simp only [Q8, Jk, reduceIte, J0])
    | ((with_reducible refine hK _ _ ?_); clear hK)
    | (clear hK; (with_reducible refine hK _ _ ?_); clear hK)
    | (clear hK; clear hK; (with_reducible refine hK _ _ ?_); clear hK)
    | (clear hK; clear hK; clear hK; (with_reducible refine hK _ _ ?_); clear hK)
    | (clear hK; clear hK; clear hK; clear hK; (with_reducible refine hK _ _ ?_); clear hK)
    | (clear hK; clear hK; clear hK; clear hK; clear hK; (with_reducible refine hK _ _ ?_); clear hK)
    | (simp only [Qa, RA, Jo, Jn, Jp, Q7, Q5, ev, ofValue, Ju, J0, J3, J2, J4, reduceCtorEq, reduceIte, Jx, Qm, Qk, Q1, aun, Qj, Jm, Jh, Q0, Jz, Ji, Qi, Jf, Q6, Jw, Jr, J1, J5, Ja, J9, Jb, J6, J7, Jd, J8, RB, Jy, Je, tf72RfA])
    | (simp (disch := first | omega | (simp only [RO]; done) | assumption) only [RS, Xc, Xe, Xb, Xk])
    | (simp (disch := (first | omega | (simp only [RO]; done) | assumption | (simp only [RM, Je]; done) | (simp only [RL, Je]; omega))) only [RD, reduceCtorEq, reduceIte, Je, J1, J3, J2, J6, tf72RfA])
  all_goals
    (
     (refine Q9 (rs := [.cell 2 51]) rfl ?_)
     (simp only [Qt, Q4, Fr.put_some, Fr.put_none, Qg, Qh, Qn, J0, reduceIte])
     (try simp (disch := (first | omega | (simp only [RO]; done) | assumption | (simp only [RM, Je]; done) | (simp only [RL, Je]; omega))) only [RD, reduceCtorEq, reduceIte, Je, J1, J3, J2, J6, tf72RfA]))
  have hsl := hs.lt
  all_goals
    refine ⟨(Ext.push _ _).pushed _, ?_⟩
    simp [AV.lt, AV.lts, hsl]
end Go.Proofs.YtlgpemndbfclfaaDoor
namespace Go.Proofs.YtlgpemndbfclfaaDoor
open Go.AL Go.PW
theorem Vh : type_of% (Jc @Xz (Jc @Z6 (@Qx))) := Jc @Xz (Jc @Z6 (@Qx))
abbrev pn39_8RfB : Plan := (.one 0 (.one 1 (.one 2 (.one 3 (.one 4 (.one 5 (.one 6 (.one 7 (.one 8 .nil)))))))))
abbrev pn39_9RfB : Plan := (.one 0 (.one 1 (.one 2 (.one 3 (.one 4 (.one 5 (.one 6 (.one 7 (.one 8 .nil)))))))))
set_option maxRecDepth 8000
theorem Can.low {xs : List Int} (c : Can xs) (h : xs.length ≠ 0) : Bs ^ (xs.length - 1) ≤ val xs := by
  rcases c.top with e | e
  · rw [e] at h; exact absurd rfl h
  · exact val_top c.lim e
theorem J0a {xs ys : List Int} (hx : Limbs xs) (c : Can ys) (h : xs.length < ys.length) : val xs < val ys := by
  have h1 := (Qq hx).2
  have h2 := c.low (by omega)
  have h3 : Bs ^ xs.length ≤ Bs ^ (ys.length - 1) := by
    obtain ⟨d, hd⟩ : ∃ d, ys.length - 1 = xs.length + d := ⟨ys.length - 1 - xs.length, by omega⟩
    rw [hd, Int.pow_add]
    have h4 : (1 : Int) ≤ Bs ^ d := by
      have h6 : (0 : Int) < Bs ^ d := Int.pow_pos (by decide)
      omega
    have h5 : (0 : Int) ≤ Bs ^ xs.length := Int.le_of_lt (Int.pow_pos (by decide))
    have := Int.mul_le_mul_of_nonneg_left h4 h5
    omega
  omega
theorem val_limb_lt {xs ys : List Int} (hx : Limbs xs) (hy : Limbs ys) (hl : xs.length = ys.length) {i : Nat} (hi : i < xs.length) (hd : val (xs.drop (i + 1)) = val (ys.drop (i + 1))) (h : xs.getD i 0 < ys.getD i 0) : val xs < val ys := by
  have a1 := Z4 xs i
  have a2 := Z4 ys i
  rw [Nat.min_eq_left (by omega)] at a1 a2
  have b1 := Zq xs hi
  have b2 := Zq ys (i := i) (by omega)
  have c1 := (Qq (hx.take i)).2
  have c2 := (Qq (hy.take i)).1
  rw [List.length_take, Nat.min_eq_left (by omega)] at c1
  have hp : (0 : Int) ≤ Bs ^ i := Int.le_of_lt (Int.pow_pos (by decide))
  have d1 : val (xs.drop i) + 1 ≤ val (ys.drop i) := by rw [b1, b2, hd]; omega
  have d2 := Int.mul_le_mul_of_nonneg_left d1 hp
  rw [Int.mul_add] at d2
  omega
set_option maxHeartbeats 4000000 in
theorem cmp_calls (s t : AV) (xs ys : List Int) (H : Hp) (hs : Ints H .u64 s xs) (ht : Ints H .u64 t ys) (cx : Can xs) (cy : Can ys) : ACalls Tryd.prog 39 [s, t] H fun r H' => r = .int .i64 (val xs - val ys).sign ∧ H = H' := by
  have lx := cx.len
  have ly := cy.len
  have l1 := hs.rd.len Xo
  have l2 := ht.rd.len Xo
  have n1 : val xs < val ys → (val xs - val ys).sign = -1 := fun h => Int.sign_eq_neg_one_of_neg (by omega)
  have n2 : val ys < val xs → (val xs - val ys).sign = 1 := fun h => Int.sign_eq_one_of_pos (by omega)
  refine Qe Tryd.func39 rfl (by kernel_rfl) (by kernel_rfl) ?_
  by_cases hl : xs.length = ys.length
  · have e1 : ((xs.length : Int) = (ys.length : Int)) = True := eq_true (by omega)
    have w1 : IntKind.i64.wrap ((xs.length : Int) - 1) = (xs.length : Int) - 1 := Q3 (by omega) (by omega)
    repeat' first
      | (with_reducible first | refine Jj (fun K hK => ?_) | refine Js ?_ | refine Q2 ?_ | refine Jg ?_ | refine Jq ?_)
      | (simp only [Q8, Jk, reduceIte, J0])
      | ((with_reducible refine hK _ _ ?_); clear hK)
      | (simp only [Qa, RA, Jo, Jn, Jp, Q7, Q5, ev, ofValue, Ju, J0, J3, J2, J4, reduceCtorEq, reduceIte, Jx, Qm, Qk, Q1, aun, Qj, Jm, Jh, Q0, Jz, Ji, Qi, Jf, Q6, Jw, Jr, J1, J5, Ja, J9, Jb, J6, J7, Jd, J8, RB, Jy, Je, Vh, l1, l2, e1, w1])
    refine Xr (fun m fr' H' => m ≤ xs.length ∧ fr' 0 = s ∧ fr' 1 = t ∧ fr' 5 = .int .i64 ((m : Int) - 1) ∧ val (xs.drop m) = val (ys.drop m) ∧ H = H') (m := xs.length)
      ⟨Nat.le_refl _, rfl, rfl, rfl, by rw [List.drop_length, hl, List.drop_length], rfl⟩ ?_
    rintro m fr' H' ⟨hm, k0, k1, k5, hd, rfl⟩
    cases m with
    | zero =>
      simp only [List.drop_zero] at hd
      have hv : (val xs - val ys).sign = 0 := by rw [hd, Int.sub_self]; rfl
      have k5' : fr' 5 = .int .i64 (-1) := k5
      repeat' first
        | (with_reducible first | refine Jj (fun K hK => ?_) | refine Qc ?_ | refine Qb ?_ | refine Jg ?_ | refine Jq ?_)
        | (simp only [Q8, Jk, reduceIte, J0])
        | ((with_reducible refine hK _ _ ?_); clear hK)
        | (clear hK; (with_reducible refine hK _ _ ?_); clear hK)
        | (simp only [Qa, RA, Jo, Jn, Jp, Q7, Q5, ev, ofValue, Ju, J0, J3, J2, J4, reduceCtorEq, reduceIte, Jx, Qm, Qk, Q1, aun, Qj, Jm, Jh, Q0, Jz, Ji, Qi, Jf, Q6, Jw, Jr, J1, J5, Ja, J9, Jb, J6, J7, Jd, J8, RB, Jy, Je, Vh, k0, k1, k5'])
      all_goals
        (
         (refine Q9 (rs := [.tmp 4]) rfl ?_)
         (simp only [Qt, Q4, Fr.put_some, Fr.put_none, Qg, Qh, Qn, J0, reduceIte, hv])
         (try simp (disch := (first | omega | (simp only [RO]; done) | assumption | (simp only [RM, Je]; done) | (simp only [RL, Je]; omega))) only [RD, reduceCtorEq, reduceIte, Je, J1, J3, J2, J6, Vh, hv]))
    | succ m =>
      have k5' : fr' 5 = .int .i64 (m : Int) := by rw [k5]; congr 1; omega
      have w2 : IntKind.i64.wrap ((m : Int) - 1) = (m : Int) - 1 := Q3 (by omega) (by omega)
      rcases Int.lt_trichotomy (xs.getD m 0) (ys.getD m 0) with h | h | h
      · have hv := n1 (val_limb_lt cx.lim cy.lim hl (by omega) hd h)
        have f1 : (xs.getD m 0 = ys.getD m 0) = False := eq_false (by omega)
        have f2 : (xs.getD m 0 < ys.getD m 0) = True := eq_true h
        repeat' first
          | (with_reducible first | refine Jj (fun K hK => ?_) | refine Js ?_ | refine Q2 ?_ | refine Qb ?_ | refine Jg ?_ | refine Qf (id := 8) [] pn39_8RfB (by kernel_rfl) (by kernel_rfl) ?_ | refine Qf (id := 9) [] pn39_9RfB (by kernel_rfl) (by kernel_rfl) ?_ | refine Jq ?_)
          | (with_reducible refine X3 (fun hc => ?_) (fun hc => ?_) <;> (try simp only [RC] at hc) <;> (try (exfalso; first | omega | contradiction)))
          | (simp only [Q8, Jk, reduceIte, J0])
          | ((with_reducible refine hK _ _ ?_); clear hK)
          | (simp only [Qa, RA, Jo, Jn, Jp, Q7, Q5, ev, ofValue, Ju, J0, J3, J2, J4, reduceCtorEq, reduceIte, Jx, Qm, Qk, Q1, aun, Qj, Jm, Jh, Q0, Jz, Ji, Qi, Jf, Q6, Jw, Jr, J1, J5, Ja, J9, Jb, J6, J7, Jd, J8, RB, Jy, Je, Vh, k0, k1, k5', f1, f2])
          | (simp (disch := first | omega | (simp only [RO]; done) | assumption) only [RS, hs.rd.at1 Xo Xa, hs.load1 Zx, ht.rd.at1 Xo Xa, ht.load1 Zx, Xc, Xe, Xb])
        all_goals
          (
           (refine Q9 (rs := [.tmp 4]) rfl ?_)
           (simp only [Qt, Q4, Fr.put_some, Fr.put_none, Qg, Qh, Qn, J0, reduceIte, hv])
           (try simp (disch := (first | omega | (simp only [RO]; done) | assumption | (simp only [RM, Je]; done) | (simp only [RL, Je]; omega))) only [RD, reduceCtorEq, reduceIte, Je, J1, J3, J2, J6, Vh, hv]))
      · have hd2 : val (xs.drop m) = val (ys.drop m) := by rw [Zq xs (by omega), Zq ys (by omega), hd, h]
        repeat' first
          | (with_reducible first | refine Jj (fun K hK => ?_) | refine Js ?_ | refine Q2 ?_ | refine Jg ?_ | refine Qf (id := 8) [] pn39_8RfB (by kernel_rfl) (by kernel_rfl) ?_ | refine Jq ?_)
          | (with_reducible refine X3 (fun hc => ?_) (fun hc => ?_) <;> (try simp only [RC] at hc) <;> (try (exfalso; first | omega | contradiction)))
          | (simp only [Q8, Jk, reduceIte, J0])
          | ((with_reducible refine hK _ _ ?_); clear hK)
          | (simp only [Qa, RA, Jo, Jn, Jp, Q7, Q5, ev, ofValue, Ju, J0, J3, J2, J4, reduceCtorEq, reduceIte, Jx, Qm, Qk, Q1, aun, Qj, Jm, Jh, Q0, Jz, Ji, Qi, Jf, Q6, Jw, Jr, J1, J5, Ja, J9, Jb, J6, J7, Jd, J8, RB, Jy, Je, Vh, k0, k1, k5', w2, h])
          | (simp (disch := first | omega | (simp only [RO]; done) | assumption) only [RS, hs.rd.at1 Xo Xa, hs.load1 Zx, ht.rd.at1 Xo Xa, ht.load1 Zx, Xc, Xe, Xb])
        all_goals exact ⟨m, by omega, by omega, rfl, hd2⟩
      · have hv := n2 (val_limb_lt cy.lim cx.lim hl.symm (by omega) hd.symm h)
        have f1 : (xs.getD m 0 = ys.getD m 0) = False := eq_false (by omega)
        have f2 : (xs.getD m 0 < ys.getD m 0) = False := eq_false (by omega)
        repeat' first
          | (with_reducible first | refine Jj (fun K hK => ?_) | refine Js ?_ | refine Q2 ?_ | refine Qb ?_ | refine Jg ?_ | refine Qf (id := 8) [] pn39_8RfB (by kernel_rfl) (by kernel_rfl) ?_ | refine Qf (id := 9) [] pn39_9RfB (by kernel_rfl) (by kernel_rfl) ?_ | refine Jq ?_)
          | (with_reducible refine X3 (fun hc => ?_) (fun hc => ?_) <;> (try simp only [RC] at hc) <;> (try (exfalso; first | omega | contradiction)))
          | (simp only [Q8, Jk, reduceIte, J0])
          | ((with_reducible refine hK _ _ ?_); clear hK)
          | (simp only [Qa, RA, Jo, Jn, Jp, Q7, Q5, ev, ofValue, Ju, J0, J3, J2, J4, reduceCtorEq, reduceIte, Jx, Qm, Qk, Q1, aun, Qj, Jm, Jh, Q0, Jz, Ji, Qi, Jf, Q6, Jw, Jr, J1, J5, Ja, J9, Jb, J6, J7, Jd, J8, RB, Jy, Je, Vh, k0, k1, k5', f1, f2])
          | (simp (disch := first | omega | (simp only [RO]; done) | assumption) only [RS, hs.rd.at1 Xo Xa, hs.load1 Zx, ht.rd.at1 Xo Xa, ht.load1 Zx, Xc, Xe, Xb])
        all_goals
          (
           (refine Q9 (rs := [.tmp 4]) rfl ?_)
           (simp only [Qt, Q4, Fr.put_some, Fr.put_none, Qg, Qh, Qn, J0, reduceIte, hv])
           (try simp (disch := (first | omega | (simp only [RO]; done) | assumption | (simp only [RM, Je]; done) | (simp only [RL, Je]; omega))) only [RD, reduceCtorEq, reduceIte, Je, J1, J3, J2, J6, Vh, hv]))
  · have e1 : ((xs.length : Int) = (ys.length : Int)) = False := eq_false (by omega)
    by_cases h : xs.length < ys.length
    · have e2 : ((xs.length : Int) < (ys.length : Int)) = True := eq_true (by omega)
      have hv := n1 (J0a cx.lim cy h)
      repeat' first
        | (with_reducible first | refine Jj (fun K hK => ?_) | refine Qb ?_ | refine Jg ?_ | refine Jq ?_)
        | (simp only [Q8, Jk, reduceIte, J0])
        | ((with_reducible refine hK _ _ ?_); clear hK)
        | (simp only [Qa, RA, Jo, Jn, Jp, Q7, Q5, ev, ofValue, Ju, J0, J3, J2, J4, reduceCtorEq, reduceIte, Jx, Qm, Qk, Q1, aun, Qj, Jm, Jh, Q0, Jz, Ji, Qi, Jf, Q6, Jw, Jr, J1, J5, Ja, J9, Jb, J6, J7, Jd, J8, RB, Jy, Je, Vh, l1, l2, e1, e2])
      all_goals
        (
         (refine Q9 (rs := [.tmp 4]) rfl ?_)
         (simp only [Qt, Q4, Fr.put_some, Fr.put_none, Qg, Qh, Qn, J0, reduceIte, hv])
         (try simp (disch := (first | omega | (simp only [RO]; done) | assumption | (simp only [RM, Je]; done) | (simp only [RL, Je]; omega))) only [RD, reduceCtorEq, reduceIte, Je, J1, J3, J2, J6, Vh, hv]))
    · have e2 : ((xs.length : Int) < (ys.length : Int)) = False := eq_false (by omega)
      have hv := n2 (J0a cy.lim cx (by omega))
      repeat' first
        | (with_reducible first | refine Jj (fun K hK => ?_) | refine Q2 ?_ | refine Qb ?_ | refine Jg ?_ | refine Jq ?_)
        | (simp only [Q8, Jk, reduceIte, J0])
        | ((with_reducible refine hK _ _ ?_); clear hK)
        | (simp only [Qa, RA, Jo, Jn, Jp, Q7, Q5, ev, ofValue, Ju, J0, J3, J2, J4, reduceCtorEq, reduceIte, Jx, Qm, Qk, Q1, aun, Qj, Jm, Jh, Q0, Jz, Ji, Qi, Jf, Q6, Jw, Jr, J1, J5, Ja, J9, Jb, J6, J7, Jd, J8, RB, Jy, Je, Vh, l1, l2, e1, e2])
      all_goals
        (
         (refine Q9 (rs := [.tmp 4]) rfl ?_)
         (simp only [Qt, Q4, Fr.put_some, Fr.put_none, Qg, Qh, Qn, J0, reduceIte, hv])
         (try simp (disch := (first | omega | (simp only [RO]; done) | assumption | (simp only [RM, Je]; done) | (simp only [RL, Je]; omega))) only [RD, reduceCtorEq, reduceIte, Je, J1, J3, J2, J6, Vh, hv]))
end Go.Proofs.YtlgpemndbfclfaaDoor

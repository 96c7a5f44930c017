/- Part 23 of the proof of laws of this seat: lemmas on the model's code, on this program's functions, on numbers. No condition. -/
import Derived.Test.YtfalfmfkifemeaaDoorZDiaav
set_option linter.unusedVariables false
set_option linter.unusedSimpArgs false
namespace Go.Proofs.YtfalfmfkifemeaaDoor
open Go.AL Go.PW Go.PD
theorem tf5LdB : type_of% (And.intro @tyb2 (And.intro @tyb3 (And.intro @tyb4 (And.intro @tyb22 (And.intro @tyb24 (And.intro @tyb25 (And.intro @tyb27 (And.intro @tyb28 (And.intro @tyb29 (And.intro @tyb34 (And.intro @tyb35 (And.intro @tyb36 (And.intro @tyb37 (And.intro @tyb38 (@tyb48))))))))))))))) := And.intro @tyb2 (And.intro @tyb3 (And.intro @tyb4 (And.intro @tyb22 (And.intro @tyb24 (And.intro @tyb25 (And.intro @tyb27 (And.intro @tyb28 (And.intro @tyb29 (And.intro @tyb34 (And.intro @tyb35 (And.intro @tyb36 (And.intro @tyb37 (And.intro @tyb38 (@tyb48))))))))))))))
abbrev pn5_5LdB : Plan := (.one 0 (.one 1 (.one 2 (.one 3 (.one 4 (.one 5 (.one 6 (.one 7 (.ext 8 (.one 9 (.one 10 (.one 11 (.one 12 (.one 13 (.one 14 (.one 15 (.one 16 (.one 17 (.one 18 (.one 19 (.one 20 (.one 21 (.one 22 (.one 23 (.one 24 (.one 25 (.one 26 (.one 27 (.one 28 (.one 29 (.one 30 .nil)))))))))))))))))))))))))))))))
set_option maxRecDepth 8000
theorem WsV.len {H : Hp} {v : AV} {ls : List Int} {lo : Nat} (h : WsV H v ls lo) : abuiltin Tryd.prog .len #[48] [v] = some (.int .i64 (ls.length : Int)) := h.rd.len und48
theorem WsV.ext {H H' : Hp} {v : AV} {ls : List Int} {lo : Nat} (h : WsV H v ls lo) (x : Ext H H') : WsV H' v ls lo := by
  rcases h with h | ⟨k, h1, h2, h3⟩
  · exact .inl h
  · exact .inr ⟨k, h1, hget_ext h2 x, h3⟩
theorem not_right_nil : ¬ Right (1 : Int) [] := fun h => by have := h.1.2.2; simp at this
theorem right_o1 (x : Int) (h : Fit x) : Right (1 : Nat) [x] := ⟨⟨by omega, by omega, by rfl⟩, fun y hy => by rw [List.mem_singleton.1 hy]; exact h⟩
theorem ints_o1 (H : Hp) (x : Int) : Ints (H ++ [Ib [x]]) .i64 (.sl H.length 0 1 1) [x] := Ints.lit H (by decide) rfl
theorem ints_lit3 (H : Hp) : Ints (H ++ [Ib [2, 1, 2]]) .i64 (.sl H.length 0 3 3) [2, 1, 2] := Ints.lit H (by decide) rfl
set_option maxHeartbeats 8000000 in
theorem known6_calls (H : Hp) (hN : Noted H) : ACalls Tryd.prog 5 [] H fun r H' => r = .bool true ∧ H = H' := by
  refine ACalls.drop (R := fun r => r = .bool true) ?_
  obtain ⟨a, ha⟩ : ∃ a : AV, a = .sl H.length 0 3 3 := ⟨_, rfl⟩
  have I : Ints (H ++ [Ib [2, 1, 2]]) .i64 a [2, 1, 2] := by rw [ha]; exact ints_lit3 H
  have R3 : Right (2 : Nat) [2, 1, 2] := ⟨⟨by omega, by omega, by rfl⟩, fun x hx => by
    simp only [List.mem_cons, List.not_mem_nil, or_false] at hx
    unfold Fit
    rcases hx with rfl | rfl | rfl <;> omega⟩
  have d1 : P (ent 2 [2, 1, 2]) 2 = 3 := by decide +kernel
  have d2 : (lead (ent 2 [2, 1, 2]) 2 0).length = 2 := by decide +kernel
  have d3 : posB (ent 2 [2, 1, 2]) 2 = true := by decide +kernel
  have d4 : posB (ent 1 [0]) 1 = false := by decide +kernel
  have D1 := fun H0 (x0 : Ext (H ++ [Ib [2, 1, 2]]) H0) => Det_calls 2 [2, 1, 2] a H0 (I.ext x0) R3
  have D2 := fun H0 (x0 : Ext (H ++ [Ib [2, 1, 2]]) H0) => Definite_calls 2 [2, 1, 2] a H0 (I.ext x0) R3
  have D3 := fun H0 (x0 : Ext (H ++ [Ib [2, 1, 2]]) H0) => Minors_calls 2 [2, 1, 2] a H0 (I.ext x0) R3
  rw [d1] at D1
  rw [d3] at D2
  have ha1 : a.one = true := by rw [ha]; rfl
  have hc : a.cells = [a] := AV.cells_one ha1
  simp only [Int.cast_ofNat_Int] at D1 D2 D3
  refine ACalls_body Tryd.func5 rfl (by kernel_rfl) (by kernel_rfl) ?_
  repeat' first
    | (with_reducible first | refine AWp_seq_k (fun K hK => ?_) | refine AWp_regionE ?_)
    | ((with_reducible refine ECall_intro (D1 _ (Ext.push _ _)) ?_); rintro _ _ ⟨rfl, rfl⟩)
    | (simp only [thenA, inBlockA, reduceIte, Nat.reduceEqDiff])
    | ((with_reducible refine hK _ _ ?_); clear hK)
    | (simp only [ACond, RA, EAtS_def, EAtX_def, wantedA, acall, astep, ev, ofValue, ofAtom, Nat.reduceEqDiff, Nat.reduceAdd, Nat.reduceMul, Nat.reduceSub, reduceCtorEq, reduceIte, aoptEv, abin, aint, ashift, aun, astr, aeqGuard, isConstOp, aconvH, aofStr, aconvSame, isU8, abuildSlice, afill, splice, azeros, Nat.reduceLeDiff, Nat.reduceLT, Int.reduceLE, Int.reduceLT, Int.reduceEq, Int.reduceToNat, Int.reducePow, IntKind.bits, Int.reduceNeg, RB, aalloc, Go.PW.dig_length, tf5LdB, ← ha])
    | (simp (disch := first | omega | (simp only [RO]; done) | assumption) only [RS, six22, gix22, six27, gix27, six48, gix48, idx35, slh35, idx36, slh36, bst25_e, bst25_0, bst25_01, bst29_01])
    | (simp (disch := (first | omega | (simp only [RO]; done) | assumption | (simp only [RM, Go.PW.dig_length]; done) | (simp only [RL, Go.PW.dig_length]; omega))) only [RD, reduceCtorEq, reduceIte, Go.PW.dig_length, Nat.reduceLeDiff, Nat.reduceAdd, Nat.reduceMul, Int.reduceToNat, tf5LdB, ← ha])
  refine ECall_intro (D3 _ (((Ext.push _ _).pushed _))) ?_
  rintro _ H2 ⟨v, rfl, V, x2⟩
  have q1 : hget H2 (H.length + 1) = some (Sb 2 a) := hget_ext (by rw [hget_old (by simp), hget_at (by simp)]) x2
  have q2 : hget H2 (H.length + 1 + 1) = some (Wb 3) := hget_ext (hget_at (by simp)) x2
  have hv1 : v.one = true := V.rd.one
  have hcv : v.cells = [v] := AV.cells_one hv1
  repeat' first
    | (with_reducible first | refine AWp_seq_k (fun K hK => ?_) | refine AWp_regionE ?_)
    | (simp only [thenA, inBlockA, reduceIte, Nat.reduceEqDiff])
    | ((with_reducible refine hK _ _ ?_); clear hK)
    | (simp only [ACond, RA, EAtS_def, EAtX_def, wantedA, acall, astep, ev, ofValue, ofAtom, Nat.reduceEqDiff, Nat.reduceAdd, Nat.reduceMul, Nat.reduceSub, reduceCtorEq, reduceIte, aoptEv, abin, aint, ashift, aun, astr, aeqGuard, isConstOp, aconvH, aofStr, aconvSame, isU8, abuildSlice, afill, splice, azeros, Nat.reduceLeDiff, Nat.reduceLT, Int.reduceLE, Int.reduceLT, Int.reduceEq, Int.reduceToNat, Int.reducePow, IntKind.bits, Int.reduceNeg, RB, aalloc, Go.PW.dig_length, tf5LdB, q1])
    | (simp (disch := first | omega | (simp only [RO]; done) | assumption) only [RS, six22, gix22, six27, gix27, six48, gix48, idx35, slh35, idx36, slh36, bst25_e, bst25_0, bst25_01, bst29_01])
  refine ECall_intro (Det_bad 1 [] .nilS _ (Ints.nil _ _) (by simp) not_right_nil) ?_
  rintro _ H3 ⟨e, rfl, E, x3⟩
  have he1 : e.one = true := by obtain ⟨k, rfl, _⟩ := E; rfl
  have hce : e.cells = [e] := AV.cells_one he1
  have x0 : Ext H (H3 ++ [Wb 0]) := (((((Ext.push _ _).pushed _).pushed _).trans x2).trans x3).pushed _
  have q13 := hget_ext (hget_ext q1 x3) (Ext.push H3 (Wb 0))
  have q23 := hget_ext (hget_ext q2 x3) (Ext.push H3 (Wb 0))
  have hlen := V.len
  rw [d2] at hlen
  repeat' first
    | (with_reducible first | refine AWp_seq_k (fun K hK => ?_) | refine AWp_drawE (id := 5) [8] pn5_5LdB (by kernel_rfl) (by kernel_rfl) ?_ | refine Run_ext ?_)
    | (simp only [thenA, inBlockA, reduceIte, Nat.reduceEqDiff])
    | ((with_reducible refine hK _ _ ?_); clear hK)
    | (simp only [ACond, RA, EAtS_def, EAtX_def, wantedA, acall, astep, ev, ofValue, ofAtom, Nat.reduceEqDiff, Nat.reduceAdd, Nat.reduceMul, Nat.reduceSub, reduceCtorEq, reduceIte, aoptEv, abin, aint, ashift, aun, astr, aeqGuard, isConstOp, aconvH, aofStr, aconvSame, isU8, abuildSlice, afill, splice, azeros, Nat.reduceLeDiff, Nat.reduceLT, Int.reduceLE, Int.reduceLT, Int.reduceEq, Int.reduceToNat, Int.reducePow, IntKind.bits, Int.reduceNeg, RB, aalloc, Go.PW.dig_length, tf5LdB, eq_nilI und38, q13, q23, hlen])
    | (simp (disch := (first | omega | (simp only [RO]; done) | assumption | (simp only [RM, Go.PW.dig_length]; done) | (simp only [RL, Go.PW.dig_length]; omega))) only [RD, reduceCtorEq, reduceIte, Go.PW.dig_length, Nat.reduceLeDiff, Nat.reduceAdd, Nat.reduceMul, Int.reduceToNat, tf5LdB, eq_nilI und38, q13, q23, hlen])
  all_goals
    refine EExt_intro (Of_calls 3 _ (by omega)) ?_
    rintro _ H4 ⟨s, rfl, S, x4⟩
    refine ⟨x4, ?_⟩
    have hos : s.one = true := S.one
    have hcs : s.cells = [s] := S.cells
    have q14 := hget_ext q13 x4
    have q15 : hget (H4 ++ [⟨[.int .i64 0], .own, 2⟩]) (H.length + 1) = some (Sb 2 a) := hget_ext q14 (Ext.push _ _)
    have E4 : Err H4 e elimS 23 := (E.push _).ext x4
    have N4 : Noted H4 := (hN.ext x0).ext x4
    have S4 := says6_err 23 23 e H4 E4 N4 (by omega) (by omega)
    rw [decide_eq_true rfl] at S4
    have xx : Ext (H ++ [Ib [2, 1, 2]]) H4 := ((((((Ext.push _ _).pushed _).trans x2).trans x3).pushed _).trans x4)
    have D2' := D2 _ xx
    have D4 := Definite_calls 1 [0] (.sl H4.length 0 1 1) (H4 ++ [Ib [0]]) (ints_o1 H4 0) (right_o1 0 (by unfold Fit; omega))
    rw [d4] at D4
    simp only [Int.cast_ofNat_Int, Ib, List.map_cons, List.map_nil] at D4
    have hW := HWide_calls 3 s H4 S (by decide)
    repeat' first
      | (with_reducible first | refine AWp_ret ?_)
      | ((with_reducible refine ECall_intro (hW) ?_); rintro _ _ ⟨rfl, rfl⟩)
      | ((with_reducible refine ECall_intro (S4) ?_); rintro _ _ ⟨rfl, rfl⟩)
      | ((with_reducible refine ECall_intro (D2') ?_); rintro _ _ ⟨rfl, rfl⟩)
      | ((with_reducible refine ECall_intro (D4) ?_); rintro _ _ ⟨rfl, rfl⟩)
      | (simp only [thenA, inBlockA, reduceIte, Nat.reduceEqDiff])
      | ((with_reducible refine hK _ _ ?_); clear hK)
      | (simp only [ACond, RA, EAtS_def, EAtX_def, wantedA, acall, astep, ev, ofValue, ofAtom, Nat.reduceEqDiff, Nat.reduceAdd, Nat.reduceMul, Nat.reduceSub, reduceCtorEq, reduceIte, aoptEv, abin, aint, ashift, aun, astr, aeqGuard, isConstOp, aconvH, aofStr, aconvSame, isU8, abuildSlice, afill, splice, azeros, Nat.reduceLeDiff, Nat.reduceLT, Int.reduceLE, Int.reduceLT, Int.reduceEq, Int.reduceToNat, Int.reducePow, IntKind.bits, Int.reduceNeg, RB, aalloc, Go.PW.dig_length, tf5LdB, q14, q15, hlen])
      | (simp (disch := first | omega | (simp only [RO]; done) | assumption) only [RS, six22, gix22, six27, gix27, six48, gix48, idx35, slh35, idx36, slh36, bst25_e, bst25_0, bst25_01, bst29_01])
      | (simp (disch := (first | omega | (simp only [RO]; done) | assumption | (simp only [RM, Go.PW.dig_length]; done) | (simp only [RL, Go.PW.dig_length]; omega))) only [RD, reduceCtorEq, reduceIte, Go.PW.dig_length, Nat.reduceLeDiff, Nat.reduceAdd, Nat.reduceMul, Int.reduceToNat, tf5LdB, q14, q15, hlen])
  all_goals
    (
     (refine AEnd_gen (rs := [.tmp 0]) rfl ?_)
     (simp only [AEndR, aresults, Fr.put_some, Fr.put_none, fr0_zero, fr0_succ, fr0_nil, Nat.reduceEqDiff, reduceIte])
     (try simp (disch := (first | omega | (simp only [RO]; done) | assumption | (simp only [RM, Go.PW.dig_length]; done) | (simp only [RL, Go.PW.dig_length]; omega))) only [RD, reduceCtorEq, reduceIte, Go.PW.dig_length, Nat.reduceLeDiff, Nat.reduceAdd, Nat.reduceMul, Int.reduceToNat, tf5LdB]))
  all_goals exact ⟨(x0.trans x4).pushed _, trivial⟩
end Go.Proofs.YtfalfmfkifemeaaDoor
set_option linter.unusedVariables false
set_option linter.unusedSimpArgs false
namespace Go.Proofs.YtfalfmfkifemeaaDoor
open Go.AL Go.PW Go.PD
set_option maxRecDepth 8000
theorem Mo.otherE {H : Hp} {a : AV} {xs : List Int} {lo : Nat} (m : Mo H a xs lo) {h : Nat} {b0 : Blk} (hg : hget H h = some b0) (he : b0.ety ≠ 2) (b : Blk) : Mo (H.set h b) a xs lo := by
  rcases m with e | ⟨k, h1, h2, h3⟩
  · exact .inl e
  · have hne : k ≠ h := fun e => by rw [e, hg] at h2; cases h2; exact he rfl
    exact .inr ⟨k, h1, by rw [hget_set (hget_lt hg), if_neg hne]; exact h2, h3⟩
end Go.Proofs.YtfalfmfkifemeaaDoor
set_option linter.unusedVariables false
set_option linter.unusedSimpArgs false
namespace Go.Proofs.YtfalfmfkifemeaaDoor
open Go.AL Go.PW Go.PD
theorem tf3LdE : type_of% (And.intro @tyb2 (And.intro @tyb3 (And.intro @tyb4 (And.intro @tyb22 (And.intro @tyb24 (And.intro @tyb25 (And.intro @tyb27 (And.intro @tyb28 (And.intro @tyb29 (And.intro @tyb34 (And.intro @tyb35 (And.intro @tyb36 (And.intro @tyb37 (@tyb38)))))))))))))) := And.intro @tyb2 (And.intro @tyb3 (And.intro @tyb4 (And.intro @tyb22 (And.intro @tyb24 (And.intro @tyb25 (And.intro @tyb27 (And.intro @tyb28 (And.intro @tyb29 (And.intro @tyb34 (And.intro @tyb35 (And.intro @tyb36 (And.intro @tyb37 (@tyb38)))))))))))))
abbrev pn3_13LdE : Plan := (.one 0 (.one 1 (.ext 2 (.one 3 (.one 4 .nil)))))
set_option maxRecDepth 8000
/-- The product of a diagonal's first entries. -/
def prodD (d : Nat → Int) : Nat → Int
  | 0 => 1
  | i + 1 => prodD d i * d i
def allB (q : Nat → Bool) : Nat → Bool
  | 0 => true
  | i + 1 => allB q i && q i
theorem allB_iff (q : Nat → Bool) : ∀ n, allB q n = true ↔ ∀ i, i < n → q i = true
  | 0 => by simp [allB]
  | n + 1 => by
    simp only [allB, Bool.and_eq_true, allB_iff q n]
    constructor
    · rintro ⟨h1, h2⟩ i hi
      by_cases e : i = n
      · rw [e]; exact h2
      · exact h1 i (by omega)
    · intro h
      exact ⟨fun i hi => h i (by omega), h n (by omega)⟩
theorem P_dg {rho : Nat → Nat → Int} {d : Nat → Int} {n : Nat} (h : ∀ i j, i < n → j < n → rho i j = if i = j then d i else 0) : ∀ m, m ≤ n → P rho m = prodD d m
  | 0, _ => rfl
  | m + 1, hm => by
    rw [P_diag (fun j hj => by rw [h m j (by omega) (by omega), if_neg (by omega)]), h m m (by omega) (by omega), if_pos rfl, P_dg h m (by omega)]
    exact Int.mul_comm _ _
theorem posB_dg {rho : Nat → Nat → Int} {d : Nat → Int} {n : Nat} (h : ∀ i j, i < n → j < n → rho i j = if i = j then d i else 0) (q : Nat → Bool) (hq : ∀ i, i < n → (q i = true ↔ 0 < d i)) : posB rho n = allB q n := by
  rw [Bool.eq_iff_iff, posB_iff, allB_iff]
  constructor
  · intro hp i hi
    rw [hq i hi]
    have h1 := hp i (by omega)
    have h2 := hp (i + 1) (by omega)
    rw [P_dg h _ (by omega)] at h1 h2
    rcases Int.lt_or_le 0 (d i) with g | g
    · exact g
    · have := Int.mul_nonpos_of_nonneg_of_nonpos (Int.le_of_lt h1) g
      simp only [prodD] at h2
      omega
  · intro ha m hm
    rw [P_dg h m hm]
    induction m with
    | zero => simp [prodD]
    | succ m ih => exact Int.mul_pos (ih (by omega)) ((hq m (by omega)).1 (ha m (by omega)))
theorem prodD_le {d : Nat → Int} (h : ∀ i, ((d i).natAbs : Int) ≤ 1073741824) : ∀ i, ((prodD d i).natAbs : Int) ≤ 1073741824 ^ i
  | 0 => by simp [prodD]
  | i + 1 => by
    rw [prodD, Int.natAbs_mul, Int.pow_succ]
    push_cast
    exact Int.mul_le_mul (prodD_le h i) (h i) (by omega) (Int.pow_nonneg (by decide))
theorem prodD_lt {d : Nat → Int} (h : ∀ i, ((d i).natAbs : Int) ≤ 1073741824) {i : Nat} (hi : i ≤ 8) : ((prodD d i).natAbs : Int) < Bs ^ 15 := by
  have h1 := prodD_le h i
  have h2 : ∀ i : Fin 9, (1073741824 : Int) ^ i.1 < Bs ^ 15 := by decide +kernel
  have h3 : (1073741824 : Int) ^ i < Bs ^ 15 := h2 ⟨i, by omega⟩
  omega
theorem Bs_.otherX {H : Hp} {s : AV} {x : Int} (u : Bs_ H s x) {h : Nat} {b : Blk} (hg : hget H h = some b) (hb : b.ety ≠ 34) (b' : Blk) : Bs_ (H.set h b') s x := by
  obtain ⟨xs, h1, h2⟩ := u.ex
  exact ⟨xs, h1.other hg hb b', h2⟩
theorem Sm_of15 {x : Int} (h : (x.natAbs : Int) < Bs ^ 15) : Sm x := by
  unfold Sm
  have : Bs ^ 15 < Bs ^ 20 := by decide
  omega
theorem tmod_in {a m : Int} (hm : 0 < m) : -m < a.tmod m ∧ a.tmod m < m := ⟨by have := Int.lt_tmod_of_pos a hm; omega, Int.tmod_lt_of_pos a hm⟩
/-- A diagonal, as far as it is written. -/
def DgUp (n : Nat) (w : Nat → Int) (i : Nat) (zs : List Int) : Prop := ∀ p q, p < n → q < n → ent n zs p q = if p = q ∧ p < i then w p else 0
theorem DgUp.zero {n : Nat} (w : Nat → Int) : DgUp n w 0 (List.replicate (n * (n + 1) / 2) 0) := fun p q _ _ => by rw [if_neg (by omega), ent_noughts]
theorem DgUp.step {n i : Nat} {w : Nat → Int} {zs : List Int} (h : DgUp n w i zs) (h8 : n ≤ 8) (hi : i < n) (hl : pl n i i < zs.length) : DgUp n w (i + 1) (zs.set (pl n i i) (w i)) := fun p q hp hq => by
  rw [ent_set h8 hi hi hp hq hl, h p q hp hq]
  by_cases e : p = i ∧ q = i
  · rw [if_pos (by omega), if_pos (by omega), e.1]
  · rw [if_neg (by omega)]
    have : (p = q ∧ p < i) ↔ (p = q ∧ p < i + 1) := by omega
    simp only [this]
theorem DgUp.done {n : Nat} {w : Nat → Int} {zs : List Int} (h : DgUp n w n zs) : ∀ p q, p < n → q < n → ent n zs p q = if p = q then w p else 0 := fun p q hp hq => by
  rw [h p q hp hq]
  have : (p = q ∧ p < n) ↔ p = q := by omega
  simp only [this]
set_option maxHeartbeats 16000000 in
theorem detDiag_calls (ls : List Int) (c : AV) (H : Hp) (hN : Noted H) (hh : Ints H .i64 c ls) : ACalls Tryd.prog 3 [c] H fun r H' => r = .bool true ∧ H = H' := by
  refine ACalls.drop (R := fun r => r = .bool true) ?_
  have hlen := hh.rd.len und22
  by_cases h8 : (ls.length : Int) > 8
  · have f8 : ((ls.length : Int) > 8) = True := eq_true h8
    refine ACalls_body Tryd.func3 rfl (by kernel_rfl) (by kernel_rfl) ?_
    repeat' first
      | (with_reducible first | refine AWp_seq_k (fun K hK => ?_) | refine AWp_skip ?_ | refine AWp_ret ?_ | refine AWp_regionE ?_ | refine AWp_condI ?_)
      | ((with_reducible refine ECall_intro (known6_calls _ hN) ?_); rintro _ _ ⟨rfl, rfl⟩)
      | (simp only [thenA, inBlockA, reduceIte, Nat.reduceEqDiff])
      | ((with_reducible refine hK _ _ ?_); clear hK)
      | (simp only [ACond, RA, EAtS_def, EAtX_def, wantedA, acall, astep, ev, ofValue, ofAtom, Nat.reduceEqDiff, Nat.reduceAdd, Nat.reduceMul, Nat.reduceSub, reduceCtorEq, reduceIte, aoptEv, abin, aint, ashift, aun, astr, aeqGuard, isConstOp, aconvH, aofStr, aconvSame, isU8, abuildSlice, afill, splice, azeros, Nat.reduceLeDiff, Nat.reduceLT, Int.reduceLE, Int.reduceLT, Int.reduceEq, Int.reduceToNat, Int.reducePow, IntKind.bits, Int.reduceNeg, RB, aalloc, Go.PW.dig_length, tf3LdE, hlen, f8])
    all_goals
      (
       (refine AEnd_gen (rs := [.tmp 2]) rfl ?_)
       (simp only [AEndR, aresults, Fr.put_some, Fr.put_none, fr0_zero, fr0_succ, fr0_nil, Nat.reduceEqDiff, reduceIte])
       (try simp (disch := (first | omega | (simp only [RO]; done) | assumption | (simp only [RM, Go.PW.dig_length]; done) | (simp only [RL, Go.PW.dig_length]; omega))) only [RD, reduceCtorEq, reduceIte, Go.PW.dig_length, Nat.reduceLeDiff, Nat.reduceAdd, Nat.reduceMul, Int.reduceToNat, tf3LdE]))
    all_goals exact ⟨Ext.refl _, trivial⟩
  · have f8 : ((ls.length : Int) > 8) = False := eq_false h8
    obtain ⟨n, hn⟩ : ∃ n, n = ls.length := ⟨_, rfl⟩
    have hn8 : n ≤ 8 := by omega
    rw [← hn] at hlen f8
    obtain ⟨w, hw⟩ : ∃ w : Nat → Int, w = fun p => (ls.getD p 0).tmod 1073741825 := ⟨_, rfl⟩
    have hwi : ∀ p, w p = (ls.getD p 0).tmod 1073741825 := fun p => by rw [hw]
    have hwf : ∀ p, Fit (w p) := fun p => by
      have := tmod_in (a := ls.getD p 0) (m := 1073741825) (by decide)
      rw [hwi]; unfold Fit; omega
    have hwa : ∀ p, ((w p).natAbs : Int) ≤ 1073741824 := fun p => by have := hwf p; unfold Fit at this; omega
    refine ACalls_body Tryd.func3 rfl (by kernel_rfl) (by kernel_rfl) ?_
    refine AWp_seq_k (fun K hQ => ?_)
    repeat' first
      | (with_reducible first | refine AWp_seq_k (fun K hK => ?_) | refine AWp_skip ?_ | refine AWp_regionE ?_ | refine AWp_condI ?_)
      | ((with_reducible refine ECall_intro (known6_calls _ hN) ?_); rintro _ _ ⟨rfl, rfl⟩)
      | (simp only [thenA, inBlockA, reduceIte, Nat.reduceEqDiff])
      | ((with_reducible refine hK _ _ ?_); clear hK)
      | (simp only [ACond, RA, EAtS_def, EAtX_def, wantedA, acall, astep, ev, ofValue, ofAtom, Nat.reduceEqDiff, Nat.reduceAdd, Nat.reduceMul, Nat.reduceSub, reduceCtorEq, reduceIte, aoptEv, abin, aint, ashift, aun, astr, aeqGuard, isConstOp, aconvH, aofStr, aconvSame, isU8, abuildSlice, afill, splice, azeros, Nat.reduceLeDiff, Nat.reduceLT, Int.reduceLE, Int.reduceLT, Int.reduceEq, Int.reduceToNat, Int.reducePow, IntKind.bits, Int.reduceNeg, RB, aalloc, Go.PW.dig_length, tf3LdE, hlen, f8])
    refine hQ _ _ ?_
    clear hQ
    refine AWp_seq_k (fun K hQ => ?_)
    repeat' first
      | (with_reducible first | refine AWp_seq_k (fun K hK => ?_) | refine AWp_skip ?_ | refine AWp_regionE ?_ | refine AWp_condI ?_)
      | ((with_reducible refine ECall_intro (known6_calls _ hN) ?_); rintro _ _ ⟨rfl, rfl⟩)
      | (simp only [thenA, inBlockA, reduceIte, Nat.reduceEqDiff])
      | ((with_reducible refine hK _ _ ?_); clear hK)
      | (simp only [ACond, RA, EAtS_def, EAtX_def, wantedA, acall, astep, ev, ofValue, ofAtom, Nat.reduceEqDiff, Nat.reduceAdd, Nat.reduceMul, Nat.reduceSub, reduceCtorEq, reduceIte, aoptEv, abin, aint, ashift, aun, astr, aeqGuard, isConstOp, aconvH, aofStr, aconvSame, isU8, abuildSlice, afill, splice, azeros, Nat.reduceLeDiff, Nat.reduceLT, Int.reduceLE, Int.reduceLT, Int.reduceEq, Int.reduceToNat, Int.reducePow, IntKind.bits, Int.reduceNeg, RB, aalloc, Go.PW.dig_length, tf3LdE, hlen, f8])
    refine hQ _ _ ?_
    clear hQ
    refine AWp_seq_k (fun K hQ => ?_)
    repeat' first
      | (with_reducible first | refine AWp_seq_k (fun K hK => ?_) | refine AWp_skip ?_ | refine AWp_regionE ?_ | refine AWp_condI ?_)
      | ((with_reducible refine ECall_intro (known6_calls _ hN) ?_); rintro _ _ ⟨rfl, rfl⟩)
      | (simp only [thenA, inBlockA, reduceIte, Nat.reduceEqDiff])
      | ((with_reducible refine hK _ _ ?_); clear hK)
      | (simp only [ACond, RA, EAtS_def, EAtX_def, wantedA, acall, astep, ev, ofValue, ofAtom, Nat.reduceEqDiff, Nat.reduceAdd, Nat.reduceMul, Nat.reduceSub, reduceCtorEq, reduceIte, aoptEv, abin, aint, ashift, aun, astr, aeqGuard, isConstOp, aconvH, aofStr, aconvSame, isU8, abuildSlice, afill, splice, azeros, Nat.reduceLeDiff, Nat.reduceLT, Int.reduceLE, Int.reduceLT, Int.reduceEq, Int.reduceToNat, Int.reducePow, IntKind.bits, Int.reduceNeg, RB, aalloc, Go.PW.dig_length, tf3LdE, hlen, f8])
    refine hQ _ _ ?_
    clear hQ
    repeat' first
      | (with_reducible first | refine AWp_seq_k (fun K hK => ?_) | refine AWp_regionE ?_)
      | (simp only [thenA, inBlockA, reduceIte, Nat.reduceEqDiff])
      | (simp only [ACond, RA, EAtS_def, EAtX_def, wantedA, acall, astep, ev, ofValue, ofAtom, Nat.reduceEqDiff, Nat.reduceAdd, Nat.reduceMul, Nat.reduceSub, reduceCtorEq, reduceIte, aoptEv, abin, aint, ashift, aun, astr, aeqGuard, isConstOp, aconvH, aofStr, aconvSame, isU8, abuildSlice, afill, splice, azeros, Nat.reduceLeDiff, Nat.reduceLT, Int.reduceLE, Int.reduceLT, Int.reduceEq, Int.reduceToNat, Int.reducePow, IntKind.bits, Int.reduceNeg, RB, aalloc, Go.PW.dig_length, tf3LdE, hlen])
    refine ECall_intro (MoNew_calls n _ hn8) ?_
    rintro _ H2 ⟨b0, rfl, M0, x2⟩
    have hb0 := M0.one
    have hcb0 : b0.cells = [b0] := AV.cells_one hb0
    obtain ⟨q, hq⟩ : ∃ q, q = H2.length := ⟨_, rfl⟩
    repeat' first
      | (with_reducible first | refine AWp_seq_k (fun K hK => ?_) | refine AWp_regionE ?_)
      | (simp only [thenA, inBlockA, reduceIte, Nat.reduceEqDiff])
      | ((with_reducible refine hK _ _ ?_); clear hK)
      | (simp only [ACond, RA, EAtS_def, EAtX_def, wantedA, acall, astep, ev, ofValue, ofAtom, Nat.reduceEqDiff, Nat.reduceAdd, Nat.reduceMul, Nat.reduceSub, reduceCtorEq, reduceIte, aoptEv, abin, aint, ashift, aun, astr, aeqGuard, isConstOp, aconvH, aofStr, aconvSame, isU8, abuildSlice, afill, splice, azeros, Nat.reduceLeDiff, Nat.reduceLT, Int.reduceLE, Int.reduceLT, Int.reduceEq, Int.reduceToNat, Int.reducePow, IntKind.bits, Int.reduceNeg, RB, aalloc, Go.PW.dig_length, tf3LdE, ← hq])
      | (simp (disch := first | omega | (simp only [RO]; done) | assumption) only [RS, six22, gix22, six27, gix27, idx35, slh35, idx36, slh36, bst25_e, bst25_0, bst25_01, bst29_01])
      | (simp (disch := (first | omega | (simp only [RO]; done) | assumption | (simp only [RM, Go.PW.dig_length]; done) | (simp only [RL, Go.PW.dig_length]; omega))) only [RD, reduceCtorEq, reduceIte, Go.PW.dig_length, Nat.reduceLeDiff, Nat.reduceAdd, Nat.reduceMul, Int.reduceToNat, tf3LdE, ← hq])
    refine ECall_intro (Of_calls 1 _ (by omega)) ?_
    rintro _ H3 ⟨s0, rfl, S0, x3⟩
    have hs0 : s0.one = true := S0.one
    have hcs0 : s0.cells = [s0] := S0.cells
    obtain ⟨r, hr⟩ : ∃ r, r = H3.length := ⟨_, rfl⟩
    have l2 := x2.len
    have l3 := x3.len
    simp only [List.length_append, List.length_cons, List.length_nil] at l3
    repeat' first
      | (with_reducible first | refine AWp_seq_k (fun K hK => ?_) | refine AWp_block ?_ | refine AWp_regionE ?_)
      | (simp only [thenA, inBlockA, reduceIte, Nat.reduceEqDiff])
      | ((with_reducible refine hK _ _ ?_); clear hK)
      | (simp only [ACond, RA, EAtS_def, EAtX_def, wantedA, acall, astep, ev, ofValue, ofAtom, Nat.reduceEqDiff, Nat.reduceAdd, Nat.reduceMul, Nat.reduceSub, reduceCtorEq, reduceIte, aoptEv, abin, aint, ashift, aun, astr, aeqGuard, isConstOp, aconvH, aofStr, aconvSame, isU8, abuildSlice, afill, splice, azeros, Nat.reduceLeDiff, Nat.reduceLT, Int.reduceLE, Int.reduceLT, Int.reduceEq, Int.reduceToNat, Int.reducePow, IntKind.bits, Int.reduceNeg, RB, aalloc, Go.PW.dig_length, tf3LdE, ← hr])
      | (simp (disch := first | omega | (simp only [RO]; done) | assumption) only [RS, six22, gix22, six27, gix27, idx35, slh35, idx36, slh36, bst25_e, bst25_0, bst25_01, bst29_01])
      | (simp (disch := (first | omega | (simp only [RO]; done) | assumption | (simp only [RM, Go.PW.dig_length]; done) | (simp only [RL, Go.PW.dig_length]; omega))) only [RD, reduceCtorEq, reduceIte, Go.PW.dig_length, Nat.reduceLeDiff, Nat.reduceAdd, Nat.reduceMul, Int.reduceToNat, tf3LdE, ← hr])
    refine AWp_loop (fun l fr' H5 => ∃ (i : Nat) (b2 s2 : AV) (zs : List Int), l = n - i ∧ i ≤ n ∧ fr' 0 = c ∧ fr' 3 = .ptr q 0 ∧ fr' 4 = .ptr r 0 ∧ fr' 5 = .bool (allB (fun p => decide (w p > 0)) i) ∧ fr' 6 = .int .i64 (i : Int) ∧ hget H5 q = some (Sb n b2) ∧ hget H5 r = some ⟨[.bool (decide (prodD w i < 0)), s2], .own, 29⟩ ∧ Mo H5 b2 zs 0 ∧ Bs_ H5 s2 (prodD w i) ∧ Right n zs ∧ DgUp n w i zs ∧ Ext H H5) (m := n)
      ⟨0, b0, s0, _, by omega, by omega, rfl, rfl, rfl, rfl, rfl, hget_ext (hget_at hq) (x3.pushed _), hget_at hr, (((M0.push _).ext x3).push _).low (by omega), S0.push _, right_noughts hn8, DgUp.zero w, ((x2.pushed _).trans x3).pushed _⟩ ?_
    rintro l fr' H5 ⟨i, b2, s2, zs, rfl, hi, k0, k3, k4, k5, k6, q3, q4, M, S, hrz, hD, x5⟩
    have e1 : IntKind.i64.wrap ((i : Int) + 1) = ((i + 1 : Nat) : Int) := by rw [wrap_i64_id (by omega) (by omega)]; omega
    have hb2 := M.one
    have hcb2 : b2.cells = [b2] := AV.cells_one hb2
    have hs2 : s2.one = true := S.one
    have hcs2 : s2.cells = [s2] := S.cells
    have hqr : q ≠ r := by omega
    obtain ⟨A, hA⟩ : ∃ A, A = allB (fun p => decide (w p > 0)) i := ⟨_, rfl⟩
    rw [← hA] at k5
    have hPl := prodD_lt hwa (i := i) (by omega)
    by_cases hlt : i < n
    · have hwb := hwf i
      unfold Fit at hwb
      have ew : (ls.getD i 0).tmod 1073741825 = w i := (hwi i).symm
      have hpl := (hrz.pl hlt hlt).2
      repeat' first
        | (with_reducible first | refine AWp_seq_k (fun K hK => ?_) | refine AWp_block ?_ | refine AWp_skip ?_ | refine AWp_regionE ?_ | refine AWp_condI ?_)
        | (with_reducible refine AIte (fun hc => ?_) (fun hc => ?_) <;> (try simp only [RC] at hc) <;> (try (exfalso; first | omega | contradiction)))
        | (simp only [thenA, inBlockA, reduceIte, Nat.reduceEqDiff])
        | ((with_reducible refine hK _ _ ?_); clear hK)
        | (simp only [ACond, RA, EAtS_def, EAtX_def, wantedA, acall, astep, ev, ofValue, ofAtom, Nat.reduceEqDiff, Nat.reduceAdd, Nat.reduceMul, Nat.reduceSub, reduceCtorEq, reduceIte, aoptEv, abin, aint, ashift, aun, astr, aeqGuard, isConstOp, aconvH, aofStr, aconvSame, isU8, abuildSlice, afill, splice, azeros, Nat.reduceLeDiff, Nat.reduceLT, Int.reduceLE, Int.reduceLT, Int.reduceEq, Int.reduceToNat, Int.reducePow, IntKind.bits, Int.reduceNeg, RB, aalloc, Go.PW.dig_length, tf3LdE, hlen, k0, k3, k4, k5, k6, ew, q3])
        | (simp (disch := first | omega | (simp only [RO]; done) | assumption) only [RS, (hh.ext x5).rd.at1 und22 size2, (hh.ext x5).load1 agg2, six22, gix22, six27, gix27, idx35, slh35, idx36, slh36, bst25_e, bst25_0, bst25_01, bst29_01])
        | (simp (disch := (first | omega | (simp only [RO]; done) | assumption | (simp only [RM, Go.PW.dig_length]; done) | (simp only [RL, Go.PW.dig_length]; omega))) only [RD, reduceCtorEq, reduceIte, Go.PW.dig_length, Nat.reduceLeDiff, Nat.reduceAdd, Nat.reduceMul, Int.reduceToNat, tf3LdE, hlen, k0, k3, k4, k5, k6, ew, q3])
      refine ECall_intro (Set_calls n zs b2 i i (w i) _ M.ints hrz hlt hlt (hwf i)) ?_
      rintro _ H6 ⟨b3, rfl, M3, x6⟩
      have hb3 := M3.one
      have hcb3 : b3.cells = [b3] := AV.cells_one hb3
      have q36 := hget_ext q3 x6
      have q46 := hget_ext q4 x6
      have l3' := hget_lt q36
      have gq : hget (H6.set q (Sb n b3)) r = some ⟨[.bool (decide (prodD w i < 0)), s2], .own, 29⟩ := by rw [hget_set l3', if_neg (by omega)]; exact q46
      have gs : hget (H6.set q (Sb n b3)) q = some (Sb n b3) := by rw [hget_set l3', if_pos rfl]
      have S6 := (S.ext x6).otherX q36 (show (25 : Nat) ≠ 34 by decide) (Sb n b3)
      have M6 := M3.otherE q36 (show (25 : Nat) ≠ 2 by decide) (Sb n b3)
      have x7 : Ext H (H6.set q (Sb n b3)) := (x5.trans x6).set (by omega) _
      obtain ⟨H7, h7⟩ : ∃ H7, H7 = H6.set q (Sb n b3) := ⟨_, rfl⟩
      rw [← h7] at gq gs S6 M6 x7
      repeat' first
        | (with_reducible first | refine AWp_seq_k (fun K hK => ?_) | refine AWp_drawE (id := 13) [2] pn3_13LdE (by kernel_rfl) (by kernel_rfl) ?_ | refine Run_ext ?_)
        | (simp only [thenA, inBlockA, reduceIte, Nat.reduceEqDiff])
        | ((with_reducible refine hK _ _ ?_); clear hK)
        | (simp only [ACond, RA, EAtS_def, EAtX_def, wantedA, acall, astep, ev, ofValue, ofAtom, Nat.reduceEqDiff, Nat.reduceAdd, Nat.reduceMul, Nat.reduceSub, reduceCtorEq, reduceIte, aoptEv, abin, aint, ashift, aun, astr, aeqGuard, isConstOp, aconvH, aofStr, aconvSame, isU8, abuildSlice, afill, splice, azeros, Nat.reduceLeDiff, Nat.reduceLT, Int.reduceLE, Int.reduceLT, Int.reduceEq, Int.reduceToNat, Int.reducePow, IntKind.bits, Int.reduceNeg, RB, aalloc, Go.PW.dig_length, tf3LdE, k0, k3, k4, k5, k6, q36, ← h7, gq])
        | (simp (disch := first | omega | (simp only [RO]; done) | assumption) only [RS, six22, gix22, six27, gix27, idx35, slh35, idx36, slh36, bst25_e, bst25_0, bst25_01, bst29_01])
        | (simp (disch := (first | omega | (simp only [RO]; done) | assumption | (simp only [RM, Go.PW.dig_length]; done) | (simp only [RL, Go.PW.dig_length]; omega))) only [RD, reduceCtorEq, reduceIte, Go.PW.dig_length, Nat.reduceLeDiff, Nat.reduceAdd, Nat.reduceMul, Int.reduceToNat, tf3LdE, k0, k3, k4, k5, k6, q36, ← h7, gq])
      all_goals
        refine EExt_intro (Of_calls (w i) _ (by omega)) ?_
        rintro _ H8 ⟨t, rfl, T, x8⟩
        refine ⟨x8, ?_⟩
        repeat' first
          | (simp only [ACond, RA, EAtS_def, EAtX_def, wantedA, acall, astep, ev, ofValue, ofAtom, Nat.reduceEqDiff, Nat.reduceAdd, Nat.reduceMul, Nat.reduceSub, reduceCtorEq, reduceIte, aoptEv, abin, aint, ashift, aun, astr, aeqGuard, isConstOp, aconvH, aofStr, aconvSame, isU8, abuildSlice, afill, splice, azeros, Nat.reduceLeDiff, Nat.reduceLT, Int.reduceLE, Int.reduceLT, Int.reduceEq, Int.reduceToNat, Int.reducePow, IntKind.bits, Int.reduceNeg, RB, aalloc, Go.PW.dig_length, tf3LdE, gq])
        refine ECall_intro (Rmul_calls (prodD w i) (w i) s2 t H8 (S6.ext x8) T (Sm_of15 hPl) (Sm.int (by omega))) ?_
        rintro _ H9 ⟨u, rfl, U, x9⟩
        have hu1 : u.one = true := U.one
        have hcu : u.cells = [u] := U.cells
        have x89 := x8.trans x9
        have gq9 := hget_ext gq x89
        have gs9 := hget_ext gs x89
        have lr9 := hget_lt gq9
        have M9 := (M6.ext x89).otherE gq9 (show (29 : Nat) ≠ 2 by decide)
        have U9 := U.otherX gq9 (show (29 : Nat) ≠ 34 by decide)
        have hA1 : allB (fun p => decide (w p > 0)) (i + 1) = (A && decide (w i > 0)) := by rw [hA]; rfl
        clear hA
        cases A
      all_goals
        repeat' first
          | (with_reducible first | refine AWp_regionE ?_)
          | (simp only [thenA, inBlockA, reduceIte, Nat.reduceEqDiff])
          | ((with_reducible refine hK _ _ ?_); clear hK)
          | (simp only [ACond, RA, EAtS_def, EAtX_def, wantedA, acall, astep, ev, ofValue, ofAtom, Nat.reduceEqDiff, Nat.reduceAdd, Nat.reduceMul, Nat.reduceSub, reduceCtorEq, reduceIte, aoptEv, abin, aint, ashift, aun, astr, aeqGuard, isConstOp, aconvH, aofStr, aconvSame, isU8, abuildSlice, afill, splice, azeros, Nat.reduceLeDiff, Nat.reduceLT, Int.reduceLE, Int.reduceLT, Int.reduceEq, Int.reduceToNat, Int.reducePow, IntKind.bits, Int.reduceNeg, RB, aalloc, Go.PW.dig_length, tf3LdE, k0, k3, k4, k5, k6, gq9, e1])
          | (simp (disch := first | omega | (simp only [RO]; done) | assumption) only [RS, six22, gix22, six27, gix27, idx35, slh35, idx36, slh36, bst25_e, bst25_0, bst25_01, bst29_01])
          | (simp (disch := (first | omega | (simp only [RO]; done) | assumption | (simp only [RM, Go.PW.dig_length]; done) | (simp only [RL, Go.PW.dig_length]; omega))) only [RD, reduceCtorEq, reduceIte, Go.PW.dig_length, Nat.reduceLeDiff, Nat.reduceAdd, Nat.reduceMul, Int.reduceToNat, tf3LdE, k0, k3, k4, k5, k6, gq9, e1])
      all_goals exact ⟨_, by omega, i + 1, b3, u, _, rfl, by omega, by first | rfl | (rw [hA1]; rfl) | (rw [hA1, Bool.false_and]) | (rw [hA1, Bool.true_and]), rfl, by rw [hget_set lr9, if_neg (by omega)]; exact gs9, by rw [hget_set lr9, if_pos rfl]; rfl, (M9 _).low (Nat.zero_le _), U9 _, hrz.set _ (hwf i), hD.step hn8 hlt hpl, (x7.trans x89).set (by omega) _⟩
    · obtain rfl : i = n := by omega
      have hdg := hD.done
      have D1 := fun H0 (x0 : Ext H5 H0) => Det_calls i zs b2 H0 (M.ints.ext x0) hrz
      have D2 := fun H0 (x0 : Ext H5 H0) => Definite_calls i zs b2 H0 (M.ints.ext x0) hrz
      rw [P_dg hdg i (Nat.le_refl _)] at D1
      rw [posB_dg hdg (fun p => decide (w p > 0)) (fun p _ => by simp), ← hA] at D2
      have hW := HWide_calls (prodD w i) s2 (H5 ++ [Wb (prodD w i)]) (S.push _) hPl
      have q33 := hget_ext q3 (Ext.push H5 (Wb (prodD w i)))
      have q44 := hget_ext q4 (Ext.push H5 (Wb (prodD w i)))
      repeat' first
        | (with_reducible first | refine AWp_seq_k (fun K hK => ?_) | refine AWp_exit ?_ | refine AWp_ret ?_ | refine AWp_regionE ?_ | refine AWp_condI ?_)
        | ((with_reducible refine ECall_intro (D1 _ (Ext.refl _)) ?_); rintro _ _ ⟨rfl, rfl⟩)
        | ((with_reducible refine ECall_intro (D2 _ (Ext.push _ _)) ?_); rintro _ _ ⟨rfl, rfl⟩)
        | ((with_reducible refine ECall_intro (hW) ?_); rintro _ _ ⟨rfl, rfl⟩)
        | (with_reducible refine AIte (fun hc => ?_) (fun hc => ?_) <;> (try simp only [RC] at hc) <;> (try (exfalso; first | omega | contradiction)))
        | (simp only [thenA, inBlockA, reduceIte, Nat.reduceEqDiff])
        | ((with_reducible refine hK _ _ ?_); clear hK)
        | (clear hK; (with_reducible refine hK _ _ ?_); clear hK)
        | (simp only [ACond, RA, EAtS_def, EAtX_def, wantedA, acall, astep, ev, ofValue, ofAtom, Nat.reduceEqDiff, Nat.reduceAdd, Nat.reduceMul, Nat.reduceSub, reduceCtorEq, reduceIte, aoptEv, abin, aint, ashift, aun, astr, aeqGuard, isConstOp, aconvH, aofStr, aconvSame, isU8, abuildSlice, afill, splice, azeros, Nat.reduceLeDiff, Nat.reduceLT, Int.reduceLE, Int.reduceLT, Int.reduceEq, Int.reduceToNat, Int.reducePow, IntKind.bits, Int.reduceNeg, RB, aalloc, Go.PW.dig_length, tf3LdE, hlen, k0, k3, k4, k5, k6, q3, q33, q44, eq_nilI und38])
        | (simp (disch := (first | omega | (simp only [RO]; done) | assumption | (simp only [RM, Go.PW.dig_length]; done) | (simp only [RL, Go.PW.dig_length]; omega))) only [RD, reduceCtorEq, reduceIte, Go.PW.dig_length, Nat.reduceLeDiff, Nat.reduceAdd, Nat.reduceMul, Int.reduceToNat, tf3LdE, hlen, k0, k3, k4, k5, k6, q3, q33, q44, eq_nilI und38])
      all_goals
        (
         (refine AEnd_gen (rs := [.tmp 2]) rfl ?_)
         (simp only [AEndR, aresults, Fr.put_some, Fr.put_none, fr0_zero, fr0_succ, fr0_nil, Nat.reduceEqDiff, reduceIte])
         (try simp (disch := (first | omega | (simp only [RO]; done) | assumption | (simp only [RM, Go.PW.dig_length]; done) | (simp only [RL, Go.PW.dig_length]; omega))) only [RD, reduceCtorEq, reduceIte, Go.PW.dig_length, Nat.reduceLeDiff, Nat.reduceAdd, Nat.reduceMul, Int.reduceToNat, tf3LdE]))
      all_goals exact ⟨x5.pushed _, trivial⟩
end Go.Proofs.YtfalfmfkifemeaaDoor
set_option linter.unusedVariables false
set_option linter.unusedSimpArgs false
namespace Go.Proofs.YtfalfmfkifemeaaDoor
open Go.AL Go.PW Go.PD
theorem tf4LnC : type_of% (And.intro @tyb2 (And.intro @tyb3 (And.intro @tyb4 (And.intro @tyb22 (And.intro @tyb24 (And.intro @tyb25 (And.intro @tyb37 (@tyb38)))))))) := And.intro @tyb2 (And.intro @tyb3 (And.intro @tyb4 (And.intro @tyb22 (And.intro @tyb24 (And.intro @tyb25 (And.intro @tyb37 (@tyb38)))))))
set_option maxRecDepth 8000
set_option maxHeartbeats 16000000 in
theorem boundDiags_calls (ls : List Int) (c : AV) (le mo : Int) (H : Hp) (hN : Noted H) (hh : Ints H .i64 c ls) : ACalls Tryd.prog 4 [c, .int .i64 le, .int .i64 mo] H fun r H' => r = .bool true ∧ H = H' := by
  refine ACalls.drop (R := fun r => r = .bool true) ?_
  have hlen := hh.rd.len und22
  by_cases h8 : (ls.length : Int) > 8
  · have f8 : ((ls.length : Int) > 8) = True := eq_true h8
    refine ACalls_body Tryd.func4 rfl (by kernel_rfl) (by kernel_rfl) ?_
    repeat' first
      | (with_reducible first | refine AWp_seq_k (fun K hK => ?_) | refine AWp_skip ?_ | refine AWp_ret ?_ | refine AWp_regionE ?_ | refine AWp_condI ?_)
      | ((with_reducible refine ECall_intro (known9_calls _ hN) ?_); rintro _ _ ⟨rfl, rfl⟩)
      | (simp only [thenA, inBlockA, reduceIte, Nat.reduceEqDiff])
      | ((with_reducible refine hK _ _ ?_); clear hK)
      | (simp only [ACond, RA, EAtS_def, EAtX_def, wantedA, acall, astep, ev, ofValue, ofAtom, Nat.reduceEqDiff, Nat.reduceAdd, Nat.reduceMul, Nat.reduceSub, reduceCtorEq, reduceIte, aoptEv, abin, aint, ashift, aun, astr, aeqGuard, isConstOp, aconvH, aofStr, aconvSame, isU8, abuildSlice, afill, splice, azeros, Nat.reduceLeDiff, Nat.reduceLT, Int.reduceLE, Int.reduceLT, Int.reduceEq, Int.reduceToNat, Int.reducePow, IntKind.bits, Int.reduceNeg, RB, aalloc, Go.PW.dig_length, tf4LnC, hlen, f8])
    all_goals
      (
       (refine AEnd_gen (rs := [.tmp 6]) rfl ?_)
       (simp only [AEndR, aresults, Fr.put_some, Fr.put_none, fr0_zero, fr0_succ, fr0_nil, Nat.reduceEqDiff, reduceIte])
       (try simp (disch := (first | omega | (simp only [RO]; done) | assumption | (simp only [RM, Go.PW.dig_length]; done) | (simp only [RL, Go.PW.dig_length]; omega))) only [RD, reduceCtorEq, reduceIte, Go.PW.dig_length, Nat.reduceLeDiff, Nat.reduceAdd, Nat.reduceMul, Int.reduceToNat, tf4LnC]))
    all_goals exact ⟨Ext.refl _, trivial⟩
  · have f8 : ((ls.length : Int) > 8) = False := eq_false h8
    obtain ⟨n, hn⟩ : ∃ n, n = ls.length := ⟨_, rfl⟩
    have hn8 : n ≤ 8 := by omega
    rw [← hn] at hlen f8
    obtain ⟨w, hw⟩ : ∃ w : Nat → Int, w = fun p => (ls.getD p 0).tmod 1200 := ⟨_, rfl⟩
    have hwi : ∀ p, w p = (ls.getD p 0).tmod 1200 := fun p => by rw [hw]
    have hwb : ∀ p, -1200 < w p ∧ w p < 1200 := fun p => by rw [hwi]; exact tmod_in (by decide)
    have hwf : ∀ p, Fit (w p) := fun p => by have := hwb p; unfold Fit; omega
    obtain ⟨x, hx⟩ : ∃ x, x = le.tmod 1000 := ⟨_, rfl⟩
    obtain ⟨y, hy⟩ : ∃ y, y = mo.tmod 1000 := ⟨_, rfl⟩
    have hxb : -1000 < x ∧ x < 1000 := by rw [hx]; exact tmod_in (by decide)
    have hyb : -1000 < y ∧ y < 1000 := by rw [hy]; exact tmod_in (by decide)
    have ex : le.tmod 1000 = x := hx.symm
    have ey : mo.tmod 1000 = y := hy.symm
    refine ACalls_body Tryd.func4 rfl (by kernel_rfl) (by kernel_rfl) ?_
    refine AWp_seq_k (fun K hQ => ?_)
    repeat' first
      | (with_reducible first | refine AWp_seq_k (fun K hK => ?_) | refine AWp_skip ?_ | refine AWp_regionE ?_ | refine AWp_condI ?_)
      | ((with_reducible refine ECall_intro (known9_calls _ hN) ?_); rintro _ _ ⟨rfl, rfl⟩)
      | (simp only [thenA, inBlockA, reduceIte, Nat.reduceEqDiff])
      | ((with_reducible refine hK _ _ ?_); clear hK)
      | (simp only [ACond, RA, EAtS_def, EAtX_def, wantedA, acall, astep, ev, ofValue, ofAtom, Nat.reduceEqDiff, Nat.reduceAdd, Nat.reduceMul, Nat.reduceSub, reduceCtorEq, reduceIte, aoptEv, abin, aint, ashift, aun, astr, aeqGuard, isConstOp, aconvH, aofStr, aconvSame, isU8, abuildSlice, afill, splice, azeros, Nat.reduceLeDiff, Nat.reduceLT, Int.reduceLE, Int.reduceLT, Int.reduceEq, Int.reduceToNat, Int.reducePow, IntKind.bits, Int.reduceNeg, RB, aalloc, Go.PW.dig_length, tf4LnC, hlen, f8])
    refine hQ _ _ ?_
    clear hQ
    refine AWp_seq_k (fun K hQ => ?_)
    repeat' first
      | (with_reducible first | refine AWp_seq_k (fun K hK => ?_) | refine AWp_skip ?_ | refine AWp_regionE ?_ | refine AWp_condI ?_)
      | ((with_reducible refine ECall_intro (known9_calls _ hN) ?_); rintro _ _ ⟨rfl, rfl⟩)
      | (simp only [thenA, inBlockA, reduceIte, Nat.reduceEqDiff])
      | ((with_reducible refine hK _ _ ?_); clear hK)
      | (simp only [ACond, RA, EAtS_def, EAtX_def, wantedA, acall, astep, ev, ofValue, ofAtom, Nat.reduceEqDiff, Nat.reduceAdd, Nat.reduceMul, Nat.reduceSub, reduceCtorEq, reduceIte, aoptEv, abin, aint, ashift, aun, astr, aeqGuard, isConstOp, aconvH, aofStr, aconvSame, isU8, abuildSlice, afill, splice, azeros, Nat.reduceLeDiff, Nat.reduceLT, Int.reduceLE, Int.reduceLT, Int.reduceEq, Int.reduceToNat, Int.reducePow, IntKind.bits, Int.reduceNeg, RB, aalloc, Go.PW.dig_length, tf4LnC, hlen, f8])
    refine hQ _ _ ?_
    clear hQ
    refine AWp_seq_k (fun K hQ => ?_)
    repeat' first
      | (with_reducible first | refine AWp_seq_k (fun K hK => ?_) | refine AWp_skip ?_ | refine AWp_regionE ?_ | refine AWp_condI ?_)
      | ((with_reducible refine ECall_intro (known9_calls _ hN) ?_); rintro _ _ ⟨rfl, rfl⟩)
      | (simp only [thenA, inBlockA, reduceIte, Nat.reduceEqDiff])
      | ((with_reducible refine hK _ _ ?_); clear hK)
      | (simp only [ACond, RA, EAtS_def, EAtX_def, wantedA, acall, astep, ev, ofValue, ofAtom, Nat.reduceEqDiff, Nat.reduceAdd, Nat.reduceMul, Nat.reduceSub, reduceCtorEq, reduceIte, aoptEv, abin, aint, ashift, aun, astr, aeqGuard, isConstOp, aconvH, aofStr, aconvSame, isU8, abuildSlice, afill, splice, azeros, Nat.reduceLeDiff, Nat.reduceLT, Int.reduceLE, Int.reduceLT, Int.reduceEq, Int.reduceToNat, Int.reducePow, IntKind.bits, Int.reduceNeg, RB, aalloc, Go.PW.dig_length, tf4LnC, hlen, f8])
    refine hQ _ _ ?_
    clear hQ
    repeat' first
      | (with_reducible first | refine AWp_seq_k (fun K hK => ?_) | refine AWp_regionE ?_)
      | (simp only [thenA, inBlockA, reduceIte, Nat.reduceEqDiff])
      | (simp only [ACond, RA, EAtS_def, EAtX_def, wantedA, acall, astep, ev, ofValue, ofAtom, Nat.reduceEqDiff, Nat.reduceAdd, Nat.reduceMul, Nat.reduceSub, reduceCtorEq, reduceIte, aoptEv, abin, aint, ashift, aun, astr, aeqGuard, isConstOp, aconvH, aofStr, aconvSame, isU8, abuildSlice, afill, splice, azeros, Nat.reduceLeDiff, Nat.reduceLT, Int.reduceLE, Int.reduceLT, Int.reduceEq, Int.reduceToNat, Int.reducePow, IntKind.bits, Int.reduceNeg, RB, aalloc, Go.PW.dig_length, tf4LnC, hlen])
    refine ECall_intro (MoNew_calls n _ hn8) ?_
    rintro _ H2 ⟨b0, rfl, M0, x2⟩
    have hb0 := M0.one
    have hcb0 : b0.cells = [b0] := AV.cells_one hb0
    obtain ⟨q, hq⟩ : ∃ q, q = H2.length := ⟨_, rfl⟩
    have l2 := x2.len
    repeat' first
      | (with_reducible first | refine AWp_seq_k (fun K hK => ?_) | refine AWp_block ?_ | refine AWp_regionE ?_)
      | (simp only [thenA, inBlockA, reduceIte, Nat.reduceEqDiff])
      | ((with_reducible refine hK _ _ ?_); clear hK)
      | (simp only [ACond, RA, EAtS_def, EAtX_def, wantedA, acall, astep, ev, ofValue, ofAtom, Nat.reduceEqDiff, Nat.reduceAdd, Nat.reduceMul, Nat.reduceSub, reduceCtorEq, reduceIte, aoptEv, abin, aint, ashift, aun, astr, aeqGuard, isConstOp, aconvH, aofStr, aconvSame, isU8, abuildSlice, afill, splice, azeros, Nat.reduceLeDiff, Nat.reduceLT, Int.reduceLE, Int.reduceLT, Int.reduceEq, Int.reduceToNat, Int.reducePow, IntKind.bits, Int.reduceNeg, RB, aalloc, Go.PW.dig_length, tf4LnC, ← hq, ex, ey])
      | (simp (disch := first | omega | (simp only [RO]; done) | assumption) only [RS, six22, gix22, bst25_e, bst25_0, bst25_01])
      | (simp (disch := (first | omega | (simp only [RO]; done) | assumption | (simp only [RM, Go.PW.dig_length]; done) | (simp only [RL, Go.PW.dig_length]; omega))) only [RD, reduceCtorEq, reduceIte, Go.PW.dig_length, Nat.reduceLeDiff, Nat.reduceAdd, Nat.reduceMul, Int.reduceToNat, tf4LnC, ← hq, ex, ey])
    refine AWp_loop (fun l fr' H5 => ∃ (i : Nat) (b2 : AV) (zs : List Int), l = n - i ∧ i ≤ n ∧ fr' 0 = c ∧ fr' 7 = .ptr q 0 ∧ fr' 8 = .bool (allB (fun p => decide (w p > x)) i) ∧ fr' 9 = .bool (allB (fun p => decide (w p < y)) i) ∧ fr' 10 = .int .i64 x ∧ fr' 11 = .int .i64 y ∧ fr' 12 = .int .i64 (i : Int) ∧ hget H5 q = some (Sb n b2) ∧ Mo H5 b2 zs 0 ∧ Right n zs ∧ DgUp n w i zs ∧ Ext H H5) (m := n)
      ⟨0, b0, _, by omega, by omega, rfl, rfl, rfl, rfl, rfl, rfl, rfl, hget_at hq, (M0.push _).low (by omega), right_noughts hn8, DgUp.zero w, x2.pushed _⟩ ?_
    rintro l fr' H5 ⟨i, b2, zs, rfl, hi, k0, k7, k8, k9, k10, k11, k12, q3, M, hrz, hD, x5⟩
    have e1 : IntKind.i64.wrap ((i : Int) + 1) = ((i + 1 : Nat) : Int) := by rw [wrap_i64_id (by omega) (by omega)]; omega
    have hb2 := M.one
    have hcb2 : b2.cells = [b2] := AV.cells_one hb2
    obtain ⟨A, hA⟩ : ∃ A, A = allB (fun p => decide (w p > x)) i := ⟨_, rfl⟩
    obtain ⟨B, hB⟩ : ∃ B, B = allB (fun p => decide (w p < y)) i := ⟨_, rfl⟩
    rw [← hA] at k8
    rw [← hB] at k9
    by_cases hlt : i < n
    · have hwb1 := hwb i
      have ew : (ls.getD i 0).tmod 1200 = w i := (hwi i).symm
      have hpl := (hrz.pl hlt hlt).2
      repeat' first
        | (with_reducible first | refine AWp_seq_k (fun K hK => ?_) | refine AWp_block ?_ | refine AWp_skip ?_ | refine AWp_regionE ?_ | refine AWp_condI ?_)
        | (with_reducible refine AIte (fun hc => ?_) (fun hc => ?_) <;> (try simp only [RC] at hc) <;> (try (exfalso; first | omega | contradiction)))
        | (simp only [thenA, inBlockA, reduceIte, Nat.reduceEqDiff])
        | ((with_reducible refine hK _ _ ?_); clear hK)
        | (simp only [ACond, RA, EAtS_def, EAtX_def, wantedA, acall, astep, ev, ofValue, ofAtom, Nat.reduceEqDiff, Nat.reduceAdd, Nat.reduceMul, Nat.reduceSub, reduceCtorEq, reduceIte, aoptEv, abin, aint, ashift, aun, astr, aeqGuard, isConstOp, aconvH, aofStr, aconvSame, isU8, abuildSlice, afill, splice, azeros, Nat.reduceLeDiff, Nat.reduceLT, Int.reduceLE, Int.reduceLT, Int.reduceEq, Int.reduceToNat, Int.reducePow, IntKind.bits, Int.reduceNeg, RB, aalloc, Go.PW.dig_length, tf4LnC, hlen, k0, k7, k8, k9, k10, k11, k12, ew, q3])
        | (simp (disch := first | omega | (simp only [RO]; done) | assumption) only [RS, (hh.ext x5).rd.at1 und22 size2, (hh.ext x5).load1 agg2, six22, gix22, bst25_e, bst25_0, bst25_01])
        | (simp (disch := (first | omega | (simp only [RO]; done) | assumption | (simp only [RM, Go.PW.dig_length]; done) | (simp only [RL, Go.PW.dig_length]; omega))) only [RD, reduceCtorEq, reduceIte, Go.PW.dig_length, Nat.reduceLeDiff, Nat.reduceAdd, Nat.reduceMul, Int.reduceToNat, tf4LnC, hlen, k0, k7, k8, k9, k10, k11, k12, ew, q3])
      refine ECall_intro (Set_calls n zs b2 i i (w i) _ M.ints hrz hlt hlt (hwf i)) ?_
      rintro _ H6 ⟨b3, rfl, M3, x6⟩
      have hb3 := M3.one
      have hcb3 : b3.cells = [b3] := AV.cells_one hb3
      have q36 := hget_ext q3 x6
      have l3' := hget_lt q36
      have gs : hget (H6.set q (Sb n b3)) q = some (Sb n b3) := by rw [hget_set l3', if_pos rfl]
      have M6 := (M3.otherE q36 (show (25 : Nat) ≠ 2 by decide) (Sb n b3)).low (Nat.zero_le _)
      have x7 : Ext H (H6.set q (Sb n b3)) := (x5.trans x6).set (by omega) _
      obtain ⟨H7, h7⟩ : ∃ H7, H7 = H6.set q (Sb n b3) := ⟨_, rfl⟩
      rw [← h7] at gs M6 x7
      have hA1 : allB (fun p => decide (w p > x)) (i + 1) = (A && decide (w i > x)) := by rw [hA]; rfl
      have hB1 : allB (fun p => decide (w p < y)) (i + 1) = (B && decide (w i < y)) := by rw [hB]; rfl
      have hD1 := hD.step hn8 hlt hpl
      have hr1 := hrz.set (pl n i i) (hwf i)
      cases A <;> cases B
      all_goals
        repeat' first
          | (with_reducible first | refine AWp_regionE ?_)
          | (simp only [thenA, inBlockA, reduceIte, Nat.reduceEqDiff])
          | ((with_reducible refine hK _ _ ?_); clear hK)
          | (simp only [ACond, RA, EAtS_def, EAtX_def, wantedA, acall, astep, ev, ofValue, ofAtom, Nat.reduceEqDiff, Nat.reduceAdd, Nat.reduceMul, Nat.reduceSub, reduceCtorEq, reduceIte, aoptEv, abin, aint, ashift, aun, astr, aeqGuard, isConstOp, aconvH, aofStr, aconvSame, isU8, abuildSlice, afill, splice, azeros, Nat.reduceLeDiff, Nat.reduceLT, Int.reduceLE, Int.reduceLT, Int.reduceEq, Int.reduceToNat, Int.reducePow, IntKind.bits, Int.reduceNeg, RB, aalloc, Go.PW.dig_length, tf4LnC, k0, k7, k8, k9, k10, k11, k12, q36, ← h7, e1])
          | (simp (disch := first | omega | (simp only [RO]; done) | assumption) only [RS, six22, gix22, bst25_e, bst25_0, bst25_01])
          | (simp (disch := (first | omega | (simp only [RO]; done) | assumption | (simp only [RM, Go.PW.dig_length]; done) | (simp only [RL, Go.PW.dig_length]; omega))) only [RD, reduceCtorEq, reduceIte, Go.PW.dig_length, Nat.reduceLeDiff, Nat.reduceAdd, Nat.reduceMul, Int.reduceToNat, tf4LnC, k0, k7, k8, k9, k10, k11, k12, q36, ← h7, e1])
      all_goals exact ⟨_, by omega, i + 1, b3, _, rfl, by omega, by first | rfl | (rw [hA1]; rfl) | (rw [hA1, Bool.false_and]) | (rw [hA1, Bool.true_and]), by first | rfl | (rw [hB1]; rfl) | (rw [hB1, Bool.false_and]) | (rw [hB1, Bool.true_and]), rfl, gs, M6, hr1, hD1, x7⟩
    · obtain rfl : i = n := by omega
      have hdg := hD.done
      have hL := Least_calls i zs b2 x H5 M.ints hrz (by omega)
      have hM := Most_calls i zs b2 y H5 M.ints hrz (by omega)
      have eL : leastB i zs x = A := by
        rw [hA]
        refine posB_dg (d := fun p => w p - x) (fun p q hp hq => ?_) _ (fun p _ => by rw [decide_eq_true_iff]; constructor <;> intro h <;> omega)
        simp only [dif, nul, hdg p q hp hq]
        split <;> omega
      have eM : mostB i zs y = B := by
        rw [hB]
        refine posB_dg (d := fun p => y - w p) (fun p q hp hq => ?_) _ (fun p _ => by rw [decide_eq_true_iff]; constructor <;> intro h <;> omega)
        simp only [dif, nul, hdg p q hp hq]
        split <;> omega
      rw [eL] at hL
      rw [eM] at hM
      have N5 := hN.ext x5
      cases A
      · cases B
        all_goals
          repeat' first
            | (with_reducible first | refine AWp_seq_k (fun K hK => ?_) | refine AWp_skip ?_ | refine AWp_exit ?_ | refine AWp_regionE ?_ | refine AWp_condI ?_)
            | ((with_reducible refine ECall_intro (hL) ?_); rintro _ _ ⟨rfl, rfl⟩)
            | ((with_reducible refine ECall_intro (hM) ?_); rintro _ _ ⟨rfl, rfl⟩)
            | (with_reducible refine AIte (fun hc => ?_) (fun hc => ?_) <;> (try simp only [RC] at hc) <;> (try (exfalso; first | omega | contradiction)))
            | (simp only [thenA, inBlockA, reduceIte, Nat.reduceEqDiff])
            | ((with_reducible refine hK _ _ ?_); clear hK)
            | (clear hK; (with_reducible refine hK _ _ ?_); clear hK)
            | (simp only [ACond, RA, EAtS_def, EAtX_def, wantedA, acall, astep, ev, ofValue, ofAtom, Nat.reduceEqDiff, Nat.reduceAdd, Nat.reduceMul, Nat.reduceSub, reduceCtorEq, reduceIte, aoptEv, abin, aint, ashift, aun, astr, aeqGuard, isConstOp, aconvH, aofStr, aconvSame, isU8, abuildSlice, afill, splice, azeros, Nat.reduceLeDiff, Nat.reduceLT, Int.reduceLE, Int.reduceLT, Int.reduceEq, Int.reduceToNat, Int.reducePow, IntKind.bits, Int.reduceNeg, RB, aalloc, Go.PW.dig_length, tf4LnC, hlen, k0, k7, k8, k9, k10, k11, k12, q3])
            | (simp (disch := (first | omega | (simp only [RO]; done) | assumption | (simp only [RM, Go.PW.dig_length]; done) | (simp only [RL, Go.PW.dig_length]; omega))) only [RD, reduceCtorEq, reduceIte, Go.PW.dig_length, Nat.reduceLeDiff, Nat.reduceAdd, Nat.reduceMul, Int.reduceToNat, tf4LnC, hlen, k0, k7, k8, k9, k10, k11, k12, q3])
          refine ECall_intro (Between_calls i zs b2 x y _ M.ints hrz (by omega) (by omega)) ?_
          rintro v H6 ⟨hv, x6⟩
          have E6 : Err H6 v boundS 30 := by unfold BetwR at hv; rw [if_pos eL] at hv; exact hv
          have S6 := says9_err 30 30 v H6 E6 (N5.ext x6) (by omega) (by omega)
          rw [decide_eq_true rfl] at S6
          repeat' first
            | (with_reducible first | refine AWp_ret ?_)
            | ((with_reducible refine ECall_intro (S6) ?_); rintro _ _ ⟨rfl, rfl⟩)
            | (simp only [thenA, inBlockA, reduceIte, Nat.reduceEqDiff])
            | ((with_reducible refine hK _ _ ?_); clear hK)
            | (simp only [ACond, RA, EAtS_def, EAtX_def, wantedA, acall, astep, ev, ofValue, ofAtom, Nat.reduceEqDiff, Nat.reduceAdd, Nat.reduceMul, Nat.reduceSub, reduceCtorEq, reduceIte, aoptEv, abin, aint, ashift, aun, astr, aeqGuard, isConstOp, aconvH, aofStr, aconvSame, isU8, abuildSlice, afill, splice, azeros, Nat.reduceLeDiff, Nat.reduceLT, Int.reduceLE, Int.reduceLT, Int.reduceEq, Int.reduceToNat, Int.reducePow, IntKind.bits, Int.reduceNeg, RB, aalloc, Go.PW.dig_length, tf4LnC, k0])
        all_goals
          (
           (refine AEnd_gen (rs := [.tmp 6]) rfl ?_)
           (simp only [AEndR, aresults, Fr.put_some, Fr.put_none, fr0_zero, fr0_succ, fr0_nil, Nat.reduceEqDiff, reduceIte])
           (try simp (disch := (first | omega | (simp only [RO]; done) | assumption | (simp only [RM, Go.PW.dig_length]; done) | (simp only [RL, Go.PW.dig_length]; omega))) only [RD, reduceCtorEq, reduceIte, Go.PW.dig_length, Nat.reduceLeDiff, Nat.reduceAdd, Nat.reduceMul, Int.reduceToNat, tf4LnC]))
        all_goals exact ⟨x5.trans x6, trivial⟩
      · cases B
        · skip
          repeat' first
            | (with_reducible first | refine AWp_seq_k (fun K hK => ?_) | refine AWp_skip ?_ | refine AWp_exit ?_ | refine AWp_regionE ?_ | refine AWp_condI ?_)
            | ((with_reducible refine ECall_intro (hL) ?_); rintro _ _ ⟨rfl, rfl⟩)
            | ((with_reducible refine ECall_intro (hM) ?_); rintro _ _ ⟨rfl, rfl⟩)
            | (with_reducible refine AIte (fun hc => ?_) (fun hc => ?_) <;> (try simp only [RC] at hc) <;> (try (exfalso; first | omega | contradiction)))
            | (simp only [thenA, inBlockA, reduceIte, Nat.reduceEqDiff])
            | ((with_reducible refine hK _ _ ?_); clear hK)
            | (clear hK; (with_reducible refine hK _ _ ?_); clear hK)
            | (simp only [ACond, RA, EAtS_def, EAtX_def, wantedA, acall, astep, ev, ofValue, ofAtom, Nat.reduceEqDiff, Nat.reduceAdd, Nat.reduceMul, Nat.reduceSub, reduceCtorEq, reduceIte, aoptEv, abin, aint, ashift, aun, astr, aeqGuard, isConstOp, aconvH, aofStr, aconvSame, isU8, abuildSlice, afill, splice, azeros, Nat.reduceLeDiff, Nat.reduceLT, Int.reduceLE, Int.reduceLT, Int.reduceEq, Int.reduceToNat, Int.reducePow, IntKind.bits, Int.reduceNeg, RB, aalloc, Go.PW.dig_length, tf4LnC, hlen, k0, k7, k8, k9, k10, k11, k12, q3])
            | (simp (disch := (first | omega | (simp only [RO]; done) | assumption | (simp only [RM, Go.PW.dig_length]; done) | (simp only [RL, Go.PW.dig_length]; omega))) only [RD, reduceCtorEq, reduceIte, Go.PW.dig_length, Nat.reduceLeDiff, Nat.reduceAdd, Nat.reduceMul, Int.reduceToNat, tf4LnC, hlen, k0, k7, k8, k9, k10, k11, k12, q3])
          refine ECall_intro (Between_calls i zs b2 x y _ M.ints hrz (by omega) (by omega)) ?_
          rintro v H6 ⟨hv, x6⟩
          have E6 : Err H6 v boundS 31 := by unfold BetwR at hv; rw [if_neg (by rw [eL]; decide), if_pos eM] at hv; exact hv
          have S6 := says9_err 31 31 v H6 E6 (N5.ext x6) (by omega) (by omega)
          rw [decide_eq_true rfl] at S6
          repeat' first
            | (with_reducible first | refine AWp_ret ?_)
            | ((with_reducible refine ECall_intro (S6) ?_); rintro _ _ ⟨rfl, rfl⟩)
            | (simp only [thenA, inBlockA, reduceIte, Nat.reduceEqDiff])
            | ((with_reducible refine hK _ _ ?_); clear hK)
            | (simp only [ACond, RA, EAtS_def, EAtX_def, wantedA, acall, astep, ev, ofValue, ofAtom, Nat.reduceEqDiff, Nat.reduceAdd, Nat.reduceMul, Nat.reduceSub, reduceCtorEq, reduceIte, aoptEv, abin, aint, ashift, aun, astr, aeqGuard, isConstOp, aconvH, aofStr, aconvSame, isU8, abuildSlice, afill, splice, azeros, Nat.reduceLeDiff, Nat.reduceLT, Int.reduceLE, Int.reduceLT, Int.reduceEq, Int.reduceToNat, Int.reducePow, IntKind.bits, Int.reduceNeg, RB, aalloc, Go.PW.dig_length, tf4LnC, k0])
          all_goals
            (
             (refine AEnd_gen (rs := [.tmp 6]) rfl ?_)
             (simp only [AEndR, aresults, Fr.put_some, Fr.put_none, fr0_zero, fr0_succ, fr0_nil, Nat.reduceEqDiff, reduceIte])
             (try simp (disch := (first | omega | (simp only [RO]; done) | assumption | (simp only [RM, Go.PW.dig_length]; done) | (simp only [RL, Go.PW.dig_length]; omega))) only [RD, reduceCtorEq, reduceIte, Go.PW.dig_length, Nat.reduceLeDiff, Nat.reduceAdd, Nat.reduceMul, Int.reduceToNat, tf4LnC]))
          all_goals exact ⟨x5.trans x6, trivial⟩
        · have hBt := Between_ok i zs b2 x y H5 M.ints hrz (by omega) (by omega) eL eM
          repeat' first
            | (with_reducible first | refine AWp_seq_k (fun K hK => ?_) | refine AWp_skip ?_ | refine AWp_exit ?_ | refine AWp_ret ?_ | refine AWp_regionE ?_ | refine AWp_condI ?_)
            | ((with_reducible refine ECall_intro (hL) ?_); rintro _ _ ⟨rfl, rfl⟩)
            | ((with_reducible refine ECall_intro (hM) ?_); rintro _ _ ⟨rfl, rfl⟩)
            | ((with_reducible refine ECall_intro (hBt) ?_); rintro _ _ ⟨rfl, rfl⟩)
            | ((with_reducible refine ECall_intro (says9_nil _) ?_); rintro _ _ ⟨rfl, rfl⟩)
            | (with_reducible refine AIte (fun hc => ?_) (fun hc => ?_) <;> (try simp only [RC] at hc) <;> (try (exfalso; first | omega | contradiction)))
            | (simp only [thenA, inBlockA, reduceIte, Nat.reduceEqDiff])
            | ((with_reducible refine hK _ _ ?_); clear hK)
            | (clear hK; (with_reducible refine hK _ _ ?_); clear hK)
            | (simp only [ACond, RA, EAtS_def, EAtX_def, wantedA, acall, astep, ev, ofValue, ofAtom, Nat.reduceEqDiff, Nat.reduceAdd, Nat.reduceMul, Nat.reduceSub, reduceCtorEq, reduceIte, aoptEv, abin, aint, ashift, aun, astr, aeqGuard, isConstOp, aconvH, aofStr, aconvSame, isU8, abuildSlice, afill, splice, azeros, Nat.reduceLeDiff, Nat.reduceLT, Int.reduceLE, Int.reduceLT, Int.reduceEq, Int.reduceToNat, Int.reducePow, IntKind.bits, Int.reduceNeg, RB, aalloc, Go.PW.dig_length, tf4LnC, hlen, k0, k7, k8, k9, k10, k11, k12, q3])
            | (simp (disch := (first | omega | (simp only [RO]; done) | assumption | (simp only [RM, Go.PW.dig_length]; done) | (simp only [RL, Go.PW.dig_length]; omega))) only [RD, reduceCtorEq, reduceIte, Go.PW.dig_length, Nat.reduceLeDiff, Nat.reduceAdd, Nat.reduceMul, Int.reduceToNat, tf4LnC, hlen, k0, k7, k8, k9, k10, k11, k12, q3])
          all_goals
            (
             (refine AEnd_gen (rs := [.tmp 6]) rfl ?_)
             (simp only [AEndR, aresults, Fr.put_some, Fr.put_none, fr0_zero, fr0_succ, fr0_nil, Nat.reduceEqDiff, reduceIte])
             (try simp (disch := (first | omega | (simp only [RO]; done) | assumption | (simp only [RM, Go.PW.dig_length]; done) | (simp only [RL, Go.PW.dig_length]; omega))) only [RD, reduceCtorEq, reduceIte, Go.PW.dig_length, Nat.reduceLeDiff, Nat.reduceAdd, Nat.reduceMul, Int.reduceToNat, tf4LnC]))
          all_goals exact ⟨x5, trivial⟩
end Go.Proofs.YtfalfmfkifemeaaDoor

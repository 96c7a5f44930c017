/- Part 21 of the proof of laws of this seat: lemmas on the model's code, on this program's functions, on numbers. No condition. -/
import Derived.Test.YtfalfmfkifemeaaDoorZDiaat
set_option linter.unusedVariables false
set_option linter.unusedSimpArgs false
namespace Go.Proofs.YtfalfmfkifemeaaDoor
open Go.AL Go.PW Go.PD
theorem tf37BdA : type_of% (And.intro @tyb2 (And.intro @tyb3 (And.intro @tyb22 (And.intro @tyb24 (@tyb25))))) := And.intro @tyb2 (And.intro @tyb3 (And.intro @tyb22 (And.intro @tyb24 (@tyb25))))
theorem tf36BdA : type_of% (And.intro @tyb3 (And.intro @tyb34 (And.intro @tyb35 (And.intro @tyb36 (And.intro @tyb48 (@tyb58)))))) := And.intro @tyb3 (And.intro @tyb34 (And.intro @tyb35 (And.intro @tyb36 (And.intro @tyb48 (@tyb58)))))
abbrev pn36_9BdA : Plan := (.one 0 (.one 1 (.one 2 (.one 4 (.one 5 (.one 6 (.one 7 (.one 8 (.one 9 (.one 10 (.one 11 (.one 12 (.one 13 (.one 14 (.one 15 (.one 16 (.one 17 (.one 18 (.pur 19 (.one 3 (.one 20 (.one 21 (.one 22 (.one 23 (.one 24 .nil)))))))))))))))))))))))))
abbrev pn36_11BdA : Plan := (.one 0 (.one 1 (.one 2 (.one 4 (.one 5 (.one 6 (.one 7 (.one 8 (.one 9 (.one 10 (.one 11 (.one 12 (.pur 13 (.one 3 (.one 14 (.one 15 (.one 16 (.one 17 (.one 18 .nil)))))))))))))))))))
set_option maxRecDepth 8000
/-- A matrix of noughts. -/
structure Noughts (H0 H : Hp) (a : AV) (n : Nat) : Prop where
  ex : ∃ h, a = .sl h 0 (n * (n + 1) / 2) (n * (n + 1) / 2) ∧ hget H h = some ⟨(List.replicate (n * (n + 1) / 2) (0 : Int)).map (AV.int .i64), .own, 2⟩ ∧ H0.length ≤ h
set_option maxHeartbeats 2000000 in
theorem New_calls (n : Nat) (H : Hp) (h8 : n ≤ 8) : ACalls Tryd.prog 37 [.int .i64 (n : Int)] H fun r H' => ∃ a, r = SymA n a ∧ Noughts H H' a n ∧ Ext H H' := by
  have hm1 : abuiltin Tryd.prog .max #[3, 3] [.int .i64 (n : Int), .int .i64 0] = some (.int .i64 (n : Int)) := by
    show some (AV.int .i64 (if ((n : Int) < 0) then 0 else (n : Int))) = _
    rw [if_neg (by omega)]
  have hm2 : abuiltin Tryd.prog .min #[3, 3] [.int .i64 (n : Int), .int .i64 8] = some (.int .i64 (n : Int)) := by
    show some (AV.int .i64 (if ((8 : Int) < (n : Int)) then 8 else (n : Int))) = _
    rw [if_neg (by omega)]
  have hn2 : n * (n + 1) / 2 < 1000000 := by
    have : n * (n + 1) ≤ 8 * 9 := Nat.mul_le_mul h8 (by omega)
    omega
  have hr := fun H0 => room_calls n H0 (by omega) (by omega)
  rw [show ((n : Int) * ((n : Int) + 1) / 2) = ((n * (n + 1) / 2 : Nat) : Int) by push_cast; rfl] at hr
  have hmk := fun H0 => make_i64 H0 (n * (n + 1) / 2) .i64 hn2
  refine ACalls_body Tryd.func37 rfl (by kernel_rfl) (by kernel_rfl) ?_
  repeat' first
    | (with_reducible first | refine AWp_seq_k (fun K hK => ?_) | refine AWp_ret ?_ | refine AWp_regionE ?_)
    | ((with_reducible refine ECall_intro (hr _) ?_); rintro _ _ ⟨rfl, rfl⟩)
    | (simp only [thenA, inBlockA, reduceIte, Nat.reduceEqDiff])
    | ((with_reducible refine hK _ _ ?_); clear hK)
    | (simp only [ACond, RA, EAtS_def, EAtX_def, wantedA, acall, astep, ev, ofValue, ofAtom, Nat.reduceEqDiff, Nat.reduceAdd, Nat.reduceMul, Nat.reduceSub, reduceCtorEq, reduceIte, aoptEv, abin, aint, ashift, aun, astr, aeqGuard, isConstOp, aconvH, aofStr, aconvSame, isU8, abuildSlice, afill, splice, azeros, Nat.reduceLeDiff, Nat.reduceLT, Int.reduceLE, Int.reduceLT, Int.reduceEq, Int.reduceToNat, Int.reducePow, IntKind.bits, Int.reduceNeg, RB, aalloc, Go.PW.dig_length, tf37BdA, hm1, hm2, hmk])
    | (simp (disch := first | omega | (simp only [RO]; done) | assumption) only [RS, six22, gix22, bst25_e, bst25_0, bst25_01])
    | (simp (disch := (first | omega | (simp only [RO]; done) | assumption | (simp only [RM, Go.PW.dig_length]; done) | (simp only [RL, Go.PW.dig_length]; omega))) only [RD, reduceCtorEq, reduceIte, Go.PW.dig_length, Nat.reduceLeDiff, Nat.reduceAdd, Nat.reduceMul, Int.reduceToNat, tf37BdA, hm1, hm2, hmk])
  all_goals
    (
     (refine AEnd_gen (rs := [.cell 2 25]) rfl ?_)
     (simp only [AEndR, aresults, Fr.put_some, Fr.put_none, fr0_zero, fr0_succ, fr0_nil, Nat.reduceEqDiff, reduceIte])
     (try simp (disch := (first | omega | (simp only [RO]; done) | assumption | (simp only [RM, Go.PW.dig_length]; done) | (simp only [RL, Go.PW.dig_length]; omega))) only [RD, reduceCtorEq, reduceIte, Go.PW.dig_length, Nat.reduceLeDiff, Nat.reduceAdd, Nat.reduceMul, Int.reduceToNat, tf37BdA]))
  all_goals exact ⟨_, rfl, ⟨H.length + 1, rfl, by first | exact hget_at (by simp) | rw [if_pos (by simp)] | simp, by omega⟩, (Ext.push _ _).pushed _⟩
theorem Noughts.ints {H0 H : Hp} {a : AV} {n : Nat} (h : Noughts H0 H a n) : Ints H .i64 a (List.replicate (n * (n + 1) / 2) 0) := by
  obtain ⟨k, rfl, hg, _⟩ := h.ex
  have := Ints.blk (n := n * (n + 1) / 2) (c := n * (n + 1) / 2) (o := 0) hg (by decide) (by simp) (Nat.le_refl _)
  rwa [List.drop_zero, List.take_of_length_le (by simp)] at this
theorem right_noughts {n : Nat} (h8 : n ≤ 8) : Right n (List.replicate (n * (n + 1) / 2) 0) := by
  refine ⟨⟨by omega, by omega, by rw [List.length_replicate]; push_cast; rfl⟩, fun x hx => ?_⟩
  rw [(List.mem_replicate.1 hx).2]
  unfold Fit; omega
theorem ent_noughts (n i j : Nat) (l : Nat) : ent n (List.replicate l 0) i j = 0 := by
  unfold ent
  rw [List.getD_eq_getElem?_getD, List.getElem?_replicate]
  split <;> rfl
/-- Rows of a function. -/
def rowsF (n : Nat) (f : Nat → Nat → Int) : List (List Int) := (List.range n).map fun i => (List.range n).map fun j => f i j
theorem rowsF_length (n : Nat) (f : Nat → Nat → Int) : (rowsF n f).length = n := by simp [rowsF]
theorem rowsF_get (n : Nat) (f : Nat → Nat → Int) (i : Nat) (hi : i < n) : (rowsF n f).getD i [] = (List.range n).map fun j => f i j := by
  simp [rowsF, List.getD, hi]
theorem rowsF_get2 (n : Nat) (f : Nat → Nat → Int) (i j : Nat) (hi : i < n) (hj : j < n) : ((rowsF n f).getD i []).getD j 0 = f i j := by
  rw [rowsF_get _ _ _ hi]
  simp [List.getD, hj]
theorem St.zeroF (n : Nat) (f : Nat → Nat → Int) : St n 0 f (rowsF n f) := by
  refine ⟨rowsF_length n f, fun i hi => by rw [rowsF_get _ _ _ hi]; simp, fun i j _ hi hj => by rw [rowsF_get2 _ _ _ _ hi hj, d_zero]⟩
theorem rowsOf_F (n : Nat) (xs : List Int) : rowsOf n xs = rowsF n (ent n xs) := rfl
set_option maxHeartbeats 8000000 in
theorem less_calls (n pa pb : Nat) (va vb : List AV) (a b : Nat → Nat → Int) (more : Int) (H : Hp) (MA : Mat H pa va (rowsF n a)) (MB : Mat H pb vb (rowsF n b)) (h8 : n ≤ 8) (hA : ∀ i j, i < n → j < n → (a i j).natAbs ≤ 1073741824) (hB : ∀ i j, i < n → j < n → (b i j).natAbs ≤ 1073741824) (hm : more.natAbs ≤ 9223372036854775808) :
    ACalls Tryd.prog 36 [.sl pa 0 n n, .sl pb 0 n n, W more] H fun r H' => ∃ p vs, r = .sl p 0 n n ∧ Mat H' p vs (rowsF n (dif a b more)) ∧ Ext H H' ∧ Fresh H p vs n := by
  have mo := fun H => make_outer H n .i64 (by omega)
  have mr := fun H => make_row H n .i64 (by omega)
  have hInm : In more := In_small (Nat.le_trans hm (by decide +kernel))
  have hAin : ∀ i j, i < n → j < n → In (a i j) := fun i j hi hj => In_small (Nat.le_trans (hA i j hi hj) (by decide +kernel))
  have hBin : ∀ i j, i < n → j < n → In (b i j) := fun i j hi hj => In_small (Nat.le_trans (hB i j hi hj) (by decide +kernel))
  have hDb : ∀ i j, i < n → j < n → (a i j - b i j).natAbs ≤ 2147483648 := fun i j hi hj => by have := hA i j hi hj; have := hB i j hi hj; omega
  have hDin : ∀ i j, i < n → j < n → In (a i j - b i j) := fun i j hi hj => In_small (Nat.le_trans (hDb i j hi hj) (by decide +kernel))
  have hSin : ∀ i j, i < n → j < n → In (a i j - b i j + more) := fun i j hi hj => In_small (Nat.le_trans (show (a i j - b i j + more).natAbs ≤ 9223372039002259456 by have := hDb i j hi hj; omega) (by decide +kernel))
  have hwA : ∀ i, i < n → ((rowsF n a).getD i []).length = n := fun i hi => by rw [rowsF_get _ _ _ hi]; simp
  have hwB : ∀ i, i < n → ((rowsF n b).getD i []).length = n := fun i hi => by rw [rowsF_get _ _ _ hi]; simp
  have lA := rowsF_length n a
  have lB := rowsF_length n b
  refine ACalls_body Tryd.func36 rfl (by kernel_rfl) (by kernel_rfl) ?_
  repeat' first
    | (with_reducible first | refine AWp_seq_k (fun K hK => ?_) | refine AWp_block ?_ | refine AWp_regionE ?_)
    | (simp only [thenA, inBlockA, reduceIte, Nat.reduceEqDiff])
    | ((with_reducible refine hK _ _ ?_); clear hK)
    | (simp only [ACond, RA, EAtS_def, EAtX_def, wantedA, acall, astep, ev, ofValue, ofAtom, Nat.reduceEqDiff, Nat.reduceAdd, Nat.reduceMul, Nat.reduceSub, reduceCtorEq, reduceIte, aoptEv, abin, aint, ashift, aun, astr, aeqGuard, isConstOp, aconvH, aofStr, aconvSame, isU8, abuildSlice, afill, splice, azeros, Nat.reduceLeDiff, Nat.reduceLT, Int.reduceLE, Int.reduceLT, Int.reduceEq, Int.reduceToNat, Int.reducePow, IntKind.bits, Int.reduceNeg, RB, aalloc, Go.PW.dig_length, tf36BdA, mo])
  obtain ⟨p, hp⟩ : ∃ p, p = H.length + 1 := ⟨_, rfl⟩
  rw [← hp]
  refine AWp_loop (fun m fr' H1 => ∃ (t : Nat) (vs : List AV) (rss : List (List Int)), m = n - t ∧ t ≤ n ∧ fr' 0 = .sl pa 0 n n ∧ fr' 1 = .sl pb 0 n n ∧ fr' 5 = .ptr H.length 0 ∧ fr' 7 = .sl p 0 n n ∧ fr' 14 = .int .i64 (n : Int) ∧ fr' 15 = .int .i64 (t : Int) ∧
      Mat H1 p vs rss ∧ vs.length = n ∧ rss.length = t ∧ (∀ i, i < t → rss.getD i [] = (List.range n).map fun j => dif a b more i j) ∧ (∀ i, i < t → H.length ≤ (vs.getD i .nilS).hd) ∧ Ext H H1 ∧ hget H1 H.length = some (Wb more)) (m := n)
    ⟨0, List.replicate n .nilS, [], by omega, by omega, rfl, rfl, rfl, rfl, rfl, rfl, ⟨by simp, by rw [hp]; exact hget_at (by simp), fun i hi => by simp at hi, fun i j hi => by simp at hi, fun i hi => by simp at hi⟩, by simp, rfl, fun i hi => by omega, fun i hi => by omega, (Ext.push _ _).pushed _, by rw [hget_old (by simp), hget_at rfl]⟩ ?_
  rintro m fr' H1 ⟨t, vs, rss, rfl, ht, k0, k1, k5, k7, k14, k15, M, hvl, hrl, hrow, hfr, x1, g1⟩
  have e1 : IntKind.i64.wrap ((t : Int) + 1) = ((t + 1 : Nat) : Int) := by rw [wrap_i64_id (by omega) (by omega)]; omega
  have l1 := hget_lt g1
  by_cases hlt : t < n
  · obtain ⟨hh, hhe⟩ : ∃ hh, hh = H1.length := ⟨_, rfl⟩
    have lp := hget_lt M.out
    have op := outer_put (H := H1 ++ [Rb (List.replicate n 0)]) (p := p) (vs := vs) (t := t) (x := .sl hh 0 n n) (by rw [hget_old lp]; exact M.out) (by omega) rfl
    have MS := M.snoc (by omega) (List.replicate n 0)
    rw [hrl, List.length_replicate, ← hhe, List.set_append_left _ _ lp] at MS
    refine AWp_seq_k (fun K hQ => ?_)
    repeat' first
      | (with_reducible first | refine AWp_skip ?_ | refine AWp_regionE ?_ | refine AWp_condI ?_)
      | (with_reducible refine AIte (fun hc => ?_) (fun hc => ?_) <;> (try simp only [RC] at hc) <;> (try (exfalso; first | omega | contradiction)))
      | (simp only [thenA, inBlockA, reduceIte, Nat.reduceEqDiff])
      | (simp only [ACond, RA, EAtS_def, EAtX_def, wantedA, acall, astep, ev, ofValue, ofAtom, Nat.reduceEqDiff, Nat.reduceAdd, Nat.reduceMul, Nat.reduceSub, reduceCtorEq, reduceIte, aoptEv, abin, aint, ashift, aun, astr, aeqGuard, isConstOp, aconvH, aofStr, aconvSame, isU8, abuildSlice, afill, splice, azeros, Nat.reduceLeDiff, Nat.reduceLT, Int.reduceLE, Int.reduceLT, Int.reduceEq, Int.reduceToNat, Int.reducePow, IntKind.bits, Int.reduceNeg, RB, aalloc, Go.PW.dig_length, tf36BdA, k0, k1, k5, k7, k14, k15])
    refine hQ _ _ ?_
    clear hQ
    refine AWp_seq_k (fun K hQ => ?_)
    repeat' first
      | (with_reducible first | refine AWp_skip ?_ | refine AWp_regionE ?_ | refine AWp_condI ?_)
      | (with_reducible refine AIte (fun hc => ?_) (fun hc => ?_) <;> (try simp only [RC] at hc) <;> (try (exfalso; first | omega | contradiction)))
      | (simp only [thenA, inBlockA, reduceIte, Nat.reduceEqDiff])
      | (simp only [ACond, RA, EAtS_def, EAtX_def, wantedA, acall, astep, ev, ofValue, ofAtom, Nat.reduceEqDiff, Nat.reduceAdd, Nat.reduceMul, Nat.reduceSub, reduceCtorEq, reduceIte, aoptEv, abin, aint, ashift, aun, astr, aeqGuard, isConstOp, aconvH, aofStr, aconvSame, isU8, abuildSlice, afill, splice, azeros, Nat.reduceLeDiff, Nat.reduceLT, Int.reduceLE, Int.reduceLT, Int.reduceEq, Int.reduceToNat, Int.reducePow, IntKind.bits, Int.reduceNeg, RB, aalloc, Go.PW.dig_length, tf36BdA, k0, k1, k5, k7, k14, k15])
    refine hQ _ _ ?_
    clear hQ
    refine AWp_seq_k (fun K3 hK3 => ?_)
    refine AWp_block ?_
    refine AWp_seq_k (fun K hQ => ?_)
    repeat' first
      | (with_reducible first | refine AWp_regionE ?_)
      | (simp only [thenA, inBlockA, reduceIte, Nat.reduceEqDiff])
      | (simp only [ACond, RA, EAtS_def, EAtX_def, wantedA, acall, astep, ev, ofValue, ofAtom, Nat.reduceEqDiff, Nat.reduceAdd, Nat.reduceMul, Nat.reduceSub, reduceCtorEq, reduceIte, aoptEv, abin, aint, ashift, aun, astr, aeqGuard, isConstOp, aconvH, aofStr, aconvSame, isU8, abuildSlice, afill, splice, azeros, Nat.reduceLeDiff, Nat.reduceLT, Int.reduceLE, Int.reduceLT, Int.reduceEq, Int.reduceToNat, Int.reducePow, IntKind.bits, Int.reduceNeg, RB, aalloc, Go.PW.dig_length, tf36BdA, k0, k1, k5, k7, k14, k15, mr, ← hhe, op])
      | (simp (disch := first | omega | (simp only [RO]; done) | assumption) only [RS, six48, gix48, six58, gix58, idx35, slh35, idx36, slh36])
      | (simp (disch := (first | omega | (simp only [RO]; done) | assumption | (simp only [RM, Go.PW.dig_length]; done) | (simp only [RL, Go.PW.dig_length]; omega))) only [RD, reduceCtorEq, reduceIte, Go.PW.dig_length, Nat.reduceLeDiff, Nat.reduceAdd, Nat.reduceMul, Int.reduceToNat, tf36BdA, k0, k1, k5, k7, k14, k15, mr, ← hhe, op])
    refine hQ _ _ ?_
    clear hQ
    refine AWp_seq_k (fun K hQ => ?_)
    repeat' first
      | (with_reducible first | refine AWp_regionE ?_)
      | (simp only [thenA, inBlockA, reduceIte, Nat.reduceEqDiff])
      | (simp only [ACond, RA, EAtS_def, EAtX_def, wantedA, acall, astep, ev, ofValue, ofAtom, Nat.reduceEqDiff, Nat.reduceAdd, Nat.reduceMul, Nat.reduceSub, reduceCtorEq, reduceIte, aoptEv, abin, aint, ashift, aun, astr, aeqGuard, isConstOp, aconvH, aofStr, aconvSame, isU8, abuildSlice, afill, splice, azeros, Nat.reduceLeDiff, Nat.reduceLT, Int.reduceLE, Int.reduceLT, Int.reduceEq, Int.reduceToNat, Int.reducePow, IntKind.bits, Int.reduceNeg, RB, aalloc, Go.PW.dig_length, tf36BdA, k0, k1, k5, k7, k14, k15, mr, ← hhe, op])
      | (simp (disch := first | omega | (simp only [RO]; done) | assumption) only [RS, six48, gix48, six58, gix58, idx35, slh35, idx36, slh36])
      | (simp (disch := (first | omega | (simp only [RO]; done) | assumption | (simp only [RM, Go.PW.dig_length]; done) | (simp only [RL, Go.PW.dig_length]; omega))) only [RD, reduceCtorEq, reduceIte, Go.PW.dig_length, Nat.reduceLeDiff, Nat.reduceAdd, Nat.reduceMul, Int.reduceToNat, tf36BdA, k0, k1, k5, k7, k14, k15, mr, ← hhe, op])
    refine hQ _ _ ?_
    clear hQ
    refine AWp_seq_k (fun K4 hK4 => ?_)
    have hv2 : (vs.set t (AV.sl hh 0 n n)).getD t .nilS = .sl hh 0 n n := by rw [set_getD _ _ _ _ _ (by omega), if_pos rfl]
    have hr2 : ∀ rr : List Int, (rss ++ [rr]).getD t [] = rr := fun rr => by rw [← hrl]; simp [List.getD]
    have hl2 : ∀ rr : List Int, t < (rss ++ [rr]).length := fun rr => by simp; omega
    have lhh : H.length < hh := by omega
    have php : p ≠ H.length := by omega
    have hdd : (AV.sl hh 0 n n).hd = hh := rfl
    repeat' first
      | (with_reducible first | refine AWp_seq_k (fun K hK => ?_) | refine AWp_block ?_ | refine AWp_regionE ?_)
      | (simp only [thenA, inBlockA, reduceIte, Nat.reduceEqDiff])
      | ((with_reducible refine hK _ _ ?_); clear hK)
      | (simp only [ACond, RA, EAtS_def, EAtX_def, wantedA, acall, astep, ev, ofValue, ofAtom, Nat.reduceEqDiff, Nat.reduceAdd, Nat.reduceMul, Nat.reduceSub, reduceCtorEq, reduceIte, aoptEv, abin, aint, ashift, aun, astr, aeqGuard, isConstOp, aconvH, aofStr, aconvSame, isU8, abuildSlice, afill, splice, azeros, Nat.reduceLeDiff, Nat.reduceLT, Int.reduceLE, Int.reduceLT, Int.reduceEq, Int.reduceToNat, Int.reducePow, IntKind.bits, Int.reduceNeg, RB, aalloc, Go.PW.dig_length, tf36BdA, k0, k1, k5, k7, k14, k15])
    refine AWp_loop (fun m fr' H2 => ∃ (j : Nat) (rr : List Int), m = n - j ∧ j ≤ n ∧ fr' 0 = .sl pa 0 n n ∧ fr' 1 = .sl pb 0 n n ∧ fr' 5 = .ptr H.length 0 ∧ fr' 7 = .sl p 0 n n ∧ fr' 8 = .int .i64 (t : Int) ∧ fr' 14 = .int .i64 (n : Int) ∧ fr' 15 = .int .i64 (t : Int) ∧ fr' 25 = .int .i64 (n : Int) ∧ fr' 26 = .int .i64 (j : Int) ∧
        Mat H2 p (vs.set t (.sl hh 0 n n)) (rss ++ [rr]) ∧ rr.length = n ∧ (∀ c, c < n → rr.getD c 0 = if c < j then a t c - b t c else 0) ∧ Ext H H2 ∧ hget H2 H.length = some (Wb more)) (m := n)
      ⟨0, List.replicate n 0, by omega, by omega, k0, k1, k5, k7, rfl, k14, k15, rfl, rfl, MS, by simp, fun c hc => by rw [if_neg (by omega)]; simp [List.getD, hc], (x1.set (by omega) _).pushed _, by rw [hget_old (by rw [List.length_set]; exact l1), hget_set lp, if_neg (by omega)]; exact g1⟩ ?_
    rintro m fr' H2 ⟨j, rr, rfl, hj, k0, k1, k5, k7, k8, k14, k15, k25, k26, M2, hrl2, hrr, x2, g2⟩
    have e2 : IntKind.i64.wrap ((j : Int) + 1) = ((j + 1 : Nat) : Int) := by rw [wrap_i64_id (by omega) (by omega)]; omega
    have lh2 : hh < H2.length := by have := hget_lt (M2.row t (hl2 _)).2; rw [hv2] at this; exact this
    have b1 := M2.at0 (hl2 _)
    rw [hv2] at b1
    by_cases hjn : j < n
    · have A0 := (MA.ext x2).at0 (i := t) (by omega)
      have A1 := (MA.ext x2).idx (i := t) (by omega) (k := .i64) (j := (j : Int)) (by omega) (by rw [hwA _ hlt]; omega)
      have A2 := (MA.ext x2).get (i := t) (j := j) (by omega) (by rw [hwA _ hlt]; omega)
      have B0 := (MB.ext x2).at0 (i := t) (by omega)
      have B1 := (MB.ext x2).idx (i := t) (by omega) (k := .i64) (j := (j : Int)) (by omega) (by rw [hwB _ hlt]; omega)
      have B2 := (MB.ext x2).get (i := t) (j := j) (by omega) (by rw [hwB _ hlt]; omega)
      rw [Int.toNat_natCast] at A1 B1
      rw [rowsF_get2 _ _ _ _ hlt hjn] at A2 B2
      have b3 := M2.idx (hl2 _) (k := .i64) (j := (j : Int)) (by omega) (by rw [hr2]; omega)
      have d1 := M2.put (x := a t j - b t j) (hl2 _) (j := j) (by rw [hr2]; omega)
      rw [hv2] at b3 d1
      rw [hr2] at d1
      rw [Int.toNat_natCast] at b3
      rw [hdd] at b3 d1
      have M3 := M2.set (hl2 _) (rs := rr.set j (a t j - b t j)) (by rw [hr2, List.length_set])
      rw [hv2, hdd] at M3
      have hs3 : (rss ++ [rr]).set t (rr.set j (a t j - b t j)) = rss ++ [rr.set j (a t j - b t j)] := by rw [← hrl]; simp
      rw [hs3] at M3
      have hsub := fun H0 => sub_calls (a t j) (b t j) H0 (hAin t j hlt hjn) (hBin t j hlt hjn) (hDin t j hlt hjn)
      repeat' first
        | (with_reducible first | refine AWp_seq_k (fun K hK => ?_) | refine AWp_block ?_ | refine AWp_skip ?_ | refine AWp_regionE ?_ | refine AWp_drawE (id := 9) [] pn36_9BdA (by kernel_rfl) (by kernel_rfl) ?_ | refine AWp_condI ?_ | refine Run_pur ?_)
        | (with_reducible refine EPure_intro (fun _ x => (hsub _)) ?_)
        | (with_reducible refine AIte (fun hc => ?_) (fun hc => ?_) <;> (try simp only [RC] at hc) <;> (try (exfalso; first | omega | contradiction)))
        | (simp only [thenA, inBlockA, reduceIte, Nat.reduceEqDiff])
        | ((with_reducible refine hK _ _ ?_); clear hK)
        | (simp only [ACond, RA, EAtS_def, EAtX_def, wantedA, acall, astep, ev, ofValue, ofAtom, Nat.reduceEqDiff, Nat.reduceAdd, Nat.reduceMul, Nat.reduceSub, reduceCtorEq, reduceIte, aoptEv, abin, aint, ashift, aun, astr, aeqGuard, isConstOp, aconvH, aofStr, aconvSame, isU8, abuildSlice, afill, splice, azeros, Nat.reduceLeDiff, Nat.reduceLT, Int.reduceLE, Int.reduceLT, Int.reduceEq, Int.reduceToNat, Int.reducePow, IntKind.bits, Int.reduceNeg, RB, aalloc, Go.PW.dig_length, tf36BdA, k0, k1, k5, k7, k8, k14, k15, k25, k26, e2, A0, A1, A2, B0, B1, B2, b1, b3, d1])
        | (simp (disch := first | omega | (simp only [RO]; done) | assumption) only [RS, six48, gix48, six58, gix58, idx35, slh35, idx36, slh36])
      all_goals
        refine ⟨_, by omega, j + 1, rr.set j (a t j - b t j), rfl, by omega, rfl, M3, by rw [List.length_set]; exact hrl2, fun c hc => ?_, x2.set (by omega) _, by rw [hget_set lh2, if_neg (by omega)]; exact g2⟩
        rw [getD_set _ _ (by omega)]
        by_cases hcj : c = j
        · rw [if_pos hcj, if_pos (by omega), hcj]
        · rw [if_neg hcj, hrr c hc]
          have : c < j ↔ c < j + 1 := by omega
          simp only [this]
    · obtain rfl : n = j := by omega
      repeat' first
        | (with_reducible first | refine AWp_seq_k (fun K hK => ?_) | refine AWp_exit ?_ | refine AWp_regionE ?_ | refine AWp_condI ?_)
        | (with_reducible refine AIte (fun hc => ?_) (fun hc => ?_) <;> (try simp only [RC] at hc) <;> (try (exfalso; first | omega | contradiction)))
        | (simp only [thenA, inBlockA, reduceIte, Nat.reduceEqDiff])
        | ((with_reducible refine hK _ _ ?_); clear hK)
        | (simp only [ACond, RA, EAtS_def, EAtX_def, wantedA, acall, astep, ev, ofValue, ofAtom, Nat.reduceEqDiff, Nat.reduceAdd, Nat.reduceMul, Nat.reduceSub, reduceCtorEq, reduceIte, aoptEv, abin, aint, ashift, aun, astr, aeqGuard, isConstOp, aconvH, aofStr, aconvSame, isU8, abuildSlice, afill, splice, azeros, Nat.reduceLeDiff, Nat.reduceLT, Int.reduceLE, Int.reduceLT, Int.reduceEq, Int.reduceToNat, Int.reducePow, IntKind.bits, Int.reduceNeg, RB, aalloc, Go.PW.dig_length, tf36BdA, k0, k1, k5, k7, k8, k14, k15, k25, k26])
      refine hK4 _ _ ?_
      have hrt := hrr t hlt
      rw [if_pos hlt] at hrt
      have b3 := M2.idx (hl2 _) (k := .i64) (j := (t : Int)) (by omega) (by rw [hr2]; omega)
      have b4 := M2.get (i := t) (j := t) (hl2 _) (by rw [hr2]; omega)
      have d1 := M2.put (x := a t t - b t t + more) (hl2 _) (j := t) (by rw [hr2]; omega)
      rw [hv2] at b3 d1 b4
      rw [hr2] at d1 b4
      rw [Int.toNat_natCast] at b3
      rw [hdd] at b3 d1 b4
      rw [hrt] at b4
      have M3 := M2.set (hl2 _) (rs := rr.set t (a t t - b t t + more)) (by rw [hr2, List.length_set])
      rw [hv2, hdd] at M3
      have hs3 : (rss ++ [rr]).set t (rr.set t (a t t - b t t + more)) = rss ++ [rr.set t (a t t - b t t + more)] := by rw [← hrl]; simp
      rw [hs3] at M3
      have hadd := fun H0 => add_calls (a t t - b t t) more H0 (hDin t t hlt hlt) hInm (hSin t t hlt hlt)
      repeat' first
        | (with_reducible first | refine AWp_drawE (id := 11) [] pn36_11BdA (by kernel_rfl) (by kernel_rfl) ?_ | refine Run_pur ?_)
        | (with_reducible refine EPure_intro (fun _ x => (hadd _)) ?_)
        | (simp only [thenA, inBlockA, reduceIte, Nat.reduceEqDiff])
        | (simp only [ACond, RA, EAtS_def, EAtX_def, wantedA, acall, astep, ev, ofValue, ofAtom, Nat.reduceEqDiff, Nat.reduceAdd, Nat.reduceMul, Nat.reduceSub, reduceCtorEq, reduceIte, aoptEv, abin, aint, ashift, aun, astr, aeqGuard, isConstOp, aconvH, aofStr, aconvSame, isU8, abuildSlice, afill, splice, azeros, Nat.reduceLeDiff, Nat.reduceLT, Int.reduceLE, Int.reduceLT, Int.reduceEq, Int.reduceToNat, Int.reducePow, IntKind.bits, Int.reduceNeg, RB, aalloc, Go.PW.dig_length, tf36BdA, k0, k1, k5, k7, k8, k14, k15, k25, k26, b1, b3, b4, d1, g2])
        | (simp (disch := first | omega | (simp only [RO]; done) | assumption) only [RS, six48, gix48, six58, gix58, idx35, slh35, idx36, slh36])
        | (simp (disch := (first | omega | (simp only [RO]; done) | assumption | (simp only [RM, Go.PW.dig_length]; done) | (simp only [RL, Go.PW.dig_length]; omega))) only [RD, reduceCtorEq, reduceIte, Go.PW.dig_length, Nat.reduceLeDiff, Nat.reduceAdd, Nat.reduceMul, Int.reduceToNat, tf36BdA, k0, k1, k5, k7, k8, k14, k15, k25, k26, b1, b3, b4, d1, g2])
      all_goals
        refine hK3 _ _ ?_
        repeat' first
          | (with_reducible first | refine AWp_regionE ?_)
          | (simp only [thenA, inBlockA, reduceIte, Nat.reduceEqDiff])
          | (simp only [ACond, RA, EAtS_def, EAtX_def, wantedA, acall, astep, ev, ofValue, ofAtom, Nat.reduceEqDiff, Nat.reduceAdd, Nat.reduceMul, Nat.reduceSub, reduceCtorEq, reduceIte, aoptEv, abin, aint, ashift, aun, astr, aeqGuard, isConstOp, aconvH, aofStr, aconvSame, isU8, abuildSlice, afill, splice, azeros, Nat.reduceLeDiff, Nat.reduceLT, Int.reduceLE, Int.reduceLT, Int.reduceEq, Int.reduceToNat, Int.reducePow, IntKind.bits, Int.reduceNeg, RB, aalloc, Go.PW.dig_length, tf36BdA, k0, k1, k5, k7, k8, k14, k15, k25, k26, e1])
        refine ⟨_, by omega, t + 1, _, _, rfl, by omega, rfl, M3, by rw [List.length_set]; exact hvl, by rw [List.length_append, hrl]; rfl, fun i hi => ?_, fun i hi => ?_, x2.set (by omega) _, by rw [hget_set lh2, if_neg (by omega)]; exact g2⟩
        · by_cases e : i = t
          · rw [e, hr2]
            apply ext_getD 0
            · rw [List.length_set, hrl2]; simp
            · intro c hc
              rw [List.length_map, List.length_range] at hc
              rw [getD_set _ _ (by omega)]
              have hd : ((List.range n).map fun j => dif a b more t j).getD c 0 = dif a b more t c := by simp [List.getD, hc]
              rw [hd]
              unfold dif
              by_cases ec : c = t
              · rw [if_pos ec, if_pos ec.symm, ec]
              · rw [if_neg ec, if_neg (fun h => ec h.symm), hrr c hc, if_pos hc, Int.add_zero]
          · rw [← hrow i (by omega), List.getD_eq_getElem?_getD, List.getElem?_append_left (by omega), ← List.getD_eq_getElem?_getD]
        · rw [set_getD _ _ _ _ _ (by omega)]
          by_cases e : i = t
          · rw [if_pos e]; show H.length ≤ hh; omega
          · rw [if_neg e]; exact hfr i (by omega)
  · obtain rfl : t = n := by omega
    repeat' first
      | (with_reducible first | refine AWp_seq_k (fun K hK => ?_) | refine AWp_exit ?_ | refine AWp_ret ?_ | refine AWp_regionE ?_ | refine AWp_condI ?_)
      | (with_reducible refine AIte (fun hc => ?_) (fun hc => ?_) <;> (try simp only [RC] at hc) <;> (try (exfalso; first | omega | contradiction)))
      | (simp only [thenA, inBlockA, reduceIte, Nat.reduceEqDiff])
      | ((with_reducible refine hK _ _ ?_); clear hK)
      | (clear hK; (with_reducible refine hK _ _ ?_); clear hK)
      | (simp only [ACond, RA, EAtS_def, EAtX_def, wantedA, acall, astep, ev, ofValue, ofAtom, Nat.reduceEqDiff, Nat.reduceAdd, Nat.reduceMul, Nat.reduceSub, reduceCtorEq, reduceIte, aoptEv, abin, aint, ashift, aun, astr, aeqGuard, isConstOp, aconvH, aofStr, aconvSame, isU8, abuildSlice, afill, splice, azeros, Nat.reduceLeDiff, Nat.reduceLT, Int.reduceLE, Int.reduceLT, Int.reduceEq, Int.reduceToNat, Int.reducePow, IntKind.bits, Int.reduceNeg, RB, aalloc, Go.PW.dig_length, tf36BdA, k0, k1, k5, k7, k14, k15])
    (
     (refine AEnd_gen (rs := [.tmp 6]) rfl ?_)
     (simp only [AEndR, aresults, Fr.put_some, Fr.put_none, fr0_zero, fr0_succ, fr0_nil, Nat.reduceEqDiff, reduceIte, k7])
     (try simp (disch := (first | omega | (simp only [RO]; done) | assumption | (simp only [RM, Go.PW.dig_length]; done) | (simp only [RL, Go.PW.dig_length]; omega))) only [RD, reduceCtorEq, reduceIte, Go.PW.dig_length, Nat.reduceLeDiff, Nat.reduceAdd, Nat.reduceMul, Int.reduceToNat, tf36BdA, k7]))
    refine ⟨p, vs, rfl, ?_, x1, by omega, hfr⟩
    have : rss = rowsF t (dif a b more) := by
      apply ext_getD []
      · rw [rowsF_length, hrl]
      · intro i hi
        rw [rowsF_length] at hi
        rw [rowsF_get _ _ _ hi, hrow i hi]
    rw [← this]; exact M
end Go.Proofs.YtfalfmfkifemeaaDoor
set_option linter.unusedVariables false
set_option linter.unusedSimpArgs false
namespace Go.Proofs.YtfalfmfkifemeaaDoor
open Go.AL Go.PW Go.PD
theorem tf14BdB : type_of% (And.intro @tyb2 (And.intro @tyb3 (And.intro @tyb4 (And.intro @tyb22 (And.intro @tyb24 (And.intro @tyb25 (And.intro @tyb34 (And.intro @tyb35 (And.intro @tyb36 (And.intro @tyb48 (@tyb58))))))))))) := And.intro @tyb2 (And.intro @tyb3 (And.intro @tyb4 (And.intro @tyb22 (And.intro @tyb24 (And.intro @tyb25 (And.intro @tyb34 (And.intro @tyb35 (And.intro @tyb36 (And.intro @tyb48 (@tyb58))))))))))
theorem tf15BdB : type_of% (And.intro @tyb2 (And.intro @tyb3 (And.intro @tyb4 (And.intro @tyb22 (And.intro @tyb24 (And.intro @tyb25 (And.intro @tyb34 (And.intro @tyb35 (And.intro @tyb36 (And.intro @tyb48 (@tyb58))))))))))) := And.intro @tyb2 (And.intro @tyb3 (And.intro @tyb4 (And.intro @tyb22 (And.intro @tyb24 (And.intro @tyb25 (And.intro @tyb34 (And.intro @tyb35 (And.intro @tyb36 (And.intro @tyb48 (@tyb58))))))))))
abbrev pn14_3BdB : Plan := (.one 0 (.one 2 (.one 3 (.one 6 (.ext 1 (.one 4 (.one 5 (.one 7 (.one 8 (.one 9 (.one 10 (.one 11 .nil))))))))))))
abbrev pn15_3BdB : Plan := (.one 0 (.one 1 (.one 4 (.one 6 (.ext 2 (.ext 3 (.one 5 (.one 7 (.one 8 (.one 9 (.one 10 .nil)))))))))))
set_option maxRecDepth 8000
/-- Nought everywhere. -/
def nul : Nat → Nat → Int := fun _ _ => 0
theorem ent_nul (n l : Nat) : ent n (List.replicate l 0) = nul := funext fun i => funext fun j => ent_noughts n i j l
theorem ent_30 {n : Nat} {xs : List Int} (hr : Right n xs) (i j : Nat) : (ent n xs i j).natAbs ≤ 1073741824 := by
  unfold ent
  rcases Nat.lt_or_ge (pl n i j) xs.length with h | h
  · have := hr.2 _ (getD_mem h)
    unfold Fit at this
    omega
  · rw [List.getD_eq_getElem?_getD, List.getElem?_eq_none h]; decide
theorem dif_64 {a b : Nat → Nat → Int} {m : Int} (ha : ∀ i j, (a i j).natAbs ≤ 1073741824) (hb : ∀ i j, (b i j).natAbs ≤ 1073741824) (hm : m.natAbs ≤ 9223372036854775808) (i j : Nat) : (dif a b m i j).natAbs ≤ 18446744073709551616 := by
  have h1 := ha i j
  have h2 := hb i j
  unfold dif
  split <;> omega
theorem nul_30 (i j : Nat) : (nul i j).natAbs ≤ 1073741824 := by unfold nul; decide
/-- Is a matrix above, below so much; and not above another one? -/
def leastB (n : Nat) (xs : List Int) (k : Int) : Bool := posB (dif (ent n xs) nul (-k)) n
def mostB (n : Nat) (xs : List Int) (k : Int) : Bool := posB (dif nul (ent n xs) k) n
def belowB (n : Nat) (xs ys : List Int) : Bool := posB (dif (ent n ys) (ent n xs) 1) n
set_option maxHeartbeats 4000000 in
theorem Least_calls (n : Nat) (xs : List Int) (a : AV) (k : Int) (H : Hp) (ha : Ints H .i64 a xs) (hr : Right n xs) (hk : -9223372036854775808 ≤ k ∧ k ≤ 9223372036854775807) : ACalls Tryd.prog 14 [SymA n a, .int .i64 k] H fun r H' => r = .bool (leastB n xs k) ∧ H = H' := by
  refine ACalls.drop (R := fun r => r = .bool (leastB n xs k)) ?_
  have ha1 : a.one = true := ha.rd.one
  have hc : a.cells = [a] := AV.cells_one ha1
  obtain ⟨h8, hlx⟩ := hr.len
  have hd : decide (Right n xs) = true := decide_eq_true hr
  have e30 := ent_30 hr
  refine ACalls_body Tryd.func14 rfl (by kernel_rfl) (by kernel_rfl) ?_
  repeat' first
    | (with_reducible first | refine AWp_seq_k (fun K hK => ?_) | refine AWp_skip ?_ | refine AWp_regionE ?_ | refine AWp_drawE (id := 3) [1] pn14_3BdB (by kernel_rfl) (by kernel_rfl) ?_ | refine AWp_condI ?_ | refine Run_ext ?_)
    | ((with_reducible refine ECall_intro (right_calls _ _ _ _ (ha.push _) hlx) ?_); rintro _ _ ⟨rfl, rfl⟩)
    | (simp only [thenA, inBlockA, reduceIte, Nat.reduceEqDiff])
    | ((with_reducible refine hK _ _ ?_); clear hK)
    | (simp only [ACond, RA, EAtS_def, EAtX_def, wantedA, acall, astep, ev, ofValue, ofAtom, Nat.reduceEqDiff, Nat.reduceAdd, Nat.reduceMul, Nat.reduceSub, reduceCtorEq, reduceIte, aoptEv, abin, aint, ashift, aun, astr, aeqGuard, isConstOp, aconvH, aofStr, aconvSame, isU8, abuildSlice, afill, splice, azeros, Nat.reduceLeDiff, Nat.reduceLT, Int.reduceLE, Int.reduceLT, Int.reduceEq, Int.reduceToNat, Int.reducePow, IntKind.bits, Int.reduceNeg, RB, aalloc, Go.PW.dig_length, tf14BdB, hd])
    | (simp (disch := first | omega | (simp only [RO]; done) | assumption) only [RS, six22, gix22, six48, gix48, six58, gix58, idx35, slh35, idx36, slh36, bst25_e, bst25_0, bst25_01])
    | (simp (disch := (first | omega | (simp only [RO]; done) | assumption | (simp only [RM, Go.PW.dig_length]; done) | (simp only [RL, Go.PW.dig_length]; omega))) only [RD, reduceCtorEq, reduceIte, Go.PW.dig_length, Nat.reduceLeDiff, Nat.reduceAdd, Nat.reduceMul, Int.reduceToNat, tf14BdB, hd])
  all_goals
    refine EExt_intro (Rows_calls n xs a _ (ha.push _) hr) ?_
    rintro _ H1 ⟨p1, vs1, rfl, M1, x1, _⟩
    refine ⟨x1, ?_⟩
    repeat' first
      | (simp only [ACond, RA, EAtS_def, EAtX_def, wantedA, acall, astep, ev, ofValue, ofAtom, Nat.reduceEqDiff, Nat.reduceAdd, Nat.reduceMul, Nat.reduceSub, reduceCtorEq, reduceIte, aoptEv, abin, aint, ashift, aun, astr, aeqGuard, isConstOp, aconvH, aofStr, aconvSame, isU8, abuildSlice, afill, splice, azeros, Nat.reduceLeDiff, Nat.reduceLT, Int.reduceLE, Int.reduceLT, Int.reduceEq, Int.reduceToNat, Int.reducePow, IntKind.bits, Int.reduceNeg, RB, aalloc, Go.PW.dig_length, tf14BdB])
    refine ECall_intro (New_calls n _ h8) ?_
    rintro _ H2 ⟨z, rfl, Z, x2⟩
    have hz1 : z.one = true := Z.ints.rd.one
    have hcz : z.cells = [z] := AV.cells_one hz1
    repeat' first
      | (simp only [ACond, RA, EAtS_def, EAtX_def, wantedA, acall, astep, ev, ofValue, ofAtom, Nat.reduceEqDiff, Nat.reduceAdd, Nat.reduceMul, Nat.reduceSub, reduceCtorEq, reduceIte, aoptEv, abin, aint, ashift, aun, astr, aeqGuard, isConstOp, aconvH, aofStr, aconvSame, isU8, abuildSlice, afill, splice, azeros, Nat.reduceLeDiff, Nat.reduceLT, Int.reduceLE, Int.reduceLT, Int.reduceEq, Int.reduceToNat, Int.reducePow, IntKind.bits, Int.reduceNeg, RB, aalloc, Go.PW.dig_length, tf14BdB])
    refine ECall_intro (Rows_calls n _ z _ Z.ints (right_noughts h8)) ?_
    rintro _ H3 ⟨p3, vs3, rfl, M3, x3, _⟩
    rw [rowsOf_F, ent_nul] at M3
    rw [rowsOf_F] at M1
    repeat' first
      | ((with_reducible refine ECall_intro (of_calls _ _ hk) ?_); rintro _ _ ⟨rfl, rfl⟩)
      | ((with_reducible refine ECall_intro (neg_calls _ _) ?_); rintro _ _ ⟨rfl, rfl⟩)
      | (simp only [ACond, RA, EAtS_def, EAtX_def, wantedA, acall, astep, ev, ofValue, ofAtom, Nat.reduceEqDiff, Nat.reduceAdd, Nat.reduceMul, Nat.reduceSub, reduceCtorEq, reduceIte, aoptEv, abin, aint, ashift, aun, astr, aeqGuard, isConstOp, aconvH, aofStr, aconvSame, isU8, abuildSlice, afill, splice, azeros, Nat.reduceLeDiff, Nat.reduceLT, Int.reduceLE, Int.reduceLT, Int.reduceEq, Int.reduceToNat, Int.reducePow, IntKind.bits, Int.reduceNeg, RB, aalloc, Go.PW.dig_length, tf14BdB])
    refine ECall_intro (less_calls n p1 p3 vs1 vs3 (ent n xs) nul (-k) _ ((M1.ext x2).ext x3) M3 h8 (fun i j _ _ => e30 i j) (fun i j _ _ => nul_30 i j) (by omega)) ?_
    rintro _ H4 ⟨p, vs, rfl, M, x4, hF⟩
    repeat' first
      | (simp only [ACond, RA, EAtS_def, EAtX_def, wantedA, acall, astep, ev, ofValue, ofAtom, Nat.reduceEqDiff, Nat.reduceAdd, Nat.reduceMul, Nat.reduceSub, reduceCtorEq, reduceIte, aoptEv, abin, aint, ashift, aun, astr, aeqGuard, isConstOp, aconvH, aofStr, aconvSame, isU8, abuildSlice, afill, splice, azeros, Nat.reduceLeDiff, Nat.reduceLT, Int.reduceLE, Int.reduceLT, Int.reduceEq, Int.reduceToNat, Int.reducePow, IntKind.bits, Int.reduceNeg, RB, aalloc, Go.PW.dig_length, tf14BdB])
    refine ECall_intro (Positive_calls n p _ vs _ H4 M (St.zeroF n _) h8 (dif_64 e30 nul_30 (by omega))) ?_
    rintro _ H5 ⟨rfl, O⟩
    repeat' first
      | (with_reducible first | refine AWp_ret ?_)
      | (simp only [thenA, inBlockA, reduceIte, Nat.reduceEqDiff])
      | ((with_reducible refine hK _ _ ?_); clear hK)
      | (simp only [ACond, RA, EAtS_def, EAtX_def, wantedA, acall, astep, ev, ofValue, ofAtom, Nat.reduceEqDiff, Nat.reduceAdd, Nat.reduceMul, Nat.reduceSub, reduceCtorEq, reduceIte, aoptEv, abin, aint, ashift, aun, astr, aeqGuard, isConstOp, aconvH, aofStr, aconvSame, isU8, abuildSlice, afill, splice, azeros, Nat.reduceLeDiff, Nat.reduceLT, Int.reduceLE, Int.reduceLT, Int.reduceEq, Int.reduceToNat, Int.reducePow, IntKind.bits, Int.reduceNeg, RB, aalloc, Go.PW.dig_length, tf14BdB])
    (
     (refine AEnd_gen (rs := [.tmp 4]) rfl ?_)
     (simp only [AEndR, aresults, Fr.put_some, Fr.put_none, fr0_zero, fr0_succ, fr0_nil, Nat.reduceEqDiff, reduceIte])
     (try simp (disch := (first | omega | (simp only [RO]; done) | assumption | (simp only [RM, Go.PW.dig_length]; done) | (simp only [RL, Go.PW.dig_length]; omega))) only [RD, reduceCtorEq, reduceIte, Go.PW.dig_length, Nat.reduceLeDiff, Nat.reduceAdd, Nat.reduceMul, Int.reduceToNat, tf14BdB]))
    have x5 := Off.toExt x4 O (fun h ⟨i, hi, e⟩ => by rw [e]; exact hF.2 i hi)
    exact ⟨((((Ext.push _ _).trans x1).trans x2).trans x3).trans x5, trivial, rfl⟩
set_option maxHeartbeats 4000000 in
theorem Most_calls (n : Nat) (xs : List Int) (a : AV) (k : Int) (H : Hp) (ha : Ints H .i64 a xs) (hr : Right n xs) (hk : -9223372036854775808 ≤ k ∧ k ≤ 9223372036854775807) : ACalls Tryd.prog 15 [SymA n a, .int .i64 k] H fun r H' => r = .bool (mostB n xs k) ∧ H = H' := by
  refine ACalls.drop (R := fun r => r = .bool (mostB n xs k)) ?_
  have ha1 : a.one = true := ha.rd.one
  have hc : a.cells = [a] := AV.cells_one ha1
  obtain ⟨h8, hlx⟩ := hr.len
  have hd : decide (Right n xs) = true := decide_eq_true hr
  have e30 := ent_30 hr
  refine ACalls_body Tryd.func15 rfl (by kernel_rfl) (by kernel_rfl) ?_
  repeat' first
    | (with_reducible first | refine AWp_seq_k (fun K hK => ?_) | refine AWp_skip ?_ | refine AWp_regionE ?_ | refine AWp_drawE (id := 3) [2, 3] pn15_3BdB (by kernel_rfl) (by kernel_rfl) ?_ | refine AWp_condI ?_ | refine Run_ext ?_)
    | ((with_reducible refine ECall_intro (right_calls _ _ _ _ (ha.push _) hlx) ?_); rintro _ _ ⟨rfl, rfl⟩)
    | (simp only [thenA, inBlockA, reduceIte, Nat.reduceEqDiff])
    | ((with_reducible refine hK _ _ ?_); clear hK)
    | (simp only [ACond, RA, EAtS_def, EAtX_def, wantedA, acall, astep, ev, ofValue, ofAtom, Nat.reduceEqDiff, Nat.reduceAdd, Nat.reduceMul, Nat.reduceSub, reduceCtorEq, reduceIte, aoptEv, abin, aint, ashift, aun, astr, aeqGuard, isConstOp, aconvH, aofStr, aconvSame, isU8, abuildSlice, afill, splice, azeros, Nat.reduceLeDiff, Nat.reduceLT, Int.reduceLE, Int.reduceLT, Int.reduceEq, Int.reduceToNat, Int.reducePow, IntKind.bits, Int.reduceNeg, RB, aalloc, Go.PW.dig_length, tf15BdB, hd])
    | (simp (disch := first | omega | (simp only [RO]; done) | assumption) only [RS, six22, gix22, six48, gix48, six58, gix58, idx35, slh35, idx36, slh36, bst25_e, bst25_0, bst25_01])
    | (simp (disch := (first | omega | (simp only [RO]; done) | assumption | (simp only [RM, Go.PW.dig_length]; done) | (simp only [RL, Go.PW.dig_length]; omega))) only [RD, reduceCtorEq, reduceIte, Go.PW.dig_length, Nat.reduceLeDiff, Nat.reduceAdd, Nat.reduceMul, Int.reduceToNat, tf15BdB, hd])
  all_goals
    refine EExt_intro (New_calls n _ h8) ?_
    rintro _ H2 ⟨z, rfl, Z, x2⟩
    refine ⟨x2, ?_⟩
    have hz1 : z.one = true := Z.ints.rd.one
    have hcz : z.cells = [z] := AV.cells_one hz1
    repeat' first
      | (with_reducible first | refine Run_ext ?_)
      | (simp only [ACond, RA, EAtS_def, EAtX_def, wantedA, acall, astep, ev, ofValue, ofAtom, Nat.reduceEqDiff, Nat.reduceAdd, Nat.reduceMul, Nat.reduceSub, reduceCtorEq, reduceIte, aoptEv, abin, aint, ashift, aun, astr, aeqGuard, isConstOp, aconvH, aofStr, aconvSame, isU8, abuildSlice, afill, splice, azeros, Nat.reduceLeDiff, Nat.reduceLT, Int.reduceLE, Int.reduceLT, Int.reduceEq, Int.reduceToNat, Int.reducePow, IntKind.bits, Int.reduceNeg, RB, aalloc, Go.PW.dig_length, tf15BdB])
    refine EExt_intro (Rows_calls n _ z _ Z.ints (right_noughts h8)) ?_
    rintro _ H3 ⟨p3, vs3, rfl, M3, x3, _⟩
    refine ⟨x3, ?_⟩
    repeat' first
      | (simp only [ACond, RA, EAtS_def, EAtX_def, wantedA, acall, astep, ev, ofValue, ofAtom, Nat.reduceEqDiff, Nat.reduceAdd, Nat.reduceMul, Nat.reduceSub, reduceCtorEq, reduceIte, aoptEv, abin, aint, ashift, aun, astr, aeqGuard, isConstOp, aconvH, aofStr, aconvSame, isU8, abuildSlice, afill, splice, azeros, Nat.reduceLeDiff, Nat.reduceLT, Int.reduceLE, Int.reduceLT, Int.reduceEq, Int.reduceToNat, Int.reducePow, IntKind.bits, Int.reduceNeg, RB, aalloc, Go.PW.dig_length, tf15BdB])
    refine ECall_intro (Rows_calls n xs a _ (((ha.push _).ext x2).ext x3) hr) ?_
    rintro _ H1 ⟨p1, vs1, rfl, M1, x1, _⟩
    rw [rowsOf_F, ent_nul] at M3
    rw [rowsOf_F] at M1
    repeat' first
      | ((with_reducible refine ECall_intro (of_calls _ _ hk) ?_); rintro _ _ ⟨rfl, rfl⟩)
      | (simp only [ACond, RA, EAtS_def, EAtX_def, wantedA, acall, astep, ev, ofValue, ofAtom, Nat.reduceEqDiff, Nat.reduceAdd, Nat.reduceMul, Nat.reduceSub, reduceCtorEq, reduceIte, aoptEv, abin, aint, ashift, aun, astr, aeqGuard, isConstOp, aconvH, aofStr, aconvSame, isU8, abuildSlice, afill, splice, azeros, Nat.reduceLeDiff, Nat.reduceLT, Int.reduceLE, Int.reduceLT, Int.reduceEq, Int.reduceToNat, Int.reducePow, IntKind.bits, Int.reduceNeg, RB, aalloc, Go.PW.dig_length, tf15BdB])
    refine ECall_intro (less_calls n p3 p1 vs3 vs1 nul (ent n xs) k _ (M3.ext x1) M1 h8 (fun i j _ _ => nul_30 i j) (fun i j _ _ => e30 i j) (by omega)) ?_
    rintro _ H4 ⟨p, vs, rfl, M, x4, hF⟩
    repeat' first
      | (simp only [ACond, RA, EAtS_def, EAtX_def, wantedA, acall, astep, ev, ofValue, ofAtom, Nat.reduceEqDiff, Nat.reduceAdd, Nat.reduceMul, Nat.reduceSub, reduceCtorEq, reduceIte, aoptEv, abin, aint, ashift, aun, astr, aeqGuard, isConstOp, aconvH, aofStr, aconvSame, isU8, abuildSlice, afill, splice, azeros, Nat.reduceLeDiff, Nat.reduceLT, Int.reduceLE, Int.reduceLT, Int.reduceEq, Int.reduceToNat, Int.reducePow, IntKind.bits, Int.reduceNeg, RB, aalloc, Go.PW.dig_length, tf15BdB])
    refine ECall_intro (Positive_calls n p _ vs _ H4 M (St.zeroF n _) h8 (dif_64 nul_30 e30 (by omega))) ?_
    rintro _ H5 ⟨rfl, O⟩
    repeat' first
      | (with_reducible first | refine AWp_ret ?_)
      | (simp only [thenA, inBlockA, reduceIte, Nat.reduceEqDiff])
      | ((with_reducible refine hK _ _ ?_); clear hK)
      | (simp only [ACond, RA, EAtS_def, EAtX_def, wantedA, acall, astep, ev, ofValue, ofAtom, Nat.reduceEqDiff, Nat.reduceAdd, Nat.reduceMul, Nat.reduceSub, reduceCtorEq, reduceIte, aoptEv, abin, aint, ashift, aun, astr, aeqGuard, isConstOp, aconvH, aofStr, aconvSame, isU8, abuildSlice, afill, splice, azeros, Nat.reduceLeDiff, Nat.reduceLT, Int.reduceLE, Int.reduceLT, Int.reduceEq, Int.reduceToNat, Int.reducePow, IntKind.bits, Int.reduceNeg, RB, aalloc, Go.PW.dig_length, tf15BdB])
    (
     (refine AEnd_gen (rs := [.tmp 4]) rfl ?_)
     (simp only [AEndR, aresults, Fr.put_some, Fr.put_none, fr0_zero, fr0_succ, fr0_nil, Nat.reduceEqDiff, reduceIte])
     (try simp (disch := (first | omega | (simp only [RO]; done) | assumption | (simp only [RM, Go.PW.dig_length]; done) | (simp only [RL, Go.PW.dig_length]; omega))) only [RD, reduceCtorEq, reduceIte, Go.PW.dig_length, Nat.reduceLeDiff, Nat.reduceAdd, Nat.reduceMul, Int.reduceToNat, tf15BdB]))
    have x5 := Off.toExt x4 O (fun h ⟨i, hi, e⟩ => by rw [e]; exact hF.2 i hi)
    exact ⟨((((Ext.push _ _).trans x2).trans x3).trans x1).trans x5, trivial, rfl⟩
end Go.Proofs.YtfalfmfkifemeaaDoor
set_option linter.unusedVariables false
set_option linter.unusedSimpArgs false
namespace Go.Proofs.YtfalfmfkifemeaaDoor
open Go.AL Go.PW Go.PD
theorem tf17BdC : type_of% (And.intro @tyb2 (And.intro @tyb3 (And.intro @tyb4 (And.intro @tyb9 (And.intro @tyb22 (And.intro @tyb24 (And.intro @tyb25 (And.intro @tyb37 (And.intro @tyb38 (@tyb57)))))))))) := And.intro @tyb2 (And.intro @tyb3 (And.intro @tyb4 (And.intro @tyb9 (And.intro @tyb22 (And.intro @tyb24 (And.intro @tyb25 (And.intro @tyb37 (And.intro @tyb38 (@tyb57)))))))))
theorem tf35BdC : type_of% (And.intro @tyb2 (And.intro @tyb3 (And.intro @tyb4 (And.intro @tyb22 (And.intro @tyb24 (And.intro @tyb25 (And.intro @tyb34 (And.intro @tyb35 (And.intro @tyb36 (And.intro @tyb48 (@tyb58))))))))))) := And.intro @tyb2 (And.intro @tyb3 (And.intro @tyb4 (And.intro @tyb22 (And.intro @tyb24 (And.intro @tyb25 (And.intro @tyb34 (And.intro @tyb35 (And.intro @tyb36 (And.intro @tyb48 (@tyb58))))))))))
abbrev pn35_3BdC : Plan := (.one 0 (.one 2 (.ext 1 (.one 3 (.one 4 (.one 5 (.one 6 (.one 7 .nil))))))))
set_option maxRecDepth 8000
abbrev boundS : ByteArray := ⟨#[98, 111, 117, 110, 100]⟩
/-- What Between tells. -/
def BetwR (n : Nat) (xs : List Int) (k l : Int) (v : AV) (H : Hp) : Prop :=
  if leastB n xs k = false then Err H v boundS 30 else if mostB n xs l = false then Err H v boundS 31 else v = .nilI
set_option maxHeartbeats 4000000 in
theorem Between_calls (n : Nat) (xs : List Int) (a : AV) (k l : Int) (H : Hp) (ha : Ints H .i64 a xs) (hr : Right n xs) (hk : -9223372036854775808 ≤ k ∧ k ≤ 9223372036854775807) (hl : -9223372036854775808 ≤ l ∧ l ≤ 9223372036854775807) : ACalls Tryd.prog 17 [SymA n a, .int .i64 k, .int .i64 l] H fun r H' => BetwR n xs k l r H' ∧ Ext H H' := by
  have ha1 : a.one = true := ha.rd.one
  have hc : a.cells = [a] := AV.cells_one ha1
  obtain ⟨h8, hlx⟩ := hr.len
  have hd : decide (Right n xs) = true := decide_eq_true hr
  have hw := fun n H0 => wrap_calls boundS n H0
  have hL := fun H0 (x0 : Ext H H0) => Least_calls n xs a k H0 (ha.ext x0) hr hk
  have hM := fun H0 (x0 : Ext H H0) => Most_calls n xs a l H0 (ha.ext x0) hr hl
  cases hb : leastB n xs k <;> rw [hb] at hL
  · skip
    refine ACalls_body Tryd.func17 rfl (by kernel_rfl) (by kernel_rfl) ?_
    repeat' first
      | (with_reducible first | refine AWp_seq_k (fun K hK => ?_) | refine AWp_block ?_ | refine AWp_ret ?_ | refine AWp_regionE ?_ | refine AWp_condI ?_)
      | ((with_reducible refine ECall_intro (right_calls _ _ _ _ (ha.push _) hlx) ?_); rintro _ _ ⟨rfl, rfl⟩)
      | ((with_reducible refine ECall_intro (hL _ (Ext.push _ _)) ?_); rintro _ _ ⟨rfl, rfl⟩)
      | ((with_reducible refine ECall_intro (hw _ _) ?_); rintro _ _ ⟨rfl, rfl⟩)
      | (simp only [thenA, inBlockA, reduceIte, Nat.reduceEqDiff])
      | ((with_reducible refine hK _ _ ?_); clear hK)
      | (simp only [ACond, RA, EAtS_def, EAtX_def, wantedA, acall, astep, ev, ofValue, ofAtom, Nat.reduceEqDiff, Nat.reduceAdd, Nat.reduceMul, Nat.reduceSub, reduceCtorEq, reduceIte, aoptEv, abin, aint, ashift, aun, astr, aeqGuard, isConstOp, aconvH, aofStr, aconvSame, isU8, abuildSlice, afill, splice, azeros, Nat.reduceLeDiff, Nat.reduceLT, Int.reduceLE, Int.reduceLT, Int.reduceEq, Int.reduceToNat, Int.reducePow, IntKind.bits, Int.reduceNeg, RB, aalloc, Go.PW.dig_length, tf17BdC, hd])
      | (simp (disch := first | omega | (simp only [RO]; done) | assumption) only [RS, six22, gix22, bst25_e, bst25_0, bst25_01])
      | (simp (disch := (first | omega | (simp only [RO]; done) | assumption | (simp only [RM, Go.PW.dig_length]; done) | (simp only [RL, Go.PW.dig_length]; omega))) only [RD, reduceCtorEq, reduceIte, Go.PW.dig_length, Nat.reduceLeDiff, Nat.reduceAdd, Nat.reduceMul, Int.reduceToNat, tf17BdC, hd])
    all_goals
      (
       (refine AEnd_gen (rs := [.tmp 6]) rfl ?_)
       (simp only [AEndR, aresults, Fr.put_some, Fr.put_none, fr0_zero, fr0_succ, fr0_nil, Nat.reduceEqDiff, reduceIte])
       (try simp (disch := (first | omega | (simp only [RO]; done) | assumption | (simp only [RM, Go.PW.dig_length]; done) | (simp only [RL, Go.PW.dig_length]; omega))) only [RD, reduceCtorEq, reduceIte, Go.PW.dig_length, Nat.reduceLeDiff, Nat.reduceAdd, Nat.reduceMul, Int.reduceToNat, tf17BdC]))
    all_goals exact ⟨by unfold BetwR; rw [if_pos hb]; exact ⟨_, rfl, hget_at (by simp)⟩, (Ext.push _ _).pushed _⟩
  · cases hb2 : mostB n xs l <;> rw [hb2] at hM
    · skip
      refine ACalls_body Tryd.func17 rfl (by kernel_rfl) (by kernel_rfl) ?_
      repeat' first
        | (with_reducible first | refine AWp_seq_k (fun K hK => ?_) | refine AWp_block ?_ | refine AWp_ret ?_ | refine AWp_regionE ?_ | refine AWp_condI ?_)
        | ((with_reducible refine ECall_intro (right_calls _ _ _ _ (ha.push _) hlx) ?_); rintro _ _ ⟨rfl, rfl⟩)
        | ((with_reducible refine ECall_intro (hL _ (Ext.push _ _)) ?_); rintro _ _ ⟨rfl, rfl⟩)
        | ((with_reducible refine ECall_intro (hM _ (Ext.push _ _)) ?_); rintro _ _ ⟨rfl, rfl⟩)
        | ((with_reducible refine ECall_intro (hw _ _) ?_); rintro _ _ ⟨rfl, rfl⟩)
        | (simp only [thenA, inBlockA, reduceIte, Nat.reduceEqDiff])
        | ((with_reducible refine hK _ _ ?_); clear hK)
        | (simp only [ACond, RA, EAtS_def, EAtX_def, wantedA, acall, astep, ev, ofValue, ofAtom, Nat.reduceEqDiff, Nat.reduceAdd, Nat.reduceMul, Nat.reduceSub, reduceCtorEq, reduceIte, aoptEv, abin, aint, ashift, aun, astr, aeqGuard, isConstOp, aconvH, aofStr, aconvSame, isU8, abuildSlice, afill, splice, azeros, Nat.reduceLeDiff, Nat.reduceLT, Int.reduceLE, Int.reduceLT, Int.reduceEq, Int.reduceToNat, Int.reducePow, IntKind.bits, Int.reduceNeg, RB, aalloc, Go.PW.dig_length, tf17BdC, hd])
        | (simp (disch := first | omega | (simp only [RO]; done) | assumption) only [RS, six22, gix22, bst25_e, bst25_0, bst25_01])
        | (simp (disch := (first | omega | (simp only [RO]; done) | assumption | (simp only [RM, Go.PW.dig_length]; done) | (simp only [RL, Go.PW.dig_length]; omega))) only [RD, reduceCtorEq, reduceIte, Go.PW.dig_length, Nat.reduceLeDiff, Nat.reduceAdd, Nat.reduceMul, Int.reduceToNat, tf17BdC, hd])
      all_goals
        (
         (refine AEnd_gen (rs := [.tmp 6]) rfl ?_)
         (simp only [AEndR, aresults, Fr.put_some, Fr.put_none, fr0_zero, fr0_succ, fr0_nil, Nat.reduceEqDiff, reduceIte])
         (try simp (disch := (first | omega | (simp only [RO]; done) | assumption | (simp only [RM, Go.PW.dig_length]; done) | (simp only [RL, Go.PW.dig_length]; omega))) only [RD, reduceCtorEq, reduceIte, Go.PW.dig_length, Nat.reduceLeDiff, Nat.reduceAdd, Nat.reduceMul, Int.reduceToNat, tf17BdC]))
      all_goals exact ⟨by unfold BetwR; rw [if_neg (by rw [hb]; decide), if_pos hb2]; exact ⟨_, rfl, hget_at (by simp)⟩, (Ext.push _ _).pushed _⟩
    · skip
      refine ACalls_body Tryd.func17 rfl (by kernel_rfl) (by kernel_rfl) ?_
      repeat' first
        | (with_reducible first | refine AWp_seq_k (fun K hK => ?_) | refine AWp_block ?_ | refine AWp_skip ?_ | refine AWp_ret ?_ | refine AWp_regionE ?_ | refine AWp_condI ?_)
        | ((with_reducible refine ECall_intro (right_calls _ _ _ _ (ha.push _) hlx) ?_); rintro _ _ ⟨rfl, rfl⟩)
        | ((with_reducible refine ECall_intro (hL _ (Ext.push _ _)) ?_); rintro _ _ ⟨rfl, rfl⟩)
        | ((with_reducible refine ECall_intro (hM _ (Ext.push _ _)) ?_); rintro _ _ ⟨rfl, rfl⟩)
        | (simp only [thenA, inBlockA, reduceIte, Nat.reduceEqDiff])
        | ((with_reducible refine hK _ _ ?_); clear hK)
        | (simp only [ACond, RA, EAtS_def, EAtX_def, wantedA, acall, astep, ev, ofValue, ofAtom, Nat.reduceEqDiff, Nat.reduceAdd, Nat.reduceMul, Nat.reduceSub, reduceCtorEq, reduceIte, aoptEv, abin, aint, ashift, aun, astr, aeqGuard, isConstOp, aconvH, aofStr, aconvSame, isU8, abuildSlice, afill, splice, azeros, Nat.reduceLeDiff, Nat.reduceLT, Int.reduceLE, Int.reduceLT, Int.reduceEq, Int.reduceToNat, Int.reducePow, IntKind.bits, Int.reduceNeg, RB, aalloc, Go.PW.dig_length, tf17BdC, hd])
        | (simp (disch := first | omega | (simp only [RO]; done) | assumption) only [RS, six22, gix22, bst25_e, bst25_0, bst25_01])
        | (simp (disch := (first | omega | (simp only [RO]; done) | assumption | (simp only [RM, Go.PW.dig_length]; done) | (simp only [RL, Go.PW.dig_length]; omega))) only [RD, reduceCtorEq, reduceIte, Go.PW.dig_length, Nat.reduceLeDiff, Nat.reduceAdd, Nat.reduceMul, Int.reduceToNat, tf17BdC, hd])
      all_goals
        (
         (refine AEnd_gen (rs := [.tmp 6]) rfl ?_)
         (simp only [AEndR, aresults, Fr.put_some, Fr.put_none, fr0_zero, fr0_succ, fr0_nil, Nat.reduceEqDiff, reduceIte])
         (try simp (disch := (first | omega | (simp only [RO]; done) | assumption | (simp only [RM, Go.PW.dig_length]; done) | (simp only [RL, Go.PW.dig_length]; omega))) only [RD, reduceCtorEq, reduceIte, Go.PW.dig_length, Nat.reduceLeDiff, Nat.reduceAdd, Nat.reduceMul, Int.reduceToNat, tf17BdC]))
      all_goals exact ⟨by unfold BetwR; rw [if_neg (by rw [hb]; decide), if_neg (by rw [hb2]; decide)], Ext.push _ _⟩
set_option maxHeartbeats 4000000 in
theorem Below_calls (n : Nat) (xs ys : List Int) (a b : AV) (H : Hp) (ha : Ints H .i64 a xs) (hb : Ints H .i64 b ys) (hr : Right n xs) (hs : Right n ys) : ACalls Tryd.prog 35 [SymA n a, SymA n b] H fun r H' => r = .bool (belowB n xs ys) ∧ H = H' := by
  refine ACalls.drop (R := fun r => r = .bool (belowB n xs ys)) ?_
  have ha1 : a.one = true := ha.rd.one
  have hc : a.cells = [a] := AV.cells_one ha1
  have hb1 : b.one = true := hb.rd.one
  have hcb : b.cells = [b] := AV.cells_one hb1
  obtain ⟨h8, hlx⟩ := hr.len
  have hly := hs.len.2
  have hd : decide (Right n xs) = true := decide_eq_true hr
  have hd2 : decide (Right n ys) = true := decide_eq_true hs
  have e30 := ent_30 hr
  have f30 := ent_30 hs
  refine ACalls_body Tryd.func35 rfl (by kernel_rfl) (by kernel_rfl) ?_
  repeat' first
    | (with_reducible first | refine AWp_seq_k (fun K hK => ?_) | refine AWp_skip ?_ | refine AWp_regionE ?_ | refine AWp_drawE (id := 3) [1] pn35_3BdC (by kernel_rfl) (by kernel_rfl) ?_ | refine AWp_condI ?_ | refine Run_ext ?_)
    | ((with_reducible refine ECall_intro (right_calls _ _ _ _ ((ha.push _).push _) hlx) ?_); rintro _ _ ⟨rfl, rfl⟩)
    | ((with_reducible refine ECall_intro (right_calls _ _ _ _ ((hb.push _).push _) hly) ?_); rintro _ _ ⟨rfl, rfl⟩)
    | (simp only [thenA, inBlockA, reduceIte, Nat.reduceEqDiff])
    | ((with_reducible refine hK _ _ ?_); clear hK)
    | (simp only [ACond, RA, EAtS_def, EAtX_def, wantedA, acall, astep, ev, ofValue, ofAtom, Nat.reduceEqDiff, Nat.reduceAdd, Nat.reduceMul, Nat.reduceSub, reduceCtorEq, reduceIte, aoptEv, abin, aint, ashift, aun, astr, aeqGuard, isConstOp, aconvH, aofStr, aconvSame, isU8, abuildSlice, afill, splice, azeros, Nat.reduceLeDiff, Nat.reduceLT, Int.reduceLE, Int.reduceLT, Int.reduceEq, Int.reduceToNat, Int.reducePow, IntKind.bits, Int.reduceNeg, RB, aalloc, Go.PW.dig_length, tf35BdC, hd, hd2])
    | (simp (disch := first | omega | (simp only [RO]; done) | assumption) only [RS, six22, gix22, six48, gix48, six58, gix58, idx35, slh35, idx36, slh36, bst25_e, bst25_0, bst25_01])
    | (simp (disch := (first | omega | (simp only [RO]; done) | assumption | (simp only [RM, Go.PW.dig_length]; done) | (simp only [RL, Go.PW.dig_length]; omega))) only [RD, reduceCtorEq, reduceIte, Go.PW.dig_length, Nat.reduceLeDiff, Nat.reduceAdd, Nat.reduceMul, Int.reduceToNat, tf35BdC, hd, hd2])
  all_goals
    refine EExt_intro (Rows_calls n ys b _ ((hb.push _).push _) hs) ?_
    rintro _ H1 ⟨p1, vs1, rfl, M1, x1, _⟩
    refine ⟨x1, ?_⟩
    repeat' first
      | (simp only [ACond, RA, EAtS_def, EAtX_def, wantedA, acall, astep, ev, ofValue, ofAtom, Nat.reduceEqDiff, Nat.reduceAdd, Nat.reduceMul, Nat.reduceSub, reduceCtorEq, reduceIte, aoptEv, abin, aint, ashift, aun, astr, aeqGuard, isConstOp, aconvH, aofStr, aconvSame, isU8, abuildSlice, afill, splice, azeros, Nat.reduceLeDiff, Nat.reduceLT, Int.reduceLE, Int.reduceLT, Int.reduceEq, Int.reduceToNat, Int.reducePow, IntKind.bits, Int.reduceNeg, RB, aalloc, Go.PW.dig_length, tf35BdC])
    refine ECall_intro (Rows_calls n xs a _ (((ha.push _).push _).ext x1) hr) ?_
    rintro _ H3 ⟨p3, vs3, rfl, M3, x3, _⟩
    rw [rowsOf_F] at M1 M3
    repeat' first
      | ((with_reducible refine ECall_intro (of_calls _ _ (by omega)) ?_); rintro _ _ ⟨rfl, rfl⟩)
      | (simp only [ACond, RA, EAtS_def, EAtX_def, wantedA, acall, astep, ev, ofValue, ofAtom, Nat.reduceEqDiff, Nat.reduceAdd, Nat.reduceMul, Nat.reduceSub, reduceCtorEq, reduceIte, aoptEv, abin, aint, ashift, aun, astr, aeqGuard, isConstOp, aconvH, aofStr, aconvSame, isU8, abuildSlice, afill, splice, azeros, Nat.reduceLeDiff, Nat.reduceLT, Int.reduceLE, Int.reduceLT, Int.reduceEq, Int.reduceToNat, Int.reducePow, IntKind.bits, Int.reduceNeg, RB, aalloc, Go.PW.dig_length, tf35BdC])
    refine ECall_intro (less_calls n p1 p3 vs1 vs3 (ent n ys) (ent n xs) 1 _ (M1.ext x3) M3 h8 (fun i j _ _ => f30 i j) (fun i j _ _ => e30 i j) (by omega)) ?_
    rintro _ H4 ⟨p, vs, rfl, M, x4, hF⟩
    repeat' first
      | (simp only [ACond, RA, EAtS_def, EAtX_def, wantedA, acall, astep, ev, ofValue, ofAtom, Nat.reduceEqDiff, Nat.reduceAdd, Nat.reduceMul, Nat.reduceSub, reduceCtorEq, reduceIte, aoptEv, abin, aint, ashift, aun, astr, aeqGuard, isConstOp, aconvH, aofStr, aconvSame, isU8, abuildSlice, afill, splice, azeros, Nat.reduceLeDiff, Nat.reduceLT, Int.reduceLE, Int.reduceLT, Int.reduceEq, Int.reduceToNat, Int.reducePow, IntKind.bits, Int.reduceNeg, RB, aalloc, Go.PW.dig_length, tf35BdC])
    refine ECall_intro (Positive_calls n p _ vs _ H4 M (St.zeroF n _) h8 (dif_64 f30 e30 (by omega))) ?_
    rintro _ H5 ⟨rfl, O⟩
    repeat' first
      | (with_reducible first | refine AWp_ret ?_)
      | (simp only [thenA, inBlockA, reduceIte, Nat.reduceEqDiff])
      | ((with_reducible refine hK _ _ ?_); clear hK)
      | (simp only [ACond, RA, EAtS_def, EAtX_def, wantedA, acall, astep, ev, ofValue, ofAtom, Nat.reduceEqDiff, Nat.reduceAdd, Nat.reduceMul, Nat.reduceSub, reduceCtorEq, reduceIte, aoptEv, abin, aint, ashift, aun, astr, aeqGuard, isConstOp, aconvH, aofStr, aconvSame, isU8, abuildSlice, afill, splice, azeros, Nat.reduceLeDiff, Nat.reduceLT, Int.reduceLE, Int.reduceLT, Int.reduceEq, Int.reduceToNat, Int.reducePow, IntKind.bits, Int.reduceNeg, RB, aalloc, Go.PW.dig_length, tf35BdC])
    (
     (refine AEnd_gen (rs := [.tmp 4]) rfl ?_)
     (simp only [AEndR, aresults, Fr.put_some, Fr.put_none, fr0_zero, fr0_succ, fr0_nil, Nat.reduceEqDiff, reduceIte])
     (try simp (disch := (first | omega | (simp only [RO]; done) | assumption | (simp only [RM, Go.PW.dig_length]; done) | (simp only [RL, Go.PW.dig_length]; omega))) only [RD, reduceCtorEq, reduceIte, Go.PW.dig_length, Nat.reduceLeDiff, Nat.reduceAdd, Nat.reduceMul, Int.reduceToNat, tf35BdC]))
    have x5 := Off.toExt x4 O (fun h ⟨i, hi, e⟩ => by rw [e]; exact hF.2 i hi)
    exact ⟨((((Ext.push _ _).pushed _).trans x1).trans x3).trans x5, trivial, rfl⟩
end Go.Proofs.YtfalfmfkifemeaaDoor

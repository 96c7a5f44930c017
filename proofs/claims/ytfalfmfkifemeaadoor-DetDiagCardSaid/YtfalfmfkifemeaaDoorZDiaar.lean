/- Part 18 of the proof of laws of this seat: lemmas on the model's code, on this program's functions, on numbers. No condition. -/
import Derived.Test.YtfalfmfkifemeaaDoorZDiaaq
set_option linter.unusedVariables false
set_option linter.unusedSimpArgs false
namespace Go.Proofs.YtfalfmfkifemeaaDoor
open Go.AL Go.PW
theorem tf28MaE : type_of% (And.intro @tyb2 (And.intro @tyb3 (And.intro @tyb22 (And.intro @tyb24 (And.intro @tyb25 (And.intro @tyb34 (And.intro @tyb35 (And.intro @tyb36 (And.intro @tyb48 (@tyb58)))))))))) := And.intro @tyb2 (And.intro @tyb3 (And.intro @tyb22 (And.intro @tyb24 (And.intro @tyb25 (And.intro @tyb34 (And.intro @tyb35 (And.intro @tyb36 (And.intro @tyb48 (@tyb58)))))))))
abbrev pn28_10MaE : Plan := (.one 0 (.one 1 (.one 2 (.one 4 (.one 5 (.pur 6 (.one 3 (.one 7 (.one 8 .nil)))))))))
set_option maxRecDepth 8000
theorem outer_put {H : Hp} {p : Nat} {vs : List AV} {t : Nat} {x : AV} (hg : hget H p = some ⟨vs, .own, 48⟩) (ht : t < vs.length) (hx : x.one = true) : astore Tryd.prog H 48 (.ptr p t) x = some (H.set p ⟨vs.set t x, .own, 48⟩) := by
  rw [astore_ptr, hg]
  simp only [size48]
  rw [if_pos ⟨trivial, AV.solid_one hx, by rw [AV.cells_one hx]; rfl, ht⟩, AV.cells_one hx]
  have := splice_set (fun v : AV => v) vs x ht
  rw [List.map_id', List.map_id'] at this
  rw [this]
theorem ent_fit {n : Nat} {xs : List Int} (hr : Right n xs) {i j : Nat} (hi : i < n) (hj : j < n) : Fit (ent n xs i j) := hr.2 _ (getD_mem (hr.pl hi hj).2)
/-- Fresh rows of a matrix. -/
def Fresh (H0 : Hp) (p : Nat) (vs : List AV) (n : Nat) : Prop := H0.length ≤ p ∧ ∀ i, i < n → H0.length ≤ (vs.getD i .nilS).hd
set_option maxHeartbeats 4000000 in
theorem Rows_calls (n : Nat) (xs : List Int) (a : AV) (H : Hp) (ha : Ints H .i64 a xs) (hr : Right n xs) : ACalls Tryd.prog 28 [SymA n a] H fun r H' => ∃ p vs, r = .sl p 0 n n ∧ Mat H' p vs (rowsOf n xs) ∧ Ext H H' ∧ Fresh H p vs n := by
  have ha1 : a.one = true := ha.rd.one
  have hc : a.cells = [a] := AV.cells_one ha1
  obtain ⟨k, hk, h8, _⟩ := hr.nat
  obtain rfl : n = k := by omega
  have mo := fun H => make_outer H n .i64 (by omega)
  have mr := fun H => make_row H n .i64 (by omega)
  refine ACalls_body Tryd.func28 rfl (by kernel_rfl) (by kernel_rfl) ?_
  repeat' first
    | (with_reducible first | refine AWp_seq_k (fun K hK => ?_) | refine AWp_block ?_ | refine AWp_regionE ?_)
    | (simp only [thenA, inBlockA, reduceIte, Nat.reduceEqDiff])
    | ((with_reducible refine hK _ _ ?_); clear hK)
    | (simp only [ACond, RA, EAtS_def, EAtX_def, wantedA, acall, astep, ev, ofValue, ofAtom, Nat.reduceEqDiff, Nat.reduceAdd, Nat.reduceMul, Nat.reduceSub, reduceCtorEq, reduceIte, aoptEv, abin, aint, ashift, aun, astr, aeqGuard, isConstOp, aconvH, aofStr, aconvSame, isU8, abuildSlice, afill, splice, azeros, Nat.reduceLeDiff, Nat.reduceLT, Int.reduceLE, Int.reduceLT, Int.reduceEq, Int.reduceToNat, Int.reducePow, IntKind.bits, Int.reduceNeg, RB, aalloc, Go.PW.dig_length, tf28MaE, mo])
    | (simp (disch := first | omega | (simp only [RO]; done) | assumption) only [RS, six22, gix22, six48, gix48, six58, gix58, idx35, slh35, idx36, slh36, bst25_e, bst25_0, bst25_01])
    | (simp (disch := (first | omega | (simp only [RO]; done) | assumption | (simp only [RM, Go.PW.dig_length]; done) | (simp only [RL, Go.PW.dig_length]; omega))) only [RD, reduceCtorEq, reduceIte, Go.PW.dig_length, Nat.reduceLeDiff, Nat.reduceAdd, Nat.reduceMul, Int.reduceToNat, tf28MaE, mo])
  obtain ⟨p, hp⟩ : ∃ p, p = H.length + 1 := ⟨_, rfl⟩
  rw [← hp]
  refine AWp_loop (fun m fr' H1 => ∃ (t : Nat) (vs : List AV) (rss : List (List Int)), m = n - t ∧ t ≤ n ∧ fr' 1 = .ptr H.length 0 ∧ fr' 3 = .sl p 0 n n ∧ fr' 12 = .int .i64 (n : Int) ∧ fr' 13 = .int .i64 (t : Int) ∧
      Mat H1 p vs rss ∧ vs.length = n ∧ rss.length = t ∧ (∀ i, i < t → rss.getD i [] = (List.range n).map fun j => ent n xs i j) ∧ (∀ i, i < t → H.length ≤ (vs.getD i .nilS).hd) ∧ Ext H H1 ∧ hget H1 H.length = some ⟨[.int .i64 (n : Int), a], .own, 25⟩) (m := n)
    ⟨0, List.replicate n .nilS, [], by omega, by omega, rfl, rfl, rfl, rfl, ⟨by simp, by rw [hp]; exact hget_at (by simp), fun i hi => by simp at hi, fun i j hi => by simp at hi, fun i hi => by simp at hi⟩, by simp, rfl, fun i hi => by omega, fun i hi => by omega, (Ext.push _ _).pushed _, by rw [hget_old (by simp), hget_at rfl]⟩ ?_
  rintro m fr' H1 ⟨t, vs, rss, rfl, ht, k1, k3, k12, k13, M, hvl, hrl, hrow, hfr, x1, g1⟩
  have e1 : IntKind.i64.wrap ((t : Int) + 1) = ((t + 1 : Nat) : Int) := by rw [wrap_i64_id (by omega) (by omega)]; omega
  have l1 := hget_lt g1
  by_cases hlt : t < n
  · obtain ⟨hh, hhe⟩ : ∃ hh, hh = H1.length := ⟨_, rfl⟩
    have lp := hget_lt M.out
    have op := outer_put (H := H1 ++ [Rb (List.replicate n 0)]) (p := p) (vs := vs) (t := t) (x := .sl hh 0 n n) (by rw [hget_old lp]; exact M.out) (by omega) rfl
    have MS := M.snoc (by omega) (List.replicate n 0)
    rw [hrl, List.length_replicate, ← hhe, List.set_append_left _ _ lp] at MS
    refine AWp_seq_k (fun K hQ => ?_)
    repeat' first
      | (with_reducible first | refine AWp_skip ?_ | refine AWp_regionE ?_ | refine AWp_condI ?_)
      | (with_reducible refine AIte (fun hc => ?_) (fun hc => ?_) <;> (try simp only [RC] at hc) <;> (try (exfalso; first | omega | contradiction)))
      | (simp only [thenA, inBlockA, reduceIte, Nat.reduceEqDiff])
      | (simp only [ACond, RA, EAtS_def, EAtX_def, wantedA, acall, astep, ev, ofValue, ofAtom, Nat.reduceEqDiff, Nat.reduceAdd, Nat.reduceMul, Nat.reduceSub, reduceCtorEq, reduceIte, aoptEv, abin, aint, ashift, aun, astr, aeqGuard, isConstOp, aconvH, aofStr, aconvSame, isU8, abuildSlice, afill, splice, azeros, Nat.reduceLeDiff, Nat.reduceLT, Int.reduceLE, Int.reduceLT, Int.reduceEq, Int.reduceToNat, Int.reducePow, IntKind.bits, Int.reduceNeg, RB, aalloc, Go.PW.dig_length, tf28MaE, k1, k3, k12, k13])
    refine hQ _ _ ?_
    clear hQ
    refine AWp_seq_k (fun K hQ => ?_)
    repeat' first
      | (with_reducible first | refine AWp_skip ?_ | refine AWp_regionE ?_ | refine AWp_condI ?_)
      | (with_reducible refine AIte (fun hc => ?_) (fun hc => ?_) <;> (try simp only [RC] at hc) <;> (try (exfalso; first | omega | contradiction)))
      | (simp only [thenA, inBlockA, reduceIte, Nat.reduceEqDiff])
      | (simp only [ACond, RA, EAtS_def, EAtX_def, wantedA, acall, astep, ev, ofValue, ofAtom, Nat.reduceEqDiff, Nat.reduceAdd, Nat.reduceMul, Nat.reduceSub, reduceCtorEq, reduceIte, aoptEv, abin, aint, ashift, aun, astr, aeqGuard, isConstOp, aconvH, aofStr, aconvSame, isU8, abuildSlice, afill, splice, azeros, Nat.reduceLeDiff, Nat.reduceLT, Int.reduceLE, Int.reduceLT, Int.reduceEq, Int.reduceToNat, Int.reducePow, IntKind.bits, Int.reduceNeg, RB, aalloc, Go.PW.dig_length, tf28MaE, k1, k3, k12, k13])
    refine hQ _ _ ?_
    clear hQ
    refine AWp_seq_k (fun K3 hK3 => ?_)
    refine AWp_block ?_
    refine AWp_seq_k (fun K hQ => ?_)
    repeat' first
      | (with_reducible first | refine AWp_regionE ?_)
      | (simp only [thenA, inBlockA, reduceIte, Nat.reduceEqDiff])
      | (simp only [ACond, RA, EAtS_def, EAtX_def, wantedA, acall, astep, ev, ofValue, ofAtom, Nat.reduceEqDiff, Nat.reduceAdd, Nat.reduceMul, Nat.reduceSub, reduceCtorEq, reduceIte, aoptEv, abin, aint, ashift, aun, astr, aeqGuard, isConstOp, aconvH, aofStr, aconvSame, isU8, abuildSlice, afill, splice, azeros, Nat.reduceLeDiff, Nat.reduceLT, Int.reduceLE, Int.reduceLT, Int.reduceEq, Int.reduceToNat, Int.reducePow, IntKind.bits, Int.reduceNeg, RB, aalloc, Go.PW.dig_length, tf28MaE, k1, k3, k12, k13, g1, mr, ← hhe, op])
      | (simp (disch := first | omega | (simp only [RO]; done) | assumption) only [RS, six22, gix22, six48, gix48, six58, gix58, idx35, slh35, idx36, slh36, bst25_e, bst25_0, bst25_01])
      | (simp (disch := (first | omega | (simp only [RO]; done) | assumption | (simp only [RM, Go.PW.dig_length]; done) | (simp only [RL, Go.PW.dig_length]; omega))) only [RD, reduceCtorEq, reduceIte, Go.PW.dig_length, Nat.reduceLeDiff, Nat.reduceAdd, Nat.reduceMul, Int.reduceToNat, tf28MaE, k1, k3, k12, k13, g1, mr, ← hhe, op])
    refine hQ _ _ ?_
    clear hQ
    refine AWp_seq_k (fun K hQ => ?_)
    repeat' first
      | (with_reducible first | refine AWp_regionE ?_)
      | (simp only [thenA, inBlockA, reduceIte, Nat.reduceEqDiff])
      | (simp only [ACond, RA, EAtS_def, EAtX_def, wantedA, acall, astep, ev, ofValue, ofAtom, Nat.reduceEqDiff, Nat.reduceAdd, Nat.reduceMul, Nat.reduceSub, reduceCtorEq, reduceIte, aoptEv, abin, aint, ashift, aun, astr, aeqGuard, isConstOp, aconvH, aofStr, aconvSame, isU8, abuildSlice, afill, splice, azeros, Nat.reduceLeDiff, Nat.reduceLT, Int.reduceLE, Int.reduceLT, Int.reduceEq, Int.reduceToNat, Int.reducePow, IntKind.bits, Int.reduceNeg, RB, aalloc, Go.PW.dig_length, tf28MaE, k1, k3, k12, k13, g1, mr, ← hhe, op])
      | (simp (disch := first | omega | (simp only [RO]; done) | assumption) only [RS, six22, gix22, six48, gix48, six58, gix58, idx35, slh35, idx36, slh36, bst25_e, bst25_0, bst25_01])
      | (simp (disch := (first | omega | (simp only [RO]; done) | assumption | (simp only [RM, Go.PW.dig_length]; done) | (simp only [RL, Go.PW.dig_length]; omega))) only [RD, reduceCtorEq, reduceIte, Go.PW.dig_length, Nat.reduceLeDiff, Nat.reduceAdd, Nat.reduceMul, Int.reduceToNat, tf28MaE, k1, k3, k12, k13, g1, mr, ← hhe, op])
    refine hQ _ _ ?_
    clear hQ
    have hv2 : (vs.set t (AV.sl hh 0 n n)).getD t .nilS = .sl hh 0 n n := by rw [set_getD _ _ _ _ _ (by omega), if_pos rfl]
    have hr2 : ∀ rr : List Int, (rss ++ [rr]).getD t [] = rr := fun rr => by rw [← hrl]; simp [List.getD]
    have hs2 : ∀ rr : List Int, (rss ++ [rr]).set t (rr : List Int) = rss ++ [rr] := fun rr => by rw [← hrl]; simp
    have hl2 : ∀ rr : List Int, t < (rss ++ [rr]).length := fun rr => by simp; omega
    have m1 := MS.at0 (hl2 _)
    have m2 := MS.rlen (hl2 _)
    rw [hv2] at m1 m2
    rw [hr2, List.length_replicate] at m2
    have lhh : H.length < hh := by omega
    have php : p ≠ H.length := by omega
    repeat' first
      | (with_reducible first | refine AWp_seq_k (fun K hK => ?_) | refine AWp_block ?_ | refine AWp_regionE ?_)
      | (simp only [thenA, inBlockA, reduceIte, Nat.reduceEqDiff])
      | ((with_reducible refine hK _ _ ?_); clear hK)
      | (simp only [ACond, RA, EAtS_def, EAtX_def, wantedA, acall, astep, ev, ofValue, ofAtom, Nat.reduceEqDiff, Nat.reduceAdd, Nat.reduceMul, Nat.reduceSub, reduceCtorEq, reduceIte, aoptEv, abin, aint, ashift, aun, astr, aeqGuard, isConstOp, aconvH, aofStr, aconvSame, isU8, abuildSlice, afill, splice, azeros, Nat.reduceLeDiff, Nat.reduceLT, Int.reduceLE, Int.reduceLT, Int.reduceEq, Int.reduceToNat, Int.reducePow, IntKind.bits, Int.reduceNeg, RB, aalloc, Go.PW.dig_length, tf28MaE, k1, k3, k12, k13, m1, m2])
      | (simp (disch := first | omega | (simp only [RO]; done) | assumption) only [RS, six22, gix22, six48, gix48, six58, gix58, idx35, slh35, idx36, slh36, bst25_e, bst25_0, bst25_01])
    refine AWp_loop (fun m fr' H2 => ∃ (j : Nat) (rr : List Int), m = n - j ∧ j ≤ n ∧ fr' 1 = .ptr H.length 0 ∧ fr' 3 = .sl p 0 n n ∧ fr' 4 = .int .i64 (t : Int) ∧ fr' 12 = .int .i64 (n : Int) ∧ fr' 13 = .int .i64 (t : Int) ∧ fr' 26 = .int .i64 (n : Int) ∧ fr' 27 = .int .i64 (j : Int) ∧
        Mat H2 p (vs.set t (.sl hh 0 n n)) (rss ++ [rr]) ∧ rr.length = n ∧ (∀ b, b < n → rr.getD b 0 = if b < j then ent n xs t b else 0) ∧ Ext H H2 ∧ hget H2 H.length = some ⟨[.int .i64 (n : Int), a], .own, 25⟩) (m := n)
      ⟨0, List.replicate n 0, by omega, by omega, k1, k3, rfl, k12, k13, rfl, rfl, MS, by simp, fun b hb => by rw [if_neg (by omega)]; simp [List.getD, hb], (x1.set (by omega) _).pushed _, by rw [hget_old (by rw [List.length_set]; exact l1), hget_set lp, if_neg (by omega)]; exact g1⟩ ?_
    rintro m fr' H2 ⟨j, rr, rfl, hj, k1, k3, k4, k12, k13, k26, k27, M2, hrl2, hrr, x2, g2⟩
    have e2 : IntKind.i64.wrap ((j : Int) + 1) = ((j + 1 : Nat) : Int) := by rw [wrap_i64_id (by omega) (by omega)]; omega
    by_cases hjn : j < n
    · have hat := At_calls n xs a t j H2 (ha.ext x2) hr hlt hjn
      have hof := fun H0 => of_calls (ent n xs t j) H0 (by have := ent_fit hr hlt hjn; unfold Fit at this; omega)
      have b1 := M2.at0 (hl2 _)
      have b3 := M2.idx (hl2 _) (k := .i64) (j := (j : Int)) (by omega) (by rw [hr2]; omega)
      have d1 := M2.put (x := ent n xs t j) (hl2 _) (j := j) (by rw [hr2]; omega)
      rw [hv2] at b1 b3 d1
      rw [hr2] at d1
      rw [Int.toNat_natCast] at b3
      have hdd : (AV.sl hh 0 n n).hd = hh := rfl
      rw [hdd] at b3 d1
      have lh2 : hh < H2.length := by have := hget_lt (M2.row t (hl2 _)).2; rw [hv2] at this; exact this
      have M3 := M2.set (hl2 _) (rs := rr.set j (ent n xs t j)) (by rw [hr2, List.length_set])
      rw [hv2, hdd] at M3
      have hs3 : (rss ++ [rr]).set t (rr.set j (ent n xs t j)) = rss ++ [rr.set j (ent n xs t j)] := by rw [← hrl]; simp
      rw [hs3] at M3
      repeat' first
        | (with_reducible first | refine AWp_seq_k (fun K hK => ?_) | refine AWp_block ?_ | refine AWp_skip ?_ | refine AWp_regionE ?_ | refine AWp_drawE (id := 10) [] pn28_10MaE (by kernel_rfl) (by kernel_rfl) ?_ | refine AWp_condI ?_ | refine Run_pur ?_)
        | (with_reducible refine EPure_intro (fun _ x => (hof _)) ?_)
        | ((with_reducible refine ECall_intro (hat) ?_); rintro _ _ ⟨rfl, rfl⟩)
        | (with_reducible refine AIte (fun hc => ?_) (fun hc => ?_) <;> (try simp only [RC] at hc) <;> (try (exfalso; first | omega | contradiction)))
        | (simp only [thenA, inBlockA, reduceIte, Nat.reduceEqDiff])
        | ((with_reducible refine hK _ _ ?_); clear hK)
        | (simp only [ACond, RA, EAtS_def, EAtX_def, wantedA, acall, astep, ev, ofValue, ofAtom, Nat.reduceEqDiff, Nat.reduceAdd, Nat.reduceMul, Nat.reduceSub, reduceCtorEq, reduceIte, aoptEv, abin, aint, ashift, aun, astr, aeqGuard, isConstOp, aconvH, aofStr, aconvSame, isU8, abuildSlice, afill, splice, azeros, Nat.reduceLeDiff, Nat.reduceLT, Int.reduceLE, Int.reduceLT, Int.reduceEq, Int.reduceToNat, Int.reducePow, IntKind.bits, Int.reduceNeg, RB, aalloc, Go.PW.dig_length, tf28MaE, k1, k3, k4, k12, k13, k26, k27, e2, g2, b1, b3, d1])
        | (simp (disch := first | omega | (simp only [RO]; done) | assumption) only [RS, six22, gix22, six48, gix48, six58, gix58, idx35, slh35, idx36, slh36, bst25_e, bst25_0, bst25_01])
        | (simp (disch := (first | omega | (simp only [RO]; done) | assumption | (simp only [RM, Go.PW.dig_length]; done) | (simp only [RL, Go.PW.dig_length]; omega))) only [RD, reduceCtorEq, reduceIte, Go.PW.dig_length, Nat.reduceLeDiff, Nat.reduceAdd, Nat.reduceMul, Int.reduceToNat, tf28MaE, k1, k3, k4, k12, k13, k26, k27, e2, g2, b1, b3, d1])
      all_goals
        refine ⟨_, by omega, j + 1, rr.set j (ent n xs t j), rfl, by omega, rfl, M3, by rw [List.length_set]; exact hrl2, fun b hb => ?_, x2.set (by omega) _, by rw [hget_set lh2, if_neg (by omega)]; exact g2⟩
        rw [getD_set _ _ (by omega)]
        by_cases hbj : b = j
        · rw [if_pos hbj, if_pos (by omega), hbj]
        · rw [if_neg hbj, hrr b hb]
          have : b < j ↔ b < j + 1 := by omega
          simp only [this]
    · obtain rfl : n = j := by omega
      repeat' first
        | (with_reducible first | refine AWp_seq_k (fun K hK => ?_) | refine AWp_exit ?_ | refine AWp_regionE ?_ | refine AWp_condI ?_)
        | (with_reducible refine AIte (fun hc => ?_) (fun hc => ?_) <;> (try simp only [RC] at hc) <;> (try (exfalso; first | omega | contradiction)))
        | (simp only [thenA, inBlockA, reduceIte, Nat.reduceEqDiff])
        | ((with_reducible refine hK _ _ ?_); clear hK)
        | (simp only [ACond, RA, EAtS_def, EAtX_def, wantedA, acall, astep, ev, ofValue, ofAtom, Nat.reduceEqDiff, Nat.reduceAdd, Nat.reduceMul, Nat.reduceSub, reduceCtorEq, reduceIte, aoptEv, abin, aint, ashift, aun, astr, aeqGuard, isConstOp, aconvH, aofStr, aconvSame, isU8, abuildSlice, afill, splice, azeros, Nat.reduceLeDiff, Nat.reduceLT, Int.reduceLE, Int.reduceLT, Int.reduceEq, Int.reduceToNat, Int.reducePow, IntKind.bits, Int.reduceNeg, RB, aalloc, Go.PW.dig_length, tf28MaE, k1, k3, k4, k12, k13, k26, k27])
      refine hK3 _ _ ?_
      repeat' first
        | (with_reducible first | refine AWp_regionE ?_)
        | (simp only [thenA, inBlockA, reduceIte, Nat.reduceEqDiff])
        | (simp only [ACond, RA, EAtS_def, EAtX_def, wantedA, acall, astep, ev, ofValue, ofAtom, Nat.reduceEqDiff, Nat.reduceAdd, Nat.reduceMul, Nat.reduceSub, reduceCtorEq, reduceIte, aoptEv, abin, aint, ashift, aun, astr, aeqGuard, isConstOp, aconvH, aofStr, aconvSame, isU8, abuildSlice, afill, splice, azeros, Nat.reduceLeDiff, Nat.reduceLT, Int.reduceLE, Int.reduceLT, Int.reduceEq, Int.reduceToNat, Int.reducePow, IntKind.bits, Int.reduceNeg, RB, aalloc, Go.PW.dig_length, tf28MaE, k1, k3, k4, k12, k13, e1])
      refine ⟨_, by omega, t + 1, _, _, rfl, by omega, rfl, M2, by rw [List.length_set]; exact hvl, by rw [List.length_append, hrl]; rfl, fun i hi => ?_, fun i hi => ?_, x2, g2⟩
      · by_cases e : i = t
        · rw [e, hr2]
          apply ext_getD 0
          · rw [hrl2]; simp
          · intro b hb
            rw [List.length_map, List.length_range] at hb
            rw [hrr b hb, if_pos hb]
            simp [List.getD, hb]
        · rw [← hrow i (by omega), List.getD_eq_getElem?_getD, List.getElem?_append_left (by omega), ← List.getD_eq_getElem?_getD]
      · rw [set_getD _ _ _ _ _ (by omega)]
        by_cases e : i = t
        · rw [if_pos e]; show H.length ≤ hh; omega
        · rw [if_neg e]; exact hfr i (by omega)
  · obtain rfl : t = n := by omega
    repeat' first
      | (with_reducible first | refine AWp_seq_k (fun K hK => ?_) | refine AWp_exit ?_ | refine AWp_ret ?_ | refine AWp_regionE ?_ | refine AWp_condI ?_)
      | (with_reducible refine AIte (fun hc => ?_) (fun hc => ?_) <;> (try simp only [RC] at hc) <;> (try (exfalso; first | omega | contradiction)))
      | (simp only [thenA, inBlockA, reduceIte, Nat.reduceEqDiff])
      | ((with_reducible refine hK _ _ ?_); clear hK)
      | (clear hK; (with_reducible refine hK _ _ ?_); clear hK)
      | (simp only [ACond, RA, EAtS_def, EAtX_def, wantedA, acall, astep, ev, ofValue, ofAtom, Nat.reduceEqDiff, Nat.reduceAdd, Nat.reduceMul, Nat.reduceSub, reduceCtorEq, reduceIte, aoptEv, abin, aint, ashift, aun, astr, aeqGuard, isConstOp, aconvH, aofStr, aconvSame, isU8, abuildSlice, afill, splice, azeros, Nat.reduceLeDiff, Nat.reduceLT, Int.reduceLE, Int.reduceLT, Int.reduceEq, Int.reduceToNat, Int.reducePow, IntKind.bits, Int.reduceNeg, RB, aalloc, Go.PW.dig_length, tf28MaE, k1, k3, k12, k13])
    (
     (refine AEnd_gen (rs := [.tmp 2]) rfl ?_)
     (simp only [AEndR, aresults, Fr.put_some, Fr.put_none, fr0_zero, fr0_succ, fr0_nil, Nat.reduceEqDiff, reduceIte, k3])
     (try simp (disch := (first | omega | (simp only [RO]; done) | assumption | (simp only [RM, Go.PW.dig_length]; done) | (simp only [RL, Go.PW.dig_length]; omega))) only [RD, reduceCtorEq, reduceIte, Go.PW.dig_length, Nat.reduceLeDiff, Nat.reduceAdd, Nat.reduceMul, Int.reduceToNat, tf28MaE, k3]))
    refine ⟨p, vs, rfl, ?_, x1, by omega, hfr⟩
    have : rss = rowsOf t xs := by
      apply ext_getD []
      · rw [rowsOf_length, hrl]
      · intro i hi
        rw [rowsOf_length] at hi
        rw [rowsOf_get _ _ _ hi, hrow i hi]
    rw [← this]; exact M
end Go.Proofs.YtfalfmfkifemeaaDoor
set_option linter.unusedVariables false
set_option linter.unusedSimpArgs false
namespace Go.Proofs.YtfalfmfkifemeaaDoor
open Go.AL Go.PW
theorem tf30MaF : type_of% (And.intro @tyb3 (And.intro @tyb34 (And.intro @tyb35 (And.intro @tyb36 (And.intro @tyb48 (@tyb58)))))) := And.intro @tyb3 (And.intro @tyb34 (And.intro @tyb35 (And.intro @tyb36 (And.intro @tyb48 (@tyb58)))))
abbrev pn30_5MaF : Plan := (.one 0 (.one 1 (.one 2 (.one 3 (.one 4 (.one 5 (.one 6 (.one 7 (.one 8 (.one 9 (.one 10 (.one 11 (.one 12 (.one 13 (.one 14 (.one 15 .nil))))))))))))))))
set_option maxRecDepth 8000
/-- Two places change places. -/
def swp {α : Type} (d : α) (xs : List α) (k i : Nat) : List α := (xs.set i (xs.getD k d)).set k (xs.getD i d)
theorem swp_length {α : Type} (d : α) (xs : List α) (k i : Nat) : (swp d xs k i).length = xs.length := by simp [swp]
theorem swp_getD {α : Type} (d : α) (xs : List α) (k i j : Nat) (hk : k < xs.length) (hi : i < xs.length) : (swp d xs k i).getD j d = if j = k then xs.getD i d else if j = i then xs.getD k d else xs.getD j d := by
  unfold swp
  rw [set_getD _ _ _ _ _ (by rw [List.length_set]; exact hk), set_getD _ _ _ _ _ hi]
theorem Mat.swap {H : Hp} {p : Nat} {vs : List AV} {rss : List (List Int)} (M : Mat H p vs rss) {k i : Nat} (hk : k < rss.length) (hi : i < rss.length) :
    Mat (H.set p ⟨swp .nilS vs k i, .own, 48⟩) p (swp .nilS vs k i) (swp [] rss k i) := by
  have lp := hget_lt M.out
  have hl := M.len
  have gv := fun j => swp_getD (.nilS : AV) vs k i j (by omega) (by omega)
  have gr := fun j => swp_getD ([] : List Int) rss k i j hk hi
  have key : ∀ j, j < rss.length → ∃ l, l < rss.length ∧ (swp .nilS vs k i).getD j .nilS = vs.getD l .nilS ∧ (swp [] rss k i).getD j [] = rss.getD l [] ∧ l = (if j = k then i else if j = i then k else j) := by
    intro j hj
    rw [gv, gr]
    by_cases e1 : j = k
    · rw [if_pos e1, if_pos e1, if_pos e1]; exact ⟨i, hi, rfl, rfl, rfl⟩
    · rw [if_neg e1, if_neg e1, if_neg e1]
      by_cases e2 : j = i
      · rw [if_pos e2, if_pos e2, if_pos e2]; exact ⟨k, hk, rfl, rfl, rfl⟩
      · rw [if_neg e2, if_neg e2, if_neg e2]; exact ⟨j, hj, rfl, rfl, rfl⟩
  refine ⟨by rw [swp_length, swp_length]; exact hl, by rw [hget_set lp, if_pos rfl], fun j hj => ?_, fun a b ha hb hne => ?_, fun a ha => ?_⟩
  · rw [swp_length] at hj
    obtain ⟨l, hl', e1, e2, _⟩ := key j hj
    rw [e1, e2, hget_set lp, if_neg (M.off l hl')]
    exact M.row l hl'
  · rw [swp_length] at ha hb
    obtain ⟨l, hl', e1, _, w1⟩ := key a ha
    obtain ⟨l2, hl2', e2, _, w2⟩ := key b hb
    rw [e1, e2]
    refine M.apart l l2 hl' hl2' ?_
    rw [w1, w2]
    repeat' split
    all_goals omega
  · rw [swp_length] at ha
    obtain ⟨l, hl', e1, _, _⟩ := key a ha
    rw [e1]; exact M.off l hl'
theorem bne_int (i k : Nat) : ((i : Int) != (k : Int)) = decide (¬ i = k) := by
  by_cases e : i = k
  · simp [e]
  · have : (i : Int) ≠ k := by omega
    simp [e, this]
set_option maxHeartbeats 4000000 in
theorem turn_calls (p k : Nat) (vs : List AV) (rss : List (List Int)) (wd : Nat) (H : Hp) (M : Mat H p vs rss) (hk : k < rss.length) (hw : ∀ i, i < rss.length → (rss.getD i []).length = wd) (hkw : k < wd) (hn : rss.length < 1000000) (hwn : wd < 1000000)
    (hin : ∀ i, k ≤ i → i < rss.length → In ((rss.getD i []).getD k 0)) :
    ACalls Tryd.prog 30 [.sl p 0 rss.length rss.length, .int .i64 (k : Int)] H fun r H' =>
      (∃ i, k ≤ i ∧ i < rss.length ∧ (rss.getD i []).getD k 0 ≠ 0 ∧ (∀ l, k ≤ l → l < i → (rss.getD l []).getD k 0 = 0) ∧ r = .tup [.bool true, .bool (decide (i ≠ k))] ∧ Mat H' p (swp .nilS vs k i) (swp [] rss k i) ∧ Off (fun h => h = p) H H')
      ∨ ((∀ l, k ≤ l → l < rss.length → (rss.getD l []).getD k 0 = 0) ∧ r = .tup [.bool false, .bool false] ∧ Mat H' p vs rss ∧ Off (fun h => h = p) H H') := by
  have lp := hget_lt M.out
  have hlv := M.len
  refine ACalls_body Tryd.func30 rfl (by kernel_rfl) (by kernel_rfl) ?_
  repeat' first
    | (with_reducible first | refine AWp_seq_k (fun K hK => ?_) | refine AWp_block ?_ | refine AWp_regionE ?_)
    | (simp only [thenA, inBlockA, reduceIte, Nat.reduceEqDiff])
    | ((with_reducible refine hK _ _ ?_); clear hK)
    | (simp only [ACond, RA, EAtS_def, EAtX_def, wantedA, acall, astep, ev, ofValue, ofAtom, Nat.reduceEqDiff, Nat.reduceAdd, Nat.reduceMul, Nat.reduceSub, reduceCtorEq, reduceIte, aoptEv, abin, aint, ashift, aun, astr, aeqGuard, isConstOp, aconvH, aofStr, aconvSame, isU8, abuildSlice, afill, splice, azeros, Nat.reduceLeDiff, Nat.reduceLT, Int.reduceLE, Int.reduceLT, Int.reduceEq, Int.reduceToNat, Int.reducePow, IntKind.bits, Int.reduceNeg, RB, aalloc, Go.PW.dig_length, tf30MaF])
  refine AWp_loop (fun m fr' H1 => ∃ i : Nat, m = rss.length - i ∧ k ≤ i ∧ i ≤ rss.length ∧ fr' 0 = .sl p 0 rss.length rss.length ∧ fr' 1 = .int .i64 (k : Int) ∧ fr' 6 = .int .i64 (i : Int) ∧ (∀ l, k ≤ l → l < i → (rss.getD l []).getD k 0 = 0) ∧ H = H1) (m := rss.length - k)
    ⟨k, by omega, by omega, by omega, rfl, rfl, rfl, fun l h1 h2 => by omega, rfl⟩ ?_
  rintro m fr' H1 ⟨i, rfl, hki, hi, k0, k1, k6, hz, rfl⟩
  have e1 : IntKind.i64.wrap ((i : Int) + 1) = ((i + 1 : Nat) : Int) := by rw [wrap_i64_id (by omega) (by omega)]; omega
  by_cases hlt : i < rss.length
  · have a1 := M.at0 hlt
    have a2 := M.idx hlt (k := .i64) (j := (k : Int)) (by omega) (by rw [hw i hlt]; omega)
    have a3 := M.get hlt (j := k) (by rw [hw i hlt]; omega)
    rw [Int.toNat_natCast] at a2
    have hs := sign_calls ((rss.getD i []).getD k 0) H (hin i hki hlt)
    by_cases hx : (rss.getD i []).getD k 0 = 0
    · rw [hx] at a3 hs
      repeat' first
        | (with_reducible first | refine AWp_seq_k (fun K hK => ?_) | refine AWp_block ?_ | refine AWp_skip ?_ | refine AWp_regionE ?_ | refine AWp_condI ?_)
        | ((with_reducible refine ECall_intro (hs) ?_); rintro _ _ ⟨rfl, rfl⟩)
        | (with_reducible refine AIte (fun hc => ?_) (fun hc => ?_) <;> (try simp only [RC] at hc) <;> (try (exfalso; first | omega | contradiction)))
        | (simp only [thenA, inBlockA, reduceIte, Nat.reduceEqDiff])
        | ((with_reducible refine hK _ _ ?_); clear hK)
        | (simp only [ACond, RA, EAtS_def, EAtX_def, wantedA, acall, astep, ev, ofValue, ofAtom, Nat.reduceEqDiff, Nat.reduceAdd, Nat.reduceMul, Nat.reduceSub, reduceCtorEq, reduceIte, aoptEv, abin, aint, ashift, aun, astr, aeqGuard, isConstOp, aconvH, aofStr, aconvSame, isU8, abuildSlice, afill, splice, azeros, Nat.reduceLeDiff, Nat.reduceLT, Int.reduceLE, Int.reduceLT, Int.reduceEq, Int.reduceToNat, Int.reducePow, IntKind.bits, Int.reduceNeg, RB, aalloc, Go.PW.dig_length, tf30MaF, k0, k1, k6, a1, a2, a3, e1, Int.sign_zero])
        | (simp (disch := first | omega | (simp only [RO]; done) | assumption) only [RS, six48, gix48, six58, gix58, idx35, slh35, idx36, slh36])
      refine ⟨_, by omega, i + 1, rfl, by omega, by omega, rfl, fun l h1 h2 => ?_⟩
      by_cases e : l = i
      · rw [e]; exact hx
      · exact hz l h1 (by omega)
    · have b1 := M.at0 hk
      have hv1 : (vs.getD k .nilS).one = true := (M.row k hk).1.one
      have hv2 : (vs.getD i .nilS).one = true := (M.row i hlt).1.one
      have o1 := outer_put (t := i) (x := vs.getD k .nilS) M.out (by omega) hv1
      have o2 := outer_put (H := H.set p ⟨vs.set i (vs.getD k .nilS), .own, 48⟩) (p := p) (t := k) (vs := vs.set i (vs.getD k .nilS)) (x := vs.getD i .nilS) (by rw [hget_set lp, if_pos rfl]) (by rw [List.length_set]; omega) hv2
      have hs0 : (((rss.getD i []).getD k 0).sign = 0) = False := eq_false (fun h => hx (Int.sign_eq_zero_iff_zero.mp h))
      repeat' first
        | (with_reducible first | refine AWp_seq_k (fun K hK => ?_) | refine AWp_block ?_ | refine AWp_skip ?_ | refine AWp_ret ?_ | refine AWp_regionE ?_ | refine AWp_drawE (id := 5) [] pn30_5MaF (by kernel_rfl) (by kernel_rfl) ?_ | refine AWp_condI ?_)
        | ((with_reducible refine ECall_intro (hs) ?_); rintro _ _ ⟨rfl, rfl⟩)
        | (with_reducible refine AIte (fun hc => ?_) (fun hc => ?_) <;> (try simp only [RC] at hc) <;> (try (exfalso; first | omega | contradiction)))
        | (simp only [thenA, inBlockA, reduceIte, Nat.reduceEqDiff])
        | ((with_reducible refine hK _ _ ?_); clear hK)
        | (simp only [ACond, RA, EAtS_def, EAtX_def, wantedA, acall, astep, ev, ofValue, ofAtom, Nat.reduceEqDiff, Nat.reduceAdd, Nat.reduceMul, Nat.reduceSub, reduceCtorEq, reduceIte, aoptEv, abin, aint, ashift, aun, astr, aeqGuard, isConstOp, aconvH, aofStr, aconvSame, isU8, abuildSlice, afill, splice, azeros, Nat.reduceLeDiff, Nat.reduceLT, Int.reduceLE, Int.reduceLT, Int.reduceEq, Int.reduceToNat, Int.reducePow, IntKind.bits, Int.reduceNeg, RB, aalloc, Go.PW.dig_length, tf30MaF, k0, k1, k6, a1, a2, a3, b1, e1, o1, o2, hs0])
        | (simp (disch := first | omega | (simp only [RO]; done) | assumption) only [RS, six48, gix48, six58, gix58, idx35, slh35, idx36, slh36])
      all_goals
        (
         (refine AEnd_gen (rs := [.tmp 4, .tmp 5]) rfl ?_)
         (simp only [AEndR, aresults, Fr.put_some, Fr.put_none, fr0_zero, fr0_succ, fr0_nil, Nat.reduceEqDiff, reduceIte])
         (try simp (disch := (first | omega | (simp only [RO]; done) | assumption | (simp only [RM, Go.PW.dig_length]; done) | (simp only [RL, Go.PW.dig_length]; omega))) only [RD, reduceCtorEq, reduceIte, Go.PW.dig_length, Nat.reduceLeDiff, Nat.reduceAdd, Nat.reduceMul, Int.reduceToNat, tf30MaF]))
      all_goals
        refine .inl ⟨i, hki, hlt, hx, hz, ?_, ?_, ?_⟩
        · rw [bne_int]
        · rw [List.set_set]; exact M.swap hk hlt
        · rw [List.set_set]; exact (Off.refl _ _).set lp _ (.inl rfl)
  · obtain rfl : i = rss.length := by omega
    repeat' first
      | (with_reducible first | refine AWp_seq_k (fun K hK => ?_) | refine AWp_exit ?_ | refine AWp_ret ?_ | refine AWp_regionE ?_ | refine AWp_condI ?_)
      | (with_reducible refine AIte (fun hc => ?_) (fun hc => ?_) <;> (try simp only [RC] at hc) <;> (try (exfalso; first | omega | contradiction)))
      | (simp only [thenA, inBlockA, reduceIte, Nat.reduceEqDiff])
      | ((with_reducible refine hK _ _ ?_); clear hK)
      | (clear hK; (with_reducible refine hK _ _ ?_); clear hK)
      | (simp only [ACond, RA, EAtS_def, EAtX_def, wantedA, acall, astep, ev, ofValue, ofAtom, Nat.reduceEqDiff, Nat.reduceAdd, Nat.reduceMul, Nat.reduceSub, reduceCtorEq, reduceIte, aoptEv, abin, aint, ashift, aun, astr, aeqGuard, isConstOp, aconvH, aofStr, aconvSame, isU8, abuildSlice, afill, splice, azeros, Nat.reduceLeDiff, Nat.reduceLT, Int.reduceLE, Int.reduceLT, Int.reduceEq, Int.reduceToNat, Int.reducePow, IntKind.bits, Int.reduceNeg, RB, aalloc, Go.PW.dig_length, tf30MaF, k0, k1, k6])
    (
     (refine AEnd_gen (rs := [.tmp 4, .tmp 5]) rfl ?_)
     (simp only [AEndR, aresults, Fr.put_some, Fr.put_none, fr0_zero, fr0_succ, fr0_nil, Nat.reduceEqDiff, reduceIte])
     (try simp (disch := (first | omega | (simp only [RO]; done) | assumption | (simp only [RM, Go.PW.dig_length]; done) | (simp only [RL, Go.PW.dig_length]; omega))) only [RD, reduceCtorEq, reduceIte, Go.PW.dig_length, Nat.reduceLeDiff, Nat.reduceAdd, Nat.reduceMul, Int.reduceToNat, tf30MaF]))
    exact .inr ⟨hz, M, Off.refl _ _⟩
end Go.Proofs.YtfalfmfkifemeaaDoor
set_option linter.unusedVariables false
set_option linter.unusedSimpArgs false
namespace Go.Proofs.YtfalfmfkifemeaaDoor
open Go.AL Go.PW Go.PD
set_option maxRecDepth 8000
theorem Mh_big : (2 : Int) ^ 1000 < Mh := by decide +kernel
theorem In_small {x : Int} (h : x.natAbs ≤ 2 ^ 1000) : In x := by
  have h1 := Mh_big
  have h2 : ((2 ^ 1000 : Nat) : Int) = (2 : Int) ^ 1000 := by decide +kernel
  generalize (2 ^ 1000 : Nat) = y at h h2
  rw [← h2] at h1
  unfold In
  omega
theorem fact_small : ∀ k : Fin 8, fact (k.1 + 1) * (18446744073709551616 : Nat) ^ (k.1 + 1) ≤ 2 ^ 530 := by decide +kernel
theorem fact_mid : ∀ k : Fin 7, fact (k.1 + 1) * (18446744073709551616 : Nat) ^ (k.1 + 1) ≤ 2 ^ 465 := by decide +kernel
theorem d_small {rho : Nat → Nat → Int} (hB : ∀ i j, (rho i j).natAbs ≤ 18446744073709551616) {k : Nat} (hk : k ≤ 7) (i j : Nat) : (d rho k i j).natAbs ≤ 2 ^ 530 :=
  Nat.le_trans (d_bound hB k i j) (fact_small ⟨k, by omega⟩)
theorem d_mid {rho : Nat → Nat → Int} (hB : ∀ i j, (rho i j).natAbs ≤ 18446744073709551616) {k : Nat} (hk : k ≤ 6) (i j : Nat) : (d rho k i j).natAbs ≤ 2 ^ 465 :=
  Nat.le_trans (d_bound hB k i j) (fact_mid ⟨k, by omega⟩)
theorem P_small {rho : Nat → Nat → Int} (hB : ∀ i j, (rho i j).natAbs ≤ 18446744073709551616) {k : Nat} (hk : k ≤ 8) : (P rho k).natAbs ≤ 2 ^ 530 := by
  cases k with
  | zero => rw [P_zero]; decide +kernel
  | succ k => rw [P_succ]; exact d_small hB (by omega) _ _
theorem In_300 {x : Int} (h : x.natAbs ≤ 2 ^ 530) : In x := In_small (Nat.le_trans h (by decide +kernel))
theorem mul_300 {x y : Int} (h : x.natAbs ≤ 2 ^ 465) (h' : y.natAbs ≤ 2 ^ 465) : (x * y).natAbs ≤ 2 ^ 930 := by
  rw [Int.natAbs_mul]
  exact Nat.le_trans (Nat.mul_le_mul h h') (by decide +kernel)
theorem In_600 {x : Int} (h : x.natAbs ≤ 2 ^ 930) : In x := In_small (Nat.le_trans h (by decide +kernel))
theorem In_601 {x y : Int} (h : x.natAbs ≤ 2 ^ 930) (h' : y.natAbs ≤ 2 ^ 930) : In (x - y) := In_small (by
  have h2 : 2 ^ 930 + 2 ^ 930 ≤ 2 ^ 1000 := by decide +kernel
  generalize (2 ^ 930 : Nat) = u at h h' h2
  generalize (2 ^ 1000 : Nat) = v at h2
  omega)
/-- Rows behind k steps, in the order rho. -/
structure St (n k : Nat) (rho : Nat → Nat → Int) (rss : List (List Int)) : Prop where
  len : rss.length = n
  wid : ∀ i, i < n → (rss.getD i []).length = n
  get : ∀ i j, k ≤ i → i < n → j < n → (rss.getD i []).getD j 0 = d rho k i j
theorem St.zero (n : Nat) (xs : List Int) : St n 0 (ent n xs) (rowsOf n xs) := by
  refine ⟨rowsOf_length n xs, fun i hi => by rw [rowsOf_get _ _ _ hi]; simp, fun i j _ hi hj => by rw [rowsOf_get2 _ _ _ _ hi hj, d_zero]⟩
theorem St.swap {n k : Nat} {rho : Nat → Nat → Int} {rss : List (List Int)} (S : St n k rho rss) {i : Nat} (hki : k ≤ i) (hi : i < n) : St n k (swr rho k i) (swp [] rss k i) := by
  have g := fun l => swp_getD ([] : List Int) rss k i l (by rw [S.len]; omega) (by rw [S.len]; omega)
  refine ⟨by rw [swp_length]; exact S.len, fun l hl => ?_, fun l j hkl hl hj => ?_⟩
  · rw [g]
    split
    · exact S.wid i hi
    · split
      · exact S.wid k (by omega)
      · exact S.wid l hl
  · rw [g, d_swr hki]
    split
    · exact S.get i j hki hi hj
    · split
      · exact S.get k j (Nat.le_refl _) (by omega) hj
      · exact S.get l j hkl hl hj
theorem St.step {n k : Nat} {rho : Nat → Nat → Int} {rss : List (List Int)} (S : St n k rho rss) (hk : k < n) (hp : P rho k ≠ 0) : St n (k + 1) rho (stepM rss k (P rho k) false) := by
  have hl := S.len
  have g := fun i (hi : i < n) => stepTo_getD rss k (P rho k) false rss.length i (by omega)
  refine ⟨by unfold stepM; rw [stepTo_length]; exact hl, fun i hi => ?_, fun i j hki hi hj => ?_⟩
  · unfold stepM
    rw [g i hi]
    split
    · rw [stepRow_length]; exact S.wid i hi
    · exact S.wid i hi
  · unfold stepM
    rw [g i hi, if_pos ⟨by omega, by omega, .inl (by omega)⟩, stepRow_getD _ _ _ _ _ (by rw [S.wid i hi]; exact hj)]
    split
    · rename_i e; rw [e, d_col (by omega)]
    · unfold stepV
      rw [S.get k k (Nat.le_refl _) hk hk, S.get i j (by omega) hi hj, S.get i k (by omega) hi hk, S.get k j (Nat.le_refl _) hk hj, d_step hp]
theorem St.fits {n k : Nat} {rho : Nat → Nat → Int} {rss : List (List Int)} (S : St n k rho rss) (h8 : n ≤ 8) (hk : k < n) (hp : P rho k ≠ 0) (hB : ∀ i j, (rho i j).natAbs ≤ 18446744073709551616) (i j : Nat) (hi : i < rss.length) (hc : Proc k false i) (hj : j < n) (hjk : j ≠ k) : Fits (rss.getD k []) (rss.getD i []) k (P rho k) j := by
  rw [S.len] at hi
  have hki : k < i := by
    rcases hc.2 with h | h
    · exact h
    · cases h
  have e1 := S.get k k (Nat.le_refl _) hk hk
  have e2 := S.get i j (by omega) hi hj
  have e3 := S.get i k (by omega) hi hk
  have e4 := S.get k j (Nat.le_refl _) hk hj
  have s := fun i j => d_small hB (k := k) (by omega) i j
  have m := fun i j => d_mid hB (k := k) (by omega) i j
  refine ⟨?_, ?_, ?_, ?_, ?_, ?_, ?_, ?_⟩
  · rw [e1]; exact In_300 (s _ _)
  · rw [e2]; exact In_300 (s _ _)
  · rw [e3]; exact In_300 (s _ _)
  · rw [e4]; exact In_300 (s _ _)
  · rw [e1, e2]; exact In_600 (mul_300 (m _ _) (m _ _))
  · rw [e3, e4]; exact In_600 (mul_300 (m _ _) (m _ _))
  · rw [e1, e2, e3, e4]; exact In_601 (mul_300 (m _ _) (m _ _)) (mul_300 (m _ _) (m _ _))
  · unfold stepV
    rw [e1, e2, e3, e4, d_step hp]
    exact In_300 (d_small hB (by omega) _ _)
theorem ent_bound {n : Nat} {xs : List Int} (hr : Right n xs) (i j : Nat) : (ent n xs i j).natAbs ≤ 18446744073709551616 := by
  unfold ent
  rcases Nat.lt_or_ge (pl n i j) xs.length with h | h
  · have := hr.2 _ (getD_mem h)
    unfold Fit at this
    omega
  · rw [List.getD_eq_getElem?_getD, List.getElem?_eq_none h]; decide
end Go.Proofs.YtfalfmfkifemeaaDoor
set_option linter.unusedVariables false
set_option linter.unusedSimpArgs false
namespace Go.Proofs.YtfalfmfkifemeaaDoor
open Go.AL Go.PW Go.PD
theorem tf10MaH : type_of% (And.intro @tyb2 (And.intro @tyb3 (And.intro @tyb4 (And.intro @tyb9 (And.intro @tyb22 (And.intro @tyb24 (And.intro @tyb25 (And.intro @tyb34 (And.intro @tyb35 (And.intro @tyb36 (And.intro @tyb37 (And.intro @tyb38 (And.intro @tyb48 (And.intro @tyb57 (@tyb58))))))))))))))) := And.intro @tyb2 (And.intro @tyb3 (And.intro @tyb4 (And.intro @tyb9 (And.intro @tyb22 (And.intro @tyb24 (And.intro @tyb25 (And.intro @tyb34 (And.intro @tyb35 (And.intro @tyb36 (And.intro @tyb37 (And.intro @tyb38 (And.intro @tyb48 (And.intro @tyb57 (@tyb58))))))))))))))
set_option maxRecDepth 8000
theorem Right.len {n : Nat} {xs : List Int} (h : Right n xs) : n ≤ 8 ∧ xs.length < 1000000 := by
  obtain ⟨k, hk, h8, hl⟩ := h.nat
  obtain rfl : n = k := by omega
  have : n * (n + 1) ≤ 8 * 9 := Nat.mul_le_mul h8 (by omega)
  exact ⟨h8, by omega⟩
set_option maxHeartbeats 4000000 in
theorem Det_calls (n : Nat) (xs : List Int) (a : AV) (H : Hp) (ha : Ints H .i64 a xs) (hr : Right n xs) : ACalls Tryd.prog 10 [SymA n a] H fun r H' => r = .tup [W (P (ent n xs) n), .nilI] ∧ H = H' := by
  refine ACalls.drop (R := fun r => r = .tup [W (P (ent n xs) n), .nilI]) ?_
  have ha1 : a.one = true := ha.rd.one
  have hc : a.cells = [a] := AV.cells_one ha1
  obtain ⟨h8, hlx⟩ := hr.len
  have hd : decide (Right n xs) = true := decide_eq_true hr
  have hB := ent_bound hr
  have hof := fun H0 => of_calls 1 H0 (by omega)
  refine ACalls_body Tryd.func10 rfl (by kernel_rfl) (by kernel_rfl) ?_
  repeat' first
    | (with_reducible first | refine AWp_seq_k (fun K hK => ?_) | refine AWp_skip ?_ | refine AWp_regionE ?_ | refine AWp_condI ?_)
    | ((with_reducible refine ECall_intro (right_calls _ _ _ _ ((ha.push _).push _) hlx) ?_); rintro _ _ ⟨rfl, rfl⟩)
    | (simp only [thenA, inBlockA, reduceIte, Nat.reduceEqDiff])
    | ((with_reducible refine hK _ _ ?_); clear hK)
    | (simp only [ACond, RA, EAtS_def, EAtX_def, wantedA, acall, astep, ev, ofValue, ofAtom, Nat.reduceEqDiff, Nat.reduceAdd, Nat.reduceMul, Nat.reduceSub, reduceCtorEq, reduceIte, aoptEv, abin, aint, ashift, aun, astr, aeqGuard, isConstOp, aconvH, aofStr, aconvSame, isU8, abuildSlice, afill, splice, azeros, Nat.reduceLeDiff, Nat.reduceLT, Int.reduceLE, Int.reduceLT, Int.reduceEq, Int.reduceToNat, Int.reducePow, IntKind.bits, Int.reduceNeg, RB, aalloc, Go.PW.dig_length, tf10MaH, hd])
    | (simp (disch := first | omega | (simp only [RO]; done) | assumption) only [RS, six22, gix22, six48, gix48, six58, gix58, idx35, slh35, idx36, slh36, bst25_e, bst25_0, bst25_01])
    | (simp (disch := (first | omega | (simp only [RO]; done) | assumption | (simp only [RM, Go.PW.dig_length]; done) | (simp only [RL, Go.PW.dig_length]; omega))) only [RD, reduceCtorEq, reduceIte, Go.PW.dig_length, Nat.reduceLeDiff, Nat.reduceAdd, Nat.reduceMul, Int.reduceToNat, tf10MaH, hd])
  refine ECall_intro (Rows_calls n xs a _ ((ha.push _).push _) hr) ?_
  rintro r H1 ⟨p, vs, rfl, M, x0, hF⟩
  have l1 := x0.len
  repeat' first
    | (with_reducible first | refine AWp_seq_k (fun K hK => ?_) | refine AWp_block ?_ | refine AWp_regionE ?_)
    | ((with_reducible refine ECall_intro (hof _) ?_); rintro _ _ ⟨rfl, rfl⟩)
    | (simp only [thenA, inBlockA, reduceIte, Nat.reduceEqDiff])
    | ((with_reducible refine hK _ _ ?_); clear hK)
    | (simp only [ACond, RA, EAtS_def, EAtX_def, wantedA, acall, astep, ev, ofValue, ofAtom, Nat.reduceEqDiff, Nat.reduceAdd, Nat.reduceMul, Nat.reduceSub, reduceCtorEq, reduceIte, aoptEv, abin, aint, ashift, aun, astr, aeqGuard, isConstOp, aconvH, aofStr, aconvSame, isU8, abuildSlice, afill, splice, azeros, Nat.reduceLeDiff, Nat.reduceLT, Int.reduceLE, Int.reduceLT, Int.reduceEq, Int.reduceToNat, Int.reducePow, IntKind.bits, Int.reduceNeg, RB, aalloc, Go.PW.dig_length, tf10MaH])
    | (simp (disch := (first | omega | (simp only [RO]; done) | assumption | (simp only [RM, Go.PW.dig_length]; done) | (simp only [RL, Go.PW.dig_length]; omega))) only [RD, reduceCtorEq, reduceIte, Go.PW.dig_length, Nat.reduceLeDiff, Nat.reduceAdd, Nat.reduceMul, Int.reduceToNat, tf10MaH])
  have lp := hget_lt M.out
  have g2 : hget H1 (H.length + 1) = some (Wb 0) := hget_ext (hget_at (by rw [len_push])) x0
  have hr0 : rowsOf n xs = rowsOf n xs := rfl
  have hrl := rowsOf_length n xs
  refine AWp_loop (fun m fr' H2 => ∃ (k : Nat) (rho : Nat → Nat → Int) (mn : Bool) (vs : List AV) (rss : List (List Int)), m = n - k ∧ k ≤ n ∧ fr' 2 = .ptr (H.length + 1) 0 ∧ fr' 3 = .nilI ∧ fr' 4 = .sl p 0 n n ∧ fr' 5 = .ptr H1.length 0 ∧ fr' 6 = .bool mn ∧ fr' 20 = .int .i64 (n : Int) ∧ fr' 21 = .int .i64 (k : Int) ∧
      Go.PD.Reach (ent n xs) n k rho mn ∧ St n k rho rss ∧ Mat H2 p vs rss ∧ (∀ i, i < n → H.length + 2 ≤ (vs.getD i .nilS).hd ∧ (vs.getD i .nilS).hd < H1.length) ∧ hget H2 H1.length = some (Wb (P rho k)) ∧ hget H2 (H.length + 1) = some (Wb 0) ∧ Ext H H2) (m := n)
    ⟨0, ent n xs, false, vs, rowsOf n xs, by omega, by omega, rfl, rfl, rfl, rfl, rfl, rfl, rfl, .start, St.zero n xs, M.push _, fun i hi => ⟨by have := hF.2 i hi; simpa using this, hget_lt (M.row i (by omega)).2⟩, hget_at rfl, by rw [hget_old (hget_lt g2)]; exact g2, (((Ext.push _ _).pushed _).trans x0).pushed _⟩ ?_
  have hpq : p < H1.length := lp
  have hpl : H.length + 2 ≤ p := by have := hF.1; simpa using this
  clear M x0 hF g2
  rintro m fr' H2 ⟨k, rho, mn, vs, rss, rfl, hk, k2, k3, k4, k5, k6, k20, k21, R, S, M, hv, g5, g2, x2⟩
  have e1 : IntKind.i64.wrap ((k : Int) + 1) = ((k + 1 : Nat) : Int) := by rw [wrap_i64_id (by omega) (by omega)]; omega
  have l5 := hget_lt g5
  have l2 := hget_lt g2
  by_cases hlt : k < n
  · have ht := turn_calls p k vs rss n H2 M (by rw [S.len]; exact hlt) (fun i hi => S.wid i (by rw [S.len] at hi; exact hi)) hlt (by rw [S.len]; omega) (by omega) (fun i h1 h2 => by rw [S.len] at h2; rw [S.get i k h1 h2 hlt]; exact In_300 (d_small (R.bound hB) (by omega) _ _))
    rw [S.len] at ht
    repeat' first
      | (with_reducible first | refine AWp_seq_k (fun K hK => ?_) | refine AWp_block ?_ | refine AWp_skip ?_ | refine AWp_regionE ?_ | refine AWp_condI ?_)
      | (with_reducible refine AIte (fun hc => ?_) (fun hc => ?_) <;> (try simp only [RC] at hc) <;> (try (exfalso; first | omega | contradiction)))
      | (simp only [thenA, inBlockA, reduceIte, Nat.reduceEqDiff])
      | ((with_reducible refine hK _ _ ?_); clear hK)
      | (simp only [ACond, RA, EAtS_def, EAtX_def, wantedA, acall, astep, ev, ofValue, ofAtom, Nat.reduceEqDiff, Nat.reduceAdd, Nat.reduceMul, Nat.reduceSub, reduceCtorEq, reduceIte, aoptEv, abin, aint, ashift, aun, astr, aeqGuard, isConstOp, aconvH, aofStr, aconvSame, isU8, abuildSlice, afill, splice, azeros, Nat.reduceLeDiff, Nat.reduceLT, Int.reduceLE, Int.reduceLT, Int.reduceEq, Int.reduceToNat, Int.reducePow, IntKind.bits, Int.reduceNeg, RB, aalloc, Go.PW.dig_length, tf10MaH, k2, k3, k4, k5, k6, k20, k21])
    refine ECall_intro ht ?_
    rintro r H3 (⟨i, hki, hin, hne, _, rfl, M3, O3⟩ | ⟨hz, rfl, M3, O3⟩)
    · have x3 : Ext H H3 := Off.toExt x2 O3 (fun h e => by omega)
      have g5' : hget H3 H1.length = some (Wb (P rho k)) := by rw [O3.2 _ l5 (by omega)]; exact g5
      have g2' : hget H3 (H.length + 1) = some (Wb 0) := by rw [O3.2 _ l2 (by omega)]; exact g2
      have R' := R.step hki hin (by rw [← S.get i k hki hin hlt]; exact hne)
      have S' := S.swap hki hin
      have hPk : P rho k = P (swr rho k i) k := by unfold P; rw [swr_low (Nat.le_refl _) hki]
      have hv' : ∀ l, l < n → H.length + 2 ≤ ((swp .nilS vs k i).getD l .nilS).hd ∧ ((swp .nilS vs k i).getD l .nilS).hd < H1.length := by
        intro l hl
        have := M.len
        have := S.len
        rw [swp_getD _ _ _ _ _ (by omega) (by omega)]
        split
        · exact hv i hin
        · split
          · exact hv k hlt
          · exact hv l hl
      have hne1 := R.ne
      rw [hPk] at g5' hne1
      generalize swr rho k i = rho' at R' S' g5' hne1
      generalize swp .nilS vs k i = vs' at M3 hv'
      generalize swp [] rss k i = rss' at M3 S'
      have hB' := R'.bound hB
      have hst := Step_calls p k vs' rss' (P rho' k) false n H3 M3 (by rw [S'.len]; exact hlt) (fun i hi => S'.wid i (by rw [S'.len] at hi; exact hi)) hlt (by rw [S'.len]; omega) (by omega) (In_300 (P_small hB' (by omega))) hne1 (fun i j h1 h2 h3 h4 => S'.fits h8 hlt hne1 hB' i j h1 h2 h3 h4)
      rw [S'.len] at hst
      have l5' := hget_lt g5'
      have l2' := hget_lt g2'
      repeat' first
        | (with_reducible first | refine AWp_seq_k (fun K hK => ?_) | refine AWp_skip ?_ | refine AWp_regionE ?_ | refine AWp_condI ?_)
        | (simp only [thenA, inBlockA, reduceIte, Nat.reduceEqDiff])
        | ((with_reducible refine hK _ _ ?_); clear hK)
        | (simp only [ACond, RA, EAtS_def, EAtX_def, wantedA, acall, astep, ev, ofValue, ofAtom, Nat.reduceEqDiff, Nat.reduceAdd, Nat.reduceMul, Nat.reduceSub, reduceCtorEq, reduceIte, aoptEv, abin, aint, ashift, aun, astr, aeqGuard, isConstOp, aconvH, aofStr, aconvSame, isU8, abuildSlice, afill, splice, azeros, Nat.reduceLeDiff, Nat.reduceLT, Int.reduceLE, Int.reduceLT, Int.reduceEq, Int.reduceToNat, Int.reducePow, IntKind.bits, Int.reduceNeg, RB, aalloc, Go.PW.dig_length, tf10MaH, k2, k3, k4, k5, k6, k20, k21, g5'])
        | (simp (disch := (first | omega | (simp only [RO]; done) | assumption | (simp only [RM, Go.PW.dig_length]; done) | (simp only [RL, Go.PW.dig_length]; omega))) only [RD, reduceCtorEq, reduceIte, Go.PW.dig_length, Nat.reduceLeDiff, Nat.reduceAdd, Nat.reduceMul, Int.reduceToNat, tf10MaH, k2, k3, k4, k5, k6, k20, k21, g5'])
      refine ECall_intro hst ?_
      rintro r H4 ⟨rfl, M4, O4⟩
      have x4 : Ext H H4 := Off.toExt x3 O4 (fun h ⟨i, hi, e⟩ => by have := (hv' i hi).1; omega)
      have g5'' : hget H4 H1.length = some (Wb (P rho' k)) := by rw [O4.2 _ l5' (fun ⟨i, hi, e⟩ => by have := (hv' i hi).2; omega)]; exact g5'
      have g2'' : hget H4 (H.length + 1) = some (Wb 0) := by rw [O4.2 _ l2' (fun ⟨i, hi, e⟩ => by have := (hv' i hi).1; omega)]; exact g2'
      have l5'' := hget_lt g5''
      have S4 := S'.step hlt hne1
      have hl4 : k < (stepM rss' k (P rho' k) false).length := by rw [S4.len]; exact hlt
      have hrk : (stepM rss' k (P rho' k) false).getD k [] = rss'.getD k [] := by unfold stepM; rw [stepTo_getD _ _ _ _ _ _ (by rw [S'.len]; exact hlt), if_neg (fun h => h.2.1 rfl)]
      have b1 := M4.at0 hl4
      have b2 := M4.idx hl4 (k := .i64) (j := (k : Int)) (by omega) (by rw [S4.wid k hlt]; omega)
      have b3 := M4.get hl4 (j := k) (by rw [S4.wid k hlt]; exact hlt)
      rw [Int.toNat_natCast] at b2
      rw [hrk, S'.get k k (Nat.le_refl _) hlt hlt, ← P_succ (rho := rho')] at b3
      repeat' first
        | (with_reducible first | refine AWp_regionE ?_)
        | (simp only [thenA, inBlockA, reduceIte, Nat.reduceEqDiff])
        | ((with_reducible refine hK _ _ ?_); clear hK)
        | (simp only [ACond, RA, EAtS_def, EAtX_def, wantedA, acall, astep, ev, ofValue, ofAtom, Nat.reduceEqDiff, Nat.reduceAdd, Nat.reduceMul, Nat.reduceSub, reduceCtorEq, reduceIte, aoptEv, abin, aint, ashift, aun, astr, aeqGuard, isConstOp, aconvH, aofStr, aconvSame, isU8, abuildSlice, afill, splice, azeros, Nat.reduceLeDiff, Nat.reduceLT, Int.reduceLE, Int.reduceLT, Int.reduceEq, Int.reduceToNat, Int.reducePow, IntKind.bits, Int.reduceNeg, RB, aalloc, Go.PW.dig_length, tf10MaH, k2, k3, k4, k5, k6, k20, k21, b1, b2, b3, g5'', e1])
        | (simp (disch := first | omega | (simp only [RO]; done) | assumption) only [RS, six22, gix22, six48, gix48, six58, gix58, idx35, slh35, idx36, slh36, bst25_e, bst25_0, bst25_01])
        | (simp (disch := (first | omega | (simp only [RO]; done) | assumption | (simp only [RM, Go.PW.dig_length]; done) | (simp only [RL, Go.PW.dig_length]; omega))) only [RD, reduceCtorEq, reduceIte, Go.PW.dig_length, Nat.reduceLeDiff, Nat.reduceAdd, Nat.reduceMul, Int.reduceToNat, tf10MaH, k2, k3, k4, k5, k6, k20, k21, b1, b2, b3, g5'', e1])
      refine ⟨_, by omega, k + 1, rho', _, vs', _, rfl, by omega, rfl, rfl, R', S4, M4.other l5'' _ ?_ (fun i hi => ?_), hv', ?_, ?_, x4.set (by have := x2.len; omega) _⟩
      · have := hpq; omega
      · rw [S4.len] at hi; have := (hv' i hi).2; omega
      · rw [hget_set l5'', if_pos rfl]
      · rw [hget_set l5'', if_neg (by omega)]; exact g2''
    · have x3 : Ext H H3 := Off.toExt x2 O3 (fun h e => by omega)
      have g2' : hget H3 (H.length + 1) = some (Wb 0) := by rw [O3.2 _ l2 (by omega)]; exact g2
      have hP := R.stuck hlt (fun l h1 h2 => by rw [← S.get l k h1 h2 hlt]; exact hz l h1 h2)
      repeat' first
        | (with_reducible first | refine AWp_seq_k (fun K hK => ?_) | refine AWp_ret ?_ | refine AWp_regionE ?_ | refine AWp_condI ?_)
        | (simp only [thenA, inBlockA, reduceIte, Nat.reduceEqDiff])
        | ((with_reducible refine hK _ _ ?_); clear hK)
        | (simp only [ACond, RA, EAtS_def, EAtX_def, wantedA, acall, astep, ev, ofValue, ofAtom, Nat.reduceEqDiff, Nat.reduceAdd, Nat.reduceMul, Nat.reduceSub, reduceCtorEq, reduceIte, aoptEv, abin, aint, ashift, aun, astr, aeqGuard, isConstOp, aconvH, aofStr, aconvSame, isU8, abuildSlice, afill, splice, azeros, Nat.reduceLeDiff, Nat.reduceLT, Int.reduceLE, Int.reduceLT, Int.reduceEq, Int.reduceToNat, Int.reducePow, IntKind.bits, Int.reduceNeg, RB, aalloc, Go.PW.dig_length, tf10MaH, k2, k3, k4, k5, k6, k20, k21, g2'])
        | (simp (disch := (first | omega | (simp only [RO]; done) | assumption | (simp only [RM, Go.PW.dig_length]; done) | (simp only [RL, Go.PW.dig_length]; omega))) only [RD, reduceCtorEq, reduceIte, Go.PW.dig_length, Nat.reduceLeDiff, Nat.reduceAdd, Nat.reduceMul, Int.reduceToNat, tf10MaH, k2, k3, k4, k5, k6, k20, k21, g2'])
      have l2' := hget_lt g2'
      (
       (refine AEnd_gen (rs := [.cell 2 36, .tmp 3]) rfl ?_)
       (simp only [AEndR, aresults, Fr.put_some, Fr.put_none, fr0_zero, fr0_succ, fr0_nil, Nat.reduceEqDiff, reduceIte, k2, hget_set l2'])
       (try simp (disch := (first | omega | (simp only [RO]; done) | assumption | (simp only [RM, Go.PW.dig_length]; done) | (simp only [RL, Go.PW.dig_length]; omega))) only [RD, reduceCtorEq, reduceIte, Go.PW.dig_length, Nat.reduceLeDiff, Nat.reduceAdd, Nat.reduceMul, Int.reduceToNat, tf10MaH, k2, hget_set l2']))
      exact ⟨x3.set (by omega) _, W_tup_lt _ _ (v := .nilI) trivial, by rw [hP]⟩
  · obtain rfl : n = k := by omega
    have hdet := R.det
    cases mn
    · skip
      repeat' first
        | (with_reducible first | refine AWp_seq_k (fun K hK => ?_) | refine AWp_skip ?_ | refine AWp_exit ?_ | refine AWp_ret ?_ | refine AWp_regionE ?_ | refine AWp_condI ?_)
        | (with_reducible refine AIte (fun hc => ?_) (fun hc => ?_) <;> (try simp only [RC] at hc) <;> (try (exfalso; first | omega | contradiction)))
        | (simp only [thenA, inBlockA, reduceIte, Nat.reduceEqDiff])
        | ((with_reducible refine hK _ _ ?_); clear hK)
        | (clear hK; (with_reducible refine hK _ _ ?_); clear hK)
        | (simp only [ACond, RA, EAtS_def, EAtX_def, wantedA, acall, astep, ev, ofValue, ofAtom, Nat.reduceEqDiff, Nat.reduceAdd, Nat.reduceMul, Nat.reduceSub, reduceCtorEq, reduceIte, aoptEv, abin, aint, ashift, aun, astr, aeqGuard, isConstOp, aconvH, aofStr, aconvSame, isU8, abuildSlice, afill, splice, azeros, Nat.reduceLeDiff, Nat.reduceLT, Int.reduceLE, Int.reduceLT, Int.reduceEq, Int.reduceToNat, Int.reducePow, IntKind.bits, Int.reduceNeg, RB, aalloc, Go.PW.dig_length, tf10MaH, k2, k3, k4, k5, k6, k20, k21, g2, g5])
        | (simp (disch := (first | omega | (simp only [RO]; done) | assumption | (simp only [RM, Go.PW.dig_length]; done) | (simp only [RL, Go.PW.dig_length]; omega))) only [RD, reduceCtorEq, reduceIte, Go.PW.dig_length, Nat.reduceLeDiff, Nat.reduceAdd, Nat.reduceMul, Int.reduceToNat, tf10MaH, k2, k3, k4, k5, k6, k20, k21, g2, g5])
      (
       (refine AEnd_gen (rs := [.cell 2 36, .tmp 3]) rfl ?_)
       (simp only [AEndR, aresults, Fr.put_some, Fr.put_none, fr0_zero, fr0_succ, fr0_nil, Nat.reduceEqDiff, reduceIte, k2, hget_set l2])
       (try simp (disch := (first | omega | (simp only [RO]; done) | assumption | (simp only [RM, Go.PW.dig_length]; done) | (simp only [RL, Go.PW.dig_length]; omega))) only [RD, reduceCtorEq, reduceIte, Go.PW.dig_length, Nat.reduceLeDiff, Nat.reduceAdd, Nat.reduceMul, Int.reduceToNat, tf10MaH, k2, hget_set l2]))
      exact ⟨x2.set (by omega) _, W_tup_lt _ _ (v := .nilI) trivial, by rw [hdet]; rfl⟩
    · have hne := fun H0 => neg_calls (P rho n) H0
      have hq2 : (H.length + 1 = H1.length) = False := eq_false (by omega)
      have l2n : H.length + 1 < (H2.set H1.length (Wb (- P rho n))).length := by rw [List.length_set]; exact l2
      repeat' first
        | (with_reducible first | refine AWp_seq_k (fun K hK => ?_) | refine AWp_exit ?_ | refine AWp_ret ?_ | refine AWp_regionE ?_ | refine AWp_condI ?_)
        | ((with_reducible refine ECall_intro (hne _) ?_); rintro _ _ ⟨rfl, rfl⟩)
        | (with_reducible refine AIte (fun hc => ?_) (fun hc => ?_) <;> (try simp only [RC] at hc) <;> (try (exfalso; first | omega | contradiction)))
        | (simp only [thenA, inBlockA, reduceIte, Nat.reduceEqDiff])
        | ((with_reducible refine hK _ _ ?_); clear hK)
        | (clear hK; (with_reducible refine hK _ _ ?_); clear hK)
        | (simp only [ACond, RA, EAtS_def, EAtX_def, wantedA, acall, astep, ev, ofValue, ofAtom, Nat.reduceEqDiff, Nat.reduceAdd, Nat.reduceMul, Nat.reduceSub, reduceCtorEq, reduceIte, aoptEv, abin, aint, ashift, aun, astr, aeqGuard, isConstOp, aconvH, aofStr, aconvSame, isU8, abuildSlice, afill, splice, azeros, Nat.reduceLeDiff, Nat.reduceLT, Int.reduceLE, Int.reduceLT, Int.reduceEq, Int.reduceToNat, Int.reducePow, IntKind.bits, Int.reduceNeg, RB, aalloc, Go.PW.dig_length, tf10MaH, k2, k3, k4, k5, k6, k20, k21, g2, g5, hget_set l5, hq2])
        | (simp (disch := (first | omega | (simp only [RO]; done) | assumption | (simp only [RM, Go.PW.dig_length]; done) | (simp only [RL, Go.PW.dig_length]; omega))) only [RD, reduceCtorEq, reduceIte, Go.PW.dig_length, Nat.reduceLeDiff, Nat.reduceAdd, Nat.reduceMul, Int.reduceToNat, tf10MaH, k2, k3, k4, k5, k6, k20, k21, g2, g5, hget_set l5, hq2])
      all_goals
        (
         (refine AEnd_gen (rs := [.cell 2 36, .tmp 3]) rfl ?_)
         (simp only [AEndR, aresults, Fr.put_some, Fr.put_none, fr0_zero, fr0_succ, fr0_nil, Nat.reduceEqDiff, reduceIte, k2, hget_set l2n])
         (try simp (disch := (first | omega | (simp only [RO]; done) | assumption | (simp only [RM, Go.PW.dig_length]; done) | (simp only [RL, Go.PW.dig_length]; omega))) only [RD, reduceCtorEq, reduceIte, Go.PW.dig_length, Nat.reduceLeDiff, Nat.reduceAdd, Nat.reduceMul, Int.reduceToNat, tf10MaH, k2, hget_set l2n]))
      all_goals exact ⟨(x2.set (by omega) _).set (by omega) _, W_tup_lt _ _ (v := .nilI) trivial, by rw [hdet, if_pos rfl, Int.neg_neg]⟩
end Go.Proofs.YtfalfmfkifemeaaDoor

/- Part 19 of the proof of the law BoundLine of this seat: lemmas on the model's code, on this program's functions, on numbers. No condition. -/
import Derived.Test.YtfalfmfkifemeaaGreatDoorZBoundLinear
set_option linter.unusedVariables false
set_option linter.unusedSimpArgs false
namespace Go.Proofs.YtfalfmfkifemeaaGreatDoor
open Go.AL Go.PW
theorem tf45MaE : type_of% (And.intro @tyb2 (And.intro @tyb3 (And.intro @tyb22 (And.intro @tyb23 (And.intro @tyb24 (And.intro @tyb31 (And.intro @tyb32 (And.intro @tyb33 (And.intro @tyb38 (@tyb79)))))))))) := And.intro @tyb2 (And.intro @tyb3 (And.intro @tyb22 (And.intro @tyb23 (And.intro @tyb24 (And.intro @tyb31 (And.intro @tyb32 (And.intro @tyb33 (And.intro @tyb38 (@tyb79)))))))))
abbrev pn45_10MaE : Plan := (.one 0 (.one 1 (.one 2 (.one 4 (.one 5 (.pur 6 (.one 3 (.one 7 (.one 8 .nil)))))))))
set_option maxRecDepth 8000
theorem outer_put {H : Hp} {p : Nat} {vs : List AV} {t : Nat} {x : AV} (hg : hget H p = some ⟨vs, .own, 38⟩) (ht : t < vs.length) (hx : x.one = true) : astore Tryz.prog H 38 (.ptr p t) x = some (H.set p ⟨vs.set t x, .own, 38⟩) := by
  rw [astore_ptr, hg]
  simp only [size38]
  rw [if_pos ⟨trivial, AV.solid_one hx, by rw [AV.cells_one hx]; rfl, ht⟩, AV.cells_one hx]
  have := splice_set (fun v : AV => v) vs x ht
  rw [List.map_id', List.map_id'] at this
  rw [this]
theorem ent_fit {n : Nat} {xs : List Int} (hr : Right n xs) {i j : Nat} (hi : i < n) (hj : j < n) : Fit (ent n xs i j) := hr.2 _ (getD_mem (hr.pl hi hj).2)
/-- Fresh rows of a matrix. -/
def Fresh (H0 : Hp) (p : Nat) (vs : List AV) (n : Nat) : Prop := H0.length ≤ p ∧ ∀ i, i < n → H0.length ≤ (vs.getD i .nilS).hd
set_option maxHeartbeats 4000000 in
theorem Rows_calls (n : Nat) (xs : List Int) (a : AV) (H : Hp) (ha : Ints H .i64 a xs) (hr : Right n xs) : ACalls Tryz.prog 45 [SymA n a] H fun r H' => ∃ p vs, r = .sl p 0 n n ∧ Mat H' p vs (rowsOf n xs) ∧ Ext H H' ∧ Fresh H p vs n := by
  have ha1 : a.one = true := ha.rd.one
  have hc : a.cells = [a] := AV.cells_one ha1
  obtain ⟨k, hk, h8, _⟩ := hr.nat
  obtain rfl : n = k := by omega
  have mo := fun H => make_outer H n .i64 (by omega)
  have mr := fun H => make_row H n .i64 (by omega)
  refine ACalls_body Tryz.func45 rfl (by kernel_rfl) (by kernel_rfl) ?_
  repeat' first
    | (with_reducible first | refine AWp_seq_k (fun K hK => ?_) | refine AWp_block ?_ | refine AWp_regionE ?_)
    | (simp only [thenA, inBlockA, reduceIte, Nat.reduceEqDiff])
    | ((with_reducible refine hK _ _ ?_); clear hK)
    | (simp only [ACond, RA, EAtS_def, EAtX_def, wantedA, acall, astep, ev, ofValue, ofAtom, Nat.reduceEqDiff, Nat.reduceAdd, Nat.reduceMul, Nat.reduceSub, reduceCtorEq, reduceIte, aoptEv, abin, aint, ashift, aun, astr, aeqGuard, isConstOp, aconvH, aofStr, aconvSame, isU8, abuildSlice, afill, splice, azeros, Nat.reduceLeDiff, Nat.reduceLT, Int.reduceLE, Int.reduceLT, Int.reduceEq, Int.reduceToNat, Int.reducePow, IntKind.bits, Int.reduceNeg, RB, aalloc, Go.PW.dig_length, tf45MaE, mo])
    | (simp (disch := first | omega | (simp only [RO]; done) | assumption) only [RS, six22, gix22, six38, gix38, six79, gix79, idx32, slh32, idx33, slh33, bst24_e, bst24_0, bst24_01])
    | (simp (disch := (first | omega | (simp only [RO]; done) | assumption | (simp only [RM, Go.PW.dig_length]; done) | (simp only [RL, Go.PW.dig_length]; omega))) only [RD, reduceCtorEq, reduceIte, Go.PW.dig_length, Nat.reduceLeDiff, Nat.reduceAdd, Nat.reduceMul, Int.reduceToNat, tf45MaE, mo])
  obtain ⟨p, hp⟩ : ∃ p, p = H.length + 1 := ⟨_, rfl⟩
  rw [← hp]
  refine AWp_loop (fun m fr' H1 => ∃ (t : Nat) (vs : List AV) (rss : List (List Int)), m = n - t ∧ t ≤ n ∧ fr' 1 = .ptr H.length 0 ∧ fr' 3 = .sl p 0 n n ∧ fr' 12 = .int .i64 (n : Int) ∧ fr' 13 = .int .i64 (t : Int) ∧
      Mat H1 p vs rss ∧ vs.length = n ∧ rss.length = t ∧ (∀ i, i < t → rss.getD i [] = (List.range n).map fun j => ent n xs i j) ∧ (∀ i, i < t → H.length ≤ (vs.getD i .nilS).hd) ∧ Ext H H1 ∧ hget H1 H.length = some ⟨[.int .i64 (n : Int), a], .own, 24⟩) (m := n)
    ⟨0, List.replicate n .nilS, [], by omega, by omega, rfl, rfl, rfl, rfl, ⟨by simp, by rw [hp]; exact hget_at (by simp), fun i hi => by simp at hi, fun i j hi => by simp at hi, fun i hi => by simp at hi⟩, by simp, rfl, fun i hi => by omega, fun i hi => by omega, (Ext.push _ _).pushed _, by rw [hget_old (by simp), hget_at rfl]⟩ ?_
  rintro m fr' H1 ⟨t, vs, rss, rfl, ht, k1, k3, k12, k13, M, hvl, hrl, hrow, hfr, x1, g1⟩
  have e1 : IntKind.i64.wrap ((t : Int) + 1) = ((t + 1 : Nat) : Int) := by rw [wrap_i64_id (by omega) (by omega)]; omega
  have l1 := hget_lt g1
  by_cases hlt : t < n
  · obtain ⟨hh, hhe⟩ : ∃ hh, hh = H1.length := ⟨_, rfl⟩
    have lp := hget_lt M.out
    have op := outer_put (H := H1 ++ [Rb (List.replicate n 0)]) (p := p) (vs := vs) (t := t) (x := .sl hh 0 n n) (by rw [hget_old lp]; exact M.out) (by omega) rfl
    have MS := M.snoc (by omega) (List.replicate n 0)
    rw [hrl, List.length_replicate, ← hhe, List.set_append_left _ _ lp] at MS
    refine AWp_seq_k (fun K hQ => ?_)
    repeat' first
      | (with_reducible first | refine AWp_skip ?_ | refine AWp_regionE ?_ | refine AWp_condI ?_)
      | (with_reducible refine AIte (fun hc => ?_) (fun hc => ?_) <;> (try simp only [RC] at hc) <;> (try (exfalso; first | omega | contradiction)))
      | (simp only [thenA, inBlockA, reduceIte, Nat.reduceEqDiff])
      | (simp only [ACond, RA, EAtS_def, EAtX_def, wantedA, acall, astep, ev, ofValue, ofAtom, Nat.reduceEqDiff, Nat.reduceAdd, Nat.reduceMul, Nat.reduceSub, reduceCtorEq, reduceIte, aoptEv, abin, aint, ashift, aun, astr, aeqGuard, isConstOp, aconvH, aofStr, aconvSame, isU8, abuildSlice, afill, splice, azeros, Nat.reduceLeDiff, Nat.reduceLT, Int.reduceLE, Int.reduceLT, Int.reduceEq, Int.reduceToNat, Int.reducePow, IntKind.bits, Int.reduceNeg, RB, aalloc, Go.PW.dig_length, tf45MaE, k1, k3, k12, k13])
    refine hQ _ _ ?_
    clear hQ
    refine AWp_seq_k (fun K hQ => ?_)
    repeat' first
      | (with_reducible first | refine AWp_skip ?_ | refine AWp_regionE ?_ | refine AWp_condI ?_)
      | (with_reducible refine AIte (fun hc => ?_) (fun hc => ?_) <;> (try simp only [RC] at hc) <;> (try (exfalso; first | omega | contradiction)))
      | (simp only [thenA, inBlockA, reduceIte, Nat.reduceEqDiff])
      | (simp only [ACond, RA, EAtS_def, EAtX_def, wantedA, acall, astep, ev, ofValue, ofAtom, Nat.reduceEqDiff, Nat.reduceAdd, Nat.reduceMul, Nat.reduceSub, reduceCtorEq, reduceIte, aoptEv, abin, aint, ashift, aun, astr, aeqGuard, isConstOp, aconvH, aofStr, aconvSame, isU8, abuildSlice, afill, splice, azeros, Nat.reduceLeDiff, Nat.reduceLT, Int.reduceLE, Int.reduceLT, Int.reduceEq, Int.reduceToNat, Int.reducePow, IntKind.bits, Int.reduceNeg, RB, aalloc, Go.PW.dig_length, tf45MaE, k1, k3, k12, k13])
    refine hQ _ _ ?_
    clear hQ
    refine AWp_seq_k (fun K3 hK3 => ?_)
    refine AWp_block ?_
    refine AWp_seq_k (fun K hQ => ?_)
    repeat' first
      | (with_reducible first | refine AWp_regionE ?_)
      | (simp only [thenA, inBlockA, reduceIte, Nat.reduceEqDiff])
      | (simp only [ACond, RA, EAtS_def, EAtX_def, wantedA, acall, astep, ev, ofValue, ofAtom, Nat.reduceEqDiff, Nat.reduceAdd, Nat.reduceMul, Nat.reduceSub, reduceCtorEq, reduceIte, aoptEv, abin, aint, ashift, aun, astr, aeqGuard, isConstOp, aconvH, aofStr, aconvSame, isU8, abuildSlice, afill, splice, azeros, Nat.reduceLeDiff, Nat.reduceLT, Int.reduceLE, Int.reduceLT, Int.reduceEq, Int.reduceToNat, Int.reducePow, IntKind.bits, Int.reduceNeg, RB, aalloc, Go.PW.dig_length, tf45MaE, k1, k3, k12, k13, g1, mr, ← hhe, op])
      | (simp (disch := first | omega | (simp only [RO]; done) | assumption) only [RS, six22, gix22, six38, gix38, six79, gix79, idx32, slh32, idx33, slh33, bst24_e, bst24_0, bst24_01])
      | (simp (disch := (first | omega | (simp only [RO]; done) | assumption | (simp only [RM, Go.PW.dig_length]; done) | (simp only [RL, Go.PW.dig_length]; omega))) only [RD, reduceCtorEq, reduceIte, Go.PW.dig_length, Nat.reduceLeDiff, Nat.reduceAdd, Nat.reduceMul, Int.reduceToNat, tf45MaE, k1, k3, k12, k13, g1, mr, ← hhe, op])
    refine hQ _ _ ?_
    clear hQ
    refine AWp_seq_k (fun K hQ => ?_)
    repeat' first
      | (with_reducible first | refine AWp_regionE ?_)
      | (simp only [thenA, inBlockA, reduceIte, Nat.reduceEqDiff])
      | (simp only [ACond, RA, EAtS_def, EAtX_def, wantedA, acall, astep, ev, ofValue, ofAtom, Nat.reduceEqDiff, Nat.reduceAdd, Nat.reduceMul, Nat.reduceSub, reduceCtorEq, reduceIte, aoptEv, abin, aint, ashift, aun, astr, aeqGuard, isConstOp, aconvH, aofStr, aconvSame, isU8, abuildSlice, afill, splice, azeros, Nat.reduceLeDiff, Nat.reduceLT, Int.reduceLE, Int.reduceLT, Int.reduceEq, Int.reduceToNat, Int.reducePow, IntKind.bits, Int.reduceNeg, RB, aalloc, Go.PW.dig_length, tf45MaE, k1, k3, k12, k13, g1, mr, ← hhe, op])
      | (simp (disch := first | omega | (simp only [RO]; done) | assumption) only [RS, six22, gix22, six38, gix38, six79, gix79, idx32, slh32, idx33, slh33, bst24_e, bst24_0, bst24_01])
      | (simp (disch := (first | omega | (simp only [RO]; done) | assumption | (simp only [RM, Go.PW.dig_length]; done) | (simp only [RL, Go.PW.dig_length]; omega))) only [RD, reduceCtorEq, reduceIte, Go.PW.dig_length, Nat.reduceLeDiff, Nat.reduceAdd, Nat.reduceMul, Int.reduceToNat, tf45MaE, k1, k3, k12, k13, g1, mr, ← hhe, op])
    refine hQ _ _ ?_
    clear hQ
    have hv2 : (vs.set t (AV.sl hh 0 n n)).getD t .nilS = .sl hh 0 n n := by rw [set_getD _ _ _ _ _ (by omega), if_pos rfl]
    have hr2 : ∀ rr : List Int, (rss ++ [rr]).getD t [] = rr := fun rr => by rw [← hrl]; simp [List.getD]
    have hs2 : ∀ rr : List Int, (rss ++ [rr]).set t (rr : List Int) = rss ++ [rr] := fun rr => by rw [← hrl]; simp
    have hl2 : ∀ rr : List Int, t < (rss ++ [rr]).length := fun rr => by simp; omega
    have m1 := MS.at0 (hl2 _)
    have m2 := MS.rlen (hl2 _)
    rw [hv2] at m1 m2
    rw [hr2, List.length_replicate] at m2
    have lhh : H.length < hh := by omega
    have php : p ≠ H.length := by omega
    repeat' first
      | (with_reducible first | refine AWp_seq_k (fun K hK => ?_) | refine AWp_block ?_ | refine AWp_regionE ?_)
      | (simp only [thenA, inBlockA, reduceIte, Nat.reduceEqDiff])
      | ((with_reducible refine hK _ _ ?_); clear hK)
      | (simp only [ACond, RA, EAtS_def, EAtX_def, wantedA, acall, astep, ev, ofValue, ofAtom, Nat.reduceEqDiff, Nat.reduceAdd, Nat.reduceMul, Nat.reduceSub, reduceCtorEq, reduceIte, aoptEv, abin, aint, ashift, aun, astr, aeqGuard, isConstOp, aconvH, aofStr, aconvSame, isU8, abuildSlice, afill, splice, azeros, Nat.reduceLeDiff, Nat.reduceLT, Int.reduceLE, Int.reduceLT, Int.reduceEq, Int.reduceToNat, Int.reducePow, IntKind.bits, Int.reduceNeg, RB, aalloc, Go.PW.dig_length, tf45MaE, k1, k3, k12, k13, m1, m2])
      | (simp (disch := first | omega | (simp only [RO]; done) | assumption) only [RS, six22, gix22, six38, gix38, six79, gix79, idx32, slh32, idx33, slh33, bst24_e, bst24_0, bst24_01])
    refine AWp_loop (fun m fr' H2 => ∃ (j : Nat) (rr : List Int), m = n - j ∧ j ≤ n ∧ fr' 1 = .ptr H.length 0 ∧ fr' 3 = .sl p 0 n n ∧ fr' 4 = .int .i64 (t : Int) ∧ fr' 12 = .int .i64 (n : Int) ∧ fr' 13 = .int .i64 (t : Int) ∧ fr' 26 = .int .i64 (n : Int) ∧ fr' 27 = .int .i64 (j : Int) ∧
        Mat H2 p (vs.set t (.sl hh 0 n n)) (rss ++ [rr]) ∧ rr.length = n ∧ (∀ b, b < n → rr.getD b 0 = if b < j then ent n xs t b else 0) ∧ Ext H H2 ∧ hget H2 H.length = some ⟨[.int .i64 (n : Int), a], .own, 24⟩) (m := n)
      ⟨0, List.replicate n 0, by omega, by omega, k1, k3, rfl, k12, k13, rfl, rfl, MS, by simp, fun b hb => by rw [if_neg (by omega)]; simp [List.getD, hb], (x1.set (by omega) _).pushed _, by rw [hget_old (by rw [List.length_set]; exact l1), hget_set lp, if_neg (by omega)]; exact g1⟩ ?_
    rintro m fr' H2 ⟨j, rr, rfl, hj, k1, k3, k4, k12, k13, k26, k27, M2, hrl2, hrr, x2, g2⟩
    have e2 : IntKind.i64.wrap ((j : Int) + 1) = ((j + 1 : Nat) : Int) := by rw [wrap_i64_id (by omega) (by omega)]; omega
    by_cases hjn : j < n
    · have hat := At_calls n xs a t j H2 (ha.ext x2) hr hlt hjn
      have hof := fun H0 => of_calls (ent n xs t j) H0 (by have := ent_fit hr hlt hjn; unfold Fit at this; omega)
      have b1 := M2.at0 (hl2 _)
      have b3 := M2.idx (hl2 _) (k := .i64) (j := (j : Int)) (by omega) (by rw [hr2]; omega)
      have d1 := M2.put (x := ent n xs t j) (hl2 _) (j := j) (by rw [hr2]; omega)
      rw [hv2] at b1 b3 d1
      rw [hr2] at d1
      rw [Int.toNat_natCast] at b3
      have hdd : (AV.sl hh 0 n n).hd = hh := rfl
      rw [hdd] at b3 d1
      have lh2 : hh < H2.length := by have := hget_lt (M2.row t (hl2 _)).2; rw [hv2] at this; exact this
      have M3 := M2.set (hl2 _) (rs := rr.set j (ent n xs t j)) (by rw [hr2, List.length_set])
      rw [hv2, hdd] at M3
      have hs3 : (rss ++ [rr]).set t (rr.set j (ent n xs t j)) = rss ++ [rr.set j (ent n xs t j)] := by rw [← hrl]; simp
      rw [hs3] at M3
      repeat' first
        | (with_reducible first | refine AWp_seq_k (fun K hK => ?_) | refine AWp_block ?_ | refine AWp_skip ?_ | refine AWp_regionE ?_ | refine AWp_drawE (id := 10) [] pn45_10MaE (by kernel_rfl) (by kernel_rfl) ?_ | refine AWp_condI ?_ | refine Run_pur ?_)
        | (with_reducible refine EPure_intro (fun _ x => (hof _)) ?_)
        | ((with_reducible refine ECall_intro (hat) ?_); rintro _ _ ⟨rfl, rfl⟩)
        | (with_reducible refine AIte (fun hc => ?_) (fun hc => ?_) <;> (try simp only [RC] at hc) <;> (try (exfalso; first | omega | contradiction)))
        | (simp only [thenA, inBlockA, reduceIte, Nat.reduceEqDiff])
        | ((with_reducible refine hK _ _ ?_); clear hK)
        | (simp only [ACond, RA, EAtS_def, EAtX_def, wantedA, acall, astep, ev, ofValue, ofAtom, Nat.reduceEqDiff, Nat.reduceAdd, Nat.reduceMul, Nat.reduceSub, reduceCtorEq, reduceIte, aoptEv, abin, aint, ashift, aun, astr, aeqGuard, isConstOp, aconvH, aofStr, aconvSame, isU8, abuildSlice, afill, splice, azeros, Nat.reduceLeDiff, Nat.reduceLT, Int.reduceLE, Int.reduceLT, Int.reduceEq, Int.reduceToNat, Int.reducePow, IntKind.bits, Int.reduceNeg, RB, aalloc, Go.PW.dig_length, tf45MaE, k1, k3, k4, k12, k13, k26, k27, e2, g2, b1, b3, d1])
        | (simp (disch := first | omega | (simp only [RO]; done) | assumption) only [RS, six22, gix22, six38, gix38, six79, gix79, idx32, slh32, idx33, slh33, bst24_e, bst24_0, bst24_01])
        | (simp (disch := (first | omega | (simp only [RO]; done) | assumption | (simp only [RM, Go.PW.dig_length]; done) | (simp only [RL, Go.PW.dig_length]; omega))) only [RD, reduceCtorEq, reduceIte, Go.PW.dig_length, Nat.reduceLeDiff, Nat.reduceAdd, Nat.reduceMul, Int.reduceToNat, tf45MaE, k1, k3, k4, k12, k13, k26, k27, e2, g2, b1, b3, d1])
      all_goals
        refine ⟨_, by omega, j + 1, rr.set j (ent n xs t j), rfl, by omega, rfl, M3, by rw [List.length_set]; exact hrl2, fun b hb => ?_, x2.set (by omega) _, by rw [hget_set lh2, if_neg (by omega)]; exact g2⟩
        rw [getD_set _ _ (by omega)]
        by_cases hbj : b = j
        · rw [if_pos hbj, if_pos (by omega), hbj]
        · rw [if_neg hbj, hrr b hb]
          have : b < j ↔ b < j + 1 := by omega
          simp only [this]
    · obtain rfl : n = j := by omega
      repeat' first
        | (with_reducible first | refine AWp_seq_k (fun K hK => ?_) | refine AWp_exit ?_ | refine AWp_regionE ?_ | refine AWp_condI ?_)
        | (with_reducible refine AIte (fun hc => ?_) (fun hc => ?_) <;> (try simp only [RC] at hc) <;> (try (exfalso; first | omega | contradiction)))
        | (simp only [thenA, inBlockA, reduceIte, Nat.reduceEqDiff])
        | ((with_reducible refine hK _ _ ?_); clear hK)
        | (simp only [ACond, RA, EAtS_def, EAtX_def, wantedA, acall, astep, ev, ofValue, ofAtom, Nat.reduceEqDiff, Nat.reduceAdd, Nat.reduceMul, Nat.reduceSub, reduceCtorEq, reduceIte, aoptEv, abin, aint, ashift, aun, astr, aeqGuard, isConstOp, aconvH, aofStr, aconvSame, isU8, abuildSlice, afill, splice, azeros, Nat.reduceLeDiff, Nat.reduceLT, Int.reduceLE, Int.reduceLT, Int.reduceEq, Int.reduceToNat, Int.reducePow, IntKind.bits, Int.reduceNeg, RB, aalloc, Go.PW.dig_length, tf45MaE, k1, k3, k4, k12, k13, k26, k27])
      refine hK3 _ _ ?_
      repeat' first
        | (with_reducible first | refine AWp_regionE ?_)
        | (simp only [thenA, inBlockA, reduceIte, Nat.reduceEqDiff])
        | (simp only [ACond, RA, EAtS_def, EAtX_def, wantedA, acall, astep, ev, ofValue, ofAtom, Nat.reduceEqDiff, Nat.reduceAdd, Nat.reduceMul, Nat.reduceSub, reduceCtorEq, reduceIte, aoptEv, abin, aint, ashift, aun, astr, aeqGuard, isConstOp, aconvH, aofStr, aconvSame, isU8, abuildSlice, afill, splice, azeros, Nat.reduceLeDiff, Nat.reduceLT, Int.reduceLE, Int.reduceLT, Int.reduceEq, Int.reduceToNat, Int.reducePow, IntKind.bits, Int.reduceNeg, RB, aalloc, Go.PW.dig_length, tf45MaE, k1, k3, k4, k12, k13, e1])
      refine ⟨_, by omega, t + 1, _, _, rfl, by omega, rfl, M2, by rw [List.length_set]; exact hvl, by rw [List.length_append, hrl]; rfl, fun i hi => ?_, fun i hi => ?_, x2, g2⟩
      · by_cases e : i = t
        · rw [e, hr2]
          apply ext_getD 0
          · rw [hrl2]; simp
          · intro b hb
            rw [List.length_map, List.length_range] at hb
            rw [hrr b hb, if_pos hb]
            simp [List.getD, hb]
        · rw [← hrow i (by omega), List.getD_eq_getElem?_getD, List.getElem?_append_left (by omega), ← List.getD_eq_getElem?_getD]
      · rw [set_getD _ _ _ _ _ (by omega)]
        by_cases e : i = t
        · rw [if_pos e]; show H.length ≤ hh; omega
        · rw [if_neg e]; exact hfr i (by omega)
  · obtain rfl : t = n := by omega
    repeat' first
      | (with_reducible first | refine AWp_seq_k (fun K hK => ?_) | refine AWp_exit ?_ | refine AWp_ret ?_ | refine AWp_regionE ?_ | refine AWp_condI ?_)
      | (with_reducible refine AIte (fun hc => ?_) (fun hc => ?_) <;> (try simp only [RC] at hc) <;> (try (exfalso; first | omega | contradiction)))
      | (simp only [thenA, inBlockA, reduceIte, Nat.reduceEqDiff])
      | ((with_reducible refine hK _ _ ?_); clear hK)
      | (clear hK; (with_reducible refine hK _ _ ?_); clear hK)
      | (simp only [ACond, RA, EAtS_def, EAtX_def, wantedA, acall, astep, ev, ofValue, ofAtom, Nat.reduceEqDiff, Nat.reduceAdd, Nat.reduceMul, Nat.reduceSub, reduceCtorEq, reduceIte, aoptEv, abin, aint, ashift, aun, astr, aeqGuard, isConstOp, aconvH, aofStr, aconvSame, isU8, abuildSlice, afill, splice, azeros, Nat.reduceLeDiff, Nat.reduceLT, Int.reduceLE, Int.reduceLT, Int.reduceEq, Int.reduceToNat, Int.reducePow, IntKind.bits, Int.reduceNeg, RB, aalloc, Go.PW.dig_length, tf45MaE, k1, k3, k12, k13])
    (
     (refine AEnd_gen (rs := [.tmp 2]) rfl ?_)
     (simp only [AEndR, aresults, Fr.put_some, Fr.put_none, fr0_zero, fr0_succ, fr0_nil, Nat.reduceEqDiff, reduceIte, k3])
     (try simp (disch := (first | omega | (simp only [RO]; done) | assumption | (simp only [RM, Go.PW.dig_length]; done) | (simp only [RL, Go.PW.dig_length]; omega))) only [RD, reduceCtorEq, reduceIte, Go.PW.dig_length, Nat.reduceLeDiff, Nat.reduceAdd, Nat.reduceMul, Int.reduceToNat, tf45MaE, k3]))
    refine ⟨p, vs, rfl, ?_, x1, by omega, hfr⟩
    have : rss = rowsOf t xs := by
      apply ext_getD []
      · rw [rowsOf_length, hrl]
      · intro i hi
        rw [rowsOf_length] at hi
        rw [rowsOf_get _ _ _ hi, hrow i hi]
    rw [← this]; exact M
end Go.Proofs.YtfalfmfkifemeaaGreatDoor
set_option linter.unusedVariables false
set_option linter.unusedSimpArgs false
namespace Go.Proofs.YtfalfmfkifemeaaGreatDoor
open Go.AL Go.PW
set_option maxRecDepth 8000
/-- Two places change places. -/
def swp {α : Type} (d : α) (xs : List α) (k i : Nat) : List α := (xs.set i (xs.getD k d)).set k (xs.getD i d)
theorem swp_length {α : Type} (d : α) (xs : List α) (k i : Nat) : (swp d xs k i).length = xs.length := by simp [swp]
theorem swp_getD {α : Type} (d : α) (xs : List α) (k i j : Nat) (hk : k < xs.length) (hi : i < xs.length) : (swp d xs k i).getD j d = if j = k then xs.getD i d else if j = i then xs.getD k d else xs.getD j d := by
  unfold swp
  rw [set_getD _ _ _ _ _ (by rw [List.length_set]; exact hk), set_getD _ _ _ _ _ hi]
theorem Mat.swap {H : Hp} {p : Nat} {vs : List AV} {rss : List (List Int)} (M : Mat H p vs rss) {k i : Nat} (hk : k < rss.length) (hi : i < rss.length) :
    Mat (H.set p ⟨swp .nilS vs k i, .own, 38⟩) p (swp .nilS vs k i) (swp [] rss k i) := by
  have lp := hget_lt M.out
  have hl := M.len
  have gv := fun j => swp_getD (.nilS : AV) vs k i j (by omega) (by omega)
  have gr := fun j => swp_getD ([] : List Int) rss k i j hk hi
  have key : ∀ j, j < rss.length → ∃ l, l < rss.length ∧ (swp .nilS vs k i).getD j .nilS = vs.getD l .nilS ∧ (swp [] rss k i).getD j [] = rss.getD l [] ∧ l = (if j = k then i else if j = i then k else j) := by
    intro j hj
    rw [gv, gr]
    by_cases e1 : j = k
    · rw [if_pos e1, if_pos e1, if_pos e1]; exact ⟨i, hi, rfl, rfl, rfl⟩
    · rw [if_neg e1, if_neg e1, if_neg e1]
      by_cases e2 : j = i
      · rw [if_pos e2, if_pos e2, if_pos e2]; exact ⟨k, hk, rfl, rfl, rfl⟩
      · rw [if_neg e2, if_neg e2, if_neg e2]; exact ⟨j, hj, rfl, rfl, rfl⟩
  refine ⟨by rw [swp_length, swp_length]; exact hl, by rw [hget_set lp, if_pos rfl], fun j hj => ?_, fun a b ha hb hne => ?_, fun a ha => ?_⟩
  · rw [swp_length] at hj
    obtain ⟨l, hl', e1, e2, _⟩ := key j hj
    rw [e1, e2, hget_set lp, if_neg (M.off l hl')]
    exact M.row l hl'
  · rw [swp_length] at ha hb
    obtain ⟨l, hl', e1, _, w1⟩ := key a ha
    obtain ⟨l2, hl2', e2, _, w2⟩ := key b hb
    rw [e1, e2]
    refine M.apart l l2 hl' hl2' ?_
    rw [w1, w2]
    repeat' split
    all_goals omega
  · rw [swp_length] at ha
    obtain ⟨l, hl', e1, _, _⟩ := key a ha
    rw [e1]; exact M.off l hl'
end Go.Proofs.YtfalfmfkifemeaaGreatDoor
set_option linter.unusedVariables false
set_option linter.unusedSimpArgs false
namespace Go.Proofs.YtfalfmfkifemeaaGreatDoor
open Go.AL Go.PW Go.PD
set_option maxRecDepth 8000
theorem Mh_big : (2 : Int) ^ 1000 < Mh := by decide +kernel
theorem In_small {x : Int} (h : x.natAbs ≤ 2 ^ 1000) : In x := by
  have h1 := Mh_big
  have h2 : ((2 ^ 1000 : Nat) : Int) = (2 : Int) ^ 1000 := by decide +kernel
  generalize (2 ^ 1000 : Nat) = y at h h2
  rw [← h2] at h1
  unfold In
  omega
theorem fact_small : ∀ k : Fin 8, fact (k.1 + 1) * (18446744073709551616 : Nat) ^ (k.1 + 1) ≤ 2 ^ 530 := by decide +kernel
theorem fact_mid : ∀ k : Fin 7, fact (k.1 + 1) * (18446744073709551616 : Nat) ^ (k.1 + 1) ≤ 2 ^ 465 := by decide +kernel
theorem d_small {rho : Nat → Nat → Int} (hB : ∀ i j, (rho i j).natAbs ≤ 18446744073709551616) {k : Nat} (hk : k ≤ 7) (i j : Nat) : (d rho k i j).natAbs ≤ 2 ^ 530 :=
  Nat.le_trans (d_bound hB k i j) (fact_small ⟨k, by omega⟩)
theorem d_mid {rho : Nat → Nat → Int} (hB : ∀ i j, (rho i j).natAbs ≤ 18446744073709551616) {k : Nat} (hk : k ≤ 6) (i j : Nat) : (d rho k i j).natAbs ≤ 2 ^ 465 :=
  Nat.le_trans (d_bound hB k i j) (fact_mid ⟨k, by omega⟩)
theorem P_small {rho : Nat → Nat → Int} (hB : ∀ i j, (rho i j).natAbs ≤ 18446744073709551616) {k : Nat} (hk : k ≤ 8) : (P rho k).natAbs ≤ 2 ^ 530 := by
  cases k with
  | zero => rw [P_zero]; decide +kernel
  | succ k => rw [P_succ]; exact d_small hB (by omega) _ _
theorem In_300 {x : Int} (h : x.natAbs ≤ 2 ^ 530) : In x := In_small (Nat.le_trans h (by decide +kernel))
theorem mul_300 {x y : Int} (h : x.natAbs ≤ 2 ^ 465) (h' : y.natAbs ≤ 2 ^ 465) : (x * y).natAbs ≤ 2 ^ 930 := by
  rw [Int.natAbs_mul]
  exact Nat.le_trans (Nat.mul_le_mul h h') (by decide +kernel)
theorem In_600 {x : Int} (h : x.natAbs ≤ 2 ^ 930) : In x := In_small (Nat.le_trans h (by decide +kernel))
theorem In_601 {x y : Int} (h : x.natAbs ≤ 2 ^ 930) (h' : y.natAbs ≤ 2 ^ 930) : In (x - y) := In_small (by
  have h2 : 2 ^ 930 + 2 ^ 930 ≤ 2 ^ 1000 := by decide +kernel
  generalize (2 ^ 930 : Nat) = u at h h' h2
  generalize (2 ^ 1000 : Nat) = v at h2
  omega)
/-- Rows behind k steps, in the order rho. -/
structure St (n k : Nat) (rho : Nat → Nat → Int) (rss : List (List Int)) : Prop where
  len : rss.length = n
  wid : ∀ i, i < n → (rss.getD i []).length = n
  get : ∀ i j, k ≤ i → i < n → j < n → (rss.getD i []).getD j 0 = d rho k i j
theorem St.zero (n : Nat) (xs : List Int) : St n 0 (ent n xs) (rowsOf n xs) := by
  refine ⟨rowsOf_length n xs, fun i hi => by rw [rowsOf_get _ _ _ hi]; simp, fun i j _ hi hj => by rw [rowsOf_get2 _ _ _ _ hi hj, d_zero]⟩
theorem St.swap {n k : Nat} {rho : Nat → Nat → Int} {rss : List (List Int)} (S : St n k rho rss) {i : Nat} (hki : k ≤ i) (hi : i < n) : St n k (swr rho k i) (swp [] rss k i) := by
  have g := fun l => swp_getD ([] : List Int) rss k i l (by rw [S.len]; omega) (by rw [S.len]; omega)
  refine ⟨by rw [swp_length]; exact S.len, fun l hl => ?_, fun l j hkl hl hj => ?_⟩
  · rw [g]
    split
    · exact S.wid i hi
    · split
      · exact S.wid k (by omega)
      · exact S.wid l hl
  · rw [g, d_swr hki]
    split
    · exact S.get i j hki hi hj
    · split
      · exact S.get k j (Nat.le_refl _) (by omega) hj
      · exact S.get l j hkl hl hj
theorem St.step {n k : Nat} {rho : Nat → Nat → Int} {rss : List (List Int)} (S : St n k rho rss) (hk : k < n) (hp : P rho k ≠ 0) : St n (k + 1) rho (stepM rss k (P rho k) false) := by
  have hl := S.len
  have g := fun i (hi : i < n) => stepTo_getD rss k (P rho k) false rss.length i (by omega)
  refine ⟨by unfold stepM; rw [stepTo_length]; exact hl, fun i hi => ?_, fun i j hki hi hj => ?_⟩
  · unfold stepM
    rw [g i hi]
    split
    · rw [stepRow_length]; exact S.wid i hi
    · exact S.wid i hi
  · unfold stepM
    rw [g i hi, if_pos ⟨by omega, by omega, .inl (by omega)⟩, stepRow_getD _ _ _ _ _ (by rw [S.wid i hi]; exact hj)]
    split
    · rename_i e; rw [e, d_col (by omega)]
    · unfold stepV
      rw [S.get k k (Nat.le_refl _) hk hk, S.get i j (by omega) hi hj, S.get i k (by omega) hi hk, S.get k j (Nat.le_refl _) hk hj, d_step hp]
theorem St.fits {n k : Nat} {rho : Nat → Nat → Int} {rss : List (List Int)} (S : St n k rho rss) (h8 : n ≤ 8) (hk : k < n) (hp : P rho k ≠ 0) (hB : ∀ i j, (rho i j).natAbs ≤ 18446744073709551616) (i j : Nat) (hi : i < rss.length) (hc : Proc k false i) (hj : j < n) (hjk : j ≠ k) : Fits (rss.getD k []) (rss.getD i []) k (P rho k) j := by
  rw [S.len] at hi
  have hki : k < i := by
    rcases hc.2 with h | h
    · exact h
    · cases h
  have e1 := S.get k k (Nat.le_refl _) hk hk
  have e2 := S.get i j (by omega) hi hj
  have e3 := S.get i k (by omega) hi hk
  have e4 := S.get k j (Nat.le_refl _) hk hj
  have s := fun i j => d_small hB (k := k) (by omega) i j
  have m := fun i j => d_mid hB (k := k) (by omega) i j
  refine ⟨?_, ?_, ?_, ?_, ?_, ?_, ?_, ?_⟩
  · rw [e1]; exact In_300 (s _ _)
  · rw [e2]; exact In_300 (s _ _)
  · rw [e3]; exact In_300 (s _ _)
  · rw [e4]; exact In_300 (s _ _)
  · rw [e1, e2]; exact In_600 (mul_300 (m _ _) (m _ _))
  · rw [e3, e4]; exact In_600 (mul_300 (m _ _) (m _ _))
  · rw [e1, e2, e3, e4]; exact In_601 (mul_300 (m _ _) (m _ _)) (mul_300 (m _ _) (m _ _))
  · unfold stepV
    rw [e1, e2, e3, e4, d_step hp]
    exact In_300 (d_small hB (by omega) _ _)
end Go.Proofs.YtfalfmfkifemeaaGreatDoor
set_option linter.unusedVariables false
set_option linter.unusedSimpArgs false
namespace Go.Proofs.YtfalfmfkifemeaaGreatDoor
open Go.AL Go.PW Go.PD
set_option maxRecDepth 8000
theorem Right.len {n : Nat} {xs : List Int} (h : Right n xs) : n ≤ 8 ∧ xs.length < 1000000 := by
  obtain ⟨k, hk, h8, hl⟩ := h.nat
  obtain rfl : n = k := by omega
  have : n * (n + 1) ≤ 8 * 9 := Nat.mul_le_mul h8 (by omega)
  exact ⟨h8, by omega⟩
end Go.Proofs.YtfalfmfkifemeaaGreatDoor
set_option linter.unusedVariables false
set_option linter.unusedSimpArgs false
namespace Go.Proofs.YtfalfmfkifemeaaGreatDoor
open Go.AL Go.PW Go.PD
theorem tf50MaI : type_of% (And.intro @tyb2 (And.intro @tyb3 (And.intro @tyb4 (And.intro @tyb31 (And.intro @tyb32 (And.intro @tyb33 (And.intro @tyb38 (@tyb79)))))))) := And.intro @tyb2 (And.intro @tyb3 (And.intro @tyb4 (And.intro @tyb31 (And.intro @tyb32 (And.intro @tyb33 (And.intro @tyb38 (@tyb79)))))))
set_option maxRecDepth 8000
/-- The leading determinants from k on, up to the first that isn't above nought. -/
def lead (a : Nat → Nat → Int) : Nat → Nat → List Int
  | 0, _ => []
  | c + 1, k => P a (k + 1) :: if P a (k + 1) ≤ 0 then [] else lead a c (k + 1)
theorem lead_length (a : Nat → Nat → Int) : ∀ c k, (lead a c k).length ≤ c
  | 0, _ => Nat.le_refl _
  | c + 1, k => by
    simp only [lead, List.length_cons]
    split
    · simp
    · have := lead_length a c (k + 1); omega
/-- A slice of wide numbers that grew, in blocks from lo on. -/
def WsV (H : Hp) (v : AV) (ls : List Int) (lo : Nat) : Prop := (ls = [] ∧ v = .nilS) ∨ ∃ h, v = .sg h 0 ls.length 16 ∧ hget H h = some (Rb ls) ∧ lo ≤ h
theorem WsV.push {H : Hp} {v : AV} {ls : List Int} {lo : Nat} (h : WsV H v ls lo) (b : Blk) : WsV (H ++ [b]) v ls lo := by
  rcases h with h | ⟨k, h1, h2, h3⟩
  · exact .inl h
  · exact .inr ⟨k, h1, by rw [hget_old (hget_lt h2)]; exact h2, h3⟩
theorem WsV.lt {H : Hp} {v : AV} {ls : List Int} {lo : Nat} (h : WsV H v ls lo) : v.lt H.length := by
  rcases h with ⟨_, rfl⟩ | ⟨k, rfl, h2, _⟩
  · trivial
  · simpa [AV.lt] using hget_lt h2
theorem cellsOf_snoc (ls : List Int) (x : Int) : cellsOf (ls ++ [x]) = cellsOf ls ++ dig 16 x := by simp [cellsOf]
theorem WsV.append {H : Hp} {v : AV} {ls : List Int} {lo : Nat} (h : WsV H v ls lo) (hlo : lo ≤ H.length) (hl : ls.length < 1000000) (x : Int) :
    ∃ v' H', aappend Tryz.prog (H ++ [Wb x]) 38 v (.sl H.length 0 1 1) = some (v', H') ∧ WsV H' v' (ls ++ [x]) lo ∧ (∀ k, k < lo → hget H' k = hget H k) ∧ H.length ≤ H'.length := by
  have hx := Rd.lit H (n := 1) (z := 16) (cs := (dig 16 x).map (AV.int .u64)) (k := .own) (e := 33) (by decide) (by rw [map_len, dig_length])
  have ho := ints_one (k := .u64) (dig 16 x)
  have hc := ints_one (k := .u64) (cellsOf ls)
  have hzl : (AV.agg ((dig 16 0).map (AV.int .u64))).cells.length = 16 := by rw [AV.cells_agg, map_len, dig_length]
  rcases h with ⟨rfl, rfl⟩ | ⟨k, rfl, hg, hk⟩
  · refine ⟨_, _, append_nil hx und38 size33 zero33 hzl (by decide) bytes33 ho (by decide) (by decide) (by decide), .inr ⟨_, rfl, ?_, ?_⟩, fun k hk => ?_, by simp⟩
    · rw [hget_at rfl]; simp [cellsOf]
    · simp; omega
    · rw [hget_old (by simp; omega), hget_old (by omega)]
  · have hkl := hget_lt hg
    have hcl := cellsOf_length ls
    have hlen : ((cellsOf ls).map (AV.int .u64)).length = ls.length * 16 := by rw [map_len, hcl]
    refine ⟨.sg (H ++ [Wb x]).length 0 (ls.length + 1) 16, (H ++ [Wb x]).set k ⟨[], .dead, 33⟩ ++ [Rb (ls ++ [x])], ?_, .inr ⟨(H ++ [Wb x]).length, by rw [show (ls ++ [x]).length = ls.length + 1 by simp], ?_, ?_⟩, fun j hj => ?_, by simp; omega⟩
    · have h2 : ¬ ls.length * 16 + 1 * 16 ≤ ((cellsOf ls).map (AV.int .u64)).length := by omega
      have h3 : ((cellsOf ls).map (AV.int .u64)).take (ls.length * 16) = (cellsOf ls).map (AV.int .u64) := List.take_of_length_le (by omega)
      have h4 : ls.length * 16 ≤ ((cellsOf ls).map (AV.int .u64)).length := by omega
      have h5 : (cellsOf (ls ++ [x])).map (AV.int .u64) = (cellsOf ls).map (AV.int .u64) ++ (dig 16 x).map (AV.int .u64) := by rw [cellsOf_snoc, List.map_append]
      have hby1 : (ls.length + 1) * 128 ≤ 140737488355328 := by omega
      have hby2 : (ls.length + 1) ≤ 140737488355328 := by omega
      have hg' : hget (H ++ [Wb x]) k = some (Rb ls) := by rw [hget_old hkl]; exact hg
      have hrow := hx.row
      unfold aappend
      simp only [und38, size33, zero33, bytes33, hzl, hrow, hg', h2, h3, h4, ho, hc, hby1, hby2, and_self, if_true, if_false, show ¬ (1 : Nat) = 0 by decide, show (0 : Nat) < 16 by decide]
      rw [← h5]
    · rw [hget_at (by simp)]
    · simp; omega
    · rw [hget_old (by simp; omega), hget_set (by simp; omega), if_neg (by omega), hget_old (by omega)]
theorem Mat.keep {H H' : Hp} {p : Nat} {vs : List AV} {rss : List (List Int)} (M : Mat H p vs rss) {lo : Nat} (hk : ∀ k, k < lo → hget H' k = hget H k) (hp : p < lo) (hv : ∀ i, i < rss.length → (vs.getD i .nilS).hd < lo) : Mat H' p vs rss := by
  refine ⟨M.len, ?_, fun i hi => ⟨(M.row i hi).1, ?_⟩, M.apart, M.off⟩
  · rw [hk _ hp]; exact M.out
  · rw [hk _ (hv i hi)]; exact (M.row i hi).2
theorem Off.keep {S : Nat → Prop} {H H1 H' : Hp} (o : Off S H H1) {lo : Nat} (hlo : H.length ≤ lo) (hl : H.length ≤ H'.length) (hk : ∀ k, k < lo → hget H' k = hget H1 k) : Off S H H' :=
  ⟨hl, fun k h1 h2 => by rw [hk k (by omega)]; exact o.2 k h1 h2⟩
set_option maxHeartbeats 4000000 in
theorem leading_calls (n p : Nat) (a : Nat → Nat → Int) (vs : List AV) (rss : List (List Int)) (H : Hp) (M : Mat H p vs rss) (S : St n 0 a rss) (h8 : n ≤ 8) (hB : ∀ i j, (a i j).natAbs ≤ 18446744073709551616) :
    ACalls Tryz.prog 50 [.sl p 0 n n] H fun r H' => WsV H' r (lead a n 0) (H.length + 1) ∧ Off (fun h => ∃ i, i < n ∧ h = (vs.getD i .nilS).hd) H H' := by
  have hof := fun H0 => of_calls 1 H0 (by omega)
  have lp := hget_lt M.out
  have hrl : ∀ i, i < n → (vs.getD i .nilS).hd < H.length := fun i hi => hget_lt (M.row i (by rw [S.len]; exact hi)).2
  refine ACalls_body Tryz.func50 rfl (by kernel_rfl) (by kernel_rfl) ?_
  repeat' first
    | (with_reducible first | refine AWp_seq_k (fun K hK => ?_) | refine AWp_block ?_ | refine AWp_regionE ?_)
    | ((with_reducible refine ECall_intro (hof _) ?_); rintro _ _ ⟨rfl, rfl⟩)
    | (simp only [thenA, inBlockA, reduceIte, Nat.reduceEqDiff])
    | ((with_reducible refine hK _ _ ?_); clear hK)
    | (simp only [ACond, RA, EAtS_def, EAtX_def, wantedA, acall, astep, ev, ofValue, ofAtom, Nat.reduceEqDiff, Nat.reduceAdd, Nat.reduceMul, Nat.reduceSub, reduceCtorEq, reduceIte, aoptEv, abin, aint, ashift, aun, astr, aeqGuard, isConstOp, aconvH, aofStr, aconvSame, isU8, abuildSlice, afill, splice, azeros, Nat.reduceLeDiff, Nat.reduceLT, Int.reduceLE, Int.reduceLT, Int.reduceEq, Int.reduceToNat, Int.reducePow, IntKind.bits, Int.reduceNeg, RB, aalloc, Go.PW.dig_length, tf50MaI])
    | (simp (disch := (first | omega | (simp only [RO]; done) | assumption | (simp only [RM, Go.PW.dig_length]; done) | (simp only [RL, Go.PW.dig_length]; omega))) only [RD, reduceCtorEq, reduceIte, Go.PW.dig_length, Nat.reduceLeDiff, Nat.reduceAdd, Nat.reduceMul, Int.reduceToNat, tf50MaI])
  refine AWp_loop (fun m fr' H1 => ∃ (k : Nat) (v : AV) (rss : List (List Int)) (ls : List Int), m = n - k ∧ k ≤ n ∧ fr' 0 = .sl p 0 n n ∧ fr' 3 = v ∧ fr' 4 = .ptr H.length 0 ∧ fr' 8 = .int .i64 (n : Int) ∧ fr' 9 = .int .i64 (k : Int) ∧
      St n k a rss ∧ Mat H1 p vs rss ∧ P a k ≠ 0 ∧ WsV H1 v ls (H.length + 1) ∧ ls.length = k ∧ ls ++ lead a (n - k) k = lead a n 0 ∧ hget H1 H.length = some (Wb (P a k)) ∧ Off (fun h => ∃ i, i < n ∧ h = (vs.getD i .nilS).hd) H H1) (m := n)
    ⟨0, .nilS, rss, [], by omega, by omega, rfl, rfl, rfl, rfl, rfl, S, M.push _, by rw [P_zero]; decide, .inl ⟨rfl, rfl⟩, rfl, rfl, hget_at rfl, (Off.refl _ _).push _⟩ ?_
  clear M S
  rintro m fr' H1 ⟨k, v, rss, ls, rfl, hk, k0, k3, k4, k8, k9, S, M, hne, V, hls, hle, g4, O⟩
  have e1 : IntKind.i64.wrap ((k : Int) + 1) = ((k + 1 : Nat) : Int) := by rw [wrap_i64_id (by omega) (by omega)]; omega
  have l4 := hget_lt g4
  have hv1 : v.one = true := by rcases V with ⟨_, rfl⟩ | ⟨_, rfl, _⟩ <;> rfl
  by_cases hlt : k < n
  · have hkl : k < rss.length := by rw [S.len]; exact hlt
    have a1 := M.at0 hkl
    have a2 := M.idx hkl (k := .i64) (j := (k : Int)) (by omega) (by rw [S.wid k hlt]; omega)
    have a3 := M.get hkl (j := k) (by rw [S.wid k hlt]; exact hlt)
    rw [Int.toNat_natCast] at a2
    rw [S.get k k (Nat.le_refl _) hlt hlt, ← P_succ (rho := a)] at a3
    obtain ⟨v', H2, g, V2, hkeep, hlen⟩ := V.append (by omega) (by omega) (P a (k + 1))
    have M2 := M.keep hkeep (by omega) (fun i hi => by rw [S.len] at hi; have := hrl i hi; omega)
    have O2 := O.keep (lo := H.length + 1) (by omega) (by omega) hkeep
    have g42 : hget H2 H.length = some (Wb (P a k)) := by rw [hkeep _ (by omega)]; exact g4
    have hsg := sign_calls (P a (k + 1)) H2 (In_300 (P_small hB (by omega)))
    have b1 := M2.at0 hkl
    have b2 := M2.idx hkl (k := .i64) (j := (k : Int)) (by omega) (by rw [S.wid k hlt]; omega)
    have b3 := M2.get hkl (j := k) (by rw [S.wid k hlt]; exact hlt)
    rw [Int.toNat_natCast] at b2
    rw [S.get k k (Nat.le_refl _) hlt hlt, ← P_succ (rho := a)] at b3
    have hdr : List.drop 16 (List.map (AV.int .u64) (dig 16 0)) = [] := List.drop_eq_nil_of_le (by rw [map_len, dig_length]; exact Nat.le_refl _)
    have hall := ints_one (k := .u64) (dig 16 (P a (k + 1)))
    by_cases hx : P a (k + 1) ≤ 0
    · have hs0 : ((P a (k + 1)).sign ≤ 0) = True := eq_true (by have := Int.sign_nonpos_iff.mpr hx; exact this)
      repeat' first
        | (with_reducible first | refine AWp_seq_k (fun K hK => ?_) | refine AWp_block ?_ | refine AWp_skip ?_ | refine AWp_exit ?_ | refine AWp_ret ?_ | refine AWp_regionE ?_ | refine AWp_condI ?_)
        | ((with_reducible refine ECall_intro (hsg) ?_); rintro _ _ ⟨rfl, rfl⟩)
        | (with_reducible refine AIte (fun hc => ?_) (fun hc => ?_) <;> (try simp only [RC] at hc) <;> (try (exfalso; first | omega | contradiction)))
        | (simp only [thenA, inBlockA, reduceIte, Nat.reduceEqDiff])
        | ((with_reducible refine hK _ _ ?_); clear hK)
        | (clear hK; clear hK; (with_reducible refine hK _ _ ?_); clear hK)
        | (simp only [ACond, RA, EAtS_def, EAtX_def, wantedA, acall, astep, ev, ofValue, ofAtom, Nat.reduceEqDiff, Nat.reduceAdd, Nat.reduceMul, Nat.reduceSub, reduceCtorEq, reduceIte, aoptEv, abin, aint, ashift, aun, astr, aeqGuard, isConstOp, aconvH, aofStr, aconvSame, isU8, abuildSlice, afill, splice, azeros, Nat.reduceLeDiff, Nat.reduceLT, Int.reduceLE, Int.reduceLT, Int.reduceEq, Int.reduceToNat, Int.reducePow, IntKind.bits, Int.reduceNeg, RB, aalloc, Go.PW.dig_length, tf50MaI, k0, k3, k4, k8, k9, a1, a2, a3, hdr, List.append_nil, hall, g, b1, b2, b3, hs0])
        | (simp (disch := first | omega | (simp only [RO]; done) | assumption) only [RS, six38, gix38, six79, gix79, idx32, slh32, idx33, slh33])
      all_goals
        (
         (refine AEnd_gen (rs := [.tmp 2]) rfl ?_)
         (simp only [AEndR, aresults, Fr.put_some, Fr.put_none, fr0_zero, fr0_succ, fr0_nil, Nat.reduceEqDiff, reduceIte])
         (try simp (disch := (first | omega | (simp only [RO]; done) | assumption | (simp only [RM, Go.PW.dig_length]; done) | (simp only [RL, Go.PW.dig_length]; omega))) only [RD, reduceCtorEq, reduceIte, Go.PW.dig_length, Nat.reduceLeDiff, Nat.reduceAdd, Nat.reduceMul, Int.reduceToNat, tf50MaI]))
      all_goals
        rw [show n - k = (n - (k + 1)) + 1 by omega] at hle
        simp only [lead, hx, if_true] at hle
        rw [hle] at V2
        exact ⟨V2, O2⟩
    · have hs0 : ((P a (k + 1)).sign ≤ 0) = False := eq_false (fun h => hx (Int.sign_nonpos_iff.mp h))
      repeat' first
        | (with_reducible first | refine AWp_seq_k (fun K hK => ?_) | refine AWp_block ?_ | refine AWp_skip ?_ | refine AWp_regionE ?_ | refine AWp_condI ?_)
        | ((with_reducible refine ECall_intro (hsg) ?_); rintro _ _ ⟨rfl, rfl⟩)
        | (with_reducible refine AIte (fun hc => ?_) (fun hc => ?_) <;> (try simp only [RC] at hc) <;> (try (exfalso; first | omega | contradiction)))
        | (simp only [thenA, inBlockA, reduceIte, Nat.reduceEqDiff])
        | ((with_reducible refine hK _ _ ?_); clear hK)
        | (simp only [ACond, RA, EAtS_def, EAtX_def, wantedA, acall, astep, ev, ofValue, ofAtom, Nat.reduceEqDiff, Nat.reduceAdd, Nat.reduceMul, Nat.reduceSub, reduceCtorEq, reduceIte, aoptEv, abin, aint, ashift, aun, astr, aeqGuard, isConstOp, aconvH, aofStr, aconvSame, isU8, abuildSlice, afill, splice, azeros, Nat.reduceLeDiff, Nat.reduceLT, Int.reduceLE, Int.reduceLT, Int.reduceEq, Int.reduceToNat, Int.reducePow, IntKind.bits, Int.reduceNeg, RB, aalloc, Go.PW.dig_length, tf50MaI, k0, k3, k4, k8, k9, a1, a2, a3, hdr, List.append_nil, hall, g, b1, b2, b3, hs0, g42])
        | (simp (disch := first | omega | (simp only [RO]; done) | assumption) only [RS, six38, gix38, six79, gix79, idx32, slh32, idx33, slh33])
        | (simp (disch := (first | omega | (simp only [RO]; done) | assumption | (simp only [RM, Go.PW.dig_length]; done) | (simp only [RL, Go.PW.dig_length]; omega))) only [RD, reduceCtorEq, reduceIte, Go.PW.dig_length, Nat.reduceLeDiff, Nat.reduceAdd, Nat.reduceMul, Int.reduceToNat, tf50MaI, k0, k3, k4, k8, k9, a1, a2, a3, hdr, List.append_nil, hall, g, b1, b2, b3, hs0, g42])
      have hst := Step_calls p k vs rss (P a k) false n H2 M2 hkl (fun i hi => S.wid i (by rw [S.len] at hi; exact hi)) hlt (by rw [S.len]; omega) (by omega) (In_300 (P_small hB (by omega))) hne (fun i j h1 h2 h3 h4 => S.fits h8 hlt hne hB i j h1 h2 h3 h4)
      have hsl := S.len
      have hr : AV.sl p 0 rss.length rss.length = AV.sl p 0 n n := by rw [hsl]
      rw [hr] at hst
      all_goals
        refine ECall_intro hst ?_
        rintro r H4 ⟨rfl, M4, O4⟩
        have S4 := S.step hlt hne
        have hl2 : H.length < H2.length := by omega
        have g44 : hget H4 H.length = some (Wb (P a k)) := by rw [O4.2 _ hl2 (fun ⟨i, hi, e⟩ => by have := hrl i (by omega); omega)]; exact g42
        have V4 : WsV H4 v' (ls ++ [P a (k + 1)]) (H.length + 1) := by
          rcases V2 with h | ⟨q, h1, h2, h3⟩
          · exact .inl h
          · exact .inr ⟨q, h1, by rw [O4.2 _ (hget_lt h2) (fun ⟨i, hi, e⟩ => by have := hrl i (by omega); omega)]; exact h2, h3⟩
        have O24 : Off (fun h => ∃ i, i < n ∧ h = (vs.getD i .nilS).hd) H H4 := ⟨by have := O4.1; omega, fun q h1 h2 => by
          rw [O4.2 q (by omega) (fun ⟨i, hi, e⟩ => h2 ⟨i, by omega, e⟩)]; exact O2.2 q h1 h2⟩
        have l44 := hget_lt g44
        have hl4 : k < (stepM rss k (P a k) false).length := by rw [S4.len]; exact hlt
        have hrk : (stepM rss k (P a k) false).getD k [] = rss.getD k [] := by unfold stepM; rw [stepTo_getD _ _ _ _ _ _ hkl, if_neg (fun h => h.2.1 rfl)]
        have c1 := M4.at0 hl4
        have c2 := M4.idx hl4 (k := .i64) (j := (k : Int)) (by omega) (by rw [S4.wid k hlt]; omega)
        have c3 := M4.get hl4 (j := k) (by rw [S4.wid k hlt]; exact hlt)
        rw [Int.toNat_natCast] at c2
        rw [hrk, S.get k k (Nat.le_refl _) hlt hlt, ← P_succ (rho := a)] at c3
        repeat' first
          | (with_reducible first | refine AWp_regionE ?_)
          | (simp only [thenA, inBlockA, reduceIte, Nat.reduceEqDiff])
          | ((with_reducible refine hK _ _ ?_); clear hK)
          | (simp only [ACond, RA, EAtS_def, EAtX_def, wantedA, acall, astep, ev, ofValue, ofAtom, Nat.reduceEqDiff, Nat.reduceAdd, Nat.reduceMul, Nat.reduceSub, reduceCtorEq, reduceIte, aoptEv, abin, aint, ashift, aun, astr, aeqGuard, isConstOp, aconvH, aofStr, aconvSame, isU8, abuildSlice, afill, splice, azeros, Nat.reduceLeDiff, Nat.reduceLT, Int.reduceLE, Int.reduceLT, Int.reduceEq, Int.reduceToNat, Int.reducePow, IntKind.bits, Int.reduceNeg, RB, aalloc, Go.PW.dig_length, tf50MaI, k0, k3, k4, k8, k9, c1, c2, c3, g44, e1])
          | (simp (disch := first | omega | (simp only [RO]; done) | assumption) only [RS, six38, gix38, six79, gix79, idx32, slh32, idx33, slh33])
          | (simp (disch := (first | omega | (simp only [RO]; done) | assumption | (simp only [RM, Go.PW.dig_length]; done) | (simp only [RL, Go.PW.dig_length]; omega))) only [RD, reduceCtorEq, reduceIte, Go.PW.dig_length, Nat.reduceLeDiff, Nat.reduceAdd, Nat.reduceMul, Int.reduceToNat, tf50MaI, k0, k3, k4, k8, k9, c1, c2, c3, g44, e1])
        have hle2 : (ls ++ [P a (k + 1)]) ++ lead a (n - (k + 1)) (k + 1) = lead a n 0 := by
          rw [show n - k = (n - (k + 1)) + 1 by omega] at hle
          simp only [lead, hx, if_false] at hle
          rw [List.append_assoc]; exact hle
        refine ⟨_, by omega, k + 1, v', _, _, rfl, by omega, rfl, rfl, S4, M4.other l44 _ (by omega) (fun i hi => ?_), by omega, ?_, by rw [List.length_append, hls]; rfl, hle2, by rw [hget_set l44, if_pos rfl], O24.set l44 _ (.inr (Nat.le_refl _))⟩
        · rw [S4.len] at hi; have := hrl i hi; omega
        · rcases V4 with h | ⟨q, h1, h2, h3⟩
          · exact .inl h
          · exact .inr ⟨q, h1, by rw [hget_set l44, if_neg (by omega)]; exact h2, h3⟩
  · obtain rfl : n = k := by omega
    repeat' first
      | (with_reducible first | refine AWp_seq_k (fun K hK => ?_) | refine AWp_exit ?_ | refine AWp_ret ?_ | refine AWp_regionE ?_ | refine AWp_condI ?_)
      | (with_reducible refine AIte (fun hc => ?_) (fun hc => ?_) <;> (try simp only [RC] at hc) <;> (try (exfalso; first | omega | contradiction)))
      | (simp only [thenA, inBlockA, reduceIte, Nat.reduceEqDiff])
      | ((with_reducible refine hK _ _ ?_); clear hK)
      | (clear hK; (with_reducible refine hK _ _ ?_); clear hK)
      | (simp only [ACond, RA, EAtS_def, EAtX_def, wantedA, acall, astep, ev, ofValue, ofAtom, Nat.reduceEqDiff, Nat.reduceAdd, Nat.reduceMul, Nat.reduceSub, reduceCtorEq, reduceIte, aoptEv, abin, aint, ashift, aun, astr, aeqGuard, isConstOp, aconvH, aofStr, aconvSame, isU8, abuildSlice, afill, splice, azeros, Nat.reduceLeDiff, Nat.reduceLT, Int.reduceLE, Int.reduceLT, Int.reduceEq, Int.reduceToNat, Int.reducePow, IntKind.bits, Int.reduceNeg, RB, aalloc, Go.PW.dig_length, tf50MaI, k0, k3, k4, k8, k9])
    (
     (refine AEnd_gen (rs := [.tmp 2]) rfl ?_)
     (simp only [AEndR, aresults, Fr.put_some, Fr.put_none, fr0_zero, fr0_succ, fr0_nil, Nat.reduceEqDiff, reduceIte])
     (try simp (disch := (first | omega | (simp only [RO]; done) | assumption | (simp only [RM, Go.PW.dig_length]; done) | (simp only [RL, Go.PW.dig_length]; omega))) only [RD, reduceCtorEq, reduceIte, Go.PW.dig_length, Nat.reduceLeDiff, Nat.reduceAdd, Nat.reduceMul, Int.reduceToNat, tf50MaI]))
    rw [Nat.sub_self] at hle
    simp only [lead, List.append_nil] at hle
    rw [hle] at V
    exact ⟨V, O⟩
end Go.Proofs.YtfalfmfkifemeaaGreatDoor
set_option linter.unusedVariables false
set_option linter.unusedSimpArgs false
namespace Go.Proofs.YtfalfmfkifemeaaGreatDoor
open Go.AL Go.PW Go.PD
theorem tf53MaJ : type_of% (And.intro @tyb3 (And.intro @tyb31 (And.intro @tyb32 (And.intro @tyb33 (And.intro @tyb38 (@tyb79)))))) := And.intro @tyb3 (And.intro @tyb31 (And.intro @tyb32 (And.intro @tyb33 (And.intro @tyb38 (@tyb79)))))
set_option maxRecDepth 8000
theorem WsV.rd {H : Hp} {v : AV} {ls : List Int} {lo : Nat} (h : WsV H v ls lo) : Rd H 16 v ((cellsOf ls).map (AV.int .u64)) ls.length := by
  rcases h with ⟨rfl, rfl⟩ | ⟨k, rfl, hg, _⟩
  · exact Rd.nil _ _
  · have hcl : ((cellsOf ls).map (AV.int .u64)).length = ls.length * 16 := by rw [map_len, cellsOf_length]
    refine ⟨?_, rfl⟩
    simp only [arow, hg]
    rw [if_neg (by decide), if_pos (by omega), List.drop_zero, List.take_of_length_le (by omega)]
theorem WsV.get {H : Hp} {v : AV} {ls : List Int} {lo : Nat} (h : WsV H v ls lo) {i : Nat} (hi : i < ls.length) : aload Tryz.prog H 33 (.ptr v.hd (v.of + i * 16)) = some (W (ls.getD i 0)) := by
  rw [Rd.loads h.rd agg33 size33 hi, ← List.map_drop, ← List.map_take, cellsOf_get _ _ hi]
theorem lead_pos (a : Nat → Nat → Int) : ∀ c k, ((lead a c k).length = c ∧ (c = 0 ∨ 0 < (lead a c k).getD (c - 1) 0)) ↔ ∀ m, k < m → m ≤ k + c → 0 < P a m
  | 0, k => by
    simp only [lead, List.length_nil, true_and, true_or, true_iff]
    intro m h1 h2; omega
  | c + 1, k => by
    have ih := lead_pos a c (k + 1)
    have hs : (∀ m, k < m → m ≤ k + (c + 1) → 0 < P a m) ↔ 0 < P a (k + 1) ∧ ∀ m, k + 1 < m → m ≤ k + 1 + c → 0 < P a m := by
      constructor
      · intro h; exact ⟨h _ (by omega) (by omega), fun m h1 h2 => h m (by omega) (by omega)⟩
      · rintro ⟨h1, h2⟩ m h3 h4
        by_cases e : m = k + 1
        · rw [e]; exact h1
        · exact h2 m (by omega) (by omega)
    rw [hs]
    simp only [lead, List.length_cons, Nat.add_sub_cancel]
    by_cases hx : P a (k + 1) ≤ 0
    · simp only [hx, if_true, List.length_nil]
      constructor
      · rintro ⟨h1, h2⟩
        obtain rfl : c = 0 := by omega
        rcases h2 with h2 | h2
        · omega
        · simp at h2; omega
      · rintro ⟨h1, _⟩; omega
    · simp only [hx, if_false]
      rw [← ih]
      have hx' : 0 < P a (k + 1) := by omega
      constructor
      · rintro ⟨h1, h2⟩
        refine ⟨hx', by omega, ?_⟩
        cases c with
        | zero => exact .inl rfl
        | succ c =>
          rcases h2 with h2 | h2
          · omega
          · right; simpa using h2
      · rintro ⟨_, h1, h2⟩
        refine ⟨by omega, .inr ?_⟩
        cases c with
        | zero => simpa using hx'
        | succ c =>
          rcases h2 with h2 | h2
          · omega
          · simpa using h2
theorem lead_get (a : Nat → Nat → Int) : ∀ c k i, i < (lead a c k).length → (lead a c k).getD i 0 = P a (k + 1 + i)
  | 0, k, i, h => by simp [lead] at h
  | c + 1, k, i, h => by
    simp only [lead, List.length_cons] at h ⊢
    cases i with
    | zero => simp
    | succ i =>
      rw [List.getD_cons_succ]
      by_cases hx : P a (k + 1) ≤ 0
      · simp [hx] at h
      · simp only [hx, if_false] at h ⊢
        rw [lead_get a c (k + 1) i (by omega)]
        congr 1; omega
/-- Are all leading determinants above nought? -/
def posB (a : Nat → Nat → Int) (n : Nat) : Bool := decide ((lead a n 0).length = n ∧ (n = 0 ∨ 0 < (lead a n 0).getD (n - 1) 0))
theorem posB_iff (a : Nat → Nat → Int) (n : Nat) : posB a n = true ↔ ∀ m, m ≤ n → 0 < P a m := by
  unfold posB
  rw [decide_eq_true_iff, lead_pos]
  constructor
  · intro h m hm
    rcases Nat.eq_zero_or_pos m with rfl | h0
    · rw [P_zero]; decide
    · exact h m h0 (by omega)
  · intro h m _ h2; exact h m (by omega)
set_option maxHeartbeats 4000000 in
theorem Positive_calls (n p : Nat) (a : Nat → Nat → Int) (vs : List AV) (rss : List (List Int)) (H : Hp) (M : Mat H p vs rss) (S : St n 0 a rss) (h8 : n ≤ 8) (hB : ∀ i j, (a i j).natAbs ≤ 18446744073709551616) :
    ACalls Tryz.prog 53 [.sl p 0 n n] H fun r H' => r = .bool (posB a n) ∧ Off (fun h => ∃ i, i < n ∧ h = (vs.getD i .nilS).hd) H H' := by
  have hL := lead_length a n 0
  refine ACalls_body Tryz.func53 rfl (by kernel_rfl) (by kernel_rfl) ?_
  repeat' first
    | (with_reducible first | refine AWp_seq_k (fun K hK => ?_) | refine AWp_regionE ?_)
    | (simp only [thenA, inBlockA, reduceIte, Nat.reduceEqDiff])
    | ((with_reducible refine hK _ _ ?_); clear hK)
    | (simp only [ACond, RA, EAtS_def, EAtX_def, wantedA, acall, astep, ev, ofValue, ofAtom, Nat.reduceEqDiff, Nat.reduceAdd, Nat.reduceMul, Nat.reduceSub, reduceCtorEq, reduceIte, aoptEv, abin, aint, ashift, aun, astr, aeqGuard, isConstOp, aconvH, aofStr, aconvSame, isU8, abuildSlice, afill, splice, azeros, Nat.reduceLeDiff, Nat.reduceLT, Int.reduceLE, Int.reduceLT, Int.reduceEq, Int.reduceToNat, Int.reducePow, IntKind.bits, Int.reduceNeg, RB, aalloc, Go.PW.dig_length, tf53MaJ])
  refine ECall_intro (leading_calls n p a vs rss H M S h8 hB) ?_
  rintro v H1 ⟨V, O⟩
  have hlen := V.rd.len und38
  have hp : posB a n = decide ((lead a n 0).length = n ∧ (n = 0 ∨ 0 < (lead a n 0).getD (n - 1) 0)) := rfl
  have hb : In ((lead a n 0).getD (n - 1) 0) := by
    rcases Nat.lt_or_ge (n - 1) (lead a n 0).length with h | h
    · rw [lead_get _ _ _ _ h]; exact In_300 (P_small hB (by omega))
    · rw [List.getD_eq_getElem?_getD, List.getElem?_eq_none h]; exact In.zero
  generalize lead a n 0 = ls at *
  by_cases h1 : ls.length = n
  · have e1 : ((ls.length : Int) = (n : Int)) = True := eq_true (by omega)
    rcases Nat.eq_zero_or_pos n with h0 | h0
    · have e2 : ((ls.length : Int) = 0) = True := eq_true (by omega)
      repeat' first
        | (with_reducible first | refine AWp_seq_k (fun K hK => ?_) | refine AWp_ret ?_ | refine AWp_regionE ?_)
        | (with_reducible refine EGuard_split (fun hc => ?_) (fun hc => ?_) <;> (try simp only [RC] at hc) <;> (try (exfalso; first | omega | contradiction)))
        | (simp only [thenA, inBlockA, reduceIte, Nat.reduceEqDiff])
        | ((with_reducible refine hK _ _ ?_); clear hK)
        | (simp only [ACond, RA, EAtS_def, EAtX_def, wantedA, acall, astep, ev, ofValue, ofAtom, Nat.reduceEqDiff, Nat.reduceAdd, Nat.reduceMul, Nat.reduceSub, reduceCtorEq, reduceIte, aoptEv, abin, aint, ashift, aun, astr, aeqGuard, isConstOp, aconvH, aofStr, aconvSame, isU8, abuildSlice, afill, splice, azeros, Nat.reduceLeDiff, Nat.reduceLT, Int.reduceLE, Int.reduceLT, Int.reduceEq, Int.reduceToNat, Int.reducePow, IntKind.bits, Int.reduceNeg, RB, aalloc, Go.PW.dig_length, tf53MaJ, hlen, e1, e2])
      all_goals
        (
         (refine AEnd_gen (rs := [.tmp 2]) rfl ?_)
         (simp only [AEndR, aresults, Fr.put_some, Fr.put_none, fr0_zero, fr0_succ, fr0_nil, Nat.reduceEqDiff, reduceIte])
         (try simp (disch := (first | omega | (simp only [RO]; done) | assumption | (simp only [RM, Go.PW.dig_length]; done) | (simp only [RL, Go.PW.dig_length]; omega))) only [RD, reduceCtorEq, reduceIte, Go.PW.dig_length, Nat.reduceLeDiff, Nat.reduceAdd, Nat.reduceMul, Int.reduceToNat, tf53MaJ]))
      all_goals exact ⟨by rw [hp, decide_eq_true ⟨h1, .inl h0⟩], O⟩
    · have e2 : ((ls.length : Int) = 0) = False := eq_false (by omega)
      have w1 : IntKind.i64.wrap ((ls.length : Int) - 1) = ((n - 1 : Nat) : Int) := by rw [wrap_i64_id (by omega) (by omega)]; omega
      have a1 := V.rd.at_ und38 size33 (k := .i64) (j := ((n - 1 : Nat) : Int)) (by omega) (by omega)
      have a2 := V.get (i := n - 1) (by omega)
      rw [Int.toNat_natCast] at a1
      have hsg := sign_calls (ls.getD (n - 1) 0) H1 hb
      repeat' first
        | (with_reducible first | refine AWp_seq_k (fun K hK => ?_) | refine AWp_ret ?_ | refine AWp_regionE ?_)
        | ((with_reducible refine ECall_intro (hsg) ?_); rintro _ _ ⟨rfl, rfl⟩)
        | (with_reducible refine EGuard_split (fun hc => ?_) (fun hc => ?_) <;> (try simp only [RC] at hc) <;> (try (exfalso; first | omega | contradiction)))
        | (simp only [thenA, inBlockA, reduceIte, Nat.reduceEqDiff])
        | ((with_reducible refine hK _ _ ?_); clear hK)
        | (simp only [ACond, RA, EAtS_def, EAtX_def, wantedA, acall, astep, ev, ofValue, ofAtom, Nat.reduceEqDiff, Nat.reduceAdd, Nat.reduceMul, Nat.reduceSub, reduceCtorEq, reduceIte, aoptEv, abin, aint, ashift, aun, astr, aeqGuard, isConstOp, aconvH, aofStr, aconvSame, isU8, abuildSlice, afill, splice, azeros, Nat.reduceLeDiff, Nat.reduceLT, Int.reduceLE, Int.reduceLT, Int.reduceEq, Int.reduceToNat, Int.reducePow, IntKind.bits, Int.reduceNeg, RB, aalloc, Go.PW.dig_length, tf53MaJ, hlen, e1, e2, w1, a1, a2])
      all_goals
        (
         (refine AEnd_gen (rs := [.tmp 2]) rfl ?_)
         (simp only [AEndR, aresults, Fr.put_some, Fr.put_none, fr0_zero, fr0_succ, fr0_nil, Nat.reduceEqDiff, reduceIte])
         (try simp (disch := (first | omega | (simp only [RO]; done) | assumption | (simp only [RM, Go.PW.dig_length]; done) | (simp only [RL, Go.PW.dig_length]; omega))) only [RD, reduceCtorEq, reduceIte, Go.PW.dig_length, Nat.reduceLeDiff, Nat.reduceAdd, Nat.reduceMul, Int.reduceToNat, tf53MaJ]))
      all_goals
        refine ⟨?_, O⟩
        rw [hp]
        congr 1
        refine decide_eq_decide.mpr ?_
        rw [Int.sign_pos_iff]
        exact ⟨fun h => ⟨h1, .inr h⟩, fun h => h.2.resolve_left (by omega)⟩
  · have e1 : ((ls.length : Int) = (n : Int)) = False := eq_false (by omega)
    repeat' first
      | (with_reducible first | refine AWp_seq_k (fun K hK => ?_) | refine AWp_ret ?_ | refine AWp_regionE ?_)
      | (with_reducible refine EGuard_split (fun hc => ?_) (fun hc => ?_) <;> (try simp only [RC] at hc) <;> (try (exfalso; first | omega | contradiction)))
      | (simp only [thenA, inBlockA, reduceIte, Nat.reduceEqDiff])
      | ((with_reducible refine hK _ _ ?_); clear hK)
      | (simp only [ACond, RA, EAtS_def, EAtX_def, wantedA, acall, astep, ev, ofValue, ofAtom, Nat.reduceEqDiff, Nat.reduceAdd, Nat.reduceMul, Nat.reduceSub, reduceCtorEq, reduceIte, aoptEv, abin, aint, ashift, aun, astr, aeqGuard, isConstOp, aconvH, aofStr, aconvSame, isU8, abuildSlice, afill, splice, azeros, Nat.reduceLeDiff, Nat.reduceLT, Int.reduceLE, Int.reduceLT, Int.reduceEq, Int.reduceToNat, Int.reducePow, IntKind.bits, Int.reduceNeg, RB, aalloc, Go.PW.dig_length, tf53MaJ, hlen, e1])
    all_goals
      (
       (refine AEnd_gen (rs := [.tmp 2]) rfl ?_)
       (simp only [AEndR, aresults, Fr.put_some, Fr.put_none, fr0_zero, fr0_succ, fr0_nil, Nat.reduceEqDiff, reduceIte])
       (try simp (disch := (first | omega | (simp only [RO]; done) | assumption | (simp only [RM, Go.PW.dig_length]; done) | (simp only [RL, Go.PW.dig_length]; omega))) only [RD, reduceCtorEq, reduceIte, Go.PW.dig_length, Nat.reduceLeDiff, Nat.reduceAdd, Nat.reduceMul, Int.reduceToNat, tf53MaJ]))
    all_goals exact ⟨by rw [hp, decide_eq_false (fun h => h1 h.1)], O⟩
end Go.Proofs.YtfalfmfkifemeaaGreatDoor
set_option linter.unusedVariables false
set_option linter.unusedSimpArgs false
namespace Go.Proofs.YtfalfmfkifemeaaGreatDoor
open Go.AL Go.PW Go.PD
set_option maxRecDepth 8000
theorem WsV.low {H : Hp} {v : AV} {ls : List Int} {lo lo' : Nat} (h : WsV H v ls lo) (hl : lo' ≤ lo) : WsV H v ls lo' := by
  rcases h with h | ⟨k, h1, h2, h3⟩
  · exact .inl h
  · exact .inr ⟨k, h1, h2, by omega⟩
end Go.Proofs.YtfalfmfkifemeaaGreatDoor

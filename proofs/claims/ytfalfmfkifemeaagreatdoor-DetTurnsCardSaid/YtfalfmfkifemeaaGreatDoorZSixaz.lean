/- Part 26 of the proof of laws of this seat: lemmas on the model's code, on this program's functions, on numbers. No condition. -/
import Derived.Test.YtfalfmfkifemeaaGreatDoorZSixay
set_option linter.unusedVariables false
set_option linter.unusedSimpArgs false
namespace Go.Proofs.YtfalfmfkifemeaaGreatDoor
open Go.AL Go.PW Go.PD
theorem tf11SeA : type_of% (And.intro @tyb2 (And.intro @tyb3 (And.intro @tyb5 (And.intro @tyb22 (And.intro @tyb23 (And.intro @tyb24 (And.intro @tyb25 (And.intro @tyb26 (And.intro @tyb76 (And.intro @cv5_3 (And.intro @cv25_2 (@cv76_2)))))))))))) := And.intro @tyb2 (And.intro @tyb3 (And.intro @tyb5 (And.intro @tyb22 (And.intro @tyb23 (And.intro @tyb24 (And.intro @tyb25 (And.intro @tyb26 (And.intro @tyb76 (And.intro @cv5_3 (And.intro @cv25_2 (@cv76_2)))))))))))
set_option maxRecDepth 8000
theorem tmod_pos {x m : Int} (hx : 0 ≤ x) : x.tmod m = x % m := Int.tmod_eq_emod_of_nonneg hx
theorem tmod_200 (x : Int) : -200 < x.tmod 200 ∧ x.tmod 200 < 200 := by
  rcases Int.le_total 0 x with h | h
  · rw [tmod_pos h]; omega
  · obtain ⟨y, rfl⟩ : ∃ y, x = -y := ⟨-x, by omega⟩
    rw [Int.neg_tmod, tmod_pos (by omega)]; omega
/-- A list of whole numbers that grew. -/
theorem own_ints {H : Hp} {v : AV} {gs : List Int} {lo : Nat} {e : TypeId} (h : Own H 1 e v (gs.map (AV.int .i64)) gs.length lo) : Ints H .i64 v gs := h.rd
set_option maxHeartbeats 16000000 in
theorem Sym_calls (n dg : Int) (hs : List Int) (c : AV) (H : Hp) (hn : 0 ≤ n ∧ n ≤ 255) (hdg : 0 ≤ dg ∧ dg ≤ 65535) (hh : Ints H .i16 c hs) (hl : hs.length < 1000000) : ACalls Tryz.prog 11 [.int .u8 n, .int .u16 dg, c] H fun r H' => ∃ (k : Nat) (b : AV) (ys : List Int), r = SymA k b ∧ (k : Int) = n % 7 ∧ Mo H' b ys H.length ∧ Right k ys ∧ Ext H H' := by
  obtain ⟨k, hk⟩ : ∃ k : Nat, (k : Int) = n % 7 := ⟨(n % 7).toNat, by omega⟩
  have e7 : IntKind.i64.wrap (n.tmod 7) = (k : Int) := by rw [tmod_pos hn.1, wrap_i64_id (by omega) (by omega), hk]
  have e5 : IntKind.i64.wrap (dg.tmod 5000) = dg % 5000 := by rw [tmod_pos hdg.1, wrap_i64_id (by omega) (by omega)]
  have hlen := hh.rd.len und26
  refine ACalls_body Tryz.func11 rfl (by kernel_rfl) (by kernel_rfl) ?_
  refine AWp_seq_k (fun K hQ => ?_)
  repeat' first
    | (with_reducible first | refine AWp_regionE ?_)
    | (simp only [thenA, inBlockA, reduceIte, Nat.reduceEqDiff])
    | (simp only [ACond, RA, EAtS_def, EAtX_def, wantedA, acall, astep, ev, ofValue, ofAtom, Nat.reduceEqDiff, Nat.reduceAdd, Nat.reduceMul, Nat.reduceSub, reduceCtorEq, reduceIte, aoptEv, abin, aint, ashift, aun, astr, aeqGuard, isConstOp, aconvH, aofStr, aconvSame, isU8, abuildSlice, afill, splice, azeros, Nat.reduceLeDiff, Nat.reduceLT, Int.reduceLE, Int.reduceLT, Int.reduceEq, Int.reduceToNat, Int.reducePow, IntKind.bits, Int.reduceNeg, RB, aalloc, Go.PW.dig_length, tf11SeA, e7])
  refine hQ _ _ ?_
  clear hQ
  refine AWp_seq_k (fun K hQ => ?_)
  repeat' first
    | (with_reducible first | refine AWp_regionE ?_)
    | (simp only [thenA, inBlockA, reduceIte, Nat.reduceEqDiff])
    | (simp only [ACond, RA, EAtS_def, EAtX_def, wantedA, acall, astep, ev, ofValue, ofAtom, Nat.reduceEqDiff, Nat.reduceAdd, Nat.reduceMul, Nat.reduceSub, reduceCtorEq, reduceIte, aoptEv, abin, aint, ashift, aun, astr, aeqGuard, isConstOp, aconvH, aofStr, aconvSame, isU8, abuildSlice, afill, splice, azeros, Nat.reduceLeDiff, Nat.reduceLT, Int.reduceLE, Int.reduceLT, Int.reduceEq, Int.reduceToNat, Int.reducePow, IntKind.bits, Int.reduceNeg, RB, aalloc, Go.PW.dig_length, tf11SeA, e7])
  refine hQ _ _ ?_
  clear hQ
  refine AWp_seq_k (fun K2 hK2 => ?_)
  refine AWp_cut (fun fr' H1 => ∃ b p ys, fr' 2 = c ∧ fr' 6 = .ptr H.length 0 ∧ fr' 7 = .int .i64 (k : Int) ∧ fr' 8 = .ptr p 0 ∧ hget H1 H.length = some (Sb 0 .nilS) ∧ hget H1 p = some (Sb k b) ∧ H.length + 1 ≤ p ∧ Mo H1 b ys (H.length + 1) ∧ Right k ys ∧ Ext H H1) ?_ (fun fr' H1 h => hK2 _ _ ?_)
  · clear hK2
    repeat' first
      | (with_reducible first | refine AWp_regionE ?_)
      | (simp only [thenA, inBlockA, reduceIte, Nat.reduceEqDiff])
      | (simp only [ACond, RA, EAtS_def, EAtX_def, wantedA, acall, astep, ev, ofValue, ofAtom, Nat.reduceEqDiff, Nat.reduceAdd, Nat.reduceMul, Nat.reduceSub, reduceCtorEq, reduceIte, aoptEv, abin, aint, ashift, aun, astr, aeqGuard, isConstOp, aconvH, aofStr, aconvSame, isU8, abuildSlice, afill, splice, azeros, Nat.reduceLeDiff, Nat.reduceLT, Int.reduceLE, Int.reduceLT, Int.reduceEq, Int.reduceToNat, Int.reducePow, IntKind.bits, Int.reduceNeg, RB, aalloc, Go.PW.dig_length, tf11SeA, e7])
    refine ECall_intro (MoNew_calls k _ (by omega)) ?_
    rintro _ H2 ⟨b, rfl, m, x2⟩
    have hb1 := m.one
    have hcb : b.cells = [b] := AV.cells_one hb1
    repeat' first
      | (simp only [ACond, RA, EAtS_def, EAtX_def, wantedA, acall, astep, ev, ofValue, ofAtom, Nat.reduceEqDiff, Nat.reduceAdd, Nat.reduceMul, Nat.reduceSub, reduceCtorEq, reduceIte, aoptEv, abin, aint, ashift, aun, astr, aeqGuard, isConstOp, aconvH, aofStr, aconvSame, isU8, abuildSlice, afill, splice, azeros, Nat.reduceLeDiff, Nat.reduceLT, Int.reduceLE, Int.reduceLT, Int.reduceEq, Int.reduceToNat, Int.reducePow, IntKind.bits, Int.reduceNeg, RB, aalloc, Go.PW.dig_length, tf11SeA, e5])
    refine ECall_intro (Diag_calls k _ b (dg % 5000) _ m.ints (right_noughts (by omega)) (by omega) (fun i _ => by rw [ent_noughts]; unfold Fit; omega)) ?_
    rintro _ H3 ⟨b', ys, rfl, m', hry, _, x3⟩
    have hb1' := m'.one
    have hcb' : b'.cells = [b'] := AV.cells_one hb1'
    have q6 : hget H3 H.length = some (Sb 0 .nilS) := hget_ext (hget_ext (hget_at rfl) x2) x3
    have l3 := x3.len
    have l2 := x2.len
    simp only [List.length_append, List.length_cons, List.length_nil] at l2
    have m2 : Mo H3 b' ys (H.length + 1) := m'.low (by omega)
    repeat' first
      | (simp only [thenA, inBlockA, reduceIte, Nat.reduceEqDiff])
      | (simp only [ACond, RA, EAtS_def, EAtX_def, wantedA, acall, astep, ev, ofValue, ofAtom, Nat.reduceEqDiff, Nat.reduceAdd, Nat.reduceMul, Nat.reduceSub, reduceCtorEq, reduceIte, aoptEv, abin, aint, ashift, aun, astr, aeqGuard, isConstOp, aconvH, aofStr, aconvSame, isU8, abuildSlice, afill, splice, azeros, Nat.reduceLeDiff, Nat.reduceLT, Int.reduceLE, Int.reduceLT, Int.reduceEq, Int.reduceToNat, Int.reducePow, IntKind.bits, Int.reduceNeg, RB, aalloc, Go.PW.dig_length, tf11SeA, q6])
      | (simp (disch := first | omega | (simp only [RO]; done) | assumption) only [RS, six22, gix22, six26, gix26, bst24_e, bst24_0, bst24_01])
      | (simp (disch := (first | omega | (simp only [RO]; done) | assumption | (simp only [RM, Go.PW.dig_length]; done) | (simp only [RL, Go.PW.dig_length]; omega))) only [RD, reduceCtorEq, reduceIte, Go.PW.dig_length, Nat.reduceLeDiff, Nat.reduceAdd, Nat.reduceMul, Int.reduceToNat, tf11SeA, q6])
    all_goals exact ⟨b', H3.length, ys, rfl, by first | exact hget_at rfl | rw [if_pos rfl], by omega, m2.push _, hry, (((Ext.push _ _).trans x2).trans x3).pushed _⟩
  clear hK2
  obtain ⟨b, p, ys, k2, k6, k7, k8, q6, q8, lp, m, hry, x1⟩ := h
  repeat' first
    | (with_reducible first | refine AWp_seq_k (fun K hK => ?_) | refine AWp_block ?_ | refine AWp_regionE ?_)
    | (simp only [thenA, inBlockA, reduceIte, Nat.reduceEqDiff])
    | ((with_reducible refine hK _ _ ?_); clear hK)
    | (simp only [ACond, RA, EAtS_def, EAtX_def, wantedA, acall, astep, ev, ofValue, ofAtom, Nat.reduceEqDiff, Nat.reduceAdd, Nat.reduceMul, Nat.reduceSub, reduceCtorEq, reduceIte, aoptEv, abin, aint, ashift, aun, astr, aeqGuard, isConstOp, aconvH, aofStr, aconvSame, isU8, abuildSlice, afill, splice, azeros, Nat.reduceLeDiff, Nat.reduceLT, Int.reduceLE, Int.reduceLT, Int.reduceEq, Int.reduceToNat, Int.reducePow, IntKind.bits, Int.reduceNeg, RB, aalloc, Go.PW.dig_length, tf11SeA, k2, k6, k7, k8])
  refine AWp_loop (fun l fr' H1 => ∃ (i : Nat) (b : AV) (ys : List Int), l = 40 - i ∧ i ≤ 39 ∧ fr' 2 = c ∧ fr' 6 = .ptr H.length 0 ∧ fr' 7 = .int .i64 (k : Int) ∧ fr' 8 = .ptr p 0 ∧ fr' 10 = .int .i64 (i : Int) ∧ hget H1 H.length = some (Sb 0 .nilS) ∧ hget H1 p = some (Sb k b) ∧ Mo H1 b ys (H.length + 1) ∧ Right k ys ∧ Ext H H1) (m := 40)
    ⟨0, b, ys, by omega, by omega, k2, k6, k7, k8, rfl, q6, q8, m, hry, x1⟩ ?_
  clear k2 k6 k7 k8 q6 q8 m hry x1 b ys
  rintro l fr' H1 ⟨i, b, ys, rfl, hi, k2, k6, k7, k8, k10, q6, q8, m, hry, x1⟩
  have hb1 := m.one
  have hcb : b.cells = [b] := AV.cells_one hb1
  have w1 : IntKind.i64.wrap ((i : Int) + (k : Int)) = ((i + k : Nat) : Int) := by rw [wrap_i64_id (by omega) (by omega)]; omega
  have w2 : IntKind.i64.wrap (4 * (k : Int)) = ((4 * k : Nat) : Int) := by rw [wrap_i64_id (by omega) (by omega)]; omega
  by_cases hcond : i + k ≤ hs.length ∧ 0 < k ∧ i < 4 * k
  · obtain ⟨h1, h2, h3⟩ := hcond
    have f1 : (((i + k : Nat) : Int) ≤ (hs.length : Int)) = True := eq_true (by omega)
    have f2 : ((k : Int) > 0) = True := eq_true (by omega)
    have f3 : ((i : Int) < ((4 * k : Nat) : Int)) = True := eq_true (by omega)
    refine AWp_seq_k (fun K hQ => ?_)
    repeat' first
      | (with_reducible first | refine AWp_seq_k (fun K hK => ?_) | refine AWp_skip ?_ | refine AWp_regionE ?_ | refine AWp_condI ?_)
      | (with_reducible refine EGuard_split (fun hc => ?_) (fun hc => ?_) <;> (try simp only [RC] at hc) <;> (try (exfalso; first | omega | contradiction)))
      | (simp only [thenA, inBlockA, reduceIte, Nat.reduceEqDiff])
      | ((with_reducible refine hK _ _ ?_); clear hK)
      | (simp only [ACond, RA, EAtS_def, EAtX_def, wantedA, acall, astep, ev, ofValue, ofAtom, Nat.reduceEqDiff, Nat.reduceAdd, Nat.reduceMul, Nat.reduceSub, reduceCtorEq, reduceIte, aoptEv, abin, aint, ashift, aun, astr, aeqGuard, isConstOp, aconvH, aofStr, aconvSame, isU8, abuildSlice, afill, splice, azeros, Nat.reduceLeDiff, Nat.reduceLT, Int.reduceLE, Int.reduceLT, Int.reduceEq, Int.reduceToNat, Int.reducePow, IntKind.bits, Int.reduceNeg, RB, aalloc, Go.PW.dig_length, tf11SeA, k2, k6, k7, k8, k10, hlen, w1, w2, f1, f2, f3])
    refine hQ _ _ ?_
    clear hQ
    refine AWp_seq_k (fun K3 hK3 => ?_)
    refine AWp_block ?_
    refine AWp_seq_k (fun K hQ => ?_)
    repeat' first
      | (with_reducible first | refine AWp_regionE ?_)
      | (simp only [thenA, inBlockA, reduceIte, Nat.reduceEqDiff])
      | (simp only [ACond, RA, EAtS_def, EAtX_def, wantedA, acall, astep, ev, ofValue, ofAtom, Nat.reduceEqDiff, Nat.reduceAdd, Nat.reduceMul, Nat.reduceSub, reduceCtorEq, reduceIte, aoptEv, abin, aint, ashift, aun, astr, aeqGuard, isConstOp, aconvH, aofStr, aconvSame, isU8, abuildSlice, afill, splice, azeros, Nat.reduceLeDiff, Nat.reduceLT, Int.reduceLE, Int.reduceLT, Int.reduceEq, Int.reduceToNat, Int.reducePow, IntKind.bits, Int.reduceNeg, RB, aalloc, Go.PW.dig_length, tf11SeA, k2, k6, k7, k8, k10])
    refine hQ _ _ ?_
    clear hQ
    refine AWp_seq_k (fun K4 hK4 => ?_)
    repeat' first
      | (with_reducible first | refine AWp_seq_k (fun K hK => ?_) | refine AWp_block ?_ | refine AWp_regionE ?_)
      | (simp only [thenA, inBlockA, reduceIte, Nat.reduceEqDiff])
      | ((with_reducible refine hK _ _ ?_); clear hK)
      | (simp only [ACond, RA, EAtS_def, EAtX_def, wantedA, acall, astep, ev, ofValue, ofAtom, Nat.reduceEqDiff, Nat.reduceAdd, Nat.reduceMul, Nat.reduceSub, reduceCtorEq, reduceIte, aoptEv, abin, aint, ashift, aun, astr, aeqGuard, isConstOp, aconvH, aofStr, aconvSame, isU8, abuildSlice, afill, splice, azeros, Nat.reduceLeDiff, Nat.reduceLT, Int.reduceLE, Int.reduceLT, Int.reduceEq, Int.reduceToNat, Int.reducePow, IntKind.bits, Int.reduceNeg, RB, aalloc, Go.PW.dig_length, tf11SeA, k2, k6, k7, k8, k10])
    refine AWp_loop (fun l fr' H2 => ∃ (j : Nat) (v : AV) (gs : List Int), l = k - j ∧ j ≤ k ∧ fr' 2 = c ∧ fr' 6 = .ptr H.length 0 ∧ fr' 7 = .int .i64 (k : Int) ∧ fr' 8 = .ptr p 0 ∧ fr' 10 = .int .i64 (i : Int) ∧ fr' 11 = v ∧ fr' 12 = .int .i64 (j : Int) ∧ gs.length = j ∧ Own H2 1 2 v (gs.map (AV.int .i64)) j H1.length ∧ (∀ x ∈ gs, -200 < x ∧ x < 200) ∧ Ext H1 H2) (m := k)
      ⟨0, .nilS, [], by omega, by omega, k2, k6, k7, k8, k10, rfl, rfl, rfl, Own.nil _ _ _ _, fun x hx => by simp at hx, Ext.refl _⟩ ?_
    clear k2 k6 k7 k8 k10
    rintro l fr' H2 ⟨j, v, gs, rfl, hj, k2, k6, k7, k8, k10, k11, k12, hgl, O, hgs, x2⟩
    by_cases hjt : j < k
    · have w3 : IntKind.i64.wrap ((i : Int) + (j : Int)) = ((i + j : Nat) : Int) := by rw [wrap_i64_id (by omega) (by omega)]; omega
      have w4 : IntKind.i64.wrap ((j : Int) + 1) = ((j + 1 : Nat) : Int) := by rw [wrap_i64_id (by omega) (by omega)]; omega
      have hh2 := (hh.ext x1).ext x2
      obtain ⟨g, hg⟩ : ∃ g, g = (hs.getD (i + j) 0).tmod 200 := ⟨_, rfl⟩
      have hgb := tmod_200 (hs.getD (i + j) 0)
      rw [← hg] at hgb
      have w5 : IntKind.i64.wrap g = g := wrap_i64_id (by omega) (by omega)
      have hx := Rd.lit H2 (n := 1) (z := 1) (cs := [AV.int .i64 g]) (k := .own) (e := 2) (by decide) rfl
      obtain ⟨v', H', ha, O', x', _⟩ := Own.append (P := Tryz.prog) (H0 := H1) (O.push ⟨[AV.int .i64 g], .own, 2⟩) hx (x2.pushed _) und22 size2 zero2 rfl (by decide) bytes2 (ints_one _ _) rfl (by omega) (by omega)
      repeat' first
        | (with_reducible first | refine AWp_seq_k (fun K hK => ?_) | refine AWp_block ?_ | refine AWp_skip ?_ | refine AWp_regionE ?_ | refine AWp_condI ?_)
        | (with_reducible refine AIte (fun hc => ?_) (fun hc => ?_) <;> (try simp only [RC] at hc) <;> (try (exfalso; first | omega | contradiction)))
        | (simp only [thenA, inBlockA, reduceIte, Nat.reduceEqDiff])
        | ((with_reducible refine hK _ _ ?_); clear hK)
        | (simp only [ACond, RA, EAtS_def, EAtX_def, wantedA, acall, astep, ev, ofValue, ofAtom, Nat.reduceEqDiff, Nat.reduceAdd, Nat.reduceMul, Nat.reduceSub, reduceCtorEq, reduceIte, aoptEv, abin, aint, ashift, aun, astr, aeqGuard, isConstOp, aconvH, aofStr, aconvSame, isU8, abuildSlice, afill, splice, azeros, Nat.reduceLeDiff, Nat.reduceLT, Int.reduceLE, Int.reduceLT, Int.reduceEq, Int.reduceToNat, Int.reducePow, IntKind.bits, Int.reduceNeg, RB, aalloc, Go.PW.dig_length, tf11SeA, k2, k6, k7, k8, k10, k11, k12, w3, w4, ← hg, w5, ha])
        | (simp (disch := first | omega | (simp only [RO]; done) | assumption) only [RS, hh2.rd.at1 und26 size76, hh2.load1 agg76, six22, gix22, six26, gix26, bst24_e, bst24_0, bst24_01])
      all_goals
        refine ⟨_, by omega, j + 1, v', gs ++ [g], rfl, by omega, rfl, rfl, by rw [List.length_append, hgl]; rfl, by rw [List.map_append]; exact O', fun x hx => ?_, x'⟩
        rcases List.mem_append.1 hx with h | h
        · exact hgs x h
        · rw [List.mem_singleton.1 h]; exact hgb
    · obtain rfl : j = k := by omega
      repeat' first
        | (with_reducible first | refine AWp_seq_k (fun K hK => ?_) | refine AWp_exit ?_ | refine AWp_regionE ?_ | refine AWp_condI ?_)
        | (with_reducible refine AIte (fun hc => ?_) (fun hc => ?_) <;> (try simp only [RC] at hc) <;> (try (exfalso; first | omega | contradiction)))
        | (simp only [thenA, inBlockA, reduceIte, Nat.reduceEqDiff])
        | ((with_reducible refine hK _ _ ?_); clear hK)
        | (simp only [ACond, RA, EAtS_def, EAtX_def, wantedA, acall, astep, ev, ofValue, ofAtom, Nat.reduceEqDiff, Nat.reduceAdd, Nat.reduceMul, Nat.reduceSub, reduceCtorEq, reduceIte, aoptEv, abin, aint, ashift, aun, astr, aeqGuard, isConstOp, aconvH, aofStr, aconvSame, isU8, abuildSlice, afill, splice, azeros, Nat.reduceLeDiff, Nat.reduceLT, Int.reduceLE, Int.reduceLT, Int.reduceEq, Int.reduceToNat, Int.reducePow, IntKind.bits, Int.reduceNeg, RB, aalloc, Go.PW.dig_length, tf11SeA, k2, k6, k7, k8, k10, k11, k12])
      refine hK4 _ _ ?_
      have q62 := hget_ext q6 x2
      have q82 := hget_ext q8 x2
      have m2 := m.ext x2
      obtain ⟨w, hw⟩ : ∃ w, w = IntKind.i64.wrap (1 + (i : Int).tmod 3) := ⟨_, rfl⟩
      have hwv : w = 1 + (i : Int) % 3 := by rw [hw, tmod_pos (by omega), wrap_i64_id (by omega) (by omega)]
      have hv1 : v.one = true := O.rd.one
      have hcv : v.cells = [v] := AV.cells_one hv1
      subst hgl
      repeat' first
        | (with_reducible first | refine AWp_seq_k (fun K hK => ?_) | refine AWp_regionE ?_)
        | (simp only [thenA, inBlockA, reduceIte, Nat.reduceEqDiff])
        | (simp only [ACond, RA, EAtS_def, EAtX_def, wantedA, acall, astep, ev, ofValue, ofAtom, Nat.reduceEqDiff, Nat.reduceAdd, Nat.reduceMul, Nat.reduceSub, reduceCtorEq, reduceIte, aoptEv, abin, aint, ashift, aun, astr, aeqGuard, isConstOp, aconvH, aofStr, aconvSame, isU8, abuildSlice, afill, splice, azeros, Nat.reduceLeDiff, Nat.reduceLT, Int.reduceLE, Int.reduceLT, Int.reduceEq, Int.reduceToNat, Int.reducePow, IntKind.bits, Int.reduceNeg, RB, aalloc, Go.PW.dig_length, tf11SeA, k2, k6, k7, k8, k10, k11, k12, q62, q82, ← hw])
        | (simp (disch := (first | omega | (simp only [RO]; done) | assumption | (simp only [RM, Go.PW.dig_length]; done) | (simp only [RL, Go.PW.dig_length]; omega))) only [RD, reduceCtorEq, reduceIte, Go.PW.dig_length, Nat.reduceLeDiff, Nat.reduceAdd, Nat.reduceMul, Int.reduceToNat, tf11SeA, k2, k6, k7, k8, k10, k11, k12, q62, q82, ← hw])
      refine ECall_intro (Outer_calls gs.length ys gs b v w _ m2.ints hry (own_ints O) rfl (by omega) (fun x hx => by have := hgs x hx; omega)) ?_
      rintro _ H3 ⟨hres, x3⟩
      have q63 := hget_ext q62 x3
      have q83 := hget_ext q82 x3
      have l3 := x3.len
      have l2 := x2.len
      have l1 := x1.len
      have l6 := hget_lt q63
      have l8 := hget_lt q83
      have l0 := hget_lt q62
      have lq := hget_lt q82
      rcases hres with ⟨b', ys', rfl, m', hry', _⟩ | rfl
      · have hb1' := m'.one
        have hcb' : b'.cells = [b'] := AV.cells_one hb1'
        repeat' first
          | (with_reducible first | refine AWp_seq_k (fun K hK => ?_) | refine AWp_regionE ?_ | refine AWp_condI ?_)
          | (simp only [thenA, inBlockA, reduceIte, Nat.reduceEqDiff])
          | ((with_reducible refine hK _ _ ?_); clear hK)
          | (simp only [ACond, RA, EAtS_def, EAtX_def, wantedA, acall, astep, ev, ofValue, ofAtom, Nat.reduceEqDiff, Nat.reduceAdd, Nat.reduceMul, Nat.reduceSub, reduceCtorEq, reduceIte, aoptEv, abin, aint, ashift, aun, astr, aeqGuard, isConstOp, aconvH, aofStr, aconvSame, isU8, abuildSlice, afill, splice, azeros, Nat.reduceLeDiff, Nat.reduceLT, Int.reduceLE, Int.reduceLT, Int.reduceEq, Int.reduceToNat, Int.reducePow, IntKind.bits, Int.reduceNeg, RB, aalloc, Go.PW.dig_length, tf11SeA, k2, k6, k7, k8, k10, k11, k12, q63, q83])
          | (simp (disch := first | omega | (simp only [RO]; done) | assumption) only [RS, six22, gix22, six26, gix26, bst24_e, bst24_0, bst24_01])
          | (simp (disch := (first | omega | (simp only [RO]; done) | assumption | (simp only [RM, Go.PW.dig_length]; done) | (simp only [RL, Go.PW.dig_length]; omega))) only [RD, reduceCtorEq, reduceIte, Go.PW.dig_length, Nat.reduceLeDiff, Nat.reduceAdd, Nat.reduceMul, Int.reduceToNat, tf11SeA, k2, k6, k7, k8, k10, k11, k12, q63, q83])
        all_goals
          refine hK3 _ _ ?_
          repeat' first
            | (with_reducible first | refine AWp_regionE ?_)
            | (simp only [thenA, inBlockA, reduceIte, Nat.reduceEqDiff])
            | (simp only [ACond, RA, EAtS_def, EAtX_def, wantedA, acall, astep, ev, ofValue, ofAtom, Nat.reduceEqDiff, Nat.reduceAdd, Nat.reduceMul, Nat.reduceSub, reduceCtorEq, reduceIte, aoptEv, abin, aint, ashift, aun, astr, aeqGuard, isConstOp, aconvH, aofStr, aconvSame, isU8, abuildSlice, afill, splice, azeros, Nat.reduceLeDiff, Nat.reduceLT, Int.reduceLE, Int.reduceLT, Int.reduceEq, Int.reduceToNat, Int.reducePow, IntKind.bits, Int.reduceNeg, RB, aalloc, Go.PW.dig_length, tf11SeA, k2, k6, k7, k8, k10, w1])
            | (simp (disch := (first | omega | (simp only [RO]; done) | assumption | (simp only [RM, Go.PW.dig_length]; done) | (simp only [RL, Go.PW.dig_length]; omega))) only [RD, reduceCtorEq, reduceIte, Go.PW.dig_length, Nat.reduceLeDiff, Nat.reduceAdd, Nat.reduceMul, Int.reduceToNat, tf11SeA, k2, k6, k7, k8, k10, w1])
        all_goals
          exact ⟨_, by omega, i + gs.length, b', ys', rfl, by omega, rfl, by rw [hget_set l8, if_neg (by omega)]; exact q63, by rw [hget_set l8, if_pos rfl], ((m'.other (hget_lt q82) l8 _).low (by omega)).push _, hry', (((x1.trans x2).trans x3).set (by omega) _).pushed _⟩
      · skip
        repeat' first
          | (with_reducible first | refine AWp_seq_k (fun K hK => ?_) | refine AWp_skip ?_ | refine AWp_regionE ?_ | refine AWp_condI ?_)
          | (simp only [thenA, inBlockA, reduceIte, Nat.reduceEqDiff])
          | ((with_reducible refine hK _ _ ?_); clear hK)
          | (simp only [ACond, RA, EAtS_def, EAtX_def, wantedA, acall, astep, ev, ofValue, ofAtom, Nat.reduceEqDiff, Nat.reduceAdd, Nat.reduceMul, Nat.reduceSub, reduceCtorEq, reduceIte, aoptEv, abin, aint, ashift, aun, astr, aeqGuard, isConstOp, aconvH, aofStr, aconvSame, isU8, abuildSlice, afill, splice, azeros, Nat.reduceLeDiff, Nat.reduceLT, Int.reduceLE, Int.reduceLT, Int.reduceEq, Int.reduceToNat, Int.reducePow, IntKind.bits, Int.reduceNeg, RB, aalloc, Go.PW.dig_length, tf11SeA, k2, k6, k7, k8, k10, k11, k12, q63, q83])
          | (simp (disch := (first | omega | (simp only [RO]; done) | assumption | (simp only [RM, Go.PW.dig_length]; done) | (simp only [RL, Go.PW.dig_length]; omega))) only [RD, reduceCtorEq, reduceIte, Go.PW.dig_length, Nat.reduceLeDiff, Nat.reduceAdd, Nat.reduceMul, Int.reduceToNat, tf11SeA, k2, k6, k7, k8, k10, k11, k12, q63, q83])
        all_goals
          refine hK3 _ _ ?_
          repeat' first
            | (with_reducible first | refine AWp_regionE ?_)
            | (simp only [thenA, inBlockA, reduceIte, Nat.reduceEqDiff])
            | (simp only [ACond, RA, EAtS_def, EAtX_def, wantedA, acall, astep, ev, ofValue, ofAtom, Nat.reduceEqDiff, Nat.reduceAdd, Nat.reduceMul, Nat.reduceSub, reduceCtorEq, reduceIte, aoptEv, abin, aint, ashift, aun, astr, aeqGuard, isConstOp, aconvH, aofStr, aconvSame, isU8, abuildSlice, afill, splice, azeros, Nat.reduceLeDiff, Nat.reduceLT, Int.reduceLE, Int.reduceLT, Int.reduceEq, Int.reduceToNat, Int.reducePow, IntKind.bits, Int.reduceNeg, RB, aalloc, Go.PW.dig_length, tf11SeA, k2, k6, k7, k8, k10, w1])
            | (simp (disch := first | omega | (simp only [RO]; done) | assumption) only [RS, six22, gix22, six26, gix26, bst24_e, bst24_0, bst24_01])
        all_goals
          exact ⟨_, by omega, i + gs.length, b, ys, rfl, by omega, rfl, q63, q83, (m2.ext x3).push _, hry, ((x1.trans x2).trans x3).pushed _⟩
  · have l6 := hget_lt q6
    by_cases h1 : i + k ≤ hs.length
    · have f1 : (((i + k : Nat) : Int) ≤ (hs.length : Int)) = True := eq_true (by omega)
      by_cases h2 : 0 < k
      · have f2 : ((k : Int) > 0) = True := eq_true (by omega)
        have f3 : ((i : Int) < ((4 * k : Nat) : Int)) = False := eq_false (by omega)
        repeat' first
          | (with_reducible first | refine AWp_seq_k (fun K hK => ?_) | refine AWp_exit ?_ | refine AWp_ret ?_ | refine AWp_regionE ?_ | refine AWp_condI ?_)
          | (with_reducible refine EGuard_split (fun hc => ?_) (fun hc => ?_) <;> (try simp only [RC] at hc) <;> (try (exfalso; first | omega | contradiction)))
          | (simp only [thenA, inBlockA, reduceIte, Nat.reduceEqDiff])
          | ((with_reducible refine hK _ _ ?_); clear hK)
          | (clear hK; (with_reducible refine hK _ _ ?_); clear hK)
          | (simp only [ACond, RA, EAtS_def, EAtX_def, wantedA, acall, astep, ev, ofValue, ofAtom, Nat.reduceEqDiff, Nat.reduceAdd, Nat.reduceMul, Nat.reduceSub, reduceCtorEq, reduceIte, aoptEv, abin, aint, ashift, aun, astr, aeqGuard, isConstOp, aconvH, aofStr, aconvSame, isU8, abuildSlice, afill, splice, azeros, Nat.reduceLeDiff, Nat.reduceLT, Int.reduceLE, Int.reduceLT, Int.reduceEq, Int.reduceToNat, Int.reducePow, IntKind.bits, Int.reduceNeg, RB, aalloc, Go.PW.dig_length, tf11SeA, k2, k6, k7, k8, k10, hlen, w1, w2, f1, f2, f3, q6, q8])
          | (simp (disch := first | omega | (simp only [RO]; done) | assumption) only [RS, six22, gix22, six26, gix26, bst24_e, bst24_0, bst24_01])
          | (simp (disch := (first | omega | (simp only [RO]; done) | assumption | (simp only [RM, Go.PW.dig_length]; done) | (simp only [RL, Go.PW.dig_length]; omega))) only [RD, reduceCtorEq, reduceIte, Go.PW.dig_length, Nat.reduceLeDiff, Nat.reduceAdd, Nat.reduceMul, Int.reduceToNat, tf11SeA, k2, k6, k7, k8, k10, hlen, w1, w2, f1, f2, f3, q6, q8])
        all_goals
          (
           (refine AEnd_gen (rs := [.cell 6 24]) rfl ?_)
           (simp only [AEndR, aresults, Fr.put_some, Fr.put_none, fr0_zero, fr0_succ, fr0_nil, Nat.reduceEqDiff, reduceIte, k6, hget_set l6])
           (try simp (disch := (first | omega | (simp only [RO]; done) | assumption | (simp only [RM, Go.PW.dig_length]; done) | (simp only [RL, Go.PW.dig_length]; omega))) only [RD, reduceCtorEq, reduceIte, Go.PW.dig_length, Nat.reduceLeDiff, Nat.reduceAdd, Nat.reduceMul, Int.reduceToNat, tf11SeA, k6, hget_set l6]))
        all_goals exact ⟨k, b, ys, rfl, hk, (m.other (by omega) l6 _).low (by omega), hry, x1.set (by omega) _⟩
      · have f2 : ((k : Int) > 0) = False := eq_false (by omega)
        repeat' first
          | (with_reducible first | refine AWp_seq_k (fun K hK => ?_) | refine AWp_exit ?_ | refine AWp_ret ?_ | refine AWp_regionE ?_ | refine AWp_condI ?_)
          | (with_reducible refine EGuard_split (fun hc => ?_) (fun hc => ?_) <;> (try simp only [RC] at hc) <;> (try (exfalso; first | omega | contradiction)))
          | (simp only [thenA, inBlockA, reduceIte, Nat.reduceEqDiff])
          | ((with_reducible refine hK _ _ ?_); clear hK)
          | (clear hK; (with_reducible refine hK _ _ ?_); clear hK)
          | (simp only [ACond, RA, EAtS_def, EAtX_def, wantedA, acall, astep, ev, ofValue, ofAtom, Nat.reduceEqDiff, Nat.reduceAdd, Nat.reduceMul, Nat.reduceSub, reduceCtorEq, reduceIte, aoptEv, abin, aint, ashift, aun, astr, aeqGuard, isConstOp, aconvH, aofStr, aconvSame, isU8, abuildSlice, afill, splice, azeros, Nat.reduceLeDiff, Nat.reduceLT, Int.reduceLE, Int.reduceLT, Int.reduceEq, Int.reduceToNat, Int.reducePow, IntKind.bits, Int.reduceNeg, RB, aalloc, Go.PW.dig_length, tf11SeA, k2, k6, k7, k8, k10, hlen, w1, w2, f1, f2, q6, q8])
          | (simp (disch := first | omega | (simp only [RO]; done) | assumption) only [RS, six22, gix22, six26, gix26, bst24_e, bst24_0, bst24_01])
          | (simp (disch := (first | omega | (simp only [RO]; done) | assumption | (simp only [RM, Go.PW.dig_length]; done) | (simp only [RL, Go.PW.dig_length]; omega))) only [RD, reduceCtorEq, reduceIte, Go.PW.dig_length, Nat.reduceLeDiff, Nat.reduceAdd, Nat.reduceMul, Int.reduceToNat, tf11SeA, k2, k6, k7, k8, k10, hlen, w1, w2, f1, f2, q6, q8])
        all_goals
          (
           (refine AEnd_gen (rs := [.cell 6 24]) rfl ?_)
           (simp only [AEndR, aresults, Fr.put_some, Fr.put_none, fr0_zero, fr0_succ, fr0_nil, Nat.reduceEqDiff, reduceIte, k6, hget_set l6])
           (try simp (disch := (first | omega | (simp only [RO]; done) | assumption | (simp only [RM, Go.PW.dig_length]; done) | (simp only [RL, Go.PW.dig_length]; omega))) only [RD, reduceCtorEq, reduceIte, Go.PW.dig_length, Nat.reduceLeDiff, Nat.reduceAdd, Nat.reduceMul, Int.reduceToNat, tf11SeA, k6, hget_set l6]))
        all_goals exact ⟨k, b, ys, rfl, hk, (m.other (by omega) l6 _).low (by omega), hry, x1.set (by omega) _⟩
    · have f1 : (((i + k : Nat) : Int) ≤ (hs.length : Int)) = False := eq_false (by omega)
      repeat' first
        | (with_reducible first | refine AWp_seq_k (fun K hK => ?_) | refine AWp_exit ?_ | refine AWp_ret ?_ | refine AWp_regionE ?_ | refine AWp_condI ?_)
        | (with_reducible refine EGuard_split (fun hc => ?_) (fun hc => ?_) <;> (try simp only [RC] at hc) <;> (try (exfalso; first | omega | contradiction)))
        | (simp only [thenA, inBlockA, reduceIte, Nat.reduceEqDiff])
        | ((with_reducible refine hK _ _ ?_); clear hK)
        | (clear hK; (with_reducible refine hK _ _ ?_); clear hK)
        | (simp only [ACond, RA, EAtS_def, EAtX_def, wantedA, acall, astep, ev, ofValue, ofAtom, Nat.reduceEqDiff, Nat.reduceAdd, Nat.reduceMul, Nat.reduceSub, reduceCtorEq, reduceIte, aoptEv, abin, aint, ashift, aun, astr, aeqGuard, isConstOp, aconvH, aofStr, aconvSame, isU8, abuildSlice, afill, splice, azeros, Nat.reduceLeDiff, Nat.reduceLT, Int.reduceLE, Int.reduceLT, Int.reduceEq, Int.reduceToNat, Int.reducePow, IntKind.bits, Int.reduceNeg, RB, aalloc, Go.PW.dig_length, tf11SeA, k2, k6, k7, k8, k10, hlen, w1, w2, f1, q6, q8])
        | (simp (disch := first | omega | (simp only [RO]; done) | assumption) only [RS, six22, gix22, six26, gix26, bst24_e, bst24_0, bst24_01])
        | (simp (disch := (first | omega | (simp only [RO]; done) | assumption | (simp only [RM, Go.PW.dig_length]; done) | (simp only [RL, Go.PW.dig_length]; omega))) only [RD, reduceCtorEq, reduceIte, Go.PW.dig_length, Nat.reduceLeDiff, Nat.reduceAdd, Nat.reduceMul, Int.reduceToNat, tf11SeA, k2, k6, k7, k8, k10, hlen, w1, w2, f1, q6, q8])
      all_goals
        (
         (refine AEnd_gen (rs := [.cell 6 24]) rfl ?_)
         (simp only [AEndR, aresults, Fr.put_some, Fr.put_none, fr0_zero, fr0_succ, fr0_nil, Nat.reduceEqDiff, reduceIte, k6, hget_set l6])
         (try simp (disch := (first | omega | (simp only [RO]; done) | assumption | (simp only [RM, Go.PW.dig_length]; done) | (simp only [RL, Go.PW.dig_length]; omega))) only [RD, reduceCtorEq, reduceIte, Go.PW.dig_length, Nat.reduceLeDiff, Nat.reduceAdd, Nat.reduceMul, Int.reduceToNat, tf11SeA, k6, hget_set l6]))
      all_goals exact ⟨k, b, ys, rfl, hk, (m.other (by omega) l6 _).low (by omega), hry, x1.set (by omega) _⟩
end Go.Proofs.YtfalfmfkifemeaaGreatDoor
set_option linter.unusedVariables false
namespace Go.Proofs.YtfalfmfkifemeaaGreatDoor
open Go.AL
theorem wf_u8 {n : Int} (h : (Lit.int .u8 n).wf = true) : 0 ≤ n ∧ n ≤ 255 := by
  simp only [Lit.wf, Bool.and_eq_true, decide_eq_true_eq] at h
  have h1 : IntKind.u8.min = 0 := by decide +kernel
  have h2 : IntKind.u8.max = 255 := by decide +kernel
  omega
theorem wf_u16 {n : Int} (h : (Lit.int .u16 n).wf = true) : 0 ≤ n ∧ n ≤ 65535 := by
  simp only [Lit.wf, Bool.and_eq_true, decide_eq_true_eq] at h
  have h1 : IntKind.u16.min = 0 := by decide +kernel
  have h2 : IntKind.u16.max = 65535 := by decide +kernel
  omega
theorem noted_first (H : Hp) (x : Ext [⟨[], .glob 0 165 3 35, 0⟩] H) : Noted H := Noted.ext ⟨0, 0, rfl⟩ x
end Go.Proofs.YtfalfmfkifemeaaGreatDoor
set_option linter.unusedVariables false
set_option linter.unusedSimpArgs false
namespace Go.Proofs.YtfalfmfkifemeaaGreatDoor
open Go.AL Go.PW Go.PD
theorem tf18LdA : type_of% (And.intro @tyb4 (And.intro @tyb31 (And.intro @tyb32 (And.intro @tyb33 (And.intro @tyb44 (And.intro @tyb45 (@tyb46))))))) := And.intro @tyb4 (And.intro @tyb31 (And.intro @tyb32 (And.intro @tyb33 (And.intro @tyb44 (And.intro @tyb45 (@tyb46))))))
theorem tf16LdA : type_of% (And.intro @tyb3 (And.intro @tyb9 (And.intro @tyb34 (And.intro @tyb35 (@tyb87))))) := And.intro @tyb3 (And.intro @tyb9 (And.intro @tyb34 (And.intro @tyb35 (@tyb87))))
set_option maxRecDepth 8000
theorem guardW : Tryz.prog.eqGuardType Tryz.prog.depth 33 = false := by kernel_rfl
set_option maxHeartbeats 2000000 in
theorem HWide_calls (x : Int) (s : AV) (H : Hp) (hs : Bs_ H s x) (hx : (x.natAbs : Int) < Bs ^ 15) : ACalls Tryz.prog 18 [W x, BV x s] H fun r H' => r = .bool true ∧ H = H' := by
  refine ACalls.drop (R := fun r => r = .bool true) ?_
  have hs1 := hs.one
  have hc1 : s.cells = [s] := hs.cells
  have hW := fun H0 (x0 : Ext H H0) => ToWide_calls x s H0 (hs.ext x0) hx
  have he := eq_wide x
  have hg := guardW
  refine ACalls_body Tryz.func18 rfl (by kernel_rfl) (by kernel_rfl) ?_
  repeat' first
    | (with_reducible first | refine AWp_seq_k (fun K hK => ?_) | refine AWp_ret ?_ | refine AWp_regionE ?_)
    | ((with_reducible refine ECall_intro (hW _ ((Ext.push _ _).pushed _)) ?_); rintro _ _ ⟨rfl, rfl⟩)
    | (simp only [thenA, inBlockA, reduceIte, Nat.reduceEqDiff])
    | ((with_reducible refine hK _ _ ?_); clear hK)
    | (simp only [ACond, RA, EAtS_def, EAtX_def, wantedA, acall, astep, ev, ofValue, ofAtom, Nat.reduceEqDiff, Nat.reduceAdd, Nat.reduceMul, Nat.reduceSub, reduceCtorEq, reduceIte, aoptEv, abin, aint, ashift, aun, astr, aeqGuard, isConstOp, aconvH, aofStr, aconvSame, isU8, abuildSlice, afill, splice, azeros, Nat.reduceLeDiff, Nat.reduceLT, Int.reduceLE, Int.reduceLT, Int.reduceEq, Int.reduceToNat, Int.reducePow, IntKind.bits, Int.reduceNeg, RB, aalloc, Go.PW.dig_length, tf18LdA, he, hg])
    | (simp (disch := first | omega | (simp only [RO]; done) | assumption) only [RS, six44, gix44, idx32, slh32, idx33, slh33, bst46_e, bst46_01])
    | (simp (disch := (first | omega | (simp only [RO]; done) | assumption | (simp only [RM, Go.PW.dig_length]; done) | (simp only [RL, Go.PW.dig_length]; omega))) only [RD, reduceCtorEq, reduceIte, Go.PW.dig_length, Nat.reduceLeDiff, Nat.reduceAdd, Nat.reduceMul, Int.reduceToNat, tf18LdA, he, hg])
  all_goals
    (
     (refine AEnd_gen (rs := [.tmp 4]) rfl ?_)
     (simp only [AEndR, aresults, Fr.put_some, Fr.put_none, fr0_zero, fr0_succ, fr0_nil, Nat.reduceEqDiff, reduceIte])
     (try simp (disch := (first | omega | (simp only [RO]; done) | assumption | (simp only [RM, Go.PW.dig_length]; done) | (simp only [RL, Go.PW.dig_length]; omega))) only [RD, reduceCtorEq, reduceIte, Go.PW.dig_length, Nat.reduceLeDiff, Nat.reduceAdd, Nat.reduceMul, Int.reduceToNat, tf18LdA]))
  all_goals exact ⟨((Ext.push _ _).pushed _).pushed _, trivial⟩
set_option maxHeartbeats 2000000 in
theorem says6_err (n m : Int) (v : AV) (H : Hp) (hv : Err H v elimS m) (hN : Noted H) (hn : 0 < n ∧ n < 256) (hm : 0 < m ∧ m < 256) : ACalls Tryz.prog 16 [v, .int .i64 n] H fun r H' => r = .bool (decide (m = n)) ∧ H = H' := by
  refine ACalls.drop (R := fun r => r = .bool (decide (m = n))) ?_
  have f0 : (n = 0) = False := eq_false (by omega)
  have hC := fun H0 (x0 : Ext H H0) => code_calls elimS m v H0 (hv.ext x0) (hN.ext x0)
  refine ACalls_body Tryz.func16 rfl (by kernel_rfl) (by kernel_rfl) ?_
  repeat' first
    | (with_reducible first | refine AWp_seq_k (fun K hK => ?_) | refine AWp_skip ?_ | refine AWp_ret ?_ | refine AWp_regionE ?_ | refine AWp_condI ?_)
    | ((with_reducible refine ECall_intro (ops_calls elimS m v _ hv) ?_); rintro _ _ ⟨rfl, rfl⟩)
    | ((with_reducible refine ECall_intro (hC _ ((Ext.push _ _).pushed _)) ?_); rintro _ _ ⟨rfl, rfl⟩)
    | (with_reducible refine EGuard_split (fun hc => ?_) (fun hc => ?_) <;> (try simp only [RC] at hc) <;> (try (exfalso; first | omega | contradiction)))
    | (simp only [thenA, inBlockA, reduceIte, Nat.reduceEqDiff])
    | ((with_reducible refine hK _ _ ?_); clear hK)
    | (simp only [ACond, RA, EAtS_def, EAtX_def, wantedA, acall, astep, ev, ofValue, ofAtom, Nat.reduceEqDiff, Nat.reduceAdd, Nat.reduceMul, Nat.reduceSub, reduceCtorEq, reduceIte, aoptEv, abin, aint, ashift, aun, astr, aeqGuard, isConstOp, aconvH, aofStr, aconvSame, isU8, abuildSlice, afill, splice, azeros, Nat.reduceLeDiff, Nat.reduceLT, Int.reduceLE, Int.reduceLT, Int.reduceEq, Int.reduceToNat, Int.reducePow, IntKind.bits, Int.reduceNeg, RB, aalloc, Go.PW.dig_length, tf16LdA, f0])
    | (simp (disch := first | omega | (simp only [RO]; done) | assumption) only [RS, six87, gix87])
    | (simp (disch := (first | omega | (simp only [RO]; done) | assumption | (simp only [RM, Go.PW.dig_length]; done) | (simp only [RL, Go.PW.dig_length]; omega))) only [RD, reduceCtorEq, reduceIte, Go.PW.dig_length, Nat.reduceLeDiff, Nat.reduceAdd, Nat.reduceMul, Int.reduceToNat, tf16LdA, f0])
  all_goals
    (
     (refine AEnd_gen (rs := [.tmp 4]) rfl ?_)
     (simp only [AEndR, aresults, Fr.put_some, Fr.put_none, fr0_zero, fr0_succ, fr0_nil, Nat.reduceEqDiff, reduceIte])
     (try simp (disch := (first | omega | (simp only [RO]; done) | assumption | (simp only [RM, Go.PW.dig_length]; done) | (simp only [RL, Go.PW.dig_length]; omega))) only [RD, reduceCtorEq, reduceIte, Go.PW.dig_length, Nat.reduceLeDiff, Nat.reduceAdd, Nat.reduceMul, Int.reduceToNat, tf16LdA]))
  all_goals
    refine ⟨(Ext.push _ _).pushed _, trivial, ?_⟩
    first | rw [decide_eq_true (show m = n by assumption)] | rw [decide_eq_false (show ¬ m = n by assumption)]
end Go.Proofs.YtfalfmfkifemeaaGreatDoor
set_option linter.unusedVariables false
set_option linter.unusedSimpArgs false
namespace Go.Proofs.YtfalfmfkifemeaaGreatDoor
open Go.AL Go.PW Go.PD
theorem tf10LdB : type_of% (And.intro @tyb2 (And.intro @tyb3 (And.intro @tyb4 (And.intro @tyb22 (And.intro @tyb23 (And.intro @tyb24 (And.intro @tyb31 (And.intro @tyb32 (And.intro @tyb33 (And.intro @tyb34 (And.intro @tyb35 (And.intro @tyb38 (And.intro @tyb44 (And.intro @tyb45 (@tyb46))))))))))))))) := And.intro @tyb2 (And.intro @tyb3 (And.intro @tyb4 (And.intro @tyb22 (And.intro @tyb23 (And.intro @tyb24 (And.intro @tyb31 (And.intro @tyb32 (And.intro @tyb33 (And.intro @tyb34 (And.intro @tyb35 (And.intro @tyb38 (And.intro @tyb44 (And.intro @tyb45 (@tyb46))))))))))))))
abbrev pn10_5LdB : Plan := (.one 0 (.one 1 (.one 2 (.one 3 (.one 4 (.one 5 (.one 6 (.one 7 (.ext 8 (.one 9 (.one 10 (.one 11 (.one 12 (.one 13 (.one 14 (.one 15 (.one 16 (.one 17 (.one 18 (.one 19 (.one 20 (.one 21 (.one 22 (.one 23 (.one 24 (.one 25 (.one 26 (.one 27 (.one 28 (.one 29 (.one 30 .nil)))))))))))))))))))))))))))))))
set_option maxRecDepth 8000
theorem WsV.len {H : Hp} {v : AV} {ls : List Int} {lo : Nat} (h : WsV H v ls lo) : abuiltin Tryz.prog .len #[38] [v] = some (.int .i64 (ls.length : Int)) := h.rd.len und38
theorem WsV.ext {H H' : Hp} {v : AV} {ls : List Int} {lo : Nat} (h : WsV H v ls lo) (x : Ext H H') : WsV H' v ls lo := by
  rcases h with h | ⟨k, h1, h2, h3⟩
  · exact .inl h
  · exact .inr ⟨k, h1, hget_ext h2 x, h3⟩
theorem not_right_nil : ¬ Right (1 : Int) [] := fun h => by have := h.1.2.2; simp at this
theorem right_o1 (x : Int) (h : Fit x) : Right (1 : Nat) [x] := ⟨⟨by omega, by omega, by rfl⟩, fun y hy => by rw [List.mem_singleton.1 hy]; exact h⟩
theorem ints_o1 (H : Hp) (x : Int) : Ints (H ++ [Ib [x]]) .i64 (.sl H.length 0 1 1) [x] := Ints.lit H (by decide) rfl
theorem ints_lit3 (H : Hp) : Ints (H ++ [Ib [2, 1, 2]]) .i64 (.sl H.length 0 3 3) [2, 1, 2] := Ints.lit H (by decide) rfl
set_option maxHeartbeats 8000000 in
theorem known6_calls (H : Hp) (hN : Noted H) : ACalls Tryz.prog 10 [] H fun r H' => r = .bool true ∧ H = H' := by
  refine ACalls.drop (R := fun r => r = .bool true) ?_
  obtain ⟨a, ha⟩ : ∃ a : AV, a = .sl H.length 0 3 3 := ⟨_, rfl⟩
  have I : Ints (H ++ [Ib [2, 1, 2]]) .i64 a [2, 1, 2] := by rw [ha]; exact ints_lit3 H
  have R3 : Right (2 : Nat) [2, 1, 2] := ⟨⟨by omega, by omega, by rfl⟩, fun x hx => by
    simp only [List.mem_cons, List.not_mem_nil, or_false] at hx
    unfold Fit
    rcases hx with rfl | rfl | rfl <;> omega⟩
  have d1 : P (ent 2 [2, 1, 2]) 2 = 3 := by decide +kernel
  have d2 : (lead (ent 2 [2, 1, 2]) 2 0).length = 2 := by decide +kernel
  have d3 : posB (ent 2 [2, 1, 2]) 2 = true := by decide +kernel
  have d4 : posB (ent 1 [0]) 1 = false := by decide +kernel
  have D1 := fun H0 (x0 : Ext (H ++ [Ib [2, 1, 2]]) H0) => Det_calls 2 [2, 1, 2] a H0 (I.ext x0) R3
  have D2 := fun H0 (x0 : Ext (H ++ [Ib [2, 1, 2]]) H0) => Definite_calls 2 [2, 1, 2] a H0 (I.ext x0) R3
  have D3 := fun H0 (x0 : Ext (H ++ [Ib [2, 1, 2]]) H0) => Minors_calls 2 [2, 1, 2] a H0 (I.ext x0) R3
  rw [d1] at D1
  rw [d3] at D2
  have ha1 : a.one = true := by rw [ha]; rfl
  have hc : a.cells = [a] := AV.cells_one ha1
  simp only [Int.cast_ofNat_Int] at D1 D2 D3
  refine ACalls_body Tryz.func10 rfl (by kernel_rfl) (by kernel_rfl) ?_
  repeat' first
    | (with_reducible first | refine AWp_seq_k (fun K hK => ?_) | refine AWp_regionE ?_)
    | ((with_reducible refine ECall_intro (D1 _ (Ext.push _ _)) ?_); rintro _ _ ⟨rfl, rfl⟩)
    | (simp only [thenA, inBlockA, reduceIte, Nat.reduceEqDiff])
    | ((with_reducible refine hK _ _ ?_); clear hK)
    | (simp only [ACond, RA, EAtS_def, EAtX_def, wantedA, acall, astep, ev, ofValue, ofAtom, Nat.reduceEqDiff, Nat.reduceAdd, Nat.reduceMul, Nat.reduceSub, reduceCtorEq, reduceIte, aoptEv, abin, aint, ashift, aun, astr, aeqGuard, isConstOp, aconvH, aofStr, aconvSame, isU8, abuildSlice, afill, splice, azeros, Nat.reduceLeDiff, Nat.reduceLT, Int.reduceLE, Int.reduceLT, Int.reduceEq, Int.reduceToNat, Int.reducePow, IntKind.bits, Int.reduceNeg, RB, aalloc, Go.PW.dig_length, tf10LdB, ← ha])
    | (simp (disch := first | omega | (simp only [RO]; done) | assumption) only [RS, six22, gix22, six38, gix38, six44, gix44, idx32, slh32, idx33, slh33, bst24_e, bst24_0, bst24_01, bst46_e, bst46_01])
    | (simp (disch := (first | omega | (simp only [RO]; done) | assumption | (simp only [RM, Go.PW.dig_length]; done) | (simp only [RL, Go.PW.dig_length]; omega))) only [RD, reduceCtorEq, reduceIte, Go.PW.dig_length, Nat.reduceLeDiff, Nat.reduceAdd, Nat.reduceMul, Int.reduceToNat, tf10LdB, ← ha])
  refine ECall_intro (D3 _ (((Ext.push _ _).pushed _))) ?_
  rintro _ H2 ⟨v, rfl, V, x2⟩
  have q1 : hget H2 (H.length + 1) = some (Sb 2 a) := hget_ext (by rw [hget_old (by simp), hget_at (by simp)]) x2
  have q2 : hget H2 (H.length + 1 + 1) = some (Wb 3) := hget_ext (hget_at (by simp)) x2
  have hv1 : v.one = true := V.rd.one
  have hcv : v.cells = [v] := AV.cells_one hv1
  repeat' first
    | (with_reducible first | refine AWp_seq_k (fun K hK => ?_) | refine AWp_regionE ?_)
    | (simp only [thenA, inBlockA, reduceIte, Nat.reduceEqDiff])
    | ((with_reducible refine hK _ _ ?_); clear hK)
    | (simp only [ACond, RA, EAtS_def, EAtX_def, wantedA, acall, astep, ev, ofValue, ofAtom, Nat.reduceEqDiff, Nat.reduceAdd, Nat.reduceMul, Nat.reduceSub, reduceCtorEq, reduceIte, aoptEv, abin, aint, ashift, aun, astr, aeqGuard, isConstOp, aconvH, aofStr, aconvSame, isU8, abuildSlice, afill, splice, azeros, Nat.reduceLeDiff, Nat.reduceLT, Int.reduceLE, Int.reduceLT, Int.reduceEq, Int.reduceToNat, Int.reducePow, IntKind.bits, Int.reduceNeg, RB, aalloc, Go.PW.dig_length, tf10LdB, q1])
    | (simp (disch := first | omega | (simp only [RO]; done) | assumption) only [RS, six22, gix22, six38, gix38, six44, gix44, idx32, slh32, idx33, slh33, bst24_e, bst24_0, bst24_01, bst46_e, bst46_01])
  refine ECall_intro (Det_bad 1 [] .nilS _ (Ints.nil _ _) (by simp) not_right_nil) ?_
  rintro _ H3 ⟨e, rfl, E, x3⟩
  have he1 : e.one = true := by obtain ⟨k, rfl, _⟩ := E; rfl
  have hce : e.cells = [e] := AV.cells_one he1
  have x0 : Ext H (H3 ++ [Wb 0]) := (((((Ext.push _ _).pushed _).pushed _).trans x2).trans x3).pushed _
  have q13 := hget_ext (hget_ext q1 x3) (Ext.push H3 (Wb 0))
  have q23 := hget_ext (hget_ext q2 x3) (Ext.push H3 (Wb 0))
  have hlen := V.len
  rw [d2] at hlen
  repeat' first
    | (with_reducible first | refine AWp_seq_k (fun K hK => ?_) | refine AWp_drawE (id := 5) [8] pn10_5LdB (by kernel_rfl) (by kernel_rfl) ?_ | refine Run_ext ?_)
    | (simp only [thenA, inBlockA, reduceIte, Nat.reduceEqDiff])
    | ((with_reducible refine hK _ _ ?_); clear hK)
    | (simp only [ACond, RA, EAtS_def, EAtX_def, wantedA, acall, astep, ev, ofValue, ofAtom, Nat.reduceEqDiff, Nat.reduceAdd, Nat.reduceMul, Nat.reduceSub, reduceCtorEq, reduceIte, aoptEv, abin, aint, ashift, aun, astr, aeqGuard, isConstOp, aconvH, aofStr, aconvSame, isU8, abuildSlice, afill, splice, azeros, Nat.reduceLeDiff, Nat.reduceLT, Int.reduceLE, Int.reduceLT, Int.reduceEq, Int.reduceToNat, Int.reducePow, IntKind.bits, Int.reduceNeg, RB, aalloc, Go.PW.dig_length, tf10LdB, eq_nilI und35, q13, q23, hlen])
    | (simp (disch := (first | omega | (simp only [RO]; done) | assumption | (simp only [RM, Go.PW.dig_length]; done) | (simp only [RL, Go.PW.dig_length]; omega))) only [RD, reduceCtorEq, reduceIte, Go.PW.dig_length, Nat.reduceLeDiff, Nat.reduceAdd, Nat.reduceMul, Int.reduceToNat, tf10LdB, eq_nilI und35, q13, q23, hlen])
  all_goals
    refine EExt_intro (Of_calls 3 _ (by omega)) ?_
    rintro _ H4 ⟨s, rfl, S, x4⟩
    refine ⟨x4, ?_⟩
    have hos : s.one = true := S.one
    have hcs : s.cells = [s] := S.cells
    have q14 := hget_ext q13 x4
    have q15 : hget (H4 ++ [⟨[.int .i64 0], .own, 2⟩]) (H.length + 1) = some (Sb 2 a) := hget_ext q14 (Ext.push _ _)
    have E4 : Err H4 e elimS 23 := (E.push _).ext x4
    have N4 : Noted H4 := (hN.ext x0).ext x4
    have S4 := says6_err 23 23 e H4 E4 N4 (by omega) (by omega)
    rw [decide_eq_true rfl] at S4
    have xx : Ext (H ++ [Ib [2, 1, 2]]) H4 := ((((((Ext.push _ _).pushed _).trans x2).trans x3).pushed _).trans x4)
    have D2' := D2 _ xx
    have D4 := Definite_calls 1 [0] (.sl H4.length 0 1 1) (H4 ++ [Ib [0]]) (ints_o1 H4 0) (right_o1 0 (by unfold Fit; omega))
    rw [d4] at D4
    simp only [Int.cast_ofNat_Int, Ib, List.map_cons, List.map_nil] at D4
    have hW := HWide_calls 3 s H4 S (by decide)
    repeat' first
      | (with_reducible first | refine AWp_ret ?_)
      | ((with_reducible refine ECall_intro (hW) ?_); rintro _ _ ⟨rfl, rfl⟩)
      | ((with_reducible refine ECall_intro (S4) ?_); rintro _ _ ⟨rfl, rfl⟩)
      | ((with_reducible refine ECall_intro (D2') ?_); rintro _ _ ⟨rfl, rfl⟩)
      | ((with_reducible refine ECall_intro (D4) ?_); rintro _ _ ⟨rfl, rfl⟩)
      | (simp only [thenA, inBlockA, reduceIte, Nat.reduceEqDiff])
      | ((with_reducible refine hK _ _ ?_); clear hK)
      | (simp only [ACond, RA, EAtS_def, EAtX_def, wantedA, acall, astep, ev, ofValue, ofAtom, Nat.reduceEqDiff, Nat.reduceAdd, Nat.reduceMul, Nat.reduceSub, reduceCtorEq, reduceIte, aoptEv, abin, aint, ashift, aun, astr, aeqGuard, isConstOp, aconvH, aofStr, aconvSame, isU8, abuildSlice, afill, splice, azeros, Nat.reduceLeDiff, Nat.reduceLT, Int.reduceLE, Int.reduceLT, Int.reduceEq, Int.reduceToNat, Int.reducePow, IntKind.bits, Int.reduceNeg, RB, aalloc, Go.PW.dig_length, tf10LdB, q14, q15, hlen])
      | (simp (disch := first | omega | (simp only [RO]; done) | assumption) only [RS, six22, gix22, six38, gix38, six44, gix44, idx32, slh32, idx33, slh33, bst24_e, bst24_0, bst24_01, bst46_e, bst46_01])
      | (simp (disch := (first | omega | (simp only [RO]; done) | assumption | (simp only [RM, Go.PW.dig_length]; done) | (simp only [RL, Go.PW.dig_length]; omega))) only [RD, reduceCtorEq, reduceIte, Go.PW.dig_length, Nat.reduceLeDiff, Nat.reduceAdd, Nat.reduceMul, Int.reduceToNat, tf10LdB, q14, q15, hlen])
  all_goals
    (
     (refine AEnd_gen (rs := [.tmp 0]) rfl ?_)
     (simp only [AEndR, aresults, Fr.put_some, Fr.put_none, fr0_zero, fr0_succ, fr0_nil, Nat.reduceEqDiff, reduceIte])
     (try simp (disch := (first | omega | (simp only [RO]; done) | assumption | (simp only [RM, Go.PW.dig_length]; done) | (simp only [RL, Go.PW.dig_length]; omega))) only [RD, reduceCtorEq, reduceIte, Go.PW.dig_length, Nat.reduceLeDiff, Nat.reduceAdd, Nat.reduceMul, Int.reduceToNat, tf10LdB]))
  all_goals exact ⟨(x0.trans x4).pushed _, trivial⟩
theorem lead_take (a : Nat → Nat → Int) : ∀ c n k, c ≤ n → lead a c k = (lead a n k).take c
  | 0, n, k, _ => by simp [lead]
  | c + 1, 0, k, h => by omega
  | c + 1, n + 1, k, h => by
    have ih := lead_take a c n (k + 1) (by omega)
    simp only [lead, List.take_succ_cons]
    congr 1
    split
    · simp
    · exact ih
theorem lead_congr {a b : Nat → Nat → Int} : ∀ c k, (∀ m, k < m → m ≤ k + c → P a m = P b m) → lead a c k = lead b c k
  | 0, k, _ => rfl
  | c + 1, k, h => by
    simp only [lead]
    rw [h (k + 1) (by omega) (by omega), lead_congr c (k + 1) fun m h1 h2 => h m (by omega) (by omega)]
end Go.Proofs.YtfalfmfkifemeaaGreatDoor

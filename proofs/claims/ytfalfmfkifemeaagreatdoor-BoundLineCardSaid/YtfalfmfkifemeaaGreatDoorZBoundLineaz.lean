/- Part 26 of the proof of the law BoundLine of this seat: lemmas on the model's code, on this program's functions, on numbers. No condition. -/
import Derived.Test.YtfalfmfkifemeaaGreatDoorZBoundLineay
set_option linter.unusedVariables false
set_option linter.unusedSimpArgs false
namespace Go.Proofs.YtfalfmfkifemeaaGreatDoor
open Go.AL Go.PW Go.PD
theorem tf9LnB : type_of% (And.intro @tyb2 (And.intro @tyb3 (And.intro @tyb4 (And.intro @tyb5 (And.intro @tyb22 (And.intro @tyb23 (And.intro @tyb24 (And.intro @tyb25 (And.intro @tyb26 (And.intro @tyb76 (@cv25_2))))))))))) := And.intro @tyb2 (And.intro @tyb3 (And.intro @tyb4 (And.intro @tyb5 (And.intro @tyb22 (And.intro @tyb23 (And.intro @tyb24 (And.intro @tyb25 (And.intro @tyb26 (And.intro @tyb76 (@cv25_2))))))))))
set_option maxRecDepth 8000
theorem symm_ent (n : Nat) (xs : List Int) : Symm n (ent n xs) := fun i j _ _ => ent_comm n xs i j
theorem symm_nul (n : Nat) : Symm n nul := fun i j _ _ => rfl
theorem posB_Pos {n : Nat} {a : Nat → Nat → Int} (hs : Symm n a) : posB a n = true ↔ Pos n a := by
  rw [posB_iff, pos_iff hs]
theorem leastB_Pos (n : Nat) (xs : List Int) (k : Int) : leastB n xs k = true ↔ Pos n (dif (ent n xs) nul (-k)) := posB_Pos (Symm.dif (symm_ent n xs) (symm_nul n))
theorem mostB_Pos (n : Nat) (xs : List Int) (k : Int) : mostB n xs k = true ↔ Pos n (dif nul (ent n xs) k) := posB_Pos (Symm.dif (symm_nul n) (symm_ent n xs))
theorem leastB_less {n : Nat} {xs : List Int} {k k' : Int} (h : leastB n xs k = true) (hk : k' ≤ k) : leastB n xs k' = true := (leastB_Pos n xs k').2 (((leastB_Pos n xs k).1 h).more (by omega))
theorem mostB_more {n : Nat} {xs : List Int} {k k' : Int} (h : mostB n xs k = true) (hk : k ≤ k') : mostB n xs k' = true := (mostB_Pos n xs k').2 (((mostB_Pos n xs k).1 h).more hk)
theorem leastB_not {n : Nat} {xs : List Int} {k k' : Int} (h : leastB n xs k = false) (hk : k ≤ k') : leastB n xs k' = false := by
  rw [Bool.eq_false_iff] at h ⊢
  exact fun e => h (leastB_less e hk)
theorem mostB_not {n : Nat} {xs : List Int} {k k' : Int} (h : mostB n xs k = false) (hk : k' ≤ k) : mostB n xs k' = false := by
  rw [Bool.eq_false_iff] at h ⊢
  exact fun e => h (mostB_more e hk)
set_option maxHeartbeats 16000000 in
theorem boundLine_calls (n dg : Int) (hs : List Int) (c : AV) (k j : Int) (H : Hp) (hN : Noted H) (hn : 0 ≤ n ∧ n ≤ 255) (hdg : 0 ≤ dg ∧ dg ≤ 65535) (hh : Ints H .i16 c hs) (hk : 0 ≤ k ∧ k ≤ 65535) (hj : 0 ≤ j ∧ j ≤ 65535) : ACalls Tryz.prog 9 [.int .u8 n, .int .u16 dg, c, .int .u16 k, .int .u16 j] H fun r H' => r = .bool true ∧ H = H' := by
  refine ACalls.drop (R := fun r => r = .bool true) ?_
  have hlen := hh.rd.len und26
  obtain ⟨A, hA⟩ : ∃ A : Int, A = k % 6000 := ⟨_, rfl⟩
  obtain ⟨B, hB⟩ : ∃ B : Int, B = j * 40 := ⟨_, rfl⟩
  have eA : IntKind.i64.wrap (k.tmod 6000) = A := by rw [tmod_pos hk.1, wrap_i64_id (by omega) (by omega), hA]
  have ej : IntKind.i64.wrap j = j := wrap_i64_id (by omega) (by omega)
  have ek : IntKind.i64.wrap k = k := wrap_i64_id (by omega) (by omega)
  have eB : IntKind.i64.wrap (j * 40) = B := by rw [wrap_i64_id (by omega) (by omega), hB]
  have eA1 : IntKind.i64.wrap (A - 1) = A - 1 := wrap_i64_id (by omega) (by omega)
  have eA2 : IntKind.i64.wrap (A - 1 - j) = A - 1 - j := wrap_i64_id (by omega) (by omega)
  have eA3 : IntKind.i64.wrap (A + 1) = A + 1 := wrap_i64_id (by omega) (by omega)
  have eA4 : IntKind.i64.wrap (A + 1 + j) = A + 1 + j := wrap_i64_id (by omega) (by omega)
  have eB1 : IntKind.i64.wrap (B - 1) = B - 1 := wrap_i64_id (by omega) (by omega)
  have eB2 : IntKind.i64.wrap (B - 1 - k) = B - 1 - k := wrap_i64_id (by omega) (by omega)
  have eB3 : IntKind.i64.wrap (B + 1) = B + 1 := wrap_i64_id (by omega) (by omega)
  have eB4 : IntKind.i64.wrap (B + 1 + k) = B + 1 + k := wrap_i64_id (by omega) (by omega)
  by_cases h60 : (hs.length : Int) > 60
  · have f60 : ((hs.length : Int) > 60) = True := eq_true h60
    refine ACalls_body Tryz.func9 rfl (by kernel_rfl) (by kernel_rfl) ?_
    repeat' first
      | (with_reducible first | refine AWp_seq_k (fun K hK => ?_) | refine AWp_skip ?_ | refine AWp_ret ?_ | refine AWp_regionE ?_ | refine AWp_condI ?_)
      | ((with_reducible refine ECall_intro (known9_calls _ hN) ?_); rintro _ _ ⟨rfl, rfl⟩)
      | (simp only [thenA, inBlockA, reduceIte, Nat.reduceEqDiff])
      | ((with_reducible refine hK _ _ ?_); clear hK)
      | (simp only [ACond, RA, EAtS_def, EAtX_def, wantedA, acall, astep, ev, ofValue, ofAtom, Nat.reduceEqDiff, Nat.reduceAdd, Nat.reduceMul, Nat.reduceSub, reduceCtorEq, reduceIte, aoptEv, abin, aint, ashift, aun, astr, aeqGuard, isConstOp, aconvH, aofStr, aconvSame, isU8, abuildSlice, afill, splice, azeros, Nat.reduceLeDiff, Nat.reduceLT, Int.reduceLE, Int.reduceLT, Int.reduceEq, Int.reduceToNat, Int.reducePow, IntKind.bits, Int.reduceNeg, RB, aalloc, Go.PW.dig_length, tf9LnB, hlen, f60])
    all_goals
      (
       (refine AEnd_gen (rs := [.tmp 10]) rfl ?_)
       (simp only [AEndR, aresults, Fr.put_some, Fr.put_none, fr0_zero, fr0_succ, fr0_nil, Nat.reduceEqDiff, reduceIte])
       (try simp (disch := (first | omega | (simp only [RO]; done) | assumption | (simp only [RM, Go.PW.dig_length]; done) | (simp only [RL, Go.PW.dig_length]; omega))) only [RD, reduceCtorEq, reduceIte, Go.PW.dig_length, Nat.reduceLeDiff, Nat.reduceAdd, Nat.reduceMul, Int.reduceToNat, tf9LnB]))
    all_goals exact ⟨Ext.refl _, trivial⟩
  · have f60 : ((hs.length : Int) > 60) = False := eq_false h60
    refine ACalls_body Tryz.func9 rfl (by kernel_rfl) (by kernel_rfl) ?_
    refine AWp_seq_k (fun K hQ => ?_)
    repeat' first
      | (with_reducible first | refine AWp_seq_k (fun K hK => ?_) | refine AWp_skip ?_ | refine AWp_regionE ?_ | refine AWp_condI ?_)
      | ((with_reducible refine ECall_intro (known9_calls _ hN) ?_); rintro _ _ ⟨rfl, rfl⟩)
      | (simp only [thenA, inBlockA, reduceIte, Nat.reduceEqDiff])
      | ((with_reducible refine hK _ _ ?_); clear hK)
      | (simp only [ACond, RA, EAtS_def, EAtX_def, wantedA, acall, astep, ev, ofValue, ofAtom, Nat.reduceEqDiff, Nat.reduceAdd, Nat.reduceMul, Nat.reduceSub, reduceCtorEq, reduceIte, aoptEv, abin, aint, ashift, aun, astr, aeqGuard, isConstOp, aconvH, aofStr, aconvSame, isU8, abuildSlice, afill, splice, azeros, Nat.reduceLeDiff, Nat.reduceLT, Int.reduceLE, Int.reduceLT, Int.reduceEq, Int.reduceToNat, Int.reducePow, IntKind.bits, Int.reduceNeg, RB, aalloc, Go.PW.dig_length, tf9LnB, hlen, f60])
    refine hQ _ _ ?_
    clear hQ
    refine AWp_seq_k (fun K hQ => ?_)
    repeat' first
      | (with_reducible first | refine AWp_seq_k (fun K hK => ?_) | refine AWp_skip ?_ | refine AWp_regionE ?_ | refine AWp_condI ?_)
      | ((with_reducible refine ECall_intro (known9_calls _ hN) ?_); rintro _ _ ⟨rfl, rfl⟩)
      | (simp only [thenA, inBlockA, reduceIte, Nat.reduceEqDiff])
      | ((with_reducible refine hK _ _ ?_); clear hK)
      | (simp only [ACond, RA, EAtS_def, EAtX_def, wantedA, acall, astep, ev, ofValue, ofAtom, Nat.reduceEqDiff, Nat.reduceAdd, Nat.reduceMul, Nat.reduceSub, reduceCtorEq, reduceIte, aoptEv, abin, aint, ashift, aun, astr, aeqGuard, isConstOp, aconvH, aofStr, aconvSame, isU8, abuildSlice, afill, splice, azeros, Nat.reduceLeDiff, Nat.reduceLT, Int.reduceLE, Int.reduceLT, Int.reduceEq, Int.reduceToNat, Int.reducePow, IntKind.bits, Int.reduceNeg, RB, aalloc, Go.PW.dig_length, tf9LnB, hlen, f60])
    refine hQ _ _ ?_
    clear hQ
    refine AWp_seq_k (fun K hQ => ?_)
    repeat' first
      | (with_reducible first | refine AWp_seq_k (fun K hK => ?_) | refine AWp_skip ?_ | refine AWp_regionE ?_ | refine AWp_condI ?_)
      | ((with_reducible refine ECall_intro (known9_calls _ hN) ?_); rintro _ _ ⟨rfl, rfl⟩)
      | (simp only [thenA, inBlockA, reduceIte, Nat.reduceEqDiff])
      | ((with_reducible refine hK _ _ ?_); clear hK)
      | (simp only [ACond, RA, EAtS_def, EAtX_def, wantedA, acall, astep, ev, ofValue, ofAtom, Nat.reduceEqDiff, Nat.reduceAdd, Nat.reduceMul, Nat.reduceSub, reduceCtorEq, reduceIte, aoptEv, abin, aint, ashift, aun, astr, aeqGuard, isConstOp, aconvH, aofStr, aconvSame, isU8, abuildSlice, afill, splice, azeros, Nat.reduceLeDiff, Nat.reduceLT, Int.reduceLE, Int.reduceLT, Int.reduceEq, Int.reduceToNat, Int.reducePow, IntKind.bits, Int.reduceNeg, RB, aalloc, Go.PW.dig_length, tf9LnB, hlen, f60])
    refine hQ _ _ ?_
    clear hQ
    refine AWp_seq_k (fun K2 hK2 => ?_)
    refine AWp_cut (fun fr' H1 => ∃ (p m : Nat) (b : AV) (ys : List Int), fr' 3 = .int .u16 k ∧ fr' 4 = .int .u16 j ∧ fr' 11 = .ptr p 0 ∧ hget H1 p = some (Sb m b) ∧ Ints H1 .i64 b ys ∧ Right m ys ∧ Ext H H1) ?_ (fun fr' H1 h => hK2 _ _ ?_)
    · clear hK2
      repeat' first
        | (with_reducible first | refine AWp_regionE ?_)
        | (simp only [thenA, inBlockA, reduceIte, Nat.reduceEqDiff])
        | (simp only [ACond, RA, EAtS_def, EAtX_def, wantedA, acall, astep, ev, ofValue, ofAtom, Nat.reduceEqDiff, Nat.reduceAdd, Nat.reduceMul, Nat.reduceSub, reduceCtorEq, reduceIte, aoptEv, abin, aint, ashift, aun, astr, aeqGuard, isConstOp, aconvH, aofStr, aconvSame, isU8, abuildSlice, afill, splice, azeros, Nat.reduceLeDiff, Nat.reduceLT, Int.reduceLE, Int.reduceLT, Int.reduceEq, Int.reduceToNat, Int.reducePow, IntKind.bits, Int.reduceNeg, RB, aalloc, Go.PW.dig_length, tf9LnB])
      refine ECall_intro (Sym_calls n dg hs c _ hn hdg hh (by omega)) ?_
      rintro _ H2 ⟨m, b, ys, rfl, _, M, hr, x2⟩
      have hb1 := M.one
      have hcb : b.cells = [b] := AV.cells_one hb1
      repeat' first
        | (simp only [thenA, inBlockA, reduceIte, Nat.reduceEqDiff])
        | (simp only [ACond, RA, EAtS_def, EAtX_def, wantedA, acall, astep, ev, ofValue, ofAtom, Nat.reduceEqDiff, Nat.reduceAdd, Nat.reduceMul, Nat.reduceSub, reduceCtorEq, reduceIte, aoptEv, abin, aint, ashift, aun, astr, aeqGuard, isConstOp, aconvH, aofStr, aconvSame, isU8, abuildSlice, afill, splice, azeros, Nat.reduceLeDiff, Nat.reduceLT, Int.reduceLE, Int.reduceLT, Int.reduceEq, Int.reduceToNat, Int.reducePow, IntKind.bits, Int.reduceNeg, RB, aalloc, Go.PW.dig_length, tf9LnB])
        | (simp (disch := first | omega | (simp only [RO]; done) | assumption) only [RS, six22, gix22, six26, gix26, bst24_e, bst24_0, bst24_01])
        | (simp (disch := (first | omega | (simp only [RO]; done) | assumption | (simp only [RM, Go.PW.dig_length]; done) | (simp only [RL, Go.PW.dig_length]; omega))) only [RD, reduceCtorEq, reduceIte, Go.PW.dig_length, Nat.reduceLeDiff, Nat.reduceAdd, Nat.reduceMul, Int.reduceToNat, tf9LnB])
      all_goals exact ⟨H2.length, m, b, ys, rfl, by first | exact hget_at rfl | rw [if_pos rfl], M.ints.push _, hr, x2.pushed _⟩
    clear hK2
    obtain ⟨p, m, b, ys, k3, k4, k11, q11, I, hr, x1⟩ := h
    have hb1 : b.one = true := I.rd.one
    have hcb : b.cells = [b] := AV.cells_one hb1
    have LA := Least_calls m ys b A H1 I hr (by omega)
    have LA1 := Least_calls m ys b (A - 1 - j) H1 I hr (by omega)
    have LA2 := Least_calls m ys b (A + 1 + j) H1 I hr (by omega)
    have MB := Most_calls m ys b B H1 I hr (by omega)
    have MB1 := Most_calls m ys b (B + 1 + k) H1 I hr (by omega)
    have MB2 := Most_calls m ys b (B - 1 - k) H1 I hr (by omega)
    refine AWp_seq_k (fun K3 hK3 => ?_)
    refine AWp_cut (fun fr' H2 => H2 = H1 ∧ fr' 3 = .int .u16 k ∧ fr' 4 = .int .u16 j ∧ fr' 11 = .ptr p 0 ∧ fr' 12 = .int .i64 A ∧ fr' 13 = .int .i64 B) ?_ (fun fr' H2 h => hK3 _ _ ?_)
    · clear hK3
      repeat' first
        | (with_reducible first | refine AWp_regionE ?_)
        | (simp only [thenA, inBlockA, reduceIte, Nat.reduceEqDiff])
        | (simp only [ACond, RA, EAtS_def, EAtX_def, wantedA, acall, astep, ev, ofValue, ofAtom, Nat.reduceEqDiff, Nat.reduceAdd, Nat.reduceMul, Nat.reduceSub, reduceCtorEq, reduceIte, aoptEv, abin, aint, ashift, aun, astr, aeqGuard, isConstOp, aconvH, aofStr, aconvSame, isU8, abuildSlice, afill, splice, azeros, Nat.reduceLeDiff, Nat.reduceLT, Int.reduceLE, Int.reduceLT, Int.reduceEq, Int.reduceToNat, Int.reducePow, IntKind.bits, Int.reduceNeg, RB, aalloc, Go.PW.dig_length, tf9LnB, k3, k4, k11, eA, ej, eB])
    clear hK3 k3 k4 k11
    obtain ⟨rfl, k3, k4, k11, k12, k13⟩ := h
    refine AWp_seq_k (fun K4 hK4 => ?_)
    refine AWp_cut (fun fr' H3 => H3 = H2 ∧ fr' 3 = .int .u16 k ∧ fr' 4 = .int .u16 j ∧ fr' 11 = .ptr p 0 ∧ fr' 12 = .int .i64 A ∧ fr' 13 = .int .i64 B) ?_ (fun fr' H3 h => hK4 _ _ ?_)
    · clear hK4
      cases hb : leastB m ys A
      · rw [hb] at LA
        have h2 : leastB m ys (A + 1 + j) = false := leastB_not hb (by omega)
        rw [h2] at LA2
        by_cases hm : 0 < m
        · have fm : ((m : Int) > 0) = True := eq_true (by omega)
          repeat' first
            | (with_reducible first | refine AWp_seq_k (fun K hK => ?_) | refine AWp_skip ?_ | refine AWp_regionE ?_ | refine AWp_condI ?_)
            | ((with_reducible refine ECall_intro (LA) ?_); rintro _ _ ⟨rfl, rfl⟩)
            | ((with_reducible refine ECall_intro (LA2) ?_); rintro _ _ ⟨rfl, rfl⟩)
            | (with_reducible refine EGuard_split (fun hc => ?_) (fun hc => ?_) <;> (try simp only [RC] at hc) <;> (try (exfalso; first | omega | contradiction)))
            | (simp only [thenA, inBlockA, reduceIte, Nat.reduceEqDiff])
            | ((with_reducible refine hK _ _ ?_); clear hK)
            | (simp only [ACond, RA, EAtS_def, EAtX_def, wantedA, acall, astep, ev, ofValue, ofAtom, Nat.reduceEqDiff, Nat.reduceAdd, Nat.reduceMul, Nat.reduceSub, reduceCtorEq, reduceIte, aoptEv, abin, aint, ashift, aun, astr, aeqGuard, isConstOp, aconvH, aofStr, aconvSame, isU8, abuildSlice, afill, splice, azeros, Nat.reduceLeDiff, Nat.reduceLT, Int.reduceLE, Int.reduceLT, Int.reduceEq, Int.reduceToNat, Int.reducePow, IntKind.bits, Int.reduceNeg, RB, aalloc, Go.PW.dig_length, tf9LnB, k3, k4, k11, k12, k13, q11, ej, ek, eA1, eA2, eA3, eA4, fm])
            | (simp (disch := (first | omega | (simp only [RO]; done) | assumption | (simp only [RM, Go.PW.dig_length]; done) | (simp only [RL, Go.PW.dig_length]; omega))) only [RD, reduceCtorEq, reduceIte, Go.PW.dig_length, Nat.reduceLeDiff, Nat.reduceAdd, Nat.reduceMul, Int.reduceToNat, tf9LnB, k3, k4, k11, k12, k13, q11, ej, ek, eA1, eA2, eA3, eA4, fm])
        · have fm : ((m : Int) > 0) = False := eq_false (by omega)
          repeat' first
            | (with_reducible first | refine AWp_seq_k (fun K hK => ?_) | refine AWp_skip ?_ | refine AWp_regionE ?_ | refine AWp_condI ?_)
            | ((with_reducible refine ECall_intro (LA) ?_); rintro _ _ ⟨rfl, rfl⟩)
            | (with_reducible refine EGuard_split (fun hc => ?_) (fun hc => ?_) <;> (try simp only [RC] at hc) <;> (try (exfalso; first | omega | contradiction)))
            | (simp only [thenA, inBlockA, reduceIte, Nat.reduceEqDiff])
            | ((with_reducible refine hK _ _ ?_); clear hK)
            | (simp only [ACond, RA, EAtS_def, EAtX_def, wantedA, acall, astep, ev, ofValue, ofAtom, Nat.reduceEqDiff, Nat.reduceAdd, Nat.reduceMul, Nat.reduceSub, reduceCtorEq, reduceIte, aoptEv, abin, aint, ashift, aun, astr, aeqGuard, isConstOp, aconvH, aofStr, aconvSame, isU8, abuildSlice, afill, splice, azeros, Nat.reduceLeDiff, Nat.reduceLT, Int.reduceLE, Int.reduceLT, Int.reduceEq, Int.reduceToNat, Int.reducePow, IntKind.bits, Int.reduceNeg, RB, aalloc, Go.PW.dig_length, tf9LnB, k3, k4, k11, k12, k13, q11, ej, ek, eA1, eA2, eA3, eA4, fm])
            | (simp (disch := (first | omega | (simp only [RO]; done) | assumption | (simp only [RM, Go.PW.dig_length]; done) | (simp only [RL, Go.PW.dig_length]; omega))) only [RD, reduceCtorEq, reduceIte, Go.PW.dig_length, Nat.reduceLeDiff, Nat.reduceAdd, Nat.reduceMul, Int.reduceToNat, tf9LnB, k3, k4, k11, k12, k13, q11, ej, ek, eA1, eA2, eA3, eA4, fm])
      · rw [hb] at LA
        have h2 : leastB m ys (A - 1 - j) = true := leastB_less hb (by omega)
        rw [h2] at LA1
        repeat' first
          | (with_reducible first | refine AWp_seq_k (fun K hK => ?_) | refine AWp_skip ?_ | refine AWp_regionE ?_ | refine AWp_condI ?_)
          | ((with_reducible refine ECall_intro (LA) ?_); rintro _ _ ⟨rfl, rfl⟩)
          | ((with_reducible refine ECall_intro (LA1) ?_); rintro _ _ ⟨rfl, rfl⟩)
          | (simp only [thenA, inBlockA, reduceIte, Nat.reduceEqDiff])
          | ((with_reducible refine hK _ _ ?_); clear hK)
          | (simp only [ACond, RA, EAtS_def, EAtX_def, wantedA, acall, astep, ev, ofValue, ofAtom, Nat.reduceEqDiff, Nat.reduceAdd, Nat.reduceMul, Nat.reduceSub, reduceCtorEq, reduceIte, aoptEv, abin, aint, ashift, aun, astr, aeqGuard, isConstOp, aconvH, aofStr, aconvSame, isU8, abuildSlice, afill, splice, azeros, Nat.reduceLeDiff, Nat.reduceLT, Int.reduceLE, Int.reduceLT, Int.reduceEq, Int.reduceToNat, Int.reducePow, IntKind.bits, Int.reduceNeg, RB, aalloc, Go.PW.dig_length, tf9LnB, k3, k4, k11, k12, k13, q11, ej, ek, eA1, eA2, eA3, eA4])
          | (simp (disch := (first | omega | (simp only [RO]; done) | assumption | (simp only [RM, Go.PW.dig_length]; done) | (simp only [RL, Go.PW.dig_length]; omega))) only [RD, reduceCtorEq, reduceIte, Go.PW.dig_length, Nat.reduceLeDiff, Nat.reduceAdd, Nat.reduceMul, Int.reduceToNat, tf9LnB, k3, k4, k11, k12, k13, q11, ej, ek, eA1, eA2, eA3, eA4])
    clear hK4 k3 k4 k11 k12 k13
    obtain ⟨rfl, k3, k4, k11, k12, k13⟩ := h
    cases hb : mostB m ys B
    · rw [hb] at MB
      have h2 : mostB m ys (B - 1 - k) = false := mostB_not hb (by omega)
      rw [h2] at MB2
      by_cases hm : 0 < m
      · have fm : ((m : Int) > 0) = True := eq_true (by omega)
        repeat' first
          | (with_reducible first | refine AWp_seq_k (fun K hK => ?_) | refine AWp_ret ?_ | refine AWp_regionE ?_)
          | ((with_reducible refine ECall_intro (MB) ?_); rintro _ _ ⟨rfl, rfl⟩)
          | ((with_reducible refine ECall_intro (MB2) ?_); rintro _ _ ⟨rfl, rfl⟩)
          | (with_reducible refine EGuard_split (fun hc => ?_) (fun hc => ?_) <;> (try simp only [RC] at hc) <;> (try (exfalso; first | omega | contradiction)))
          | (simp only [thenA, inBlockA, reduceIte, Nat.reduceEqDiff])
          | ((with_reducible refine hK _ _ ?_); clear hK)
          | (simp only [ACond, RA, EAtS_def, EAtX_def, wantedA, acall, astep, ev, ofValue, ofAtom, Nat.reduceEqDiff, Nat.reduceAdd, Nat.reduceMul, Nat.reduceSub, reduceCtorEq, reduceIte, aoptEv, abin, aint, ashift, aun, astr, aeqGuard, isConstOp, aconvH, aofStr, aconvSame, isU8, abuildSlice, afill, splice, azeros, Nat.reduceLeDiff, Nat.reduceLT, Int.reduceLE, Int.reduceLT, Int.reduceEq, Int.reduceToNat, Int.reducePow, IntKind.bits, Int.reduceNeg, RB, aalloc, Go.PW.dig_length, tf9LnB, k3, k4, k11, k12, k13, q11, ej, ek, eB1, eB2, eB3, eB4, fm])
          | (simp (disch := (first | omega | (simp only [RO]; done) | assumption | (simp only [RM, Go.PW.dig_length]; done) | (simp only [RL, Go.PW.dig_length]; omega))) only [RD, reduceCtorEq, reduceIte, Go.PW.dig_length, Nat.reduceLeDiff, Nat.reduceAdd, Nat.reduceMul, Int.reduceToNat, tf9LnB, k3, k4, k11, k12, k13, q11, ej, ek, eB1, eB2, eB3, eB4, fm])
        all_goals
          (
           (refine AEnd_gen (rs := [.tmp 10]) rfl ?_)
           (simp only [AEndR, aresults, Fr.put_some, Fr.put_none, fr0_zero, fr0_succ, fr0_nil, Nat.reduceEqDiff, reduceIte])
           (try simp (disch := (first | omega | (simp only [RO]; done) | assumption | (simp only [RM, Go.PW.dig_length]; done) | (simp only [RL, Go.PW.dig_length]; omega))) only [RD, reduceCtorEq, reduceIte, Go.PW.dig_length, Nat.reduceLeDiff, Nat.reduceAdd, Nat.reduceMul, Int.reduceToNat, tf9LnB]))
        all_goals exact ⟨x1, trivial⟩
      · have fm : ((m : Int) > 0) = False := eq_false (by omega)
        repeat' first
          | (with_reducible first | refine AWp_seq_k (fun K hK => ?_) | refine AWp_ret ?_ | refine AWp_regionE ?_)
          | ((with_reducible refine ECall_intro (MB) ?_); rintro _ _ ⟨rfl, rfl⟩)
          | (with_reducible refine EGuard_split (fun hc => ?_) (fun hc => ?_) <;> (try simp only [RC] at hc) <;> (try (exfalso; first | omega | contradiction)))
          | (simp only [thenA, inBlockA, reduceIte, Nat.reduceEqDiff])
          | ((with_reducible refine hK _ _ ?_); clear hK)
          | (simp only [ACond, RA, EAtS_def, EAtX_def, wantedA, acall, astep, ev, ofValue, ofAtom, Nat.reduceEqDiff, Nat.reduceAdd, Nat.reduceMul, Nat.reduceSub, reduceCtorEq, reduceIte, aoptEv, abin, aint, ashift, aun, astr, aeqGuard, isConstOp, aconvH, aofStr, aconvSame, isU8, abuildSlice, afill, splice, azeros, Nat.reduceLeDiff, Nat.reduceLT, Int.reduceLE, Int.reduceLT, Int.reduceEq, Int.reduceToNat, Int.reducePow, IntKind.bits, Int.reduceNeg, RB, aalloc, Go.PW.dig_length, tf9LnB, k3, k4, k11, k12, k13, q11, ej, ek, eB1, eB2, eB3, eB4, fm])
          | (simp (disch := (first | omega | (simp only [RO]; done) | assumption | (simp only [RM, Go.PW.dig_length]; done) | (simp only [RL, Go.PW.dig_length]; omega))) only [RD, reduceCtorEq, reduceIte, Go.PW.dig_length, Nat.reduceLeDiff, Nat.reduceAdd, Nat.reduceMul, Int.reduceToNat, tf9LnB, k3, k4, k11, k12, k13, q11, ej, ek, eB1, eB2, eB3, eB4, fm])
        all_goals
          (
           (refine AEnd_gen (rs := [.tmp 10]) rfl ?_)
           (simp only [AEndR, aresults, Fr.put_some, Fr.put_none, fr0_zero, fr0_succ, fr0_nil, Nat.reduceEqDiff, reduceIte])
           (try simp (disch := (first | omega | (simp only [RO]; done) | assumption | (simp only [RM, Go.PW.dig_length]; done) | (simp only [RL, Go.PW.dig_length]; omega))) only [RD, reduceCtorEq, reduceIte, Go.PW.dig_length, Nat.reduceLeDiff, Nat.reduceAdd, Nat.reduceMul, Int.reduceToNat, tf9LnB]))
        all_goals exact ⟨x1, trivial⟩
    · rw [hb] at MB
      have h2 : mostB m ys (B + 1 + k) = true := mostB_more hb (by omega)
      rw [h2] at MB1
      repeat' first
        | (with_reducible first | refine AWp_seq_k (fun K hK => ?_) | refine AWp_ret ?_ | refine AWp_regionE ?_)
        | ((with_reducible refine ECall_intro (MB) ?_); rintro _ _ ⟨rfl, rfl⟩)
        | ((with_reducible refine ECall_intro (MB1) ?_); rintro _ _ ⟨rfl, rfl⟩)
        | (simp only [thenA, inBlockA, reduceIte, Nat.reduceEqDiff])
        | ((with_reducible refine hK _ _ ?_); clear hK)
        | (simp only [ACond, RA, EAtS_def, EAtX_def, wantedA, acall, astep, ev, ofValue, ofAtom, Nat.reduceEqDiff, Nat.reduceAdd, Nat.reduceMul, Nat.reduceSub, reduceCtorEq, reduceIte, aoptEv, abin, aint, ashift, aun, astr, aeqGuard, isConstOp, aconvH, aofStr, aconvSame, isU8, abuildSlice, afill, splice, azeros, Nat.reduceLeDiff, Nat.reduceLT, Int.reduceLE, Int.reduceLT, Int.reduceEq, Int.reduceToNat, Int.reducePow, IntKind.bits, Int.reduceNeg, RB, aalloc, Go.PW.dig_length, tf9LnB, k3, k4, k11, k12, k13, q11, ej, ek, eB1, eB2, eB3, eB4])
        | (simp (disch := (first | omega | (simp only [RO]; done) | assumption | (simp only [RM, Go.PW.dig_length]; done) | (simp only [RL, Go.PW.dig_length]; omega))) only [RD, reduceCtorEq, reduceIte, Go.PW.dig_length, Nat.reduceLeDiff, Nat.reduceAdd, Nat.reduceMul, Int.reduceToNat, tf9LnB, k3, k4, k11, k12, k13, q11, ej, ek, eB1, eB2, eB3, eB4])
      all_goals
        (
         (refine AEnd_gen (rs := [.tmp 10]) rfl ?_)
         (simp only [AEndR, aresults, Fr.put_some, Fr.put_none, fr0_zero, fr0_succ, fr0_nil, Nat.reduceEqDiff, reduceIte])
         (try simp (disch := (first | omega | (simp only [RO]; done) | assumption | (simp only [RM, Go.PW.dig_length]; done) | (simp only [RL, Go.PW.dig_length]; omega))) only [RD, reduceCtorEq, reduceIte, Go.PW.dig_length, Nat.reduceLeDiff, Nat.reduceAdd, Nat.reduceMul, Int.reduceToNat, tf9LnB]))
      all_goals exact ⟨x1, trivial⟩
end Go.Proofs.YtfalfmfkifemeaaGreatDoor

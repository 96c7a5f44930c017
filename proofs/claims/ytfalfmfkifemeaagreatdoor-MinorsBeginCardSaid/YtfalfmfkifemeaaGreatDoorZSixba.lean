/- Part 27 of the proof of laws of this seat: lemmas on the model's code, on this program's functions, on numbers. No condition. -/
import Derived.Test.YtfalfmfkifemeaaGreatDoorZSixaz
set_option linter.unusedVariables false
set_option linter.unusedSimpArgs false
namespace Go.Proofs.YtfalfmfkifemeaaGreatDoor
open Go.AL Go.PW Go.PD
theorem tf6LdC : type_of% (And.intro @tyb2 (And.intro @tyb3 (And.intro @tyb4 (And.intro @tyb5 (And.intro @tyb22 (And.intro @tyb23 (And.intro @tyb24 (And.intro @tyb25 (And.intro @tyb26 (And.intro @tyb31 (And.intro @tyb32 (And.intro @tyb33 (And.intro @tyb34 (And.intro @tyb35 (And.intro @tyb38 (And.intro @tyb76 (@cv5_3))))))))))))))))) := And.intro @tyb2 (And.intro @tyb3 (And.intro @tyb4 (And.intro @tyb5 (And.intro @tyb22 (And.intro @tyb23 (And.intro @tyb24 (And.intro @tyb25 (And.intro @tyb26 (And.intro @tyb31 (And.intro @tyb32 (And.intro @tyb33 (And.intro @tyb34 (And.intro @tyb35 (And.intro @tyb38 (And.intro @tyb76 (@cv5_3))))))))))))))))
abbrev pn6_15LdC : Plan := (.one 0 (.one 1 (.one 2 (.one 3 (.one 4 (.one 5 (.one 6 (.one 7 (.one 8 .nil)))))))))
set_option maxRecDepth 8000
set_option maxHeartbeats 16000000 in
theorem minorsBegin_calls (n dg : Int) (hs : List Int) (c : AV) (k : Int) (H : Hp) (hN : Noted H) (hn : 0 ≤ n ∧ n ≤ 255) (hdg : 0 ≤ dg ∧ dg ≤ 65535) (hh : Ints H .i16 c hs) (hk : 0 ≤ k ∧ k ≤ 255) : ACalls Tryz.prog 6 [.int .u8 n, .int .u16 dg, c, .int .u8 k] H fun r H' => r = .bool true ∧ H = H' := by
  refine ACalls.drop (R := fun r => r = .bool true) ?_
  have hlen := hh.rd.len und26
  have ek : IntKind.i64.wrap k = k := wrap_i64_id (by omega) (by omega)
  by_cases h60 : (hs.length : Int) > 60
  · have f60 : ((hs.length : Int) > 60) = True := eq_true h60
    refine ACalls_body Tryz.func6 rfl (by kernel_rfl) (by kernel_rfl) ?_
    repeat' first
      | (with_reducible first | refine AWp_seq_k (fun K hK => ?_) | refine AWp_skip ?_ | refine AWp_ret ?_ | refine AWp_regionE ?_ | refine AWp_condI ?_)
      | ((with_reducible refine ECall_intro (known6_calls _ hN) ?_); rintro _ _ ⟨rfl, rfl⟩)
      | (simp only [thenA, inBlockA, reduceIte, Nat.reduceEqDiff])
      | ((with_reducible refine hK _ _ ?_); clear hK)
      | (simp only [ACond, RA, EAtS_def, EAtX_def, wantedA, acall, astep, ev, ofValue, ofAtom, Nat.reduceEqDiff, Nat.reduceAdd, Nat.reduceMul, Nat.reduceSub, reduceCtorEq, reduceIte, aoptEv, abin, aint, ashift, aun, astr, aeqGuard, isConstOp, aconvH, aofStr, aconvSame, isU8, abuildSlice, afill, splice, azeros, Nat.reduceLeDiff, Nat.reduceLT, Int.reduceLE, Int.reduceLT, Int.reduceEq, Int.reduceToNat, Int.reducePow, IntKind.bits, Int.reduceNeg, RB, aalloc, Go.PW.dig_length, tf6LdC, hlen, f60])
    all_goals
      (
       (refine AEnd_gen (rs := [.tmp 8]) rfl ?_)
       (simp only [AEndR, aresults, Fr.put_some, Fr.put_none, fr0_zero, fr0_succ, fr0_nil, Nat.reduceEqDiff, reduceIte])
       (try simp (disch := (first | omega | (simp only [RO]; done) | assumption | (simp only [RM, Go.PW.dig_length]; done) | (simp only [RL, Go.PW.dig_length]; omega))) only [RD, reduceCtorEq, reduceIte, Go.PW.dig_length, Nat.reduceLeDiff, Nat.reduceAdd, Nat.reduceMul, Int.reduceToNat, tf6LdC]))
    all_goals exact ⟨Ext.refl _, trivial⟩
  · have f60 : ((hs.length : Int) > 60) = False := eq_false h60
    refine ACalls_body Tryz.func6 rfl (by kernel_rfl) (by kernel_rfl) ?_
    refine AWp_seq_k (fun K hQ => ?_)
    repeat' first
      | (with_reducible first | refine AWp_seq_k (fun K hK => ?_) | refine AWp_skip ?_ | refine AWp_regionE ?_ | refine AWp_condI ?_)
      | ((with_reducible refine ECall_intro (known6_calls _ hN) ?_); rintro _ _ ⟨rfl, rfl⟩)
      | (simp only [thenA, inBlockA, reduceIte, Nat.reduceEqDiff])
      | ((with_reducible refine hK _ _ ?_); clear hK)
      | (simp only [ACond, RA, EAtS_def, EAtX_def, wantedA, acall, astep, ev, ofValue, ofAtom, Nat.reduceEqDiff, Nat.reduceAdd, Nat.reduceMul, Nat.reduceSub, reduceCtorEq, reduceIte, aoptEv, abin, aint, ashift, aun, astr, aeqGuard, isConstOp, aconvH, aofStr, aconvSame, isU8, abuildSlice, afill, splice, azeros, Nat.reduceLeDiff, Nat.reduceLT, Int.reduceLE, Int.reduceLT, Int.reduceEq, Int.reduceToNat, Int.reducePow, IntKind.bits, Int.reduceNeg, RB, aalloc, Go.PW.dig_length, tf6LdC, hlen, f60])
    refine hQ _ _ ?_
    clear hQ
    refine AWp_seq_k (fun K hQ => ?_)
    repeat' first
      | (with_reducible first | refine AWp_seq_k (fun K hK => ?_) | refine AWp_skip ?_ | refine AWp_regionE ?_ | refine AWp_condI ?_)
      | ((with_reducible refine ECall_intro (known6_calls _ hN) ?_); rintro _ _ ⟨rfl, rfl⟩)
      | (simp only [thenA, inBlockA, reduceIte, Nat.reduceEqDiff])
      | ((with_reducible refine hK _ _ ?_); clear hK)
      | (simp only [ACond, RA, EAtS_def, EAtX_def, wantedA, acall, astep, ev, ofValue, ofAtom, Nat.reduceEqDiff, Nat.reduceAdd, Nat.reduceMul, Nat.reduceSub, reduceCtorEq, reduceIte, aoptEv, abin, aint, ashift, aun, astr, aeqGuard, isConstOp, aconvH, aofStr, aconvSame, isU8, abuildSlice, afill, splice, azeros, Nat.reduceLeDiff, Nat.reduceLT, Int.reduceLE, Int.reduceLT, Int.reduceEq, Int.reduceToNat, Int.reducePow, IntKind.bits, Int.reduceNeg, RB, aalloc, Go.PW.dig_length, tf6LdC, hlen, f60])
    refine hQ _ _ ?_
    clear hQ
    refine AWp_seq_k (fun K hQ => ?_)
    repeat' first
      | (with_reducible first | refine AWp_seq_k (fun K hK => ?_) | refine AWp_skip ?_ | refine AWp_regionE ?_ | refine AWp_condI ?_)
      | ((with_reducible refine ECall_intro (known6_calls _ hN) ?_); rintro _ _ ⟨rfl, rfl⟩)
      | (simp only [thenA, inBlockA, reduceIte, Nat.reduceEqDiff])
      | ((with_reducible refine hK _ _ ?_); clear hK)
      | (simp only [ACond, RA, EAtS_def, EAtX_def, wantedA, acall, astep, ev, ofValue, ofAtom, Nat.reduceEqDiff, Nat.reduceAdd, Nat.reduceMul, Nat.reduceSub, reduceCtorEq, reduceIte, aoptEv, abin, aint, ashift, aun, astr, aeqGuard, isConstOp, aconvH, aofStr, aconvSame, isU8, abuildSlice, afill, splice, azeros, Nat.reduceLeDiff, Nat.reduceLT, Int.reduceLE, Int.reduceLT, Int.reduceEq, Int.reduceToNat, Int.reducePow, IntKind.bits, Int.reduceNeg, RB, aalloc, Go.PW.dig_length, tf6LdC, hlen, f60])
    refine hQ _ _ ?_
    clear hQ
    refine AWp_seq_k (fun K2 hK2 => ?_)
    refine AWp_cut (fun fr' H1 => ∃ (p m : Nat) (b : AV) (ys : List Int), fr' 3 = .int .u8 k ∧ fr' 9 = .ptr p 0 ∧ hget H1 p = some (Sb m b) ∧ Ints H1 .i64 b ys ∧ Right m ys ∧ Ext H H1) ?_ (fun fr' H1 h => hK2 _ _ ?_)
    · clear hK2
      repeat' first
        | (with_reducible first | refine AWp_regionE ?_)
        | (simp only [thenA, inBlockA, reduceIte, Nat.reduceEqDiff])
        | (simp only [ACond, RA, EAtS_def, EAtX_def, wantedA, acall, astep, ev, ofValue, ofAtom, Nat.reduceEqDiff, Nat.reduceAdd, Nat.reduceMul, Nat.reduceSub, reduceCtorEq, reduceIte, aoptEv, abin, aint, ashift, aun, astr, aeqGuard, isConstOp, aconvH, aofStr, aconvSame, isU8, abuildSlice, afill, splice, azeros, Nat.reduceLeDiff, Nat.reduceLT, Int.reduceLE, Int.reduceLT, Int.reduceEq, Int.reduceToNat, Int.reducePow, IntKind.bits, Int.reduceNeg, RB, aalloc, Go.PW.dig_length, tf6LdC])
      refine ECall_intro (Sym_calls n dg hs c _ hn hdg hh (by omega)) ?_
      rintro _ H2 ⟨m, b, ys, rfl, _, M, hr, x2⟩
      have hb1 := M.one
      have hcb : b.cells = [b] := AV.cells_one hb1
      repeat' first
        | (simp only [thenA, inBlockA, reduceIte, Nat.reduceEqDiff])
        | (simp only [ACond, RA, EAtS_def, EAtX_def, wantedA, acall, astep, ev, ofValue, ofAtom, Nat.reduceEqDiff, Nat.reduceAdd, Nat.reduceMul, Nat.reduceSub, reduceCtorEq, reduceIte, aoptEv, abin, aint, ashift, aun, astr, aeqGuard, isConstOp, aconvH, aofStr, aconvSame, isU8, abuildSlice, afill, splice, azeros, Nat.reduceLeDiff, Nat.reduceLT, Int.reduceLE, Int.reduceLT, Int.reduceEq, Int.reduceToNat, Int.reducePow, IntKind.bits, Int.reduceNeg, RB, aalloc, Go.PW.dig_length, tf6LdC])
        | (simp (disch := first | omega | (simp only [RO]; done) | assumption) only [RS, six22, gix22, six26, gix26, six38, gix38, idx32, slh32, idx33, slh33, bst24_e, bst24_0, bst24_01])
        | (simp (disch := (first | omega | (simp only [RO]; done) | assumption | (simp only [RM, Go.PW.dig_length]; done) | (simp only [RL, Go.PW.dig_length]; omega))) only [RD, reduceCtorEq, reduceIte, Go.PW.dig_length, Nat.reduceLeDiff, Nat.reduceAdd, Nat.reduceMul, Int.reduceToNat, tf6LdC])
      all_goals exact ⟨H2.length, m, b, ys, rfl, by first | exact hget_at rfl | rw [if_pos rfl], M.ints.push _, hr, x2.pushed _⟩
    clear hK2
    obtain ⟨p, m, b, ys, k3, k9, q9, I, hr, x1⟩ := h
    have hb1 : b.one = true := I.rd.one
    have hcb : b.cells = [b] := AV.cells_one hb1
    have h8 := hr.len.1
    obtain ⟨d, hd⟩ : ∃ d : Nat, (d : Int) = k % ((m : Int) + 1) := ⟨(k % ((m : Int) + 1)).toNat, by have := Int.emod_nonneg k (b := (m : Int) + 1) (by omega); omega⟩
    have hdm : d ≤ m := by have := Int.emod_lt_of_pos k (b := (m : Int) + 1) (by omega); omega
    have em : IntKind.i64.wrap ((m : Int) + 1) = (m : Int) + 1 := wrap_i64_id (by omega) (by omega)
    have ed : k.tmod ((m : Int) + 1) = (d : Int) := by rw [tmod_pos hk.1, hd]
    have fm : (((m : Int) + 1) = 0) = False := eq_false (by omega)
    have es : IntKind.i64.wrap ((m : Int) - (d : Int)) = ((m - d : Nat) : Int) := by rw [wrap_i64_id (by omega) (by omega)]; omega
    have l9 := hget_lt q9
    repeat' first
      | (with_reducible first | refine AWp_seq_k (fun K hK => ?_) | refine AWp_regionE ?_)
      | (simp only [thenA, inBlockA, reduceIte, Nat.reduceEqDiff])
      | ((with_reducible refine hK _ _ ?_); clear hK)
      | (simp only [ACond, RA, EAtS_def, EAtX_def, wantedA, acall, astep, ev, ofValue, ofAtom, Nat.reduceEqDiff, Nat.reduceAdd, Nat.reduceMul, Nat.reduceSub, reduceCtorEq, reduceIte, aoptEv, abin, aint, ashift, aun, astr, aeqGuard, isConstOp, aconvH, aofStr, aconvSame, isU8, abuildSlice, afill, splice, azeros, Nat.reduceLeDiff, Nat.reduceLT, Int.reduceLE, Int.reduceLT, Int.reduceEq, Int.reduceToNat, Int.reducePow, IntKind.bits, Int.reduceNeg, RB, aalloc, Go.PW.dig_length, tf6LdC, k3, k9, q9, ek, em, ed, fm, es])
      | (simp (disch := (first | omega | (simp only [RO]; done) | assumption | (simp only [RM, Go.PW.dig_length]; done) | (simp only [RL, Go.PW.dig_length]; omega))) only [RD, reduceCtorEq, reduceIte, Go.PW.dig_length, Nat.reduceLeDiff, Nat.reduceAdd, Nat.reduceMul, Int.reduceToNat, tf6LdC, k3, k9, q9, ek, em, ed, fm, es])
    refine ECall_intro (Drop_calls m d ys b d (m - d) _ I hr (by omega) (by omega)) ?_
    rintro _ H3 ⟨b', zs, rfl, M', hrz, hz, x3⟩
    have hb1' := M'.one
    have hcb' : b'.cells = [b'] := AV.cells_one hb1'
    have q93 := hget_ext (hget_ext q9 x3) (Ext.push H3 (Sb d b'))
    repeat' first
      | (with_reducible first | refine AWp_seq_k (fun K hK => ?_) | refine AWp_regionE ?_)
      | (simp only [thenA, inBlockA, reduceIte, Nat.reduceEqDiff])
      | ((with_reducible refine hK _ _ ?_); clear hK)
      | (simp only [ACond, RA, EAtS_def, EAtX_def, wantedA, acall, astep, ev, ofValue, ofAtom, Nat.reduceEqDiff, Nat.reduceAdd, Nat.reduceMul, Nat.reduceSub, reduceCtorEq, reduceIte, aoptEv, abin, aint, ashift, aun, astr, aeqGuard, isConstOp, aconvH, aofStr, aconvSame, isU8, abuildSlice, afill, splice, azeros, Nat.reduceLeDiff, Nat.reduceLT, Int.reduceLE, Int.reduceLT, Int.reduceEq, Int.reduceToNat, Int.reducePow, IntKind.bits, Int.reduceNeg, RB, aalloc, Go.PW.dig_length, tf6LdC, k3, k9, q93])
      | (simp (disch := first | omega | (simp only [RO]; done) | assumption) only [RS, six22, gix22, six26, gix26, six38, gix38, idx32, slh32, idx33, slh33, bst24_e, bst24_0, bst24_01])
      | (simp (disch := (first | omega | (simp only [RO]; done) | assumption | (simp only [RM, Go.PW.dig_length]; done) | (simp only [RL, Go.PW.dig_length]; omega))) only [RD, reduceCtorEq, reduceIte, Go.PW.dig_length, Nat.reduceLeDiff, Nat.reduceAdd, Nat.reduceMul, Int.reduceToNat, tf6LdC, k3, k9, q93])
    refine ECall_intro (Minors_calls m ys b _ ((I.ext x3).push _) hr) ?_
    rintro _ H4 ⟨v, rfl, V, x4⟩
    have hv1 : v.one = true := V.rd.one
    have hcv : v.cells = [v] := AV.cells_one hv1
    have q11 : hget H4 H3.length = some (Sb d b') := hget_ext (hget_at rfl) x4
    repeat' first
      | (with_reducible first | refine AWp_seq_k (fun K hK => ?_) | refine AWp_regionE ?_)
      | (simp only [thenA, inBlockA, reduceIte, Nat.reduceEqDiff])
      | ((with_reducible refine hK _ _ ?_); clear hK)
      | (simp only [ACond, RA, EAtS_def, EAtX_def, wantedA, acall, astep, ev, ofValue, ofAtom, Nat.reduceEqDiff, Nat.reduceAdd, Nat.reduceMul, Nat.reduceSub, reduceCtorEq, reduceIte, aoptEv, abin, aint, ashift, aun, astr, aeqGuard, isConstOp, aconvH, aofStr, aconvSame, isU8, abuildSlice, afill, splice, azeros, Nat.reduceLeDiff, Nat.reduceLT, Int.reduceLE, Int.reduceLT, Int.reduceEq, Int.reduceToNat, Int.reducePow, IntKind.bits, Int.reduceNeg, RB, aalloc, Go.PW.dig_length, tf6LdC, k3, k9, q11])
      | (simp (disch := (first | omega | (simp only [RO]; done) | assumption | (simp only [RM, Go.PW.dig_length]; done) | (simp only [RL, Go.PW.dig_length]; omega))) only [RD, reduceCtorEq, reduceIte, Go.PW.dig_length, Nat.reduceLeDiff, Nat.reduceAdd, Nat.reduceMul, Int.reduceToNat, tf6LdC, k3, k9, q11])
    refine ECall_intro (Minors_calls d zs b' _ ((M'.ints.push _).ext x4) hrz) ?_
    rintro _ H5 ⟨u, rfl, U, x5⟩
    have hu1 : u.one = true := U.rd.one
    have hcu : u.cells = [u] := AV.cells_one hu1
    have V5 := V.ext x5
    have hP : ∀ e, 0 < e → e ≤ 0 + d → P (ent d zs) e = P (ent m ys) e := fun e _ he => P_congr fun i j hi hj => by
      rw [hz i j (by omega) (by omega)]
      unfold sh
      rw [if_neg (by omega), if_neg (by omega)]
    have hl : lead (ent d zs) d 0 = (lead (ent m ys) m 0).take d := by
      rw [lead_congr d 0 hP, lead_take (ent m ys) d m 0 hdm]
    rw [hl] at U
    obtain ⟨L, hL⟩ : ∃ L, L = lead (ent m ys) m 0 := ⟨_, rfl⟩
    rw [← hL] at U V5
    have lv := V5.len
    have lu := U.len
    have hlt2 : (L.take d).length = min d L.length := List.length_take ..
    have hLm : L.length ≤ m := by rw [hL]; exact lead_length _ _ _
    have f2 : (((L.take d).length : Int) > (L.length : Int)) = False := eq_false (by omega)
    obtain ⟨e, he⟩ : ∃ e, e = min L.length d := ⟨_, rfl⟩
    have hmin : abuiltin Tryz.prog .min #[3, 3] [.int .i64 (L.length : Int), .int .i64 (d : Int)] = some (.int .i64 (e : Int)) := by
      show some (AV.int .i64 (if ((d : Int) < (L.length : Int)) then (d : Int) else (L.length : Int))) = _
      congr 2
      split <;> omega
    have f3 : (((L.take d).length : Int) < (e : Int)) = False := eq_false (by omega)
    repeat' first
      | (with_reducible first | refine AWp_seq_k (fun K hK => ?_) | refine AWp_block ?_ | refine AWp_skip ?_ | refine AWp_regionE ?_ | refine AWp_condI ?_)
      | (with_reducible refine EGuard_split (fun hc => ?_) (fun hc => ?_) <;> (try simp only [RC] at hc) <;> (try (exfalso; first | omega | contradiction)))
      | (simp only [thenA, inBlockA, reduceIte, Nat.reduceEqDiff])
      | ((with_reducible refine hK _ _ ?_); clear hK)
      | (simp only [ACond, RA, EAtS_def, EAtX_def, wantedA, acall, astep, ev, ofValue, ofAtom, Nat.reduceEqDiff, Nat.reduceAdd, Nat.reduceMul, Nat.reduceSub, reduceCtorEq, reduceIte, aoptEv, abin, aint, ashift, aun, astr, aeqGuard, isConstOp, aconvH, aofStr, aconvSame, isU8, abuildSlice, afill, splice, azeros, Nat.reduceLeDiff, Nat.reduceLT, Int.reduceLE, Int.reduceLT, Int.reduceEq, Int.reduceToNat, Int.reducePow, IntKind.bits, Int.reduceNeg, RB, aalloc, Go.PW.dig_length, tf6LdC, k3, k9, lv, lu, f2, hmin, f3, eq_nilI und35])
    obtain ⟨N, hNl⟩ : ∃ N, N = (L.take d).length := ⟨_, rfl⟩
    rw [← hNl] at lu
    refine AWp_loop (fun l fr' H6 => ∃ i : Nat, l = N - i ∧ i ≤ N ∧ fr' 13 = v ∧ fr' 15 = u ∧ fr' 17 = .int .i64 (i : Int) ∧ H5 = H6) (m := N) ⟨0, by omega, by omega, rfl, rfl, rfl, rfl⟩ ?_
    rintro l fr' H6 ⟨i, rfl, hi, k13, k15, k17, rfl⟩
    by_cases hlt : i < N
    · have e1 : IntKind.i64.wrap ((i : Int) + 1) = ((i + 1 : Nat) : Int) := by rw [wrap_i64_id (by omega) (by omega)]; omega
      have a1 := V5.rd.at_ und38 size33 (k := .i64) (j := (i : Int)) (by omega) (by omega)
      have a2 := V5.get (i := i) (by omega)
      have b1 := U.rd.at_ und38 size33 (k := .i64) (j := (i : Int)) (by omega) (by omega)
      have b2 := U.get (i := i) (by omega)
      have hgi : (L.take d).getD i 0 = L.getD i 0 := by rw [List.getD_eq_getElem?_getD, List.getElem?_take_of_lt (by omega), ← List.getD_eq_getElem?_getD]
      rw [hgi] at b2
      rw [Int.toNat_natCast] at a1 b1
      have hq := eq_wide (L.getD i 0)
      have hgw := guardW
      repeat' first
        | (with_reducible first | refine AWp_seq_k (fun K hK => ?_) | refine AWp_block ?_ | refine AWp_skip ?_ | refine AWp_regionE ?_ | refine AWp_drawE (id := 15) [] pn6_15LdC (by kernel_rfl) (by kernel_rfl) ?_ | refine AWp_condI ?_)
        | (with_reducible refine AIte (fun hc => ?_) (fun hc => ?_) <;> (try simp only [RC] at hc) <;> (try (exfalso; first | omega | contradiction)))
        | (simp only [thenA, inBlockA, reduceIte, Nat.reduceEqDiff])
        | ((with_reducible refine hK _ _ ?_); clear hK)
        | (simp only [ACond, RA, EAtS_def, EAtX_def, wantedA, acall, astep, ev, ofValue, ofAtom, Nat.reduceEqDiff, Nat.reduceAdd, Nat.reduceMul, Nat.reduceSub, reduceCtorEq, reduceIte, aoptEv, abin, aint, ashift, aun, astr, aeqGuard, isConstOp, aconvH, aofStr, aconvSame, isU8, abuildSlice, afill, splice, azeros, Nat.reduceLeDiff, Nat.reduceLT, Int.reduceLE, Int.reduceLT, Int.reduceEq, Int.reduceToNat, Int.reducePow, IntKind.bits, Int.reduceNeg, RB, aalloc, Go.PW.dig_length, tf6LdC, k13, k15, k17, lu, e1, a1, a2, b1, b2, hq, hgw])
      all_goals exact ⟨_, by omega, i + 1, rfl, by omega, rfl⟩
    · obtain rfl : i = N := by omega
      repeat' first
        | (with_reducible first | refine AWp_seq_k (fun K hK => ?_) | refine AWp_exit ?_ | refine AWp_ret ?_ | refine AWp_regionE ?_ | refine AWp_condI ?_)
        | (with_reducible refine AIte (fun hc => ?_) (fun hc => ?_) <;> (try simp only [RC] at hc) <;> (try (exfalso; first | omega | contradiction)))
        | (simp only [thenA, inBlockA, reduceIte, Nat.reduceEqDiff])
        | ((with_reducible refine hK _ _ ?_); clear hK)
        | (clear hK; (with_reducible refine hK _ _ ?_); clear hK)
        | (simp only [ACond, RA, EAtS_def, EAtX_def, wantedA, acall, astep, ev, ofValue, ofAtom, Nat.reduceEqDiff, Nat.reduceAdd, Nat.reduceMul, Nat.reduceSub, reduceCtorEq, reduceIte, aoptEv, abin, aint, ashift, aun, astr, aeqGuard, isConstOp, aconvH, aofStr, aconvSame, isU8, abuildSlice, afill, splice, azeros, Nat.reduceLeDiff, Nat.reduceLT, Int.reduceLE, Int.reduceLT, Int.reduceEq, Int.reduceToNat, Int.reducePow, IntKind.bits, Int.reduceNeg, RB, aalloc, Go.PW.dig_length, tf6LdC, k13, k15, k17, lu])
      all_goals
        (
         (refine AEnd_gen (rs := [.tmp 8]) rfl ?_)
         (simp only [AEndR, aresults, Fr.put_some, Fr.put_none, fr0_zero, fr0_succ, fr0_nil, Nat.reduceEqDiff, reduceIte])
         (try simp (disch := (first | omega | (simp only [RO]; done) | assumption | (simp only [RM, Go.PW.dig_length]; done) | (simp only [RL, Go.PW.dig_length]; omega))) only [RD, reduceCtorEq, reduceIte, Go.PW.dig_length, Nat.reduceLeDiff, Nat.reduceAdd, Nat.reduceMul, Int.reduceToNat, tf6LdC]))
      all_goals exact ⟨((((x1.trans x3).pushed _).trans x4).trans x5), trivial⟩
end Go.Proofs.YtfalfmfkifemeaaGreatDoor
set_option linter.unusedVariables false
set_option linter.unusedSimpArgs false
namespace Go.Proofs.YtfalfmfkifemeaaGreatDoor
open Go.AL Go.PW Go.PD
theorem tf5LdD : type_of% (And.intro @tyb2 (And.intro @tyb3 (And.intro @tyb4 (And.intro @tyb5 (And.intro @tyb22 (And.intro @tyb23 (And.intro @tyb24 (And.intro @tyb25 (And.intro @tyb26 (And.intro @tyb31 (And.intro @tyb32 (And.intro @tyb33 (And.intro @tyb34 (And.intro @tyb35 (And.intro @tyb58 (And.intro @tyb76 (@cv5_3))))))))))))))))) := And.intro @tyb2 (And.intro @tyb3 (And.intro @tyb4 (And.intro @tyb5 (And.intro @tyb22 (And.intro @tyb23 (And.intro @tyb24 (And.intro @tyb25 (And.intro @tyb26 (And.intro @tyb31 (And.intro @tyb32 (And.intro @tyb33 (And.intro @tyb34 (And.intro @tyb35 (And.intro @tyb58 (And.intro @tyb76 (@cv5_3))))))))))))))))
abbrev pn5_13LdD : Plan := (.one 0 (.one 1 (.one 2 (.one 3 (.one 4 (.one 5 (.one 6 (.one 7 (.one 8 (.one 9 (.one 10 (.one 11 .nil))))))))))))
abbrev pn5_14LdD : Plan := (.one 0 (.one 1 (.one 2 (.one 3 (.one 4 (.one 5 (.one 6 (.one 7 (.one 8 (.one 9 (.one 10 (.one 11 (.one 12 (.one 13 (.one 14 (.one 15 .nil))))))))))))))))
abbrev pn5_22LdD : Plan := (.one 0 (.one 1 (.one 2 (.one 3 (.one 4 (.one 5 (.one 6 (.one 7 (.one 8 (.one 9 (.one 10 (.one 11 (.pur 12 (.one 13 (.one 14 (.one 15 (.one 16 (.one 17 .nil))))))))))))))))))
abbrev pn5_25LdD : Plan := (.one 0 (.one 1 (.one 2 (.one 3 (.one 4 (.one 5 (.one 6 (.one 7 (.one 8 (.one 9 (.one 10 (.one 11 (.one 12 (.one 14 (.ext 13 (.one 15 (.one 16 (.one 17 (.one 18 .nil)))))))))))))))))))
set_option maxRecDepth 8000
/-- The block of some whole numbers of type int. -/
abbrev Nb (xs : List Int) : Blk := ⟨xs.map (AV.int .i64), .own, 3⟩
theorem store_int {H : Hp} {h : Nat} {xs : List Int} (hg : hget H h = some (Nb xs)) {i : Nat} (hi : i < xs.length) (x : Int) : astore Tryz.prog H 3 (.ptr h i) (.int .i64 x) = some (H.set h (Nb (xs.set i x))) := by
  rw [astore_ptr, hg]
  simp only [size3]
  rw [if_pos ⟨trivial, rfl, rfl, by rw [map_len]; exact hi⟩, AV.cells_int]
  congr 3
  exact splice_set _ _ _ hi
theorem load_int {H : Hp} {h : Nat} {xs : List Int} (hg : hget H h = some (Nb xs)) {i : Nat} (hi : i < xs.length) : aload Tryz.prog H 3 (.ptr h i) = some (.int .i64 (xs.getD i 0)) := by
  rw [aload_ptr, hg]
  simp only [agg3]
  rw [if_neg (by decide)]
  exact map_get _ _ _ hi
theorem Mo.otherE {H : Hp} {a : AV} {xs : List Int} {lo : Nat} (m : Mo H a xs lo) {h : Nat} {b0 : Blk} (hg : hget H h = some b0) (he : b0.ety ≠ 2) (b : Blk) : Mo (H.set h b) a xs lo := by
  rcases m with e | ⟨k, h1, h2, h3⟩
  · exact .inl e
  · have hne : k ≠ h := fun e => by rw [e, hg] at h2; cases h2; exact he rfl
    exact .inr ⟨k, h1, by rw [hget_set (hget_lt hg), if_neg hne]; exact h2, h3⟩
theorem posB_turn {n s t : Nat} (hs : s < n) (ht : t < n) {a b : Nat → Nat → Int} (ha : Symm n a) (hb : Symm n b) (h : ∀ i j, i < n → j < n → b i j = a (sw s t i) (sw s t j)) : posB b n = posB a n := by
  rw [Bool.eq_iff_iff, posB_iff, posB_iff, ← pos_iff ha, ← pos_iff hb]
  constructor
  · intro hp
    refine Pos_congr (fun i j hi hj => ?_) (Pos_turn hs ht hp)
    rw [h _ _ (sw_lt hs ht hi) (sw_lt hs ht hj), sw_sw, sw_sw]
  · intro hp
    refine Pos_congr (fun i j hi hj => ?_) (Pos_turn hs ht hp)
    rw [h i j hi hj]
theorem symm_ent' (n : Nat) (xs : List Int) : Symm n (ent n xs) := fun i j _ _ => ent_comm n xs i j
set_option maxHeartbeats 16000000 in
theorem detTurns_calls (n dg : Int) (hs : List Int) (c : AV) (ki kj : Int) (H : Hp) (hN : Noted H) (hn : 0 ≤ n ∧ n ≤ 255) (hdg : 0 ≤ dg ∧ dg ≤ 65535) (hh : Ints H .i16 c hs) (hki : 0 ≤ ki ∧ ki ≤ 255) (hkj : 0 ≤ kj ∧ kj ≤ 255) : ACalls Tryz.prog 5 [.int .u8 n, .int .u16 dg, c, .int .u8 ki, .int .u8 kj] H fun r H' => r = .bool true ∧ H = H' := by
  refine ACalls.drop (R := fun r => r = .bool true) ?_
  have hlen := hh.rd.len und26
  have ei : IntKind.i64.wrap ki = ki := wrap_i64_id (by omega) (by omega)
  have ej : IntKind.i64.wrap kj = kj := wrap_i64_id (by omega) (by omega)
  by_cases h60 : (hs.length : Int) > 60
  · have f60 : ((hs.length : Int) > 60) = True := eq_true h60
    refine ACalls_body Tryz.func5 rfl (by kernel_rfl) (by kernel_rfl) ?_
    repeat' first
      | (with_reducible first | refine AWp_seq_k (fun K hK => ?_) | refine AWp_skip ?_ | refine AWp_ret ?_ | refine AWp_regionE ?_ | refine AWp_condI ?_)
      | ((with_reducible refine ECall_intro (known6_calls _ hN) ?_); rintro _ _ ⟨rfl, rfl⟩)
      | (simp only [thenA, inBlockA, reduceIte, Nat.reduceEqDiff])
      | ((with_reducible refine hK _ _ ?_); clear hK)
      | (simp only [ACond, RA, EAtS_def, EAtX_def, wantedA, acall, astep, ev, ofValue, ofAtom, Nat.reduceEqDiff, Nat.reduceAdd, Nat.reduceMul, Nat.reduceSub, reduceCtorEq, reduceIte, aoptEv, abin, aint, ashift, aun, astr, aeqGuard, isConstOp, aconvH, aofStr, aconvSame, isU8, abuildSlice, afill, splice, azeros, Nat.reduceLeDiff, Nat.reduceLT, Int.reduceLE, Int.reduceLT, Int.reduceEq, Int.reduceToNat, Int.reducePow, IntKind.bits, Int.reduceNeg, RB, aalloc, Go.PW.dig_length, tf5LdD, hlen, f60])
    all_goals
      (
       (refine AEnd_gen (rs := [.tmp 10]) rfl ?_)
       (simp only [AEndR, aresults, Fr.put_some, Fr.put_none, fr0_zero, fr0_succ, fr0_nil, Nat.reduceEqDiff, reduceIte])
       (try simp (disch := (first | omega | (simp only [RO]; done) | assumption | (simp only [RM, Go.PW.dig_length]; done) | (simp only [RL, Go.PW.dig_length]; omega))) only [RD, reduceCtorEq, reduceIte, Go.PW.dig_length, Nat.reduceLeDiff, Nat.reduceAdd, Nat.reduceMul, Int.reduceToNat, tf5LdD]))
    all_goals exact ⟨Ext.refl _, trivial⟩
  · have f60 : ((hs.length : Int) > 60) = False := eq_false h60
    refine ACalls_body Tryz.func5 rfl (by kernel_rfl) (by kernel_rfl) ?_
    refine AWp_seq_k (fun K hQ => ?_)
    repeat' first
      | (with_reducible first | refine AWp_seq_k (fun K hK => ?_) | refine AWp_skip ?_ | refine AWp_regionE ?_ | refine AWp_condI ?_)
      | ((with_reducible refine ECall_intro (known6_calls _ hN) ?_); rintro _ _ ⟨rfl, rfl⟩)
      | (simp only [thenA, inBlockA, reduceIte, Nat.reduceEqDiff])
      | ((with_reducible refine hK _ _ ?_); clear hK)
      | (simp only [ACond, RA, EAtS_def, EAtX_def, wantedA, acall, astep, ev, ofValue, ofAtom, Nat.reduceEqDiff, Nat.reduceAdd, Nat.reduceMul, Nat.reduceSub, reduceCtorEq, reduceIte, aoptEv, abin, aint, ashift, aun, astr, aeqGuard, isConstOp, aconvH, aofStr, aconvSame, isU8, abuildSlice, afill, splice, azeros, Nat.reduceLeDiff, Nat.reduceLT, Int.reduceLE, Int.reduceLT, Int.reduceEq, Int.reduceToNat, Int.reducePow, IntKind.bits, Int.reduceNeg, RB, aalloc, Go.PW.dig_length, tf5LdD, hlen, f60])
    refine hQ _ _ ?_
    clear hQ
    refine AWp_seq_k (fun K hQ => ?_)
    repeat' first
      | (with_reducible first | refine AWp_seq_k (fun K hK => ?_) | refine AWp_skip ?_ | refine AWp_regionE ?_ | refine AWp_condI ?_)
      | ((with_reducible refine ECall_intro (known6_calls _ hN) ?_); rintro _ _ ⟨rfl, rfl⟩)
      | (simp only [thenA, inBlockA, reduceIte, Nat.reduceEqDiff])
      | ((with_reducible refine hK _ _ ?_); clear hK)
      | (simp only [ACond, RA, EAtS_def, EAtX_def, wantedA, acall, astep, ev, ofValue, ofAtom, Nat.reduceEqDiff, Nat.reduceAdd, Nat.reduceMul, Nat.reduceSub, reduceCtorEq, reduceIte, aoptEv, abin, aint, ashift, aun, astr, aeqGuard, isConstOp, aconvH, aofStr, aconvSame, isU8, abuildSlice, afill, splice, azeros, Nat.reduceLeDiff, Nat.reduceLT, Int.reduceLE, Int.reduceLT, Int.reduceEq, Int.reduceToNat, Int.reducePow, IntKind.bits, Int.reduceNeg, RB, aalloc, Go.PW.dig_length, tf5LdD, hlen, f60])
    refine hQ _ _ ?_
    clear hQ
    refine AWp_seq_k (fun K hQ => ?_)
    repeat' first
      | (with_reducible first | refine AWp_seq_k (fun K hK => ?_) | refine AWp_skip ?_ | refine AWp_regionE ?_ | refine AWp_condI ?_)
      | ((with_reducible refine ECall_intro (known6_calls _ hN) ?_); rintro _ _ ⟨rfl, rfl⟩)
      | (simp only [thenA, inBlockA, reduceIte, Nat.reduceEqDiff])
      | ((with_reducible refine hK _ _ ?_); clear hK)
      | (simp only [ACond, RA, EAtS_def, EAtX_def, wantedA, acall, astep, ev, ofValue, ofAtom, Nat.reduceEqDiff, Nat.reduceAdd, Nat.reduceMul, Nat.reduceSub, reduceCtorEq, reduceIte, aoptEv, abin, aint, ashift, aun, astr, aeqGuard, isConstOp, aconvH, aofStr, aconvSame, isU8, abuildSlice, afill, splice, azeros, Nat.reduceLeDiff, Nat.reduceLT, Int.reduceLE, Int.reduceLT, Int.reduceEq, Int.reduceToNat, Int.reducePow, IntKind.bits, Int.reduceNeg, RB, aalloc, Go.PW.dig_length, tf5LdD, hlen, f60])
    refine hQ _ _ ?_
    clear hQ
    refine AWp_seq_k (fun K2 hK2 => ?_)
    refine AWp_cut (fun fr' H1 => ∃ (p m : Nat) (b : AV) (ys : List Int), fr' 3 = .int .u8 ki ∧ fr' 4 = .int .u8 kj ∧ fr' 11 = .ptr p 0 ∧ hget H1 p = some (Sb m b) ∧ H.length ≤ p ∧ Mo H1 b ys H.length ∧ Right m ys ∧ Ext H H1) ?_ (fun fr' H1 h => hK2 _ _ ?_)
    · clear hK2
      repeat' first
        | (with_reducible first | refine AWp_regionE ?_)
        | (simp only [thenA, inBlockA, reduceIte, Nat.reduceEqDiff])
        | (simp only [ACond, RA, EAtS_def, EAtX_def, wantedA, acall, astep, ev, ofValue, ofAtom, Nat.reduceEqDiff, Nat.reduceAdd, Nat.reduceMul, Nat.reduceSub, reduceCtorEq, reduceIte, aoptEv, abin, aint, ashift, aun, astr, aeqGuard, isConstOp, aconvH, aofStr, aconvSame, isU8, abuildSlice, afill, splice, azeros, Nat.reduceLeDiff, Nat.reduceLT, Int.reduceLE, Int.reduceLT, Int.reduceEq, Int.reduceToNat, Int.reducePow, IntKind.bits, Int.reduceNeg, RB, aalloc, Go.PW.dig_length, tf5LdD])
      refine ECall_intro (Sym_calls n dg hs c _ hn hdg hh (by omega)) ?_
      rintro _ H2 ⟨m, b, ys, rfl, _, M, hr, x2⟩
      have hb1 := M.one
      have hcb : b.cells = [b] := AV.cells_one hb1
      have l2 := x2.len
      repeat' first
        | (simp only [thenA, inBlockA, reduceIte, Nat.reduceEqDiff])
        | (simp only [ACond, RA, EAtS_def, EAtX_def, wantedA, acall, astep, ev, ofValue, ofAtom, Nat.reduceEqDiff, Nat.reduceAdd, Nat.reduceMul, Nat.reduceSub, reduceCtorEq, reduceIte, aoptEv, abin, aint, ashift, aun, astr, aeqGuard, isConstOp, aconvH, aofStr, aconvSame, isU8, abuildSlice, afill, splice, azeros, Nat.reduceLeDiff, Nat.reduceLT, Int.reduceLE, Int.reduceLT, Int.reduceEq, Int.reduceToNat, Int.reducePow, IntKind.bits, Int.reduceNeg, RB, aalloc, Go.PW.dig_length, tf5LdD])
        | (simp (disch := first | omega | (simp only [RO]; done) | assumption) only [RS, six22, gix22, six26, gix26, six58, gix58, idx32, slh32, idx33, slh33, bst24_e, bst24_0, bst24_01])
        | (simp (disch := (first | omega | (simp only [RO]; done) | assumption | (simp only [RM, Go.PW.dig_length]; done) | (simp only [RL, Go.PW.dig_length]; omega))) only [RD, reduceCtorEq, reduceIte, Go.PW.dig_length, Nat.reduceLeDiff, Nat.reduceAdd, Nat.reduceMul, Int.reduceToNat, tf5LdD])
      all_goals exact ⟨H2.length, m, b, ys, rfl, by first | exact hget_at rfl | rw [if_pos rfl], l2, M.push _, hr, x2.pushed _⟩
    clear hK2
    obtain ⟨p, m, b, ys, k3, k4, k11, q11, lp0, M, hr, x1⟩ := h
    have hb1 : b.one = true := M.one
    have hcb : b.cells = [b] := AV.cells_one hb1
    have h8 := hr.len.1
    have lp := hget_lt q11
    by_cases hm0 : m = 0
    · have f0 : ((m : Int) = 0) = True := eq_true (by omega)
      repeat' first
        | (with_reducible first | refine AWp_seq_k (fun K hK => ?_) | refine AWp_ret ?_ | refine AWp_regionE ?_ | refine AWp_condI ?_)
        | (simp only [thenA, inBlockA, reduceIte, Nat.reduceEqDiff])
        | ((with_reducible refine hK _ _ ?_); clear hK)
        | (simp only [ACond, RA, EAtS_def, EAtX_def, wantedA, acall, astep, ev, ofValue, ofAtom, Nat.reduceEqDiff, Nat.reduceAdd, Nat.reduceMul, Nat.reduceSub, reduceCtorEq, reduceIte, aoptEv, abin, aint, ashift, aun, astr, aeqGuard, isConstOp, aconvH, aofStr, aconvSame, isU8, abuildSlice, afill, splice, azeros, Nat.reduceLeDiff, Nat.reduceLT, Int.reduceLE, Int.reduceLT, Int.reduceEq, Int.reduceToNat, Int.reducePow, IntKind.bits, Int.reduceNeg, RB, aalloc, Go.PW.dig_length, tf5LdD, k3, k4, k11, q11, f0])
        | (simp (disch := (first | omega | (simp only [RO]; done) | assumption | (simp only [RM, Go.PW.dig_length]; done) | (simp only [RL, Go.PW.dig_length]; omega))) only [RD, reduceCtorEq, reduceIte, Go.PW.dig_length, Nat.reduceLeDiff, Nat.reduceAdd, Nat.reduceMul, Int.reduceToNat, tf5LdD, k3, k4, k11, q11, f0])
      all_goals
        (
         (refine AEnd_gen (rs := [.tmp 10]) rfl ?_)
         (simp only [AEndR, aresults, Fr.put_some, Fr.put_none, fr0_zero, fr0_succ, fr0_nil, Nat.reduceEqDiff, reduceIte])
         (try simp (disch := (first | omega | (simp only [RO]; done) | assumption | (simp only [RM, Go.PW.dig_length]; done) | (simp only [RL, Go.PW.dig_length]; omega))) only [RD, reduceCtorEq, reduceIte, Go.PW.dig_length, Nat.reduceLeDiff, Nat.reduceAdd, Nat.reduceMul, Int.reduceToNat, tf5LdD]))
      all_goals exact ⟨x1, trivial⟩
    have f0 : ((m : Int) = 0) = False := eq_false (by omega)
    have hmk := fun H0 => make_ints (P := Tryz.prog) (H := H0) (n := m) (k := .i64) (l := .i64) und58 size3 zero3 bytes3 (by omega) (by omega)
    repeat' first
      | (with_reducible first | refine AWp_seq_k (fun K hK => ?_) | refine AWp_block ?_ | refine AWp_skip ?_ | refine AWp_regionE ?_ | refine AWp_condI ?_)
      | (simp only [thenA, inBlockA, reduceIte, Nat.reduceEqDiff])
      | ((with_reducible refine hK _ _ ?_); clear hK)
      | (simp only [ACond, RA, EAtS_def, EAtX_def, wantedA, acall, astep, ev, ofValue, ofAtom, Nat.reduceEqDiff, Nat.reduceAdd, Nat.reduceMul, Nat.reduceSub, reduceCtorEq, reduceIte, aoptEv, abin, aint, ashift, aun, astr, aeqGuard, isConstOp, aconvH, aofStr, aconvSame, isU8, abuildSlice, afill, splice, azeros, Nat.reduceLeDiff, Nat.reduceLT, Int.reduceLE, Int.reduceLT, Int.reduceEq, Int.reduceToNat, Int.reducePow, IntKind.bits, Int.reduceNeg, RB, aalloc, Go.PW.dig_length, tf5LdD, k3, k4, k11, q11, f0, hmk])
      | (simp (disch := (first | omega | (simp only [RO]; done) | assumption | (simp only [RM, Go.PW.dig_length]; done) | (simp only [RL, Go.PW.dig_length]; omega))) only [RD, reduceCtorEq, reduceIte, Go.PW.dig_length, Nat.reduceLeDiff, Nat.reduceAdd, Nat.reduceMul, Int.reduceToNat, tf5LdD, k3, k4, k11, q11, f0, hmk])
    obtain ⟨pb, hpb⟩ : ∃ pb, pb = H1.length := ⟨_, rfl⟩
    rw [← hpb]
    refine AWp_loop (fun l fr' H2 => ∃ (k : Nat) (ps : List Int), l = m - k ∧ k ≤ m ∧ fr' 3 = .int .u8 ki ∧ fr' 4 = .int .u8 kj ∧ fr' 11 = .ptr p 0 ∧ fr' 12 = .sl pb 0 m m ∧ fr' 13 = .int .i64 (k : Int) ∧ ps.length = m ∧ (∀ e, e < k → ps.getD e 0 = (e : Int)) ∧ H1 ++ [Nb ps] = H2) (m := m)
      ⟨0, List.replicate m 0, by omega, by omega, k3, k4, k11, rfl, rfl, by simp, fun e he => by omega, rfl⟩ ?_
    clear k3 k4 k11
    rintro l fr' H2 ⟨k, ps, rfl, hk, k3, k4, k11, k12, k13, hpl, hps, rfl⟩
    have gp : hget (H1 ++ [Nb ps]) pb = some (Nb ps) := hget_at hpb
    have q2 : hget (H1 ++ [Nb ps]) p = some (Sb m b) := hget_ext q11 (Ext.push _ _)
    by_cases hkm : k < m
    · have e1 : IntKind.i64.wrap ((k : Int) + 1) = ((k + 1 : Nat) : Int) := by rw [wrap_i64_id (by omega) (by omega)]; omega
      have st := store_int gp (i := k) (by omega) (k : Int)
      have hset : (H1 ++ [Nb ps]).set pb (Nb (ps.set k (k : Int))) = H1 ++ [Nb (ps.set k (k : Int))] := by
        rw [hpb, List.set_append_right _ _ (Nat.le_refl _), Nat.sub_self]; rfl
      rw [hset] at st
      repeat' first
        | (with_reducible first | refine AWp_seq_k (fun K hK => ?_) | refine AWp_block ?_ | refine AWp_skip ?_ | refine AWp_regionE ?_ | refine AWp_condI ?_)
        | (with_reducible refine AIte (fun hc => ?_) (fun hc => ?_) <;> (try simp only [RC] at hc) <;> (try (exfalso; first | omega | contradiction)))
        | (simp only [thenA, inBlockA, reduceIte, Nat.reduceEqDiff])
        | ((with_reducible refine hK _ _ ?_); clear hK)
        | (simp only [ACond, RA, EAtS_def, EAtX_def, wantedA, acall, astep, ev, ofValue, ofAtom, Nat.reduceEqDiff, Nat.reduceAdd, Nat.reduceMul, Nat.reduceSub, reduceCtorEq, reduceIte, aoptEv, abin, aint, ashift, aun, astr, aeqGuard, isConstOp, aconvH, aofStr, aconvSame, isU8, abuildSlice, afill, splice, azeros, Nat.reduceLeDiff, Nat.reduceLT, Int.reduceLE, Int.reduceLT, Int.reduceEq, Int.reduceToNat, Int.reducePow, IntKind.bits, Int.reduceNeg, RB, aalloc, Go.PW.dig_length, tf5LdD, k3, k4, k11, k12, k13, q2, e1, st])
        | (simp (disch := first | omega | (simp only [RO]; done) | assumption) only [RS, six22, gix22, six26, gix26, six58, gix58, idx32, slh32, idx33, slh33, bst24_e, bst24_0, bst24_01])
        | (simp (disch := (first | omega | (simp only [RO]; done) | assumption | (simp only [RM, Go.PW.dig_length]; done) | (simp only [RL, Go.PW.dig_length]; omega))) only [RD, reduceCtorEq, reduceIte, Go.PW.dig_length, Nat.reduceLeDiff, Nat.reduceAdd, Nat.reduceMul, Int.reduceToNat, tf5LdD, k3, k4, k11, k12, k13, q2, e1, st])
      all_goals
        refine ⟨_, by omega, k + 1, ps.set k (k : Int), rfl, by omega, rfl, by rw [List.length_set]; exact hpl, fun e he => ?_, rfl⟩
        rw [getD_set _ _ (by omega)]
        by_cases hek : e = k
        · rw [if_pos hek, hek]
        · rw [if_neg hek]; exact hps e (by omega)
    obtain rfl : k = m := by omega
    obtain ⟨s, hsd⟩ : ∃ s : Nat, (s : Int) = ki % (k : Int) := ⟨(ki % (k : Int)).toNat, by have := Int.emod_nonneg ki (b := (k : Int)) (by omega); omega⟩
    have hsm : s < k := by have := Int.emod_lt_of_pos ki (b := (k : Int)) (by omega); omega
    obtain ⟨t, htd⟩ : ∃ t : Nat, (t : Int) = kj % (k : Int) := ⟨(kj % (k : Int)).toNat, by have := Int.emod_nonneg kj (b := (k : Int)) (by omega); omega⟩
    have htm : t < k := by have := Int.emod_lt_of_pos kj (b := (k : Int)) (by omega); omega
    have es : ki.tmod (k : Int) = (s : Int) := by rw [tmod_pos hki.1, hsd]
    have et : kj.tmod (k : Int) = (t : Int) := by rw [tmod_pos hkj.1, htd]
    have la := load_int gp (i := s) (by omega)
    have lb := load_int gp (i := t) (by omega)
    rw [hps s hsm] at la
    rw [hps t htm] at lb
    have s1 := store_int gp (i := s) (by omega) (t : Int)
    have hset1 : (H1 ++ [Nb ps]).set pb (Nb (ps.set s (t : Int))) = H1 ++ [Nb (ps.set s (t : Int))] := by
      rw [hpb, List.set_append_right _ _ (Nat.le_refl _), Nat.sub_self]; rfl
    rw [hset1] at s1
    have gp1 : hget (H1 ++ [Nb (ps.set s (t : Int))]) pb = some (Nb (ps.set s (t : Int))) := hget_at hpb
    have s2 := store_int gp1 (i := t) (by rw [List.length_set]; omega) (s : Int)
    obtain ⟨qs, hqs⟩ : ∃ qs, qs = (ps.set s (t : Int)).set t (s : Int) := ⟨_, rfl⟩
    have hset2 : (H1 ++ [Nb (ps.set s (t : Int))]).set pb (Nb ((ps.set s (t : Int)).set t (s : Int))) = H1 ++ [Nb qs] := by
      rw [hpb, List.set_append_right _ _ (Nat.le_refl _), Nat.sub_self, hqs]; rfl
    rw [hset2] at s2
    have hql : qs.length = k := by rw [hqs, List.length_set, List.length_set]; exact hpl
    have hqg : ∀ e, e < k → qs.getD e 0 = ((sw s t e : Nat) : Int) := by
      intro e he
      rw [hqs, getD_set _ _ (by rw [List.length_set]; omega), getD_set _ _ (by omega), hps e he]
      unfold sw
      by_cases h1 : e = t <;> by_cases h2 : e = s
      · rw [if_pos h1, if_pos h2]; omega
      · rw [if_pos h1, if_neg h2, if_pos h1]
      · rw [if_neg h1, if_pos h2, if_pos h2]
      · rw [if_neg h1, if_neg h2, if_neg h2, if_neg h1]
    have gq : hget (H1 ++ [Nb qs]) pb = some (Nb qs) := hget_at hpb
    have q3 : hget (H1 ++ [Nb qs]) p = some (Sb k b) := hget_ext q11 (Ext.push _ _)
    repeat' first
      | (with_reducible first | refine AWp_seq_k (fun K hK => ?_) | refine AWp_exit ?_ | refine AWp_regionE ?_ | refine AWp_drawE (id := 13) [] pn5_13LdD (by kernel_rfl) (by kernel_rfl) ?_ | refine AWp_drawE (id := 14) [] pn5_14LdD (by kernel_rfl) (by kernel_rfl) ?_ | refine AWp_condI ?_)
      | (with_reducible refine AIte (fun hc => ?_) (fun hc => ?_) <;> (try simp only [RC] at hc) <;> (try (exfalso; first | omega | contradiction)))
      | (simp only [thenA, inBlockA, reduceIte, Nat.reduceEqDiff])
      | ((with_reducible refine hK _ _ ?_); clear hK)
      | (clear hK; (with_reducible refine hK _ _ ?_); clear hK)
      | (simp only [ACond, RA, EAtS_def, EAtX_def, wantedA, acall, astep, ev, ofValue, ofAtom, Nat.reduceEqDiff, Nat.reduceAdd, Nat.reduceMul, Nat.reduceSub, reduceCtorEq, reduceIte, aoptEv, abin, aint, ashift, aun, astr, aeqGuard, isConstOp, aconvH, aofStr, aconvSame, isU8, abuildSlice, afill, splice, azeros, Nat.reduceLeDiff, Nat.reduceLT, Int.reduceLE, Int.reduceLT, Int.reduceEq, Int.reduceToNat, Int.reducePow, IntKind.bits, Int.reduceNeg, RB, aalloc, Go.PW.dig_length, tf5LdD, k3, k4, k11, k12, k13, q2, q3, f0, ei, ej, es, et, la, lb, s1, s2])
      | (simp (disch := first | omega | (simp only [RO]; done) | assumption) only [RS, six22, gix22, six26, gix26, six58, gix58, idx32, slh32, idx33, slh33, bst24_e, bst24_0, bst24_01])
      | (simp (disch := (first | omega | (simp only [RO]; done) | assumption | (simp only [RM, Go.PW.dig_length]; done) | (simp only [RL, Go.PW.dig_length]; omega))) only [RD, reduceCtorEq, reduceIte, Go.PW.dig_length, Nat.reduceLeDiff, Nat.reduceAdd, Nat.reduceMul, Int.reduceToNat, tf5LdD, k3, k4, k11, k12, k13, q2, q3, f0, ei, ej, es, et, la, lb, s1, s2])
    refine ECall_intro (MoNew_calls k _ h8) ?_
    rintro _ H3 ⟨b0, rfl, M0, x3⟩
    have hb0 := M0.one
    have hcb0 : b0.cells = [b0] := AV.cells_one hb0
    obtain ⟨q, hq⟩ : ∃ q, q = H3.length := ⟨_, rfl⟩
    have x3' := x3
    have q4 : hget (H3 ++ [Sb k b0]) p = some (Sb k b) := hget_ext (hget_ext q3 x3) (Ext.push _ _)
    have q5 : hget (H3 ++ [Sb k b0]) pb = some (Nb qs) := hget_ext (hget_ext gq x3) (Ext.push _ _)
    have q6 : hget (H3 ++ [Sb k b0]) q = some (Sb k b0) := hget_at hq
    have M4 : Mo (H3 ++ [Sb k b0]) b ys H.length := ((M.push _).ext x3).push _
    have x4 : Ext H (H3 ++ [Sb k b0]) := ((x1.pushed _).trans x3).pushed _
    have hl3 := x3.len
    simp only [List.length_append, List.length_cons, List.length_nil] at hl3
    have hl1 := x1.len
    have lq : H.length ≤ q := by omega
    have hpq : p < q := by omega
    have hpbq : pb < q := by omega
    repeat' first
      | (with_reducible first | refine AWp_seq_k (fun K hK => ?_) | refine AWp_block ?_ | refine AWp_regionE ?_)
      | (simp only [thenA, inBlockA, reduceIte, Nat.reduceEqDiff])
      | ((with_reducible refine hK _ _ ?_); clear hK)
      | (simp only [ACond, RA, EAtS_def, EAtX_def, wantedA, acall, astep, ev, ofValue, ofAtom, Nat.reduceEqDiff, Nat.reduceAdd, Nat.reduceMul, Nat.reduceSub, reduceCtorEq, reduceIte, aoptEv, abin, aint, ashift, aun, astr, aeqGuard, isConstOp, aconvH, aofStr, aconvSame, isU8, abuildSlice, afill, splice, azeros, Nat.reduceLeDiff, Nat.reduceLT, Int.reduceLE, Int.reduceLT, Int.reduceEq, Int.reduceToNat, Int.reducePow, IntKind.bits, Int.reduceNeg, RB, aalloc, Go.PW.dig_length, tf5LdD, k3, k4, k11, k12, k13, ← hq])
      | (simp (disch := first | omega | (simp only [RO]; done) | assumption) only [RS, six22, gix22, six26, gix26, six58, gix58, idx32, slh32, idx33, slh33, bst24_e, bst24_0, bst24_01])
      | (simp (disch := (first | omega | (simp only [RO]; done) | assumption | (simp only [RM, Go.PW.dig_length]; done) | (simp only [RL, Go.PW.dig_length]; omega))) only [RD, reduceCtorEq, reduceIte, Go.PW.dig_length, Nat.reduceLeDiff, Nat.reduceAdd, Nat.reduceMul, Int.reduceToNat, tf5LdD, k3, k4, k11, k12, k13, ← hq])
    refine AWp_loop (fun l fr' H5 => ∃ (x : Nat) (b2 : AV) (zs : List Int), l = k - x ∧ x ≤ k ∧ fr' 11 = .ptr p 0 ∧ fr' 12 = .sl pb 0 k k ∧ fr' 16 = .ptr q 0 ∧ fr' 17 = .int .i64 (x : Int) ∧ hget H5 p = some (Sb k b) ∧ hget H5 pb = some (Nb qs) ∧ hget H5 q = some (Sb k b2) ∧ Mo H5 b ys H.length ∧ Mo H5 b2 zs 0 ∧ Right k zs ∧ (∀ i j, i < k → j < k → ent k zs i j = if Upto x x i j then ent k ys (sw s t i) (sw s t j) else 0) ∧ Ext H H5) (m := k)
      ⟨0, b0, _, by omega, by omega, k11, k12, rfl, rfl, q4, q5, q6, M4, (M0.push _).low (by omega), right_noughts h8, fun i j _ _ => by rw [if_neg (by unfold Upto; omega), ent_noughts], x4⟩ ?_
    clear k3 k4 k11 k12 k13 q4 q5 q6 M4 x4
    rintro l fr' H5 ⟨x, b2, zs, rfl, hx, k11, k12, k16, k17, q4, q5, q6, M4, M2, hrz, hz, x4⟩
    have e1 : IntKind.i64.wrap ((x : Int) + 1) = ((x + 1 : Nat) : Int) := by rw [wrap_i64_id (by omega) (by omega)]; omega
    by_cases hxk : x < k
    · skip
      repeat' first
        | (with_reducible first | refine AWp_seq_k (fun K hK => ?_) | refine AWp_block ?_ | refine AWp_skip ?_ | refine AWp_regionE ?_ | refine AWp_condI ?_)
        | (with_reducible refine AIte (fun hc => ?_) (fun hc => ?_) <;> (try simp only [RC] at hc) <;> (try (exfalso; first | omega | contradiction)))
        | (simp only [thenA, inBlockA, reduceIte, Nat.reduceEqDiff])
        | ((with_reducible refine hK _ _ ?_); clear hK)
        | (simp only [ACond, RA, EAtS_def, EAtX_def, wantedA, acall, astep, ev, ofValue, ofAtom, Nat.reduceEqDiff, Nat.reduceAdd, Nat.reduceMul, Nat.reduceSub, reduceCtorEq, reduceIte, aoptEv, abin, aint, ashift, aun, astr, aeqGuard, isConstOp, aconvH, aofStr, aconvSame, isU8, abuildSlice, afill, splice, azeros, Nat.reduceLeDiff, Nat.reduceLT, Int.reduceLE, Int.reduceLT, Int.reduceEq, Int.reduceToNat, Int.reducePow, IntKind.bits, Int.reduceNeg, RB, aalloc, Go.PW.dig_length, tf5LdD, k11, k12, k16, k17, q4])
        | (simp (disch := (first | omega | (simp only [RO]; done) | assumption | (simp only [RM, Go.PW.dig_length]; done) | (simp only [RL, Go.PW.dig_length]; omega))) only [RD, reduceCtorEq, reduceIte, Go.PW.dig_length, Nat.reduceLeDiff, Nat.reduceAdd, Nat.reduceMul, Int.reduceToNat, tf5LdD, k11, k12, k16, k17, q4])
      refine AWp_loop (fun l fr' H5 => ∃ (y : Nat) (b2 : AV) (zs : List Int), l = k - y ∧ x ≤ y ∧ y ≤ k ∧ fr' 11 = .ptr p 0 ∧ fr' 12 = .sl pb 0 k k ∧ fr' 16 = .ptr q 0 ∧ fr' 17 = .int .i64 (x : Int) ∧ fr' 18 = .int .i64 (y : Int) ∧ hget H5 p = some (Sb k b) ∧ hget H5 pb = some (Nb qs) ∧ hget H5 q = some (Sb k b2) ∧ Mo H5 b ys H.length ∧ Mo H5 b2 zs 0 ∧ Right k zs ∧ (∀ i j, i < k → j < k → ent k zs i j = if Upto x y i j then ent k ys (sw s t i) (sw s t j) else 0) ∧ Ext H H5) (m := k - x)
        ⟨x, b2, zs, by omega, by omega, by omega, k11, k12, k16, k17, rfl, q4, q5, q6, M4, M2, hrz, hz, x4⟩ ?_
      clear k11 k12 k16 k17 q4 q5 q6 M4 M2 hrz hz x4 zs b2
      rintro l fr' H5 ⟨y, b2, zs, rfl, hxy, hy, k11, k12, k16, k17, k18, q4, q5, q6, M4, M2, hrz, hz, x4⟩
      have e2 : IntKind.i64.wrap ((y : Int) + 1) = ((y + 1 : Nat) : Int) := by rw [wrap_i64_id (by omega) (by omega)]; omega
      by_cases hyk : y < k
      · have hb2 := M2.one
        have hcb2 : b2.cells = [b2] := AV.cells_one hb2
        have hsx := sw_lt hsm htm hxk
        have hsy := sw_lt hsm htm hyk
        have la2 := load_int q5 (i := x) (by omega)
        have lb2 := load_int q5 (i := y) (by omega)
        rw [hqg x hxk] at la2
        rw [hqg y hyk] at lb2
        have hAt := fun H0 (x0 : ∃ E, H0 = H5 ++ E) => refAt_calls k ys b (sw s t x) (sw s t y) H0 (M4.ints.ext x0) hr hsx hsy
        have hfv := ent_fit hr hsx hsy
        repeat' first
          | (with_reducible first | refine AWp_seq_k (fun K hK => ?_) | refine AWp_block ?_ | refine AWp_skip ?_ | refine AWp_regionE ?_ | refine AWp_drawE (id := 22) [12] pn5_22LdD (by kernel_rfl) (by kernel_rfl) ?_ | refine AWp_condI ?_ | refine Run_pur ?_)
          | (with_reducible refine EPure_intro (fun _ x => (hAt _ x)) ?_)
          | (with_reducible refine AIte (fun hc => ?_) (fun hc => ?_) <;> (try simp only [RC] at hc) <;> (try (exfalso; first | omega | contradiction)))
          | (simp only [thenA, inBlockA, reduceIte, Nat.reduceEqDiff])
          | ((with_reducible refine hK _ _ ?_); clear hK)
          | (simp only [ACond, RA, EAtS_def, EAtX_def, wantedA, acall, astep, ev, ofValue, ofAtom, Nat.reduceEqDiff, Nat.reduceAdd, Nat.reduceMul, Nat.reduceSub, reduceCtorEq, reduceIte, aoptEv, abin, aint, ashift, aun, astr, aeqGuard, isConstOp, aconvH, aofStr, aconvSame, isU8, abuildSlice, afill, splice, azeros, Nat.reduceLeDiff, Nat.reduceLT, Int.reduceLE, Int.reduceLT, Int.reduceEq, Int.reduceToNat, Int.reducePow, IntKind.bits, Int.reduceNeg, RB, aalloc, Go.PW.dig_length, tf5LdD, k11, k12, k16, k17, k18, q4, q6, la2, lb2])
          | (simp (disch := first | omega | (simp only [RO]; done) | assumption) only [RS, six22, gix22, six26, gix26, six58, gix58, idx32, slh32, idx33, slh33, bst24_e, bst24_0, bst24_01])
          | (simp (disch := (first | omega | (simp only [RO]; done) | assumption | (simp only [RM, Go.PW.dig_length]; done) | (simp only [RL, Go.PW.dig_length]; omega))) only [RD, reduceCtorEq, reduceIte, Go.PW.dig_length, Nat.reduceLeDiff, Nat.reduceAdd, Nat.reduceMul, Int.reduceToNat, tf5LdD, k11, k12, k16, k17, k18, q4, q6, la2, lb2])
        all_goals
          refine ECall_intro (Set_calls k zs b2 x y (ent k ys (sw s t x) (sw s t y)) _ M2.ints hrz hxk hyk hfv) ?_
          rintro _ H6 ⟨b3, rfl, M3, x6⟩
          have hb3 := M3.one
          have hcb3 : b3.cells = [b3] := AV.cells_one hb3
          have q46 := hget_ext q4 x6
          have q56 := hget_ext q5 x6
          have q66 := hget_ext q6 x6
          have l6 := hget_lt q66
          have hpl2 := (hrz.pl hxk hyk).2
          repeat' first
            | (with_reducible first | refine AWp_regionE ?_)
            | (simp only [thenA, inBlockA, reduceIte, Nat.reduceEqDiff])
            | ((with_reducible refine hK _ _ ?_); clear hK)
            | (simp only [ACond, RA, EAtS_def, EAtX_def, wantedA, acall, astep, ev, ofValue, ofAtom, Nat.reduceEqDiff, Nat.reduceAdd, Nat.reduceMul, Nat.reduceSub, reduceCtorEq, reduceIte, aoptEv, abin, aint, ashift, aun, astr, aeqGuard, isConstOp, aconvH, aofStr, aconvSame, isU8, abuildSlice, afill, splice, azeros, Nat.reduceLeDiff, Nat.reduceLT, Int.reduceLE, Int.reduceLT, Int.reduceEq, Int.reduceToNat, Int.reducePow, IntKind.bits, Int.reduceNeg, RB, aalloc, Go.PW.dig_length, tf5LdD, k11, k12, k16, k17, k18, q66, e2])
            | (simp (disch := first | omega | (simp only [RO]; done) | assumption) only [RS, six22, gix22, six26, gix26, six58, gix58, idx32, slh32, idx33, slh33, bst24_e, bst24_0, bst24_01])
            | (simp (disch := (first | omega | (simp only [RO]; done) | assumption | (simp only [RM, Go.PW.dig_length]; done) | (simp only [RL, Go.PW.dig_length]; omega))) only [RD, reduceCtorEq, reduceIte, Go.PW.dig_length, Nat.reduceLeDiff, Nat.reduceAdd, Nat.reduceMul, Int.reduceToNat, tf5LdD, k11, k12, k16, k17, k18, q66, e2])
        all_goals
          refine ⟨_, by omega, y + 1, b3, _, rfl, by omega, by omega, rfl, by rw [hget_set l6, if_neg (by omega)]; exact q46, by rw [hget_set l6, if_neg (by omega)]; exact q56, by rw [hget_set l6, if_pos rfl], (M4.ext x6).otherE q66 (show (24 : Nat) ≠ 2 by decide) _, (M3.otherE q66 (show (24 : Nat) ≠ 2 by decide) _).low (Nat.zero_le _), hrz.set _ hfv, fun i j hi hj => ?_, (x4.trans x6).set lq _⟩
          rw [ent_set h8 hxk hyk hi hj (by omega), hz i j hi hj]
          by_cases e : (i = x ∧ j = y) ∨ (i = y ∧ j = x)
          · rw [if_pos e]
            rcases e with ⟨rfl, rfl⟩ | ⟨rfl, rfl⟩
            · rw [if_pos (by unfold Upto; omega)]
            · rw [if_pos (by unfold Upto; omega), ent_comm]
          · rw [if_neg e]
            have : Upto x y i j ↔ Upto x (y + 1) i j := by unfold Upto; omega
            simp only [this]
      · obtain rfl : y = k := by omega
        repeat' first
          | (with_reducible first | refine AWp_seq_k (fun K hK => ?_) | refine AWp_exit ?_ | refine AWp_regionE ?_ | refine AWp_condI ?_)
          | (with_reducible refine AIte (fun hc => ?_) (fun hc => ?_) <;> (try simp only [RC] at hc) <;> (try (exfalso; first | omega | contradiction)))
          | (simp only [thenA, inBlockA, reduceIte, Nat.reduceEqDiff])
          | ((with_reducible refine hK _ _ ?_); clear hK)
          | (clear hK; (with_reducible refine hK _ _ ?_); clear hK)
          | (simp only [ACond, RA, EAtS_def, EAtX_def, wantedA, acall, astep, ev, ofValue, ofAtom, Nat.reduceEqDiff, Nat.reduceAdd, Nat.reduceMul, Nat.reduceSub, reduceCtorEq, reduceIte, aoptEv, abin, aint, ashift, aun, astr, aeqGuard, isConstOp, aconvH, aofStr, aconvSame, isU8, abuildSlice, afill, splice, azeros, Nat.reduceLeDiff, Nat.reduceLT, Int.reduceLE, Int.reduceLT, Int.reduceEq, Int.reduceToNat, Int.reducePow, IntKind.bits, Int.reduceNeg, RB, aalloc, Go.PW.dig_length, tf5LdD, k11, k12, k16, k17, k18, q4, e1])
          | (simp (disch := (first | omega | (simp only [RO]; done) | assumption | (simp only [RM, Go.PW.dig_length]; done) | (simp only [RL, Go.PW.dig_length]; omega))) only [RD, reduceCtorEq, reduceIte, Go.PW.dig_length, Nat.reduceLeDiff, Nat.reduceAdd, Nat.reduceMul, Int.reduceToNat, tf5LdD, k11, k12, k16, k17, k18, q4, e1])
        all_goals
          refine ⟨_, by omega, x + 1, b2, zs, rfl, by omega, rfl, q5, q6, M4, M2, hrz, fun i j hi hj => ?_, x4⟩
          rw [hz i j hi hj]
          have : Upto x y i j ↔ Upto (x + 1) (x + 1) i j := by unfold Upto; omega
          simp only [this]
    · obtain rfl : x = k := by omega
      have hb2 := M2.one
      have hcb2 : b2.cells = [b2] := AV.cells_one hb2
      have hzt : ∀ i j, i < x → j < x → ent x zs i j = ent x ys (sw s t i) (sw s t j) := fun i j hi hj => by rw [hz i j hi hj, if_pos (by unfold Upto; omega)]
      have hP : P (ent x zs) x = P (ent x ys) x := by rw [P_congr hzt, P_turn hsm htm]
      have hB : posB (ent x zs) x = posB (ent x ys) x := posB_turn hsm htm (symm_ent' _ _) (symm_ent' _ _) hzt
      have D1 := Det_calls x ys b H5 M4.ints hr
      have D2 := fun H0 (x0 : Ext H5 H0) => Det_calls x zs b2 H0 (M2.ints.ext x0) hrz
      have F1 := fun H0 (x0 : Ext H5 H0) => Definite_calls x ys b H0 (M4.ints.ext x0) hr
      have F2 := fun H0 (x0 : Ext H5 H0) => Definite_calls x zs b2 H0 (M2.ints.ext x0) hrz
      rw [hP] at D2
      rw [hB] at F2
      have q47 := hget_ext q4 ((Ext.push H5 (Wb (P (ent x ys) x))).pushed (Wb (P (ent x ys) x)))
      have q67 := hget_ext q6 ((Ext.push H5 (Wb (P (ent x ys) x))).pushed (Wb (P (ent x ys) x)))
      have q66 := hget_ext q6 (Ext.push H5 (Wb (P (ent x ys) x)))
      have hq := eq_wide (P (ent x ys) x)
      have hgw := guardW
      repeat' first
        | (with_reducible first | refine AWp_seq_k (fun K hK => ?_) | refine AWp_exit ?_ | refine AWp_ret ?_ | refine AWp_regionE ?_ | refine AWp_drawE (id := 25) [13] pn5_25LdD (by kernel_rfl) (by kernel_rfl) ?_ | refine AWp_condI ?_ | refine Run_ext ?_)
        | (with_reducible refine EExt_sure (F1 _ ((Ext.push _ _).pushed _)) ?_)
        | ((with_reducible refine ECall_intro (D1) ?_); rintro _ _ ⟨rfl, rfl⟩)
        | ((with_reducible refine ECall_intro (D2 _ (Ext.push _ _)) ?_); rintro _ _ ⟨rfl, rfl⟩)
        | ((with_reducible refine ECall_intro (F2 _ ((Ext.push _ _).pushed _)) ?_); rintro _ _ ⟨rfl, rfl⟩)
        | (with_reducible refine AIte (fun hc => ?_) (fun hc => ?_) <;> (try simp only [RC] at hc) <;> (try (exfalso; first | omega | contradiction)))
        | (simp only [thenA, inBlockA, reduceIte, Nat.reduceEqDiff])
        | ((with_reducible refine hK _ _ ?_); clear hK)
        | (clear hK; (with_reducible refine hK _ _ ?_); clear hK)
        | (simp only [ACond, RA, EAtS_def, EAtX_def, wantedA, acall, astep, ev, ofValue, ofAtom, Nat.reduceEqDiff, Nat.reduceAdd, Nat.reduceMul, Nat.reduceSub, reduceCtorEq, reduceIte, aoptEv, abin, aint, ashift, aun, astr, aeqGuard, isConstOp, aconvH, aofStr, aconvSame, isU8, abuildSlice, afill, splice, azeros, Nat.reduceLeDiff, Nat.reduceLT, Int.reduceLE, Int.reduceLT, Int.reduceEq, Int.reduceToNat, Int.reducePow, IntKind.bits, Int.reduceNeg, RB, aalloc, Go.PW.dig_length, tf5LdD, k11, k12, k16, k17, q4, q6, q66, q47, q67, hq, hgw, eq_nilI und35])
        | (simp (disch := (first | omega | (simp only [RO]; done) | assumption | (simp only [RM, Go.PW.dig_length]; done) | (simp only [RL, Go.PW.dig_length]; omega))) only [RD, reduceCtorEq, reduceIte, Go.PW.dig_length, Nat.reduceLeDiff, Nat.reduceAdd, Nat.reduceMul, Int.reduceToNat, tf5LdD, k11, k12, k16, k17, q4, q6, q66, q47, q67, hq, hgw, eq_nilI und35])
      all_goals
        (
         (refine AEnd_gen (rs := [.tmp 10]) rfl ?_)
         (simp only [AEndR, aresults, Fr.put_some, Fr.put_none, fr0_zero, fr0_succ, fr0_nil, Nat.reduceEqDiff, reduceIte])
         (try simp (disch := (first | omega | (simp only [RO]; done) | assumption | (simp only [RM, Go.PW.dig_length]; done) | (simp only [RL, Go.PW.dig_length]; omega))) only [RD, reduceCtorEq, reduceIte, Go.PW.dig_length, Nat.reduceLeDiff, Nat.reduceAdd, Nat.reduceMul, Int.reduceToNat, tf5LdD]))
      all_goals exact ⟨(x4.pushed _).pushed _, trivial⟩
end Go.Proofs.YtfalfmfkifemeaaGreatDoor

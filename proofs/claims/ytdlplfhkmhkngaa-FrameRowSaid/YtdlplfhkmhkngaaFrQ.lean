/- A part of the proofs of this seat: FrQ. No condition. -/
import Derived.Test.YtdlplfhkmhkngaaFrP
set_option linter.unusedVariables false
set_option linter.unusedSimpArgs false
namespace Go.Proofs.Ytdlplfhkmhkngaa
open Go.AL

theorem Own.append3 {P : Program} {H0 H : Hp} {z n m by_ : Nat} {s x zv : AV} {cs ds : List AV} {t e : TypeId} (h : Own H z e s cs n H0.length) (hns : s = .nilS ∨ ∃ h, s = .sg h 0 n z) (hx : Rd H z x ds m) (x0 : Ext H0 H) (hu : P.underlying t = some (.slice e)) (hz : sizeT P e = some z) (hzv : zeroT P e = some zv) (hzl : zv.cells.length = z) (hz0 : 0 < z) (hb : bytesT P e = some by_)
    (hc : cs.all AV.one = true) (ho : ds.all AV.one = true) (hby : (n + m) * by_ ≤ 140737488355328) (hm : n + m ≤ 140737488355328) :
    ∃ v' H', aappend P H t s x = some (v', H') ∧ Own H' z e v' (cs ++ ds) (n + m) H0.length ∧ Ext H0 H' ∧ (v' = .nilS ∨ ∃ h, v' = .sg h 0 (n + m) z) ∧ Moved H H' s cs e := by
  rcases Nat.eq_zero_or_pos m with rfl | hmp
  · have : ds = [] := List.eq_nil_of_length_eq_zero (by rw [hx.length]; omega)
    subst this
    refine ⟨s, H, append_none hx hu hz hzv hzl hz0 hb rfl ?_, by simpa using h, x0, by simpa using hns, .inl (Ext.refl _)⟩
    rcases hns with h | ⟨h', h1⟩
    · exact .inl h
    · exact .inr (.inr ⟨_, _, _, h1⟩)
  · obtain ⟨v', H', h1, h2, h3, h4, h5⟩ := Own.append2 h hns hx x0 hu hz hzv hzl hz0 hb hc ho hby hm hmp
    exact ⟨v', H', h1, h2, h3, .inr h4, h5⟩

theorem Rd.of_get {H : Hp} {h z n : Nat} {cs : List AV} {k : BK} {e : TypeId} (hg : hget H h = some ⟨cs, k, e⟩) (hk : k ≠ .dead) (hl : cs.length = n * z) : Rd H z (.sl h 0 n n) cs n := by
  refine ⟨?_, Nat.le_refl _⟩
  simp only [arow, hg]
  rw [if_neg hk, if_pos (by omega), List.drop_zero, List.take_of_length_le (by omega)]
theorem parseN_pay : ∀ (n : Nat) (xs : List Int), xs.length ≤ n → ∀ q ∈ (parseN xs).1, q ≠ []
  | n, xs, hn => by
    by_cases h : (nxt xs).1 = 0
    · rw [parseN_stop h]; intro q hq; cases hq
    · have hle := nxt_le xs
      match n, hn with
      | 0, hn => omega
      | n + 1, hn =>
        have ih := parseN_pay n (xs.drop (nxt xs).1) (by rw [List.length_drop]; omega)
        rw [parseN_step h]
        intro q hq
        rcases List.mem_append.1 hq with hq | hq
        · by_cases h0 : (nxt xs).2.1 = []
          · rw [if_pos h0] at hq; cases hq
          · rw [if_neg h0] at hq
            rw [List.mem_singleton.1 hq]; exact h0
        · exact ih q hq
theorem parseN_count : ∀ (n : Nat) (xs : List Int), xs.length ≤ n → (parseN xs).1.length ≤ xs.length
  | n, xs, hn => by
    by_cases h : (nxt xs).1 = 0
    · rw [parseN_stop h]; simp
    · have hle := nxt_le xs
      match n, hn with
      | 0, hn => omega
      | n + 1, hn =>
        have ih := parseN_count n (xs.drop (nxt xs).1) (by rw [List.length_drop]; omega)
        rw [parseN_step h]
        rw [List.length_drop] at ih
        simp only [List.length_append]
        by_cases h0 : (nxt xs).2.1 = []
        · rw [if_pos h0]; simp; omega
        · rw [if_neg h0]; simp; omega
theorem rows_append {H : Hp} {k : IntKind} : ∀ {vs ws : List AV} {xss yss : List (List Int)}, RowsI H k vs xss → RowsI H k ws yss → RowsI H k (vs ++ ws) (xss ++ yss)
  | [], _, [], _, _, h => h
  | v :: vs, _, x :: xss, _, h, h' => ⟨h.1, rows_append (vs := vs) h.2 h'⟩
theorem take_more (all : List Int) {a n e : Nat} (he : e = if a + n < all.length then a + n else all.length) (ha : a < all.length) : all.take (a + n) = all.take a ++ (all.drop a).take (e - a) ∧ a ≤ e ∧ e ≤ all.length ∧ (0 < n → a < e) := by
  by_cases h : a + n < all.length
  · rw [if_pos h] at he
    subst he
    refine ⟨?_, by omega, by omega, by omega⟩
    rw [show a + n - a = n by omega, List.take_add]
  · rw [if_neg h] at he
    subst he
    refine ⟨?_, by omega, by omega, by omega⟩
    rw [List.take_of_length_le (l := all) (i := a + n) (by omega), List.take_of_length_le (l := all.drop a) (by simp), List.take_append_drop]

set_option maxHeartbeats 4000000 in
set_option maxRecDepth 4000 in
theorem row_in (n : Int) (x : AV) (vs : List AV) (xss : List (List Int)) (H : Hp) (hx : Rd H 1 x vs vs.length) (hr : RowsI H .u8 vs xss) (hb : ∀ xs ∈ xss, Bytes xs) (hlx : ∀ xs ∈ xss, xs.length ≤ 9223372036854775807) (hl : vs.length ≤ 12) (hn : 0 ≤ n ∧ n < 256) :
    ACalls Try.prog 8 [x, .int .u8 n] H fun r H' => r = .bool true := by
  have hlen := hr.length
  have hall : (rowAll xss).length ≤ 540 := by have := rowAll_length xss; omega
  obtain ⟨q, hq, hq9⟩ : ∃ q : Nat, n.tmod 20 = q ∧ q < 20 := by
    rw [Int.tmod_eq_emod_of_nonneg hn.1]
    exact ⟨(n % 20).toNat, by have := Int.emod_nonneg n (b := 20) (by omega); omega, by have := Int.emod_lt_of_pos n (b := 20) (by omega); omega⟩
  have e1 : IntKind.i64.wrap (q : Int) = q := wrap_i64_id (by omega) (by omega)
  have e2 : IntKind.i64.wrap ((q : Int) + 1) = ((q + 1 : Nat) : Int) := by rw [wrap_i64_id (by omega) (by omega)]; omega
  have hne : (22 : TypeId) ≠ 5 := by decide
  have hne' : (5 : TypeId) ≠ 22 := by decide
  refine ACalls_body Try.func8 rfl (by kernel_rfl) (by kernel_rfl) ?_
  repeat' first
    | (with_reducible refine AWp_seq_k (fun K hK => ?_))
    | (with_reducible refine AWp_block ?_)
    | (with_reducible refine AWp_skip ?_)
    | (with_reducible refine AWp_exit ?_)
    | (with_reducible refine AWp_ret ?_)
    | (with_reducible refine AWp_regionE ?_)
    | (with_reducible refine AWp_drawE (id := 14) (.one 0 (.one 1 (.one 3 (.one 4 (.one 5 (.one 6 (.alt 2 (.one 7 (.one 8 (.one 9 (.one 10 (.one 11 .nil))))) (.one 7 (.alt 2 (.one 8 (.one 9 (.one 10 (.one 11 .nil)))) (.one 8 (.one 2 (.one 9 (.one 10 (.one 11 .nil)))))))))))))) (by kernel_rfl) (by kernel_rfl) ?_)
    | (with_reducible refine AWp_condI ?_)
    | ((with_reducible refine ECall_intro (known11_calls _) ?_); rintro _ _ ⟨rfl, rfl⟩)
    | (with_reducible refine EGuard_split (fun hc => ?_) (fun hc => ?_) <;> (try simp only [Bool.not_eq_true', Bool.not_eq_false', decide_eq_true_eq, decide_eq_false_iff_not, beq_iff_eq, beq_eq_false_iff_ne, bne_iff_ne, bne_eq_false_iff_eq, Bool.false_eq_true, ne_eq, Decidable.not_not, Bool.not_eq_eq_eq_not, Bool.not_true, Bool.not_false, not_true_eq_false, not_false_eq_true] at hc) <;> (try (exfalso; first | omega | contradiction)))
    | (with_reducible refine And.intro ?_ ?_)
    | (with_reducible refine AIte (fun hc => ?_) (fun hc => ?_) <;> (try simp only [Bool.not_eq_true', Bool.not_eq_false', decide_eq_true_eq, decide_eq_false_iff_not, beq_iff_eq, beq_eq_false_iff_ne, bne_iff_ne, bne_eq_false_iff_eq, Bool.false_eq_true, ne_eq, Decidable.not_not, Bool.not_eq_eq_eq_not, Bool.not_true, Bool.not_false, not_true_eq_false, not_false_eq_true] at hc) <;> (try (exfalso; first | omega | contradiction)))
    | (simp only [thenA, inBlockA, reduceIte, Nat.reduceEqDiff])
    | ((with_reducible refine hK _ _ ?_); clear hK)
    | (clear hK; (with_reducible refine hK _ _ ?_); clear hK)
    | (clear hK; clear hK; (with_reducible refine hK _ _ ?_); clear hK)
    | (clear hK; clear hK; clear hK; (with_reducible refine hK _ _ ?_); clear hK)
    | (clear hK; clear hK; clear hK; clear hK; (with_reducible refine hK _ _ ?_); clear hK)
    | (clear hK; clear hK; clear hK; clear hK; clear hK; (with_reducible refine hK _ _ ?_); clear hK)
    | (simp only [ACond, Run_nil, Run_cons, Run_pnil, Run_one, Run_alt, EAt_def, EStep_def, E0_def, EGuard_true, EGuard_false, beq_self_eq_true, beq_true, beq_false, bne_self_eq_false, wantedA, acall, astep, ev, ofValue, ofAtom, Fr.put_some, Fr.put_none, fr0_zero, fr0_succ, fr0_nil, Nat.reduceEqDiff, Nat.reduceAdd, Nat.reduceMul, Nat.reduceSub, reduceCtorEq, if_true, if_false, reduceIte, Option.map_some, Option.map_none, Option.bind_some, Option.bind_none, aoptEv, abin, aint, ashift, aun, astr, aeqGuard, isConstOp, or_self, or_true, true_or, or_false, false_or, and_self, and_true, true_and, and_false, false_and, not_true_eq_false, not_false_eq_true, Bool.false_eq_true, Bool.true_eq_false, decide_eq_true_eq, decide_eq_false_iff_not, beq_iff_eq, bne_iff_ne, Bool.not_eq_true', Bool.not_true, Bool.not_false, ne_eq, aconvH, aofStr, aconvSame, isU8, abuildSlice, afill, splice, azeros, AV.solid_int, AV.one_int, AV.cells_int, AV.solid_bool, AV.one_bool, AV.cells_bool, AV.solid_str, AV.one_str, AV.cells_str, AV.solid_nilI, AV.one_nilI, AV.cells_nilI, AV.solid_ifc, AV.one_ifc, AV.cells_ifc, AV.solid_nilP, AV.one_nilP, AV.cells_nilP, AV.solid_ptr, AV.one_ptr, AV.cells_ptr, AV.solid_nilS, AV.one_nilS, AV.cells_nilS, AV.solid_sl, AV.one_sl, AV.cells_sl, AV.solid_sg, AV.one_sg, AV.cells_sg, AV.solid_fn, AV.one_fn, AV.cells_fn, AV.cells_agg, List.replicate_succ, List.replicate_zero, List.flatten_cons, List.flatten_nil, List.append_nil, List.nil_append, List.cons_append, List.take_succ_cons, List.take_zero, List.drop_succ_cons, List.drop_zero, List.length_cons, List.length_nil, List.all_cons, List.all_nil, Bool.and_true, Bool.true_and, Bool.and_self, Nat.reduceLeDiff, Nat.reduceLT, Int.reduceLE, Int.reduceLT, Int.reduceEq, Int.reduceToNat, Int.cast_ofNat_Int, Int.reducePow, IntKind.bits, Nat.min_def, Int.reduceNeg, Nat.zero_add, Nat.reduceEqDiff, hget_push, set_push_new, List.map_cons, List.map_nil, List.toList_toArray, List.getElem?_toArray, List.getElem?_cons_zero, List.getElem?_cons_succ, und3, agg3, size3, bytes3, zero3, und4, agg4, size4, bytes4, zero4, eqB4, und5, agg5, size5, bytes5, zero5, und22, agg22, size22, bytes22, zero22, lenS22, lenG22, lenN22, eqSl22, eqSg22, eqSn22, und32, agg32, size32, bytes32, zero32, lenS32, lenG32, lenN32, eqSl32, eqSg32, eqSn32, und35, agg35, size35, bytes35, zero35, eqPn35, eqPP35, cv5_3, hx.len und32])
    | (simp (disch := omega) only [optIf, optIfN, selP, selN, avP, avN])
  refine AWp_loop (fun m fr' H' => ∃ (i : Nat) (va vw : AV) (ws : List AV), m = vs.length - i ∧ i ≤ vs.length ∧ fr' 0 = x ∧ fr' 1 = .int .u8 n ∧ fr' 5 = va ∧ fr' 6 = vw ∧ fr' 7 = .int .i64 (i : Int) ∧ OwnB H' va (rowAll (xss.take i)) H.length ∧ (va = .nilS ∨ ∃ h, va = .sg h 0 (rowAll (xss.take i)).length 1) ∧
      Own H' 1 22 vw ws ws.length H.length ∧ (vw = .nilS ∨ ∃ h, vw = .sg h 0 ws.length 1) ∧ RowsI H .u8 ws ((xss.take i).filter okRow) ∧ Ext H H')
    (m := vs.length) ⟨0, .nilS, .nilS, [], by omega, by omega, rfl, rfl, rfl, rfl, rfl, Own.nil _ _ _ _, .inl rfl, Own.nil _ _ _ _, .inl rfl, trivial, Ext.refl _⟩ ?_
  rintro m fr' Hi ⟨i, va, vw, ws, rfl, hi, k0, k1, k5, k6, k7, hva, sva, hvw, svw, hws, xi⟩
  by_cases hlt : i < vs.length
  · obtain ⟨v, hv, hvi⟩ := hr.get hlt
    have hin : xss.getD i [] ∈ xss := by
      rw [List.getD_eq_getElem?_getD, List.getElem?_eq_getElem (by omega)]; exact List.getElem_mem _
    have htk : xss.take (i + 1) = xss.take i ++ [xss.getD i []] := by
      rw [List.take_succ_eq_append_getElem (by omega)]
      simp [List.getD, show i < xss.length by omega]
    have hyb := hb _ hin
    have hyl := hlx _ hin
    generalize xss.getD i [] = ys at *
    have hwl : ws.length ≤ 12 := by
      have h1 := hws.length
      have h2 := List.length_filter_le okRow (xss.take i)
      rw [List.length_take] at h2
      omega
    have hral : (rowAll (xss.take i)).length ≤ 540 := by
      have := rowAll_length (xss.take i)
      rw [List.length_take] at this
      omega
    have hxi := hx.ext xi
    have hvi0 := hvi.ext xi
    by_cases hok : 1 ≤ ys.length ∧ ys.length ≤ 40
    · have hokr : okRow ys = true := by simpa [okRow] using hok
      repeat' first
        | (with_reducible refine AWp_seq_k (fun K hK => ?_))
        | (with_reducible refine AWp_block ?_)
        | (with_reducible refine AWp_skip ?_)
        | (with_reducible refine AWp_exit ?_)
        | (with_reducible refine AWp_ret ?_)
        | (with_reducible refine AWp_regionE ?_)
        | (with_reducible refine AWp_drawE (id := 14) (.one 0 (.one 1 (.one 3 (.one 4 (.one 5 (.one 6 (.alt 2 (.one 7 (.one 8 (.one 9 (.one 10 (.one 11 .nil))))) (.one 7 (.alt 2 (.one 8 (.one 9 (.one 10 (.one 11 .nil)))) (.one 8 (.one 2 (.one 9 (.one 10 (.one 11 .nil)))))))))))))) (by kernel_rfl) (by kernel_rfl) ?_)
        | (with_reducible refine AWp_condI ?_)
        | (with_reducible refine EGuard_split (fun hc => ?_) (fun hc => ?_) <;> (try simp only [Bool.not_eq_true', Bool.not_eq_false', decide_eq_true_eq, decide_eq_false_iff_not, beq_iff_eq, beq_eq_false_iff_ne, bne_iff_ne, bne_eq_false_iff_eq, Bool.false_eq_true, ne_eq, Decidable.not_not, Bool.not_eq_eq_eq_not, Bool.not_true, Bool.not_false, not_true_eq_false, not_false_eq_true] at hc) <;> (try (exfalso; first | omega | contradiction)))
        | (with_reducible refine And.intro ?_ ?_)
        | (with_reducible refine AIte (fun hc => ?_) (fun hc => ?_) <;> (try simp only [Bool.not_eq_true', Bool.not_eq_false', decide_eq_true_eq, decide_eq_false_iff_not, beq_iff_eq, beq_eq_false_iff_ne, bne_iff_ne, bne_eq_false_iff_eq, Bool.false_eq_true, ne_eq, Decidable.not_not, Bool.not_eq_eq_eq_not, Bool.not_true, Bool.not_false, not_true_eq_false, not_false_eq_true] at hc) <;> (try (exfalso; first | omega | contradiction)))
        | (simp only [thenA, inBlockA, reduceIte, Nat.reduceEqDiff])
        | ((with_reducible refine hK _ _ ?_); clear hK)
        | (clear hK; (with_reducible refine hK _ _ ?_); clear hK)
        | (clear hK; clear hK; (with_reducible refine hK _ _ ?_); clear hK)
        | (clear hK; clear hK; clear hK; (with_reducible refine hK _ _ ?_); clear hK)
        | (clear hK; clear hK; clear hK; clear hK; (with_reducible refine hK _ _ ?_); clear hK)
        | (clear hK; clear hK; clear hK; clear hK; clear hK; (with_reducible refine hK _ _ ?_); clear hK)
        | (simp only [ACond, Run_nil, Run_cons, Run_pnil, Run_one, Run_alt, EAt_def, EStep_def, E0_def, EGuard_true, EGuard_false, beq_self_eq_true, beq_true, beq_false, bne_self_eq_false, wantedA, acall, astep, ev, ofValue, ofAtom, Fr.put_some, Fr.put_none, fr0_zero, fr0_succ, fr0_nil, Nat.reduceEqDiff, Nat.reduceAdd, Nat.reduceMul, Nat.reduceSub, reduceCtorEq, if_true, if_false, reduceIte, Option.map_some, Option.map_none, Option.bind_some, Option.bind_none, aoptEv, abin, aint, ashift, aun, astr, aeqGuard, isConstOp, or_self, or_true, true_or, or_false, false_or, and_self, and_true, true_and, and_false, false_and, not_true_eq_false, not_false_eq_true, Bool.false_eq_true, Bool.true_eq_false, decide_eq_true_eq, decide_eq_false_iff_not, beq_iff_eq, bne_iff_ne, Bool.not_eq_true', Bool.not_true, Bool.not_false, ne_eq, aconvH, aofStr, aconvSame, isU8, abuildSlice, afill, splice, azeros, AV.solid_int, AV.one_int, AV.cells_int, AV.solid_bool, AV.one_bool, AV.cells_bool, AV.solid_str, AV.one_str, AV.cells_str, AV.solid_nilI, AV.one_nilI, AV.cells_nilI, AV.solid_ifc, AV.one_ifc, AV.cells_ifc, AV.solid_nilP, AV.one_nilP, AV.cells_nilP, AV.solid_ptr, AV.one_ptr, AV.cells_ptr, AV.solid_nilS, AV.one_nilS, AV.cells_nilS, AV.solid_sl, AV.one_sl, AV.cells_sl, AV.solid_sg, AV.one_sg, AV.cells_sg, AV.solid_fn, AV.one_fn, AV.cells_fn, AV.cells_agg, List.replicate_succ, List.replicate_zero, List.flatten_cons, List.flatten_nil, List.append_nil, List.nil_append, List.cons_append, List.take_succ_cons, List.take_zero, List.drop_succ_cons, List.drop_zero, List.length_cons, List.length_nil, List.all_cons, List.all_nil, Bool.and_true, Bool.true_and, Bool.and_self, Nat.reduceLeDiff, Nat.reduceLT, Int.reduceLE, Int.reduceLT, Int.reduceEq, Int.reduceToNat, Int.cast_ofNat_Int, Int.reducePow, IntKind.bits, Nat.min_def, Int.reduceNeg, Nat.zero_add, Nat.reduceEqDiff, hget_push, set_push_new, List.map_cons, List.map_nil, List.toList_toArray, List.getElem?_toArray, List.getElem?_cons_zero, List.getElem?_cons_succ, und3, agg3, size3, bytes3, zero3, und4, agg4, size4, bytes4, zero4, eqB4, und5, agg5, size5, bytes5, zero5, und22, agg22, size22, bytes22, zero22, lenS22, lenG22, lenN22, eqSl22, eqSg22, eqSn22, und32, agg32, size32, bytes32, zero32, lenS32, lenG32, lenN32, eqSl32, eqSg32, eqSn32, und35, agg35, size35, bytes35, zero35, eqPn35, eqPP35, cv5_3, k0, k1, k5, k6, k7, Int.toNat_natCast, hv, hx.len und32])
        | (simp (disch := omega) only [optIf, optIfN, selP, selN, avP, avN, hxi.at_ und32 size22, hxi.load agg22])
      refine ECall_intro (put_some v ys Hi hvi0 hyb hok.1 hok.2) ?_
      rintro _ H1 ⟨f, rfl, hf, x1⟩
      have hx1 := hxi.ext x1
      have hvi1 := hvi0.ext x1
      obtain ⟨va2, H2, g2, o2, x2, s2, m2⟩ := OwnB.app2 (H0 := H) (Own.ext hva x1) sva (xi.trans x1) hf.ints (by simp [frameOf]) (by rw [frameOf_length]; omega)
      have hx2 := hx.ext x2
      have hw2 := m2.own (Own.ext hvw x1) svw hne
      have hform := rows_form hws
      obtain ⟨vw3, H3, g3, o3, x3, s3, m3⟩ := Own.append2 (H0 := H) (hw2.push ⟨[v], .own, 22⟩) svw (Rd.lit H2 (z := 1) (n := 1) (k := .own) (e := 22) (by decide) rfl) (x2.pushed _) und32 size22 zero22 rfl (by decide) bytes22 hform.1 (by simp [hvi.rd.one]) (by omega) (by omega) (by decide)
      have hva3 : OwnB H3 va2 (rowAll (xss.take i) ++ frameOf ys) H.length := Moved.own m3 (Own.push o2 _) (.inr s2) hne'
      have hd1 : decide (1 ≤ (ys.length : Int)) = true := by simpa using by omega
      have hd2 : decide ((ys.length : Int) ≤ 40) = true := by simpa using by omega
      have hws' := rows_snoc hvi hws
      have hfil : (xss.take (i + 1)).filter okRow = (xss.take i).filter okRow ++ [ys] := by rw [htk, List.filter_append]; simp [hokr]
      have hra : rowAll (xss.take (i + 1)) = rowAll (xss.take i) ++ frameOf ys := by rw [htk, rowAll_snoc, if_pos hokr]
      -- the other order: the literal first
      obtain ⟨va4, H4, g4, o4, x4, s4, m4⟩ := OwnB.app2 (H0 := H) (Own.push (Own.ext hva x1) ⟨[v], .own, 22⟩) sva ((xi.trans x1).pushed _) (hf.ints.push _) (by simp [frameOf]) (by rw [frameOf_length]; omega)
      have hlit := m4.get (k := H1.length) (b := ⟨[v], .own, 22⟩) (by rw [hget_push, if_pos rfl]) hne
      have hw4 := m4.own (Own.push (Own.ext hvw x1) _) svw hne
      obtain ⟨vw5, H5, g5, o5, x5, s5, m5⟩ := Own.append2 (H0 := H) hw4 svw (Rd.of_get hlit (n := 1) (z := 1) (by decide) rfl) x4 und32 size22 zero22 rfl (by decide) bytes22 hform.1 (by simp [hvi.rd.one]) (by omega) (by omega) (by decide)
      have hva5 : OwnB H5 va4 (rowAll (xss.take i) ++ frameOf ys) H.length := Moved.own m5 o4 (.inr s4) hne'
      repeat' first
        | (with_reducible refine AWp_seq_k (fun K hK => ?_))
        | (with_reducible refine AWp_block ?_)
        | (with_reducible refine AWp_skip ?_)
        | (with_reducible refine AWp_exit ?_)
        | (with_reducible refine AWp_ret ?_)
        | (with_reducible refine AWp_regionE ?_)
        | (with_reducible refine AWp_drawE (id := 14) (.one 0 (.one 1 (.one 3 (.one 4 (.one 5 (.one 6 (.alt 2 (.one 7 (.one 8 (.one 9 (.one 10 (.one 11 .nil))))) (.one 7 (.alt 2 (.one 8 (.one 9 (.one 10 (.one 11 .nil)))) (.one 8 (.one 2 (.one 9 (.one 10 (.one 11 .nil)))))))))))))) (by kernel_rfl) (by kernel_rfl) ?_)
        | (with_reducible refine AWp_condI ?_)
        | (with_reducible refine EGuard_split (fun hc => ?_) (fun hc => ?_) <;> (try simp only [Bool.not_eq_true', Bool.not_eq_false', decide_eq_true_eq, decide_eq_false_iff_not, beq_iff_eq, beq_eq_false_iff_ne, bne_iff_ne, bne_eq_false_iff_eq, Bool.false_eq_true, ne_eq, Decidable.not_not, Bool.not_eq_eq_eq_not, Bool.not_true, Bool.not_false, not_true_eq_false, not_false_eq_true] at hc) <;> (try (exfalso; first | omega | contradiction)))
        | (with_reducible refine And.intro ?_ ?_)
        | (with_reducible refine AIte (fun hc => ?_) (fun hc => ?_) <;> (try simp only [Bool.not_eq_true', Bool.not_eq_false', decide_eq_true_eq, decide_eq_false_iff_not, beq_iff_eq, beq_eq_false_iff_ne, bne_iff_ne, bne_eq_false_iff_eq, Bool.false_eq_true, ne_eq, Decidable.not_not, Bool.not_eq_eq_eq_not, Bool.not_true, Bool.not_false, not_true_eq_false, not_false_eq_true] at hc) <;> (try (exfalso; first | omega | contradiction)))
        | (simp only [thenA, inBlockA, reduceIte, Nat.reduceEqDiff])
        | ((with_reducible refine hK _ _ ?_); clear hK)
        | (clear hK; (with_reducible refine hK _ _ ?_); clear hK)
        | (clear hK; clear hK; (with_reducible refine hK _ _ ?_); clear hK)
        | (clear hK; clear hK; clear hK; (with_reducible refine hK _ _ ?_); clear hK)
        | (clear hK; clear hK; clear hK; clear hK; (with_reducible refine hK _ _ ?_); clear hK)
        | (clear hK; clear hK; clear hK; clear hK; clear hK; (with_reducible refine hK _ _ ?_); clear hK)
        | (simp only [ACond, Run_nil, Run_cons, Run_pnil, Run_one, Run_alt, EAt_def, EStep_def, E0_def, EGuard_true, EGuard_false, beq_self_eq_true, beq_true, beq_false, bne_self_eq_false, wantedA, acall, astep, ev, ofValue, ofAtom, Fr.put_some, Fr.put_none, fr0_zero, fr0_succ, fr0_nil, Nat.reduceEqDiff, Nat.reduceAdd, Nat.reduceMul, Nat.reduceSub, reduceCtorEq, if_true, if_false, reduceIte, Option.map_some, Option.map_none, Option.bind_some, Option.bind_none, aoptEv, abin, aint, ashift, aun, astr, aeqGuard, isConstOp, or_self, or_true, true_or, or_false, false_or, and_self, and_true, true_and, and_false, false_and, not_true_eq_false, not_false_eq_true, Bool.false_eq_true, Bool.true_eq_false, decide_eq_true_eq, decide_eq_false_iff_not, beq_iff_eq, bne_iff_ne, Bool.not_eq_true', Bool.not_true, Bool.not_false, ne_eq, aconvH, aofStr, aconvSame, isU8, abuildSlice, afill, splice, azeros, AV.solid_int, AV.one_int, AV.cells_int, AV.solid_bool, AV.one_bool, AV.cells_bool, AV.solid_str, AV.one_str, AV.cells_str, AV.solid_nilI, AV.one_nilI, AV.cells_nilI, AV.solid_ifc, AV.one_ifc, AV.cells_ifc, AV.solid_nilP, AV.one_nilP, AV.cells_nilP, AV.solid_ptr, AV.one_ptr, AV.cells_ptr, AV.solid_nilS, AV.one_nilS, AV.cells_nilS, AV.solid_sl, AV.one_sl, AV.cells_sl, AV.solid_sg, AV.one_sg, AV.cells_sg, AV.solid_fn, AV.one_fn, AV.cells_fn, AV.cells_agg, List.replicate_succ, List.replicate_zero, List.flatten_cons, List.flatten_nil, List.append_nil, List.nil_append, List.cons_append, List.take_succ_cons, List.take_zero, List.drop_succ_cons, List.drop_zero, List.length_cons, List.length_nil, List.all_cons, List.all_nil, Bool.and_true, Bool.true_and, Bool.and_self, Nat.reduceLeDiff, Nat.reduceLT, Int.reduceLE, Int.reduceLT, Int.reduceEq, Int.reduceToNat, Int.cast_ofNat_Int, Int.reducePow, IntKind.bits, Nat.min_def, Int.reduceNeg, Nat.zero_add, Nat.reduceEqDiff, hget_push, set_push_new, List.map_cons, List.map_nil, List.toList_toArray, List.getElem?_toArray, List.getElem?_cons_zero, List.getElem?_cons_succ, und3, agg3, size3, bytes3, zero3, und4, agg4, size4, bytes4, zero4, eqB4, und5, agg5, size5, bytes5, zero5, und22, agg22, size22, bytes22, zero22, lenS22, lenG22, lenN22, eqSl22, eqSg22, eqSn22, und32, agg32, size32, bytes32, zero32, lenS32, lenG32, lenN32, eqSl32, eqSg32, eqSn32, und35, agg35, size35, bytes35, zero35, eqPn35, eqPP35, cv5_3, k0, k1, k5, k6, k7, Int.toNat_natCast, hv, hd1, hd2, beq_self_eq_true, hx.len und32, hvi.rd.len und22, g2, g3, g4, g5, hvi.rd.solid, hvi.rd.cells, hvi.rd.one])
        | (simp (disch := omega) only [optIf, optIfN, selP, selN, avP, avN, hx1.at_ und32 size22, hx1.load agg22, hx2.load agg22])
      all_goals
        refine ⟨vs.length - (i + 1), by omega, i + 1, _, _, ws ++ [v], rfl, by omega, rfl, rfl, by rw [wrap_i64_id (by omega) (by omega)]; rfl, ?_, ?_, ?_, ?_, ?_, ?_⟩
        · rw [hra]; first | exact hva3 | exact hva5
        · rw [hra]; first | exact .inr s2 | exact .inr s4
        · rw [List.length_append, List.length_singleton]; first | exact o3 | exact o5
        · rw [List.length_append, List.length_singleton]; first | exact .inr s3 | exact .inr s5
        · rw [hfil]; exact hws'
        · first | exact x3 | exact x5
    · have hokr : okRow ys = false := by simpa [okRow] using hok
      have hfil : (xss.take (i + 1)).filter okRow = (xss.take i).filter okRow := by rw [htk, List.filter_append]; simp [hokr]
      have hra : rowAll (xss.take (i + 1)) = rowAll (xss.take i) := by rw [htk, rowAll_snoc]; simp [hokr]
      have hd : (decide (1 ≤ (ys.length : Int)) && decide ((ys.length : Int) ≤ 40)) = false := by
        by_cases h : (1 ≤ (ys.length : Int))
        · have : ¬ (ys.length : Int) ≤ 40 := by omega
          simp [this]
        · simp [h]
      by_cases h1 : 1 ≤ ys.length
      · have hd1 : decide (1 ≤ (ys.length : Int)) = true := by simpa using by omega
        have hd2 : decide ((ys.length : Int) ≤ 40) = false := by simpa using by omega
        repeat' first
          | (with_reducible refine AWp_seq_k (fun K hK => ?_))
          | (with_reducible refine AWp_block ?_)
          | (with_reducible refine AWp_skip ?_)
          | (with_reducible refine AWp_exit ?_)
          | (with_reducible refine AWp_ret ?_)
          | (with_reducible refine AWp_regionE ?_)
          | (with_reducible refine AWp_drawE (id := 14) (.one 0 (.one 1 (.one 3 (.one 4 (.one 5 (.one 6 (.alt 2 (.one 7 (.one 8 (.one 9 (.one 10 (.one 11 .nil))))) (.one 7 (.alt 2 (.one 8 (.one 9 (.one 10 (.one 11 .nil)))) (.one 8 (.one 2 (.one 9 (.one 10 (.one 11 .nil)))))))))))))) (by kernel_rfl) (by kernel_rfl) ?_)
          | (with_reducible refine AWp_condI ?_)
          | ((with_reducible refine ECall_intro (put_none v ys _ hvi0 (by omega)) ?_); rintro _ _ ⟨rfl, rfl⟩)
          | (with_reducible refine EGuard_split (fun hc => ?_) (fun hc => ?_) <;> (try simp only [Bool.not_eq_true', Bool.not_eq_false', decide_eq_true_eq, decide_eq_false_iff_not, beq_iff_eq, beq_eq_false_iff_ne, bne_iff_ne, bne_eq_false_iff_eq, Bool.false_eq_true, ne_eq, Decidable.not_not, Bool.not_eq_eq_eq_not, Bool.not_true, Bool.not_false, not_true_eq_false, not_false_eq_true] at hc) <;> (try (exfalso; first | omega | contradiction)))
          | (with_reducible refine And.intro ?_ ?_)
          | (with_reducible refine AIte (fun hc => ?_) (fun hc => ?_) <;> (try simp only [Bool.not_eq_true', Bool.not_eq_false', decide_eq_true_eq, decide_eq_false_iff_not, beq_iff_eq, beq_eq_false_iff_ne, bne_iff_ne, bne_eq_false_iff_eq, Bool.false_eq_true, ne_eq, Decidable.not_not, Bool.not_eq_eq_eq_not, Bool.not_true, Bool.not_false, not_true_eq_false, not_false_eq_true] at hc) <;> (try (exfalso; first | omega | contradiction)))
          | (simp only [thenA, inBlockA, reduceIte, Nat.reduceEqDiff])
          | ((with_reducible refine hK _ _ ?_); clear hK)
          | (clear hK; (with_reducible refine hK _ _ ?_); clear hK)
          | (clear hK; clear hK; (with_reducible refine hK _ _ ?_); clear hK)
          | (clear hK; clear hK; clear hK; (with_reducible refine hK _ _ ?_); clear hK)
          | (clear hK; clear hK; clear hK; clear hK; (with_reducible refine hK _ _ ?_); clear hK)
          | (clear hK; clear hK; clear hK; clear hK; clear hK; (with_reducible refine hK _ _ ?_); clear hK)
          | (simp only [ACond, Run_nil, Run_cons, Run_pnil, Run_one, Run_alt, EAt_def, EStep_def, E0_def, EGuard_true, EGuard_false, beq_self_eq_true, beq_true, beq_false, bne_self_eq_false, wantedA, acall, astep, ev, ofValue, ofAtom, Fr.put_some, Fr.put_none, fr0_zero, fr0_succ, fr0_nil, Nat.reduceEqDiff, Nat.reduceAdd, Nat.reduceMul, Nat.reduceSub, reduceCtorEq, if_true, if_false, reduceIte, Option.map_some, Option.map_none, Option.bind_some, Option.bind_none, aoptEv, abin, aint, ashift, aun, astr, aeqGuard, isConstOp, or_self, or_true, true_or, or_false, false_or, and_self, and_true, true_and, and_false, false_and, not_true_eq_false, not_false_eq_true, Bool.false_eq_true, Bool.true_eq_false, decide_eq_true_eq, decide_eq_false_iff_not, beq_iff_eq, bne_iff_ne, Bool.not_eq_true', Bool.not_true, Bool.not_false, ne_eq, aconvH, aofStr, aconvSame, isU8, abuildSlice, afill, splice, azeros, AV.solid_int, AV.one_int, AV.cells_int, AV.solid_bool, AV.one_bool, AV.cells_bool, AV.solid_str, AV.one_str, AV.cells_str, AV.solid_nilI, AV.one_nilI, AV.cells_nilI, AV.solid_ifc, AV.one_ifc, AV.cells_ifc, AV.solid_nilP, AV.one_nilP, AV.cells_nilP, AV.solid_ptr, AV.one_ptr, AV.cells_ptr, AV.solid_nilS, AV.one_nilS, AV.cells_nilS, AV.solid_sl, AV.one_sl, AV.cells_sl, AV.solid_sg, AV.one_sg, AV.cells_sg, AV.solid_fn, AV.one_fn, AV.cells_fn, AV.cells_agg, List.replicate_succ, List.replicate_zero, List.flatten_cons, List.flatten_nil, List.append_nil, List.nil_append, List.cons_append, List.take_succ_cons, List.take_zero, List.drop_succ_cons, List.drop_zero, List.length_cons, List.length_nil, List.all_cons, List.all_nil, Bool.and_true, Bool.true_and, Bool.and_self, Nat.reduceLeDiff, Nat.reduceLT, Int.reduceLE, Int.reduceLT, Int.reduceEq, Int.reduceToNat, Int.cast_ofNat_Int, Int.reducePow, IntKind.bits, Nat.min_def, Int.reduceNeg, Nat.zero_add, Nat.reduceEqDiff, hget_push, set_push_new, List.map_cons, List.map_nil, List.toList_toArray, List.getElem?_toArray, List.getElem?_cons_zero, List.getElem?_cons_succ, und3, agg3, size3, bytes3, zero3, und4, agg4, size4, bytes4, zero4, eqB4, und5, agg5, size5, bytes5, zero5, und22, agg22, size22, bytes22, zero22, lenS22, lenG22, lenN22, eqSl22, eqSg22, eqSn22, und32, agg32, size32, bytes32, zero32, lenS32, lenG32, lenN32, eqSl32, eqSg32, eqSn32, und35, agg35, size35, bytes35, zero35, eqPn35, eqPP35, cv5_3, k0, k1, k5, k6, k7, Int.toNat_natCast, hv, hd1, hd2, beq_self_eq_true, hx.len und32, hvi.rd.len und22])
          | (simp (disch := omega) only [optIf, optIfN, selP, selN, avP, avN, hxi.at_ und32 size22, hxi.load agg22])
        all_goals exact ⟨vs.length - (i + 1), by omega, i + 1, va, vw, ws, rfl, by omega, rfl, rfl, by rw [wrap_i64_id (by omega) (by omega)]; rfl, by rw [hra]; exact hva, by rw [hra]; exact sva, hvw, svw, by rw [hfil]; exact hws, xi⟩
      · have hd1 : decide (1 ≤ (ys.length : Int)) = false := by simpa using by omega
        repeat' first
          | (with_reducible refine AWp_seq_k (fun K hK => ?_))
          | (with_reducible refine AWp_block ?_)
          | (with_reducible refine AWp_skip ?_)
          | (with_reducible refine AWp_exit ?_)
          | (with_reducible refine AWp_ret ?_)
          | (with_reducible refine AWp_regionE ?_)
          | (with_reducible refine AWp_drawE (id := 14) (.one 0 (.one 1 (.one 3 (.one 4 (.one 5 (.one 6 (.alt 2 (.one 7 (.one 8 (.one 9 (.one 10 (.one 11 .nil))))) (.one 7 (.alt 2 (.one 8 (.one 9 (.one 10 (.one 11 .nil)))) (.one 8 (.one 2 (.one 9 (.one 10 (.one 11 .nil)))))))))))))) (by kernel_rfl) (by kernel_rfl) ?_)
          | (with_reducible refine AWp_condI ?_)
          | ((with_reducible refine ECall_intro (put_none v ys _ hvi0 (by omega)) ?_); rintro _ _ ⟨rfl, rfl⟩)
          | (with_reducible refine EGuard_split (fun hc => ?_) (fun hc => ?_) <;> (try simp only [Bool.not_eq_true', Bool.not_eq_false', decide_eq_true_eq, decide_eq_false_iff_not, beq_iff_eq, beq_eq_false_iff_ne, bne_iff_ne, bne_eq_false_iff_eq, Bool.false_eq_true, ne_eq, Decidable.not_not, Bool.not_eq_eq_eq_not, Bool.not_true, Bool.not_false, not_true_eq_false, not_false_eq_true] at hc) <;> (try (exfalso; first | omega | contradiction)))
          | (with_reducible refine And.intro ?_ ?_)
          | (with_reducible refine AIte (fun hc => ?_) (fun hc => ?_) <;> (try simp only [Bool.not_eq_true', Bool.not_eq_false', decide_eq_true_eq, decide_eq_false_iff_not, beq_iff_eq, beq_eq_false_iff_ne, bne_iff_ne, bne_eq_false_iff_eq, Bool.false_eq_true, ne_eq, Decidable.not_not, Bool.not_eq_eq_eq_not, Bool.not_true, Bool.not_false, not_true_eq_false, not_false_eq_true] at hc) <;> (try (exfalso; first | omega | contradiction)))
          | (simp only [thenA, inBlockA, reduceIte, Nat.reduceEqDiff])
          | ((with_reducible refine hK _ _ ?_); clear hK)
          | (clear hK; (with_reducible refine hK _ _ ?_); clear hK)
          | (clear hK; clear hK; (with_reducible refine hK _ _ ?_); clear hK)
          | (clear hK; clear hK; clear hK; (with_reducible refine hK _ _ ?_); clear hK)
          | (clear hK; clear hK; clear hK; clear hK; (with_reducible refine hK _ _ ?_); clear hK)
          | (clear hK; clear hK; clear hK; clear hK; clear hK; (with_reducible refine hK _ _ ?_); clear hK)
          | (simp only [ACond, Run_nil, Run_cons, Run_pnil, Run_one, Run_alt, EAt_def, EStep_def, E0_def, EGuard_true, EGuard_false, beq_self_eq_true, beq_true, beq_false, bne_self_eq_false, wantedA, acall, astep, ev, ofValue, ofAtom, Fr.put_some, Fr.put_none, fr0_zero, fr0_succ, fr0_nil, Nat.reduceEqDiff, Nat.reduceAdd, Nat.reduceMul, Nat.reduceSub, reduceCtorEq, if_true, if_false, reduceIte, Option.map_some, Option.map_none, Option.bind_some, Option.bind_none, aoptEv, abin, aint, ashift, aun, astr, aeqGuard, isConstOp, or_self, or_true, true_or, or_false, false_or, and_self, and_true, true_and, and_false, false_and, not_true_eq_false, not_false_eq_true, Bool.false_eq_true, Bool.true_eq_false, decide_eq_true_eq, decide_eq_false_iff_not, beq_iff_eq, bne_iff_ne, Bool.not_eq_true', Bool.not_true, Bool.not_false, ne_eq, aconvH, aofStr, aconvSame, isU8, abuildSlice, afill, splice, azeros, AV.solid_int, AV.one_int, AV.cells_int, AV.solid_bool, AV.one_bool, AV.cells_bool, AV.solid_str, AV.one_str, AV.cells_str, AV.solid_nilI, AV.one_nilI, AV.cells_nilI, AV.solid_ifc, AV.one_ifc, AV.cells_ifc, AV.solid_nilP, AV.one_nilP, AV.cells_nilP, AV.solid_ptr, AV.one_ptr, AV.cells_ptr, AV.solid_nilS, AV.one_nilS, AV.cells_nilS, AV.solid_sl, AV.one_sl, AV.cells_sl, AV.solid_sg, AV.one_sg, AV.cells_sg, AV.solid_fn, AV.one_fn, AV.cells_fn, AV.cells_agg, List.replicate_succ, List.replicate_zero, List.flatten_cons, List.flatten_nil, List.append_nil, List.nil_append, List.cons_append, List.take_succ_cons, List.take_zero, List.drop_succ_cons, List.drop_zero, List.length_cons, List.length_nil, List.all_cons, List.all_nil, Bool.and_true, Bool.true_and, Bool.and_self, Nat.reduceLeDiff, Nat.reduceLT, Int.reduceLE, Int.reduceLT, Int.reduceEq, Int.reduceToNat, Int.cast_ofNat_Int, Int.reducePow, IntKind.bits, Nat.min_def, Int.reduceNeg, Nat.zero_add, Nat.reduceEqDiff, hget_push, set_push_new, List.map_cons, List.map_nil, List.toList_toArray, List.getElem?_toArray, List.getElem?_cons_zero, List.getElem?_cons_succ, und3, agg3, size3, bytes3, zero3, und4, agg4, size4, bytes4, zero4, eqB4, und5, agg5, size5, bytes5, zero5, und22, agg22, size22, bytes22, zero22, lenS22, lenG22, lenN22, eqSl22, eqSg22, eqSn22, und32, agg32, size32, bytes32, zero32, lenS32, lenG32, lenN32, eqSl32, eqSg32, eqSn32, und35, agg35, size35, bytes35, zero35, eqPn35, eqPP35, cv5_3, k0, k1, k5, k6, k7, Int.toNat_natCast, hv, hd1, beq_self_eq_true, hx.len und32, hvi.rd.len und22])
          | (simp (disch := omega) only [optIf, optIfN, selP, selN, avP, avN, hxi.at_ und32 size22, hxi.load agg22])
        all_goals exact ⟨vs.length - (i + 1), by omega, i + 1, va, vw, ws, rfl, by omega, rfl, rfl, by rw [wrap_i64_id (by omega) (by omega)]; rfl, by rw [hra]; exact hva, by rw [hra]; exact sva, hvw, svw, by rw [hfil]; exact hws, xi⟩
  · obtain rfl : i = vs.length := by omega
    have htk : xss.take vs.length = xss := List.take_of_length_le (by omega)
    rw [htk] at hva sva hws
    have hpar := parseN_rows xss
    have hallb := rowAll_bytes hb
    generalize hal : rowAll xss = all at *
    repeat' first
      | (with_reducible refine AWp_seq_k (fun K hK => ?_))
      | (with_reducible refine AWp_block ?_)
      | (with_reducible refine AWp_skip ?_)
      | (with_reducible refine AWp_exit ?_)
      | (with_reducible refine AWp_ret ?_)
      | (with_reducible refine AWp_regionE ?_)
      | (with_reducible refine AWp_drawE (id := 14) (.one 0 (.one 1 (.one 3 (.one 4 (.one 5 (.one 6 (.alt 2 (.one 7 (.one 8 (.one 9 (.one 10 (.one 11 .nil))))) (.one 7 (.alt 2 (.one 8 (.one 9 (.one 10 (.one 11 .nil)))) (.one 8 (.one 2 (.one 9 (.one 10 (.one 11 .nil)))))))))))))) (by kernel_rfl) (by kernel_rfl) ?_)
      | (with_reducible refine AWp_condI ?_)
      | ((with_reducible refine ECall_intro (new_calls _) ?_); rintro _ _ ⟨rfl, rfl⟩)
      | (with_reducible refine EGuard_split (fun hc => ?_) (fun hc => ?_) <;> (try simp only [Bool.not_eq_true', Bool.not_eq_false', decide_eq_true_eq, decide_eq_false_iff_not, beq_iff_eq, beq_eq_false_iff_ne, bne_iff_ne, bne_eq_false_iff_eq, Bool.false_eq_true, ne_eq, Decidable.not_not, Bool.not_eq_eq_eq_not, Bool.not_true, Bool.not_false, not_true_eq_false, not_false_eq_true] at hc) <;> (try (exfalso; first | omega | contradiction)))
      | (with_reducible refine And.intro ?_ ?_)
      | (with_reducible refine AIte (fun hc => ?_) (fun hc => ?_) <;> (try simp only [Bool.not_eq_true', Bool.not_eq_false', decide_eq_true_eq, decide_eq_false_iff_not, beq_iff_eq, beq_eq_false_iff_ne, bne_iff_ne, bne_eq_false_iff_eq, Bool.false_eq_true, ne_eq, Decidable.not_not, Bool.not_eq_eq_eq_not, Bool.not_true, Bool.not_false, not_true_eq_false, not_false_eq_true] at hc) <;> (try (exfalso; first | omega | contradiction)))
      | (simp only [thenA, inBlockA, reduceIte, Nat.reduceEqDiff])
      | ((with_reducible refine hK _ _ ?_); clear hK)
      | (clear hK; (with_reducible refine hK _ _ ?_); clear hK)
      | (clear hK; clear hK; (with_reducible refine hK _ _ ?_); clear hK)
      | (clear hK; clear hK; clear hK; (with_reducible refine hK _ _ ?_); clear hK)
      | (clear hK; clear hK; clear hK; clear hK; (with_reducible refine hK _ _ ?_); clear hK)
      | (clear hK; clear hK; clear hK; clear hK; clear hK; (with_reducible refine hK _ _ ?_); clear hK)
      | (simp only [ACond, Run_nil, Run_cons, Run_pnil, Run_one, Run_alt, EAt_def, EStep_def, E0_def, EGuard_true, EGuard_false, beq_self_eq_true, beq_true, beq_false, bne_self_eq_false, wantedA, acall, astep, ev, ofValue, ofAtom, Fr.put_some, Fr.put_none, fr0_zero, fr0_succ, fr0_nil, Nat.reduceEqDiff, Nat.reduceAdd, Nat.reduceMul, Nat.reduceSub, reduceCtorEq, if_true, if_false, reduceIte, Option.map_some, Option.map_none, Option.bind_some, Option.bind_none, aoptEv, abin, aint, ashift, aun, astr, aeqGuard, isConstOp, or_self, or_true, true_or, or_false, false_or, and_self, and_true, true_and, and_false, false_and, not_true_eq_false, not_false_eq_true, Bool.false_eq_true, Bool.true_eq_false, decide_eq_true_eq, decide_eq_false_iff_not, beq_iff_eq, bne_iff_ne, Bool.not_eq_true', Bool.not_true, Bool.not_false, ne_eq, aconvH, aofStr, aconvSame, isU8, abuildSlice, afill, splice, azeros, AV.solid_int, AV.one_int, AV.cells_int, AV.solid_bool, AV.one_bool, AV.cells_bool, AV.solid_str, AV.one_str, AV.cells_str, AV.solid_nilI, AV.one_nilI, AV.cells_nilI, AV.solid_ifc, AV.one_ifc, AV.cells_ifc, AV.solid_nilP, AV.one_nilP, AV.cells_nilP, AV.solid_ptr, AV.one_ptr, AV.cells_ptr, AV.solid_nilS, AV.one_nilS, AV.cells_nilS, AV.solid_sl, AV.one_sl, AV.cells_sl, AV.solid_sg, AV.one_sg, AV.cells_sg, AV.solid_fn, AV.one_fn, AV.cells_fn, AV.cells_agg, List.replicate_succ, List.replicate_zero, List.flatten_cons, List.flatten_nil, List.append_nil, List.nil_append, List.cons_append, List.take_succ_cons, List.take_zero, List.drop_succ_cons, List.drop_zero, List.length_cons, List.length_nil, List.all_cons, List.all_nil, Bool.and_true, Bool.true_and, Bool.and_self, Nat.reduceLeDiff, Nat.reduceLT, Int.reduceLE, Int.reduceLT, Int.reduceEq, Int.reduceToNat, Int.cast_ofNat_Int, Int.reducePow, IntKind.bits, Nat.min_def, Int.reduceNeg, Nat.zero_add, Nat.reduceEqDiff, hget_push, set_push_new, List.map_cons, List.map_nil, List.toList_toArray, List.getElem?_toArray, List.getElem?_cons_zero, List.getElem?_cons_succ, und3, agg3, size3, bytes3, zero3, und4, agg4, size4, bytes4, zero4, eqB4, und5, agg5, size5, bytes5, zero5, und22, agg22, size22, bytes22, zero22, lenS22, lenG22, lenN22, eqSl22, eqSg22, eqSn22, und32, agg32, size32, bytes32, zero32, lenS32, lenG32, lenN32, eqSl32, eqSg32, eqSn32, und35, agg35, size35, bytes35, zero35, eqPn35, eqPP35, cv5_3, k0, k1, k5, k6, k7, hq, e1, e2, hx.len und32])
      | (simp (disch := omega) only [optIf, optIfN, selP, selN, avP, avN])
    have hneP : (45 : TypeId) ≠ 22 := by decide
    have hpl0 : (Hi ++ [pblk .nilS 0]).length = Hi.length + 1 := len_push _ _
    refine AWp_loop (fun m fr' H' => ∃ (a : Nat) (cur vg : AV) (gs : List AV), m = all.length - a ∧ fr' 5 = va ∧ fr' 6 = vw ∧ fr' 10 = .ptr Hi.length 0 ∧ fr' 11 = vg ∧ fr' 12 = .int .i64 ((q + 1 : Nat) : Int) ∧ fr' 13 = .int .i64 (a : Int) ∧ a ≤ all.length + 20 ∧
        hget H' Hi.length = some (pblk cur (parseN (all.take a)).2.2) ∧ Ints H' .u8 cur (parseN (all.take a)).2.1 ∧ Own H' 1 22 vg gs gs.length Hi.length ∧ (vg = .nilS ∨ ∃ h, vg = .sg h 0 gs.length 1) ∧ RowsI H' .u8 gs (parseN (all.take a)).1 ∧ Ext Hi H')
      (m := all.length) ⟨0, .nilS, .nilS, [], by omega, k5, k6, rfl, rfl, rfl, rfl, by omega, by rw [hget_push, if_pos rfl, List.take_zero, parseN_nil], by rw [List.take_zero, parseN_nil]; exact Ints.nil _ _, Own.nil _ _ _ _, .inl rfl, by rw [List.take_zero, parseN_nil]; trivial, Ext.push _ _⟩ ?_
    clear k0 k1 k5 k6 k7
    rintro m fr' H1 ⟨a, cur, vg, gs, rfl, k5, k6, k10, k11, k12, k13, ha, hp, hcur, hgo, sg, hgr, x1⟩
    have hva1 := hva.ints.ext x1
    by_cases hlt : a < all.length
    · obtain ⟨e, he⟩ : ∃ e : Nat, e = if a + (q + 1) < all.length then a + (q + 1) else all.length := ⟨_, rfl⟩
      obtain ⟨htk2, hae, hel, hpos⟩ := take_more all he hlt
      have hpos := hpos (by omega)
      have e3 : IntKind.i64.wrap ((a : Int) + ((q + 1 : Nat) : Int)) = ((a + (q + 1) : Nat) : Int) := by rw [wrap_i64_id (by omega) (by omega)]; omega
      have hmin : abuiltin Try.prog .min #[3, 3] [.int .i64 ((a + (q + 1) : Nat) : Int), .int .i64 (all.length : Int)] = some (.int .i64 (e : Int)) := by
        have : (if (all.length : Int) < ((a + (q + 1) : Nat) : Int) then (all.length : Int) else ((a + (q + 1) : Nat) : Int)) = (e : Int) := by
          rw [he]
          by_cases h : a + (q + 1) < all.length
          · rw [if_pos h, if_neg (by omega)]
          · rw [if_neg h]
            by_cases h2 : (all.length : Int) < ((a + (q + 1) : Nat) : Int)
            · rw [if_pos h2]
            · rw [if_neg h2]; omega
        rw [← this]; rfl
      obtain ⟨pc, c1, ipc⟩ := hva1.cut (P := Try.prog) und22 size5 (abounds_both (p := a) (q := e) (k := .i64) (l := .i64) hae hel)
      generalize hpiece : (all.drop a).take (e - a) = piece at *
      have hpl : piece.length = e - a := by rw [← hpiece, List.length_take, List.length_drop]; omega
      have hpne : piece ≠ [] := by
        intro h0
        rw [h0] at hpl
        simp at hpl
        omega
      have happ := parseN_append _ (all.take a) piece (Nat.le_refl _)
      rw [← htk2] at happ
      have hbad := parseN_bad _ (all.take a) (Nat.le_refl _)
      have hcnt := parseN_count _ (all.take a) (Nat.le_refl _)
      obtain ⟨kk, hrest⟩ := parseN_rest _ (all.take a) (Nat.le_refl _)
      have hpayn := parseN_pay _ (all.take a) (Nat.le_refl _)
      have hal2 : (all.take a).length ≤ 540 := by rw [List.length_take]; omega
      have hrl : (parseN (all.take a)).2.1.length ≤ 540 := by rw [hrest, List.length_drop]; omega
      have hbr : Bytes ((parseN (all.take a)).2.1 ++ piece) := by
        intro y hy
        rcases List.mem_append.1 hy with hy | hy
        · rw [hrest] at hy
          exact hallb y (List.mem_of_mem_take (List.mem_of_mem_drop hy))
        · rw [← hpiece] at hy
          exact hallb y (List.mem_of_mem_drop (List.mem_of_mem_take hy))
      have hll : ((parseN (all.take a)).2.1 ++ piece).length < 1000000 := by rw [List.length_append]; omega
      have hpay2 := parseN_pay _ ((parseN (all.take a)).2.1 ++ piece) (Nat.le_refl _)
      have hcnt2 := parseN_count _ ((parseN (all.take a)).2.1 ++ piece) (Nat.le_refl _)
      have hgl := hgr.length
      repeat' first
        | (with_reducible refine AWp_seq_k (fun K hK => ?_))
        | (with_reducible refine AWp_block ?_)
        | (with_reducible refine AWp_skip ?_)
        | (with_reducible refine AWp_exit ?_)
        | (with_reducible refine AWp_ret ?_)
        | (with_reducible refine AWp_regionE ?_)
        | (with_reducible refine AWp_drawE (id := 14) (.one 0 (.one 1 (.one 3 (.one 4 (.one 5 (.one 6 (.alt 2 (.one 7 (.one 8 (.one 9 (.one 10 (.one 11 .nil))))) (.one 7 (.alt 2 (.one 8 (.one 9 (.one 10 (.one 11 .nil)))) (.one 8 (.one 2 (.one 9 (.one 10 (.one 11 .nil)))))))))))))) (by kernel_rfl) (by kernel_rfl) ?_)
        | (with_reducible refine AWp_condI ?_)
        | (with_reducible refine EGuard_split (fun hc => ?_) (fun hc => ?_) <;> (try simp only [Bool.not_eq_true', Bool.not_eq_false', decide_eq_true_eq, decide_eq_false_iff_not, beq_iff_eq, beq_eq_false_iff_ne, bne_iff_ne, bne_eq_false_iff_eq, Bool.false_eq_true, ne_eq, Decidable.not_not, Bool.not_eq_eq_eq_not, Bool.not_true, Bool.not_false, not_true_eq_false, not_false_eq_true] at hc) <;> (try (exfalso; first | omega | contradiction)))
        | (with_reducible refine And.intro ?_ ?_)
        | (with_reducible refine AIte (fun hc => ?_) (fun hc => ?_) <;> (try simp only [Bool.not_eq_true', Bool.not_eq_false', decide_eq_true_eq, decide_eq_false_iff_not, beq_iff_eq, beq_eq_false_iff_ne, bne_iff_ne, bne_eq_false_iff_eq, Bool.false_eq_true, ne_eq, Decidable.not_not, Bool.not_eq_eq_eq_not, Bool.not_true, Bool.not_false, not_true_eq_false, not_false_eq_true] at hc) <;> (try (exfalso; first | omega | contradiction)))
        | (simp only [thenA, inBlockA, reduceIte, Nat.reduceEqDiff])
        | ((with_reducible refine hK _ _ ?_); clear hK)
        | (clear hK; (with_reducible refine hK _ _ ?_); clear hK)
        | (clear hK; clear hK; (with_reducible refine hK _ _ ?_); clear hK)
        | (clear hK; clear hK; clear hK; (with_reducible refine hK _ _ ?_); clear hK)
        | (clear hK; clear hK; clear hK; clear hK; (with_reducible refine hK _ _ ?_); clear hK)
        | (clear hK; clear hK; clear hK; clear hK; clear hK; (with_reducible refine hK _ _ ?_); clear hK)
        | (simp only [ACond, Run_nil, Run_cons, Run_pnil, Run_one, Run_alt, EAt_def, EStep_def, E0_def, EGuard_true, EGuard_false, beq_self_eq_true, beq_true, beq_false, bne_self_eq_false, wantedA, acall, astep, ev, ofValue, ofAtom, Fr.put_some, Fr.put_none, fr0_zero, fr0_succ, fr0_nil, Nat.reduceEqDiff, Nat.reduceAdd, Nat.reduceMul, Nat.reduceSub, reduceCtorEq, if_true, if_false, reduceIte, Option.map_some, Option.map_none, Option.bind_some, Option.bind_none, aoptEv, abin, aint, ashift, aun, astr, aeqGuard, isConstOp, or_self, or_true, true_or, or_false, false_or, and_self, and_true, true_and, and_false, false_and, not_true_eq_false, not_false_eq_true, Bool.false_eq_true, Bool.true_eq_false, decide_eq_true_eq, decide_eq_false_iff_not, beq_iff_eq, bne_iff_ne, Bool.not_eq_true', Bool.not_true, Bool.not_false, ne_eq, aconvH, aofStr, aconvSame, isU8, abuildSlice, afill, splice, azeros, AV.solid_int, AV.one_int, AV.cells_int, AV.solid_bool, AV.one_bool, AV.cells_bool, AV.solid_str, AV.one_str, AV.cells_str, AV.solid_nilI, AV.one_nilI, AV.cells_nilI, AV.solid_ifc, AV.one_ifc, AV.cells_ifc, AV.solid_nilP, AV.one_nilP, AV.cells_nilP, AV.solid_ptr, AV.one_ptr, AV.cells_ptr, AV.solid_nilS, AV.one_nilS, AV.cells_nilS, AV.solid_sl, AV.one_sl, AV.cells_sl, AV.solid_sg, AV.one_sg, AV.cells_sg, AV.solid_fn, AV.one_fn, AV.cells_fn, AV.cells_agg, List.replicate_succ, List.replicate_zero, List.flatten_cons, List.flatten_nil, List.append_nil, List.nil_append, List.cons_append, List.take_succ_cons, List.take_zero, List.drop_succ_cons, List.drop_zero, List.length_cons, List.length_nil, List.all_cons, List.all_nil, Bool.and_true, Bool.true_and, Bool.and_self, Nat.reduceLeDiff, Nat.reduceLT, Int.reduceLE, Int.reduceLT, Int.reduceEq, Int.reduceToNat, Int.cast_ofNat_Int, Int.reducePow, IntKind.bits, Nat.min_def, Int.reduceNeg, Nat.zero_add, Nat.reduceEqDiff, hget_push, set_push_new, List.map_cons, List.map_nil, List.toList_toArray, List.getElem?_toArray, List.getElem?_cons_zero, List.getElem?_cons_succ, und3, agg3, size3, bytes3, zero3, und4, agg4, size4, bytes4, zero4, eqB4, und5, agg5, size5, bytes5, zero5, und22, agg22, size22, bytes22, zero22, lenS22, lenG22, lenN22, eqSl22, eqSg22, eqSn22, und32, agg32, size32, bytes32, zero32, lenS32, lenG32, lenN32, eqSl32, eqSg32, eqSn32, und35, agg35, size35, bytes35, zero35, eqPn35, eqPP35, cv5_3, k5, k6, k10, k11, k12, k13, e3, hmin, c1, hva1.rd.len und22])
        | (simp (disch := omega) only [optIf, optIfN, selP, selN, avP, avN])
      refine ECall_intro (feedN H1 Hi.length cur pc _ _ _ _ _ hp hcur ipc rfl hbr hll (by omega) rfl) ?_
      rintro r H2 ⟨rs, v5, hro, hrr, hv5, hx2, hfr⟩
      have hrl2 := hrr.length
      have hplt := hget_lt hp
      have hgo2 : Own H2 1 22 vg gs gs.length Hi.length := Own.ext (own_set hgo sg hp hneP) hx2
      have hgr2 : RowsI H2 .u8 gs (parseN (all.take a)).1 := (rows_pblk hp hcur hgr).ext hx2
      have x2 : Ext Hi H2 := (x1.set (Nat.le_refl _) _).trans hx2
      have hp2 : hget H2 Hi.length = some (pblk v5 ((parseN (all.take a)).2.2 + (parseN ((parseN (all.take a)).2.1 ++ piece)).2.2)) := hget_ext (by rw [hget_set hplt, if_pos rfl]) hx2
      have hform := rows_form hgr2
      obtain ⟨vg3, H3, g3, o3, x3, s3, m3⟩ := Own.append3 (H0 := Hi) hgo2 sg hro.rd x2 und32 size22 zero22 rfl (by decide) bytes22 hform.1 (rows_form hrr).1 (by omega) (by omega)
      have hp3 := m3.get hp2 hneP
      have hv53 : v5.hd ≠ vg.hd := by
        have h1 := hfr hpne
        rcases sg with rfl | ⟨h, rfl⟩
        · show v5.hd ≠ 0
          omega
        · rcases hgo.row with ⟨h2, _⟩ | ⟨_, _, h2, _⟩ | ⟨h', h2, h3, _⟩
          · cases h2
          · cases h2
          · cases h2
            have := hget_lt h3
            show v5.hd ≠ h
            omega
      have hv3 : Ints H3 .u8 v5 (parseN ((parseN (all.take a)).2.1 ++ piece)).2.1 := by
        rcases m3 with h | ⟨b, h1, h2, h3⟩
        · exact hv5.ext h
        · exact (ints_set hv5 h1 (.inr hv53)).ext h3
      have hgr3 := rows_moved hform.2 m3 hgr2 hpayn
      have hrr3 := rows_moved hform.2 m3 hrr hpay2
      repeat' first
        | (with_reducible refine AWp_seq_k (fun K hK => ?_))
        | (with_reducible refine AWp_block ?_)
        | (with_reducible refine AWp_skip ?_)
        | (with_reducible refine AWp_exit ?_)
        | (with_reducible refine AWp_ret ?_)
        | (with_reducible refine AWp_regionE ?_)
        | (with_reducible refine AWp_drawE (id := 14) (.one 0 (.one 1 (.one 3 (.one 4 (.one 5 (.one 6 (.alt 2 (.one 7 (.one 8 (.one 9 (.one 10 (.one 11 .nil))))) (.one 7 (.alt 2 (.one 8 (.one 9 (.one 10 (.one 11 .nil)))) (.one 8 (.one 2 (.one 9 (.one 10 (.one 11 .nil)))))))))))))) (by kernel_rfl) (by kernel_rfl) ?_)
        | (with_reducible refine AWp_condI ?_)
        | (with_reducible refine EGuard_split (fun hc => ?_) (fun hc => ?_) <;> (try simp only [Bool.not_eq_true', Bool.not_eq_false', decide_eq_true_eq, decide_eq_false_iff_not, beq_iff_eq, beq_eq_false_iff_ne, bne_iff_ne, bne_eq_false_iff_eq, Bool.false_eq_true, ne_eq, Decidable.not_not, Bool.not_eq_eq_eq_not, Bool.not_true, Bool.not_false, not_true_eq_false, not_false_eq_true] at hc) <;> (try (exfalso; first | omega | contradiction)))
        | (with_reducible refine And.intro ?_ ?_)
        | (with_reducible refine AIte (fun hc => ?_) (fun hc => ?_) <;> (try simp only [Bool.not_eq_true', Bool.not_eq_false', decide_eq_true_eq, decide_eq_false_iff_not, beq_iff_eq, beq_eq_false_iff_ne, bne_iff_ne, bne_eq_false_iff_eq, Bool.false_eq_true, ne_eq, Decidable.not_not, Bool.not_eq_eq_eq_not, Bool.not_true, Bool.not_false, not_true_eq_false, not_false_eq_true] at hc) <;> (try (exfalso; first | omega | contradiction)))
        | (simp only [thenA, inBlockA, reduceIte, Nat.reduceEqDiff])
        | ((with_reducible refine hK _ _ ?_); clear hK)
        | (clear hK; (with_reducible refine hK _ _ ?_); clear hK)
        | (clear hK; clear hK; (with_reducible refine hK _ _ ?_); clear hK)
        | (clear hK; clear hK; clear hK; (with_reducible refine hK _ _ ?_); clear hK)
        | (clear hK; clear hK; clear hK; clear hK; (with_reducible refine hK _ _ ?_); clear hK)
        | (clear hK; clear hK; clear hK; clear hK; clear hK; (with_reducible refine hK _ _ ?_); clear hK)
        | (simp only [ACond, Run_nil, Run_cons, Run_pnil, Run_one, Run_alt, EAt_def, EStep_def, E0_def, EGuard_true, EGuard_false, beq_self_eq_true, beq_true, beq_false, bne_self_eq_false, wantedA, acall, astep, ev, ofValue, ofAtom, Fr.put_some, Fr.put_none, fr0_zero, fr0_succ, fr0_nil, Nat.reduceEqDiff, Nat.reduceAdd, Nat.reduceMul, Nat.reduceSub, reduceCtorEq, if_true, if_false, reduceIte, Option.map_some, Option.map_none, Option.bind_some, Option.bind_none, aoptEv, abin, aint, ashift, aun, astr, aeqGuard, isConstOp, or_self, or_true, true_or, or_false, false_or, and_self, and_true, true_and, and_false, false_and, not_true_eq_false, not_false_eq_true, Bool.false_eq_true, Bool.true_eq_false, decide_eq_true_eq, decide_eq_false_iff_not, beq_iff_eq, bne_iff_ne, Bool.not_eq_true', Bool.not_true, Bool.not_false, ne_eq, aconvH, aofStr, aconvSame, isU8, abuildSlice, afill, splice, azeros, AV.solid_int, AV.one_int, AV.cells_int, AV.solid_bool, AV.one_bool, AV.cells_bool, AV.solid_str, AV.one_str, AV.cells_str, AV.solid_nilI, AV.one_nilI, AV.cells_nilI, AV.solid_ifc, AV.one_ifc, AV.cells_ifc, AV.solid_nilP, AV.one_nilP, AV.cells_nilP, AV.solid_ptr, AV.one_ptr, AV.cells_ptr, AV.solid_nilS, AV.one_nilS, AV.cells_nilS, AV.solid_sl, AV.one_sl, AV.cells_sl, AV.solid_sg, AV.one_sg, AV.cells_sg, AV.solid_fn, AV.one_fn, AV.cells_fn, AV.cells_agg, List.replicate_succ, List.replicate_zero, List.flatten_cons, List.flatten_nil, List.append_nil, List.nil_append, List.cons_append, List.take_succ_cons, List.take_zero, List.drop_succ_cons, List.drop_zero, List.length_cons, List.length_nil, List.all_cons, List.all_nil, Bool.and_true, Bool.true_and, Bool.and_self, Nat.reduceLeDiff, Nat.reduceLT, Int.reduceLE, Int.reduceLT, Int.reduceEq, Int.reduceToNat, Int.cast_ofNat_Int, Int.reducePow, IntKind.bits, Nat.min_def, Int.reduceNeg, Nat.zero_add, Nat.reduceEqDiff, hget_push, set_push_new, List.map_cons, List.map_nil, List.toList_toArray, List.getElem?_toArray, List.getElem?_cons_zero, List.getElem?_cons_succ, und3, agg3, size3, bytes3, zero3, und4, agg4, size4, bytes4, zero4, eqB4, und5, agg5, size5, bytes5, zero5, und22, agg22, size22, bytes22, zero22, lenS22, lenG22, lenN22, eqSl22, eqSg22, eqSn22, und32, agg32, size32, bytes32, zero32, lenS32, lenG32, lenN32, eqSl32, eqSg32, eqSn32, und35, agg35, size35, bytes35, zero35, eqPn35, eqPP35, cv5_3, k5, k6, k10, k11, k12, k13, e3, g3])
        | (simp (disch := omega) only [optIf, optIfN, selP, selN, avP, avN])
      refine ⟨all.length - (a + (q + 1)), by omega, a + (q + 1), v5, vg3, gs ++ rs, rfl, rfl, rfl, by omega, ?_, ?_, by rw [List.length_append]; exact o3, by rw [List.length_append]; exact s3, ?_, x3⟩
      · rw [happ]; exact hp3
      · rw [happ]; exact hv3
      · rw [happ]; exact rows_append hgr3 hrr3
    · have hta : all.take a = all := List.take_of_length_le (by omega)
      rw [hta, hpar] at hp hcur hgr
      have hgr : RowsI H1 .u8 gs (xss.filter okRow) := hgr
      have hcur : Ints H1 .u8 cur [] := hcur
      have hp : hget H1 Hi.length = some (pblk cur 0) := hp
      have hfl := List.length_filter_le okRow xss
      have hgl := hgr.length
      have hwl := hws.length
      have hfin := lists_calls vg vw gs ws (xss.filter okRow) H1 hgo.rd (Own.rd (Own.ext hvw x1)) hgr (hws.ext (xi.trans x1)) (by omega)
      repeat' first
        | (with_reducible refine AWp_seq_k (fun K hK => ?_))
        | (with_reducible refine AWp_block ?_)
        | (with_reducible refine AWp_skip ?_)
        | (with_reducible refine AWp_exit ?_)
        | (with_reducible refine AWp_ret ?_)
        | (with_reducible refine AWp_regionE ?_)
        | (with_reducible refine AWp_drawE (id := 14) (.one 0 (.one 1 (.one 3 (.one 4 (.one 5 (.one 6 (.alt 2 (.one 7 (.one 8 (.one 9 (.one 10 (.one 11 .nil))))) (.one 7 (.alt 2 (.one 8 (.one 9 (.one 10 (.one 11 .nil)))) (.one 8 (.one 2 (.one 9 (.one 10 (.one 11 .nil)))))))))))))) (by kernel_rfl) (by kernel_rfl) ?_)
        | (with_reducible refine AWp_condI ?_)
        | ((with_reducible refine ECall_intro (hfin) ?_); rintro _ _ ⟨rfl, rfl⟩)
        | ((with_reducible refine ECall_intro (left_calls _ _ _ _ _ hp hcur) ?_); rintro _ _ ⟨rfl, rfl⟩)
        | ((with_reducible refine ECall_intro (bad_calls _ _ _ _ hp) ?_); rintro _ _ ⟨rfl, rfl⟩)
        | (with_reducible refine EGuard_split (fun hc => ?_) (fun hc => ?_) <;> (try simp only [Bool.not_eq_true', Bool.not_eq_false', decide_eq_true_eq, decide_eq_false_iff_not, beq_iff_eq, beq_eq_false_iff_ne, bne_iff_ne, bne_eq_false_iff_eq, Bool.false_eq_true, ne_eq, Decidable.not_not, Bool.not_eq_eq_eq_not, Bool.not_true, Bool.not_false, not_true_eq_false, not_false_eq_true] at hc) <;> (try (exfalso; first | omega | contradiction)))
        | (with_reducible refine And.intro ?_ ?_)
        | (with_reducible refine AIte (fun hc => ?_) (fun hc => ?_) <;> (try simp only [Bool.not_eq_true', Bool.not_eq_false', decide_eq_true_eq, decide_eq_false_iff_not, beq_iff_eq, beq_eq_false_iff_ne, bne_iff_ne, bne_eq_false_iff_eq, Bool.false_eq_true, ne_eq, Decidable.not_not, Bool.not_eq_eq_eq_not, Bool.not_true, Bool.not_false, not_true_eq_false, not_false_eq_true] at hc) <;> (try (exfalso; first | omega | contradiction)))
        | (simp only [thenA, inBlockA, reduceIte, Nat.reduceEqDiff])
        | ((with_reducible refine hK _ _ ?_); clear hK)
        | (clear hK; (with_reducible refine hK _ _ ?_); clear hK)
        | (clear hK; clear hK; (with_reducible refine hK _ _ ?_); clear hK)
        | (clear hK; clear hK; clear hK; (with_reducible refine hK _ _ ?_); clear hK)
        | (clear hK; clear hK; clear hK; clear hK; (with_reducible refine hK _ _ ?_); clear hK)
        | (clear hK; clear hK; clear hK; clear hK; clear hK; (with_reducible refine hK _ _ ?_); clear hK)
        | (simp only [ACond, Run_nil, Run_cons, Run_pnil, Run_one, Run_alt, EAt_def, EStep_def, E0_def, EGuard_true, EGuard_false, beq_self_eq_true, beq_true, beq_false, bne_self_eq_false, wantedA, acall, astep, ev, ofValue, ofAtom, Fr.put_some, Fr.put_none, fr0_zero, fr0_succ, fr0_nil, Nat.reduceEqDiff, Nat.reduceAdd, Nat.reduceMul, Nat.reduceSub, reduceCtorEq, if_true, if_false, reduceIte, Option.map_some, Option.map_none, Option.bind_some, Option.bind_none, aoptEv, abin, aint, ashift, aun, astr, aeqGuard, isConstOp, or_self, or_true, true_or, or_false, false_or, and_self, and_true, true_and, and_false, false_and, not_true_eq_false, not_false_eq_true, Bool.false_eq_true, Bool.true_eq_false, decide_eq_true_eq, decide_eq_false_iff_not, beq_iff_eq, bne_iff_ne, Bool.not_eq_true', Bool.not_true, Bool.not_false, ne_eq, aconvH, aofStr, aconvSame, isU8, abuildSlice, afill, splice, azeros, AV.solid_int, AV.one_int, AV.cells_int, AV.solid_bool, AV.one_bool, AV.cells_bool, AV.solid_str, AV.one_str, AV.cells_str, AV.solid_nilI, AV.one_nilI, AV.cells_nilI, AV.solid_ifc, AV.one_ifc, AV.cells_ifc, AV.solid_nilP, AV.one_nilP, AV.cells_nilP, AV.solid_ptr, AV.one_ptr, AV.cells_ptr, AV.solid_nilS, AV.one_nilS, AV.cells_nilS, AV.solid_sl, AV.one_sl, AV.cells_sl, AV.solid_sg, AV.one_sg, AV.cells_sg, AV.solid_fn, AV.one_fn, AV.cells_fn, AV.cells_agg, List.replicate_succ, List.replicate_zero, List.flatten_cons, List.flatten_nil, List.append_nil, List.nil_append, List.cons_append, List.take_succ_cons, List.take_zero, List.drop_succ_cons, List.drop_zero, List.length_cons, List.length_nil, List.all_cons, List.all_nil, Bool.and_true, Bool.true_and, Bool.and_self, Nat.reduceLeDiff, Nat.reduceLT, Int.reduceLE, Int.reduceLT, Int.reduceEq, Int.reduceToNat, Int.cast_ofNat_Int, Int.reducePow, IntKind.bits, Nat.min_def, Int.reduceNeg, Nat.zero_add, Nat.reduceEqDiff, hget_push, set_push_new, List.map_cons, List.map_nil, List.toList_toArray, List.getElem?_toArray, List.getElem?_cons_zero, List.getElem?_cons_succ, und3, agg3, size3, bytes3, zero3, und4, agg4, size4, bytes4, zero4, eqB4, und5, agg5, size5, bytes5, zero5, und22, agg22, size22, bytes22, zero22, lenS22, lenG22, lenN22, eqSl22, eqSg22, eqSn22, und32, agg32, size32, bytes32, zero32, lenS32, lenG32, lenN32, eqSl32, eqSg32, eqSn32, und35, agg35, size35, bytes35, zero35, eqPn35, eqPP35, cv5_3, k5, k6, k10, k11, k12, k13, hva1.rd.len und22])
        | (simp (disch := omega) only [optIf, optIfN, selP, selN, avP, avN])
      all_goals
        (
         first | refine AEnd_ret1 rfl ?_ | refine AEnd_ret2 rfl ?_ | refine AEnd_ret3 rfl ?_ | refine AEnd_ret0 rfl ?_
         simp only [Fr.put_some, Fr.put_none, fr0_zero, fr0_succ, fr0_nil, Nat.reduceEqDiff, reduceIte])
      all_goals simp

theorem row_calls (n : Int) (x : AV) (vs : List AV) (xss : List (List Int)) (H : Hp) (hx : Rd H 1 x vs vs.length) (hr : RowsI H .u8 vs xss) (hb : ∀ xs ∈ xss, Bytes xs) (hlx : ∀ xs ∈ xss, xs.length ≤ 9223372036854775807) (hl : vs.length ≤ 9223372036854775807) (hn : 0 ≤ n ∧ n < 256) :
    ACalls Try.prog 8 [x, .int .u8 n] H fun r H' => r = .bool true := by
  by_cases h : vs.length ≤ 12
  · exact row_in n x vs xss H hx hr hb hlx h hn
  · skip
    refine ACalls_body Try.func8 rfl (by kernel_rfl) (by kernel_rfl) ?_
    repeat' first
      | (with_reducible refine AWp_seq_k (fun K hK => ?_))
      | (with_reducible refine AWp_block ?_)
      | (with_reducible refine AWp_skip ?_)
      | (with_reducible refine AWp_exit ?_)
      | (with_reducible refine AWp_ret ?_)
      | (with_reducible refine AWp_regionE ?_)
      | (with_reducible refine AWp_drawE (id := 14) (.one 0 (.one 1 (.one 3 (.one 4 (.one 5 (.one 6 (.alt 2 (.one 7 (.one 8 (.one 9 (.one 10 (.one 11 .nil))))) (.one 7 (.alt 2 (.one 8 (.one 9 (.one 10 (.one 11 .nil)))) (.one 8 (.one 2 (.one 9 (.one 10 (.one 11 .nil)))))))))))))) (by kernel_rfl) (by kernel_rfl) ?_)
      | (with_reducible refine AWp_condI ?_)
      | ((with_reducible refine ECall_intro (known11_calls _) ?_); rintro _ _ ⟨rfl, rfl⟩)
      | (with_reducible refine EGuard_split (fun hc => ?_) (fun hc => ?_) <;> (try simp only [Bool.not_eq_true', Bool.not_eq_false', decide_eq_true_eq, decide_eq_false_iff_not, beq_iff_eq, beq_eq_false_iff_ne, bne_iff_ne, bne_eq_false_iff_eq, Bool.false_eq_true, ne_eq, Decidable.not_not, Bool.not_eq_eq_eq_not, Bool.not_true, Bool.not_false, not_true_eq_false, not_false_eq_true] at hc) <;> (try (exfalso; first | omega | contradiction)))
      | (with_reducible refine And.intro ?_ ?_)
      | (with_reducible refine AIte (fun hc => ?_) (fun hc => ?_) <;> (try simp only [Bool.not_eq_true', Bool.not_eq_false', decide_eq_true_eq, decide_eq_false_iff_not, beq_iff_eq, beq_eq_false_iff_ne, bne_iff_ne, bne_eq_false_iff_eq, Bool.false_eq_true, ne_eq, Decidable.not_not, Bool.not_eq_eq_eq_not, Bool.not_true, Bool.not_false, not_true_eq_false, not_false_eq_true] at hc) <;> (try (exfalso; first | omega | contradiction)))
      | (simp only [thenA, inBlockA, reduceIte, Nat.reduceEqDiff])
      | ((with_reducible refine hK _ _ ?_); clear hK)
      | (clear hK; (with_reducible refine hK _ _ ?_); clear hK)
      | (clear hK; clear hK; (with_reducible refine hK _ _ ?_); clear hK)
      | (clear hK; clear hK; clear hK; (with_reducible refine hK _ _ ?_); clear hK)
      | (clear hK; clear hK; clear hK; clear hK; (with_reducible refine hK _ _ ?_); clear hK)
      | (clear hK; clear hK; clear hK; clear hK; clear hK; (with_reducible refine hK _ _ ?_); clear hK)
      | (simp only [ACond, Run_nil, Run_cons, Run_pnil, Run_one, Run_alt, EAt_def, EStep_def, E0_def, EGuard_true, EGuard_false, beq_self_eq_true, beq_true, beq_false, bne_self_eq_false, wantedA, acall, astep, ev, ofValue, ofAtom, Fr.put_some, Fr.put_none, fr0_zero, fr0_succ, fr0_nil, Nat.reduceEqDiff, Nat.reduceAdd, Nat.reduceMul, Nat.reduceSub, reduceCtorEq, if_true, if_false, reduceIte, Option.map_some, Option.map_none, Option.bind_some, Option.bind_none, aoptEv, abin, aint, ashift, aun, astr, aeqGuard, isConstOp, or_self, or_true, true_or, or_false, false_or, and_self, and_true, true_and, and_false, false_and, not_true_eq_false, not_false_eq_true, Bool.false_eq_true, Bool.true_eq_false, decide_eq_true_eq, decide_eq_false_iff_not, beq_iff_eq, bne_iff_ne, Bool.not_eq_true', Bool.not_true, Bool.not_false, ne_eq, aconvH, aofStr, aconvSame, isU8, abuildSlice, afill, splice, azeros, AV.solid_int, AV.one_int, AV.cells_int, AV.solid_bool, AV.one_bool, AV.cells_bool, AV.solid_str, AV.one_str, AV.cells_str, AV.solid_nilI, AV.one_nilI, AV.cells_nilI, AV.solid_ifc, AV.one_ifc, AV.cells_ifc, AV.solid_nilP, AV.one_nilP, AV.cells_nilP, AV.solid_ptr, AV.one_ptr, AV.cells_ptr, AV.solid_nilS, AV.one_nilS, AV.cells_nilS, AV.solid_sl, AV.one_sl, AV.cells_sl, AV.solid_sg, AV.one_sg, AV.cells_sg, AV.solid_fn, AV.one_fn, AV.cells_fn, AV.cells_agg, List.replicate_succ, List.replicate_zero, List.flatten_cons, List.flatten_nil, List.append_nil, List.nil_append, List.cons_append, List.take_succ_cons, List.take_zero, List.drop_succ_cons, List.drop_zero, List.length_cons, List.length_nil, List.all_cons, List.all_nil, Bool.and_true, Bool.true_and, Bool.and_self, Nat.reduceLeDiff, Nat.reduceLT, Int.reduceLE, Int.reduceLT, Int.reduceEq, Int.reduceToNat, Int.cast_ofNat_Int, Int.reducePow, IntKind.bits, Nat.min_def, Int.reduceNeg, Nat.zero_add, Nat.reduceEqDiff, hget_push, set_push_new, List.map_cons, List.map_nil, List.toList_toArray, List.getElem?_toArray, List.getElem?_cons_zero, List.getElem?_cons_succ, und3, agg3, size3, bytes3, zero3, und4, agg4, size4, bytes4, zero4, eqB4, und5, agg5, size5, bytes5, zero5, und22, agg22, size22, bytes22, zero22, lenS22, lenG22, lenN22, eqSl22, eqSg22, eqSn22, und32, agg32, size32, bytes32, zero32, lenS32, lenG32, lenN32, eqSl32, eqSg32, eqSn32, und35, agg35, size35, bytes35, zero35, eqPn35, eqPP35, cv5_3, hx.len und32])
      | (simp (disch := omega) only [optIf, optIfN, selP, selN, avP, avN])
    all_goals
      (
       first | refine AEnd_ret1 rfl ?_ | refine AEnd_ret2 rfl ?_ | refine AEnd_ret3 rfl ?_ | refine AEnd_ret0 rfl ?_
       simp only [Fr.put_some, Fr.put_none, fr0_zero, fr0_succ, fr0_nil, Nat.reduceEqDiff, reduceIte])
end Go.Proofs.Ytdlplfhkmhkngaa

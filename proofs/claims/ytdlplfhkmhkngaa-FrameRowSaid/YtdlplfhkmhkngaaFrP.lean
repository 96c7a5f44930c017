/- A part of the proofs of this seat: FrP. No condition. -/
import Derived.Test.YtdlplfhkmhkngaaFrO
set_option linter.unusedVariables false
set_option linter.unusedSimpArgs false
namespace Go.Proofs.Ytdlplfhkmhkngaa
open Go.AL

/-- What an append leaves of the heap: all, or all but the block of the slice that grew. -/
def Moved (H H' : Hp) (s : AV) (cs : List AV) (e : TypeId) : Prop := Ext H H' ∨ ∃ b, s.hd < H.length ∧ hget H s.hd = some ⟨cs, .own, e⟩ ∧ Ext (H.set s.hd b) H'
theorem Moved.get {H H' : Hp} {s : AV} {cs : List AV} {e : TypeId} (h : Moved H H' s cs e) {k : Nat} {b : Blk} (hb : hget H k = some b) (he : b.ety ≠ e) : hget H' k = some b := by
  rcases h with h | ⟨b', h1, h2, h3⟩
  · exact hget_ext hb h
  · have hne : k ≠ s.hd := by
      intro hk
      rw [hk, h2] at hb
      cases hb
      exact he rfl
    exact hget_ext (by rw [hget_set h1, if_neg hne]; exact hb) h3
theorem Moved.own {H H' : Hp} {s : AV} {cs : List AV} {e : TypeId} (h : Moved H H' s cs e) {z : Nat} {e' : TypeId} {v : AV} {ds : List AV} {n lo : Nat} (ho : Own H z e' v ds n lo) (hs : v = .nilS ∨ ∃ h, v = .sg h 0 n z) (he : e' ≠ e) : Own H' z e' v ds n lo := by
  refine ⟨?_⟩
  rcases ho.row with h1 | ⟨h', o, h1, _⟩ | ⟨h', h1, h2, h3, h4⟩
  · exact .inl h1
  · rcases hs with rfl | ⟨_, rfl⟩ <;> cases h1
  · exact .inr (.inr ⟨h', h1, h.get h2 he, h3, h4⟩)
theorem own_set {H : Hp} {p : Nat} {b0 b : Blk} {z : Nat} {e : TypeId} {v : AV} {cs : List AV} {n lo : Nat} (ho : Own H z e v cs n lo) (hs : v = .nilS ∨ ∃ h, v = .sg h 0 n z) (hp : hget H p = some b0) (he : b0.ety ≠ e) : Own (H.set p b) z e v cs n lo := by
  refine ⟨?_⟩
  rcases ho.row with h1 | ⟨h', o, h1, _⟩ | ⟨h', h1, h2, h3, h4⟩
  · exact .inl h1
  · rcases hs with rfl | ⟨_, rfl⟩ <;> cases h1
  · refine .inr (.inr ⟨h', h1, ?_, h3, h4⟩)
    have hne : h' ≠ p := by
      intro hk
      rw [hk, hp] at h2
      cases h2
      exact he rfl
    rw [hget_set (hget_lt hp), if_neg hne]
    exact h2

/-- append of bytes, and what it leaves. -/
theorem OwnB.app2 {H0 X : Hp} {s x : AV} {ps bs : List Int} (h : OwnB X s ps H0.length) (hs : s = .nilS ∨ ∃ h, s = .sg h 0 ps.length 1) (x0 : Ext H0 X) (hx : Ints X .u8 x bs) (hb : bs ≠ []) (hm : ps.length + bs.length < 1000000000000) :
    ∃ v' H', aappend Try.prog X 22 s x = some (v', H') ∧ OwnB H' v' (ps ++ bs) H0.length ∧ Ext H0 H' ∧ (∃ h, v' = .sg h 0 (ps ++ bs).length 1) ∧ Moved X H' s (ps.map (AV.int .u8)) 5 := by
  obtain ⟨v', H', h1, h2, h3, h4, h5⟩ := Own.append2 h hs hx.rd x0 und22 size5 zero5 rfl (by decide) bytes5 (ints_one _ _) (ints_one _ _) (by omega) (by omega) (List.length_pos_iff.2 hb)
  refine ⟨v', H', h1, ?_, h3, ?_, h5⟩
  · unfold OwnB
    rw [List.map_append, List.length_append]
    exact h2
  · obtain ⟨h', rfl⟩ := h4
    exact ⟨h', by rw [List.length_append]⟩

/-- Which rows are framed. -/
def okRow (xs : List Int) : Bool := decide (1 ≤ xs.length ∧ xs.length ≤ 40)
def rowAll (xss : List (List Int)) : List Int := ((xss.filter okRow).map frameOf).flatten
theorem rowAll_nil : rowAll [] = [] := rfl
theorem rowAll_snoc (xss : List (List Int)) (xs : List Int) : rowAll (xss ++ [xs]) = rowAll xss ++ (if okRow xs = true then frameOf xs else []) := by
  unfold rowAll
  rw [List.filter_append, List.map_append, List.flatten_append]
  congr 1
  by_cases h : okRow xs = true <;> simp [h]
theorem parseN_rows : ∀ (xss : List (List Int)), parseN (rowAll xss) = (xss.filter okRow, [], 0)
  | [] => parseN_nil
  | xs :: xss => by
    have ih := parseN_rows xss
    unfold rowAll at ih ⊢
    by_cases h : okRow xs = true
    · have h' : 1 ≤ xs.length ∧ xs.length ≤ 40 := by simpa [okRow] using h
      simp only [List.filter_cons, h, if_true, List.map_cons, List.flatten_cons]
      rw [parseN_frame h'.1 h'.2, ih]
    · simp only [List.filter_cons, h]
      exact ih
theorem rowAll_length (xss : List (List Int)) : (rowAll xss).length ≤ 45 * xss.length := by
  induction xss with
  | nil => simp [rowAll]
  | cons xs xss ih =>
    have := rowAll_snoc [] xs
    by_cases h : okRow xs = true
    · have h' : 1 ≤ xs.length ∧ xs.length ≤ 40 := by simpa [okRow] using h
      have e : rowAll (xs :: xss) = frameOf xs ++ rowAll xss := by simp [rowAll, h]
      rw [e, List.length_append, frameOf_length, List.length_cons]; omega
    · have e : rowAll (xs :: xss) = rowAll xss := by simp [rowAll, h]
      rw [e, List.length_cons]; omega
theorem rowAll_bytes {xss : List (List Int)} (h : ∀ xs ∈ xss, Bytes xs) : Bytes (rowAll xss) := by
  intro x hx
  unfold rowAll at hx
  obtain ⟨l, hl, hx⟩ := List.mem_flatten.1 hx
  obtain ⟨xs, hxs, rfl⟩ := List.mem_map.1 hl
  have := List.mem_filter.1 hxs
  have h' : 1 ≤ xs.length ∧ xs.length ≤ 40 := by simpa [okRow] using this.2
  exact frameOf_bytes (h xs this.1) h'.2 x hx

theorem lists_calls (x y : AV) (vs ws : List AV) (xss : List (List Int)) (H : Hp) (hx : Rd H 1 x vs vs.length) (hy : Rd H 1 y ws ws.length) (hv : RowsI H .u8 vs xss) (hw : RowsI H .u8 ws xss) (hn : vs.length < 1000000) :
    ACalls Try.prog 22 [x, y] H fun r H' => r = .bool true ∧ H = H' := by
  have l1 := hv.length
  have l2 := hw.length
  have l3 : ws.length = vs.length := by omega
  refine ACalls_body Try.func22 rfl (by kernel_rfl) (by kernel_rfl) ?_
  repeat' first
    | (with_reducible refine AWp_seq_k (fun K hK => ?_))
    | (with_reducible refine AWp_block ?_)
    | (with_reducible refine AWp_skip ?_)
    | (with_reducible refine AWp_exit ?_)
    | (with_reducible refine AWp_ret ?_)
    | (with_reducible refine AWp_regionE ?_)
    | (with_reducible refine AWp_drawE (id := 6) (.one 0 (.one 1 (.one 2 (.one 3 (.one 4 (.one 5 (.one 6 (.one 7 (.one 8 (.one 9 (.one 10 .nil))))))))))) (by kernel_rfl) (by kernel_rfl) ?_)
    | (with_reducible refine AWp_condI ?_)
    | (with_reducible refine EGuard_split (fun hc => ?_) (fun hc => ?_) <;> (try simp only [Bool.not_eq_true', Bool.not_eq_false', decide_eq_true_eq, decide_eq_false_iff_not, beq_iff_eq, beq_eq_false_iff_ne, bne_iff_ne, bne_eq_false_iff_eq, Bool.false_eq_true, ne_eq, Decidable.not_not, Bool.not_eq_eq_eq_not, Bool.not_true, Bool.not_false, not_true_eq_false, not_false_eq_true] at hc) <;> (try (exfalso; first | omega | contradiction)))
    | (with_reducible refine And.intro ?_ ?_)
    | (with_reducible refine AIte (fun hc => ?_) (fun hc => ?_) <;> (try simp only [Bool.not_eq_true', Bool.not_eq_false', decide_eq_true_eq, decide_eq_false_iff_not, beq_iff_eq, beq_eq_false_iff_ne, bne_iff_ne, bne_eq_false_iff_eq, Bool.false_eq_true, ne_eq, Decidable.not_not, Bool.not_eq_eq_eq_not, Bool.not_true, Bool.not_false, not_true_eq_false, not_false_eq_true] at hc) <;> (try (exfalso; first | omega | contradiction)))
    | (simp only [thenA, inBlockA, reduceIte, Nat.reduceEqDiff])
    | ((with_reducible refine hK _ _ ?_); clear hK)
    | (clear hK; (with_reducible refine hK _ _ ?_); clear hK)
    | (clear hK; clear hK; (with_reducible refine hK _ _ ?_); clear hK)
    | (clear hK; clear hK; clear hK; (with_reducible refine hK _ _ ?_); clear hK)
    | (clear hK; clear hK; clear hK; clear hK; (with_reducible refine hK _ _ ?_); clear hK)
    | (clear hK; clear hK; clear hK; clear hK; clear hK; (with_reducible refine hK _ _ ?_); clear hK)
    | (simp only [ACond, Run_nil, Run_cons, Run_pnil, Run_one, Run_alt, EAt_def, EStep_def, E0_def, EGuard_true, EGuard_false, beq_self_eq_true, beq_true, beq_false, bne_self_eq_false, wantedA, acall, astep, ev, ofValue, ofAtom, Fr.put_some, Fr.put_none, fr0_zero, fr0_succ, fr0_nil, Nat.reduceEqDiff, Nat.reduceAdd, Nat.reduceMul, Nat.reduceSub, reduceCtorEq, if_true, if_false, reduceIte, Option.map_some, Option.map_none, Option.bind_some, Option.bind_none, aoptEv, abin, aint, ashift, aun, astr, aeqGuard, isConstOp, or_self, or_true, true_or, or_false, false_or, and_self, and_true, true_and, and_false, false_and, not_true_eq_false, not_false_eq_true, Bool.false_eq_true, Bool.true_eq_false, decide_eq_true_eq, decide_eq_false_iff_not, beq_iff_eq, bne_iff_ne, Bool.not_eq_true', Bool.not_true, Bool.not_false, ne_eq, aconvH, aofStr, aconvSame, isU8, abuildSlice, afill, splice, azeros, AV.solid_int, AV.one_int, AV.cells_int, AV.solid_bool, AV.one_bool, AV.cells_bool, AV.solid_str, AV.one_str, AV.cells_str, AV.solid_nilI, AV.one_nilI, AV.cells_nilI, AV.solid_ifc, AV.one_ifc, AV.cells_ifc, AV.solid_nilP, AV.one_nilP, AV.cells_nilP, AV.solid_ptr, AV.one_ptr, AV.cells_ptr, AV.solid_nilS, AV.one_nilS, AV.cells_nilS, AV.solid_sl, AV.one_sl, AV.cells_sl, AV.solid_sg, AV.one_sg, AV.cells_sg, AV.solid_fn, AV.one_fn, AV.cells_fn, AV.cells_agg, List.replicate_succ, List.replicate_zero, List.flatten_cons, List.flatten_nil, List.append_nil, List.nil_append, List.cons_append, List.take_succ_cons, List.take_zero, List.drop_succ_cons, List.drop_zero, List.length_cons, List.length_nil, List.all_cons, List.all_nil, Bool.and_true, Bool.true_and, Bool.and_self, Nat.reduceLeDiff, Nat.reduceLT, Int.reduceLE, Int.reduceLT, Int.reduceEq, Int.reduceToNat, Int.cast_ofNat_Int, Int.reducePow, IntKind.bits, Nat.min_def, Int.reduceNeg, Nat.zero_add, Nat.reduceEqDiff, hget_push, set_push_new, List.map_cons, List.map_nil, List.toList_toArray, List.getElem?_toArray, List.getElem?_cons_zero, List.getElem?_cons_succ, und3, agg3, size3, bytes3, zero3, und5, agg5, size5, bytes5, zero5, und9, agg9, size9, bytes9, zero9, und22, agg22, size22, bytes22, zero22, lenS22, lenG22, lenN22, eqSl22, eqSg22, eqSn22, und32, agg32, size32, bytes32, zero32, lenS32, lenG32, lenN32, eqSl32, eqSg32, eqSn32, cv22_9, hx.len und32, hy.len und32, l3])
    | (simp (disch := omega) only [optIf, optIfN, selP, selN, avP, avN])
  refine AWp_loop (fun m fr' H' => ∃ i : Nat, m = vs.length - i ∧ i ≤ vs.length ∧ fr' 0 = x ∧ fr' 1 = y ∧ fr' 5 = .int .i64 (i : Int) ∧ H = H') (m := vs.length) ⟨0, by omega, by omega, rfl, rfl, rfl, rfl⟩ ?_
  rintro m fr' H' ⟨i, rfl, hi, k0, k1, k5, rfl⟩
  by_cases hlt : i < vs.length
  · obtain ⟨v, hv1, hv2⟩ := hv.get hlt
    obtain ⟨w, hw1, hw2⟩ := hw.get (i := i) (by omega)
    repeat' first
      | (with_reducible refine AWp_seq_k (fun K hK => ?_))
      | (with_reducible refine AWp_block ?_)
      | (with_reducible refine AWp_skip ?_)
      | (with_reducible refine AWp_exit ?_)
      | (with_reducible refine AWp_ret ?_)
      | (with_reducible refine AWp_regionE ?_)
      | (with_reducible refine AWp_drawE (id := 6) (.one 0 (.one 1 (.one 2 (.one 3 (.one 4 (.one 5 (.one 6 (.one 7 (.one 8 (.one 9 (.one 10 .nil))))))))))) (by kernel_rfl) (by kernel_rfl) ?_)
      | (with_reducible refine AWp_condI ?_)
      | (with_reducible refine EGuard_split (fun hc => ?_) (fun hc => ?_) <;> (try simp only [Bool.not_eq_true', Bool.not_eq_false', decide_eq_true_eq, decide_eq_false_iff_not, beq_iff_eq, beq_eq_false_iff_ne, bne_iff_ne, bne_eq_false_iff_eq, Bool.false_eq_true, ne_eq, Decidable.not_not, Bool.not_eq_eq_eq_not, Bool.not_true, Bool.not_false, not_true_eq_false, not_false_eq_true] at hc) <;> (try (exfalso; first | omega | contradiction)))
      | (with_reducible refine And.intro ?_ ?_)
      | (with_reducible refine AIte (fun hc => ?_) (fun hc => ?_) <;> (try simp only [Bool.not_eq_true', Bool.not_eq_false', decide_eq_true_eq, decide_eq_false_iff_not, beq_iff_eq, beq_eq_false_iff_ne, bne_iff_ne, bne_eq_false_iff_eq, Bool.false_eq_true, ne_eq, Decidable.not_not, Bool.not_eq_eq_eq_not, Bool.not_true, Bool.not_false, not_true_eq_false, not_false_eq_true] at hc) <;> (try (exfalso; first | omega | contradiction)))
      | (simp only [thenA, inBlockA, reduceIte, Nat.reduceEqDiff])
      | ((with_reducible refine hK _ _ ?_); clear hK)
      | (clear hK; (with_reducible refine hK _ _ ?_); clear hK)
      | (clear hK; clear hK; (with_reducible refine hK _ _ ?_); clear hK)
      | (clear hK; clear hK; clear hK; (with_reducible refine hK _ _ ?_); clear hK)
      | (clear hK; clear hK; clear hK; clear hK; (with_reducible refine hK _ _ ?_); clear hK)
      | (clear hK; clear hK; clear hK; clear hK; clear hK; (with_reducible refine hK _ _ ?_); clear hK)
      | (simp only [ACond, Run_nil, Run_cons, Run_pnil, Run_one, Run_alt, EAt_def, EStep_def, E0_def, EGuard_true, EGuard_false, beq_self_eq_true, beq_true, beq_false, bne_self_eq_false, wantedA, acall, astep, ev, ofValue, ofAtom, Fr.put_some, Fr.put_none, fr0_zero, fr0_succ, fr0_nil, Nat.reduceEqDiff, Nat.reduceAdd, Nat.reduceMul, Nat.reduceSub, reduceCtorEq, if_true, if_false, reduceIte, Option.map_some, Option.map_none, Option.bind_some, Option.bind_none, aoptEv, abin, aint, ashift, aun, astr, aeqGuard, isConstOp, or_self, or_true, true_or, or_false, false_or, and_self, and_true, true_and, and_false, false_and, not_true_eq_false, not_false_eq_true, Bool.false_eq_true, Bool.true_eq_false, decide_eq_true_eq, decide_eq_false_iff_not, beq_iff_eq, bne_iff_ne, Bool.not_eq_true', Bool.not_true, Bool.not_false, ne_eq, aconvH, aofStr, aconvSame, isU8, abuildSlice, afill, splice, azeros, AV.solid_int, AV.one_int, AV.cells_int, AV.solid_bool, AV.one_bool, AV.cells_bool, AV.solid_str, AV.one_str, AV.cells_str, AV.solid_nilI, AV.one_nilI, AV.cells_nilI, AV.solid_ifc, AV.one_ifc, AV.cells_ifc, AV.solid_nilP, AV.one_nilP, AV.cells_nilP, AV.solid_ptr, AV.one_ptr, AV.cells_ptr, AV.solid_nilS, AV.one_nilS, AV.cells_nilS, AV.solid_sl, AV.one_sl, AV.cells_sl, AV.solid_sg, AV.one_sg, AV.cells_sg, AV.solid_fn, AV.one_fn, AV.cells_fn, AV.cells_agg, List.replicate_succ, List.replicate_zero, List.flatten_cons, List.flatten_nil, List.append_nil, List.nil_append, List.cons_append, List.take_succ_cons, List.take_zero, List.drop_succ_cons, List.drop_zero, List.length_cons, List.length_nil, List.all_cons, List.all_nil, Bool.and_true, Bool.true_and, Bool.and_self, Nat.reduceLeDiff, Nat.reduceLT, Int.reduceLE, Int.reduceLT, Int.reduceEq, Int.reduceToNat, Int.cast_ofNat_Int, Int.reducePow, IntKind.bits, Nat.min_def, Int.reduceNeg, Nat.zero_add, Nat.reduceEqDiff, hget_push, set_push_new, List.map_cons, List.map_nil, List.toList_toArray, List.getElem?_toArray, List.getElem?_cons_zero, List.getElem?_cons_succ, und3, agg3, size3, bytes3, zero3, und5, agg5, size5, bytes5, zero5, und9, agg9, size9, bytes9, zero9, und22, agg22, size22, bytes22, zero22, lenS22, lenG22, lenN22, eqSl22, eqSg22, eqSn22, und32, agg32, size32, bytes32, zero32, lenS32, lenG32, lenN32, eqSl32, eqSg32, eqSn32, cv22_9, k0, k1, k5, Int.toNat_natCast, hx.len und32, hv1, hw1, str22_9 hv2, str22_9 hw2, strOf_eq])
      | (simp (disch := omega) only [optIf, optIfN, selP, selN, avP, avN, hx.at_ und32 size22, hy.at_ und32 size22, hx.load agg22, hy.load agg22])
    all_goals exact ⟨vs.length - (i + 1), by omega, i + 1, rfl, by omega, by rw [wrap_i64_id (by omega) (by omega)]; rfl⟩
  · skip
    repeat' first
      | (with_reducible refine AWp_seq_k (fun K hK => ?_))
      | (with_reducible refine AWp_block ?_)
      | (with_reducible refine AWp_skip ?_)
      | (with_reducible refine AWp_exit ?_)
      | (with_reducible refine AWp_ret ?_)
      | (with_reducible refine AWp_regionE ?_)
      | (with_reducible refine AWp_drawE (id := 6) (.one 0 (.one 1 (.one 2 (.one 3 (.one 4 (.one 5 (.one 6 (.one 7 (.one 8 (.one 9 (.one 10 .nil))))))))))) (by kernel_rfl) (by kernel_rfl) ?_)
      | (with_reducible refine AWp_condI ?_)
      | (with_reducible refine EGuard_split (fun hc => ?_) (fun hc => ?_) <;> (try simp only [Bool.not_eq_true', Bool.not_eq_false', decide_eq_true_eq, decide_eq_false_iff_not, beq_iff_eq, beq_eq_false_iff_ne, bne_iff_ne, bne_eq_false_iff_eq, Bool.false_eq_true, ne_eq, Decidable.not_not, Bool.not_eq_eq_eq_not, Bool.not_true, Bool.not_false, not_true_eq_false, not_false_eq_true] at hc) <;> (try (exfalso; first | omega | contradiction)))
      | (with_reducible refine And.intro ?_ ?_)
      | (with_reducible refine AIte (fun hc => ?_) (fun hc => ?_) <;> (try simp only [Bool.not_eq_true', Bool.not_eq_false', decide_eq_true_eq, decide_eq_false_iff_not, beq_iff_eq, beq_eq_false_iff_ne, bne_iff_ne, bne_eq_false_iff_eq, Bool.false_eq_true, ne_eq, Decidable.not_not, Bool.not_eq_eq_eq_not, Bool.not_true, Bool.not_false, not_true_eq_false, not_false_eq_true] at hc) <;> (try (exfalso; first | omega | contradiction)))
      | (simp only [thenA, inBlockA, reduceIte, Nat.reduceEqDiff])
      | ((with_reducible refine hK _ _ ?_); clear hK)
      | (clear hK; (with_reducible refine hK _ _ ?_); clear hK)
      | (clear hK; clear hK; (with_reducible refine hK _ _ ?_); clear hK)
      | (clear hK; clear hK; clear hK; (with_reducible refine hK _ _ ?_); clear hK)
      | (clear hK; clear hK; clear hK; clear hK; (with_reducible refine hK _ _ ?_); clear hK)
      | (clear hK; clear hK; clear hK; clear hK; clear hK; (with_reducible refine hK _ _ ?_); clear hK)
      | (simp only [ACond, Run_nil, Run_cons, Run_pnil, Run_one, Run_alt, EAt_def, EStep_def, E0_def, EGuard_true, EGuard_false, beq_self_eq_true, beq_true, beq_false, bne_self_eq_false, wantedA, acall, astep, ev, ofValue, ofAtom, Fr.put_some, Fr.put_none, fr0_zero, fr0_succ, fr0_nil, Nat.reduceEqDiff, Nat.reduceAdd, Nat.reduceMul, Nat.reduceSub, reduceCtorEq, if_true, if_false, reduceIte, Option.map_some, Option.map_none, Option.bind_some, Option.bind_none, aoptEv, abin, aint, ashift, aun, astr, aeqGuard, isConstOp, or_self, or_true, true_or, or_false, false_or, and_self, and_true, true_and, and_false, false_and, not_true_eq_false, not_false_eq_true, Bool.false_eq_true, Bool.true_eq_false, decide_eq_true_eq, decide_eq_false_iff_not, beq_iff_eq, bne_iff_ne, Bool.not_eq_true', Bool.not_true, Bool.not_false, ne_eq, aconvH, aofStr, aconvSame, isU8, abuildSlice, afill, splice, azeros, AV.solid_int, AV.one_int, AV.cells_int, AV.solid_bool, AV.one_bool, AV.cells_bool, AV.solid_str, AV.one_str, AV.cells_str, AV.solid_nilI, AV.one_nilI, AV.cells_nilI, AV.solid_ifc, AV.one_ifc, AV.cells_ifc, AV.solid_nilP, AV.one_nilP, AV.cells_nilP, AV.solid_ptr, AV.one_ptr, AV.cells_ptr, AV.solid_nilS, AV.one_nilS, AV.cells_nilS, AV.solid_sl, AV.one_sl, AV.cells_sl, AV.solid_sg, AV.one_sg, AV.cells_sg, AV.solid_fn, AV.one_fn, AV.cells_fn, AV.cells_agg, List.replicate_succ, List.replicate_zero, List.flatten_cons, List.flatten_nil, List.append_nil, List.nil_append, List.cons_append, List.take_succ_cons, List.take_zero, List.drop_succ_cons, List.drop_zero, List.length_cons, List.length_nil, List.all_cons, List.all_nil, Bool.and_true, Bool.true_and, Bool.and_self, Nat.reduceLeDiff, Nat.reduceLT, Int.reduceLE, Int.reduceLT, Int.reduceEq, Int.reduceToNat, Int.cast_ofNat_Int, Int.reducePow, IntKind.bits, Nat.min_def, Int.reduceNeg, Nat.zero_add, Nat.reduceEqDiff, hget_push, set_push_new, List.map_cons, List.map_nil, List.toList_toArray, List.getElem?_toArray, List.getElem?_cons_zero, List.getElem?_cons_succ, und3, agg3, size3, bytes3, zero3, und5, agg5, size5, bytes5, zero5, und9, agg9, size9, bytes9, zero9, und22, agg22, size22, bytes22, zero22, lenS22, lenG22, lenN22, eqSl22, eqSg22, eqSn22, und32, agg32, size32, bytes32, zero32, lenS32, lenG32, lenN32, eqSl32, eqSg32, eqSn32, cv22_9, k0, k1, k5, hx.len und32])
      | (simp (disch := omega) only [optIf, optIfN, selP, selN, avP, avN])
    (
     first | refine AEnd_ret1 rfl ?_ | refine AEnd_ret2 rfl ?_ | refine AEnd_ret3 rfl ?_ | refine AEnd_ret0 rfl ?_
     simp only [Fr.put_some, Fr.put_none, fr0_zero, fr0_succ, fr0_nil, Nat.reduceEqDiff, reduceIte])
    exact ⟨trivial, trivial⟩
end Go.Proofs.Ytdlplfhkmhkngaa

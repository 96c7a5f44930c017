/- Part 22 of the proof of laws of this seat: lemmas on the model's code, on this program's functions, on numbers. No condition. -/
import Derived.Test.YtfalfmfkifemeaaDoorZDiaau
set_option linter.unusedVariables false
set_option linter.unusedSimpArgs false
namespace Go.Proofs.YtfalfmfkifemeaaDoor
open Go.AL Go.PW Go.PD
theorem tf23RfN : type_of% (And.intro @tyb2 (And.intro @tyb3 (And.intro @tyb22 (And.intro @tyb24 (@tyb25))))) := And.intro @tyb2 (And.intro @tyb3 (And.intro @tyb22 (And.intro @tyb24 (@tyb25))))
abbrev pn23_1RfN : Plan := (.one 0 (.one 2 (.one 3 (.alt 1 (.one 4 (.one 5 (.one 6 .nil))) (.one 4 (.one 1 (.one 5 (.one 6 .nil))))))))
set_option maxRecDepth 8000
theorem ints_sg {H : Hp} {h : Nat} {xs : List Int} (hg : hget H h = some (Ib xs)) : Ints H .i64 (.sg h 0 xs.length 1) xs := by
  have hl := map_len .i64 xs
  refine ⟨?_, rfl⟩
  simp only [arow, hg]
  rw [if_neg (by decide), if_pos (by omega), List.drop_zero, List.take_of_length_le (by omega)]
/-- Entries in memory of one's own, not below lo. -/
def Mo (H : Hp) (a : AV) (xs : List Int) (lo : Nat) : Prop := (xs = [] ∧ a = .nilS) ∨ ∃ h, (a = .sl h 0 xs.length xs.length ∨ a = .sg h 0 xs.length 1) ∧ hget H h = some (Ib xs) ∧ lo ≤ h
section
variable {H : Hp} {a : AV} {xs : List Int} {lo : Nat}
theorem Mo.ext {H' : Hp} (m : Mo H a xs lo) (x : Ext H H') : Mo H' a xs lo := by
  rcases m with h | ⟨h, h1, h2, h3⟩
  · exact .inl h
  · exact .inr ⟨h, h1, hget_ext h2 x, h3⟩
theorem Mo.push (m : Mo H a xs lo) (b : Blk) : Mo (H ++ [b]) a xs lo := m.ext (Ext.push _ _)
theorem Mo.ints (m : Mo H a xs lo) : Ints H .i64 a xs := by
  rcases m with ⟨rfl, rfl⟩ | ⟨h, h1, h2, _⟩
  · exact Ints.nil _ _
  · rcases h1 with rfl | rfl
    · have := Ints.blk (n := xs.length) (c := xs.length) (o := 0) h2 (by decide) (by simp) (Nat.le_refl _)
      rwa [List.drop_zero, List.take_length] at this
    · exact ints_sg h2
theorem Mo.one (m : Mo H a xs lo) : a.one = true := m.ints.rd.one
theorem Mo.at_ (m : Mo H a xs lo) {k : IntKind} {i : Nat} (hi : i < xs.length) : aindexAddr Tryd.prog 22 a (.int k (i : Int)) = some (.ptr a.hd i) := by
  rcases m with ⟨rfl, rfl⟩ | ⟨h, h1, h2, _⟩
  · simp at hi
  · have h0 : (0 : Int) ≤ (i : Int) := by omega
    have h1' : (i : Int) < (xs.length : Int) := by omega
    rcases h1 with rfl | rfl
    · rw [six22 h0 h1', Int.toNat_natCast, Nat.zero_add]; rfl
    · rw [gix22 h0 h1', Int.toNat_natCast, Nat.zero_add]; rfl
theorem Mo.hd (m : Mo H a xs lo) {i : Nat} (hi : i < xs.length) : hget H a.hd = some (Ib xs) ∧ lo ≤ a.hd := by
  rcases m with ⟨rfl, rfl⟩ | ⟨h, h1, h2, h3⟩
  · simp at hi
  · rcases h1 with rfl | rfl <;> exact ⟨h2, h3⟩
theorem Mo.put (m : Mo H a xs lo) {i : Nat} (hi : i < xs.length) (v : Int) : astore Tryd.prog H 2 (.ptr a.hd i) (.int .i64 v) = some (H.set a.hd (Ib (xs.set i v))) := by
  obtain ⟨hg, _⟩ := m.hd hi
  rw [astore_ptr, hg]
  simp only [size2]
  rw [if_pos ⟨trivial, rfl, rfl, by rw [map_len]; exact hi⟩, AV.cells_int]
  congr 3
  exact splice_set _ _ _ hi
theorem Mo.set (m : Mo H a xs lo) {i : Nat} (hi : i < xs.length) {ys : List Int} (hl : ys.length = xs.length) : Mo (H.set a.hd (Ib ys)) a ys lo := by
  rcases m with ⟨rfl, rfl⟩ | ⟨h, h1, h2, h3⟩
  · simp at hi
  · refine .inr ⟨h, by rw [hl]; exact h1, ?_, h3⟩
    have e : a.hd = h := by rcases h1 with rfl | rfl <;> rfl
    rw [e, hget_set (hget_lt h2), if_pos rfl]
end
theorem MoCopy_calls (n : Int) (xs : List Int) (a : AV) (H : Hp) (ha : Ints H .i64 a xs) (hl : xs.length < 1000000) : ACalls Tryd.prog 23 [SymA n a] H fun r H' => ∃ b, r = SymA n b ∧ Mo H' b xs H.length ∧ Ext H H' := by
  rcases Nat.eq_zero_or_pos xs.length with h0 | h0
  · obtain rfl : xs = [] := List.eq_nil_of_length_eq_zero h0
    have ha1 : a.one = true := ha.rd.one
    have hc : a.cells = [a] := AV.cells_one ha1
    have g := fun (H0 : Hp) (x0 : Ext H H0) => append_none (P := Tryd.prog) (s := .nilS) (ha.ext x0).rd und22 size2 zero2 rfl (by decide) bytes2 rfl (.inl rfl)
    have g1 := fun b1 b2 => g _ ((Ext.push H b1).pushed b2)
    refine ACalls_body Tryd.func23 rfl (by kernel_rfl) (by kernel_rfl) ?_
    repeat' first
      | (with_reducible first | refine AWp_seq_k (fun K hK => ?_) | refine AWp_ret ?_ | refine AWp_regionE ?_ | refine AWp_drawE (id := 1) [] pn23_1RfN (by kernel_rfl) (by kernel_rfl) ?_)
      | (with_reducible refine And.intro ?_ ?_)
      | (simp only [thenA, inBlockA, reduceIte, Nat.reduceEqDiff])
      | ((with_reducible refine hK _ _ ?_); clear hK)
      | (simp only [ACond, RA, EAtS_def, EAtX_def, wantedA, acall, astep, ev, ofValue, ofAtom, Nat.reduceEqDiff, Nat.reduceAdd, Nat.reduceMul, Nat.reduceSub, reduceCtorEq, reduceIte, aoptEv, abin, aint, ashift, aun, astr, aeqGuard, isConstOp, aconvH, aofStr, aconvSame, isU8, abuildSlice, afill, splice, azeros, Nat.reduceLeDiff, Nat.reduceLT, Int.reduceLE, Int.reduceLT, Int.reduceEq, Int.reduceToNat, Int.reducePow, IntKind.bits, Int.reduceNeg, RB, aalloc, Go.PW.dig_length, tf23RfN, g1])
      | (simp (disch := first | omega | (simp only [RO]; done) | assumption) only [RS, six22, gix22, bst25_e, bst25_0, bst25_01])
      | (simp (disch := (first | omega | (simp only [RO]; done) | assumption | (simp only [RM, Go.PW.dig_length]; done) | (simp only [RL, Go.PW.dig_length]; omega))) only [RD, reduceCtorEq, reduceIte, Go.PW.dig_length, Nat.reduceLeDiff, Nat.reduceAdd, Nat.reduceMul, Int.reduceToNat, tf23RfN, g1])
    all_goals
      (
       (refine AEnd_gen (rs := [.cell 2 25]) rfl ?_)
       (simp only [AEndR, aresults, Fr.put_some, Fr.put_none, fr0_zero, fr0_succ, fr0_nil, Nat.reduceEqDiff, reduceIte])
       (try simp (disch := (first | omega | (simp only [RO]; done) | assumption | (simp only [RM, Go.PW.dig_length]; done) | (simp only [RL, Go.PW.dig_length]; omega))) only [RD, reduceCtorEq, reduceIte, Go.PW.dig_length, Nat.reduceLeDiff, Nat.reduceAdd, Nat.reduceMul, Int.reduceToNat, tf23RfN]))
    all_goals exact ⟨.nilS, rfl, .inl ⟨rfl, rfl⟩, (Ext.push _ _).pushed _⟩
  · exact (Copy_calls n xs a H ha h0 hl).mono fun r H' ⟨h, h1, h2, h3, h4⟩ => ⟨_, h1, .inr ⟨h, .inr rfl, h2, h3⟩, h4⟩
theorem MoNew_calls (n : Nat) (H : Hp) (h8 : n ≤ 8) : ACalls Tryd.prog 6 [.int .i64 (n : Int)] H fun r H' => ∃ b, r = SymA n b ∧ Mo H' b (List.replicate (n * (n + 1) / 2) 0) H.length ∧ Ext H H' := by
  exact (SymNew_calls n H h8).mono fun r H' ⟨h, h1, h2, h3, h4⟩ => ⟨_, h1, .inr ⟨h, .inl (by rw [List.length_replicate]), h2, h3⟩, h4⟩
end Go.Proofs.YtfalfmfkifemeaaDoor
set_option linter.unusedVariables false
set_option linter.unusedSimpArgs false
namespace Go.Proofs.YtfalfmfkifemeaaDoor
open Go.AL Go.PW Go.PD
theorem tf8RfO : type_of% (And.intro @tyb2 (And.intro @tyb3 (And.intro @tyb4 (And.intro @tyb22 (And.intro @tyb24 (@tyb25)))))) := And.intro @tyb2 (And.intro @tyb3 (And.intro @tyb4 (And.intro @tyb22 (And.intro @tyb24 (@tyb25)))))
abbrev pn8_8RfO : Plan := (.one 0 (.one 1 (.one 2 (.one 3 (.one 4 (.one 5 (.one 7 (.pur 6 (.one 8 (.one 9 .nil))))))))))
set_option maxRecDepth 8000
theorem pl_eq : ∀ n i j k l : Fin 9, i < n → j < n → k < n → l < n → (pl n.1 i.1 j.1 = pl n.1 k.1 l.1 ↔ (i = k ∧ j = l) ∨ (i = l ∧ j = k)) := by decide +kernel
theorem ent_set {n : Nat} {xs : List Int} (h8 : n ≤ 8) {i j p q : Nat} (hi : i < n) (hj : j < n) (hp : p < n) (hq : q < n) (hl : pl n i j < xs.length) (v : Int) : ent n (xs.set (pl n i j) v) p q = if (p = i ∧ q = j) ∨ (p = j ∧ q = i) then v else ent n xs p q := by
  unfold ent
  rw [getD_set _ _ hl]
  have h := pl_eq ⟨n, by omega⟩ ⟨p, by omega⟩ ⟨q, by omega⟩ ⟨i, by omega⟩ ⟨j, by omega⟩ hp hq hi hj
  simp only [Fin.mk.injEq] at h
  simp only [h]
theorem Right.set {n : Nat} {xs : List Int} (hr : Right n xs) (i : Nat) {v : Int} (hv : Fit v) : Right n (xs.set i v) := by
  refine ⟨by rw [List.length_set]; exact hr.1, fun x hx => ?_⟩
  rcases List.mem_or_eq_of_mem_set hx with h | h
  · exact hr.2 x h
  · rw [h]; exact hv
section
variable {H : Hp} {a : AV} {xs : List Int} {lo : Nat}
theorem Mo.other (m : Mo H a xs lo) {h : Nat} (hh : h < lo) (hl : h < H.length) (b : Blk) : Mo (H.set h b) a xs lo := by
  rcases m with e | ⟨k, h1, h2, h3⟩
  · exact .inl e
  · exact .inr ⟨k, h1, by rw [hget_set hl, if_neg (by omega)]; exact h2, h3⟩
theorem Mo.low (m : Mo H a xs lo) {lo' : Nat} (h : lo' ≤ lo) : Mo H a xs lo' := by
  rcases m with e | ⟨k, h1, h2, h3⟩
  · exact .inl e
  · exact .inr ⟨k, h1, h2, by omega⟩
end
/-- The block of a matrix. -/
abbrev Sb (n : Int) (a : AV) : Blk := ⟨[.int .i64 n, a], .own, 25⟩
set_option maxHeartbeats 4000000 in
theorem Set_calls (n : Nat) (xs : List Int) (a : AV) (i j : Nat) (v : Int) (H : Hp) (ha : Ints H .i64 a xs) (hr : Right n xs) (hi : i < n) (hj : j < n) (hv : Fit v) : ACalls Tryd.prog 8 [SymA n a, .int .i64 (i : Int), .int .i64 (j : Int), .int .i64 v] H fun r H' => ∃ b, r = .tup [SymA n b, .int .i64 0] ∧ Mo H' b (xs.set (pl n i j) v) H.length ∧ Ext H H' := by
  have ha1 : a.one = true := ha.rd.one
  have hc : a.cells = [a] := AV.cells_one ha1
  obtain ⟨h8, hlx⟩ := hr.len
  have hd : decide (Right n xs) = true := decide_eq_true hr
  have hpl := (hr.pl hi hj).2
  have hF := hv
  unfold Fit at hF
  refine ACalls_body Tryd.func8 rfl (by kernel_rfl) (by kernel_rfl) ?_
  refine AWp_seq_k (fun K hQ => ?_)
  repeat' first
    | (with_reducible first | refine AWp_seq_k (fun K hK => ?_) | refine AWp_skip ?_ | refine AWp_regionE ?_ | refine AWp_condI ?_)
    | ((with_reducible refine ECall_intro (symRight_calls _ _ _ _ ((ha.push _).push _) hlx) ?_); rintro _ _ ⟨rfl, rfl⟩)
    | (with_reducible refine EGuard_split (fun hc => ?_) (fun hc => ?_) <;> (try simp only [RC] at hc) <;> (try (exfalso; first | omega | contradiction)))
    | (with_reducible refine AIte (fun hc => ?_) (fun hc => ?_) <;> (try simp only [RC] at hc) <;> (try (exfalso; first | omega | contradiction)))
    | (simp only [thenA, inBlockA, reduceIte, Nat.reduceEqDiff])
    | ((with_reducible refine hK _ _ ?_); clear hK)
    | (simp only [ACond, RA, EAtS_def, EAtX_def, wantedA, acall, astep, ev, ofValue, ofAtom, Nat.reduceEqDiff, Nat.reduceAdd, Nat.reduceMul, Nat.reduceSub, reduceCtorEq, reduceIte, aoptEv, abin, aint, ashift, aun, astr, aeqGuard, isConstOp, aconvH, aofStr, aconvSame, isU8, abuildSlice, afill, splice, azeros, Nat.reduceLeDiff, Nat.reduceLT, Int.reduceLE, Int.reduceLT, Int.reduceEq, Int.reduceToNat, Int.reducePow, IntKind.bits, Int.reduceNeg, RB, aalloc, Go.PW.dig_length, tf8RfO, hd])
    | (simp (disch := first | omega | (simp only [RO]; done) | assumption) only [RS, six22, gix22, bst25_e, bst25_0, bst25_01])
    | (simp (disch := (first | omega | (simp only [RO]; done) | assumption | (simp only [RM, Go.PW.dig_length]; done) | (simp only [RL, Go.PW.dig_length]; omega))) only [RD, reduceCtorEq, reduceIte, Go.PW.dig_length, Nat.reduceLeDiff, Nat.reduceAdd, Nat.reduceMul, Int.reduceToNat, tf8RfO, hd])
  refine hQ _ _ ?_
  clear hQ
  refine AWp_seq_k (fun K hQ => ?_)
  repeat' first
    | (with_reducible first | refine AWp_seq_k (fun K hK => ?_) | refine AWp_skip ?_ | refine AWp_regionE ?_ | refine AWp_condI ?_)
    | ((with_reducible refine ECall_intro (symRight_calls _ _ _ _ ((ha.push _).push _) hlx) ?_); rintro _ _ ⟨rfl, rfl⟩)
    | (with_reducible refine EGuard_split (fun hc => ?_) (fun hc => ?_) <;> (try simp only [RC] at hc) <;> (try (exfalso; first | omega | contradiction)))
    | (with_reducible refine AIte (fun hc => ?_) (fun hc => ?_) <;> (try simp only [RC] at hc) <;> (try (exfalso; first | omega | contradiction)))
    | (simp only [thenA, inBlockA, reduceIte, Nat.reduceEqDiff])
    | ((with_reducible refine hK _ _ ?_); clear hK)
    | (simp only [ACond, RA, EAtS_def, EAtX_def, wantedA, acall, astep, ev, ofValue, ofAtom, Nat.reduceEqDiff, Nat.reduceAdd, Nat.reduceMul, Nat.reduceSub, reduceCtorEq, reduceIte, aoptEv, abin, aint, ashift, aun, astr, aeqGuard, isConstOp, aconvH, aofStr, aconvSame, isU8, abuildSlice, afill, splice, azeros, Nat.reduceLeDiff, Nat.reduceLT, Int.reduceLE, Int.reduceLT, Int.reduceEq, Int.reduceToNat, Int.reducePow, IntKind.bits, Int.reduceNeg, RB, aalloc, Go.PW.dig_length, tf8RfO, hd])
    | (simp (disch := first | omega | (simp only [RO]; done) | assumption) only [RS, six22, gix22, bst25_e, bst25_0, bst25_01])
    | (simp (disch := (first | omega | (simp only [RO]; done) | assumption | (simp only [RM, Go.PW.dig_length]; done) | (simp only [RL, Go.PW.dig_length]; omega))) only [RD, reduceCtorEq, reduceIte, Go.PW.dig_length, Nat.reduceLeDiff, Nat.reduceAdd, Nat.reduceMul, Int.reduceToNat, tf8RfO, hd])
  refine hQ _ _ ?_
  clear hQ
  refine AWp_seq_k (fun K hQ => ?_)
  repeat' first
    | (with_reducible first | refine AWp_seq_k (fun K hK => ?_) | refine AWp_skip ?_ | refine AWp_regionE ?_ | refine AWp_condI ?_)
    | ((with_reducible refine ECall_intro (symRight_calls _ _ _ _ ((ha.push _).push _) hlx) ?_); rintro _ _ ⟨rfl, rfl⟩)
    | (with_reducible refine EGuard_split (fun hc => ?_) (fun hc => ?_) <;> (try simp only [RC] at hc) <;> (try (exfalso; first | omega | contradiction)))
    | (with_reducible refine AIte (fun hc => ?_) (fun hc => ?_) <;> (try simp only [RC] at hc) <;> (try (exfalso; first | omega | contradiction)))
    | (simp only [thenA, inBlockA, reduceIte, Nat.reduceEqDiff])
    | ((with_reducible refine hK _ _ ?_); clear hK)
    | (simp only [ACond, RA, EAtS_def, EAtX_def, wantedA, acall, astep, ev, ofValue, ofAtom, Nat.reduceEqDiff, Nat.reduceAdd, Nat.reduceMul, Nat.reduceSub, reduceCtorEq, reduceIte, aoptEv, abin, aint, ashift, aun, astr, aeqGuard, isConstOp, aconvH, aofStr, aconvSame, isU8, abuildSlice, afill, splice, azeros, Nat.reduceLeDiff, Nat.reduceLT, Int.reduceLE, Int.reduceLT, Int.reduceEq, Int.reduceToNat, Int.reducePow, IntKind.bits, Int.reduceNeg, RB, aalloc, Go.PW.dig_length, tf8RfO, hd])
    | (simp (disch := first | omega | (simp only [RO]; done) | assumption) only [RS, six22, gix22, bst25_e, bst25_0, bst25_01])
    | (simp (disch := (first | omega | (simp only [RO]; done) | assumption | (simp only [RM, Go.PW.dig_length]; done) | (simp only [RL, Go.PW.dig_length]; omega))) only [RD, reduceCtorEq, reduceIte, Go.PW.dig_length, Nat.reduceLeDiff, Nat.reduceAdd, Nat.reduceMul, Int.reduceToNat, tf8RfO, hd])
  refine hQ _ _ ?_
  clear hQ
  refine AWp_seq_k (fun K hQ => ?_)
  repeat' first
    | (with_reducible first | refine AWp_seq_k (fun K hK => ?_) | refine AWp_skip ?_ | refine AWp_regionE ?_ | refine AWp_condI ?_)
    | ((with_reducible refine ECall_intro (symRight_calls _ _ _ _ ((ha.push _).push _) hlx) ?_); rintro _ _ ⟨rfl, rfl⟩)
    | (with_reducible refine EGuard_split (fun hc => ?_) (fun hc => ?_) <;> (try simp only [RC] at hc) <;> (try (exfalso; first | omega | contradiction)))
    | (with_reducible refine AIte (fun hc => ?_) (fun hc => ?_) <;> (try simp only [RC] at hc) <;> (try (exfalso; first | omega | contradiction)))
    | (simp only [thenA, inBlockA, reduceIte, Nat.reduceEqDiff])
    | ((with_reducible refine hK _ _ ?_); clear hK)
    | (simp only [ACond, RA, EAtS_def, EAtX_def, wantedA, acall, astep, ev, ofValue, ofAtom, Nat.reduceEqDiff, Nat.reduceAdd, Nat.reduceMul, Nat.reduceSub, reduceCtorEq, reduceIte, aoptEv, abin, aint, ashift, aun, astr, aeqGuard, isConstOp, aconvH, aofStr, aconvSame, isU8, abuildSlice, afill, splice, azeros, Nat.reduceLeDiff, Nat.reduceLT, Int.reduceLE, Int.reduceLT, Int.reduceEq, Int.reduceToNat, Int.reducePow, IntKind.bits, Int.reduceNeg, RB, aalloc, Go.PW.dig_length, tf8RfO, hd])
    | (simp (disch := first | omega | (simp only [RO]; done) | assumption) only [RS, six22, gix22, bst25_e, bst25_0, bst25_01])
    | (simp (disch := (first | omega | (simp only [RO]; done) | assumption | (simp only [RM, Go.PW.dig_length]; done) | (simp only [RL, Go.PW.dig_length]; omega))) only [RD, reduceCtorEq, reduceIte, Go.PW.dig_length, Nat.reduceLeDiff, Nat.reduceAdd, Nat.reduceMul, Int.reduceToNat, tf8RfO, hd])
  refine hQ _ _ ?_
  clear hQ
  refine AWp_seq_k (fun K2 hK2 => ?_)
  refine AWp_cut (fun fr' H1 => ∃ b, fr' 1 = .int .i64 (i : Int) ∧ fr' 2 = .int .i64 (j : Int) ∧ fr' 3 = .int .i64 v ∧ fr' 4 = .ptr H.length 0 ∧ fr' 8 = .ptr (H.length + 1) 0 ∧ hget H1 H.length = some (Sb n b) ∧ hget H1 (H.length + 1) = some (Sb 0 .nilS) ∧ Mo H1 b xs (H.length + 2) ∧ Ext H H1) ?_ (fun fr' H1 h => hK2 _ _ ?_)
  · clear hK2
    repeat' first
      | (with_reducible first | refine AWp_regionE ?_)
      | (simp only [thenA, inBlockA, reduceIte, Nat.reduceEqDiff])
      | (simp only [ACond, RA, EAtS_def, EAtX_def, wantedA, acall, astep, ev, ofValue, ofAtom, Nat.reduceEqDiff, Nat.reduceAdd, Nat.reduceMul, Nat.reduceSub, reduceCtorEq, reduceIte, aoptEv, abin, aint, ashift, aun, astr, aeqGuard, isConstOp, aconvH, aofStr, aconvSame, isU8, abuildSlice, afill, splice, azeros, Nat.reduceLeDiff, Nat.reduceLT, Int.reduceLE, Int.reduceLT, Int.reduceEq, Int.reduceToNat, Int.reducePow, IntKind.bits, Int.reduceNeg, RB, aalloc, Go.PW.dig_length, tf8RfO])
      | (simp (disch := (first | omega | (simp only [RO]; done) | assumption | (simp only [RM, Go.PW.dig_length]; done) | (simp only [RL, Go.PW.dig_length]; omega))) only [RD, reduceCtorEq, reduceIte, Go.PW.dig_length, Nat.reduceLeDiff, Nat.reduceAdd, Nat.reduceMul, Int.reduceToNat, tf8RfO])
    refine ECall_intro (MoCopy_calls n xs a _ ((ha.push _).push _) hlx) ?_
    rintro _ H2 ⟨b, rfl, m, x2⟩
    have hb1 := m.one
    have hcb : b.cells = [b] := AV.cells_one hb1
    have q4 : hget H2 H.length = some (Sb n a) := hget_ext (by rw [hget_old (by simp), hget_at rfl]) x2
    have q8 : hget H2 (H.length + 1) = some (Sb 0 .nilS) := hget_ext (hget_at (by simp)) x2
    have l4 := hget_lt q4
    have m2 : Mo H2 b xs (H.length + 2) := m.low (by simp)
    repeat' first
      | (simp only [thenA, inBlockA, reduceIte, Nat.reduceEqDiff])
      | (simp only [ACond, RA, EAtS_def, EAtX_def, wantedA, acall, astep, ev, ofValue, ofAtom, Nat.reduceEqDiff, Nat.reduceAdd, Nat.reduceMul, Nat.reduceSub, reduceCtorEq, reduceIte, aoptEv, abin, aint, ashift, aun, astr, aeqGuard, isConstOp, aconvH, aofStr, aconvSame, isU8, abuildSlice, afill, splice, azeros, Nat.reduceLeDiff, Nat.reduceLT, Int.reduceLE, Int.reduceLT, Int.reduceEq, Int.reduceToNat, Int.reducePow, IntKind.bits, Int.reduceNeg, RB, aalloc, Go.PW.dig_length, tf8RfO, q4])
      | (simp (disch := first | omega | (simp only [RO]; done) | assumption) only [RS, six22, gix22, bst25_e, bst25_0, bst25_01])
      | (simp (disch := (first | omega | (simp only [RO]; done) | assumption | (simp only [RM, Go.PW.dig_length]; done) | (simp only [RL, Go.PW.dig_length]; omega))) only [RD, reduceCtorEq, reduceIte, Go.PW.dig_length, Nat.reduceLeDiff, Nat.reduceAdd, Nat.reduceMul, Int.reduceToNat, tf8RfO, q4])
    all_goals
      exact ⟨b, by rw [hget_set l4, if_pos rfl], by rw [hget_set l4, if_neg (by omega)]; exact q8, m2.other (by omega) l4 _, (((Ext.push _ _).pushed _).trans x2).set (by omega) _⟩
  clear hK2
  obtain ⟨b, k1, k2, k3, k4, k8, q4, q8, m, x1⟩ := h
  have hb1 := m.one
  have hcb : b.cells = [b] := AV.cells_one hb1
  have hat := m.at_ (k := .i64) (i := pl n i j) (by omega)
  have hput := m.put (i := pl n i j) (by omega) v
  obtain ⟨g1, g2⟩ := m.hd (i := pl n i j) (by omega)
  have lb := hget_lt g1
  have l8 := hget_lt q8
  have hs1 : ∀ blk k, hget (H1.set b.hd blk) k = if k = b.hd then some blk else hget H1 k := fun blk k => hget_set lb blk k
  have n1 : (H.length = b.hd) = False := eq_false (by omega)
  have n2 : (H.length + 1 = b.hd) = False := eq_false (by omega)
  repeat' first
    | (with_reducible first | refine AWp_seq_k (fun K hK => ?_) | refine AWp_ret ?_ | refine AWp_regionE ?_ | refine AWp_drawE (id := 8) [6] pn8_8RfO (by kernel_rfl) (by kernel_rfl) ?_ | refine Run_pur ?_)
    | (with_reducible refine EPure_intro (fun _ x => (at_calls _ _ _ _ h8 hi hj)) ?_)
    | (simp only [thenA, inBlockA, reduceIte, Nat.reduceEqDiff])
    | ((with_reducible refine hK _ _ ?_); clear hK)
    | (simp only [ACond, RA, EAtS_def, EAtX_def, wantedA, acall, astep, ev, ofValue, ofAtom, Nat.reduceEqDiff, Nat.reduceAdd, Nat.reduceMul, Nat.reduceSub, reduceCtorEq, reduceIte, aoptEv, abin, aint, ashift, aun, astr, aeqGuard, isConstOp, aconvH, aofStr, aconvSame, isU8, abuildSlice, afill, splice, azeros, Nat.reduceLeDiff, Nat.reduceLT, Int.reduceLE, Int.reduceLT, Int.reduceEq, Int.reduceToNat, Int.reducePow, IntKind.bits, Int.reduceNeg, RB, aalloc, Go.PW.dig_length, tf8RfO, k1, k2, k3, k4, k8, q4, q8, hat, hput, hs1, n1, n2])
    | (simp (disch := first | omega | (simp only [RO]; done) | assumption) only [RS, six22, gix22, bst25_e, bst25_0, bst25_01])
    | (simp (disch := (first | omega | (simp only [RO]; done) | assumption | (simp only [RM, Go.PW.dig_length]; done) | (simp only [RL, Go.PW.dig_length]; omega))) only [RD, reduceCtorEq, reduceIte, Go.PW.dig_length, Nat.reduceLeDiff, Nat.reduceAdd, Nat.reduceMul, Int.reduceToNat, tf8RfO, k1, k2, k3, k4, k8, q4, q8, hat, hput, hs1, n1, n2])
  have l8' : H.length + 1 < (H1.set b.hd (Ib (xs.set (pl n i j) v))).length := by rw [List.length_set]; exact l8
  all_goals
    (
     (refine AEnd_gen (rs := [.cell 8 25, .tmp 9]) rfl ?_)
     (simp only [AEndR, aresults, Fr.put_some, Fr.put_none, fr0_zero, fr0_succ, fr0_nil, Nat.reduceEqDiff, reduceIte, k8, hget_set l8'])
     (try simp (disch := (first | omega | (simp only [RO]; done) | assumption | (simp only [RM, Go.PW.dig_length]; done) | (simp only [RL, Go.PW.dig_length]; omega))) only [RD, reduceCtorEq, reduceIte, Go.PW.dig_length, Nat.reduceLeDiff, Nat.reduceAdd, Nat.reduceMul, Int.reduceToNat, tf8RfO, k8, hget_set l8']))
  all_goals exact ⟨b, rfl, ((m.set (by omega) (by rw [List.length_set])).other (by omega) l8' _).low (by omega), (x1.set (by omega) _).set (by omega) _⟩
end Go.Proofs.YtfalfmfkifemeaaDoor
set_option linter.unusedVariables false
set_option linter.unusedSimpArgs false
namespace Go.Proofs.YtfalfmfkifemeaaDoor
open Go.AL Go.PW Go.PD
set_option maxRecDepth 8000
theorem Bs_.cells {H : Hp} {s : AV} {x : Int} (h : Bs_ H s x) : s.cells = [s] := AV.cells_one h.one
end Go.Proofs.YtfalfmfkifemeaaDoor
set_option linter.unusedVariables false
set_option linter.unusedSimpArgs false
namespace Go.Proofs.YtfalfmfkifemeaaDoor
open Go.AL Go.PW Go.PD
theorem tf33RfS : type_of% (And.intro @tyb3 (And.intro @tyb4 (And.intro @tyb27 (And.intro @tyb28 (And.intro @tyb29 (And.intro @tyb34 (And.intro @tyb35 (@tyb36)))))))) := And.intro @tyb3 (And.intro @tyb4 (And.intro @tyb27 (And.intro @tyb28 (And.intro @tyb29 (And.intro @tyb34 (And.intro @tyb35 (@tyb36)))))))
abbrev pn33_3RfS : Plan := (.one 0 (.one 1 (.one 2 (.one 3 (.one 4 (.one 5 (.one 6 (.one 7 (.one 8 (.one 9 (.one 10 (.one 11 (.one 12 (.ext 13 (.one 14 (.one 15 (.one 16 (.one 17 (.one 18 .nil)))))))))))))))))))
abbrev pn33_5RfS : Plan := (.one 0 (.one 1 (.one 2 (.one 3 .nil))))
set_option maxRecDepth 8000
theorem set_same {H : Hp} {h : Nat} {b : Blk} (hg : hget H h = some b) : H.set h b = H := by
  apply List.ext_getElem?
  intro k
  rw [List.getElem?_set]
  by_cases e : h = k
  · subst e
    have hl := hget_lt hg
    rw [if_pos rfl, if_pos hl]
    exact hg.symm
  · rw [if_neg e]
theorem copy_limbs {H : Hp} {h : Nat} {xs : List Int} {s : AV} (hg : hget H h = some (Wb 0)) (hs : Ints H .u64 s xs) (hL : Limbs xs) (hl : xs.length ≤ 16) : acopy Tryd.prog H 27 (.sl h 0 16 16) s = some (.int .i64 (xs.length : Nat), H.set h (Wb (val xs))) := by
  have hm : min xs.length 16 = xs.length := by omega
  unfold acopy
  simp only [und27, size34, hs.rd.row, hm]
  by_cases h0 : xs.length = 0
  · rw [if_pos h0]
    obtain rfl : xs = [] := List.eq_nil_of_length_eq_zero h0
    rw [show val [] = 0 from rfl, set_same hg]
    rfl
  · rw [if_neg h0]
    simp only [hg]
    have hb := val_bound hL
    have hb2 : Bs ^ xs.length ≤ Bs ^ 16 := pow_mono (by omega)
    have hz : ∀ k, val ((dig 16 0).drop k) = 0 := fun k => by
      have h1 := val_take_drop (dig 16 0) k
      have h2 : val (dig 16 0) = 0 := by rw [val_dig]; rfl
      have h3 := val_bound ((dig_limbs 16 0).take k)
      have h4 := val_bound ((dig_limbs 16 0).drop k)
      have h5 := Bs_pow_pos (min k (dig 16 0).length)
      rcases Int.lt_or_le 0 (val ((dig 16 0).drop k)) with h | h
      · have := Int.mul_pos h5 h; omega
      · omega
    have hd : xs ++ (dig 16 0).drop xs.length = dig 16 (val xs) := by
      refine dig_of_val (Limbs.append.2 ⟨hL, (dig_limbs 16 0).drop _⟩) (by rw [List.length_append, List.length_drop, dig_length]; omega) ?_
      rw [val_append, hz, Int.mul_zero, Int.add_zero, Int.emod_eq_of_lt hb.1 (by omega)]
    have hsp : splice ((dig 16 0).map (AV.int .u64)) 0 ((xs.map (AV.int .u64)).take (xs.length * 1)) = (dig 16 (val xs)).map (AV.int .u64) := by
      rw [List.take_of_length_le (by rw [List.length_map]; omega)]
      simp only [splice, List.take_zero, List.nil_append, List.length_map, Nat.zero_add]
      rw [← List.map_drop, ← List.map_append, hd]
    have hlen : ((dig 16 0).map (AV.int .u64)).length = 16 := by rw [List.length_map, dig_length]
    rw [if_pos ⟨trivial, ints_one _ _, by rw [hlen]; omega, by decide⟩, hsp]
theorem foldr_true {α : Type} {f : α → Option Bool → Option Bool} : ∀ {l : List α}, (∀ a ∈ l, f a (some true) = some true) → l.foldr f (some true) = some true
  | [], _ => rfl
  | a :: l, h => by
    rw [List.foldr_cons, foldr_true (fun b hb => h b (by simp [hb])), h a (by simp)]
theorem eq_wide (x : Int) : aeqIn Tryd.prog Op.maxDepth 36 (W x) (W x) = some true := by
  have h : ∀ d, aeqIn Tryd.prog (d + 1 + 1) 36 (W x) (W x) = some true := by
    intro d
    unfold W
    unfold aeqIn
    simp only [und36, size34]
    refine foldr_true fun i hi => ?_
    have hi := List.mem_range.1 hi
    have e : apart Tryd.prog 34 ((dig 16 x).map (AV.int .u64)) (i * 1) = some (.int .u64 ((dig 16 x).getD i 0)) := by
      unfold apart
      simp only [agg34]
      rw [Nat.mul_one]
      exact map_get (AV.int .u64) (dig 16 x) 0 (by rw [dig_length]; omega)
    rw [e]
    simp only [aeqIn, und34, if_true, beq_self_eq_true, Bool.and_self]
  exact h (Op.maxDepth - 2)
theorem Can.at_most {xs : List Int} (c : Can xs) {k : Nat} (h : val xs < Bs ^ k) : xs.length ≤ k := by
  rcases Nat.lt_or_ge k xs.length with h1 | h1
  · have h2 := c.low (by omega)
    have h3 : Bs ^ k ≤ Bs ^ (xs.length - 1) := pow_mono (by omega)
    omega
  · exact h1
set_option maxHeartbeats 4000000 in
theorem ToWide_calls (x : Int) (s : AV) (H : Hp) (hs : Bs_ H s x) (hx : (x.natAbs : Int) < Bs ^ 15) : ACalls Tryd.prog 33 [BV x s] H fun r H' => r = .tup [W x, .bool true] ∧ H = H' := by
  refine ACalls.drop (R := fun r => r = .tup [W x, .bool true]) ?_
  obtain ⟨xs, u, c, vx⟩ := hs.ex
  have hs1 := hs.one
  have hc1 : s.cells = [s] := hs.cells
  have hl := c.at_most (k := 15) (by rw [vx]; exact hx)
  have hbits : bits_ xs ≤ 960 := by
    unfold bits_
    split
    · omega
    · have hb := c.lim.get (xs.length - 1)
      have : bl (xs.getD (xs.length - 1) 0).toNat ≤ 64 := bl_le (by simp only [Bs] at hb; omega)
      omega
  have f1 : (((bits_ xs : Nat) : Int) > 1024) = False := eq_false (by omega)
  have f2 : (((bits_ xs : Nat) : Int) = 1024) = False := eq_false (by omega)
  have hcp := copy_limbs (H := H ++ [⟨[.bool (decide (x < 0)), s], .own, 29⟩] ++ [Wb 0] ++ [Wb 0]) (h := H.length + 1 + 1) (hget_at (by simp)) (u.rd.ext (ext5 _ _ _)) c.lim (by omega)
  rw [List.set_append_right _ _ (by simp), vx] at hcp
  simp only [List.length_append, List.length_cons, List.length_nil, Nat.zero_add, Nat.sub_self, List.set_cons_zero] at hcp
  have hb15 : Bs ^ 15 ≤ Bs ^ 16 := pow_mono (by omega)
  have hsz := fun H0 (x0 : Ext H H0) => size_calls s xs H0 (u.rd.ext x0) c
  refine ACalls_body Tryd.func33 rfl (by kernel_rfl) (by kernel_rfl) ?_
  by_cases hn : x < 0
  · have e1 : decide (x < 0) = true := decide_eq_true hn
    rw [e1] at hcp
    repeat' first
      | (with_reducible first | refine AWp_seq_k (fun K hK => ?_) | refine AWp_block ?_ | refine AWp_skip ?_ | refine AWp_regionE ?_ | refine AWp_drawE (id := 3) [13] pn33_3RfS (by kernel_rfl) (by kernel_rfl) ?_ | refine AWp_drawE (id := 5) [] pn33_5RfS (by kernel_rfl) (by kernel_rfl) ?_ | refine AWp_condI ?_ | refine Run_ext ?_)
      | ((with_reducible refine ECall_intro (hsz _ ((Ext.push _ _).pushed _)) ?_); rintro _ _ ⟨rfl, rfl⟩)
      | (with_reducible refine EGuard_split (fun hc => ?_) (fun hc => ?_) <;> (try simp only [RC] at hc) <;> (try (exfalso; first | omega | contradiction)))
      | (simp only [thenA, inBlockA, reduceIte, Nat.reduceEqDiff])
      | ((with_reducible refine hK _ _ ?_); clear hK)
      | (simp only [ACond, RA, EAtS_def, EAtX_def, wantedA, acall, astep, ev, ofValue, ofAtom, Nat.reduceEqDiff, Nat.reduceAdd, Nat.reduceMul, Nat.reduceSub, reduceCtorEq, reduceIte, aoptEv, abin, aint, ashift, aun, astr, aeqGuard, isConstOp, aconvH, aofStr, aconvSame, isU8, abuildSlice, afill, splice, azeros, Nat.reduceLeDiff, Nat.reduceLT, Int.reduceLE, Int.reduceLT, Int.reduceEq, Int.reduceToNat, Int.reducePow, IntKind.bits, Int.reduceNeg, RB, aalloc, Go.PW.dig_length, tf33RfS, f1, f2, hcp, e1])
      | (simp (disch := first | omega | (simp only [RO]; done) | assumption) only [RS, six27, gix27, idx35, slh35, idx36, slh36, bst29_01])
      | (simp (disch := (first | omega | (simp only [RO]; done) | assumption | (simp only [RM, Go.PW.dig_length]; done) | (simp only [RL, Go.PW.dig_length]; omega))) only [RD, reduceCtorEq, reduceIte, Go.PW.dig_length, Nat.reduceLeDiff, Nat.reduceAdd, Nat.reduceMul, Int.reduceToNat, tf33RfS, f1, f2, hcp, e1])
    obtain ⟨N, hN⟩ : ∃ N : Int, N = x.natAbs := ⟨_, rfl⟩
    rw [← hN]
    have hNx : x = -N := by omega
    have hN0 : 0 < N ∧ N < Bs ^ 16 := by omega
    have hvN : val (dig 16 N) = N := by rw [val_dig, Int.emod_eq_of_lt (by omega) hN0.2]
    refine AWp_loop (fun m fr' H1 => ∃ (i : Nat) (ys : List Int) (cc : Int), m = 16 - i ∧ i ≤ 16 ∧ fr' 2 = .ptr (H.length + 1) 0 ∧ fr' 5 = .ptr (H.length + 1 + 1) 0 ∧ fr' 6 = .int .u64 cc ∧ fr' 7 = .int .i64 (i : Int) ∧ (0 ≤ cc ∧ cc ≤ 1) ∧ ys.length = 16 ∧ Limbs ys ∧ (∀ k, i ≤ k → ys.getD k 0 = (dig 16 N).getD k 0) ∧
        val (ys.take i) + Bs ^ i * cc = Bs ^ i - val ((dig 16 N).take i) ∧ H ++ [⟨[.bool true, s], .own, 29⟩] ++ [Wb 0] ++ [⟨ys.map (AV.int .u64), .own, 36⟩] = H1) (m := 16)
      ⟨0, dig 16 N, 1, by omega, by omega, rfl, rfl, rfl, rfl, ⟨by omega, by omega⟩, dig_length _ _, dig_limbs _ _, fun _ _ => rfl, by simp [val], rfl⟩ ?_
    rintro m fr' H1 ⟨i, ys, cc, rfl, hi, k2, k5, k6, k7, hcc, hyl, hys, hyk, hy, rfl⟩
    by_cases hlt : i < 16
    · have hd := hys.get i
      have e1 : IntKind.i64.wrap ((i : Int) + 1) = ((i + 1 : Nat) : Int) := by rw [wrap_i64_id (by omega) (by omega)]; omega
      have hnn : 0 ≤ Bs - 1 - ys.getD i 0 := by omega
      repeat' first
        | (with_reducible first | refine AWp_seq_k (fun K hK => ?_) | refine AWp_block ?_ | refine AWp_skip ?_ | refine AWp_regionE ?_ | refine AWp_condI ?_)
        | ((with_reducible refine ECall_introX (add64 _ _ _ _ hnn (by decide) hcc) ?_); rintro _ _ ⟨rfl, rfl⟩)
        | (with_reducible refine AIte (fun hc => ?_) (fun hc => ?_) <;> (try simp only [RC] at hc) <;> (try (exfalso; first | omega | contradiction)))
        | (simp only [thenA, inBlockA, reduceIte, Nat.reduceEqDiff])
        | ((with_reducible refine hK _ _ ?_); clear hK)
        | (simp only [ACond, RA, EAtS_def, EAtX_def, wantedA, acall, astep, ev, ofValue, ofAtom, Nat.reduceEqDiff, Nat.reduceAdd, Nat.reduceMul, Nat.reduceSub, reduceCtorEq, reduceIte, aoptEv, abin, aint, ashift, aun, astr, aeqGuard, isConstOp, aconvH, aofStr, aconvSame, isU8, abuildSlice, afill, splice, azeros, Nat.reduceLeDiff, Nat.reduceLT, Int.reduceLE, Int.reduceLT, Int.reduceEq, Int.reduceToNat, Int.reducePow, IntKind.bits, Int.reduceNeg, RB, aalloc, Go.PW.dig_length, tf33RfS, k2, k5, k6, k7, e1, not64 hd.1 hd.2])
        | (simp (disch := first | omega | (simp only [RO]; done) | assumption) only [RS, hyl, six27, gix27, idx35, slh35, idx36, slh36, bst29_01])
        | (simp (disch := (first | omega | (simp only [RO]; done) | assumption | (simp only [RM, Go.PW.dig_length]; done) | (simp only [RL, Go.PW.dig_length]; omega))) only [RD, reduceCtorEq, reduceIte, Go.PW.dig_length, Nat.reduceLeDiff, Nat.reduceAdd, Nat.reduceMul, Int.reduceToNat, tf33RfS, k2, k5, k6, k7, e1, not64 hd.1 hd.2])
      all_goals
        generalize hS : Bs - 1 - ys.getD i 0 + 0 + cc = S
        have hS0 : 0 ≤ S ∧ S < 2 * Bs := by simp only [Bs] at *; omega
        have hm := Int.emod_add_mul_ediv S Bs
        have hm0 := Int.emod_nonneg S (b := Bs) (by decide)
        have hm1 := Int.emod_lt_of_pos S (b := Bs) (by decide)
        have hq : 0 ≤ S / Bs ∧ S / Bs ≤ 1 := by simp only [Bs] at *; omega
        refine ⟨_, by omega, i + 1, ys.set i (S % Bs), _, rfl, by omega, rfl, rfl, hq, by rw [List.length_set]; exact hyl, hys.set i ⟨hm0, hm1⟩, fun k hk => ?_, ?_, rfl⟩
        · rw [getD_set _ _ (by omega), if_neg (by omega)]; exact hyk k (by omega)
        · have hv := val_take_succ (dig 16 N) (i := i) (by rw [dig_length]; exact hlt)
          have hv2 := val_take_succ (ys.set i (S % Bs)) (i := i) (by rw [List.length_set]; omega)
          rw [getD_set _ _ (by omega), if_pos rfl, List.take_set_of_le (Nat.le_refl _)] at hv2
          rw [hv, hv2, Int.pow_succ, ← hyk i (Nat.le_refl _)]
          have : ys.getD i 0 = Bs - 1 + cc - S := by omega
          rw [this]
          generalize Bs ^ i = p at *
          have h9 : p * S = p * (S % Bs) + p * Bs * (S / Bs) := by rw [Int.mul_assoc, ← Int.mul_add, hm]
          generalize Bs = B at *
          grind
    · obtain rfl : i = 16 := by omega
      repeat' first
        | (with_reducible first | refine AWp_seq_k (fun K hK => ?_) | refine AWp_exit ?_ | refine AWp_ret ?_ | refine AWp_regionE ?_ | refine AWp_condI ?_)
        | (simp only [thenA, inBlockA, reduceIte, Nat.reduceEqDiff])
        | ((with_reducible refine hK _ _ ?_); clear hK)
        | (clear hK; (with_reducible refine hK _ _ ?_); clear hK)
        | (simp only [ACond, RA, EAtS_def, EAtX_def, wantedA, acall, astep, ev, ofValue, ofAtom, Nat.reduceEqDiff, Nat.reduceAdd, Nat.reduceMul, Nat.reduceSub, reduceCtorEq, reduceIte, aoptEv, abin, aint, ashift, aun, astr, aeqGuard, isConstOp, aconvH, aofStr, aconvSame, isU8, abuildSlice, afill, splice, azeros, Nat.reduceLeDiff, Nat.reduceLT, Int.reduceLE, Int.reduceLT, Int.reduceEq, Int.reduceToNat, Int.reducePow, IntKind.bits, Int.reduceNeg, RB, aalloc, Go.PW.dig_length, tf33RfS, k2, k5, k6, k7])
        | (simp (disch := (first | omega | (simp only [RO]; done) | assumption | (simp only [RM, Go.PW.dig_length]; done) | (simp only [RL, Go.PW.dig_length]; omega))) only [RD, reduceCtorEq, reduceIte, Go.PW.dig_length, Nat.reduceLeDiff, Nat.reduceAdd, Nat.reduceMul, Int.reduceToNat, tf33RfS, k2, k5, k6, k7])
      all_goals
        (
         (refine AEnd_gen (rs := [.cell 2 36, .tmp 3]) rfl ?_)
         (simp only [AEndR, aresults, Fr.put_some, Fr.put_none, fr0_zero, fr0_succ, fr0_nil, Nat.reduceEqDiff, reduceIte, k2])
         (try simp (disch := (first | omega | (simp only [RO]; done) | assumption | (simp only [RM, Go.PW.dig_length]; done) | (simp only [RL, Go.PW.dig_length]; omega))) only [RD, reduceCtorEq, reduceIte, Go.PW.dig_length, Nat.reduceLeDiff, Nat.reduceAdd, Nat.reduceMul, Int.reduceToNat, tf33RfS, k2]))
      have e1 : ys.take 16 = ys := List.take_of_length_le (by omega)
      have e2 : (dig 16 N).take 16 = dig 16 N := List.take_of_length_le (by rw [dig_length]; omega)
      rw [e1, e2, hvN] at hy
      have h1 := val_bound hys
      rw [hyl] at h1
      have hc0 : cc = 0 := by
        rcases Int.lt_or_le cc 1 with h | h
        · omega
        · exfalso
          obtain rfl : cc = 1 := by omega
          omega
      rw [hc0] at hy
      have hyd : ys = dig 16 x := by
        refine dig_of_val hys hyl ?_
        have : x = val ys + Bs ^ 16 * (-1) := by omega
        rw [this, Int.add_mul_emod_self_left, Int.emod_eq_of_lt h1.1 h1.2]
      all_goals
        refine ⟨((Ext.push _ _).pushed _).pushed _, ?_, ?_⟩
        · first | exact W_tupb_lt _ _ _ | (rw [hyd]; exact W_tupb_lt _ _ _) | simp [AV.lt, AV.lts, AV.lts_iff]
        · rw [hyd]
  · have e1 : decide (x < 0) = false := decide_eq_false hn
    rw [e1] at hcp
    repeat' first
      | (with_reducible first | refine AWp_seq_k (fun K hK => ?_) | refine AWp_skip ?_ | refine AWp_ret ?_ | refine AWp_regionE ?_ | refine AWp_drawE (id := 3) [13] pn33_3RfS (by kernel_rfl) (by kernel_rfl) ?_ | refine AWp_drawE (id := 5) [] pn33_5RfS (by kernel_rfl) (by kernel_rfl) ?_ | refine AWp_condI ?_ | refine Run_ext ?_)
      | ((with_reducible refine ECall_intro (hsz _ ((Ext.push _ _).pushed _)) ?_); rintro _ _ ⟨rfl, rfl⟩)
      | (with_reducible refine EGuard_split (fun hc => ?_) (fun hc => ?_) <;> (try simp only [RC] at hc) <;> (try (exfalso; first | omega | contradiction)))
      | (simp only [thenA, inBlockA, reduceIte, Nat.reduceEqDiff])
      | ((with_reducible refine hK _ _ ?_); clear hK)
      | (simp only [ACond, RA, EAtS_def, EAtX_def, wantedA, acall, astep, ev, ofValue, ofAtom, Nat.reduceEqDiff, Nat.reduceAdd, Nat.reduceMul, Nat.reduceSub, reduceCtorEq, reduceIte, aoptEv, abin, aint, ashift, aun, astr, aeqGuard, isConstOp, aconvH, aofStr, aconvSame, isU8, abuildSlice, afill, splice, azeros, Nat.reduceLeDiff, Nat.reduceLT, Int.reduceLE, Int.reduceLT, Int.reduceEq, Int.reduceToNat, Int.reducePow, IntKind.bits, Int.reduceNeg, RB, aalloc, Go.PW.dig_length, tf33RfS, f1, f2, hcp, e1])
      | (simp (disch := first | omega | (simp only [RO]; done) | assumption) only [RS, six27, gix27, idx35, slh35, idx36, slh36, bst29_01])
      | (simp (disch := (first | omega | (simp only [RO]; done) | assumption | (simp only [RM, Go.PW.dig_length]; done) | (simp only [RL, Go.PW.dig_length]; omega))) only [RD, reduceCtorEq, reduceIte, Go.PW.dig_length, Nat.reduceLeDiff, Nat.reduceAdd, Nat.reduceMul, Int.reduceToNat, tf33RfS, f1, f2, hcp, e1])
    all_goals
      (
       (refine AEnd_gen (rs := [.cell 2 36, .tmp 3]) rfl ?_)
       (simp only [AEndR, aresults, Fr.put_some, Fr.put_none, fr0_zero, fr0_succ, fr0_nil, Nat.reduceEqDiff, reduceIte])
       (try simp (disch := (first | omega | (simp only [RO]; done) | assumption | (simp only [RM, Go.PW.dig_length]; done) | (simp only [RL, Go.PW.dig_length]; omega))) only [RD, reduceCtorEq, reduceIte, Go.PW.dig_length, Nat.reduceLeDiff, Nat.reduceAdd, Nat.reduceMul, Int.reduceToNat, tf33RfS]))
    all_goals
      have hxx : ((x.natAbs : Nat) : Int) = x := by omega
      rw [hxx]
      exact ⟨((Ext.push _ _).pushed _).pushed _, W_tupb_lt _ _ _, rfl⟩
end Go.Proofs.YtfalfmfkifemeaaDoor
set_option linter.unusedVariables false
namespace Go.Proofs.YtfalfmfkifemeaaDoor
open Go.AL
theorem noted_first (H : Hp) (x : Ext [⟨[], .glob 0 127 3 38, 0⟩] H) : Noted H := Noted.ext ⟨0, 0, rfl⟩ x
end Go.Proofs.YtfalfmfkifemeaaDoor
set_option linter.unusedVariables false
set_option linter.unusedSimpArgs false
namespace Go.Proofs.YtfalfmfkifemeaaDoor
open Go.AL Go.PW Go.PD
theorem tf16LnA : type_of% (And.intro @tyb3 (And.intro @tyb9 (And.intro @tyb37 (And.intro @tyb38 (@tyb70))))) := And.intro @tyb3 (And.intro @tyb9 (And.intro @tyb37 (And.intro @tyb38 (@tyb70))))
theorem tf13LnA : type_of% (And.intro @tyb2 (And.intro @tyb3 (And.intro @tyb4 (And.intro @tyb22 (And.intro @tyb24 (And.intro @tyb25 (And.intro @tyb37 (@tyb38)))))))) := And.intro @tyb2 (And.intro @tyb3 (And.intro @tyb4 (And.intro @tyb22 (And.intro @tyb24 (And.intro @tyb25 (And.intro @tyb37 (@tyb38)))))))
set_option maxRecDepth 8000
theorem Between_ok (n : Nat) (xs : List Int) (a : AV) (k l : Int) (H : Hp) (ha : Ints H .i64 a xs) (hr : Right n xs) (hk : -9223372036854775808 ≤ k ∧ k ≤ 9223372036854775807) (hl : -9223372036854775808 ≤ l ∧ l ≤ 9223372036854775807) (h1 : leastB n xs k = true) (h2 : mostB n xs l = true) : ACalls Tryd.prog 17 [SymA n a, .int .i64 k, .int .i64 l] H fun r H' => r = .nilI ∧ H = H' := by
  refine ACalls.drop (R := fun r => r = .nilI) ?_
  refine (Between_calls n xs a k l H ha hr hk hl).mono fun r H' ⟨h, x⟩ => ?_
  unfold BetwR at h
  rw [if_neg (by rw [h1]; decide), if_neg (by rw [h2]; decide)] at h
  subst h
  exact ⟨x, trivial, rfl⟩
set_option maxHeartbeats 2000000 in
theorem says9_err (n m : Int) (v : AV) (H : Hp) (hv : Err H v boundS m) (hN : Noted H) (hn : 0 < n ∧ n < 256) (hm : 0 < m ∧ m < 256) : ACalls Tryd.prog 16 [v, .int .i64 n] H fun r H' => r = .bool (decide (m = n)) ∧ H = H' := by
  refine ACalls.drop (R := fun r => r = .bool (decide (m = n))) ?_
  have f0 : (n = 0) = False := eq_false (by omega)
  have hC := fun H0 (x0 : Ext H H0) => code_calls boundS m v H0 (hv.ext x0) (hN.ext x0)
  refine ACalls_body Tryd.func16 rfl (by kernel_rfl) (by kernel_rfl) ?_
  repeat' first
    | (with_reducible first | refine AWp_seq_k (fun K hK => ?_) | refine AWp_skip ?_ | refine AWp_ret ?_ | refine AWp_regionE ?_ | refine AWp_condI ?_)
    | ((with_reducible refine ECall_intro (ops_calls boundS m v _ hv) ?_); rintro _ _ ⟨rfl, rfl⟩)
    | ((with_reducible refine ECall_intro (hC _ ((Ext.push _ _).pushed _)) ?_); rintro _ _ ⟨rfl, rfl⟩)
    | (with_reducible refine EGuard_split (fun hc => ?_) (fun hc => ?_) <;> (try simp only [RC] at hc) <;> (try (exfalso; first | omega | contradiction)))
    | (simp only [thenA, inBlockA, reduceIte, Nat.reduceEqDiff])
    | ((with_reducible refine hK _ _ ?_); clear hK)
    | (simp only [ACond, RA, EAtS_def, EAtX_def, wantedA, acall, astep, ev, ofValue, ofAtom, Nat.reduceEqDiff, Nat.reduceAdd, Nat.reduceMul, Nat.reduceSub, reduceCtorEq, reduceIte, aoptEv, abin, aint, ashift, aun, astr, aeqGuard, isConstOp, aconvH, aofStr, aconvSame, isU8, abuildSlice, afill, splice, azeros, Nat.reduceLeDiff, Nat.reduceLT, Int.reduceLE, Int.reduceLT, Int.reduceEq, Int.reduceToNat, Int.reducePow, IntKind.bits, Int.reduceNeg, RB, aalloc, Go.PW.dig_length, tf16LnA, f0])
    | (simp (disch := first | omega | (simp only [RO]; done) | assumption) only [RS, six70, gix70])
    | (simp (disch := (first | omega | (simp only [RO]; done) | assumption | (simp only [RM, Go.PW.dig_length]; done) | (simp only [RL, Go.PW.dig_length]; omega))) only [RD, reduceCtorEq, reduceIte, Go.PW.dig_length, Nat.reduceLeDiff, Nat.reduceAdd, Nat.reduceMul, Int.reduceToNat, tf16LnA, f0])
  all_goals
    (
     (refine AEnd_gen (rs := [.tmp 4]) rfl ?_)
     (simp only [AEndR, aresults, Fr.put_some, Fr.put_none, fr0_zero, fr0_succ, fr0_nil, Nat.reduceEqDiff, reduceIte])
     (try simp (disch := (first | omega | (simp only [RO]; done) | assumption | (simp only [RM, Go.PW.dig_length]; done) | (simp only [RL, Go.PW.dig_length]; omega))) only [RD, reduceCtorEq, reduceIte, Go.PW.dig_length, Nat.reduceLeDiff, Nat.reduceAdd, Nat.reduceMul, Int.reduceToNat, tf16LnA]))
  all_goals
    refine ⟨(Ext.push _ _).pushed _, trivial, ?_⟩
    first | rw [decide_eq_true (show m = n by assumption)] | rw [decide_eq_false (show ¬ m = n by assumption)]
theorem says9_nil (H : Hp) : ACalls Tryd.prog 16 [.nilI, .int .i64 0] H fun r H' => r = .bool true ∧ H = H' := by
  refine ACalls_body Tryd.func16 rfl (by kernel_rfl) (by kernel_rfl) ?_
  repeat' first
    | (with_reducible first | refine AWp_seq_k (fun K hK => ?_) | refine AWp_ret ?_ | refine AWp_regionE ?_ | refine AWp_condI ?_)
    | (simp only [thenA, inBlockA, reduceIte, Nat.reduceEqDiff])
    | ((with_reducible refine hK _ _ ?_); clear hK)
    | (simp only [ACond, RA, EAtS_def, EAtX_def, wantedA, acall, astep, ev, ofValue, ofAtom, Nat.reduceEqDiff, Nat.reduceAdd, Nat.reduceMul, Nat.reduceSub, reduceCtorEq, reduceIte, aoptEv, abin, aint, ashift, aun, astr, aeqGuard, isConstOp, aconvH, aofStr, aconvSame, isU8, abuildSlice, afill, splice, azeros, Nat.reduceLeDiff, Nat.reduceLT, Int.reduceLE, Int.reduceLT, Int.reduceEq, Int.reduceToNat, Int.reducePow, IntKind.bits, Int.reduceNeg, RB, aalloc, Go.PW.dig_length, tf16LnA, eq_nilI und38])
  all_goals
    (
     (refine AEnd_gen (rs := [.tmp 4]) rfl ?_)
     (simp only [AEndR, aresults, Fr.put_some, Fr.put_none, fr0_zero, fr0_succ, fr0_nil, Nat.reduceEqDiff, reduceIte])
     (try simp (disch := (first | omega | (simp only [RO]; done) | assumption | (simp only [RM, Go.PW.dig_length]; done) | (simp only [RL, Go.PW.dig_length]; omega))) only [RD, reduceCtorEq, reduceIte, Go.PW.dig_length, Nat.reduceLeDiff, Nat.reduceAdd, Nat.reduceMul, Int.reduceToNat, tf16LnA]))
theorem right_one (x : Int) (h : Fit x) : Right (1 : Nat) [x] := ⟨⟨by omega, by omega, by rfl⟩, fun y hy => by rw [List.mem_singleton.1 hy]; exact h⟩
theorem ints_one1 (H : Hp) (x : Int) : Ints (H ++ [Ib [x]]) .i64 (.sl H.length 0 1 1) [x] := Ints.lit H (by decide) rfl
set_option maxHeartbeats 8000000 in
theorem known9_calls (H : Hp) (hN : Noted H) : ACalls Tryd.prog 13 [] H fun r H' => r = .bool true ∧ H = H' := by
  refine ACalls.drop (R := fun r => r = .bool true) ?_
  obtain ⟨a, ha⟩ : ∃ a : AV, a = .sl H.length 0 1 1 := ⟨_, rfl⟩
  have I : Ints (H ++ [Ib [5]]) .i64 a [5] := by rw [ha]; exact ints_one1 H 5
  have R5 := right_one 5 (by unfold Fit; omega)
  have R4 := right_one 4 (by unfold Fit; omega)
  have d1 : leastB 1 [5] 4 = true := by decide +kernel
  have d2 : leastB 1 [5] 5 = false := by decide +kernel
  have d3 : mostB 1 [5] 6 = true := by decide +kernel
  have d4 : mostB 1 [5] 5 = false := by decide +kernel
  have d5 : belowB 1 [5] [5] = true := by decide +kernel
  have d6 : belowB 1 [5] [4] = false := by decide +kernel
  have L4 := fun H0 (x0 : Ext (H ++ [Ib [5]]) H0) => Least_calls 1 [5] a 4 H0 (I.ext x0) R5 (by omega)
  have L5 := fun H0 (x0 : Ext (H ++ [Ib [5]]) H0) => Least_calls 1 [5] a 5 H0 (I.ext x0) R5 (by omega)
  have M6 := fun H0 (x0 : Ext (H ++ [Ib [5]]) H0) => Most_calls 1 [5] a 6 H0 (I.ext x0) R5 (by omega)
  have M5 := fun H0 (x0 : Ext (H ++ [Ib [5]]) H0) => Most_calls 1 [5] a 5 H0 (I.ext x0) R5 (by omega)
  have B46 := fun H0 (x0 : Ext (H ++ [Ib [5]]) H0) => Between_ok 1 [5] a 4 6 H0 (I.ext x0) R5 (by omega) (by omega) d1 d3
  rw [d1] at L4
  rw [d2] at L5
  rw [d3] at M6
  rw [d4] at M5
  simp only [Int.cast_ofNat_Int] at L4 L5 M6 M5 B46
  have ha1 : a.one = true := by rw [ha]; rfl
  have hc : a.cells = [a] := AV.cells_one ha1
  refine ACalls_body Tryd.func13 rfl (by kernel_rfl) (by kernel_rfl) ?_
  repeat' first
    | (with_reducible first | refine AWp_seq_k (fun K hK => ?_) | refine AWp_regionE ?_)
    | ((with_reducible refine ECall_intro (L4 _ (Ext.push _ _)) ?_); rintro _ _ ⟨rfl, rfl⟩)
    | ((with_reducible refine ECall_intro (L5 _ (Ext.push _ _)) ?_); rintro _ _ ⟨rfl, rfl⟩)
    | ((with_reducible refine ECall_intro (M6 _ (Ext.push _ _)) ?_); rintro _ _ ⟨rfl, rfl⟩)
    | ((with_reducible refine ECall_intro (M5 _ (Ext.push _ _)) ?_); rintro _ _ ⟨rfl, rfl⟩)
    | ((with_reducible refine ECall_intro (B46 _ (Ext.push _ _)) ?_); rintro _ _ ⟨rfl, rfl⟩)
    | (simp only [thenA, inBlockA, reduceIte, Nat.reduceEqDiff])
    | ((with_reducible refine hK _ _ ?_); clear hK)
    | (simp only [ACond, RA, EAtS_def, EAtX_def, wantedA, acall, astep, ev, ofValue, ofAtom, Nat.reduceEqDiff, Nat.reduceAdd, Nat.reduceMul, Nat.reduceSub, reduceCtorEq, reduceIte, aoptEv, abin, aint, ashift, aun, astr, aeqGuard, isConstOp, aconvH, aofStr, aconvSame, isU8, abuildSlice, afill, splice, azeros, Nat.reduceLeDiff, Nat.reduceLT, Int.reduceLE, Int.reduceLT, Int.reduceEq, Int.reduceToNat, Int.reducePow, IntKind.bits, Int.reduceNeg, RB, aalloc, Go.PW.dig_length, tf13LnA, ← ha, eq_nilI und38])
    | (simp (disch := first | omega | (simp only [RO]; done) | assumption) only [RS, six22, gix22, bst25_e, bst25_0, bst25_01])
    | (simp (disch := (first | omega | (simp only [RO]; done) | assumption | (simp only [RM, Go.PW.dig_length]; done) | (simp only [RL, Go.PW.dig_length]; omega))) only [RD, reduceCtorEq, reduceIte, Go.PW.dig_length, Nat.reduceLeDiff, Nat.reduceAdd, Nat.reduceMul, Int.reduceToNat, tf13LnA, ← ha, eq_nilI und38])
  refine ECall_intro (Between_calls 1 [5] a 5 6 _ (I.ext (Ext.push _ _)) R5 (by omega) (by omega)) ?_
  rintro v2 H2 ⟨hv2, x2⟩
  have E2 : Err H2 v2 boundS 30 := by unfold BetwR at hv2; rw [if_pos d2] at hv2; exact hv2
  have N2 : Noted H2 := ((hN.push _).push _).ext x2
  have S2 := says9_err 30 30 v2 H2 E2 N2 (by omega) (by omega)
  rw [decide_eq_true rfl] at S2
  have q2 : hget H2 (H.length + 1) = some (Sb 1 a) := hget_ext (hget_at (by simp)) x2
  have I2 : Ints H2 .i64 a [5] := (I.push _).ext x2
  repeat' first
    | ((with_reducible refine ECall_intro (S2) ?_); rintro _ _ ⟨rfl, rfl⟩)
    | (simp only [ACond, RA, EAtS_def, EAtX_def, wantedA, acall, astep, ev, ofValue, ofAtom, Nat.reduceEqDiff, Nat.reduceAdd, Nat.reduceMul, Nat.reduceSub, reduceCtorEq, reduceIte, aoptEv, abin, aint, ashift, aun, astr, aeqGuard, isConstOp, aconvH, aofStr, aconvSame, isU8, abuildSlice, afill, splice, azeros, Nat.reduceLeDiff, Nat.reduceLT, Int.reduceLE, Int.reduceLT, Int.reduceEq, Int.reduceToNat, Int.reducePow, IntKind.bits, Int.reduceNeg, RB, aalloc, Go.PW.dig_length, tf13LnA, q2])
    | (simp (disch := (first | omega | (simp only [RO]; done) | assumption | (simp only [RM, Go.PW.dig_length]; done) | (simp only [RL, Go.PW.dig_length]; omega))) only [RD, reduceCtorEq, reduceIte, Go.PW.dig_length, Nat.reduceLeDiff, Nat.reduceAdd, Nat.reduceMul, Int.reduceToNat, tf13LnA, q2])
  refine ECall_intro (Between_calls 1 [5] a 4 5 _ I2 R5 (by omega) (by omega)) ?_
  rintro v3 H3 ⟨hv3, x3⟩
  have E3 : Err H3 v3 boundS 31 := by unfold BetwR at hv3; rw [if_neg (by rw [d1]; decide), if_pos d4] at hv3; exact hv3
  have N3 : Noted H3 := N2.ext x3
  have S3 := says9_err 31 31 v3 H3 E3 N3 (by omega) (by omega)
  rw [decide_eq_true rfl] at S3
  have q3 : hget H3 (H.length + 1) = some (Sb 1 a) := hget_ext q2 x3
  have I3 : Ints H3 .i64 a [5] := I2.ext x3
  have q4 : hget (H3 ++ [Ib [5]]) (H.length + 1) = some (Sb 1 a) := hget_ext q3 (Ext.push _ _)
  have hB1 := Below_calls 1 [5] [5] a (.sl H3.length 0 1 1) (H3 ++ [Ib [5]]) (I3.push _) (ints_one1 H3 5) R5 R5
  have hB2 := Below_calls 1 [5] [4] a (.sl (H3.length + 1) 0 1 1) (H3 ++ [Ib [5]] ++ [Ib [4]]) ((I3.push _).push _) (by have := ints_one1 (H3 ++ [Ib [5]]) 4; rwa [len_push] at this) R5 R4
  rw [d5] at hB1
  rw [d6] at hB2
  simp only [Int.cast_ofNat_Int, Ib, List.map_cons, List.map_nil] at hB1 hB2 q4
  repeat' first
    | (with_reducible first | refine AWp_ret ?_)
    | ((with_reducible refine ECall_intro (S3) ?_); rintro _ _ ⟨rfl, rfl⟩)
    | ((with_reducible refine ECall_intro (hB1) ?_); rintro _ _ ⟨rfl, rfl⟩)
    | ((with_reducible refine ECall_intro (hB2) ?_); rintro _ _ ⟨rfl, rfl⟩)
    | (simp only [thenA, inBlockA, reduceIte, Nat.reduceEqDiff])
    | ((with_reducible refine hK _ _ ?_); clear hK)
    | (simp only [ACond, RA, EAtS_def, EAtX_def, wantedA, acall, astep, ev, ofValue, ofAtom, Nat.reduceEqDiff, Nat.reduceAdd, Nat.reduceMul, Nat.reduceSub, reduceCtorEq, reduceIte, aoptEv, abin, aint, ashift, aun, astr, aeqGuard, isConstOp, aconvH, aofStr, aconvSame, isU8, abuildSlice, afill, splice, azeros, Nat.reduceLeDiff, Nat.reduceLT, Int.reduceLE, Int.reduceLT, Int.reduceEq, Int.reduceToNat, Int.reducePow, IntKind.bits, Int.reduceNeg, RB, aalloc, Go.PW.dig_length, tf13LnA, q3, q4])
    | (simp (disch := first | omega | (simp only [RO]; done) | assumption) only [RS, six22, gix22, bst25_e, bst25_0, bst25_01])
    | (simp (disch := (first | omega | (simp only [RO]; done) | assumption | (simp only [RM, Go.PW.dig_length]; done) | (simp only [RL, Go.PW.dig_length]; omega))) only [RD, reduceCtorEq, reduceIte, Go.PW.dig_length, Nat.reduceLeDiff, Nat.reduceAdd, Nat.reduceMul, Int.reduceToNat, tf13LnA, q3, q4])
  all_goals
    (
     (refine AEnd_gen (rs := [.tmp 0]) rfl ?_)
     (simp only [AEndR, aresults, Fr.put_some, Fr.put_none, fr0_zero, fr0_succ, fr0_nil, Nat.reduceEqDiff, reduceIte])
     (try simp (disch := (first | omega | (simp only [RO]; done) | assumption | (simp only [RM, Go.PW.dig_length]; done) | (simp only [RL, Go.PW.dig_length]; omega))) only [RD, reduceCtorEq, reduceIte, Go.PW.dig_length, Nat.reduceLeDiff, Nat.reduceAdd, Nat.reduceMul, Int.reduceToNat, tf13LnA]))
  all_goals exact ⟨(((((Ext.push _ _).pushed _).trans x2).trans x3).pushed _).pushed _, trivial⟩
end Go.Proofs.YtfalfmfkifemeaaDoor
set_option linter.unusedVariables false
set_option linter.unusedSimpArgs false
namespace Go.Proofs.YtfalfmfkifemeaaDoor
open Go.AL Go.PW Go.PD
theorem tf11LdA : type_of% (And.intro @tyb4 (And.intro @tyb27 (And.intro @tyb28 (And.intro @tyb29 (And.intro @tyb34 (And.intro @tyb35 (@tyb36))))))) := And.intro @tyb4 (And.intro @tyb27 (And.intro @tyb28 (And.intro @tyb29 (And.intro @tyb34 (And.intro @tyb35 (@tyb36))))))
theorem tf19LdA : type_of% (And.intro @tyb3 (And.intro @tyb9 (And.intro @tyb37 (And.intro @tyb38 (@tyb70))))) := And.intro @tyb3 (And.intro @tyb9 (And.intro @tyb37 (And.intro @tyb38 (@tyb70))))
set_option maxRecDepth 8000
theorem guardW : Tryd.prog.eqGuardType Tryd.prog.depth 36 = false := by kernel_rfl
set_option maxHeartbeats 2000000 in
theorem HWide_calls (x : Int) (s : AV) (H : Hp) (hs : Bs_ H s x) (hx : (x.natAbs : Int) < Bs ^ 15) : ACalls Tryd.prog 11 [W x, BV x s] H fun r H' => r = .bool true ∧ H = H' := by
  refine ACalls.drop (R := fun r => r = .bool true) ?_
  have hs1 := hs.one
  have hc1 : s.cells = [s] := hs.cells
  have hW := fun H0 (x0 : Ext H H0) => ToWide_calls x s H0 (hs.ext x0) hx
  have he := eq_wide x
  have hg := guardW
  refine ACalls_body Tryd.func11 rfl (by kernel_rfl) (by kernel_rfl) ?_
  repeat' first
    | (with_reducible first | refine AWp_seq_k (fun K hK => ?_) | refine AWp_ret ?_ | refine AWp_regionE ?_)
    | ((with_reducible refine ECall_intro (hW _ ((Ext.push _ _).pushed _)) ?_); rintro _ _ ⟨rfl, rfl⟩)
    | (simp only [thenA, inBlockA, reduceIte, Nat.reduceEqDiff])
    | ((with_reducible refine hK _ _ ?_); clear hK)
    | (simp only [ACond, RA, EAtS_def, EAtX_def, wantedA, acall, astep, ev, ofValue, ofAtom, Nat.reduceEqDiff, Nat.reduceAdd, Nat.reduceMul, Nat.reduceSub, reduceCtorEq, reduceIte, aoptEv, abin, aint, ashift, aun, astr, aeqGuard, isConstOp, aconvH, aofStr, aconvSame, isU8, abuildSlice, afill, splice, azeros, Nat.reduceLeDiff, Nat.reduceLT, Int.reduceLE, Int.reduceLT, Int.reduceEq, Int.reduceToNat, Int.reducePow, IntKind.bits, Int.reduceNeg, RB, aalloc, Go.PW.dig_length, tf11LdA, he, hg])
    | (simp (disch := first | omega | (simp only [RO]; done) | assumption) only [RS, six27, gix27, idx35, slh35, idx36, slh36, bst29_01])
    | (simp (disch := (first | omega | (simp only [RO]; done) | assumption | (simp only [RM, Go.PW.dig_length]; done) | (simp only [RL, Go.PW.dig_length]; omega))) only [RD, reduceCtorEq, reduceIte, Go.PW.dig_length, Nat.reduceLeDiff, Nat.reduceAdd, Nat.reduceMul, Int.reduceToNat, tf11LdA, he, hg])
  all_goals
    (
     (refine AEnd_gen (rs := [.tmp 4]) rfl ?_)
     (simp only [AEndR, aresults, Fr.put_some, Fr.put_none, fr0_zero, fr0_succ, fr0_nil, Nat.reduceEqDiff, reduceIte])
     (try simp (disch := (first | omega | (simp only [RO]; done) | assumption | (simp only [RM, Go.PW.dig_length]; done) | (simp only [RL, Go.PW.dig_length]; omega))) only [RD, reduceCtorEq, reduceIte, Go.PW.dig_length, Nat.reduceLeDiff, Nat.reduceAdd, Nat.reduceMul, Int.reduceToNat, tf11LdA]))
  all_goals exact ⟨((Ext.push _ _).pushed _).pushed _, trivial⟩
set_option maxHeartbeats 2000000 in
theorem says6_err (n m : Int) (v : AV) (H : Hp) (hv : Err H v elimS m) (hN : Noted H) (hn : 0 < n ∧ n < 256) (hm : 0 < m ∧ m < 256) : ACalls Tryd.prog 19 [v, .int .i64 n] H fun r H' => r = .bool (decide (m = n)) ∧ H = H' := by
  refine ACalls.drop (R := fun r => r = .bool (decide (m = n))) ?_
  have f0 : (n = 0) = False := eq_false (by omega)
  have hC := fun H0 (x0 : Ext H H0) => code_calls elimS m v H0 (hv.ext x0) (hN.ext x0)
  refine ACalls_body Tryd.func19 rfl (by kernel_rfl) (by kernel_rfl) ?_
  repeat' first
    | (with_reducible first | refine AWp_seq_k (fun K hK => ?_) | refine AWp_skip ?_ | refine AWp_ret ?_ | refine AWp_regionE ?_ | refine AWp_condI ?_)
    | ((with_reducible refine ECall_intro (ops_calls elimS m v _ hv) ?_); rintro _ _ ⟨rfl, rfl⟩)
    | ((with_reducible refine ECall_intro (hC _ ((Ext.push _ _).pushed _)) ?_); rintro _ _ ⟨rfl, rfl⟩)
    | (with_reducible refine EGuard_split (fun hc => ?_) (fun hc => ?_) <;> (try simp only [RC] at hc) <;> (try (exfalso; first | omega | contradiction)))
    | (simp only [thenA, inBlockA, reduceIte, Nat.reduceEqDiff])
    | ((with_reducible refine hK _ _ ?_); clear hK)
    | (simp only [ACond, RA, EAtS_def, EAtX_def, wantedA, acall, astep, ev, ofValue, ofAtom, Nat.reduceEqDiff, Nat.reduceAdd, Nat.reduceMul, Nat.reduceSub, reduceCtorEq, reduceIte, aoptEv, abin, aint, ashift, aun, astr, aeqGuard, isConstOp, aconvH, aofStr, aconvSame, isU8, abuildSlice, afill, splice, azeros, Nat.reduceLeDiff, Nat.reduceLT, Int.reduceLE, Int.reduceLT, Int.reduceEq, Int.reduceToNat, Int.reducePow, IntKind.bits, Int.reduceNeg, RB, aalloc, Go.PW.dig_length, tf19LdA, f0])
    | (simp (disch := first | omega | (simp only [RO]; done) | assumption) only [RS, six70, gix70])
    | (simp (disch := (first | omega | (simp only [RO]; done) | assumption | (simp only [RM, Go.PW.dig_length]; done) | (simp only [RL, Go.PW.dig_length]; omega))) only [RD, reduceCtorEq, reduceIte, Go.PW.dig_length, Nat.reduceLeDiff, Nat.reduceAdd, Nat.reduceMul, Int.reduceToNat, tf19LdA, f0])
  all_goals
    (
     (refine AEnd_gen (rs := [.tmp 4]) rfl ?_)
     (simp only [AEndR, aresults, Fr.put_some, Fr.put_none, fr0_zero, fr0_succ, fr0_nil, Nat.reduceEqDiff, reduceIte])
     (try simp (disch := (first | omega | (simp only [RO]; done) | assumption | (simp only [RM, Go.PW.dig_length]; done) | (simp only [RL, Go.PW.dig_length]; omega))) only [RD, reduceCtorEq, reduceIte, Go.PW.dig_length, Nat.reduceLeDiff, Nat.reduceAdd, Nat.reduceMul, Int.reduceToNat, tf19LdA]))
  all_goals
    refine ⟨(Ext.push _ _).pushed _, trivial, ?_⟩
    first | rw [decide_eq_true (show m = n by assumption)] | rw [decide_eq_false (show ¬ m = n by assumption)]
end Go.Proofs.YtfalfmfkifemeaaDoor

/- A part of the proofs of this seat: FrI. No condition. -/
import Derived.Test.YtdlplfhkmhkngaaFrJ
set_option linter.unusedVariables false
set_option linter.unusedSimpArgs false
namespace Go.Proofs.Ytdlplfhkmhkngaa
open Go.AL

theorem pst0 {H : Hp} {p : Nat} {v u : AV} {bad : Int} (hp : hget H p = some (pblk v bad)) (hs : u.solid = true) (hc : u.cells = [u]) : astore Try.prog H 22 (.ptr p 0) u = some (H.set p (pblk u bad)) := by
  simp [astore, hp, pblk, size22, hs, hc, splice]

/-- append to one's own: what stands elsewhere stays. -/
theorem Own.append2 {P : Program} {H0 H : Hp} {z n m by_ : Nat} {s x zv : AV} {cs ds : List AV} {t e : TypeId} (h : Own H z e s cs n H0.length) (hns : s = .nilS ∨ ∃ h, s = .sg h 0 n z) (hx : Rd H z x ds m) (x0 : Ext H0 H) (hu : P.underlying t = some (.slice e)) (hz : sizeT P e = some z) (hzv : zeroT P e = some zv) (hzl : zv.cells.length = z) (hz0 : 0 < z) (hb : bytesT P e = some by_)
    (hc : cs.all AV.one = true) (ho : ds.all AV.one = true) (hby : (n + m) * by_ ≤ 140737488355328) (hm : n + m ≤ 140737488355328) (hmp : 0 < m) :
    ∃ v' H', aappend P H t s x = some (v', H') ∧ Own H' z e v' (cs ++ ds) (n + m) H0.length ∧ Ext H0 H' ∧ (∃ h, v' = .sg h 0 (n + m) z) ∧ (Ext H H' ∨ ∃ b, s.hd < H.length ∧ hget H s.hd = some ⟨cs, .own, e⟩ ∧ Ext (H.set s.hd b) H') := by
  rcases hns with rfl | ⟨h', rfl⟩
  · rcases h.row with ⟨_, rfl, rfl⟩ | ⟨h', o, h1, _⟩ | ⟨h', h1, _⟩
    · refine ⟨_, _, append_nil hx hu hz hzv hzl hz0 hb ho hmp (by simpa using hby) (by omega), ?_, x0.pushed _, ⟨_, by rw [Nat.zero_add]⟩, .inl (Ext.push _ _)⟩
      rw [Nat.zero_add, List.nil_append]
      exact ⟨.inr (.inr ⟨_, rfl, by simp [hget_push], hx.length, x0.len⟩)⟩
    · cases h1
    · cases h1
  · rcases h.row with ⟨h1, _⟩ | ⟨h'', o, h1, _⟩ | ⟨h'', h1, hg, hl, hlo⟩
    · cases h1
    · cases h1
    · cases h1
      have h1 : m ≠ 0 := by omega
      have hmz : 0 < m * z := Nat.mul_pos hmp hz0
      have h2 : ¬ n * z + m * z ≤ cs.length := by omega
      have h3 : cs.take (n * z) = cs := List.take_of_length_le (by omega)
      have h4 : n * z ≤ cs.length := by omega
      refine ⟨.sg H.length 0 (n + m) z, H.set h' ⟨[], .dead, e⟩ ++ [⟨cs ++ ds, .own, e⟩], ?_, ?_, (x0.set hlo _).pushed _, ⟨_, rfl⟩, .inr ⟨_, hget_lt hg, hg, Ext.push _ _⟩⟩
      · simp [aappend, hu, hz, hzv, hb, hzl, hz0, hx.row, ho, h1, hby, hm, hg, h2, h3, h4, hc]
      · refine ⟨.inr (.inr ⟨_, rfl, ?_, ?_, x0.len⟩)⟩
        · simp [hget_push]
        · rw [List.length_append, hl, hx.length, Nat.add_mul]

theorem ints_form {H : Hp} {k : IntKind} {v : AV} {xs : List Int} (h : Ints H k v xs) : v.one = true ∧ ∀ (l : IntKind) (n : Int), v ≠ .int l n := by
  refine ⟨h.rd.one, fun l n e => ?_⟩
  subst e
  have := h.rd.row
  simp [arow] at this
theorem rows_form {H : Hp} : ∀ {vs : List AV} {xss : List (List Int)}, RowsI H .u8 vs xss → vs.all AV.one = true ∧ ∀ c ∈ vs, ∀ (l : IntKind) (n : Int), c ≠ .int l n
  | [], [], _ => ⟨rfl, fun _ h => by cases h⟩
  | v :: vs, xs :: xss, h => by
    have ih := rows_form (vs := vs) h.2
    have hv := ints_form h.1
    refine ⟨by simp [hv.1]; simpa using ih.1, fun c hc => ?_⟩
    rcases List.mem_cons.1 hc with rfl | hc
    · exact hv.2
    · exact ih.2 c hc
theorem ints_moved {H H' : Hp} {s w : AV} {cs : List AV} {e : TypeId} {xs : List Int} (hw : Ints H .u8 w xs) (hne : xs ≠ []) (hcs : ∀ c ∈ cs, ∀ (l : IntKind) (n : Int), c ≠ .int l n) (h : Ext H H' ∨ ∃ b, s.hd < H.length ∧ hget H s.hd = some ⟨cs, .own, e⟩ ∧ Ext (H.set s.hd b) H') : Ints H' .u8 w xs := by
  rcases h with h | ⟨b, h1, h2, h3⟩
  · exact hw.ext h
  · exact (ints_set hw h1 (.inr (ints_apart hw hne h2 (fun c hc n => hcs c hc .u8 n)))).ext h3
theorem rows_moved {H H' : Hp} {s : AV} {cs : List AV} {e : TypeId} (hcs : ∀ c ∈ cs, ∀ (l : IntKind) (n : Int), c ≠ .int l n) (h : Ext H H' ∨ ∃ b, s.hd < H.length ∧ hget H s.hd = some ⟨cs, .own, e⟩ ∧ Ext (H.set s.hd b) H') :
    ∀ {vs : List AV} {xss : List (List Int)}, RowsI H .u8 vs xss → (∀ xs ∈ xss, xs ≠ []) → RowsI H' .u8 vs xss
  | [], [], _, _ => trivial
  | v :: vs, xs :: xss, hr, hne => ⟨ints_moved hr.1 (hne xs (List.mem_cons_self ..)) hcs h, rows_moved hcs h (vs := vs) hr.2 fun ys hy => hne ys (List.mem_cons_of_mem _ hy)⟩
theorem rows_snoc {H : Hp} {k : IntKind} {u : AV} {xs : List Int} (hu : Ints H k u xs) : ∀ {vs : List AV} {xss : List (List Int)}, RowsI H k vs xss → RowsI H k (vs ++ [u]) (xss ++ [xs])
  | [], [], _ => ⟨hu, trivial⟩
  | v :: vs, ys :: xss, hr => ⟨hr.1, rows_snoc hu (vs := vs) hr.2⟩

/-- What Feed leaves. -/
def FeedPost (e : Prop) (H : Hp) (p : Nat) (bad : Int) (tot : List (List Int) × List Int × Int) (r : AV) (H' : Hp) : Prop :=
  ∃ vs v', Own H' 1 22 r vs vs.length H.length ∧ RowsI H' .u8 vs tot.1 ∧ Ints H' .u8 v' tot.2.1 ∧ Ext (H.set p (pblk v' (bad + tot.2.2))) H' ∧ (¬ e → H.length ≤ v'.hd)
theorem aslice_hd {P : Program} {t el : TypeId} {v r : AV} {lo hi mx : Option AV} (hu : P.underlying t = some (.slice el)) (h : aslice P t v lo hi mx = some r) : r.hd = v.hd := by
  unfold aslice at h
  rw [hu] at h
  split at h
  · rename_i h1; cases h1
  · split at h <;> cases h; rfl
  · split at h <;> cases h; rfl
  · split at h
    · split at h
      · split at h
        · split at h
          · cases h
          · cases h; rfl
        · cases h; rfl
      · cases h
    · cases h
  · rename_i h1; cases h1
  · cases h

theorem feed_calls (H : Hp) (p : Nat) (v x : AV) (bad : Int) (ys xs : List Int) (hp : hget H p = some (pblk v bad)) (hv : Ints H .u8 v ys) (hx : Ints H .u8 x xs) (hb : Bytes (ys ++ xs)) (hl : (ys ++ xs).length < 1000000) (hbad : 0 ≤ bad ∧ bad < 100000000000) :
    ACalls Try.prog 19 [.ptr p 0, x] H fun r H' => FeedPost (xs = []) H p bad (parse ((ys ++ xs).length + 1) (ys ++ xs)) r H' := by
  have hly : ys.length < 1000000000000 := by rw [List.length_append] at hl; omega
  have hlx : xs.length < 1000000 := by rw [List.length_append] at hl; omega
  have hlxy : ys.length + xs.length < 1000000000000 := by rw [List.length_append] at hl; omega
  refine ACalls_body Try.func19 rfl (by kernel_rfl) (by kernel_rfl) ?_
  repeat' first
    | (with_reducible refine AWp_seq_k (fun K hK => ?_))
    | (with_reducible refine AWp_block ?_)
    | (with_reducible refine AWp_skip ?_)
    | (with_reducible refine AWp_exit ?_)
    | (with_reducible refine AWp_ret ?_)
    | (with_reducible refine AWp_regionE ?_)
    | (with_reducible refine AWp_condI ?_)
    | (with_reducible refine EGuard_split (fun hc => ?_) (fun hc => ?_) <;> (try simp only [Bool.not_eq_true', Bool.not_eq_false', decide_eq_true_eq, decide_eq_false_iff_not, beq_iff_eq, beq_eq_false_iff_ne, bne_iff_ne, bne_eq_false_iff_eq, Bool.false_eq_true, ne_eq, Decidable.not_not, Bool.not_eq_eq_eq_not, Bool.not_true, Bool.not_false, not_true_eq_false, not_false_eq_true] at hc) <;> (try (exfalso; first | omega | contradiction)))
    | fail
    | (with_reducible refine AIte (fun hc => ?_) (fun hc => ?_) <;> (try simp only [Bool.not_eq_true', Bool.not_eq_false', decide_eq_true_eq, decide_eq_false_iff_not, beq_iff_eq, beq_eq_false_iff_ne, bne_iff_ne, bne_eq_false_iff_eq, Bool.false_eq_true, ne_eq, Decidable.not_not, Bool.not_eq_eq_eq_not, Bool.not_true, Bool.not_false, not_true_eq_false, not_false_eq_true] at hc) <;> (try (exfalso; first | omega | contradiction)))
    | (simp only [thenA, inBlockA, reduceIte, Nat.reduceEqDiff])
    | ((with_reducible refine hK _ _ ?_); clear hK)
    | (clear hK; (with_reducible refine hK _ _ ?_); clear hK)
    | (clear hK; clear hK; (with_reducible refine hK _ _ ?_); clear hK)
    | (clear hK; clear hK; clear hK; (with_reducible refine hK _ _ ?_); clear hK)
    | (clear hK; clear hK; clear hK; clear hK; (with_reducible refine hK _ _ ?_); clear hK)
    | (clear hK; clear hK; clear hK; clear hK; clear hK; (with_reducible refine hK _ _ ?_); clear hK)
    | (simp only [ACond, Run_nil, Run_cons, Run_pnil, Run_one, Run_alt, EAt_def, EStep_def, E0_def, EGuard_true, EGuard_false, beq_self_eq_true, beq_true, beq_false, bne_self_eq_false, wantedA, acall, astep, ev, ofValue, ofAtom, Fr.put_some, Fr.put_none, fr0_zero, fr0_succ, fr0_nil, Nat.reduceEqDiff, Nat.reduceAdd, Nat.reduceMul, Nat.reduceSub, reduceCtorEq, if_true, if_false, reduceIte, Option.map_some, Option.map_none, Option.bind_some, Option.bind_none, aoptEv, abin, aint, ashift, aun, astr, aeqGuard, isConstOp, or_self, or_true, true_or, or_false, false_or, and_self, and_true, true_and, and_false, false_and, not_true_eq_false, not_false_eq_true, Bool.false_eq_true, Bool.true_eq_false, decide_eq_true_eq, decide_eq_false_iff_not, beq_iff_eq, bne_iff_ne, Bool.not_eq_true', Bool.not_true, Bool.not_false, ne_eq, aconvH, aofStr, aconvSame, isU8, abuildSlice, afill, splice, azeros, AV.solid_int, AV.one_int, AV.cells_int, AV.solid_bool, AV.one_bool, AV.cells_bool, AV.solid_str, AV.one_str, AV.cells_str, AV.solid_nilI, AV.one_nilI, AV.cells_nilI, AV.solid_ifc, AV.one_ifc, AV.cells_ifc, AV.solid_nilP, AV.one_nilP, AV.cells_nilP, AV.solid_ptr, AV.one_ptr, AV.cells_ptr, AV.solid_nilS, AV.one_nilS, AV.cells_nilS, AV.solid_sl, AV.one_sl, AV.cells_sl, AV.solid_sg, AV.one_sg, AV.cells_sg, AV.solid_fn, AV.one_fn, AV.cells_fn, AV.cells_agg, List.replicate_succ, List.replicate_zero, List.flatten_cons, List.flatten_nil, List.append_nil, List.nil_append, List.cons_append, List.take_succ_cons, List.take_zero, List.drop_succ_cons, List.drop_zero, List.length_cons, List.length_nil, List.all_cons, List.all_nil, Bool.and_true, Bool.true_and, Bool.and_self, Nat.reduceLeDiff, Nat.reduceLT, Int.reduceLE, Int.reduceLT, Int.reduceEq, Int.reduceToNat, Int.cast_ofNat_Int, Int.reducePow, IntKind.bits, Nat.min_def, Int.reduceNeg, Nat.zero_add, Nat.reduceEqDiff, hget_push, set_push_new, List.map_cons, List.map_nil, List.toList_toArray, List.getElem?_toArray, List.getElem?_cons_zero, List.getElem?_cons_succ, und3, agg3, size3, bytes3, zero3, und5, agg5, size5, bytes5, zero5, und22, agg22, size22, bytes22, zero22, lenS22, lenG22, lenN22, eqSl22, eqSg22, eqSn22, und32, agg32, size32, bytes32, zero32, lenS32, lenG32, lenN32, eqSl32, eqSg32, eqSn32, und35, agg35, size35, bytes35, zero35, eqPn35, eqPP35, und44, agg44, size44, bytes44, zero44, und45, agg45, size45, bytes45, zero45, fa0, pl0 hp hv.rd.one])
    | (simp (disch := omega) only [optIf, optIfN, selP, selN, avP, avN])
  refine ECall_intro (clone_calls v ys H hv hly) ?_
  rintro c H1 ⟨hc, x1, _⟩
  have hc : OwnB H1 c ys H.length := hc
  obtain ⟨v1, H2, g1, o1, x2, hfr, _⟩ := hc.app' x1 (hx.ext x1) hlxy
  have hp2 := hget_ext hp x2
  repeat' first
    | (with_reducible refine AWp_seq_k (fun K hK => ?_))
    | (with_reducible refine AWp_block ?_)
    | (with_reducible refine AWp_skip ?_)
    | (with_reducible refine AWp_exit ?_)
    | (with_reducible refine AWp_ret ?_)
    | (with_reducible refine AWp_regionE ?_)
    | (with_reducible refine AWp_condI ?_)
    | (with_reducible refine EGuard_split (fun hc => ?_) (fun hc => ?_) <;> (try simp only [Bool.not_eq_true', Bool.not_eq_false', decide_eq_true_eq, decide_eq_false_iff_not, beq_iff_eq, beq_eq_false_iff_ne, bne_iff_ne, bne_eq_false_iff_eq, Bool.false_eq_true, ne_eq, Decidable.not_not, Bool.not_eq_eq_eq_not, Bool.not_true, Bool.not_false, not_true_eq_false, not_false_eq_true] at hc) <;> (try (exfalso; first | omega | contradiction)))
    | fail
    | (with_reducible refine AIte (fun hc => ?_) (fun hc => ?_) <;> (try simp only [Bool.not_eq_true', Bool.not_eq_false', decide_eq_true_eq, decide_eq_false_iff_not, beq_iff_eq, beq_eq_false_iff_ne, bne_iff_ne, bne_eq_false_iff_eq, Bool.false_eq_true, ne_eq, Decidable.not_not, Bool.not_eq_eq_eq_not, Bool.not_true, Bool.not_false, not_true_eq_false, not_false_eq_true] at hc) <;> (try (exfalso; first | omega | contradiction)))
    | (simp only [thenA, inBlockA, reduceIte, Nat.reduceEqDiff])
    | ((with_reducible refine hK _ _ ?_); clear hK)
    | (clear hK; (with_reducible refine hK _ _ ?_); clear hK)
    | (clear hK; clear hK; (with_reducible refine hK _ _ ?_); clear hK)
    | (clear hK; clear hK; clear hK; (with_reducible refine hK _ _ ?_); clear hK)
    | (clear hK; clear hK; clear hK; clear hK; (with_reducible refine hK _ _ ?_); clear hK)
    | (clear hK; clear hK; clear hK; clear hK; clear hK; (with_reducible refine hK _ _ ?_); clear hK)
    | (simp only [ACond, Run_nil, Run_cons, Run_pnil, Run_one, Run_alt, EAt_def, EStep_def, E0_def, EGuard_true, EGuard_false, beq_self_eq_true, beq_true, beq_false, bne_self_eq_false, wantedA, acall, astep, ev, ofValue, ofAtom, Fr.put_some, Fr.put_none, fr0_zero, fr0_succ, fr0_nil, Nat.reduceEqDiff, Nat.reduceAdd, Nat.reduceMul, Nat.reduceSub, reduceCtorEq, if_true, if_false, reduceIte, Option.map_some, Option.map_none, Option.bind_some, Option.bind_none, aoptEv, abin, aint, ashift, aun, astr, aeqGuard, isConstOp, or_self, or_true, true_or, or_false, false_or, and_self, and_true, true_and, and_false, false_and, not_true_eq_false, not_false_eq_true, Bool.false_eq_true, Bool.true_eq_false, decide_eq_true_eq, decide_eq_false_iff_not, beq_iff_eq, bne_iff_ne, Bool.not_eq_true', Bool.not_true, Bool.not_false, ne_eq, aconvH, aofStr, aconvSame, isU8, abuildSlice, afill, splice, azeros, AV.solid_int, AV.one_int, AV.cells_int, AV.solid_bool, AV.one_bool, AV.cells_bool, AV.solid_str, AV.one_str, AV.cells_str, AV.solid_nilI, AV.one_nilI, AV.cells_nilI, AV.solid_ifc, AV.one_ifc, AV.cells_ifc, AV.solid_nilP, AV.one_nilP, AV.cells_nilP, AV.solid_ptr, AV.one_ptr, AV.cells_ptr, AV.solid_nilS, AV.one_nilS, AV.cells_nilS, AV.solid_sl, AV.one_sl, AV.cells_sl, AV.solid_sg, AV.one_sg, AV.cells_sg, AV.solid_fn, AV.one_fn, AV.cells_fn, AV.cells_agg, List.replicate_succ, List.replicate_zero, List.flatten_cons, List.flatten_nil, List.append_nil, List.nil_append, List.cons_append, List.take_succ_cons, List.take_zero, List.drop_succ_cons, List.drop_zero, List.length_cons, List.length_nil, List.all_cons, List.all_nil, Bool.and_true, Bool.true_and, Bool.and_self, Nat.reduceLeDiff, Nat.reduceLT, Int.reduceLE, Int.reduceLT, Int.reduceEq, Int.reduceToNat, Int.cast_ofNat_Int, Int.reducePow, IntKind.bits, Nat.min_def, Int.reduceNeg, Nat.zero_add, Nat.reduceEqDiff, hget_push, set_push_new, List.map_cons, List.map_nil, List.toList_toArray, List.getElem?_toArray, List.getElem?_cons_zero, List.getElem?_cons_succ, und3, agg3, size3, bytes3, zero3, und5, agg5, size5, bytes5, zero5, und22, agg22, size22, bytes22, zero22, lenS22, lenG22, lenN22, eqSl22, eqSg22, eqSn22, und32, agg32, size32, bytes32, zero32, lenS32, lenG32, lenN32, eqSl32, eqSg32, eqSn32, und35, agg35, size35, bytes35, zero35, eqPn35, eqPP35, und44, agg44, size44, bytes44, zero44, und45, agg45, size45, bytes45, zero45, fa0, g1, pst0 hp2 o1.ints.rd.solid o1.ints.rd.cells])
    | (simp (disch := omega) only [optIf, optIfN, selP, selN, avP, avN])
  have hpl := hget_lt hp
  have hp3 : hget (H2.set p (pblk v1 bad)) p = some (pblk v1 bad) := by rw [hget_set (hget_lt hp2), if_pos rfl]
  have i3 : Ints (H2.set p (pblk v1 bad)) .u8 v1 (ys ++ xs) := ints_pblk hp2 (hv.ext x2) o1.ints
  have x3 : Ext (H.set p (pblk v1 bad)) (H2.set p (pblk v1 bad)) := Ext.set2 x2 hpl _
  refine AWp_loop (fun m fr' H' => ∃ rest done vs cur b out, m = rest.length ∧ fr' 0 = .ptr p 0 ∧ fr' 5 = out ∧ (out = .nilS ∨ ∃ h, out = .sg h 0 vs.length 1) ∧ Own H' 1 22 out vs vs.length H.length ∧ RowsI H' .u8 vs done ∧ Ints H' .u8 cur rest ∧ Bytes rest ∧ Ext (H.set p (pblk cur b)) H' ∧ rest.length ≤ (ys ++ xs).length ∧ bad ≤ b ∧ b + rest.length ≤ bad + (ys ++ xs).length ∧ (∀ q ∈ done, q ≠ []) ∧ vs.length + rest.length ≤ (ys ++ xs).length ∧ (¬ xs = [] → H.length ≤ cur.hd) ∧
      parse ((ys ++ xs).length + 1) (ys ++ xs) = (done ++ (parse (rest.length + 1) rest).1, (parse (rest.length + 1) rest).2.1, (b - bad) + (parse (rest.length + 1) rest).2.2))
    (m := (ys ++ xs).length) ⟨ys ++ xs, [], [], v1, bad, .nilS, rfl, rfl, rfl, .inl rfl, Own.nil _ _ _ _, trivial, i3, hb, x3, Nat.le_refl _, by omega, by omega, by simp, by simp, hfr, by simp⟩ ?_
  rintro m fr' H3 ⟨rest, done, vs, cur, b, out, rfl, k0, k5, hout, ho, hrow, hcur, hbr, hext, hlr, hb1, hb2, hne, hvl, hfc, hacc⟩
  have hp4 : hget H3 p = some (pblk cur b) := hget_ext (by rw [hget_set hpl, if_pos rfl]) hext
  repeat' first
    | (with_reducible refine AWp_seq_k (fun K hK => ?_))
    | (with_reducible refine AWp_block ?_)
    | (with_reducible refine AWp_skip ?_)
    | (with_reducible refine AWp_exit ?_)
    | (with_reducible refine AWp_ret ?_)
    | (with_reducible refine AWp_regionE ?_)
    | (with_reducible refine AWp_condI ?_)
    | (with_reducible refine EGuard_split (fun hc => ?_) (fun hc => ?_) <;> (try simp only [Bool.not_eq_true', Bool.not_eq_false', decide_eq_true_eq, decide_eq_false_iff_not, beq_iff_eq, beq_eq_false_iff_ne, bne_iff_ne, bne_eq_false_iff_eq, Bool.false_eq_true, ne_eq, Decidable.not_not, Bool.not_eq_eq_eq_not, Bool.not_true, Bool.not_false, not_true_eq_false, not_false_eq_true] at hc) <;> (try (exfalso; first | omega | contradiction)))
    | fail
    | (with_reducible refine AIte (fun hc => ?_) (fun hc => ?_) <;> (try simp only [Bool.not_eq_true', Bool.not_eq_false', decide_eq_true_eq, decide_eq_false_iff_not, beq_iff_eq, beq_eq_false_iff_ne, bne_iff_ne, bne_eq_false_iff_eq, Bool.false_eq_true, ne_eq, Decidable.not_not, Bool.not_eq_eq_eq_not, Bool.not_true, Bool.not_false, not_true_eq_false, not_false_eq_true] at hc) <;> (try (exfalso; first | omega | contradiction)))
    | (simp only [thenA, inBlockA, reduceIte, Nat.reduceEqDiff])
    | ((with_reducible refine hK _ _ ?_); clear hK)
    | (clear hK; (with_reducible refine hK _ _ ?_); clear hK)
    | (clear hK; clear hK; (with_reducible refine hK _ _ ?_); clear hK)
    | (clear hK; clear hK; clear hK; (with_reducible refine hK _ _ ?_); clear hK)
    | (clear hK; clear hK; clear hK; clear hK; (with_reducible refine hK _ _ ?_); clear hK)
    | (clear hK; clear hK; clear hK; clear hK; clear hK; (with_reducible refine hK _ _ ?_); clear hK)
    | (simp only [ACond, Run_nil, Run_cons, Run_pnil, Run_one, Run_alt, EAt_def, EStep_def, E0_def, EGuard_true, EGuard_false, beq_self_eq_true, beq_true, beq_false, bne_self_eq_false, wantedA, acall, astep, ev, ofValue, ofAtom, Fr.put_some, Fr.put_none, fr0_zero, fr0_succ, fr0_nil, Nat.reduceEqDiff, Nat.reduceAdd, Nat.reduceMul, Nat.reduceSub, reduceCtorEq, if_true, if_false, reduceIte, Option.map_some, Option.map_none, Option.bind_some, Option.bind_none, aoptEv, abin, aint, ashift, aun, astr, aeqGuard, isConstOp, or_self, or_true, true_or, or_false, false_or, and_self, and_true, true_and, and_false, false_and, not_true_eq_false, not_false_eq_true, Bool.false_eq_true, Bool.true_eq_false, decide_eq_true_eq, decide_eq_false_iff_not, beq_iff_eq, bne_iff_ne, Bool.not_eq_true', Bool.not_true, Bool.not_false, ne_eq, aconvH, aofStr, aconvSame, isU8, abuildSlice, afill, splice, azeros, AV.solid_int, AV.one_int, AV.cells_int, AV.solid_bool, AV.one_bool, AV.cells_bool, AV.solid_str, AV.one_str, AV.cells_str, AV.solid_nilI, AV.one_nilI, AV.cells_nilI, AV.solid_ifc, AV.one_ifc, AV.cells_ifc, AV.solid_nilP, AV.one_nilP, AV.cells_nilP, AV.solid_ptr, AV.one_ptr, AV.cells_ptr, AV.solid_nilS, AV.one_nilS, AV.cells_nilS, AV.solid_sl, AV.one_sl, AV.cells_sl, AV.solid_sg, AV.one_sg, AV.cells_sg, AV.solid_fn, AV.one_fn, AV.cells_fn, AV.cells_agg, List.replicate_succ, List.replicate_zero, List.flatten_cons, List.flatten_nil, List.append_nil, List.nil_append, List.cons_append, List.take_succ_cons, List.take_zero, List.drop_succ_cons, List.drop_zero, List.length_cons, List.length_nil, List.all_cons, List.all_nil, Bool.and_true, Bool.true_and, Bool.and_self, Nat.reduceLeDiff, Nat.reduceLT, Int.reduceLE, Int.reduceLT, Int.reduceEq, Int.reduceToNat, Int.cast_ofNat_Int, Int.reducePow, IntKind.bits, Nat.min_def, Int.reduceNeg, Nat.zero_add, Nat.reduceEqDiff, hget_push, set_push_new, List.map_cons, List.map_nil, List.toList_toArray, List.getElem?_toArray, List.getElem?_cons_zero, List.getElem?_cons_succ, und3, agg3, size3, bytes3, zero3, und5, agg5, size5, bytes5, zero5, und22, agg22, size22, bytes22, zero22, lenS22, lenG22, lenN22, eqSl22, eqSg22, eqSn22, und32, agg32, size32, bytes32, zero32, lenS32, lenG32, lenN32, eqSl32, eqSg32, eqSn32, und35, agg35, size35, bytes35, zero35, eqPn35, eqPP35, und44, agg44, size44, bytes44, zero44, und45, agg45, size45, bytes45, zero45, k0, k5])
    | (simp (disch := omega) only [optIf, optIfN, selP, selN, avP, avN])
  refine ECall_intro (next_calls H3 p cur b rest hp4 hcur hbr (by omega) (by omega)) ?_
  rintro r H4 ⟨u, rfl, hpay0, hpay, x4⟩
  have hinc := nxt_inc rest
  have hle := nxt_le rest
  repeat' first
    | (with_reducible refine AWp_seq_k (fun K hK => ?_))
    | (with_reducible refine AWp_block ?_)
    | (with_reducible refine AWp_skip ?_)
    | (with_reducible refine AWp_exit ?_)
    | (with_reducible refine AWp_ret ?_)
    | (with_reducible refine AWp_regionE ?_)
    | (with_reducible refine AWp_condI ?_)
    | (with_reducible refine EGuard_split (fun hc => ?_) (fun hc => ?_) <;> (try simp only [Bool.not_eq_true', Bool.not_eq_false', decide_eq_true_eq, decide_eq_false_iff_not, beq_iff_eq, beq_eq_false_iff_ne, bne_iff_ne, bne_eq_false_iff_eq, Bool.false_eq_true, ne_eq, Decidable.not_not, Bool.not_eq_eq_eq_not, Bool.not_true, Bool.not_false, not_true_eq_false, not_false_eq_true] at hc) <;> (try (exfalso; first | omega | contradiction)))
    | fail
    | (with_reducible refine AIte (fun hc => ?_) (fun hc => ?_) <;> (try simp only [Bool.not_eq_true', Bool.not_eq_false', decide_eq_true_eq, decide_eq_false_iff_not, beq_iff_eq, beq_eq_false_iff_ne, bne_iff_ne, bne_eq_false_iff_eq, Bool.false_eq_true, ne_eq, Decidable.not_not, Bool.not_eq_eq_eq_not, Bool.not_true, Bool.not_false, not_true_eq_false, not_false_eq_true] at hc) <;> (try (exfalso; first | omega | contradiction)))
    | (simp only [thenA, inBlockA, reduceIte, Nat.reduceEqDiff])
    | ((with_reducible refine hK _ _ ?_); clear hK)
    | (clear hK; (with_reducible refine hK _ _ ?_); clear hK)
    | (clear hK; clear hK; (with_reducible refine hK _ _ ?_); clear hK)
    | (clear hK; clear hK; clear hK; (with_reducible refine hK _ _ ?_); clear hK)
    | (clear hK; clear hK; clear hK; clear hK; (with_reducible refine hK _ _ ?_); clear hK)
    | (clear hK; clear hK; clear hK; clear hK; clear hK; (with_reducible refine hK _ _ ?_); clear hK)
    | (simp only [ACond, Run_nil, Run_cons, Run_pnil, Run_one, Run_alt, EAt_def, EStep_def, E0_def, EGuard_true, EGuard_false, beq_self_eq_true, beq_true, beq_false, bne_self_eq_false, wantedA, acall, astep, ev, ofValue, ofAtom, Fr.put_some, Fr.put_none, fr0_zero, fr0_succ, fr0_nil, Nat.reduceEqDiff, Nat.reduceAdd, Nat.reduceMul, Nat.reduceSub, reduceCtorEq, if_true, if_false, reduceIte, Option.map_some, Option.map_none, Option.bind_some, Option.bind_none, aoptEv, abin, aint, ashift, aun, astr, aeqGuard, isConstOp, or_self, or_true, true_or, or_false, false_or, and_self, and_true, true_and, and_false, false_and, not_true_eq_false, not_false_eq_true, Bool.false_eq_true, Bool.true_eq_false, decide_eq_true_eq, decide_eq_false_iff_not, beq_iff_eq, bne_iff_ne, Bool.not_eq_true', Bool.not_true, Bool.not_false, ne_eq, aconvH, aofStr, aconvSame, isU8, abuildSlice, afill, splice, azeros, AV.solid_int, AV.one_int, AV.cells_int, AV.solid_bool, AV.one_bool, AV.cells_bool, AV.solid_str, AV.one_str, AV.cells_str, AV.solid_nilI, AV.one_nilI, AV.cells_nilI, AV.solid_ifc, AV.one_ifc, AV.cells_ifc, AV.solid_nilP, AV.one_nilP, AV.cells_nilP, AV.solid_ptr, AV.one_ptr, AV.cells_ptr, AV.solid_nilS, AV.one_nilS, AV.cells_nilS, AV.solid_sl, AV.one_sl, AV.cells_sl, AV.solid_sg, AV.one_sg, AV.cells_sg, AV.solid_fn, AV.one_fn, AV.cells_fn, AV.cells_agg, List.replicate_succ, List.replicate_zero, List.flatten_cons, List.flatten_nil, List.append_nil, List.nil_append, List.cons_append, List.take_succ_cons, List.take_zero, List.drop_succ_cons, List.drop_zero, List.length_cons, List.length_nil, List.all_cons, List.all_nil, Bool.and_true, Bool.true_and, Bool.and_self, Nat.reduceLeDiff, Nat.reduceLT, Int.reduceLE, Int.reduceLT, Int.reduceEq, Int.reduceToNat, Int.cast_ofNat_Int, Int.reducePow, IntKind.bits, Nat.min_def, Int.reduceNeg, Nat.zero_add, Nat.reduceEqDiff, hget_push, set_push_new, List.map_cons, List.map_nil, List.toList_toArray, List.getElem?_toArray, List.getElem?_cons_zero, List.getElem?_cons_succ, und3, agg3, size3, bytes3, zero3, und5, agg5, size5, bytes5, zero5, und22, agg22, size22, bytes22, zero22, lenS22, lenG22, lenN22, eqSl22, eqSg22, eqSn22, und32, agg32, size32, bytes32, zero32, lenS32, lenG32, lenN32, eqSl32, eqSg32, eqSn32, und35, agg35, size35, bytes35, zero35, eqPn35, eqPP35, und44, agg44, size44, bytes44, zero44, und45, agg45, size45, bytes45, zero45, k0, k5])
    | (simp (disch := omega) only [optIf, optIfN, selP, selN, avP, avN])
  · skip
    (
     first | refine AEnd_ret1 rfl ?_ | refine AEnd_ret2 rfl ?_ | refine AEnd_ret3 rfl ?_ | refine AEnd_ret0 rfl ?_
     simp only [Fr.put_some, Fr.put_none, fr0_zero, fr0_succ, fr0_nil, Nat.reduceEqDiff, reduceIte, k5])
    rw [hacc]
    have hn : (nxt rest).1 = 0 := by omega
    have hz : (nxt rest).2.2 = 0 := by omega
    rw [hz, Int.add_zero, set_same hp4] at x4
    rw [show parse (rest.length + 1) rest = ([], rest, 0) from by unfold parse; rw [if_pos hn]]
    refine ⟨vs, cur, Own.ext ho x4, by simpa using hrow.ext x4, hcur.ext x4, ?_, hfc⟩
    rw [show bad + (b - bad + 0) = b by omega]
    exact hext.trans x4
  · have hn : ¬ (nxt rest).1 = 0 := by omega
    have hns : ∀ h o' n', out ≠ .sl h o' n' n' := by
      rcases hout with rfl | ⟨h, rfl⟩ <;> intros <;> simp
    have hp5 : hget H4 p = some (pblk cur (b + (nxt rest).2.2)) := hget_ext (by rw [hget_set (hget_lt hp4), if_pos rfl]) x4
    have hcur4 : Ints H4 .u8 cur rest := (ints_pblk hp4 hcur hcur).ext x4
    have hrow4 : RowsI H4 .u8 vs done := (rows_pblk hp4 hcur hrow).ext x4
    have ho4 : Own H4 1 22 out vs vs.length H.length := Own.ext (own_pblk hpl (hget_lt hp4) ho hns) x4
    have hdl : (rest.drop (nxt rest).1).length = rest.length - (nxt rest).1 := List.length_drop ..
    have hbd : Bytes (rest.drop (nxt rest).1) := fun x hx => hbr x (List.mem_of_mem_drop hx)
    have hext4 : Ext (H.set p (pblk cur (b + (nxt rest).2.2))) H4 := by
      have := Ext.set2 hext (by rw [List.length_set]; exact hpl) (pblk cur (b + (nxt rest).2.2))
      rw [List.set_set] at this
      exact this.trans x4
    have hpar : parse (rest.length + 1) rest = ((if (nxt rest).2.1 = [] then [] else [(nxt rest).2.1]) ++ (parse ((rest.drop (nxt rest).1).length + 1) (rest.drop (nxt rest).1)).1, (parse ((rest.drop (nxt rest).1).length + 1) (rest.drop (nxt rest).1)).2.1, (nxt rest).2.2 + (parse ((rest.drop (nxt rest).1).length + 1) (rest.drop (nxt rest).1)).2.2) := by
      conv => lhs; unfold parse
      rw [if_neg hn, parse_fuel rest.length ((rest.drop (nxt rest).1).length + 1) _ (by omega) (by omega)]
    by_cases hpy : (nxt rest).2.1 = []
    · obtain rfl := hpay0 hpy
      obtain ⟨r2, c2, i2⟩ := hcur4.cut (P := Try.prog) und22 size5 (abounds_lo (k := .i64) hle)
      rw [List.take_of_length_le (by omega)] at i2
      repeat' first
        | (with_reducible refine AWp_seq_k (fun K hK => ?_))
        | (with_reducible refine AWp_block ?_)
        | (with_reducible refine AWp_skip ?_)
        | (with_reducible refine AWp_exit ?_)
        | (with_reducible refine AWp_ret ?_)
        | (with_reducible refine AWp_regionE ?_)
        | (with_reducible refine AWp_condI ?_)
        | (with_reducible refine EGuard_split (fun hc => ?_) (fun hc => ?_) <;> (try simp only [Bool.not_eq_true', Bool.not_eq_false', decide_eq_true_eq, decide_eq_false_iff_not, beq_iff_eq, beq_eq_false_iff_ne, bne_iff_ne, bne_eq_false_iff_eq, Bool.false_eq_true, ne_eq, Decidable.not_not, Bool.not_eq_eq_eq_not, Bool.not_true, Bool.not_false, not_true_eq_false, not_false_eq_true] at hc) <;> (try (exfalso; first | omega | contradiction)))
        | fail
        | (with_reducible refine AIte (fun hc => ?_) (fun hc => ?_) <;> (try simp only [Bool.not_eq_true', Bool.not_eq_false', decide_eq_true_eq, decide_eq_false_iff_not, beq_iff_eq, beq_eq_false_iff_ne, bne_iff_ne, bne_eq_false_iff_eq, Bool.false_eq_true, ne_eq, Decidable.not_not, Bool.not_eq_eq_eq_not, Bool.not_true, Bool.not_false, not_true_eq_false, not_false_eq_true] at hc) <;> (try (exfalso; first | omega | contradiction)))
        | (simp only [thenA, inBlockA, reduceIte, Nat.reduceEqDiff])
        | ((with_reducible refine hK _ _ ?_); clear hK)
        | (clear hK; (with_reducible refine hK _ _ ?_); clear hK)
        | (clear hK; clear hK; (with_reducible refine hK _ _ ?_); clear hK)
        | (clear hK; clear hK; clear hK; (with_reducible refine hK _ _ ?_); clear hK)
        | (clear hK; clear hK; clear hK; clear hK; (with_reducible refine hK _ _ ?_); clear hK)
        | (clear hK; clear hK; clear hK; clear hK; clear hK; (with_reducible refine hK _ _ ?_); clear hK)
        | (simp only [ACond, Run_nil, Run_cons, Run_pnil, Run_one, Run_alt, EAt_def, EStep_def, E0_def, EGuard_true, EGuard_false, beq_self_eq_true, beq_true, beq_false, bne_self_eq_false, wantedA, acall, astep, ev, ofValue, ofAtom, Fr.put_some, Fr.put_none, fr0_zero, fr0_succ, fr0_nil, Nat.reduceEqDiff, Nat.reduceAdd, Nat.reduceMul, Nat.reduceSub, reduceCtorEq, if_true, if_false, reduceIte, Option.map_some, Option.map_none, Option.bind_some, Option.bind_none, aoptEv, abin, aint, ashift, aun, astr, aeqGuard, isConstOp, or_self, or_true, true_or, or_false, false_or, and_self, and_true, true_and, and_false, false_and, not_true_eq_false, not_false_eq_true, Bool.false_eq_true, Bool.true_eq_false, decide_eq_true_eq, decide_eq_false_iff_not, beq_iff_eq, bne_iff_ne, Bool.not_eq_true', Bool.not_true, Bool.not_false, ne_eq, aconvH, aofStr, aconvSame, isU8, abuildSlice, afill, splice, azeros, AV.solid_int, AV.one_int, AV.cells_int, AV.solid_bool, AV.one_bool, AV.cells_bool, AV.solid_str, AV.one_str, AV.cells_str, AV.solid_nilI, AV.one_nilI, AV.cells_nilI, AV.solid_ifc, AV.one_ifc, AV.cells_ifc, AV.solid_nilP, AV.one_nilP, AV.cells_nilP, AV.solid_ptr, AV.one_ptr, AV.cells_ptr, AV.solid_nilS, AV.one_nilS, AV.cells_nilS, AV.solid_sl, AV.one_sl, AV.cells_sl, AV.solid_sg, AV.one_sg, AV.cells_sg, AV.solid_fn, AV.one_fn, AV.cells_fn, AV.cells_agg, List.replicate_succ, List.replicate_zero, List.flatten_cons, List.flatten_nil, List.append_nil, List.nil_append, List.cons_append, List.take_succ_cons, List.take_zero, List.drop_succ_cons, List.drop_zero, List.length_cons, List.length_nil, List.all_cons, List.all_nil, Bool.and_true, Bool.true_and, Bool.and_self, Nat.reduceLeDiff, Nat.reduceLT, Int.reduceLE, Int.reduceLT, Int.reduceEq, Int.reduceToNat, Int.cast_ofNat_Int, Int.reducePow, IntKind.bits, Nat.min_def, Int.reduceNeg, Nat.zero_add, Nat.reduceEqDiff, hget_push, set_push_new, List.map_cons, List.map_nil, List.toList_toArray, List.getElem?_toArray, List.getElem?_cons_zero, List.getElem?_cons_succ, und3, agg3, size3, bytes3, zero3, und5, agg5, size5, bytes5, zero5, und22, agg22, size22, bytes22, zero22, lenS22, lenG22, lenN22, eqSl22, eqSg22, eqSn22, und32, agg32, size32, bytes32, zero32, lenS32, lenG32, lenN32, eqSl32, eqSg32, eqSn32, und35, agg35, size35, bytes35, zero35, eqPn35, eqPP35, und44, agg44, size44, bytes44, zero44, und45, agg45, size45, bytes45, zero45, k0, k5, eq_nil_nil und22, fa0, pl0 hp5 hcur4.rd.one, c2, pst0 hp5 i2.rd.solid i2.rd.cells])
        | (simp (disch := omega) only [optIf, optIfN, selP, selN, avP, avN])
      refine ⟨(rest.drop (nxt rest).1).length, by omega, rest.drop (nxt rest).1, done, vs, r2, b + (nxt rest).2.2, out, rfl, rfl, hout, own_pblk hpl (hget_lt hp5) ho4 hns, rows_pblk hp5 hcur4 hrow4, ints_pblk hp5 hcur4 i2, hbd, ?_, by omega, by omega, by omega, hne, by omega, fun he => by rw [aslice_hd und22 c2]; exact hfc he, ?_⟩
      · have := Ext.set2 hext4 (by rw [List.length_set]; exact hpl) (pblk r2 (b + (nxt rest).2.2))
        rw [List.set_set] at this
        exact this
      · rw [hacc, hpar]
        simp only [if_pos hpy, List.nil_append, Prod.mk.injEq, true_and]
        omega
    · obtain ⟨⟨hu, rfl⟩, hui⟩ := hpay hpy
      have hform := rows_form hrow4
      have hlen0 : (H.set p (pblk cur (b + (nxt rest).2.2))).length = H.length := List.length_set ..
      have ob : Own (H4 ++ [⟨[.sg hu 0 (nxt rest).2.1.length 1], .own, 22⟩]) 1 22 out vs vs.length (H.set p (pblk cur (b + (nxt rest).2.2))).length := by
        rw [hlen0]; exact ho4.push _
      obtain ⟨v2, H5, g2, o5, x5, hsg, hmv⟩ := Own.append2 ob hout (Rd.lit H4 (z := 1) (n := 1) (k := .own) (e := 22) (by decide) rfl) (hext4.pushed _) und32 size22 zero22 rfl (by decide) bytes22 hform.1 rfl (by omega) (by omega) (by decide)
      rw [hlen0] at o5
      have hrne : rest ≠ [] := by
        intro he
        have : rest.length = 0 := by rw [he]; rfl
        omega
      have cur5 : Ints H5 .u8 cur rest := ints_moved (hcur4.push _) hrne hform.2 hmv
      have u5 : Ints H5 .u8 (.sg hu 0 (nxt rest).2.1.length 1) (nxt rest).2.1 := ints_moved (hui.push _) hpy hform.2 hmv
      have row5 : RowsI H5 .u8 vs done := rows_moved hform.2 hmv (hrow4.ext (Ext.push _ _)) hne
      have hp6 : hget H5 p = some (pblk cur (b + (nxt rest).2.2)) := hget_ext (by rw [hget_set hpl, if_pos rfl]) x5
      obtain ⟨r2, c2, i2⟩ := cur5.cut (P := Try.prog) und22 size5 (abounds_lo (k := .i64) hle)
      rw [List.take_of_length_le (by omega)] at i2
      obtain ⟨hv2, rfl⟩ := hsg
      repeat' first
        | (with_reducible refine AWp_seq_k (fun K hK => ?_))
        | (with_reducible refine AWp_block ?_)
        | (with_reducible refine AWp_skip ?_)
        | (with_reducible refine AWp_exit ?_)
        | (with_reducible refine AWp_ret ?_)
        | (with_reducible refine AWp_regionE ?_)
        | (with_reducible refine AWp_condI ?_)
        | (with_reducible refine EGuard_split (fun hc => ?_) (fun hc => ?_) <;> (try simp only [Bool.not_eq_true', Bool.not_eq_false', decide_eq_true_eq, decide_eq_false_iff_not, beq_iff_eq, beq_eq_false_iff_ne, bne_iff_ne, bne_eq_false_iff_eq, Bool.false_eq_true, ne_eq, Decidable.not_not, Bool.not_eq_eq_eq_not, Bool.not_true, Bool.not_false, not_true_eq_false, not_false_eq_true] at hc) <;> (try (exfalso; first | omega | contradiction)))
        | fail
        | (with_reducible refine AIte (fun hc => ?_) (fun hc => ?_) <;> (try simp only [Bool.not_eq_true', Bool.not_eq_false', decide_eq_true_eq, decide_eq_false_iff_not, beq_iff_eq, beq_eq_false_iff_ne, bne_iff_ne, bne_eq_false_iff_eq, Bool.false_eq_true, ne_eq, Decidable.not_not, Bool.not_eq_eq_eq_not, Bool.not_true, Bool.not_false, not_true_eq_false, not_false_eq_true] at hc) <;> (try (exfalso; first | omega | contradiction)))
        | (simp only [thenA, inBlockA, reduceIte, Nat.reduceEqDiff])
        | ((with_reducible refine hK _ _ ?_); clear hK)
        | (clear hK; (with_reducible refine hK _ _ ?_); clear hK)
        | (clear hK; clear hK; (with_reducible refine hK _ _ ?_); clear hK)
        | (clear hK; clear hK; clear hK; (with_reducible refine hK _ _ ?_); clear hK)
        | (clear hK; clear hK; clear hK; clear hK; (with_reducible refine hK _ _ ?_); clear hK)
        | (clear hK; clear hK; clear hK; clear hK; clear hK; (with_reducible refine hK _ _ ?_); clear hK)
        | (simp only [ACond, Run_nil, Run_cons, Run_pnil, Run_one, Run_alt, EAt_def, EStep_def, E0_def, EGuard_true, EGuard_false, beq_self_eq_true, beq_true, beq_false, bne_self_eq_false, wantedA, acall, astep, ev, ofValue, ofAtom, Fr.put_some, Fr.put_none, fr0_zero, fr0_succ, fr0_nil, Nat.reduceEqDiff, Nat.reduceAdd, Nat.reduceMul, Nat.reduceSub, reduceCtorEq, if_true, if_false, reduceIte, Option.map_some, Option.map_none, Option.bind_some, Option.bind_none, aoptEv, abin, aint, ashift, aun, astr, aeqGuard, isConstOp, or_self, or_true, true_or, or_false, false_or, and_self, and_true, true_and, and_false, false_and, not_true_eq_false, not_false_eq_true, Bool.false_eq_true, Bool.true_eq_false, decide_eq_true_eq, decide_eq_false_iff_not, beq_iff_eq, bne_iff_ne, Bool.not_eq_true', Bool.not_true, Bool.not_false, ne_eq, aconvH, aofStr, aconvSame, isU8, abuildSlice, afill, splice, azeros, AV.solid_int, AV.one_int, AV.cells_int, AV.solid_bool, AV.one_bool, AV.cells_bool, AV.solid_str, AV.one_str, AV.cells_str, AV.solid_nilI, AV.one_nilI, AV.cells_nilI, AV.solid_ifc, AV.one_ifc, AV.cells_ifc, AV.solid_nilP, AV.one_nilP, AV.cells_nilP, AV.solid_ptr, AV.one_ptr, AV.cells_ptr, AV.solid_nilS, AV.one_nilS, AV.cells_nilS, AV.solid_sl, AV.one_sl, AV.cells_sl, AV.solid_sg, AV.one_sg, AV.cells_sg, AV.solid_fn, AV.one_fn, AV.cells_fn, AV.cells_agg, List.replicate_succ, List.replicate_zero, List.flatten_cons, List.flatten_nil, List.append_nil, List.nil_append, List.cons_append, List.take_succ_cons, List.take_zero, List.drop_succ_cons, List.drop_zero, List.length_cons, List.length_nil, List.all_cons, List.all_nil, Bool.and_true, Bool.true_and, Bool.and_self, Nat.reduceLeDiff, Nat.reduceLT, Int.reduceLE, Int.reduceLT, Int.reduceEq, Int.reduceToNat, Int.cast_ofNat_Int, Int.reducePow, IntKind.bits, Nat.min_def, Int.reduceNeg, Nat.zero_add, Nat.reduceEqDiff, hget_push, set_push_new, List.map_cons, List.map_nil, List.toList_toArray, List.getElem?_toArray, List.getElem?_cons_zero, List.getElem?_cons_succ, und3, agg3, size3, bytes3, zero3, und5, agg5, size5, bytes5, zero5, und22, agg22, size22, bytes22, zero22, lenS22, lenG22, lenN22, eqSl22, eqSg22, eqSn22, und32, agg32, size32, bytes32, zero32, lenS32, lenG32, lenN32, eqSl32, eqSg32, eqSn32, und35, agg35, size35, bytes35, zero35, eqPn35, eqPP35, und44, agg44, size44, bytes44, zero44, und45, agg45, size45, bytes45, zero45, k0, k5, eq_sg_nil und22, g2, fa0, pl0 hp6 cur5.rd.one, c2, pst0 hp6 i2.rd.solid i2.rd.cells])
        | (simp (disch := omega) only [optIf, optIfN, selP, selN, avP, avN])
      have row6 := rows_snoc u5 row5
      refine ⟨(rest.drop (nxt rest).1).length, by omega, rest.drop (nxt rest).1, done ++ [(nxt rest).2.1], vs ++ [.sg hu 0 (nxt rest).2.1.length 1], r2, b + (nxt rest).2.2, .sg hv2 0 (vs.length + 1) 1, rfl, rfl, .inr ⟨hv2, by simp⟩, ?_, rows_pblk hp6 cur5 row6, ints_pblk hp6 cur5 i2, hbd, ?_, by omega, by omega, by omega, ?_, by rw [List.length_append, List.length_singleton]; omega, fun he => by rw [aslice_hd und22 c2]; exact hfc he, ?_⟩
      · rw [List.length_append, List.length_singleton]
        exact own_pblk hpl (hget_lt hp6) o5 (by intros; simp)
      · have := Ext.set2 x5 (by rw [List.length_set]; exact hpl) (pblk r2 (b + (nxt rest).2.2))
        rw [List.set_set] at this
        exact this
      · intro q hq
        rcases List.mem_append.1 hq with hq | hq
        · exact hne q hq
        · rw [List.mem_singleton.1 hq]; exact hpy
      · rw [hacc, hpar]
        simp only [if_neg hpy, List.append_assoc, Prod.mk.injEq, true_and]
        omega
end Go.Proofs.Ytdlplfhkmhkngaa

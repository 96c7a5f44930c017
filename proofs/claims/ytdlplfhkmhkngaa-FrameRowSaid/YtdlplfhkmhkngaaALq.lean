/- Slices that grow by append, as rules to rewrite by. -/
import Derived.Test.YtdlplfhkmhkngaaALp
set_option linter.unusedVariables false
set_option linter.unusedSimpArgs false
namespace Go.AL
open Go.RowKit

theorem all_one_map {α : Type} {f : α → AV} (hf : ∀ x, (f x).one = true) (xs : List α) : (xs.map f).all AV.one = true := by
  simp [hf]
theorem ints_one (k : IntKind) (xs : List Int) : (xs.map (AV.int k)).all AV.one = true := all_one_map (fun _ => rfl) xs

theorem nil_len {P : Program} {t e : TypeId} (hu : P.underlying t = some (.slice e)) : abuiltin P .len #[t] [.nilS] = some (.int .i64 0) := (Rd.nil [] 1).len hu
theorem nil_cap {P : Program} {t e : TypeId} (hu : P.underlying t = some (.slice e)) : abuiltin P .cap #[t] [.nilS] = some (.int .i64 0) := by simp [abuiltin, hu]
theorem nil_cut {P : Program} {t e : TypeId} {k : IntKind} {z : Nat} (hu : P.underlying t = some (.slice e)) (hz : sizeT P e = some z) : aslice P t .nilS none (some (.int k 0)) none = some .nilS := by simp [aslice, hu, hz, abounds, abound]
theorem sg_cut {P : Program} {t e : TypeId} {k : IntKind} {z h o n q : Nat} (hu : P.underlying t = some (.slice e)) (hz : sizeT P e = some z) (hq : q ≤ n) : aslice P t (.sg h o n z) none (some (.int k (q : Int))) none = some (.sg h o q z) := by simp [aslice, hu, hz, abounds, abound, hq]
theorem sg_cut0 {P : Program} {t e : TypeId} {k : IntKind} {z h o n : Nat} (hu : P.underlying t = some (.slice e)) (hz : sizeT P e = some z) : aslice P t (.sg h o n z) none (some (.int k 0)) none = some (.sg h o 0 z) := sg_cut (q := 0) hu hz (Nat.zero_le _)

theorem aeqIn_succ {P : Program} {t : TypeId} {x y : AV} {b : Bool} (h : ∀ d, aeqIn P (d + 1) t x y = some b) : aeqIn P Op.maxDepth t x y = some b := h (Op.maxDepth - 1)
theorem eq_nil_nil {P : Program} {t e : TypeId} (hu : P.underlying t = some (.slice e)) : aeqIn P Op.maxDepth t .nilS .nilS = some true := aeqIn_succ fun d => by simp [aeqIn, hu]
theorem eq_sl_nil {P : Program} {t e : TypeId} {h o n c : Nat} (hu : P.underlying t = some (.slice e)) : aeqIn P Op.maxDepth t (.sl h o n c) .nilS = some false := aeqIn_succ fun d => by simp [aeqIn, hu]
theorem eq_sg_nil {P : Program} {t e : TypeId} {h o n z : Nat} (hu : P.underlying t = some (.slice e)) : aeqIn P Op.maxDepth t (.sg h o n z) .nilS = some false := aeqIn_succ fun d => by simp [aeqIn, hu]

/-- append to nil: a new block. -/
theorem append_nil {P : Program} {H : Hp} {z n by_ : Nat} {x zv : AV} {cs : List AV} {t e : TypeId} (h : Rd H z x cs n) (hu : P.underlying t = some (.slice e)) (hz : sizeT P e = some z) (hzv : zeroT P e = some zv) (hzl : zv.cells.length = z) (hz0 : 0 < z) (hb : bytesT P e = some by_)
    (ho : cs.all AV.one = true) (hn : 0 < n) (hby : n * by_ ≤ 140737488355328) (hm : n ≤ 140737488355328) : aappend P H t .nilS x = some (.sg H.length 0 n z, H ++ [⟨cs, .own, e⟩]) := by
  have h1 : n ≠ 0 := by omega
  simp [aappend, hu, hz, hzv, hb, hzl, hz0, h.row, ho, h1, hby, hm, agrown]
theorem append_none {P : Program} {H : Hp} {z by_ : Nat} {s x zv : AV} {cs : List AV} {t e : TypeId} (h : Rd H z x cs 0) (hu : P.underlying t = some (.slice e)) (hz : sizeT P e = some z) (hzv : zeroT P e = some zv) (hzl : zv.cells.length = z) (hz0 : 0 < z) (hb : bytesT P e = some by_)
    (ho : cs.all AV.one = true) (hs : s = .nilS ∨ (∃ h o n, s = .sl h o n n) ∨ ∃ h o n, s = .sg h o n z) : aappend P H t s x = some (s, H) := by
  rcases hs with rfl | ⟨h', o, n, rfl⟩ | ⟨h', o, n, rfl⟩ <;> simp [aappend, hu, hz, hzv, hb, hzl, hz0, h.row, ho]

/-- A slice of the run's own whose block it fills. -/
structure Own (H : Hp) (z : Nat) (e : TypeId) (v : AV) (cs : List AV) (n : Nat) (lo : Nat) : Prop where
  row : (v = .nilS ∧ cs = [] ∧ n = 0) ∨ (∃ h o, v = .sl h o n n ∧ Rd H z v cs n ∧ ∃ b, hget H h = some b ∧ b.ety = e) ∨ ∃ h, v = .sg h 0 n z ∧ hget H h = some ⟨cs, .own, e⟩ ∧ cs.length = n * z ∧ lo ≤ h
theorem Own.rd {H : Hp} {z : Nat} {e : TypeId} {v : AV} {cs : List AV} {n lo : Nat} (h : Own H z e v cs n lo) : Rd H z v cs n := by
  rcases h.row with ⟨rfl, rfl, rfl⟩ | ⟨h', o, rfl, h, _⟩ | ⟨h', rfl, hg, hl, _⟩
  · exact Rd.nil _ _
  · exact h
  · refine ⟨?_, rfl⟩
    simp only [arow, hg]
    rw [if_neg (by decide), if_pos (by omega), List.drop_zero, List.take_of_length_le (by omega)]
theorem Own.ety {H : Hp} {z : Nat} {e : TypeId} {v : AV} {cs : List AV} {n lo : Nat} (h : Own H z e v cs n lo) : v = .nilS ∨ ∃ b, hget H v.hd = some b ∧ b.ety = e := by
  rcases h.row with ⟨rfl, _⟩ | ⟨h', o, rfl, _, h⟩ | ⟨h', rfl, hg, _⟩
  · exact .inl rfl
  · exact .inr h
  · exact .inr ⟨_, hg, rfl⟩
theorem Own.nil (H : Hp) (z : Nat) (e : TypeId) (lo : Nat) : Own H z e .nilS [] 0 lo := ⟨.inl ⟨rfl, rfl, rfl⟩⟩
theorem Own.push {H : Hp} {z : Nat} {e : TypeId} {v : AV} {cs : List AV} {n lo : Nat} (h : Own H z e v cs n lo) (b : Blk) : Own (H ++ [b]) z e v cs n lo := by
  refine ⟨?_⟩
  rcases h.row with h | ⟨h', o, rfl, h, b', hb1, hb2⟩ | ⟨h', h1, h2, h3, h4⟩
  · exact .inl h
  · exact .inr (.inl ⟨h', o, rfl, h.push b, b', hget_ext hb1 (Ext.push _ _), hb2⟩)
  · exact .inr (.inr ⟨h', h1, hget_ext h2 (Ext.push _ _), h3, h4⟩)
theorem Ext.set {H H' : Hp} (x : Ext H H') {h : Nat} (hl : H.length ≤ h) (b : Blk) : Ext H (H'.set h b) := by
  obtain ⟨E, rfl⟩ := x
  exact ⟨E.set (h - H.length) b, by rw [List.set_append]; simp [show ¬ h < H.length by omega]⟩
theorem Ext.pushed {H X : Hp} (x : Ext H X) (b : Blk) : Ext H (X ++ [b]) := x.trans (Ext.push X b)

theorem Own.ext {H H' : Hp} {z : Nat} {e : TypeId} {v : AV} {cs : List AV} {n lo : Nat} (h : Own H z e v cs n lo) (x : Ext H H') : Own H' z e v cs n lo := by
  refine ⟨?_⟩
  rcases h.row with h | ⟨h', o, h1, h, b, hb1, hb2⟩ | ⟨h', h1, h2, h3, h4⟩
  · exact .inl h
  · exact .inr (.inl ⟨h', o, h1, h.ext x, b, hget_ext hb1 x, hb2⟩)
  · exact .inr (.inr ⟨h', h1, hget_ext h2 x, h3, h4⟩)
theorem Ext.set2 {H H' : Hp} (x : Ext H H') {p : Nat} (hl : p < H.length) (b : Blk) : Ext (H.set p b) (H'.set p b) := by
  obtain ⟨E, rfl⟩ := x
  exact ⟨E, by rw [List.set_append_left _ _ hl]⟩

/-- append to one's own. -/
theorem Own.append {P : Program} {H0 H : Hp} {z n m by_ : Nat} {s x zv : AV} {cs ds : List AV} {t e : TypeId} (h : Own H z e s cs n H0.length) (hx : Rd H z x ds m) (x0 : Ext H0 H) (hu : P.underlying t = some (.slice e)) (hz : sizeT P e = some z) (hzv : zeroT P e = some zv) (hzl : zv.cells.length = z) (hz0 : 0 < z) (hb : bytesT P e = some by_)
    (hc : cs.all AV.one = true) (ho : ds.all AV.one = true) (hby : (n + m) * by_ ≤ 140737488355328) (hm : n + m ≤ 140737488355328) :
    ∃ v' H', aappend P H t s x = some (v', H') ∧ Own H' z e v' (cs ++ ds) (n + m) H0.length ∧ Ext H0 H' ∧ (0 < m → ∃ h, v' = .sg h 0 (n + m) z) := by
  rcases Nat.eq_zero_or_pos m with rfl | hmp
  · have : ds = [] := List.eq_nil_of_length_eq_zero (by rw [hx.length]; omega)
    subst this
    refine ⟨s, H, append_none hx hu hz hzv hzl hz0 hb rfl ?_, by simpa using h, x0, fun h => absurd h (by omega)⟩
    rcases h.row with h | ⟨h', o, h1, _⟩ | ⟨h', h1, _⟩
    · exact .inl h.1
    · exact .inr (.inl ⟨_, _, _, h1⟩)
    · exact .inr (.inr ⟨_, _, _, h1⟩)
  · rcases h.row with ⟨rfl, rfl, rfl⟩ | ⟨h', o, rfl, hr, _⟩ | ⟨h', rfl, hg, hl, hlo⟩
    · refine ⟨_, _, append_nil hx hu hz hzv hzl hz0 hb ho hmp (by simpa using hby) (by omega), ?_, x0.pushed _, fun _ => ⟨_, by rw [Nat.zero_add]⟩⟩
      rw [Nat.zero_add, List.nil_append]
      exact ⟨.inr (.inr ⟨_, rfl, by simp [hget_push], hx.length, x0.len⟩)⟩
    · have h1 : m ≠ 0 := by omega
      have h2 : ¬ n + m ≤ n := by omega
      refine ⟨.sg H.length 0 (n + m) z, H ++ [⟨cs ++ ds, .own, e⟩], ?_, ⟨.inr (.inr ⟨_, rfl, by simp [hget_push], ?_, x0.len⟩)⟩, x0.pushed _, fun _ => ⟨_, rfl⟩⟩
      · simp only [aappend, hu, hz, hzv, hb, hzl, hz0, hx.row, ho, and_self, if_true, h1, false_and, if_false, h2, hby, hm, Nat.le_refl, hr.row, hc, agrown]
      · rw [List.length_append, hr.length, hx.length, Nat.add_mul]
    · have h1 : m ≠ 0 := by omega
      have hmz : 0 < m * z := Nat.mul_pos hmp hz0
      have h2 : ¬ n * z + m * z ≤ cs.length := by omega
      have h3 : cs.take (n * z) = cs := List.take_of_length_le (by omega)
      have h4 : n * z ≤ cs.length := by omega
      refine ⟨.sg H.length 0 (n + m) z, H.set h' ⟨[], .dead, e⟩ ++ [⟨cs ++ ds, .own, e⟩], ?_, ?_, (x0.set hlo _).pushed _, fun _ => ⟨_, rfl⟩⟩
      · simp [aappend, hu, hz, hzv, hb, hzl, hz0, hx.row, ho, h1, hby, hm, hg, h2, h3, h4, hc]
      · refine ⟨.inr (.inr ⟨_, rfl, ?_, ?_, x0.len⟩)⟩
        · simp [hget_push]
        · rw [List.length_append, hl, hx.length, Nat.add_mul]

/-- append to a slice without spare room. -/
theorem append_full {P : Program} {H : Hp} {h o z n m by_ : Nat} {x zv : AV} {cs ds : List AV} {t e : TypeId} (hs : Rd H z (.sl h o n n) cs n) (hx : Rd H z x ds m) (hu : P.underlying t = some (.slice e)) (hz : sizeT P e = some z) (hzv : zeroT P e = some zv) (hzl : zv.cells.length = z) (hz0 : 0 < z) (hb : bytesT P e = some by_)
    (hc : cs.all AV.one = true) (ho : ds.all AV.one = true) (hby : (n + m) * by_ ≤ 140737488355328) (hm : n + m ≤ 140737488355328) :
    ∃ v' H', aappend P H t (.sl h o n n) x = some (v', H') ∧ Rd H' z v' (cs ++ ds) (n + m) ∧ Ext H H' := by
  rcases Nat.eq_zero_or_pos m with rfl | hmp
  · have : ds = [] := List.eq_nil_of_length_eq_zero (by rw [hx.length]; omega)
    subst this
    refine ⟨.sl h o n n, H, ?_, by simpa using hs, Ext.refl _⟩
    simp [aappend, hu, hz, hzv, hb, hzl, hz0, hx.row]
  · have h1 : m ≠ 0 := by omega
    refine ⟨_, _, ?_, Rd.grown H (z := z) (n := n + m) (cs := cs ++ ds) (k := .own) (e := e) (by decide) (by rw [List.length_append, hs.length, hx.length, Nat.add_mul]), Ext.push _ _⟩
    have h2 : ¬ n + m ≤ n := by omega
    simp only [aappend, hu, hz, hzv, hb, hzl, hz0, hx.row, ho, and_self, if_true, h1, false_and, if_false, h2, hby, hm, Nat.le_refl, hs.row, hc, agrown]

theorem append_full_ints {P : Program} {H : Hp} {h o n by_ : Nat} {k : IntKind} {i : Int} {x : AV} {xs ys : List Int} {t e : TypeId} (hs : Rd H 1 (.sl h o n n) (xs.map (AV.int k)) n) (hx : Ints H k x ys) (hu : P.underlying t = some (.slice e)) (hz : sizeT P e = some 1) (hzv : zeroT P e = some (.int k i)) (hb : bytesT P e = some by_)
    (hby : (n + ys.length) * by_ ≤ 140737488355328) (hm : n + ys.length ≤ 140737488355328) :
    ∃ v' H', aappend P H t (.sl h o n n) x = some (v', H') ∧ Ints H' k v' (xs ++ ys) := by
  obtain ⟨v', H', g1, g2, _⟩ := append_full hs hx hu hz hzv rfl (by decide) hb (ints_one _ _) (ints_one _ _) hby hm
  refine ⟨v', H', g1, ?_⟩
  have hl := hs.length
  rw [List.length_map, Nat.mul_one] at hl
  unfold Ints
  rw [List.map_append, List.length_append, hl]
  exact g2

/-- make of integers. -/
theorem azeros_int (k : IntKind) (n : Nat) : azeros [AV.int k 0] n = (List.replicate n (0 : Int)).map (AV.int k) := by
  induction n with
  | zero => simp [azeros]
  | succ n ih => simp only [azeros, List.replicate_succ, List.flatten_cons, List.map_cons, List.cons_append, List.nil_append] at ih ⊢; rw [ih]
theorem make_ints {P : Program} {H : Hp} {n by_ : Nat} {k l : IntKind} {t e : TypeId} (hu : P.underlying t = some (.slice e)) (hz : sizeT P e = some 1) (hzv : zeroT P e = some (.int k 0)) (hb : bytesT P e = some by_)
    (hn : n ≤ 140737488355328) (hby : n * by_ ≤ 140737488355328) : amakeSlice P H t (.int l (n : Int)) (.int l (n : Int)) = some (.sl H.length 0 n n, H ++ [⟨(List.replicate n (0 : Int)).map (AV.int k), .own, e⟩]) := by
  have h1 : (n : Int) * (by_ : Int) ≤ 281474976710656 := by
    rw [← Int.natCast_mul]; omega
  simp only [amakeSlice, hu, hz, hzv, hb, AV.cells_int, List.length_singleton, List.all_cons, AV.one_int, List.all_nil, Bool.and_true, Int.toNat_natCast, azeros_int]
  rw [if_pos ⟨trivial, trivial, by decide, by omega, by omega, by omega, h1⟩]

/-- One cell written. -/
theorem splice_set {α : Type} (f : α → AV) (xs : List α) {i : Nat} (y : α) (h : i < xs.length) : splice (xs.map f) i [f y] = (xs.set i y).map f := by
  unfold splice
  apply List.ext_getElem?
  intro j
  rw [List.append_assoc, List.getElem?_append]
  simp only [List.length_take, List.length_map, List.length_singleton, Nat.min_eq_left (Nat.le_of_lt h), List.map_set]
  by_cases hj : j < i
  · rw [if_pos hj, List.getElem?_take, if_pos hj, List.getElem?_set_ne (by omega)]
  · rw [if_neg hj]
    by_cases he : j = i
    · subst he
      simp [h]
    · obtain ⟨d, rfl⟩ : ∃ d, j = i + 1 + d := ⟨j - i - 1, by omega⟩
      have e1 : i + 1 + d - i = d + 1 := by omega
      rw [e1, List.singleton_append, List.getElem?_cons_succ, List.getElem?_drop, List.getElem?_set_ne (by omega)]
end Go.AL

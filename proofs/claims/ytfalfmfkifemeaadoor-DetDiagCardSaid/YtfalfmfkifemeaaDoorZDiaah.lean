/- Part 8 of the proof of laws of this seat: lemmas on the model's code, on this program's functions, on numbers. No condition. -/
import Derived.Test.YtfalfmfkifemeaaDoorZDiaag
set_option linter.unusedVariables false
set_option linter.unusedSimpArgs false
namespace Go.AL
open Go.RowKit
theorem all_one_map {α : Type} {f : α → AV} (hf : ∀ x, (f x).one = true) (xs : List α) : (xs.map f).all AV.one = true := by
  simp [hf]
theorem ints_one (k : IntKind) (xs : List Int) : (xs.map (AV.int k)).all AV.one = true := all_one_map (fun _ => rfl) xs
theorem aeqIn_succ {P : Program} {t : TypeId} {x y : AV} {b : Bool} (h : ∀ d, aeqIn P (d + 1) t x y = some b) : aeqIn P Op.maxDepth t x y = some b := h (Op.maxDepth - 1)
theorem eq_nil_nil {P : Program} {t e : TypeId} (hu : P.underlying t = some (.slice e)) : aeqIn P Op.maxDepth t .nilS .nilS = some true := aeqIn_succ fun d => by simp [aeqIn, hu]
theorem eq_sl_nil {P : Program} {t e : TypeId} {h o n c : Nat} (hu : P.underlying t = some (.slice e)) : aeqIn P Op.maxDepth t (.sl h o n c) .nilS = some false := aeqIn_succ fun d => by simp [aeqIn, hu]
theorem eq_sg_nil {P : Program} {t e : TypeId} {h o n z : Nat} (hu : P.underlying t = some (.slice e)) : aeqIn P Op.maxDepth t (.sg h o n z) .nilS = some false := aeqIn_succ fun d => by simp [aeqIn, hu]
/-- append to nil: a new block. -/
theorem append_nil {P : Program} {H : Hp} {z n by_ : Nat} {x zv : AV} {cs : List AV} {t e : TypeId} (h : Rd H z x cs n) (hu : P.underlying t = some (.slice e)) (hz : sizeT P e = some z) (hzv : zeroT P e = some zv) (hzl : zv.cells.length = z) (hz0 : 0 < z) (hb : bytesT P e = some by_)
    (ho : cs.all AV.one = true) (hn : 0 < n) (hby : n * by_ ≤ 140737488355328) (hm : n ≤ 140737488355328) : aappend P H t .nilS x = some (.sg H.length 0 n z, H ++ [⟨cs, .own, e⟩]) := by
  have h1 : n ≠ 0 := by omega
  simp [aappend, hu, hz, hzv, hb, hzl, hz0, h.row, ho, h1, hby, hm, agrown]
theorem append_none {P : Program} {H : Hp} {z by_ : Nat} {s x zv : AV} {cs : List AV} {t e : TypeId} (h : Rd H z x cs 0) (hu : P.underlying t = some (.slice e)) (hz : sizeT P e = some z) (hzv : zeroT P e = some zv) (hzl : zv.cells.length = z) (hz0 : 0 < z) (hb : bytesT P e = some by_)
    (ho : cs.all AV.one = true) (hs : s = .nilS ∨ (∃ h o n, s = .sl h o n n) ∨ ∃ h o n, s = .sg h o n z) : aappend P H t s x = some (s, H) := by
  rcases hs with rfl | ⟨h', o, n, rfl⟩ | ⟨h', o, n, rfl⟩ <;> simp [aappend, hu, hz, hzv, hb, hzl, hz0, h.row, ho]
/-- A slice of the run's own whose block it fills. -/
structure Own (H : Hp) (z : Nat) (e : TypeId) (v : AV) (cs : List AV) (n : Nat) (lo : Nat) : Prop where
  row : (v = .nilS ∧ cs = [] ∧ n = 0) ∨ (∃ h o, v = .sl h o n n ∧ Rd H z v cs n ∧ ∃ b, hget H h = some b ∧ b.ety = e) ∨ ∃ h, v = .sg h 0 n z ∧ hget H h = some ⟨cs, .own, e⟩ ∧ cs.length = n * z ∧ lo ≤ h
theorem Own.rd {H : Hp} {z : Nat} {e : TypeId} {v : AV} {cs : List AV} {n lo : Nat} (h : Own H z e v cs n lo) : Rd H z v cs n := by
  rcases h.row with ⟨rfl, rfl, rfl⟩ | ⟨h', o, rfl, h, _⟩ | ⟨h', rfl, hg, hl, _⟩
  · exact Rd.nil _ _
  · exact h
  · refine ⟨?_, rfl⟩
    simp only [arow, hg]
    rw [if_neg (by decide), if_pos (by omega), List.drop_zero, List.take_of_length_le (by omega)]
theorem Own.ety {H : Hp} {z : Nat} {e : TypeId} {v : AV} {cs : List AV} {n lo : Nat} (h : Own H z e v cs n lo) : v = .nilS ∨ ∃ b, hget H v.hd = some b ∧ b.ety = e := by
  rcases h.row with ⟨rfl, _⟩ | ⟨h', o, rfl, _, h⟩ | ⟨h', rfl, hg, _⟩
  · exact .inl rfl
  · exact .inr h
  · exact .inr ⟨_, hg, rfl⟩
theorem Own.nil (H : Hp) (z : Nat) (e : TypeId) (lo : Nat) : Own H z e .nilS [] 0 lo := ⟨.inl ⟨rfl, rfl, rfl⟩⟩
theorem Own.push {H : Hp} {z : Nat} {e : TypeId} {v : AV} {cs : List AV} {n lo : Nat} (h : Own H z e v cs n lo) (b : Blk) : Own (H ++ [b]) z e v cs n lo := by
  refine ⟨?_⟩
  rcases h.row with h | ⟨h', o, rfl, h, b', hb1, hb2⟩ | ⟨h', h1, h2, h3, h4⟩
  · exact .inl h
  · exact .inr (.inl ⟨h', o, rfl, h.push b, b', hget_ext hb1 (Ext.push _ _), hb2⟩)
  · exact .inr (.inr ⟨h', h1, hget_ext h2 (Ext.push _ _), h3, h4⟩)
theorem Ext.set {H H' : Hp} (x : Ext H H') {h : Nat} (hl : H.length ≤ h) (b : Blk) : Ext H (H'.set h b) := by
  obtain ⟨E, rfl⟩ := x
  exact ⟨E.set (h - H.length) b, by rw [List.set_append]; simp [show ¬ h < H.length by omega]⟩
theorem Ext.pushed {H X : Hp} (x : Ext H X) (b : Blk) : Ext H (X ++ [b]) := x.trans (Ext.push X b)
theorem Own.ext {H H' : Hp} {z : Nat} {e : TypeId} {v : AV} {cs : List AV} {n lo : Nat} (h : Own H z e v cs n lo) (x : Ext H H') : Own H' z e v cs n lo := by
  refine ⟨?_⟩
  rcases h.row with h | ⟨h', o, h1, h, b, hb1, hb2⟩ | ⟨h', h1, h2, h3, h4⟩
  · exact .inl h
  · exact .inr (.inl ⟨h', o, h1, h.ext x, b, hget_ext hb1 x, hb2⟩)
  · exact .inr (.inr ⟨h', h1, hget_ext h2 x, h3, h4⟩)
/-- append to one's own. -/
theorem Own.append {P : Program} {H0 H : Hp} {z n m by_ : Nat} {s x zv : AV} {cs ds : List AV} {t e : TypeId} (h : Own H z e s cs n H0.length) (hx : Rd H z x ds m) (x0 : Ext H0 H) (hu : P.underlying t = some (.slice e)) (hz : sizeT P e = some z) (hzv : zeroT P e = some zv) (hzl : zv.cells.length = z) (hz0 : 0 < z) (hb : bytesT P e = some by_)
    (hc : cs.all AV.one = true) (ho : ds.all AV.one = true) (hby : (n + m) * by_ ≤ 140737488355328) (hm : n + m ≤ 140737488355328) :
    ∃ v' H', aappend P H t s x = some (v', H') ∧ Own H' z e v' (cs ++ ds) (n + m) H0.length ∧ Ext H0 H' ∧ (0 < m → ∃ h, v' = .sg h 0 (n + m) z) := by
  rcases Nat.eq_zero_or_pos m with rfl | hmp
  · have : ds = [] := List.eq_nil_of_length_eq_zero (by rw [hx.length]; omega)
    subst this
    refine ⟨s, H, append_none hx hu hz hzv hzl hz0 hb rfl ?_, by simpa using h, x0, fun h => absurd h (by omega)⟩
    rcases h.row with h | ⟨h', o, h1, _⟩ | ⟨h', h1, _⟩
    · exact .inl h.1
    · exact .inr (.inl ⟨_, _, _, h1⟩)
    · exact .inr (.inr ⟨_, _, _, h1⟩)
  · rcases h.row with ⟨rfl, rfl, rfl⟩ | ⟨h', o, rfl, hr, _⟩ | ⟨h', rfl, hg, hl, hlo⟩
    · refine ⟨_, _, append_nil hx hu hz hzv hzl hz0 hb ho hmp (by simpa using hby) (by omega), ?_, x0.pushed _, fun _ => ⟨_, by rw [Nat.zero_add]⟩⟩
      rw [Nat.zero_add, List.nil_append]
      exact ⟨.inr (.inr ⟨_, rfl, by simp [hget_push], hx.length, x0.len⟩)⟩
    · have h1 : m ≠ 0 := by omega
      have h2 : ¬ n + m ≤ n := by omega
      refine ⟨.sg H.length 0 (n + m) z, H ++ [⟨cs ++ ds, .own, e⟩], ?_, ⟨.inr (.inr ⟨_, rfl, by simp [hget_push], ?_, x0.len⟩)⟩, x0.pushed _, fun _ => ⟨_, rfl⟩⟩
      · simp only [aappend, hu, hz, hzv, hb, hzl, hz0, hx.row, ho, and_self, if_true, h1, false_and, if_false, h2, hby, hm, Nat.le_refl, hr.row, hc, agrown]
      · rw [List.length_append, hr.length, hx.length, Nat.add_mul]
    · have h1 : m ≠ 0 := by omega
      have hmz : 0 < m * z := Nat.mul_pos hmp hz0
      have h2 : ¬ n * z + m * z ≤ cs.length := by omega
      have h3 : cs.take (n * z) = cs := List.take_of_length_le (by omega)
      have h4 : n * z ≤ cs.length := by omega
      refine ⟨.sg H.length 0 (n + m) z, H.set h' ⟨[], .dead, e⟩ ++ [⟨cs ++ ds, .own, e⟩], ?_, ?_, (x0.set hlo _).pushed _, fun _ => ⟨_, rfl⟩⟩
      · simp [aappend, hu, hz, hzv, hb, hzl, hz0, hx.row, ho, h1, hby, hm, hg, h2, h3, h4, hc]
      · refine ⟨.inr (.inr ⟨_, rfl, ?_, ?_, x0.len⟩)⟩
        · simp [hget_push]
        · rw [List.length_append, hl, hx.length, Nat.add_mul]
/-- make of integers. -/
theorem azeros_int (k : IntKind) (n : Nat) : azeros [AV.int k 0] n = (List.replicate n (0 : Int)).map (AV.int k) := by
  induction n with
  | zero => simp [azeros]
  | succ n ih => simp only [azeros, List.replicate_succ, List.flatten_cons, List.map_cons, List.cons_append, List.nil_append] at ih ⊢; rw [ih]
theorem make_ints {P : Program} {H : Hp} {n by_ : Nat} {k l : IntKind} {t e : TypeId} (hu : P.underlying t = some (.slice e)) (hz : sizeT P e = some 1) (hzv : zeroT P e = some (.int k 0)) (hb : bytesT P e = some by_)
    (hn : n ≤ 140737488355328) (hby : n * by_ ≤ 140737488355328) : amakeSlice P H t (.int l (n : Int)) (.int l (n : Int)) = some (.sl H.length 0 n n, H ++ [⟨(List.replicate n (0 : Int)).map (AV.int k), .own, e⟩]) := by
  have h1 : (n : Int) * (by_ : Int) ≤ 281474976710656 := by
    rw [← Int.natCast_mul]; omega
  simp only [amakeSlice, hu, hz, hzv, hb, AV.cells_int, List.length_singleton, List.all_cons, AV.one_int, List.all_nil, Bool.and_true, Int.toNat_natCast, azeros_int]
  rw [if_pos ⟨trivial, trivial, by decide, by omega, by omega, by omega, h1⟩]
/-- One cell written. -/
theorem splice_set {α : Type} (f : α → AV) (xs : List α) {i : Nat} (y : α) (h : i < xs.length) : splice (xs.map f) i [f y] = (xs.set i y).map f := by
  unfold splice
  apply List.ext_getElem?
  intro j
  rw [List.append_assoc, List.getElem?_append]
  simp only [List.length_take, List.length_map, List.length_singleton, Nat.min_eq_left (Nat.le_of_lt h), List.map_set]
  by_cases hj : j < i
  · rw [if_pos hj, List.getElem?_take, if_pos hj, List.getElem?_set_ne (by omega)]
  · rw [if_neg hj]
    by_cases he : j = i
    · subst he
      simp [h]
    · obtain ⟨d, rfl⟩ : ∃ d, j = i + 1 + d := ⟨j - i - 1, by omega⟩
      have e1 : i + 1 + d - i = d + 1 := by omega
      rw [e1, List.singleton_append, List.getElem?_cons_succ, List.getElem?_drop, List.getElem?_set_ne (by omega)]
end Go.AL
set_option linter.unusedVariables false
set_option linter.unusedSimpArgs false
namespace Go.AL
open Go.RowKit
theorem Ints.str {P : Program} {H : Hp} {v : AV} {xs : List Int} {src dst e : TypeId} (h : Ints H .u8 v xs) (hs : P.underlying src = some (.slice e)) (he : isU8 P e = true) (hd : P.underlying dst = some .string) :
    aconv P H src dst v = some (.str (strOfNums xs)) := by
  rcases arow_cases h.rd.row with ⟨rfl, h0, hn⟩ | ⟨b, hb, hg, hk, hl, hc⟩
  · have : xs = [] := by simpa using h0
    subst this
    simp only [aconv, hs, hd, he, if_true]
    rfl
  · have ha : aints ((b.cells.drop v.of).take xs.length) = some xs := by
      rw [Nat.mul_one] at hc
      rw [← hc, aints_map]
    rw [Nat.mul_one] at hl
    rcases hb with ⟨c, hb⟩ | ⟨z', hb⟩ <;> (generalize v.hd = k, v.of = o at *; subst hb; simp only [aconv, hs, hd, he, if_true, abytes, hg]; rw [if_neg hk, if_pos hl, ha]; rfl)
theorem eq_bools {P : Program} {t : TypeId} {a b : Bool} (hu : P.underlying t = some .bool) : aeqIn P Op.maxDepth t (.bool a) (.bool b) = some (a == b) := aeqIn_succ fun d => by simp [aeqIn, hu]
theorem eq_ptr_nil {P : Program} {t e : TypeId} {h o : Nat} (hu : P.underlying t = some (.pointer e)) : aeqIn P Op.maxDepth t (.ptr h o) .nilP = some false := aeqIn_succ fun d => by simp [aeqIn, hu]
theorem eq_nilP_nilP {P : Program} {t e : TypeId} (hu : P.underlying t = some (.pointer e)) : aeqIn P Op.maxDepth t .nilP .nilP = some true := aeqIn_succ fun d => by simp [aeqIn, hu]
end Go.AL
set_option linter.unusedVariables false
set_option linter.unusedSimpArgs false
namespace Go.AL
open Go.RowKit
theorem RowsI.snoc {H : Hp} {k : IntKind} {u : AV} {xs : List Int} (hu : Ints H k u xs) : ∀ {vs : List AV} {xss : List (List Int)}, RowsI H k vs xss → RowsI H k (vs ++ [u]) (xss ++ [xs])
  | [], [], _ => ⟨hu, trivial⟩
  | v :: vs, ys :: xss, hr => ⟨hr.1, RowsI.snoc hu (vs := vs) hr.2⟩
end Go.AL
set_option linter.unusedVariables false
set_option linter.unusedSimpArgs false
namespace Go.AL
open Go.RowKit
theorem map_geti {k : IntKind} {xs : List Int} {i : Nat} (h : i < xs.length) : (xs.map (AV.int k))[i]? = some (.int k (xs.getD i 0)) := map_get (AV.int k) xs 0 h
theorem set_push_at {H : Hp} {k : Nat} {b b' : Blk} (h : k = H.length) : (H ++ [b]).set k b' = H ++ [b'] := by subst h; exact set_push_new H b b'
theorem splice_all {cs ds : List AV} (h : ds.length = cs.length) : splice cs 0 ds = ds := by
  simp [splice, ← h]
theorem take_all {α : Type} {cs : List α} {n : Nat} (h : cs.length ≤ n) : cs.take n = cs := List.take_of_length_le h
theorem solid_agg {cs : List AV} : AV.solid (.agg cs) = cs.all AV.one := rfl
theorem splice_int {k : IntKind} {xs : List Int} {i : Nat} {y : Int} (h : i < xs.length) : splice (xs.map (AV.int k)) i [.int k y] = (xs.set i y).map (AV.int k) := splice_set (AV.int k) xs y h
theorem map_len (k : IntKind) (xs : List Int) : (xs.map (AV.int k)).length = xs.length := List.length_map ..
theorem apart_int {P : Program} {t : TypeId} {k : IntKind} {xs : List Int} {i : Nat} (ha : isAggT P t = some false) (h : i < xs.length) : apart P t (xs.map (AV.int k)) i = some (.int k (xs.getD i 0)) := by
  simp only [apart, ha]
  exact map_geti h
/-- An element of an array's value. -/
theorem index_ints {P : Program} {t e : TypeId} {n : Nat} {k l : IntKind} {xs : List Int} {j : Int} (hu : P.underlying t = some (.array n e)) (hz : sizeT P e = some 1) (ha : isAggT P e = some false) (hn : xs.length = n) (h0 : 0 ≤ j) (h1 : j < (n : Int)) :
    aindex P t (.agg (xs.map (AV.int k))) (.int l j) = some (.int k (xs.getD j.toNat 0)) := by
  simp only [aindex, hu, hz, Nat.mul_one]
  rw [if_pos ⟨h0, h1⟩]
  exact apart_int ha (by omega)
/-- The address of an element of an array. -/
theorem addr_array {P : Program} {t e : TypeId} {n z h o : Nat} {l : IntKind} {j : Int} (hu : P.underlying t = some (.array n e)) (hz : sizeT P e = some z) (h0 : 0 ≤ j) (h1 : j < (n : Int)) :
    aindexAddr P t (.ptr h o) (.int l j) = some (.ptr h (o + j.toNat * z)) := by
  simp only [aindexAddr, hu, hz]
  rw [if_pos ⟨h0, h1⟩]
/-- A piece of an array as a slice. -/
theorem slice_array {P : Program} {t e : TypeId} {n z h o : Nat} (hu : P.underlying t = some (.array n e)) (hz : sizeT P e = some z) : aslice P t (.ptr h o) none none none = some (.sl h o n n) := by
  simp [aslice, hu, hz, abounds]
theorem slice_array_hi {P : Program} {t e : TypeId} {n z h o : Nat} {l : IntKind} {q : Int} (hu : P.underlying t = some (.array n e)) (hz : sizeT P e = some z) (h0 : 0 ≤ q) (h1 : q ≤ (n : Int)) : aslice P t (.ptr h o) none (some (.int l q)) none = some (.sl h o q.toNat n) := by
  obtain ⟨q, rfl⟩ := Int.eq_ofNat_of_zero_le h0
  have : q ≤ n := by omega
  simp [aslice, hu, hz, abounds, abound, this]
/-- What a function hands back, whatever its results are. -/
def AEndR (P : Program) (fr : Fr) (H : Hp) (rs : List ResultVar) (R : AV → Hp → Prop) : Prop :=
  match aresults P fr H rs with
  | some [v] => R v H
  | some vs => R (.tup vs) H
  | none => False
theorem AEnd_gen {P : Program} {fn : Func} {R : AV → Hp → Prop} {fr : Fr} {H : Hp} {e : Exit} {rs : List ResultVar} (hr : fn.results.toList = rs) (h : AEndR P fr H rs R) (he : e = .ret ∨ e = .normal := by simp) : AEnd P fn R e fr H := by
  subst hr
  unfold AEndR at h
  have key : ∃ r, aret P fn fr H = some r ∧ R r H := by
    split at h
    · rename_i v hv; exact ⟨v, by simp [aret, hv], h⟩
    · rename_i vs hne hv
      refine ⟨.tup vs, ?_, h⟩
      simp only [aret, hv]
    · exact h.elim
  rcases he with rfl | rfl <;> exact key
theorem Rd.load1 {P : Program} {H : Hp} {n : Nat} {v : AV} {cs : List AV} {e : TypeId} (h : Rd H 1 v cs n) (ha : isAggT P e = some false) : ∀ {i : Nat}, i < n → aload P H e (.ptr v.hd (v.of + i)) = cs[i]? := fun {i} hi => by
  have := h.load (P := P) ha hi
  rwa [Nat.mul_one] at this
theorem Ints.load1 {P : Program} {H : Hp} {k : IntKind} {v : AV} {xs : List Int} {e : TypeId} (h : Ints H k v xs) (ha : isAggT P e = some false) : ∀ {i : Nat}, i < xs.length → aload P H e (.ptr v.hd (v.of + i)) = some (.int k (xs.getD i 0)) := fun {i} hi => by
  have := Ints.load (P := P) h ha hi
  rwa [Nat.mul_one] at this
theorem Rd.at1 {P : Program} {H : Hp} {n : Nat} {v : AV} {cs : List AV} {t e : TypeId} (h : Rd H 1 v cs n) (hu : P.underlying t = some (.slice e)) (hz : sizeT P e = some 1) : ∀ {k : IntKind} {j : Int}, 0 ≤ j → j < (n : Int) → aindexAddr P t v (.int k j) = some (.ptr v.hd (v.of + j.toNat)) := fun {k j} h0 h1 => by
  have := h.at_ (P := P) hu hz (k := k) h0 h1
  rwa [Nat.mul_one] at this
end Go.AL
namespace Go.AL
open Go.RowKit
/-- Arrays of integers held against one another. -/
theorem eq_arr {P : Program} {t e : TypeId} {n : Nat} {k l : IntKind} {xs ys : List Int} (hu : P.underlying t = some (.array n e)) (hz : sizeT P e = some 1) (ha : isAggT P e = some false) (he : P.underlying e = some (.int l)) (hx : xs.length = n) (hy : ys.length = n) :
    aeqIn P Op.maxDepth t (.agg (xs.map (AV.int k))) (.agg (ys.map (AV.int k))) = some (decide (xs = ys)) := by
  have key : ∀ D, (∀ a b : Int, aeqIn P D e (.int k a) (.int k b) = some (a == b)) → aeqIn P (D + 1) t (.agg (xs.map (AV.int k))) (.agg (ys.map (AV.int k))) = some (decide (xs = ys)) := by
    intro D hel
    have step : ∀ m, m ≤ n → (List.range m).foldr (fun i r =>
        match apart P e (xs.map (AV.int k)) (i * 1), apart P e (ys.map (AV.int k)) (i * 1) with
        | some a, some b => match aeqIn P D e a b, r with
          | some p, some q => some (p && q)
          | _, _ => none
        | _, _ => none) (some (decide (xs.drop m = ys.drop m))) = some (decide (xs = ys)) := by
      intro m
      induction m with
      | zero => intro _; simp
      | succ m ih =>
        intro hm
        rw [List.range_succ, List.foldr_append]
        simp only [List.foldr_cons, List.foldr_nil]
        rw [Nat.mul_one, apart_int ha (by omega), apart_int ha (by omega)]
        simp only [hel]
        have e1 : (xs.getD m 0 == ys.getD m 0 && decide (xs.drop (m + 1) = ys.drop (m + 1))) = decide (xs.drop m = ys.drop m) := by
          rw [drop_step xs 0 (i := m) (by omega), drop_step ys 0 (i := m) (by omega)]
          rw [Bool.eq_iff_iff]
          simp
        rw [e1]
        exact ih (by omega)
    have hn := step n (Nat.le_refl _)
    rw [List.drop_of_length_le (by omega), List.drop_of_length_le (by omega)] at hn
    have ht : decide (([] : List Int) = []) = true := rfl
    rw [ht] at hn
    simp only [aeqIn, hu, hz]
    exact hn
  exact key (Op.maxDepth - 1) fun a b => by
    show aeqIn P ((Op.maxDepth - 2) + 1) e _ _ = _
    simp [aeqIn, he]
end Go.AL
namespace Go.AL
/-- A cut: what holds behind a piece, whatever the order of its operations; what follows is shown once. -/
theorem AWp_cut {P : Program} {c : Code} {fr : Fr} {H : Hp} {K : Fr → Hp → Prop} {Q : Exit → Fr → Hp → Prop} (Φ : Fr → Hp → Prop) (h1 : AWp P c fr H (thenA Φ fun _ _ _ => False)) (h2 : ∀ fr' H', Φ fr' H' → K fr' H') : AWp P c fr H (thenA K Q) :=
  h1.mono fun e fr' H' h => by
    cases e with
    | normal => exact h2 _ _ h
    | _ => exact h.elim
end Go.AL
namespace Go.AL
/-- The same around a loop that is left by its block. -/
theorem AWp_cutB {P : Program} {c : Code} {fr : Fr} {H : Hp} {K : Fr → Hp → Prop} {Q : Exit → Fr → Hp → Prop} {id : Nat} (Φ : Fr → Hp → Prop) (h1 : AWp P c fr H (inBlockA id (thenA Φ fun _ _ _ => False))) (h2 : ∀ fr' H', Φ fr' H' → K fr' H') : AWp P c fr H (inBlockA id (thenA K Q)) :=
  h1.mono fun e fr' H' h => by
    cases e with
    | normal => exact h2 _ _ h
    | exit i =>
      simp only [inBlockA] at h ⊢
      split at h
      · rename_i hi; rw [if_pos hi]; exact h2 _ _ h
      · exact h.elim
    | _ => exact h.elim
end Go.AL
namespace Go.AL
theorem at_sl {P : Program} {t e : TypeId} {z h o n c : Nat} {l : IntKind} {j : Int} (hu : P.underlying t = some (.slice e)) (hz : sizeT P e = some z) (h0 : 0 ≤ j) (h1 : j < (n : Int)) : aindexAddr P t (.sl h o n c) (.int l j) = some (.ptr h (o + j.toNat * z)) := by
  simp [aindexAddr, hu, hz, h0, h1]
theorem at_sg {P : Program} {t e : TypeId} {z h o n z' : Nat} {l : IntKind} {j : Int} (hu : P.underlying t = some (.slice e)) (hz : sizeT P e = some z) (h0 : 0 ≤ j) (h1 : j < (n : Int)) : aindexAddr P t (.sg h o n z') (.int l j) = some (.ptr h (o + j.toNat * z)) := by
  simp [aindexAddr, hu, hz, h0, h1]
theorem at_sl1 {P : Program} {t e : TypeId} {h o n c : Nat} {l : IntKind} {j : Int} (hu : P.underlying t = some (.slice e)) (hz : sizeT P e = some 1) (h0 : 0 ≤ j) (h1 : j < (n : Int)) : aindexAddr P t (.sl h o n c) (.int l j) = some (.ptr h (o + j.toNat)) := by
  simp [aindexAddr, hu, hz, h0, h1]
theorem at_sg1 {P : Program} {t e : TypeId} {h o n z' : Nat} {l : IntKind} {j : Int} (hu : P.underlying t = some (.slice e)) (hz : sizeT P e = some 1) (h0 : 0 ≤ j) (h1 : j < (n : Int)) : aindexAddr P t (.sg h o n z') (.int l j) = some (.ptr h (o + j.toNat)) := by
  simp [aindexAddr, hu, hz, h0, h1]
/-- Integers of a block, as a slice. -/
theorem Ints.blk {H : Hp} {h o n c : Nat} {k : IntKind} {kd : BK} {e : TypeId} {xs : List Int} (hg : hget H h = some ⟨xs.map (AV.int k), kd, e⟩) (hk : kd ≠ .dead) (hn : o + n ≤ xs.length) (hc : n ≤ c) : Ints H k (.sl h o n c) ((xs.drop o).take n) := by
  have hl : ((xs.drop o).take n).length = n := by rw [List.length_take, List.length_drop]; omega
  refine ⟨?_, ?_⟩
  · simp only [arow, hg, Nat.mul_one]
    rw [if_neg hk, if_pos (by rw [List.length_map]; omega), hl, ← List.map_drop, ← List.map_take]
  · exact hc
end Go.AL
namespace Go.AL
theorem hget_at {H : Hp} {b : Blk} {k : Nat} (h : k = H.length) : hget (H ++ [b]) k = some b := by rw [hget_push, if_pos h]
theorem hget_old {H : Hp} {b : Blk} {k : Nat} (h : k < H.length) : hget (H ++ [b]) k = hget H k := by rw [hget_push, if_neg (by omega)]
/-- A pointer to a block of a function's own. -/
structure P1 (H H1 : Hp) (v : AV) (h : Nat) (b : Blk) : Prop where
  eq : v = .ptr h 0
  get : hget H1 h = some b
  lo : H.length ≤ h
theorem P1.hi {H H1 : Hp} {v : AV} {h : Nat} {b : Blk} (p : P1 H H1 v h b) : h < H1.length := hget_lt p.get
theorem P1.push {H H1 : Hp} {v : AV} {h : Nat} {b : Blk} (p : P1 H H1 v h b) (c : Blk) : P1 H (H1 ++ [c]) v h b := ⟨p.eq, by rw [hget_old p.hi]; exact p.get, p.lo⟩
end Go.AL
namespace Go.AL
theorem set_same {H : Hp} {p : Nat} {b : Blk} (h : hget H p = some b) : H.set p b = H := by
  apply List.ext_getElem?
  intro i
  rw [List.getElem?_set]
  split
  · rename_i he; subst he
    unfold hget at h
    rw [h, if_pos (List.getElem?_eq_some_iff.1 h).1]
  · rfl
theorem set_twice {H : Hp} {p : Nat} {b b' : Blk} : (H.set p b).set p b' = H.set p b' := by
  rw [List.set_set]
end Go.AL
namespace Go.AL
theorem aload_ptr {P : Program} {H : Hp} {t : TypeId} {h o : Nat} : aload P H t (.ptr h o) = (match hget H h with
    | some b =>
      if b.kind = .dead then none else
      match isAggT P t, sizeT P t with
      | some true, some n => if o + n ≤ b.cells.length then some (.agg ((b.cells.drop o).take n)) else none
      | some false, _ => b.cells[o]?
      | _, _ => none
    | none => none) := id rfl
theorem astore_ptr {P : Program} {H : Hp} {t : TypeId} {h o : Nat} {x : AV} : astore P H t (.ptr h o) x = (match sizeT P t with
    | some n => match hget H h with
      | some b => if b.kind = .own ∧ x.solid = true ∧ x.cells.length = n ∧ o + n ≤ b.cells.length then some (H.set h ⟨splice b.cells o x.cells, .own, b.ety⟩) else none
      | none => none
    | none => none) := by
  unfold astore
  cases sizeT P t <;> rfl
end Go.AL
set_option linter.unusedVariables false
set_option maxRecDepth 4000
namespace Go.AL
theorem RA : type_of% (And.intro @ESt_some (And.intro @Run_nil (And.intro @Run_cons (And.intro @Run_pnil (And.intro @Run_one (And.intro @Run_alt (And.intro @EAt_def (And.intro @EStep_def (And.intro @E0_def (And.intro @EGuard_true (And.intro @EGuard_false (And.intro @beq_self_eq_true.{0} (And.intro @beq_true (And.intro @beq_false (And.intro @bne_self_eq_false.{0} (And.intro @Fr.put_some (And.intro @Fr.put_none (And.intro @fr0_zero (And.intro @fr0_succ (And.intro @fr0_nil (And.intro @if_true.{0} (And.intro @if_true.{1} (And.intro @if_false.{0} (And.intro @if_false.{1} (And.intro @Option.map_some.{0,0} (And.intro @Option.map_none.{0,0} (And.intro @Option.bind_some.{0,0} (And.intro @Option.bind_none.{0,0} (And.intro @or_self (And.intro @or_true (And.intro @true_or (And.intro @or_false (And.intro @false_or (And.intro @and_self (And.intro @and_true (And.intro @true_and (And.intro @and_false (And.intro @false_and (And.intro @not_true_eq_false (And.intro @not_false_eq_true (And.intro @Bool.false_eq_true (And.intro @Bool.true_eq_false (And.intro @decide_eq_true_eq (And.intro @decide_eq_false_iff_not (And.intro @beq_iff_eq.{0} (And.intro @bne_iff_ne.{0} (And.intro @Bool.not_eq_true' (And.intro @Bool.not_true (And.intro @Bool.not_false (And.intro @ne_eq.{0} (And.intro @ne_eq.{1} (And.intro @AV.solid_int (And.intro @AV.one_int (And.intro @AV.cells_int (And.intro @AV.solid_bool (And.intro @AV.one_bool (And.intro @AV.cells_bool (And.intro @AV.solid_str (And.intro @AV.one_str (And.intro @AV.cells_str (And.intro @AV.solid_nilI (And.intro @AV.one_nilI (And.intro @AV.cells_nilI (And.intro @AV.solid_ifc (And.intro @AV.one_ifc (And.intro @AV.cells_ifc (And.intro @AV.solid_nilP (And.intro @AV.one_nilP (And.intro @AV.cells_nilP (And.intro @AV.solid_ptr (And.intro @AV.one_ptr (And.intro @AV.cells_ptr (And.intro @AV.solid_nilS (And.intro @AV.one_nilS (And.intro @AV.cells_nilS (And.intro @AV.solid_sl (And.intro @AV.one_sl (And.intro @AV.cells_sl (And.intro @AV.solid_sg (And.intro @AV.one_sg (And.intro @AV.cells_sg (And.intro @AV.solid_fn (And.intro @AV.one_fn (And.intro @AV.cells_fn (And.intro @AV.cells_agg (And.intro @List.replicate_succ.{0} (And.intro @List.replicate_zero.{0} (And.intro @List.flatten_cons.{0} (And.intro @List.flatten_nil.{0} (And.intro @List.append_nil.{0} (And.intro @List.nil_append.{0} (And.intro @List.cons_append.{0} (And.intro @List.take_succ_cons.{0} (And.intro @List.take_zero.{0} (And.intro @List.drop_succ_cons.{0} (And.intro @List.drop_zero.{0} (And.intro @List.length_cons.{0} (And.intro @List.length_nil.{0} (And.intro @List.all_cons.{0} (And.intro @List.all_nil.{0} (And.intro @Bool.and_true (And.intro @Bool.true_and (And.intro @Bool.and_self (And.intro @Bool.or_true (And.intro @Bool.true_or (And.intro @Bool.or_false (And.intro @Bool.false_or (And.intro @Bool.and_false (And.intro @Bool.false_and (And.intro @Int.cast_ofNat_Int (And.intro @Nat.min_def (And.intro @Nat.zero_add (And.intro @hget_push (And.intro @set_push_new (And.intro @List.map_cons.{0,0} (And.intro @List.map_nil.{0,0} (And.intro @List.toList_toArray.{0} (And.intro @List.getElem?_toArray.{0} (And.intro @List.getElem?_cons_zero.{0} (@List.getElem?_cons_succ.{0})))))))))))))))))))))))))))))))))))))))))))))))))))))))))))))))))))))))))))))))))))))))))))))))))))))))))))))))))))))))) := And.intro @ESt_some (And.intro @Run_nil (And.intro @Run_cons (And.intro @Run_pnil (And.intro @Run_one (And.intro @Run_alt (And.intro @EAt_def (And.intro @EStep_def (And.intro @E0_def (And.intro @EGuard_true (And.intro @EGuard_false (And.intro @beq_self_eq_true.{0} (And.intro @beq_true (And.intro @beq_false (And.intro @bne_self_eq_false.{0} (And.intro @Fr.put_some (And.intro @Fr.put_none (And.intro @fr0_zero (And.intro @fr0_succ (And.intro @fr0_nil (And.intro @if_true.{0} (And.intro @if_true.{1} (And.intro @if_false.{0} (And.intro @if_false.{1} (And.intro @Option.map_some.{0,0} (And.intro @Option.map_none.{0,0} (And.intro @Option.bind_some.{0,0} (And.intro @Option.bind_none.{0,0} (And.intro @or_self (And.intro @or_true (And.intro @true_or (And.intro @or_false (And.intro @false_or (And.intro @and_self (And.intro @and_true (And.intro @true_and (And.intro @and_false (And.intro @false_and (And.intro @not_true_eq_false (And.intro @not_false_eq_true (And.intro @Bool.false_eq_true (And.intro @Bool.true_eq_false (And.intro @decide_eq_true_eq (And.intro @decide_eq_false_iff_not (And.intro @beq_iff_eq.{0} (And.intro @bne_iff_ne.{0} (And.intro @Bool.not_eq_true' (And.intro @Bool.not_true (And.intro @Bool.not_false (And.intro @ne_eq.{0} (And.intro @ne_eq.{1} (And.intro @AV.solid_int (And.intro @AV.one_int (And.intro @AV.cells_int (And.intro @AV.solid_bool (And.intro @AV.one_bool (And.intro @AV.cells_bool (And.intro @AV.solid_str (And.intro @AV.one_str (And.intro @AV.cells_str (And.intro @AV.solid_nilI (And.intro @AV.one_nilI (And.intro @AV.cells_nilI (And.intro @AV.solid_ifc (And.intro @AV.one_ifc (And.intro @AV.cells_ifc (And.intro @AV.solid_nilP (And.intro @AV.one_nilP (And.intro @AV.cells_nilP (And.intro @AV.solid_ptr (And.intro @AV.one_ptr (And.intro @AV.cells_ptr (And.intro @AV.solid_nilS (And.intro @AV.one_nilS (And.intro @AV.cells_nilS (And.intro @AV.solid_sl (And.intro @AV.one_sl (And.intro @AV.cells_sl (And.intro @AV.solid_sg (And.intro @AV.one_sg (And.intro @AV.cells_sg (And.intro @AV.solid_fn (And.intro @AV.one_fn (And.intro @AV.cells_fn (And.intro @AV.cells_agg (And.intro @List.replicate_succ.{0} (And.intro @List.replicate_zero.{0} (And.intro @List.flatten_cons.{0} (And.intro @List.flatten_nil.{0} (And.intro @List.append_nil.{0} (And.intro @List.nil_append.{0} (And.intro @List.cons_append.{0} (And.intro @List.take_succ_cons.{0} (And.intro @List.take_zero.{0} (And.intro @List.drop_succ_cons.{0} (And.intro @List.drop_zero.{0} (And.intro @List.length_cons.{0} (And.intro @List.length_nil.{0} (And.intro @List.all_cons.{0} (And.intro @List.all_nil.{0} (And.intro @Bool.and_true (And.intro @Bool.true_and (And.intro @Bool.and_self (And.intro @Bool.or_true (And.intro @Bool.true_or (And.intro @Bool.or_false (And.intro @Bool.false_or (And.intro @Bool.and_false (And.intro @Bool.false_and (And.intro @Int.cast_ofNat_Int (And.intro @Nat.min_def (And.intro @Nat.zero_add (And.intro @hget_push (And.intro @set_push_new (And.intro @List.map_cons.{0,0} (And.intro @List.map_nil.{0,0} (And.intro @List.toList_toArray.{0} (And.intro @List.getElem?_toArray.{0} (And.intro @List.getElem?_cons_zero.{0} (@List.getElem?_cons_succ.{0})))))))))))))))))))))))))))))))))))))))))))))))))))))))))))))))))))))))))))))))))))))))))))))))))))))))))))))))))))))))
theorem RC : type_of% (And.intro @Bool.not_eq_true' (And.intro @Bool.not_eq_false' (And.intro @decide_eq_true_eq (And.intro @decide_eq_false_iff_not (And.intro @beq_iff_eq.{0} (And.intro @beq_eq_false_iff_ne.{0} (And.intro @bne_iff_ne.{0} (And.intro @bne_eq_false_iff_eq.{0} (And.intro @Bool.false_eq_true (And.intro @ne_eq.{0} (And.intro @ne_eq.{1} (And.intro @Decidable.not_not (And.intro @Bool.not_eq_eq_eq_not (And.intro @Bool.not_true (And.intro @Bool.not_false (And.intro @not_true_eq_false (@not_false_eq_true))))))))))))))))) := And.intro @Bool.not_eq_true' (And.intro @Bool.not_eq_false' (And.intro @decide_eq_true_eq (And.intro @decide_eq_false_iff_not (And.intro @beq_iff_eq.{0} (And.intro @beq_eq_false_iff_ne.{0} (And.intro @bne_iff_ne.{0} (And.intro @bne_eq_false_iff_eq.{0} (And.intro @Bool.false_eq_true (And.intro @ne_eq.{0} (And.intro @ne_eq.{1} (And.intro @Decidable.not_not (And.intro @Bool.not_eq_eq_eq_not (And.intro @Bool.not_true (And.intro @Bool.not_false (And.intro @not_true_eq_false (@not_false_eq_true))))))))))))))))
theorem RB : type_of% (And.intro @Nat.mul_one (And.intro @Nat.add_zero (And.intro @len_push (And.intro @solid_agg (And.intro @ints_one (And.intro @map_len (And.intro @Int.toNat_natCast (@List.map_nil.{0,0})))))))) := And.intro @Nat.mul_one (And.intro @Nat.add_zero (And.intro @len_push (And.intro @solid_agg (And.intro @ints_one (And.intro @map_len (And.intro @Int.toNat_natCast (@List.map_nil.{0,0})))))))
theorem RD : type_of% (And.intro @aload_ptr (And.intro @astore_ptr (And.intro @hget_push (And.intro @set_push_new (And.intro @set_push_at (And.intro @set_push_old (And.intro @len_push (And.intro @selP (And.intro @selN (And.intro @optIf (And.intro @optIfN (And.intro @avP (And.intro @avN (And.intro @map_geti (And.intro @splice_all (And.intro @splice_int (And.intro @take_all (And.intro @List.drop_zero.{0} (And.intro @Nat.zero_add (And.intro @Nat.add_zero (And.intro @Nat.mul_one (And.intro @solid_agg (And.intro @ints_one (And.intro @AV.cells_agg (And.intro @AV.cells_int (And.intro @AV.solid_int (And.intro @List.length_singleton.{0} (And.intro @if_false.{0} (And.intro @if_false.{1} (And.intro @if_true.{0} (And.intro @if_true.{1} (And.intro @and_self (And.intro @and_true (And.intro @true_and (And.intro @map_len (And.intro @List.length_set.{0} (And.intro @Int.toNat_natCast (And.intro @Option.map_some.{0,0} (@Option.map_none.{0,0}))))))))))))))))))))))))))))))))))))))) := And.intro @aload_ptr (And.intro @astore_ptr (And.intro @hget_push (And.intro @set_push_new (And.intro @set_push_at (And.intro @set_push_old (And.intro @len_push (And.intro @selP (And.intro @selN (And.intro @optIf (And.intro @optIfN (And.intro @avP (And.intro @avN (And.intro @map_geti (And.intro @splice_all (And.intro @splice_int (And.intro @take_all (And.intro @List.drop_zero.{0} (And.intro @Nat.zero_add (And.intro @Nat.add_zero (And.intro @Nat.mul_one (And.intro @solid_agg (And.intro @ints_one (And.intro @AV.cells_agg (And.intro @AV.cells_int (And.intro @AV.solid_int (And.intro @List.length_singleton.{0} (And.intro @if_false.{0} (And.intro @if_false.{1} (And.intro @if_true.{0} (And.intro @if_true.{1} (And.intro @and_self (And.intro @and_true (And.intro @true_and (And.intro @map_len (And.intro @List.length_set.{0} (And.intro @Int.toNat_natCast (And.intro @Option.map_some.{0,0} (@Option.map_none.{0,0}))))))))))))))))))))))))))))))))))))))
theorem RL : type_of% (And.intro @List.length_append.{0} (And.intro @List.length_cons.{0} (And.intro @List.length_nil.{0} (And.intro @map_len (And.intro @List.length_set.{0} (@List.length_replicate.{0})))))) := And.intro @List.length_append.{0} (And.intro @List.length_cons.{0} (And.intro @List.length_nil.{0} (And.intro @map_len (And.intro @List.length_set.{0} (@List.length_replicate.{0})))))
theorem RM : type_of% (And.intro @List.length_append.{0} (And.intro @List.length_cons.{0} (And.intro @List.length_nil.{0} (And.intro @map_len (And.intro @List.length_set.{0} (And.intro @List.length_replicate.{0} (And.intro @List.length_take.{0} (@List.length_drop.{0})))))))) := And.intro @List.length_append.{0} (And.intro @List.length_cons.{0} (And.intro @List.length_nil.{0} (And.intro @map_len (And.intro @List.length_set.{0} (And.intro @List.length_replicate.{0} (And.intro @List.length_take.{0} (@List.length_drop.{0})))))))
theorem RS : type_of% (And.intro @optIf (And.intro @optIfN (And.intro @selP (And.intro @selN (And.intro @avP (@avN)))))) := And.intro @optIf (And.intro @optIfN (And.intro @selP (And.intro @selN (And.intro @avP (@avN)))))
theorem RO : type_of% (And.intro @AV.one_int (And.intro @AV.one_bool (And.intro @AV.one_str (And.intro @AV.one_nilI (And.intro @AV.one_ifc (And.intro @AV.one_nilP (And.intro @AV.one_ptr (And.intro @AV.one_nilS (And.intro @AV.one_sl (And.intro @AV.one_sg (@AV.one_fn))))))))))) := And.intro @AV.one_int (And.intro @AV.one_bool (And.intro @AV.one_str (And.intro @AV.one_nilI (And.intro @AV.one_ifc (And.intro @AV.one_nilP (And.intro @AV.one_ptr (And.intro @AV.one_nilS (And.intro @AV.one_sl (And.intro @AV.one_sg (@AV.one_fn))))))))))
end Go.AL
set_option linter.unusedVariables false
namespace Go.PW
abbrev Bs : Int := 18446744073709551616
/-- What limbs are worth. -/
def val : List Int → Int
  | [] => 0
  | x :: xs => x + Bs * val xs
/-- The n lowest limbs of a number. -/
def dig : Nat → Int → List Int
  | 0, _ => []
  | n + 1, x => x % Bs :: dig n (x / Bs)
def Limbs (xs : List Int) : Prop := ∀ x ∈ xs, 0 ≤ x ∧ x < Bs
theorem Limbs.nil : Limbs [] := fun _ h => by cases h
theorem Limbs.cons {x : Int} {xs : List Int} : Limbs (x :: xs) ↔ (0 ≤ x ∧ x < Bs) ∧ Limbs xs := by
  simp [Limbs]
theorem Limbs.append {xs ys : List Int} : Limbs (xs ++ ys) ↔ Limbs xs ∧ Limbs ys := by
  simp only [Limbs, List.mem_append]
  exact ⟨fun h => ⟨fun x hx => h x (.inl hx), fun x hx => h x (.inr hx)⟩, fun h x hx => hx.elim (h.1 x) (h.2 x)⟩
theorem Limbs.take {xs : List Int} (h : Limbs xs) (n : Nat) : Limbs (xs.take n) := fun x hx => h x (List.mem_of_mem_take hx)
theorem Limbs.drop {xs : List Int} (h : Limbs xs) (n : Nat) : Limbs (xs.drop n) := fun x hx => h x (List.mem_of_mem_drop hx)
theorem Limbs.get {xs : List Int} (h : Limbs xs) (i : Nat) : 0 ≤ xs.getD i 0 ∧ xs.getD i 0 < Bs := by
  rw [List.getD_eq_getElem?_getD]
  cases hx : xs[i]? with
  | none => simp [Bs]
  | some x => exact h x (List.mem_of_getElem? hx)
theorem Bs_pow_pos (n : Nat) : 0 < Bs ^ n := Int.pow_pos (by decide)
theorem val_append : ∀ (xs ys : List Int), val (xs ++ ys) = val xs + Bs ^ xs.length * val ys
  | [], ys => by simp [val]
  | x :: xs, ys => by
    simp only [List.cons_append, val, List.length_cons, val_append xs ys, Int.pow_succ]
    grind
theorem val_bound : ∀ {xs : List Int}, Limbs xs → 0 ≤ val xs ∧ val xs < Bs ^ xs.length
  | [], _ => by simp [val]
  | x :: xs, h => by
    obtain ⟨h1, h2⟩ := Limbs.cons.1 h
    have ih := val_bound h2
    simp only [val, List.length_cons, Int.pow_succ]
    have hp := Bs_pow_pos xs.length
    generalize Bs ^ xs.length = p at *
    simp only [Bs] at *
    omega
theorem dig_length : ∀ (n : Nat) (x : Int), (dig n x).length = n
  | 0, _ => rfl
  | n + 1, x => by simp [dig, dig_length n]
theorem dig_limbs : ∀ (n : Nat) (x : Int), Limbs (dig n x)
  | 0, _ => Limbs.nil
  | n + 1, x => Limbs.cons.2 ⟨⟨Int.emod_nonneg _ (by decide), Int.emod_lt_of_pos _ (by decide)⟩, dig_limbs n _⟩
theorem emod_two {x m k : Int} (hm : 0 < m) : x % m + m * (x / m % k) = x % (m * k) := by
  rw [Int.emod_def x (m * k), Int.emod_def (x / m) k, Int.emod_def x m, ← Int.ediv_ediv_of_nonneg (Int.le_of_lt hm)]
  grind
theorem val_dig : ∀ (n : Nat) (x : Int), val (dig n x) = x % Bs ^ n
  | 0, x => by simp [val, dig, Int.emod_one]
  | n + 1, x => by
    simp only [val, dig, val_dig n, Int.pow_succ]
    have hp := Bs_pow_pos n
    have e : Bs ^ n * Bs = Bs * Bs ^ n := Int.mul_comm _ _
    rw [e, ← emod_two (by decide)]
theorem dig_val : ∀ {xs : List Int}, Limbs xs → dig xs.length (val xs) = xs
  | [], _ => rfl
  | x :: xs, h => by
    obtain ⟨h1, h2⟩ := Limbs.cons.1 h
    simp only [List.length_cons, dig, val]
    rw [Int.add_mul_emod_self_left, Int.emod_eq_of_lt h1.1 h1.2, Int.add_mul_ediv_left _ _ (by decide), Int.ediv_eq_zero_of_lt h1.1 h1.2, Int.zero_add, dig_val h2]
theorem dig_mod : ∀ (n : Nat) (x y : Int), x % Bs ^ n = y % Bs ^ n → dig n x = dig n y := by
  intro n x y h
  have h1 := dig_val (dig_limbs n x)
  have h2 := dig_val (dig_limbs n y)
  rw [dig_length, val_dig] at h1 h2
  rw [← h1, ← h2, h]
theorem dig_of_val {xs : List Int} {n : Nat} {x : Int} (hl : Limbs xs) (hn : xs.length = n) (hv : val xs = x % Bs ^ n) : xs = dig n x := by
  have := dig_val hl
  rw [← this, hn, hv]
  exact dig_mod n _ _ (Int.emod_emod_of_dvd _ (Int.dvd_refl _))
theorem val_take_drop (xs : List Int) (i : Nat) : val xs = val (xs.take i) + Bs ^ (min i xs.length) * val (xs.drop i) := by
  have := val_append (xs.take i) (xs.drop i)
  rw [List.take_append_drop, List.length_take] at this
  exact this
theorem take_succ_getD (xs : List Int) {i : Nat} (h : i < xs.length) : xs.take (i + 1) = xs.take i ++ [xs.getD i 0] := by
  rw [List.take_succ_eq_append_getElem h]
  simp [List.getD, h]
theorem val_take_succ (xs : List Int) {i : Nat} (h : i < xs.length) : val (xs.take (i + 1)) = val (xs.take i) + Bs ^ i * xs.getD i 0 := by
  rw [take_succ_getD xs h, val_append, List.length_take, Nat.min_eq_left (by omega)]
  simp [val]
theorem drop_cons_getD (xs : List Int) {i : Nat} (h : i < xs.length) : xs.drop i = xs.getD i 0 :: xs.drop (i + 1) := by
  rw [List.drop_eq_getElem_cons h]
  simp [List.getD, h]
theorem val_drop_succ (xs : List Int) {i : Nat} (h : i < xs.length) : val (xs.drop i) = xs.getD i 0 + Bs * val (xs.drop (i + 1)) := by
  rw [drop_cons_getD xs h]; rfl
theorem val_set (xs : List Int) {i : Nat} (h : i < xs.length) (y : Int) : val (xs.set i y) = val xs + Bs ^ i * (y - xs.getD i 0) := by
  induction xs generalizing i with
  | nil => simp at h
  | cons x xs ih =>
    cases i with
    | zero => simp only [List.set_cons_zero, val, Int.pow_zero, List.getD_cons_zero]; omega
    | succ i =>
      simp only [List.set_cons_succ, val, List.getD_cons_succ]
      rw [ih (by simpa using h), Int.pow_succ]
      grind
theorem Limbs.set {xs : List Int} (h : Limbs xs) (i : Nat) {y : Int} (hy : 0 ≤ y ∧ y < Bs) : Limbs (xs.set i y) := by
  intro x hx
  rcases List.mem_or_eq_of_mem_set hx with hx | rfl
  · exact h x hx
  · exact hy
theorem val_replicate (n : Nat) : val (List.replicate n 0) = 0 := by
  induction n with
  | zero => rfl
  | succ n ih => simp [List.replicate_succ, val, ih]
theorem Limbs.replicate (n : Nat) : Limbs (List.replicate n 0) := fun x hx => by
  rw [(List.mem_replicate.1 hx).2]; decide
theorem getD_set (xs : List Int) {i : Nat} (y : Int) (h : i < xs.length) (j : Nat) : (xs.set i y).getD j 0 = if j = i then y else xs.getD j 0 := by
  rw [List.getD_eq_getElem?_getD, List.getElem?_set, List.getD_eq_getElem?_getD]
  by_cases e : i = j
  · subst e; simp [h]
  · rw [if_neg e, if_neg (fun h => e h.symm)]
theorem getD_dig : ∀ (n : Nat) (x : Int) (i : Nat), i < n → (dig n x).getD i 0 = x / Bs ^ i % Bs
  | n + 1, x, 0, _ => by simp [dig]
  | n + 1, x, i + 1, h => by
    simp only [dig, List.getD_cons_succ]
    rw [getD_dig n _ i (by omega), Int.ediv_ediv_of_nonneg (by decide), Int.pow_succ, Int.mul_comm]
end Go.PW
set_option linter.unusedVariables false
namespace Go.PW
theorem mul_bound {x y p q : Int} (hx : 0 ≤ x ∧ x ≤ p) (hy : 0 ≤ y ∧ y ≤ q) : 0 ≤ x * y ∧ x * y ≤ p * q :=
  ⟨Int.mul_nonneg hx.1 hy.1, Int.mul_le_mul hx.2 hy.2 hy.1 (Int.le_trans hx.1 hx.2)⟩
/-- The upper half of a product, as it is reckoned of halves. -/
theorem mul_high {x y : Int} (hx : 0 ≤ x ∧ x < Bs) (hy : 0 ≤ y ∧ y < Bs) :
    let x0 := x % 4294967296; let x1 := x / 4294967296; let y0 := y % 4294967296; let y1 := y / 4294967296
    let T := (x1 * y0 % Bs + x0 * y0 % Bs / 4294967296) % Bs
    ((x1 * y1 % Bs + T / 4294967296) % Bs + (T % 4294967296 + x0 * y1 % Bs) % Bs / 4294967296) % Bs = x * y / Bs := by
  intro x0 x1 y0 y1 T
  have ex : x = x1 * 4294967296 + x0 := by simp only [x0, x1]; omega
  have ey : y = y1 * 4294967296 + y0 := by simp only [y0, y1]; omega
  have b0 : 0 ≤ x0 ∧ x0 ≤ 4294967295 := by simp only [x0]; omega
  have b1 : 0 ≤ x1 ∧ x1 ≤ 4294967295 := by simp only [x1, Bs] at *; omega
  have c0 : 0 ≤ y0 ∧ y0 ≤ 4294967295 := by simp only [y0]; omega
  have c1 : 0 ≤ y1 ∧ y1 ≤ 4294967295 := by simp only [y1, Bs] at *; omega
  have ha := mul_bound b0 c0
  have hb := mul_bound b1 c0
  have hc := mul_bound b0 c1
  have hd := mul_bound b1 c1
  have hxy : x * y = x1 * y1 * 18446744073709551616 + (x1 * y0 + x0 * y1) * 4294967296 + x0 * y0 := by
    rw [ex, ey]; grind
  rw [hxy]
  simp only [T]
  clear hxy ex ey T
  generalize x0 * y0 = a at *
  generalize x1 * y0 = b at *
  generalize x0 * y1 = c at *
  generalize x1 * y1 = d at *
  simp only [Bs]
  clear b0 b1 c0 c1 x0 x1 y0 y1 hx hy
  omega
/-- How many bits. -/
def bl (n : Nat) : Nat := if n = 0 then 0 else Nat.log2 n + 1
theorem bl_lt (n : Nat) : n < 2 ^ bl n := by
  unfold bl
  split
  · rename_i h; rw [h]; decide
  · exact Nat.lt_log2_self
theorem bl_ge {n : Nat} (h : n ≠ 0) : 2 ^ (bl n - 1) ≤ n := by
  unfold bl
  rw [if_neg h]
  exact Nat.log2_self_le h
theorem bl_pos {n : Nat} (h : n ≠ 0) : 0 < bl n := by
  unfold bl; rw [if_neg h]; omega
theorem bl_uniq {n k : Nat} (h1 : 2 ^ k ≤ n) (h2 : n < 2 ^ (k + 1)) : bl n = k + 1 := by
  have hn : n ≠ 0 := by have := Nat.pow_pos (n := k) (a := 2) (by decide); omega
  unfold bl
  rw [if_neg hn]
  have a := (Nat.le_log2 hn (k := k)).2 h1
  have b := (Nat.log2_lt hn (k := k + 1)).2 h2
  omega
theorem bl_div {n k : Nat} (h : 2 ^ k ≤ n) : bl n = k + bl (n / 2 ^ k) := by
  have hp := Nat.pow_pos (n := k) (a := 2) (by decide)
  have hq : n / 2 ^ k ≠ 0 := by
    have := Nat.div_pos h hp
    omega
  have h1 := bl_ge hq
  have h2 := bl_lt (n / 2 ^ k)
  have h3 := bl_pos hq
  obtain ⟨m, hm⟩ : ∃ m, bl (n / 2 ^ k) = m + 1 := ⟨_, (Nat.succ_pred_eq_of_pos h3).symm⟩
  rw [hm] at h1 h2 ⊢
  rw [show k + (m + 1) = (k + m) + 1 by omega]
  apply bl_uniq
  · rw [Nat.pow_add, Nat.mul_comm]
    exact (Nat.le_div_iff_mul_le hp).1 h1
  · rw [show k + m + 1 = (m + 1) + k by omega, Nat.pow_add]
    exact (Nat.div_lt_iff_lt_mul hp).1 h2
theorem bl_le {n k : Nat} (h : n < 2 ^ k) : bl n ≤ k := by
  by_cases h0 : n = 0
  · subst h0; simp [bl]
  · have := bl_ge h0
    have h2 : 2 ^ (bl n - 1) < 2 ^ k := by omega
    have := (Nat.pow_lt_pow_iff_right (by decide : 1 < 2)).1 h2
    omega
end Go.PW
set_option linter.unusedVariables false
namespace Go.PW
theorem le_ediv {a b q : Int} (hb : 0 < b) (h : q * b ≤ a) : q ≤ a / b := (Int.le_ediv_iff_mul_le hb).2 h
theorem ediv_le {a b q : Int} (hb : 0 < b) (h : a < (q + 1) * b) : a / b ≤ q := by
  have := (Int.ediv_lt_iff_lt_mul hb).2 h
  omega
theorem ediv_eq {a b q : Int} (hb : 0 < b) (h1 : q * b ≤ a) (h2 : a < (q + 1) * b) : a / b = q := by
  have := le_ediv hb h1
  have := ediv_le hb h2
  omega
theorem ediv_mul_le' (a : Int) {b : Int} (hb : 0 < b) : a / b * b ≤ a := Int.ediv_mul_le a (by omega)
/-- One digit's guess: y1, y0 the divisor's halves; u, d what is divided; q the guess, r what is left of u. -/
structure Dg (B y1 y0 u d q r : Int) : Prop where
  hb : 0 < B
  h1 : 0 < y1
  h2 : B ≤ 2 * y1
  h3 : 0 ≤ y0
  h4 : y0 < B
  h5 : 0 ≤ u
  h6 : u < y1 * B + y0
  h7 : 0 ≤ d
  h8 : d < B
  hr : u = q * y1 + r
  hq : (u * B + d) / (y1 * B + y0) ≤ q
  hm : q ≤ B + 1
section
variable {B y1 y0 u d q r : Int}
theorem Dg.pos (h : Dg B y1 y0 u d q r) : 0 < y1 * B + y0 := by
  have := Int.mul_pos h.h1 h.hb
  have := h.h3
  omega
theorem Dg.lt (h : Dg B y1 y0 u d q r) : (u * B + d) / (y1 * B + y0) < B := by
  rw [Int.ediv_lt_iff_lt_mul h.pos]
  have h1 : (u + 1) * B ≤ (y1 * B + y0) * B := Int.mul_le_mul_of_nonneg_right (by have := h.h6; omega) (by have := h.hb; omega)
  have := h.h8
  have e : (u + 1) * B = u * B + B := by grind
  have e2 : (y1 * B + y0) * B = B * (y1 * B + y0) := Int.mul_comm _ _
  omega
theorem Dg.nonneg (h : Dg B y1 y0 u d q r) : 0 ≤ (u * B + d) / (y1 * B + y0) := by
  have h1 := Int.mul_nonneg h.h5 (Int.le_of_lt h.hb)
  exact Int.ediv_nonneg (by have := h.h7; omega) (Int.le_of_lt h.pos)
theorem Dg.more (h : Dg B y1 y0 u d q r) (ht : B ≤ q ∨ B * r + d < q * y0) : (u * B + d) / (y1 * B + y0) ≤ q - 1 := by
  rcases ht with ht | ht
  · have := h.lt; omega
  · have : (u * B + d) / (y1 * B + y0) < q := by
      rw [Int.ediv_lt_iff_lt_mul h.pos]
      have := h.hr
      have e : q * (y1 * B + y0) = q * y1 * B + q * y0 := by grind
      have e2 : u * B = q * y1 * B + B * r := by rw [this]; grind
      omega
    omega
theorem Dg.next (h : Dg B y1 y0 u d q r) (ht : B ≤ q ∨ B * r + d < q * y0) : Dg B y1 y0 u d (q - 1) (r + y1) := by
  refine ⟨h.hb, h.h1, h.h2, h.h3, h.h4, h.h5, h.h6, h.h7, h.h8, ?_, h.more ht, by have := h.hm; omega⟩
  have := h.hr
  grind
theorem Dg.done (h : Dg B y1 y0 u d q r) (ht : q * y0 ≤ B * r + d) : q = (u * B + d) / (y1 * B + y0) := by
  have h1 := h.hq
  have h2 : q ≤ (u * B + d) / (y1 * B + y0) := by
    apply le_ediv h.pos
    have := h.hr
    have e : q * (y1 * B + y0) = q * y1 * B + q * y0 := by grind
    have e2 : u * B = q * y1 * B + B * r := by rw [this]; grind
    omega
  omega
theorem Dg.over (h : Dg B y1 y0 u d q r) (hq : q ≤ B) (hr : B ≤ r) : q = (u * B + d) / (y1 * B + y0) := by
  apply h.done
  have h0 := h.nonneg
  have h1 := h.hq
  have a : q * y0 ≤ B * (B - 1) := Int.mul_le_mul hq (by have := h.h4; omega) h.h3 (by have := h.hb; omega)
  have b : B * B ≤ B * r := Int.mul_le_mul_of_nonneg_left hr (Int.le_of_lt h.hb)
  have := h.h7
  have := h.hb
  rw [Int.mul_sub] at a
  omega
end
theorem Dg.start {B y1 y0 u d : Int} (hb : 0 < B) (h1 : B ≤ 2 * y1) (h0 : 0 ≤ y0) (h0' : y0 < B) (hu : 0 ≤ u) (hu' : u < y1 * B + y0) (hd : 0 ≤ d) (hd' : d < B) : Dg B y1 y0 u d (u / y1) (u % y1) := by
  have hy1 : 0 < y1 := by omega
  have hpos : 0 < y1 * B + y0 := by have := Int.mul_pos hy1 hb; omega
  refine ⟨hb, hy1, h1, h0, h0', hu, hu', hd, hd', ?_, ?_, ?_⟩
  · have := Int.emod_add_mul_ediv u y1
    rw [Int.mul_comm] at this
    omega
  · apply le_ediv hy1
    have h2 := ediv_mul_le' (u * B + d) hpos
    generalize (u * B + d) / (y1 * B + y0) = qt at *
    rcases Int.lt_or_le qt 0 with hn | hn
    · have := Int.mul_nonneg (a := -qt) (b := y1) (by omega) (Int.le_of_lt hy1)
      rw [Int.neg_mul] at this
      omega
    · have h3 : qt * y1 * B ≤ qt * (y1 * B + y0) := by
        have := Int.mul_nonneg hn h0
        have e : qt * (y1 * B + y0) = qt * y1 * B + qt * y0 := by grind
        omega
      have h4 : qt * y1 * B < (u + 1) * B := by
        have e : (u + 1) * B = u * B + B := by grind
        omega
      have := Int.lt_of_mul_lt_mul_right h4 (Int.le_of_lt hb)
      omega
  · apply ediv_le hy1
    have e : (B + 1 + 1) * y1 = y1 * B + 2 * y1 := by grind
    omega
/-- The two digits together. -/
theorem two_digits {B Y N1 d0 : Int} (hY : 0 < Y) (hB : 0 < B) : (N1 * B + d0) / Y = (N1 / Y) * B + (N1 % Y * B + d0) / Y ∧ (N1 * B + d0) % Y = (N1 % Y * B + d0) % Y := by
  have h := Int.emod_add_mul_ediv N1 Y
  have e : N1 * B + d0 = (N1 % Y * B + d0) + Y * (N1 / Y * B) := by
    conv => lhs; rw [← h]
    grind
  rw [e, Int.add_mul_ediv_left _ _ (by omega), Int.add_mul_emod_self_left]
  exact ⟨by omega, rfl⟩
end Go.PW
set_option linter.unusedVariables false
namespace Go.PW
/-- The guess of the highest limbs is never too small. -/
theorem quo_le_guess {U3 V2 Ul Vl p : Int} (hp : 0 < p) (hV : 0 < V2) (hU : Ul < p) (hV0 : 0 ≤ Vl) (hU0 : 0 ≤ U3) (hUl : 0 ≤ Ul) : (U3 * p + Ul) / (V2 * p + Vl) ≤ U3 / V2 := by
  have hpos : 0 < V2 * p + Vl := by have := Int.mul_pos hV hp; omega
  apply le_ediv hV
  have h := ediv_mul_le' (U3 * p + Ul) hpos
  have hk : 0 ≤ (U3 * p + Ul) / (V2 * p + Vl) := Int.ediv_nonneg (by have := Int.mul_nonneg hU0 (Int.le_of_lt hp); omega) (Int.le_of_lt hpos)
  generalize (U3 * p + Ul) / (V2 * p + Vl) = k at *
  have h1 := Int.mul_nonneg hk hV0
  have h2 : k * V2 * p < (U3 + 1) * p := by grind
  have := Int.lt_of_mul_lt_mul_right h2 (Int.le_of_lt hp)
  omega
/-- And one too great at most. -/
theorem guess_le {B U3 V2 Ul Vl p q : Int} (hp : 0 < p) (hB : B ≤ V2) (hB0 : 0 < B) (hU0 : 0 ≤ Ul) (hV0 : 0 ≤ Vl) (hV1 : Vl < p) (hq0 : 0 ≤ q) (hq : q ≤ B) (h : q * V2 ≤ U3) : q ≤ (U3 * p + Ul) / (V2 * p + Vl) + 1 := by
  have hV2 : 0 < V2 := by omega
  have hpos : 0 < V2 * p + Vl := by have := Int.mul_pos hV2 hp; omega
  have h1 : q - 1 ≤ (U3 * p + Ul) / (V2 * p + Vl) := by
    apply le_ediv hpos
    have a : q * V2 * p ≤ U3 * p := Int.mul_le_mul_of_nonneg_right h (Int.le_of_lt hp)
    have b : q * Vl ≤ B * p := Int.mul_le_mul hq (by omega) hV0 (by omega)
    have c : B * p ≤ V2 * p := Int.mul_le_mul_of_nonneg_right hB (Int.le_of_lt hp)
    have e : (q - 1) * (V2 * p + Vl) = q * V2 * p + q * Vl - V2 * p - Vl := by grind
    omega
  omega
/-- One step of a product. -/
theorem mul_step {c d t k : Int} (hc : 0 ≤ c ∧ c < Bs) (hd : 0 ≤ d ∧ d < Bs) (ht : 0 ≤ t ∧ t < Bs) (hk : 0 ≤ k ∧ k < Bs) :
    (c * d / Bs + (c * d % Bs + t + 0) / Bs) % Bs = c * d / Bs + (c * d % Bs + t + 0) / Bs ∧
    (c * d / Bs + (c * d % Bs + t + 0) / Bs + ((c * d % Bs + t + 0) % Bs + k + 0) / Bs) % Bs = c * d / Bs + (c * d % Bs + t + 0) / Bs + ((c * d % Bs + t + 0) % Bs + k + 0) / Bs ∧
    c * d + t + k = Bs * (c * d / Bs + (c * d % Bs + t + 0) / Bs + ((c * d % Bs + t + 0) % Bs + k + 0) / Bs) + ((c * d % Bs + t + 0) % Bs + k + 0) % Bs ∧
    0 ≤ c * d / Bs + (c * d % Bs + t + 0) / Bs + ((c * d % Bs + t + 0) % Bs + k + 0) / Bs ∧ c * d / Bs + (c * d % Bs + t + 0) / Bs + ((c * d % Bs + t + 0) % Bs + k + 0) / Bs < Bs := by
  have h := mul_bound (x := c) (y := d) (p := Bs - 1) (q := Bs - 1) ⟨hc.1, by omega⟩ ⟨hd.1, by omega⟩
  have e : (Bs - 1) * (Bs - 1) = 340282366920938463426481119284349108225 := by decide
  rw [e] at h
  generalize c * d = p at *
  simp only [Bs] at *
  omega
/-- One step of taking a product away. -/
theorem take_step {q x c u b : Int} (hq : 0 ≤ q ∧ q < Bs) (hx : 0 ≤ x ∧ x < Bs) (hc : 0 ≤ c ∧ c < Bs) (hu : 0 ≤ u ∧ u < Bs) (hb : 0 ≤ b ∧ b ≤ 1) :
    (q * x / Bs + (q * x % Bs + c + 0) / Bs) % Bs = q * x / Bs + (q * x % Bs + c + 0) / Bs ∧
    (u - (q * x % Bs + c + 0) % Bs - b) % Bs + q * x + c = u - b + Bs * (if u < (q * x % Bs + c + 0) % Bs + b then 1 else 0) + Bs * (q * x / Bs + (q * x % Bs + c + 0) / Bs) ∧
    0 ≤ q * x / Bs + (q * x % Bs + c + 0) / Bs ∧ q * x / Bs + (q * x % Bs + c + 0) / Bs < Bs := by
  have h := mul_bound (x := q) (y := x) (p := Bs - 1) (q := Bs - 1) ⟨hq.1, by omega⟩ ⟨hx.1, by omega⟩
  have e : (Bs - 1) * (Bs - 1) = 340282366920938463426481119284349108225 := by decide
  rw [e] at h
  generalize q * x = p at *
  simp only [Bs] at *
  split <;> omega
/-- What comes of a subtraction of limbs. -/
theorem sub_step {x y b : Int} (hx : 0 ≤ x ∧ x < Bs) (hy : 0 ≤ y ∧ y < Bs) (hb : 0 ≤ b ∧ b ≤ 1) : (x - y - b) % Bs = x - y - b + Bs * (if x < y + b then 1 else 0) := by
  simp only [Bs] at *
  split <;> omega
theorem sum_step {x y c : Int} (hx : 0 ≤ x ∧ x < Bs) (hy : 0 ≤ y ∧ y < Bs) (hc : 0 ≤ c ∧ c ≤ 1) : (x + y + c) % Bs + Bs * ((x + y + c) / Bs) = x + y + c ∧ 0 ≤ (x + y + c) / Bs ∧ (x + y + c) / Bs ≤ 1 := by
  simp only [Bs] at *
  omega
end Go.PW

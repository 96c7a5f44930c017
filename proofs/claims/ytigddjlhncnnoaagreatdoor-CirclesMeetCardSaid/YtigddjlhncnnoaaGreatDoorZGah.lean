/- Part 8 of the proof of laws of this seat: lemmas on the model's code, on this program's functions, on numbers. No condition. -/
import Derived.Test.YtigddjlhncnnoaaGreatDoorZGag
set_option linter.unusedVariables false
set_option linter.unusedSimpArgs false
open Nat renaming reduceEqDiff → J0, reduceLeDiff → J1, reduceMul → J2, reduceAdd → J3, reduceSub → J4, reduceLT → J5
open Int renaming reduceToNat → J6, reducePow → J7, reduceNeg → J8, reduceLT → J9, reduceLE → Ja, reduceEq → Jb
open And renaming intro → Jc
open Go.IntKind renaming bits → Jd
namespace Go.AL
open Go.RowKit
theorem all_one_map {α : Type} {f : α → AV} (hf : ∀ x, (f x).one = true) (xs : List α) : (xs.map f).all AV.one = true := by
  simp [hf]
theorem Vg (k : IntKind) (xs : List Int) : (xs.map (AV.int k)).all AV.one = true := all_one_map (fun _ => rfl) xs
theorem W9 {P : Program} {t : TypeId} {x y : AV} {b : Bool} (h : ∀ d, Xm P (d + 1) t x y = some b) : Xm P Op.maxDepth t x y = some b := h (Op.maxDepth - 1)
theorem Yc {P : Program} {t e : TypeId} (hu : P.underlying t = some (.slice e)) : Xm P Op.maxDepth t .nilS .nilS = some true := W9 fun d => by simp [Xm, hu]
theorem Yo {P : Program} {t e : TypeId} {h o n c : Nat} (hu : P.underlying t = some (.slice e)) : Xm P Op.maxDepth t (.sl h o n c) .nilS = some false := W9 fun d => by simp [Xm, hu]
theorem Yp {P : Program} {t e : TypeId} {h o n z : Nat} (hu : P.underlying t = some (.slice e)) : Xm P Op.maxDepth t (.sg h o n z) .nilS = some false := W9 fun d => by simp [Xm, hu]
theorem append_nil {P : Program} {H : Hp} {z n by_ : Nat} {x zv : AV} {cs : List AV} {t e : TypeId} (h : Rd H z x cs n) (hu : P.underlying t = some (.slice e)) (hz : Xf P e = some z) (hzv : Z2 P e = some zv) (hzl : zv.cells.length = z) (hz0 : 0 < z) (hb : Xq P e = some by_)
    (ho : cs.all AV.one = true) (hn : 0 < n) (hby : n * by_ ≤ 140737488355328) (hm : n ≤ 140737488355328) : Yf P H t .nilS x = some (.sg H.length 0 n z, H ++ [⟨cs, .own, e⟩]) := by
  have h1 : n ≠ 0 := by omega
  simp [Yf, hu, hz, hzv, hb, hzl, hz0, h.row, ho, h1, hby, hm, agrown]
theorem J0w {P : Program} {H : Hp} {z by_ : Nat} {s x zv : AV} {cs : List AV} {t e : TypeId} (h : Rd H z x cs 0) (hu : P.underlying t = some (.slice e)) (hz : Xf P e = some z) (hzv : Z2 P e = some zv) (hzl : zv.cells.length = z) (hz0 : 0 < z) (hb : Xq P e = some by_)
    (ho : cs.all AV.one = true) (hs : s = .nilS ∨ (∃ h o n, s = .sl h o n n) ∨ ∃ h o n, s = .sg h o n z) : Yf P H t s x = some (s, H) := by
  rcases hs with rfl | ⟨h', o, n, rfl⟩ | ⟨h', o, n, rfl⟩ <;> simp [Yf, hu, hz, hzv, hb, hzl, hz0, h.row, ho]
structure Own (H : Hp) (z : Nat) (e : TypeId) (v : AV) (cs : List AV) (n : Nat) (lo : Nat) : Prop where
  row : (v = .nilS ∧ cs = [] ∧ n = 0) ∨ (∃ h o, v = .sl h o n n ∧ Rd H z v cs n ∧ ∃ b, X3 H h = some b ∧ b.ety = e) ∨ ∃ h, v = .sg h 0 n z ∧ X3 H h = some ⟨cs, .own, e⟩ ∧ cs.length = n * z ∧ lo ≤ h
theorem Own.rd {H : Hp} {z : Nat} {e : TypeId} {v : AV} {cs : List AV} {n lo : Nat} (h : Own H z e v cs n lo) : Rd H z v cs n := by
  rcases h.row with ⟨rfl, rfl, rfl⟩ | ⟨h', o, rfl, h, _⟩ | ⟨h', rfl, hg, hl, _⟩
  · exact Rd.nil _ _
  · exact h
  · refine ⟨?_, rfl⟩
    simp only [arow, hg]
    rw [if_neg (by decide), if_pos (by omega), List.drop_zero, List.take_of_length_le (by omega)]
theorem Own.ety {H : Hp} {z : Nat} {e : TypeId} {v : AV} {cs : List AV} {n lo : Nat} (h : Own H z e v cs n lo) : v = .nilS ∨ ∃ b, X3 H v.hd = some b ∧ b.ety = e := by
  rcases h.row with ⟨rfl, _⟩ | ⟨h', o, rfl, _, h⟩ | ⟨h', rfl, hg, _⟩
  · exact .inl rfl
  · exact .inr h
  · exact .inr ⟨_, hg, rfl⟩
theorem Own.nil (H : Hp) (z : Nat) (e : TypeId) (lo : Nat) : Own H z e .nilS [] 0 lo := ⟨.inl ⟨rfl, rfl, rfl⟩⟩
theorem Own.push {H : Hp} {z : Nat} {e : TypeId} {v : AV} {cs : List AV} {n lo : Nat} (h : Own H z e v cs n lo) (b : Blk) : Own (H ++ [b]) z e v cs n lo := by
  refine ⟨?_⟩
  rcases h.row with h | ⟨h', o, rfl, h, b', hb1, hb2⟩ | ⟨h', h1, h2, h3, h4⟩
  · exact .inl h
  · exact .inr (.inl ⟨h', o, rfl, h.push b, b', Qy hb1 (Ext.push _ _), hb2⟩)
  · exact .inr (.inr ⟨h', h1, Qy h2 (Ext.push _ _), h3, h4⟩)
theorem Ext.set {H H' : Hp} (x : Ext H H') {h : Nat} (hl : H.length ≤ h) (b : Blk) : Ext H (H'.set h b) := by
  obtain ⟨E, rfl⟩ := x
  exact ⟨E.set (h - H.length) b, by rw [List.set_append]; simp [show ¬ h < H.length by omega]⟩
theorem Ext.pushed {H X : Hp} (x : Ext H X) (b : Blk) : Ext H (X ++ [b]) := x.trans (Ext.push X b)
theorem Own.ext {H H' : Hp} {z : Nat} {e : TypeId} {v : AV} {cs : List AV} {n lo : Nat} (h : Own H z e v cs n lo) (x : Ext H H') : Own H' z e v cs n lo := by
  refine ⟨?_⟩
  rcases h.row with h | ⟨h', o, h1, h, b, hb1, hb2⟩ | ⟨h', h1, h2, h3, h4⟩
  · exact .inl h
  · exact .inr (.inl ⟨h', o, h1, h.ext x, b, Qy hb1 x, hb2⟩)
  · exact .inr (.inr ⟨h', h1, Qy h2 x, h3, h4⟩)
theorem Own.append {P : Program} {H0 H : Hp} {z n m by_ : Nat} {s x zv : AV} {cs ds : List AV} {t e : TypeId} (h : Own H z e s cs n H0.length) (hx : Rd H z x ds m) (x0 : Ext H0 H) (hu : P.underlying t = some (.slice e)) (hz : Xf P e = some z) (hzv : Z2 P e = some zv) (hzl : zv.cells.length = z) (hz0 : 0 < z) (hb : Xq P e = some by_)
    (hc : cs.all AV.one = true) (ho : ds.all AV.one = true) (hby : (n + m) * by_ ≤ 140737488355328) (hm : n + m ≤ 140737488355328) :
    ∃ v' H', Yf P H t s x = some (v', H') ∧ Own H' z e v' (cs ++ ds) (n + m) H0.length ∧ Ext H0 H' ∧ (0 < m → ∃ h, v' = .sg h 0 (n + m) z) := by
  rcases Nat.eq_zero_or_pos m with rfl | hmp
  · have : ds = [] := List.eq_nil_of_length_eq_zero (by rw [hx.length]; omega)
    subst this
    refine ⟨s, H, J0w hx hu hz hzv hzl hz0 hb rfl ?_, by simpa using h, x0, fun h => absurd h (by omega)⟩
    rcases h.row with h | ⟨h', o, h1, _⟩ | ⟨h', h1, _⟩
    · exact .inl h.1
    · exact .inr (.inl ⟨_, _, _, h1⟩)
    · exact .inr (.inr ⟨_, _, _, h1⟩)
  · rcases h.row with ⟨rfl, rfl, rfl⟩ | ⟨h', o, rfl, hr, _⟩ | ⟨h', rfl, hg, hl, hlo⟩
    · refine ⟨_, _, append_nil hx hu hz hzv hzl hz0 hb ho hmp (by simpa using hby) (by omega), ?_, x0.pushed _, fun _ => ⟨_, by rw [Nat.zero_add]⟩⟩
      rw [Nat.zero_add, List.nil_append]
      exact ⟨.inr (.inr ⟨_, rfl, by simp [Ui], hx.length, x0.len⟩)⟩
    · have h1 : m ≠ 0 := by omega
      have h2 : ¬ n + m ≤ n := by omega
      refine ⟨.sg H.length 0 (n + m) z, H ++ [⟨cs ++ ds, .own, e⟩], ?_, ⟨.inr (.inr ⟨_, rfl, by simp [Ui], ?_, x0.len⟩)⟩, x0.pushed _, fun _ => ⟨_, rfl⟩⟩
      · simp only [Yf, hu, hz, hzv, hb, hzl, hz0, hx.row, ho, and_self, if_true, h1, false_and, if_false, h2, hby, hm, Nat.le_refl, hr.row, hc, agrown]
      · rw [List.length_append, hr.length, hx.length, Nat.add_mul]
    · have h1 : m ≠ 0 := by omega
      have hmz : 0 < m * z := Nat.mul_pos hmp hz0
      have h2 : ¬ n * z + m * z ≤ cs.length := by omega
      have h3 : cs.take (n * z) = cs := List.take_of_length_le (by omega)
      have h4 : n * z ≤ cs.length := by omega
      refine ⟨.sg H.length 0 (n + m) z, H.set h' ⟨[], .dead, e⟩ ++ [⟨cs ++ ds, .own, e⟩], ?_, ?_, (x0.set hlo _).pushed _, fun _ => ⟨_, rfl⟩⟩
      · simp [Yf, hu, hz, hzv, hb, hzl, hz0, hx.row, ho, h1, hby, hm, hg, h2, h3, h4, hc]
      · refine ⟨.inr (.inr ⟨_, rfl, ?_, ?_, x0.len⟩)⟩
        · simp [Ui]
        · rw [List.length_append, hl, hx.length, Nat.add_mul]
theorem azeros_int (k : IntKind) (n : Nat) : Js [AV.int k 0] n = (List.replicate n (0 : Int)).map (AV.int k) := by
  induction n with
  | zero => simp [Js]
  | succ n ih => simp only [Js, List.replicate_succ, List.flatten_cons, List.map_cons, List.cons_append, List.nil_append] at ih ⊢; rw [ih]
theorem make_ints {P : Program} {H : Hp} {n by_ : Nat} {k l : IntKind} {t e : TypeId} (hu : P.underlying t = some (.slice e)) (hz : Xf P e = some 1) (hzv : Z2 P e = some (.int k 0)) (hb : Xq P e = some by_)
    (hn : n ≤ 140737488355328) (hby : n * by_ ≤ 140737488355328) : Yk P H t (.int l (n : Int)) (.int l (n : Int)) = some (.sl H.length 0 n n, H ++ [⟨(List.replicate n (0 : Int)).map (AV.int k), .own, e⟩]) := by
  have h1 : (n : Int) * (by_ : Int) ≤ 281474976710656 := by
    rw [← Int.natCast_mul]; omega
  simp only [Yk, hu, hz, hzv, hb, AV.cells_int, List.length_singleton, List.all_cons, AV.one_int, List.all_nil, Bool.and_true, Int.toNat_natCast, azeros_int]
  rw [if_pos ⟨trivial, trivial, by decide, by omega, by omega, by omega, h1⟩]
theorem Gs {α : Type} (f : α → AV) (xs : List α) {i : Nat} (y : α) (h : i < xs.length) : Q2 (xs.map f) i [f y] = (xs.set i y).map f := by
  unfold Q2
  apply List.ext_getElem?
  intro j
  rw [List.append_assoc, List.getElem?_append]
  simp only [List.length_take, List.length_map, List.length_singleton, Nat.min_eq_left (Nat.le_of_lt h), List.map_set]
  by_cases hj : j < i
  · rw [if_pos hj, List.getElem?_take, if_pos hj, List.getElem?_set_ne (by omega)]
  · rw [if_neg hj]
    by_cases he : j = i
    · subst he
      simp [h]
    · obtain ⟨d, rfl⟩ : ∃ d, j = i + 1 + d := ⟨j - i - 1, by omega⟩
      have e1 : i + 1 + d - i = d + 1 := by omega
      rw [e1, List.singleton_append, List.getElem?_cons_succ, List.getElem?_drop, List.getElem?_set_ne (by omega)]
end Go.AL
namespace Go.AL
open Go.RowKit
theorem Ints.str {P : Program} {H : Hp} {v : AV} {xs : List Int} {src dst e : TypeId} (h : Ints H .u8 v xs) (hs : P.underlying src = some (.slice e)) (he : Qi P e = true) (hd : P.underlying dst = some .string) :
    Up P H src dst v = some (.str (strOfNums xs)) := by
  rcases Un h.rd.row with ⟨rfl, h0, hn⟩ | ⟨b, hb, hg, hk, hl, hc⟩ | ⟨rfl, hl⟩
  rotate_left 2
  · simp only [Up, hs, hd, he, if_true, aints_map]
    rw [if_pos (by simp)]
    rfl
  · have : xs = [] := by simpa using h0
    subst this
    simp only [Up, hs, hd, he, if_true]
    rfl
  · have ha : aints ((b.cells.drop v.of).take xs.length) = some xs := by
      rw [Nat.mul_one] at hc
      rw [← hc, aints_map]
    rw [Nat.mul_one] at hl
    rcases hb with ⟨c, hb⟩ | ⟨z', hb⟩ <;> (generalize v.hd = k, v.of = o at *; subst hb; simp only [Up, hs, hd, he, if_true, abytes, hg]; rw [if_neg hk, if_pos hl, ha]; rfl)
theorem eq_bools {P : Program} {t : TypeId} {a b : Bool} (hu : P.underlying t = some .bool) : Xm P Op.maxDepth t (.bool a) (.bool b) = some (a == b) := W9 fun d => by simp [Xm, hu]
theorem eq_ptr_nil {P : Program} {t e : TypeId} {h o : Nat} (hu : P.underlying t = some (.pointer e)) : Xm P Op.maxDepth t (.ptr h o) .nilP = some false := W9 fun d => by simp [Xm, hu]
theorem Rf {P : Program} {t e : TypeId} (hu : P.underlying t = some (.pointer e)) : Xm P Op.maxDepth t .nilP .nilP = some true := W9 fun d => by simp [Xm, hu]
end Go.AL
namespace Go.AL
open Go.RowKit
theorem map_geti {k : IntKind} {xs : List Int} {i : Nat} (h : i < xs.length) : (xs.map (AV.int k))[i]? = some (.int k (xs.getD i 0)) := map_get (AV.int k) xs 0 h
theorem set_push_at {H : Hp} {k : Nat} {b b' : Blk} (h : k = H.length) : (H ++ [b]).set k b' = H ++ [b'] := by subst h; exact Gd H b b'
theorem J1x {cs ds : List AV} (h : ds.length = cs.length) : Q2 cs 0 ds = ds := by
  simp [Q2, ← h]
theorem take_all {α : Type} {cs : List α} {n : Nat} (h : cs.length ≤ n) : cs.take n = cs := List.take_of_length_le h
theorem G3 {cs : List AV} : AV.solid (.agg cs) = cs.all AV.one := rfl
theorem splice_int {k : IntKind} {xs : List Int} {i : Nat} {y : Int} (h : i < xs.length) : Q2 (xs.map (AV.int k)) i [.int k y] = (xs.set i y).map (AV.int k) := Gs (AV.int k) xs y h
theorem V6 (k : IntKind) (xs : List Int) : (xs.map (AV.int k)).length = xs.length := List.length_map ..
theorem apart_int {P : Program} {t : TypeId} {k : IntKind} {xs : List Int} {i : Nat} (ha : Xp P t = some false) (h : i < xs.length) : apart P t (xs.map (AV.int k)) i = some (.int k (xs.getD i 0)) := by
  simp only [apart, ha]
  exact map_geti h
theorem J0c {P : Program} {t e : TypeId} {n : Nat} {k l : IntKind} {xs : List Int} {j : Int} (hu : P.underlying t = some (.array n e)) (hz : Xf P e = some 1) (ha : Xp P e = some false) (hn : xs.length = n) (h0 : 0 ≤ j) (h1 : j < (n : Int)) :
    Gv P t (.agg (xs.map (AV.int k))) (.int l j) = some (.int k (xs.getD j.toNat 0)) := by
  simp only [Gv, hu, hz, Nat.mul_one]
  rw [if_pos ⟨h0, h1⟩]
  exact apart_int ha (by omega)
theorem J0d {P : Program} {t e : TypeId} {n z h o : Nat} {l : IntKind} {j : Int} (hu : P.underlying t = some (.array n e)) (hz : Xf P e = some z) (h0 : 0 ≤ j) (h1 : j < (n : Int)) :
    Qx P t (.ptr h o) (.int l j) = some (.ptr h (o + j.toNat * z)) := by
  simp only [Qx, hu, hz]
  rw [if_pos ⟨h0, h1⟩]
theorem Nc {P : Program} {t e : TypeId} {n z h o : Nat} (hu : P.underlying t = some (.array n e)) (hz : Xf P e = some z) : Yg P t (.ptr h o) none none none = some (.sl h o n n) := by
  simp [Yg, hu, hz, Y3]
theorem Wr {P : Program} {t e : TypeId} {n z h o : Nat} {l : IntKind} {q : Int} (hu : P.underlying t = some (.array n e)) (hz : Xf P e = some z) (h0 : 0 ≤ q) (h1 : q ≤ (n : Int)) : Yg P t (.ptr h o) none (some (.int l q)) none = some (.sl h o q.toNat n) := by
  obtain ⟨q, rfl⟩ := Int.eq_ofNat_of_zero_le h0
  have : q ≤ n := by omega
  simp [Yg, hu, hz, Y3, Wa, this]
def X5 (P : Program) (fr : Fr) (H : Hp) (rs : List ResultVar) (R : AV → Hp → Prop) : Prop :=
  match Qf P fr H rs with
  | some [v] => R v H
  | some vs => R (.tup vs) H
  | none => False
theorem Qg {P : Program} {fn : Func} {R : AV → Hp → Prop} {fr : Fr} {H : Hp} {e : Exit} {rs : List ResultVar} (hr : fn.results.toList = rs) (h : X5 P fr H rs R) (he : e = .ret ∨ e = .normal := by simp) : AEnd P fn R e fr H := by
  subst hr
  unfold X5 at h
  have key : ∃ r, aret P fn fr H = some r ∧ R r H := by
    split at h
    · rename_i v hv; exact ⟨v, by simp [aret, hv], h⟩
    · rename_i vs hne hv
      refine ⟨.tup vs, ?_, h⟩
      simp only [aret, hv]
    · exact h.elim
  rcases he with rfl | rfl <;> exact key
theorem Rd.load1 {P : Program} {H : Hp} {n : Nat} {v : AV} {cs : List AV} {e : TypeId} (h : Rd H 1 v cs n) (ha : Xp P e = some false) : ∀ {i : Nat}, i < n → V7 P H e (v.pl i) = cs[i]? := fun {i} hi => by
  have := h.load (P := P) ha hi
  rwa [Nat.mul_one] at this
theorem Ints.load1 {P : Program} {H : Hp} {k : IntKind} {v : AV} {xs : List Int} {e : TypeId} (h : Ints H k v xs) (ha : Xp P e = some false) : ∀ {i : Nat}, i < xs.length → V7 P H e (v.pl i) = some (.int k (xs.getD i 0)) := fun {i} hi => by
  have := Ints.load (P := P) h ha hi
  rwa [Nat.mul_one] at this
theorem Rd.at1 {P : Program} {H : Hp} {n : Nat} {v : AV} {cs : List AV} {t e : TypeId} (h : Rd H 1 v cs n) (hu : P.underlying t = some (.slice e)) (hz : Xf P e = some 1) : ∀ {k : IntKind} {j : Int}, 0 ≤ j → j < (n : Int) → Qx P t v (.int k j) = some (v.pl j.toNat) := fun {k j} h0 h1 => by
  have := h.at_ (P := P) hu hz (k := k) h0 h1
  rwa [Nat.mul_one] at this
end Go.AL
namespace Go.AL
open Go.RowKit
theorem eq_arr {P : Program} {t e : TypeId} {n : Nat} {k l : IntKind} {xs ys : List Int} (hu : P.underlying t = some (.array n e)) (hz : Xf P e = some 1) (ha : Xp P e = some false) (he : P.underlying e = some (.int l)) (hx : xs.length = n) (hy : ys.length = n) :
    Xm P Op.maxDepth t (.agg (xs.map (AV.int k))) (.agg (ys.map (AV.int k))) = some (decide (xs = ys)) := by
  have key : ∀ D, (∀ a b : Int, Xm P D e (.int k a) (.int k b) = some (a == b)) → Xm P (D + 1) t (.agg (xs.map (AV.int k))) (.agg (ys.map (AV.int k))) = some (decide (xs = ys)) := by
    intro D hel
    have step : ∀ m, m ≤ n → (List.range m).foldr (fun i r =>
        match apart P e (xs.map (AV.int k)) (i * 1), apart P e (ys.map (AV.int k)) (i * 1) with
        | some a, some b => match Xm P D e a b, r with
          | some p, some q => some (p && q)
          | _, _ => none
        | _, _ => none) (some (decide (xs.drop m = ys.drop m))) = some (decide (xs = ys)) := by
      intro m
      induction m with
      | zero => intro _; simp
      | succ m ih =>
        intro hm
        rw [List.range_succ, List.foldr_append]
        simp only [List.foldr_cons, List.foldr_nil]
        rw [Nat.mul_one, apart_int ha (by omega), apart_int ha (by omega)]
        simp only [hel]
        have e1 : (xs.getD m 0 == ys.getD m 0 && decide (xs.drop (m + 1) = ys.drop (m + 1))) = decide (xs.drop m = ys.drop m) := by
          rw [drop_step xs 0 (i := m) (by omega), drop_step ys 0 (i := m) (by omega)]
          rw [Bool.eq_iff_iff]
          simp
        rw [e1]
        exact ih (by omega)
    have hn := step n (Nat.le_refl _)
    rw [List.drop_of_length_le (by omega), List.drop_of_length_le (by omega)] at hn
    have ht : decide (([] : List Int) = []) = true := rfl
    rw [ht] at hn
    simp only [Xm, hu, hz]
    exact hn
  exact key (Op.maxDepth - 1) fun a b => by
    show Xm P ((Op.maxDepth - 2) + 1) e _ _ = _
    simp [Xm, he]
end Go.AL
namespace Go.AL
theorem Yn {n : Sc} {P : Program} {c : Code} {fr : Fr} {H : Hp} {K : Fr → Hp → Prop} {Q : Exit → Fr → Hp → Prop} (Φ : Fr → Hp → Prop) (h1 : AWp (n := n) P c fr H (Qb Φ fun _ _ _ => False)) (h2 : ∀ fr' H', Φ fr' H' → K fr' H') : AWp (n := n) P c fr H (Qb K Q) :=
  h1.mono fun e fr' H' h => by
    cases e with
    | normal => exact h2 _ _ h
    | _ => exact h.elim
end Go.AL
namespace Go.AL
theorem AWp_cutB {n : Sc} {P : Program} {c : Code} {fr : Fr} {H : Hp} {K : Fr → Hp → Prop} {Q : Exit → Fr → Hp → Prop} {id : Nat} (Φ : Fr → Hp → Prop) (h1 : AWp (n := n) P c fr H (Jo id (Qb Φ fun _ _ _ => False))) (h2 : ∀ fr' H', Φ fr' H' → K fr' H') : AWp (n := n) P c fr H (Jo id (Qb K Q)) :=
  h1.mono fun e fr' H' h => by
    cases e with
    | normal => exact h2 _ _ h
    | exit i =>
      simp only [Jo] at h ⊢
      split at h
      · rename_i hi; rw [if_pos hi]; exact h2 _ _ h
      · exact h.elim
    | _ => exact h.elim
end Go.AL
namespace Go.AL
theorem at_sl {P : Program} {t e : TypeId} {z h o n c : Nat} {l : IntKind} {j : Int} (hu : P.underlying t = some (.slice e)) (hz : Xf P e = some z) (h0 : 0 ≤ j) (h1 : j < (n : Int)) : Qx P t (.sl h o n c) (.int l j) = some (.ptr h (o + j.toNat * z)) := by
  simp [Qx, hu, hz, h0, h1]
theorem at_sg {P : Program} {t e : TypeId} {z h o n z' : Nat} {l : IntKind} {j : Int} (hu : P.underlying t = some (.slice e)) (hz : Xf P e = some z) (h0 : 0 ≤ j) (h1 : j < (n : Int)) : Qx P t (.sg h o n z') (.int l j) = some (.ptr h (o + j.toNat * z)) := by
  simp [Qx, hu, hz, h0, h1]
theorem at_sl1 {P : Program} {t e : TypeId} {h o n c : Nat} {l : IntKind} {j : Int} (hu : P.underlying t = some (.slice e)) (hz : Xf P e = some 1) (h0 : 0 ≤ j) (h1 : j < (n : Int)) : Qx P t (.sl h o n c) (.int l j) = some (.ptr h (o + j.toNat)) := by
  simp [Qx, hu, hz, h0, h1]
theorem at_sg1 {P : Program} {t e : TypeId} {h o n z' : Nat} {l : IntKind} {j : Int} (hu : P.underlying t = some (.slice e)) (hz : Xf P e = some 1) (h0 : 0 ≤ j) (h1 : j < (n : Int)) : Qx P t (.sg h o n z') (.int l j) = some (.ptr h (o + j.toNat)) := by
  simp [Qx, hu, hz, h0, h1]
theorem Ints.blk {H : Hp} {h o n c : Nat} {k : IntKind} {kd : BK} {e : TypeId} {xs : List Int} (hg : X3 H h = some ⟨xs.map (AV.int k), kd, e⟩) (hk : kd ≠ .dead) (hn : o + n ≤ xs.length) (hc : n ≤ c) : Ints H k (.sl h o n c) ((xs.drop o).take n) := by
  have hl : ((xs.drop o).take n).length = n := by rw [List.length_take, List.length_drop]; omega
  refine ⟨?_, ?_⟩
  · simp only [arow, hg, Nat.mul_one]
    rw [if_neg hk, if_pos (by rw [List.length_map]; omega), hl, ← List.map_drop, ← List.map_take]
  · exact hc
end Go.AL
namespace Go.AL
theorem X7 {H : Hp} {b : Blk} {k : Nat} (h : k = H.length) : X3 (H ++ [b]) k = some b := by rw [Ui, if_pos h]
theorem Qw {H : Hp} {b : Blk} {k : Nat} (h : k < H.length) : X3 (H ++ [b]) k = X3 H k := by rw [Ui, if_neg (by omega)]
structure P1 (H H1 : Hp) (v : AV) (h : Nat) (b : Blk) : Prop where
  eq : v = .ptr h 0
  get : X3 H1 h = some b
  lo : H.length ≤ h
theorem P1.hi {H H1 : Hp} {v : AV} {h : Nat} {b : Blk} (p : P1 H H1 v h b) : h < H1.length := X6 p.get
theorem P1.push {H H1 : Hp} {v : AV} {h : Nat} {b : Blk} (p : P1 H H1 v h b) (c : Blk) : P1 H (H1 ++ [c]) v h b := ⟨p.eq, by rw [Qw p.hi]; exact p.get, p.lo⟩
end Go.AL
namespace Go.AL
theorem set_same {H : Hp} {p : Nat} {b : Blk} (h : X3 H p = some b) : H.set p b = H := by
  apply List.ext_getElem?
  intro i
  rw [List.getElem?_set]
  split
  · rename_i he; subst he
    unfold X3 at h
    rw [h, if_pos (List.getElem?_eq_some_iff.1 h).1]
  · rfl
theorem J1h {H : Hp} {p : Nat} {b b' : Blk} : (H.set p b).set p b' = H.set p b' := by
  rw [List.set_set]
end Go.AL
namespace Go.AL
theorem K9 {P : Program} {H : Hp} {t : TypeId} {h o : Nat} : V7 P H t (.ptr h o) = (match X3 H h with
    | some b =>
      if b.kind = .dead then none else
      match Xp P t, Xf P t with
      | some true, some n => if o + n ≤ b.cells.length then some (.agg ((b.cells.drop o).take n)) else none
      | some false, _ => b.cells[o]?
      | _, _ => none
    | none => none) := id rfl
theorem Um {P : Program} {H : Hp} {t : TypeId} {h o : Nat} {x : AV} : Np P H t (.ptr h o) x = (match Xf P t with
    | some n => match X3 H h with
      | some b => if b.kind = .own ∧ x.solid = true ∧ x.cells.length = n ∧ o + n ≤ b.cells.length then some (H.set h ⟨Q2 b.cells o x.cells, .own, b.ety⟩) else none
      | none => none
    | none => none) := by
  unfold Np
  cases Xf P t <;> rfl
end Go.AL
set_option maxRecDepth 4000
namespace Go.AL
theorem RA : type_of% (Jc @ESt_some (Jc @Run_nil (Jc @Run_cons (Jc @Run_pnil (Jc @Run_one (Jc @Run_alt (Jc @EAt_def (Jc @EStep_def (Jc @E0_def (Jc @EGuard_true (Jc @EGuard_false (Jc @beq_self_eq_true.{0} (Jc @beq_true (Jc @beq_false (Jc @bne_self_eq_false.{0} (Jc @Fr.put_some (Jc @Fr.put_none (Jc @Qp (Jc @Qq (Jc @Qt (Jc @if_true.{0} (Jc @if_true.{1} (Jc @if_false.{0} (Jc @if_false.{1} (Jc @Option.map_some.{0,0} (Jc @Option.map_none.{0,0} (Jc @Option.bind_some.{0,0} (Jc @Option.bind_none.{0,0} (Jc @or_self (Jc @or_true (Jc @true_or (Jc @or_false (Jc @false_or (Jc @and_self (Jc @and_true (Jc @true_and (Jc @and_false (Jc @false_and (Jc @not_true_eq_false (Jc @not_false_eq_true (Jc @Bool.false_eq_true (Jc @Bool.true_eq_false (Jc @decide_eq_true_eq (Jc @decide_eq_false_iff_not (Jc @beq_iff_eq.{0} (Jc @bne_iff_ne.{0} (Jc @Bool.not_eq_true' (Jc @Bool.not_true (Jc @Bool.not_false (Jc @ne_eq.{0} (Jc @ne_eq.{1} (Jc @AV.solid_int (Jc @AV.one_int (Jc @AV.cells_int (Jc @AV.solid_bool (Jc @AV.one_bool (Jc @AV.cells_bool (Jc @AV.solid_str (Jc @AV.one_str (Jc @AV.cells_str (Jc @AV.solid_nilI (Jc @AV.one_nilI (Jc @AV.cells_nilI (Jc @AV.solid_ifc (Jc @AV.one_ifc (Jc @AV.cells_ifc (Jc @AV.solid_nilP (Jc @AV.one_nilP (Jc @AV.cells_nilP (Jc @AV.solid_ptr (Jc @AV.one_ptr (Jc @AV.cells_ptr (Jc @AV.solid_nilS (Jc @AV.one_nilS (Jc @AV.cells_nilS (Jc @AV.solid_sl (Jc @AV.one_sl (Jc @AV.cells_sl (Jc @AV.solid_sg (Jc @AV.one_sg (Jc @AV.cells_sg (Jc @AV.solid_fn (Jc @AV.one_fn (Jc @AV.cells_fn (Jc @AV.cells_agg (Jc @List.replicate_succ.{0} (Jc @List.replicate_zero.{0} (Jc @List.flatten_cons.{0} (Jc @List.flatten_nil.{0} (Jc @List.append_nil.{0} (Jc @List.nil_append.{0} (Jc @List.cons_append.{0} (Jc @List.take_succ_cons.{0} (Jc @List.take_zero.{0} (Jc @List.drop_succ_cons.{0} (Jc @List.drop_zero.{0} (Jc @List.length_cons.{0} (Jc @List.length_nil.{0} (Jc @List.all_cons.{0} (Jc @List.all_nil.{0} (Jc @Bool.and_true (Jc @Bool.true_and (Jc @Bool.and_self (Jc @Bool.or_true (Jc @Bool.true_or (Jc @Bool.or_false (Jc @Bool.false_or (Jc @Bool.and_false (Jc @Bool.false_and (Jc @Int.cast_ofNat_Int (Jc @Nat.min_def (Jc @Nat.zero_add (Jc @Ui (Jc @Gd (Jc @List.map_cons.{0,0} (Jc @List.map_nil.{0,0} (Jc @List.toList_toArray.{0} (Jc @List.getElem?_toArray.{0} (Jc @List.getElem?_cons_zero.{0} (@List.getElem?_cons_succ.{0})))))))))))))))))))))))))))))))))))))))))))))))))))))))))))))))))))))))))))))))))))))))))))))))))))))))))))))))))))))))) := Jc @ESt_some (Jc @Run_nil (Jc @Run_cons (Jc @Run_pnil (Jc @Run_one (Jc @Run_alt (Jc @EAt_def (Jc @EStep_def (Jc @E0_def (Jc @EGuard_true (Jc @EGuard_false (Jc @beq_self_eq_true.{0} (Jc @beq_true (Jc @beq_false (Jc @bne_self_eq_false.{0} (Jc @Fr.put_some (Jc @Fr.put_none (Jc @Qp (Jc @Qq (Jc @Qt (Jc @if_true.{0} (Jc @if_true.{1} (Jc @if_false.{0} (Jc @if_false.{1} (Jc @Option.map_some.{0,0} (Jc @Option.map_none.{0,0} (Jc @Option.bind_some.{0,0} (Jc @Option.bind_none.{0,0} (Jc @or_self (Jc @or_true (Jc @true_or (Jc @or_false (Jc @false_or (Jc @and_self (Jc @and_true (Jc @true_and (Jc @and_false (Jc @false_and (Jc @not_true_eq_false (Jc @not_false_eq_true (Jc @Bool.false_eq_true (Jc @Bool.true_eq_false (Jc @decide_eq_true_eq (Jc @decide_eq_false_iff_not (Jc @beq_iff_eq.{0} (Jc @bne_iff_ne.{0} (Jc @Bool.not_eq_true' (Jc @Bool.not_true (Jc @Bool.not_false (Jc @ne_eq.{0} (Jc @ne_eq.{1} (Jc @AV.solid_int (Jc @AV.one_int (Jc @AV.cells_int (Jc @AV.solid_bool (Jc @AV.one_bool (Jc @AV.cells_bool (Jc @AV.solid_str (Jc @AV.one_str (Jc @AV.cells_str (Jc @AV.solid_nilI (Jc @AV.one_nilI (Jc @AV.cells_nilI (Jc @AV.solid_ifc (Jc @AV.one_ifc (Jc @AV.cells_ifc (Jc @AV.solid_nilP (Jc @AV.one_nilP (Jc @AV.cells_nilP (Jc @AV.solid_ptr (Jc @AV.one_ptr (Jc @AV.cells_ptr (Jc @AV.solid_nilS (Jc @AV.one_nilS (Jc @AV.cells_nilS (Jc @AV.solid_sl (Jc @AV.one_sl (Jc @AV.cells_sl (Jc @AV.solid_sg (Jc @AV.one_sg (Jc @AV.cells_sg (Jc @AV.solid_fn (Jc @AV.one_fn (Jc @AV.cells_fn (Jc @AV.cells_agg (Jc @List.replicate_succ.{0} (Jc @List.replicate_zero.{0} (Jc @List.flatten_cons.{0} (Jc @List.flatten_nil.{0} (Jc @List.append_nil.{0} (Jc @List.nil_append.{0} (Jc @List.cons_append.{0} (Jc @List.take_succ_cons.{0} (Jc @List.take_zero.{0} (Jc @List.drop_succ_cons.{0} (Jc @List.drop_zero.{0} (Jc @List.length_cons.{0} (Jc @List.length_nil.{0} (Jc @List.all_cons.{0} (Jc @List.all_nil.{0} (Jc @Bool.and_true (Jc @Bool.true_and (Jc @Bool.and_self (Jc @Bool.or_true (Jc @Bool.true_or (Jc @Bool.or_false (Jc @Bool.false_or (Jc @Bool.and_false (Jc @Bool.false_and (Jc @Int.cast_ofNat_Int (Jc @Nat.min_def (Jc @Nat.zero_add (Jc @Ui (Jc @Gd (Jc @List.map_cons.{0,0} (Jc @List.map_nil.{0,0} (Jc @List.toList_toArray.{0} (Jc @List.getElem?_toArray.{0} (Jc @List.getElem?_cons_zero.{0} (@List.getElem?_cons_succ.{0})))))))))))))))))))))))))))))))))))))))))))))))))))))))))))))))))))))))))))))))))))))))))))))))))))))))))))))))))))))))
theorem RC : type_of% (Jc @Bool.not_eq_true' (Jc @Bool.not_eq_false' (Jc @decide_eq_true_eq (Jc @decide_eq_false_iff_not (Jc @beq_iff_eq.{0} (Jc @beq_eq_false_iff_ne.{0} (Jc @bne_iff_ne.{0} (Jc @bne_eq_false_iff_eq.{0} (Jc @Bool.false_eq_true (Jc @ne_eq.{0} (Jc @ne_eq.{1} (Jc @Decidable.not_not (Jc @Bool.not_eq_eq_eq_not (Jc @Bool.not_true (Jc @Bool.not_false (Jc @not_true_eq_false (@not_false_eq_true))))))))))))))))) := Jc @Bool.not_eq_true' (Jc @Bool.not_eq_false' (Jc @decide_eq_true_eq (Jc @decide_eq_false_iff_not (Jc @beq_iff_eq.{0} (Jc @beq_eq_false_iff_ne.{0} (Jc @bne_iff_ne.{0} (Jc @bne_eq_false_iff_eq.{0} (Jc @Bool.false_eq_true (Jc @ne_eq.{0} (Jc @ne_eq.{1} (Jc @Decidable.not_not (Jc @Bool.not_eq_eq_eq_not (Jc @Bool.not_true (Jc @Bool.not_false (Jc @not_true_eq_false (@not_false_eq_true))))))))))))))))
theorem RB : type_of% (Jc @Nat.mul_one (Jc @Nat.add_zero (Jc @Qu (Jc @G3 (Jc @Vg (Jc @V6 (Jc @Int.toNat_natCast (@List.map_nil.{0,0})))))))) := Jc @Nat.mul_one (Jc @Nat.add_zero (Jc @Qu (Jc @G3 (Jc @Vg (Jc @V6 (Jc @Int.toNat_natCast (@List.map_nil.{0,0})))))))
theorem RD : type_of% (Jc @K9 (Jc @Um (Jc @Ui (Jc @Gd (Jc @set_push_at (Jc @Nz (Jc @Qu (Jc @selP (Jc @selN (Jc @optIf (Jc @optIfN (Jc @avP (Jc @avN (Jc @map_geti (Jc @J1x (Jc @splice_int (Jc @take_all (Jc @List.drop_zero.{0} (Jc @Nat.zero_add (Jc @Nat.add_zero (Jc @Nat.mul_one (Jc @G3 (Jc @Vg (Jc @AV.cells_agg (Jc @AV.cells_int (Jc @AV.solid_int (Jc @List.length_singleton.{0} (Jc @if_false.{0} (Jc @if_false.{1} (Jc @if_true.{0} (Jc @if_true.{1} (Jc @and_self (Jc @and_true (Jc @true_and (Jc @V6 (Jc @List.length_set.{0} (Jc @Int.toNat_natCast (Jc @Option.map_some.{0,0} (@Option.map_none.{0,0}))))))))))))))))))))))))))))))))))))))) := Jc @K9 (Jc @Um (Jc @Ui (Jc @Gd (Jc @set_push_at (Jc @Nz (Jc @Qu (Jc @selP (Jc @selN (Jc @optIf (Jc @optIfN (Jc @avP (Jc @avN (Jc @map_geti (Jc @J1x (Jc @splice_int (Jc @take_all (Jc @List.drop_zero.{0} (Jc @Nat.zero_add (Jc @Nat.add_zero (Jc @Nat.mul_one (Jc @G3 (Jc @Vg (Jc @AV.cells_agg (Jc @AV.cells_int (Jc @AV.solid_int (Jc @List.length_singleton.{0} (Jc @if_false.{0} (Jc @if_false.{1} (Jc @if_true.{0} (Jc @if_true.{1} (Jc @and_self (Jc @and_true (Jc @true_and (Jc @V6 (Jc @List.length_set.{0} (Jc @Int.toNat_natCast (Jc @Option.map_some.{0,0} (@Option.map_none.{0,0}))))))))))))))))))))))))))))))))))))))
theorem RL : type_of% (Jc @List.length_append.{0} (Jc @List.length_cons.{0} (Jc @List.length_nil.{0} (Jc @V6 (Jc @List.length_set.{0} (@List.length_replicate.{0})))))) := Jc @List.length_append.{0} (Jc @List.length_cons.{0} (Jc @List.length_nil.{0} (Jc @V6 (Jc @List.length_set.{0} (@List.length_replicate.{0})))))
theorem RM : type_of% (Jc @List.length_append.{0} (Jc @List.length_cons.{0} (Jc @List.length_nil.{0} (Jc @V6 (Jc @List.length_set.{0} (Jc @List.length_replicate.{0} (Jc @List.length_take.{0} (@List.length_drop.{0})))))))) := Jc @List.length_append.{0} (Jc @List.length_cons.{0} (Jc @List.length_nil.{0} (Jc @V6 (Jc @List.length_set.{0} (Jc @List.length_replicate.{0} (Jc @List.length_take.{0} (@List.length_drop.{0})))))))
theorem RS : type_of% (Jc @optIf (Jc @optIfN (Jc @selP (Jc @selN (Jc @avP (@avN)))))) := Jc @optIf (Jc @optIfN (Jc @selP (Jc @selN (Jc @avP (@avN)))))
theorem RO : type_of% (Jc @AV.one_int (Jc @AV.one_bool (Jc @AV.one_str (Jc @AV.one_nilI (Jc @AV.one_ifc (Jc @AV.one_nilP (Jc @AV.one_ptr (Jc @AV.one_nilS (Jc @AV.one_sl (Jc @AV.one_sg (@AV.one_fn))))))))))) := Jc @AV.one_int (Jc @AV.one_bool (Jc @AV.one_str (Jc @AV.one_nilI (Jc @AV.one_ifc (Jc @AV.one_nilP (Jc @AV.one_ptr (Jc @AV.one_nilS (Jc @AV.one_sl (Jc @AV.one_sg (@AV.one_fn))))))))))
end Go.AL

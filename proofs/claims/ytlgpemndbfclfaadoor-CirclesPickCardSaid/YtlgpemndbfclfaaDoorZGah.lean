/- Part 8 of the proof of laws of this seat: lemmas on the model's code, on this program's functions, on numbers. No condition. -/
import Derived.Test.YtlgpemndbfclfaaDoorZGag
set_option linter.unusedVariables false
set_option linter.unusedSimpArgs false
open Nat renaming reduceEqDiff → J0, reduceLeDiff → J1, reduceMul → J2, reduceAdd → J3, reduceSub → J4, reduceLT → J5
open Int renaming reduceToNat → J6, reducePow → J7, reduceNeg → J8, reduceLT → J9, reduceLE → Ja, reduceEq → Jb
open And renaming intro → Jc
open Go.IntKind renaming bits → Jd
namespace Go.AL
open Go.RowKit
theorem all_one_map {α : Type} {f : α → AV} (hf : ∀ x, (f x).one = true) (xs : List α) : (xs.map f).all AV.one = true := by
  simp [hf]
theorem Ve (k : IntKind) (xs : List Int) : (xs.map (AV.int k)).all AV.one = true := all_one_map (fun _ => rfl) xs
theorem Yr {P : Program} {t : TypeId} {x y : AV} {b : Bool} (h : ∀ d, X5 P (d + 1) t x y = some b) : X5 P Op.maxDepth t x y = some b := h (Op.maxDepth - 1)
theorem Wd {P : Program} {t e : TypeId} (hu : P.underlying t = some (.slice e)) : X5 P Op.maxDepth t .nilS .nilS = some true := Yr fun d => by simp [X5, hu]
theorem Kh {P : Program} {t e : TypeId} {h o n c : Nat} (hu : P.underlying t = some (.slice e)) : X5 P Op.maxDepth t (.sl h o n c) .nilS = some false := Yr fun d => by simp [X5, hu]
theorem Ki {P : Program} {t e : TypeId} {h o n z : Nat} (hu : P.underlying t = some (.slice e)) : X5 P Op.maxDepth t (.sg h o n z) .nilS = some false := Yr fun d => by simp [X5, hu]
theorem append_nil {P : Program} {H : Hp} {z n by_ : Nat} {x zv : AV} {cs : List AV} {t e : TypeId} (h : Rd H z x cs n) (hu : P.underlying t = some (.slice e)) (hz : Qv P e = some z) (hzv : Xf P e = some zv) (hzl : zv.cells.length = z) (hz0 : 0 < z) (hb : X7 P e = some by_)
    (ho : cs.all AV.one = true) (hn : 0 < n) (hby : n * by_ ≤ 140737488355328) (hm : n ≤ 140737488355328) : Zk P H t .nilS x = some (.sg H.length 0 n z, H ++ [⟨cs, .own, e⟩]) := by
  have h1 : n ≠ 0 := by omega
  simp [Zk, hu, hz, hzv, hb, hzl, hz0, h.row, ho, h1, hby, hm, Nn]
theorem Nk {P : Program} {H : Hp} {z by_ : Nat} {s x zv : AV} {cs : List AV} {t e : TypeId} (h : Rd H z x cs 0) (hu : P.underlying t = some (.slice e)) (hz : Qv P e = some z) (hzv : Xf P e = some zv) (hzl : zv.cells.length = z) (hz0 : 0 < z) (hb : X7 P e = some by_)
    (ho : cs.all AV.one = true) (hs : s = .nilS ∨ (∃ h o n, s = .sl h o n n) ∨ ∃ h o n, s = .sg h o n z) : Zk P H t s x = some (s, H) := by
  rcases hs with rfl | ⟨h', o, n, rfl⟩ | ⟨h', o, n, rfl⟩ <;> simp [Zk, hu, hz, hzv, hb, hzl, hz0, h.row, ho]
structure Own (H : Hp) (z : Nat) (e : TypeId) (v : AV) (cs : List AV) (n : Nat) (lo : Nat) : Prop where
  row : (v = .nilS ∧ cs = [] ∧ n = 0) ∨ (∃ h o, v = .sl h o n n ∧ Rd H z v cs n ∧ ∃ b, Qy H h = some b ∧ b.ety = e) ∨ ∃ h, v = .sg h 0 n z ∧ Qy H h = some ⟨cs, .own, e⟩ ∧ cs.length = n * z ∧ lo ≤ h
theorem Own.rd {H : Hp} {z : Nat} {e : TypeId} {v : AV} {cs : List AV} {n lo : Nat} (h : Own H z e v cs n lo) : Rd H z v cs n := by
  rcases h.row with ⟨rfl, rfl, rfl⟩ | ⟨h', o, rfl, h, _⟩ | ⟨h', rfl, hg, hl, _⟩
  · exact Rd.nil _ _
  · exact h
  · refine ⟨?_, rfl⟩
    simp only [arow, hg]
    rw [if_neg (by decide), if_pos (by omega), List.drop_zero, List.take_of_length_le (by omega)]
theorem Own.ety {H : Hp} {z : Nat} {e : TypeId} {v : AV} {cs : List AV} {n lo : Nat} (h : Own H z e v cs n lo) : v = .nilS ∨ ∃ b, Qy H v.hd = some b ∧ b.ety = e := by
  rcases h.row with ⟨rfl, _⟩ | ⟨h', o, rfl, _, h⟩ | ⟨h', rfl, hg, _⟩
  · exact .inl rfl
  · exact .inr h
  · exact .inr ⟨_, hg, rfl⟩
theorem Own.nil (H : Hp) (z : Nat) (e : TypeId) (lo : Nat) : Own H z e .nilS [] 0 lo := ⟨.inl ⟨rfl, rfl, rfl⟩⟩
theorem Own.push {H : Hp} {z : Nat} {e : TypeId} {v : AV} {cs : List AV} {n lo : Nat} (h : Own H z e v cs n lo) (b : Blk) : Own (H ++ [b]) z e v cs n lo := by
  refine ⟨?_⟩
  rcases h.row with h | ⟨h', o, rfl, h, b', hb1, hb2⟩ | ⟨h', h1, h2, h3, h4⟩
  · exact .inl h
  · exact .inr (.inl ⟨h', o, rfl, h.push b, b', Xd hb1 (Ext.push _ _), hb2⟩)
  · exact .inr (.inr ⟨h', h1, Xd h2 (Ext.push _ _), h3, h4⟩)
theorem Ext.set {H H' : Hp} (x : Ext H H') {h : Nat} (hl : H.length ≤ h) (b : Blk) : Ext H (H'.set h b) := by
  obtain ⟨E, rfl⟩ := x
  exact ⟨E.set (h - H.length) b, by rw [List.set_append]; simp [show ¬ h < H.length by omega]⟩
theorem Ext.pushed {H X : Hp} (x : Ext H X) (b : Blk) : Ext H (X ++ [b]) := x.trans (Ext.push X b)
theorem Own.ext {H H' : Hp} {z : Nat} {e : TypeId} {v : AV} {cs : List AV} {n lo : Nat} (h : Own H z e v cs n lo) (x : Ext H H') : Own H' z e v cs n lo := by
  refine ⟨?_⟩
  rcases h.row with h | ⟨h', o, h1, h, b, hb1, hb2⟩ | ⟨h', h1, h2, h3, h4⟩
  · exact .inl h
  · exact .inr (.inl ⟨h', o, h1, h.ext x, b, Xd hb1 x, hb2⟩)
  · exact .inr (.inr ⟨h', h1, Xd h2 x, h3, h4⟩)
theorem Own.append {P : Program} {H0 H : Hp} {z n m by_ : Nat} {s x zv : AV} {cs ds : List AV} {t e : TypeId} (h : Own H z e s cs n H0.length) (hx : Rd H z x ds m) (x0 : Ext H0 H) (hu : P.underlying t = some (.slice e)) (hz : Qv P e = some z) (hzv : Xf P e = some zv) (hzl : zv.cells.length = z) (hz0 : 0 < z) (hb : X7 P e = some by_)
    (hc : cs.all AV.one = true) (ho : ds.all AV.one = true) (hby : (n + m) * by_ ≤ 140737488355328) (hm : n + m ≤ 140737488355328) :
    ∃ v' H', Zk P H t s x = some (v', H') ∧ Own H' z e v' (cs ++ ds) (n + m) H0.length ∧ Ext H0 H' ∧ (0 < m → ∃ h, v' = .sg h 0 (n + m) z) := by
  rcases Nat.eq_zero_or_pos m with rfl | hmp
  · have : ds = [] := List.eq_nil_of_length_eq_zero (by rw [hx.length]; omega)
    subst this
    refine ⟨s, H, Nk hx hu hz hzv hzl hz0 hb rfl ?_, by simpa using h, x0, fun h => absurd h (by omega)⟩
    rcases h.row with h | ⟨h', o, h1, _⟩ | ⟨h', h1, _⟩
    · exact .inl h.1
    · exact .inr (.inl ⟨_, _, _, h1⟩)
    · exact .inr (.inr ⟨_, _, _, h1⟩)
  · rcases h.row with ⟨rfl, rfl, rfl⟩ | ⟨h', o, rfl, hr, _⟩ | ⟨h', rfl, hg, hl, hlo⟩
    · refine ⟨_, _, append_nil hx hu hz hzv hzl hz0 hb ho hmp (by simpa using hby) (by omega), ?_, x0.pushed _, fun _ => ⟨_, by rw [Nat.zero_add]⟩⟩
      rw [Nat.zero_add, List.nil_append]
      exact ⟨.inr (.inr ⟨_, rfl, by simp [Y8], hx.length, x0.len⟩)⟩
    · have h1 : m ≠ 0 := by omega
      have h2 : ¬ n + m ≤ n := by omega
      refine ⟨.sg H.length 0 (n + m) z, H ++ [⟨cs ++ ds, .own, e⟩], ?_, ⟨.inr (.inr ⟨_, rfl, by simp [Y8], ?_, x0.len⟩)⟩, x0.pushed _, fun _ => ⟨_, rfl⟩⟩
      · simp only [Zk, hu, hz, hzv, hb, hzl, hz0, hx.row, ho, and_self, if_true, h1, false_and, if_false, h2, hby, hm, Nat.le_refl, hr.row, hc, Nn]
      · rw [List.length_append, hr.length, hx.length, Nat.add_mul]
    · have h1 : m ≠ 0 := by omega
      have hmz : 0 < m * z := Nat.mul_pos hmp hz0
      have h2 : ¬ n * z + m * z ≤ cs.length := by omega
      have h3 : cs.take (n * z) = cs := List.take_of_length_le (by omega)
      have h4 : n * z ≤ cs.length := by omega
      refine ⟨.sg H.length 0 (n + m) z, H.set h' ⟨[], .dead, e⟩ ++ [⟨cs ++ ds, .own, e⟩], ?_, ?_, (x0.set hlo _).pushed _, fun _ => ⟨_, rfl⟩⟩
      · simp [Zk, hu, hz, hzv, hb, hzl, hz0, hx.row, ho, h1, hby, hm, hg, h2, h3, h4, hc]
      · refine ⟨.inr (.inr ⟨_, rfl, ?_, ?_, x0.len⟩)⟩
        · simp [Y8]
        · rw [List.length_append, hl, hx.length, Nat.add_mul]
theorem azeros_int (k : IntKind) (n : Nat) : Jr [AV.int k 0] n = (List.replicate n (0 : Int)).map (AV.int k) := by
  induction n with
  | zero => simp [Jr]
  | succ n ih => simp only [Jr, List.replicate_succ, List.flatten_cons, List.map_cons, List.cons_append, List.nil_append] at ih ⊢; rw [ih]
theorem make_ints {P : Program} {H : Hp} {n by_ : Nat} {k l : IntKind} {t e : TypeId} (hu : P.underlying t = some (.slice e)) (hz : Qv P e = some 1) (hzv : Xf P e = some (.int k 0)) (hb : X7 P e = some by_)
    (hn : n ≤ 140737488355328) (hby : n * by_ ≤ 140737488355328) : Zm P H t (.int l (n : Int)) (.int l (n : Int)) = some (.sl H.length 0 n n, H ++ [⟨(List.replicate n (0 : Int)).map (AV.int k), .own, e⟩]) := by
  have h1 : (n : Int) * (by_ : Int) ≤ 281474976710656 := by
    rw [← Int.natCast_mul]; omega
  simp only [Zm, hu, hz, hzv, hb, AV.cells_int, List.length_singleton, List.all_cons, AV.one_int, List.all_nil, Bool.and_true, Int.toNat_natCast, azeros_int]
  rw [if_pos ⟨trivial, trivial, by decide, by omega, by omega, by omega, h1⟩]
theorem Kw {α : Type} (f : α → AV) (xs : List α) {i : Nat} (y : α) (h : i < xs.length) : Jw (xs.map f) i [f y] = (xs.set i y).map f := by
  unfold Jw
  apply List.ext_getElem?
  intro j
  rw [List.append_assoc, List.getElem?_append]
  simp only [List.length_take, List.length_map, List.length_singleton, Nat.min_eq_left (Nat.le_of_lt h), List.map_set]
  by_cases hj : j < i
  · rw [if_pos hj, List.getElem?_take, if_pos hj, List.getElem?_set_ne (by omega)]
  · rw [if_neg hj]
    by_cases he : j = i
    · subst he
      simp [h]
    · obtain ⟨d, rfl⟩ : ∃ d, j = i + 1 + d := ⟨j - i - 1, by omega⟩
      have e1 : i + 1 + d - i = d + 1 := by omega
      rw [e1, List.singleton_append, List.getElem?_cons_succ, List.getElem?_drop, List.getElem?_set_ne (by omega)]
end Go.AL
namespace Go.AL
open Go.RowKit
theorem Ints.str {P : Program} {H : Hp} {v : AV} {xs : List Int} {src dst e : TypeId} (h : Ints H .u8 v xs) (hs : P.underlying src = some (.slice e)) (he : Qi P e = true) (hd : P.underlying dst = some .string) :
    Yk P H src dst v = some (.str (strOfNums xs)) := by
  rcases Yf h.rd.row with ⟨rfl, h0, hn⟩ | ⟨b, hb, hg, hk, hl, hc⟩ | ⟨rfl, hl⟩
  rotate_left 2
  · simp only [Yk, hs, hd, he, if_true, aints_map]
    rw [if_pos (by simp)]
    rfl
  · have : xs = [] := by simpa using h0
    subst this
    simp only [Yk, hs, hd, he, if_true]
    rfl
  · have ha : Gi ((b.cells.drop v.of).take xs.length) = some xs := by
      rw [Nat.mul_one] at hc
      rw [← hc, aints_map]
    rw [Nat.mul_one] at hl
    rcases hb with ⟨c, hb⟩ | ⟨z', hb⟩ <;> (generalize v.hd = k, v.of = o at *; subst hb; simp only [Yk, hs, hd, he, if_true, abytes, hg]; rw [if_neg hk, if_pos hl, ha]; rfl)
theorem eq_bools {P : Program} {t : TypeId} {a b : Bool} (hu : P.underlying t = some .bool) : X5 P Op.maxDepth t (.bool a) (.bool b) = some (a == b) := Yr fun d => by simp [X5, hu]
theorem G7 {P : Program} {t e : TypeId} {h o : Nat} (hu : P.underlying t = some (.pointer e)) : X5 P Op.maxDepth t (.ptr h o) .nilP = some false := Yr fun d => by simp [X5, hu]
theorem Uy {P : Program} {t e : TypeId} (hu : P.underlying t = some (.pointer e)) : X5 P Op.maxDepth t .nilP .nilP = some true := Yr fun d => by simp [X5, hu]
end Go.AL
namespace Go.AL
open Go.RowKit
theorem J1a {k : IntKind} {xs : List Int} {i : Nat} (h : i < xs.length) : (xs.map (AV.int k))[i]? = some (.int k (xs.getD i 0)) := map_get (AV.int k) xs 0 h
theorem set_push_at {H : Hp} {k : Nat} {b b' : Blk} (h : k = H.length) : (H ++ [b]).set k b' = H ++ [b'] := by subst h; exact Vt H b b'
theorem Kx {cs ds : List AV} (h : ds.length = cs.length) : Jw cs 0 ds = ds := by
  simp [Jw, ← h]
theorem J02 {α : Type} {cs : List α} {n : Nat} (h : cs.length ≤ n) : cs.take n = cs := List.take_of_length_le h
theorem Uz {cs : List AV} : AV.solid (.agg cs) = cs.all AV.one := rfl
theorem J0d {k : IntKind} {xs : List Int} {i : Nat} {y : Int} (h : i < xs.length) : Jw (xs.map (AV.int k)) i [.int k y] = (xs.set i y).map (AV.int k) := Kw (AV.int k) xs y h
theorem Yy (k : IntKind) (xs : List Int) : (xs.map (AV.int k)).length = xs.length := List.length_map ..
theorem apart_int {P : Program} {t : TypeId} {k : IntKind} {xs : List Int} {i : Nat} (ha : X4 P t = some false) (h : i < xs.length) : apart P t (xs.map (AV.int k)) i = some (.int k (xs.getD i 0)) := by
  simp only [apart, ha]
  exact J1a h
theorem J0n {P : Program} {t e : TypeId} {n : Nat} {k l : IntKind} {xs : List Int} {j : Int} (hu : P.underlying t = some (.array n e)) (hz : Qv P e = some 1) (ha : X4 P e = some false) (hn : xs.length = n) (h0 : 0 ≤ j) (h1 : j < (n : Int)) :
    We P t (.agg (xs.map (AV.int k))) (.int l j) = some (.int k (xs.getD j.toNat 0)) := by
  simp only [We, hu, hz, Nat.mul_one]
  rw [if_pos ⟨h0, h1⟩]
  exact apart_int ha (by omega)
theorem J0s {P : Program} {t e : TypeId} {n z h o : Nat} {l : IntKind} {j : Int} (hu : P.underlying t = some (.array n e)) (hz : Qv P e = some z) (h0 : 0 ≤ j) (h1 : j < (n : Int)) :
    Qr P t (.ptr h o) (.int l j) = some (.ptr h (o + j.toNat * z)) := by
  simp only [Qr, hu, hz]
  rw [if_pos ⟨h0, h1⟩]
theorem Gv {P : Program} {t e : TypeId} {n z h o : Nat} (hu : P.underlying t = some (.array n e)) (hz : Qv P e = some z) : Z5 P t (.ptr h o) none none none = some (.sl h o n n) := by
  simp [Z5, hu, hz, Xn]
theorem W8 {P : Program} {t e : TypeId} {n z h o : Nat} {l : IntKind} {q : Int} (hu : P.underlying t = some (.array n e)) (hz : Qv P e = some z) (h0 : 0 ≤ q) (h1 : q ≤ (n : Int)) : Z5 P t (.ptr h o) none (some (.int l q)) none = some (.sl h o q.toNat n) := by
  obtain ⟨q, rfl⟩ := Int.eq_ofNat_of_zero_le h0
  have : q ≤ n := by omega
  simp [Z5, hu, hz, Xn, Ys, this]
def Qt (P : Program) (fr : Fr) (H : Hp) (rs : List ResultVar) (R : AV → Hp → Prop) : Prop :=
  match Q4 P fr H rs with
  | some [v] => R v H
  | some vs => R (.tup vs) H
  | none => False
theorem Q9 {P : Program} {fn : Func} {R : AV → Hp → Prop} {fr : Fr} {H : Hp} {e : Exit} {rs : List ResultVar} (hr : fn.results.toList = rs) (h : Qt P fr H rs R) (he : e = .ret ∨ e = .normal := by simp) : AEnd P fn R e fr H := by
  subst hr
  unfold Qt at h
  have key : ∃ r, aret P fn fr H = some r ∧ R r H := by
    split at h
    · rename_i v hv; exact ⟨v, by simp [aret, hv], h⟩
    · rename_i vs hne hv
      refine ⟨.tup vs, ?_, h⟩
      simp only [aret, hv]
    · exact h.elim
  rcases he with rfl | rfl <;> exact key
theorem Rd.load1 {P : Program} {H : Hp} {n : Nat} {v : AV} {cs : List AV} {e : TypeId} (h : Rd H 1 v cs n) (ha : X4 P e = some false) : ∀ {i : Nat}, i < n → Zt P H e (v.pl i) = cs[i]? := fun {i} hi => by
  have := h.load (P := P) ha hi
  rwa [Nat.mul_one] at this
theorem Ints.load1 {P : Program} {H : Hp} {k : IntKind} {v : AV} {xs : List Int} {e : TypeId} (h : Ints H k v xs) (ha : X4 P e = some false) : ∀ {i : Nat}, i < xs.length → Zt P H e (v.pl i) = some (.int k (xs.getD i 0)) := fun {i} hi => by
  have := Ints.load (P := P) h ha hi
  rwa [Nat.mul_one] at this
theorem Rd.at1 {P : Program} {H : Hp} {n : Nat} {v : AV} {cs : List AV} {t e : TypeId} (h : Rd H 1 v cs n) (hu : P.underlying t = some (.slice e)) (hz : Qv P e = some 1) : ∀ {k : IntKind} {j : Int}, 0 ≤ j → j < (n : Int) → Qr P t v (.int k j) = some (v.pl j.toNat) := fun {k j} h0 h1 => by
  have := h.at_ (P := P) hu hz (k := k) h0 h1
  rwa [Nat.mul_one] at this
end Go.AL
namespace Go.AL
open Go.RowKit
theorem eq_arr {P : Program} {t e : TypeId} {n : Nat} {k l : IntKind} {xs ys : List Int} (hu : P.underlying t = some (.array n e)) (hz : Qv P e = some 1) (ha : X4 P e = some false) (he : P.underlying e = some (.int l)) (hx : xs.length = n) (hy : ys.length = n) :
    X5 P Op.maxDepth t (.agg (xs.map (AV.int k))) (.agg (ys.map (AV.int k))) = some (decide (xs = ys)) := by
  have key : ∀ D, (∀ a b : Int, X5 P D e (.int k a) (.int k b) = some (a == b)) → X5 P (D + 1) t (.agg (xs.map (AV.int k))) (.agg (ys.map (AV.int k))) = some (decide (xs = ys)) := by
    intro D hel
    have step : ∀ m, m ≤ n → (List.range m).foldr (fun i r =>
        match apart P e (xs.map (AV.int k)) (i * 1), apart P e (ys.map (AV.int k)) (i * 1) with
        | some a, some b => match X5 P D e a b, r with
          | some p, some q => some (p && q)
          | _, _ => none
        | _, _ => none) (some (decide (xs.drop m = ys.drop m))) = some (decide (xs = ys)) := by
      intro m
      induction m with
      | zero => intro _; simp
      | succ m ih =>
        intro hm
        rw [List.range_succ, List.foldr_append]
        simp only [List.foldr_cons, List.foldr_nil]
        rw [Nat.mul_one, apart_int ha (by omega), apart_int ha (by omega)]
        simp only [hel]
        have e1 : (xs.getD m 0 == ys.getD m 0 && decide (xs.drop (m + 1) = ys.drop (m + 1))) = decide (xs.drop m = ys.drop m) := by
          rw [drop_step xs 0 (i := m) (by omega), drop_step ys 0 (i := m) (by omega)]
          rw [Bool.eq_iff_iff]
          simp
        rw [e1]
        exact ih (by omega)
    have hn := step n (Nat.le_refl _)
    rw [List.drop_of_length_le (by omega), List.drop_of_length_le (by omega)] at hn
    have ht : decide (([] : List Int) = []) = true := rfl
    rw [ht] at hn
    simp only [X5, hu, hz]
    exact hn
  exact key (Op.maxDepth - 1) fun a b => by
    show X5 P ((Op.maxDepth - 2) + 1) e _ _ = _
    simp [X5, he]
end Go.AL
namespace Go.AL
theorem Ue {P : Program} {c : Code} {fr : Fr} {H : Hp} {K : Fr → Hp → Prop} {Q : Exit → Fr → Hp → Prop} (Φ : Fr → Hp → Prop) (h1 : AWp P c fr H (Q8 Φ fun _ _ _ => False)) (h2 : ∀ fr' H', Φ fr' H' → K fr' H') : AWp P c fr H (Q8 K Q) :=
  h1.mono fun e fr' H' h => by
    cases e with
    | normal => exact h2 _ _ h
    | _ => exact h.elim
end Go.AL
namespace Go.AL
theorem AWp_cutB {P : Program} {c : Code} {fr : Fr} {H : Hp} {K : Fr → Hp → Prop} {Q : Exit → Fr → Hp → Prop} {id : Nat} (Φ : Fr → Hp → Prop) (h1 : AWp P c fr H (Jk id (Q8 Φ fun _ _ _ => False))) (h2 : ∀ fr' H', Φ fr' H' → K fr' H') : AWp P c fr H (Jk id (Q8 K Q)) :=
  h1.mono fun e fr' H' h => by
    cases e with
    | normal => exact h2 _ _ h
    | exit i =>
      simp only [Jk] at h ⊢
      split at h
      · rename_i hi; rw [if_pos hi]; exact h2 _ _ h
      · exact h.elim
    | _ => exact h.elim
end Go.AL
namespace Go.AL
theorem at_sl1 {P : Program} {t e : TypeId} {h o n c : Nat} {l : IntKind} {j : Int} (hu : P.underlying t = some (.slice e)) (hz : Qv P e = some 1) (h0 : 0 ≤ j) (h1 : j < (n : Int)) : Qr P t (.sl h o n c) (.int l j) = some (.ptr h (o + j.toNat)) := by
  simp [Qr, hu, hz, h0, h1]
theorem at_sg1 {P : Program} {t e : TypeId} {h o n z' : Nat} {l : IntKind} {j : Int} (hu : P.underlying t = some (.slice e)) (hz : Qv P e = some 1) (h0 : 0 ≤ j) (h1 : j < (n : Int)) : Qr P t (.sg h o n z') (.int l j) = some (.ptr h (o + j.toNat)) := by
  simp [Qr, hu, hz, h0, h1]
theorem Ints.blk {H : Hp} {h o n c : Nat} {k : IntKind} {kd : BK} {e : TypeId} {xs : List Int} (hg : Qy H h = some ⟨xs.map (AV.int k), kd, e⟩) (hk : kd ≠ .dead) (hn : o + n ≤ xs.length) (hc : n ≤ c) : Ints H k (.sl h o n c) ((xs.drop o).take n) := by
  have hl : ((xs.drop o).take n).length = n := by rw [List.length_take, List.length_drop]; omega
  refine ⟨?_, ?_⟩
  · simp only [arow, hg, Nat.mul_one]
    rw [if_neg hk, if_pos (by rw [List.length_map]; omega), hl, ← List.map_drop, ← List.map_take]
  · exact hc
end Go.AL
namespace Go.AL
theorem Xm {H : Hp} {b : Blk} {k : Nat} (h : k = H.length) : Qy (H ++ [b]) k = some b := by rw [Y8, if_pos h]
theorem Xy {H : Hp} {b : Blk} {k : Nat} (h : k < H.length) : Qy (H ++ [b]) k = Qy H k := by rw [Y8, if_neg (by omega)]
structure P1 (H H1 : Hp) (v : AV) (h : Nat) (b : Blk) : Prop where
  eq : v = .ptr h 0
  get : Qy H1 h = some b
  lo : H.length ≤ h
theorem P1.hi {H H1 : Hp} {v : AV} {h : Nat} {b : Blk} (p : P1 H H1 v h b) : h < H1.length := Zi p.get
theorem P1.push {H H1 : Hp} {v : AV} {h : Nat} {b : Blk} (p : P1 H H1 v h b) (c : Blk) : P1 H (H1 ++ [c]) v h b := ⟨p.eq, by rw [Xy p.hi]; exact p.get, p.lo⟩
end Go.AL
namespace Go.AL
theorem J03 {H : Hp} {p : Nat} {b : Blk} (h : Qy H p = some b) : H.set p b = H := by
  apply List.ext_getElem?
  intro i
  rw [List.getElem?_set]
  split
  · rename_i he; subst he
    unfold Qy at h
    rw [h, if_pos (List.getElem?_eq_some_iff.1 h).1]
  · rfl
theorem Kc {H : Hp} {p : Nat} {b b' : Blk} : (H.set p b).set p b' = H.set p b' := by
  rw [List.set_set]
end Go.AL
namespace Go.AL
theorem Kj {P : Program} {H : Hp} {t : TypeId} {h o : Nat} : Zt P H t (.ptr h o) = (match Qy H h with
    | some b =>
      if b.kind = .dead then none else
      match X4 P t, Qv P t with
      | some true, some n => if o + n ≤ b.cells.length then some (.agg ((b.cells.drop o).take n)) else none
      | some false, _ => b.cells[o]?
      | _, _ => none
    | none => none) := id rfl
theorem U4 {P : Program} {H : Hp} {t : TypeId} {h o : Nat} {x : AV} : J0q P H t (.ptr h o) x = (match Qv P t with
    | some n => match Qy H h with
      | some b => if b.kind = .own ∧ x.solid = true ∧ x.cells.length = n ∧ o + n ≤ b.cells.length then some (H.set h ⟨Jw b.cells o x.cells, .own, b.ety⟩) else none
      | none => none
    | none => none) := by
  unfold J0q
  cases Qv P t <;> rfl
end Go.AL
set_option maxRecDepth 4000
namespace Go.AL
theorem RA : type_of% (Jc @ESt_some (Jc @Run_nil (Jc @Run_cons (Jc @Run_pnil (Jc @Run_one (Jc @Run_alt (Jc @EAt_def (Jc @EStep_def (Jc @E0_def (Jc @EGuard_true (Jc @J1m (Jc @beq_self_eq_true.{0} (Jc @beq_true (Jc @beq_false (Jc @bne_self_eq_false.{0} (Jc @Fr.put_some (Jc @Fr.put_none (Jc @Qg (Jc @Qh (Jc @Qn (Jc @if_true.{0} (Jc @if_true.{1} (Jc @if_false.{0} (Jc @if_false.{1} (Jc @Option.map_some.{0,0} (Jc @Option.map_none.{0,0} (Jc @Option.bind_some.{0,0} (Jc @Option.bind_none.{0,0} (Jc @or_self (Jc @or_true (Jc @true_or (Jc @or_false (Jc @false_or (Jc @and_self (Jc @and_true (Jc @true_and (Jc @and_false (Jc @false_and (Jc @not_true_eq_false (Jc @not_false_eq_true (Jc @Bool.false_eq_true (Jc @Bool.true_eq_false (Jc @decide_eq_true_eq (Jc @decide_eq_false_iff_not (Jc @beq_iff_eq.{0} (Jc @bne_iff_ne.{0} (Jc @Bool.not_eq_true' (Jc @Bool.not_true (Jc @Bool.not_false (Jc @ne_eq.{0} (Jc @ne_eq.{1} (Jc @AV.solid_int (Jc @AV.one_int (Jc @AV.cells_int (Jc @AV.solid_bool (Jc @AV.one_bool (Jc @AV.cells_bool (Jc @AV.solid_str (Jc @AV.one_str (Jc @AV.cells_str (Jc @AV.solid_nilI (Jc @AV.one_nilI (Jc @AV.cells_nilI (Jc @AV.solid_ifc (Jc @AV.one_ifc (Jc @AV.cells_ifc (Jc @AV.solid_nilP (Jc @AV.one_nilP (Jc @AV.cells_nilP (Jc @AV.solid_ptr (Jc @AV.one_ptr (Jc @AV.cells_ptr (Jc @AV.solid_nilS (Jc @AV.one_nilS (Jc @AV.cells_nilS (Jc @AV.solid_sl (Jc @AV.one_sl (Jc @AV.cells_sl (Jc @AV.solid_sg (Jc @AV.one_sg (Jc @AV.cells_sg (Jc @AV.solid_fn (Jc @AV.one_fn (Jc @AV.cells_fn (Jc @AV.cells_agg (Jc @List.replicate_succ.{0} (Jc @List.replicate_zero.{0} (Jc @List.flatten_cons.{0} (Jc @List.flatten_nil.{0} (Jc @List.append_nil.{0} (Jc @List.nil_append.{0} (Jc @List.cons_append.{0} (Jc @List.take_succ_cons.{0} (Jc @List.take_zero.{0} (Jc @List.drop_succ_cons.{0} (Jc @List.drop_zero.{0} (Jc @List.length_cons.{0} (Jc @List.length_nil.{0} (Jc @List.all_cons.{0} (Jc @List.all_nil.{0} (Jc @Bool.and_true (Jc @Bool.true_and (Jc @Bool.and_self (Jc @Bool.or_true (Jc @Bool.true_or (Jc @Bool.or_false (Jc @Bool.false_or (Jc @Bool.and_false (Jc @Bool.false_and (Jc @Int.cast_ofNat_Int (Jc @Nat.min_def (Jc @Nat.zero_add (Jc @Y8 (Jc @Vt (Jc @List.map_cons.{0,0} (Jc @List.map_nil.{0,0} (Jc @List.toList_toArray.{0} (Jc @List.getElem?_toArray.{0} (Jc @List.getElem?_cons_zero.{0} (@List.getElem?_cons_succ.{0})))))))))))))))))))))))))))))))))))))))))))))))))))))))))))))))))))))))))))))))))))))))))))))))))))))))))))))))))))))))) := Jc @ESt_some (Jc @Run_nil (Jc @Run_cons (Jc @Run_pnil (Jc @Run_one (Jc @Run_alt (Jc @EAt_def (Jc @EStep_def (Jc @E0_def (Jc @EGuard_true (Jc @J1m (Jc @beq_self_eq_true.{0} (Jc @beq_true (Jc @beq_false (Jc @bne_self_eq_false.{0} (Jc @Fr.put_some (Jc @Fr.put_none (Jc @Qg (Jc @Qh (Jc @Qn (Jc @if_true.{0} (Jc @if_true.{1} (Jc @if_false.{0} (Jc @if_false.{1} (Jc @Option.map_some.{0,0} (Jc @Option.map_none.{0,0} (Jc @Option.bind_some.{0,0} (Jc @Option.bind_none.{0,0} (Jc @or_self (Jc @or_true (Jc @true_or (Jc @or_false (Jc @false_or (Jc @and_self (Jc @and_true (Jc @true_and (Jc @and_false (Jc @false_and (Jc @not_true_eq_false (Jc @not_false_eq_true (Jc @Bool.false_eq_true (Jc @Bool.true_eq_false (Jc @decide_eq_true_eq (Jc @decide_eq_false_iff_not (Jc @beq_iff_eq.{0} (Jc @bne_iff_ne.{0} (Jc @Bool.not_eq_true' (Jc @Bool.not_true (Jc @Bool.not_false (Jc @ne_eq.{0} (Jc @ne_eq.{1} (Jc @AV.solid_int (Jc @AV.one_int (Jc @AV.cells_int (Jc @AV.solid_bool (Jc @AV.one_bool (Jc @AV.cells_bool (Jc @AV.solid_str (Jc @AV.one_str (Jc @AV.cells_str (Jc @AV.solid_nilI (Jc @AV.one_nilI (Jc @AV.cells_nilI (Jc @AV.solid_ifc (Jc @AV.one_ifc (Jc @AV.cells_ifc (Jc @AV.solid_nilP (Jc @AV.one_nilP (Jc @AV.cells_nilP (Jc @AV.solid_ptr (Jc @AV.one_ptr (Jc @AV.cells_ptr (Jc @AV.solid_nilS (Jc @AV.one_nilS (Jc @AV.cells_nilS (Jc @AV.solid_sl (Jc @AV.one_sl (Jc @AV.cells_sl (Jc @AV.solid_sg (Jc @AV.one_sg (Jc @AV.cells_sg (Jc @AV.solid_fn (Jc @AV.one_fn (Jc @AV.cells_fn (Jc @AV.cells_agg (Jc @List.replicate_succ.{0} (Jc @List.replicate_zero.{0} (Jc @List.flatten_cons.{0} (Jc @List.flatten_nil.{0} (Jc @List.append_nil.{0} (Jc @List.nil_append.{0} (Jc @List.cons_append.{0} (Jc @List.take_succ_cons.{0} (Jc @List.take_zero.{0} (Jc @List.drop_succ_cons.{0} (Jc @List.drop_zero.{0} (Jc @List.length_cons.{0} (Jc @List.length_nil.{0} (Jc @List.all_cons.{0} (Jc @List.all_nil.{0} (Jc @Bool.and_true (Jc @Bool.true_and (Jc @Bool.and_self (Jc @Bool.or_true (Jc @Bool.true_or (Jc @Bool.or_false (Jc @Bool.false_or (Jc @Bool.and_false (Jc @Bool.false_and (Jc @Int.cast_ofNat_Int (Jc @Nat.min_def (Jc @Nat.zero_add (Jc @Y8 (Jc @Vt (Jc @List.map_cons.{0,0} (Jc @List.map_nil.{0,0} (Jc @List.toList_toArray.{0} (Jc @List.getElem?_toArray.{0} (Jc @List.getElem?_cons_zero.{0} (@List.getElem?_cons_succ.{0})))))))))))))))))))))))))))))))))))))))))))))))))))))))))))))))))))))))))))))))))))))))))))))))))))))))))))))))))))))))
theorem RC : type_of% (Jc @Bool.not_eq_true' (Jc @Bool.not_eq_false' (Jc @decide_eq_true_eq (Jc @decide_eq_false_iff_not (Jc @beq_iff_eq.{0} (Jc @beq_eq_false_iff_ne.{0} (Jc @bne_iff_ne.{0} (Jc @bne_eq_false_iff_eq.{0} (Jc @Bool.false_eq_true (Jc @ne_eq.{0} (Jc @ne_eq.{1} (Jc @Decidable.not_not (Jc @Bool.not_eq_eq_eq_not (Jc @Bool.not_true (Jc @Bool.not_false (Jc @not_true_eq_false (@not_false_eq_true))))))))))))))))) := Jc @Bool.not_eq_true' (Jc @Bool.not_eq_false' (Jc @decide_eq_true_eq (Jc @decide_eq_false_iff_not (Jc @beq_iff_eq.{0} (Jc @beq_eq_false_iff_ne.{0} (Jc @bne_iff_ne.{0} (Jc @bne_eq_false_iff_eq.{0} (Jc @Bool.false_eq_true (Jc @ne_eq.{0} (Jc @ne_eq.{1} (Jc @Decidable.not_not (Jc @Bool.not_eq_eq_eq_not (Jc @Bool.not_true (Jc @Bool.not_false (Jc @not_true_eq_false (@not_false_eq_true))))))))))))))))
theorem RB : type_of% (Jc @Nat.mul_one (Jc @Nat.add_zero (Jc @Kg (Jc @Uz (Jc @Ve (Jc @Yy (Jc @Int.toNat_natCast (@List.map_nil.{0,0})))))))) := Jc @Nat.mul_one (Jc @Nat.add_zero (Jc @Kg (Jc @Uz (Jc @Ve (Jc @Yy (Jc @Int.toNat_natCast (@List.map_nil.{0,0})))))))
theorem RD : type_of% (Jc @Kj (Jc @U4 (Jc @Y8 (Jc @Vt (Jc @set_push_at (Jc @J04 (Jc @Kg (Jc @selP (Jc @selN (Jc @optIf (Jc @optIfN (Jc @avP (Jc @avN (Jc @J1a (Jc @Kx (Jc @J0d (Jc @J02 (Jc @List.drop_zero.{0} (Jc @Nat.zero_add (Jc @Nat.add_zero (Jc @Nat.mul_one (Jc @Uz (Jc @Ve (Jc @AV.cells_agg (Jc @AV.cells_int (Jc @AV.solid_int (Jc @List.length_singleton.{0} (Jc @if_false.{0} (Jc @if_false.{1} (Jc @if_true.{0} (Jc @if_true.{1} (Jc @and_self (Jc @and_true (Jc @true_and (Jc @Yy (Jc @List.length_set.{0} (Jc @Int.toNat_natCast (Jc @Option.map_some.{0,0} (@Option.map_none.{0,0}))))))))))))))))))))))))))))))))))))))) := Jc @Kj (Jc @U4 (Jc @Y8 (Jc @Vt (Jc @set_push_at (Jc @J04 (Jc @Kg (Jc @selP (Jc @selN (Jc @optIf (Jc @optIfN (Jc @avP (Jc @avN (Jc @J1a (Jc @Kx (Jc @J0d (Jc @J02 (Jc @List.drop_zero.{0} (Jc @Nat.zero_add (Jc @Nat.add_zero (Jc @Nat.mul_one (Jc @Uz (Jc @Ve (Jc @AV.cells_agg (Jc @AV.cells_int (Jc @AV.solid_int (Jc @List.length_singleton.{0} (Jc @if_false.{0} (Jc @if_false.{1} (Jc @if_true.{0} (Jc @if_true.{1} (Jc @and_self (Jc @and_true (Jc @true_and (Jc @Yy (Jc @List.length_set.{0} (Jc @Int.toNat_natCast (Jc @Option.map_some.{0,0} (@Option.map_none.{0,0}))))))))))))))))))))))))))))))))))))))
theorem RL : type_of% (Jc @List.length_append.{0} (Jc @List.length_cons.{0} (Jc @List.length_nil.{0} (Jc @Yy (Jc @List.length_set.{0} (@List.length_replicate.{0})))))) := Jc @List.length_append.{0} (Jc @List.length_cons.{0} (Jc @List.length_nil.{0} (Jc @Yy (Jc @List.length_set.{0} (@List.length_replicate.{0})))))
theorem RM : type_of% (Jc @List.length_append.{0} (Jc @List.length_cons.{0} (Jc @List.length_nil.{0} (Jc @Yy (Jc @List.length_set.{0} (Jc @List.length_replicate.{0} (Jc @List.length_take.{0} (@List.length_drop.{0})))))))) := Jc @List.length_append.{0} (Jc @List.length_cons.{0} (Jc @List.length_nil.{0} (Jc @Yy (Jc @List.length_set.{0} (Jc @List.length_replicate.{0} (Jc @List.length_take.{0} (@List.length_drop.{0})))))))
theorem RS : type_of% (Jc @optIf (Jc @optIfN (Jc @selP (Jc @selN (Jc @avP (@avN)))))) := Jc @optIf (Jc @optIfN (Jc @selP (Jc @selN (Jc @avP (@avN)))))
theorem RO : type_of% (Jc @AV.one_int (Jc @AV.one_bool (Jc @AV.one_str (Jc @AV.one_nilI (Jc @AV.one_ifc (Jc @AV.one_nilP (Jc @AV.one_ptr (Jc @AV.one_nilS (Jc @AV.one_sl (Jc @AV.one_sg (@AV.one_fn))))))))))) := Jc @AV.one_int (Jc @AV.one_bool (Jc @AV.one_str (Jc @AV.one_nilI (Jc @AV.one_ifc (Jc @AV.one_nilP (Jc @AV.one_ptr (Jc @AV.one_nilS (Jc @AV.one_sl (Jc @AV.one_sg (@AV.one_fn))))))))))
end Go.AL
namespace Go.AL
open Go.RowKit
structure FA where
  i : Nat
  t : Tmp
  b : Blk
inductive SI where
  | one (i : Nat)
  | pur (i : Nat)
  | ext (i : Nat)
section
variable (P : Program) (ops : Array Oper) (K : Fr → Hp → Prop) (n0 : Nat) (F : List FA) (p : Plan)
def SFin : List FA → List Nat → Fr → Hp → Prop
  | [], _, fr, H => Gp P ops K p fr H
  | f :: G, acc, fr, H => ∀ h, n0 ≤ h → (∀ g ∈ acc, h ≠ g) → Qy H h = some f.b → SFin G (h :: acc) (fr.put (some f.t) (.ptr h 0)) H
def J0t : List SI → Fr → Hp → Prop
  | [], fr, H => ∀ H2, (∃ E, H2 = H ++ E) → SFin P ops K n0 p F [] fr H2
  | .one i :: s, fr, H => Z9 P ops i fr H (J0t s)
  | .pur i :: s, fr, H => AStepS P ops i fr H (J0t s)
  | .ext i :: s, fr, H => ∀ H2, (∃ E, H2 = H ++ E) → Z9 P ops i fr H2 fun fr1 H1 => (∃ E, H1 = H2 ++ E) ∧ J0t s fr1 H1
end
def FOk (P : Program) (ops : Array Oper) (f : FA) : Prop := ∃ o, ops[f.i]? = some o ∧ o.dst = some f.t ∧ o.guard = none ∧ ∃ ty z, o.op = .alloc ty ∧ Xf P ty = some z ∧ z.solid = true ∧ f.b = ⟨z.cells, .own, ty⟩
def Agr (F : List FA) (fs fa : Fr) : Prop := ∀ t, (∀ f ∈ F, t ≠ f.t) → fa t = fs t
def J0r (ops : Array Oper) (F : List FA) (i : Nat) : Bool :=
  match ops[i]? with
  | some o => F.all fun f => !(o.looksAt ops).contains f.t && o.dst != some f.t
  | none => false
def Z1 (a : Array Bool) (d : List Nat) : Array Bool := d.foldl (fun a j => a.setIfInBounds j true) a
def SI.ok (P : Program) (ops : Array Oper) (M : Nat → Bool) (F : List FA) (p : Plan) : List SI → Nat → Array Bool → Bool
  | [], n, base => decide (F.length ≤ n) && (F.all fun f => (Region.ready .any ops (Z1 base ((F.map (·.i)).filter (· != f.i)))).all (· == f.i)) && p.ok P ops M (n - F.length) [] (Z1 base (F.map (·.i)))
  | .one i :: s, 0, base => false
  | .one i :: s, n + 1, base => (Region.ready .any ops base).contains i && free P ops M base i && J0r ops F i && (match ops[i]? with | some o => Vs P o.op | none => false) && !(F.map (·.i)).contains i && SI.ok P ops M F p s n (base.setIfInBounds i true)
  | .pur i :: s, 0, base => false
  | .pur i :: s, n + 1, base => (Region.ready .any ops base).contains i && freeS P ops M base i (Vj ops i) && J0r ops F i && !(F.map (·.i)).contains i && SI.ok P ops M F p s n (base.setIfInBounds i true)
  | .ext i :: s, 0, base => false
  | .ext i :: s, n + 1, base => (Region.ready .any ops base).contains i && ((Region.ready .any ops (Z1 base (F.map (·.i)))).all (· == i)) && J0r ops F i && !(F.map (·.i)).contains i && SI.ok P ops M F p s n (base.setIfInBounds i true)
def FA.ok (P : Program) (ops : Array Oper) (M : Nat → Bool) (F : List FA) : Bool :=
  (F.all fun f => !(M f.i) && (match ops[f.i]? with | some o => o.after.all (fun e => !Region.binds .any e) | none => false)) && decide ((F.map (·.i)).Nodup) && decide ((F.map (·.t)).Nodup)
theorem Agr.put {F : List FA} {fs fa : Fr} (h : Agr F fs fa) (d : Option Tmp) (v : AV) : Agr F (fs.put d v) (fa.put d v) := by
  intro t ht
  cases d with
  | none => exact h t ht
  | some d =>
    simp only [Fr.put]
    split
    · rfl
    · exact h t ht
theorem ev_agr {ops : Array Oper} {F : List FA} {fs fa : Fr} {o : Oper} (a : Agr F fs fa) (h : ∀ f ∈ F, f.t ∉ o.looksAt ops) : ∀ x ∈ o.op.operands, ev fa x = ev fs x := by
  intro x hx
  cases x with
  | tmp t => exact a t fun f hf e => Nf (h f hf) _ hx (by rw [e])
  | _ => rfl
theorem wanted_agr {ops : Array Oper} {F : List FA} {fs fa : Fr} {o : Oper} (a : Agr F fs fa) (h : ∀ f ∈ F, f.t ∉ o.looksAt ops) : Jp ops fa o = Jp ops fs o := by
  unfold Jp
  cases hg : o.guard with
  | none => rfl
  | some g =>
    obtain ⟨j, want⟩ := g
    simp only
    cases hd : (ops[j]?).bind (·.dst) with
    | none => rfl
    | some d' =>
      have : fa d' = fs d' := a d' fun f hf e => h f hf (by
        rw [← e]
        unfold Oper.looksAt
        refine List.mem_append_right _ ?_
        simp [hg, hd])
      simp only [this]
theorem AStep1.cong {P : Program} {ops : Array Oper} {F : List FA} {o : Oper} {fs fa : Fr} {H : Hp} {X : Fr → Hp → Prop} (a : Agr F fs fa) (hl : ∀ f ∈ F, f.t ∉ o.looksAt ops) (h : AStep1 P ops o fs H X) :
    AStep1 P ops o fa H fun fr1 H1 => ∃ u, fr1 = fa.put o.dst u ∧ X (fs.put o.dst u) H1 := by
  have hop := ev_agr a hl
  have hog := wanted_agr a hl
  unfold AStep1 Y7 Yg Yt at h ⊢
  rw [hog, Ug (fr' := fs) hop, Vp (fr' := fs) hop]
  split at h
  · rename_i t hw
    cases t
    · simp only [Bool.false_eq_true, if_false] at h ⊢
      exact ⟨_, rfl, h⟩
    · simp only [if_true] at h ⊢
      split at h
      · exact h.mono fun r H' hx => ⟨r, rfl, hx⟩
      · split at h
        · exact ⟨_, rfl, h⟩
        · exact h.elim
  · exact h.elim
theorem ASure.cong {P : Program} {ops : Array Oper} {F : List FA} {o : Oper} {fs fa : Fr} {H H' : Hp} {v : AV} (a : Agr F fs fa) (hl : ∀ f ∈ F, f.t ∉ o.looksAt ops) (he : ∃ E, H' = H ++ E) (h : ASure P ops o fs H v) : ASure P ops o fa H' v := by
  have hop := ev_agr a hl
  have hog := wanted_agr a hl
  have hx : ∀ H'', (∃ E, H'' = H' ++ E) → ∃ E, H'' = H ++ E := by
    rintro _ ⟨E, rfl⟩
    obtain ⟨E', rfl⟩ := he
    exact ⟨E' ++ E, by rw [List.append_assoc]⟩
  unfold ASure at h ⊢
  rw [hog]
  split at h
  · rw [Ug (fr' := fs) hop]
    split at h
    · exact fun H'' h2 => h H'' (hx H'' h2)
    · exact fun H'' h2 => by rw [Vp (fr' := fs) hop]; exact h H'' (hx H'' h2)
  · exact h
  · exact h.elim
theorem Ry {a : Array Bool} {j k : Nat} {d : Bool} : (a.setIfInBounds j true).getD k d = if k = j ∧ k < a.size then true else a.getD k d := by
  rw [Array.getD_eq_getD_getElem?, Array.getD_eq_getD_getElem?]
  by_cases h : k = j
  · subst h
    by_cases hl : k < a.size
    · rw [Array.getElem?_setIfInBounds_self, if_pos hl, if_pos ⟨rfl, hl⟩]; rfl
    · rw [Array.getElem?_setIfInBounds_self, if_neg hl, if_neg (fun h => hl h.2)]
      simp [hl]
  · rw [Array.getElem?_setIfInBounds_ne (Ne.symm h), if_neg (fun x => h x.1)]
theorem Gx : ∀ (d : List Nat) (a : Array Bool), (Z1 a d).size = a.size
  | [], a => rfl
  | j :: d, a => by
    show (Z1 (a.setIfInBounds j true) d).size = a.size
    rw [Gx d]; simp
theorem Ze : ∀ (d : List Nat) (a : Array Bool) (k : Nat) (x : Bool), (Z1 a d).getD k x = if k ∈ d ∧ k < a.size then true else a.getD k x
  | [], a, k, x => by simp [Z1]
  | j :: d, a, k, x => by
    show (Z1 (a.setIfInBounds j true) d).getD k x = _
    rw [Ze d, Ry, Array.size_setIfInBounds]
    by_cases hl : k < a.size
    · by_cases h1 : k = j
      · subst h1; simp [hl]
      · simp [h1, hl]
    · simp [hl]
theorem U1 : ∀ (d : List Nat) (a : Array Bool) (i : Nat), Z1 (a.setIfInBounds i true) d = (Z1 a d).setIfInBounds i true
  | [], a, i => rfl
  | j :: d, a, i => by
    show Z1 ((a.setIfInBounds i true).setIfInBounds j true) d = (Z1 (a.setIfInBounds j true) d).setIfInBounds i true
    by_cases h : i = j
    · subst h; exact U1 d _ _
    · rw [Array.setIfInBounds_comm _ _ h, U1 d]
theorem W9 {ops : Array Oper} {a b : Array Bool} {j : Nat} (hj : j ∈ Region.ready .any ops a) (h : ∀ k, a.getD k false = true → b.getD k false = true) (hb : b.getD j true = false) : j ∈ Region.ready .any ops b := by
  rw [mem_ready] at hj ⊢
  obtain ⟨_, o, ho, hall⟩ := hj
  exact ⟨hb, o, ho, fun e he hx => h _ (hall e he hx)⟩
theorem setAll_more {a : Array Bool} {d e : List Nat} (h : ∀ x ∈ d, x ∈ e) (k : Nat) (hk : (Z1 a d).getD k false = true) : (Z1 a e).getD k false = true := by
  rw [Ze] at hk ⊢
  split at hk
  · rename_i hx; rw [if_pos ⟨h k hx.1, hx.2⟩]
  · split
    · rfl
    · exact hk
theorem Gy {a : Array Bool} {d : List Nat} {k : Nat} (hk : a.getD k false = true) : (Z1 a d).getD k false = true := by
  rw [Ze]
  split
  · rfl
  · exact hk
theorem Yz {a : Array Bool} {d : List Nat} {k : Nat} {x : Bool} (h : k ∉ d) : (Z1 a d).getD k x = a.getD k x := by
  rw [Ze, if_neg (fun y => h y.1)]
theorem SFin.use {P : Program} {ops : Array Oper} {K : Fr → Hp → Prop} {n0 : Nat} {p : Plan} {fa : Fr} {H : Hp} : ∀ (G : List FA) (acc : List Nat) (fr : Fr), SFin P ops K n0 p G acc fr H →
    (∀ f ∈ G, ∃ h, n0 ≤ h ∧ fa f.t = .ptr h 0 ∧ Qy H h = some f.b ∧ h ∉ acc) → G.Pairwise (fun f g => fa f.t ≠ fa g.t) → Agr G fr fa → Gp P ops K p fa H
  | [], acc, fr, h, _, _, a => by
    have : fa = fr := funext fun t => a t fun f hf => (by cases hf)
    rw [this]; exact h
  | f :: G, acc, fr, h, hx, hd, a => by
    obtain ⟨k, hn, hk, hg, hacc⟩ := hx f (List.mem_cons_self ..)
    have hd' := List.pairwise_cons.1 hd
    refine SFin.use G (k :: acc) _ (h k hn (fun g hgm e => hacc (e ▸ hgm)) hg) (fun g hgm => ?_) hd'.2 (fun t ht => ?_)
    · obtain ⟨k', hn', hk', hg', hacc'⟩ := hx g (List.mem_cons_of_mem _ hgm)
      refine ⟨k', hn', hk', hg', fun hm => ?_⟩
      rcases List.mem_cons.1 hm with e | e
      · exact hd'.1 g hgm (by rw [hk, hk', e])
      · exact hacc' e
    · simp only [Fr.put]
      by_cases e : t = f.t
      · rw [if_pos e, e, hk]
      · rw [if_neg e]
        refine a t fun g hg => ?_
        rcases List.mem_cons.1 hg with rfl | hg
        · exact e
        · exact ht g hg
theorem nodup_inj {α β : Type} (φ : α → β) : ∀ (l : List α), (l.map φ).Nodup → ∀ f ∈ l, ∀ g ∈ l, φ f = φ g → f = g
  | [], _, f, hf, _, _, _ => by cases hf
  | a :: l, hn, f, hf, g, hg, e => by
    rw [List.map_cons, List.nodup_cons] at hn
    rcases List.mem_cons.1 hf with h1 | h1 <;> rcases List.mem_cons.1 hg with h2 | h2
    · rw [h1, h2]
    · exact absurd (by rw [← h1, e]; exact List.mem_map_of_mem (f := φ) h2) hn.1
    · exact absurd (by rw [← h2, ← e]; exact List.mem_map_of_mem (f := φ) h1) hn.1
    · exact nodup_inj φ l hn.2 f h1 g h2 e
theorem Nd : ∀ (l m : List Nat), l.Nodup → (∀ x ∈ l, x ∈ m) → l.length ≤ m.length
  | [], m, _, _ => Nat.zero_le _
  | a :: l, m, hn, h => by
    rw [List.nodup_cons] at hn
    have ha := h a (List.mem_cons_self ..)
    have := Nd l (m.erase a) hn.2 fun x hx => (List.mem_erase_of_ne (fun e : x = a => hn.1 (by rw [← e]; exact hx))).2 (h x (List.mem_cons_of_mem _ hx))
    rw [List.length_erase_of_mem ha] at this
    have := List.length_pos_of_mem ha
    simp only [List.length_cons]; omega
theorem SI.ok_len {P : Program} {ops : Array Oper} {M : Nat → Bool} {F : List FA} {p : Plan} : ∀ (s : List SI) (n : Nat) (base : Array Bool), SI.ok P ops M F p s n base = true → s.length + F.length ≤ n
  | [], n, base, h => by simp only [SI.ok, Bool.and_eq_true, decide_eq_true_eq] at h; simp; omega
  | .one i :: s, 0, base, h => by simp [SI.ok] at h
  | .one i :: s, n + 1, base, h => by
    simp only [SI.ok, Bool.and_eq_true] at h
    have := SI.ok_len s n _ h.2
    simp only [List.length_cons]; omega
  | .pur i :: s, 0, base, h => by simp [SI.ok] at h
  | .pur i :: s, n + 1, base, h => by
    simp only [SI.ok, Bool.and_eq_true] at h
    have := SI.ok_len s n _ h.2
    simp only [List.length_cons]; omega
  | .ext i :: s, 0, base, h => by simp [SI.ok] at h
  | .ext i :: s, n + 1, base, h => by
    simp only [SI.ok, Bool.and_eq_true] at h
    have := SI.ok_len s n _ h.2
    simp only [List.length_cons]; omega
theorem Nm {ops : Array Oper} {F : List FA} {i : Nat} (h : J0r ops F i = true) : ∃ o, ops[i]? = some o ∧ (∀ f ∈ F, f.t ∉ o.looksAt ops) ∧ ∀ f ∈ F, o.dst ≠ some f.t := by
  unfold J0r at h
  split at h
  · rename_i o ho
    rw [List.all_eq_true] at h
    refine ⟨o, ho, fun f hf hc => ?_, fun f hf => ?_⟩
    · have := h f hf
      simp only [Bool.and_eq_true, Bool.not_eq_true', List.contains_eq_mem, decide_eq_false_iff_not] at this
      exact this.1 hc
    · have := h f hf
      simp only [Bool.and_eq_true, bne_iff_ne] at this
      exact this.2
  · cases h
theorem put_away {fr : Fr} {d : Option Tmp} {v : AV} {t : Tmp} (h : d ≠ some t) : fr.put d v t = fr t := by
  cases d with
  | none => rfl
  | some d => simp only [Fr.put]; rw [if_neg (fun e => h (by rw [e]))]
theorem SI.sound {P : Program} {ops : Array Oper} {M : Nat → Bool} {K : Fr → Hp → Prop} {n0 : Nat} {F : List FA} {p : Plan} (hF : FA.ok P ops M F = true) (hFo : ∀ f ∈ F, FOk P ops f) : ∀ (N : Nat) (s : List SI) (n : Nat) (base : Array Bool) (d : List FA) (fs fa : Fr) (Hs H : Hp),
    SI.ok P ops M F p s n base = true → n = N + d.length → (∀ f ∈ d, f ∈ F) → (d.map (·.i)).Nodup → (∀ f ∈ F, base.getD f.i true = false) → J0t P ops K n0 F p s fs Hs → (∃ E, H = Hs ++ E) → Agr F fs fa →
    (∀ f ∈ d, ∃ h, n0 ≤ h ∧ fa f.t = .ptr h 0 ∧ Qy H h = some f.b) → (∀ f ∈ d, ∀ g ∈ d, f.i ≠ g.i → fa f.t ≠ fa g.t) → n0 ≤ H.length → Gq P ops M K N (Z1 base (d.map (·.i))) fa H := by
  simp only [FA.ok, Bool.and_eq_true, decide_eq_true_eq] at hF
  obtain ⟨⟨hF1, hFi⟩, hFt⟩ := hF
  rw [List.all_eq_true] at hF1
  have inj := nodup_inj (·.i) F hFi
  have injt := nodup_inj (·.t) F hFt
  have hM : ∀ f ∈ F, M f.i = false := fun f hf => by have := hF1 f hf; simp only [Bool.and_eq_true, Bool.not_eq_true'] at this; exact this.1
  have hfree : ∀ f ∈ F, ∃ o, ops[f.i]? = some o ∧ ∀ e ∈ o.after, Region.binds .any e = false := fun f hf => by
    have := hF1 f hf
    simp only [Bool.and_eq_true] at this
    have h2 := this.2
    split at h2
    · rename_i o ho
      refine ⟨o, ho, fun e he => ?_⟩
      rw [Array.all_eq_true_iff_forall_mem] at h2
      simpa using h2 e he
    · cases h2
  -- the last of it
  have last : ∀ (N n : Nat) (base : Array Bool) (d : List FA) (fs fa : Fr) (Hs H : Hp), SI.ok P ops M F p [] n base = true → n = N + d.length → (∀ f ∈ d, f ∈ F) → (d.map (·.i)).Nodup → J0t P ops K n0 F p [] fs Hs → (∃ E, H = Hs ++ E) → Agr F fs fa →
      (∀ f ∈ d, ∃ h, n0 ≤ h ∧ fa f.t = .ptr h 0 ∧ Qy H h = some f.b) → (∀ f ∈ d, ∀ g ∈ d, f.i ≠ g.i → fa f.t ≠ fa g.t) → (∀ f ∈ F, f ∈ d) → Gq P ops M K N (Z1 base (d.map (·.i))) fa H := by
    intro N n base d fs fa Hs H hok hn hd hnd hr hx ha hf hdis hall
    simp only [SI.ok, Bool.and_eq_true, decide_eq_true_eq] at hok
    obtain ⟨⟨hle, _⟩, hp⟩ := hok
    have l1 := Nd _ (F.map (·.i)) hnd fun x hx => by
      obtain ⟨f, hf, rfl⟩ := List.mem_map.1 hx
      exact List.mem_map_of_mem (f := (·.i)) (hd f hf)
    have l2 := Nd _ (d.map (·.i)) hFi fun x hx => by
      obtain ⟨f, hf, rfl⟩ := List.mem_map.1 hx
      exact List.mem_map_of_mem (f := (·.i)) (hall f hf)
    simp only [List.length_map] at l1 l2
    have hN : n - F.length = N := by omega
    rw [hN] at hp
    have he : Z1 base (d.map (·.i)) = Z1 base (F.map (·.i)) := by
      refine Array.ext (by rw [Gx, Gx]) fun k h1 h2 => ?_
      have hiff : k ∈ d.map (·.i) ↔ k ∈ F.map (·.i) := by
        constructor
        · intro h; obtain ⟨f, hf, rfl⟩ := List.mem_map.1 h; exact List.mem_map_of_mem (f := (·.i)) (hd f hf)
        · intro h; obtain ⟨f, hf, rfl⟩ := List.mem_map.1 h; exact List.mem_map_of_mem (f := (·.i)) (hall f hf)
      have e1 := Ze (d.map (·.i)) base k false
      have e2 := Ze (F.map (·.i)) base k false
      rw [Array.getD_eq_getD_getElem?, Array.getElem?_eq_getElem h1, Option.getD_some] at e1
      rw [Array.getD_eq_getD_getElem?, Array.getElem?_eq_getElem h2, Option.getD_some] at e2
      rw [e1, e2]
      simp only [hiff]
    rw [he]
    refine Plan.sound p N [] _ fa H hp (SFin.use F [] fs (hr H hx) (fun f hfF => ?_) ?_ ha) (.inl rfl)
    · obtain ⟨h, h1, h2, h3⟩ := hf f (hall f hfF)
      exact ⟨h, h1, h2, h3, List.not_mem_nil⟩
    · have hpw : F.Pairwise (fun f g => f.i ≠ g.i) := by
        have := hFi
        rw [List.Nodup, List.pairwise_map] at this
        exact this
      refine hpw.imp_of_mem ?_
      intro f g hf1 hg1 hne
      exact hdis f (hall f hf1) g (hall g hg1) hne
  intro N
  induction N with
  | zero =>
    intro s n base d fs fa Hs H hok hn hd hnd hb hr hx ha hf hdis hl
    have hlen := SI.ok_len s n base hok
    have l1 := Nd _ (F.map (·.i)) hnd fun x hx => by
      obtain ⟨f, hf, rfl⟩ := List.mem_map.1 hx
      exact List.mem_map_of_mem (f := (·.i)) (hd f hf)
    simp only [List.length_map] at l1
    have hs0 : s = [] := List.eq_nil_of_length_eq_zero (by omega)
    subst hs0
    refine last 0 n base d fs fa Hs H hok hn hd hnd hr hx ha hf hdis fun f hfF => ?_
    by_cases hfd : f.i ∈ d.map (·.i)
    · obtain ⟨g, hg, e⟩ := List.mem_map.1 hfd
      rw [inj f hfF g (hd g hg) e.symm]; exact hg
    · have := Nd (f.i :: d.map (·.i)) (F.map (·.i)) (List.nodup_cons.2 ⟨hfd, hnd⟩) fun x hx => by
        rcases List.mem_cons.1 hx with rfl | hx
        · exact List.mem_map_of_mem (f := (·.i)) hfF
        · obtain ⟨g, hg, rfl⟩ := List.mem_map.1 hx; exact List.mem_map_of_mem (f := (·.i)) (hd g hg)
      simp only [List.length_cons, List.length_map] at this
      simp only [List.length_nil] at hlen
      omega
  | succ N ih =>
    intro s n base d fs fa Hs H hok hn hd hnd hb hr hx ha hf hdis hl
    -- an allocation goes
    have step : ∀ f ∈ F, f.i ∉ d.map (·.i) → Z9 P ops f.i fa H (fun fr1 H1 => (M f.i = true → ∃ E, H1 = H ++ E) ∧ Gq P ops M K N ((Z1 base (d.map (·.i))).setIfInBounds f.i true) fr1 H1) := by
      intro f hfF hfd
      obtain ⟨o, ho, hdst, hg, ty, z, hop, hz, hzs, hblk⟩ := hFo f hfF
      unfold Z9
      simp only [ho]
      unfold AStep1 Y7 Yg
      have hw : Jp ops fa o = some true := by unfold Jp; rw [hg]
      have hc : Q7 P fa o.op = none := by rw [hop]; rfl
      have ha1 : Q5 P fa H o.op = some (.ptr H.length 0, H ++ [f.b]) := by rw [hop]; simp only [Q5, hz, Option.bind_some, Jy, hzs, if_true, hblk]
      simp only [hw, if_true, hc, ha1]
      refine ⟨fun h => (by rw [hM f hfF] at h; cases h), ?_⟩
      have hlist : (Z1 base (d.map (·.i))).setIfInBounds f.i true = Z1 base ((f :: d).map (·.i)) := by
        show _ = Z1 (base.setIfInBounds f.i true) (d.map (·.i))
        rw [U1]
      rw [hlist]
      have hneT : ∀ g ∈ d, g.t ≠ f.t := fun g hg e => hfd (by rw [← injt g (hd g hg) f hfF e]; exact List.mem_map_of_mem (f := (·.i)) hg)
      refine ih s n base (f :: d) fs _ Hs _ hok (by simp only [List.length_cons]; omega) (fun g hg => ?_) (by rw [List.map_cons]; exact List.nodup_cons.2 ⟨hfd, hnd⟩) hb hr ?_ ?_ ?_ ?_ (by rw [List.length_append]; omega)
      · rcases List.mem_cons.1 hg with rfl | hg
        · exact hfF
        · exact hd g hg
      · obtain ⟨E, rfl⟩ := hx; exact ⟨E ++ [f.b], by rw [List.append_assoc]⟩
      · intro t ht
        rw [hdst]
        simp only [Fr.put]
        rw [if_neg (ht f hfF)]
        exact ha t ht
      · intro g hg
        rw [hdst]
        rcases List.mem_cons.1 hg with rfl | hg
        · exact ⟨H.length, hl, by simp only [Fr.put, if_true], Xm rfl⟩
        · obtain ⟨h, h1, h2, h3⟩ := hf g hg
          exact ⟨h, h1, by simp only [Fr.put]; rw [if_neg (hneT g hg)]; exact h2, Xd h3 (Ext.push _ _)⟩
      · have far : ∀ g ∈ d, fa g.t ≠ .ptr H.length 0 := fun g hg e => by
          obtain ⟨h, h1, h2, h3⟩ := hf g hg
          rw [h2] at e
          cases e
          exact absurd (Zi h3) (Nat.lt_irrefl _)
        intro g hg g' hg' hne
        rw [hdst]
        simp only [Fr.put]
        rcases List.mem_cons.1 hg with h1 | h1 <;> rcases List.mem_cons.1 hg' with h2 | h2
        · rw [h1, h2] at hne; exact absurd rfl hne
        · rw [h1, if_pos rfl, if_neg (hneT g' h2)]; exact Ne.symm (far g' h2)
        · rw [h2, if_pos rfl, if_neg (hneT g h1)]; exact far g h1
        · rw [if_neg (hneT g h1), if_neg (hneT g' h2)]; exact hdis g h1 g' h2 hne
    have unl : ∀ j, j ∈ Region.ready .any ops (Z1 base (d.map (·.i))) → j ∉ d.map (·.i) := fun j hj hm => by
      have h0 := (mem_ready.1 hj).1
      rw [Ze] at h0
      obtain ⟨_, o, ho, _⟩ := mem_ready.1 hj
      by_cases hlt : j < base.size
      · rw [if_pos ⟨hm, hlt⟩] at h0; cases h0
      · obtain ⟨f, hf1, rfl⟩ := List.mem_map.1 hm
        have := hb f (hd f hf1)
        rw [Array.getD_eq_getD_getElem?] at this
        simp [hlt] at this
    have sub : ∀ x ∈ d.map (·.i), x ∈ F.map (·.i) := fun x hx => by
      obtain ⟨f, hf1, rfl⟩ := List.mem_map.1 hx; exact List.mem_map_of_mem (f := (·.i)) (hd f hf1)
    have keep : ∀ (o : Oper) (v : AV), (∀ f ∈ F, o.dst ≠ some f.t) → ∀ H1, (∃ E, H1 = H ++ E) → (∀ f ∈ d, ∃ h, n0 ≤ h ∧ (fa.put o.dst v) f.t = .ptr h 0 ∧ Qy H1 h = some f.b) := fun o v hn1 H1 x1 f hfd => by
      obtain ⟨h, h1, h2, h3⟩ := hf f hfd
      exact ⟨h, h1, by rw [put_away (hn1 f (hd f hfd))]; exact h2, Xd h3 x1⟩
    have keepd : ∀ (o : Oper) (v : AV), (∀ f ∈ F, o.dst ≠ some f.t) → ∀ f ∈ d, ∀ g ∈ d, f.i ≠ g.i → (fa.put o.dst v) f.t ≠ (fa.put o.dst v) g.t := fun o v hn1 f hf1 g hg1 hne => by
      rw [put_away (hn1 f (hd f hf1)), put_away (hn1 g (hd g hg1))]; exact hdis f hf1 g hg1 hne
    have hbs : ∀ i, i ∉ F.map (·.i) → ∀ f ∈ F, (base.setIfInBounds i true).getD f.i true = false := fun i hi f hf1 => by
      rw [Ry, if_neg (fun (h : f.i = i ∧ f.i < base.size) => hi (by rw [← h.1]; exact List.mem_map_of_mem (f := (·.i)) hf1))]; exact hb f hf1
    -- what is sure goes first
    have sure : ∀ (i : Nat) (s' : List SI) (n' : Nat), n = n' + 1 → (Region.ready .any ops base).contains i = true → freeS P ops M base i (Vj ops i) = true → J0r ops F i = true → i ∉ F.map (·.i) → SI.ok P ops M F p s' n' (base.setIfInBounds i true) = true →
        AStepS P ops i fs Hs (J0t P ops K n0 F p s') → Gq P ops M K (N + 1) (Z1 base (d.map (·.i))) fa H := by
      intro i s' n' hnn hri hfr hap hiF hok' hS
      obtain ⟨o, ho, hlo, hdo⟩ := Nm hap
      unfold AStepS at hS
      simp only [ho] at hS
      obtain ⟨v, hv, hr'⟩ := hS
      unfold freeS at hfr
      simp only [Bool.and_eq_true, ho] at hfr
      obtain ⟨⟨hwt, hdl⟩, hfr⟩ := hfr
      have hid : i ∉ d.map (·.i) := fun h => hiF (sub i h)
      have hirb : i ∈ Region.ready .any ops base := by simpa using hri
      have hir : i ∈ Region.ready .any ops (Z1 base (d.map (·.i))) := W9 hirb (fun k hk => Gy hk) (by rw [Yz hid]; exact (mem_ready.1 hirb).1)
      refine AAny_firstS (V4 hwt) ho N _ fa H v hir ?_ ?_ (ASure.cong ha hlo hx hv) ?_
      · intro j hj
        have hjd : j ∉ d.map (·.i) := fun hm => by
          obtain ⟨f, hf1, rfl⟩ := List.mem_map.1 (sub j hm)
          obtain ⟨o1, ho1, he1⟩ := hfree f hf1
          obtain ⟨o2, ho2, e, he, hb2, _⟩ := V4 hwt f.i hj
          rw [ho1] at ho2; cases ho2
          rw [he1 e he] at hb2; cases hb2
        rw [Yz hjd]
        have hlt : j < (Vj ops i).size := by
          rcases Nat.lt_or_ge j (Vj ops i).size with h | h
          · exact h
          · simp [Array.getD_eq_getD_getElem?, h] at hj
        have := (List.all_eq_true.1 hdl) j (List.mem_range.2 hlt)
        simpa only [hj, Bool.not_true, Bool.false_or, Bool.not_eq_true'] using this
      · intro j oj hji hjl hjd hoj
        have hjs : j < ops.size := (Array.getElem?_eq_some_iff.1 hoj).1
        have := (List.all_eq_true.1 hfr) j (List.mem_range.2 hjs)
        have hjb : base.getD j true = false := by
          rw [Ze] at hjl
          split at hjl
          · cases hjl
          · exact hjl
        simp only [hoj, hjb, hjd, Bool.or_eq_true, Bool.and_eq_true, beq_iff_eq, hji, Bool.false_eq_true, or_self, false_or] at this
        exact this
      · rw [← U1]
        exact ih s' n' _ d (fs.put o.dst v) (fa.put o.dst v) Hs H hok' (by omega) hd hnd (hbs i hiF) hr' hx (ha.put _ _) (keep o v hdo H ⟨[], by simp⟩) (keepd o v hdo) hl
    -- what reads goes first
    have reads : ∀ (i : Nat) (s' : List SI) (n' : Nat), n = n' + 1 → (Region.ready .any ops base).contains i = true → free P ops M base i = true → J0r ops F i = true → i ∉ F.map (·.i) → SI.ok P ops M F p s' n' (base.setIfInBounds i true) = true →
        Z9 P ops i fs Hs (J0t P ops K n0 F p s') → (match ops[i]? with | some o => Vs P o.op | none => false) = true → Gq P ops M K (N + 1) (Z1 base (d.map (·.i))) fa H := by
      intro i s' n' hnn hri hfr hap hiF hok' hS hst
      obtain ⟨o, ho, hlo, hdo⟩ := Nm hap
      unfold Z9 at hS
      simp only [ho] at hS hst
      obtain ⟨v, hv, hr'⟩ := AStep1.sure hst hS
      unfold free freeD at hfr
      simp only [Bool.and_eq_true, ho] at hfr
      obtain ⟨⟨hwt, hdl⟩, hfr⟩ := hfr
      have hid : i ∉ d.map (·.i) := fun h => hiF (sub i h)
      have hirb : i ∈ Region.ready .any ops base := by simpa using hri
      have hir : i ∈ Region.ready .any ops (Z1 base (d.map (·.i))) := W9 hirb (fun k hk => Gy hk) (by rw [Yz hid]; exact (mem_ready.1 hirb).1)
      refine AAny_first (V4 hwt) ho (W7 hst) N _ fa H hir ?_ ?_ (ASure.step (ASure.cong ha hlo hx hv) ⟨[], by simp⟩ ?_)
      · intro j hj
        have hjd : j ∉ d.map (·.i) := fun hm => by
          obtain ⟨f, hf1, rfl⟩ := List.mem_map.1 (sub j hm)
          obtain ⟨o1, ho1, he1⟩ := hfree f hf1
          obtain ⟨o2, ho2, e, he, hb2, _⟩ := V4 hwt f.i hj
          rw [ho1] at ho2; cases ho2
          rw [he1 e he] at hb2; cases hb2
        rw [Yz hjd]
        have hlt : j < (Vj ops i).size := by
          rcases Nat.lt_or_ge j (Vj ops i).size with h | h
          · exact h
          · simp [Array.getD_eq_getD_getElem?, h] at hj
        have := (List.all_eq_true.1 hdl) j (List.mem_range.2 hlt)
        simpa only [hj, Bool.not_true, Bool.false_or, Bool.not_eq_true'] using this
      · intro j oj hji hjl hjd hoj
        have hjs : j < ops.size := (Array.getElem?_eq_some_iff.1 hoj).1
        have := (List.all_eq_true.1 hfr.2) j (List.mem_range.2 hjs)
        have hjb : base.getD j true = false := by
          rw [Ze] at hjl
          split at hjl
          · cases hjl
          · exact hjl
        simp only [hoj, hjb, hjd, Bool.or_eq_true, Bool.and_eq_true, beq_iff_eq, hji, Bool.false_eq_true, or_self, false_or] at this
        exact this
      · rw [← U1]
        exact ih s' n' _ d (fs.put o.dst v) (fa.put o.dst v) Hs H hok' (by omega) hd hnd (hbs i hiF) hr' hx (ha.put _ _) (keep o v hdo H ⟨[], by simp⟩) (keepd o v hdo) hl
    cases s with
    | nil =>
      by_cases hall : ∀ f ∈ F, f ∈ d
      · exact last (N + 1) n base d fs fa Hs H hok hn hd hnd hr hx ha hf hdis hall
      · have hok0 := hok
        simp only [SI.ok, Bool.and_eq_true] at hok
        have hck := List.all_eq_true.1 hok.1.2
        have : ∃ f, f ∈ F ∧ f ∉ d := by
          apply Classical.byContradiction
          intro hne
          exact hall fun f hf1 => Classical.byContradiction fun h => hne ⟨f, hf1, h⟩
        obtain ⟨f, hfF, hfd⟩ := this
        have hfi : f.i ∉ d.map (·.i) := fun hm => by
          obtain ⟨g, hg, e⟩ := List.mem_map.1 hm
          exact hfd (by rw [inj f hfF g (hd g hg) e.symm]; exact hg)
        have hfr : f.i ∈ Region.ready .any ops (Z1 base (d.map (·.i))) := by
          obtain ⟨o, ho, he⟩ := hfree f hfF
          exact mem_ready.2 ⟨by rw [Yz hfi]; exact hb f hfF, o, ho, fun e hem hbd => by rw [he e hem] at hbd; cases hbd⟩
        refine ⟨fun h0 => (by rw [h0] at hfr; cases hfr), fun j hj => ?_⟩
        by_cases hjF : j ∈ F.map (·.i)
        · obtain ⟨g, hg, rfl⟩ := List.mem_map.1 hjF
          exact step g hg (unl _ hj)
        · have h1 : j ∈ Region.ready .any ops (Z1 base ((F.map (·.i)).filter (· != f.i))) := by
            refine W9 hj (setAll_more fun x hx => ?_) ?_
            · refine List.mem_filter.2 ⟨sub x hx, ?_⟩
              simp only [bne_iff_ne]
              exact fun e => hfi (e ▸ hx)
            · rw [Yz (fun h => hjF (List.mem_filter.1 h).1)]
              have h0 := (mem_ready.1 hj).1
              rw [Ze] at h0
              split at h0
              · cases h0
              · exact h0
          have h2 := List.all_eq_true.1 (hck f hfF) j h1
          simp only [beq_iff_eq] at h2
          exact absurd (h2 ▸ List.mem_map_of_mem (f := (·.i)) hfF) hjF
    | cons x s' =>
      cases x with
      | one i =>
        cases n with
        | zero => simp [SI.ok] at hok
        | succ n =>
          simp only [SI.ok, Bool.and_eq_true] at hok
          obtain ⟨⟨⟨⟨⟨h1, h2⟩, h3⟩, h4⟩, h5⟩, h6⟩ := hok
          exact reads i s' n rfl h1 h2 h3 (by simpa using h5) h6 hr h4
      | pur i =>
        cases n with
        | zero => simp [SI.ok] at hok
        | succ n =>
          simp only [SI.ok, Bool.and_eq_true] at hok
          obtain ⟨⟨⟨⟨h1, h2⟩, h3⟩, h5⟩, h6⟩ := hok
          exact sure i s' n rfl h1 h2 h3 (by simpa using h5) h6 hr
      | ext i =>
        cases n with
        | zero => simp [SI.ok] at hok
        | succ n =>
          simp only [SI.ok, Bool.and_eq_true] at hok
          obtain ⟨⟨⟨⟨h1, h2⟩, h3⟩, h5⟩, h6⟩ := hok
          have hiF : i ∉ F.map (·.i) := by simpa using h5
          have hid : i ∉ d.map (·.i) := fun h => hiF (sub i h)
          obtain ⟨o, ho, hlo, hdo⟩ := Nm h3
          have hirb : i ∈ Region.ready .any ops base := by simpa using h1
          have hir : i ∈ Region.ready .any ops (Z1 base (d.map (·.i))) := W9 hirb (fun k hk => Gy hk) (by rw [Yz hid]; exact (mem_ready.1 hirb).1)
          refine ⟨fun h0 => (by rw [h0] at hir; cases hir), fun j hj => ?_⟩
          by_cases hjF : j ∈ F.map (·.i)
          · obtain ⟨g, hg, rfl⟩ := List.mem_map.1 hjF
            exact step g hg (unl _ hj)
          · have hj1 : j ∈ Region.ready .any ops (Z1 base (F.map (·.i))) := by
              refine W9 hj (setAll_more sub) ?_
              rw [Yz hjF]
              have h0 := (mem_ready.1 hj).1
              rw [Ze] at h0
              split at h0
              · cases h0
              · exact h0
            have h4 := List.all_eq_true.1 h2 j hj1
            simp only [beq_iff_eq] at h4
            subst h4
            have hS := hr H hx
            unfold Z9 at hS ⊢
            simp only [ho] at hS ⊢
            refine (AStep1.cong ha hlo hS).mono ?_
            rintro fr1 H1 ⟨u, rfl, x1, hr1⟩
            refine ⟨fun _ => x1, ?_⟩
            rw [← U1]
            exact ih s' n _ d (fs.put o.dst u) (fa.put o.dst u) H1 H1 h6 (by omega) hd hnd (hbs j hiF) hr1 ⟨[], by simp⟩ (ha.put _ _) (keep o u hdo H1 x1) (keepd o u hdo) (by obtain ⟨E, rfl⟩ := x1; rw [List.length_append]; omega)
def FOks (P : Program) (ops : Array Oper) : List FA → Prop
  | [] => True
  | f :: F => FOk P ops f ∧ FOks P ops F
theorem FOks.mem {P : Program} {ops : Array Oper} : ∀ {F : List FA}, FOks P ops F → ∀ f ∈ F, FOk P ops f
  | [], _, f, hf => by cases hf
  | g :: F, h, f, hf => by
    rcases List.mem_cons.1 hf with e | e
    · rw [e]; exact h.1
    · exact FOks.mem h.2 f e
section
variable {P : Program} {ops : Array Oper} {K : Fr → Hp → Prop} {n0 : Nat} {F : List FA} {p : Plan} {s : List SI} {fr : Fr} {H : Hp}
end
end Go.AL

/- Part 7 of the proof of laws of this seat: lemmas on the model's code, on this program's functions, on numbers. No condition. -/
import Derived.Test.YtfalfmfkifemeaaGreatDoorZGaf
set_option linter.unusedVariables false
set_option linter.unusedSimpArgs false
open Nat renaming reduceEqDiff → J0, reduceLeDiff → J1, reduceMul → J2, reduceAdd → J3, reduceSub → J4, reduceLT → J5
open Int renaming reduceToNat → J6, reducePow → J7, reduceNeg → J8, reduceLT → J9, reduceLE → Ja, reduceEq → Jb
open And renaming intro → Jc
open Go.IntKind renaming bits → Jd
namespace Go.AL
open Go.RowKit
theorem Ints.str {P : Program} {H : Hp} {v : AV} {xs : List Int} {src dst e : TypeId} (h : Ints H .u8 v xs) (hs : P.underlying src = some (.slice e)) (he : Q8 P e = true) (hd : P.underlying dst = some .string) :
    Uu P H src dst v = some (.str (strOfNums xs)) := by
  rcases Ud h.rd.row with ⟨rfl, h0, hn⟩ | ⟨b, hb, hg, hk, hl, hc⟩
  · have : xs = [] := by simpa using h0
    subst this
    simp only [Uu, hs, hd, he, if_true]
    rfl
  · have ha : aints ((b.cells.drop v.of).take xs.length) = some xs := by
      rw [Nat.mul_one] at hc
      rw [← hc, aints_map]
    rw [Nat.mul_one] at hl
    rcases hb with ⟨c, hb⟩ | ⟨z', hb⟩ <;> (generalize v.hd = k, v.of = o at *; subst hb; simp only [Uu, hs, hd, he, if_true, abytes, hg]; rw [if_neg hk, if_pos hl, ha]; rfl)
theorem eq_bools {P : Program} {t : TypeId} {a b : Bool} (hu : P.underlying t = some .bool) : Xk P Op.maxDepth t (.bool a) (.bool b) = some (a == b) := Ut fun d => by simp [Xk, hu]
theorem Rg {P : Program} {t e : TypeId} {h o : Nat} (hu : P.underlying t = some (.pointer e)) : Xk P Op.maxDepth t (.ptr h o) .nilP = some false := Ut fun d => by simp [Xk, hu]
theorem G6 {P : Program} {t e : TypeId} (hu : P.underlying t = some (.pointer e)) : Xk P Op.maxDepth t .nilP .nilP = some true := Ut fun d => by simp [Xk, hu]
end Go.AL
namespace Go.AL
open Go.RowKit
theorem RowsI.snoc {H : Hp} {k : IntKind} {u : AV} {xs : List Int} (hu : Ints H k u xs) : ∀ {vs : List AV} {xss : List (List Int)}, RowsI H k vs xss → RowsI H k (vs ++ [u]) (xss ++ [xs])
  | [], [], _ => ⟨hu, trivial⟩
  | v :: vs, ys :: xss, hr => ⟨hr.1, RowsI.snoc hu (vs := vs) hr.2⟩
end Go.AL
namespace Go.AL
open Go.RowKit
theorem map_geti {k : IntKind} {xs : List Int} {i : Nat} (h : i < xs.length) : (xs.map (AV.int k))[i]? = some (.int k (xs.getD i 0)) := map_get (AV.int k) xs 0 h
theorem set_push_at {H : Hp} {k : Nat} {b b' : Blk} (h : k = H.length) : (H ++ [b]).set k b' = H ++ [b'] := by subst h; exact Ws H b b'
theorem splice_all {cs ds : List AV} (h : ds.length = cs.length) : Jr cs 0 ds = ds := by
  simp [Jr, ← h]
theorem take_all {α : Type} {cs : List α} {n : Nat} (h : cs.length ≤ n) : cs.take n = cs := List.take_of_length_le h
theorem G9 {cs : List AV} : AV.solid (.agg cs) = cs.all AV.one := rfl
theorem J1z {k : IntKind} {xs : List Int} {i : Nat} {y : Int} (h : i < xs.length) : Jr (xs.map (AV.int k)) i [.int k y] = (xs.set i y).map (AV.int k) := Wd (AV.int k) xs y h
theorem Y1 (k : IntKind) (xs : List Int) : (xs.map (AV.int k)).length = xs.length := List.length_map ..
theorem apart_int {P : Program} {t : TypeId} {k : IntKind} {xs : List Int} {i : Nat} (ha : Xm P t = some false) (h : i < xs.length) : apart P t (xs.map (AV.int k)) i = some (.int k (xs.getD i 0)) := by
  simp only [apart, ha]
  exact map_geti h
theorem Rf {P : Program} {t e : TypeId} {n : Nat} {k l : IntKind} {xs : List Int} {j : Int} (hu : P.underlying t = some (.array n e)) (hz : Xg P e = some 1) (ha : Xm P e = some false) (hn : xs.length = n) (h0 : 0 ≤ j) (h1 : j < (n : Int)) :
    Ky P t (.agg (xs.map (AV.int k))) (.int l j) = some (.int k (xs.getD j.toNat 0)) := by
  simp only [Ky, hu, hz, Nat.mul_one]
  rw [if_pos ⟨h0, h1⟩]
  exact apart_int ha (by omega)
theorem Rm {P : Program} {t e : TypeId} {n z h o : Nat} {l : IntKind} {j : Int} (hu : P.underlying t = some (.array n e)) (hz : Xg P e = some z) (h0 : 0 ≤ j) (h1 : j < (n : Int)) :
    X3 P t (.ptr h o) (.int l j) = some (.ptr h (o + j.toNat * z)) := by
  simp only [X3, hu, hz]
  rw [if_pos ⟨h0, h1⟩]
theorem Gu {P : Program} {t e : TypeId} {n z h o : Nat} (hu : P.underlying t = some (.array n e)) (hz : Xg P e = some z) : Zu P t (.ptr h o) none none none = some (.sl h o n n) := by
  simp [Zu, hu, hz, Zj]
theorem Wq {P : Program} {t e : TypeId} {n z h o : Nat} {l : IntKind} {q : Int} (hu : P.underlying t = some (.array n e)) (hz : Xg P e = some z) (h0 : 0 ≤ q) (h1 : q ≤ (n : Int)) : Zu P t (.ptr h o) none (some (.int l q)) none = some (.sl h o q.toNat n) := by
  obtain ⟨q, rfl⟩ := Int.eq_ofNat_of_zero_le h0
  have : q ≤ n := by omega
  simp [Zu, hu, hz, Zj, Ue, this]
def Qx (P : Program) (fr : Fr) (H : Hp) (rs : List ResultVar) (R : AV → Hp → Prop) : Prop :=
  match Qd P fr H rs with
  | some [v] => R v H
  | some vs => R (.tup vs) H
  | none => False
theorem Qg {P : Program} {fn : Func} {R : AV → Hp → Prop} {fr : Fr} {H : Hp} {e : Exit} {rs : List ResultVar} (hr : fn.results.toList = rs) (h : Qx P fr H rs R) (he : e = .ret ∨ e = .normal := by simp) : AEnd P fn R e fr H := by
  subst hr
  unfold Qx at h
  have key : ∃ r, aret P fn fr H = some r ∧ R r H := by
    split at h
    · rename_i v hv; exact ⟨v, by simp [aret, hv], h⟩
    · rename_i vs hne hv
      refine ⟨.tup vs, ?_, h⟩
      simp only [aret, hv]
    · exact h.elim
  rcases he with rfl | rfl <;> exact key
theorem Rd.load1 {P : Program} {H : Hp} {n : Nat} {v : AV} {cs : List AV} {e : TypeId} (h : Rd H 1 v cs n) (ha : Xm P e = some false) : ∀ {i : Nat}, i < n → Yq P H e (.ptr v.hd (v.of + i)) = cs[i]? := fun {i} hi => by
  have := h.load (P := P) ha hi
  rwa [Nat.mul_one] at this
theorem Ints.load1 {P : Program} {H : Hp} {k : IntKind} {v : AV} {xs : List Int} {e : TypeId} (h : Ints H k v xs) (ha : Xm P e = some false) : ∀ {i : Nat}, i < xs.length → Yq P H e (.ptr v.hd (v.of + i)) = some (.int k (xs.getD i 0)) := fun {i} hi => by
  have := Ints.load (P := P) h ha hi
  rwa [Nat.mul_one] at this
theorem Rd.at1 {P : Program} {H : Hp} {n : Nat} {v : AV} {cs : List AV} {t e : TypeId} (h : Rd H 1 v cs n) (hu : P.underlying t = some (.slice e)) (hz : Xg P e = some 1) : ∀ {k : IntKind} {j : Int}, 0 ≤ j → j < (n : Int) → X3 P t v (.int k j) = some (.ptr v.hd (v.of + j.toNat)) := fun {k j} h0 h1 => by
  have := h.at_ (P := P) hu hz (k := k) h0 h1
  rwa [Nat.mul_one] at this
end Go.AL
namespace Go.AL
open Go.RowKit
theorem eq_arr {P : Program} {t e : TypeId} {n : Nat} {k l : IntKind} {xs ys : List Int} (hu : P.underlying t = some (.array n e)) (hz : Xg P e = some 1) (ha : Xm P e = some false) (he : P.underlying e = some (.int l)) (hx : xs.length = n) (hy : ys.length = n) :
    Xk P Op.maxDepth t (.agg (xs.map (AV.int k))) (.agg (ys.map (AV.int k))) = some (decide (xs = ys)) := by
  have key : ∀ D, (∀ a b : Int, Xk P D e (.int k a) (.int k b) = some (a == b)) → Xk P (D + 1) t (.agg (xs.map (AV.int k))) (.agg (ys.map (AV.int k))) = some (decide (xs = ys)) := by
    intro D hel
    have step : ∀ m, m ≤ n → (List.range m).foldr (fun i r =>
        match apart P e (xs.map (AV.int k)) (i * 1), apart P e (ys.map (AV.int k)) (i * 1) with
        | some a, some b => match Xk P D e a b, r with
          | some p, some q => some (p && q)
          | _, _ => none
        | _, _ => none) (some (decide (xs.drop m = ys.drop m))) = some (decide (xs = ys)) := by
      intro m
      induction m with
      | zero => intro _; simp
      | succ m ih =>
        intro hm
        rw [List.range_succ, List.foldr_append]
        simp only [List.foldr_cons, List.foldr_nil]
        rw [Nat.mul_one, apart_int ha (by omega), apart_int ha (by omega)]
        simp only [hel]
        have e1 : (xs.getD m 0 == ys.getD m 0 && decide (xs.drop (m + 1) = ys.drop (m + 1))) = decide (xs.drop m = ys.drop m) := by
          rw [drop_step xs 0 (i := m) (by omega), drop_step ys 0 (i := m) (by omega)]
          rw [Bool.eq_iff_iff]
          simp
        rw [e1]
        exact ih (by omega)
    have hn := step n (Nat.le_refl _)
    rw [List.drop_of_length_le (by omega), List.drop_of_length_le (by omega)] at hn
    have ht : decide (([] : List Int) = []) = true := rfl
    rw [ht] at hn
    simp only [Xk, hu, hz]
    exact hn
  exact key (Op.maxDepth - 1) fun a b => by
    show Xk P ((Op.maxDepth - 2) + 1) e _ _ = _
    simp [Xk, he]
end Go.AL
namespace Go.AL
theorem Z6 {P : Program} {c : Code} {fr : Fr} {H : Hp} {K : Fr → Hp → Prop} {Q : Exit → Fr → Hp → Prop} (Φ : Fr → Hp → Prop) (h1 : AWp P c fr H (Q4 Φ fun _ _ _ => False)) (h2 : ∀ fr' H', Φ fr' H' → K fr' H') : AWp P c fr H (Q4 K Q) :=
  h1.mono fun e fr' H' h => by
    cases e with
    | normal => exact h2 _ _ h
    | _ => exact h.elim
end Go.AL
namespace Go.AL
theorem AWp_cutB {P : Program} {c : Code} {fr : Fr} {H : Hp} {K : Fr → Hp → Prop} {Q : Exit → Fr → Hp → Prop} {id : Nat} (Φ : Fr → Hp → Prop) (h1 : AWp P c fr H (Jo id (Q4 Φ fun _ _ _ => False))) (h2 : ∀ fr' H', Φ fr' H' → K fr' H') : AWp P c fr H (Jo id (Q4 K Q)) :=
  h1.mono fun e fr' H' h => by
    cases e with
    | normal => exact h2 _ _ h
    | exit i =>
      simp only [Jo] at h ⊢
      split at h
      · rename_i hi; rw [if_pos hi]; exact h2 _ _ h
      · exact h.elim
    | _ => exact h.elim
end Go.AL
namespace Go.AL
theorem at_sl {P : Program} {t e : TypeId} {z h o n c : Nat} {l : IntKind} {j : Int} (hu : P.underlying t = some (.slice e)) (hz : Xg P e = some z) (h0 : 0 ≤ j) (h1 : j < (n : Int)) : X3 P t (.sl h o n c) (.int l j) = some (.ptr h (o + j.toNat * z)) := by
  simp [X3, hu, hz, h0, h1]
theorem at_sg {P : Program} {t e : TypeId} {z h o n z' : Nat} {l : IntKind} {j : Int} (hu : P.underlying t = some (.slice e)) (hz : Xg P e = some z) (h0 : 0 ≤ j) (h1 : j < (n : Int)) : X3 P t (.sg h o n z') (.int l j) = some (.ptr h (o + j.toNat * z)) := by
  simp [X3, hu, hz, h0, h1]
theorem J0x {P : Program} {t e : TypeId} {h o n c : Nat} {l : IntKind} {j : Int} (hu : P.underlying t = some (.slice e)) (hz : Xg P e = some 1) (h0 : 0 ≤ j) (h1 : j < (n : Int)) : X3 P t (.sl h o n c) (.int l j) = some (.ptr h (o + j.toNat)) := by
  simp [X3, hu, hz, h0, h1]
theorem J0y {P : Program} {t e : TypeId} {h o n z' : Nat} {l : IntKind} {j : Int} (hu : P.underlying t = some (.slice e)) (hz : Xg P e = some 1) (h0 : 0 ≤ j) (h1 : j < (n : Int)) : X3 P t (.sg h o n z') (.int l j) = some (.ptr h (o + j.toNat)) := by
  simp [X3, hu, hz, h0, h1]
theorem Ints.blk {H : Hp} {h o n c : Nat} {k : IntKind} {kd : BK} {e : TypeId} {xs : List Int} (hg : Qt H h = some ⟨xs.map (AV.int k), kd, e⟩) (hk : kd ≠ .dead) (hn : o + n ≤ xs.length) (hc : n ≤ c) : Ints H k (.sl h o n c) ((xs.drop o).take n) := by
  have hl : ((xs.drop o).take n).length = n := by rw [List.length_take, List.length_drop]; omega
  refine ⟨?_, ?_⟩
  · simp only [arow, hg, Nat.mul_one]
    rw [if_neg hk, if_pos (by rw [List.length_map]; omega), hl, ← List.map_drop, ← List.map_take]
  · exact hc
end Go.AL
namespace Go.AL
theorem Qo {H : Hp} {b : Blk} {k : Nat} (h : k = H.length) : Qt (H ++ [b]) k = some b := by rw [Vf, if_pos h]
theorem Qp {H : Hp} {b : Blk} {k : Nat} (h : k < H.length) : Qt (H ++ [b]) k = Qt H k := by rw [Vf, if_neg (by omega)]
structure P1 (H H1 : Hp) (v : AV) (h : Nat) (b : Blk) : Prop where
  eq : v = .ptr h 0
  get : Qt H1 h = some b
  lo : H.length ≤ h
theorem P1.hi {H H1 : Hp} {v : AV} {h : Nat} {b : Blk} (p : P1 H H1 v h b) : h < H1.length := Qr p.get
theorem P1.push {H H1 : Hp} {v : AV} {h : Nat} {b : Blk} (p : P1 H H1 v h b) (c : Blk) : P1 H (H1 ++ [c]) v h b := ⟨p.eq, by rw [Qp p.hi]; exact p.get, p.lo⟩
end Go.AL
namespace Go.AL
theorem set_same {H : Hp} {p : Nat} {b : Blk} (h : Qt H p = some b) : H.set p b = H := by
  apply List.ext_getElem?
  intro i
  rw [List.getElem?_set]
  split
  · rename_i he; subst he
    unfold Qt at h
    rw [h, if_pos (List.getElem?_eq_some_iff.1 h).1]
  · rfl
theorem Nm {H : Hp} {p : Nat} {b b' : Blk} : (H.set p b).set p b' = H.set p b' := by
  rw [List.set_set]
end Go.AL
namespace Go.AL
theorem Uz {P : Program} {H : Hp} {t : TypeId} {h o : Nat} : Yq P H t (.ptr h o) = (match Qt H h with
    | some b =>
      if b.kind = .dead then none else
      match Xm P t, Xg P t with
      | some true, some n => if o + n ≤ b.cells.length then some (.agg ((b.cells.drop o).take n)) else none
      | some false, _ => b.cells[o]?
      | _, _ => none
    | none => none) := id rfl
theorem Uc {P : Program} {H : Hp} {t : TypeId} {h o : Nat} {x : AV} : Ke P H t (.ptr h o) x = (match Xg P t with
    | some n => match Qt H h with
      | some b => if b.kind = .own ∧ x.solid = true ∧ x.cells.length = n ∧ o + n ≤ b.cells.length then some (H.set h ⟨Jr b.cells o x.cells, .own, b.ety⟩) else none
      | none => none
    | none => none) := by
  unfold Ke
  cases Xg P t <;> rfl
end Go.AL
set_option maxRecDepth 4000
namespace Go.AL
theorem RA : type_of% (Jc @ESt_some (Jc @Run_nil (Jc @Run_cons (Jc @Run_pnil (Jc @Run_one (Jc @Run_alt (Jc @EAt_def (Jc @EStep_def (Jc @E0_def (Jc @EGuard_true (Jc @EGuard_false (Jc @beq_self_eq_true.{0} (Jc @beq_true (Jc @beq_false (Jc @bne_self_eq_false.{0} (Jc @Fr.put_some (Jc @Fr.put_none (Jc @Qe (Jc @Qf (Jc @Qi (Jc @if_true.{0} (Jc @if_true.{1} (Jc @if_false.{0} (Jc @if_false.{1} (Jc @Option.map_some.{0,0} (Jc @Option.map_none.{0,0} (Jc @Option.bind_some.{0,0} (Jc @Option.bind_none.{0,0} (Jc @or_self (Jc @or_true (Jc @true_or (Jc @or_false (Jc @false_or (Jc @and_self (Jc @and_true (Jc @true_and (Jc @and_false (Jc @false_and (Jc @not_true_eq_false (Jc @not_false_eq_true (Jc @Bool.false_eq_true (Jc @Bool.true_eq_false (Jc @decide_eq_true_eq (Jc @decide_eq_false_iff_not (Jc @beq_iff_eq.{0} (Jc @bne_iff_ne.{0} (Jc @Bool.not_eq_true' (Jc @Bool.not_true (Jc @Bool.not_false (Jc @ne_eq.{0} (Jc @ne_eq.{1} (Jc @AV.solid_int (Jc @AV.one_int (Jc @AV.cells_int (Jc @AV.solid_bool (Jc @AV.one_bool (Jc @AV.cells_bool (Jc @AV.solid_str (Jc @AV.one_str (Jc @AV.cells_str (Jc @AV.solid_nilI (Jc @AV.one_nilI (Jc @AV.cells_nilI (Jc @AV.solid_ifc (Jc @AV.one_ifc (Jc @AV.cells_ifc (Jc @AV.solid_nilP (Jc @AV.one_nilP (Jc @AV.cells_nilP (Jc @AV.solid_ptr (Jc @AV.one_ptr (Jc @AV.cells_ptr (Jc @AV.solid_nilS (Jc @AV.one_nilS (Jc @AV.cells_nilS (Jc @AV.solid_sl (Jc @AV.one_sl (Jc @AV.cells_sl (Jc @AV.solid_sg (Jc @AV.one_sg (Jc @AV.cells_sg (Jc @AV.solid_fn (Jc @AV.one_fn (Jc @AV.cells_fn (Jc @AV.cells_agg (Jc @List.replicate_succ.{0} (Jc @List.replicate_zero.{0} (Jc @List.flatten_cons.{0} (Jc @List.flatten_nil.{0} (Jc @List.append_nil.{0} (Jc @List.nil_append.{0} (Jc @List.cons_append.{0} (Jc @List.take_succ_cons.{0} (Jc @List.take_zero.{0} (Jc @List.drop_succ_cons.{0} (Jc @List.drop_zero.{0} (Jc @List.length_cons.{0} (Jc @List.length_nil.{0} (Jc @List.all_cons.{0} (Jc @List.all_nil.{0} (Jc @Bool.and_true (Jc @Bool.true_and (Jc @Bool.and_self (Jc @Bool.or_true (Jc @Bool.true_or (Jc @Bool.or_false (Jc @Bool.false_or (Jc @Bool.and_false (Jc @Bool.false_and (Jc @Int.cast_ofNat_Int (Jc @Nat.min_def (Jc @Nat.zero_add (Jc @Vf (Jc @Ws (Jc @List.map_cons.{0,0} (Jc @List.map_nil.{0,0} (Jc @List.toList_toArray.{0} (Jc @List.getElem?_toArray.{0} (Jc @List.getElem?_cons_zero.{0} (@List.getElem?_cons_succ.{0})))))))))))))))))))))))))))))))))))))))))))))))))))))))))))))))))))))))))))))))))))))))))))))))))))))))))))))))))))))))) := Jc @ESt_some (Jc @Run_nil (Jc @Run_cons (Jc @Run_pnil (Jc @Run_one (Jc @Run_alt (Jc @EAt_def (Jc @EStep_def (Jc @E0_def (Jc @EGuard_true (Jc @EGuard_false (Jc @beq_self_eq_true.{0} (Jc @beq_true (Jc @beq_false (Jc @bne_self_eq_false.{0} (Jc @Fr.put_some (Jc @Fr.put_none (Jc @Qe (Jc @Qf (Jc @Qi (Jc @if_true.{0} (Jc @if_true.{1} (Jc @if_false.{0} (Jc @if_false.{1} (Jc @Option.map_some.{0,0} (Jc @Option.map_none.{0,0} (Jc @Option.bind_some.{0,0} (Jc @Option.bind_none.{0,0} (Jc @or_self (Jc @or_true (Jc @true_or (Jc @or_false (Jc @false_or (Jc @and_self (Jc @and_true (Jc @true_and (Jc @and_false (Jc @false_and (Jc @not_true_eq_false (Jc @not_false_eq_true (Jc @Bool.false_eq_true (Jc @Bool.true_eq_false (Jc @decide_eq_true_eq (Jc @decide_eq_false_iff_not (Jc @beq_iff_eq.{0} (Jc @bne_iff_ne.{0} (Jc @Bool.not_eq_true' (Jc @Bool.not_true (Jc @Bool.not_false (Jc @ne_eq.{0} (Jc @ne_eq.{1} (Jc @AV.solid_int (Jc @AV.one_int (Jc @AV.cells_int (Jc @AV.solid_bool (Jc @AV.one_bool (Jc @AV.cells_bool (Jc @AV.solid_str (Jc @AV.one_str (Jc @AV.cells_str (Jc @AV.solid_nilI (Jc @AV.one_nilI (Jc @AV.cells_nilI (Jc @AV.solid_ifc (Jc @AV.one_ifc (Jc @AV.cells_ifc (Jc @AV.solid_nilP (Jc @AV.one_nilP (Jc @AV.cells_nilP (Jc @AV.solid_ptr (Jc @AV.one_ptr (Jc @AV.cells_ptr (Jc @AV.solid_nilS (Jc @AV.one_nilS (Jc @AV.cells_nilS (Jc @AV.solid_sl (Jc @AV.one_sl (Jc @AV.cells_sl (Jc @AV.solid_sg (Jc @AV.one_sg (Jc @AV.cells_sg (Jc @AV.solid_fn (Jc @AV.one_fn (Jc @AV.cells_fn (Jc @AV.cells_agg (Jc @List.replicate_succ.{0} (Jc @List.replicate_zero.{0} (Jc @List.flatten_cons.{0} (Jc @List.flatten_nil.{0} (Jc @List.append_nil.{0} (Jc @List.nil_append.{0} (Jc @List.cons_append.{0} (Jc @List.take_succ_cons.{0} (Jc @List.take_zero.{0} (Jc @List.drop_succ_cons.{0} (Jc @List.drop_zero.{0} (Jc @List.length_cons.{0} (Jc @List.length_nil.{0} (Jc @List.all_cons.{0} (Jc @List.all_nil.{0} (Jc @Bool.and_true (Jc @Bool.true_and (Jc @Bool.and_self (Jc @Bool.or_true (Jc @Bool.true_or (Jc @Bool.or_false (Jc @Bool.false_or (Jc @Bool.and_false (Jc @Bool.false_and (Jc @Int.cast_ofNat_Int (Jc @Nat.min_def (Jc @Nat.zero_add (Jc @Vf (Jc @Ws (Jc @List.map_cons.{0,0} (Jc @List.map_nil.{0,0} (Jc @List.toList_toArray.{0} (Jc @List.getElem?_toArray.{0} (Jc @List.getElem?_cons_zero.{0} (@List.getElem?_cons_succ.{0})))))))))))))))))))))))))))))))))))))))))))))))))))))))))))))))))))))))))))))))))))))))))))))))))))))))))))))))))))))))
theorem RC : type_of% (Jc @Bool.not_eq_true' (Jc @Bool.not_eq_false' (Jc @decide_eq_true_eq (Jc @decide_eq_false_iff_not (Jc @beq_iff_eq.{0} (Jc @beq_eq_false_iff_ne.{0} (Jc @bne_iff_ne.{0} (Jc @bne_eq_false_iff_eq.{0} (Jc @Bool.false_eq_true (Jc @ne_eq.{0} (Jc @ne_eq.{1} (Jc @Decidable.not_not (Jc @Bool.not_eq_eq_eq_not (Jc @Bool.not_true (Jc @Bool.not_false (Jc @not_true_eq_false (@not_false_eq_true))))))))))))))))) := Jc @Bool.not_eq_true' (Jc @Bool.not_eq_false' (Jc @decide_eq_true_eq (Jc @decide_eq_false_iff_not (Jc @beq_iff_eq.{0} (Jc @beq_eq_false_iff_ne.{0} (Jc @bne_iff_ne.{0} (Jc @bne_eq_false_iff_eq.{0} (Jc @Bool.false_eq_true (Jc @ne_eq.{0} (Jc @ne_eq.{1} (Jc @Decidable.not_not (Jc @Bool.not_eq_eq_eq_not (Jc @Bool.not_true (Jc @Bool.not_false (Jc @not_true_eq_false (@not_false_eq_true))))))))))))))))
theorem RB : type_of% (Jc @Nat.mul_one (Jc @Nat.add_zero (Jc @Qm (Jc @G9 (Jc @V9 (Jc @Y1 (Jc @Int.toNat_natCast (@List.map_nil.{0,0})))))))) := Jc @Nat.mul_one (Jc @Nat.add_zero (Jc @Qm (Jc @G9 (Jc @V9 (Jc @Y1 (Jc @Int.toNat_natCast (@List.map_nil.{0,0})))))))
theorem RD : type_of% (Jc @Uz (Jc @Uc (Jc @Vf (Jc @Ws (Jc @set_push_at (Jc @G3 (Jc @Qm (Jc @selP (Jc @selN (Jc @optIf (Jc @optIfN (Jc @avP (Jc @avN (Jc @map_geti (Jc @splice_all (Jc @J1z (Jc @take_all (Jc @List.drop_zero.{0} (Jc @Nat.zero_add (Jc @Nat.add_zero (Jc @Nat.mul_one (Jc @G9 (Jc @V9 (Jc @AV.cells_agg (Jc @AV.cells_int (Jc @AV.solid_int (Jc @List.length_singleton.{0} (Jc @if_false.{0} (Jc @if_false.{1} (Jc @if_true.{0} (Jc @if_true.{1} (Jc @and_self (Jc @and_true (Jc @true_and (Jc @Y1 (Jc @List.length_set.{0} (Jc @Int.toNat_natCast (Jc @Option.map_some.{0,0} (@Option.map_none.{0,0}))))))))))))))))))))))))))))))))))))))) := Jc @Uz (Jc @Uc (Jc @Vf (Jc @Ws (Jc @set_push_at (Jc @G3 (Jc @Qm (Jc @selP (Jc @selN (Jc @optIf (Jc @optIfN (Jc @avP (Jc @avN (Jc @map_geti (Jc @splice_all (Jc @J1z (Jc @take_all (Jc @List.drop_zero.{0} (Jc @Nat.zero_add (Jc @Nat.add_zero (Jc @Nat.mul_one (Jc @G9 (Jc @V9 (Jc @AV.cells_agg (Jc @AV.cells_int (Jc @AV.solid_int (Jc @List.length_singleton.{0} (Jc @if_false.{0} (Jc @if_false.{1} (Jc @if_true.{0} (Jc @if_true.{1} (Jc @and_self (Jc @and_true (Jc @true_and (Jc @Y1 (Jc @List.length_set.{0} (Jc @Int.toNat_natCast (Jc @Option.map_some.{0,0} (@Option.map_none.{0,0}))))))))))))))))))))))))))))))))))))))
theorem RL : type_of% (Jc @List.length_append.{0} (Jc @List.length_cons.{0} (Jc @List.length_nil.{0} (Jc @Y1 (Jc @List.length_set.{0} (@List.length_replicate.{0})))))) := Jc @List.length_append.{0} (Jc @List.length_cons.{0} (Jc @List.length_nil.{0} (Jc @Y1 (Jc @List.length_set.{0} (@List.length_replicate.{0})))))
theorem RM : type_of% (Jc @List.length_append.{0} (Jc @List.length_cons.{0} (Jc @List.length_nil.{0} (Jc @Y1 (Jc @List.length_set.{0} (Jc @List.length_replicate.{0} (Jc @List.length_take.{0} (@List.length_drop.{0})))))))) := Jc @List.length_append.{0} (Jc @List.length_cons.{0} (Jc @List.length_nil.{0} (Jc @Y1 (Jc @List.length_set.{0} (Jc @List.length_replicate.{0} (Jc @List.length_take.{0} (@List.length_drop.{0})))))))
theorem RS : type_of% (Jc @optIf (Jc @optIfN (Jc @selP (Jc @selN (Jc @avP (@avN)))))) := Jc @optIf (Jc @optIfN (Jc @selP (Jc @selN (Jc @avP (@avN)))))
theorem RO : type_of% (Jc @AV.one_int (Jc @AV.one_bool (Jc @AV.one_str (Jc @AV.one_nilI (Jc @AV.one_ifc (Jc @AV.one_nilP (Jc @AV.one_ptr (Jc @AV.one_nilS (Jc @AV.one_sl (Jc @AV.one_sg (@AV.one_fn))))))))))) := Jc @AV.one_int (Jc @AV.one_bool (Jc @AV.one_str (Jc @AV.one_nilI (Jc @AV.one_ifc (Jc @AV.one_nilP (Jc @AV.one_ptr (Jc @AV.one_nilS (Jc @AV.one_sl (Jc @AV.one_sg (@AV.one_fn))))))))))
end Go.AL
namespace Go.PW
abbrev Bs : Int := 18446744073709551616
def val : List Int → Int
  | [] => 0
  | x :: xs => x + Bs * val xs
def dig : Nat → Int → List Int
  | 0, _ => []
  | n + 1, x => x % Bs :: dig n (x / Bs)
def Limbs (xs : List Int) : Prop := ∀ x ∈ xs, 0 ≤ x ∧ x < Bs
theorem Limbs.nil : Limbs [] := fun _ h => by cases h
theorem Limbs.cons {x : Int} {xs : List Int} : Limbs (x :: xs) ↔ (0 ≤ x ∧ x < Bs) ∧ Limbs xs := by
  simp [Limbs]
theorem Limbs.append {xs ys : List Int} : Limbs (xs ++ ys) ↔ Limbs xs ∧ Limbs ys := by
  simp only [Limbs, List.mem_append]
  exact ⟨fun h => ⟨fun x hx => h x (.inl hx), fun x hx => h x (.inr hx)⟩, fun h x hx => hx.elim (h.1 x) (h.2 x)⟩
theorem Limbs.take {xs : List Int} (h : Limbs xs) (n : Nat) : Limbs (xs.take n) := fun x hx => h x (List.mem_of_mem_take hx)
theorem Limbs.drop {xs : List Int} (h : Limbs xs) (n : Nat) : Limbs (xs.drop n) := fun x hx => h x (List.mem_of_mem_drop hx)
theorem Limbs.get {xs : List Int} (h : Limbs xs) (i : Nat) : 0 ≤ xs.getD i 0 ∧ xs.getD i 0 < Bs := by
  rw [List.getD_eq_getElem?_getD]
  cases hx : xs[i]? with
  | none => simp [Bs]
  | some x => exact h x (List.mem_of_getElem? hx)
theorem Xc (n : Nat) : 0 < Bs ^ n := Int.pow_pos (by decide)
theorem Gc : ∀ (xs ys : List Int), val (xs ++ ys) = val xs + Bs ^ xs.length * val ys
  | [], ys => by simp [val]
  | x :: xs, ys => by
    simp only [List.cons_append, val, List.length_cons, Gc xs ys, Int.pow_succ]
    grind
theorem Xa : ∀ {xs : List Int}, Limbs xs → 0 ≤ val xs ∧ val xs < Bs ^ xs.length
  | [], _ => by simp [val]
  | x :: xs, h => by
    obtain ⟨h1, h2⟩ := Limbs.cons.1 h
    have ih := Xa h2
    simp only [val, List.length_cons, Int.pow_succ]
    have hp := Xc xs.length
    generalize Bs ^ xs.length = p at *
    simp only [Bs] at *
    omega
theorem dig_length : ∀ (n : Nat) (x : Int), (dig n x).length = n
  | 0, _ => rfl
  | n + 1, x => by simp [dig, dig_length n]
theorem Xu : ∀ (n : Nat) (x : Int), Limbs (dig n x)
  | 0, _ => Limbs.nil
  | n + 1, x => Limbs.cons.2 ⟨⟨Int.emod_nonneg _ (by decide), Int.emod_lt_of_pos _ (by decide)⟩, Xu n _⟩
theorem emod_two {x m k : Int} (hm : 0 < m) : x % m + m * (x / m % k) = x % (m * k) := by
  rw [Int.emod_def x (m * k), Int.emod_def (x / m) k, Int.emod_def x m, ← Int.ediv_ediv_of_nonneg (Int.le_of_lt hm)]
  grind
theorem Uo : ∀ (n : Nat) (x : Int), val (dig n x) = x % Bs ^ n
  | 0, x => by simp [val, dig, Int.emod_one]
  | n + 1, x => by
    simp only [val, dig, Uo n, Int.pow_succ]
    have hp := Xc n
    have e : Bs ^ n * Bs = Bs * Bs ^ n := Int.mul_comm _ _
    rw [e, ← emod_two (by decide)]
theorem Ri : ∀ {xs : List Int}, Limbs xs → dig xs.length (val xs) = xs
  | [], _ => rfl
  | x :: xs, h => by
    obtain ⟨h1, h2⟩ := Limbs.cons.1 h
    simp only [List.length_cons, dig, val]
    rw [Int.add_mul_emod_self_left, Int.emod_eq_of_lt h1.1 h1.2, Int.add_mul_ediv_left _ _ (by decide), Int.ediv_eq_zero_of_lt h1.1 h1.2, Int.zero_add, Ri h2]
theorem dig_mod : ∀ (n : Nat) (x y : Int), x % Bs ^ n = y % Bs ^ n → dig n x = dig n y := by
  intro n x y h
  have h1 := Ri (Xu n x)
  have h2 := Ri (Xu n y)
  rw [dig_length, Uo] at h1 h2
  rw [← h1, ← h2, h]
theorem Ys {xs : List Int} {n : Nat} {x : Int} (hl : Limbs xs) (hn : xs.length = n) (hv : val xs = x % Bs ^ n) : xs = dig n x := by
  have := Ri hl
  rw [← this, hn, hv]
  exact dig_mod n _ _ (Int.emod_emod_of_dvd _ (Int.dvd_refl _))
theorem Zx (xs : List Int) (i : Nat) : val xs = val (xs.take i) + Bs ^ (min i xs.length) * val (xs.drop i) := by
  have := Gc (xs.take i) (xs.drop i)
  rw [List.take_append_drop, List.length_take] at this
  exact this
theorem take_succ_getD (xs : List Int) {i : Nat} (h : i < xs.length) : xs.take (i + 1) = xs.take i ++ [xs.getD i 0] := by
  rw [List.take_succ_eq_append_getElem h]
  simp [List.getD, h]
theorem Xb (xs : List Int) {i : Nat} (h : i < xs.length) : val (xs.take (i + 1)) = val (xs.take i) + Bs ^ i * xs.getD i 0 := by
  rw [take_succ_getD xs h, Gc, List.length_take, Nat.min_eq_left (by omega)]
  simp [val]
theorem J0u (xs : List Int) {i : Nat} (h : i < xs.length) : xs.drop i = xs.getD i 0 :: xs.drop (i + 1) := by
  rw [List.drop_eq_getElem_cons h]
  simp [List.getD, h]
theorem Y5 (xs : List Int) {i : Nat} (h : i < xs.length) : val (xs.drop i) = xs.getD i 0 + Bs * val (xs.drop (i + 1)) := by
  rw [J0u xs h]; rfl
theorem Yw (xs : List Int) {i : Nat} (h : i < xs.length) (y : Int) : val (xs.set i y) = val xs + Bs ^ i * (y - xs.getD i 0) := by
  induction xs generalizing i with
  | nil => simp at h
  | cons x xs ih =>
    cases i with
    | zero => simp only [List.set_cons_zero, val, Int.pow_zero, List.getD_cons_zero]; omega
    | succ i =>
      simp only [List.set_cons_succ, val, List.getD_cons_succ]
      rw [ih (by simpa using h), Int.pow_succ]
      grind
theorem Limbs.set {xs : List Int} (h : Limbs xs) (i : Nat) {y : Int} (hy : 0 ≤ y ∧ y < Bs) : Limbs (xs.set i y) := by
  intro x hx
  rcases List.mem_or_eq_of_mem_set hx with hx | rfl
  · exact h x hx
  · exact hy
theorem Kg (n : Nat) : val (List.replicate n 0) = 0 := by
  induction n with
  | zero => rfl
  | succ n ih => simp [List.replicate_succ, val, ih]
theorem Limbs.replicate (n : Nat) : Limbs (List.replicate n 0) := fun x hx => by
  rw [(List.mem_replicate.1 hx).2]; decide
theorem Xf (xs : List Int) {i : Nat} (y : Int) (h : i < xs.length) (j : Nat) : (xs.set i y).getD j 0 = if j = i then y else xs.getD j 0 := by
  rw [List.getD_eq_getElem?_getD, List.getElem?_set, List.getD_eq_getElem?_getD]
  by_cases e : i = j
  · subst e; simp [h]
  · rw [if_neg e, if_neg (fun h => e h.symm)]
theorem W8 : ∀ (n : Nat) (x : Int) (i : Nat), i < n → (dig n x).getD i 0 = x / Bs ^ i % Bs
  | n + 1, x, 0, _ => by simp [dig]
  | n + 1, x, i + 1, h => by
    simp only [dig, List.getD_cons_succ]
    rw [W8 n _ i (by omega), Int.ediv_ediv_of_nonneg (by decide), Int.pow_succ, Int.mul_comm]
end Go.PW
namespace Go.PW
theorem Uj {x y p q : Int} (hx : 0 ≤ x ∧ x ≤ p) (hy : 0 ≤ y ∧ y ≤ q) : 0 ≤ x * y ∧ x * y ≤ p * q :=
  ⟨Int.mul_nonneg hx.1 hy.1, Int.mul_le_mul hx.2 hy.2 hy.1 (Int.le_trans hx.1 hx.2)⟩
theorem mul_high {x y : Int} (hx : 0 ≤ x ∧ x < Bs) (hy : 0 ≤ y ∧ y < Bs) :
    let x0 := x % 4294967296; let x1 := x / 4294967296; let y0 := y % 4294967296; let y1 := y / 4294967296
    let T := (x1 * y0 % Bs + x0 * y0 % Bs / 4294967296) % Bs
    ((x1 * y1 % Bs + T / 4294967296) % Bs + (T % 4294967296 + x0 * y1 % Bs) % Bs / 4294967296) % Bs = x * y / Bs := by
  intro x0 x1 y0 y1 T
  have ex : x = x1 * 4294967296 + x0 := by simp only [x0, x1]; omega
  have ey : y = y1 * 4294967296 + y0 := by simp only [y0, y1]; omega
  have b0 : 0 ≤ x0 ∧ x0 ≤ 4294967295 := by simp only [x0]; omega
  have b1 : 0 ≤ x1 ∧ x1 ≤ 4294967295 := by simp only [x1, Bs] at *; omega
  have c0 : 0 ≤ y0 ∧ y0 ≤ 4294967295 := by simp only [y0]; omega
  have c1 : 0 ≤ y1 ∧ y1 ≤ 4294967295 := by simp only [y1, Bs] at *; omega
  have ha := Uj b0 c0
  have hb := Uj b1 c0
  have hc := Uj b0 c1
  have hd := Uj b1 c1
  have hxy : x * y = x1 * y1 * 18446744073709551616 + (x1 * y0 + x0 * y1) * 4294967296 + x0 * y0 := by
    rw [ex, ey]; grind
  rw [hxy]
  simp only [T]
  clear hxy ex ey T
  generalize x0 * y0 = a at *
  generalize x1 * y0 = b at *
  generalize x0 * y1 = c at *
  generalize x1 * y1 = d at *
  simp only [Bs]
  clear b0 b1 c0 c1 x0 x1 y0 y1 hx hy
  omega
def bl (n : Nat) : Nat := if n = 0 then 0 else Nat.log2 n + 1
theorem bl_lt (n : Nat) : n < 2 ^ bl n := by
  unfold bl
  split
  · rename_i h; rw [h]; decide
  · exact Nat.lt_log2_self
theorem bl_ge {n : Nat} (h : n ≠ 0) : 2 ^ (bl n - 1) ≤ n := by
  unfold bl
  rw [if_neg h]
  exact Nat.log2_self_le h
theorem bl_pos {n : Nat} (h : n ≠ 0) : 0 < bl n := by
  unfold bl; rw [if_neg h]; omega
theorem bl_uniq {n k : Nat} (h1 : 2 ^ k ≤ n) (h2 : n < 2 ^ (k + 1)) : bl n = k + 1 := by
  have hn : n ≠ 0 := by have := Nat.pow_pos (n := k) (a := 2) (by decide); omega
  unfold bl
  rw [if_neg hn]
  have a := (Nat.le_log2 hn (k := k)).2 h1
  have b := (Nat.log2_lt hn (k := k + 1)).2 h2
  omega
theorem bl_div {n k : Nat} (h : 2 ^ k ≤ n) : bl n = k + bl (n / 2 ^ k) := by
  have hp := Nat.pow_pos (n := k) (a := 2) (by decide)
  have hq : n / 2 ^ k ≠ 0 := by
    have := Nat.div_pos h hp
    omega
  have h1 := bl_ge hq
  have h2 := bl_lt (n / 2 ^ k)
  have h3 := bl_pos hq
  obtain ⟨m, hm⟩ : ∃ m, bl (n / 2 ^ k) = m + 1 := ⟨_, (Nat.succ_pred_eq_of_pos h3).symm⟩
  rw [hm] at h1 h2 ⊢
  rw [show k + (m + 1) = (k + m) + 1 by omega]
  apply bl_uniq
  · rw [Nat.pow_add, Nat.mul_comm]
    exact (Nat.le_div_iff_mul_le hp).1 h1
  · rw [show k + m + 1 = (m + 1) + k by omega, Nat.pow_add]
    exact (Nat.div_lt_iff_lt_mul hp).1 h2
theorem bl_le {n k : Nat} (h : n < 2 ^ k) : bl n ≤ k := by
  by_cases h0 : n = 0
  · subst h0; simp [bl]
  · have := bl_ge h0
    have h2 : 2 ^ (bl n - 1) < 2 ^ k := by omega
    have := (Nat.pow_lt_pow_iff_right (by decide : 1 < 2)).1 h2
    omega
end Go.PW
namespace Go.PW
theorem Gy {a b q : Int} (hb : 0 < b) (h : q * b ≤ a) : q ≤ a / b := (Int.le_ediv_iff_mul_le hb).2 h
theorem ediv_le {a b q : Int} (hb : 0 < b) (h : a < (q + 1) * b) : a / b ≤ q := by
  have := (Int.ediv_lt_iff_lt_mul hb).2 h
  omega
theorem ediv_eq {a b q : Int} (hb : 0 < b) (h1 : q * b ≤ a) (h2 : a < (q + 1) * b) : a / b = q := by
  have := Gy hb h1
  have := ediv_le hb h2
  omega
theorem ediv_mul_le' (a : Int) {b : Int} (hb : 0 < b) : a / b * b ≤ a := Int.ediv_mul_le a (by omega)
structure Dg (B y1 y0 u d q r : Int) : Prop where
  hb : 0 < B
  h1 : 0 < y1
  h2 : B ≤ 2 * y1
  h3 : 0 ≤ y0
  h4 : y0 < B
  h5 : 0 ≤ u
  h6 : u < y1 * B + y0
  h7 : 0 ≤ d
  h8 : d < B
  hr : u = q * y1 + r
  hq : (u * B + d) / (y1 * B + y0) ≤ q
  hm : q ≤ B + 1
section
variable {B y1 y0 u d q r : Int}
theorem Dg.pos (h : Dg B y1 y0 u d q r) : 0 < y1 * B + y0 := by
  have := Int.mul_pos h.h1 h.hb
  have := h.h3
  omega
theorem Dg.lt (h : Dg B y1 y0 u d q r) : (u * B + d) / (y1 * B + y0) < B := by
  rw [Int.ediv_lt_iff_lt_mul h.pos]
  have h1 : (u + 1) * B ≤ (y1 * B + y0) * B := Int.mul_le_mul_of_nonneg_right (by have := h.h6; omega) (by have := h.hb; omega)
  have := h.h8
  have e : (u + 1) * B = u * B + B := by grind
  have e2 : (y1 * B + y0) * B = B * (y1 * B + y0) := Int.mul_comm _ _
  omega
theorem Dg.nonneg (h : Dg B y1 y0 u d q r) : 0 ≤ (u * B + d) / (y1 * B + y0) := by
  have h1 := Int.mul_nonneg h.h5 (Int.le_of_lt h.hb)
  exact Int.ediv_nonneg (by have := h.h7; omega) (Int.le_of_lt h.pos)
theorem Dg.more (h : Dg B y1 y0 u d q r) (ht : B ≤ q ∨ B * r + d < q * y0) : (u * B + d) / (y1 * B + y0) ≤ q - 1 := by
  rcases ht with ht | ht
  · have := h.lt; omega
  · have : (u * B + d) / (y1 * B + y0) < q := by
      rw [Int.ediv_lt_iff_lt_mul h.pos]
      have := h.hr
      have e : q * (y1 * B + y0) = q * y1 * B + q * y0 := by grind
      have e2 : u * B = q * y1 * B + B * r := by rw [this]; grind
      omega
    omega
theorem Dg.next (h : Dg B y1 y0 u d q r) (ht : B ≤ q ∨ B * r + d < q * y0) : Dg B y1 y0 u d (q - 1) (r + y1) := by
  refine ⟨h.hb, h.h1, h.h2, h.h3, h.h4, h.h5, h.h6, h.h7, h.h8, ?_, h.more ht, by have := h.hm; omega⟩
  have := h.hr
  grind
theorem Dg.done (h : Dg B y1 y0 u d q r) (ht : q * y0 ≤ B * r + d) : q = (u * B + d) / (y1 * B + y0) := by
  have h1 := h.hq
  have h2 : q ≤ (u * B + d) / (y1 * B + y0) := by
    apply Gy h.pos
    have := h.hr
    have e : q * (y1 * B + y0) = q * y1 * B + q * y0 := by grind
    have e2 : u * B = q * y1 * B + B * r := by rw [this]; grind
    omega
  omega
theorem Dg.over (h : Dg B y1 y0 u d q r) (hq : q ≤ B) (hr : B ≤ r) : q = (u * B + d) / (y1 * B + y0) := by
  apply h.done
  have h0 := h.nonneg
  have h1 := h.hq
  have a : q * y0 ≤ B * (B - 1) := Int.mul_le_mul hq (by have := h.h4; omega) h.h3 (by have := h.hb; omega)
  have b : B * B ≤ B * r := Int.mul_le_mul_of_nonneg_left hr (Int.le_of_lt h.hb)
  have := h.h7
  have := h.hb
  rw [Int.mul_sub] at a
  omega
end
theorem Dg.start {B y1 y0 u d : Int} (hb : 0 < B) (h1 : B ≤ 2 * y1) (h0 : 0 ≤ y0) (h0' : y0 < B) (hu : 0 ≤ u) (hu' : u < y1 * B + y0) (hd : 0 ≤ d) (hd' : d < B) : Dg B y1 y0 u d (u / y1) (u % y1) := by
  have hy1 : 0 < y1 := by omega
  have hpos : 0 < y1 * B + y0 := by have := Int.mul_pos hy1 hb; omega
  refine ⟨hb, hy1, h1, h0, h0', hu, hu', hd, hd', ?_, ?_, ?_⟩
  · have := Int.emod_add_mul_ediv u y1
    rw [Int.mul_comm] at this
    omega
  · apply Gy hy1
    have h2 := ediv_mul_le' (u * B + d) hpos
    generalize (u * B + d) / (y1 * B + y0) = qt at *
    rcases Int.lt_or_le qt 0 with hn | hn
    · have := Int.mul_nonneg (a := -qt) (b := y1) (by omega) (Int.le_of_lt hy1)
      rw [Int.neg_mul] at this
      omega
    · have h3 : qt * y1 * B ≤ qt * (y1 * B + y0) := by
        have := Int.mul_nonneg hn h0
        have e : qt * (y1 * B + y0) = qt * y1 * B + qt * y0 := by grind
        omega
      have h4 : qt * y1 * B < (u + 1) * B := by
        have e : (u + 1) * B = u * B + B := by grind
        omega
      have := Int.lt_of_mul_lt_mul_right h4 (Int.le_of_lt hb)
      omega
  · apply ediv_le hy1
    have e : (B + 1 + 1) * y1 = y1 * B + 2 * y1 := by grind
    omega
theorem two_digits {B Y N1 d0 : Int} (hY : 0 < Y) (hB : 0 < B) : (N1 * B + d0) / Y = (N1 / Y) * B + (N1 % Y * B + d0) / Y ∧ (N1 * B + d0) % Y = (N1 % Y * B + d0) % Y := by
  have h := Int.emod_add_mul_ediv N1 Y
  have e : N1 * B + d0 = (N1 % Y * B + d0) + Y * (N1 / Y * B) := by
    conv => lhs; rw [← h]
    grind
  rw [e, Int.add_mul_ediv_left _ _ (by omega), Int.add_mul_emod_self_left]
  exact ⟨by omega, rfl⟩
end Go.PW
namespace Go.PW
theorem quo_le_guess {U3 V2 Ul Vl p : Int} (hp : 0 < p) (hV : 0 < V2) (hU : Ul < p) (hV0 : 0 ≤ Vl) (hU0 : 0 ≤ U3) (hUl : 0 ≤ Ul) : (U3 * p + Ul) / (V2 * p + Vl) ≤ U3 / V2 := by
  have hpos : 0 < V2 * p + Vl := by have := Int.mul_pos hV hp; omega
  apply Gy hV
  have h := ediv_mul_le' (U3 * p + Ul) hpos
  have hk : 0 ≤ (U3 * p + Ul) / (V2 * p + Vl) := Int.ediv_nonneg (by have := Int.mul_nonneg hU0 (Int.le_of_lt hp); omega) (Int.le_of_lt hpos)
  generalize (U3 * p + Ul) / (V2 * p + Vl) = k at *
  have h1 := Int.mul_nonneg hk hV0
  have h2 : k * V2 * p < (U3 + 1) * p := by grind
  have := Int.lt_of_mul_lt_mul_right h2 (Int.le_of_lt hp)
  omega
theorem guess_le {B U3 V2 Ul Vl p q : Int} (hp : 0 < p) (hB : B ≤ V2) (hB0 : 0 < B) (hU0 : 0 ≤ Ul) (hV0 : 0 ≤ Vl) (hV1 : Vl < p) (hq0 : 0 ≤ q) (hq : q ≤ B) (h : q * V2 ≤ U3) : q ≤ (U3 * p + Ul) / (V2 * p + Vl) + 1 := by
  have hV2 : 0 < V2 := by omega
  have hpos : 0 < V2 * p + Vl := by have := Int.mul_pos hV2 hp; omega
  have h1 : q - 1 ≤ (U3 * p + Ul) / (V2 * p + Vl) := by
    apply Gy hpos
    have a : q * V2 * p ≤ U3 * p := Int.mul_le_mul_of_nonneg_right h (Int.le_of_lt hp)
    have b : q * Vl ≤ B * p := Int.mul_le_mul hq (by omega) hV0 (by omega)
    have c : B * p ≤ V2 * p := Int.mul_le_mul_of_nonneg_right hB (Int.le_of_lt hp)
    have e : (q - 1) * (V2 * p + Vl) = q * V2 * p + q * Vl - V2 * p - Vl := by grind
    omega
  omega
theorem mul_step {c d t k : Int} (hc : 0 ≤ c ∧ c < Bs) (hd : 0 ≤ d ∧ d < Bs) (ht : 0 ≤ t ∧ t < Bs) (hk : 0 ≤ k ∧ k < Bs) :
    (c * d / Bs + (c * d % Bs + t + 0) / Bs) % Bs = c * d / Bs + (c * d % Bs + t + 0) / Bs ∧
    (c * d / Bs + (c * d % Bs + t + 0) / Bs + ((c * d % Bs + t + 0) % Bs + k + 0) / Bs) % Bs = c * d / Bs + (c * d % Bs + t + 0) / Bs + ((c * d % Bs + t + 0) % Bs + k + 0) / Bs ∧
    c * d + t + k = Bs * (c * d / Bs + (c * d % Bs + t + 0) / Bs + ((c * d % Bs + t + 0) % Bs + k + 0) / Bs) + ((c * d % Bs + t + 0) % Bs + k + 0) % Bs ∧
    0 ≤ c * d / Bs + (c * d % Bs + t + 0) / Bs + ((c * d % Bs + t + 0) % Bs + k + 0) / Bs ∧ c * d / Bs + (c * d % Bs + t + 0) / Bs + ((c * d % Bs + t + 0) % Bs + k + 0) / Bs < Bs := by
  have h := Uj (x := c) (y := d) (p := Bs - 1) (q := Bs - 1) ⟨hc.1, by omega⟩ ⟨hd.1, by omega⟩
  have e : (Bs - 1) * (Bs - 1) = 340282366920938463426481119284349108225 := by decide
  rw [e] at h
  generalize c * d = p at *
  simp only [Bs] at *
  omega
theorem take_step {q x c u b : Int} (hq : 0 ≤ q ∧ q < Bs) (hx : 0 ≤ x ∧ x < Bs) (hc : 0 ≤ c ∧ c < Bs) (hu : 0 ≤ u ∧ u < Bs) (hb : 0 ≤ b ∧ b ≤ 1) :
    (q * x / Bs + (q * x % Bs + c + 0) / Bs) % Bs = q * x / Bs + (q * x % Bs + c + 0) / Bs ∧
    (u - (q * x % Bs + c + 0) % Bs - b) % Bs + q * x + c = u - b + Bs * (if u < (q * x % Bs + c + 0) % Bs + b then 1 else 0) + Bs * (q * x / Bs + (q * x % Bs + c + 0) / Bs) ∧
    0 ≤ q * x / Bs + (q * x % Bs + c + 0) / Bs ∧ q * x / Bs + (q * x % Bs + c + 0) / Bs < Bs := by
  have h := Uj (x := q) (y := x) (p := Bs - 1) (q := Bs - 1) ⟨hq.1, by omega⟩ ⟨hx.1, by omega⟩
  have e : (Bs - 1) * (Bs - 1) = 340282366920938463426481119284349108225 := by decide
  rw [e] at h
  generalize q * x = p at *
  simp only [Bs] at *
  split <;> omega
theorem sub_step {x y b : Int} (hx : 0 ≤ x ∧ x < Bs) (hy : 0 ≤ y ∧ y < Bs) (hb : 0 ≤ b ∧ b ≤ 1) : (x - y - b) % Bs = x - y - b + Bs * (if x < y + b then 1 else 0) := by
  simp only [Bs] at *
  split <;> omega
theorem sum_step {x y c : Int} (hx : 0 ≤ x ∧ x < Bs) (hy : 0 ≤ y ∧ y < Bs) (hc : 0 ≤ c ∧ c ≤ 1) : (x + y + c) % Bs + Bs * ((x + y + c) / Bs) = x + y + c ∧ 0 ≤ (x + y + c) / Bs ∧ (x + y + c) / Bs ≤ 1 := by
  simp only [Bs] at *
  omega
end Go.PW
namespace Go.PW
theorem Wz {a b p : Int} (hp : 0 < p) : a * p % (b * p) = a % b * p := by
  rw [Int.mul_comm a p, Int.mul_comm b p, Int.mul_emod_mul_of_pos _ _ hp, Int.mul_comm]
theorem Ve {s : Nat} (hs : s ≤ 64) : (2 : Int) ^ s * 2 ^ (64 - s) = Bs := by
  rw [← Int.pow_add, show s + (64 - s) = 64 by omega]; decide
theorem Z0 (s : Nat) : (0 : Int) < 2 ^ s := Int.pow_pos (by decide)
theorem shl_split {x : Int} {s : Nat} (hs : s ≤ 64) (hx : 0 ≤ x) : x * 2 ^ s = x * 2 ^ s % Bs + Bs * (x / 2 ^ (64 - s)) ∧ x * 2 ^ s % Bs = x % 2 ^ (64 - s) * 2 ^ s := by
  have hp := Z0 s
  have hq := Z0 (64 - s)
  have h := Ve hs
  have e : Bs = 2 ^ (64 - s) * 2 ^ s := by rw [← h, Int.mul_comm]
  have e1 : x * 2 ^ s / Bs = x / 2 ^ (64 - s) := by rw [e, Int.mul_ediv_mul_of_pos_left _ _ hp]
  have e2 : x * 2 ^ s % Bs = x % 2 ^ (64 - s) * 2 ^ s := by rw [e, Wz hp]
  refine ⟨?_, e2⟩
  rw [← e1]
  have := Int.emod_add_mul_ediv (x * 2 ^ s) Bs
  omega
theorem shr_lt {x : Int} {s : Nat} (hs : s ≤ 64) (hx : x < Bs) : x / 2 ^ (64 - s) < 2 ^ s := by
  apply Int.ediv_lt_of_lt_mul (Z0 _)
  rw [Ve hs]; exact hx
theorem guess_start {B u2 u1 u0 v1 v0 : Int} (hB : 0 < B) (h2 : 0 ≤ u2) (h1 : 0 ≤ u1) (h0 : 0 ≤ u0) (h0' : u0 < B) (hv1 : 0 < v1) (hv0 : 0 ≤ v0) : ((u2 * B + u1) * B + u0) / (v1 * B + v0) ≤ (u2 * B + u1) / v1 :=
  quo_le_guess hB hv1 h0' hv0 (by have := Int.mul_nonneg h2 (Int.le_of_lt hB); omega) h0
theorem guess_done {B u2 u1 u0 v1 v0 q r : Int} (hB : 0 < B) (hv1 : 0 < v1) (hv0 : 0 ≤ v0) (hr : q * v1 + r = u2 * B + u1) (ht : q * v0 ≤ r * B + u0) : q ≤ ((u2 * B + u1) * B + u0) / (v1 * B + v0) := by
  have hpos : 0 < v1 * B + v0 := by have := Int.mul_pos hv1 hB; omega
  apply Gy hpos
  have e : q * (v1 * B + v0) = q * v1 * B + q * v0 := by grind
  have e2 : (u2 * B + u1) * B = q * v1 * B + r * B := by rw [← hr]; grind
  omega
theorem guess_more {B u2 u1 u0 v1 v0 q r : Int} (hB : 0 < B) (hv1 : 0 < v1) (hv0 : 0 ≤ v0) (hr : q * v1 + r = u2 * B + u1) (ht : r * B + u0 < q * v0) : ((u2 * B + u1) * B + u0) / (v1 * B + v0) ≤ q - 1 := by
  have hpos : 0 < v1 * B + v0 := by have := Int.mul_pos hv1 hB; omega
  have : ((u2 * B + u1) * B + u0) / (v1 * B + v0) < q := by
    rw [Int.ediv_lt_iff_lt_mul hpos]
    have e : q * (v1 * B + v0) = q * v1 * B + q * v0 := by grind
    have e2 : (u2 * B + u1) * B = q * v1 * B + r * B := by rw [← hr]; grind
    omega
  omega
theorem guess_test {p r u0 : Int} (hp : 0 ≤ p) (h0 : 0 ≤ u0 ∧ u0 < Bs) : (p / Bs < r ∨ p / Bs = r ∧ p % Bs ≤ u0) ↔ p ≤ r * Bs + u0 := by
  simp only [Bs] at *
  omega
theorem set_mid {α : Type} (a w b : List α) (i : Nat) (x : α) (h : i < w.length) : (a ++ w ++ b).set (a.length + i) x = a ++ w.set i x ++ b := by
  rw [List.append_assoc, List.set_append_right _ _ (by omega), show a.length + i - a.length = i by omega, List.set_append_left _ _ h, List.append_assoc]
theorem getD_mid (a w b : List Int) (i : Nat) (h : i < w.length) : (a ++ w ++ b).getD (a.length + i) 0 = w.getD i 0 := by
  rw [List.append_assoc, List.getD_eq_getElem?_getD, List.getElem?_append_right (by omega), show a.length + i - a.length = i by omega, List.getElem?_append_left h, ← List.getD_eq_getElem?_getD]
theorem split_mid {α : Type} (us : List α) {o k : Nat} (h : o + k ≤ us.length) : us = us.take o ++ (us.drop o).take k ++ us.drop (o + k) := by
  rw [List.append_assoc]
  have : (us.drop o).take k ++ us.drop (o + k) = us.drop o := by
    rw [← List.drop_drop, List.take_append_drop]
  rw [this, List.take_append_drop]
theorem top_le {xs ys : List Int} (hx : Limbs xs) (hy : Limbs ys) {m : Nat} (hlx : xs.length = m + 1) (hly : ys.length = m + 1) (h : val xs < val ys) : xs.getD m 0 ≤ ys.getD m 0 := by
  have a := Xb xs (i := m) (by omega)
  have b := Xb ys (i := m) (by omega)
  rw [List.take_of_length_le (by omega)] at a b
  have c := Xa (hx.take m)
  have d := Xa (hy.take m)
  rw [List.length_take, Nat.min_eq_left (by omega)] at c d
  rcases Int.lt_or_le (ys.getD m 0) (xs.getD m 0) with hlt | hle
  · exfalso
    have := Int.mul_le_mul_of_nonneg_left (show ys.getD m 0 + 1 ≤ xs.getD m 0 by omega) (Int.le_of_lt (Xc m))
    rw [Int.mul_add] at this
    omega
  · exact hle
theorem top_two {xs : List Int} {m : Nat} (hl : xs.length = m + 2) : val xs = (xs.getD (m + 1) 0 * Bs + xs.getD m 0) * Bs ^ m + val (xs.take m) := by
  have a := Xb xs (i := m + 1) (by omega)
  have b := Xb xs (i := m) (by omega)
  rw [List.take_of_length_le (by omega)] at a
  rw [Int.pow_succ] at a
  grind
theorem top_three {xs : List Int} {m : Nat} (hl : xs.length = m + 3) : val xs = ((xs.getD (m + 2) 0 * Bs + xs.getD (m + 1) 0) * Bs + xs.getD m 0) * Bs ^ m + val (xs.take m) := by
  have a := Xb xs (i := m + 2) (by omega)
  have b := Xb xs (i := m + 1) (by omega)
  have c := Xb xs (i := m) (by omega)
  rw [List.take_of_length_le (by omega)] at a
  rw [Int.pow_succ, Int.pow_succ] at a
  rw [Int.pow_succ] at b
  grind
theorem div_digit {U V B u : Int} (hV : 0 < V) (hu : 0 ≤ u) : (B * U + u) / V = B * (U / V) + (B * (U % V) + u) / V ∧ (B * U + u) % V = (B * (U % V) + u) % V := by
  have h := Int.emod_add_mul_ediv U V
  have e : B * U + u = (B * (U % V) + u) + V * (B * (U / V)) := by
    conv => lhs; rw [← h]
    grind
  rw [e, Int.add_mul_ediv_left _ _ (by omega), Int.add_mul_emod_self_left]
  exact ⟨by omega, rfl⟩
theorem shr_join {z : Int} {s : Nat} (hs : s ≤ 64) (hz : 0 ≤ z) : z % Bs / 2 ^ s + z / Bs % Bs * 2 ^ (64 - s) % Bs = z / 2 ^ s % Bs := by
  have hp := Z0 s
  have hq := Z0 (64 - s)
  have e : Bs = 2 ^ s * 2 ^ (64 - s) := (Ve hs).symm
  have h := Int.emod_add_mul_ediv z Bs
  have h1 : z / 2 ^ s = z % Bs / 2 ^ s + 2 ^ (64 - s) * (z / Bs) := by
    conv => lhs; rw [← h]
    rw [show z % Bs + Bs * (z / Bs) = z % Bs + 2 ^ s * (2 ^ (64 - s) * (z / Bs)) by rw [← Int.mul_assoc, ← e], Int.add_mul_ediv_left _ _ (by omega)]
  rw [h1]
  have h2 : 0 ≤ z % Bs / 2 ^ s := Int.ediv_nonneg (Int.emod_nonneg _ (by decide)) (by omega)
  have h3 : z % Bs / 2 ^ s < 2 ^ (64 - s) := by
    apply Int.ediv_lt_of_lt_mul hp
    rw [Int.mul_comm, ← e]
    exact Int.emod_lt_of_pos _ (by decide)
  have h4 : z / Bs % Bs * 2 ^ (64 - s) % Bs = z / Bs % 2 ^ s * 2 ^ (64 - s) := by
    generalize z / Bs = k
    rw [e, Wz hq, Int.emod_emod_of_dvd _ ⟨_, rfl⟩]
  have h5 : 2 ^ (64 - s) * (z / Bs) % Bs = z / Bs % 2 ^ s * 2 ^ (64 - s) := by
    generalize z / Bs = k
    rw [Int.mul_comm, e, Wz hq]
  rw [h4, Int.add_emod, h5]
  have h6 : z / Bs % 2 ^ s * 2 ^ (64 - s) ≤ (2 ^ s - 1) * 2 ^ (64 - s) := Int.mul_le_mul_of_nonneg_right (by have := Int.emod_lt_of_pos (z / Bs) hp; omega) (Int.le_of_lt hq)
  have h7 : 0 ≤ z / Bs % 2 ^ s * 2 ^ (64 - s) := Int.mul_nonneg (Int.emod_nonneg _ (by omega)) (Int.le_of_lt hq)
  rw [Int.sub_mul, ← e] at h6
  generalize z / Bs % 2 ^ s * 2 ^ (64 - s) = k at *
  generalize z % Bs / 2 ^ s = l at *
  generalize (2 : Int) ^ (64 - s) = t at *
  have h8 : t ≤ Bs := by
    have := Int.mul_le_mul_of_nonneg_right (show (1 : Int) ≤ 2 ^ s by omega) (Int.le_of_lt hq)
    omega
  rw [Int.emod_eq_of_lt h2 (by omega), Int.emod_eq_of_lt (by omega) (by omega)]
end Go.PW
namespace Go.PW
theorem take_val {p q y c z b x b' c' vz vt vw : Int} (hx : x + q * y + c = z - b + Bs * b' + Bs * c') (h : vz + q * vt = vw + p * (b + c)) : vz + p * (x - z) + q * (vt + p * y) = vw + p * Bs * (b' + c') := by
  have e : x - z = Bs * (b' + c') - q * y - c - b := by rw [Int.mul_add]; omega
  rw [e]
  generalize Bs = B at *
  grind
theorem take_last {p q c z b x b' vz V vw : Int} (hx : x = z - c - b + Bs * b') (h : vz + q * V = vw + p * (b + c)) : vz + p * (x - z) + q * V = vw + p * Bs * b' := by
  have e : x - z = Bs * b' - c - b := by omega
  rw [e]
  generalize Bs = B at *
  grind
theorem back_val {p y c z x c' vz vt v0 : Int} (hx : x + Bs * c' = z + y + c) (h : vz + p * c = v0 + vt) : vz + p * (x - z) + p * Bs * c' = v0 + (vt + p * y) := by
  have e : x - z = y + c - Bs * c' := by omega
  rw [e]
  generalize Bs = B at *
  grind
theorem back_last {p c z x t vz V v0 : Int} (hx : x + Bs * t = z + c) (h : vz + p * c = v0 + V) : vz + p * (x - z) = v0 + V - p * Bs * t := by
  have e : x - z = c - Bs * t := by omega
  rw [e]
  generalize Bs = B at *
  grind
theorem take_right {n V q v : Int} (hV : 0 < V) (hv : 0 ≤ v) (he : v + q * V = n) (hq : n / V ≤ q) : q = n / V ∧ v = n % V := by
  have h1 : q ≤ n / V := Gy hV (by omega)
  obtain rfl : q = n / V := by omega
  have := Int.emod_add_mul_ediv n V
  rw [Int.mul_comm] at this
  exact ⟨rfl, by omega⟩
theorem take_over {n V q v f P t : Int} (hV : 0 < V) (hVP : V ≤ P) (hv : v < P) (hf : 0 ≤ f ∧ f < P) (he : v + q * V = n + P) (hq : q ≤ n / V + 1) (hfe : f = v + V - P * t) : q - 1 = n / V ∧ f = n % V := by
  have h1 : n / V < q := by
    rw [Int.ediv_lt_iff_lt_mul hV]; omega
  have hq' : q - 1 = n / V := by omega
  have hm := Int.emod_add_mul_ediv n V
  rw [Int.mul_comm, ← hq', Int.sub_mul, Int.one_mul] at hm
  have hm0 := Int.emod_nonneg n (b := V) (by omega)
  have hm1 := Int.emod_lt_of_pos n hV
  refine ⟨hq', ?_⟩
  have hd : f = n % V + P * (1 - t) := by rw [Int.mul_sub]; omega
  rcases Int.lt_trichotomy (1 - t) 0 with h | h | h
  · have := Int.mul_le_mul_of_nonneg_left (show 1 - t ≤ -1 by omega) (show 0 ≤ P by omega)
    omega
  · rw [h] at hd; omega
  · have := Int.mul_le_mul_of_nonneg_left (show 1 ≤ 1 - t by omega) (show 0 ≤ P by omega)
    omega
end Go.PW
namespace Go.PW
structure DInv (n : Nat) (U V : Int) (k : Nat) (us qs : List Int) : Prop where
  ul : us.length = n + 1
  uL : Limbs us
  uv : val (us.drop k) = U / Bs ^ k % V
  ug : ∀ j, j < k → us.getD j 0 = U / Bs ^ j % Bs
  ql : qs.length = 16
  qL : Limbs qs
  qv : val qs = Bs ^ k * (U / Bs ^ k / V)
  qg : ∀ j, j < k → qs.getD j 0 = 0
theorem Vo {xs : List Int} (hx : Limbs xs) {m : Nat} (h : val xs < Bs ^ m) : val (xs.drop m) = 0 ∧ val (xs.take m) = val xs := by
  have h1 := Zx xs m
  have h2 := Xa (hx.take m)
  have h3 := Xa (hx.drop m)
  rcases Nat.lt_or_ge xs.length m with hl | hl
  · rw [List.drop_of_length_le (by omega), List.take_of_length_le (by omega)]
    exact ⟨rfl, rfl⟩
  · rw [Nat.min_eq_left hl] at h1
    rcases Int.lt_or_le 0 (val (xs.drop m)) with h0 | h0
    · have := Int.mul_le_mul_of_nonneg_left (show 1 ≤ val (xs.drop m) by omega) (Int.le_of_lt (Xc m))
      omega
    · have h4 : val (xs.drop m) = 0 := by omega
      rw [h4, Int.mul_zero] at h1
      exact ⟨h4, by omega⟩
section
variable {n m i : Nat} {U V : Int} {us qs : List Int}
theorem DInv.window (D : DInv n U V (i + 1) us qs) (hin : i + m ≤ n) (hV : 0 < V) (hVm : V < Bs ^ m) :
    ((us.drop i).take (m + 1)).length = m + 1 ∧ Limbs ((us.drop i).take (m + 1)) ∧ val (((us.drop i).take (m + 1)).drop 1) = U / Bs ^ (i + 1) % V ∧ val (us.drop (i + m + 1)) = 0 ∧
    val ((us.drop i).take (m + 1)) = Bs * (U / Bs ^ (i + 1) % V) + U / Bs ^ i % Bs := by
  have hl := D.ul
  have h1 : ((us.drop i).take (m + 1)).length = m + 1 := by rw [List.length_take, List.length_drop]; omega
  have h2 : Limbs ((us.drop i).take (m + 1)) := (D.uL.drop i).take _
  have hR : U / Bs ^ (i + 1) % V < Bs ^ m := by have := Int.emod_lt_of_pos (U / Bs ^ (i + 1)) hV; omega
  obtain ⟨z1, z2⟩ := Vo (D.uL.drop (i + 1)) (m := m) (by rw [D.uv]; exact hR)
  rw [List.drop_drop, show i + 1 + m = i + m + 1 by omega] at z1
  rw [D.uv] at z2
  have e : (us.drop i).take (m + 1) = us.getD i 0 :: (us.drop (i + 1)).take m := by rw [J0u us (by omega), List.take_succ_cons]
  refine ⟨h1, h2, ?_, z1, ?_⟩
  · rw [e]; simpa using z2
  · rw [e]
    simp only [val]
    rw [z2, D.ug i (by omega)]
    omega
theorem DInv.round (D : DInv n U V (i + 1) us qs) (hin : i + m ≤ n) (hV : 0 < V) (hVm : V < Bs ^ m) (hi : i < 16) (hU : 0 ≤ U) :
    0 ≤ val ((us.drop i).take (m + 1)) / V ∧ val ((us.drop i).take (m + 1)) / V < Bs ∧
    DInv n U V i (us.take i ++ dig (m + 1) (val ((us.drop i).take (m + 1)) % V) ++ us.drop (i + m + 1)) (qs.set i (val ((us.drop i).take (m + 1)) / V)) := by
  obtain ⟨h1, h2, h3, h4, h5⟩ := D.window hin hV hVm
  have hl := D.ul
  generalize hw : (us.drop i).take (m + 1) = w at *
  have hR0 := Int.emod_nonneg (U / Bs ^ (i + 1)) (b := V) (by omega)
  have hR1 := Int.emod_lt_of_pos (U / Bs ^ (i + 1)) hV
  have hu0 := Int.emod_nonneg (U / Bs ^ i) (b := Bs) (by decide)
  have hu1 := Int.emod_lt_of_pos (U / Bs ^ i) (b := Bs) (by decide)
  have hd0 : 0 ≤ val w / V := Int.ediv_nonneg (Xa h2).1 (by omega)
  have hd1 : val w / V < Bs := by
    rw [Int.ediv_lt_iff_lt_mul hV, h5]
    have := Int.mul_le_mul_of_nonneg_left (show U / Bs ^ (i + 1) % V + 1 ≤ V by omega) (show (0 : Int) ≤ Bs by decide)
    rw [Int.mul_add] at this
    omega
  have hsplit : U / Bs ^ i = Bs * (U / Bs ^ (i + 1)) + U / Bs ^ i % Bs := by
    have := Int.emod_add_mul_ediv (U / Bs ^ i) Bs
    have hps : Bs ^ (i + 1) = Bs ^ i * Bs := Int.pow_succ ..
    rw [Int.ediv_ediv_of_nonneg (Int.le_of_lt (Xc i)), ← hps] at this
    omega
  obtain ⟨g1, g2⟩ := div_digit (U := U / Bs ^ (i + 1)) (V := V) (B := Bs) (u := U / Bs ^ i % Bs) hV hu0
  rw [← hsplit, ← h5] at g1 g2
  have hmod0 := Int.emod_nonneg (val w) (b := V) (by omega)
  have hmod1 := Int.emod_lt_of_pos (val w) hV
  have hpl : (us.take i).length = i := by rw [List.length_take]; omega
  have hVm1 : V ≤ Bs ^ (m + 1) := by
    rw [Int.pow_succ]
    have := Int.mul_le_mul_of_nonneg_left (show 1 ≤ Bs by decide) (Int.le_of_lt (Xc m))
    omega
  have hdv : val (dig (m + 1) (val w % V)) = val w % V := by rw [Uo, Int.emod_eq_of_lt hmod0 (by omega)]
  refine ⟨hd0, hd1, ⟨?_, ?_, ?_, ?_, ?_, D.qL.set i ⟨hd0, hd1⟩, ?_, ?_⟩⟩
  · simp only [List.length_append, hpl, dig_length, List.length_drop]; omega
  · exact Limbs.append.2 ⟨Limbs.append.2 ⟨D.uL.take i, Xu _ _⟩, D.uL.drop _⟩
  · rw [List.append_assoc, List.drop_append_of_le_length (by omega), List.drop_of_length_le (by omega), List.nil_append, Gc, hdv, h4, Int.mul_zero, Int.add_zero, g2]
  · intro j hj
    have e : (us.take i ++ dig (m + 1) (val w % V) ++ us.drop (i + m + 1)).getD j 0 = us.getD j 0 := by
      rw [List.append_assoc, List.getD_eq_getElem?_getD, List.getElem?_append_left (by omega), List.getElem?_take_of_lt hj, ← List.getD_eq_getElem?_getD]
    rw [e]; exact D.ug j (by omega)
  · rw [List.length_set]; exact D.ql
  · rw [Yw _ (by rw [D.ql]; exact hi), D.qv, D.qg i (by omega), g1, Int.pow_succ, Int.sub_zero, Int.mul_assoc, Int.mul_add]
  · intro j hj
    rw [Xf _ _ (by rw [D.ql]; exact hi), if_neg (by omega)]
    exact D.qg j (by omega)
end
theorem DInv.start {n m : Nat} {X V : Int} {s : Nat} {qs : List Int} (hq : qs = dig 16 0) (hm : 0 < m) (hmn : m ≤ n) (hs : s < 64) (hX0 : 0 ≤ X) (hX : X < Bs ^ n) (hV : Bs ^ (m - 1) * 2 ^ s ≤ V) : DInv n (X * 2 ^ s) V (n - m + 1) (dig (n + 1) (X * 2 ^ s)) qs := by
  have hU0 : 0 ≤ X * 2 ^ s := Int.mul_nonneg hX0 (Int.le_of_lt (Z0 s))
  have hp := Xc (n - m + 1)
  have hU : X * 2 ^ s / Bs ^ (n - m + 1) < V := by
    rw [Int.ediv_lt_iff_lt_mul hp]
    have h1 := Int.mul_lt_mul_of_pos_right hX (Z0 s)
    have h2 : Bs ^ n * 2 ^ s = Bs ^ (m - 1) * 2 ^ s * Bs ^ (n - m + 1) := by
      rw [show Bs ^ n = Bs ^ (m - 1) * Bs ^ (n - m + 1) by rw [← Int.pow_add]; congr 1; omega, Int.mul_assoc, Int.mul_assoc, Int.mul_comm (Bs ^ (n - m + 1))]
    have h3 := Int.mul_le_mul_of_nonneg_right hV (Int.le_of_lt hp)
    omega
  have hUq : 0 ≤ X * 2 ^ s / Bs ^ (n - m + 1) := Int.ediv_nonneg hU0 (Int.le_of_lt hp)
  have h2s : (2 : Int) ^ s ≤ Bs := by
    have h := Ve (s := s) (by omega)
    have h2 := Z0 (64 - s)
    have := Int.mul_le_mul_of_nonneg_left (show (1 : Int) ≤ 2 ^ (64 - s) by omega) (Int.le_of_lt (Z0 s))
    omega
  have hUn : X * 2 ^ s < Bs ^ (n + 1) := by
    rw [Int.pow_succ]
    have h1 := Int.mul_lt_mul_of_pos_right hX (Z0 s)
    have h2 := Int.mul_le_mul_of_nonneg_left h2s (Int.le_of_lt (Xc n))
    omega
  subst hq
  refine ⟨dig_length _ _, Xu _ _, ?_, fun j hj => W8 _ _ _ (by omega), dig_length _ _, Xu _ _, ?_, ?_⟩
  · rw [Int.emod_eq_of_lt hUq hU]
    have h := Zx (dig (n + 1) (X * 2 ^ s)) (n - m + 1)
    rw [dig_length, Nat.min_eq_left (by omega), Uo, Int.emod_eq_of_lt hU0 hUn] at h
    have hb := Xa ((Xu (n + 1) (X * 2 ^ s)).take (n - m + 1))
    rw [List.length_take, dig_length, Nat.min_eq_left (by omega)] at hb
    rw [Int.mul_comm (Bs ^ (n - m + 1))] at h
    exact (ediv_eq (q := val ((dig (n + 1) (X * 2 ^ s)).drop (n - m + 1))) hp (by omega) (by rw [Int.add_mul]; omega)).symm
  · rw [Int.ediv_eq_zero_of_lt hUq hU, Uo]; simp
  · intro j hj
    rcases Nat.lt_or_ge j 16 with h | h
    · rw [W8 16 0 j h]; simp
    · simp [List.getD, List.getElem?_eq_none (show (dig 16 0).length ≤ j by rw [dig_length]; exact h)]
theorem guess_right {w vs : List Int} {m : Nat} (hw : Limbs w) (hv : Limbs vs) (hwl : w.length = m + 3) (hvl : vs.length = m + 2) (hlt : val (w.drop 1) < val vs) (hv1 : 0 < vs.getD (m + 1) 0) :
    w.getD (m + 2) 0 ≤ vs.getD (m + 1) 0 ∧
    val w / val vs ≤ min (Bs - 1) (((w.getD (m + 2) 0 * Bs + w.getD (m + 1) 0) * Bs + w.getD m 0) / (vs.getD (m + 1) 0 * Bs + vs.getD m 0)) ∧
    min (Bs - 1) (((w.getD (m + 2) 0 * Bs + w.getD (m + 1) 0) * Bs + w.getD m 0) / (vs.getD (m + 1) 0 * Bs + vs.getD m 0)) ≤ val w / val vs + 1 := by
  have hp := Xc m
  have w2 := hw.get (m + 2)
  have w1 := hw.get (m + 1)
  have w0 := hw.get m
  have v1 := hv.get (m + 1)
  have v0 := hv.get m
  have hwt := Xa (hw.take m)
  have hvt := Xa (hv.take m)
  rw [List.length_take, Nat.min_eq_left (by omega)] at hwt hvt
  have htop := top_le (hw.drop 1) hv (m := m + 1) (by rw [List.length_drop]; omega) (by omega) hlt
  have hg : (w.drop 1).getD (m + 1) 0 = w.getD (m + 2) 0 := by
    rw [List.getD_eq_getElem?_getD, List.getElem?_drop, List.getD_eq_getElem?_getD]; congr 2; omega
  rw [hg] at htop
  have ew := top_three hwl
  have ev := top_two hvl
  have hVpos : 0 < val vs := by have := (Xa (hw.drop 1)).1; omega
  have hwd := Y5 w (i := 0) (by omega)
  rw [List.drop_zero] at hwd
  have hw00 := hw.get 0
  have hqB : val w / val vs ≤ Bs - 1 := by
    have : val w / val vs < Bs := by
      rw [Int.ediv_lt_iff_lt_mul hVpos, hwd]
      have := Int.mul_le_mul_of_nonneg_left (show val (w.drop (0 + 1)) + 1 ≤ val vs from hlt) (show (0 : Int) ≤ Bs by decide)
      rw [Int.mul_add] at this
      omega
    omega
  refine ⟨htop, ?_, ?_⟩
  · have : val w / val vs ≤ ((w.getD (m + 2) 0 * Bs + w.getD (m + 1) 0) * Bs + w.getD m 0) / (vs.getD (m + 1) 0 * Bs + vs.getD m 0) := by
      rw [ew, ev]
      exact quo_le_guess hp (by simp only [Bs] at *; omega) hwt.2 hvt.1 (by simp only [Bs] at *; omega) hwt.1
    omega
  · generalize hT : ((w.getD (m + 2) 0 * Bs + w.getD (m + 1) 0) * Bs + w.getD m 0) / (vs.getD (m + 1) 0 * Bs + vs.getD m 0) = T
    have hT0 : 0 ≤ T := by rw [← hT]; exact Int.ediv_nonneg (by simp only [Bs] at *; omega) (by simp only [Bs] at *; omega)
    have hV2 : 0 < vs.getD (m + 1) 0 * Bs + vs.getD m 0 := by simp only [Bs] at *; omega
    have hTV : T * (vs.getD (m + 1) 0 * Bs + vs.getD m 0) ≤ (w.getD (m + 2) 0 * Bs + w.getD (m + 1) 0) * Bs + w.getD m 0 := by rw [← hT]; exact ediv_mul_le' _ hV2
    have hmm : min (Bs - 1) T * (vs.getD (m + 1) 0 * Bs + vs.getD m 0) ≤ T * (vs.getD (m + 1) 0 * Bs + vs.getD m 0) := Int.mul_le_mul_of_nonneg_right (by omega) (Int.le_of_lt hV2)
    have hB0 : (0 : Int) < Bs := by decide
    rw [ew, ev]
    exact guess_le (B := Bs) hp (by simp only [Bs] at *; omega) (by decide) hwt.1 hvt.1 hvt.2 (by omega) (by omega) (by omega)
end Go.PW

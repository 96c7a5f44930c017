/- Part 9 of the proof of laws of this seat: lemmas on the model's code, on this program's functions, on numbers. No condition. -/
import Derived.Test.YtigddjlhncnnoaaGreatDoorZGah
set_option linter.unusedVariables false
set_option linter.unusedSimpArgs false
open Nat renaming reduceEqDiff → J0, reduceLeDiff → J1, reduceMul → J2, reduceAdd → J3, reduceSub → J4, reduceLT → J5
open Int renaming reduceToNat → J6, reducePow → J7, reduceNeg → J8, reduceLT → J9, reduceLE → Ja, reduceEq → Jb
open And renaming intro → Jc
open Go.IntKind renaming bits → Jd
namespace Go.AL
open Go.RowKit
structure FA where
  i : Nat
  t : Tmp
  b : Blk
inductive SI where
  | one (i : Nat)
  | pur (i : Nat)
  | ext (i : Nat)
section
variable (P : Program) (ops : Array Oper) (K : Fr → Hp → Prop) (n0 : Nat) (F : List FA) (p : Plan)
def SFin : List FA → List Nat → Fr → Hp → Prop
  | [], _, fr, H => AOrd P ops K p fr H
  | f :: G, acc, fr, H => ∀ h, n0 ≤ h → (∀ g ∈ acc, h ≠ g) → X3 H h = some f.b → SFin G (h :: acc) (fr.put (some f.t) (.ptr h 0)) H
def SRun : List SI → Fr → Hp → Prop
  | [], fr, H => ∀ H2, (∃ E, H2 = H ++ E) → SFin P ops K n0 p F [] fr H2
  | .one i :: s, fr, H => V9 P ops i fr H (SRun s)
  | .pur i :: s, fr, H => AStepS P ops i fr H (SRun s)
  | .ext i :: s, fr, H => ∀ H2, (∃ E, H2 = H ++ E) → V9 P ops i fr H2 fun fr1 H1 => (∃ E, H1 = H2 ++ E) ∧ SRun s fr1 H1
end
def FOk (P : Program) (ops : Array Oper) (f : FA) : Prop := ∃ o, ops[f.i]? = some o ∧ o.dst = some f.t ∧ o.guard = none ∧ ∃ ty z, o.op = .alloc ty ∧ Z2 P ty = some z ∧ z.solid = true ∧ f.b = ⟨z.cells, .own, ty⟩
def Agr (F : List FA) (fs fa : Fr) : Prop := ∀ t, (∀ f ∈ F, t ≠ f.t) → fa t = fs t
def apartF (ops : Array Oper) (F : List FA) (i : Nat) : Bool :=
  match ops[i]? with
  | some o => F.all fun f => !(o.looksAt ops).contains f.t && o.dst != some f.t
  | none => false
def Yj (a : Array Bool) (d : List Nat) : Array Bool := d.foldl (fun a j => a.setIfInBounds j true) a
def SI.ok (P : Program) (ops : Array Oper) (M : Nat → Bool) (F : List FA) (p : Plan) : List SI → Nat → Array Bool → Bool
  | [], n, base => decide (F.length ≤ n) && (F.all fun f => (Region.ready .any ops (Yj base ((F.map (·.i)).filter (· != f.i)))).all (· == f.i)) && p.ok P ops M (n - F.length) [] (Yj base (F.map (·.i)))
  | .one i :: s, 0, base => false
  | .one i :: s, n + 1, base => (Region.ready .any ops base).contains i && free P ops M base i && apartF ops F i && (match ops[i]? with | some o => Gc P o.op | none => false) && !(F.map (·.i)).contains i && SI.ok P ops M F p s n (base.setIfInBounds i true)
  | .pur i :: s, 0, base => false
  | .pur i :: s, n + 1, base => (Region.ready .any ops base).contains i && freeS P ops M base i (Kz ops i) && apartF ops F i && !(F.map (·.i)).contains i && SI.ok P ops M F p s n (base.setIfInBounds i true)
  | .ext i :: s, 0, base => false
  | .ext i :: s, n + 1, base => (Region.ready .any ops base).contains i && ((Region.ready .any ops (Yj base (F.map (·.i)))).all (· == i)) && apartF ops F i && !(F.map (·.i)).contains i && SI.ok P ops M F p s n (base.setIfInBounds i true)
def FA.ok (P : Program) (ops : Array Oper) (M : Nat → Bool) (F : List FA) : Bool :=
  (F.all fun f => !(M f.i) && (match ops[f.i]? with | some o => o.after.all (fun e => !Region.binds .any e) | none => false)) && decide ((F.map (·.i)).Nodup) && decide ((F.map (·.t)).Nodup)
theorem Agr.put {F : List FA} {fs fa : Fr} (h : Agr F fs fa) (d : Option Tmp) (v : AV) : Agr F (fs.put d v) (fa.put d v) := by
  intro t ht
  cases d with
  | none => exact h t ht
  | some d =>
    simp only [Fr.put]
    split
    · rfl
    · exact h t ht
theorem ev_agr {ops : Array Oper} {F : List FA} {fs fa : Fr} {o : Oper} (a : Agr F fs fa) (h : ∀ f ∈ F, f.t ∉ o.looksAt ops) : ∀ x ∈ o.op.operands, ev fa x = ev fs x := by
  intro x hx
  cases x with
  | tmp t => exact a t fun f hf e => looks_op (h f hf) _ hx (by rw [e])
  | _ => rfl
theorem wanted_agr {ops : Array Oper} {F : List FA} {fs fa : Fr} {o : Oper} (a : Agr F fs fa) (h : ∀ f ∈ F, f.t ∉ o.looksAt ops) : Jp ops fa o = Jp ops fs o := by
  unfold Jp
  cases hg : o.guard with
  | none => rfl
  | some g =>
    obtain ⟨j, want⟩ := g
    simp only
    cases hd : (ops[j]?).bind (·.dst) with
    | none => rfl
    | some d' =>
      have : fa d' = fs d' := a d' fun f hf e => h f hf (by
        rw [← e]
        unfold Oper.looksAt
        refine List.mem_append_right _ ?_
        simp [hg, hd])
      simp only [this]
theorem AStep1.cong {P : Program} {ops : Array Oper} {F : List FA} {o : Oper} {fs fa : Fr} {H : Hp} {X : Fr → Hp → Prop} (a : Agr F fs fa) (hl : ∀ f ∈ F, f.t ∉ o.looksAt ops) (h : AStep1 P ops o fs H X) :
    AStep1 P ops o fa H fun fr1 H1 => ∃ u, fr1 = fa.put o.dst u ∧ X (fs.put o.dst u) H1 := by
  have hop := ev_agr a hl
  have hog := wanted_agr a hl
  unfold AStep1 Uf Uo Wc at h ⊢
  rw [hog, Nf (fr' := fs) hop, G5 (fr' := fs) hop]
  split at h
  · rename_i t hw
    cases t
    · simp only [Bool.false_eq_true, if_false] at h ⊢
      exact ⟨_, rfl, h⟩
    · simp only [if_true] at h ⊢
      split at h
      · exact h.mono fun r H' hx => ⟨r, rfl, hx⟩
      · split at h
        · exact ⟨_, rfl, h⟩
        · exact h.elim
  · exact h.elim
theorem ASure.cong {P : Program} {ops : Array Oper} {F : List FA} {o : Oper} {fs fa : Fr} {H H' : Hp} {v : AV} (a : Agr F fs fa) (hl : ∀ f ∈ F, f.t ∉ o.looksAt ops) (he : ∃ E, H' = H ++ E) (h : ASure P ops o fs H v) : ASure P ops o fa H' v := by
  have hop := ev_agr a hl
  have hog := wanted_agr a hl
  have hx : ∀ H'', (∃ E, H'' = H' ++ E) → ∃ E, H'' = H ++ E := by
    rintro _ ⟨E, rfl⟩
    obtain ⟨E', rfl⟩ := he
    exact ⟨E' ++ E, by rw [List.append_assoc]⟩
  unfold ASure at h ⊢
  rw [hog]
  split at h
  · rw [Nf (fr' := fs) hop]
    split at h
    · exact fun H'' h2 => h H'' (hx H'' h2)
    · exact fun H'' h2 => by rw [G5 (fr' := fs) hop]; exact h H'' (hx H'' h2)
  · exact h
  · exact h.elim
theorem set_getD_true {a : Array Bool} {j k : Nat} {d : Bool} : (a.setIfInBounds j true).getD k d = if k = j ∧ k < a.size then true else a.getD k d := by
  rw [Array.getD_eq_getD_getElem?, Array.getD_eq_getD_getElem?]
  by_cases h : k = j
  · subst h
    by_cases hl : k < a.size
    · rw [Array.getElem?_setIfInBounds_self, if_pos hl, if_pos ⟨rfl, hl⟩]; rfl
    · rw [Array.getElem?_setIfInBounds_self, if_neg hl, if_neg (fun h => hl h.2)]
      simp [hl]
  · rw [Array.getElem?_setIfInBounds_ne (Ne.symm h), if_neg (fun x => h x.1)]
theorem setAll_size : ∀ (d : List Nat) (a : Array Bool), (Yj a d).size = a.size
  | [], a => rfl
  | j :: d, a => by
    show (Yj (a.setIfInBounds j true) d).size = a.size
    rw [setAll_size d]; simp
theorem Vf : ∀ (d : List Nat) (a : Array Bool) (k : Nat) (x : Bool), (Yj a d).getD k x = if k ∈ d ∧ k < a.size then true else a.getD k x
  | [], a, k, x => by simp [Yj]
  | j :: d, a, k, x => by
    show (Yj (a.setIfInBounds j true) d).getD k x = _
    rw [Vf d, set_getD_true, Array.size_setIfInBounds]
    by_cases hl : k < a.size
    · by_cases h1 : k = j
      · subst h1; simp [hl]
      · simp [h1, hl]
    · simp [hl]
theorem Gt : ∀ (d : List Nat) (a : Array Bool) (i : Nat), Yj (a.setIfInBounds i true) d = (Yj a d).setIfInBounds i true
  | [], a, i => rfl
  | j :: d, a, i => by
    show Yj ((a.setIfInBounds i true).setIfInBounds j true) d = (Yj (a.setIfInBounds j true) d).setIfInBounds i true
    by_cases h : i = j
    · subst h; exact Gt d _ _
    · rw [Array.setIfInBounds_comm _ _ h, Gt d]
theorem Rz {ops : Array Oper} {a b : Array Bool} {j : Nat} (hj : j ∈ Region.ready .any ops a) (h : ∀ k, a.getD k false = true → b.getD k false = true) (hb : b.getD j true = false) : j ∈ Region.ready .any ops b := by
  rw [mem_ready] at hj ⊢
  obtain ⟨_, o, ho, hall⟩ := hj
  exact ⟨hb, o, ho, fun e he hx => h _ (hall e he hx)⟩
theorem setAll_more {a : Array Bool} {d e : List Nat} (h : ∀ x ∈ d, x ∈ e) (k : Nat) (hk : (Yj a d).getD k false = true) : (Yj a e).getD k false = true := by
  rw [Vf] at hk ⊢
  split at hk
  · rename_i hx; rw [if_pos ⟨h k hx.1, hx.2⟩]
  · split
    · rfl
    · exact hk
theorem setAll_base {a : Array Bool} {d : List Nat} {k : Nat} (hk : a.getD k false = true) : (Yj a d).getD k false = true := by
  rw [Vf]
  split
  · rfl
  · exact hk
theorem Ws {a : Array Bool} {d : List Nat} {k : Nat} {x : Bool} (h : k ∉ d) : (Yj a d).getD k x = a.getD k x := by
  rw [Vf, if_neg (fun y => h y.1)]
theorem SFin.use {P : Program} {ops : Array Oper} {K : Fr → Hp → Prop} {n0 : Nat} {p : Plan} {fa : Fr} {H : Hp} : ∀ (G : List FA) (acc : List Nat) (fr : Fr), SFin P ops K n0 p G acc fr H →
    (∀ f ∈ G, ∃ h, n0 ≤ h ∧ fa f.t = .ptr h 0 ∧ X3 H h = some f.b ∧ h ∉ acc) → G.Pairwise (fun f g => fa f.t ≠ fa g.t) → Agr G fr fa → AOrd P ops K p fa H
  | [], acc, fr, h, _, _, a => by
    have : fa = fr := funext fun t => a t fun f hf => (by cases hf)
    rw [this]; exact h
  | f :: G, acc, fr, h, hx, hd, a => by
    obtain ⟨k, hn, hk, hg, hacc⟩ := hx f (List.mem_cons_self ..)
    have hd' := List.pairwise_cons.1 hd
    refine SFin.use G (k :: acc) _ (h k hn (fun g hgm e => hacc (e ▸ hgm)) hg) (fun g hgm => ?_) hd'.2 (fun t ht => ?_)
    · obtain ⟨k', hn', hk', hg', hacc'⟩ := hx g (List.mem_cons_of_mem _ hgm)
      refine ⟨k', hn', hk', hg', fun hm => ?_⟩
      rcases List.mem_cons.1 hm with e | e
      · exact hd'.1 g hgm (by rw [hk, hk', e])
      · exact hacc' e
    · simp only [Fr.put]
      by_cases e : t = f.t
      · rw [if_pos e, e, hk]
      · rw [if_neg e]
        refine a t fun g hg => ?_
        rcases List.mem_cons.1 hg with rfl | hg
        · exact e
        · exact ht g hg
theorem nodup_inj {α β : Type} (φ : α → β) : ∀ (l : List α), (l.map φ).Nodup → ∀ f ∈ l, ∀ g ∈ l, φ f = φ g → f = g
  | [], _, f, hf, _, _, _ => by cases hf
  | a :: l, hn, f, hf, g, hg, e => by
    rw [List.map_cons, List.nodup_cons] at hn
    rcases List.mem_cons.1 hf with h1 | h1 <;> rcases List.mem_cons.1 hg with h2 | h2
    · rw [h1, h2]
    · exact absurd (by rw [← h1, e]; exact List.mem_map_of_mem (f := φ) h2) hn.1
    · exact absurd (by rw [← h2, ← e]; exact List.mem_map_of_mem (f := φ) h1) hn.1
    · exact nodup_inj φ l hn.2 f h1 g h2 e
theorem nodup_le : ∀ (l m : List Nat), l.Nodup → (∀ x ∈ l, x ∈ m) → l.length ≤ m.length
  | [], m, _, _ => Nat.zero_le _
  | a :: l, m, hn, h => by
    rw [List.nodup_cons] at hn
    have ha := h a (List.mem_cons_self ..)
    have := nodup_le l (m.erase a) hn.2 fun x hx => (List.mem_erase_of_ne (fun e : x = a => hn.1 (by rw [← e]; exact hx))).2 (h x (List.mem_cons_of_mem _ hx))
    rw [List.length_erase_of_mem ha] at this
    have := List.length_pos_of_mem ha
    simp only [List.length_cons]; omega
theorem SI.ok_len {P : Program} {ops : Array Oper} {M : Nat → Bool} {F : List FA} {p : Plan} : ∀ (s : List SI) (n : Nat) (base : Array Bool), SI.ok P ops M F p s n base = true → s.length + F.length ≤ n
  | [], n, base, h => by simp only [SI.ok, Bool.and_eq_true, decide_eq_true_eq] at h; simp; omega
  | .one i :: s, 0, base, h => by simp [SI.ok] at h
  | .one i :: s, n + 1, base, h => by
    simp only [SI.ok, Bool.and_eq_true] at h
    have := SI.ok_len s n _ h.2
    simp only [List.length_cons]; omega
  | .pur i :: s, 0, base, h => by simp [SI.ok] at h
  | .pur i :: s, n + 1, base, h => by
    simp only [SI.ok, Bool.and_eq_true] at h
    have := SI.ok_len s n _ h.2
    simp only [List.length_cons]; omega
  | .ext i :: s, 0, base, h => by simp [SI.ok] at h
  | .ext i :: s, n + 1, base, h => by
    simp only [SI.ok, Bool.and_eq_true] at h
    have := SI.ok_len s n _ h.2
    simp only [List.length_cons]; omega
theorem apartF_spec {ops : Array Oper} {F : List FA} {i : Nat} (h : apartF ops F i = true) : ∃ o, ops[i]? = some o ∧ (∀ f ∈ F, f.t ∉ o.looksAt ops) ∧ ∀ f ∈ F, o.dst ≠ some f.t := by
  unfold apartF at h
  split at h
  · rename_i o ho
    rw [List.all_eq_true] at h
    refine ⟨o, ho, fun f hf hc => ?_, fun f hf => ?_⟩
    · have := h f hf
      simp only [Bool.and_eq_true, Bool.not_eq_true', List.contains_eq_mem, decide_eq_false_iff_not] at this
      exact this.1 hc
    · have := h f hf
      simp only [Bool.and_eq_true, bne_iff_ne] at this
      exact this.2
  · cases h
theorem put_away {fr : Fr} {d : Option Tmp} {v : AV} {t : Tmp} (h : d ≠ some t) : fr.put d v t = fr t := by
  cases d with
  | none => rfl
  | some d => simp only [Fr.put]; rw [if_neg (fun e => h (by rw [e]))]
theorem SI.sound {P : Program} {ops : Array Oper} {M : Nat → Bool} {K : Fr → Hp → Prop} {n0 : Nat} {F : List FA} {p : Plan} (hF : FA.ok P ops M F = true) (hFo : ∀ f ∈ F, FOk P ops f) : ∀ (N : Nat) (s : List SI) (n : Nat) (base : Array Bool) (d : List FA) (fs fa : Fr) (Hs H : Hp),
    SI.ok P ops M F p s n base = true → n = N + d.length → (∀ f ∈ d, f ∈ F) → (d.map (·.i)).Nodup → (∀ f ∈ F, base.getD f.i true = false) → SRun P ops K n0 F p s fs Hs → (∃ E, H = Hs ++ E) → Agr F fs fa →
    (∀ f ∈ d, ∃ h, n0 ≤ h ∧ fa f.t = .ptr h 0 ∧ X3 H h = some f.b) → (∀ f ∈ d, ∀ g ∈ d, f.i ≠ g.i → fa f.t ≠ fa g.t) → n0 ≤ H.length → AAny P ops M K N (Yj base (d.map (·.i))) fa H := by
  simp only [FA.ok, Bool.and_eq_true, decide_eq_true_eq] at hF
  obtain ⟨⟨hF1, hFi⟩, hFt⟩ := hF
  rw [List.all_eq_true] at hF1
  have inj := nodup_inj (·.i) F hFi
  have injt := nodup_inj (·.t) F hFt
  have hM : ∀ f ∈ F, M f.i = false := fun f hf => by have := hF1 f hf; simp only [Bool.and_eq_true, Bool.not_eq_true'] at this; exact this.1
  have hfree : ∀ f ∈ F, ∃ o, ops[f.i]? = some o ∧ ∀ e ∈ o.after, Region.binds .any e = false := fun f hf => by
    have := hF1 f hf
    simp only [Bool.and_eq_true] at this
    have h2 := this.2
    split at h2
    · rename_i o ho
      refine ⟨o, ho, fun e he => ?_⟩
      rw [Array.all_eq_true_iff_forall_mem] at h2
      simpa using h2 e he
    · cases h2
  -- the last of it
  have last : ∀ (N n : Nat) (base : Array Bool) (d : List FA) (fs fa : Fr) (Hs H : Hp), SI.ok P ops M F p [] n base = true → n = N + d.length → (∀ f ∈ d, f ∈ F) → (d.map (·.i)).Nodup → SRun P ops K n0 F p [] fs Hs → (∃ E, H = Hs ++ E) → Agr F fs fa →
      (∀ f ∈ d, ∃ h, n0 ≤ h ∧ fa f.t = .ptr h 0 ∧ X3 H h = some f.b) → (∀ f ∈ d, ∀ g ∈ d, f.i ≠ g.i → fa f.t ≠ fa g.t) → (∀ f ∈ F, f ∈ d) → AAny P ops M K N (Yj base (d.map (·.i))) fa H := by
    intro N n base d fs fa Hs H hok hn hd hnd hr hx ha hf hdis hall
    simp only [SI.ok, Bool.and_eq_true, decide_eq_true_eq] at hok
    obtain ⟨⟨hle, _⟩, hp⟩ := hok
    have l1 := nodup_le _ (F.map (·.i)) hnd fun x hx => by
      obtain ⟨f, hf, rfl⟩ := List.mem_map.1 hx
      exact List.mem_map_of_mem (f := (·.i)) (hd f hf)
    have l2 := nodup_le _ (d.map (·.i)) hFi fun x hx => by
      obtain ⟨f, hf, rfl⟩ := List.mem_map.1 hx
      exact List.mem_map_of_mem (f := (·.i)) (hall f hf)
    simp only [List.length_map] at l1 l2
    have hN : n - F.length = N := by omega
    rw [hN] at hp
    have he : Yj base (d.map (·.i)) = Yj base (F.map (·.i)) := by
      refine Array.ext (by rw [setAll_size, setAll_size]) fun k h1 h2 => ?_
      have hiff : k ∈ d.map (·.i) ↔ k ∈ F.map (·.i) := by
        constructor
        · intro h; obtain ⟨f, hf, rfl⟩ := List.mem_map.1 h; exact List.mem_map_of_mem (f := (·.i)) (hd f hf)
        · intro h; obtain ⟨f, hf, rfl⟩ := List.mem_map.1 h; exact List.mem_map_of_mem (f := (·.i)) (hall f hf)
      have e1 := Vf (d.map (·.i)) base k false
      have e2 := Vf (F.map (·.i)) base k false
      rw [Array.getD_eq_getD_getElem?, Array.getElem?_eq_getElem h1, Option.getD_some] at e1
      rw [Array.getD_eq_getD_getElem?, Array.getElem?_eq_getElem h2, Option.getD_some] at e2
      rw [e1, e2]
      simp only [hiff]
    rw [he]
    refine Plan.sound p N [] _ fa H hp (SFin.use F [] fs (hr H hx) (fun f hfF => ?_) ?_ ha) (.inl rfl)
    · obtain ⟨h, h1, h2, h3⟩ := hf f (hall f hfF)
      exact ⟨h, h1, h2, h3, List.not_mem_nil⟩
    · have hpw : F.Pairwise (fun f g => f.i ≠ g.i) := by
        have := hFi
        rw [List.Nodup, List.pairwise_map] at this
        exact this
      refine hpw.imp_of_mem ?_
      intro f g hf1 hg1 hne
      exact hdis f (hall f hf1) g (hall g hg1) hne
  intro N
  induction N with
  | zero =>
    intro s n base d fs fa Hs H hok hn hd hnd hb hr hx ha hf hdis hl
    have hlen := SI.ok_len s n base hok
    have l1 := nodup_le _ (F.map (·.i)) hnd fun x hx => by
      obtain ⟨f, hf, rfl⟩ := List.mem_map.1 hx
      exact List.mem_map_of_mem (f := (·.i)) (hd f hf)
    simp only [List.length_map] at l1
    have hs0 : s = [] := List.eq_nil_of_length_eq_zero (by omega)
    subst hs0
    refine last 0 n base d fs fa Hs H hok hn hd hnd hr hx ha hf hdis fun f hfF => ?_
    by_cases hfd : f.i ∈ d.map (·.i)
    · obtain ⟨g, hg, e⟩ := List.mem_map.1 hfd
      rw [inj f hfF g (hd g hg) e.symm]; exact hg
    · have := nodup_le (f.i :: d.map (·.i)) (F.map (·.i)) (List.nodup_cons.2 ⟨hfd, hnd⟩) fun x hx => by
        rcases List.mem_cons.1 hx with rfl | hx
        · exact List.mem_map_of_mem (f := (·.i)) hfF
        · obtain ⟨g, hg, rfl⟩ := List.mem_map.1 hx; exact List.mem_map_of_mem (f := (·.i)) (hd g hg)
      simp only [List.length_cons, List.length_map] at this
      simp only [List.length_nil] at hlen
      omega
  | succ N ih =>
    intro s n base d fs fa Hs H hok hn hd hnd hb hr hx ha hf hdis hl
    -- an allocation goes
    have step : ∀ f ∈ F, f.i ∉ d.map (·.i) → V9 P ops f.i fa H (fun fr1 H1 => (M f.i = true → ∃ E, H1 = H ++ E) ∧ AAny P ops M K N ((Yj base (d.map (·.i))).setIfInBounds f.i true) fr1 H1) := by
      intro f hfF hfd
      obtain ⟨o, ho, hdst, hg, ty, z, hop, hz, hzs, hblk⟩ := hFo f hfF
      unfold V9
      simp only [ho]
      unfold AStep1 Uf Uo
      have hw : Jp ops fa o = some true := by unfold Jp; rw [hg]
      have hc : Q8 P fa o.op = none := by rw [hop]; rfl
      have ha1 : Q6 P fa H o.op = some (.ptr H.length 0, H ++ [f.b]) := by rw [hop]; simp only [Q6, hz, Option.bind_some, Jw, hzs, if_true, hblk]
      simp only [hw, if_true, hc, ha1]
      refine ⟨fun h => (by rw [hM f hfF] at h; cases h), ?_⟩
      have hlist : (Yj base (d.map (·.i))).setIfInBounds f.i true = Yj base ((f :: d).map (·.i)) := by
        show _ = Yj (base.setIfInBounds f.i true) (d.map (·.i))
        rw [Gt]
      rw [hlist]
      have hneT : ∀ g ∈ d, g.t ≠ f.t := fun g hg e => hfd (by rw [← injt g (hd g hg) f hfF e]; exact List.mem_map_of_mem (f := (·.i)) hg)
      refine ih s n base (f :: d) fs _ Hs _ hok (by simp only [List.length_cons]; omega) (fun g hg => ?_) (by rw [List.map_cons]; exact List.nodup_cons.2 ⟨hfd, hnd⟩) hb hr ?_ ?_ ?_ ?_ (by rw [List.length_append]; omega)
      · rcases List.mem_cons.1 hg with rfl | hg
        · exact hfF
        · exact hd g hg
      · obtain ⟨E, rfl⟩ := hx; exact ⟨E ++ [f.b], by rw [List.append_assoc]⟩
      · intro t ht
        rw [hdst]
        simp only [Fr.put]
        rw [if_neg (ht f hfF)]
        exact ha t ht
      · intro g hg
        rw [hdst]
        rcases List.mem_cons.1 hg with rfl | hg
        · exact ⟨H.length, hl, by simp only [Fr.put, if_true], X7 rfl⟩
        · obtain ⟨h, h1, h2, h3⟩ := hf g hg
          exact ⟨h, h1, by simp only [Fr.put]; rw [if_neg (hneT g hg)]; exact h2, Qy h3 (Ext.push _ _)⟩
      · have far : ∀ g ∈ d, fa g.t ≠ .ptr H.length 0 := fun g hg e => by
          obtain ⟨h, h1, h2, h3⟩ := hf g hg
          rw [h2] at e
          cases e
          exact absurd (X6 h3) (Nat.lt_irrefl _)
        intro g hg g' hg' hne
        rw [hdst]
        simp only [Fr.put]
        rcases List.mem_cons.1 hg with h1 | h1 <;> rcases List.mem_cons.1 hg' with h2 | h2
        · rw [h1, h2] at hne; exact absurd rfl hne
        · rw [h1, if_pos rfl, if_neg (hneT g' h2)]; exact Ne.symm (far g' h2)
        · rw [h2, if_pos rfl, if_neg (hneT g h1)]; exact far g h1
        · rw [if_neg (hneT g h1), if_neg (hneT g' h2)]; exact hdis g h1 g' h2 hne
    have unl : ∀ j, j ∈ Region.ready .any ops (Yj base (d.map (·.i))) → j ∉ d.map (·.i) := fun j hj hm => by
      have h0 := (mem_ready.1 hj).1
      rw [Vf] at h0
      obtain ⟨_, o, ho, _⟩ := mem_ready.1 hj
      by_cases hlt : j < base.size
      · rw [if_pos ⟨hm, hlt⟩] at h0; cases h0
      · obtain ⟨f, hf1, rfl⟩ := List.mem_map.1 hm
        have := hb f (hd f hf1)
        rw [Array.getD_eq_getD_getElem?] at this
        simp [hlt] at this
    have sub : ∀ x ∈ d.map (·.i), x ∈ F.map (·.i) := fun x hx => by
      obtain ⟨f, hf1, rfl⟩ := List.mem_map.1 hx; exact List.mem_map_of_mem (f := (·.i)) (hd f hf1)
    have keep : ∀ (o : Oper) (v : AV), (∀ f ∈ F, o.dst ≠ some f.t) → ∀ H1, (∃ E, H1 = H ++ E) → (∀ f ∈ d, ∃ h, n0 ≤ h ∧ (fa.put o.dst v) f.t = .ptr h 0 ∧ X3 H1 h = some f.b) := fun o v hn1 H1 x1 f hfd => by
      obtain ⟨h, h1, h2, h3⟩ := hf f hfd
      exact ⟨h, h1, by rw [put_away (hn1 f (hd f hfd))]; exact h2, Qy h3 x1⟩
    have keepd : ∀ (o : Oper) (v : AV), (∀ f ∈ F, o.dst ≠ some f.t) → ∀ f ∈ d, ∀ g ∈ d, f.i ≠ g.i → (fa.put o.dst v) f.t ≠ (fa.put o.dst v) g.t := fun o v hn1 f hf1 g hg1 hne => by
      rw [put_away (hn1 f (hd f hf1)), put_away (hn1 g (hd g hg1))]; exact hdis f hf1 g hg1 hne
    have hbs : ∀ i, i ∉ F.map (·.i) → ∀ f ∈ F, (base.setIfInBounds i true).getD f.i true = false := fun i hi f hf1 => by
      rw [set_getD_true, if_neg (fun (h : f.i = i ∧ f.i < base.size) => hi (by rw [← h.1]; exact List.mem_map_of_mem (f := (·.i)) hf1))]; exact hb f hf1
    -- what is sure goes first
    have sure : ∀ (i : Nat) (s' : List SI) (n' : Nat), n = n' + 1 → (Region.ready .any ops base).contains i = true → freeS P ops M base i (Kz ops i) = true → apartF ops F i = true → i ∉ F.map (·.i) → SI.ok P ops M F p s' n' (base.setIfInBounds i true) = true →
        AStepS P ops i fs Hs (SRun P ops K n0 F p s') → AAny P ops M K (N + 1) (Yj base (d.map (·.i))) fa H := by
      intro i s' n' hnn hri hfr hap hiF hok' hS
      obtain ⟨o, ho, hlo, hdo⟩ := apartF_spec hap
      unfold AStepS at hS
      simp only [ho] at hS
      obtain ⟨v, hv, hr'⟩ := hS
      unfold freeS at hfr
      simp only [Bool.and_eq_true, ho] at hfr
      obtain ⟨⟨hwt, hdl⟩, hfr⟩ := hfr
      have hid : i ∉ d.map (·.i) := fun h => hiF (sub i h)
      have hirb : i ∈ Region.ready .any ops base := by simpa using hri
      have hir : i ∈ Region.ready .any ops (Yj base (d.map (·.i))) := Rz hirb (fun k hk => setAll_base hk) (by rw [Ws hid]; exact (mem_ready.1 hirb).1)
      refine AAny_firstS (Wx hwt) ho N _ fa H v hir ?_ ?_ (ASure.cong ha hlo hx hv) ?_
      · intro j hj
        have hjd : j ∉ d.map (·.i) := fun hm => by
          obtain ⟨f, hf1, rfl⟩ := List.mem_map.1 (sub j hm)
          obtain ⟨o1, ho1, he1⟩ := hfree f hf1
          obtain ⟨o2, ho2, e, he, hb2, _⟩ := Wx hwt f.i hj
          rw [ho1] at ho2; cases ho2
          rw [he1 e he] at hb2; cases hb2
        rw [Ws hjd]
        have hlt : j < (Kz ops i).size := by
          rcases Nat.lt_or_ge j (Kz ops i).size with h | h
          · exact h
          · simp [Array.getD_eq_getD_getElem?, h] at hj
        have := (List.all_eq_true.1 hdl) j (List.mem_range.2 hlt)
        simpa only [hj, Bool.not_true, Bool.false_or, Bool.not_eq_true'] using this
      · intro j oj hji hjl hjd hoj
        have hjs : j < ops.size := (Array.getElem?_eq_some_iff.1 hoj).1
        have := (List.all_eq_true.1 hfr) j (List.mem_range.2 hjs)
        have hjb : base.getD j true = false := by
          rw [Vf] at hjl
          split at hjl
          · cases hjl
          · exact hjl
        simp only [hoj, hjb, hjd, Bool.or_eq_true, Bool.and_eq_true, beq_iff_eq, hji, Bool.false_eq_true, or_self, false_or] at this
        exact this
      · rw [← Gt]
        exact ih s' n' _ d (fs.put o.dst v) (fa.put o.dst v) Hs H hok' (by omega) hd hnd (hbs i hiF) hr' hx (ha.put _ _) (keep o v hdo H ⟨[], by simp⟩) (keepd o v hdo) hl
    -- what reads goes first
    have reads : ∀ (i : Nat) (s' : List SI) (n' : Nat), n = n' + 1 → (Region.ready .any ops base).contains i = true → free P ops M base i = true → apartF ops F i = true → i ∉ F.map (·.i) → SI.ok P ops M F p s' n' (base.setIfInBounds i true) = true →
        V9 P ops i fs Hs (SRun P ops K n0 F p s') → (match ops[i]? with | some o => Gc P o.op | none => false) = true → AAny P ops M K (N + 1) (Yj base (d.map (·.i))) fa H := by
      intro i s' n' hnn hri hfr hap hiF hok' hS hst
      obtain ⟨o, ho, hlo, hdo⟩ := apartF_spec hap
      unfold V9 at hS
      simp only [ho] at hS hst
      obtain ⟨v, hv, hr'⟩ := AStep1.sure hst hS
      unfold free freeD at hfr
      simp only [Bool.and_eq_true, ho] at hfr
      obtain ⟨⟨hwt, hdl⟩, hfr⟩ := hfr
      have hid : i ∉ d.map (·.i) := fun h => hiF (sub i h)
      have hirb : i ∈ Region.ready .any ops base := by simpa using hri
      have hir : i ∈ Region.ready .any ops (Yj base (d.map (·.i))) := Rz hirb (fun k hk => setAll_base hk) (by rw [Ws hid]; exact (mem_ready.1 hirb).1)
      refine AAny_first (Wx hwt) ho (Rw hst) N _ fa H hir ?_ ?_ (ASure.step (ASure.cong ha hlo hx hv) ⟨[], by simp⟩ ?_)
      · intro j hj
        have hjd : j ∉ d.map (·.i) := fun hm => by
          obtain ⟨f, hf1, rfl⟩ := List.mem_map.1 (sub j hm)
          obtain ⟨o1, ho1, he1⟩ := hfree f hf1
          obtain ⟨o2, ho2, e, he, hb2, _⟩ := Wx hwt f.i hj
          rw [ho1] at ho2; cases ho2
          rw [he1 e he] at hb2; cases hb2
        rw [Ws hjd]
        have hlt : j < (Kz ops i).size := by
          rcases Nat.lt_or_ge j (Kz ops i).size with h | h
          · exact h
          · simp [Array.getD_eq_getD_getElem?, h] at hj
        have := (List.all_eq_true.1 hdl) j (List.mem_range.2 hlt)
        simpa only [hj, Bool.not_true, Bool.false_or, Bool.not_eq_true'] using this
      · intro j oj hji hjl hjd hoj
        have hjs : j < ops.size := (Array.getElem?_eq_some_iff.1 hoj).1
        have := (List.all_eq_true.1 hfr.2) j (List.mem_range.2 hjs)
        have hjb : base.getD j true = false := by
          rw [Vf] at hjl
          split at hjl
          · cases hjl
          · exact hjl
        simp only [hoj, hjb, hjd, Bool.or_eq_true, Bool.and_eq_true, beq_iff_eq, hji, Bool.false_eq_true, or_self, false_or] at this
        exact this
      · rw [← Gt]
        exact ih s' n' _ d (fs.put o.dst v) (fa.put o.dst v) Hs H hok' (by omega) hd hnd (hbs i hiF) hr' hx (ha.put _ _) (keep o v hdo H ⟨[], by simp⟩) (keepd o v hdo) hl
    cases s with
    | nil =>
      by_cases hall : ∀ f ∈ F, f ∈ d
      · exact last (N + 1) n base d fs fa Hs H hok hn hd hnd hr hx ha hf hdis hall
      · have hok0 := hok
        simp only [SI.ok, Bool.and_eq_true] at hok
        have hck := List.all_eq_true.1 hok.1.2
        have : ∃ f, f ∈ F ∧ f ∉ d := by
          apply Classical.byContradiction
          intro hne
          exact hall fun f hf1 => Classical.byContradiction fun h => hne ⟨f, hf1, h⟩
        obtain ⟨f, hfF, hfd⟩ := this
        have hfi : f.i ∉ d.map (·.i) := fun hm => by
          obtain ⟨g, hg, e⟩ := List.mem_map.1 hm
          exact hfd (by rw [inj f hfF g (hd g hg) e.symm]; exact hg)
        have hfr : f.i ∈ Region.ready .any ops (Yj base (d.map (·.i))) := by
          obtain ⟨o, ho, he⟩ := hfree f hfF
          exact mem_ready.2 ⟨by rw [Ws hfi]; exact hb f hfF, o, ho, fun e hem hbd => by rw [he e hem] at hbd; cases hbd⟩
        refine ⟨fun h0 => (by rw [h0] at hfr; cases hfr), fun j hj => ?_⟩
        by_cases hjF : j ∈ F.map (·.i)
        · obtain ⟨g, hg, rfl⟩ := List.mem_map.1 hjF
          exact step g hg (unl _ hj)
        · have h1 : j ∈ Region.ready .any ops (Yj base ((F.map (·.i)).filter (· != f.i))) := by
            refine Rz hj (setAll_more fun x hx => ?_) ?_
            · refine List.mem_filter.2 ⟨sub x hx, ?_⟩
              simp only [bne_iff_ne]
              exact fun e => hfi (e ▸ hx)
            · rw [Ws (fun h => hjF (List.mem_filter.1 h).1)]
              have h0 := (mem_ready.1 hj).1
              rw [Vf] at h0
              split at h0
              · cases h0
              · exact h0
          have h2 := List.all_eq_true.1 (hck f hfF) j h1
          simp only [beq_iff_eq] at h2
          exact absurd (h2 ▸ List.mem_map_of_mem (f := (·.i)) hfF) hjF
    | cons x s' =>
      cases x with
      | one i =>
        cases n with
        | zero => simp [SI.ok] at hok
        | succ n =>
          simp only [SI.ok, Bool.and_eq_true] at hok
          obtain ⟨⟨⟨⟨⟨h1, h2⟩, h3⟩, h4⟩, h5⟩, h6⟩ := hok
          exact reads i s' n rfl h1 h2 h3 (by simpa using h5) h6 hr h4
      | pur i =>
        cases n with
        | zero => simp [SI.ok] at hok
        | succ n =>
          simp only [SI.ok, Bool.and_eq_true] at hok
          obtain ⟨⟨⟨⟨h1, h2⟩, h3⟩, h5⟩, h6⟩ := hok
          exact sure i s' n rfl h1 h2 h3 (by simpa using h5) h6 hr
      | ext i =>
        cases n with
        | zero => simp [SI.ok] at hok
        | succ n =>
          simp only [SI.ok, Bool.and_eq_true] at hok
          obtain ⟨⟨⟨⟨h1, h2⟩, h3⟩, h5⟩, h6⟩ := hok
          have hiF : i ∉ F.map (·.i) := by simpa using h5
          have hid : i ∉ d.map (·.i) := fun h => hiF (sub i h)
          obtain ⟨o, ho, hlo, hdo⟩ := apartF_spec h3
          have hirb : i ∈ Region.ready .any ops base := by simpa using h1
          have hir : i ∈ Region.ready .any ops (Yj base (d.map (·.i))) := Rz hirb (fun k hk => setAll_base hk) (by rw [Ws hid]; exact (mem_ready.1 hirb).1)
          refine ⟨fun h0 => (by rw [h0] at hir; cases hir), fun j hj => ?_⟩
          by_cases hjF : j ∈ F.map (·.i)
          · obtain ⟨g, hg, rfl⟩ := List.mem_map.1 hjF
            exact step g hg (unl _ hj)
          · have hj1 : j ∈ Region.ready .any ops (Yj base (F.map (·.i))) := by
              refine Rz hj (setAll_more sub) ?_
              rw [Ws hjF]
              have h0 := (mem_ready.1 hj).1
              rw [Vf] at h0
              split at h0
              · cases h0
              · exact h0
            have h4 := List.all_eq_true.1 h2 j hj1
            simp only [beq_iff_eq] at h4
            subst h4
            have hS := hr H hx
            unfold V9 at hS ⊢
            simp only [ho] at hS ⊢
            refine (AStep1.cong ha hlo hS).mono ?_
            rintro fr1 H1 ⟨u, rfl, x1, hr1⟩
            refine ⟨fun _ => x1, ?_⟩
            rw [← Gt]
            exact ih s' n _ d (fs.put o.dst u) (fa.put o.dst u) H1 H1 h6 (by omega) hd hnd (hbs j hiF) hr1 ⟨[], by simp⟩ (ha.put _ _) (keep o u hdo H1 x1) (keepd o u hdo) (by obtain ⟨E, rfl⟩ := x1; rw [List.length_append]; omega)
def FOks (P : Program) (ops : Array Oper) : List FA → Prop
  | [] => True
  | f :: F => FOk P ops f ∧ FOks P ops F
theorem FOks.mem {P : Program} {ops : Array Oper} : ∀ {F : List FA}, FOks P ops F → ∀ f ∈ F, FOk P ops f
  | [], _, f, hf => by cases hf
  | g :: F, h, f, hf => by
    rcases List.mem_cons.1 hf with e | e
    · rw [e]; exact h.1
    · exact FOks.mem h.2 f e
section
variable {P : Program} {ops : Array Oper} {K : Fr → Hp → Prop} {n0 : Nat} {F : List FA} {p : Plan} {s : List SI} {fr : Fr} {H : Hp}
end
end Go.AL
namespace Go.AL
open Go.RowKit
mutual
def Frz (H : Hp) : AV → AV → Prop
  | .fz n cs, r => r = .fz n cs ∨ ∃ z ds, arow H z r = some (ds, n) ∧ r.fine z ∧ Frzs H cs ds
  | .fp cs, r => r = .fp cs ∨ ∃ h o b, r = .ptr h o ∧ X3 H h = some b ∧ b.kind ≠ .dead ∧ o + cs.length ≤ b.cells.length ∧ Frzs H cs ((b.cells.drop o).take cs.length)
  | .agg cs, r => ∃ ds, r = .agg ds ∧ Frzs H cs ds
  | .tup cs, r => ∃ ds, r = .tup ds ∧ Frzs H cs ds
  | .ifc t x, r => ∃ y, r = .ifc t y ∧ Frz H x y
  | .ptr _ _, _ => False
  | .sl _ _ _ _, _ => False
  | .sg _ _ _ _, _ => False
  | .undef, _ => True
  | .int k n, r => r = .int k n
  | .bool b, r => r = .bool b
  | .str s, r => r = .str s
  | .nilI, r => r = .nilI
  | .nilP, r => r = .nilP
  | .nilS, r => r = .nilS
  | .fn f, r => r = .fn f
def Frzs (H : Hp) : List AV → List AV → Prop
  | [], ds => ds = []
  | c :: cs, ds => ∃ d es, ds = d :: es ∧ Frz H c d ∧ Frzs H cs es
end
mutual
theorem Frz.closed {H : Hp} : ∀ (c r : AV), Frz H c r → c.lt 0
  | .fz _ _, _, _ => trivial
  | .fp _, _, _ => trivial
  | .agg cs, r, h => by
    simp only [Frz] at h
    obtain ⟨ds, _, h⟩ := h
    simp only [AV.lt]
    exact Frzs.closed cs ds h
  | .tup cs, r, h => by
    simp only [Frz] at h
    obtain ⟨ds, _, h⟩ := h
    simp only [AV.lt]
    exact Frzs.closed cs ds h
  | .ifc t x, r, h => by
    simp only [Frz] at h
    obtain ⟨y, _, h⟩ := h
    simp only [AV.lt]
    exact Frz.closed x y h
  | .ptr _ _, _, h => by simp only [Frz] at h
  | .sl _ _ _ _, _, h => by simp only [Frz] at h
  | .sg _ _ _ _, _, h => by simp only [Frz] at h
  | .undef, _, _ => trivial
  | .int _ _, _, _ => trivial
  | .bool _, _, _ => trivial
  | .str _, _, _ => trivial
  | .nilI, _, _ => trivial
  | .nilP, _, _ => trivial
  | .nilS, _, _ => trivial
  | .fn _, _, _ => trivial
theorem Frzs.closed {H : Hp} : ∀ (cs ds : List AV), Frzs H cs ds → AV.lts 0 cs
  | [], _, _ => trivial
  | c :: cs, ds, h => by
    simp only [Frzs] at h
    obtain ⟨d, es, _, h1, h2⟩ := h
    exact ⟨Frz.closed c d h1, Frzs.closed cs es h2⟩
end
theorem Frzs.length {H : Hp} : ∀ {cs ds : List AV}, Frzs H cs ds → ds.length = cs.length
  | [], _, h => by simp only [Frzs] at h; subst h; rfl
  | c :: cs, ds, h => by
    simp only [Frzs] at h
    obtain ⟨d, es, rfl, h1, h2⟩ := h
    simp [Frzs.length h2]
theorem Frzs.get {H : Hp} : ∀ {cs ds : List AV}, Frzs H cs ds → ∀ {i : Nat} {c : AV}, cs[i]? = some c → ∃ d, ds[i]? = some d ∧ Frz H c d
  | [], _, _, i, c, hc => by cases hc
  | c :: cs, ds, h, 0, c', hc => by
    simp only [Frzs] at h
    obtain ⟨d, es, rfl, h1, h2⟩ := h
    simp at hc
    subst hc
    exact ⟨d, rfl, h1⟩
  | c :: cs, ds, h, i + 1, c', hc => by
    simp only [Frzs] at h
    obtain ⟨d, es, rfl, h1, h2⟩ := h
    simpa using Frzs.get h2 (i := i) (c := c') (by simpa using hc)
def Src (β : Env) (H : Hp) (a : Addr) (r : AV) : Prop := β.fz a r ∨ ∃ (h : Nat) (b : Blk) (i : Nat), H[h]? = some b ∧ b.kind ≠ .dead ∧ b.cells[i]? = some r ∧ a = (β h).addr.add i
def Env.all (β : Env) (H : Hp) (β2 : Env) : Env := ⟨β2.bx, fun a c => β.fz a c ∨ ∃ r, Src β H a r ∧ Frz H c r, β2.fz0, β2.leg⟩
mutual
theorem Frz.vr {β β2 : Env} {H : Hp} : ∀ (c r : AV) (v : Value), Frz H c r → VR β r v → VR (β.all H β2) c v
  | .fz n cs, r, v, h, hv => by
    simp only [Frz] at h
    rcases h with rfl | ⟨z, ds, hr, hfine, hs⟩
    · simp only [VR] at hv ⊢
      obtain ⟨a, c, rfl, h1, h2, h3⟩ := hv
      exact ⟨a, c, rfl, h1, h2, h3.imp id fun ⟨x, e, hx⟩ => ⟨x, e, fun i ci hi => .inl (hx i ci hi)⟩⟩
    · have hlen := hs.length
      rcases Un hr with ⟨rfl, rfl, rfl⟩ | ⟨b, hb, hg, hk, hl, hds⟩ | ⟨rfl, hl⟩
      · simp only [VR] at hv ⊢
        exact ⟨none, 0, hv, Nat.le_refl _, fun _ => rfl, .inl trivial⟩
      · have X3 : ∀ i ci, cs[i]? = some ci → ∃ d, b.cells[r.of + i]? = some d ∧ Frz H ci d := by
          intro i ci hi
          obtain ⟨d, hd, hf⟩ := hs.get hi
          rw [hds, List.getElem?_take] at hd
          split at hd
          · rw [List.getElem?_drop] at hd
            exact ⟨d, hd, hf⟩
          · cases hd
        rcases hb with ⟨cp, hb⟩ | ⟨z', hb⟩
        · generalize r.hd = hh, r.of = oo at *
          subst hb
          simp only [VR] at hv ⊢
          subst hv
          refine ⟨_, _, rfl, hfine, by simp, .inr ⟨_, rfl, fun i ci hi => ?_⟩⟩
          obtain ⟨d, hd, hf⟩ := X3 i ci hi
          rw [Addr.add_add]
          exact .inr ⟨d, .inr ⟨hh, b, oo + i, hg, hk, hd, rfl⟩, hf⟩
        · generalize r.hd = hh, r.of = oo at *
          subst hb
          simp only [VR] at hv ⊢
          obtain ⟨c, o', rfl, hnc, hco⟩ := hv
          refine ⟨_, _, rfl, hnc, by simp, ?_⟩
          rcases hco with ⟨h0, _⟩ | ⟨rfl, _⟩
          · exact .inl (by omega)
          · refine .inr ⟨_, rfl, fun i ci hi => ?_⟩
            obtain ⟨d, hd, hf⟩ := X3 i ci hi
            rw [Addr.add_add]
            exact .inr ⟨d, .inr ⟨hh, b, o' + i, hg, hk, hd, rfl⟩, hf⟩
      · simp only [VR] at hv ⊢
        obtain ⟨a, c, rfl, h1, h2, h3⟩ := hv
        refine ⟨a, c, rfl, h1, h2, h3.imp id fun ⟨x, e, hx⟩ => ⟨x, e, fun i ci hi => ?_⟩⟩
        obtain ⟨d, hd, hf⟩ := hs.get hi
        exact .inr ⟨d, .inl (hx i d hd), hf⟩
  | .fp cs, r, v, h, hv => by
    simp only [Frz] at h
    rcases h with rfl | ⟨hh, o, b, rfl, hg, hk, hle, hs⟩
    · simp only [VR] at hv ⊢
      obtain ⟨x, rfl, hx⟩ := hv
      exact ⟨x, rfl, fun i ci hi => .inl (hx i ci hi)⟩
    · simp only [VR] at hv ⊢
      subst hv
      refine ⟨_, rfl, fun i ci hi => ?_⟩
      obtain ⟨d, hd, hf⟩ := hs.get hi
      rw [List.getElem?_take] at hd
      split at hd
      · rw [List.getElem?_drop] at hd
        rw [Addr.add_add]
        exact .inr ⟨d, .inr ⟨hh, b, o + i, hg, hk, hd, rfl⟩, hf⟩
      · cases hd
  | .agg cs, r, v, h, hv => by
    simp only [Frz] at h
    obtain ⟨ds, rfl, h⟩ := h
    simp only [VR] at hv ⊢
    obtain ⟨l, rfl, hv⟩ := hv
    exact ⟨l, rfl, Frzs.vr cs ds l.toList h hv⟩
  | .tup cs, r, v, h, hv => by
    simp only [Frz] at h
    obtain ⟨ds, rfl, h⟩ := h
    simp only [VR] at hv ⊢
    obtain ⟨l, rfl, hv⟩ := hv
    exact ⟨l, rfl, Frzs.vr cs ds l.toList h hv⟩
  | .ifc t x, r, v, h, hv => by
    simp only [Frz] at h
    obtain ⟨y, rfl, h⟩ := h
    simp only [VR] at hv ⊢
    obtain ⟨u, rfl, hv⟩ := hv
    exact ⟨u, rfl, Frz.vr x y u h hv⟩
  | .ptr _ _, _, _, h, _ => by simp only [Frz] at h
  | .sl _ _ _ _, _, _, h, _ => by simp only [Frz] at h
  | .sg _ _ _ _, _, _, h, _ => by simp only [Frz] at h
  | .undef, _, _, _, _ => trivial
  | .int _ _, _, _, h, hv => by simp only [Frz] at h; subst h; exact hv
  | .bool _, _, _, h, hv => by simp only [Frz] at h; subst h; exact hv
  | .str _, _, _, h, hv => by simp only [Frz] at h; subst h; exact hv
  | .nilI, _, _, h, hv => by simp only [Frz] at h; subst h; exact hv
  | .nilP, _, _, h, hv => by simp only [Frz] at h; subst h; exact hv
  | .nilS, _, _, h, hv => by simp only [Frz] at h; subst h; exact hv
  | .fn _, _, _, h, hv => by simp only [Frz] at h; subst h; exact hv
theorem Frzs.vr {β β2 : Env} {H : Hp} : ∀ (cs ds : List AV) (l : List Value), Frzs H cs ds → VRs β ds l → VRs (β.all H β2) cs l
  | [], _, _, h, hv => by simp only [Frzs] at h; subst h; exact hv
  | c :: cs, ds, l, h, hv => by
    simp only [Frzs] at h
    obtain ⟨d, es, rfl, h1, h2⟩ := h
    simp only [VRs] at hv ⊢
    obtain ⟨x, xs, rfl, hx, hxs⟩ := hv
    exact ⟨x, xs, rfl, Frz.vr c d x h1 hx, Frzs.vr cs es xs h2 hxs⟩
end
theorem Src.cell {w0 : World} {B : Nat} {β : Env} {H : Hp} {w : World} (R : Rel w0 B β H w) {a : Addr} {r : AV} (s : Src β H a r) : ∃ v, w.cell? a = some v ∧ VR β r v ∧ v.oneCell' = true := by
  rcases s with h | ⟨h, b, i, hb, hk, hc, rfl⟩
  · exact (R.fzn a r h).2.1
  · exact R.cells h b hb hk i r hc
theorem Env.all_fz {w0 : World} {B : Nat} {β β2 : Env} {H : Hp} {w : World} (R : Rel w0 B β H w) {a : Addr} {c : AV} (h : (β.all H β2).fz a c) : c.lt 0 ∧ ∃ v, w.cell? a = some v ∧ VR (β.all H β2) c v ∧ v.oneCell' = true := by
  rcases h with h | ⟨r, s, hf⟩
  · obtain ⟨h1, ⟨v, h2, h3, h4⟩, _⟩ := R.fzn a c h
    exact ⟨h1, v, h2, Rg (β := β) (n := 0) (fun h hh => absurd hh (Nat.not_lt_zero _)) (fun _ _ h => Or.inl h) c v h1 h3, h4⟩
  · obtain ⟨v, h2, h3, h4⟩ := s.cell R
    exact ⟨Frz.closed c r hf, v, h2, Frz.vr c r v hf h3, h4⟩
structure Sure (P : Program) (n0 : Blk) (f : FuncId) (args : List AV) (res : AV) : Prop where
  closed : AV.lts 0 args
  calls : SCalls P f args [n0] fun r H' => Frz H' res r
theorem J1q {β β' : Env} (hf : ∀ a c, β.fz a c → β'.fz a c) {c : AV} {v : Value} (hl : c.lt 0) (h : VR β c v) : VR β' c v := Rg (n := 0) (fun h hh => absurd hh (Nat.not_lt_zero _)) hf c v hl h
theorem Rel.back {w0 w w' : World} {B : Nat} {β β1 : Env} {H H1 : Hp} (R : Rel w0 B β H w) (R1 : Rel w w.heap.size β1 H1 w') (h0 : β1.fz0 = fun a => ∃ c, β.fz a c) (hleg : ¬ β1.leg) (hf : ∀ a c, β.fz a c → β1.fz a c) : Rel w0 B (β1.all H1 β) H w' := by
  have K := R.kept R1.below
  have hmono : ∀ a c, β.fz a c → (β1.all H1 β).fz a c := fun a c h => .inl (hf a c h)
  have vr : ∀ {h : Nat} {b : Blk}, H[h]? = some b → b.kind ≠ .dead → ∀ c ∈ b.cells, ∀ v, VR β c v → VR (β1.all H1 β) c v := fun hb hd c hc v hv => by refine Rg (β := β) (n := H.length) ?_ ?_ c v (R.lts _ _ hb hd c hc) hv; exact fun _ _ => rfl; exact hmono
  -- where something new is fixed
  have place : ∀ a c, (β1.all H1 β).fz a c → (∃ d, β.fz a d) ∨ w.heap.size ≤ a.block := by
    have old : ∀ a d, β1.fz a d → (∃ d, β.fz a d) ∨ w.heap.size ≤ a.block := fun a d h => by
      have := (R1.fzn a d h).2.2.2
      rw [h0] at this
      exact this
    intro a c h
    rcases h with h | ⟨r, s, _⟩
    · exact old a c h
    · rcases s with h | ⟨h, b, i, hb, hk, hc, rfl⟩
      · exact old a r h
      · refine .inr ?_
        rw [Addr.add_block]
        by_cases ho : b.kind = .own
        · obtain ⟨g, cur, e, h1, _⟩ := R1.own h b hb ho
          rw [e]; exact h1
        · exact (R1.roB h b hb ho hk (fun e => by rw [e] at hc; cases hc)).resolve_left hleg
  refine ⟨K.below, K.base, fun h b hb hd i c hc => ?_, R.lts, K.own, R.glob, R.sep, fun a c hfz => ?_, R.roB⟩
  · obtain ⟨v, h1, h2, h3⟩ := K.cells h b hb hd i c hc
    exact ⟨v, h1, vr hb hd c (List.mem_of_getElem? hc) v h2, h3⟩
  · obtain ⟨h1, h2⟩ := Env.all_fz R1 hfz
    refine ⟨h1, h2, fun h b hb ho => ?_, ?_⟩
    · rcases place a c hfz with ⟨d, h3⟩ | h3
      · exact (R.fzn a d h3).2.2.1 h b hb ho
      · obtain ⟨g, cur, e, _, hg, _⟩ := R.own h b hb ho
        have := (Array.getElem?_eq_some_iff.1 hg).1
        show (β h).addr.block ≠ a.block
        rw [e]
        show g ≠ a.block
        omega
    · rcases place a c hfz with ⟨d, h3⟩ | h3
      · exact (R.fzn a d h3).2.2.2
      · exact .inr (Nat.le_trans R.base h3)
theorem Rel.fresh {w0 w : World} {B : Nat} {β : Env} {H : Hp} (R : Rel w0 B β H w) {k i j a t v e : Nat} (hk : X3 H k = some ⟨[], .glob a t v e, i⟩) (F : Addr → AV → Prop)
    (hF : ∀ a c, F a c → c.lt 0 ∧ ∃ v, w.cell? a = some v ∧ VR ⟨fun _ => β k, F, fun a => ∃ c, F a c, False⟩ c v ∧ v.oneCell' = true) :
    Rel w w.heap.size ⟨fun _ => β k, F, fun a => ∃ c, F a c, False⟩ [⟨[], .glob a t v e, j⟩] w := by
  have one : ∀ {h : Nat} {b : Blk}, ([⟨[], .glob a t v e, j⟩] : Hp)[h]? = some b → b = ⟨[], .glob a t v e, j⟩ := by
    intro h b hb
    cases h with
    | zero => simpa using hb.symm
    | succ h => simp at hb
  refine ⟨Below.refl _ _, Nat.le_refl _, ?_, ?_, ?_, ?_, ?_, ?_, ?_⟩
  · intro h b hb hd i c hc; rw [one hb] at hc; cases hc
  · intro h b hb hd c hc; rw [one hb] at hc; cases hc
  · intro h b hb ho; rw [one hb] at ho; cases ho
  · intro h b hb a' t' v' e' hkd
    rw [one hb] at hkd
    cases hkd
    obtain ⟨h1, h2⟩ := R.glob k _ hk a t v e rfl
    exact ⟨(R.below.cell h2).trans h1, Nat.lt_of_lt_of_le h2 R.base⟩
  · intro h h' b b' hne hb hb' ho; rw [one hb] at ho; cases ho
  · intro a' c hf
    obtain ⟨h1, h2⟩ := hF a' c hf
    exact ⟨h1, h2, (fun h b hb ho => by rw [one hb] at ho; cases ho), .inl ⟨c, hf⟩⟩
  · intro h b hb _ _ hc; rw [one hb] at hc; exact absurd rfl hc
theorem VRs_fixed {β β' : Env} (hf : ∀ a c, β.fz a c → β'.fz a c) {cs : List AV} {l : List Value} (hl : AV.lts 0 cs) (h : VRs β cs l) : VRs β' cs l := VRs_mono (n := 0) (fun h hh => absurd hh (Nat.not_lt_zero _)) hf cs l hl h
theorem Sure.call {P : Program} {f : FuncId} {args : List AV} {res : AV} {H : Hp} {k i j a t v e : Nat} (S : Sure P ⟨[], .glob a t v e, j⟩ f args res) (hk : X3 H k = some ⟨[], .glob a t v e, i⟩) : ACalls P f args H fun r H' => r = res ∧ H = H' := by
  refine ⟨S.calls.1, fun w0 B β w vs R hv hl => ?_⟩
  have R0 := R.fresh (j := j) hk β.fz fun a c hf => by
    obtain ⟨h1, ⟨v, h2, h3, h4⟩, _⟩ := R.fzn a c hf
    exact ⟨h1, v, h2, by refine J1q (β := β) ?_ h1 h3; exact fun _ _ h => h, h4⟩
  refine (S.calls.2 w w.heap.size _ w vs (by exact id) R0 (by refine VRs_fixed (β := β) ?_ S.closed hv; exact fun _ _ h => h) (AV.lts_mono (Nat.zero_le _) _ S.closed)).mono ?_
  rintro e w' ⟨β1, r, v, H1, rfl, hfrz, ag, hlen, hvr, hlt, R1⟩
  have Rb := R.back R1 ag.fz0 (by rw [ag.leg]; exact id) ag.fz
  refine ⟨β1.all H1 β, res, v, H, rfl, ⟨rfl, rfl⟩, ⟨fun _ _ => rfl, fun a c h => Or.inl (ag.fz a c h), rfl, rfl⟩, Nat.le_refl _, Frz.vr res r v hfrz hvr, AV.lt_mono (Nat.zero_le _) _ (Frz.closed res r hfrz), Rb⟩
def AV.flat : AV → Bool
  | .int _ _ | .bool _ | .str _ | .nilI | .nilP | .nilS | .fn _ => true
  | .tup vs => vs.all fun v => match v with | .int _ _ | .bool _ | .str _ | .nilI | .nilP | .nilS | .fn _ => true | _ => false
  | _ => false
theorem AV.flat_vr {β β' : Env} {c : AV} {v : Value} (h : c.flat = true) (hv : VR β c v) : VR β' c v := by
  cases c <;> simp only [AV.flat, Bool.false_eq_true] at h <;> try exact hv
  rename_i vs
  simp only [VR] at hv ⊢
  obtain ⟨l, rfl, hv⟩ := hv
  refine ⟨l, rfl, ?_⟩
  rw [VRs_iff] at hv ⊢
  refine ⟨hv.1, fun i c x hc hx => ?_⟩
  have h1 := List.all_eq_true.1 h c (List.mem_of_getElem? hc)
  have h2 := hv.2 i c x hc hx
  cases c <;> simp only [Bool.false_eq_true] at h1 <;> exact h2
theorem Sure.lend {P : Program} {f : FuncId} {args args' : List AV} {res : AV} {H : Hp} {k i j a t v e : Nat} (S : Sure P ⟨[], .glob a t v e, j⟩ f args' res) (hk : X3 H k = some ⟨[], .glob a t v e, i⟩) (hz : Frzs H args' args) (hf : res.flat = true) : ACalls P f args H fun r H' => r = res ∧ H = H' := by
  refine ⟨S.calls.1, fun w0 B β w vs R hv hl => ?_⟩
  have R0 := R.fresh (j := j) hk (β.all H β).fz fun a c hf => by
    obtain ⟨h1, v, h2, h3, h4⟩ := Env.all_fz R hf
    exact ⟨h1, v, h2, by refine J1q (β := β.all H β) ?_ h1 h3; exact fun _ _ h => h, h4⟩
  refine (S.calls.2 w w.heap.size _ w vs (by exact id) R0 (by refine VRs_fixed (β := β.all H β) ?_ (Frzs.closed _ _ hz) (Frzs.vr (β2 := β) _ _ _ hz hv); exact fun _ _ h => h) (AV.lts_mono (Nat.zero_le _) _ S.closed)).mono ?_
  rintro e w' ⟨β1, r, v, H1, rfl, hfrz, ag, hlen, hvr, hlt, R1⟩
  exact ⟨β, res, v, H, rfl, ⟨rfl, rfl⟩, Agree.refl _ _, Nat.le_refl _, AV.flat_vr hf (Frz.vr (β2 := β) res r v hfrz hvr), AV.lt_mono (Nat.zero_le _) _ (Frz.closed res r hfrz), R.kept R1.below⟩
end Go.AL
namespace Go.AL
open Go.RowKit
end Go.AL
namespace Go.AL
open Go.RowKit
section
variable {P : Program} {ops : Array Oper} {K : Fr → Hp → Prop} {fr : Fr} {H : Hp} {f : FuncId} {args : List AV} {res : AV} {d : Option Tmp} {c : Ww} {k i j a t v e : Nat}
theorem Q3 (S : Sure P ⟨[], .glob a t v e, j⟩ f args res) (hk : X3 H k = some ⟨[], .glob a t v e, i⟩) (h : Run P ops K c (fr.put d res) H) : ECall P ops K d c fr f args H := by
  refine Q5 (S.call hk) ?_
  rintro _ _ ⟨rfl, rfl⟩
  exact h
theorem J0x {args' : List AV} (S : Sure P ⟨[], .glob a t v e, j⟩ f args' res) (hk : X3 H k = some ⟨[], .glob a t v e, i⟩) (hf : res.flat = true) (hz : Frzs H args' args) (h : Run P ops K c (fr.put d res) H) : ECall P ops K d c fr f args H := by
  refine Q5 (S.lend hk hz hf) ?_
  rintro _ _ ⟨rfl, rfl⟩
  exact h
theorem hget_ext' {H H' : Hp} {k : Nat} {b : Blk} (h : X3 H k = some b) (x : ∃ E, H' = H ++ E) : X3 H' k = some b := by
  obtain ⟨E, rfl⟩ := x
  unfold X3 at h ⊢
  rw [List.getElem?_append_left (List.getElem?_eq_some_iff.1 h).1]
  exact h
theorem Qa (S : Sure P ⟨[], .glob a t v e, j⟩ f args res) (hk : X3 H k = some ⟨[], .glob a t v e, i⟩) (h : Run P ops K c (fr.put d res) H) : EPure P ops K d c fr f args H :=
  Xd (fun H' x => (S.call (hget_ext' hk x)).mono fun r H'' ⟨h1, h2⟩ => ⟨h1, h2⟩) h
end
theorem Jq (b : Blk) (H : Hp) : X3 (b :: H) 0 = some b := id rfl
theorem hget_s (b : Blk) (H : Hp) (n : Nat) : X3 (b :: H) (n + 1) = X3 H n := id rfl
theorem aload_fp {P : Program} {H : Hp} {t : TypeId} {cs : List AV} : V7 P H t (.fp cs) = (match Xp P t, Xf P t with
    | some true, some n => if n ≤ cs.length then some (.agg (cs.take n)) else none
    | some false, _ => cs[0]?
    | _, _ => none) := id rfl
theorem drop_int {k : IntKind} {xs : List Int} {i : Nat} (h : i < xs.length) : (List.drop i (xs.map (AV.int k)))[0]? = some (.int k (xs.getD i 0)) := by
  rw [List.getElem?_drop, Nat.add_zero]; exact map_geti h
theorem Sure.body {P : Program} {n0 : Blk} {f : FuncId} {args : List AV} {res : AV} {fn : Func} {c : Code} (hcl : AV.lts 0 args) (hf : P.funcs[f]? = some fn) (hb : fn.body = some c) (hn : (fn.name == "runtime.NumGoroutine") = false)
    (hfit : Nd (args.length + (fn.ntmps - args.length)) c = true) (h : AWp (n := ⟨1, true⟩) P c (fr0 args) [n0] (AEnd P fn fun r H' => Frz H' res r)) : Sure P n0 f args res := ⟨hcl, SCalls_body hf hb hn hfit h⟩
section
variable {H : Hp}
theorem Frz_int {k : IntKind} {n : Int} {r : AV} : Frz H (.int k n) r = (r = .int k n) := by simp only [Frz]
theorem Frz_bool {b : Bool} {r : AV} : Frz H (.bool b) r = (r = .bool b) := by simp only [Frz]
theorem Frz_str {s : ByteArray} {r : AV} : Frz H (.str s) r = (r = .str s) := by simp only [Frz]
theorem Frz_nilI {r : AV} : Frz H .nilI r = (r = .nilI) := by simp only [Frz]
theorem Frz_nilP {r : AV} : Frz H .nilP r = (r = .nilP) := by simp only [Frz]
theorem Frz_agg {cs ds : List AV} : Frz H (.agg cs) (.agg ds) = Frzs H cs ds := by
  simp only [Frz, AV.agg.injEq]
  exact propext ⟨fun ⟨_, h, h2⟩ => h ▸ h2, fun h => ⟨_, rfl, h⟩⟩
theorem Frz_tup {cs ds : List AV} : Frz H (.tup cs) (.tup ds) = Frzs H cs ds := by
  simp only [Frz, AV.tup.injEq]
  exact propext ⟨fun ⟨_, h, h2⟩ => h ▸ h2, fun h => ⟨_, rfl, h⟩⟩
theorem Frz_ifc {t : TypeId} {x y : AV} : Frz H (.ifc t x) (.ifc t y) = Frz H x y := by
  simp only [Frz, AV.ifc.injEq, true_and]
  exact propext ⟨fun ⟨_, h, h2⟩ => h ▸ h2, fun h => ⟨_, rfl, h⟩⟩
theorem Frzs_nil : Frzs H [] [] = True := by simp only [Frzs]
theorem J1r {c d : AV} {cs ds : List AV} : Frzs H (c :: cs) (d :: ds) = (Frz H c d ∧ Frzs H cs ds) := by
  simp only [Frzs, List.cons.injEq]
  exact propext ⟨fun ⟨_, _, ⟨h, h'⟩, h2⟩ => h ▸ h' ▸ h2, fun h => ⟨_, _, ⟨rfl, rfl⟩, h⟩⟩
theorem Frz_fz {n : Nat} {cs : List AV} : Frz H (.fz n cs) (.fz n cs) := by simp only [Frz]; exact .inl trivial
theorem Frz_fp {cs : List AV} : Frz H (.fp cs) (.fp cs) := by simp only [Frz]; exact .inl trivial
theorem Frz_nilS : Frz H (.fz 0 []) .nilS := by simp only [Frz]; exact .inr ⟨0, [], rfl, trivial, by simp only [Frzs]⟩
theorem Frzs_self : ∀ {cs : List AV}, (∀ c ∈ cs, Frz H c c) → Frzs H cs cs
  | [], _ => by simp only [Frzs]
  | c :: cs, h => by
    rw [J1r]
    exact ⟨h c (List.mem_cons_self ..), Frzs_self fun d hd => h d (List.mem_cons_of_mem _ hd)⟩
theorem Frzs_ints {k : IntKind} (xs : List Int) : Frzs H (xs.map (AV.int k)) (xs.map (AV.int k)) := Frzs_self fun c hc => by
  obtain ⟨n, _, rfl⟩ := List.mem_map.1 hc
  rw [Frz_int]
theorem Rd.frz {z n : Nat} {v : AV} {cs ds : List AV} (h : Rd H z v ds n) (hs : Frzs H cs ds) : Frz H (.fz n cs) v := by
  simp only [Frz]
  exact .inr ⟨z, ds, h.row, h.fine, hs⟩
theorem Ints.frz {k : IntKind} {v : AV} {xs : List Int} (h : Ints H k v xs) : Frz H (.fz xs.length (xs.map (AV.int k))) v := h.rd.frz (Frzs_ints xs)
theorem Frz_sl {h o n c z : Nat} {b : Blk} {cs : List AV} (hb : X3 H h = some b) (hd : b.kind ≠ .dead) (hc : n ≤ c) (hl : o + n * z ≤ b.cells.length) (hs : Frzs H cs ((b.cells.drop o).take (n * z))) : Frz H (.fz n cs) (.sl h o n c) := by
  simp only [Frz]
  exact .inr ⟨z, _, by simp only [arow, hb]; rw [if_neg hd, if_pos hl], hc, hs⟩
theorem Frz_sg {h o n z : Nat} {b : Blk} {cs : List AV} (hb : X3 H h = some b) (hd : b.kind ≠ .dead) (hl : o + n * z ≤ b.cells.length) (hs : Frzs H cs ((b.cells.drop o).take (n * z))) : Frz H (.fz n cs) (.sg h o n z) := by
  simp only [Frz]
  exact .inr ⟨z, _, by simp only [arow, hb]; rw [if_neg hd, if_pos hl], rfl, hs⟩
theorem Frz_ptr {h o : Nat} {b : Blk} {cs : List AV} (hb : X3 H h = some b) (hd : b.kind ≠ .dead) (hl : o + cs.length ≤ b.cells.length) (hs : Frzs H cs ((b.cells.drop o).take cs.length)) : Frz H (.fp cs) (.ptr h o) := by
  simp only [Frz]
  exact .inr ⟨h, o, b, rfl, hb, hd, hl, hs⟩
end
theorem Rd.fz (H : Hp) {z n : Nat} {cs : List AV} (hl : cs.length = n * z) : Rd H z (.fz n cs) cs n := ⟨by simp only [arow]; rw [if_pos hl], trivial⟩
theorem Ints.fz (H : Hp) (k : IntKind) (xs : List Int) : Ints H k (.fz xs.length (xs.map (AV.int k))) xs := Rd.fz H (by rw [List.length_map, Nat.mul_one])
theorem Sure.of {P : Program} {n0 : Blk} {f : FuncId} {args : List AV} {res : AV} {R : AV → Hp → Prop} (hcl : AV.lts 0 args) (h : ACalls P f args [n0] R) (hr : ∀ r H', R r H' → Frz H' res r) : Sure P n0 f args res := ⟨hcl, h.s.mono hr⟩
theorem AV.lts_z : AV.lts 0 [] = True := id rfl
theorem AV.lts_s {c : AV} {cs : List AV} : AV.lts 0 (c :: cs) = (c.lt 0 ∧ AV.lts 0 cs) := id rfl
theorem AV.lt_agg {cs : List AV} : AV.lt 0 (.agg cs) = AV.lts 0 cs := by simp only [AV.lt]
theorem AV.lt_int {k : IntKind} {n : Int} : AV.lt 0 (.int k n) = True := by simp only [AV.lt]
theorem AV.lt_bool {b : Bool} : AV.lt 0 (.bool b) = True := by simp only [AV.lt]
theorem AV.lt_str {s : ByteArray} : AV.lt 0 (.str s) = True := by simp only [AV.lt]
theorem AV.lt_fz {n : Nat} {cs : List AV} : AV.lt 0 (.fz n cs) = True := by simp only [AV.lt]
theorem AV.lt_fp {cs : List AV} : AV.lt 0 (.fp cs) = True := by simp only [AV.lt]
theorem AV.lt_nilI : AV.lt 0 .nilI = True := by simp only [AV.lt]
theorem AV.lt_nilP : AV.lt 0 .nilP = True := by simp only [AV.lt]
theorem AV.lt_nilS : AV.lt 0 .nilS = True := by simp only [AV.lt]
theorem AV.lt_ifc {t : TypeId} {x : AV} : AV.lt 0 (.ifc t x) = AV.lt 0 x := by simp only [AV.lt]
theorem AV.lts_ints {k : IntKind} : ∀ (xs : List Int), AV.lts 0 (xs.map (AV.int k))
  | [] => trivial
  | x :: xs => ⟨trivial, AV.lts_ints xs⟩
theorem AV.solid_fz {n : Nat} {cs : List AV} : AV.solid (.fz n cs) = true := id rfl
theorem AV.one_fz {n : Nat} {cs : List AV} : AV.one (.fz n cs) = true := id rfl
theorem AV.cells_fz {n : Nat} {cs : List AV} : AV.cells (.fz n cs) = [.fz n cs] := id rfl
theorem AV.solid_fp {cs : List AV} : AV.solid (.fp cs) = true := id rfl
theorem AV.one_fp {cs : List AV} : AV.one (.fp cs) = true := id rfl
theorem AV.cells_fp {cs : List AV} : AV.cells (.fp cs) = [.fp cs] := id rfl
end Go.AL
namespace Go.AL
theorem at_fz1 {P : Program} {t e : TypeId} {n : Nat} {cs : List AV} {l : IntKind} {j : Int} (hu : P.underlying t = some (.slice e)) (hz : Xf P e = some 1) (h0 : 0 ≤ j) (h1 : j < (n : Int)) : Qx P t (.fz n cs) (.int l j) = some (.fp (cs.drop j.toNat)) := by
  simp [Qx, hu, hz, h0, h1]
theorem eq_fp_nil {P : Program} {t e : TypeId} {cs : List AV} (hu : P.underlying t = some (.pointer e)) : Xm P Op.maxDepth t (.fp cs) .nilP = some false := W9 fun d => by simp [Xm, hu]
end Go.AL

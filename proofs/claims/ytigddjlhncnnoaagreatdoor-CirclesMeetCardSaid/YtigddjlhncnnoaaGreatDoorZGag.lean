/- Part 7 of the proof of laws of this seat: lemmas on the model's code, on this program's functions, on numbers. No condition. -/
import Derived.Test.YtigddjlhncnnoaaGreatDoorZGaf
import Derived.ProofKit
set_option linter.unusedVariables false
set_option linter.unusedSimpArgs false
open Nat renaming reduceEqDiff → J0, reduceLeDiff → J1, reduceMul → J2, reduceAdd → J3, reduceSub → J4, reduceLT → J5
open Int renaming reduceToNat → J6, reducePow → J7, reduceNeg → J8, reduceLT → J9, reduceLE → Ja, reduceEq → Jb
open And renaming intro → Jc
open Go.IntKind renaming bits → Jd
namespace Go.AL
open Go.RowKit
def V9 (P : Program) (ops : Array Oper) (i : Nat) (fr : Fr) (H : Hp) (X : Fr → Hp → Prop) : Prop :=
  match ops[i]? with
  | some o => AStep1 P ops o fr H X
  | none => False
def AAny (P : Program) (ops : Array Oper) (M : Nat → Bool) (K : Fr → Hp → Prop) : Nat → Array Bool → Fr → Hp → Prop
  | 0, listed, fr, H => Region.ready .any ops listed = [] ∧ K fr H
  | n + 1, listed, fr, H => (Region.ready .any ops listed = [] → K fr H) ∧ ∀ i ∈ Region.ready .any ops listed, V9 P ops i fr H (fun fr1 H1 => (M i = true → ∃ E, H1 = H ++ E) ∧ AAny P ops M K n (listed.setIfInBounds i true) fr1 H1)
def Waits (ops : Array Oper) (D : Nat → Bool) (i : Nat) : Prop := ∀ j, D j = true → ∃ o, ops[j]? = some o ∧ ∃ e ∈ o.after, Region.binds .any e = true ∧ (e.on = i ∨ D e.on = true)
theorem not_ready {ops : Array Oper} {D : Nat → Bool} {i : Nat} (hw : Waits ops D i) {listed : Array Bool} (hi : listed.getD i true = false) (hD : ∀ j, D j = true → listed.getD j true = false) {j : Nat} (hj : j ∈ Region.ready .any ops listed) : D j = false := by
  cases hd : D j with
  | false => rfl
  | true =>
    obtain ⟨o, ho, e, he, hb, hon⟩ := hw j hd
    obtain ⟨_, o', ho', hall⟩ := mem_ready.1 hj
    rw [ho] at ho'; cases ho'
    have h1 := hall e he hb
    have h2 : listed.getD e.on true = false := by
      rcases hon with h | h
      · rw [h]; exact hi
      · exact hD _ h
    rw [Array.getD_eq_getD_getElem?] at h1 h2
    cases hx : listed[e.on]? with
    | none => rw [hx] at h1; cases h1
    | some b => rw [hx] at h1 h2; simp at h1 h2; rw [h1] at h2; cases h2
def Gc (P : Program) : Op → Bool
  | .load .. => true
  | op => Gu P op
def growOp (P : Program) : Op → Bool
  | .alloc .. | .box .. | .makeSlice .. | .buildSlice .. => true
  | op => Ur P op
theorem pureOp_quiet {P : Program} {op : Op} (h : Gu P op = true) : Ur P op = true := by
  cases op <;> simp only [Gu, Bool.false_eq_true] at h <;> simp only [Ur, Gu] <;> try exact h
  split at h
  · rename_i h1 h2; rw [h2]
  · cases h
theorem Rw {P : Program} {op : Op} (h : Gc P op = true) : Ur P op = true := by
  cases op <;> simp only [Gc] at h <;> first | rfl | exact pureOp_quiet h
theorem aload_ext {P : Program} {H H' : Hp} {t : TypeId} {x v : AV} (h : V7 P H t x = some v) (he : ∃ E, H' = H ++ E) : V7 P H' t x = some v := by
  obtain ⟨E, rfl⟩ := he
  unfold V7 at h ⊢
  cases x <;> simp only at h ⊢ <;> try (first | (cases h; done) | exact h)
  split at h
  · rename_i b hb
    unfold X3 at hb
    have hb' : ∀ k, H[k]? = some b → X3 (H ++ E) k = some b := fun k hk => by
      unfold X3
      rw [List.getElem?_append_left (List.getElem?_eq_some_iff.1 hk).1]
      exact hk
    rw [hb' _ hb]
    exact h
  · cases h
theorem stableOp_step {P : Program} {fr : Fr} {H : Hp} {op : Op} (hp : Gc P op = true) {v : AV} {H1 : Hp} (h : Q6 P fr H op = some (v, H1)) : ∀ H', (∃ E, H' = H ++ E) → Q6 P fr H' op = some (v, H') := by
  cases op <;> simp only [Gc] at hp <;> first
    | (intro H' _; exact (pureOp_step hp h).2 H')
    | skip
  rename_i t x
  intro H' he
  simp only [Q6] at h ⊢
  obtain ⟨y, hy, hv⟩ := Option.map_eq_some_iff.1 h
  cases hv
  rw [aload_ext hy he]
  rfl
theorem growOp_step {P : Program} {fr : Fr} {H : Hp} {op : Op} (hp : growOp P op = true) {v : AV} {H1 : Hp} (h : Q6 P fr H op = some (v, H1)) : ∃ E, H1 = H ++ E := by
  have hq : ∀ {op : Op}, Ur P op = true → Q6 P fr H op = some (v, H1) → ∃ E, H1 = H ++ E := fun hq h => ⟨[], by rw [Ge hq h, List.append_nil]⟩
  cases op <;> simp only [growOp] at hp <;> first
    | exact hq hp h
    | skip
  all_goals simp only [Q6] at h
  case alloc t =>
    obtain ⟨z, _, h⟩ := Option.bind_eq_some_iff.1 h
    unfold Jw at h; split at h <;> cases h; exact ⟨_, rfl⟩
  case box t x => unfold Jw at h; split at h <;> cases h; exact ⟨_, rfl⟩
  case buildSlice t n ps =>
    unfold Jf at h
    split at h
    · split at h
      · split at h
        · split at h
          · split at h
            · cases h; exact ⟨_, rfl⟩
            · cases h
          · cases h
        · split at h
          · cases h; exact ⟨_, rfl⟩
          · cases h
      · cases h
    · cases h
  case makeSlice t l c =>
    unfold Yk at h
    split at h
    · split at h
      · split at h
        · cases h; exact ⟨_, rfl⟩
        · cases h
      · cases h
    · cases h
theorem growOp_nocall {P : Program} {fr : Fr} {op : Op} (hp : growOp P op = true) : Q8 P fr op = none := by
  cases op <;> simp only [growOp] at hp <;> first
    | rfl
    | exact U8 hp
def ASure (P : Program) (ops : Array Oper) (o : Oper) (fr : Fr) (H : Hp) (v : AV) : Prop :=
  match Jp ops fr o with
  | some true =>
    match Q8 P fr o.op with
    | some (f, args) => ∀ H', (∃ E, H' = H ++ E) → ACallO P f args H' fun r H'' => r = v ∧ H' = H''
    | none => ∀ H', (∃ E, H' = H ++ E) → Q6 P fr H' o.op = some (v, H')
  | some false => v = .tup []
  | none => False
theorem ASure.step {P : Program} {ops : Array Oper} {o : Oper} {fr : Fr} {H H' : Hp} {v : AV} {Y : Fr → Hp → Prop} (h : ASure P ops o fr H v) (he : ∃ E, H' = H ++ E) (hy : Y (fr.put o.dst v) H') : AStep1 P ops o fr H' Y := by
  unfold ASure at h
  unfold AStep1 Uf Uo Wc
  split at h
  · rename_i hw
    simp only [hw, if_true]
    split at h
    · rename_i f args hc
      simp only [hc]
      exact (h H' he).mono fun r H'' ⟨h1, h2⟩ => by subst h1; subst h2; exact hy
    · rename_i hc
      simp only [hc, h H' he]
      exact hy
  · rename_i hw
    subst h
    simp only [hw, Bool.false_eq_true, if_false]
    exact hy
  · exact h.elim
theorem ASure.put {P : Program} {ops : Array Oper} {o p : Oper} {fr : Fr} {H H' : Hp} {v u : AV} (h : ASure P ops o fr H v) (ha : ∀ t, p.dst = some t → t ∉ o.looksAt ops) (he : ∃ E, H' = H ++ E) : ASure P ops o (fr.put p.dst u) H' v := by
  have hop : ∀ x ∈ o.op.operands, ev (fr.put p.dst u) x = ev fr x := fun x hx => ev_put fun t ht => looks_op (ha t ht) x hx
  have hog : Jp ops (fr.put p.dst u) o = Jp ops fr o := looks_guard' ha
  have hx : ∀ H'', (∃ E, H'' = H' ++ E) → ∃ E, H'' = H ++ E := by
    rintro _ ⟨E, rfl⟩
    obtain ⟨E', rfl⟩ := he
    exact ⟨E' ++ E, by rw [List.append_assoc]⟩
  unfold ASure at h ⊢
  rw [hog]
  split at h
  · rw [Nf (fr' := fr) hop]
    split at h
    · exact fun H'' h2 => h H'' (hx H'' h2)
    · exact fun H'' h2 => by rw [G5 (fr' := fr) hop]; exact h H'' (hx H'' h2)
  · exact h
  · exact h.elim
theorem AStep1.sure {P : Program} {ops : Array Oper} {o : Oper} {fr : Fr} {H : Hp} {X : Fr → Hp → Prop} (hq : Gc P o.op = true) (h : AStep1 P ops o fr H X) : ∃ v, ASure P ops o fr H v ∧ X (fr.put o.dst v) H := by
  have hn := U8 (fr := fr) (Rw hq)
  unfold AStep1 Uf Uo Wc at h
  unfold ASure
  split at h
  · rename_i t hw
    cases t
    · simp only [Bool.false_eq_true, if_false] at h
      exact ⟨_, by simp only [hw], h⟩
    · simp only [if_true, hn] at h ⊢
      split at h
      · rename_i v H' hs
        have := Ge (Rw hq) hs
        subst this
        exact ⟨v, by simp only [hw]; exact stableOp_step hq hs, h⟩
      · exact h.elim
  · exact h.elim
theorem AStep1.growX {P : Program} {ops : Array Oper} {o p : Oper} {mk : Bool} {fr : Fr} {H : Hp} {v : AV} {X : Fr → Hp → Prop} (hg : growOp P p.op = true ∨ mk = true) (ha : ∀ t, o.dst = some t → t ∉ p.looksAt ops) (h : AStep1 P ops p (fr.put o.dst v) H fun fr1 H1 => (mk = true → ∃ E, H1 = H ++ E) ∧ X fr1 H1) :
    AStep1 P ops p fr H fun fr1 H1 => ∃ u, fr1 = fr.put p.dst u ∧ (∃ E, H1 = H ++ E) ∧ X ((fr.put o.dst v).put p.dst u) H1 := by
  have hop : ∀ x ∈ p.op.operands, ev (fr.put o.dst v) x = ev fr x := fun x hx => ev_put fun t ht => looks_op (ha t ht) x hx
  have hog : Jp ops (fr.put o.dst v) p = Jp ops fr p := looks_guard' ha
  unfold AStep1 Uf Uo Wc at h
  rw [hog, Nf (fr' := fr) hop, G5 (fr' := fr) hop] at h
  unfold AStep1 Uf Uo Wc
  split at h
  · rename_i t hw
    cases t
    · simp only [Bool.false_eq_true, if_false] at h ⊢
      exact ⟨_, rfl, ⟨[], by simp⟩, h.2⟩
    · simp only [if_true] at h ⊢
      split at h
      · rename_i f args hc
        have hm : mk = true := by
          rcases hg with hg | hg
          · rw [growOp_nocall hg] at hc; cases hc
          · exact hg
        exact h.mono fun r H' hx => ⟨r, rfl, hx.1 hm, hx.2⟩
      · split at h
        · rename_i u H' hs
          refine ⟨u, rfl, ?_, h.2⟩
          rcases hg with hg | hg
          · exact growOp_step hg hs
          · exact h.1 hg
        · exact h.elim
  · exact h.elim
def J1m (P : Program) (ops : Array Oper) (mk : Bool) (o p : Oper) : Bool := o.apart ops p && (growOp P p.op || mk)
theorem AAny_firstS {P : Program} {ops : Array Oper} {M : Nat → Bool} {K : Fr → Hp → Prop} {i : Nat} {o : Oper} {D : Nat → Bool} (hw : Waits ops D i) (ho : ops[i]? = some o) : ∀ (n : Nat) (listed : Array Bool) (fr : Fr) (H : Hp) (v : AV), i ∈ Region.ready .any ops listed →
    (∀ j, D j = true → listed.getD j true = false) →
    (∀ (j : Nat) oj, j ≠ i → listed.getD j true = false → D j = false → ops[j]? = some oj → J1m P ops (M j) o oj = true) → ASure P ops o fr H v → AAny P ops M K n (listed.setIfInBounds i true) (fr.put o.dst v) H → AAny P ops M K (n + 1) listed fr H := by
  intro n
  induction n with
  | zero =>
    intro listed fr H v hi hD hfree hs h
    refine ⟨fun h0 => (by rw [h0] at hi; cases hi), fun j hj => ?_⟩
    by_cases hji : j = i
    · subst hji; unfold V9; simp only [ho]; exact hs.step ⟨[], by simp⟩ ⟨fun _ => ⟨[], by simp⟩, h⟩
    · have := ready_mono hj hji
      rw [h.1] at this
      cases this
  | succ n ih =>
    intro listed fr H v hi hD hfree hs h
    refine ⟨fun h0 => (by rw [h0] at hi; cases hi), fun j hj => ?_⟩
    by_cases hji : j = i
    · subst hji; unfold V9; simp only [ho]; exact hs.step ⟨[], by simp⟩ ⟨fun _ => ⟨[], by simp⟩, h⟩
    · have h1 := h.2 j (ready_mono hj hji)
      obtain ⟨hjl, oj, hoj, _⟩ := mem_ready.1 hj
      unfold V9 at h1 ⊢
      simp only [hoj] at h1 ⊢
      have hdj : D j = false := not_ready hw (mem_ready.1 hi).1 hD hj
      have hm := hfree j oj hji hjl hdj hoj
      simp only [J1m, Bool.and_eq_true, Bool.or_eq_true] at hm
      obtain ⟨a1, a2, a3⟩ := Oper.apart_spec hm.1
      refine (AStep1.growX hm.2 a1 h1).mono ?_
      rintro _ H' ⟨u, rfl, h3, h4⟩
      refine ⟨fun _ => h3, ih (listed.setIfInBounds j true) _ H' v (ready_mono hi (Ne.symm hji)) (fun k hk => ?_) (fun k ok hki hkl hkd hok => hfree k ok hki ?_ hkd hok) (hs.put a3 h3) ?_⟩
      · have hkj : j ≠ k := fun e => by subst e; rw [hdj] at hk; cases hk
        rw [Array.getD_eq_getD_getElem?, Array.getElem?_setIfInBounds_ne hkj, ← Array.getD_eq_getD_getElem?]
        exact hD k hk
      · by_cases hkj : k = j
        · subst hkj
          rw [Array.getD_eq_getD_getElem?, Array.getElem?_setIfInBounds_self] at hkl
          split at hkl <;> simp at hkl
        · rw [Array.getD_eq_getD_getElem?, Array.getElem?_setIfInBounds_ne (by omega)] at hkl
          rw [Array.getD_eq_getD_getElem?]
          exact hkl
      · rw [Array.setIfInBounds_comm _ _ (show j ≠ i from hji), ← put_comm a2]
        exact h4
theorem AAny_first {P : Program} {ops : Array Oper} {M : Nat → Bool} {K : Fr → Hp → Prop} {i : Nat} {o : Oper} {D : Nat → Bool} (hw : Waits ops D i) (ho : ops[i]? = some o) (hq : Ur P o.op = true) : ∀ (n : Nat) (listed : Array Bool) (fr : Fr) (H : Hp), i ∈ Region.ready .any ops listed →
    (∀ j, D j = true → listed.getD j true = false) →
    (∀ (j : Nat) oj, j ≠ i → listed.getD j true = false → D j = false → ops[j]? = some oj → mayPass P ops o oj = true ∨ (Gc P o.op = true ∧ J1m P ops (M j) o oj = true)) → AStep1 P ops o fr H (AAny P ops M K n (listed.setIfInBounds i true)) → AAny P ops M K (n + 1) listed fr H := by
  have toM : ∀ (X : Fr → Hp → Prop) (fr : Fr) (H : Hp), AStep1 P ops o fr H X → AStep1 P ops o fr H fun fr1 H1 => (M i = true → ∃ E, H1 = H ++ E) ∧ X fr1 H1 := by
    intro X fr H h
    obtain ⟨v, hv, back⟩ := AStep1.quiet hq h
    exact back _ ⟨fun _ => ⟨[], by simp⟩, hv⟩
  intro n
  induction n with
  | zero =>
    intro listed fr H hi hD hfree h
    refine ⟨fun h0 => (by rw [h0] at hi; cases hi), fun j hj => ?_⟩
    by_cases hji : j = i
    · subst hji; unfold V9; simp only [ho]; exact toM _ _ _ h
    · obtain ⟨v, hv, _⟩ := AStep1.quiet hq h
      have := ready_mono hj hji
      rw [hv.1] at this
      cases this
  | succ n ih =>
    intro listed fr H hi hD hfree h
    refine ⟨fun h0 => (by rw [h0] at hi; cases hi), fun j hj => ?_⟩
    by_cases hji : j = i
    · subst hji; unfold V9; simp only [ho]; exact toM _ _ _ h
    · have hjr := mem_ready.1 hj
      obtain ⟨hjl, oj, hoj, _⟩ := hjr
      have hdj : D j = false := not_ready hw (mem_ready.1 hi).1 hD hj
      have h2' : AStep1 P ops oj fr H fun fr1 H1 => (M j = true → ∃ E, H1 = H ++ E) ∧ AStep1 P ops o fr1 H1 (AAny P ops M K n ((listed.setIfInBounds i true).setIfInBounds j true)) := by
        rcases hfree j oj hji hjl hdj hoj with hm | ⟨hm1, hm2⟩
        · obtain ⟨v, hv, back⟩ := AStep1.quiet hq h
          have h1 := hv.2 j (ready_mono hj hji)
          unfold V9 at h1
          simp only [hoj] at h1
          have h2 : AStep1 P ops o fr H fun fr1 H1 => AStep1 P ops oj fr1 H1 fun fr2 H2 => (M j = true → ∃ E, H2 = H ++ E) ∧ (AAny P ops M K n ((listed.setIfInBounds i true).setIfInBounds j true)) fr2 H2 := back _ h1
          refine (h2.swap hm).mono fun fr1 H1 h3 => ?_
          obtain ⟨v', hv', back'⟩ := AStep1.quiet hq h3
          exact ⟨hv'.1, back' _ hv'.2⟩
        · obtain ⟨v, hs, hv⟩ := AStep1.sure hm1 h
          have h1 := hv.2 j (ready_mono hj hji)
          unfold V9 at h1
          simp only [hoj] at h1
          simp only [J1m, Bool.and_eq_true, Bool.or_eq_true] at hm2
          obtain ⟨a1, a2, a3⟩ := Oper.apart_spec hm2.1
          refine (AStep1.growX hm2.2 a1 h1).mono ?_
          rintro _ H' ⟨u, rfl, h3, h4⟩
          refine ⟨fun _ => h3, (hs.put a3 h3).step ⟨[], by simp⟩ ?_⟩
          rw [← put_comm a2]
          exact h4
      unfold V9
      simp only [hoj]
      refine h2'.mono fun fr1 H1 h3 => ⟨h3.1, ?_⟩
      refine ih (listed.setIfInBounds j true) fr1 H1 (ready_mono hi (Ne.symm hji)) (fun k hk => ?_) (fun k ok hki hkl hkd hok => hfree k ok hki ?_ hkd hok) ?_
      · have hkj : j ≠ k := fun e => by subst e; rw [hdj] at hk; cases hk
        rw [Array.getD_eq_getD_getElem?, Array.getElem?_setIfInBounds_ne hkj, ← Array.getD_eq_getD_getElem?]
        exact hD k hk
      · by_cases hkj : k = j
        · subst hkj
          rw [Array.getD_eq_getD_getElem?, Array.getElem?_setIfInBounds_self] at hkl
          split at hkl <;> simp at hkl
        · rw [Array.getD_eq_getD_getElem?, Array.getElem?_setIfInBounds_ne (by omega)] at hkl
          rw [Array.getD_eq_getD_getElem?]
          exact hkl
      · rw [Array.setIfInBounds_comm _ _ (show j ≠ i from hji)]
        exact h3.2
inductive Plan where
  | nil
  | one (i : Nat) (p : Plan)
  | pur (i : Nat) (p : Plan)
  | alt (i : Nat) (p q : Plan)
  | ext (i : Nat) (p : Plan)
def AStepS (P : Program) (ops : Array Oper) (i : Nat) (fr : Fr) (H : Hp) (X : Fr → Hp → Prop) : Prop :=
  match ops[i]? with
  | some o => ∃ v, ASure P ops o fr H v ∧ X (fr.put o.dst v) H
  | none => False
def AOrd (P : Program) (ops : Array Oper) (K : Fr → Hp → Prop) : Plan → Fr → Hp → Prop
  | .nil, fr, H => K fr H
  | .one i p, fr, H => V9 P ops i fr H (AOrd P ops K p)
  | .pur i p, fr, H => AStepS P ops i fr H (AOrd P ops K p)
  | .alt i p q, fr, H => V9 P ops i fr H (AOrd P ops K p) ∧ AOrd P ops K q fr H
  | .ext i p, fr, H => V9 P ops i fr H (fun fr1 H1 => (∃ E, H1 = H ++ E) ∧ AOrd P ops K p fr1 H1)
def Kz (ops : Array Oper) (i : Nat) : Array Bool := ops.foldl (fun D o => D.push (o.after.any fun e => Region.binds .any e && (e.on == i || D.getD e.on false))) #[]
def waitsOk (ops : Array Oper) (D : Array Bool) (i : Nat) : Bool :=
  (List.range D.size).all fun j => !D.getD j false || (match ops[j]? with | some o => o.after.any (fun e => Region.binds .any e && (e.on == i || D.getD e.on false)) | none => false)
theorem Wx {ops : Array Oper} {D : Array Bool} {i : Nat} (h : waitsOk ops D i = true) : Waits ops (fun j => D.getD j false) i := by
  intro j hj
  unfold waitsOk at h
  have hlt : j < D.size := by
    rcases Nat.lt_or_ge j D.size with h | h
    · exact h
    · simp [Array.getD_eq_getD_getElem?, h] at hj
  have := (List.all_eq_true.1 h) j (List.mem_range.2 hlt)
  simp only [hj, Bool.not_true, Bool.false_or] at this
  split at this
  · rename_i o ho
    refine ⟨o, ho, ?_⟩
    obtain ⟨e, he, h2⟩ := Array.any_eq_true'.1 this
    simp only [Bool.and_eq_true, Bool.or_eq_true, beq_iff_eq] at h2
    exact ⟨e, he, h2.1, h2.2⟩
  · cases this
def freeD (P : Program) (ops : Array Oper) (M : Nat → Bool) (listed : Array Bool) (i : Nat) (D : Array Bool) : Bool :=
  waitsOk ops D i && ((List.range D.size).all fun j => !D.getD j false || !listed.getD j true) &&
  match ops[i]? with
  | some o => Ur P o.op && (List.range ops.size).all fun j => j == i || listed.getD j true || D.getD j false || (match ops[j]? with | some oj => mayPass P ops o oj || (Gc P o.op && J1m P ops (M j) o oj) | none => true)
  | none => false
def free (P : Program) (ops : Array Oper) (M : Nat → Bool) (listed : Array Bool) (i : Nat) : Bool := freeD P ops M listed i (Kz ops i)
def freeS (P : Program) (ops : Array Oper) (M : Nat → Bool) (listed : Array Bool) (i : Nat) (D : Array Bool) : Bool :=
  waitsOk ops D i && ((List.range D.size).all fun j => !D.getD j false || !listed.getD j true) &&
  match ops[i]? with
  | some o => (List.range ops.size).all fun j => j == i || listed.getD j true || D.getD j false || (match ops[j]? with | some oj => J1m P ops (M j) o oj | none => true)
  | none => false
def Plan.ok (P : Program) (ops : Array Oper) (M : Nat → Bool) : Plan → Nat → List Nat → Array Bool → Bool
  | .nil, _, cov, listed => (Region.ready .any ops listed).isEmpty
  | .one i p, 0, _, _ => false
  | .one i p, n + 1, cov, listed => !(M i) && (Region.ready .any ops listed).contains i && (((Region.ready .any ops listed).all fun j => j == i || cov.contains j) || (cov.isEmpty && free P ops M listed i)) && p.ok P ops M n [] (listed.setIfInBounds i true)
  | .pur i p, 0, _, _ => false
  | .pur i p, n + 1, cov, listed => (Region.ready .any ops listed).contains i && (cov.isEmpty && freeS P ops M listed i (Kz ops i)) && p.ok P ops M n [] (listed.setIfInBounds i true)
  | .alt i p q, 0, _, _ => false
  | .alt i p q, n + 1, cov, listed => !(M i) && (Region.ready .any ops listed).contains i && p.ok P ops M n [] (listed.setIfInBounds i true) && q.ok P ops M (n + 1) (i :: cov) listed
  | .ext i p, 0, _, _ => false
  | .ext i p, n + 1, cov, listed => (Region.ready .any ops listed).contains i && ((Region.ready .any ops listed).all fun j => j == i || cov.contains j) && p.ok P ops M n [] (listed.setIfInBounds i true)
theorem Plan.sound {P : Program} {ops : Array Oper} {M : Nat → Bool} {K : Fr → Hp → Prop} : ∀ (p : Plan) (n : Nat) (cov : List Nat) (listed : Array Bool) (fr : Fr) (H : Hp), p.ok P ops M n cov listed = true → AOrd P ops K p fr H →
    (cov = [] ∨ ∃ m, n = m + 1 ∧ ∀ j ∈ cov, V9 P ops j fr H (fun fr1 H1 => (M j = true → ∃ E, H1 = H ++ E) ∧ AAny P ops M K m (listed.setIfInBounds j true) fr1 H1)) → AAny P ops M K n listed fr H
  | .nil, n, cov, listed, fr, H, hok, h, _ => by
    simp only [Plan.ok, List.isEmpty_iff] at hok
    cases n with
    | zero => exact ⟨hok, h⟩
    | succ n => exact ⟨fun _ => h, fun i hi => (by rw [hok] at hi; cases hi)⟩
  | .one i p, 0, cov, listed, fr, H, hok, _, _ => by simp [Plan.ok] at hok
  | .one i p, n + 1, cov, listed, fr, H, hok, h, hcov => by
    simp only [Plan.ok, Bool.and_eq_true, Bool.or_eq_true, Bool.not_eq_true'] at hok
    obtain ⟨⟨⟨hMi, hr⟩, hk⟩, hp⟩ := hok
    have noM : ∀ {x : Prop}, M i = true → x := fun hx => by rw [hMi] at hx; cases hx
    have hi : i ∈ Region.ready .any ops listed := by simpa using hr
    simp only [AOrd] at h
    have hstep : V9 P ops i fr H (AAny P ops M K n (listed.setIfInBounds i true)) := by
      unfold V9 at h ⊢
      split at h
      · exact h.mono fun fr1 H1 h1 => Plan.sound p n [] _ fr1 H1 hp h1 (.inl rfl)
      · exact h.elim
    rcases hk with hk | ⟨_, hf⟩
    rotate_left
    · unfold free freeD at hf
      simp only [Bool.and_eq_true] at hf
      obtain ⟨⟨hwt, hdl⟩, hf⟩ := hf
      split at hf
      · rename_i o ho
        simp only [Bool.and_eq_true] at hf
        refine AAny_first (Wx hwt) ho hf.1 n listed fr H hi ?_ ?_ ?_
        · intro j hj
          have hlt : j < (Kz ops i).size := by
            rcases Nat.lt_or_ge j (Kz ops i).size with h | h
            · exact h
            · simp [Array.getD_eq_getD_getElem?, h] at hj
          have := (List.all_eq_true.1 hdl) j (List.mem_range.2 hlt)
          simpa only [hj, Bool.not_true, Bool.false_or, Bool.not_eq_true'] using this
        · intro j oj hji hjl hjd hoj
          have hjs : j < ops.size := (Array.getElem?_eq_some_iff.1 hoj).1
          have := (List.all_eq_true.1 hf.2) j (List.mem_range.2 hjs)
          simp only [hoj, hjl, hjd, Bool.or_eq_true, Bool.and_eq_true, beq_iff_eq, hji, Bool.false_eq_true, or_self, false_or] at this
          exact this
        · unfold V9 at hstep; simpa only [ho] using hstep
      · cases hf
    · refine ⟨fun h0 => (by rw [h0] at hi; cases hi), fun j hj => ?_⟩
      have := (List.all_eq_true.1 hk) j hj
      simp only [Bool.or_eq_true, beq_iff_eq] at this
      rcases this with rfl | hc
      · unfold V9 at hstep ⊢
        split at hstep
        · exact hstep.mono fun fr1 H1 h1 => ⟨noM, h1⟩
        · exact hstep.elim
      · rcases hcov with rfl | ⟨m, hm, hcov⟩
        · simp at hc
        · cases hm; exact hcov j (by simpa using hc)
  | .pur i p, 0, cov, listed, fr, H, hok, _, _ => by simp [Plan.ok] at hok
  | .pur i p, n + 1, cov, listed, fr, H, hok, h, hcov => by
    simp only [Plan.ok, Bool.and_eq_true] at hok
    obtain ⟨⟨hr, _, hf⟩, hp⟩ := hok
    have hi : i ∈ Region.ready .any ops listed := by simpa using hr
    simp only [AOrd] at h
    unfold freeS at hf
    simp only [Bool.and_eq_true] at hf
    obtain ⟨⟨hwt, hdl⟩, hf⟩ := hf
    unfold AStepS at h
    split at h
    · rename_i o ho
      simp only [ho] at hf
      obtain ⟨v, hs, hx⟩ := h
      refine AAny_firstS (Wx hwt) ho n listed fr H v hi ?_ ?_ hs (Plan.sound p n [] _ _ H hp hx (.inl rfl))
      · intro j hj
        have hlt : j < (Kz ops i).size := by
          rcases Nat.lt_or_ge j (Kz ops i).size with h | h
          · exact h
          · simp [Array.getD_eq_getD_getElem?, h] at hj
        have := (List.all_eq_true.1 hdl) j (List.mem_range.2 hlt)
        simpa only [hj, Bool.not_true, Bool.false_or, Bool.not_eq_true'] using this
      · intro j oj hji hjl hjd hoj
        have hjs : j < ops.size := (Array.getElem?_eq_some_iff.1 hoj).1
        have := (List.all_eq_true.1 hf) j (List.mem_range.2 hjs)
        simp only [hoj, hjl, hjd, Bool.or_eq_true, beq_iff_eq, hji, Bool.false_eq_true, or_self, false_or] at this
        exact this
    · exact h.elim
  | .alt i p q, 0, cov, listed, fr, H, hok, _, _ => by simp [Plan.ok] at hok
  | .alt i p q, n + 1, cov, listed, fr, H, hok, h, hcov => by
    simp only [Plan.ok, Bool.and_eq_true, Bool.not_eq_true'] at hok
    obtain ⟨⟨⟨hMi, hr⟩, hp⟩, hq⟩ := hok
    have noM : ∀ {x : Prop}, M i = true → x := fun hx => by rw [hMi] at hx; cases hx
    simp only [AOrd] at h
    have hstep : V9 P ops i fr H (fun fr1 H1 => (M i = true → ∃ E, H1 = H ++ E) ∧ AAny P ops M K n (listed.setIfInBounds i true) fr1 H1) := by
      have h1 := h.1
      unfold V9 at h1 ⊢
      split at h1
      · exact h1.mono fun fr1 H1 h2 => ⟨noM, Plan.sound p n [] _ fr1 H1 hp h2 (.inl rfl)⟩
      · exact h1.elim
    refine Plan.sound q (n + 1) (i :: cov) listed fr H hq h.2 (.inr ⟨n, rfl, fun j hj => ?_⟩)
    rcases List.mem_cons.1 hj with rfl | hj
    · exact hstep
    · rcases hcov with rfl | ⟨m, hm, hcov⟩
      · cases hj
      · cases hm; exact hcov j hj
  | .ext i p, 0, cov, listed, fr, H, hok, _, _ => by simp [Plan.ok] at hok
  | .ext i p, n + 1, cov, listed, fr, H, hok, h, hcov => by
    simp only [Plan.ok, Bool.and_eq_true] at hok
    obtain ⟨⟨hr, hk⟩, hp⟩ := hok
    simp only [AOrd] at h
    refine ⟨fun h0 => (by rw [h0] at hr; simp at hr), fun j hj => ?_⟩
    have := (List.all_eq_true.1 hk) j hj
    simp only [Bool.or_eq_true, beq_iff_eq] at this
    rcases this with rfl | hc
    · unfold V9 at h ⊢
      split at h
      · exact h.mono fun fr1 H1 h1 => ⟨fun _ => h1.1, Plan.sound p n [] _ fr1 H1 hp h1.2 (.inl rfl)⟩
      · exact h.elim
    · rcases hcov with rfl | ⟨m, hm, hcov⟩
      · simp at hc
      · cases hm; exact hcov j (by simpa using hc)
section
variable {P : Program} {fr : Fr} {H : Hp} {Q : Exit → Fr → Hp → Prop}
theorem AAny_sound {M : Nat → Bool} {w0 : World} {B : Nat} {β0 : Env} {n0 : Nat} (ops : Array Oper) {K : Fr → Hp → Prop} (hfit : opsFit n0 ops.toList = true) :
    ∀ (n : Nat) (listed : Array Bool) (fr : Fr) (H : Hp) (β : Env) (w : World) (a : Act), AAny P ops M K n listed fr H → a.defers = [] → a.tmps.size = n0 → Rel w0 B β H w → FR β H.length fr a.tmps → ∀ m, m ≤ H.length → Agree m β0 β →
      wpAny P .any ops (APost w0 B β0 m n0 fun e fr' H' => e = .normal ∧ K fr' H') n listed a w
  | 0, listed, fr, H, β, w, a, h, hd, hs, R, F, m, hm, ag => ⟨h.1, hd, hs, β, fr, H, ⟨rfl, h.2⟩, ag, hm, F, R⟩
  | n + 1, listed, fr, H, β, w, a, h, hd, hs, R, F, m, hm, ag => by
    refine ⟨fun h0 => ⟨hd, hs, β, fr, H, ⟨rfl, h.1 h0⟩, ag, hm, F, R⟩, fun i hi => ?_⟩
    have h1 := h.2 i hi
    unfold V9 at h1
    split at h1
    case h_2 => exact h1.elim
    rename_i o ho
    replace h1 := h1.mono fun fr1 H1 h2 => h2.2
    have hdst : ∀ t, o.dst = some t → t < a.tmps.size := fun t ht => by rw [hs]; exact opsFit_all hfit i o t ho ht
    unfold wpOp
    simp only [ho]
    unfold AStep1 Uf Uo Wc at h1
    split at h1
    · rename_i t ht
      have hw := wantedA_eq F ht (fun j o' d h1 h2 => by rw [hs]; exact opsFit_all hfit j o' d h1 h2)
      rw [hw]
      have go : ∀ (v : AV) (x : Value) (H' : Hp) (w' : World) (β' : Env), AAny P ops M K n (listed.setIfInBounds i true) (fr.put o.dst v) H' → Agree H.length β β' → H.length ≤ H'.length → VR β' v x → v.lt H'.length → Rel w0 B β' H' w' →
          wpAny P .any ops (APost w0 B β0 m n0 fun e fr' H' => e = .normal ∧ K fr' H') n (listed.setIfInBounds i true) (a.put o.dst x) w' := by
        intro v x H' w' β' h1 h2 h3 h4 h5 h6
        exact AAny_sound ops hfit n _ _ _ β' w' _ h1 (by rw [Act.put_defers']; exact hd) (by rw [Act.put_size]; exact hs) h6 (FR_put (FR_congr F h2 h3) hdst h4 h5) m (by omega) (ag.trans h2 hm)
      cases t
      · simp only [Bool.false_eq_true, if_false] at h1 ⊢
        exact go (.tup []) Go.undef H w β h1 (Agree.refl _ _) (Nat.le_refl _) (by simp only [VR]; exact ⟨#[], rfl, rfl⟩) trivial R
      · simp only [if_true] at h1 ⊢
        refine .inl ?_
        unfold Oper.wp
        split at h1
        · rename_i f args hc
          obtain ⟨vs, hrun, hv, hl⟩ := run_acall F hc
          rw [hrun]
          rcases h1 with h1 | h1
          · obtain ⟨fn, hf, hb, hn⟩ := h1.1
            rw [callFunc_enter hf hb hn]
            simp only [Oper.upon]
            refine (h1.2 w0 B β w vs R hv hl).mono ?_
            rintro e w' ⟨β', r, v, H', rfl, g1, g2, g3, g4, g5, g6⟩
            exact go r v H' w' β' g1 g2 g3 g4 g5 g6
          · obtain ⟨v, w', β', r, H', g0, g1, g2, g3, g4, g5, g6⟩ := h1 w0 B β w vs R hv hl
            rw [g0]
            simp only [Oper.upon]
            exact go r v H' w' β' g1 g2 g3 g4 g5 g6
        · split at h1
          · rename_i v H' hst
            obtain ⟨nx, x, w', hrun, hx, β', g2, g3, g4, g5, g6⟩ := run_astep R F hst
            rw [hrun]
            rcases hx with rfl | ⟨rfl, rfl⟩
            · exact go v x H' w' β' h1 g2 g3 g4 g5 g6
            · exact go v _ H' w' β' h1 g2 g3 g4 g5 g6
          · exact h1.elim
    · exact h1.elim
theorem Rel.drew {w0 : World} {B : Nat} {β : Env} {H : Hp} {w : World} (R : Rel w0 B β H w) : Rel w0 B β H { w with drawn := w.drawn + 1 } := R.kept (Below.refl _ _).drew
theorem wpAny_post {w0 : World} {B : Nat} {β : Env} {n m : Nat} {ops : Array Oper} : ∀ (k : Nat) (listed : Array Bool) {a : Act} {w : World}, wpAny P .any ops (APost w0 B β n m fun e fr' H' => e = .normal ∧ Q .normal fr' H') k listed a w → wpAny P .any ops (APost w0 B β n m Q) k listed a w := by
  have hQ : ∀ e a w, APost w0 B β n m (fun e fr' H' => e = .normal ∧ Q .normal fr' H') e a w → APost w0 B β n m Q e a w := by
    rintro e a w ⟨h1, h2, β', fr', H', ⟨rfl, h3⟩, h4⟩
    exact ⟨h1, h2, β', fr', H', h3, h4⟩
  intro k
  induction k with
  | zero => intro listed a w h; exact ⟨h.1, hQ _ _ _ h.2⟩
  | succ k ih =>
    intro listed a w h
    refine ⟨fun h0 => hQ _ _ _ (h.1 h0), fun i hi => ?_⟩
    have h1 := h.2 i hi
    unfold wpOp at h1 ⊢
    split at h1
    · exact ih _ h1
    · split at h1
      · rename_i hw
        rw [if_pos hw]
        rcases h1 with h1 | ⟨h1, a', w', h2⟩
        · refine .inl ?_
          unfold Oper.wp at h1 ⊢
          generalize (execOp a.eval _).run P w = r at h1
          cases r with
          | ok nx w' =>
            cases nx <;> simp only [Oper.upon] at h1 ⊢ <;>
              first
                | exact ih _ h1
                | exact Calls.mono h1 (fun e w'' he => by
                    cases e <;> first
                      | exact ih _ he
                      | exact hQ _ _ _ he
                      | (obtain ⟨a', w', h2⟩ := he; exact ⟨a', w', hQ _ _ _ h2⟩))
                | exact Rows.mono h1 (fun _ _ he => ih _ he)
          | halt x w' => cases x <;> simp only [Oper.upon] at h1 ⊢ <;> exact hQ _ _ _ h1
        · exact .inr ⟨h1, a', w', hQ _ _ _ h2⟩
      · rename_i hw
        rw [if_neg hw]
        exact ih _ h1
theorem AWp_region_draw {n : Sc} {id : Nat} {ops : Array Oper} (M : Nat → Bool) (p : Plan) (hmix : P.follows .mixedOrders = true) (hok : p.ok P ops M ops.size [] (Array.replicate ops.size false) = true) (h : AOrd P ops (Q .normal) p fr H) : AWp (n := n) P (.region id ops true) fr H Q := by
  intro hn w0 B β w a hL hd hf R F
  simp only [Nd] at hf
  refine wp_region_any hmix ?_
  refine wpAny_post _ _ ?_
  exact AAny_sound ops hf _ _ fr H β _ a (Plan.sound p _ [] _ fr H hok h (.inl rfl)) hd rfl R.drew F n.n hn (Agree.refl _ _)
end
end Go.AL
namespace Go.AL
open Go.RowKit
inductive Ww where
  | ops (l : List Oper)
  | ord (p : Plan)
section
variable (P : Program) (ops : Array Oper) (K : Fr → Hp → Prop)
def Run : Ww → Fr → Hp → Prop
  | .ops l, fr, H => AOps P ops K l fr H
  | .ord p, fr, H => AOrd P ops K p fr H
def ECall (d : Option Tmp) (c : Ww) (fr : Fr) (f : FuncId) (args : List AV) (H : Hp) : Prop := ACallO P f args H fun r H' => Run P ops K c (fr.put d r) H'
def E0 (o : Oper) (c : Ww) (fr : Fr) (H : Hp) : Prop :=
  match Q8 P fr o.op with
  | some (f, args) => ECall P ops K o.dst c fr f args H
  | none =>
    match Q6 P fr H o.op with
    | some (v, H') => Run P ops K c (fr.put o.dst v) H'
    | none => False
def EGuard (o : Oper) (c : Ww) (fr : Fr) (H : Hp) (t : Bool) : Prop := if t = true then E0 P ops K o c fr H else Run P ops K c (fr.put o.dst (.tup [])) H
def EStep (o : Oper) (c : Ww) (fr : Fr) (H : Hp) : Prop :=
  match Jp ops fr o with
  | some t => EGuard P ops K o c fr H t
  | none => False
def EAt (i : Nat) (c : Ww) (fr : Fr) (H : Hp) : Prop :=
  match ops[i]? with
  | some o => EStep P ops K o c fr H
  | none => False
end
def EPure (P : Program) (ops : Array Oper) (K : Fr → Hp → Prop) (d : Option Tmp) (c : Ww) (fr : Fr) (f : FuncId) (args : List AV) (H : Hp) : Prop := ∃ v, (∀ H', (∃ E, H' = H ++ E) → ACallO P f args H' fun r H'' => r = v ∧ H' = H'') ∧ Run P ops K c (fr.put d v) H
def EAtS (P : Program) (ops : Array Oper) (K : Fr → Hp → Prop) (i : Nat) (c : Ww) (fr : Fr) (H : Hp) : Prop :=
  match ops[i]? with
  | some o => match Jp ops fr o with
    | some t => if t = true then (match Q8 P fr o.op with
      | some (f, args) => EPure P ops K o.dst c fr f args H
      | none => False) else Run P ops K c (fr.put o.dst (.tup [])) H
    | none => False
  | none => False
def EExt (P : Program) (ops : Array Oper) (K : Fr → Hp → Prop) (d : Option Tmp) (c : Ww) (fr : Fr) (f : FuncId) (args : List AV) (H : Hp) : Prop := ACallO P f args H fun r H' => (∃ E, H' = H ++ E) ∧ Run P ops K c (fr.put d r) H'
def EAtX (P : Program) (ops : Array Oper) (K : Fr → Hp → Prop) (i : Nat) (c : Ww) (fr : Fr) (H : Hp) : Prop :=
  match ops[i]? with
  | some o => match Jp ops fr o with
    | some t => if t = true then (match Q8 P fr o.op with
      | some (f, args) => EExt P ops K o.dst c fr f args H
      | none => False) else Run P ops K c (fr.put o.dst (.tup [])) H
    | none => False
  | none => False
def ESt (P : Program) (ops : Array Oper) (K : Fr → Hp → Prop) (c : Ww) (d : Option Tmp) (fr : Fr) (x : Option (AV × Hp)) : Prop :=
  match x with
  | some (v, H') => Run P ops K c (fr.put d v) H'
  | none => False
section
variable {P : Program} {ops : Array Oper} {K : Fr → Hp → Prop} {fr : Fr} {H : Hp}
theorem ESt_some {c : Ww} {d : Option Tmp} {v : AV} {H' : Hp} : ESt P ops K c d fr (some (v, H')) = Run P ops K c (fr.put d v) H' := id rfl
theorem Xd {d : Option Tmp} {c : Ww} {f : FuncId} {args : List AV} {v : AV} (hc : ∀ H', (∃ E, H' = H ++ E) → ACalls P f args H' fun r H'' => r = v ∧ H' = H'') (h : Run P ops K c (fr.put d v) H) : EPure P ops K d c fr f args H := ⟨v, fun H' he => .inl (hc H' he), h⟩
theorem Jn {i : Nat} {c : Ww} : EAtS P ops K i c fr H = (match ops[i]? with
  | some o => match Jp ops fr o with
    | some t => if t = true then (match Q8 P fr o.op with
      | some (f, args) => EPure P ops K o.dst c fr f args H
      | none => False) else Run P ops K c (fr.put o.dst (.tup [])) H
    | none => False
  | none => False) := id rfl
theorem EAtS_sure {i : Nat} {p : Plan} (h : EAtS P ops K i (.ord p) fr H) : AOrd P ops K (.pur i p) fr H := by
  simp only [AOrd, AStepS]
  unfold EAtS at h
  split at h
  · rename_i o ho
    try simp only [ho]
    split at h
    · rename_i t hw
      cases t
      · simp only [Bool.false_eq_true, if_false] at h
        exact ⟨_, by unfold ASure; simp only [hw], h⟩
      · simp only [if_true] at h
        split at h
        · rename_i f args hc
          obtain ⟨v, h1, h2⟩ := h
          exact ⟨v, by unfold ASure; simp only [hw, hc]; exact h1, h2⟩
        · exact h.elim
    · exact h.elim
  · exact h.elim
theorem X8 {i : Nat} {p : Plan} (h : EAtS P ops K i (.ord p) fr H) : Run P ops K (.ord (.pur i p)) fr H := EAtS_sure h
theorem Jm {i : Nat} {c : Ww} : EAtX P ops K i c fr H = (match ops[i]? with
  | some o => match Jp ops fr o with
    | some t => if t = true then (match Q8 P fr o.op with
      | some (f, args) => EExt P ops K o.dst c fr f args H
      | none => False) else Run P ops K c (fr.put o.dst (.tup [])) H
    | none => False
  | none => False) := id rfl
theorem Zc {d : Option Tmp} {c : Ww} {f : FuncId} {args : List AV} {R : AV → Hp → Prop} (hc : ACalls P f args H R) (h : ∀ r H', R r H' → (∃ E, H' = H ++ E) ∧ Run P ops K c (fr.put d r) H') : EExt P ops K d c fr f args H := .inl (hc.mono h)
theorem Kd {d : Option Tmp} {c : Ww} {f : FuncId} {args : List AV} {v : AV} (hc : ACalls P f args H fun r H' => r = v ∧ H = H') (h : Run P ops K c (fr.put d v) H) : EExt P ops K d c fr f args H := Zc hc fun r H' ⟨h1, h2⟩ => by subst h1; subst h2; exact ⟨⟨[], by simp⟩, h⟩
theorem EAtX_ext {i : Nat} {p : Plan} (h : EAtX P ops K i (.ord p) fr H) : AOrd P ops K (.ext i p) fr H := by
  simp only [AOrd, V9]
  unfold EAtX at h
  split at h
  · rename_i o ho
    try simp only [ho]
    unfold AStep1 Uf Uo Wc
    split at h
    · rename_i t hw
      simp only [hw]
      cases t
      · simp only [Bool.false_eq_true, if_false] at h ⊢
        exact ⟨⟨[], by simp⟩, h⟩
      · simp only [if_true] at h ⊢
        split at h
        · rename_i f args hc
          simp only [hc]
          exact h
        · exact h.elim
    · exact h.elim
  · exact h.elim
theorem Xr {i : Nat} {p : Plan} (h : EAtX P ops K i (.ord p) fr H) : Run P ops K (.ord (.ext i p)) fr H := EAtX_ext h
theorem Run_nil : Run P ops K (.ops []) fr H = K fr H := id rfl
theorem Run_cons {o : Oper} {l : List Oper} : Run P ops K (.ops (o :: l)) fr H = EStep P ops K o (.ops l) fr H := id rfl
theorem Run_pnil : Run P ops K (.ord .nil) fr H = K fr H := id rfl
theorem Run_one {i : Nat} {p : Plan} : Run P ops K (.ord (.one i p)) fr H = EAt P ops K i (.ord p) fr H := id rfl
theorem Run_alt {i : Nat} {p q : Plan} : Run P ops K (.ord (.alt i p q)) fr H = (EAt P ops K i (.ord p) fr H ∧ Run P ops K (.ord q) fr H) := id rfl
theorem EGuard_true {o : Oper} {c : Ww} : EGuard P ops K o c fr H true = E0 P ops K o c fr H := id rfl
theorem EGuard_false {o : Oper} {c : Ww} : EGuard P ops K o c fr H false = Run P ops K c (fr.put o.dst (.tup [])) H := id rfl
theorem EStep_def {o : Oper} {c : Ww} : EStep P ops K o c fr H = (match Jp ops fr o with
  | some t => EGuard P ops K o c fr H t
  | none => False) := id rfl
theorem E0_def {o : Oper} {c : Ww} : E0 P ops K o c fr H = (match Q8 P fr o.op with
  | some (f, args) => ECall P ops K o.dst c fr f args H
  | none => ESt P ops K c o.dst fr (Q6 P fr H o.op)) := id rfl
theorem EAt_def {i : Nat} {c : Ww} : EAt P ops K i c fr H = (match ops[i]? with
  | some o => EStep P ops K o c fr H
  | none => False) := id rfl
theorem Jt {o : Oper} {c : Ww} {t : Bool} (h1 : t = true → E0 P ops K o c fr H) (h2 : t = false → Run P ops K c (fr.put o.dst (.tup [])) H) : EGuard P ops K o c fr H t := by
  cases t
  · exact h2 rfl
  · exact h1 rfl
theorem Q5 {d : Option Tmp} {c : Ww} {f : FuncId} {args : List AV} {R : AV → Hp → Prop} (hc : ACalls P f args H R) (h : ∀ r H', R r H' → Run P ops K c (fr.put d r) H') : ECall P ops K d c fr f args H := .inl (hc.mono h)
theorem Z3 {d : Option Tmp} {c : Ww} {f : FuncId} {args : List AV} {R : AV → Hp → Prop} (hc : AExt P f args H R) (h : ∀ r H', R r H' → Run P ops K c (fr.put d r) H') : ECall P ops K d c fr f args H := (ACallO.mono (.inr hc) h)
end
theorem Jg {n : Sc} {P : Program} {fr : Fr} {H : Hp} {Q : Exit → Fr → Hp → Prop} {id : Nat} {ops : Array Oper} (h : Run P ops (Q .normal) (.ops ops.toList) fr H) : AWp (n := n) P (.region id ops false) fr H Q := AWp_region h
theorem Q1 {n : Sc} {P : Program} {fr : Fr} {H : Hp} {Q : Exit → Fr → Hp → Prop} {id : Nat} {ops : Array Oper} (M : List Nat) (p : Plan) (hmix : P.follows .mixedOrders = true) (hok : p.ok P ops M.contains ops.size [] (Array.replicate ops.size false) = true) (h : Run P ops (Q .normal) (.ord p) fr H) : AWp (n := n) P (.region id ops true) fr H Q :=
  AWp_region_draw M.contains p hmix hok h
theorem AV.solid_int {k : IntKind} {n : Int} : AV.solid (.int k n) = true := id rfl
theorem AV.one_int {k : IntKind} {n : Int} : AV.one (.int k n) = true := id rfl
theorem AV.cells_int {k : IntKind} {n : Int} : AV.cells (.int k n) = [(.int k n)] := id rfl
theorem AV.solid_bool {b : Bool} : AV.solid (.bool b) = true := id rfl
theorem AV.one_bool {b : Bool} : AV.one (.bool b) = true := id rfl
theorem AV.cells_bool {b : Bool} : AV.cells (.bool b) = [(.bool b)] := id rfl
theorem AV.solid_str {s : ByteArray} : AV.solid (.str s) = true := id rfl
theorem AV.one_str {s : ByteArray} : AV.one (.str s) = true := id rfl
theorem AV.cells_str {s : ByteArray} : AV.cells (.str s) = [(.str s)] := id rfl
theorem AV.solid_nilI  : AV.solid .nilI = true := id rfl
theorem AV.one_nilI  : AV.one .nilI = true := id rfl
theorem AV.cells_nilI  : AV.cells .nilI = [.nilI] := id rfl
theorem AV.solid_ifc {t : TypeId} {v : AV} : AV.solid (.ifc t v) = true := id rfl
theorem AV.one_ifc {t : TypeId} {v : AV} : AV.one (.ifc t v) = true := id rfl
theorem AV.cells_ifc {t : TypeId} {v : AV} : AV.cells (.ifc t v) = [(.ifc t v)] := id rfl
theorem AV.solid_nilP  : AV.solid .nilP = true := id rfl
theorem AV.one_nilP  : AV.one .nilP = true := id rfl
theorem AV.cells_nilP  : AV.cells .nilP = [.nilP] := id rfl
theorem AV.solid_ptr {h o : Nat} : AV.solid (.ptr h o) = true := id rfl
theorem AV.one_ptr {h o : Nat} : AV.one (.ptr h o) = true := id rfl
theorem AV.cells_ptr {h o : Nat} : AV.cells (.ptr h o) = [(.ptr h o)] := id rfl
theorem AV.solid_nilS  : AV.solid .nilS = true := id rfl
theorem AV.one_nilS  : AV.one .nilS = true := id rfl
theorem AV.cells_nilS  : AV.cells .nilS = [.nilS] := id rfl
theorem AV.solid_sl {h o n c : Nat} : AV.solid (.sl h o n c) = true := id rfl
theorem AV.one_sl {h o n c : Nat} : AV.one (.sl h o n c) = true := id rfl
theorem AV.cells_sl {h o n c : Nat} : AV.cells (.sl h o n c) = [(.sl h o n c)] := id rfl
theorem AV.solid_sg {h o n z : Nat} : AV.solid (.sg h o n z) = true := id rfl
theorem AV.one_sg {h o n z : Nat} : AV.one (.sg h o n z) = true := id rfl
theorem AV.cells_sg {h o n z : Nat} : AV.cells (.sg h o n z) = [(.sg h o n z)] := id rfl
theorem AV.solid_fn {f : FuncId} : AV.solid (.fn f) = true := id rfl
theorem AV.one_fn {f : FuncId} : AV.one (.fn f) = true := id rfl
theorem AV.cells_fn {f : FuncId} : AV.cells (.fn f) = [(.fn f)] := id rfl
theorem AV.cells_agg {cs : List AV} : AV.cells (.agg cs) = cs := id rfl
end Go.AL
namespace Go.AL
open Go.RowKit
structure Args (β : Env) (H : Hp) (w : World) : Prop where
  rel : Rel w w.heap.size β H w
  leg : β.leg
  ro : ∀ (h : Nat) (b : Blk), H[h]? = some b → b.kind ≠ .own
mutual
def PV (w : World) : AV → Value → Prop
  | .undef, _ => True
  | .int k n, v => v = .int k n
  | .bool b, v => v = .bool b
  | .str s, v => v = .string s
  | .nilI, v => v = .nilIface
  | .ifc t x, v => ∃ y, v = .iface t y ∧ PV w x y
  | .nilP, v => v = .pointer none
  | .nilS, v => v = .slice none 0 0
  | .agg cs, v => ∃ l, v = .agg l ∧ PVs w cs l.toList
  | .tup cs, v => ∃ l, v = .tuple l ∧ PVs w cs l.toList
  | .fn f, v => v = .func (.func f) #[] #[]
  | .fz n cs, v => ∃ a c, v = .slice a n c ∧ n ≤ c ∧ (a = none → c = 0) ∧ (n = 0 ∨ ∃ x, a = some x ∧ PVl w x 0 cs)
  | .fp cs, v => ∃ x, v = .pointer (some x) ∧ PVl w x 0 cs
  | _, _ => False
def PVs (w : World) : List AV → List Value → Prop
  | [], l => l = []
  | c :: cs, l => ∃ x xs, l = x :: xs ∧ PV w c x ∧ PVs w cs xs
def PVl (w : World) (x : Addr) (i : Nat) : List AV → Prop
  | [] => True
  | c :: cs => (c.lt 0 ∧ ∃ v, w.cell? (x.add i) = some v ∧ PV w c v ∧ v.oneCell' = true) ∧ PVl w x (i + 1) cs
end
def Fz0 (w : World) (a : Addr) (c : AV) : Prop := c.lt 0 ∧ ∃ v, w.cell? a = some v ∧ PV w c v ∧ v.oneCell' = true
theorem PVl_get {w : World} {x : Addr} : ∀ {cs : List AV} {i : Nat}, PVl w x i cs → ∀ (j : Nat) c, cs[j]? = some c → Fz0 w (x.add (i + j)) c
  | [], _, _, j, c, h => by cases h
  | d :: cs, i, h, 0, c, hc => by
    simp only [PVl] at h
    simp at hc
    subst hc
    exact h.1
  | d :: cs, i, h, j + 1, c, hc => by
    simp only [PVl] at h
    have := PVl_get h.2 j c (by simpa using hc)
    rwa [show i + 1 + j = i + (j + 1) by omega] at this
mutual
theorem PV_VR (w : World) (p : Nat → Bx) : ∀ (c : AV) (v : Value), PV w c v → VR ⟨p, Fz0 w, fun _ => True, True⟩ c v
  | .undef, _, _ => trivial
  | .int _ _, _, h => h
  | .bool _, _, h => h
  | .str _, _, h => h
  | .nilI, _, h => h
  | .ifc t x, v, h => by
    simp only [VR, PV] at h ⊢
    obtain ⟨y, rfl, hy⟩ := h
    exact ⟨y, rfl, PV_VR w p x y hy⟩
  | .nilP, _, h => h
  | .nilS, _, h => h
  | .agg cs, v, h => by
    simp only [VR, PV] at h ⊢
    obtain ⟨l, rfl, hy⟩ := h
    exact ⟨l, rfl, PVs_VRs w p cs l.toList hy⟩
  | .tup cs, v, h => by
    simp only [VR, PV] at h ⊢
    obtain ⟨l, rfl, hy⟩ := h
    exact ⟨l, rfl, PVs_VRs w p cs l.toList hy⟩
  | .fn _, _, h => h
  | .fz n cs, v, h => by
    simp only [VR, PV] at h ⊢
    obtain ⟨a, c, rfl, hc, hn, h2⟩ := h
    exact ⟨a, c, rfl, hc, hn, h2.imp id fun ⟨x, e, hx⟩ => ⟨x, e, fun i ci hi => by have := PVl_get hx i ci hi; rwa [Nat.zero_add] at this⟩⟩
  | .fp cs, v, h => by
    simp only [VR, PV] at h ⊢
    obtain ⟨x, rfl, hx⟩ := h
    exact ⟨x, rfl, fun i ci hi => by have := PVl_get hx i ci hi; rwa [Nat.zero_add] at this⟩
  | .ptr _ _, _, h => by simp only [PV] at h
  | .sl _ _ _ _, _, h => by simp only [PV] at h
  | .sg _ _ _ _, _, h => by simp only [PV] at h
theorem PVs_VRs (w : World) (p : Nat → Bx) : ∀ (cs : List AV) (l : List Value), PVs w cs l → VRs ⟨p, Fz0 w, fun _ => True, True⟩ cs l
  | [], _, h => h
  | c :: cs, l, h => by
    simp only [VRs, PVs] at h ⊢
    obtain ⟨x, xs, rfl, hx, hxs⟩ := h
    exact ⟨x, xs, rfl, PV_VR w p c x hx, PVs_VRs w p cs xs hxs⟩
end
theorem Args.start (w : World) (p : Nat → Bx) : Args ⟨p, Fz0 w, fun _ => True, True⟩ [] w :=
  ⟨⟨Below.refl _ _, Nat.le_refl _, fun h b hb => by simp at hb, fun h b hb => by simp at hb, fun h b hb => by simp at hb, fun h b hb => by simp at hb, fun h h' b b' _ hb => by simp at hb,
    fun a c ⟨h1, v, h2, h3, h4⟩ => ⟨h1, ⟨v, h2, PV_VR w p c v h3, h4⟩, fun h b hb => by simp at hb, .inl trivial⟩, fun h b hb => by simp at hb⟩, trivial, fun h b hb => by simp at hb⟩
theorem Args.add {β : Env} {H : Hp} {w : World} (A : Args β H w) (x : Addr) (cs : List AV) (e : TypeId)
    (hc : ∀ (i : Nat) (c : AV), cs[i]? = some c → ∃ v, w.cell? (x.add i) = some v ∧ VR β c v ∧ v.oneCell' = true) (hl : AV.lts H.length cs) :
    Args (upd β H.length ⟨x, 0⟩) (H ++ [⟨cs, .ro, e⟩]) w := by
  have R := A.rel
  have ag := U6 β H.length ⟨x, 0⟩
  have atn : upd β H.length ⟨x, 0⟩ H.length = ⟨x, 0⟩ := by simp [upd]
  have hold : ∀ {h : Nat} {b : Blk}, (H ++ [(⟨cs, .ro, e⟩ : Blk)])[h]? = some b → (h < H.length ∧ H[h]? = some b) ∨ (h = H.length ∧ b = ⟨cs, .ro, e⟩) := by
    intro h b hb
    rcases Nat.lt_trichotomy h H.length with h1 | h1 | h1
    · rw [List.getElem?_append_left h1] at hb; exact .inl ⟨h1, hb⟩
    · subst h1; simp at hb; exact .inr ⟨rfl, hb.symm⟩
    · rw [List.getElem?_eq_none (by simp; omega)] at hb; cases hb
  have hro : ∀ (h : Nat) (b : Blk), (H ++ [(⟨cs, .ro, e⟩ : Blk)])[h]? = some b → b.kind ≠ .own := by
    intro h b hb
    rcases hold hb with ⟨h1, h2⟩ | ⟨rfl, rfl⟩
    · exact A.ro h b h2
    · intro h; cases h
  refine ⟨⟨R.below, R.base, ?_, ?_, ?_, (fun h b hb a t v e hk => (hold hb).elim (fun h' => R.glob h b h'.2 a t v e hk) (fun h' => by rw [h'.2] at hk; cases hk)), ?_, fun a c hf => by
    obtain ⟨h1, ⟨v, h2, h3, h4⟩, h5, h6⟩ := R.fzn a c hf
    exact ⟨h1, ⟨v, h2, Vc ag c v (AV.lt_mono (Nat.zero_le _) c h1) h3, h4⟩, fun h b hh hko => absurd hko (hro h b hh), h6⟩, fun _ _ _ _ _ _ => .inl A.leg⟩, A.leg, hro⟩
  · intro h b hb hd i c hci
    rcases hold hb with ⟨h1, h2⟩ | ⟨rfl, rfl⟩
    · obtain ⟨v, h3, h4, h5⟩ := R.cells h b h2 hd i c hci
      exact ⟨v, by rw [ag h h1]; exact h3, Vc ag c v (R.lts h b h2 hd c (List.mem_of_getElem? hci)) h4, h5⟩
    · obtain ⟨v, h3, h4, h5⟩ := hc i c hci
      exact ⟨v, by rw [atn]; exact h3, Vc ag c v ((AV.lts_iff.1 hl) c (List.mem_of_getElem? hci)) h4, h5⟩
  · intro h b hb hd c hci
    rw [Qu]
    rcases hold hb with ⟨h1, h2⟩ | ⟨rfl, rfl⟩
    · exact AV.lt_mono (by omega) c (R.lts h b h2 hd c hci)
    · exact AV.lt_mono (by omega) c ((AV.lts_iff.1 hl) c hci)
  · intro h b hb ho
    exact absurd ho (hro h b hb)
  · intro h h' b b' _ hb _ ho
    exact absurd ho (hro h b hb)
theorem Args.glob {β : Env} {H : Hp} {w : World} (A : Args β H w) {a t v e : Nat} (hw : w.cell? ⟨a, 0, none⟩ = some (.iface t (.agg #[.pointer (some ⟨v, e, none⟩)]))) :
    Args (upd β H.length ⟨⟨a, 0, none⟩, 0⟩) (H ++ [⟨[], .glob a t v e, 0⟩]) w := by
  have A' := A.add ⟨a, 0, none⟩ [] 0 (fun i c hc => by simp at hc) trivial
  have R := A'.rel
  have hold : ∀ {h : Nat} {b : Blk}, (H ++ [(⟨[], .glob a t v e, 0⟩ : Blk)])[h]? = some b → (h < H.length ∧ H[h]? = some b) ∨ (h = H.length ∧ b = ⟨[], .glob a t v e, 0⟩) := by
    intro h b hb
    rcases Nat.lt_trichotomy h H.length with h1 | h1 | h1
    · rw [List.getElem?_append_left h1] at hb; exact .inl ⟨h1, hb⟩
    · subst h1; simp at hb; exact .inr ⟨rfl, hb.symm⟩
    · rw [List.getElem?_eq_none (by simp; omega)] at hb; cases hb
  have hro : ∀ (h : Nat) (b : Blk), (H ++ [(⟨[], .glob a t v e, 0⟩ : Blk)])[h]? = some b → b.kind ≠ .own := by
    intro h b hb
    rcases hold hb with ⟨h1, h2⟩ | ⟨rfl, rfl⟩
    · exact A.ro h b h2
    · intro h; cases h
  have up : ∀ {h : Nat} {b : Blk}, h < H.length → H[h]? = some b → (H ++ [(⟨[], .ro, 0⟩ : Blk)])[h]? = some b := fun hl hb => by rw [List.getElem?_append_left hl]; exact hb
  refine ⟨⟨R.below, R.base, ?_, ?_, ?_, ?_, ?_, fun a c hf => by
    obtain ⟨h1, h2, _, h6⟩ := R.fzn a c hf
    exact ⟨h1, h2, fun h b hh hko => absurd hko (hro h b hh), h6⟩, fun _ _ _ _ _ _ => .inl A.leg⟩, A.leg, hro⟩
  · intro h b hb hd i c hci
    rcases hold hb with ⟨h1, h2⟩ | ⟨rfl, rfl⟩
    · exact R.cells h b (up h1 h2) hd i c hci
    · simp at hci
  · intro h b hb hd c hci
    rcases hold hb with ⟨h1, h2⟩ | ⟨rfl, rfl⟩
    · have := R.lts h b (up h1 h2) hd c hci
      simpa using this
    · cases hci
  · intro h b hb ho
    exact absurd ho (hro h b hb)
  · intro h b hb a' t' v' e' hk
    rcases hold hb with ⟨h1, h2⟩ | ⟨rfl, rfl⟩
    · exact R.glob h b (up h1 h2) a' t' v' e' hk
    · cases hk
      exact ⟨hw, by
        rcases Nat.lt_or_ge a w.heap.size with h | h
        · exact h
        · simp [World.cell?, Array.getElem?_eq_none h] at hw⟩
  · intro h h' b b' _ hb _ ho
    exact absurd ho (hro h b hb)
theorem Args.slice {β : Env} {H : Hp} {w : World} (A : Args β H w) {a : Option Addr} {len cap z : Nat} {cs : List AV} (e : TypeId)
    (h : (a = none ∧ len = 0 ∧ cap = 0 ∧ cs = []) ∨ ∃ x, a = some x ∧ len ≤ cap ∧ cs.length = len * z ∧ (∀ (i : Nat) (c : AV), cs[i]? = some c → ∃ v, w.cell? (x.add i) = some v ∧ VR β c v ∧ v.oneCell' = true)) (hl : AV.lts H.length cs) :
    ∃ β' H' u, Args β' H' w ∧ Ext H H' ∧ Agree H.length β β' ∧ VR β' u (.slice a len cap) ∧ u.lt H'.length ∧ Rd H' z u cs len := by
  rcases h with ⟨rfl, rfl, rfl, rfl⟩ | ⟨x, rfl, hle, hlen, hc⟩
  · exact ⟨β, H, .nilS, A, Ext.refl _, Agree.refl _ _, rfl, trivial, Rd.nil _ _⟩
  · refine ⟨_, _, .sl H.length 0 len cap, A.add x cs e hc hl, Ext.push _ _, U6 _ _ _, ?_, ?_, ?_⟩
    · simp [VR, upd, Go.Addr.add]
    · simp [AV.lt]
    · refine ⟨?_, hle⟩
      simp only [arow, Ui, if_true]
      rw [if_neg (by decide), if_pos (by omega), List.drop_zero, List.take_of_length_le (by omega)]
theorem Args.ints {β : Env} {H : Hp} {w : World} (A : Args β H w) {a : Option Addr} {len cap : Nat} {k : IntKind} {zs : List Int} (e : TypeId)
    (h : (a = none ∧ len = 0 ∧ cap = 0 ∧ zs = []) ∨ ∃ x, a = some x ∧ len ≤ cap ∧ cap ≤ maxLen ∧ zs.length = cap ∧ (∀ i, i < zs.length → w.cell? (x.add i) = some (.int k (zs.getD i 0))) ∧ ∀ n ∈ zs, (Lit.int k n).wf = true) :
    ∃ β' H' u xs, Args β' H' w ∧ Ext H H' ∧ Agree H.length β β' ∧ VR β' u (.slice a len cap) ∧ u.lt H'.length ∧ Ints H' k u xs ∧ xs.length ≤ maxLen ∧ (∀ n ∈ xs, (Lit.int k n).wf = true) := by
  have hlts : AV.lts H.length ((zs.take len).map (AV.int k)) := by
    rw [AV.lts_iff]
    intro c hc
    obtain ⟨n, _, rfl⟩ := List.mem_map.1 hc
    trivial
  have hn : len ≤ zs.length ∧ zs.length ≤ maxLen ∧ ∀ n ∈ zs, (Lit.int k n).wf = true := by
    rcases h with ⟨rfl, rfl, rfl, rfl⟩ | ⟨x, rfl, h1, h2, h3, h4, h5⟩
    · exact ⟨Nat.le_refl _, Nat.zero_le _, fun n hn => by cases hn⟩
    · exact ⟨by omega, by omega, h5⟩
  have hl : (zs.take len).length = len := by simp; omega
  have hs : (a = none ∧ len = 0 ∧ cap = 0 ∧ (zs.take len).map (AV.int k) = []) ∨ ∃ x, a = some x ∧ len ≤ cap ∧ ((zs.take len).map (AV.int k)).length = len * 1 ∧ (∀ (i : Nat) (c : AV), ((zs.take len).map (AV.int k))[i]? = some c → ∃ v, w.cell? (x.add i) = some v ∧ VR β c v ∧ v.oneCell' = true) := by
    rcases h with ⟨rfl, rfl, rfl, rfl⟩ | ⟨x, rfl, g1, g2, g3, g4, g5⟩
    · exact .inl ⟨rfl, rfl, rfl, rfl⟩
    · refine .inr ⟨x, rfl, g1, by rw [List.length_map, hl, Nat.mul_one], fun i c hc => ?_⟩
      have hi : i < len := by
        have := (List.getElem?_eq_some_iff.1 hc).1
        rw [List.length_map, hl] at this; exact this
      have hz : i < zs.length := by omega
      refine ⟨_, g4 i hz, ?_, rfl⟩
      rw [List.getElem?_map, List.getElem?_take, if_pos hi, List.getElem?_eq_getElem hz] at hc
      cases hc
      simp [VR, List.getD, hz]
  obtain ⟨β', H', u, h1, h2, h3, h4, h5, h6⟩ := A.slice (z := 1) e hs hlts
  refine ⟨β', H', u, zs.take len, h1, h2, h3, h4, h5, ?_, by omega, fun n hm => hn.2.2 n (List.mem_of_mem_take hm)⟩
  unfold Ints
  rw [hl]; exact h6
theorem ACalls.calls {P : Program} {f : FuncId} {args : List AV} {H : Hp} {b : Bool} (h : ACalls P f args H fun r _ => r = .bool b) {β : Env} {w : World} (A : Args β H w) {vs : Array Value} (hv : VRs β args vs.toList) (hl : AV.lts H.length args) :
    Calls P f vs w fun e w' => e = .returned (.bool b) ∧ Below w.heap.size w w' :=
  (h.2 w w.heap.size β w vs A.rel hv hl).mono fun e w' ⟨β', r, v, H', h1, h2, h3, h4, h5, h6, h7⟩ => by
    subst h2
    simp only [VR] at h5
    subst h5
    exact ⟨h1, h7.below⟩
end Go.AL

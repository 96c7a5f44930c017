/- Part 6 of the proof of laws of this seat: lemmas on the model's code, on this program's functions, on numbers. No condition. -/
import Derived.Test.YtfalfmfkifemeaaGreatDoorZGae
import Derived.ProofKit
set_option linter.unusedVariables false
set_option linter.unusedSimpArgs false
open Nat renaming reduceEqDiff → J0, reduceLeDiff → J1, reduceMul → J2, reduceAdd → J3, reduceSub → J4, reduceLT → J5
open Int renaming reduceToNat → J6, reducePow → J7, reduceNeg → J8, reduceLT → J9, reduceLE → Ja, reduceEq → Jb
open And renaming intro → Jc
open Go.IntKind renaming bits → Jd
namespace Go.AL
open Go.RowKit
def Vd (P : Program) (ops : Array Oper) (i : Nat) (fr : Fr) (H : Hp) (X : Fr → Hp → Prop) : Prop :=
  match ops[i]? with
  | some o => AStep1 P ops o fr H X
  | none => False
def AAny (P : Program) (ops : Array Oper) (M : Nat → Bool) (K : Fr → Hp → Prop) : Nat → Array Bool → Fr → Hp → Prop
  | 0, listed, fr, H => Region.ready .any ops listed = [] ∧ K fr H
  | n + 1, listed, fr, H => (Region.ready .any ops listed = [] → K fr H) ∧ ∀ i ∈ Region.ready .any ops listed, Vd P ops i fr H (fun fr1 H1 => (M i = true → ∃ E, H1 = H ++ E) ∧ AAny P ops M K n (listed.setIfInBounds i true) fr1 H1)
def Waits (ops : Array Oper) (D : Nat → Bool) (i : Nat) : Prop := ∀ j, D j = true → ∃ o, ops[j]? = some o ∧ ∃ e ∈ o.after, Region.binds .any e = true ∧ (e.on = i ∨ D e.on = true)
theorem not_ready {ops : Array Oper} {D : Nat → Bool} {i : Nat} (hw : Waits ops D i) {listed : Array Bool} (hi : listed.getD i true = false) (hD : ∀ j, D j = true → listed.getD j true = false) {j : Nat} (hj : j ∈ Region.ready .any ops listed) : D j = false := by
  cases hd : D j with
  | false => rfl
  | true =>
    obtain ⟨o, ho, e, he, hb, hon⟩ := hw j hd
    obtain ⟨_, o', ho', hall⟩ := mem_ready.1 hj
    rw [ho] at ho'; cases ho'
    have h1 := hall e he hb
    have h2 : listed.getD e.on true = false := by
      rcases hon with h | h
      · rw [h]; exact hi
      · exact hD _ h
    rw [Array.getD_eq_getD_getElem?] at h1 h2
    cases hx : listed[e.on]? with
    | none => rw [hx] at h1; cases h1
    | some b => rw [hx] at h1 h2; simp at h1 h2; rw [h1] at h2; cases h2
def Ge (P : Program) : Op → Bool
  | .load .. => true
  | op => K9 P op
def growOp (P : Program) : Op → Bool
  | .alloc .. | .box .. | .makeSlice .. | .buildSlice .. => true
  | op => Vt P op
theorem pureOp_quiet {P : Program} {op : Op} (h : K9 P op = true) : Vt P op = true := by
  cases op <;> simp only [K9, Bool.false_eq_true] at h <;> simp only [Vt, K9] <;> try exact h
  split at h
  · rename_i h1 h2; rw [h2]
  · cases h
theorem J0i {P : Program} {op : Op} (h : Ge P op = true) : Vt P op = true := by
  cases op <;> simp only [Ge] at h <;> first | rfl | exact pureOp_quiet h
theorem aload_ext {P : Program} {H H' : Hp} {t : TypeId} {x v : AV} (h : Yq P H t x = some v) (he : ∃ E, H' = H ++ E) : Yq P H' t x = some v := by
  obtain ⟨E, rfl⟩ := he
  unfold Yq at h ⊢
  cases x <;> simp only at h ⊢ <;> try (cases h; done)
  split at h
  · rename_i b hb
    unfold Qt at hb
    have hb' : ∀ k, H[k]? = some b → Qt (H ++ E) k = some b := fun k hk => by
      unfold Qt
      rw [List.getElem?_append_left (List.getElem?_eq_some_iff.1 hk).1]
      exact hk
    rw [hb' _ hb]
    exact h
  · cases h
theorem stableOp_step {P : Program} {fr : Fr} {H : Hp} {op : Op} (hp : Ge P op = true) {v : AV} {H1 : Hp} (h : Q0 P fr H op = some (v, H1)) : ∀ H', (∃ E, H' = H ++ E) → Q0 P fr H' op = some (v, H') := by
  cases op <;> simp only [Ge] at hp <;> first
    | (intro H' _; exact (J0r hp h).2 H')
    | skip
  rename_i t x
  intro H' he
  simp only [Q0] at h ⊢
  obtain ⟨y, hy, hv⟩ := Option.map_eq_some_iff.1 h
  cases hv
  rw [aload_ext hy he]
  rfl
theorem growOp_step {P : Program} {fr : Fr} {H : Hp} {op : Op} (hp : growOp P op = true) {v : AV} {H1 : Hp} (h : Q0 P fr H op = some (v, H1)) : ∃ E, H1 = H ++ E := by
  have hq : ∀ {op : Op}, Vt P op = true → Q0 P fr H op = some (v, H1) → ∃ E, H1 = H ++ E := fun hq h => ⟨[], by rw [Wu hq h, List.append_nil]⟩
  cases op <;> simp only [growOp] at hp <;> first
    | exact hq hp h
    | skip
  all_goals simp only [Q0] at h
  case alloc t =>
    obtain ⟨z, _, h⟩ := Option.bind_eq_some_iff.1 h
    unfold Jv at h; split at h <;> cases h; exact ⟨_, rfl⟩
  case box t x => unfold Jv at h; split at h <;> cases h; exact ⟨_, rfl⟩
  case buildSlice t n ps =>
    unfold Jf at h
    split at h
    · split at h
      · split at h
        · split at h
          · split at h
            · cases h; exact ⟨_, rfl⟩
            · cases h
          · cases h
        · split at h
          · cases h; exact ⟨_, rfl⟩
          · cases h
      · cases h
    · cases h
  case makeSlice t l c =>
    unfold Zv at h
    split at h
    · split at h
      · split at h
        · cases h; exact ⟨_, rfl⟩
        · cases h
      · cases h
    · cases h
theorem growOp_nocall {P : Program} {fr : Fr} {op : Op} (hp : growOp P op = true) : Q2 P fr op = none := by
  cases op <;> simp only [growOp] at hp <;> first
    | rfl
    | exact V7 hp
def ASure (P : Program) (ops : Array Oper) (o : Oper) (fr : Fr) (H : Hp) (v : AV) : Prop :=
  match Jp ops fr o with
  | some true =>
    match Q2 P fr o.op with
    | some (f, args) => ∀ H', (∃ E, H' = H ++ E) → ACallO P f args H' fun r H'' => r = v ∧ H' = H''
    | none => ∀ H', (∃ E, H' = H ++ E) → Q0 P fr H' o.op = some (v, H')
  | some false => v = .tup []
  | none => False
theorem ASure.step {P : Program} {ops : Array Oper} {o : Oper} {fr : Fr} {H H' : Hp} {v : AV} {Y : Fr → Hp → Prop} (h : ASure P ops o fr H v) (he : ∃ E, H' = H ++ E) (hy : Y (fr.put o.dst v) H') : AStep1 P ops o fr H' Y := by
  unfold ASure at h
  unfold AStep1 Vv Uf Un
  split at h
  · rename_i hw
    simp only [hw, if_true]
    split at h
    · rename_i f args hc
      simp only [hc]
      exact (h H' he).mono fun r H'' ⟨h1, h2⟩ => by subst h1; subst h2; exact hy
    · rename_i hc
      simp only [hc, h H' he]
      exact hy
  · rename_i hw
    subst h
    simp only [hw, Bool.false_eq_true, if_false]
    exact hy
  · exact h.elim
theorem ASure.put {P : Program} {ops : Array Oper} {o p : Oper} {fr : Fr} {H H' : Hp} {v u : AV} (h : ASure P ops o fr H v) (ha : ∀ t, p.dst = some t → t ∉ o.looksAt ops) (he : ∃ E, H' = H ++ E) : ASure P ops o (fr.put p.dst u) H' v := by
  have hop : ∀ x ∈ o.op.operands, ev (fr.put p.dst u) x = ev fr x := fun x hx => ev_put fun t ht => looks_op (ha t ht) x hx
  have hog : Jp ops (fr.put p.dst u) o = Jp ops fr o := looks_guard' ha
  have hx : ∀ H'', (∃ E, H'' = H' ++ E) → ∃ E, H'' = H ++ E := by
    rintro _ ⟨E, rfl⟩
    obtain ⟨E', rfl⟩ := he
    exact ⟨E' ++ E, by rw [List.append_assoc]⟩
  unfold ASure at h ⊢
  rw [hog]
  split at h
  · rw [J01 (fr' := fr) hop]
    split at h
    · exact fun H'' h2 => h H'' (hx H'' h2)
    · exact fun H'' h2 => by rw [N6 (fr' := fr) hop]; exact h H'' (hx H'' h2)
  · exact h
  · exact h.elim
theorem AStep1.sure {P : Program} {ops : Array Oper} {o : Oper} {fr : Fr} {H : Hp} {X : Fr → Hp → Prop} (hq : Ge P o.op = true) (h : AStep1 P ops o fr H X) : ∃ v, ASure P ops o fr H v ∧ X (fr.put o.dst v) H := by
  have hn := V7 (fr := fr) (J0i hq)
  unfold AStep1 Vv Uf Un at h
  unfold ASure
  split at h
  · rename_i t hw
    cases t
    · simp only [Bool.false_eq_true, if_false] at h
      exact ⟨_, by simp only [hw], h⟩
    · simp only [if_true, hn] at h ⊢
      split at h
      · rename_i v H' hs
        have := Wu (J0i hq) hs
        subst this
        exact ⟨v, by simp only [hw]; exact stableOp_step hq hs, h⟩
      · exact h.elim
  · exact h.elim
theorem AStep1.growX {P : Program} {ops : Array Oper} {o p : Oper} {mk : Bool} {fr : Fr} {H : Hp} {v : AV} {X : Fr → Hp → Prop} (hg : growOp P p.op = true ∨ mk = true) (ha : ∀ t, o.dst = some t → t ∉ p.looksAt ops) (h : AStep1 P ops p (fr.put o.dst v) H fun fr1 H1 => (mk = true → ∃ E, H1 = H ++ E) ∧ X fr1 H1) :
    AStep1 P ops p fr H fun fr1 H1 => ∃ u, fr1 = fr.put p.dst u ∧ (∃ E, H1 = H ++ E) ∧ X ((fr.put o.dst v).put p.dst u) H1 := by
  have hop : ∀ x ∈ p.op.operands, ev (fr.put o.dst v) x = ev fr x := fun x hx => ev_put fun t ht => looks_op (ha t ht) x hx
  have hog : Jp ops (fr.put o.dst v) p = Jp ops fr p := looks_guard' ha
  unfold AStep1 Vv Uf Un at h
  rw [hog, J01 (fr' := fr) hop, N6 (fr' := fr) hop] at h
  unfold AStep1 Vv Uf Un
  split at h
  · rename_i t hw
    cases t
    · simp only [Bool.false_eq_true, if_false] at h ⊢
      exact ⟨_, rfl, ⟨[], by simp⟩, h.2⟩
    · simp only [if_true] at h ⊢
      split at h
      · rename_i f args hc
        have hm : mk = true := by
          rcases hg with hg | hg
          · rw [growOp_nocall hg] at hc; cases hc
          · exact hg
        exact h.mono fun r H' hx => ⟨r, rfl, hx.1 hm, hx.2⟩
      · split at h
        · rename_i u H' hs
          refine ⟨u, rfl, ?_, h.2⟩
          rcases hg with hg | hg
          · exact growOp_step hg hs
          · exact h.1 hg
        · exact h.elim
  · exact h.elim
def Ns (P : Program) (ops : Array Oper) (mk : Bool) (o p : Oper) : Bool := o.apart ops p && (growOp P p.op || mk)
theorem AAny_firstS {P : Program} {ops : Array Oper} {M : Nat → Bool} {K : Fr → Hp → Prop} {i : Nat} {o : Oper} {D : Nat → Bool} (hw : Waits ops D i) (ho : ops[i]? = some o) : ∀ (n : Nat) (listed : Array Bool) (fr : Fr) (H : Hp) (v : AV), i ∈ Region.ready .any ops listed →
    (∀ j, D j = true → listed.getD j true = false) →
    (∀ (j : Nat) oj, j ≠ i → listed.getD j true = false → D j = false → ops[j]? = some oj → Ns P ops (M j) o oj = true) → ASure P ops o fr H v → AAny P ops M K n (listed.setIfInBounds i true) (fr.put o.dst v) H → AAny P ops M K (n + 1) listed fr H := by
  intro n
  induction n with
  | zero =>
    intro listed fr H v hi hD hfree hs h
    refine ⟨fun h0 => (by rw [h0] at hi; cases hi), fun j hj => ?_⟩
    by_cases hji : j = i
    · subst hji; unfold Vd; simp only [ho]; exact hs.step ⟨[], by simp⟩ ⟨fun _ => ⟨[], by simp⟩, h⟩
    · have := ready_mono hj hji
      rw [h.1] at this
      cases this
  | succ n ih =>
    intro listed fr H v hi hD hfree hs h
    refine ⟨fun h0 => (by rw [h0] at hi; cases hi), fun j hj => ?_⟩
    by_cases hji : j = i
    · subst hji; unfold Vd; simp only [ho]; exact hs.step ⟨[], by simp⟩ ⟨fun _ => ⟨[], by simp⟩, h⟩
    · have h1 := h.2 j (ready_mono hj hji)
      obtain ⟨hjl, oj, hoj, _⟩ := mem_ready.1 hj
      unfold Vd at h1 ⊢
      simp only [hoj] at h1 ⊢
      have hdj : D j = false := not_ready hw (mem_ready.1 hi).1 hD hj
      have hm := hfree j oj hji hjl hdj hoj
      simp only [Ns, Bool.and_eq_true, Bool.or_eq_true] at hm
      obtain ⟨a1, a2, a3⟩ := Oper.apart_spec hm.1
      refine (AStep1.growX hm.2 a1 h1).mono ?_
      rintro _ H' ⟨u, rfl, h3, h4⟩
      refine ⟨fun _ => h3, ih (listed.setIfInBounds j true) _ H' v (ready_mono hi (Ne.symm hji)) (fun k hk => ?_) (fun k ok hki hkl hkd hok => hfree k ok hki ?_ hkd hok) (hs.put a3 h3) ?_⟩
      · have hkj : j ≠ k := fun e => by subst e; rw [hdj] at hk; cases hk
        rw [Array.getD_eq_getD_getElem?, Array.getElem?_setIfInBounds_ne hkj, ← Array.getD_eq_getD_getElem?]
        exact hD k hk
      · by_cases hkj : k = j
        · subst hkj
          rw [Array.getD_eq_getD_getElem?, Array.getElem?_setIfInBounds_self] at hkl
          split at hkl <;> simp at hkl
        · rw [Array.getD_eq_getD_getElem?, Array.getElem?_setIfInBounds_ne (by omega)] at hkl
          rw [Array.getD_eq_getD_getElem?]
          exact hkl
      · rw [Array.setIfInBounds_comm _ _ (show j ≠ i from hji), ← put_comm a2]
        exact h4
theorem AAny_first {P : Program} {ops : Array Oper} {M : Nat → Bool} {K : Fr → Hp → Prop} {i : Nat} {o : Oper} {D : Nat → Bool} (hw : Waits ops D i) (ho : ops[i]? = some o) (hq : Vt P o.op = true) : ∀ (n : Nat) (listed : Array Bool) (fr : Fr) (H : Hp), i ∈ Region.ready .any ops listed →
    (∀ j, D j = true → listed.getD j true = false) →
    (∀ (j : Nat) oj, j ≠ i → listed.getD j true = false → D j = false → ops[j]? = some oj → mayPass P ops o oj = true ∨ (Ge P o.op = true ∧ Ns P ops (M j) o oj = true)) → AStep1 P ops o fr H (AAny P ops M K n (listed.setIfInBounds i true)) → AAny P ops M K (n + 1) listed fr H := by
  have toM : ∀ (X : Fr → Hp → Prop) (fr : Fr) (H : Hp), AStep1 P ops o fr H X → AStep1 P ops o fr H fun fr1 H1 => (M i = true → ∃ E, H1 = H ++ E) ∧ X fr1 H1 := by
    intro X fr H h
    obtain ⟨v, hv, back⟩ := AStep1.quiet hq h
    exact back _ ⟨fun _ => ⟨[], by simp⟩, hv⟩
  intro n
  induction n with
  | zero =>
    intro listed fr H hi hD hfree h
    refine ⟨fun h0 => (by rw [h0] at hi; cases hi), fun j hj => ?_⟩
    by_cases hji : j = i
    · subst hji; unfold Vd; simp only [ho]; exact toM _ _ _ h
    · obtain ⟨v, hv, _⟩ := AStep1.quiet hq h
      have := ready_mono hj hji
      rw [hv.1] at this
      cases this
  | succ n ih =>
    intro listed fr H hi hD hfree h
    refine ⟨fun h0 => (by rw [h0] at hi; cases hi), fun j hj => ?_⟩
    by_cases hji : j = i
    · subst hji; unfold Vd; simp only [ho]; exact toM _ _ _ h
    · have hjr := mem_ready.1 hj
      obtain ⟨hjl, oj, hoj, _⟩ := hjr
      have hdj : D j = false := not_ready hw (mem_ready.1 hi).1 hD hj
      have h2' : AStep1 P ops oj fr H fun fr1 H1 => (M j = true → ∃ E, H1 = H ++ E) ∧ AStep1 P ops o fr1 H1 (AAny P ops M K n ((listed.setIfInBounds i true).setIfInBounds j true)) := by
        rcases hfree j oj hji hjl hdj hoj with hm | ⟨hm1, hm2⟩
        · obtain ⟨v, hv, back⟩ := AStep1.quiet hq h
          have h1 := hv.2 j (ready_mono hj hji)
          unfold Vd at h1
          simp only [hoj] at h1
          have h2 : AStep1 P ops o fr H fun fr1 H1 => AStep1 P ops oj fr1 H1 fun fr2 H2 => (M j = true → ∃ E, H2 = H ++ E) ∧ (AAny P ops M K n ((listed.setIfInBounds i true).setIfInBounds j true)) fr2 H2 := back _ h1
          refine (h2.swap hm).mono fun fr1 H1 h3 => ?_
          obtain ⟨v', hv', back'⟩ := AStep1.quiet hq h3
          exact ⟨hv'.1, back' _ hv'.2⟩
        · obtain ⟨v, hs, hv⟩ := AStep1.sure hm1 h
          have h1 := hv.2 j (ready_mono hj hji)
          unfold Vd at h1
          simp only [hoj] at h1
          simp only [Ns, Bool.and_eq_true, Bool.or_eq_true] at hm2
          obtain ⟨a1, a2, a3⟩ := Oper.apart_spec hm2.1
          refine (AStep1.growX hm2.2 a1 h1).mono ?_
          rintro _ H' ⟨u, rfl, h3, h4⟩
          refine ⟨fun _ => h3, (hs.put a3 h3).step ⟨[], by simp⟩ ?_⟩
          rw [← put_comm a2]
          exact h4
      unfold Vd
      simp only [hoj]
      refine h2'.mono fun fr1 H1 h3 => ⟨h3.1, ?_⟩
      refine ih (listed.setIfInBounds j true) fr1 H1 (ready_mono hi (Ne.symm hji)) (fun k hk => ?_) (fun k ok hki hkl hkd hok => hfree k ok hki ?_ hkd hok) ?_
      · have hkj : j ≠ k := fun e => by subst e; rw [hdj] at hk; cases hk
        rw [Array.getD_eq_getD_getElem?, Array.getElem?_setIfInBounds_ne hkj, ← Array.getD_eq_getD_getElem?]
        exact hD k hk
      · by_cases hkj : k = j
        · subst hkj
          rw [Array.getD_eq_getD_getElem?, Array.getElem?_setIfInBounds_self] at hkl
          split at hkl <;> simp at hkl
        · rw [Array.getD_eq_getD_getElem?, Array.getElem?_setIfInBounds_ne (by omega)] at hkl
          rw [Array.getD_eq_getD_getElem?]
          exact hkl
      · rw [Array.setIfInBounds_comm _ _ (show j ≠ i from hji)]
        exact h3.2
inductive Plan where
  | nil
  | one (i : Nat) (p : Plan)
  | pur (i : Nat) (p : Plan)
  | alt (i : Nat) (p q : Plan)
  | ext (i : Nat) (p : Plan)
def AStepS (P : Program) (ops : Array Oper) (i : Nat) (fr : Fr) (H : Hp) (X : Fr → Hp → Prop) : Prop :=
  match ops[i]? with
  | some o => ∃ v, ASure P ops o fr H v ∧ X (fr.put o.dst v) H
  | none => False
def J1t (P : Program) (ops : Array Oper) (K : Fr → Hp → Prop) : Plan → Fr → Hp → Prop
  | .nil, fr, H => K fr H
  | .one i p, fr, H => Vd P ops i fr H (J1t P ops K p)
  | .pur i p, fr, H => AStepS P ops i fr H (J1t P ops K p)
  | .alt i p q, fr, H => Vd P ops i fr H (J1t P ops K p) ∧ J1t P ops K q fr H
  | .ext i p, fr, H => Vd P ops i fr H (fun fr1 H1 => (∃ E, H1 = H ++ E) ∧ J1t P ops K p fr1 H1)
def J1p (ops : Array Oper) (i : Nat) : Array Bool := ops.foldl (fun D o => D.push (o.after.any fun e => Region.binds .any e && (e.on == i || D.getD e.on false))) #[]
def waitsOk (ops : Array Oper) (D : Array Bool) (i : Nat) : Bool :=
  (List.range D.size).all fun j => !D.getD j false || (match ops[j]? with | some o => o.after.any (fun e => Region.binds .any e && (e.on == i || D.getD e.on false)) | none => false)
theorem waitsOk_spec {ops : Array Oper} {D : Array Bool} {i : Nat} (h : waitsOk ops D i = true) : Waits ops (fun j => D.getD j false) i := by
  intro j hj
  unfold waitsOk at h
  have hlt : j < D.size := by
    rcases Nat.lt_or_ge j D.size with h | h
    · exact h
    · simp [Array.getD_eq_getD_getElem?, h] at hj
  have := (List.all_eq_true.1 h) j (List.mem_range.2 hlt)
  simp only [hj, Bool.not_true, Bool.false_or] at this
  split at this
  · rename_i o ho
    refine ⟨o, ho, ?_⟩
    obtain ⟨e, he, h2⟩ := Array.any_eq_true'.1 this
    simp only [Bool.and_eq_true, Bool.or_eq_true, beq_iff_eq] at h2
    exact ⟨e, he, h2.1, h2.2⟩
  · cases this
def freeD (P : Program) (ops : Array Oper) (M : Nat → Bool) (listed : Array Bool) (i : Nat) (D : Array Bool) : Bool :=
  waitsOk ops D i && ((List.range D.size).all fun j => !D.getD j false || !listed.getD j true) &&
  match ops[i]? with
  | some o => Vt P o.op && (List.range ops.size).all fun j => j == i || listed.getD j true || D.getD j false || (match ops[j]? with | some oj => mayPass P ops o oj || (Ge P o.op && Ns P ops (M j) o oj) | none => true)
  | none => false
def free (P : Program) (ops : Array Oper) (M : Nat → Bool) (listed : Array Bool) (i : Nat) : Bool := freeD P ops M listed i (J1p ops i)
def freeS (P : Program) (ops : Array Oper) (M : Nat → Bool) (listed : Array Bool) (i : Nat) (D : Array Bool) : Bool :=
  waitsOk ops D i && ((List.range D.size).all fun j => !D.getD j false || !listed.getD j true) &&
  match ops[i]? with
  | some o => (List.range ops.size).all fun j => j == i || listed.getD j true || D.getD j false || (match ops[j]? with | some oj => Ns P ops (M j) o oj | none => true)
  | none => false
def Plan.ok (P : Program) (ops : Array Oper) (M : Nat → Bool) : Plan → Nat → List Nat → Array Bool → Bool
  | .nil, _, cov, listed => (Region.ready .any ops listed).isEmpty
  | .one i p, 0, _, _ => false
  | .one i p, n + 1, cov, listed => !(M i) && (Region.ready .any ops listed).contains i && (((Region.ready .any ops listed).all fun j => j == i || cov.contains j) || (cov.isEmpty && free P ops M listed i)) && p.ok P ops M n [] (listed.setIfInBounds i true)
  | .pur i p, 0, _, _ => false
  | .pur i p, n + 1, cov, listed => (Region.ready .any ops listed).contains i && (cov.isEmpty && freeS P ops M listed i (J1p ops i)) && p.ok P ops M n [] (listed.setIfInBounds i true)
  | .alt i p q, 0, _, _ => false
  | .alt i p q, n + 1, cov, listed => !(M i) && (Region.ready .any ops listed).contains i && p.ok P ops M n [] (listed.setIfInBounds i true) && q.ok P ops M (n + 1) (i :: cov) listed
  | .ext i p, 0, _, _ => false
  | .ext i p, n + 1, cov, listed => (Region.ready .any ops listed).contains i && ((Region.ready .any ops listed).all fun j => j == i || cov.contains j) && p.ok P ops M n [] (listed.setIfInBounds i true)
theorem Plan.sound {P : Program} {ops : Array Oper} {M : Nat → Bool} {K : Fr → Hp → Prop} : ∀ (p : Plan) (n : Nat) (cov : List Nat) (listed : Array Bool) (fr : Fr) (H : Hp), p.ok P ops M n cov listed = true → J1t P ops K p fr H →
    (cov = [] ∨ ∃ m, n = m + 1 ∧ ∀ j ∈ cov, Vd P ops j fr H (fun fr1 H1 => (M j = true → ∃ E, H1 = H ++ E) ∧ AAny P ops M K m (listed.setIfInBounds j true) fr1 H1)) → AAny P ops M K n listed fr H
  | .nil, n, cov, listed, fr, H, hok, h, _ => by
    simp only [Plan.ok, List.isEmpty_iff] at hok
    cases n with
    | zero => exact ⟨hok, h⟩
    | succ n => exact ⟨fun _ => h, fun i hi => (by rw [hok] at hi; cases hi)⟩
  | .one i p, 0, cov, listed, fr, H, hok, _, _ => by simp [Plan.ok] at hok
  | .one i p, n + 1, cov, listed, fr, H, hok, h, hcov => by
    simp only [Plan.ok, Bool.and_eq_true, Bool.or_eq_true, Bool.not_eq_true'] at hok
    obtain ⟨⟨⟨hMi, hr⟩, hk⟩, hp⟩ := hok
    have noM : ∀ {x : Prop}, M i = true → x := fun hx => by rw [hMi] at hx; cases hx
    have hi : i ∈ Region.ready .any ops listed := by simpa using hr
    simp only [J1t] at h
    have hstep : Vd P ops i fr H (AAny P ops M K n (listed.setIfInBounds i true)) := by
      unfold Vd at h ⊢
      split at h
      · exact h.mono fun fr1 H1 h1 => Plan.sound p n [] _ fr1 H1 hp h1 (.inl rfl)
      · exact h.elim
    rcases hk with hk | ⟨_, hf⟩
    rotate_left
    · unfold free freeD at hf
      simp only [Bool.and_eq_true] at hf
      obtain ⟨⟨hwt, hdl⟩, hf⟩ := hf
      split at hf
      · rename_i o ho
        simp only [Bool.and_eq_true] at hf
        refine AAny_first (waitsOk_spec hwt) ho hf.1 n listed fr H hi ?_ ?_ ?_
        · intro j hj
          have hlt : j < (J1p ops i).size := by
            rcases Nat.lt_or_ge j (J1p ops i).size with h | h
            · exact h
            · simp [Array.getD_eq_getD_getElem?, h] at hj
          have := (List.all_eq_true.1 hdl) j (List.mem_range.2 hlt)
          simpa only [hj, Bool.not_true, Bool.false_or, Bool.not_eq_true'] using this
        · intro j oj hji hjl hjd hoj
          have hjs : j < ops.size := (Array.getElem?_eq_some_iff.1 hoj).1
          have := (List.all_eq_true.1 hf.2) j (List.mem_range.2 hjs)
          simp only [hoj, hjl, hjd, Bool.or_eq_true, Bool.and_eq_true, beq_iff_eq, hji, Bool.false_eq_true, or_self, false_or] at this
          exact this
        · unfold Vd at hstep; simpa only [ho] using hstep
      · cases hf
    · refine ⟨fun h0 => (by rw [h0] at hi; cases hi), fun j hj => ?_⟩
      have := (List.all_eq_true.1 hk) j hj
      simp only [Bool.or_eq_true, beq_iff_eq] at this
      rcases this with rfl | hc
      · unfold Vd at hstep ⊢
        split at hstep
        · exact hstep.mono fun fr1 H1 h1 => ⟨noM, h1⟩
        · exact hstep.elim
      · rcases hcov with rfl | ⟨m, hm, hcov⟩
        · simp at hc
        · cases hm; exact hcov j (by simpa using hc)
  | .pur i p, 0, cov, listed, fr, H, hok, _, _ => by simp [Plan.ok] at hok
  | .pur i p, n + 1, cov, listed, fr, H, hok, h, hcov => by
    simp only [Plan.ok, Bool.and_eq_true] at hok
    obtain ⟨⟨hr, _, hf⟩, hp⟩ := hok
    have hi : i ∈ Region.ready .any ops listed := by simpa using hr
    simp only [J1t] at h
    unfold freeS at hf
    simp only [Bool.and_eq_true] at hf
    obtain ⟨⟨hwt, hdl⟩, hf⟩ := hf
    unfold AStepS at h
    split at h
    · rename_i o ho
      simp only [ho] at hf
      obtain ⟨v, hs, hx⟩ := h
      refine AAny_firstS (waitsOk_spec hwt) ho n listed fr H v hi ?_ ?_ hs (Plan.sound p n [] _ _ H hp hx (.inl rfl))
      · intro j hj
        have hlt : j < (J1p ops i).size := by
          rcases Nat.lt_or_ge j (J1p ops i).size with h | h
          · exact h
          · simp [Array.getD_eq_getD_getElem?, h] at hj
        have := (List.all_eq_true.1 hdl) j (List.mem_range.2 hlt)
        simpa only [hj, Bool.not_true, Bool.false_or, Bool.not_eq_true'] using this
      · intro j oj hji hjl hjd hoj
        have hjs : j < ops.size := (Array.getElem?_eq_some_iff.1 hoj).1
        have := (List.all_eq_true.1 hf) j (List.mem_range.2 hjs)
        simp only [hoj, hjl, hjd, Bool.or_eq_true, beq_iff_eq, hji, Bool.false_eq_true, or_self, false_or] at this
        exact this
    · exact h.elim
  | .alt i p q, 0, cov, listed, fr, H, hok, _, _ => by simp [Plan.ok] at hok
  | .alt i p q, n + 1, cov, listed, fr, H, hok, h, hcov => by
    simp only [Plan.ok, Bool.and_eq_true, Bool.not_eq_true'] at hok
    obtain ⟨⟨⟨hMi, hr⟩, hp⟩, hq⟩ := hok
    have noM : ∀ {x : Prop}, M i = true → x := fun hx => by rw [hMi] at hx; cases hx
    simp only [J1t] at h
    have hstep : Vd P ops i fr H (fun fr1 H1 => (M i = true → ∃ E, H1 = H ++ E) ∧ AAny P ops M K n (listed.setIfInBounds i true) fr1 H1) := by
      have h1 := h.1
      unfold Vd at h1 ⊢
      split at h1
      · exact h1.mono fun fr1 H1 h2 => ⟨noM, Plan.sound p n [] _ fr1 H1 hp h2 (.inl rfl)⟩
      · exact h1.elim
    refine Plan.sound q (n + 1) (i :: cov) listed fr H hq h.2 (.inr ⟨n, rfl, fun j hj => ?_⟩)
    rcases List.mem_cons.1 hj with rfl | hj
    · exact hstep
    · rcases hcov with rfl | ⟨m, hm, hcov⟩
      · cases hj
      · cases hm; exact hcov j hj
  | .ext i p, 0, cov, listed, fr, H, hok, _, _ => by simp [Plan.ok] at hok
  | .ext i p, n + 1, cov, listed, fr, H, hok, h, hcov => by
    simp only [Plan.ok, Bool.and_eq_true] at hok
    obtain ⟨⟨hr, hk⟩, hp⟩ := hok
    simp only [J1t] at h
    refine ⟨fun h0 => (by rw [h0] at hr; simp at hr), fun j hj => ?_⟩
    have := (List.all_eq_true.1 hk) j hj
    simp only [Bool.or_eq_true, beq_iff_eq] at this
    rcases this with rfl | hc
    · unfold Vd at h ⊢
      split at h
      · exact h.mono fun fr1 H1 h1 => ⟨fun _ => h1.1, Plan.sound p n [] _ fr1 H1 hp h1.2 (.inl rfl)⟩
      · exact h.elim
    · rcases hcov with rfl | ⟨m, hm, hcov⟩
      · simp at hc
      · cases hm; exact hcov j (by simpa using hc)
section
variable {P : Program} {fr : Fr} {H : Hp} {Q : Exit → Fr → Hp → Prop}
theorem AAny_sound {M : Nat → Bool} {w0 : World} {B : Nat} {β0 : Nat → Bx} {n0 : Nat} (ops : Array Oper) {K : Fr → Hp → Prop} (hfit : opsFit n0 ops.toList = true) :
    ∀ (n : Nat) (listed : Array Bool) (fr : Fr) (H : Hp) (β : Nat → Bx) (w : World) (a : Act), AAny P ops M K n listed fr H → a.defers = [] → a.tmps.size = n0 → Rel w0 B β H w → FR β H.length fr a.tmps → ∀ m, m ≤ H.length → Agree m β0 β →
      wpAny P .any ops (APost w0 B β0 m n0 fun e fr' H' => e = .normal ∧ K fr' H') n listed a w
  | 0, listed, fr, H, β, w, a, h, hd, hs, R, F, m, hm, ag => ⟨h.1, hd, hs, β, fr, H, ⟨rfl, h.2⟩, ag, hm, F, R⟩
  | n + 1, listed, fr, H, β, w, a, h, hd, hs, R, F, m, hm, ag => by
    refine ⟨fun h0 => ⟨hd, hs, β, fr, H, ⟨rfl, h.1 h0⟩, ag, hm, F, R⟩, fun i hi => ?_⟩
    have h1 := h.2 i hi
    unfold Vd at h1
    split at h1
    case h_2 => exact h1.elim
    rename_i o ho
    replace h1 := h1.mono fun fr1 H1 h2 => h2.2
    have hdst : ∀ t, o.dst = some t → t < a.tmps.size := fun t ht => by rw [hs]; exact opsFit_all hfit i o t ho ht
    unfold wpOp
    simp only [ho]
    unfold AStep1 Vv Uf Un at h1
    split at h1
    · rename_i t ht
      have hw := wantedA_eq F ht (fun j o' d h1 h2 => by rw [hs]; exact opsFit_all hfit j o' d h1 h2)
      rw [hw]
      have go : ∀ (v : AV) (x : Value) (H' : Hp) (w' : World) (β' : Nat → Bx), AAny P ops M K n (listed.setIfInBounds i true) (fr.put o.dst v) H' → Agree H.length β β' → H.length ≤ H'.length → VR β' v x → v.lt H'.length → Rel w0 B β' H' w' →
          wpAny P .any ops (APost w0 B β0 m n0 fun e fr' H' => e = .normal ∧ K fr' H') n (listed.setIfInBounds i true) (a.put o.dst x) w' := by
        intro v x H' w' β' h1 h2 h3 h4 h5 h6
        exact AAny_sound ops hfit n _ _ _ β' w' _ h1 (by rw [Act.put_defers']; exact hd) (by rw [Act.put_size]; exact hs) h6 (FR_put (FR_congr F h2 h3) hdst h4 h5) m (by omega) (ag.trans h2 hm)
      cases t
      · simp only [Bool.false_eq_true, if_false] at h1 ⊢
        exact go (.tup []) Go.undef H w β h1 (Agree.refl _ _) (Nat.le_refl _) (by simp only [VR]; exact ⟨#[], rfl, rfl⟩) trivial R
      · simp only [if_true] at h1 ⊢
        refine .inl ?_
        unfold Oper.wp
        split at h1
        · rename_i f args hc
          obtain ⟨vs, hrun, hv, hl⟩ := run_acall F hc
          rw [hrun]
          rcases h1 with h1 | h1
          · obtain ⟨fn, hf, hb, hn⟩ := h1.1
            rw [J0w hf hb hn]
            simp only [Oper.upon]
            refine (h1.2 w0 B β w vs R hv hl).mono ?_
            rintro e w' ⟨β', r, v, H', rfl, g1, g2, g3, g4, g5, g6⟩
            exact go r v H' w' β' g1 g2 g3 g4 g5 g6
          · obtain ⟨v, w', β', r, H', g0, g1, g2, g3, g4, g5, g6⟩ := h1 w0 B β w vs R hv hl
            rw [g0]
            simp only [Oper.upon]
            exact go r v H' w' β' g1 g2 g3 g4 g5 g6
        · split at h1
          · rename_i v H' hst
            obtain ⟨nx, x, w', hrun, hx, β', g2, g3, g4, g5, g6⟩ := run_astep R F hst
            rw [hrun]
            rcases hx with rfl | ⟨rfl, rfl⟩
            · exact go v x H' w' β' h1 g2 g3 g4 g5 g6
            · exact go v _ H' w' β' h1 g2 g3 g4 g5 g6
          · exact h1.elim
    · exact h1.elim
theorem Rel.drew {w0 : World} {B : Nat} {β : Nat → Bx} {H : Hp} {w : World} (R : Rel w0 B β H w) : Rel w0 B β H { w with drawn := w.drawn + 1 } := R.kept (Below.refl _ _).drew
theorem wpAny_post {w0 : World} {B : Nat} {β : Nat → Bx} {n m : Nat} {ops : Array Oper} : ∀ (k : Nat) (listed : Array Bool) {a : Act} {w : World}, wpAny P .any ops (APost w0 B β n m fun e fr' H' => e = .normal ∧ Q .normal fr' H') k listed a w → wpAny P .any ops (APost w0 B β n m Q) k listed a w := by
  have hQ : ∀ e a w, APost w0 B β n m (fun e fr' H' => e = .normal ∧ Q .normal fr' H') e a w → APost w0 B β n m Q e a w := by
    rintro e a w ⟨h1, h2, β', fr', H', ⟨rfl, h3⟩, h4⟩
    exact ⟨h1, h2, β', fr', H', h3, h4⟩
  intro k
  induction k with
  | zero => intro listed a w h; exact ⟨h.1, hQ _ _ _ h.2⟩
  | succ k ih =>
    intro listed a w h
    refine ⟨fun h0 => hQ _ _ _ (h.1 h0), fun i hi => ?_⟩
    have h1 := h.2 i hi
    unfold wpOp at h1 ⊢
    split at h1
    · exact ih _ h1
    · split at h1
      · rename_i hw
        rw [if_pos hw]
        rcases h1 with h1 | ⟨h1, a', w', h2⟩
        · refine .inl ?_
          unfold Oper.wp at h1 ⊢
          generalize (execOp a.eval _).run P w = r at h1
          cases r with
          | ok nx w' =>
            cases nx <;> simp only [Oper.upon] at h1 ⊢ <;>
              first
                | exact ih _ h1
                | exact Calls.mono h1 (fun e w'' he => by
                    cases e <;> first
                      | exact ih _ he
                      | exact hQ _ _ _ he
                      | (obtain ⟨a', w', h2⟩ := he; exact ⟨a', w', hQ _ _ _ h2⟩))
                | exact Rows.mono h1 (fun _ _ he => ih _ he)
          | halt x w' => cases x <;> simp only [Oper.upon] at h1 ⊢ <;> exact hQ _ _ _ h1
        · exact .inr ⟨h1, a', w', hQ _ _ _ h2⟩
      · rename_i hw
        rw [if_neg hw]
        exact ih _ h1
theorem AWp_region_draw {id : Nat} {ops : Array Oper} (M : Nat → Bool) (p : Plan) (hmix : P.follows .mixedOrders = true) (hok : p.ok P ops M ops.size [] (Array.replicate ops.size false) = true) (h : J1t P ops (Q .normal) p fr H) : AWp P (.region id ops true) fr H Q := by
  intro w0 B β w a hd hf R F
  simp only [Gz] at hf
  refine wp_region_any hmix ?_
  refine wpAny_post _ _ ?_
  exact AAny_sound ops hf _ _ fr H β _ a (Plan.sound p _ [] _ fr H hok h (.inl rfl)) hd rfl R.drew F H.length (Nat.le_refl _) (Agree.refl _ _)
end
end Go.AL
namespace Go.AL
open Go.RowKit
inductive Wg where
  | ops (l : List Oper)
  | ord (p : Plan)
section
variable (P : Program) (ops : Array Oper) (K : Fr → Hp → Prop)
def Run : Wg → Fr → Hp → Prop
  | .ops l, fr, H => AOps P ops K l fr H
  | .ord p, fr, H => J1t P ops K p fr H
def ECall (d : Option Tmp) (c : Wg) (fr : Fr) (f : FuncId) (args : List AV) (H : Hp) : Prop := ACallO P f args H fun r H' => Run P ops K c (fr.put d r) H'
def E0 (o : Oper) (c : Wg) (fr : Fr) (H : Hp) : Prop :=
  match Q2 P fr o.op with
  | some (f, args) => ECall P ops K o.dst c fr f args H
  | none =>
    match Q0 P fr H o.op with
    | some (v, H') => Run P ops K c (fr.put o.dst v) H'
    | none => False
def EGuard (o : Oper) (c : Wg) (fr : Fr) (H : Hp) (t : Bool) : Prop := if t = true then E0 P ops K o c fr H else Run P ops K c (fr.put o.dst (.tup [])) H
def EStep (o : Oper) (c : Wg) (fr : Fr) (H : Hp) : Prop :=
  match Jp ops fr o with
  | some t => EGuard P ops K o c fr H t
  | none => False
def EAt (i : Nat) (c : Wg) (fr : Fr) (H : Hp) : Prop :=
  match ops[i]? with
  | some o => EStep P ops K o c fr H
  | none => False
end
def EPure (P : Program) (ops : Array Oper) (K : Fr → Hp → Prop) (d : Option Tmp) (c : Wg) (fr : Fr) (f : FuncId) (args : List AV) (H : Hp) : Prop := ∃ v, (∀ H', (∃ E, H' = H ++ E) → ACallO P f args H' fun r H'' => r = v ∧ H' = H'') ∧ Run P ops K c (fr.put d v) H
def EAtS (P : Program) (ops : Array Oper) (K : Fr → Hp → Prop) (i : Nat) (c : Wg) (fr : Fr) (H : Hp) : Prop :=
  match ops[i]? with
  | some o => match Jp ops fr o with
    | some t => if t = true then (match Q2 P fr o.op with
      | some (f, args) => EPure P ops K o.dst c fr f args H
      | none => False) else Run P ops K c (fr.put o.dst (.tup [])) H
    | none => False
  | none => False
def EExt (P : Program) (ops : Array Oper) (K : Fr → Hp → Prop) (d : Option Tmp) (c : Wg) (fr : Fr) (f : FuncId) (args : List AV) (H : Hp) : Prop := ACallO P f args H fun r H' => (∃ E, H' = H ++ E) ∧ Run P ops K c (fr.put d r) H'
def EAtX (P : Program) (ops : Array Oper) (K : Fr → Hp → Prop) (i : Nat) (c : Wg) (fr : Fr) (H : Hp) : Prop :=
  match ops[i]? with
  | some o => match Jp ops fr o with
    | some t => if t = true then (match Q2 P fr o.op with
      | some (f, args) => EExt P ops K o.dst c fr f args H
      | none => False) else Run P ops K c (fr.put o.dst (.tup [])) H
    | none => False
  | none => False
def ESt (P : Program) (ops : Array Oper) (K : Fr → Hp → Prop) (c : Wg) (d : Option Tmp) (fr : Fr) (x : Option (AV × Hp)) : Prop :=
  match x with
  | some (v, H') => Run P ops K c (fr.put d v) H'
  | none => False
section
variable {P : Program} {ops : Array Oper} {K : Fr → Hp → Prop} {fr : Fr} {H : Hp}
theorem ESt_some {c : Wg} {d : Option Tmp} {v : AV} {H' : Hp} : ESt P ops K c d fr (some (v, H')) = Run P ops K c (fr.put d v) H' := id rfl
theorem Xe {d : Option Tmp} {c : Wg} {f : FuncId} {args : List AV} {v : AV} (hc : ∀ H', (∃ E, H' = H ++ E) → ACalls P f args H' fun r H'' => r = v ∧ H' = H'') (h : Run P ops K c (fr.put d v) H) : EPure P ops K d c fr f args H := ⟨v, fun H' he => .inl (hc H' he), h⟩
theorem Jn {i : Nat} {c : Wg} : EAtS P ops K i c fr H = (match ops[i]? with
  | some o => match Jp ops fr o with
    | some t => if t = true then (match Q2 P fr o.op with
      | some (f, args) => EPure P ops K o.dst c fr f args H
      | none => False) else Run P ops K c (fr.put o.dst (.tup [])) H
    | none => False
  | none => False) := id rfl
theorem EAtS_sure {i : Nat} {p : Plan} (h : EAtS P ops K i (.ord p) fr H) : J1t P ops K (.pur i p) fr H := by
  simp only [J1t, AStepS]
  unfold EAtS at h
  split at h
  · rename_i o ho
    try simp only [ho]
    split at h
    · rename_i t hw
      cases t
      · simp only [Bool.false_eq_true, if_false] at h
        exact ⟨_, by unfold ASure; simp only [hw], h⟩
      · simp only [if_true] at h
        split at h
        · rename_i f args hc
          obtain ⟨v, h1, h2⟩ := h
          exact ⟨v, by unfold ASure; simp only [hw, hc]; exact h1, h2⟩
        · exact h.elim
    · exact h.elim
  · exact h.elim
theorem Zs {i : Nat} {p : Plan} (h : EAtS P ops K i (.ord p) fr H) : Run P ops K (.ord (.pur i p)) fr H := EAtS_sure h
theorem Jm {i : Nat} {c : Wg} : EAtX P ops K i c fr H = (match ops[i]? with
  | some o => match Jp ops fr o with
    | some t => if t = true then (match Q2 P fr o.op with
      | some (f, args) => EExt P ops K o.dst c fr f args H
      | none => False) else Run P ops K c (fr.put o.dst (.tup [])) H
    | none => False
  | none => False) := id rfl
theorem Xi {d : Option Tmp} {c : Wg} {f : FuncId} {args : List AV} {R : AV → Hp → Prop} (hc : ACalls P f args H R) (h : ∀ r H', R r H' → (∃ E, H' = H ++ E) ∧ Run P ops K c (fr.put d r) H') : EExt P ops K d c fr f args H := .inl (hc.mono h)
theorem Nv {d : Option Tmp} {c : Wg} {f : FuncId} {args : List AV} {v : AV} (hc : ACalls P f args H fun r H' => r = v ∧ H = H') (h : Run P ops K c (fr.put d v) H) : EExt P ops K d c fr f args H := Xi hc fun r H' ⟨h1, h2⟩ => by subst h1; subst h2; exact ⟨⟨[], by simp⟩, h⟩
theorem EAtX_ext {i : Nat} {p : Plan} (h : EAtX P ops K i (.ord p) fr H) : J1t P ops K (.ext i p) fr H := by
  simp only [J1t, Vd]
  unfold EAtX at h
  split at h
  · rename_i o ho
    try simp only [ho]
    unfold AStep1 Vv Uf Un
    split at h
    · rename_i t hw
      simp only [hw]
      cases t
      · simp only [Bool.false_eq_true, if_false] at h ⊢
        exact ⟨⟨[], by simp⟩, h⟩
      · simp only [if_true] at h ⊢
        split at h
        · rename_i f args hc
          simp only [hc]
          exact h
        · exact h.elim
    · exact h.elim
  · exact h.elim
theorem Z1 {i : Nat} {p : Plan} (h : EAtX P ops K i (.ord p) fr H) : Run P ops K (.ord (.ext i p)) fr H := EAtX_ext h
theorem Run_nil : Run P ops K (.ops []) fr H = K fr H := id rfl
theorem Run_cons {o : Oper} {l : List Oper} : Run P ops K (.ops (o :: l)) fr H = EStep P ops K o (.ops l) fr H := id rfl
theorem Run_pnil : Run P ops K (.ord .nil) fr H = K fr H := id rfl
theorem Run_one {i : Nat} {p : Plan} : Run P ops K (.ord (.one i p)) fr H = EAt P ops K i (.ord p) fr H := id rfl
theorem Run_alt {i : Nat} {p q : Plan} : Run P ops K (.ord (.alt i p q)) fr H = (EAt P ops K i (.ord p) fr H ∧ Run P ops K (.ord q) fr H) := id rfl
theorem EGuard_true {o : Oper} {c : Wg} : EGuard P ops K o c fr H true = E0 P ops K o c fr H := id rfl
theorem EGuard_false {o : Oper} {c : Wg} : EGuard P ops K o c fr H false = Run P ops K c (fr.put o.dst (.tup [])) H := id rfl
theorem EStep_def {o : Oper} {c : Wg} : EStep P ops K o c fr H = (match Jp ops fr o with
  | some t => EGuard P ops K o c fr H t
  | none => False) := id rfl
theorem E0_def {o : Oper} {c : Wg} : E0 P ops K o c fr H = (match Q2 P fr o.op with
  | some (f, args) => ECall P ops K o.dst c fr f args H
  | none => ESt P ops K c o.dst fr (Q0 P fr H o.op)) := id rfl
theorem EAt_def {i : Nat} {c : Wg} : EAt P ops K i c fr H = (match ops[i]? with
  | some o => EStep P ops K o c fr H
  | none => False) := id rfl
theorem Qn {o : Oper} {c : Wg} {t : Bool} (h1 : t = true → E0 P ops K o c fr H) (h2 : t = false → Run P ops K c (fr.put o.dst (.tup [])) H) : EGuard P ops K o c fr H t := by
  cases t
  · exact h2 rfl
  · exact h1 rfl
theorem Jq {d : Option Tmp} {c : Wg} {f : FuncId} {args : List AV} {R : AV → Hp → Prop} (hc : ACalls P f args H R) (h : ∀ r H', R r H' → Run P ops K c (fr.put d r) H') : ECall P ops K d c fr f args H := .inl (hc.mono h)
theorem Xo {d : Option Tmp} {c : Wg} {f : FuncId} {args : List AV} {R : AV → Hp → Prop} (hc : AExt P f args H R) (h : ∀ r H', R r H' → Run P ops K c (fr.put d r) H') : ECall P ops K d c fr f args H := (ACallO.mono (.inr hc) h)
end
theorem Jg {P : Program} {fr : Fr} {H : Hp} {Q : Exit → Fr → Hp → Prop} {id : Nat} {ops : Array Oper} (h : Run P ops (Q .normal) (.ops ops.toList) fr H) : AWp P (.region id ops false) fr H Q := AWp_region h
theorem Qw {P : Program} {fr : Fr} {H : Hp} {Q : Exit → Fr → Hp → Prop} {id : Nat} {ops : Array Oper} (M : List Nat) (p : Plan) (hmix : P.follows .mixedOrders = true) (hok : p.ok P ops M.contains ops.size [] (Array.replicate ops.size false) = true) (h : Run P ops (Q .normal) (.ord p) fr H) : AWp P (.region id ops true) fr H Q :=
  AWp_region_draw M.contains p hmix hok h
theorem AV.solid_int {k : IntKind} {n : Int} : AV.solid (.int k n) = true := id rfl
theorem AV.one_int {k : IntKind} {n : Int} : AV.one (.int k n) = true := id rfl
theorem AV.cells_int {k : IntKind} {n : Int} : AV.cells (.int k n) = [(.int k n)] := id rfl
theorem AV.solid_bool {b : Bool} : AV.solid (.bool b) = true := id rfl
theorem AV.one_bool {b : Bool} : AV.one (.bool b) = true := id rfl
theorem AV.cells_bool {b : Bool} : AV.cells (.bool b) = [(.bool b)] := id rfl
theorem AV.solid_str {s : ByteArray} : AV.solid (.str s) = true := id rfl
theorem AV.one_str {s : ByteArray} : AV.one (.str s) = true := id rfl
theorem AV.cells_str {s : ByteArray} : AV.cells (.str s) = [(.str s)] := id rfl
theorem AV.solid_nilI  : AV.solid .nilI = true := id rfl
theorem AV.one_nilI  : AV.one .nilI = true := id rfl
theorem AV.cells_nilI  : AV.cells .nilI = [.nilI] := id rfl
theorem AV.solid_ifc {t : TypeId} {v : AV} : AV.solid (.ifc t v) = true := id rfl
theorem AV.one_ifc {t : TypeId} {v : AV} : AV.one (.ifc t v) = true := id rfl
theorem AV.cells_ifc {t : TypeId} {v : AV} : AV.cells (.ifc t v) = [(.ifc t v)] := id rfl
theorem AV.solid_nilP  : AV.solid .nilP = true := id rfl
theorem AV.one_nilP  : AV.one .nilP = true := id rfl
theorem AV.cells_nilP  : AV.cells .nilP = [.nilP] := id rfl
theorem AV.solid_ptr {h o : Nat} : AV.solid (.ptr h o) = true := id rfl
theorem AV.one_ptr {h o : Nat} : AV.one (.ptr h o) = true := id rfl
theorem AV.cells_ptr {h o : Nat} : AV.cells (.ptr h o) = [(.ptr h o)] := id rfl
theorem AV.solid_nilS  : AV.solid .nilS = true := id rfl
theorem AV.one_nilS  : AV.one .nilS = true := id rfl
theorem AV.cells_nilS  : AV.cells .nilS = [.nilS] := id rfl
theorem AV.solid_sl {h o n c : Nat} : AV.solid (.sl h o n c) = true := id rfl
theorem AV.one_sl {h o n c : Nat} : AV.one (.sl h o n c) = true := id rfl
theorem AV.cells_sl {h o n c : Nat} : AV.cells (.sl h o n c) = [(.sl h o n c)] := id rfl
theorem AV.solid_sg {h o n z : Nat} : AV.solid (.sg h o n z) = true := id rfl
theorem AV.one_sg {h o n z : Nat} : AV.one (.sg h o n z) = true := id rfl
theorem AV.cells_sg {h o n z : Nat} : AV.cells (.sg h o n z) = [(.sg h o n z)] := id rfl
theorem AV.solid_fn {f : FuncId} : AV.solid (.fn f) = true := id rfl
theorem AV.one_fn {f : FuncId} : AV.one (.fn f) = true := id rfl
theorem AV.cells_fn {f : FuncId} : AV.cells (.fn f) = [(.fn f)] := id rfl
theorem AV.cells_agg {cs : List AV} : AV.cells (.agg cs) = cs := id rfl
end Go.AL
namespace Go.AL
open Go.RowKit
structure Args (β : Nat → Bx) (H : Hp) (w : World) : Prop where
  rel : Rel w w.heap.size β H w
  ro : ∀ (h : Nat) (b : Blk), H[h]? = some b → b.kind ≠ .own
theorem Args.start (w : World) (β : Nat → Bx) : Args β [] w :=
  ⟨⟨Below.refl _ _, Nat.le_refl _, fun h b hb => by simp at hb, fun h b hb => by simp at hb, fun h b hb => by simp at hb, fun h b hb => by simp at hb, fun h h' b b' _ hb => by simp at hb⟩, fun h b hb => by simp at hb⟩
theorem Args.add {β : Nat → Bx} {H : Hp} {w : World} (A : Args β H w) (x : Addr) (cs : List AV) (e : TypeId)
    (hc : ∀ (i : Nat) (c : AV), cs[i]? = some c → ∃ v, w.cell? (x.add i) = some v ∧ VR β c v ∧ v.oneCell' = true) (hl : AV.lts H.length cs) :
    Args (upd β H.length ⟨x, 0⟩) (H ++ [⟨cs, .ro, e⟩]) w := by
  have R := A.rel
  have ag := V6 β H.length ⟨x, 0⟩
  have atn : upd β H.length ⟨x, 0⟩ H.length = ⟨x, 0⟩ := by simp [upd]
  have hold : ∀ {h : Nat} {b : Blk}, (H ++ [(⟨cs, .ro, e⟩ : Blk)])[h]? = some b → (h < H.length ∧ H[h]? = some b) ∨ (h = H.length ∧ b = ⟨cs, .ro, e⟩) := by
    intro h b hb
    rcases Nat.lt_trichotomy h H.length with h1 | h1 | h1
    · rw [List.getElem?_append_left h1] at hb; exact .inl ⟨h1, hb⟩
    · subst h1; simp at hb; exact .inr ⟨rfl, hb.symm⟩
    · rw [List.getElem?_eq_none (by simp; omega)] at hb; cases hb
  have hro : ∀ (h : Nat) (b : Blk), (H ++ [(⟨cs, .ro, e⟩ : Blk)])[h]? = some b → b.kind ≠ .own := by
    intro h b hb
    rcases hold hb with ⟨h1, h2⟩ | ⟨rfl, rfl⟩
    · exact A.ro h b h2
    · intro h; cases h
  refine ⟨⟨R.below, R.base, ?_, ?_, ?_, (fun h b hb a t v e hk => (hold hb).elim (fun h' => R.glob h b h'.2 a t v e hk) (fun h' => by rw [h'.2] at hk; cases hk)), ?_⟩, hro⟩
  · intro h b hb hd i c hci
    rcases hold hb with ⟨h1, h2⟩ | ⟨rfl, rfl⟩
    · obtain ⟨v, h3, h4, h5⟩ := R.cells h b h2 hd i c hci
      exact ⟨v, by rw [ag h h1]; exact h3, Yv ag c v (R.lts h b h2 hd c (List.mem_of_getElem? hci)) h4, h5⟩
    · obtain ⟨v, h3, h4, h5⟩ := hc i c hci
      exact ⟨v, by rw [atn]; exact h3, Yv ag c v ((AV.lts_iff.1 hl) c (List.mem_of_getElem? hci)) h4, h5⟩
  · intro h b hb hd c hci
    rw [Qm]
    rcases hold hb with ⟨h1, h2⟩ | ⟨rfl, rfl⟩
    · exact AV.lt_mono (by omega) c (R.lts h b h2 hd c hci)
    · exact AV.lt_mono (by omega) c ((AV.lts_iff.1 hl) c hci)
  · intro h b hb ho
    exact absurd ho (hro h b hb)
  · intro h h' b b' _ hb _ ho
    exact absurd ho (hro h b hb)
theorem Args.glob {β : Nat → Bx} {H : Hp} {w : World} (A : Args β H w) {a t v e : Nat} (hw : w.cell? ⟨a, 0, none⟩ = some (.iface t (.agg #[.pointer (some ⟨v, e, none⟩)]))) :
    Args (upd β H.length ⟨⟨a, 0, none⟩, 0⟩) (H ++ [⟨[], .glob a t v e, 0⟩]) w := by
  have A' := A.add ⟨a, 0, none⟩ [] 0 (fun i c hc => by simp at hc) trivial
  have R := A'.rel
  have hold : ∀ {h : Nat} {b : Blk}, (H ++ [(⟨[], .glob a t v e, 0⟩ : Blk)])[h]? = some b → (h < H.length ∧ H[h]? = some b) ∨ (h = H.length ∧ b = ⟨[], .glob a t v e, 0⟩) := by
    intro h b hb
    rcases Nat.lt_trichotomy h H.length with h1 | h1 | h1
    · rw [List.getElem?_append_left h1] at hb; exact .inl ⟨h1, hb⟩
    · subst h1; simp at hb; exact .inr ⟨rfl, hb.symm⟩
    · rw [List.getElem?_eq_none (by simp; omega)] at hb; cases hb
  have hro : ∀ (h : Nat) (b : Blk), (H ++ [(⟨[], .glob a t v e, 0⟩ : Blk)])[h]? = some b → b.kind ≠ .own := by
    intro h b hb
    rcases hold hb with ⟨h1, h2⟩ | ⟨rfl, rfl⟩
    · exact A.ro h b h2
    · intro h; cases h
  have up : ∀ {h : Nat} {b : Blk}, h < H.length → H[h]? = some b → (H ++ [(⟨[], .ro, 0⟩ : Blk)])[h]? = some b := fun hl hb => by rw [List.getElem?_append_left hl]; exact hb
  refine ⟨⟨R.below, R.base, ?_, ?_, ?_, ?_, ?_⟩, hro⟩
  · intro h b hb hd i c hci
    rcases hold hb with ⟨h1, h2⟩ | ⟨rfl, rfl⟩
    · exact R.cells h b (up h1 h2) hd i c hci
    · simp at hci
  · intro h b hb hd c hci
    rcases hold hb with ⟨h1, h2⟩ | ⟨rfl, rfl⟩
    · have := R.lts h b (up h1 h2) hd c hci
      simpa using this
    · cases hci
  · intro h b hb ho
    exact absurd ho (hro h b hb)
  · intro h b hb a' t' v' e' hk
    rcases hold hb with ⟨h1, h2⟩ | ⟨rfl, rfl⟩
    · exact R.glob h b (up h1 h2) a' t' v' e' hk
    · cases hk
      exact ⟨hw, by
        rcases Nat.lt_or_ge a w.heap.size with h | h
        · exact h
        · simp [World.cell?, Array.getElem?_eq_none h] at hw⟩
  · intro h h' b b' _ hb _ ho
    exact absurd ho (hro h b hb)
theorem Args.slice {β : Nat → Bx} {H : Hp} {w : World} (A : Args β H w) {a : Option Addr} {len cap z : Nat} {cs : List AV} (e : TypeId)
    (h : (a = none ∧ len = 0 ∧ cap = 0 ∧ cs = []) ∨ ∃ x, a = some x ∧ len ≤ cap ∧ cs.length = len * z ∧ (∀ (i : Nat) (c : AV), cs[i]? = some c → ∃ v, w.cell? (x.add i) = some v ∧ VR β c v ∧ v.oneCell' = true)) (hl : AV.lts H.length cs) :
    ∃ β' H' u, Args β' H' w ∧ Ext H H' ∧ Agree H.length β β' ∧ VR β' u (.slice a len cap) ∧ u.lt H'.length ∧ Rd H' z u cs len := by
  rcases h with ⟨rfl, rfl, rfl, rfl⟩ | ⟨x, rfl, hle, hlen, hc⟩
  · exact ⟨β, H, .nilS, A, Ext.refl _, Agree.refl _ _, rfl, trivial, Rd.nil _ _⟩
  · refine ⟨_, _, .sl H.length 0 len cap, A.add x cs e hc hl, Ext.push _ _, V6 _ _ _, ?_, ?_, ?_⟩
    · simp [VR, upd, Go.Addr.add]
    · simp [AV.lt]
    · refine ⟨?_, hle⟩
      simp only [arow, Vf, if_true]
      rw [if_neg (by decide), if_pos (by omega), List.drop_zero, List.take_of_length_le (by omega)]
theorem Args.ints {β : Nat → Bx} {H : Hp} {w : World} (A : Args β H w) {a : Option Addr} {len cap : Nat} {k : IntKind} {zs : List Int} (e : TypeId)
    (h : (a = none ∧ len = 0 ∧ cap = 0 ∧ zs = []) ∨ ∃ x, a = some x ∧ len ≤ cap ∧ cap ≤ maxLen ∧ zs.length = cap ∧ (∀ i, i < zs.length → w.cell? (x.add i) = some (.int k (zs.getD i 0))) ∧ ∀ n ∈ zs, (Lit.int k n).wf = true) :
    ∃ β' H' u xs, Args β' H' w ∧ Ext H H' ∧ Agree H.length β β' ∧ VR β' u (.slice a len cap) ∧ u.lt H'.length ∧ Ints H' k u xs ∧ xs.length ≤ maxLen ∧ (∀ n ∈ xs, (Lit.int k n).wf = true) := by
  have hlts : AV.lts H.length ((zs.take len).map (AV.int k)) := by
    rw [AV.lts_iff]
    intro c hc
    obtain ⟨n, _, rfl⟩ := List.mem_map.1 hc
    trivial
  have hn : len ≤ zs.length ∧ zs.length ≤ maxLen ∧ ∀ n ∈ zs, (Lit.int k n).wf = true := by
    rcases h with ⟨rfl, rfl, rfl, rfl⟩ | ⟨x, rfl, h1, h2, h3, h4, h5⟩
    · exact ⟨Nat.le_refl _, Nat.zero_le _, fun n hn => by cases hn⟩
    · exact ⟨by omega, by omega, h5⟩
  have hl : (zs.take len).length = len := by simp; omega
  have hs : (a = none ∧ len = 0 ∧ cap = 0 ∧ (zs.take len).map (AV.int k) = []) ∨ ∃ x, a = some x ∧ len ≤ cap ∧ ((zs.take len).map (AV.int k)).length = len * 1 ∧ (∀ (i : Nat) (c : AV), ((zs.take len).map (AV.int k))[i]? = some c → ∃ v, w.cell? (x.add i) = some v ∧ VR β c v ∧ v.oneCell' = true) := by
    rcases h with ⟨rfl, rfl, rfl, rfl⟩ | ⟨x, rfl, g1, g2, g3, g4, g5⟩
    · exact .inl ⟨rfl, rfl, rfl, rfl⟩
    · refine .inr ⟨x, rfl, g1, by rw [List.length_map, hl, Nat.mul_one], fun i c hc => ?_⟩
      have hi : i < len := by
        have := (List.getElem?_eq_some_iff.1 hc).1
        rw [List.length_map, hl] at this; exact this
      have hz : i < zs.length := by omega
      refine ⟨_, g4 i hz, ?_, rfl⟩
      rw [List.getElem?_map, List.getElem?_take, if_pos hi, List.getElem?_eq_getElem hz] at hc
      cases hc
      simp [VR, List.getD, hz]
  obtain ⟨β', H', u, h1, h2, h3, h4, h5, h6⟩ := A.slice (z := 1) e hs hlts
  refine ⟨β', H', u, zs.take len, h1, h2, h3, h4, h5, ?_, by omega, fun n hm => hn.2.2 n (List.mem_of_mem_take hm)⟩
  unfold Ints
  rw [hl]; exact h6
end Go.AL
namespace Go.AL
open Go.RowKit
theorem all_one_map {α : Type} {f : α → AV} (hf : ∀ x, (f x).one = true) (xs : List α) : (xs.map f).all AV.one = true := by
  simp [hf]
theorem V9 (k : IntKind) (xs : List Int) : (xs.map (AV.int k)).all AV.one = true := all_one_map (fun _ => rfl) xs
theorem Ut {P : Program} {t : TypeId} {x y : AV} {b : Bool} (h : ∀ d, Xk P (d + 1) t x y = some b) : Xk P Op.maxDepth t x y = some b := h (Op.maxDepth - 1)
theorem Yr {P : Program} {t e : TypeId} (hu : P.underlying t = some (.slice e)) : Xk P Op.maxDepth t .nilS .nilS = some true := Ut fun d => by simp [Xk, hu]
theorem Vg {P : Program} {t e : TypeId} {h o n c : Nat} (hu : P.underlying t = some (.slice e)) : Xk P Op.maxDepth t (.sl h o n c) .nilS = some false := Ut fun d => by simp [Xk, hu]
theorem Vh {P : Program} {t e : TypeId} {h o n z : Nat} (hu : P.underlying t = some (.slice e)) : Xk P Op.maxDepth t (.sg h o n z) .nilS = some false := Ut fun d => by simp [Xk, hu]
theorem append_nil {P : Program} {H : Hp} {z n by_ : Nat} {x zv : AV} {cs : List AV} {t e : TypeId} (h : Rd H z x cs n) (hu : P.underlying t = some (.slice e)) (hz : Xg P e = some z) (hzv : Z5 P e = some zv) (hzl : zv.cells.length = z) (hz0 : 0 < z) (hb : Xn P e = some by_)
    (ho : cs.all AV.one = true) (hn : 0 < n) (hby : n * by_ ≤ 140737488355328) (hm : n ≤ 140737488355328) : Y2 P H t .nilS x = some (.sg H.length 0 n z, H ++ [⟨cs, .own, e⟩]) := by
  have h1 : n ≠ 0 := by omega
  simp [Y2, hu, hz, hzv, hb, hzl, hz0, h.row, ho, h1, hby, hm, J00]
theorem J0z {P : Program} {H : Hp} {z by_ : Nat} {s x zv : AV} {cs : List AV} {t e : TypeId} (h : Rd H z x cs 0) (hu : P.underlying t = some (.slice e)) (hz : Xg P e = some z) (hzv : Z5 P e = some zv) (hzl : zv.cells.length = z) (hz0 : 0 < z) (hb : Xn P e = some by_)
    (ho : cs.all AV.one = true) (hs : s = .nilS ∨ (∃ h o n, s = .sl h o n n) ∨ ∃ h o n, s = .sg h o n z) : Y2 P H t s x = some (s, H) := by
  rcases hs with rfl | ⟨h', o, n, rfl⟩ | ⟨h', o, n, rfl⟩ <;> simp [Y2, hu, hz, hzv, hb, hzl, hz0, h.row, ho]
structure Own (H : Hp) (z : Nat) (e : TypeId) (v : AV) (cs : List AV) (n : Nat) (lo : Nat) : Prop where
  row : (v = .nilS ∧ cs = [] ∧ n = 0) ∨ (∃ h o, v = .sl h o n n ∧ Rd H z v cs n ∧ ∃ b, Qt H h = some b ∧ b.ety = e) ∨ ∃ h, v = .sg h 0 n z ∧ Qt H h = some ⟨cs, .own, e⟩ ∧ cs.length = n * z ∧ lo ≤ h
theorem Own.rd {H : Hp} {z : Nat} {e : TypeId} {v : AV} {cs : List AV} {n lo : Nat} (h : Own H z e v cs n lo) : Rd H z v cs n := by
  rcases h.row with ⟨rfl, rfl, rfl⟩ | ⟨h', o, rfl, h, _⟩ | ⟨h', rfl, hg, hl, _⟩
  · exact Rd.nil _ _
  · exact h
  · refine ⟨?_, rfl⟩
    simp only [arow, hg]
    rw [if_neg (by decide), if_pos (by omega), List.drop_zero, List.take_of_length_le (by omega)]
theorem Own.ety {H : Hp} {z : Nat} {e : TypeId} {v : AV} {cs : List AV} {n lo : Nat} (h : Own H z e v cs n lo) : v = .nilS ∨ ∃ b, Qt H v.hd = some b ∧ b.ety = e := by
  rcases h.row with ⟨rfl, _⟩ | ⟨h', o, rfl, _, h⟩ | ⟨h', rfl, hg, _⟩
  · exact .inl rfl
  · exact .inr h
  · exact .inr ⟨_, hg, rfl⟩
theorem Own.nil (H : Hp) (z : Nat) (e : TypeId) (lo : Nat) : Own H z e .nilS [] 0 lo := ⟨.inl ⟨rfl, rfl, rfl⟩⟩
theorem Own.push {H : Hp} {z : Nat} {e : TypeId} {v : AV} {cs : List AV} {n lo : Nat} (h : Own H z e v cs n lo) (b : Blk) : Own (H ++ [b]) z e v cs n lo := by
  refine ⟨?_⟩
  rcases h.row with h | ⟨h', o, rfl, h, b', hb1, hb2⟩ | ⟨h', h1, h2, h3, h4⟩
  · exact .inl h
  · exact .inr (.inl ⟨h', o, rfl, h.push b, b', Qh hb1 (Ext.push _ _), hb2⟩)
  · exact .inr (.inr ⟨h', h1, Qh h2 (Ext.push _ _), h3, h4⟩)
theorem Ext.set {H H' : Hp} (x : Ext H H') {h : Nat} (hl : H.length ≤ h) (b : Blk) : Ext H (H'.set h b) := by
  obtain ⟨E, rfl⟩ := x
  exact ⟨E.set (h - H.length) b, by rw [List.set_append]; simp [show ¬ h < H.length by omega]⟩
theorem Ext.pushed {H X : Hp} (x : Ext H X) (b : Blk) : Ext H (X ++ [b]) := x.trans (Ext.push X b)
theorem Own.ext {H H' : Hp} {z : Nat} {e : TypeId} {v : AV} {cs : List AV} {n lo : Nat} (h : Own H z e v cs n lo) (x : Ext H H') : Own H' z e v cs n lo := by
  refine ⟨?_⟩
  rcases h.row with h | ⟨h', o, h1, h, b, hb1, hb2⟩ | ⟨h', h1, h2, h3, h4⟩
  · exact .inl h
  · exact .inr (.inl ⟨h', o, h1, h.ext x, b, Qh hb1 x, hb2⟩)
  · exact .inr (.inr ⟨h', h1, Qh h2 x, h3, h4⟩)
theorem Ext.set2 {H H' : Hp} (x : Ext H H') {p : Nat} (hl : p < H.length) (b : Blk) : Ext (H.set p b) (H'.set p b) := by
  obtain ⟨E, rfl⟩ := x
  exact ⟨E, by rw [List.set_append_left _ _ hl]⟩
theorem Own.append {P : Program} {H0 H : Hp} {z n m by_ : Nat} {s x zv : AV} {cs ds : List AV} {t e : TypeId} (h : Own H z e s cs n H0.length) (hx : Rd H z x ds m) (x0 : Ext H0 H) (hu : P.underlying t = some (.slice e)) (hz : Xg P e = some z) (hzv : Z5 P e = some zv) (hzl : zv.cells.length = z) (hz0 : 0 < z) (hb : Xn P e = some by_)
    (hc : cs.all AV.one = true) (ho : ds.all AV.one = true) (hby : (n + m) * by_ ≤ 140737488355328) (hm : n + m ≤ 140737488355328) :
    ∃ v' H', Y2 P H t s x = some (v', H') ∧ Own H' z e v' (cs ++ ds) (n + m) H0.length ∧ Ext H0 H' ∧ (0 < m → ∃ h, v' = .sg h 0 (n + m) z) := by
  rcases Nat.eq_zero_or_pos m with rfl | hmp
  · have : ds = [] := List.eq_nil_of_length_eq_zero (by rw [hx.length]; omega)
    subst this
    refine ⟨s, H, J0z hx hu hz hzv hzl hz0 hb rfl ?_, by simpa using h, x0, fun h => absurd h (by omega)⟩
    rcases h.row with h | ⟨h', o, h1, _⟩ | ⟨h', h1, _⟩
    · exact .inl h.1
    · exact .inr (.inl ⟨_, _, _, h1⟩)
    · exact .inr (.inr ⟨_, _, _, h1⟩)
  · rcases h.row with ⟨rfl, rfl, rfl⟩ | ⟨h', o, rfl, hr, _⟩ | ⟨h', rfl, hg, hl, hlo⟩
    · refine ⟨_, _, append_nil hx hu hz hzv hzl hz0 hb ho hmp (by simpa using hby) (by omega), ?_, x0.pushed _, fun _ => ⟨_, by rw [Nat.zero_add]⟩⟩
      rw [Nat.zero_add, List.nil_append]
      exact ⟨.inr (.inr ⟨_, rfl, by simp [Vf], hx.length, x0.len⟩)⟩
    · have h1 : m ≠ 0 := by omega
      have h2 : ¬ n + m ≤ n := by omega
      refine ⟨.sg H.length 0 (n + m) z, H ++ [⟨cs ++ ds, .own, e⟩], ?_, ⟨.inr (.inr ⟨_, rfl, by simp [Vf], ?_, x0.len⟩)⟩, x0.pushed _, fun _ => ⟨_, rfl⟩⟩
      · simp only [Y2, hu, hz, hzv, hb, hzl, hz0, hx.row, ho, and_self, if_true, h1, false_and, if_false, h2, hby, hm, Nat.le_refl, hr.row, hc, J00]
      · rw [List.length_append, hr.length, hx.length, Nat.add_mul]
    · have h1 : m ≠ 0 := by omega
      have hmz : 0 < m * z := Nat.mul_pos hmp hz0
      have h2 : ¬ n * z + m * z ≤ cs.length := by omega
      have h3 : cs.take (n * z) = cs := List.take_of_length_le (by omega)
      have h4 : n * z ≤ cs.length := by omega
      refine ⟨.sg H.length 0 (n + m) z, H.set h' ⟨[], .dead, e⟩ ++ [⟨cs ++ ds, .own, e⟩], ?_, ?_, (x0.set hlo _).pushed _, fun _ => ⟨_, rfl⟩⟩
      · simp [Y2, hu, hz, hzv, hb, hzl, hz0, hx.row, ho, h1, hby, hm, hg, h2, h3, h4, hc]
      · refine ⟨.inr (.inr ⟨_, rfl, ?_, ?_, x0.len⟩)⟩
        · simp [Vf]
        · rw [List.length_append, hl, hx.length, Nat.add_mul]
theorem azeros_int (k : IntKind) (n : Nat) : Js [AV.int k 0] n = (List.replicate n (0 : Int)).map (AV.int k) := by
  induction n with
  | zero => simp [Js]
  | succ n ih => simp only [Js, List.replicate_succ, List.flatten_cons, List.map_cons, List.cons_append, List.nil_append] at ih ⊢; rw [ih]
theorem make_ints {P : Program} {H : Hp} {n by_ : Nat} {k l : IntKind} {t e : TypeId} (hu : P.underlying t = some (.slice e)) (hz : Xg P e = some 1) (hzv : Z5 P e = some (.int k 0)) (hb : Xn P e = some by_)
    (hn : n ≤ 140737488355328) (hby : n * by_ ≤ 140737488355328) : Zv P H t (.int l (n : Int)) (.int l (n : Int)) = some (.sl H.length 0 n n, H ++ [⟨(List.replicate n (0 : Int)).map (AV.int k), .own, e⟩]) := by
  have h1 : (n : Int) * (by_ : Int) ≤ 281474976710656 := by
    rw [← Int.natCast_mul]; omega
  simp only [Zv, hu, hz, hzv, hb, AV.cells_int, List.length_singleton, List.all_cons, AV.one_int, List.all_nil, Bool.and_true, Int.toNat_natCast, azeros_int]
  rw [if_pos ⟨trivial, trivial, by decide, by omega, by omega, by omega, h1⟩]
theorem Wd {α : Type} (f : α → AV) (xs : List α) {i : Nat} (y : α) (h : i < xs.length) : Jr (xs.map f) i [f y] = (xs.set i y).map f := by
  unfold Jr
  apply List.ext_getElem?
  intro j
  rw [List.append_assoc, List.getElem?_append]
  simp only [List.length_take, List.length_map, List.length_singleton, Nat.min_eq_left (Nat.le_of_lt h), List.map_set]
  by_cases hj : j < i
  · rw [if_pos hj, List.getElem?_take, if_pos hj, List.getElem?_set_ne (by omega)]
  · rw [if_neg hj]
    by_cases he : j = i
    · subst he
      simp [h]
    · obtain ⟨d, rfl⟩ : ∃ d, j = i + 1 + d := ⟨j - i - 1, by omega⟩
      have e1 : i + 1 + d - i = d + 1 := by omega
      rw [e1, List.singleton_append, List.getElem?_cons_succ, List.getElem?_drop, List.getElem?_set_ne (by omega)]
end Go.AL

/- Regions whose order Go leaves open, second part: plans. -/
import Derived.Test.YtdlplfhkmhkngaaALm
set_option linter.unusedVariables false
set_option linter.unusedSimpArgs false
namespace Go.AL
open Go.RowKit

def AStepI (P : Program) (ops : Array Oper) (i : Nat) (fr : Fr) (H : Hp) (X : Fr → Hp → Prop) : Prop :=
  match ops[i]? with
  | some o => AStep1 P ops o fr H X
  | none => False

/-- Whatever order the edges allow. -/
def AAny (P : Program) (ops : Array Oper) (K : Fr → Hp → Prop) : Nat → Array Bool → Fr → Hp → Prop
  | 0, listed, fr, H => Region.ready .any ops listed = [] ∧ K fr H
  | n + 1, listed, fr, H => (Region.ready .any ops listed = [] → K fr H) ∧ ∀ i ∈ Region.ready .any ops listed, AStepI P ops i fr H (AAny P ops K n (listed.setIfInBounds i true))

/-- `D` holds operations that wait, by one edge or by several, for operation `i`. -/
def Waits (ops : Array Oper) (D : Nat → Bool) (i : Nat) : Prop := ∀ j, D j = true → ∃ o, ops[j]? = some o ∧ ∃ e ∈ o.after, Region.binds .any e = true ∧ (e.on = i ∨ D e.on = true)

theorem not_ready {ops : Array Oper} {D : Nat → Bool} {i : Nat} (hw : Waits ops D i) {listed : Array Bool} (hi : listed.getD i true = false) (hD : ∀ j, D j = true → listed.getD j true = false) {j : Nat} (hj : j ∈ Region.ready .any ops listed) : D j = false := by
  cases hd : D j with
  | false => rfl
  | true =>
    obtain ⟨o, ho, e, he, hb, hon⟩ := hw j hd
    obtain ⟨_, o', ho', hall⟩ := mem_ready.1 hj
    rw [ho] at ho'; cases ho'
    have h1 := hall e he hb
    have h2 : listed.getD e.on true = false := by
      rcases hon with h | h
      · rw [h]; exact hi
      · exact hD _ h
    rw [Array.getD_eq_getD_getElem?] at h1 h2
    cases hx : listed[e.on]? with
    | none => rw [hx] at h1; cases h1
    | some b => rw [hx] at h1 h2; simp at h1 h2; rw [h1] at h2; cases h2

theorem AAny_first {P : Program} {ops : Array Oper} {K : Fr → Hp → Prop} {i : Nat} {o : Oper} {D : Nat → Bool} (hw : Waits ops D i) (ho : ops[i]? = some o) (hq : quietOp P o.op = true) : ∀ (n : Nat) (listed : Array Bool) (fr : Fr) (H : Hp), i ∈ Region.ready .any ops listed →
    (∀ j, D j = true → listed.getD j true = false) →
    (∀ (j : Nat) oj, j ≠ i → listed.getD j true = false → D j = false → ops[j]? = some oj → mayPass P ops o oj = true) → AStep1 P ops o fr H (AAny P ops K n (listed.setIfInBounds i true)) → AAny P ops K (n + 1) listed fr H := by
  intro n
  induction n with
  | zero =>
    intro listed fr H hi hD hfree h
    refine ⟨fun h0 => (by rw [h0] at hi; cases hi), fun j hj => ?_⟩
    by_cases hji : j = i
    · subst hji; unfold AStepI; simp only [ho]; exact h
    · obtain ⟨v, hv, _⟩ := AStep1.quiet hq h
      have := ready_mono hj hji
      rw [hv.1] at this
      cases this
  | succ n ih =>
    intro listed fr H hi hD hfree h
    refine ⟨fun h0 => (by rw [h0] at hi; cases hi), fun j hj => ?_⟩
    by_cases hji : j = i
    · subst hji; unfold AStepI; simp only [ho]; exact h
    · obtain ⟨v, hv, back⟩ := AStep1.quiet hq h
      have h1 := hv.2 j (ready_mono hj hji)
      have hjr := mem_ready.1 hj
      obtain ⟨hjl, oj, hoj, _⟩ := hjr
      unfold AStepI at h1 ⊢
      simp only [hoj] at h1 ⊢
      have h2 : AStep1 P ops o fr H fun fr1 H1 => AStep1 P ops oj fr1 H1 (AAny P ops K n ((listed.setIfInBounds i true).setIfInBounds j true)) := back _ h1
      have hdj : D j = false := not_ready hw (mem_ready.1 hi).1 hD hj
      refine (h2.swap (hfree j oj hji hjl hdj hoj)).mono fun fr1 H1 h3 => ?_
      refine ih (listed.setIfInBounds j true) fr1 H1 (ready_mono hi (Ne.symm hji)) (fun k hk => ?_) (fun k ok hki hkl hkd hok => hfree k ok hki ?_ hkd hok) ?_
      · have hkj : j ≠ k := fun e => by subst e; rw [hdj] at hk; cases hk
        rw [Array.getD_eq_getD_getElem?, Array.getElem?_setIfInBounds_ne hkj, ← Array.getD_eq_getD_getElem?]
        exact hD k hk
      · by_cases hkj : k = j
        · subst hkj
          rw [Array.getD_eq_getD_getElem?, Array.getElem?_setIfInBounds_self] at hkl
          split at hkl <;> simp at hkl
        · rw [Array.getD_eq_getD_getElem?, Array.getElem?_setIfInBounds_ne (by omega)] at hkl
          rw [Array.getD_eq_getD_getElem?]
          exact hkl
      · rw [Array.setIfInBounds_comm _ _ (show j ≠ i from hji)]
        exact h3

/-- In which order: an operation; or one of several. -/
inductive Plan where
  | nil
  | one (i : Nat) (p : Plan)
  | alt (i : Nat) (p q : Plan)

def AOrd (P : Program) (ops : Array Oper) (K : Fr → Hp → Prop) : Plan → Fr → Hp → Prop
  | .nil, fr, H => K fr H
  | .one i p, fr, H => AStepI P ops i fr H (AOrd P ops K p)
  | .alt i p q, fr, H => AStepI P ops i fr H (AOrd P ops K p) ∧ AOrd P ops K q fr H

/-- Which operations wait for `i`: computed from the front. -/
def blocked (ops : Array Oper) (i : Nat) : Array Bool := ops.foldl (fun D o => D.push (o.after.any fun e => Region.binds .any e && (e.on == i || D.getD e.on false))) #[]
def waitsOk (ops : Array Oper) (D : Array Bool) (i : Nat) : Bool :=
  (List.range D.size).all fun j => !D.getD j false || (match ops[j]? with | some o => o.after.any (fun e => Region.binds .any e && (e.on == i || D.getD e.on false)) | none => false)
theorem waitsOk_spec {ops : Array Oper} {D : Array Bool} {i : Nat} (h : waitsOk ops D i = true) : Waits ops (fun j => D.getD j false) i := by
  intro j hj
  unfold waitsOk at h
  have hlt : j < D.size := by
    rcases Nat.lt_or_ge j D.size with h | h
    · exact h
    · simp [Array.getD_eq_getD_getElem?, h] at hj
  have := (List.all_eq_true.1 h) j (List.mem_range.2 hlt)
  simp only [hj, Bool.not_true, Bool.false_or] at this
  split at this
  · rename_i o ho
    refine ⟨o, ho, ?_⟩
    obtain ⟨e, he, h2⟩ := Array.any_eq_true'.1 this
    simp only [Bool.and_eq_true, Bool.or_eq_true, beq_iff_eq] at h2
    exact ⟨e, he, h2.1, h2.2⟩
  · cases this

def freeD (P : Program) (ops : Array Oper) (listed : Array Bool) (i : Nat) (D : Array Bool) : Bool :=
  waitsOk ops D i && ((List.range D.size).all fun j => !D.getD j false || !listed.getD j true) &&
  match ops[i]? with
  | some o => quietOp P o.op && (List.range ops.size).all fun j => j == i || listed.getD j true || D.getD j false || (match ops[j]? with | some oj => mayPass P ops o oj | none => true)
  | none => false
def free (P : Program) (ops : Array Oper) (listed : Array Bool) (i : Nat) : Bool := freeD P ops listed i (blocked ops i)

def Plan.ok (P : Program) (ops : Array Oper) : Plan → Nat → List Nat → Array Bool → Bool
  | .nil, _, cov, listed => (Region.ready .any ops listed).isEmpty
  | .one i p, 0, _, _ => false
  | .one i p, n + 1, cov, listed => (Region.ready .any ops listed).contains i && (((Region.ready .any ops listed).all fun j => j == i || cov.contains j) || (cov.isEmpty && free P ops listed i)) && p.ok P ops n [] (listed.setIfInBounds i true)
  | .alt i p q, 0, _, _ => false
  | .alt i p q, n + 1, cov, listed => (Region.ready .any ops listed).contains i && p.ok P ops n [] (listed.setIfInBounds i true) && q.ok P ops (n + 1) (i :: cov) listed

theorem Plan.sound {P : Program} {ops : Array Oper} {K : Fr → Hp → Prop} : ∀ (p : Plan) (n : Nat) (cov : List Nat) (listed : Array Bool) (fr : Fr) (H : Hp), p.ok P ops n cov listed = true → AOrd P ops K p fr H →
    (cov = [] ∨ ∃ m, n = m + 1 ∧ ∀ j ∈ cov, AStepI P ops j fr H (AAny P ops K m (listed.setIfInBounds j true))) → AAny P ops K n listed fr H
  | .nil, n, cov, listed, fr, H, hok, h, _ => by
    simp only [Plan.ok, List.isEmpty_iff] at hok
    cases n with
    | zero => exact ⟨hok, h⟩
    | succ n => exact ⟨fun _ => h, fun i hi => (by rw [hok] at hi; cases hi)⟩
  | .one i p, 0, cov, listed, fr, H, hok, _, _ => by simp [Plan.ok] at hok
  | .one i p, n + 1, cov, listed, fr, H, hok, h, hcov => by
    simp only [Plan.ok, Bool.and_eq_true, Bool.or_eq_true] at hok
    obtain ⟨⟨hr, hk⟩, hp⟩ := hok
    have hi : i ∈ Region.ready .any ops listed := by simpa using hr
    simp only [AOrd] at h
    have hstep : AStepI P ops i fr H (AAny P ops K n (listed.setIfInBounds i true)) := by
      unfold AStepI at h ⊢
      split at h
      · exact h.mono fun fr1 H1 h1 => Plan.sound p n [] _ fr1 H1 hp h1 (.inl rfl)
      · exact h.elim
    rcases hk with hk | ⟨_, hf⟩
    rotate_left
    · unfold free freeD at hf
      simp only [Bool.and_eq_true] at hf
      obtain ⟨⟨hwt, hdl⟩, hf⟩ := hf
      split at hf
      · rename_i o ho
        simp only [Bool.and_eq_true] at hf
        refine AAny_first (waitsOk_spec hwt) ho hf.1 n listed fr H hi ?_ ?_ ?_
        · intro j hj
          have hlt : j < (blocked ops i).size := by
            rcases Nat.lt_or_ge j (blocked ops i).size with h | h
            · exact h
            · simp [Array.getD_eq_getD_getElem?, h] at hj
          have := (List.all_eq_true.1 hdl) j (List.mem_range.2 hlt)
          simpa only [hj, Bool.not_true, Bool.false_or, Bool.not_eq_true'] using this
        · intro j oj hji hjl hjd hoj
          have hjs : j < ops.size := (Array.getElem?_eq_some_iff.1 hoj).1
          have := (List.all_eq_true.1 hf.2) j (List.mem_range.2 hjs)
          simp only [hoj, hjl, hjd, Bool.or_eq_true, beq_iff_eq, hji, Bool.false_eq_true, or_self, false_or] at this
          exact this
        · unfold AStepI at hstep; simpa only [ho] using hstep
      · cases hf
    · refine ⟨fun h0 => (by rw [h0] at hi; cases hi), fun j hj => ?_⟩
      have := (List.all_eq_true.1 hk) j hj
      simp only [Bool.or_eq_true, beq_iff_eq] at this
      rcases this with rfl | hc
      · exact hstep
      · rcases hcov with rfl | ⟨m, hm, hcov⟩
        · simp at hc
        · cases hm; exact hcov j (by simpa using hc)
  | .alt i p q, 0, cov, listed, fr, H, hok, _, _ => by simp [Plan.ok] at hok
  | .alt i p q, n + 1, cov, listed, fr, H, hok, h, hcov => by
    simp only [Plan.ok, Bool.and_eq_true] at hok
    obtain ⟨⟨hr, hp⟩, hq⟩ := hok
    simp only [AOrd] at h
    have hstep : AStepI P ops i fr H (AAny P ops K n (listed.setIfInBounds i true)) := by
      have h1 := h.1
      unfold AStepI at h1 ⊢
      split at h1
      · exact h1.mono fun fr1 H1 h2 => Plan.sound p n [] _ fr1 H1 hp h2 (.inl rfl)
      · exact h1.elim
    refine Plan.sound q (n + 1) (i :: cov) listed fr H hq h.2 (.inr ⟨n, rfl, fun j hj => ?_⟩)
    rcases List.mem_cons.1 hj with rfl | hj
    · exact hstep
    · rcases hcov with rfl | ⟨m, hm, hcov⟩
      · cases hj
      · cases hm; exact hcov j hj

section
variable {P : Program} {fr : Fr} {H : Hp} {Q : Exit → Fr → Hp → Prop}

theorem AAny_sound {w0 : World} {B : Nat} {β0 : Nat → Bx} {n0 : Nat} (ops : Array Oper) {K : Fr → Hp → Prop} (hfit : opsFit n0 ops.toList = true) :
    ∀ (n : Nat) (listed : Array Bool) (fr : Fr) (H : Hp) (β : Nat → Bx) (w : World) (a : Act), AAny P ops K n listed fr H → a.defers = [] → a.tmps.size = n0 → Rel w0 B β H w → FR β H.length fr a.tmps → ∀ m, m ≤ H.length → Agree m β0 β →
      wpAny P .any ops (APost w0 B β0 m n0 fun e fr' H' => e = .normal ∧ K fr' H') n listed a w
  | 0, listed, fr, H, β, w, a, h, hd, hs, R, F, m, hm, ag => ⟨h.1, hd, hs, β, fr, H, ⟨rfl, h.2⟩, ag, hm, F, R⟩
  | n + 1, listed, fr, H, β, w, a, h, hd, hs, R, F, m, hm, ag => by
    refine ⟨fun h0 => ⟨hd, hs, β, fr, H, ⟨rfl, h.1 h0⟩, ag, hm, F, R⟩, fun i hi => ?_⟩
    have h1 := h.2 i hi
    unfold AStepI at h1
    split at h1
    case h_2 => exact h1.elim
    rename_i o ho
    have hdst : ∀ t, o.dst = some t → t < a.tmps.size := fun t ht => by rw [hs]; exact opsFit_all hfit i o t ho ht
    unfold wpOp
    simp only [ho]
    unfold AStep1 AGuard AStep0 ACallX at h1
    split at h1
    · rename_i t ht
      have hw := wantedA_eq F ht (fun j o' d h1 h2 => by rw [hs]; exact opsFit_all hfit j o' d h1 h2)
      rw [hw]
      have go : ∀ (v : AV) (x : Value) (H' : Hp) (w' : World) (β' : Nat → Bx), AAny P ops K n (listed.setIfInBounds i true) (fr.put o.dst v) H' → Agree H.length β β' → H.length ≤ H'.length → VR β' v x → v.lt H'.length → Rel w0 B β' H' w' →
          wpAny P .any ops (APost w0 B β0 m n0 fun e fr' H' => e = .normal ∧ K fr' H') n (listed.setIfInBounds i true) (a.put o.dst x) w' := by
        intro v x H' w' β' h1 h2 h3 h4 h5 h6
        exact AAny_sound ops hfit n _ _ _ β' w' _ h1 (by rw [Act.put_defers']; exact hd) (by rw [Act.put_size]; exact hs) h6 (FR_put (FR_congr F h2 h3) hdst h4 h5) m (by omega) (ag.trans h2 hm)
      cases t
      · simp only [Bool.false_eq_true, if_false] at h1 ⊢
        exact go (.tup []) Go.undef H w β h1 (Agree.refl _ _) (Nat.le_refl _) (by simp only [VR]; exact ⟨#[], rfl, rfl⟩) trivial R
      · simp only [if_true] at h1 ⊢
        refine .inl ?_
        unfold Oper.wp
        split at h1
        · rename_i f args hc
          obtain ⟨vs, hrun, hv, hl⟩ := run_acall F hc
          rw [hrun]
          rcases h1 with h1 | h1
          · obtain ⟨fn, hf, hb, hn⟩ := h1.1
            rw [callFunc_enter hf hb hn]
            simp only [Oper.upon]
            refine (h1.2 w0 B β w vs R hv hl).mono ?_
            rintro e w' ⟨β', r, v, H', rfl, g1, g2, g3, g4, g5, g6⟩
            exact go r v H' w' β' g1 g2 g3 g4 g5 g6
          · obtain ⟨v, w', β', r, H', g0, g1, g2, g3, g4, g5, g6⟩ := h1 w0 B β w vs R hv hl
            rw [g0]
            simp only [Oper.upon]
            exact go r v H' w' β' g1 g2 g3 g4 g5 g6
        · split at h1
          · rename_i v H' hst
            obtain ⟨nx, x, w', hrun, hx, β', g2, g3, g4, g5, g6⟩ := run_astep R F hst
            rw [hrun]
            rcases hx with rfl | ⟨rfl, rfl⟩
            · exact go v x H' w' β' h1 g2 g3 g4 g5 g6
            · exact go v _ H' w' β' h1 g2 g3 g4 g5 g6
          · exact h1.elim
    · exact h1.elim

theorem Rel.drew {w0 : World} {B : Nat} {β : Nat → Bx} {H : Hp} {w : World} (R : Rel w0 B β H w) : Rel w0 B β H { w with drawn := w.drawn + 1 } := R.kept (Below.refl _ _).drew

theorem wpAny_post {w0 : World} {B : Nat} {β : Nat → Bx} {n m : Nat} {ops : Array Oper} : ∀ (k : Nat) (listed : Array Bool) {a : Act} {w : World}, wpAny P .any ops (APost w0 B β n m fun e fr' H' => e = .normal ∧ Q .normal fr' H') k listed a w → wpAny P .any ops (APost w0 B β n m Q) k listed a w := by
  have hQ : ∀ e a w, APost w0 B β n m (fun e fr' H' => e = .normal ∧ Q .normal fr' H') e a w → APost w0 B β n m Q e a w := by
    rintro e a w ⟨h1, h2, β', fr', H', ⟨rfl, h3⟩, h4⟩
    exact ⟨h1, h2, β', fr', H', h3, h4⟩
  intro k
  induction k with
  | zero => intro listed a w h; exact ⟨h.1, hQ _ _ _ h.2⟩
  | succ k ih =>
    intro listed a w h
    refine ⟨fun h0 => hQ _ _ _ (h.1 h0), fun i hi => ?_⟩
    have h1 := h.2 i hi
    unfold wpOp at h1 ⊢
    split at h1
    · exact ih _ h1
    · split at h1
      · rename_i hw
        rw [if_pos hw]
        rcases h1 with h1 | ⟨h1, a', w', h2⟩
        · refine .inl ?_
          unfold Oper.wp at h1 ⊢
          generalize (execOp a.eval _).run P w = r at h1
          cases r with
          | ok nx w' =>
            cases nx <;> simp only [Oper.upon] at h1 ⊢ <;>
              first
                | exact ih _ h1
                | exact Calls.mono h1 (fun e w'' he => by
                    cases e <;> first
                      | exact ih _ he
                      | exact hQ _ _ _ he
                      | (obtain ⟨a', w', h2⟩ := he; exact ⟨a', w', hQ _ _ _ h2⟩))
                | exact Rows.mono h1 (fun _ _ he => ih _ he)
          | halt x w' => cases x <;> simp only [Oper.upon] at h1 ⊢ <;> exact hQ _ _ _ h1
        · exact .inr ⟨h1, a', w', hQ _ _ _ h2⟩
      · rename_i hw
        rw [if_neg hw]
        exact ih _ h1

theorem AWp_region_draw {id : Nat} {ops : Array Oper} (p : Plan) (hmix : P.follows .mixedOrders = true) (hok : p.ok P ops ops.size [] (Array.replicate ops.size false) = true) (h : AOrd P ops (Q .normal) p fr H) : AWp P (.region id ops true) fr H Q := by
  intro w0 B β w a hd hf R F
  simp only [fitsA] at hf
  refine wp_region_any hmix ?_
  refine wpAny_post _ _ ?_
  exact AAny_sound ops hf _ _ fr H β _ a (Plan.sound p _ [] _ fr H hok h (.inl rfl)) hd rfl R.drew F H.length (Nat.le_refl _) (Agree.refl _ _)
end

end Go.AL

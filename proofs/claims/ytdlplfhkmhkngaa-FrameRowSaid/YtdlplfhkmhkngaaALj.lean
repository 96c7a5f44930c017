/- Regions, code, calls: a logic over the abstract memory. -/
import Derived.Test.YtdlplfhkmhkngaaALi
set_option linter.unusedVariables false
set_option linter.unusedSimpArgs false
namespace Go.AL
open Go.RowKit

/-- What a call does: whatever world holds the heap, it returns, and a world holds what R says. -/
def ACalls (P : Program) (f : FuncId) (args : List AV) (H : Hp) (R : AV → Hp → Prop) : Prop :=
  (∃ fn, P.funcs[f]? = some fn ∧ fn.body.isSome = true ∧ (fn.name == "runtime.NumGoroutine") = false) ∧
  ∀ (w0 : World) (B : Nat) (β : Nat → Bx) (w : World) (vs : Array Value), Rel w0 B β H w → VRs β args vs.toList → AV.lts H.length args →
    Calls P f vs w fun e w' => ∃ β' r v H', e = .returned v ∧ R r H' ∧ Agree H.length β β' ∧ H.length ≤ H'.length ∧ VR β' r v ∧ r.lt H'.length ∧ Rel w0 B β' H' w'

theorem ACalls.mono {P : Program} {f : FuncId} {args : List AV} {H : Hp} {R R' : AV → Hp → Prop} (h : ACalls P f args H R) (hr : ∀ r H', R r H' → R' r H') : ACalls P f args H R' :=
  ⟨h.1, fun w0 B β w vs hR hv hl => (h.2 w0 B β w vs hR hv hl).mono fun e w' ⟨β', r, v, H', h1, h2, h3⟩ => ⟨β', r, v, H', h1, hr _ _ h2, h3⟩⟩

/-- Which function an operation calls, and on what. -/
def acall (P : Program) (fr : Fr) : Op → Option (FuncId × List AV)
  | .call c => match c.callee with
    | .value f => match ev fr f with
      | .fn g => some (g, c.args.toList.map (ev fr))
      | _ => none
    | .invoke recv name => match ev fr recv with
      | .ifc t v => match P.info? t with
        | some i => match i.methods.find? (·.name == name) with
          | some m => match m.path.toList, m.func, P.underlying t with
            | [], some (g, true), some (.pointer _) => some (g, v :: c.args.toList.map (ev fr))
            | [], some (g, false), some d => match d with
              | .pointer _ => none
              | _ => some (g, v :: c.args.toList.map (ev fr))
            | _, _, _ => none
          | none => none
        | none => none
      | _ => none
    | _ => none
  | _ => none

/-- A function without a body: what the machine does in its place. -/
def AExt (P : Program) (f : FuncId) (args : List AV) (H : Hp) (R : AV → Hp → Prop) : Prop :=
  ∀ (w0 : World) (B : Nat) (β : Nat → Bx) (w : World) (vs : Array Value), Rel w0 B β H w → VRs β args vs.toList → AV.lts H.length args →
    ∃ v w' β' r H', (callFunc f vs).run P w = .ok (.value v) w' ∧ R r H' ∧ Agree H.length β β' ∧ H.length ≤ H'.length ∧ VR β' r v ∧ r.lt H'.length ∧ Rel w0 B β' H' w'
def ACallO (P : Program) (f : FuncId) (args : List AV) (H : Hp) (R : AV → Hp → Prop) : Prop := ACalls P f args H R ∨ AExt P f args H R
theorem ACallO.mono {P : Program} {f : FuncId} {args : List AV} {H : Hp} {R R' : AV → Hp → Prop} (h : ACallO P f args H R) (hr : ∀ r H', R r H' → R' r H') : ACallO P f args H R' := by
  rcases h with h | h
  · exact .inl (h.mono hr)
  · refine .inr fun w0 B β w vs hR hv hl => ?_
    obtain ⟨v, w', β', r, H', h1, h2, h3⟩ := h w0 B β w vs hR hv hl
    exact ⟨v, w', β', r, H', h1, hr _ _ h2, h3⟩
theorem callFunc_enter {P : Program} {f : FuncId} {fn : Func} (hf : P.funcs[f]? = some fn) (hb : fn.body.isSome = true) (hn : (fn.name == "runtime.NumGoroutine") = false) (vs : Array Value) (w : World) : (callFunc f vs).run P w = .ok (.enter f vs) w := by
  have hn' : ¬ fn.name = "runtime.NumGoroutine" := by simpa using hn
  have hbs : ¬ fn.body = none := by intro h; simp [h] at hb
  simp [callFunc, hf, hn', hbs]

theorem run_acall {P : Program} {β : Nat → Bx} {n : Nat} {fr : Fr} {a : Act} (F : FR β n fr a.tmps) {o : Oper} {f : FuncId} {args : List AV} (e : acall P fr o.op = some (f, args)) :
    ∃ vs : Array Value, (∀ w, (execOp a.eval o).run P w = (callFunc f vs).run P w) ∧ VRs β args vs.toList ∧ AV.lts n args := by
  obtain ⟨dst, op, ty, pos, after, guard⟩ := o
  have hdep : 0 < Made.depth := by decide
  simp only at e
  unfold acall at e
  split at e
  case h_2 => cases e
  rename_i c
  obtain ⟨callee, cargs, tys⟩ := c
  simp only at e
  have hargs := evs_VR F cargs.toList
  split at e
  · rename_i g
    split at e
    · rename_i q hq
      cases e
      have h := (ev_VR F g).1
      rw [hq] at h
      simp only [VR] at h
      refine ⟨#[] ++ cargs.map a.eval ++ #[], ?_, by simpa using hargs.1, hargs.2⟩
      intro w
      simp [execOp, resolve, h, Deferred.ofValue, invoke]
    · cases e
  · rename_i recv name
    split at e
    · rename_i t y hq
      have h := ev_VR F recv
      rw [hq] at h
      obtain ⟨h1, h2⟩ := h
      simp only [VR] at h1
      obtain ⟨yv, hr, hy⟩ := h1
      split at e
      · rename_i i hi
        split at e
        · rename_i m hm
          have hfuel : ∃ k, P.types.size + Made.depth = k + 1 := ⟨P.types.size + Made.depth - 1, by omega⟩
          obtain ⟨k, hk⟩ := hfuel
          have e0 : (#[Value.iface t yv] ++ cargs.map a.eval)[0]? = some (.iface t yv) := by simp [Array.getElem?_append]
          have e1 : (#[Value.iface t yv] ++ cargs.map a.eval).extract 1 (1 + cargs.size) = cargs.map a.eval := by
            apply Array.ext'
            simp
            exact List.take_of_length_le (by simp)
          have hm' : Array.find? (fun x => x.name == name) i.methods = some m := hm
          split at e
          · rename_i g el hp hfn hu
            cases e
            refine ⟨#[yv] ++ cargs.map a.eval, ?_, ?_, ?_⟩
            · intro w
              have hmeth : (method (k + 1) t yv name).run P w = .ok (f, yv) w := by
                simp [method, typeInfo, hi, hm', hp, follow, hfn, receiverAt, run_underlying hu, Place.get]
              simp [execOp, resolve, hr, invoke, callMethod, hk, hmeth, e0, e1]
            · simp only [VRs]
              exact ⟨yv, _, by simp, hy, hargs.1⟩
            · simp only [AV.lts]; exact ⟨by simpa only [AV.lt] using h2, hargs.2⟩
          · rename_i g d hp hfn hu
            split at e
            · cases e
            · rename_i hnp
              cases e
              refine ⟨#[yv] ++ cargs.map a.eval, ?_, ?_, ?_⟩
              · intro w
                have hmeth : (method (k + 1) t yv name).run P w = .ok (f, yv) w := by
                  simp only [method, Sem.run_bind, typeInfo, run_program, Result.andThen_ok, hi, Sem.run_pure, hm', hp, follow, hfn, receiverAt, run_underlying hu, Place.get]
                  all_goals (cases d <;> first | exact absurd rfl (hnp _) | simp [Place.get])
                simp [execOp, resolve, hr, invoke, callMethod, hk, hmeth, e0, e1]
              · simp only [VRs]
                exact ⟨yv, _, by simp, hy, hargs.1⟩
              · simp only [AV.lts]; exact ⟨by simpa only [AV.lt] using h2, hargs.2⟩
          · cases e
        · cases e
      · cases e
    · cases e
  · cases e

/-! ### A region in the text's order -/
def wantedA (ops : Array Oper) (fr : Fr) (o : Oper) : Option Bool :=
  match o.guard with
  | none => some true
  | some (j, want) =>
    match (ops[j]?).bind (·.dst) with
    | some d => match fr d with
      | .bool b => some (b == want)
      | .tup [] => some false
      | _ => none
    | none => none

theorem wantedA_eq {β : Nat → Bx} {n : Nat} {ops : Array Oper} {fr : Fr} {a : Act} (F : FR β n fr a.tmps) {o : Oper} {b : Bool} (h : wantedA ops fr o = some b) (hfit : ∀ (j : Nat) o' d, ops[j]? = some o' → o'.dst = some d → d < a.tmps.size) :
    Region.wanted o (yielded ops a.tmps) = b := by
  unfold wantedA at h
  split at h
  · rename_i hg; cases h; simp [Region.wanted, hg]
  · rename_i j want hg
    split at h
    · rename_i d hd
      obtain ⟨o', ho', hd'⟩ := Option.bind_eq_some_iff.1 hd
      have hlt := hfit j o' d ho' hd'
      have ht : a.tmps[d]? = some (a.tmps.getD d Go.undef) := by simp [Array.getD, hlt]
      have hv := (F d).1
      split at h
      · rename_i b' hb
        rw [hb] at hv
        simp only [VR] at hv
        cases h
        simp only [Region.wanted, hg, yielded, hd, Option.bind_some, ht, hv]
        cases b' <;> cases want <;> rfl
      · rename_i hb
        rw [hb] at hv
        simp only [VR] at hv
        obtain ⟨l, hl, _⟩ := hv
        cases h
        simp only [Region.wanted, hg, yielded, hd, Option.bind_some, ht, hl]
        rfl
      · cases h
    · cases h

/-- A call: what stands behind it is X. -/
def ACallX (P : Program) (d : Option Tmp) (fr : Fr) (X : Fr → Hp → Prop) (f : FuncId) (args : List AV) (H : Hp) : Prop := ACallO P f args H fun r H' => X (fr.put d r) H'
def AStep0 (P : Program) (o : Oper) (fr : Fr) (H : Hp) (X : Fr → Hp → Prop) : Prop :=
  match acall P fr o.op with
  | some (f, args) => ACallX P o.dst fr X f args H
  | none =>
    match astep P fr H o.op with
    | some (v, H') => X (fr.put o.dst v) H'
    | none => False
def AGuard (P : Program) (o : Oper) (fr : Fr) (H : Hp) (X : Fr → Hp → Prop) (t : Bool) : Prop :=
  if t = true then AStep0 P o fr H X else X (fr.put o.dst (.tup [])) H
/-- One operation, in the text's order or another. -/
def AStep1 (P : Program) (ops : Array Oper) (o : Oper) (fr : Fr) (H : Hp) (X : Fr → Hp → Prop) : Prop :=
  match wantedA ops fr o with
  | some t => AGuard P o fr H X t
  | none => False

def AOps (P : Program) (ops : Array Oper) (K : Fr → Hp → Prop) : List Oper → Fr → Hp → Prop
  | [], fr, H => K fr H
  | o :: rest, fr, H => AStep1 P ops o fr H (AOps P ops K rest)

theorem ACallX_intro {P : Program} {d : Option Tmp} {fr : Fr} {X : Fr → Hp → Prop} {f : FuncId} {args : List AV} {H : Hp} {R : AV → Hp → Prop} (hc : ACallO P f args H R) (h : ∀ r H', R r H' → X (fr.put d r) H') : ACallX P d fr X f args H := hc.mono h
theorem AGuard_true {P : Program} {o : Oper} {fr : Fr} {H : Hp} {X : Fr → Hp → Prop} : AGuard P o fr H X true = AStep0 P o fr H X := rfl
theorem AGuard_false {P : Program} {o : Oper} {fr : Fr} {H : Hp} {X : Fr → Hp → Prop} : AGuard P o fr H X false = X (fr.put o.dst (.tup [])) H := rfl
theorem AGuard_split {P : Program} {o : Oper} {fr : Fr} {H : Hp} {X : Fr → Hp → Prop} {t : Bool} (h1 : t = true → AStep0 P o fr H X) (h2 : t = false → X (fr.put o.dst (.tup [])) H) : AGuard P o fr H X t := by
  cases t
  · exact h2 rfl
  · exact h1 rfl

/-- What stands behind code: the frame, the heap and the world go on. -/
def APost (w0 : World) (B : Nat) (β : Nat → Bx) (n m : Nat) (Q : Exit → Fr → Hp → Prop) : Exit → Act → World → Prop := fun e a' w' =>
  a'.defers = [] ∧ a'.tmps.size = m ∧ ∃ β' fr' H', Q e fr' H' ∧ Agree n β β' ∧ n ≤ H'.length ∧ FR β' H'.length fr' a'.tmps ∧ Rel w0 B β' H' w'

def opsFit (n : Nat) (l : List Oper) : Bool := l.all fun o => match o.dst with | some d => decide (d < n) | none => true

def fitsA (n : Nat) : Code → Bool
  | .region _ ops _ => opsFit n ops.toList
  | .seq a b => fitsA n a && fitsA n b
  | .cond _ a b => fitsA n a && fitsA n b
  | .block _ a => fitsA n a
  | .loop a => fitsA n a
  | .skip | .exit _ | .ret => true
  | _ => false

def AWp (P : Program) (c : Code) (fr : Fr) (H : Hp) (Q : Exit → Fr → Hp → Prop) : Prop :=
  ∀ (w0 : World) (B : Nat) (β : Nat → Bx) (w : World) (a : Act), a.defers = [] → fitsA a.tmps.size c = true → Rel w0 B β H w → FR β H.length fr a.tmps → c.wp P (APost w0 B β H.length a.tmps.size Q) a w

theorem APost.shift {w0 : World} {B : Nat} {β β' : Nat → Bx} {n n' m : Nat} {Q : Exit → Fr → Hp → Prop} (ag : Agree n β β') (hn : n ≤ n') {e : Exit} {a : Act} {w : World} (h : APost w0 B β' n' m Q e a w) : APost w0 B β n m Q e a w := by
  obtain ⟨h1, h2, β'', fr', H', h3, h4, h5, h6, h7⟩ := h
  exact ⟨h1, h2, β'', fr', H', h3, ag.trans h4 hn, by omega, h6, h7⟩

theorem AWp.mono {P : Program} {c : Code} {fr : Fr} {H : Hp} {Q Q' : Exit → Fr → Hp → Prop} (h : AWp P c fr H Q) (hq : ∀ e fr' H', Q e fr' H' → Q' e fr' H') : AWp P c fr H Q' :=
  fun w0 B β w a hd hf hR hF => wp_mono (h w0 B β w a hd hf hR hF) fun e a' w' ⟨h1, h2, β', fr', H', h3, h4⟩ => ⟨h1, h2, β', fr', H', hq _ _ _ h3, h4⟩

section
variable {P : Program} {fr : Fr} {H : Hp} {Q : Exit → Fr → Hp → Prop}

theorem Act.put_size (a : Act) (d : Option Tmp) (v : Value) : (a.put d v).tmps.size = a.tmps.size := by
  cases d <;> simp [Act.put]
theorem Act.put_defers' (a : Act) (d : Option Tmp) (v : Value) : (a.put d v).defers = a.defers := by
  cases d <;> rfl

theorem AOps_sound {w0 : World} {B : Nat} {β0 : Nat → Bx} {n0 : Nat} (ops : Array Oper) {K : Fr → Hp → Prop} (hall : ∀ (j : Nat) o' d, ops[j]? = some o' → o'.dst = some d → d < n0) :
    ∀ (l : List Oper) (fr : Fr) (H : Hp) (β : Nat → Bx) (w : World) (a : Act), AOps P ops K l fr H → opsFit n0 l = true → a.defers = [] → a.tmps.size = n0 → Rel w0 B β H w → FR β H.length fr a.tmps → ∀ m, m ≤ H.length → Agree m β0 β →
      wpList P ops (APost w0 B β0 m n0 fun e fr' H' => e = .normal ∧ K fr' H') l a w
  | [], fr, H, β, w, a, h, _, hd, hs, R, F, m, hm, ag => by
    simp only [AOps] at h
    exact wpList_nil ⟨hd, hs, β, fr, H, ⟨rfl, h⟩, ag, hm, F, R⟩
  | o :: rest, fr, H, β, w, a, h, hfit, hd, hs, R, F, m, hm, ag => by
    simp only [opsFit, List.all_cons, Bool.and_eq_true] at hfit
    have hdst : ∀ t, o.dst = some t → t < a.tmps.size := by
      intro t ht
      have := hfit.1
      rw [ht] at this
      simpa [hs] using this
    simp only [AOps, AStep1, AGuard, AStep0, ACallX] at h
    refine wpList_step fun KK hK => ?_
    split at h
    · rename_i t ht
      have hw := wantedA_eq F ht (fun j o' d h1 h2 => by rw [hs]; exact hall j o' d h1 h2)
      rw [hw]
      have go : ∀ (v : AV) (x : Value) (H' : Hp) (w' : World) (β' : Nat → Bx), AOps P ops K rest (fr.put o.dst v) H' → Agree H.length β β' → H.length ≤ H'.length → VR β' v x → v.lt H'.length → Rel w0 B β' H' w' → KK (a.put o.dst x) w' := by
        intro v x H' w' β' h1 h2 h3 h4 h5 h6
        exact hK _ _ (AOps_sound ops hall rest _ _ β' w' _ h1 hfit.2 (by rw [Act.put_defers']; exact hd) (by rw [Act.put_size]; exact hs) h6 (FR_put (FR_congr F h2 h3) hdst h4 h5) m (by omega) (ag.trans h2 hm))
      cases t
      · simp only [Bool.false_eq_true, if_false] at h ⊢
        exact go (.tup []) Go.undef H w β h (Agree.refl _ _) (Nat.le_refl _) (by simp only [VR]; exact ⟨#[], rfl, rfl⟩) trivial R
      · simp only [if_true] at h ⊢
        unfold Oper.wp
        split at h
        · rename_i f args hc
          obtain ⟨vs, hrun, hv, hl⟩ := run_acall F hc
          rw [hrun]
          rcases h with h | h
          · obtain ⟨fn, hf, hb, hn⟩ := h.1
            rw [callFunc_enter hf hb hn]
            simp only [Oper.upon]
            refine (h.2 w0 B β w vs R hv hl).mono ?_
            rintro e w' ⟨β', r, v, H', rfl, h1, h2, h3, h4, h5, h6⟩
            exact go r v H' w' β' h1 h2 h3 h4 h5 h6
          · obtain ⟨v, w', β', r, H', h0, h1, h2, h3, h4, h5, h6⟩ := h w0 B β w vs R hv hl
            rw [h0]
            simp only [Oper.upon]
            exact go r v H' w' β' h1 h2 h3 h4 h5 h6
        · split at h
          · rename_i v H' hst
            obtain ⟨nx, x, w', hrun, hx, β', h2, h3, h4, h5, h6⟩ := run_astep R F hst
            rw [hrun]
            rcases hx with rfl | ⟨rfl, rfl⟩
            · exact go v x H' w' β' h h2 h3 h4 h5 h6
            · exact go v _ H' w' β' h h2 h3 h4 h5 h6
          · exact h.elim
    · exact h.elim

theorem opsFit_all {n : Nat} {ops : Array Oper} (h : opsFit n ops.toList = true) : ∀ (j : Nat) o' d, ops[j]? = some o' → o'.dst = some d → d < n := by
  intro j o' d h1 h2
  have := (List.all_eq_true.1 h) o' (List.mem_of_getElem? (by simpa using h1))
  rw [h2] at this
  simpa using this

/-! ### The rules -/
theorem AWp_region {id : Nat} {ops : Array Oper} (h : AOps P ops (Q .normal) ops.toList fr H) : AWp P (.region id ops false) fr H Q := by
  intro w0 B β w a hd hf R F
  simp only [fitsA] at hf
  refine wp_region_list ?_
  have := AOps_sound (w0 := w0) (B := B) (β0 := β) (n0 := a.tmps.size) ops (opsFit_all hf) ops.toList fr H β w a h hf hd rfl R F H.length (Nat.le_refl _) (Agree.refl _ _)
  refine wpList_post ops.toList this
where
  wpList_post {w0 : World} {B : Nat} {β : Nat → Bx} {n m : Nat} {ops : Array Oper} : ∀ (l : List Oper) {a : Act} {w : World}, wpList P ops (APost w0 B β n m fun e fr' H' => e = .normal ∧ Q .normal fr' H') l a w → wpList P ops (APost w0 B β n m Q) l a w := by
    intro l a w h
    have hQ : ∀ e a w, APost w0 B β n m (fun e fr' H' => e = .normal ∧ Q .normal fr' H') e a w → APost w0 B β n m Q e a w := by
      rintro e a w ⟨h1, h2, β', fr', H', ⟨rfl, h3⟩, h4⟩
      exact ⟨h1, h2, β', fr', H', h3, h4⟩
    induction l generalizing a w with
    | nil => exact hQ _ _ _ h
    | cons o l ih =>
      unfold wpList at h ⊢
      split at h
      · rename_i hw
        rw [if_pos hw]
        rcases h with h | ⟨h1, a', w', h2⟩
        · refine .inl ?_
          unfold Oper.wp at h ⊢
          generalize (execOp a.eval o).run P _ = r at h
          cases r with
          | ok nx w' =>
            cases nx <;> simp only [Oper.upon] at h ⊢ <;>
              first
                | exact ih h
                | exact Calls.mono h (fun e w'' he => by
                    cases e <;> first
                      | exact ih he
                      | exact hQ _ _ _ he
                      | (obtain ⟨a', w', h2⟩ := he; exact ⟨a', w', hQ _ _ _ h2⟩))
                | exact Rows.mono h (fun _ _ he => ih he)
          | halt x w' => cases x <;> simp only [Oper.upon] at h ⊢ <;> exact hQ _ _ _ h
        · exact .inr ⟨h1, a', w', hQ _ _ _ h2⟩
      · rename_i hw
        rw [if_neg hw]
        exact ih h

theorem AWp_skip (h : Q .normal fr H) : AWp P .skip fr H Q := fun w0 B β w a hd hf R F => wp_skip ⟨hd, rfl, β, fr, H, h, Agree.refl _ _, Nat.le_refl _, F, R⟩
theorem AWp_exit {id : Nat} (h : Q (.exit id) fr H) : AWp P (.exit id) fr H Q := fun w0 B β w a hd hf R F => wp_exit ⟨hd, rfl, β, fr, H, h, Agree.refl _ _, Nat.le_refl _, F, R⟩
theorem AWp_ret (h : Q .ret fr H) : AWp P .ret fr H Q := fun w0 B β w a hd hf R F => wp_ret ⟨hd, rfl, β, fr, H, h, Agree.refl _ _, Nat.le_refl _, F, R⟩

def thenA (K : Fr → Hp → Prop) (Q : Exit → Fr → Hp → Prop) : Exit → Fr → Hp → Prop
  | .normal, fr, H => K fr H
  | e, fr, H => Q e fr H

theorem AWp_seq {x y : Code} (h : AWp P x fr H (thenA (fun fr' H' => AWp P y fr' H' Q) Q)) : AWp P (.seq x y) fr H Q := by
  intro w0 B β w a hd hf R F
  simp only [fitsA, Bool.and_eq_true] at hf
  refine wp_seq (wp_mono (h w0 B β w a hd hf.1 R F) ?_)
  rintro e a' w' ⟨h1, h2, β', fr', H', h3, h4, h5, h6, h7⟩
  cases e with
  | normal =>
    simp only [thenA] at h3
    exact wp_mono (h3 w0 B β' w' a' h1 (by rw [h2]; exact hf.2) h7 h6) fun e a'' w'' hp => by
      rw [h2] at hp
      exact hp.shift h4 h5
  | _ => exact ⟨h1, h2, β', fr', H', h3, h4, h5, h6, h7⟩

theorem AWp_seq_k {x y : Code} (h : ∀ K : Fr → Hp → Prop, (∀ fr' H', AWp P y fr' H' Q → K fr' H') → AWp P x fr H (thenA K Q)) : AWp P (.seq x y) fr H Q :=
  AWp_seq (h _ fun _ _ h => h)

theorem AWp_cond {c : Operand} {x y : Code} {t : Bool} (hc : ev fr c = .bool t) (h1 : t = true → AWp P x fr H Q) (h2 : t = false → AWp P y fr H Q) : AWp P (.cond c x y) fr H Q := by
  intro w0 B β w a hd hf R F
  simp only [fitsA, Bool.and_eq_true] at hf
  have h := (ev_VR F c).1
  rw [hc] at h
  simp only [VR] at h
  exact wp_cond_split h (fun ht => h1 ht w0 B β w a hd hf.1 R F) (fun ht => h2 ht w0 B β w a hd hf.2 R F)

def inBlockA (id : Nat) (Q : Exit → Fr → Hp → Prop) : Exit → Fr → Hp → Prop
  | .exit id', fr, H => if id' = id then Q .normal fr H else Q (.exit id') fr H
  | e, fr, H => Q e fr H

theorem AWp_block {id : Nat} {c : Code} (h : AWp P c fr H (inBlockA id Q)) : AWp P (.block id c) fr H Q := by
  intro w0 B β w a hd hf R F
  simp only [fitsA] at hf
  refine wp_block (wp_mono (h w0 B β w a hd hf R F) ?_)
  rintro e a' w' ⟨h1, h2, β', fr', H', h3, h4⟩
  cases e with
  | exit id' =>
    simp only [inBlockA] at h3
    simp only [Exit.inBlock]
    split at h3
    · rename_i hi; rw [if_pos hi]; exact ⟨h1, h2, β', fr', H', h3, h4⟩
    · rename_i hi; rw [if_neg hi]; exact ⟨h1, h2, β', fr', H', h3, h4⟩
  | _ => exact ⟨h1, h2, β', fr', H', h3, h4⟩

/-- A loop: what holds of the frame and the heap at each round's head, with a number that goes down. -/
theorem AWp_loop {c : Code} (I : Nat → Fr → Hp → Prop) {m : Nat} (h0 : I m fr H)
    (round : ∀ m fr H, I m fr H → AWp P c fr H (thenA (fun fr' H' => ∃ m', m' < m ∧ I m' fr' H') Q)) : AWp P (.loop c) fr H Q := by
  intro w0 B β w a hd hf R F
  simp only [fitsA] at hf
  refine wp_loop_ex (P := P) (c := c) (Q := APost w0 B β H.length a.tmps.size Q)
    (fun k a' w' => a'.defers = [] ∧ a'.tmps.size = a.tmps.size ∧ ∃ β' fr' H', I k fr' H' ∧ Agree H.length β β' ∧ H.length ≤ H'.length ∧ FR β' H'.length fr' a'.tmps ∧ Rel w0 B β' H' w') m a w
    ⟨hd, rfl, β, fr, H, h0, Agree.refl _ _, Nat.le_refl _, F, R⟩ ?_
  rintro k a' w' ⟨h1, h2, β', fr', H', h3, h4, h5, h6, h7⟩
  refine wp_mono (round k fr' H' h3 w0 B β' w' a' h1 (by rw [h2]; exact hf) h7 h6) ?_
  rintro e a'' w'' ⟨g1, g2, β'', fr'', H'', g3, g4, g5, g6, g7⟩
  cases e with
  | normal =>
    simp only [thenA] at g3
    obtain ⟨k', hk, hI⟩ := g3
    exact ⟨k', hk, g1, by rw [g2, h2], β'', fr'', H'', hI, h4.trans g4 h5, by omega, g6, g7⟩
  | _ => exact ⟨g1, by rw [g2, h2], β'', fr'', H'', g3, h4.trans g4 h5, by omega, g6, g7⟩
where
  wp_loop_ex {P : Program} {c : Code} {Q : Exit → Act → World → Prop} (J : Nat → Act → World → Prop) (n : Nat) (a : Act) (w : World) (hJ : J n a w)
      (round : ∀ k a w, J k a w → c.wp P (Exit.then (fun a' w' => ∃ k', k' < k ∧ J k' a' w') Q) a w) : (Code.loop c).wp P Q a w := by
    intro b k cs
    have key : ∀ n a w, J n a w → ∃ e a' w', Q e a' w' ∧ Arrives P (lone (b.at a (.code c :: .inLoop c :: k)) cs w) b k cs e a' w' := by
      intro n
      induction n using Nat.strongRecOn with
      | _ n ih =>
        intro a w hI
        obtain ⟨e, a₁, w₁, hq, harr⟩ := round n a w hI b (.inLoop c :: k) cs
        cases e with
        | normal =>
          obtain ⟨n', hlt, hI₁⟩ := hq
          obtain ⟨e₂, a₂, w₂, hq₂, harr₂⟩ := ih n' hlt a₁ w₁ hI₁
          exact ⟨e₂, a₂, w₂, hq₂, .of_steps (Steps.trans harr (.one step_inLoop)) harr₂⟩
        | exit id => exact ⟨_, a₁, w₁, hq, .pass (x := .inLoop c) rfl (fun _ _ => .inl (by simp)) harr⟩
        | goto l => exact ⟨_, a₁, w₁, hq, .pass (x := .inLoop c) rfl (fun _ _ => .inl (by simp)) harr⟩
        | ret => exact ⟨_, a₁, w₁, hq, .pass (x := .inLoop c) rfl (fun _ _ => .inl (by simp)) harr⟩
        | panic ch => exact ⟨_, a₁, w₁, hq, .pass (x := .inLoop c) rfl (fun _ _ => .inl (by simp)) harr⟩
        | outgrown => exact ⟨_, a₁, w₁, hq, .pass (x := .inLoop c) rfl (fun _ _ => .inl (by simp)) harr⟩
    obtain ⟨e, a', w', hq, harr⟩ := key n a w hJ
    exact ⟨e, a', w', hq, .of_steps (.one step_loop) harr⟩
end

end Go.AL

/- Functions: a call by its body; what is forgotten at a return. -/
import Derived.Test.YtdlplfhkmhkngaaALj
set_option linter.unusedVariables false
set_option linter.unusedSimpArgs false
namespace Go.AL
open Go.RowKit

def aresults (P : Program) (fr : Fr) (H : Hp) : List ResultVar → Option (List AV)
  | [] => some []
  | .tmp t :: r => match aresults P fr H r with
    | some l => some (fr t :: l)
    | none => none
  | .cell a t :: r => match aload P H t (fr a), aresults P fr H r with
    | some v, some l => some (v :: l)
    | _, _ => none

def aret (P : Program) (fn : Func) (fr : Fr) (H : Hp) : Option AV :=
  match aresults P fr H fn.results.toList with
  | some [v] => some v
  | some vs => some (.tup vs)
  | none => none

def resOne (tmps : Array Value) : ResultVar → Sem Value
  | .tmp t => pure (tmps.getD t Go.undef)
  | .cell a t => do loadVar t (← asAddr (tmps.getD a Go.undef))
theorem results_eq (fn : Func) (tmps : Array Value) : results fn tmps = (do let vs ← fn.results.mapM (resOne tmps); pure (if h : vs.size = 1 then vs[0] else .tuple vs)) := by
  unfold results
  congr 1

theorem run_aresults {P : Program} {w0 : World} {B : Nat} {β : Nat → Bx} {H : Hp} {w : World} (R : Rel w0 B β H w) {fr : Fr} {tmps : Array Value} (F : FR β H.length fr tmps) :
    ∀ (l : List ResultVar) (vs : List AV), aresults P fr H l = some vs → ∃ us : List Value,
      (l.mapM (resOne tmps)).run P w = .ok us w ∧ VRs β vs us ∧ AV.lts H.length vs
  | [], vs, h => by simp [aresults] at h; subst h; exact ⟨[], by simp, rfl, trivial⟩
  | .tmp t :: r, vs, h => by
    simp only [aresults] at h
    split at h
    · rename_i l hl
      cases h
      obtain ⟨us, h1, h2, h3⟩ := run_aresults R F r l hl
      refine ⟨tmps.getD t Go.undef :: us, ?_, ?_, ?_⟩
      · simp only [List.mapM_cons, resOne, Sem.run_bind, Sem.run_pure, Result.andThen_ok, h1]
      · simp only [VRs]; exact ⟨_, _, rfl, (F t).1, h2⟩
      · simp only [AV.lts]; exact ⟨(F t).2, h3⟩
    · cases h
  | .cell a t :: r, vs, h => by
    simp only [aresults] at h
    split at h
    · rename_i v l hv hl
      cases h
      obtain ⟨us, h1, h2, h3⟩ := run_aresults R F r l hl
      have hx : ∃ h' o', fr a = .ptr h' o' := by
        unfold aload at hv
        split at hv
        · exact ⟨_, _, by assumption⟩
        · cases hv
      obtain ⟨h', o', hp⟩ := hx
      have hF := (F a).1
      rw [hp] at hF hv
      simp only [VR] at hF
      obtain ⟨x, g1, g2, g3⟩ := run_loadVar_al (P := P) R hv
      refine ⟨x :: us, ?_, ?_, ?_⟩
      · have e1 : (resOne tmps (.cell a t)).run P w = .ok x w := by simp [resOne, hF, asAddr, g1]
        simp only [List.mapM_cons, Sem.run_bind, Sem.run_pure, Result.andThen_ok, e1, h1]
      · simp only [VRs]; exact ⟨_, _, rfl, g2, h2⟩
      · simp only [AV.lts]; exact ⟨g3, h3⟩
    · cases h

theorem run_aret {P : Program} {w0 : World} {B : Nat} {β : Nat → Bx} {H : Hp} {w : World} (R : Rel w0 B β H w) {fr : Fr} {tmps : Array Value} (F : FR β H.length fr tmps) {fn : Func} {r : AV} (h : aret P fn fr H = some r) :
    ∃ v, (results fn tmps).run P w = .ok v w ∧ VR β r v ∧ r.lt H.length := by
  unfold aret at h
  have key : ∀ vs, aresults P fr H fn.results.toList = some vs → ∃ us : List Value, (fn.results.mapM (resOne tmps)).run P w = .ok us.toArray w ∧ VRs β vs us ∧ AV.lts H.length vs := by
    intro vs hvs
    obtain ⟨us, h1, h2, h3⟩ := run_aresults R F _ vs hvs
    refine ⟨us, ?_, h2, h3⟩
    rw [← Array.toArray_toList (xs := fn.results), List.mapM_toArray, Sem.run_map, h1]
    rfl
  split at h
  · rename_i v hv
    cases h
    obtain ⟨us, h1, h2, h3⟩ := key _ hv
    simp only [VRs] at h2
    obtain ⟨x, xs, rfl, hx, rfl⟩ := h2
    refine ⟨x, ?_, hx, by simpa only [AV.lts, and_true] using h3⟩
    simp only [results_eq, Sem.run_bind, h1, Result.andThen_ok]
    rfl
  · rename_i vs hne hv
    cases h
    obtain ⟨us, h1, h2, h3⟩ := key _ hv
    have hl := VRs_length h2
    have hn1 : us.length ≠ 1 := by
      intro h
      rw [hl] at h
      match vs, h with
      | [v], _ => exact hne v rfl
    refine ⟨.tuple us.toArray, ?_, by simp only [VR]; exact ⟨_, rfl, h2⟩, by simpa only [AV.lt] using h3⟩
    simp only [results_eq, Sem.run_bind, h1, Result.andThen_ok]
    rw [dif_neg (by simpa using hn1)]
    rfl
  · cases h

/-- The frame at a call's begin. -/
def fr0 (args : List AV) : Fr := fun t => args.getD t (.tup [])

theorem FR_fr0 {β : Nat → Bx} {n : Nat} {args : List AV} {vs : Array Value} (hv : VRs β args vs.toList) (hl : AV.lts n args) (k : Nat) : FR β n (fr0 args) (vs ++ Array.replicate k Go.undef) := by
  intro t
  unfold fr0
  have hlen := VRs_length hv
  rw [Array.length_toList] at hlen
  by_cases ht : t < args.length
  · have hc : args[t]? = some args[t] := List.getElem?_eq_getElem ht
    obtain ⟨v, h1, h2⟩ := VRs_get hv hc
    rw [Array.getElem?_toList] at h1
    have e1 : args.getD t (.tup []) = args[t] := by simp [List.getD, ht]
    have e2 : (vs ++ Array.replicate k Go.undef).getD t Go.undef = v := by
      rw [Array.getD_eq_getD_getElem?, Array.getElem?_append_left (by omega), h1]
      rfl
    rw [e1, e2]
    exact ⟨h2, (AV.lts_iff.1 hl) _ (List.getElem_mem ht)⟩
  · have e1 : args.getD t (.tup []) = .tup [] := by simp [List.getD, List.getElem?_eq_none (show args.length ≤ t by omega)]
    have e2 : (vs ++ Array.replicate k Go.undef).getD t Go.undef = Go.undef := by
      rw [Array.getD_eq_getD_getElem?, Array.getElem?_append_right (by omega)]
      cases h : (Array.replicate k Go.undef)[t - vs.size]? with
      | none => rfl
      | some u =>
        rw [Array.getElem?_replicate] at h
        split at h
        · cases h; rfl
        · cases h
    rw [e1, e2]
    exact ⟨by simp only [VR]; exact ⟨#[], rfl, rfl⟩, trivial⟩

/-- What a function's body must come to. -/
def AEnd (P : Program) (fn : Func) (R : AV → Hp → Prop) : Exit → Fr → Hp → Prop
  | .normal, fr, H => ∃ r, aret P fn fr H = some r ∧ R r H
  | .ret, fr, H => ∃ r, aret P fn fr H = some r ∧ R r H
  | _, _, _ => False

theorem ACalls_body {P : Program} {f : FuncId} {args : List AV} {H : Hp} {R : AV → Hp → Prop} {fn : Func} {c : Code} (hf : P.funcs[f]? = some fn) (hb : fn.body = some c) (hn : (fn.name == "runtime.NumGoroutine") = false)
    (hfit : fitsA (args.length + (fn.ntmps - args.length)) c = true) (h : AWp P c (fr0 args) H (AEnd P fn R)) : ACalls P f args H R := by
  refine ⟨⟨fn, hf, by simp [hb], hn⟩, ?_⟩
  intro w0 B β w vs hR hv hl
  have hlen := VRs_length hv
  rw [Array.length_toList] at hlen
  refine calls_of_wp hf hb ?_
  have hw := h w0 B β w { tmps := vs ++ Array.replicate (fn.ntmps - vs.size) Go.undef, defers := [] } rfl (by simpa [hlen] using hfit) hR (FR_fr0 hv hl _)
  refine wp_mono hw ?_
  rintro e a w' ⟨h1, h2, β', fr', H', h3, h4, h5, h6, h7⟩
  cases e with
  | normal =>
    obtain ⟨r, hr, hRr⟩ := h3
    obtain ⟨v, g1, g2, g3⟩ := run_aret h7 h6 hr
    exact ⟨h1, v, g1, β', r, v, H', rfl, hRr, h4, h5, g2, g3, h7⟩
  | ret =>
    obtain ⟨r, hr, hRr⟩ := h3
    obtain ⟨v, g1, g2, g3⟩ := run_aret h7 h6 hr
    exact ⟨h1, v, g1, β', r, v, H', rfl, hRr, h4, h5, g2, g3, h7⟩
  | _ => exact h3.elim

/-- The heap has only grown. -/
def Ext (H H' : Hp) : Prop := ∃ E, H' = H ++ E
theorem Ext.refl (H : Hp) : Ext H H := ⟨[], by simp⟩
theorem Ext.trans {H H' H'' : Hp} (h : Ext H H') (k : Ext H' H'') : Ext H H'' := by
  obtain ⟨E, rfl⟩ := h
  obtain ⟨E', rfl⟩ := k
  exact ⟨E ++ E', by simp⟩
theorem Ext.push (H : Hp) (b : Blk) : Ext H (H ++ [b]) := ⟨[b], rfl⟩

/-- What was made and isn't handed back is forgotten. -/
theorem ACalls.drop {P : Program} {f : FuncId} {args : List AV} {H : Hp} {R : AV → Prop} (h : ACalls P f args H fun r H' => Ext H H' ∧ r.lt H.length ∧ R r) : ACalls P f args H fun r H' => R r ∧ H = H' := by
  refine ⟨h.1, fun w0 B β w vs hR hv hl => (h.2 w0 B β w vs hR hv hl).mono ?_⟩
  rintro e w' ⟨β', r, v, H', rfl, ⟨⟨E, rfl⟩, h2, h3⟩, h4, h5, h6, h7, h8⟩
  exact ⟨β', r, v, H, rfl, ⟨h3, rfl⟩, h4, Nat.le_refl _, h6, h2, h8.forget fun k b hb hd c hc => hR.lts k b hb hd c hc⟩

/-- The same where something is handed back: what is kept must not lead to what goes. -/
theorem ACalls.shrink {P : Program} {f : FuncId} {args : List AV} {H : Hp} {R R' : AV → Hp → Prop} (h : ACalls P f args H R)
    (hr : ∀ r H', R r H' → ∃ H1 E, H' = H1 ++ E ∧ H.length ≤ H1.length ∧ r.lt H1.length ∧ R' r H1 ∧ ∀ (k : Nat) (b : Blk), H1[k]? = some b → b.kind ≠ .dead → (k < H.length ∧ H[k]? = some b) ∨ ∀ c ∈ b.cells, c.lt H1.length) : ACalls P f args H R' := by
  refine ⟨h.1, fun w0 B β w vs hR hv hl => (h.2 w0 B β w vs hR hv hl).mono ?_⟩
  rintro e w' ⟨β', r, v, H', rfl, h1, h4, h5, h6, h7, h8⟩
  obtain ⟨H1, E, rfl, a1, a2, a3, a4⟩ := hr r H' h1
  refine ⟨β', r, v, H1, rfl, a3, h4, a1, h6, a2, h8.forget fun k b hb hd c hc => ?_⟩
  rcases a4 k b hb hd with ⟨_, h9⟩ | h9
  · exact AV.lt_mono a1 c (hR.lts k b h9 hd c hc)
  · exact h9 c hc

/-- A test, as the frame has it. -/
def ACond (P : Program) (c : Operand) (x y : Code) (fr : Fr) (H : Hp) (Q : Exit → Fr → Hp → Prop) : Prop :=
  match ev fr c with
  | .bool t => if t = true then AWp P x fr H Q else AWp P y fr H Q
  | _ => False
theorem AWp_condI {P : Program} {c : Operand} {x y : Code} {fr : Fr} {H : Hp} {Q : Exit → Fr → Hp → Prop} (h : ACond P c x y fr H Q) : AWp P (.cond c x y) fr H Q := by
  unfold ACond at h
  split at h
  · rename_i t ht
    exact AWp_cond ht (fun e => by rwa [if_pos e] at h) (fun e => by rwa [if_neg (by simp [e])] at h)
  · exact h.elim
theorem AIte {c : Prop} [Decidable c] {p q : Prop} (h1 : c → p) (h2 : ¬ c → q) : if c then p else q := by
  split
  · exact h1 (by assumption)
  · exact h2 (by assumption)

theorem AEnd_ret0 {P : Program} {fn : Func} {R : AV → Hp → Prop} {fr : Fr} {H : Hp} {e : Exit} (hr : fn.results.toList = []) (h : R (.tup []) H) (he : e = .ret ∨ e = .normal := by simp) : AEnd P fn R e fr H := by
  rcases he with rfl | rfl <;> exact ⟨.tup [], by simp [aret, hr, aresults], h⟩
theorem AEnd_ret1 {P : Program} {fn : Func} {R : AV → Hp → Prop} {fr : Fr} {H : Hp} {t : Tmp} {e : Exit} (hr : fn.results.toList = [.tmp t]) (h : R (fr t) H) (he : e = .ret ∨ e = .normal := by simp) : AEnd P fn R e fr H := by
  rcases he with rfl | rfl <;> exact ⟨fr t, by simp [aret, hr, aresults], h⟩
theorem AEnd_ret2 {P : Program} {fn : Func} {R : AV → Hp → Prop} {fr : Fr} {H : Hp} {t u : Tmp} {e : Exit} (hr : fn.results.toList = [.tmp t, .tmp u]) (h : R (.tup [fr t, fr u]) H) (he : e = .ret ∨ e = .normal := by simp) : AEnd P fn R e fr H := by
  rcases he with rfl | rfl <;> exact ⟨.tup [fr t, fr u], by simp [aret, hr, aresults], h⟩
theorem AEnd_ret3 {P : Program} {fn : Func} {R : AV → Hp → Prop} {fr : Fr} {H : Hp} {t u v : Tmp} {e : Exit} (hr : fn.results.toList = [.tmp t, .tmp u, .tmp v]) (h : R (.tup [fr t, fr u, fr v]) H) (he : e = .ret ∨ e = .normal := by simp) : AEnd P fn R e fr H := by
  rcases he with rfl | rfl <;> exact ⟨.tup [fr t, fr u, fr v], by simp [aret, hr, aresults], h⟩

/-! ### For reckoning -/
theorem Fr.put_some (fr : Fr) (d : Tmp) (v : AV) (t : Tmp) : (fr.put (some d) v) t = if t = d then v else fr t := id rfl
theorem Fr.put_none (fr : Fr) (v : AV) : fr.put none v = fr := id rfl
theorem fr0_zero (a : AV) (l : List AV) : fr0 (a :: l) 0 = a := id rfl
theorem fr0_succ (a : AV) (l : List AV) (n : Nat) : fr0 (a :: l) (n + 1) = fr0 l n := id rfl
theorem fr0_nil (n : Nat) : fr0 [] n = .tup [] := id rfl

end Go.AL

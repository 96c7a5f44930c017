/- Part 6 of the proof of laws of this seat: lemmas on the model's code, on this program's functions, on numbers. No condition. -/
import Derived.Test.YtigddjlhncnnoaaGreatDoorZGae
set_option linter.unusedVariables false
set_option linter.unusedSimpArgs false
open Nat renaming reduceEqDiff → J0, reduceLeDiff → J1, reduceMul → J2, reduceAdd → J3, reduceSub → J4, reduceLT → J5
open Int renaming reduceToNat → J6, reducePow → J7, reduceNeg → J8, reduceLT → J9, reduceLE → Ja, reduceEq → Jb
open And renaming intro → Jc
open Go.IntKind renaming bits → Jd
namespace Go.AL
open Go.RowKit
def Qf (P : Program) (fr : Fr) (H : Hp) : List ResultVar → Option (List AV)
  | [] => some []
  | .tmp t :: r => match Qf P fr H r with
    | some l => some (fr t :: l)
    | none => none
  | .cell a t :: r => match V7 P H t (fr a), Qf P fr H r with
    | some v, some l => some (v :: l)
    | _, _ => none
def aret (P : Program) (fn : Func) (fr : Fr) (H : Hp) : Option AV :=
  match Qf P fr H fn.results.toList with
  | some [v] => some v
  | some vs => some (.tup vs)
  | none => none
def resOne (tmps : Array Value) : ResultVar → Sem Value
  | .tmp t => pure (tmps.getD t Go.undef)
  | .cell a t => do loadVar t (← asAddr (tmps.getD a Go.undef))
theorem results_eq (fn : Func) (tmps : Array Value) : results fn tmps = (do let vs ← fn.results.mapM (resOne tmps); pure (if h : vs.size = 1 then vs[0] else .tuple vs)) := by
  unfold results
  congr 1
theorem J13 {P : Program} {w0 : World} {B : Nat} {β : Env} {H : Hp} {w : World} (R : Rel w0 B β H w) {fr : Fr} {tmps : Array Value} (F : FR β H.length fr tmps) :
    ∀ (l : List ResultVar) (vs : List AV), Qf P fr H l = some vs → ∃ us : List Value,
      (l.mapM (resOne tmps)).run P w = .ok us w ∧ VRs β vs us ∧ AV.lts H.length vs
  | [], vs, h => by simp [Qf] at h; subst h; exact ⟨[], by simp, rfl, trivial⟩
  | .tmp t :: r, vs, h => by
    simp only [Qf] at h
    split at h
    · rename_i l hl
      cases h
      obtain ⟨us, h1, h2, h3⟩ := J13 R F r l hl
      refine ⟨tmps.getD t Go.undef :: us, ?_, ?_, ?_⟩
      · simp only [List.mapM_cons, resOne, Sem.run_bind, Sem.run_pure, Result.andThen_ok, h1]
      · simp only [VRs]; exact ⟨_, _, rfl, (F t).1, h2⟩
      · simp only [AV.lts]; exact ⟨(F t).2, h3⟩
    · cases h
  | .cell a t :: r, vs, h => by
    simp only [Qf] at h
    split at h
    · rename_i v l hv hl
      cases h
      obtain ⟨us, h1, h2, h3⟩ := J13 R F r l hl
      have hx : ∃ y, tmps.getD a Go.undef = .pointer (some y) ∧ ∃ x, (loadVar t y).run P w = .ok x w ∧ VR β v x ∧ v.lt H.length := by
        have hF := (F a).1
        unfold V7 at hv
        split at hv
        · rename_i h' o' hp
          rw [hp] at hF
          simp only [VR] at hF
          exact ⟨_, hF, run_loadVar_al (P := P) R (h := h') (o := o') (by simpa only [V7] using hv)⟩
        · rename_i cs hp
          rw [hp] at hF
          simp only [VR] at hF
          obtain ⟨y, hy, hf⟩ := hF
          exact ⟨y, hy, run_loadVar_fz (P := P) R (cs := cs) (by simpa only [V7] using hv) hf⟩
        · cases hv
      obtain ⟨y, hF, x, g1, g2, g3⟩ := hx
      refine ⟨x :: us, ?_, ?_, ?_⟩
      · have e1 : (resOne tmps (.cell a t)).run P w = .ok x w := by simp [resOne, hF, asAddr, g1]
        simp only [List.mapM_cons, Sem.run_bind, Sem.run_pure, Result.andThen_ok, e1, h1]
      · simp only [VRs]; exact ⟨_, _, rfl, g2, h2⟩
      · simp only [AV.lts]; exact ⟨g3, h3⟩
    · cases h
theorem run_aret {P : Program} {w0 : World} {B : Nat} {β : Env} {H : Hp} {w : World} (R : Rel w0 B β H w) {fr : Fr} {tmps : Array Value} (F : FR β H.length fr tmps) {fn : Func} {r : AV} (h : aret P fn fr H = some r) :
    ∃ v, (results fn tmps).run P w = .ok v w ∧ VR β r v ∧ r.lt H.length := by
  unfold aret at h
  have key : ∀ vs, Qf P fr H fn.results.toList = some vs → ∃ us : List Value, (fn.results.mapM (resOne tmps)).run P w = .ok us.toArray w ∧ VRs β vs us ∧ AV.lts H.length vs := by
    intro vs hvs
    obtain ⟨us, h1, h2, h3⟩ := J13 R F _ vs hvs
    refine ⟨us, ?_, h2, h3⟩
    rw [← Array.toArray_toList (xs := fn.results), List.mapM_toArray, Sem.run_map, h1]
    rfl
  split at h
  · rename_i v hv
    cases h
    obtain ⟨us, h1, h2, h3⟩ := key _ hv
    simp only [VRs] at h2
    obtain ⟨x, xs, rfl, hx, rfl⟩ := h2
    refine ⟨x, ?_, hx, by simpa only [AV.lts, and_true] using h3⟩
    simp only [results_eq, Sem.run_bind, h1, Result.andThen_ok]
    rfl
  · rename_i vs hne hv
    cases h
    obtain ⟨us, h1, h2, h3⟩ := key _ hv
    have hl := Y4 h2
    have hn1 : us.length ≠ 1 := by
      intro h
      rw [hl] at h
      match vs, h with
      | [v], _ => exact hne v rfl
    refine ⟨.tuple us.toArray, ?_, by simp only [VR]; exact ⟨_, rfl, h2⟩, by simpa only [AV.lt] using h3⟩
    simp only [results_eq, Sem.run_bind, h1, Result.andThen_ok]
    rw [dif_neg (by simpa using hn1)]
    rfl
  · cases h
def fr0 (args : List AV) : Fr := fun t => args.getD t (.tup [])
theorem FR_fr0 {β : Env} {n : Nat} {args : List AV} {vs : Array Value} (hv : VRs β args vs.toList) (hl : AV.lts n args) (k : Nat) : FR β n (fr0 args) (vs ++ Array.replicate k Go.undef) := by
  intro t
  unfold fr0
  have hlen := Y4 hv
  rw [Array.length_toList] at hlen
  by_cases ht : t < args.length
  · have hc : args[t]? = some args[t] := List.getElem?_eq_getElem ht
    obtain ⟨v, h1, h2⟩ := Na hv hc
    rw [Array.getElem?_toList] at h1
    have e1 : args.getD t (.tup []) = args[t] := by simp [List.getD, ht]
    have e2 : (vs ++ Array.replicate k Go.undef).getD t Go.undef = v := by
      rw [Array.getD_eq_getD_getElem?, Array.getElem?_append_left (by omega), h1]
      rfl
    rw [e1, e2]
    exact ⟨h2, (AV.lts_iff.1 hl) _ (List.getElem_mem ht)⟩
  · have e1 : args.getD t (.tup []) = .tup [] := by simp [List.getD, List.getElem?_eq_none (show args.length ≤ t by omega)]
    have e2 : (vs ++ Array.replicate k Go.undef).getD t Go.undef = Go.undef := by
      rw [Array.getD_eq_getD_getElem?, Array.getElem?_append_right (by omega)]
      cases h : (Array.replicate k Go.undef)[t - vs.size]? with
      | none => rfl
      | some u =>
        rw [Array.getElem?_replicate] at h
        split at h
        · cases h; rfl
        · cases h
    rw [e1, e2]
    exact ⟨by simp only [VR]; exact ⟨#[], rfl, rfl⟩, trivial⟩
def AEnd (P : Program) (fn : Func) (R : AV → Hp → Prop) : Exit → Fr → Hp → Prop
  | .normal, fr, H => ∃ r, aret P fn fr H = some r ∧ R r H
  | .ret, fr, H => ∃ r, aret P fn fr H = some r ∧ R r H
  | _, _, _ => False
theorem Qo {P : Program} {f : FuncId} {args : List AV} {H : Hp} {R : AV → Hp → Prop} {fn : Func} {c : Code} (hf : P.funcs[f]? = some fn) (hb : fn.body = some c) (hn : (fn.name == "runtime.NumGoroutine") = false)
    (hfit : Nd (args.length + (fn.ntmps - args.length)) c = true) (h : AWp (n := ⟨H.length, false⟩) P c (fr0 args) H (AEnd P fn R)) : ACalls P f args H R := by
  refine ⟨⟨fn, hf, by simp [hb], hn⟩, ?_⟩
  intro w0 B β w vs hR hv hl
  have hlen := Y4 hv
  rw [Array.length_toList] at hlen
  refine calls_of_wp hf hb ?_
  have hw := h (Nat.le_refl _) w0 B β w { tmps := vs ++ Array.replicate (fn.ntmps - vs.size) Go.undef, defers := [] } (fun h => nomatch h) rfl (by simpa [hlen] using hfit) hR (FR_fr0 hv hl _)
  refine wp_mono hw ?_
  rintro e a w' ⟨h1, h2, β', fr', H', h3, h4, h5, h6, h7⟩
  cases e with
  | normal =>
    obtain ⟨r, hr, hRr⟩ := h3
    obtain ⟨v, g1, g2, g3⟩ := run_aret h7 h6 hr
    exact ⟨h1, v, g1, β', r, v, H', rfl, hRr, h4, h5, g2, g3, h7⟩
  | ret =>
    obtain ⟨r, hr, hRr⟩ := h3
    obtain ⟨v, g1, g2, g3⟩ := run_aret h7 h6 hr
    exact ⟨h1, v, g1, β', r, v, H', rfl, hRr, h4, h5, g2, g3, h7⟩
  | _ => exact h3.elim
def SCalls (P : Program) (f : FuncId) (args : List AV) (H : Hp) (R : AV → Hp → Prop) : Prop :=
  (∃ fn, P.funcs[f]? = some fn ∧ fn.body.isSome = true ∧ (fn.name == "runtime.NumGoroutine") = false) ∧
  ∀ (w0 : World) (B : Nat) (β : Env) (w : World) (vs : Array Value), ¬ β.leg → Rel w0 B β H w → VRs β args vs.toList → AV.lts H.length args →
    Calls P f vs w fun e w' => ∃ β' r v H', e = .returned v ∧ R r H' ∧ Agree H.length β β' ∧ H.length ≤ H'.length ∧ VR β' r v ∧ r.lt H'.length ∧ Rel w0 B β' H' w'
theorem ACalls.s {P : Program} {f : FuncId} {args : List AV} {H : Hp} {R : AV → Hp → Prop} (h : ACalls P f args H R) : SCalls P f args H R := ⟨h.1, fun w0 B β w vs _ hR hv hl => h.2 w0 B β w vs hR hv hl⟩
theorem SCalls.mono {P : Program} {f : FuncId} {args : List AV} {H : Hp} {R R' : AV → Hp → Prop} (h : SCalls P f args H R) (hr : ∀ r H', R r H' → R' r H') : SCalls P f args H R' :=
  ⟨h.1, fun w0 B β w vs hL hR hv hl => (h.2 w0 B β w vs hL hR hv hl).mono fun e w' ⟨β', r, v, H', h1, h2, h3⟩ => ⟨β', r, v, H', h1, hr _ _ h2, h3⟩⟩
theorem SCalls_body {P : Program} {f : FuncId} {args : List AV} {H : Hp} {R : AV → Hp → Prop} {fn : Func} {c : Code} (hf : P.funcs[f]? = some fn) (hb : fn.body = some c) (hn : (fn.name == "runtime.NumGoroutine") = false)
    (hfit : Nd (args.length + (fn.ntmps - args.length)) c = true) (h : AWp (n := ⟨H.length, true⟩) P c (fr0 args) H (AEnd P fn R)) : SCalls P f args H R := by
  refine ⟨⟨fn, hf, by simp [hb], hn⟩, ?_⟩
  intro w0 B β w vs hL hR hv hl
  have hlen := Y4 hv
  rw [Array.length_toList] at hlen
  refine calls_of_wp hf hb ?_
  have hw := h (Nat.le_refl _) w0 B β w { tmps := vs ++ Array.replicate (fn.ntmps - vs.size) Go.undef, defers := [] } (fun _ => hL) rfl (by simpa [hlen] using hfit) hR (FR_fr0 hv hl _)
  refine wp_mono hw ?_
  rintro e a w' ⟨h1, h2, β', fr', H', h3, h4, h5, h6, h7⟩
  cases e with
  | normal =>
    obtain ⟨r, hr, hRr⟩ := h3
    obtain ⟨v, g1, g2, g3⟩ := run_aret h7 h6 hr
    exact ⟨h1, v, g1, β', r, v, H', rfl, hRr, h4, h5, g2, g3, h7⟩
  | ret =>
    obtain ⟨r, hr, hRr⟩ := h3
    obtain ⟨v, g1, g2, g3⟩ := run_aret h7 h6 hr
    exact ⟨h1, v, g1, β', r, v, H', rfl, hRr, h4, h5, g2, g3, h7⟩
  | _ => exact h3.elim
def Ext (H H' : Hp) : Prop := ∃ E, H' = H ++ E
theorem Ext.refl (H : Hp) : Ext H H := ⟨[], by simp⟩
theorem Ext.trans {H H' H'' : Hp} (h : Ext H H') (k : Ext H' H'') : Ext H H'' := by
  obtain ⟨E, rfl⟩ := h
  obtain ⟨E', rfl⟩ := k
  exact ⟨E ++ E', by simp⟩
theorem Ext.push (H : Hp) (b : Blk) : Ext H (H ++ [b]) := ⟨[b], rfl⟩
theorem ACalls.drop {P : Program} {f : FuncId} {args : List AV} {H : Hp} {R : AV → Prop} (h : ACalls P f args H fun r H' => Ext H H' ∧ r.lt H.length ∧ R r) : ACalls P f args H fun r H' => R r ∧ H = H' := by
  refine ⟨h.1, fun w0 B β w vs hR hv hl => (h.2 w0 B β w vs hR hv hl).mono ?_⟩
  rintro e w' ⟨β', r, v, H', rfl, ⟨⟨E, rfl⟩, h2, h3⟩, h4, h5, h6, h7, h8⟩
  exact ⟨β', r, v, H, rfl, ⟨h3, rfl⟩, h4, Nat.le_refl _, h6, h2, h8.forget fun k b hb hd c hc => hR.lts k b hb hd c hc⟩
def Q9 {n : Sc} (P : Program) (c : Operand) (x y : Code) (fr : Fr) (H : Hp) (Q : Exit → Fr → Hp → Prop) : Prop :=
  match ev fr c with
  | .bool t => if t = true then AWp (n := n) P x fr H Q else AWp (n := n) P y fr H Q
  | _ => False
theorem Jr {n : Sc} {P : Program} {c : Operand} {x y : Code} {fr : Fr} {H : Hp} {Q : Exit → Fr → Hp → Prop} (h : Q9 (n := n) P c x y fr H Q) : AWp (n := n) P (.cond c x y) fr H Q := by
  unfold Q9 at h
  split at h
  · rename_i t ht
    exact AWp_cond ht (fun e => by rwa [if_pos e] at h) (fun e => by rwa [if_neg (by simp [e])] at h)
  · exact h.elim
theorem X4 {c : Prop} [Decidable c] {p q : Prop} (h1 : c → p) (h2 : ¬ c → q) : if c then p else q := by
  split
  · exact h1 (by assumption)
  · exact h2 (by assumption)
theorem Fr.put_some (fr : Fr) (d : Tmp) (v : AV) (t : Tmp) : (fr.put (some d) v) t = if t = d then v else fr t := id rfl
theorem Fr.put_none (fr : Fr) (v : AV) : fr.put none v = fr := id rfl
theorem Qp (a : AV) (l : List AV) : fr0 (a :: l) 0 = a := id rfl
theorem Qq (a : AV) (l : List AV) (n : Nat) : fr0 (a :: l) (n + 1) = fr0 l n := id rfl
theorem Qt (n : Nat) : fr0 [] n = .tup [] := id rfl
end Go.AL
namespace Go.AL
open Go.RowKit
theorem optIf {α : Type} {c : Prop} [Decidable c] {a : Option α} (h : c) : (if c then a else none) = a := if_pos h
theorem optIfN {α : Type} {c : Prop} [Decidable c] {a : Option α} (h : ¬ c) : (if c then none else a) = a := if_neg h
theorem selP {c : Prop} [Decidable c] {b : Blk} {x : Option Blk} (h : c) : (if c then some b else x) = some b := if_pos h
theorem selN {c : Prop} [Decidable c] {b : Blk} {x : Option Blk} (h : ¬ c) : (if c then some b else x) = x := if_neg h
theorem avP {c : Prop} [Decidable c] {a b : AV} (h : c) : (if c then a else b) = a := if_pos h
theorem avN {c : Prop} [Decidable c] {a b : AV} (h : ¬ c) : (if c then a else b) = b := if_neg h
theorem Ui (H : Hp) (b : Blk) (k : Nat) : X3 (H ++ [b]) k = if k = H.length then some b else X3 H k := by
  unfold X3
  split
  · rename_i h; subst h; simp
  · rename_i h
    rcases Nat.lt_or_ge k H.length with h1 | h1
    · rw [List.getElem?_append_left h1]
    · rw [List.getElem?_eq_none (by simp; omega), List.getElem?_eq_none (by omega)]
theorem Qv {H : Hp} {h : Nat} (hl : h < H.length) (b : Blk) (k : Nat) : X3 (H.set h b) k = if k = h then some b else X3 H k := by
  unfold X3
  rw [List.getElem?_set]
  split
  · rename_i e; subst e; simp [hl]
  · rename_i e; rw [if_neg (fun h' => e h'.symm)]
theorem X6 {H : Hp} {h : Nat} {b : Blk} (e : X3 H h = some b) : h < H.length := (List.getElem?_eq_some_iff.1 e).1
theorem Qy {H H' : Hp} {h : Nat} {b : Blk} (e : X3 H h = some b) (x : Ext H H') : X3 H' h = some b := by
  obtain ⟨E, rfl⟩ := x
  unfold X3 at *
  rw [List.getElem?_append_left (X6 e)]
  exact e
theorem Qu (H : Hp) (b : Blk) : (H ++ [b]).length = H.length + 1 := by simp
theorem Ext.len {H H' : Hp} (x : Ext H H') : H.length ≤ H'.length := by
  obtain ⟨E, rfl⟩ := x
  simp
theorem Gd (H : Hp) (b b' : Blk) : (H ++ [b]).set H.length b' = H ++ [b'] := by
  rw [List.set_append_right _ _ (by omega)]; simp
theorem Nz {H : Hp} {h : Nat} (hl : h < H.length) (b b' : Blk) : (H ++ [b]).set h b' = H.set h b' ++ [b] := by
  rw [List.set_append_left _ _ hl]
def AV.hd : AV → Nat
  | .sl h _ _ _ => h
  | .sg h _ _ _ => h
  | .ptr h _ => h
  | _ => 0
def AV.of : AV → Nat
  | .sl _ o _ _ => o
  | .sg _ o _ _ => o
  | .ptr _ o => o
  | _ => 0
theorem arow_ext {H H' : Hp} {z n : Nat} {v : AV} {cs : List AV} (h : arow H z v = some (cs, n)) (x : Ext H H') : arow H' z v = some (cs, n) := by
  unfold arow at h ⊢
  split at h
  · exact h
  · split at h
    · rename_i b hb; rw [Qy hb x]; exact h
    · cases h
  · split at h
    · rename_i b hb; rw [Qy hb x]; exact h
    · cases h
  · exact h
  · cases h
theorem Un {H : Hp} {z n : Nat} {v : AV} {cs : List AV} (h : arow H z v = some (cs, n)) :
    (v = .nilS ∧ cs = [] ∧ n = 0) ∨ (∃ b, ((∃ c, v = .sl v.hd v.of n c) ∨ (∃ z', v = .sg v.hd v.of n z')) ∧ X3 H v.hd = some b ∧ b.kind ≠ .dead ∧ v.of + n * z ≤ b.cells.length ∧ cs = (b.cells.drop v.of).take (n * z)) ∨ (v = .fz n cs ∧ cs.length = n * z) := by
  unfold arow at h
  split at h
  · cases h; exact .inl ⟨rfl, rfl, rfl⟩
  · split at h
    · rename_i b hb
      split at h
      · cases h
      · rename_i hd
        split at h
        · rename_i hle; cases h; exact .inr (.inl ⟨b, .inl ⟨_, rfl⟩, hb, hd, hle, rfl⟩)
        · cases h
    · cases h
  · split at h
    · rename_i b hb
      split at h
      · cases h
      · rename_i hd
        split at h
        · rename_i hle; cases h; exact .inr (.inl ⟨b, .inr ⟨_, rfl⟩, hb, hd, hle, rfl⟩)
        · cases h
    · cases h
  · split at h
    · rename_i hl; cases h; exact .inr (.inr ⟨rfl, hl⟩)
    · cases h
  · cases h
def AV.pl (v : AV) (i : Nat) : AV :=
  match v with
  | .fz _ cs => .fp (cs.drop i)
  | v => .ptr v.hd (v.of + i)
theorem arow_length {H : Hp} {z n : Nat} {v : AV} {cs : List AV} (h : arow H z v = some (cs, n)) : cs.length = n * z := by
  rcases Un h with ⟨_, rfl, rfl⟩ | ⟨b, _, _, _, hle, rfl⟩ | ⟨_, h⟩
  · simp
  · simp; omega
  · exact h
theorem arow_lt {H : Hp} {z n : Nat} {v : AV} {cs : List AV} (h : arow H z v = some (cs, n)) : v.lt H.length := by
  rcases Un h with ⟨rfl, _, _⟩ | ⟨b, hv, hb, _⟩ | ⟨rfl, _⟩
  rotate_left 2
  · trivial
  · trivial
  · have := X6 hb
    rcases hv with ⟨c, e⟩ | ⟨c, e⟩ <;> (rw [e]; simpa only [AV.lt] using this)
theorem sl_len {P : Program} {H : Hp} {z n : Nat} {v : AV} {cs : List AV} {t e : TypeId} (h : arow H z v = some (cs, n)) (hu : P.underlying t = some (.slice e)) : Qn P .len #[t] [v] = some (.int .i64 n) := by
  rcases Un h with ⟨rfl, _, rfl⟩ | ⟨b, hv, _⟩ | ⟨rfl, _⟩
  rotate_left 2
  · simp [Qn, hu]
  · simp [Qn, hu]
  · rcases hv with ⟨c, e'⟩ | ⟨c, e'⟩ <;> (rw [e']; simp [Qn, hu])
theorem sl_at {P : Program} {H : Hp} {z n : Nat} {v : AV} {cs : List AV} {t e : TypeId} {k : IntKind} {j : Int} (h : arow H z v = some (cs, n)) (hu : P.underlying t = some (.slice e)) (hz : Xf P e = some z) (h0 : 0 ≤ j) (h1 : j < (n : Int)) :
    Qx P t v (.int k j) = some (v.pl (j.toNat * z)) := by
  rcases Un h with ⟨rfl, _, rfl⟩ | ⟨b, hv, _⟩ | ⟨rfl, _⟩
  · omega
  · rcases hv with ⟨c, e'⟩ | ⟨c, e'⟩ <;> (rw [e']; simp [Qx, hu, hz, h0, h1, AV.hd, AV.of, AV.pl])
  · simp [Qx, hu, hz, h0, h1, AV.pl]
theorem sl_load {P : Program} {H : Hp} {n : Nat} {v : AV} {cs : List AV} {e : TypeId} {i : Nat} (h : arow H 1 v = some (cs, n)) (ha : Xp P e = some false) (hi : i < n) : V7 P H e (v.pl (i * 1)) = cs[i]? := by
  rcases Un h with ⟨rfl, _, rfl⟩ | ⟨b, hv, hb, hd, hle, rfl⟩ | ⟨rfl, _⟩
  · omega
  rotate_left 1
  · simp only [AV.pl, V7, ha, Nat.mul_one, List.getElem?_drop, Nat.add_zero]
  · have hpl : v.pl (i * 1) = .ptr v.hd (v.of + i * 1) := by rcases hv with ⟨c, e'⟩ | ⟨c, e'⟩ <;> (rw [e']; rfl)
    rw [hpl]
    simp only [V7, hb, hd, if_false, ha]
    rw [Nat.mul_one] at hle ⊢
    rw [Nat.mul_one, List.getElem?_take, if_pos hi, List.getElem?_drop]
theorem sl_load_agg {P : Program} {H : Hp} {z n : Nat} {v : AV} {cs : List AV} {e : TypeId} {i : Nat} (h : arow H z v = some (cs, n)) (ha : Xp P e = some true) (hz : Xf P e = some z) (hi : i < n) : V7 P H e (v.pl (i * z)) = some (.agg ((cs.drop (i * z)).take z)) := by
  rcases Un h with ⟨rfl, _, rfl⟩ | ⟨b, hv, hb, hd, hle, rfl⟩ | ⟨rfl, hcl⟩
  · omega
  rotate_left 1
  · have hiz : i * z + z ≤ n * z := by
      have : (i + 1) * z ≤ n * z := Nat.mul_le_mul_right _ hi
      rw [Nat.add_mul, Nat.one_mul] at this
      exact this
    simp only [AV.pl, V7, ha, hz]
    rw [if_pos (by rw [List.length_drop]; omega)]
  · have hpl : v.pl (i * z) = .ptr v.hd (v.of + i * z) := by rcases hv with ⟨c, e'⟩ | ⟨c, e'⟩ <;> (rw [e']; rfl)
    rw [hpl]
    have hiz : i * z + z ≤ n * z := by
      have : (i + 1) * z ≤ n * z := Nat.mul_le_mul_right _ hi
      rw [Nat.add_mul, Nat.one_mul] at this
      exact this
    simp only [V7, hb, hd, if_false, ha, hz]
    rw [if_pos (by omega)]
    congr 2
    rw [List.drop_take, List.drop_drop, List.take_take]
    congr 1
    omega
theorem drop_step {α : Type} (xs : List α) (d : α) {i : Nat} (h : i < xs.length) : xs.drop i = xs.getD i d :: xs.drop (i + 1) := by
  rw [List.drop_eq_getElem_cons h]
  simp [List.getD, h]
theorem map_get {α : Type} (f : α → AV) (xs : List α) (d : α) {i : Nat} (h : i < xs.length) : (xs.map f)[i]? = some (f (xs.getD i d)) := by
  simp [List.getElem?_map, List.getElem?_eq_getElem h, List.getD]
def AV.fine (z : Nat) : AV → Prop
  | .nilS => True
  | .sl _ _ n c => n ≤ c
  | .sg _ _ _ z' => z' = z
  | .fz _ _ => True
  | _ => False
structure Rd (H : Hp) (z : Nat) (v : AV) (cs : List AV) (n : Nat) : Prop where
  row : arow H z v = some (cs, n)
  fine : v.fine z
theorem Rd.ext {H H' : Hp} {z n : Nat} {v : AV} {cs : List AV} (h : Rd H z v cs n) (x : Ext H H') : Rd H' z v cs n := ⟨arow_ext h.row x, h.fine⟩
theorem Rd.push {H : Hp} {z n : Nat} {v : AV} {cs : List AV} (h : Rd H z v cs n) (b : Blk) : Rd (H ++ [b]) z v cs n := h.ext (Ext.push H b)
theorem Rd.lt {H : Hp} {z n : Nat} {v : AV} {cs : List AV} (h : Rd H z v cs n) : v.lt H.length := arow_lt h.row
theorem Rd.length {H : Hp} {z n : Nat} {v : AV} {cs : List AV} (h : Rd H z v cs n) : cs.length = n * z := arow_length h.row
theorem Rd.nil (H : Hp) (z : Nat) : Rd H z .nilS [] 0 := ⟨rfl, trivial⟩
theorem Rd.len {P : Program} {H : Hp} {z n : Nat} {v : AV} {cs : List AV} {t e : TypeId} (h : Rd H z v cs n) (hu : P.underlying t = some (.slice e)) : Qn P .len #[t] [v] = some (.int .i64 n) := sl_len h.row hu
theorem Rd.at_ {P : Program} {H : Hp} {z n : Nat} {v : AV} {cs : List AV} {t e : TypeId} (h : Rd H z v cs n) (hu : P.underlying t = some (.slice e)) (hz : Xf P e = some z) : ∀ {k : IntKind} {j : Int}, 0 ≤ j → j < (n : Int) →
    Qx P t v (.int k j) = some (v.pl (j.toNat * z)) := fun h0 h1 => sl_at h.row hu hz h0 h1
theorem Rd.load {P : Program} {H : Hp} {n : Nat} {v : AV} {cs : List AV} {e : TypeId} (h : Rd H 1 v cs n) (ha : Xp P e = some false) : ∀ {i : Nat}, i < n → V7 P H e (v.pl (i * 1)) = cs[i]? := fun hi => sl_load h.row ha hi
theorem Rd.loads {P : Program} {H : Hp} {z n : Nat} {v : AV} {cs : List AV} {e : TypeId} (h : Rd H z v cs n) (ha : Xp P e = some true) (hz : Xf P e = some z) : ∀ {i : Nat}, i < n → V7 P H e (v.pl (i * z)) = some (.agg ((cs.drop (i * z)).take z)) := fun hi => sl_load_agg h.row ha hz hi
theorem arow_one {H : Hp} {z n : Nat} {v : AV} {cs : List AV} (h : arow H z v = some (cs, n)) : v.one = true := by
  rcases Un h with ⟨rfl, _, _⟩ | ⟨b, hv, _⟩ | ⟨rfl, _⟩
  rotate_left 2
  · rfl
  · rfl
  · rcases hv with ⟨c, e⟩ | ⟨c, e⟩ <;> (rw [e]; rfl)
theorem AV.cells_one {v : AV} (h : v.one = true) : v.cells = [v] := by cases v <;> simp [AV.one] at h <;> rfl
theorem AV.solid_one {v : AV} (h : v.one = true) : v.solid = true := by cases v <;> simp [AV.one] at h <;> rfl
theorem Rd.one {H : Hp} {z n : Nat} {v : AV} {cs : List AV} (h : Rd H z v cs n) : v.one = true := arow_one h.row
theorem Rd.solid {H : Hp} {z n : Nat} {v : AV} {cs : List AV} (h : Rd H z v cs n) : v.solid = true := AV.solid_one h.one
theorem Rd.cells {H : Hp} {z n : Nat} {v : AV} {cs : List AV} (h : Rd H z v cs n) : v.cells = [v] := AV.cells_one h.one
theorem Rd.lit (H : Hp) {z n : Nat} {cs : List AV} {k : BK} {e : TypeId} (hk : k ≠ .dead) (hl : cs.length = n * z) : Rd (H ++ [⟨cs, k, e⟩]) z (.sl H.length 0 n n) cs n := by
  refine ⟨?_, Nat.le_refl _⟩
  simp only [arow, Ui, if_true, hk, if_false]
  rw [if_pos (by omega)]
  simp [← hl]
def Ints (H : Hp) (k : IntKind) (v : AV) (xs : List Int) : Prop := Rd H 1 v (xs.map (AV.int k)) xs.length
theorem Ints.rd {H : Hp} {k : IntKind} {v : AV} {xs : List Int} (h : Ints H k v xs) : Rd H 1 v (xs.map (AV.int k)) xs.length := h
theorem Ints.ext {H H' : Hp} {k : IntKind} {v : AV} {xs : List Int} (h : Ints H k v xs) (x : Ext H H') : Ints H' k v xs := Rd.ext h x
theorem Ints.push {H : Hp} {k : IntKind} {v : AV} {xs : List Int} (h : Ints H k v xs) (b : Blk) : Ints (H ++ [b]) k v xs := Rd.push h b
theorem Ints.load {P : Program} {H : Hp} {k : IntKind} {v : AV} {xs : List Int} {e : TypeId} (h : Ints H k v xs) (ha : Xp P e = some false) : ∀ {i : Nat}, i < xs.length → V7 P H e (v.pl (i * 1)) = some (.int k (xs.getD i 0)) :=
  fun hi => by rw [Rd.load h ha hi]; exact map_get _ _ _ hi
theorem Ints.lit (H : Hp) {k : IntKind} {xs : List Int} {n : Nat} {kd : BK} {e : TypeId} (hk : kd ≠ .dead) (hn : n = xs.length) : Ints (H ++ [⟨xs.map (AV.int k), kd, e⟩]) k (.sl H.length 0 n n) xs := by
  subst hn
  exact Rd.lit H hk (by simp)
theorem Ints.nil (H : Hp) (k : IntKind) : Ints H k .nilS [] := Rd.nil H 1
def RowsI (H : Hp) (k : IntKind) : List AV → List (List Int) → Prop
  | [], [] => True
  | v :: vs, xs :: xss => Ints H k v xs ∧ RowsI H k vs xss
  | _, _ => False
theorem RowsI.length {H : Hp} {k : IntKind} : ∀ {vs : List AV} {xss : List (List Int)}, RowsI H k vs xss → vs.length = xss.length
  | [], [], _ => rfl
  | v :: vs, xs :: xss, h => by simp [RowsI.length (vs := vs) h.2]
theorem RowsI.get {H : Hp} {k : IntKind} : ∀ {vs : List AV} {xss : List (List Int)}, RowsI H k vs xss → ∀ {i : Nat}, i < vs.length → ∃ v, vs[i]? = some v ∧ Ints H k v (xss.getD i [])
  | [], [], _, i, hi => by simp at hi
  | v :: vs, xs :: xss, h, 0, _ => ⟨v, rfl, h.1⟩
  | v :: vs, xs :: xss, h, i + 1, hi => by
    obtain ⟨u, h1, h2⟩ := RowsI.get (vs := vs) h.2 (i := i) (by simpa using hi)
    exact ⟨u, by simpa using h1, by simpa using h2⟩
theorem RowsI.ext {H H' : Hp} {k : IntKind} (x : Ext H H') : ∀ {vs : List AV} {xss : List (List Int)}, RowsI H k vs xss → RowsI H' k vs xss
  | [], [], _ => trivial
  | v :: vs, xs :: xss, h => ⟨h.1.ext x, RowsI.ext x (vs := vs) h.2⟩
end Go.AL
namespace Go.AL
open Go.RowKit
theorem AStep1.mono {P : Program} {ops : Array Oper} {o : Oper} {fr : Fr} {H : Hp} {X Y : Fr → Hp → Prop} (h : AStep1 P ops o fr H X) (hxy : ∀ fr' H', X fr' H' → Y fr' H') : AStep1 P ops o fr H Y := by
  unfold AStep1 Uf Uo Wc at h ⊢
  split at h
  · split at h
    · rename_i ht
      rw [if_pos ht]
      split at h
      · exact h.mono fun r H' hx => hxy _ _ hx
      · split at h
        · exact hxy _ _ h
        · exact h.elim
    · rename_i ht
      rw [if_neg ht]
      exact hxy _ _ h
  · exact h.elim
theorem evs_congr {fr fr' : Fr} {l : List Operand} (h : ∀ x ∈ l, ev fr x = ev fr' x) : l.map (ev fr) = l.map (ev fr') := List.map_congr_left h
theorem G5 {P : Program} {fr fr' : Fr} {H : Hp} {op : Op} (h : ∀ x ∈ op.operands, ev fr x = ev fr' x) : Q6 P fr H op = Q6 P fr' H op := by
  have opt : ∀ x : Option Operand, (∀ y ∈ x.toList, ev fr y = ev fr' y) → Jv fr x = Jv fr' x := by
    intro x hx
    cases x with
    | none => rfl
    | some y => simp [Jv, hx y (by simp)]
  have prt : ∀ ps : Array (Nat × Operand), (∀ x ∈ (ps.toList.map (·.2)), ev fr x = ev fr' x) → (ps.toList.map fun p => (p.1, ev fr p.2)) = ps.toList.map fun p => (p.1, ev fr' p.2) := by
    intro ps hp
    refine List.map_congr_left fun p hm => ?_
    rw [hp p.2 (List.mem_map.2 ⟨p, hm, rfl⟩)]
  cases op <;> simp only [Op.operands] at h <;> simp only [Q6]
  case move x => rw [h x (by simp)]
  case assign x => rw [h x (by simp)]
  case pick c a b => rw [h c (by simp), h a (by simp), h b (by simp)]
  case box t x => rw [h x (by simp)]
  case build t ps => rw [prt ps (by simpa using h)]
  case buildSlice t n ps => rw [prt ps (by simpa using h)]
  case load t x => rw [h x (by simp)]
  case store t a x => rw [h a (by simp), h x (by simp)]
  case nilCheck x => rw [h x (by simp)]
  case binOp op t x y u => rw [h x (by simp), h y (by simp)]
  case unOp op t x => rw [h x (by simp)]
  case convert s d x => rw [h x (by simp)]
  case sliceToArrayPointer t x => rw [h x (by simp)]
  case makeInterface t x => rw [h x (by simp)]
  case makeSlice t l c => rw [h l (by simp), h c (by simp)]
  case slice t x lo hi mx =>
    have hx := h x (by simp)
    have hlo := opt lo (fun y hy => h y (by simp; simp at hy; simp [hy]))
    have hhi := opt hi (fun y hy => h y (by simp; simp at hy; simp [hy]))
    have hmx := opt mx (fun y hy => h y (by simp; simp at hy; simp [hy]))
    rw [hx, hlo, hhi, hmx]
  case fieldAddr s x f => rw [h x (by simp)]
  case field s x f => rw [h x (by simp)]
  case indexAddr t x i => rw [h x (by simp), h i (by simp)]
  case index t x i => rw [h x (by simp), h i (by simp)]
  case typeAssert x s t ok => rw [h x (by simp)]
  case extract x i => rw [h x (by simp)]
  case call c =>
    obtain ⟨callee, args, tys⟩ := c
    have ha : ∀ x ∈ args.toList, ev fr x = ev fr' x := fun x hx => h x (by simp [Call.operands]; exact .inr (by simpa using hx))
    cases callee with
    | value f => rfl
    | invoke r m => rfl
    | builtin b =>
      cases b <;> simp only
      case append =>
        split
        · rename_i s x t t' h1 h2
          rw [ha s (by rw [h1]; simp), ha x (by rw [h1]; simp)]
        · rfl
      case copy =>
        split
        · rename_i s x t t' h1 h2
          rw [ha s (by rw [h1]; simp), ha x (by rw [h1]; simp)]
        · rfl
      all_goals rw [evs_congr ha]
theorem Nf {P : Program} {fr fr' : Fr} {op : Op} (h : ∀ x ∈ op.operands, ev fr x = ev fr' x) : Q8 P fr op = Q8 P fr' op := by
  cases op <;> simp only [Q8]
  rename_i c
  obtain ⟨callee, args, tys⟩ := c
  simp only [Op.operands, Call.operands] at h
  have ha : ∀ x ∈ args.toList, ev fr x = ev fr' x := fun x hx => h x (by simp; exact .inr (by simpa using hx))
  cases callee with
  | value f => simp only; rw [h f (by simp), evs_congr ha]
  | invoke r m => simp only; rw [h r (by simp), evs_congr ha]
  | builtin b => rfl
def Gu (P : Program) : Op → Bool
  | .move _ | .assign _ | .pick .. | .build .. | .nilCheck _ | .binOp .. | .unOp .. | .makeInterface .. | .slice .. | .fieldAddr .. | .field .. | .indexAddr .. | .index .. | .typeAssert .. | .extract .. | .sliceToArrayPointer .. => true
  | .convert s d _ => match P.underlying s, P.underlying d with
    | some (.int _), some (.int _) => true
    | _, _ => false
  | .call c => match c.callee with
    | .builtin .len | .builtin .cap | .builtin .min | .builtin .max => true
    | _ => false
  | _ => false
theorem pureOp_step {P : Program} {fr : Fr} {H : Hp} {op : Op} (hp : Gu P op = true) {v : AV} {H1 : Hp} (h : Q6 P fr H op = some (v, H1)) : H1 = H ∧ ∀ H', Q6 P fr H' op = some (v, H') := by
  have key : ∀ {x : Option AV}, x.map (·, H) = some (v, H1) → H1 = H ∧ ∀ H' : Hp, x.map (·, H') = some (v, H') := by
    intro x hx
    obtain ⟨y, rfl, he⟩ := Option.map_eq_some_iff.1 hx
    cases he
    exact ⟨rfl, fun H' => rfl⟩
  cases op <;> simp only [Gu, Bool.false_eq_true] at hp <;> simp only [Q6] at h ⊢
  case move x => cases h; exact ⟨rfl, fun _ => rfl⟩
  case assign x => cases h; exact ⟨rfl, fun _ => rfl⟩
  case pick c a b => split at h <;> first | (cases h; exact ⟨rfl, fun _ => rfl⟩) | cases h
  case build t ps => exact key h
  case nilCheck x => split at h <;> first | (cases h; exact ⟨rfl, fun _ => rfl⟩) | cases h
  case binOp => exact key h
  case unOp => exact key h
  case makeInterface t x => split at h <;> first | (cases h; exact ⟨rfl, fun _ => rfl⟩) | cases h
  case slice => exact key h
  case fieldAddr => exact key h
  case field => exact key h
  case indexAddr => exact key h
  case index => exact key h
  case typeAssert => exact key h
  case extract x i => split at h <;> first | exact key h | cases h
  case sliceToArrayPointer t x =>
    split at h
    · split at h
      · rename_i hle; cases h; exact ⟨rfl, fun _ => by rw [if_pos hle]⟩
      · cases h
    · split at h
      · rename_i hle; cases h; exact ⟨rfl, fun _ => by rw [if_pos hle]⟩
      · cases h
    · cases h
  case convert s d x =>
    split at hp
    · rename_i k k' hs hd
      unfold Up Jz Jy Jj at h ⊢
      rw [hs, hd] at h ⊢
      simp only at h ⊢
      cases hx : ev fr x <;> rw [hx] at h <;> simp only at h ⊢ <;> first | (cases h; done) | (cases h; exact ⟨rfl, fun _ => rfl⟩)
    · cases hp
  case call c =>
    obtain ⟨callee, args, tys⟩ := c
    simp only at hp
    split at hp <;> first | (cases hp; done) | exact key h
def Ur (P : Program) : Op → Bool
  | .load .. => true
  | .convert s d _ => match P.underlying d with
    | some .string => true
    | some (.int _) => true
    | _ => false
  | op => Gu P op
theorem Ge {P : Program} {fr : Fr} {H : Hp} {op : Op} (hp : Ur P op = true) {v : AV} {H1 : Hp} (h : Q6 P fr H op = some (v, H1)) : H1 = H := by
  cases op <;> simp only [Ur] at hp
  case load t x =>
    simp only [Q6] at h
    obtain ⟨y, _, he⟩ := Option.map_eq_some_iff.1 h
    cases he; rfl
  case convert s d x =>
    simp only [Q6] at h
    split at h
    · cases h; rfl
    · exfalso
      have hno : ∀ e, P.underlying d ≠ some (.slice e) := by intro e he; rw [he] at hp; cases hp
      unfold Jz at h
      split at h
      · rename_i r hr
        unfold Jy at hr
        split at hr
        · rename_i h1 _; exact hno _ h1
        · cases hr
      · unfold Jj at h
        split at h
        · rename_i h1 _; exact hno _ h1
        · cases h
  all_goals first | (cases hp; done) | exact (pureOp_step hp h).1
theorem U8 {P : Program} {fr : Fr} {op : Op} (hp : Ur P op = true) : Q8 P fr op = none := by
  cases op <;> simp only [Ur, Gu, Bool.false_eq_true] at hp <;> simp only [Q8]
  rename_i c
  obtain ⟨callee, args, tys⟩ := c
  simp only at hp ⊢
  split at hp <;> first | rfl | cases hp
theorem ev_put {fr : Fr} {d : Option Tmp} {v : AV} {x : Operand} (h : ∀ t, d = some t → x ≠ .tmp t) : ev (fr.put d v) x = ev fr x := by
  cases d with
  | none => rfl
  | some d =>
    cases x with
    | tmp t =>
      have : t ≠ d := fun e => h d rfl (e ▸ rfl)
      simp [ev, Fr.put, this]
    | _ => rfl
theorem put_comm {fr : Fr} {d d' : Option Tmp} {v v' : AV} (h : ∀ t, d = some t → d' ≠ some t) : (fr.put d v).put d' v' = (fr.put d' v').put d v := by
  cases d with
  | none => rfl
  | some d =>
    cases d' with
    | none => rfl
    | some d' =>
      have hne : d' ≠ d := fun e => h d rfl (by rw [e])
      funext t
      simp only [Fr.put]
      by_cases h1 : t = d
      · subst h1; simp [Ne.symm hne]
      · simp [h1]
theorem looks_op {ops : Array Oper} {o : Oper} {d : Tmp} (h : d ∉ o.looksAt ops) : ∀ x ∈ o.op.operands, x ≠ .tmp d := by
  intro x hx e
  subst e
  apply h
  unfold Oper.looksAt
  refine List.mem_append_left _ ?_
  rw [List.mem_filterMap]
  exact ⟨.tmp d, by simpa using hx, rfl⟩
theorem looks_guard {ops : Array Oper} {o : Oper} {d : Tmp} (h : d ∉ o.looksAt ops) {fr : Fr} {v : AV} : Jp ops (fr.put (some d) v) o = Jp ops fr o := by
  unfold Jp
  cases hg : o.guard with
  | none => rfl
  | some g =>
    obtain ⟨j, want⟩ := g
    simp only
    cases hd : (ops[j]?).bind (·.dst) with
    | none => rfl
    | some d' =>
      have : d' ≠ d := by
        intro e
        subst e
        apply h
        unfold Oper.looksAt
        refine List.mem_append_right _ ?_
        simp [hg, hd]
      simp [Fr.put, this]
theorem looks_guard' {ops : Array Oper} {o : Oper} {d : Option Tmp} (h : ∀ t, d = some t → t ∉ o.looksAt ops) {fr : Fr} {v : AV} : Jp ops (fr.put d v) o = Jp ops fr o := by
  cases d with
  | none => rfl
  | some d => exact looks_guard (h d rfl)
theorem AStep1.quiet {P : Program} {ops : Array Oper} {o : Oper} {fr : Fr} {H : Hp} {X : Fr → Hp → Prop} (hq : Ur P o.op = true) (h : AStep1 P ops o fr H X) :
    ∃ v, X (fr.put o.dst v) H ∧ ∀ Y, Y (fr.put o.dst v) H → AStep1 P ops o fr H Y := by
  unfold AStep1 Uf Uo Wc at h
  split at h
  · rename_i t hw
    split at h
    · rename_i ht
      rw [U8 hq] at h
      simp only at h
      split at h
      · rename_i v H' hs
        have hH := Ge hq hs
        subst hH
        exact ⟨v, h, fun Y hY => by unfold AStep1 Uf Uo Wc; simp only [hw, ht, if_true, U8 hq, hs]; exact hY⟩
      · exact h.elim
    · rename_i ht
      exact ⟨.tup [], h, fun Y hY => by unfold AStep1 Uf Uo Wc; simp only [hw, ht, if_false]; exact hY⟩
  · exact h.elim
def mayPass (P : Program) (ops : Array Oper) (o p : Oper) : Bool := o.apart ops p && (Gu P o.op || (Ur P o.op && Ur P p.op))
theorem AStep1.swap {P : Program} {ops : Array Oper} {o p : Oper} {fr : Fr} {H : Hp} {X : Fr → Hp → Prop} (hm : mayPass P ops o p = true) (h : AStep1 P ops o fr H fun fr1 H1 => AStep1 P ops p fr1 H1 X) :
    AStep1 P ops p fr H fun fr1 H1 => AStep1 P ops o fr1 H1 X := by
  simp only [mayPass, Bool.and_eq_true, Bool.or_eq_true] at hm
  obtain ⟨hap, hk⟩ := hm
  obtain ⟨a1, a2, a3⟩ := Oper.apart_spec hap
  have hq : Ur P o.op = true := by
    rcases hk with hk | hk
    · cases ho : o.op <;> rw [ho] at hk <;> simp only [Gu, Bool.false_eq_true] at hk <;> simp only [Ur, Gu] <;> try exact hk
      split at hk
      · rename_i h1 h2; rw [h2]
      · cases hk
    · exact hk.1
  -- what o does from here
  have hpo : ∀ x ∈ p.op.operands, ∀ v, ev (fr.put o.dst v) x = ev fr x := fun x hx v => ev_put fun t ht => looks_op (a1 t ht) x hx
  have hop : ∀ x ∈ o.op.operands, ∀ v (fr : Fr), ev (fr.put p.dst v) x = ev fr x := fun x hx v fr => ev_put fun t ht => looks_op (a3 t ht) x hx
  have hpg : ∀ v, Jp ops (fr.put o.dst v) p = Jp ops fr p := fun v => looks_guard' fun t ht => a1 t ht
  have hog : ∀ v (fr : Fr), Jp ops (fr.put p.dst v) o = Jp ops fr o := fun v fr => looks_guard' fun t ht => a3 t ht
  -- o gives one value, here and behind p
  have hone : ∃ v, AStep1 P ops p (fr.put o.dst v) H X ∧ ∀ (u : AV) (H' : Hp) (Y : Fr → Hp → Prop), (H' = H ∨ Gu P o.op = true) → Y ((fr.put p.dst u).put o.dst v) H' → AStep1 P ops o (fr.put p.dst u) H' Y := by
    unfold AStep1 Uf Uo Wc at h
    split at h
    · rename_i t hw
      split at h
      · rename_i ht
        rw [U8 hq] at h
        simp only at h
        split at h
        · rename_i v H1 hs
          have hH := Ge hq hs
          subst hH
          refine ⟨v, h, fun u H' Y hHH hY => ?_⟩
          have hs' : Q6 P (fr.put p.dst u) H' o.op = some (v, H') := by
            rw [G5 (fr' := fr) fun x hx => hop x hx u fr]
            rcases hHH with rfl | hp
            · exact hs
            · exact (pureOp_step hp hs).2 H'
          unfold AStep1 Uf Uo Wc
          simp only [hog, hw, ht, if_true, U8 hq, hs']
          exact hY
        · exact h.elim
      · rename_i ht
        refine ⟨.tup [], h, fun u H' Y _ hY => ?_⟩
        unfold AStep1 Uf Uo Wc
        simp only [hog, hw, ht, if_false]
        exact hY
    · exact h.elim
  obtain ⟨v, h1, h2⟩ := hone
  have comm : ∀ u, (fr.put o.dst v).put p.dst u = (fr.put p.dst u).put o.dst v := fun u => put_comm a2
  unfold AStep1 Uf Uo Wc at h1
  rw [hpg] at h1
  unfold AStep1 Uf Uo Wc
  split at h1
  · rename_i t hw
    split at h1
    · rename_i ht
      rw [if_pos ht]
      rw [Nf (fr' := fr) fun x hx => hpo x hx v] at h1
      split at h1
      · rename_i f args hc
        refine h1.mono fun r H' hX => ?_
        have hpure : Gu P o.op = true := by
          rcases hk with hk | hk
          · exact hk
          · rw [U8 hk.2] at hc; cases hc
        exact h2 r H' X (.inr hpure) (by rw [← comm]; exact hX)
      · rw [G5 (fr' := fr) fun x hx => hpo x hx v] at h1
        split at h1
        · rename_i u H' hs
          refine h2 u H' X ?_ (by rw [← comm]; exact h1)
          rcases hk with hk | hk
          · exact .inr hk
          · exact .inl (Ge hk.2 hs)
        · exact h1.elim
    · rename_i ht
      rw [if_neg ht]
      exact h2 (.tup []) H X (.inl rfl) (by rw [← comm]; exact h1)
  · exact h1.elim
end Go.AL

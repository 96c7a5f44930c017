/- Part 2 of the proof of laws of this seat: lemmas on the model's code, on this program's functions, on numbers. No condition. -/
import Derived.Test.YtigddjlhncnnoaaGreatDoorZGaa
set_option linter.unusedVariables false
set_option linter.unusedSimpArgs false
open Nat renaming reduceEqDiff → J0, reduceLeDiff → J1, reduceMul → J2, reduceAdd → J3, reduceSub → J4, reduceLT → J5
open Int renaming reduceToNat → J6, reducePow → J7, reduceNeg → J8, reduceLT → J9, reduceLE → Ja, reduceEq → Jb
open And renaming intro → Jc
open Go.IntKind renaming bits → Jd
namespace Go.AL
open Go.RowKit
def Ji : Operand → Bool
  | .const _ => true
  | _ => false
def Jk (P : Program) (t : TypeId) (cx cy : Bool) : AV → AV → Bool
  | .nilI, .nilI => cx || cy
  | .agg _, .agg _ => !(P.eqGuardType P.depth t)
  | .int _ _, _ => true
  | .bool _, _ => true
  | .str _, _ => true
  | .nilP, _ => true
  | .ptr _ _, _ => true
  | .nilS, _ => true
  | .sl _ _ _ _, _ => true
  | .sg _ _ _ _, _ => true
  | .ifc _ _, _ => true
  | .nilI, .ifc _ _ => true
  | .fp _, _ => true
  | _, _ => false
def Qm (P : Program) (op : BinOp) (t : TypeId) (cx cy : Bool) (x y : AV) : Option AV :=
  match x, y with
  | .int k a, .int k' b =>
    if op = .shl ∨ op = .shr then Q0 op k a b
    else if k = k' then Qk op k a b else none
  | .str a, .str b => Qj op a b
  | x, y =>
    if Jk P t cx cy x y then
      match op with
      | .eql => (Xm P Op.maxDepth t x y).map .bool
      | .neq => (Xm P Op.maxDepth t x y).map fun b => .bool (!b)
      | _ => none
    else none
theorem run_aint {P : Program} {op : BinOp} {t : TypeId} {k : IntKind} {a b : Int} {v : AV} (h : Qk op k a b = some v) (w : World) (hs : ¬ (op = .shl ∨ op = .shr)) : ∃ x, (binOp op t (.int k a) (.int k b)).run P w = .ok x w ∧ (∀ β, VR β v x) ∧ ∀ n, v.lt n := by
  cases op <;> simp only [Qk] at h
  case quo =>
    split at h
    · cases h
    · rename_i hb; cases h
      exact ⟨_, by simp [binOp_quo, Op.intDiv, hb], fun β => rfl, fun _ => trivial⟩
  case rem =>
    split at h
    · cases h
    · rename_i hb; cases h
      exact ⟨_, by simp [binOp_rem, Op.intDiv, hb], fun β => rfl, fun _ => trivial⟩
  case shl => simp at hs
  case shr => simp at hs
  all_goals first
    | (cases h; done)
    | (cases h; exact ⟨_, by simp [binOp_add, binOp_sub, binOp_mul, binOp_and, binOp_or, binOp_xor, binOp_andNot, binOp_eql, binOp_neq, binOp_lss, binOp_leq, binOp_gtr, binOp_geq, Op.intArith, intBits_and, intBits_or, intBits_xor, intBits_andNot], fun β => rfl, fun _ => trivial⟩)
theorem run_ashift {P : Program} {op : BinOp} {t : TypeId} {k k' : IntKind} {a b : Int} {v : AV} (h : Q0 op k a b = some v) (w : World) : ∃ x, (binOp op t (.int k a) (.int k' b)).run P w = .ok x w ∧ (∀ β, VR β v x) ∧ ∀ n, v.lt n := by
  unfold Q0 at h
  split at h
  · cases h
  · rename_i hb
    have hp : (0 : Int) ≤ 2 ^ min b.toNat k.bits := Int.pow_nonneg (by decide)
    cases op <;> simp only at h <;> cases h
    · exact ⟨_, by simp [binOp_shl, Op.shift, hb], fun β => rfl, fun _ => trivial⟩
    · exact ⟨_, by simp [binOp_shr, Op.shift, hb, Int.fdiv_eq_ediv_of_nonneg _ hp], fun β => rfl, fun _ => trivial⟩
theorem run_astr {P : Program} {op : BinOp} {t : TypeId} {a b : ByteArray} {v : AV} (h : Qj op a b = some v) (w : World) : ∃ x, (binOp op t (.string a) (.string b)).run P w = .ok x w ∧ (∀ β, VR β v x) ∧ ∀ n, v.lt n := by
  cases op <;> simp only [Qj] at h
  case add =>
    split at h
    · rename_i hb; cases h
      refine ⟨_, ?_, fun β => rfl, fun _ => trivial⟩
      have : ¬ (((a.size + b.size : Nat) : Int) > IntKind.i64.max) := by
        have e : IntKind.i64.max = 9223372036854775807 := by decide
        rw [e]; omega
      simp only [binOp, Op.stringOp, this, if_false, Sem.run_pure]
    · cases h
  all_goals first
    | (cases h; done)
    | (cases h; exact ⟨_, by simp [binOp, Op.stringOp], fun β => rfl, fun _ => trivial⟩)
theorem run_aeqGuard {P : Program} {β : Env} {op : BinOp} {t : TypeId} {ox oy : Operand} {x y : AV} {u v : Value} (h : Jk P t (Ji ox) (Ji oy) x y = true) (hx : VR β x u) (hy : VR β y v) (w : World) :
    (eqGuard op t ox oy u v).run P w = .ok () w := by
  unfold Jk at h
  split at h <;> (try simp only [VR] at hx hy)
  · subst hx; subst hy
    rcases Bool.or_eq_true_iff.1 h with h | h
    · cases ox <;> simp [Ji] at h; rw [eqGuard_nil_constL]; rfl
    · cases oy <;> simp [Ji] at h; rw [eqGuard_nil_constR]; rfl
  · obtain ⟨us, rfl, _⟩ := hx
    obtain ⟨vs, rfl, _⟩ := hy
    exact run_eqGuard_agg w op t ox oy us vs (by simpa using h)
  · subst hx; rw [eqGuard_at_int]; rfl
  · subst hx; rw [eqGuard_at_bool]; rfl
  · subst hx; rw [eqGuard_at_string]; rfl
  · subst hx; rw [eqGuard_at_pointer]; rfl
  · subst hx; rw [eqGuard_at_pointer]; rfl
  · subst hx; rw [eqGuard_at_slice]; rfl
  · subst hx; rw [eqGuard_at_slice]; rfl
  · obtain ⟨c, o', rfl, _⟩ := hx; rw [eqGuard_at_slice]; rfl
  · obtain ⟨c, rfl, _⟩ := hx; rw [eqGuard_at_iface]; rfl
  · obtain ⟨c, rfl, _⟩ := hy; subst hx; rw [eqGuard_nil_iface]; rfl
  · obtain ⟨c, rfl, _⟩ := hx; rw [eqGuard_at_pointer]; rfl
  · cases h
theorem run_binOp_eq {P : Program} {β : Env} {t : TypeId} {x y : AV} {u v : Value} {b : Bool} (hi : ∀ k a k' b, ¬ (x = .int k a ∧ y = .int k' b)) (hs : ∀ a b, ¬ (x = .str a ∧ y = .str b))
    (h : Xm P Op.maxDepth t x y = some b) (hx : VR β x u) (hy : VR β y v) (w : World) :
    (binOp .eql t u v).run P w = .ok (.bool b) w ∧ (binOp .neq t u v).run P w = .ok (.bool (!b)) w := by
  have he := run_equalIn (P := P) Op.maxDepth t x y u v b h hx hy w
  have key : ∀ op, (op = BinOp.eql ∨ op = .neq) → binOp op t u v = (match op with | .eql => (do pure (.bool (← Op.equal t u v)) : Sem Value) | _ => do pure (.bool (!(← Op.equal t u v)))) := by
    intro op ho
    have hd : Op.maxDepth = 9999 + 1 := rfl
    rw [hd] at h
    unfold Xm at h
    split at h <;> (try simp only [VR] at hx hy)
    case h_2 => exact absurd ⟨rfl, rfl⟩ (hi _ _ _ _)
    case h_3 => exact absurd ⟨rfl, rfl⟩ (hs _ _)
    case h_20 => cases h
    all_goals first
      | (subst hx; subst hy; rcases ho with rfl | rfl <;> rfl)
      | (obtain ⟨c, o', rfl, _⟩ := hx; subst hy; rcases ho with rfl | rfl <;> rfl)
      | (obtain ⟨c, o', rfl, _⟩ := hy; subst hx; rcases ho with rfl | rfl <;> rfl)
      | (obtain ⟨c, rfl, _⟩ := hx; subst hy; rcases ho with rfl | rfl <;> rfl)
      | (obtain ⟨c, rfl, _⟩ := hy; subst hx; rcases ho with rfl | rfl <;> rfl)
      | (obtain ⟨c, rfl, _⟩ := hx; obtain ⟨d, rfl, _⟩ := hy; rcases ho with rfl | rfl <;> rfl)
  constructor
  · rw [key .eql (.inl rfl)]
    simp only [Op.equal, Sem.run_bind, he, Result.andThen_ok, Sem.run_pure]
  · rw [key .neq (.inr rfl)]
    simp only [Op.equal, Sem.run_bind, he, Result.andThen_ok, Sem.run_pure]
theorem run_abin {P : Program} {β : Env} {op : BinOp} {t : TypeId} {ox oy : Operand} {x y v : AV} {u z : Value} (h : Qm P op t (Ji ox) (Ji oy) x y = some v) (hx : VR β x u) (hy : VR β y z) (w : World) :
    ∃ r, (do eqGuard op t ox oy u z; binOp op t u z : Sem Value).run P w = .ok r w ∧ VR β v r ∧ ∀ n, v.lt n := by
  unfold Qm at h
  split at h
  · rename_i k a k' b
    simp only [VR] at hx hy
    subst hx; subst hy
    simp only [eqGuard_at_int, Sem.run_bind, Sem.run_pure, Result.andThen_ok]
    split at h
    · obtain ⟨r, h1, h2, h3⟩ := run_ashift (P := P) (t := t) (k' := k') h w
      exact ⟨r, h1, h2 β, h3⟩
    · rename_i hns
      split at h
      · rename_i hk
        subst hk
        obtain ⟨r, h1, h2, h3⟩ := run_aint (P := P) (t := t) h w hns
        exact ⟨r, h1, h2 β, h3⟩
      · cases h
  · rename_i a b
    simp only [VR] at hx hy
    subst hx; subst hy
    simp only [eqGuard_at_string, Sem.run_bind, Sem.run_pure, Result.andThen_ok]
    obtain ⟨r, h1, h2, h3⟩ := run_astr (P := P) (t := t) h w
    exact ⟨r, h1, h2 β, h3⟩
  · rename_i hni hns
    split at h
    · rename_i hg
      have hgr := run_aeqGuard (op := op) hg hx hy w
      simp only [Sem.run_bind, hgr, Result.andThen_ok]
      split at h
      · obtain ⟨b, hb, rfl⟩ := Option.map_eq_some_iff.1 h
        have := run_binOp_eq (fun k a k' b hh => hni k a k' b hh.1 hh.2) (fun a b hh => hns a b hh.1 hh.2) hb hx hy w
        exact ⟨_, this.1, rfl, fun _ => trivial⟩
      · obtain ⟨b, hb, rfl⟩ := Option.map_eq_some_iff.1 h
        have := run_binOp_eq (fun k a k' b hh => hni k a k' b hh.1 hh.2) (fun a b hh => hns a b hh.1 hh.2) hb hx hy w
        exact ⟨_, this.2, rfl, fun _ => trivial⟩
      · cases h
    · cases h
def aun (op : UnOp) : AV → Option AV
  | .int k n =>
    match op with
    | .neg => some (.int k (k.wrap (0 - n)))
    | .xor => some (.int k (bits .xor k (if k.signed then -1 else k.max) n))
    | _ => none
  | .bool b => match op with
    | .not => some (.bool (!b))
    | _ => none
  | _ => none
theorem run_aun {P : Program} {β : Env} {op : UnOp} {x v : AV} {u : Value} (h : aun op x = some v) (hx : VR β x u) (w : World) : ∃ r, (Op.unary op u).run P w = .ok r w ∧ VR β v r ∧ ∀ n, v.lt n := by
  unfold aun at h
  split at h
  · simp only [VR] at hx
    subst hx
    cases op <;> simp only at h <;> cases h
    · exact ⟨_, by simp [Op.unary, Op.intArith], rfl, fun _ => trivial⟩
    · exact ⟨_, by simp [Op.unary, intBits_xor], rfl, fun _ => trivial⟩
  · simp only [VR] at hx
    subst hx
    cases op <;> simp only at h <;> cases h
    exact ⟨_, by simp [Op.unary], rfl, fun _ => trivial⟩
  · cases h
def Qx (P : Program) (t : TypeId) (x i : AV) : Option AV :=
  match P.underlying t, x, i with
  | some (.slice e), .sl h o n _, .int _ j =>
    match Xf P e with
    | some z => if 0 ≤ j ∧ j < (n : Int) then some (.ptr h (o + j.toNat * z)) else none
    | none => none
  | some (.slice e), .sg h o n _, .int _ j =>
    match Xf P e with
    | some z => if 0 ≤ j ∧ j < (n : Int) then some (.ptr h (o + j.toNat * z)) else none
    | none => none
  | some (.array len e), .ptr h o, .int _ j =>
    match Xf P e with
    | some z => if 0 ≤ j ∧ j < (len : Int) then some (.ptr h (o + j.toNat * z)) else none
    | none => none
  | some (.slice e), .fz n cs, .int _ j =>
    match Xf P e with
    | some z => if 0 ≤ j ∧ j < (n : Int) then some (.fp (cs.drop (j.toNat * z))) else none
    | none => none
  | some (.array len e), .fp cs, .int _ j =>
    match Xf P e with
    | some z => if 0 ≤ j ∧ j < (len : Int) then some (.fp (cs.drop (j.toNat * z))) else none
    | none => none
  | _, _, _ => none
theorem run_aindexAddr {P : Program} {β : Env} {N : Nat} {t : TypeId} {x i v : AV} {u k : Value} (h : Qx P t x i = some v) (hx : VR β x u) (hl : x.lt N) (hi : VR β i k) (w : World) :
    ∃ r, (Instr.indexAt t u k).run P w = .ok r w ∧ VR β v r ∧ v.lt N := by
  unfold Qx at h
  split at h
  · rename_i e h0 o n c k' j ht
    split at h
    · rename_i z hs
      split at h
      · rename_i hb
        cases h
        simp only [VR] at hx hi
        subst hx; subst hi
        refine ⟨.pointer (some (((β h0).addr.add o).add (j.toNat * z))), ?_, by simp only [VR, Addr.add_add], hl⟩
        simp [Instr.indexAt, run_underlying ht, asIntOf, Za hs, hb]
      · cases h
    · cases h
  · rename_i e h0 o n c k' j ht
    split at h
    · rename_i z hs
      split at h
      · rename_i hb
        cases h
        simp only [VR] at hx hi
        obtain ⟨c, o', rfl, hnc, hco⟩ := hx
        subst hi
        have ho : o' = o := by rcases hco with h1 | h1 <;> omega
        subst ho
        refine ⟨.pointer (some (((β h0).addr.add o').add (j.toNat * z))), ?_, by simp only [VR, Addr.add_add], hl⟩
        simp [Instr.indexAt, run_underlying ht, asIntOf, Za hs, hb]
      · cases h
    · cases h
  · rename_i len e h0 o k' j ht
    split at h
    · rename_i z hs
      split at h
      · rename_i hb
        cases h
        simp only [VR] at hx hi
        subst hx; subst hi
        refine ⟨.pointer (some (((β h0).addr.add o).add (j.toNat * z))), ?_, by simp only [VR, Addr.add_add], hl⟩
        simp [Instr.indexAt, run_underlying ht, asIntOf, Za hs, hb, Instr.sureAddr]
      · cases h
    · cases h
  · rename_i e n cs k' j ht
    split at h
    · rename_i z hs
      split at h
      · rename_i hb
        cases h
        simp only [VR] at hx hi
        obtain ⟨a, c, rfl, hnc, hac, hfz⟩ := hx
        subst hi
        rcases hfz with h0 | ⟨x, rfl, hf⟩
        · omega
        · refine ⟨.pointer (some (x.add (j.toNat * z))), ?_, ?_, trivial⟩
          · simp [Instr.indexAt, run_underlying ht, asIntOf, Za hs, hb]
          · simp only [VR]
            exact ⟨_, rfl, fun i ci hi => by rw [List.getElem?_drop] at hi; rw [Addr.add_add]; exact hf _ _ hi⟩
      · cases h
    · cases h
  · rename_i len e cs k' j ht
    split at h
    · rename_i z hs
      split at h
      · rename_i hb
        cases h
        simp only [VR] at hx hi
        obtain ⟨x, rfl, hf⟩ := hx
        subst hi
        refine ⟨.pointer (some (x.add (j.toNat * z))), ?_, ?_, trivial⟩
        · simp [Instr.indexAt, run_underlying ht, asIntOf, Za hs, hb, Instr.sureAddr]
        · simp only [VR]
          exact ⟨_, rfl, fun i ci hi => by rw [List.getElem?_drop] at hi; rw [Addr.add_add]; exact hf _ _ hi⟩
      · cases h
    · cases h
  · cases h
def Qh (P : Program) (s : TypeId) (x : AV) (f : Nat) : Option AV :=
  match P.underlying s, x with
  | some (.struct fs), .ptr h o =>
    match fs[f]? with
    | some fl => match Xf P fl.type with
      | some z => if z = 0 then none else some (.ptr h (o + fl.offset))
      | none => none
    | none => none
  | some (.struct fs), .fp cs =>
    match fs[f]? with
    | some fl => match Xf P fl.type with
      | some z => if z = 0 then none else some (.fp (cs.drop fl.offset))
      | none => none
    | none => none
  | _, _ => none
theorem run_afieldAddr {P : Program} {β : Env} {N : Nat} {s : TypeId} {x v : AV} {f : Nat} {u : Value} (h : Qh P s x f = some v) (hx : VR β x u) (hl : x.lt N) (w : World) :
    ∃ r, (Instr.fieldAt s u f).run P w = .ok r w ∧ VR β v r ∧ v.lt N := by
  unfold Qh at h
  split at h
  · rename_i fs h0 o ht
    split at h
    · rename_i fl hf
      split at h
      · rename_i z hs
        split at h
        · cases h
        · rename_i hz
          cases h
          simp only [VR] at hx
          subst hx
          refine ⟨.pointer (some (((β h0).addr.add o).add fl.offset)), ?_, by simp only [VR, Addr.add_add], hl⟩
          simp [Instr.fieldAt, run_underlying ht, hf, Instr.sureAddr, fieldPlace, Za hs, hz]
      · cases h
    · cases h
  · rename_i fs cs ht
    split at h
    · rename_i fl hf
      split at h
      · rename_i z hs
        split at h
        · cases h
        · rename_i hz
          cases h
          simp only [VR] at hx
          obtain ⟨x, rfl, hfx⟩ := hx
          refine ⟨.pointer (some (x.add fl.offset)), ?_, ?_, trivial⟩
          · simp [Instr.fieldAt, run_underlying ht, hf, Instr.sureAddr, fieldPlace, Za hs, hz]
          · simp only [VR]
            exact ⟨_, rfl, fun i ci hi => by rw [List.getElem?_drop] at hi; rw [Addr.add_add]; exact hfx _ _ hi⟩
      · cases h
    · cases h
  · cases h
def afield (P : Program) (s : TypeId) (x : AV) (f : Nat) : Option AV :=
  match P.underlying s, x with
  | some (.struct fs), .agg cs =>
    match fs[f]? with
    | some fl => apart P fl.type cs fl.offset
    | none => none
  | _, _ => none
theorem run_afield {P : Program} {β : Env} {N : Nat} {s : TypeId} {x v : AV} {f : Nat} {u : Value} (h : afield P s x f = some v) (hx : VR β x u) (hl : x.lt N) (w : World) :
    ∃ r, (Instr.field s u f).run P w = .ok r w ∧ VR β v r ∧ v.lt N := by
  unfold afield at h
  split at h
  · rename_i fs cs ht
    split at h
    · rename_i fl hf
      simp only [VR] at hx
      obtain ⟨us, rfl, hus⟩ := hx
      obtain ⟨r, hr, hv⟩ := J1i h hus w
      refine ⟨r, ?_, hv, apart_lt h (by simpa only [AV.lt] using hl)⟩
      simp [Instr.field, run_underlying ht, hf, asAgg, hr]
    · cases h
  · cases h
def Gv (P : Program) (t : TypeId) (x i : AV) : Option AV :=
  match P.underlying t, x, i with
  | some (.array len e), .agg cs, .int _ j =>
    match Xf P e with
    | some z => if 0 ≤ j ∧ j < (len : Int) then apart P e cs (j.toNat * z) else none
    | none => none
  | some .string, .str s, .int _ j => if 0 ≤ j then (s.data[j.toNat]?).map fun b => .int .u8 b.toNat else none
  | _, _, _ => none
theorem run_aindex {P : Program} {β : Env} {N : Nat} {t : TypeId} {x i v : AV} {u k : Value} (h : Gv P t x i = some v) (hx : VR β x u) (hl : x.lt N) (hi : VR β i k) (w : World) :
    ∃ r, (Instr.index t u k).run P w = .ok r w ∧ VR β v r ∧ v.lt N := by
  unfold Gv at h
  split at h
  · rename_i len e cs k' j ht
    split at h
    · rename_i z hs
      split at h
      · rename_i hb
        simp only [VR] at hx hi
        obtain ⟨us, rfl, hus⟩ := hx
        subst hi
        obtain ⟨r, hr, hv⟩ := J1i h hus w
        refine ⟨r, ?_, hv, apart_lt h (by simpa only [AV.lt] using hl)⟩
        simp [Instr.index, run_underlying ht, asIntOf, Za hs, hb, hr]
      · cases h
    · cases h
  · rename_i s k' j ht
    split at h
    · rename_i hj
      obtain ⟨b, hb, rfl⟩ := Option.map_eq_some_iff.1 h
      simp only [VR] at hx hi
      subst hx; subst hi
      have hb' : s[j.toNat]? = some b := by
        have hlt := (Array.getElem?_eq_some_iff.1 hb)
        obtain ⟨h1, h2⟩ := hlt
        have h1' : j.toNat < s.size := h1
        rw [getElem?_pos s j.toNat h1']
        exact congrArg some h2
      refine ⟨.int .u8 b.toNat, ?_, rfl, trivial⟩
      simp [Instr.index, run_underlying ht, asIntOf, hj, hb']
    · cases h
  · cases h
end Go.AL
namespace Go.AL
open Go.RowKit
def aints : List AV → Option (List Int)
  | [] => some []
  | .int .u8 n :: cs => (aints cs).map (n :: ·)
  | _ => none
theorem aints_map (xs : List Int) : aints (xs.map (AV.int .u8)) = some xs := by
  induction xs with
  | nil => rfl
  | cons x xs ih => simp [aints, ih]
theorem aints_eq : ∀ {cs : List AV} {xs : List Int}, aints cs = some xs → cs = xs.map (AV.int .u8)
  | [], xs, h => by simp [aints] at h; subst h; rfl
  | c :: cs, xs, h => by
    unfold aints at h
    split at h
    · rename_i heq; cases heq
    · rename_i n cs' heq
      cases heq
      obtain ⟨ys, hy, rfl⟩ := Option.map_eq_some_iff.1 h
      rw [aints_eq hy]; rfl
    · cases h
theorem VRs_ints {β : Env} : ∀ {xs : List Int} {l : List Value}, VRs β (xs.map (AV.int .u8)) l → l = xs.map (Value.int .u8)
  | [], l, h => h
  | x :: xs, l, h => by
    simp only [List.map_cons, VRs, VR] at h
    obtain ⟨y, ys, rfl, rfl, h2⟩ := h
    rw [VRs_ints h2]; rfl
def abytes (H : Hp) (h o n : Nat) : Option (List Int) :=
  match X3 H h with
  | some b => if b.kind = .dead then none else if o + n ≤ b.cells.length then aints ((b.cells.drop o).take n) else none
  | none => none
def Qi (P : Program) (e : TypeId) : Bool :=
  match P.underlying e with
  | some (.int .u8) => true
  | _ => false
theorem J0t {P : Program} {e : TypeId} (h : Qi P e = true) : P.underlying e = some (.int .u8) := by
  unfold Qi at h
  split at h
  · assumption
  · cases h
def Up (P : Program) (H : Hp) (src dst : TypeId) (x : AV) : Option AV :=
  match P.underlying src, P.underlying dst, x with
  | some _, some (.int k), .int _ n => some (.int k (k.wrap n))
  | some _, some .string, .str s => some (.str s)
  | some (.slice e), some .string, .nilS => if Qi P e then some (.str .empty) else none
  | some (.slice e), some .string, .sl h o n _ => if Qi P e then (abytes H h o n).map fun xs => .str (strOfNums xs) else none
  | some (.slice e), some .string, .sg h o n _ => if Qi P e then (abytes H h o n).map fun xs => .str (strOfNums xs) else none
  | some (.slice e), some .string, .fz n cs => if Qi P e then (if cs.length = n then (aints cs).map fun xs => .str (strOfNums xs) else none) else none
  | _, _, _ => none
theorem run_bytes_al {P : Program} {w0 : World} {B : Nat} {β : Env} {H : Hp} {w : World} (R : Rel w0 B β H w) {h o n : Nat} {xs : List Int} (e : abytes H h o n = some xs) (c : Nat) :
    (Conv.bytesToString (.slice (some ((β h).addr.add o)) n c)).run P w = .ok (.string (strOfNums xs)) w := by
  simp only [abytes, X3] at e
  split at e
  · rename_i b hb
    split at e
    · cases e
    · rename_i hd
      split at e
      · rename_i hle
        obtain ⟨l, h1, h2, h3, h4⟩ := R.row hb hd o n hle
        rw [aints_eq e] at h1
        have hl := VRs_ints h1
        subst hl
        have hload := run_loadCells_list (P := P) w ((β h).addr.add o) (xs.map (Value.int .u8)) (fun j v hv => by rw [Addr.add_add]; exact h3 j v hv)
        rw [h2] at hload
        rw [run_bytesToString w _ n c xs hload, foldl_push_bytes]
        simp [strOfNums, ByteArray.empty, ByteArray.emptyWithCapacity]
        rfl
      · cases e
  · cases e
theorem run_bytes_fz {P : Program} {w0 : World} {B : Nat} {β : Env} {H : Hp} {w : World} (R : Rel w0 B β H w) {n : Nat} {cs : List AV} {xs : List Int} {x : Addr} (e : aints cs = some xs) (hn : cs.length = n) (hf : ∀ (i : Nat) ci, cs[i]? = some ci → β.fz (x.add i) ci) (c : Nat) :
    (Conv.bytesToString (.slice (some x) n c)).run P w = .ok (.string (strOfNums xs)) w := by
  obtain ⟨l, h1, h2, h3, _⟩ := R.fzrow hf n (by omega)
  rw [List.take_of_length_le (by omega), aints_eq e] at h1
  have hl := VRs_ints h1
  subst hl
  have hload := run_loadCells_list (P := P) w x (xs.map (Value.int .u8)) h3
  rw [h2] at hload
  rw [run_bytesToString w _ n c xs hload, foldl_push_bytes]
  simp [strOfNums, ByteArray.empty, ByteArray.emptyWithCapacity]
  rfl
theorem run_aconv {P : Program} {w0 : World} {B : Nat} {β : Env} {H : Hp} {w : World} (R : Rel w0 B β H w) {src dst : TypeId} {x v : AV} {u : Value} (e : Up P H src dst x = some v) (hx : VR β x u) :
    ∃ r, (convert src dst u).run P w = .ok r w ∧ VR β v r ∧ ∀ n, v.lt n := by
  unfold Up at e
  split at e <;> (try simp only [VR] at hx)
  · rename_i d k k' n hs hd
    cases e
    subst hx
    refine ⟨.int k (k.wrap n), ?_, rfl, fun _ => trivial⟩
    simp [convert, run_underlying hs, run_underlying hd, Conv.intToInt]
  · rename_i d s hs hd
    cases e
    subst hx
    refine ⟨.string s, ?_, rfl, fun _ => trivial⟩
    simp only [convert, Sem.run_bind, run_underlying hs, run_underlying hd, Result.andThen_ok]
    cases d <;> rfl
  · rename_i el hs hd
    split at e
    · rename_i he
      cases e
      subst hx
      exact ⟨_, run_convert_bytes_nil w src el hs (J0t he) 0 0 dst hd, rfl, fun _ => trivial⟩
    · cases e
  · rename_i el h o n c hs hd
    split at e
    · rename_i he
      obtain ⟨xs, hxs, rfl⟩ := Option.map_eq_some_iff.1 e
      subst hx
      refine ⟨_, ?_, rfl, fun _ => trivial⟩
      rw [run_convert_bytes_string w src dst el _ n c hs (J0t he) hd]
      exact run_bytes_al R hxs c
    · cases e
  · rename_i el h o n z hs hd
    split at e
    · rename_i he
      obtain ⟨xs, hxs, rfl⟩ := Option.map_eq_some_iff.1 e
      obtain ⟨c, o', rfl, hnc, hco⟩ := hx
      refine ⟨_, ?_, rfl, fun _ => trivial⟩
      rw [run_convert_bytes_string w src dst el _ n c hs (J0t he) hd]
      rcases hco with ⟨h0, _⟩ | ⟨rfl, _⟩
      · subst h0
        have hn : n = 0 := by omega
        subst hn
        have hx0 : xs = [] := by
          simp only [abytes] at hxs
          split at hxs
          · split at hxs
            · cases hxs
            · split at hxs
              · simpa [aints] using hxs.symm
              · cases hxs
          · cases hxs
        subst hx0
        simp [Conv.bytesToString, loadCells, loadCellsFrom]
        rfl
      · exact run_bytes_al R hxs c
    · cases e
  · rename_i el n cs hs hd
    split at e
    · rename_i he
      split at e
      · rename_i hlen
        obtain ⟨xs, hxs, rfl⟩ := Option.map_eq_some_iff.1 e
        obtain ⟨a, c, rfl, hnc, hac, hfz⟩ := hx
        refine ⟨_, ?_, rfl, fun _ => trivial⟩
        rcases hfz with h0 | ⟨x, rfl, hf⟩
        · subst h0
          have hc0 : cs = [] := List.eq_nil_of_length_eq_zero hlen
          subst hc0
          have hx0 : xs = [] := by simpa [aints] using hxs.symm
          subst hx0
          cases a with
          | none => exact run_convert_bytes_nil w src el hs (J0t he) 0 c dst hd
          | some x =>
            rw [run_convert_bytes_string w src dst el _ 0 c hs (J0t he) hd]
            simp [Conv.bytesToString, loadCells, loadCellsFrom]
            rfl
        · rw [run_convert_bytes_string w src dst el _ n c hs (J0t he) hd]
          exact run_bytes_fz R hxs hlen hf c
      · cases e
    · cases e
  · cases e
def Va (P : Program) (x : AV) (asserted : TypeId) (commaOk : Bool) : Option AV :=
  let fails : Option AV := if commaOk then (Z2 P asserted).map fun z => .tup [z, .bool false] else none
  let holds (v : AV) : Option AV := some (if commaOk then .tup [v, .bool true] else v)
  match P.underlying asserted, x with
  | some (.interface _), .nilI => fails
  | some (.interface want), .ifc t v =>
    match P.info? t with
    | some i => if (Instr.missingMethod want i.methods).isNone then holds (.ifc t v) else fails
    | none => none
  | some _, .nilI => fails
  | some _, .ifc t v => if t = asserted then holds v else fails
  | _, _ => none
theorem run_atypeAssert {P : Program} {β : Env} {N : Nat} {x v : AV} {xType asserted : TypeId} {ok : Bool} {u : Value} (e : Va P x asserted ok = some v) (hx : VR β x u) (hl : x.lt N) (w : World) :
    ∃ r, (Instr.typeAssert u xType asserted ok).run P w = .ok r w ∧ VR β v r ∧ v.lt N := by
  have hz : ∀ z, Z2 P asserted = some z → ∃ i zv, P.info? asserted = some i ∧ i.zero = some zv ∧ z = ofValue zv := by
    intro z h
    unfold Z2 at h
    obtain ⟨i, hi, h2⟩ := Option.bind_eq_some_iff.1 h
    obtain ⟨zv, h3, h4⟩ := Option.map_eq_some_iff.1 h2
    exact ⟨i, zv, hi, h3, h4.symm⟩
  have two : ∀ (a b : AV) (p q : Value), VR β a p → VR β b q → VR β (.tup [a, b]) (.tuple #[p, q]) := by
    intro a b p q h1 h2
    simp only [VR]
    exact ⟨_, rfl, by simp only [VRs]; exact ⟨p, [q], rfl, h1, q, [], rfl, h2, rfl⟩⟩
  have hf : ∀ s d m, (if ok then (Z2 P asserted).map (fun z => AV.tup [z, .bool false]) else none) = some v →
      ∃ r, ((if ok = true then (do let z ← zeroValue asserted; pure (Value.tuple #[z, .bool false])) else runtimePanic (.typeAssertion s d asserted m) : Sem Value)).run P w = .ok r w ∧ VR β v r ∧ v.lt N := by
    intro s d m h
    split at h
    · rename_i hok
      obtain ⟨z, hz1, rfl⟩ := Option.map_eq_some_iff.1 h
      obtain ⟨i, zv, hi, hzv, rfl⟩ := hz z hz1
      refine ⟨.tuple #[zv, .bool false], ?_, two _ _ _ _ (ofValue_VR β zv) rfl, ?_⟩
      · rw [if_pos hok]
        simp [zeroValue, typeInfo, hi, hzv]
      · simp only [AV.lt, AV.lts]; exact ⟨G0 N zv, trivial, trivial⟩
    · cases h
  unfold Va at e
  simp only at e
  split at e <;> (try simp only [VR] at hx)
  · rename_i ms ht
    subst hx
    obtain ⟨r, h1, h2, h3⟩ := hf none none "" e
    refine ⟨r, ?_, h2, h3⟩
    rw [← h1]
    simp [Instr.typeAssert, run_underlying ht]
  · rename_i want t y ht
    obtain ⟨yv, rfl, hy⟩ := hx
    split at e
    · rename_i i hi
      split at e
      · rename_i hm
        cases e
        have hm' : Instr.missingMethod want i.methods = none := by simpa using hm
        cases ok
        · refine ⟨.iface t yv, ?_, ?_, hl⟩
          · simp [Instr.typeAssert, run_underlying ht, typeInfo, hi, hm']
          · simp only [VR, Bool.false_eq_true, if_false]; exact ⟨yv, rfl, hy⟩
        · refine ⟨.tuple #[.iface t yv, .bool true], ?_, ?_, ?_⟩
          · simp [Instr.typeAssert, run_underlying ht, typeInfo, hi, hm']
          · simp only [if_true]; exact two _ _ _ _ (by simp only [VR]; exact ⟨yv, rfl, hy⟩) rfl
          · simp only [if_true, AV.lt, AV.lts]; exact ⟨by simpa only [AV.lt] using hl, trivial, trivial⟩
      · rename_i hm
        have hm' : ∃ m, Instr.missingMethod want i.methods = some m := by
          cases h : Instr.missingMethod want i.methods with
          | none => simp [h] at hm
          | some m => exact ⟨m, rfl⟩
        obtain ⟨m, hm'⟩ := hm'
        obtain ⟨r, h1, h2, h3⟩ := hf none (some t) m e
        refine ⟨r, ?_, h2, h3⟩
        rw [← h1]
        simp [Instr.typeAssert, run_underlying ht, typeInfo, hi, hm']
    · cases e
  · rename_i d hni ht
    subst hx
    obtain ⟨r, h1, h2, h3⟩ := hf (some xType) none "" e
    refine ⟨r, ?_, h2, h3⟩
    rw [← h1]
    simp only [Instr.typeAssert, Sem.run_bind, run_underlying ht, Result.andThen_ok]
    all_goals (cases d <;> first | exact absurd rfl (hni _) | simp)
  · rename_i d t y hni ht
    obtain ⟨yv, rfl, hy⟩ := hx
    split at e
    · rename_i hta
      cases e
      cases ok
      · refine ⟨yv, ?_, by simpa using hy, by simp only [Bool.false_eq_true, if_false]; simpa only [AV.lt] using hl⟩
        simp only [Instr.typeAssert, Sem.run_bind, run_underlying ht, Result.andThen_ok]
        cases d <;> first | exact absurd rfl (hni _) | simp [hta]
      · refine ⟨.tuple #[yv, .bool true], ?_, by simp only [if_true]; exact two _ _ _ _ hy rfl, ?_⟩
        · simp only [Instr.typeAssert, Sem.run_bind, run_underlying ht, Result.andThen_ok]
          cases d <;> first | exact absurd rfl (hni _) | simp [hta]
        · simp only [if_true, AV.lt, AV.lts]; exact ⟨by simpa only [AV.lt] using hl, trivial, trivial⟩
    · rename_i hta
      obtain ⟨r, h1, h2, h3⟩ := hf (some xType) (some t) "" e
      refine ⟨r, ?_, h2, h3⟩
      rw [← h1]
      simp only [Instr.typeAssert, Sem.run_bind, run_underlying ht, Result.andThen_ok]
      cases d <;> first | exact absurd rfl (hni _) | simp [hta]
  · cases e
end Go.AL
namespace Go.AL
open Go.RowKit
def amin2 (mx : Bool) : AV → AV → Option AV
  | .int k x, .int _ y => some (.int k (if mx then (if x < y then y else x) else (if y < x then y else x)))
  | _, _ => none
def aminl (mx : Bool) : AV → List AV → Option AV
  | x, [] => some x
  | x, y :: l => match amin2 mx x y with | some z => aminl mx z l | none => none
def AV.isInt : AV → Bool
  | .int _ _ => true
  | _ => false
theorem AV.isInt_eq {x : AV} (h : x.isInt = true) : ∃ k n, x = .int k n := by
  cases x <;> simp [AV.isInt] at h
  exact ⟨_, _, rfl⟩
def Qn (P : Program) (b : Builtin) (tys : Array TypeId) (args : List AV) : Option AV :=
  match b, args with
  | .len, [x] =>
    match tys[0]? with
    | none => none
    | some t =>
      match P.underlying t, x with
      | some .string, .str s => some (.int .i64 s.size)
      | some (.array n _), _ => some (.int .i64 n)
      | some (.slice _), .nilS => some (.int .i64 0)
      | some (.slice _), .sl _ _ n _ => some (.int .i64 n)
      | some (.slice _), .sg _ _ n _ => some (.int .i64 n)
      | some (.slice _), .fz n _ => some (.int .i64 n)
      | some (.pointer arr), _ => match P.underlying arr with
        | some (.array n _) => some (.int .i64 n)
        | _ => none
      | _, _ => none
  | .cap, [x] =>
    match tys[0]? with
    | none => none
    | some t =>
      match P.underlying t, x with
      | some (.slice _), .nilS => some (.int .i64 0)
      | some (.slice _), .sl _ _ _ c => some (.int .i64 c)
      | _, _ => none
  | .min, x :: l => if x.isInt then aminl false x l else none
  | .max, x :: l => if x.isInt then aminl true x l else none
  | _, _ => none
theorem run_aminl {P : Program} {β : Env} (mx : Bool) : ∀ (l : List AV) (x v : AV) (u : Value) (us : List Value), aminl mx x l = some v → (∃ k n, x = .int k n) → VR β x u → VRs β l us → ∀ w,
    ∃ r, (us.foldlM (if mx then Builtin.max2 else Builtin.min2) u).run P w = .ok r w ∧ VR β v r ∧ ∀ n, v.lt n
  | [], x, v, u, us, h, ⟨k, n, hx⟩, hu, hus, w => by
    simp only [aminl] at h
    cases h
    simp only [VRs] at hus
    subst hus; subst hx
    exact ⟨u, by simp, hu, fun _ => trivial⟩
  | y :: l, x, v, u, us, h, ⟨k, n, hx⟩, hu, hus, w => by
    subst hx
    simp only [aminl] at h
    simp only [VRs] at hus
    obtain ⟨yv, ys, rfl, hy, hys⟩ := hus
    split at h
    · rename_i z hz
      unfold amin2 at hz
      split at hz
      · rename_i k' a k'' b heq
        cases heq
        cases hz
        simp only [VR] at hu hy
        subst hu; subst hy
        have ih := run_aminl (P := P) (β := β) mx l (.int k (if mx then (if n < b then b else n) else (if b < n then b else n))) v (.int k (if mx then (if n < b then b else n) else (if b < n then b else n))) ys h ⟨_, _, rfl⟩ rfl hys w
        obtain ⟨r, h1, h2, h3⟩ := ih
        refine ⟨r, ?_, h2, h3⟩
        rw [← h1]
        cases mx <;> simp [Builtin.max2, Builtin.min2]
      · cases hz
    · cases h
theorem run_abuiltin {P : Program} {β : Env} {b : Builtin} {tys : Array TypeId} {ty : TypeId} {cs : Array Bool} {args : List AV} {v : AV} {us : Array Value} (e : Qn P b tys args = some v) (hx : VRs β args us.toList) (w : World) :
    ∃ r, (builtin b tys ty cs us).run P w = .ok (.value r) w ∧ VR β v r ∧ ∀ n, v.lt n := by
  obtain ⟨us⟩ := us
  simp only at hx
  unfold Qn at e
  split at e
  · rename_i x
    simp only [VRs] at hx
    obtain ⟨u, us', rfl, hu, rfl⟩ := hx
    split at e
    · cases e
    · rename_i t ht
      split at e <;> rename_i hd <;> (try simp only [VR] at hu)
      · cases e; subst hu; exact ⟨goInt _, by simp [builtin, Builtin.len_, ht, run_underlying hd], rfl, fun _ => trivial⟩
      · cases e; exact ⟨goInt _, by simp [builtin, Builtin.len_, ht, run_underlying hd], rfl, fun _ => trivial⟩
      · cases e; subst hu; exact ⟨goInt 0, by simp [builtin, Builtin.len_, ht, run_underlying hd], rfl, fun _ => trivial⟩
      · cases e; subst hu; exact ⟨goInt _, by simp [builtin, Builtin.len_, ht, run_underlying hd], rfl, fun _ => trivial⟩
      · cases e; obtain ⟨c, o', rfl, _⟩ := hu; exact ⟨goInt _, by simp [builtin, Builtin.len_, ht, run_underlying hd], rfl, fun _ => trivial⟩
      · cases e; obtain ⟨a, c, rfl, _⟩ := hu; exact ⟨goInt _, by simp [builtin, Builtin.len_, ht, run_underlying hd], rfl, fun _ => trivial⟩
      · split at e
        · rename_i n el hn; cases e; exact ⟨goInt _, by simp [builtin, Builtin.len_, ht, run_underlying hd, run_underlying hn], rfl, fun _ => trivial⟩
        · cases e
      · cases e
  · rename_i x
    simp only [VRs] at hx
    obtain ⟨u, us', rfl, hu, rfl⟩ := hx
    split at e
    · cases e
    · rename_i t ht
      split at e <;> rename_i hd <;> (try simp only [VR] at hu)
      · cases e; subst hu; exact ⟨goInt 0, by simp [builtin, Builtin.cap_, ht, run_underlying hd], rfl, fun _ => trivial⟩
      · cases e; subst hu; exact ⟨goInt _, by simp [builtin, Builtin.cap_, ht, run_underlying hd], rfl, fun _ => trivial⟩
      · cases e
  · rename_i x l
    split at e
    · rename_i hk
      simp only [VRs] at hx
      obtain ⟨u, us', rfl, hu, hus⟩ := hx
      have hk' := AV.isInt_eq hk
      obtain ⟨r, h1, h2, h3⟩ := run_aminl (P := P) false l x v u us' e hk' hu hus w
      refine ⟨r, ?_, h2, h3⟩
      simp only [Bool.false_eq_true, if_false] at h1
      simp [builtin, Builtin.min_, h1]
    · cases e
  · rename_i x l
    split at e
    · rename_i hk
      simp only [VRs] at hx
      obtain ⟨u, us', rfl, hu, hus⟩ := hx
      have hk' := AV.isInt_eq hk
      obtain ⟨r, h1, h2, h3⟩ := run_aminl (P := P) true l x v u us' e hk' hu hus w
      refine ⟨r, ?_, h2, h3⟩
      simp only [if_true] at h1
      simp [builtin, Builtin.max_, h1]
    · cases e
  · cases e
def AV.solid : AV → Bool
  | .agg cs => cs.all AV.one
  | v => v.one
theorem AV.solid_or {x : AV} (h : x.solid = true) : x.one = true ∨ ∃ cs, x = .agg cs := by
  cases x <;> simp [AV.solid, AV.one] at h ⊢
def Q2 (cs : List AV) (o : Nat) (ds : List AV) : List AV := cs.take o ++ ds ++ cs.drop (o + ds.length)
def Q7 (place : Nat → Option (Nat × Nat)) (cells : List AV) : List (Nat × AV) → Option (List AV)
  | [] => some cells
  | (i, v) :: rest =>
    match place i with
    | none => none
    | some (off, size) =>
      if v.solid = true ∧ v.cells.length = size ∧ off + size ≤ cells.length then Q7 place (Q2 cells off v.cells) rest else none
theorem foldl_splice : ∀ (vs : List Value) (k : Nat) (cs : Array Value) (off : Nat), off + k + vs.length ≤ cs.size →
    ((vs.zipIdx k).foldl (fun cs (c, j) => cs.setIfInBounds (off + j) c) cs).toList = cs.toList.take (off + k) ++ vs ++ cs.toList.drop (off + k + vs.length)
  | [], k, cs, off, h => by simp
  | v :: vs, k, cs, off, h => by
    simp only [List.length_cons] at h
    simp only [List.zipIdx_cons, List.foldl_cons]
    rw [foldl_splice vs (k + 1) _ off (by simp; omega)]
    simp only [Array.toList_setIfInBounds, List.length_cons]
    rw [show off + (k + 1) = off + k + 1 by omega, List.take_add_one]
    have h1 : (cs.toList.set (off + k) v)[off + k]? = some v := by
      rw [List.getElem?_set_self (by simp; omega)]
    rw [h1, List.take_set, List.drop_set, if_pos (by omega)]
    have h2 : (List.take (off + k) cs.toList).set (off + k) v = List.take (off + k) cs.toList := by
      rw [List.set_eq_of_length_le (by simp; omega)]
    rw [h2]
    simp [List.append_assoc]
    congr 1
    omega
theorem run_afill {β : Env} (place : Nat → Option (Nat × Nat)) : ∀ (parts : List (Nat × AV)) (us : List (Nat × Value)) (cells : List AV) (vs : Array Value) (r : List AV), Q7 place cells parts = some r →
    parts.length = us.length → (∀ (i : Nat) p q, parts[i]? = some p → us[i]? = some q → p.1 = q.1 ∧ VR β p.2 q.2) → VRs β cells vs.toList → ∃ ws : Array Value, Instr.fill place vs us = some ws ∧ VRs β r ws.toList
  | [], [], cells, vs, r, h, _, _, hv => by simp [Q7] at h; subst h; exact ⟨vs, rfl, hv⟩
  | [], _ :: _, _, _, _, _, hl, _, _ => by simp at hl
  | _ :: _, [], _, _, _, _, hl, _, _ => by simp at hl
  | (i, v) :: rest, (j, u) :: us, cells, vs, r, h, hl, hp, hv => by
    have h0 := hp 0 (i, v) (j, u) rfl rfl
    simp only at h0
    obtain ⟨rfl, hvu⟩ := h0
    simp only [Q7] at h
    split at h
    · cases h
    · rename_i off size hpl
      split at h
      · rename_i hc
        obtain ⟨hso, hsz, hle⟩ := hc
        have hcells := VR_cells hvu (AV.solid_or hso)
        have hcl : u.cells.size = size := by
          have := Y4 hcells
          rw [Array.length_toList] at this
          omega
        have hvl : vs.size = cells.length := by
          have := Y4 hv
          rwa [Array.length_toList] at this
        have hnew : VRs β (Q2 cells off v.cells) ((u.cells.zipIdx).foldl (fun cs (c, j) => cs.setIfInBounds (off + j) c) vs).toList := by
          rw [← Array.foldl_toList, Array.toList_zipIdx]
          have hf := foldl_splice u.cells.toList 0 vs off (by simp; omega)
          simp only [Nat.add_zero] at hf
          rw [hf]
          unfold Q2
          have hlen : u.cells.toList.length = v.cells.length := Y4 hcells
          rw [hlen]
          exact Wv (Wv (VRs_take hv off) hcells) (VRs_drop hv _)
        obtain ⟨ws, h1, h2⟩ := run_afill place rest us _ _ r h (by simpa using hl) (fun k p q hpk hqk => hp (k + 1) p q (by simpa using hpk) (by simpa using hqk)) hnew
        refine ⟨ws, ?_, h2⟩
        simp only [Instr.fill, hpl]
        rw [if_neg (by simp; omega)]
        exact h1
      · cases h
theorem afill_lts {n : Nat} (place : Nat → Option (Nat × Nat)) : ∀ (parts : List (Nat × AV)) (cells r : List AV), Q7 place cells parts = some r → AV.lts n cells → (∀ p ∈ parts, p.2.lt n) → AV.lts n r
  | [], cells, r, h, hc, _ => by simp [Q7] at h; subst h; exact hc
  | (i, v) :: rest, cells, r, h, hc, hp => by
    simp only [Q7] at h
    split at h
    · cases h
    · split at h
      · refine afill_lts place rest _ r h ?_ (fun p hm => hp p (List.mem_cons_of_mem _ hm))
        have hv := hp (i, v) (List.mem_cons_self ..)
        rw [AV.lts_iff] at hc ⊢
        intro c hm
        unfold Q2 at hm
        rcases List.mem_append.1 hm with hm | hm
        · rcases List.mem_append.1 hm with hm | hm
          · exact hc c (List.mem_of_mem_take hm)
          · cases v <;> simp only [AV.cells, List.mem_singleton] at hm <;> (try subst hm; exact hv)
            simp only [AV.lt, AV.lts_iff] at hv
            exact hv c hm
        · exact hc c (List.mem_of_mem_drop hm)
      · cases h
def G1 (P : Program) (t : TypeId) : Option (Nat → Option (Nat × Nat)) :=
  match P.underlying t with
  | some (.struct fs) => (fs.toList.mapM fun f => (Xf P f.type).map fun n => (f.offset, n)).map fun l => fun i => l[i]?
  | some (.array _ e) => (Xf P e).map fun z => fun i => some (i * z, z)
  | _ => none
def Yh (P : Program) (t : TypeId) (parts : List (Nat × AV)) : Option AV :=
  match Z2 P t, G1 P t with
  | some z, some pl => (Q7 pl z.cells parts).map .agg
  | _, _ => none
theorem run_mapM_sizes {P : Program} : ∀ (fs : List Field) (l : List (Nat × Nat)), (fs.mapM fun f => (Xf P f.type).map fun n => (f.offset, n)) = some l → ∀ w,
    (fs.mapM (m := Sem) fun f => do pure (f.offset, ← sizeOf f.type)).run P w = .ok l w
  | [], l, h, w => by simp at h; subst h; simp
  | f :: fs, l, h, w => by
    simp only [List.mapM_cons, Option.bind_eq_bind, Option.bind_eq_some_iff, Option.map_eq_some_iff, Option.pure_def, Option.some.injEq] at h
    obtain ⟨p, ⟨n, hn, rfl⟩, l', hl', rfl⟩ := h
    have ih := run_mapM_sizes fs l' hl' w
    simp only [List.mapM_cons, Sem.run_bind, Za hn, Result.andThen_ok, Sem.run_pure, ih]
theorem Ro {P : Program} {β : Env} {t : TypeId} {z : AV} (h : Z2 P t = some z) : ∃ i v, P.info? t = some i ∧ i.zero = some v ∧ VR β z v ∧ z = ofValue v := by
  unfold Z2 at h
  obtain ⟨i, hi, h2⟩ := Option.bind_eq_some_iff.1 h
  obtain ⟨zv, h3, h4⟩ := Option.map_eq_some_iff.1 h2
  subst h4
  exact ⟨i, zv, hi, h3, ofValue_VR β zv, rfl⟩
theorem Wf (β : Env) (v : Value) : VRs β (ofValue v).cells v.cells.toList := by
  unfold ofValue
  split
  · exact ofAtoms_VRs β _
  · simp only [AV.cells, Value.cells, VRs, VR]
    exact ⟨_, [], rfl, ⟨_, rfl, J1k β _⟩, rfl⟩
  · rename_i h1 h2
    have e : (Ju v).cells = [Ju v] := by
      unfold Ju
      split <;> rfl
    have e' : v.cells = #[v] := by
      cases v <;> first | rfl | exact absurd rfl (h1 _)
    rw [e, e']
    simp only [VRs]
    exact ⟨v, [], rfl, J1k β v, rfl⟩
theorem run_abuild {P : Program} {β : Env} {N : Nat} {t : TypeId} {parts : List (Nat × AV)} {v : AV} {us : Array (Nat × Value)} (e : Yh P t parts = some v) (hlen : parts.length = us.size)
    (hp : ∀ (i : Nat) p q, parts[i]? = some p → us[i]? = some q → p.1 = q.1 ∧ VR β p.2 q.2) (hl : ∀ p ∈ parts, p.2.lt N) (w : World) :
    ∃ r, (Instr.build t us).run P w = .ok r w ∧ VR β v r ∧ v.lt N := by
  unfold Yh at e
  split at e
  · rename_i z pl hz hpl
    obtain ⟨r, hr, rfl⟩ := Option.map_eq_some_iff.1 e
    obtain ⟨i, zv, hi, hzv, hzr, rfl⟩ := Ro (β := β) hz
    obtain ⟨ws, hf, hws⟩ := run_afill pl parts us.toList _ zv.cells r hr (by simpa using hlen) (fun k p q h1 h2 => hp k p q h1 (by simpa using h2)) (Wf β zv)
    refine ⟨.agg ws, ?_, ?_, ?_⟩
    · unfold G1 at hpl
      split at hpl
      · rename_i fs ht
        obtain ⟨l, hl', rfl⟩ := Option.map_eq_some_iff.1 hpl
        have hm := run_mapM_sizes fs.toList l hl' w
        have hm' : (fs.mapM (m := Sem) fun f => do pure (f.offset, ← sizeOf f.type)).run P w = .ok l.toArray w := by
          rw [← Array.toArray_toList (xs := fs)]
          simp only [List.mapM_toArray, Sem.run_map, hm, Result.andThen_ok]
        simp only [Instr.build, Sem.run_bind, zeroValue, typeInfo, run_program, Result.andThen_ok, hi, hzv, Sem.run_pure, run_underlying ht, hm']
        simp [hf]
      · rename_i n el ht
        obtain ⟨zn, hs, rfl⟩ := Option.map_eq_some_iff.1 hpl
        simp only [Instr.build, Sem.run_bind, zeroValue, typeInfo, run_program, Result.andThen_ok, hi, hzv, Sem.run_pure, run_underlying ht, Za hs]
        simp [hf]
      · cases hpl
    · simp only [VR]; exact ⟨ws, rfl, hws⟩
    · simp only [AV.lt]
      refine afill_lts pl parts _ r hr ?_ hl
      unfold ofValue
      split
      · exact ofAtoms_lts N _
      · simp only [AV.cells, AV.lts, AV.lt]; exact ⟨ofAtom_lt N _, trivial⟩
      · unfold Ju; split <;> simp [AV.cells, AV.lts, AV.lt]
  · cases e
end Go.AL

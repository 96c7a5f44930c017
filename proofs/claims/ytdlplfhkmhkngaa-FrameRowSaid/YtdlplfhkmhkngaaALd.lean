/- One operation that leaves the memory alone. -/
import Derived.Test.YtdlplfhkmhkngaaALc
set_option linter.unusedVariables false
set_option linter.unusedSimpArgs false
namespace Go.AL
open Go.RowKit

/-! ### Operators -/
def isConstOp : Operand → Bool
  | .const _ => true
  | _ => false

def aeqGuard (P : Program) (t : TypeId) (cx cy : Bool) : AV → AV → Bool
  | .nilI, .nilI => cx || cy
  | .agg _, .agg _ => !(P.eqGuardType P.depth t)
  | .int _ _, _ => true
  | .bool _, _ => true
  | .str _, _ => true
  | .nilP, _ => true
  | .ptr _ _, _ => true
  | .nilS, _ => true
  | .sl _ _ _ _, _ => true
  | .sg _ _ _ _, _ => true
  | .ifc _ _, _ => true
  | .nilI, .ifc _ _ => true
  | _, _ => false

def abin (P : Program) (op : BinOp) (t : TypeId) (cx cy : Bool) (x y : AV) : Option AV :=
  match x, y with
  | .int k a, .int k' b =>
    if op = .shl ∨ op = .shr then ashift op k a b
    else if k = k' then aint op k a b else none
  | .str a, .str b => astr op a b
  | x, y =>
    if aeqGuard P t cx cy x y then
      match op with
      | .eql => (aeqIn P Op.maxDepth t x y).map .bool
      | .neq => (aeqIn P Op.maxDepth t x y).map fun b => .bool (!b)
      | _ => none
    else none

theorem run_aint {P : Program} {op : BinOp} {t : TypeId} {k : IntKind} {a b : Int} {v : AV} (h : aint op k a b = some v) (w : World) (hs : ¬ (op = .shl ∨ op = .shr)) : ∃ x, (binOp op t (.int k a) (.int k b)).run P w = .ok x w ∧ (∀ β, VR β v x) ∧ ∀ n, v.lt n := by
  cases op <;> simp only [aint] at h
  case quo =>
    split at h
    · cases h
    · rename_i hb; cases h
      exact ⟨_, by simp [binOp_quo, Op.intDiv, hb], fun β => rfl, fun _ => trivial⟩
  case rem =>
    split at h
    · cases h
    · rename_i hb; cases h
      exact ⟨_, by simp [binOp_rem, Op.intDiv, hb], fun β => rfl, fun _ => trivial⟩
  case shl => simp at hs
  case shr => simp at hs
  all_goals first
    | (cases h; done)
    | (cases h; exact ⟨_, by simp [binOp_add, binOp_sub, binOp_mul, binOp_and, binOp_or, binOp_xor, binOp_andNot, binOp_eql, binOp_neq, binOp_lss, binOp_leq, binOp_gtr, binOp_geq, Op.intArith, intBits_and, intBits_or, intBits_xor, intBits_andNot], fun β => rfl, fun _ => trivial⟩)

theorem run_ashift {P : Program} {op : BinOp} {t : TypeId} {k k' : IntKind} {a b : Int} {v : AV} (h : ashift op k a b = some v) (w : World) : ∃ x, (binOp op t (.int k a) (.int k' b)).run P w = .ok x w ∧ (∀ β, VR β v x) ∧ ∀ n, v.lt n := by
  unfold ashift at h
  split at h
  · cases h
  · rename_i hb
    have hp : (0 : Int) ≤ 2 ^ min b.toNat k.bits := Int.pow_nonneg (by decide)
    cases op <;> simp only at h <;> cases h
    · exact ⟨_, by simp [binOp_shl, Op.shift, hb], fun β => rfl, fun _ => trivial⟩
    · exact ⟨_, by simp [binOp_shr, Op.shift, hb, Int.fdiv_eq_ediv_of_nonneg _ hp], fun β => rfl, fun _ => trivial⟩

theorem run_astr {P : Program} {op : BinOp} {t : TypeId} {a b : ByteArray} {v : AV} (h : astr op a b = some v) (w : World) : ∃ x, (binOp op t (.string a) (.string b)).run P w = .ok x w ∧ (∀ β, VR β v x) ∧ ∀ n, v.lt n := by
  cases op <;> simp only [astr] at h
  case add =>
    split at h
    · rename_i hb; cases h
      refine ⟨_, ?_, fun β => rfl, fun _ => trivial⟩
      have : ¬ (((a.size + b.size : Nat) : Int) > IntKind.i64.max) := by
        have e : IntKind.i64.max = 9223372036854775807 := by decide
        rw [e]; omega
      simp only [binOp, Op.stringOp, this, if_false, Sem.run_pure]
    · cases h
  all_goals first
    | (cases h; done)
    | (cases h; exact ⟨_, by simp [binOp, Op.stringOp], fun β => rfl, fun _ => trivial⟩)

theorem run_aeqGuard {P : Program} {β : Nat → Bx} {op : BinOp} {t : TypeId} {ox oy : Operand} {x y : AV} {u v : Value} (h : aeqGuard P t (isConstOp ox) (isConstOp oy) x y = true) (hx : VR β x u) (hy : VR β y v) (w : World) :
    (eqGuard op t ox oy u v).run P w = .ok () w := by
  unfold aeqGuard at h
  split at h <;> (try simp only [VR] at hx hy)
  · subst hx; subst hy
    rcases Bool.or_eq_true_iff.1 h with h | h
    · cases ox <;> simp [isConstOp] at h; rw [eqGuard_nil_constL]; rfl
    · cases oy <;> simp [isConstOp] at h; rw [eqGuard_nil_constR]; rfl
  · obtain ⟨us, rfl, _⟩ := hx
    obtain ⟨vs, rfl, _⟩ := hy
    exact run_eqGuard_agg w op t ox oy us vs (by simpa using h)
  · subst hx; rw [eqGuard_at_int]; rfl
  · subst hx; rw [eqGuard_at_bool]; rfl
  · subst hx; rw [eqGuard_at_string]; rfl
  · subst hx; rw [eqGuard_at_pointer]; rfl
  · subst hx; rw [eqGuard_at_pointer]; rfl
  · subst hx; rw [eqGuard_at_slice]; rfl
  · subst hx; rw [eqGuard_at_slice]; rfl
  · obtain ⟨c, o', rfl, _⟩ := hx; rw [eqGuard_at_slice]; rfl
  · obtain ⟨c, rfl, _⟩ := hx; rw [eqGuard_at_iface]; rfl
  · obtain ⟨c, rfl, _⟩ := hy; subst hx; rw [eqGuard_nil_iface]; rfl
  · cases h

/-- Values that '==' compares by what stands in them: no whole numbers, no strings. -/
theorem run_binOp_eq {P : Program} {β : Nat → Bx} {t : TypeId} {x y : AV} {u v : Value} {b : Bool} (hi : ∀ k a k' b, ¬ (x = .int k a ∧ y = .int k' b)) (hs : ∀ a b, ¬ (x = .str a ∧ y = .str b))
    (h : aeqIn P Op.maxDepth t x y = some b) (hx : VR β x u) (hy : VR β y v) (w : World) :
    (binOp .eql t u v).run P w = .ok (.bool b) w ∧ (binOp .neq t u v).run P w = .ok (.bool (!b)) w := by
  have he := run_equalIn (P := P) Op.maxDepth t x y u v b h hx hy w
  have key : ∀ op, (op = BinOp.eql ∨ op = .neq) → binOp op t u v = (match op with | .eql => (do pure (.bool (← Op.equal t u v)) : Sem Value) | _ => do pure (.bool (!(← Op.equal t u v)))) := by
    intro op ho
    have hd : Op.maxDepth = 9999 + 1 := rfl
    rw [hd] at h
    unfold aeqIn at h
    split at h <;> (try simp only [VR] at hx hy)
    case h_2 => exact absurd ⟨rfl, rfl⟩ (hi _ _ _ _)
    case h_3 => exact absurd ⟨rfl, rfl⟩ (hs _ _)
    case h_18 => cases h
    all_goals first
      | (subst hx; subst hy; rcases ho with rfl | rfl <;> rfl)
      | (obtain ⟨c, o', rfl, _⟩ := hx; subst hy; rcases ho with rfl | rfl <;> rfl)
      | (obtain ⟨c, o', rfl, _⟩ := hy; subst hx; rcases ho with rfl | rfl <;> rfl)
      | (obtain ⟨c, rfl, _⟩ := hx; subst hy; rcases ho with rfl | rfl <;> rfl)
      | (obtain ⟨c, rfl, _⟩ := hy; subst hx; rcases ho with rfl | rfl <;> rfl)
      | (obtain ⟨c, rfl, _⟩ := hx; obtain ⟨d, rfl, _⟩ := hy; rcases ho with rfl | rfl <;> rfl)
  constructor
  · rw [key .eql (.inl rfl)]
    simp only [Op.equal, Sem.run_bind, he, Result.andThen_ok, Sem.run_pure]
  · rw [key .neq (.inr rfl)]
    simp only [Op.equal, Sem.run_bind, he, Result.andThen_ok, Sem.run_pure]

theorem run_abin {P : Program} {β : Nat → Bx} {op : BinOp} {t : TypeId} {ox oy : Operand} {x y v : AV} {u z : Value} (h : abin P op t (isConstOp ox) (isConstOp oy) x y = some v) (hx : VR β x u) (hy : VR β y z) (w : World) :
    ∃ r, (do eqGuard op t ox oy u z; binOp op t u z : Sem Value).run P w = .ok r w ∧ VR β v r ∧ ∀ n, v.lt n := by
  unfold abin at h
  split at h
  · rename_i k a k' b
    simp only [VR] at hx hy
    subst hx; subst hy
    simp only [eqGuard_at_int, Sem.run_bind, Sem.run_pure, Result.andThen_ok]
    split at h
    · obtain ⟨r, h1, h2, h3⟩ := run_ashift (P := P) (t := t) (k' := k') h w
      exact ⟨r, h1, h2 β, h3⟩
    · rename_i hns
      split at h
      · rename_i hk
        subst hk
        obtain ⟨r, h1, h2, h3⟩ := run_aint (P := P) (t := t) h w hns
        exact ⟨r, h1, h2 β, h3⟩
      · cases h
  · rename_i a b
    simp only [VR] at hx hy
    subst hx; subst hy
    simp only [eqGuard_at_string, Sem.run_bind, Sem.run_pure, Result.andThen_ok]
    obtain ⟨r, h1, h2, h3⟩ := run_astr (P := P) (t := t) h w
    exact ⟨r, h1, h2 β, h3⟩
  · rename_i hni hns
    split at h
    · rename_i hg
      have hgr := run_aeqGuard (op := op) hg hx hy w
      simp only [Sem.run_bind, hgr, Result.andThen_ok]
      split at h
      · obtain ⟨b, hb, rfl⟩ := Option.map_eq_some_iff.1 h
        have := run_binOp_eq (fun k a k' b hh => hni k a k' b hh.1 hh.2) (fun a b hh => hns a b hh.1 hh.2) hb hx hy w
        exact ⟨_, this.1, rfl, fun _ => trivial⟩
      · obtain ⟨b, hb, rfl⟩ := Option.map_eq_some_iff.1 h
        have := run_binOp_eq (fun k a k' b hh => hni k a k' b hh.1 hh.2) (fun a b hh => hns a b hh.1 hh.2) hb hx hy w
        exact ⟨_, this.2, rfl, fun _ => trivial⟩
      · cases h
    · cases h

def aun (op : UnOp) : AV → Option AV
  | .int k n =>
    match op with
    | .neg => some (.int k (k.wrap (0 - n)))
    | .xor => some (.int k (bits .xor k (if k.signed then -1 else k.max) n))
    | _ => none
  | .bool b => match op with
    | .not => some (.bool (!b))
    | _ => none
  | _ => none

theorem run_aun {P : Program} {β : Nat → Bx} {op : UnOp} {x v : AV} {u : Value} (h : aun op x = some v) (hx : VR β x u) (w : World) : ∃ r, (Op.unary op u).run P w = .ok r w ∧ VR β v r ∧ ∀ n, v.lt n := by
  unfold aun at h
  split at h
  · simp only [VR] at hx
    subst hx
    cases op <;> simp only at h <;> cases h
    · exact ⟨_, by simp [Op.unary, Op.intArith], rfl, fun _ => trivial⟩
    · exact ⟨_, by simp [Op.unary, intBits_xor], rfl, fun _ => trivial⟩
  · simp only [VR] at hx
    subst hx
    cases op <;> simp only at h <;> cases h
    exact ⟨_, by simp [Op.unary], rfl, fun _ => trivial⟩
  · cases h

/-! ### Addresses -/
def aindexAddr (P : Program) (t : TypeId) (x i : AV) : Option AV :=
  match P.underlying t, x, i with
  | some (.slice e), .sl h o n _, .int _ j =>
    match sizeT P e with
    | some z => if 0 ≤ j ∧ j < (n : Int) then some (.ptr h (o + j.toNat * z)) else none
    | none => none
  | some (.slice e), .sg h o n _, .int _ j =>
    match sizeT P e with
    | some z => if 0 ≤ j ∧ j < (n : Int) then some (.ptr h (o + j.toNat * z)) else none
    | none => none
  | some (.array len e), .ptr h o, .int _ j =>
    match sizeT P e with
    | some z => if 0 ≤ j ∧ j < (len : Int) then some (.ptr h (o + j.toNat * z)) else none
    | none => none
  | _, _, _ => none

theorem run_aindexAddr {P : Program} {β : Nat → Bx} {N : Nat} {t : TypeId} {x i v : AV} {u k : Value} (h : aindexAddr P t x i = some v) (hx : VR β x u) (hl : x.lt N) (hi : VR β i k) (w : World) :
    ∃ r, (Instr.indexAt t u k).run P w = .ok r w ∧ VR β v r ∧ v.lt N := by
  unfold aindexAddr at h
  split at h
  · rename_i e h0 o n c k' j ht
    split at h
    · rename_i z hs
      split at h
      · rename_i hb
        cases h
        simp only [VR] at hx hi
        subst hx; subst hi
        refine ⟨.pointer (some (((β h0).addr.add o).add (j.toNat * z))), ?_, by simp only [VR, Addr.add_add], hl⟩
        simp [Instr.indexAt, run_underlying ht, asIntOf, run_sizeOf hs, hb]
      · cases h
    · cases h
  · rename_i e h0 o n c k' j ht
    split at h
    · rename_i z hs
      split at h
      · rename_i hb
        cases h
        simp only [VR] at hx hi
        obtain ⟨c, o', rfl, hnc, hco⟩ := hx
        subst hi
        have ho : o' = o := by rcases hco with h1 | h1 <;> omega
        subst ho
        refine ⟨.pointer (some (((β h0).addr.add o').add (j.toNat * z))), ?_, by simp only [VR, Addr.add_add], hl⟩
        simp [Instr.indexAt, run_underlying ht, asIntOf, run_sizeOf hs, hb]
      · cases h
    · cases h
  · rename_i len e h0 o k' j ht
    split at h
    · rename_i z hs
      split at h
      · rename_i hb
        cases h
        simp only [VR] at hx hi
        subst hx; subst hi
        refine ⟨.pointer (some (((β h0).addr.add o).add (j.toNat * z))), ?_, by simp only [VR, Addr.add_add], hl⟩
        simp [Instr.indexAt, run_underlying ht, asIntOf, run_sizeOf hs, hb, Instr.sureAddr]
      · cases h
    · cases h
  · cases h

def afieldAddr (P : Program) (s : TypeId) (x : AV) (f : Nat) : Option AV :=
  match P.underlying s, x with
  | some (.struct fs), .ptr h o =>
    match fs[f]? with
    | some fl => match sizeT P fl.type with
      | some z => if z = 0 then none else some (.ptr h (o + fl.offset))
      | none => none
    | none => none
  | _, _ => none

theorem run_afieldAddr {P : Program} {β : Nat → Bx} {N : Nat} {s : TypeId} {x v : AV} {f : Nat} {u : Value} (h : afieldAddr P s x f = some v) (hx : VR β x u) (hl : x.lt N) (w : World) :
    ∃ r, (Instr.fieldAt s u f).run P w = .ok r w ∧ VR β v r ∧ v.lt N := by
  unfold afieldAddr at h
  split at h
  · rename_i fs h0 o ht
    split at h
    · rename_i fl hf
      split at h
      · rename_i z hs
        split at h
        · cases h
        · rename_i hz
          cases h
          simp only [VR] at hx
          subst hx
          refine ⟨.pointer (some (((β h0).addr.add o).add fl.offset)), ?_, by simp only [VR, Addr.add_add], hl⟩
          simp [Instr.fieldAt, run_underlying ht, hf, Instr.sureAddr, fieldPlace, run_sizeOf hs, hz]
      · cases h
    · cases h
  · cases h

def afield (P : Program) (s : TypeId) (x : AV) (f : Nat) : Option AV :=
  match P.underlying s, x with
  | some (.struct fs), .agg cs =>
    match fs[f]? with
    | some fl => apart P fl.type cs fl.offset
    | none => none
  | _, _ => none

theorem run_afield {P : Program} {β : Nat → Bx} {N : Nat} {s : TypeId} {x v : AV} {f : Nat} {u : Value} (h : afield P s x f = some v) (hx : VR β x u) (hl : x.lt N) (w : World) :
    ∃ r, (Instr.field s u f).run P w = .ok r w ∧ VR β v r ∧ v.lt N := by
  unfold afield at h
  split at h
  · rename_i fs cs ht
    split at h
    · rename_i fl hf
      simp only [VR] at hx
      obtain ⟨us, rfl, hus⟩ := hx
      obtain ⟨r, hr, hv⟩ := run_part h hus w
      refine ⟨r, ?_, hv, apart_lt h (by simpa only [AV.lt] using hl)⟩
      simp [Instr.field, run_underlying ht, hf, asAgg, hr]
    · cases h
  · cases h

def aindex (P : Program) (t : TypeId) (x i : AV) : Option AV :=
  match P.underlying t, x, i with
  | some (.array len e), .agg cs, .int _ j =>
    match sizeT P e with
    | some z => if 0 ≤ j ∧ j < (len : Int) then apart P e cs (j.toNat * z) else none
    | none => none
  | some .string, .str s, .int _ j => if 0 ≤ j then (s.data[j.toNat]?).map fun b => .int .u8 b.toNat else none
  | _, _, _ => none

theorem run_aindex {P : Program} {β : Nat → Bx} {N : Nat} {t : TypeId} {x i v : AV} {u k : Value} (h : aindex P t x i = some v) (hx : VR β x u) (hl : x.lt N) (hi : VR β i k) (w : World) :
    ∃ r, (Instr.index t u k).run P w = .ok r w ∧ VR β v r ∧ v.lt N := by
  unfold aindex at h
  split at h
  · rename_i len e cs k' j ht
    split at h
    · rename_i z hs
      split at h
      · rename_i hb
        simp only [VR] at hx hi
        obtain ⟨us, rfl, hus⟩ := hx
        subst hi
        obtain ⟨r, hr, hv⟩ := run_part h hus w
        refine ⟨r, ?_, hv, apart_lt h (by simpa only [AV.lt] using hl)⟩
        simp [Instr.index, run_underlying ht, asIntOf, run_sizeOf hs, hb, hr]
      · cases h
    · cases h
  · rename_i s k' j ht
    split at h
    · rename_i hj
      obtain ⟨b, hb, rfl⟩ := Option.map_eq_some_iff.1 h
      simp only [VR] at hx hi
      subst hx; subst hi
      have hb' : s[j.toNat]? = some b := by
        have hlt := (Array.getElem?_eq_some_iff.1 hb)
        obtain ⟨h1, h2⟩ := hlt
        have h1' : j.toNat < s.size := h1
        rw [getElem?_pos s j.toNat h1']
        exact congrArg some h2
      refine ⟨.int .u8 b.toNat, ?_, rfl, trivial⟩
      simp [Instr.index, run_underlying ht, asIntOf, hj, hb']
    · cases h
  · cases h

end Go.AL

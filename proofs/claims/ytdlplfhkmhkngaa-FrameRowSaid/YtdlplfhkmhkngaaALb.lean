/- The operations that leave the memory alone, on abstract values. -/
import Derived.Test.YtdlplfhkmhkngaaALa
import Derived.Laws.BytesArg
import Derived.Laws.Slices
import Derived.Laws.StructEq
set_option linter.unusedVariables false
set_option linter.unusedSimpArgs false
namespace Go.AL
open Go.RowKit

def ofAtom : Value → AV
  | .int k n => .int k n
  | .bool b => .bool b
  | .string s => .str s
  | .nilIface => .nilI
  | .pointer none => .nilP
  | .slice none 0 0 => .nilS
  | _ => .undef
def ofValue : Value → AV
  | .agg l => .agg (l.toList.map ofAtom)
  | .iface t v => .ifc t (ofAtom v)
  | v => ofAtom v

theorem ofAtom_VR (β : Nat → Bx) (v : Value) : VR β (ofAtom v) v := by
  unfold ofAtom; split <;> simp [VR]
theorem ofAtom_lt (n : Nat) (v : Value) : (ofAtom v).lt n := by
  unfold ofAtom; split <;> simp [AV.lt]
theorem ofAtoms_VRs (β : Nat → Bx) : ∀ l : List Value, VRs β (l.map ofAtom) l
  | [] => rfl
  | x :: l => by
    simp only [List.map_cons, VRs]
    exact ⟨x, l, rfl, ofAtom_VR β x, ofAtoms_VRs β l⟩
theorem ofAtoms_lts (n : Nat) (l : List Value) : AV.lts n (l.map ofAtom) := by
  rw [AV.lts_iff]
  intro c hc
  obtain ⟨v, _, rfl⟩ := List.mem_map.1 hc
  exact ofAtom_lt n v
theorem ofValue_VR (β : Nat → Bx) (v : Value) : VR β (ofValue v) v := by
  unfold ofValue
  split
  · simp only [VR]; exact ⟨_, rfl, ofAtoms_VRs β _⟩
  · simp only [VR]; exact ⟨_, rfl, ofAtom_VR β _⟩
  · exact ofAtom_VR β _
theorem ofValue_lt (n : Nat) (v : Value) : (ofValue v).lt n := by
  unfold ofValue
  split
  · simp only [AV.lt]; exact ofAtoms_lts n _
  · simp only [AV.lt]; exact ofAtom_lt n _
  · exact ofAtom_lt n _

def Fr.put (fr : Fr) (d : Option Tmp) (v : AV) : Fr :=
  match d with
  | some d => fun t => if t = d then v else fr t
  | none => fr

def ev (fr : Fr) : Operand → AV
  | .tmp t => fr t
  | .const v => ofValue v
  | .global _ => .undef
  | .func f => .fn f

/-- The frame holds what the abstract frame says. -/
def FR (β : Nat → Bx) (n : Nat) (fr : Fr) (tmps : Array Value) : Prop := ∀ t, VR β (fr t) (tmps.getD t Go.undef) ∧ (fr t).lt n

theorem ev_VR {β : Nat → Bx} {n : Nat} {fr : Fr} {a : Act} (F : FR β n fr a.tmps) (x : Operand) : VR β (ev fr x) (a.eval x) ∧ (ev fr x).lt n := by
  cases x with
  | tmp t => exact F t
  | const v => exact ⟨ofValue_VR β v, ofValue_lt n v⟩
  | global g => exact ⟨trivial, trivial⟩
  | func f => exact ⟨rfl, trivial⟩

theorem FR_congr {β β' : Nat → Bx} {n m : Nat} {fr : Fr} {tmps : Array Value} (F : FR β n fr tmps) (ag : Agree n β β') (hnm : n ≤ m) : FR β' m fr tmps :=
  fun t => ⟨VR_congr ag _ _ (F t).2 (F t).1, AV.lt_mono hnm _ (F t).2⟩

theorem FR_put {β : Nat → Bx} {n : Nat} {fr : Fr} {a : Act} {d : Option Tmp} (F : FR β n fr a.tmps) (hd : ∀ t, d = some t → t < a.tmps.size) {v : AV} {x : Value} (hv : VR β v x) (hl : v.lt n) :
    FR β n (fr.put d v) (a.put d x).tmps := by
  cases d with
  | none => exact F
  | some d =>
    intro t
    have hlt := hd d rfl
    simp only [Fr.put, Act.put]
    by_cases h : t = d
    · subst h
      rw [if_pos rfl]
      refine ⟨?_, hl⟩
      simp only [Array.getD_eq_getD_getElem?, Array.getElem?_setIfInBounds_self]
      rw [if_pos hlt]
      exact hv
    · rw [if_neg h]
      refine ⟨?_, (F t).2⟩
      have e : (a.tmps.setIfInBounds d x).getD t Go.undef = a.tmps.getD t Go.undef := by
        simp only [Array.getD_eq_getD_getElem?]
        rw [Array.getElem?_setIfInBounds_ne (by omega)]
      rw [e]
      exact (F t).1

/-! ### Types -/
def isAggT (P : Program) (t : TypeId) : Option Bool :=
  match P.underlying t with
  | some (.struct _) | some (.array _ _) => some true
  | some _ => some false
  | none => none
def sizeT (P : Program) (t : TypeId) : Option Nat := (P.info? t).map (·.size)
def bytesT (P : Program) (t : TypeId) : Option Nat := (P.info? t).map (·.bytes)
def zeroT (P : Program) (t : TypeId) : Option AV := (P.info? t).bind fun i => i.zero.map ofValue

theorem run_isAgg {P : Program} {t : TypeId} {b : Bool} (h : isAggT P t = some b) (w : World) : (isAgg t).run P w = .ok b w := by
  unfold isAggT at h
  split at h
  · rename_i fs hu; cases h; simp [isAgg, run_underlying hu]
  · rename_i n e hu; cases h; simp [isAgg, run_underlying hu]
  · rename_i d h1 h2 hu
    cases h
    simp only [isAgg, Sem.run_bind, run_underlying hu, Result.andThen_ok]
    cases d <;> first | rfl | exact absurd rfl (h1 _) | exact absurd rfl (h2 _ _)
  · cases h
theorem run_sizeOf {P : Program} {t : TypeId} {n : Nat} (h : sizeT P t = some n) (w : World) : (sizeOf t).run P w = .ok n w := by
  unfold sizeT at h
  obtain ⟨i, hi, rfl⟩ := Option.map_eq_some_iff.1 h
  simp [sizeOf, typeInfo, hi]

/-! ### Whole numbers, strings -/
def aint (op : BinOp) (k : IntKind) (a b : Int) : Option AV :=
  match op with
  | .add => some (.int k (k.wrap (a + b)))
  | .sub => some (.int k (k.wrap (a - b)))
  | .mul => some (.int k (k.wrap (a * b)))
  | .quo => if b = 0 then none else some (.int k (k.wrap (a.tdiv b)))
  | .rem => if b = 0 then none else some (.int k (a.tmod b))
  | .and => some (.int k (bits .and k a b))
  | .or => some (.int k (bits .or k a b))
  | .xor => some (.int k (bits .xor k a b))
  | .andNot => some (.int k (bits .andNot k a b))
  | .eql => some (.bool (a == b))
  | .neq => some (.bool (a != b))
  | .lss => some (.bool (decide (a < b)))
  | .leq => some (.bool (decide (a ≤ b)))
  | .gtr => some (.bool (decide (b < a)))
  | .geq => some (.bool (decide (b ≤ a)))
  | _ => none

def ashift (op : BinOp) (k : IntKind) (a b : Int) : Option AV :=
  if b < 0 then none else
  match op with
  | .shl => some (.int k (k.wrap (a * 2 ^ min b.toNat k.bits)))
  | .shr => some (.int k (a / 2 ^ min b.toNat k.bits))
  | _ => none

def astr (op : BinOp) (x y : ByteArray) : Option AV :=
  match op with
  | .add => if ((x.size + y.size : Nat) : Int) ≤ 9223372036854775807 then some (.str (x ++ y)) else none
  | .eql => some (.bool (x.toList == y.toList))
  | .neq => some (.bool (!(x.toList == y.toList)))
  | .lss => some (.bool (Op.bytesLess x.toList y.toList))
  | .geq => some (.bool (!(Op.bytesLess x.toList y.toList)))
  | _ => none

/-- A part of a struct or an array. -/
def apart (P : Program) (t : TypeId) (cs : List AV) (off : Nat) : Option AV :=
  match isAggT P t, sizeT P t with
  | some true, some n => some (.agg ((cs.drop off).take n))
  | some false, _ => cs[off]?
  | _, _ => none

theorem run_part {P : Program} {β : Nat → Bx} {t : TypeId} {cs : List AV} {l : Array Value} {off : Nat} {v : AV} (h : apart P t cs off = some v) (hl : VRs β cs l.toList) (w : World) :
    ∃ x, (part t l off).run P w = .ok x w ∧ VR β v x := by
  unfold apart at h
  split at h
  · rename_i n ha hs
    cases h
    refine ⟨.agg (l.extract off (off + n)), ?_, ?_⟩
    · simp [part, run_isAgg ha, run_sizeOf hs]
    · simp only [VR]
      refine ⟨_, rfl, ?_⟩
      have e : (l.extract off (off + n)).toList = (l.toList.drop off).take n := by
        rw [Array.toList_extract]
        simp [List.extract_eq_take_drop]
      rw [e]
      exact VRs_take (VRs_drop hl off) n
  · rename_i ha
    obtain ⟨x, hx, hv⟩ := VRs_get hl h
    refine ⟨x, ?_, hv⟩
    rw [Array.getElem?_toList] at hx
    simp [part, run_isAgg ha, hx]
  · cases h

theorem apart_lt {P : Program} {t : TypeId} {cs : List AV} {off n : Nat} {v : AV} (h : apart P t cs off = some v) (hl : AV.lts n cs) : v.lt n := by
  unfold apart at h
  rw [AV.lts_iff] at hl
  split at h
  · cases h
    simp only [AV.lt]
    rw [AV.lts_iff]
    exact fun c hc => hl c (List.mem_of_mem_drop (List.mem_of_mem_take hc))
  · exact hl v (List.mem_of_getElem? h)
  · cases h

/-- Are two values equal? -/
def aeqIn (P : Program) : Nat → TypeId → AV → AV → Option Bool
  | 0, _, _, _ => none
  | d + 1, t, x, y =>
    match P.underlying t, x, y with
    | some .bool, .bool a, .bool b => some (a == b)
    | some (.int _), .int k a, .int k' b => if k = k' then some (a == b) else none
    | some .string, .str a, .str b => some (a.toList == b.toList)
    | some (.pointer _), .nilP, .nilP => some true
    | some (.pointer _), .nilP, .ptr _ _ => some false
    | some (.pointer _), .ptr _ _, .nilP => some false
    | some (.interface _), .nilI, .nilI => some true
    | some (.interface _), .nilI, .ifc _ _ => some false
    | some (.interface _), .ifc _ _, .nilI => some false
    | some (.interface _), .ifc tx vx, .ifc ty vy =>
      if tx ≠ ty then some false else
      match (P.info? tx).map (·.comparable) with
      | some true => aeqIn P d tx vx vy
      | _ => none
    | some (.slice _), .nilS, .nilS => some true
    | some (.slice _), .nilS, .sl _ _ _ _ => some false
    | some (.slice _), .nilS, .sg _ _ _ _ => some false
    | some (.slice _), .sl _ _ _ _, .nilS => some false
    | some (.slice _), .sg _ _ _ _, .nilS => some false
    | some (.struct fs), .agg xs, .agg ys =>
      if P.stoodInHeld t then none else
      fs.toList.foldr (fun f r => if f.name = "_" then r else
        match apart P f.type xs f.offset, apart P f.type ys f.offset with
        | some a, some b => match aeqIn P d f.type a b, r with
          | some p, some q => some (p && q)
          | _, _ => none
        | _, _ => none) (some true)
    | some (.array len e), .agg xs, .agg ys =>
      match sizeT P e with
      | none => none
      | some n => (List.range len).foldr (fun i r =>
        match apart P e xs (i * n), apart P e ys (i * n) with
        | some a, some b => match aeqIn P d e a b, r with
          | some p, some q => some (p && q)
          | _, _ => none
        | _, _ => none) (some true)
    | _, _, _ => none

theorem run_eqFields {P : Program} {β : Nat → Bx} (d : Nat) (ih : ∀ (t : TypeId) (x y : AV) (u v : Value) (b : Bool), aeqIn P d t x y = some b → VR β x u → VR β y v → ∀ w, (Op.equalIn d t u v).run P w = .ok b w)
    (xs ys : List AV) (us vs : Array Value) (hx : VRs β xs us.toList) (hy : VRs β ys vs.toList) :
    ∀ (fs : List Field) (b : Bool), fs.foldr (fun f r => if f.name = "_" then r else
        match apart P f.type xs f.offset, apart P f.type ys f.offset with
        | some a, some b => match aeqIn P d f.type a b, r with
          | some p, some q => some (p && q)
          | _, _ => none
        | _, _ => none) (some true) = some b → ∀ w, (Op.eqFields d us vs fs).run P w = .ok b w
  | [], b, h, w => by simp at h; subst h; rfl
  | f :: fs, b, h, w => by
    simp only [List.foldr_cons] at h
    by_cases hn : f.name = "_"
    · rw [if_pos hn] at h
      have := run_eqFields d ih xs ys us vs hx hy fs b h w
      simp only [Op.eqFields, hn, ne_eq, not_true_eq_false, if_false]
      exact this
    · rw [if_neg hn] at h
      split at h
      · rename_i a b' ha hb
        split at h
        · rename_i p q hp hq
          cases h
          obtain ⟨u, hu, hua⟩ := run_part ha hx w
          obtain ⟨v, hv, hvb⟩ := run_part hb hy w
          have he := ih _ _ _ _ _ _ hp hua hvb w
          have hr := run_eqFields d ih xs ys us vs hx hy fs q hq w
          simp only [Op.eqFields, hn, ne_eq, not_false_eq_true, if_true, Sem.run_bind, hu, hv, Result.andThen_ok, he, Sem.run_ite, Sem.run_pure, hr]
          cases p <;> simp
        · cases h
      · cases h

theorem run_eqArr {P : Program} {β : Nat → Bx} (d : Nat) (ih : ∀ (t : TypeId) (x y : AV) (u v : Value) (b : Bool), aeqIn P d t x y = some b → VR β x u → VR β y v → ∀ w, (Op.equalIn d t u v).run P w = .ok b w)
    (e : TypeId) (n : Nat) (xs ys : List AV) (us vs : Array Value) (hx : VRs β xs us.toList) (hy : VRs β ys vs.toList) :
    ∀ (l : List Nat) (b : Bool), l.foldr (fun i r =>
        match apart P e xs (i * n), apart P e ys (i * n) with
        | some a, some b => match aeqIn P d e a b, r with
          | some p, some q => some (p && q)
          | _, _ => none
        | _, _ => none) (some true) = some b → ∀ w,
      (do
        let r ← forIn l ((none, ()) : Option Bool × Unit) fun i r => do
          let a ← part e us (i * n)
          let b ← part e vs (i * n)
          let c ← Op.equalIn d e a b
          if (!c) = true then pure (ForInStep.done (some false, ())) else pure (ForInStep.yield (none, ()))
        match r.fst with
        | some a => pure a
        | none => pure true : Sem Bool).run P w = .ok b w
  | [], b, h, w => by simp at h; subst h; simp
  | i :: l, b, h, w => by
    simp only [List.foldr_cons] at h
    split at h
    · rename_i a b' ha hb
      split at h
      · rename_i p q hp hq
        cases h
        obtain ⟨u, hu, hua⟩ := run_part ha hx w
        obtain ⟨v, hv, hvb⟩ := run_part hb hy w
        have he := ih _ _ _ _ _ _ hp hua hvb w
        have hr := run_eqArr d ih e n xs ys us vs hx hy l q hq w
        simp only [List.forIn_cons, Sem.run_bind, hu, hv, Result.andThen_ok, he, Sem.run_ite, Sem.run_pure] at hr ⊢
        cases p
        · simp
        · simpa using hr
      · cases h
    · cases h

theorem run_equalIn {P : Program} {β : Nat → Bx} : ∀ (d : Nat) (t : TypeId) (x y : AV) (u v : Value) (b : Bool), aeqIn P d t x y = some b → VR β x u → VR β y v → ∀ w, (Op.equalIn d t u v).run P w = .ok b w
  | 0, t, x, y, u, v, b, h, _, _, w => by simp [aeqIn] at h
  | d + 1, t, x, y, u, v, b, h, hu, hv, w => by
    have ih := run_equalIn (P := P) (β := β) d
    unfold aeqIn at h
    split at h <;> rename_i ht <;> (try simp only [VR] at hu hv)
    case h_1 => cases h; subst hu; subst hv; simp [Op.equalIn, run_underlying ht]
    case h_2 =>
      split at h
      · rename_i hk; cases h; subst hu; subst hv; subst hk; simp [Op.equalIn, run_underlying ht]
      · cases h
    case h_3 => cases h; subst hu; subst hv; simp [Op.equalIn, run_underlying ht, beq_toListBytes]
    case h_4 => cases h; subst hu; subst hv; simp [Op.equalIn, run_underlying ht]
    case h_5 => cases h; subst hu; subst hv; simp [Op.equalIn, run_underlying ht]
    case h_6 => cases h; subst hu; subst hv; simp [Op.equalIn, run_underlying ht]
    case h_7 => cases h; subst hu; subst hv; simp [Op.equalIn, run_underlying ht]
    case h_8 => cases h; obtain ⟨y, rfl, _⟩ := hv; subst hu; simp [Op.equalIn, run_underlying ht]
    case h_9 => cases h; obtain ⟨y, rfl, _⟩ := hu; subst hv; simp [Op.equalIn, run_underlying ht]
    case h_10 =>
      obtain ⟨u', rfl, hu'⟩ := hu
      obtain ⟨v', rfl, hv'⟩ := hv
      split at h
      · rename_i hne; cases h; simp [Op.equalIn, run_underlying ht, hne]
      · rename_i hne
        have hne' := Decidable.not_not.1 hne
        subst hne'
        split at h
        · rename_i hc
          obtain ⟨i, hi, hci⟩ := Option.map_eq_some_iff.1 hc
          have := ih _ _ _ _ _ _ h hu' hv' w
          simp [Op.equalIn, run_underlying ht, typeInfo, hi, hci, this]
        · cases h
    case h_11 => cases h; subst hu; subst hv; simp [Op.equalIn, run_underlying ht]
    case h_12 => cases h; subst hu; subst hv; simp [Op.equalIn, run_underlying ht]
    case h_13 => cases h; obtain ⟨c, o', rfl, _⟩ := hv; subst hu; simp [Op.equalIn, run_underlying ht]
    case h_14 => cases h; subst hu; subst hv; simp [Op.equalIn, run_underlying ht]
    case h_15 => cases h; obtain ⟨c, o', rfl, _⟩ := hu; subst hv; simp [Op.equalIn, run_underlying ht]
    case h_16 =>
      obtain ⟨us, rfl, hus⟩ := hu
      obtain ⟨vs, rfl, hvs⟩ := hv
      split at h
      · cases h
      · rename_i fs xs ys hp
        have hf : P.fieldsOf t = fs := by simp [Program.fieldsOf, ht]
        rw [run_equalIn_struct w d t us vs (by rw [hf]; exact ht) (by simpa using hp), hf]
        exact run_eqFields d ih _ _ us vs hus hvs fs.toList b h w
    case h_17 =>
      obtain ⟨us, rfl, hus⟩ := hu
      obtain ⟨vs, rfl, hvs⟩ := hv
      split at h
      · cases h
      · rename_i len e xs ys _ n hs
        have := run_eqArr d ih e n _ _ us vs hus hvs (List.range len) b h w
        simp only [Op.equalIn, Sem.run_bind, run_underlying ht, Result.andThen_ok, run_sizeOf hs]
        rw [← this]
        simp only [Std.Legacy.Range.forIn_eq_forIn_range', Std.Legacy.Range.size, Nat.sub_zero, Nat.add_sub_cancel, Nat.div_one, List.range_eq_range', Sem.run_bind]
        congr 1
        funext a w'
        cases a.fst <;> rfl
    case h_18 => cases h

end Go.AL

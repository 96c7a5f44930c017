/- Literals, len, min, max; every operation that leaves the memory alone. -/
import Derived.Test.YtdlplfhkmhkngaaALe
set_option linter.unusedVariables false
set_option linter.unusedSimpArgs false
namespace Go.AL
open Go.RowKit

/-! ### len, cap, min, max -/
def amin2 (mx : Bool) : AV → AV → Option AV
  | .int k x, .int _ y => some (.int k (if mx then (if x < y then y else x) else (if y < x then y else x)))
  | _, _ => none
def aminl (mx : Bool) : AV → List AV → Option AV
  | x, [] => some x
  | x, y :: l => match amin2 mx x y with | some z => aminl mx z l | none => none

def AV.isInt : AV → Bool
  | .int _ _ => true
  | _ => false
theorem AV.isInt_eq {x : AV} (h : x.isInt = true) : ∃ k n, x = .int k n := by
  cases x <;> simp [AV.isInt] at h
  exact ⟨_, _, rfl⟩

def abuiltin (P : Program) (b : Builtin) (tys : Array TypeId) (args : List AV) : Option AV :=
  match b, args with
  | .len, [x] =>
    match tys[0]? with
    | none => none
    | some t =>
      match P.underlying t, x with
      | some .string, .str s => some (.int .i64 s.size)
      | some (.array n _), _ => some (.int .i64 n)
      | some (.slice _), .nilS => some (.int .i64 0)
      | some (.slice _), .sl _ _ n _ => some (.int .i64 n)
      | some (.slice _), .sg _ _ n _ => some (.int .i64 n)
      | some (.pointer arr), _ => match P.underlying arr with
        | some (.array n _) => some (.int .i64 n)
        | _ => none
      | _, _ => none
  | .cap, [x] =>
    match tys[0]? with
    | none => none
    | some t =>
      match P.underlying t, x with
      | some (.slice _), .nilS => some (.int .i64 0)
      | some (.slice _), .sl _ _ _ c => some (.int .i64 c)
      | _, _ => none
  | .min, x :: l => if x.isInt then aminl false x l else none
  | .max, x :: l => if x.isInt then aminl true x l else none
  | _, _ => none

theorem run_aminl {P : Program} {β : Nat → Bx} (mx : Bool) : ∀ (l : List AV) (x v : AV) (u : Value) (us : List Value), aminl mx x l = some v → (∃ k n, x = .int k n) → VR β x u → VRs β l us → ∀ w,
    ∃ r, (us.foldlM (if mx then Builtin.max2 else Builtin.min2) u).run P w = .ok r w ∧ VR β v r ∧ ∀ n, v.lt n
  | [], x, v, u, us, h, ⟨k, n, hx⟩, hu, hus, w => by
    simp only [aminl] at h
    cases h
    simp only [VRs] at hus
    subst hus; subst hx
    exact ⟨u, by simp, hu, fun _ => trivial⟩
  | y :: l, x, v, u, us, h, ⟨k, n, hx⟩, hu, hus, w => by
    subst hx
    simp only [aminl] at h
    simp only [VRs] at hus
    obtain ⟨yv, ys, rfl, hy, hys⟩ := hus
    split at h
    · rename_i z hz
      unfold amin2 at hz
      split at hz
      · rename_i k' a k'' b heq
        cases heq
        cases hz
        simp only [VR] at hu hy
        subst hu; subst hy
        have ih := run_aminl (P := P) (β := β) mx l (.int k (if mx then (if n < b then b else n) else (if b < n then b else n))) v (.int k (if mx then (if n < b then b else n) else (if b < n then b else n))) ys h ⟨_, _, rfl⟩ rfl hys w
        obtain ⟨r, h1, h2, h3⟩ := ih
        refine ⟨r, ?_, h2, h3⟩
        rw [← h1]
        cases mx <;> simp [Builtin.max2, Builtin.min2]
      · cases hz
    · cases h

theorem run_abuiltin {P : Program} {β : Nat → Bx} {b : Builtin} {tys : Array TypeId} {ty : TypeId} {cs : Array Bool} {args : List AV} {v : AV} {us : Array Value} (e : abuiltin P b tys args = some v) (hx : VRs β args us.toList) (w : World) :
    ∃ r, (builtin b tys ty cs us).run P w = .ok (.value r) w ∧ VR β v r ∧ ∀ n, v.lt n := by
  obtain ⟨us⟩ := us
  simp only at hx
  unfold abuiltin at e
  split at e
  · rename_i x
    simp only [VRs] at hx
    obtain ⟨u, us', rfl, hu, rfl⟩ := hx
    split at e
    · cases e
    · rename_i t ht
      split at e <;> rename_i hd <;> (try simp only [VR] at hu)
      · cases e; subst hu; exact ⟨goInt _, by simp [builtin, Builtin.len_, ht, run_underlying hd], rfl, fun _ => trivial⟩
      · cases e; exact ⟨goInt _, by simp [builtin, Builtin.len_, ht, run_underlying hd], rfl, fun _ => trivial⟩
      · cases e; subst hu; exact ⟨goInt 0, by simp [builtin, Builtin.len_, ht, run_underlying hd], rfl, fun _ => trivial⟩
      · cases e; subst hu; exact ⟨goInt _, by simp [builtin, Builtin.len_, ht, run_underlying hd], rfl, fun _ => trivial⟩
      · cases e; obtain ⟨c, o', rfl, _⟩ := hu; exact ⟨goInt _, by simp [builtin, Builtin.len_, ht, run_underlying hd], rfl, fun _ => trivial⟩
      · split at e
        · rename_i n el hn; cases e; exact ⟨goInt _, by simp [builtin, Builtin.len_, ht, run_underlying hd, run_underlying hn], rfl, fun _ => trivial⟩
        · cases e
      · cases e
  · rename_i x
    simp only [VRs] at hx
    obtain ⟨u, us', rfl, hu, rfl⟩ := hx
    split at e
    · cases e
    · rename_i t ht
      split at e <;> rename_i hd <;> (try simp only [VR] at hu)
      · cases e; subst hu; exact ⟨goInt 0, by simp [builtin, Builtin.cap_, ht, run_underlying hd], rfl, fun _ => trivial⟩
      · cases e; subst hu; exact ⟨goInt _, by simp [builtin, Builtin.cap_, ht, run_underlying hd], rfl, fun _ => trivial⟩
      · cases e
  · rename_i x l
    split at e
    · rename_i hk
      simp only [VRs] at hx
      obtain ⟨u, us', rfl, hu, hus⟩ := hx
      have hk' := AV.isInt_eq hk
      obtain ⟨r, h1, h2, h3⟩ := run_aminl (P := P) false l x v u us' e hk' hu hus w
      refine ⟨r, ?_, h2, h3⟩
      simp only [Bool.false_eq_true, if_false] at h1
      simp [builtin, Builtin.min_, h1]
    · cases e
  · rename_i x l
    split at e
    · rename_i hk
      simp only [VRs] at hx
      obtain ⟨u, us', rfl, hu, hus⟩ := hx
      have hk' := AV.isInt_eq hk
      obtain ⟨r, h1, h2, h3⟩ := run_aminl (P := P) true l x v u us' e hk' hu hus w
      refine ⟨r, ?_, h2, h3⟩
      simp only [if_true] at h1
      simp [builtin, Builtin.max_, h1]
    · cases e
  · cases e

/-! ### Literals -/
/-- A value that may be laid into memory: one cell, or cells all known. -/
def AV.solid : AV → Bool
  | .agg cs => cs.all AV.one
  | v => v.one
theorem AV.solid_or {x : AV} (h : x.solid = true) : x.one = true ∨ ∃ cs, x = .agg cs := by
  cases x <;> simp [AV.solid, AV.one] at h ⊢

def splice (cs : List AV) (o : Nat) (ds : List AV) : List AV := cs.take o ++ ds ++ cs.drop (o + ds.length)

def afill (place : Nat → Option (Nat × Nat)) (cells : List AV) : List (Nat × AV) → Option (List AV)
  | [] => some cells
  | (i, v) :: rest =>
    match place i with
    | none => none
    | some (off, size) =>
      if v.solid = true ∧ v.cells.length = size ∧ off + size ≤ cells.length then afill place (splice cells off v.cells) rest else none

theorem foldl_splice : ∀ (vs : List Value) (k : Nat) (cs : Array Value) (off : Nat), off + k + vs.length ≤ cs.size →
    ((vs.zipIdx k).foldl (fun cs (c, j) => cs.setIfInBounds (off + j) c) cs).toList = cs.toList.take (off + k) ++ vs ++ cs.toList.drop (off + k + vs.length)
  | [], k, cs, off, h => by simp
  | v :: vs, k, cs, off, h => by
    simp only [List.length_cons] at h
    simp only [List.zipIdx_cons, List.foldl_cons]
    rw [foldl_splice vs (k + 1) _ off (by simp; omega)]
    simp only [Array.toList_setIfInBounds, List.length_cons]
    rw [show off + (k + 1) = off + k + 1 by omega, List.take_add_one]
    have h1 : (cs.toList.set (off + k) v)[off + k]? = some v := by
      rw [List.getElem?_set_self (by simp; omega)]
    rw [h1, List.take_set, List.drop_set, if_pos (by omega)]
    have h2 : (List.take (off + k) cs.toList).set (off + k) v = List.take (off + k) cs.toList := by
      rw [List.set_eq_of_length_le (by simp; omega)]
    rw [h2]
    simp [List.append_assoc]
    congr 1
    omega

theorem run_afill {β : Nat → Bx} (place : Nat → Option (Nat × Nat)) : ∀ (parts : List (Nat × AV)) (us : List (Nat × Value)) (cells : List AV) (vs : Array Value) (r : List AV), afill place cells parts = some r →
    parts.length = us.length → (∀ (i : Nat) p q, parts[i]? = some p → us[i]? = some q → p.1 = q.1 ∧ VR β p.2 q.2) → VRs β cells vs.toList → ∃ ws : Array Value, Instr.fill place vs us = some ws ∧ VRs β r ws.toList
  | [], [], cells, vs, r, h, _, _, hv => by simp [afill] at h; subst h; exact ⟨vs, rfl, hv⟩
  | [], _ :: _, _, _, _, _, hl, _, _ => by simp at hl
  | _ :: _, [], _, _, _, _, hl, _, _ => by simp at hl
  | (i, v) :: rest, (j, u) :: us, cells, vs, r, h, hl, hp, hv => by
    have h0 := hp 0 (i, v) (j, u) rfl rfl
    simp only at h0
    obtain ⟨rfl, hvu⟩ := h0
    simp only [afill] at h
    split at h
    · cases h
    · rename_i off size hpl
      split at h
      · rename_i hc
        obtain ⟨hso, hsz, hle⟩ := hc
        have hcells := VR_cells hvu (AV.solid_or hso)
        have hcl : u.cells.size = size := by
          have := VRs_length hcells
          rw [Array.length_toList] at this
          omega
        have hvl : vs.size = cells.length := by
          have := VRs_length hv
          rwa [Array.length_toList] at this
        have hnew : VRs β (splice cells off v.cells) ((u.cells.zipIdx).foldl (fun cs (c, j) => cs.setIfInBounds (off + j) c) vs).toList := by
          rw [← Array.foldl_toList, Array.toList_zipIdx]
          have hf := foldl_splice u.cells.toList 0 vs off (by simp; omega)
          simp only [Nat.add_zero] at hf
          rw [hf]
          unfold splice
          have hlen : u.cells.toList.length = v.cells.length := VRs_length hcells
          rw [hlen]
          exact VRs_append (VRs_append (VRs_take hv off) hcells) (VRs_drop hv _)
        obtain ⟨ws, h1, h2⟩ := run_afill place rest us _ _ r h (by simpa using hl) (fun k p q hpk hqk => hp (k + 1) p q (by simpa using hpk) (by simpa using hqk)) hnew
        refine ⟨ws, ?_, h2⟩
        simp only [Instr.fill, hpl]
        rw [if_neg (by simp; omega)]
        exact h1
      · cases h

theorem afill_lts {n : Nat} (place : Nat → Option (Nat × Nat)) : ∀ (parts : List (Nat × AV)) (cells r : List AV), afill place cells parts = some r → AV.lts n cells → (∀ p ∈ parts, p.2.lt n) → AV.lts n r
  | [], cells, r, h, hc, _ => by simp [afill] at h; subst h; exact hc
  | (i, v) :: rest, cells, r, h, hc, hp => by
    simp only [afill] at h
    split at h
    · cases h
    · split at h
      · refine afill_lts place rest _ r h ?_ (fun p hm => hp p (List.mem_cons_of_mem _ hm))
        have hv := hp (i, v) (List.mem_cons_self ..)
        rw [AV.lts_iff] at hc ⊢
        intro c hm
        unfold splice at hm
        rcases List.mem_append.1 hm with hm | hm
        · rcases List.mem_append.1 hm with hm | hm
          · exact hc c (List.mem_of_mem_take hm)
          · cases v <;> simp only [AV.cells, List.mem_singleton] at hm <;> (try subst hm; exact hv)
            simp only [AV.lt, AV.lts_iff] at hv
            exact hv c hm
        · exact hc c (List.mem_of_mem_drop hm)
      · cases h

def aplace (P : Program) (t : TypeId) : Option (Nat → Option (Nat × Nat)) :=
  match P.underlying t with
  | some (.struct fs) => (fs.toList.mapM fun f => (sizeT P f.type).map fun n => (f.offset, n)).map fun l => fun i => l[i]?
  | some (.array _ e) => (sizeT P e).map fun z => fun i => some (i * z, z)
  | _ => none

def abuild (P : Program) (t : TypeId) (parts : List (Nat × AV)) : Option AV :=
  match zeroT P t, aplace P t with
  | some z, some pl => (afill pl z.cells parts).map .agg
  | _, _ => none

theorem run_mapM_sizes {P : Program} : ∀ (fs : List Field) (l : List (Nat × Nat)), (fs.mapM fun f => (sizeT P f.type).map fun n => (f.offset, n)) = some l → ∀ w,
    (fs.mapM (m := Sem) fun f => do pure (f.offset, ← sizeOf f.type)).run P w = .ok l w
  | [], l, h, w => by simp at h; subst h; simp
  | f :: fs, l, h, w => by
    simp only [List.mapM_cons, Option.bind_eq_bind, Option.bind_eq_some_iff, Option.map_eq_some_iff, Option.pure_def, Option.some.injEq] at h
    obtain ⟨p, ⟨n, hn, rfl⟩, l', hl', rfl⟩ := h
    have ih := run_mapM_sizes fs l' hl' w
    simp only [List.mapM_cons, Sem.run_bind, run_sizeOf hn, Result.andThen_ok, Sem.run_pure, ih]

theorem zeroT_VR {P : Program} {β : Nat → Bx} {t : TypeId} {z : AV} (h : zeroT P t = some z) : ∃ i v, P.info? t = some i ∧ i.zero = some v ∧ VR β z v ∧ z = ofValue v := by
  unfold zeroT at h
  obtain ⟨i, hi, h2⟩ := Option.bind_eq_some_iff.1 h
  obtain ⟨zv, h3, h4⟩ := Option.map_eq_some_iff.1 h2
  subst h4
  exact ⟨i, zv, hi, h3, ofValue_VR β zv, rfl⟩

theorem ofValue_cells (β : Nat → Bx) (v : Value) : VRs β (ofValue v).cells v.cells.toList := by
  unfold ofValue
  split
  · exact ofAtoms_VRs β _
  · simp only [AV.cells, Value.cells, VRs, VR]
    exact ⟨_, [], rfl, ⟨_, rfl, ofAtom_VR β _⟩, rfl⟩
  · rename_i h1 h2
    have e : (ofAtom v).cells = [ofAtom v] := by
      unfold ofAtom
      split <;> rfl
    have e' : v.cells = #[v] := by
      cases v <;> first | rfl | exact absurd rfl (h1 _)
    rw [e, e']
    simp only [VRs]
    exact ⟨v, [], rfl, ofAtom_VR β v, rfl⟩

theorem run_abuild {P : Program} {β : Nat → Bx} {N : Nat} {t : TypeId} {parts : List (Nat × AV)} {v : AV} {us : Array (Nat × Value)} (e : abuild P t parts = some v) (hlen : parts.length = us.size)
    (hp : ∀ (i : Nat) p q, parts[i]? = some p → us[i]? = some q → p.1 = q.1 ∧ VR β p.2 q.2) (hl : ∀ p ∈ parts, p.2.lt N) (w : World) :
    ∃ r, (Instr.build t us).run P w = .ok r w ∧ VR β v r ∧ v.lt N := by
  unfold abuild at e
  split at e
  · rename_i z pl hz hpl
    obtain ⟨r, hr, rfl⟩ := Option.map_eq_some_iff.1 e
    obtain ⟨i, zv, hi, hzv, hzr, rfl⟩ := zeroT_VR (β := β) hz
    obtain ⟨ws, hf, hws⟩ := run_afill pl parts us.toList _ zv.cells r hr (by simpa using hlen) (fun k p q h1 h2 => hp k p q h1 (by simpa using h2)) (ofValue_cells β zv)
    refine ⟨.agg ws, ?_, ?_, ?_⟩
    · unfold aplace at hpl
      split at hpl
      · rename_i fs ht
        obtain ⟨l, hl', rfl⟩ := Option.map_eq_some_iff.1 hpl
        have hm := run_mapM_sizes fs.toList l hl' w
        have hm' : (fs.mapM (m := Sem) fun f => do pure (f.offset, ← sizeOf f.type)).run P w = .ok l.toArray w := by
          rw [← Array.toArray_toList (xs := fs)]
          simp only [List.mapM_toArray, Sem.run_map, hm, Result.andThen_ok]
        simp only [Instr.build, Sem.run_bind, zeroValue, typeInfo, run_program, Result.andThen_ok, hi, hzv, Sem.run_pure, run_underlying ht, hm']
        simp [hf]
      · rename_i n el ht
        obtain ⟨zn, hs, rfl⟩ := Option.map_eq_some_iff.1 hpl
        simp only [Instr.build, Sem.run_bind, zeroValue, typeInfo, run_program, Result.andThen_ok, hi, hzv, Sem.run_pure, run_underlying ht, run_sizeOf hs]
        simp [hf]
      · cases hpl
    · simp only [VR]; exact ⟨ws, rfl, hws⟩
    · simp only [AV.lt]
      refine afill_lts pl parts _ r hr ?_ hl
      unfold ofValue
      split
      · exact ofAtoms_lts N _
      · simp only [AV.cells, AV.lts, AV.lt]; exact ⟨ofAtom_lt N _, trivial⟩
      · unfold ofAtom; split <;> simp [AV.cells, AV.lts, AV.lt]
  · cases e

end Go.AL

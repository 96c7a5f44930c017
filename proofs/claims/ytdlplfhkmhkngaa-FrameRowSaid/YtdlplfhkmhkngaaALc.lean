/- The operations that leave the memory alone: the machine runs them as the abstract ones say. -/
import Derived.Test.YtdlplfhkmhkngaaALb
set_option linter.unusedVariables false
set_option linter.unusedSimpArgs false
namespace Go.AL
open Go.RowKit

def hget (H : Hp) (h : Nat) : Option Blk := H[h]?

/-- The cells of a block from a place on, as the machine has them. -/
theorem Rel.row {w0 : World} {B : Nat} {β : Nat → Bx} {H : Hp} {w : World} (R : Rel w0 B β H w) {h : Nat} {b : Blk} (hb : H[h]? = some b) (hd : b.kind ≠ .dead) (o : Nat) :
    ∀ n, o + n ≤ b.cells.length → ∃ l : List Value, VRs β ((b.cells.drop o).take n) l ∧ l.length = n ∧ (∀ (j : Nat) v, l[j]? = some v → w.cell? ((β h).addr.add (o + j)) = some v) ∧ ∀ v ∈ l, v.oneCell' = true := by
  intro n
  induction n with
  | zero => intro _; exact ⟨[], by simp [VRs], rfl, by simp, by simp⟩
  | succ n ih =>
    intro hn
    obtain ⟨l, h1, h2, h3, h4⟩ := ih (by omega)
    obtain ⟨v, hv, hvr, h1c⟩ := R.cells h b hb hd (o + n) (b.cells[o + n]'(by omega)) (List.getElem?_eq_getElem (by omega))
    refine ⟨l ++ [v], ?_, by simp [h2], ?_, ?_⟩
    · have e : (b.cells.drop o).take (n + 1) = (b.cells.drop o).take n ++ [b.cells[o + n]'(by omega)] := by
        rw [List.take_add_one]
        congr 1
        rw [List.getElem?_drop, List.getElem?_eq_getElem (by omega)]
        rfl
      rw [e]
      exact VRs_append h1 (by simp only [VRs]; exact ⟨v, [], rfl, hvr, rfl⟩)
    · intro j u hu
      rcases Nat.lt_trichotomy j n with hj | hj | hj
      · rw [List.getElem?_append_left (by omega)] at hu
        exact h3 j u hu
      · subst hj
        rw [List.getElem?_append_right (by omega)] at hu
        simp [h2] at hu
        subst hu
        exact hv
      · rw [List.getElem?_eq_none (by simp; omega)] at hu; cases hu
    · intro u hu
      rcases List.mem_append.1 hu with hu | hu
      · exact h4 u hu
      · simp at hu; subst hu; exact h1c

/-! ### Reading -/
def aload (P : Program) (H : Hp) (t : TypeId) : AV → Option AV
  | .ptr h o =>
    match hget H h with
    | some b =>
      if b.kind = .dead then none else
      match isAggT P t, sizeT P t with
      | some true, some n => if o + n ≤ b.cells.length then some (.agg ((b.cells.drop o).take n)) else none
      | some false, _ => b.cells[o]?
      | _, _ => none
    | none => none
  | _ => none

theorem run_loadVar_al {P : Program} {w0 : World} {B : Nat} {β : Nat → Bx} {H : Hp} {w : World} (R : Rel w0 B β H w) {t : TypeId} {h o : Nat} {v : AV} (e : aload P H t (.ptr h o) = some v) :
    ∃ x, (loadVar t ((β h).addr.add o)).run P w = .ok x w ∧ VR β v x ∧ v.lt H.length := by
  simp only [aload, hget] at e
  split at e
  · rename_i b hb
    split at e
    · cases e
    · rename_i hd
      split at e
      · rename_i n ha hs
        split at e
        · rename_i hle
          cases e
          obtain ⟨l, h1, h2, h3, h4⟩ := R.row hb hd o n hle
          refine ⟨.agg l.toArray, ?_, ?_, ?_⟩
          · have hl := run_loadCells_list (P := P) w ((β h).addr.add o) l (fun j v hv => by rw [Addr.add_add]; exact h3 j v hv)
            rw [h2] at hl
            simp [loadVar, run_isAgg ha, run_sizeOf hs, hl]
          · simp only [VR]; exact ⟨_, rfl, by simpa using h1⟩
          · simp only [AV.lt]
            rw [AV.lts_iff]
            exact fun c hc => R.lts h b hb hd c (List.mem_of_mem_drop (List.mem_of_mem_take hc))
        · cases e
      · rename_i ha
        obtain ⟨x, hx, hv, _⟩ := R.cells h b hb hd o v e
        refine ⟨x, ?_, hv, R.lts h b hb hd v (List.mem_of_getElem? e)⟩
        simp [loadVar, run_isAgg ha, hx]
      · cases e
  · cases e

/-! ### Bounds -/
def abound (y : Nat) : AV → Option Nat
  | .int _ i => if 0 ≤ i ∧ i ≤ (y : Int) then some i.toNat else none
  | _ => none
/-- low, high, max of a slice expression over a length and a capacity; the capacity none: unknown, at least the length. -/
def abounds (len : Nat) (cap : Nat) (lo hi mx : Option AV) : Option (Nat × Nat × Nat) :=
  match (match mx with | some v => abound cap v | none => some cap) with
  | none => none
  | some m =>
    match (match hi with | some v => abound m v | none => if mx.isSome then none else some len) with
    | none => none
    | some h =>
      match (match lo with | some v => abound h v | none => some 0) with
      | none => none
      | some l => some (l, h, m)

theorem run_abound {P : Program} {β : Nat → Bx} {y : Nat} {x : AV} {v : Value} {n : Nat} (h : abound y x = some n) (hv : VR β x v) (c : BoundsCode) (w : World) : (Instr.sliceBound v y c).run P w = .ok n w := by
  unfold abound at h
  split at h
  · rename_i k i
    split at h
    · rename_i hb
      cases h
      simp only [VR] at hv
      subst hv
      simp [Instr.sliceBound, asIntOf, hb]
    · cases h
  · cases h
theorem abound_le {y : Nat} {x : AV} {n : Nat} (h : abound y x = some n) : n ≤ y := by
  unfold abound at h
  split at h
  · split at h
    · cases h; omega
    · cases h
  · cases h

def VRo (β : Nat → Bx) : Option AV → Option Value → Prop
  | none, none => True
  | some x, some v => VR β x v
  | _, _ => False

theorem run_abounds {P : Program} {β : Nat → Bx} {len cap l h m : Nat} {lo hi mx : Option AV} {vlo vhi vmx : Option Value} (e : abounds len cap lo hi mx = some (l, h, m))
    (h1 : VRo β lo vlo) (h2 : VRo β hi vhi) (h3 : VRo β mx vmx) (isS : Bool) (w : World) : (Instr.sliceBounds isS len cap vlo vhi vmx).run P w = .ok (l, h, m) w := by
  unfold abounds at e
  split at e
  · cases e
  · rename_i m' hm
    split at e
    · cases e
    · rename_i h' hh
      split at e
      · cases e
      · rename_i l' hl
        cases e
        cases mx with
        | none =>
          cases vmx with
          | some _ => exact h3.elim
          | none =>
            simp at hm
            subst hm
            cases hi with
            | none =>
              cases vhi with
              | some _ => exact h2.elim
              | none =>
                simp at hh
                subst hh
                cases lo with
                | none =>
                  cases vlo with
                  | some _ => exact h1.elim
                  | none => simp at hl; subst hl; simp [Instr.sliceBounds]
                | some x =>
                  cases vlo with
                  | none => exact h1.elim
                  | some v => simp [Instr.sliceBounds, run_abound hl h1]
            | some x =>
              cases vhi with
              | none => exact h2.elim
              | some v =>
                cases lo with
                | none =>
                  cases vlo with
                  | some _ => exact h1.elim
                  | none => simp at hl; subst hl; simp [Instr.sliceBounds, run_abound hh h2]
                | some x =>
                  cases vlo with
                  | none => exact h1.elim
                  | some v => simp [Instr.sliceBounds, run_abound hl h1, run_abound hh h2]
        | some xm =>
          cases vmx with
          | none => exact h3.elim
          | some vm =>
            cases hi with
            | none => simp at hh
            | some x =>
              cases vhi with
              | none => exact h2.elim
              | some v =>
                cases lo with
                | none =>
                  cases vlo with
                  | some _ => exact h1.elim
                  | none => simp at hl; subst hl; simp [Instr.sliceBounds, run_abound hm h3, run_abound hh h2]
                | some x =>
                  cases vlo with
                  | none => exact h1.elim
                  | some v => simp [Instr.sliceBounds, run_abound hm h3, run_abound hl h1, run_abound hh h2]

theorem abounds_le {len cap l h m : Nat} {lo hi mx : Option AV} (e : abounds len cap lo hi mx = some (l, h, m)) (hlc : len ≤ cap) : l ≤ h ∧ h ≤ m ∧ m ≤ cap := by
  unfold abounds at e
  split at e
  · cases e
  · rename_i m' hm
    split at e
    · cases e
    · rename_i h' hh
      split at e
      · cases e
      · rename_i l' hl
        cases e
        have a1 : m ≤ cap := by
          cases mx with
          | none => simp at hm; omega
          | some x => exact abound_le hm
        have a2 : h ≤ m := by
          cases hi with
          | none =>
            cases mx with
            | none => simp at hh hm; omega
            | some x => simp at hh
          | some x => exact abound_le hh
        have a3 : l ≤ h := by
          cases lo with
          | none => simp at hl; omega
          | some x => exact abound_le hl
        exact ⟨a3, a2, a1⟩

/-- Bounds that hold for one capacity hold for each greater one; without a max the upper one is the capacity itself. -/
theorem abound_grow {y z : Nat} {x : AV} {n : Nat} (h : abound y x = some n) (hyz : y ≤ z) : abound z x = some n := by
  unfold abound at h ⊢
  split at h
  · split at h
    · rename_i hb; rw [if_pos (by omega)]; exact h
    · cases h
  · cases h
theorem abounds_grow {len cap cap' l h m : Nat} {lo hi : Option AV} (e : abounds len cap lo hi none = some (l, h, m)) (hc : cap ≤ cap') : abounds len cap' lo hi none = some (l, h, cap') := by
  unfold abounds at e ⊢
  simp only [Option.isSome_none, Bool.false_eq_true, if_false] at e ⊢
  cases hi with
  | none =>
    split at e
    · cases e
    · rename_i h' hh
      split at e
      · cases e
      · rename_i l' hl
        cases e
        simp at hh
        subst hh
        simp only [hl]
  | some x =>
    split at e
    · cases e
    · rename_i h' hh
      have hg := abound_grow hh hc
      simp only [hg]
      split at e
      · cases e
      · rename_i l' hl
        cases e
        simp only [hl]
theorem abounds_grow_max {len cap cap' l h m : Nat} {lo hi : Option AV} {x : AV} (e : abounds len cap lo hi (some x) = some (l, h, m)) (hc : cap ≤ cap') : abounds len cap' lo hi (some x) = some (l, h, m) := by
  unfold abounds at e ⊢
  simp only at e ⊢
  split at e
  · cases e
  · rename_i m' hm
    have hg := abound_grow hm hc
    simp only [hg]
    exact e

/-! ### Slice expressions -/
def aslice (P : Program) (t : TypeId) (x : AV) (lo hi mx : Option AV) : Option AV :=
  match P.underlying t, x with
  | some .string, .str s =>
    if mx.isSome then none else
    match abounds s.size s.size lo hi none with
    | some (l, h, _) => some (.str (s.extract l h))
    | none => none
  | some (.slice e), .nilS =>
    match abounds 0 0 lo hi mx, sizeT P e with
    | some _, some _ => some .nilS
    | _, _ => none
  | some (.slice e), .sl h o n c =>
    match abounds n c lo hi mx, sizeT P e with
    | some (l, u, m), some z => some (.sl h (if m = l then o else o + l * z) (u - l) (m - l))
    | _, _ => none
  | some (.slice e), .sg h o n z =>
    match abounds n n lo hi mx, sizeT P e with
    | some (l, u, m), some z' =>
      if z' = z then
        if mx.isSome then (if m = l ∧ l = n then none else some (.sl h (if m = l then o else o + l * z) (u - l) (m - l)))
        else some (.sg h (o + l * z) (u - l) z)
      else none
    | _, _ => none
  | some (.array len e), .ptr h o =>
    match abounds len len lo hi mx, sizeT P e with
    | some (l, u, m), some z => some (.sl h (if m = l then o else o + l * z) (u - l) (m - l))
    | _, _ => none
  | _, _ => none

theorem sliceAt_not_array {P : Program} {t : TypeId} {d : TypeDesc} (hd : P.underlying t = some d) (hn : ∀ n e, d ≠ .array n e) (x : Value) (lo hi mx : Option Value) (w : World) :
    (Instr.sliceAt t x lo hi mx).run P w = (Instr.slice t x lo hi mx).run P w := by
  unfold Instr.sliceAt
  simp only [Sem.run_bind, run_underlying hd, Result.andThen_ok]
  all_goals (cases d <;> first | rfl | exact absurd rfl (hn _ _))

theorem run_aslice {P : Program} {β : Nat → Bx} {N : Nat} {t : TypeId} {x v : AV} {lo hi mx : Option AV} {vx : Value} {vlo vhi vmx : Option Value} (e : aslice P t x lo hi mx = some v)
    (hx : VR β x vx) (hl : x.lt N) (h1 : VRo β lo vlo) (h2 : VRo β hi vhi) (h3 : VRo β mx vmx) (w : World) :
    ∃ y, (Instr.sliceAt t vx vlo vhi vmx).run P w = .ok y w ∧ VR β v y ∧ v.lt N := by
  unfold aslice at e
  split at e
  · -- strings
    rename_i s ht
    simp only [VR] at hx
    subst hx
    split at e
    · cases e
    · rename_i hm
      have hmn : mx = none := by simpa using hm
      subst hmn
      cases vmx with
      | some _ => exact h3.elim
      | none =>
        split at e
        · rename_i l h m hb
          cases e
          refine ⟨.string (s.extract l h), ?_, rfl, trivial⟩
          rw [sliceAt_not_array ht (by simp)]
          simp [Instr.slice, run_underlying ht, run_abounds (vmx := none) hb h1 h2 trivial]
        · cases e
  · -- nil
    rename_i el ht
    simp only [VR] at hx
    subst hx
    split at e
    · rename_i b z hb hs
      obtain ⟨l, h, m⟩ := b
      cases e
      have hle := abounds_le hb (Nat.le_refl _)
      have hlz : l = 0 := by omega
      have hhz : h = 0 := by omega
      have hmz : m = 0 := by omega
      subst hlz; subst hhz; subst hmz
      refine ⟨.slice none 0 0, ?_, rfl, trivial⟩
      rw [sliceAt_not_array ht (by simp)]
      simp [Instr.slice, run_underlying ht, run_abounds hb h1 h2 h3, run_sizeOf hs]
    · cases e
  · rename_i el h o n c ht
    simp only [VR] at hx
    subst hx
    split at e
    · rename_i l u m z hb hs
      cases e
      refine ⟨_, ?_, rfl, hl⟩
      rw [sliceAt_not_array ht (by simp)]
      simp only [Instr.slice, Sem.run_bind, run_underlying ht, Result.andThen_ok, run_abounds hb h1 h2 h3, run_sizeOf hs, Sem.run_pure, Option.map_some]
      congr 2
      split <;> simp [Addr.add_add]
    · cases e
  · rename_i el h o n z ht
    simp only [VR] at hx
    obtain ⟨c, o', rfl, hnc, hco⟩ := hx
    split at e
    · rename_i l u m z' hb hs
      split at e
      · rename_i hz
        subst hz
        have hle := abounds_le hb (Nat.le_refl _)
        split at e
        · rename_i hms
          cases mx with
          | none => simp at hms
          | some xm =>
            split at e
            · cases e
            · rename_i hne
              cases e
              have hb' := abounds_grow_max hb hnc
              refine ⟨.slice (some (if m = l then (β h).addr.add o' else ((β h).addr.add o').add (l * z'))) (u - l) (m - l), ?_, ?_, hl⟩
              · rw [sliceAt_not_array ht (by simp)]
                simp only [Instr.slice, Sem.run_bind, run_underlying ht, Result.andThen_ok, run_abounds hb' h1 h2 h3, run_sizeOf hs, Sem.run_pure, Option.map_some]
                congr 2
                split <;> rfl
              · simp only [VR]
                have hn : 0 < n := by omega
                have ho : o' = o := by rcases hco with h0 | h0 <;> omega
                subst ho
                congr 2
                split <;> simp [Addr.add_add]
        · rename_i hms
          cases e
          cases mx with
          | some xm => simp at hms
          | none =>
            have hb' := abounds_grow hb hnc
            cases vmx with
            | some _ => exact h3.elim
            | none =>
              refine ⟨.slice (some (if c = l then (β h).addr.add o' else ((β h).addr.add o').add (l * z'))) (u - l) (c - l), ?_, ?_, hl⟩
              · rw [sliceAt_not_array ht (by simp)]
                simp only [Instr.slice, Sem.run_bind, run_underlying ht, Result.andThen_ok, run_abounds (vmx := none) hb' h1 h2 trivial, run_sizeOf hs, Sem.run_pure, Option.map_some]
                congr 2
                split <;> rfl
              · simp only [VR]
                by_cases hcl : c = l
                · refine ⟨c - l, o', by simp [hcl], by omega, .inl ⟨by omega, ?_⟩⟩
                  rcases hco with ⟨h0, h1⟩ | ⟨rfl, h0⟩
                  · have hl0 : l = 0 := by omega
                    subst hl0; simpa using h1
                  · subst hcl; exact h0
                · rcases hco with ⟨h0, _⟩ | ⟨rfl, h0⟩
                  · omega
                  · refine ⟨c - l, o' + l * z', ?_, by omega, .inr ⟨rfl, ?_⟩⟩
                    · simp [hcl, Addr.add_add]
                    · have : (c - l) * z' = c * z' - l * z' := Nat.sub_mul _ _ _
                      have h5 : l * z' ≤ c * z' := Nat.mul_le_mul_right _ (by omega)
                      omega
      · cases e
    · cases e
  · rename_i len el h o ht
    simp only [VR] at hx
    subst hx
    split at e
    · rename_i l u m z hb hs
      cases e
      refine ⟨_, ?_, rfl, hl⟩
      unfold Instr.sliceAt
      simp only [Sem.run_bind, run_underlying ht, Result.andThen_ok, Instr.sureAddr, Sem.run_pure, run_abounds hb h1 h2 h3, run_sizeOf hs]
      congr 2
      split <;> simp [Addr.add_add]
    · cases e
  · cases e

end Go.AL

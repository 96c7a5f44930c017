/- One operation; the operations of a region; code; calls. -/
import Derived.Test.YtdlplfhkmhkngaaALh
set_option linter.unusedVariables false
set_option linter.unusedSimpArgs false
namespace Go.AL
open Go.RowKit

/-! ### Stores, copies, bytes of a string -/
def astore (P : Program) (H : Hp) (t : TypeId) (a x : AV) : Option Hp :=
  match a, sizeT P t with
  | .ptr h o, some n =>
    match hget H h with
    | some b => if b.kind = .own ∧ x.solid = true ∧ x.cells.length = n ∧ o + n ≤ b.cells.length then some (H.set h ⟨splice b.cells o x.cells, .own, b.ety⟩) else none
    | none => none
  | _, _ => none

theorem run_astore {P : Program} {w0 : World} {B : Nat} {β : Nat → Bx} {H H' : Hp} {w : World} (R : Rel w0 B β H w) {t : TypeId} {a x : AV} {ua ux : Value} (e : astore P H t a x = some H') (ha : VR β a ua) (hx : VR β x ux) (hl : x.lt H.length) :
    ∃ w', (Instr.storeAt t ua ux).run P w = .ok () w' ∧ Rel w0 B β H' w' ∧ H'.length = H.length := by
  unfold astore at e
  split at e
  · rename_i h o n hs
    simp only [hget] at e
    split at e
    · rename_i b hb
      split at e
      · rename_i hc
        obtain ⟨hown, hso, hlen, hle⟩ := hc
        cases e
        simp only [VR] at ha
        subst ha
        have hcs := VR_cells hx (AV.solid_or hso)
        have hsz : ux.cells.size = n := by
          have := VRs_length hcs
          rw [Array.length_toList] at this
          omega
        obtain ⟨w', h1, h2⟩ := R.store (P := P) hb hown o x.cells ux.cells.toList hcs (AV.solid_cells hso) (AV.cells_lts hl) (by omega)
        refine ⟨w', ?_, h2, by simp⟩
        simp [Instr.storeAt, Instr.sureAddr, storeVar, run_sizeOf hs, hsz, h1]
      · cases e
    · cases e
  · cases e

def acopy (P : Program) (H : Hp) (t : TypeId) (d s : AV) : Option (AV × Hp) :=
  match P.underlying t with
  | some (.slice e) =>
    match sizeT P e with
    | some z =>
      match (match d with | .sl h o n _ => some (h, o, n) | .sg h o n _ => some (h, o, n) | _ => none) with
      | some (h, o, n) =>
        match arow H z s with
        | some (news, m) =>
          if min m n = 0 then some (.int .i64 0, H) else
          match hget H h with
          | some b =>
            if b.kind = .own ∧ news.all AV.one = true ∧ o + min m n * z ≤ b.cells.length ∧ 0 < z then
              some (.int .i64 (min m n : Nat), H.set h ⟨splice b.cells o (news.take (min m n * z)), .own, b.ety⟩)
            else none
          | none => none
        | none => none
      | none => none
    | none => none
  | _ => none

theorem run_acopy {P : Program} {w0 : World} {B : Nat} {β : Nat → Bx} {H H' : Hp} {w : World} (R : Rel w0 B β H w) {t t' ty : TypeId} {d s v : AV} {ud us : Value} (e : acopy P H t d s = some (v, H')) (hd : VR β d ud) (hs : VR β s us) :
    ∃ r w', (Builtin.copy_ #[t, t'] ty #[ud, us]).run P w = .ok r w' ∧ Made w0 B β H v H' r w' := by
  unfold acopy at e
  split at e
  case h_2 => cases e
  rename_i el ht
  split at e
  case h_2 => cases e
  rename_i z hz
  split at e
  case h_2 => cases e
  rename_i h o n hdd
  split at e
  case h_2 => cases e
  rename_i news m hrow
  obtain ⟨A, c, l, rfl, _, hvn, hln, hcell, hones, hnl, hA⟩ := R.arow hrow hs
  have hud : ∃ c' o', ud = .slice (some ((β h).addr.add o')) n c' ∧ (0 < n → o' = o) := by
    split at hdd
    · cases hdd; simp only [VR] at hd; exact ⟨_, o, hd, fun _ => rfl⟩
    · cases hdd; simp only [VR] at hd; obtain ⟨c, o', rfl, h1, h2⟩ := hd; exact ⟨c, o', rfl, fun _ => by omega⟩
    · cases hdd
  obtain ⟨c', o', rfl, ho⟩ := hud
  have hl0 : ∀ (a : Addr), (loadCells a 0).run P w = .ok #[] w := fun a => by simpa using run_loadCells_list (P := P) w a [] (by simp)
  split at e
  · rename_i hmin
    cases e
    have hmin' : Nat.min m n = 0 := hmin
    refine ⟨goInt 0, w, ?_, ⟨β, Agree.refl _ _, Nat.le_refl _, rfl, trivial, R⟩⟩
    cases A <;> simp [Builtin.copy_, run_underlying ht, Builtin.lenOf, Builtin.firstCells, run_sizeOf hz, hmin', hl0, storeCells, hmin]
  · rename_i hmin
    simp only [hget] at e
    split at e
    case h_2 => cases e
    rename_i b hb
    split at e
    case isFalse => cases e
    rename_i hc
    obtain ⟨hown, hall, hle, hzp⟩ := hc
    cases e
    obtain ⟨a, rfl, hac⟩ := hcell (by omega)
    have hoo := ho (by omega)
    subst hoo
    have hlen : (l.take (min m n * z)).length = min m n * z := by
      rw [List.length_take, hln]
      have : min m n * z ≤ m * z := Nat.mul_le_mul_right _ (Nat.min_le_left _ _)
      omega
    have hload := run_loadCells_list (P := P) w a (l.take (min m n * z)) (fun j v hv => by
      rw [List.getElem?_take] at hv
      split at hv
      · exact hac j v hv
      · cases hv)
    rw [hlen] at hload
    have hall' : (news.take (min m n * z)).all AV.one = true := by
      rw [List.all_eq_true] at hall ⊢
      exact fun c hc => hall c (List.mem_of_mem_take hc)
    have hlts : AV.lts H.length (news.take (min m n * z)) := by
      rw [AV.lts_iff] at hnl ⊢
      exact fun c hc => hnl c (List.mem_of_mem_take hc)
    have hnlen : (news.take (min m n * z)).length = min m n * z := by
      rw [← VRs_length (VRs_take hvn (min m n * z)), hlen]
    obtain ⟨w', h1, h2⟩ := R.store (P := P) hb hown o' (news.take (min m n * z)) (l.take (min m n * z)) (VRs_take hvn _) hall' hlts (by rw [hnlen]; exact hle)
    refine ⟨goInt (min m n : Nat), w', ?_, ⟨β, Agree.refl _ _, by simp, rfl, trivial, h2⟩⟩
    have hmm : Nat.min m n = min m n := rfl
    simp [Builtin.copy_, run_underlying ht, Builtin.lenOf, Builtin.firstCells, run_sizeOf hz, hmm, hload, h1]

/-- A block that is only read. -/
theorem Rel.newRo {w0 : World} {B : Nat} {β : Nat → Bx} {H : Hp} {w w' : World} (R : Rel w0 B β H w) (hb : Below w.heap.size w w') (cs : List AV) (vs : List Value) (tot : Nat) (ety : TypeId)
    (hl : AV.lts H.length cs) (hv : VRs β cs vs) (h1 : cs.all AV.one = true) (hc : ∀ (j : Nat) v, vs[j]? = some v → w'.cell? ⟨w.heap.size, j, none⟩ = some v) :
    Rel w0 B (upd β H.length ⟨⟨w.heap.size, 0, none⟩, tot⟩) (H ++ [⟨cs, .ro, ety⟩]) w' := by
  have R' := R.kept hb
  have hold : ∀ {h : Nat} {b : Blk}, (H ++ [(⟨cs, .ro, ety⟩ : Blk)])[h]? = some b → (h < H.length ∧ H[h]? = some b) ∨ (h = H.length ∧ b = ⟨cs, .ro, ety⟩) := by
    intro h b hb
    rcases Nat.lt_trichotomy h H.length with h1 | h1 | h1
    · rw [List.getElem?_append_left h1] at hb; exact .inl ⟨h1, hb⟩
    · subst h1; simp at hb; exact .inr ⟨rfl, hb.symm⟩
    · rw [List.getElem?_eq_none (by simp; omega)] at hb; cases hb
  have ag := agree_upd β H.length ⟨⟨w.heap.size, 0, none⟩, tot⟩
  have atn : upd β H.length ⟨⟨w.heap.size, 0, none⟩, tot⟩ H.length = ⟨⟨w.heap.size, 0, none⟩, tot⟩ := by simp [upd]
  have hlen : (H ++ [(⟨cs, .ro, ety⟩ : Blk)]).length = H.length + 1 := by simp
  refine ⟨R'.below, R'.base, ?_, ?_, ?_, (fun h b hh a t v e hk => (hold hh).elim (fun h' => R'.glob h b h'.2 a t v e hk) (fun h' => by rw [h'.2] at hk; cases hk)), ?_⟩
  · intro h b hh hd i c hi
    rcases hold hh with ⟨a1, a2⟩ | ⟨rfl, rfl⟩
    · obtain ⟨v, b1, b2, b3⟩ := R'.cells h b a2 hd i c hi
      exact ⟨v, by rw [ag h a1]; exact b1, VR_congr ag c v (R.lts h b a2 hd c (List.mem_of_getElem? hi)) b2, b3⟩
    · obtain ⟨v, b1, b2⟩ := VRs_get hv hi
      exact ⟨v, by rw [atn]; simp only [Addr.add_plain]; exact hc i v b1, VR_congr ag c v ((AV.lts_iff.1 hl) c (List.mem_of_getElem? hi)) b2, VRs_ones hv h1 v (List.mem_of_getElem? b1)⟩
  · intro h b hh hd c hi
    rw [hlen]
    rcases hold hh with ⟨a1, a2⟩ | ⟨rfl, rfl⟩
    · exact AV.lt_mono (by omega) c (R.lts h b a2 hd c hi)
    · exact AV.lt_mono (by omega) c ((AV.lts_iff.1 hl) c hi)
  · intro h b hh ho
    rcases hold hh with ⟨a1, a2⟩ | ⟨rfl, rfl⟩
    · rw [ag h a1]; exact R'.own h b a2 ho
    · cases ho
  · intro h h' b b' hne hh hh' ho hd hcc
    rcases hold hh with ⟨a1, a2⟩ | ⟨rfl, rfl⟩
    · rcases hold hh' with ⟨a1', a2'⟩ | ⟨rfl, rfl⟩
      · rw [ag h a1, ag h' a1']; exact R.sep h h' b b' hne a2 a2' ho hd hcc
      · rw [ag h a1, atn]
        have := R.block_lt a2 (by rw [ho]; decide) (.inl ho)
        simp only; omega
    · cases ho

def nums8 (s : ByteArray) : List Int := s.data.toList.map fun b => (b.toNat : Int)

def aofStr (P : Program) (H : Hp) (src dst : TypeId) (x : AV) : Option (AV × Hp) :=
  match P.underlying src, P.underlying dst, x with
  | some _, some (.slice e), .str s => if isU8 P e then some (.sg H.length 0 s.size 1, H ++ [⟨(nums8 s).map (AV.int .u8), .ro, e⟩]) else none
  | _, _, _ => none

theorem run_aofStr {P : Program} {w0 : World} {B : Nat} {β : Nat → Bx} {H H' : Hp} {w : World} (R : Rel w0 B β H w) {src dst : TypeId} {x v : AV} {u : Value} (e : aofStr P H src dst x = some (v, H')) (hx : VR β x u) :
    ∃ r w', (convert src dst u).run P w = .ok r w' ∧ Made w0 B β H v H' r w' := by
  unfold aofStr at e
  split at e
  · rename_i d el s hs hd
    split at e
    · rename_i he
      cases e
      simp only [VR] at hx
      subst hx
      have hge := grownCap_ge w s.size 0 el
      have hbl : Below w.heap.size w (Lib.bytesWorld w el s) := ⟨rfl, rfl, rfl, by rw [Lib.bytesWorld_size]; omega, fun k hk => Lib.bytesWorld_at_old w el s k hk⟩
      have hvs : VRs β ((nums8 s).map (AV.int .u8)) ((nums8 s).map (Value.int .u8)) := by
        rw [VRs_iff]
        refine ⟨by simp, fun i c v hc hv => ?_⟩
        rw [List.getElem?_map] at hc hv
        cases hn : (nums8 s)[i]? with
        | none => simp [hn] at hc
        | some q => simp [hn] at hc hv; subst hc; subst hv; rfl
      have hR := R.newRo hbl ((nums8 s).map (AV.int .u8)) ((nums8 s).map (Value.int .u8)) (grownCap w s.size 0 el) el
        (by rw [AV.lts_iff]; intro c hc; obtain ⟨q, _, rfl⟩ := List.mem_map.1 hc; trivial) hvs (by simp [AV.one])
        (by
          intro j v hv
          rw [List.getElem?_map] at hv
          have hj : j < s.size := by
            rcases Nat.lt_or_ge j s.size with h | h
            · exact h
            · have : (nums8 s)[j]? = none := List.getElem?_eq_none (by simp [nums8]; exact h)
              simp [this] at hv
          rw [Lib.bytesWorld_cell w el s j hj]
          have hjl : j < s.data.toList.length := by rw [Array.length_toList]; exact hj
          simp only [nums8, List.getElem?_map, List.getElem?_eq_getElem hjl, Option.map_some, Option.some.injEq] at hv
          rw [← hv]
          simp [List.getD, List.getElem?_eq_getElem hjl])
      refine ⟨_, _, Lib.run_convert_string_bytes w src dst el s hs hd (isU8_eq he), ⟨_, agree_upd _ _ _, by simp, ?_, by simp [AV.lt], hR⟩⟩
      simp only [VR]
      exact ⟨grownCap w s.size 0 el, 0, by simp [upd, Addr.add_plain], hge, .inr ⟨rfl, by simp [upd]⟩⟩
    · cases e
  · cases e

/-- A slice of bytes that is told to be one: the machine marks its row. -/
def aconvSame (P : Program) (H : Hp) (src dst : TypeId) (x : AV) : Option (AV × Hp) :=
  match P.underlying src, P.underlying dst, x with
  | some (.slice _), some (.slice e), .sl h o n c =>
    if src = dst ∧ isU8 P e = true then
      match hget H h with
      | some b => if b.kind = .own then some (.sl h o n c, H.set h ⟨b.cells, .ro, b.ety⟩) else none
      | none => none
    else none
  | _, _, _ => none

theorem freeze_cell (w : World) (a : Addr) (n : Nat) (p : Addr) : (w.freeze a n).cell? p = w.cell? p := by
  unfold World.freeze
  split
  · rfl
  · unfold World.cell?
    simp only [Array.getElem?_modify]
    by_cases h : a.block = p.block
    · rw [if_pos h]
      cases hq : w.heap[p.block]? with
      | none => rfl
      | some o => cases o <;> rfl
    · rw [if_neg h]
theorem freeze_heap (w : World) (a : Addr) (n k : Nat) (h : k ≠ a.block) : (w.freeze a n).heap[k]? = w.heap[k]? := by
  unfold World.freeze
  split
  · rfl
  · simp only [Array.getElem?_modify]
    rw [if_neg (fun e => h e.symm)]

theorem Rel.freeze {w0 : World} {B : Nat} {β : Nat → Bx} {H : Hp} {w : World} (R : Rel w0 B β H w) {h : Nat} {b : Blk} (hb : H[h]? = some b) (ho : b.kind = .own) (p : Addr) (hp : p.block = (β h).addr.block) (n : Nat) :
    Rel w0 B β (H.set h ⟨b.cells, .ro, b.ety⟩) (w.freeze p n) := by
  obtain ⟨g0, cur0, e0, hB0, hw0, _⟩ := R.own h b hb ho
  have hpg : p.block = g0 := by rw [hp, e0]
  refine ⟨R.below.trans ⟨by unfold World.freeze; split <;> rfl, by unfold World.freeze; split <;> rfl, by unfold World.freeze; split <;> rfl, by unfold World.freeze; split <;> simp, fun k hk => freeze_heap w p n k (by omega)⟩,
    by have := R.base; unfold World.freeze; split <;> simpa using this, ?_, ?_, ?_, (fun k b' hk a t v e hkd => (set_get hk).elim (fun h' => by rw [h'.2.1] at hkd; cases hkd) (fun h' => R.glob k b' h'.2 a t v e hkd)), ?_⟩
  · intro k b' hk hd i c hc
    rw [freeze_cell]
    rcases set_get hk with ⟨rfl, rfl, _⟩ | ⟨_, h1⟩
    · exact R.cells k b hb (by rw [ho]; decide) i c hc
    · exact R.cells k b' h1 hd i c hc
  · intro k b' hk hd c hc
    rw [List.length_set]
    rcases set_get hk with ⟨rfl, rfl, _⟩ | ⟨_, h1⟩
    · exact R.lts k b hb (by rw [ho]; decide) c hc
    · exact R.lts k b' h1 hd c hc
  · intro k b' hk hko
    rcases set_get hk with ⟨rfl, rfl, _⟩ | ⟨hne, h1⟩
    · cases hko
    · obtain ⟨g, cur, e, h2, h3, h4⟩ := R.own k b' h1 hko
      refine ⟨g, cur, e, h2, ?_, h4⟩
      rw [freeze_heap w p n g ?_]
      · exact h3
      · have := R.sep h k b b' (fun e => hne e.symm) hb h1 ho (by rw [hko]; decide) (.inl hko)
        rw [e0, e] at this
        rw [hpg]
        exact fun e => this e.symm
  · intro k k' b1 b2 hne hk hk' hko hd hc
    rcases set_get hk with ⟨rfl, rfl, _⟩ | ⟨hnk, h1⟩
    · cases hko
    · rcases set_get hk' with ⟨rfl, rfl, _⟩ | ⟨_, h2⟩
      · exact R.sep k k' b1 b hne h1 hb hko (by rw [ho]; decide) (.inl ho)
      · exact R.sep k k' b1 b2 hne h1 h2 hko hd hc

theorem run_aconvSame {P : Program} {w0 : World} {B : Nat} {β : Nat → Bx} {H H' : Hp} {w : World} (R : Rel w0 B β H w) {src dst : TypeId} {x v : AV} {u : Value} (e : aconvSame P H src dst x = some (v, H')) (hx : VR β x u) (hl : x.lt H.length) :
    ∃ r w', (convert src dst u).run P w = .ok r w' ∧ Made w0 B β H v H' r w' := by
  unfold aconvSame at e
  split at e
  · rename_i el' el h o n c hs hd
    split at e
    · rename_i hc
      obtain ⟨rfl, he⟩ := hc
      simp only [hget] at e
      split at e
      · rename_i b hb
        split at e
        · rename_i ho
          cases e
          simp only [VR] at hx
          subst hx
          rw [hs] at hd
          cases hd
          refine ⟨.slice (some ((β h).addr.add o)) n c, (match w.shape? ((β h).addr.add o).block with | some (_, m) => w.freeze { block := ((β h).addr.add o).block, off := m } 1 | none => w), ?_, ?_⟩
          · simp only [convert, Sem.run_bind, run_underlying hs, Result.andThen_ok, run_underlying (isU8_eq he), beq_self_eq_true, markStringish, run_shape]
            cases w.shape? ((β h).addr.add o).block with
            | none => rfl
            | some q => obtain ⟨t, m⟩ := q; rfl
          · obtain ⟨g, cur, e0, _, hw, _⟩ := R.own h b hb ho
            have hblk : ((β h).addr.add o).block = g := by rw [Addr.add_block, e0]
            have hsh : w.shape? ((β h).addr.add o).block = some (b.ety, cur.size) := by rw [hblk]; simp [World.shape?, hw]
            rw [hsh]
            exact ⟨β, Agree.refl _ _, by simp, rfl, by simpa [AV.lt] using hl, R.freeze hb ho _ (by simp [Addr.add_block]) 1⟩
        · cases e
      · cases e
    · cases e
  · cases e

def aconvH (P : Program) (H : Hp) (src dst : TypeId) (x : AV) : Option (AV × Hp) :=
  match aofStr P H src dst x with
  | some r => some r
  | none => aconvSame P H src dst x

theorem run_aconvH {P : Program} {w0 : World} {B : Nat} {β : Nat → Bx} {H H' : Hp} {w : World} (R : Rel w0 B β H w) {src dst : TypeId} {x v : AV} {u : Value} (e : aconvH P H src dst x = some (v, H')) (hx : VR β x u) (hl : x.lt H.length) :
    ∃ r w', (convert src dst u).run P w = .ok r w' ∧ Made w0 B β H v H' r w' := by
  unfold aconvH at e
  split at e
  · rename_i r hr; cases e; exact run_aofStr R hr hx
  · exact run_aconvSame R e hx hl

/-! ### One operation -/
def aoptEv (fr : Fr) (x : Option Operand) : Option AV := x.map (ev fr)

def astep (P : Program) (fr : Fr) (H : Hp) : Op → Option (AV × Hp)
  | .move x => some (ev fr x, H)
  | .assign x => some (ev fr x, H)
  | .pick c a b => match ev fr c with
    | .bool t => some (if t = true then ev fr a else ev fr b, H)
    | _ => none
  | .alloc t => (zeroT P t).bind (aalloc H t)
  | .box t x => aalloc H t (ev fr x)
  | .build t parts => (abuild P t (parts.toList.map fun p => (p.1, ev fr p.2))).map (·, H)
  | .buildSlice t len parts => abuildSlice P H t len (parts.toList.map fun p => (p.1, ev fr p.2))
  | .load t a => (aload P H t (ev fr a)).map (·, H)
  | .store t a x => (astore P H t (ev fr a) (ev fr x)).map (AV.tup [], ·)
  | .nilCheck x => match ev fr x with
    | .ptr h o => some (.ptr h o, H)
    | _ => none
  | .binOp op t x y _ => (abin P op t (isConstOp x) (isConstOp y) (ev fr x) (ev fr y)).map (·, H)
  | .unOp op _ x => (aun op (ev fr x)).map (·, H)
  | .convert s d x => match aconv P H s d (ev fr x) with
    | some v => some (v, H)
    | none => aconvH P H s d (ev fr x)
  | .sliceToArrayPointer t x => match P.underlying t, ev fr x with
    | some (.array n _), .sl h o m _ => if n ≤ m then some (.ptr h o, H) else none
    | some (.array n _), .sg h o m _ => if n ≤ m ∧ 0 < n then some (.ptr h o, H) else none
    | _, _ => none
  | .makeInterface t x => match P.underlying t with
    | some (.interface _) => none
    | some _ => some (.ifc t (ev fr x), H)
    | none => none
  | .makeSlice t l c => amakeSlice P H t (ev fr l) (ev fr c)
  | .slice t x lo hi mx => (aslice P t (ev fr x) (aoptEv fr lo) (aoptEv fr hi) (aoptEv fr mx)).map (·, H)
  | .fieldAddr s x f => (afieldAddr P s (ev fr x) f).map (·, H)
  | .field s x f => (afield P s (ev fr x) f).map (·, H)
  | .indexAddr t x i => (aindexAddr P t (ev fr x) (ev fr i)).map (·, H)
  | .index t x i => (aindex P t (ev fr x) (ev fr i)).map (·, H)
  | .typeAssert x _ t ok => (atypeAssert P (ev fr x) t ok).map (·, H)
  | .extract x i => match ev fr x with
    | .tup vs => (vs[i]?).map (·, H)
    | _ => none
  | .call c => match c.callee with
    | .builtin .append => match c.args.toList, c.argTypes.toList with
      | [s, x], [t, t'] => if t' = t then aappend P H t (ev fr s) (ev fr x) else aappend2 P H t t' (ev fr s) (ev fr x)
      | _, _ => none
    | .builtin .copy => match c.args.toList, c.argTypes.toList with
      | [d, s], [t, _] => acopy P H t (ev fr d) (ev fr s)
      | _, _ => none
    | .builtin b => (abuiltin P b c.argTypes (c.args.toList.map (ev fr))).map (·, H)
    | _ => none
  | _ => none

theorem evs_VR {β : Nat → Bx} {n : Nat} {fr : Fr} {a : Act} (F : FR β n fr a.tmps) (l : List Operand) : VRs β (l.map (ev fr)) (l.map a.eval) ∧ AV.lts n (l.map (ev fr)) := by
  induction l with
  | nil => exact ⟨rfl, trivial⟩
  | cons x l ih =>
    simp only [List.map_cons, VRs, AV.lts]
    exact ⟨⟨_, _, rfl, (ev_VR F x).1, ih.1⟩, (ev_VR F x).2, ih.2⟩

theorem opt_VR {β : Nat → Bx} {n : Nat} {fr : Fr} {a : Act} (F : FR β n fr a.tmps) (x : Option Operand) : VRo β (aoptEv fr x) (x.map a.eval) := by
  cases x with
  | none => trivial
  | some x => exact (ev_VR F x).1

theorem Made.same {w0 : World} {B : Nat} {β : Nat → Bx} {H : Hp} {w : World} (R : Rel w0 B β H w) {v : AV} {x : Value} (h1 : VR β v x) (h2 : v.lt H.length) : Made w0 B β H v H x w :=
  ⟨β, Agree.refl _ _, Nat.le_refl _, h1, h2, R⟩

theorem parts_VR {β : Nat → Bx} {n : Nat} {fr : Fr} {a : Act} (F : FR β n fr a.tmps) (parts : Array (Nat × Operand)) :
    (parts.toList.map fun p => (p.1, ev fr p.2)).length = (parts.map fun (i, x) => (i, a.eval x)).size ∧
    (∀ (i : Nat) p q, (parts.toList.map fun p => (p.1, ev fr p.2))[i]? = some p → (parts.map fun (i, x) => (i, a.eval x))[i]? = some q → p.1 = q.1 ∧ VR β p.2 q.2) ∧
    ∀ p ∈ (parts.toList.map fun p => (p.1, ev fr p.2)), p.2.lt n := by
  refine ⟨by simp, ?_, ?_⟩
  · intro i p q hp hq
    rw [List.getElem?_map, Array.getElem?_toList] at hp
    rw [Array.getElem?_map] at hq
    cases h : parts[i]? with
    | none => simp [h] at hp
    | some r => simp [h] at hp hq; subst hp; subst hq; exact ⟨rfl, (ev_VR F _).1⟩
  · intro p hp
    obtain ⟨r, _, rfl⟩ := List.mem_map.1 hp
    exact (ev_VR F _).2

theorem run_astep {P : Program} {w0 : World} {B : Nat} {β : Nat → Bx} {H H' : Hp} {w : World} (R : Rel w0 B β H w) {fr : Fr} {a : Act} (F : FR β H.length fr a.tmps) {o : Oper} {v : AV} (e : astep P fr H o.op = some (v, H')) :
    ∃ nx x w', (execOp a.eval o).run P w = .ok nx w' ∧ (nx = .value x ∨ (nx = .skip ∧ x = Go.undef)) ∧ Made w0 B β H v H' x w' := by
  obtain ⟨dst, op, ty, pos, after, guard⟩ := o
  simp only at e
  unfold astep at e
  split at e <;> (try simp only at e)
  · cases e; exact ⟨_, _, w, rfl, .inl rfl, Made.same R (ev_VR F _).1 (ev_VR F _).2⟩
  · cases e; exact ⟨_, _, w, rfl, .inl rfl, Made.same R (ev_VR F _).1 (ev_VR F _).2⟩
  · rename_i c x y
    split at e
    · rename_i t hc
      cases e
      have h := (ev_VR F c).1
      rw [hc] at h
      simp only [VR] at h
      refine ⟨.value (if t = true then a.eval x else a.eval y), _, w, ?_, .inl rfl, Made.same R ?_ ?_⟩
      · simp [execOp, h, asBool]
      · split <;> exact (ev_VR F _).1
      · split <;> exact (ev_VR F _).2
    · cases e
  · rename_i t
    obtain ⟨z, hz, e⟩ := Option.bind_eq_some_iff.1 e
    obtain ⟨i, zv, hi, hzv, hzr, rfl⟩ := zeroT_VR (β := β) hz
    obtain ⟨r, w', h1, h2⟩ := run_aalloc (P := P) R e hzr (ofValue_lt _ _)
    refine ⟨.value (.pointer (some r)), _, w', ?_, .inl rfl, h2⟩
    simp [execOp, Instr.alloc, zeroValue, typeInfo, hi, hzv, h1]
  · rename_i t x
    obtain ⟨r, w', h1, h2⟩ := run_aalloc (P := P) R e (ev_VR F x).1 (ev_VR F x).2
    refine ⟨.value (.pointer (some r)), _, w', ?_, .inl rfl, h2⟩
    simp [execOp, Instr.box, h1]
  · rename_i t parts
    obtain ⟨v', hv, he⟩ := Option.map_eq_some_iff.1 e
    cases he
    have hp := parts_VR F parts
    obtain ⟨r, h1, h2, h3⟩ := run_abuild (β := β) (N := H.length) hv hp.1 hp.2.1 hp.2.2 w
    exact ⟨.value r, r, w, by simp [execOp, h1], .inl rfl, Made.same R h2 h3⟩
  · rename_i t len parts
    have hp := parts_VR F parts
    obtain ⟨r, w', h1, h2⟩ := run_abuildSlice R e hp.1 hp.2.1 hp.2.2
    exact ⟨.value r, r, w', by simp [execOp, h1], .inl rfl, h2⟩
  · rename_i t x
    obtain ⟨v', hv, he⟩ := Option.map_eq_some_iff.1 e
    cases he
    have h := ev_VR F x
    have hx : ∃ h' o', ev fr x = .ptr h' o' := by
      unfold aload at hv
      split at hv
      · exact ⟨_, _, by assumption⟩
      · cases hv
    obtain ⟨h', o', hp⟩ := hx
    rw [hp] at h hv
    simp only [VR] at h
    obtain ⟨r, h1, h2, h3⟩ := run_loadVar_al (P := P) R hv
    exact ⟨.value r, r, w, by simp [execOp, Instr.loadAt, h.1, Instr.sureAddr, h1], .inl rfl, Made.same R h2 h3⟩
  · rename_i t x y
    obtain ⟨H1, hv, he⟩ := Option.map_eq_some_iff.1 e
    cases he
    obtain ⟨w', h1, h2, h3⟩ := run_astore R hv (ev_VR F x).1 (ev_VR F y).1 (ev_VR F y).2
    exact ⟨.skip, Go.undef, w', by simp [execOp, h1], .inr ⟨rfl, rfl⟩, ⟨β, Agree.refl _ _, by omega, by simp only [VR]; exact ⟨#[], rfl, rfl⟩, trivial, h2⟩⟩
  · rename_i x
    have h := ev_VR F x
    split at e
    · rename_i h' o' hp
      cases e
      rw [hp] at h
      refine ⟨.value (a.eval x), _, w, ?_, .inl rfl, Made.same R h.1 h.2⟩
      have h1 := h.1
      simp only [VR] at h1
      simp [execOp, h1]
    · cases e
  · rename_i op t x y u
    obtain ⟨v', hv, he⟩ := Option.map_eq_some_iff.1 e
    cases he
    obtain ⟨r, h1, h2, h3⟩ := run_abin hv (ev_VR F x).1 (ev_VR F y).1 w
    refine ⟨.value r, r, w, ?_, .inl rfl, Made.same R h2 (h3 _)⟩
    show ((do let r ← (do eqGuard op t x y (a.eval x) (a.eval y); binOp op t (a.eval x) (a.eval y) : Sem Value); pure (Next.value r)) : Sem Next).run P w = _
    rw [Sem.run_bind, h1]
    rfl
  · rename_i op u x
    obtain ⟨v', hv, he⟩ := Option.map_eq_some_iff.1 e
    cases he
    obtain ⟨r, h1, h2, h3⟩ := run_aun (P := P) hv (ev_VR F x).1 w
    exact ⟨.value r, r, w, by simp [execOp, h1], .inl rfl, Made.same R h2 (h3 _)⟩
  · rename_i s d x
    split at e
    · rename_i v' hv
      cases e
      obtain ⟨r, h1, h2, h3⟩ := run_aconv R hv (ev_VR F x).1
      exact ⟨.value r, r, w, by simp [execOp, h1], .inl rfl, Made.same R h2 (h3 _)⟩
    · obtain ⟨r, w', h1, h2⟩ := run_aconvH R e (ev_VR F x).1 (ev_VR F x).2
      exact ⟨.value r, r, w', by simp [execOp, h1], .inl rfl, h2⟩
  · rename_i t x
    have h := ev_VR F x
    split at e
    · rename_i n el h' o' m c ht hp
      split at e
      · rename_i hle
        cases e
        rw [hp] at h
        have h1 := h.1
        simp only [VR] at h1
        refine ⟨.value (.pointer (some ((β h').addr.add o'))), _, w, ?_, .inl rfl, Made.same R rfl h.2⟩
        have : ¬ (m < n) := by omega
        simp [execOp, Instr.arrayAt, run_underlying ht, h1, this]
      · cases e
    · rename_i n el h' o' m zz ht hp
      split at e
      · rename_i hle
        cases e
        rw [hp] at h
        have h1 := h.1
        simp only [VR] at h1
        obtain ⟨c, o2, h1, hnc, hco⟩ := h1
        have ho : o2 = o' := by rcases hco with h0 | h0 <;> omega
        subst ho
        refine ⟨.value (.pointer (some ((β h').addr.add o2))), _, w, ?_, .inl rfl, Made.same R rfl h.2⟩
        have : ¬ (m < n) := by omega
        simp [execOp, Instr.arrayAt, run_underlying ht, h1, this]
      · cases e
    · cases e
  · rename_i t x
    split at e
    · cases e
    · rename_i d hni hd
      cases e
      have h := ev_VR F x
      refine ⟨.value (.iface t (a.eval x)), _, w, ?_, .inl rfl, Made.same R (by simp only [VR]; exact ⟨_, rfl, h.1⟩) (by simpa only [AV.lt] using h.2)⟩
      simp only [execOp, Instr.makeInterface, Sem.run_bind, run_underlying hd, Result.andThen_ok]
      cases d <;> first | exact absurd rfl (hni _) | simp
    · cases e
  · rename_i t l c
    obtain ⟨r, w', h1, h2⟩ := run_amakeSlice R e (ev_VR F l).1 (ev_VR F c).1
    exact ⟨.value r, r, w', by simp [execOp, h1], .inl rfl, h2⟩
  · rename_i t x lo hi mx
    obtain ⟨v', hv, he⟩ := Option.map_eq_some_iff.1 e
    cases he
    obtain ⟨r, h1, h2, h3⟩ := run_aslice (P := P) hv (ev_VR F x).1 (ev_VR F x).2 (opt_VR F lo) (opt_VR F hi) (opt_VR F mx) w
    exact ⟨.value r, r, w, by simp [execOp, h1], .inl rfl, Made.same R h2 h3⟩
  · rename_i s x f
    obtain ⟨v', hv, he⟩ := Option.map_eq_some_iff.1 e
    cases he
    obtain ⟨r, h1, h2, h3⟩ := run_afieldAddr (P := P) hv (ev_VR F x).1 (ev_VR F x).2 w
    exact ⟨.value r, r, w, by simp [execOp, h1], .inl rfl, Made.same R h2 h3⟩
  · rename_i s x f
    obtain ⟨v', hv, he⟩ := Option.map_eq_some_iff.1 e
    cases he
    obtain ⟨r, h1, h2, h3⟩ := run_afield (P := P) hv (ev_VR F x).1 (ev_VR F x).2 w
    exact ⟨.value r, r, w, by simp [execOp, h1], .inl rfl, Made.same R h2 h3⟩
  · rename_i t x i
    obtain ⟨v', hv, he⟩ := Option.map_eq_some_iff.1 e
    cases he
    obtain ⟨r, h1, h2, h3⟩ := run_aindexAddr (P := P) hv (ev_VR F x).1 (ev_VR F x).2 (ev_VR F i).1 w
    exact ⟨.value r, r, w, by simp [execOp, h1], .inl rfl, Made.same R h2 h3⟩
  · rename_i t x i
    obtain ⟨v', hv, he⟩ := Option.map_eq_some_iff.1 e
    cases he
    obtain ⟨r, h1, h2, h3⟩ := run_aindex (P := P) hv (ev_VR F x).1 (ev_VR F x).2 (ev_VR F i).1 w
    exact ⟨.value r, r, w, by simp [execOp, h1], .inl rfl, Made.same R h2 h3⟩
  · rename_i x u t ok
    obtain ⟨v', hv, he⟩ := Option.map_eq_some_iff.1 e
    cases he
    obtain ⟨r, h1, h2, h3⟩ := run_atypeAssert (P := P) (xType := u) hv (ev_VR F x).1 (ev_VR F x).2 w
    exact ⟨.value r, r, w, by simp [execOp, h1], .inl rfl, Made.same R h2 h3⟩
  · rename_i x i
    have h := ev_VR F x
    split at e
    · rename_i vs hp
      obtain ⟨v', hv, he⟩ := Option.map_eq_some_iff.1 e
      cases he
      rw [hp] at h
      obtain ⟨h1, h2⟩ := h
      simp only [VR] at h1
      obtain ⟨l, hl, hvs⟩ := h1
      obtain ⟨r, hr, hvr⟩ := VRs_get hvs hv
      rw [Array.getElem?_toList] at hr
      simp only [AV.lt, AV.lts_iff] at h2
      exact ⟨.value r, r, w, by simp [execOp, hl, Instr.extract, hr], .inl rfl, Made.same R hvr (h2 v (List.mem_of_getElem? hv))⟩
    · cases e
  · rename_i c
    obtain ⟨callee, args, tys⟩ := c
    simp only at e
    have args2 : ∀ {x y : Operand}, args.toList = [x, y] → args = #[x, y] := fun h => by rw [← Array.toArray_toList (xs := args), h]
    have tys2 : ∀ {x y : TypeId}, tys.toList = [x, y] → tys = #[x, y] := fun h => by rw [← Array.toArray_toList (xs := tys), h]
    split at e
    · split at e
      · rename_i s x t t' ha ht
        split at e
        · rename_i htt
          subst htt
          obtain rfl := args2 ha
          obtain rfl := tys2 ht
          obtain ⟨r, w', h1, h2⟩ := run_aappend (ty := ty) R e (ev_VR F s).1 (ev_VR F x).1 (ev_VR F s).2
          refine ⟨.value r, r, w', ?_, .inl rfl, h2⟩
          simp [execOp, resolve, invoke, builtin, h1]
        · obtain rfl := args2 ha
          obtain rfl := tys2 ht
          obtain ⟨r, w', h1, h2⟩ := run_aappend2 (ty := ty) R e (ev_VR F s).1 (ev_VR F x).1
          refine ⟨.value r, r, w', ?_, .inl rfl, h2⟩
          simp [execOp, resolve, invoke, builtin, h1]
      · cases e
    · split at e
      · rename_i d s t t' ha ht
        obtain rfl := args2 ha
        obtain rfl := tys2 ht
        obtain ⟨r, w', h1, h2⟩ := run_acopy (ty := ty) (t' := t') R e (ev_VR F d).1 (ev_VR F s).1
        refine ⟨.value r, r, w', ?_, .inl rfl, h2⟩
        simp [execOp, resolve, invoke, builtin, h1]
      · cases e
    · rename_i b _ _
      obtain ⟨v', hv, he⟩ := Option.map_eq_some_iff.1 e
      cases he
      have hargs := evs_VR F args.toList
      have hargs' : VRs β (args.toList.map (ev fr)) (args.map a.eval).toList := by simpa using hargs.1
      obtain ⟨r, h1, h2, h3⟩ := run_abuiltin (P := P) (ty := ty) (cs := args.map fun | .const _ => true | _ => false) hv hargs' w
      refine ⟨.value r, r, w, ?_, .inl rfl, Made.same R h2 (h3 _)⟩
      simp only [execOp, resolve, Sem.run_bind, Sem.run_pure, Result.andThen_ok, invoke]
      exact h1
    · cases e
  · cases e

end Go.AL

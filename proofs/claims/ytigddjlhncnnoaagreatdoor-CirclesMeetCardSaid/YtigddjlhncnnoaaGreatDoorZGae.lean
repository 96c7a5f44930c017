/- Part 5 of the proof of laws of this seat: lemmas on the model's code, on this program's functions, on numbers. No condition. -/
import Derived.Test.YtigddjlhncnnoaaGreatDoorZGad
set_option linter.unusedVariables false
set_option linter.unusedSimpArgs false
open Nat renaming reduceEqDiff → J0, reduceLeDiff → J1, reduceMul → J2, reduceAdd → J3, reduceSub → J4, reduceLT → J5
open Int renaming reduceToNat → J6, reducePow → J7, reduceNeg → J8, reduceLT → J9, reduceLE → Ja, reduceEq → Jb
open And renaming intro → Jc
open Go.IntKind renaming bits → Jd
namespace Go.AL
open Go.RowKit
def Np (P : Program) (H : Hp) (t : TypeId) (a x : AV) : Option Hp :=
  match a, Xf P t with
  | .ptr h o, some n =>
    match X3 H h with
    | some b => if b.kind = .own ∧ x.solid = true ∧ x.cells.length = n ∧ o + n ≤ b.cells.length then some (H.set h ⟨Q2 b.cells o x.cells, .own, b.ety⟩) else none
    | none => none
  | _, _ => none
theorem run_astore {P : Program} {w0 : World} {B : Nat} {β : Env} {H H' : Hp} {w : World} (R : Rel w0 B β H w) {t : TypeId} {a x : AV} {ua ux : Value} (e : Np P H t a x = some H') (ha : VR β a ua) (hx : VR β x ux) (hl : x.lt H.length) :
    ∃ w', (Instr.storeAt t ua ux).run P w = .ok () w' ∧ Rel w0 B β H' w' ∧ H'.length = H.length := by
  unfold Np at e
  split at e
  · rename_i h o n hs
    simp only [X3] at e
    split at e
    · rename_i b hb
      split at e
      · rename_i hc
        obtain ⟨hown, hso, hlen, hle⟩ := hc
        cases e
        simp only [VR] at ha
        subst ha
        have hcs := VR_cells hx (AV.solid_or hso)
        have hsz : ux.cells.size = n := by
          have := Y4 hcs
          rw [Array.length_toList] at this
          omega
        obtain ⟨w', h1, h2⟩ := R.store (P := P) hb hown o x.cells ux.cells.toList hcs (AV.solid_cells hso) (AV.cells_lts hl) (by omega)
        refine ⟨w', ?_, h2, by simp⟩
        simp [Instr.storeAt, Instr.sureAddr, storeVar, Za hs, hsz, h1]
      · cases e
    · cases e
  · cases e
def acopy (P : Program) (H : Hp) (t : TypeId) (d s : AV) : Option (AV × Hp) :=
  match P.underlying t with
  | some (.slice e) =>
    match Xf P e with
    | some z =>
      match (match d with | .sl h o n _ => some (h, o, n) | .sg h o n _ => some (h, o, n) | _ => none) with
      | some (h, o, n) =>
        match arow H z s with
        | some (news, m) =>
          if min m n = 0 then some (.int .i64 0, H) else
          match X3 H h with
          | some b =>
            if b.kind = .own ∧ news.all AV.one = true ∧ o + min m n * z ≤ b.cells.length ∧ 0 < z then
              some (.int .i64 (min m n : Nat), H.set h ⟨Q2 b.cells o (news.take (min m n * z)), .own, b.ety⟩)
            else none
          | none => none
        | none => none
      | none => none
    | none => none
  | _ => none
theorem run_acopy {P : Program} {w0 : World} {B : Nat} {β : Env} {H H' : Hp} {w : World} (R : Rel w0 B β H w) {t t' ty : TypeId} {d s v : AV} {ud us : Value} (e : acopy P H t d s = some (v, H')) (hd : VR β d ud) (hs : VR β s us) :
    ∃ r w', (Builtin.copy_ #[t, t'] ty #[ud, us]).run P w = .ok r w' ∧ Made w0 B β H v H' r w' := by
  unfold acopy at e
  split at e
  case h_2 => cases e
  rename_i el ht
  split at e
  case h_2 => cases e
  rename_i z hz
  split at e
  case h_2 => cases e
  rename_i h o n hdd
  split at e
  case h_2 => cases e
  rename_i news m hrow
  obtain ⟨A, c, l, rfl, _, hvn, hln, hcell, hones, hnl, hA⟩ := R.arow hrow hs
  have hud : ∃ c' o', ud = .slice (some ((β h).addr.add o')) n c' ∧ (0 < n → o' = o) := by
    split at hdd
    · cases hdd; simp only [VR] at hd; exact ⟨_, o, hd, fun _ => rfl⟩
    · cases hdd; simp only [VR] at hd; obtain ⟨c, o', rfl, h1, h2⟩ := hd; exact ⟨c, o', rfl, fun _ => by omega⟩
    · cases hdd
  obtain ⟨c', o', rfl, ho⟩ := hud
  have hl0 : ∀ (a : Addr), (loadCells a 0).run P w = .ok #[] w := fun a => by simpa using run_loadCells_list (P := P) w a [] (by simp)
  split at e
  · rename_i hmin
    cases e
    have hmin' : Nat.min m n = 0 := hmin
    refine ⟨goInt 0, w, ?_, ⟨β, Agree.refl _ _, Nat.le_refl _, rfl, trivial, R⟩⟩
    cases A <;> simp [Builtin.copy_, run_underlying ht, Builtin.lenOf, Builtin.firstCells, Za hz, hmin', hl0, storeCells, hmin]
  · rename_i hmin
    simp only [X3] at e
    split at e
    case h_2 => cases e
    rename_i b hb
    split at e
    case isFalse => cases e
    rename_i hc
    obtain ⟨hown, hall, hle, hzp⟩ := hc
    cases e
    obtain ⟨a, rfl, hac⟩ := hcell (by omega)
    have hoo := ho (by omega)
    subst hoo
    have hlen : (l.take (min m n * z)).length = min m n * z := by
      rw [List.length_take, hln]
      have : min m n * z ≤ m * z := Nat.mul_le_mul_right _ (Nat.min_le_left _ _)
      omega
    have hload := run_loadCells_list (P := P) w a (l.take (min m n * z)) (fun j v hv => by
      rw [List.getElem?_take] at hv
      split at hv
      · exact hac j v hv
      · cases hv)
    rw [hlen] at hload
    have hall' : (news.take (min m n * z)).all AV.one = true := by
      rw [List.all_eq_true] at hall ⊢
      exact fun c hc => hall c (List.mem_of_mem_take hc)
    have hlts : AV.lts H.length (news.take (min m n * z)) := by
      rw [AV.lts_iff] at hnl ⊢
      exact fun c hc => hnl c (List.mem_of_mem_take hc)
    have hnlen : (news.take (min m n * z)).length = min m n * z := by
      rw [← Y4 (VRs_take hvn (min m n * z)), hlen]
    obtain ⟨w', h1, h2⟩ := R.store (P := P) hb hown o' (news.take (min m n * z)) (l.take (min m n * z)) (VRs_take hvn _) hall' hlts (by rw [hnlen]; exact hle)
    refine ⟨goInt (min m n : Nat), w', ?_, ⟨β, Agree.refl _ _, by simp, rfl, trivial, h2⟩⟩
    have hmm : Nat.min m n = min m n := rfl
    simp [Builtin.copy_, run_underlying ht, Builtin.lenOf, Builtin.firstCells, Za hz, hmm, hload, h1]
theorem Rel.newRo {w0 : World} {B : Nat} {β : Env} {H : Hp} {w w' : World} (R : Rel w0 B β H w) (hb : Below w.heap.size w w') (cs : List AV) (vs : List Value) (tot : Nat) (ety : TypeId)
    (hl : AV.lts H.length cs) (hv : VRs β cs vs) (h1 : cs.all AV.one = true) (hc : ∀ (j : Nat) v, vs[j]? = some v → w'.cell? ⟨w.heap.size, j, none⟩ = some v) :
    Rel w0 B (upd β H.length ⟨⟨w.heap.size, 0, none⟩, tot⟩) (H ++ [⟨cs, .ro, ety⟩]) w' := by
  have R' := R.kept hb
  have hold : ∀ {h : Nat} {b : Blk}, (H ++ [(⟨cs, .ro, ety⟩ : Blk)])[h]? = some b → (h < H.length ∧ H[h]? = some b) ∨ (h = H.length ∧ b = ⟨cs, .ro, ety⟩) := by
    intro h b hb
    rcases Nat.lt_trichotomy h H.length with h1 | h1 | h1
    · rw [List.getElem?_append_left h1] at hb; exact .inl ⟨h1, hb⟩
    · subst h1; simp at hb; exact .inr ⟨rfl, hb.symm⟩
    · rw [List.getElem?_eq_none (by simp; omega)] at hb; cases hb
  have ag := U6 β H.length ⟨⟨w.heap.size, 0, none⟩, tot⟩
  have atn : upd β H.length ⟨⟨w.heap.size, 0, none⟩, tot⟩ H.length = ⟨⟨w.heap.size, 0, none⟩, tot⟩ := by simp [upd]
  have hlen : (H ++ [(⟨cs, .ro, ety⟩ : Blk)]).length = H.length + 1 := by simp
  refine ⟨R'.below, R'.base, ?_, ?_, ?_, (fun h b hh a t v e hk => (hold hh).elim (fun h' => R'.glob h b h'.2 a t v e hk) (fun h' => by rw [h'.2] at hk; cases hk)), ?_, (fun a c hf => by
    obtain ⟨h1, ⟨v, h2, h3, h4⟩, h5, h6⟩ := R'.fzn a c hf
    refine ⟨h1, ⟨v, h2, Vc ag c v (AV.lt_mono (Nat.zero_le _) c h1) h3, h4⟩, fun h b hh hko => ?_, h6⟩
    rcases hold hh with ⟨a1, a2⟩ | ⟨rfl, rfl⟩
    · rw [ag h a1]; exact h5 h b a2 hko
    · cases hko), (fun h b hh hr hd hc => by
    rcases hold hh with ⟨a1, a2⟩ | ⟨rfl, rfl⟩
    · rw [ag h a1]; exact R'.roB h b a2 hr hd hc
    · rw [atn]; exact .inr R.base)⟩
  · intro h b hh hd i c hi
    rcases hold hh with ⟨a1, a2⟩ | ⟨rfl, rfl⟩
    · obtain ⟨v, b1, b2, b3⟩ := R'.cells h b a2 hd i c hi
      exact ⟨v, by rw [ag h a1]; exact b1, Vc ag c v (R.lts h b a2 hd c (List.mem_of_getElem? hi)) b2, b3⟩
    · obtain ⟨v, b1, b2⟩ := Na hv hi
      exact ⟨v, by rw [atn]; simp only [Addr.add_plain]; exact hc i v b1, Vc ag c v ((AV.lts_iff.1 hl) c (List.mem_of_getElem? hi)) b2, VRs_ones hv h1 v (List.mem_of_getElem? b1)⟩
  · intro h b hh hd c hi
    rw [hlen]
    rcases hold hh with ⟨a1, a2⟩ | ⟨rfl, rfl⟩
    · exact AV.lt_mono (by omega) c (R.lts h b a2 hd c hi)
    · exact AV.lt_mono (by omega) c ((AV.lts_iff.1 hl) c hi)
  · intro h b hh ho
    rcases hold hh with ⟨a1, a2⟩ | ⟨rfl, rfl⟩
    · rw [ag h a1]; exact R'.own h b a2 ho
    · cases ho
  · intro h h' b b' hne hh hh' ho hd hcc
    rcases hold hh with ⟨a1, a2⟩ | ⟨rfl, rfl⟩
    · rcases hold hh' with ⟨a1', a2'⟩ | ⟨rfl, rfl⟩
      · rw [ag h a1, ag h' a1']; exact R.sep h h' b b' hne a2 a2' ho hd hcc
      · rw [ag h a1, atn]
        have := R.block_lt a2 (by rw [ho]; decide) (.inl ho)
        simp only; omega
    · cases ho
def nums8 (s : ByteArray) : List Int := s.data.toList.map fun b => (b.toNat : Int)
def Jy (P : Program) (H : Hp) (src dst : TypeId) (x : AV) : Option (AV × Hp) :=
  match P.underlying src, P.underlying dst, x with
  | some _, some (.slice e), .str s => if Qi P e then some (.sg H.length 0 s.size 1, H ++ [⟨(nums8 s).map (AV.int .u8), .ro, e⟩]) else none
  | _, _, _ => none
theorem run_aofStr {P : Program} {w0 : World} {B : Nat} {β : Env} {H H' : Hp} {w : World} (R : Rel w0 B β H w) {src dst : TypeId} {x v : AV} {u : Value} (e : Jy P H src dst x = some (v, H')) (hx : VR β x u) :
    ∃ r w', (convert src dst u).run P w = .ok r w' ∧ Made w0 B β H v H' r w' := by
  unfold Jy at e
  split at e
  · rename_i d el s hs hd
    split at e
    · rename_i he
      cases e
      simp only [VR] at hx
      subst hx
      have hge := grownCap_ge w s.size 0 el
      have hbl : Below w.heap.size w (Lib.bytesWorld w el s) := ⟨rfl, rfl, rfl, by rw [Lib.bytesWorld_size]; omega, fun k hk => Lib.bytesWorld_at_old w el s k hk⟩
      have hvs : VRs β ((nums8 s).map (AV.int .u8)) ((nums8 s).map (Value.int .u8)) := by
        rw [VRs_iff]
        refine ⟨by simp, fun i c v hc hv => ?_⟩
        rw [List.getElem?_map] at hc hv
        cases hn : (nums8 s)[i]? with
        | none => simp [hn] at hc
        | some q => simp [hn] at hc hv; subst hc; subst hv; rfl
      have hR := R.newRo hbl ((nums8 s).map (AV.int .u8)) ((nums8 s).map (Value.int .u8)) (grownCap w s.size 0 el) el
        (by rw [AV.lts_iff]; intro c hc; obtain ⟨q, _, rfl⟩ := List.mem_map.1 hc; trivial) hvs (by simp [AV.one])
        (by
          intro j v hv
          rw [List.getElem?_map] at hv
          have hj : j < s.size := by
            rcases Nat.lt_or_ge j s.size with h | h
            · exact h
            · have : (nums8 s)[j]? = none := List.getElem?_eq_none (by simp [nums8]; exact h)
              simp [this] at hv
          rw [Lib.bytesWorld_cell w el s j hj]
          have hjl : j < s.data.toList.length := by rw [Array.length_toList]; exact hj
          simp only [nums8, List.getElem?_map, List.getElem?_eq_getElem hjl, Option.map_some, Option.some.injEq] at hv
          rw [← hv]
          simp [List.getD, List.getElem?_eq_getElem hjl])
      refine ⟨_, _, Lib.run_convert_string_bytes w src dst el s hs hd (J0t he), ⟨_, U6 _ _ _, by simp, ?_, by simp [AV.lt], hR⟩⟩
      simp only [VR]
      exact ⟨grownCap w s.size 0 el, 0, by simp [upd, Addr.add_plain], hge, .inr ⟨rfl, by simp [upd]⟩⟩
    · cases e
  · cases e
def Jj (P : Program) (H : Hp) (src dst : TypeId) (x : AV) : Option (AV × Hp) :=
  match P.underlying src, P.underlying dst, x with
  | some (.slice _), some (.slice e), .sl h o n c =>
    if src = dst ∧ Qi P e = true then
      match X3 H h with
      | some b => if b.kind = .own then some (.sl h o n c, H.set h ⟨b.cells, .ro, b.ety⟩) else none
      | none => none
    else none
  | _, _, _ => none
theorem freeze_cell (w : World) (a : Addr) (n : Nat) (p : Addr) : (w.freeze a n).cell? p = w.cell? p := by
  unfold World.freeze
  split
  · rfl
  · unfold World.cell?
    simp only [Array.getElem?_modify]
    by_cases h : a.block = p.block
    · rw [if_pos h]
      cases hq : w.heap[p.block]? with
      | none => rfl
      | some o => cases o <;> rfl
    · rw [if_neg h]
theorem freeze_heap (w : World) (a : Addr) (n k : Nat) (h : k ≠ a.block) : (w.freeze a n).heap[k]? = w.heap[k]? := by
  unfold World.freeze
  split
  · rfl
  · simp only [Array.getElem?_modify]
    rw [if_neg (fun e => h e.symm)]
theorem Rel.freeze {w0 : World} {B : Nat} {β : Env} {H : Hp} {w : World} (R : Rel w0 B β H w) {h : Nat} {b : Blk} (hb : H[h]? = some b) (ho : b.kind = .own) (p : Addr) (hp : p.block = (β h).addr.block) (n : Nat) :
    Rel w0 B β (H.set h ⟨b.cells, .ro, b.ety⟩) (w.freeze p n) := by
  obtain ⟨g0, cur0, e0, hB0, hw0, _⟩ := R.own h b hb ho
  have hpg : p.block = g0 := by rw [hp, e0]
  refine ⟨R.below.trans ⟨by unfold World.freeze; split <;> rfl, by unfold World.freeze; split <;> rfl, by unfold World.freeze; split <;> rfl, by unfold World.freeze; split <;> simp, fun k hk => freeze_heap w p n k (by omega)⟩,
    by have := R.base; unfold World.freeze; split <;> simpa using this, ?_, ?_, ?_, (fun k b' hk a t v e hkd => (Ym hk).elim (fun h' => by rw [h'.2.1] at hkd; cases hkd) (fun h' => R.glob k b' h'.2 a t v e hkd)), ?_, (fun a c hf => by
    obtain ⟨h1, ⟨v, h2, h3, h4⟩, h5, h6⟩ := R.fzn a c hf
    refine ⟨h1, ⟨v, by rw [freeze_cell]; exact h2, h3, h4⟩, fun k b' hk hko => ?_, h6⟩
    rcases Ym hk with ⟨rfl, rfl, _⟩ | ⟨_, hk'⟩
    · cases hko
    · exact h5 k b' hk' hko), (fun k b' hk hr hd hc => by
    rcases Ym hk with ⟨rfl, rfl, _⟩ | ⟨_, hk'⟩
    · rw [e0]; exact .inr hB0
    · exact R.roB k b' hk' hr hd hc)⟩
  · intro k b' hk hd i c hc
    rw [freeze_cell]
    rcases Ym hk with ⟨rfl, rfl, _⟩ | ⟨_, h1⟩
    · exact R.cells k b hb (by rw [ho]; decide) i c hc
    · exact R.cells k b' h1 hd i c hc
  · intro k b' hk hd c hc
    rw [List.length_set]
    rcases Ym hk with ⟨rfl, rfl, _⟩ | ⟨_, h1⟩
    · exact R.lts k b hb (by rw [ho]; decide) c hc
    · exact R.lts k b' h1 hd c hc
  · intro k b' hk hko
    rcases Ym hk with ⟨rfl, rfl, _⟩ | ⟨hne, h1⟩
    · cases hko
    · obtain ⟨g, cur, e, h2, h3, h4⟩ := R.own k b' h1 hko
      refine ⟨g, cur, e, h2, ?_, h4⟩
      rw [freeze_heap w p n g ?_]
      · exact h3
      · have := R.sep h k b b' (fun e => hne e.symm) hb h1 ho (by rw [hko]; decide) (.inl hko)
        rw [e0, e] at this
        rw [hpg]
        exact fun e => this e.symm
  · intro k k' b1 b2 hne hk hk' hko hd hc
    rcases Ym hk with ⟨rfl, rfl, _⟩ | ⟨hnk, h1⟩
    · cases hko
    · rcases Ym hk' with ⟨rfl, rfl, _⟩ | ⟨_, h2⟩
      · exact R.sep k k' b1 b hne h1 hb hko (by rw [ho]; decide) (.inl ho)
      · exact R.sep k k' b1 b2 hne h1 h2 hko hd hc
theorem run_aconvSame {P : Program} {w0 : World} {B : Nat} {β : Env} {H H' : Hp} {w : World} (R : Rel w0 B β H w) {src dst : TypeId} {x v : AV} {u : Value} (e : Jj P H src dst x = some (v, H')) (hx : VR β x u) (hl : x.lt H.length) :
    ∃ r w', (convert src dst u).run P w = .ok r w' ∧ Made w0 B β H v H' r w' := by
  unfold Jj at e
  split at e
  · rename_i el' el h o n c hs hd
    split at e
    · rename_i hc
      obtain ⟨rfl, he⟩ := hc
      simp only [X3] at e
      split at e
      · rename_i b hb
        split at e
        · rename_i ho
          cases e
          simp only [VR] at hx
          subst hx
          rw [hs] at hd
          cases hd
          refine ⟨.slice (some ((β h).addr.add o)) n c, (match w.shape? ((β h).addr.add o).block with | some (_, m) => w.freeze { block := ((β h).addr.add o).block, off := m } 1 | none => w), ?_, ?_⟩
          · simp only [convert, Sem.run_bind, run_underlying hs, Result.andThen_ok, run_underlying (J0t he), beq_self_eq_true, markStringish, run_shape]
            cases w.shape? ((β h).addr.add o).block with
            | none => rfl
            | some q => obtain ⟨t, m⟩ := q; rfl
          · obtain ⟨g, cur, e0, _, hw, _⟩ := R.own h b hb ho
            have hblk : ((β h).addr.add o).block = g := by rw [Addr.add_block, e0]
            have hsh : w.shape? ((β h).addr.add o).block = some (b.ety, cur.size) := by rw [hblk]; simp [World.shape?, hw]
            rw [hsh]
            exact ⟨β, Agree.refl _ _, by simp, rfl, by simpa [AV.lt] using hl, R.freeze hb ho _ (by simp [Addr.add_block]) 1⟩
        · cases e
      · cases e
    · cases e
  · cases e
def Jz (P : Program) (H : Hp) (src dst : TypeId) (x : AV) : Option (AV × Hp) :=
  match Jy P H src dst x with
  | some r => some r
  | none => Jj P H src dst x
theorem run_aconvH {P : Program} {w0 : World} {B : Nat} {β : Env} {H H' : Hp} {w : World} (R : Rel w0 B β H w) {src dst : TypeId} {x v : AV} {u : Value} (e : Jz P H src dst x = some (v, H')) (hx : VR β x u) (hl : x.lt H.length) :
    ∃ r w', (convert src dst u).run P w = .ok r w' ∧ Made w0 B β H v H' r w' := by
  unfold Jz at e
  split at e
  · rename_i r hr; cases e; exact run_aofStr R hr hx
  · exact run_aconvSame R e hx hl
def Jv (fr : Fr) (x : Option Operand) : Option AV := x.map (ev fr)
def Q6 (P : Program) (fr : Fr) (H : Hp) : Op → Option (AV × Hp)
  | .move x => some (ev fr x, H)
  | .assign x => some (ev fr x, H)
  | .pick c a b => match ev fr c with
    | .bool t => some (if t = true then ev fr a else ev fr b, H)
    | _ => none
  | .alloc t => (Z2 P t).bind (Jw H t)
  | .box t x => Jw H t (ev fr x)
  | .build t parts => (Yh P t (parts.toList.map fun p => (p.1, ev fr p.2))).map (·, H)
  | .buildSlice t len parts => Jf P H t len (parts.toList.map fun p => (p.1, ev fr p.2))
  | .load t a => (V7 P H t (ev fr a)).map (·, H)
  | .store t a x => (Np P H t (ev fr a) (ev fr x)).map (AV.tup [], ·)
  | .nilCheck x => match ev fr x with
    | .ptr h o => some (.ptr h o, H)
    | .fp cs => some (.fp cs, H)
    | _ => none
  | .binOp op t x y _ => (Qm P op t (Ji x) (Ji y) (ev fr x) (ev fr y)).map (·, H)
  | .unOp op _ x => (aun op (ev fr x)).map (·, H)
  | .convert s d x => match Up P H s d (ev fr x) with
    | some v => some (v, H)
    | none => Jz P H s d (ev fr x)
  | .sliceToArrayPointer t x => match P.underlying t, ev fr x with
    | some (.array n _), .sl h o m _ => if n ≤ m then some (.ptr h o, H) else none
    | some (.array n _), .sg h o m _ => if n ≤ m ∧ 0 < n then some (.ptr h o, H) else none
    | _, _ => none
  | .makeInterface t x => match P.underlying t with
    | some (.interface _) => none
    | some _ => some (.ifc t (ev fr x), H)
    | none => none
  | .makeSlice t l c => Yk P H t (ev fr l) (ev fr c)
  | .slice t x lo hi mx => (Yg P t (ev fr x) (Jv fr lo) (Jv fr hi) (Jv fr mx)).map (·, H)
  | .fieldAddr s x f => (Qh P s (ev fr x) f).map (·, H)
  | .field s x f => (afield P s (ev fr x) f).map (·, H)
  | .indexAddr t x i => (Qx P t (ev fr x) (ev fr i)).map (·, H)
  | .index t x i => (Gv P t (ev fr x) (ev fr i)).map (·, H)
  | .typeAssert x _ t ok => (Va P (ev fr x) t ok).map (·, H)
  | .extract x i => match ev fr x with
    | .tup vs => (vs[i]?).map (·, H)
    | _ => none
  | .call c => match c.callee with
    | .builtin .append => match c.args.toList, c.argTypes.toList with
      | [s, x], [t, t'] => if t' = t then Yf P H t (ev fr s) (ev fr x) else aappend2 P H t t' (ev fr s) (ev fr x)
      | _, _ => none
    | .builtin .copy => match c.args.toList, c.argTypes.toList with
      | [d, s], [t, _] => acopy P H t (ev fr d) (ev fr s)
      | _, _ => none
    | .builtin b => (Qn P b c.argTypes (c.args.toList.map (ev fr))).map (·, H)
    | _ => none
  | _ => none
theorem evs_VR {β : Env} {n : Nat} {fr : Fr} {a : Act} (F : FR β n fr a.tmps) (l : List Operand) : VRs β (l.map (ev fr)) (l.map a.eval) ∧ AV.lts n (l.map (ev fr)) := by
  induction l with
  | nil => exact ⟨rfl, trivial⟩
  | cons x l ih =>
    simp only [List.map_cons, VRs, AV.lts]
    exact ⟨⟨_, _, rfl, (Y5 F x).1, ih.1⟩, (Y5 F x).2, ih.2⟩
theorem opt_VR {β : Env} {n : Nat} {fr : Fr} {a : Act} (F : FR β n fr a.tmps) (x : Option Operand) : VRo β (Jv fr x) (x.map a.eval) := by
  cases x with
  | none => trivial
  | some x => exact (Y5 F x).1
theorem Made.same {w0 : World} {B : Nat} {β : Env} {H : Hp} {w : World} (R : Rel w0 B β H w) {v : AV} {x : Value} (h1 : VR β v x) (h2 : v.lt H.length) : Made w0 B β H v H x w :=
  ⟨β, Agree.refl _ _, Nat.le_refl _, h1, h2, R⟩
theorem parts_VR {β : Env} {n : Nat} {fr : Fr} {a : Act} (F : FR β n fr a.tmps) (parts : Array (Nat × Operand)) :
    (parts.toList.map fun p => (p.1, ev fr p.2)).length = (parts.map fun (i, x) => (i, a.eval x)).size ∧
    (∀ (i : Nat) p q, (parts.toList.map fun p => (p.1, ev fr p.2))[i]? = some p → (parts.map fun (i, x) => (i, a.eval x))[i]? = some q → p.1 = q.1 ∧ VR β p.2 q.2) ∧
    ∀ p ∈ (parts.toList.map fun p => (p.1, ev fr p.2)), p.2.lt n := by
  refine ⟨by simp, ?_, ?_⟩
  · intro i p q hp hq
    rw [List.getElem?_map, Array.getElem?_toList] at hp
    rw [Array.getElem?_map] at hq
    cases h : parts[i]? with
    | none => simp [h] at hp
    | some r => simp [h] at hp hq; subst hp; subst hq; exact ⟨rfl, (Y5 F _).1⟩
  · intro p hp
    obtain ⟨r, _, rfl⟩ := List.mem_map.1 hp
    exact (Y5 F _).2
theorem run_astep {P : Program} {w0 : World} {B : Nat} {β : Env} {H H' : Hp} {w : World} (R : Rel w0 B β H w) {fr : Fr} {a : Act} (F : FR β H.length fr a.tmps) {o : Oper} {v : AV} (e : Q6 P fr H o.op = some (v, H')) :
    ∃ nx x w', (execOp a.eval o).run P w = .ok nx w' ∧ (nx = .value x ∨ (nx = .skip ∧ x = Go.undef)) ∧ Made w0 B β H v H' x w' := by
  obtain ⟨dst, op, ty, pos, after, guard⟩ := o
  simp only at e
  unfold Q6 at e
  split at e <;> (try simp only at e)
  · cases e; exact ⟨_, _, w, rfl, .inl rfl, Made.same R (Y5 F _).1 (Y5 F _).2⟩
  · cases e; exact ⟨_, _, w, rfl, .inl rfl, Made.same R (Y5 F _).1 (Y5 F _).2⟩
  · rename_i c x y
    split at e
    · rename_i t hc
      cases e
      have h := (Y5 F c).1
      rw [hc] at h
      simp only [VR] at h
      refine ⟨.value (if t = true then a.eval x else a.eval y), _, w, ?_, .inl rfl, Made.same R ?_ ?_⟩
      · simp [execOp, h, asBool]
      · split <;> exact (Y5 F _).1
      · split <;> exact (Y5 F _).2
    · cases e
  · rename_i t
    obtain ⟨z, hz, e⟩ := Option.bind_eq_some_iff.1 e
    obtain ⟨i, zv, hi, hzv, hzr, rfl⟩ := Ro (β := β) hz
    obtain ⟨r, w', h1, h2⟩ := run_aalloc (P := P) R e hzr (G0 _ _)
    refine ⟨.value (.pointer (some r)), _, w', ?_, .inl rfl, h2⟩
    simp [execOp, Instr.alloc, zeroValue, typeInfo, hi, hzv, h1]
  · rename_i t x
    obtain ⟨r, w', h1, h2⟩ := run_aalloc (P := P) R e (Y5 F x).1 (Y5 F x).2
    refine ⟨.value (.pointer (some r)), _, w', ?_, .inl rfl, h2⟩
    simp [execOp, Instr.box, h1]
  · rename_i t parts
    obtain ⟨v', hv, he⟩ := Option.map_eq_some_iff.1 e
    cases he
    have hp := parts_VR F parts
    obtain ⟨r, h1, h2, h3⟩ := run_abuild (β := β) (N := H.length) hv hp.1 hp.2.1 hp.2.2 w
    exact ⟨.value r, r, w, by simp [execOp, h1], .inl rfl, Made.same R h2 h3⟩
  · rename_i t len parts
    have hp := parts_VR F parts
    obtain ⟨r, w', h1, h2⟩ := run_abuildSlice R e hp.1 hp.2.1 hp.2.2
    exact ⟨.value r, r, w', by simp [execOp, h1], .inl rfl, h2⟩
  · rename_i t x
    obtain ⟨v', hv, he⟩ := Option.map_eq_some_iff.1 e
    cases he
    have h := Y5 F x
    have hx : (∃ h' o', ev fr x = .ptr h' o') ∨ ∃ cs, ev fr x = .fp cs := by
      unfold V7 at hv
      split at hv
      · exact .inl ⟨_, _, by assumption⟩
      · exact .inr ⟨_, by assumption⟩
      · cases hv
    rcases hx with ⟨h', o', hp⟩ | ⟨cs, hp⟩
    case inr =>
      rw [hp] at h hv
      simp only [VR] at h
      obtain ⟨⟨y, hy, hf⟩, _⟩ := h
      obtain ⟨r, h1, h2, h3⟩ := run_loadVar_fz (P := P) R hv hf
      exact ⟨.value r, r, w, by simp [execOp, Instr.loadAt, hy, Instr.sureAddr, h1], .inl rfl, Made.same R h2 h3⟩
    rw [hp] at h hv
    simp only [VR] at h
    obtain ⟨r, h1, h2, h3⟩ := run_loadVar_al (P := P) R hv
    exact ⟨.value r, r, w, by simp [execOp, Instr.loadAt, h.1, Instr.sureAddr, h1], .inl rfl, Made.same R h2 h3⟩
  · rename_i t x y
    obtain ⟨H1, hv, he⟩ := Option.map_eq_some_iff.1 e
    cases he
    obtain ⟨w', h1, h2, h3⟩ := run_astore R hv (Y5 F x).1 (Y5 F y).1 (Y5 F y).2
    exact ⟨.skip, Go.undef, w', by simp [execOp, h1], .inr ⟨rfl, rfl⟩, ⟨β, Agree.refl _ _, by omega, by simp only [VR]; exact ⟨#[], rfl, rfl⟩, trivial, h2⟩⟩
  · rename_i x
    have h := Y5 F x
    split at e
    · rename_i h' o' hp
      cases e
      rw [hp] at h
      refine ⟨.value (a.eval x), _, w, ?_, .inl rfl, Made.same R h.1 h.2⟩
      have h1 := h.1
      simp only [VR] at h1
      simp [execOp, h1]
    · rename_i cs hp
      cases e
      rw [hp] at h
      refine ⟨.value (a.eval x), _, w, ?_, .inl rfl, Made.same R h.1 h.2⟩
      obtain ⟨⟨y, h1, _⟩, _⟩ := h
      simp [execOp, h1]
    · cases e
  · rename_i op t x y u
    obtain ⟨v', hv, he⟩ := Option.map_eq_some_iff.1 e
    cases he
    obtain ⟨r, h1, h2, h3⟩ := run_abin hv (Y5 F x).1 (Y5 F y).1 w
    refine ⟨.value r, r, w, ?_, .inl rfl, Made.same R h2 (h3 _)⟩
    show ((do let r ← (do eqGuard op t x y (a.eval x) (a.eval y); binOp op t (a.eval x) (a.eval y) : Sem Value); pure (Next.value r)) : Sem Next).run P w = _
    rw [Sem.run_bind, h1]
    rfl
  · rename_i op u x
    obtain ⟨v', hv, he⟩ := Option.map_eq_some_iff.1 e
    cases he
    obtain ⟨r, h1, h2, h3⟩ := run_aun (P := P) hv (Y5 F x).1 w
    exact ⟨.value r, r, w, by simp [execOp, h1], .inl rfl, Made.same R h2 (h3 _)⟩
  · rename_i s d x
    split at e
    · rename_i v' hv
      cases e
      obtain ⟨r, h1, h2, h3⟩ := run_aconv R hv (Y5 F x).1
      exact ⟨.value r, r, w, by simp [execOp, h1], .inl rfl, Made.same R h2 (h3 _)⟩
    · obtain ⟨r, w', h1, h2⟩ := run_aconvH R e (Y5 F x).1 (Y5 F x).2
      exact ⟨.value r, r, w', by simp [execOp, h1], .inl rfl, h2⟩
  · rename_i t x
    have h := Y5 F x
    split at e
    · rename_i n el h' o' m c ht hp
      split at e
      · rename_i hle
        cases e
        rw [hp] at h
        have h1 := h.1
        simp only [VR] at h1
        refine ⟨.value (.pointer (some ((β h').addr.add o'))), _, w, ?_, .inl rfl, Made.same R rfl h.2⟩
        have : ¬ (m < n) := by omega
        simp [execOp, Instr.arrayAt, run_underlying ht, h1, this]
      · cases e
    · rename_i n el h' o' m zz ht hp
      split at e
      · rename_i hle
        cases e
        rw [hp] at h
        have h1 := h.1
        simp only [VR] at h1
        obtain ⟨c, o2, h1, hnc, hco⟩ := h1
        have ho : o2 = o' := by rcases hco with h0 | h0 <;> omega
        subst ho
        refine ⟨.value (.pointer (some ((β h').addr.add o2))), _, w, ?_, .inl rfl, Made.same R rfl h.2⟩
        have : ¬ (m < n) := by omega
        simp [execOp, Instr.arrayAt, run_underlying ht, h1, this]
      · cases e
    · cases e
  · rename_i t x
    split at e
    · cases e
    · rename_i d hni hd
      cases e
      have h := Y5 F x
      refine ⟨.value (.iface t (a.eval x)), _, w, ?_, .inl rfl, Made.same R (by simp only [VR]; exact ⟨_, rfl, h.1⟩) (by simpa only [AV.lt] using h.2)⟩
      simp only [execOp, Instr.makeInterface, Sem.run_bind, run_underlying hd, Result.andThen_ok]
      cases d <;> first | exact absurd rfl (hni _) | simp
    · cases e
  · rename_i t l c
    obtain ⟨r, w', h1, h2⟩ := run_amakeSlice R e (Y5 F l).1 (Y5 F c).1
    exact ⟨.value r, r, w', by simp [execOp, h1], .inl rfl, h2⟩
  · rename_i t x lo hi mx
    obtain ⟨v', hv, he⟩ := Option.map_eq_some_iff.1 e
    cases he
    obtain ⟨r, h1, h2, h3⟩ := run_aslice (P := P) hv (Y5 F x).1 (Y5 F x).2 (opt_VR F lo) (opt_VR F hi) (opt_VR F mx) w
    exact ⟨.value r, r, w, by simp [execOp, h1], .inl rfl, Made.same R h2 h3⟩
  · rename_i s x f
    obtain ⟨v', hv, he⟩ := Option.map_eq_some_iff.1 e
    cases he
    obtain ⟨r, h1, h2, h3⟩ := run_afieldAddr (P := P) hv (Y5 F x).1 (Y5 F x).2 w
    exact ⟨.value r, r, w, by simp [execOp, h1], .inl rfl, Made.same R h2 h3⟩
  · rename_i s x f
    obtain ⟨v', hv, he⟩ := Option.map_eq_some_iff.1 e
    cases he
    obtain ⟨r, h1, h2, h3⟩ := run_afield (P := P) hv (Y5 F x).1 (Y5 F x).2 w
    exact ⟨.value r, r, w, by simp [execOp, h1], .inl rfl, Made.same R h2 h3⟩
  · rename_i t x i
    obtain ⟨v', hv, he⟩ := Option.map_eq_some_iff.1 e
    cases he
    obtain ⟨r, h1, h2, h3⟩ := run_aindexAddr (P := P) hv (Y5 F x).1 (Y5 F x).2 (Y5 F i).1 w
    exact ⟨.value r, r, w, by simp [execOp, h1], .inl rfl, Made.same R h2 h3⟩
  · rename_i t x i
    obtain ⟨v', hv, he⟩ := Option.map_eq_some_iff.1 e
    cases he
    obtain ⟨r, h1, h2, h3⟩ := run_aindex (P := P) hv (Y5 F x).1 (Y5 F x).2 (Y5 F i).1 w
    exact ⟨.value r, r, w, by simp [execOp, h1], .inl rfl, Made.same R h2 h3⟩
  · rename_i x u t ok
    obtain ⟨v', hv, he⟩ := Option.map_eq_some_iff.1 e
    cases he
    obtain ⟨r, h1, h2, h3⟩ := run_atypeAssert (P := P) (xType := u) hv (Y5 F x).1 (Y5 F x).2 w
    exact ⟨.value r, r, w, by simp [execOp, h1], .inl rfl, Made.same R h2 h3⟩
  · rename_i x i
    have h := Y5 F x
    split at e
    · rename_i vs hp
      obtain ⟨v', hv, he⟩ := Option.map_eq_some_iff.1 e
      cases he
      rw [hp] at h
      obtain ⟨h1, h2⟩ := h
      simp only [VR] at h1
      obtain ⟨l, hl, hvs⟩ := h1
      obtain ⟨r, hr, hvr⟩ := Na hvs hv
      rw [Array.getElem?_toList] at hr
      simp only [AV.lt, AV.lts_iff] at h2
      exact ⟨.value r, r, w, by simp [execOp, hl, Instr.extract, hr], .inl rfl, Made.same R hvr (h2 v (List.mem_of_getElem? hv))⟩
    · cases e
  · rename_i c
    obtain ⟨callee, args, tys⟩ := c
    simp only at e
    have args2 : ∀ {x y : Operand}, args.toList = [x, y] → args = #[x, y] := fun h => by rw [← Array.toArray_toList (xs := args), h]
    have tys2 : ∀ {x y : TypeId}, tys.toList = [x, y] → tys = #[x, y] := fun h => by rw [← Array.toArray_toList (xs := tys), h]
    split at e
    · split at e
      · rename_i s x t t' ha ht
        split at e
        · rename_i htt
          subst htt
          obtain rfl := args2 ha
          obtain rfl := tys2 ht
          obtain ⟨r, w', h1, h2⟩ := run_aappend (ty := ty) R e (Y5 F s).1 (Y5 F x).1 (Y5 F s).2
          refine ⟨.value r, r, w', ?_, .inl rfl, h2⟩
          simp [execOp, resolve, invoke, builtin, h1]
        · obtain rfl := args2 ha
          obtain rfl := tys2 ht
          obtain ⟨r, w', h1, h2⟩ := run_aappend2 (ty := ty) R e (Y5 F s).1 (Y5 F x).1
          refine ⟨.value r, r, w', ?_, .inl rfl, h2⟩
          simp [execOp, resolve, invoke, builtin, h1]
      · cases e
    · split at e
      · rename_i d s t t' ha ht
        obtain rfl := args2 ha
        obtain rfl := tys2 ht
        obtain ⟨r, w', h1, h2⟩ := run_acopy (ty := ty) (t' := t') R e (Y5 F d).1 (Y5 F s).1
        refine ⟨.value r, r, w', ?_, .inl rfl, h2⟩
        simp [execOp, resolve, invoke, builtin, h1]
      · cases e
    · rename_i b _ _
      obtain ⟨v', hv, he⟩ := Option.map_eq_some_iff.1 e
      cases he
      have hargs := evs_VR F args.toList
      have hargs' : VRs β (args.toList.map (ev fr)) (args.map a.eval).toList := by simpa using hargs.1
      obtain ⟨r, h1, h2, h3⟩ := run_abuiltin (P := P) (ty := ty) (cs := args.map fun | .const _ => true | _ => false) hv hargs' w
      refine ⟨.value r, r, w, ?_, .inl rfl, Made.same R h2 (h3 _)⟩
      simp only [execOp, resolve, Sem.run_bind, Sem.run_pure, Result.andThen_ok, invoke]
      exact h1
    · cases e
  · cases e
end Go.AL
namespace Go.AL
open Go.RowKit
def ACalls (P : Program) (f : FuncId) (args : List AV) (H : Hp) (R : AV → Hp → Prop) : Prop :=
  (∃ fn, P.funcs[f]? = some fn ∧ fn.body.isSome = true ∧ (fn.name == "runtime.NumGoroutine") = false) ∧
  ∀ (w0 : World) (B : Nat) (β : Env) (w : World) (vs : Array Value), Rel w0 B β H w → VRs β args vs.toList → AV.lts H.length args →
    Calls P f vs w fun e w' => ∃ β' r v H', e = .returned v ∧ R r H' ∧ Agree H.length β β' ∧ H.length ≤ H'.length ∧ VR β' r v ∧ r.lt H'.length ∧ Rel w0 B β' H' w'
theorem ACalls.mono {P : Program} {f : FuncId} {args : List AV} {H : Hp} {R R' : AV → Hp → Prop} (h : ACalls P f args H R) (hr : ∀ r H', R r H' → R' r H') : ACalls P f args H R' :=
  ⟨h.1, fun w0 B β w vs hR hv hl => (h.2 w0 B β w vs hR hv hl).mono fun e w' ⟨β', r, v, H', h1, h2, h3⟩ => ⟨β', r, v, H', h1, hr _ _ h2, h3⟩⟩
def Q8 (P : Program) (fr : Fr) : Op → Option (FuncId × List AV)
  | .call c => match c.callee with
    | .value f => match ev fr f with
      | .fn g => some (g, c.args.toList.map (ev fr))
      | _ => none
    | .invoke recv name => match ev fr recv with
      | .ifc t v => match P.info? t with
        | some i => match i.methods.find? (·.name == name) with
          | some m => match m.path.toList, m.func, P.underlying t with
            | [], some (g, true), some (.pointer _) => some (g, v :: c.args.toList.map (ev fr))
            | [], some (g, false), some d => match d with
              | .pointer _ => none
              | _ => some (g, v :: c.args.toList.map (ev fr))
            | _, _, _ => none
          | none => none
        | none => none
      | _ => none
    | _ => none
  | _ => none
def AExt (P : Program) (f : FuncId) (args : List AV) (H : Hp) (R : AV → Hp → Prop) : Prop :=
  ∀ (w0 : World) (B : Nat) (β : Env) (w : World) (vs : Array Value), Rel w0 B β H w → VRs β args vs.toList → AV.lts H.length args →
    ∃ v w' β' r H', (callFunc f vs).run P w = .ok (.value v) w' ∧ R r H' ∧ Agree H.length β β' ∧ H.length ≤ H'.length ∧ VR β' r v ∧ r.lt H'.length ∧ Rel w0 B β' H' w'
def ACallO (P : Program) (f : FuncId) (args : List AV) (H : Hp) (R : AV → Hp → Prop) : Prop := ACalls P f args H R ∨ AExt P f args H R
theorem ACallO.mono {P : Program} {f : FuncId} {args : List AV} {H : Hp} {R R' : AV → Hp → Prop} (h : ACallO P f args H R) (hr : ∀ r H', R r H' → R' r H') : ACallO P f args H R' := by
  rcases h with h | h
  · exact .inl (h.mono hr)
  · refine .inr fun w0 B β w vs hR hv hl => ?_
    obtain ⟨v, w', β', r, H', h1, h2, h3⟩ := h w0 B β w vs hR hv hl
    exact ⟨v, w', β', r, H', h1, hr _ _ h2, h3⟩
theorem callFunc_enter {P : Program} {f : FuncId} {fn : Func} (hf : P.funcs[f]? = some fn) (hb : fn.body.isSome = true) (hn : (fn.name == "runtime.NumGoroutine") = false) (vs : Array Value) (w : World) : (callFunc f vs).run P w = .ok (.enter f vs) w := by
  have hn' : ¬ fn.name = "runtime.NumGoroutine" := by simpa using hn
  have hbs : ¬ fn.body = none := by intro h; simp [h] at hb
  simp [callFunc, hf, hn', hbs]
theorem run_acall {P : Program} {β : Env} {n : Nat} {fr : Fr} {a : Act} (F : FR β n fr a.tmps) {o : Oper} {f : FuncId} {args : List AV} (e : Q8 P fr o.op = some (f, args)) :
    ∃ vs : Array Value, (∀ w, (execOp a.eval o).run P w = (callFunc f vs).run P w) ∧ VRs β args vs.toList ∧ AV.lts n args := by
  obtain ⟨dst, op, ty, pos, after, guard⟩ := o
  have hdep : 0 < Made.depth := by decide
  simp only at e
  unfold Q8 at e
  split at e
  case h_2 => cases e
  rename_i c
  obtain ⟨callee, cargs, tys⟩ := c
  simp only at e
  have hargs := evs_VR F cargs.toList
  split at e
  · rename_i g
    split at e
    · rename_i q hq
      cases e
      have h := (Y5 F g).1
      rw [hq] at h
      simp only [VR] at h
      refine ⟨#[] ++ cargs.map a.eval ++ #[], ?_, by simpa using hargs.1, hargs.2⟩
      intro w
      simp [execOp, resolve, h, Deferred.ofValue, invoke]
    · cases e
  · rename_i recv name
    split at e
    · rename_i t y hq
      have h := Y5 F recv
      rw [hq] at h
      obtain ⟨h1, h2⟩ := h
      simp only [VR] at h1
      obtain ⟨yv, hr, hy⟩ := h1
      split at e
      · rename_i i hi
        split at e
        · rename_i m hm
          have hfuel : ∃ k, P.types.size + Made.depth = k + 1 := ⟨P.types.size + Made.depth - 1, by omega⟩
          obtain ⟨k, hk⟩ := hfuel
          have e0 : (#[Value.iface t yv] ++ cargs.map a.eval)[0]? = some (.iface t yv) := by simp [Array.getElem?_append]
          have e1 : (#[Value.iface t yv] ++ cargs.map a.eval).extract 1 (1 + cargs.size) = cargs.map a.eval := by
            apply Array.ext'
            simp
            exact List.take_of_length_le (by simp)
          have hm' : Array.find? (fun x => x.name == name) i.methods = some m := hm
          split at e
          · rename_i g el hp hfn hu
            cases e
            refine ⟨#[yv] ++ cargs.map a.eval, ?_, ?_, ?_⟩
            · intro w
              have hmeth : (method (k + 1) t yv name).run P w = .ok (f, yv) w := by
                simp [method, typeInfo, hi, hm', hp, follow, hfn, receiverAt, run_underlying hu, Place.get]
              simp [execOp, resolve, hr, invoke, callMethod, hk, hmeth, e0, e1]
            · simp only [VRs]
              exact ⟨yv, _, by simp, hy, hargs.1⟩
            · simp only [AV.lts]; exact ⟨by simpa only [AV.lt] using h2, hargs.2⟩
          · rename_i g d hp hfn hu
            split at e
            · cases e
            · rename_i hnp
              cases e
              refine ⟨#[yv] ++ cargs.map a.eval, ?_, ?_, ?_⟩
              · intro w
                have hmeth : (method (k + 1) t yv name).run P w = .ok (f, yv) w := by
                  simp only [method, Sem.run_bind, typeInfo, run_program, Result.andThen_ok, hi, Sem.run_pure, hm', hp, follow, hfn, receiverAt, run_underlying hu, Place.get]
                  all_goals (cases d <;> first | exact absurd rfl (hnp _) | simp [Place.get])
                simp [execOp, resolve, hr, invoke, callMethod, hk, hmeth, e0, e1]
              · simp only [VRs]
                exact ⟨yv, _, by simp, hy, hargs.1⟩
              · simp only [AV.lts]; exact ⟨by simpa only [AV.lt] using h2, hargs.2⟩
          · cases e
        · cases e
      · cases e
    · cases e
  · cases e
def Jp (ops : Array Oper) (fr : Fr) (o : Oper) : Option Bool :=
  match o.guard with
  | none => some true
  | some (j, want) =>
    match (ops[j]?).bind (·.dst) with
    | some d => match fr d with
      | .bool b => some (b == want)
      | .tup [] => some false
      | _ => none
    | none => none
theorem wantedA_eq {β : Env} {n : Nat} {ops : Array Oper} {fr : Fr} {a : Act} (F : FR β n fr a.tmps) {o : Oper} {b : Bool} (h : Jp ops fr o = some b) (hfit : ∀ (j : Nat) o' d, ops[j]? = some o' → o'.dst = some d → d < a.tmps.size) :
    Region.wanted o (yielded ops a.tmps) = b := by
  unfold Jp at h
  split at h
  · rename_i hg; cases h; simp [Region.wanted, hg]
  · rename_i j want hg
    split at h
    · rename_i d hd
      obtain ⟨o', ho', hd'⟩ := Option.bind_eq_some_iff.1 hd
      have hlt := hfit j o' d ho' hd'
      have ht : a.tmps[d]? = some (a.tmps.getD d Go.undef) := by simp [Array.getD, hlt]
      have hv := (F d).1
      split at h
      · rename_i b' hb
        rw [hb] at hv
        simp only [VR] at hv
        cases h
        simp only [Region.wanted, hg, yielded, hd, Option.bind_some, ht, hv]
        cases b' <;> cases want <;> rfl
      · rename_i hb
        rw [hb] at hv
        simp only [VR] at hv
        obtain ⟨l, hl, _⟩ := hv
        cases h
        simp only [Region.wanted, hg, yielded, hd, Option.bind_some, ht, hl]
        rfl
      · cases h
    · cases h
def Wc (P : Program) (d : Option Tmp) (fr : Fr) (X : Fr → Hp → Prop) (f : FuncId) (args : List AV) (H : Hp) : Prop := ACallO P f args H fun r H' => X (fr.put d r) H'
def Uo (P : Program) (o : Oper) (fr : Fr) (H : Hp) (X : Fr → Hp → Prop) : Prop :=
  match Q8 P fr o.op with
  | some (f, args) => Wc P o.dst fr X f args H
  | none =>
    match Q6 P fr H o.op with
    | some (v, H') => X (fr.put o.dst v) H'
    | none => False
def Uf (P : Program) (o : Oper) (fr : Fr) (H : Hp) (X : Fr → Hp → Prop) (t : Bool) : Prop :=
  if t = true then Uo P o fr H X else X (fr.put o.dst (.tup [])) H
def AStep1 (P : Program) (ops : Array Oper) (o : Oper) (fr : Fr) (H : Hp) (X : Fr → Hp → Prop) : Prop :=
  match Jp ops fr o with
  | some t => Uf P o fr H X t
  | none => False
def AOps (P : Program) (ops : Array Oper) (K : Fr → Hp → Prop) : List Oper → Fr → Hp → Prop
  | [], fr, H => K fr H
  | o :: rest, fr, H => AStep1 P ops o fr H (AOps P ops K rest)
def APost (w0 : World) (B : Nat) (β : Env) (n m : Nat) (Q : Exit → Fr → Hp → Prop) : Exit → Act → World → Prop := fun e a' w' =>
  a'.defers = [] ∧ a'.tmps.size = m ∧ ∃ β' fr' H', Q e fr' H' ∧ Agree n β β' ∧ n ≤ H'.length ∧ FR β' H'.length fr' a'.tmps ∧ Rel w0 B β' H' w'
def opsFit (n : Nat) (l : List Oper) : Bool := l.all fun o => match o.dst with | some d => decide (d < n) | none => true
def Nd (n : Nat) : Code → Bool
  | .region _ ops _ => opsFit n ops.toList
  | .seq a b => Nd n a && Nd n b
  | .cond _ a b => Nd n a && Nd n b
  | .block _ a => Nd n a
  | .loop a => Nd n a
  | .skip | .exit _ | .ret => true
  | _ => false
structure Sc where
  n : Nat
  s : Bool
def AWp {n : Sc} (P : Program) (c : Code) (fr : Fr) (H : Hp) (Q : Exit → Fr → Hp → Prop) : Prop :=
  n.n ≤ H.length → ∀ (w0 : World) (B : Nat) (β : Env) (w : World) (a : Act), (n.s = true → ¬ β.leg) → a.defers = [] → Nd a.tmps.size c = true → Rel w0 B β H w → FR β H.length fr a.tmps → c.wp P (APost w0 B β n.n a.tmps.size Q) a w
theorem APost.shift {w0 : World} {B : Nat} {β β' : Env} {n n' m : Nat} {Q : Exit → Fr → Hp → Prop} (ag : Agree n β β') (hn : n ≤ n') {e : Exit} {a : Act} {w : World} (h : APost w0 B β' n' m Q e a w) : APost w0 B β n m Q e a w := by
  obtain ⟨h1, h2, β'', fr', H', h3, h4, h5, h6, h7⟩ := h
  exact ⟨h1, h2, β'', fr', H', h3, ag.trans h4 hn, by omega, h6, h7⟩
theorem AWp.mono {n : Sc} {P : Program} {c : Code} {fr : Fr} {H : Hp} {Q Q' : Exit → Fr → Hp → Prop} (h : AWp (n := n) P c fr H Q) (hq : ∀ e fr' H', Q e fr' H' → Q' e fr' H') : AWp (n := n) P c fr H Q' :=
  fun hn w0 B β w a hL hd hf hR hF => wp_mono (h hn w0 B β w a hL hd hf hR hF) fun e a' w' ⟨h1, h2, β', fr', H', h3, h4⟩ => ⟨h1, h2, β', fr', H', hq _ _ _ h3, h4⟩
section
variable {n : Sc} {P : Program} {fr : Fr} {H : Hp} {Q : Exit → Fr → Hp → Prop}
theorem Act.put_size (a : Act) (d : Option Tmp) (v : Value) : (a.put d v).tmps.size = a.tmps.size := by
  cases d <;> simp [Act.put]
theorem Act.put_defers' (a : Act) (d : Option Tmp) (v : Value) : (a.put d v).defers = a.defers := by
  cases d <;> rfl
theorem AOps_sound {w0 : World} {B : Nat} {β0 : Env} {n0 : Nat} (ops : Array Oper) {K : Fr → Hp → Prop} (hall : ∀ (j : Nat) o' d, ops[j]? = some o' → o'.dst = some d → d < n0) :
    ∀ (l : List Oper) (fr : Fr) (H : Hp) (β : Env) (w : World) (a : Act), AOps P ops K l fr H → opsFit n0 l = true → a.defers = [] → a.tmps.size = n0 → Rel w0 B β H w → FR β H.length fr a.tmps → ∀ m, m ≤ H.length → Agree m β0 β →
      wpList P ops (APost w0 B β0 m n0 fun e fr' H' => e = .normal ∧ K fr' H') l a w
  | [], fr, H, β, w, a, h, _, hd, hs, R, F, m, hm, ag => by
    simp only [AOps] at h
    exact wpList_nil ⟨hd, hs, β, fr, H, ⟨rfl, h⟩, ag, hm, F, R⟩
  | o :: rest, fr, H, β, w, a, h, hfit, hd, hs, R, F, m, hm, ag => by
    simp only [opsFit, List.all_cons, Bool.and_eq_true] at hfit
    have hdst : ∀ t, o.dst = some t → t < a.tmps.size := by
      intro t ht
      have := hfit.1
      rw [ht] at this
      simpa [hs] using this
    simp only [AOps, AStep1, Uf, Uo, Wc] at h
    refine wpList_step fun KK hK => ?_
    split at h
    · rename_i t ht
      have hw := wantedA_eq F ht (fun j o' d h1 h2 => by rw [hs]; exact hall j o' d h1 h2)
      rw [hw]
      have go : ∀ (v : AV) (x : Value) (H' : Hp) (w' : World) (β' : Env), AOps P ops K rest (fr.put o.dst v) H' → Agree H.length β β' → H.length ≤ H'.length → VR β' v x → v.lt H'.length → Rel w0 B β' H' w' → KK (a.put o.dst x) w' := by
        intro v x H' w' β' h1 h2 h3 h4 h5 h6
        exact hK _ _ (AOps_sound ops hall rest _ _ β' w' _ h1 hfit.2 (by rw [Act.put_defers']; exact hd) (by rw [Act.put_size]; exact hs) h6 (FR_put (FR_congr F h2 h3) hdst h4 h5) m (by omega) (ag.trans h2 hm))
      cases t
      · simp only [Bool.false_eq_true, if_false] at h ⊢
        exact go (.tup []) Go.undef H w β h (Agree.refl _ _) (Nat.le_refl _) (by simp only [VR]; exact ⟨#[], rfl, rfl⟩) trivial R
      · simp only [if_true] at h ⊢
        unfold Oper.wp
        split at h
        · rename_i f args hc
          obtain ⟨vs, hrun, hv, hl⟩ := run_acall F hc
          rw [hrun]
          rcases h with h | h
          · obtain ⟨fn, hf, hb, hn⟩ := h.1
            rw [callFunc_enter hf hb hn]
            simp only [Oper.upon]
            refine (h.2 w0 B β w vs R hv hl).mono ?_
            rintro e w' ⟨β', r, v, H', rfl, h1, h2, h3, h4, h5, h6⟩
            exact go r v H' w' β' h1 h2 h3 h4 h5 h6
          · obtain ⟨v, w', β', r, H', h0, h1, h2, h3, h4, h5, h6⟩ := h w0 B β w vs R hv hl
            rw [h0]
            simp only [Oper.upon]
            exact go r v H' w' β' h1 h2 h3 h4 h5 h6
        · split at h
          · rename_i v H' hst
            obtain ⟨nx, x, w', hrun, hx, β', h2, h3, h4, h5, h6⟩ := run_astep R F hst
            rw [hrun]
            rcases hx with rfl | ⟨rfl, rfl⟩
            · exact go v x H' w' β' h h2 h3 h4 h5 h6
            · exact go v _ H' w' β' h h2 h3 h4 h5 h6
          · exact h.elim
    · exact h.elim
theorem opsFit_all {n : Nat} {ops : Array Oper} (h : opsFit n ops.toList = true) : ∀ (j : Nat) o' d, ops[j]? = some o' → o'.dst = some d → d < n := by
  intro j o' d h1 h2
  have := (List.all_eq_true.1 h) o' (List.mem_of_getElem? (by simpa using h1))
  rw [h2] at this
  simpa using this
theorem AWp_region {id : Nat} {ops : Array Oper} (h : AOps P ops (Q .normal) ops.toList fr H) : AWp (n := n) P (.region id ops false) fr H Q := by
  intro hn w0 B β w a hL hd hf R F
  simp only [Nd] at hf
  refine wp_region_list ?_
  have := AOps_sound (w0 := w0) (B := B) (β0 := β) (n0 := a.tmps.size) ops (opsFit_all hf) ops.toList fr H β w a h hf hd rfl R F n.n hn (Agree.refl _ _)
  refine wpList_post ops.toList this
where
  wpList_post {w0 : World} {B : Nat} {β : Env} {n m : Nat} {ops : Array Oper} : ∀ (l : List Oper) {a : Act} {w : World}, wpList P ops (APost w0 B β n m fun e fr' H' => e = .normal ∧ Q .normal fr' H') l a w → wpList P ops (APost w0 B β n m Q) l a w := by
    intro l a w h
    have hQ : ∀ e a w, APost w0 B β n m (fun e fr' H' => e = .normal ∧ Q .normal fr' H') e a w → APost w0 B β n m Q e a w := by
      rintro e a w ⟨h1, h2, β', fr', H', ⟨rfl, h3⟩, h4⟩
      exact ⟨h1, h2, β', fr', H', h3, h4⟩
    induction l generalizing a w with
    | nil => exact hQ _ _ _ h
    | cons o l ih =>
      unfold wpList at h ⊢
      split at h
      · rename_i hw
        rw [if_pos hw]
        rcases h with h | ⟨h1, a', w', h2⟩
        · refine .inl ?_
          unfold Oper.wp at h ⊢
          generalize (execOp a.eval o).run P _ = r at h
          cases r with
          | ok nx w' =>
            cases nx <;> simp only [Oper.upon] at h ⊢ <;>
              first
                | exact ih h
                | exact Calls.mono h (fun e w'' he => by
                    cases e <;> first
                      | exact ih he
                      | exact hQ _ _ _ he
                      | (obtain ⟨a', w', h2⟩ := he; exact ⟨a', w', hQ _ _ _ h2⟩))
                | exact Rows.mono h (fun _ _ he => ih he)
          | halt x w' => cases x <;> simp only [Oper.upon] at h ⊢ <;> exact hQ _ _ _ h
        · exact .inr ⟨h1, a', w', hQ _ _ _ h2⟩
      · rename_i hw
        rw [if_neg hw]
        exact ih h
theorem Q4 (h : Q .normal fr H) : AWp (n := n) P .skip fr H Q := fun hn w0 B β w a hL hd hf R F => wp_skip ⟨hd, rfl, β, fr, H, h, Agree.refl _ _, hn, F, R⟩
theorem Qc {id : Nat} (h : Q (.exit id) fr H) : AWp (n := n) P (.exit id) fr H Q := fun hn w0 B β w a hL hd hf R F => wp_exit ⟨hd, rfl, β, fr, H, h, Agree.refl _ _, hn, F, R⟩
theorem Qd (h : Q .ret fr H) : AWp (n := n) P .ret fr H Q := fun hn w0 B β w a hL hd hf R F => wp_ret ⟨hd, rfl, β, fr, H, h, Agree.refl _ _, hn, F, R⟩
def Qb (K : Fr → Hp → Prop) (Q : Exit → Fr → Hp → Prop) : Exit → Fr → Hp → Prop
  | .normal, fr, H => K fr H
  | e, fr, H => Q e fr H
theorem AWp_seq {x y : Code} (h : AWp (n := n) P x fr H (Qb (fun fr' H' => AWp (n := n) P y fr' H' Q) Q)) : AWp (n := n) P (.seq x y) fr H Q := by
  intro hn w0 B β w a hL hd hf R F
  simp only [Nd, Bool.and_eq_true] at hf
  refine wp_seq (wp_mono (h hn w0 B β w a hL hd hf.1 R F) ?_)
  rintro e a' w' ⟨h1, h2, β', fr', H', h3, h4, h5, h6, h7⟩
  cases e with
  | normal =>
    simp only [Qb] at h3
    exact wp_mono (h3 h5 w0 B β' w' a' (by rw [h4.leg]; exact hL) h1 (by rw [h2]; exact hf.2) h7 h6) fun e a'' w'' hp => by
      rw [h2] at hp
      exact hp.shift h4 (Nat.le_refl _)
  | _ => exact ⟨h1, h2, β', fr', H', h3, h4, h5, h6, h7⟩
theorem Jh {x y : Code} (h : ∀ K : Fr → Hp → Prop, (∀ fr' H', AWp (n := n) P y fr' H' Q → K fr' H') → AWp (n := n) P x fr H (Qb K Q)) : AWp (n := n) P (.seq x y) fr H Q :=
  AWp_seq (h _ fun _ _ h => h)
theorem AWp_cond {c : Operand} {x y : Code} {t : Bool} (hc : ev fr c = .bool t) (h1 : t = true → AWp (n := n) P x fr H Q) (h2 : t = false → AWp (n := n) P y fr H Q) : AWp (n := n) P (.cond c x y) fr H Q := by
  intro hn w0 B β w a hL hd hf R F
  simp only [Nd, Bool.and_eq_true] at hf
  have h := (Y5 F c).1
  rw [hc] at h
  simp only [VR] at h
  exact wp_cond_split h (fun ht => h1 ht hn w0 B β w a hL hd hf.1 R F) (fun ht => h2 ht hn w0 B β w a hL hd hf.2 R F)
def Jo (id : Nat) (Q : Exit → Fr → Hp → Prop) : Exit → Fr → Hp → Prop
  | .exit id', fr, H => if id' = id then Q .normal fr H else Q (.exit id') fr H
  | e, fr, H => Q e fr H
theorem Jx {id : Nat} {c : Code} (h : AWp (n := n) P c fr H (Jo id Q)) : AWp (n := n) P (.block id c) fr H Q := by
  intro hn w0 B β w a hL hd hf R F
  simp only [Nd] at hf
  refine wp_block (wp_mono (h hn w0 B β w a hL hd hf R F) ?_)
  rintro e a' w' ⟨h1, h2, β', fr', H', h3, h4⟩
  cases e with
  | exit id' =>
    simp only [Jo] at h3
    simp only [Exit.inBlock]
    split at h3
    · rename_i hi; rw [if_pos hi]; exact ⟨h1, h2, β', fr', H', h3, h4⟩
    · rename_i hi; rw [if_neg hi]; exact ⟨h1, h2, β', fr', H', h3, h4⟩
  | _ => exact ⟨h1, h2, β', fr', H', h3, h4⟩
theorem Xi {c : Code} (I : Nat → Fr → Hp → Prop) {m : Nat} (h0 : I m fr H)
    (round : ∀ m fr H, I m fr H → AWp (n := n) P c fr H (Qb (fun fr' H' => ∃ m', m' < m ∧ I m' fr' H') Q)) : AWp (n := n) P (.loop c) fr H Q := by
  intro hn w0 B β w a hL hd hf R F
  simp only [Nd] at hf
  refine wp_loop_ex (P := P) (c := c) (Q := APost w0 B β n.n a.tmps.size Q)
    (fun k a' w' => a'.defers = [] ∧ a'.tmps.size = a.tmps.size ∧ ∃ β' fr' H', I k fr' H' ∧ Agree n.n β β' ∧ n.n ≤ H'.length ∧ FR β' H'.length fr' a'.tmps ∧ Rel w0 B β' H' w') m a w
    ⟨hd, rfl, β, fr, H, h0, Agree.refl _ _, hn, F, R⟩ ?_
  rintro k a' w' ⟨h1, h2, β', fr', H', h3, h4, h5, h6, h7⟩
  refine wp_mono (round k fr' H' h3 h5 w0 B β' w' a' (by rw [h4.leg]; exact hL) h1 (by rw [h2]; exact hf) h7 h6) ?_
  rintro e a'' w'' ⟨g1, g2, β'', fr'', H'', g3, g4, g5, g6, g7⟩
  cases e with
  | normal =>
    simp only [Qb] at g3
    obtain ⟨k', hk, hI⟩ := g3
    exact ⟨k', hk, g1, by rw [g2, h2], β'', fr'', H'', hI, h4.trans g4 (Nat.le_refl _), g5, g6, g7⟩
  | _ => exact ⟨g1, by rw [g2, h2], β'', fr'', H'', g3, h4.trans g4 (Nat.le_refl _), g5, g6, g7⟩
where
  wp_loop_ex {P : Program} {c : Code} {Q : Exit → Act → World → Prop} (J : Nat → Act → World → Prop) (n : Nat) (a : Act) (w : World) (hJ : J n a w)
      (round : ∀ k a w, J k a w → c.wp P (Exit.then (fun a' w' => ∃ k', k' < k ∧ J k' a' w') Q) a w) : (Code.loop c).wp P Q a w := by
    intro b k cs
    have key : ∀ n a w, J n a w → ∃ e a' w', Q e a' w' ∧ Arrives P (lone (b.at a (.code c :: .inLoop c :: k)) cs w) b k cs e a' w' := by
      intro n
      induction n using Nat.strongRecOn with
      | _ n ih =>
        intro a w hI
        obtain ⟨e, a₁, w₁, hq, harr⟩ := round n a w hI b (.inLoop c :: k) cs
        cases e with
        | normal =>
          obtain ⟨n', hlt, hI₁⟩ := hq
          obtain ⟨e₂, a₂, w₂, hq₂, harr₂⟩ := ih n' hlt a₁ w₁ hI₁
          exact ⟨e₂, a₂, w₂, hq₂, .of_steps (Steps.trans harr (.one step_inLoop)) harr₂⟩
        | exit id => exact ⟨_, a₁, w₁, hq, .pass (x := .inLoop c) rfl (fun _ _ => .inl (by simp)) harr⟩
        | goto l => exact ⟨_, a₁, w₁, hq, .pass (x := .inLoop c) rfl (fun _ _ => .inl (by simp)) harr⟩
        | ret => exact ⟨_, a₁, w₁, hq, .pass (x := .inLoop c) rfl (fun _ _ => .inl (by simp)) harr⟩
        | panic ch => exact ⟨_, a₁, w₁, hq, .pass (x := .inLoop c) rfl (fun _ _ => .inl (by simp)) harr⟩
        | outgrown => exact ⟨_, a₁, w₁, hq, .pass (x := .inLoop c) rfl (fun _ _ => .inl (by simp)) harr⟩
    obtain ⟨e, a', w', hq, harr⟩ := key n a w hJ
    exact ⟨e, a', w', hq, .of_steps (.one step_loop) harr⟩
end
end Go.AL

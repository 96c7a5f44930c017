/- The abstract memory: values with handles in place of addresses, blocks, the relation to the machine's world. -/
import Derived.Calls
import Derived.Orders
import Derived.Below
import Derived.Laws.AppendOwn
import Derived.Laws.OwnMore
import Derived.Maps.AppendAt
import Derived.WalkKit
set_option linter.unusedVariables false
set_option linter.unusedSimpArgs false
namespace Go.AL
open Go.RowKit

inductive AV where
  | undef
  | int (k : IntKind) (n : Int)
  | bool (b : Bool)
  | str (s : ByteArray)
  | nilI
  | ifc (t : TypeId) (v : AV)
  | nilP
  | ptr (h o : Nat)
  | nilS
  | sl (h o n c : Nat)
  | sg (h o n z : Nat)
  | agg (cs : List AV)
  | tup (vs : List AV)
  | fn (f : FuncId)
  deriving Inhabited

/-- Where a handle's block stands, and how many cells it has in all. -/
structure Bx where
  addr : Addr
  tot : Nat

mutual
def AV.lt (n : Nat) : AV → Prop
  | .ifc _ v => v.lt n
  | .ptr h _ => h < n
  | .sl h _ _ _ => h < n
  | .sg h _ _ _ => h < n
  | .agg cs => AV.lts n cs
  | .tup cs => AV.lts n cs
  | _ => True
def AV.lts (n : Nat) : List AV → Prop
  | [] => True
  | c :: cs => c.lt n ∧ AV.lts n cs
end

mutual
def VR (β : Nat → Bx) : AV → Value → Prop
  | .undef, _ => True
  | .int k n, v => v = .int k n
  | .bool b, v => v = .bool b
  | .str s, v => v = .string s
  | .nilI, v => v = .nilIface
  | .ifc t x, v => ∃ y, v = .iface t y ∧ VR β x y
  | .nilP, v => v = .pointer none
  | .ptr h o, v => v = .pointer (some ((β h).addr.add o))
  | .nilS, v => v = .slice none 0 0
  | .sl h o n c, v => v = .slice (some ((β h).addr.add o)) n c
  | .sg h o n z, v => ∃ c o', v = .slice (some ((β h).addr.add o')) n c ∧ n ≤ c ∧ ((c = 0 ∧ o = (β h).tot) ∨ (o' = o ∧ o + c * z = (β h).tot))
  | .agg cs, v => ∃ l, v = .agg l ∧ VRs β cs l.toList
  | .tup cs, v => ∃ l, v = .tuple l ∧ VRs β cs l.toList
  | .fn f, v => v = .func (.func f) #[] #[]
def VRs (β : Nat → Bx) : List AV → List Value → Prop
  | [], l => l = []
  | c :: cs, l => ∃ x xs, l = x :: xs ∧ VR β c x ∧ VRs β cs xs
end

/-- A value of one cell (no struct, no array, nothing unknown). -/
def AV.one : AV → Bool
  | .undef | .agg _ | .tup _ => false
  | _ => true

def AV.cells : AV → List AV
  | .agg cs => cs
  | v => [v]

theorem VR_one {β : Nat → Bx} {c : AV} {v : Value} (h : VR β c v) (h1 : c.one = true) : v.oneCell' = true := by
  cases c <;> simp [AV.one] at h1 <;> simp only [VR] at h
  case ifc => obtain ⟨y, rfl, _⟩ := h; rfl
  case sg => obtain ⟨c, o', rfl, _⟩ := h; rfl
  all_goals (subst h; rfl)

mutual
theorem VR_congr {β β' : Nat → Bx} {n : Nat} (hb : ∀ h, h < n → β' h = β h) : ∀ (c : AV) (v : Value), c.lt n → VR β c v → VR β' c v
  | .undef, _, _, _ => trivial
  | .int _ _, _, _, h => h
  | .bool _, _, _, h => h
  | .str _, _, _, h => h
  | .nilI, _, _, h => h
  | .ifc t x, v, hl, h => by
    simp only [VR] at h ⊢
    obtain ⟨y, rfl, hy⟩ := h
    exact ⟨y, rfl, VR_congr hb x y (by simpa only [AV.lt] using hl) hy⟩
  | .nilP, _, _, h => h
  | .ptr h0 o, v, hl, h => by simp only [VR, AV.lt] at h hl ⊢; rw [hb _ hl]; exact h
  | .nilS, _, _, h => h
  | .sl h0 o n' c, v, hl, h => by simp only [VR, AV.lt] at h hl ⊢; rw [hb _ hl]; exact h
  | .sg h0 o n' z, v, hl, h => by simp only [VR, AV.lt] at h hl ⊢; rw [hb _ hl]; exact h
  | .agg cs, v, hl, h => by
    simp only [VR] at h ⊢
    obtain ⟨l, rfl, hy⟩ := h
    exact ⟨l, rfl, VRs_congr hb cs l.toList (by simpa only [AV.lt] using hl) hy⟩
  | .tup cs, v, hl, h => by
    simp only [VR] at h ⊢
    obtain ⟨l, rfl, hy⟩ := h
    exact ⟨l, rfl, VRs_congr hb cs l.toList (by simpa only [AV.lt] using hl) hy⟩
  | .fn _, _, _, h => h
theorem VRs_congr {β β' : Nat → Bx} {n : Nat} (hb : ∀ h, h < n → β' h = β h) : ∀ (cs : List AV) (l : List Value), AV.lts n cs → VRs β cs l → VRs β' cs l
  | [], _, _, h => h
  | c :: cs, l, hl, h => by
    simp only [VRs, AV.lts] at h hl ⊢
    obtain ⟨x, xs, rfl, hx, hxs⟩ := h
    exact ⟨x, xs, rfl, VR_congr hb c x hl.1 hx, VRs_congr hb cs xs hl.2 hxs⟩
end

mutual
theorem AV.lt_mono {n m : Nat} (hnm : n ≤ m) : ∀ (c : AV), c.lt n → c.lt m
  | .undef, _ => trivial
  | .int _ _, _ => trivial
  | .bool _, _ => trivial
  | .str _, _ => trivial
  | .nilI, _ => trivial
  | .ifc t x, h => by simp only [AV.lt] at h ⊢; exact AV.lt_mono hnm x h
  | .nilP, _ => trivial
  | .ptr h0 o, h => by simp only [AV.lt] at h ⊢; omega
  | .nilS, _ => trivial
  | .sl h0 o n' c, h => by simp only [AV.lt] at h ⊢; omega
  | .sg h0 o n' z, h => by simp only [AV.lt] at h ⊢; omega
  | .agg cs, h => by simp only [AV.lt] at h ⊢; exact AV.lts_mono hnm cs h
  | .tup cs, h => by simp only [AV.lt] at h ⊢; exact AV.lts_mono hnm cs h
  | .fn _, _ => trivial
theorem AV.lts_mono {n m : Nat} (hnm : n ≤ m) : ∀ (cs : List AV), AV.lts n cs → AV.lts m cs
  | [], _ => trivial
  | c :: cs, h => by simp only [AV.lts] at h ⊢; exact ⟨AV.lt_mono hnm c h.1, AV.lts_mono hnm cs h.2⟩
end

theorem AV.lts_iff {n : Nat} : ∀ {cs : List AV}, AV.lts n cs ↔ ∀ c ∈ cs, c.lt n
  | [] => by simp [AV.lts]
  | c :: cs => by simp [AV.lts, AV.lts_iff (cs := cs)]

theorem VRs_iff {β : Nat → Bx} : ∀ {cs : List AV} {l : List Value}, VRs β cs l ↔ cs.length = l.length ∧ ∀ (i : Nat) c v, cs[i]? = some c → l[i]? = some v → VR β c v
  | [], l => by
    simp only [VRs]
    constructor
    · rintro rfl; simp
    · rintro ⟨h, _⟩; exact List.eq_nil_of_length_eq_zero h.symm
  | c :: cs, [] => by simp [VRs]
  | c :: cs, x :: l => by
    simp only [VRs, VRs_iff (cs := cs)]
    constructor
    · rintro ⟨x', xs', h, hx, hl, hr⟩
      cases h
      refine ⟨by simp [hl], ?_⟩
      intro i c' v' hc hv
      cases i with
      | zero => simp at hc hv; subst hc; subst hv; exact hx
      | succ i => simp at hc hv; exact hr i c' v' hc hv
    · rintro ⟨hl, hr⟩
      exact ⟨x, l, rfl, hr 0 c x rfl rfl, by simpa using hl, fun i c' v' hc hv => hr (i + 1) c' v' (by simpa using hc) (by simpa using hv)⟩

theorem VRs_length {β : Nat → Bx} {cs : List AV} {l : List Value} (h : VRs β cs l) : l.length = cs.length := (VRs_iff.1 h).1.symm
theorem VRs_get {β : Nat → Bx} {cs : List AV} {l : List Value} (h : VRs β cs l) {i : Nat} {c : AV} (hc : cs[i]? = some c) : ∃ v, l[i]? = some v ∧ VR β c v := by
  obtain ⟨hl, hr⟩ := VRs_iff.1 h
  have hi : i < l.length := by
    rw [← hl]
    exact (List.getElem?_eq_some_iff.1 hc).1
  exact ⟨l[i], List.getElem?_eq_getElem hi, hr i c _ hc (List.getElem?_eq_getElem hi)⟩
theorem VRs_append {β : Nat → Bx} {cs ds : List AV} {l m : List Value} (h : VRs β cs l) (h' : VRs β ds m) : VRs β (cs ++ ds) (l ++ m) := by
  induction cs generalizing l with
  | nil => simp only [VRs] at h; subst h; simpa using h'
  | cons c cs ih =>
    simp only [VRs] at h
    obtain ⟨x, xs, rfl, hx, hxs⟩ := h
    simp only [List.cons_append, VRs]
    exact ⟨x, xs ++ m, rfl, hx, ih hxs⟩
theorem VRs_take {β : Nat → Bx} {cs : List AV} {l : List Value} (h : VRs β cs l) (n : Nat) : VRs β (cs.take n) (l.take n) := by
  rw [VRs_iff] at h ⊢
  refine ⟨by simp [h.1], fun i c v hc hv => ?_⟩
  rw [List.getElem?_take] at hc hv
  split at hc
  · rename_i hi; rw [if_pos hi] at hv; exact h.2 i c v hc hv
  · cases hc
theorem VRs_drop {β : Nat → Bx} {cs : List AV} {l : List Value} (h : VRs β cs l) (n : Nat) : VRs β (cs.drop n) (l.drop n) := by
  rw [VRs_iff] at h ⊢
  refine ⟨by simp [h.1], fun i c v hc hv => ?_⟩
  rw [List.getElem?_drop] at hc hv
  exact h.2 _ c v hc hv
theorem VR_cells {β : Nat → Bx} {x : AV} {v : Value} (h : VR β x v) (hu : x.one = true ∨ ∃ cs, x = .agg cs) : VRs β x.cells v.cells.toList := by
  rcases hu with hu | ⟨cs, rfl⟩
  · have h1 := VR_one h hu
    have e : v.cells.toList = [v] := by cases v <;> simp [Value.oneCell'] at h1 <;> rfl
    have e' : x.cells = [x] := by cases x <;> simp [AV.one] at hu <;> rfl
    rw [e, e']
    simp only [VRs]
    exact ⟨v, [], rfl, h, rfl⟩
  · simp only [VR] at h
    obtain ⟨l, rfl, hl⟩ := h
    exact hl

/-- What may be done with a block: read only; the run's own; given up; and no block at all: the note that the cell at ⟨a, 0⟩ holds the type e as a value of type t (of an interface), v the block of the types. -/
inductive BK where
  | ro | own | dead
  | glob (a t v e : Nat)
  deriving DecidableEq

structure Blk where
  cells : List AV
  kind : BK
  ety : TypeId

abbrev Hp := List Blk
abbrev Fr := Nat → AV

/-- The world w holds what the abstract heap says; below block B it is as w0 was. -/
structure Rel (w0 : World) (B : Nat) (β : Nat → Bx) (H : Hp) (w : World) : Prop where
  below : Below B w0 w
  base : B ≤ w.heap.size
  cells : ∀ (h : Nat) (b : Blk), H[h]? = some b → b.kind ≠ .dead → ∀ (i : Nat) (c : AV), b.cells[i]? = some c → ∃ v, w.cell? ((β h).addr.add i) = some v ∧ VR β c v ∧ v.oneCell' = true
  lts : ∀ (h : Nat) (b : Blk), H[h]? = some b → b.kind ≠ .dead → ∀ c ∈ b.cells, c.lt H.length
  own : ∀ (h : Nat) (b : Blk), H[h]? = some b → b.kind = .own → ∃ g cur, (β h).addr = ⟨g, 0, none⟩ ∧ B ≤ g ∧ w.heap[g]? = some (.cells cur b.ety (0, 0)) ∧ b.cells.length ≤ cur.size ∧ cur.size = (β h).tot
  glob : ∀ (h : Nat) (b : Blk), H[h]? = some b → ∀ a t v e, b.kind = .glob a t v e → w0.cell? ⟨a, 0, none⟩ = some (.iface t (.agg #[.pointer (some ⟨v, e, none⟩)])) ∧ a < B
  sep : ∀ (h h' : Nat) (b b' : Blk), h ≠ h' → H[h]? = some b → H[h']? = some b' → b.kind = .own → b'.kind ≠ .dead → (b'.kind = .own ∨ b'.cells ≠ []) → (β h).addr.block ≠ (β h').addr.block

theorem Addr.add_block (a : Addr) (n : Nat) : (a.add n).block = a.block := by unfold Go.Addr.add; split <;> rfl
theorem Addr.add_add (a : Addr) (m n : Nat) : (a.add m).add n = a.add (m + n) := by
  unfold Go.Addr.add
  by_cases h : m = 0
  · subst h; simp
  · by_cases h' : n = 0
    · subst h'; simp [h]
    · have : m + n ≠ 0 := by omega
      simp [h, h', this, Nat.add_assoc]
theorem Addr.add_plain (g j : Nat) : (⟨g, 0, none⟩ : Addr).add j = ⟨g, j, none⟩ := by unfold Go.Addr.add; split <;> simp_all

theorem Rel.block_lt {w0 : World} {B : Nat} {β : Nat → Bx} {H : Hp} {w : World} (R : Rel w0 B β H w) {h : Nat} {b : Blk} (hb : H[h]? = some b) (hd : b.kind ≠ .dead) (hc : b.kind = .own ∨ b.cells ≠ []) : (β h).addr.block < w.heap.size := by
  rcases hc with hc | hc
  · obtain ⟨g, cur, e, _, hg, _⟩ := R.own h b hb hc
    rw [e]
    exact (Array.getElem?_eq_some_iff.1 hg).1
  · obtain ⟨c, cs, e⟩ := List.exists_cons_of_ne_nil hc
    obtain ⟨v, hv, _⟩ := R.cells h b hb hd 0 c (by simp [e])
    have := World.block_lt_of_cell? w _ hv
    rwa [Addr.add_block] at this

/-- Agreement of two placings on the first n handles. -/
def Agree (n : Nat) (β β' : Nat → Bx) : Prop := ∀ h, h < n → β' h = β h
theorem Agree.refl (n : Nat) (β : Nat → Bx) : Agree n β β := fun _ _ => rfl
theorem Agree.trans {n m : Nat} {β β' β'' : Nat → Bx} (h : Agree n β β') (h' : Agree m β' β'') (hnm : n ≤ m) : Agree n β β'' :=
  fun i hi => (h' i (by omega)).trans (h i hi)

def upd (β : Nat → Bx) (n : Nat) (x : Bx) : Nat → Bx := fun h => if h = n then x else β h
theorem agree_upd (β : Nat → Bx) (n : Nat) (x : Bx) : Agree n β (upd β n x) := fun h hh => by simp [upd, show h ≠ n by omega]

/-- A world that is as before but for blocks that no handle has (or a draw). -/
theorem Rel.kept {w0 : World} {B : Nat} {β : Nat → Bx} {H : Hp} {w w' : World} (R : Rel w0 B β H w) (hb : Below w.heap.size w w') : Rel w0 B β H w' := by
  refine ⟨R.below.trans (hb.mono R.base), Nat.le_trans R.base hb.size, ?_, R.lts, ?_, R.glob, R.sep⟩
  · intro h b hh hd i c hc
    obtain ⟨v, hv, h2, h3⟩ := R.cells h b hh hd i c hc
    exact ⟨v, (hb.cell (World.block_lt_of_cell? w _ hv)).trans hv, h2, h3⟩
  · intro h b hh ho
    obtain ⟨g, cur, e, h1, h2, h3, h4⟩ := R.own h b hh ho
    exact ⟨g, cur, e, h1, (hb.block g (Array.getElem?_eq_some_iff.1 h2).1).trans h2, h3, h4⟩

/-- A new block. -/
theorem Rel.alloc {w0 : World} {B : Nat} {β : Nat → Bx} {H : Hp} {w : World} (R : Rel w0 B β H w) (cs : List AV) (vs : Array Value) (ety : TypeId)
    (hl : AV.lts H.length cs) (hv : ∀ (i : Nat) c, cs[i]? = some c → ∃ v, vs[i]? = some v ∧ VR β c v ∧ v.oneCell' = true) :
    Rel w0 B (upd β H.length ⟨⟨w.heap.size, 0, none⟩, vs.size⟩) (H ++ [⟨cs, .own, ety⟩]) (w.alloc (.cells vs ety)) := by
  have hlen : (H ++ [(⟨cs, .own, ety⟩ : Blk)]).length = H.length + 1 := by simp
  have hold : ∀ {h : Nat} {b : Blk}, (H ++ [(⟨cs, .own, ety⟩ : Blk)])[h]? = some b → (h < H.length ∧ H[h]? = some b) ∨ (h = H.length ∧ b = ⟨cs, .own, ety⟩) := by
    intro h b hb
    rcases Nat.lt_trichotomy h H.length with h1 | h1 | h1
    · rw [List.getElem?_append_left h1] at hb; exact .inl ⟨h1, hb⟩
    · subst h1; simp at hb; exact .inr ⟨rfl, hb.symm⟩
    · rw [List.getElem?_eq_none (by simp; omega)] at hb; cases hb
  have ag := agree_upd β H.length ⟨⟨w.heap.size, 0, none⟩, vs.size⟩
  have atn : upd β H.length ⟨⟨w.heap.size, 0, none⟩, vs.size⟩ H.length = ⟨⟨w.heap.size, 0, none⟩, vs.size⟩ := by simp [upd]
  have hcl : cs.length ≤ vs.size := by
    rcases Nat.eq_zero_or_pos cs.length with h0 | h0
    · omega
    · obtain ⟨v, hv1, _⟩ := hv (cs.length - 1) (cs[cs.length - 1]'(by omega)) (List.getElem?_eq_getElem (by omega))
      have := (Array.getElem?_eq_some_iff.1 hv1).1
      omega
  refine ⟨R.below.trans ((Below.refl w.heap.size w).alloc (Nat.le_refl _) _ |>.mono R.base), ?_, ?_, ?_, ?_, (fun h b hb a t v e hk => (hold hb).elim (fun h' => R.glob h b h'.2 a t v e hk) (fun h' => by rw [h'.2] at hk; cases hk)), ?_⟩
  · simp; have := R.base; omega
  · intro h b hb hd i c hc
    rcases hold hb with ⟨h1, h2⟩ | ⟨rfl, rfl⟩
    · obtain ⟨v, h3, h4, h5⟩ := R.cells h b h2 hd i c hc
      refine ⟨v, ?_, VR_congr ag c v (R.lts h b h2 hd c (List.mem_of_getElem? hc)) h4, h5⟩
      rw [ag h h1, World.cell?_alloc_lt w _ _ (World.block_lt_of_cell? w _ h3)]
      exact h3
    · obtain ⟨v, h3, h4, h5⟩ := hv i c hc
      refine ⟨v, ?_, VR_congr ag c v ((AV.lts_iff.1 hl) c (List.mem_of_getElem? hc)) h4, h5⟩
      rw [atn]
      simp only [Addr.add_plain, World.cell?_alloc_new, h3]
  · intro h b hb hd c hc
    rw [hlen]
    rcases hold hb with ⟨h1, h2⟩ | ⟨rfl, rfl⟩
    · exact AV.lt_mono (by omega) c (R.lts h b h2 hd c hc)
    · exact AV.lt_mono (by omega) c ((AV.lts_iff.1 hl) c hc)
  · intro h b hb ho
    rcases hold hb with ⟨h1, h2⟩ | ⟨rfl, rfl⟩
    · obtain ⟨g, cur, e, h3, h4, h5, h6⟩ := R.own h b h2 ho
      refine ⟨g, cur, ?_, h3, ?_, h5, ?_⟩
      · rw [ag h h1]; exact e
      · rw [Below.heap_alloc w _ g (Array.getElem?_eq_some_iff.1 h4).1]; exact h4
      · rw [ag h h1]; exact h6
    · refine ⟨w.heap.size, vs, by rw [atn], R.base, heap_alloc_new w _, hcl, by rw [atn]⟩
  · intro h h' b b' hne hb hb' ho hd hc
    rcases hold hb with ⟨h1, h2⟩ | ⟨rfl, rfl⟩ <;> rcases hold hb' with ⟨h1', h2'⟩ | ⟨rfl, rfl⟩
    · rw [ag h h1, ag h' h1']; exact R.sep h h' b b' hne h2 h2' ho hd hc
    · rw [ag h h1, atn]
      have := R.block_lt h2 (by rw [ho]; decide) (.inl ho)
      simp only; omega
    · rw [ag h' h1', atn]
      have := R.block_lt h2' hd hc
      simp only; omega
    · exact absurd rfl hne

/-- What the handles from n on hold is forgotten. -/
theorem Rel.forget {w0 : World} {B : Nat} {β : Nat → Bx} {H E : Hp} {w : World} (R : Rel w0 B β (H ++ E) w) (hl : ∀ (h : Nat) (b : Blk), H[h]? = some b → b.kind ≠ .dead → ∀ c ∈ b.cells, c.lt H.length) : Rel w0 B β H w := by
  have up : ∀ {h : Nat} {b : Blk}, H[h]? = some b → (H ++ E)[h]? = some b := by
    intro h b hb
    rw [List.getElem?_append_left (List.getElem?_eq_some_iff.1 hb).1]
    exact hb
  exact ⟨R.below, R.base, fun h b hb => R.cells h b (up hb), hl, fun h b hb => R.own h b (up hb), fun h b hb => R.glob h b (up hb), fun h h' b b' hne hb hb' => R.sep h h' b b' hne (up hb) (up hb')⟩

end Go.AL

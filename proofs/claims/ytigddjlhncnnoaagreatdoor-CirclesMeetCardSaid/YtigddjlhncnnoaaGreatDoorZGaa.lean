/- Part 1 of the proof of laws of this seat: lemmas on the model's code, on this program's functions, on numbers. No condition. -/
import Derived.Below
import Derived.Calls
import Derived.Laws.AppendOwn
import Derived.Laws.BytesArg
import Derived.Laws.OwnMore
import Derived.Laws.Slices
import Derived.Laws.StructEq
import Derived.Maps.AppendAt
import Derived.Orders
import Derived.WalkKit
set_option linter.unusedVariables false
set_option linter.unusedSimpArgs false
open Nat renaming reduceEqDiff → J0, reduceLeDiff → J1, reduceMul → J2, reduceAdd → J3, reduceSub → J4, reduceLT → J5
open Int renaming reduceToNat → J6, reducePow → J7, reduceNeg → J8, reduceLT → J9, reduceLE → Ja, reduceEq → Jb
open And renaming intro → Jc
open Go.IntKind renaming bits → Jd
namespace Go.AL
open Go.RowKit
inductive AV where
  | undef
  | int (k : IntKind) (n : Int)
  | bool (b : Bool)
  | str (s : ByteArray)
  | nilI
  | ifc (t : TypeId) (v : AV)
  | nilP
  | ptr (h o : Nat)
  | nilS
  | sl (h o n c : Nat)
  | sg (h o n z : Nat)
  | agg (cs : List AV)
  | tup (vs : List AV)
  | fn (f : FuncId)
  /-- A slice of n elements that no one writes any more: its cells. -/
  | fz (n : Nat) (cs : List AV)
  /-- A pointer to cells that no one writes any more. -/
  | fp (cs : List AV)
  deriving Inhabited
structure Bx where
  addr : Addr
  tot : Nat
structure Env where
  bx : Nat → Bx
  fz : Addr → AV → Prop
  fz0 : Addr → Prop
  leg : Prop
instance : CoeFun Env fun _ => Nat → Bx := ⟨Env.bx⟩
mutual
def AV.lt (n : Nat) : AV → Prop
  | .ifc _ v => v.lt n
  | .ptr h _ => h < n
  | .sl h _ _ _ => h < n
  | .sg h _ _ _ => h < n
  | .agg cs => AV.lts n cs
  | .tup cs => AV.lts n cs
  | _ => True
def AV.lts (n : Nat) : List AV → Prop
  | [] => True
  | c :: cs => c.lt n ∧ AV.lts n cs
end
mutual
def VR (β : Env) : AV → Value → Prop
  | .undef, _ => True
  | .int k n, v => v = .int k n
  | .bool b, v => v = .bool b
  | .str s, v => v = .string s
  | .nilI, v => v = .nilIface
  | .ifc t x, v => ∃ y, v = .iface t y ∧ VR β x y
  | .nilP, v => v = .pointer none
  | .ptr h o, v => v = .pointer (some ((β h).addr.add o))
  | .nilS, v => v = .slice none 0 0
  | .sl h o n c, v => v = .slice (some ((β h).addr.add o)) n c
  | .sg h o n z, v => ∃ c o', v = .slice (some ((β h).addr.add o')) n c ∧ n ≤ c ∧ ((c = 0 ∧ o = (β h).tot) ∨ (o' = o ∧ o + c * z = (β h).tot))
  | .agg cs, v => ∃ l, v = .agg l ∧ VRs β cs l.toList
  | .tup cs, v => ∃ l, v = .tuple l ∧ VRs β cs l.toList
  | .fn f, v => v = .func (.func f) #[] #[]
  | .fz n cs, v => ∃ a c, v = .slice a n c ∧ n ≤ c ∧ (a = none → c = 0) ∧ (n = 0 ∨ ∃ x, a = some x ∧ ∀ i ci, cs[i]? = some ci → β.fz (x.add i) ci)
  | .fp cs, v => ∃ x, v = .pointer (some x) ∧ ∀ i ci, cs[i]? = some ci → β.fz (x.add i) ci
def VRs (β : Env) : List AV → List Value → Prop
  | [], l => l = []
  | c :: cs, l => ∃ x xs, l = x :: xs ∧ VR β c x ∧ VRs β cs xs
end
def AV.one : AV → Bool
  | .undef | .agg _ | .tup _ => false
  | _ => true
def AV.cells : AV → List AV
  | .agg cs => cs
  | v => [v]
theorem VR_one {β : Env} {c : AV} {v : Value} (h : VR β c v) (h1 : c.one = true) : v.oneCell' = true := by
  cases c <;> simp [AV.one] at h1 <;> simp only [VR] at h
  case ifc => obtain ⟨y, rfl, _⟩ := h; rfl
  case sg => obtain ⟨c, o', rfl, _⟩ := h; rfl
  case fz => obtain ⟨a, c, rfl, _⟩ := h; rfl
  case fp => obtain ⟨x, rfl, _⟩ := h; rfl
  all_goals (subst h; rfl)
structure Agree (n : Nat) (β β' : Env) : Prop where
  pl : ∀ h, h < n → β' h = β h
  fz : ∀ a c, β.fz a c → β'.fz a c
  fz0 : β'.fz0 = β.fz0
  leg : β'.leg = β.leg
instance {n : Nat} {β β' : Env} : CoeFun (Agree n β β') fun _ => ∀ h, h < n → β' h = β h := ⟨Agree.pl⟩
theorem Agree.refl (n : Nat) (β : Env) : Agree n β β := ⟨fun _ _ => rfl, fun _ _ h => h, rfl, rfl⟩
theorem Agree.trans {n m : Nat} {β β' β'' : Env} (h : Agree n β β') (h' : Agree m β' β'') (hnm : n ≤ m) : Agree n β β'' :=
  ⟨fun i hi => (h' i (by omega)).trans (h i hi), fun a c x => h'.fz a c (h.fz a c x), h'.fz0.trans h.fz0, h'.leg.trans h.leg⟩
mutual
theorem Rg {β β' : Env} {n : Nat} (hb : ∀ h, h < n → β' h = β h) (hf : ∀ a c, β.fz a c → β'.fz a c) : ∀ (c : AV) (v : Value), c.lt n → VR β c v → VR β' c v
  | .undef, _, _, _ => trivial
  | .int _ _, _, _, h => h
  | .bool _, _, _, h => h
  | .str _, _, _, h => h
  | .nilI, _, _, h => h
  | .ifc t x, v, hl, h => by
    simp only [VR] at h ⊢
    obtain ⟨y, rfl, hy⟩ := h
    exact ⟨y, rfl, Rg hb hf x y (by simpa only [AV.lt] using hl) hy⟩
  | .nilP, _, _, h => h
  | .ptr h0 o, v, hl, h => by simp only [VR, AV.lt] at h hl ⊢; rw [hb _ hl]; exact h
  | .nilS, _, _, h => h
  | .sl h0 o n' c, v, hl, h => by simp only [VR, AV.lt] at h hl ⊢; rw [hb _ hl]; exact h
  | .sg h0 o n' z, v, hl, h => by simp only [VR, AV.lt] at h hl ⊢; rw [hb _ hl]; exact h
  | .agg cs, v, hl, h => by
    simp only [VR] at h ⊢
    obtain ⟨l, rfl, hy⟩ := h
    exact ⟨l, rfl, VRs_mono hb hf cs l.toList (by simpa only [AV.lt] using hl) hy⟩
  | .tup cs, v, hl, h => by
    simp only [VR] at h ⊢
    obtain ⟨l, rfl, hy⟩ := h
    exact ⟨l, rfl, VRs_mono hb hf cs l.toList (by simpa only [AV.lt] using hl) hy⟩
  | .fn _, _, _, h => h
  | .fz n' cs, v, _, h => by
    simp only [VR] at h ⊢
    obtain ⟨a, c, rfl, hc, hn, h2⟩ := h
    exact ⟨a, c, rfl, hc, hn, h2.imp id fun ⟨x, e, hx⟩ => ⟨x, e, fun i ci hi => hf _ _ (hx i ci hi)⟩⟩
  | .fp cs, v, _, h => by
    simp only [VR] at h ⊢
    obtain ⟨x, rfl, hx⟩ := h
    exact ⟨x, rfl, fun i ci hi => hf _ _ (hx i ci hi)⟩
theorem VRs_mono {β β' : Env} {n : Nat} (hb : ∀ h, h < n → β' h = β h) (hf : ∀ a c, β.fz a c → β'.fz a c) : ∀ (cs : List AV) (l : List Value), AV.lts n cs → VRs β cs l → VRs β' cs l
  | [], _, _, h => h
  | c :: cs, l, hl, h => by
    simp only [VRs, AV.lts] at h hl ⊢
    obtain ⟨x, xs, rfl, hx, hxs⟩ := h
    exact ⟨x, xs, rfl, Rg hb hf c x hl.1 hx, VRs_mono hb hf cs xs hl.2 hxs⟩
end
theorem Vc {β β' : Env} {n : Nat} (hb : Agree n β β') (c : AV) (v : Value) (hl : c.lt n) (h : VR β c v) : VR β' c v := Rg hb.pl hb.fz c v hl h
mutual
theorem AV.lt_mono {n m : Nat} (hnm : n ≤ m) : ∀ (c : AV), c.lt n → c.lt m
  | .undef, _ => trivial
  | .int _ _, _ => trivial
  | .bool _, _ => trivial
  | .str _, _ => trivial
  | .nilI, _ => trivial
  | .ifc t x, h => by simp only [AV.lt] at h ⊢; exact AV.lt_mono hnm x h
  | .nilP, _ => trivial
  | .ptr h0 o, h => by simp only [AV.lt] at h ⊢; omega
  | .nilS, _ => trivial
  | .sl h0 o n' c, h => by simp only [AV.lt] at h ⊢; omega
  | .sg h0 o n' z, h => by simp only [AV.lt] at h ⊢; omega
  | .agg cs, h => by simp only [AV.lt] at h ⊢; exact AV.lts_mono hnm cs h
  | .tup cs, h => by simp only [AV.lt] at h ⊢; exact AV.lts_mono hnm cs h
  | .fn _, _ => trivial
  | .fz _ _, _ => trivial
  | .fp _, _ => trivial
theorem AV.lts_mono {n m : Nat} (hnm : n ≤ m) : ∀ (cs : List AV), AV.lts n cs → AV.lts m cs
  | [], _ => trivial
  | c :: cs, h => by simp only [AV.lts] at h ⊢; exact ⟨AV.lt_mono hnm c h.1, AV.lts_mono hnm cs h.2⟩
end
theorem AV.lts_iff {n : Nat} : ∀ {cs : List AV}, AV.lts n cs ↔ ∀ c ∈ cs, c.lt n
  | [] => by simp [AV.lts]
  | c :: cs => by simp [AV.lts, AV.lts_iff (cs := cs)]
theorem VRs_iff {β : Env} : ∀ {cs : List AV} {l : List Value}, VRs β cs l ↔ cs.length = l.length ∧ ∀ (i : Nat) c v, cs[i]? = some c → l[i]? = some v → VR β c v
  | [], l => by
    simp only [VRs]
    constructor
    · rintro rfl; simp
    · rintro ⟨h, _⟩; exact List.eq_nil_of_length_eq_zero h.symm
  | c :: cs, [] => by simp [VRs]
  | c :: cs, x :: l => by
    simp only [VRs, VRs_iff (cs := cs)]
    constructor
    · rintro ⟨x', xs', h, hx, hl, hr⟩
      cases h
      refine ⟨by simp [hl], ?_⟩
      intro i c' v' hc hv
      cases i with
      | zero => simp at hc hv; subst hc; subst hv; exact hx
      | succ i => simp at hc hv; exact hr i c' v' hc hv
    · rintro ⟨hl, hr⟩
      exact ⟨x, l, rfl, hr 0 c x rfl rfl, by simpa using hl, fun i c' v' hc hv => hr (i + 1) c' v' (by simpa using hc) (by simpa using hv)⟩
theorem Y4 {β : Env} {cs : List AV} {l : List Value} (h : VRs β cs l) : l.length = cs.length := (VRs_iff.1 h).1.symm
theorem Na {β : Env} {cs : List AV} {l : List Value} (h : VRs β cs l) {i : Nat} {c : AV} (hc : cs[i]? = some c) : ∃ v, l[i]? = some v ∧ VR β c v := by
  obtain ⟨hl, hr⟩ := VRs_iff.1 h
  have hi : i < l.length := by
    rw [← hl]
    exact (List.getElem?_eq_some_iff.1 hc).1
  exact ⟨l[i], List.getElem?_eq_getElem hi, hr i c _ hc (List.getElem?_eq_getElem hi)⟩
theorem Wv {β : Env} {cs ds : List AV} {l m : List Value} (h : VRs β cs l) (h' : VRs β ds m) : VRs β (cs ++ ds) (l ++ m) := by
  induction cs generalizing l with
  | nil => simp only [VRs] at h; subst h; simpa using h'
  | cons c cs ih =>
    simp only [VRs] at h
    obtain ⟨x, xs, rfl, hx, hxs⟩ := h
    simp only [List.cons_append, VRs]
    exact ⟨x, xs ++ m, rfl, hx, ih hxs⟩
theorem VRs_take {β : Env} {cs : List AV} {l : List Value} (h : VRs β cs l) (n : Nat) : VRs β (cs.take n) (l.take n) := by
  rw [VRs_iff] at h ⊢
  refine ⟨by simp [h.1], fun i c v hc hv => ?_⟩
  rw [List.getElem?_take] at hc hv
  split at hc
  · rename_i hi; rw [if_pos hi] at hv; exact h.2 i c v hc hv
  · cases hc
theorem VRs_drop {β : Env} {cs : List AV} {l : List Value} (h : VRs β cs l) (n : Nat) : VRs β (cs.drop n) (l.drop n) := by
  rw [VRs_iff] at h ⊢
  refine ⟨by simp [h.1], fun i c v hc hv => ?_⟩
  rw [List.getElem?_drop] at hc hv
  exact h.2 _ c v hc hv
theorem VR_cells {β : Env} {x : AV} {v : Value} (h : VR β x v) (hu : x.one = true ∨ ∃ cs, x = .agg cs) : VRs β x.cells v.cells.toList := by
  rcases hu with hu | ⟨cs, rfl⟩
  · have h1 := VR_one h hu
    have e : v.cells.toList = [v] := by cases v <;> simp [Value.oneCell'] at h1 <;> rfl
    have e' : x.cells = [x] := by cases x <;> simp [AV.one] at hu <;> rfl
    rw [e, e']
    simp only [VRs]
    exact ⟨v, [], rfl, h, rfl⟩
  · simp only [VR] at h
    obtain ⟨l, rfl, hl⟩ := h
    exact hl
inductive BK where
  | ro | own | dead
  | glob (a t v e : Nat)
  deriving DecidableEq
structure Blk where
  cells : List AV
  kind : BK
  ety : TypeId
abbrev Hp := List Blk
abbrev Fr := Nat → AV
structure Rel (w0 : World) (B : Nat) (β : Env) (H : Hp) (w : World) : Prop where
  below : Below B w0 w
  base : B ≤ w.heap.size
  cells : ∀ (h : Nat) (b : Blk), H[h]? = some b → b.kind ≠ .dead → ∀ (i : Nat) (c : AV), b.cells[i]? = some c → ∃ v, w.cell? ((β h).addr.add i) = some v ∧ VR β c v ∧ v.oneCell' = true
  lts : ∀ (h : Nat) (b : Blk), H[h]? = some b → b.kind ≠ .dead → ∀ c ∈ b.cells, c.lt H.length
  own : ∀ (h : Nat) (b : Blk), H[h]? = some b → b.kind = .own → ∃ g cur, (β h).addr = ⟨g, 0, none⟩ ∧ B ≤ g ∧ w.heap[g]? = some (.cells cur b.ety (0, 0)) ∧ b.cells.length ≤ cur.size ∧ cur.size = (β h).tot
  glob : ∀ (h : Nat) (b : Blk), H[h]? = some b → ∀ a t v e, b.kind = .glob a t v e → w0.cell? ⟨a, 0, none⟩ = some (.iface t (.agg #[.pointer (some ⟨v, e, none⟩)])) ∧ a < B
  sep : ∀ (h h' : Nat) (b b' : Blk), h ≠ h' → H[h]? = some b → H[h']? = some b' → b.kind = .own → b'.kind ≠ .dead → (b'.kind = .own ∨ b'.cells ≠ []) → (β h).addr.block ≠ (β h').addr.block
  fzn : ∀ a c, β.fz a c → c.lt 0 ∧ (∃ v, w.cell? a = some v ∧ VR β c v ∧ v.oneCell' = true) ∧ (∀ (h : Nat) (b : Blk), H[h]? = some b → b.kind = .own → (β h).addr.block ≠ a.block) ∧ (β.fz0 a ∨ B ≤ a.block)
  roB : ∀ (h : Nat) (b : Blk), H[h]? = some b → b.kind ≠ .own → b.kind ≠ .dead → b.cells ≠ [] → β.leg ∨ B ≤ (β h).addr.block
theorem Addr.add_block (a : Addr) (n : Nat) : (a.add n).block = a.block := by unfold Go.Addr.add; split <;> rfl
theorem Addr.add_add (a : Addr) (m n : Nat) : (a.add m).add n = a.add (m + n) := by
  unfold Go.Addr.add
  by_cases h : m = 0
  · subst h; simp
  · by_cases h' : n = 0
    · subst h'; simp [h]
    · have : m + n ≠ 0 := by omega
      simp [h, h', this, Nat.add_assoc]
theorem Addr.add_plain (g j : Nat) : (⟨g, 0, none⟩ : Addr).add j = ⟨g, j, none⟩ := by unfold Go.Addr.add; split <;> simp_all
theorem Rel.block_lt {w0 : World} {B : Nat} {β : Env} {H : Hp} {w : World} (R : Rel w0 B β H w) {h : Nat} {b : Blk} (hb : H[h]? = some b) (hd : b.kind ≠ .dead) (hc : b.kind = .own ∨ b.cells ≠ []) : (β h).addr.block < w.heap.size := by
  rcases hc with hc | hc
  · obtain ⟨g, cur, e, _, hg, _⟩ := R.own h b hb hc
    rw [e]
    exact (Array.getElem?_eq_some_iff.1 hg).1
  · obtain ⟨c, cs, e⟩ := List.exists_cons_of_ne_nil hc
    obtain ⟨v, hv, _⟩ := R.cells h b hb hd 0 c (by simp [e])
    have := World.block_lt_of_cell? w _ hv
    rwa [Addr.add_block] at this
def upd (β : Env) (n : Nat) (x : Bx) : Env := ⟨fun h => if h = n then x else β h, β.fz, β.fz0, β.leg⟩
theorem U6 (β : Env) (n : Nat) (x : Bx) : Agree n β (upd β n x) := ⟨fun h hh => by simp [upd, show h ≠ n by omega], fun _ _ h => h, rfl, rfl⟩
theorem Rel.kept {w0 : World} {B : Nat} {β : Env} {H : Hp} {w w' : World} (R : Rel w0 B β H w) (hb : Below w.heap.size w w') : Rel w0 B β H w' := by
  refine ⟨R.below.trans (hb.mono R.base), Nat.le_trans R.base hb.size, ?_, R.lts, ?_, R.glob, R.sep, fun a c hf => ?_, R.roB⟩
  · intro h b hh hd i c hc
    obtain ⟨v, hv, h2, h3⟩ := R.cells h b hh hd i c hc
    exact ⟨v, (hb.cell (World.block_lt_of_cell? w _ hv)).trans hv, h2, h3⟩
  · intro h b hh ho
    obtain ⟨g, cur, e, h1, h2, h3, h4⟩ := R.own h b hh ho
    exact ⟨g, cur, e, h1, (hb.block g (Array.getElem?_eq_some_iff.1 h2).1).trans h2, h3, h4⟩
  · obtain ⟨h1, ⟨v, h2, h3, h4⟩, h5⟩ := R.fzn a c hf
    exact ⟨h1, ⟨v, (hb.cell (World.block_lt_of_cell? w _ h2)).trans h2, h3, h4⟩, h5⟩
theorem Rel.alloc {w0 : World} {B : Nat} {β : Env} {H : Hp} {w : World} (R : Rel w0 B β H w) (cs : List AV) (vs : Array Value) (ety : TypeId)
    (hl : AV.lts H.length cs) (hv : ∀ (i : Nat) c, cs[i]? = some c → ∃ v, vs[i]? = some v ∧ VR β c v ∧ v.oneCell' = true) :
    Rel w0 B (upd β H.length ⟨⟨w.heap.size, 0, none⟩, vs.size⟩) (H ++ [⟨cs, .own, ety⟩]) (w.alloc (.cells vs ety)) := by
  have hlen : (H ++ [(⟨cs, .own, ety⟩ : Blk)]).length = H.length + 1 := by simp
  have hold : ∀ {h : Nat} {b : Blk}, (H ++ [(⟨cs, .own, ety⟩ : Blk)])[h]? = some b → (h < H.length ∧ H[h]? = some b) ∨ (h = H.length ∧ b = ⟨cs, .own, ety⟩) := by
    intro h b hb
    rcases Nat.lt_trichotomy h H.length with h1 | h1 | h1
    · rw [List.getElem?_append_left h1] at hb; exact .inl ⟨h1, hb⟩
    · subst h1; simp at hb; exact .inr ⟨rfl, hb.symm⟩
    · rw [List.getElem?_eq_none (by simp; omega)] at hb; cases hb
  have ag := U6 β H.length ⟨⟨w.heap.size, 0, none⟩, vs.size⟩
  have atn : upd β H.length ⟨⟨w.heap.size, 0, none⟩, vs.size⟩ H.length = ⟨⟨w.heap.size, 0, none⟩, vs.size⟩ := by simp [upd]
  have hcl : cs.length ≤ vs.size := by
    rcases Nat.eq_zero_or_pos cs.length with h0 | h0
    · omega
    · obtain ⟨v, hv1, _⟩ := hv (cs.length - 1) (cs[cs.length - 1]'(by omega)) (List.getElem?_eq_getElem (by omega))
      have := (Array.getElem?_eq_some_iff.1 hv1).1
      omega
  refine ⟨R.below.trans ((Below.refl w.heap.size w).alloc (Nat.le_refl _) _ |>.mono R.base), ?_, ?_, ?_, ?_, (fun h b hb a t v e hk => (hold hb).elim (fun h' => R.glob h b h'.2 a t v e hk) (fun h' => by rw [h'.2] at hk; cases hk)), ?_, ?_, fun h b hb hk hd hc => (hold hb).elim (fun h' => by rw [ag h h'.1]; exact R.roB h b h'.2 hk hd hc) (fun h' => by rw [h'.2] at hk; exact absurd rfl hk)⟩
  · simp; have := R.base; omega
  · intro h b hb hd i c hc
    rcases hold hb with ⟨h1, h2⟩ | ⟨rfl, rfl⟩
    · obtain ⟨v, h3, h4, h5⟩ := R.cells h b h2 hd i c hc
      refine ⟨v, ?_, Vc ag c v (R.lts h b h2 hd c (List.mem_of_getElem? hc)) h4, h5⟩
      rw [ag h h1, World.cell?_alloc_lt w _ _ (World.block_lt_of_cell? w _ h3)]
      exact h3
    · obtain ⟨v, h3, h4, h5⟩ := hv i c hc
      refine ⟨v, ?_, Vc ag c v ((AV.lts_iff.1 hl) c (List.mem_of_getElem? hc)) h4, h5⟩
      rw [atn]
      simp only [Addr.add_plain, World.cell?_alloc_new, h3]
  · intro h b hb hd c hc
    rw [hlen]
    rcases hold hb with ⟨h1, h2⟩ | ⟨rfl, rfl⟩
    · exact AV.lt_mono (by omega) c (R.lts h b h2 hd c hc)
    · exact AV.lt_mono (by omega) c ((AV.lts_iff.1 hl) c hc)
  · intro h b hb ho
    rcases hold hb with ⟨h1, h2⟩ | ⟨rfl, rfl⟩
    · obtain ⟨g, cur, e, h3, h4, h5, h6⟩ := R.own h b h2 ho
      refine ⟨g, cur, ?_, h3, ?_, h5, ?_⟩
      · rw [ag h h1]; exact e
      · rw [Below.heap_alloc w _ g (Array.getElem?_eq_some_iff.1 h4).1]; exact h4
      · rw [ag h h1]; exact h6
    · refine ⟨w.heap.size, vs, by rw [atn], R.base, heap_alloc_new w _, hcl, by rw [atn]⟩
  · intro h h' b b' hne hb hb' ho hd hc
    rcases hold hb with ⟨h1, h2⟩ | ⟨rfl, rfl⟩ <;> rcases hold hb' with ⟨h1', h2'⟩ | ⟨rfl, rfl⟩
    · rw [ag h h1, ag h' h1']; exact R.sep h h' b b' hne h2 h2' ho hd hc
    · rw [ag h h1, atn]
      have := R.block_lt h2 (by rw [ho]; decide) (.inl ho)
      simp only; omega
    · rw [ag h' h1', atn]
      have := R.block_lt h2' hd hc
      simp only; omega
    · exact absurd rfl hne
  · intro a c hf
    obtain ⟨h1, ⟨v, h2, h3, h4⟩, h5, h6⟩ := R.fzn a c hf
    have hlt := World.block_lt_of_cell? w _ h2
    refine ⟨h1, ⟨v, by rw [World.cell?_alloc_lt w _ _ hlt]; exact h2, Vc ag c v (AV.lt_mono (Nat.zero_le _) c h1) h3, h4⟩, fun h b hb ho => ?_, h6⟩
    rcases hold hb with ⟨h1', h2'⟩ | ⟨rfl, rfl⟩
    · rw [ag h h1']; exact h5 h b h2' ho
    · rw [atn]; simp only; omega
theorem Rel.forget {w0 : World} {B : Nat} {β : Env} {H E : Hp} {w : World} (R : Rel w0 B β (H ++ E) w) (hl : ∀ (h : Nat) (b : Blk), H[h]? = some b → b.kind ≠ .dead → ∀ c ∈ b.cells, c.lt H.length) : Rel w0 B β H w := by
  have up : ∀ {h : Nat} {b : Blk}, H[h]? = some b → (H ++ E)[h]? = some b := by
    intro h b hb
    rw [List.getElem?_append_left (List.getElem?_eq_some_iff.1 hb).1]
    exact hb
  exact ⟨R.below, R.base, fun h b hb => R.cells h b (up hb), hl, fun h b hb => R.own h b (up hb), fun h b hb => R.glob h b (up hb), fun h h' b b' hne hb hb' => R.sep h h' b b' hne (up hb) (up hb'), fun a c hf => by
    obtain ⟨h1, h2, h5, h6⟩ := R.fzn a c hf
    exact ⟨h1, h2, fun h b hb => h5 h b (up hb), h6⟩, fun h b hb => R.roB h b (up hb)⟩
end Go.AL
namespace Go.AL
open Go.RowKit
def Ju : Value → AV
  | .int k n => .int k n
  | .bool b => .bool b
  | .string s => .str s
  | .nilIface => .nilI
  | .pointer none => .nilP
  | .slice none 0 0 => .nilS
  | _ => .undef
def ofValue : Value → AV
  | .agg l => .agg (l.toList.map Ju)
  | .iface t v => .ifc t (Ju v)
  | v => Ju v
theorem J1k (β : Env) (v : Value) : VR β (Ju v) v := by
  unfold Ju; split <;> simp [VR]
theorem ofAtom_lt (n : Nat) (v : Value) : (Ju v).lt n := by
  unfold Ju; split <;> simp [AV.lt]
theorem ofAtoms_VRs (β : Env) : ∀ l : List Value, VRs β (l.map Ju) l
  | [] => rfl
  | x :: l => by
    simp only [List.map_cons, VRs]
    exact ⟨x, l, rfl, J1k β x, ofAtoms_VRs β l⟩
theorem ofAtoms_lts (n : Nat) (l : List Value) : AV.lts n (l.map Ju) := by
  rw [AV.lts_iff]
  intro c hc
  obtain ⟨v, _, rfl⟩ := List.mem_map.1 hc
  exact ofAtom_lt n v
theorem ofValue_VR (β : Env) (v : Value) : VR β (ofValue v) v := by
  unfold ofValue
  split
  · simp only [VR]; exact ⟨_, rfl, ofAtoms_VRs β _⟩
  · simp only [VR]; exact ⟨_, rfl, J1k β _⟩
  · exact J1k β _
theorem G0 (n : Nat) (v : Value) : (ofValue v).lt n := by
  unfold ofValue
  split
  · simp only [AV.lt]; exact ofAtoms_lts n _
  · simp only [AV.lt]; exact ofAtom_lt n _
  · exact ofAtom_lt n _
def Fr.put (fr : Fr) (d : Option Tmp) (v : AV) : Fr :=
  match d with
  | some d => fun t => if t = d then v else fr t
  | none => fr
def ev (fr : Fr) : Operand → AV
  | .tmp t => fr t
  | .const v => ofValue v
  | .global _ => .undef
  | .func f => .fn f
def FR (β : Env) (n : Nat) (fr : Fr) (tmps : Array Value) : Prop := ∀ t, VR β (fr t) (tmps.getD t Go.undef) ∧ (fr t).lt n
theorem Y5 {β : Env} {n : Nat} {fr : Fr} {a : Act} (F : FR β n fr a.tmps) (x : Operand) : VR β (ev fr x) (a.eval x) ∧ (ev fr x).lt n := by
  cases x with
  | tmp t => exact F t
  | const v => exact ⟨ofValue_VR β v, G0 n v⟩
  | global g => exact ⟨trivial, trivial⟩
  | func f => exact ⟨rfl, trivial⟩
theorem FR_congr {β β' : Env} {n m : Nat} {fr : Fr} {tmps : Array Value} (F : FR β n fr tmps) (ag : Agree n β β') (hnm : n ≤ m) : FR β' m fr tmps :=
  fun t => ⟨Vc ag _ _ (F t).2 (F t).1, AV.lt_mono hnm _ (F t).2⟩
theorem FR_put {β : Env} {n : Nat} {fr : Fr} {a : Act} {d : Option Tmp} (F : FR β n fr a.tmps) (hd : ∀ t, d = some t → t < a.tmps.size) {v : AV} {x : Value} (hv : VR β v x) (hl : v.lt n) :
    FR β n (fr.put d v) (a.put d x).tmps := by
  cases d with
  | none => exact F
  | some d =>
    intro t
    have hlt := hd d rfl
    simp only [Fr.put, Act.put]
    by_cases h : t = d
    · subst h
      rw [if_pos rfl]
      refine ⟨?_, hl⟩
      simp only [Array.getD_eq_getD_getElem?, Array.getElem?_setIfInBounds_self]
      rw [if_pos hlt]
      exact hv
    · rw [if_neg h]
      refine ⟨?_, (F t).2⟩
      have e : (a.tmps.setIfInBounds d x).getD t Go.undef = a.tmps.getD t Go.undef := by
        simp only [Array.getD_eq_getD_getElem?]
        rw [Array.getElem?_setIfInBounds_ne (by omega)]
      rw [e]
      exact (F t).1
def Xp (P : Program) (t : TypeId) : Option Bool :=
  match P.underlying t with
  | some (.struct _) | some (.array _ _) => some true
  | some _ => some false
  | none => none
def Xf (P : Program) (t : TypeId) : Option Nat := (P.info? t).map (·.size)
def Xq (P : Program) (t : TypeId) : Option Nat := (P.info? t).map (·.bytes)
def Z2 (P : Program) (t : TypeId) : Option AV := (P.info? t).bind fun i => i.zero.map ofValue
theorem Rj {P : Program} {t : TypeId} {b : Bool} (h : Xp P t = some b) (w : World) : (isAgg t).run P w = .ok b w := by
  unfold Xp at h
  split at h
  · rename_i fs hu; cases h; simp [isAgg, run_underlying hu]
  · rename_i n e hu; cases h; simp [isAgg, run_underlying hu]
  · rename_i d h1 h2 hu
    cases h
    simp only [isAgg, Sem.run_bind, run_underlying hu, Result.andThen_ok]
    cases d <;> first | rfl | exact absurd rfl (h1 _) | exact absurd rfl (h2 _ _)
  · cases h
theorem Za {P : Program} {t : TypeId} {n : Nat} (h : Xf P t = some n) (w : World) : (sizeOf t).run P w = .ok n w := by
  unfold Xf at h
  obtain ⟨i, hi, rfl⟩ := Option.map_eq_some_iff.1 h
  simp [sizeOf, typeInfo, hi]
def Qk (op : BinOp) (k : IntKind) (a b : Int) : Option AV :=
  match op with
  | .add => some (.int k (k.wrap (a + b)))
  | .sub => some (.int k (k.wrap (a - b)))
  | .mul => some (.int k (k.wrap (a * b)))
  | .quo => if b = 0 then none else some (.int k (k.wrap (a.tdiv b)))
  | .rem => if b = 0 then none else some (.int k (a.tmod b))
  | .and => some (.int k (bits .and k a b))
  | .or => some (.int k (bits .or k a b))
  | .xor => some (.int k (bits .xor k a b))
  | .andNot => some (.int k (bits .andNot k a b))
  | .eql => some (.bool (a == b))
  | .neq => some (.bool (a != b))
  | .lss => some (.bool (decide (a < b)))
  | .leq => some (.bool (decide (a ≤ b)))
  | .gtr => some (.bool (decide (b < a)))
  | .geq => some (.bool (decide (b ≤ a)))
  | _ => none
def Q0 (op : BinOp) (k : IntKind) (a b : Int) : Option AV :=
  if b < 0 then none else
  match op with
  | .shl => some (.int k (k.wrap (a * 2 ^ min b.toNat k.bits)))
  | .shr => some (.int k (a / 2 ^ min b.toNat k.bits))
  | _ => none
def Qj (op : BinOp) (x y : ByteArray) : Option AV :=
  match op with
  | .add => if ((x.size + y.size : Nat) : Int) ≤ 9223372036854775807 then some (.str (x ++ y)) else none
  | .eql => some (.bool (x.toList == y.toList))
  | .neq => some (.bool (!(x.toList == y.toList)))
  | .lss => some (.bool (Op.bytesLess x.toList y.toList))
  | .geq => some (.bool (!(Op.bytesLess x.toList y.toList)))
  | _ => none
def apart (P : Program) (t : TypeId) (cs : List AV) (off : Nat) : Option AV :=
  match Xp P t, Xf P t with
  | some true, some n => some (.agg ((cs.drop off).take n))
  | some false, _ => cs[off]?
  | _, _ => none
theorem J1i {P : Program} {β : Env} {t : TypeId} {cs : List AV} {l : Array Value} {off : Nat} {v : AV} (h : apart P t cs off = some v) (hl : VRs β cs l.toList) (w : World) :
    ∃ x, (part t l off).run P w = .ok x w ∧ VR β v x := by
  unfold apart at h
  split at h
  · rename_i n ha hs
    cases h
    refine ⟨.agg (l.extract off (off + n)), ?_, ?_⟩
    · simp [part, Rj ha, Za hs]
    · simp only [VR]
      refine ⟨_, rfl, ?_⟩
      have e : (l.extract off (off + n)).toList = (l.toList.drop off).take n := by
        rw [Array.toList_extract]
        simp [List.extract_eq_take_drop]
      rw [e]
      exact VRs_take (VRs_drop hl off) n
  · rename_i ha
    obtain ⟨x, hx, hv⟩ := Na hl h
    refine ⟨x, ?_, hv⟩
    rw [Array.getElem?_toList] at hx
    simp [part, Rj ha, hx]
  · cases h
theorem apart_lt {P : Program} {t : TypeId} {cs : List AV} {off n : Nat} {v : AV} (h : apart P t cs off = some v) (hl : AV.lts n cs) : v.lt n := by
  unfold apart at h
  rw [AV.lts_iff] at hl
  split at h
  · cases h
    simp only [AV.lt]
    rw [AV.lts_iff]
    exact fun c hc => hl c (List.mem_of_mem_drop (List.mem_of_mem_take hc))
  · exact hl v (List.mem_of_getElem? h)
  · cases h
def Xm (P : Program) : Nat → TypeId → AV → AV → Option Bool
  | 0, _, _, _ => none
  | d + 1, t, x, y =>
    match P.underlying t, x, y with
    | some .bool, .bool a, .bool b => some (a == b)
    | some (.int _), .int k a, .int k' b => if k = k' then some (a == b) else none
    | some .string, .str a, .str b => some (a.toList == b.toList)
    | some (.pointer _), .nilP, .nilP => some true
    | some (.pointer _), .nilP, .ptr _ _ => some false
    | some (.pointer _), .ptr _ _, .nilP => some false
    | some (.interface _), .nilI, .nilI => some true
    | some (.interface _), .nilI, .ifc _ _ => some false
    | some (.interface _), .ifc _ _, .nilI => some false
    | some (.interface _), .ifc tx vx, .ifc ty vy =>
      if tx ≠ ty then some false else
      match (P.info? tx).map (·.comparable) with
      | some true => Xm P d tx vx vy
      | _ => none
    | some (.slice _), .nilS, .nilS => some true
    | some (.slice _), .nilS, .sl _ _ _ _ => some false
    | some (.slice _), .nilS, .sg _ _ _ _ => some false
    | some (.slice _), .sl _ _ _ _, .nilS => some false
    | some (.slice _), .sg _ _ _ _, .nilS => some false
    | some (.struct fs), .agg xs, .agg ys =>
      if P.stoodInHeld t then none else
      fs.toList.foldr (fun f r => if f.name = "_" then r else
        match apart P f.type xs f.offset, apart P f.type ys f.offset with
        | some a, some b => match Xm P d f.type a b, r with
          | some p, some q => some (p && q)
          | _, _ => none
        | _, _ => none) (some true)
    | some (.array len e), .agg xs, .agg ys =>
      match Xf P e with
      | none => none
      | some n => (List.range len).foldr (fun i r =>
        match apart P e xs (i * n), apart P e ys (i * n) with
        | some a, some b => match Xm P d e a b, r with
          | some p, some q => some (p && q)
          | _, _ => none
        | _, _ => none) (some true)
    | some (.pointer _), .nilP, .fp _ => some false
    | some (.pointer _), .fp _, .nilP => some false
    | _, _, _ => none
theorem J12 {P : Program} {β : Env} (d : Nat) (ih : ∀ (t : TypeId) (x y : AV) (u v : Value) (b : Bool), Xm P d t x y = some b → VR β x u → VR β y v → ∀ w, (Op.equalIn d t u v).run P w = .ok b w)
    (xs ys : List AV) (us vs : Array Value) (hx : VRs β xs us.toList) (hy : VRs β ys vs.toList) :
    ∀ (fs : List Field) (b : Bool), fs.foldr (fun f r => if f.name = "_" then r else
        match apart P f.type xs f.offset, apart P f.type ys f.offset with
        | some a, some b => match Xm P d f.type a b, r with
          | some p, some q => some (p && q)
          | _, _ => none
        | _, _ => none) (some true) = some b → ∀ w, (Op.eqFields d us vs fs).run P w = .ok b w
  | [], b, h, w => by simp at h; subst h; rfl
  | f :: fs, b, h, w => by
    simp only [List.foldr_cons] at h
    by_cases hn : f.name = "_"
    · rw [if_pos hn] at h
      have := J12 d ih xs ys us vs hx hy fs b h w
      simp only [Op.eqFields, hn, ne_eq, not_true_eq_false, if_false]
      exact this
    · rw [if_neg hn] at h
      split at h
      · rename_i a b' ha hb
        split at h
        · rename_i p q hp hq
          cases h
          obtain ⟨u, hu, hua⟩ := J1i ha hx w
          obtain ⟨v, hv, hvb⟩ := J1i hb hy w
          have he := ih _ _ _ _ _ _ hp hua hvb w
          have hr := J12 d ih xs ys us vs hx hy fs q hq w
          simp only [Op.eqFields, hn, ne_eq, not_false_eq_true, if_true, Sem.run_bind, hu, hv, Result.andThen_ok, he, Sem.run_ite, Sem.run_pure, hr]
          cases p <;> simp
        · cases h
      · cases h
theorem run_eqArr {P : Program} {β : Env} (d : Nat) (ih : ∀ (t : TypeId) (x y : AV) (u v : Value) (b : Bool), Xm P d t x y = some b → VR β x u → VR β y v → ∀ w, (Op.equalIn d t u v).run P w = .ok b w)
    (e : TypeId) (n : Nat) (xs ys : List AV) (us vs : Array Value) (hx : VRs β xs us.toList) (hy : VRs β ys vs.toList) :
    ∀ (l : List Nat) (b : Bool), l.foldr (fun i r =>
        match apart P e xs (i * n), apart P e ys (i * n) with
        | some a, some b => match Xm P d e a b, r with
          | some p, some q => some (p && q)
          | _, _ => none
        | _, _ => none) (some true) = some b → ∀ w,
      (do
        let r ← forIn l ((none, ()) : Option Bool × Unit) fun i r => do
          let a ← part e us (i * n)
          let b ← part e vs (i * n)
          let c ← Op.equalIn d e a b
          if (!c) = true then pure (ForInStep.done (some false, ())) else pure (ForInStep.yield (none, ()))
        match r.fst with
        | some a => pure a
        | none => pure true : Sem Bool).run P w = .ok b w
  | [], b, h, w => by simp at h; subst h; simp
  | i :: l, b, h, w => by
    simp only [List.foldr_cons] at h
    split at h
    · rename_i a b' ha hb
      split at h
      · rename_i p q hp hq
        cases h
        obtain ⟨u, hu, hua⟩ := J1i ha hx w
        obtain ⟨v, hv, hvb⟩ := J1i hb hy w
        have he := ih _ _ _ _ _ _ hp hua hvb w
        have hr := run_eqArr d ih e n xs ys us vs hx hy l q hq w
        simp only [List.forIn_cons, Sem.run_bind, hu, hv, Result.andThen_ok, he, Sem.run_ite, Sem.run_pure] at hr ⊢
        cases p
        · simp
        · simpa using hr
      · cases h
    · cases h
theorem run_equalIn {P : Program} {β : Env} : ∀ (d : Nat) (t : TypeId) (x y : AV) (u v : Value) (b : Bool), Xm P d t x y = some b → VR β x u → VR β y v → ∀ w, (Op.equalIn d t u v).run P w = .ok b w
  | 0, t, x, y, u, v, b, h, _, _, w => by simp [Xm] at h
  | d + 1, t, x, y, u, v, b, h, hu, hv, w => by
    have ih := run_equalIn (P := P) (β := β) d
    unfold Xm at h
    split at h <;> rename_i ht <;> (try simp only [VR] at hu hv)
    case h_1 => cases h; subst hu; subst hv; simp [Op.equalIn, run_underlying ht]
    case h_2 =>
      split at h
      · rename_i hk; cases h; subst hu; subst hv; subst hk; simp [Op.equalIn, run_underlying ht]
      · cases h
    case h_3 => cases h; subst hu; subst hv; simp [Op.equalIn, run_underlying ht, beq_toListBytes]
    case h_4 => cases h; subst hu; subst hv; simp [Op.equalIn, run_underlying ht]
    case h_5 => cases h; subst hu; subst hv; simp [Op.equalIn, run_underlying ht]
    case h_6 => cases h; subst hu; subst hv; simp [Op.equalIn, run_underlying ht]
    case h_7 => cases h; subst hu; subst hv; simp [Op.equalIn, run_underlying ht]
    case h_8 => cases h; obtain ⟨y, rfl, _⟩ := hv; subst hu; simp [Op.equalIn, run_underlying ht]
    case h_9 => cases h; obtain ⟨y, rfl, _⟩ := hu; subst hv; simp [Op.equalIn, run_underlying ht]
    case h_10 =>
      obtain ⟨u', rfl, hu'⟩ := hu
      obtain ⟨v', rfl, hv'⟩ := hv
      split at h
      · rename_i hne; cases h; simp [Op.equalIn, run_underlying ht, hne]
      · rename_i hne
        have hne' := Decidable.not_not.1 hne
        subst hne'
        split at h
        · rename_i hc
          obtain ⟨i, hi, hci⟩ := Option.map_eq_some_iff.1 hc
          have := ih _ _ _ _ _ _ h hu' hv' w
          simp [Op.equalIn, run_underlying ht, typeInfo, hi, hci, this]
        · cases h
    case h_11 => cases h; subst hu; subst hv; simp [Op.equalIn, run_underlying ht]
    case h_12 => cases h; subst hu; subst hv; simp [Op.equalIn, run_underlying ht]
    case h_13 => cases h; obtain ⟨c, o', rfl, _⟩ := hv; subst hu; simp [Op.equalIn, run_underlying ht]
    case h_14 => cases h; subst hu; subst hv; simp [Op.equalIn, run_underlying ht]
    case h_15 => cases h; obtain ⟨c, o', rfl, _⟩ := hu; subst hv; simp [Op.equalIn, run_underlying ht]
    case h_16 =>
      obtain ⟨us, rfl, hus⟩ := hu
      obtain ⟨vs, rfl, hvs⟩ := hv
      split at h
      · cases h
      · rename_i fs xs ys hp
        have hf : P.fieldsOf t = fs := by simp [Program.fieldsOf, ht]
        rw [run_equalIn_struct w d t us vs (by rw [hf]; exact ht) (by simpa using hp), hf]
        exact J12 d ih _ _ us vs hus hvs fs.toList b h w
    case h_17 =>
      obtain ⟨us, rfl, hus⟩ := hu
      obtain ⟨vs, rfl, hvs⟩ := hv
      split at h
      · cases h
      · rename_i len e xs ys _ n hs
        have := run_eqArr d ih e n _ _ us vs hus hvs (List.range len) b h w
        simp only [Op.equalIn, Sem.run_bind, run_underlying ht, Result.andThen_ok, Za hs]
        rw [← this]
        simp only [Std.Legacy.Range.forIn_eq_forIn_range', Std.Legacy.Range.size, Nat.sub_zero, Nat.add_sub_cancel, Nat.div_one, List.range_eq_range', Sem.run_bind]
        congr 1
        funext a w'
        cases a.fst <;> rfl
    case h_18 => cases h; obtain ⟨x, rfl, _⟩ := hv; subst hu; simp [Op.equalIn, run_underlying ht]
    case h_19 => cases h; obtain ⟨x, rfl, _⟩ := hu; subst hv; simp [Op.equalIn, run_underlying ht]
    case h_20 => cases h
end Go.AL
namespace Go.AL
open Go.RowKit
def X3 (H : Hp) (h : Nat) : Option Blk := H[h]?
theorem Rel.row {w0 : World} {B : Nat} {β : Env} {H : Hp} {w : World} (R : Rel w0 B β H w) {h : Nat} {b : Blk} (hb : H[h]? = some b) (hd : b.kind ≠ .dead) (o : Nat) :
    ∀ n, o + n ≤ b.cells.length → ∃ l : List Value, VRs β ((b.cells.drop o).take n) l ∧ l.length = n ∧ (∀ (j : Nat) v, l[j]? = some v → w.cell? ((β h).addr.add (o + j)) = some v) ∧ ∀ v ∈ l, v.oneCell' = true := by
  intro n
  induction n with
  | zero => intro _; exact ⟨[], by simp [VRs], rfl, by simp, by simp⟩
  | succ n ih =>
    intro hn
    obtain ⟨l, h1, h2, h3, h4⟩ := ih (by omega)
    obtain ⟨v, hv, hvr, h1c⟩ := R.cells h b hb hd (o + n) (b.cells[o + n]'(by omega)) (List.getElem?_eq_getElem (by omega))
    refine ⟨l ++ [v], ?_, by simp [h2], ?_, ?_⟩
    · have e : (b.cells.drop o).take (n + 1) = (b.cells.drop o).take n ++ [b.cells[o + n]'(by omega)] := by
        rw [List.take_add_one]
        congr 1
        rw [List.getElem?_drop, List.getElem?_eq_getElem (by omega)]
        rfl
      rw [e]
      exact Wv h1 (by simp only [VRs]; exact ⟨v, [], rfl, hvr, rfl⟩)
    · intro j u hu
      rcases Nat.lt_trichotomy j n with hj | hj | hj
      · rw [List.getElem?_append_left (by omega)] at hu
        exact h3 j u hu
      · subst hj
        rw [List.getElem?_append_right (by omega)] at hu
        simp [h2] at hu
        subst hu
        exact hv
      · rw [List.getElem?_eq_none (by simp; omega)] at hu; cases hu
    · intro u hu
      rcases List.mem_append.1 hu with hu | hu
      · exact h4 u hu
      · simp at hu; subst hu; exact h1c
theorem Rel.fzrow {w0 : World} {B : Nat} {β : Env} {H : Hp} {w : World} (R : Rel w0 B β H w) {x : Addr} {cs : List AV} (hf : ∀ (i : Nat) ci, cs[i]? = some ci → β.fz (x.add i) ci) :
    ∀ n, n ≤ cs.length → ∃ l : List Value, VRs β (cs.take n) l ∧ l.length = n ∧ (∀ (j : Nat) v, l[j]? = some v → w.cell? (x.add j) = some v) ∧ (∀ v ∈ l, v.oneCell' = true) ∧ AV.lts 0 (cs.take n) := by
  intro n
  induction n with
  | zero => intro _; exact ⟨[], by simp [VRs], rfl, by simp, by simp, by simp [AV.lts]⟩
  | succ n ih =>
    intro hn
    obtain ⟨l, h1, h2, h3, h4, h5⟩ := ih (by omega)
    obtain ⟨hlt, ⟨v, hv, hvr, h1c⟩, _⟩ := R.fzn _ _ (hf n (cs[n]'(by omega)) (List.getElem?_eq_getElem (by omega)))
    have e : cs.take (n + 1) = cs.take n ++ [cs[n]'(by omega)] := by
      rw [List.take_add_one, List.getElem?_eq_getElem (by omega)]
      rfl
    refine ⟨l ++ [v], ?_, by simp [h2], ?_, ?_, ?_⟩
    · rw [e]
      exact Wv h1 (by simp only [VRs]; exact ⟨v, [], rfl, hvr, rfl⟩)
    · intro j u hu
      rcases Nat.lt_trichotomy j n with hj | hj | hj
      · rw [List.getElem?_append_left (by omega)] at hu
        exact h3 j u hu
      · subst hj
        rw [List.getElem?_append_right (by omega)] at hu
        simp [h2] at hu
        subst hu
        exact hv
      · rw [List.getElem?_eq_none (by simp; omega)] at hu; cases hu
    · intro u hu
      rcases List.mem_append.1 hu with hu | hu
      · exact h4 u hu
      · simp at hu; subst hu; exact h1c
    · rw [e, AV.lts_iff]
      intro c hc
      rcases List.mem_append.1 hc with hc | hc
      · exact (AV.lts_iff.1 h5) c hc
      · rw [List.mem_singleton.1 hc]; exact hlt
def V7 (P : Program) (H : Hp) (t : TypeId) : AV → Option AV
  | .ptr h o =>
    match X3 H h with
    | some b =>
      if b.kind = .dead then none else
      match Xp P t, Xf P t with
      | some true, some n => if o + n ≤ b.cells.length then some (.agg ((b.cells.drop o).take n)) else none
      | some false, _ => b.cells[o]?
      | _, _ => none
    | none => none
  | .fp cs =>
    match Xp P t, Xf P t with
    | some true, some n => if n ≤ cs.length then some (.agg (cs.take n)) else none
    | some false, _ => cs[0]?
    | _, _ => none
  | _ => none
theorem run_loadVar_fz {P : Program} {w0 : World} {B : Nat} {β : Env} {H : Hp} {w : World} (R : Rel w0 B β H w) {t : TypeId} {x : Addr} {cs : List AV} {v : AV} (e : V7 P H t (.fp cs) = some v) (hf : ∀ (i : Nat) ci, cs[i]? = some ci → β.fz (x.add i) ci) :
    ∃ y, (loadVar t x).run P w = .ok y w ∧ VR β v y ∧ v.lt H.length := by
  simp only [V7] at e
  split at e
  · rename_i n ha hs
    split at e
    · rename_i hle
      cases e
      obtain ⟨l, h1, h2, h3, h4, h5⟩ := R.fzrow hf n hle
      refine ⟨.agg l.toArray, ?_, ?_, ?_⟩
      · have hl := run_loadCells_list (P := P) w x l h3
        rw [h2] at hl
        simp [loadVar, Rj ha, Za hs, hl]
      · simp only [VR]; exact ⟨_, rfl, by simpa using h1⟩
      · simp only [AV.lt]
        exact AV.lts_mono (Nat.zero_le _) _ h5
    · cases e
  · rename_i ha
    obtain ⟨hlt, ⟨y, hy, hv, _⟩, _⟩ := R.fzn _ _ (hf 0 v e)
    have h0 : x.add 0 = x := by simp [Go.Addr.add]
    rw [h0] at hy
    refine ⟨y, ?_, hv, AV.lt_mono (Nat.zero_le _) v hlt⟩
    simp [loadVar, Rj ha, hy]
  · cases e
theorem run_loadVar_al {P : Program} {w0 : World} {B : Nat} {β : Env} {H : Hp} {w : World} (R : Rel w0 B β H w) {t : TypeId} {h o : Nat} {v : AV} (e : V7 P H t (.ptr h o) = some v) :
    ∃ x, (loadVar t ((β h).addr.add o)).run P w = .ok x w ∧ VR β v x ∧ v.lt H.length := by
  simp only [V7, X3] at e
  split at e
  · rename_i b hb
    split at e
    · cases e
    · rename_i hd
      split at e
      · rename_i n ha hs
        split at e
        · rename_i hle
          cases e
          obtain ⟨l, h1, h2, h3, h4⟩ := R.row hb hd o n hle
          refine ⟨.agg l.toArray, ?_, ?_, ?_⟩
          · have hl := run_loadCells_list (P := P) w ((β h).addr.add o) l (fun j v hv => by rw [Addr.add_add]; exact h3 j v hv)
            rw [h2] at hl
            simp [loadVar, Rj ha, Za hs, hl]
          · simp only [VR]; exact ⟨_, rfl, by simpa using h1⟩
          · simp only [AV.lt]
            rw [AV.lts_iff]
            exact fun c hc => R.lts h b hb hd c (List.mem_of_mem_drop (List.mem_of_mem_take hc))
        · cases e
      · rename_i ha
        obtain ⟨x, hx, hv, _⟩ := R.cells h b hb hd o v e
        refine ⟨x, ?_, hv, R.lts h b hb hd v (List.mem_of_getElem? e)⟩
        simp [loadVar, Rj ha, hx]
      · cases e
  · cases e
def Wa (y : Nat) : AV → Option Nat
  | .int _ i => if 0 ≤ i ∧ i ≤ (y : Int) then some i.toNat else none
  | _ => none
def Y3 (len : Nat) (cap : Nat) (lo hi mx : Option AV) : Option (Nat × Nat × Nat) :=
  match (match mx with | some v => Wa cap v | none => some cap) with
  | none => none
  | some m =>
    match (match hi with | some v => Wa m v | none => if mx.isSome then none else some len) with
    | none => none
    | some h =>
      match (match lo with | some v => Wa h v | none => some 0) with
      | none => none
      | some l => some (l, h, m)
theorem W5 {P : Program} {β : Env} {y : Nat} {x : AV} {v : Value} {n : Nat} (h : Wa y x = some n) (hv : VR β x v) (c : BoundsCode) (w : World) : (Instr.sliceBound v y c).run P w = .ok n w := by
  unfold Wa at h
  split at h
  · rename_i k i
    split at h
    · rename_i hb
      cases h
      simp only [VR] at hv
      subst hv
      simp [Instr.sliceBound, asIntOf, hb]
    · cases h
  · cases h
theorem abound_le {y : Nat} {x : AV} {n : Nat} (h : Wa y x = some n) : n ≤ y := by
  unfold Wa at h
  split at h
  · split at h
    · cases h; omega
    · cases h
  · cases h
def VRo (β : Env) : Option AV → Option Value → Prop
  | none, none => True
  | some x, some v => VR β x v
  | _, _ => False
theorem Wt {P : Program} {β : Env} {len cap l h m : Nat} {lo hi mx : Option AV} {vlo vhi vmx : Option Value} (e : Y3 len cap lo hi mx = some (l, h, m))
    (h1 : VRo β lo vlo) (h2 : VRo β hi vhi) (h3 : VRo β mx vmx) (isS : Bool) (w : World) : (Instr.sliceBounds isS len cap vlo vhi vmx).run P w = .ok (l, h, m) w := by
  unfold Y3 at e
  split at e
  · cases e
  · rename_i m' hm
    split at e
    · cases e
    · rename_i h' hh
      split at e
      · cases e
      · rename_i l' hl
        cases e
        cases mx with
        | none =>
          cases vmx with
          | some _ => exact h3.elim
          | none =>
            simp at hm
            subst hm
            cases hi with
            | none =>
              cases vhi with
              | some _ => exact h2.elim
              | none =>
                simp at hh
                subst hh
                cases lo with
                | none =>
                  cases vlo with
                  | some _ => exact h1.elim
                  | none => simp at hl; subst hl; simp [Instr.sliceBounds]
                | some x =>
                  cases vlo with
                  | none => exact h1.elim
                  | some v => simp [Instr.sliceBounds, W5 hl h1]
            | some x =>
              cases vhi with
              | none => exact h2.elim
              | some v =>
                cases lo with
                | none =>
                  cases vlo with
                  | some _ => exact h1.elim
                  | none => simp at hl; subst hl; simp [Instr.sliceBounds, W5 hh h2]
                | some x =>
                  cases vlo with
                  | none => exact h1.elim
                  | some v => simp [Instr.sliceBounds, W5 hl h1, W5 hh h2]
        | some xm =>
          cases vmx with
          | none => exact h3.elim
          | some vm =>
            cases hi with
            | none => simp at hh
            | some x =>
              cases vhi with
              | none => exact h2.elim
              | some v =>
                cases lo with
                | none =>
                  cases vlo with
                  | some _ => exact h1.elim
                  | none => simp at hl; subst hl; simp [Instr.sliceBounds, W5 hm h3, W5 hh h2]
                | some x =>
                  cases vlo with
                  | none => exact h1.elim
                  | some v => simp [Instr.sliceBounds, W5 hm h3, W5 hl h1, W5 hh h2]
theorem J0e {len cap l h m : Nat} {lo hi mx : Option AV} (e : Y3 len cap lo hi mx = some (l, h, m)) (hlc : len ≤ cap) : l ≤ h ∧ h ≤ m ∧ m ≤ cap := by
  unfold Y3 at e
  split at e
  · cases e
  · rename_i m' hm
    split at e
    · cases e
    · rename_i h' hh
      split at e
      · cases e
      · rename_i l' hl
        cases e
        have a1 : m ≤ cap := by
          cases mx with
          | none => simp at hm; omega
          | some x => exact abound_le hm
        have a2 : h ≤ m := by
          cases hi with
          | none =>
            cases mx with
            | none => simp at hh hm; omega
            | some x => simp at hh
          | some x => exact abound_le hh
        have a3 : l ≤ h := by
          cases lo with
          | none => simp at hl; omega
          | some x => exact abound_le hl
        exact ⟨a3, a2, a1⟩
theorem abound_grow {y z : Nat} {x : AV} {n : Nat} (h : Wa y x = some n) (hyz : y ≤ z) : Wa z x = some n := by
  unfold Wa at h ⊢
  split at h
  · split at h
    · rename_i hb; rw [if_pos (by omega)]; exact h
    · cases h
  · cases h
theorem abounds_grow {len cap cap' l h m : Nat} {lo hi : Option AV} (e : Y3 len cap lo hi none = some (l, h, m)) (hc : cap ≤ cap') : Y3 len cap' lo hi none = some (l, h, cap') := by
  unfold Y3 at e ⊢
  simp only [Option.isSome_none, Bool.false_eq_true, if_false] at e ⊢
  cases hi with
  | none =>
    split at e
    · cases e
    · rename_i h' hh
      split at e
      · cases e
      · rename_i l' hl
        cases e
        simp at hh
        subst hh
        simp only [hl]
  | some x =>
    split at e
    · cases e
    · rename_i h' hh
      have hg := abound_grow hh hc
      simp only [hg]
      split at e
      · cases e
      · rename_i l' hl
        cases e
        simp only [hl]
theorem J1p {len cap cap' l h m : Nat} {lo hi : Option AV} {x : AV} (e : Y3 len cap lo hi (some x) = some (l, h, m)) (hc : cap ≤ cap') : Y3 len cap' lo hi (some x) = some (l, h, m) := by
  unfold Y3 at e ⊢
  simp only at e ⊢
  split at e
  · cases e
  · rename_i m' hm
    have hg := abound_grow hm hc
    simp only [hg]
    exact e
def Yg (P : Program) (t : TypeId) (x : AV) (lo hi mx : Option AV) : Option AV :=
  match P.underlying t, x with
  | some .string, .str s =>
    if mx.isSome then none else
    match Y3 s.size s.size lo hi none with
    | some (l, h, _) => some (.str (s.extract l h))
    | none => none
  | some (.slice e), .nilS =>
    match Y3 0 0 lo hi mx, Xf P e with
    | some _, some _ => some .nilS
    | _, _ => none
  | some (.slice e), .sl h o n c =>
    match Y3 n c lo hi mx, Xf P e with
    | some (l, u, m), some z => some (.sl h (if m = l then o else o + l * z) (u - l) (m - l))
    | _, _ => none
  | some (.slice e), .sg h o n z =>
    match Y3 n n lo hi mx, Xf P e with
    | some (l, u, m), some z' =>
      if z' = z then
        if mx.isSome then (if m = l ∧ l = n then none else some (.sl h (if m = l then o else o + l * z) (u - l) (m - l)))
        else some (.sg h (o + l * z) (u - l) z)
      else none
    | _, _ => none
  | some (.slice e), .fz n cs =>
    match Y3 n n lo hi mx, Xf P e with
    | some (l, u, m), some z => some (.fz (u - l) ((cs.drop (l * z)).take ((u - l) * z)))
    | _, _ => none
  | some (.array len e), .ptr h o =>
    match Y3 len len lo hi mx, Xf P e with
    | some (l, u, m), some z => some (.sl h (if m = l then o else o + l * z) (u - l) (m - l))
    | _, _ => none
  | _, _ => none
theorem Vi {P : Program} {t : TypeId} {d : TypeDesc} (hd : P.underlying t = some d) (hn : ∀ n e, d ≠ .array n e) (x : Value) (lo hi mx : Option Value) (w : World) :
    (Instr.sliceAt t x lo hi mx).run P w = (Instr.slice t x lo hi mx).run P w := by
  unfold Instr.sliceAt
  simp only [Sem.run_bind, run_underlying hd, Result.andThen_ok]
  all_goals (cases d <;> first | rfl | exact absurd rfl (hn _ _))
theorem run_aslice {P : Program} {β : Env} {N : Nat} {t : TypeId} {x v : AV} {lo hi mx : Option AV} {vx : Value} {vlo vhi vmx : Option Value} (e : Yg P t x lo hi mx = some v)
    (hx : VR β x vx) (hl : x.lt N) (h1 : VRo β lo vlo) (h2 : VRo β hi vhi) (h3 : VRo β mx vmx) (w : World) :
    ∃ y, (Instr.sliceAt t vx vlo vhi vmx).run P w = .ok y w ∧ VR β v y ∧ v.lt N := by
  unfold Yg at e
  split at e
  · -- strings
    rename_i s ht
    simp only [VR] at hx
    subst hx
    split at e
    · cases e
    · rename_i hm
      have hmn : mx = none := by simpa using hm
      subst hmn
      cases vmx with
      | some _ => exact h3.elim
      | none =>
        split at e
        · rename_i l h m hb
          cases e
          refine ⟨.string (s.extract l h), ?_, rfl, trivial⟩
          rw [Vi ht (by simp)]
          simp [Instr.slice, run_underlying ht, Wt (vmx := none) hb h1 h2 trivial]
        · cases e
  · -- nil
    rename_i el ht
    simp only [VR] at hx
    subst hx
    split at e
    · rename_i b z hb hs
      obtain ⟨l, h, m⟩ := b
      cases e
      have hle := J0e hb (Nat.le_refl _)
      have hlz : l = 0 := by omega
      have hhz : h = 0 := by omega
      have hmz : m = 0 := by omega
      subst hlz; subst hhz; subst hmz
      refine ⟨.slice none 0 0, ?_, rfl, trivial⟩
      rw [Vi ht (by simp)]
      simp [Instr.slice, run_underlying ht, Wt hb h1 h2 h3, Za hs]
    · cases e
  · rename_i el h o n c ht
    simp only [VR] at hx
    subst hx
    split at e
    · rename_i l u m z hb hs
      cases e
      refine ⟨_, ?_, rfl, hl⟩
      rw [Vi ht (by simp)]
      simp only [Instr.slice, Sem.run_bind, run_underlying ht, Result.andThen_ok, Wt hb h1 h2 h3, Za hs, Sem.run_pure, Option.map_some]
      congr 2
      split <;> simp [Addr.add_add]
    · cases e
  · rename_i el h o n z ht
    simp only [VR] at hx
    obtain ⟨c, o', rfl, hnc, hco⟩ := hx
    split at e
    · rename_i l u m z' hb hs
      split at e
      · rename_i hz
        subst hz
        have hle := J0e hb (Nat.le_refl _)
        split at e
        · rename_i hms
          cases mx with
          | none => simp at hms
          | some xm =>
            split at e
            · cases e
            · rename_i hne
              cases e
              have hb' := J1p hb hnc
              refine ⟨.slice (some (if m = l then (β h).addr.add o' else ((β h).addr.add o').add (l * z'))) (u - l) (m - l), ?_, ?_, hl⟩
              · rw [Vi ht (by simp)]
                simp only [Instr.slice, Sem.run_bind, run_underlying ht, Result.andThen_ok, Wt hb' h1 h2 h3, Za hs, Sem.run_pure, Option.map_some]
                congr 2
                split <;> rfl
              · simp only [VR]
                have hn : 0 < n := by omega
                have ho : o' = o := by rcases hco with h0 | h0 <;> omega
                subst ho
                congr 2
                split <;> simp [Addr.add_add]
        · rename_i hms
          cases e
          cases mx with
          | some xm => simp at hms
          | none =>
            have hb' := abounds_grow hb hnc
            cases vmx with
            | some _ => exact h3.elim
            | none =>
              refine ⟨.slice (some (if c = l then (β h).addr.add o' else ((β h).addr.add o').add (l * z'))) (u - l) (c - l), ?_, ?_, hl⟩
              · rw [Vi ht (by simp)]
                simp only [Instr.slice, Sem.run_bind, run_underlying ht, Result.andThen_ok, Wt (vmx := none) hb' h1 h2 trivial, Za hs, Sem.run_pure, Option.map_some]
                congr 2
                split <;> rfl
              · simp only [VR]
                by_cases hcl : c = l
                · refine ⟨c - l, o', by simp [hcl], by omega, .inl ⟨by omega, ?_⟩⟩
                  rcases hco with ⟨h0, h1⟩ | ⟨rfl, h0⟩
                  · have hl0 : l = 0 := by omega
                    subst hl0; simpa using h1
                  · subst hcl; exact h0
                · rcases hco with ⟨h0, _⟩ | ⟨rfl, h0⟩
                  · omega
                  · refine ⟨c - l, o' + l * z', ?_, by omega, .inr ⟨rfl, ?_⟩⟩
                    · simp [hcl, Addr.add_add]
                    · have : (c - l) * z' = c * z' - l * z' := Nat.sub_mul _ _ _
                      have h5 : l * z' ≤ c * z' := Nat.mul_le_mul_right _ (by omega)
                      omega
      · cases e
    · cases e
  · -- no one writes it any more
    rename_i el n cs ht
    simp only [VR] at hx
    obtain ⟨a, c, rfl, hnc, hac, hfz⟩ := hx
    split at e
    · rename_i l u m z hb hs
      cases e
      have hle := J0e hb (Nat.le_refl _)
      have hb2 : ∃ m', Y3 n c lo hi mx = some (l, u, m') ∧ u ≤ m' ∧ m' ≤ c := by
        cases mx with
        | none => exact ⟨c, abounds_grow hb hnc, by omega, Nat.le_refl _⟩
        | some xm => exact ⟨m, J1p hb hnc, by omega, by omega⟩
      obtain ⟨m', hb', hum, hmc⟩ := hb2
      refine ⟨.slice (a.map fun x => if m' = l then x else x.add (l * z)) (u - l) (m' - l), ?_, ?_, trivial⟩
      · rw [Vi ht (by simp)]
        simp only [Instr.slice, Sem.run_bind, run_underlying ht, Result.andThen_ok, Wt hb' h1 h2 h3, Za hs, Sem.run_pure]
        congr 2
        split <;> cases a <;> rfl
      · simp only [VR]
        refine ⟨_, _, rfl, by omega, fun h0 => ?_, ?_⟩
        · have : a = none := by cases a <;> simp_all
          have := hac this
          omega
        · rcases hfz with h0 | ⟨x, rfl, hf⟩
          · exact .inl (by omega)
          · by_cases hul : u - l = 0
            · exact .inl hul
            · refine .inr ⟨x.add (l * z), ?_, fun i ci hi => ?_⟩
              · rw [Option.map_some, if_neg (by omega)]
              · rw [List.getElem?_take] at hi
                split at hi
                · rw [List.getElem?_drop] at hi
                  rw [Addr.add_add]
                  exact hf _ _ hi
                · cases hi
    · cases e
  · rename_i len el h o ht
    simp only [VR] at hx
    subst hx
    split at e
    · rename_i l u m z hb hs
      cases e
      refine ⟨_, ?_, rfl, hl⟩
      unfold Instr.sliceAt
      simp only [Sem.run_bind, run_underlying ht, Result.andThen_ok, Instr.sureAddr, Sem.run_pure, Wt hb h1 h2 h3, Za hs]
      congr 2
      split <;> simp [Addr.add_add]
    · cases e
  · cases e
end Go.AL

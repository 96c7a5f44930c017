/- From a claim's arguments to the abstract memory: what came in stands in blocks that nobody may write. -/
import Derived.Test.YtdlplfhkmhkngaaALo
import Derived.ProofKit
set_option linter.unusedVariables false
set_option linter.unusedSimpArgs false
namespace Go.AL
open Go.RowKit

/-- The arguments read so far: the world holds them; all their blocks are read only. -/
structure Args (β : Nat → Bx) (H : Hp) (w : World) : Prop where
  rel : Rel w w.heap.size β H w
  ro : ∀ (h : Nat) (b : Blk), H[h]? = some b → b.kind ≠ .own

theorem Args.start (w : World) (β : Nat → Bx) : Args β [] w :=
  ⟨⟨Below.refl _ _, Nat.le_refl _, fun h b hb => by simp at hb, fun h b hb => by simp at hb, fun h b hb => by simp at hb, fun h b hb => by simp at hb, fun h h' b b' _ hb => by simp at hb⟩, fun h b hb => by simp at hb⟩

/-- One block more. -/
theorem Args.add {β : Nat → Bx} {H : Hp} {w : World} (A : Args β H w) (x : Addr) (cs : List AV) (e : TypeId)
    (hc : ∀ (i : Nat) (c : AV), cs[i]? = some c → ∃ v, w.cell? (x.add i) = some v ∧ VR β c v ∧ v.oneCell' = true) (hl : AV.lts H.length cs) :
    Args (upd β H.length ⟨x, 0⟩) (H ++ [⟨cs, .ro, e⟩]) w := by
  have R := A.rel
  have ag := agree_upd β H.length ⟨x, 0⟩
  have atn : upd β H.length ⟨x, 0⟩ H.length = ⟨x, 0⟩ := by simp [upd]
  have hold : ∀ {h : Nat} {b : Blk}, (H ++ [(⟨cs, .ro, e⟩ : Blk)])[h]? = some b → (h < H.length ∧ H[h]? = some b) ∨ (h = H.length ∧ b = ⟨cs, .ro, e⟩) := by
    intro h b hb
    rcases Nat.lt_trichotomy h H.length with h1 | h1 | h1
    · rw [List.getElem?_append_left h1] at hb; exact .inl ⟨h1, hb⟩
    · subst h1; simp at hb; exact .inr ⟨rfl, hb.symm⟩
    · rw [List.getElem?_eq_none (by simp; omega)] at hb; cases hb
  have hro : ∀ (h : Nat) (b : Blk), (H ++ [(⟨cs, .ro, e⟩ : Blk)])[h]? = some b → b.kind ≠ .own := by
    intro h b hb
    rcases hold hb with ⟨h1, h2⟩ | ⟨rfl, rfl⟩
    · exact A.ro h b h2
    · intro h; cases h
  refine ⟨⟨R.below, R.base, ?_, ?_, ?_, (fun h b hb a t v e hk => (hold hb).elim (fun h' => R.glob h b h'.2 a t v e hk) (fun h' => by rw [h'.2] at hk; cases hk)), ?_⟩, hro⟩
  · intro h b hb hd i c hci
    rcases hold hb with ⟨h1, h2⟩ | ⟨rfl, rfl⟩
    · obtain ⟨v, h3, h4, h5⟩ := R.cells h b h2 hd i c hci
      exact ⟨v, by rw [ag h h1]; exact h3, VR_congr ag c v (R.lts h b h2 hd c (List.mem_of_getElem? hci)) h4, h5⟩
    · obtain ⟨v, h3, h4, h5⟩ := hc i c hci
      exact ⟨v, by rw [atn]; exact h3, VR_congr ag c v ((AV.lts_iff.1 hl) c (List.mem_of_getElem? hci)) h4, h5⟩
  · intro h b hb hd c hci
    rw [len_push]
    rcases hold hb with ⟨h1, h2⟩ | ⟨rfl, rfl⟩
    · exact AV.lt_mono (by omega) c (R.lts h b h2 hd c hci)
    · exact AV.lt_mono (by omega) c ((AV.lts_iff.1 hl) c hci)
  · intro h b hb ho
    exact absurd ho (hro h b hb)
  · intro h h' b b' _ hb _ ho
    exact absurd ho (hro h b hb)

/-- The note of what a variable of the library holds. -/
theorem Args.glob {β : Nat → Bx} {H : Hp} {w : World} (A : Args β H w) {a t v e : Nat} (hw : w.cell? ⟨a, 0, none⟩ = some (.iface t (.agg #[.pointer (some ⟨v, e, none⟩)]))) :
    Args (upd β H.length ⟨⟨a, 0, none⟩, 0⟩) (H ++ [⟨[], .glob a t v e, 0⟩]) w := by
  have A' := A.add ⟨a, 0, none⟩ [] 0 (fun i c hc => by simp at hc) trivial
  have R := A'.rel
  have hold : ∀ {h : Nat} {b : Blk}, (H ++ [(⟨[], .glob a t v e, 0⟩ : Blk)])[h]? = some b → (h < H.length ∧ H[h]? = some b) ∨ (h = H.length ∧ b = ⟨[], .glob a t v e, 0⟩) := by
    intro h b hb
    rcases Nat.lt_trichotomy h H.length with h1 | h1 | h1
    · rw [List.getElem?_append_left h1] at hb; exact .inl ⟨h1, hb⟩
    · subst h1; simp at hb; exact .inr ⟨rfl, hb.symm⟩
    · rw [List.getElem?_eq_none (by simp; omega)] at hb; cases hb
  have hro : ∀ (h : Nat) (b : Blk), (H ++ [(⟨[], .glob a t v e, 0⟩ : Blk)])[h]? = some b → b.kind ≠ .own := by
    intro h b hb
    rcases hold hb with ⟨h1, h2⟩ | ⟨rfl, rfl⟩
    · exact A.ro h b h2
    · intro h; cases h
  have up : ∀ {h : Nat} {b : Blk}, h < H.length → H[h]? = some b → (H ++ [(⟨[], .ro, 0⟩ : Blk)])[h]? = some b := fun hl hb => by rw [List.getElem?_append_left hl]; exact hb
  refine ⟨⟨R.below, R.base, ?_, ?_, ?_, ?_, ?_⟩, hro⟩
  · intro h b hb hd i c hci
    rcases hold hb with ⟨h1, h2⟩ | ⟨rfl, rfl⟩
    · exact R.cells h b (up h1 h2) hd i c hci
    · simp at hci
  · intro h b hb hd c hci
    rcases hold hb with ⟨h1, h2⟩ | ⟨rfl, rfl⟩
    · have := R.lts h b (up h1 h2) hd c hci
      simpa using this
    · cases hci
  · intro h b hb ho
    exact absurd ho (hro h b hb)
  · intro h b hb a' t' v' e' hk
    rcases hold hb with ⟨h1, h2⟩ | ⟨rfl, rfl⟩
    · exact R.glob h b (up h1 h2) a' t' v' e' hk
    · cases hk
      exact ⟨hw, by
        rcases Nat.lt_or_ge a w.heap.size with h | h
        · exact h
        · simp [World.cell?, Array.getElem?_eq_none h] at hw⟩
  · intro h h' b b' _ hb _ ho
    exact absurd ho (hro h b hb)

/-- A slice whose cells are known. -/
theorem Args.slice {β : Nat → Bx} {H : Hp} {w : World} (A : Args β H w) {a : Option Addr} {len cap z : Nat} {cs : List AV} (e : TypeId)
    (h : (a = none ∧ len = 0 ∧ cap = 0 ∧ cs = []) ∨ ∃ x, a = some x ∧ len ≤ cap ∧ cs.length = len * z ∧ (∀ (i : Nat) (c : AV), cs[i]? = some c → ∃ v, w.cell? (x.add i) = some v ∧ VR β c v ∧ v.oneCell' = true)) (hl : AV.lts H.length cs) :
    ∃ β' H' u, Args β' H' w ∧ Ext H H' ∧ Agree H.length β β' ∧ VR β' u (.slice a len cap) ∧ u.lt H'.length ∧ Rd H' z u cs len := by
  rcases h with ⟨rfl, rfl, rfl, rfl⟩ | ⟨x, rfl, hle, hlen, hc⟩
  · exact ⟨β, H, .nilS, A, Ext.refl _, Agree.refl _ _, rfl, trivial, Rd.nil _ _⟩
  · refine ⟨_, _, .sl H.length 0 len cap, A.add x cs e hc hl, Ext.push _ _, agree_upd _ _ _, ?_, ?_, ?_⟩
    · simp [VR, upd, Go.Addr.add]
    · simp [AV.lt]
    · refine ⟨?_, hle⟩
      simp only [arow, hget_push, if_true]
      rw [if_neg (by decide), if_pos (by omega), List.drop_zero, List.take_of_length_le (by omega)]

/-- A slice of integers. -/
theorem Args.ints {β : Nat → Bx} {H : Hp} {w : World} (A : Args β H w) {a : Option Addr} {len cap : Nat} {k : IntKind} {zs : List Int} (e : TypeId)
    (h : (a = none ∧ len = 0 ∧ cap = 0 ∧ zs = []) ∨ ∃ x, a = some x ∧ len ≤ cap ∧ cap ≤ maxLen ∧ zs.length = cap ∧ (∀ i, i < zs.length → w.cell? (x.add i) = some (.int k (zs.getD i 0))) ∧ ∀ n ∈ zs, (Lit.int k n).wf = true) :
    ∃ β' H' u xs, Args β' H' w ∧ Ext H H' ∧ Agree H.length β β' ∧ VR β' u (.slice a len cap) ∧ u.lt H'.length ∧ Ints H' k u xs ∧ xs.length ≤ maxLen ∧ (∀ n ∈ xs, (Lit.int k n).wf = true) := by
  have hlts : AV.lts H.length ((zs.take len).map (AV.int k)) := by
    rw [AV.lts_iff]
    intro c hc
    obtain ⟨n, _, rfl⟩ := List.mem_map.1 hc
    trivial
  have hn : len ≤ zs.length ∧ zs.length ≤ maxLen ∧ ∀ n ∈ zs, (Lit.int k n).wf = true := by
    rcases h with ⟨rfl, rfl, rfl, rfl⟩ | ⟨x, rfl, h1, h2, h3, h4, h5⟩
    · exact ⟨Nat.le_refl _, Nat.zero_le _, fun n hn => by cases hn⟩
    · exact ⟨by omega, by omega, h5⟩
  have hl : (zs.take len).length = len := by simp; omega
  have hs : (a = none ∧ len = 0 ∧ cap = 0 ∧ (zs.take len).map (AV.int k) = []) ∨ ∃ x, a = some x ∧ len ≤ cap ∧ ((zs.take len).map (AV.int k)).length = len * 1 ∧ (∀ (i : Nat) (c : AV), ((zs.take len).map (AV.int k))[i]? = some c → ∃ v, w.cell? (x.add i) = some v ∧ VR β c v ∧ v.oneCell' = true) := by
    rcases h with ⟨rfl, rfl, rfl, rfl⟩ | ⟨x, rfl, g1, g2, g3, g4, g5⟩
    · exact .inl ⟨rfl, rfl, rfl, rfl⟩
    · refine .inr ⟨x, rfl, g1, by rw [List.length_map, hl, Nat.mul_one], fun i c hc => ?_⟩
      have hi : i < len := by
        have := (List.getElem?_eq_some_iff.1 hc).1
        rw [List.length_map, hl] at this; exact this
      have hz : i < zs.length := by omega
      refine ⟨_, g4 i hz, ?_, rfl⟩
      rw [List.getElem?_map, List.getElem?_take, if_pos hi, List.getElem?_eq_getElem hz] at hc
      cases hc
      simp [VR, List.getD, hz]
  obtain ⟨β', H', u, h1, h2, h3, h4, h5, h6⟩ := A.slice (z := 1) e hs hlts
  refine ⟨β', H', u, zs.take len, h1, h2, h3, h4, h5, ?_, by omega, fun n hm => hn.2.2 n (List.mem_of_mem_take hm)⟩
  unfold Ints
  rw [hl]; exact h6

/-- What a call leaves of what came in. -/
theorem ACalls.calls {P : Program} {f : FuncId} {args : List AV} {H : Hp} {b : Bool} (h : ACalls P f args H fun r _ => r = .bool b) {β : Nat → Bx} {w : World} (A : Args β H w) {vs : Array Value} (hv : VRs β args vs.toList) (hl : AV.lts H.length args) :
    Calls P f vs w fun e w' => e = .returned (.bool b) ∧ Below w.heap.size w w' :=
  (h.2 w w.heap.size β w vs A.rel hv hl).mono fun e w' ⟨β', r, v, H', h1, h2, h3, h4, h5, h6, h7⟩ => by
    subst h2
    simp only [VR] at h5
    subst h5
    exact ⟨h1, h7.below⟩
end Go.AL

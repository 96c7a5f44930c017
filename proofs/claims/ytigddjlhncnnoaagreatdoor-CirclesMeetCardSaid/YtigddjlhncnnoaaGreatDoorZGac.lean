/- Part 3 of the proof of laws of this seat: lemmas on the model's code, on this program's functions, on numbers. No condition. -/
import Derived.Test.YtigddjlhncnnoaaGreatDoorZGab
import Derived.IntWalk
import Derived.Lib.ConvBytes
set_option linter.unusedVariables false
set_option linter.unusedSimpArgs false
open Nat renaming reduceEqDiff → J0, reduceLeDiff → J1, reduceMul → J2, reduceAdd → J3, reduceSub → J4, reduceLT → J5
open Int renaming reduceToNat → J6, reducePow → J7, reduceNeg → J8, reduceLT → J9, reduceLE → Ja, reduceEq → Jb
open And renaming intro → Jc
open Go.IntKind renaming bits → Jd
namespace Go.AL
open Go.RowKit
theorem Ym {H : Hp} {h k : Nat} {b b' : Blk} (hk : (H.set h b')[k]? = some b) : (k = h ∧ b = b' ∧ h < H.length) ∨ (k ≠ h ∧ H[k]? = some b) := by
  rw [List.getElem?_set] at hk
  split at hk
  · rename_i e
    split at hk
    · cases hk; exact .inl ⟨e.symm, rfl, by assumption⟩
    · cases hk
  · rename_i e
    exact .inr ⟨fun h' => e h'.symm, hk⟩
theorem Rel.setRow {w0 : World} {B : Nat} {β : Env} {H : Hp} {w : World} (R : Rel w0 B β H w) {h : Nat} {b : Blk} (hb : H[h]? = some b) (ho : b.kind = .own) {g : Nat} {cur : Array Value}
    (hg : (β h).addr = ⟨g, 0, none⟩) (hw : w.heap[g]? = some (.cells cur b.ety (0, 0))) (hcur : cur.size = (β h).tot) (cs : List AV) (arr : Array Value) (hsz : arr.size = cur.size) (hle : cs.length ≤ arr.size)
    (hl : AV.lts H.length cs) (hv : ∀ (i : Nat) c, cs[i]? = some c → ∃ v, arr[i]? = some v ∧ VR β c v ∧ v.oneCell' = true) :
    Rel w0 B β (H.set h ⟨cs, .own, b.ety⟩) (w.setRow g arr) := by
  have hBg : B ≤ g := by
    obtain ⟨g', cur', e, h1, _⟩ := R.own h b hb ho
    rw [hg] at e
    have : g = g' := by injection e
    omega
  have hother : ∀ {k : Nat} {b' : Blk}, k ≠ h → H[k]? = some b' → b'.kind ≠ .dead → (b'.kind = .own ∨ b'.cells ≠ []) → (β k).addr.block ≠ g := by
    intro k b' hk hb' hd hc
    have := R.sep h k b b' (fun e => hk e.symm) hb hb' ho hd hc
    rw [hg] at this
    exact fun e => this e.symm
  refine ⟨R.below.trans ⟨rfl, rfl, rfl, by simp, fun k hk => setRow_other w g k arr (by omega)⟩, by simpa using R.base, ?_, ?_, ?_, ?_, ?_, ?_, fun k b' hk hr hd hc => (Ym hk).elim (fun h' => by rw [h'.2.1] at hr; exact absurd rfl hr) (fun h' => R.roB k b' h'.2 hr hd hc)⟩
  · intro k b' hk hd i c hc
    rcases Ym hk with ⟨rfl, rfl, _⟩ | ⟨hne, hk'⟩
    · obtain ⟨v, h1, h2, h3⟩ := hv i c hc
      refine ⟨v, ?_, h2, h3⟩
      rw [hg, Addr.add_plain, cell_setRow_same w g i cur arr b.ety (0, 0) hw]
      exact h1
    · obtain ⟨v, h1, h2, h3⟩ := R.cells k b' hk' hd i c hc
      refine ⟨v, ?_, h2, h3⟩
      have hcne : b'.cells ≠ [] := by intro e; rw [e] at hc; cases hc
      rw [cell_setRow_other w g arr _ (by rw [Addr.add_block]; exact hother hne hk' hd (.inr hcne))]
      exact h1
  · intro k b' hk hd c hc
    rw [List.length_set]
    rcases Ym hk with ⟨rfl, rfl, _⟩ | ⟨hne, hk'⟩
    · exact (AV.lts_iff.1 hl) c hc
    · exact R.lts k b' hk' hd c hc
  · intro k b' hk hko
    rcases Ym hk with ⟨rfl, rfl, _⟩ | ⟨hne, hk'⟩
    · exact ⟨g, arr, hg, hBg, setRow_heap w g cur arr b.ety (0, 0) hw, hle, by rw [hsz, hcur]⟩
    · obtain ⟨g', cur', e, h1, h2, h3, h4⟩ := R.own k b' hk' hko
      refine ⟨g', cur', e, h1, ?_, h3, h4⟩
      rw [setRow_other w g g' arr ?_]
      · exact h2
      · have := hother hne hk' (by rw [hko]; decide) (.inl hko)
        rw [e] at this
        exact this
  · intro k b' hk a t v e hkd
    rcases Ym hk with ⟨rfl, rfl, _⟩ | ⟨_, h1⟩
    · cases hkd
    · exact R.glob k b' h1 a t v e hkd
  · intro k k' b1 b2 hne hk hk' hko hd hc
    have get1 : ∃ b1', H[k]? = some b1' ∧ b1'.kind = .own := by
      rcases Ym hk with ⟨rfl, rfl, _⟩ | ⟨_, h1⟩
      · exact ⟨b, hb, ho⟩
      · exact ⟨b1, h1, hko⟩
    have get2 : ∃ b2', H[k']? = some b2' ∧ b2'.kind ≠ .dead ∧ (b2'.kind = .own ∨ b2'.cells ≠ []) := by
      rcases Ym hk' with ⟨rfl, rfl, _⟩ | ⟨_, h1⟩
      · exact ⟨b, hb, by rw [ho]; decide, .inl ho⟩
      · exact ⟨b2, h1, hd, hc⟩
    obtain ⟨c1, h1, h2⟩ := get1
    obtain ⟨c2, h3, h4, h5⟩ := get2
    exact R.sep k k' c1 c2 hne h1 h3 h2 h4 h5
  · intro a c hf
    obtain ⟨h1, ⟨v, h2, h3, h4⟩, h5, h6⟩ := R.fzn a c hf
    have hne := h5 h b hb ho
    rw [hg] at hne
    refine ⟨h1, ⟨v, by rw [cell_setRow_other w g arr _ (fun e => hne e.symm)]; exact h2, h3, h4⟩, fun k b' hk hko => ?_, h6⟩
    rcases Ym hk with ⟨rfl, rfl, _⟩ | ⟨_, hk'⟩
    · exact h5 k b hb ho
    · exact h5 k b' hk' hko
theorem Rel.kill {w0 : World} {B : Nat} {β : Env} {H : Hp} {w : World} (R : Rel w0 B β H w) (h : Nat) (cs : List AV) (e : TypeId) : Rel w0 B β (H.set h ⟨cs, .dead, e⟩) w := by
  refine ⟨R.below, R.base, ?_, ?_, ?_, (fun k b hk a t v e hkd => (Ym hk).elim (fun h' => by rw [h'.2.1] at hkd; cases hkd) (fun h' => R.glob k b h'.2 a t v e hkd)), ?_, ?_, fun k b' hk hr hd hc => (Ym hk).elim (fun h' => by rw [h'.2.1] at hd; exact absurd rfl hd) (fun h' => R.roB k b' h'.2 hr hd hc)⟩
  · intro k b hk hd
    rcases Ym hk with ⟨rfl, rfl, _⟩ | ⟨_, h1⟩
    · exact absurd rfl hd
    · exact R.cells k b h1 hd
  · intro k b hk hd
    rw [List.length_set]
    rcases Ym hk with ⟨rfl, rfl, _⟩ | ⟨_, h1⟩
    · exact absurd rfl hd
    · exact R.lts k b h1 hd
  · intro k b hk ho
    rcases Ym hk with ⟨rfl, rfl, _⟩ | ⟨_, h1⟩
    · cases ho
    · exact R.own k b h1 ho
  · intro k k' b b' hne hk hk' ho hd
    rcases Ym hk with ⟨rfl, rfl, _⟩ | ⟨_, h1⟩
    · cases ho
    · rcases Ym hk' with ⟨rfl, rfl, _⟩ | ⟨_, h2⟩
      · exact absurd rfl hd
      · exact R.sep k k' b b' hne h1 h2 ho hd
  · intro a c hf
    obtain ⟨h1, h2, h5, h6⟩ := R.fzn a c hf
    refine ⟨h1, h2, fun k b hk hko => ?_, h6⟩
    rcases Ym hk with ⟨rfl, rfl, _⟩ | ⟨_, hk'⟩
    · cases hko
    · exact h5 k b hk' hko
theorem Rel.rename {w0 : World} {B : Nat} {β : Env} {H : Hp} {w : World} (R : Rel w0 B β H w) {h : Nat} {b : Blk} (hb : H[h]? = some b) (ho : b.kind = .own) (cs : List AV) (e : TypeId) :
    Rel w0 B (upd β H.length (β h)) (H.set h ⟨cs, .dead, e⟩ ++ [b]) w := by
  have hlt : h < H.length := (List.getElem?_eq_some_iff.1 hb).1
  have hlen : (H.set h (⟨cs, .dead, e⟩ : Blk)).length = H.length := by simp
  have ag := U6 β H.length (β h)
  have atn : upd β H.length (β h) H.length = β h := by simp [upd]
  have hold : ∀ {k : Nat} {c : Blk}, (H.set h ⟨cs, .dead, e⟩ ++ [b])[k]? = some c → (k < H.length ∧ k ≠ h ∧ H[k]? = some c) ∨ (k = H.length ∧ c = b) ∨ c.kind = .dead := by
    intro k c hk
    rcases Nat.lt_trichotomy k H.length with h1 | h1 | h1
    · rw [List.getElem?_append_left (by simpa using h1)] at hk
      rcases Ym hk with ⟨rfl, rfl, _⟩ | ⟨hne, h2⟩
      · exact .inr (.inr rfl)
      · exact .inl ⟨h1, hne, h2⟩
    · subst h1
      rw [List.getElem?_append_right (by simp)] at hk
      simp at hk
      exact .inr (.inl ⟨rfl, hk.symm⟩)
    · rw [List.getElem?_eq_none (by simp; omega)] at hk; cases hk
  have hnd : b.kind ≠ .dead := by rw [ho]; decide
  refine ⟨R.below, R.base, ?_, ?_, ?_, (fun k c hk a t v e hkd => by
    rcases hold hk with ⟨_, _, h2⟩ | ⟨_, rfl⟩ | h3
    · exact R.glob k c h2 a t v e hkd
    · rw [ho] at hkd; cases hkd
    · rw [h3] at hkd; cases hkd), ?_, (fun a c hf => by
    obtain ⟨h1, ⟨v, h2, h3, h4⟩, h5, h6⟩ := R.fzn a c hf
    refine ⟨h1, ⟨v, h2, Vc ag c v (AV.lt_mono (Nat.zero_le _) c h1) h3, h4⟩, fun k b' hk hko => ?_, h6⟩
    rcases hold hk with ⟨h7, _, h8⟩ | ⟨rfl, rfl⟩ | h9
    · rw [ag k h7]; exact h5 k b' h8 hko
    · rw [atn]; exact h5 h b' hb hko
    · rw [h9] at hko; cases hko), (fun k b' hk hr hd hc => by
    rcases hold hk with ⟨h7, _, h8⟩ | ⟨rfl, rfl⟩ | h9
    · rw [ag k h7]; exact R.roB k b' h8 hr hd hc
    · exact absurd ho hr
    · exact absurd h9 hd)⟩
  · intro k c hk hd i x hx
    rcases hold hk with ⟨h1, _, h2⟩ | ⟨rfl, rfl⟩ | h3
    · obtain ⟨v, a1, a2, a3⟩ := R.cells k c h2 hd i x hx
      exact ⟨v, by rw [ag k h1]; exact a1, Vc ag x v (R.lts k c h2 hd x (List.mem_of_getElem? hx)) a2, a3⟩
    · obtain ⟨v, a1, a2, a3⟩ := R.cells h c hb hd i x hx
      exact ⟨v, by rw [atn]; exact a1, Vc ag x v (R.lts h c hb hd x (List.mem_of_getElem? hx)) a2, a3⟩
    · exact absurd h3 hd
  · intro k c hk hd x hx
    have : (H.set h (⟨cs, .dead, e⟩ : Blk) ++ [b]).length = H.length + 1 := by simp
    rw [this]
    rcases hold hk with ⟨h1, _, h2⟩ | ⟨rfl, rfl⟩ | h3
    · exact AV.lt_mono (by omega) x (R.lts k c h2 hd x hx)
    · exact AV.lt_mono (by omega) x (R.lts h c hb hd x hx)
    · exact absurd h3 hd
  · intro k c hk hko
    rcases hold hk with ⟨h1, _, h2⟩ | ⟨rfl, rfl⟩ | h3
    · rw [ag k h1]; exact R.own k c h2 hko
    · rw [atn]; exact R.own h c hb hko
    · rw [h3] at hko; cases hko
  · intro k k' c c' hne hk hk' hko hd hc
    rcases hold hk with ⟨h1, n1, h2⟩ | ⟨rfl, rfl⟩ | h3 <;> rcases hold hk' with ⟨h1', n1', h2'⟩ | ⟨rfl, rfl⟩ | h3'
    · rw [ag k h1, ag k' h1']; exact R.sep k k' c c' hne h2 h2' hko hd hc
    · rw [ag k h1, atn]; exact R.sep k h c c' n1 h2 hb hko hd hc
    · exact absurd h3' hd
    · rw [ag k' h1', atn]; exact R.sep h k' c c' (fun e => n1' e.symm) hb h2' ho hd hc
    · exact absurd rfl hne
    · exact absurd h3' hd
    all_goals (rw [h3] at hko; cases hko)
theorem VRs_cells {β : Env} {cs : List AV} {vs : Array Value} (h : VRs β cs vs.toList) (h1 : cs.all AV.one = true) : ∀ (i : Nat) c, cs[i]? = some c → ∃ v, vs[i]? = some v ∧ VR β c v ∧ v.oneCell' = true := by
  intro i c hc
  obtain ⟨v, hv, hvr⟩ := Na h hc
  rw [Array.getElem?_toList] at hv
  exact ⟨v, hv, hvr, VR_one hvr ((List.all_eq_true.1 h1) c (List.mem_of_getElem? hc))⟩
theorem VRs_ones {β : Env} {cs : List AV} {vs : List Value} (h : VRs β cs vs) (h1 : cs.all AV.one = true) : ∀ v ∈ vs, v.oneCell' = true := by
  intro v hv
  obtain ⟨i, hi, rfl⟩ := List.getElem_of_mem hv
  have hl := Y4 h
  have hc : cs[i]? = some (cs[i]'(by omega)) := List.getElem?_eq_getElem (by omega)
  obtain ⟨u, hu, hvr⟩ := Na h hc
  rw [List.getElem?_eq_getElem hi] at hu
  cases hu
  exact VR_one hvr ((List.all_eq_true.1 h1) _ (List.mem_of_getElem? hc))
theorem AV.solid_cells {x : AV} (h : x.solid = true) : x.cells.all AV.one = true := by
  cases x <;> simp [AV.solid, AV.one] at h <;> simp [AV.cells, AV.one]
  exact h
theorem AV.cells_lts {n : Nat} {x : AV} (h : x.lt n) : AV.lts n x.cells := by
  cases x <;> simp only [AV.cells, AV.lts] <;> first | exact ⟨h, trivial⟩ | simpa only [AV.lt] using h
theorem splice_length (cs ds : List AV) (o : Nat) (h : o + ds.length ≤ cs.length) : (Q2 cs o ds).length = cs.length := by
  simp [Q2]; omega
theorem splice_get (cs ds : List AV) (o : Nat) (h : o + ds.length ≤ cs.length) (i : Nat) : (Q2 cs o ds)[i]? = if i < o then cs[i]? else if i < o + ds.length then ds[i - o]? else cs[i]? := by
  unfold Q2
  by_cases h1 : i < o
  · rw [if_pos h1, List.append_assoc, List.getElem?_append_left (by simp; omega), List.getElem?_take, if_pos h1]
  · rw [if_neg h1]
    by_cases h2 : i < o + ds.length
    · rw [if_pos h2, List.getElem?_append_left (by simp; omega), List.getElem?_append_right (by simp; omega)]
      simp [show min o cs.length = o by omega]
    · rw [if_neg h2, List.getElem?_append_right (by simp; omega), List.getElem?_drop]
      congr 1
      simp [show min o cs.length = o by omega]
      omega
theorem Rel.store {P : Program} {w0 : World} {B : Nat} {β : Env} {H : Hp} {w : World} (R : Rel w0 B β H w) {h : Nat} {b : Blk} (hb : H[h]? = some b) (ho : b.kind = .own) (o : Nat) (ds : List AV) (vs : List Value)
    (hv : VRs β ds vs) (h1 : ds.all AV.one = true) (hl : AV.lts H.length ds) (hle : o + ds.length ≤ b.cells.length) :
    ∃ w', (storeCells ((β h).addr.add o) vs 0).run P w = .ok () w' ∧ Rel w0 B β (H.set h ⟨Q2 b.cells o ds, .own, b.ety⟩) w' := by
  obtain ⟨g, cur, e, hBg, hw, hcl, htot⟩ := R.own h b hb ho
  have hvl := Y4 hv
  have hst := run_storeCells_at P g o b.ety vs 0 cur w hw (by omega) (VRs_ones hv h1)
  refine ⟨w.setRow g (cur.toList.take (o + 0) ++ vs ++ cur.toList.drop (o + 0 + vs.length)).toArray, ?_, ?_⟩
  · rw [e, Addr.add_plain]; exact hst
  · refine R.setRow hb ho e hw htot _ _ (by simp; omega) (by rw [splice_length _ _ _ hle]; simp; omega) ?_ ?_
    · rw [AV.lts_iff]
      intro c hc
      unfold Q2 at hc
      have hbl := R.lts h b hb (by rw [ho]; decide)
      rcases List.mem_append.1 hc with hc | hc
      · rcases List.mem_append.1 hc with hc | hc
        · exact hbl c (List.mem_of_mem_take hc)
        · exact (AV.lts_iff.1 hl) c hc
      · exact hbl c (List.mem_of_mem_drop hc)
    · intro i c hc
      rw [splice_get _ _ _ hle] at hc
      have oldc : ∀ (i : Nat) c, b.cells[i]? = some c → ∃ v, cur[i]? = some v ∧ VR β c v ∧ v.oneCell' = true := by
        intro i c hc
        obtain ⟨v, a1, a2, a3⟩ := R.cells h b hb (by rw [ho]; decide) i c hc
        refine ⟨v, ?_, a2, a3⟩
        rw [e, Addr.add_plain] at a1
        simpa [World.cell?, hw] using a1
      simp only [Nat.add_zero, List.getElem?_toArray]
      by_cases hi : i < o
      · rw [if_pos hi] at hc
        obtain ⟨v, a1, a2, a3⟩ := oldc i c hc
        refine ⟨v, ?_, a2, a3⟩
        rw [List.append_assoc, List.getElem?_append_left (by simp; omega), List.getElem?_take, if_pos hi, Array.getElem?_toList]
        exact a1
      · rw [if_neg hi] at hc
        by_cases hi2 : i < o + ds.length
        · rw [if_pos hi2] at hc
          obtain ⟨v, a1, a2⟩ := Na hv hc
          refine ⟨v, ?_, a2, VRs_ones hv h1 v (List.mem_of_getElem? a1)⟩
          rw [List.getElem?_append_left (by simp; omega), List.getElem?_append_right (by simp; omega)]
          simpa [show min o cur.size = o by omega] using a1
        · rw [if_neg hi2] at hc
          obtain ⟨v, a1, a2, a3⟩ := oldc i c hc
          refine ⟨v, ?_, a2, a3⟩
          rw [List.getElem?_append_right (by simp; omega), List.getElem?_drop, Array.getElem?_toList, ← a1]
          congr 1
          simp [show min o cur.size = o by omega]
          omega
def Jw (H : Hp) (t : TypeId) (x : AV) : Option (AV × Hp) :=
  if x.solid then some (.ptr H.length 0, H ++ [⟨x.cells, .own, t⟩]) else none
structure Made (w0 : World) (B : Nat) (β : Env) (H : Hp) (v : AV) (H' : Hp) (x : Value) (w' : World) : Prop where
  ex : ∃ β', Agree H.length β β' ∧ H.length ≤ H'.length ∧ VR β' v x ∧ v.lt H'.length ∧ Rel w0 B β' H' w'
theorem run_aalloc {P : Program} {w0 : World} {B : Nat} {β : Env} {H H' : Hp} {w : World} (R : Rel w0 B β H w) {t : TypeId} {x v : AV} {u : Value} (e : Jw H t x = some (v, H')) (hx : VR β x u) (hl : x.lt H.length) :
    ∃ r w', (newVar t u).run P w = .ok r w' ∧ Made w0 B β H v H' (.pointer (some r)) w' := by
  unfold Jw at e
  split at e
  · rename_i hs
    cases e
    have hc := VR_cells hx (AV.solid_or hs)
    have hR := R.alloc x.cells u.cells t (AV.cells_lts hl) (VRs_cells hc (AV.solid_cells hs))
    refine ⟨⟨w.heap.size, 0, none⟩, w.alloc (.cells u.cells t), rfl, ⟨_, U6 _ _ _, by simp, ?_, by simp [AV.lt], hR⟩⟩
    simp [VR, upd, Addr.add_plain]
  · cases e
def Js (z : List AV) (n : Nat) : List AV := (List.replicate n z).flatten
theorem J0f {β : Env} {z : List AV} {zv : List Value} (h : VRs β z zv) : ∀ n, VRs β (Js z n) (List.replicate n zv).flatten
  | 0 => by simp [Js, VRs]
  | n + 1 => by
    simp only [Js, List.replicate_succ, List.flatten_cons]
    exact Wv h (J0f h n)
theorem azeros_all {z : List AV} (h : z.all AV.one = true) (n : Nat) : (Js z n).all AV.one = true := by
  rw [List.all_eq_true] at h ⊢
  intro c hc
  simp only [Js, List.mem_flatten, List.mem_replicate] at hc
  obtain ⟨l, ⟨_, rfl⟩, hc⟩ := hc
  exact h c hc
theorem azeros_lts {z : List AV} {m : Nat} (h : AV.lts m z) (n : Nat) : AV.lts m (Js z n) := by
  rw [AV.lts_iff] at h ⊢
  intro c hc
  simp only [Js, List.mem_flatten, List.mem_replicate] at hc
  obtain ⟨l, ⟨_, rfl⟩, hc⟩ := hc
  exact h c hc
theorem J0j (z : Array Value) : ∀ n, ((Array.range (n * z.size)).map (z[· % z.size]!)).toList = (List.replicate n z.toList).flatten := by
  intro n
  induction n with
  | zero => simp
  | succ n ih =>
    rw [List.replicate_succ', List.flatten_append, ← ih]
    apply List.ext_getElem
    · simp [Nat.add_mul]
    · intro i h1 h2
      simp only [Array.toList_map, Array.toList_range, List.length_map, List.length_range] at h1
      rw [List.getElem_append]
      simp only [Array.toList_map, Array.toList_range, List.getElem_map, List.getElem_range, List.length_map, List.length_range]
      split
      · rfl
      · rename_i hge
        have hz : 0 < z.size := by
          rcases Nat.eq_zero_or_pos z.size with h | h
          · rw [h] at h1; simp at h1
          · exact h
        have hlt : i - n * z.size < z.size := by
          rw [Nat.add_mul, Nat.one_mul] at h1
          omega
        have hmod : i % z.size = i - n * z.size := by
          have : i = (i - n * z.size) + z.size * n := by rw [Nat.mul_comm z.size n]; omega
          rw [this, Nat.add_mul_mod_self_left, Nat.mod_eq_of_lt hlt]
          rw [Nat.mul_comm z.size n]
          omega
        simp [hmod, hlt]
def Jf (P : Program) (H : Hp) (t : TypeId) (len : Nat) (parts : List (Nat × AV)) : Option (AV × Hp) :=
  match P.underlying t with
  | some (.slice e) =>
    match Xf P e, Z2 P e with
    | some z, some zv =>
      if zv.cells.length = z ∧ len * z ≤ 16777216 ∧ 0 < len * z then
      match Q7 (fun i => some (i * z, z)) (Js zv.cells len) parts with
      | some cells => if cells.all AV.one then some (.sl H.length 0 len len, H ++ [⟨cells, .own, e⟩]) else none
      | none => none
      else if len = 0 ∧ parts = [] then some (.sl H.length 0 0 0, H ++ [⟨[], .own, e⟩]) else none
    | _, _ => none
  | _ => none
theorem run_abuildSlice {P : Program} {w0 : World} {B : Nat} {β : Env} {H H' : Hp} {w : World} (R : Rel w0 B β H w) {t : TypeId} {len : Nat} {parts : List (Nat × AV)} {v : AV} {us : Array (Nat × Value)}
    (e : Jf P H t len parts = some (v, H')) (hlen : parts.length = us.size)
    (hp : ∀ (i : Nat) p q, parts[i]? = some p → us[i]? = some q → p.1 = q.1 ∧ VR β p.2 q.2) (hl : ∀ p ∈ parts, p.2.lt H.length) :
    ∃ r w', (Instr.buildSlice t len us).run P w = .ok r w' ∧ Made w0 B β H v H' r w' := by
  unfold Jf at e
  split at e
  · rename_i el ht
    split at e
    · rename_i z zv hs hz
      obtain ⟨i, zc, hi, hzc, hzr, rfl⟩ := Ro (β := β) hz
      split at e
      · rename_i hc
        obtain ⟨hzl, h24, hpos⟩ := hc
        split at e
        · rename_i cells hf
          split at e
          · rename_i hall
            cases e
            have hzv := Wf β zc
            have hzsz : zc.cells.size = z := by
              have := Y4 hzv
              rw [Array.length_toList] at this
              omega
            have h0 : VRs β (Js (ofValue zc).cells len) ((Array.range (len * z)).map (zc.cells[· % zc.cells.size]!)).toList := by
              have := J0j zc.cells len
              rw [hzsz] at this ⊢
              rw [this]
              exact J0f hzv len
            obtain ⟨ws, h1, h2⟩ := run_afill (fun i => some (i * z, z)) parts us.toList _ _ cells hf (by simpa using hlen) (fun k p q h1 h2 => hp k p q h1 (by simpa using h2)) h0
            have hzlt : AV.lts H.length (ofValue zc).cells := AV.cells_lts (G0 _ _)
            have hlts := afill_lts (n := H.length) _ parts _ cells hf (azeros_lts hzlt len) hl
            have hR := R.alloc cells ws el hlts (VRs_cells h2 hall)
            refine ⟨.slice (some ⟨w.heap.size, 0, none⟩) len len, w.alloc (.cells ws el), ?_, ⟨_, U6 _ _ _, by simp, ?_, by simp [AV.lt], hR⟩⟩
            · have hne : ¬ (len * z = 0) := by omega
              have hle : ¬ (len * z > 2 ^ 24) := by have : (2 : Nat) ^ 24 = 16777216 := by decide
                                                    omega
              simp only [Instr.buildSlice, Sem.run_bind, run_underlying ht, Result.andThen_ok, Za hs, hne, hle, if_false, Sem.run_pure, zeroValue, typeInfo, run_program, hi, hzc, h1]
              simp [newRow]
            · simp [VR, upd, Addr.add_plain]
          · cases e
        · cases e
      · split at e
        · rename_i hc
          obtain ⟨rfl, rfl⟩ := hc
          cases e
          have hR := R.alloc [] #[] el (by simp [AV.lts]) (by simp)
          have hus : us = #[] := by
            apply Array.eq_empty_of_size_eq_zero
            simpa using hlen.symm
          subst hus
          refine ⟨.slice (some ⟨w.heap.size, 0, none⟩) 0 0, w.alloc (.cells #[] el), ?_, ⟨_, U6 _ _ _, by simp, ?_, by simp [AV.lt], hR⟩⟩
          · simp [Instr.buildSlice, run_underlying ht, Za hs, Instr.fill, newRow, Array.range_zero']
          · simp [VR, upd, Addr.add_plain]
        · cases e
    · cases e
  · cases e
def Yk (P : Program) (H : Hp) (t : TypeId) (l c : AV) : Option (AV × Hp) :=
  match P.underlying t, l, c with
  | some (.slice e), .int _ l, .int _ c =>
    match Xf P e, Z2 P e, Xq P e with
    | some z, some zv, some by_ =>
      if zv.cells.length = z ∧ zv.cells.all AV.one = true ∧ 0 < z ∧ 0 ≤ l ∧ l ≤ c ∧ c ≤ 140737488355328 ∧ c * (by_ : Int) ≤ 281474976710656 then
        some (.sl H.length 0 l.toNat c.toNat, H ++ [⟨Js zv.cells c.toNat, .own, e⟩])
      else none
    | _, _, _ => none
  | _, _, _ => none
theorem Qe {n : Int} (h : -9223372036854775808 ≤ n) (h' : n ≤ 9223372036854775807) : IntKind.i64.wrap n = n := IntWalk.i64_in n ⟨h, h'⟩
theorem run_amakeSlice {P : Program} {w0 : World} {B : Nat} {β : Env} {H H' : Hp} {w : World} (R : Rel w0 B β H w) {t : TypeId} {l c v : AV} {ul uc : Value}
    (e : Yk P H t l c = some (v, H')) (hl : VR β l ul) (hc : VR β c uc) :
    ∃ r w', (Instr.makeSlice t ul uc).run P w = .ok r w' ∧ Made w0 B β H v H' r w' := by
  unfold Yk at e
  split at e
  · rename_i el k1 l' k2 c' ht
    simp only [VR] at hl hc
    subst hl; subst hc
    split at e
    · rename_i z zv by_ hs hz hby
      obtain ⟨i, zc, hi, hzc, hzr, rfl⟩ := Ro (β := β) hz
      have hbi : i.bytes = by_ := by
        unfold Xq at hby
        rw [hi] at hby
        simpa using hby
      split at e
      · rename_i hcd
        obtain ⟨hzl, hall, hzp, h0, hlc, hcb, hcby⟩ := hcd
        cases e
        have hzv := Wf β zc
        have hzsz : zc.cells.size = z := by
          have := Y4 hzv
          rw [Array.length_toList] at this
          omega
        have hcz := J0j zc.cells c'.toNat
        have h0v : VRs β (Js (ofValue zc).cells c'.toNat) ((Array.range (c'.toNat * z)).map (zc.cells[· % zc.cells.size]!)).toList := by
          rw [hzsz] at hcz ⊢
          rw [hcz]
          exact J0f hzv _
        have hzlt : AV.lts H.length (ofValue zc).cells := AV.cells_lts (G0 _ _)
        have hR := R.alloc (Js (ofValue zc).cells c'.toNat) _ el (azeros_lts hzlt _) (VRs_cells h0v (azeros_all hall _))
        have wl : IntKind.i64.wrap l' = l' := Qe (by omega) (by omega)
        have wc : IntKind.i64.wrap c' = c' := Qe (by omega) (by omega)
        refine ⟨.slice (some ⟨w.heap.size, 0, none⟩) l'.toNat c'.toNat, w.alloc (.cells ((Array.range (c'.toNat * z)).map (zc.cells[· % zc.cells.size]!)) el), ?_, ⟨_, U6 _ _ _, by simp, ?_, by simp [AV.lt], hR⟩⟩
        · have t1 : ¬ (2 ^ 48 < (i.bytes : Int) * c') := by
            have : (2 : Int) ^ 48 = 281474976710656 := by decide
            rw [this, hbi, Int.mul_comm]; omega
          simp only [Instr.makeSlice, Sem.run_bind, run_underlying ht, Result.andThen_ok, asInt, asIntOf, Sem.run_pure, typeInfo, run_program, hi, wl, wc]
          have t2 : ¬ (c' < 0) := by omega
          have t3 : ¬ (l' < 0) := by omega
          have t4 : ¬ (l' > c') := by omega
          simp only [t1, t2, t3, t4, gt_iff_lt, decide_false, Bool.or_self, Bool.false_eq_true, if_false, Sem.run_bind, Sem.run_pure, Result.andThen_ok, run_askRoom, Za hs, zeroValue, typeInfo, run_program, hi, hzc]
          by_cases hc0 : c'.toNat * z = 0
          · simp [hc0, newRow, Array.range_zero']
          · simp [hc0, newRow, Za hs, hi, hzc, zeroValue, typeInfo]
        · simp [VR, upd, Addr.add_plain]
      · cases e
    · cases e
  · cases e
end Go.AL

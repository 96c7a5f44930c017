/- Part 3 of the proof of laws of this seat: lemmas on the model's code, on this program's functions, on numbers. No condition. -/
import Derived.Test.YtfalfmfkifemeaaGreatDoorZGab
import Derived.IntWalk
import Derived.Lib.AppendZeros
import Derived.Lib.AppendZerosOnto
import Derived.Lib.ConvBytes
set_option linter.unusedVariables false
set_option linter.unusedSimpArgs false
open Nat renaming reduceEqDiff → J0, reduceLeDiff → J1, reduceMul → J2, reduceAdd → J3, reduceSub → J4, reduceLT → J5
open Int renaming reduceToNat → J6, reducePow → J7, reduceNeg → J8, reduceLT → J9, reduceLE → Ja, reduceEq → Jb
open And renaming intro → Jc
open Go.IntKind renaming bits → Jd
namespace Go.AL
open Go.RowKit
theorem V0 {H : Hp} {h k : Nat} {b b' : Blk} (hk : (H.set h b')[k]? = some b) : (k = h ∧ b = b' ∧ h < H.length) ∨ (k ≠ h ∧ H[k]? = some b) := by
  rw [List.getElem?_set] at hk
  split at hk
  · rename_i e
    split at hk
    · cases hk; exact .inl ⟨e.symm, rfl, by assumption⟩
    · cases hk
  · rename_i e
    exact .inr ⟨fun h' => e h'.symm, hk⟩
theorem Rel.setRow {w0 : World} {B : Nat} {β : Nat → Bx} {H : Hp} {w : World} (R : Rel w0 B β H w) {h : Nat} {b : Blk} (hb : H[h]? = some b) (ho : b.kind = .own) {g : Nat} {cur : Array Value}
    (hg : (β h).addr = ⟨g, 0, none⟩) (hw : w.heap[g]? = some (.cells cur b.ety (0, 0))) (hcur : cur.size = (β h).tot) (cs : List AV) (arr : Array Value) (hsz : arr.size = cur.size) (hle : cs.length ≤ arr.size)
    (hl : AV.lts H.length cs) (hv : ∀ (i : Nat) c, cs[i]? = some c → ∃ v, arr[i]? = some v ∧ VR β c v ∧ v.oneCell' = true) :
    Rel w0 B β (H.set h ⟨cs, .own, b.ety⟩) (w.setRow g arr) := by
  have hBg : B ≤ g := by
    obtain ⟨g', cur', e, h1, _⟩ := R.own h b hb ho
    rw [hg] at e
    have : g = g' := by injection e
    omega
  have hother : ∀ {k : Nat} {b' : Blk}, k ≠ h → H[k]? = some b' → b'.kind ≠ .dead → (b'.kind = .own ∨ b'.cells ≠ []) → (β k).addr.block ≠ g := by
    intro k b' hk hb' hd hc
    have := R.sep h k b b' (fun e => hk e.symm) hb hb' ho hd hc
    rw [hg] at this
    exact fun e => this e.symm
  refine ⟨R.below.trans ⟨rfl, rfl, rfl, by simp, fun k hk => setRow_other w g k arr (by omega)⟩, by simpa using R.base, ?_, ?_, ?_, ?_, ?_⟩
  · intro k b' hk hd i c hc
    rcases V0 hk with ⟨rfl, rfl, _⟩ | ⟨hne, hk'⟩
    · obtain ⟨v, h1, h2, h3⟩ := hv i c hc
      refine ⟨v, ?_, h2, h3⟩
      rw [hg, Addr.add_plain, cell_setRow_same w g i cur arr b.ety (0, 0) hw]
      exact h1
    · obtain ⟨v, h1, h2, h3⟩ := R.cells k b' hk' hd i c hc
      refine ⟨v, ?_, h2, h3⟩
      have hcne : b'.cells ≠ [] := by intro e; rw [e] at hc; cases hc
      rw [cell_setRow_other w g arr _ (by rw [Addr.add_block]; exact hother hne hk' hd (.inr hcne))]
      exact h1
  · intro k b' hk hd c hc
    rw [List.length_set]
    rcases V0 hk with ⟨rfl, rfl, _⟩ | ⟨hne, hk'⟩
    · exact (AV.lts_iff.1 hl) c hc
    · exact R.lts k b' hk' hd c hc
  · intro k b' hk hko
    rcases V0 hk with ⟨rfl, rfl, _⟩ | ⟨hne, hk'⟩
    · exact ⟨g, arr, hg, hBg, setRow_heap w g cur arr b.ety (0, 0) hw, hle, by rw [hsz, hcur]⟩
    · obtain ⟨g', cur', e, h1, h2, h3, h4⟩ := R.own k b' hk' hko
      refine ⟨g', cur', e, h1, ?_, h3, h4⟩
      rw [setRow_other w g g' arr ?_]
      · exact h2
      · have := hother hne hk' (by rw [hko]; decide) (.inl hko)
        rw [e] at this
        exact this
  · intro k b' hk a t v e hkd
    rcases V0 hk with ⟨rfl, rfl, _⟩ | ⟨_, h1⟩
    · cases hkd
    · exact R.glob k b' h1 a t v e hkd
  · intro k k' b1 b2 hne hk hk' hko hd hc
    have get1 : ∃ b1', H[k]? = some b1' ∧ b1'.kind = .own := by
      rcases V0 hk with ⟨rfl, rfl, _⟩ | ⟨_, h1⟩
      · exact ⟨b, hb, ho⟩
      · exact ⟨b1, h1, hko⟩
    have get2 : ∃ b2', H[k']? = some b2' ∧ b2'.kind ≠ .dead ∧ (b2'.kind = .own ∨ b2'.cells ≠ []) := by
      rcases V0 hk' with ⟨rfl, rfl, _⟩ | ⟨_, h1⟩
      · exact ⟨b, hb, by rw [ho]; decide, .inl ho⟩
      · exact ⟨b2, h1, hd, hc⟩
    obtain ⟨c1, h1, h2⟩ := get1
    obtain ⟨c2, h3, h4, h5⟩ := get2
    exact R.sep k k' c1 c2 hne h1 h3 h2 h4 h5
theorem Rel.kill {w0 : World} {B : Nat} {β : Nat → Bx} {H : Hp} {w : World} (R : Rel w0 B β H w) (h : Nat) (cs : List AV) (e : TypeId) : Rel w0 B β (H.set h ⟨cs, .dead, e⟩) w := by
  refine ⟨R.below, R.base, ?_, ?_, ?_, (fun k b hk a t v e hkd => (V0 hk).elim (fun h' => by rw [h'.2.1] at hkd; cases hkd) (fun h' => R.glob k b h'.2 a t v e hkd)), ?_⟩
  · intro k b hk hd
    rcases V0 hk with ⟨rfl, rfl, _⟩ | ⟨_, h1⟩
    · exact absurd rfl hd
    · exact R.cells k b h1 hd
  · intro k b hk hd
    rw [List.length_set]
    rcases V0 hk with ⟨rfl, rfl, _⟩ | ⟨_, h1⟩
    · exact absurd rfl hd
    · exact R.lts k b h1 hd
  · intro k b hk ho
    rcases V0 hk with ⟨rfl, rfl, _⟩ | ⟨_, h1⟩
    · cases ho
    · exact R.own k b h1 ho
  · intro k k' b b' hne hk hk' ho hd
    rcases V0 hk with ⟨rfl, rfl, _⟩ | ⟨_, h1⟩
    · cases ho
    · rcases V0 hk' with ⟨rfl, rfl, _⟩ | ⟨_, h2⟩
      · exact absurd rfl hd
      · exact R.sep k k' b b' hne h1 h2 ho hd
theorem Rel.rename {w0 : World} {B : Nat} {β : Nat → Bx} {H : Hp} {w : World} (R : Rel w0 B β H w) {h : Nat} {b : Blk} (hb : H[h]? = some b) (ho : b.kind = .own) (cs : List AV) (e : TypeId) :
    Rel w0 B (upd β H.length (β h)) (H.set h ⟨cs, .dead, e⟩ ++ [b]) w := by
  have hlt : h < H.length := (List.getElem?_eq_some_iff.1 hb).1
  have hlen : (H.set h (⟨cs, .dead, e⟩ : Blk)).length = H.length := by simp
  have ag := V6 β H.length (β h)
  have atn : upd β H.length (β h) H.length = β h := by simp [upd]
  have hold : ∀ {k : Nat} {c : Blk}, (H.set h ⟨cs, .dead, e⟩ ++ [b])[k]? = some c → (k < H.length ∧ k ≠ h ∧ H[k]? = some c) ∨ (k = H.length ∧ c = b) ∨ c.kind = .dead := by
    intro k c hk
    rcases Nat.lt_trichotomy k H.length with h1 | h1 | h1
    · rw [List.getElem?_append_left (by simpa using h1)] at hk
      rcases V0 hk with ⟨rfl, rfl, _⟩ | ⟨hne, h2⟩
      · exact .inr (.inr rfl)
      · exact .inl ⟨h1, hne, h2⟩
    · subst h1
      rw [List.getElem?_append_right (by simp)] at hk
      simp at hk
      exact .inr (.inl ⟨rfl, hk.symm⟩)
    · rw [List.getElem?_eq_none (by simp; omega)] at hk; cases hk
  have hnd : b.kind ≠ .dead := by rw [ho]; decide
  refine ⟨R.below, R.base, ?_, ?_, ?_, (fun k c hk a t v e hkd => by
    rcases hold hk with ⟨_, _, h2⟩ | ⟨_, rfl⟩ | h3
    · exact R.glob k c h2 a t v e hkd
    · rw [ho] at hkd; cases hkd
    · rw [h3] at hkd; cases hkd), ?_⟩
  · intro k c hk hd i x hx
    rcases hold hk with ⟨h1, _, h2⟩ | ⟨rfl, rfl⟩ | h3
    · obtain ⟨v, a1, a2, a3⟩ := R.cells k c h2 hd i x hx
      exact ⟨v, by rw [ag k h1]; exact a1, Yv ag x v (R.lts k c h2 hd x (List.mem_of_getElem? hx)) a2, a3⟩
    · obtain ⟨v, a1, a2, a3⟩ := R.cells h c hb hd i x hx
      exact ⟨v, by rw [atn]; exact a1, Yv ag x v (R.lts h c hb hd x (List.mem_of_getElem? hx)) a2, a3⟩
    · exact absurd h3 hd
  · intro k c hk hd x hx
    have : (H.set h (⟨cs, .dead, e⟩ : Blk) ++ [b]).length = H.length + 1 := by simp
    rw [this]
    rcases hold hk with ⟨h1, _, h2⟩ | ⟨rfl, rfl⟩ | h3
    · exact AV.lt_mono (by omega) x (R.lts k c h2 hd x hx)
    · exact AV.lt_mono (by omega) x (R.lts h c hb hd x hx)
    · exact absurd h3 hd
  · intro k c hk hko
    rcases hold hk with ⟨h1, _, h2⟩ | ⟨rfl, rfl⟩ | h3
    · rw [ag k h1]; exact R.own k c h2 hko
    · rw [atn]; exact R.own h c hb hko
    · rw [h3] at hko; cases hko
  · intro k k' c c' hne hk hk' hko hd hc
    rcases hold hk with ⟨h1, n1, h2⟩ | ⟨rfl, rfl⟩ | h3 <;> rcases hold hk' with ⟨h1', n1', h2'⟩ | ⟨rfl, rfl⟩ | h3'
    · rw [ag k h1, ag k' h1']; exact R.sep k k' c c' hne h2 h2' hko hd hc
    · rw [ag k h1, atn]; exact R.sep k h c c' n1 h2 hb hko hd hc
    · exact absurd h3' hd
    · rw [ag k' h1', atn]; exact R.sep h k' c c' (fun e => n1' e.symm) hb h2' ho hd hc
    · exact absurd rfl hne
    · exact absurd h3' hd
    all_goals (rw [h3] at hko; cases hko)
theorem VRs_cells {β : Nat → Bx} {cs : List AV} {vs : Array Value} (h : VRs β cs vs.toList) (h1 : cs.all AV.one = true) : ∀ (i : Nat) c, cs[i]? = some c → ∃ v, vs[i]? = some v ∧ VR β c v ∧ v.oneCell' = true := by
  intro i c hc
  obtain ⟨v, hv, hvr⟩ := Ko h hc
  rw [Array.getElem?_toList] at hv
  exact ⟨v, hv, hvr, VR_one hvr ((List.all_eq_true.1 h1) c (List.mem_of_getElem? hc))⟩
theorem J02 {β : Nat → Bx} {cs : List AV} {vs : List Value} (h : VRs β cs vs) (h1 : cs.all AV.one = true) : ∀ v ∈ vs, v.oneCell' = true := by
  intro v hv
  obtain ⟨i, hi, rfl⟩ := List.getElem_of_mem hv
  have hl := Zk h
  have hc : cs[i]? = some (cs[i]'(by omega)) := List.getElem?_eq_getElem (by omega)
  obtain ⟨u, hu, hvr⟩ := Ko h hc
  rw [List.getElem?_eq_getElem hi] at hu
  cases hu
  exact VR_one hvr ((List.all_eq_true.1 h1) _ (List.mem_of_getElem? hc))
theorem AV.solid_cells {x : AV} (h : x.solid = true) : x.cells.all AV.one = true := by
  cases x <;> simp [AV.solid, AV.one] at h <;> simp [AV.cells, AV.one]
  exact h
theorem AV.cells_lts {n : Nat} {x : AV} (h : x.lt n) : AV.lts n x.cells := by
  cases x <;> simp only [AV.cells, AV.lts] <;> first | exact ⟨h, trivial⟩ | simpa only [AV.lt] using h
theorem splice_length (cs ds : List AV) (o : Nat) (h : o + ds.length ≤ cs.length) : (Jr cs o ds).length = cs.length := by
  simp [Jr]; omega
theorem splice_get (cs ds : List AV) (o : Nat) (h : o + ds.length ≤ cs.length) (i : Nat) : (Jr cs o ds)[i]? = if i < o then cs[i]? else if i < o + ds.length then ds[i - o]? else cs[i]? := by
  unfold Jr
  by_cases h1 : i < o
  · rw [if_pos h1, List.append_assoc, List.getElem?_append_left (by simp; omega), List.getElem?_take, if_pos h1]
  · rw [if_neg h1]
    by_cases h2 : i < o + ds.length
    · rw [if_pos h2, List.getElem?_append_left (by simp; omega), List.getElem?_append_right (by simp; omega)]
      simp [show min o cs.length = o by omega]
    · rw [if_neg h2, List.getElem?_append_right (by simp; omega), List.getElem?_drop]
      congr 1
      simp [show min o cs.length = o by omega]
      omega
theorem Rel.store {P : Program} {w0 : World} {B : Nat} {β : Nat → Bx} {H : Hp} {w : World} (R : Rel w0 B β H w) {h : Nat} {b : Blk} (hb : H[h]? = some b) (ho : b.kind = .own) (o : Nat) (ds : List AV) (vs : List Value)
    (hv : VRs β ds vs) (h1 : ds.all AV.one = true) (hl : AV.lts H.length ds) (hle : o + ds.length ≤ b.cells.length) :
    ∃ w', (storeCells ((β h).addr.add o) vs 0).run P w = .ok () w' ∧ Rel w0 B β (H.set h ⟨Jr b.cells o ds, .own, b.ety⟩) w' := by
  obtain ⟨g, cur, e, hBg, hw, hcl, htot⟩ := R.own h b hb ho
  have hvl := Zk hv
  have hst := run_storeCells_at P g o b.ety vs 0 cur w hw (by omega) (J02 hv h1)
  refine ⟨w.setRow g (cur.toList.take (o + 0) ++ vs ++ cur.toList.drop (o + 0 + vs.length)).toArray, ?_, ?_⟩
  · rw [e, Addr.add_plain]; exact hst
  · refine R.setRow hb ho e hw htot _ _ (by simp; omega) (by rw [splice_length _ _ _ hle]; simp; omega) ?_ ?_
    · rw [AV.lts_iff]
      intro c hc
      unfold Jr at hc
      have hbl := R.lts h b hb (by rw [ho]; decide)
      rcases List.mem_append.1 hc with hc | hc
      · rcases List.mem_append.1 hc with hc | hc
        · exact hbl c (List.mem_of_mem_take hc)
        · exact (AV.lts_iff.1 hl) c hc
      · exact hbl c (List.mem_of_mem_drop hc)
    · intro i c hc
      rw [splice_get _ _ _ hle] at hc
      have oldc : ∀ (i : Nat) c, b.cells[i]? = some c → ∃ v, cur[i]? = some v ∧ VR β c v ∧ v.oneCell' = true := by
        intro i c hc
        obtain ⟨v, a1, a2, a3⟩ := R.cells h b hb (by rw [ho]; decide) i c hc
        refine ⟨v, ?_, a2, a3⟩
        rw [e, Addr.add_plain] at a1
        simpa [World.cell?, hw] using a1
      simp only [Nat.add_zero, List.getElem?_toArray]
      by_cases hi : i < o
      · rw [if_pos hi] at hc
        obtain ⟨v, a1, a2, a3⟩ := oldc i c hc
        refine ⟨v, ?_, a2, a3⟩
        rw [List.append_assoc, List.getElem?_append_left (by simp; omega), List.getElem?_take, if_pos hi, Array.getElem?_toList]
        exact a1
      · rw [if_neg hi] at hc
        by_cases hi2 : i < o + ds.length
        · rw [if_pos hi2] at hc
          obtain ⟨v, a1, a2⟩ := Ko hv hc
          refine ⟨v, ?_, a2, J02 hv h1 v (List.mem_of_getElem? a1)⟩
          rw [List.getElem?_append_left (by simp; omega), List.getElem?_append_right (by simp; omega)]
          simpa [show min o cur.size = o by omega] using a1
        · rw [if_neg hi2] at hc
          obtain ⟨v, a1, a2, a3⟩ := oldc i c hc
          refine ⟨v, ?_, a2, a3⟩
          rw [List.getElem?_append_right (by simp; omega), List.getElem?_drop, Array.getElem?_toList, ← a1]
          congr 1
          simp [show min o cur.size = o by omega]
          omega
def Jv (H : Hp) (t : TypeId) (x : AV) : Option (AV × Hp) :=
  if x.solid then some (.ptr H.length 0, H ++ [⟨x.cells, .own, t⟩]) else none
structure Made (w0 : World) (B : Nat) (β : Nat → Bx) (H : Hp) (v : AV) (H' : Hp) (x : Value) (w' : World) : Prop where
  ex : ∃ β', Agree H.length β β' ∧ H.length ≤ H'.length ∧ VR β' v x ∧ v.lt H'.length ∧ Rel w0 B β' H' w'
theorem run_aalloc {P : Program} {w0 : World} {B : Nat} {β : Nat → Bx} {H H' : Hp} {w : World} (R : Rel w0 B β H w) {t : TypeId} {x v : AV} {u : Value} (e : Jv H t x = some (v, H')) (hx : VR β x u) (hl : x.lt H.length) :
    ∃ r w', (newVar t u).run P w = .ok r w' ∧ Made w0 B β H v H' (.pointer (some r)) w' := by
  unfold Jv at e
  split at e
  · rename_i hs
    cases e
    have hc := VR_cells hx (AV.solid_or hs)
    have hR := R.alloc x.cells u.cells t (AV.cells_lts hl) (VRs_cells hc (AV.solid_cells hs))
    refine ⟨⟨w.heap.size, 0, none⟩, w.alloc (.cells u.cells t), rfl, ⟨_, V6 _ _ _, by simp, ?_, by simp [AV.lt], hR⟩⟩
    simp [VR, upd, Addr.add_plain]
  · cases e
def Js (z : List AV) (n : Nat) : List AV := (List.replicate n z).flatten
theorem Gk {β : Nat → Bx} {z : List AV} {zv : List Value} (h : VRs β z zv) : ∀ n, VRs β (Js z n) (List.replicate n zv).flatten
  | 0 => by simp [Js, VRs]
  | n + 1 => by
    simp only [Js, List.replicate_succ, List.flatten_cons]
    exact Wf h (Gk h n)
theorem azeros_all {z : List AV} (h : z.all AV.one = true) (n : Nat) : (Js z n).all AV.one = true := by
  rw [List.all_eq_true] at h ⊢
  intro c hc
  simp only [Js, List.mem_flatten, List.mem_replicate] at hc
  obtain ⟨l, ⟨_, rfl⟩, hc⟩ := hc
  exact h c hc
theorem Rj {z : List AV} {m : Nat} (h : AV.lts m z) (n : Nat) : AV.lts m (Js z n) := by
  rw [AV.lts_iff] at h ⊢
  intro c hc
  simp only [Js, List.mem_flatten, List.mem_replicate] at hc
  obtain ⟨l, ⟨_, rfl⟩, hc⟩ := hc
  exact h c hc
theorem Gv (z : Array Value) : ∀ n, ((Array.range (n * z.size)).map (z[· % z.size]!)).toList = (List.replicate n z.toList).flatten := by
  intro n
  induction n with
  | zero => simp
  | succ n ih =>
    rw [List.replicate_succ', List.flatten_append, ← ih]
    apply List.ext_getElem
    · simp [Nat.add_mul]
    · intro i h1 h2
      simp only [Array.toList_map, Array.toList_range, List.length_map, List.length_range] at h1
      rw [List.getElem_append]
      simp only [Array.toList_map, Array.toList_range, List.getElem_map, List.getElem_range, List.length_map, List.length_range]
      split
      · rfl
      · rename_i hge
        have hz : 0 < z.size := by
          rcases Nat.eq_zero_or_pos z.size with h | h
          · rw [h] at h1; simp at h1
          · exact h
        have hlt : i - n * z.size < z.size := by
          rw [Nat.add_mul, Nat.one_mul] at h1
          omega
        have hmod : i % z.size = i - n * z.size := by
          have : i = (i - n * z.size) + z.size * n := by rw [Nat.mul_comm z.size n]; omega
          rw [this, Nat.add_mul_mod_self_left, Nat.mod_eq_of_lt hlt]
          rw [Nat.mul_comm z.size n]
          omega
        simp [hmod, hlt]
def Jf (P : Program) (H : Hp) (t : TypeId) (len : Nat) (parts : List (Nat × AV)) : Option (AV × Hp) :=
  match P.underlying t with
  | some (.slice e) =>
    match Xg P e, Z5 P e with
    | some z, some zv =>
      if zv.cells.length = z ∧ len * z ≤ 16777216 ∧ 0 < len * z then
      match Q1 (fun i => some (i * z, z)) (Js zv.cells len) parts with
      | some cells => if cells.all AV.one then some (.sl H.length 0 len len, H ++ [⟨cells, .own, e⟩]) else none
      | none => none
      else if len = 0 ∧ parts = [] then some (.sl H.length 0 0 0, H ++ [⟨[], .own, e⟩]) else none
    | _, _ => none
  | _ => none
theorem run_abuildSlice {P : Program} {w0 : World} {B : Nat} {β : Nat → Bx} {H H' : Hp} {w : World} (R : Rel w0 B β H w) {t : TypeId} {len : Nat} {parts : List (Nat × AV)} {v : AV} {us : Array (Nat × Value)}
    (e : Jf P H t len parts = some (v, H')) (hlen : parts.length = us.size)
    (hp : ∀ (i : Nat) p q, parts[i]? = some p → us[i]? = some q → p.1 = q.1 ∧ VR β p.2 q.2) (hl : ∀ p ∈ parts, p.2.lt H.length) :
    ∃ r w', (Instr.buildSlice t len us).run P w = .ok r w' ∧ Made w0 B β H v H' r w' := by
  unfold Jf at e
  split at e
  · rename_i el ht
    split at e
    · rename_i z zv hs hz
      obtain ⟨i, zc, hi, hzc, hzr, rfl⟩ := Gb (β := β) hz
      split at e
      · rename_i hc
        obtain ⟨hzl, h24, hpos⟩ := hc
        split at e
        · rename_i cells hf
          split at e
          · rename_i hall
            cases e
            have hzv := Ui β zc
            have hzsz : zc.cells.size = z := by
              have := Zk hzv
              rw [Array.length_toList] at this
              omega
            have h0 : VRs β (Js (ofValue zc).cells len) ((Array.range (len * z)).map (zc.cells[· % zc.cells.size]!)).toList := by
              have := Gv zc.cells len
              rw [hzsz] at this ⊢
              rw [this]
              exact Gk hzv len
            obtain ⟨ws, h1, h2⟩ := run_afill (fun i => some (i * z, z)) parts us.toList _ _ cells hf (by simpa using hlen) (fun k p q h1 h2 => hp k p q h1 (by simpa using h2)) h0
            have hzlt : AV.lts H.length (ofValue zc).cells := AV.cells_lts (We _ _)
            have hlts := afill_lts (n := H.length) _ parts _ cells hf (Rj hzlt len) hl
            have hR := R.alloc cells ws el hlts (VRs_cells h2 hall)
            refine ⟨.slice (some ⟨w.heap.size, 0, none⟩) len len, w.alloc (.cells ws el), ?_, ⟨_, V6 _ _ _, by simp, ?_, by simp [AV.lt], hR⟩⟩
            · have hne : ¬ (len * z = 0) := by omega
              have hle : ¬ (len * z > 2 ^ 24) := by have : (2 : Nat) ^ 24 = 16777216 := by decide
                                                    omega
              simp only [Instr.buildSlice, Sem.run_bind, run_underlying ht, Result.andThen_ok, Zc hs, hne, hle, if_false, Sem.run_pure, zeroValue, typeInfo, run_program, hi, hzc, h1]
              simp [newRow]
            · simp [VR, upd, Addr.add_plain]
          · cases e
        · cases e
      · split at e
        · rename_i hc
          obtain ⟨rfl, rfl⟩ := hc
          cases e
          have hR := R.alloc [] #[] el (by simp [AV.lts]) (by simp)
          have hus : us = #[] := by
            apply Array.eq_empty_of_size_eq_zero
            simpa using hlen.symm
          subst hus
          refine ⟨.slice (some ⟨w.heap.size, 0, none⟩) 0 0, w.alloc (.cells #[] el), ?_, ⟨_, V6 _ _ _, by simp, ?_, by simp [AV.lt], hR⟩⟩
          · simp [Instr.buildSlice, run_underlying ht, Zc hs, Instr.fill, newRow, Array.range_zero']
          · simp [VR, upd, Addr.add_plain]
        · cases e
    · cases e
  · cases e
def Zv (P : Program) (H : Hp) (t : TypeId) (l c : AV) : Option (AV × Hp) :=
  match P.underlying t, l, c with
  | some (.slice e), .int _ l, .int _ c =>
    match Xg P e, Z5 P e, Xn P e with
    | some z, some zv, some by_ =>
      if zv.cells.length = z ∧ zv.cells.all AV.one = true ∧ 0 < z ∧ 0 ≤ l ∧ l ≤ c ∧ c ≤ 140737488355328 ∧ c * (by_ : Int) ≤ 281474976710656 then
        some (.sl H.length 0 l.toNat c.toNat, H ++ [⟨Js zv.cells c.toNat, .own, e⟩])
      else none
    | _, _, _ => none
  | _, _, _ => none
theorem Q5 {n : Int} (h : -9223372036854775808 ≤ n) (h' : n ≤ 9223372036854775807) : IntKind.i64.wrap n = n := IntWalk.i64_in n ⟨h, h'⟩
theorem run_amakeSlice {P : Program} {w0 : World} {B : Nat} {β : Nat → Bx} {H H' : Hp} {w : World} (R : Rel w0 B β H w) {t : TypeId} {l c v : AV} {ul uc : Value}
    (e : Zv P H t l c = some (v, H')) (hl : VR β l ul) (hc : VR β c uc) :
    ∃ r w', (Instr.makeSlice t ul uc).run P w = .ok r w' ∧ Made w0 B β H v H' r w' := by
  unfold Zv at e
  split at e
  · rename_i el k1 l' k2 c' ht
    simp only [VR] at hl hc
    subst hl; subst hc
    split at e
    · rename_i z zv by_ hs hz hby
      obtain ⟨i, zc, hi, hzc, hzr, rfl⟩ := Gb (β := β) hz
      have hbi : i.bytes = by_ := by
        unfold Xn at hby
        rw [hi] at hby
        simpa using hby
      split at e
      · rename_i hcd
        obtain ⟨hzl, hall, hzp, h0, hlc, hcb, hcby⟩ := hcd
        cases e
        have hzv := Ui β zc
        have hzsz : zc.cells.size = z := by
          have := Zk hzv
          rw [Array.length_toList] at this
          omega
        have hcz := Gv zc.cells c'.toNat
        have h0v : VRs β (Js (ofValue zc).cells c'.toNat) ((Array.range (c'.toNat * z)).map (zc.cells[· % zc.cells.size]!)).toList := by
          rw [hzsz] at hcz ⊢
          rw [hcz]
          exact Gk hzv _
        have hzlt : AV.lts H.length (ofValue zc).cells := AV.cells_lts (We _ _)
        have hR := R.alloc (Js (ofValue zc).cells c'.toNat) _ el (Rj hzlt _) (VRs_cells h0v (azeros_all hall _))
        have wl : IntKind.i64.wrap l' = l' := Q5 (by omega) (by omega)
        have wc : IntKind.i64.wrap c' = c' := Q5 (by omega) (by omega)
        refine ⟨.slice (some ⟨w.heap.size, 0, none⟩) l'.toNat c'.toNat, w.alloc (.cells ((Array.range (c'.toNat * z)).map (zc.cells[· % zc.cells.size]!)) el), ?_, ⟨_, V6 _ _ _, by simp, ?_, by simp [AV.lt], hR⟩⟩
        · have t1 : ¬ (2 ^ 48 < (i.bytes : Int) * c') := by
            have : (2 : Int) ^ 48 = 281474976710656 := by decide
            rw [this, hbi, Int.mul_comm]; omega
          simp only [Instr.makeSlice, Sem.run_bind, run_underlying ht, Result.andThen_ok, asInt, asIntOf, Sem.run_pure, typeInfo, run_program, hi, wl, wc]
          have t2 : ¬ (c' < 0) := by omega
          have t3 : ¬ (l' < 0) := by omega
          have t4 : ¬ (l' > c') := by omega
          simp only [t1, t2, t3, t4, gt_iff_lt, decide_false, Bool.or_self, Bool.false_eq_true, if_false, Sem.run_bind, Sem.run_pure, Result.andThen_ok, run_askRoom, Zc hs, zeroValue, typeInfo, run_program, hi, hzc]
          by_cases hc0 : c'.toNat * z = 0
          · simp [hc0, newRow, Array.range_zero']
          · simp [hc0, newRow, Zc hs, hi, hzc, zeroValue, typeInfo]
        · simp [VR, upd, Addr.add_plain]
      · cases e
    · cases e
  · cases e
end Go.AL
namespace Go.AL
open Go.RowKit
def arow (H : Hp) (z : Nat) : AV → Option (List AV × Nat)
  | .nilS => some ([], 0)
  | .sl h o m _ =>
    match Qt H h with
    | some b => if b.kind = .dead then none else if o + m * z ≤ b.cells.length then some ((b.cells.drop o).take (m * z), m) else none
    | none => none
  | .sg h o m _ =>
    match Qt H h with
    | some b => if b.kind = .dead then none else if o + m * z ≤ b.cells.length then some ((b.cells.drop o).take (m * z), m) else none
    | none => none
  | _ => none
theorem Rel.arow {w0 : World} {B : Nat} {β : Nat → Bx} {H : Hp} {w : World} (R : Rel w0 B β H w) {x : AV} {u : Value} {z m : Nat} {news : List AV} (e : arow H z x = some (news, m)) (hx : VR β x u) :
    ∃ A c l, u = .slice A m c ∧ m ≤ c + m ∧ VRs β news l ∧ l.length = m * z ∧ (0 < m → ∃ a, A = some a ∧ ∀ (j : Nat) v, l[j]? = some v → w.cell? (a.add j) = some v) ∧ (∀ v ∈ l, v.oneCell' = true) ∧ AV.lts H.length news ∧ (A = none → c = 0) := by
  unfold AL.arow at e
  split at e
  · cases e
    simp only [VR] at hx
    exact ⟨none, 0, [], hx, by omega, rfl, by simp, by omega, by simp, trivial, fun _ => rfl⟩
  · rename_i h o m' c
    simp only [Qt] at e
    split at e
    · rename_i b hb
      split at e
      · cases e
      · rename_i hd
        split at e
        · rename_i hle
          cases e
          obtain ⟨l, h1, h2, h3, h4⟩ := R.row hb hd o (m * z) hle
          simp only [VR] at hx
          refine ⟨_, c, l, hx, by omega, h1, h2, fun _ => ⟨_, rfl, fun j v hv => by rw [Addr.add_add]; exact h3 j v hv⟩, h4, ?_, by simp⟩
          rw [AV.lts_iff]
          exact fun c hc => R.lts h b hb hd c (List.mem_of_mem_drop (List.mem_of_mem_take hc))
        · cases e
    · cases e
  · rename_i h o m' zz
    simp only [Qt] at e
    split at e
    · rename_i b hb
      split at e
      · cases e
      · rename_i hd
        split at e
        · rename_i hle
          cases e
          obtain ⟨l, h1, h2, h3, h4⟩ := R.row hb hd o (m * z) hle
          simp only [VR] at hx
          obtain ⟨c, o', rfl, hnc, hco⟩ := hx
          refine ⟨_, c, l, rfl, by omega, h1, h2, fun hm => ⟨_, rfl, fun j v hv => ?_⟩, h4, ?_, by simp⟩
          · have ho : o' = o := by rcases hco with h0 | h0 <;> omega
            subst ho
            rw [Addr.add_add]; exact h3 j v hv
          · rw [AV.lts_iff]
            exact fun c hc => R.lts h b hb hd c (List.mem_of_mem_drop (List.mem_of_mem_take hc))
        · cases e
    · cases e
  · cases e
def J00 (H : Hp) (cells : List AV) (n z : Nat) (e : TypeId) : AV × Hp := (.sg H.length 0 n z, H ++ [⟨cells, .own, e⟩])
def Y2 (P : Program) (H : Hp) (t : TypeId) (s x : AV) : Option (AV × Hp) :=
  match P.underlying t with
  | some (.slice e) =>
    match Xg P e, Z5 P e, Xn P e with
    | some z, some zv, some by_ =>
      if zv.cells.length = z ∧ 0 < z then
        match arow H z x with
        | none => none
        | some (news, m) =>
          if news.all AV.one then
          match s with
          | .nilS =>
            if m = 0 then some (.nilS, H)
            else if m * by_ ≤ 140737488355328 ∧ m ≤ 140737488355328 then some (J00 H news m z e) else none
          | .sl h o n c =>
            if m = 0 ∧ n ≤ c then some (.sl h o n c, H)
            else if n + m ≤ c then
              match Qt H h with
              | some b => if b.kind = .own ∧ b.ety = e ∧ o = 0 ∧ n * z + m * z ≤ b.cells.length then some (.sl h 0 (n + m) c, H.set h ⟨Jr b.cells (n * z) news, .own, e⟩) else none
              | none => none
            else if n ≤ c ∧ (n + m) * by_ ≤ 140737488355328 ∧ n + m ≤ 140737488355328 then
              match arow H z (.sl h o n c) with
              | some (olds, _) => if olds.all AV.one then some (J00 H (olds ++ news) (n + m) z e) else none
              | none => none
            else none
          | .sg h o n z' =>
            if m = 0 then some (.sg h o n z', H)
            else if z' = z ∧ (n + m) * by_ ≤ 140737488355328 ∧ n + m ≤ 140737488355328 then
              match Qt H h with
              | some b =>
                if b.kind = .own ∧ b.ety = e ∧ o = 0 ∧ n * z ≤ b.cells.length then
                  if n * z + m * z ≤ b.cells.length then some (.sg h 0 (n + m) z, H.set h ⟨Jr b.cells (n * z) news, .own, e⟩)
                  else if (b.cells.take (n * z)).all AV.one then some (.sg H.length 0 (n + m) z, H.set h ⟨[], .dead, e⟩ ++ [⟨b.cells.take (n * z) ++ news, .own, e⟩])
                  else none
                else none
              | none => none
            else none
          | _ => none
          else none
      else none
    | _, _, _ => none
  | _ => none
section
variable {P : Program}
theorem Kw (t u ty e : TypeId) (i : TypeInfo) (ht : P.underlying t = some (.slice e)) (hu : ∃ e', P.underlying u = some (.slice e')) (hi : P.info? e = some i) (base : Option Addr) (n c : Nat) (hnc : n ≤ c) (A : Option Addr) (c' : Nat) (w : World) :
    (Builtin.append_ #[t, u] ty #[.slice base n c, .slice A 0 c']).run P w = .ok (.slice base n c) w := by
  obtain ⟨e', hu⟩ := hu
  have hl : ∀ a : Addr, (loadCells a 0).run P w = .ok #[] w := fun a => by simpa using run_loadCells_list (P := P) w a [] (by simp)
  cases base <;> cases A <;> simp [Builtin.append_, run_underlying ht, run_underlying hu, sizeOf, typeInfo, hi, Builtin.lenOf, Builtin.firstCells, hnc, storeCells, hl]
theorem run_append_make (w : World) (t u ty e : TypeId) (i : TypeInfo) (z : Value) {k : IntKind} (ht : P.underlying t = some (.slice e)) (hu : P.underlying u = some (.int k)) (hi : P.info? e = some i) (hz : i.zero = some z) (kx : IntKind) (n : Nat)
    (h0 : 0 < n) (hs : 0 < i.size) (hn : n ≤ 140737488355328) (hb : n * i.bytes ≤ 140737488355328) :
    (Builtin.append_ #[t, u] ty #[.slice none 0 0, .int kx n]).run P w =
      .ok (.slice (some ⟨w.heap.size, 0, none⟩) n (grownCap w n 0 e)) (w.drew.alloc (.cells (Builtin.zeroCells z.cells n ++ Builtin.zeroCells z.cells (grownCap w n 0 e - n)) e)) := by
  have hw : IntKind.i64.wrap (n : Int) = n := Q5 (by omega) (by omega)
  have hneg : ¬ ((n : Int) < 0) := by omega
  have hbig : ¬ (281474976710656 < (n : Int) * (i.bytes : Int)) := by
    rw [← Int.natCast_mul]; omega
  have hn0 : n ≠ 0 := by omega
  have hs0 : i.size ≠ 0 := by omega
  have h63 : ¬ (9223372036854775807 < (n : Int)) := by omega
  have h48 : ¬ (281474976710656 < Builtin.nextslicecap n 0 * i.bytes) := by rw [nextslicecap_zero h0]; omega
  simp [Builtin.append_, run_underlying ht, run_underlying hu, sizeOf, typeInfo, zeroValue, hi, hz, asInt, asIntOf, hw, hneg, hbig, hn0, hs0, h63, h48, Question.forced, run_firstCells_none, newRow, grownCap]
  intro h
  exact absurd h (by rw [Nat.mul_eq_zero]; omega)
theorem J0p (w : World) (t u ty e : TypeId) (i : TypeInfo) {k : IntKind} (ht : P.underlying t = some (.slice e)) (hu : P.underlying u = some (.int k)) (hi : P.info? e = some i) (kx : IntKind) :
    (Builtin.append_ #[t, u] ty #[.slice none 0 0, .int kx 0]).run P w = .ok (.slice none 0 0) w := by
  have hw : IntKind.i64.wrap 0 = 0 := Q5 (by omega) (by omega)
  simp [Builtin.append_, run_underlying ht, run_underlying hu, sizeOf, typeInfo, hi, asInt, asIntOf, hw]
theorem Rel.grew {w0 : World} {B : Nat} {β : Nat → Bx} {H : Hp} {w : World} (R : Rel w0 B β H w) (cells : List AV) (l : List Value) (rest : Array Value) (e : TypeId) (n cap z : Nat)
    (hv : VRs β cells l) (h1 : cells.all AV.one = true) (hl : AV.lts H.length cells) (hn : n ≤ cap) (hsz : l.length + rest.size = cap * z) :
    Made w0 B β H (.sg H.length 0 n z) (H ++ [⟨cells, .own, e⟩]) (.slice (some ⟨w.heap.size, 0, none⟩) n cap) (w.drew.alloc (.cells (l.toArray ++ rest) e)) := by
  have R' : Rel w0 B β H w.drew := R.kept (Below.refl _ _).drew
  have hc : ∀ (i : Nat) c, cells[i]? = some c → ∃ v, (l.toArray ++ rest)[i]? = some v ∧ VR β c v ∧ v.oneCell' = true := by
    intro i c hc
    obtain ⟨v, h2, h3⟩ := Ko hv hc
    refine ⟨v, ?_, h3, J02 hv h1 v (List.mem_of_getElem? h2)⟩
    have hi : i < l.length := (List.getElem?_eq_some_iff.1 h2).1
    rw [Array.getElem?_append_left (by simpa using hi)]
    simpa using h2
  have hR := R'.alloc cells (l.toArray ++ rest) e hl hc
  refine ⟨_, V6 _ _ _, by simp, ?_, by simp [AV.lt], hR⟩
  simp only [VR]
  refine ⟨cap, 0, ?_, hn, .inr ⟨rfl, ?_⟩⟩
  · simp [upd, Addr.add_plain]
  · simp [upd]; omega
theorem run_aappend {w0 : World} {B : Nat} {β : Nat → Bx} {H H' : Hp} {w : World} (R : Rel w0 B β H w) {t ty : TypeId} {s x v : AV} {us ux : Value}
    (e : Y2 P H t s x = some (v, H')) (hs : VR β s us) (hx : VR β x ux) (hsl : s.lt H.length) :
    ∃ r w', (Builtin.append_ #[t, t] ty #[us, ux]).run P w = .ok r w' ∧ Made w0 B β H v H' r w' := by
  unfold Y2 at e
  split at e
  case h_2 => cases e
  rename_i el ht
  split at e
  case h_2 => cases e
  rename_i z zv by_ hz hzv hby
  split at e
  case isFalse => cases e
  rename_i hc
  obtain ⟨hzl, hzp⟩ := hc
  obtain ⟨i, zc, hi, hzc, hzr, rfl⟩ := Gb (β := β) hzv
  have hbi : i.bytes = by_ := by
    unfold Xn at hby
    rw [hi] at hby
    simpa using hby
  have hsi : i.size = z := by
    unfold Xg at hz
    rw [hi] at hz
    simpa using hz
  have hzsz : zc.cells.size = z := by
    have := Zk (Ui β zc)
    rw [Array.length_toList] at this
    omega
  split at e
  case h_1 => cases e
  rename_i news m hrow
  split at e
  case isFalse => cases e
  rename_i hall
  obtain ⟨A, cx, l, rfl, _, hvn, hln, hcell, hones, hnl, hA⟩ := R.arow hrow hx
  have same : ∀ (v0 : AV) (u0 : Value), VR β v0 u0 → v0.lt H.length → Made w0 B β H v0 H u0 w := fun v0 u0 h1 h2 => ⟨β, Agree.refl _ _, Nat.le_refl _, h1, h2, R⟩
  have zsz : ∀ k, (Builtin.zeroCells zc.cells k).size = k * z := fun k => by rw [size_zeroCells, hzsz]
  split at e
  · -- nil
    simp only [VR] at hs
    subst hs
    split at e
    · rename_i hm
      subst hm
      cases e
      exact ⟨_, _, Kw t t ty el i ht ⟨_, ht⟩ hi none 0 0 (Nat.le_refl _) A cx w, same _ _ rfl trivial⟩
    · rename_i hm
      split at e
      · rename_i hb
        cases e
        obtain ⟨a, rfl, hac⟩ := hcell (by omega)
        have hr := run_append_nil (P := P) w t ty el i zc ht hi hzc a m cx l (by rw [hsi]; exact hln) hac (by omega) (by omega) (by rw [hbi]; omega)
        refine ⟨_, _, hr, ?_⟩
        have hge := grownCap_ge w m 0 el
        exact R.grew news l _ el m (grownCap w m 0 el) z hvn hall hnl hge (by rw [zsz, hln, ← Nat.add_mul]; congr 1; omega)
      · cases e
  · -- a capacity that is known
    rename_i h o n c
    simp only [VR] at hs
    split at e
    · rename_i hm
      obtain ⟨rfl, hnc⟩ := hm
      cases e
      subst hs
      exact ⟨_, _, Kw t t ty el i ht ⟨_, ht⟩ hi _ n c hnc A cx w, same _ _ rfl hsl⟩
    · rename_i hm
      split at e
      · rename_i hroom
        simp only [Qt] at e
        split at e
        case h_2 => cases e
        rename_i b hb
        split at e
        case isFalse => cases e
        rename_i hcond
        obtain ⟨hown, hety, rfl, hfit⟩ := hcond
        cases e
        have hm0 : 0 < m := by
          rcases Nat.eq_zero_or_pos m with h0 | h0
          · exact absurd ⟨h0, by omega⟩ hm
          · exact h0
        obtain ⟨a, rfl, hac⟩ := hcell hm0
        obtain ⟨g, cur, hga, hBg, hw, hcl, htot⟩ := R.own h b hb hown
        obtain ⟨w1, hst, hR⟩ := R.store (P := P) hb hown (n * z) news l hvn hall hnl (by rw [← Zk hvn, hln]; exact hfit)
        rw [hety] at hR hw
        subst hs
        rw [hga] at hst ⊢
        have hgg : (⟨g, 0, none⟩ : Addr).add 0 = ⟨g, 0, none⟩ := Addr.add_plain g 0
        have hr := run_append_room (P := P) w t ty el i ht hi g n c cur hw a m cx l (by rw [hsi]; exact hln) hac hones hroom (by rw [hsi, hln]; omega)
        rw [hgg]
        refine ⟨_, _, hr, ⟨β, Agree.refl _ _, by simp, ?_, by simpa [AV.lt] using hsl, ?_⟩⟩
        · simp only [VR, hga, hgg]
        · have hst2 := run_storeCells_at P g (n * z) el l 0 cur w hw (by omega) hones
          rw [Addr.add_plain, hst2] at hst
          simp only [Nat.add_zero, hsi, Result.ok.injEq, true_and] at hst ⊢
          rw [hst]
          exact hR
      · rename_i hroom
        split at e
        case isFalse => cases e
        rename_i hb
        obtain ⟨hnc, hb1, hb2⟩ := hb
        split at e
        case h_2 => cases e
        rename_i olds n' hold
        split at e
        case isFalse => cases e
        rename_i hall'
        cases e
        have hs' : VR β (.sl h o n c) us := hs
        obtain ⟨A', c', l', hus, _, hvo, hlo, hcello, honeso, hol, _⟩ := R.arow hold hs'
        subst hs
        injection hus with h1 h2 h3
        subst h1; subst h2; subst h3
        have hm0 : 0 < m := by omega
        obtain ⟨a, rfl, hac⟩ := hcell hm0
        have holds : ∀ (j : Nat) v, l'[j]? = some v → w.cell? (((β h).addr.add o).add j) = some v := by
          intro j v hv
          rcases Nat.eq_zero_or_pos n with h0 | h0
          · subst h0
            have : l' = [] := List.eq_nil_of_length_eq_zero (by simpa using hlo)
            subst this; cases hv
          · obtain ⟨a', ha', hc'⟩ := hcello h0
            injection ha' with ha'
            rw [ha']
            exact hc' j v hv
        have hr := run_append_grow (P := P) w t ty el i zc ht hi hzc ((β h).addr.add o) n c l' (by rw [hsi]; exact hlo) holds a m cx l (by rw [hsi]; exact hln) hac (by omega) (by omega) (by rw [hbi]; exact growslice_fits (by omega) hb1)
        refine ⟨_, _, hr, ?_⟩
        have hge := grownCap_ge w (n + m) c el
        have hg := R.grew (olds ++ news) (l' ++ l) (Builtin.zeroCells zc.cells (grownCap w (n + m) c el - (n + m))) el (n + m) (grownCap w (n + m) c el) z (Wf hvo hvn)
          (by rw [List.all_append, hall, hall']; rfl) (AV.lts_iff.2 fun c hc => (List.mem_append.1 hc).elim ((AV.lts_iff.1 hol) c) ((AV.lts_iff.1 hnl) c)) hge
          (by rw [zsz, List.length_append, hlo, hln, ← Nat.add_mul, ← Nat.add_mul]; congr 1; omega)
        simpa [J00] using hg
  · -- a capacity that is not known
    rename_i h o n z'
    have hs0 := hs
    simp only [VR] at hs
    obtain ⟨c, o', rfl, hnc, hco⟩ := hs
    split at e
    · rename_i hm
      subst hm
      cases e
      exact ⟨_, _, Kw t t ty el i ht ⟨_, ht⟩ hi _ n c hnc A cx w, same _ _ hs0 hsl⟩
    · rename_i hm
      split at e
      case isFalse => cases e
      rename_i hb
      obtain ⟨rfl, hb1, hb2⟩ := hb
      simp only [Qt] at e
      split at e
      case h_2 => cases e
      rename_i b hb
      split at e
      case isFalse => cases e
      rename_i hcond
      obtain ⟨hown, hety, rfl, hnz⟩ := hcond
      obtain ⟨g, cur, hga, hBg, hw, hcl, htot⟩ := R.own h b hb hown
      obtain ⟨a, rfl, hac⟩ := hcell (by omega)
      have hgg : (⟨g, 0, none⟩ : Addr).add 0 = ⟨g, 0, none⟩ := Addr.add_plain g 0
      rw [hety] at hw
      split at e
      · -- in place: the cells are known
        rename_i hfit
        cases e
        have hct : o' = 0 ∧ 0 + c * z' = (β h).tot := by
          rcases hco with ⟨h0, h1⟩ | h1
          · have hz0 : 0 < m * z' := Nat.mul_pos (by omega) hzp
            omega
          · exact h1
        obtain ⟨rfl, hct⟩ := hct
        have hroom : n + m ≤ c := by
          have : (n + m) * z' ≤ c * z' := by rw [Nat.add_mul]; omega
          exact Nat.le_of_mul_le_mul_right this hzp
        obtain ⟨w1, hst, hR⟩ := R.store (P := P) hb hown (n * z') news l hvn hall hnl (by rw [← Zk hvn, hln]; exact hfit)
        rw [hety] at hR
        rw [hga] at hst ⊢
        have hr := run_append_room (P := P) w t ty el i ht hi g n c cur hw a m cx l (by rw [hsi]; exact hln) hac hones hroom (by rw [hsi, hln]; omega)
        rw [hgg]
        refine ⟨_, _, hr, ⟨β, Agree.refl _ _, by simp, ?_, by simpa [AV.lt] using hsl, ?_⟩⟩
        · simp only [VR, hga]
          exact ⟨c, 0, by rw [hgg], hroom, .inr ⟨rfl, hct⟩⟩
        · have hst2 := run_storeCells_at P g (n * z') el l 0 cur w hw (by omega) hones
          rw [Addr.add_plain, hst2] at hst
          simp only [Nat.add_zero, hsi, Result.ok.injEq, true_and] at hst ⊢
          rw [hst]
          exact hR
      · rename_i hnf
        split at e
        case isFalse => cases e
        rename_i hall'
        cases e
        by_cases hroom : n + m ≤ c
        · -- in place: the cells behind were not known
          have hct : o' = 0 ∧ 0 + c * z' = (β h).tot := by
            rcases hco with ⟨h0, h1⟩ | h1
            · omega
            · exact h1
          obtain ⟨rfl, hct⟩ := hct
          have hcurfit : n * z' + l.length ≤ cur.size := by
            rw [hln, htot, ← hct, Nat.zero_add, ← Nat.add_mul]
            exact Nat.mul_le_mul_right _ hroom
          have hr := run_append_room (P := P) w t ty el i ht hi g n c cur hw a m cx l (by rw [hsi]; exact hln) hac hones hroom (by rw [hsi]; exact hcurfit)
          rw [hga, hgg]
          refine ⟨_, _, hr, ?_⟩
          have R1 := R.rename hb hown [] el
          have ag := V6 β H.length (β h)
          have hlen1 : (H.set h (⟨[], .dead, el⟩ : Blk)).length = H.length := by simp
          have hb1' : (H.set h (⟨[], .dead, el⟩ : Blk) ++ [b])[H.length]? = some b := by
            rw [List.getElem?_append_right (by simp)]; simp
          have atn : upd β H.length (β h) H.length = β h := by simp [upd]
          have hbl := R.lts h b hb (by rw [hown]; decide)
          have R2 := R1.setRow hb1' hown (g := g) (cur := cur) (by rw [atn]; exact hga) (by rw [hety]; exact hw) (by rw [atn]; exact htot) (b.cells.take (n * z') ++ news)
            (cur.toList.take (n * i.size) ++ l ++ cur.toList.drop (n * i.size + l.length)).toArray (by rw [hsi]; simp; omega) (by have := Zk hvn; rw [hsi]; simp; omega)
            (by
              rw [AV.lts_iff]
              intro c hc
              have : (H.set h (⟨[], .dead, el⟩ : Blk) ++ [b]).length = H.length + 1 := by simp
              rw [this]
              rcases List.mem_append.1 hc with hc | hc
              · exact AV.lt_mono (by omega) c (hbl c (List.mem_of_mem_take hc))
              · exact AV.lt_mono (by omega) c ((AV.lts_iff.1 hnl) c hc))
            (by
              intro k c hc
              rw [hsi, List.getElem?_toArray]
              by_cases hk : k < n * z'
              · rw [List.getElem?_append_left (by simp; omega), List.getElem?_take, if_pos hk] at hc
                obtain ⟨v, a1, a2, a3⟩ := R.cells h b hb (by rw [hown]; decide) k c hc
                refine ⟨v, ?_, Yv ag c v (hbl c (List.mem_of_getElem? hc)) a2, a3⟩
                rw [List.append_assoc, List.getElem?_append_left (by simp; omega), List.getElem?_take, if_pos hk, Array.getElem?_toList]
                rw [hga, Addr.add_plain] at a1
                simpa [World.cell?, hw] using a1
              · have hmin : min (n * z') b.cells.length = n * z' := by omega
                rw [List.getElem?_append_right (by simp; omega)] at hc
                simp only [List.length_take, hmin] at hc
                obtain ⟨v, a1, a2⟩ := Ko hvn hc
                have hkl : k - n * z' < l.length := (List.getElem?_eq_some_iff.1 a1).1
                refine ⟨v, ?_, Yv ag c v ((AV.lts_iff.1 hnl) c (List.mem_of_getElem? hc)) a2, hones v (List.mem_of_getElem? a1)⟩
                have hmin' : min (n * z') cur.size = n * z' := by omega
                rw [List.getElem?_append_left (by simp; omega), List.getElem?_append_right (by simp; omega)]
                simpa [hmin'] using a1)
          have hset : (H.set h (⟨[], .dead, el⟩ : Blk) ++ [b]).set H.length ⟨b.cells.take (n * z') ++ news, .own, b.ety⟩ = H.set h ⟨[], .dead, el⟩ ++ [⟨b.cells.take (n * z') ++ news, .own, el⟩] := by
            rw [List.set_append_right _ _ (by simp), hety]; simp
          rw [hset] at R2
          refine ⟨_, ag, by simp, ?_, by simp [AV.lt], R2⟩
          simp only [VR, atn, hga]
          exact ⟨c, 0, by rw [hgg], hroom, .inr ⟨rfl, hct⟩⟩
        · -- a new array
          have hrow' : AL.arow H z' (.sg h 0 n z') = some (b.cells.take (n * z'), n) := by
            simp only [AL.arow, Qt, hb]
            rw [if_neg (by rw [hown]; decide), if_pos (by omega)]
            simp
          obtain ⟨A', c', l', hus, _, hvo, hlo, hcello, honeso, hol, _⟩ := R.arow hrow' hs0
          injection hus with h1 h2 h3
          subst h1; subst h3
          have holds : ∀ (j : Nat) v, l'[j]? = some v → w.cell? (((β h).addr.add o').add j) = some v := by
            intro j v hv
            rcases Nat.eq_zero_or_pos n with h0 | h0
            · subst h0
              have : l' = [] := List.eq_nil_of_length_eq_zero (by simpa using hlo)
              subst this; cases hv
            · obtain ⟨a', ha', hc'⟩ := hcello h0
              injection ha' with ha'
              rw [ha']
              exact hc' j v hv
          have hr := run_append_grow (P := P) w t ty el i zc ht hi hzc ((β h).addr.add o') n c l' (by rw [hsi]; exact hlo) holds a m cx l (by rw [hsi]; exact hln) hac (by omega) (by omega) (by rw [hbi]; exact growslice_fits (by omega) hb1)
          refine ⟨_, _, hr, ?_⟩
          have hge := grownCap_ge w (n + m) c el
          have Rk := R.kill h [] el
          have hkl : (H.set h (⟨[], .dead, el⟩ : Blk)).length = H.length := by simp
          have hg := Rk.grew (b.cells.take (n * z') ++ news) (l' ++ l) (Builtin.zeroCells zc.cells (grownCap w (n + m) c el - (n + m))) el (n + m) (grownCap w (n + m) c el) z' (Wf hvo hvn)
            (by rw [List.all_append, hall, hall']; rfl) (by rw [hkl]; exact AV.lts_iff.2 fun c hc => (List.mem_append.1 hc).elim ((AV.lts_iff.1 hol) c) ((AV.lts_iff.1 hnl) c)) hge
            (by rw [zsz, List.length_append, hlo, hln, ← Nat.add_mul, ← Nat.add_mul]; congr 1; omega)
          obtain ⟨β', g1, g2, g3, g4, g5⟩ := hg
          rw [hkl] at *
          refine ⟨β', g1, by simp, g3, g4, ?_⟩
          simpa using g5
  · cases e
theorem Ry (w : World) (t t' ty e : TypeId) (i : TypeInfo) (z : Value) {k : IntKind} (ht : P.underlying t = some (.slice e)) (hu : P.underlying t' = some (.int k)) (hi : P.info? e = some i) (hz : i.zero = some z)
    (g sLen sCap : Nat) (cur : Array Value) (hg : w.heap[g]? = some (.cells cur e (0, 0))) (kx : IntKind) (m : Nat) (news : List Value) (hnews : news = (Builtin.zeroCells z.cells m).toList) (h0 : 0 < m) (hs : 0 < i.size) (hn : sLen + m ≤ 140737488355328) (hb : (sLen + m) * i.bytes ≤ 140737488355328)
    (hl : news.length = m * i.size) (h1 : ∀ u ∈ news, u.oneCell' = true)
    (hroom : sLen + m ≤ sCap) (hfit : sLen * i.size + news.length ≤ cur.size) :
    (Builtin.append_ #[t, t'] ty #[.slice (some ⟨g, 0, none⟩) sLen sCap, .int kx m]).run P w =
      .ok (.slice (some ⟨g, 0, none⟩) (sLen + m) sCap) (w.setRow g (cur.toList.take (sLen * i.size) ++ news ++ cur.toList.drop (sLen * i.size + news.length)).toArray) := by
  have hw : IntKind.i64.wrap (m : Int) = m := Q5 (by omega) (by omega)
  have hneg : ¬ ((m : Int) < 0) := by omega
  have hmb : m * i.bytes ≤ (sLen + m) * i.bytes := Nat.mul_le_mul_right _ (by omega)
  have hbig : ¬ (281474976710656 < (m : Int) * (i.bytes : Int)) := by
    rw [← Int.natCast_mul]; omega
  have hns : ¬ (m * i.size = 0) := Nat.mul_ne_zero (by omega) (by omega)
  have hst := run_storeCells_at P g (sLen * i.size) e news 0 cur w hg (by simpa using hfit) h1
  simp only [Nat.add_zero] at hst
  subst hnews
  simp [Builtin.append_, run_underlying ht, run_underlying hu, sizeOf, typeInfo, zeroValue, hi, hz, asInt, asIntOf, hw, hneg, hbig, hns, hroom, Addr.add_lit, hst]
theorem run_aappend2_sg {w0 : World} {B : Nat} {β : Nat → Bx} {H : Hp} {w : World} (R : Rel w0 B β H w) {t t' ty el : TypeId} {k kx : IntKind} {h n m z' by_ : Nat} {us : Value} {zc : Value} {i : TypeInfo} {b : Blk}
    (ht : P.underlying t = some (.slice el)) (hu : P.underlying t' = some (.int k)) (hi : P.info? el = some i) (hzc : i.zero = some zc) (hsi : i.size = z') (hbi : i.bytes = by_) (hzp : 0 < z') (hall0 : (ofValue zc).cells.all AV.one = true) (hzl : (ofValue zc).cells.length = z')
    (hs : VR β (.sg h 0 n z') us) (hm0 : 0 < m) (hb1 : (n + m) * by_ ≤ 140737488355328) (hb2 : n + m ≤ 140737488355328) (hb : H[h]? = some b) (hown : b.kind = .own) (hety : b.ety = el) (hnz : b.cells.length = n * z') (hall' : b.cells.all AV.one = true) :
    ∃ r w', (Builtin.append_ #[t, t'] ty #[us, .int kx m]).run P w = .ok r w' ∧ Made w0 B β H (.sg H.length 0 (n + m) z') (H.set h ⟨[], .dead, el⟩ ++ [⟨b.cells.take (n * z') ++ Js (ofValue zc).cells m, .own, el⟩]) r w' := by
  have hs0 := hs
  simp only [VR] at hs
  obtain ⟨c, o', rfl, hnc, hco⟩ := hs
  obtain ⟨g, cur, hga, hBg, hw, hcl, htot⟩ := R.own h b hb hown
  have hgg : (⟨g, 0, none⟩ : Addr).add 0 = ⟨g, 0, none⟩ := Addr.add_plain g 0
  rw [hety] at hw
  have hzv' := Ui β zc
  have hzsz : zc.cells.size = z' := by
    have := Zk hzv'
    rw [Array.length_toList] at this
    omega
  have zsz : ∀ k, (Builtin.zeroCells zc.cells k).size = k * z' := fun k => by rw [size_zeroCells, hzsz]
  have hcz := Gv zc.cells m
  have hlz : (Builtin.zeroCells zc.cells m).toList = (List.replicate m zc.cells.toList).flatten := by rw [← hcz]; rfl
  obtain ⟨l, hldef⟩ : ∃ l, l = (Builtin.zeroCells zc.cells m).toList := ⟨_, rfl⟩
  obtain ⟨news, hnews⟩ : ∃ news, news = Js (ofValue zc).cells m := ⟨_, rfl⟩
  have hvn : VRs β news l := by rw [hnews, hldef, hlz]; exact Gk hzv' _
  have hln : l.length = m * z' := by rw [hldef, Array.length_toList, zsz]
  have hall : news.all AV.one = true := by rw [hnews]; exact azeros_all hall0 _
  have hones : ∀ v ∈ l, v.oneCell' = true := J02 hvn hall
  have hnl : AV.lts H.length news := by rw [hnews]; exact Rj (AV.cells_lts (We _ _)) _
  have hall' : (b.cells.take (n * z')).all AV.one = true := by
    rw [List.all_eq_true] at hall' ⊢
    exact fun c hc => hall' c (List.mem_of_mem_take hc)
  have hnz : n * z' ≤ b.cells.length := by omega
  rw [← hnews]
  by_cases hroom : n + m ≤ c
  · -- in place: the cells behind were not known
    have hct : o' = 0 ∧ 0 + c * z' = (β h).tot := by
      rcases hco with ⟨h0, h1⟩ | h1
      · omega
      · exact h1
    obtain ⟨rfl, hct⟩ := hct
    have hcurfit : n * z' + l.length ≤ cur.size := by
      rw [hln, htot, ← hct, Nat.zero_add, ← Nat.add_mul]
      exact Nat.mul_le_mul_right _ hroom
    have hr := Ry (P := P) w t t' ty el i zc ht hu hi hzc g n c cur hw kx m l hldef hm0 (by omega) hb2 (by rw [hbi]; exact hb1) (by rw [hsi]; exact hln) hones hroom (by rw [hsi]; exact hcurfit)
    rw [hga, hgg]
    refine ⟨_, _, hr, ?_⟩
    have R1 := R.rename hb hown [] el
    have ag := V6 β H.length (β h)
    have hlen1 : (H.set h (⟨[], .dead, el⟩ : Blk)).length = H.length := by simp
    have hb1' : (H.set h (⟨[], .dead, el⟩ : Blk) ++ [b])[H.length]? = some b := by
      rw [List.getElem?_append_right (by simp)]; simp
    have atn : upd β H.length (β h) H.length = β h := by simp [upd]
    have hbl := R.lts h b hb (by rw [hown]; decide)
    have R2 := R1.setRow hb1' hown (g := g) (cur := cur) (by rw [atn]; exact hga) (by rw [hety]; exact hw) (by rw [atn]; exact htot) (b.cells.take (n * z') ++ news)
      (cur.toList.take (n * i.size) ++ l ++ cur.toList.drop (n * i.size + l.length)).toArray (by rw [hsi]; simp; omega) (by have := Zk hvn; rw [hsi]; simp; omega)
      (by
        rw [AV.lts_iff]
        intro c hc
        have : (H.set h (⟨[], .dead, el⟩ : Blk) ++ [b]).length = H.length + 1 := by simp
        rw [this]
        rcases List.mem_append.1 hc with hc | hc
        · exact AV.lt_mono (by omega) c (hbl c (List.mem_of_mem_take hc))
        · exact AV.lt_mono (by omega) c ((AV.lts_iff.1 hnl) c hc))
      (by
        intro k c hc
        rw [hsi, List.getElem?_toArray]
        by_cases hk : k < n * z'
        · rw [List.getElem?_append_left (by simp; omega), List.getElem?_take, if_pos hk] at hc
          obtain ⟨v, a1, a2, a3⟩ := R.cells h b hb (by rw [hown]; decide) k c hc
          refine ⟨v, ?_, Yv ag c v (hbl c (List.mem_of_getElem? hc)) a2, a3⟩
          rw [List.append_assoc, List.getElem?_append_left (by simp; omega), List.getElem?_take, if_pos hk, Array.getElem?_toList]
          rw [hga, Addr.add_plain] at a1
          simpa [World.cell?, hw] using a1
        · have hmin : min (n * z') b.cells.length = n * z' := by omega
          rw [List.getElem?_append_right (by simp; omega)] at hc
          simp only [List.length_take, hmin] at hc
          obtain ⟨v, a1, a2⟩ := Ko hvn hc
          have hkl : k - n * z' < l.length := (List.getElem?_eq_some_iff.1 a1).1
          refine ⟨v, ?_, Yv ag c v ((AV.lts_iff.1 hnl) c (List.mem_of_getElem? hc)) a2, hones v (List.mem_of_getElem? a1)⟩
          have hmin' : min (n * z') cur.size = n * z' := by omega
          rw [List.getElem?_append_left (by simp; omega), List.getElem?_append_right (by simp; omega)]
          simpa [hmin'] using a1)
    have hset : (H.set h (⟨[], .dead, el⟩ : Blk) ++ [b]).set H.length ⟨b.cells.take (n * z') ++ news, .own, b.ety⟩ = H.set h ⟨[], .dead, el⟩ ++ [⟨b.cells.take (n * z') ++ news, .own, el⟩] := by
      rw [List.set_append_right _ _ (by simp), hety]; simp
    rw [hset] at R2
    refine ⟨_, ag, by simp, ?_, by simp [AV.lt], R2⟩
    simp only [VR, atn, hga]
    exact ⟨c, 0, by rw [hgg], hroom, .inr ⟨rfl, hct⟩⟩
  · -- a new array
    have hrow' : AL.arow H z' (.sg h 0 n z') = some (b.cells.take (n * z'), n) := by
      simp only [AL.arow, Qt, hb]
      rw [if_neg (by rw [hown]; decide), if_pos (by omega)]
      simp
    obtain ⟨A', c', l', hus, _, hvo, hlo, hcello, honeso, hol, _⟩ := R.arow hrow' hs0
    injection hus with h1 h2 h3
    subst h1; subst h3
    have holds : ∀ (j : Nat) v, l'[j]? = some v → w.cell? (((β h).addr.add o').add j) = some v := by
      intro j v hv
      rcases Nat.eq_zero_or_pos n with h0 | h0
      · subst h0
        have : l' = [] := List.eq_nil_of_length_eq_zero (by simpa using hlo)
        subst this; cases hv
      · obtain ⟨a', ha', hc'⟩ := hcello h0
        injection ha' with ha'
        rw [ha']
        exact hc' j v hv
    have hold : (Builtin.firstCells i.size n (.slice (some ((β h).addr.add o')) n c)).run P w.drew = .ok l'.toArray w.drew :=
      run_firstCells_some (P := P) w.drew i.size n ((β h).addr.add o') n c l' (by rw [hsi]; exact hlo) (fun j u hu => by rw [World.cell?_drew]; exact holds j u hu)
    have hr := Lib.run_append_grow_zeros (P := P) w t t' ty el i zc kx k ht hu hi hzc (some ((β h).addr.add o')) n c l' hold m hm0 (by omega) (by omega) (by omega) (by rw [hbi]; have : m * by_ ≤ (n + m) * by_ := Nat.mul_le_mul_right _ (by omega); omega) (by rw [hbi]; exact growslice_fits (by omega) hb1)
    refine ⟨_, _, hr, ?_⟩
    have hge := grownCap_ge w (n + m) c el
    have Rk := R.kill h [] el
    have hkl : (H.set h (⟨[], .dead, el⟩ : Blk)).length = H.length := by simp
    have hg := Rk.grew (b.cells.take (n * z') ++ news) (l' ++ l) (Builtin.zeroCells zc.cells (grownCap w (n + m) c el - (n + m))) el (n + m) (grownCap w (n + m) c el) z' (Wf hvo hvn)
      (by rw [List.all_append, hall, hall']; rfl) (by rw [hkl]; exact AV.lts_iff.2 fun c hc => (List.mem_append.1 hc).elim ((AV.lts_iff.1 hol) c) ((AV.lts_iff.1 hnl) c)) hge
      (by rw [zsz, List.length_append, hlo, hln, ← Nat.add_mul, ← Nat.add_mul]; congr 1; omega)
    obtain ⟨β', g1, g2, g3, g4, g5⟩ := hg
    rw [hkl] at *
    refine ⟨β', g1, by simp, g3, g4, ?_⟩
    have e9 : (l' ++ l).toArray = l'.toArray ++ Builtin.zeroCells zc.cells m := by rw [hldef]; simp
    rw [e9] at g5
    simpa using g5
def aappend2 (P : Program) (H : Hp) (t t' : TypeId) (s x : AV) : Option (AV × Hp) :=
  match P.underlying t, P.underlying t', s, x with
  | some (.slice e), some (.int _), .nilS, .int _ n =>
    match Xg P e, Z5 P e, Xn P e with
    | some z, some zv, some by_ =>
      if zv.cells.length = z ∧ 0 < z ∧ zv.cells.all AV.one = true ∧ 0 ≤ n then
        if n = 0 then some (.nilS, H)
        else if n.toNat * by_ ≤ 140737488355328 ∧ n.toNat ≤ 140737488355328 then some (J00 H (Js zv.cells n.toNat) n.toNat z e) else none
      else none
    | _, _, _ => none
  | some (.slice e), some (.int _), .sg h 0 n z', .int _ m =>
    match Xg P e, Z5 P e, Xn P e, Qt H h with
    | some z, some zv, some by_, some b =>
      if zv.cells.length = z ∧ 0 < z ∧ zv.cells.all AV.one = true ∧ 0 < m ∧ z' = z ∧ (n + m.toNat) * by_ ≤ 140737488355328 ∧ n + m.toNat ≤ 140737488355328 ∧ b.kind = .own ∧ b.ety = e ∧ b.cells.length = n * z ∧ b.cells.all AV.one = true then
        some (.sg H.length 0 (n + m.toNat) z, H.set h ⟨[], .dead, e⟩ ++ [⟨b.cells.take (n * z) ++ Js zv.cells m.toNat, .own, e⟩])
      else none
    | _, _, _, _ => none
  | _, _, _, _ => none
theorem run_aappend2 {w0 : World} {B : Nat} {β : Nat → Bx} {H H' : Hp} {w : World} (R : Rel w0 B β H w) {t t' ty : TypeId} {s x v : AV} {us ux : Value}
    (e : aappend2 P H t t' s x = some (v, H')) (hs : VR β s us) (hx : VR β x ux) :
    ∃ r w', (Builtin.append_ #[t, t'] ty #[us, ux]).run P w = .ok r w' ∧ Made w0 B β H v H' r w' := by
  unfold aappend2 at e
  split at e
  case h_3 => cases e
  case h_2 =>
    rename_i el k h n z' kx m ht hu
    split at e
    case h_2 => cases e
    rename_i z zv by_ b hz hzv hby hb
    split at e
    case isFalse => cases e
    rename_i hc
    obtain ⟨hzl, hzp, hall, hm, rfl, hb1, hb2, hown, hety, hnz, hall'⟩ := hc
    cases e
    obtain ⟨i, zc, hi, hzc, hzr, rfl⟩ := Gb (β := β) hzv
    have hbi : i.bytes = by_ := by
      unfold Xn at hby
      rw [hi] at hby
      simpa using hby
    have hsi : i.size = z' := by
      unfold Xg at hz
      rw [hi] at hz
      simpa using hz
    simp only [VR] at hx
    subst hx
    obtain ⟨m, rfl⟩ := Int.eq_ofNat_of_zero_le (Int.le_of_lt hm)
    simp only [Int.toNat_natCast] at hb1 hb2 ⊢
    exact run_aappend2_sg R ht hu hi hzc hsi hbi hzp hall hzl hs (by omega) hb1 hb2 hb hown hety hnz hall'
  rename_i el k kx n ht hu
  simp only [VR] at hs hx
  subst hs; subst hx
  split at e
  case h_2 => cases e
  rename_i z zv by_ hz hzv hby
  split at e
  case isFalse => cases e
  rename_i hc
  obtain ⟨hzl, hzp, hall, hn⟩ := hc
  obtain ⟨i, zc, hi, hzc, hzr, rfl⟩ := Gb (β := β) hzv
  have hbi : i.bytes = by_ := by
    unfold Xn at hby
    rw [hi] at hby
    simpa using hby
  have hsi : i.size = z := by
    unfold Xg at hz
    rw [hi] at hz
    simpa using hz
  have hzv' := Ui β zc
  have hzsz : zc.cells.size = z := by
    have := Zk hzv'
    rw [Array.length_toList] at this
    omega
  obtain ⟨m, rfl⟩ := Int.eq_ofNat_of_zero_le hn
  simp only [Int.toNat_natCast] at e
  split at e
  · rename_i h0
    cases e
    have : m = 0 := by omega
    subst this
    exact ⟨_, _, J0p w t t' ty el i ht hu hi kx, ⟨β, Agree.refl _ _, Nat.le_refl _, rfl, trivial, R⟩⟩
  · rename_i h0
    split at e
    · rename_i hb
      cases e
      refine ⟨_, _, run_append_make w t t' ty el i zc ht hu hi hzc kx m (by omega) (by omega) hb.2 (by rw [hbi]; exact hb.1), ?_⟩
      have hcz := Gv zc.cells m
      have hl : (Builtin.zeroCells zc.cells m).toList = (List.replicate m zc.cells.toList).flatten := by
        rw [← hcz]; rfl
      have h0v : VRs β (Js (ofValue zc).cells m) (Builtin.zeroCells zc.cells m).toList := by
        rw [hl]; exact Gk hzv' _
      have hg := R.grew (Js (ofValue zc).cells m) (Builtin.zeroCells zc.cells m).toList (Builtin.zeroCells zc.cells (grownCap w m 0 el - m)) el m (grownCap w m 0 el) z h0v (azeros_all hall _)
        (Rj (AV.cells_lts (We _ _)) _) (grownCap_ge w m 0 el)
        (by
          have := grownCap_ge w m 0 el
          rw [Array.length_toList, size_zeroCells, size_zeroCells, hzsz, ← Nat.add_mul]; congr 1; omega)
      simpa [J00] using hg
    · cases e
end
end Go.AL

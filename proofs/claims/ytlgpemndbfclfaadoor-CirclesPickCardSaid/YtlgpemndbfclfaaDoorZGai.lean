/- Part 9 of the proof of laws of this seat: lemmas on the model's code, on this program's functions, on numbers. No condition. -/
import Derived.Test.YtlgpemndbfclfaaDoorZGah
set_option linter.unusedVariables false
set_option linter.unusedSimpArgs false
open Nat renaming reduceEqDiff → J0, reduceLeDiff → J1, reduceMul → J2, reduceAdd → J3, reduceSub → J4, reduceLT → J5
open Int renaming reduceToNat → J6, reducePow → J7, reduceNeg → J8, reduceLT → J9, reduceLE → Ja, reduceEq → Jb
open And renaming intro → Jc
open Go.IntKind renaming bits → Jd
namespace Go.AL
open Go.RowKit
mutual
def Frz (H : Hp) : AV → AV → Prop
  | .fz n cs, r => r = .fz n cs ∨ ∃ z ds, arow H z r = some (ds, n) ∧ r.fine z ∧ Frzs H cs ds
  | .fp cs, r => r = .fp cs ∨ ∃ h o b, r = .ptr h o ∧ Qy H h = some b ∧ b.kind ≠ .dead ∧ o + cs.length ≤ b.cells.length ∧ Frzs H cs ((b.cells.drop o).take cs.length)
  | .agg cs, r => ∃ ds, r = .agg ds ∧ Frzs H cs ds
  | .tup cs, r => ∃ ds, r = .tup ds ∧ Frzs H cs ds
  | .ifc t x, r => ∃ y, r = .ifc t y ∧ Frz H x y
  | .ptr _ _, _ => False
  | .sl _ _ _ _, _ => False
  | .sg _ _ _ _, _ => False
  | .undef, _ => True
  | .int k n, r => r = .int k n
  | .bool b, r => r = .bool b
  | .str s, r => r = .str s
  | .nilI, r => r = .nilI
  | .nilP, r => r = .nilP
  | .nilS, r => r = .nilS
  | .fn f, r => r = .fn f
def Frzs (H : Hp) : List AV → List AV → Prop
  | [], ds => ds = []
  | c :: cs, ds => ∃ d es, ds = d :: es ∧ Frz H c d ∧ Frzs H cs es
end
mutual
theorem Frz.closed {H : Hp} : ∀ (c r : AV), Frz H c r → c.lt 0
  | .fz _ _, _, _ => trivial
  | .fp _, _, _ => trivial
  | .agg cs, r, h => by
    simp only [Frz] at h
    obtain ⟨ds, _, h⟩ := h
    simp only [AV.lt]
    exact Frzs.closed cs ds h
  | .tup cs, r, h => by
    simp only [Frz] at h
    obtain ⟨ds, _, h⟩ := h
    simp only [AV.lt]
    exact Frzs.closed cs ds h
  | .ifc t x, r, h => by
    simp only [Frz] at h
    obtain ⟨y, _, h⟩ := h
    simp only [AV.lt]
    exact Frz.closed x y h
  | .ptr _ _, _, h => by simp only [Frz] at h
  | .sl _ _ _ _, _, h => by simp only [Frz] at h
  | .sg _ _ _ _, _, h => by simp only [Frz] at h
  | .undef, _, _ => trivial
  | .int _ _, _, _ => trivial
  | .bool _, _, _ => trivial
  | .str _, _, _ => trivial
  | .nilI, _, _ => trivial
  | .nilP, _, _ => trivial
  | .nilS, _, _ => trivial
  | .fn _, _, _ => trivial
theorem Frzs.closed {H : Hp} : ∀ (cs ds : List AV), Frzs H cs ds → AV.lts 0 cs
  | [], _, _ => trivial
  | c :: cs, ds, h => by
    simp only [Frzs] at h
    obtain ⟨d, es, _, h1, h2⟩ := h
    exact ⟨Frz.closed c d h1, Frzs.closed cs es h2⟩
end
theorem Frzs.length {H : Hp} : ∀ {cs ds : List AV}, Frzs H cs ds → ds.length = cs.length
  | [], _, h => by simp only [Frzs] at h; subst h; rfl
  | c :: cs, ds, h => by
    simp only [Frzs] at h
    obtain ⟨d, es, rfl, h1, h2⟩ := h
    simp [Frzs.length h2]
theorem Frzs.get {H : Hp} : ∀ {cs ds : List AV}, Frzs H cs ds → ∀ {i : Nat} {c : AV}, cs[i]? = some c → ∃ d, ds[i]? = some d ∧ Frz H c d
  | [], _, _, i, c, hc => by cases hc
  | c :: cs, ds, h, 0, c', hc => by
    simp only [Frzs] at h
    obtain ⟨d, es, rfl, h1, h2⟩ := h
    simp at hc
    subst hc
    exact ⟨d, rfl, h1⟩
  | c :: cs, ds, h, i + 1, c', hc => by
    simp only [Frzs] at h
    obtain ⟨d, es, rfl, h1, h2⟩ := h
    simpa using Frzs.get h2 (i := i) (c := c') (by simpa using hc)
def Src (β : Env) (H : Hp) (a : Addr) (r : AV) : Prop := β.fz a r ∨ ∃ (h : Nat) (b : Blk) (i : Nat), H[h]? = some b ∧ b.kind ≠ .dead ∧ b.cells[i]? = some r ∧ a = (β h).addr.add i
def Env.all (β : Env) (H : Hp) (β2 : Env) : Env := ⟨β2.bx, fun a c => β.fz a c ∨ ∃ r, Src β H a r ∧ Frz H c r, β2.fz0, β2.leg⟩
mutual
theorem Frz.vr {β β2 : Env} {H : Hp} : ∀ (c r : AV) (v : Value), Frz H c r → VR β r v → VR (β.all H β2) c v
  | .fz n cs, r, v, h, hv => by
    simp only [Frz] at h
    rcases h with rfl | ⟨z, ds, hr, hfine, hs⟩
    · simp only [VR] at hv ⊢
      obtain ⟨a, c, rfl, h1, h2, h3⟩ := hv
      exact ⟨a, c, rfl, h1, h2, h3.imp id fun ⟨x, e, hx⟩ => ⟨x, e, fun i ci hi => .inl (hx i ci hi)⟩⟩
    · have hlen := hs.length
      rcases Yf hr with ⟨rfl, rfl, rfl⟩ | ⟨b, hb, hg, hk, hl, hds⟩ | ⟨rfl, hl⟩
      · simp only [VR] at hv ⊢
        exact ⟨none, 0, hv, Nat.le_refl _, fun _ => rfl, .inl trivial⟩
      · have Qy : ∀ i ci, cs[i]? = some ci → ∃ d, b.cells[r.of + i]? = some d ∧ Frz H ci d := by
          intro i ci hi
          obtain ⟨d, hd, hf⟩ := hs.get hi
          rw [hds, List.getElem?_take] at hd
          split at hd
          · rw [List.getElem?_drop] at hd
            exact ⟨d, hd, hf⟩
          · cases hd
        rcases hb with ⟨cp, hb⟩ | ⟨z', hb⟩
        · generalize r.hd = hh, r.of = oo at *
          subst hb
          simp only [VR] at hv ⊢
          subst hv
          refine ⟨_, _, rfl, hfine, by simp, .inr ⟨_, rfl, fun i ci hi => ?_⟩⟩
          obtain ⟨d, hd, hf⟩ := Qy i ci hi
          rw [Addr.add_add]
          exact .inr ⟨d, .inr ⟨hh, b, oo + i, hg, hk, hd, rfl⟩, hf⟩
        · generalize r.hd = hh, r.of = oo at *
          subst hb
          simp only [VR] at hv ⊢
          obtain ⟨c, o', rfl, hnc, hco⟩ := hv
          refine ⟨_, _, rfl, hnc, by simp, ?_⟩
          rcases hco with ⟨h0, _⟩ | ⟨rfl, _⟩
          · exact .inl (by omega)
          · refine .inr ⟨_, rfl, fun i ci hi => ?_⟩
            obtain ⟨d, hd, hf⟩ := Qy i ci hi
            rw [Addr.add_add]
            exact .inr ⟨d, .inr ⟨hh, b, o' + i, hg, hk, hd, rfl⟩, hf⟩
      · simp only [VR] at hv ⊢
        obtain ⟨a, c, rfl, h1, h2, h3⟩ := hv
        refine ⟨a, c, rfl, h1, h2, h3.imp id fun ⟨x, e, hx⟩ => ⟨x, e, fun i ci hi => ?_⟩⟩
        obtain ⟨d, hd, hf⟩ := hs.get hi
        exact .inr ⟨d, .inl (hx i d hd), hf⟩
  | .fp cs, r, v, h, hv => by
    simp only [Frz] at h
    rcases h with rfl | ⟨hh, o, b, rfl, hg, hk, hle, hs⟩
    · simp only [VR] at hv ⊢
      obtain ⟨x, rfl, hx⟩ := hv
      exact ⟨x, rfl, fun i ci hi => .inl (hx i ci hi)⟩
    · simp only [VR] at hv ⊢
      subst hv
      refine ⟨_, rfl, fun i ci hi => ?_⟩
      obtain ⟨d, hd, hf⟩ := hs.get hi
      rw [List.getElem?_take] at hd
      split at hd
      · rw [List.getElem?_drop] at hd
        rw [Addr.add_add]
        exact .inr ⟨d, .inr ⟨hh, b, o + i, hg, hk, hd, rfl⟩, hf⟩
      · cases hd
  | .agg cs, r, v, h, hv => by
    simp only [Frz] at h
    obtain ⟨ds, rfl, h⟩ := h
    simp only [VR] at hv ⊢
    obtain ⟨l, rfl, hv⟩ := hv
    exact ⟨l, rfl, Frzs.vr cs ds l.toList h hv⟩
  | .tup cs, r, v, h, hv => by
    simp only [Frz] at h
    obtain ⟨ds, rfl, h⟩ := h
    simp only [VR] at hv ⊢
    obtain ⟨l, rfl, hv⟩ := hv
    exact ⟨l, rfl, Frzs.vr cs ds l.toList h hv⟩
  | .ifc t x, r, v, h, hv => by
    simp only [Frz] at h
    obtain ⟨y, rfl, h⟩ := h
    simp only [VR] at hv ⊢
    obtain ⟨u, rfl, hv⟩ := hv
    exact ⟨u, rfl, Frz.vr x y u h hv⟩
  | .ptr _ _, _, _, h, _ => by simp only [Frz] at h
  | .sl _ _ _ _, _, _, h, _ => by simp only [Frz] at h
  | .sg _ _ _ _, _, _, h, _ => by simp only [Frz] at h
  | .undef, _, _, _, _ => trivial
  | .int _ _, _, _, h, hv => by simp only [Frz] at h; subst h; exact hv
  | .bool _, _, _, h, hv => by simp only [Frz] at h; subst h; exact hv
  | .str _, _, _, h, hv => by simp only [Frz] at h; subst h; exact hv
  | .nilI, _, _, h, hv => by simp only [Frz] at h; subst h; exact hv
  | .nilP, _, _, h, hv => by simp only [Frz] at h; subst h; exact hv
  | .nilS, _, _, h, hv => by simp only [Frz] at h; subst h; exact hv
  | .fn _, _, _, h, hv => by simp only [Frz] at h; subst h; exact hv
theorem Frzs.vr {β β2 : Env} {H : Hp} : ∀ (cs ds : List AV) (l : List Value), Frzs H cs ds → VRs β ds l → VRs (β.all H β2) cs l
  | [], _, _, h, hv => by simp only [Frzs] at h; subst h; exact hv
  | c :: cs, ds, l, h, hv => by
    simp only [Frzs] at h
    obtain ⟨d, es, rfl, h1, h2⟩ := h
    simp only [VRs] at hv ⊢
    obtain ⟨x, xs, rfl, hx, hxs⟩ := hv
    exact ⟨x, xs, rfl, Frz.vr c d x h1 hx, Frzs.vr cs es xs h2 hxs⟩
end
theorem Src.cell {w0 : World} {B : Nat} {β : Env} {H : Hp} {w : World} (R : Rel w0 B β H w) {a : Addr} {r : AV} (s : Src β H a r) : ∃ v, w.cell? a = some v ∧ VR β r v ∧ v.oneCell' = true := by
  rcases s with h | ⟨h, b, i, hb, hk, hc, rfl⟩
  · exact (R.fzn a r h).2.1
  · exact R.cells h b hb hk i r hc
theorem Env.all_fz {w0 : World} {B : Nat} {β β2 : Env} {H : Hp} {w : World} (R : Rel w0 B β H w) {a : Addr} {c : AV} (h : (β.all H β2).fz a c) : c.lt 0 ∧ ∃ v, w.cell? a = some v ∧ VR (β.all H β2) c v ∧ v.oneCell' = true := by
  rcases h with h | ⟨r, s, hf⟩
  · obtain ⟨h1, ⟨v, h2, h3, h4⟩, _⟩ := R.fzn a c h
    exact ⟨h1, v, h2, Rr (β := β) (n := 0) (fun h hh => absurd hh (Nat.not_lt_zero _)) (fun _ _ h => Or.inl h) c v h1 h3, h4⟩
  · obtain ⟨v, h2, h3, h4⟩ := s.cell R
    exact ⟨Frz.closed c r hf, v, h2, Frz.vr c r v hf h3, h4⟩
structure Sure (P : Program) (n0 : Blk) (f : FuncId) (args : List AV) (res : AV) : Prop where
  closed : AV.lts 0 args
  calls : ACalls P f args [n0] fun r H' => Frz H' res r
theorem VR_fixed {β β' : Env} (hf : ∀ a c, β.fz a c → β'.fz a c) {c : AV} {v : Value} (hl : c.lt 0) (h : VR β c v) : VR β' c v := Rr (n := 0) (fun h hh => absurd hh (Nat.not_lt_zero _)) hf c v hl h
theorem Rel.back {w0 w w' : World} {B : Nat} {β β1 : Env} {H H1 : Hp} (R : Rel w0 B β H w) (R1 : Rel w w.heap.size β1 H1 w') (h0 : β1.fz0 = fun a => ∃ c, β.fz a c) (hleg : ¬ β1.leg) (hf : ∀ a c, β.fz a c → β1.fz a c) : Rel w0 B (β1.all H1 β) H w' := by
  have K := R.kept R1.below
  have hmono : ∀ a c, β.fz a c → (β1.all H1 β).fz a c := fun a c h => .inl (hf a c h)
  have vr : ∀ {h : Nat} {b : Blk}, H[h]? = some b → b.kind ≠ .dead → ∀ c ∈ b.cells, ∀ v, VR β c v → VR (β1.all H1 β) c v := fun hb hd c hc v hv => by refine Rr (β := β) (n := H.length) ?_ ?_ c v (R.lts _ _ hb hd c hc) hv; exact fun _ _ => rfl; exact hmono
  -- where something new is fixed
  have place : ∀ a c, (β1.all H1 β).fz a c → (∃ d, β.fz a d) ∨ w.heap.size ≤ a.block := by
    have old : ∀ a d, β1.fz a d → (∃ d, β.fz a d) ∨ w.heap.size ≤ a.block := fun a d h => by
      have := (R1.fzn a d h).2.2.2
      rw [h0] at this
      exact this
    intro a c h
    rcases h with h | ⟨r, s, _⟩
    · exact old a c h
    · rcases s with h | ⟨h, b, i, hb, hk, hc, rfl⟩
      · exact old a r h
      · refine .inr ?_
        rw [Addr.add_block]
        by_cases ho : b.kind = .own
        · obtain ⟨g, cur, e, h1, _⟩ := R1.own h b hb ho
          rw [e]; exact h1
        · exact (R1.roB h b hb ho hk (fun e => by rw [e] at hc; cases hc)).resolve_left hleg
  refine ⟨K.below, K.base, fun h b hb hd i c hc => ?_, R.lts, K.own, R.glob, R.sep, fun a c hfz => ?_, R.roB⟩
  · obtain ⟨v, h1, h2, h3⟩ := K.cells h b hb hd i c hc
    exact ⟨v, h1, vr hb hd c (List.mem_of_getElem? hc) v h2, h3⟩
  · obtain ⟨h1, h2⟩ := Env.all_fz R1 hfz
    refine ⟨h1, h2, fun h b hb ho => ?_, ?_⟩
    · rcases place a c hfz with ⟨d, h3⟩ | h3
      · exact (R.fzn a d h3).2.2.1 h b hb ho
      · obtain ⟨g, cur, e, _, hg, _⟩ := R.own h b hb ho
        have := (Array.getElem?_eq_some_iff.1 hg).1
        show (β h).addr.block ≠ a.block
        rw [e]
        show g ≠ a.block
        omega
    · rcases place a c hfz with ⟨d, h3⟩ | h3
      · exact (R.fzn a d h3).2.2.2
      · exact .inr (Nat.le_trans R.base h3)
theorem Rel.fresh {w0 w : World} {B : Nat} {β : Env} {H : Hp} (R : Rel w0 B β H w) {k i j a t v e : Nat} (hk : Qy H k = some ⟨[], .glob a t v e, i⟩) (F : Addr → AV → Prop)
    (hF : ∀ a c, F a c → c.lt 0 ∧ ∃ v, w.cell? a = some v ∧ VR ⟨fun _ => β k, F, fun a => ∃ c, F a c, False⟩ c v ∧ v.oneCell' = true) :
    Rel w w.heap.size ⟨fun _ => β k, F, fun a => ∃ c, F a c, False⟩ [⟨[], .glob a t v e, j⟩] w := by
  have one : ∀ {h : Nat} {b : Blk}, ([⟨[], .glob a t v e, j⟩] : Hp)[h]? = some b → b = ⟨[], .glob a t v e, j⟩ := by
    intro h b hb
    cases h with
    | zero => simpa using hb.symm
    | succ h => simp at hb
  refine ⟨Below.refl _ _, Nat.le_refl _, ?_, ?_, ?_, ?_, ?_, ?_, ?_⟩
  · intro h b hb hd i c hc; rw [one hb] at hc; cases hc
  · intro h b hb hd c hc; rw [one hb] at hc; cases hc
  · intro h b hb ho; rw [one hb] at ho; cases ho
  · intro h b hb a' t' v' e' hkd
    rw [one hb] at hkd
    cases hkd
    obtain ⟨h1, h2⟩ := R.glob k _ hk a t v e rfl
    exact ⟨(R.below.cell h2).trans h1, Nat.lt_of_lt_of_le h2 R.base⟩
  · intro h h' b b' hne hb hb' ho; rw [one hb] at ho; cases ho
  · intro a' c hf
    obtain ⟨h1, h2⟩ := hF a' c hf
    exact ⟨h1, h2, (fun h b hb ho => by rw [one hb] at ho; cases ho), .inl ⟨c, hf⟩⟩
  · intro h b hb _ _ hc; rw [one hb] at hc; exact absurd rfl hc
theorem VRs_fixed {β β' : Env} (hf : ∀ a c, β.fz a c → β'.fz a c) {cs : List AV} {l : List Value} (hl : AV.lts 0 cs) (h : VRs β cs l) : VRs β' cs l := Nr (n := 0) (fun h hh => absurd hh (Nat.not_lt_zero _)) hf cs l hl h
theorem Sure.call {P : Program} {f : FuncId} {args : List AV} {res : AV} {H : Hp} {k i j a t v e : Nat} (S : Sure P ⟨[], .glob a t v e, j⟩ f args res) (hk : Qy H k = some ⟨[], .glob a t v e, i⟩) : ACalls P f args H fun r H' => r = res ∧ H = H' := by
  refine ⟨S.calls.1, fun w0 B β w vs R hv hl => ?_⟩
  have R0 := R.fresh (j := j) hk β.fz fun a c hf => by
    obtain ⟨h1, ⟨v, h2, h3, h4⟩, _⟩ := R.fzn a c hf
    exact ⟨h1, v, h2, by refine VR_fixed (β := β) ?_ h1 h3; exact fun _ _ h => h, h4⟩
  refine (S.calls.2 w w.heap.size _ w vs R0 (by refine VRs_fixed (β := β) ?_ S.closed hv; exact fun _ _ h => h) (AV.lts_mono (Nat.zero_le _) _ S.closed)).mono ?_
  rintro e w' ⟨β1, r, v, H1, rfl, hfrz, ag, hlen, hvr, hlt, R1⟩
  have Rb := R.back R1 ag.fz0 (by rw [ag.leg]; exact id) ag.fz
  refine ⟨β1.all H1 β, res, v, H, rfl, ⟨rfl, rfl⟩, ⟨fun _ _ => rfl, fun a c h => Or.inl (ag.fz a c h), rfl, rfl⟩, Nat.le_refl _, Frz.vr res r v hfrz hvr, AV.lt_mono (Nat.zero_le _) _ (Frz.closed res r hfrz), Rb⟩
def AV.flat : AV → Bool
  | .int _ _ | .bool _ | .str _ | .nilI | .nilP | .nilS | .fn _ => true
  | .tup vs => vs.all fun v => match v with | .int _ _ | .bool _ | .str _ | .nilI | .nilP | .nilS | .fn _ => true | _ => false
  | _ => false
theorem AV.flat_vr {β β' : Env} {c : AV} {v : Value} (h : c.flat = true) (hv : VR β c v) : VR β' c v := by
  cases c <;> simp only [AV.flat, Bool.false_eq_true] at h <;> try exact hv
  rename_i vs
  simp only [VR] at hv ⊢
  obtain ⟨l, rfl, hv⟩ := hv
  refine ⟨l, rfl, ?_⟩
  rw [Gb] at hv ⊢
  refine ⟨hv.1, fun i c x hc hx => ?_⟩
  have h1 := List.all_eq_true.1 h c (List.mem_of_getElem? hc)
  have h2 := hv.2 i c x hc hx
  cases c <;> simp only [Bool.false_eq_true] at h1 <;> exact h2
theorem Sure.lend {P : Program} {f : FuncId} {args args' : List AV} {res : AV} {H : Hp} {k i j a t v e : Nat} (S : Sure P ⟨[], .glob a t v e, j⟩ f args' res) (hk : Qy H k = some ⟨[], .glob a t v e, i⟩) (hz : Frzs H args' args) (hf : res.flat = true) : ACalls P f args H fun r H' => r = res ∧ H = H' := by
  refine ⟨S.calls.1, fun w0 B β w vs R hv hl => ?_⟩
  have R0 := R.fresh (j := j) hk (β.all H β).fz fun a c hf => by
    obtain ⟨h1, v, h2, h3, h4⟩ := Env.all_fz R hf
    exact ⟨h1, v, h2, by refine VR_fixed (β := β.all H β) ?_ h1 h3; exact fun _ _ h => h, h4⟩
  refine (S.calls.2 w w.heap.size _ w vs R0 (by refine VRs_fixed (β := β.all H β) ?_ (Frzs.closed _ _ hz) (Frzs.vr (β2 := β) _ _ _ hz hv); exact fun _ _ h => h) (AV.lts_mono (Nat.zero_le _) _ S.closed)).mono ?_
  rintro e w' ⟨β1, r, v, H1, rfl, hfrz, ag, hlen, hvr, hlt, R1⟩
  exact ⟨β, res, v, H, rfl, ⟨rfl, rfl⟩, Agree.refl _ _, Nat.le_refl _, AV.flat_vr hf (Frz.vr (β2 := β) res r v hfrz hvr), AV.lt_mono (Nat.zero_le _) _ (Frz.closed res r hfrz), R.kept R1.below⟩
end Go.AL
namespace Go.AL
open Go.RowKit
end Go.AL
namespace Go.AL
open Go.RowKit
section
variable {P : Program} {ops : Array Oper} {K : Fr → Hp → Prop} {fr : Fr} {H : Hp} {f : FuncId} {args : List AV} {res : AV} {d : Option Tmp} {c : Vn} {k i j a t v e : Nat}
theorem Qu (S : Sure P ⟨[], .glob a t v e, j⟩ f args res) (hk : Qy H k = some ⟨[], .glob a t v e, i⟩) (h : Run P ops K c (fr.put d res) H) : ECall P ops K d c fr f args H := by
  refine Jt (S.call hk) ?_
  rintro _ _ ⟨rfl, rfl⟩
  exact h
theorem Wu {args' : List AV} (S : Sure P ⟨[], .glob a t v e, j⟩ f args' res) (hk : Qy H k = some ⟨[], .glob a t v e, i⟩) (hf : res.flat = true) (hz : Frzs H args' args) (h : Run P ops K c (fr.put d res) H) : ECall P ops K d c fr f args H := by
  refine Jt (S.lend hk hz hf) ?_
  rintro _ _ ⟨rfl, rfl⟩
  exact h
theorem hget_ext' {H H' : Hp} {k : Nat} {b : Blk} (h : Qy H k = some b) (x : ∃ E, H' = H ++ E) : Qy H' k = some b := by
  obtain ⟨E, rfl⟩ := x
  unfold Qy at h ⊢
  rw [List.getElem?_append_left (List.getElem?_eq_some_iff.1 h).1]
  exact h
theorem Z8 (S : Sure P ⟨[], .glob a t v e, j⟩ f args res) (hk : Qy H k = some ⟨[], .glob a t v e, i⟩) (h : Run P ops K c (fr.put d res) H) : EPure P ops K d c fr f args H :=
  Qp (fun H' x => (S.call (hget_ext' hk x)).mono fun r H'' ⟨h1, h2⟩ => ⟨h1, h2⟩) h
end
theorem Qo (b : Blk) (H : Hp) : Qy (b :: H) 0 = some b := id rfl
theorem hget_s (b : Blk) (H : Hp) (n : Nat) : Qy (b :: H) (n + 1) = Qy H n := id rfl
theorem aload_fp {P : Program} {H : Hp} {t : TypeId} {cs : List AV} : Zt P H t (.fp cs) = (match X4 P t, Qv P t with
    | some true, some n => if n ≤ cs.length then some (.agg (cs.take n)) else none
    | some false, _ => cs[0]?
    | _, _ => none) := id rfl
theorem drop_int {k : IntKind} {xs : List Int} {i : Nat} (h : i < xs.length) : (List.drop i (xs.map (AV.int k)))[0]? = some (.int k (xs.getD i 0)) := by
  rw [List.getElem?_drop, Nat.add_zero]; exact J1a h
theorem Sure.body {P : Program} {n0 : Blk} {f : FuncId} {args : List AV} {res : AV} {fn : Func} {c : Code} (hcl : AV.lts 0 args) (hf : P.funcs[f]? = some fn) (hb : fn.body = some c) (hn : (fn.name == "runtime.NumGoroutine") = false)
    (hfit : Us (args.length + (fn.ntmps - args.length)) c = true) (h : AWp P c (fr0 args) [n0] (AEnd P fn fun r H' => Frz H' res r)) : Sure P n0 f args res := ⟨hcl, Qe hf hb hn hfit h⟩
section
variable {H : Hp}
theorem Frz_int {k : IntKind} {n : Int} {r : AV} : Frz H (.int k n) r = (r = .int k n) := by simp only [Frz]
theorem Frz_bool {b : Bool} {r : AV} : Frz H (.bool b) r = (r = .bool b) := by simp only [Frz]
theorem Frz_str {s : ByteArray} {r : AV} : Frz H (.str s) r = (r = .str s) := by simp only [Frz]
theorem Frz_nilI {r : AV} : Frz H .nilI r = (r = .nilI) := by simp only [Frz]
theorem Frz_nilP {r : AV} : Frz H .nilP r = (r = .nilP) := by simp only [Frz]
theorem Frz_agg {cs ds : List AV} : Frz H (.agg cs) (.agg ds) = Frzs H cs ds := by
  simp only [Frz, AV.agg.injEq]
  exact propext ⟨fun ⟨_, h, h2⟩ => h ▸ h2, fun h => ⟨_, rfl, h⟩⟩
theorem Frz_tup {cs ds : List AV} : Frz H (.tup cs) (.tup ds) = Frzs H cs ds := by
  simp only [Frz, AV.tup.injEq]
  exact propext ⟨fun ⟨_, h, h2⟩ => h ▸ h2, fun h => ⟨_, rfl, h⟩⟩
theorem Frz_ifc {t : TypeId} {x y : AV} : Frz H (.ifc t x) (.ifc t y) = Frz H x y := by
  simp only [Frz, AV.ifc.injEq, true_and]
  exact propext ⟨fun ⟨_, h, h2⟩ => h ▸ h2, fun h => ⟨_, rfl, h⟩⟩
theorem Frzs_nil : Frzs H [] [] = True := by simp only [Frzs]
theorem Ko {c d : AV} {cs ds : List AV} : Frzs H (c :: cs) (d :: ds) = (Frz H c d ∧ Frzs H cs ds) := by
  simp only [Frzs, List.cons.injEq]
  exact propext ⟨fun ⟨_, _, ⟨h, h'⟩, h2⟩ => h ▸ h' ▸ h2, fun h => ⟨_, _, ⟨rfl, rfl⟩, h⟩⟩
theorem Frz_fz {n : Nat} {cs : List AV} : Frz H (.fz n cs) (.fz n cs) := by simp only [Frz]; exact .inl trivial
theorem Frz_fp {cs : List AV} : Frz H (.fp cs) (.fp cs) := by simp only [Frz]; exact .inl trivial
theorem Frz_nilS : Frz H (.fz 0 []) .nilS := by simp only [Frz]; exact .inr ⟨0, [], rfl, trivial, by simp only [Frzs]⟩
theorem Frzs_self : ∀ {cs : List AV}, (∀ c ∈ cs, Frz H c c) → Frzs H cs cs
  | [], _ => by simp only [Frzs]
  | c :: cs, h => by
    rw [Ko]
    exact ⟨h c (List.mem_cons_self ..), Frzs_self fun d hd => h d (List.mem_cons_of_mem _ hd)⟩
theorem Frzs_ints {k : IntKind} (xs : List Int) : Frzs H (xs.map (AV.int k)) (xs.map (AV.int k)) := Frzs_self fun c hc => by
  obtain ⟨n, _, rfl⟩ := List.mem_map.1 hc
  rw [Frz_int]
theorem Rd.frz {z n : Nat} {v : AV} {cs ds : List AV} (h : Rd H z v ds n) (hs : Frzs H cs ds) : Frz H (.fz n cs) v := by
  simp only [Frz]
  exact .inr ⟨z, ds, h.row, h.fine, hs⟩
theorem Ints.frz {k : IntKind} {v : AV} {xs : List Int} (h : Ints H k v xs) : Frz H (.fz xs.length (xs.map (AV.int k))) v := h.rd.frz (Frzs_ints xs)
theorem Frz_sl {h o n c z : Nat} {b : Blk} {cs : List AV} (hb : Qy H h = some b) (hd : b.kind ≠ .dead) (hc : n ≤ c) (hl : o + n * z ≤ b.cells.length) (hs : Frzs H cs ((b.cells.drop o).take (n * z))) : Frz H (.fz n cs) (.sl h o n c) := by
  simp only [Frz]
  exact .inr ⟨z, _, by simp only [arow, hb]; rw [if_neg hd, if_pos hl], hc, hs⟩
theorem Frz_sg {h o n z : Nat} {b : Blk} {cs : List AV} (hb : Qy H h = some b) (hd : b.kind ≠ .dead) (hl : o + n * z ≤ b.cells.length) (hs : Frzs H cs ((b.cells.drop o).take (n * z))) : Frz H (.fz n cs) (.sg h o n z) := by
  simp only [Frz]
  exact .inr ⟨z, _, by simp only [arow, hb]; rw [if_neg hd, if_pos hl], rfl, hs⟩
theorem Frz_ptr {h o : Nat} {b : Blk} {cs : List AV} (hb : Qy H h = some b) (hd : b.kind ≠ .dead) (hl : o + cs.length ≤ b.cells.length) (hs : Frzs H cs ((b.cells.drop o).take cs.length)) : Frz H (.fp cs) (.ptr h o) := by
  simp only [Frz]
  exact .inr ⟨h, o, b, rfl, hb, hd, hl, hs⟩
end
theorem Rd.fz (H : Hp) {z n : Nat} {cs : List AV} (hl : cs.length = n * z) : Rd H z (.fz n cs) cs n := ⟨by simp only [arow]; rw [if_pos hl], trivial⟩
theorem Ints.fz (H : Hp) (k : IntKind) (xs : List Int) : Ints H k (.fz xs.length (xs.map (AV.int k))) xs := Rd.fz H (by rw [List.length_map, Nat.mul_one])
theorem Sure.of {P : Program} {n0 : Blk} {f : FuncId} {args : List AV} {res : AV} {R : AV → Hp → Prop} (hcl : AV.lts 0 args) (h : ACalls P f args [n0] R) (hr : ∀ r H', R r H' → Frz H' res r) : Sure P n0 f args res := ⟨hcl, h.mono hr⟩
theorem AV.lts_z : AV.lts 0 [] = True := id rfl
theorem AV.lts_s {c : AV} {cs : List AV} : AV.lts 0 (c :: cs) = (c.lt 0 ∧ AV.lts 0 cs) := id rfl
theorem AV.lt_agg {cs : List AV} : AV.lt 0 (.agg cs) = AV.lts 0 cs := by simp only [AV.lt]
theorem AV.lt_int {k : IntKind} {n : Int} : AV.lt 0 (.int k n) = True := by simp only [AV.lt]
theorem AV.lt_bool {b : Bool} : AV.lt 0 (.bool b) = True := by simp only [AV.lt]
theorem AV.lt_str {s : ByteArray} : AV.lt 0 (.str s) = True := by simp only [AV.lt]
theorem AV.lt_fz {n : Nat} {cs : List AV} : AV.lt 0 (.fz n cs) = True := by simp only [AV.lt]
theorem AV.lt_fp {cs : List AV} : AV.lt 0 (.fp cs) = True := by simp only [AV.lt]
theorem AV.lt_nilI : AV.lt 0 .nilI = True := by simp only [AV.lt]
theorem AV.lt_nilP : AV.lt 0 .nilP = True := by simp only [AV.lt]
theorem AV.lt_nilS : AV.lt 0 .nilS = True := by simp only [AV.lt]
theorem AV.lt_ifc {t : TypeId} {x : AV} : AV.lt 0 (.ifc t x) = AV.lt 0 x := by simp only [AV.lt]
theorem AV.lts_ints {k : IntKind} : ∀ (xs : List Int), AV.lts 0 (xs.map (AV.int k))
  | [] => trivial
  | x :: xs => ⟨trivial, AV.lts_ints xs⟩
theorem AV.solid_fz {n : Nat} {cs : List AV} : AV.solid (.fz n cs) = true := id rfl
theorem AV.one_fz {n : Nat} {cs : List AV} : AV.one (.fz n cs) = true := id rfl
theorem AV.cells_fz {n : Nat} {cs : List AV} : AV.cells (.fz n cs) = [.fz n cs] := id rfl
theorem AV.solid_fp {cs : List AV} : AV.solid (.fp cs) = true := id rfl
theorem AV.one_fp {cs : List AV} : AV.one (.fp cs) = true := id rfl
theorem AV.cells_fp {cs : List AV} : AV.cells (.fp cs) = [.fp cs] := id rfl
end Go.AL
namespace Go.AL
theorem at_fz1 {P : Program} {t e : TypeId} {n : Nat} {cs : List AV} {l : IntKind} {j : Int} (hu : P.underlying t = some (.slice e)) (hz : Qv P e = some 1) (h0 : 0 ≤ j) (h1 : j < (n : Int)) : Qr P t (.fz n cs) (.int l j) = some (.fp (cs.drop j.toNat)) := by
  simp [Qr, hu, hz, h0, h1]
theorem Rq {P : Program} {t e : TypeId} {cs : List AV} (hu : P.underlying t = some (.pointer e)) : X5 P Op.maxDepth t (.fp cs) .nilP = some false := Yr fun d => by simp [X5, hu]
end Go.AL
namespace Go.AL
theorem splice_cs (c : AV) (cs ds : List AV) (n : Nat) : Jw (c :: cs) (n + 1) ds = c :: Jw cs n ds := by
  simp only [Jw, List.take_succ_cons, List.cons_append, List.append_assoc]
  rw [show n + 1 + ds.length = (n + ds.length) + 1 by omega, List.drop_succ_cons]
theorem splice_cz (c d : AV) (cs ds : List AV) : Jw (c :: cs) 0 (d :: ds) = d :: Jw cs 0 ds := by
  simp only [Jw, List.take_zero, List.nil_append, List.cons_append, List.length_cons, Nat.zero_add, List.drop_succ_cons]
theorem splice_n (cs : List AV) : Jw cs 0 [] = cs := by simp [Jw]
theorem RZ : type_of% (Jc @Qo (Jc @hget_s (Jc @Kj (Jc @U4 (Jc @aload_fp (Jc @List.set_cons_zero.{0} (Jc @List.set_cons_succ.{0} (Jc @AV.solid_fz (Jc @AV.one_fz (Jc @AV.cells_fz (Jc @AV.solid_fp (Jc @AV.one_fp (Jc @AV.cells_fp (Jc @List.length_map.{0,0} (Jc @splice_cs (Jc @splice_cz (Jc @splice_n (Jc @Kx (Jc @J02 (Jc @Uz (@Ve))))))))))))))))))))) := Jc @Qo (Jc @hget_s (Jc @Kj (Jc @U4 (Jc @aload_fp (Jc @List.set_cons_zero.{0} (Jc @List.set_cons_succ.{0} (Jc @AV.solid_fz (Jc @AV.one_fz (Jc @AV.cells_fz (Jc @AV.solid_fp (Jc @AV.one_fp (Jc @AV.cells_fp (Jc @List.length_map.{0,0} (Jc @splice_cs (Jc @splice_cz (Jc @splice_n (Jc @Kx (Jc @J02 (Jc @Uz (@Ve))))))))))))))))))))
theorem dec_T {i : Decidable True} : @decide True i = true := decide_eq_true trivial
theorem dec_F {i : Decidable False} : @decide False i = false := decide_eq_false id
theorem RF : type_of% (Jc @Frz_int (Jc @Frz_bool (Jc @Frz_str (Jc @Frz_nilI (Jc @Frz_nilP (Jc @Frz_agg (Jc @Frz_tup (Jc @Frz_ifc (Jc @Frzs_nil (Jc @Ko (Jc @Frz_fz (Jc @Frz_fp (Jc @Frz_nilS (Jc @and_self (Jc @and_true (Jc @true_and (Jc @dec_T (@dec_F)))))))))))))))))) := Jc @Frz_int (Jc @Frz_bool (Jc @Frz_str (Jc @Frz_nilI (Jc @Frz_nilP (Jc @Frz_agg (Jc @Frz_tup (Jc @Frz_ifc (Jc @Frzs_nil (Jc @Ko (Jc @Frz_fz (Jc @Frz_fp (Jc @Frz_nilS (Jc @and_self (Jc @and_true (Jc @true_and (Jc @dec_T (@dec_F)))))))))))))))))
theorem AV.lts_mapi {k : IntKind} {xs : List Int} : AV.lts 0 (xs.map (AV.int k)) = True := eq_true (AV.lts_ints xs)
theorem AV.lt_tup {cs : List AV} : AV.lt 0 (.tup cs) = AV.lts 0 cs := by simp only [AV.lt]
theorem RT : type_of% (Jc @AV.lts_z (Jc @AV.lts_s (Jc @AV.lt_agg (Jc @AV.lt_int (Jc @AV.lt_bool (Jc @AV.lt_str (Jc @AV.lt_fz (Jc @AV.lt_fp (Jc @AV.lt_nilI (Jc @AV.lt_nilP (Jc @AV.lt_nilS (Jc @AV.lt_ifc (Jc @AV.lts_mapi (Jc @AV.lt_tup (Jc @and_self (Jc @and_true (@true_and))))))))))))))))) := Jc @AV.lts_z (Jc @AV.lts_s (Jc @AV.lt_agg (Jc @AV.lt_int (Jc @AV.lt_bool (Jc @AV.lt_str (Jc @AV.lt_fz (Jc @AV.lt_fp (Jc @AV.lt_nilI (Jc @AV.lt_nilP (Jc @AV.lt_nilS (Jc @AV.lt_ifc (Jc @AV.lts_mapi (Jc @AV.lt_tup (Jc @and_self (Jc @and_true (@true_and))))))))))))))))
theorem RG : type_of% (@drop_int) := @drop_int
mutual
theorem Frz.self {H : Hp} : ∀ {c : AV}, c.lt 0 → Frz H c c
  | .fz _ _, _ => Frz_fz
  | .fp _, _ => Frz_fp
  | .agg cs, h => by rw [Frz_agg]; exact Frzs.self (by simpa only [AV.lt] using h)
  | .tup cs, h => by rw [Frz_tup]; exact Frzs.self (by simpa only [AV.lt] using h)
  | .ifc t x, h => by rw [Frz_ifc]; exact Frz.self (by simpa only [AV.lt] using h)
  | .ptr _ _, h => absurd h (Nat.not_lt_zero _)
  | .sl _ _ _ _, h => absurd h (Nat.not_lt_zero _)
  | .sg _ _ _ _, h => absurd h (Nat.not_lt_zero _)
  | .undef, _ => by simp only [Frz]
  | .int _ _, _ => by rw [Frz_int]
  | .bool _, _ => by rw [Frz_bool]
  | .str _, _ => by rw [Frz_str]
  | .nilI, _ => by rw [Frz_nilI]
  | .nilP, _ => by rw [Frz_nilP]
  | .nilS, _ => by simp only [Frz]
  | .fn _, _ => by simp only [Frz]
theorem Frzs.self {H : Hp} : ∀ {cs : List AV}, AV.lts 0 cs → Frzs H cs cs
  | [], _ => by simp only [Frzs]
  | c :: cs, h => by rw [Ko]; exact ⟨Frz.self h.1, Frzs.self h.2⟩
end
theorem Sure.st {P : Program} {n0 : Blk} {f : FuncId} {args : List AV} {v : AV} (hcl : AV.lts 0 args) (hv : v.lt 0) (h : ∀ H, ACalls P f args H fun r H' => r = v ∧ H = H') : Sure P n0 f args v := ⟨hcl, (h _).mono fun r H' ⟨e, _⟩ => by subst e; exact Frz.self hv⟩
theorem Vr {H : Hp} : Frzs H [] [] := by simp only [Frzs]
theorem V3 {H : Hp} {c d : AV} {cs ds : List AV} (h : Frz H c d) (k : Frzs H cs ds) : Frzs H (c :: cs) (d :: ds) := by rw [Ko]; exact ⟨h, k⟩
theorem Wo {H : Hp} {h n c z : Nat} {b : Blk} {cs : List AV} (hb : Qy H h = some b) (hk : b.kind = .own) (hc : n ≤ c) (he : cs = b.cells) (hl : cs.length = n * z) (hs : AV.lts 0 cs) : Frz H (.fz n cs) (.sl h 0 n c) := by
  subst he
  exact Frz_sl (z := z) hb (by rw [hk]; decide) hc (by omega) (by rw [List.drop_zero, ← hl, List.take_length]; exact Frzs.self hs)
end Go.AL
namespace Go.PW
abbrev Bs : Int := 18446744073709551616
def val : List Int → Int
  | [] => 0
  | x :: xs => x + Bs * val xs
def dig : Nat → Int → List Int
  | 0, _ => []
  | n + 1, x => x % Bs :: dig n (x / Bs)
def Limbs (xs : List Int) : Prop := ∀ x ∈ xs, 0 ≤ x ∧ x < Bs
theorem Limbs.nil : Limbs [] := fun _ h => by cases h
theorem Limbs.cons {x : Int} {xs : List Int} : Limbs (x :: xs) ↔ (0 ≤ x ∧ x < Bs) ∧ Limbs xs := by
  simp [Limbs]
theorem Limbs.append {xs ys : List Int} : Limbs (xs ++ ys) ↔ Limbs xs ∧ Limbs ys := by
  simp only [Limbs, List.mem_append]
  exact ⟨fun h => ⟨fun x hx => h x (.inl hx), fun x hx => h x (.inr hx)⟩, fun h x hx => hx.elim (h.1 x) (h.2 x)⟩
theorem Limbs.take {xs : List Int} (h : Limbs xs) (n : Nat) : Limbs (xs.take n) := fun x hx => h x (List.mem_of_mem_take hx)
theorem Limbs.drop {xs : List Int} (h : Limbs xs) (n : Nat) : Limbs (xs.drop n) := fun x hx => h x (List.mem_of_mem_drop hx)
theorem Limbs.get {xs : List Int} (h : Limbs xs) (i : Nat) : 0 ≤ xs.getD i 0 ∧ xs.getD i 0 < Bs := by
  rw [List.getD_eq_getElem?_getD]
  cases hx : xs[i]? with
  | none => simp [Bs]
  | some x => exact h x (List.mem_of_getElem? hx)
theorem X0 (n : Nat) : 0 < Bs ^ n := Int.pow_pos (by decide)
theorem W6 : ∀ (xs ys : List Int), val (xs ++ ys) = val xs + Bs ^ xs.length * val ys
  | [], ys => by simp [val]
  | x :: xs, ys => by
    simp only [List.cons_append, val, List.length_cons, W6 xs ys, Int.pow_succ]
    grind
theorem Qq : ∀ {xs : List Int}, Limbs xs → 0 ≤ val xs ∧ val xs < Bs ^ xs.length
  | [], _ => by simp [val]
  | x :: xs, h => by
    obtain ⟨h1, h2⟩ := Limbs.cons.1 h
    have ih := Qq h2
    simp only [val, List.length_cons, Int.pow_succ]
    have hp := X0 xs.length
    generalize Bs ^ xs.length = p at *
    simp only [Bs] at *
    omega
theorem dig_length : ∀ (n : Nat) (x : Int), (dig n x).length = n
  | 0, _ => rfl
  | n + 1, x => by simp [dig, dig_length n]
theorem X6 : ∀ (n : Nat) (x : Int), Limbs (dig n x)
  | 0, _ => Limbs.nil
  | n + 1, x => Limbs.cons.2 ⟨⟨Int.emod_nonneg _ (by decide), Int.emod_lt_of_pos _ (by decide)⟩, X6 n _⟩
theorem emod_two {x m k : Int} (hm : 0 < m) : x % m + m * (x / m % k) = x % (m * k) := by
  rw [Int.emod_def x (m * k), Int.emod_def (x / m) k, Int.emod_def x m, ← Int.ediv_ediv_of_nonneg (Int.le_of_lt hm)]
  grind
theorem Vg : ∀ (n : Nat) (x : Int), val (dig n x) = x % Bs ^ n
  | 0, x => by simp [val, dig, Int.emod_one]
  | n + 1, x => by
    simp only [val, dig, Vg n, Int.pow_succ]
    have hp := X0 n
    have e : Bs ^ n * Bs = Bs * Bs ^ n := Int.mul_comm _ _
    rw [e, ← emod_two (by decide)]
theorem G8 : ∀ {xs : List Int}, Limbs xs → dig xs.length (val xs) = xs
  | [], _ => rfl
  | x :: xs, h => by
    obtain ⟨h1, h2⟩ := Limbs.cons.1 h
    simp only [List.length_cons, dig, val]
    rw [Int.add_mul_emod_self_left, Int.emod_eq_of_lt h1.1 h1.2, Int.add_mul_ediv_left _ _ (by decide), Int.ediv_eq_zero_of_lt h1.1 h1.2, Int.zero_add, G8 h2]
theorem dig_mod : ∀ (n : Nat) (x y : Int), x % Bs ^ n = y % Bs ^ n → dig n x = dig n y := by
  intro n x y h
  have h1 := G8 (X6 n x)
  have h2 := G8 (X6 n y)
  rw [dig_length, Vg] at h1 h2
  rw [← h1, ← h2, h]
theorem Zw {xs : List Int} {n : Nat} {x : Int} (hl : Limbs xs) (hn : xs.length = n) (hv : val xs = x % Bs ^ n) : xs = dig n x := by
  have := G8 hl
  rw [← this, hn, hv]
  exact dig_mod n _ _ (Int.emod_emod_of_dvd _ (Int.dvd_refl _))
theorem Z4 (xs : List Int) (i : Nat) : val xs = val (xs.take i) + Bs ^ (min i xs.length) * val (xs.drop i) := by
  have := W6 (xs.take i) (xs.drop i)
  rw [List.take_append_drop, List.length_take] at this
  exact this
theorem take_succ_getD (xs : List Int) {i : Nat} (h : i < xs.length) : xs.take (i + 1) = xs.take i ++ [xs.getD i 0] := by
  rw [List.take_succ_eq_append_getElem h]
  simp [List.getD, h]
theorem Qz (xs : List Int) {i : Nat} (h : i < xs.length) : val (xs.take (i + 1)) = val (xs.take i) + Bs ^ i * xs.getD i 0 := by
  rw [take_succ_getD xs h, W6, List.length_take, Nat.min_eq_left (by omega)]
  simp [val]
theorem Nh (xs : List Int) {i : Nat} (h : i < xs.length) : xs.drop i = xs.getD i 0 :: xs.drop (i + 1) := by
  rw [List.drop_eq_getElem_cons h]
  simp [List.getD, h]
theorem Zq (xs : List Int) {i : Nat} (h : i < xs.length) : val (xs.drop i) = xs.getD i 0 + Bs * val (xs.drop (i + 1)) := by
  rw [Nh xs h]; rfl
theorem V7 (xs : List Int) {i : Nat} (h : i < xs.length) (y : Int) : val (xs.set i y) = val xs + Bs ^ i * (y - xs.getD i 0) := by
  induction xs generalizing i with
  | nil => simp at h
  | cons x xs ih =>
    cases i with
    | zero => simp only [List.set_cons_zero, val, Int.pow_zero, List.getD_cons_zero]; omega
    | succ i =>
      simp only [List.set_cons_succ, val, List.getD_cons_succ]
      rw [ih (by simpa using h), Int.pow_succ]
      grind
theorem Limbs.set {xs : List Int} (h : Limbs xs) (i : Nat) {y : Int} (hy : 0 ≤ y ∧ y < Bs) : Limbs (xs.set i y) := by
  intro x hx
  rcases List.mem_or_eq_of_mem_set hx with hx | rfl
  · exact h x hx
  · exact hy
theorem Wv (n : Nat) : val (List.replicate n 0) = 0 := by
  induction n with
  | zero => rfl
  | succ n ih => simp [List.replicate_succ, val, ih]
theorem Limbs.replicate (n : Nat) : Limbs (List.replicate n 0) := fun x hx => by
  rw [(List.mem_replicate.1 hx).2]; decide
theorem Xh (xs : List Int) {i : Nat} (y : Int) (h : i < xs.length) (j : Nat) : (xs.set i y).getD j 0 = if j = i then y else xs.getD j 0 := by
  rw [List.getD_eq_getElem?_getD, List.getElem?_set, List.getD_eq_getElem?_getD]
  by_cases e : i = j
  · subst e; simp [h]
  · rw [if_neg e, if_neg (fun h => e h.symm)]
theorem Vf : ∀ (n : Nat) (x : Int) (i : Nat), i < n → (dig n x).getD i 0 = x / Bs ^ i % Bs
  | n + 1, x, 0, _ => by simp [dig]
  | n + 1, x, i + 1, h => by
    simp only [dig, List.getD_cons_succ]
    rw [Vf n _ i (by omega), Int.ediv_ediv_of_nonneg (by decide), Int.pow_succ, Int.mul_comm]
end Go.PW
namespace Go.PW
theorem Yi {x y p q : Int} (hx : 0 ≤ x ∧ x ≤ p) (hy : 0 ≤ y ∧ y ≤ q) : 0 ≤ x * y ∧ x * y ≤ p * q :=
  ⟨Int.mul_nonneg hx.1 hy.1, Int.mul_le_mul hx.2 hy.2 hy.1 (Int.le_trans hx.1 hx.2)⟩
theorem mul_high {x y : Int} (hx : 0 ≤ x ∧ x < Bs) (hy : 0 ≤ y ∧ y < Bs) :
    let x0 := x % 4294967296; let x1 := x / 4294967296; let y0 := y % 4294967296; let y1 := y / 4294967296
    let T := (x1 * y0 % Bs + x0 * y0 % Bs / 4294967296) % Bs
    ((x1 * y1 % Bs + T / 4294967296) % Bs + (T % 4294967296 + x0 * y1 % Bs) % Bs / 4294967296) % Bs = x * y / Bs := by
  intro x0 x1 y0 y1 T
  have ex : x = x1 * 4294967296 + x0 := by simp only [x0, x1]; omega
  have ey : y = y1 * 4294967296 + y0 := by simp only [y0, y1]; omega
  have b0 : 0 ≤ x0 ∧ x0 ≤ 4294967295 := by simp only [x0]; omega
  have b1 : 0 ≤ x1 ∧ x1 ≤ 4294967295 := by simp only [x1, Bs] at *; omega
  have c0 : 0 ≤ y0 ∧ y0 ≤ 4294967295 := by simp only [y0]; omega
  have c1 : 0 ≤ y1 ∧ y1 ≤ 4294967295 := by simp only [y1, Bs] at *; omega
  have ha := Yi b0 c0
  have hb := Yi b1 c0
  have hc := Yi b0 c1
  have hd := Yi b1 c1
  have hxy : x * y = x1 * y1 * 18446744073709551616 + (x1 * y0 + x0 * y1) * 4294967296 + x0 * y0 := by
    rw [ex, ey]; grind
  rw [hxy]
  simp only [T]
  clear hxy ex ey T
  generalize x0 * y0 = a at *
  generalize x1 * y0 = b at *
  generalize x0 * y1 = c at *
  generalize x1 * y1 = d at *
  simp only [Bs]
  clear b0 b1 c0 c1 x0 x1 y0 y1 hx hy
  omega
def bl (n : Nat) : Nat := if n = 0 then 0 else Nat.log2 n + 1
theorem bl_lt (n : Nat) : n < 2 ^ bl n := by
  unfold bl
  split
  · rename_i h; rw [h]; decide
  · exact Nat.lt_log2_self
theorem bl_ge {n : Nat} (h : n ≠ 0) : 2 ^ (bl n - 1) ≤ n := by
  unfold bl
  rw [if_neg h]
  exact Nat.log2_self_le h
theorem bl_pos {n : Nat} (h : n ≠ 0) : 0 < bl n := by
  unfold bl; rw [if_neg h]; omega
theorem bl_uniq {n k : Nat} (h1 : 2 ^ k ≤ n) (h2 : n < 2 ^ (k + 1)) : bl n = k + 1 := by
  have hn : n ≠ 0 := by have := Nat.pow_pos (n := k) (a := 2) (by decide); omega
  unfold bl
  rw [if_neg hn]
  have a := (Nat.le_log2 hn (k := k)).2 h1
  have b := (Nat.log2_lt hn (k := k + 1)).2 h2
  omega
theorem bl_div {n k : Nat} (h : 2 ^ k ≤ n) : bl n = k + bl (n / 2 ^ k) := by
  have hp := Nat.pow_pos (n := k) (a := 2) (by decide)
  have hq : n / 2 ^ k ≠ 0 := by
    have := Nat.div_pos h hp
    omega
  have h1 := bl_ge hq
  have h2 := bl_lt (n / 2 ^ k)
  have h3 := bl_pos hq
  obtain ⟨m, hm⟩ : ∃ m, bl (n / 2 ^ k) = m + 1 := ⟨_, (Nat.succ_pred_eq_of_pos h3).symm⟩
  rw [hm] at h1 h2 ⊢
  rw [show k + (m + 1) = (k + m) + 1 by omega]
  apply bl_uniq
  · rw [Nat.pow_add, Nat.mul_comm]
    exact (Nat.le_div_iff_mul_le hp).1 h1
  · rw [show k + m + 1 = (m + 1) + k by omega, Nat.pow_add]
    exact (Nat.div_lt_iff_lt_mul hp).1 h2
theorem bl_le {n k : Nat} (h : n < 2 ^ k) : bl n ≤ k := by
  by_cases h0 : n = 0
  · subst h0; simp [bl]
  · have := bl_ge h0
    have h2 : 2 ^ (bl n - 1) < 2 ^ k := by omega
    have := (Nat.pow_lt_pow_iff_right (by decide : 1 < 2)).1 h2
    omega
end Go.PW
namespace Go.PW
theorem Wp {a b q : Int} (hb : 0 < b) (h : q * b ≤ a) : q ≤ a / b := (Int.le_ediv_iff_mul_le hb).2 h
theorem ediv_le {a b q : Int} (hb : 0 < b) (h : a < (q + 1) * b) : a / b ≤ q := by
  have := (Int.ediv_lt_iff_lt_mul hb).2 h
  omega
theorem ediv_eq {a b q : Int} (hb : 0 < b) (h1 : q * b ≤ a) (h2 : a < (q + 1) * b) : a / b = q := by
  have := Wp hb h1
  have := ediv_le hb h2
  omega
theorem ediv_mul_le' (a : Int) {b : Int} (hb : 0 < b) : a / b * b ≤ a := Int.ediv_mul_le a (by omega)
structure Dg (B y1 y0 u d q r : Int) : Prop where
  hb : 0 < B
  h1 : 0 < y1
  h2 : B ≤ 2 * y1
  h3 : 0 ≤ y0
  h4 : y0 < B
  h5 : 0 ≤ u
  h6 : u < y1 * B + y0
  h7 : 0 ≤ d
  h8 : d < B
  hr : u = q * y1 + r
  hq : (u * B + d) / (y1 * B + y0) ≤ q
  hm : q ≤ B + 1
section
variable {B y1 y0 u d q r : Int}
theorem Dg.pos (h : Dg B y1 y0 u d q r) : 0 < y1 * B + y0 := by
  have := Int.mul_pos h.h1 h.hb
  have := h.h3
  omega
theorem Dg.lt (h : Dg B y1 y0 u d q r) : (u * B + d) / (y1 * B + y0) < B := by
  rw [Int.ediv_lt_iff_lt_mul h.pos]
  have h1 : (u + 1) * B ≤ (y1 * B + y0) * B := Int.mul_le_mul_of_nonneg_right (by have := h.h6; omega) (by have := h.hb; omega)
  have := h.h8
  have e : (u + 1) * B = u * B + B := by grind
  have e2 : (y1 * B + y0) * B = B * (y1 * B + y0) := Int.mul_comm _ _
  omega
theorem Dg.nonneg (h : Dg B y1 y0 u d q r) : 0 ≤ (u * B + d) / (y1 * B + y0) := by
  have h1 := Int.mul_nonneg h.h5 (Int.le_of_lt h.hb)
  exact Int.ediv_nonneg (by have := h.h7; omega) (Int.le_of_lt h.pos)
theorem Dg.more (h : Dg B y1 y0 u d q r) (ht : B ≤ q ∨ B * r + d < q * y0) : (u * B + d) / (y1 * B + y0) ≤ q - 1 := by
  rcases ht with ht | ht
  · have := h.lt; omega
  · have : (u * B + d) / (y1 * B + y0) < q := by
      rw [Int.ediv_lt_iff_lt_mul h.pos]
      have := h.hr
      have e : q * (y1 * B + y0) = q * y1 * B + q * y0 := by grind
      have e2 : u * B = q * y1 * B + B * r := by rw [this]; grind
      omega
    omega
theorem Dg.next (h : Dg B y1 y0 u d q r) (ht : B ≤ q ∨ B * r + d < q * y0) : Dg B y1 y0 u d (q - 1) (r + y1) := by
  refine ⟨h.hb, h.h1, h.h2, h.h3, h.h4, h.h5, h.h6, h.h7, h.h8, ?_, h.more ht, by have := h.hm; omega⟩
  have := h.hr
  grind
theorem Dg.done (h : Dg B y1 y0 u d q r) (ht : q * y0 ≤ B * r + d) : q = (u * B + d) / (y1 * B + y0) := by
  have h1 := h.hq
  have h2 : q ≤ (u * B + d) / (y1 * B + y0) := by
    apply Wp h.pos
    have := h.hr
    have e : q * (y1 * B + y0) = q * y1 * B + q * y0 := by grind
    have e2 : u * B = q * y1 * B + B * r := by rw [this]; grind
    omega
  omega
theorem Dg.over (h : Dg B y1 y0 u d q r) (hq : q ≤ B) (hr : B ≤ r) : q = (u * B + d) / (y1 * B + y0) := by
  apply h.done
  have h0 := h.nonneg
  have h1 := h.hq
  have a : q * y0 ≤ B * (B - 1) := Int.mul_le_mul hq (by have := h.h4; omega) h.h3 (by have := h.hb; omega)
  have b : B * B ≤ B * r := Int.mul_le_mul_of_nonneg_left hr (Int.le_of_lt h.hb)
  have := h.h7
  have := h.hb
  rw [Int.mul_sub] at a
  omega
end
theorem Dg.start {B y1 y0 u d : Int} (hb : 0 < B) (h1 : B ≤ 2 * y1) (h0 : 0 ≤ y0) (h0' : y0 < B) (hu : 0 ≤ u) (hu' : u < y1 * B + y0) (hd : 0 ≤ d) (hd' : d < B) : Dg B y1 y0 u d (u / y1) (u % y1) := by
  have hy1 : 0 < y1 := by omega
  have hpos : 0 < y1 * B + y0 := by have := Int.mul_pos hy1 hb; omega
  refine ⟨hb, hy1, h1, h0, h0', hu, hu', hd, hd', ?_, ?_, ?_⟩
  · have := Int.emod_add_mul_ediv u y1
    rw [Int.mul_comm] at this
    omega
  · apply Wp hy1
    have h2 := ediv_mul_le' (u * B + d) hpos
    generalize (u * B + d) / (y1 * B + y0) = qt at *
    rcases Int.lt_or_le qt 0 with hn | hn
    · have := Int.mul_nonneg (a := -qt) (b := y1) (by omega) (Int.le_of_lt hy1)
      rw [Int.neg_mul] at this
      omega
    · have h3 : qt * y1 * B ≤ qt * (y1 * B + y0) := by
        have := Int.mul_nonneg hn h0
        have e : qt * (y1 * B + y0) = qt * y1 * B + qt * y0 := by grind
        omega
      have h4 : qt * y1 * B < (u + 1) * B := by
        have e : (u + 1) * B = u * B + B := by grind
        omega
      have := Int.lt_of_mul_lt_mul_right h4 (Int.le_of_lt hb)
      omega
  · apply ediv_le hy1
    have e : (B + 1 + 1) * y1 = y1 * B + 2 * y1 := by grind
    omega
theorem two_digits {B Y N1 d0 : Int} (hY : 0 < Y) (hB : 0 < B) : (N1 * B + d0) / Y = (N1 / Y) * B + (N1 % Y * B + d0) / Y ∧ (N1 * B + d0) % Y = (N1 % Y * B + d0) % Y := by
  have h := Int.emod_add_mul_ediv N1 Y
  have e : N1 * B + d0 = (N1 % Y * B + d0) + Y * (N1 / Y * B) := by
    conv => lhs; rw [← h]
    grind
  rw [e, Int.add_mul_ediv_left _ _ (by omega), Int.add_mul_emod_self_left]
  exact ⟨by omega, rfl⟩
end Go.PW
namespace Go.PW
theorem J07 {U3 V2 Ul Vl p : Int} (hp : 0 < p) (hV : 0 < V2) (hU : Ul < p) (hV0 : 0 ≤ Vl) (hU0 : 0 ≤ U3) (hUl : 0 ≤ Ul) : (U3 * p + Ul) / (V2 * p + Vl) ≤ U3 / V2 := by
  have hpos : 0 < V2 * p + Vl := by have := Int.mul_pos hV hp; omega
  apply Wp hV
  have h := ediv_mul_le' (U3 * p + Ul) hpos
  have hk : 0 ≤ (U3 * p + Ul) / (V2 * p + Vl) := Int.ediv_nonneg (by have := Int.mul_nonneg hU0 (Int.le_of_lt hp); omega) (Int.le_of_lt hpos)
  generalize (U3 * p + Ul) / (V2 * p + Vl) = k at *
  have h1 := Int.mul_nonneg hk hV0
  have h2 : k * V2 * p < (U3 + 1) * p := by grind
  have := Int.lt_of_mul_lt_mul_right h2 (Int.le_of_lt hp)
  omega
theorem guess_le {B U3 V2 Ul Vl p q : Int} (hp : 0 < p) (hB : B ≤ V2) (hB0 : 0 < B) (hU0 : 0 ≤ Ul) (hV0 : 0 ≤ Vl) (hV1 : Vl < p) (hq0 : 0 ≤ q) (hq : q ≤ B) (h : q * V2 ≤ U3) : q ≤ (U3 * p + Ul) / (V2 * p + Vl) + 1 := by
  have hV2 : 0 < V2 := by omega
  have hpos : 0 < V2 * p + Vl := by have := Int.mul_pos hV2 hp; omega
  have h1 : q - 1 ≤ (U3 * p + Ul) / (V2 * p + Vl) := by
    apply Wp hpos
    have a : q * V2 * p ≤ U3 * p := Int.mul_le_mul_of_nonneg_right h (Int.le_of_lt hp)
    have b : q * Vl ≤ B * p := Int.mul_le_mul hq (by omega) hV0 (by omega)
    have c : B * p ≤ V2 * p := Int.mul_le_mul_of_nonneg_right hB (Int.le_of_lt hp)
    have e : (q - 1) * (V2 * p + Vl) = q * V2 * p + q * Vl - V2 * p - Vl := by grind
    omega
  omega
theorem mul_step {c d t k : Int} (hc : 0 ≤ c ∧ c < Bs) (hd : 0 ≤ d ∧ d < Bs) (ht : 0 ≤ t ∧ t < Bs) (hk : 0 ≤ k ∧ k < Bs) :
    (c * d / Bs + (c * d % Bs + t + 0) / Bs) % Bs = c * d / Bs + (c * d % Bs + t + 0) / Bs ∧
    (c * d / Bs + (c * d % Bs + t + 0) / Bs + ((c * d % Bs + t + 0) % Bs + k + 0) / Bs) % Bs = c * d / Bs + (c * d % Bs + t + 0) / Bs + ((c * d % Bs + t + 0) % Bs + k + 0) / Bs ∧
    c * d + t + k = Bs * (c * d / Bs + (c * d % Bs + t + 0) / Bs + ((c * d % Bs + t + 0) % Bs + k + 0) / Bs) + ((c * d % Bs + t + 0) % Bs + k + 0) % Bs ∧
    0 ≤ c * d / Bs + (c * d % Bs + t + 0) / Bs + ((c * d % Bs + t + 0) % Bs + k + 0) / Bs ∧ c * d / Bs + (c * d % Bs + t + 0) / Bs + ((c * d % Bs + t + 0) % Bs + k + 0) / Bs < Bs := by
  have h := Yi (x := c) (y := d) (p := Bs - 1) (q := Bs - 1) ⟨hc.1, by omega⟩ ⟨hd.1, by omega⟩
  have e : (Bs - 1) * (Bs - 1) = 340282366920938463426481119284349108225 := by decide
  rw [e] at h
  generalize c * d = p at *
  simp only [Bs] at *
  omega
theorem take_step {q x c u b : Int} (hq : 0 ≤ q ∧ q < Bs) (hx : 0 ≤ x ∧ x < Bs) (hc : 0 ≤ c ∧ c < Bs) (hu : 0 ≤ u ∧ u < Bs) (hb : 0 ≤ b ∧ b ≤ 1) :
    (q * x / Bs + (q * x % Bs + c + 0) / Bs) % Bs = q * x / Bs + (q * x % Bs + c + 0) / Bs ∧
    (u - (q * x % Bs + c + 0) % Bs - b) % Bs + q * x + c = u - b + Bs * (if u < (q * x % Bs + c + 0) % Bs + b then 1 else 0) + Bs * (q * x / Bs + (q * x % Bs + c + 0) / Bs) ∧
    0 ≤ q * x / Bs + (q * x % Bs + c + 0) / Bs ∧ q * x / Bs + (q * x % Bs + c + 0) / Bs < Bs := by
  have h := Yi (x := q) (y := x) (p := Bs - 1) (q := Bs - 1) ⟨hq.1, by omega⟩ ⟨hx.1, by omega⟩
  have e : (Bs - 1) * (Bs - 1) = 340282366920938463426481119284349108225 := by decide
  rw [e] at h
  generalize q * x = p at *
  simp only [Bs] at *
  split <;> omega
theorem sub_step {x y b : Int} (hx : 0 ≤ x ∧ x < Bs) (hy : 0 ≤ y ∧ y < Bs) (hb : 0 ≤ b ∧ b ≤ 1) : (x - y - b) % Bs = x - y - b + Bs * (if x < y + b then 1 else 0) := by
  simp only [Bs] at *
  split <;> omega
theorem sum_step {x y c : Int} (hx : 0 ≤ x ∧ x < Bs) (hy : 0 ≤ y ∧ y < Bs) (hc : 0 ≤ c ∧ c ≤ 1) : (x + y + c) % Bs + Bs * ((x + y + c) / Bs) = x + y + c ∧ 0 ≤ (x + y + c) / Bs ∧ (x + y + c) / Bs ≤ 1 := by
  simp only [Bs] at *
  omega
end Go.PW
namespace Go.PW
theorem U0 {a b p : Int} (hp : 0 < p) : a * p % (b * p) = a % b * p := by
  rw [Int.mul_comm a p, Int.mul_comm b p, Int.mul_emod_mul_of_pos _ _ hp, Int.mul_comm]
theorem Vo {s : Nat} (hs : s ≤ 64) : (2 : Int) ^ s * 2 ^ (64 - s) = Bs := by
  rw [← Int.pow_add, show s + (64 - s) = 64 by omega]; decide
theorem Xv (s : Nat) : (0 : Int) < 2 ^ s := Int.pow_pos (by decide)
theorem shl_split {x : Int} {s : Nat} (hs : s ≤ 64) (hx : 0 ≤ x) : x * 2 ^ s = x * 2 ^ s % Bs + Bs * (x / 2 ^ (64 - s)) ∧ x * 2 ^ s % Bs = x % 2 ^ (64 - s) * 2 ^ s := by
  have hp := Xv s
  have hq := Xv (64 - s)
  have h := Vo hs
  have e : Bs = 2 ^ (64 - s) * 2 ^ s := by rw [← h, Int.mul_comm]
  have e1 : x * 2 ^ s / Bs = x / 2 ^ (64 - s) := by rw [e, Int.mul_ediv_mul_of_pos_left _ _ hp]
  have e2 : x * 2 ^ s % Bs = x % 2 ^ (64 - s) * 2 ^ s := by rw [e, U0 hp]
  refine ⟨?_, e2⟩
  rw [← e1]
  have := Int.emod_add_mul_ediv (x * 2 ^ s) Bs
  omega
theorem shr_lt {x : Int} {s : Nat} (hs : s ≤ 64) (hx : x < Bs) : x / 2 ^ (64 - s) < 2 ^ s := by
  apply Int.ediv_lt_of_lt_mul (Xv _)
  rw [Vo hs]; exact hx
theorem guess_start {B u2 u1 u0 v1 v0 : Int} (hB : 0 < B) (h2 : 0 ≤ u2) (h1 : 0 ≤ u1) (h0 : 0 ≤ u0) (h0' : u0 < B) (hv1 : 0 < v1) (hv0 : 0 ≤ v0) : ((u2 * B + u1) * B + u0) / (v1 * B + v0) ≤ (u2 * B + u1) / v1 :=
  J07 hB hv1 h0' hv0 (by have := Int.mul_nonneg h2 (Int.le_of_lt hB); omega) h0
theorem guess_done {B u2 u1 u0 v1 v0 q r : Int} (hB : 0 < B) (hv1 : 0 < v1) (hv0 : 0 ≤ v0) (hr : q * v1 + r = u2 * B + u1) (ht : q * v0 ≤ r * B + u0) : q ≤ ((u2 * B + u1) * B + u0) / (v1 * B + v0) := by
  have hpos : 0 < v1 * B + v0 := by have := Int.mul_pos hv1 hB; omega
  apply Wp hpos
  have e : q * (v1 * B + v0) = q * v1 * B + q * v0 := by grind
  have e2 : (u2 * B + u1) * B = q * v1 * B + r * B := by rw [← hr]; grind
  omega
theorem guess_more {B u2 u1 u0 v1 v0 q r : Int} (hB : 0 < B) (hv1 : 0 < v1) (hv0 : 0 ≤ v0) (hr : q * v1 + r = u2 * B + u1) (ht : r * B + u0 < q * v0) : ((u2 * B + u1) * B + u0) / (v1 * B + v0) ≤ q - 1 := by
  have hpos : 0 < v1 * B + v0 := by have := Int.mul_pos hv1 hB; omega
  have : ((u2 * B + u1) * B + u0) / (v1 * B + v0) < q := by
    rw [Int.ediv_lt_iff_lt_mul hpos]
    have e : q * (v1 * B + v0) = q * v1 * B + q * v0 := by grind
    have e2 : (u2 * B + u1) * B = q * v1 * B + r * B := by rw [← hr]; grind
    omega
  omega
theorem guess_test {p r u0 : Int} (hp : 0 ≤ p) (h0 : 0 ≤ u0 ∧ u0 < Bs) : (p / Bs < r ∨ p / Bs = r ∧ p % Bs ≤ u0) ↔ p ≤ r * Bs + u0 := by
  simp only [Bs] at *
  omega
theorem set_mid {α : Type} (a w b : List α) (i : Nat) (x : α) (h : i < w.length) : (a ++ w ++ b).set (a.length + i) x = a ++ w.set i x ++ b := by
  rw [List.append_assoc, List.set_append_right _ _ (by omega), show a.length + i - a.length = i by omega, List.set_append_left _ _ h, List.append_assoc]
theorem J1e (a w b : List Int) (i : Nat) (h : i < w.length) : (a ++ w ++ b).getD (a.length + i) 0 = w.getD i 0 := by
  rw [List.append_assoc, List.getD_eq_getElem?_getD, List.getElem?_append_right (by omega), show a.length + i - a.length = i by omega, List.getElem?_append_left h, ← List.getD_eq_getElem?_getD]
theorem split_mid {α : Type} (us : List α) {o k : Nat} (h : o + k ≤ us.length) : us = us.take o ++ (us.drop o).take k ++ us.drop (o + k) := by
  rw [List.append_assoc]
  have : (us.drop o).take k ++ us.drop (o + k) = us.drop o := by
    rw [← List.drop_drop, List.take_append_drop]
  rw [this, List.take_append_drop]
theorem top_le {xs ys : List Int} (hx : Limbs xs) (hy : Limbs ys) {m : Nat} (hlx : xs.length = m + 1) (hly : ys.length = m + 1) (h : val xs < val ys) : xs.getD m 0 ≤ ys.getD m 0 := by
  have a := Qz xs (i := m) (by omega)
  have b := Qz ys (i := m) (by omega)
  rw [List.take_of_length_le (by omega)] at a b
  have c := Qq (hx.take m)
  have d := Qq (hy.take m)
  rw [List.length_take, Nat.min_eq_left (by omega)] at c d
  rcases Int.lt_or_le (ys.getD m 0) (xs.getD m 0) with hlt | hle
  · exfalso
    have := Int.mul_le_mul_of_nonneg_left (show ys.getD m 0 + 1 ≤ xs.getD m 0 by omega) (Int.le_of_lt (X0 m))
    rw [Int.mul_add] at this
    omega
  · exact hle
theorem top_two {xs : List Int} {m : Nat} (hl : xs.length = m + 2) : val xs = (xs.getD (m + 1) 0 * Bs + xs.getD m 0) * Bs ^ m + val (xs.take m) := by
  have a := Qz xs (i := m + 1) (by omega)
  have b := Qz xs (i := m) (by omega)
  rw [List.take_of_length_le (by omega)] at a
  rw [Int.pow_succ] at a
  grind
theorem top_three {xs : List Int} {m : Nat} (hl : xs.length = m + 3) : val xs = ((xs.getD (m + 2) 0 * Bs + xs.getD (m + 1) 0) * Bs + xs.getD m 0) * Bs ^ m + val (xs.take m) := by
  have a := Qz xs (i := m + 2) (by omega)
  have b := Qz xs (i := m + 1) (by omega)
  have c := Qz xs (i := m) (by omega)
  rw [List.take_of_length_le (by omega)] at a
  rw [Int.pow_succ, Int.pow_succ] at a
  rw [Int.pow_succ] at b
  grind
theorem div_digit {U V B u : Int} (hV : 0 < V) (hu : 0 ≤ u) : (B * U + u) / V = B * (U / V) + (B * (U % V) + u) / V ∧ (B * U + u) % V = (B * (U % V) + u) % V := by
  have h := Int.emod_add_mul_ediv U V
  have e : B * U + u = (B * (U % V) + u) + V * (B * (U / V)) := by
    conv => lhs; rw [← h]
    grind
  rw [e, Int.add_mul_ediv_left _ _ (by omega), Int.add_mul_emod_self_left]
  exact ⟨by omega, rfl⟩
theorem shr_join {z : Int} {s : Nat} (hs : s ≤ 64) (hz : 0 ≤ z) : z % Bs / 2 ^ s + z / Bs % Bs * 2 ^ (64 - s) % Bs = z / 2 ^ s % Bs := by
  have hp := Xv s
  have hq := Xv (64 - s)
  have e : Bs = 2 ^ s * 2 ^ (64 - s) := (Vo hs).symm
  have h := Int.emod_add_mul_ediv z Bs
  have h1 : z / 2 ^ s = z % Bs / 2 ^ s + 2 ^ (64 - s) * (z / Bs) := by
    conv => lhs; rw [← h]
    rw [show z % Bs + Bs * (z / Bs) = z % Bs + 2 ^ s * (2 ^ (64 - s) * (z / Bs)) by rw [← Int.mul_assoc, ← e], Int.add_mul_ediv_left _ _ (by omega)]
  rw [h1]
  have h2 : 0 ≤ z % Bs / 2 ^ s := Int.ediv_nonneg (Int.emod_nonneg _ (by decide)) (by omega)
  have h3 : z % Bs / 2 ^ s < 2 ^ (64 - s) := by
    apply Int.ediv_lt_of_lt_mul hp
    rw [Int.mul_comm, ← e]
    exact Int.emod_lt_of_pos _ (by decide)
  have h4 : z / Bs % Bs * 2 ^ (64 - s) % Bs = z / Bs % 2 ^ s * 2 ^ (64 - s) := by
    generalize z / Bs = k
    rw [e, U0 hq, Int.emod_emod_of_dvd _ ⟨_, rfl⟩]
  have h5 : 2 ^ (64 - s) * (z / Bs) % Bs = z / Bs % 2 ^ s * 2 ^ (64 - s) := by
    generalize z / Bs = k
    rw [Int.mul_comm, e, U0 hq]
  rw [h4, Int.add_emod, h5]
  have h6 : z / Bs % 2 ^ s * 2 ^ (64 - s) ≤ (2 ^ s - 1) * 2 ^ (64 - s) := Int.mul_le_mul_of_nonneg_right (by have := Int.emod_lt_of_pos (z / Bs) hp; omega) (Int.le_of_lt hq)
  have h7 : 0 ≤ z / Bs % 2 ^ s * 2 ^ (64 - s) := Int.mul_nonneg (Int.emod_nonneg _ (by omega)) (Int.le_of_lt hq)
  rw [Int.sub_mul, ← e] at h6
  generalize z / Bs % 2 ^ s * 2 ^ (64 - s) = k at *
  generalize z % Bs / 2 ^ s = l at *
  generalize (2 : Int) ^ (64 - s) = t at *
  have h8 : t ≤ Bs := by
    have := Int.mul_le_mul_of_nonneg_right (show (1 : Int) ≤ 2 ^ s by omega) (Int.le_of_lt hq)
    omega
  rw [Int.emod_eq_of_lt h2 (by omega), Int.emod_eq_of_lt (by omega) (by omega)]
end Go.PW
namespace Go.PW
theorem take_val {p q y c z b x b' c' vz vt vw : Int} (hx : x + q * y + c = z - b + Bs * b' + Bs * c') (h : vz + q * vt = vw + p * (b + c)) : vz + p * (x - z) + q * (vt + p * y) = vw + p * Bs * (b' + c') := by
  have e : x - z = Bs * (b' + c') - q * y - c - b := by rw [Int.mul_add]; omega
  rw [e]
  generalize Bs = B at *
  grind
theorem take_last {p q c z b x b' vz V vw : Int} (hx : x = z - c - b + Bs * b') (h : vz + q * V = vw + p * (b + c)) : vz + p * (x - z) + q * V = vw + p * Bs * b' := by
  have e : x - z = Bs * b' - c - b := by omega
  rw [e]
  generalize Bs = B at *
  grind
theorem back_val {p y c z x c' vz vt v0 : Int} (hx : x + Bs * c' = z + y + c) (h : vz + p * c = v0 + vt) : vz + p * (x - z) + p * Bs * c' = v0 + (vt + p * y) := by
  have e : x - z = y + c - Bs * c' := by omega
  rw [e]
  generalize Bs = B at *
  grind
theorem back_last {p c z x t vz V v0 : Int} (hx : x + Bs * t = z + c) (h : vz + p * c = v0 + V) : vz + p * (x - z) = v0 + V - p * Bs * t := by
  have e : x - z = c - Bs * t := by omega
  rw [e]
  generalize Bs = B at *
  grind
theorem take_right {n V q v : Int} (hV : 0 < V) (hv : 0 ≤ v) (he : v + q * V = n) (hq : n / V ≤ q) : q = n / V ∧ v = n % V := by
  have h1 : q ≤ n / V := Wp hV (by omega)
  obtain rfl : q = n / V := by omega
  have := Int.emod_add_mul_ediv n V
  rw [Int.mul_comm] at this
  exact ⟨rfl, by omega⟩
theorem take_over {n V q v f P t : Int} (hV : 0 < V) (hVP : V ≤ P) (hv : v < P) (hf : 0 ≤ f ∧ f < P) (he : v + q * V = n + P) (hq : q ≤ n / V + 1) (hfe : f = v + V - P * t) : q - 1 = n / V ∧ f = n % V := by
  have h1 : n / V < q := by
    rw [Int.ediv_lt_iff_lt_mul hV]; omega
  have hq' : q - 1 = n / V := by omega
  have hm := Int.emod_add_mul_ediv n V
  rw [Int.mul_comm, ← hq', Int.sub_mul, Int.one_mul] at hm
  have hm0 := Int.emod_nonneg n (b := V) (by omega)
  have hm1 := Int.emod_lt_of_pos n hV
  refine ⟨hq', ?_⟩
  have hd : f = n % V + P * (1 - t) := by rw [Int.mul_sub]; omega
  rcases Int.lt_trichotomy (1 - t) 0 with h | h | h
  · have := Int.mul_le_mul_of_nonneg_left (show 1 - t ≤ -1 by omega) (show 0 ≤ P by omega)
    omega
  · rw [h] at hd; omega
  · have := Int.mul_le_mul_of_nonneg_left (show 1 ≤ 1 - t by omega) (show 0 ≤ P by omega)
    omega
end Go.PW

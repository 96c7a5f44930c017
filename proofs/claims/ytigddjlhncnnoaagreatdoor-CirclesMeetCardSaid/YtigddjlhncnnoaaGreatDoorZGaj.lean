/- Part 10 of the proof of laws of this seat: lemmas on the model's code, on this program's functions, on numbers. No condition. -/
import Derived.Test.YtigddjlhncnnoaaGreatDoorZGai
set_option linter.unusedVariables false
set_option linter.unusedSimpArgs false
open Nat renaming reduceEqDiff → J0, reduceLeDiff → J1, reduceMul → J2, reduceAdd → J3, reduceSub → J4, reduceLT → J5
open Int renaming reduceToNat → J6, reducePow → J7, reduceNeg → J8, reduceLT → J9, reduceLE → Ja, reduceEq → Jb
open And renaming intro → Jc
open Go.IntKind renaming bits → Jd
namespace Go.AL
theorem splice_cs (c : AV) (cs ds : List AV) (n : Nat) : Q2 (c :: cs) (n + 1) ds = c :: Q2 cs n ds := by
  simp only [Q2, List.take_succ_cons, List.cons_append, List.append_assoc]
  rw [show n + 1 + ds.length = (n + ds.length) + 1 by omega, List.drop_succ_cons]
theorem splice_cz (c d : AV) (cs ds : List AV) : Q2 (c :: cs) 0 (d :: ds) = d :: Q2 cs 0 ds := by
  simp only [Q2, List.take_zero, List.nil_append, List.cons_append, List.length_cons, Nat.zero_add, List.drop_succ_cons]
theorem splice_n (cs : List AV) : Q2 cs 0 [] = cs := by simp [Q2]
theorem RZ : type_of% (Jc @Jq (Jc @hget_s (Jc @K9 (Jc @Um (Jc @aload_fp (Jc @List.set_cons_zero.{0} (Jc @List.set_cons_succ.{0} (Jc @AV.solid_fz (Jc @AV.one_fz (Jc @AV.cells_fz (Jc @AV.solid_fp (Jc @AV.one_fp (Jc @AV.cells_fp (Jc @List.length_map.{0,0} (Jc @splice_cs (Jc @splice_cz (Jc @splice_n (Jc @J1x (Jc @take_all (Jc @G3 (@Vg))))))))))))))))))))) := Jc @Jq (Jc @hget_s (Jc @K9 (Jc @Um (Jc @aload_fp (Jc @List.set_cons_zero.{0} (Jc @List.set_cons_succ.{0} (Jc @AV.solid_fz (Jc @AV.one_fz (Jc @AV.cells_fz (Jc @AV.solid_fp (Jc @AV.one_fp (Jc @AV.cells_fp (Jc @List.length_map.{0,0} (Jc @splice_cs (Jc @splice_cz (Jc @splice_n (Jc @J1x (Jc @take_all (Jc @G3 (@Vg))))))))))))))))))))
theorem dec_T {i : Decidable True} : @decide True i = true := decide_eq_true trivial
theorem dec_F {i : Decidable False} : @decide False i = false := decide_eq_false id
theorem RF : type_of% (Jc @Frz_int (Jc @Frz_bool (Jc @Frz_str (Jc @Frz_nilI (Jc @Frz_nilP (Jc @Frz_agg (Jc @Frz_tup (Jc @Frz_ifc (Jc @Frzs_nil (Jc @J1r (Jc @Frz_fz (Jc @Frz_fp (Jc @Frz_nilS (Jc @and_self (Jc @and_true (Jc @true_and (Jc @dec_T (@dec_F)))))))))))))))))) := Jc @Frz_int (Jc @Frz_bool (Jc @Frz_str (Jc @Frz_nilI (Jc @Frz_nilP (Jc @Frz_agg (Jc @Frz_tup (Jc @Frz_ifc (Jc @Frzs_nil (Jc @J1r (Jc @Frz_fz (Jc @Frz_fp (Jc @Frz_nilS (Jc @and_self (Jc @and_true (Jc @true_and (Jc @dec_T (@dec_F)))))))))))))))))
theorem AV.lts_mapi {k : IntKind} {xs : List Int} : AV.lts 0 (xs.map (AV.int k)) = True := eq_true (AV.lts_ints xs)
theorem AV.lt_tup {cs : List AV} : AV.lt 0 (.tup cs) = AV.lts 0 cs := by simp only [AV.lt]
theorem RT : type_of% (Jc @AV.lts_z (Jc @AV.lts_s (Jc @AV.lt_agg (Jc @AV.lt_int (Jc @AV.lt_bool (Jc @AV.lt_str (Jc @AV.lt_fz (Jc @AV.lt_fp (Jc @AV.lt_nilI (Jc @AV.lt_nilP (Jc @AV.lt_nilS (Jc @AV.lt_ifc (Jc @AV.lts_mapi (Jc @AV.lt_tup (Jc @and_self (Jc @and_true (@true_and))))))))))))))))) := Jc @AV.lts_z (Jc @AV.lts_s (Jc @AV.lt_agg (Jc @AV.lt_int (Jc @AV.lt_bool (Jc @AV.lt_str (Jc @AV.lt_fz (Jc @AV.lt_fp (Jc @AV.lt_nilI (Jc @AV.lt_nilP (Jc @AV.lt_nilS (Jc @AV.lt_ifc (Jc @AV.lts_mapi (Jc @AV.lt_tup (Jc @and_self (Jc @and_true (@true_and))))))))))))))))
theorem RG : type_of% (@drop_int) := @drop_int
mutual
theorem Frz.self {H : Hp} : ∀ {c : AV}, c.lt 0 → Frz H c c
  | .fz _ _, _ => Frz_fz
  | .fp _, _ => Frz_fp
  | .agg cs, h => by rw [Frz_agg]; exact Frzs.self (by simpa only [AV.lt] using h)
  | .tup cs, h => by rw [Frz_tup]; exact Frzs.self (by simpa only [AV.lt] using h)
  | .ifc t x, h => by rw [Frz_ifc]; exact Frz.self (by simpa only [AV.lt] using h)
  | .ptr _ _, h => absurd h (Nat.not_lt_zero _)
  | .sl _ _ _ _, h => absurd h (Nat.not_lt_zero _)
  | .sg _ _ _ _, h => absurd h (Nat.not_lt_zero _)
  | .undef, _ => by simp only [Frz]
  | .int _ _, _ => by rw [Frz_int]
  | .bool _, _ => by rw [Frz_bool]
  | .str _, _ => by rw [Frz_str]
  | .nilI, _ => by rw [Frz_nilI]
  | .nilP, _ => by rw [Frz_nilP]
  | .nilS, _ => by simp only [Frz]
  | .fn _, _ => by simp only [Frz]
theorem Frzs.self {H : Hp} : ∀ {cs : List AV}, AV.lts 0 cs → Frzs H cs cs
  | [], _ => by simp only [Frzs]
  | c :: cs, h => by rw [J1r]; exact ⟨Frz.self h.1, Frzs.self h.2⟩
end
theorem Sure.st {P : Program} {n0 : Blk} {f : FuncId} {args : List AV} {v : AV} (hcl : AV.lts 0 args) (hv : v.lt 0) (h : ∀ H, ACalls P f args H fun r H' => r = v ∧ H = H') : Sure P n0 f args v := ⟨hcl, (h _).s.mono fun r H' ⟨e, _⟩ => by subst e; exact Frz.self hv⟩
theorem Wg {H : Hp} : Frzs H [] [] := by simp only [Frzs]
theorem Vo {H : Hp} {c d : AV} {cs ds : List AV} (h : Frz H c d) (k : Frzs H cs ds) : Frzs H (c :: cs) (d :: ds) := by rw [J1r]; exact ⟨h, k⟩
theorem Ra {H : Hp} {h n c z : Nat} {b : Blk} {cs : List AV} (hb : X3 H h = some b) (hk : b.kind = .own) (hc : n ≤ c) (he : cs = b.cells) (hl : cs.length = n * z) (hs : AV.lts 0 cs) : Frz H (.fz n cs) (.sl h 0 n c) := by
  subst he
  exact Frz_sl (z := z) hb (by rw [hk]; decide) hc (by omega) (by rw [List.drop_zero, ← hl, List.take_length]; exact Frzs.self hs)
end Go.AL
namespace Go.AL
open Go.RowKit
theorem Src_nil {β : Env} {a : Addr} {r : AV} (s : Src β [] a r) : β.fz a r := by
  rcases s with h | ⟨h, b, i, hb, _⟩
  · exact h
  · simp at hb
end Go.AL
namespace Go.AL
open Go.RowKit
def To (n : Sc) (fr : Fr) (H : Hp) (fr2 : Fr) (H2 : Hp) : Prop :=
  n.n ≤ H.length → ∀ (w0 : World) (B : Nat) (β : Env) (w : World) (t : Array Value), (n.s = true → ¬ β.leg) → Rel w0 B β H w → FR β H.length fr t → ∃ β2, Agree n.n β β2 ∧ n.n ≤ H2.length ∧ FR β2 H2.length fr2 t ∧ Rel w0 B β2 H2 w
section
variable {n : Sc} {fr fr1 fr2 : Fr} {H H1 H2 : Hp} {P : Program} {c : Code} {Q : Exit → Fr → Hp → Prop}
theorem To.refl : To n fr H fr H := fun hn w0 B β w t hL R F => ⟨β, Agree.refl _ _, hn, F, R⟩
theorem To.trans (h : To n fr H fr1 H1) (k : To n fr1 H1 fr2 H2) : To n fr H fr2 H2 := fun hn w0 B β w t hL R F => by
  obtain ⟨b1, a1, n1, F1, R1⟩ := h hn w0 B β w t hL R F
  obtain ⟨b2, a2, n2, F2, R2⟩ := k n1 w0 B b1 w t (by rw [a1.leg]; exact hL) R1 F1
  exact ⟨b2, a1.trans a2 (Nat.le_refl _), n2, F2, R2⟩
end
def posn : List Nat → Nat → Option Nat
  | [], _ => none
  | k :: ks, h => if h = k then some 0 else (posn ks h).map (· + 1)
theorem posn_get : ∀ {ks : List Nat} {h i : Nat}, posn ks h = some i → ks[i]? = some h
  | [], h, i, e => by cases e
  | k :: ks, h, i, e => by
    unfold posn at e
    split at e
    · rename_i hk; subst hk; cases e; rfl
    · obtain ⟨j, hj, rfl⟩ := Option.map_eq_some_iff.1 e
      simpa using posn_get hj
mutual
def Kh (ks : List Nat) : AV → AV
  | .sl k o n c => match posn ks k with | some k' => .sl k' o n c | none => .undef
  | .sg k o n z => match posn ks k with | some k' => .sg k' o n z | none => .undef
  | .ptr k o => match posn ks k with | some k' => .ptr k' o | none => .undef
  | .ifc t x => .ifc t (Kh ks x)
  | .agg l => .agg (J1j ks l)
  | .tup l => .tup (J1j ks l)
  | .undef => .undef
  | .int k n => .int k n
  | .bool b => .bool b
  | .str s => .str s
  | .nilI => .nilI
  | .nilP => .nilP
  | .nilS => .nilS
  | .fn f => .fn f
  | .fz n l => .fz n l
  | .fp l => .fp l
def J1j (ks : List Nat) : List AV → List AV
  | [] => []
  | c :: l => Kh ks c :: J1j ks l
end
theorem Rm (ks : List Nat) : ∀ l, J1j ks l = l.map (Kh ks)
  | [] => rfl
  | c :: l => by rw [J1j, Rm ks l]; rfl
mutual
theorem renv_vr {β β2 : Env} {ks : List Nat} (hp : ∀ i h, ks[i]? = some h → β2 i = β h) (hf : ∀ a c, β.fz a c → β2.fz a c) : ∀ (c : AV) (v : Value), VR β c v → VR β2 (Kh ks c) v
  | .sl k o n c, v, hv => by
    unfold Kh
    cases hk : posn ks k with
    | none => trivial
    | some k' => simp only [VR] at hv ⊢; rw [hp _ _ (posn_get hk)]; exact hv
  | .sg k o n z, v, hv => by
    unfold Kh
    cases hk : posn ks k with
    | none => trivial
    | some k' => simp only [VR] at hv ⊢; rw [hp _ _ (posn_get hk)]; exact hv
  | .ptr k o, v, hv => by
    unfold Kh
    cases hk : posn ks k with
    | none => trivial
    | some k' => simp only [VR] at hv ⊢; rw [hp _ _ (posn_get hk)]; exact hv
  | .ifc t x, v, hv => by
    simp only [VR, Kh] at hv ⊢
    obtain ⟨y, rfl, hy⟩ := hv
    exact ⟨y, rfl, renv_vr hp hf x y hy⟩
  | .agg l, v, hv => by
    simp only [VR, Kh] at hv ⊢
    obtain ⟨y, rfl, hy⟩ := hv
    exact ⟨y, rfl, renvs_vr hp hf l y.toList hy⟩
  | .tup l, v, hv => by
    simp only [VR, Kh] at hv ⊢
    obtain ⟨y, rfl, hy⟩ := hv
    exact ⟨y, rfl, renvs_vr hp hf l y.toList hy⟩
  | .fz n l, v, hv => by
    simp only [VR, Kh] at hv ⊢
    obtain ⟨a, c, rfl, h1, h2, h3⟩ := hv
    exact ⟨a, c, rfl, h1, h2, h3.imp id fun ⟨x, e, hx⟩ => ⟨x, e, fun i ci hi => hf _ _ (hx i ci hi)⟩⟩
  | .fp l, v, hv => by
    simp only [VR, Kh] at hv ⊢
    obtain ⟨x, rfl, hx⟩ := hv
    exact ⟨x, rfl, fun i ci hi => hf _ _ (hx i ci hi)⟩
  | .undef, _, _ => trivial
  | .int _ _, _, hv => hv
  | .bool _, _, hv => hv
  | .str _, _, hv => hv
  | .nilI, _, hv => hv
  | .nilP, _, hv => hv
  | .nilS, _, hv => hv
  | .fn _, _, hv => hv
theorem renvs_vr {β β2 : Env} {ks : List Nat} (hp : ∀ i h, ks[i]? = some h → β2 i = β h) (hf : ∀ a c, β.fz a c → β2.fz a c) : ∀ (cs : List AV) (l : List Value), VRs β cs l → VRs β2 (J1j ks cs) l
  | [], _, hv => hv
  | c :: cs, l, hv => by
    simp only [VRs, J1j] at hv ⊢
    obtain ⟨x, xs, rfl, hx, hxs⟩ := hv
    exact ⟨x, xs, rfl, renv_vr hp hf c x hx, renvs_vr hp hf cs xs hxs⟩
end
theorem posn_lt {ks : List Nat} {h i : Nat} (e : posn ks h = some i) : i < ks.length := (List.getElem?_eq_some_iff.1 (posn_get e)).1
mutual
theorem renv_lt (ks : List Nat) : ∀ (c : AV), (Kh ks c).lt ks.length
  | .sl k o n c => by
    unfold Kh
    cases hk : posn ks k with
    | none => trivial
    | some k' => exact posn_lt hk
  | .sg k o n z => by
    unfold Kh
    cases hk : posn ks k with
    | none => trivial
    | some k' => exact posn_lt hk
  | .ptr k o => by
    unfold Kh
    cases hk : posn ks k with
    | none => trivial
    | some k' => exact posn_lt hk
  | .ifc t x => by simp only [AV.lt, Kh]; exact renv_lt ks x
  | .agg l => by simp only [AV.lt, Kh]; exact renvs_lt ks l
  | .tup l => by simp only [AV.lt, Kh]; exact renvs_lt ks l
  | .fz _ _ => trivial
  | .fp _ => trivial
  | .undef => trivial
  | .int _ _ => trivial
  | .bool _ => trivial
  | .str _ => trivial
  | .nilI => trivial
  | .nilP => trivial
  | .nilS => trivial
  | .fn _ => trivial
theorem renvs_lt (ks : List Nat) : ∀ (cs : List AV), AV.lts ks.length (J1j ks cs)
  | [] => trivial
  | c :: cs => ⟨renv_lt ks c, renvs_lt ks cs⟩
end
def keepB (ks : List Nat) (H : Hp) (k : Nat) : Blk := match X3 H k with | some b => ⟨J1j ks b.cells, b.kind, b.ety⟩ | none => ⟨[], .dead, 0⟩
def keepH (ks : List Nat) (H : Hp) : Hp := ks.map (keepB ks H)
def keeps (n : Nat) (ks : List Nat) : Bool := (List.range n).all (fun h => ks[h]? == some h) && decide ks.Nodup
theorem G4 {ks : List Nat} {H : Hp} {i : Nat} {b : Blk} (h : (keepH ks H)[i]? = some b) (hd : b.kind ≠ .dead) : ∃ k b0, ks[i]? = some k ∧ H[k]? = some b0 ∧ b = ⟨J1j ks b0.cells, b0.kind, b0.ety⟩ := by
  unfold keepH at h
  rw [List.getElem?_map] at h
  obtain ⟨k, hk, rfl⟩ := Option.map_eq_some_iff.1 h
  unfold keepB at hd ⊢
  cases hb : X3 H k with
  | none => rw [hb] at hd; exact absurd rfl hd
  | some b0 => exact ⟨k, b0, hk, hb, rfl⟩
theorem Rel.keep {w0 : World} {B : Nat} {β : Env} {H : Hp} {w : World} (R : Rel w0 B β H w) {ks : List Nat} (hnd : ks.Nodup) : Rel w0 B ⟨fun i => β (ks.getD i 0), β.fz, β.fz0, β.leg⟩ (keepH ks H) w := by
  have hlen : (keepH ks H).length = ks.length := by simp [keepH]
  have hp : ∀ i h, ks[i]? = some h → (⟨fun i => β (ks.getD i 0), β.fz, β.fz0, β.leg⟩ : Env) i = β h := fun i h e => by
    show β (ks.getD i 0) = β h
    rw [List.getD_eq_getElem?_getD, e]; rfl
  refine ⟨R.below, R.base, ?_, ?_, ?_, ?_, ?_, ?_, ?_⟩
  · intro i b hb hd j c hc
    obtain ⟨k, b0, hk, h0, rfl⟩ := G4 hb hd
    simp only [Rm, List.getElem?_map] at hc
    obtain ⟨c0, hc0, rfl⟩ := Option.map_eq_some_iff.1 hc
    obtain ⟨v, h1, h2, h3⟩ := R.cells k b0 h0 hd j c0 hc0
    rw [hp i k hk]
    exact ⟨v, h1, by refine renv_vr (β := β) hp ?_ c0 v h2; exact fun _ _ h => h, h3⟩
  · intro i b hb hd c hc
    obtain ⟨k, b0, hk, h0, rfl⟩ := G4 hb hd
    simp only [Rm] at hc
    obtain ⟨c0, _, rfl⟩ := List.mem_map.1 hc
    rw [hlen]
    exact renv_lt ks c0
  · intro i b hb ho
    obtain ⟨k, b0, hk, h0, rfl⟩ := G4 hb (by rw [ho]; decide)
    rw [hp i k hk]
    obtain ⟨g, cur, e, h1, h2, h3, h4⟩ := R.own k b0 h0 ho
    exact ⟨g, cur, e, h1, h2, by simpa [Rm] using h3, h4⟩
  · intro i b hb a t v e hkd
    obtain ⟨k, b0, hk, h0, rfl⟩ := G4 hb (by rw [hkd]; intro h; cases h)
    exact R.glob k b0 h0 a t v e hkd
  · intro i i' b b' hne hb hb' ho hd' hcs
    obtain ⟨k, b0, hk, h0, rfl⟩ := G4 hb (by rw [ho]; decide)
    obtain ⟨k', b0', hk', h0', rfl⟩ := G4 hb' hd'
    rw [hp i k hk, hp i' k' hk']
    refine R.sep k k' b0 b0' ?_ h0 h0' ho hd' (hcs.imp id fun h e => h (by simp [Rm, e]))
    intro e
    subst e
    have h1 := (List.getElem?_eq_some_iff.1 hk).1
    exact hne ((List.getElem?_inj h1 hnd).1 (hk.trans hk'.symm))
  · intro a c hf
    obtain ⟨h1, ⟨v, h2, h3, h4⟩, h5, h6⟩ := R.fzn a c hf
    refine ⟨h1, ⟨v, h2, by refine J1q (β := β) ?_ h1 h3; exact fun _ _ h => h, h4⟩, fun i b hb ho => ?_, h6⟩
    obtain ⟨k, b0, hk, h0, rfl⟩ := G4 hb (by rw [ho]; decide)
    rw [hp i k hk]
    exact h5 k b0 h0 ho
  · intro i b hb h1 h2 h3
    obtain ⟨k, b0, hk, h0, rfl⟩ := G4 hb h2
    rw [hp i k hk]
    exact R.roB k b0 h0 h1 h2 (fun e => h3 (by simp [Rm, e]))
theorem To.keep {n : Sc} {fr : Fr} {H : Hp} (ks : List Nat) (hk : keeps n.n ks = true) : To n fr H (fun t => Kh ks (fr t)) (keepH ks H) := fun hn w0 B β w t hL R F => by
  unfold keeps at hk
  simp only [Bool.and_eq_true, List.all_eq_true, List.mem_range, beq_iff_eq, decide_eq_true_eq] at hk
  obtain ⟨hk, hnd⟩ := hk
  have hlen : (keepH ks H).length = ks.length := by simp [keepH]
  have hp : ∀ i h, ks[i]? = some h → (⟨fun i => β (ks.getD i 0), β.fz, β.fz0, β.leg⟩ : Env) i = β h := fun i h e => by
    show β (ks.getD i 0) = β h
    rw [List.getD_eq_getElem?_getD, e]; rfl
  refine ⟨_, ⟨fun h hh => hp h h (hk h hh), fun _ _ h => h, rfl, rfl⟩, ?_, fun t => ⟨?_, ?_⟩, R.keep hnd⟩
  · rw [hlen]
    generalize n.n = m at hk
    cases m with
    | zero => exact Nat.zero_le _
    | succ m => exact (List.getElem?_eq_some_iff.1 (hk m (Nat.lt_succ_self m))).1
  · refine renv_vr (β := β) hp ?_ _ _ (F t).1
    exact fun _ _ h => h
  · rw [hlen]; exact renv_lt ks _
theorem Rel.less {w0 : World} {B : Nat} {β : Env} {H : Hp} {w : World} (R : Rel w0 B β H w) : Rel w0 B (β.all [] β) H w := by
  have R00 : Rel w0 B β [] w := ⟨R.below, R.base, fun h b hb => by simp at hb, fun h b hb => by simp at hb, fun h b hb => by simp at hb, fun h b hb => by simp at hb, fun h h' b b' _ hb => by simp at hb,
    fun a c hf => ⟨(R.fzn a c hf).1, (R.fzn a c hf).2.1, fun h b hb => by simp at hb, (R.fzn a c hf).2.2.2⟩, fun h b hb => by simp at hb⟩
  refine ⟨R.below, R.base, fun h b hb hd i c hc => ?_, R.lts, R.own, R.glob, R.sep, fun a c hf => ?_, R.roB⟩
  · obtain ⟨v, h1, h2, h3⟩ := R.cells h b hb hd i c hc
    exact ⟨v, h1, by refine Rg (β := β) (n := H.length) ?_ ?_ c v (R.lts h b hb hd c (List.mem_of_getElem? hc)) h2; exact fun _ _ => rfl; exact fun _ _ h => Or.inl h, h3⟩
  · obtain ⟨h1, h2⟩ := Env.all_fz (β2 := β) R00 hf
    refine ⟨h1, h2, ?_⟩
    rcases hf with hf | ⟨r, s, _⟩
    · exact (R.fzn a c hf).2.2
    · exact (R.fzn a r (Src_nil s)).2.2
theorem To.put {n : Sc} {fr : Fr} {H : Hp} (t : Nat) (c : AV) (h : Frz [] c (fr t)) : To n fr H (fr.put (some t) c) H := fun hn w0 B β w ts hL R F => by
  refine ⟨β.all [] β, ⟨fun _ _ => rfl, fun _ _ h => Or.inl h, rfl, rfl⟩, hn, fun s => ?_, R.less⟩
  by_cases hs : s = t
  · subst hs
    rw [show (fr.put (some s) c) s = c by simp [Fr.put]]
    exact ⟨Frz.vr (β2 := β) _ _ _ h (F s).1, AV.lt_mono (Nat.zero_le _) _ (Frz.closed _ _ h)⟩
  · rw [show (fr.put (some t) c) s = fr s by simp [Fr.put, hs]]
    exact ⟨by refine Rg (β := β) (n := H.length) ?_ ?_ _ _ (F s).2 (F s).1; exact fun _ _ => rfl; exact fun _ _ h => Or.inl h, (F s).2⟩
def rest (ks : List Nat) (H : Hp) : Hp := H.mapIdx fun i b => if ks.contains i then ⟨[], .dead, 0⟩ else b
theorem rest_get {ks : List Nat} {H : Hp} {k : Nat} {b : Blk} (h : (rest ks H)[k]? = some b) (hd : b.kind ≠ .dead) : H[k]? = some b ∧ k ∉ ks := by
  unfold rest at h
  rw [List.getElem?_mapIdx] at h
  obtain ⟨b0, hb, e⟩ := Option.map_eq_some_iff.1 h
  split at e
  · subst e; exact absurd rfl hd
  · rename_i hc
    subst e
    exact ⟨hb, fun hm => hc (by simpa using hm)⟩
theorem Rel.rest {w0 : World} {B : Nat} {β : Env} {H : Hp} {w : World} (R : Rel w0 B β H w) (ks : List Nat) : Rel w0 B β (rest ks H) w := by
  have hlen : (AL.rest ks H).length = H.length := by simp [AL.rest]
  have get : ∀ {h : Nat} {b : Blk}, (AL.rest ks H)[h]? = some b → b.kind ≠ .dead → H[h]? = some b := fun h hd => (rest_get h hd).1
  refine ⟨R.below, R.base, fun h b hb hd => R.cells h b (get hb hd) hd, fun h b hb hd => by rw [hlen]; exact R.lts h b (get hb hd) hd, fun h b hb ho => R.own h b (get hb (by rw [ho]; decide)) ho,
    fun h b hb a t v e hk => R.glob h b (get hb (by rw [hk]; intro h; cases h)) a t v e hk, fun h h' b b' hne hb hb' ho hd => R.sep h h' b b' hne (get hb (by rw [ho]; decide)) (get hb' hd) ho hd,
    fun a c hf => ?_, fun h b hb h1 h2 => R.roB h b (get hb h2) h1 h2⟩
  obtain ⟨h1, h2, h3, h4⟩ := R.fzn a c hf
  exact ⟨h1, h2, fun h b hb ho => h3 h b (get hb (by rw [ho]; decide)) ho, h4⟩
def Trim (ks : List Nat) (H : Hp) : List Nat → Hp → Prop
  | [], H2 => H2 = []
  | k :: l, H2 => ∃ b cs L, X3 H k = some b ∧ (b.kind = .own ∨ b.cells = []) ∧ Frzs (rest ks H) cs b.cells ∧ H2 = ⟨cs, b.kind, b.ety⟩ :: L ∧ Trim ks H l L
theorem Trim.length {ks : List Nat} {H : Hp} : ∀ {l : List Nat} {H2 : Hp}, Trim ks H l H2 → H2.length = l.length
  | [], _, h => by simp only [Trim] at h; rw [h]; rfl
  | k :: l, _, h => by
    simp only [Trim] at h
    obtain ⟨b, cs, L, _, _, _, rfl, h⟩ := h
    simp [Trim.length h]
theorem Trim.get {ks : List Nat} {H : Hp} : ∀ {l : List Nat} {H2 : Hp}, Trim ks H l H2 → ∀ {i : Nat} {b2 : Blk}, H2[i]? = some b2 → ∃ k b cs, l[i]? = some k ∧ X3 H k = some b ∧ (b.kind = .own ∨ b.cells = []) ∧ Frzs (rest ks H) cs b.cells ∧ b2 = ⟨cs, b.kind, b.ety⟩
  | [], _, h, i, b2, e => by simp only [Trim] at h; subst h; simp at e
  | k :: l, _, h, 0, b2, e => by
    simp only [Trim] at h
    obtain ⟨b, cs, L, h1, h2, h3, rfl, h⟩ := h
    simp at e
    exact ⟨k, b, cs, rfl, h1, h2, h3, e.symm⟩
  | k :: l, _, h, i + 1, b2, e => by
    simp only [Trim] at h
    obtain ⟨b, cs, L, h1, h2, h3, rfl, h⟩ := h
    simpa using Trim.get h (i := i) (b2 := b2) (by simpa using e)
theorem To.dead {n : Sc} {fr : Fr} {H : Hp} : To n fr H fr (H ++ [⟨[], .dead, 0⟩]) := fun hn w0 B β w t hL R F => by
  have get : ∀ {h : Nat} {b : Blk}, (H ++ [(⟨[], .dead, 0⟩ : Blk)])[h]? = some b → b.kind ≠ .dead → H[h]? = some b := by
    intro h b hb hd
    rcases Nat.lt_trichotomy h H.length with h1 | h1 | h1
    · rwa [List.getElem?_append_left h1] at hb
    · subst h1; simp at hb; subst hb; exact absurd rfl hd
    · rw [List.getElem?_eq_none (by simp; omega)] at hb; cases hb
  have hl : (H ++ [(⟨[], .dead, 0⟩ : Blk)]).length = H.length + 1 := by simp
  refine ⟨β, Agree.refl _ _, by rw [hl]; omega, FR_congr F (Agree.refl _ _) (by rw [hl]; omega), R.below, R.base, fun h b hb hd => R.cells h b (get hb hd) hd, fun h b hb hd c hc => by rw [hl]; exact AV.lt_mono (Nat.le_succ _) _ (R.lts h b (get hb hd) hd c hc), fun h b hb ho => R.own h b (get hb (by rw [ho]; decide)) ho,
    fun h b hb a t v e hk => R.glob h b (get hb (by rw [hk]; intro h; cases h)) a t v e hk, fun h h' b b' hne hb hb' ho hd => R.sep h h' b b' hne (get hb (by rw [ho]; decide)) (get hb' hd) ho hd,
    fun a c hf => ?_, fun h b hb h1 h2 => R.roB h b (get hb h2) h1 h2⟩
  obtain ⟨h1, h2, h3, h4⟩ := R.fzn a c hf
  exact ⟨h1, h2, fun h b hb ho => h3 h b (get hb (by rw [ho]; decide)) ho, h4⟩
inductive GL (h z : Nat) (e : TypeId) : List AV → Nat → AV → Blk → Prop
  | nil : GL h z e [] 0 .nilS ⟨[], .dead, 0⟩
  | full {cs : List AV} {n : Nat} : 0 < n → cs.length = n * z → GL h z e cs n (.sg h 0 n z) ⟨cs, .own, e⟩
theorem GL.append {P : Program} {H : Hp} {h n m z by_ : Nat} {v x zv : AV} {b : Blk} {cs ds : List AV} {t e : TypeId} (g : GL h z e cs n v b) (hg : X3 H h = some b) (hx : Rd H z x ds m) (hu : P.underlying t = some (.slice e)) (hz : Xf P e = some z) (hzv : Z2 P e = some zv) (hzl : zv.cells.length = z) (hz0 : 0 < z) (hb : Xq P e = some by_)
    (hc : cs.all AV.one = true) (ho : ds.all AV.one = true) (hby : (n + m) * by_ ≤ 140737488355328) (hm : n + m ≤ 140737488355328) (hmp : 0 < m) :
    Yf P H t v x = some (.sg H.length 0 (n + m) z, H.set h ⟨[], .dead, b.ety⟩ ++ [⟨cs ++ ds, .own, e⟩]) := by
  have h1 : m ≠ 0 := by omega
  cases g with
  | nil =>
    rw [set_same (by exact hg)]
    simp at hby hm
    simp [Yf, hu, hz, hzv, hb, hzl, hz0, hx.row, ho, h1, hby, hm, agrown]
  | full hn hl =>
    have hmz : 0 < m * z := Nat.mul_pos hmp hz0
    have h2 : ¬ n * z + m * z ≤ cs.length := by omega
    have h3 : cs.take (n * z) = cs := List.take_of_length_le (by omega)
    have h4 : n * z ≤ cs.length := by omega
    simp [Yf, hu, hz, hzv, hb, hzl, hz0, hx.row, ho, h1, hby, hm, hg, h2, h3, h4, hc]
theorem GL.frz {H : Hp} {h z n : Nat} {e : TypeId} {cs : List AV} {v : AV} {b : Blk} (g : GL h z e cs n v b) (hg : X3 H h = some b) (hc : AV.lts 0 cs) : Frz H (.fz n cs) v := by
  cases g with
  | nil => simp only [Frz]; exact .inr ⟨0, [], rfl, trivial, by simp only [Frzs]⟩
  | full hn hl =>
    simp only [Frz]
    refine .inr ⟨z, cs, ?_, rfl, Frzs.self hc⟩
    simp only [arow, hg]
    rw [if_neg (by decide), if_pos (by omega), List.drop_zero, List.take_of_length_le (by omega)]
theorem GL.mk {h z : Nat} {e : TypeId} {cs : List AV} {n : Nat} (hn : 0 < n) (hl : cs.length = n * z) : GL h z e cs n (.sg h 0 n z) ⟨cs, .own, e⟩ := .full hn hl
theorem GL.one {h z n : Nat} {e : TypeId} {cs : List AV} {v : AV} {b : Blk} (g : GL h z e cs n v b) : v.one = true := by cases g <;> rfl
theorem GL.closed {h z n : Nat} {e : TypeId} {cs : List AV} {v : AV} {b : Blk} (g : GL h z e cs n v b) (hc : AV.lts 0 cs) : AV.lts 0 b.cells := by
  cases g with
  | nil => trivial
  | full hn hl => exact hc
end Go.AL
namespace Go.PW
abbrev Bs : Int := 18446744073709551616
def val : List Int → Int
  | [] => 0
  | x :: xs => x + Bs * val xs
def dig : Nat → Int → List Int
  | 0, _ => []
  | n + 1, x => x % Bs :: dig n (x / Bs)
def Limbs (xs : List Int) : Prop := ∀ x ∈ xs, 0 ≤ x ∧ x < Bs
theorem Limbs.nil : Limbs [] := fun _ h => by cases h
theorem Limbs.cons {x : Int} {xs : List Int} : Limbs (x :: xs) ↔ (0 ≤ x ∧ x < Bs) ∧ Limbs xs := by
  simp [Limbs]
theorem Limbs.append {xs ys : List Int} : Limbs (xs ++ ys) ↔ Limbs xs ∧ Limbs ys := by
  simp only [Limbs, List.mem_append]
  exact ⟨fun h => ⟨fun x hx => h x (.inl hx), fun x hx => h x (.inr hx)⟩, fun h x hx => hx.elim (h.1 x) (h.2 x)⟩
theorem Limbs.take {xs : List Int} (h : Limbs xs) (n : Nat) : Limbs (xs.take n) := fun x hx => h x (List.mem_of_mem_take hx)
theorem Limbs.drop {xs : List Int} (h : Limbs xs) (n : Nat) : Limbs (xs.drop n) := fun x hx => h x (List.mem_of_mem_drop hx)
theorem Limbs.get {xs : List Int} (h : Limbs xs) (i : Nat) : 0 ≤ xs.getD i 0 ∧ xs.getD i 0 < Bs := by
  rw [List.getD_eq_getElem?_getD]
  cases hx : xs[i]? with
  | none => simp [Bs]
  | some x => exact h x (List.mem_of_getElem? hx)
theorem Xn (n : Nat) : 0 < Bs ^ n := Int.pow_pos (by decide)
theorem Rp : ∀ (xs ys : List Int), val (xs ++ ys) = val xs + Bs ^ xs.length * val ys
  | [], ys => by simp [val]
  | x :: xs, ys => by
    simp only [List.cons_append, val, List.length_cons, Rp xs ys, Int.pow_succ]
    grind
theorem Xh : ∀ {xs : List Int}, Limbs xs → 0 ≤ val xs ∧ val xs < Bs ^ xs.length
  | [], _ => by simp [val]
  | x :: xs, h => by
    obtain ⟨h1, h2⟩ := Limbs.cons.1 h
    have ih := Xh h2
    simp only [val, List.length_cons, Int.pow_succ]
    have hp := Xn xs.length
    generalize Bs ^ xs.length = p at *
    simp only [Bs] at *
    omega
theorem dig_length : ∀ (n : Nat) (x : Int), (dig n x).length = n
  | 0, _ => rfl
  | n + 1, x => by simp [dig, dig_length n]
theorem Z7 : ∀ (n : Nat) (x : Int), Limbs (dig n x)
  | 0, _ => Limbs.nil
  | n + 1, x => Limbs.cons.2 ⟨⟨Int.emod_nonneg _ (by decide), Int.emod_lt_of_pos _ (by decide)⟩, Z7 n _⟩
theorem emod_two {x m k : Int} (hm : 0 < m) : x % m + m * (x / m % k) = x % (m * k) := by
  rw [Int.emod_def x (m * k), Int.emod_def (x / m) k, Int.emod_def x m, ← Int.ediv_ediv_of_nonneg (Int.le_of_lt hm)]
  grind
theorem Wj : ∀ (n : Nat) (x : Int), val (dig n x) = x % Bs ^ n
  | 0, x => by simp [val, dig, Int.emod_one]
  | n + 1, x => by
    simp only [val, dig, Wj n, Int.pow_succ]
    have hp := Xn n
    have e : Bs ^ n * Bs = Bs * Bs ^ n := Int.mul_comm _ _
    rw [e, ← emod_two (by decide)]
theorem dig_val : ∀ {xs : List Int}, Limbs xs → dig xs.length (val xs) = xs
  | [], _ => rfl
  | x :: xs, h => by
    obtain ⟨h1, h2⟩ := Limbs.cons.1 h
    simp only [List.length_cons, dig, val]
    rw [Int.add_mul_emod_self_left, Int.emod_eq_of_lt h1.1 h1.2, Int.add_mul_ediv_left _ _ (by decide), Int.ediv_eq_zero_of_lt h1.1 h1.2, Int.zero_add, dig_val h2]
theorem dig_mod : ∀ (n : Nat) (x y : Int), x % Bs ^ n = y % Bs ^ n → dig n x = dig n y := by
  intro n x y h
  have h1 := dig_val (Z7 n x)
  have h2 := dig_val (Z7 n y)
  rw [dig_length, Wj] at h1 h2
  rw [← h1, ← h2, h]
theorem Vn {xs : List Int} {n : Nat} {x : Int} (hl : Limbs xs) (hn : xs.length = n) (hv : val xs = x % Bs ^ n) : xs = dig n x := by
  have := dig_val hl
  rw [← this, hn, hv]
  exact dig_mod n _ _ (Int.emod_emod_of_dvd _ (Int.dvd_refl _))
theorem Yq (xs : List Int) (i : Nat) : val xs = val (xs.take i) + Bs ^ (min i xs.length) * val (xs.drop i) := by
  have := Rp (xs.take i) (xs.drop i)
  rw [List.take_append_drop, List.length_take] at this
  exact this
theorem take_succ_getD (xs : List Int) {i : Nat} (h : i < xs.length) : xs.take (i + 1) = xs.take i ++ [xs.getD i 0] := by
  rw [List.take_succ_eq_append_getElem h]
  simp [List.getD, h]
theorem Xk (xs : List Int) {i : Nat} (h : i < xs.length) : val (xs.take (i + 1)) = val (xs.take i) + Bs ^ i * xs.getD i 0 := by
  rw [take_succ_getD xs h, Rp, List.length_take, Nat.min_eq_left (by omega)]
  simp [val]
theorem drop_cons_getD (xs : List Int) {i : Nat} (h : i < xs.length) : xs.drop i = xs.getD i 0 :: xs.drop (i + 1) := by
  rw [List.drop_eq_getElem_cons h]
  simp [List.getD, h]
theorem Yw (xs : List Int) {i : Nat} (h : i < xs.length) : val (xs.drop i) = xs.getD i 0 + Bs * val (xs.drop (i + 1)) := by
  rw [drop_cons_getD xs h]; rfl
theorem Vt (xs : List Int) {i : Nat} (h : i < xs.length) (y : Int) : val (xs.set i y) = val xs + Bs ^ i * (y - xs.getD i 0) := by
  induction xs generalizing i with
  | nil => simp at h
  | cons x xs ih =>
    cases i with
    | zero => simp only [List.set_cons_zero, val, Int.pow_zero, List.getD_cons_zero]; omega
    | succ i =>
      simp only [List.set_cons_succ, val, List.getD_cons_succ]
      rw [ih (by simpa using h), Int.pow_succ]
      grind
theorem Limbs.set {xs : List Int} (h : Limbs xs) (i : Nat) {y : Int} (hy : 0 ≤ y ∧ y < Bs) : Limbs (xs.set i y) := by
  intro x hx
  rcases List.mem_or_eq_of_mem_set hx with hx | rfl
  · exact h x hx
  · exact hy
theorem Gw (n : Nat) : val (List.replicate n 0) = 0 := by
  induction n with
  | zero => rfl
  | succ n ih => simp [List.replicate_succ, val, ih]
theorem Limbs.replicate (n : Nat) : Limbs (List.replicate n 0) := fun x hx => by
  rw [(List.mem_replicate.1 hx).2]; decide
theorem Xs (xs : List Int) {i : Nat} (y : Int) (h : i < xs.length) (j : Nat) : (xs.set i y).getD j 0 = if j = i then y else xs.getD j 0 := by
  rw [List.getD_eq_getElem?_getD, List.getElem?_set, List.getD_eq_getElem?_getD]
  by_cases e : i = j
  · subst e; simp [h]
  · rw [if_neg e, if_neg (fun h => e h.symm)]
theorem Kt : ∀ (n : Nat) (x : Int) (i : Nat), i < n → (dig n x).getD i 0 = x / Bs ^ i % Bs
  | n + 1, x, 0, _ => by simp [dig]
  | n + 1, x, i + 1, h => by
    simp only [dig, List.getD_cons_succ]
    rw [Kt n _ i (by omega), Int.ediv_ediv_of_nonneg (by decide), Int.pow_succ, Int.mul_comm]
end Go.PW
namespace Go.PW
theorem Uh {x y p q : Int} (hx : 0 ≤ x ∧ x ≤ p) (hy : 0 ≤ y ∧ y ≤ q) : 0 ≤ x * y ∧ x * y ≤ p * q :=
  ⟨Int.mul_nonneg hx.1 hy.1, Int.mul_le_mul hx.2 hy.2 hy.1 (Int.le_trans hx.1 hx.2)⟩
theorem mul_high {x y : Int} (hx : 0 ≤ x ∧ x < Bs) (hy : 0 ≤ y ∧ y < Bs) :
    let x0 := x % 4294967296; let x1 := x / 4294967296; let y0 := y % 4294967296; let y1 := y / 4294967296
    let T := (x1 * y0 % Bs + x0 * y0 % Bs / 4294967296) % Bs
    ((x1 * y1 % Bs + T / 4294967296) % Bs + (T % 4294967296 + x0 * y1 % Bs) % Bs / 4294967296) % Bs = x * y / Bs := by
  intro x0 x1 y0 y1 T
  have ex : x = x1 * 4294967296 + x0 := by simp only [x0, x1]; omega
  have ey : y = y1 * 4294967296 + y0 := by simp only [y0, y1]; omega
  have b0 : 0 ≤ x0 ∧ x0 ≤ 4294967295 := by simp only [x0]; omega
  have b1 : 0 ≤ x1 ∧ x1 ≤ 4294967295 := by simp only [x1, Bs] at *; omega
  have c0 : 0 ≤ y0 ∧ y0 ≤ 4294967295 := by simp only [y0]; omega
  have c1 : 0 ≤ y1 ∧ y1 ≤ 4294967295 := by simp only [y1, Bs] at *; omega
  have ha := Uh b0 c0
  have hb := Uh b1 c0
  have hc := Uh b0 c1
  have hd := Uh b1 c1
  have hxy : x * y = x1 * y1 * 18446744073709551616 + (x1 * y0 + x0 * y1) * 4294967296 + x0 * y0 := by
    rw [ex, ey]; grind
  rw [hxy]
  simp only [T]
  clear hxy ex ey T
  generalize x0 * y0 = a at *
  generalize x1 * y0 = b at *
  generalize x0 * y1 = c at *
  generalize x1 * y1 = d at *
  simp only [Bs]
  clear b0 b1 c0 c1 x0 x1 y0 y1 hx hy
  omega
def bl (n : Nat) : Nat := if n = 0 then 0 else Nat.log2 n + 1
theorem bl_lt (n : Nat) : n < 2 ^ bl n := by
  unfold bl
  split
  · rename_i h; rw [h]; decide
  · exact Nat.lt_log2_self
theorem bl_ge {n : Nat} (h : n ≠ 0) : 2 ^ (bl n - 1) ≤ n := by
  unfold bl
  rw [if_neg h]
  exact Nat.log2_self_le h
theorem bl_pos {n : Nat} (h : n ≠ 0) : 0 < bl n := by
  unfold bl; rw [if_neg h]; omega
theorem bl_uniq {n k : Nat} (h1 : 2 ^ k ≤ n) (h2 : n < 2 ^ (k + 1)) : bl n = k + 1 := by
  have hn : n ≠ 0 := by have := Nat.pow_pos (n := k) (a := 2) (by decide); omega
  unfold bl
  rw [if_neg hn]
  have a := (Nat.le_log2 hn (k := k)).2 h1
  have b := (Nat.log2_lt hn (k := k + 1)).2 h2
  omega
theorem bl_div {n k : Nat} (h : 2 ^ k ≤ n) : bl n = k + bl (n / 2 ^ k) := by
  have hp := Nat.pow_pos (n := k) (a := 2) (by decide)
  have hq : n / 2 ^ k ≠ 0 := by
    have := Nat.div_pos h hp
    omega
  have h1 := bl_ge hq
  have h2 := bl_lt (n / 2 ^ k)
  have h3 := bl_pos hq
  obtain ⟨m, hm⟩ : ∃ m, bl (n / 2 ^ k) = m + 1 := ⟨_, (Nat.succ_pred_eq_of_pos h3).symm⟩
  rw [hm] at h1 h2 ⊢
  rw [show k + (m + 1) = (k + m) + 1 by omega]
  apply bl_uniq
  · rw [Nat.pow_add, Nat.mul_comm]
    exact (Nat.le_div_iff_mul_le hp).1 h1
  · rw [show k + m + 1 = (m + 1) + k by omega, Nat.pow_add]
    exact (Nat.div_lt_iff_lt_mul hp).1 h2
theorem bl_le {n k : Nat} (h : n < 2 ^ k) : bl n ≤ k := by
  by_cases h0 : n = 0
  · subst h0; simp [bl]
  · have := bl_ge h0
    have h2 : 2 ^ (bl n - 1) < 2 ^ k := by omega
    have := (Nat.pow_lt_pow_iff_right (by decide : 1 < 2)).1 h2
    omega
end Go.PW
namespace Go.PW
theorem J0s {a b q : Int} (hb : 0 < b) (h : q * b ≤ a) : q ≤ a / b := (Int.le_ediv_iff_mul_le hb).2 h
theorem ediv_le {a b q : Int} (hb : 0 < b) (h : a < (q + 1) * b) : a / b ≤ q := by
  have := (Int.ediv_lt_iff_lt_mul hb).2 h
  omega
theorem ediv_eq {a b q : Int} (hb : 0 < b) (h1 : q * b ≤ a) (h2 : a < (q + 1) * b) : a / b = q := by
  have := J0s hb h1
  have := ediv_le hb h2
  omega
theorem ediv_mul_le' (a : Int) {b : Int} (hb : 0 < b) : a / b * b ≤ a := Int.ediv_mul_le a (by omega)
structure Dg (B y1 y0 u d q r : Int) : Prop where
  hb : 0 < B
  h1 : 0 < y1
  h2 : B ≤ 2 * y1
  h3 : 0 ≤ y0
  h4 : y0 < B
  h5 : 0 ≤ u
  h6 : u < y1 * B + y0
  h7 : 0 ≤ d
  h8 : d < B
  hr : u = q * y1 + r
  hq : (u * B + d) / (y1 * B + y0) ≤ q
  hm : q ≤ B + 1
section
variable {B y1 y0 u d q r : Int}
theorem Dg.pos (h : Dg B y1 y0 u d q r) : 0 < y1 * B + y0 := by
  have := Int.mul_pos h.h1 h.hb
  have := h.h3
  omega
theorem Dg.lt (h : Dg B y1 y0 u d q r) : (u * B + d) / (y1 * B + y0) < B := by
  rw [Int.ediv_lt_iff_lt_mul h.pos]
  have h1 : (u + 1) * B ≤ (y1 * B + y0) * B := Int.mul_le_mul_of_nonneg_right (by have := h.h6; omega) (by have := h.hb; omega)
  have := h.h8
  have e : (u + 1) * B = u * B + B := by grind
  have e2 : (y1 * B + y0) * B = B * (y1 * B + y0) := Int.mul_comm _ _
  omega
theorem Dg.nonneg (h : Dg B y1 y0 u d q r) : 0 ≤ (u * B + d) / (y1 * B + y0) := by
  have h1 := Int.mul_nonneg h.h5 (Int.le_of_lt h.hb)
  exact Int.ediv_nonneg (by have := h.h7; omega) (Int.le_of_lt h.pos)
theorem Dg.more (h : Dg B y1 y0 u d q r) (ht : B ≤ q ∨ B * r + d < q * y0) : (u * B + d) / (y1 * B + y0) ≤ q - 1 := by
  rcases ht with ht | ht
  · have := h.lt; omega
  · have : (u * B + d) / (y1 * B + y0) < q := by
      rw [Int.ediv_lt_iff_lt_mul h.pos]
      have := h.hr
      have e : q * (y1 * B + y0) = q * y1 * B + q * y0 := by grind
      have e2 : u * B = q * y1 * B + B * r := by rw [this]; grind
      omega
    omega
theorem Dg.next (h : Dg B y1 y0 u d q r) (ht : B ≤ q ∨ B * r + d < q * y0) : Dg B y1 y0 u d (q - 1) (r + y1) := by
  refine ⟨h.hb, h.h1, h.h2, h.h3, h.h4, h.h5, h.h6, h.h7, h.h8, ?_, h.more ht, by have := h.hm; omega⟩
  have := h.hr
  grind
theorem Dg.done (h : Dg B y1 y0 u d q r) (ht : q * y0 ≤ B * r + d) : q = (u * B + d) / (y1 * B + y0) := by
  have h1 := h.hq
  have h2 : q ≤ (u * B + d) / (y1 * B + y0) := by
    apply J0s h.pos
    have := h.hr
    have e : q * (y1 * B + y0) = q * y1 * B + q * y0 := by grind
    have e2 : u * B = q * y1 * B + B * r := by rw [this]; grind
    omega
  omega
theorem Dg.over (h : Dg B y1 y0 u d q r) (hq : q ≤ B) (hr : B ≤ r) : q = (u * B + d) / (y1 * B + y0) := by
  apply h.done
  have h0 := h.nonneg
  have h1 := h.hq
  have a : q * y0 ≤ B * (B - 1) := Int.mul_le_mul hq (by have := h.h4; omega) h.h3 (by have := h.hb; omega)
  have b : B * B ≤ B * r := Int.mul_le_mul_of_nonneg_left hr (Int.le_of_lt h.hb)
  have := h.h7
  have := h.hb
  rw [Int.mul_sub] at a
  omega
end
theorem Dg.start {B y1 y0 u d : Int} (hb : 0 < B) (h1 : B ≤ 2 * y1) (h0 : 0 ≤ y0) (h0' : y0 < B) (hu : 0 ≤ u) (hu' : u < y1 * B + y0) (hd : 0 ≤ d) (hd' : d < B) : Dg B y1 y0 u d (u / y1) (u % y1) := by
  have hy1 : 0 < y1 := by omega
  have hpos : 0 < y1 * B + y0 := by have := Int.mul_pos hy1 hb; omega
  refine ⟨hb, hy1, h1, h0, h0', hu, hu', hd, hd', ?_, ?_, ?_⟩
  · have := Int.emod_add_mul_ediv u y1
    rw [Int.mul_comm] at this
    omega
  · apply J0s hy1
    have h2 := ediv_mul_le' (u * B + d) hpos
    generalize (u * B + d) / (y1 * B + y0) = qt at *
    rcases Int.lt_or_le qt 0 with hn | hn
    · have := Int.mul_nonneg (a := -qt) (b := y1) (by omega) (Int.le_of_lt hy1)
      rw [Int.neg_mul] at this
      omega
    · have h3 : qt * y1 * B ≤ qt * (y1 * B + y0) := by
        have := Int.mul_nonneg hn h0
        have e : qt * (y1 * B + y0) = qt * y1 * B + qt * y0 := by grind
        omega
      have h4 : qt * y1 * B < (u + 1) * B := by
        have e : (u + 1) * B = u * B + B := by grind
        omega
      have := Int.lt_of_mul_lt_mul_right h4 (Int.le_of_lt hb)
      omega
  · apply ediv_le hy1
    have e : (B + 1 + 1) * y1 = y1 * B + 2 * y1 := by grind
    omega
theorem two_digits {B Y N1 d0 : Int} (hY : 0 < Y) (hB : 0 < B) : (N1 * B + d0) / Y = (N1 / Y) * B + (N1 % Y * B + d0) / Y ∧ (N1 * B + d0) % Y = (N1 % Y * B + d0) % Y := by
  have h := Int.emod_add_mul_ediv N1 Y
  have e : N1 * B + d0 = (N1 % Y * B + d0) + Y * (N1 / Y * B) := by
    conv => lhs; rw [← h]
    grind
  rw [e, Int.add_mul_ediv_left _ _ (by omega), Int.add_mul_emod_self_left]
  exact ⟨by omega, rfl⟩
end Go.PW
namespace Go.PW
theorem quo_le_guess {U3 V2 Ul Vl p : Int} (hp : 0 < p) (hV : 0 < V2) (hU : Ul < p) (hV0 : 0 ≤ Vl) (hU0 : 0 ≤ U3) (hUl : 0 ≤ Ul) : (U3 * p + Ul) / (V2 * p + Vl) ≤ U3 / V2 := by
  have hpos : 0 < V2 * p + Vl := by have := Int.mul_pos hV hp; omega
  apply J0s hV
  have h := ediv_mul_le' (U3 * p + Ul) hpos
  have hk : 0 ≤ (U3 * p + Ul) / (V2 * p + Vl) := Int.ediv_nonneg (by have := Int.mul_nonneg hU0 (Int.le_of_lt hp); omega) (Int.le_of_lt hpos)
  generalize (U3 * p + Ul) / (V2 * p + Vl) = k at *
  have h1 := Int.mul_nonneg hk hV0
  have h2 : k * V2 * p < (U3 + 1) * p := by grind
  have := Int.lt_of_mul_lt_mul_right h2 (Int.le_of_lt hp)
  omega
theorem guess_le {B U3 V2 Ul Vl p q : Int} (hp : 0 < p) (hB : B ≤ V2) (hB0 : 0 < B) (hU0 : 0 ≤ Ul) (hV0 : 0 ≤ Vl) (hV1 : Vl < p) (hq0 : 0 ≤ q) (hq : q ≤ B) (h : q * V2 ≤ U3) : q ≤ (U3 * p + Ul) / (V2 * p + Vl) + 1 := by
  have hV2 : 0 < V2 := by omega
  have hpos : 0 < V2 * p + Vl := by have := Int.mul_pos hV2 hp; omega
  have h1 : q - 1 ≤ (U3 * p + Ul) / (V2 * p + Vl) := by
    apply J0s hpos
    have a : q * V2 * p ≤ U3 * p := Int.mul_le_mul_of_nonneg_right h (Int.le_of_lt hp)
    have b : q * Vl ≤ B * p := Int.mul_le_mul hq (by omega) hV0 (by omega)
    have c : B * p ≤ V2 * p := Int.mul_le_mul_of_nonneg_right hB (Int.le_of_lt hp)
    have e : (q - 1) * (V2 * p + Vl) = q * V2 * p + q * Vl - V2 * p - Vl := by grind
    omega
  omega
theorem mul_step {c d t k : Int} (hc : 0 ≤ c ∧ c < Bs) (hd : 0 ≤ d ∧ d < Bs) (ht : 0 ≤ t ∧ t < Bs) (hk : 0 ≤ k ∧ k < Bs) :
    (c * d / Bs + (c * d % Bs + t + 0) / Bs) % Bs = c * d / Bs + (c * d % Bs + t + 0) / Bs ∧
    (c * d / Bs + (c * d % Bs + t + 0) / Bs + ((c * d % Bs + t + 0) % Bs + k + 0) / Bs) % Bs = c * d / Bs + (c * d % Bs + t + 0) / Bs + ((c * d % Bs + t + 0) % Bs + k + 0) / Bs ∧
    c * d + t + k = Bs * (c * d / Bs + (c * d % Bs + t + 0) / Bs + ((c * d % Bs + t + 0) % Bs + k + 0) / Bs) + ((c * d % Bs + t + 0) % Bs + k + 0) % Bs ∧
    0 ≤ c * d / Bs + (c * d % Bs + t + 0) / Bs + ((c * d % Bs + t + 0) % Bs + k + 0) / Bs ∧ c * d / Bs + (c * d % Bs + t + 0) / Bs + ((c * d % Bs + t + 0) % Bs + k + 0) / Bs < Bs := by
  have h := Uh (x := c) (y := d) (p := Bs - 1) (q := Bs - 1) ⟨hc.1, by omega⟩ ⟨hd.1, by omega⟩
  have e : (Bs - 1) * (Bs - 1) = 340282366920938463426481119284349108225 := by decide
  rw [e] at h
  generalize c * d = p at *
  simp only [Bs] at *
  omega
theorem take_step {q x c u b : Int} (hq : 0 ≤ q ∧ q < Bs) (hx : 0 ≤ x ∧ x < Bs) (hc : 0 ≤ c ∧ c < Bs) (hu : 0 ≤ u ∧ u < Bs) (hb : 0 ≤ b ∧ b ≤ 1) :
    (q * x / Bs + (q * x % Bs + c + 0) / Bs) % Bs = q * x / Bs + (q * x % Bs + c + 0) / Bs ∧
    (u - (q * x % Bs + c + 0) % Bs - b) % Bs + q * x + c = u - b + Bs * (if u < (q * x % Bs + c + 0) % Bs + b then 1 else 0) + Bs * (q * x / Bs + (q * x % Bs + c + 0) / Bs) ∧
    0 ≤ q * x / Bs + (q * x % Bs + c + 0) / Bs ∧ q * x / Bs + (q * x % Bs + c + 0) / Bs < Bs := by
  have h := Uh (x := q) (y := x) (p := Bs - 1) (q := Bs - 1) ⟨hq.1, by omega⟩ ⟨hx.1, by omega⟩
  have e : (Bs - 1) * (Bs - 1) = 340282366920938463426481119284349108225 := by decide
  rw [e] at h
  generalize q * x = p at *
  simp only [Bs] at *
  split <;> omega
theorem sub_step {x y b : Int} (hx : 0 ≤ x ∧ x < Bs) (hy : 0 ≤ y ∧ y < Bs) (hb : 0 ≤ b ∧ b ≤ 1) : (x - y - b) % Bs = x - y - b + Bs * (if x < y + b then 1 else 0) := by
  simp only [Bs] at *
  split <;> omega
theorem sum_step {x y c : Int} (hx : 0 ≤ x ∧ x < Bs) (hy : 0 ≤ y ∧ y < Bs) (hc : 0 ≤ c ∧ c ≤ 1) : (x + y + c) % Bs + Bs * ((x + y + c) / Bs) = x + y + c ∧ 0 ≤ (x + y + c) / Bs ∧ (x + y + c) / Bs ≤ 1 := by
  simp only [Bs] at *
  omega
end Go.PW
namespace Go.PW
theorem Gk {a b p : Int} (hp : 0 < p) : a * p % (b * p) = a % b * p := by
  rw [Int.mul_comm a p, Int.mul_comm b p, Int.mul_emod_mul_of_pos _ _ hp, Int.mul_comm]
theorem Ug {s : Nat} (hs : s ≤ 64) : (2 : Int) ^ s * 2 ^ (64 - s) = Bs := by
  rw [← Int.pow_add, show s + (64 - s) = 64 by omega]; decide
theorem Zb (s : Nat) : (0 : Int) < 2 ^ s := Int.pow_pos (by decide)
theorem shl_split {x : Int} {s : Nat} (hs : s ≤ 64) (hx : 0 ≤ x) : x * 2 ^ s = x * 2 ^ s % Bs + Bs * (x / 2 ^ (64 - s)) ∧ x * 2 ^ s % Bs = x % 2 ^ (64 - s) * 2 ^ s := by
  have hp := Zb s
  have hq := Zb (64 - s)
  have h := Ug hs
  have e : Bs = 2 ^ (64 - s) * 2 ^ s := by rw [← h, Int.mul_comm]
  have e1 : x * 2 ^ s / Bs = x / 2 ^ (64 - s) := by rw [e, Int.mul_ediv_mul_of_pos_left _ _ hp]
  have e2 : x * 2 ^ s % Bs = x % 2 ^ (64 - s) * 2 ^ s := by rw [e, Gk hp]
  refine ⟨?_, e2⟩
  rw [← e1]
  have := Int.emod_add_mul_ediv (x * 2 ^ s) Bs
  omega
theorem shr_lt {x : Int} {s : Nat} (hs : s ≤ 64) (hx : x < Bs) : x / 2 ^ (64 - s) < 2 ^ s := by
  apply Int.ediv_lt_of_lt_mul (Zb _)
  rw [Ug hs]; exact hx
theorem guess_start {B u2 u1 u0 v1 v0 : Int} (hB : 0 < B) (h2 : 0 ≤ u2) (h1 : 0 ≤ u1) (h0 : 0 ≤ u0) (h0' : u0 < B) (hv1 : 0 < v1) (hv0 : 0 ≤ v0) : ((u2 * B + u1) * B + u0) / (v1 * B + v0) ≤ (u2 * B + u1) / v1 :=
  quo_le_guess hB hv1 h0' hv0 (by have := Int.mul_nonneg h2 (Int.le_of_lt hB); omega) h0
theorem guess_done {B u2 u1 u0 v1 v0 q r : Int} (hB : 0 < B) (hv1 : 0 < v1) (hv0 : 0 ≤ v0) (hr : q * v1 + r = u2 * B + u1) (ht : q * v0 ≤ r * B + u0) : q ≤ ((u2 * B + u1) * B + u0) / (v1 * B + v0) := by
  have hpos : 0 < v1 * B + v0 := by have := Int.mul_pos hv1 hB; omega
  apply J0s hpos
  have e : q * (v1 * B + v0) = q * v1 * B + q * v0 := by grind
  have e2 : (u2 * B + u1) * B = q * v1 * B + r * B := by rw [← hr]; grind
  omega
theorem guess_more {B u2 u1 u0 v1 v0 q r : Int} (hB : 0 < B) (hv1 : 0 < v1) (hv0 : 0 ≤ v0) (hr : q * v1 + r = u2 * B + u1) (ht : r * B + u0 < q * v0) : ((u2 * B + u1) * B + u0) / (v1 * B + v0) ≤ q - 1 := by
  have hpos : 0 < v1 * B + v0 := by have := Int.mul_pos hv1 hB; omega
  have : ((u2 * B + u1) * B + u0) / (v1 * B + v0) < q := by
    rw [Int.ediv_lt_iff_lt_mul hpos]
    have e : q * (v1 * B + v0) = q * v1 * B + q * v0 := by grind
    have e2 : (u2 * B + u1) * B = q * v1 * B + r * B := by rw [← hr]; grind
    omega
  omega
theorem guess_test {p r u0 : Int} (hp : 0 ≤ p) (h0 : 0 ≤ u0 ∧ u0 < Bs) : (p / Bs < r ∨ p / Bs = r ∧ p % Bs ≤ u0) ↔ p ≤ r * Bs + u0 := by
  simp only [Bs] at *
  omega
theorem set_mid {α : Type} (a w b : List α) (i : Nat) (x : α) (h : i < w.length) : (a ++ w ++ b).set (a.length + i) x = a ++ w.set i x ++ b := by
  rw [List.append_assoc, List.set_append_right _ _ (by omega), show a.length + i - a.length = i by omega, List.set_append_left _ _ h, List.append_assoc]
theorem getD_mid (a w b : List Int) (i : Nat) (h : i < w.length) : (a ++ w ++ b).getD (a.length + i) 0 = w.getD i 0 := by
  rw [List.append_assoc, List.getD_eq_getElem?_getD, List.getElem?_append_right (by omega), show a.length + i - a.length = i by omega, List.getElem?_append_left h, ← List.getD_eq_getElem?_getD]
theorem split_mid {α : Type} (us : List α) {o k : Nat} (h : o + k ≤ us.length) : us = us.take o ++ (us.drop o).take k ++ us.drop (o + k) := by
  rw [List.append_assoc]
  have : (us.drop o).take k ++ us.drop (o + k) = us.drop o := by
    rw [← List.drop_drop, List.take_append_drop]
  rw [this, List.take_append_drop]
theorem top_le {xs ys : List Int} (hx : Limbs xs) (hy : Limbs ys) {m : Nat} (hlx : xs.length = m + 1) (hly : ys.length = m + 1) (h : val xs < val ys) : xs.getD m 0 ≤ ys.getD m 0 := by
  have a := Xk xs (i := m) (by omega)
  have b := Xk ys (i := m) (by omega)
  rw [List.take_of_length_le (by omega)] at a b
  have c := Xh (hx.take m)
  have d := Xh (hy.take m)
  rw [List.length_take, Nat.min_eq_left (by omega)] at c d
  rcases Int.lt_or_le (ys.getD m 0) (xs.getD m 0) with hlt | hle
  · exfalso
    have := Int.mul_le_mul_of_nonneg_left (show ys.getD m 0 + 1 ≤ xs.getD m 0 by omega) (Int.le_of_lt (Xn m))
    rw [Int.mul_add] at this
    omega
  · exact hle
theorem top_two {xs : List Int} {m : Nat} (hl : xs.length = m + 2) : val xs = (xs.getD (m + 1) 0 * Bs + xs.getD m 0) * Bs ^ m + val (xs.take m) := by
  have a := Xk xs (i := m + 1) (by omega)
  have b := Xk xs (i := m) (by omega)
  rw [List.take_of_length_le (by omega)] at a
  rw [Int.pow_succ] at a
  grind
theorem top_three {xs : List Int} {m : Nat} (hl : xs.length = m + 3) : val xs = ((xs.getD (m + 2) 0 * Bs + xs.getD (m + 1) 0) * Bs + xs.getD m 0) * Bs ^ m + val (xs.take m) := by
  have a := Xk xs (i := m + 2) (by omega)
  have b := Xk xs (i := m + 1) (by omega)
  have c := Xk xs (i := m) (by omega)
  rw [List.take_of_length_le (by omega)] at a
  rw [Int.pow_succ, Int.pow_succ] at a
  rw [Int.pow_succ] at b
  grind
theorem div_digit {U V B u : Int} (hV : 0 < V) (hu : 0 ≤ u) : (B * U + u) / V = B * (U / V) + (B * (U % V) + u) / V ∧ (B * U + u) % V = (B * (U % V) + u) % V := by
  have h := Int.emod_add_mul_ediv U V
  have e : B * U + u = (B * (U % V) + u) + V * (B * (U / V)) := by
    conv => lhs; rw [← h]
    grind
  rw [e, Int.add_mul_ediv_left _ _ (by omega), Int.add_mul_emod_self_left]
  exact ⟨by omega, rfl⟩
theorem shr_join {z : Int} {s : Nat} (hs : s ≤ 64) (hz : 0 ≤ z) : z % Bs / 2 ^ s + z / Bs % Bs * 2 ^ (64 - s) % Bs = z / 2 ^ s % Bs := by
  have hp := Zb s
  have hq := Zb (64 - s)
  have e : Bs = 2 ^ s * 2 ^ (64 - s) := (Ug hs).symm
  have h := Int.emod_add_mul_ediv z Bs
  have h1 : z / 2 ^ s = z % Bs / 2 ^ s + 2 ^ (64 - s) * (z / Bs) := by
    conv => lhs; rw [← h]
    rw [show z % Bs + Bs * (z / Bs) = z % Bs + 2 ^ s * (2 ^ (64 - s) * (z / Bs)) by rw [← Int.mul_assoc, ← e], Int.add_mul_ediv_left _ _ (by omega)]
  rw [h1]
  have h2 : 0 ≤ z % Bs / 2 ^ s := Int.ediv_nonneg (Int.emod_nonneg _ (by decide)) (by omega)
  have h3 : z % Bs / 2 ^ s < 2 ^ (64 - s) := by
    apply Int.ediv_lt_of_lt_mul hp
    rw [Int.mul_comm, ← e]
    exact Int.emod_lt_of_pos _ (by decide)
  have h4 : z / Bs % Bs * 2 ^ (64 - s) % Bs = z / Bs % 2 ^ s * 2 ^ (64 - s) := by
    generalize z / Bs = k
    rw [e, Gk hq, Int.emod_emod_of_dvd _ ⟨_, rfl⟩]
  have h5 : 2 ^ (64 - s) * (z / Bs) % Bs = z / Bs % 2 ^ s * 2 ^ (64 - s) := by
    generalize z / Bs = k
    rw [Int.mul_comm, e, Gk hq]
  rw [h4, Int.add_emod, h5]
  have h6 : z / Bs % 2 ^ s * 2 ^ (64 - s) ≤ (2 ^ s - 1) * 2 ^ (64 - s) := Int.mul_le_mul_of_nonneg_right (by have := Int.emod_lt_of_pos (z / Bs) hp; omega) (Int.le_of_lt hq)
  have h7 : 0 ≤ z / Bs % 2 ^ s * 2 ^ (64 - s) := Int.mul_nonneg (Int.emod_nonneg _ (by omega)) (Int.le_of_lt hq)
  rw [Int.sub_mul, ← e] at h6
  generalize z / Bs % 2 ^ s * 2 ^ (64 - s) = k at *
  generalize z % Bs / 2 ^ s = l at *
  generalize (2 : Int) ^ (64 - s) = t at *
  have h8 : t ≤ Bs := by
    have := Int.mul_le_mul_of_nonneg_right (show (1 : Int) ≤ 2 ^ s by omega) (Int.le_of_lt hq)
    omega
  rw [Int.emod_eq_of_lt h2 (by omega), Int.emod_eq_of_lt (by omega) (by omega)]
end Go.PW
namespace Go.PW
theorem take_val {p q y c z b x b' c' vz vt vw : Int} (hx : x + q * y + c = z - b + Bs * b' + Bs * c') (h : vz + q * vt = vw + p * (b + c)) : vz + p * (x - z) + q * (vt + p * y) = vw + p * Bs * (b' + c') := by
  have e : x - z = Bs * (b' + c') - q * y - c - b := by rw [Int.mul_add]; omega
  rw [e]
  generalize Bs = B at *
  grind
theorem take_last {p q c z b x b' vz V vw : Int} (hx : x = z - c - b + Bs * b') (h : vz + q * V = vw + p * (b + c)) : vz + p * (x - z) + q * V = vw + p * Bs * b' := by
  have e : x - z = Bs * b' - c - b := by omega
  rw [e]
  generalize Bs = B at *
  grind
theorem back_val {p y c z x c' vz vt v0 : Int} (hx : x + Bs * c' = z + y + c) (h : vz + p * c = v0 + vt) : vz + p * (x - z) + p * Bs * c' = v0 + (vt + p * y) := by
  have e : x - z = y + c - Bs * c' := by omega
  rw [e]
  generalize Bs = B at *
  grind
theorem back_last {p c z x t vz V v0 : Int} (hx : x + Bs * t = z + c) (h : vz + p * c = v0 + V) : vz + p * (x - z) = v0 + V - p * Bs * t := by
  have e : x - z = c - Bs * t := by omega
  rw [e]
  generalize Bs = B at *
  grind
theorem take_right {n V q v : Int} (hV : 0 < V) (hv : 0 ≤ v) (he : v + q * V = n) (hq : n / V ≤ q) : q = n / V ∧ v = n % V := by
  have h1 : q ≤ n / V := J0s hV (by omega)
  obtain rfl : q = n / V := by omega
  have := Int.emod_add_mul_ediv n V
  rw [Int.mul_comm] at this
  exact ⟨rfl, by omega⟩
theorem take_over {n V q v f P t : Int} (hV : 0 < V) (hVP : V ≤ P) (hv : v < P) (hf : 0 ≤ f ∧ f < P) (he : v + q * V = n + P) (hq : q ≤ n / V + 1) (hfe : f = v + V - P * t) : q - 1 = n / V ∧ f = n % V := by
  have h1 : n / V < q := by
    rw [Int.ediv_lt_iff_lt_mul hV]; omega
  have hq' : q - 1 = n / V := by omega
  have hm := Int.emod_add_mul_ediv n V
  rw [Int.mul_comm, ← hq', Int.sub_mul, Int.one_mul] at hm
  have hm0 := Int.emod_nonneg n (b := V) (by omega)
  have hm1 := Int.emod_lt_of_pos n hV
  refine ⟨hq', ?_⟩
  have hd : f = n % V + P * (1 - t) := by rw [Int.mul_sub]; omega
  rcases Int.lt_trichotomy (1 - t) 0 with h | h | h
  · have := Int.mul_le_mul_of_nonneg_left (show 1 - t ≤ -1 by omega) (show 0 ≤ P by omega)
    omega
  · rw [h] at hd; omega
  · have := Int.mul_le_mul_of_nonneg_left (show 1 ≤ 1 - t by omega) (show 0 ≤ P by omega)
    omega
end Go.PW
namespace Go.PW
structure DInv (n : Nat) (U V : Int) (k : Nat) (us qs : List Int) : Prop where
  ul : us.length = n + 1
  uL : Limbs us
  uv : val (us.drop k) = U / Bs ^ k % V
  ug : ∀ j, j < k → us.getD j 0 = U / Bs ^ j % Bs
  ql : qs.length = 16
  qL : Limbs qs
  qv : val qs = Bs ^ k * (U / Bs ^ k / V)
  qg : ∀ j, j < k → qs.getD j 0 = 0
theorem Uj {xs : List Int} (hx : Limbs xs) {m : Nat} (h : val xs < Bs ^ m) : val (xs.drop m) = 0 ∧ val (xs.take m) = val xs := by
  have h1 := Yq xs m
  have h2 := Xh (hx.take m)
  have h3 := Xh (hx.drop m)
  rcases Nat.lt_or_ge xs.length m with hl | hl
  · rw [List.drop_of_length_le (by omega), List.take_of_length_le (by omega)]
    exact ⟨rfl, rfl⟩
  · rw [Nat.min_eq_left hl] at h1
    rcases Int.lt_or_le 0 (val (xs.drop m)) with h0 | h0
    · have := Int.mul_le_mul_of_nonneg_left (show 1 ≤ val (xs.drop m) by omega) (Int.le_of_lt (Xn m))
      omega
    · have h4 : val (xs.drop m) = 0 := by omega
      rw [h4, Int.mul_zero] at h1
      exact ⟨h4, by omega⟩
section
variable {n m i : Nat} {U V : Int} {us qs : List Int}
theorem DInv.window (D : DInv n U V (i + 1) us qs) (hin : i + m ≤ n) (hV : 0 < V) (hVm : V < Bs ^ m) :
    ((us.drop i).take (m + 1)).length = m + 1 ∧ Limbs ((us.drop i).take (m + 1)) ∧ val (((us.drop i).take (m + 1)).drop 1) = U / Bs ^ (i + 1) % V ∧ val (us.drop (i + m + 1)) = 0 ∧
    val ((us.drop i).take (m + 1)) = Bs * (U / Bs ^ (i + 1) % V) + U / Bs ^ i % Bs := by
  have hl := D.ul
  have h1 : ((us.drop i).take (m + 1)).length = m + 1 := by rw [List.length_take, List.length_drop]; omega
  have h2 : Limbs ((us.drop i).take (m + 1)) := (D.uL.drop i).take _
  have hR : U / Bs ^ (i + 1) % V < Bs ^ m := by have := Int.emod_lt_of_pos (U / Bs ^ (i + 1)) hV; omega
  obtain ⟨z1, z2⟩ := Uj (D.uL.drop (i + 1)) (m := m) (by rw [D.uv]; exact hR)
  rw [List.drop_drop, show i + 1 + m = i + m + 1 by omega] at z1
  rw [D.uv] at z2
  have e : (us.drop i).take (m + 1) = us.getD i 0 :: (us.drop (i + 1)).take m := by rw [drop_cons_getD us (by omega), List.take_succ_cons]
  refine ⟨h1, h2, ?_, z1, ?_⟩
  · rw [e]; simpa using z2
  · rw [e]
    simp only [val]
    rw [z2, D.ug i (by omega)]
    omega
theorem DInv.round (D : DInv n U V (i + 1) us qs) (hin : i + m ≤ n) (hV : 0 < V) (hVm : V < Bs ^ m) (hi : i < 16) (hU : 0 ≤ U) :
    0 ≤ val ((us.drop i).take (m + 1)) / V ∧ val ((us.drop i).take (m + 1)) / V < Bs ∧
    DInv n U V i (us.take i ++ dig (m + 1) (val ((us.drop i).take (m + 1)) % V) ++ us.drop (i + m + 1)) (qs.set i (val ((us.drop i).take (m + 1)) / V)) := by
  obtain ⟨h1, h2, h3, h4, h5⟩ := D.window hin hV hVm
  have hl := D.ul
  generalize hw : (us.drop i).take (m + 1) = w at *
  have hR0 := Int.emod_nonneg (U / Bs ^ (i + 1)) (b := V) (by omega)
  have hR1 := Int.emod_lt_of_pos (U / Bs ^ (i + 1)) hV
  have hu0 := Int.emod_nonneg (U / Bs ^ i) (b := Bs) (by decide)
  have hu1 := Int.emod_lt_of_pos (U / Bs ^ i) (b := Bs) (by decide)
  have hd0 : 0 ≤ val w / V := Int.ediv_nonneg (Xh h2).1 (by omega)
  have hd1 : val w / V < Bs := by
    rw [Int.ediv_lt_iff_lt_mul hV, h5]
    have := Int.mul_le_mul_of_nonneg_left (show U / Bs ^ (i + 1) % V + 1 ≤ V by omega) (show (0 : Int) ≤ Bs by decide)
    rw [Int.mul_add] at this
    omega
  have hsplit : U / Bs ^ i = Bs * (U / Bs ^ (i + 1)) + U / Bs ^ i % Bs := by
    have := Int.emod_add_mul_ediv (U / Bs ^ i) Bs
    have hps : Bs ^ (i + 1) = Bs ^ i * Bs := Int.pow_succ ..
    rw [Int.ediv_ediv_of_nonneg (Int.le_of_lt (Xn i)), ← hps] at this
    omega
  obtain ⟨g1, g2⟩ := div_digit (U := U / Bs ^ (i + 1)) (V := V) (B := Bs) (u := U / Bs ^ i % Bs) hV hu0
  rw [← hsplit, ← h5] at g1 g2
  have hmod0 := Int.emod_nonneg (val w) (b := V) (by omega)
  have hmod1 := Int.emod_lt_of_pos (val w) hV
  have hpl : (us.take i).length = i := by rw [List.length_take]; omega
  have hVm1 : V ≤ Bs ^ (m + 1) := by
    rw [Int.pow_succ]
    have := Int.mul_le_mul_of_nonneg_left (show 1 ≤ Bs by decide) (Int.le_of_lt (Xn m))
    omega
  have hdv : val (dig (m + 1) (val w % V)) = val w % V := by rw [Wj, Int.emod_eq_of_lt hmod0 (by omega)]
  refine ⟨hd0, hd1, ⟨?_, ?_, ?_, ?_, ?_, D.qL.set i ⟨hd0, hd1⟩, ?_, ?_⟩⟩
  · simp only [List.length_append, hpl, dig_length, List.length_drop]; omega
  · exact Limbs.append.2 ⟨Limbs.append.2 ⟨D.uL.take i, Z7 _ _⟩, D.uL.drop _⟩
  · rw [List.append_assoc, List.drop_append_of_le_length (by omega), List.drop_of_length_le (by omega), List.nil_append, Rp, hdv, h4, Int.mul_zero, Int.add_zero, g2]
  · intro j hj
    have e : (us.take i ++ dig (m + 1) (val w % V) ++ us.drop (i + m + 1)).getD j 0 = us.getD j 0 := by
      rw [List.append_assoc, List.getD_eq_getElem?_getD, List.getElem?_append_left (by omega), List.getElem?_take_of_lt hj, ← List.getD_eq_getElem?_getD]
    rw [e]; exact D.ug j (by omega)
  · rw [List.length_set]; exact D.ql
  · rw [Vt _ (by rw [D.ql]; exact hi), D.qv, D.qg i (by omega), g1, Int.pow_succ, Int.sub_zero, Int.mul_assoc, Int.mul_add]
  · intro j hj
    rw [Xs _ _ (by rw [D.ql]; exact hi), if_neg (by omega)]
    exact D.qg j (by omega)
end
theorem DInv.start {n m : Nat} {X V : Int} {s : Nat} {qs : List Int} (hq : qs = dig 16 0) (hm : 0 < m) (hmn : m ≤ n) (hs : s < 64) (hX0 : 0 ≤ X) (hX : X < Bs ^ n) (hV : Bs ^ (m - 1) * 2 ^ s ≤ V) : DInv n (X * 2 ^ s) V (n - m + 1) (dig (n + 1) (X * 2 ^ s)) qs := by
  have hU0 : 0 ≤ X * 2 ^ s := Int.mul_nonneg hX0 (Int.le_of_lt (Zb s))
  have hp := Xn (n - m + 1)
  have hU : X * 2 ^ s / Bs ^ (n - m + 1) < V := by
    rw [Int.ediv_lt_iff_lt_mul hp]
    have h1 := Int.mul_lt_mul_of_pos_right hX (Zb s)
    have h2 : Bs ^ n * 2 ^ s = Bs ^ (m - 1) * 2 ^ s * Bs ^ (n - m + 1) := by
      rw [show Bs ^ n = Bs ^ (m - 1) * Bs ^ (n - m + 1) by rw [← Int.pow_add]; congr 1; omega, Int.mul_assoc, Int.mul_assoc, Int.mul_comm (Bs ^ (n - m + 1))]
    have h3 := Int.mul_le_mul_of_nonneg_right hV (Int.le_of_lt hp)
    omega
  have hUq : 0 ≤ X * 2 ^ s / Bs ^ (n - m + 1) := Int.ediv_nonneg hU0 (Int.le_of_lt hp)
  have h2s : (2 : Int) ^ s ≤ Bs := by
    have h := Ug (s := s) (by omega)
    have h2 := Zb (64 - s)
    have := Int.mul_le_mul_of_nonneg_left (show (1 : Int) ≤ 2 ^ (64 - s) by omega) (Int.le_of_lt (Zb s))
    omega
  have hUn : X * 2 ^ s < Bs ^ (n + 1) := by
    rw [Int.pow_succ]
    have h1 := Int.mul_lt_mul_of_pos_right hX (Zb s)
    have h2 := Int.mul_le_mul_of_nonneg_left h2s (Int.le_of_lt (Xn n))
    omega
  subst hq
  refine ⟨dig_length _ _, Z7 _ _, ?_, fun j hj => Kt _ _ _ (by omega), dig_length _ _, Z7 _ _, ?_, ?_⟩
  · rw [Int.emod_eq_of_lt hUq hU]
    have h := Yq (dig (n + 1) (X * 2 ^ s)) (n - m + 1)
    rw [dig_length, Nat.min_eq_left (by omega), Wj, Int.emod_eq_of_lt hU0 hUn] at h
    have hb := Xh ((Z7 (n + 1) (X * 2 ^ s)).take (n - m + 1))
    rw [List.length_take, dig_length, Nat.min_eq_left (by omega)] at hb
    rw [Int.mul_comm (Bs ^ (n - m + 1))] at h
    exact (ediv_eq (q := val ((dig (n + 1) (X * 2 ^ s)).drop (n - m + 1))) hp (by omega) (by rw [Int.add_mul]; omega)).symm
  · rw [Int.ediv_eq_zero_of_lt hUq hU, Wj]; simp
  · intro j hj
    rcases Nat.lt_or_ge j 16 with h | h
    · rw [Kt 16 0 j h]; simp
    · simp [List.getD, List.getElem?_eq_none (show (dig 16 0).length ≤ j by rw [dig_length]; exact h)]
theorem guess_right {w vs : List Int} {m : Nat} (hw : Limbs w) (hv : Limbs vs) (hwl : w.length = m + 3) (hvl : vs.length = m + 2) (hlt : val (w.drop 1) < val vs) (hv1 : 0 < vs.getD (m + 1) 0) :
    w.getD (m + 2) 0 ≤ vs.getD (m + 1) 0 ∧
    val w / val vs ≤ min (Bs - 1) (((w.getD (m + 2) 0 * Bs + w.getD (m + 1) 0) * Bs + w.getD m 0) / (vs.getD (m + 1) 0 * Bs + vs.getD m 0)) ∧
    min (Bs - 1) (((w.getD (m + 2) 0 * Bs + w.getD (m + 1) 0) * Bs + w.getD m 0) / (vs.getD (m + 1) 0 * Bs + vs.getD m 0)) ≤ val w / val vs + 1 := by
  have hp := Xn m
  have w2 := hw.get (m + 2)
  have w1 := hw.get (m + 1)
  have w0 := hw.get m
  have v1 := hv.get (m + 1)
  have v0 := hv.get m
  have hwt := Xh (hw.take m)
  have hvt := Xh (hv.take m)
  rw [List.length_take, Nat.min_eq_left (by omega)] at hwt hvt
  have htop := top_le (hw.drop 1) hv (m := m + 1) (by rw [List.length_drop]; omega) (by omega) hlt
  have hg : (w.drop 1).getD (m + 1) 0 = w.getD (m + 2) 0 := by
    rw [List.getD_eq_getElem?_getD, List.getElem?_drop, List.getD_eq_getElem?_getD]; congr 2; omega
  rw [hg] at htop
  have ew := top_three hwl
  have ev := top_two hvl
  have hVpos : 0 < val vs := by have := (Xh (hw.drop 1)).1; omega
  have hwd := Yw w (i := 0) (by omega)
  rw [List.drop_zero] at hwd
  have hw00 := hw.get 0
  have hqB : val w / val vs ≤ Bs - 1 := by
    have : val w / val vs < Bs := by
      rw [Int.ediv_lt_iff_lt_mul hVpos, hwd]
      have := Int.mul_le_mul_of_nonneg_left (show val (w.drop (0 + 1)) + 1 ≤ val vs from hlt) (show (0 : Int) ≤ Bs by decide)
      rw [Int.mul_add] at this
      omega
    omega
  refine ⟨htop, ?_, ?_⟩
  · have : val w / val vs ≤ ((w.getD (m + 2) 0 * Bs + w.getD (m + 1) 0) * Bs + w.getD m 0) / (vs.getD (m + 1) 0 * Bs + vs.getD m 0) := by
      rw [ew, ev]
      exact quo_le_guess hp (by simp only [Bs] at *; omega) hwt.2 hvt.1 (by simp only [Bs] at *; omega) hwt.1
    omega
  · generalize hT : ((w.getD (m + 2) 0 * Bs + w.getD (m + 1) 0) * Bs + w.getD m 0) / (vs.getD (m + 1) 0 * Bs + vs.getD m 0) = T
    have hT0 : 0 ≤ T := by rw [← hT]; exact Int.ediv_nonneg (by simp only [Bs] at *; omega) (by simp only [Bs] at *; omega)
    have hV2 : 0 < vs.getD (m + 1) 0 * Bs + vs.getD m 0 := by simp only [Bs] at *; omega
    have hTV : T * (vs.getD (m + 1) 0 * Bs + vs.getD m 0) ≤ (w.getD (m + 2) 0 * Bs + w.getD (m + 1) 0) * Bs + w.getD m 0 := by rw [← hT]; exact ediv_mul_le' _ hV2
    have hmm : min (Bs - 1) T * (vs.getD (m + 1) 0 * Bs + vs.getD m 0) ≤ T * (vs.getD (m + 1) 0 * Bs + vs.getD m 0) := Int.mul_le_mul_of_nonneg_right (by omega) (Int.le_of_lt hV2)
    have hB0 : (0 : Int) < Bs := by decide
    rw [ew, ev]
    exact guess_le (B := Bs) hp (by simp only [Bs] at *; omega) (by decide) hwt.1 hvt.1 hvt.2 (by omega) (by omega) (by omega)
end Go.PW

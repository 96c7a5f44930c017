/- Part 1 of the proof of the law CirclesMeet: lemmas on the model's code, on this program's functions, on numbers. No condition. -/
import Derived.Test.YtigddjlhncnnoaaGreatDoorZGat
import Derived.Test.YtigddjlhncnnoaaGreatDoorProg
set_option linter.unusedVariables false
set_option linter.unusedSimpArgs false
open Nat renaming reduceEqDiff → J0, reduceLeDiff → J1, reduceMul → J2, reduceAdd → J3, reduceSub → J4, reduceLT → J5
open Int renaming reduceToNat → J6, reducePow → J7, reduceNeg → J8, reduceLT → J9, reduceLE → Ja, reduceEq → Jb
open And renaming intro → Jc
open Go.IntKind renaming bits → Jd
open Go.PW renaming dig_length → Je
namespace Go.AL
theorem at_fz {P : Program} {t e : TypeId} {z n : Nat} {cs : List AV} {l : IntKind} {j : Int} (hu : P.underlying t = some (.slice e)) (hz : Xf P e = some z) (h0 : 0 ≤ j) (h1 : j < (n : Int)) : Qx P t (.fz n cs) (.int l j) = some (.fp (cs.drop (j.toNat * z))) := by
  simp [Qx, hu, hz, h0, h1]
end Go.AL
namespace Go.AL
open Go.RowKit
section
variable {n : Sc} {fr fr1 fr2 : Fr} {H H1 H2 : Hp} {P : Program} {c : Code} {Q : Exit → Fr → Hp → Prop}
theorem AWp_to (h : To n fr H fr2 H2) (k : AWp (n := n) P c fr2 H2 Q) : AWp (n := n) P c fr H Q := by
  intro hn w0 B β w a hL hd hf R F
  obtain ⟨b1, a1, n1, F1, R1⟩ := h hn w0 B β w a.tmps hL R F
  exact wp_mono (k n1 w0 B b1 w a (by rw [a1.leg]; exact hL) hd hf R1 F1) fun e a' w' hp => APost.shift a1 (Nat.le_refl _) hp
theorem AWp_loopT (I : Nat → Fr → Hp → Prop) {m : Nat} (h0 : ∃ fr2 H2, To n fr H fr2 H2 ∧ I m fr2 H2)
    (round : ∀ m fr H, I m fr H → AWp (n := n) P c fr H (Qb (fun fr' H' => ∃ m', m' < m ∧ ∃ fr2 H2, To n fr' H' fr2 H2 ∧ I m' fr2 H2) Q)) : AWp (n := n) P (.loop c) fr H Q :=
  Xi (fun m fr H => ∃ fr2 H2, To n fr H fr2 H2 ∧ I m fr2 H2) h0 fun m fr H ⟨fr2, H2, t, i⟩ => AWp_to t (round m fr2 H2 i)
end
theorem To.trim {n : Sc} {fr fr2 : Fr} {H H2 : Hp} (ks : List Nat) (hs : n.s = true) (hk : keeps n.n ks = true) (hH : Trim ks H ks H2) (hf : ∀ t, Frz (rest ks H) (fr2 t) (fr t) ∨ fr2 t = Kh ks (fr t)) : To n fr H fr2 H2 := fun hn w0 B β w t hL R F => by
  have hleg := hL hs
  unfold keeps at hk
  simp only [Bool.and_eq_true, List.all_eq_true, List.mem_range, beq_iff_eq, decide_eq_true_eq] at hk
  obtain ⟨hk, hnd⟩ := hk
  have hlen := hH.length
  have Rr := R.rest ks
  obtain ⟨β1, hβ1⟩ : ∃ β1, β1 = β.all (rest ks H) β := ⟨_, rfl⟩
  have fz1 : ∀ {a : Addr} {c : AV}, β1.fz a c → c.lt 0 ∧ ∃ v, w.cell? a = some v ∧ VR β1 c v ∧ v.oneCell' = true := fun h => by rw [hβ1] at h ⊢; exact Env.all_fz Rr h
  have vr1 : ∀ (c r : AV) (v : Value), Frz (rest ks H) c r → VR β r v → VR β1 c v := fun c r v h hv => by rw [hβ1]; exact Frz.vr c r v h hv
  have mono1 : ∀ a c, β.fz a c → β1.fz a c := fun a c h => by rw [hβ1]; exact Or.inl h
  have place : ∀ a c, β1.fz a c → (∀ (i k : Nat) (b : Blk), ks[i]? = some k → H[k]? = some b → b.kind = .own → (β k).addr.block ≠ a.block) ∧ (β.fz0 a ∨ B ≤ a.block) := by
    intro a c h
    rw [hβ1] at h
    have old : ∀ a d, β.fz a d → (∀ (i k : Nat) (b : Blk), ks[i]? = some k → H[k]? = some b → b.kind = .own → (β k).addr.block ≠ a.block) ∧ (β.fz0 a ∨ B ≤ a.block) := fun a d h => ⟨fun i k b _ hb ho => (R.fzn a d h).2.2.1 k b hb ho, (R.fzn a d h).2.2.2⟩
    rcases h with h | ⟨r, s, _⟩
    · exact old a c h
    · rcases s with h | ⟨h, b, j, hb, hd, hc, rfl⟩
      · exact old a r h
      · obtain ⟨hb', hnk⟩ := rest_get hb hd
        rw [Addr.add_block]
        have hne : b.cells ≠ [] := fun e => by rw [e] at hc; cases hc
        refine ⟨fun i k b' hki hb2 ho => R.sep k h b' b (fun e => hnk (e ▸ List.mem_of_getElem? hki)) hb2 hb' ho hd (.inr hne), .inr ?_⟩
        by_cases ho : b.kind = .own
        · obtain ⟨g, cur, e, h1, _⟩ := R.own h b hb' ho
          rw [e]; exact h1
        · exact (R.roB h b hb' ho hd hne).resolve_left hleg
  obtain ⟨β2, hβ2⟩ : ∃ β2 : Env, β2 = ⟨fun i => β (ks.getD i 0), β1.fz, β.fz0, β.leg⟩ := ⟨_, rfl⟩
  have hp : ∀ i h, ks[i]? = some h → β2 i = β h := fun i h e => by
    rw [hβ2]
    show β (ks.getD i 0) = β h
    rw [List.getD_eq_getElem?_getD, e]; rfl
  have fz2 : ∀ a c, β1.fz a c → β2.fz a c := fun a c h => by rw [hβ2]; exact h
  have fz2' : ∀ a c, β2.fz a c → β1.fz a c := fun a c h => by rw [hβ2] at h; exact h
  have vr2 : ∀ {c : AV} {v : Value}, c.lt 0 → VR β1 c v → VR β2 c v := fun hl hv => by refine J1q (β := β1) ?_ hl hv; exact fz2
  refine ⟨β2, ⟨fun h hh => hp h h (hk h hh), fun a c h => fz2 a c (mono1 a c h), by rw [hβ2], by rw [hβ2]⟩, ?_, fun t => ?_, ?_⟩
  · rw [hlen]
    generalize n.n = m at hk
    cases m with
    | zero => exact Nat.zero_le _
    | succ m => exact (List.getElem?_eq_some_iff.1 (hk m (Nat.lt_succ_self m))).1
  · rcases hf t with h | h
    · have hc := Frz.closed _ _ h
      exact ⟨vr2 hc (vr1 _ _ _ h (F t).1), AV.lt_mono (Nat.zero_le _) _ hc⟩
    · rw [h]
      refine ⟨renv_vr (β := β) hp ?_ _ _ (F t).1, by rw [hlen]; exact renv_lt ks _⟩
      exact fun a c h => fz2 a c (mono1 a c h)
  · refine ⟨R.below, R.base, ?_, ?_, ?_, ?_, ?_, ?_, ?_⟩
    · intro i b2 hb hd j c hc
      obtain ⟨k, b, cs, hki, hb0, _, hz, rfl⟩ := hH.get hb
      obtain ⟨r, hr, hcr⟩ := hz.get hc
      obtain ⟨v, h1, h2, h3⟩ := R.cells k b hb0 hd j r hr
      rw [hp i k hki]
      exact ⟨v, h1, vr2 (Frz.closed _ _ hcr) (vr1 _ _ _ hcr h2), h3⟩
    · intro i b2 hb hd c hc
      obtain ⟨k, b, cs, hki, hb0, _, hz, rfl⟩ := hH.get hb
      exact AV.lt_mono (Nat.zero_le _) _ ((AV.lts_iff.1 (Frzs.closed _ _ hz)) c hc)
    · intro i b2 hb ho
      obtain ⟨k, b, cs, hki, hb0, _, hz, rfl⟩ := hH.get hb
      rw [hp i k hki]
      obtain ⟨g, cur, e, h1, h2, h3, h4⟩ := R.own k b hb0 ho
      exact ⟨g, cur, e, h1, h2, by rw [← hz.length]; exact h3, h4⟩
    · intro i b2 hb a t v e hkd
      obtain ⟨k, b, cs, hki, hb0, _, hz, rfl⟩ := hH.get hb
      exact R.glob k b hb0 a t v e hkd
    · intro i i' b2 b2' hne hb hb' ho hd' hcs
      obtain ⟨k, b, cs, hki, hb0, _, hz, rfl⟩ := hH.get hb
      obtain ⟨k', b', cs', hki', hb0', _, hz', rfl⟩ := hH.get hb'
      rw [hp i k hki, hp i' k' hki']
      refine R.sep k k' b b' ?_ hb0 hb0' ho hd' (hcs.imp id fun h e => h (by
        have := hz'.length
        rw [e] at this
        exact List.eq_nil_of_length_eq_zero this.symm))
      intro e
      subst e
      have h1 := (List.getElem?_eq_some_iff.1 hki).1
      exact hne ((List.getElem?_inj h1 hnd).1 (hki.trans hki'.symm))
    · intro a c hf
      obtain ⟨h1, v, h2, h3, h4⟩ := fz1 (fz2' a c hf)
      obtain ⟨h5, h6⟩ := place a c (fz2' a c hf)
      refine ⟨h1, ⟨v, h2, vr2 h1 h3, h4⟩, fun i b2 hb ho => ?_, by rw [hβ2]; exact h6⟩
      obtain ⟨k, b, cs, hki, hb0, _, hz, rfl⟩ := hH.get hb
      rw [hp i k hki]
      exact h5 i k b hki hb0 ho
    · intro i b2 hb h1 h2 h3
      obtain ⟨k, b, cs, hki, hb0, hoc, hz, rfl⟩ := hH.get hb
      rcases hoc with ho | hc
      · exact absurd ho h1
      · rw [hc] at hz
        exact absurd (List.eq_nil_of_length_eq_zero hz.length.symm) h3
def frOf : List (Nat × AV) → Fr
  | [], _ => .undef
  | p :: l, t => if t = p.1 then p.2 else frOf l t
theorem frOf_trim {H : Hp} {ks : List Nat} {fr : Fr} : ∀ {l : List (Nat × AV)}, (∀ p ∈ l, Frz H p.2 (fr p.1) ∨ p.2 = Kh ks (fr p.1)) → ∀ t, Frz H (frOf l t) (fr t) ∨ frOf l t = Kh ks (fr t)
  | [], _, t => .inl (by simp only [frOf, Frz])
  | p :: l, h, t => by
    unfold frOf
    split
    · rename_i e; subst e; exact h p (List.mem_cons_self ..)
    · exact frOf_trim (fun q hq => h q (List.mem_cons_of_mem _ hq)) t
mutual
theorem renv_closed {ks : List Nat} : ∀ {c : AV}, c.lt 0 → Kh ks c = c
  | .fz _ _, _ => rfl
  | .fp _, _ => rfl
  | .agg cs, h => by rw [Kh, R7 (by simpa only [AV.lt] using h)]
  | .tup cs, h => by rw [Kh, R7 (by simpa only [AV.lt] using h)]
  | .ifc t x, h => by rw [Kh, renv_closed (by simpa only [AV.lt] using h)]
  | .ptr _ _, h => absurd h (Nat.not_lt_zero _)
  | .sl _ _ _ _, h => absurd h (Nat.not_lt_zero _)
  | .sg _ _ _ _, h => absurd h (Nat.not_lt_zero _)
  | .undef, _ => rfl
  | .int _ _, _ => rfl
  | .bool _, _ => rfl
  | .str _, _ => rfl
  | .nilI, _ => rfl
  | .nilP, _ => rfl
  | .nilS, _ => rfl
  | .fn _, _ => rfl
theorem R7 {ks : List Nat} : ∀ {cs : List AV}, AV.lts 0 cs → J1j ks cs = cs
  | [], _ => rfl
  | c :: cs, h => by rw [J1j, renv_closed h.1, R7 h.2]
end
theorem keepB_of {ks : List Nat} {H : Hp} {k : Nat} {b : Blk} (h : X3 H k = some b) (hc : AV.lts 0 b.cells) : keepB ks H k = b := by
  unfold keepB
  rw [h]
  show (⟨J1j ks b.cells, b.kind, b.ety⟩ : Blk) = b
  rw [R7 hc]
theorem To.keepC {n : Sc} {fr : Fr} {H : Hp} (ks : List Nat) (bs : List Blk) (hk : keeps n.n ks = true) (hb : ks.map (X3 H) = bs.map some) (hc : ∀ b ∈ bs, AV.lts 0 b.cells) : To n fr H (fun t => Kh ks (fr t)) bs := by
  have e : keepH ks H = bs := by
    unfold keepH
    apply List.ext_getElem?
    intro i
    have h := congrArg (fun l => l[i]?) hb
    simp only [List.getElem?_map] at h
    rw [List.getElem?_map]
    cases hi : ks[i]? with
    | none =>
      rw [hi] at h
      cases hbi : bs[i]? with
      | none => rfl
      | some b => rw [hbi] at h; cases h
    | some k =>
      rw [hi] at h
      cases hbi : bs[i]? with
      | none => rw [hbi] at h; cases h
      | some b =>
        rw [hbi] at h
        simp only [Option.map_some, Option.some.injEq] at h ⊢
        exact keepB_of h (hc b (List.mem_of_getElem? hbi))
  have := To.keep (fr := fr) (H := H) ks hk
  rwa [e] at this
theorem lts_bs {b : Blk} {bs : List Blk} : (∀ c ∈ b :: bs, AV.lts 0 c.cells) = (AV.lts 0 b.cells ∧ ∀ c ∈ bs, AV.lts 0 c.cells) := by simp only [List.mem_cons, forall_eq_or_imp]
theorem lts_bn : (∀ c ∈ ([] : List Blk), AV.lts 0 c.cells) = True := by simp
theorem frs_nil {H : Hp} {ks : List Nat} {fr : Fr} : ∀ p ∈ ([] : List (Nat × AV)), Frz H p.2 (fr p.1) ∨ p.2 = Kh ks (fr p.1) := fun p hp => by cases hp
theorem Vq {H : Hp} {ks : List Nat} {fr : Fr} {t : Nat} {c : AV} {l : List (Nat × AV)} (h : Frz H c (fr t) ∨ c = Kh ks (fr t)) (hl : ∀ p ∈ l, Frz H p.2 (fr p.1) ∨ p.2 = Kh ks (fr p.1)) : ∀ p ∈ (t, c) :: l, Frz H p.2 (fr p.1) ∨ p.2 = Kh ks (fr p.1) := fun p hp => by
  rcases List.mem_cons.1 hp with rfl | hp
  · exact h
  · exact hl p hp
end Go.AL
namespace Go.PW
theorem ld_more {vu v2 p K t V W : Int} (hp : 0 < p) (hV : 0 < V) (hW : p * W ≤ vu) (h2 : v2 < K) (h : v2 + t * (p * V) = vu + K) : W / V ≤ t - 1 := by
  have h1 : p * W < p * (t * V) := by
    have : p * (t * V) = t * (p * V) := by grind
    omega
  have h2 := R9 hp h1
  have : W / V < t := (Int.ediv_lt_iff_lt_mul hV).2 h2
  omega
theorem ld_done {vu v2 p low t V W : Int} (hp : 0 < p) (hV : 0 < V) (hW : vu = low + p * W) (hl : 0 ≤ low ∧ low < p) (h2 : 0 ≤ v2) (h : v2 + t * (p * V) = vu) (hq : W / V ≤ t) : t = W / V ∧ v2 = low + p * (W % V) := by
  have h1 : p * (t * V) < p * (W + 1) := by
    have e : p * (t * V) = t * (p * V) := by grind
    have e2 : p * (W + 1) = p * W + p := by grind
    omega
  have h2 := R9 hp h1
  have h3 : t ≤ W / V := J0s hV (by omega)
  have h4 : t = W / V := by omega
  refine ⟨h4, ?_⟩
  have hm := Int.emod_add_mul_ediv W V
  have e : t * (p * V) = p * (V * (W / V)) := by rw [h4]; grind
  have e2 : p * W = p * (W % V) + p * (V * (W / V)) := by rw [← Int.mul_add, hm]
  omega
theorem val_above {xs : List Int} (hx : Limbs xs) {m : Nat} (h : ∀ k, m ≤ k → xs.getD k 0 = 0) : val xs < Bs ^ m := by
  have hz : ∀ (ys : List Int), (∀ k, ys.getD k 0 = 0) → val ys = 0 := by
    intro ys
    induction ys with
    | nil => intro _; rfl
    | cons y ys ih =>
      intro h
      have h0 := h 0
      rw [List.getD_cons_zero] at h0
      simp [val, h0, ih (fun k => by have := h (k + 1); rwa [List.getD_cons_succ] at this)]
  have h1 := Yq xs m
  have h2 := Xh (hx.take m)
  have h3 : val (xs.drop m) = 0 := hz _ fun k => by
    have := h (m + k) (by omega)
    rw [List.getD_eq_getElem?_getD] at this ⊢
    rw [List.getElem?_drop]
    exact this
  rw [h3, Int.mul_zero, Int.add_zero] at h1
  have h4 : Bs ^ (xs.take m).length ≤ Bs ^ m := by
    rw [List.length_take]
    obtain ⟨d, hd⟩ : ∃ d, m = min m xs.length + d := ⟨m - min m xs.length, by omega⟩
    rw [hd, Int.pow_add, ← hd]
    have := Xn d
    have := Int.mul_le_mul_of_nonneg_left (show 1 ≤ Bs ^ d by omega) (Int.le_of_lt (Xn (min m xs.length)))
    omega
  omega
section
variable {U V : Int} {n la i : Nat} {us qs : List Int}
end
theorem guess_low {w vs : List Int} {m : Nat} (hw : Limbs w) (hv : Limbs vs) (hwl : w.length = m + 3) (hvl : vs.length = m + 2) (hlt : val (w.drop 1) < val vs) (hv1 : 0 < vs.getD (m + 1) 0) {t : Int}
    (ht : t = Bs - 1 ∨ ((w.getD (m + 2) 0 * Bs + w.getD (m + 1) 0) * Bs + w.getD m 0) / (vs.getD (m + 1) 0 * Bs + vs.getD m 0) ≤ t) : val w / val vs ≤ t := by
  have h := (guess_right hw hv hwl hvl hlt hv1).2.1
  rcases ht with ht | ht <;> omega
end Go.PW
namespace Go.PD
variable {rho : Nat → Nat → Int}
theorem Alt.front {F : List Nat → Int} (h : Alt F) (a : Nat) : ∀ (c1 : List Nat), ∃ s : Int, (s = 1 ∨ s = -1) ∧ ∀ a c2, F (c1 ++ a :: c2) = s * F (a :: (c1 ++ c2))
  | [] => ⟨1, .inl rfl, fun a c2 => by simp⟩
  | c :: c1 => by
    obtain ⟨s, hs, h1⟩ := (h.tail c).front a c1
    refine ⟨-s, by omega, fun a c2 => ?_⟩
    have h2 := h1 a c2
    have h3 := h [] c a (c1 ++ c2)
    simp only [List.nil_append] at h3
    simp only [List.cons_append, h2, h3]
    grind
end Go.PD
namespace Go.PW
theorem lim_spec (n : Nat) : Limbs (lim n) ∧ val (lim n) = n ∧ (lim n = [] ∨ (lim n).getD ((lim n).length - 1) 0 ≠ 0) := by
  induction n using Nat.strongRecOn with
  | _ n ih =>
    rcases Nat.eq_zero_or_pos n with h | h
    · subst h; rw [lim_zero]; exact ⟨Limbs.nil, rfl, .inl rfl⟩
    · have hd : n / 18446744073709551616 < n := Nat.div_lt_self h (by decide)
      obtain ⟨h1, h2, h3⟩ := ih _ hd
      rw [lim_pos h]
      refine ⟨fun x hx => ?_, ?_, .inr ?_⟩
      · rcases List.mem_cons.1 hx with rfl | hx
        · simp only [Bs]; omega
        · exact h1 x hx
      · simp only [val, h2, Bs]; omega
      · rcases Nat.eq_zero_or_pos (n / 18446744073709551616) with h0 | h0
        · rw [h0, lim_zero]; simp; omega
        · rcases h3 with h3 | h3
          · rw [lim_pos h0] at h3; cases h3
          · have hl : 0 < (lim (n / 18446744073709551616)).length := by rw [lim_pos h0]; simp
            generalize lim (n / 18446744073709551616) = l at *
            rw [List.length_cons, show l.length + 1 - 1 = (l.length - 1) + 1 by omega]
            simpa [List.getD_cons_succ] using h3
end Go.PW
namespace Go.Proofs.YtigddjlhncnnoaaGreatDoor
open Go.AL
theorem und24 : Tryz.prog.underlying 24 = some (.int .i16) := by kernel_rfl
theorem agg24 : Xp Tryz.prog 24 = some false := by kernel_rfl
theorem und28 : Tryz.prog.underlying 28 = some (.array 2 2) := by kernel_rfl
theorem agg28 : Xp Tryz.prog 28 = some true := by kernel_rfl
theorem und29 : Tryz.prog.underlying 29 = some (.slice 28) := by kernel_rfl
theorem agg29 : Xp Tryz.prog 29 = some false := by kernel_rfl
theorem und66 : Tryz.prog.underlying 66 = some (.struct #[{ name := "Neg", type := 4, offset := 0, embedded := false, tag := "", pkgPath := "", byteOffset := 0 }, { name := "M", type := 65, offset := 1, embedded := false, tag := "", pkgPath := "", byteOffset := 8 }]) := by kernel_rfl
theorem agg66 : Xp Tryz.prog 66 = some true := by kernel_rfl
theorem und67 : Tryz.prog.underlying 67 = some (.struct #[{ name := "Neg", type := 4, offset := 0, embedded := false, tag := "", pkgPath := "", byteOffset := 0 }, { name := "M", type := 65, offset := 1, embedded := false, tag := "", pkgPath := "", byteOffset := 8 }]) := by kernel_rfl
theorem J03 : Xf Tryz.prog 24 = some 1 := by kernel_rfl
theorem bytes24 : Xq Tryz.prog 24 = some 2 := by kernel_rfl
theorem zero24 : Z2 Tryz.prog 24 = some (.int .i16 0) := by kernel_rfl
theorem size28 : Xf Tryz.prog 28 = some 2 := by kernel_rfl
theorem bytes28 : Xq Tryz.prog 28 = some 16 := by kernel_rfl
theorem zero28 : Z2 Tryz.prog 28 = some (.agg ((Go.PW.dig 2 0).map (AV.int .i64))) := by kernel_rfl
theorem bld28 : Yh Tryz.prog 28 [] = some (.agg ((Go.PW.dig 2 0).map (AV.int .i64))) := by kernel_rfl
theorem size29 : Xf Tryz.prog 29 = some 1 := by kernel_rfl
theorem bytes29 : Xq Tryz.prog 29 = some 24 := by kernel_rfl
theorem zero29 : Z2 Tryz.prog 29 = some (.nilS) := by kernel_rfl
theorem size66 : Xf Tryz.prog 66 = some 2 := by kernel_rfl
theorem bytes66 : Xq Tryz.prog 66 = some 32 := by kernel_rfl
theorem zero66 : Z2 Tryz.prog 66 = some (.agg [.bool false, .nilS]) := by kernel_rfl
theorem lenS29 (h o n c : Nat) : Qn Tryz.prog .len #[29] [.sl h o n c] = some (.int .i64 n) := by simp [Qn, und29]
theorem lenG29 (h o n z : Nat) : Qn Tryz.prog .len #[29] [.sg h o n z] = some (.int .i64 n) := by simp [Qn, und29]
theorem lenN29 : Qn Tryz.prog .len #[29] [.nilS] = some (.int .i64 0) := by simp [Qn, und29]
theorem lenZ29 (n : Nat) (cs : List AV) : Qn Tryz.prog .len #[29] [.fz n cs] = some (.int .i64 n) := by simp [Qn, und29]
theorem six29 {h o n c : Nat} {l : IntKind} {j : Int} (h0 : 0 ≤ j) (h1 : j < (n : Int)) : Qx Tryz.prog 29 (.sl h o n c) (.int l j) = some (.ptr h (o + j.toNat * 2)) := at_sl und29 size28 h0 h1
theorem gix29 {h o n : Nat} {l : IntKind} {j : Int} (h0 : 0 ≤ j) (h1 : j < (n : Int)) : Qx Tryz.prog 29 (.sg h o n 2) (.int l j) = some (.ptr h (o + j.toNat * 2)) := at_sg und29 size28 h0 h1
theorem zix29 {n : Nat} {cs : List AV} {l : IntKind} {j : Int} (h0 : 0 ≤ j) (h1 : j < (n : Int)) : Qx Tryz.prog 29 (.fz n cs) (.int l j) = some (.fp (cs.drop (j.toNat * 2))) := at_fz und29 size28 h0 h1
theorem idx28 {h o : Nat} {l : IntKind} {j : Int} (h0 : 0 ≤ j) (h1 : j < 2) : Qx Tryz.prog 28 (.ptr h o) (.int l j) = some (.ptr h (o + j.toNat * 1)) := J0d und28 Yr h0 h1
theorem sla28 {h o : Nat} : Yg Tryz.prog 28 (.ptr h o) none none none = some (.sl h o 2 2) := Nc und28 Yr
theorem slh28 {h o : Nat} {l : IntKind} {q : Int} (h0 : 0 ≤ q) (h1 : q ≤ 2) : Yg Tryz.prog 28 (.ptr h o) none (some (.int l q)) none = some (.sl h o q.toNat 2) := Wr und28 Yr h0 h1
theorem fad66_0 {h o : Nat} : Qh Tryz.prog 66 (.ptr h o) 0 = some (.ptr h (o)) := by simp [Qh, und66, size4]
theorem faz66_0 {cs : List AV} : Qh Tryz.prog 66 (.fp cs) 0 = some (.fp (cs.drop 0)) := by simp [Qh, und66, size4]
theorem fad66_1 {h o : Nat} : Qh Tryz.prog 66 (.ptr h o) 1 = some (.ptr h (o + 1)) := by simp [Qh, und66, J1y]
theorem faz66_1 {cs : List AV} : Qh Tryz.prog 66 (.fp cs) 1 = some (.fp (cs.drop 1)) := by simp [Qh, und66, J1y]
theorem fad67_0 {h o : Nat} : Qh Tryz.prog 67 (.ptr h o) 0 = some (.ptr h (o)) := by simp [Qh, und67, size4]
theorem faz67_0 {cs : List AV} : Qh Tryz.prog 67 (.fp cs) 0 = some (.fp (cs.drop 0)) := by simp [Qh, und67, size4]
theorem fad67_1 {h o : Nat} : Qh Tryz.prog 67 (.ptr h o) 1 = some (.ptr h (o + 1)) := by simp [Qh, und67, J1y]
theorem faz67_1 {cs : List AV} : Qh Tryz.prog 67 (.fp cs) 1 = some (.fp (cs.drop 1)) := by simp [Qh, und67, J1y]
theorem Qz : Yh Tryz.prog 67 [] = some (.agg [(.bool false), (.nilS)]) := by
  simp [Yh, zero67, G1, und67, size4, J1y, Q7, Q2, AV.cells_agg]
theorem Qr {x0 x1 : AV} (h0 : x0.one = true) (h1 : x1.one = true) : Yh Tryz.prog 67 [(0, x0), (1, x1)] = some (.agg [x0, x1]) := by
  simp [Yh, zero67, G1, und67, size4, J1y, Q7, Q2, AV.solid_one h0, AV.cells_one h0, AV.solid_one h1, AV.cells_one h1, AV.cells_agg]
theorem X0 {x1 : AV} (h1 : x1.one = true) : Yh Tryz.prog 67 [(1, x1)] = some (.agg [(.bool false), x1]) := by
  simp [Yh, zero67, G1, und67, size4, J1y, Q7, Q2, AV.solid_one h1, AV.cells_one h1, AV.cells_agg]
theorem eg28 : Tryz.prog.eqGuardType Tryz.prog.depth 28 = false := by kernel_rfl
theorem eqSl29 (h o n c : Nat) : Xm Tryz.prog Op.maxDepth 29 (.sl h o n c) .nilS = some false := Yo und29
theorem eqSg29 (h o n c : Nat) : Xm Tryz.prog Op.maxDepth 29 (.sg h o n c) .nilS = some false := Yp und29
theorem eqSn29 : Xm Tryz.prog Op.maxDepth 29 .nilS .nilS = some true := Yc und29
theorem cv24_2 (H : Hp) (k : IntKind) (n : Int) : Up Tryz.prog H 24 2 (.int k n) = some (.int .i64 (IntKind.i64.wrap n)) := by simp [Up, und24, und2]
theorem tyb24 : type_of% (Jc @und24 (Jc @agg24 (Jc @J03 (Jc @bytes24 (@zero24))))) := Jc @und24 (Jc @agg24 (Jc @J03 (Jc @bytes24 (@zero24))))
theorem tyb28 : type_of% (Jc @und28 (Jc @agg28 (Jc @size28 (Jc @bytes28 (Jc @zero28 (Jc @bld28 (Jc @sla28 (@eg28)))))))) := Jc @und28 (Jc @agg28 (Jc @size28 (Jc @bytes28 (Jc @zero28 (Jc @bld28 (Jc @sla28 (@eg28)))))))
theorem tyb29 : type_of% (Jc @und29 (Jc @agg29 (Jc @size29 (Jc @bytes29 (Jc @zero29 (Jc @lenS29 (Jc @lenG29 (Jc @lenN29 (Jc @lenZ29 (Jc @eqSl29 (Jc @eqSg29 (@eqSn29)))))))))))) := Jc @und29 (Jc @agg29 (Jc @size29 (Jc @bytes29 (Jc @zero29 (Jc @lenS29 (Jc @lenG29 (Jc @lenN29 (Jc @lenZ29 (Jc @eqSl29 (Jc @eqSg29 (@eqSn29)))))))))))
theorem Zq : type_of% (Jc @und66 (Jc @agg66 (Jc @size66 (Jc @bytes66 (Jc @zero66 (Jc @fad66_0 (Jc @faz66_0 (Jc @fad66_1 (@faz66_1))))))))) := Jc @und66 (Jc @agg66 (Jc @size66 (Jc @bytes66 (Jc @zero66 (Jc @fad66_0 (Jc @faz66_0 (Jc @fad66_1 (@faz66_1))))))))
theorem Zp : type_of% (Jc @und67 (Jc @agg67 (Jc @Ut (Jc @bytes67 (Jc @zero67 (Jc @fad67_0 (Jc @faz67_0 (Jc @fad67_1 (@faz67_1))))))))) := Jc @und67 (Jc @agg67 (Jc @Ut (Jc @bytes67 (Jc @zero67 (Jc @fad67_0 (Jc @faz67_0 (Jc @fad67_1 (@faz67_1))))))))
end Go.Proofs.YtigddjlhncnnoaaGreatDoor
namespace Go.Proofs.YtigddjlhncnnoaaGreatDoor
open Go.AL Go.PW Go.PD
set_option maxRecDepth 8000
theorem WsV.low {H : Hp} {v : AV} {ls : List Int} {lo lo' : Nat} (h : WsV H v ls lo) (hl : lo' ≤ lo) : WsV H v ls lo' := by
  rcases h with h | ⟨k, h1, h2, h3⟩
  · exact .inl h
  · exact .inr ⟨k, h1, h2, by omega⟩
end Go.Proofs.YtigddjlhncnnoaaGreatDoor
namespace Go.Proofs.YtigddjlhncnnoaaGreatDoor
open Go.AL Go.PW
theorem Gy : type_of% (Jc @Xw (Jc @Z1 (@Xc))) := Jc @Xw (Jc @Z1 (@Xc))
theorem tf91RfA : type_of% (Jc @Xw (Jc @Zh (Jc @Z1 (Jc @Zq (Jc @Zp (@Xc)))))) := Jc @Xw (Jc @Zh (Jc @Z1 (Jc @Zq (Jc @Zp (@Xc)))))
theorem Nx : type_of% (Jc @Xw (Jc @Zh (Jc @Z1 (Jc @Zq (Jc @Zp (@Xc)))))) := Jc @Xw (Jc @Zh (Jc @Z1 (Jc @Zq (Jc @Zp (@Xc)))))
theorem tf128RfA : type_of% (Jc @Zh (Jc @Z1 (Jc @Zq (Jc @Zp (@Xc))))) := Jc @Zh (Jc @Z1 (Jc @Zq (Jc @Zp (@Xc))))
set_option maxRecDepth 8000
abbrev Ub (xs : List Int) : Blk := ⟨xs.map (AV.int .u64), .own, 71⟩
def tl (xs : List Int) : Nat → Nat
  | 0 => 0
  | k + 1 => if xs.getD k 0 = 0 then tl xs k else k + 1
theorem Wo (xs : List Int) : ∀ k, tl xs k ≤ k
  | 0 => Nat.le_refl _
  | k + 1 => by
    unfold tl
    split
    · have := Wo xs k; omega
    · exact Nat.le_refl _
theorem tl_z {xs : List Int} {m : Nat} (h : xs.getD m 0 = 0) : tl xs (m + 1) = tl xs m := by
  show (if xs.getD m 0 = 0 then tl xs m else m + 1) = tl xs m
  rw [if_pos h]
theorem tl_nz {xs : List Int} {m : Nat} (h : ¬ xs.getD m 0 = 0) : tl xs (m + 1) = m + 1 := by
  show (if xs.getD m 0 = 0 then tl xs m else m + 1) = m + 1
  rw [if_neg h]
theorem Vp {H : Hp} {h : Nat} {xs : List Int} (hg : X3 H h = some (Ub xs)) {i : Nat} (hi : i < xs.length) : V7 Tryz.prog H 71 (.ptr h i) = some (.int .u64 (xs.getD i 0)) := by
  rw [K9, hg]
  simp only [Yt]
  rw [if_neg (by decide)]
  exact map_get _ _ _ hi
theorem cut_u64 (h n m c : Nat) (hm : m ≤ c) : Yg Tryz.prog 65 (.sl h 0 n c) none (some (.int .i64 (m : Int))) none = some (.sl h 0 m c) := by
  have hb : Y3 n c none (some (.int .i64 (m : Int))) none = some (0, m, c) := by
    simp [Y3, Wa, hm]
  simp only [Yg, Z8, Z4, hb, Nat.zero_mul, Nat.add_zero, Nat.sub_zero]
  split <;> rfl
set_option maxHeartbeats 2000000 in
theorem trim_calls (h k c : Nat) (xs : List Int) (H : Hp) (hg : X3 H h = some (Ub xs)) (hk : k ≤ xs.length) (hkc : k ≤ c) (hc : c < 1000000) : ACalls Tryz.prog 96 [.sl h 0 k c] H fun r H' => r = .sl h 0 (tl xs k) c ∧ H = H' := by
  refine Qo Tryz.func96 rfl (by kernel_rfl) (by kernel_rfl) ?_
  repeat' first
    | (with_reducible first | refine Jh (fun K hK => ?_) | refine Jx ?_ | refine Q4 ?_ | refine Qc ?_ | refine Qd ?_ | refine Jg ?_ | refine Jr ?_)
    | (with_reducible refine Jt (fun hc => ?_) (fun hc => ?_) <;> (try simp only [RC] at hc) <;> (try (exfalso; first | omega | contradiction)))
    | (with_reducible refine X4 (fun hc => ?_) (fun hc => ?_) <;> (try simp only [RC] at hc) <;> (try (exfalso; first | omega | contradiction)))
    | (simp only [Qb, Jo, reduceIte, J0])
    | ((with_reducible refine hK _ _ ?_); clear hK)
    | (clear hK; (with_reducible refine hK _ _ ?_); clear hK)
    | (clear hK; clear hK; (with_reducible refine hK _ _ ?_); clear hK)
    | (clear hK; clear hK; clear hK; (with_reducible refine hK _ _ ?_); clear hK)
    | (clear hK; clear hK; clear hK; clear hK; (with_reducible refine hK _ _ ?_); clear hK)
    | (clear hK; clear hK; clear hK; clear hK; clear hK; (with_reducible refine hK _ _ ?_); clear hK)
    | (simp only [Q9, RA, Jn, Jm, Jp, Q8, Q6, ev, ofValue, Ju, J0, J3, J2, J4, reduceCtorEq, reduceIte, Jv, Qm, Qk, Q0, aun, Qj, Jk, Ji, Jz, Jy, Jj, Qi, Jf, Q7, Q2, Js, J1, J5, Ja, J9, Jb, J6, J7, Jd, J8, RB, Jw, Je, Gy])
    | (simp (disch := first | omega | (simp only [RO]; done) | assumption) only [RS, Xa, Xb, X9])
    | (simp (disch := (first | omega | (simp only [RO]; done) | assumption | (simp only [RM, Je]; done) | (simp only [RL, Je]; omega))) only [RD, reduceCtorEq, reduceIte, Je, J1, J3, J2, J6, Gy])
  refine Xi (fun m fr' H' => m ≤ k ∧ fr' 0 = .sl h 0 m c ∧ tl xs m = tl xs k ∧ H = H') (m := k) ⟨Nat.le_refl _, rfl, rfl, rfl⟩ ?_
  rintro m fr' H' ⟨hm, k0, ht, rfl⟩
  cases m with
  | zero =>
    repeat' first
      | (with_reducible first | refine Jh (fun K hK => ?_) | refine Jx ?_ | refine Q4 ?_ | refine Qc ?_ | refine Qd ?_ | refine Jg ?_ | refine Jr ?_)
      | (with_reducible refine Jt (fun hc => ?_) (fun hc => ?_) <;> (try simp only [RC] at hc) <;> (try (exfalso; first | omega | contradiction)))
      | (with_reducible refine X4 (fun hc => ?_) (fun hc => ?_) <;> (try simp only [RC] at hc) <;> (try (exfalso; first | omega | contradiction)))
      | (simp only [Qb, Jo, reduceIte, J0])
      | ((with_reducible refine hK _ _ ?_); clear hK)
      | (clear hK; (with_reducible refine hK _ _ ?_); clear hK)
      | (clear hK; clear hK; (with_reducible refine hK _ _ ?_); clear hK)
      | (clear hK; clear hK; clear hK; (with_reducible refine hK _ _ ?_); clear hK)
      | (clear hK; clear hK; clear hK; clear hK; (with_reducible refine hK _ _ ?_); clear hK)
      | (clear hK; clear hK; clear hK; clear hK; clear hK; (with_reducible refine hK _ _ ?_); clear hK)
      | (simp only [Q9, RA, Jn, Jm, Jp, Q8, Q6, ev, ofValue, Ju, J0, J3, J2, J4, reduceCtorEq, reduceIte, Jv, Qm, Qk, Q0, aun, Qj, Jk, Ji, Jz, Jy, Jj, Qi, Jf, Q7, Q2, Js, J1, J5, Ja, J9, Jb, J6, J7, Jd, J8, RB, Jw, Je, Gy, k0])
      | (simp (disch := first | omega | (simp only [RO]; done) | assumption) only [RS, Xa, Xb, X9])
      | (simp (disch := (first | omega | (simp only [RO]; done) | assumption | (simp only [RM, Je]; done) | (simp only [RL, Je]; omega))) only [RD, reduceCtorEq, reduceIte, Je, J1, J3, J2, J6, Gy, k0])
    (
     (refine Qg (rs := [.tmp 2]) rfl ?_)
     (simp only [X5, Qf, Fr.put_some, Fr.put_none, Qp, Qq, Qt, J0, reduceIte])
     (try simp (disch := (first | omega | (simp only [RO]; done) | assumption | (simp only [RM, Je]; done) | (simp only [RL, Je]; omega))) only [RD, reduceCtorEq, reduceIte, Je, J1, J3, J2, J6, Gy]))
    rw [← ht]; rfl
  | succ m =>
    have w1 : IntKind.i64.wrap (((m + 1 : Nat) : Int) - 1) = (m : Int) := by rw [Qe (by omega) (by omega)]; omega
    have l1 := Vp hg (i := m) (by omega)
    have hpos : (((m + 1 : Nat) : Int) > 0) = True := eq_true (by omega)
    by_cases hx : xs.getD m 0 = 0
    · have hcut := cut_u64 h (m + 1) m c (by omega)
      repeat' first
        | (with_reducible first | refine Jh (fun K hK => ?_) | refine Jx ?_ | refine Q4 ?_ | refine Qc ?_ | refine Qd ?_ | refine Jg ?_ | refine Jr ?_)
        | (with_reducible refine Jt (fun hc => ?_) (fun hc => ?_) <;> (try simp only [RC] at hc) <;> (try (exfalso; first | omega | contradiction)))
        | (with_reducible refine X4 (fun hc => ?_) (fun hc => ?_) <;> (try simp only [RC] at hc) <;> (try (exfalso; first | omega | contradiction)))
        | (simp only [Qb, Jo, reduceIte, J0])
        | ((with_reducible refine hK _ _ ?_); clear hK)
        | (clear hK; (with_reducible refine hK _ _ ?_); clear hK)
        | (clear hK; clear hK; (with_reducible refine hK _ _ ?_); clear hK)
        | (clear hK; clear hK; clear hK; (with_reducible refine hK _ _ ?_); clear hK)
        | (clear hK; clear hK; clear hK; clear hK; (with_reducible refine hK _ _ ?_); clear hK)
        | (clear hK; clear hK; clear hK; clear hK; clear hK; (with_reducible refine hK _ _ ?_); clear hK)
        | (simp only [Q9, RA, Jn, Jm, Jp, Q8, Q6, ev, ofValue, Ju, J0, J3, J2, J4, reduceCtorEq, reduceIte, Jv, Qm, Qk, Q0, aun, Qj, Jk, Ji, Jz, Jy, Jj, Qi, Jf, Q7, Q2, Js, J1, J5, Ja, J9, Jb, J6, J7, Jd, J8, RB, Jw, Je, Gy, k0, w1, l1, hx, hcut])
        | (simp (disch := first | omega | (simp only [RO]; done) | assumption) only [RS, Xa, Xb, X9])
        | (simp (disch := (first | omega | (simp only [RO]; done) | assumption | (simp only [RM, Je]; done) | (simp only [RL, Je]; omega))) only [RD, reduceCtorEq, reduceIte, Je, J1, J3, J2, J6, Gy, k0, w1, l1, hx, hcut])
      all_goals exact ⟨m, by omega, by omega, rfl, by rw [← ht, tl_z hx]⟩
    · skip
      repeat' first
        | (with_reducible first | refine Jh (fun K hK => ?_) | refine Jx ?_ | refine Q4 ?_ | refine Qc ?_ | refine Qd ?_ | refine Jg ?_ | refine Jr ?_)
        | (with_reducible refine Jt (fun hc => ?_) (fun hc => ?_) <;> (try simp only [RC] at hc) <;> (try (exfalso; first | omega | contradiction)))
        | (with_reducible refine X4 (fun hc => ?_) (fun hc => ?_) <;> (try simp only [RC] at hc) <;> (try (exfalso; first | omega | contradiction)))
        | (simp only [Qb, Jo, reduceIte, J0])
        | ((with_reducible refine hK _ _ ?_); clear hK)
        | (clear hK; (with_reducible refine hK _ _ ?_); clear hK)
        | (clear hK; clear hK; (with_reducible refine hK _ _ ?_); clear hK)
        | (clear hK; clear hK; clear hK; (with_reducible refine hK _ _ ?_); clear hK)
        | (clear hK; clear hK; clear hK; clear hK; (with_reducible refine hK _ _ ?_); clear hK)
        | (clear hK; clear hK; clear hK; clear hK; clear hK; (with_reducible refine hK _ _ ?_); clear hK)
        | (simp only [Q9, RA, Jn, Jm, Jp, Q8, Q6, ev, ofValue, Ju, J0, J3, J2, J4, reduceCtorEq, reduceIte, Jv, Qm, Qk, Q0, aun, Qj, Jk, Ji, Jz, Jy, Jj, Qi, Jf, Q7, Q2, Js, J1, J5, Ja, J9, Jb, J6, J7, Jd, J8, RB, Jw, Je, Gy, k0, w1, l1, hx])
        | (simp (disch := first | omega | (simp only [RO]; done) | assumption) only [RS, Xa, Xb, X9])
        | (simp (disch := (first | omega | (simp only [RO]; done) | assumption | (simp only [RM, Je]; done) | (simp only [RL, Je]; omega))) only [RD, reduceCtorEq, reduceIte, Je, J1, J3, J2, J6, Gy, k0, w1, l1, hx])
      all_goals
        (
         (refine Qg (rs := [.tmp 2]) rfl ?_)
         (simp only [X5, Qf, Fr.put_some, Fr.put_none, Qp, Qq, Qt, J0, reduceIte])
         (try simp (disch := (first | omega | (simp only [RO]; done) | assumption | (simp only [RM, Je]; done) | (simp only [RL, Je]; omega))) only [RD, reduceCtorEq, reduceIte, Je, J1, J3, J2, J6, Gy]))
      all_goals rw [← ht, tl_nz hx]
theorem made_calls (neg : Bool) (s : AV) (xs : List Int) (H : Hp) (hs : Ints H .u64 s xs) : ACalls Tryz.prog 91 [.bool neg, s] H fun r H' => r = .agg [.bool (neg && decide (0 < xs.length)), s] ∧ H = H' := by
  refine ACalls.drop (R := fun r => r = .agg [.bool (neg && decide (0 < xs.length)), s]) ?_
  have hs1 : s.one = true := hs.rd.one
  have hc : s.cells = [s] := AV.cells_one hs1
  have hl := hs.rd.len Z8
  have hlt := hs.rd.lt
  refine Qo Tryz.func91 rfl (by kernel_rfl) (by kernel_rfl) ?_
  have hp : (0 < (xs.length : Int)) = (0 < xs.length) := propext (by omega)
  cases neg
  · skip
    repeat' first
      | (with_reducible first | refine Jh (fun K hK => ?_) | refine Jx ?_ | refine Q4 ?_ | refine Qc ?_ | refine Qd ?_ | refine Jg ?_ | refine Jr ?_)
      | (with_reducible refine Jt (fun hc => ?_) (fun hc => ?_) <;> (try simp only [RC] at hc) <;> (try (exfalso; first | omega | contradiction)))
      | (with_reducible refine X4 (fun hc => ?_) (fun hc => ?_) <;> (try simp only [RC] at hc) <;> (try (exfalso; first | omega | contradiction)))
      | (simp only [Qb, Jo, reduceIte, J0])
      | ((with_reducible refine hK _ _ ?_); clear hK)
      | (clear hK; (with_reducible refine hK _ _ ?_); clear hK)
      | (clear hK; clear hK; (with_reducible refine hK _ _ ?_); clear hK)
      | (clear hK; clear hK; clear hK; (with_reducible refine hK _ _ ?_); clear hK)
      | (clear hK; clear hK; clear hK; clear hK; (with_reducible refine hK _ _ ?_); clear hK)
      | (clear hK; clear hK; clear hK; clear hK; clear hK; (with_reducible refine hK _ _ ?_); clear hK)
      | (simp only [Q9, RA, Jn, Jm, Jp, Q8, Q6, ev, ofValue, Ju, J0, J3, J2, J4, reduceCtorEq, reduceIte, Jv, Qm, Qk, Q0, aun, Qj, Jk, Ji, Jz, Jy, Jj, Qi, Jf, Q7, Q2, Js, J1, J5, Ja, J9, Jb, J6, J7, Jd, J8, RB, Jw, Je, tf91RfA, hl])
      | (simp (disch := first | omega | (simp only [RO]; done) | assumption) only [RS, Xa, Xb, X9, Qz, Qr, X0])
      | (simp (disch := (first | omega | (simp only [RO]; done) | assumption | (simp only [RM, Je]; done) | (simp only [RL, Je]; omega))) only [RD, reduceCtorEq, reduceIte, Je, J1, J3, J2, J6, tf91RfA, hl])
    (
     (refine Qg (rs := [.cell 4 67]) rfl ?_)
     (simp only [X5, Qf, Fr.put_some, Fr.put_none, Qp, Qq, Qt, J0, reduceIte])
     (try simp (disch := (first | omega | (simp only [RO]; done) | assumption | (simp only [RM, Je]; done) | (simp only [RL, Je]; omega))) only [RD, reduceCtorEq, reduceIte, Je, J1, J3, J2, J6, tf91RfA]))
    exact ⟨Ext.push _ _, by simp only [AV.lt, AV.lts]; exact ⟨trivial, hlt, trivial⟩⟩
  · skip
    repeat' first
      | (with_reducible first | refine Jh (fun K hK => ?_) | refine Jx ?_ | refine Q4 ?_ | refine Qc ?_ | refine Qd ?_ | refine Jg ?_ | refine Jr ?_)
      | (with_reducible refine Jt (fun hc => ?_) (fun hc => ?_) <;> (try simp only [RC] at hc) <;> (try (exfalso; first | omega | contradiction)))
      | (with_reducible refine X4 (fun hc => ?_) (fun hc => ?_) <;> (try simp only [RC] at hc) <;> (try (exfalso; first | omega | contradiction)))
      | (simp only [Qb, Jo, reduceIte, J0])
      | ((with_reducible refine hK _ _ ?_); clear hK)
      | (clear hK; (with_reducible refine hK _ _ ?_); clear hK)
      | (clear hK; clear hK; (with_reducible refine hK _ _ ?_); clear hK)
      | (clear hK; clear hK; clear hK; (with_reducible refine hK _ _ ?_); clear hK)
      | (clear hK; clear hK; clear hK; clear hK; (with_reducible refine hK _ _ ?_); clear hK)
      | (clear hK; clear hK; clear hK; clear hK; clear hK; (with_reducible refine hK _ _ ?_); clear hK)
      | (simp only [Q9, RA, Jn, Jm, Jp, Q8, Q6, ev, ofValue, Ju, J0, J3, J2, J4, reduceCtorEq, reduceIte, Jv, Qm, Qk, Q0, aun, Qj, Jk, Ji, Jz, Jy, Jj, Qi, Jf, Q7, Q2, Js, J1, J5, Ja, J9, Jb, J6, J7, Jd, J8, RB, Jw, Je, tf91RfA, hl, hp])
      | (simp (disch := first | omega | (simp only [RO]; done) | assumption) only [RS, Xa, Xb, X9, Qz, Qr, X0])
      | (simp (disch := (first | omega | (simp only [RO]; done) | assumption | (simp only [RM, Je]; done) | (simp only [RL, Je]; omega))) only [RD, reduceCtorEq, reduceIte, Je, J1, J3, J2, J6, tf91RfA, hl, hp])
    (
     (refine Qg (rs := [.cell 4 67]) rfl ?_)
     (simp only [X5, Qf, Fr.put_some, Fr.put_none, Qp, Qq, Qt, J0, reduceIte])
     (try simp (disch := (first | omega | (simp only [RO]; done) | assumption | (simp only [RM, Je]; done) | (simp only [RL, Je]; omega))) only [RD, reduceCtorEq, reduceIte, Je, J1, J3, J2, J6, tf91RfA]))
    exact ⟨Ext.push _ _, by simp only [AV.lt, AV.lts]; exact ⟨trivial, hlt, trivial⟩⟩
theorem Sign_calls (x : Int) (s : AV) (H : Hp) (hs : Bs_ H s x) : ACalls Tryz.prog 35 [BV x s] H fun r H' => r = .int .i64 x.sign ∧ H = H' := by
  refine ACalls.drop (R := fun r => r = .int .i64 x.sign) ?_
  obtain ⟨xs, u, c, hv⟩ := hs.ex
  have hs1 : s.one = true := u.rd.rd.one
  have hc : s.cells = [s] := AV.cells_one hs1
  have hl := u.rd.rd.len Z8
  have hz : xs.length = 0 ↔ x = 0 := by
    constructor
    · intro h
      have : xs = [] := List.eq_nil_of_length_eq_zero h
      subst this
      simp [val] at hv; omega
    · intro h
      subst h
      rcases c.top with h | h
      · rw [h]; rfl
      · have h1 := val_top c.lim h
        have h2 : (0 : Int) < Bs ^ (xs.length - 1) := Int.pow_pos (by decide)
        simp at hv; omega
  refine Qo Tryz.func35 rfl (by kernel_rfl) (by kernel_rfl) ?_
  rcases Int.lt_trichotomy x 0 with h | h | h
  · have e1 : ((xs.length : Int) = 0) = False := eq_false (by omega)
    have e2 : (x < 0) = True := eq_true h
    repeat' first
      | (with_reducible first | refine Jh (fun K hK => ?_) | refine Jx ?_ | refine Q4 ?_ | refine Qc ?_ | refine Qd ?_ | refine Jg ?_ | refine Jr ?_)
      | (with_reducible refine Jt (fun hc => ?_) (fun hc => ?_) <;> (try simp only [RC] at hc) <;> (try (exfalso; first | omega | contradiction)))
      | (with_reducible refine X4 (fun hc => ?_) (fun hc => ?_) <;> (try simp only [RC] at hc) <;> (try (exfalso; first | omega | contradiction)))
      | (simp only [Qb, Jo, reduceIte, J0])
      | ((with_reducible refine hK _ _ ?_); clear hK)
      | (clear hK; (with_reducible refine hK _ _ ?_); clear hK)
      | (clear hK; clear hK; (with_reducible refine hK _ _ ?_); clear hK)
      | (clear hK; clear hK; clear hK; (with_reducible refine hK _ _ ?_); clear hK)
      | (clear hK; clear hK; clear hK; clear hK; (with_reducible refine hK _ _ ?_); clear hK)
      | (clear hK; clear hK; clear hK; clear hK; clear hK; (with_reducible refine hK _ _ ?_); clear hK)
      | (simp only [Q9, RA, Jn, Jm, Jp, Q8, Q6, ev, ofValue, Ju, J0, J3, J2, J4, reduceCtorEq, reduceIte, Jv, Qm, Qk, Q0, aun, Qj, Jk, Ji, Jz, Jy, Jj, Qi, Jf, Q7, Q2, Js, J1, J5, Ja, J9, Jb, J6, J7, Jd, J8, RB, Jw, Je, Nx, hl, e1, e2])
      | (simp (disch := first | omega | (simp only [RO]; done) | assumption) only [RS, Xa, Xb, X9, Qz, Qr, X0])
      | (simp (disch := (first | omega | (simp only [RO]; done) | assumption | (simp only [RM, Je]; done) | (simp only [RL, Je]; omega))) only [RD, reduceCtorEq, reduceIte, Je, J1, J3, J2, J6, Nx, hl, e1, e2])
    all_goals
      (
       (refine Qg (rs := [.tmp 2]) rfl ?_)
       (simp only [X5, Qf, Fr.put_some, Fr.put_none, Qp, Qq, Qt, J0, reduceIte])
       (try simp (disch := (first | omega | (simp only [RO]; done) | assumption | (simp only [RM, Je]; done) | (simp only [RL, Je]; omega))) only [RD, reduceCtorEq, reduceIte, Je, J1, J3, J2, J6, Nx]))
    all_goals exact ⟨Ext.push _ _, trivial, by rw [Int.sign_eq_neg_one_of_neg h]⟩
  · have e1 : ((xs.length : Int) = 0) = True := eq_true (by omega)
    repeat' first
      | (with_reducible first | refine Jh (fun K hK => ?_) | refine Jx ?_ | refine Q4 ?_ | refine Qc ?_ | refine Qd ?_ | refine Jg ?_ | refine Jr ?_)
      | (with_reducible refine Jt (fun hc => ?_) (fun hc => ?_) <;> (try simp only [RC] at hc) <;> (try (exfalso; first | omega | contradiction)))
      | (with_reducible refine X4 (fun hc => ?_) (fun hc => ?_) <;> (try simp only [RC] at hc) <;> (try (exfalso; first | omega | contradiction)))
      | (simp only [Qb, Jo, reduceIte, J0])
      | ((with_reducible refine hK _ _ ?_); clear hK)
      | (clear hK; (with_reducible refine hK _ _ ?_); clear hK)
      | (clear hK; clear hK; (with_reducible refine hK _ _ ?_); clear hK)
      | (clear hK; clear hK; clear hK; (with_reducible refine hK _ _ ?_); clear hK)
      | (clear hK; clear hK; clear hK; clear hK; (with_reducible refine hK _ _ ?_); clear hK)
      | (clear hK; clear hK; clear hK; clear hK; clear hK; (with_reducible refine hK _ _ ?_); clear hK)
      | (simp only [Q9, RA, Jn, Jm, Jp, Q8, Q6, ev, ofValue, Ju, J0, J3, J2, J4, reduceCtorEq, reduceIte, Jv, Qm, Qk, Q0, aun, Qj, Jk, Ji, Jz, Jy, Jj, Qi, Jf, Q7, Q2, Js, J1, J5, Ja, J9, Jb, J6, J7, Jd, J8, RB, Jw, Je, Nx, hl, e1, h])
      | (simp (disch := first | omega | (simp only [RO]; done) | assumption) only [RS, Xa, Xb, X9, Qz, Qr, X0])
      | (simp (disch := (first | omega | (simp only [RO]; done) | assumption | (simp only [RM, Je]; done) | (simp only [RL, Je]; omega))) only [RD, reduceCtorEq, reduceIte, Je, J1, J3, J2, J6, Nx, hl, e1, h])
    all_goals
      (
       (refine Qg (rs := [.tmp 2]) rfl ?_)
       (simp only [X5, Qf, Fr.put_some, Fr.put_none, Qp, Qq, Qt, J0, reduceIte])
       (try simp (disch := (first | omega | (simp only [RO]; done) | assumption | (simp only [RM, Je]; done) | (simp only [RL, Je]; omega))) only [RD, reduceCtorEq, reduceIte, Je, J1, J3, J2, J6, Nx]))
    all_goals exact ⟨Ext.push _ _, trivial, rfl⟩
  · have e1 : ((xs.length : Int) = 0) = False := eq_false (by omega)
    have e2 : (x < 0) = False := eq_false (by omega)
    repeat' first
      | (with_reducible first | refine Jh (fun K hK => ?_) | refine Jx ?_ | refine Q4 ?_ | refine Qc ?_ | refine Qd ?_ | refine Jg ?_ | refine Jr ?_)
      | (with_reducible refine Jt (fun hc => ?_) (fun hc => ?_) <;> (try simp only [RC] at hc) <;> (try (exfalso; first | omega | contradiction)))
      | (with_reducible refine X4 (fun hc => ?_) (fun hc => ?_) <;> (try simp only [RC] at hc) <;> (try (exfalso; first | omega | contradiction)))
      | (simp only [Qb, Jo, reduceIte, J0])
      | ((with_reducible refine hK _ _ ?_); clear hK)
      | (clear hK; (with_reducible refine hK _ _ ?_); clear hK)
      | (clear hK; clear hK; (with_reducible refine hK _ _ ?_); clear hK)
      | (clear hK; clear hK; clear hK; (with_reducible refine hK _ _ ?_); clear hK)
      | (clear hK; clear hK; clear hK; clear hK; (with_reducible refine hK _ _ ?_); clear hK)
      | (clear hK; clear hK; clear hK; clear hK; clear hK; (with_reducible refine hK _ _ ?_); clear hK)
      | (simp only [Q9, RA, Jn, Jm, Jp, Q8, Q6, ev, ofValue, Ju, J0, J3, J2, J4, reduceCtorEq, reduceIte, Jv, Qm, Qk, Q0, aun, Qj, Jk, Ji, Jz, Jy, Jj, Qi, Jf, Q7, Q2, Js, J1, J5, Ja, J9, Jb, J6, J7, Jd, J8, RB, Jw, Je, Nx, hl, e1, e2])
      | (simp (disch := first | omega | (simp only [RO]; done) | assumption) only [RS, Xa, Xb, X9, Qz, Qr, X0])
      | (simp (disch := (first | omega | (simp only [RO]; done) | assumption | (simp only [RM, Je]; done) | (simp only [RL, Je]; omega))) only [RD, reduceCtorEq, reduceIte, Je, J1, J3, J2, J6, Nx, hl, e1, e2])
    all_goals
      (
       (refine Qg (rs := [.tmp 2]) rfl ?_)
       (simp only [X5, Qf, Fr.put_some, Fr.put_none, Qp, Qq, Qt, J0, reduceIte])
       (try simp (disch := (first | omega | (simp only [RO]; done) | assumption | (simp only [RM, Je]; done) | (simp only [RL, Je]; omega))) only [RD, reduceCtorEq, reduceIte, Je, J1, J3, J2, J6, Nx]))
    all_goals exact ⟨Ext.push _ _, trivial, by rw [Int.sign_eq_one_of_pos h]⟩
theorem Neg_calls (x : Int) (s : AV) (H : Hp) (hs : Bs_ H s x) : ACalls Tryz.prog 128 [BV x s] H fun r H' => r = BV (-x) s ∧ H = H' := by
  refine ACalls.drop (R := fun r => r = BV (-x) s) ?_
  obtain ⟨xs, u, c, hv⟩ := hs.ex
  have hs1 : s.one = true := u.rd.rd.one
  have hc : s.cells = [s] := AV.cells_one hs1
  have hz := Bs_.nil (H := H) (s := s) c hv
  have hm := fun H0 (x0 : Ext H H0) => made_calls (!decide (x < 0)) s xs H0 (u.rd.ext x0)
  have he : ((!decide (x < 0)) && decide (0 < xs.length)) = decide (-x < 0) := by
    by_cases h : x < 0
    · simp [h]; omega
    · by_cases h0 : x = 0
      · simp [h0, hz.2 h0]
      · have : ¬ xs.length = 0 := fun e => h0 (hz.1 e)
        simp [h]; omega
  rw [he] at hm
  refine Qo Tryz.func128 rfl (by kernel_rfl) (by kernel_rfl) ?_
  repeat' first
    | (with_reducible first | refine Jh (fun K hK => ?_) | refine Jx ?_ | refine Q4 ?_ | refine Qc ?_ | refine Qd ?_ | refine Jg ?_ | refine Jr ?_)
    | ((with_reducible refine Q5 (hm _ ((Ext.push _ _).pushed _)) ?_); rintro _ _ ⟨rfl, rfl⟩)
    | (with_reducible refine Jt (fun hc => ?_) (fun hc => ?_) <;> (try simp only [RC] at hc) <;> (try (exfalso; first | omega | contradiction)))
    | (with_reducible refine X4 (fun hc => ?_) (fun hc => ?_) <;> (try simp only [RC] at hc) <;> (try (exfalso; first | omega | contradiction)))
    | (simp only [Qb, Jo, reduceIte, J0])
    | ((with_reducible refine hK _ _ ?_); clear hK)
    | (clear hK; (with_reducible refine hK _ _ ?_); clear hK)
    | (clear hK; clear hK; (with_reducible refine hK _ _ ?_); clear hK)
    | (clear hK; clear hK; clear hK; (with_reducible refine hK _ _ ?_); clear hK)
    | (clear hK; clear hK; clear hK; clear hK; (with_reducible refine hK _ _ ?_); clear hK)
    | (clear hK; clear hK; clear hK; clear hK; clear hK; (with_reducible refine hK _ _ ?_); clear hK)
    | (simp only [Q9, RA, Jn, Jm, Jp, Q8, Q6, ev, ofValue, Ju, J0, J3, J2, J4, reduceCtorEq, reduceIte, Jv, Qm, Qk, Q0, aun, Qj, Jk, Ji, Jz, Jy, Jj, Qi, Jf, Q7, Q2, Js, J1, J5, Ja, J9, Jb, J6, J7, Jd, J8, RB, Jw, Je, tf128RfA])
    | (simp (disch := first | omega | (simp only [RO]; done) | assumption) only [RS, Xa, Xb, X9, Qz, Qr, X0])
    | (simp (disch := (first | omega | (simp only [RO]; done) | assumption | (simp only [RM, Je]; done) | (simp only [RL, Je]; omega))) only [RD, reduceCtorEq, reduceIte, Je, J1, J3, J2, J6, tf128RfA])
  all_goals
    (
     (refine Qg (rs := [.cell 2 67]) rfl ?_)
     (simp only [X5, Qf, Fr.put_some, Fr.put_none, Qp, Qq, Qt, J0, reduceIte])
     (try simp (disch := (first | omega | (simp only [RO]; done) | assumption | (simp only [RM, Je]; done) | (simp only [RL, Je]; omega))) only [RD, reduceCtorEq, reduceIte, Je, J1, J3, J2, J6, tf128RfA]))
  have hsl := hs.lt
  all_goals
    refine ⟨(Ext.push _ _).pushed _, ?_⟩
    simp [AV.lt, AV.lts, hsl]
end Go.Proofs.YtigddjlhncnnoaaGreatDoor
namespace Go.Proofs.YtigddjlhncnnoaaGreatDoor
open Go.AL Go.PW
theorem Kw : type_of% (Jc @Xw (Jc @Z1 (@Xc))) := Jc @Xw (Jc @Z1 (@Xc))
abbrev pn93_8RfB : Plan := (.one 0 (.one 1 (.one 2 (.one 3 (.one 4 (.one 5 (.one 6 (.one 7 (.one 8 .nil)))))))))
abbrev pn93_9RfB : Plan := (.one 0 (.one 1 (.one 2 (.one 3 (.one 4 (.one 5 (.one 6 (.one 7 (.one 8 .nil)))))))))
set_option maxRecDepth 8000
theorem Can.low {xs : List Int} (c : Can xs) (h : xs.length ≠ 0) : Bs ^ (xs.length - 1) ≤ val xs := by
  rcases c.top with e | e
  · rw [e] at h; exact absurd rfl h
  · exact val_top c.lim e
theorem val_len_lt {xs ys : List Int} (hx : Limbs xs) (c : Can ys) (h : xs.length < ys.length) : val xs < val ys := by
  have h1 := (Xh hx).2
  have h2 := c.low (by omega)
  have h3 : Bs ^ xs.length ≤ Bs ^ (ys.length - 1) := by
    obtain ⟨d, hd⟩ : ∃ d, ys.length - 1 = xs.length + d := ⟨ys.length - 1 - xs.length, by omega⟩
    rw [hd, Int.pow_add]
    have h4 : (1 : Int) ≤ Bs ^ d := by
      have h6 : (0 : Int) < Bs ^ d := Int.pow_pos (by decide)
      omega
    have h5 : (0 : Int) ≤ Bs ^ xs.length := Int.le_of_lt (Int.pow_pos (by decide))
    have := Int.mul_le_mul_of_nonneg_left h4 h5
    omega
  omega
theorem val_limb_lt {xs ys : List Int} (hx : Limbs xs) (hy : Limbs ys) (hl : xs.length = ys.length) {i : Nat} (hi : i < xs.length) (hd : val (xs.drop (i + 1)) = val (ys.drop (i + 1))) (h : xs.getD i 0 < ys.getD i 0) : val xs < val ys := by
  have a1 := Yq xs i
  have a2 := Yq ys i
  rw [Nat.min_eq_left (by omega)] at a1 a2
  have b1 := Yw xs hi
  have b2 := Yw ys (i := i) (by omega)
  have c1 := (Xh (hx.take i)).2
  have c2 := (Xh (hy.take i)).1
  rw [List.length_take, Nat.min_eq_left (by omega)] at c1
  have hp : (0 : Int) ≤ Bs ^ i := Int.le_of_lt (Int.pow_pos (by decide))
  have d1 : val (xs.drop i) + 1 ≤ val (ys.drop i) := by rw [b1, b2, hd]; omega
  have d2 := Int.mul_le_mul_of_nonneg_left d1 hp
  rw [Int.mul_add] at d2
  omega
set_option maxHeartbeats 4000000 in
theorem cmp_calls (s t : AV) (xs ys : List Int) (H : Hp) (hs : Ints H .u64 s xs) (ht : Ints H .u64 t ys) (cx : Can xs) (cy : Can ys) : ACalls Tryz.prog 93 [s, t] H fun r H' => r = .int .i64 (val xs - val ys).sign ∧ H = H' := by
  have lx := cx.len
  have ly := cy.len
  have l1 := hs.rd.len Z8
  have l2 := ht.rd.len Z8
  have n1 : val xs < val ys → (val xs - val ys).sign = -1 := fun h => Int.sign_eq_neg_one_of_neg (by omega)
  have n2 : val ys < val xs → (val xs - val ys).sign = 1 := fun h => Int.sign_eq_one_of_pos (by omega)
  refine Qo Tryz.func93 rfl (by kernel_rfl) (by kernel_rfl) ?_
  by_cases hl : xs.length = ys.length
  · have e1 : ((xs.length : Int) = (ys.length : Int)) = True := eq_true (by omega)
    have w1 : IntKind.i64.wrap ((xs.length : Int) - 1) = (xs.length : Int) - 1 := Qe (by omega) (by omega)
    repeat' first
      | (with_reducible first | refine Jh (fun K hK => ?_) | refine Jx ?_ | refine Q4 ?_ | refine Jg ?_ | refine Jr ?_)
      | (simp only [Qb, Jo, reduceIte, J0])
      | ((with_reducible refine hK _ _ ?_); clear hK)
      | (simp only [Q9, RA, Jn, Jm, Jp, Q8, Q6, ev, ofValue, Ju, J0, J3, J2, J4, reduceCtorEq, reduceIte, Jv, Qm, Qk, Q0, aun, Qj, Jk, Ji, Jz, Jy, Jj, Qi, Jf, Q7, Q2, Js, J1, J5, Ja, J9, Jb, J6, J7, Jd, J8, RB, Jw, Je, Kw, l1, l2, e1, w1])
    refine Xi (fun m fr' H' => m ≤ xs.length ∧ fr' 0 = s ∧ fr' 1 = t ∧ fr' 5 = .int .i64 ((m : Int) - 1) ∧ val (xs.drop m) = val (ys.drop m) ∧ H = H') (m := xs.length)
      ⟨Nat.le_refl _, rfl, rfl, rfl, by rw [List.drop_length, hl, List.drop_length], rfl⟩ ?_
    rintro m fr' H' ⟨hm, k0, k1, k5, hd, rfl⟩
    cases m with
    | zero =>
      simp only [List.drop_zero] at hd
      have hv : (val xs - val ys).sign = 0 := by rw [hd, Int.sub_self]; rfl
      have k5' : fr' 5 = .int .i64 (-1) := k5
      repeat' first
        | (with_reducible first | refine Jh (fun K hK => ?_) | refine Qc ?_ | refine Qd ?_ | refine Jg ?_ | refine Jr ?_)
        | (simp only [Qb, Jo, reduceIte, J0])
        | ((with_reducible refine hK _ _ ?_); clear hK)
        | (clear hK; (with_reducible refine hK _ _ ?_); clear hK)
        | (simp only [Q9, RA, Jn, Jm, Jp, Q8, Q6, ev, ofValue, Ju, J0, J3, J2, J4, reduceCtorEq, reduceIte, Jv, Qm, Qk, Q0, aun, Qj, Jk, Ji, Jz, Jy, Jj, Qi, Jf, Q7, Q2, Js, J1, J5, Ja, J9, Jb, J6, J7, Jd, J8, RB, Jw, Je, Kw, k0, k1, k5'])
      all_goals
        (
         (refine Qg (rs := [.tmp 4]) rfl ?_)
         (simp only [X5, Qf, Fr.put_some, Fr.put_none, Qp, Qq, Qt, J0, reduceIte, hv])
         (try simp (disch := (first | omega | (simp only [RO]; done) | assumption | (simp only [RM, Je]; done) | (simp only [RL, Je]; omega))) only [RD, reduceCtorEq, reduceIte, Je, J1, J3, J2, J6, Kw, hv]))
    | succ m =>
      have k5' : fr' 5 = .int .i64 (m : Int) := by rw [k5]; congr 1; omega
      have w2 : IntKind.i64.wrap ((m : Int) - 1) = (m : Int) - 1 := Qe (by omega) (by omega)
      rcases Int.lt_trichotomy (xs.getD m 0) (ys.getD m 0) with h | h | h
      · have hv := n1 (val_limb_lt cx.lim cy.lim hl (by omega) hd h)
        have f1 : (xs.getD m 0 = ys.getD m 0) = False := eq_false (by omega)
        have f2 : (xs.getD m 0 < ys.getD m 0) = True := eq_true h
        repeat' first
          | (with_reducible first | refine Jh (fun K hK => ?_) | refine Jx ?_ | refine Q4 ?_ | refine Qd ?_ | refine Jg ?_ | refine Q1 (id := 8) [] pn93_8RfB (by kernel_rfl) (by kernel_rfl) ?_ | refine Q1 (id := 9) [] pn93_9RfB (by kernel_rfl) (by kernel_rfl) ?_ | refine Jr ?_)
          | (with_reducible refine X4 (fun hc => ?_) (fun hc => ?_) <;> (try simp only [RC] at hc) <;> (try (exfalso; first | omega | contradiction)))
          | (simp only [Qb, Jo, reduceIte, J0])
          | ((with_reducible refine hK _ _ ?_); clear hK)
          | (simp only [Q9, RA, Jn, Jm, Jp, Q8, Q6, ev, ofValue, Ju, J0, J3, J2, J4, reduceCtorEq, reduceIte, Jv, Qm, Qk, Q0, aun, Qj, Jk, Ji, Jz, Jy, Jj, Qi, Jf, Q7, Q2, Js, J1, J5, Ja, J9, Jb, J6, J7, Jd, J8, RB, Jw, Je, Kw, k0, k1, k5', f1, f2])
          | (simp (disch := first | omega | (simp only [RO]; done) | assumption) only [RS, hs.rd.at1 Z8 Z4, hs.load1 Yt, ht.rd.at1 Z8 Z4, ht.load1 Yt, Xa, Xb, X9])
        all_goals
          (
           (refine Qg (rs := [.tmp 4]) rfl ?_)
           (simp only [X5, Qf, Fr.put_some, Fr.put_none, Qp, Qq, Qt, J0, reduceIte, hv])
           (try simp (disch := (first | omega | (simp only [RO]; done) | assumption | (simp only [RM, Je]; done) | (simp only [RL, Je]; omega))) only [RD, reduceCtorEq, reduceIte, Je, J1, J3, J2, J6, Kw, hv]))
      · have hd2 : val (xs.drop m) = val (ys.drop m) := by rw [Yw xs (by omega), Yw ys (by omega), hd, h]
        repeat' first
          | (with_reducible first | refine Jh (fun K hK => ?_) | refine Jx ?_ | refine Q4 ?_ | refine Jg ?_ | refine Q1 (id := 8) [] pn93_8RfB (by kernel_rfl) (by kernel_rfl) ?_ | refine Jr ?_)
          | (with_reducible refine X4 (fun hc => ?_) (fun hc => ?_) <;> (try simp only [RC] at hc) <;> (try (exfalso; first | omega | contradiction)))
          | (simp only [Qb, Jo, reduceIte, J0])
          | ((with_reducible refine hK _ _ ?_); clear hK)
          | (simp only [Q9, RA, Jn, Jm, Jp, Q8, Q6, ev, ofValue, Ju, J0, J3, J2, J4, reduceCtorEq, reduceIte, Jv, Qm, Qk, Q0, aun, Qj, Jk, Ji, Jz, Jy, Jj, Qi, Jf, Q7, Q2, Js, J1, J5, Ja, J9, Jb, J6, J7, Jd, J8, RB, Jw, Je, Kw, k0, k1, k5', w2, h])
          | (simp (disch := first | omega | (simp only [RO]; done) | assumption) only [RS, hs.rd.at1 Z8 Z4, hs.load1 Yt, ht.rd.at1 Z8 Z4, ht.load1 Yt, Xa, Xb, X9])
        all_goals exact ⟨m, by omega, by omega, rfl, hd2⟩
      · have hv := n2 (val_limb_lt cy.lim cx.lim hl.symm (by omega) hd.symm h)
        have f1 : (xs.getD m 0 = ys.getD m 0) = False := eq_false (by omega)
        have f2 : (xs.getD m 0 < ys.getD m 0) = False := eq_false (by omega)
        repeat' first
          | (with_reducible first | refine Jh (fun K hK => ?_) | refine Jx ?_ | refine Q4 ?_ | refine Qd ?_ | refine Jg ?_ | refine Q1 (id := 8) [] pn93_8RfB (by kernel_rfl) (by kernel_rfl) ?_ | refine Q1 (id := 9) [] pn93_9RfB (by kernel_rfl) (by kernel_rfl) ?_ | refine Jr ?_)
          | (with_reducible refine X4 (fun hc => ?_) (fun hc => ?_) <;> (try simp only [RC] at hc) <;> (try (exfalso; first | omega | contradiction)))
          | (simp only [Qb, Jo, reduceIte, J0])
          | ((with_reducible refine hK _ _ ?_); clear hK)
          | (simp only [Q9, RA, Jn, Jm, Jp, Q8, Q6, ev, ofValue, Ju, J0, J3, J2, J4, reduceCtorEq, reduceIte, Jv, Qm, Qk, Q0, aun, Qj, Jk, Ji, Jz, Jy, Jj, Qi, Jf, Q7, Q2, Js, J1, J5, Ja, J9, Jb, J6, J7, Jd, J8, RB, Jw, Je, Kw, k0, k1, k5', f1, f2])
          | (simp (disch := first | omega | (simp only [RO]; done) | assumption) only [RS, hs.rd.at1 Z8 Z4, hs.load1 Yt, ht.rd.at1 Z8 Z4, ht.load1 Yt, Xa, Xb, X9])
        all_goals
          (
           (refine Qg (rs := [.tmp 4]) rfl ?_)
           (simp only [X5, Qf, Fr.put_some, Fr.put_none, Qp, Qq, Qt, J0, reduceIte, hv])
           (try simp (disch := (first | omega | (simp only [RO]; done) | assumption | (simp only [RM, Je]; done) | (simp only [RL, Je]; omega))) only [RD, reduceCtorEq, reduceIte, Je, J1, J3, J2, J6, Kw, hv]))
  · have e1 : ((xs.length : Int) = (ys.length : Int)) = False := eq_false (by omega)
    by_cases h : xs.length < ys.length
    · have e2 : ((xs.length : Int) < (ys.length : Int)) = True := eq_true (by omega)
      have hv := n1 (val_len_lt cx.lim cy h)
      repeat' first
        | (with_reducible first | refine Jh (fun K hK => ?_) | refine Qd ?_ | refine Jg ?_ | refine Jr ?_)
        | (simp only [Qb, Jo, reduceIte, J0])
        | ((with_reducible refine hK _ _ ?_); clear hK)
        | (simp only [Q9, RA, Jn, Jm, Jp, Q8, Q6, ev, ofValue, Ju, J0, J3, J2, J4, reduceCtorEq, reduceIte, Jv, Qm, Qk, Q0, aun, Qj, Jk, Ji, Jz, Jy, Jj, Qi, Jf, Q7, Q2, Js, J1, J5, Ja, J9, Jb, J6, J7, Jd, J8, RB, Jw, Je, Kw, l1, l2, e1, e2])
      all_goals
        (
         (refine Qg (rs := [.tmp 4]) rfl ?_)
         (simp only [X5, Qf, Fr.put_some, Fr.put_none, Qp, Qq, Qt, J0, reduceIte, hv])
         (try simp (disch := (first | omega | (simp only [RO]; done) | assumption | (simp only [RM, Je]; done) | (simp only [RL, Je]; omega))) only [RD, reduceCtorEq, reduceIte, Je, J1, J3, J2, J6, Kw, hv]))
    · have e2 : ((xs.length : Int) < (ys.length : Int)) = False := eq_false (by omega)
      have hv := n2 (val_len_lt cy.lim cx (by omega))
      repeat' first
        | (with_reducible first | refine Jh (fun K hK => ?_) | refine Q4 ?_ | refine Qd ?_ | refine Jg ?_ | refine Jr ?_)
        | (simp only [Qb, Jo, reduceIte, J0])
        | ((with_reducible refine hK _ _ ?_); clear hK)
        | (simp only [Q9, RA, Jn, Jm, Jp, Q8, Q6, ev, ofValue, Ju, J0, J3, J2, J4, reduceCtorEq, reduceIte, Jv, Qm, Qk, Q0, aun, Qj, Jk, Ji, Jz, Jy, Jj, Qi, Jf, Q7, Q2, Js, J1, J5, Ja, J9, Jb, J6, J7, Jd, J8, RB, Jw, Je, Kw, l1, l2, e1, e2])
      all_goals
        (
         (refine Qg (rs := [.tmp 4]) rfl ?_)
         (simp only [X5, Qf, Fr.put_some, Fr.put_none, Qp, Qq, Qt, J0, reduceIte, hv])
         (try simp (disch := (first | omega | (simp only [RO]; done) | assumption | (simp only [RM, Je]; done) | (simp only [RL, Je]; omega))) only [RD, reduceCtorEq, reduceIte, Je, J1, J3, J2, J6, Kw, hv]))
end Go.Proofs.YtigddjlhncnnoaaGreatDoor

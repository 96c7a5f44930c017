/- Part 4 of the proof of laws of this seat: lemmas on the model's code, on this program's functions, on numbers. No condition. -/
import Derived.Test.YtigddjlhncnnoaaGreatDoorZGac
import Derived.Lib.AppendZeros
import Derived.Lib.AppendZerosOnto
set_option linter.unusedVariables false
set_option linter.unusedSimpArgs false
open Nat renaming reduceEqDiff → J0, reduceLeDiff → J1, reduceMul → J2, reduceAdd → J3, reduceSub → J4, reduceLT → J5
open Int renaming reduceToNat → J6, reducePow → J7, reduceNeg → J8, reduceLT → J9, reduceLE → Ja, reduceEq → Jb
open And renaming intro → Jc
open Go.IntKind renaming bits → Jd
namespace Go.AL
open Go.RowKit
def arow (H : Hp) (z : Nat) : AV → Option (List AV × Nat)
  | .nilS => some ([], 0)
  | .sl h o m _ =>
    match X3 H h with
    | some b => if b.kind = .dead then none else if o + m * z ≤ b.cells.length then some ((b.cells.drop o).take (m * z), m) else none
    | none => none
  | .sg h o m _ =>
    match X3 H h with
    | some b => if b.kind = .dead then none else if o + m * z ≤ b.cells.length then some ((b.cells.drop o).take (m * z), m) else none
    | none => none
  | .fz n cs => if cs.length = n * z then some (cs, n) else none
  | _ => none
theorem Rel.arow {w0 : World} {B : Nat} {β : Env} {H : Hp} {w : World} (R : Rel w0 B β H w) {x : AV} {u : Value} {z m : Nat} {news : List AV} (e : arow H z x = some (news, m)) (hx : VR β x u) :
    ∃ A c l, u = .slice A m c ∧ m ≤ c + m ∧ VRs β news l ∧ l.length = m * z ∧ (0 < m → ∃ a, A = some a ∧ ∀ (j : Nat) v, l[j]? = some v → w.cell? (a.add j) = some v) ∧ (∀ v ∈ l, v.oneCell' = true) ∧ AV.lts H.length news ∧ (A = none → c = 0) := by
  unfold AL.arow at e
  split at e
  · cases e
    simp only [VR] at hx
    exact ⟨none, 0, [], hx, by omega, rfl, by simp, by omega, by simp, trivial, fun _ => rfl⟩
  · rename_i h o m' c
    simp only [X3] at e
    split at e
    · rename_i b hb
      split at e
      · cases e
      · rename_i hd
        split at e
        · rename_i hle
          cases e
          obtain ⟨l, h1, h2, h3, h4⟩ := R.row hb hd o (m * z) hle
          simp only [VR] at hx
          refine ⟨_, c, l, hx, by omega, h1, h2, fun _ => ⟨_, rfl, fun j v hv => by rw [Addr.add_add]; exact h3 j v hv⟩, h4, ?_, by simp⟩
          rw [AV.lts_iff]
          exact fun c hc => R.lts h b hb hd c (List.mem_of_mem_drop (List.mem_of_mem_take hc))
        · cases e
    · cases e
  · rename_i h o m' zz
    simp only [X3] at e
    split at e
    · rename_i b hb
      split at e
      · cases e
      · rename_i hd
        split at e
        · rename_i hle
          cases e
          obtain ⟨l, h1, h2, h3, h4⟩ := R.row hb hd o (m * z) hle
          simp only [VR] at hx
          obtain ⟨c, o', rfl, hnc, hco⟩ := hx
          refine ⟨_, c, l, rfl, by omega, h1, h2, fun hm => ⟨_, rfl, fun j v hv => ?_⟩, h4, ?_, by simp⟩
          · have ho : o' = o := by rcases hco with h0 | h0 <;> omega
            subst ho
            rw [Addr.add_add]; exact h3 j v hv
          · rw [AV.lts_iff]
            exact fun c hc => R.lts h b hb hd c (List.mem_of_mem_drop (List.mem_of_mem_take hc))
        · cases e
    · cases e
  · rename_i n cs
    split at e
    · rename_i hlen
      cases e
      simp only [VR] at hx
      obtain ⟨a, c, rfl, hnc, hac, hfz⟩ := hx
      rcases hfz with h0 | ⟨y, rfl, hf⟩
      · subst h0
        have : news = [] := List.eq_nil_of_length_eq_zero (by simpa using hlen)
        subst this
        exact ⟨a, c, [], rfl, by omega, rfl, by simp, by omega, by simp, trivial, hac⟩
      · obtain ⟨l, h1, h2, h3, h4, h5⟩ := R.fzrow hf news.length (Nat.le_refl _)
        rw [List.take_length] at h1 h5
        exact ⟨_, c, l, rfl, by omega, h1, by omega, fun _ => ⟨y, rfl, h3⟩, h4, AV.lts_mono (Nat.zero_le _) _ h5, by simp⟩
    · cases e
  · cases e
def agrown (H : Hp) (cells : List AV) (n z : Nat) (e : TypeId) : AV × Hp := (.sg H.length 0 n z, H ++ [⟨cells, .own, e⟩])
def Yf (P : Program) (H : Hp) (t : TypeId) (s x : AV) : Option (AV × Hp) :=
  match P.underlying t with
  | some (.slice e) =>
    match Xf P e, Z2 P e, Xq P e with
    | some z, some zv, some by_ =>
      if zv.cells.length = z ∧ 0 < z then
        match arow H z x with
        | none => none
        | some (news, m) =>
          if news.all AV.one then
          match s with
          | .nilS =>
            if m = 0 then some (.nilS, H)
            else if m * by_ ≤ 140737488355328 ∧ m ≤ 140737488355328 then some (agrown H news m z e) else none
          | .sl h o n c =>
            if m = 0 ∧ n ≤ c then some (.sl h o n c, H)
            else if n + m ≤ c then
              match X3 H h with
              | some b => if b.kind = .own ∧ b.ety = e ∧ o = 0 ∧ n * z + m * z ≤ b.cells.length then some (.sl h 0 (n + m) c, H.set h ⟨Q2 b.cells (n * z) news, .own, e⟩) else none
              | none => none
            else if n ≤ c ∧ (n + m) * by_ ≤ 140737488355328 ∧ n + m ≤ 140737488355328 then
              match arow H z (.sl h o n c) with
              | some (olds, _) => if olds.all AV.one then some (agrown H (olds ++ news) (n + m) z e) else none
              | none => none
            else none
          | .sg h o n z' =>
            if m = 0 then some (.sg h o n z', H)
            else if z' = z ∧ (n + m) * by_ ≤ 140737488355328 ∧ n + m ≤ 140737488355328 then
              match X3 H h with
              | some b =>
                if b.kind = .own ∧ b.ety = e ∧ o = 0 ∧ n * z ≤ b.cells.length then
                  if n * z + m * z ≤ b.cells.length then some (.sg h 0 (n + m) z, H.set h ⟨Q2 b.cells (n * z) news, .own, e⟩)
                  else if (b.cells.take (n * z)).all AV.one then some (.sg H.length 0 (n + m) z, H.set h ⟨[], .dead, e⟩ ++ [⟨b.cells.take (n * z) ++ news, .own, e⟩])
                  else none
                else none
              | none => none
            else none
          | _ => none
          else none
      else none
    | _, _, _ => none
  | _ => none
section
variable {P : Program}
theorem Nm (t u ty e : TypeId) (i : TypeInfo) (ht : P.underlying t = some (.slice e)) (hu : ∃ e', P.underlying u = some (.slice e')) (hi : P.info? e = some i) (base : Option Addr) (n c : Nat) (hnc : n ≤ c) (A : Option Addr) (c' : Nat) (w : World) :
    (Builtin.append_ #[t, u] ty #[.slice base n c, .slice A 0 c']).run P w = .ok (.slice base n c) w := by
  obtain ⟨e', hu⟩ := hu
  have hl : ∀ a : Addr, (loadCells a 0).run P w = .ok #[] w := fun a => by simpa using run_loadCells_list (P := P) w a [] (by simp)
  cases base <;> cases A <;> simp [Builtin.append_, run_underlying ht, run_underlying hu, sizeOf, typeInfo, hi, Builtin.lenOf, Builtin.firstCells, hnc, storeCells, hl]
theorem run_append_make (w : World) (t u ty e : TypeId) (i : TypeInfo) (z : Value) {k : IntKind} (ht : P.underlying t = some (.slice e)) (hu : P.underlying u = some (.int k)) (hi : P.info? e = some i) (hz : i.zero = some z) (kx : IntKind) (n : Nat)
    (h0 : 0 < n) (hs : 0 < i.size) (hn : n ≤ 140737488355328) (hb : n * i.bytes ≤ 140737488355328) :
    (Builtin.append_ #[t, u] ty #[.slice none 0 0, .int kx n]).run P w =
      .ok (.slice (some ⟨w.heap.size, 0, none⟩) n (grownCap w n 0 e)) (w.drew.alloc (.cells (Builtin.zeroCells z.cells n ++ Builtin.zeroCells z.cells (grownCap w n 0 e - n)) e)) := by
  have hw : IntKind.i64.wrap (n : Int) = n := Qe (by omega) (by omega)
  have hneg : ¬ ((n : Int) < 0) := by omega
  have hbig : ¬ (281474976710656 < (n : Int) * (i.bytes : Int)) := by
    rw [← Int.natCast_mul]; omega
  have hn0 : n ≠ 0 := by omega
  have hs0 : i.size ≠ 0 := by omega
  have h63 : ¬ (9223372036854775807 < (n : Int)) := by omega
  have h48 : ¬ (281474976710656 < Builtin.nextslicecap n 0 * i.bytes) := by rw [nextslicecap_zero h0]; omega
  simp [Builtin.append_, run_underlying ht, run_underlying hu, sizeOf, typeInfo, zeroValue, hi, hz, asInt, asIntOf, hw, hneg, hbig, hn0, hs0, h63, h48, Question.forced, run_firstCells_none, newRow, grownCap]
  intro h
  exact absurd h (by rw [Nat.mul_eq_zero]; omega)
theorem run_append_make_zero (w : World) (t u ty e : TypeId) (i : TypeInfo) {k : IntKind} (ht : P.underlying t = some (.slice e)) (hu : P.underlying u = some (.int k)) (hi : P.info? e = some i) (kx : IntKind) :
    (Builtin.append_ #[t, u] ty #[.slice none 0 0, .int kx 0]).run P w = .ok (.slice none 0 0) w := by
  have hw : IntKind.i64.wrap 0 = 0 := Qe (by omega) (by omega)
  simp [Builtin.append_, run_underlying ht, run_underlying hu, sizeOf, typeInfo, hi, asInt, asIntOf, hw]
theorem Rel.grew {w0 : World} {B : Nat} {β : Env} {H : Hp} {w : World} (R : Rel w0 B β H w) (cells : List AV) (l : List Value) (rest : Array Value) (e : TypeId) (n cap z : Nat)
    (hv : VRs β cells l) (h1 : cells.all AV.one = true) (hl : AV.lts H.length cells) (hn : n ≤ cap) (hsz : l.length + rest.size = cap * z) :
    Made w0 B β H (.sg H.length 0 n z) (H ++ [⟨cells, .own, e⟩]) (.slice (some ⟨w.heap.size, 0, none⟩) n cap) (w.drew.alloc (.cells (l.toArray ++ rest) e)) := by
  have R' : Rel w0 B β H w.drew := R.kept (Below.refl _ _).drew
  have hc : ∀ (i : Nat) c, cells[i]? = some c → ∃ v, (l.toArray ++ rest)[i]? = some v ∧ VR β c v ∧ v.oneCell' = true := by
    intro i c hc
    obtain ⟨v, h2, h3⟩ := Na hv hc
    refine ⟨v, ?_, h3, VRs_ones hv h1 v (List.mem_of_getElem? h2)⟩
    have hi : i < l.length := (List.getElem?_eq_some_iff.1 h2).1
    rw [Array.getElem?_append_left (by simpa using hi)]
    simpa using h2
  have hR := R'.alloc cells (l.toArray ++ rest) e hl hc
  refine ⟨_, U6 _ _ _, by simp, ?_, by simp [AV.lt], hR⟩
  simp only [VR]
  refine ⟨cap, 0, ?_, hn, .inr ⟨rfl, ?_⟩⟩
  · simp [upd, Addr.add_plain]
  · simp [upd]; omega
theorem run_aappend {w0 : World} {B : Nat} {β : Env} {H H' : Hp} {w : World} (R : Rel w0 B β H w) {t ty : TypeId} {s x v : AV} {us ux : Value}
    (e : Yf P H t s x = some (v, H')) (hs : VR β s us) (hx : VR β x ux) (hsl : s.lt H.length) :
    ∃ r w', (Builtin.append_ #[t, t] ty #[us, ux]).run P w = .ok r w' ∧ Made w0 B β H v H' r w' := by
  unfold Yf at e
  split at e
  case h_2 => cases e
  rename_i el ht
  split at e
  case h_2 => cases e
  rename_i z zv by_ hz hzv hby
  split at e
  case isFalse => cases e
  rename_i hc
  obtain ⟨hzl, hzp⟩ := hc
  obtain ⟨i, zc, hi, hzc, hzr, rfl⟩ := Ro (β := β) hzv
  have hbi : i.bytes = by_ := by
    unfold Xq at hby
    rw [hi] at hby
    simpa using hby
  have hsi : i.size = z := by
    unfold Xf at hz
    rw [hi] at hz
    simpa using hz
  have hzsz : zc.cells.size = z := by
    have := Y4 (Wf β zc)
    rw [Array.length_toList] at this
    omega
  split at e
  case h_1 => cases e
  rename_i news m hrow
  split at e
  case isFalse => cases e
  rename_i hall
  obtain ⟨A, cx, l, rfl, _, hvn, hln, hcell, hones, hnl, hA⟩ := R.arow hrow hx
  have same : ∀ (v0 : AV) (u0 : Value), VR β v0 u0 → v0.lt H.length → Made w0 B β H v0 H u0 w := fun v0 u0 h1 h2 => ⟨β, Agree.refl _ _, Nat.le_refl _, h1, h2, R⟩
  have zsz : ∀ k, (Builtin.zeroCells zc.cells k).size = k * z := fun k => by rw [size_zeroCells, hzsz]
  split at e
  · -- nil
    simp only [VR] at hs
    subst hs
    split at e
    · rename_i hm
      subst hm
      cases e
      exact ⟨_, _, Nm t t ty el i ht ⟨_, ht⟩ hi none 0 0 (Nat.le_refl _) A cx w, same _ _ rfl trivial⟩
    · rename_i hm
      split at e
      · rename_i hb
        cases e
        obtain ⟨a, rfl, hac⟩ := hcell (by omega)
        have hr := run_append_nil (P := P) w t ty el i zc ht hi hzc a m cx l (by rw [hsi]; exact hln) hac (by omega) (by omega) (by rw [hbi]; omega)
        refine ⟨_, _, hr, ?_⟩
        have hge := grownCap_ge w m 0 el
        exact R.grew news l _ el m (grownCap w m 0 el) z hvn hall hnl hge (by rw [zsz, hln, ← Nat.add_mul]; congr 1; omega)
      · cases e
  · -- a capacity that is known
    rename_i h o n c
    simp only [VR] at hs
    split at e
    · rename_i hm
      obtain ⟨rfl, hnc⟩ := hm
      cases e
      subst hs
      exact ⟨_, _, Nm t t ty el i ht ⟨_, ht⟩ hi _ n c hnc A cx w, same _ _ rfl hsl⟩
    · rename_i hm
      split at e
      · rename_i hroom
        simp only [X3] at e
        split at e
        case h_2 => cases e
        rename_i b hb
        split at e
        case isFalse => cases e
        rename_i hcond
        obtain ⟨hown, hety, rfl, hfit⟩ := hcond
        cases e
        have hm0 : 0 < m := by
          rcases Nat.eq_zero_or_pos m with h0 | h0
          · exact absurd ⟨h0, by omega⟩ hm
          · exact h0
        obtain ⟨a, rfl, hac⟩ := hcell hm0
        obtain ⟨g, cur, hga, hBg, hw, hcl, htot⟩ := R.own h b hb hown
        obtain ⟨w1, hst, hR⟩ := R.store (P := P) hb hown (n * z) news l hvn hall hnl (by rw [← Y4 hvn, hln]; exact hfit)
        rw [hety] at hR hw
        subst hs
        rw [hga] at hst ⊢
        have hgg : (⟨g, 0, none⟩ : Addr).add 0 = ⟨g, 0, none⟩ := Addr.add_plain g 0
        have hr := run_append_room (P := P) w t ty el i ht hi g n c cur hw a m cx l (by rw [hsi]; exact hln) hac hones hroom (by rw [hsi, hln]; omega)
        rw [hgg]
        refine ⟨_, _, hr, ⟨β, Agree.refl _ _, by simp, ?_, by simpa [AV.lt] using hsl, ?_⟩⟩
        · simp only [VR, hga, hgg]
        · have hst2 := run_storeCells_at P g (n * z) el l 0 cur w hw (by omega) hones
          rw [Addr.add_plain, hst2] at hst
          simp only [Nat.add_zero, hsi, Result.ok.injEq, true_and] at hst ⊢
          rw [hst]
          exact hR
      · rename_i hroom
        split at e
        case isFalse => cases e
        rename_i hb
        obtain ⟨hnc, hb1, hb2⟩ := hb
        split at e
        case h_2 => cases e
        rename_i olds n' hold
        split at e
        case isFalse => cases e
        rename_i hall'
        cases e
        have hs' : VR β (.sl h o n c) us := hs
        obtain ⟨A', c', l', hus, _, hvo, hlo, hcello, honeso, hol, _⟩ := R.arow hold hs'
        subst hs
        injection hus with h1 h2 h3
        subst h1; subst h2; subst h3
        have hm0 : 0 < m := by omega
        obtain ⟨a, rfl, hac⟩ := hcell hm0
        have holds : ∀ (j : Nat) v, l'[j]? = some v → w.cell? (((β h).addr.add o).add j) = some v := by
          intro j v hv
          rcases Nat.eq_zero_or_pos n with h0 | h0
          · subst h0
            have : l' = [] := List.eq_nil_of_length_eq_zero (by simpa using hlo)
            subst this; cases hv
          · obtain ⟨a', ha', hc'⟩ := hcello h0
            injection ha' with ha'
            rw [ha']
            exact hc' j v hv
        have hr := run_append_grow (P := P) w t ty el i zc ht hi hzc ((β h).addr.add o) n c l' (by rw [hsi]; exact hlo) holds a m cx l (by rw [hsi]; exact hln) hac (by omega) (by omega) (by rw [hbi]; exact growslice_fits (by omega) hb1)
        refine ⟨_, _, hr, ?_⟩
        have hge := grownCap_ge w (n + m) c el
        have hg := R.grew (olds ++ news) (l' ++ l) (Builtin.zeroCells zc.cells (grownCap w (n + m) c el - (n + m))) el (n + m) (grownCap w (n + m) c el) z (Wv hvo hvn)
          (by rw [List.all_append, hall, hall']; rfl) (AV.lts_iff.2 fun c hc => (List.mem_append.1 hc).elim ((AV.lts_iff.1 hol) c) ((AV.lts_iff.1 hnl) c)) hge
          (by rw [zsz, List.length_append, hlo, hln, ← Nat.add_mul, ← Nat.add_mul]; congr 1; omega)
        simpa [agrown] using hg
  · -- a capacity that is not known
    rename_i h o n z'
    have hs0 := hs
    simp only [VR] at hs
    obtain ⟨c, o', rfl, hnc, hco⟩ := hs
    split at e
    · rename_i hm
      subst hm
      cases e
      exact ⟨_, _, Nm t t ty el i ht ⟨_, ht⟩ hi _ n c hnc A cx w, same _ _ hs0 hsl⟩
    · rename_i hm
      split at e
      case isFalse => cases e
      rename_i hb
      obtain ⟨rfl, hb1, hb2⟩ := hb
      simp only [X3] at e
      split at e
      case h_2 => cases e
      rename_i b hb
      split at e
      case isFalse => cases e
      rename_i hcond
      obtain ⟨hown, hety, rfl, hnz⟩ := hcond
      obtain ⟨g, cur, hga, hBg, hw, hcl, htot⟩ := R.own h b hb hown
      obtain ⟨a, rfl, hac⟩ := hcell (by omega)
      have hgg : (⟨g, 0, none⟩ : Addr).add 0 = ⟨g, 0, none⟩ := Addr.add_plain g 0
      rw [hety] at hw
      split at e
      · -- in place: the cells are known
        rename_i hfit
        cases e
        have hct : o' = 0 ∧ 0 + c * z' = (β h).tot := by
          rcases hco with ⟨h0, h1⟩ | h1
          · have hz0 : 0 < m * z' := Nat.mul_pos (by omega) hzp
            omega
          · exact h1
        obtain ⟨rfl, hct⟩ := hct
        have hroom : n + m ≤ c := by
          have : (n + m) * z' ≤ c * z' := by rw [Nat.add_mul]; omega
          exact Nat.le_of_mul_le_mul_right this hzp
        obtain ⟨w1, hst, hR⟩ := R.store (P := P) hb hown (n * z') news l hvn hall hnl (by rw [← Y4 hvn, hln]; exact hfit)
        rw [hety] at hR
        rw [hga] at hst ⊢
        have hr := run_append_room (P := P) w t ty el i ht hi g n c cur hw a m cx l (by rw [hsi]; exact hln) hac hones hroom (by rw [hsi, hln]; omega)
        rw [hgg]
        refine ⟨_, _, hr, ⟨β, Agree.refl _ _, by simp, ?_, by simpa [AV.lt] using hsl, ?_⟩⟩
        · simp only [VR, hga]
          exact ⟨c, 0, by rw [hgg], hroom, .inr ⟨rfl, hct⟩⟩
        · have hst2 := run_storeCells_at P g (n * z') el l 0 cur w hw (by omega) hones
          rw [Addr.add_plain, hst2] at hst
          simp only [Nat.add_zero, hsi, Result.ok.injEq, true_and] at hst ⊢
          rw [hst]
          exact hR
      · rename_i hnf
        split at e
        case isFalse => cases e
        rename_i hall'
        cases e
        by_cases hroom : n + m ≤ c
        · -- in place: the cells behind were not known
          have hct : o' = 0 ∧ 0 + c * z' = (β h).tot := by
            rcases hco with ⟨h0, h1⟩ | h1
            · omega
            · exact h1
          obtain ⟨rfl, hct⟩ := hct
          have hcurfit : n * z' + l.length ≤ cur.size := by
            rw [hln, htot, ← hct, Nat.zero_add, ← Nat.add_mul]
            exact Nat.mul_le_mul_right _ hroom
          have hr := run_append_room (P := P) w t ty el i ht hi g n c cur hw a m cx l (by rw [hsi]; exact hln) hac hones hroom (by rw [hsi]; exact hcurfit)
          rw [hga, hgg]
          refine ⟨_, _, hr, ?_⟩
          have R1 := R.rename hb hown [] el
          have ag := U6 β H.length (β h)
          have hlen1 : (H.set h (⟨[], .dead, el⟩ : Blk)).length = H.length := by simp
          have hb1' : (H.set h (⟨[], .dead, el⟩ : Blk) ++ [b])[H.length]? = some b := by
            rw [List.getElem?_append_right (by simp)]; simp
          have atn : upd β H.length (β h) H.length = β h := by simp [upd]
          have hbl := R.lts h b hb (by rw [hown]; decide)
          have R2 := R1.setRow hb1' hown (g := g) (cur := cur) (by rw [atn]; exact hga) (by rw [hety]; exact hw) (by rw [atn]; exact htot) (b.cells.take (n * z') ++ news)
            (cur.toList.take (n * i.size) ++ l ++ cur.toList.drop (n * i.size + l.length)).toArray (by rw [hsi]; simp; omega) (by have := Y4 hvn; rw [hsi]; simp; omega)
            (by
              rw [AV.lts_iff]
              intro c hc
              have : (H.set h (⟨[], .dead, el⟩ : Blk) ++ [b]).length = H.length + 1 := by simp
              rw [this]
              rcases List.mem_append.1 hc with hc | hc
              · exact AV.lt_mono (by omega) c (hbl c (List.mem_of_mem_take hc))
              · exact AV.lt_mono (by omega) c ((AV.lts_iff.1 hnl) c hc))
            (by
              intro k c hc
              rw [hsi, List.getElem?_toArray]
              by_cases hk : k < n * z'
              · rw [List.getElem?_append_left (by simp; omega), List.getElem?_take, if_pos hk] at hc
                obtain ⟨v, a1, a2, a3⟩ := R.cells h b hb (by rw [hown]; decide) k c hc
                refine ⟨v, ?_, Vc ag c v (hbl c (List.mem_of_getElem? hc)) a2, a3⟩
                rw [List.append_assoc, List.getElem?_append_left (by simp; omega), List.getElem?_take, if_pos hk, Array.getElem?_toList]
                rw [hga, Addr.add_plain] at a1
                simpa [World.cell?, hw] using a1
              · have hmin : min (n * z') b.cells.length = n * z' := by omega
                rw [List.getElem?_append_right (by simp; omega)] at hc
                simp only [List.length_take, hmin] at hc
                obtain ⟨v, a1, a2⟩ := Na hvn hc
                have hkl : k - n * z' < l.length := (List.getElem?_eq_some_iff.1 a1).1
                refine ⟨v, ?_, Vc ag c v ((AV.lts_iff.1 hnl) c (List.mem_of_getElem? hc)) a2, hones v (List.mem_of_getElem? a1)⟩
                have hmin' : min (n * z') cur.size = n * z' := by omega
                rw [List.getElem?_append_left (by simp; omega), List.getElem?_append_right (by simp; omega)]
                simpa [hmin'] using a1)
          have hset : (H.set h (⟨[], .dead, el⟩ : Blk) ++ [b]).set H.length ⟨b.cells.take (n * z') ++ news, .own, b.ety⟩ = H.set h ⟨[], .dead, el⟩ ++ [⟨b.cells.take (n * z') ++ news, .own, el⟩] := by
            rw [List.set_append_right _ _ (by simp), hety]; simp
          rw [hset] at R2
          refine ⟨_, ag, by simp, ?_, by simp [AV.lt], R2⟩
          simp only [VR, atn, hga]
          exact ⟨c, 0, by rw [hgg], hroom, .inr ⟨rfl, hct⟩⟩
        · -- a new array
          have hrow' : AL.arow H z' (.sg h 0 n z') = some (b.cells.take (n * z'), n) := by
            simp only [AL.arow, X3, hb]
            rw [if_neg (by rw [hown]; decide), if_pos (by omega)]
            simp
          obtain ⟨A', c', l', hus, _, hvo, hlo, hcello, honeso, hol, _⟩ := R.arow hrow' hs0
          injection hus with h1 h2 h3
          subst h1; subst h3
          have holds : ∀ (j : Nat) v, l'[j]? = some v → w.cell? (((β h).addr.add o').add j) = some v := by
            intro j v hv
            rcases Nat.eq_zero_or_pos n with h0 | h0
            · subst h0
              have : l' = [] := List.eq_nil_of_length_eq_zero (by simpa using hlo)
              subst this; cases hv
            · obtain ⟨a', ha', hc'⟩ := hcello h0
              injection ha' with ha'
              rw [ha']
              exact hc' j v hv
          have hr := run_append_grow (P := P) w t ty el i zc ht hi hzc ((β h).addr.add o') n c l' (by rw [hsi]; exact hlo) holds a m cx l (by rw [hsi]; exact hln) hac (by omega) (by omega) (by rw [hbi]; exact growslice_fits (by omega) hb1)
          refine ⟨_, _, hr, ?_⟩
          have hge := grownCap_ge w (n + m) c el
          have Rk := R.kill h [] el
          have hkl : (H.set h (⟨[], .dead, el⟩ : Blk)).length = H.length := by simp
          have hg := Rk.grew (b.cells.take (n * z') ++ news) (l' ++ l) (Builtin.zeroCells zc.cells (grownCap w (n + m) c el - (n + m))) el (n + m) (grownCap w (n + m) c el) z' (Wv hvo hvn)
            (by rw [List.all_append, hall, hall']; rfl) (by rw [hkl]; exact AV.lts_iff.2 fun c hc => (List.mem_append.1 hc).elim ((AV.lts_iff.1 hol) c) ((AV.lts_iff.1 hnl) c)) hge
            (by rw [zsz, List.length_append, hlo, hln, ← Nat.add_mul, ← Nat.add_mul]; congr 1; omega)
          obtain ⟨β', g1, g2, g3, g4, g5⟩ := hg
          rw [hkl] at *
          refine ⟨β', g1, by simp, g3, g4, ?_⟩
          simpa using g5
  · cases e
theorem run_append_room_zeros (w : World) (t t' ty e : TypeId) (i : TypeInfo) (z : Value) {k : IntKind} (ht : P.underlying t = some (.slice e)) (hu : P.underlying t' = some (.int k)) (hi : P.info? e = some i) (hz : i.zero = some z)
    (g sLen sCap : Nat) (cur : Array Value) (hg : w.heap[g]? = some (.cells cur e (0, 0))) (kx : IntKind) (m : Nat) (news : List Value) (hnews : news = (Builtin.zeroCells z.cells m).toList) (h0 : 0 < m) (hs : 0 < i.size) (hn : sLen + m ≤ 140737488355328) (hb : (sLen + m) * i.bytes ≤ 140737488355328)
    (hl : news.length = m * i.size) (h1 : ∀ u ∈ news, u.oneCell' = true)
    (hroom : sLen + m ≤ sCap) (hfit : sLen * i.size + news.length ≤ cur.size) :
    (Builtin.append_ #[t, t'] ty #[.slice (some ⟨g, 0, none⟩) sLen sCap, .int kx m]).run P w =
      .ok (.slice (some ⟨g, 0, none⟩) (sLen + m) sCap) (w.setRow g (cur.toList.take (sLen * i.size) ++ news ++ cur.toList.drop (sLen * i.size + news.length)).toArray) := by
  have hw : IntKind.i64.wrap (m : Int) = m := Qe (by omega) (by omega)
  have hneg : ¬ ((m : Int) < 0) := by omega
  have hmb : m * i.bytes ≤ (sLen + m) * i.bytes := Nat.mul_le_mul_right _ (by omega)
  have hbig : ¬ (281474976710656 < (m : Int) * (i.bytes : Int)) := by
    rw [← Int.natCast_mul]; omega
  have hns : ¬ (m * i.size = 0) := Nat.mul_ne_zero (by omega) (by omega)
  have hst := run_storeCells_at P g (sLen * i.size) e news 0 cur w hg (by simpa using hfit) h1
  simp only [Nat.add_zero] at hst
  subst hnews
  simp [Builtin.append_, run_underlying ht, run_underlying hu, sizeOf, typeInfo, zeroValue, hi, hz, asInt, asIntOf, hw, hneg, hbig, hns, hroom, Addr.add_lit, hst]
theorem run_aappend2_sg {w0 : World} {B : Nat} {β : Env} {H : Hp} {w : World} (R : Rel w0 B β H w) {t t' ty el : TypeId} {k kx : IntKind} {h n m z' by_ : Nat} {us : Value} {zc : Value} {i : TypeInfo} {b : Blk}
    (ht : P.underlying t = some (.slice el)) (hu : P.underlying t' = some (.int k)) (hi : P.info? el = some i) (hzc : i.zero = some zc) (hsi : i.size = z') (hbi : i.bytes = by_) (hzp : 0 < z') (hall0 : (ofValue zc).cells.all AV.one = true) (hzl : (ofValue zc).cells.length = z')
    (hs : VR β (.sg h 0 n z') us) (hm0 : 0 < m) (hb1 : (n + m) * by_ ≤ 140737488355328) (hb2 : n + m ≤ 140737488355328) (hb : H[h]? = some b) (hown : b.kind = .own) (hety : b.ety = el) (hnz : b.cells.length = n * z') (hall' : b.cells.all AV.one = true) :
    ∃ r w', (Builtin.append_ #[t, t'] ty #[us, .int kx m]).run P w = .ok r w' ∧ Made w0 B β H (.sg H.length 0 (n + m) z') (H.set h ⟨[], .dead, el⟩ ++ [⟨b.cells.take (n * z') ++ Js (ofValue zc).cells m, .own, el⟩]) r w' := by
  have hs0 := hs
  simp only [VR] at hs
  obtain ⟨c, o', rfl, hnc, hco⟩ := hs
  obtain ⟨g, cur, hga, hBg, hw, hcl, htot⟩ := R.own h b hb hown
  have hgg : (⟨g, 0, none⟩ : Addr).add 0 = ⟨g, 0, none⟩ := Addr.add_plain g 0
  rw [hety] at hw
  have hzv' := Wf β zc
  have hzsz : zc.cells.size = z' := by
    have := Y4 hzv'
    rw [Array.length_toList] at this
    omega
  have zsz : ∀ k, (Builtin.zeroCells zc.cells k).size = k * z' := fun k => by rw [size_zeroCells, hzsz]
  have hcz := J0j zc.cells m
  have hlz : (Builtin.zeroCells zc.cells m).toList = (List.replicate m zc.cells.toList).flatten := by rw [← hcz]; rfl
  obtain ⟨l, hldef⟩ : ∃ l, l = (Builtin.zeroCells zc.cells m).toList := ⟨_, rfl⟩
  obtain ⟨news, hnews⟩ : ∃ news, news = Js (ofValue zc).cells m := ⟨_, rfl⟩
  have hvn : VRs β news l := by rw [hnews, hldef, hlz]; exact J0f hzv' _
  have hln : l.length = m * z' := by rw [hldef, Array.length_toList, zsz]
  have hall : news.all AV.one = true := by rw [hnews]; exact azeros_all hall0 _
  have hones : ∀ v ∈ l, v.oneCell' = true := VRs_ones hvn hall
  have hnl : AV.lts H.length news := by rw [hnews]; exact azeros_lts (AV.cells_lts (G0 _ _)) _
  have hall' : (b.cells.take (n * z')).all AV.one = true := by
    rw [List.all_eq_true] at hall' ⊢
    exact fun c hc => hall' c (List.mem_of_mem_take hc)
  have hnz : n * z' ≤ b.cells.length := by omega
  rw [← hnews]
  by_cases hroom : n + m ≤ c
  · -- in place: the cells behind were not known
    have hct : o' = 0 ∧ 0 + c * z' = (β h).tot := by
      rcases hco with ⟨h0, h1⟩ | h1
      · omega
      · exact h1
    obtain ⟨rfl, hct⟩ := hct
    have hcurfit : n * z' + l.length ≤ cur.size := by
      rw [hln, htot, ← hct, Nat.zero_add, ← Nat.add_mul]
      exact Nat.mul_le_mul_right _ hroom
    have hr := run_append_room_zeros (P := P) w t t' ty el i zc ht hu hi hzc g n c cur hw kx m l hldef hm0 (by omega) hb2 (by rw [hbi]; exact hb1) (by rw [hsi]; exact hln) hones hroom (by rw [hsi]; exact hcurfit)
    rw [hga, hgg]
    refine ⟨_, _, hr, ?_⟩
    have R1 := R.rename hb hown [] el
    have ag := U6 β H.length (β h)
    have hlen1 : (H.set h (⟨[], .dead, el⟩ : Blk)).length = H.length := by simp
    have hb1' : (H.set h (⟨[], .dead, el⟩ : Blk) ++ [b])[H.length]? = some b := by
      rw [List.getElem?_append_right (by simp)]; simp
    have atn : upd β H.length (β h) H.length = β h := by simp [upd]
    have hbl := R.lts h b hb (by rw [hown]; decide)
    have R2 := R1.setRow hb1' hown (g := g) (cur := cur) (by rw [atn]; exact hga) (by rw [hety]; exact hw) (by rw [atn]; exact htot) (b.cells.take (n * z') ++ news)
      (cur.toList.take (n * i.size) ++ l ++ cur.toList.drop (n * i.size + l.length)).toArray (by rw [hsi]; simp; omega) (by have := Y4 hvn; rw [hsi]; simp; omega)
      (by
        rw [AV.lts_iff]
        intro c hc
        have : (H.set h (⟨[], .dead, el⟩ : Blk) ++ [b]).length = H.length + 1 := by simp
        rw [this]
        rcases List.mem_append.1 hc with hc | hc
        · exact AV.lt_mono (by omega) c (hbl c (List.mem_of_mem_take hc))
        · exact AV.lt_mono (by omega) c ((AV.lts_iff.1 hnl) c hc))
      (by
        intro k c hc
        rw [hsi, List.getElem?_toArray]
        by_cases hk : k < n * z'
        · rw [List.getElem?_append_left (by simp; omega), List.getElem?_take, if_pos hk] at hc
          obtain ⟨v, a1, a2, a3⟩ := R.cells h b hb (by rw [hown]; decide) k c hc
          refine ⟨v, ?_, Vc ag c v (hbl c (List.mem_of_getElem? hc)) a2, a3⟩
          rw [List.append_assoc, List.getElem?_append_left (by simp; omega), List.getElem?_take, if_pos hk, Array.getElem?_toList]
          rw [hga, Addr.add_plain] at a1
          simpa [World.cell?, hw] using a1
        · have hmin : min (n * z') b.cells.length = n * z' := by omega
          rw [List.getElem?_append_right (by simp; omega)] at hc
          simp only [List.length_take, hmin] at hc
          obtain ⟨v, a1, a2⟩ := Na hvn hc
          have hkl : k - n * z' < l.length := (List.getElem?_eq_some_iff.1 a1).1
          refine ⟨v, ?_, Vc ag c v ((AV.lts_iff.1 hnl) c (List.mem_of_getElem? hc)) a2, hones v (List.mem_of_getElem? a1)⟩
          have hmin' : min (n * z') cur.size = n * z' := by omega
          rw [List.getElem?_append_left (by simp; omega), List.getElem?_append_right (by simp; omega)]
          simpa [hmin'] using a1)
    have hset : (H.set h (⟨[], .dead, el⟩ : Blk) ++ [b]).set H.length ⟨b.cells.take (n * z') ++ news, .own, b.ety⟩ = H.set h ⟨[], .dead, el⟩ ++ [⟨b.cells.take (n * z') ++ news, .own, el⟩] := by
      rw [List.set_append_right _ _ (by simp), hety]; simp
    rw [hset] at R2
    refine ⟨_, ag, by simp, ?_, by simp [AV.lt], R2⟩
    simp only [VR, atn, hga]
    exact ⟨c, 0, by rw [hgg], hroom, .inr ⟨rfl, hct⟩⟩
  · -- a new array
    have hrow' : AL.arow H z' (.sg h 0 n z') = some (b.cells.take (n * z'), n) := by
      simp only [AL.arow, X3, hb]
      rw [if_neg (by rw [hown]; decide), if_pos (by omega)]
      simp
    obtain ⟨A', c', l', hus, _, hvo, hlo, hcello, honeso, hol, _⟩ := R.arow hrow' hs0
    injection hus with h1 h2 h3
    subst h1; subst h3
    have holds : ∀ (j : Nat) v, l'[j]? = some v → w.cell? (((β h).addr.add o').add j) = some v := by
      intro j v hv
      rcases Nat.eq_zero_or_pos n with h0 | h0
      · subst h0
        have : l' = [] := List.eq_nil_of_length_eq_zero (by simpa using hlo)
        subst this; cases hv
      · obtain ⟨a', ha', hc'⟩ := hcello h0
        injection ha' with ha'
        rw [ha']
        exact hc' j v hv
    have hold : (Builtin.firstCells i.size n (.slice (some ((β h).addr.add o')) n c)).run P w.drew = .ok l'.toArray w.drew :=
      run_firstCells_some (P := P) w.drew i.size n ((β h).addr.add o') n c l' (by rw [hsi]; exact hlo) (fun j u hu => by rw [World.cell?_drew]; exact holds j u hu)
    have hr := Lib.run_append_grow_zeros (P := P) w t t' ty el i zc kx k ht hu hi hzc (some ((β h).addr.add o')) n c l' hold m hm0 (by omega) (by omega) (by omega) (by rw [hbi]; have : m * by_ ≤ (n + m) * by_ := Nat.mul_le_mul_right _ (by omega); omega) (by rw [hbi]; exact growslice_fits (by omega) hb1)
    refine ⟨_, _, hr, ?_⟩
    have hge := grownCap_ge w (n + m) c el
    have Rk := R.kill h [] el
    have hkl : (H.set h (⟨[], .dead, el⟩ : Blk)).length = H.length := by simp
    have hg := Rk.grew (b.cells.take (n * z') ++ news) (l' ++ l) (Builtin.zeroCells zc.cells (grownCap w (n + m) c el - (n + m))) el (n + m) (grownCap w (n + m) c el) z' (Wv hvo hvn)
      (by rw [List.all_append, hall, hall']; rfl) (by rw [hkl]; exact AV.lts_iff.2 fun c hc => (List.mem_append.1 hc).elim ((AV.lts_iff.1 hol) c) ((AV.lts_iff.1 hnl) c)) hge
      (by rw [zsz, List.length_append, hlo, hln, ← Nat.add_mul, ← Nat.add_mul]; congr 1; omega)
    obtain ⟨β', g1, g2, g3, g4, g5⟩ := hg
    rw [hkl] at *
    refine ⟨β', g1, by simp, g3, g4, ?_⟩
    have e9 : (l' ++ l).toArray = l'.toArray ++ Builtin.zeroCells zc.cells m := by rw [hldef]; simp
    rw [e9] at g5
    simpa using g5
def aappend2 (P : Program) (H : Hp) (t t' : TypeId) (s x : AV) : Option (AV × Hp) :=
  match P.underlying t, P.underlying t', s, x with
  | some (.slice e), some (.int _), .nilS, .int _ n =>
    match Xf P e, Z2 P e, Xq P e with
    | some z, some zv, some by_ =>
      if zv.cells.length = z ∧ 0 < z ∧ zv.cells.all AV.one = true ∧ 0 ≤ n then
        if n = 0 then some (.nilS, H)
        else if n.toNat * by_ ≤ 140737488355328 ∧ n.toNat ≤ 140737488355328 then some (agrown H (Js zv.cells n.toNat) n.toNat z e) else none
      else none
    | _, _, _ => none
  | some (.slice e), some (.int _), .sg h 0 n z', .int _ m =>
    match Xf P e, Z2 P e, Xq P e, X3 H h with
    | some z, some zv, some by_, some b =>
      if zv.cells.length = z ∧ 0 < z ∧ zv.cells.all AV.one = true ∧ 0 < m ∧ z' = z ∧ (n + m.toNat) * by_ ≤ 140737488355328 ∧ n + m.toNat ≤ 140737488355328 ∧ b.kind = .own ∧ b.ety = e ∧ b.cells.length = n * z ∧ b.cells.all AV.one = true then
        some (.sg H.length 0 (n + m.toNat) z, H.set h ⟨[], .dead, e⟩ ++ [⟨b.cells.take (n * z) ++ Js zv.cells m.toNat, .own, e⟩])
      else none
    | _, _, _, _ => none
  | _, _, _, _ => none
theorem run_aappend2 {w0 : World} {B : Nat} {β : Env} {H H' : Hp} {w : World} (R : Rel w0 B β H w) {t t' ty : TypeId} {s x v : AV} {us ux : Value}
    (e : aappend2 P H t t' s x = some (v, H')) (hs : VR β s us) (hx : VR β x ux) :
    ∃ r w', (Builtin.append_ #[t, t'] ty #[us, ux]).run P w = .ok r w' ∧ Made w0 B β H v H' r w' := by
  unfold aappend2 at e
  split at e
  case h_3 => cases e
  case h_2 =>
    rename_i el k h n z' kx m ht hu
    split at e
    case h_2 => cases e
    rename_i z zv by_ b hz hzv hby hb
    split at e
    case isFalse => cases e
    rename_i hc
    obtain ⟨hzl, hzp, hall, hm, rfl, hb1, hb2, hown, hety, hnz, hall'⟩ := hc
    cases e
    obtain ⟨i, zc, hi, hzc, hzr, rfl⟩ := Ro (β := β) hzv
    have hbi : i.bytes = by_ := by
      unfold Xq at hby
      rw [hi] at hby
      simpa using hby
    have hsi : i.size = z' := by
      unfold Xf at hz
      rw [hi] at hz
      simpa using hz
    simp only [VR] at hx
    subst hx
    obtain ⟨m, rfl⟩ := Int.eq_ofNat_of_zero_le (Int.le_of_lt hm)
    simp only [Int.toNat_natCast] at hb1 hb2 ⊢
    exact run_aappend2_sg R ht hu hi hzc hsi hbi hzp hall hzl hs (by omega) hb1 hb2 hb hown hety hnz hall'
  rename_i el k kx n ht hu
  simp only [VR] at hs hx
  subst hs; subst hx
  split at e
  case h_2 => cases e
  rename_i z zv by_ hz hzv hby
  split at e
  case isFalse => cases e
  rename_i hc
  obtain ⟨hzl, hzp, hall, hn⟩ := hc
  obtain ⟨i, zc, hi, hzc, hzr, rfl⟩ := Ro (β := β) hzv
  have hbi : i.bytes = by_ := by
    unfold Xq at hby
    rw [hi] at hby
    simpa using hby
  have hsi : i.size = z := by
    unfold Xf at hz
    rw [hi] at hz
    simpa using hz
  have hzv' := Wf β zc
  have hzsz : zc.cells.size = z := by
    have := Y4 hzv'
    rw [Array.length_toList] at this
    omega
  obtain ⟨m, rfl⟩ := Int.eq_ofNat_of_zero_le hn
  simp only [Int.toNat_natCast] at e
  split at e
  · rename_i h0
    cases e
    have : m = 0 := by omega
    subst this
    exact ⟨_, _, run_append_make_zero w t t' ty el i ht hu hi kx, ⟨β, Agree.refl _ _, Nat.le_refl _, rfl, trivial, R⟩⟩
  · rename_i h0
    split at e
    · rename_i hb
      cases e
      refine ⟨_, _, run_append_make w t t' ty el i zc ht hu hi hzc kx m (by omega) (by omega) hb.2 (by rw [hbi]; exact hb.1), ?_⟩
      have hcz := J0j zc.cells m
      have hl : (Builtin.zeroCells zc.cells m).toList = (List.replicate m zc.cells.toList).flatten := by
        rw [← hcz]; rfl
      have h0v : VRs β (Js (ofValue zc).cells m) (Builtin.zeroCells zc.cells m).toList := by
        rw [hl]; exact J0f hzv' _
      have hg := R.grew (Js (ofValue zc).cells m) (Builtin.zeroCells zc.cells m).toList (Builtin.zeroCells zc.cells (grownCap w m 0 el - m)) el m (grownCap w m 0 el) z h0v (azeros_all hall _)
        (azeros_lts (AV.cells_lts (G0 _ _)) _) (grownCap_ge w m 0 el)
        (by
          have := grownCap_ge w m 0 el
          rw [Array.length_toList, size_zeroCells, size_zeroCells, hzsz, ← Nat.add_mul]; congr 1; omega)
      simpa [agrown] using hg
    · cases e
end
end Go.AL

/- Part 18 of the proof of laws of this seat: lemmas on the model's code, on this program's functions, on numbers. No condition. -/
import Derived.Test.YtigddjlhncnnoaaGreatDoorZGaq
set_option linter.unusedVariables false
set_option linter.unusedSimpArgs false
open Nat renaming reduceEqDiff → J0, reduceLeDiff → J1, reduceMul → J2, reduceAdd → J3, reduceSub → J4, reduceLT → J5
open Int renaming reduceToNat → J6, reducePow → J7, reduceNeg → J8, reduceLT → J9, reduceLE → Ja, reduceEq → Jb
open And renaming intro → Jc
open Go.IntKind renaming bits → Jd
open Go.PW renaming dig_length → Je
namespace Go.Proofs.YtigddjlhncnnoaaGreatDoor
open Go.AL Go.PW Go.PD
set_option maxRecDepth 8000
def W8 : List (Int × AV) → List AV
  | [] => []
  | x :: l => .bool (decide (x.1 < 0)) :: x.2 :: W8 l
theorem Kv : ∀ l : List (Int × AV), (W8 l).length = l.length * 2
  | [] => rfl
  | x :: l => by simp only [W8, List.length_cons, Kv l]; omega
theorem cellsB_append : ∀ l m : List (Int × AV), W8 (l ++ m) = W8 l ++ W8 m
  | [], m => rfl
  | x :: l, m => by simp only [W8, List.cons_append, cellsB_append l m]
theorem cellsB_get : ∀ (l : List (Int × AV)) (i : Nat), i < l.length → ((W8 l).drop (i * 2)).take 2 = [.bool (decide ((l.getD i (0, .nilS)).1 < 0)), (l.getD i (0, .nilS)).2]
  | [], i, h => by simp at h
  | x :: l, 0, _ => rfl
  | x :: l, i + 1, h => by
    rw [show (i + 1) * 2 = i * 2 + 1 + 1 by omega]
    simp only [W8, List.drop_succ_cons, List.getD_cons_succ]
    exact cellsB_get l i (by simpa using h)
theorem cellsB_set : ∀ (l : List (Int × AV)) (i : Nat) (x : Int × AV), i < l.length → (W8 l).take (i * 2) ++ [.bool (decide (x.1 < 0)), x.2] ++ (W8 l).drop (i * 2 + 2) = W8 (l.set i x)
  | [], i, x, h => by simp at h
  | y :: l, 0, x, _ => rfl
  | y :: l, i + 1, x, h => by
    have ih := cellsB_set l i x (by simpa using h)
    rw [show (i + 1) * 2 = i * 2 + 1 + 1 by omega, show i * 2 + 1 + 1 + 2 = (i * 2 + 2) + 1 + 1 by omega]
    simp only [W8, List.take_succ_cons, List.drop_succ_cons, List.set_cons_succ, List.cons_append]
    rw [← ih]
abbrev Bb (l : List (Int × AV)) : Blk := ⟨W8 l, .own, 67⟩
theorem cellsB_one : ∀ l : List (Int × AV), (∀ x ∈ l, x.2.one = true) → (W8 l).all AV.one = true
  | [], _ => rfl
  | x :: l, h => by
    simp only [W8, List.all_cons, Bool.and_eq_true]
    exact ⟨rfl, h x (by simp), cellsB_one l fun y hy => h y (by simp [hy])⟩
structure BMat (H : Hp) (p : Nat) (vs : List AV) (pss : List (List (Int × AV))) : Prop where
  len : vs.length = pss.length
  out : X3 H p = some ⟨vs, .own, 137⟩
  row : ∀ i, i < pss.length → vs.getD i .nilS = .sg (vs.getD i .nilS).hd 0 (pss.getD i []).length 2 ∧ X3 H (vs.getD i .nilS).hd = some (Bb (pss.getD i []))
  apart : ∀ i j, i < pss.length → j < pss.length → i ≠ j → (vs.getD i .nilS).hd ≠ (vs.getD j .nilS).hd
  off : ∀ i, i < pss.length → (vs.getD i .nilS).hd ≠ p
  big : ∀ i j, i < pss.length → j < (pss.getD i []).length → Bs_ H ((pss.getD i []).getD j (0, .nilS)).2 ((pss.getD i []).getD j (0, .nilS)).1
section
variable {H : Hp} {p : Nat} {vs : List AV} {pss : List (List (Int × AV))}
theorem BMat.ext {H' : Hp} (M : BMat H p vs pss) (x : Ext H H') : BMat H' p vs pss :=
  ⟨M.len, Qy M.out x, fun i hi => ⟨(M.row i hi).1, Qy (M.row i hi).2 x⟩, M.apart, M.off, fun i j hi hj => (M.big i j hi hj).ext x⟩
theorem BMat.push (M : BMat H p vs pss) (b : Blk) : BMat (H ++ [b]) p vs pss := M.ext (Ext.push _ _)
theorem BMat.other (M : BMat H p vs pss) {h : Nat} {b0 : Blk} (hg : X3 H h = some b0) (hb : b0.ety ≠ 71) (b : Blk) (hp : p ≠ h) (hv : ∀ i, i < pss.length → (vs.getD i .nilS).hd ≠ h) : BMat (H.set h b) p vs pss := by
  have hl := X6 hg
  refine ⟨M.len, ?_, fun i hi => ⟨(M.row i hi).1, ?_⟩, M.apart, M.off, fun i j hi hj => (M.big i j hi hj).other hg hb b⟩
  · rw [Qv hl, if_neg hp]; exact M.out
  · rw [Qv hl, if_neg (hv i hi)]; exact (M.row i hi).2
theorem BMat.get (M : BMat H p vs pss) {i j : Nat} (hi : i < pss.length) (hj : j < (pss.getD i []).length) : V7 Tryz.prog H 67 (.ptr (vs.getD i .nilS).hd (j * 2)) = some (BV ((pss.getD i []).getD j (0, .nilS)).1 ((pss.getD i []).getD j (0, .nilS)).2) := by
  rw [K9, (M.row i hi).2]
  simp only [agg67, Ut]
  have hc := Kv (pss.getD i [])
  rw [if_neg (by decide), if_pos (by omega), cellsB_get _ _ hj]
theorem BMat.put (M : BMat H p vs pss) {i j : Nat} {x : Int} {s : AV} (hi : i < pss.length) (hj : j < (pss.getD i []).length) (hs : s.one = true) : Np Tryz.prog H 67 (.ptr (vs.getD i .nilS).hd (j * 2)) (BV x s) = some (H.set (vs.getD i .nilS).hd (Bb ((pss.getD i []).set j (x, s)))) := by
  rw [Um, (M.row i hi).2]
  simp only [Ut]
  have hc := Kv (pss.getD i [])
  rw [if_pos ⟨trivial, by rw [G3]; simp [hs, AV.one_bool], by rfl, by omega⟩]
  congr 3
  simp only [Q2, AV.cells_agg, List.length_cons, List.length_nil]
  rw [← cellsB_set _ _ (x, s) hj]
theorem BMat.set (M : BMat H p vs pss) {i j : Nat} {x : Int} {s : AV} (hi : i < pss.length) (hj : j < (pss.getD i []).length) (hs : Bs_ H s x) : BMat (H.set (vs.getD i .nilS).hd (Bb ((pss.getD i []).set j (x, s)))) p vs (pss.set i ((pss.getD i []).set j (x, s))) := by
  have hlt := X6 (M.row i hi).2
  have hg : ∀ k, (pss.set i ((pss.getD i []).set j (x, s))).getD k [] = if k = i then (pss.getD i []).set j (x, s) else pss.getD k [] := by
    intro k
    rw [List.getD_eq_getElem?_getD, List.getElem?_set, List.getD_eq_getElem?_getD]
    by_cases e : i = k
    · subst e; simp [hi]
    · rw [if_neg e, if_neg (fun h => e h.symm), List.getD_eq_getElem?_getD]
  have hety : (Bb (pss.getD i [])).ety ≠ 71 := show (67 : Nat) ≠ 71 by decide
  refine ⟨by rw [List.length_set]; exact M.len, ?_, fun k hk => ?_, fun a b ha hb => M.apart a b (by rwa [List.length_set] at ha) (by rwa [List.length_set] at hb), fun a ha => M.off a (by rwa [List.length_set] at ha), fun a b ha hb => ?_⟩
  · rw [Qv hlt, if_neg (fun e => M.off i hi e.symm)]; exact M.out
  · rw [List.length_set] at hk
    rw [hg]
    by_cases e : k = i
    · subst e
      rw [if_pos rfl, Qv hlt, if_pos rfl, List.length_set]
      exact ⟨(M.row k hk).1, rfl⟩
    · rw [if_neg e, Qv hlt, if_neg (M.apart k i hk hi e)]
      exact M.row k hk
  · rw [List.length_set] at ha
    rw [hg] at hb ⊢
    by_cases e : a = i
    · subst e
      rw [if_pos rfl] at hb ⊢
      rw [List.length_set] at hb
      rw [Uu _ _ _ _ _ hj]
      by_cases e2 : b = j
      · rw [if_pos e2]; exact hs.other (M.row a ha).2 hety _
      · rw [if_neg e2]; exact (M.big a b ha hb).other (M.row a ha).2 hety _
    · rw [if_neg e] at hb ⊢
      exact (M.big a b ha hb).other (M.row i hi).2 hety _
end
end Go.Proofs.YtigddjlhncnnoaaGreatDoor
namespace Go.Proofs.YtigddjlhncnnoaaGreatDoor
open Go.AL Go.PW Go.PD
set_option maxRecDepth 8000
abbrev BB (x : Int) (s : AV) : Blk := ⟨[.bool (decide (x < 0)), s], .own, 67⟩
theorem app_move {P : Program} {H : Hp} {h n m z by_ : Nat} {x zv : AV} {cs ds : List AV} {t e : TypeId} (hg : X3 H h = some ⟨cs, .own, e⟩) (hl : cs.length = n * z) (hx : Rd H z x ds m) (hu : P.underlying t = some (.slice e)) (hz : Xf P e = some z) (hzv : Z2 P e = some zv) (hzl : zv.cells.length = z) (hz0 : 0 < z) (hb : Xq P e = some by_)
    (hc : cs.all AV.one = true) (ho : ds.all AV.one = true) (hby : (n + m) * by_ ≤ 140737488355328) (hm : n + m ≤ 140737488355328) (hmp : 0 < m) :
    Yf P H t (.sg h 0 n z) x = some (.sg H.length 0 (n + m) z, H.set h ⟨[], .dead, e⟩ ++ [⟨cs ++ ds, .own, e⟩]) := by
  have h1 : m ≠ 0 := by omega
  have hmz : 0 < m * z := Nat.mul_pos hmp hz0
  have h2 : ¬ n * z + m * z ≤ cs.length := by omega
  have h3 : cs.take (n * z) = cs := List.take_of_length_le (by omega)
  have h4 : n * z ≤ cs.length := by omega
  simp [Yf, hu, hz, hzv, hb, hzl, hz0, hx.row, ho, h1, hby, hm, hg, h2, h3, h4, hc]
def Grew (lo : Nat) (H H' : Hp) : Prop := Ext H H' ∨ ∃ h l b, lo ≤ h ∧ X3 H h = some (Bb l) ∧ Ext (H.set h b) H'
theorem bb_ety (l : List (Int × AV)) : (Bb l).ety ≠ 71 := show (67 : Nat) ≠ 71 by decide
theorem K1 (x : Int) (s : AV) : (BB x s).ety ≠ 71 := show (67 : Nat) ≠ 71 by decide
theorem Grew.len {lo : Nat} {H H' : Hp} (g : Grew lo H H') : H.length ≤ H'.length := by
  rcases g with g | ⟨h, l, b, _, _, g⟩
  · exact g.len
  · have := g.len; rwa [List.length_set] at this
theorem Grew.get {lo : Nat} {H H' : Hp} (g : Grew lo H H') {k : Nat} (h1 : k < lo) (h2 : k < H.length) : X3 H' k = X3 H k := by
  rcases g with ⟨E, rfl⟩ | ⟨h, l, b, h3, h4, ⟨E, rfl⟩⟩
  · unfold X3; rw [List.getElem?_append_left h2]
  · have : X3 (H.set h b) k = X3 H k := by rw [Qv (X6 h4), if_neg (by omega)]
    rw [← this]; unfold X3; rw [List.getElem?_append_left (by rw [List.length_set]; exact h2)]
theorem Bs_.grew {lo : Nat} {H H' : Hp} {s : AV} {x : Int} (u : Bs_ H s x) (g : Grew lo H H') : Bs_ H' s x := by
  rcases g with g | ⟨h, l, b, _, h4, g⟩
  · exact u.ext g
  · exact (u.other h4 (bb_ety l) b).ext g
theorem BMat.grew {lo : Nat} {H H' : Hp} {p : Nat} {vs : List AV} {pss : List (List (Int × AV))} (M : BMat H p vs pss) (g : Grew lo H H') (hp : p < lo) (hv : ∀ i, i < pss.length → (vs.getD i .nilS).hd < lo) : BMat H' p vs pss := by
  rcases g with g | ⟨h, l, b, h3, h4, g⟩
  · exact M.ext g
  · exact (M.other h4 (bb_ety l) b (by omega) (fun i hi => by have := hv i hi; omega)).ext g
theorem Ext.grew {lo : Nat} {H0 H H' : Hp} (x : Ext H0 H) (g : Grew lo H H') (hlo : H0.length ≤ lo) : Ext H0 H' := by
  rcases g with g | ⟨h, l, b, h3, h4, g⟩
  · exact x.trans g
  · exact (x.set (by omega) b).trans g
theorem Off.grew {S : Nat → Prop} {lo : Nat} {H0 H H' : Hp} (o : Off S H0 H) (g : Grew lo H H') (hlo : H0.length ≤ lo) : Off S H0 H' := by
  rcases g with g | ⟨h, l, b, h3, h4, g⟩
  · exact o.ext g
  · exact (o.set (X6 h4) b (.inr (by omega))).ext g
structure BsV (H : Hp) (v : AV) (l : List (Int × AV)) (lo : Nat) : Prop where
  at_ : (l = [] ∧ v = .nilS) ∨ ∃ h, v = .sg h 0 l.length 2 ∧ X3 H h = some (Bb l) ∧ lo ≤ h
  big : ∀ x ∈ l, Bs_ H x.2 x.1
theorem BsV.nil (H : Hp) (lo : Nat) : BsV H .nilS [] lo := ⟨.inl ⟨rfl, rfl⟩, fun x h => by cases h⟩
theorem BsV.one {H : Hp} {v : AV} {l : List (Int × AV)} {lo : Nat} (B : BsV H v l lo) : v.one = true := by
  rcases B.at_ with ⟨_, rfl⟩ | ⟨_, rfl, _⟩ <;> rfl
theorem BsV.lt {H : Hp} {v : AV} {l : List (Int × AV)} {lo : Nat} (B : BsV H v l lo) : v.lt H.length := by
  rcases B.at_ with ⟨_, rfl⟩ | ⟨k, rfl, h2, _⟩
  · trivial
  · simpa [AV.lt] using X6 h2
theorem BsV.ext {H H' : Hp} {v : AV} {l : List (Int × AV)} {lo : Nat} (B : BsV H v l lo) (x : Ext H H') : BsV H' v l lo := by
  refine ⟨?_, fun y hy => (B.big y hy).ext x⟩
  rcases B.at_ with h | ⟨k, h1, h2, h3⟩
  · exact .inl h
  · exact .inr ⟨k, h1, Qy h2 x, h3⟩
theorem BsV.push {H : Hp} {v : AV} {l : List (Int × AV)} {lo : Nat} (B : BsV H v l lo) (b : Blk) : BsV (H ++ [b]) v l lo := B.ext (Ext.push _ _)
theorem BsV.other {H : Hp} {v : AV} {l : List (Int × AV)} {lo : Nat} (B : BsV H v l lo) {h : Nat} {b0 : Blk} (hg : X3 H h = some b0) (hb : b0.ety ≠ 71) (b : Blk) (hv : v = .nilS ∨ v.hd ≠ h) : BsV (H.set h b) v l lo := by
  refine ⟨?_, fun y hy => (B.big y hy).other hg hb b⟩
  rcases B.at_ with h | ⟨k, h1, h2, h3⟩
  · exact .inl h
  · refine .inr ⟨k, h1, ?_, h3⟩
    subst h1
    rw [Qv (X6 hg), if_neg]
    · exact h2
    · rcases hv with e | e
      · cases e
      · exact e
theorem BsV.grew {H H' : Hp} {v : AV} {l : List (Int × AV)} {lo mid : Nat} (B : BsV H v l lo) (g : Grew mid H H') (hv : v = .nilS ∨ v.hd < mid) : BsV H' v l lo := by
  rcases g with g | ⟨h, l', b, h3, h4, g⟩
  · exact B.ext g
  · exact (B.other h4 (bb_ety l') b (hv.imp id fun e => by omega)).ext g
theorem BsV.below {H : Hp} {v : AV} {l : List (Int × AV)} {lo : Nat} (B : BsV H v l lo) : v = .nilS ∨ v.hd < H.length := by
  rcases B.at_ with ⟨_, e⟩ | ⟨k, e, h2, _⟩
  · exact .inl e
  · right; rw [e]; exact X6 h2
theorem BsV.append {H : Hp} {v : AV} {l : List (Int × AV)} {lo : Nat} (B : BsV H v l lo) (hlo : lo ≤ H.length) (hl : l.length < 1000000) {x : Int} {s : AV} (hs : Bs_ H s x) :
    ∃ v' H', Yf Tryz.prog (H ++ [⟨[.bool (decide (x < 0)), s], .own, 67⟩]) 137 v (.sl H.length 0 1 1) = some (v', H') ∧ BsV H' v' (l ++ [(x, s)]) lo ∧ Grew lo H H' ∧ ∃ h, v' = .sg h 0 (l.length + 1) 2 := by
  have hx := Rd.lit H (n := 1) (z := 2) (cs := [.bool (decide (x < 0)), s]) (k := .own) (e := 67) (by decide) rfl
  have ho : [AV.bool (decide (x < 0)), s].all AV.one = true := by simp [AV.one_bool, hs.one]
  rcases B.at_ with ⟨rfl, rfl⟩ | ⟨k, rfl, hg, hk⟩
  · refine ⟨_, _, append_nil hx Wm Ut zero67 rfl (by decide) bytes67 ho (by decide) (by decide) (by decide), ⟨.inr ⟨_, rfl, X7 rfl, by simp; omega⟩, fun y hy => ?_⟩, .inl ((Ext.push _ _).pushed _), _, rfl⟩
    rw [List.nil_append, List.mem_singleton] at hy
    subst hy; exact (hs.push _).push _
  · have hcl := Kv l
    have hc := cellsB_one l fun y hy => (B.big y hy).one
    have hg' : X3 (H ++ [⟨[.bool (decide (x < 0)), s], .own, 67⟩]) k = some (Bb l) := by rw [Qw (X6 hg)]; exact hg
    have ha := app_move (P := Tryz.prog) hg' hcl hx Wm Ut zero67 rfl (by decide) bytes67 hc ho (by omega) (by omega) (by decide)
    have hcs : W8 l ++ [.bool (decide (x < 0)), s] = W8 (l ++ [(x, s)]) := (cellsB_append l [(x, s)]).symm
    rw [hcs] at ha
    have hl1 : (l ++ [(x, s)]).length = l.length + 1 := by simp
    refine ⟨_, _, ha, ⟨.inr ⟨_, by rw [hl1], X7 (by rw [List.length_set]), by simp; omega⟩, fun y hy => ?_⟩, .inr ⟨k, l, ⟨[], .dead, 67⟩, hk, hg, ?_⟩, _, rfl⟩
    · rcases List.mem_append.1 hy with h | h
      · exact (((B.big y h).push _).other hg' (bb_ety l) _).push _
      · rw [List.mem_singleton.1 h]; exact ((hs.push _).other hg' (bb_ety l) _).push _
    · rw [Nz (X6 hg)]
      exact (Ext.push _ _).pushed _
theorem getD_memB {l : List (Int × AV)} {i : Nat} (h : i < l.length) : l.getD i (0, .nilS) ∈ l := by
  rw [List.getD_eq_getElem?_getD, List.getElem?_eq_getElem h, Option.getD_some]; exact List.getElem_mem h
inductive BRows (H : Hp) (v : AV) (vs : List AV) (pss : List (List (Int × AV))) (lo : Nat) : Prop
  | no : v = .nilS → vs = [] → pss = [] → BRows H v vs pss lo
  | yes (p : Nat) : v = .sg p 0 pss.length 1 → BMat H p vs pss → lo ≤ p → (∀ i, i < pss.length → lo ≤ (vs.getD i .nilS).hd) → 0 < pss.length → BRows H v vs pss lo
theorem BRows.one {H : Hp} {v : AV} {vs : List AV} {pss : List (List (Int × AV))} {lo : Nat} (B : BRows H v vs pss lo) : v.one = true := by
  cases B with
  | no h => rw [h]; rfl
  | yes p h => rw [h]; rfl
theorem BRows.lt {H : Hp} {v : AV} {vs : List AV} {pss : List (List (Int × AV))} {lo : Nat} (B : BRows H v vs pss lo) : v.lt H.length := by
  cases B with
  | no h => rw [h]; trivial
  | yes p h M => rw [h]; simpa [AV.lt] using X6 M.out
theorem BRows.ext {H H' : Hp} {v : AV} {vs : List AV} {pss : List (List (Int × AV))} {lo : Nat} (B : BRows H v vs pss lo) (x : Ext H H') : BRows H' v vs pss lo := by
  cases B with
  | no h1 h2 h3 => exact .no h1 h2 h3
  | yes p h M h1 h2 h3 => exact .yes p h (M.ext x) h1 h2 h3
theorem BRows.grew {H H' : Hp} {v : AV} {vs : List AV} {pss : List (List (Int × AV))} {lo mid : Nat} (B : BRows H v vs pss lo) (g : Grew mid H H') (hv : v = .nilS ∨ (v.hd < mid ∧ ∀ i, i < pss.length → (vs.getD i .nilS).hd < mid)) : BRows H' v vs pss lo := by
  cases B with
  | no h1 h2 h3 => exact .no h1 h2 h3
  | yes p h M h1 h2 h3 =>
    subst h
    rcases hv with e | ⟨e1, e2⟩
    · cases e
    · exact .yes p rfl (M.grew g e1 e2) h1 h2 h3
theorem BRows.below {H : Hp} {v : AV} {vs : List AV} {pss : List (List (Int × AV))} {lo : Nat} (B : BRows H v vs pss lo) : v = .nilS ∨ (v.hd < H.length ∧ ∀ i, i < pss.length → (vs.getD i .nilS).hd < H.length) := by
  cases B with
  | no h1 h2 h3 => exact .inl h1
  | yes p h M h1 h2 h3 => subst h; exact .inr ⟨X6 M.out, fun i hi => X6 (M.row i hi).2⟩
theorem J1n {α : Type} (l : List α) (x d : α) (i : Nat) : (l ++ [x]).getD i d = if i = l.length then x else l.getD i d := by
  rw [List.getD_eq_getElem?_getD, List.getD_eq_getElem?_getD]
  by_cases h : i < l.length
  · rw [if_neg (by omega), List.getElem?_append_left h]
  · rw [List.getElem?_append_right (by omega)]
    by_cases e : i = l.length
    · subst e; simp
    · rw [if_neg e, List.getElem?_eq_none (l := l) (by omega), List.getElem?_eq_none (by simp; omega)]
theorem BRows.append {H : Hp} {v w : AV} {vs : List AV} {pss : List (List (Int × AV))} {l : List (Int × AV)} {lo mid : Nat} (B : BRows H v vs pss lo) (hlo : lo ≤ H.length) (hl : pss.length < 1000000) (W : BsV H w l mid) (hw : w = .sg w.hd 0 l.length 2) (hmid : lo ≤ mid) (hv : v = .nilS ∨ (v.hd < mid ∧ ∀ i, i < pss.length → (vs.getD i .nilS).hd < mid)) :
    ∃ v' H', Yf Tryz.prog (H ++ [⟨[w], .own, 137⟩]) 135 v (.sl H.length 0 1 1) = some (v', H') ∧ BRows H' v' (vs ++ [w]) (pss ++ [l]) lo ∧ (∀ H0, Ext H0 H → H0.length ≤ lo → Ext H0 H') := by
  have hx := Rd.lit H (n := 1) (z := 1) (cs := [w]) (k := .own) (e := 137) (by decide) rfl
  have ho : [w].all AV.one = true := by simp [W.one]
  obtain ⟨hh, hgw, hhm⟩ : ∃ hh, X3 H w.hd = some (Bb l) ∧ mid ≤ w.hd := by
    rcases W.at_ with ⟨_, h⟩ | ⟨k, h, h2, h3⟩
    · rw [h] at hw; cases hw
    · rw [h]; exact ⟨w.hd, h2, h3⟩
  have hwlt := X6 hgw
  cases B with
  | no h1 h2 h3 =>
    subst h1 h2 h3
    refine ⟨_, _, append_nil hx Ke Ny zero137 rfl (by decide) bytes137 ho (by decide) (by decide) (by decide), .yes _ rfl ⟨rfl, X7 rfl, fun i hi => ?_, fun i j hi hj => ?_, fun i hi => ?_, fun i j hi hj => ?_⟩ (by simp; omega) (fun i hi => ?_) (by simp), fun H0 x0 _ => (x0.pushed _).pushed _⟩
    · obtain rfl : i = 0 := by simp at hi; omega
      refine ⟨hw, ?_⟩
      show X3 _ w.hd = some (Bb l)
      rw [Qw (by simp; omega), Qw hwlt]; exact hgw
    · intro e; simp at hi hj; omega
    · obtain rfl : i = 0 := by simp at hi; omega
      show w.hd ≠ _
      simp; omega
    · obtain rfl : i = 0 := by simp at hi; omega
      exact ((W.big _ (getD_memB hj)).push _).push _
    · obtain rfl : i = 0 := by simp at hi; omega
      show lo ≤ w.hd
      omega
  | yes p h M h1 h2 h3 =>
    subst h
    have hml := M.len
    have hp := X6 M.out
    have hvp : p < mid ∧ ∀ i, i < pss.length → (vs.getD i .nilS).hd < mid := by
      rcases hv with e | e
      · cases e
      · exact e
    have hc : vs.all AV.one = true := by
      rw [List.all_eq_true]
      intro y hy
      obtain ⟨i, hi, rfl⟩ := List.getElem_of_mem hy
      have := (M.row i (by omega)).1
      rw [List.getD_eq_getElem?_getD, List.getElem?_eq_getElem hi, Option.getD_some] at this
      rw [this]; rfl
    have hg' : X3 (H ++ [⟨[w], .own, 137⟩]) p = some ⟨vs, .own, 137⟩ := by rw [Qw hp]; exact M.out
    have ha := app_move (P := Tryz.prog) (n := pss.length) hg' (by omega) hx Ke Ny zero137 rfl (by decide) bytes137 hc ho (by omega) (by omega) (by decide)
    have hety : (⟨vs, .own, 137⟩ : Blk).ety ≠ 71 := show (137 : Nat) ≠ 71 by decide
    have gv : ∀ i, (vs ++ [w]).getD i .nilS = if i = pss.length then w else vs.getD i .nilS := fun i => by rw [J1n, hml]
    have gp : ∀ i, (pss ++ [l]).getD i [] = if i = pss.length then l else pss.getD i [] := fun i => J1n _ _ _ _
    have hl' : (pss ++ [l]).length = pss.length + 1 := by simp
    obtain ⟨Bw, hBw⟩ : ∃ B : Blk, B = ⟨[w], .own, 137⟩ := ⟨_, rfl⟩
    obtain ⟨Bd, hBd⟩ : ∃ B : Blk, B = ⟨[], .dead, 137⟩ := ⟨_, rfl⟩
    rw [← hBw, ← hBd] at ha
    rw [← hBw]
    have hS : (H ++ [Bw]).set p Bd = H.set p Bd ++ [Bw] := Nz hp _ _
    have gk : ∀ k, k < H.length → k ≠ p → ∀ b, X3 H k = some b → X3 ((H ++ [Bw]).set p Bd ++ [(⟨vs ++ [w], .own, 137⟩ : Blk)]) k = some b := by
      intro k hk hkp b hb
      rw [hS, Qw (by simp; omega), Qw (by simp; omega), Qv hp, if_neg hkp]; exact hb
    refine ⟨_, _, ha, .yes _ (by rw [hl']) ⟨by simp; omega, X7 (by simp), fun i hi => ?_, fun i j hi hj hij => ?_, fun i hi => ?_, fun i j hi hj => ?_⟩ (by simp; omega) (fun i hi => ?_) (by omega), fun H0 x0 hx0 => ?_⟩
    · rw [gv, gp]
      by_cases e : i = pss.length
      · rw [if_pos e, if_pos e]; exact ⟨hw, gk _ hwlt (by omega) _ hgw⟩
      · rw [if_neg e, if_neg e]
        have hi' : i < pss.length := by omega
        exact ⟨(M.row i hi').1, gk _ (X6 (M.row i hi').2) (M.off i hi') _ (M.row i hi').2⟩
    · rw [gv, gv]
      by_cases e : i = pss.length
      · rw [if_pos e, if_neg (by omega)]
        have := hvp.2 j (by omega)
        omega
      · rw [if_neg e]
        have := hvp.2 i (by omega)
        by_cases e2 : j = pss.length
        · rw [if_pos e2]; omega
        · rw [if_neg e2]; exact M.apart i j (by omega) (by omega) hij
    · rw [gv]
      have : (H ++ [Bw]).length = H.length + 1 := by simp
      rw [this]
      split
      · omega
      · have := hvp.2 i (by omega)
        have := X6 (M.row i (by omega)).2
        omega
    · rw [gp] at hj ⊢
      rw [hS]
      by_cases e : i = pss.length
      · rw [if_pos e] at hj ⊢
        exact (((W.big _ (getD_memB hj)).other M.out hety _).push _).push _
      · rw [if_neg e] at hj ⊢
        exact (((M.big i j (by omega) hj).other M.out hety _).push _).push _
    · rw [gv]
      split
      · omega
      · exact h2 i (by omega)
    · rw [hS]
      exact (((x0.set (by omega) _).pushed _).pushed _)
end Go.Proofs.YtigddjlhncnnoaaGreatDoor
namespace Go.Proofs.YtigddjlhncnnoaaGreatDoor
open Go.AL Go.PW Go.PD
set_option maxRecDepth 8000
structure StB (n k : Nat) (rho : Nat → Nat → Int) (pss : List (List (Int × AV))) : Prop where
  len : pss.length = n
  wid : ∀ i, i < n → (pss.getD i []).length = n
  get : ∀ i j, k ≤ i → k ≤ j → i < n → j < n → ((pss.getD i []).getD j (0, .nilS)).1 = d rho k i j
end Go.Proofs.YtigddjlhncnnoaaGreatDoor
namespace Go.Proofs.YtigddjlhncnnoaaGreatDoor
open Go.AL Go.PW Go.PD
set_option maxRecDepth 8000
def midB (rho : Nat → Nat → Int) (k i j x y : Nat) : Int := if k < x ∧ k < y ∧ (x < i ∨ (x = i ∧ y < j)) then d rho (k + 1) x y else d rho k x y
structure StM (n k i j : Nat) (rho : Nat → Nat → Int) (pss : List (List (Int × AV))) : Prop where
  len : pss.length = n
  wid : ∀ x, x < n → (pss.getD x []).length = n
  get : ∀ x y, k ≤ x → k ≤ y → x < n → y < n → ((pss.getD x []).getD y (0, .nilS)).1 = midB rho k i j x y
theorem StB.mid {n k : Nat} {rho : Nat → Nat → Int} {pss : List (List (Int × AV))} (S : StB n k rho pss) : StM n k (k + 1) (k + 1) rho pss :=
  ⟨S.len, S.wid, fun x y h1 h2 h3 h4 => by rw [S.get x y h1 h2 h3 h4]; unfold midB; rw [if_neg (by omega)]⟩
theorem StM.row {n k i : Nat} {rho : Nat → Nat → Int} {pss : List (List (Int × AV))} (S : StM n k i n rho pss) : StM n k (i + 1) (k + 1) rho pss :=
  ⟨S.len, S.wid, fun x y h1 h2 h3 h4 => by
    rw [S.get x y h1 h2 h3 h4]; unfold midB
    have : (k < x ∧ k < y ∧ (x < i ∨ x = i ∧ y < n)) ↔ (k < x ∧ k < y ∧ (x < i + 1 ∨ x = i + 1 ∧ y < k + 1)) := by omega
    simp only [this]⟩
theorem StM.done {n k : Nat} {rho : Nat → Nat → Int} {pss : List (List (Int × AV))} (S : StM n k n (k + 1) rho pss) : StB n (k + 1) rho pss :=
  ⟨S.len, S.wid, fun x y h1 h2 h3 h4 => by rw [S.get x y (by omega) (by omega) h3 h4]; unfold midB; rw [if_pos ⟨by omega, by omega, .inl h3⟩]⟩
theorem StM.set {n k i j : Nat} {rho : Nat → Nat → Int} {pss : List (List (Int × AV))} (S : StM n k i j rho pss) (hki : k < i) (hkj : k < j) (hi : i < n) (hj : j < n) (u : AV) : StM n k i (j + 1) rho (pss.set i ((pss.getD i []).set j (d rho (k + 1) i j, u))) := by
  have hil : i < pss.length := by rw [S.len]; exact hi
  have hjl : j < (pss.getD i []).length := by rw [S.wid i hi]; exact hj
  have hg : ∀ x, (pss.set i ((pss.getD i []).set j (d rho (k + 1) i j, u))).getD x [] = if x = i then (pss.getD i []).set j (d rho (k + 1) i j, u) else pss.getD x [] := fun x => Uu _ _ _ _ _ hil
  refine ⟨by rw [List.length_set]; exact S.len, fun x hx => ?_, fun x y h1 h2 h3 h4 => ?_⟩
  · rw [hg]
    split
    · rw [List.length_set]; exact S.wid i hi
    · exact S.wid x hx
  · rw [hg]
    by_cases e : x = i
    · subst e
      rw [if_pos rfl, Uu _ _ _ _ _ hjl]
      by_cases e2 : y = j
      · subst e2
        rw [if_pos rfl]; unfold midB; rw [if_pos ⟨hki, hkj, .inr ⟨rfl, by omega⟩⟩]
      · rw [if_neg e2, S.get x y h1 h2 h3 h4]; unfold midB
        exact ite_congr (propext (by omega)) (fun _ => rfl) (fun _ => rfl)
    · rw [if_neg e, S.get x y h1 h2 h3 h4]; unfold midB
      have : (k < x ∧ k < y ∧ (x < i ∨ x = i ∧ y < j)) ↔ (k < x ∧ k < y ∧ (x < i ∨ x = i ∧ y < j + 1)) := by omega
      simp only [this]
end Go.Proofs.YtigddjlhncnnoaaGreatDoor
namespace Go.Proofs.YtigddjlhncnnoaaGreatDoor
open Go.AL Go.PW Go.PD
set_option maxRecDepth 8000
theorem BMat.swap {H : Hp} {p : Nat} {vs : List AV} {pss : List (List (Int × AV))} (M : BMat H p vs pss) {k i : Nat} (hk : k < pss.length) (hi : i < pss.length) :
    BMat (H.set p ⟨swp .nilS vs k i, .own, 137⟩) p (swp .nilS vs k i) (swp [] pss k i) := by
  have lp := X6 M.out
  have hl := M.len
  have gv := fun j => Rv (.nilS : AV) vs k i j (by omega) (by omega)
  have gr := fun j => Rv ([] : List (Int × AV)) pss k i j hk hi
  have hety : (⟨vs, .own, 137⟩ : Blk).ety ≠ 71 := show (137 : Nat) ≠ 71 by decide
  have key : ∀ j, j < pss.length → ∃ l, l < pss.length ∧ (swp .nilS vs k i).getD j .nilS = vs.getD l .nilS ∧ (swp [] pss k i).getD j [] = pss.getD l [] ∧ l = (if j = k then i else if j = i then k else j) := by
    intro j hj
    rw [gv, gr]
    by_cases e1 : j = k
    · rw [if_pos e1, if_pos e1, if_pos e1]; exact ⟨i, hi, rfl, rfl, rfl⟩
    · rw [if_neg e1, if_neg e1, if_neg e1]
      by_cases e2 : j = i
      · rw [if_pos e2, if_pos e2, if_pos e2]; exact ⟨k, hk, rfl, rfl, rfl⟩
      · rw [if_neg e2, if_neg e2, if_neg e2]; exact ⟨j, hj, rfl, rfl, rfl⟩
  refine ⟨by rw [V0, V0]; exact hl, by rw [Qv lp, if_pos rfl], fun j hj => ?_, fun a b ha hb hne => ?_, fun a ha => ?_, fun a b ha hb => ?_⟩
  · rw [V0] at hj
    obtain ⟨l, hl', e1, e2, _⟩ := key j hj
    rw [e1, e2, Qv lp, if_neg (M.off l hl')]
    exact M.row l hl'
  · rw [V0] at ha hb
    obtain ⟨l, hl', e1, _, w1⟩ := key a ha
    obtain ⟨l2, hl2', e2, _, w2⟩ := key b hb
    rw [e1, e2]
    refine M.apart l l2 hl' hl2' ?_
    rw [w1, w2]
    repeat' split
    all_goals omega
  · rw [V0] at ha
    obtain ⟨l, hl', e1, _, _⟩ := key a ha
    rw [e1]; exact M.off l hl'
  · rw [V0] at ha
    obtain ⟨l, hl', _, e2, _⟩ := key a ha
    rw [e2] at hb ⊢
    exact (M.big l b hl' hb).other M.out hety _
theorem StB.swap {n k : Nat} {rho : Nat → Nat → Int} {pss : List (List (Int × AV))} (S : StB n k rho pss) {i : Nat} (hki : k ≤ i) (hi : i < n) : StB n k (swr rho k i) (swp [] pss k i) := by
  have g := fun l => Rv ([] : List (Int × AV)) pss k i l (by rw [S.len]; omega) (by rw [S.len]; omega)
  refine ⟨by rw [V0]; exact S.len, fun l hl => ?_, fun l j hkl hkj hl hj => ?_⟩
  · rw [g]
    split
    · exact S.wid i hi
    · split
      · exact S.wid k (by omega)
      · exact S.wid l hl
  · rw [g, d_swr hki]
    split
    · exact S.get i j hki hkj hi hj
    · split
      · exact S.get k j (Nat.le_refl _) hkj (by omega) hj
      · exact S.get l j hkl hkj hl hj
theorem big_ety (vs : List AV) : (⟨vs, .own, 137⟩ : Blk).ety ≠ 71 := show (137 : Nat) ≠ 71 by decide
structure DetB (H H2 : Hp) (n k p q : Nat) (a rho : Nat → Nat → Int) (mn : Bool) (vs : List AV) (pss : List (List (Int × AV))) (t4 t5 : AV) : Prop where
  M : BMat H2 p vs pss
  hv : ∀ i, i < n → H.length + 2 ≤ (vs.getD i .nilS).hd ∧ (vs.getD i .nilS).hd < q
  hp : H.length + 2 ≤ p ∧ p < q
  q2 : X3 H2 (H.length + 1) = some (BB 0 .nilS)
  q4 : X3 H2 q = some (BB (if mn then -1 else 1) t4)
  q5 : X3 H2 (q + 1) = some (BB (P rho k) t5)
  T4 : Bs_ H2 t4 (if mn then -1 else 1)
  T5 : Bs_ H2 t5 (P rho k)
  x : Ext H H2
theorem DetB.len {H H2 : Hp} {n k p q : Nat} {a rho : Nat → Nat → Int} {mn : Bool} {vs : List AV} {pss : List (List (Int × AV))} {t4 t5 : AV} (D : DetB H H2 n k p q a rho mn vs pss t4 t5) : H.length + 2 ≤ q ∧ q + 1 < H2.length := by
  have := X6 D.q5; have := D.hp; omega
theorem DetB.ext {H H2 H3 : Hp} {n k p q : Nat} {a rho : Nat → Nat → Int} {mn : Bool} {vs : List AV} {pss : List (List (Int × AV))} {t4 t5 : AV} (D : DetB H H2 n k p q a rho mn vs pss t4 t5) (x : Ext H2 H3) : DetB H H3 n k p q a rho mn vs pss t4 t5 :=
  ⟨D.M.ext x, D.hv, D.hp, Qy D.q2 x, Qy D.q4 x, Qy D.q5 x, D.T4.ext x, D.T5.ext x, D.x.trans x⟩
theorem DetB.set {H H2 : Hp} {n k p q : Nat} {a rho : Nat → Nat → Int} {mn : Bool} {vs : List AV} {pss : List (List (Int × AV))} {t4 t5 : AV} (D : DetB H H2 n k p q a rho mn vs pss t4 t5) {i j : Nat} {x : Int} {s : AV} (hin : i < n) (hi : i < pss.length) (hj : j < (pss.getD i []).length) (hs : Bs_ H2 s x) :
    DetB H (H2.set (vs.getD i .nilS).hd (Bb ((pss.getD i []).set j (x, s)))) n k p q a rho mn vs (pss.set i ((pss.getD i []).set j (x, s))) t4 t5 := by
  have hg := (D.M.row i hi).2
  have hl := X6 hg
  have h1 := D.hv i hin
  have h2 := D.hp
  exact ⟨D.M.set hi hj hs, D.hv, D.hp, by rw [Qv hl, if_neg (by omega)]; exact D.q2, by rw [Qv hl, if_neg (by omega)]; exact D.q4, by rw [Qv hl, if_neg (by omega)]; exact D.q5, D.T4.other hg (bb_ety _) _, D.T5.other hg (bb_ety _) _, D.x.set (by omega) _⟩
theorem DetB.swap {H H2 : Hp} {n k p q : Nat} {a rho : Nat → Nat → Int} {mn : Bool} {vs : List AV} {pss : List (List (Int × AV))} {t4 t5 : AV} (D : DetB H H2 n k p q a rho mn vs pss t4 t5) (hl : pss.length = n) {i : Nat} (hk : k < n) (hki : k ≤ i) (hi : i < n) :
    DetB H (H2.set p ⟨swp .nilS vs k i, .own, 137⟩) n k p q a (swr rho k i) mn (swp .nilS vs k i) (swp [] pss k i) t4 t5 := by
  have lp := X6 D.M.out
  have h2 := D.hp
  have hml := D.M.len
  have hPk : P (swr rho k i) k = P rho k := by unfold P; rw [swr_low (Nat.le_refl _) hki]
  refine ⟨D.M.swap (by omega) (by omega), fun l hln => ?_, D.hp, by rw [Qv lp, if_neg (by omega)]; exact D.q2, by rw [Qv lp, if_neg (by omega)]; exact D.q4, by rw [Qv lp, if_neg (by omega), hPk]; exact D.q5, D.T4.other D.M.out (big_ety _) _, by rw [hPk]; exact D.T5.other D.M.out (big_ety _) _, D.x.set (by omega) _⟩
  rw [Rv _ _ _ _ _ (by omega) (by omega)]
  split
  · exact D.hv i hi
  · split
    · exact D.hv k hk
    · exact D.hv l hln
theorem DetB.next {H H2 : Hp} {n k p q : Nat} {a rho : Nat → Nat → Int} {mn : Bool} {vs : List AV} {pss : List (List (Int × AV))} {t4 t5 s : AV} (D : DetB H H2 n k p q a rho mn vs pss t4 t5) (hl : pss.length = n) (hs : Bs_ H2 s (P rho (k + 1))) :
    DetB H (H2.set (q + 1) (BB (P rho (k + 1)) s)) n (k + 1) p q a rho mn vs pss t4 s := by
  have lq := X6 D.q5
  have h2 := D.hp
  exact ⟨D.M.other D.q5 (K1 _ _) _ (by omega) (fun i hi => by have := D.hv i (by omega); omega), D.hv, D.hp, by rw [Qv lq, if_neg (by omega)]; exact D.q2, by rw [Qv lq, if_neg (by omega)]; exact D.q4, by rw [Qv lq, if_pos rfl], D.T4.other D.q5 (K1 _ _) _, hs.other D.q5 (K1 _ _) _, D.x.set (by omega) _⟩
end Go.Proofs.YtigddjlhncnnoaaGreatDoor
namespace Go.Proofs.YtigddjlhncnnoaaGreatDoor
open Go.AL Go.PW Go.PD
set_option maxRecDepth 8000
theorem BsV.rd {H : Hp} {v : AV} {l : List (Int × AV)} {lo : Nat} (B : BsV H v l lo) : Rd H 2 v (W8 l) l.length := by
  rcases B.at_ with ⟨rfl, rfl⟩ | ⟨k, rfl, hg, _⟩
  · exact Rd.nil _ _
  · have hcl := Kv l
    refine ⟨?_, rfl⟩
    simp only [arow, hg]
    rw [if_neg (by decide), if_pos (by omega), List.drop_zero, List.take_of_length_le (by omega)]
theorem BsV.get {H : Hp} {v : AV} {l : List (Int × AV)} {lo : Nat} (B : BsV H v l lo) {i : Nat} (hi : i < l.length) : V7 Tryz.prog H 67 (v.pl (i * 2)) = some (BV (l.getD i (0, .nilS)).1 (l.getD i (0, .nilS)).2) := by
  rw [Rd.loads B.rd agg67 Ut hi, cellsB_get _ _ hi]
end Go.Proofs.YtigddjlhncnnoaaGreatDoor
namespace Go.Proofs.YtigddjlhncnnoaaGreatDoor
open Go.AL Go.PW Go.PR
theorem J1v : type_of% (Jc @Xw (Jc @Xc (Jc @J00 (@N9)))) := Jc @Xw (Jc @Xc (Jc @J00 (@N9)))
theorem tf155CiA : type_of% (Jc @Xc (Jc @tyb225 (@cv71_225))) := Jc @Xc (Jc @tyb225 (@cv71_225))
theorem tf138CiA : type_of% (Jc @Zg (Jc @Xc (Jc @tyb225 (Jc @cv2_71 (@cv225_2))))) := Jc @Zg (Jc @Xc (Jc @tyb225 (Jc @cv2_71 (@cv225_2))))
set_option maxRecDepth 8000
theorem two_lt {s : Nat} (hs : s < 64) : (2 : Int) ^ s < Bs := by
  have h : (2 : Nat) ^ s < 2 ^ 64 := Nat.pow_lt_pow_right (by decide) hs
  have h2 : ((2 ^ s : Nat) : Int) = (2 : Int) ^ s := by push_cast; rfl
  have h3 : ((2 ^ 64 : Nat) : Int) = Bs := by simp only [Bs]; decide
  rw [← h2, ← h3]; omega
set_option maxHeartbeats 4000000 in
theorem root_calls (hi lo : Int) (n : Nat) (H : Hp) (hh : 0 ≤ hi ∧ hi < Bs) (hl : 0 ≤ lo ∧ lo < Bs) (hn : (n : Int) = hi * Bs + lo) : ACalls Tryz.prog 59 [.int .u64 hi, .int .u64 lo] H fun r H' => r = .int .u64 (rt n : Nat) ∧ H = H' := by
  refine Qo Tryz.func59 rfl (by kernel_rfl) (by kernel_rfl) ?_
  repeat' first
    | (with_reducible first | refine Jh (fun K hK => ?_) | refine Jx ?_ | refine Q4 ?_ | refine Qc ?_ | refine Qd ?_ | refine Jg ?_ | refine Jr ?_)
    | (with_reducible refine Jt (fun hc => ?_) (fun hc => ?_) <;> (try simp only [RC] at hc) <;> (try (exfalso; first | omega | contradiction)))
    | (with_reducible refine X4 (fun hc => ?_) (fun hc => ?_) <;> (try simp only [RC] at hc) <;> (try (exfalso; first | omega | contradiction)))
    | (simp only [Qb, Jo, reduceIte, J0])
    | ((with_reducible refine hK _ _ ?_); clear hK)
    | (clear hK; (with_reducible refine hK _ _ ?_); clear hK)
    | (clear hK; clear hK; (with_reducible refine hK _ _ ?_); clear hK)
    | (clear hK; clear hK; clear hK; (with_reducible refine hK _ _ ?_); clear hK)
    | (clear hK; clear hK; clear hK; clear hK; (with_reducible refine hK _ _ ?_); clear hK)
    | (clear hK; clear hK; clear hK; clear hK; clear hK; (with_reducible refine hK _ _ ?_); clear hK)
    | (simp only [Q9, RA, Jn, Jm, Jp, Q8, Q6, ev, ofValue, Ju, J0, J3, J2, J4, reduceCtorEq, reduceIte, Jv, Qm, Qk, Q0, aun, Qj, Jk, Ji, Jz, Jy, Jj, Qi, Jf, Q7, Q2, Js, J1, J5, Ja, J9, Jb, J6, J7, Jd, J8, RB, Jw, Je, J1v])
    | (simp (disch := first | omega | (simp only [RO]; done) | assumption) only [RS])
    | (simp (disch := (first | omega | (simp only [RO]; done) | assumption | (simp only [RM, Je]; done) | (simp only [RL, Je]; omega))) only [RD, reduceCtorEq, reduceIte, Je, J1, J3, J2, J6, J1v])
  refine Xi (fun m fr' H1 => ∃ (s r c : Nat), m = s ∧ s ≤ 64 ∧ fr' 0 = .int .u64 hi ∧ fr' 1 = .int .u64 lo ∧ fr' 5 = .int .u64 (r : Int) ∧ fr' 6 = .int .i64 ((s : Int) - 1) ∧ r = c * 2 ^ s ∧ (r : Int) + 2 ^ s ≤ Bs ∧ rtGo n s r = rt n ∧ H = H1) (m := 64)
    ⟨64, 0, 0, rfl, by omega, rfl, rfl, rfl, rfl, by simp, by decide, rfl, rfl⟩ ?_
  rintro s fr' H1 ⟨s0, r, c, hm0, hs, k0, k1, k5, k6, hc, hb, hg, rfl⟩
  subst hm0
  cases s with
  | zero =>
    have f0 : (((0 : Nat) : Int) - 1 ≥ 0) = False := eq_false (by omega)
    repeat' first
      | (with_reducible first | refine Jh (fun K hK => ?_) | refine Jx ?_ | refine Q4 ?_ | refine Qc ?_ | refine Qd ?_ | refine Jg ?_ | refine Jr ?_)
      | (with_reducible refine Jt (fun hc => ?_) (fun hc => ?_) <;> (try simp only [RC] at hc) <;> (try (exfalso; first | omega | contradiction)))
      | (with_reducible refine X4 (fun hc => ?_) (fun hc => ?_) <;> (try simp only [RC] at hc) <;> (try (exfalso; first | omega | contradiction)))
      | (simp only [Qb, Jo, reduceIte, J0])
      | ((with_reducible refine hK _ _ ?_); clear hK)
      | (clear hK; (with_reducible refine hK _ _ ?_); clear hK)
      | (clear hK; clear hK; (with_reducible refine hK _ _ ?_); clear hK)
      | (clear hK; clear hK; clear hK; (with_reducible refine hK _ _ ?_); clear hK)
      | (clear hK; clear hK; clear hK; clear hK; (with_reducible refine hK _ _ ?_); clear hK)
      | (clear hK; clear hK; clear hK; clear hK; clear hK; (with_reducible refine hK _ _ ?_); clear hK)
      | (simp only [Q9, RA, Jn, Jm, Jp, Q8, Q6, ev, ofValue, Ju, J0, J3, J2, J4, reduceCtorEq, reduceIte, Jv, Qm, Qk, Q0, aun, Qj, Jk, Ji, Jz, Jy, Jj, Qi, Jf, Q7, Q2, Js, J1, J5, Ja, J9, Jb, J6, J7, Jd, J8, RB, Jw, Je, J1v, k0, k1, k5, k6, f0])
      | (simp (disch := first | omega | (simp only [RO]; done) | assumption) only [RS])
      | (simp (disch := (first | omega | (simp only [RO]; done) | assumption | (simp only [RM, Je]; done) | (simp only [RL, Je]; omega))) only [RD, reduceCtorEq, reduceIte, Je, J1, J3, J2, J6, J1v, k0, k1, k5, k6, f0])
    (
     (refine Qg (rs := [.tmp 4]) rfl ?_)
     (simp only [X5, Qf, Fr.put_some, Fr.put_none, Qp, Qq, Qt, J0, reduceIte])
     (try simp (disch := (first | omega | (simp only [RO]; done) | assumption | (simp only [RM, Je]; done) | (simp only [RL, Je]; omega))) only [RD, reduceCtorEq, reduceIte, Je, J1, J3, J2, J6, J1v]))
    rw [← hg]; rfl
  | succ s =>
    have f0 : (((s + 1 : Nat) : Int) - 1 ≥ 0) = True := eq_true (by omega)
    have w1 : IntKind.u64.wrap (((s + 1 : Nat) : Int) - 1) = (s : Int) := by rw [Y0 (by omega) (by simp only [Bs]; omega)]; omega
    have hm : min s 64 = s := by omega
    have hp : (2 : Int) ^ (s + 1) = 2 * 2 ^ s := by rw [Int.pow_succ]; omega
    have h2p : (0 : Int) < 2 ^ s := Int.pow_pos (by decide)
    have w2 : IntKind.u64.wrap (1 * 2 ^ s) = 2 ^ s := by rw [Int.one_mul]; exact Y0 (by omega) (two_lt (by omega))
    obtain ⟨q, hq⟩ : ∃ q : Nat, q = r + 2 ^ s := ⟨_, rfl⟩
    have hqi : (q : Int) = (r : Int) + 2 ^ s := by rw [hq]; push_cast; rfl
    have hor : bits .or .u64 (r : Int) (2 ^ s) = (q : Int) := by
      have e : (r : Int) = (c : Int) * 2 ^ (s + 1) := by rw [hc]; push_cast; rfl
      rw [hqi, e]
      exact or_add (s + 1) (by omega) (by rw [← e]; omega) (by omega) (by omega) (two_lt (by omega))
    have hqb : 0 ≤ (q : Int) ∧ (q : Int) < Bs := by omega
    obtain ⟨Q, hQ⟩ : ∃ Q : Int, Q = (q : Int) * (q : Int) := ⟨_, rfl⟩
    have M6 := mul64_calls (q : Int) (q : Int) H hqb hqb
    rw [← hQ] at M6
    have hQn : Q ≤ (n : Int) ↔ q * q ≤ n := by
      have e : Q = ((q * q : Nat) : Int) := by rw [hQ]; push_cast; rfl
      rw [e]; omega
    have w3 : IntKind.i64.wrap (((s + 1 : Nat) : Int) - 1 - 1) = (s : Int) - 1 := by rw [Qe (by omega) (by omega)]; omega
    have hc1 : r = 2 * c * 2 ^ s := by rw [hc, Nat.pow_succ]; rw [Nat.mul_comm 2 c, Nat.mul_assoc, Nat.mul_comm 2]
    have hc2 : q = (2 * c + 1) * 2 ^ s := by rw [hq, Nat.add_mul, ← hc1, Nat.one_mul]
    have take : Q ≤ (n : Int) → rtGo n s q = rt n := fun h => by rw [← hg, hq]; simp only [rtGo]; rw [if_pos (by rw [← hq]; exact hQn.1 h)]
    have skp : ¬ Q ≤ (n : Int) → rtGo n s r = rt n := fun h => by rw [← hg]; simp only [rtGo]; rw [if_neg (by rw [← hq]; exact fun h' => h (hQn.2 h'))]
    clear hg
    repeat' first
      | (with_reducible first | refine Jh (fun K hK => ?_) | refine Jx ?_ | refine Q4 ?_ | refine Qc ?_ | refine Qd ?_ | refine Jg ?_ | refine Jr ?_)
      | ((with_reducible refine Q5 (M6) ?_); rintro _ _ ⟨rfl, rfl⟩)
      | (with_reducible refine Jt (fun hc => ?_) (fun hc => ?_) <;> (try simp only [RC] at hc) <;> (try (exfalso; first | omega | contradiction)))
      | (with_reducible refine X4 (fun hc => ?_) (fun hc => ?_) <;> (try simp only [RC] at hc) <;> (try (exfalso; first | omega | contradiction)))
      | (simp only [Qb, Jo, reduceIte, J0])
      | ((with_reducible refine hK _ _ ?_); clear hK)
      | (clear hK; (with_reducible refine hK _ _ ?_); clear hK)
      | (clear hK; clear hK; (with_reducible refine hK _ _ ?_); clear hK)
      | (clear hK; clear hK; clear hK; (with_reducible refine hK _ _ ?_); clear hK)
      | (clear hK; clear hK; clear hK; clear hK; (with_reducible refine hK _ _ ?_); clear hK)
      | (clear hK; clear hK; clear hK; clear hK; clear hK; (with_reducible refine hK _ _ ?_); clear hK)
      | (simp only [Q9, RA, Jn, Jm, Jp, Q8, Q6, ev, ofValue, Ju, J0, J3, J2, J4, reduceCtorEq, reduceIte, Jv, Qm, Qk, Q0, aun, Qj, Jk, Ji, Jz, Jy, Jj, Qi, Jf, Q7, Q2, Js, J1, J5, Ja, J9, Jb, J6, J7, Jd, J8, RB, Jw, Je, J1v, k0, k1, k5, k6, f0, w1, hm, w2, hor, w3])
      | (simp (disch := first | omega | (simp only [RO]; done) | assumption) only [RS])
      | (simp (disch := (first | omega | (simp only [RO]; done) | assumption | (simp only [RM, Je]; done) | (simp only [RL, Je]; omega))) only [RD, reduceCtorEq, reduceIte, Je, J1, J3, J2, J6, J1v, k0, k1, k5, k6, f0, w1, hm, w2, hor, w3])
    all_goals first
      | (have h : Q ≤ (n : Int) := by simp only [Bs] at *; omega
         exact ⟨s, by omega, s, q, 2 * c + 1, rfl, by omega, rfl, rfl, hc2, by omega, take h⟩)
      | (have h : ¬ Q ≤ (n : Int) := by simp only [Bs] at *; omega
         exact ⟨s, by omega, s, r, 2 * c, rfl, by omega, rfl, rfl, hc1, by omega, skp h⟩)
theorem sqrt_calls (n : Nat) (H : Hp) (hn : (n : Int) < Bs) (hb : rt n < 4294967296) : ACalls Tryz.prog 155 [.int .u64 (n : Int)] H fun r H' => r = .int .u32 (rt n : Nat) ∧ H = H' := by
  have R := root_calls 0 (n : Int) n H ⟨by omega, by simp only [Bs]; omega⟩ ⟨by omega, hn⟩ (by omega)
  have w : IntKind.u32.wrap ((rt n : Nat) : Int) = (rt n : Nat) := by
    have e : ((2 : Int) ^ IntKind.u32.bits) = 4294967296 := by decide
    simp only [IntKind.wrap, IntKind.signed, Bool.false_and, Bool.false_eq_true, if_false, e]
    omega
  refine Qo Tryz.func155 rfl (by kernel_rfl) (by kernel_rfl) ?_
  repeat' first
    | (with_reducible first | refine Jh (fun K hK => ?_) | refine Jx ?_ | refine Q4 ?_ | refine Qc ?_ | refine Qd ?_ | refine Jg ?_ | refine Jr ?_)
    | ((with_reducible refine Q5 (R) ?_); rintro _ _ ⟨rfl, rfl⟩)
    | (with_reducible refine Jt (fun hc => ?_) (fun hc => ?_) <;> (try simp only [RC] at hc) <;> (try (exfalso; first | omega | contradiction)))
    | (with_reducible refine X4 (fun hc => ?_) (fun hc => ?_) <;> (try simp only [RC] at hc) <;> (try (exfalso; first | omega | contradiction)))
    | (simp only [Qb, Jo, reduceIte, J0])
    | ((with_reducible refine hK _ _ ?_); clear hK)
    | (clear hK; (with_reducible refine hK _ _ ?_); clear hK)
    | (clear hK; clear hK; (with_reducible refine hK _ _ ?_); clear hK)
    | (clear hK; clear hK; clear hK; (with_reducible refine hK _ _ ?_); clear hK)
    | (clear hK; clear hK; clear hK; clear hK; (with_reducible refine hK _ _ ?_); clear hK)
    | (clear hK; clear hK; clear hK; clear hK; clear hK; (with_reducible refine hK _ _ ?_); clear hK)
    | (simp only [Q9, RA, Jn, Jm, Jp, Q8, Q6, ev, ofValue, Ju, J0, J3, J2, J4, reduceCtorEq, reduceIte, Jv, Qm, Qk, Q0, aun, Qj, Jk, Ji, Jz, Jy, Jj, Qi, Jf, Q7, Q2, Js, J1, J5, Ja, J9, Jb, J6, J7, Jd, J8, RB, Jw, Je, tf155CiA, w])
    | (simp (disch := first | omega | (simp only [RO]; done) | assumption) only [RS])
    | (simp (disch := (first | omega | (simp only [RO]; done) | assumption | (simp only [RM, Je]; done) | (simp only [RL, Je]; omega))) only [RD, reduceCtorEq, reduceIte, Je, J1, J3, J2, J6, tf155CiA, w])
  all_goals
    (
     (refine Qg (rs := [.tmp 2]) rfl ?_)
     (simp only [X5, Qf, Fr.put_some, Fr.put_none, Qp, Qq, Qt, J0, reduceIte])
     (try simp (disch := (first | omega | (simp only [RO]; done) | assumption | (simp only [RM, Je]; done) | (simp only [RL, Je]; omega))) only [RD, reduceCtorEq, reduceIte, Je, J1, J3, J2, J6, tf155CiA]))
theorem rt_32 {n : Nat} (h : n < 18446744073709551616) : rt n < 4294967296 := rt_lt (Nat.lt_of_lt_of_le h (by decide)) (by omega)
set_option maxHeartbeats 4000000 in
theorem hypot_calls (x y : Int) (n : Nat) (H : Hp) (hx : -2147483648 ≤ x ∧ x ≤ 2147483648) (hy : -2147483648 ≤ y ∧ y ≤ 2147483648) (hn : (n : Int) = x * x + y * y) : ACalls Tryz.prog 138 [.int .i64 x, .int .i64 y] H fun r H' => r = .tup [.int .i64 (rt n : Nat), .bool true] ∧ H = H' := by
  have bx := Uh (x := x.natAbs) (y := x.natAbs) (p := 2147483648) (q := 2147483648) (by omega) (by omega)
  have by_ := Uh (x := y.natAbs) (y := y.natAbs) (p := 2147483648) (q := 2147483648) (by omega) (by omega)
  have ex : x * x = (x.natAbs : Int) * x.natAbs := by rw [← Int.natCast_mul]; exact (Int.natAbs_mul_self).symm
  have ey : y * y = (y.natAbs : Int) * y.natAbs := by rw [← Int.natCast_mul]; exact (Int.natAbs_mul_self).symm
  rw [← ex] at bx
  rw [← ey] at by_
  obtain ⟨X, hX⟩ : ∃ X, X = x * x := ⟨_, rfl⟩
  obtain ⟨Y, hY⟩ : ∃ Y, Y = y * y := ⟨_, rfl⟩
  rw [← hX] at bx hn
  rw [← hY] at by_ hn
  have f1 : (x < -2147483648) = False := eq_false (by omega)
  have f2 : (x > 2147483648) = False := eq_false (by omega)
  have f3 : (y < -2147483648) = False := eq_false (by omega)
  have f4 : (y > 2147483648) = False := eq_false (by omega)
  have w1 : IntKind.i64.wrap X = X := Qe (by omega) (by omega)
  have w2 : IntKind.i64.wrap Y = Y := Qe (by omega) (by omega)
  have w3 : IntKind.u64.wrap X = X := Y0 (by omega) (by simp only [Bs]; omega)
  have w4 : IntKind.u64.wrap Y = Y := Y0 (by omega) (by simp only [Bs]; omega)
  have w5 : IntKind.u64.wrap (X + Y) = (n : Int) := by rw [Y0 (by omega) (by simp only [Bs]; omega)]; omega
  have hr := rt_32 (n := n) (by omega)
  have SQ := sqrt_calls n H (by simp only [Bs]; omega) hr
  have w6 : IntKind.i64.wrap ((rt n : Nat) : Int) = (rt n : Nat) := Qe (by omega) (by omega)
  refine Qo Tryz.func138 rfl (by kernel_rfl) (by kernel_rfl) ?_
  repeat' first
    | (with_reducible first | refine Jh (fun K hK => ?_) | refine Jx ?_ | refine Q4 ?_ | refine Qc ?_ | refine Qd ?_ | refine Jg ?_ | refine Jr ?_)
    | ((with_reducible refine Q5 (SQ) ?_); rintro _ _ ⟨rfl, rfl⟩)
    | (with_reducible refine Jt (fun hc => ?_) (fun hc => ?_) <;> (try simp only [RC] at hc) <;> (try (exfalso; first | omega | contradiction)))
    | (with_reducible refine X4 (fun hc => ?_) (fun hc => ?_) <;> (try simp only [RC] at hc) <;> (try (exfalso; first | omega | contradiction)))
    | (simp only [Qb, Jo, reduceIte, J0])
    | ((with_reducible refine hK _ _ ?_); clear hK)
    | (clear hK; (with_reducible refine hK _ _ ?_); clear hK)
    | (clear hK; clear hK; (with_reducible refine hK _ _ ?_); clear hK)
    | (clear hK; clear hK; clear hK; (with_reducible refine hK _ _ ?_); clear hK)
    | (clear hK; clear hK; clear hK; clear hK; (with_reducible refine hK _ _ ?_); clear hK)
    | (clear hK; clear hK; clear hK; clear hK; clear hK; (with_reducible refine hK _ _ ?_); clear hK)
    | (simp only [Q9, RA, Jn, Jm, Jp, Q8, Q6, ev, ofValue, Ju, J0, J3, J2, J4, reduceCtorEq, reduceIte, Jv, Qm, Qk, Q0, aun, Qj, Jk, Ji, Jz, Jy, Jj, Qi, Jf, Q7, Q2, Js, J1, J5, Ja, J9, Jb, J6, J7, Jd, J8, RB, Jw, Je, tf138CiA, f1, f2, f3, f4, ← hX, ← hY, w1, w2, w3, w4, w5, w6])
    | (simp (disch := first | omega | (simp only [RO]; done) | assumption) only [RS])
    | (simp (disch := (first | omega | (simp only [RO]; done) | assumption | (simp only [RM, Je]; done) | (simp only [RL, Je]; omega))) only [RD, reduceCtorEq, reduceIte, Je, J1, J3, J2, J6, tf138CiA, f1, f2, f3, f4, ← hX, ← hY, w1, w2, w3, w4, w5, w6])
  all_goals
    (
     (refine Qg (rs := [.tmp 4, .tmp 5]) rfl ?_)
     (simp only [X5, Qf, Fr.put_some, Fr.put_none, Qp, Qq, Qt, J0, reduceIte])
     (try simp (disch := (first | omega | (simp only [RO]; done) | assumption | (simp only [RM, Je]; done) | (simp only [RL, Je]; omega))) only [RD, reduceCtorEq, reduceIte, Je, J1, J3, J2, J6, tf138CiA]))
end Go.Proofs.YtigddjlhncnnoaaGreatDoor
namespace Go.Proofs.YtigddjlhncnnoaaGreatDoor
open Go.AL Go.PW Go.PD Go.PR
theorem tf78CiC : type_of% (Jc @Zg (Jc @Xw (Jc @Zh (Jc @Xc (Jc @Y9 (@Y8)))))) := Jc @Zg (Jc @Xw (Jc @Zh (Jc @Xc (Jc @Y9 (@Y8)))))
abbrev pn78_10CiC : Plan := (.pur 1 (.one 0 (.one 2 (.one 3 (.one 4 (.one 5 (.one 6 .nil)))))))
set_option maxRecDepth 8000
theorem Ue {x : Int} (h : x.natAbs ≤ 2 ^ 903) : In x := In_small (Nat.le_trans h (by decide +kernel))
theorem tdiv_le (a : Int) {b : Int} (hb : 0 < b) : (a.tdiv b).natAbs ≤ a.natAbs := by
  rw [Int.natAbs_tdiv]; exact Nat.div_le_self _ _
set_option maxHeartbeats 4000000 in
theorem wround9_calls (x y : Int) (H : Hp) (hx : x.natAbs ≤ 2 ^ 900) (hy : 0 < y) (hy2 : y.natAbs ≤ 2 ^ 900) : ACalls Tryz.prog 78 [W x, W y] H fun r H' => r = .tup [W (rnd x y), .bool true] ∧ H = H' := by
  refine ACalls.drop (R := fun r => r = .tup [W (rnd x y), .bool true]) ?_
  have hp : 2 ^ 903 = 8 * 2 ^ 900 := by decide +kernel
  have h1 : 1 ≤ 2 ^ 900 := by decide +kernel
  generalize (2 : Nat) ^ 900 = b9 at *
  have i1 : In x := Ue (by omega)
  have i2 : In y := Ue (by omega)
  have i3 : In (x + x) := Ue (by omega)
  have i4 : In (y + y) := Ue (by omega)
  have i5 : In (x + x + y) := Ue (by omega)
  have hpos : 0 < y + y := by omega
  have hq := tdiv_le (x + x + y) hpos
  have i6 : In ((x + x + y).tdiv (y + y)) := Ue (by omega)
  have hr1 := Int.tmod_lt_of_pos (x + x + y) hpos
  have hr2 := Int.lt_tmod_of_pos (x + x + y) hpos
  have i7 : In ((x + x + y).tmod (y + y)) := Ue (by omega)
  have i8 : In ((x + x + y).tdiv (y + y) - 1) := Ue (by omega)
  have i9 : In 1 := Ue (by have : (1 : Int).natAbs = 1 := rfl; omega)
  have hs : (y.sign ≤ 0) = False := eq_false (by rw [Int.sign_eq_one_of_pos hy]; decide)
  have hn := W6 i7
  have hr : rnd x y = if (x + x + y).tmod (y + y) < 0 then (x + x + y).tdiv (y + y) - 1 else (x + x + y).tdiv (y + y) := by
    unfold rnd; rw [show 2 * x + y = x + x + y by omega, show 2 * y = y + y by omega]; exact ediv_of_t _ hpos
  have SG := fun H0 => sign_calls y H0 i2
  have A1 := fun H0 => add_calls x x H0 i1 i1 i3
  have A2 := fun H0 => add_calls y y H0 i2 i2 i4
  have A3 := fun H0 => add_calls (x + x) y H0 i3 i2 i5
  have DV := fun H0 => div_calls (x + x + y) (y + y) H0 i5 i4 (by omega) i6
  have BL := fun H0 => below_calls ((x + x + y).tmod (y + y)) H0
  have OF := fun H0 => of_calls 1 H0 (by omega)
  have SB := fun H0 => sub_calls ((x + x + y).tdiv (y + y)) 1 H0 i6 i9 i8
  by_cases hc0 : (x + x + y).tmod (y + y) < 0
  · rw [decide_eq_true hc0] at hn
    rw [hr, if_pos hc0]
    refine Qo Tryz.func78 rfl (by kernel_rfl) (by kernel_rfl) ?_
    repeat' first
      | (with_reducible first | refine Jh (fun K hK => ?_) | refine Jx ?_ | refine Q4 ?_ | refine Qc ?_ | refine Qd ?_ | refine Jg ?_ | refine Q1 (id := 10) [] pn78_10CiC (by kernel_rfl) (by kernel_rfl) ?_ | refine Jr ?_ | refine X8 ?_)
      | (with_reducible refine Xd (fun _ x => (SG _)) ?_)
      | (with_reducible refine Xd (fun _ x => (A1 _)) ?_)
      | (with_reducible refine Xd (fun _ x => (A2 _)) ?_)
      | (with_reducible refine Xd (fun _ x => (A3 _)) ?_)
      | (with_reducible refine Xd (fun _ x => (DV _)) ?_)
      | (with_reducible refine Xd (fun _ x => (BL _)) ?_)
      | (with_reducible refine Xd (fun _ x => (OF _)) ?_)
      | (with_reducible refine Xd (fun _ x => (SB _)) ?_)
      | ((with_reducible refine Q5 (SG _) ?_); rintro _ _ ⟨rfl, rfl⟩)
      | ((with_reducible refine Q5 (A1 _) ?_); rintro _ _ ⟨rfl, rfl⟩)
      | ((with_reducible refine Q5 (A2 _) ?_); rintro _ _ ⟨rfl, rfl⟩)
      | ((with_reducible refine Q5 (A3 _) ?_); rintro _ _ ⟨rfl, rfl⟩)
      | ((with_reducible refine Q5 (DV _) ?_); rintro _ _ ⟨rfl, rfl⟩)
      | ((with_reducible refine Q5 (BL _) ?_); rintro _ _ ⟨rfl, rfl⟩)
      | ((with_reducible refine Q5 (OF _) ?_); rintro _ _ ⟨rfl, rfl⟩)
      | ((with_reducible refine Q5 (SB _) ?_); rintro _ _ ⟨rfl, rfl⟩)
      | (with_reducible refine Jt (fun hc => ?_) (fun hc => ?_) <;> (try simp only [RC] at hc) <;> (try (exfalso; first | omega | contradiction)))
      | (with_reducible refine Jc ?_ ?_)
      | (with_reducible refine X4 (fun hc => ?_) (fun hc => ?_) <;> (try simp only [RC] at hc) <;> (try (exfalso; first | omega | contradiction)))
      | (simp only [Qb, Jo, reduceIte, J0])
      | ((with_reducible refine hK _ _ ?_); clear hK)
      | (clear hK; (with_reducible refine hK _ _ ?_); clear hK)
      | (clear hK; clear hK; (with_reducible refine hK _ _ ?_); clear hK)
      | (clear hK; clear hK; clear hK; (with_reducible refine hK _ _ ?_); clear hK)
      | (clear hK; clear hK; clear hK; clear hK; (with_reducible refine hK _ _ ?_); clear hK)
      | (clear hK; clear hK; clear hK; clear hK; clear hK; (with_reducible refine hK _ _ ?_); clear hK)
      | (simp only [Q9, RA, Jn, Jm, Jp, Q8, Q6, ev, ofValue, Ju, J0, J3, J2, J4, reduceCtorEq, reduceIte, Jv, Qm, Qk, Q0, aun, Qj, Jk, Ji, Jz, Jy, Jj, Qi, Jf, Q7, Q2, Js, J1, J5, Ja, J9, Jb, J6, J7, Jd, J8, RB, Jw, Je, tf78CiC, hs, hn])
      | (simp (disch := first | omega | (simp only [RO]; done) | assumption) only [RS, Zz, Zx, Zy, Zw])
      | (simp (disch := (first | omega | (simp only [RO]; done) | assumption | (simp only [RM, Je]; done) | (simp only [RL, Je]; omega))) only [RD, reduceCtorEq, reduceIte, Je, J1, J3, J2, J6, tf78CiC, hs, hn])
    all_goals
      (
       (refine Qg (rs := [.cell 4 73, .tmp 5]) rfl ?_)
       (simp only [X5, Qf, Fr.put_some, Fr.put_none, Qp, Qq, Qt, J0, reduceIte])
       (try simp (disch := (first | omega | (simp only [RO]; done) | assumption | (simp only [RM, Je]; done) | (simp only [RL, Je]; omega))) only [RD, reduceCtorEq, reduceIte, Je, J1, J3, J2, J6, tf78CiC]))
    all_goals exact ⟨by repeat (first | exact Ext.push _ _ | refine Ext.pushed ?_ _), W_tup_lt _ _ (v := .bool true) trivial⟩
  · rw [decide_eq_false hc0] at hn
    rw [hr, if_neg hc0]
    refine Qo Tryz.func78 rfl (by kernel_rfl) (by kernel_rfl) ?_
    repeat' first
      | (with_reducible first | refine Jh (fun K hK => ?_) | refine Jx ?_ | refine Q4 ?_ | refine Qc ?_ | refine Qd ?_ | refine Jg ?_ | refine Q1 (id := 10) [] pn78_10CiC (by kernel_rfl) (by kernel_rfl) ?_ | refine Jr ?_ | refine X8 ?_)
      | (with_reducible refine Xd (fun _ x => (SG _)) ?_)
      | (with_reducible refine Xd (fun _ x => (A1 _)) ?_)
      | (with_reducible refine Xd (fun _ x => (A2 _)) ?_)
      | (with_reducible refine Xd (fun _ x => (A3 _)) ?_)
      | (with_reducible refine Xd (fun _ x => (DV _)) ?_)
      | (with_reducible refine Xd (fun _ x => (BL _)) ?_)
      | (with_reducible refine Xd (fun _ x => (OF _)) ?_)
      | (with_reducible refine Xd (fun _ x => (SB _)) ?_)
      | ((with_reducible refine Q5 (SG _) ?_); rintro _ _ ⟨rfl, rfl⟩)
      | ((with_reducible refine Q5 (A1 _) ?_); rintro _ _ ⟨rfl, rfl⟩)
      | ((with_reducible refine Q5 (A2 _) ?_); rintro _ _ ⟨rfl, rfl⟩)
      | ((with_reducible refine Q5 (A3 _) ?_); rintro _ _ ⟨rfl, rfl⟩)
      | ((with_reducible refine Q5 (DV _) ?_); rintro _ _ ⟨rfl, rfl⟩)
      | ((with_reducible refine Q5 (BL _) ?_); rintro _ _ ⟨rfl, rfl⟩)
      | ((with_reducible refine Q5 (OF _) ?_); rintro _ _ ⟨rfl, rfl⟩)
      | ((with_reducible refine Q5 (SB _) ?_); rintro _ _ ⟨rfl, rfl⟩)
      | (with_reducible refine Jt (fun hc => ?_) (fun hc => ?_) <;> (try simp only [RC] at hc) <;> (try (exfalso; first | omega | contradiction)))
      | (with_reducible refine Jc ?_ ?_)
      | (with_reducible refine X4 (fun hc => ?_) (fun hc => ?_) <;> (try simp only [RC] at hc) <;> (try (exfalso; first | omega | contradiction)))
      | (simp only [Qb, Jo, reduceIte, J0])
      | ((with_reducible refine hK _ _ ?_); clear hK)
      | (clear hK; (with_reducible refine hK _ _ ?_); clear hK)
      | (clear hK; clear hK; (with_reducible refine hK _ _ ?_); clear hK)
      | (clear hK; clear hK; clear hK; (with_reducible refine hK _ _ ?_); clear hK)
      | (clear hK; clear hK; clear hK; clear hK; (with_reducible refine hK _ _ ?_); clear hK)
      | (clear hK; clear hK; clear hK; clear hK; clear hK; (with_reducible refine hK _ _ ?_); clear hK)
      | (simp only [Q9, RA, Jn, Jm, Jp, Q8, Q6, ev, ofValue, Ju, J0, J3, J2, J4, reduceCtorEq, reduceIte, Jv, Qm, Qk, Q0, aun, Qj, Jk, Ji, Jz, Jy, Jj, Qi, Jf, Q7, Q2, Js, J1, J5, Ja, J9, Jb, J6, J7, Jd, J8, RB, Jw, Je, tf78CiC, hs, hn])
      | (simp (disch := first | omega | (simp only [RO]; done) | assumption) only [RS, Zz, Zx, Zy, Zw])
      | (simp (disch := (first | omega | (simp only [RO]; done) | assumption | (simp only [RM, Je]; done) | (simp only [RL, Je]; omega))) only [RD, reduceCtorEq, reduceIte, Je, J1, J3, J2, J6, tf78CiC, hs, hn])
    all_goals
      (
       (refine Qg (rs := [.cell 4 73, .tmp 5]) rfl ?_)
       (simp only [X5, Qf, Fr.put_some, Fr.put_none, Qp, Qq, Qt, J0, reduceIte])
       (try simp (disch := (first | omega | (simp only [RO]; done) | assumption | (simp only [RM, Je]; done) | (simp only [RL, Je]; omega))) only [RD, reduceCtorEq, reduceIte, Je, J1, J3, J2, J6, tf78CiC]))
    all_goals exact ⟨by repeat (first | exact Ext.push _ _ | refine Ext.pushed ?_ _), W_tup_lt _ _ (v := .bool true) trivial⟩
theorem wround_calls (x y : Int) (H : Hp) (hx : x.natAbs ≤ 2 ^ 200) (hy : 0 < y) (hy2 : y.natAbs ≤ 2 ^ 200) : ACalls Tryz.prog 78 [W x, W y] H fun r H' => r = .tup [W (rnd x y), .bool true] ∧ H = H' :=
  wround9_calls x y H (Nat.le_trans hx (by decide +kernel)) hy (Nat.le_trans hy2 (by decide +kernel))
end Go.Proofs.YtigddjlhncnnoaaGreatDoor

/- Part 22 of the proof of laws of this seat: lemmas on the model's code, on this program's functions, on numbers. No condition. -/
import Derived.Test.YtfalfmfkifemeaaGreatDoorZGau
set_option linter.unusedVariables false
set_option linter.unusedSimpArgs false
open Nat renaming reduceEqDiff → J0, reduceLeDiff → J1, reduceMul → J2, reduceAdd → J3, reduceSub → J4, reduceLT → J5
open Int renaming reduceToNat → J6, reducePow → J7, reduceNeg → J8, reduceLT → J9, reduceLE → Ja, reduceEq → Jb
open And renaming intro → Jc
open Go.IntKind renaming bits → Jd
open Go.PW renaming dig_length → Je
namespace Go.Proofs.YtfalfmfkifemeaaGreatDoor
open Go.AL Go.PW Go.PD
set_option maxRecDepth 8000
def Ua : List (Int × AV) → List AV
  | [] => []
  | x :: l => .bool (decide (x.1 < 0)) :: x.2 :: Ua l
theorem W9 : ∀ l : List (Int × AV), (Ua l).length = l.length * 2
  | [] => rfl
  | x :: l => by simp only [Ua, List.length_cons, W9 l]; omega
theorem J1x : ∀ l m : List (Int × AV), Ua (l ++ m) = Ua l ++ Ua m
  | [], m => rfl
  | x :: l, m => by simp only [Ua, List.cons_append, J1x l m]
theorem cellsB_get : ∀ (l : List (Int × AV)) (i : Nat), i < l.length → ((Ua l).drop (i * 2)).take 2 = [.bool (decide ((l.getD i (0, .nilS)).1 < 0)), (l.getD i (0, .nilS)).2]
  | [], i, h => by simp at h
  | x :: l, 0, _ => rfl
  | x :: l, i + 1, h => by
    rw [show (i + 1) * 2 = i * 2 + 1 + 1 by omega]
    simp only [Ua, List.drop_succ_cons, List.getD_cons_succ]
    exact cellsB_get l i (by simpa using h)
theorem cellsB_set : ∀ (l : List (Int × AV)) (i : Nat) (x : Int × AV), i < l.length → (Ua l).take (i * 2) ++ [.bool (decide (x.1 < 0)), x.2] ++ (Ua l).drop (i * 2 + 2) = Ua (l.set i x)
  | [], i, x, h => by simp at h
  | y :: l, 0, x, _ => rfl
  | y :: l, i + 1, x, h => by
    have ih := cellsB_set l i x (by simpa using h)
    rw [show (i + 1) * 2 = i * 2 + 1 + 1 by omega, show i * 2 + 1 + 1 + 2 = (i * 2 + 2) + 1 + 1 by omega]
    simp only [Ua, List.take_succ_cons, List.drop_succ_cons, List.set_cons_succ, List.cons_append]
    rw [← ih]
abbrev Bb (l : List (Int × AV)) : Blk := ⟨Ua l, .own, 46⟩
theorem cellsB_one : ∀ l : List (Int × AV), (∀ x ∈ l, x.2.one = true) → (Ua l).all AV.one = true
  | [], _ => rfl
  | x :: l, h => by
    simp only [Ua, List.all_cons, Bool.and_eq_true]
    exact ⟨rfl, h x (by simp), cellsB_one l fun y hy => h y (by simp [hy])⟩
structure BMat (H : Hp) (p : Nat) (vs : List AV) (pss : List (List (Int × AV))) : Prop where
  len : vs.length = pss.length
  out : Qt H p = some ⟨vs, .own, 49⟩
  row : ∀ i, i < pss.length → vs.getD i .nilS = .sg (vs.getD i .nilS).hd 0 (pss.getD i []).length 2 ∧ Qt H (vs.getD i .nilS).hd = some (Bb (pss.getD i []))
  apart : ∀ i j, i < pss.length → j < pss.length → i ≠ j → (vs.getD i .nilS).hd ≠ (vs.getD j .nilS).hd
  off : ∀ i, i < pss.length → (vs.getD i .nilS).hd ≠ p
  big : ∀ i j, i < pss.length → j < (pss.getD i []).length → Bs_ H ((pss.getD i []).getD j (0, .nilS)).2 ((pss.getD i []).getD j (0, .nilS)).1
section
variable {H : Hp} {p : Nat} {vs : List AV} {pss : List (List (Int × AV))}
theorem BMat.ext {H' : Hp} (M : BMat H p vs pss) (x : Ext H H') : BMat H' p vs pss :=
  ⟨M.len, Qh M.out x, fun i hi => ⟨(M.row i hi).1, Qh (M.row i hi).2 x⟩, M.apart, M.off, fun i j hi hj => (M.big i j hi hj).ext x⟩
theorem BMat.push (M : BMat H p vs pss) (b : Blk) : BMat (H ++ [b]) p vs pss := M.ext (Ext.push _ _)
theorem BMat.other (M : BMat H p vs pss) {h : Nat} {b0 : Blk} (hg : Qt H h = some b0) (hb : b0.ety ≠ 31) (b : Blk) (hp : p ≠ h) (hv : ∀ i, i < pss.length → (vs.getD i .nilS).hd ≠ h) : BMat (H.set h b) p vs pss := by
  have hl := Qr hg
  refine ⟨M.len, ?_, fun i hi => ⟨(M.row i hi).1, ?_⟩, M.apart, M.off, fun i j hi hj => (M.big i j hi hj).other hg hb b⟩
  · rw [Qk hl, if_neg hp]; exact M.out
  · rw [Qk hl, if_neg (hv i hi)]; exact (M.row i hi).2
theorem BMat.at0 (M : BMat H p vs pss) {i : Nat} (hi : i < pss.length) : Yq Tryz.prog H 49 (.ptr p i) = some (vs.getD i .nilS) := by
  rw [Uz, M.out]
  simp only [agg49]
  rw [if_neg (by decide), List.getD_eq_getElem?_getD, List.getElem?_eq_getElem (by have := M.len; omega)]
  rfl
theorem BMat.idx0 {p n : Nat} {k : IntKind} {j : Int} (h0 : 0 ≤ j) (h1 : j < (n : Int)) : X3 Tryz.prog 93 (.sg p 0 n 1) (.int k j) = some (.ptr p j.toNat) := by
  rw [at_sg Gm J0k h0 h1, Nat.zero_add, Nat.mul_one]
theorem BMat.idx (M : BMat H p vs pss) {i : Nat} (hi : i < pss.length) {k : IntKind} {j : Int} (h0 : 0 ≤ j) (h1 : j < ((pss.getD i []).length : Int)) : X3 Tryz.prog 49 (vs.getD i .nilS) (.int k j) = some (.ptr (vs.getD i .nilS).hd (j.toNat * 2)) := by
  rw [(M.row i hi).1, at_sg Kq Kv h0 h1, Nat.zero_add]
  rfl
theorem BMat.rlen (M : BMat H p vs pss) {i : Nat} (hi : i < pss.length) : Qy Tryz.prog .len #[49] [vs.getD i .nilS] = some (.int .i64 (pss.getD i []).length) := by
  rw [(M.row i hi).1, lenG49]
theorem BMat.get (M : BMat H p vs pss) {i j : Nat} (hi : i < pss.length) (hj : j < (pss.getD i []).length) : Yq Tryz.prog H 46 (.ptr (vs.getD i .nilS).hd (j * 2)) = some (BV ((pss.getD i []).getD j (0, .nilS)).1 ((pss.getD i []).getD j (0, .nilS)).2) := by
  rw [Uz, (M.row i hi).2]
  simp only [agg46, Kv]
  have hc := W9 (pss.getD i [])
  rw [if_neg (by decide), if_pos (by omega), cellsB_get _ _ hj]
theorem BMat.put (M : BMat H p vs pss) {i j : Nat} {x : Int} {s : AV} (hi : i < pss.length) (hj : j < (pss.getD i []).length) (hs : s.one = true) : Ke Tryz.prog H 46 (.ptr (vs.getD i .nilS).hd (j * 2)) (BV x s) = some (H.set (vs.getD i .nilS).hd (Bb ((pss.getD i []).set j (x, s)))) := by
  rw [Uc, (M.row i hi).2]
  simp only [Kv]
  have hc := W9 (pss.getD i [])
  rw [if_pos ⟨trivial, by rw [G9]; simp [hs, AV.one_bool], by rfl, by omega⟩]
  congr 3
  simp only [Jr, AV.cells_agg, List.length_cons, List.length_nil]
  rw [← cellsB_set _ _ (x, s) hj]
theorem BMat.set (M : BMat H p vs pss) {i j : Nat} {x : Int} {s : AV} (hi : i < pss.length) (hj : j < (pss.getD i []).length) (hs : Bs_ H s x) : BMat (H.set (vs.getD i .nilS).hd (Bb ((pss.getD i []).set j (x, s)))) p vs (pss.set i ((pss.getD i []).set j (x, s))) := by
  have hlt := Qr (M.row i hi).2
  have hg : ∀ k, (pss.set i ((pss.getD i []).set j (x, s))).getD k [] = if k = i then (pss.getD i []).set j (x, s) else pss.getD k [] := by
    intro k
    rw [List.getD_eq_getElem?_getD, List.getElem?_set, List.getD_eq_getElem?_getD]
    by_cases e : i = k
    · subst e; simp [hi]
    · rw [if_neg e, if_neg (fun h => e h.symm), List.getD_eq_getElem?_getD]
  have hety : (Bb (pss.getD i [])).ety ≠ 31 := show (46 : Nat) ≠ 31 by decide
  refine ⟨by rw [List.length_set]; exact M.len, ?_, fun k hk => ?_, fun a b ha hb => M.apart a b (by rwa [List.length_set] at ha) (by rwa [List.length_set] at hb), fun a ha => M.off a (by rwa [List.length_set] at ha), fun a b ha hb => ?_⟩
  · rw [Qk hlt, if_neg (fun e => M.off i hi e.symm)]; exact M.out
  · rw [List.length_set] at hk
    rw [hg]
    by_cases e : k = i
    · subst e
      rw [if_pos rfl, Qk hlt, if_pos rfl, List.length_set]
      exact ⟨(M.row k hk).1, rfl⟩
    · rw [if_neg e, Qk hlt, if_neg (M.apart k i hk hi e)]
      exact M.row k hk
  · rw [List.length_set] at ha
    rw [hg] at hb ⊢
    by_cases e : a = i
    · subst e
      rw [if_pos rfl] at hb ⊢
      rw [List.length_set] at hb
      rw [Yj _ _ _ _ _ hj]
      by_cases e2 : b = j
      · rw [if_pos e2]; exact hs.other (M.row a ha).2 hety _
      · rw [if_neg e2]; exact (M.big a b ha hb).other (M.row a ha).2 hety _
    · rw [if_neg e] at hb ⊢
      exact (M.big a b ha hb).other (M.row i hi).2 hety _
end
end Go.Proofs.YtfalfmfkifemeaaGreatDoor
namespace Go.Proofs.YtfalfmfkifemeaaGreatDoor
open Go.AL Go.PW Go.PD
set_option maxRecDepth 8000
abbrev BB (x : Int) (s : AV) : Blk := ⟨[.bool (decide (x < 0)), s], .own, 46⟩
theorem app_move {P : Program} {H : Hp} {h n m z by_ : Nat} {x zv : AV} {cs ds : List AV} {t e : TypeId} (hg : Qt H h = some ⟨cs, .own, e⟩) (hl : cs.length = n * z) (hx : Rd H z x ds m) (hu : P.underlying t = some (.slice e)) (hz : Xg P e = some z) (hzv : Z5 P e = some zv) (hzl : zv.cells.length = z) (hz0 : 0 < z) (hb : Xn P e = some by_)
    (hc : cs.all AV.one = true) (ho : ds.all AV.one = true) (hby : (n + m) * by_ ≤ 140737488355328) (hm : n + m ≤ 140737488355328) (hmp : 0 < m) :
    Y2 P H t (.sg h 0 n z) x = some (.sg H.length 0 (n + m) z, H.set h ⟨[], .dead, e⟩ ++ [⟨cs ++ ds, .own, e⟩]) := by
  have h1 : m ≠ 0 := by omega
  have hmz : 0 < m * z := Nat.mul_pos hmp hz0
  have h2 : ¬ n * z + m * z ≤ cs.length := by omega
  have h3 : cs.take (n * z) = cs := List.take_of_length_le (by omega)
  have h4 : n * z ≤ cs.length := by omega
  simp [Y2, hu, hz, hzv, hb, hzl, hz0, hx.row, ho, h1, hby, hm, hg, h2, h3, h4, hc]
def Grew (lo : Nat) (H H' : Hp) : Prop := Ext H H' ∨ ∃ h l b, lo ≤ h ∧ Qt H h = some (Bb l) ∧ Ext (H.set h b) H'
theorem Na (l : List (Int × AV)) : (Bb l).ety ≠ 31 := show (46 : Nat) ≠ 31 by decide
theorem Uy (x : Int) (s : AV) : (BB x s).ety ≠ 31 := show (46 : Nat) ≠ 31 by decide
theorem Grew.len {lo : Nat} {H H' : Hp} (g : Grew lo H H') : H.length ≤ H'.length := by
  rcases g with g | ⟨h, l, b, _, _, g⟩
  · exact g.len
  · have := g.len; rwa [List.length_set] at this
theorem Grew.get {lo : Nat} {H H' : Hp} (g : Grew lo H H') {k : Nat} (h1 : k < lo) (h2 : k < H.length) : Qt H' k = Qt H k := by
  rcases g with ⟨E, rfl⟩ | ⟨h, l, b, h3, h4, ⟨E, rfl⟩⟩
  · unfold Qt; rw [List.getElem?_append_left h2]
  · have : Qt (H.set h b) k = Qt H k := by rw [Qk (Qr h4), if_neg (by omega)]
    rw [← this]; unfold Qt; rw [List.getElem?_append_left (by rw [List.length_set]; exact h2)]
theorem Bs_.grew {lo : Nat} {H H' : Hp} {s : AV} {x : Int} (u : Bs_ H s x) (g : Grew lo H H') : Bs_ H' s x := by
  rcases g with g | ⟨h, l, b, _, h4, g⟩
  · exact u.ext g
  · exact (u.other h4 (Na l) b).ext g
theorem BMat.grew {lo : Nat} {H H' : Hp} {p : Nat} {vs : List AV} {pss : List (List (Int × AV))} (M : BMat H p vs pss) (g : Grew lo H H') (hp : p < lo) (hv : ∀ i, i < pss.length → (vs.getD i .nilS).hd < lo) : BMat H' p vs pss := by
  rcases g with g | ⟨h, l, b, h3, h4, g⟩
  · exact M.ext g
  · exact (M.other h4 (Na l) b (by omega) (fun i hi => by have := hv i hi; omega)).ext g
theorem Ext.grew {lo : Nat} {H0 H H' : Hp} (x : Ext H0 H) (g : Grew lo H H') (hlo : H0.length ≤ lo) : Ext H0 H' := by
  rcases g with g | ⟨h, l, b, h3, h4, g⟩
  · exact x.trans g
  · exact (x.set (by omega) b).trans g
theorem Off.grew {S : Nat → Prop} {lo : Nat} {H0 H H' : Hp} (o : Off S H0 H) (g : Grew lo H H') (hlo : H0.length ≤ lo) : Off S H0 H' := by
  rcases g with g | ⟨h, l, b, h3, h4, g⟩
  · exact o.ext g
  · exact (o.set (Qr h4) b (.inr (by omega))).ext g
structure BsV (H : Hp) (v : AV) (l : List (Int × AV)) (lo : Nat) : Prop where
  at_ : (l = [] ∧ v = .nilS) ∨ ∃ h, v = .sg h 0 l.length 2 ∧ Qt H h = some (Bb l) ∧ lo ≤ h
  big : ∀ x ∈ l, Bs_ H x.2 x.1
theorem BsV.nil (H : Hp) (lo : Nat) : BsV H .nilS [] lo := ⟨.inl ⟨rfl, rfl⟩, fun x h => by cases h⟩
theorem BsV.one {H : Hp} {v : AV} {l : List (Int × AV)} {lo : Nat} (B : BsV H v l lo) : v.one = true := by
  rcases B.at_ with ⟨_, rfl⟩ | ⟨_, rfl, _⟩ <;> rfl
theorem BsV.lt {H : Hp} {v : AV} {l : List (Int × AV)} {lo : Nat} (B : BsV H v l lo) : v.lt H.length := by
  rcases B.at_ with ⟨_, rfl⟩ | ⟨k, rfl, h2, _⟩
  · trivial
  · simpa [AV.lt] using Qr h2
theorem BsV.ext {H H' : Hp} {v : AV} {l : List (Int × AV)} {lo : Nat} (B : BsV H v l lo) (x : Ext H H') : BsV H' v l lo := by
  refine ⟨?_, fun y hy => (B.big y hy).ext x⟩
  rcases B.at_ with h | ⟨k, h1, h2, h3⟩
  · exact .inl h
  · exact .inr ⟨k, h1, Qh h2 x, h3⟩
theorem BsV.push {H : Hp} {v : AV} {l : List (Int × AV)} {lo : Nat} (B : BsV H v l lo) (b : Blk) : BsV (H ++ [b]) v l lo := B.ext (Ext.push _ _)
theorem BsV.other {H : Hp} {v : AV} {l : List (Int × AV)} {lo : Nat} (B : BsV H v l lo) {h : Nat} {b0 : Blk} (hg : Qt H h = some b0) (hb : b0.ety ≠ 31) (b : Blk) (hv : v = .nilS ∨ v.hd ≠ h) : BsV (H.set h b) v l lo := by
  refine ⟨?_, fun y hy => (B.big y hy).other hg hb b⟩
  rcases B.at_ with h | ⟨k, h1, h2, h3⟩
  · exact .inl h
  · refine .inr ⟨k, h1, ?_, h3⟩
    subst h1
    rw [Qk (Qr hg), if_neg]
    · exact h2
    · rcases hv with e | e
      · cases e
      · exact e
theorem BsV.grew {H H' : Hp} {v : AV} {l : List (Int × AV)} {lo mid : Nat} (B : BsV H v l lo) (g : Grew mid H H') (hv : v = .nilS ∨ v.hd < mid) : BsV H' v l lo := by
  rcases g with g | ⟨h, l', b, h3, h4, g⟩
  · exact B.ext g
  · exact (B.other h4 (Na l') b (hv.imp id fun e => by omega)).ext g
theorem BsV.below {H : Hp} {v : AV} {l : List (Int × AV)} {lo : Nat} (B : BsV H v l lo) : v = .nilS ∨ v.hd < H.length := by
  rcases B.at_ with ⟨_, e⟩ | ⟨k, e, h2, _⟩
  · exact .inl e
  · right; rw [e]; exact Qr h2
theorem BsV.append {H : Hp} {v : AV} {l : List (Int × AV)} {lo : Nat} (B : BsV H v l lo) (hlo : lo ≤ H.length) (hl : l.length < 1000000) {x : Int} {s : AV} (hs : Bs_ H s x) :
    ∃ v' H', Y2 Tryz.prog (H ++ [⟨[.bool (decide (x < 0)), s], .own, 46⟩]) 49 v (.sl H.length 0 1 1) = some (v', H') ∧ BsV H' v' (l ++ [(x, s)]) lo ∧ Grew lo H H' ∧ ∃ h, v' = .sg h 0 (l.length + 1) 2 := by
  have hx := Rd.lit H (n := 1) (z := 2) (cs := [.bool (decide (x < 0)), s]) (k := .own) (e := 46) (by decide) rfl
  have ho : [AV.bool (decide (x < 0)), s].all AV.one = true := by simp [AV.one_bool, hs.one]
  rcases B.at_ with ⟨rfl, rfl⟩ | ⟨k, rfl, hg, hk⟩
  · refine ⟨_, _, append_nil hx Kq Kv zero46 rfl (by decide) bytes46 ho (by decide) (by decide) (by decide), ⟨.inr ⟨_, rfl, Qo rfl, by simp; omega⟩, fun y hy => ?_⟩, .inl ((Ext.push _ _).pushed _), _, rfl⟩
    rw [List.nil_append, List.mem_singleton] at hy
    subst hy; exact (hs.push _).push _
  · have hcl := W9 l
    have hc := cellsB_one l fun y hy => (B.big y hy).one
    have hg' : Qt (H ++ [⟨[.bool (decide (x < 0)), s], .own, 46⟩]) k = some (Bb l) := by rw [Qp (Qr hg)]; exact hg
    have ha := app_move (P := Tryz.prog) hg' hcl hx Kq Kv zero46 rfl (by decide) bytes46 hc ho (by omega) (by omega) (by decide)
    have hcs : Ua l ++ [.bool (decide (x < 0)), s] = Ua (l ++ [(x, s)]) := (J1x l [(x, s)]).symm
    rw [hcs] at ha
    have hl1 : (l ++ [(x, s)]).length = l.length + 1 := by simp
    refine ⟨_, _, ha, ⟨.inr ⟨_, by rw [hl1], Qo (by rw [List.length_set]), by simp; omega⟩, fun y hy => ?_⟩, .inr ⟨k, l, ⟨[], .dead, 46⟩, hk, hg, ?_⟩, _, rfl⟩
    · rcases List.mem_append.1 hy with h | h
      · exact (((B.big y h).push _).other hg' (Na l) _).push _
      · rw [List.mem_singleton.1 h]; exact ((hs.push _).other hg' (Na l) _).push _
    · rw [G3 (Qr hg)]
      exact (Ext.push _ _).pushed _
theorem J1o {l : List (Int × AV)} {i : Nat} (h : i < l.length) : l.getD i (0, .nilS) ∈ l := by
  rw [List.getD_eq_getElem?_getD, List.getElem?_eq_getElem h, Option.getD_some]; exact List.getElem_mem h
inductive BRows (H : Hp) (v : AV) (vs : List AV) (pss : List (List (Int × AV))) (lo : Nat) : Prop
  | no : v = .nilS → vs = [] → pss = [] → BRows H v vs pss lo
  | yes (p : Nat) : v = .sg p 0 pss.length 1 → BMat H p vs pss → lo ≤ p → (∀ i, i < pss.length → lo ≤ (vs.getD i .nilS).hd) → 0 < pss.length → BRows H v vs pss lo
theorem BRows.one {H : Hp} {v : AV} {vs : List AV} {pss : List (List (Int × AV))} {lo : Nat} (B : BRows H v vs pss lo) : v.one = true := by
  cases B with
  | no h => rw [h]; rfl
  | yes p h => rw [h]; rfl
theorem BRows.lt {H : Hp} {v : AV} {vs : List AV} {pss : List (List (Int × AV))} {lo : Nat} (B : BRows H v vs pss lo) : v.lt H.length := by
  cases B with
  | no h => rw [h]; trivial
  | yes p h M => rw [h]; simpa [AV.lt] using Qr M.out
theorem BRows.ext {H H' : Hp} {v : AV} {vs : List AV} {pss : List (List (Int × AV))} {lo : Nat} (B : BRows H v vs pss lo) (x : Ext H H') : BRows H' v vs pss lo := by
  cases B with
  | no h1 h2 h3 => exact .no h1 h2 h3
  | yes p h M h1 h2 h3 => exact .yes p h (M.ext x) h1 h2 h3
theorem BRows.grew {H H' : Hp} {v : AV} {vs : List AV} {pss : List (List (Int × AV))} {lo mid : Nat} (B : BRows H v vs pss lo) (g : Grew mid H H') (hv : v = .nilS ∨ (v.hd < mid ∧ ∀ i, i < pss.length → (vs.getD i .nilS).hd < mid)) : BRows H' v vs pss lo := by
  cases B with
  | no h1 h2 h3 => exact .no h1 h2 h3
  | yes p h M h1 h2 h3 =>
    subst h
    rcases hv with e | ⟨e1, e2⟩
    · cases e
    · exact .yes p rfl (M.grew g e1 e2) h1 h2 h3
theorem BRows.below {H : Hp} {v : AV} {vs : List AV} {pss : List (List (Int × AV))} {lo : Nat} (B : BRows H v vs pss lo) : v = .nilS ∨ (v.hd < H.length ∧ ∀ i, i < pss.length → (vs.getD i .nilS).hd < H.length) := by
  cases B with
  | no h1 h2 h3 => exact .inl h1
  | yes p h M h1 h2 h3 => subst h; exact .inr ⟨Qr M.out, fun i hi => Qr (M.row i hi).2⟩
theorem Nt {α : Type} (l : List α) (x d : α) (i : Nat) : (l ++ [x]).getD i d = if i = l.length then x else l.getD i d := by
  rw [List.getD_eq_getElem?_getD, List.getD_eq_getElem?_getD]
  by_cases h : i < l.length
  · rw [if_neg (by omega), List.getElem?_append_left h]
  · rw [List.getElem?_append_right (by omega)]
    by_cases e : i = l.length
    · subst e; simp
    · rw [if_neg e, List.getElem?_eq_none (l := l) (by omega), List.getElem?_eq_none (by simp; omega)]
theorem BRows.append {H : Hp} {v w : AV} {vs : List AV} {pss : List (List (Int × AV))} {l : List (Int × AV)} {lo mid : Nat} (B : BRows H v vs pss lo) (hlo : lo ≤ H.length) (hl : pss.length < 1000000) (W : BsV H w l mid) (hw : w = .sg w.hd 0 l.length 2) (hmid : lo ≤ mid) (hv : v = .nilS ∨ (v.hd < mid ∧ ∀ i, i < pss.length → (vs.getD i .nilS).hd < mid)) :
    ∃ v' H', Y2 Tryz.prog (H ++ [⟨[w], .own, 49⟩]) 93 v (.sl H.length 0 1 1) = some (v', H') ∧ BRows H' v' (vs ++ [w]) (pss ++ [l]) lo ∧ (∀ H0, Ext H0 H → H0.length ≤ lo → Ext H0 H') := by
  have hx := Rd.lit H (n := 1) (z := 1) (cs := [w]) (k := .own) (e := 49) (by decide) rfl
  have ho : [w].all AV.one = true := by simp [W.one]
  obtain ⟨hh, hgw, hhm⟩ : ∃ hh, Qt H w.hd = some (Bb l) ∧ mid ≤ w.hd := by
    rcases W.at_ with ⟨_, h⟩ | ⟨k, h, h2, h3⟩
    · rw [h] at hw; cases hw
    · rw [h]; exact ⟨w.hd, h2, h3⟩
  have hwlt := Qr hgw
  cases B with
  | no h1 h2 h3 =>
    subst h1 h2 h3
    refine ⟨_, _, append_nil hx Gm J0k zero49 rfl (by decide) bytes49 ho (by decide) (by decide) (by decide), .yes _ rfl ⟨rfl, Qo rfl, fun i hi => ?_, fun i j hi hj => ?_, fun i hi => ?_, fun i j hi hj => ?_⟩ (by simp; omega) (fun i hi => ?_) (by simp), fun H0 x0 _ => (x0.pushed _).pushed _⟩
    · obtain rfl : i = 0 := by simp at hi; omega
      refine ⟨hw, ?_⟩
      show Qt _ w.hd = some (Bb l)
      rw [Qp (by simp; omega), Qp hwlt]; exact hgw
    · intro e; simp at hi hj; omega
    · obtain rfl : i = 0 := by simp at hi; omega
      show w.hd ≠ _
      simp; omega
    · obtain rfl : i = 0 := by simp at hi; omega
      exact ((W.big _ (J1o hj)).push _).push _
    · obtain rfl : i = 0 := by simp at hi; omega
      show lo ≤ w.hd
      omega
  | yes p h M h1 h2 h3 =>
    subst h
    have hml := M.len
    have hp := Qr M.out
    have hvp : p < mid ∧ ∀ i, i < pss.length → (vs.getD i .nilS).hd < mid := by
      rcases hv with e | e
      · cases e
      · exact e
    have hc : vs.all AV.one = true := by
      rw [List.all_eq_true]
      intro y hy
      obtain ⟨i, hi, rfl⟩ := List.getElem_of_mem hy
      have := (M.row i (by omega)).1
      rw [List.getD_eq_getElem?_getD, List.getElem?_eq_getElem hi, Option.getD_some] at this
      rw [this]; rfl
    have hg' : Qt (H ++ [⟨[w], .own, 49⟩]) p = some ⟨vs, .own, 49⟩ := by rw [Qp hp]; exact M.out
    have ha := app_move (P := Tryz.prog) (n := pss.length) hg' (by omega) hx Gm J0k zero49 rfl (by decide) bytes49 hc ho (by omega) (by omega) (by decide)
    have hety : (⟨vs, .own, 49⟩ : Blk).ety ≠ 31 := show (49 : Nat) ≠ 31 by decide
    have gv : ∀ i, (vs ++ [w]).getD i .nilS = if i = pss.length then w else vs.getD i .nilS := fun i => by rw [Nt, hml]
    have gp : ∀ i, (pss ++ [l]).getD i [] = if i = pss.length then l else pss.getD i [] := fun i => Nt _ _ _ _
    have hl' : (pss ++ [l]).length = pss.length + 1 := by simp
    obtain ⟨Bw, hBw⟩ : ∃ B : Blk, B = ⟨[w], .own, 49⟩ := ⟨_, rfl⟩
    obtain ⟨Bd, hBd⟩ : ∃ B : Blk, B = ⟨[], .dead, 49⟩ := ⟨_, rfl⟩
    rw [← hBw, ← hBd] at ha
    rw [← hBw]
    have hS : (H ++ [Bw]).set p Bd = H.set p Bd ++ [Bw] := G3 hp _ _
    have gk : ∀ k, k < H.length → k ≠ p → ∀ b, Qt H k = some b → Qt ((H ++ [Bw]).set p Bd ++ [(⟨vs ++ [w], .own, 49⟩ : Blk)]) k = some b := by
      intro k hk hkp b hb
      rw [hS, Qp (by simp; omega), Qp (by simp; omega), Qk hp, if_neg hkp]; exact hb
    refine ⟨_, _, ha, .yes _ (by rw [hl']) ⟨by simp; omega, Qo (by simp), fun i hi => ?_, fun i j hi hj hij => ?_, fun i hi => ?_, fun i j hi hj => ?_⟩ (by simp; omega) (fun i hi => ?_) (by omega), fun H0 x0 hx0 => ?_⟩
    · rw [gv, gp]
      by_cases e : i = pss.length
      · rw [if_pos e, if_pos e]; exact ⟨hw, gk _ hwlt (by omega) _ hgw⟩
      · rw [if_neg e, if_neg e]
        have hi' : i < pss.length := by omega
        exact ⟨(M.row i hi').1, gk _ (Qr (M.row i hi').2) (M.off i hi') _ (M.row i hi').2⟩
    · rw [gv, gv]
      by_cases e : i = pss.length
      · rw [if_pos e, if_neg (by omega)]
        have := hvp.2 j (by omega)
        omega
      · rw [if_neg e]
        have := hvp.2 i (by omega)
        by_cases e2 : j = pss.length
        · rw [if_pos e2]; omega
        · rw [if_neg e2]; exact M.apart i j (by omega) (by omega) hij
    · rw [gv]
      have : (H ++ [Bw]).length = H.length + 1 := by simp
      rw [this]
      split
      · omega
      · have := hvp.2 i (by omega)
        have := Qr (M.row i (by omega)).2
        omega
    · rw [gp] at hj ⊢
      rw [hS]
      by_cases e : i = pss.length
      · rw [if_pos e] at hj ⊢
        exact (((W.big _ (J1o hj)).other M.out hety _).push _).push _
      · rw [if_neg e] at hj ⊢
        exact (((M.big i j (by omega) hj).other M.out hety _).push _).push _
    · rw [gv]
      split
      · omega
      · exact h2 i (by omega)
    · rw [hS]
      exact (((x0.set (by omega) _).pushed _).pushed _)
end Go.Proofs.YtfalfmfkifemeaaGreatDoor

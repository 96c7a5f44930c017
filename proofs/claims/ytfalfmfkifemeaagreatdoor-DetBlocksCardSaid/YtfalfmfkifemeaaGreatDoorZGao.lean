/- Part 15 of the proof of laws of this seat: lemmas on the model's code, on this program's functions, on numbers. No condition. -/
import Derived.Test.YtfalfmfkifemeaaGreatDoorZGan
set_option linter.unusedVariables false
set_option linter.unusedSimpArgs false
open Nat renaming reduceEqDiff → J0, reduceLeDiff → J1, reduceMul → J2, reduceAdd → J3, reduceSub → J4, reduceLT → J5
open Int renaming reduceToNat → J6, reducePow → J7, reduceNeg → J8, reduceLT → J9, reduceLE → Ja, reduceEq → Jb
open And renaming intro → Jc
open Go.IntKind renaming bits → Jd
open Go.PW renaming dig_length → Je
namespace Go.Proofs.YtfalfmfkifemeaaGreatDoor
open Go.AL Go.PW
theorem J05 : type_of% (Jc @Z8 (Jc @Xd (Jc @Xz (Jc @Xx (Jc @Xw (Jc @Xv (Jc @tyb58 (@Rr)))))))) := Jc @Z8 (Jc @Xd (Jc @Xz (Jc @Xx (Jc @Xw (Jc @Xv (Jc @tyb58 (@Rr)))))))
theorem tf73SyB : type_of% (Jc @Z8 (Jc @Xd (Jc @Xx (Jc @Xw (Jc @Xv (Jc @Yd (Jc @Yc (@tyb58)))))))) := Jc @Z8 (Jc @Xd (Jc @Xx (Jc @Xw (Jc @Xv (Jc @Yd (Jc @Yc (@tyb58)))))))
theorem tf75SyB : type_of% (Jc @X1 (Jc @Z3 (@Z2))) := Jc @X1 (Jc @Z3 (@Z2))
abbrev pn73_4SyB : Plan := (.one 0 (.one 2 (.one 3 (.one 4 (.one 5 (.pur 6 (.one 1 (.one 7 (.one 8 (.one 9 (.one 10 .nil)))))))))))
set_option maxRecDepth 8000
theorem in_calls (n : Int) (xs ls : List Int) (a l : AV) (H : Hp) (ha : Ints H .i64 a xs) (hl : Ints H .i64 l ls) (hlx : xs.length < 1000000) (hll : ls.length < 1000000) (hr : Right n xs) (hin : ∀ x ∈ ls, 0 ≤ x ∧ x < n) : ACalls Tryz.prog 92 [Ya n a, l] H fun r H' => r = .nilI ∧ H = H' := by
  refine ACalls.drop (R := fun r => r = .nilI) ?_
  have ha1 : a.one = true := ha.rd.one
  have hc : a.cells = [a] := AV.cells_one ha1
  have hd : decide (Right n xs) = true := decide_eq_true hr
  refine Q7 Tryz.func92 rfl (by kernel_rfl) (by kernel_rfl) ?_
  repeat' first
    | (with_reducible first | refine Jj (fun K hK => ?_) | refine Qc ?_ | refine Q6 ?_ | refine Jg ?_ | refine Jz ?_)
    | ((with_reducible refine Jq (right_calls _ _ _ _ (ha.push _) hlx) ?_); rintro _ _ ⟨rfl, rfl⟩)
    | (simp only [Q4, Jo, reduceIte, J0])
    | ((with_reducible refine hK _ _ ?_); clear hK)
    | (simp only [Q3, RA, Jn, Jm, Jp, Q2, Q0, ev, ofValue, Jt, J0, J3, J2, J4, reduceCtorEq, reduceIte, Ju, Qb, Qa, Jy, aun, Q9, Jk, Jh, Jx, Jw, Ji, Q8, Jf, Q1, Jr, Js, J1, J5, Ja, J9, Jb, J6, J7, Jd, J8, RB, Jv, Je, J05, hd])
    | (simp (disch := first | omega | (simp only [RO]; done) | assumption) only [RS, hl.rd.len Nf, X8, X9, six58, gix58, Qu, Qv, Qq])
    | (simp (disch := (first | omega | (simp only [RO]; done) | assumption | (simp only [RM, Je]; done) | (simp only [RL, Je]; omega))) only [RD, reduceCtorEq, reduceIte, Je, J1, J3, J2, J6, J05, hd])
  refine X2 (fun m fr' H' => ∃ i : Nat, m = ls.length - i ∧ i ≤ ls.length ∧ fr' 2 = .ptr H.length 0 ∧ fr' 11 = l ∧ fr' 12 = .int .i64 (ls.length : Int) ∧ fr' 13 = .int .i64 (i : Int) ∧ H ++ [⟨[.int .i64 n, a], .own, 24⟩] = H') (m := ls.length) ⟨0, by omega, by omega, rfl, rfl, rfl, rfl, rfl⟩ ?_
  rintro m fr' H' ⟨i, rfl, hi, k2, k11, k12, k13, rfl⟩
  by_cases hlt : i < ls.length
  · have e1 : IntKind.i64.wrap ((i : Int) + 1) = ((i + 1 : Nat) : Int) := by rw [Q5 (by omega) (by omega)]; omega
    have hx := hin _ (Wy hlt)
    repeat' first
      | (with_reducible first | refine Jj (fun K hK => ?_) | refine Qc ?_ | refine Q6 ?_ | refine Jg ?_ | refine Jz ?_)
      | (with_reducible refine Qn (fun hc => ?_) (fun hc => ?_) <;> (try simp only [RC] at hc) <;> (try (exfalso; first | omega | contradiction)))
      | (with_reducible refine X5 (fun hc => ?_) (fun hc => ?_) <;> (try simp only [RC] at hc) <;> (try (exfalso; first | omega | contradiction)))
      | (simp only [Q4, Jo, reduceIte, J0])
      | ((with_reducible refine hK _ _ ?_); clear hK)
      | (simp only [Q3, RA, Jn, Jm, Jp, Q2, Q0, ev, ofValue, Jt, J0, J3, J2, J4, reduceCtorEq, reduceIte, Ju, Qb, Qa, Jy, aun, Q9, Jk, Jh, Jx, Jw, Ji, Q8, Jf, Q1, Jr, Js, J1, J5, Ja, J9, Jb, J6, J7, Jd, J8, RB, Jv, Je, J05, k2, k11, k12, k13, e1])
      | (simp (disch := first | omega | (simp only [RO]; done) | assumption) only [RS, hl.rd.at1 Nf Rw, (hl.push _).load1 agg3, X8, X9, six58, gix58, Qu, Qv, Qq])
      | (simp (disch := (first | omega | (simp only [RO]; done) | assumption | (simp only [RM, Je]; done) | (simp only [RL, Je]; omega))) only [RD, reduceCtorEq, reduceIte, Je, J1, J3, J2, J6, J05, k2, k11, k12, k13, e1])
    all_goals exact ⟨_, by omega, i + 1, rfl, by omega, rfl⟩
  · skip
    repeat' first
      | (with_reducible first | refine Jj (fun K hK => ?_) | refine Qz ?_ | refine Qj ?_ | refine Jg ?_ | refine Jz ?_)
      | (with_reducible refine X5 (fun hc => ?_) (fun hc => ?_) <;> (try simp only [RC] at hc) <;> (try (exfalso; first | omega | contradiction)))
      | (simp only [Q4, Jo, reduceIte, J0])
      | ((with_reducible refine hK _ _ ?_); clear hK)
      | (clear hK; (with_reducible refine hK _ _ ?_); clear hK)
      | (simp only [Q3, RA, Jn, Jm, Jp, Q2, Q0, ev, ofValue, Jt, J0, J3, J2, J4, reduceCtorEq, reduceIte, Ju, Qb, Qa, Jy, aun, Q9, Jk, Jh, Jx, Jw, Ji, Q8, Jf, Q1, Jr, Js, J1, J5, Ja, J9, Jb, J6, J7, Jd, J8, RB, Jv, Je, J05, k2, k11, k12, k13])
    (
     (refine Qg (rs := [.tmp 4]) rfl ?_)
     (simp only [Qx, Qd, Fr.put_some, Fr.put_none, Qe, Qf, Qi, J0, reduceIte])
     (try simp (disch := (first | omega | (simp only [RO]; done) | assumption | (simp only [RM, Je]; done) | (simp only [RL, Je]; omega))) only [RD, reduceCtorEq, reduceIte, Je, J1, J3, J2, J6, J05]))
    exact ⟨Ext.push _ _, trivial⟩
theorem At_calls (n : Nat) (xs : List Int) (a : AV) (i j : Nat) (H : Hp) (ha : Ints H .i64 a xs) (hr : Right n xs) (hi : i < n) (hj : j < n) : ACalls Tryz.prog 73 [Ya n a, .int .i64 (i : Int), .int .i64 (j : Int)] H fun r H' => r = .tup [.int .i64 (ent n xs i j), .nilI] ∧ H = H' := by
  refine ACalls.drop (R := fun r => r = .tup [.int .i64 (ent n xs i j), .nilI]) ?_
  have ha1 : a.one = true := ha.rd.one
  have hc : a.cells = [a] := AV.cells_one ha1
  obtain ⟨h8, hp⟩ := hr.pl hi hj
  have hlx : xs.length < 1000000 := by
    obtain ⟨k, hk, h8, hl⟩ := hr.nat
    obtain rfl : n = k := by omega
    have : n * (n + 1) ≤ 8 * 9 := Nat.mul_le_mul h8 (by omega)
    omega
  have hl2 : Ints (H ++ [⟨[.int .i64 (n : Int), a], .own, 24⟩] ++ [⟨[.int .i64 (i : Int), .int .i64 (j : Int)], .own, 3⟩]) .i64 (.sl (H.length + 1) 0 2 2) [(i : Int), (j : Int)] := by
    have := Ints.lit (H ++ [⟨[.int .i64 (n : Int), a], .own, 24⟩]) (k := .i64) (xs := [(i : Int), (j : Int)]) (n := 2) (kd := .own) (e := 3) (by decide) rfl
    rwa [Qm] at this
  have hin : ∀ x ∈ [(i : Int), (j : Int)], 0 ≤ x ∧ x < n := by
    intro x hx
    simp only [List.mem_cons, List.not_mem_nil, or_false] at hx
    rcases hx with rfl | rfl <;> omega
  have hll : [(i : Int), (j : Int)].length < 1000000 := by simp
  refine Q7 Tryz.func73 rfl (by kernel_rfl) (by kernel_rfl) ?_
  repeat' first
    | (with_reducible first | refine Jj (fun K hK => ?_) | refine Q6 ?_ | refine Qj ?_ | refine Jg ?_ | refine Qw (id := 4) [] pn73_4SyB (by kernel_rfl) (by kernel_rfl) ?_ | refine Jz ?_ | refine Zs ?_)
    | (with_reducible refine Xe (fun _ x => (place_calls _ _ _ _ h8 hi hj)) ?_)
    | ((with_reducible refine Jq (in_calls _ xs _ a _ _ ((ha.push _).push _) hl2 hlx hll hr hin) ?_); rintro _ _ ⟨rfl, rfl⟩)
    | (simp only [Q4, Jo, reduceIte, J0])
    | ((with_reducible refine hK _ _ ?_); clear hK)
    | (simp only [Q3, RA, Jn, Jm, Jp, Q2, Q0, ev, ofValue, Jt, J0, J3, J2, J4, reduceCtorEq, reduceIte, Ju, Qb, Qa, Jy, aun, Q9, Jk, Jh, Jx, Jw, Ji, Q8, Jf, Q1, Jr, Js, J1, J5, Ja, J9, Jb, J6, J7, Jd, J8, RB, Jv, Je, tf73SyB, Zy Yt])
    | (simp (disch := first | omega | (simp only [RO]; done) | assumption) only [RS, ha.rd.at1 Ym W3, ((ha.push _).push _).load1 agg2, X8, X9, six58, gix58, Qu, Qv, Qq])
    | (simp (disch := (first | omega | (simp only [RO]; done) | assumption | (simp only [RM, Je]; done) | (simp only [RL, Je]; omega))) only [RD, reduceCtorEq, reduceIte, Je, J1, J3, J2, J6, tf73SyB, Zy Yt])
  all_goals
    (
     (refine Qg (rs := [.tmp 6, .tmp 7]) rfl ?_)
     (simp only [Qx, Qd, Fr.put_some, Fr.put_none, Qe, Qf, Qi, J0, reduceIte])
     (try simp (disch := (first | omega | (simp only [RO]; done) | assumption | (simp only [RM, Je]; done) | (simp only [RL, Je]; omega))) only [RD, reduceCtorEq, reduceIte, Je, J1, J3, J2, J6, tf73SyB]))
  all_goals exact ⟨ext4 _ _, by simp [AV.lt, AV.lts], rfl⟩
theorem cross_calls (a b c d e : Int) (H : Hp) (ha : In a) (hb : In b) (hc : In c) (hd : In d) (he : In e) (he0 : e ≠ 0) (hab : In (a * b)) (hcd : In (c * d)) (hs : In (a * b - c * d)) (hq : In ((a * b - c * d).tdiv e)) : ACalls Tryz.prog 75 [W a, W b, W c, W d, W e] H fun r H' => r = W ((a * b - c * d).tdiv e) ∧ H = H' := by
  refine ACalls.drop (R := fun r => r = W ((a * b - c * d).tdiv e)) ?_
  refine Q7 Tryz.func75 rfl (by kernel_rfl) (by kernel_rfl) ?_
  repeat' first
    | (with_reducible first | refine Jj (fun K hK => ?_) | refine Qj ?_ | refine Jg ?_)
    | ((with_reducible refine Jq (mul_calls _ _ _ ha hb hab) ?_); rintro _ _ ⟨rfl, rfl⟩)
    | ((with_reducible refine Jq (mul_calls _ _ _ hc hd hcd) ?_); rintro _ _ ⟨rfl, rfl⟩)
    | ((with_reducible refine Jq (sub_calls _ _ _ hab hcd hs) ?_); rintro _ _ ⟨rfl, rfl⟩)
    | ((with_reducible refine Jq (div_calls _ _ _ hs he he0 hq) ?_); rintro _ _ ⟨rfl, rfl⟩)
    | (simp only [Q4, Jo, reduceIte, J0])
    | ((with_reducible refine hK _ _ ?_); clear hK)
    | (simp only [Q3, RA, Jn, Jm, Jp, Q2, Q0, ev, ofValue, Jt, J0, J3, J2, J4, reduceCtorEq, reduceIte, Ju, Qb, Qa, Jy, aun, Q9, Jk, Jh, Jx, Jw, Ji, Q8, Jf, Q1, Jr, Js, J1, J5, Ja, J9, Jb, J6, J7, Jd, J8, RB, Jv, Je, tf75SyB])
    | (simp (disch := (first | omega | (simp only [RO]; done) | assumption | (simp only [RM, Je]; done) | (simp only [RL, Je]; omega))) only [RD, reduceCtorEq, reduceIte, Je, J1, J3, J2, J6, tf75SyB])
  (
   (refine Qg (rs := [.cell 10 33]) rfl ?_)
   (simp only [Qx, Qd, Fr.put_some, Fr.put_none, Qe, Qf, Qi, J0, reduceIte])
   (try simp (disch := (first | omega | (simp only [RO]; done) | assumption | (simp only [RM, Je]; done) | (simp only [RL, Je]; omega))) only [RD, reduceCtorEq, reduceIte, Je, J1, J3, J2, J6, tf75SyB]))
  exact ⟨by repeat first | exact Ext.refl _ | refine Ext.pushed ?_ _, W_lt _ _⟩
end Go.Proofs.YtfalfmfkifemeaaGreatDoor
namespace Go.Proofs.YtfalfmfkifemeaaGreatDoor
open Go.AL Go.PW
abbrev Rb (rs : List Int) : Blk := ⟨(Xy rs).map (AV.int .u64), .own, 33⟩
def RowV (v : AV) (n : Nat) : Prop := v = .sl v.hd 0 n n ∨ v = .sg v.hd 0 n 16
theorem RowV.one {v : AV} {n : Nat} (h : RowV v n) : v.one = true := by rcases h with h | h <;> rw [h] <;> rfl
structure Mat (H : Hp) (p : Nat) (vs : List AV) (rss : List (List Int)) : Prop where
  len : rss.length ≤ vs.length
  out : Qt H p = some ⟨vs, .own, 38⟩
  row : ∀ i, i < rss.length → RowV (vs.getD i .nilS) (rss.getD i []).length ∧ Qt H (vs.getD i .nilS).hd = some (Rb (rss.getD i []))
  apart : ∀ i j, i < rss.length → j < rss.length → i ≠ j → (vs.getD i .nilS).hd ≠ (vs.getD j .nilS).hd
  off : ∀ i, i < rss.length → (vs.getD i .nilS).hd ≠ p
section
variable {H : Hp} {p : Nat} {vs : List AV} {rss : List (List Int)}
theorem Mat.push (M : Mat H p vs rss) (b : Blk) : Mat (H ++ [b]) p vs rss := by
  refine ⟨M.len, ?_, fun i hi => ⟨(M.row i hi).1, ?_⟩, M.apart, M.off⟩
  · rw [Qp (Qr M.out)]; exact M.out
  · rw [Qp (Qr (M.row i hi).2)]; exact (M.row i hi).2
theorem Mat.ext {H' : Hp} (M : Mat H p vs rss) (x : Ext H H') : Mat H' p vs rss := by
  refine ⟨M.len, Qh M.out x, fun i hi => ⟨(M.row i hi).1, Qh (M.row i hi).2 x⟩, M.apart, M.off⟩
theorem Mat.other (M : Mat H p vs rss) {h : Nat} (hl : h < H.length) (b : Blk) (hp : p ≠ h) (hv : ∀ i, i < rss.length → (vs.getD i .nilS).hd ≠ h) : Mat (H.set h b) p vs rss := by
  refine ⟨M.len, ?_, fun i hi => ⟨(M.row i hi).1, ?_⟩, M.apart, M.off⟩
  · rw [Qk hl, if_neg hp]; exact M.out
  · rw [Qk hl, if_neg (hv i hi)]; exact (M.row i hi).2
theorem Mat.at0 (M : Mat H p vs rss) {i : Nat} (hi : i < rss.length) : Yq Tryz.prog H 38 (.ptr p i) = some (vs.getD i .nilS) := by
  rw [Uz, M.out]
  simp only [agg38]
  rw [if_neg (by decide), List.getD_eq_getElem?_getD, List.getElem?_eq_getElem (by have := M.len; omega)]
  rfl
theorem RowV.at_ {v : AV} {n : Nat} (h : RowV v n) {k : IntKind} {j : Int} (h0 : 0 ≤ j) (h1 : j < (n : Int)) : X3 Tryz.prog 38 v (.int k j) = some (.ptr v.hd (j.toNat * 16)) := by
  rcases h with h | h <;> rw [h]
  · rw [Zm h0 h1, Nat.zero_add]; rfl
  · rw [Zn h0 h1, Nat.zero_add]; rfl
theorem RowV.len {v : AV} {n : Nat} (h : RowV v n) : Qy Tryz.prog .len #[38] [v] = some (.int .i64 n) := by
  rcases h with h | h <;> rw [h]
  · rw [lenS38]
  · rw [lenG38]
theorem Mat.idx (M : Mat H p vs rss) {i : Nat} (hi : i < rss.length) {k : IntKind} {j : Int} (h0 : 0 ≤ j) (h1 : j < ((rss.getD i []).length : Int)) : X3 Tryz.prog 38 (vs.getD i .nilS) (.int k j) = some (.ptr (vs.getD i .nilS).hd (j.toNat * 16)) := (M.row i hi).1.at_ h0 h1
theorem Mat.rlen (M : Mat H p vs rss) {i : Nat} (hi : i < rss.length) : Qy Tryz.prog .len #[38] [vs.getD i .nilS] = some (.int .i64 (rss.getD i []).length) := (M.row i hi).1.len
theorem Mat.get (M : Mat H p vs rss) {i j : Nat} (hi : i < rss.length) (hj : j < (rss.getD i []).length) : Yq Tryz.prog H 33 (.ptr (vs.getD i .nilS).hd (j * 16)) = some (W ((rss.getD i []).getD j 0)) := by
  rw [Uz, (M.row i hi).2]
  simp only [agg33, Wr]
  have hc := K0 (rss.getD i [])
  rw [if_neg (by decide), if_pos (by rw [Y1, hc]; omega), ← List.map_drop, ← List.map_take, J0v _ _ hj]
theorem Mat.put (M : Mat H p vs rss) {i j : Nat} {x : Int} (hi : i < rss.length) (hj : j < (rss.getD i []).length) : Ke Tryz.prog H 33 (.ptr (vs.getD i .nilS).hd (j * 16)) (W x) = some (H.set (vs.getD i .nilS).hd (Rb ((rss.getD i []).set j x))) := by
  rw [Uc, (M.row i hi).2]
  simp only [Wr]
  have hc := K0 (rss.getD i [])
  rw [if_pos ⟨trivial, by rw [G9]; exact V9 _ _, by rw [AV.cells_agg, Y1, dig_length], by rw [Y1, hc]; omega⟩]
  congr 3
  have hd : (dig 16 x).length = 16 := dig_length _ _
  simp only [Jr, AV.cells_agg, Y1, hd]
  rw [← List.map_take, ← List.map_drop, ← List.map_append, ← List.map_append, cellsOf_set _ _ _ hj]
theorem Mat.set (M : Mat H p vs rss) {i : Nat} (hi : i < rss.length) {rs : List Int} (hl : rs.length = (rss.getD i []).length) : Mat (H.set (vs.getD i .nilS).hd (Rb rs)) p vs (rss.set i rs) := by
  have hlt := Qr (M.row i hi).2
  have hg : ∀ j, (rss.set i rs).getD j [] = if j = i then rs else rss.getD j [] := by
    intro j
    rw [List.getD_eq_getElem?_getD, List.getElem?_set, List.getD_eq_getElem?_getD]
    by_cases e : i = j
    · subst e; simp [hi]
    · rw [if_neg e, if_neg (fun h => e h.symm)]
  refine ⟨by rw [List.length_set]; exact M.len, ?_, fun j hj => ?_, fun a b ha hb => M.apart a b (by rwa [List.length_set] at ha) (by rwa [List.length_set] at hb), fun a ha => M.off a (by rwa [List.length_set] at ha)⟩
  · rw [Qk hlt, if_neg (fun e => M.off i hi e.symm)]; exact M.out
  · rw [List.length_set] at hj
    rw [hg]
    by_cases e : j = i
    · subst e
      rw [if_pos rfl, Qk hlt, if_pos rfl, hl]
      exact ⟨(M.row j hj).1, rfl⟩
    · rw [if_neg e, Qk hlt, if_neg (M.apart j i hj hi e)]
      exact M.row j hj
end
def Off (S : Nat → Prop) (H H' : Hp) : Prop := H.length ≤ H'.length ∧ ∀ k, k < H.length → ¬ S k → Qt H' k = Qt H k
theorem Off.refl (S : Nat → Prop) (H : Hp) : Off S H H := ⟨Nat.le_refl _, fun _ _ _ => rfl⟩
theorem Off.push {S : Nat → Prop} {H H' : Hp} (o : Off S H H') (b : Blk) : Off S H (H' ++ [b]) := by
  refine ⟨by have := o.1; simp; omega, fun k hk hs => ?_⟩
  rw [Qp (by have := o.1; omega)]
  exact o.2 k hk hs
theorem Off.ext {S : Nat → Prop} {H H' H'' : Hp} (o : Off S H H') (x : Ext H' H'') : Off S H H'' := by
  obtain ⟨E, rfl⟩ := x
  refine ⟨by have := o.1; simp; omega, fun k hk hs => ?_⟩
  have h := o.2 k hk hs
  have hk' : k < H'.length := by have := o.1; omega
  unfold Qt at h ⊢
  rw [List.getElem?_append_left hk']
  exact h
theorem Off.set {S : Nat → Prop} {H H' : Hp} (o : Off S H H') {h : Nat} (hl : h < H'.length) (b : Blk) (hs : S h ∨ H.length ≤ h) : Off S H (H'.set h b) := by
  refine ⟨by rw [List.length_set]; exact o.1, fun k hk hk' => ?_⟩
  rw [Qk hl, if_neg]
  · exact o.2 k hk hk'
  · rintro rfl
    rcases hs with hs | hs
    · exact hk' hs
    · omega
theorem Off.trans {S : Nat → Prop} {H H' H'' : Hp} (o : Off S H H') (o' : Off S H' H'') : Off S H H'' :=
  ⟨Nat.le_trans o.1 o'.1, fun k hk hs => (o'.2 k (Nat.lt_of_lt_of_le hk o.1) hs).trans (o.2 k hk hs)⟩
theorem Off.toExt {S : Nat → Prop} {H0 H H' : Hp} (x : Ext H0 H) (o : Off S H H') (hS : ∀ k, S k → H0.length ≤ k) : Ext H0 H' := by
  have hl := x.len
  refine ⟨H'.drop H0.length, ?_⟩
  apply List.ext_getElem?
  intro k
  rcases Nat.lt_or_ge k H0.length with h | h
  · have h1 := o.2 k (by omega) (fun hs => by have := hS k hs; omega)
    obtain ⟨E, rfl⟩ := x
    unfold Qt at h1
    rw [h1, List.getElem?_append_left h, List.getElem?_append_left h]
  · rw [List.getElem?_append_right h, List.getElem?_drop]
    congr 1
    omega
end Go.Proofs.YtfalfmfkifemeaaGreatDoor
namespace Go.Proofs.YtfalfmfkifemeaaGreatDoor
open Go.AL Go.PW
set_option maxRecDepth 8000
def J0g (rk ri : List Int) (k : Nat) (prev : Int) (j : Nat) : Int := (rk.getD k 0 * ri.getD j 0 - ri.getD k 0 * rk.getD j 0).tdiv prev
def R8 (rk ri : List Int) (k : Nat) (prev : Int) : List Int := (List.range ri.length).map fun j => if j = k then 0 else J0g rk ri k prev j
def Proc (k : Nat) (all : Bool) (i : Nat) : Prop := i ≠ k ∧ (k < i ∨ all = true)
instance (k : Nat) (all : Bool) (i : Nat) : Decidable (Proc k all i) := inferInstanceAs (Decidable (_ ∧ _))
def Y4 (rss : List (List Int)) (k : Nat) (prev : Int) (all : Bool) (t : Nat) : List (List Int) := (List.range rss.length).map fun i => if i < t ∧ Proc k all i then R8 (rss.getD k []) (rss.getD i []) k prev else rss.getD i []
def J0h (rss : List (List Int)) (k : Nat) (prev : Int) (all : Bool) : List (List Int) := Y4 rss k prev all rss.length
theorem Wp (rk ri : List Int) (k : Nat) (prev : Int) : (R8 rk ri k prev).length = ri.length := by simp [R8]
theorem V1 (rss : List (List Int)) (k : Nat) (prev : Int) (all : Bool) (t : Nat) : (Y4 rss k prev all t).length = rss.length := by simp [Y4]
theorem Us (rss : List (List Int)) (k : Nat) (prev : Int) (all : Bool) (t i : Nat) (hi : i < rss.length) : (Y4 rss k prev all t).getD i [] = if i < t ∧ Proc k all i then R8 (rss.getD k []) (rss.getD i []) k prev else rss.getD i [] := by
  rw [List.getD_eq_getElem?_getD, List.getElem?_eq_getElem (by rw [V1]; exact hi)]
  simp [Y4]
theorem stepRow_getD (rk ri : List Int) (k : Nat) (prev : Int) (j : Nat) (hj : j < ri.length) : (R8 rk ri k prev).getD j 0 = if j = k then 0 else J0g rk ri k prev j := by
  rw [List.getD_eq_getElem?_getD, List.getElem?_eq_getElem (by rw [Wp]; exact hj)]
  simp [R8]
theorem stepTo_zero (rss : List (List Int)) (k : Nat) (prev : Int) (all : Bool) : Y4 rss k prev all 0 = rss := by
  apply List.ext_getElem
  · rw [V1]
  · intro i h1 h2
    simp [Y4, List.getD, h2]
theorem stepTo_skip (rss : List (List Int)) (k : Nat) (prev : Int) (all : Bool) (t : Nat) (h : ¬ Proc k all t) : Y4 rss k prev all (t + 1) = Y4 rss k prev all t := by
  unfold Y4
  apply List.map_congr_left
  intro i _
  by_cases e : i = t
  · subst e; rw [if_neg (fun x => h x.2), if_neg (fun x => h x.2)]
  · have : (i < t + 1 ∧ Proc k all i) ↔ (i < t ∧ Proc k all i) := ⟨fun x => ⟨by omega, x.2⟩, fun x => ⟨by omega, x.2⟩⟩
    simp only [this]
theorem Yj {α : Type} (xs : List α) (i : Nat) (y d : α) (j : Nat) (hi : i < xs.length) : (xs.set i y).getD j d = if j = i then y else xs.getD j d := by
  rw [List.getD_eq_getElem?_getD, List.getElem?_set, List.getD_eq_getElem?_getD]
  by_cases e : i = j
  · subst e; simp [hi]
  · rw [if_neg e, if_neg (fun h => e h.symm)]
theorem Gh {α : Type} {xs ys : List α} (d : α) (hl : xs.length = ys.length) (h : ∀ i, i < ys.length → xs.getD i d = ys.getD i d) : xs = ys := by
  apply List.ext_getElem hl
  intro i h1 h2
  have := h i h2
  rwa [List.getD_eq_getElem?_getD, List.getElem?_eq_getElem h1, List.getD_eq_getElem?_getD, List.getElem?_eq_getElem h2] at this
theorem stepTo_done (rss : List (List Int)) (k : Nat) (prev : Int) (all : Bool) (t : Nat) (ht : t < rss.length) (h : Proc k all t) (rs : List Int) (hrs : rs = R8 (rss.getD k []) (rss.getD t []) k prev) : (Y4 rss k prev all t).set t rs = Y4 rss k prev all (t + 1) := by
  apply Gh []
  · rw [List.length_set, V1, V1]
  · intro i hi
    rw [V1] at hi
    rw [Yj _ _ _ _ _ (by rw [V1]; exact ht), Us _ _ _ _ _ _ hi, Us _ _ _ _ _ _ hi]
    by_cases e : i = t
    · subst e; rw [if_pos rfl, if_pos ⟨by omega, h⟩, hrs]
    · have : (i < t + 1 ∧ Proc k all i) ↔ (i < t ∧ Proc k all i) := ⟨fun x => ⟨by omega, x.2⟩, fun x => ⟨by omega, x.2⟩⟩
      rw [if_neg e]; simp only [this]
structure Fits (rk ri : List Int) (k : Nat) (prev : Int) (j : Nat) : Prop where
  a : In (rk.getD k 0)
  b : In (ri.getD j 0)
  c : In (ri.getD k 0)
  d : In (rk.getD j 0)
  ab : In (rk.getD k 0 * ri.getD j 0)
  cd : In (ri.getD k 0 * rk.getD j 0)
  s : In (rk.getD k 0 * ri.getD j 0 - ri.getD k 0 * rk.getD j 0)
  q : In (J0g rk ri k prev j)
end Go.Proofs.YtfalfmfkifemeaaGreatDoor
namespace Go.Proofs.YtfalfmfkifemeaaGreatDoor
open Go.AL Go.PW
theorem Yy : type_of% (Jc @Xd (Jc @Xz (Jc @X1 (Jc @Z3 (Jc @Z2 (Jc @Yo (@Vw))))))) := Jc @Xd (Jc @Xz (Jc @X1 (Jc @Z3 (Jc @Z2 (Jc @Yo (@Vw))))))
abbrev pn48_10MaC : Plan := (.one 0 (.one 1 (.one 2 (.one 4 (.one 5 (.one 6 (.one 7 (.one 8 (.one 9 (.one 10 (.one 11 (.one 12 (.one 13 (.one 14 (.one 15 (.one 16 (.one 17 (.one 18 (.one 19 (.one 20 (.one 21 (.one 22 (.one 23 (.one 24 (.one 25 (.one 26 (.one 27 (.alt 3 (.one 28 (.one 29 (.one 30 .nil))) (.one 28 (.one 3 (.one 29 (.one 30 .nil))))))))))))))))))))))))))))))))
set_option maxRecDepth 8000
set_option maxHeartbeats 4000000 in
theorem Step_calls (p k : Nat) (vs : List AV) (rss : List (List Int)) (prev : Int) (all : Bool) (wd : Nat) (H : Hp) (M : Mat H p vs rss) (hk : k < rss.length) (hw : ∀ i, i < rss.length → (rss.getD i []).length = wd) (hkw : k < wd) (hn : rss.length < 1000000) (hwn : wd < 1000000)
    (hpI : In prev) (hp0 : prev ≠ 0) (hf : ∀ i j, i < rss.length → Proc k all i → j < wd → j ≠ k → Fits (rss.getD k []) (rss.getD i []) k prev j) :
    ACalls Tryz.prog 48 [.sl p 0 rss.length rss.length, .int .i64 (k : Int), W prev, .bool all] H fun r H' => r = .tup [] ∧ Mat H' p vs (J0h rss k prev all) ∧ Off (fun h => ∃ i, i < rss.length ∧ h = (vs.getD i .nilS).hd) H H' := by
  have lp := Qr M.out
  refine Q7 Tryz.func48 rfl (by kernel_rfl) (by kernel_rfl) ?_
  repeat' first
    | (with_reducible first | refine Jj (fun K hK => ?_) | refine Qc ?_ | refine Jg ?_)
    | (simp only [Q4, Jo, reduceIte, J0])
    | ((with_reducible refine hK _ _ ?_); clear hK)
    | (simp only [Q3, RA, Jn, Jm, Jp, Q2, Q0, ev, ofValue, Jt, J0, J3, J2, J4, reduceCtorEq, reduceIte, Ju, Qb, Qa, Jy, aun, Q9, Jk, Jh, Jx, Jw, Ji, Q8, Jf, Q1, Jr, Js, J1, J5, Ja, J9, Jb, J6, J7, Jd, J8, RB, Jv, Je, Yy])
  refine X2 (fun m fr' H1 => ∃ i : Nat, m = rss.length - i ∧ i ≤ rss.length ∧ fr' 0 = .sl p 0 rss.length rss.length ∧ fr' 1 = .int .i64 (k : Int) ∧ fr' 3 = .bool all ∧ fr' 6 = .ptr H.length 0 ∧ fr' 11 = .sl p 0 rss.length rss.length ∧ fr' 12 = .int .i64 (rss.length : Int) ∧ fr' 13 = .int .i64 (i : Int) ∧
      Mat H1 p vs (Y4 rss k prev all i) ∧ Off (fun h => ∃ i, i < rss.length ∧ h = (vs.getD i .nilS).hd) H H1 ∧ Qt H1 H.length = some (Wb prev)) (m := rss.length)
    ⟨0, by omega, by omega, rfl, rfl, rfl, rfl, rfl, rfl, rfl, by rw [stepTo_zero]; exact M.push _, (Off.refl _ _).push _, Qo rfl⟩ ?_
  rintro m fr' H1 ⟨i, rfl, hi, k0, k1, k3, k6, k11, k12, k13, M1, O1, g6⟩
  by_cases hlt : i < rss.length
  · have e1 : IntKind.i64.wrap ((i : Int) + 1) = ((i + 1 : Nat) : Int) := by rw [Q5 (by omega) (by omega)]; omega
    by_cases hp : Proc k all i
    · skip
      refine Jj (fun K hQ => ?_)
      repeat' first
        | (with_reducible first | refine Q6 ?_ | refine Jg ?_ | refine Jz ?_)
        | (with_reducible refine X5 (fun hc => ?_) (fun hc => ?_) <;> (try simp only [RC] at hc) <;> (try (exfalso; first | omega | contradiction)))
        | (simp only [Q4, Jo, reduceIte, J0])
        | (simp only [Q3, RA, Jn, Jm, Jp, Q2, Q0, ev, ofValue, Jt, J0, J3, J2, J4, reduceCtorEq, reduceIte, Ju, Qb, Qa, Jy, aun, Q9, Jk, Jh, Jx, Jw, Ji, Q8, Jf, Q1, Jr, Js, J1, J5, Ja, J9, Jb, J6, J7, Jd, J8, RB, Jv, Je, Yy, k0, k1, k3, k6, k11, k12, k13, e1])
      refine hQ _ _ ?_
      clear hQ
      refine Jj (fun K hQ => ?_)
      repeat' first
        | (with_reducible first | refine Q6 ?_ | refine Jg ?_ | refine Jz ?_)
        | (with_reducible refine X5 (fun hc => ?_) (fun hc => ?_) <;> (try simp only [RC] at hc) <;> (try (exfalso; first | omega | contradiction)))
        | (simp only [Q4, Jo, reduceIte, J0])
        | (simp only [Q3, RA, Jn, Jm, Jp, Q2, Q0, ev, ofValue, Jt, J0, J3, J2, J4, reduceCtorEq, reduceIte, Ju, Qb, Qa, Jy, aun, Q9, Jk, Jh, Jx, Jw, Ji, Q8, Jf, Q1, Jr, Js, J1, J5, Ja, J9, Jb, J6, J7, Jd, J8, RB, Jv, Je, Yy, k0, k1, k3, k6, k11, k12, k13, e1])
      refine hQ _ _ ?_
      clear hQ
      refine Jj (fun K3 hK3 => ?_)
      refine Qc ?_
      refine Jj (fun K hQ => ?_)
      repeat' first
        | (with_reducible first | refine Jg ?_)
        | (simp only [Q4, Jo, reduceIte, J0])
        | (simp only [Q3, RA, Jn, Jm, Jp, Q2, Q0, ev, ofValue, Jt, J0, J3, J2, J4, reduceCtorEq, reduceIte, Ju, Qb, Qa, Jy, aun, Q9, Jk, Jh, Jx, Jw, Ji, Q8, Jf, Q1, Jr, Js, J1, J5, Ja, J9, Jb, J6, J7, Jd, J8, RB, Jv, Je, Yy, k0, k1, k3, k6, k11, k12, k13, e1])
      refine hQ _ _ ?_
      clear hQ
      refine Jj (fun K2 hK2 => ?_)
      refine Z6 (fun fr' H' => fr' 0 = .sl p 0 rss.length rss.length ∧ fr' 1 = .int .i64 (k : Int) ∧ fr' 3 = .bool all ∧ fr' 6 = .ptr H.length 0 ∧ fr' 8 = .int .i64 (i : Int) ∧ fr' 11 = .sl p 0 rss.length rss.length ∧ fr' 12 = .int .i64 (rss.length : Int) ∧ fr' 13 = .int .i64 (i : Int) ∧ H1 = H') ?_ (fun fr' H' h => hK2 _ _ ?_)
      · clear hK2 hK3
        have hne := hp.1
        by_cases hki : k < i
        · skip
          repeat' first
            | (with_reducible first | refine Jj (fun K hK => ?_) | refine Q6 ?_ | refine Jg ?_ | refine Jz ?_)
            | (with_reducible refine Qn (fun hc => ?_) (fun hc => ?_) <;> (try simp only [RC] at hc) <;> (try (exfalso; first | omega | contradiction)))
            | (with_reducible refine Jc ?_ ?_)
            | (with_reducible refine X5 (fun hc => ?_) (fun hc => ?_) <;> (try simp only [RC] at hc) <;> (try (exfalso; first | omega | contradiction)))
            | (simp only [Q4, Jo, reduceIte, J0])
            | ((with_reducible refine hK _ _ ?_); clear hK)
            | (simp only [Q3, RA, Jn, Jm, Jp, Q2, Q0, ev, ofValue, Jt, J0, J3, J2, J4, reduceCtorEq, reduceIte, Ju, Qb, Qa, Jy, aun, Q9, Jk, Jh, Jx, Jw, Ji, Q8, Jf, Q1, Jr, Js, J1, J5, Ja, J9, Jb, J6, J7, Jd, J8, RB, Jv, Je, Yy, k0, k1, k3, k6, k11, k12, k13])
            | (simp (disch := first | omega | (simp only [RO]; done) | assumption) only [RS, Zm, Zn, Yi, Yk, Xs, Xq, Xr, Xp])
        · have hal : all = true := by
            rcases hp.2 with h | h
            · exact absurd h hki
            · exact h
          repeat' first
            | (with_reducible first | refine Jj (fun K hK => ?_) | refine Q6 ?_ | refine Jg ?_ | refine Jz ?_)
            | (with_reducible refine Qn (fun hc => ?_) (fun hc => ?_) <;> (try simp only [RC] at hc) <;> (try (exfalso; first | omega | contradiction)))
            | (with_reducible refine Jc ?_ ?_)
            | (with_reducible refine X5 (fun hc => ?_) (fun hc => ?_) <;> (try simp only [RC] at hc) <;> (try (exfalso; first | omega | contradiction)))
            | (simp only [Q4, Jo, reduceIte, J0])
            | ((with_reducible refine hK _ _ ?_); clear hK)
            | (simp only [Q3, RA, Jn, Jm, Jp, Q2, Q0, ev, ofValue, Jt, J0, J3, J2, J4, reduceCtorEq, reduceIte, Ju, Qb, Qa, Jy, aun, Q9, Jk, Jh, Jx, Jw, Ji, Q8, Jf, Q1, Jr, Js, J1, J5, Ja, J9, Jb, J6, J7, Jd, J8, RB, Jv, Je, Yy, k0, k1, k3, k6, k11, k12, k13, hal])
            | (simp (disch := first | omega | (simp only [RO]; done) | assumption) only [RS, Zm, Zn, Yi, Yk, Xs, Xq, Xr, Xp])
      clear hK2 k0 k1 k3 k6 k11 k12 k13
      obtain ⟨k0, k1, k3, k6, k8, k11, k12, k13, rfl⟩ := h
      obtain ⟨rk, hrk⟩ : ∃ rk, rk = rss.getD k [] := ⟨_, rfl⟩
      obtain ⟨ri, hri⟩ : ∃ ri, ri = rss.getD i [] := ⟨_, rfl⟩
      have hlk : rk.length = wd := by rw [hrk]; exact hw k hk
      have hli : ri.length = wd := by rw [hri]; exact hw i hlt
      have hsi : (Y4 rss k prev all i).getD i [] = ri := by rw [Us _ _ _ _ _ _ hlt, if_neg (fun h => by omega), hri]
      have hsk : (Y4 rss k prev all i).getD k [] = rk := by rw [Us _ _ _ _ _ _ hk, if_neg (fun h => h.2.1 rfl), hrk]
      have hsl := V1 rss k prev all i
      have hi1 : i < (Y4 rss k prev all i).length := by omega
      have hk1 : k < (Y4 rss k prev all i).length := by omega
      have a1 := M1.at0 hi1
      have a2 := M1.idx hi1 (k := .i64) (j := (k : Int)) (by omega) (by rw [hsi, hli]; omega)
      have a3 := M1.get hi1 (j := k) (by rw [hsi, hli]; omega)
      have a4 := M1.rlen hi1
      rw [hsi] at a3 a4
      rw [Int.toNat_natCast] at a2
      have a1' := (M1.push (Wb (ri.getD k 0))).at0 hi1
      rw [hli] at a4
      refine Jj (fun K hQ => ?_)
      repeat' first
        | (with_reducible first | refine Jg ?_)
        | (simp only [Q4, Jo, reduceIte, J0])
        | (simp only [Q3, RA, Jn, Jm, Jp, Q2, Q0, ev, ofValue, Jt, J0, J3, J2, J4, reduceCtorEq, reduceIte, Ju, Qb, Qa, Jy, aun, Q9, Jk, Jh, Jx, Jw, Ji, Q8, Jf, Q1, Jr, Js, J1, J5, Ja, J9, Jb, J6, J7, Jd, J8, RB, Jv, Je, Yy, k0, k1, k3, k6, k8, k11, k12, k13, a1, a2, a3])
        | (simp (disch := first | omega | (simp only [RO]; done) | assumption) only [RS, Zm, Zn, Yi, Yk, Xs, Xq, Xr, Xp])
        | (simp (disch := (first | omega | (simp only [RO]; done) | assumption | (simp only [RM, Je]; done) | (simp only [RL, Je]; omega))) only [RD, reduceCtorEq, reduceIte, Je, J1, J3, J2, J6, Yy, k0, k1, k3, k6, k8, k11, k12, k13, a1, a2, a3])
      refine hQ _ _ ?_
      clear hQ
      refine Jj (fun K2 hK2 => ?_)
      refine Z6 (fun fr' H2 => ∃ rr : List Int, fr' 0 = .sl p 0 rss.length rss.length ∧ fr' 1 = .int .i64 (k : Int) ∧ fr' 3 = .bool all ∧ fr' 6 = .ptr H.length 0 ∧ fr' 8 = .int .i64 (i : Int) ∧ fr' 11 = .sl p 0 rss.length rss.length ∧ fr' 12 = .int .i64 (rss.length : Int) ∧ fr' 13 = .int .i64 (i : Int) ∧
          Mat H2 p vs ((Y4 rss k prev all i).set i rr) ∧ Off (fun h => ∃ i, i < rss.length ∧ h = (vs.getD i .nilS).hd) H H2 ∧ Qt H2 H.length = some (Wb prev) ∧ rr.length = wd ∧ ∀ j, j < wd → rr.getD j 0 = if j = k then ri.getD j 0 else J0g rk ri k prev j) ?_ (fun fr' H2 h => hK2 _ _ ?_)
      · clear hK2 hK3
        have a4' := a4
        repeat' first
          | (with_reducible first | refine Jj (fun K hK => ?_) | refine Qc ?_ | refine Jg ?_)
          | (simp only [Q4, Jo, reduceIte, J0])
          | ((with_reducible refine hK _ _ ?_); clear hK)
          | (simp only [Q3, RA, Jn, Jm, Jp, Q2, Q0, ev, ofValue, Jt, J0, J3, J2, J4, reduceCtorEq, reduceIte, Ju, Qb, Qa, Jy, aun, Q9, Jk, Jh, Jx, Jw, Ji, Q8, Jf, Q1, Jr, Js, J1, J5, Ja, J9, Jb, J6, J7, Jd, J8, RB, Jv, Je, Yy, k0, k1, k3, k6, k8, k11, k12, k13, a1', a4])
          | (simp (disch := first | omega | (simp only [RO]; done) | assumption) only [RS, Zm, Zn, Yi, Yk, Xs, Xq, Xr, Xp])
        have hH1 : H.length < H1.length := Qr g6
        refine X2 (fun m fr' H2 => ∃ (j : Nat) (rr : List Int), m = wd - j ∧ j ≤ wd ∧ fr' 0 = .sl p 0 rss.length rss.length ∧ fr' 1 = .int .i64 (k : Int) ∧ fr' 3 = .bool all ∧ fr' 6 = .ptr H.length 0 ∧ fr' 8 = .int .i64 (i : Int) ∧ fr' 9 = .ptr H1.length 0 ∧ fr' 11 = .sl p 0 rss.length rss.length ∧ fr' 12 = .int .i64 (rss.length : Int) ∧ fr' 13 = .int .i64 (i : Int) ∧ fr' 39 = .int .i64 (wd : Int) ∧ fr' 40 = .int .i64 (j : Int) ∧
            Mat H2 p vs ((Y4 rss k prev all i).set i rr) ∧ Off (fun h => ∃ i, i < rss.length ∧ h = (vs.getD i .nilS).hd) H H2 ∧ Qt H2 H.length = some (Wb prev) ∧ Qt H2 H1.length = some (Wb (ri.getD k 0)) ∧ rr.length = wd ∧ (∀ b, b < wd → rr.getD b 0 = if b < j ∧ b ≠ k then J0g rk ri k prev b else ri.getD b 0)) (m := wd)
          ⟨0, ri, by omega, by omega, k0, k1, k3, k6, k8, rfl, k11, k12, k13, rfl, rfl, by
            have : (Y4 rss k prev all i).set i ri = Y4 rss k prev all i := by
              apply Gh []
              · rw [List.length_set]
              · intro b hb
                rw [Yj _ _ _ _ _ hi1]
                by_cases e : b = i
                · rw [if_pos e, e, hsi]
                · rw [if_neg e]
            rw [this]; exact M1.push _, O1.push _, by rw [Qp hH1]; exact g6, Qo rfl, hli, fun b hb => by rw [if_neg (by omega)]⟩ ?_
        clear k0 k1 k3 k6 k8 k11 k12 k13 a1 a2 a3 a4 a1' a4'
        rintro m fr' H2 ⟨j, rr, rfl, hj, k0, k1, k3, k6, k8, k9, k11, k12, k13, k39, k40, M2, O2, g6', g9, hrl, hrr⟩
        have e2 : IntKind.i64.wrap ((j : Int) + 1) = ((j + 1 : Nat) : Int) := by rw [Q5 (by omega) (by omega)]; omega
        by_cases hjw : j < wd
        · by_cases hjk : j = k
          · skip
            repeat' first
              | (with_reducible first | refine Jj (fun K hK => ?_) | refine Qc ?_ | refine Q6 ?_ | refine Jg ?_ | refine Jz ?_)
              | (with_reducible refine X5 (fun hc => ?_) (fun hc => ?_) <;> (try simp only [RC] at hc) <;> (try (exfalso; first | omega | contradiction)))
              | (simp only [Q4, Jo, reduceIte, J0])
              | ((with_reducible refine hK _ _ ?_); clear hK)
              | (simp only [Q3, RA, Jn, Jm, Jp, Q2, Q0, ev, ofValue, Jt, J0, J3, J2, J4, reduceCtorEq, reduceIte, Ju, Qb, Qa, Jy, aun, Q9, Jk, Jh, Jx, Jw, Ji, Q8, Jf, Q1, Jr, Js, J1, J5, Ja, J9, Jb, J6, J7, Jd, J8, RB, Jv, Je, Yy, k0, k1, k3, k6, k8, k9, k11, k12, k13, k39, k40, e2])
            refine ⟨_, by omega, j + 1, rr, rfl, by omega, rfl, M2, O2, g6', g9, hrl, fun b hb => ?_⟩
            rw [hrr b hb]
            by_cases hbk : b = k
            · rw [if_neg (fun h => h.2 hbk), if_neg (fun h => h.2 hbk)]
            · have : (b < j ∧ b ≠ k) ↔ (b < j + 1 ∧ ¬ b = k) := ⟨fun h => ⟨by omega, hbk⟩, fun h => ⟨by omega, hbk⟩⟩
              simp only [this]
          · have hsl2 : ((Y4 rss k prev all i).set i rr).length = rss.length := by rw [List.length_set, hsl]
            have hi2 : i < ((Y4 rss k prev all i).set i rr).length := by omega
            have hk2 : k < ((Y4 rss k prev all i).set i rr).length := by omega
            have hgi : ((Y4 rss k prev all i).set i rr).getD i [] = rr := by rw [Yj _ _ _ _ _ hi1, if_pos rfl]
            have hgk : ((Y4 rss k prev all i).set i rr).getD k [] = rk := by rw [Yj _ _ _ _ _ hi1, if_neg (fun e => hp.1 e.symm), hsk]
            have b1 := M2.at0 hi2
            have b2 := M2.at0 hk2
            have b3 := M2.idx hi2 (k := .i64) (j := (j : Int)) (by omega) (by rw [hgi, hrl]; omega)
            have b4 := M2.idx hk2 (k := .i64) (j := (k : Int)) (by omega) (by rw [hgk, hlk]; omega)
            have b5 := M2.idx hk2 (k := .i64) (j := (j : Int)) (by omega) (by rw [hgk, hlk]; omega)
            rw [Int.toNat_natCast] at b3 b4 b5
            have c1 := M2.get hi2 (j := j) (by rw [hgi, hrl]; omega)
            have c2 := M2.get hk2 (j := k) (by rw [hgk, hlk]; omega)
            have c3 := M2.get hk2 (j := j) (by rw [hgk, hlk]; omega)
            rw [hgi] at c1
            rw [hgk] at c2 c3
            have hrj : rr.getD j 0 = ri.getD j 0 := by rw [hrr j hjw, if_neg (fun h => by omega)]
            rw [hrj] at c1
            have F := hf i j hlt hp hjw hjk
            rw [← hrk, ← hri] at F
            have d1 := M2.put (x := J0g rk ri k prev j) hi2 (j := j) (by rw [hgi, hrl]; omega)
            rw [hgi] at d1
            have hcr := fun H0 => cross_calls (rk.getD k 0) (ri.getD j 0) (ri.getD k 0) (rk.getD j 0) prev H0 F.a F.b F.c F.d hpI hp0 F.ab F.cd F.s F.q
            rw [show (rk.getD k 0 * ri.getD j 0 - ri.getD k 0 * rk.getD j 0).tdiv prev = J0g rk ri k prev j from rfl] at hcr
            repeat' first
              | (with_reducible first | refine Jj (fun K hK => ?_) | refine Qc ?_ | refine Q6 ?_ | refine Jg ?_ | refine Qw (id := 10) [] pn48_10MaC (by kernel_rfl) (by kernel_rfl) ?_ | refine Jz ?_)
              | ((with_reducible refine Jq (hcr _) ?_); rintro _ _ ⟨rfl, rfl⟩)
              | (with_reducible refine Jc ?_ ?_)
              | (with_reducible refine X5 (fun hc => ?_) (fun hc => ?_) <;> (try simp only [RC] at hc) <;> (try (exfalso; first | omega | contradiction)))
              | (simp only [Q4, Jo, reduceIte, J0])
              | ((with_reducible refine hK _ _ ?_); clear hK)
              | (simp only [Q3, RA, Jn, Jm, Jp, Q2, Q0, ev, ofValue, Jt, J0, J3, J2, J4, reduceCtorEq, reduceIte, Ju, Qb, Qa, Jy, aun, Q9, Jk, Jh, Jx, Jw, Ji, Q8, Jf, Q1, Jr, Js, J1, J5, Ja, J9, Jb, J6, J7, Jd, J8, RB, Jv, Je, Yy, k0, k1, k3, k6, k8, k9, k11, k12, k13, k39, k40, e2, b1, b2, b3, b4, b5, c1, c2, c3, d1, g6', g9])
              | (simp (disch := first | omega | (simp only [RO]; done) | assumption) only [RS, Zm, Zn, Yi, Yk, Xs, Xq, Xr, Xp])
              | (simp (disch := (first | omega | (simp only [RO]; done) | assumption | (simp only [RM, Je]; done) | (simp only [RL, Je]; omega))) only [RD, reduceCtorEq, reduceIte, Je, J1, J3, J2, J6, Yy, k0, k1, k3, k6, k8, k9, k11, k12, k13, k39, k40, e2, b1, b2, b3, b4, b5, c1, c2, c3, d1, g6', g9])
            all_goals
              have lhi := Qr (M2.row i hi2).2
              have lhi0 := Qr (M.row i hlt).2
              have M3 := M2.set hi2 (rs := rr.set j (J0g rk ri k prev j)) (by rw [hgi, List.length_set])
              rw [List.set_set] at M3
              refine ⟨_, by omega, j + 1, rr.set j (J0g rk ri k prev j), rfl, by omega, rfl, M3, O2.set lhi _ (.inl ⟨i, hlt, rfl⟩), ?_, ?_, by rw [List.length_set]; exact hrl, fun b hb => ?_⟩
              · rw [Qk lhi, if_neg (by omega)]; exact g6'
              · rw [Qk lhi, if_neg (by omega)]; exact g9
              · rw [Xf _ _ (by omega)]
                by_cases hbj : b = j
                · rw [if_pos hbj, if_pos ⟨by omega, by omega⟩, hbj]
                · rw [if_neg hbj, hrr b hb]
                  have : (b < j ∧ b ≠ k) ↔ (b < j + 1 ∧ ¬ b = k) := ⟨fun h => ⟨by omega, h.2⟩, fun h => ⟨by omega, h.2⟩⟩
                  simp only [this]
        · obtain rfl : j = wd := by omega
          repeat' first
            | (with_reducible first | refine Jj (fun K hK => ?_) | refine Qz ?_ | refine Jg ?_ | refine Jz ?_)
            | (with_reducible refine X5 (fun hc => ?_) (fun hc => ?_) <;> (try simp only [RC] at hc) <;> (try (exfalso; first | omega | contradiction)))
            | (simp only [Q4, Jo, reduceIte, J0])
            | ((with_reducible refine hK _ _ ?_); clear hK)
            | (simp only [Q3, RA, Jn, Jm, Jp, Q2, Q0, ev, ofValue, Jt, J0, J3, J2, J4, reduceCtorEq, reduceIte, Ju, Qb, Qa, Jy, aun, Q9, Jk, Jh, Jx, Jw, Ji, Q8, Jf, Q1, Jr, Js, J1, J5, Ja, J9, Jb, J6, J7, Jd, J8, RB, Jv, Je, Yy, k0, k1, k3, k6, k8, k9, k11, k12, k13, k39, k40])
          refine ⟨rr, M2, O2, g6', hrl, fun b hb => ?_⟩
          rw [hrr b hb]
          by_cases hbk : b = k
          · rw [if_neg (fun h => h.2 hbk), if_pos hbk]
          · rw [if_pos ⟨hb, hbk⟩, if_neg hbk]
      clear hK2 k0 k1 k3 k6 k8 k11 k12 k13
      obtain ⟨rr, k0, k1, k3, k6, k8, k11, k12, k13, M2, O2, g6', hrl, hrr⟩ := h
      have hi2 : i < ((Y4 rss k prev all i).set i rr).length := by rw [List.length_set]; omega
      have hgi : ((Y4 rss k prev all i).set i rr).getD i [] = rr := by rw [Yj _ _ _ _ _ hi1, if_pos rfl]
      have b1 := M2.at0 hi2
      have b3 := M2.idx hi2 (k := .i64) (j := (k : Int)) (by omega) (by rw [hgi, hrl]; omega)
      rw [Int.toNat_natCast] at b3
      have d1 := M2.put (x := 0) hi2 (j := k) (by rw [hgi, hrl]; omega)
      rw [hgi] at d1
      have lhi := Qr (M2.row i hi2).2
      have lhi0 := Qr (M.row i hlt).2
      have M3 := M2.set hi2 (rs := rr.set k 0) (by rw [hgi, List.length_set])
      have hfin : (Y4 rss k prev all i).set i (rr.set k 0) = Y4 rss k prev all (i + 1) := by
        refine stepTo_done rss k prev all i hlt hp _ ?_
        rw [← hrk, ← hri]
        apply Gh 0
        · rw [List.length_set, Wp, hrl, hli]
        · intro b hb
          rw [Wp, hli] at hb
          rw [Xf _ _ (by omega), stepRow_getD _ _ _ _ _ (by omega)]
          by_cases hbk : b = k
          · rw [if_pos hbk, if_pos hbk]
          · rw [if_neg hbk, if_neg hbk, hrr b hb, if_neg hbk]
      rw [List.set_set, hfin] at M3
      repeat' first
        | (with_reducible first | refine Jg ?_)
        | (simp only [Q4, Jo, reduceIte, J0])
        | (simp only [Q3, RA, Jn, Jm, Jp, Q2, Q0, ev, ofValue, Jt, J0, J3, J2, J4, reduceCtorEq, reduceIte, Ju, Qb, Qa, Jy, aun, Q9, Jk, Jh, Jx, Jw, Ji, Q8, Jf, Q1, Jr, Js, J1, J5, Ja, J9, Jb, J6, J7, Jd, J8, RB, Jv, Je, Yy, k0, k1, k3, k6, k8, k11, k12, k13, b1, b3, d1, e1])
        | (simp (disch := first | omega | (simp only [RO]; done) | assumption) only [RS, Zm, Zn, Yi, Yk, Xs, Xq, Xr, Xp])
      refine hK3 _ _ ?_
      clear hK3
      repeat' first
        | (with_reducible first | refine Jg ?_)
        | (simp only [Q4, Jo, reduceIte, J0])
        | (simp only [Q3, RA, Jn, Jm, Jp, Q2, Q0, ev, ofValue, Jt, J0, J3, J2, J4, reduceCtorEq, reduceIte, Ju, Qb, Qa, Jy, aun, Q9, Jk, Jh, Jx, Jw, Ji, Q8, Jf, Q1, Jr, Js, J1, J5, Ja, J9, Jb, J6, J7, Jd, J8, RB, Jv, Je, Yy, k0, k1, k3, k6, k8, k11, k12, k13, e1])
      exact ⟨_, by omega, i + 1, rfl, by omega, rfl, M3, O2.set lhi _ (.inl ⟨i, hlt, rfl⟩), by rw [Qk lhi, if_neg (by omega)]; exact g6'⟩
    · have hs := stepTo_skip rss k prev all i hp
      by_cases hik : i = k
      · skip
        repeat' first
          | (with_reducible first | refine Jj (fun K hK => ?_) | refine Qc ?_ | refine Q6 ?_ | refine Qz ?_ | refine Jg ?_ | refine Jz ?_)
          | (with_reducible refine Qn (fun hc => ?_) (fun hc => ?_) <;> (try simp only [RC] at hc) <;> (try (exfalso; first | omega | contradiction)))
          | (with_reducible refine X5 (fun hc => ?_) (fun hc => ?_) <;> (try simp only [RC] at hc) <;> (try (exfalso; first | omega | contradiction)))
          | (simp only [Q4, Jo, reduceIte, J0])
          | ((with_reducible refine hK _ _ ?_); clear hK)
          | (clear hK; (with_reducible refine hK _ _ ?_); clear hK)
          | (simp only [Q3, RA, Jn, Jm, Jp, Q2, Q0, ev, ofValue, Jt, J0, J3, J2, J4, reduceCtorEq, reduceIte, Ju, Qb, Qa, Jy, aun, Q9, Jk, Jh, Jx, Jw, Ji, Q8, Jf, Q1, Jr, Js, J1, J5, Ja, J9, Jb, J6, J7, Jd, J8, RB, Jv, Je, Yy, k0, k1, k3, k6, k11, k12, k13, e1])
          | (simp (disch := first | omega | (simp only [RO]; done) | assumption) only [RS, Zm, Zn, Yi, Yk, Xs, Xq, Xr, Xp])
        exact ⟨_, by omega, i + 1, rfl, by omega, rfl, by rw [hs]; exact M1, O1, g6⟩
      · have hki : ¬ k < i := fun h => hp ⟨hik, .inl h⟩
        have hal : all = false := by
          cases all
          · rfl
          · exact absurd ⟨hik, .inr rfl⟩ hp
        repeat' first
          | (with_reducible first | refine Jj (fun K hK => ?_) | refine Qc ?_ | refine Q6 ?_ | refine Qz ?_ | refine Jg ?_ | refine Jz ?_)
          | (with_reducible refine Qn (fun hc => ?_) (fun hc => ?_) <;> (try simp only [RC] at hc) <;> (try (exfalso; first | omega | contradiction)))
          | (with_reducible refine X5 (fun hc => ?_) (fun hc => ?_) <;> (try simp only [RC] at hc) <;> (try (exfalso; first | omega | contradiction)))
          | (simp only [Q4, Jo, reduceIte, J0])
          | ((with_reducible refine hK _ _ ?_); clear hK)
          | (clear hK; (with_reducible refine hK _ _ ?_); clear hK)
          | (simp only [Q3, RA, Jn, Jm, Jp, Q2, Q0, ev, ofValue, Jt, J0, J3, J2, J4, reduceCtorEq, reduceIte, Ju, Qb, Qa, Jy, aun, Q9, Jk, Jh, Jx, Jw, Ji, Q8, Jf, Q1, Jr, Js, J1, J5, Ja, J9, Jb, J6, J7, Jd, J8, RB, Jv, Je, Yy, k0, k1, k3, k6, k11, k12, k13, e1, hal])
          | (simp (disch := first | omega | (simp only [RO]; done) | assumption) only [RS, Zm, Zn, Yi, Yk, Xs, Xq, Xr, Xp])
        exact ⟨_, by omega, i + 1, rfl, by omega, rfl, by rw [hal] at hs; rw [hs, ← hal]; exact M1, O1, g6⟩
  · obtain rfl : i = rss.length := by omega
    repeat' first
      | (with_reducible first | refine Jj (fun K hK => ?_) | refine Qz ?_ | refine Jg ?_ | refine Jz ?_)
      | (with_reducible refine X5 (fun hc => ?_) (fun hc => ?_) <;> (try simp only [RC] at hc) <;> (try (exfalso; first | omega | contradiction)))
      | (simp only [Q4, Jo, reduceIte, J0])
      | ((with_reducible refine hK _ _ ?_); clear hK)
      | (simp only [Q3, RA, Jn, Jm, Jp, Q2, Q0, ev, ofValue, Jt, J0, J3, J2, J4, reduceCtorEq, reduceIte, Ju, Qb, Qa, Jy, aun, Q9, Jk, Jh, Jx, Jw, Ji, Q8, Jf, Q1, Jr, Js, J1, J5, Ja, J9, Jb, J6, J7, Jd, J8, RB, Jv, Je, Yy, k0, k1, k3, k6, k11, k12, k13])
    (
     (refine Qg (rs := []) rfl ?_)
     (simp only [Qx, Qd, Fr.put_some, Fr.put_none, Qe, Qf, Qi, J0, reduceIte])
     (try simp (disch := (first | omega | (simp only [RO]; done) | assumption | (simp only [RM, Je]; done) | (simp only [RL, Je]; omega))) only [RD, reduceCtorEq, reduceIte, Je, J1, J3, J2, J6, Yy]))
    exact ⟨M1, O1⟩
end Go.Proofs.YtfalfmfkifemeaaGreatDoor
namespace Go.Proofs.YtfalfmfkifemeaaGreatDoor
open Go.AL Go.PW
set_option maxRecDepth 8000
def Kx (n : Nat) (xs : List Int) : List (List Int) := (List.range n).map fun i => (List.range n).map fun j => ent n xs i j
theorem Kn (n : Nat) (xs : List Int) : (Kx n xs).length = n := by simp [Kx]
theorem rowsOf_get (n : Nat) (xs : List Int) (i : Nat) (hi : i < n) : (Kx n xs).getD i [] = (List.range n).map fun j => ent n xs i j := by
  simp [Kx, List.getD, hi]
theorem rowsOf_get2 (n : Nat) (xs : List Int) (i j : Nat) (hi : i < n) (hj : j < n) : ((Kx n xs).getD i []).getD j 0 = ent n xs i j := by
  rw [rowsOf_get _ _ _ hi]
  simp [List.getD, hj]
theorem Mat.snoc {H : Hp} {p : Nat} {vs : List AV} {rss : List (List Int)} (M : Mat H p vs rss) (hl : rss.length < vs.length) (rs : List Int) :
    Mat ((H ++ [Rb rs]).set p ⟨vs.set rss.length (.sl H.length 0 rs.length rs.length), .own, 38⟩) p (vs.set rss.length (.sl H.length 0 rs.length rs.length)) (rss ++ [rs]) := by
  have lp := Qr M.out
  have hlp : p < (H ++ [Rb rs]).length := by simp; omega
  have hv : ∀ i, (vs.set rss.length (AV.sl H.length 0 rs.length rs.length)).getD i .nilS = if i = rss.length then .sl H.length 0 rs.length rs.length else vs.getD i .nilS := fun i => Yj _ _ _ _ _ hl
  have hr : ∀ i, i < rss.length → (rss ++ [rs]).getD i [] = rss.getD i [] := fun i hi => by
    rw [List.getD_eq_getElem?_getD, List.getElem?_append_left hi, ← List.getD_eq_getElem?_getD]
  have hr2 : (rss ++ [rs]).getD rss.length [] = rs := by simp [List.getD]
  have hlt : ∀ i, i < rss.length → (vs.getD i .nilS).hd < H.length := fun i hi => Qr (M.row i hi).2
  have hsl : (rss ++ [rs]).length = rss.length + 1 := by simp
  refine ⟨by rw [List.length_set, hsl]; omega, by rw [Qk hlp, if_pos rfl], fun i hi => ?_, fun i j hi hj hne => ?_, fun i hi => ?_⟩
  · rw [hsl] at hi
    rw [hv]
    by_cases e : i = rss.length
    · rw [if_pos e, e, hr2]
      refine ⟨.inl rfl, ?_⟩
      show Qt _ H.length = _
      rw [Qk hlp, if_neg (by omega), Qo rfl]
    · rw [if_neg e, hr i (by omega), Qk hlp, if_neg (M.off i (by omega)), Qp (hlt i (by omega))]
      exact M.row i (by omega)
  · rw [hsl] at hi hj
    rw [hv, hv]
    by_cases ei : i = rss.length <;> by_cases ej : j = rss.length
    · omega
    · rw [if_pos ei, if_neg ej]
      have := hlt j (by omega)
      show H.length ≠ _
      omega
    · rw [if_neg ei, if_pos ej]
      have := hlt i (by omega)
      show _ ≠ H.length
      omega
    · rw [if_neg ei, if_neg ej]
      exact M.apart i j (by omega) (by omega) hne
  · rw [hsl] at hi
    rw [hv]
    by_cases e : i = rss.length
    · rw [if_pos e]
      show H.length ≠ p
      omega
    · rw [if_neg e]; exact M.off i (by omega)
theorem make_outer (H : Hp) (n : Nat) (l : IntKind) (hn : n < 1000000) : Zv Tryz.prog H 79 (.int l (n : Int)) (.int l (n : Int)) = some (.sl H.length 0 n n, H ++ [⟨List.replicate n .nilS, .own, 38⟩]) := by
  have e : Js [AV.nilS] n = List.replicate n .nilS := by
    unfold Js
    induction n with
    | zero => rfl
    | succ n ih => rw [List.replicate_succ, List.flatten_cons, ih (by omega)]; rfl
  simp only [Zv, J0a, size38, zero38, bytes38, AV.cells_nilS]
  rw [if_pos ⟨rfl, rfl, by decide, by omega, by omega, by omega, by omega⟩, Int.toNat_natCast, e]
theorem make_row (H : Hp) (n : Nat) (l : IntKind) (hn : n < 1000000) : Zv Tryz.prog H 38 (.int l (n : Int)) (.int l (n : Int)) = some (.sl H.length 0 n n, H ++ [Rb (List.replicate n 0)]) := by
  have e : Js ((dig 16 0).map (AV.int .u64)) n = (List.replicate (n * 16) (0 : Int)).map (AV.int .u64) := by
    have e2 : (dig 16 0).map (AV.int .u64) = List.replicate 16 (AV.int .u64 0) := by rfl
    rw [e2]
    unfold Js
    induction n with
    | zero => rfl
    | succ n ih => rw [List.replicate_succ, List.flatten_cons, ih (by omega), List.map_replicate, List.map_replicate, List.replicate_append_replicate]; congr 1; omega
  simp only [Zv, Wh, Wr, zero33, bytes33, AV.cells_agg]
  rw [if_pos ⟨by rw [Y1, dig_length], V9 _ _, by decide, by omega, by omega, by omega, by omega⟩, Int.toNat_natCast, e, ← cellsOf_zeros]
end Go.Proofs.YtfalfmfkifemeaaGreatDoor

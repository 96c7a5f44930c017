/- Part 19 of the proof of laws of this seat: lemmas on the model's code, on this program's functions, on numbers. No condition. -/
import Derived.Test.YtfalfmfkifemeaaGreatDoorZGar
set_option linter.unusedVariables false
set_option linter.unusedSimpArgs false
open Nat renaming reduceEqDiff → J0, reduceLeDiff → J1, reduceMul → J2, reduceAdd → J3, reduceSub → J4, reduceLT → J5
open Int renaming reduceToNat → J6, reducePow → J7, reduceNeg → J8, reduceLT → J9, reduceLE → Ja, reduceEq → Jb
open And renaming intro → Jc
open Go.IntKind renaming bits → Jd
open Go.PW renaming dig_length → Je
namespace Go.Proofs.YtfalfmfkifemeaaGreatDoor
open Go.AL Go.PW Go.PD
set_option maxRecDepth 8000
structure Noughts (H0 H : Hp) (a : AV) (n : Nat) : Prop where
  ex : ∃ h, a = .sl h 0 (n * (n + 1) / 2) (n * (n + 1) / 2) ∧ Qt H h = some ⟨(List.replicate (n * (n + 1) / 2) (0 : Int)).map (AV.int .i64), .own, 2⟩ ∧ H0.length ≤ h
theorem Noughts.ints {H0 H : Hp} {a : AV} {n : Nat} (h : Noughts H0 H a n) : Ints H .i64 a (List.replicate (n * (n + 1) / 2) 0) := by
  obtain ⟨k, rfl, hg, _⟩ := h.ex
  have := Ints.blk (n := n * (n + 1) / 2) (c := n * (n + 1) / 2) (o := 0) hg (by decide) (by simp) (Nat.le_refl _)
  rwa [List.drop_zero, List.take_of_length_le (by simp)] at this
theorem Uh {n : Nat} (h8 : n ≤ 8) : Right n (List.replicate (n * (n + 1) / 2) 0) := by
  refine ⟨⟨by omega, by omega, by rw [List.length_replicate]; push_cast; rfl⟩, fun x hx => ?_⟩
  rw [(List.mem_replicate.1 hx).2]
  unfold Fit; omega
theorem Wk (n i j : Nat) (l : Nat) : ent n (List.replicate l 0) i j = 0 := by
  unfold ent
  rw [List.getD_eq_getElem?_getD, List.getElem?_replicate]
  split <;> rfl
end Go.Proofs.YtfalfmfkifemeaaGreatDoor
namespace Go.Proofs.YtfalfmfkifemeaaGreatDoor
open Go.AL Go.PW Go.PD
theorem tf12RfN : type_of% (Jc @Z8 (Jc @Xd (Jc @Xx (Jc @Xw (@Xv))))) := Jc @Z8 (Jc @Xd (Jc @Xx (Jc @Xw (@Xv))))
abbrev pn12_1RfN : Plan := (.one 0 (.one 2 (.one 3 (.alt 1 (.one 4 (.one 5 (.one 6 .nil))) (.one 4 (.one 1 (.one 5 (.one 6 .nil))))))))
set_option maxRecDepth 8000
theorem ints_sg {H : Hp} {h : Nat} {xs : List Int} (hg : Qt H h = some (Ib xs)) : Ints H .i64 (.sg h 0 xs.length 1) xs := by
  have hl := Y1 .i64 xs
  refine ⟨?_, rfl⟩
  simp only [arow, hg]
  rw [if_neg (by decide), if_pos (by omega), List.drop_zero, List.take_of_length_le (by omega)]
def Mo (H : Hp) (a : AV) (xs : List Int) (lo : Nat) : Prop := (xs = [] ∧ a = .nilS) ∨ ∃ h, (a = .sl h 0 xs.length xs.length ∨ a = .sg h 0 xs.length 1) ∧ Qt H h = some (Ib xs) ∧ lo ≤ h
section
variable {H : Hp} {a : AV} {xs : List Int} {lo : Nat}
theorem Mo.ext {H' : Hp} (m : Mo H a xs lo) (x : Ext H H') : Mo H' a xs lo := by
  rcases m with h | ⟨h, h1, h2, h3⟩
  · exact .inl h
  · exact .inr ⟨h, h1, Qh h2 x, h3⟩
theorem Mo.push (m : Mo H a xs lo) (b : Blk) : Mo (H ++ [b]) a xs lo := m.ext (Ext.push _ _)
theorem Mo.ints (m : Mo H a xs lo) : Ints H .i64 a xs := by
  rcases m with ⟨rfl, rfl⟩ | ⟨h, h1, h2, _⟩
  · exact Ints.nil _ _
  · rcases h1 with rfl | rfl
    · have := Ints.blk (n := xs.length) (c := xs.length) (o := 0) h2 (by decide) (by simp) (Nat.le_refl _)
      rwa [List.drop_zero, List.take_length] at this
    · exact ints_sg h2
theorem Mo.one (m : Mo H a xs lo) : a.one = true := m.ints.rd.one
theorem Mo.at_ (m : Mo H a xs lo) {k : IntKind} {i : Nat} (hi : i < xs.length) : X3 Tryz.prog 22 a (.int k (i : Int)) = some (.ptr a.hd i) := by
  rcases m with ⟨rfl, rfl⟩ | ⟨h, h1, h2, _⟩
  · simp at hi
  · have h0 : (0 : Int) ≤ (i : Int) := by omega
    have h1' : (i : Int) < (xs.length : Int) := by omega
    rcases h1 with rfl | rfl
    · rw [X8 h0 h1', Int.toNat_natCast, Nat.zero_add]; rfl
    · rw [X9 h0 h1', Int.toNat_natCast, Nat.zero_add]; rfl
theorem Mo.hd (m : Mo H a xs lo) {i : Nat} (hi : i < xs.length) : Qt H a.hd = some (Ib xs) ∧ lo ≤ a.hd := by
  rcases m with ⟨rfl, rfl⟩ | ⟨h, h1, h2, h3⟩
  · simp at hi
  · rcases h1 with rfl | rfl <;> exact ⟨h2, h3⟩
theorem Mo.put (m : Mo H a xs lo) {i : Nat} (hi : i < xs.length) (v : Int) : Ke Tryz.prog H 2 (.ptr a.hd i) (.int .i64 v) = some (H.set a.hd (Ib (xs.set i v))) := by
  obtain ⟨hg, _⟩ := m.hd hi
  rw [Uc, hg]
  simp only [W3]
  rw [if_pos ⟨trivial, rfl, rfl, by rw [Y1]; exact hi⟩, AV.cells_int]
  congr 3
  exact Wd _ _ _ hi
theorem Mo.set (m : Mo H a xs lo) {i : Nat} (hi : i < xs.length) {ys : List Int} (hl : ys.length = xs.length) : Mo (H.set a.hd (Ib ys)) a ys lo := by
  rcases m with ⟨rfl, rfl⟩ | ⟨h, h1, h2, h3⟩
  · simp at hi
  · refine .inr ⟨h, by rw [hl]; exact h1, ?_, h3⟩
    have e : a.hd = h := by rcases h1 with rfl | rfl <;> rfl
    rw [e, Qk (Qr h2), if_pos rfl]
end
theorem MoCopy_calls (n : Int) (xs : List Int) (a : AV) (H : Hp) (ha : Ints H .i64 a xs) (hl : xs.length < 1000000) : ACalls Tryz.prog 12 [Ya n a] H fun r H' => ∃ b, r = Ya n b ∧ Mo H' b xs H.length ∧ Ext H H' := by
  rcases Nat.eq_zero_or_pos xs.length with h0 | h0
  · obtain rfl : xs = [] := List.eq_nil_of_length_eq_zero h0
    have ha1 : a.one = true := ha.rd.one
    have hc : a.cells = [a] := AV.cells_one ha1
    have g := fun (H0 : Hp) (x0 : Ext H H0) => J0z (P := Tryz.prog) (s := .nilS) (ha.ext x0).rd Ym W3 zero2 rfl (by decide) bytes2 rfl (.inl rfl)
    have g1 := fun b1 b2 => g _ ((Ext.push H b1).pushed b2)
    refine Q7 Tryz.func12 rfl (by kernel_rfl) (by kernel_rfl) ?_
    repeat' first
      | (with_reducible first | refine Jj (fun K hK => ?_) | refine Qj ?_ | refine Jg ?_ | refine Qw (id := 1) [] pn12_1RfN (by kernel_rfl) (by kernel_rfl) ?_)
      | (with_reducible refine Jc ?_ ?_)
      | (simp only [Q4, Jo, reduceIte, J0])
      | ((with_reducible refine hK _ _ ?_); clear hK)
      | (simp only [Q3, RA, Jn, Jm, Jp, Q2, Q0, ev, ofValue, Jt, J0, J3, J2, J4, reduceCtorEq, reduceIte, Ju, Qb, Qa, Jy, aun, Q9, Jk, Jh, Jx, Jw, Ji, Q8, Jf, Q1, Jr, Js, J1, J5, Ja, J9, Jb, J6, J7, Jd, J8, RB, Jv, Je, tf12RfN, g1])
      | (simp (disch := first | omega | (simp only [RO]; done) | assumption) only [RS, X8, X9, Qu, Qv, Qq])
      | (simp (disch := (first | omega | (simp only [RO]; done) | assumption | (simp only [RM, Je]; done) | (simp only [RL, Je]; omega))) only [RD, reduceCtorEq, reduceIte, Je, J1, J3, J2, J6, tf12RfN, g1])
    all_goals
      (
       (refine Qg (rs := [.cell 2 24]) rfl ?_)
       (simp only [Qx, Qd, Fr.put_some, Fr.put_none, Qe, Qf, Qi, J0, reduceIte])
       (try simp (disch := (first | omega | (simp only [RO]; done) | assumption | (simp only [RM, Je]; done) | (simp only [RL, Je]; omega))) only [RD, reduceCtorEq, reduceIte, Je, J1, J3, J2, J6, tf12RfN]))
    all_goals exact ⟨.nilS, rfl, .inl ⟨rfl, rfl⟩, (Ext.push _ _).pushed _⟩
  · exact (Copy_calls n xs a H ha h0 hl).mono fun r H' ⟨h, h1, h2, h3, h4⟩ => ⟨_, h1, .inr ⟨h, .inr rfl, h2, h3⟩, h4⟩
theorem MoNew_calls (n : Nat) (H : Hp) (h8 : n ≤ 8) : ACalls Tryz.prog 27 [.int .i64 (n : Int)] H fun r H' => ∃ b, r = Ya n b ∧ Mo H' b (List.replicate (n * (n + 1) / 2) 0) H.length ∧ Ext H H' := by
  exact (SymNew_calls n H h8).mono fun r H' ⟨h, h1, h2, h3, h4⟩ => ⟨_, h1, .inr ⟨h, .inl (by rw [List.length_replicate]), h2, h3⟩, h4⟩
end Go.Proofs.YtfalfmfkifemeaaGreatDoor
namespace Go.Proofs.YtfalfmfkifemeaaGreatDoor
open Go.AL Go.PW Go.PD
set_option maxRecDepth 8000
theorem pl_eq : ∀ n i j k l : Fin 9, i < n → j < n → k < n → l < n → (pl n.1 i.1 j.1 = pl n.1 k.1 l.1 ↔ (i = k ∧ j = l) ∨ (i = l ∧ j = k)) := by decide +kernel
theorem Rh {n : Nat} {xs : List Int} (h8 : n ≤ 8) {i j p q : Nat} (hi : i < n) (hj : j < n) (hp : p < n) (hq : q < n) (hl : pl n i j < xs.length) (v : Int) : ent n (xs.set (pl n i j) v) p q = if (p = i ∧ q = j) ∨ (p = j ∧ q = i) then v else ent n xs p q := by
  unfold ent
  rw [Xf _ _ hl]
  have h := pl_eq ⟨n, by omega⟩ ⟨p, by omega⟩ ⟨q, by omega⟩ ⟨i, by omega⟩ ⟨j, by omega⟩ hp hq hi hj
  simp only [Fin.mk.injEq] at h
  simp only [h]
theorem Right.set {n : Nat} {xs : List Int} (hr : Right n xs) (i : Nat) {v : Int} (hv : Fit v) : Right n (xs.set i v) := by
  refine ⟨by rw [List.length_set]; exact hr.1, fun x hx => ?_⟩
  rcases List.mem_or_eq_of_mem_set hx with h | h
  · exact hr.2 x h
  · rw [h]; exact hv
section
variable {H : Hp} {a : AV} {xs : List Int} {lo : Nat}
theorem Mo.other (m : Mo H a xs lo) {h : Nat} (hh : h < lo) (hl : h < H.length) (b : Blk) : Mo (H.set h b) a xs lo := by
  rcases m with e | ⟨k, h1, h2, h3⟩
  · exact .inl e
  · exact .inr ⟨k, h1, by rw [Qk hl, if_neg (by omega)]; exact h2, h3⟩
theorem Mo.low (m : Mo H a xs lo) {lo' : Nat} (h : lo' ≤ lo) : Mo H a xs lo' := by
  rcases m with e | ⟨k, h1, h2, h3⟩
  · exact .inl e
  · exact .inr ⟨k, h1, h2, by omega⟩
end
abbrev Sb (n : Int) (a : AV) : Blk := ⟨[.int .i64 n, a], .own, 24⟩
end Go.Proofs.YtfalfmfkifemeaaGreatDoor
namespace Go.Proofs.YtfalfmfkifemeaaGreatDoor
open Go.AL Go.PW Go.PD
theorem Vb : type_of% (Jc @Z8 (Jc @Xd (Jc @Xz (Jc @Xx (Jc @Xw (Jc @Xv (Jc @X1 (Jc @Xj (Jc @Za (@Z9)))))))))) := Jc @Z8 (Jc @Xd (Jc @Xz (Jc @Xx (Jc @Xw (Jc @Xv (Jc @X1 (Jc @Xj (Jc @Za (@Z9)))))))))
abbrev pn42_10RfP : Plan := (.one 0 (.one 1 (.one 2 (.one 3 (.one 4 (.one 5 (.one 7 (.pur 6 (.ext 8 (.one 9 (.one 10 (.one 11 (.one 12 (.one 13 .nil))))))))))))))
set_option maxRecDepth 8000
theorem Sm_of {x : Int} (h : x.natAbs ≤ 2 ^ 1000) : Sm x := by
  unfold Sm
  have h1 : (2 : Int) ^ 1000 < Bs ^ 20 := by decide +kernel
  have h2 : ((2 ^ 1000 : Nat) : Int) = (2 : Int) ^ 1000 := by decide +kernel
  generalize (2 ^ 1000 : Nat) = y at h h2
  rw [← h2] at h1
  omega
theorem Bs_.cells {H : Hp} {s : AV} {x : Int} (h : Bs_ H s x) : s.cells = [s] := AV.cells_one h.one
set_option maxHeartbeats 8000000 in
theorem Diag_calls (n : Nat) (xs : List Int) (a : AV) (v : Int) (H : Hp) (ha : Ints H .i64 a xs) (hr : Right n xs) (hv : -9223372036854775808 ≤ v ∧ v ≤ 9223372036854775807) (hfit : ∀ i, i < n → Fit (ent n xs i i + v)) : ACalls Tryz.prog 42 [Ya n a, .int .i64 v] H fun r H' => ∃ b ys, r = .tup [Ya n b, .int .i64 0] ∧ Mo H' b ys H.length ∧ Right n ys ∧ (∀ p q, p < n → q < n → ent n ys p q = ent n xs p q + if p = q then v else 0) ∧ Ext H H' := by
  have ha1 : a.one = true := ha.rd.one
  have hc : a.cells = [a] := AV.cells_one ha1
  obtain ⟨h8, hlx⟩ := hr.len
  have hd : decide (Right n xs) = true := decide_eq_true hr
  refine Q7 Tryz.func42 rfl (by kernel_rfl) (by kernel_rfl) ?_
  refine Jj (fun K hQ => ?_)
  repeat' first
    | (with_reducible first | refine Jj (fun K hK => ?_) | refine Q6 ?_ | refine Jg ?_ | refine Jz ?_)
    | ((with_reducible refine Jq (symRight_calls _ _ _ _ ((ha.push _).push _) hlx) ?_); rintro _ _ ⟨rfl, rfl⟩)
    | (simp only [Q4, Jo, reduceIte, J0])
    | ((with_reducible refine hK _ _ ?_); clear hK)
    | (simp only [Q3, RA, Jn, Jm, Jp, Q2, Q0, ev, ofValue, Jt, J0, J3, J2, J4, reduceCtorEq, reduceIte, Ju, Qb, Qa, Jy, aun, Q9, Jk, Jh, Jx, Jw, Ji, Q8, Jf, Q1, Jr, Js, J1, J5, Ja, J9, Jb, J6, J7, Jd, J8, RB, Jv, Je, Vb, hd])
    | (simp (disch := first | omega | (simp only [RO]; done) | assumption) only [RS, X8, X9, X6, X7, Qu, Qv, Qq, X4, X0])
    | (simp (disch := (first | omega | (simp only [RO]; done) | assumption | (simp only [RM, Je]; done) | (simp only [RL, Je]; omega))) only [RD, reduceCtorEq, reduceIte, Je, J1, J3, J2, J6, Vb, hd])
  refine hQ _ _ ?_
  clear hQ
  refine Jj (fun K hQ => ?_)
  repeat' first
    | (with_reducible first | refine Jj (fun K hK => ?_) | refine Q6 ?_ | refine Jg ?_ | refine Jz ?_)
    | ((with_reducible refine Jq (symRight_calls _ _ _ _ ((ha.push _).push _) hlx) ?_); rintro _ _ ⟨rfl, rfl⟩)
    | (simp only [Q4, Jo, reduceIte, J0])
    | ((with_reducible refine hK _ _ ?_); clear hK)
    | (simp only [Q3, RA, Jn, Jm, Jp, Q2, Q0, ev, ofValue, Jt, J0, J3, J2, J4, reduceCtorEq, reduceIte, Ju, Qb, Qa, Jy, aun, Q9, Jk, Jh, Jx, Jw, Ji, Q8, Jf, Q1, Jr, Js, J1, J5, Ja, J9, Jb, J6, J7, Jd, J8, RB, Jv, Je, Vb, hd])
    | (simp (disch := first | omega | (simp only [RO]; done) | assumption) only [RS, X8, X9, X6, X7, Qu, Qv, Qq, X4, X0])
    | (simp (disch := (first | omega | (simp only [RO]; done) | assumption | (simp only [RM, Je]; done) | (simp only [RL, Je]; omega))) only [RD, reduceCtorEq, reduceIte, Je, J1, J3, J2, J6, Vb, hd])
  refine hQ _ _ ?_
  clear hQ
  refine Jj (fun K2 hK2 => ?_)
  refine Z6 (fun fr' H1 => ∃ b, fr' 1 = .int .i64 v ∧ fr' 2 = .ptr H.length 0 ∧ fr' 4 = .ptr (H.length + 1) 0 ∧ Qt H1 H.length = some (Sb n b) ∧ Qt H1 (H.length + 1) = some (Sb 0 .nilS) ∧ Mo H1 b xs (H.length + 2) ∧ Ext H H1) ?_ (fun fr' H1 h => hK2 _ _ ?_)
  · clear hK2
    repeat' first
      | (with_reducible first | refine Jg ?_)
      | (simp only [Q4, Jo, reduceIte, J0])
      | (simp only [Q3, RA, Jn, Jm, Jp, Q2, Q0, ev, ofValue, Jt, J0, J3, J2, J4, reduceCtorEq, reduceIte, Ju, Qb, Qa, Jy, aun, Q9, Jk, Jh, Jx, Jw, Ji, Q8, Jf, Q1, Jr, Js, J1, J5, Ja, J9, Jb, J6, J7, Jd, J8, RB, Jv, Je, Vb])
      | (simp (disch := (first | omega | (simp only [RO]; done) | assumption | (simp only [RM, Je]; done) | (simp only [RL, Je]; omega))) only [RD, reduceCtorEq, reduceIte, Je, J1, J3, J2, J6, Vb])
    refine Jq (MoCopy_calls n xs a _ ((ha.push _).push _) hlx) ?_
    rintro _ H2 ⟨b, rfl, m, x2⟩
    have hb1 := m.one
    have hcb : b.cells = [b] := AV.cells_one hb1
    have q4 : Qt H2 H.length = some (Sb n a) := Qh (by rw [Qp (by simp), Qo rfl]) x2
    have q8 : Qt H2 (H.length + 1) = some (Sb 0 .nilS) := Qh (Qo (by simp)) x2
    have l4 := Qr q4
    have m2 : Mo H2 b xs (H.length + 2) := m.low (by simp)
    repeat' first
      | (simp only [Q4, Jo, reduceIte, J0])
      | (simp only [Q3, RA, Jn, Jm, Jp, Q2, Q0, ev, ofValue, Jt, J0, J3, J2, J4, reduceCtorEq, reduceIte, Ju, Qb, Qa, Jy, aun, Q9, Jk, Jh, Jx, Jw, Ji, Q8, Jf, Q1, Jr, Js, J1, J5, Ja, J9, Jb, J6, J7, Jd, J8, RB, Jv, Je, Vb, q4])
      | (simp (disch := first | omega | (simp only [RO]; done) | assumption) only [RS, X8, X9, X6, X7, Qu, Qv, Qq, X4, X0])
      | (simp (disch := (first | omega | (simp only [RO]; done) | assumption | (simp only [RM, Je]; done) | (simp only [RL, Je]; omega))) only [RD, reduceCtorEq, reduceIte, Je, J1, J3, J2, J6, Vb, q4])
    all_goals
      exact ⟨b, by rw [Qk l4, if_pos rfl], by rw [Qk l4, if_neg (by omega)]; exact q8, m2.other (by omega) l4 _, (((Ext.push _ _).pushed _).trans x2).set (by omega) _⟩
  clear hK2
  obtain ⟨b, k1, k2, k4, q2, q4, m, x1⟩ := h
  have hb1 := m.one
  have hcb : b.cells = [b] := AV.cells_one hb1
  repeat' first
    | (with_reducible first | refine Jj (fun K hK => ?_) | refine Qc ?_ | refine Jg ?_)
    | (simp only [Q4, Jo, reduceIte, J0])
    | ((with_reducible refine hK _ _ ?_); clear hK)
    | (simp only [Q3, RA, Jn, Jm, Jp, Q2, Q0, ev, ofValue, Jt, J0, J3, J2, J4, reduceCtorEq, reduceIte, Ju, Qb, Qa, Jy, aun, Q9, Jk, Jh, Jx, Jw, Ji, Q8, Jf, Q1, Jr, Js, J1, J5, Ja, J9, Jb, J6, J7, Jd, J8, RB, Jv, Je, Vb, k1, k2, k4, q2, q4])
  refine X2 (fun c fr' H1 => ∃ (i : Nat) (ys : List Int), c = n - i ∧ i ≤ n ∧ fr' 1 = .int .i64 v ∧ fr' 2 = .ptr H.length 0 ∧ fr' 4 = .ptr (H.length + 1) 0 ∧ fr' 6 = .int .i64 (i : Int) ∧ Qt H1 H.length = some (Sb n b) ∧ Qt H1 (H.length + 1) = some (Sb 0 .nilS) ∧ Mo H1 b ys (H.length + 2) ∧ Right n ys ∧ (∀ p q, p < n → q < n → ent n ys p q = ent n xs p q + if p = q ∧ p < i then v else 0) ∧ Ext H H1) (m := n)
    ⟨0, xs, by omega, by omega, k1, k2, k4, rfl, q2, q4, m, hr, fun p q _ _ => by rw [if_neg (by omega), Int.add_zero], x1⟩ ?_
  clear k1 k2 k4 q2 q4 m x1
  rintro c fr' H1 ⟨i, ys, rfl, hi, k1, k2, k4, k6, q2, q4, m, hry, hy, x1⟩
  have e1 : IntKind.i64.wrap ((i : Int) + 1) = ((i + 1 : Nat) : Int) := by rw [Q5 (by omega) (by omega)]; omega
  by_cases hlt : i < n
  · have hpl := (hry.pl hlt hlt).2
    have hei : ent n ys i i = ent n xs i i := by rw [hy i i hlt hlt, if_neg (by omega), Int.add_zero]
    have hfe := G7 hr hlt hlt
    have hfi := hfit i hlt
    unfold Fit at hfe hfi
    have hAt := refAt_calls n ys b i i H1 m.ints hry hlt hlt
    rw [hei] at hAt
    repeat' first
      | (with_reducible first | refine Jj (fun K hK => ?_) | refine Qc ?_ | refine Q6 ?_ | refine Jg ?_ | refine Jz ?_)
      | ((with_reducible refine Jq (hAt) ?_); rintro _ _ ⟨rfl, rfl⟩)
      | (with_reducible refine X5 (fun hc => ?_) (fun hc => ?_) <;> (try simp only [RC] at hc) <;> (try (exfalso; first | omega | contradiction)))
      | (simp only [Q4, Jo, reduceIte, J0])
      | ((with_reducible refine hK _ _ ?_); clear hK)
      | (simp only [Q3, RA, Jn, Jm, Jp, Q2, Q0, ev, ofValue, Jt, J0, J3, J2, J4, reduceCtorEq, reduceIte, Ju, Qb, Qa, Jy, aun, Q9, Jk, Jh, Jx, Jw, Ji, Q8, Jf, Q1, Jr, Js, J1, J5, Ja, J9, Jb, J6, J7, Jd, J8, RB, Jv, Je, Vb, k1, k2, k4, k6, q2, q4])
      | (simp (disch := (first | omega | (simp only [RO]; done) | assumption | (simp only [RM, Je]; done) | (simp only [RL, Je]; omega))) only [RD, reduceCtorEq, reduceIte, Je, J1, J3, J2, J6, Vb, k1, k2, k4, k6, q2, q4])
    refine Jq (Of_calls (ent n xs i i) _ (by omega)) ?_
    rintro _ H2 ⟨s, rfl, S, x2⟩
    repeat' first
      | (simp only [Q3, RA, Jn, Jm, Jp, Q2, Q0, ev, ofValue, Jt, J0, J3, J2, J4, reduceCtorEq, reduceIte, Ju, Qb, Qa, Jy, aun, Q9, Jk, Jh, Jx, Jw, Ji, Q8, Jf, Q1, Jr, Js, J1, J5, Ja, J9, Jb, J6, J7, Jd, J8, RB, Jv, Je, Vb, k1])
    refine Jq (Of_calls v _ hv) ?_
    rintro _ H3 ⟨t, rfl, T, x3⟩
    repeat' first
      | (simp only [Q3, RA, Jn, Jm, Jp, Q2, Q0, ev, ofValue, Jt, J0, J3, J2, J4, reduceCtorEq, reduceIte, Ju, Qb, Qa, Jy, aun, Q9, Jk, Jh, Jx, Jw, Ji, Q8, Jf, Q1, Jr, Js, J1, J5, Ja, J9, Jb, J6, J7, Jd, J8, RB, Jv, Je, Vb])
    refine Jq (Radd_calls (ent n xs i i) v s t _ (S.ext x3) T (Sm.int (by omega)) (Sm.int hv)) ?_
    rintro _ H4 ⟨u, rfl, U, x4⟩
    have hu1 : u.one = true := U.one
    have hcu : u.cells = [u] := AV.cells_one hu1
    have x5 : Ext H1 H4 := (x2.trans x3).trans x4
    have m5 := (m.ext x5).push ⟨[.bool (decide (ent n xs i i + v < 0)), u], .own, 46⟩
    have U5 := U.push ⟨[.bool (decide (ent n xs i i + v < 0)), u], .own, 46⟩
    have q25 := Qh q2 (x5.pushed ⟨[.bool (decide (ent n xs i i + v < 0)), u], .own, 46⟩)
    have q45 := Qh q4 (x5.pushed ⟨[.bool (decide (ent n xs i i + v < 0)), u], .own, 46⟩)
    have hft : decide (((ent n xs i i + v).natAbs : Int) ≤ 1073741824) = true := decide_eq_true (by omega)
    have hF := Fits_calls (ent n xs i i + v) 1073741824 u _ U5 (Sm.int (by omega)) (by omega)
    rw [hft] at hF
    have hI := Int64_calls (ent n xs i i + v) u _ U5 (by omega)
    have hat := m5.at_ (k := .i64) (i := pl n i i) (by omega)
    have hput := m5.put (i := pl n i i) (by omega) (ent n xs i i + v)
    obtain ⟨g1, g2⟩ := m5.hd (i := pl n i i) (by omega)
    have lb := Qr g1
    have hset := Qk lb (Ib (ys.set (pl n i i) (ent n xs i i + v)))
    have n1 : (H.length = b.hd) = False := eq_false (by omega)
    have n2 : (H.length + 1 = b.hd) = False := eq_false (by omega)
    repeat' first
      | (with_reducible first | refine Jj (fun K hK => ?_) | refine Q6 ?_ | refine Jg ?_ | refine Qw (id := 10) [6, 8] pn42_10RfP (by kernel_rfl) (by kernel_rfl) ?_ | refine Jz ?_ | refine Zs ?_ | refine Z1 ?_)
      | (with_reducible refine Nv (hI) ?_)
      | (with_reducible refine Xe (fun _ x => (at_calls _ _ _ _ h8 hlt hlt)) ?_)
      | ((with_reducible refine Jq (hF) ?_); rintro _ _ ⟨rfl, rfl⟩)
      | (simp only [Q4, Jo, reduceIte, J0])
      | ((with_reducible refine hK _ _ ?_); clear hK)
      | (simp only [Q3, RA, Jn, Jm, Jp, Q2, Q0, ev, ofValue, Jt, J0, J3, J2, J4, reduceCtorEq, reduceIte, Ju, Qb, Qa, Jy, aun, Q9, Jk, Jh, Jx, Jw, Ji, Q8, Jf, Q1, Jr, Js, J1, J5, Ja, J9, Jb, J6, J7, Jd, J8, RB, Jv, Je, Vb, k1, k2, k4, k6, q25, q45, hat, hput, e1])
      | (simp (disch := first | omega | (simp only [RO]; done) | assumption) only [RS, X8, X9, X6, X7, Qu, Qv, Qq, X4, X0])
      | (simp (disch := (first | omega | (simp only [RO]; done) | assumption | (simp only [RM, Je]; done) | (simp only [RL, Je]; omega))) only [RD, reduceCtorEq, reduceIte, Je, J1, J3, J2, J6, Vb, k1, k2, k4, k6, q25, q45, hat, hput, e1])
    all_goals
      refine ⟨_, by omega, i + 1, _, rfl, by omega, rfl, by rw [hset, if_neg (by omega)]; exact q25, by rw [hset, if_neg (by omega)]; exact q45, m5.set (by omega) (by rw [List.length_set]), hry.set _ (by unfold Fit; omega), fun p q hp hq => ?_, (x1.trans (x5.pushed _)).set (by omega) _⟩
      rw [Rh h8 hlt hlt hp hq (by omega), hy p q hp hq]
      by_cases e : p = i ∧ q = i
      · obtain ⟨rfl, rfl⟩ := e
        rw [if_pos (by omega), if_pos ⟨rfl, by omega⟩]
      · rw [if_neg (by omega)]
        congr 1
        have : (p = q ∧ p < i) ↔ (p = q ∧ p < i + 1) := by omega
        simp only [this]
  · obtain rfl : i = n := by omega
    have l4 := Qr q4
    repeat' first
      | (with_reducible first | refine Jj (fun K hK => ?_) | refine Qz ?_ | refine Qj ?_ | refine Jg ?_ | refine Jz ?_)
      | (with_reducible refine X5 (fun hc => ?_) (fun hc => ?_) <;> (try simp only [RC] at hc) <;> (try (exfalso; first | omega | contradiction)))
      | (simp only [Q4, Jo, reduceIte, J0])
      | ((with_reducible refine hK _ _ ?_); clear hK)
      | (clear hK; (with_reducible refine hK _ _ ?_); clear hK)
      | (simp only [Q3, RA, Jn, Jm, Jp, Q2, Q0, ev, ofValue, Jt, J0, J3, J2, J4, reduceCtorEq, reduceIte, Ju, Qb, Qa, Jy, aun, Q9, Jk, Jh, Jx, Jw, Ji, Q8, Jf, Q1, Jr, Js, J1, J5, Ja, J9, Jb, J6, J7, Jd, J8, RB, Jv, Je, Vb, k1, k2, k4, k6, q2, q4])
      | (simp (disch := first | omega | (simp only [RO]; done) | assumption) only [RS, X8, X9, X6, X7, Qu, Qv, Qq, X4, X0])
      | (simp (disch := (first | omega | (simp only [RO]; done) | assumption | (simp only [RM, Je]; done) | (simp only [RL, Je]; omega))) only [RD, reduceCtorEq, reduceIte, Je, J1, J3, J2, J6, Vb, k1, k2, k4, k6, q2, q4])
    all_goals
      (
       (refine Qg (rs := [.cell 4 24, .tmp 5]) rfl ?_)
       (simp only [Qx, Qd, Fr.put_some, Fr.put_none, Qe, Qf, Qi, J0, reduceIte, k4, Qk l4])
       (try simp (disch := (first | omega | (simp only [RO]; done) | assumption | (simp only [RM, Je]; done) | (simp only [RL, Je]; omega))) only [RD, reduceCtorEq, reduceIte, Je, J1, J3, J2, J6, Vb, k4, Qk l4]))
    all_goals
      refine ⟨b, ys, rfl, (m.other (by omega) l4 _).low (by omega), hry, fun p q hp hq => ?_, x1.set (by omega) _⟩
      rw [hy p q hp hq]
      congr 1
      have : (p = q ∧ p < i) ↔ p = q := by omega
      simp only [this]
end Go.Proofs.YtfalfmfkifemeaaGreatDoor
namespace Go.Proofs.YtfalfmfkifemeaaGreatDoor
open Go.AL Go.PW Go.PD
theorem Zf : type_of% (Jc @Z8 (Jc @Xd (Jc @Xz (Jc @Xx (Jc @Xw (Jc @Xv (Jc @X1 (Jc @Xj (Jc @Za (@Z9)))))))))) := Jc @Z8 (Jc @Xd (Jc @Xz (Jc @Xx (Jc @Xw (Jc @Xv (Jc @X1 (Jc @Xj (Jc @Za (@Z9)))))))))
abbrev pn38_10RfQ : Plan := (.one 0 (.one 1 (.one 2 (.one 5 (.one 7 (.one 8 (.one 9 (.one 10 (.one 12 (.one 13 (.one 14 (.one 15 (.pur 3 (.alt 20 (.ext 4 (.ext 6 (.ext 11 (.ext 16 (.ext 17 (.ext 18 (.ext 19 (.one 21 .nil)))))))) (.ext 4 (.alt 20 (.ext 6 (.ext 11 (.ext 16 (.ext 17 (.ext 18 (.ext 19 (.one 21 .nil))))))) (.ext 6 (.alt 20 (.ext 11 (.ext 16 (.ext 17 (.ext 18 (.ext 19 (.one 21 .nil)))))) (.ext 11 (.alt 20 (.ext 16 (.ext 17 (.ext 18 (.ext 19 (.one 21 .nil))))) (.ext 16 (.alt 20 (.ext 17 (.ext 18 (.ext 19 (.one 21 .nil)))) (.ext 17 (.alt 20 (.ext 18 (.ext 19 (.one 21 .nil))) (.ext 18 (.alt 20 (.ext 19 (.one 21 .nil)) (.ext 19 (.one 20 (.one 21 .nil)))))))))))))))))))))))))))))
abbrev pn38_13RfQ : Plan := (.one 0 (.one 1 (.one 2 (.one 3 (.one 4 (.one 5 (.one 7 (.pur 6 (.ext 8 (.one 9 (.one 10 (.one 11 (.one 12 (.one 13 .nil))))))))))))))
set_option maxRecDepth 8000
theorem mul_nat {x y : Int} {p q : Nat} (hx : x.natAbs ≤ p) (hy : y.natAbs ≤ q) : (x * y).natAbs ≤ p * q := by
  rw [Int.natAbs_mul]; exact Nat.mul_le_mul hx hy
def Yb (i j p q : Nat) : Prop := min p q < i ∨ (min p q = i ∧ max p q < j)
instance (i j p q : Nat) : Decidable (Yb i j p q) := by unfold Yb; infer_instance
abbrev zb : Blk := ⟨[.bool false, .nilS], .own, 46⟩
set_option maxHeartbeats 16000000 in
theorem Outer_calls (n : Nat) (xs hs : List Int) (a c : AV) (w : Int) (H : Hp) (ha : Ints H .i64 a xs) (hr : Right n xs) (hh : Ints H .i64 c hs) (hn : hs.length = n) (hw : -9223372036854775808 ≤ w ∧ w ≤ 9223372036854775807) (hhs : ∀ x ∈ hs, -9223372036854775808 ≤ x ∧ x ≤ 9223372036854775807) : ACalls Tryz.prog 38 [Ya n a, .int .i64 w, c] H fun r H' => ((∃ b ys, r = .tup [Ya n b, .int .i64 0] ∧ Mo H' b ys H.length ∧ Right n ys ∧ ∀ p q, p < n → q < n → ent n ys p q = ent n xs p q + w * (hs.getD p 0 * hs.getD q 0)) ∨ r = .tup [Ya 0 .nilS, .int .i64 21]) ∧ Ext H H' := by
  have ha1 : a.one = true := ha.rd.one
  have hc : a.cells = [a] := AV.cells_one ha1
  obtain ⟨h8, hlx⟩ := hr.len
  have hd : decide (Right n xs) = true := decide_eq_true hr
  have hlen := hh.rd.len Ym
  rw [hn] at hlen
  refine Q7 Tryz.func38 rfl (by kernel_rfl) (by kernel_rfl) ?_
  refine Jj (fun K hQ => ?_)
  repeat' first
    | (with_reducible first | refine Jj (fun K hK => ?_) | refine Q6 ?_ | refine Jg ?_ | refine Jz ?_)
    | ((with_reducible refine Jq (symRight_calls _ _ _ _ ((ha.push _).push _) hlx) ?_); rintro _ _ ⟨rfl, rfl⟩)
    | (simp only [Q4, Jo, reduceIte, J0])
    | ((with_reducible refine hK _ _ ?_); clear hK)
    | (simp only [Q3, RA, Jn, Jm, Jp, Q2, Q0, ev, ofValue, Jt, J0, J3, J2, J4, reduceCtorEq, reduceIte, Ju, Qb, Qa, Jy, aun, Q9, Jk, Jh, Jx, Jw, Ji, Q8, Jf, Q1, Jr, Js, J1, J5, Ja, J9, Jb, J6, J7, Jd, J8, RB, Jv, Je, Zf, hd, hlen])
    | (simp (disch := first | omega | (simp only [RO]; done) | assumption) only [RS, X8, X9, X6, X7, Qu, Qv, Qq, X4, X0])
    | (simp (disch := (first | omega | (simp only [RO]; done) | assumption | (simp only [RM, Je]; done) | (simp only [RL, Je]; omega))) only [RD, reduceCtorEq, reduceIte, Je, J1, J3, J2, J6, Zf, hd, hlen])
  refine hQ _ _ ?_
  clear hQ
  refine Jj (fun K hQ => ?_)
  repeat' first
    | (with_reducible first | refine Jj (fun K hK => ?_) | refine Q6 ?_ | refine Jg ?_ | refine Jz ?_)
    | ((with_reducible refine Jq (symRight_calls _ _ _ _ ((ha.push _).push _) hlx) ?_); rintro _ _ ⟨rfl, rfl⟩)
    | (simp only [Q4, Jo, reduceIte, J0])
    | ((with_reducible refine hK _ _ ?_); clear hK)
    | (simp only [Q3, RA, Jn, Jm, Jp, Q2, Q0, ev, ofValue, Jt, J0, J3, J2, J4, reduceCtorEq, reduceIte, Ju, Qb, Qa, Jy, aun, Q9, Jk, Jh, Jx, Jw, Ji, Q8, Jf, Q1, Jr, Js, J1, J5, Ja, J9, Jb, J6, J7, Jd, J8, RB, Jv, Je, Zf, hd, hlen])
    | (simp (disch := first | omega | (simp only [RO]; done) | assumption) only [RS, X8, X9, X6, X7, Qu, Qv, Qq, X4, X0])
    | (simp (disch := (first | omega | (simp only [RO]; done) | assumption | (simp only [RM, Je]; done) | (simp only [RL, Je]; omega))) only [RD, reduceCtorEq, reduceIte, Je, J1, J3, J2, J6, Zf, hd, hlen])
  refine hQ _ _ ?_
  clear hQ
  refine Jj (fun K2 hK2 => ?_)
  refine Z6 (fun fr' H1 => ∃ b, fr' 1 = .int .i64 w ∧ fr' 2 = c ∧ fr' 3 = .ptr H.length 0 ∧ fr' 6 = .ptr (H.length + 1) 0 ∧ Qt H1 H.length = some (Sb n b) ∧ Qt H1 (H.length + 1) = some (Sb 0 .nilS) ∧ Mo H1 b xs (H.length + 2) ∧ Ext H H1) ?_ (fun fr' H1 h => hK2 _ _ ?_)
  · clear hK2
    repeat' first
      | (with_reducible first | refine Jg ?_)
      | (simp only [Q4, Jo, reduceIte, J0])
      | (simp only [Q3, RA, Jn, Jm, Jp, Q2, Q0, ev, ofValue, Jt, J0, J3, J2, J4, reduceCtorEq, reduceIte, Ju, Qb, Qa, Jy, aun, Q9, Jk, Jh, Jx, Jw, Ji, Q8, Jf, Q1, Jr, Js, J1, J5, Ja, J9, Jb, J6, J7, Jd, J8, RB, Jv, Je, Zf])
      | (simp (disch := (first | omega | (simp only [RO]; done) | assumption | (simp only [RM, Je]; done) | (simp only [RL, Je]; omega))) only [RD, reduceCtorEq, reduceIte, Je, J1, J3, J2, J6, Zf])
    refine Jq (MoCopy_calls n xs a _ ((ha.push _).push _) hlx) ?_
    rintro _ H2 ⟨b, rfl, m, x2⟩
    have hb1 := m.one
    have hcb : b.cells = [b] := AV.cells_one hb1
    have q4 : Qt H2 H.length = some (Sb n a) := Qh (by rw [Qp (by simp), Qo rfl]) x2
    have q8 : Qt H2 (H.length + 1) = some (Sb 0 .nilS) := Qh (Qo (by simp)) x2
    have l4 := Qr q4
    have m2 : Mo H2 b xs (H.length + 2) := m.low (by simp)
    repeat' first
      | (simp only [Q4, Jo, reduceIte, J0])
      | (simp only [Q3, RA, Jn, Jm, Jp, Q2, Q0, ev, ofValue, Jt, J0, J3, J2, J4, reduceCtorEq, reduceIte, Ju, Qb, Qa, Jy, aun, Q9, Jk, Jh, Jx, Jw, Ji, Q8, Jf, Q1, Jr, Js, J1, J5, Ja, J9, Jb, J6, J7, Jd, J8, RB, Jv, Je, Zf, q4])
      | (simp (disch := first | omega | (simp only [RO]; done) | assumption) only [RS, X8, X9, X6, X7, Qu, Qv, Qq, X4, X0])
      | (simp (disch := (first | omega | (simp only [RO]; done) | assumption | (simp only [RM, Je]; done) | (simp only [RL, Je]; omega))) only [RD, reduceCtorEq, reduceIte, Je, J1, J3, J2, J6, Zf, q4])
    all_goals
      exact ⟨b, by rw [Qk l4, if_pos rfl], by rw [Qk l4, if_neg (by omega)]; exact q8, m2.other (by omega) l4 _, (((Ext.push _ _).pushed _).trans x2).set (by omega) _⟩
  clear hK2
  obtain ⟨b, k1, k2, k3, k6, q3, q6, m, x1⟩ := h
  have hb1 := m.one
  have hcb : b.cells = [b] := AV.cells_one hb1
  repeat' first
    | (with_reducible first | refine Jj (fun K hK => ?_) | refine Qc ?_ | refine Jg ?_)
    | (simp only [Q4, Jo, reduceIte, J0])
    | ((with_reducible refine hK _ _ ?_); clear hK)
    | (simp only [Q3, RA, Jn, Jm, Jp, Q2, Q0, ev, ofValue, Jt, J0, J3, J2, J4, reduceCtorEq, reduceIte, Ju, Qb, Qa, Jy, aun, Q9, Jk, Jh, Jx, Jw, Ji, Q8, Jf, Q1, Jr, Js, J1, J5, Ja, J9, Jb, J6, J7, Jd, J8, RB, Jv, Je, Zf, k1, k2, k3, k6, q3, q6])
  refine X2 (fun l fr' H1 => ∃ (i : Nat) (ys : List Int), l = n - i ∧ i ≤ n ∧ fr' 1 = .int .i64 w ∧ fr' 2 = c ∧ fr' 3 = .ptr H.length 0 ∧ fr' 6 = .ptr (H.length + 1) 0 ∧ fr' 8 = .int .i64 (i : Int) ∧ Qt H1 H.length = some (Sb n b) ∧ Qt H1 (H.length + 1) = some (Sb 0 .nilS) ∧ Mo H1 b ys (H.length + 2) ∧ Right n ys ∧ (∀ p q, p < n → q < n → ent n ys p q = ent n xs p q + if Yb i i p q then w * (hs.getD p 0 * hs.getD q 0) else 0) ∧ Ext H H1) (m := n)
    ⟨0, xs, by omega, by omega, k1, k2, k3, k6, rfl, q3, q6, m, hr, fun p q _ _ => by rw [if_neg (by unfold Yb; omega), Int.add_zero], x1⟩ ?_
  clear k1 k2 k3 k6 q3 q6 m x1
  rintro l fr' H1 ⟨i, ys, rfl, hi, k1, k2, k3, k6, k8, q3, q6, m, hry, hy, x1⟩
  have e1 : IntKind.i64.wrap ((i : Int) + 1) = ((i + 1 : Nat) : Int) := by rw [Q5 (by omega) (by omega)]; omega
  by_cases hlt : i < n
  · skip
    repeat' first
      | (with_reducible first | refine Jj (fun K hK => ?_) | refine Qc ?_ | refine Q6 ?_ | refine Jg ?_ | refine Jz ?_)
      | (with_reducible refine X5 (fun hc => ?_) (fun hc => ?_) <;> (try simp only [RC] at hc) <;> (try (exfalso; first | omega | contradiction)))
      | (simp only [Q4, Jo, reduceIte, J0])
      | ((with_reducible refine hK _ _ ?_); clear hK)
      | (simp only [Q3, RA, Jn, Jm, Jp, Q2, Q0, ev, ofValue, Jt, J0, J3, J2, J4, reduceCtorEq, reduceIte, Ju, Qb, Qa, Jy, aun, Q9, Jk, Jh, Jx, Jw, Ji, Q8, Jf, Q1, Jr, Js, J1, J5, Ja, J9, Jb, J6, J7, Jd, J8, RB, Jv, Je, Zf, k1, k2, k3, k6, k8, q3, q6])
      | (simp (disch := (first | omega | (simp only [RO]; done) | assumption | (simp only [RM, Je]; done) | (simp only [RL, Je]; omega))) only [RD, reduceCtorEq, reduceIte, Je, J1, J3, J2, J6, Zf, k1, k2, k3, k6, k8, q3, q6])
    refine X2 (fun l fr' H1 => ∃ (j : Nat) (ys : List Int), l = n - j ∧ i ≤ j ∧ j ≤ n ∧ fr' 1 = .int .i64 w ∧ fr' 2 = c ∧ fr' 3 = .ptr H.length 0 ∧ fr' 6 = .ptr (H.length + 1) 0 ∧ fr' 8 = .int .i64 (i : Int) ∧ fr' 9 = .int .i64 (j : Int) ∧ Qt H1 H.length = some (Sb n b) ∧ Qt H1 (H.length + 1) = some (Sb 0 .nilS) ∧ Mo H1 b ys (H.length + 2) ∧ Right n ys ∧ (∀ p q, p < n → q < n → ent n ys p q = ent n xs p q + if Yb i j p q then w * (hs.getD p 0 * hs.getD q 0) else 0) ∧ Ext H H1) (m := n - i)
      ⟨i, ys, by omega, by omega, by omega, k1, k2, k3, k6, k8, rfl, q3, q6, m, hry, hy, x1⟩ ?_
    clear k1 k2 k3 k6 k8 q3 q6 m hry hy x1
    rintro l fr' H1 ⟨j, ys, rfl, hij, hj, k1, k2, k3, k6, k8, k9, q3, q6, m, hry, hy, x1⟩
    have e2 : IntKind.i64.wrap ((j : Int) + 1) = ((j + 1 : Nat) : Int) := by rw [Q5 (by omega) (by omega)]; omega
    by_cases hjt : j < n
    · have hpl := (hry.pl hlt hjt).2
      have hei : ent n ys i j = ent n xs i j := by rw [hy i j hlt hjt, if_neg (by unfold Yb; omega), Int.add_zero]
      have hfe := G7 hr hlt hjt
      unfold Fit at hfe
      have hAt := fun H0 (x0 : ∃ E, H0 = H1 ++ E) => refAt_calls n ys b i j H0 (m.ints.ext x0) hry hlt hjt
      rw [hei] at hAt
      have hbi := hhs _ (Wy (xs := hs) (i := i) (by omega))
      have hbj := hhs _ (Wy (xs := hs) (i := j) (by omega))
      have n1 : (hs.getD i 0 * hs.getD j 0).natAbs ≤ 9223372036854775808 * 9223372036854775808 := mul_nat (by omega) (by omega)
      have n2 : (w * (hs.getD i 0 * hs.getD j 0)).natAbs ≤ 9223372036854775808 * (9223372036854775808 * 9223372036854775808) := mul_nat (by omega) n1
      obtain ⟨z, hz⟩ : ∃ z, z = ent n xs i j + w * (hs.getD i 0 * hs.getD j 0) := ⟨_, rfl⟩
      have hzn : z.natAbs ≤ 2 ^ 1000 := Nat.le_trans (show z.natAbs ≤ 9223372036854775808 * (9223372036854775808 * 9223372036854775808) + 1073741824 by rw [hz]; omega) (by decide +kernel)
      have s1 : Sm (hs.getD i 0 * hs.getD j 0) := Sm_of (Nat.le_trans n1 (by decide +kernel))
      have s2 : Sm (w * (hs.getD i 0 * hs.getD j 0)) := Sm_of (Nat.le_trans n2 (by decide +kernel))
      have hh1 := hh.ext x1
      refine Jj (fun K hQ => ?_)
      repeat' first
        | (with_reducible first | refine Jj (fun K hK => ?_) | refine Q6 ?_ | refine Jg ?_ | refine Jz ?_)
        | (with_reducible refine X5 (fun hc => ?_) (fun hc => ?_) <;> (try simp only [RC] at hc) <;> (try (exfalso; first | omega | contradiction)))
        | (simp only [Q4, Jo, reduceIte, J0])
        | ((with_reducible refine hK _ _ ?_); clear hK)
        | (simp only [Q3, RA, Jn, Jm, Jp, Q2, Q0, ev, ofValue, Jt, J0, J3, J2, J4, reduceCtorEq, reduceIte, Ju, Qb, Qa, Jy, aun, Q9, Jk, Jh, Jx, Jw, Ji, Q8, Jf, Q1, Jr, Js, J1, J5, Ja, J9, Jb, J6, J7, Jd, J8, RB, Jv, Je, Zf, k1, k2, k3, k6, k8, k9, q3, q6])
        | (simp (disch := (first | omega | (simp only [RO]; done) | assumption | (simp only [RM, Je]; done) | (simp only [RL, Je]; omega))) only [RD, reduceCtorEq, reduceIte, Je, J1, J3, J2, J6, Zf, k1, k2, k3, k6, k8, k9, q3, q6])
      refine hQ _ _ ?_
      clear hQ
      refine Jj (fun K3 hK3 => ?_)
      refine Qc ?_
      refine Jj (fun K4 hK4 => ?_)
      refine Z6 (fun fr' H2 => ∃ h u, fr' 1 = .int .i64 w ∧ fr' 2 = c ∧ fr' 3 = .ptr H.length 0 ∧ fr' 6 = .ptr (H.length + 1) 0 ∧ fr' 8 = .int .i64 (i : Int) ∧ fr' 9 = .int .i64 (j : Int) ∧ fr' 10 = .ptr h 0 ∧ Qt H2 h = some ⟨[.bool (decide (z < 0)), u], .own, 46⟩ ∧ Bs_ H2 u z ∧ Ext H1 H2) ?_ (fun fr' H2 h => hK4 _ _ ?_)
      · clear hK4
        repeat' first
          | (with_reducible first | refine Qw (id := 10) [3, 4, 6, 11, 16, 17, 18, 19] pn38_10RfQ (by kernel_rfl) (by kernel_rfl) ?_ | refine Zs ?_ | refine Z1 ?_)
          | (with_reducible refine Xe (fun _ x => (hAt _ x)) ?_)
          | (with_reducible refine Jc ?_ ?_)
          | (simp only [Q3, RA, Jn, Jm, Jp, Q2, Q0, ev, ofValue, Jt, J0, J3, J2, J4, reduceCtorEq, reduceIte, Ju, Qb, Qa, Jy, aun, Q9, Jk, Jh, Jx, Jw, Ji, Q8, Jf, Q1, Jr, Js, J1, J5, Ja, J9, Jb, J6, J7, Jd, J8, RB, Jv, Je, Zf, k1, k2, k3, k6, k8, k9, q3, q6])
          | (simp (disch := first | omega | (simp only [RO]; done) | assumption) only [RS, hh1.rd.at1 Ym W3, hh1.load1 agg2, X8, X9, X6, X7, Qu, Qv, Qq, X4, X0])
          | (simp (disch := (first | omega | (simp only [RO]; done) | assumption | (simp only [RM, Je]; done) | (simp only [RL, Je]; omega))) only [RD, reduceCtorEq, reduceIte, Je, J1, J3, J2, J6, Zf, k1, k2, k3, k6, k8, k9, q3, q6])
        all_goals
          refine Xi (Of_calls (ent n xs i j) _ (by omega)) ?_
          rintro _ H2 ⟨s1_, rfl, S1, y2⟩
          refine ⟨y2, ?_⟩
          have l2 := y2.len
          (try simp only [List.length_append, List.length_cons, List.length_nil] at l2)
          repeat' first
            | (with_reducible first | refine Z1 ?_)
            | (with_reducible refine Jc ?_ ?_)
            | (simp only [Q3, RA, Jn, Jm, Jp, Q2, Q0, ev, ofValue, Jt, J0, J3, J2, J4, reduceCtorEq, reduceIte, Ju, Qb, Qa, Jy, aun, Q9, Jk, Jh, Jx, Jw, Ji, Q8, Jf, Q1, Jr, Js, J1, J5, Ja, J9, Jb, J6, J7, Jd, J8, RB, Jv, Je, Zf, k1, k2, k3, k6, k8, k9])
        all_goals
          refine Xi (Of_calls w _ hw) ?_
          rintro _ H3 ⟨s2_, rfl, S2, y3⟩
          refine ⟨y3, ?_⟩
          have l3 := y3.len
          (try simp only [List.length_append, List.length_cons, List.length_nil] at l3)
          repeat' first
            | (with_reducible first | refine Z1 ?_)
            | (with_reducible refine Jc ?_ ?_)
            | (simp only [Q3, RA, Jn, Jm, Jp, Q2, Q0, ev, ofValue, Jt, J0, J3, J2, J4, reduceCtorEq, reduceIte, Ju, Qb, Qa, Jy, aun, Q9, Jk, Jh, Jx, Jw, Ji, Q8, Jf, Q1, Jr, Js, J1, J5, Ja, J9, Jb, J6, J7, Jd, J8, RB, Jv, Je, Zf, k1, k2, k3, k6, k8, k9])
        all_goals
          refine Xi (Of_calls (hs.getD i 0) _ hbi) ?_
          rintro _ H4 ⟨s3_, rfl, S3, y4⟩
          refine ⟨y4, ?_⟩
          have l4 := y4.len
          (try simp only [List.length_append, List.length_cons, List.length_nil] at l4)
          repeat' first
            | (with_reducible first | refine Z1 ?_)
            | (with_reducible refine Jc ?_ ?_)
            | (simp only [Q3, RA, Jn, Jm, Jp, Q2, Q0, ev, ofValue, Jt, J0, J3, J2, J4, reduceCtorEq, reduceIte, Ju, Qb, Qa, Jy, aun, Q9, Jk, Jh, Jx, Jw, Ji, Q8, Jf, Q1, Jr, Js, J1, J5, Ja, J9, Jb, J6, J7, Jd, J8, RB, Jv, Je, Zf, k1, k2, k3, k6, k8, k9])
        all_goals
          refine Xi (Of_calls (hs.getD j 0) _ hbj) ?_
          rintro _ H5 ⟨s4_, rfl, S4, y5⟩
          refine ⟨y5, ?_⟩
          have l5 := y5.len
          (try simp only [List.length_append, List.length_cons, List.length_nil] at l5)
          repeat' first
            | (with_reducible first | refine Z1 ?_)
            | (with_reducible refine Jc ?_ ?_)
            | (simp only [Q3, RA, Jn, Jm, Jp, Q2, Q0, ev, ofValue, Jt, J0, J3, J2, J4, reduceCtorEq, reduceIte, Ju, Qb, Qa, Jy, aun, Q9, Jk, Jh, Jx, Jw, Ji, Q8, Jf, Q1, Jr, Js, J1, J5, Ja, J9, Jb, J6, J7, Jd, J8, RB, Jv, Je, Zf, k1, k2, k3, k6, k8, k9])
        all_goals
          refine Xi (Rmul_calls (hs.getD i 0) (hs.getD j 0) s3_ s4_ _ (S3.ext (by (repeat first | exact Ext.refl _ | exact Ext.push _ _ | assumption | refine Ext.pushed ?_ _ | refine Ext.trans ?_ (by assumption)))) (S4.ext (by (repeat first | exact Ext.refl _ | exact Ext.push _ _ | assumption | refine Ext.pushed ?_ _ | refine Ext.trans ?_ (by assumption)))) (Sm.int hbi) (Sm.int hbj)) ?_
          rintro _ H6 ⟨s5_, rfl, S5, y6⟩
          refine ⟨y6, ?_⟩
          have l6 := y6.len
          (try simp only [List.length_append, List.length_cons, List.length_nil] at l6)
          repeat' first
            | (with_reducible first | refine Z1 ?_)
            | (with_reducible refine Jc ?_ ?_)
            | (simp only [Q3, RA, Jn, Jm, Jp, Q2, Q0, ev, ofValue, Jt, J0, J3, J2, J4, reduceCtorEq, reduceIte, Ju, Qb, Qa, Jy, aun, Q9, Jk, Jh, Jx, Jw, Ji, Q8, Jf, Q1, Jr, Js, J1, J5, Ja, J9, Jb, J6, J7, Jd, J8, RB, Jv, Je, Zf, k1, k2, k3, k6, k8, k9])
        all_goals
          refine Xi (Rmul_calls w (hs.getD i 0 * hs.getD j 0) s2_ s5_ _ (S2.ext (by (repeat first | exact Ext.refl _ | exact Ext.push _ _ | assumption | refine Ext.pushed ?_ _ | refine Ext.trans ?_ (by assumption)))) (S5.ext (by (repeat first | exact Ext.refl _ | exact Ext.push _ _ | assumption | refine Ext.pushed ?_ _ | refine Ext.trans ?_ (by assumption)))) (Sm.int hw) s1) ?_
          rintro _ H7 ⟨s6_, rfl, S6, y7⟩
          refine ⟨y7, ?_⟩
          have l7 := y7.len
          (try simp only [List.length_append, List.length_cons, List.length_nil] at l7)
          repeat' first
            | (with_reducible first | refine Z1 ?_)
            | (with_reducible refine Jc ?_ ?_)
            | (simp only [Q3, RA, Jn, Jm, Jp, Q2, Q0, ev, ofValue, Jt, J0, J3, J2, J4, reduceCtorEq, reduceIte, Ju, Qb, Qa, Jy, aun, Q9, Jk, Jh, Jx, Jw, Ji, Q8, Jf, Q1, Jr, Js, J1, J5, Ja, J9, Jb, J6, J7, Jd, J8, RB, Jv, Je, Zf, k1, k2, k3, k6, k8, k9])
        all_goals
          refine Xi (Radd_calls (ent n xs i j) (w * (hs.getD i 0 * hs.getD j 0)) s1_ s6_ _ (S1.ext (by (repeat first | exact Ext.refl _ | exact Ext.push _ _ | assumption | refine Ext.pushed ?_ _ | refine Ext.trans ?_ (by assumption)))) (S6.ext (by (repeat first | exact Ext.refl _ | exact Ext.push _ _ | assumption | refine Ext.pushed ?_ _ | refine Ext.trans ?_ (by assumption)))) (Sm.int (by omega)) s2) ?_
          rintro _ H8 ⟨s7_, rfl, S7, y8⟩
          refine ⟨y8, ?_⟩
          have l8 := y8.len
          (try simp only [List.length_append, List.length_cons, List.length_nil] at l8)
          have hcu : s7_.cells = [s7_] := S7.cells
          have hou : s7_.one = true := S7.one
          rw [← hz]
          rw [← hz] at S7
          first | (have q10 : Qt H8 (List.length H1) = some zb := by (refine Qh (H := H1 ++ [zb]) (Qo rfl) ?_; (repeat first | exact Ext.refl _ | exact Ext.push _ _ | assumption | refine Ext.pushed ?_ _ | refine Ext.trans ?_ (by assumption)))) | (have q10 : Qt H8 (List.length H2) = some zb := by (refine Qh (H := H2 ++ [zb]) (Qo rfl) ?_; (repeat first | exact Ext.refl _ | exact Ext.push _ _ | assumption | refine Ext.pushed ?_ _ | refine Ext.trans ?_ (by assumption)))) | (have q10 : Qt H8 (List.length H3) = some zb := by (refine Qh (H := H3 ++ [zb]) (Qo rfl) ?_; (repeat first | exact Ext.refl _ | exact Ext.push _ _ | assumption | refine Ext.pushed ?_ _ | refine Ext.trans ?_ (by assumption)))) | (have q10 : Qt H8 (List.length H4) = some zb := by (refine Qh (H := H4 ++ [zb]) (Qo rfl) ?_; (repeat first | exact Ext.refl _ | exact Ext.push _ _ | assumption | refine Ext.pushed ?_ _ | refine Ext.trans ?_ (by assumption)))) | (have q10 : Qt H8 (List.length H5) = some zb := by (refine Qh (H := H5 ++ [zb]) (Qo rfl) ?_; (repeat first | exact Ext.refl _ | exact Ext.push _ _ | assumption | refine Ext.pushed ?_ _ | refine Ext.trans ?_ (by assumption)))) | (have q10 : Qt H8 (List.length H6) = some zb := by (refine Qh (H := H6 ++ [zb]) (Qo rfl) ?_; (repeat first | exact Ext.refl _ | exact Ext.push _ _ | assumption | refine Ext.pushed ?_ _ | refine Ext.trans ?_ (by assumption)))) | (have q10 : Qt H8 (List.length H7) = some zb := by (refine Qh (H := H7 ++ [zb]) (Qo rfl) ?_; (repeat first | exact Ext.refl _ | exact Ext.push _ _ | assumption | refine Ext.pushed ?_ _ | refine Ext.trans ?_ (by assumption)))) | have q10 : True := trivial
          repeat' first
            | (simp only [Q4, Jo, reduceIte, J0])
            | (simp only [Q3, RA, Jn, Jm, Jp, Q2, Q0, ev, ofValue, Jt, J0, J3, J2, J4, reduceCtorEq, reduceIte, Ju, Qb, Qa, Jy, aun, Q9, Jk, Jh, Jx, Jw, Ji, Q8, Jf, Q1, Jr, Js, J1, J5, Ja, J9, Jb, J6, J7, Jd, J8, RB, Jv, Je, Zf, k1, k2, k3, k6, k8, k9, q10])
            | (simp (disch := first | omega | (simp only [RO]; done) | assumption) only [RS, X8, X9, X6, X7, Qu, Qv, Qq, X4, X0])
            | (simp (disch := (first | omega | (simp only [RO]; done) | assumption | (simp only [RM, Je]; done) | (simp only [RL, Je]; omega))) only [RD, reduceCtorEq, reduceIte, Je, J1, J3, J2, J6, Zf, k1, k2, k3, k6, k8, k9, q10])
        all_goals first
          | exact ⟨_, _, rfl, by rw [Qk (Qr q10), if_pos rfl], S7.other q10 (by decide) _, Ext.set (by (repeat first | exact Ext.refl _ | exact Ext.push _ _ | assumption | refine Ext.pushed ?_ _ | refine Ext.trans ?_ (by assumption))) (by omega) _⟩
          | exact ⟨_, _, rfl, by first | exact Qo rfl | rw [if_pos rfl], S7.push _, by (repeat first | exact Ext.refl _ | exact Ext.push _ _ | assumption | refine Ext.pushed ?_ _ | refine Ext.trans ?_ (by assumption))⟩
      clear hK4
      clear k1 k2 k3 k6 k8 k9
      obtain ⟨h, u, k1, k2, k3, k6, k8, k9, k10, q10, U, y⟩ := h
      have hu1 : u.one = true := U.one
      have hcu : u.cells = [u] := U.cells
      have m5 := m.ext y
      have q35 := Qh q3 y
      have q65 := Qh q6 y
      have hF := Fits_calls z 1073741824 u _ U (Sm_of hzn) (by omega)
      have l6 := Qr q65
      by_cases hf : Fit z
      · have hf' := hf
        unfold Fit at hf'
        have hft : decide ((z.natAbs : Int) ≤ 1073741824) = true := decide_eq_true (by omega)
        rw [hft] at hF
        have hI := Int64_calls z u _ U (by omega)
        have hat := m5.at_ (k := .i64) (i := pl n i j) (by omega)
        have hput := m5.put (i := pl n i j) (by omega) z
        obtain ⟨g1, g2⟩ := m5.hd (i := pl n i j) (by omega)
        have lb := Qr g1
        have hset := Qk lb (Ib (ys.set (pl n i j) z))
        repeat' first
          | (with_reducible first | refine Jj (fun K hK => ?_) | refine Q6 ?_ | refine Jg ?_ | refine Qw (id := 13) [6, 8] pn38_13RfQ (by kernel_rfl) (by kernel_rfl) ?_ | refine Jz ?_ | refine Zs ?_ | refine Z1 ?_)
          | (with_reducible refine Nv (hI) ?_)
          | (with_reducible refine Xe (fun _ x => (at_calls _ _ _ _ h8 hlt hjt)) ?_)
          | ((with_reducible refine Jq (hF) ?_); rintro _ _ ⟨rfl, rfl⟩)
          | (simp only [Q4, Jo, reduceIte, J0])
          | ((with_reducible refine hK _ _ ?_); clear hK)
          | (simp only [Q3, RA, Jn, Jm, Jp, Q2, Q0, ev, ofValue, Jt, J0, J3, J2, J4, reduceCtorEq, reduceIte, Ju, Qb, Qa, Jy, aun, Q9, Jk, Jh, Jx, Jw, Ji, Q8, Jf, Q1, Jr, Js, J1, J5, Ja, J9, Jb, J6, J7, Jd, J8, RB, Jv, Je, Zf, k1, k2, k3, k6, k8, k9, k10, q10, q35, q65, hat, hput])
          | (simp (disch := (first | omega | (simp only [RO]; done) | assumption | (simp only [RM, Je]; done) | (simp only [RL, Je]; omega))) only [RD, reduceCtorEq, reduceIte, Je, J1, J3, J2, J6, Zf, k1, k2, k3, k6, k8, k9, k10, q10, q35, q65, hat, hput])
        all_goals
          refine hK3 _ _ ?_
          repeat' first
            | (with_reducible first | refine Jg ?_)
            | (simp only [Q4, Jo, reduceIte, J0])
            | (simp only [Q3, RA, Jn, Jm, Jp, Q2, Q0, ev, ofValue, Jt, J0, J3, J2, J4, reduceCtorEq, reduceIte, Ju, Qb, Qa, Jy, aun, Q9, Jk, Jh, Jx, Jw, Ji, Q8, Jf, Q1, Jr, Js, J1, J5, Ja, J9, Jb, J6, J7, Jd, J8, RB, Jv, Je, Zf, k1, k2, k3, k6, k8, k9, e2])
        all_goals
          refine ⟨_, by omega, j + 1, _, rfl, by omega, by omega, rfl, by rw [hset, if_neg (by omega)]; exact q35, by rw [hset, if_neg (by omega)]; exact q65, m5.set (by omega) (by rw [List.length_set]), hry.set _ hf, fun p q hp hq => ?_, (x1.trans y).set (by omega) _⟩
          rw [Rh h8 hlt hjt hp hq (by omega), hy p q hp hq]
          by_cases e : (p = i ∧ q = j) ∨ (p = j ∧ q = i)
          · rw [if_pos e, hz]
            rcases e with ⟨rfl, rfl⟩ | ⟨rfl, rfl⟩
            · rw [if_pos (by unfold Yb; omega)]
            · rw [if_pos (by unfold Yb; omega), Gi, Int.mul_comm (hs.getD p 0)]
          · rw [if_neg e]
            congr 1
            have : Yb i j p q ↔ Yb i (j + 1) p q := by unfold Yb; omega
            simp only [this]
      · have hft : decide ((z.natAbs : Int) ≤ 1073741824) = false := decide_eq_false (by unfold Fit at hf; omega)
        rw [hft] at hF
        repeat' first
          | (with_reducible first | refine Jj (fun K hK => ?_) | refine Qj ?_ | refine Jg ?_ | refine Jz ?_)
          | ((with_reducible refine Jq (hF) ?_); rintro _ _ ⟨rfl, rfl⟩)
          | (simp only [Q4, Jo, reduceIte, J0])
          | ((with_reducible refine hK _ _ ?_); clear hK)
          | (simp only [Q3, RA, Jn, Jm, Jp, Q2, Q0, ev, ofValue, Jt, J0, J3, J2, J4, reduceCtorEq, reduceIte, Ju, Qb, Qa, Jy, aun, Q9, Jk, Jh, Jx, Jw, Ji, Q8, Jf, Q1, Jr, Js, J1, J5, Ja, J9, Jb, J6, J7, Jd, J8, RB, Jv, Je, Zf, k1, k2, k3, k6, k8, k9, k10, q10, q35, q65])
          | (simp (disch := first | omega | (simp only [RO]; done) | assumption) only [RS, X8, X9, X6, X7, Qu, Qv, Qq, X4, X0])
          | (simp (disch := (first | omega | (simp only [RO]; done) | assumption | (simp only [RM, Je]; done) | (simp only [RL, Je]; omega))) only [RD, reduceCtorEq, reduceIte, Je, J1, J3, J2, J6, Zf, k1, k2, k3, k6, k8, k9, k10, q10, q35, q65])
        all_goals
          (
           (refine Qg (rs := [.cell 6 24, .tmp 7]) rfl ?_)
           (simp only [Qx, Qd, Fr.put_some, Fr.put_none, Qe, Qf, Qi, J0, reduceIte, k6, Qk l6])
           (try simp (disch := (first | omega | (simp only [RO]; done) | assumption | (simp only [RM, Je]; done) | (simp only [RL, Je]; omega))) only [RD, reduceCtorEq, reduceIte, Je, J1, J3, J2, J6, Zf, k6, Qk l6]))
        all_goals exact ⟨.inr trivial, (x1.trans y).set (by omega) _⟩
    · obtain rfl : j = n := by omega
      repeat' first
        | (with_reducible first | refine Jj (fun K hK => ?_) | refine Qz ?_ | refine Jg ?_ | refine Jz ?_)
        | (with_reducible refine X5 (fun hc => ?_) (fun hc => ?_) <;> (try simp only [RC] at hc) <;> (try (exfalso; first | omega | contradiction)))
        | (simp only [Q4, Jo, reduceIte, J0])
        | ((with_reducible refine hK _ _ ?_); clear hK)
        | (clear hK; (with_reducible refine hK _ _ ?_); clear hK)
        | (simp only [Q3, RA, Jn, Jm, Jp, Q2, Q0, ev, ofValue, Jt, J0, J3, J2, J4, reduceCtorEq, reduceIte, Ju, Qb, Qa, Jy, aun, Q9, Jk, Jh, Jx, Jw, Ji, Q8, Jf, Q1, Jr, Js, J1, J5, Ja, J9, Jb, J6, J7, Jd, J8, RB, Jv, Je, Zf, k1, k2, k3, k6, k8, k9, q3, q6, e1])
        | (simp (disch := (first | omega | (simp only [RO]; done) | assumption | (simp only [RM, Je]; done) | (simp only [RL, Je]; omega))) only [RD, reduceCtorEq, reduceIte, Je, J1, J3, J2, J6, Zf, k1, k2, k3, k6, k8, k9, q3, q6, e1])
      all_goals
        refine ⟨_, by omega, i + 1, ys, rfl, by omega, rfl, m, hry, fun p q hp hq => ?_, x1⟩
        rw [hy p q hp hq]
        congr 1
        have : Yb i j p q ↔ Yb (i + 1) (i + 1) p q := by unfold Yb; omega
        simp only [this]
  · obtain rfl : i = n := by omega
    have l6 := Qr q6
    repeat' first
      | (with_reducible first | refine Jj (fun K hK => ?_) | refine Qz ?_ | refine Qj ?_ | refine Jg ?_ | refine Jz ?_)
      | (with_reducible refine X5 (fun hc => ?_) (fun hc => ?_) <;> (try simp only [RC] at hc) <;> (try (exfalso; first | omega | contradiction)))
      | (simp only [Q4, Jo, reduceIte, J0])
      | ((with_reducible refine hK _ _ ?_); clear hK)
      | (clear hK; (with_reducible refine hK _ _ ?_); clear hK)
      | (simp only [Q3, RA, Jn, Jm, Jp, Q2, Q0, ev, ofValue, Jt, J0, J3, J2, J4, reduceCtorEq, reduceIte, Ju, Qb, Qa, Jy, aun, Q9, Jk, Jh, Jx, Jw, Ji, Q8, Jf, Q1, Jr, Js, J1, J5, Ja, J9, Jb, J6, J7, Jd, J8, RB, Jv, Je, Zf, k1, k2, k3, k6, k8, q3, q6])
      | (simp (disch := first | omega | (simp only [RO]; done) | assumption) only [RS, X8, X9, X6, X7, Qu, Qv, Qq, X4, X0])
      | (simp (disch := (first | omega | (simp only [RO]; done) | assumption | (simp only [RM, Je]; done) | (simp only [RL, Je]; omega))) only [RD, reduceCtorEq, reduceIte, Je, J1, J3, J2, J6, Zf, k1, k2, k3, k6, k8, q3, q6])
    all_goals
      (
       (refine Qg (rs := [.cell 6 24, .tmp 7]) rfl ?_)
       (simp only [Qx, Qd, Fr.put_some, Fr.put_none, Qe, Qf, Qi, J0, reduceIte, k6, Qk l6])
       (try simp (disch := (first | omega | (simp only [RO]; done) | assumption | (simp only [RM, Je]; done) | (simp only [RL, Je]; omega))) only [RD, reduceCtorEq, reduceIte, Je, J1, J3, J2, J6, Zf, k6, Qk l6]))
    all_goals
      refine ⟨.inl ⟨b, ys, rfl, (m.other (by omega) l6 _).low (by omega), hry, fun p q hp hq => ?_⟩, x1.set (by omega) _⟩
      rw [hy p q hp hq, if_pos (by unfold Yb; omega)]
end Go.Proofs.YtfalfmfkifemeaaGreatDoor
namespace Go.Proofs.YtfalfmfkifemeaaGreatDoor
open Go.AL Go.PW Go.PD
set_option maxRecDepth 8000
def sh (i k p : Nat) : Nat := if i ≤ p then p + k else p
end Go.Proofs.YtfalfmfkifemeaaGreatDoor
namespace Go.Proofs.YtfalfmfkifemeaaGreatDoor
open Go.AL Go.PW Go.PD
set_option maxRecDepth 8000
theorem set_same {H : Hp} {h : Nat} {b : Blk} (hg : Qt H h = some b) : H.set h b = H := by
  apply List.ext_getElem?
  intro k
  rw [List.getElem?_set]
  by_cases e : h = k
  · subst e
    have hl := Qr hg
    rw [if_pos rfl, if_pos hl]
    exact hg.symm
  · rw [if_neg e]
end Go.Proofs.YtfalfmfkifemeaaGreatDoor

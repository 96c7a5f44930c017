/- Part 17 of the proof of laws of this seat: lemmas on the model's code, on this program's functions, on numbers. No condition. -/
import Derived.Test.YtfalfmfkifemeaaGreatDoorZGap
set_option linter.unusedVariables false
set_option linter.unusedSimpArgs false
open Nat renaming reduceEqDiff → J0, reduceLeDiff → J1, reduceMul → J2, reduceAdd → J3, reduceSub → J4, reduceLT → J5
open Int renaming reduceToNat → J6, reducePow → J7, reduceNeg → J8, reduceLT → J9, reduceLE → Ja, reduceEq → Jb
open And renaming intro → Jc
open Go.IntKind renaming bits → Jd
open Go.PW renaming dig_length → Je
namespace Go.Proofs.YtfalfmfkifemeaaGreatDoor
open Go.AL Go.PW
theorem J09 : type_of% (Jc @Xd (Jc @X1 (@Xj))) := Jc @Xd (Jc @X1 (@Xj))
theorem J1b : type_of% (Jc @Xd (Jc @Xz (Jc @X1 (Jc @Xj (Jc @Za (@Z9)))))) := Jc @Xd (Jc @Xz (Jc @X1 (Jc @Xj (Jc @Za (@Z9)))))
theorem G2 : type_of% (Jc @Xd (Jc @Xz (Jc @X1 (Jc @Xj (Jc @Za (@Z9)))))) := Jc @Xd (Jc @Xz (Jc @X1 (Jc @Xj (Jc @Za (@Z9)))))
theorem tf57RfA : type_of% (Jc @Xz (Jc @X1 (Jc @Xj (Jc @Za (@Z9))))) := Jc @Xz (Jc @X1 (Jc @Xj (Jc @Za (@Z9))))
set_option maxRecDepth 8000
abbrev Ub (xs : List Int) : Blk := ⟨xs.map (AV.int .u64), .own, 31⟩
def tl (xs : List Int) : Nat → Nat
  | 0 => 0
  | k + 1 => if xs.getD k 0 = 0 then tl xs k else k + 1
theorem Ur (xs : List Int) : ∀ k, tl xs k ≤ k
  | 0 => Nat.le_refl _
  | k + 1 => by
    unfold tl
    split
    · have := Ur xs k; omega
    · exact Nat.le_refl _
theorem tl_z {xs : List Int} {m : Nat} (h : xs.getD m 0 = 0) : tl xs (m + 1) = tl xs m := by
  show (if xs.getD m 0 = 0 then tl xs m else m + 1) = tl xs m
  rw [if_pos h]
theorem tl_nz {xs : List Int} {m : Nat} (h : ¬ xs.getD m 0 = 0) : tl xs (m + 1) = m + 1 := by
  show (if xs.getD m 0 = 0 then tl xs m else m + 1) = m + 1
  rw [if_neg h]
theorem Yu {H : Hp} {h : Nat} {xs : List Int} (hg : Qt H h = some (Ub xs)) {i : Nat} (hi : i < xs.length) : Yq Tryz.prog H 31 (.ptr h i) = some (.int .u64 (xs.getD i 0)) := by
  rw [Uz, hg]
  simp only [Y0]
  rw [if_neg (by decide)]
  exact map_get _ _ _ hi
theorem cut_u64 (h n m c : Nat) (hm : m ≤ c) : Zu Tryz.prog 44 (.sl h 0 n c) none (some (.int .i64 (m : Int))) none = some (.sl h 0 m c) := by
  have hb : Zj n c none (some (.int .i64 (m : Int))) none = some (0, m, c) := by
    simp [Zj, Ue, hm]
  simp only [Zu, Z4, Xt, hb, Nat.zero_mul, Nat.add_zero, Nat.sub_zero]
  split <;> rfl
set_option maxHeartbeats 2000000 in
theorem trim_calls (h k c : Nat) (xs : List Int) (H : Hp) (hg : Qt H h = some (Ub xs)) (hk : k ≤ xs.length) (hkc : k ≤ c) (hc : c < 1000000) : ACalls Tryz.prog 70 [.sl h 0 k c] H fun r H' => r = .sl h 0 (tl xs k) c ∧ H = H' := by
  refine Q7 Tryz.func70 rfl (by kernel_rfl) (by kernel_rfl) ?_
  repeat' first
    | (with_reducible first | refine Jj (fun K hK => ?_) | refine Qc ?_ | refine Jg ?_)
    | (simp only [Q4, Jo, reduceIte, J0])
    | ((with_reducible refine hK _ _ ?_); clear hK)
    | (simp only [Q3, RA, Jn, Jm, Jp, Q2, Q0, ev, ofValue, Jt, J0, J3, J2, J4, reduceCtorEq, reduceIte, Ju, Qb, Qa, Jy, aun, Q9, Jk, Jh, Jx, Jw, Ji, Q8, Jf, Q1, Jr, Js, J1, J5, Ja, J9, Jb, J6, J7, Jd, J8, RB, Jv, Je, J09])
  refine X2 (fun m fr' H' => m ≤ k ∧ fr' 0 = .sl h 0 m c ∧ tl xs m = tl xs k ∧ H = H') (m := k) ⟨Nat.le_refl _, rfl, rfl, rfl⟩ ?_
  rintro m fr' H' ⟨hm, k0, ht, rfl⟩
  cases m with
  | zero =>
    repeat' first
      | (with_reducible first | refine Jj (fun K hK => ?_) | refine Qz ?_ | refine Qj ?_ | refine Jg ?_ | refine Jz ?_)
      | (with_reducible refine Qn (fun hc => ?_) (fun hc => ?_) <;> (try simp only [RC] at hc) <;> (try (exfalso; first | omega | contradiction)))
      | (simp only [Q4, Jo, reduceIte, J0])
      | ((with_reducible refine hK _ _ ?_); clear hK)
      | (clear hK; (with_reducible refine hK _ _ ?_); clear hK)
      | (simp only [Q3, RA, Jn, Jm, Jp, Q2, Q0, ev, ofValue, Jt, J0, J3, J2, J4, reduceCtorEq, reduceIte, Ju, Qb, Qa, Jy, aun, Q9, Jk, Jh, Jx, Jw, Ji, Q8, Jf, Q1, Jr, Js, J1, J5, Ja, J9, Jb, J6, J7, Jd, J8, RB, Jv, Je, J09, k0])
    (
     (refine Qg (rs := [.tmp 2]) rfl ?_)
     (simp only [Qx, Qd, Fr.put_some, Fr.put_none, Qe, Qf, Qi, J0, reduceIte])
     (try simp (disch := (first | omega | (simp only [RO]; done) | assumption | (simp only [RM, Je]; done) | (simp only [RL, Je]; omega))) only [RD, reduceCtorEq, reduceIte, Je, J1, J3, J2, J6, J09]))
    rw [← ht]; rfl
  | succ m =>
    have w1 : IntKind.i64.wrap (((m + 1 : Nat) : Int) - 1) = (m : Int) := by rw [Q5 (by omega) (by omega)]; omega
    have l1 := Yu hg (i := m) (by omega)
    have hpos : (((m + 1 : Nat) : Int) > 0) = True := eq_true (by omega)
    by_cases hx : xs.getD m 0 = 0
    · have hcut := cut_u64 h (m + 1) m c (by omega)
      repeat' first
        | (with_reducible first | refine Jj (fun K hK => ?_) | refine Qc ?_ | refine Q6 ?_ | refine Jg ?_ | refine Jz ?_)
        | (with_reducible refine Qn (fun hc => ?_) (fun hc => ?_) <;> (try simp only [RC] at hc) <;> (try (exfalso; first | omega | contradiction)))
        | (with_reducible refine X5 (fun hc => ?_) (fun hc => ?_) <;> (try simp only [RC] at hc) <;> (try (exfalso; first | omega | contradiction)))
        | (simp only [Q4, Jo, reduceIte, J0])
        | ((with_reducible refine hK _ _ ?_); clear hK)
        | (simp only [Q3, RA, Jn, Jm, Jp, Q2, Q0, ev, ofValue, Jt, J0, J3, J2, J4, reduceCtorEq, reduceIte, Ju, Qb, Qa, Jy, aun, Q9, Jk, Jh, Jx, Jw, Ji, Q8, Jf, Q1, Jr, Js, J1, J5, Ja, J9, Jb, J6, J7, Jd, J8, RB, Jv, Je, J09, k0, w1, l1, hx, hcut])
        | (simp (disch := first | omega | (simp only [RO]; done) | assumption) only [RS, X6, X7])
      all_goals exact ⟨m, by omega, by omega, rfl, by rw [← ht, tl_z hx]⟩
    · skip
      repeat' first
        | (with_reducible first | refine Jj (fun K hK => ?_) | refine Qz ?_ | refine Qj ?_ | refine Jg ?_ | refine Jz ?_)
        | (with_reducible refine Qn (fun hc => ?_) (fun hc => ?_) <;> (try simp only [RC] at hc) <;> (try (exfalso; first | omega | contradiction)))
        | (with_reducible refine X5 (fun hc => ?_) (fun hc => ?_) <;> (try simp only [RC] at hc) <;> (try (exfalso; first | omega | contradiction)))
        | (simp only [Q4, Jo, reduceIte, J0])
        | ((with_reducible refine hK _ _ ?_); clear hK)
        | (clear hK; (with_reducible refine hK _ _ ?_); clear hK)
        | (simp only [Q3, RA, Jn, Jm, Jp, Q2, Q0, ev, ofValue, Jt, J0, J3, J2, J4, reduceCtorEq, reduceIte, Ju, Qb, Qa, Jy, aun, Q9, Jk, Jh, Jx, Jw, Ji, Q8, Jf, Q1, Jr, Js, J1, J5, Ja, J9, Jb, J6, J7, Jd, J8, RB, Jv, Je, J09, k0, w1, l1, hx])
        | (simp (disch := first | omega | (simp only [RO]; done) | assumption) only [RS, X6, X7])
      all_goals
        (
         (refine Qg (rs := [.tmp 2]) rfl ?_)
         (simp only [Qx, Qd, Fr.put_some, Fr.put_none, Qe, Qf, Qi, J0, reduceIte])
         (try simp (disch := (first | omega | (simp only [RO]; done) | assumption | (simp only [RM, Je]; done) | (simp only [RL, Je]; omega))) only [RD, reduceCtorEq, reduceIte, Je, J1, J3, J2, J6, J09]))
      all_goals rw [← ht, tl_nz hx]
structure Uv (H : Hp) (s : AV) (xs : List Int) : Prop where
  rd : Ints H .u64 s xs
  ety : s = .nilS ∨ ∃ b, Qt H s.hd = some b ∧ b.ety = 31
theorem Uv.ext {H H' : Hp} {s : AV} {xs : List Int} (u : Uv H s xs) (x : Ext H H') : Uv H' s xs :=
  ⟨u.rd.ext x, u.ety.imp id fun ⟨b, h1, h2⟩ => ⟨b, Qh h1 x, h2⟩⟩
theorem Uv.push {H : Hp} {s : AV} {xs : List Int} (u : Uv H s xs) (b : Blk) : Uv (H ++ [b]) s xs := u.ext (Ext.push _ _)
structure Can (xs : List Int) : Prop where
  lim : Limbs xs
  top : xs = [] ∨ xs.getD (xs.length - 1) 0 ≠ 0
  len : xs.length < 100000
structure Bs_ (H : Hp) (s : AV) (x : Int) : Prop where
  ex : ∃ xs, Uv H s xs ∧ Can xs ∧ val xs = x.natAbs
abbrev BV (x : Int) (s : AV) : AV := .agg [.bool (decide (x < 0)), s]
theorem Bs_.ext {H H' : Hp} {s : AV} {x : Int} (u : Bs_ H s x) (h : Ext H H') : Bs_ H' s x := by
  obtain ⟨xs, h1, h2⟩ := u.ex
  exact ⟨xs, h1.ext h, h2⟩
theorem Bs_.push {H : Hp} {s : AV} {x : Int} (u : Bs_ H s x) (b : Blk) : Bs_ (H ++ [b]) s x := u.ext (Ext.push _ _)
theorem val_top {xs : List Int} (h : Limbs xs) {i : Nat} (hi : xs.getD i 0 ≠ 0) : Bs ^ i ≤ val xs := by
  have hlt : i < xs.length := by
    rcases Nat.lt_or_ge i xs.length with h | h
    · exact h
    · exact absurd (by rw [List.getD_eq_getElem?_getD, List.getElem?_eq_none h]; rfl) hi
  have h1 := Xb xs hlt
  have h2 := Zx xs (i + 1)
  have h3 := Xa (h.take i)
  have h4 := Xa (h.drop (i + 1))
  have h5 := h.get i
  have hp : (0 : Int) ≤ Bs ^ i := Int.le_of_lt (Int.pow_pos (by decide))
  have hp2 : (0 : Int) ≤ Bs ^ (min (i + 1) xs.length) := Int.le_of_lt (Int.pow_pos (by decide))
  have h6 : Bs ^ i * 1 ≤ Bs ^ i * xs.getD i 0 := Int.mul_le_mul_of_nonneg_left (by omega) hp
  have h7 := Int.mul_nonneg hp2 h4.1
  omega
theorem made_calls (neg : Bool) (s : AV) (xs : List Int) (H : Hp) (hs : Ints H .u64 s xs) : ACalls Tryz.prog 62 [.bool neg, s] H fun r H' => r = .agg [.bool (neg && decide (0 < xs.length)), s] ∧ H = H' := by
  refine ACalls.drop (R := fun r => r = .agg [.bool (neg && decide (0 < xs.length)), s]) ?_
  have hs1 : s.one = true := hs.rd.one
  have hc : s.cells = [s] := AV.cells_one hs1
  have hl := hs.rd.len Z4
  have hlt := hs.rd.lt
  refine Q7 Tryz.func62 rfl (by kernel_rfl) (by kernel_rfl) ?_
  have hp : (0 < (xs.length : Int)) = (0 < xs.length) := propext (by omega)
  cases neg
  · skip
    repeat' first
      | (with_reducible first | refine Jj (fun K hK => ?_) | refine Qj ?_ | refine Jg ?_)
      | (simp only [Q4, Jo, reduceIte, J0])
      | ((with_reducible refine hK _ _ ?_); clear hK)
      | (simp only [Q3, RA, Jn, Jm, Jp, Q2, Q0, ev, ofValue, Jt, J0, J3, J2, J4, reduceCtorEq, reduceIte, Ju, Qb, Qa, Jy, aun, Q9, Jk, Jh, Jx, Jw, Ji, Q8, Jf, Q1, Jr, Js, J1, J5, Ja, J9, Jb, J6, J7, Jd, J8, RB, Jv, Je, J1b, hl])
      | (simp (disch := first | omega | (simp only [RO]; done) | assumption) only [RS, X6, X7, X4, X0])
      | (simp (disch := (first | omega | (simp only [RO]; done) | assumption | (simp only [RM, Je]; done) | (simp only [RL, Je]; omega))) only [RD, reduceCtorEq, reduceIte, Je, J1, J3, J2, J6, J1b, hl])
    (
     (refine Qg (rs := [.cell 4 46]) rfl ?_)
     (simp only [Qx, Qd, Fr.put_some, Fr.put_none, Qe, Qf, Qi, J0, reduceIte])
     (try simp (disch := (first | omega | (simp only [RO]; done) | assumption | (simp only [RM, Je]; done) | (simp only [RL, Je]; omega))) only [RD, reduceCtorEq, reduceIte, Je, J1, J3, J2, J6, J1b]))
    exact ⟨Ext.push _ _, by simp only [AV.lt, AV.lts]; exact ⟨trivial, hlt, trivial⟩⟩
  · skip
    repeat' first
      | (with_reducible first | refine Jj (fun K hK => ?_) | refine Qj ?_ | refine Jg ?_)
      | (simp only [Q4, Jo, reduceIte, J0])
      | ((with_reducible refine hK _ _ ?_); clear hK)
      | (simp only [Q3, RA, Jn, Jm, Jp, Q2, Q0, ev, ofValue, Jt, J0, J3, J2, J4, reduceCtorEq, reduceIte, Ju, Qb, Qa, Jy, aun, Q9, Jk, Jh, Jx, Jw, Ji, Q8, Jf, Q1, Jr, Js, J1, J5, Ja, J9, Jb, J6, J7, Jd, J8, RB, Jv, Je, J1b, hl, hp])
      | (simp (disch := first | omega | (simp only [RO]; done) | assumption) only [RS, X6, X7, X4, X0])
      | (simp (disch := (first | omega | (simp only [RO]; done) | assumption | (simp only [RM, Je]; done) | (simp only [RL, Je]; omega))) only [RD, reduceCtorEq, reduceIte, Je, J1, J3, J2, J6, J1b, hl, hp])
    (
     (refine Qg (rs := [.cell 4 46]) rfl ?_)
     (simp only [Qx, Qd, Fr.put_some, Fr.put_none, Qe, Qf, Qi, J0, reduceIte])
     (try simp (disch := (first | omega | (simp only [RO]; done) | assumption | (simp only [RM, Je]; done) | (simp only [RL, Je]; omega))) only [RD, reduceCtorEq, reduceIte, Je, J1, J3, J2, J6, J1b]))
    exact ⟨Ext.push _ _, by simp only [AV.lt, AV.lts]; exact ⟨trivial, hlt, trivial⟩⟩
theorem Bs_.nil {H : Hp} {s : AV} {x : Int} {xs : List Int} (c : Can xs) (hv : val xs = x.natAbs) : xs.length = 0 ↔ x = 0 := by
  constructor
  · intro h
    have : xs = [] := List.eq_nil_of_length_eq_zero h
    subst this
    simp [val] at hv; omega
  · intro h
    subst h
    rcases c.top with h | h
    · rw [h]; rfl
    · have h1 := val_top c.lim h
      have h2 : (0 : Int) < Bs ^ (xs.length - 1) := Int.pow_pos (by decide)
      simp at hv; omega
theorem Sign_calls (x : Int) (s : AV) (H : Hp) (hs : Bs_ H s x) : ACalls Tryz.prog 56 [BV x s] H fun r H' => r = .int .i64 x.sign ∧ H = H' := by
  refine ACalls.drop (R := fun r => r = .int .i64 x.sign) ?_
  obtain ⟨xs, u, c, hv⟩ := hs.ex
  have hs1 : s.one = true := u.rd.rd.one
  have hc : s.cells = [s] := AV.cells_one hs1
  have hl := u.rd.rd.len Z4
  have hz : xs.length = 0 ↔ x = 0 := by
    constructor
    · intro h
      have : xs = [] := List.eq_nil_of_length_eq_zero h
      subst this
      simp [val] at hv; omega
    · intro h
      subst h
      rcases c.top with h | h
      · rw [h]; rfl
      · have h1 := val_top c.lim h
        have h2 : (0 : Int) < Bs ^ (xs.length - 1) := Int.pow_pos (by decide)
        simp at hv; omega
  refine Q7 Tryz.func56 rfl (by kernel_rfl) (by kernel_rfl) ?_
  rcases Int.lt_trichotomy x 0 with h | h | h
  · have e1 : ((xs.length : Int) = 0) = False := eq_false (by omega)
    have e2 : (x < 0) = True := eq_true h
    repeat' first
      | (with_reducible first | refine Jj (fun K hK => ?_) | refine Q6 ?_ | refine Qj ?_ | refine Jg ?_ | refine Jz ?_)
      | (simp only [Q4, Jo, reduceIte, J0])
      | ((with_reducible refine hK _ _ ?_); clear hK)
      | (simp only [Q3, RA, Jn, Jm, Jp, Q2, Q0, ev, ofValue, Jt, J0, J3, J2, J4, reduceCtorEq, reduceIte, Ju, Qb, Qa, Jy, aun, Q9, Jk, Jh, Jx, Jw, Ji, Q8, Jf, Q1, Jr, Js, J1, J5, Ja, J9, Jb, J6, J7, Jd, J8, RB, Jv, Je, G2, hl, e1, e2])
      | (simp (disch := first | omega | (simp only [RO]; done) | assumption) only [RS, X6, X7, X4, X0])
      | (simp (disch := (first | omega | (simp only [RO]; done) | assumption | (simp only [RM, Je]; done) | (simp only [RL, Je]; omega))) only [RD, reduceCtorEq, reduceIte, Je, J1, J3, J2, J6, G2, hl, e1, e2])
    all_goals
      (
       (refine Qg (rs := [.tmp 2]) rfl ?_)
       (simp only [Qx, Qd, Fr.put_some, Fr.put_none, Qe, Qf, Qi, J0, reduceIte])
       (try simp (disch := (first | omega | (simp only [RO]; done) | assumption | (simp only [RM, Je]; done) | (simp only [RL, Je]; omega))) only [RD, reduceCtorEq, reduceIte, Je, J1, J3, J2, J6, G2]))
    all_goals exact ⟨Ext.push _ _, trivial, by rw [Int.sign_eq_neg_one_of_neg h]⟩
  · have e1 : ((xs.length : Int) = 0) = True := eq_true (by omega)
    repeat' first
      | (with_reducible first | refine Jj (fun K hK => ?_) | refine Qj ?_ | refine Jg ?_ | refine Jz ?_)
      | (simp only [Q4, Jo, reduceIte, J0])
      | ((with_reducible refine hK _ _ ?_); clear hK)
      | (simp only [Q3, RA, Jn, Jm, Jp, Q2, Q0, ev, ofValue, Jt, J0, J3, J2, J4, reduceCtorEq, reduceIte, Ju, Qb, Qa, Jy, aun, Q9, Jk, Jh, Jx, Jw, Ji, Q8, Jf, Q1, Jr, Js, J1, J5, Ja, J9, Jb, J6, J7, Jd, J8, RB, Jv, Je, G2, hl, e1, h])
      | (simp (disch := first | omega | (simp only [RO]; done) | assumption) only [RS, X6, X7, X4, X0])
      | (simp (disch := (first | omega | (simp only [RO]; done) | assumption | (simp only [RM, Je]; done) | (simp only [RL, Je]; omega))) only [RD, reduceCtorEq, reduceIte, Je, J1, J3, J2, J6, G2, hl, e1, h])
    all_goals
      (
       (refine Qg (rs := [.tmp 2]) rfl ?_)
       (simp only [Qx, Qd, Fr.put_some, Fr.put_none, Qe, Qf, Qi, J0, reduceIte])
       (try simp (disch := (first | omega | (simp only [RO]; done) | assumption | (simp only [RM, Je]; done) | (simp only [RL, Je]; omega))) only [RD, reduceCtorEq, reduceIte, Je, J1, J3, J2, J6, G2]))
    all_goals exact ⟨Ext.push _ _, trivial, rfl⟩
  · have e1 : ((xs.length : Int) = 0) = False := eq_false (by omega)
    have e2 : (x < 0) = False := eq_false (by omega)
    repeat' first
      | (with_reducible first | refine Jj (fun K hK => ?_) | refine Q6 ?_ | refine Qj ?_ | refine Jg ?_ | refine Jz ?_)
      | (simp only [Q4, Jo, reduceIte, J0])
      | ((with_reducible refine hK _ _ ?_); clear hK)
      | (simp only [Q3, RA, Jn, Jm, Jp, Q2, Q0, ev, ofValue, Jt, J0, J3, J2, J4, reduceCtorEq, reduceIte, Ju, Qb, Qa, Jy, aun, Q9, Jk, Jh, Jx, Jw, Ji, Q8, Jf, Q1, Jr, Js, J1, J5, Ja, J9, Jb, J6, J7, Jd, J8, RB, Jv, Je, G2, hl, e1, e2])
      | (simp (disch := first | omega | (simp only [RO]; done) | assumption) only [RS, X6, X7, X4, X0])
      | (simp (disch := (first | omega | (simp only [RO]; done) | assumption | (simp only [RM, Je]; done) | (simp only [RL, Je]; omega))) only [RD, reduceCtorEq, reduceIte, Je, J1, J3, J2, J6, G2, hl, e1, e2])
    all_goals
      (
       (refine Qg (rs := [.tmp 2]) rfl ?_)
       (simp only [Qx, Qd, Fr.put_some, Fr.put_none, Qe, Qf, Qi, J0, reduceIte])
       (try simp (disch := (first | omega | (simp only [RO]; done) | assumption | (simp only [RM, Je]; done) | (simp only [RL, Je]; omega))) only [RD, reduceCtorEq, reduceIte, Je, J1, J3, J2, J6, G2]))
    all_goals exact ⟨Ext.push _ _, trivial, by rw [Int.sign_eq_one_of_pos h]⟩
theorem Bs_.lt {H : Hp} {s : AV} {x : Int} (h : Bs_ H s x) : s.lt H.length := by
  obtain ⟨xs, u, _⟩ := h.ex
  exact u.rd.rd.lt
theorem Neg_calls (x : Int) (s : AV) (H : Hp) (hs : Bs_ H s x) : ACalls Tryz.prog 57 [BV x s] H fun r H' => r = BV (-x) s ∧ H = H' := by
  refine ACalls.drop (R := fun r => r = BV (-x) s) ?_
  obtain ⟨xs, u, c, hv⟩ := hs.ex
  have hs1 : s.one = true := u.rd.rd.one
  have hc : s.cells = [s] := AV.cells_one hs1
  have hz := Bs_.nil (H := H) (s := s) c hv
  have hm := fun H0 (x0 : Ext H H0) => made_calls (!decide (x < 0)) s xs H0 (u.rd.ext x0)
  have he : ((!decide (x < 0)) && decide (0 < xs.length)) = decide (-x < 0) := by
    by_cases h : x < 0
    · simp [h]; omega
    · by_cases h0 : x = 0
      · simp [h0, hz.2 h0]
      · have : ¬ xs.length = 0 := fun e => h0 (hz.1 e)
        simp [h]; omega
  rw [he] at hm
  refine Q7 Tryz.func57 rfl (by kernel_rfl) (by kernel_rfl) ?_
  repeat' first
    | (with_reducible first | refine Jj (fun K hK => ?_) | refine Qj ?_ | refine Jg ?_)
    | ((with_reducible refine Jq (hm _ ((Ext.push _ _).pushed _)) ?_); rintro _ _ ⟨rfl, rfl⟩)
    | (simp only [Q4, Jo, reduceIte, J0])
    | ((with_reducible refine hK _ _ ?_); clear hK)
    | (simp only [Q3, RA, Jn, Jm, Jp, Q2, Q0, ev, ofValue, Jt, J0, J3, J2, J4, reduceCtorEq, reduceIte, Ju, Qb, Qa, Jy, aun, Q9, Jk, Jh, Jx, Jw, Ji, Q8, Jf, Q1, Jr, Js, J1, J5, Ja, J9, Jb, J6, J7, Jd, J8, RB, Jv, Je, tf57RfA])
    | (simp (disch := first | omega | (simp only [RO]; done) | assumption) only [RS, X6, X7, X4, X0])
    | (simp (disch := (first | omega | (simp only [RO]; done) | assumption | (simp only [RM, Je]; done) | (simp only [RL, Je]; omega))) only [RD, reduceCtorEq, reduceIte, Je, J1, J3, J2, J6, tf57RfA])
  all_goals
    (
     (refine Qg (rs := [.cell 2 46]) rfl ?_)
     (simp only [Qx, Qd, Fr.put_some, Fr.put_none, Qe, Qf, Qi, J0, reduceIte])
     (try simp (disch := (first | omega | (simp only [RO]; done) | assumption | (simp only [RM, Je]; done) | (simp only [RL, Je]; omega))) only [RD, reduceCtorEq, reduceIte, Je, J1, J3, J2, J6, tf57RfA]))
  have hsl := hs.lt
  all_goals
    refine ⟨(Ext.push _ _).pushed _, ?_⟩
    simp [AV.lt, AV.lts, hsl]
theorem Bs_.neg {H : Hp} {s : AV} {x : Int} (h : Bs_ H s x) : Bs_ H s (-x) := by
  obtain ⟨xs, u, c, hv⟩ := h.ex
  exact ⟨xs, u, c, by rw [hv, Int.natAbs_neg]⟩
end Go.Proofs.YtfalfmfkifemeaaGreatDoor
namespace Go.Proofs.YtfalfmfkifemeaaGreatDoor
open Go.AL Go.PW
theorem Wa : type_of% (Jc @Xd (Jc @X1 (@Xj))) := Jc @Xd (Jc @X1 (@Xj))
abbrev pn81_8RfB : Plan := (.one 0 (.one 1 (.one 2 (.one 3 (.one 4 (.one 5 (.one 6 (.one 7 (.one 8 .nil)))))))))
abbrev pn81_9RfB : Plan := (.one 0 (.one 1 (.one 2 (.one 3 (.one 4 (.one 5 (.one 6 (.one 7 (.one 8 .nil)))))))))
set_option maxRecDepth 8000
theorem Can.low {xs : List Int} (c : Can xs) (h : xs.length ≠ 0) : Bs ^ (xs.length - 1) ≤ val xs := by
  rcases c.top with e | e
  · rw [e] at h; exact absurd rfl h
  · exact val_top c.lim e
theorem J1y {xs ys : List Int} (hx : Limbs xs) (c : Can ys) (h : xs.length < ys.length) : val xs < val ys := by
  have h1 := (Xa hx).2
  have h2 := c.low (by omega)
  have h3 : Bs ^ xs.length ≤ Bs ^ (ys.length - 1) := by
    obtain ⟨d, hd⟩ : ∃ d, ys.length - 1 = xs.length + d := ⟨ys.length - 1 - xs.length, by omega⟩
    rw [hd, Int.pow_add]
    have h4 : (1 : Int) ≤ Bs ^ d := by
      have h6 : (0 : Int) < Bs ^ d := Int.pow_pos (by decide)
      omega
    have h5 : (0 : Int) ≤ Bs ^ xs.length := Int.le_of_lt (Int.pow_pos (by decide))
    have := Int.mul_le_mul_of_nonneg_left h4 h5
    omega
  omega
theorem val_limb_lt {xs ys : List Int} (hx : Limbs xs) (hy : Limbs ys) (hl : xs.length = ys.length) {i : Nat} (hi : i < xs.length) (hd : val (xs.drop (i + 1)) = val (ys.drop (i + 1))) (h : xs.getD i 0 < ys.getD i 0) : val xs < val ys := by
  have a1 := Zx xs i
  have a2 := Zx ys i
  rw [Nat.min_eq_left (by omega)] at a1 a2
  have b1 := Y5 xs hi
  have b2 := Y5 ys (i := i) (by omega)
  have c1 := (Xa (hx.take i)).2
  have c2 := (Xa (hy.take i)).1
  rw [List.length_take, Nat.min_eq_left (by omega)] at c1
  have hp : (0 : Int) ≤ Bs ^ i := Int.le_of_lt (Int.pow_pos (by decide))
  have d1 : val (xs.drop i) + 1 ≤ val (ys.drop i) := by rw [b1, b2, hd]; omega
  have d2 := Int.mul_le_mul_of_nonneg_left d1 hp
  rw [Int.mul_add] at d2
  omega
set_option maxHeartbeats 4000000 in
theorem cmp_calls (s t : AV) (xs ys : List Int) (H : Hp) (hs : Ints H .u64 s xs) (ht : Ints H .u64 t ys) (cx : Can xs) (cy : Can ys) : ACalls Tryz.prog 81 [s, t] H fun r H' => r = .int .i64 (val xs - val ys).sign ∧ H = H' := by
  have lx := cx.len
  have ly := cy.len
  have l1 := hs.rd.len Z4
  have l2 := ht.rd.len Z4
  have n1 : val xs < val ys → (val xs - val ys).sign = -1 := fun h => Int.sign_eq_neg_one_of_neg (by omega)
  have n2 : val ys < val xs → (val xs - val ys).sign = 1 := fun h => Int.sign_eq_one_of_pos (by omega)
  refine Q7 Tryz.func81 rfl (by kernel_rfl) (by kernel_rfl) ?_
  by_cases hl : xs.length = ys.length
  · have e1 : ((xs.length : Int) = (ys.length : Int)) = True := eq_true (by omega)
    have w1 : IntKind.i64.wrap ((xs.length : Int) - 1) = (xs.length : Int) - 1 := Q5 (by omega) (by omega)
    repeat' first
      | (with_reducible first | refine Jj (fun K hK => ?_) | refine Qc ?_ | refine Q6 ?_ | refine Jg ?_ | refine Jz ?_)
      | (simp only [Q4, Jo, reduceIte, J0])
      | ((with_reducible refine hK _ _ ?_); clear hK)
      | (simp only [Q3, RA, Jn, Jm, Jp, Q2, Q0, ev, ofValue, Jt, J0, J3, J2, J4, reduceCtorEq, reduceIte, Ju, Qb, Qa, Jy, aun, Q9, Jk, Jh, Jx, Jw, Ji, Q8, Jf, Q1, Jr, Js, J1, J5, Ja, J9, Jb, J6, J7, Jd, J8, RB, Jv, Je, Wa, l1, l2, e1, w1])
    refine X2 (fun m fr' H' => m ≤ xs.length ∧ fr' 0 = s ∧ fr' 1 = t ∧ fr' 5 = .int .i64 ((m : Int) - 1) ∧ val (xs.drop m) = val (ys.drop m) ∧ H = H') (m := xs.length)
      ⟨Nat.le_refl _, rfl, rfl, rfl, by rw [List.drop_length, hl, List.drop_length], rfl⟩ ?_
    rintro m fr' H' ⟨hm, k0, k1, k5, hd, rfl⟩
    cases m with
    | zero =>
      simp only [List.drop_zero] at hd
      have hv : (val xs - val ys).sign = 0 := by rw [hd, Int.sub_self]; rfl
      have k5' : fr' 5 = .int .i64 (-1) := k5
      repeat' first
        | (with_reducible first | refine Jj (fun K hK => ?_) | refine Qz ?_ | refine Qj ?_ | refine Jg ?_ | refine Jz ?_)
        | (simp only [Q4, Jo, reduceIte, J0])
        | ((with_reducible refine hK _ _ ?_); clear hK)
        | (clear hK; (with_reducible refine hK _ _ ?_); clear hK)
        | (simp only [Q3, RA, Jn, Jm, Jp, Q2, Q0, ev, ofValue, Jt, J0, J3, J2, J4, reduceCtorEq, reduceIte, Ju, Qb, Qa, Jy, aun, Q9, Jk, Jh, Jx, Jw, Ji, Q8, Jf, Q1, Jr, Js, J1, J5, Ja, J9, Jb, J6, J7, Jd, J8, RB, Jv, Je, Wa, k0, k1, k5'])
      all_goals
        (
         (refine Qg (rs := [.tmp 4]) rfl ?_)
         (simp only [Qx, Qd, Fr.put_some, Fr.put_none, Qe, Qf, Qi, J0, reduceIte, hv])
         (try simp (disch := (first | omega | (simp only [RO]; done) | assumption | (simp only [RM, Je]; done) | (simp only [RL, Je]; omega))) only [RD, reduceCtorEq, reduceIte, Je, J1, J3, J2, J6, Wa, hv]))
    | succ m =>
      have k5' : fr' 5 = .int .i64 (m : Int) := by rw [k5]; congr 1; omega
      have w2 : IntKind.i64.wrap ((m : Int) - 1) = (m : Int) - 1 := Q5 (by omega) (by omega)
      rcases Int.lt_trichotomy (xs.getD m 0) (ys.getD m 0) with h | h | h
      · have hv := n1 (val_limb_lt cx.lim cy.lim hl (by omega) hd h)
        have f1 : (xs.getD m 0 = ys.getD m 0) = False := eq_false (by omega)
        have f2 : (xs.getD m 0 < ys.getD m 0) = True := eq_true h
        repeat' first
          | (with_reducible first | refine Jj (fun K hK => ?_) | refine Qc ?_ | refine Q6 ?_ | refine Qj ?_ | refine Jg ?_ | refine Qw (id := 8) [] pn81_8RfB (by kernel_rfl) (by kernel_rfl) ?_ | refine Qw (id := 9) [] pn81_9RfB (by kernel_rfl) (by kernel_rfl) ?_ | refine Jz ?_)
          | (with_reducible refine X5 (fun hc => ?_) (fun hc => ?_) <;> (try simp only [RC] at hc) <;> (try (exfalso; first | omega | contradiction)))
          | (simp only [Q4, Jo, reduceIte, J0])
          | ((with_reducible refine hK _ _ ?_); clear hK)
          | (simp only [Q3, RA, Jn, Jm, Jp, Q2, Q0, ev, ofValue, Jt, J0, J3, J2, J4, reduceCtorEq, reduceIte, Ju, Qb, Qa, Jy, aun, Q9, Jk, Jh, Jx, Jw, Ji, Q8, Jf, Q1, Jr, Js, J1, J5, Ja, J9, Jb, J6, J7, Jd, J8, RB, Jv, Je, Wa, k0, k1, k5', f1, f2])
          | (simp (disch := first | omega | (simp only [RO]; done) | assumption) only [RS, hs.rd.at1 Z4 Xt, hs.load1 Y0, ht.rd.at1 Z4 Xt, ht.load1 Y0, X6, X7])
        all_goals
          (
           (refine Qg (rs := [.tmp 4]) rfl ?_)
           (simp only [Qx, Qd, Fr.put_some, Fr.put_none, Qe, Qf, Qi, J0, reduceIte, hv])
           (try simp (disch := (first | omega | (simp only [RO]; done) | assumption | (simp only [RM, Je]; done) | (simp only [RL, Je]; omega))) only [RD, reduceCtorEq, reduceIte, Je, J1, J3, J2, J6, Wa, hv]))
      · have hd2 : val (xs.drop m) = val (ys.drop m) := by rw [Y5 xs (by omega), Y5 ys (by omega), hd, h]
        repeat' first
          | (with_reducible first | refine Jj (fun K hK => ?_) | refine Qc ?_ | refine Q6 ?_ | refine Jg ?_ | refine Qw (id := 8) [] pn81_8RfB (by kernel_rfl) (by kernel_rfl) ?_ | refine Jz ?_)
          | (with_reducible refine X5 (fun hc => ?_) (fun hc => ?_) <;> (try simp only [RC] at hc) <;> (try (exfalso; first | omega | contradiction)))
          | (simp only [Q4, Jo, reduceIte, J0])
          | ((with_reducible refine hK _ _ ?_); clear hK)
          | (simp only [Q3, RA, Jn, Jm, Jp, Q2, Q0, ev, ofValue, Jt, J0, J3, J2, J4, reduceCtorEq, reduceIte, Ju, Qb, Qa, Jy, aun, Q9, Jk, Jh, Jx, Jw, Ji, Q8, Jf, Q1, Jr, Js, J1, J5, Ja, J9, Jb, J6, J7, Jd, J8, RB, Jv, Je, Wa, k0, k1, k5', w2, h])
          | (simp (disch := first | omega | (simp only [RO]; done) | assumption) only [RS, hs.rd.at1 Z4 Xt, hs.load1 Y0, ht.rd.at1 Z4 Xt, ht.load1 Y0, X6, X7])
        all_goals exact ⟨m, by omega, by omega, rfl, hd2⟩
      · have hv := n2 (val_limb_lt cy.lim cx.lim hl.symm (by omega) hd.symm h)
        have f1 : (xs.getD m 0 = ys.getD m 0) = False := eq_false (by omega)
        have f2 : (xs.getD m 0 < ys.getD m 0) = False := eq_false (by omega)
        repeat' first
          | (with_reducible first | refine Jj (fun K hK => ?_) | refine Qc ?_ | refine Q6 ?_ | refine Qj ?_ | refine Jg ?_ | refine Qw (id := 8) [] pn81_8RfB (by kernel_rfl) (by kernel_rfl) ?_ | refine Qw (id := 9) [] pn81_9RfB (by kernel_rfl) (by kernel_rfl) ?_ | refine Jz ?_)
          | (with_reducible refine X5 (fun hc => ?_) (fun hc => ?_) <;> (try simp only [RC] at hc) <;> (try (exfalso; first | omega | contradiction)))
          | (simp only [Q4, Jo, reduceIte, J0])
          | ((with_reducible refine hK _ _ ?_); clear hK)
          | (simp only [Q3, RA, Jn, Jm, Jp, Q2, Q0, ev, ofValue, Jt, J0, J3, J2, J4, reduceCtorEq, reduceIte, Ju, Qb, Qa, Jy, aun, Q9, Jk, Jh, Jx, Jw, Ji, Q8, Jf, Q1, Jr, Js, J1, J5, Ja, J9, Jb, J6, J7, Jd, J8, RB, Jv, Je, Wa, k0, k1, k5', f1, f2])
          | (simp (disch := first | omega | (simp only [RO]; done) | assumption) only [RS, hs.rd.at1 Z4 Xt, hs.load1 Y0, ht.rd.at1 Z4 Xt, ht.load1 Y0, X6, X7])
        all_goals
          (
           (refine Qg (rs := [.tmp 4]) rfl ?_)
           (simp only [Qx, Qd, Fr.put_some, Fr.put_none, Qe, Qf, Qi, J0, reduceIte, hv])
           (try simp (disch := (first | omega | (simp only [RO]; done) | assumption | (simp only [RM, Je]; done) | (simp only [RL, Je]; omega))) only [RD, reduceCtorEq, reduceIte, Je, J1, J3, J2, J6, Wa, hv]))
  · have e1 : ((xs.length : Int) = (ys.length : Int)) = False := eq_false (by omega)
    by_cases h : xs.length < ys.length
    · have e2 : ((xs.length : Int) < (ys.length : Int)) = True := eq_true (by omega)
      have hv := n1 (J1y cx.lim cy h)
      repeat' first
        | (with_reducible first | refine Jj (fun K hK => ?_) | refine Qj ?_ | refine Jg ?_ | refine Jz ?_)
        | (simp only [Q4, Jo, reduceIte, J0])
        | ((with_reducible refine hK _ _ ?_); clear hK)
        | (simp only [Q3, RA, Jn, Jm, Jp, Q2, Q0, ev, ofValue, Jt, J0, J3, J2, J4, reduceCtorEq, reduceIte, Ju, Qb, Qa, Jy, aun, Q9, Jk, Jh, Jx, Jw, Ji, Q8, Jf, Q1, Jr, Js, J1, J5, Ja, J9, Jb, J6, J7, Jd, J8, RB, Jv, Je, Wa, l1, l2, e1, e2])
      all_goals
        (
         (refine Qg (rs := [.tmp 4]) rfl ?_)
         (simp only [Qx, Qd, Fr.put_some, Fr.put_none, Qe, Qf, Qi, J0, reduceIte, hv])
         (try simp (disch := (first | omega | (simp only [RO]; done) | assumption | (simp only [RM, Je]; done) | (simp only [RL, Je]; omega))) only [RD, reduceCtorEq, reduceIte, Je, J1, J3, J2, J6, Wa, hv]))
    · have e2 : ((xs.length : Int) < (ys.length : Int)) = False := eq_false (by omega)
      have hv := n2 (J1y cy.lim cx (by omega))
      repeat' first
        | (with_reducible first | refine Jj (fun K hK => ?_) | refine Q6 ?_ | refine Qj ?_ | refine Jg ?_ | refine Jz ?_)
        | (simp only [Q4, Jo, reduceIte, J0])
        | ((with_reducible refine hK _ _ ?_); clear hK)
        | (simp only [Q3, RA, Jn, Jm, Jp, Q2, Q0, ev, ofValue, Jt, J0, J3, J2, J4, reduceCtorEq, reduceIte, Ju, Qb, Qa, Jy, aun, Q9, Jk, Jh, Jx, Jw, Ji, Q8, Jf, Q1, Jr, Js, J1, J5, Ja, J9, Jb, J6, J7, Jd, J8, RB, Jv, Je, Wa, l1, l2, e1, e2])
      all_goals
        (
         (refine Qg (rs := [.tmp 4]) rfl ?_)
         (simp only [Qx, Qd, Fr.put_some, Fr.put_none, Qe, Qf, Qi, J0, reduceIte, hv])
         (try simp (disch := (first | omega | (simp only [RO]; done) | assumption | (simp only [RM, Je]; done) | (simp only [RL, Je]; omega))) only [RD, reduceCtorEq, reduceIte, Je, J1, J3, J2, J6, Wa, hv]))
end Go.Proofs.YtfalfmfkifemeaaGreatDoor
namespace Go.Proofs.YtfalfmfkifemeaaGreatDoor
open Go.AL Go.PW
theorem Nx : type_of% (Jc @Xd (Jc @X1 (@Xj))) := Jc @Xd (Jc @X1 (@Xj))
set_option maxRecDepth 8000
theorem Gg (H : Hp) (n : Nat) (l : IntKind) (hn : n < 1000000) : Zv Tryz.prog H 44 (.int l (n : Int)) (.int l (n : Int)) = some (.sl H.length 0 n n, H ++ [Ub (List.replicate n 0)]) := by
  have e : Js [AV.int .u64 0] n = (List.replicate n (0 : Int)).map (AV.int .u64) := by
    unfold Js
    induction n with
    | zero => rfl
    | succ n ih => rw [List.replicate_succ, List.flatten_cons, ih (by omega)]; rfl
  have hc : (AV.int .u64 0).cells = [AV.int .u64 0] := rfl
  simp only [Zv, Z4, Xt, zero31, bytes31, hc]
  rw [if_pos ⟨rfl, rfl, by decide, by omega, by omega, by omega, by omega⟩, Int.toNat_natCast, e]
theorem Yp {H : Hp} {h : Nat} {xs : List Int} (hg : Qt H h = some (Ub xs)) {i : Nat} (hi : i < xs.length) (x : Int) : Ke Tryz.prog H 31 (.ptr h i) (.int .u64 x) = some (H.set h (Ub (xs.set i x))) := by
  rw [Uc, hg]
  simp only [Xt]
  have hc : (AV.int .u64 x).cells = [AV.int .u64 x] := rfl
  rw [if_pos ⟨trivial, rfl, rfl, by rw [Y1]; exact hi⟩, hc, Wd (AV.int .u64) xs x hi]
theorem tl_zero (xs : List Int) : ∀ k i, tl xs k ≤ i → i < k → xs.getD i 0 = 0
  | 0, i, _, h => by omega
  | k + 1, i, h1, h2 => by
    by_cases hx : xs.getD k 0 = 0
    · rw [tl_z hx] at h1
      by_cases e : i = k
      · rw [e]; exact hx
      · exact tl_zero xs k i h1 (by omega)
    · rw [tl_nz hx] at h1; omega
theorem tl_top (xs : List Int) : ∀ k, tl xs k ≠ 0 → xs.getD (tl xs k - 1) 0 ≠ 0
  | 0, h => absurd rfl h
  | k + 1, h => by
    by_cases hx : xs.getD k 0 = 0
    · rw [tl_z hx] at h ⊢; exact tl_top xs k h
    · rw [tl_nz hx]; exact hx
theorem val_noughts : ∀ (xs : List Int), (∀ x ∈ xs, x = 0) → val xs = 0
  | [], _ => rfl
  | x :: xs, h => by
    rw [show val (x :: xs) = x + Bs * val xs from rfl, h x (List.mem_cons_self ..), val_noughts xs fun y hy => h y (List.mem_cons_of_mem _ hy)]
    simp
theorem Nw (xs : List Int) (k : Nat) (hk : k ≤ xs.length) : val (xs.take (tl xs k)) = val (xs.take k) := by
  have hl := Ur xs k
  have h := Zx (xs.take k) (tl xs k)
  rw [List.take_take, Nat.min_eq_left hl] at h
  rw [h, val_noughts ((xs.take k).drop (tl xs k))]
  · simp
  · intro x hx
    obtain ⟨i, hi, rfl⟩ := List.mem_iff_getElem.1 hx
    rw [List.length_drop, List.length_take] at hi
    have := tl_zero xs k (tl xs k + i) (by omega) (by omega)
    rw [List.getD_eq_getElem?_getD, List.getElem?_eq_getElem (by omega)] at this
    simpa using this
theorem J0e {xs : List Int} (h : Limbs xs) (k : Nat) (hk : k ≤ xs.length) (hl : k < 100000) : Can (xs.take (tl xs k)) := by
  have hle := Ur xs k
  refine ⟨h.take _, ?_, by rw [List.length_take]; omega⟩
  by_cases e : tl xs k = 0
  · left; rw [e]; rfl
  · right
    rw [List.length_take, Nat.min_eq_left (by omega), List.getD_eq_getElem?_getD, List.getElem?_take, if_pos (by omega), ← List.getD_eq_getElem?_getD]
    exact tl_top xs k e
theorem Uv.front {H : Hp} {h k c : Nat} {xs : List Int} (hg : Qt H h = some (Ub xs)) (hk : k ≤ xs.length) (hkc : k ≤ c) : Uv H (.sl h 0 k c) (xs.take k) := by
  refine ⟨?_, .inr ⟨_, hg, rfl⟩⟩
  have hlen : (xs.take k).length = k := by rw [List.length_take]; omega
  show Rd H 1 _ _ _
  rw [hlen]
  refine ⟨?_, hkc⟩
  simp only [arow, hg]
  rw [if_neg (by decide), if_pos (by rw [Y1]; omega), List.drop_zero, ← List.map_take, Nat.mul_one]
theorem Ux {xs : List Int} {i : Nat} (h : xs.length ≤ i) : xs.getD i 0 = 0 := by
  rw [List.getD_eq_getElem?_getD, List.getElem?_eq_none h]; rfl
theorem Uw (xs : List Int) (i : Nat) : val (xs.take (i + 1)) = val (xs.take i) + Bs ^ i * xs.getD i 0 := by
  rcases Nat.lt_or_ge i xs.length with h | h
  · exact Xb xs h
  · rw [List.take_of_length_le h, List.take_of_length_le (by omega), Ux h]; simp
theorem Wv {a b : Nat} (h : a ≤ b) : Bs ^ a ≤ Bs ^ b := by
  obtain ⟨d, rfl⟩ := Nat.exists_eq_add_of_le h
  rw [Int.pow_add]
  have h4 : (0 : Int) < Bs ^ d := Int.pow_pos (by decide)
  have h5 : (0 : Int) ≤ Bs ^ a := Int.le_of_lt (Int.pow_pos (by decide))
  have := Int.mul_le_mul_of_nonneg_left (show (1 : Int) ≤ Bs ^ d by omega) h5
  omega
theorem plus_step {xs ys os : List Int} {i : Nat} {c : Int} (hx : Limbs xs) (hy : Limbs ys) (ho : Limbs os) (hi : i < os.length) (hc : 0 ≤ c ∧ c ≤ 1) (h : val (os.take i) + Bs ^ i * c = val (xs.take i) + val (ys.take i)) :
    (0 ≤ (xs.getD i 0 + ys.getD i 0 + c) / Bs ∧ (xs.getD i 0 + ys.getD i 0 + c) / Bs ≤ 1) ∧ Limbs (os.set i ((xs.getD i 0 + ys.getD i 0 + c) % Bs)) ∧
    val ((os.set i ((xs.getD i 0 + ys.getD i 0 + c) % Bs)).take (i + 1)) + Bs ^ (i + 1) * ((xs.getD i 0 + ys.getD i 0 + c) / Bs) = val (xs.take (i + 1)) + val (ys.take (i + 1)) := by
  have hdx := hx.get i
  have hdy := hy.get i
  generalize hS : xs.getD i 0 + ys.getD i 0 + c = S
  have hS0 : 0 ≤ S ∧ S < 2 * Bs := by simp only [Bs] at *; omega
  have hm := Int.emod_add_mul_ediv S Bs
  have hm0 := Int.emod_nonneg S (b := Bs) (by decide)
  have hm1 := Int.emod_lt_of_pos S (b := Bs) (by decide)
  refine ⟨⟨?_, ?_⟩, ho.set i ⟨hm0, hm1⟩, ?_⟩
  · simp only [Bs] at *; omega
  · simp only [Bs] at *; omega
  · have hv := Uw xs i
    have hv' := Uw ys i
    have hv2 := Xb (os.set i (S % Bs)) (i := i) (by rw [List.length_set]; omega)
    rw [Xf _ _ (by omega), if_pos rfl, List.take_set_of_le (Nat.le_refl _)] at hv2
    rw [hv, hv', hv2, Int.pow_succ]
    have : ys.getD i 0 = S - xs.getD i 0 - c := by omega
    rw [this]
    generalize Bs ^ i = p at *
    have : p * S = p * (S % Bs) + p * Bs * (S / Bs) := by rw [Int.mul_assoc, ← Int.mul_add, hm]
    grind
set_option maxHeartbeats 4000000 in
theorem Rplus_calls (s t : AV) (xs ys : List Int) (H : Hp) (hs : Ints H .u64 s xs) (ht : Ints H .u64 t ys) (hx : Limbs xs) (hy : Limbs ys) (lx : xs.length < 90000) (ly : ys.length < 90000) : ACalls Tryz.prog 88 [s, t] H fun r H' => ∃ zs, Uv H' r zs ∧ Can zs ∧ val zs = val xs + val ys ∧ Ext H H' := by
  have l1 := hs.rd.len Z4
  have l2 := ht.rd.len Z4
  obtain ⟨n, hn⟩ : ∃ n, n = max xs.length ys.length + 1 := ⟨_, rfl⟩
  have hmax : Qy Tryz.prog .max #[3, 3] [.int .i64 (xs.length : Int), .int .i64 (ys.length : Int)] = some (.int .i64 ((n - 1 : Nat) : Int)) := by
    show some (AV.int .i64 (if ((xs.length : Int) < (ys.length : Int)) then (ys.length : Int) else (xs.length : Int))) = _
    congr 2
    split <;> omega
  have w0 : IntKind.i64.wrap (((n - 1 : Nat) : Int) + 1) = (n : Int) := by rw [Q5 (by omega) (by omega)]; omega
  have hmk := fun H0 => Gg H0 n .i64 (by omega)
  refine Q7 Tryz.func88 rfl (by kernel_rfl) (by kernel_rfl) ?_
  repeat' first
    | (with_reducible first | refine Jj (fun K hK => ?_) | refine Qc ?_ | refine Jg ?_)
    | (simp only [Q4, Jo, reduceIte, J0])
    | ((with_reducible refine hK _ _ ?_); clear hK)
    | (simp only [Q3, RA, Jn, Jm, Jp, Q2, Q0, ev, ofValue, Jt, J0, J3, J2, J4, reduceCtorEq, reduceIte, Ju, Qb, Qa, Jy, aun, Q9, Jk, Jh, Jx, Jw, Ji, Q8, Jf, Q1, Jr, Js, J1, J5, Ja, J9, Jb, J6, J7, Jd, J8, RB, Jv, Je, Nx, l1, l2, hmax, w0, hmk])
  refine X2 (fun m fr' H1 => ∃ (i : Nat) (os : List Int) (c : Int), m = n - i ∧ i ≤ n ∧ fr' 0 = s ∧ fr' 1 = t ∧ fr' 5 = .int .i64 (n : Int) ∧ fr' 6 = .sl H.length 0 n n ∧ fr' 7 = .int .u64 c ∧ fr' 8 = .int .i64 (i : Int) ∧ os.length = n ∧ Limbs os ∧ (0 ≤ c ∧ c ≤ 1) ∧ val (os.take i) + Bs ^ i * c = val (xs.take i) + val (ys.take i) ∧ H ++ [Ub os] = H1) (m := n)
    ⟨0, List.replicate n 0, 0, by omega, by omega, rfl, rfl, rfl, rfl, rfl, rfl, by simp, Limbs.replicate n, ⟨by omega, by omega⟩, by simp [val], rfl⟩ ?_
  rintro m fr' H1 ⟨i, os, c, rfl, hi, k0, k1, k5, k6, k7, k8, hol, hos, hcc, hv, rfl⟩
  have hg : Qt (H ++ [Ub os]) H.length = some (Ub os) := Qo rfl
  by_cases hlt : i < n
  · have e1 : IntKind.i64.wrap ((i : Int) + 1) = ((i + 1 : Nat) : Int) := by rw [Q5 (by omega) (by omega)]; omega
    obtain ⟨hc', hos', hv'⟩ := plus_step hx hy hos (by omega) hcc hv
    have hdx := hx.get i
    have hdy := hy.get i
    have st := Yp hg (i := i) (by omega) ((xs.getD i 0 + ys.getD i 0 + c) % Bs)
    have hset : (H ++ [Ub os]).set H.length (Ub (os.set i ((xs.getD i 0 + ys.getD i 0 + c) % Bs))) = H ++ [Ub (os.set i ((xs.getD i 0 + ys.getD i 0 + c) % Bs))] := by
      rw [List.set_append_right _ _ (Nat.le_refl _), Nat.sub_self]; rfl
    rw [hset] at st
    by_cases h1 : i < xs.length
    · by_cases h2 : i < ys.length
      · skip
        repeat' first
          | (with_reducible first | refine Jj (fun K hK => ?_) | refine Qc ?_ | refine Q6 ?_ | refine Jg ?_ | refine Jz ?_)
          | ((with_reducible refine Xo (K1 _ _ _ _ hdx.1 hdy.1 hcc) ?_); rintro _ _ ⟨rfl, rfl⟩)
          | (with_reducible refine X5 (fun hc => ?_) (fun hc => ?_) <;> (try simp only [RC] at hc) <;> (try (exfalso; first | omega | contradiction)))
          | (simp only [Q4, Jo, reduceIte, J0])
          | ((with_reducible refine hK _ _ ?_); clear hK)
          | (simp only [Q3, RA, Jn, Jm, Jp, Q2, Q0, ev, ofValue, Jt, J0, J3, J2, J4, reduceCtorEq, reduceIte, Ju, Qb, Qa, Jy, aun, Q9, Jk, Jh, Jx, Jw, Ji, Q8, Jf, Q1, Jr, Js, J1, J5, Ja, J9, Jb, J6, J7, Jd, J8, RB, Jv, Je, Nx, l1, l2, k0, k1, k5, k6, k7, k8, e1, st])
          | (simp (disch := first | omega | (simp only [RO]; done) | assumption) only [RS, hs.rd.at1 Z4 Xt, (hs.push _).load1 Y0, ht.rd.at1 Z4 Xt, (ht.push _).load1 Y0, X6, X7])
        all_goals exact ⟨_, by omega, i + 1, _, _, rfl, by omega, rfl, rfl, by rw [List.length_set]; exact hol, hos', hc', hv', rfl⟩
      · have z2 := Ux (xs := ys) (i := i) (by omega)
        rw [z2] at hc' hos' hv' st hdy
        repeat' first
          | (with_reducible first | refine Jj (fun K hK => ?_) | refine Qc ?_ | refine Q6 ?_ | refine Jg ?_ | refine Jz ?_)
          | ((with_reducible refine Xo (K1 _ _ _ _ hdx.1 hdy.1 hcc) ?_); rintro _ _ ⟨rfl, rfl⟩)
          | (with_reducible refine X5 (fun hc => ?_) (fun hc => ?_) <;> (try simp only [RC] at hc) <;> (try (exfalso; first | omega | contradiction)))
          | (simp only [Q4, Jo, reduceIte, J0])
          | ((with_reducible refine hK _ _ ?_); clear hK)
          | (simp only [Q3, RA, Jn, Jm, Jp, Q2, Q0, ev, ofValue, Jt, J0, J3, J2, J4, reduceCtorEq, reduceIte, Ju, Qb, Qa, Jy, aun, Q9, Jk, Jh, Jx, Jw, Ji, Q8, Jf, Q1, Jr, Js, J1, J5, Ja, J9, Jb, J6, J7, Jd, J8, RB, Jv, Je, Nx, l1, l2, k0, k1, k5, k6, k7, k8, e1, st])
          | (simp (disch := first | omega | (simp only [RO]; done) | assumption) only [RS, hs.rd.at1 Z4 Xt, (hs.push _).load1 Y0, ht.rd.at1 Z4 Xt, (ht.push _).load1 Y0, X6, X7])
        all_goals exact ⟨_, by omega, i + 1, _, _, rfl, by omega, rfl, rfl, by rw [List.length_set]; exact hol, hos', hc', hv', rfl⟩
    · have z1 := Ux (xs := xs) (i := i) (by omega)
      rw [z1] at hc' hos' hv' st hdx
      by_cases h2 : i < ys.length
      · skip
        repeat' first
          | (with_reducible first | refine Jj (fun K hK => ?_) | refine Qc ?_ | refine Q6 ?_ | refine Jg ?_ | refine Jz ?_)
          | ((with_reducible refine Xo (K1 _ _ _ _ hdx.1 hdy.1 hcc) ?_); rintro _ _ ⟨rfl, rfl⟩)
          | (with_reducible refine X5 (fun hc => ?_) (fun hc => ?_) <;> (try simp only [RC] at hc) <;> (try (exfalso; first | omega | contradiction)))
          | (simp only [Q4, Jo, reduceIte, J0])
          | ((with_reducible refine hK _ _ ?_); clear hK)
          | (simp only [Q3, RA, Jn, Jm, Jp, Q2, Q0, ev, ofValue, Jt, J0, J3, J2, J4, reduceCtorEq, reduceIte, Ju, Qb, Qa, Jy, aun, Q9, Jk, Jh, Jx, Jw, Ji, Q8, Jf, Q1, Jr, Js, J1, J5, Ja, J9, Jb, J6, J7, Jd, J8, RB, Jv, Je, Nx, l1, l2, k0, k1, k5, k6, k7, k8, e1, st])
          | (simp (disch := first | omega | (simp only [RO]; done) | assumption) only [RS, hs.rd.at1 Z4 Xt, (hs.push _).load1 Y0, ht.rd.at1 Z4 Xt, (ht.push _).load1 Y0, X6, X7])
        all_goals exact ⟨_, by omega, i + 1, _, _, rfl, by omega, rfl, rfl, by rw [List.length_set]; exact hol, hos', hc', hv', rfl⟩
      · have z2 := Ux (xs := ys) (i := i) (by omega)
        rw [z2] at hc' hos' hv' st hdy
        repeat' first
          | (with_reducible first | refine Jj (fun K hK => ?_) | refine Qc ?_ | refine Q6 ?_ | refine Jg ?_ | refine Jz ?_)
          | ((with_reducible refine Xo (K1 _ _ _ _ hdx.1 hdy.1 hcc) ?_); rintro _ _ ⟨rfl, rfl⟩)
          | (with_reducible refine X5 (fun hc => ?_) (fun hc => ?_) <;> (try simp only [RC] at hc) <;> (try (exfalso; first | omega | contradiction)))
          | (simp only [Q4, Jo, reduceIte, J0])
          | ((with_reducible refine hK _ _ ?_); clear hK)
          | (simp only [Q3, RA, Jn, Jm, Jp, Q2, Q0, ev, ofValue, Jt, J0, J3, J2, J4, reduceCtorEq, reduceIte, Ju, Qb, Qa, Jy, aun, Q9, Jk, Jh, Jx, Jw, Ji, Q8, Jf, Q1, Jr, Js, J1, J5, Ja, J9, Jb, J6, J7, Jd, J8, RB, Jv, Je, Nx, l1, l2, k0, k1, k5, k6, k7, k8, e1, st])
          | (simp (disch := first | omega | (simp only [RO]; done) | assumption) only [RS, hs.rd.at1 Z4 Xt, (hs.push _).load1 Y0, ht.rd.at1 Z4 Xt, (ht.push _).load1 Y0, X6, X7])
        all_goals exact ⟨_, by omega, i + 1, _, _, rfl, by omega, rfl, rfl, by rw [List.length_set]; exact hol, hos', hc', hv', rfl⟩
  · obtain rfl : n = i := by omega
    have htr := trim_calls H.length n n os (H ++ [Ub os]) hg (by omega) (Nat.le_refl _) (by omega)
    repeat' first
      | (with_reducible first | refine Jj (fun K hK => ?_) | refine Qz ?_ | refine Qj ?_ | refine Jg ?_ | refine Jz ?_)
      | ((with_reducible refine Jq (htr) ?_); rintro _ _ ⟨rfl, rfl⟩)
      | (with_reducible refine X5 (fun hc => ?_) (fun hc => ?_) <;> (try simp only [RC] at hc) <;> (try (exfalso; first | omega | contradiction)))
      | (simp only [Q4, Jo, reduceIte, J0])
      | ((with_reducible refine hK _ _ ?_); clear hK)
      | (clear hK; (with_reducible refine hK _ _ ?_); clear hK)
      | (simp only [Q3, RA, Jn, Jm, Jp, Q2, Q0, ev, ofValue, Jt, J0, J3, J2, J4, reduceCtorEq, reduceIte, Ju, Qb, Qa, Jy, aun, Q9, Jk, Jh, Jx, Jw, Ji, Q8, Jf, Q1, Jr, Js, J1, J5, Ja, J9, Jb, J6, J7, Jd, J8, RB, Jv, Je, Nx, k0, k1, k5, k6, k7, k8])
    all_goals
      (
       (refine Qg (rs := [.tmp 4]) rfl ?_)
       (simp only [Qx, Qd, Fr.put_some, Fr.put_none, Qe, Qf, Qi, J0, reduceIte])
       (try simp (disch := (first | omega | (simp only [RO]; done) | assumption | (simp only [RM, Je]; done) | (simp only [RL, Je]; omega))) only [RD, reduceCtorEq, reduceIte, Je, J1, J3, J2, J6, Nx]))
    have hall : os.take n = os := List.take_of_length_le (by omega)
    have hX : xs.take n = xs := List.take_of_length_le (by omega)
    have hY : ys.take n = ys := List.take_of_length_le (by omega)
    rw [hall, hX, hY] at hv
    have hc0 : c = 0 := by
      have b1 := (Xa hx).2
      have b2 := (Xa hy).2
      have b3 := (Xa hos).1
      have m1 : Bs ^ xs.length ≤ Bs ^ (n - 1) := Wv (by omega)
      have m2 : Bs ^ ys.length ≤ Bs ^ (n - 1) := Wv (by omega)
      have m3 : Bs ^ n = Bs ^ (n - 1) * Bs := by rw [← Int.pow_succ]; congr 1; omega
      have m4 : (0 : Int) < Bs ^ (n - 1) := Int.pow_pos (by decide)
      rcases Int.lt_or_le c 1 with h | h
      · omega
      · exfalso
        obtain rfl : c = 1 := by omega
        rw [m3] at hv
        simp only [Bs] at *
        omega
    rw [hc0] at hv
    all_goals
      refine ⟨os.take (tl os n), Uv.front hg (by have := Ur os n; omega) (Ur os n), J0e hos n (by omega) (by omega), ?_, Ext.push _ _⟩
      rw [Nw _ _ (by omega), hall]
      omega
end Go.Proofs.YtfalfmfkifemeaaGreatDoor
namespace Go.Proofs.YtfalfmfkifemeaaGreatDoor
open Go.AL Go.PW
theorem tf89RfD : type_of% (Jc @Xd (Jc @X1 (@Xj))) := Jc @Xd (Jc @X1 (@Xj))
set_option maxRecDepth 8000
theorem minus_step {xs ys os : List Int} {i : Nat} {c : Int} (hx : Limbs xs) (hy : Limbs ys) (ho : Limbs os) (hi : i < os.length) (hc : 0 ≤ c ∧ c ≤ 1) (h : val (os.take i) - Bs ^ i * c = val (xs.take i) - val (ys.take i)) :
    (0 ≤ (if xs.getD i 0 < ys.getD i 0 + c then (1 : Int) else 0) ∧ (if xs.getD i 0 < ys.getD i 0 + c then (1 : Int) else 0) ≤ 1) ∧ Limbs (os.set i ((xs.getD i 0 - ys.getD i 0 - c) % Bs)) ∧
    val ((os.set i ((xs.getD i 0 - ys.getD i 0 - c) % Bs)).take (i + 1)) - Bs ^ (i + 1) * (if xs.getD i 0 < ys.getD i 0 + c then (1 : Int) else 0) = val (xs.take (i + 1)) - val (ys.take (i + 1)) := by
  have hdx := hx.get i
  have hdy := hy.get i
  have hb : (if xs.getD i 0 < ys.getD i 0 + c then (1 : Int) else 0) = -((xs.getD i 0 - ys.getD i 0 - c) / Bs) := by
    split
    · simp only [Bs] at *; omega
    · simp only [Bs] at *; omega
  rw [hb]
  generalize hS : xs.getD i 0 - ys.getD i 0 - c = S
  have hS0 : -(Bs + 1) < S ∧ S < Bs := by simp only [Bs] at *; omega
  have hm := Int.emod_add_mul_ediv S Bs
  have hm0 := Int.emod_nonneg S (b := Bs) (by decide)
  have hm1 := Int.emod_lt_of_pos S (b := Bs) (by decide)
  refine ⟨⟨?_, ?_⟩, ho.set i ⟨hm0, hm1⟩, ?_⟩
  · simp only [Bs] at *; omega
  · simp only [Bs] at *; omega
  · have hv := Uw xs i
    have hv' := Uw ys i
    have hv2 := Xb (os.set i (S % Bs)) (i := i) (by rw [List.length_set]; omega)
    rw [Xf _ _ (by omega), if_pos rfl, List.take_set_of_le (Nat.le_refl _)] at hv2
    rw [hv, hv', hv2, Int.pow_succ]
    have : ys.getD i 0 = xs.getD i 0 - S - c := by omega
    rw [this]
    generalize Bs ^ i = p at *
    have : p * S = p * (S % Bs) + p * Bs * (S / Bs) := by rw [Int.mul_assoc, ← Int.mul_add, hm]
    grind
set_option maxHeartbeats 4000000 in
theorem Rminus_calls (s t : AV) (xs ys : List Int) (H : Hp) (hs : Ints H .u64 s xs) (ht : Ints H .u64 t ys) (hx : Limbs xs) (hy : Limbs ys) (lx : xs.length < 90000) (ly : ys.length ≤ xs.length) (hle : val ys ≤ val xs) : ACalls Tryz.prog 89 [s, t] H fun r H' => ∃ zs, Uv H' r zs ∧ Can zs ∧ val zs = val xs - val ys ∧ Ext H H' := by
  have l1 := hs.rd.len Z4
  have l2 := ht.rd.len Z4
  obtain ⟨n, hn⟩ : ∃ n, n = xs.length := ⟨_, rfl⟩
  rw [← hn] at l1
  have hmk := fun H0 => Gg H0 n .i64 (by omega)
  refine Q7 Tryz.func89 rfl (by kernel_rfl) (by kernel_rfl) ?_
  repeat' first
    | (with_reducible first | refine Jj (fun K hK => ?_) | refine Qc ?_ | refine Jg ?_)
    | (simp only [Q4, Jo, reduceIte, J0])
    | ((with_reducible refine hK _ _ ?_); clear hK)
    | (simp only [Q3, RA, Jn, Jm, Jp, Q2, Q0, ev, ofValue, Jt, J0, J3, J2, J4, reduceCtorEq, reduceIte, Ju, Qb, Qa, Jy, aun, Q9, Jk, Jh, Jx, Jw, Ji, Q8, Jf, Q1, Jr, Js, J1, J5, Ja, J9, Jb, J6, J7, Jd, J8, RB, Jv, Je, tf89RfD, l1, l2, hmk])
  refine X2 (fun m fr' H1 => ∃ (i : Nat) (os : List Int) (c : Int), m = n - i ∧ i ≤ n ∧ fr' 0 = s ∧ fr' 1 = t ∧ fr' 5 = .sl H.length 0 n n ∧ fr' 6 = .int .u64 c ∧ fr' 7 = .int .i64 (i : Int) ∧ os.length = n ∧ Limbs os ∧ (0 ≤ c ∧ c ≤ 1) ∧ val (os.take i) - Bs ^ i * c = val (xs.take i) - val (ys.take i) ∧ H ++ [Ub os] = H1) (m := n)
    ⟨0, List.replicate n 0, 0, by omega, by omega, rfl, rfl, rfl, rfl, rfl, by simp, Limbs.replicate n, ⟨by omega, by omega⟩, by simp [val], rfl⟩ ?_
  rintro m fr' H1 ⟨i, os, c, rfl, hi, k0, k1, k5, k6, k7, hol, hos, hcc, hv, rfl⟩
  have hg : Qt (H ++ [Ub os]) H.length = some (Ub os) := Qo rfl
  by_cases hlt : i < n
  · have e1 : IntKind.i64.wrap ((i : Int) + 1) = ((i + 1 : Nat) : Int) := by rw [Q5 (by omega) (by omega)]; omega
    obtain ⟨hc', hos', hv'⟩ := minus_step hx hy hos (by omega) hcc hv
    have hdx := hx.get i
    have hdy := hy.get i
    have st := Yp hg (i := i) (by omega) ((xs.getD i 0 - ys.getD i 0 - c) % Bs)
    have hset : (H ++ [Ub os]).set H.length (Ub (os.set i ((xs.getD i 0 - ys.getD i 0 - c) % Bs))) = H ++ [Ub (os.set i ((xs.getD i 0 - ys.getD i 0 - c) % Bs))] := by
      rw [List.set_append_right _ _ (Nat.le_refl _), Nat.sub_self]; rfl
    rw [hset] at st
    by_cases h2 : i < ys.length
    · skip
      repeat' first
        | (with_reducible first | refine Jj (fun K hK => ?_) | refine Qc ?_ | refine Q6 ?_ | refine Jg ?_ | refine Jz ?_)
        | ((with_reducible refine Xo (sub64 _ _ _ _ hdx.1 hdy hcc) ?_); rintro _ _ ⟨rfl, rfl⟩)
        | (with_reducible refine X5 (fun hc => ?_) (fun hc => ?_) <;> (try simp only [RC] at hc) <;> (try (exfalso; first | omega | contradiction)))
        | (simp only [Q4, Jo, reduceIte, J0])
        | ((with_reducible refine hK _ _ ?_); clear hK)
        | (simp only [Q3, RA, Jn, Jm, Jp, Q2, Q0, ev, ofValue, Jt, J0, J3, J2, J4, reduceCtorEq, reduceIte, Ju, Qb, Qa, Jy, aun, Q9, Jk, Jh, Jx, Jw, Ji, Q8, Jf, Q1, Jr, Js, J1, J5, Ja, J9, Jb, J6, J7, Jd, J8, RB, Jv, Je, tf89RfD, l1, l2, k0, k1, k5, k6, k7, e1, st])
        | (simp (disch := first | omega | (simp only [RO]; done) | assumption) only [RS, hs.rd.at1 Z4 Xt, (hs.push _).load1 Y0, ht.rd.at1 Z4 Xt, (ht.push _).load1 Y0, X6, X7])
      all_goals exact ⟨_, by omega, i + 1, _, _, rfl, by omega, rfl, rfl, by rw [List.length_set]; exact hol, hos', hc', hv', rfl⟩
    · have z2 := Ux (xs := ys) (i := i) (by omega)
      rw [z2] at hc' hos' hv' st hdy
      repeat' first
        | (with_reducible first | refine Jj (fun K hK => ?_) | refine Qc ?_ | refine Q6 ?_ | refine Jg ?_ | refine Jz ?_)
        | ((with_reducible refine Xo (sub64 _ _ _ _ hdx.1 hdy hcc) ?_); rintro _ _ ⟨rfl, rfl⟩)
        | (with_reducible refine X5 (fun hc => ?_) (fun hc => ?_) <;> (try simp only [RC] at hc) <;> (try (exfalso; first | omega | contradiction)))
        | (simp only [Q4, Jo, reduceIte, J0])
        | ((with_reducible refine hK _ _ ?_); clear hK)
        | (simp only [Q3, RA, Jn, Jm, Jp, Q2, Q0, ev, ofValue, Jt, J0, J3, J2, J4, reduceCtorEq, reduceIte, Ju, Qb, Qa, Jy, aun, Q9, Jk, Jh, Jx, Jw, Ji, Q8, Jf, Q1, Jr, Js, J1, J5, Ja, J9, Jb, J6, J7, Jd, J8, RB, Jv, Je, tf89RfD, l1, l2, k0, k1, k5, k6, k7, e1, st])
        | (simp (disch := first | omega | (simp only [RO]; done) | assumption) only [RS, hs.rd.at1 Z4 Xt, (hs.push _).load1 Y0, ht.rd.at1 Z4 Xt, (ht.push _).load1 Y0, X6, X7])
      all_goals exact ⟨_, by omega, i + 1, _, _, rfl, by omega, rfl, rfl, by rw [List.length_set]; exact hol, hos', hc', hv', rfl⟩
  · obtain rfl : n = i := by omega
    have htr := trim_calls H.length n n os (H ++ [Ub os]) hg (by omega) (Nat.le_refl _) (by omega)
    repeat' first
      | (with_reducible first | refine Jj (fun K hK => ?_) | refine Qz ?_ | refine Qj ?_ | refine Jg ?_ | refine Jz ?_)
      | ((with_reducible refine Jq (htr) ?_); rintro _ _ ⟨rfl, rfl⟩)
      | (with_reducible refine X5 (fun hc => ?_) (fun hc => ?_) <;> (try simp only [RC] at hc) <;> (try (exfalso; first | omega | contradiction)))
      | (simp only [Q4, Jo, reduceIte, J0])
      | ((with_reducible refine hK _ _ ?_); clear hK)
      | (clear hK; (with_reducible refine hK _ _ ?_); clear hK)
      | (simp only [Q3, RA, Jn, Jm, Jp, Q2, Q0, ev, ofValue, Jt, J0, J3, J2, J4, reduceCtorEq, reduceIte, Ju, Qb, Qa, Jy, aun, Q9, Jk, Jh, Jx, Jw, Ji, Q8, Jf, Q1, Jr, Js, J1, J5, Ja, J9, Jb, J6, J7, Jd, J8, RB, Jv, Je, tf89RfD, l1, k0, k1, k5, k6, k7])
    all_goals
      (
       (refine Qg (rs := [.tmp 4]) rfl ?_)
       (simp only [Qx, Qd, Fr.put_some, Fr.put_none, Qe, Qf, Qi, J0, reduceIte])
       (try simp (disch := (first | omega | (simp only [RO]; done) | assumption | (simp only [RM, Je]; done) | (simp only [RL, Je]; omega))) only [RD, reduceCtorEq, reduceIte, Je, J1, J3, J2, J6, tf89RfD]))
    have hall : os.take n = os := List.take_of_length_le (by omega)
    have hX : xs.take n = xs := List.take_of_length_le (by omega)
    have hY : ys.take n = ys := List.take_of_length_le (by omega)
    rw [hall, hX, hY] at hv
    have hc0 : c = 0 := by
      have b3 := (Xa hos).2
      rw [hol] at b3
      rcases Int.lt_or_le c 1 with h | h
      · omega
      · exfalso
        obtain rfl : c = 1 := by omega
        omega
    rw [hc0] at hv
    all_goals
      refine ⟨os.take (tl os n), Uv.front hg (by have := Ur os n; omega) (Ur os n), J0e hos n (by omega) (by omega), ?_, Ext.push _ _⟩
      rw [Nw _ _ (by omega), hall]
      omega
end Go.Proofs.YtfalfmfkifemeaaGreatDoor

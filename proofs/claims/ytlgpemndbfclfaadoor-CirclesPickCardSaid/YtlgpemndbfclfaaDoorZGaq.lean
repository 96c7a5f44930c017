/- Part 17 of the proof of laws of this seat: lemmas on the model's code, on this program's functions, on numbers. No condition. -/
import Derived.Test.YtlgpemndbfclfaaDoorZGap
import Derived.Laws.BitsLemmas
set_option linter.unusedVariables false
set_option linter.unusedSimpArgs false
open Nat renaming reduceEqDiff → J0, reduceLeDiff → J1, reduceMul → J2, reduceAdd → J3, reduceSub → J4, reduceLT → J5
open Int renaming reduceToNat → J6, reducePow → J7, reduceNeg → J8, reduceLT → J9, reduceLE → Ja, reduceEq → Jb
open And renaming intro → Jc
open Go.IntKind renaming bits → Jd
open Go.PW renaming dig_length → Je
namespace Go.Proofs.YtlgpemndbfclfaaDoor
open Go.AL Go.PW Go.PR
theorem Ku : type_of% (Jc @Xz (Jc @Qx (Jc @Rv (@Wz)))) := Jc @Xz (Jc @Qx (Jc @Rv (@Wz)))
theorem tf44CiA : type_of% (Jc @Qx (Jc @tyb81 (@cv53_81))) := Jc @Qx (Jc @tyb81 (@cv53_81))
theorem tf24CiA : type_of% (Jc @Yj (Jc @Qx (Jc @tyb81 (Jc @Ni (@cv81_2))))) := Jc @Yj (Jc @Qx (Jc @tyb81 (Jc @Ni (@cv81_2))))
set_option maxRecDepth 8000
theorem two_lt {s : Nat} (hs : s < 64) : (2 : Int) ^ s < Bs := by
  have h : (2 : Nat) ^ s < 2 ^ 64 := Nat.pow_lt_pow_right (by decide) hs
  have h2 : ((2 ^ s : Nat) : Int) = (2 : Int) ^ s := by push_cast; rfl
  have h3 : ((2 ^ 64 : Nat) : Int) = Bs := by simp only [Bs]; decide
  rw [← h2, ← h3]; omega
set_option maxHeartbeats 4000000 in
theorem root_calls (hi lo : Int) (n : Nat) (H : Hp) (hh : 0 ≤ hi ∧ hi < Bs) (hl : 0 ≤ lo ∧ lo < Bs) (hn : (n : Int) = hi * Bs + lo) : ACalls Tryd.prog 33 [.int .u64 hi, .int .u64 lo] H fun r H' => r = .int .u64 (rt n : Nat) ∧ H = H' := by
  refine Qe Tryd.func33 rfl (by kernel_rfl) (by kernel_rfl) ?_
  repeat' first
    | (with_reducible first | refine Jj (fun K hK => ?_) | refine Js ?_ | refine Q2 ?_ | refine Qc ?_ | refine Qb ?_ | refine Jg ?_ | refine Jq ?_)
    | (with_reducible refine Jv (fun hc => ?_) (fun hc => ?_) <;> (try simp only [RC] at hc) <;> (try (exfalso; first | omega | contradiction)))
    | (with_reducible refine X3 (fun hc => ?_) (fun hc => ?_) <;> (try simp only [RC] at hc) <;> (try (exfalso; first | omega | contradiction)))
    | (simp only [Q8, Jk, reduceIte, J0])
    | ((with_reducible refine hK _ _ ?_); clear hK)
    | (clear hK; (with_reducible refine hK _ _ ?_); clear hK)
    | (clear hK; clear hK; (with_reducible refine hK _ _ ?_); clear hK)
    | (clear hK; clear hK; clear hK; (with_reducible refine hK _ _ ?_); clear hK)
    | (clear hK; clear hK; clear hK; clear hK; (with_reducible refine hK _ _ ?_); clear hK)
    | (clear hK; clear hK; clear hK; clear hK; clear hK; (with_reducible refine hK _ _ ?_); clear hK)
    | (simp only [Qa, RA, Jo, Jn, Jp, Q7, Q5, ev, ofValue, Ju, J0, J3, J2, J4, reduceCtorEq, reduceIte, Jx, Qm, Qk, Q1, aun, Qj, Jm, Jh, Q0, Jz, Ji, Qi, Jf, Q6, Jw, Jr, J1, J5, Ja, J9, Jb, J6, J7, Jd, J8, RB, Jy, Je, Ku])
    | (simp (disch := first | omega | (simp only [RO]; done) | assumption) only [RS])
    | (simp (disch := (first | omega | (simp only [RO]; done) | assumption | (simp only [RM, Je]; done) | (simp only [RL, Je]; omega))) only [RD, reduceCtorEq, reduceIte, Je, J1, J3, J2, J6, Ku])
  refine Xr (fun m fr' H1 => ∃ (s r c : Nat), m = s ∧ s ≤ 64 ∧ fr' 0 = .int .u64 hi ∧ fr' 1 = .int .u64 lo ∧ fr' 5 = .int .u64 (r : Int) ∧ fr' 6 = .int .i64 ((s : Int) - 1) ∧ r = c * 2 ^ s ∧ (r : Int) + 2 ^ s ≤ Bs ∧ Gm n s r = rt n ∧ H = H1) (m := 64)
    ⟨64, 0, 0, rfl, by omega, rfl, rfl, rfl, rfl, by simp, by decide, rfl, rfl⟩ ?_
  rintro s fr' H1 ⟨s0, r, c, hm0, hs, k0, k1, k5, k6, hc, hb, hg, rfl⟩
  subst hm0
  cases s with
  | zero =>
    have f0 : (((0 : Nat) : Int) - 1 ≥ 0) = False := eq_false (by omega)
    repeat' first
      | (with_reducible first | refine Jj (fun K hK => ?_) | refine Js ?_ | refine Q2 ?_ | refine Qc ?_ | refine Qb ?_ | refine Jg ?_ | refine Jq ?_)
      | (with_reducible refine Jv (fun hc => ?_) (fun hc => ?_) <;> (try simp only [RC] at hc) <;> (try (exfalso; first | omega | contradiction)))
      | (with_reducible refine X3 (fun hc => ?_) (fun hc => ?_) <;> (try simp only [RC] at hc) <;> (try (exfalso; first | omega | contradiction)))
      | (simp only [Q8, Jk, reduceIte, J0])
      | ((with_reducible refine hK _ _ ?_); clear hK)
      | (clear hK; (with_reducible refine hK _ _ ?_); clear hK)
      | (clear hK; clear hK; (with_reducible refine hK _ _ ?_); clear hK)
      | (clear hK; clear hK; clear hK; (with_reducible refine hK _ _ ?_); clear hK)
      | (clear hK; clear hK; clear hK; clear hK; (with_reducible refine hK _ _ ?_); clear hK)
      | (clear hK; clear hK; clear hK; clear hK; clear hK; (with_reducible refine hK _ _ ?_); clear hK)
      | (simp only [Qa, RA, Jo, Jn, Jp, Q7, Q5, ev, ofValue, Ju, J0, J3, J2, J4, reduceCtorEq, reduceIte, Jx, Qm, Qk, Q1, aun, Qj, Jm, Jh, Q0, Jz, Ji, Qi, Jf, Q6, Jw, Jr, J1, J5, Ja, J9, Jb, J6, J7, Jd, J8, RB, Jy, Je, Ku, k0, k1, k5, k6, f0])
      | (simp (disch := first | omega | (simp only [RO]; done) | assumption) only [RS])
      | (simp (disch := (first | omega | (simp only [RO]; done) | assumption | (simp only [RM, Je]; done) | (simp only [RL, Je]; omega))) only [RD, reduceCtorEq, reduceIte, Je, J1, J3, J2, J6, Ku, k0, k1, k5, k6, f0])
    (
     (refine Q9 (rs := [.tmp 4]) rfl ?_)
     (simp only [Qt, Q4, Fr.put_some, Fr.put_none, Qg, Qh, Qn, J0, reduceIte])
     (try simp (disch := (first | omega | (simp only [RO]; done) | assumption | (simp only [RM, Je]; done) | (simp only [RL, Je]; omega))) only [RD, reduceCtorEq, reduceIte, Je, J1, J3, J2, J6, Ku]))
    rw [← hg]; rfl
  | succ s =>
    have f0 : (((s + 1 : Nat) : Int) - 1 ≥ 0) = True := eq_true (by omega)
    have w1 : IntKind.u64.wrap (((s + 1 : Nat) : Int) - 1) = (s : Int) := by rw [Xx (by omega) (by simp only [Bs]; omega)]; omega
    have hm : min s 64 = s := by omega
    have hp : (2 : Int) ^ (s + 1) = 2 * 2 ^ s := by rw [Int.pow_succ]; omega
    have h2p : (0 : Int) < 2 ^ s := Int.pow_pos (by decide)
    have w2 : IntKind.u64.wrap (1 * 2 ^ s) = 2 ^ s := by rw [Int.one_mul]; exact Xx (by omega) (two_lt (by omega))
    obtain ⟨q, hq⟩ : ∃ q : Nat, q = r + 2 ^ s := ⟨_, rfl⟩
    have hqi : (q : Int) = (r : Int) + 2 ^ s := by rw [hq]; push_cast; rfl
    have hor : bits .or .u64 (r : Int) (2 ^ s) = (q : Int) := by
      have e : (r : Int) = (c : Int) * 2 ^ (s + 1) := by rw [hc]; push_cast; rfl
      rw [hqi, e]
      exact or_add (s + 1) (by omega) (by rw [← e]; omega) (by omega) (by omega) (two_lt (by omega))
    have hqb : 0 ≤ (q : Int) ∧ (q : Int) < Bs := by omega
    obtain ⟨Q, hQ⟩ : ∃ Q : Int, Q = (q : Int) * (q : Int) := ⟨_, rfl⟩
    have M6 := mul64_calls (q : Int) (q : Int) H hqb hqb
    rw [← hQ] at M6
    have hQn : Q ≤ (n : Int) ↔ q * q ≤ n := by
      have e : Q = ((q * q : Nat) : Int) := by rw [hQ]; push_cast; rfl
      rw [e]; omega
    have w3 : IntKind.i64.wrap (((s + 1 : Nat) : Int) - 1 - 1) = (s : Int) - 1 := by rw [Q3 (by omega) (by omega)]; omega
    have hc1 : r = 2 * c * 2 ^ s := by rw [hc, Nat.pow_succ]; rw [Nat.mul_comm 2 c, Nat.mul_assoc, Nat.mul_comm 2]
    have hc2 : q = (2 * c + 1) * 2 ^ s := by rw [hq, Nat.add_mul, ← hc1, Nat.one_mul]
    have take : Q ≤ (n : Int) → Gm n s q = rt n := fun h => by rw [← hg, hq]; simp only [Gm]; rw [if_pos (by rw [← hq]; exact hQn.1 h)]
    have skp : ¬ Q ≤ (n : Int) → Gm n s r = rt n := fun h => by rw [← hg]; simp only [Gm]; rw [if_neg (by rw [← hq]; exact fun h' => h (hQn.2 h'))]
    clear hg
    repeat' first
      | (with_reducible first | refine Jj (fun K hK => ?_) | refine Js ?_ | refine Q2 ?_ | refine Qc ?_ | refine Qb ?_ | refine Jg ?_ | refine Jq ?_)
      | ((with_reducible refine Jt (M6) ?_); rintro _ _ ⟨rfl, rfl⟩)
      | (with_reducible refine Jv (fun hc => ?_) (fun hc => ?_) <;> (try simp only [RC] at hc) <;> (try (exfalso; first | omega | contradiction)))
      | (with_reducible refine X3 (fun hc => ?_) (fun hc => ?_) <;> (try simp only [RC] at hc) <;> (try (exfalso; first | omega | contradiction)))
      | (simp only [Q8, Jk, reduceIte, J0])
      | ((with_reducible refine hK _ _ ?_); clear hK)
      | (clear hK; (with_reducible refine hK _ _ ?_); clear hK)
      | (clear hK; clear hK; (with_reducible refine hK _ _ ?_); clear hK)
      | (clear hK; clear hK; clear hK; (with_reducible refine hK _ _ ?_); clear hK)
      | (clear hK; clear hK; clear hK; clear hK; (with_reducible refine hK _ _ ?_); clear hK)
      | (clear hK; clear hK; clear hK; clear hK; clear hK; (with_reducible refine hK _ _ ?_); clear hK)
      | (simp only [Qa, RA, Jo, Jn, Jp, Q7, Q5, ev, ofValue, Ju, J0, J3, J2, J4, reduceCtorEq, reduceIte, Jx, Qm, Qk, Q1, aun, Qj, Jm, Jh, Q0, Jz, Ji, Qi, Jf, Q6, Jw, Jr, J1, J5, Ja, J9, Jb, J6, J7, Jd, J8, RB, Jy, Je, Ku, k0, k1, k5, k6, f0, w1, hm, w2, hor, w3])
      | (simp (disch := first | omega | (simp only [RO]; done) | assumption) only [RS])
      | (simp (disch := (first | omega | (simp only [RO]; done) | assumption | (simp only [RM, Je]; done) | (simp only [RL, Je]; omega))) only [RD, reduceCtorEq, reduceIte, Je, J1, J3, J2, J6, Ku, k0, k1, k5, k6, f0, w1, hm, w2, hor, w3])
    all_goals first
      | (have h : Q ≤ (n : Int) := by simp only [Bs] at *; omega
         exact ⟨s, by omega, s, q, 2 * c + 1, rfl, by omega, rfl, rfl, hc2, by omega, take h⟩)
      | (have h : ¬ Q ≤ (n : Int) := by simp only [Bs] at *; omega
         exact ⟨s, by omega, s, r, 2 * c, rfl, by omega, rfl, rfl, hc1, by omega, skp h⟩)
theorem sqrt_calls (n : Nat) (H : Hp) (hn : (n : Int) < Bs) (hb : rt n < 4294967296) : ACalls Tryd.prog 44 [.int .u64 (n : Int)] H fun r H' => r = .int .u32 (rt n : Nat) ∧ H = H' := by
  have R := root_calls 0 (n : Int) n H ⟨by omega, by simp only [Bs]; omega⟩ ⟨by omega, hn⟩ (by omega)
  have w : IntKind.u32.wrap ((rt n : Nat) : Int) = (rt n : Nat) := by
    have e : ((2 : Int) ^ IntKind.u32.bits) = 4294967296 := by decide
    simp only [IntKind.wrap, IntKind.signed, Bool.false_and, Bool.false_eq_true, if_false, e]
    omega
  refine Qe Tryd.func44 rfl (by kernel_rfl) (by kernel_rfl) ?_
  repeat' first
    | (with_reducible first | refine Jj (fun K hK => ?_) | refine Js ?_ | refine Q2 ?_ | refine Qc ?_ | refine Qb ?_ | refine Jg ?_ | refine Jq ?_)
    | ((with_reducible refine Jt (R) ?_); rintro _ _ ⟨rfl, rfl⟩)
    | (with_reducible refine Jv (fun hc => ?_) (fun hc => ?_) <;> (try simp only [RC] at hc) <;> (try (exfalso; first | omega | contradiction)))
    | (with_reducible refine X3 (fun hc => ?_) (fun hc => ?_) <;> (try simp only [RC] at hc) <;> (try (exfalso; first | omega | contradiction)))
    | (simp only [Q8, Jk, reduceIte, J0])
    | ((with_reducible refine hK _ _ ?_); clear hK)
    | (clear hK; (with_reducible refine hK _ _ ?_); clear hK)
    | (clear hK; clear hK; (with_reducible refine hK _ _ ?_); clear hK)
    | (clear hK; clear hK; clear hK; (with_reducible refine hK _ _ ?_); clear hK)
    | (clear hK; clear hK; clear hK; clear hK; (with_reducible refine hK _ _ ?_); clear hK)
    | (clear hK; clear hK; clear hK; clear hK; clear hK; (with_reducible refine hK _ _ ?_); clear hK)
    | (simp only [Qa, RA, Jo, Jn, Jp, Q7, Q5, ev, ofValue, Ju, J0, J3, J2, J4, reduceCtorEq, reduceIte, Jx, Qm, Qk, Q1, aun, Qj, Jm, Jh, Q0, Jz, Ji, Qi, Jf, Q6, Jw, Jr, J1, J5, Ja, J9, Jb, J6, J7, Jd, J8, RB, Jy, Je, tf44CiA, w])
    | (simp (disch := first | omega | (simp only [RO]; done) | assumption) only [RS])
    | (simp (disch := (first | omega | (simp only [RO]; done) | assumption | (simp only [RM, Je]; done) | (simp only [RL, Je]; omega))) only [RD, reduceCtorEq, reduceIte, Je, J1, J3, J2, J6, tf44CiA, w])
  all_goals
    (
     (refine Q9 (rs := [.tmp 2]) rfl ?_)
     (simp only [Qt, Q4, Fr.put_some, Fr.put_none, Qg, Qh, Qn, J0, reduceIte])
     (try simp (disch := (first | omega | (simp only [RO]; done) | assumption | (simp only [RM, Je]; done) | (simp only [RL, Je]; omega))) only [RD, reduceCtorEq, reduceIte, Je, J1, J3, J2, J6, tf44CiA]))
theorem rt_32 {n : Nat} (h : n < 18446744073709551616) : rt n < 4294967296 := rt_lt (Nat.lt_of_lt_of_le h (by decide)) (by omega)
set_option maxHeartbeats 4000000 in
theorem hypot_calls (x y : Int) (n : Nat) (H : Hp) (hx : -2147483648 ≤ x ∧ x ≤ 2147483648) (hy : -2147483648 ≤ y ∧ y ≤ 2147483648) (hn : (n : Int) = x * x + y * y) : ACalls Tryd.prog 24 [.int .i64 x, .int .i64 y] H fun r H' => r = .tup [.int .i64 (rt n : Nat), .bool true] ∧ H = H' := by
  have bx := Yi (x := x.natAbs) (y := x.natAbs) (p := 2147483648) (q := 2147483648) (by omega) (by omega)
  have by_ := Yi (x := y.natAbs) (y := y.natAbs) (p := 2147483648) (q := 2147483648) (by omega) (by omega)
  have ex : x * x = (x.natAbs : Int) * x.natAbs := by rw [← Int.natCast_mul]; exact (Int.natAbs_mul_self).symm
  have ey : y * y = (y.natAbs : Int) * y.natAbs := by rw [← Int.natCast_mul]; exact (Int.natAbs_mul_self).symm
  rw [← ex] at bx
  rw [← ey] at by_
  obtain ⟨X, hX⟩ : ∃ X, X = x * x := ⟨_, rfl⟩
  obtain ⟨Y, hY⟩ : ∃ Y, Y = y * y := ⟨_, rfl⟩
  rw [← hX] at bx hn
  rw [← hY] at by_ hn
  have f1 : (x < -2147483648) = False := eq_false (by omega)
  have f2 : (x > 2147483648) = False := eq_false (by omega)
  have f3 : (y < -2147483648) = False := eq_false (by omega)
  have f4 : (y > 2147483648) = False := eq_false (by omega)
  have w1 : IntKind.i64.wrap X = X := Q3 (by omega) (by omega)
  have w2 : IntKind.i64.wrap Y = Y := Q3 (by omega) (by omega)
  have w3 : IntKind.u64.wrap X = X := Xx (by omega) (by simp only [Bs]; omega)
  have w4 : IntKind.u64.wrap Y = Y := Xx (by omega) (by simp only [Bs]; omega)
  have w5 : IntKind.u64.wrap (X + Y) = (n : Int) := by rw [Xx (by omega) (by simp only [Bs]; omega)]; omega
  have hr := rt_32 (n := n) (by omega)
  have SQ := sqrt_calls n H (by simp only [Bs]; omega) hr
  have w6 : IntKind.i64.wrap ((rt n : Nat) : Int) = (rt n : Nat) := Q3 (by omega) (by omega)
  refine Qe Tryd.func24 rfl (by kernel_rfl) (by kernel_rfl) ?_
  repeat' first
    | (with_reducible first | refine Jj (fun K hK => ?_) | refine Js ?_ | refine Q2 ?_ | refine Qc ?_ | refine Qb ?_ | refine Jg ?_ | refine Jq ?_)
    | ((with_reducible refine Jt (SQ) ?_); rintro _ _ ⟨rfl, rfl⟩)
    | (with_reducible refine Jv (fun hc => ?_) (fun hc => ?_) <;> (try simp only [RC] at hc) <;> (try (exfalso; first | omega | contradiction)))
    | (with_reducible refine X3 (fun hc => ?_) (fun hc => ?_) <;> (try simp only [RC] at hc) <;> (try (exfalso; first | omega | contradiction)))
    | (simp only [Q8, Jk, reduceIte, J0])
    | ((with_reducible refine hK _ _ ?_); clear hK)
    | (clear hK; (with_reducible refine hK _ _ ?_); clear hK)
    | (clear hK; clear hK; (with_reducible refine hK _ _ ?_); clear hK)
    | (clear hK; clear hK; clear hK; (with_reducible refine hK _ _ ?_); clear hK)
    | (clear hK; clear hK; clear hK; clear hK; (with_reducible refine hK _ _ ?_); clear hK)
    | (clear hK; clear hK; clear hK; clear hK; clear hK; (with_reducible refine hK _ _ ?_); clear hK)
    | (simp only [Qa, RA, Jo, Jn, Jp, Q7, Q5, ev, ofValue, Ju, J0, J3, J2, J4, reduceCtorEq, reduceIte, Jx, Qm, Qk, Q1, aun, Qj, Jm, Jh, Q0, Jz, Ji, Qi, Jf, Q6, Jw, Jr, J1, J5, Ja, J9, Jb, J6, J7, Jd, J8, RB, Jy, Je, tf24CiA, f1, f2, f3, f4, ← hX, ← hY, w1, w2, w3, w4, w5, w6])
    | (simp (disch := first | omega | (simp only [RO]; done) | assumption) only [RS])
    | (simp (disch := (first | omega | (simp only [RO]; done) | assumption | (simp only [RM, Je]; done) | (simp only [RL, Je]; omega))) only [RD, reduceCtorEq, reduceIte, Je, J1, J3, J2, J6, tf24CiA, f1, f2, f3, f4, ← hX, ← hY, w1, w2, w3, w4, w5, w6])
  all_goals
    (
     (refine Q9 (rs := [.tmp 4, .tmp 5]) rfl ?_)
     (simp only [Qt, Q4, Fr.put_some, Fr.put_none, Qg, Qh, Qn, J0, reduceIte])
     (try simp (disch := (first | omega | (simp only [RO]; done) | assumption | (simp only [RM, Je]; done) | (simp only [RL, Je]; omega))) only [RD, reduceCtorEq, reduceIte, Je, J1, J3, J2, J6, tf24CiA]))
end Go.Proofs.YtlgpemndbfclfaaDoor
namespace Go.Proofs.YtlgpemndbfclfaaDoor
open Go.AL Go.PW Go.PD Go.PR
theorem Nv : type_of% (Jc @Yj (Jc @Xz (Jc @Zn (Jc @Qx (Jc @Zb (@Za)))))) := Jc @Yj (Jc @Xz (Jc @Zn (Jc @Qx (Jc @Zb (@Za)))))
abbrev pn70_10CiC : Plan := (.pur 1 (.one 0 (.one 2 (.one 3 (.one 4 (.one 5 (.one 6 .nil)))))))
set_option maxRecDepth 8000
theorem Y6 {x : Int} (h : x.natAbs ≤ 2 ^ 203) : In x := J1j (Nat.le_trans h (by decide +kernel))
theorem tdiv_le (a : Int) {b : Int} (hb : 0 < b) : (a.tdiv b).natAbs ≤ a.natAbs := by
  rw [Int.natAbs_tdiv]; exact Nat.div_le_self _ _
set_option maxHeartbeats 4000000 in
theorem wround_calls (x y : Int) (H : Hp) (hx : x.natAbs ≤ 2 ^ 200) (hy : 0 < y) (hy2 : y.natAbs ≤ 2 ^ 200) : ACalls Tryd.prog 70 [W x, W y] H fun r H' => r = .tup [W (rnd x y), .bool true] ∧ H = H' := by
  refine ACalls.drop (R := fun r => r = .tup [W (rnd x y), .bool true]) ?_
  have hp : 2 ^ 203 = 8 * 2 ^ 200 := by decide +kernel
  have i1 : In x := Y6 (by omega)
  have i2 : In y := Y6 (by omega)
  have i3 : In (x + x) := Y6 (by omega)
  have i4 : In (y + y) := Y6 (by omega)
  have i5 : In (x + x + y) := Y6 (by omega)
  have hpos : 0 < y + y := by omega
  have hq := tdiv_le (x + x + y) hpos
  have i6 : In ((x + x + y).tdiv (y + y)) := Y6 (by omega)
  have hr1 := Int.tmod_lt_of_pos (x + x + y) hpos
  have hr2 := Int.lt_tmod_of_pos (x + x + y) hpos
  have i7 : In ((x + x + y).tmod (y + y)) := Y6 (by omega)
  have i8 : In ((x + x + y).tdiv (y + y) - 1) := Y6 (by omega)
  have i9 : In 1 := Y6 (by decide)
  have hs : (y.sign ≤ 0) = False := eq_false (by rw [Int.sign_eq_one_of_pos hy]; decide)
  have hn := Yp i7
  have hr : rnd x y = if (x + x + y).tmod (y + y) < 0 then (x + x + y).tdiv (y + y) - 1 else (x + x + y).tdiv (y + y) := by
    unfold rnd; rw [show 2 * x + y = x + x + y by omega, show 2 * y = y + y by omega]; exact ediv_of_t _ hpos
  have SG := fun H0 => sign_calls y H0 i2
  have A1 := fun H0 => add_calls x x H0 i1 i1 i3
  have A2 := fun H0 => add_calls y y H0 i2 i2 i4
  have A3 := fun H0 => add_calls (x + x) y H0 i3 i2 i5
  have DV := fun H0 => div_calls (x + x + y) (y + y) H0 i5 i4 (by omega) i6
  have BL := fun H0 => below_calls ((x + x + y).tmod (y + y)) H0
  have OF := fun H0 => of_calls 1 H0 (by omega)
  have SB := fun H0 => sub_calls ((x + x + y).tdiv (y + y)) 1 H0 i6 i9 i8
  by_cases hc0 : (x + x + y).tmod (y + y) < 0
  · rw [decide_eq_true hc0] at hn
    rw [hr, if_pos hc0]
    refine Qe Tryd.func70 rfl (by kernel_rfl) (by kernel_rfl) ?_
    repeat' first
      | (with_reducible first | refine Jj (fun K hK => ?_) | refine Js ?_ | refine Q2 ?_ | refine Qc ?_ | refine Qb ?_ | refine Jg ?_ | refine Qf (id := 10) [] pn70_10CiC (by kernel_rfl) (by kernel_rfl) ?_ | refine Jq ?_ | refine Xt ?_)
      | (with_reducible refine Qp (fun _ x => (SG _)) ?_)
      | (with_reducible refine Qp (fun _ x => (A1 _)) ?_)
      | (with_reducible refine Qp (fun _ x => (A2 _)) ?_)
      | (with_reducible refine Qp (fun _ x => (A3 _)) ?_)
      | (with_reducible refine Qp (fun _ x => (DV _)) ?_)
      | (with_reducible refine Qp (fun _ x => (BL _)) ?_)
      | (with_reducible refine Qp (fun _ x => (OF _)) ?_)
      | (with_reducible refine Qp (fun _ x => (SB _)) ?_)
      | ((with_reducible refine Jt (SG _) ?_); rintro _ _ ⟨rfl, rfl⟩)
      | ((with_reducible refine Jt (A1 _) ?_); rintro _ _ ⟨rfl, rfl⟩)
      | ((with_reducible refine Jt (A2 _) ?_); rintro _ _ ⟨rfl, rfl⟩)
      | ((with_reducible refine Jt (A3 _) ?_); rintro _ _ ⟨rfl, rfl⟩)
      | ((with_reducible refine Jt (DV _) ?_); rintro _ _ ⟨rfl, rfl⟩)
      | ((with_reducible refine Jt (BL _) ?_); rintro _ _ ⟨rfl, rfl⟩)
      | ((with_reducible refine Jt (OF _) ?_); rintro _ _ ⟨rfl, rfl⟩)
      | ((with_reducible refine Jt (SB _) ?_); rintro _ _ ⟨rfl, rfl⟩)
      | (with_reducible refine Jv (fun hc => ?_) (fun hc => ?_) <;> (try simp only [RC] at hc) <;> (try (exfalso; first | omega | contradiction)))
      | (with_reducible refine Jc ?_ ?_)
      | (with_reducible refine X3 (fun hc => ?_) (fun hc => ?_) <;> (try simp only [RC] at hc) <;> (try (exfalso; first | omega | contradiction)))
      | (simp only [Q8, Jk, reduceIte, J0])
      | ((with_reducible refine hK _ _ ?_); clear hK)
      | (clear hK; (with_reducible refine hK _ _ ?_); clear hK)
      | (clear hK; clear hK; (with_reducible refine hK _ _ ?_); clear hK)
      | (clear hK; clear hK; clear hK; (with_reducible refine hK _ _ ?_); clear hK)
      | (clear hK; clear hK; clear hK; clear hK; (with_reducible refine hK _ _ ?_); clear hK)
      | (clear hK; clear hK; clear hK; clear hK; clear hK; (with_reducible refine hK _ _ ?_); clear hK)
      | (simp only [Qa, RA, Jo, Jn, Jp, Q7, Q5, ev, ofValue, Ju, J0, J3, J2, J4, reduceCtorEq, reduceIte, Jx, Qm, Qk, Q1, aun, Qj, Jm, Jh, Q0, Jz, Ji, Qi, Jf, Q6, Jw, Jr, J1, J5, Ja, J9, Jb, J6, J7, Jd, J8, RB, Jy, Je, Nv, hs, hn])
      | (simp (disch := first | omega | (simp only [RO]; done) | assumption) only [RS, Y4, Y0, Y3, Zz])
      | (simp (disch := (first | omega | (simp only [RO]; done) | assumption | (simp only [RM, Je]; done) | (simp only [RL, Je]; omega))) only [RD, reduceCtorEq, reduceIte, Je, J1, J3, J2, J6, Nv, hs, hn])
    all_goals
      (
       (refine Q9 (rs := [.cell 4 66, .tmp 5]) rfl ?_)
       (simp only [Qt, Q4, Fr.put_some, Fr.put_none, Qg, Qh, Qn, J0, reduceIte])
       (try simp (disch := (first | omega | (simp only [RO]; done) | assumption | (simp only [RM, Je]; done) | (simp only [RL, Je]; omega))) only [RD, reduceCtorEq, reduceIte, Je, J1, J3, J2, J6, Nv]))
    all_goals exact ⟨by repeat (first | exact Ext.push _ _ | refine Ext.pushed ?_ _), Np _ _ (v := .bool true) trivial⟩
  · rw [decide_eq_false hc0] at hn
    rw [hr, if_neg hc0]
    refine Qe Tryd.func70 rfl (by kernel_rfl) (by kernel_rfl) ?_
    repeat' first
      | (with_reducible first | refine Jj (fun K hK => ?_) | refine Js ?_ | refine Q2 ?_ | refine Qc ?_ | refine Qb ?_ | refine Jg ?_ | refine Qf (id := 10) [] pn70_10CiC (by kernel_rfl) (by kernel_rfl) ?_ | refine Jq ?_ | refine Xt ?_)
      | (with_reducible refine Qp (fun _ x => (SG _)) ?_)
      | (with_reducible refine Qp (fun _ x => (A1 _)) ?_)
      | (with_reducible refine Qp (fun _ x => (A2 _)) ?_)
      | (with_reducible refine Qp (fun _ x => (A3 _)) ?_)
      | (with_reducible refine Qp (fun _ x => (DV _)) ?_)
      | (with_reducible refine Qp (fun _ x => (BL _)) ?_)
      | (with_reducible refine Qp (fun _ x => (OF _)) ?_)
      | (with_reducible refine Qp (fun _ x => (SB _)) ?_)
      | ((with_reducible refine Jt (SG _) ?_); rintro _ _ ⟨rfl, rfl⟩)
      | ((with_reducible refine Jt (A1 _) ?_); rintro _ _ ⟨rfl, rfl⟩)
      | ((with_reducible refine Jt (A2 _) ?_); rintro _ _ ⟨rfl, rfl⟩)
      | ((with_reducible refine Jt (A3 _) ?_); rintro _ _ ⟨rfl, rfl⟩)
      | ((with_reducible refine Jt (DV _) ?_); rintro _ _ ⟨rfl, rfl⟩)
      | ((with_reducible refine Jt (BL _) ?_); rintro _ _ ⟨rfl, rfl⟩)
      | ((with_reducible refine Jt (OF _) ?_); rintro _ _ ⟨rfl, rfl⟩)
      | ((with_reducible refine Jt (SB _) ?_); rintro _ _ ⟨rfl, rfl⟩)
      | (with_reducible refine Jv (fun hc => ?_) (fun hc => ?_) <;> (try simp only [RC] at hc) <;> (try (exfalso; first | omega | contradiction)))
      | (with_reducible refine Jc ?_ ?_)
      | (with_reducible refine X3 (fun hc => ?_) (fun hc => ?_) <;> (try simp only [RC] at hc) <;> (try (exfalso; first | omega | contradiction)))
      | (simp only [Q8, Jk, reduceIte, J0])
      | ((with_reducible refine hK _ _ ?_); clear hK)
      | (clear hK; (with_reducible refine hK _ _ ?_); clear hK)
      | (clear hK; clear hK; (with_reducible refine hK _ _ ?_); clear hK)
      | (clear hK; clear hK; clear hK; (with_reducible refine hK _ _ ?_); clear hK)
      | (clear hK; clear hK; clear hK; clear hK; (with_reducible refine hK _ _ ?_); clear hK)
      | (clear hK; clear hK; clear hK; clear hK; clear hK; (with_reducible refine hK _ _ ?_); clear hK)
      | (simp only [Qa, RA, Jo, Jn, Jp, Q7, Q5, ev, ofValue, Ju, J0, J3, J2, J4, reduceCtorEq, reduceIte, Jx, Qm, Qk, Q1, aun, Qj, Jm, Jh, Q0, Jz, Ji, Qi, Jf, Q6, Jw, Jr, J1, J5, Ja, J9, Jb, J6, J7, Jd, J8, RB, Jy, Je, Nv, hs, hn])
      | (simp (disch := first | omega | (simp only [RO]; done) | assumption) only [RS, Y4, Y0, Y3, Zz])
      | (simp (disch := (first | omega | (simp only [RO]; done) | assumption | (simp only [RM, Je]; done) | (simp only [RL, Je]; omega))) only [RD, reduceCtorEq, reduceIte, Je, J1, J3, J2, J6, Nv, hs, hn])
    all_goals
      (
       (refine Q9 (rs := [.cell 4 66, .tmp 5]) rfl ?_)
       (simp only [Qt, Q4, Fr.put_some, Fr.put_none, Qg, Qh, Qn, J0, reduceIte])
       (try simp (disch := (first | omega | (simp only [RO]; done) | assumption | (simp only [RM, Je]; done) | (simp only [RL, Je]; omega))) only [RD, reduceCtorEq, reduceIte, Je, J1, J3, J2, J6, Nv]))
    all_goals exact ⟨by repeat (first | exact Ext.push _ _ | refine Ext.pushed ?_ _), Np _ _ (v := .bool true) trivial⟩
end Go.Proofs.YtlgpemndbfclfaaDoor
namespace Go.Proofs.YtlgpemndbfclfaaDoor
open Go.AL Go.PW Go.PD Go.PR
theorem tf23CiD : type_of% (Jc @Yj (Jc @Uq (@Up))) := Jc @Yj (Jc @Uq (@Up))
theorem Wi : type_of% (Jc @Yj (Jc @Xz (@tyb27))) := Jc @Yj (Jc @Xz (@tyb27))
theorem tf31CiD : type_of% (Jc @Yj (Jc @Qx (Jc @Zb (@Za)))) := Jc @Yj (Jc @Qx (Jc @Zb (@Za)))
set_option maxRecDepth 8000
abbrev PtA (x y : Int) : AV := .agg [.int .i64 x, .int .i64 y]
theorem Far_calls (x y : Int) (H : Hp) : ACalls Tryd.prog 23 [PtA x y] H fun r H' => r = .bool (Zy x || Zy y) ∧ H = H' := by
  refine ACalls.drop (R := fun r => r = .bool (Zy x || Zy y)) ?_
  unfold Zy
  refine Qe Tryd.func23 rfl (by kernel_rfl) (by kernel_rfl) ?_
  repeat' first
    | (with_reducible first | refine Jj (fun K hK => ?_) | refine Js ?_ | refine Q2 ?_ | refine Qc ?_ | refine Qb ?_ | refine Jg ?_ | refine Jq ?_)
    | (with_reducible refine Jv (fun hc => ?_) (fun hc => ?_) <;> (try simp only [RC] at hc) <;> (try (exfalso; first | omega | contradiction)))
    | (with_reducible refine X3 (fun hc => ?_) (fun hc => ?_) <;> (try simp only [RC] at hc) <;> (try (exfalso; first | omega | contradiction)))
    | (simp only [Q8, Jk, reduceIte, J0])
    | ((with_reducible refine hK _ _ ?_); clear hK)
    | (clear hK; (with_reducible refine hK _ _ ?_); clear hK)
    | (clear hK; clear hK; (with_reducible refine hK _ _ ?_); clear hK)
    | (clear hK; clear hK; clear hK; (with_reducible refine hK _ _ ?_); clear hK)
    | (clear hK; clear hK; clear hK; clear hK; (with_reducible refine hK _ _ ?_); clear hK)
    | (clear hK; clear hK; clear hK; clear hK; clear hK; (with_reducible refine hK _ _ ?_); clear hK)
    | (simp only [Qa, RA, Jo, Jn, Jp, Q7, Q5, ev, ofValue, Ju, J0, J3, J2, J4, reduceCtorEq, reduceIte, Jx, Qm, Qk, Q1, aun, Qj, Jm, Jh, Q0, Jz, Ji, Qi, Jf, Q6, Jw, Jr, J1, J5, Ja, J9, Jb, J6, J7, Jd, J8, RB, Jy, Je, tf23CiD])
    | (simp (disch := first | omega | (simp only [RO]; done) | assumption) only [RS, Ya, Yc, Zg, Yb])
    | (simp (disch := (first | omega | (simp only [RO]; done) | assumption | (simp only [RM, Je]; done) | (simp only [RL, Je]; omega))) only [RD, reduceCtorEq, reduceIte, Je, J1, J3, J2, J6, tf23CiD])
  all_goals
    (
     (refine Q9 (rs := [.tmp 2]) rfl ?_)
     (simp only [Qt, Q4, Fr.put_some, Fr.put_none, Qg, Qh, Qn, J0, reduceIte])
     (try simp (disch := (first | omega | (simp only [RO]; done) | assumption | (simp only [RM, Je]; done) | (simp only [RL, Je]; omega))) only [RD, reduceCtorEq, reduceIte, Je, J1, J3, J2, J6, tf23CiD]))
  all_goals
    refine ⟨Ext.push _ _, trivial, ?_⟩
    congr 1
    rw [← Bool.decide_or]
    first
      | exact decide_eq_decide.mpr (by omega)
      | exact (decide_eq_true (by omega)).symm
def okR (v : Int) : Bool := decide (0 ≤ v ∧ v ≤ 2097152)
set_option maxHeartbeats 4000000 in
theorem ranges_calls (v : AV) (xs : List Int) (H : Hp) (hv : Ints H .i64 v xs) (hl : xs.length < 1000000) : ACalls Tryd.prog 21 [v] H fun r H' => r = .bool (xs.all okR) ∧ H = H' := by
  have hlen := hv.rd.len Uo
  refine Qe Tryd.func21 rfl (by kernel_rfl) (by kernel_rfl) ?_
  repeat' first
    | (with_reducible first | refine Jj (fun K hK => ?_) | refine Js ?_ | refine Q2 ?_ | refine Qc ?_ | refine Qb ?_ | refine Jg ?_ | refine Jq ?_)
    | (with_reducible refine Jv (fun hc => ?_) (fun hc => ?_) <;> (try simp only [RC] at hc) <;> (try (exfalso; first | omega | contradiction)))
    | (with_reducible refine X3 (fun hc => ?_) (fun hc => ?_) <;> (try simp only [RC] at hc) <;> (try (exfalso; first | omega | contradiction)))
    | (simp only [Q8, Jk, reduceIte, J0])
    | ((with_reducible refine hK _ _ ?_); clear hK)
    | (clear hK; (with_reducible refine hK _ _ ?_); clear hK)
    | (clear hK; clear hK; (with_reducible refine hK _ _ ?_); clear hK)
    | (clear hK; clear hK; clear hK; (with_reducible refine hK _ _ ?_); clear hK)
    | (clear hK; clear hK; clear hK; clear hK; (with_reducible refine hK _ _ ?_); clear hK)
    | (clear hK; clear hK; clear hK; clear hK; clear hK; (with_reducible refine hK _ _ ?_); clear hK)
    | (simp only [Qa, RA, Jo, Jn, Jp, Q7, Q5, ev, ofValue, Ju, J0, J3, J2, J4, reduceCtorEq, reduceIte, Jx, Qm, Qk, Q1, aun, Qj, Jm, Jh, Q0, Jz, Ji, Qi, Jf, Q6, Jw, Jr, J1, J5, Ja, J9, Jb, J6, J7, Jd, J8, RB, Jy, Je, Wi, hlen])
    | (simp (disch := first | omega | (simp only [RO]; done) | assumption) only [RS, Wk, Wr, K1])
    | (simp (disch := (first | omega | (simp only [RO]; done) | assumption | (simp only [RM, Je]; done) | (simp only [RL, Je]; omega))) only [RD, reduceCtorEq, reduceIte, Je, J1, J3, J2, J6, Wi, hlen])
  refine Xr (fun m fr' H1 => ∃ i : Nat, m = xs.length - i ∧ i ≤ xs.length ∧ fr' 5 = v ∧ fr' 6 = .int .i64 (xs.length : Int) ∧ fr' 7 = .int .i64 (i : Int) ∧ (∀ j, j < i → okR (xs.getD j 0) = true) ∧ H = H1) (m := xs.length) ⟨0, rfl, by omega, rfl, rfl, rfl, fun j h => by omega, rfl⟩ ?_
  rintro m fr' H1 ⟨i, rfl, hi, k5, k6, k7, ha, rfl⟩
  have e1 : IntKind.i64.wrap ((i : Int) + 1) = ((i + 1 : Nat) : Int) := by rw [Q3 (by omega) (by omega)]; omega
  by_cases hlt : i < xs.length
  · skip
    repeat' first
      | (with_reducible first | refine Jj (fun K hK => ?_) | refine Js ?_ | refine Q2 ?_ | refine Qc ?_ | refine Qb ?_ | refine Jg ?_ | refine Jq ?_)
      | (with_reducible refine Jv (fun hc => ?_) (fun hc => ?_) <;> (try simp only [RC] at hc) <;> (try (exfalso; first | omega | contradiction)))
      | (with_reducible refine X3 (fun hc => ?_) (fun hc => ?_) <;> (try simp only [RC] at hc) <;> (try (exfalso; first | omega | contradiction)))
      | (simp only [Q8, Jk, reduceIte, J0])
      | ((with_reducible refine hK _ _ ?_); clear hK)
      | (clear hK; (with_reducible refine hK _ _ ?_); clear hK)
      | (clear hK; clear hK; (with_reducible refine hK _ _ ?_); clear hK)
      | (clear hK; clear hK; clear hK; (with_reducible refine hK _ _ ?_); clear hK)
      | (clear hK; clear hK; clear hK; clear hK; (with_reducible refine hK _ _ ?_); clear hK)
      | (clear hK; clear hK; clear hK; clear hK; clear hK; (with_reducible refine hK _ _ ?_); clear hK)
      | (simp only [Qa, RA, Jo, Jn, Jp, Q7, Q5, ev, ofValue, Ju, J0, J3, J2, J4, reduceCtorEq, reduceIte, Jx, Qm, Qk, Q1, aun, Qj, Jm, Jh, Q0, Jz, Ji, Qi, Jf, Q6, Jw, Jr, J1, J5, Ja, J9, Jb, J6, J7, Jd, J8, RB, Jy, Je, Wi, k5, k6, k7, e1])
      | (simp (disch := first | omega | (simp only [RO]; done) | assumption) only [RS, hv.rd.at1 Uo Vc, hv.load1 agg2, Wk, Wr, K1])
      | (simp (disch := (first | omega | (simp only [RO]; done) | assumption | (simp only [RM, Je]; done) | (simp only [RL, Je]; omega))) only [RD, reduceCtorEq, reduceIte, Je, J1, J3, J2, J6, Wi, k5, k6, k7, e1])
    all_goals first
      | (refine ⟨_, by omega, i + 1, rfl, by omega, rfl, fun j hj => ?_⟩
         by_cases e : j = i
         · rw [e]; unfold okR; exact decide_eq_true (by omega)
         · exact ha j (by omega))
      | (
         (
          (refine Q9 (rs := [.tmp 2]) rfl ?_)
          (simp only [Qt, Q4, Fr.put_some, Fr.put_none, Qg, Qh, Qn, J0, reduceIte])
          (try simp (disch := (first | omega | (simp only [RO]; done) | assumption | (simp only [RM, Je]; done) | (simp only [RL, Je]; omega))) only [RD, reduceCtorEq, reduceIte, Je, J1, J3, J2, J6, Wi]))
         refine congrArg AV.bool ?_
         rw [eq_comm, List.all_eq_false]
         exact ⟨_, J1f hlt, by unfold okR; rw [decide_eq_false (by omega)]; decide⟩)
  · obtain rfl : i = xs.length := by omega
    repeat' first
      | (with_reducible first | refine Jj (fun K hK => ?_) | refine Js ?_ | refine Q2 ?_ | refine Qc ?_ | refine Qb ?_ | refine Jg ?_ | refine Jq ?_)
      | (with_reducible refine Jv (fun hc => ?_) (fun hc => ?_) <;> (try simp only [RC] at hc) <;> (try (exfalso; first | omega | contradiction)))
      | (with_reducible refine X3 (fun hc => ?_) (fun hc => ?_) <;> (try simp only [RC] at hc) <;> (try (exfalso; first | omega | contradiction)))
      | (simp only [Q8, Jk, reduceIte, J0])
      | ((with_reducible refine hK _ _ ?_); clear hK)
      | (clear hK; (with_reducible refine hK _ _ ?_); clear hK)
      | (clear hK; clear hK; (with_reducible refine hK _ _ ?_); clear hK)
      | (clear hK; clear hK; clear hK; (with_reducible refine hK _ _ ?_); clear hK)
      | (clear hK; clear hK; clear hK; clear hK; (with_reducible refine hK _ _ ?_); clear hK)
      | (clear hK; clear hK; clear hK; clear hK; clear hK; (with_reducible refine hK _ _ ?_); clear hK)
      | (simp only [Qa, RA, Jo, Jn, Jp, Q7, Q5, ev, ofValue, Ju, J0, J3, J2, J4, reduceCtorEq, reduceIte, Jx, Qm, Qk, Q1, aun, Qj, Jm, Jh, Q0, Jz, Ji, Qi, Jf, Q6, Jw, Jr, J1, J5, Ja, J9, Jb, J6, J7, Jd, J8, RB, Jy, Je, Wi, k5, k6, k7])
      | (simp (disch := first | omega | (simp only [RO]; done) | assumption) only [RS, Wk, Wr, K1])
      | (simp (disch := (first | omega | (simp only [RO]; done) | assumption | (simp only [RM, Je]; done) | (simp only [RL, Je]; omega))) only [RD, reduceCtorEq, reduceIte, Je, J1, J3, J2, J6, Wi, k5, k6, k7])
    (
     (refine Q9 (rs := [.tmp 2]) rfl ?_)
     (simp only [Qt, Q4, Fr.put_some, Fr.put_none, Qg, Qh, Qn, J0, reduceIte])
     (try simp (disch := (first | omega | (simp only [RO]; done) | assumption | (simp only [RM, Je]; done) | (simp only [RL, Je]; omega))) only [RD, reduceCtorEq, reduceIte, Je, J1, J3, J2, J6, Wi]))
    refine congrArg AV.bool ?_
    rw [eq_comm, List.all_eq_true]
    intro x hx
    obtain ⟨j, hj, rfl⟩ := List.getElem_of_mem hx
    have := ha j hj
    rwa [List.getD_eq_getElem?_getD, List.getElem?_eq_getElem hj, Option.getD_some] at this
theorem product_calls (a b : Int) (H : Hp) (ha : -9223372036854775808 ≤ a ∧ a ≤ 9223372036854775807) (hb : -9223372036854775808 ≤ b ∧ b ≤ 9223372036854775807) : ACalls Tryd.prog 31 [.int .i64 a, .int .i64 b] H fun r H' => r = W (a * b) ∧ H = H' := by
  refine ACalls.drop (R := fun r => r = W (a * b)) ?_
  have hn : (a * b).natAbs ≤ 9223372036854775808 * 9223372036854775808 := by rw [Int.natAbs_mul]; exact Nat.mul_le_mul (by omega) (by omega)
  have i1 : In a := Y6 (Nat.le_trans (show a.natAbs ≤ 9223372036854775808 by omega) (by decide +kernel))
  have i2 : In b := Y6 (Nat.le_trans (show b.natAbs ≤ 9223372036854775808 by omega) (by decide +kernel))
  have i3 : In (a * b) := Y6 (Nat.le_trans hn (by decide +kernel))
  have OA := fun H0 => of_calls a H0 ha
  have OB := fun H0 => of_calls b H0 hb
  have MU := fun H0 => mul_calls a b H0 i1 i2 i3
  refine Qe Tryd.func31 rfl (by kernel_rfl) (by kernel_rfl) ?_
  repeat' first
    | (with_reducible first | refine Jj (fun K hK => ?_) | refine Js ?_ | refine Q2 ?_ | refine Qc ?_ | refine Qb ?_ | refine Jg ?_ | refine Jq ?_)
    | ((with_reducible refine Jt (OA _) ?_); rintro _ _ ⟨rfl, rfl⟩)
    | ((with_reducible refine Jt (OB _) ?_); rintro _ _ ⟨rfl, rfl⟩)
    | ((with_reducible refine Jt (MU _) ?_); rintro _ _ ⟨rfl, rfl⟩)
    | (with_reducible refine Jv (fun hc => ?_) (fun hc => ?_) <;> (try simp only [RC] at hc) <;> (try (exfalso; first | omega | contradiction)))
    | (with_reducible refine X3 (fun hc => ?_) (fun hc => ?_) <;> (try simp only [RC] at hc) <;> (try (exfalso; first | omega | contradiction)))
    | (simp only [Q8, Jk, reduceIte, J0])
    | ((with_reducible refine hK _ _ ?_); clear hK)
    | (clear hK; (with_reducible refine hK _ _ ?_); clear hK)
    | (clear hK; clear hK; (with_reducible refine hK _ _ ?_); clear hK)
    | (clear hK; clear hK; clear hK; (with_reducible refine hK _ _ ?_); clear hK)
    | (clear hK; clear hK; clear hK; clear hK; (with_reducible refine hK _ _ ?_); clear hK)
    | (clear hK; clear hK; clear hK; clear hK; clear hK; (with_reducible refine hK _ _ ?_); clear hK)
    | (simp only [Qa, RA, Jo, Jn, Jp, Q7, Q5, ev, ofValue, Ju, J0, J3, J2, J4, reduceCtorEq, reduceIte, Jx, Qm, Qk, Q1, aun, Qj, Jm, Jh, Q0, Jz, Ji, Qi, Jf, Q6, Jw, Jr, J1, J5, Ja, J9, Jb, J6, J7, Jd, J8, RB, Jy, Je, tf31CiD])
    | (simp (disch := first | omega | (simp only [RO]; done) | assumption) only [RS, Y4, Y0, Y3, Zz])
    | (simp (disch := (first | omega | (simp only [RO]; done) | assumption | (simp only [RM, Je]; done) | (simp only [RL, Je]; omega))) only [RD, reduceCtorEq, reduceIte, Je, J1, J3, J2, J6, tf31CiD])
  all_goals
    (
     (refine Q9 (rs := [.cell 4 66]) rfl ?_)
     (simp only [Qt, Q4, Fr.put_some, Fr.put_none, Qg, Qh, Qn, J0, reduceIte])
     (try simp (disch := (first | omega | (simp only [RO]; done) | assumption | (simp only [RM, Je]; done) | (simp only [RL, Je]; omega))) only [RD, reduceCtorEq, reduceIte, Je, J1, J3, J2, J6, tf31CiD]))
  all_goals exact ⟨(Ext.push _ _).pushed _, W_lt _ _⟩
abbrev Wt : ByteArray := ⟨#[99, 105, 114, 99, 108, 101]⟩
end Go.Proofs.YtlgpemndbfclfaaDoor
namespace Go.Proofs.YtlgpemndbfclfaaDoor
open Go.AL Go.PW Go.PD Go.PR
theorem tf71CiE : type_of% (Jc @Yj (Jc @Qx (Jc @Zb (Jc @Za (@cv53_2))))) := Jc @Yj (Jc @Qx (Jc @Zb (Jc @Za (@cv53_2))))
theorem tf56CiE : type_of% (Jc @Yj (Jc @Qx (Jc @Zb (@Za)))) := Jc @Yj (Jc @Qx (Jc @Zb (@Za)))
theorem tf34CiE : type_of% (Jc @Yj (Jc @Zn (Jc @Uq (@Up)))) := Jc @Yj (Jc @Zn (Jc @Uq (@Up)))
abbrev pn71_2CiE : Plan := (.one 0 (.one 2 (.pur 1 (.one 3 .nil))))
abbrev pn56_2CiE : Plan := (.one 0 (.one 1 (.one 2 (.pur 3 (.pur 4 (.one 5 (.one 6 (.one 7 (.one 8 (.one 9 (.one 10 .nil)))))))))))
abbrev pn56_3CiE : Plan := (.one 0 (.one 1 (.pur 2 (.one 3 (.one 4 (.one 5 (.one 6 (.one 7 .nil))))))))
abbrev pn34_4CiE : Plan := (.one 0 (.one 1 (.one 2 (.one 3 (.one 4 (.one 5 (.one 6 (.ext 7 (.one 8 (.one 9 (.one 10 (.one 11 .nil))))))))))))
set_option maxRecDepth 8000
theorem guardW2 : Tryd.prog.eqGuardType Tryd.prog.depth 66 = false := by kernel_rfl
set_option maxHeartbeats 4000000 in
theorem wint64_calls (x : Int) (H : Hp) (hx : -9223372036854775808 ≤ x ∧ x ≤ 9223372036854775807) : ACalls Tryd.prog 71 [W x] H fun r H' => r = .tup [.int .i64 x, .bool true] ∧ H = H' := by
  refine ACalls.drop (R := fun r => r = .tup [.int .i64 x, .bool true]) ?_
  have OF := fun H0 => of_calls x H0 hx
  refine Qe Tryd.func71 rfl (by kernel_rfl) (by kernel_rfl) ?_
  have w : IntKind.i64.wrap ((dig 16 x).getD 0 0) = x := by
    show IntKind.i64.wrap (x % Bs) = x
    rw [IntKind.wrap_i64]; simp only [Bs]; omega
  have he := eq_wide x
  have hg := guardW2
  repeat' first
    | (with_reducible first | refine Jj (fun K hK => ?_) | refine Js ?_ | refine Q2 ?_ | refine Qc ?_ | refine Qb ?_ | refine Jg ?_ | refine Qf (id := 2) [1] pn71_2CiE (by kernel_rfl) (by kernel_rfl) ?_ | refine Jq ?_ | refine Xt ?_)
    | (with_reducible refine Qp (fun _ x => (OF _)) ?_)
    | ((with_reducible refine Jt (OF _) ?_); rintro _ _ ⟨rfl, rfl⟩)
    | (with_reducible refine Jv (fun hc => ?_) (fun hc => ?_) <;> (try simp only [RC] at hc) <;> (try (exfalso; first | omega | contradiction)))
    | (with_reducible refine Jc ?_ ?_)
    | (with_reducible refine X3 (fun hc => ?_) (fun hc => ?_) <;> (try simp only [RC] at hc) <;> (try (exfalso; first | omega | contradiction)))
    | (simp only [Q8, Jk, reduceIte, J0])
    | ((with_reducible refine hK _ _ ?_); clear hK)
    | (clear hK; (with_reducible refine hK _ _ ?_); clear hK)
    | (clear hK; clear hK; (with_reducible refine hK _ _ ?_); clear hK)
    | (clear hK; clear hK; clear hK; (with_reducible refine hK _ _ ?_); clear hK)
    | (clear hK; clear hK; clear hK; clear hK; (with_reducible refine hK _ _ ?_); clear hK)
    | (clear hK; clear hK; clear hK; clear hK; clear hK; (with_reducible refine hK _ _ ?_); clear hK)
    | (simp only [Qa, RA, Jo, Jn, Jp, Q7, Q5, ev, ofValue, Ju, J0, J3, J2, J4, reduceCtorEq, reduceIte, Jx, Qm, Qk, Q1, aun, Qj, Jm, Jh, Q0, Jz, Ji, Qi, Jf, Q6, Jw, Jr, J1, J5, Ja, J9, Jb, J6, J7, Jd, J8, RB, Jy, Je, tf71CiE, w, he, hg])
    | (simp (disch := first | omega | (simp only [RO]; done) | assumption) only [RS, Y4, Y0, Y3, Zz])
    | (simp (disch := (first | omega | (simp only [RO]; done) | assumption | (simp only [RM, Je]; done) | (simp only [RL, Je]; omega))) only [RD, reduceCtorEq, reduceIte, Je, J1, J3, J2, J6, tf71CiE, w, he, hg])
  all_goals
    (
     (refine Q9 (rs := [.tmp 2, .tmp 3]) rfl ?_)
     (simp only [Qt, Q4, Fr.put_some, Fr.put_none, Qg, Qh, Qn, J0, reduceIte])
     (try simp (disch := (first | omega | (simp only [RO]; done) | assumption | (simp only [RM, Je]; done) | (simp only [RL, Je]; omega))) only [RD, reduceCtorEq, reduceIte, Je, J1, J3, J2, J6, tf71CiE]))
  all_goals exact ⟨Ext.push _ _, ⟨trivial, trivial, trivial⟩⟩
set_option maxHeartbeats 4000000 in
theorem side_calls (f a b c d e : Int) (H : Hp) (hf : -9223372036854775808 ≤ f ∧ f ≤ 9223372036854775807) (ha : -9223372036854775808 ≤ a ∧ a ≤ 9223372036854775807) (hb : -9223372036854775808 ≤ b ∧ b ≤ 9223372036854775807) (hc : -9223372036854775808 ≤ c ∧ c ≤ 9223372036854775807) (hd : -9223372036854775808 ≤ d ∧ d ≤ 9223372036854775807) (he : 0 < e ∧ e ≤ 4611686018427387903) (hr : -9223372036854775808 ≤ rnd (a * b + c * d) (2 * e) + f ∧ rnd (a * b + c * d) (2 * e) + f ≤ 9223372036854775807) :
    ACalls Tryd.prog 56 [.int .i64 f, .int .i64 a, .int .i64 b, .int .i64 c, .int .i64 d, .int .i64 e] H fun r H' => r = .tup [.int .i64 (rnd (a * b + c * d) (2 * e) + f), .bool true] ∧ H = H' := by
  refine ACalls.drop (R := fun r => r = .tup [.int .i64 (rnd (a * b + c * d) (2 * e) + f), .bool true]) ?_
  have n1 : (a * b).natAbs ≤ 9223372036854775808 * 9223372036854775808 := by rw [Int.natAbs_mul]; exact Nat.mul_le_mul (by omega) (by omega)
  have n2 : (c * d).natAbs ≤ 9223372036854775808 * 9223372036854775808 := by rw [Int.natAbs_mul]; exact Nat.mul_le_mul (by omega) (by omega)
  have big : (9223372036854775808 * 9223372036854775808 + 9223372036854775808 * 9223372036854775808 : Nat) ≤ 2 ^ 200 := by decide +kernel
  have h200 : (2 ^ 200 : Nat) ≤ 2 ^ 203 := by decide +kernel
  have P1 := fun H0 => product_calls a b H0 ha hb
  have P2 := fun H0 => product_calls c d H0 hc hd
  obtain ⟨X, hX⟩ : ∃ X, X = a * b := ⟨_, rfl⟩
  obtain ⟨Y, hY⟩ : ∃ Y, Y = c * d := ⟨_, rfl⟩
  rw [← hX] at n1 P1 hr ⊢
  rw [← hY] at n2 P2 hr ⊢
  obtain ⟨R, hR⟩ : ∃ R, R = rnd (X + Y) (2 * e) := ⟨_, rfl⟩
  have A1 := fun H0 => add_calls X Y H0 (Y6 (by omega)) (Y6 (by omega)) (Y6 (by omega))
  have w1 : IntKind.i64.wrap (2 * e) = 2 * e := Q3 (by omega) (by omega)
  have O1 := fun H0 => of_calls (2 * e) H0 (by omega)
  have RN := fun H0 => wround_calls (X + Y) (2 * e) H0 (by omega) (by omega) (Nat.le_trans (show (2 * e).natAbs ≤ 9223372036854775808 by omega) (by decide +kernel))
  have O2 := fun H0 => of_calls f H0 hf
  rw [← hR] at RN hr ⊢
  have A2 := fun H0 => add_calls R f H0 (Y6 (Nat.le_trans (show R.natAbs ≤ 18446744073709551616 by omega) (by decide +kernel))) (Y6 (Nat.le_trans (show f.natAbs ≤ 9223372036854775808 by omega) (by decide +kernel))) (Y6 (Nat.le_trans (show (R + f).natAbs ≤ 9223372036854775808 by omega) (by decide +kernel)))
  have I64 := fun H0 => wint64_calls (R + f) H0 hr
  refine Qe Tryd.func56 rfl (by kernel_rfl) (by kernel_rfl) ?_
  repeat' first
    | (with_reducible first | refine Jj (fun K hK => ?_) | refine Js ?_ | refine Q2 ?_ | refine Qc ?_ | refine Qb ?_ | refine Jg ?_ | refine Qf (id := 2) [3, 4] pn56_2CiE (by kernel_rfl) (by kernel_rfl) ?_ | refine Qf (id := 3) [2] pn56_3CiE (by kernel_rfl) (by kernel_rfl) ?_ | refine Jq ?_ | refine Xt ?_)
    | (with_reducible refine Qp (fun _ x => (P1 _)) ?_)
    | (with_reducible refine Qp (fun _ x => (P2 _)) ?_)
    | (with_reducible refine Qp (fun _ x => (A1 _)) ?_)
    | (with_reducible refine Qp (fun _ x => (O1 _)) ?_)
    | (with_reducible refine Qp (fun _ x => (RN _)) ?_)
    | (with_reducible refine Qp (fun _ x => (O2 _)) ?_)
    | (with_reducible refine Qp (fun _ x => (A2 _)) ?_)
    | (with_reducible refine Qp (fun _ x => (I64 _)) ?_)
    | ((with_reducible refine Jt (P1 _) ?_); rintro _ _ ⟨rfl, rfl⟩)
    | ((with_reducible refine Jt (P2 _) ?_); rintro _ _ ⟨rfl, rfl⟩)
    | ((with_reducible refine Jt (A1 _) ?_); rintro _ _ ⟨rfl, rfl⟩)
    | ((with_reducible refine Jt (O1 _) ?_); rintro _ _ ⟨rfl, rfl⟩)
    | ((with_reducible refine Jt (RN _) ?_); rintro _ _ ⟨rfl, rfl⟩)
    | ((with_reducible refine Jt (O2 _) ?_); rintro _ _ ⟨rfl, rfl⟩)
    | ((with_reducible refine Jt (A2 _) ?_); rintro _ _ ⟨rfl, rfl⟩)
    | ((with_reducible refine Jt (I64 _) ?_); rintro _ _ ⟨rfl, rfl⟩)
    | (with_reducible refine Jv (fun hc => ?_) (fun hc => ?_) <;> (try simp only [RC] at hc) <;> (try (exfalso; first | omega | contradiction)))
    | (with_reducible refine Jc ?_ ?_)
    | (with_reducible refine X3 (fun hc => ?_) (fun hc => ?_) <;> (try simp only [RC] at hc) <;> (try (exfalso; first | omega | contradiction)))
    | (simp only [Q8, Jk, reduceIte, J0])
    | ((with_reducible refine hK _ _ ?_); clear hK)
    | (clear hK; (with_reducible refine hK _ _ ?_); clear hK)
    | (clear hK; clear hK; (with_reducible refine hK _ _ ?_); clear hK)
    | (clear hK; clear hK; clear hK; (with_reducible refine hK _ _ ?_); clear hK)
    | (clear hK; clear hK; clear hK; clear hK; (with_reducible refine hK _ _ ?_); clear hK)
    | (clear hK; clear hK; clear hK; clear hK; clear hK; (with_reducible refine hK _ _ ?_); clear hK)
    | (simp only [Qa, RA, Jo, Jn, Jp, Q7, Q5, ev, ofValue, Ju, J0, J3, J2, J4, reduceCtorEq, reduceIte, Jx, Qm, Qk, Q1, aun, Qj, Jm, Jh, Q0, Jz, Ji, Qi, Jf, Q6, Jw, Jr, J1, J5, Ja, J9, Jb, J6, J7, Jd, J8, RB, Jy, Je, tf56CiE, w1])
    | (simp (disch := first | omega | (simp only [RO]; done) | assumption) only [RS, Y4, Y0, Y3, Zz])
    | (simp (disch := (first | omega | (simp only [RO]; done) | assumption | (simp only [RM, Je]; done) | (simp only [RL, Je]; omega))) only [RD, reduceCtorEq, reduceIte, Je, J1, J3, J2, J6, tf56CiE, w1])
  all_goals
    (
     (refine Q9 (rs := [.tmp 12, .tmp 13]) rfl ?_)
     (simp only [Qt, Q4, Fr.put_some, Fr.put_none, Qg, Qh, Qn, J0, reduceIte])
     (try simp (disch := (first | omega | (simp only [RO]; done) | assumption | (simp only [RM, Je]; done) | (simp only [RL, Je]; omega))) only [RD, reduceCtorEq, reduceIte, Je, J1, J3, J2, J6, tf56CiE]))
  all_goals exact ⟨by repeat (first | exact Ext.push _ _ | refine Ext.pushed ?_ _), ⟨trivial, trivial, trivial⟩⟩
set_option maxHeartbeats 4000000 in
theorem cplace_calls (px py a k dx dy d : Int) (H : Hp) (hd : 0 < d ∧ d ≤ 281474976710656) (ha : -281474976710656 ≤ a ∧ a ≤ 281474976710656) (hk : -140737488355328 ≤ k ∧ k ≤ 140737488355328) (hx : -d ≤ dx ∧ dx ≤ d) (hy : -d ≤ dy ∧ dy ≤ d) (hpx : -4194304 ≤ px ∧ px ≤ 4194304) (hpy : -4194304 ≤ py ∧ py ≤ 4194304) :
    ACalls Tryd.prog 34 [PtA px py, .int .i64 a, .int .i64 k, .int .i64 dx, .int .i64 dy, .int .i64 d] H fun r H' => r = .tup [PtA (plX px a k dx dy d) (plY py a k dx dy d), .bool (!(Zy (plX px a k dx dy d) || Zy (plY py a k dx dy d)))] ∧ H = H' := by
  refine ACalls.drop (R := fun r => r = .tup [PtA (plX px a k dx dy d) (plY py a k dx dy d), .bool (!(Zy (plX px a k dx dy d) || Zy (plY py a k dx dy d)))]) ?_
  have s1 := pl_small (f := px) (a := a) (k := -k) (x := dx) (y := dy) hd.1 ha (by omega) hx hy hpx
  have s2 := pl_small (f := py) (a := a) (k := k) (x := dy) (y := dx) hd.1 ha hk hy hx hpy
  have S1 := fun H0 => side_calls px a dx (-k) dy d H0 (by omega) (by omega) (by omega) (by omega) (by omega) (by omega) (by omega)
  have S2 := fun H0 => side_calls py a dy k dx d H0 (by omega) (by omega) (by omega) (by omega) (by omega) (by omega) (by omega)
  have w1 : IntKind.i64.wrap (-k) = -k := Q3 (by omega) (by omega)
  have w2 : IntKind.i64.wrap (0 - k) = -k := by rw [Q3 (by omega) (by omega)]; omega
  have FA := fun H0 => Far_calls (plX px a k dx dy d) (plY py a k dx dy d) H0
  have eX : rnd (a * dx + -k * dy) (2 * d) + px = plX px a k dx dy d := rfl
  have eY : rnd (a * dy + k * dx) (2 * d) + py = plY py a k dx dy d := rfl
  rw [eX] at S1
  rw [eY] at S2
  refine Qe Tryd.func34 rfl (by kernel_rfl) (by kernel_rfl) ?_
  repeat' first
    | (with_reducible first | refine Jj (fun K hK => ?_) | refine Js ?_ | refine Q2 ?_ | refine Qc ?_ | refine Qb ?_ | refine Jg ?_ | refine Qf (id := 4) [7] pn34_4CiE (by kernel_rfl) (by kernel_rfl) ?_ | refine Jq ?_ | refine Xt ?_ | refine Ud ?_)
    | (with_reducible refine Kp (S1 _) ?_)
    | (with_reducible refine Kp (S2 _) ?_)
    | (with_reducible refine Kp (FA _) ?_)
    | ((with_reducible refine Jt (S1 _) ?_); rintro _ _ ⟨rfl, rfl⟩)
    | ((with_reducible refine Jt (S2 _) ?_); rintro _ _ ⟨rfl, rfl⟩)
    | ((with_reducible refine Jt (FA _) ?_); rintro _ _ ⟨rfl, rfl⟩)
    | (with_reducible refine Jv (fun hc => ?_) (fun hc => ?_) <;> (try simp only [RC] at hc) <;> (try (exfalso; first | omega | contradiction)))
    | (with_reducible refine Jc ?_ ?_)
    | (with_reducible refine X3 (fun hc => ?_) (fun hc => ?_) <;> (try simp only [RC] at hc) <;> (try (exfalso; first | omega | contradiction)))
    | (simp only [Q8, Jk, reduceIte, J0])
    | ((with_reducible refine hK _ _ ?_); clear hK)
    | (clear hK; (with_reducible refine hK _ _ ?_); clear hK)
    | (clear hK; clear hK; (with_reducible refine hK _ _ ?_); clear hK)
    | (clear hK; clear hK; clear hK; (with_reducible refine hK _ _ ?_); clear hK)
    | (clear hK; clear hK; clear hK; clear hK; (with_reducible refine hK _ _ ?_); clear hK)
    | (clear hK; clear hK; clear hK; clear hK; clear hK; (with_reducible refine hK _ _ ?_); clear hK)
    | (simp only [Qa, RA, Jo, Jn, Jp, Q7, Q5, ev, ofValue, Ju, J0, J3, J2, J4, reduceCtorEq, reduceIte, Jx, Qm, Qk, Q1, aun, Qj, Jm, Jh, Q0, Jz, Ji, Qi, Jf, Q6, Jw, Jr, J1, J5, Ja, J9, Jb, J6, J7, Jd, J8, RB, Jy, Je, tf34CiE, w1, w2])
    | (simp (disch := first | omega | (simp only [RO]; done) | assumption) only [RS, Ya, Yc, Zg, Yb])
    | (simp (disch := (first | omega | (simp only [RO]; done) | assumption | (simp only [RM, Je]; done) | (simp only [RL, Je]; omega))) only [RD, reduceCtorEq, reduceIte, Je, J1, J3, J2, J6, tf34CiE, w1, w2])
  all_goals
    (
     (refine Q9 (rs := [.cell 12 23, .tmp 13]) rfl ?_)
     (simp only [Qt, Q4, Fr.put_some, Fr.put_none, Qg, Qh, Qn, J0, reduceIte])
     (try simp (disch := (first | omega | (simp only [RO]; done) | assumption | (simp only [RM, Je]; done) | (simp only [RL, Je]; omega))) only [RD, reduceCtorEq, reduceIte, Je, J1, J3, J2, J6, tf34CiE]))
  all_goals exact ⟨((Ext.push _ _).pushed _).pushed _, ⟨⟨trivial, trivial, trivial⟩, trivial, trivial⟩⟩
end Go.Proofs.YtlgpemndbfclfaaDoor

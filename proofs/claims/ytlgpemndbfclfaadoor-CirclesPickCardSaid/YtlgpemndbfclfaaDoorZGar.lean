/- Part 18 of the proof of laws of this seat: lemmas on the model's code, on this program's functions, on numbers. No condition. -/
import Derived.Test.YtlgpemndbfclfaaDoorZGaq
set_option linter.unusedVariables false
set_option linter.unusedSimpArgs false
open Nat renaming reduceEqDiff → J0, reduceLeDiff → J1, reduceMul → J2, reduceAdd → J3, reduceSub → J4, reduceLT → J5
open Int renaming reduceToNat → J6, reducePow → J7, reduceNeg → J8, reduceLT → J9, reduceLE → Ja, reduceEq → Jb
open And renaming intro → Jc
open Go.IntKind renaming bits → Jd
open Go.PW renaming dig_length → Je
namespace Go.Proofs.YtlgpemndbfclfaaDoor
open Go.AL Go.PW Go.PD Go.PR
theorem tf22ZaA : type_of% (Jc @Xz (Jc @Gj (Jc @Zs (Jc @Zr (@Wh))))) := Jc @Xz (Jc @Gj (Jc @Zs (Jc @Zr (@Wh))))
theorem Vi : type_of% (Jc @Yj (Jc @Xz (Jc @Zn (Jc @Uq (Jc @Up (Jc @tyb27 (Jc @Qx (Jc @Wh (Jc @Zb (Jc @Za (@cv53_2))))))))))) := Jc @Yj (Jc @Xz (Jc @Zn (Jc @Uq (Jc @Up (Jc @tyb27 (Jc @Qx (Jc @Wh (Jc @Zb (Jc @Za (@cv53_2))))))))))
abbrev Rm : Plan := (.pur 2 (.one 0 (.alt 1 (.one 3 (.one 4 (.one 5 .nil))) (.one 3 (.one 1 (.one 4 (.one 5 .nil)))))))
abbrev Rj : Plan := (.one 0 (.one 1 (.one 2 (.one 3 (.one 4 (.one 5 (.one 6 (.one 7 (.one 8 (.one 9 (.one 10 (.one 11 .nil))))))))))))
abbrev Ri : Plan := (.pur 2 (.one 0 (.alt 1 (.one 3 (.one 4 (.one 5 .nil))) (.one 3 (.one 1 (.one 4 (.one 5 .nil)))))))
abbrev G3 : Plan := (.pur 2 (.one 0 (.alt 1 (.one 3 (.one 4 (.one 5 .nil))) (.one 3 (.one 1 (.one 4 (.one 5 .nil)))))))
abbrev G2 : Plan := (.pur 2 (.one 0 (.alt 1 (.one 3 (.one 4 (.one 5 .nil))) (.one 3 (.one 1 (.one 4 (.one 5 .nil)))))))
abbrev G1 : Plan := (.one 0 (.alt 1 (.one 2 (.one 3 (.one 4 .nil))) (.one 2 (.one 1 (.one 3 (.one 4 .nil))))))
set_option maxRecDepth 8000
abbrev IsA (xs : List Int) : AV := .fz xs.length (xs.map (AV.int .i64))
theorem wsub_s (x y : Int) (hx : In x) (hy : In y) (hs : In (x - y)) : Fn 30 [W x, W y] (.tup [W (x - y), .bool true]) := Sure.st (by simp only [RT]) (by simp only [RT]) fun H => sub_calls x y H hx hy hs
theorem wsign_s (x : Int) (hx : In x) : Fn 32 [W x] (.int .i64 x.sign) := Sure.st (by simp only [RT]) trivial fun H => sign_calls x H hx
theorem root_s (hi lo : Int) (n : Nat) (hh : 0 ≤ hi ∧ hi < Bs) (hl : 0 ≤ lo ∧ lo < Bs) (hn : (n : Int) = hi * Bs + lo) : Fn 33 [.int .u64 hi, .int .u64 lo] (.int .u64 (rt n : Nat)) := Sure.st (by simp only [RT]) trivial fun H => root_calls hi lo n H hh hl hn
theorem hypot_s (x y : Int) (n : Nat) (hx : -2147483648 ≤ x ∧ x ≤ 2147483648) (hy : -2147483648 ≤ y ∧ y ≤ 2147483648) (hn : (n : Int) = x * x + y * y) : Fn 24 [.int .i64 x, .int .i64 y] (.tup [.int .i64 (rt n : Nat), .bool true]) := Sure.st (by simp only [RT]) ⟨trivial, trivial, trivial⟩ fun H => hypot_calls x y n H hx hy hn
theorem Far_s (x y : Int) : Fn 23 [PtA x y] (.bool (Zy x || Zy y)) := Sure.st (by simp only [RT]) trivial fun H => Far_calls x y H
theorem ranges_s (xs : List Int) (hl : xs.length < 1000000) : Fn 21 [IsA xs] (.bool (xs.all okR)) := Sure.st (by simp only [RT]) trivial fun H => ranges_calls _ xs H (Ints.fz H .i64 xs) hl
theorem product_s (a b : Int) (ha : -9223372036854775808 ≤ a ∧ a ≤ 9223372036854775807) (hb : -9223372036854775808 ≤ b ∧ b ≤ 9223372036854775807) : Fn 31 [.int .i64 a, .int .i64 b] (W (a * b)) := Sure.st (by simp only [RT]) (by simp only [RT]) fun H => product_calls a b H ha hb
theorem place_s (px py a k dx dy d : Int) (hd : 0 < d ∧ d ≤ 281474976710656) (ha : -281474976710656 ≤ a ∧ a ≤ 281474976710656) (hk : -140737488355328 ≤ k ∧ k ≤ 140737488355328) (hx : -d ≤ dx ∧ dx ≤ d) (hy : -d ≤ dy ∧ dy ≤ d) (hpx : -4194304 ≤ px ∧ px ≤ 4194304) (hpy : -4194304 ≤ py ∧ py ≤ 4194304) :
    Fn 34 [PtA px py, .int .i64 a, .int .i64 k, .int .i64 dx, .int .i64 dy, .int .i64 d] (.tup [PtA (plX px a k dx dy d) (plY py a k dx dy d), .bool (!(Zy (plX px a k dx dy d) || Zy (plY py a k dx dy d)))]) :=
  Sure.st (by simp only [RT]) ⟨⟨trivial, trivial, trivial⟩, trivial, trivial⟩ fun H => cplace_calls px py a k dx dy d H hd ha hk hx hy hpx hpy
theorem bad_s (n : Int) : Fn 22 [.int .i64 n] (J1k Wt n) := by
  refine Sure.body (by first | (simp only [RT]; done) | simp_all only [RT]) Tryd.func22 rfl (by kernel_rfl) (by kernel_rfl) ?_
  repeat' first
    | (with_reducible first | refine Jj (fun K hK => ?_) | refine Js ?_ | refine Q2 ?_ | refine Qc ?_ | refine Qb ?_ | refine Jg ?_ | refine Jq ?_)
    | (with_reducible refine Qu (wrap_s Wt n) (Qo _ _) ?_)
    | (with_reducible refine Jv (fun hc => ?_) (fun hc => ?_) <;> (try simp only [RC] at hc) <;> (try (exfalso; first | omega | contradiction)))
    | (with_reducible refine X3 (fun hc => ?_) (fun hc => ?_) <;> (try simp only [RC] at hc) <;> (try (exfalso; first | omega | contradiction)))
    | (simp only [Q8, Jk, reduceIte, J0])
    | ((with_reducible refine hK _ _ ?_); clear hK)
    | (clear hK; (with_reducible refine hK _ _ ?_); clear hK)
    | (clear hK; clear hK; (with_reducible refine hK _ _ ?_); clear hK)
    | (clear hK; clear hK; clear hK; (with_reducible refine hK _ _ ?_); clear hK)
    | (clear hK; clear hK; clear hK; clear hK; (with_reducible refine hK _ _ ?_); clear hK)
    | (clear hK; clear hK; clear hK; clear hK; clear hK; (with_reducible refine hK _ _ ?_); clear hK)
    | (simp only [Qa, RA, Jo, Jn, Jp, Q7, Q5, ev, ofValue, Ju, J0, J3, J2, J4, reduceCtorEq, reduceIte, Jx, Qm, Qk, Q1, aun, Qj, Jm, Jh, Q0, Jz, Ji, Qi, Jf, Q6, Jr, J1, J5, Ja, J9, Jb, J6, J7, Jd, J8, RB, Jy, Je, RZ, tf22ZaA])
    | (simp (disch := first | omega | (simp only [RO]; done) | assumption) only [RS, RG])
    | (simp (disch := (first | omega | (simp only [RO]; done) | assumption | (simp only [RM, Je]; done) | (simp only [RL, Je]; omega))) only [RD, reduceCtorEq, reduceIte, Je, J1, J3, J2, J6, tf22ZaA])
  all_goals
    (
     (refine Q9 (rs := [.tmp 2]) rfl ?_)
     (simp only [Qt, Q4, RA, RZ, J0, J3, J1, reduceCtorEq, reduceIte, tf22ZaA])
     (try simp only [RF]))
def errC (n : Int) : AV := if n = 0 then .nilI else J1k Wt n
def Vw (m : Int × (Int × Int) × (Int × Int)) : AV := .tup [PtA m.2.1.1 m.2.1.2, PtA m.2.2.1 m.2.2.2, errC m.1]
theorem Zj : errC 27 = J1k Wt 27 := rfl
theorem Vz : errC 33 = J1k Wt 33 := rfl
theorem Yq : errC 34 = J1k Wt 34 := rfl
theorem Ws : errC 21 = J1k Wt 21 := rfl
theorem Zf : errC 0 = .nilI := rfl
theorem meetS_far {px py r qx qy s base : Int} (h : Wx px py r qx qy s base = true) : J09 px py r qx qy s base = (27, (0, 0), (0, 0)) := by
  unfold J09; rw [if_pos h]
set_option maxHeartbeats 16000000 in
theorem Meet_s (px py r qx qy s base : Int) : Fn 15 [PtA px py, .int .i64 r, PtA qx qy, .int .i64 s, .int .i64 base] (Vw (J09 px py r qx qy s base)) := by
  have B := bad_s
  have F1 := Far_s px py
  have F2 := Far_s qx qy
  have RG := ranges_s [r, s] (by show 2 < 1000000; omega)
  obtain ⟨b1, hb1⟩ : ∃ b1, b1 = (Zy px || Zy py) := ⟨_, rfl⟩
  obtain ⟨b2, hb2⟩ : ∃ b2, b2 = (Zy qx || Zy qy) := ⟨_, rfl⟩
  obtain ⟨b3, hb3⟩ : ∃ b3, b3 = [r, s].all okR := ⟨_, rfl⟩
  have hU0 : Wx px py r qx qy s base = (b1 || b2 || !b3 || decide (base < 1 ∨ 4194304 < base)) := by
    unfold Wx; rw [hb1, hb2, hb3]
    simp only [List.all_cons, List.all_nil, Bool.and_true, okR]
  rw [← hb1] at F1
  rw [← hb2] at F2
  rw [← hb3] at RG
  rcases Bool.eq_false_or_eq_true (Wx px py r qx qy s base) with hU | hU
  · rw [meetS_far hU]
    rw [hU0] at hU
    clear hU0 hb1 hb2 hb3
    by_cases hb : base < 1 ∨ 4194304 < base
    all_goals
      cases b1 <;> cases b2 <;> cases b3
    all_goals first
      | (simp [hb] at hU; done)
      | skip
    all_goals
      refine Sure.body (by first | (simp only [RT]; done) | simp_all only [RT]) Tryd.func15 rfl (by kernel_rfl) (by kernel_rfl) ?_
      repeat' first
        | (with_reducible first | refine Jj (fun K hK => ?_) | refine Js ?_ | refine Q2 ?_ | refine Qc ?_ | refine Qb ?_ | refine Jg ?_ | refine Qf (id := 3) [] Rm (by kernel_rfl) (by kernel_rfl) ?_ | refine Qf (id := 4) [] Rj (by kernel_rfl) (by kernel_rfl) ?_ | refine Qf (id := 7) [] Ri (by kernel_rfl) (by kernel_rfl) ?_ | refine Qf (id := 11) [] G3 (by kernel_rfl) (by kernel_rfl) ?_ | refine Qf (id := 16) [] G2 (by kernel_rfl) (by kernel_rfl) ?_ | refine Qf (id := 17) [] G1 (by kernel_rfl) (by kernel_rfl) ?_ | refine Jq ?_ | refine Xt ?_)
        | (with_reducible refine Qu (F1) (Qo _ _) ?_)
        | (with_reducible refine Z8 (F1) (Qo _ _) ?_)
        | (with_reducible refine Qu (F2) (Qo _ _) ?_)
        | (with_reducible refine Z8 (F2) (Qo _ _) ?_)
        | ((with_reducible refine Wu (RG) (Qo _ _) ?_ ?_ ?_); (· rfl); (· (repeat' first | exact Vr | refine V3 ?_ ?_ | exact Frz.self (by simp only [RT]) | exact Wo (z := 1) rfl rfl (by first | exact Nat.le_refl _ | omega) rfl (by first | rfl | simp only [List.length_map, Nat.mul_one]) (by simp only [RT]))))
        | (with_reducible refine Qu (B _) (Qo _ _) ?_)
        | (with_reducible refine Z8 (B _) (Qo _ _) ?_)
        | (with_reducible refine Jv (fun hc => ?_) (fun hc => ?_) <;> (try simp only [RC] at hc) <;> (try (exfalso; first | omega | contradiction)))
        | (with_reducible refine Jc ?_ ?_)
        | (with_reducible refine X3 (fun hc => ?_) (fun hc => ?_) <;> (try simp only [RC] at hc) <;> (try (exfalso; first | omega | contradiction)))
        | (simp only [Q8, Jk, reduceIte, J0])
        | ((with_reducible refine hK _ _ ?_); clear hK)
        | (clear hK; (with_reducible refine hK _ _ ?_); clear hK)
        | (clear hK; clear hK; (with_reducible refine hK _ _ ?_); clear hK)
        | (clear hK; clear hK; clear hK; (with_reducible refine hK _ _ ?_); clear hK)
        | (clear hK; clear hK; clear hK; clear hK; (with_reducible refine hK _ _ ?_); clear hK)
        | (clear hK; clear hK; clear hK; clear hK; clear hK; (with_reducible refine hK _ _ ?_); clear hK)
        | (simp only [Qa, RA, Jo, Jn, Jp, Q7, Q5, ev, ofValue, Ju, J0, J3, J2, J4, reduceCtorEq, reduceIte, Jx, Qm, Qk, Q1, aun, Qj, Jm, Jh, Q0, Jz, Ji, Qi, Jf, Q6, Jr, J1, J5, Ja, J9, Jb, J6, J7, Jd, J8, RB, Jy, Je, RZ, Vi])
        | (simp (disch := first | omega | (simp only [RO]; done) | assumption) only [RS, RG, Wk, Wr, K1, Y4, Y0, Y3, Zz, Ya, Yc, Zg, Yb])
        | (simp (disch := (first | omega | (simp only [RO]; done) | assumption | (simp only [RM, Je]; done) | (simp only [RL, Je]; omega))) only [RD, reduceCtorEq, reduceIte, Je, J1, J3, J2, J6, Vi])
    all_goals
      (
       (refine Q9 (rs := [.cell 10 23, .cell 11 23, .tmp 12]) rfl ?_)
       (simp only [Qt, Q4, RA, RZ, J0, J3, J1, reduceCtorEq, reduceIte, Vi, Vw, Zj, Vz, Yq, Ws, Zf, Bool.false_eq_true, Bool.or_self, Bool.or_true, Bool.true_or])
       (try simp only [RF, Vw, Zj, Vz, Yq, Ws, Zf, Bool.false_eq_true, Bool.or_self, Bool.or_true, Bool.true_or]))
  have Z := sized_of hU
  have hmu := meetS_ok hU
  have hb : 1 ≤ base ∧ base ≤ 4194304 := Z.b0
  have hbb : b1 = false ∧ b2 = false ∧ b3 = true := by rw [hU0] at hU; revert hU; cases b1 <;> cases b2 <;> cases b3 <;> simp
  obtain ⟨rfl, rfl, rfl⟩ := hbb
  clear hU0 hb1 hb2 hb3 hU
  have wx : IntKind.i64.wrap (qx - px) = qx - px := Q3 (by have := Z.dx; omega) (by have := Z.dx; omega)
  have wy : IntKind.i64.wrap (qy - py) = qy - py := Q3 (by have := Z.dy; omega) (by have := Z.dy; omega)
  have wxx : IntKind.i64.wrap ((qx - px) * (qx - px)) = (qx - px) * (qx - px) := Q3 (by have := Z.dxx; omega) (by have := Z.dxx; omega)
  have wyy : IntKind.i64.wrap ((qy - py) * (qy - py)) = (qy - py) * (qy - py) := Q3 (by have := Z.dyy; omega) (by have := Z.dyy; omega)
  have wd : IntKind.i64.wrap ((qx - px) * (qx - px) + (qy - py) * (qy - py)) = dd px py qx qy := by have := Z.d; unfold dd at *; exact Q3 (by omega) (by omega)
  have wb : IntKind.i64.wrap (base * base) = base * base := Q3 (by have := Z.bb; omega) (by have := Z.bb; omega)
  rw [hmu]
  by_cases hn : dd px py qx qy < base * base
  · have f1 : (dd px py qx qy < base * base) = True := eq_true hn
    rw [if_pos hn]
    refine Sure.body (by first | (simp only [RT]; done) | simp_all only [RT]) Tryd.func15 rfl (by kernel_rfl) (by kernel_rfl) ?_
    repeat' first
      | (with_reducible first | refine Jj (fun K hK => ?_) | refine Js ?_ | refine Q2 ?_ | refine Qc ?_ | refine Qb ?_ | refine Jg ?_ | refine Qf (id := 3) [] Rm (by kernel_rfl) (by kernel_rfl) ?_ | refine Qf (id := 4) [] Rj (by kernel_rfl) (by kernel_rfl) ?_ | refine Qf (id := 7) [] Ri (by kernel_rfl) (by kernel_rfl) ?_ | refine Qf (id := 11) [] G3 (by kernel_rfl) (by kernel_rfl) ?_ | refine Qf (id := 16) [] G2 (by kernel_rfl) (by kernel_rfl) ?_ | refine Qf (id := 17) [] G1 (by kernel_rfl) (by kernel_rfl) ?_ | refine Jq ?_ | refine Xt ?_)
      | (with_reducible refine Qu (F1) (Qo _ _) ?_)
      | (with_reducible refine Z8 (F1) (Qo _ _) ?_)
      | (with_reducible refine Qu (F2) (Qo _ _) ?_)
      | (with_reducible refine Z8 (F2) (Qo _ _) ?_)
      | ((with_reducible refine Wu (RG) (Qo _ _) ?_ ?_ ?_); (· rfl); (· (repeat' first | exact Vr | refine V3 ?_ ?_ | exact Frz.self (by simp only [RT]) | exact Wo (z := 1) rfl rfl (by first | exact Nat.le_refl _ | omega) rfl (by first | rfl | simp only [List.length_map, Nat.mul_one]) (by simp only [RT]))))
      | (with_reducible refine Qu (B _) (Qo _ _) ?_)
      | (with_reducible refine Z8 (B _) (Qo _ _) ?_)
      | (with_reducible refine Jv (fun hc => ?_) (fun hc => ?_) <;> (try simp only [RC] at hc) <;> (try (exfalso; first | omega | contradiction)))
      | (with_reducible refine Jc ?_ ?_)
      | (with_reducible refine X3 (fun hc => ?_) (fun hc => ?_) <;> (try simp only [RC] at hc) <;> (try (exfalso; first | omega | contradiction)))
      | (simp only [Q8, Jk, reduceIte, J0])
      | ((with_reducible refine hK _ _ ?_); clear hK)
      | (clear hK; (with_reducible refine hK _ _ ?_); clear hK)
      | (clear hK; clear hK; (with_reducible refine hK _ _ ?_); clear hK)
      | (clear hK; clear hK; clear hK; (with_reducible refine hK _ _ ?_); clear hK)
      | (clear hK; clear hK; clear hK; clear hK; (with_reducible refine hK _ _ ?_); clear hK)
      | (clear hK; clear hK; clear hK; clear hK; clear hK; (with_reducible refine hK _ _ ?_); clear hK)
      | (simp only [Qa, RA, Jo, Jn, Jp, Q7, Q5, ev, ofValue, Ju, J0, J3, J2, J4, reduceCtorEq, reduceIte, Jx, Qm, Qk, Q1, aun, Qj, Jm, Jh, Q0, Jz, Ji, Qi, Jf, Q6, Jr, J1, J5, Ja, J9, Jb, J6, J7, Jd, J8, RB, Jy, Je, RZ, Vi, wx, wy, wxx, wyy, wd, wb, f1])
      | (simp (disch := first | omega | (simp only [RO]; done) | assumption) only [RS, RG, Wk, Wr, K1, Y4, Y0, Y3, Zz, Ya, Yc, Zg, Yb])
      | (simp (disch := (first | omega | (simp only [RO]; done) | assumption | (simp only [RM, Je]; done) | (simp only [RL, Je]; omega))) only [RD, reduceCtorEq, reduceIte, Je, J1, J3, J2, J6, Vi, wx, wy, wxx, wyy, wd, wb, f1])
    all_goals
      (
       (refine Q9 (rs := [.cell 10 23, .cell 11 23, .tmp 12]) rfl ?_)
       (simp only [Qt, Q4, RA, RZ, J0, J3, J1, reduceCtorEq, reduceIte, Vi, Vw, Zj, Vz, Yq, Ws, Zf, Bool.false_eq_true, Bool.or_self, Bool.or_true, Bool.true_or])
       (try simp only [RF, Vw, Zj, Vz, Yq, Ws, Zf, Bool.false_eq_true, Bool.or_self, Bool.or_true, Bool.true_or]))
  rw [if_neg hn]
  have f1 : (dd px py qx qy < base * base) = False := eq_false hn
  have wr : IntKind.i64.wrap (r * r) = r * r := Q3 (by have := Z.rr; omega) (by have := Z.rr; omega)
  have ws : IntKind.i64.wrap (s * s) = s * s := Q3 (by have := Z.ss; omega) (by have := Z.ss; omega)
  have w1 : IntKind.i64.wrap (r * r - s * s) = r * r - s * s := Q3 (by have := Z.rr; have := Z.ss; omega) (by have := Z.rr; have := Z.ss; omega)
  have w2 : IntKind.i64.wrap (r * r - s * s + dd px py qx qy) = aa px py r qx qy s := by have := Z.a; unfold aa at *; exact Q3 (by omega) (by omega)
  have w3 : IntKind.i64.wrap (4 * r) = 4 * r := Q3 (by have := Z.r0; omega) (by have := Z.r0; omega)
  have w4 : IntKind.i64.wrap (4 * r * r) = 4 * r * r := by rw [four_sq]; exact Q3 (by have := Z.rr; omega) (by have := Z.rr; omega)
  obtain ⟨hd0, hdx, hdy⟩ := Z.near hn
  have hd := Z.d
  have hA := Z.a
  have hrr := Z.rr
  have P1 := product_s (4 * r * r) (dd px py qx qy) (by rw [four_sq]; omega) (by omega)
  have P2 := product_s (aa px py r qx qy s) (aa px py r qx qy s) (by omega) (by omega)
  have hrl := Z.rest_le
  obtain ⟨Q, hQ⟩ : ∃ Q, Q = rest px py r qx qy s := ⟨_, rfl⟩
  have hQe : 4 * r * r * dd px py qx qy - aa px py r qx qy s * aa px py r qx qy s = Q := by rw [hQ]; rfl
  have n1 : (4 * r * r * dd px py qx qy).natAbs ≤ 17592186044416 * 140737488355328 := J0k (by rw [four_sq]; omega) (by omega)
  have n2 : (aa px py r qx qy s * aa px py r qx qy s).natAbs ≤ 281474976710656 * 281474976710656 := J0k (by omega) (by omega)
  have nQ : Q.natAbs ≤ 2 ^ 203 := Nat.le_trans (show Q.natAbs ≤ 17592186044416 * 140737488355328 + 281474976710656 * 281474976710656 by rw [← hQe]; omega) (by decide +kernel)
  have SB := wsub_s (4 * r * r * dd px py qx qy) (aa px py r qx qy s * aa px py r qx qy s) (Y6 (Nat.le_trans n1 (by decide +kernel))) (Y6 (Nat.le_trans n2 (by decide +kernel))) (by rw [hQe]; exact Y6 nQ)
  rw [hQe] at SB
  have SG := wsign_s Q (Y6 nQ)
  rw [← hQ] at hrl ⊢
  by_cases hs : Q < 0
  · have fs : (Q.sign < 0) = True := eq_true (Int.sign_neg_iff.mpr hs)
    rw [if_pos hs]
    refine Sure.body (by first | (simp only [RT]; done) | simp_all only [RT]) Tryd.func15 rfl (by kernel_rfl) (by kernel_rfl) ?_
    repeat' first
      | (with_reducible first | refine Jj (fun K hK => ?_) | refine Js ?_ | refine Q2 ?_ | refine Qc ?_ | refine Qb ?_ | refine Jg ?_ | refine Qf (id := 3) [] Rm (by kernel_rfl) (by kernel_rfl) ?_ | refine Qf (id := 4) [] Rj (by kernel_rfl) (by kernel_rfl) ?_ | refine Qf (id := 7) [] Ri (by kernel_rfl) (by kernel_rfl) ?_ | refine Qf (id := 11) [] G3 (by kernel_rfl) (by kernel_rfl) ?_ | refine Qf (id := 16) [] G2 (by kernel_rfl) (by kernel_rfl) ?_ | refine Qf (id := 17) [] G1 (by kernel_rfl) (by kernel_rfl) ?_ | refine Jq ?_ | refine Xt ?_)
      | (with_reducible refine Qu (F1) (Qo _ _) ?_)
      | (with_reducible refine Z8 (F1) (Qo _ _) ?_)
      | (with_reducible refine Qu (F2) (Qo _ _) ?_)
      | (with_reducible refine Z8 (F2) (Qo _ _) ?_)
      | ((with_reducible refine Wu (RG) (Qo _ _) ?_ ?_ ?_); (· rfl); (· (repeat' first | exact Vr | refine V3 ?_ ?_ | exact Frz.self (by simp only [RT]) | exact Wo (z := 1) rfl rfl (by first | exact Nat.le_refl _ | omega) rfl (by first | rfl | simp only [List.length_map, Nat.mul_one]) (by simp only [RT]))))
      | (with_reducible refine Qu (B _) (Qo _ _) ?_)
      | (with_reducible refine Z8 (B _) (Qo _ _) ?_)
      | (with_reducible refine Qu (P1) (Qo _ _) ?_)
      | (with_reducible refine Z8 (P1) (Qo _ _) ?_)
      | (with_reducible refine Qu (P2) (Qo _ _) ?_)
      | (with_reducible refine Z8 (P2) (Qo _ _) ?_)
      | (with_reducible refine Qu (SB) (Qo _ _) ?_)
      | (with_reducible refine Z8 (SB) (Qo _ _) ?_)
      | (with_reducible refine Qu (SG) (Qo _ _) ?_)
      | (with_reducible refine Z8 (SG) (Qo _ _) ?_)
      | (with_reducible refine Jv (fun hc => ?_) (fun hc => ?_) <;> (try simp only [RC] at hc) <;> (try (exfalso; first | omega | contradiction)))
      | (with_reducible refine Jc ?_ ?_)
      | (with_reducible refine X3 (fun hc => ?_) (fun hc => ?_) <;> (try simp only [RC] at hc) <;> (try (exfalso; first | omega | contradiction)))
      | (simp only [Q8, Jk, reduceIte, J0])
      | ((with_reducible refine hK _ _ ?_); clear hK)
      | (clear hK; (with_reducible refine hK _ _ ?_); clear hK)
      | (clear hK; clear hK; (with_reducible refine hK _ _ ?_); clear hK)
      | (clear hK; clear hK; clear hK; (with_reducible refine hK _ _ ?_); clear hK)
      | (clear hK; clear hK; clear hK; clear hK; (with_reducible refine hK _ _ ?_); clear hK)
      | (clear hK; clear hK; clear hK; clear hK; clear hK; (with_reducible refine hK _ _ ?_); clear hK)
      | (simp only [Qa, RA, Jo, Jn, Jp, Q7, Q5, ev, ofValue, Ju, J0, J3, J2, J4, reduceCtorEq, reduceIte, Jx, Qm, Qk, Q1, aun, Qj, Jm, Jh, Q0, Jz, Ji, Qi, Jf, Q6, Jr, J1, J5, Ja, J9, Jb, J6, J7, Jd, J8, RB, Jy, Je, RZ, Vi, wx, wy, wxx, wyy, wd, wb, f1, wr, ws, w1, w2, w3, w4, fs])
      | (simp (disch := first | omega | (simp only [RO]; done) | assumption) only [RS, RG, Wk, Wr, K1, Y4, Y0, Y3, Zz, Ya, Yc, Zg, Yb])
      | (simp (disch := (first | omega | (simp only [RO]; done) | assumption | (simp only [RM, Je]; done) | (simp only [RL, Je]; omega))) only [RD, reduceCtorEq, reduceIte, Je, J1, J3, J2, J6, Vi, wx, wy, wxx, wyy, wd, wb, f1, wr, ws, w1, w2, w3, w4, fs])
    all_goals
      (
       (refine Q9 (rs := [.cell 10 23, .cell 11 23, .tmp 12]) rfl ?_)
       (simp only [Qt, Q4, RA, RZ, J0, J3, J1, reduceCtorEq, reduceIte, Vi, Vw, Zj, Vz, Yq, Ws, Zf, Bool.false_eq_true, Bool.or_self, Bool.or_true, Bool.true_or])
       (try simp only [RF, Vw, Zj, Vz, Yq, Ws, Zf, Bool.false_eq_true, Bool.or_self, Bool.or_true, Bool.true_or]))
  have fs : (Q.sign < 0) = False := eq_false (fun h => hs (Int.sign_neg_iff.mp h))
  have hrt := Z.root
  rw [← hQ] at hrt
  have hroot := root_s (Q / Bs % Bs) (Q % Bs) Q.toNat (by simp only [Bs]; omega) (by simp only [Bs]; omega) (by simp only [Bs]; omega)
  have e1 : (dig 16 Q).getD 1 0 = Q / Bs % Bs := rfl
  have e0 : (dig 16 Q).getD 0 0 = Q % Bs := rfl
  obtain ⟨k, hk⟩ : ∃ k : Int, k = ((rt Q.toNat : Nat) : Int) := ⟨_, rfl⟩
  rw [← hk] at hroot hrt
  have hk0 : 0 ≤ k := by omega
  have wk : IntKind.i64.wrap k = k := Q3 (by omega) (by omega)
  have wnk : IntKind.i64.wrap (-k) = -k := Q3 (by omega) (by omega)
  have wnk0 : IntKind.i64.wrap (0 - k) = -k := by rw [Q3 (by omega) (by omega)]; omega
  have L1 := place_s px py (aa px py r qx qy s) k (qx - px) (qy - py) (dd px py qx qy) (by omega) hA (by omega) hdx hdy Z.p1 Z.p2
  have L2 := place_s px py (aa px py r qx qy s) (-k) (qx - px) (qy - py) (dd px py qx qy) (by omega) hA (by omega) hdx hdy Z.p1 Z.p2
  rw [if_neg hs, meetK, ← hQ, ← hk]
  generalize plX px (aa px py r qx qy s) k (qx - px) (qy - py) (dd px py qx qy) = X1 at *
  generalize plY py (aa px py r qx qy s) k (qx - px) (qy - py) (dd px py qx qy) = Y1 at *
  generalize plX px (aa px py r qx qy s) (-k) (qx - px) (qy - py) (dd px py qx qy) = X2 at *
  generalize plY py (aa px py r qx qy s) (-k) (qx - px) (qy - py) (dd px py qx qy) = Y2 at *
  generalize (Zy X1 || Zy Y1) = b1 at *
  generalize (Zy X2 || Zy Y2) = b2 at *
  cases b1 <;> cases b2
  all_goals
    refine Sure.body (by first | (simp only [RT]; done) | simp_all only [RT]) Tryd.func15 rfl (by kernel_rfl) (by kernel_rfl) ?_
    repeat' first
      | (with_reducible first | refine Jj (fun K hK => ?_) | refine Js ?_ | refine Q2 ?_ | refine Qc ?_ | refine Qb ?_ | refine Jg ?_ | refine Qf (id := 3) [] Rm (by kernel_rfl) (by kernel_rfl) ?_ | refine Qf (id := 4) [] Rj (by kernel_rfl) (by kernel_rfl) ?_ | refine Qf (id := 7) [] Ri (by kernel_rfl) (by kernel_rfl) ?_ | refine Qf (id := 11) [] G3 (by kernel_rfl) (by kernel_rfl) ?_ | refine Qf (id := 16) [] G2 (by kernel_rfl) (by kernel_rfl) ?_ | refine Qf (id := 17) [] G1 (by kernel_rfl) (by kernel_rfl) ?_ | refine Jq ?_ | refine Xt ?_)
      | (with_reducible refine Qu (F1) (Qo _ _) ?_)
      | (with_reducible refine Z8 (F1) (Qo _ _) ?_)
      | (with_reducible refine Qu (F2) (Qo _ _) ?_)
      | (with_reducible refine Z8 (F2) (Qo _ _) ?_)
      | ((with_reducible refine Wu (RG) (Qo _ _) ?_ ?_ ?_); (· rfl); (· (repeat' first | exact Vr | refine V3 ?_ ?_ | exact Frz.self (by simp only [RT]) | exact Wo (z := 1) rfl rfl (by first | exact Nat.le_refl _ | omega) rfl (by first | rfl | simp only [List.length_map, Nat.mul_one]) (by simp only [RT]))))
      | (with_reducible refine Qu (B _) (Qo _ _) ?_)
      | (with_reducible refine Z8 (B _) (Qo _ _) ?_)
      | (with_reducible refine Qu (P1) (Qo _ _) ?_)
      | (with_reducible refine Z8 (P1) (Qo _ _) ?_)
      | (with_reducible refine Qu (P2) (Qo _ _) ?_)
      | (with_reducible refine Z8 (P2) (Qo _ _) ?_)
      | (with_reducible refine Qu (SB) (Qo _ _) ?_)
      | (with_reducible refine Z8 (SB) (Qo _ _) ?_)
      | (with_reducible refine Qu (SG) (Qo _ _) ?_)
      | (with_reducible refine Z8 (SG) (Qo _ _) ?_)
      | (with_reducible refine Qu (hroot) (Qo _ _) ?_)
      | (with_reducible refine Z8 (hroot) (Qo _ _) ?_)
      | (with_reducible refine Qu (L1) (Qo _ _) ?_)
      | (with_reducible refine Z8 (L1) (Qo _ _) ?_)
      | (with_reducible refine Qu (L2) (Qo _ _) ?_)
      | (with_reducible refine Z8 (L2) (Qo _ _) ?_)
      | (with_reducible refine Jv (fun hc => ?_) (fun hc => ?_) <;> (try simp only [RC] at hc) <;> (try (exfalso; first | omega | contradiction)))
      | (with_reducible refine Jc ?_ ?_)
      | (with_reducible refine X3 (fun hc => ?_) (fun hc => ?_) <;> (try simp only [RC] at hc) <;> (try (exfalso; first | omega | contradiction)))
      | (simp only [Q8, Jk, reduceIte, J0])
      | ((with_reducible refine hK _ _ ?_); clear hK)
      | (clear hK; (with_reducible refine hK _ _ ?_); clear hK)
      | (clear hK; clear hK; (with_reducible refine hK _ _ ?_); clear hK)
      | (clear hK; clear hK; clear hK; (with_reducible refine hK _ _ ?_); clear hK)
      | (clear hK; clear hK; clear hK; clear hK; (with_reducible refine hK _ _ ?_); clear hK)
      | (clear hK; clear hK; clear hK; clear hK; clear hK; (with_reducible refine hK _ _ ?_); clear hK)
      | (simp only [Qa, RA, Jo, Jn, Jp, Q7, Q5, ev, ofValue, Ju, J0, J3, J2, J4, reduceCtorEq, reduceIte, Jx, Qm, Qk, Q1, aun, Qj, Jm, Jh, Q0, Jz, Ji, Qi, Jf, Q6, Jr, J1, J5, Ja, J9, Jb, J6, J7, Jd, J8, RB, Jy, Je, RZ, Vi, wx, wy, wxx, wyy, wd, wb, f1, wr, ws, w1, w2, w3, w4, fs, e1, e0, wk, wnk, wnk0])
      | (simp (disch := first | omega | (simp only [RO]; done) | assumption) only [RS, RG, Wk, Wr, K1, Y4, Y0, Y3, Zz, Ya, Yc, Zg, Yb])
      | (simp (disch := (first | omega | (simp only [RO]; done) | assumption | (simp only [RM, Je]; done) | (simp only [RL, Je]; omega))) only [RD, reduceCtorEq, reduceIte, Je, J1, J3, J2, J6, Vi, wx, wy, wxx, wyy, wd, wb, f1, wr, ws, w1, w2, w3, w4, fs, e1, e0, wk, wnk, wnk0])
  all_goals
    (
     (refine Q9 (rs := [.cell 10 23, .cell 11 23, .tmp 12]) rfl ?_)
     (simp only [Qt, Q4, RA, RZ, J0, J3, J1, reduceCtorEq, reduceIte, Vi, Vw, Zj, Vz, Yq, Ws, Zf, Bool.false_eq_true, Bool.or_self, Bool.or_true, Bool.true_or])
     (try simp only [RF, Vw, Zj, Vz, Yq, Ws, Zf, Bool.false_eq_true, Bool.or_self, Bool.or_true, Bool.true_or]))
end Go.Proofs.YtlgpemndbfclfaaDoor
namespace Go.Proofs.YtlgpemndbfclfaaDoor
open Go.AL Go.PW Go.PD Go.PR
theorem Ny : type_of% (Jc @Yj (Jc @Qx (@Ni))) := Jc @Yj (Jc @Qx (@Ni))
theorem tf45ZaB : type_of% (Jc @Yj (Jc @Zn (Jc @Qx (@cv53_2)))) := Jc @Yj (Jc @Zn (Jc @Qx (@cv53_2)))
theorem tf25ZaB : type_of% (Jc @Yj (Jc @Zn (@Qx))) := Jc @Yj (Jc @Zn (@Qx))
theorem Rc : type_of% (Jc @Yj (Jc @Xz (Jc @Zn (Jc @Uq (Jc @Up (Jc @tyb27 (@Wh))))))) := Jc @Yj (Jc @Xz (Jc @Zn (Jc @Uq (Jc @Up (Jc @tyb27 (@Wh))))))
theorem Ui : type_of% (Jc @Yj (Jc @Xz (Jc @Zn (Jc @Uq (Jc @Up (Jc @tyb27 (Jc @Zs (Jc @Zr (@Wh))))))))) := Jc @Yj (Jc @Xz (Jc @Zn (Jc @Uq (Jc @Up (Jc @tyb27 (Jc @Zs (Jc @Zr (@Wh))))))))
set_option maxRecDepth 8000
theorem fsize_s (v : Int) (hv : -9223372036854775808 ≤ v ∧ v ≤ 9223372036854775807) : Fn 46 [.int .i64 v] (.int .u64 v.natAbs) := by
  by_cases h : v < 0
  · have f : (v < 0) = True := eq_true h
    have w : IntKind.u64.wrap (0 - IntKind.u64.wrap v) = (v.natAbs : Int) := by
      simp only [IntKind.wrap, IntKind.signed, Bool.false_and, Bool.false_eq_true, if_false, Jd, J7]
      omega
    refine Sure.body (by first | (simp only [RT]; done) | simp_all only [RT]) Tryd.func46 rfl (by kernel_rfl) (by kernel_rfl) ?_
    repeat' first
      | (with_reducible first | refine Jj (fun K hK => ?_) | refine Js ?_ | refine Q2 ?_ | refine Qc ?_ | refine Qb ?_ | refine Jg ?_ | refine Jq ?_)
      | (with_reducible refine Jv (fun hc => ?_) (fun hc => ?_) <;> (try simp only [RC] at hc) <;> (try (exfalso; first | omega | contradiction)))
      | (with_reducible refine X3 (fun hc => ?_) (fun hc => ?_) <;> (try simp only [RC] at hc) <;> (try (exfalso; first | omega | contradiction)))
      | (simp only [Q8, Jk, reduceIte, J0])
      | ((with_reducible refine hK _ _ ?_); clear hK)
      | (clear hK; (with_reducible refine hK _ _ ?_); clear hK)
      | (clear hK; clear hK; (with_reducible refine hK _ _ ?_); clear hK)
      | (clear hK; clear hK; clear hK; (with_reducible refine hK _ _ ?_); clear hK)
      | (clear hK; clear hK; clear hK; clear hK; (with_reducible refine hK _ _ ?_); clear hK)
      | (clear hK; clear hK; clear hK; clear hK; clear hK; (with_reducible refine hK _ _ ?_); clear hK)
      | (simp only [Qa, RA, Jo, Jn, Jp, Q7, Q5, ev, ofValue, Ju, J0, J3, J2, J4, reduceCtorEq, reduceIte, Jx, Qm, Qk, Q1, aun, Qj, Jm, Jh, Q0, Jz, Ji, Qi, Jf, Q6, Jr, J1, J5, Ja, J9, Jb, J6, J7, Jd, J8, RB, Jy, Je, RZ, Ny, f, w])
      | (simp (disch := first | omega | (simp only [RO]; done) | assumption) only [RS, RG])
      | (simp (disch := (first | omega | (simp only [RO]; done) | assumption | (simp only [RM, Je]; done) | (simp only [RL, Je]; omega))) only [RD, reduceCtorEq, reduceIte, Je, J1, J3, J2, J6, Ny, f, w])
    all_goals
      (
       (refine Q9 (rs := [.tmp 2]) rfl ?_)
       (simp only [Qt, Q4, RA, RZ, J0, J3, J1, reduceCtorEq, reduceIte, Ny])
       (try simp only [RF]))
  · have f : (v < 0) = False := eq_false h
    have w : IntKind.u64.wrap v = (v.natAbs : Int) := by rw [Xx (by omega) (by simp only [Bs]; omega)]; omega
    refine Sure.body (by first | (simp only [RT]; done) | simp_all only [RT]) Tryd.func46 rfl (by kernel_rfl) (by kernel_rfl) ?_
    repeat' first
      | (with_reducible first | refine Jj (fun K hK => ?_) | refine Js ?_ | refine Q2 ?_ | refine Qc ?_ | refine Qb ?_ | refine Jg ?_ | refine Jq ?_)
      | (with_reducible refine Jv (fun hc => ?_) (fun hc => ?_) <;> (try simp only [RC] at hc) <;> (try (exfalso; first | omega | contradiction)))
      | (with_reducible refine X3 (fun hc => ?_) (fun hc => ?_) <;> (try simp only [RC] at hc) <;> (try (exfalso; first | omega | contradiction)))
      | (simp only [Q8, Jk, reduceIte, J0])
      | ((with_reducible refine hK _ _ ?_); clear hK)
      | (clear hK; (with_reducible refine hK _ _ ?_); clear hK)
      | (clear hK; clear hK; (with_reducible refine hK _ _ ?_); clear hK)
      | (clear hK; clear hK; clear hK; (with_reducible refine hK _ _ ?_); clear hK)
      | (clear hK; clear hK; clear hK; clear hK; (with_reducible refine hK _ _ ?_); clear hK)
      | (clear hK; clear hK; clear hK; clear hK; clear hK; (with_reducible refine hK _ _ ?_); clear hK)
      | (simp only [Qa, RA, Jo, Jn, Jp, Q7, Q5, ev, ofValue, Ju, J0, J3, J2, J4, reduceCtorEq, reduceIte, Jx, Qm, Qk, Q1, aun, Qj, Jm, Jh, Q0, Jz, Ji, Qi, Jf, Q6, Jr, J1, J5, Ja, J9, Jb, J6, J7, Jd, J8, RB, Jy, Je, RZ, Ny, f, w])
      | (simp (disch := first | omega | (simp only [RO]; done) | assumption) only [RS, RG])
      | (simp (disch := (first | omega | (simp only [RO]; done) | assumption | (simp only [RM, Je]; done) | (simp only [RL, Je]; omega))) only [RD, reduceCtorEq, reduceIte, Je, J1, J3, J2, J6, Ny, f, w])
    all_goals
      (
       (refine Q9 (rs := [.tmp 2]) rfl ?_)
       (simp only [Qt, Q4, RA, RZ, J0, J3, J1, reduceCtorEq, reduceIte, Ny])
       (try simp only [RF]))
theorem fsigned_s (n : Int) (hn : 0 ≤ n ∧ n < 9223372036854775808) : Fn 45 [.int .u64 n, .bool false] (.tup [.int .i64 n, .bool true]) := by
  have w : IntKind.i64.wrap n = n := Q3 (by omega) (by omega)
  have f : (n < 9223372036854775808) = True := eq_true hn.2
  refine Sure.body (by first | (simp only [RT]; done) | simp_all only [RT]) Tryd.func45 rfl (by kernel_rfl) (by kernel_rfl) ?_
  repeat' first
    | (with_reducible first | refine Jj (fun K hK => ?_) | refine Js ?_ | refine Q2 ?_ | refine Qc ?_ | refine Qb ?_ | refine Jg ?_ | refine Jq ?_)
    | (with_reducible refine Jv (fun hc => ?_) (fun hc => ?_) <;> (try simp only [RC] at hc) <;> (try (exfalso; first | omega | contradiction)))
    | (with_reducible refine X3 (fun hc => ?_) (fun hc => ?_) <;> (try simp only [RC] at hc) <;> (try (exfalso; first | omega | contradiction)))
    | (simp only [Q8, Jk, reduceIte, J0])
    | ((with_reducible refine hK _ _ ?_); clear hK)
    | (clear hK; (with_reducible refine hK _ _ ?_); clear hK)
    | (clear hK; clear hK; (with_reducible refine hK _ _ ?_); clear hK)
    | (clear hK; clear hK; clear hK; (with_reducible refine hK _ _ ?_); clear hK)
    | (clear hK; clear hK; clear hK; clear hK; (with_reducible refine hK _ _ ?_); clear hK)
    | (clear hK; clear hK; clear hK; clear hK; clear hK; (with_reducible refine hK _ _ ?_); clear hK)
    | (simp only [Qa, RA, Jo, Jn, Jp, Q7, Q5, ev, ofValue, Ju, J0, J3, J2, J4, reduceCtorEq, reduceIte, Jx, Qm, Qk, Q1, aun, Qj, Jm, Jh, Q0, Jz, Ji, Qi, Jf, Q6, Jr, J1, J5, Ja, J9, Jb, J6, J7, Jd, J8, RB, Jy, Je, RZ, tf45ZaB, w, f])
    | (simp (disch := first | omega | (simp only [RO]; done) | assumption) only [RS, RG])
    | (simp (disch := (first | omega | (simp only [RO]; done) | assumption | (simp only [RM, Je]; done) | (simp only [RL, Je]; omega))) only [RD, reduceCtorEq, reduceIte, Je, J1, J3, J2, J6, tf45ZaB, w, f])
  all_goals
    (
     (refine Q9 (rs := [.tmp 4, .tmp 5]) rfl ?_)
     (simp only [Qt, Q4, RA, RZ, J0, J3, J1, reduceCtorEq, reduceIte, tf45ZaB])
     (try simp only [RF]))
theorem famount_s (v : Int) (hv : -9223372036854775807 ≤ v ∧ v ≤ 9223372036854775807) : Fn 25 [.int .i64 v] (.tup [.int .i64 v.natAbs, .bool true]) := by
  refine Sure.body (by first | (simp only [RT]; done) | simp_all only [RT]) Tryd.func25 rfl (by kernel_rfl) (by kernel_rfl) ?_
  repeat' first
    | (with_reducible first | refine Jj (fun K hK => ?_) | refine Js ?_ | refine Q2 ?_ | refine Qc ?_ | refine Qb ?_ | refine Jg ?_ | refine Jq ?_)
    | (with_reducible refine Qu (fsize_s v (by omega)) (Qo _ _) ?_)
    | (with_reducible refine Qu (fsigned_s v.natAbs (by omega)) (Qo _ _) ?_)
    | (with_reducible refine Jv (fun hc => ?_) (fun hc => ?_) <;> (try simp only [RC] at hc) <;> (try (exfalso; first | omega | contradiction)))
    | (with_reducible refine X3 (fun hc => ?_) (fun hc => ?_) <;> (try simp only [RC] at hc) <;> (try (exfalso; first | omega | contradiction)))
    | (simp only [Q8, Jk, reduceIte, J0])
    | ((with_reducible refine hK _ _ ?_); clear hK)
    | (clear hK; (with_reducible refine hK _ _ ?_); clear hK)
    | (clear hK; clear hK; (with_reducible refine hK _ _ ?_); clear hK)
    | (clear hK; clear hK; clear hK; (with_reducible refine hK _ _ ?_); clear hK)
    | (clear hK; clear hK; clear hK; clear hK; (with_reducible refine hK _ _ ?_); clear hK)
    | (clear hK; clear hK; clear hK; clear hK; clear hK; (with_reducible refine hK _ _ ?_); clear hK)
    | (simp only [Qa, RA, Jo, Jn, Jp, Q7, Q5, ev, ofValue, Ju, J0, J3, J2, J4, reduceCtorEq, reduceIte, Jx, Qm, Qk, Q1, aun, Qj, Jm, Jh, Q0, Jz, Ji, Qi, Jf, Q6, Jr, J1, J5, Ja, J9, Jb, J6, J7, Jd, J8, RB, Jy, Je, RZ, tf25ZaB])
    | (simp (disch := first | omega | (simp only [RO]; done) | assumption) only [RS, RG])
    | (simp (disch := (first | omega | (simp only [RO]; done) | assumption | (simp only [RM, Je]; done) | (simp only [RL, Je]; omega))) only [RD, reduceCtorEq, reduceIte, Je, J1, J3, J2, J6, tf25ZaB])
  all_goals
    (
     (refine Q9 (rs := [.tmp 2, .tmp 3]) rfl ?_)
     (simp only [Qt, Q4, RA, RZ, J0, J3, J1, reduceCtorEq, reduceIte, tf25ZaB])
     (try simp only [RF]))
def offS (ax ay px py r : Int) : Int × Int := if Zy ax || Zy ay || (Zy px || Zy py) || !okR r then (27, 0) else (0, (((rt ((ax - px) * (ax - px) + (ay - py) * (ay - py)).toNat : Nat) : Int) - r).natAbs)
theorem G6 {v : Int} (h : Zy v = false) : -4194304 ≤ v ∧ v ≤ 4194304 := by
  unfold Zy at h; have := of_decide_eq_false h; omega
def offA (m : Int × Int) : AV := .tup [.int .i64 m.2, errC m.1]
set_option maxHeartbeats 4000000 in
theorem Off_s (ax ay px py r : Int) : Fn 11 [PtA ax ay, PtA px py, .int .i64 r] (offA (offS ax ay px py r)) := by
  have B := bad_s 27
  have F1 := Far_s ax ay
  have F2 := Far_s px py
  have RG := ranges_s [r] (by show 1 < 1000000; omega)
  have hb3 : [r].all okR = okR r := by simp only [List.all_cons, List.all_nil, Bool.and_true]
  rw [hb3] at RG
  by_cases hU : (Zy ax || Zy ay || (Zy px || Zy py) || !okR r) = true
  · unfold offS
    rw [if_pos hU]
    generalize (Zy ax || Zy ay) = b1 at *
    generalize (Zy px || Zy py) = b2 at *
    generalize okR r = b3 at *
    clear hb3
    cases b1 <;> cases b2 <;> cases b3
    all_goals first
      | (cases hU; done)
      | skip
    all_goals
      refine Sure.body (by first | (simp only [RT]; done) | simp_all only [RT]) Tryd.func11 rfl (by kernel_rfl) (by kernel_rfl) ?_
      repeat' first
        | (with_reducible first | refine Jj (fun K hK => ?_) | refine Js ?_ | refine Q2 ?_ | refine Qc ?_ | refine Qb ?_ | refine Jg ?_ | refine Jq ?_)
        | (with_reducible refine Qu (F1) (Qo _ _) ?_)
        | (with_reducible refine Qu (F2) (Qo _ _) ?_)
        | ((with_reducible refine Wu (RG) (Qo _ _) ?_ ?_ ?_); (· rfl); (· (repeat' first | exact Vr | refine V3 ?_ ?_ | exact Frz.self (by simp only [RT]) | exact Wo (z := 1) rfl rfl (by first | exact Nat.le_refl _ | omega) rfl (by first | rfl | simp only [List.length_map, Nat.mul_one]) (by simp only [RT]))))
        | (with_reducible refine Qu (B) (Qo _ _) ?_)
        | (with_reducible refine Jv (fun hc => ?_) (fun hc => ?_) <;> (try simp only [RC] at hc) <;> (try (exfalso; first | omega | contradiction)))
        | (with_reducible refine X3 (fun hc => ?_) (fun hc => ?_) <;> (try simp only [RC] at hc) <;> (try (exfalso; first | omega | contradiction)))
        | (simp only [Q8, Jk, reduceIte, J0])
        | ((with_reducible refine hK _ _ ?_); clear hK)
        | (clear hK; (with_reducible refine hK _ _ ?_); clear hK)
        | (clear hK; clear hK; (with_reducible refine hK _ _ ?_); clear hK)
        | (clear hK; clear hK; clear hK; (with_reducible refine hK _ _ ?_); clear hK)
        | (clear hK; clear hK; clear hK; clear hK; (with_reducible refine hK _ _ ?_); clear hK)
        | (clear hK; clear hK; clear hK; clear hK; clear hK; (with_reducible refine hK _ _ ?_); clear hK)
        | (simp only [Qa, RA, Jo, Jn, Jp, Q7, Q5, ev, ofValue, Ju, J0, J3, J2, J4, reduceCtorEq, reduceIte, Jx, Qm, Qk, Q1, aun, Qj, Jm, Jh, Q0, Jz, Ji, Qi, Jf, Q6, Jr, J1, J5, Ja, J9, Jb, J6, J7, Jd, J8, RB, Jy, Je, RZ, Rc])
        | (simp (disch := first | omega | (simp only [RO]; done) | assumption) only [RS, RG, Wk, Wr, K1, Ya, Yc, Zg, Yb])
        | (simp (disch := (first | omega | (simp only [RO]; done) | assumption | (simp only [RM, Je]; done) | (simp only [RL, Je]; omega))) only [RD, reduceCtorEq, reduceIte, Je, J1, J3, J2, J6, Rc])
    all_goals
      (
       (refine Q9 (rs := [.tmp 6, .tmp 7]) rfl ?_)
       (simp only [Qt, Q4, RA, RZ, J0, J3, J1, reduceCtorEq, reduceIte, Rc, offA, Zj])
       (try simp only [RF, offA, Zj]))
  unfold offS
  rw [if_neg hU]
  simp only [Bool.not_eq_true, Bool.or_eq_false_iff, Bool.not_eq_false'] at hU
  obtain ⟨⟨⟨h1, h2⟩, h3, h4⟩, h5⟩ := hU
  have a1 := G6 h1
  have a2 := G6 h2
  have a3 := G6 h3
  have a4 := G6 h4
  have a5 : 0 ≤ r ∧ r ≤ 2097152 := of_decide_eq_true h5
  rw [h1, h2, Bool.or_self] at F1
  rw [h3, h4, Bool.or_self] at F2
  rw [h5] at RG
  clear h1 h2 h3 h4 h5 hb3
  have s1 := Rx (x := ax - px) (b := 8388608) (by decide) (by omega)
  have s2 := Rx (x := ay - py) (b := 8388608) (by decide) (by omega)
  obtain ⟨n, hn⟩ : ∃ n, n = ((ax - px) * (ax - px) + (ay - py) * (ay - py)).toNat := ⟨_, rfl⟩
  have hnn : (n : Int) = (ax - px) * (ax - px) + (ay - py) * (ay - py) := by omega
  rw [← hn]
  have hrt := rt_lt (n := n) (b := 16777216) (by have : (2 : Nat) ^ 128 = 340282366920938463463374607431768211456 := by decide
                                                 omega) (by omega)
  have w1 : IntKind.i64.wrap (ax - px) = ax - px := Q3 (by omega) (by omega)
  have w2 : IntKind.i64.wrap (ay - py) = ay - py := Q3 (by omega) (by omega)
  have w3 : IntKind.i64.wrap ((rt n : Nat) - r) = (rt n : Nat) - r := Q3 (by omega) (by omega)
  have HY := hypot_s (ax - px) (ay - py) n (by omega) (by omega) hnn
  have AM := famount_s ((rt n : Nat) - r) (by omega)
  refine Sure.body (by first | (simp only [RT]; done) | simp_all only [RT]) Tryd.func11 rfl (by kernel_rfl) (by kernel_rfl) ?_
  repeat' first
    | (with_reducible first | refine Jj (fun K hK => ?_) | refine Js ?_ | refine Q2 ?_ | refine Qc ?_ | refine Qb ?_ | refine Jg ?_ | refine Jq ?_)
    | (with_reducible refine Qu (F1) (Qo _ _) ?_)
    | (with_reducible refine Qu (F2) (Qo _ _) ?_)
    | ((with_reducible refine Wu (RG) (Qo _ _) ?_ ?_ ?_); (· rfl); (· (repeat' first | exact Vr | refine V3 ?_ ?_ | exact Frz.self (by simp only [RT]) | exact Wo (z := 1) rfl rfl (by first | exact Nat.le_refl _ | omega) rfl (by first | rfl | simp only [List.length_map, Nat.mul_one]) (by simp only [RT]))))
    | (with_reducible refine Qu (B) (Qo _ _) ?_)
    | (with_reducible refine Qu (HY) (Qo _ _) ?_)
    | (with_reducible refine Qu (AM) (Qo _ _) ?_)
    | (with_reducible refine Jv (fun hc => ?_) (fun hc => ?_) <;> (try simp only [RC] at hc) <;> (try (exfalso; first | omega | contradiction)))
    | (with_reducible refine X3 (fun hc => ?_) (fun hc => ?_) <;> (try simp only [RC] at hc) <;> (try (exfalso; first | omega | contradiction)))
    | (simp only [Q8, Jk, reduceIte, J0])
    | ((with_reducible refine hK _ _ ?_); clear hK)
    | (clear hK; (with_reducible refine hK _ _ ?_); clear hK)
    | (clear hK; clear hK; (with_reducible refine hK _ _ ?_); clear hK)
    | (clear hK; clear hK; clear hK; (with_reducible refine hK _ _ ?_); clear hK)
    | (clear hK; clear hK; clear hK; clear hK; (with_reducible refine hK _ _ ?_); clear hK)
    | (clear hK; clear hK; clear hK; clear hK; clear hK; (with_reducible refine hK _ _ ?_); clear hK)
    | (simp only [Qa, RA, Jo, Jn, Jp, Q7, Q5, ev, ofValue, Ju, J0, J3, J2, J4, reduceCtorEq, reduceIte, Jx, Qm, Qk, Q1, aun, Qj, Jm, Jh, Q0, Jz, Ji, Qi, Jf, Q6, Jr, J1, J5, Ja, J9, Jb, J6, J7, Jd, J8, RB, Jy, Je, RZ, Rc, w1, w2, w3])
    | (simp (disch := first | omega | (simp only [RO]; done) | assumption) only [RS, RG, Wk, Wr, K1, Ya, Yc, Zg, Yb])
    | (simp (disch := (first | omega | (simp only [RO]; done) | assumption | (simp only [RM, Je]; done) | (simp only [RL, Je]; omega))) only [RD, reduceCtorEq, reduceIte, Je, J1, J3, J2, J6, Rc, w1, w2, w3])
  all_goals
    (
     (refine Q9 (rs := [.tmp 6, .tmp 7]) rfl ?_)
     (simp only [Qt, Q4, RA, RZ, J0, J3, J1, reduceCtorEq, reduceIte, Rc, offA, Zf])
     (try simp only [RF, offA, Zf]))
def pickS (ax ay bx by_ px py r near : Int) : Int × Int × Int :=
  if (offS ax ay px py r).1 ≠ 0 then (27, 0, 0) else if (offS bx by_ px py r).1 ≠ 0 then (27, 0, 0) else if !okR near then (27, 0, 0)
  else if (offS ax ay px py r).2 ≤ near ∧ (offS bx by_ px py r).2 > near then (0, ax, ay)
  else if (offS bx by_ px py r).2 ≤ near ∧ (offS ax ay px py r).2 > near then (0, bx, by_) else (34, 0, 0)
theorem offS_cases (ax ay px py r : Int) : offS ax ay px py r = (27, 0) ∨ ∃ n, offS ax ay px py r = (0, n) := by
  unfold offS; split
  · exact .inl rfl
  · exact .inr ⟨_, rfl⟩
set_option maxHeartbeats 4000000 in
theorem Pick_s (ax ay bx by_ px py r near : Int) : Fn 9 [PtA ax ay, PtA bx by_, PtA px py, .int .i64 r, .int .i64 near] (.tup [PtA (pickS ax ay bx by_ px py r near).2.1 (pickS ax ay bx by_ px py r near).2.2, errC (pickS ax ay bx by_ px py r near).1]) := by
  have B := bad_s
  have O1 := Off_s ax ay px py r
  have O2 := Off_s bx by_ px py r
  have RG := ranges_s [near] (by show 1 < 1000000; omega)
  have hb3 : [near].all okR = okR near := by simp only [List.all_cons, List.all_nil, Bool.and_true]
  rw [hb3] at RG
  unfold pickS
  generalize okR near = b3 at *
  rcases offS_cases ax ay px py r with h1 | ⟨x, h1⟩
  all_goals rw [h1] at O1 ⊢
  · rw [if_pos (by decide)]
    refine Sure.body (by first | (simp only [RT]; done) | simp_all only [RT]) Tryd.func9 rfl (by kernel_rfl) (by kernel_rfl) ?_
    repeat' first
      | (with_reducible first | refine Jj (fun K hK => ?_) | refine Js ?_ | refine Q2 ?_ | refine Qc ?_ | refine Qb ?_ | refine Jg ?_ | refine Jq ?_)
      | (with_reducible refine Qu (O1) (Qo _ _) ?_)
      | (with_reducible refine Jv (fun hc => ?_) (fun hc => ?_) <;> (try simp only [RC] at hc) <;> (try (exfalso; first | omega | contradiction)))
      | (with_reducible refine X3 (fun hc => ?_) (fun hc => ?_) <;> (try simp only [RC] at hc) <;> (try (exfalso; first | omega | contradiction)))
      | (simp only [Q8, Jk, reduceIte, J0])
      | ((with_reducible refine hK _ _ ?_); clear hK)
      | (clear hK; (with_reducible refine hK _ _ ?_); clear hK)
      | (clear hK; clear hK; (with_reducible refine hK _ _ ?_); clear hK)
      | (clear hK; clear hK; clear hK; (with_reducible refine hK _ _ ?_); clear hK)
      | (clear hK; clear hK; clear hK; clear hK; (with_reducible refine hK _ _ ?_); clear hK)
      | (clear hK; clear hK; clear hK; clear hK; clear hK; (with_reducible refine hK _ _ ?_); clear hK)
      | (simp only [Qa, RA, Jo, Jn, Jp, Q7, Q5, ev, ofValue, Ju, J0, J3, J2, J4, reduceCtorEq, reduceIte, Jx, Qm, Qk, Q1, aun, Qj, Jm, Jh, Q0, Jz, Ji, Qi, Jf, Q6, Jr, J1, J5, Ja, J9, Jb, J6, J7, Jd, J8, RB, Jy, Je, RZ, Ui, offA, Zj, Xq Z0])
      | (simp (disch := first | omega | (simp only [RO]; done) | assumption) only [RS, RG, Wk, Wr, K1, Ya, Yc, Zg, Yb])
      | (simp (disch := (first | omega | (simp only [RO]; done) | assumption | (simp only [RM, Je]; done) | (simp only [RL, Je]; omega))) only [RD, reduceCtorEq, reduceIte, Je, J1, J3, J2, J6, Ui, offA, Zj, Xq Z0])
    all_goals
      (
       (refine Q9 (rs := [.cell 10 23, .tmp 11]) rfl ?_)
       (simp only [Qt, Q4, RA, RZ, J0, J3, J1, reduceCtorEq, reduceIte, Ui, Zj])
       (try simp only [RF, Zj]))
  rw [if_neg (fun h => h rfl)]
  rcases offS_cases bx by_ px py r with h2 | ⟨y, h2⟩
  all_goals rw [h2] at O2 ⊢
  · rw [if_pos (by decide)]
    refine Sure.body (by first | (simp only [RT]; done) | simp_all only [RT]) Tryd.func9 rfl (by kernel_rfl) (by kernel_rfl) ?_
    repeat' first
      | (with_reducible first | refine Jj (fun K hK => ?_) | refine Js ?_ | refine Q2 ?_ | refine Qc ?_ | refine Qb ?_ | refine Jg ?_ | refine Jq ?_)
      | (with_reducible refine Qu (O1) (Qo _ _) ?_)
      | (with_reducible refine Qu (O2) (Qo _ _) ?_)
      | (with_reducible refine Jv (fun hc => ?_) (fun hc => ?_) <;> (try simp only [RC] at hc) <;> (try (exfalso; first | omega | contradiction)))
      | (with_reducible refine X3 (fun hc => ?_) (fun hc => ?_) <;> (try simp only [RC] at hc) <;> (try (exfalso; first | omega | contradiction)))
      | (simp only [Q8, Jk, reduceIte, J0])
      | ((with_reducible refine hK _ _ ?_); clear hK)
      | (clear hK; (with_reducible refine hK _ _ ?_); clear hK)
      | (clear hK; clear hK; (with_reducible refine hK _ _ ?_); clear hK)
      | (clear hK; clear hK; clear hK; (with_reducible refine hK _ _ ?_); clear hK)
      | (clear hK; clear hK; clear hK; clear hK; (with_reducible refine hK _ _ ?_); clear hK)
      | (clear hK; clear hK; clear hK; clear hK; clear hK; (with_reducible refine hK _ _ ?_); clear hK)
      | (simp only [Qa, RA, Jo, Jn, Jp, Q7, Q5, ev, ofValue, Ju, J0, J3, J2, J4, reduceCtorEq, reduceIte, Jx, Qm, Qk, Q1, aun, Qj, Jm, Jh, Q0, Jz, Ji, Qi, Jf, Q6, Jr, J1, J5, Ja, J9, Jb, J6, J7, Jd, J8, RB, Jy, Je, RZ, Ui, offA, Zj, Zf, Xq Z0, Z7 Z0])
      | (simp (disch := first | omega | (simp only [RO]; done) | assumption) only [RS, RG, Wk, Wr, K1, Ya, Yc, Zg, Yb])
      | (simp (disch := (first | omega | (simp only [RO]; done) | assumption | (simp only [RM, Je]; done) | (simp only [RL, Je]; omega))) only [RD, reduceCtorEq, reduceIte, Je, J1, J3, J2, J6, Ui, offA, Zj, Zf, Xq Z0, Z7 Z0])
    all_goals
      (
       (refine Q9 (rs := [.cell 10 23, .tmp 11]) rfl ?_)
       (simp only [Qt, Q4, RA, RZ, J0, J3, J1, reduceCtorEq, reduceIte, Ui, Zj])
       (try simp only [RF, Zj]))
  rw [if_neg (fun h => h rfl)]
  cases b3
  · skip
    refine Sure.body (by first | (simp only [RT]; done) | simp_all only [RT]) Tryd.func9 rfl (by kernel_rfl) (by kernel_rfl) ?_
    repeat' first
      | (with_reducible first | refine Jj (fun K hK => ?_) | refine Js ?_ | refine Q2 ?_ | refine Qc ?_ | refine Qb ?_ | refine Jg ?_ | refine Jq ?_)
      | (with_reducible refine Qu (O1) (Qo _ _) ?_)
      | (with_reducible refine Qu (O2) (Qo _ _) ?_)
      | ((with_reducible refine Wu (RG) (Qo _ _) ?_ ?_ ?_); (· rfl); (· (repeat' first | exact Vr | refine V3 ?_ ?_ | exact Frz.self (by simp only [RT]) | exact Wo (z := 1) rfl rfl (by first | exact Nat.le_refl _ | omega) rfl (by first | rfl | simp only [List.length_map, Nat.mul_one]) (by simp only [RT]))))
      | (with_reducible refine Qu (B _) (Qo _ _) ?_)
      | (with_reducible refine Jv (fun hc => ?_) (fun hc => ?_) <;> (try simp only [RC] at hc) <;> (try (exfalso; first | omega | contradiction)))
      | (with_reducible refine X3 (fun hc => ?_) (fun hc => ?_) <;> (try simp only [RC] at hc) <;> (try (exfalso; first | omega | contradiction)))
      | (simp only [Q8, Jk, reduceIte, J0])
      | ((with_reducible refine hK _ _ ?_); clear hK)
      | (clear hK; (with_reducible refine hK _ _ ?_); clear hK)
      | (clear hK; clear hK; (with_reducible refine hK _ _ ?_); clear hK)
      | (clear hK; clear hK; clear hK; (with_reducible refine hK _ _ ?_); clear hK)
      | (clear hK; clear hK; clear hK; clear hK; (with_reducible refine hK _ _ ?_); clear hK)
      | (clear hK; clear hK; clear hK; clear hK; clear hK; (with_reducible refine hK _ _ ?_); clear hK)
      | (simp only [Qa, RA, Jo, Jn, Jp, Q7, Q5, ev, ofValue, Ju, J0, J3, J2, J4, reduceCtorEq, reduceIte, Jx, Qm, Qk, Q1, aun, Qj, Jm, Jh, Q0, Jz, Ji, Qi, Jf, Q6, Jr, J1, J5, Ja, J9, Jb, J6, J7, Jd, J8, RB, Jy, Je, RZ, Ui, offA, Zf, Z7 Z0])
      | (simp (disch := first | omega | (simp only [RO]; done) | assumption) only [RS, RG, Wk, Wr, K1, Ya, Yc, Zg, Yb])
      | (simp (disch := (first | omega | (simp only [RO]; done) | assumption | (simp only [RM, Je]; done) | (simp only [RL, Je]; omega))) only [RD, reduceCtorEq, reduceIte, Je, J1, J3, J2, J6, Ui, offA, Zf, Z7 Z0])
    all_goals
      (
       (refine Q9 (rs := [.cell 10 23, .tmp 11]) rfl ?_)
       (simp only [Qt, Q4, RA, RZ, J0, J3, J1, reduceCtorEq, reduceIte, Ui, Zj, Bool.not_false])
       (try simp only [RF, Zj, Bool.not_false]))
  by_cases hx : x ≤ near <;> by_cases hy : y ≤ near
  all_goals
    have e1 : (near < x) = ¬ (x ≤ near) := propext (by omega)
    have e2 : (near < y) = ¬ (y ≤ near) := propext (by omega)
    have fx : (x ≤ near) = decide (x ≤ near) := by simp
  all_goals
    refine Sure.body (by first | (simp only [RT]; done) | simp_all only [RT]) Tryd.func9 rfl (by kernel_rfl) (by kernel_rfl) ?_
    repeat' first
      | (with_reducible first | refine Jj (fun K hK => ?_) | refine Js ?_ | refine Q2 ?_ | refine Qc ?_ | refine Qb ?_ | refine Jg ?_ | refine Jq ?_)
      | (with_reducible refine Qu (O1) (Qo _ _) ?_)
      | (with_reducible refine Qu (O2) (Qo _ _) ?_)
      | ((with_reducible refine Wu (RG) (Qo _ _) ?_ ?_ ?_); (· rfl); (· (repeat' first | exact Vr | refine V3 ?_ ?_ | exact Frz.self (by simp only [RT]) | exact Wo (z := 1) rfl rfl (by first | exact Nat.le_refl _ | omega) rfl (by first | rfl | simp only [List.length_map, Nat.mul_one]) (by simp only [RT]))))
      | (with_reducible refine Qu (B _) (Qo _ _) ?_)
      | (with_reducible refine Jv (fun hc => ?_) (fun hc => ?_) <;> (try simp only [RC] at hc) <;> (try (exfalso; first | omega | contradiction)))
      | (with_reducible refine X3 (fun hc => ?_) (fun hc => ?_) <;> (try simp only [RC] at hc) <;> (try (exfalso; first | omega | contradiction)))
      | (simp only [Q8, Jk, reduceIte, J0])
      | ((with_reducible refine hK _ _ ?_); clear hK)
      | (clear hK; (with_reducible refine hK _ _ ?_); clear hK)
      | (clear hK; clear hK; (with_reducible refine hK _ _ ?_); clear hK)
      | (clear hK; clear hK; clear hK; (with_reducible refine hK _ _ ?_); clear hK)
      | (clear hK; clear hK; clear hK; clear hK; (with_reducible refine hK _ _ ?_); clear hK)
      | (clear hK; clear hK; clear hK; clear hK; clear hK; (with_reducible refine hK _ _ ?_); clear hK)
      | (simp only [Qa, RA, Jo, Jn, Jp, Q7, Q5, ev, ofValue, Ju, J0, J3, J2, J4, reduceCtorEq, reduceIte, Jx, Qm, Qk, Q1, aun, Qj, Jm, Jh, Q0, Jz, Ji, Qi, Jf, Q6, Jr, J1, J5, Ja, J9, Jb, J6, J7, Jd, J8, RB, Jy, Je, RZ, Ui, offA, Zf, Z7 Z0, e1, e2, hx, hy])
      | (simp (disch := first | omega | (simp only [RO]; done) | assumption) only [RS, RG, Wk, Wr, K1, Ya, Yc, Zg, Yb])
      | (simp (disch := (first | omega | (simp only [RO]; done) | assumption | (simp only [RM, Je]; done) | (simp only [RL, Je]; omega))) only [RD, reduceCtorEq, reduceIte, Je, J1, J3, J2, J6, Ui, offA, Zf, Z7 Z0, e1, e2, hx, hy])
  all_goals
    (
     (refine Q9 (rs := [.cell 10 23, .tmp 11]) rfl ?_)
     (simp only [Qt, Q4, RA, RZ, J0, J3, J1, reduceCtorEq, reduceIte, Ui, Yq, Zf, Bool.not_true, hx, hy, e1, e2])
     (try simp only [RF, Yq, Zf, Bool.not_true, hx, hy, e1, e2]))
end Go.Proofs.YtlgpemndbfclfaaDoor
namespace Go.Proofs.YtlgpemndbfclfaaDoor
open Go.AL Go.PW
set_option maxRecDepth 8000
abbrev lbA (x : Int) : AV := .fz (lim x.natAbs).length ((lim x.natAbs).map (AV.int .u64))
theorem Bs_.frz {H : Hp} {s : AV} {x : Int} (h : Bs_ H s x) : Frz H (lbA x) s := by
  obtain ⟨xs, u, c, hv⟩ := h.ex
  show Frz H (.fz (lim x.natAbs).length ((lim x.natAbs).map (AV.int .u64))) s
  rw [show lim x.natAbs = xs from (lim_unique xs _ c.lim hv c.top).symm]
  exact u.rd.frz
end Go.Proofs.YtlgpemndbfclfaaDoor

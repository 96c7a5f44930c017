/- Part 5 of the proof of the law CirclesMeet: lemmas on the model's code, on this program's functions, on numbers. No condition. -/
import Derived.Test.YtigddjlhncnnoaaGreatDoorZCirclesMeetad
set_option linter.unusedVariables false
set_option linter.unusedSimpArgs false
open Nat renaming reduceEqDiff → J0, reduceLeDiff → J1, reduceMul → J2, reduceAdd → J3, reduceSub → J4, reduceLT → J5
open Int renaming reduceToNat → J6, reducePow → J7, reduceNeg → J8, reduceLT → J9, reduceLE → Ja, reduceEq → Jb
open And renaming intro → Jc
open Go.IntKind renaming bits → Jd
open Go.PW renaming dig_length → Je
namespace Go.Proofs.YtigddjlhncnnoaaGreatDoor
open Go.AL Go.PW
theorem Zv : type_of% (Jc @Xw (Jc @Z1 (@Xc))) := Jc @Xw (Jc @Z1 (@Xc))
abbrev pn149_20RfX : Plan := (.one 0 (.one 1 (.one 2 (.one 3 (.one 4 (.one 5 (.one 6 (.one 7 (.one 8 (.one 9 (.one 10 (.one 11 (.one 12 (.one 13 (.one 14 (.one 15 (.one 16 (.one 17 (.one 18 (.one 19 (.one 20 (.one 21 (.one 22 (.one 23 (.one 24 (.one 25 (.one 26 (.one 27 (.one 28 (.one 29 (.one 30 (.one 31 .nil))))))))))))))))))))))))))))))))
abbrev pn149_36RfX : Plan := (.one 0 (.one 1 (.one 2 (.one 3 (.one 4 (.one 5 (.one 6 (.one 7 (.one 8 (.one 9 (.one 10 (.one 11 (.one 12 (.one 13 (.one 14 (.one 15 (.one 16 (.one 17 (.one 18 (.one 19 (.one 20 (.one 21 .nil))))))))))))))))))))))
abbrev pn149_40RfX : Plan := (.one 0 (.one 2 (.one 3 (.one 4 (.one 6 (.one 1 (.one 5 (.one 7 (.one 8 (.one 9 .nil))))))))))
set_option maxRecDepth 8000
theorem lz_can {ys : List Int} {n s : Nat} (c : Can ys) (hn : n = ys.length) (h0 : 0 < n) (hs : s = 64 - bl (ys.getD (n - 1) 0).toNat) : val ys * 2 ^ s < Bs ^ n ∧ s < 64 := by
  have hg := c.lim.get (n - 1)
  have h1 := Xk ys (i := n - 1) (by omega)
  rw [show n - 1 + 1 = n by omega, List.take_of_length_le (by omega)] at h1
  have h2 := Xh (c.lim.take (n - 1))
  rw [List.length_take, Nat.min_eq_left (by omega)] at h2
  have hne : ys.getD (n - 1) 0 ≠ 0 := by
    rcases c.top with e | e
    · rw [e] at hn; simp at hn; omega
    · rw [hn]; exact e
  obtain ⟨t, ht'⟩ := Int.eq_ofNat_of_zero_le hg.1
  rw [ht'] at h1 hs hg hne
  rw [Int.toNat_natCast] at hs
  have ht0 : t ≠ 0 := by omega
  have b3 := bl_pos ht0
  have b1 := bl_lt t
  have b4 : bl t ≤ 64 := bl_le (by simp only [Bs] at hg; omega)
  refine ⟨?_, by omega⟩
  have e : (2 : Int) ^ (bl t) * 2 ^ s = Bs := by rw [← Int.pow_add, hs, show bl t + (64 - bl t) = 64 by omega]; decide
  have h3 : ((t : Int) + 1) ≤ 2 ^ bl t := by
    have : ((t + 1 : Nat) : Int) ≤ ((2 ^ bl t : Nat) : Int) := by omega
    simpa using this
  have hp := Xn (n - 1)
  have h4 : val ys < Bs ^ (n - 1) * ((t : Int) + 1) := by rw [Int.mul_add]; omega
  have h5 : Bs ^ (n - 1) * ((t : Int) + 1) ≤ Bs ^ (n - 1) * 2 ^ bl t := Int.mul_le_mul_of_nonneg_left h3 (Int.le_of_lt hp)
  have h6 : val ys * 2 ^ s < Bs ^ (n - 1) * 2 ^ bl t * 2 ^ s := Int.mul_lt_mul_of_pos_right (by omega) (Zb s)
  rw [Int.mul_assoc, e, ← Int.pow_succ, show (n - 1).succ = n by omega] at h6
  exact h6
theorem append_room {H : Hp} {h k : Nat} {us : List Int} {x : AV} (hg : X3 H h = some (Ub us)) (hk : k + 1 ≤ us.length) (hz : us.getD k 0 = 0) (hx : Ints H .u64 x [0]) : Yf Tryz.prog H 65 (.sl h 0 k us.length) x = some (.sl h 0 (k + 1) us.length, H) := by
  have hm : (us.map (AV.int .u64)).length = us.length := List.length_map ..
  have hs : Q2 (us.map (AV.int .u64)) (k * 1) [AV.int .u64 0] = us.map (AV.int .u64) := by
    rw [Nat.mul_one, Gs _ _ _ (by omega)]
    congr 1
    apply List.ext_getElem
    · rw [List.length_set]
    · intro j h1 h2
      rw [List.getElem_set]
      split
      · rename_i e
        subst e
        rw [List.getD_eq_getElem?_getD, List.getElem?_eq_getElem h2] at hz
        exact hz.symm
      · rfl
  have ho : ([(0 : Int)].map (AV.int .u64)).all AV.one = true := Vg _ _
  have c1 : (AV.int .u64 0).cells.length = 1 ∧ 0 < 1 := ⟨rfl, by decide⟩
  have c2 : ¬ (1 = 0 ∧ k ≤ us.length) := by omega
  have c3 : k * 1 + 1 * 1 ≤ (us.map (AV.int .u64)).length := by omega
  have hl1 : [(0 : Int)].length = 1 := rfl
  unfold Yf
  simp only [Z8, Z4, zero71, bytes71, hx.rd.row, hl1]
  rw [if_pos c1, if_pos ho, if_neg c2, if_pos hk]
  simp only [hg]
  rw [if_pos ⟨trivial, trivial, trivial, c3⟩]
  have hs' : Q2 (us.map (AV.int .u64)) (k * 1) ([(0 : Int)].map (AV.int .u64)) = us.map (AV.int .u64) := hs
  rw [hs', set_same hg]
set_option maxHeartbeats 16000000 in
theorem Rover_long (s t : AV) (xs ys : List Int) (H : Hp) (hs : Uv H s xs) (ht : Ints H .u64 t ys) (cx : Can xs) (cy : Can ys) (h : ¬ val xs < val ys) (h2 : 2 ≤ ys.length) (lx : xs.length < 40000) : ACalls Tryz.prog 149 [s, t] H fun r H' => OverR H (val xs) (val ys) r H' := by
  have f1 : ((val xs - val ys).sign < 0) = False := eq_false (fun hh => by have := Int.sign_neg_iff.1 hh; omega)
  have l1 := hs.rd.rd.len Z8
  have l2 := ht.rd.len Z8
  have hnl := cx.le cy (by omega)
  obtain ⟨n, hn⟩ : ∃ n, n = ys.length := ⟨_, rfl⟩
  obtain ⟨la, hla⟩ : ∃ la, la = xs.length := ⟨_, rfl⟩
  rw [← hla] at l1 hnl lx
  rw [← hn] at l2 hnl h2
  have fn1 : ((n : Int) = 1) = False := eq_false (by omega)
  have w1 : IntKind.i64.wrap ((n : Int) - 1) = ((n - 1 : Nat) : Int) := by rw [Qe (by omega) (by omega)]; omega
  have w2 : IntKind.i64.wrap ((n : Int) - 2) = ((n - 2 : Nat) : Int) := by rw [Qe (by omega) (by omega)]; omega
  obtain ⟨sh, hsh⟩ : ∃ sh, sh = 64 - bl (ys.getD (n - 1) 0).toNat := ⟨_, rfl⟩
  obtain ⟨hVn, hs64⟩ := lz_can cy hn (by omega) hsh
  have hYlow := cy.low (by omega)
  rw [← hn] at hYlow
  have hY0 : 0 < val ys := by have := Xn (n - 1); omega
  have hXb := Xh cx.lim
  rw [← hla] at hXb
  obtain ⟨V, hV⟩ : ∃ V, V = val ys * 2 ^ sh := ⟨_, rfl⟩
  obtain ⟨U, hU⟩ : ∃ U, U = val xs * 2 ^ sh := ⟨_, rfl⟩
  have hV0 : 0 < V := by rw [hV]; exact Int.mul_pos hY0 (Zb sh)
  rw [← hV] at hVn
  have hgy := cy.lim.get (n - 1)
  have hlz := fun H0 => lz64_calls (ys.getD (n - 1) 0) H0 hgy
  rw [← hsh] at hlz
  obtain ⟨hv, hhv⟩ : ∃ hv, hv = H.length := ⟨_, rfl⟩
  obtain ⟨hu, hhu⟩ : ∃ hu, hu = H.length + 1 := ⟨_, rfl⟩
  refine Qo Tryz.func149 rfl (by kernel_rfl) (by kernel_rfl) ?_
  refine Jh (fun K hQ => ?_)
  repeat' first
    | (with_reducible first | refine Jh (fun K hK => ?_) | refine Q4 ?_ | refine Jg ?_ | refine Jr ?_)
    | ((with_reducible refine Q5 (cmp_calls _ _ _ _ _ hs.rd ht cx cy) ?_); rintro _ _ ⟨rfl, rfl⟩)
    | (simp only [Qb, Jo, reduceIte, J0])
    | ((with_reducible refine hK _ _ ?_); clear hK)
    | (simp only [Q9, RA, Jn, Jm, Jp, Q8, Q6, ev, ofValue, Ju, J0, J3, J2, J4, reduceCtorEq, reduceIte, Jv, Qm, Qk, Q0, aun, Qj, Jk, Ji, Jz, Jy, Jj, Qi, Jf, Q7, Q2, Js, J1, J5, Ja, J9, Jb, J6, J7, Jd, J8, RB, Jw, Je, Zv, f1, l2, fn1])
  refine hQ _ _ ?_
  clear hQ
  refine Jh (fun K hQ => ?_)
  repeat' first
    | (with_reducible first | refine Jh (fun K hK => ?_) | refine Q4 ?_ | refine Jg ?_ | refine Jr ?_)
    | ((with_reducible refine Q5 (cmp_calls _ _ _ _ _ hs.rd ht cx cy) ?_); rintro _ _ ⟨rfl, rfl⟩)
    | (simp only [Qb, Jo, reduceIte, J0])
    | ((with_reducible refine hK _ _ ?_); clear hK)
    | (simp only [Q9, RA, Jn, Jm, Jp, Q8, Q6, ev, ofValue, Ju, J0, J3, J2, J4, reduceCtorEq, reduceIte, Jv, Qm, Qk, Q0, aun, Qj, Jk, Ji, Jz, Jy, Jj, Qi, Jf, Q7, Q2, Js, J1, J5, Ja, J9, Jb, J6, J7, Jd, J8, RB, Jw, Je, Zv, f1, l2, fn1])
  refine hQ _ _ ?_
  clear hQ
  refine Jh (fun K hQ => ?_)
  repeat' first
    | (with_reducible first | refine Jh (fun K hK => ?_) | refine Q4 ?_ | refine Jg ?_ | refine Jr ?_)
    | ((with_reducible refine Q5 (cmp_calls _ _ _ _ _ hs.rd ht cx cy) ?_); rintro _ _ ⟨rfl, rfl⟩)
    | (simp only [Qb, Jo, reduceIte, J0])
    | ((with_reducible refine hK _ _ ?_); clear hK)
    | (simp only [Q9, RA, Jn, Jm, Jp, Q8, Q6, ev, ofValue, Ju, J0, J3, J2, J4, reduceCtorEq, reduceIte, Jv, Qm, Qk, Q0, aun, Qj, Jk, Ji, Jz, Jy, Jj, Qi, Jf, Q7, Q2, Js, J1, J5, Ja, J9, Jb, J6, J7, Jd, J8, RB, Jw, Je, Zv, f1, l2, fn1])
  refine hQ _ _ ?_
  clear hQ
  refine Jh (fun K hQ => ?_)
  repeat' first
    | (with_reducible first | refine Jh (fun K hK => ?_) | refine Q4 ?_ | refine Jg ?_ | refine Jr ?_)
    | ((with_reducible refine Q5 (cmp_calls _ _ _ _ _ hs.rd ht cx cy) ?_); rintro _ _ ⟨rfl, rfl⟩)
    | (simp only [Qb, Jo, reduceIte, J0])
    | ((with_reducible refine hK _ _ ?_); clear hK)
    | (simp only [Q9, RA, Jn, Jm, Jp, Q8, Q6, ev, ofValue, Ju, J0, J3, J2, J4, reduceCtorEq, reduceIte, Jv, Qm, Qk, Q0, aun, Qj, Jk, Ji, Jz, Jy, Jj, Qi, Jf, Q7, Q2, Js, J1, J5, Ja, J9, Jb, J6, J7, Jd, J8, RB, Jw, Je, Zv, f1, l2, fn1])
  refine hQ _ _ ?_
  clear hQ
  refine Jh (fun K hQ => ?_)
  repeat' first
    | (with_reducible first | refine Jg ?_)
    | ((with_reducible refine Q5 (hlz _) ?_); rintro _ _ ⟨rfl, rfl⟩)
    | (simp only [Qb, Jo, reduceIte, J0])
    | (simp only [Q9, RA, Jn, Jm, Jp, Q8, Q6, ev, ofValue, Ju, J0, J3, J2, J4, reduceCtorEq, reduceIte, Jv, Qm, Qk, Q0, aun, Qj, Jk, Ji, Jz, Jy, Jj, Qi, Jf, Q7, Q2, Js, J1, J5, Ja, J9, Jb, J6, J7, Jd, J8, RB, Jw, Je, Zv, w1, l2, fn1])
    | (simp (disch := first | omega | (simp only [RO]; done) | assumption) only [RS, ht.rd.at1 Z8 Z4, ht.load1 Yt, Xa, Xb, X9])
  refine hQ _ _ ?_
  clear hQ
  refine Jh (fun K2 hK2 => ?_)
  refine Yn (fun fr' H1 => ∃ vs us, fr' 0 = s ∧ fr' 6 = .int .i64 (n : Int) ∧ fr' 10 = .int .i64 (sh : Int) ∧ fr' 11 = .sl hv 0 n (n + 1) ∧ fr' 12 = .sl hu 0 (tl us (la + 1)) (la + 1) ∧ vs.length = n + 1 ∧ Limbs vs ∧ val vs = V ∧ us.length = la + 1 ∧ Limbs us ∧ val us = U ∧ H ++ [Ub vs] ++ [Ub us] = H1) ?_ (fun fr' H1 h => hK2 _ _ ?_)
  · clear hK2
    repeat' first
      | (with_reducible first | refine Jg ?_)
      | (simp only [Qb, Jo, reduceIte, J0])
      | (simp only [Q9, RA, Jn, Jm, Jp, Q8, Q6, ev, ofValue, Ju, J0, J3, J2, J4, reduceCtorEq, reduceIte, Jv, Qm, Qk, Q0, aun, Qj, Jk, Ji, Jz, Jy, Jj, Qi, Jf, Q7, Q2, Js, J1, J5, Ja, J9, Jb, J6, J7, Jd, J8, RB, Jw, Je, Zv])
    refine Q5 (Rleft_calls t ys sh _ ht cy.lim (by omega) (by omega) hs64) ?_
    rintro _ _ ⟨vs, rfl, vl, vL, vv, rfl⟩
    rw [← hn] at vl
    rw [← hV] at vv
    have hvz : ∀ k, n ≤ k → vs.getD k 0 = 0 := fun k hk => getD_above vL (Uj vL (m := n) (by rw [vv]; exact hVn)).1 k hk
    have hvt : vs.getD (n - 1) 0 ≠ 0 := by
      intro e
      have h3 := val_above vL (m := n - 1) (fun k hk => by
        by_cases e2 : k = n - 1
        · rw [e2]; exact e
        · exact hvz k (by omega))
      have h4 := Int.mul_le_mul_of_nonneg_left (show (1 : Int) ≤ 2 ^ sh by have := Zb sh; omega) (Int.le_of_lt hY0)
      omega
    have htl : tl vs (n + 1) = n := by
      rw [tl_z (hvz n (Nat.le_refl _))]
      have e := tl_nz (m := n - 1) hvt
      rw [show n - 1 + 1 = n by omega] at e
      exact e
    repeat' first
      | (simp only [Q9, RA, Jn, Jm, Jp, Q8, Q6, ev, ofValue, Ju, J0, J3, J2, J4, reduceCtorEq, reduceIte, Jv, Qm, Qk, Q0, aun, Qj, Jk, Ji, Jz, Jy, Jj, Qi, Jf, Q7, Q2, Js, J1, J5, Ja, J9, Jb, J6, J7, Jd, J8, RB, Jw, Je, Zv])
    refine Q5 (Rleft_calls s xs sh _ (hs.rd.push _) cx.lim (by omega) (by omega) hs64) ?_
    rintro _ _ ⟨us, rfl, ul, uL, uv, rfl⟩
    rw [← hla] at ul
    rw [← hU] at uv
    have hhu2 : (H ++ [Ub vs]).length = hu := by rw [hhu]; simp
    repeat' first
      | (simp only [Qb, Jo, reduceIte, J0])
      | (simp only [Q9, RA, Jn, Jm, Jp, Q8, Q6, ev, ofValue, Ju, J0, J3, J2, J4, reduceCtorEq, reduceIte, Jv, Qm, Qk, Q0, aun, Qj, Jk, Ji, Jz, Jy, Jj, Qi, Jf, Q7, Q2, Js, J1, J5, Ja, J9, Jb, J6, J7, Jd, J8, RB, Jw, Je, Zv, htl, ← hn, ← hla, ← hhv, hhu2])
    all_goals exact ⟨vs, us, rfl, vl, vL, vv, ul, uL, uv, rfl⟩
  clear hK2
  obtain ⟨vs, us0, k0, k6, k10, k11, k12, vl, vL, vv, ul0, uL0, uv0, rfl⟩ := h
  have hvz : ∀ k, n ≤ k → vs.getD k 0 = 0 := fun k hk => getD_above vL (Uj vL (m := n) (by rw [vv]; exact hVn)).1 k hk
  obtain ⟨vt, hvt⟩ : ∃ vt, vt = vs.take n := ⟨_, rfl⟩
  have vtl : vt.length = n := by rw [hvt, List.length_take]; omega
  have vtL : Limbs vt := by rw [hvt]; exact vL.take n
  have vtv : val vt = V := by rw [hvt, (Uj vL (m := n) (by rw [vv]; exact hVn)).2, vv]
  have vtg : ∀ k, k < n → vt.getD k 0 = vs.getD k 0 := fun k hk => by
    rw [hvt, List.getD_eq_getElem?_getD, List.getD_eq_getElem?_getD, List.getElem?_take_of_lt hk]
  have hUla : U < Bs ^ (la + 1) := by
    have h2s : (2 : Int) ^ sh ≤ Bs := by
      have a := Ug (s := sh) (by omega)
      have := Int.mul_le_mul_of_nonneg_left (show (1 : Int) ≤ 2 ^ (64 - sh) by have := Zb (64 - sh); omega) (Int.le_of_lt (Zb sh))
      omega
    rw [hU, Int.pow_succ]
    have a := Int.mul_lt_mul_of_pos_right hXb.2 (Zb sh)
    have b := Int.mul_le_mul_of_nonneg_left h2s (Int.le_of_lt (Xn la))
    omega
  -- room behind
  refine Jh (fun K3 hK3 => ?_)
  refine Yn (fun fr' H1 => fr' 0 = s ∧ fr' 6 = .int .i64 (n : Int) ∧ fr' 10 = .int .i64 (sh : Int) ∧ fr' 11 = .sl hv 0 n (n + 1) ∧ fr' 12 = .sl hu 0 (la + 1) (la + 1) ∧ X3 H1 hv = some (Ub vs) ∧ X3 H1 hu = some (Ub us0) ∧ Ext (H ++ [Ub vs] ++ [Ub us0]) H1) ?_ (fun fr' H1 h => hK3 _ _ ?_)
  · clear hK3
    have hlow : la ≤ tl us0 (la + 1) := by
      rcases Nat.lt_or_ge (tl us0 (la + 1)) la with e | e
      · exfalso
        have hz : us0.getD la 0 = 0 := by
          rcases Int.lt_or_le 0 (us0.getD la 0) with g | g
          · rw [tl_nz (by omega)] at e; omega
          · have := (uL0.get la).1; omega
        have hz2 : us0.getD (la - 1) 0 = 0 := by
          rw [tl_z hz] at e
          rcases Int.lt_or_le 0 (us0.getD (la - 1) 0) with g | g
          · have e3 := tl_nz (xs := us0) (m := la - 1) (by omega)
            rw [show la - 1 + 1 = la by omega] at e3
            omega
          · have := (uL0.get (la - 1)).1; omega
        have h5 := val_above uL0 (m := la - 1) (fun k hk => by
          by_cases e1 : k = la - 1
          · rw [e1]; exact hz2
          · by_cases e2 : k = la
            · rw [e2]; exact hz
            · exact K0 (by omega))
        have h6 := cx.low (by omega)
        rw [← hla] at h6
        have h7 := Int.mul_le_mul_of_nonneg_left (show (1 : Int) ≤ 2 ^ sh by have := Zb sh; omega) hXb.1
        rw [uv0, hU] at h5
        omega
      · exact e
    have hle := Wo us0 (la + 1)
    have a2 : IntKind.i64.wrap ((la : Int) + 1) = ((la + 1 : Nat) : Int) := by rw [Qe (by omega) (by omega)]; omega
    refine Jx ?_
    refine Xi (fun m fr' H1 => ∃ k, m = la + 1 - k ∧ la ≤ k ∧ k ≤ la + 1 ∧ (k = la → us0.getD la 0 = 0) ∧ fr' 0 = s ∧ fr' 6 = .int .i64 (n : Int) ∧ fr' 10 = .int .i64 (sh : Int) ∧ fr' 11 = .sl hv 0 n (n + 1) ∧ fr' 12 = .sl hu 0 k (la + 1) ∧ X3 H1 hv = some (Ub vs) ∧ X3 H1 hu = some (Ub us0) ∧ Ext (H ++ [Ub vs] ++ [Ub us0]) H1) (m := la + 1 - tl us0 (la + 1))
      ⟨tl us0 (la + 1), rfl, hlow, hle, fun e => by
        rcases Int.lt_or_le 0 (us0.getD la 0) with g | g
        · rw [tl_nz (by omega)] at e; omega
        · have := (uL0.get la).1; omega, k0, k6, k10, k11, k12, by rw [Qw (by simp; omega)]; exact X7 hhv, X7 (by simp; omega), Ext.refl _⟩ ?_
    clear k0 k6 k10 k11 k12
    rintro m fr' H1 ⟨k, rfl, hk1, hk2, hkz, k0, k6, k10, k11, k12, g1, g2, x1⟩
    by_cases hk : k < la + 1
    · obtain rfl : k = la := by omega
      have hap := append_room (H := H1 ++ [Ub [0]]) (h := hu) (k := k) (us := us0) (x := .sl H1.length 0 1 1) (Qy g2 (Ext.push _ _)) (by omega) (hkz rfl) (Ints.lit H1 (by decide) rfl)
      rw [ul0] at hap
      simp only [Ub, List.map_cons, List.map_nil] at hap
      repeat' first
        | (with_reducible first | refine Jh (fun K hK => ?_) | refine Jx ?_ | refine Q4 ?_ | refine Jg ?_ | refine Jr ?_)
        | (with_reducible refine X4 (fun hc => ?_) (fun hc => ?_) <;> (try simp only [RC] at hc) <;> (try (exfalso; first | omega | contradiction)))
        | (simp only [Qb, Jo, reduceIte, J0])
        | ((with_reducible refine hK _ _ ?_); clear hK)
        | (simp only [Q9, RA, Jn, Jm, Jp, Q8, Q6, ev, ofValue, Ju, J0, J3, J2, J4, reduceCtorEq, reduceIte, Jv, Qm, Qk, Q0, aun, Qj, Jk, Ji, Jz, Jy, Jj, Qi, Jf, Q7, Q2, Js, J1, J5, Ja, J9, Jb, J6, J7, Jd, J8, RB, Jw, Je, Zv, l1, k0, k6, k10, k11, k12, a2, hap])
      all_goals exact ⟨0, by omega, k + 1, by omega, by omega, by omega, by omega, rfl, by first | exact Qy g1 (Ext.push _ _) | (rw [if_neg (by have := X6 g1; omega)]; exact g1), by first | exact Qy g2 (Ext.push _ _) | (rw [if_neg (by have := X6 g2; omega)]; exact g2), x1.pushed _⟩
    · obtain rfl : k = la + 1 := by omega
      repeat' first
        | (with_reducible first | refine Jh (fun K hK => ?_) | refine Qc ?_ | refine Jg ?_ | refine Jr ?_)
        | (with_reducible refine Jc ?_ ?_)
        | (with_reducible refine X4 (fun hc => ?_) (fun hc => ?_) <;> (try simp only [RC] at hc) <;> (try (exfalso; first | omega | contradiction)))
        | (simp only [Qb, Jo, reduceIte, J0])
        | ((with_reducible refine hK _ _ ?_); clear hK)
        | (simp only [Q9, RA, Jn, Jm, Jp, Q8, Q6, ev, ofValue, Ju, J0, J3, J2, J4, reduceCtorEq, reduceIte, Jv, Qm, Qk, Q0, aun, Qj, Jk, Ji, Jz, Jy, Jj, Qi, Jf, Q7, Q2, Js, J1, J5, Ja, J9, Jb, J6, J7, Jd, J8, RB, Jw, Je, Zv, l1, k0, k6, k10, k11, k12, a2])
      all_goals first | exact g1 | exact g2 | exact x1 | exact ⟨g1, g2, x1⟩ | exact ⟨g2, x1⟩
  clear hK3 k0 k6 k10 k11 k12
  obtain ⟨k0, k6, k10, k11, k12, g1, g2, x1⟩ := h
  obtain ⟨nq, hnq⟩ : ∃ nq, nq = la - n + 1 := ⟨_, rfl⟩
  have a1 : IntKind.i64.wrap ((la : Int) - (n : Int)) = ((la - n : Nat) : Int) := by rw [Qe (by omega) (by omega)]; omega
  have a2 : IntKind.i64.wrap (((la - n : Nat) : Int) + 1) = (nq : Int) := by rw [Qe (by omega) (by omega)]; omega
  have hmk := fun H0 => J0b H0 nq .i64 (by omega)
  obtain ⟨hq, hhq⟩ : ∃ hq, hq = H1.length := ⟨_, rfl⟩
  have lx1 := x1.len
  simp only [List.length_append, List.length_cons, List.length_nil] at lx1
  have xH : Ext H H1 := ((Ext.push _ _).pushed _).trans x1
  repeat' first
    | (with_reducible first | refine Jh (fun K hK => ?_) | refine Jx ?_ | refine Jg ?_)
    | (simp only [Qb, Jo, reduceIte, J0])
    | ((with_reducible refine hK _ _ ?_); clear hK)
    | (simp only [Q9, RA, Jn, Jm, Jp, Q8, Q6, ev, ofValue, Ju, J0, J3, J2, J4, reduceCtorEq, reduceIte, Jv, Qm, Qk, Q0, aun, Qj, Jk, Ji, Jz, Jy, Jj, Qi, Jf, Q7, Q2, Js, J1, J5, Ja, J9, Jb, J6, J7, Jd, J8, RB, Jw, Je, Zv, l1, k0, k6, k10, k11, k12, a1, a2, hmk, ← hhq])
  have D0 : LInv U V n la (la - n + 1) us0 (List.replicate (la - n + 1) 0) := by
    rw [hU, hV]
    exact LInv.start (by omega) hnl hXb.2 hYlow ul0 uL0 (by rw [uv0, hU])
  rw [← hnq] at D0
  refine Xi (fun m fr' H2 => ∃ us qs, m ≤ nq ∧ fr' 6 = .int .i64 (n : Int) ∧ fr' 10 = .int .i64 (sh : Int) ∧ fr' 11 = .sl hv 0 n (n + 1) ∧ fr' 12 = .sl hu 0 (la + 1) (la + 1) ∧ fr' 13 = .sl hq 0 nq nq ∧ fr' 14 = .int .i64 ((m : Int) - 1) ∧ X3 H2 hv = some (Ub vs) ∧ X3 H2 hu = some (Ub us) ∧ X3 H2 hq = some (Ub qs) ∧ Ext H H2 ∧ LInv U V n la m us qs) (m := nq)
    ⟨us0, List.replicate nq 0, Nat.le_refl _, k6, k10, k11, k12, rfl, by show AV.int _ _ = AV.int _ _; congr 1; omega, Qy g1 (Ext.push _ _), Qy g2 (Ext.push _ _), X7 hhq, xH.pushed _, D0⟩ ?_
  clear k0 k6 k10 k11 k12 g1 g2
  rintro m fr' H2 ⟨us, qs, hm, k6, k10, k11, k12, k13, k14, g1, g2, g3, x2, L⟩
  have hul := L.ul
  have hql := L.ql
  rw [← hnq] at hql
  cases m with
  | zero =>
    have k14' : fr' 14 = .int .i64 (-1) := k14
    obtain ⟨e1, e2⟩ : val qs = val xs / val ys ∧ val us = val xs % val ys * 2 ^ sh := by
      have L' := L
      rw [hU, hV] at L'
      exact L'.done hY0
    have hrV : val us < V := by have := L.lt; rw [Int.pow_zero, Int.mul_one] at this; exact this
    have hcut := cut_u64 hu (la + 1) n (la + 1) (by omega)
    have htq := fun H0 (x0 : Ext H2 H0) => trim_calls hq nq nq qs H0 (Qy g3 x0) (by omega) (Nat.le_refl _) (by omega)
    have htu := fun H0 (x0 : Ext H2 H0) => trim_calls hu n (la + 1) us H0 (Qy g2 x0) (by omega) (by omega) (by omega)
    repeat' first
      | (with_reducible first | refine Jh (fun K hK => ?_) | refine Qc ?_ | refine Jg ?_ | refine Q1 (id := 40) [] pn149_40RfX (by kernel_rfl) (by kernel_rfl) ?_ | refine Jr ?_)
      | ((with_reducible refine Q5 (htq _ (Ext.refl _)) ?_); rintro _ _ ⟨rfl, rfl⟩)
      | ((with_reducible refine Q5 (htu _ (Ext.refl _)) ?_); rintro _ _ ⟨rfl, rfl⟩)
      | (simp only [Qb, Jo, reduceIte, J0])
      | ((with_reducible refine hK _ _ ?_); clear hK)
      | (clear hK; (with_reducible refine hK _ _ ?_); clear hK)
      | (simp only [Q9, RA, Jn, Jm, Jp, Q8, Q6, ev, ofValue, Ju, J0, J3, J2, J4, reduceCtorEq, reduceIte, Jv, Qm, Qk, Q0, aun, Qj, Jk, Ji, Jz, Jy, Jj, Qi, Jf, Q7, Q2, Js, J1, J5, Ja, J9, Jb, J6, J7, Jd, J8, RB, Jw, Je, Zv, k6, k10, k11, k12, k13, k14', hcut])
    have htun := Wo us n
    have hfr := Uv.front (k := tl us n) (c := la + 1) g2 (by omega) (by omega)
    refine Q5 (Rright_calls (.sl hu 0 (tl us n) (la + 1)) (us.take (tl us n)) sh H2 hfr.rd (L.uL.take _) (by rw [List.length_take]; omega) hs64) ?_
    rintro v H4 ⟨zs, Z, CZ, vz, x4⟩
    repeat' first
      | (with_reducible first | refine Qd ?_)
      | (simp only [Qb, Jo, reduceIte, J0])
      | ((with_reducible refine hK _ _ ?_); clear hK)
      | (simp only [Q9, RA, Jn, Jm, Jp, Q8, Q6, ev, ofValue, Ju, J0, J3, J2, J4, reduceCtorEq, reduceIte, Jv, Qm, Qk, Q0, aun, Qj, Jk, Ji, Jz, Jy, Jj, Qi, Jf, Q7, Q2, Js, J1, J5, Ja, J9, Jb, J6, J7, Jd, J8, RB, Jw, Je, Zv, k6, k10, k11, k12, k13])
    all_goals
      (
       (refine Qg (rs := [.tmp 4, .tmp 5]) rfl ?_)
       (simp only [X5, Qf, Fr.put_some, Fr.put_none, Qp, Qq, Qt, J0, reduceIte])
       (try simp (disch := (first | omega | (simp only [RO]; done) | assumption | (simp only [RM, Je]; done) | (simp only [RL, Je]; omega))) only [RD, reduceCtorEq, reduceIte, Je, J1, J3, J2, J6, Zv]))
    have hun : val (us.take n) = val us := (Uj L.uL (m := n) (by omega)).2
    rw [J1s us n (by omega), hun, e2, Int.mul_ediv_cancel _ (by have := Zb sh; omega)] at vz
    have hqt : qs.take nq = qs := List.take_of_length_le (by omega)
    all_goals exact ⟨_, v, qs.take (tl qs nq), zs, rfl, (Uv.front g3 (by have := Wo qs nq; omega) (Wo qs nq)).ext x4, tl_can L.qL nq (by omega) (by omega), by rw [J1s qs nq (by omega), hqt]; exact e1, Z, CZ, vz, x2.trans x4⟩
  | succ i =>
    have k14' : fr' 14 = .int .i64 (i : Int) := by rw [k14]; congr 1; omega
    clear k14
    have hin : i + n ≤ la := by omega
    obtain ⟨q1, q2, q3, q4, q5, q6, q7, q8, q9⟩ := L.window hin hV0 hVn
    obtain ⟨w, hw⟩ : ∃ w, w = (us.drop i).take (n + 1) := ⟨_, rfl⟩
    obtain ⟨WW, hWW⟩ : ∃ WW, WW = val (us.drop i) := ⟨_, rfl⟩
    obtain ⟨low, hlo⟩ : ∃ low, low = val (us.take i) := ⟨_, rfl⟩
    rw [← hw] at q1 q2 q3 q4
    rw [← hWW] at q3 q6 q8 q9
    rw [← hlo] at q6 q7
    obtain ⟨p, hp⟩ : ∃ p, n = p + 2 := ⟨n - 2, by omega⟩
    have hgw : ∀ j, j ≤ n → us.getD (i + j) 0 = w.getD j 0 := by
      intro j hj
      rw [hw, List.getD_eq_getElem?_getD, List.getD_eq_getElem?_getD, List.getElem?_take_of_lt (by omega), List.getElem?_drop]
    have hvtop : 0 < vt.getD (p + 1) 0 := by
      have a := vtL.get (p + 1)
      rcases Int.lt_or_le 0 (vt.getD (p + 1) 0) with g | g
      · exact g
      · exfalso
        have h3 := val_above vtL (m := p + 1) (fun k hk => by
          by_cases e2 : k = p + 1
          · rw [e2]; omega
          · exact K0 (by omega))
        have h4 := Int.mul_le_mul_of_nonneg_left (show (1 : Int) ≤ 2 ^ sh by have := Zb sh; omega) (Int.le_of_lt hY0)
        have h5 : Bs ^ (p + 1) = Bs ^ (n - 1) := by congr 1; omega
        omega
    have i1 : IntKind.i64.wrap ((i : Int) + (n : Int)) = ((i + n : Nat) : Int) := by rw [Qe (by omega) (by omega)]; omega
    have i2 : IntKind.i64.wrap (((i + n : Nat) : Int) - 1) = ((i + (n - 1) : Nat) : Int) := by rw [Qe (by omega) (by omega)]; omega
    have i3 : IntKind.i64.wrap (((i + n : Nat) : Int) - 2) = ((i + (n - 2) : Nat) : Int) := by rw [Qe (by omega) (by omega)]; omega
    have i4 : IntKind.i64.wrap ((i : Int) - 1) = (i : Int) - 1 := Qe (by omega) (by omega)
    have a1 := Vp g2 (i := i + n) (by omega)
    have a2 := Vp g2 (i := i + (n - 1)) (by omega)
    have a3 := Vp g2 (i := i + (n - 2)) (by omega)
    have a4 := Vp g1 (i := n - 1) (by omega)
    have a5 := Vp g1 (i := n - 2) (by omega)
    rw [hgw n (Nat.le_refl _), show w.getD n 0 = w.getD (p + 2) 0 by rw [hp]] at a1
    rw [hgw (n - 1) (by omega), show w.getD (n - 1) 0 = w.getD (p + 1) 0 by rw [hp]; rfl] at a2
    rw [hgw (n - 2) (by omega), show w.getD (n - 2) 0 = w.getD p 0 by rw [hp]; rfl] at a3
    rw [← vtg (n - 1) (by omega), show vt.getD (n - 1) 0 = vt.getD (p + 1) 0 by rw [hp]; rfl] at a4
    rw [← vtg (n - 2) (by omega), show vt.getD (n - 2) 0 = vt.getD p 0 by rw [hp]; rfl] at a5
    refine Jh (fun K hQ => ?_)
    repeat' first
      | (with_reducible first | refine Jh (fun K hK => ?_) | refine Q4 ?_ | refine Jg ?_ | refine Jr ?_)
      | (with_reducible refine X4 (fun hc => ?_) (fun hc => ?_) <;> (try simp only [RC] at hc) <;> (try (exfalso; first | omega | contradiction)))
      | (simp only [Qb, Jo, reduceIte, J0])
      | ((with_reducible refine hK _ _ ?_); clear hK)
      | (simp only [Q9, RA, Jn, Jm, Jp, Q8, Q6, ev, ofValue, Ju, J0, J3, J2, J4, reduceCtorEq, reduceIte, Jv, Qm, Qk, Q0, aun, Qj, Jk, Ji, Jz, Jy, Jj, Qi, Jf, Q7, Q2, Js, J1, J5, Ja, J9, Jb, J6, J7, Jd, J8, RB, Jw, Je, Zv, k6, k10, k11, k12, k13, k14'])
    refine hQ _ _ ?_
    clear hQ
    refine Jh (fun K5 hK5 => ?_)
    refine Jx ?_
    refine Jh (fun Ka hKa => ?_)
    refine Yn (fun fr' H3 => ∃ tq, fr' 6 = .int .i64 (n : Int) ∧ fr' 10 = .int .i64 (sh : Int) ∧ fr' 11 = .sl hv 0 n (n + 1) ∧ fr' 12 = .sl hu 0 (la + 1) (la + 1) ∧ fr' 13 = .sl hq 0 nq nq ∧ fr' 14 = .int .i64 (i : Int) ∧ fr' 15 = .int .u64 tq ∧ (0 ≤ tq ∧ tq < Bs) ∧ WW / V ≤ tq ∧ H2 = H3) ?_ (fun fr' H3 h => hKa _ _ ?_)
    · clear hKa
      repeat' first
        | (with_reducible first | refine Q1 (id := 20) [] pn149_20RfX (by kernel_rfl) (by kernel_rfl) ?_)
        | (simp only [Q9, RA, Jn, Jm, Jp, Q8, Q6, ev, ofValue, Ju, J0, J3, J2, J4, reduceCtorEq, reduceIte, Jv, Qm, Qk, Q0, aun, Qj, Jk, Ji, Jz, Jy, Jj, Qi, Jf, Q7, Q2, Js, J1, J5, Ja, J9, Jb, J6, J7, Jd, J8, RB, Jw, Je, Zv, k6, k10, k11, k12, k13, k14', w1, w2, i1, i2, i3, a1, a2, a3, a4, a5])
        | (simp (disch := first | omega | (simp only [RO]; done) | assumption) only [RS, Xa, Xb, X9])
      all_goals
        refine Q5 (Rguess_calls (w.getD (p + 2) 0) (w.getD (p + 1) 0) (w.getD p 0) (vt.getD (p + 1) 0) (vt.getD p 0) H2 (q2.get _) (q2.get _) (q2.get _) ⟨hvtop, (vtL.get _).2⟩ (vtL.get _)) ?_
        rintro _ _ ⟨tq, rfl, htq, hge, rfl⟩
        have hgl := guess_low q2 vtL (m := p) (by omega) (by omega) (by rw [vtv]; exact q4) hvtop hge
        rw [q3, vtv] at hgl
        repeat' first
          | (simp only [Qb, Jo, reduceIte, J0])
          | (simp only [Q9, RA, Jn, Jm, Jp, Q8, Q6, ev, ofValue, Ju, J0, J3, J2, J4, reduceCtorEq, reduceIte, Jv, Qm, Qk, Q0, aun, Qj, Jk, Ji, Jz, Jy, Jj, Qi, Jf, Q7, Q2, Js, J1, J5, Ja, J9, Jb, J6, J7, Jd, J8, RB, Jw, Je, Zv, k6, k10, k11, k12, k13, k14'])
      all_goals first | exact ⟨tq, rfl, htq, hgl, rfl⟩ | exact ⟨tq, rfl, htq, hgl⟩
    clear hKa k6 k10 k11 k12 k13 k14' a1 a2 a3 a4 a5
    obtain ⟨tq, k6, k10, k11, k12, k13, k14, k15, htq, hge, rfl⟩ := h
    have hVt : val vs = val (vs.take n) := by rw [← hvt, vtv, vv]
    have hpw := Xn i
    refine Jh (fun K hQ => ?_)
    repeat' first
      | (with_reducible first | refine Jg ?_)
      | (simp only [Qb, Jo, reduceIte, J0])
      | (simp only [Q9, RA, Jn, Jm, Jp, Q8, Q6, ev, ofValue, Ju, J0, J3, J2, J4, reduceCtorEq, reduceIte, Jv, Qm, Qk, Q0, aun, Qj, Jk, Ji, Jz, Jy, Jj, Qi, Jf, Q7, Q2, Js, J1, J5, Ja, J9, Jb, J6, J7, Jd, J8, RB, Jw, Je, Zv, k6, k10, k11, k12, k13, k14, k15])
    refine hQ _ _ ?_
    clear hQ
    refine Jh (fun Kb hKb => ?_)
    refine Yn (fun fr' H3 => ∃ us1 cr bo, fr' 6 = .int .i64 (n : Int) ∧ fr' 10 = .int .i64 (sh : Int) ∧ fr' 11 = .sl hv 0 n (n + 1) ∧ fr' 12 = .sl hu 0 (la + 1) (la + 1) ∧ fr' 13 = .sl hq 0 nq nq ∧ fr' 14 = .int .i64 (i : Int) ∧ fr' 15 = .int .u64 tq ∧ fr' 16 = .int .u64 cr ∧ fr' 17 = .int .u64 bo ∧ X3 H3 hv = some (Ub vs) ∧ X3 H3 hu = some (Ub us1) ∧ X3 H3 hq = some (Ub qs) ∧ Ext H H3 ∧ us1.length = la + 1 ∧ Limbs us1 ∧ (∀ k, i + n ≤ k → us1.getD k 0 = us.getD k 0) ∧ (0 ≤ cr ∧ cr < Bs) ∧ (0 ≤ bo ∧ bo ≤ 1) ∧ val us1 + tq * (Bs ^ i * V) = val us + Bs ^ (i + n) * (bo + cr)) ?_ (fun fr' H3 h => hKb _ _ ?_)
    · clear hKb
      repeat' first
        | (with_reducible first | refine Jh (fun K hK => ?_) | refine Jx ?_ | refine Jg ?_)
        | (simp only [Qb, Jo, reduceIte, J0])
        | ((with_reducible refine hK _ _ ?_); clear hK)
        | (simp only [Q9, RA, Jn, Jm, Jp, Q8, Q6, ev, ofValue, Ju, J0, J3, J2, J4, reduceCtorEq, reduceIte, Jv, Qm, Qk, Q0, aun, Qj, Jk, Ji, Jz, Jy, Jj, Qi, Jf, Q7, Q2, Js, J1, J5, Ja, J9, Jb, J6, J7, Jd, J8, RB, Jw, Je, Zv, k6, k10, k11, k12, k13, k14, k15])
      refine Xi (fun m fr' H3 => ∃ (j : Nat) (us1 : List Int) (cr bo : Int), m = n - j ∧ j ≤ n ∧ fr' 6 = .int .i64 (n : Int) ∧ fr' 10 = .int .i64 (sh : Int) ∧ fr' 11 = .sl hv 0 n (n + 1) ∧ fr' 12 = .sl hu 0 (la + 1) (la + 1) ∧ fr' 13 = .sl hq 0 nq nq ∧ fr' 14 = .int .i64 (i : Int) ∧ fr' 15 = .int .u64 tq ∧ fr' 16 = .int .u64 cr ∧ fr' 17 = .int .u64 bo ∧ fr' 18 = .int .i64 (j : Int) ∧ X3 H3 hv = some (Ub vs) ∧ X3 H3 hu = some (Ub us1) ∧ X3 H3 hq = some (Ub qs) ∧ Ext H H3 ∧ us1.length = la + 1 ∧ Limbs us1 ∧ (∀ k, i + j ≤ k → us1.getD k 0 = us.getD k 0) ∧ (0 ≤ cr ∧ cr < Bs) ∧ (0 ≤ bo ∧ bo ≤ 1) ∧ val us1 + tq * (Bs ^ i * val (vs.take j)) = val us + Bs ^ (i + j) * (bo + cr)) (m := n)
        ⟨0, us, 0, 0, by omega, by omega, k6, k10, k11, k12, k13, k14, k15, rfl, rfl, rfl, g1, g2, g3, x2, hul, L.uL, fun _ _ => rfl, ⟨by omega, by decide⟩, ⟨by omega, by omega⟩, by simp [val]⟩ ?_
      clear k6 k10 k11 k12 k13 k14 k15
      rintro m fr' H3 ⟨j, us1, cr, bo, rfl, hj, k6, k10, k11, k12, k13, k14, k15, k16, k17, k18, y1, y2, y3, xx, ul1, uL1, ug1, hcr, hbo, hv1⟩
      by_cases hjn : j < n
      · have e1 : IntKind.i64.wrap ((j : Int) + 1) = ((j + 1 : Nat) : Int) := by rw [Qe (by omega) (by omega)]; omega
        have e2 : IntKind.i64.wrap ((i : Int) + (j : Int)) = ((i + j : Nat) : Int) := by rw [Qe (by omega) (by omega)]; omega
        have hxv := vL.get j
        have huv := uL1.get (i + j)
        obtain ⟨s1, s2, s3, s4⟩ := take_step htq hxv hcr huv hbo
        have b1 := Vp y1 (i := j) (by omega)
        have b2 := Vp y2 (i := i + j) (by omega)
        have hM := mul64_calls tq (vs.getD j 0) H3 htq hxv
        have hp0 : 0 ≤ tq * vs.getD j 0 % Bs := Int.emod_nonneg _ (by decide)
        have hp1 : 0 ≤ (tq * vs.getD j 0 % Bs + cr + 0) % Bs ∧ (tq * vs.getD j 0 % Bs + cr + 0) % Bs < Bs := ⟨Int.emod_nonneg _ (by decide), Int.emod_lt_of_pos _ (by decide)⟩
        have hzo : (0 : Int) ≤ 0 ∧ (0 : Int) ≤ 1 := ⟨by omega, by omega⟩
        have hwr := Y0 s3 s4
        obtain ⟨z, hz⟩ : ∃ z, z = (us1.getD (i + j) 0 - (tq * vs.getD j 0 % Bs + cr + 0) % Bs - bo) % Bs := ⟨_, rfl⟩
        have hzb : 0 ≤ z ∧ z < Bs := by rw [hz]; exact ⟨Int.emod_nonneg _ (by decide), Int.emod_lt_of_pos _ (by decide)⟩
        have st := Vh y2 (i := i + j) (by omega) z
        have ly := X6 y2
        have hsetg := Qv ly (Ub (us1.set (i + j) z))
        repeat' first
          | (with_reducible first | refine Jh (fun K hK => ?_) | refine Jx ?_ | refine Q4 ?_ | refine Jg ?_ | refine Jr ?_)
          | ((with_reducible refine Q5 (hM) ?_); rintro _ _ ⟨rfl, rfl⟩)
          | ((with_reducible refine Z3 (Gn _ _ _ _ hp0 hcr.1 hzo) ?_); rintro _ _ ⟨rfl, rfl⟩)
          | ((with_reducible refine Z3 (sub64 _ _ _ _ huv.1 hp1 hbo) ?_); rintro _ _ ⟨rfl, rfl⟩)
          | (with_reducible refine X4 (fun hc => ?_) (fun hc => ?_) <;> (try simp only [RC] at hc) <;> (try (exfalso; first | omega | contradiction)))
          | (simp only [Qb, Jo, reduceIte, J0])
          | ((with_reducible refine hK _ _ ?_); clear hK)
          | (simp only [Q9, RA, Jn, Jm, Jp, Q8, Q6, ev, ofValue, Ju, J0, J3, J2, J4, reduceCtorEq, reduceIte, Jv, Qm, Qk, Q0, aun, Qj, Jk, Ji, Jz, Jy, Jj, Qi, Jf, Q7, Q2, Js, J1, J5, Ja, J9, Jb, J6, J7, Jd, J8, RB, Jw, Je, Zv, k6, k10, k11, k12, k13, k14, k15, k16, k17, k18, e1, e2, b1, b2, hwr, ← hz, st])
          | (simp (disch := first | omega | (simp only [RO]; done) | assumption) only [RS, Xa, Xb, X9])
        all_goals
          refine ⟨_, by omega, j + 1, us1.set (i + j) z, _, _, rfl, by omega, rfl, rfl, rfl, by rw [hsetg, if_neg (by omega)]; exact y1, by rw [hsetg, if_pos rfl], by rw [hsetg, if_neg (by omega)]; exact y3, xx.set (by omega) _, by rw [List.length_set]; exact ul1, uL1.set _ hzb, fun k hk => ?_, ⟨s3, s4⟩, by split <;> omega, ?_⟩
          · rw [Xs _ _ (by omega), if_neg (by omega)]; exact ug1 k (by omega)
          · rw [← hz] at s2
            have tv := take_val s2 hv1
            rw [Vt _ (by omega), Xk vs (by omega)]
            have e9 : Bs ^ (i + j) = Bs ^ i * Bs ^ j := Int.pow_add ..
            have e8 : Bs ^ (i + (j + 1)) = Bs ^ (i + j) * Bs := by rw [← Nat.add_assoc, Int.pow_succ]
            rw [e8, ← tv]
            rw [e9]
            generalize Bs ^ i = P at *
            generalize Bs ^ j = Q at *
            grind
      · obtain rfl : j = n := by omega
        have hVt' : val (vs.take j) = V := by rw [← hvt, vtv]
        rw [hVt'] at hv1
        repeat' first
          | (with_reducible first | refine Jh (fun K hK => ?_) | refine Qc ?_ | refine Jg ?_ | refine Jr ?_)
          | (with_reducible refine X4 (fun hc => ?_) (fun hc => ?_) <;> (try simp only [RC] at hc) <;> (try (exfalso; first | omega | contradiction)))
          | (simp only [Qb, Jo, reduceIte, J0])
          | ((with_reducible refine hK _ _ ?_); clear hK)
          | (simp only [Q9, RA, Jn, Jm, Jp, Q8, Q6, ev, ofValue, Ju, J0, J3, J2, J4, reduceCtorEq, reduceIte, Jv, Qm, Qk, Q0, aun, Qj, Jk, Ji, Jz, Jy, Jj, Qi, Jf, Q7, Q2, Js, J1, J5, Ja, J9, Jb, J6, J7, Jd, J8, RB, Jw, Je, Zv, k6, k10, k11, k12, k13, k14, k15, k16, k17, k18])
        all_goals first | exact ⟨us1, cr, bo, rfl, rfl, y1, y2, y3, xx, ul1, uL1, ug1, hcr, hbo, hv1⟩ | exact ⟨us1, y1, y2, y3, xx, ul1, uL1, ug1, hcr, hbo, hv1⟩
    clear hKb k6 k10 k11 k12 k13 k14 k15
    obtain ⟨us1, cr, bo, k6, k10, k11, k12, k13, k14, k15, k16, k17, y1, y2, y3, xx, ul1, uL1, ug1, hcr, hbo, hv1⟩ := h
    have huv := uL1.get (i + n)
    have hss := sub_step huv hcr hbo
    obtain ⟨z, hz⟩ : ∃ z, z = (us1.getD (i + n) 0 - cr - bo) % Bs := ⟨_, rfl⟩
    obtain ⟨b0, hb0⟩ : ∃ b0 : Int, b0 = if us1.getD (i + n) 0 < cr + bo then 1 else 0 := ⟨_, rfl⟩
    have hzb : 0 ≤ z ∧ z < Bs := by rw [hz]; exact ⟨Int.emod_nonneg _ (by decide), Int.emod_lt_of_pos _ (by decide)⟩
    have hbb : 0 ≤ b0 ∧ b0 ≤ 1 := by rw [hb0]; split <;> omega
    rw [← hz, ← hb0] at hss
    have tl1 := take_last hss hv1
    have b2 := Vp y2 (i := i + n) (by omega)
    have st := Vh y2 (i := i + n) (by omega) z
    have ly := X6 y2
    have hsetg := Qv ly (Ub (us1.set (i + n) z))
    refine Jh (fun K hQ => ?_)
    repeat' first
      | (with_reducible first | refine Jg ?_)
      | ((with_reducible refine Z3 (sub64 _ _ _ _ huv.1 hcr hbo) ?_); rintro _ _ ⟨rfl, rfl⟩)
      | (simp only [Qb, Jo, reduceIte, J0])
      | (simp only [Q9, RA, Jn, Jm, Jp, Q8, Q6, ev, ofValue, Ju, J0, J3, J2, J4, reduceCtorEq, reduceIte, Jv, Qm, Qk, Q0, aun, Qj, Jk, Ji, Jz, Jy, Jj, Qi, Jf, Q7, Q2, Js, J1, J5, Ja, J9, Jb, J6, J7, Jd, J8, RB, Jw, Je, Zv, k6, k10, k11, k12, k13, k14, k15, k16, k17, i1, b2, ← hz, ← hb0, st])
      | (simp (disch := first | omega | (simp only [RO]; done) | assumption) only [RS, Xa, Xb, X9])
    refine hQ _ _ ?_
    clear hQ
    refine Jh (fun Kc hKc => ?_)
    refine Yn (fun fr' H4 => ∃ us3 : List Int, fr' 6 = .int .i64 (n : Int) ∧ fr' 10 = .int .i64 (sh : Int) ∧ fr' 11 = .sl hv 0 n (n + 1) ∧ fr' 12 = .sl hu 0 (la + 1) (la + 1) ∧ fr' 13 = .sl hq 0 nq nq ∧ fr' 14 = .int .i64 (i : Int) ∧ fr' 15 = .int .u64 (WW / V) ∧ X3 H4 hv = some (Ub vs) ∧ X3 H4 hu = some (Ub us3) ∧ X3 H4 hq = some (Ub qs) ∧ Ext H H4 ∧ us3.length = la + 1 ∧ Limbs us3 ∧ val us3 = low + Bs ^ i * (WW % V)) ?_ (fun fr' H4 h => hKc _ _ ?_)
    · clear hKc
      refine Jx ?_
      refine Xi (fun m fr' H4 => ∃ (tt bb : Int) (us3 : List Int), m = tt.toNat ∧ (0 ≤ tt ∧ tt < Bs) ∧ WW / V ≤ tt ∧ (bb = 0 ∨ bb = 1) ∧ fr' 6 = .int .i64 (n : Int) ∧ fr' 10 = .int .i64 (sh : Int) ∧ fr' 11 = .sl hv 0 n (n + 1) ∧ fr' 12 = .sl hu 0 (la + 1) (la + 1) ∧ fr' 13 = .sl hq 0 nq nq ∧ fr' 14 = .int .i64 (i : Int) ∧ fr' 15 = .int .u64 tt ∧ fr' 17 = .int .u64 bb ∧ X3 H4 hv = some (Ub vs) ∧ X3 H4 hu = some (Ub us3) ∧ X3 H4 hq = some (Ub qs) ∧ Ext H H4 ∧ us3.length = la + 1 ∧ Limbs us3 ∧ (∀ k, i + n + 1 ≤ k → us3.getD k 0 = 0) ∧ val us3 + tt * (Bs ^ i * V) = val us + Bs ^ (i + n) * Bs * bb) (m := tq.toNat)
        ⟨tq, b0, us1.set (i + n) z, rfl, htq, hge, by omega, k6, k10, k11, k12, k13, k14, k15, rfl, by rw [hsetg, if_neg (by omega)]; exact y1, by rw [hsetg, if_pos rfl], by rw [hsetg, if_neg (by omega)]; exact y3, xx.set (by omega) _, by rw [List.length_set]; exact ul1, uL1.set _ hzb, fun k hk => by
          rw [Xs _ _ (by omega), if_neg (by omega), ug1 k (by omega)]; exact q5 k (by omega), by rw [Vt _ (by omega)]; exact tl1⟩ ?_
      clear k6 k10 k11 k12 k13 k14 k15 k16 k17 hsetg st ly b2 tl1 hss y1 y2 y3
      rintro m fr' H4 ⟨tt, bb, us3, rfl, htt, hgt, hbb3, k6, k10, k11, k12, k13, k14, k15, k17, y1, y2, y3, xx, ul3, uL3, ug3, hv3⟩
      rcases hbb3 with rfl | rfl
      · rw [Int.mul_zero, Int.add_zero] at hv3
        obtain ⟨d1, d2⟩ := ld_done hpw hV0 q6 q7 (Xh uL3).1 hv3 hgt
        repeat' first
          | (with_reducible first | refine Jh (fun K hK => ?_) | refine Qc ?_ | refine Jg ?_ | refine Jr ?_)
          | (simp only [Qb, Jo, reduceIte, J0])
          | ((with_reducible refine hK _ _ ?_); clear hK)
          | (simp only [Q9, RA, Jn, Jm, Jp, Q8, Q6, ev, ofValue, Ju, J0, J3, J2, J4, reduceCtorEq, reduceIte, Jv, Qm, Qk, Q0, aun, Qj, Jk, Ji, Jz, Jy, Jj, Qi, Jf, Q7, Q2, Js, J1, J5, Ja, J9, Jb, J6, J7, Jd, J8, RB, Jw, Je, Zv, k6, k10, k11, k12, k13, k14, k15, k17])
        all_goals exact ⟨us3, d1 ▸ rfl, y1, y2, y3, xx, ul3, uL3, d2⟩
      · rw [Int.mul_one] at hv3
        have h3K := val_above uL3 ug3
        rw [Int.pow_succ] at h3K
        have hmore := ld_more (W := WW) hpw hV0 (by omega) h3K hv3
        have hW0 : 0 ≤ WW / V := Int.ediv_nonneg q8 (by omega)
        have ew : IntKind.u64.wrap (tt - 1) = tt - 1 := Y0 (by omega) (by omega)
        repeat' first
          | (with_reducible first | refine Jh (fun K hK => ?_) | refine Jx ?_ | refine Q4 ?_ | refine Jg ?_ | refine Jr ?_)
          | (simp only [Qb, Jo, reduceIte, J0])
          | ((with_reducible refine hK _ _ ?_); clear hK)
          | (simp only [Q9, RA, Jn, Jm, Jp, Q8, Q6, ev, ofValue, Ju, J0, J3, J2, J4, reduceCtorEq, reduceIte, Jv, Qm, Qk, Q0, aun, Qj, Jk, Ji, Jz, Jy, Jj, Qi, Jf, Q7, Q2, Js, J1, J5, Ja, J9, Jb, J6, J7, Jd, J8, RB, Jw, Je, Zv, k6, k10, k11, k12, k13, k14, k15, k17, ew])
        refine Xi (fun m fr' H5 => ∃ (j : Nat) (us4 : List Int) (c : Int), m = n - j ∧ j ≤ n ∧ fr' 6 = .int .i64 (n : Int) ∧ fr' 10 = .int .i64 (sh : Int) ∧ fr' 11 = .sl hv 0 n (n + 1) ∧ fr' 12 = .sl hu 0 (la + 1) (la + 1) ∧ fr' 13 = .sl hq 0 nq nq ∧ fr' 14 = .int .i64 (i : Int) ∧ fr' 15 = .int .u64 (tt - 1) ∧ fr' 17 = .int .u64 1 ∧ fr' 22 = .int .u64 c ∧ fr' 23 = .int .i64 (j : Int) ∧ X3 H5 hv = some (Ub vs) ∧ X3 H5 hu = some (Ub us4) ∧ X3 H5 hq = some (Ub qs) ∧ Ext H H5 ∧ us4.length = la + 1 ∧ Limbs us4 ∧ (∀ k, i + n + 1 ≤ k → us4.getD k 0 = 0) ∧ (0 ≤ c ∧ c ≤ 1) ∧ val us4 + Bs ^ (i + j) * c = val us3 + Bs ^ i * val (vs.take j)) (m := n)
          ⟨0, us3, 0, by omega, by omega, k6, k10, k11, k12, k13, k14, rfl, k17, rfl, rfl, y1, y2, y3, xx, ul3, uL3, ug3, ⟨by omega, by omega⟩, by simp [val]⟩ ?_
        clear k6 k10 k11 k12 k13 k14 k15 k17 y1 y2 y3 xx
        rintro m fr' H5 ⟨j, us4, c, rfl, hj, k6, k10, k11, k12, k13, k14, k15, k17, k22, k23, y1, y2, y3, xx, ul4, uL4, ug4, hcc, hv4⟩
        have ly := X6 y2
        by_cases hjn : j < n
        · have e1 : IntKind.i64.wrap ((j : Int) + 1) = ((j + 1 : Nat) : Int) := by rw [Qe (by omega) (by omega)]; omega
          have e2 : IntKind.i64.wrap ((i : Int) + (j : Int)) = ((i + j : Nat) : Int) := by rw [Qe (by omega) (by omega)]; omega
          have hxv := vL.get j
          have huv := uL4.get (i + j)
          obtain ⟨s1, s2, s3⟩ := sum_step huv hxv hcc
          have b1 := Vp y1 (i := j) (by omega)
          have b2 := Vp y2 (i := i + j) (by omega)
          obtain ⟨z, hz⟩ : ∃ z, z = (us4.getD (i + j) 0 + vs.getD j 0 + c) % Bs := ⟨_, rfl⟩
          have hzb : 0 ≤ z ∧ z < Bs := by rw [hz]; exact ⟨Int.emod_nonneg _ (by decide), Int.emod_lt_of_pos _ (by decide)⟩
          have st := Vh y2 (i := i + j) (by omega) z
          have hsetg := Qv ly (Ub (us4.set (i + j) z))
          repeat' first
            | (with_reducible first | refine Jh (fun K hK => ?_) | refine Jx ?_ | refine Q4 ?_ | refine Jg ?_ | refine Q1 (id := 36) [] pn149_36RfX (by kernel_rfl) (by kernel_rfl) ?_ | refine Jr ?_)
            | ((with_reducible refine Z3 (Gn _ _ _ _ huv.1 hxv.1 hcc) ?_); rintro _ _ ⟨rfl, rfl⟩)
            | (with_reducible refine X4 (fun hc => ?_) (fun hc => ?_) <;> (try simp only [RC] at hc) <;> (try (exfalso; first | omega | contradiction)))
            | (simp only [Qb, Jo, reduceIte, J0])
            | ((with_reducible refine hK _ _ ?_); clear hK)
            | (simp only [Q9, RA, Jn, Jm, Jp, Q8, Q6, ev, ofValue, Ju, J0, J3, J2, J4, reduceCtorEq, reduceIte, Jv, Qm, Qk, Q0, aun, Qj, Jk, Ji, Jz, Jy, Jj, Qi, Jf, Q7, Q2, Js, J1, J5, Ja, J9, Jb, J6, J7, Jd, J8, RB, Jw, Je, Zv, k6, k10, k11, k12, k13, k14, k15, k17, k22, k23, e1, e2, b1, b2, ← hz, st])
            | (simp (disch := first | omega | (simp only [RO]; done) | assumption) only [RS, Xa, Xb, X9])
          all_goals
            refine ⟨_, by omega, j + 1, us4.set (i + j) z, _, rfl, by omega, rfl, rfl, by rw [hsetg, if_neg (by omega)]; exact y1, by rw [hsetg, if_pos rfl], by rw [hsetg, if_neg (by omega)]; exact y3, xx.set (by omega) _, by rw [List.length_set]; exact ul4, uL4.set _ hzb, fun k hk => ?_, ⟨s2, s3⟩, ?_⟩
            · rw [Xs _ _ (by omega), if_neg (by omega)]; exact ug4 k (by omega)
            · rw [← hz] at s1
              have bv := back_val s1 hv4
              rw [Vt _ (by omega), Xk vs (by omega)]
              have e9 : Bs ^ (i + j) = Bs ^ i * Bs ^ j := Int.pow_add ..
              have e8 : Bs ^ (i + (j + 1)) = Bs ^ (i + j) * Bs := by rw [← Nat.add_assoc, Int.pow_succ]
              rw [e8, bv, e9]
              generalize Bs ^ i = P at *
              generalize Bs ^ j = Q at *
              grind
        · obtain rfl : j = n := by omega
          have hVt' : val (vs.take j) = V := by rw [← hvt, vtv]
          rw [hVt'] at hv4
          have huv := uL4.get (i + j)
          have h00 : (0 : Int) ≤ 0 ∧ (0 : Int) < Bs := ⟨by omega, by decide⟩
          obtain ⟨s1, s2, s3⟩ := sum_step huv h00 hcc
          obtain ⟨z, hz⟩ : ∃ z, z = (us4.getD (i + j) 0 + 0 + c) % Bs := ⟨_, rfl⟩
          obtain ⟨c', hc'⟩ : ∃ c', c' = (us4.getD (i + j) 0 + 0 + c) / Bs := ⟨_, rfl⟩
          have hzb : 0 ≤ z ∧ z < Bs := by rw [hz]; exact ⟨Int.emod_nonneg _ (by decide), Int.emod_lt_of_pos _ (by decide)⟩
          rw [← hz, ← hc'] at s1
          rw [← hc'] at s2 s3
          have hx : z + Bs * c' = us4.getD (i + j) 0 + c := by omega
          have bl1 := back_last hx hv4
          have b2 := Vp y2 (i := i + j) (by omega)
          have st := Vh y2 (i := i + j) (by omega) z
          have hsetg := Qv ly (Ub (us4.set (i + j) z))
          have ec : IntKind.u64.wrap (1 - c') = 1 - c' := Y0 (by omega) (by simp only [Bs]; omega)
          repeat' first
            | (with_reducible first | refine Jh (fun K hK => ?_) | refine Qc ?_ | refine Jg ?_ | refine Jr ?_)
            | ((with_reducible refine Z3 (Gn _ _ _ _ huv.1 h00.1 hcc) ?_); rintro _ _ ⟨rfl, rfl⟩)
            | (with_reducible refine X4 (fun hc => ?_) (fun hc => ?_) <;> (try simp only [RC] at hc) <;> (try (exfalso; first | omega | contradiction)))
            | (simp only [Qb, Jo, reduceIte, J0])
            | ((with_reducible refine hK _ _ ?_); clear hK)
            | (clear hK; (with_reducible refine hK _ _ ?_); clear hK)
            | (simp only [Q9, RA, Jn, Jm, Jp, Q8, Q6, ev, ofValue, Ju, J0, J3, J2, J4, reduceCtorEq, reduceIte, Jv, Qm, Qk, Q0, aun, Qj, Jk, Ji, Jz, Jy, Jj, Qi, Jf, Q7, Q2, Js, J1, J5, Ja, J9, Jb, J6, J7, Jd, J8, RB, Jw, Je, Zv, k6, k10, k11, k12, k13, k14, k15, k17, k22, k23, i1, b2, ← hz, ← hc', ec, st])
            | (simp (disch := first | omega | (simp only [RO]; done) | assumption) only [RS, Xa, Xb, X9])
          all_goals
            refine ⟨_, by omega, tt - 1, 1 - c', us4.set (i + j) z, rfl, ⟨by omega, by omega⟩, hmore, by omega, rfl, rfl, by rw [hsetg, if_neg (by omega)]; exact y1, by rw [hsetg, if_pos rfl], by rw [hsetg, if_neg (by omega)]; exact y3, xx.set (by omega) _, by rw [List.length_set]; exact ul4, uL4.set _ hzb, fun k hk => ?_, ?_⟩
            · rw [Xs _ _ (by omega), if_neg (by omega)]; exact ug4 k (by omega)
            · rw [Vt _ (by omega), bl1]
              generalize Bs ^ (i + j) * Bs = KK at *
              generalize Bs ^ i * V = PV at *
              grind
    clear hKc k6 k10 k11 k12 k13 k14 k15 k16 k17 y1 y2 y3 xx hsetg
    obtain ⟨us3, k6, k10, k11, k12, k13, k14, k15, y1, y2, y3, xx, ul3, uL3, hv3⟩ := h
    have st := Vh y3 (i := i) (by omega) (WW / V)
    have hsetg := Qv (X6 y3) (Ub (qs.set i (WW / V)))
    have LL := L.round hin hV0 hVn (us' := us3) (by omega) uL3 (by rw [← hWW, ← hlo]; exact hv3)
    rw [← hWW] at LL
    have ly3 := X6 y3
    repeat' first
      | (with_reducible first | refine Jg ?_)
      | (simp only [Qb, Jo, reduceIte, J0])
      | (simp only [Q9, RA, Jn, Jm, Jp, Q8, Q6, ev, ofValue, Ju, J0, J3, J2, J4, reduceCtorEq, reduceIte, Jv, Qm, Qk, Q0, aun, Qj, Jk, Ji, Jz, Jy, Jj, Qi, Jf, Q7, Q2, Js, J1, J5, Ja, J9, Jb, J6, J7, Jd, J8, RB, Jw, Je, Zv, k6, k10, k11, k12, k13, k14, k15, st])
      | (simp (disch := first | omega | (simp only [RO]; done) | assumption) only [RS, Xa, Xb, X9])
    refine hK5 _ _ ?_
    clear hK5
    repeat' first
      | (with_reducible first | refine Jg ?_)
      | (simp only [Qb, Jo, reduceIte, J0])
      | (simp only [Q9, RA, Jn, Jm, Jp, Q8, Q6, ev, ofValue, Ju, J0, J3, J2, J4, reduceCtorEq, reduceIte, Jv, Qm, Qk, Q0, aun, Qj, Jk, Ji, Jz, Jy, Jj, Qi, Jf, Q7, Q2, Js, J1, J5, Ja, J9, Jb, J6, J7, Jd, J8, RB, Jw, Je, Zv, k6, k10, k11, k12, k13, k14, k15, i4])
    all_goals exact ⟨i, by omega, us3, qs.set i (WW / V), by omega, rfl, by rw [hsetg, if_neg (by omega)]; exact y1, by rw [hsetg, if_neg (by omega)]; exact y2, by rw [hsetg, if_pos rfl], xx.set (by omega) _, LL⟩
end Go.Proofs.YtigddjlhncnnoaaGreatDoor
namespace Go.Proofs.YtigddjlhncnnoaaGreatDoor
open Go.AL Go.PW
theorem tf123RfY : type_of% (Jc @Zh (Jc @Z1 (Jc @Zq (Jc @Zp (@Xc))))) := Jc @Zh (Jc @Z1 (Jc @Zq (Jc @Zp (@Xc))))
abbrev pn123_2RfY : Plan := (.one 0 (.one 1 (.one 2 (.one 3 (.one 4 (.one 5 (.one 7 (.one 9 (.pur 6 (.one 8 (.one 10 (.one 11 (.one 12 .nil)))))))))))))
set_option maxRecDepth 8000
theorem Rover_calls (s t : AV) (xs ys : List Int) (H : Hp) (hs : Uv H s xs) (ht : Ints H .u64 t ys) (cx : Can xs) (cy : Can ys) (h0 : 0 < val ys) (lx : xs.length < 40000) : ACalls Tryz.prog 149 [s, t] H fun r H' => OverR H (val xs) (val ys) r H' := by
  by_cases h : val xs < val ys
  · exact Rover_less s t xs ys H hs ht cx cy h
  · have hl : ys.length ≠ 0 := fun e => by
      rw [List.eq_nil_of_length_eq_zero e] at h0
      simp [val] at h0
    by_cases h1 : ys.length = 1
    · exact Rover_one s t xs ys H hs ht cx cy h h1 (by omega)
    · exact Rover_long s t xs ys H hs ht cx cy h (by omega) lx
theorem tdiv_sign (x y : Int) : (x < 0 → y < 0 → 0 ≤ x.tdiv y) ∧ (x < 0 → 0 ≤ y → x.tdiv y ≤ 0) ∧ (0 ≤ x → y < 0 → x.tdiv y ≤ 0) ∧ (0 ≤ x → 0 ≤ y → 0 ≤ x.tdiv y) := by
  refine ⟨fun hx hy => ?_, fun hx hy => ?_, fun hx hy => ?_, fun hx hy => Int.tdiv_nonneg hx hy⟩
  · obtain ⟨a, ha⟩ : ∃ a, x = -a := ⟨-x, by omega⟩
    obtain ⟨b, hb⟩ : ∃ b, y = -b := ⟨-y, by omega⟩
    rw [ha, hb, Int.neg_tdiv, Int.tdiv_neg, Int.neg_neg]
    exact Int.tdiv_nonneg (by omega) (by omega)
  · obtain ⟨a, ha⟩ : ∃ a, x = -a := ⟨-x, by omega⟩
    rw [ha, Int.neg_tdiv]
    have := Int.tdiv_nonneg (show 0 ≤ a by omega) hy
    omega
  · obtain ⟨b, hb⟩ : ∃ b, y = -b := ⟨-y, by omega⟩
    rw [hb, Int.tdiv_neg]
    have := Int.tdiv_nonneg hx (show 0 ≤ b by omega)
    omega
theorem div_sign (x y : Int) (n : Nat) (hn : n = 0 ↔ x.tdiv y = 0) : ((!(decide (x < 0) == decide (y < 0))) && decide (0 < n)) = decide (x.tdiv y < 0) := by
  obtain ⟨t1, t2, t3, t4⟩ := tdiv_sign x y
  by_cases h0 : n = 0
  · have e := hn.1 h0
    simp [h0, e]
  · have e : x.tdiv y ≠ 0 := fun e => h0 (hn.2 e)
    have hn0 : 0 < n := by omega
    rw [decide_eq_true hn0, Bool.and_true]
    by_cases hx : x < 0 <;> by_cases hy : y < 0
    · have f : ¬ x.tdiv y < 0 := by have := t1 hx hy; omega
      simp [hx, hy, f]
    · have f : x.tdiv y < 0 := by have := t2 hx (by omega); omega
      simp [hx, hy, f]
    · have f : x.tdiv y < 0 := by have := t3 (by omega) hy; omega
      simp [hx, hy, f]
    · have f : ¬ x.tdiv y < 0 := by have := t4 (by omega) (by omega); omega
      simp [hx, hy, f]
theorem mod_sign (x y : Int) (n : Nat) (hn : n = 0 ↔ x.tmod y = 0) : (decide (x < 0) && decide (0 < n)) = decide (x.tmod y < 0) := by
  by_cases hx : x < 0
  · obtain ⟨a, ha⟩ : ∃ a, x = -a := ⟨-x, by omega⟩
    have h1 : x.tmod y ≤ 0 := by rw [ha, Int.neg_tmod]; have := Int.tmod_nonneg y (show 0 ≤ a by omega); omega
    by_cases h0 : n = 0
    · have := hn.1 h0
      simp [hx, h0, this]
    · have : ¬ x.tmod y = 0 := fun e => h0 (hn.2 e)
      have h2 : x.tmod y < 0 := by omega
      have h3 : 0 < n := by omega
      simp [hx, h2, h3]
  · have h1 : 0 ≤ x.tmod y := Int.tmod_nonneg y (by omega)
    have h2 : ¬ x.tmod y < 0 := by omega
    simp [hx, h2]
set_option maxHeartbeats 4000000 in
theorem Rdiv_calls (x y : Int) (s t : AV) (H : Hp) (hs : Bs_ H s x) (ht : Bs_ H t y) (bx : Sm x) (h0 : y ≠ 0) : ACalls Tryz.prog 123 [BV x s, BV y t] H fun r H' => ∃ u v, r = .tup [BV (x.tdiv y) u, BV (x.tmod y) v] ∧ Bs_ H' u (x.tdiv y) ∧ Bs_ H' v (x.tmod y) ∧ Ext H H' := by
  obtain ⟨xs, ux, cx, vx⟩ := hs.ex
  obtain ⟨ys, uy, cy, vy⟩ := ht.ex
  have hs1 : s.one = true := ux.rd.rd.one
  have hc1 : s.cells = [s] := AV.cells_one hs1
  have ht1 : t.one = true := uy.rd.rd.one
  have hc2 : t.cells = [t] := AV.cells_one ht1
  have lx := cx.small (by rw [vx]; exact bx)
  have hx4 : ∀ b1 b2 b3 b4, Ext H (H ++ [b1] ++ [b2] ++ [b3] ++ [b4]) := fun b1 b2 b3 b4 => (((Ext.push _ _).pushed _).pushed _).pushed _
  refine Qo Tryz.func123 rfl (by kernel_rfl) (by kernel_rfl) ?_
  repeat' first
    | (with_reducible first | refine Jh (fun K hK => ?_) | refine Jg ?_)
    | (simp only [Qb, Jo, reduceIte, J0])
    | ((with_reducible refine hK _ _ ?_); clear hK)
    | (simp only [Q9, RA, Jn, Jm, Jp, Q8, Q6, ev, ofValue, Ju, J0, J3, J2, J4, reduceCtorEq, reduceIte, Jv, Qm, Qk, Q0, aun, Qj, Jk, Ji, Jz, Jy, Jj, Qi, Jf, Q7, Q2, Js, J1, J5, Ja, J9, Jb, J6, J7, Jd, J8, RB, Jw, Je, tf123RfY])
    | (simp (disch := first | omega | (simp only [RO]; done) | assumption) only [RS, Xa, Xb, X9, Qz, Qr, X0])
    | (simp (disch := (first | omega | (simp only [RO]; done) | assumption | (simp only [RM, Je]; done) | (simp only [RL, Je]; omega))) only [RD, reduceCtorEq, reduceIte, Je, J1, J3, J2, J6, tf123RfY])
  refine Q5 (Rover_calls s t xs ys _ (ux.ext (hx4 _ _ _ _)) (uy.rd.ext (hx4 _ _ _ _)) cx cy (by rw [vy]; omega) (by omega)) ?_
  rintro _ H4 ⟨u, v, qs, rs, rfl, U, Cq, vq, V, Cr, vr, x4⟩
  rw [vx, vy] at vq vr
  have eq1 : val qs = ((x.tdiv y).natAbs : Int) := by rw [vq, Int.natAbs_tdiv]; push_cast; rfl
  have er1 : val rs = ((x.tmod y).natAbs : Int) := by rw [vr, Int.natAbs_tmod]; push_cast; rfl
  have hq := Bs_.nil (H := H4) (s := u) (x := x.tdiv y) Cq eq1
  have hr := Bs_.nil (H := H4) (s := v) (x := x.tmod y) Cr er1
  have q2 : X3 H4 H.length = some ⟨[.bool (decide (x < 0)), s], .own, 67⟩ := Qy (by rw [Qw (by simp), Qw (by simp), Qw (by simp), X7 rfl]) x4
  have q3 : X3 H4 (H.length + 1) = some ⟨[.bool (decide (y < 0)), t], .own, 67⟩ := Qy (by rw [Qw (by simp), Qw (by simp), X7 (by simp)]) x4
  have q4 : X3 H4 (H.length + 1 + 1) = some ⟨[.bool false, .nilS], .own, 67⟩ := Qy (by rw [Qw (by simp), X7 (by simp)]) x4
  have q5 : X3 H4 (H.length + 1 + 1 + 1) = some ⟨[.bool false, .nilS], .own, 67⟩ := Qy (X7 (by simp)) x4
  have hu1 : u.one = true := U.rd.rd.one
  have hcu : u.cells = [u] := AV.cells_one hu1
  have hv1 : v.one = true := V.rd.rd.one
  have hcv : v.cells = [v] := AV.cells_one hv1
  have hm := fun H0 (x0 : ∃ E, H0 = H4 ++ E) => made_calls (!(decide (x < 0) == decide (y < 0))) u qs H0 (U.rd.ext x0)
  rw [div_sign x y qs.length hq] at hm
  have hn := fun H0 (x0 : ∃ E, H0 = H4 ++ E) => made_calls (decide (x < 0)) v rs H0 (V.rd.ext x0)
  rw [mod_sign x y rs.length hr] at hn
  have l4 := X6 q4
  have l5 := X6 q5
  have hm1 := hm H4 ⟨[], by simp⟩
  have hn1 := hn H4 ⟨[], by simp⟩
  have hs1 : ∀ blk k, X3 (H4.set (H.length + 1 + 1) blk) k = if k = H.length + 1 + 1 then some blk else X3 H4 k := fun blk k => Qv l4 blk k
  have hs2 : ∀ b1 blk k, X3 ((H4.set (H.length + 1 + 1) b1).set (H.length + 1 + 1 + 1) blk) k = if k = H.length + 1 + 1 + 1 then some blk else X3 (H4.set (H.length + 1 + 1) b1) k := fun b1 blk k => Qv (by rw [List.length_set]; exact l5) blk k
  have n1 : (H.length + 1 + 1 + 1 = H.length + 1 + 1) = False := eq_false (by omega)
  have n2 : (H.length + 1 + 1 = H.length + 1 + 1 + 1) = False := eq_false (by omega)
  repeat' first
    | (with_reducible first | refine Jh (fun K hK => ?_) | refine Qd ?_ | refine Q1 (id := 2) [] pn123_2RfY (by kernel_rfl) (by kernel_rfl) ?_ | refine X8 ?_)
    | (with_reducible refine Xd (fun _ x => (hm _ x)) ?_)
    | ((with_reducible refine Q5 (hn1) ?_); rintro _ _ ⟨rfl, rfl⟩)
    | (simp only [Qb, Jo, reduceIte, J0])
    | ((with_reducible refine hK _ _ ?_); clear hK)
    | (simp only [Q9, RA, Jn, Jm, Jp, Q8, Q6, ev, ofValue, Ju, J0, J3, J2, J4, reduceCtorEq, reduceIte, Jv, Qm, Qk, Q0, aun, Qj, Jk, Ji, Jz, Jy, Jj, Qi, Jf, Q7, Q2, Js, J1, J5, Ja, J9, Jb, J6, J7, Jd, J8, RB, Jw, Je, tf123RfY, q2, q3, q4, q5, hs1, n1])
    | (simp (disch := first | omega | (simp only [RO]; done) | assumption) only [RS, Xa, Xb, X9, Qz, Qr, X0])
    | (simp (disch := (first | omega | (simp only [RO]; done) | assumption | (simp only [RM, Je]; done) | (simp only [RL, Je]; omega))) only [RD, reduceCtorEq, reduceIte, Je, J1, J3, J2, J6, tf123RfY, q2, q3, q4, q5, hs1, n1])
  all_goals
    (
     (refine Qg (rs := [.cell 4 67, .cell 5 67]) rfl ?_)
     (simp only [X5, Qf, Fr.put_some, Fr.put_none, Qp, Qq, Qt, J0, reduceIte, hs2, hs1, n1, n2])
     (try simp (disch := (first | omega | (simp only [RO]; done) | assumption | (simp only [RM, Je]; done) | (simp only [RL, Je]; omega))) only [RD, reduceCtorEq, reduceIte, Je, J1, J3, J2, J6, tf123RfY, hs2, hs1, n1, n2]))
  all_goals
    have q51 : ∀ b1, X3 (H4.set (H.length + 1 + 1) b1) (H.length + 1 + 1 + 1) = some ⟨[.bool false, .nilS], .own, 67⟩ := fun b1 => by rw [hs1, if_neg (by omega)]; exact q5
    exact ⟨u, v, rfl, ⟨qs, (U.other q4 (by decide) _).other (q51 _) (by decide) _, Cq, eq1⟩, ⟨rs, (V.other q4 (by decide) _).other (q51 _) (by decide) _, Cr, er1⟩, (((hx4 _ _ _ _).trans x4).set (by omega) _).set (by omega) _⟩
end Go.Proofs.YtigddjlhncnnoaaGreatDoor
namespace Go.Proofs.YtigddjlhncnnoaaGreatDoor
open Go.AL Go.PW Go.PD
set_option maxRecDepth 8000
theorem BsV.low {H : Hp} {v : AV} {l : List (Int × AV)} {lo lo' : Nat} (B : BsV H v l lo) (h : lo' ≤ lo) : BsV H v l lo' := by
  refine ⟨?_, B.big⟩
  rcases B.at_ with e | ⟨k, e, h2, h3⟩
  · exact .inl e
  · exact .inr ⟨k, e, h2, by omega⟩
end Go.Proofs.YtigddjlhncnnoaaGreatDoor

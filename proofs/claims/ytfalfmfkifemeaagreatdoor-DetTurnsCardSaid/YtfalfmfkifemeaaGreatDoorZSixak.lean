/- Part 11 of the proof of laws of this seat: lemmas on the model's code, on this program's functions, on numbers. No condition. -/
import Derived.Test.YtfalfmfkifemeaaGreatDoorZSixaj
import Derived.Laws.Externs
set_option linter.unusedVariables false
set_option linter.unusedSimpArgs false
namespace Go.Proofs.YtfalfmfkifemeaaGreatDoor
open Go.AL Go.PW
theorem u64_wrap (n : Int) : IntKind.u64.wrap n = n % Bs := by
  have e : ((2 : Int) ^ IntKind.u64.bits) = Bs := by decide
  simp only [IntKind.wrap, IntKind.signed, Bool.false_and, Bool.false_eq_true, if_false, e]
theorem u64_in {n : Int} (h0 : 0 ≤ n) (h1 : n < Bs) : IntKind.u64.wrap n = n := by rw [u64_wrap]; exact Int.emod_eq_of_lt h0 h1
theorem ofInt64 {n : Nat} (h : n < 2 ^ 64) : (BitVec.ofInt IntKind.u64.bits (n : Int)).toNat = n := by
  rw [BitVec.toNat_ofInt]
  have : ((2 : Nat) ^ IntKind.u64.bits) = 18446744073709551616 := by decide
  rw [this]
  omega
theorem nat_lt {x : Int} (hx : 0 ≤ x) (hx' : x < Bs) : ∃ a : Nat, x = a ∧ a < 2 ^ 64 := by
  obtain ⟨a, rfl⟩ := Int.eq_ofNat_of_zero_le hx
  exact ⟨a, rfl, by simp only [Bs] at hx'; omega⟩
theorem wrap_nat {a : Nat} (h : a < 2 ^ 64) : IntKind.u64.wrap (a : Int) = a := u64_in (by omega) (by simp only [Bs]; omega)
theorem xor64 {a b : Nat} (ha : a < 2 ^ 64) (hb : b < 2 ^ 64) : bits .xor .u64 (a : Int) (b : Int) = ((a ^^^ b : Nat) : Int) := by
  have hab := Nat.xor_lt_two_pow ha hb
  unfold bits
  simp only
  rw [BitVec.toNat_xor, ofInt64 ha, ofInt64 hb]
  exact wrap_nat hab
theorem and64 {a b : Nat} (ha : a < 2 ^ 64) (hb : b < 2 ^ 64) : bits .and .u64 (a : Int) (b : Int) = ((a &&& b : Nat) : Int) := by
  have hab : a &&& b < 2 ^ 64 := Nat.lt_of_le_of_lt Nat.and_le_left ha
  unfold bits
  simp only
  rw [BitVec.toNat_and, ofInt64 ha, ofInt64 hb]
  exact wrap_nat hab
theorem or64 {a b : Nat} (ha : a < 2 ^ 64) (hb : b < 2 ^ 64) : bits .or .u64 (a : Int) (b : Int) = ((a ||| b : Nat) : Int) := by
  have hab := Nat.or_lt_two_pow ha hb
  unfold bits
  simp only
  rw [BitVec.toNat_or, ofInt64 ha, ofInt64 hb]
  exact wrap_nat hab
/-- The other bits. -/
theorem not64 {x : Int} (h0 : 0 ≤ x) (h1 : x < Bs) : bits .xor .u64 (if IntKind.u64.signed = true then -1 else IntKind.u64.max) x = Bs - 1 - x := by
  have e : (if IntKind.u64.signed = true then -1 else IntKind.u64.max) = ((2 ^ 64 - 1 : Nat) : Int) := by decide
  obtain ⟨a, rfl, ha⟩ := nat_lt h0 h1
  rw [e, xor64 (by decide) ha]
  have h2 : (2 ^ 64 - 1) ^^^ a = 2 ^ 64 - 1 - a := by
    have h3 : (BitVec.allOnes 64 ^^^ BitVec.ofNat 64 a) = ~~~ (BitVec.ofNat 64 a) := BitVec.allOnes_xor
    have h4 := congrArg BitVec.toNat h3
    rw [BitVec.toNat_xor, BitVec.toNat_not, BitVec.toNat_allOnes, BitVec.toNat_ofNat, Nat.mod_eq_of_lt ha] at h4
    exact h4
  rw [h2]
  simp only [Bs]
  omega
/-- The lower half. -/
theorem low32 {x : Int} (h0 : 0 ≤ x) (h1 : x < Bs) : bits .and .u64 x 4294967295 = x % 4294967296 := by
  obtain ⟨a, rfl, ha⟩ := nat_lt h0 h1
  have h2 := and64 (b := 4294967295) ha (by decide)
  have h3 := Nat.and_two_pow_sub_one_eq_mod a 32
  have e : (2 ^ 32 - 1 : Nat) = 4294967295 := by decide
  rw [e] at h3
  rw [h3] at h2
  exact h2.trans (by omega)
/-- Bits that do not meet. -/
theorem or_add {x y : Int} (k : Nat) (h0 : 0 ≤ x) (h1 : x * 2 ^ k < Bs) (h2 : 0 ≤ y) (h3 : y < 2 ^ k) (h4 : y < Bs) : bits .or .u64 (x * 2 ^ k) y = x * 2 ^ k + y := by
  have hp : (0 : Int) < 2 ^ k := Int.pow_pos (by decide)
  obtain ⟨a, rfl⟩ := Int.eq_ofNat_of_zero_le h0
  obtain ⟨b, rfl⟩ := Int.eq_ofNat_of_zero_le h2
  have e : ((a : Int) * 2 ^ k) = ((a * 2 ^ k : Nat) : Int) := by simp
  have hb : b < 2 ^ k := by
    have : ((b : Int)) < ((2 ^ k : Nat) : Int) := by simpa using h3
    omega
  rw [e] at h1 ⊢
  have h5 : a * 2 ^ k < 2 ^ 64 := by simp only [Bs] at h1; omega
  have h6 : b < 2 ^ 64 := by simp only [Bs] at h4; omega
  rw [or64 h5 h6]
  have h7 := Nat.shiftLeft_add_eq_or_of_lt hb a
  rw [Nat.shiftLeft_eq] at h7
  rw [← h7]
  omega
/-- 2 to 1024, and half of it. -/
def M : Int := Bs ^ 16
def Mh : Int := Bs ^ 15 * 9223372036854775808
theorem M_two : M = 2 * Mh := by decide
theorem M_pow : M = Bs ^ 16 := rfl
theorem M_pos : 0 < M := by decide
theorem Mh_pos : 0 < Mh := by decide
theorem top_iff (x : Int) : ((dig 16 x).getD 15 0 / 9223372036854775808 == 1) = decide (Mh ≤ x % M) := by
  rw [getD_dig 16 x 15 (by decide)]
  have h := emod_two (x := x) (m := Bs ^ 15) (k := Bs) (by decide)
  have e : Bs ^ 15 * Bs = M := by decide
  rw [e] at h
  have h1 := Int.emod_nonneg x (b := Bs ^ 15) (by decide)
  have h2 := Int.emod_lt_of_pos x (b := Bs ^ 15) (by decide)
  have h3 := Int.emod_nonneg (x / Bs ^ 15) (b := Bs) (by decide)
  have h4 := Int.emod_lt_of_pos (x / Bs ^ 15) (b := Bs) (by decide)
  rw [← h]
  have eM : Mh = Bs ^ 15 * 9223372036854775808 := rfl
  rw [eM]
  have hp : (0 : Int) < Bs ^ 15 := by decide
  generalize x / Bs ^ 15 % Bs = t at *
  generalize x % Bs ^ 15 = r at *
  generalize Bs ^ 15 = p at *
  have key : (t / 9223372036854775808 = 1) ↔ (p * 9223372036854775808 ≤ r + p * t) := by
    constructor
    · intro ht
      have : 9223372036854775808 ≤ t := by omega
      have := Int.mul_le_mul_of_nonneg_left this (Int.le_of_lt hp)
      omega
    · intro ht
      rcases Int.lt_or_le t 9223372036854775808 with h5 | h5
      · have : p * (t + 1) ≤ p * 9223372036854775808 := Int.mul_le_mul_of_nonneg_left (by omega) (Int.le_of_lt hp)
        rw [Int.mul_add] at this
        omega
      · simp only [Bs] at h4; omega
  rw [Bool.eq_iff_iff]
  simp only [beq_iff_eq, decide_eq_true_eq]
  exact key
/-- In range: below nought. -/
def In (x : Int) : Prop := -Mh ≤ x ∧ x < Mh
theorem neg_iff {x : Int} (h : In x) : decide (Mh ≤ x % M) = decide (x < 0) := by
  obtain ⟨h1, h2⟩ := h
  have hm := M_two
  have hp := Mh_pos
  rcases Int.lt_or_le x 0 with h0 | h0
  · have : x % M = x + M := by
      rw [← Int.add_emod_right, Int.emod_eq_of_lt (by omega) (by omega)]
    rw [this]
    have h3 : Mh ≤ x + M := by omega
    simp [h0, h3]
  · have : x % M = x := Int.emod_eq_of_lt h0 (by omega)
    rw [this]
    have h3 : ¬ Mh ≤ x := by omega
    have h4 : ¬ x < 0 := by omega
    simp [h3, h4]
theorem dig_M {x y : Int} (h : x % M = y % M) : dig 16 x = dig 16 y := dig_mod 16 x y h
theorem val_M (x : Int) : val (dig 16 x) = x % M := val_dig 16 x
attribute [irreducible] M Mh
end Go.Proofs.YtfalfmfkifemeaaGreatDoor
set_option linter.unusedVariables false
set_option linter.unusedSimpArgs false
namespace Go.Proofs.YtfalfmfkifemeaaGreatDoor
open Go.AL Go.PW
theorem tf94WdA : type_of% (And.intro @tyb31 (And.intro @tyb32 (@tyb33))) := And.intro @tyb31 (And.intro @tyb32 (@tyb33))
theorem tf77WdA : type_of% (And.intro @tyb3 (And.intro @tyb31 (And.intro @tyb32 (@tyb33)))) := And.intro @tyb3 (And.intro @tyb31 (And.intro @tyb32 (@tyb33)))
set_option maxRecDepth 8000
/-- A wide number in two's complement. -/
abbrev W (x : Int) : AV := .agg ((dig 16 x).map (AV.int .u64))
abbrev Wb (x : Int) : Blk := ⟨(dig 16 x).map (AV.int .u64), .own, 33⟩
theorem ext_quiet {f : FuncId} {fn : Func} {e : Array Value → Sem Value} (hf : Tryz.prog.funcs[f]? = some fn) (hname : (fn.name == "runtime.NumGoroutine") = false)
    (hb : fn.body.isNone = true) (hn : Extern.findNext fn = none) (he : Extern.find fn = some e) {args : List AV} {r : AV} {H : Hp} (hr : ∀ n, r.lt n)
    (h : ∀ (β : Nat → Bx) (vs : Array Value) (w : World), VRs β args vs.toList → ∃ v, (e vs).run Tryz.prog w = .ok v w ∧ VR β r v) : AExt Tryz.prog f args H fun r' H' => r' = r ∧ H = H' := by
  intro w0 B β w vs R hv hl
  obtain ⟨v, h1, h2⟩ := h β vs w hv
  refine ⟨v, w, β, r, H, ?_, ⟨rfl, rfl⟩, Agree.refl _ _, Nat.le_refl _, h2, hr _, R⟩
  rw [run_callFunc_extern hf hname hb hn he, h1]
  rfl
theorem three_eq (P : Program) (name : String) (x y c : Nat) (hc : ¬ 1 < c) (w : World) : (Extern.MathBitsCarry.three name ⟨[.int .u64 (x : Int), .int .u64 (y : Int), .int .u64 (c : Int)]⟩).run P w = .ok (x, y, c) w := by
  have h : ∀ a b d : Value, Extern.MathBitsCarry.three name ⟨[a, b, d]⟩ = (do
      let c := (← asInt d).toNat
      if c > 1 then unsupported (.noEntry ("extern/math/bits." ++ name ++ ": a carry that is neither 0 nor 1"))
      pure ((← asInt a).toNat, (← asInt b).toNat, c)) := fun _ _ _ => rfl
  rw [h]
  simp only [asInt, asIntOf, Sem.run_bind, Sem.run_pure, Result.andThen_ok, Int.toNat_natCast]
  rw [if_neg hc]
  simp
theorem add64 (H : Hp) (x y c : Int) (hx : 0 ≤ x) (hy : 0 ≤ y) (hc : 0 ≤ c ∧ c ≤ 1) : AExt Tryz.prog 83 [.int .u64 x, .int .u64 y, .int .u64 c] H fun r H' => r = .tup [.int .u64 ((x + y + c) % Bs), .int .u64 ((x + y + c) / Bs)] ∧ H = H' := by
  refine ext_quiet (e := fun args => do
    let (x, y, c) ← Extern.MathBitsCarry.three "Add64" args
    pure (Extern.MathBitsCarry.pair ((x + y + c) % Extern.MathBitsCarry.m64) ((x + y + c) / Extern.MathBitsCarry.m64))) Tryz.func83 (by kernel_rfl) (by kernel_rfl) (by kernel_rfl) (by kernel_rfl) (fun _ => by simp [AV.lt, AV.lts]) ?_
  intro β vs w hv
  obtain ⟨vs⟩ := vs
  simp only [VRs, VR] at hv
  obtain ⟨_, _, rfl, rfl, _, _, rfl, rfl, _, _, rfl, rfl, rfl⟩ := hv
  obtain ⟨x, rfl⟩ := Int.eq_ofNat_of_zero_le hx
  obtain ⟨y, rfl⟩ := Int.eq_ofNat_of_zero_le hy
  obtain ⟨c, rfl⟩ := Int.eq_ofNat_of_zero_le hc.1
  have hc1 : ¬ 1 < c := by omega
  refine ⟨_, by simp only [Sem.run_bind, three_eq _ _ _ _ _ hc1, Result.andThen_ok, Sem.run_pure]; rfl, ?_⟩
  simp only [Extern.MathBitsCarry.pair, VR, VRs, Extern.MathBitsCarry.m64]
  refine ⟨_, rfl, _, _, rfl, ?_, _, _, rfl, ?_, rfl⟩
  · simp [Bs]
  · simp [Bs]
theorem sub64 (H : Hp) (x y c : Int) (hx : 0 ≤ x) (hy : 0 ≤ y ∧ y < Bs) (hc : 0 ≤ c ∧ c ≤ 1) : AExt Tryz.prog 104 [.int .u64 x, .int .u64 y, .int .u64 c] H fun r H' => r = .tup [.int .u64 ((x - y - c) % Bs), .int .u64 (if x < y + c then 1 else 0)] ∧ H = H' := by
  refine ext_quiet (e := fun args => do
    let (x, y, b) ← Extern.MathBitsCarry.three "Sub64" args
    pure (Extern.MathBitsCarry.pair ((x + Extern.MathBitsCarry.m64 - y - b) % Extern.MathBitsCarry.m64) (if x < y + b then 1 else 0))) Tryz.func104 (by kernel_rfl) (by kernel_rfl) (by kernel_rfl) (by kernel_rfl) (fun _ => by simp [AV.lt, AV.lts]) ?_
  intro β vs w hv
  obtain ⟨vs⟩ := vs
  simp only [VRs, VR] at hv
  obtain ⟨_, _, rfl, rfl, _, _, rfl, rfl, _, _, rfl, rfl, rfl⟩ := hv
  obtain ⟨x, rfl⟩ := Int.eq_ofNat_of_zero_le hx
  obtain ⟨y, rfl⟩ := Int.eq_ofNat_of_zero_le hy.1
  obtain ⟨c, rfl⟩ := Int.eq_ofNat_of_zero_le hc.1
  have hc1 : ¬ 1 < c := by omega
  refine ⟨_, by simp only [Sem.run_bind, three_eq _ _ _ _ _ hc1, Result.andThen_ok, Sem.run_pure]; rfl, ?_⟩
  simp only [Extern.MathBitsCarry.pair, VR, VRs, Extern.MathBitsCarry.m64]
  refine ⟨_, rfl, _, _, rfl, ?_, _, _, rfl, ?_, rfl⟩
  · have hy2 : y < 18446744073709551616 := by have := hy.2; simp only [Bs] at this; omega
    have : ((x + 2 ^ 64 - y - c : Nat) : Int) = (x : Int) - y - c + Bs := by simp only [Bs]; omega
    simp only [Value.int.injEq, true_and, Int.ofNat_eq_natCast, Int.natCast_emod, this]
    simp only [Bs]
    omega
  · by_cases h : x < y + c
    · have : (x : Int) < (y : Int) + c := by omega
      simp [h, this]
    · have : ¬ (x : Int) < (y : Int) + c := by omega
      simp [h, this]
theorem below_calls (x : Int) (H : Hp) : ACalls Tryz.prog 94 [W x] H fun r H' => r = .bool (decide (Mh ≤ x % M)) ∧ H = H' := by
  refine ACalls.drop (R := fun r => r = .bool (decide (Mh ≤ x % M))) ?_
  refine ACalls_body Tryz.func94 rfl (by kernel_rfl) (by kernel_rfl) ?_
  repeat' first
    | (with_reducible first | refine AWp_seq_k (fun K hK => ?_) | refine AWp_ret ?_ | refine AWp_regionE ?_)
    | (simp only [thenA, inBlockA, reduceIte, Nat.reduceEqDiff])
    | ((with_reducible refine hK _ _ ?_); clear hK)
    | (simp only [ACond, RA, EAtS_def, EAtX_def, wantedA, acall, astep, ev, ofValue, ofAtom, Nat.reduceEqDiff, Nat.reduceAdd, Nat.reduceMul, Nat.reduceSub, reduceCtorEq, reduceIte, aoptEv, abin, aint, ashift, aun, astr, aeqGuard, isConstOp, aconvH, aofStr, aconvSame, isU8, abuildSlice, afill, splice, azeros, Nat.reduceLeDiff, Nat.reduceLT, Int.reduceLE, Int.reduceLT, Int.reduceEq, Int.reduceToNat, Int.reducePow, IntKind.bits, Int.reduceNeg, RB, aalloc, Go.PW.dig_length, tf94WdA])
    | (simp (disch := first | omega | (simp only [RO]; done) | assumption) only [RS, idx32, slh32, idx33, slh33])
    | (simp (disch := (first | omega | (simp only [RO]; done) | assumption | (simp only [RM, Go.PW.dig_length]; done) | (simp only [RL, Go.PW.dig_length]; omega))) only [RD, reduceCtorEq, reduceIte, Go.PW.dig_length, Nat.reduceLeDiff, Nat.reduceAdd, Nat.reduceMul, Int.reduceToNat, tf94WdA])
  (
   (refine AEnd_gen (rs := [.tmp 2]) rfl ?_)
   (simp only [AEndR, aresults, Fr.put_some, Fr.put_none, fr0_zero, fr0_succ, fr0_nil, Nat.reduceEqDiff, reduceIte])
   (try simp (disch := (first | omega | (simp only [RO]; done) | assumption | (simp only [RM, Go.PW.dig_length]; done) | (simp only [RL, Go.PW.dig_length]; omega))) only [RD, reduceCtorEq, reduceIte, Go.PW.dig_length, Nat.reduceLeDiff, Nat.reduceAdd, Nat.reduceMul, Int.reduceToNat, tf94WdA]))
  exact ⟨⟨_, rfl⟩, trivial, by rw [top_iff]⟩
theorem ext4 {H : Hp} (a b : Blk) : Ext H (H ++ [a] ++ [b]) := (Ext.push _ _).pushed _
theorem inverse_calls (x : Int) (H : Hp) : ACalls Tryz.prog 77 [W x] H fun r H' => r = W (-x - 1) ∧ H = H' := by
  refine ACalls.drop (R := fun r => r = W (-x - 1)) ?_
  refine ACalls_body Tryz.func77 rfl (by kernel_rfl) (by kernel_rfl) ?_
  repeat' first
    | (with_reducible first | refine AWp_seq_k (fun K hK => ?_) | refine AWp_block ?_ | refine AWp_regionE ?_)
    | (simp only [thenA, inBlockA, reduceIte, Nat.reduceEqDiff])
    | ((with_reducible refine hK _ _ ?_); clear hK)
    | (simp only [ACond, RA, EAtS_def, EAtX_def, wantedA, acall, astep, ev, ofValue, ofAtom, Nat.reduceEqDiff, Nat.reduceAdd, Nat.reduceMul, Nat.reduceSub, reduceCtorEq, reduceIte, aoptEv, abin, aint, ashift, aun, astr, aeqGuard, isConstOp, aconvH, aofStr, aconvSame, isU8, abuildSlice, afill, splice, azeros, Nat.reduceLeDiff, Nat.reduceLT, Int.reduceLE, Int.reduceLT, Int.reduceEq, Int.reduceToNat, Int.reducePow, IntKind.bits, Int.reduceNeg, RB, aalloc, Go.PW.dig_length, tf77WdA])
    | (simp (disch := (first | omega | (simp only [RO]; done) | assumption | (simp only [RM, Go.PW.dig_length]; done) | (simp only [RL, Go.PW.dig_length]; omega))) only [RD, reduceCtorEq, reduceIte, Go.PW.dig_length, Nat.reduceLeDiff, Nat.reduceAdd, Nat.reduceMul, Int.reduceToNat, tf77WdA])
  refine AWp_loop (fun m fr' H' => ∃ (i : Nat) (ys : List Int), m = 16 - i ∧ i ≤ 16 ∧ fr' 1 = .ptr H.length 0 ∧ fr' 2 = .ptr (H.length + 1) 0 ∧ fr' 5 = W x ∧ fr' 6 = .int .i64 (i : Int) ∧ ys.length = 16 ∧ Limbs ys ∧ val (ys.take i) + val ((dig 16 x).take i) = Bs ^ i - 1 ∧ (H ++ [⟨ys.map (AV.int .u64), .own, 33⟩]) ++ [Wb 0] = H') (m := 16)
    ⟨0, dig 16 x, by omega, by omega, rfl, rfl, rfl, rfl, dig_length _ _, dig_limbs _ _, rfl, rfl⟩ ?_
  rintro m fr' H' ⟨i, ys, rfl, hi, k1, k2, k5, k6, hl, hys, hy, rfl⟩
  by_cases hlt : i < 16
  · have hd := (dig_limbs 16 x).get i
    repeat' first
      | (with_reducible first | refine AWp_seq_k (fun K hK => ?_) | refine AWp_block ?_ | refine AWp_skip ?_ | refine AWp_regionE ?_ | refine AWp_condI ?_)
      | (with_reducible refine AIte (fun hc => ?_) (fun hc => ?_) <;> (try simp only [RC] at hc) <;> (try (exfalso; first | omega | contradiction)))
      | (simp only [thenA, inBlockA, reduceIte, Nat.reduceEqDiff])
      | ((with_reducible refine hK _ _ ?_); clear hK)
      | (simp only [ACond, RA, EAtS_def, EAtX_def, wantedA, acall, astep, ev, ofValue, ofAtom, Nat.reduceEqDiff, Nat.reduceAdd, Nat.reduceMul, Nat.reduceSub, reduceCtorEq, reduceIte, aoptEv, abin, aint, ashift, aun, astr, aeqGuard, isConstOp, aconvH, aofStr, aconvSame, isU8, abuildSlice, afill, splice, azeros, Nat.reduceLeDiff, Nat.reduceLT, Int.reduceLE, Int.reduceLT, Int.reduceEq, Int.reduceToNat, Int.reducePow, IntKind.bits, Int.reduceNeg, RB, aalloc, Go.PW.dig_length, tf77WdA, k1, k2, k5, k6, not64 hd.1 hd.2])
      | (simp (disch := first | omega | (simp only [RO]; done) | assumption) only [RS, hl, ix33 (dig_length 16 x), idx32, slh32, idx33, slh33])
      | (simp (disch := (first | omega | (simp only [RO]; done) | assumption | (simp only [RM, Go.PW.dig_length]; done) | (simp only [RL, Go.PW.dig_length]; omega))) only [RD, reduceCtorEq, reduceIte, Go.PW.dig_length, Nat.reduceLeDiff, Nat.reduceAdd, Nat.reduceMul, Int.reduceToNat, tf77WdA, k1, k2, k5, k6, not64 hd.1 hd.2])
    have hv := val_take_succ (dig 16 x) (i := i) (by rw [dig_length]; exact hlt)
    have hv2 := val_take_succ (ys.set i (Bs - 1 - (dig 16 x).getD i 0)) (i := i) (by rw [List.length_set]; omega)
    rw [getD_set _ _ (by omega), if_pos rfl, List.take_set_of_le (Nat.le_refl _)] at hv2
    refine ⟨16 - (i + 1), by omega, i + 1, _, rfl, by omega, by rw [wrap_i64_id (by omega) (by omega)]; rfl, ?_, hys.set i (by omega), ?_, rfl⟩
    · rw [List.length_set]; exact hl
    · rw [hv, hv2, Int.pow_succ]
      have hp := Bs_pow_pos i
      generalize Bs ^ i = p at *
      generalize (dig 16 x).getD i 0 = d at *
      rw [Int.mul_sub, Int.mul_sub]
      omega
  · obtain rfl : i = 16 := by omega
    repeat' first
      | (with_reducible first | refine AWp_seq_k (fun K hK => ?_) | refine AWp_exit ?_ | refine AWp_ret ?_ | refine AWp_regionE ?_ | refine AWp_condI ?_)
      | (simp only [thenA, inBlockA, reduceIte, Nat.reduceEqDiff])
      | ((with_reducible refine hK _ _ ?_); clear hK)
      | (clear hK; (with_reducible refine hK _ _ ?_); clear hK)
      | (simp only [ACond, RA, EAtS_def, EAtX_def, wantedA, acall, astep, ev, ofValue, ofAtom, Nat.reduceEqDiff, Nat.reduceAdd, Nat.reduceMul, Nat.reduceSub, reduceCtorEq, reduceIte, aoptEv, abin, aint, ashift, aun, astr, aeqGuard, isConstOp, aconvH, aofStr, aconvSame, isU8, abuildSlice, afill, splice, azeros, Nat.reduceLeDiff, Nat.reduceLT, Int.reduceLE, Int.reduceLT, Int.reduceEq, Int.reduceToNat, Int.reducePow, IntKind.bits, Int.reduceNeg, RB, aalloc, Go.PW.dig_length, tf77WdA, k1, k2, k5, k6])
      | (simp (disch := (first | omega | (simp only [RO]; done) | assumption | (simp only [RM, Go.PW.dig_length]; done) | (simp only [RL, Go.PW.dig_length]; omega))) only [RD, reduceCtorEq, reduceIte, Go.PW.dig_length, Nat.reduceLeDiff, Nat.reduceAdd, Nat.reduceMul, Int.reduceToNat, tf77WdA, k1, k2, k5, k6])
    (
     (refine AEnd_gen (rs := [.cell 2 33]) rfl ?_)
     (simp only [AEndR, aresults, Fr.put_some, Fr.put_none, fr0_zero, fr0_succ, fr0_nil, Nat.reduceEqDiff, reduceIte, k2])
     (try simp (disch := (first | omega | (simp only [RO]; done) | assumption | (simp only [RM, Go.PW.dig_length]; done) | (simp only [RL, Go.PW.dig_length]; omega))) only [RD, reduceCtorEq, reduceIte, Go.PW.dig_length, Nat.reduceLeDiff, Nat.reduceAdd, Nat.reduceMul, Int.reduceToNat, tf77WdA, k2]))
    refine ⟨ext4 _ _, by simp [AV.lt, AV.lts_iff], ?_⟩
    have e1 : ys.take 16 = ys := List.take_of_length_le (by omega)
    have e2 : (dig 16 x).take 16 = dig 16 x := List.take_of_length_le (by rw [dig_length]; omega)
    rw [e1, e2, val_dig] at hy
    have : ys = dig 16 (-x - 1) := by
      refine dig_of_val hys hl ?_
      have h1 := val_bound hys
      rw [hl] at h1
      have h2 : (-x - 1) % Bs ^ 16 = val ys := by
        have hx := Int.emod_add_mul_ediv x (Bs ^ 16)
        generalize x / Bs ^ 16 = q at *
        generalize x % Bs ^ 16 = r at *
        generalize Bs ^ 16 = p at *
        have : -x - 1 = val ys + p * (-q - 1) := by rw [Int.mul_sub, Int.mul_neg]; omega
        rw [this, Int.add_mul_emod_self_left, Int.emod_eq_of_lt h1.1 h1.2]
      exact h2.symm
    rw [this]
end Go.Proofs.YtfalfmfkifemeaaGreatDoor
set_option linter.unusedVariables false
set_option linter.unusedSimpArgs false
namespace Go.Proofs.YtfalfmfkifemeaaGreatDoor
open Go.AL Go.PW
theorem tf76WdB : type_of% (And.intro @tyb3 (And.intro @tyb31 (And.intro @tyb32 (@tyb33)))) := And.intro @tyb3 (And.intro @tyb31 (And.intro @tyb32 (@tyb33)))
theorem tf49WdB : type_of% (And.intro @tyb31 (And.intro @tyb32 (@tyb33))) := And.intro @tyb31 (And.intro @tyb32 (@tyb33))
theorem tf46WdB : type_of% (And.intro @tyb2 (And.intro @tyb3 (And.intro @tyb31 (And.intro @tyb32 (And.intro @tyb33 (@cv2_31)))))) := And.intro @tyb2 (And.intro @tyb3 (And.intro @tyb31 (And.intro @tyb32 (And.intro @tyb33 (@cv2_31)))))
theorem tf106WdB : type_of% (And.intro @tyb31 (And.intro @tyb32 (@tyb33))) := And.intro @tyb31 (And.intro @tyb32 (@tyb33))
abbrev pn76_5WdB : Plan := (.one 0 (.one 1 (.one 2 (.one 3 (.one 4 (.one 5 (.one 6 (.one 7 (.one 8 (.one 9 (.one 10 (.one 11 (.one 12 (.one 13 (.one 14 .nil)))))))))))))))
set_option maxRecDepth 8000
theorem ext5 {H : Hp} (a b c : Blk) : Ext H (H ++ [a] ++ [b] ++ [c]) := (ext4 _ _).pushed _
theorem ext6 {H : Hp} (a b c d : Blk) : Ext H (H ++ [a] ++ [b] ++ [c] ++ [d]) := (ext5 _ _ _).pushed _
theorem plus_calls (x y c : Int) (H : Hp) (hc : 0 ≤ c ∧ c ≤ 1) : ACalls Tryz.prog 76 [W x, W y, .int .u64 c] H fun r H' => r = .tup [W (x + y + c), .int .u64 ((x % M + y % M + c) / M)] ∧ H = H' := by
  refine ACalls.drop (R := fun r => r = .tup [W (x + y + c), .int .u64 ((x % M + y % M + c) / M)]) ?_
  refine ACalls_body Tryz.func76 rfl (by kernel_rfl) (by kernel_rfl) ?_
  repeat' first
    | (with_reducible first | refine AWp_seq_k (fun K hK => ?_) | refine AWp_block ?_ | refine AWp_regionE ?_)
    | (simp only [thenA, inBlockA, reduceIte, Nat.reduceEqDiff])
    | ((with_reducible refine hK _ _ ?_); clear hK)
    | (simp only [ACond, RA, EAtS_def, EAtX_def, wantedA, acall, astep, ev, ofValue, ofAtom, Nat.reduceEqDiff, Nat.reduceAdd, Nat.reduceMul, Nat.reduceSub, reduceCtorEq, reduceIte, aoptEv, abin, aint, ashift, aun, astr, aeqGuard, isConstOp, aconvH, aofStr, aconvSame, isU8, abuildSlice, afill, splice, azeros, Nat.reduceLeDiff, Nat.reduceLT, Int.reduceLE, Int.reduceLT, Int.reduceEq, Int.reduceToNat, Int.reducePow, IntKind.bits, Int.reduceNeg, RB, aalloc, Go.PW.dig_length, tf76WdB])
  refine AWp_loop (fun m fr' H' => ∃ (i : Nat) (ys : List Int) (cc : Int), m = 16 - i ∧ i ≤ 16 ∧ fr' 2 = .int .u64 cc ∧ fr' 3 = .ptr H.length 0 ∧ fr' 4 = .ptr (H.length + 1) 0 ∧ fr' 6 = .ptr (H.length + 1 + 1) 0 ∧ fr' 8 = .ptr (H.length + 1 + 1 + 1) 0 ∧ fr' 10 = .int .i64 (i : Int) ∧ 0 ≤ cc ∧ cc ≤ 1 ∧ ys.length = 16 ∧ Limbs ys ∧
      val (ys.take i) + Bs ^ i * cc = val ((dig 16 x).take i) + val ((dig 16 y).take i) + c ∧ H ++ [Wb x] ++ [Wb y] ++ [Wb 0] ++ [⟨ys.map (AV.int .u64), .own, 33⟩] = H') (m := 16)
    ⟨0, dig 16 0, c, by omega, by omega, rfl, rfl, rfl, rfl, rfl, rfl, hc.1, hc.2, dig_length _ _, dig_limbs _ _, by simp [val], rfl⟩ ?_
  rintro m fr' H' ⟨i, ys, cc, rfl, hi, k2, k3, k4, k6, k8, k10, c0, c1, hl, hys, hy, rfl⟩
  by_cases hlt : i < 16
  · have hdx := (dig_limbs 16 x).get i
    have hdy := (dig_limbs 16 y).get i
    repeat' first
      | (with_reducible first | refine AWp_seq_k (fun K hK => ?_) | refine AWp_block ?_ | refine AWp_skip ?_ | refine AWp_regionE ?_ | refine AWp_drawE (id := 5) [] pn76_5WdB (by kernel_rfl) (by kernel_rfl) ?_ | refine AWp_condI ?_)
      | ((with_reducible refine ECall_introX (add64 _ _ _ _ hdx.1 hdy.1 ⟨c0, c1⟩) ?_); rintro _ _ ⟨rfl, rfl⟩)
      | (with_reducible refine AIte (fun hc => ?_) (fun hc => ?_) <;> (try simp only [RC] at hc) <;> (try (exfalso; first | omega | contradiction)))
      | (simp only [thenA, inBlockA, reduceIte, Nat.reduceEqDiff])
      | ((with_reducible refine hK _ _ ?_); clear hK)
      | (simp only [ACond, RA, EAtS_def, EAtX_def, wantedA, acall, astep, ev, ofValue, ofAtom, Nat.reduceEqDiff, Nat.reduceAdd, Nat.reduceMul, Nat.reduceSub, reduceCtorEq, reduceIte, aoptEv, abin, aint, ashift, aun, astr, aeqGuard, isConstOp, aconvH, aofStr, aconvSame, isU8, abuildSlice, afill, splice, azeros, Nat.reduceLeDiff, Nat.reduceLT, Int.reduceLE, Int.reduceLT, Int.reduceEq, Int.reduceToNat, Int.reducePow, IntKind.bits, Int.reduceNeg, RB, aalloc, Go.PW.dig_length, tf76WdB, k2, k3, k4, k6, k8, k10])
      | (simp (disch := first | omega | (simp only [RO]; done) | assumption) only [RS, hl, idx32, slh32, idx33, slh33])
      | (simp (disch := (first | omega | (simp only [RO]; done) | assumption | (simp only [RM, Go.PW.dig_length]; done) | (simp only [RL, Go.PW.dig_length]; omega))) only [RD, reduceCtorEq, reduceIte, Go.PW.dig_length, Nat.reduceLeDiff, Nat.reduceAdd, Nat.reduceMul, Int.reduceToNat, tf76WdB, k2, k3, k4, k6, k8, k10])
    generalize hS : (dig 16 x).getD i 0 + (dig 16 y).getD i 0 + cc = S
    have hS0 : 0 ≤ S ∧ S < 2 * Bs := by simp only [Bs] at *; omega
    have hm := Int.emod_add_mul_ediv S Bs
    have hm0 := Int.emod_nonneg S (b := Bs) (by decide)
    have hm1 := Int.emod_lt_of_pos S (b := Bs) (by decide)
    refine ⟨16 - (i + 1), by omega, i + 1, ys.set i (S % Bs), _, rfl, by omega, rfl, by rw [wrap_i64_id (by omega) (by omega)]; rfl, ?_, ?_, ?_, hys.set i ⟨hm0, hm1⟩, ?_, rfl⟩
    · simp only [Bs] at *; omega
    · simp only [Bs] at *; omega
    · rw [List.length_set]; exact hl
    · have hv := val_take_succ (dig 16 x) (i := i) (by rw [dig_length]; exact hlt)
      have hv' := val_take_succ (dig 16 y) (i := i) (by rw [dig_length]; exact hlt)
      have hv2 := val_take_succ (ys.set i (S % Bs)) (i := i) (by rw [List.length_set]; omega)
      rw [getD_set _ _ (by omega), if_pos rfl, List.take_set_of_le (Nat.le_refl _)] at hv2
      rw [hv, hv', hv2, Int.pow_succ]
      have : (dig 16 y).getD i 0 = S - (dig 16 x).getD i 0 - cc := by omega
      rw [this]
      generalize Bs ^ i = p at *
      have : p * S = p * (S % Bs) + p * Bs * (S / Bs) := by rw [Int.mul_assoc, ← Int.mul_add, hm]
      grind
  · obtain rfl : i = 16 := by omega
    repeat' first
      | (with_reducible first | refine AWp_seq_k (fun K hK => ?_) | refine AWp_exit ?_ | refine AWp_ret ?_ | refine AWp_regionE ?_ | refine AWp_condI ?_)
      | (simp only [thenA, inBlockA, reduceIte, Nat.reduceEqDiff])
      | ((with_reducible refine hK _ _ ?_); clear hK)
      | (clear hK; (with_reducible refine hK _ _ ?_); clear hK)
      | (simp only [ACond, RA, EAtS_def, EAtX_def, wantedA, acall, astep, ev, ofValue, ofAtom, Nat.reduceEqDiff, Nat.reduceAdd, Nat.reduceMul, Nat.reduceSub, reduceCtorEq, reduceIte, aoptEv, abin, aint, ashift, aun, astr, aeqGuard, isConstOp, aconvH, aofStr, aconvSame, isU8, abuildSlice, afill, splice, azeros, Nat.reduceLeDiff, Nat.reduceLT, Int.reduceLE, Int.reduceLT, Int.reduceEq, Int.reduceToNat, Int.reducePow, IntKind.bits, Int.reduceNeg, RB, aalloc, Go.PW.dig_length, tf76WdB, k2, k3, k4, k6, k8, k10])
      | (simp (disch := (first | omega | (simp only [RO]; done) | assumption | (simp only [RM, Go.PW.dig_length]; done) | (simp only [RL, Go.PW.dig_length]; omega))) only [RD, reduceCtorEq, reduceIte, Go.PW.dig_length, Nat.reduceLeDiff, Nat.reduceAdd, Nat.reduceMul, Int.reduceToNat, tf76WdB, k2, k3, k4, k6, k8, k10])
    (
     (refine AEnd_gen (rs := [.cell 6 33, .tmp 7]) rfl ?_)
     (simp only [AEndR, aresults, Fr.put_some, Fr.put_none, fr0_zero, fr0_succ, fr0_nil, Nat.reduceEqDiff, reduceIte, k2, k6])
     (try simp (disch := (first | omega | (simp only [RO]; done) | assumption | (simp only [RM, Go.PW.dig_length]; done) | (simp only [RL, Go.PW.dig_length]; omega))) only [RD, reduceCtorEq, reduceIte, Go.PW.dig_length, Nat.reduceLeDiff, Nat.reduceAdd, Nat.reduceMul, Int.reduceToNat, tf76WdB, k2, k6]))
    refine ⟨ext6 _ _ _ _, by simp [AV.lt, AV.lts, AV.lts_iff], ?_⟩
    have e1 : ys.take 16 = ys := List.take_of_length_le (by omega)
    have e2 : (dig 16 x).take 16 = dig 16 x := List.take_of_length_le (by rw [dig_length]; omega)
    have e3 : (dig 16 y).take 16 = dig 16 y := List.take_of_length_le (by rw [dig_length]; omega)
    rw [e1, e2, e3, val_M, val_M, ← M_pow] at hy
    have h1 := val_bound hys
    rw [hl, ← M_pow] at h1
    have hmx := M_pos
    have hq : (x % M + y % M + c) / M = cc := by
      rw [← hy, Int.add_mul_ediv_left _ _ (by omega), Int.ediv_eq_zero_of_lt h1.1 h1.2, Int.zero_add]
    have : ys = dig 16 (x + y + c) := by
      refine dig_of_val hys hl ?_
      have h2 : (x + y + c) % M = (x % M + y % M + c) % M := by
        rw [Int.add_emod (x + y), Int.add_emod x y, Int.add_emod (x % M + y % M) c]
      rw [← M_pow, h2, ← hy, Int.add_mul_emod_self_left, Int.emod_eq_of_lt h1.1 h1.2]
    rw [this, hq]
theorem W_lt (n : Nat) (x : Int) : AV.lt n (W x) := by simp [AV.lt, AV.lts_iff]
theorem W_tup_lt (n : Nat) (x : Int) {v : AV} (h : v.lt n) : AV.lt n (.tup [W x, v]) := by
  simp only [AV.lt, AV.lts]
  exact ⟨by have := W_lt n x; simpa only [AV.lt] using this, h, trivial⟩
theorem W_tupb_lt (n : Nat) (x : Int) (b : Bool) : AV.lt n (.tup [W x, .bool b]) := W_tup_lt n x (v := .bool b) trivial
theorem neg_calls (x : Int) (H : Hp) : ACalls Tryz.prog 49 [W x] H fun r H' => r = W (-x) ∧ H = H' := by
  refine ACalls.drop (R := fun r => r = W (-x)) ?_
  refine ACalls_body Tryz.func49 rfl (by kernel_rfl) (by kernel_rfl) ?_
  repeat' first
    | (with_reducible first | refine AWp_seq_k (fun K hK => ?_) | refine AWp_ret ?_ | refine AWp_regionE ?_)
    | ((with_reducible refine ECall_intro (inverse_calls _ _) ?_); rintro _ _ ⟨rfl, rfl⟩)
    | ((with_reducible refine ECall_intro (plus_calls _ _ _ _ (by decide)) ?_); rintro _ _ ⟨rfl, rfl⟩)
    | (simp only [thenA, inBlockA, reduceIte, Nat.reduceEqDiff])
    | ((with_reducible refine hK _ _ ?_); clear hK)
    | (simp only [ACond, RA, EAtS_def, EAtX_def, wantedA, acall, astep, ev, ofValue, ofAtom, Nat.reduceEqDiff, Nat.reduceAdd, Nat.reduceMul, Nat.reduceSub, reduceCtorEq, reduceIte, aoptEv, abin, aint, ashift, aun, astr, aeqGuard, isConstOp, aconvH, aofStr, aconvSame, isU8, abuildSlice, afill, splice, azeros, Nat.reduceLeDiff, Nat.reduceLT, Int.reduceLE, Int.reduceLT, Int.reduceEq, Int.reduceToNat, Int.reducePow, IntKind.bits, Int.reduceNeg, RB, aalloc, Go.PW.dig_length, tf49WdB])
    | (simp (disch := (first | omega | (simp only [RO]; done) | assumption | (simp only [RM, Go.PW.dig_length]; done) | (simp only [RL, Go.PW.dig_length]; omega))) only [RD, reduceCtorEq, reduceIte, Go.PW.dig_length, Nat.reduceLeDiff, Nat.reduceAdd, Nat.reduceMul, Int.reduceToNat, tf49WdB])
  (
   (refine AEnd_gen (rs := [.cell 2 33]) rfl ?_)
   (simp only [AEndR, aresults, Fr.put_some, Fr.put_none, fr0_zero, fr0_succ, fr0_nil, Nat.reduceEqDiff, reduceIte])
   (try simp (disch := (first | omega | (simp only [RO]; done) | assumption | (simp only [RM, Go.PW.dig_length]; done) | (simp only [RL, Go.PW.dig_length]; omega))) only [RD, reduceCtorEq, reduceIte, Go.PW.dig_length, Nat.reduceLeDiff, Nat.reduceAdd, Nat.reduceMul, Int.reduceToNat, tf49WdB]))
  exact ⟨ext5 _ _ _, W_lt _ _, by rw [show 0 + (-x - 1) + 1 = -x by omega]⟩
theorem top_shift {v : Int} (hv : -9223372036854775808 ≤ v ∧ v ≤ 9223372036854775807) (i : Nat) : IntKind.u64.wrap (v / 9223372036854775808) = v / Bs ^ (i + 1) % Bs := by
  rw [u64_wrap]
  have hp : ∀ n : Nat, (1 : Int) ≤ Bs ^ n := fun n => Bs_pow_pos n
  have hb : Bs ^ (i + 1) = 18446744073709551616 * Bs ^ i := by rw [Int.pow_succ, Int.mul_comm]
  have h1 := hp i
  have h2 : Bs ≤ Bs ^ (i + 1) := by
    rw [hb]
    have : 18446744073709551616 * 1 ≤ 18446744073709551616 * Bs ^ i := Int.mul_le_mul_of_nonneg_left h1 (by decide)
    simp only [Bs] at *
    omega
  have e : v / Bs ^ (i + 1) = v / 9223372036854775808 := by
    rcases Int.lt_or_le v 0 with h | h
    · have a : v / 9223372036854775808 = -1 := by omega
      have b : v / Bs ^ (i + 1) = -1 := by
        generalize Bs ^ (i + 1) = p at *
        simp only [Bs] at h2
        have : v = (v + p) + p * (-1) := by omega
        rw [this, Int.add_mul_ediv_left _ _ (by omega), Int.ediv_eq_zero_of_lt (by omega) (by omega)]
        rfl
      rw [a, b]
    · have a : v / 9223372036854775808 = 0 := by omega
      rw [a, Int.ediv_eq_zero_of_lt h (by simp only [Bs] at h2; omega)]
  rw [e]
theorem of_calls (v : Int) (H : Hp) (hv : -9223372036854775808 ≤ v ∧ v ≤ 9223372036854775807) : ACalls Tryz.prog 46 [.int .i64 v] H fun r H' => r = W v ∧ H = H' := by
  refine ACalls.drop (R := fun r => r = W v) ?_
  have h63 : (IntKind.i64.bits : Nat) = 64 := by decide
  refine ACalls_body Tryz.func46 rfl (by kernel_rfl) (by kernel_rfl) ?_
  repeat' first
    | (with_reducible first | refine AWp_seq_k (fun K hK => ?_) | refine AWp_block ?_ | refine AWp_regionE ?_)
    | (simp only [thenA, inBlockA, reduceIte, Nat.reduceEqDiff])
    | ((with_reducible refine hK _ _ ?_); clear hK)
    | (simp only [ACond, RA, EAtS_def, EAtX_def, wantedA, acall, astep, ev, ofValue, ofAtom, Nat.reduceEqDiff, Nat.reduceAdd, Nat.reduceMul, Nat.reduceSub, reduceCtorEq, reduceIte, aoptEv, abin, aint, ashift, aun, astr, aeqGuard, isConstOp, aconvH, aofStr, aconvSame, isU8, abuildSlice, afill, splice, azeros, Nat.reduceLeDiff, Nat.reduceLT, Int.reduceLE, Int.reduceLT, Int.reduceEq, Int.reduceToNat, Int.reducePow, IntKind.bits, Int.reduceNeg, RB, aalloc, Go.PW.dig_length, tf46WdB])
  refine AWp_loop (fun m fr' H' => ∃ (i : Nat) (ys : List Int), m = 16 - i ∧ i ≤ 16 ∧ fr' 0 = .int .i64 v ∧ fr' 2 = .ptr H.length 0 ∧ fr' 3 = .ptr (H.length + 1) 0 ∧ fr' 5 = .int .i64 (i : Int) ∧ ys.length = 16 ∧ (∀ j, j < i → 0 < j → ys.getD j 0 = v / Bs ^ j % Bs) ∧ H ++ [Wb 0] ++ [⟨ys.map (AV.int .u64), .own, 33⟩] = H') (m := 16)
    ⟨0, dig 16 0, by omega, by omega, rfl, rfl, rfl, rfl, dig_length _ _, fun j hj => by omega, rfl⟩ ?_
  rintro m fr' H' ⟨i, ys, rfl, hi, k0, k2, k3, k5, hl, hy, rfl⟩
  by_cases hlt : i < 16
  · skip
    repeat' first
      | (with_reducible first | refine AWp_seq_k (fun K hK => ?_) | refine AWp_block ?_ | refine AWp_skip ?_ | refine AWp_regionE ?_ | refine AWp_condI ?_)
      | (with_reducible refine AIte (fun hc => ?_) (fun hc => ?_) <;> (try simp only [RC] at hc) <;> (try (exfalso; first | omega | contradiction)))
      | (simp only [thenA, inBlockA, reduceIte, Nat.reduceEqDiff])
      | ((with_reducible refine hK _ _ ?_); clear hK)
      | (simp only [ACond, RA, EAtS_def, EAtX_def, wantedA, acall, astep, ev, ofValue, ofAtom, Nat.reduceEqDiff, Nat.reduceAdd, Nat.reduceMul, Nat.reduceSub, reduceCtorEq, reduceIte, aoptEv, abin, aint, ashift, aun, astr, aeqGuard, isConstOp, aconvH, aofStr, aconvSame, isU8, abuildSlice, afill, splice, azeros, Nat.reduceLeDiff, Nat.reduceLT, Int.reduceLE, Int.reduceLT, Int.reduceEq, Int.reduceToNat, Int.reducePow, IntKind.bits, Int.reduceNeg, RB, aalloc, Go.PW.dig_length, tf46WdB, k0, k2, k3, k5, h63])
      | (simp (disch := first | omega | (simp only [RO]; done) | assumption) only [RS, hl, idx32, slh32, idx33, slh33])
      | (simp (disch := (first | omega | (simp only [RO]; done) | assumption | (simp only [RM, Go.PW.dig_length]; done) | (simp only [RL, Go.PW.dig_length]; omega))) only [RD, reduceCtorEq, reduceIte, Go.PW.dig_length, Nat.reduceLeDiff, Nat.reduceAdd, Nat.reduceMul, Int.reduceToNat, tf46WdB, k0, k2, k3, k5, h63])
    refine ⟨16 - (i + 1), by omega, i + 1, _, rfl, by omega, by rw [wrap_i64_id (by omega) (by omega)]; rfl, by rw [List.length_set]; exact hl, ?_, rfl⟩
    intro j hj h0
    rw [getD_set _ _ (by omega)]
    by_cases he : j = i
    · subst he
      rw [if_pos rfl]
      obtain ⟨k, rfl⟩ : ∃ k, j = k + 1 := ⟨j - 1, by omega⟩
      exact top_shift hv k
    · rw [if_neg he]; exact hy j (by omega) h0
  · obtain rfl : i = 16 := by omega
    repeat' first
      | (with_reducible first | refine AWp_seq_k (fun K hK => ?_) | refine AWp_exit ?_ | refine AWp_ret ?_ | refine AWp_regionE ?_ | refine AWp_condI ?_)
      | (simp only [thenA, inBlockA, reduceIte, Nat.reduceEqDiff])
      | ((with_reducible refine hK _ _ ?_); clear hK)
      | (clear hK; (with_reducible refine hK _ _ ?_); clear hK)
      | (simp only [ACond, RA, EAtS_def, EAtX_def, wantedA, acall, astep, ev, ofValue, ofAtom, Nat.reduceEqDiff, Nat.reduceAdd, Nat.reduceMul, Nat.reduceSub, reduceCtorEq, reduceIte, aoptEv, abin, aint, ashift, aun, astr, aeqGuard, isConstOp, aconvH, aofStr, aconvSame, isU8, abuildSlice, afill, splice, azeros, Nat.reduceLeDiff, Nat.reduceLT, Int.reduceLE, Int.reduceLT, Int.reduceEq, Int.reduceToNat, Int.reducePow, IntKind.bits, Int.reduceNeg, RB, aalloc, Go.PW.dig_length, tf46WdB, k0, k2, k3, k5])
      | (simp (disch := first | omega | (simp only [RO]; done) | assumption) only [RS, hl, idx32, slh32, idx33, slh33])
      | (simp (disch := (first | omega | (simp only [RO]; done) | assumption | (simp only [RM, Go.PW.dig_length]; done) | (simp only [RL, Go.PW.dig_length]; omega))) only [RD, reduceCtorEq, reduceIte, Go.PW.dig_length, Nat.reduceLeDiff, Nat.reduceAdd, Nat.reduceMul, Int.reduceToNat, tf46WdB, k0, k2, k3, k5])
    (
     (refine AEnd_gen (rs := [.cell 2 33]) rfl ?_)
     (simp only [AEndR, aresults, Fr.put_some, Fr.put_none, fr0_zero, fr0_succ, fr0_nil, Nat.reduceEqDiff, reduceIte, k2])
     (try simp (disch := (first | omega | (simp only [RO]; done) | assumption | (simp only [RM, Go.PW.dig_length]; done) | (simp only [RL, Go.PW.dig_length]; omega))) only [RD, reduceCtorEq, reduceIte, Go.PW.dig_length, Nat.reduceLeDiff, Nat.reduceAdd, Nat.reduceMul, Int.reduceToNat, tf46WdB, k2]))
    have : ys.set 0 (IntKind.u64.wrap v) = dig 16 v := by
      apply List.ext_getElem
      · rw [List.length_set, hl, dig_length]
      · intro j h1 h2
        rw [dig_length] at h2
        have e1 := getD_set ys (IntKind.u64.wrap v) (i := 0) (by omega) j
        have e2 := getD_dig 16 v j h2
        rw [List.getD_eq_getElem?_getD, List.getElem?_eq_getElem h1] at e1
        rw [List.getD_eq_getElem?_getD, List.getElem?_eq_getElem (by rw [dig_length]; exact h2)] at e2
        simp only [Option.getD_some] at e1 e2
        rw [e1, e2]
        by_cases h0 : j = 0
        · subst h0; rw [if_pos rfl, u64_wrap]; simp
        · rw [if_neg h0]; exact hy j (by omega) (by omega)
    rw [this]
    exact ⟨ext4 _ _, W_lt _ _, rfl⟩
set_option maxRecDepth 4000 in
theorem amount_calls (x : Int) (H : Hp) (hx : In x) : ACalls Tryz.prog 106 [W x] H fun r H' => r = W (x.natAbs : Int) ∧ H = H' := by
  refine ACalls.drop (R := fun r => r = W (x.natAbs : Int)) ?_
  have hn := neg_iff hx
  refine ACalls_body Tryz.func106 rfl (by kernel_rfl) (by kernel_rfl) ?_
  repeat' first
    | (with_reducible first | refine AWp_seq_k (fun K hK => ?_) | refine AWp_skip ?_ | refine AWp_ret ?_ | refine AWp_regionE ?_ | refine AWp_condI ?_)
    | ((with_reducible refine ECall_intro (below_calls _ _) ?_); rintro _ _ ⟨rfl, rfl⟩)
    | ((with_reducible refine ECall_intro (neg_calls _ _) ?_); rintro _ _ ⟨rfl, rfl⟩)
    | (with_reducible refine AIte (fun hc => ?_) (fun hc => ?_) <;> (try simp only [RC] at hc) <;> (try (exfalso; first | omega | contradiction)))
    | (simp only [thenA, inBlockA, reduceIte, Nat.reduceEqDiff])
    | ((with_reducible refine hK _ _ ?_); clear hK)
    | (simp only [ACond, RA, EAtS_def, EAtX_def, wantedA, acall, astep, ev, ofValue, ofAtom, Nat.reduceEqDiff, Nat.reduceAdd, Nat.reduceMul, Nat.reduceSub, reduceCtorEq, reduceIte, aoptEv, abin, aint, ashift, aun, astr, aeqGuard, isConstOp, aconvH, aofStr, aconvSame, isU8, abuildSlice, afill, splice, azeros, Nat.reduceLeDiff, Nat.reduceLT, Int.reduceLE, Int.reduceLT, Int.reduceEq, Int.reduceToNat, Int.reducePow, IntKind.bits, Int.reduceNeg, RB, aalloc, Go.PW.dig_length, tf106WdB, hn])
    | (simp (disch := (first | omega | (simp only [RO]; done) | assumption | (simp only [RM, Go.PW.dig_length]; done) | (simp only [RL, Go.PW.dig_length]; omega))) only [RD, reduceCtorEq, reduceIte, Go.PW.dig_length, Nat.reduceLeDiff, Nat.reduceAdd, Nat.reduceMul, Int.reduceToNat, tf106WdB, hn])
  · skip
    (
     (refine AEnd_gen (rs := [.cell 2 33]) rfl ?_)
     (simp only [AEndR, aresults, Fr.put_some, Fr.put_none, fr0_zero, fr0_succ, fr0_nil, Nat.reduceEqDiff, reduceIte])
     (try simp (disch := (first | omega | (simp only [RO]; done) | assumption | (simp only [RM, Go.PW.dig_length]; done) | (simp only [RL, Go.PW.dig_length]; omega))) only [RD, reduceCtorEq, reduceIte, Go.PW.dig_length, Nat.reduceLeDiff, Nat.reduceAdd, Nat.reduceMul, Int.reduceToNat, tf106WdB]))
    exact ⟨ext4 _ _, W_lt _ _, by rw [show (x.natAbs : Int) = -x by omega]⟩
  · skip
    (
     (refine AEnd_gen (rs := [.cell 2 33]) rfl ?_)
     (simp only [AEndR, aresults, Fr.put_some, Fr.put_none, fr0_zero, fr0_succ, fr0_nil, Nat.reduceEqDiff, reduceIte])
     (try simp (disch := (first | omega | (simp only [RO]; done) | assumption | (simp only [RM, Go.PW.dig_length]; done) | (simp only [RL, Go.PW.dig_length]; omega))) only [RD, reduceCtorEq, reduceIte, Go.PW.dig_length, Nat.reduceLeDiff, Nat.reduceAdd, Nat.reduceMul, Int.reduceToNat, tf106WdB]))
    exact ⟨ext4 _ _, W_lt _ _, by rw [show (x.natAbs : Int) = x by omega]⟩
end Go.Proofs.YtfalfmfkifemeaaGreatDoor
set_option linter.unusedVariables false
set_option linter.unusedSimpArgs false
namespace Go.Proofs.YtfalfmfkifemeaaGreatDoor
open Go.AL Go.PW
theorem tf74WdC : type_of% (And.intro @tyb31 (And.intro @tyb32 (@tyb33))) := And.intro @tyb31 (And.intro @tyb32 (@tyb33))
set_option maxRecDepth 8000
theorem W_eq (x y : Int) : aeqIn Tryz.prog Op.maxDepth 33 (W x) (W y) = some (decide (x % M = y % M)) := by
  rw [eq_arr und33 size31 agg31 und31 (dig_length _ _) (dig_length _ _)]
  congr 1
  rw [decide_eq_decide]
  constructor
  · intro h
    have := congrArg val h
    rwa [val_M, val_M] at this
  · exact dig_M
theorem mod_inj {x y : Int} (hx : In x) (hy : In y) : x % M = y % M ↔ x = y := by
  refine ⟨fun h => ?_, fun h => by rw [h]⟩
  have hm := M_two
  have hp := Mh_pos
  obtain ⟨a, b⟩ := hx
  obtain ⟨c, d⟩ := hy
  have h1 : (x - y) % M = 0 := by rw [Int.sub_emod, h]; simp
  obtain ⟨k, hk⟩ := Int.dvd_of_emod_eq_zero h1
  have hk0 : k = 0 := by
    rcases Int.lt_trichotomy k 0 with h | h | h
    · have : M * k ≤ M * (-1) := Int.mul_le_mul_of_nonneg_left (by omega) (by omega)
      omega
    · exact h
    · have : M * 1 ≤ M * k := Int.mul_le_mul_of_nonneg_left (by omega) (by omega)
      omega
  rw [hk0] at hk
  omega
theorem In.zero : In 0 := ⟨by have := Mh_pos; omega, Mh_pos⟩
theorem nought_iff {x : Int} (h : In x) : decide (x % M = 0 % M) = decide (x = 0) := by
  rw [decide_eq_decide]; exact mod_inj h In.zero
theorem sign_calls (x : Int) (H : Hp) (hx : In x) : ACalls Tryz.prog 74 [W x] H fun r H' => r = .int .i64 x.sign ∧ H = H' := by
  refine ACalls.drop (R := fun r => r = .int .i64 x.sign) ?_
  have hn := neg_iff hx
  have hz := nought_iff hx
  refine ACalls_body Tryz.func74 rfl (by kernel_rfl) (by kernel_rfl) ?_
  repeat' first
    | (with_reducible first | refine AWp_seq_k (fun K hK => ?_) | refine AWp_block ?_ | refine AWp_skip ?_ | refine AWp_ret ?_ | refine AWp_regionE ?_ | refine AWp_condI ?_)
    | ((with_reducible refine ECall_intro (below_calls _ _) ?_); rintro _ _ ⟨rfl, rfl⟩)
    | (with_reducible refine AIte (fun hc => ?_) (fun hc => ?_) <;> (try simp only [RC] at hc) <;> (try (exfalso; first | omega | contradiction)))
    | (simp only [thenA, inBlockA, reduceIte, Nat.reduceEqDiff])
    | ((with_reducible refine hK _ _ ?_); clear hK)
    | (simp only [ACond, RA, EAtS_def, EAtX_def, wantedA, acall, astep, ev, ofValue, ofAtom, Nat.reduceEqDiff, Nat.reduceAdd, Nat.reduceMul, Nat.reduceSub, reduceCtorEq, reduceIte, aoptEv, abin, aint, ashift, aun, astr, aeqGuard, isConstOp, aconvH, aofStr, aconvSame, isU8, abuildSlice, afill, splice, azeros, Nat.reduceLeDiff, Nat.reduceLT, Int.reduceLE, Int.reduceLT, Int.reduceEq, Int.reduceToNat, Int.reducePow, IntKind.bits, Int.reduceNeg, RB, aalloc, Go.PW.dig_length, tf74WdC, hn, hz, W_eq])
    | (simp (disch := (first | omega | (simp only [RO]; done) | assumption | (simp only [RM, Go.PW.dig_length]; done) | (simp only [RL, Go.PW.dig_length]; omega))) only [RD, reduceCtorEq, reduceIte, Go.PW.dig_length, Nat.reduceLeDiff, Nat.reduceAdd, Nat.reduceMul, Int.reduceToNat, tf74WdC, hn, hz, W_eq])
  all_goals
    (
     (refine AEnd_gen (rs := [.tmp 2]) rfl ?_)
     (simp only [AEndR, aresults, Fr.put_some, Fr.put_none, fr0_zero, fr0_succ, fr0_nil, Nat.reduceEqDiff, reduceIte])
     (try simp (disch := (first | omega | (simp only [RO]; done) | assumption | (simp only [RM, Go.PW.dig_length]; done) | (simp only [RL, Go.PW.dig_length]; omega))) only [RD, reduceCtorEq, reduceIte, Go.PW.dig_length, Nat.reduceLeDiff, Nat.reduceAdd, Nat.reduceMul, Int.reduceToNat, tf74WdC]))
  · exact ⟨Ext.push _ _, trivial, by rw [Int.sign_eq_neg_one_of_neg (show x < 0 by omega)]⟩
  · exact ⟨Ext.push _ _, trivial, by have h0 : x = 0 := by omega
                                     rw [h0]; rfl⟩
  · exact ⟨Ext.push _ _, trivial, by rw [Int.sign_eq_one_of_pos (show 0 < x by omega)]⟩
end Go.Proofs.YtfalfmfkifemeaaGreatDoor
set_option linter.unusedVariables false
set_option linter.unusedSimpArgs false
namespace Go.Proofs.YtfalfmfkifemeaaGreatDoor
open Go.AL Go.PW
theorem tf86WdD : type_of% (And.intro @tyb4 (And.intro @tyb31 (And.intro @tyb32 (@tyb33)))) := And.intro @tyb4 (And.intro @tyb31 (And.intro @tyb32 (@tyb33)))
abbrev pn86_1WdD : Plan := (.one 1 (.pur 2 (.one 0 (.pur 3 (.one 4 (.one 5 (.one 6 (.one 7 (.one 8 (.one 9 .nil))))))))))
abbrev pn86_2WdD : Plan := (.one 0 (.pur 1 (.one 2 (.one 3 (.one 4 (.one 5 (.one 6 (.pur 7 (.one 8 (.one 9 (.one 10 (.one 11 .nil))))))))))))
set_option maxRecDepth 8000
set_option maxHeartbeats 1000000 in
theorem sub_signs (x y : Int) (p q s : Bool) (H : Hp) (hn : decide (Mh ≤ x % M) = p) (hm : decide (Mh ≤ y % M) = q) (hk : decide (Mh ≤ (x - y) % M) = s) (hs : ¬ p = q → s = p) : ACalls Tryz.prog 86 [W x, W y] H fun r H' => r = .tup [W (x - y), .bool true] ∧ H = H' := by
  refine ACalls.drop (R := fun r => r = .tup [W (x - y), .bool true]) ?_
  have e0 : x + (-y - 1) + 1 = x - y := by omega
  refine ACalls_body Tryz.func86 rfl (by kernel_rfl) (by kernel_rfl) ?_
  repeat' first
    | (with_reducible first | refine AWp_seq_k (fun K hK => ?_) | refine AWp_regionE ?_)
    | (simp only [thenA, inBlockA, reduceIte, Nat.reduceEqDiff])
    | ((with_reducible refine hK _ _ ?_); clear hK)
    | (simp only [ACond, RA, EAtS_def, EAtX_def, wantedA, acall, astep, ev, ofValue, ofAtom, Nat.reduceEqDiff, Nat.reduceAdd, Nat.reduceMul, Nat.reduceSub, reduceCtorEq, reduceIte, aoptEv, abin, aint, ashift, aun, astr, aeqGuard, isConstOp, aconvH, aofStr, aconvSame, isU8, abuildSlice, afill, splice, azeros, Nat.reduceLeDiff, Nat.reduceLT, Int.reduceLE, Int.reduceLT, Int.reduceEq, Int.reduceToNat, Int.reducePow, IntKind.bits, Int.reduceNeg, RB, aalloc, Go.PW.dig_length, tf86WdD])
  refine AWp_cut (fun fr' H' => fr' 2 = .ptr H.length 0 ∧ fr' 3 = .ptr (H.length + 1) 0 ∧ fr' 4 = .ptr (H.length + 1 + 1) 0 ∧ fr' 6 = .ptr (H.length + 1 + 1 + 1) 0 ∧ H ++ [Wb x] ++ [Wb y] ++ [Wb 0] ++ [Wb (x - y)] = H') ?_ (fun fr' H' h => hK _ _ ?_)
  · clear hK
    repeat' first
      | (with_reducible first | refine AWp_drawE (id := 1) [] pn86_1WdD (by kernel_rfl) (by kernel_rfl) ?_ | refine Run_pur ?_)
      | (with_reducible refine EPure_intro (fun _ x => (inverse_calls _ _)) ?_)
      | (with_reducible refine EPure_intro (fun _ x => (plus_calls _ _ _ _ (by decide))) ?_)
      | (with_reducible refine And.intro ?_ ?_)
      | (simp only [thenA, inBlockA, reduceIte, Nat.reduceEqDiff])
      | (simp only [ACond, RA, EAtS_def, EAtX_def, wantedA, acall, astep, ev, ofValue, ofAtom, Nat.reduceEqDiff, Nat.reduceAdd, Nat.reduceMul, Nat.reduceSub, reduceCtorEq, reduceIte, aoptEv, abin, aint, ashift, aun, astr, aeqGuard, isConstOp, aconvH, aofStr, aconvSame, isU8, abuildSlice, afill, splice, azeros, Nat.reduceLeDiff, Nat.reduceLT, Int.reduceLE, Int.reduceLT, Int.reduceEq, Int.reduceToNat, Int.reducePow, IntKind.bits, Int.reduceNeg, RB, aalloc, Go.PW.dig_length, tf86WdD, e0])
      | (simp (disch := (first | omega | (simp only [RO]; done) | assumption | (simp only [RM, Go.PW.dig_length]; done) | (simp only [RL, Go.PW.dig_length]; omega))) only [RD, reduceCtorEq, reduceIte, Go.PW.dig_length, Nat.reduceLeDiff, Nat.reduceAdd, Nat.reduceMul, Int.reduceToNat, tf86WdD, e0])
    all_goals exact ⟨rfl, rfl, rfl, rfl, rfl⟩
  · clear hK
    obtain ⟨k2, k3, k4, k6, rfl⟩ := h
    cases p <;> cases q <;> cases s <;> (try (exfalso; exact absurd hs (by decide)))
    repeat' first
      | (with_reducible first | refine AWp_seq_k (fun K hK => ?_) | refine AWp_skip ?_ | refine AWp_ret ?_ | refine AWp_regionE ?_ | refine AWp_drawE (id := 2) [] pn86_2WdD (by kernel_rfl) (by kernel_rfl) ?_ | refine AWp_condI ?_ | refine Run_pur ?_)
      | (with_reducible refine EPure_intro (fun _ x => (below_calls _ _)) ?_)
      | ((with_reducible refine ECall_intro (below_calls _ _) ?_); rintro _ _ ⟨rfl, rfl⟩)
      | (simp only [thenA, inBlockA, reduceIte, Nat.reduceEqDiff])
      | ((with_reducible refine hK _ _ ?_); clear hK)
      | (simp only [ACond, RA, EAtS_def, EAtX_def, wantedA, acall, astep, ev, ofValue, ofAtom, Nat.reduceEqDiff, Nat.reduceAdd, Nat.reduceMul, Nat.reduceSub, reduceCtorEq, reduceIte, aoptEv, abin, aint, ashift, aun, astr, aeqGuard, isConstOp, aconvH, aofStr, aconvSame, isU8, abuildSlice, afill, splice, azeros, Nat.reduceLeDiff, Nat.reduceLT, Int.reduceLE, Int.reduceLT, Int.reduceEq, Int.reduceToNat, Int.reducePow, IntKind.bits, Int.reduceNeg, RB, aalloc, Go.PW.dig_length, tf86WdD, k2, k3, k4, k6, hn, hm, hk])
      | (simp (disch := (first | omega | (simp only [RO]; done) | assumption | (simp only [RM, Go.PW.dig_length]; done) | (simp only [RL, Go.PW.dig_length]; omega))) only [RD, reduceCtorEq, reduceIte, Go.PW.dig_length, Nat.reduceLeDiff, Nat.reduceAdd, Nat.reduceMul, Int.reduceToNat, tf86WdD, k2, k3, k4, k6, hn, hm, hk])
    all_goals
      (
       (refine AEnd_gen (rs := [.cell 4 33, .tmp 5]) rfl ?_)
       (simp only [AEndR, aresults, Fr.put_some, Fr.put_none, fr0_zero, fr0_succ, fr0_nil, Nat.reduceEqDiff, reduceIte, k4])
       (try simp (disch := (first | omega | (simp only [RO]; done) | assumption | (simp only [RM, Go.PW.dig_length]; done) | (simp only [RL, Go.PW.dig_length]; omega))) only [RD, reduceCtorEq, reduceIte, Go.PW.dig_length, Nat.reduceLeDiff, Nat.reduceAdd, Nat.reduceMul, Int.reduceToNat, tf86WdD, k4]))
    all_goals exact ⟨ext6 _ _ _ _, W_tupb_lt _ _ _⟩
theorem sub_calls (x y : Int) (H : Hp) (hx : In x) (hy : In y) (hs : In (x - y)) : ACalls Tryz.prog 86 [W x, W y] H fun r H' => r = .tup [W (x - y), .bool true] ∧ H = H' :=
  sub_signs x y _ _ _ H (neg_iff hx) (neg_iff hy) (neg_iff hs) fun h => by
    rw [decide_eq_decide] at h ⊢
    omega
end Go.Proofs.YtfalfmfkifemeaaGreatDoor

/- A part of the proofs of this seat: CrcP. No condition. -/
import Derived.Test.YtdlplfhkmhkngaaCrcB
set_option linter.unusedVariables false
set_option linter.unusedSimpArgs false
namespace Go.Proofs.Ytdlplfhkmhkngaa
open Go.AL

theorem u16_wrap (n : Int) : IntKind.u16.wrap n = n % 65536 := by
  have e : ((2 : Int) ^ IntKind.u16.bits) = 65536 := by decide
  simp only [IntKind.wrap, IntKind.signed, Bool.false_and, Bool.false_eq_true, if_false, e]

theorem xor16 {x y : Int} (hx : 0 ≤ x) (hx' : x < 65536) (hy : 0 ≤ y) (hy' : y < 65536) : bits .xor .u16 x y = ((x.toNat ^^^ y.toNat : Nat) : Int) := by
  obtain ⟨a, rfl⟩ := Int.eq_ofNat_of_zero_le hx
  obtain ⟨b, rfl⟩ := Int.eq_ofNat_of_zero_le hy
  have ha : a < 2 ^ 16 := by omega
  have hb : b < 2 ^ 16 := by omega
  have hab := Nat.xor_lt_two_pow ha hb
  unfold bits
  simp only
  rw [u16_wrap]
  have h1 : (BitVec.ofInt IntKind.u16.bits (a : Int) ^^^ BitVec.ofInt IntKind.u16.bits (b : Int)).toNat = a ^^^ b := by
    have e : ∀ n : Nat, n < 2 ^ 16 → (BitVec.ofInt IntKind.u16.bits (n : Int)).toNat = n := by
      intro n hn
      rw [BitVec.toNat_ofInt]
      have : ((2 : Nat) ^ IntKind.u16.bits) = 65536 := by decide
      rw [this]
      omega
    rw [BitVec.toNat_xor, e a ha, e b hb]
  rw [h1]
  simp only [Int.toNat_natCast]
  omega

theorem u8_wrap (n : Int) : IntKind.u8.wrap n = n % 256 := by
  have e : ((2 : Int) ^ IntKind.u8.bits) = 256 := by decide
  simp only [IntKind.wrap, IntKind.signed, Bool.false_and, Bool.false_eq_true, if_false, e]

theorem xor8 {x y : Int} (hx : 0 ≤ x) (hx' : x < 256) (hy : 0 ≤ y) (hy' : y < 256) : bits .xor .u8 x y = ((x.toNat ^^^ y.toNat : Nat) : Int) := by
  obtain ⟨a, rfl⟩ := Int.eq_ofNat_of_zero_le hx
  obtain ⟨b, rfl⟩ := Int.eq_ofNat_of_zero_le hy
  have ha : a < 2 ^ 8 := by omega
  have hb : b < 2 ^ 8 := by omega
  have hab := Nat.xor_lt_two_pow ha hb
  unfold bits
  simp only
  rw [u8_wrap]
  have h1 : (BitVec.ofInt IntKind.u8.bits (a : Int) ^^^ BitVec.ofInt IntKind.u8.bits (b : Int)).toNat = a ^^^ b := by
    have e : ∀ n : Nat, n < 2 ^ 8 → (BitVec.ofInt IntKind.u8.bits (n : Int)).toNat = n := by
      intro n hn
      rw [BitVec.toNat_ofInt]
      have : ((2 : Nat) ^ IntKind.u8.bits) = 256 := by decide
      rw [this]
      omega
    rw [BitVec.toNat_xor, e a ha, e b hb]
  rw [h1]
  simp only [Int.toNat_natCast]
  omega

theorem crcT_eq {s : Int} (h0 : 0 ≤ s) (h1 : s < 65536) : crcT s = (((s * 2 % 65536).toNat ^^^ (s / 32768 * 4129).toNat : Nat) : Int) := by
  unfold crcT
  rw [u16_wrap, u16_wrap]
  have h2 : s / 32768 * 4129 % 65536 = s / 32768 * 4129 := by omega
  rw [h2]
  exact xor16 (by omega) (by omega) (by omega) (by omega)
theorem crcT_range {s : Int} (h0 : 0 ≤ s) (h1 : s < 65536) : 0 ≤ crcT s ∧ crcT s < 65536 := by
  rw [crcT_eq h0 h1]
  have : ((s * 2 % 65536).toNat ^^^ (s / 32768 * 4129).toNat) < 2 ^ 16 := Nat.xor_lt_two_pow (by omega) (by omega)
  omega
theorem crcTn_range : ∀ (n : Nat) {s : Int}, 0 ≤ s → s < 65536 → 0 ≤ crcTn n s ∧ crcTn n s < 65536
  | 0, _, h0, h1 => ⟨h0, h1⟩
  | n + 1, _, h0, h1 => crcTn_range n (crcT_range h0 h1).1 (crcT_range h0 h1).2
theorem crcIn_eq {s b : Int} (h0 : 0 ≤ s) (h1 : s < 65536) (hb : 0 ≤ b) (hb' : b < 256) : crcIn s b = ((s.toNat ^^^ (b * 256).toNat : Nat) : Int) := by
  unfold crcIn
  rw [u16_wrap, u16_wrap]
  have : b % 65536 * 256 % 65536 = b * 256 := by omega
  rw [this]
  exact xor16 h0 h1 (by omega) (by omega)
theorem crcIn_range {s b : Int} (h0 : 0 ≤ s) (h1 : s < 65536) (hb : 0 ≤ b) (hb' : b < 256) : 0 ≤ crcIn s b ∧ crcIn s b < 65536 := by
  rw [crcIn_eq h0 h1 hb hb']
  have : (s.toNat ^^^ (b * 256).toNat) < 2 ^ 16 := Nat.xor_lt_two_pow (by omega) (by omega)
  omega
theorem crcMore_range {s b : Int} (h0 : 0 ≤ s) (h1 : s < 65536) (hb : 0 ≤ b) (hb' : b < 256) : 0 ≤ crcMore s b ∧ crcMore s b < 65536 :=
  crcTn_range 8 (crcIn_range h0 h1 hb hb').1 (crcIn_range h0 h1 hb hb').2

/-- The reference's way. -/
theorem crcT_one {s : Int} (h0 : 32768 ≤ s) (h1 : s < 65536) : bits .xor .u16 (IntKind.u16.wrap (s * 2)) 4129 = crcT s := by
  unfold crcT
  have : s / 32768 = 1 := by omega
  rw [this]
  rfl
theorem crcT_nought {s : Int} (h0 : 0 ≤ s) (h1 : s < 32768) : IntKind.u16.wrap (s * 2) = crcT s := by
  rw [crcT_eq h0 (by omega)]
  rw [u16_wrap]
  have : s / 32768 * 4129 = 0 := by omega
  rw [this]
  simp
  omega

/-! ### No two come to one -/
theorem xor_inj {a b c : Nat} (h : a ^^^ c = b ^^^ c) : a = b := by
  have := congrArg (· ^^^ c) h
  simpa [Nat.xor_assoc] using this
theorem xor_inj' {a b c : Nat} (h : c ^^^ a = c ^^^ b) : a = b := by
  rw [Nat.xor_comm c a, Nat.xor_comm c b] at h
  exact xor_inj h

theorem crcT_inj {s t : Int} (h0 : 0 ≤ s) (h1 : s < 65536) (g0 : 0 ≤ t) (g1 : t < 65536) (h : crcT s = crcT t) : s = t := by
  rw [crcT_eq h0 h1, crcT_eq g0 g1] at h
  have h' : ((s * 2 % 65536).toNat ^^^ (s / 32768 * 4129).toNat) = ((t * 2 % 65536).toNat ^^^ (t / 32768 * 4129).toNat) := Int.ofNat.inj h
  have par : ∀ x : Int, 0 ≤ x → x < 65536 → ((x * 2 % 65536).toNat ^^^ (x / 32768 * 4129).toNat) % 2 = (x / 32768).toNat := by
    intro x hx hx'
    have : ∀ a b : Nat, (a ^^^ b) % 2 = (a % 2 + b % 2) % 2 := by
      intro a b
      have h1 := Nat.xor_mod_two_pow (a := a) (b := b) (n := 1)
      simp only [Nat.pow_one] at h1
      rw [h1]
      rcases Nat.mod_two_eq_zero_or_one a with e | e <;> rcases Nat.mod_two_eq_zero_or_one b with e' | e' <;> rw [e, e'] <;> rfl
    rw [this]
    omega
  have hp : (s / 32768).toNat = (t / 32768).toNat := by rw [← par s h0 h1, ← par t g0 g1, h']
  have hq : s / 32768 = t / 32768 := by omega
  rw [hq] at h'
  have := xor_inj h'
  omega
theorem crcTn_inj : ∀ (n : Nat) {s t : Int}, 0 ≤ s → s < 65536 → 0 ≤ t → t < 65536 → crcTn n s = crcTn n t → s = t
  | 0, _, _, _, _, _, _, h => h
  | n + 1, _, _, h0, h1, g0, g1, h => crcT_inj h0 h1 g0 g1 (crcTn_inj n (crcT_range h0 h1).1 (crcT_range h0 h1).2 (crcT_range g0 g1).1 (crcT_range g0 g1).2 h)
theorem crcMore_inj {s t b : Int} (h0 : 0 ≤ s) (h1 : s < 65536) (g0 : 0 ≤ t) (g1 : t < 65536) (hb : 0 ≤ b) (hb' : b < 256) (h : crcMore s b = crcMore t b) : s = t := by
  have h2 := crcTn_inj 8 (crcIn_range h0 h1 hb hb').1 (crcIn_range h0 h1 hb hb').2 (crcIn_range g0 g1 hb hb').1 (crcIn_range g0 g1 hb hb').2 h
  rw [crcIn_eq h0 h1 hb hb', crcIn_eq g0 g1 hb hb'] at h2
  have := xor_inj (Int.ofNat.inj h2)
  omega
theorem crcMore_inj_byte {s b c : Int} (h0 : 0 ≤ s) (h1 : s < 65536) (hb : 0 ≤ b) (hb' : b < 256) (hc : 0 ≤ c) (hc' : c < 256) (h : crcMore s b = crcMore s c) : b = c := by
  have h2 := crcTn_inj 8 (crcIn_range h0 h1 hb hb').1 (crcIn_range h0 h1 hb hb').2 (crcIn_range h0 h1 hc hc').1 (crcIn_range h0 h1 hc hc').2 h
  rw [crcIn_eq h0 h1 hb hb', crcIn_eq h0 h1 hc hc'] at h2
  have := xor_inj' (Int.ofNat.inj h2)
  omega

/-- Bytes. -/
def Bytes (xs : List Int) : Prop := ∀ x ∈ xs, 0 ≤ x ∧ x < 256
theorem crcRow_range : ∀ {xs : List Int} {s : Int}, Bytes xs → 0 ≤ s → s < 65536 → 0 ≤ crcRow s xs ∧ crcRow s xs < 65536
  | [], s, _, h0, h1 => ⟨h0, h1⟩
  | x :: xs, s, hb, h0, h1 => by
    have hx := hb x (List.mem_cons_self ..)
    have := crcMore_range h0 h1 hx.1 hx.2
    exact crcRow_range (xs := xs) (fun y hy => hb y (List.mem_cons_of_mem _ hy)) this.1 this.2
theorem crcRow_inj : ∀ {xs : List Int} {s t : Int}, Bytes xs → 0 ≤ s → s < 65536 → 0 ≤ t → t < 65536 → crcRow s xs = crcRow t xs → s = t
  | [], s, t, _, _, _, _, _, h => h
  | x :: xs, s, t, hb, h0, h1, g0, g1, h => by
    have hx := hb x (List.mem_cons_self ..)
    have r1 := crcMore_range h0 h1 hx.1 hx.2
    have r2 := crcMore_range g0 g1 hx.1 hx.2
    exact crcMore_inj h0 h1 g0 g1 hx.1 hx.2 (crcRow_inj (xs := xs) (fun y hy => hb y (List.mem_cons_of_mem _ hy)) r1.1 r1.2 r2.1 r2.2 h)
/-- One byte is another: the sum is another. -/
theorem crcRow_sees {xs : List Int} {s c : Int} {i : Nat} (hb : Bytes xs) (h0 : 0 ≤ s) (h1 : s < 65536) (hi : i < xs.length) (hc : 0 ≤ c) (hc' : c < 256) (hne : c ≠ xs.getD i 0) : crcRow s xs ≠ crcRow s (xs.set i c) := by
  intro h
  have e1 : xs = xs.take i ++ (xs.getD i 0 :: xs.drop (i + 1)) := by
    rw [← drop_step xs 0 hi, List.take_append_drop]
  have e2 : xs.set i c = xs.take i ++ (c :: xs.drop (i + 1)) := by
    rw [List.set_eq_take_append_cons_drop, if_pos hi]
  rw [e2] at h
  have h' : crcRow (crcRow s (xs.take i)) (xs.getD i 0 :: xs.drop (i + 1)) = crcRow (crcRow s (xs.take i)) (c :: xs.drop (i + 1)) := by
    unfold crcRow at h ⊢
    rw [List.foldl_append] at h
    rw [← h, ← List.foldl_append, ← e1]
  have ht := crcRow_range (xs := xs.take i) (fun y hy => hb y (List.mem_of_mem_take hy)) h0 h1
  have hd : Bytes (xs.drop (i + 1)) := fun y hy => hb y (List.mem_of_mem_drop hy)
  have hx : 0 ≤ xs.getD i 0 ∧ xs.getD i 0 < 256 := hb _ (by simp [List.getD, hi])
  have m1 := crcMore_range ht.1 ht.2 hx.1 hx.2
  have m2 := crcMore_range ht.1 ht.2 hc hc'
  have := crcRow_inj (xs := xs.drop (i + 1)) hd m1.1 m1.2 m2.1 m2.2 h'
  exact hne (crcMore_inj_byte ht.1 ht.2 hx.1 hx.2 hc hc' this).symm
theorem xor8_ne {x d : Int} (hx : 0 ≤ x) (hx' : x < 256) (hd : 0 ≤ d) (hd' : d < 256) (hne : ¬ d = 0) : 0 ≤ bits .xor .u8 x d ∧ bits .xor .u8 x d < 256 ∧ bits .xor .u8 x d ≠ x := by
  rw [xor8 hx hx' hd hd']
  have h1 : x.toNat ^^^ d.toNat < 2 ^ 8 := Nat.xor_lt_two_pow (by omega) (by omega)
  refine ⟨by omega, by omega, fun h => hne ?_⟩
  have h2 : x.toNat ^^^ d.toNat = x.toNat ^^^ 0 := by rw [Nat.xor_zero]; omega
  have h3 := xor_inj' h2
  omega
theorem Bytes.set {xs : List Int} (hb : Bytes xs) (i : Nat) {y : Int} (h0 : 0 ≤ y) (h1 : y < 256) : Bytes (xs.set i y) := by
  intro x hx
  rcases List.mem_or_eq_of_mem_set hx with h | rfl
  · exact hb x h
  · exact ⟨h0, h1⟩
end Go.Proofs.Ytdlplfhkmhkngaa

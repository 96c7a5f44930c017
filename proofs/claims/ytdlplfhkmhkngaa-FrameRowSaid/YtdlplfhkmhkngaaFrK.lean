/- A part of the proofs of this seat: FrK. No condition. -/
import Derived.Test.YtdlplfhkmhkngaaFrI
set_option linter.unusedVariables false
set_option linter.unusedSimpArgs false
namespace Go.Proofs.Ytdlplfhkmhkngaa
open Go.AL

/-! ### Plain laws of the parser -/
def parseN (xs : List Int) : List (List Int) × List Int × Int := parse (xs.length + 1) xs

theorem parseN_step {xs : List Int} (h : (nxt xs).1 ≠ 0) : parseN xs = ((if (nxt xs).2.1 = [] then [] else [(nxt xs).2.1]) ++ (parseN (xs.drop (nxt xs).1)).1, (parseN (xs.drop (nxt xs).1)).2.1, (nxt xs).2.2 + (parseN (xs.drop (nxt xs).1)).2.2) := by
  have hle := nxt_le xs
  unfold parseN
  conv => lhs; unfold parse
  rw [if_neg h, parse_fuel xs.length ((xs.drop (nxt xs).1).length + 1) _ (by rw [List.length_drop]; omega) (by omega)]
theorem parseN_stop {xs : List Int} (h : (nxt xs).1 = 0) : parseN xs = ([], xs, 0) := by
  unfold parseN parse
  rw [if_pos h]
theorem nxt_skip {x : Int} {xs : List Int} (h : x ≠ 170) : nxt (x :: xs) = (1, [], 0) := by
  unfold nxt
  rw [if_neg (by simp [h]), if_pos (by simp [h])]
theorem nxt_skip2 {y : Int} {xs : List Int} (h : y ≠ 85) : nxt (170 :: y :: xs) = (1, [], 0) := by
  unfold nxt
  rw [if_neg (by simp), if_pos (by simp [h])]
theorem nxt_len {n : Int} {xs : List Int} (h : n < 1 ∨ 40 < n) : nxt (170 :: 85 :: n :: xs) = (1, [], 1) := by
  unfold nxt
  rw [if_neg (by simp), if_neg (by simp), if_neg (by simp), if_neg (by simp; omega)]
theorem nxt_nil : nxt [] = (0, [], 0) := by
  unfold nxt
  rw [if_pos (by simp)]
theorem nxt_one : nxt [170] = (0, [], 0) := by
  unfold nxt
  rw [if_pos (by simp)]

theorem frameOf_length (xs : List Int) : (frameOf xs).length = xs.length + 5 := by simp [frameOf]
theorem nxt_frame {xs ys : List Int} (h1 : 1 ≤ xs.length) (h2 : xs.length ≤ 40) : nxt (frameOf xs ++ ys) = (xs.length + 5, xs, 0) := by
  have e : frameOf xs ++ ys = 170 :: 85 :: (xs.length : Int) :: (xs ++ (IntKind.u8.wrap (frSum xs / 256) :: IntKind.u8.wrap (frSum xs) :: ys)) := by simp [frameOf]
  rw [e]
  have e2 : (170 :: 85 :: (xs.length : Int) :: (xs ++ (IntKind.u8.wrap (frSum xs / 256) :: IntKind.u8.wrap (frSum xs) :: ys))).getD 2 0 = (xs.length : Int) := rfl
  have g : ∀ k, (170 :: 85 :: (xs.length : Int) :: (xs ++ (IntKind.u8.wrap (frSum xs / 256) :: IntKind.u8.wrap (frSum xs) :: ys))).getD (xs.length + (k + 3)) 0 = (IntKind.u8.wrap (frSum xs / 256) :: IntKind.u8.wrap (frSum xs) :: ys).getD k 0 := by
    intro k
    show (xs ++ (IntKind.u8.wrap (frSum xs / 256) :: IntKind.u8.wrap (frSum xs) :: ys)).getD (xs.length + k) 0 = _
    rw [List.getD_eq_getElem?_getD, List.getElem?_append_right (by omega), List.getD_eq_getElem?_getD]
    congr 2; omega
  have e3 := g 0
  have e4 := g 1
  unfold nxt
  simp only [e2, Int.toNat_natCast]
  rw [if_neg (by simp), if_neg (by simp), if_neg (by simp), if_pos (by omega), if_neg (by first | (simp; done) | (simp; omega))]
  have e5 : ((170 :: 85 :: (xs.length : Int) :: (xs ++ (IntKind.u8.wrap (frSum xs / 256) :: IntKind.u8.wrap (frSum xs) :: ys))).drop 2).take (xs.length + 1) = (xs.length : Int) :: xs := by
    simp
  have e6 : ((170 :: 85 :: (xs.length : Int) :: (xs ++ (IntKind.u8.wrap (frSum xs / 256) :: IntKind.u8.wrap (frSum xs) :: ys))).drop 3).take xs.length = xs := by
    simp
  rw [e5, e6]
  rw [if_pos ⟨by rw [e3]; rfl, by rw [e4]; rfl⟩]

theorem parseN_nil : parseN [] = ([], [], 0) := parseN_stop (by rw [nxt_nil])
theorem parseN_one : parseN [170] = ([], [170], 0) := parseN_stop (by rw [nxt_one])
theorem parseN_skip {x : Int} {xs : List Int} (h : x ≠ 170) : parseN (x :: xs) = parseN xs := by
  rw [parseN_step (by rw [nxt_skip h]; decide), nxt_skip h]
  simp
theorem parseN_skip2 {y : Int} {xs : List Int} (h : y ≠ 85) : parseN (170 :: y :: xs) = parseN (y :: xs) := by
  rw [parseN_step (by rw [nxt_skip2 h]; decide), nxt_skip2 h]
  simp
theorem parseN_len {n : Int} {xs : List Int} (h : n < 1 ∨ 40 < n) : parseN (170 :: 85 :: n :: xs) = ((parseN (n :: xs)).1, (parseN (n :: xs)).2.1, 1 + (parseN (n :: xs)).2.2) := by
  rw [parseN_step (by rw [nxt_len h]; decide), nxt_len h]
  simp [parseN_skip (show (85 : Int) ≠ 170 by decide)]
theorem parseN_frame {xs ys : List Int} (h1 : 1 ≤ xs.length) (h2 : xs.length ≤ 40) : parseN (frameOf xs ++ ys) = (xs :: (parseN ys).1, (parseN ys).2.1, (parseN ys).2.2) := by
  have hn : xs ≠ [] := by intro e; rw [e] at h1; simp at h1
  have hd : (frameOf xs ++ ys).drop (xs.length + 5) = ys := by
    rw [← frameOf_length, List.drop_left]
  rw [parseN_step (by rw [nxt_frame h1 h2]; simp), nxt_frame h1 h2]
  simp only [hd, hn, if_false, List.singleton_append, Int.zero_add]
theorem parseN_noise {zs ys : List Int} (h : ∀ z ∈ zs, z ≠ 170) : parseN (zs ++ ys) = parseN ys := by
  induction zs with
  | nil => rfl
  | cons z zs ih => rw [List.cons_append, parseN_skip (h z (List.mem_cons_self ..)), ih fun w hw => h w (List.mem_cons_of_mem _ hw)]
theorem parseN_noise' {zs : List Int} (h : ∀ z ∈ zs, z ≠ 170) : parseN zs = ([], [], 0) := by
  have := parseN_noise (ys := []) h
  rwa [List.append_nil, parseN_nil] at this

/-- A step that is taken is taken whatever stands behind. -/
theorem nxt_append {xs : List Int} (h : (nxt xs).1 ≠ 0) (ys : List Int) : nxt (xs ++ ys) = nxt xs := by
  have g : ∀ i, i < xs.length → (xs ++ ys).getD i 0 = xs.getD i 0 := by
    intro i hi
    rw [List.getD_eq_getElem?_getD, List.getD_eq_getElem?_getD, List.getElem?_append_left hi]
  have hl : (xs ++ ys).length = xs.length + ys.length := List.length_append ..
  unfold nxt at h ⊢
  by_cases h0 : xs.length = 0 ∨ (xs.length = 1 ∧ xs.getD 0 0 = 170)
  · rw [if_pos h0] at h; exact absurd rfl h
  rw [if_neg h0] at h ⊢
  have g0 := g 0 (by omega)
  by_cases h1 : xs.getD 0 0 ≠ 170 ∨ xs.getD 1 0 ≠ 85
  · rw [if_pos h1, if_neg (by omega), if_pos]
    rcases h1 with h1 | h1
    · exact .inl (by rw [g0]; exact h1)
    · by_cases h2 : xs.length = 1
      · exact .inl (by rw [g0]; omega)
      · exact .inr (by rw [g 1 (by omega)]; exact h1)
  rw [if_neg h1] at h ⊢
  have hlen2 : 2 ≤ xs.length := by
    have : ¬ xs.getD 1 0 ≠ 85 := by omega
    by_cases hh : xs.length = 1
    · rw [List.getD_eq_getElem?_getD, List.getElem?_eq_none (by omega)] at this
      simp at this
    · omega
  have g1 := g 1 (by omega)
  rw [if_neg (by omega), if_neg (by omega)]
  by_cases h3 : xs.length < 3
  · rw [if_pos h3] at h; exact absurd rfl h
  rw [if_neg h3] at h ⊢
  have g2 := g 2 (by omega)
  rw [if_neg (by omega), g2]
  by_cases h4 : 1 ≤ xs.getD 2 0 ∧ xs.getD 2 0 ≤ 40
  · rw [if_pos h4] at h ⊢
    by_cases h5 : xs.length < (xs.getD 2 0).toNat + 5
    · rw [if_pos h5] at h; exact absurd rfl h
    rw [if_neg h5] at h ⊢
    rw [if_pos h4, if_neg (by omega), g _ (by omega), g _ (by omega), List.drop_append_of_le_length (by omega), List.drop_append_of_le_length (by omega), List.take_append_of_le_length (by rw [List.length_drop]; omega), List.take_append_of_le_length (by rw [List.length_drop]; omega)]
  · rw [if_neg h4, if_neg h4]

theorem parseN_append : ∀ (n : Nat) (xs ys : List Int), xs.length ≤ n → parseN (xs ++ ys) = ((parseN xs).1 ++ (parseN ((parseN xs).2.1 ++ ys)).1, (parseN ((parseN xs).2.1 ++ ys)).2.1, (parseN xs).2.2 + (parseN ((parseN xs).2.1 ++ ys)).2.2)
  | n, xs, ys, hn => by
    by_cases h : (nxt xs).1 = 0
    · rw [parseN_stop h]; simp
    · have hle := nxt_le xs
      match n, hn with
      | 0, hn => omega
      | n + 1, hn =>
        have ih := parseN_append n (xs.drop (nxt xs).1) ys (by rw [List.length_drop]; omega)
        have e := nxt_append h ys
        rw [parseN_step (xs := xs ++ ys) (by rw [e]; exact h), e, List.drop_append_of_le_length hle, ih, parseN_step h]
        simp only [List.append_assoc, Prod.mk.injEq, true_and]
        omega

theorem parseN_rest : ∀ (n : Nat) (xs : List Int), xs.length ≤ n → ∃ k, (parseN xs).2.1 = xs.drop k
  | n, xs, hn => by
    by_cases h : (nxt xs).1 = 0
    · rw [parseN_stop h]; exact ⟨0, rfl⟩
    · have hle := nxt_le xs
      match n, hn with
      | 0, hn => omega
      | n + 1, hn =>
        obtain ⟨k, hk⟩ := parseN_rest n (xs.drop (nxt xs).1) (by rw [List.length_drop]; omega)
        rw [parseN_step h]
        exact ⟨(nxt xs).1 + k, by simp only [hk, List.drop_drop]⟩
end Go.Proofs.Ytdlplfhkmhkngaa

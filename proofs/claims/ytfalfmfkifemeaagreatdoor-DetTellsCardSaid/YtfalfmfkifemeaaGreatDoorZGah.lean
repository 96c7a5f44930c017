/- Part 8 of the proof of laws of this seat: lemmas on the model's code, on this program's functions, on numbers. No condition. -/
import Derived.Test.YtfalfmfkifemeaaGreatDoorZGag
set_option linter.unusedVariables false
set_option linter.unusedSimpArgs false
open Nat renaming reduceEqDiff → J0, reduceLeDiff → J1, reduceMul → J2, reduceAdd → J3, reduceSub → J4, reduceLT → J5
open Int renaming reduceToNat → J6, reducePow → J7, reduceNeg → J8, reduceLT → J9, reduceLE → Ja, reduceEq → Jb
open And renaming intro → Jc
open Go.IntKind renaming bits → Jd
open Go.PW renaming dig_length → Je
namespace Go.PW
def Xy (rs : List Int) : List Int := rs.flatMap (dig 16)
theorem K0 (rs : List Int) : (Xy rs).length = rs.length * 16 := by
  induction rs with
  | nil => rfl
  | cons r rs ih =>
    have : Xy (r :: rs) = dig 16 r ++ Xy rs := rfl
    rw [this, List.length_append, dig_length, ih, List.length_cons]
    omega
theorem J0v : ∀ (rs : List Int) (j : Nat), j < rs.length → ((Xy rs).drop (j * 16)).take 16 = dig 16 (rs.getD j 0)
  | r :: rs, 0, _ => by
    have : Xy (r :: rs) = dig 16 r ++ Xy rs := rfl
    rw [this, Nat.zero_mul, List.drop_zero, List.take_append_of_le_length (by rw [dig_length]; omega), List.take_of_length_le (by rw [dig_length]; omega)]
    rfl
  | r :: rs, j + 1, h => by
    have e : Xy (r :: rs) = dig 16 r ++ Xy rs := rfl
    have ih := J0v rs j (by simpa using h)
    rw [e, show (j + 1) * 16 = (dig 16 r).length + j * 16 by rw [dig_length]; omega, List.drop_append, List.drop_of_length_le (by omega), List.nil_append, Nat.add_sub_cancel_left, ih, List.getD_cons_succ]
theorem cellsOf_set : ∀ (rs : List Int) (j : Nat) (x : Int), j < rs.length → (Xy rs).take (j * 16) ++ dig 16 x ++ (Xy rs).drop (j * 16 + 16) = Xy (rs.set j x)
  | r :: rs, 0, x, _ => by
    have e : Xy (r :: rs) = dig 16 r ++ Xy rs := rfl
    have e2 : Xy (x :: rs) = dig 16 x ++ Xy rs := rfl
    rw [e, Nat.zero_mul, List.take_zero, List.nil_append, List.set_cons_zero, e2, Nat.zero_add, List.drop_append_of_le_length (by rw [dig_length]; omega), List.drop_of_length_le (by rw [dig_length]; omega), List.nil_append]
  | r :: rs, j + 1, x, h => by
    have e : Xy (r :: rs) = dig 16 r ++ Xy rs := rfl
    have e2 : Xy (r :: rs.set j x) = dig 16 r ++ Xy (rs.set j x) := rfl
    have ih := cellsOf_set rs j x (by simpa using h)
    rw [e, List.set_cons_succ, e2, ← ih, show (j + 1) * 16 = (dig 16 r).length + j * 16 by rw [dig_length]; omega, List.take_append, List.take_of_length_le (by omega), Nat.add_sub_cancel_left,
      show (dig 16 r).length + j * 16 + 16 = (dig 16 r).length + (j * 16 + 16) by omega, List.drop_append, List.drop_of_length_le (by omega), List.nil_append, Nat.add_sub_cancel_left]
    simp only [List.append_assoc]
theorem cellsOf_zeros (n : Nat) : Xy (List.replicate n 0) = List.replicate (n * 16) 0 := by
  induction n with
  | zero => rfl
  | succ n ih =>
    have e : Xy (0 :: List.replicate n 0) = dig 16 0 ++ Xy (List.replicate n 0) := rfl
    have e2 : dig 16 0 = List.replicate 16 0 := by decide
    rw [List.replicate_succ, e, ih, e2, List.replicate_append_replicate]
    congr 1
    omega
end Go.PW
namespace Go.PW
theorem G4 {p a b : Int} (hp : 0 < p) (h : p * a < p * b) : a < b := Int.lt_of_mul_lt_mul_left h (Int.le_of_lt hp)
theorem ld_more {vu v2 p K t V W : Int} (hp : 0 < p) (hV : 0 < V) (hW : p * W ≤ vu) (h2 : v2 < K) (h : v2 + t * (p * V) = vu + K) : W / V ≤ t - 1 := by
  have h1 : p * W < p * (t * V) := by
    have : p * (t * V) = t * (p * V) := by grind
    omega
  have h2 := G4 hp h1
  have : W / V < t := (Int.ediv_lt_iff_lt_mul hV).2 h2
  omega
theorem ld_done {vu v2 p low t V W : Int} (hp : 0 < p) (hV : 0 < V) (hW : vu = low + p * W) (hl : 0 ≤ low ∧ low < p) (h2 : 0 ≤ v2) (h : v2 + t * (p * V) = vu) (hq : W / V ≤ t) : t = W / V ∧ v2 = low + p * (W % V) := by
  have h1 : p * (t * V) < p * (W + 1) := by
    have e : p * (t * V) = t * (p * V) := by grind
    have e2 : p * (W + 1) = p * W + p := by grind
    omega
  have h2 := G4 hp h1
  have h3 : t ≤ W / V := Gy hV (by omega)
  have h4 : t = W / V := by omega
  refine ⟨h4, ?_⟩
  have hm := Int.emod_add_mul_ediv W V
  have e : t * (p * V) = p * (V * (W / V)) := by rw [h4]; grind
  have e2 : p * W = p * (W % V) + p * (V * (W / V)) := by rw [← Int.mul_add, hm]
  omega
theorem J04 {xs : List Int} (hx : Limbs xs) {m : Nat} (h : ∀ k, m ≤ k → xs.getD k 0 = 0) : val xs < Bs ^ m := by
  have hz : ∀ (ys : List Int), (∀ k, ys.getD k 0 = 0) → val ys = 0 := by
    intro ys
    induction ys with
    | nil => intro _; rfl
    | cons y ys ih =>
      intro h
      have h0 := h 0
      rw [List.getD_cons_zero] at h0
      simp [val, h0, ih (fun k => by have := h (k + 1); rwa [List.getD_cons_succ] at this)]
  have h1 := Zx xs m
  have h2 := Xa (hx.take m)
  have h3 : val (xs.drop m) = 0 := hz _ fun k => by
    have := h (m + k) (by omega)
    rw [List.getD_eq_getElem?_getD] at this ⊢
    rw [List.getElem?_drop]
    exact this
  rw [h3, Int.mul_zero, Int.add_zero] at h1
  have h4 : Bs ^ (xs.take m).length ≤ Bs ^ m := by
    rw [List.length_take]
    obtain ⟨d, hd⟩ : ∃ d, m = min m xs.length + d := ⟨m - min m xs.length, by omega⟩
    rw [hd, Int.pow_add, ← hd]
    have := Xc d
    have := Int.mul_le_mul_of_nonneg_left (show 1 ≤ Bs ^ d by omega) (Int.le_of_lt (Xc (min m xs.length)))
    omega
  omega
theorem getD_above {xs : List Int} (hx : Limbs xs) {m : Nat} (h : val (xs.drop m) = 0) (k : Nat) (hk : m ≤ k) : xs.getD k 0 = 0 := by
  have hz : ∀ (ys : List Int), Limbs ys → val ys = 0 → ∀ k, ys.getD k 0 = 0 := by
    intro ys
    induction ys with
    | nil => intro _ _ k; rfl
    | cons y ys ih =>
      intro hl hv k
      obtain ⟨a, b⟩ := Limbs.cons.1 hl
      have c := (Xa b).1
      simp only [val] at hv
      have hy : y = 0 := by simp only [Bs] at *; omega
      have hys : val ys = 0 := by simp only [Bs] at *; omega
      cases k with
      | zero => rw [List.getD_cons_zero]; exact hy
      | succ k => rw [List.getD_cons_succ]; exact ih b hys k
  have := hz _ (hx.drop m) h (k - m)
  rw [List.getD_eq_getElem?_getD, List.getElem?_drop, show m + (k - m) = k by omega, ← List.getD_eq_getElem?_getD] at this
  exact this
structure LInv (U V : Int) (n la j : Nat) (us qs : List Int) : Prop where
  ul : us.length = la + 1
  uL : Limbs us
  ql : qs.length = la - n + 1
  qL : Limbs qs
  inv : val us + V * val qs = U
  lt : val us < V * Bs ^ j
  qz : ∀ i, i < j → qs.getD i 0 = 0
theorem LInv.start {X Y : Int} {n la s : Nat} {us : List Int} (hn : 0 < n) (hnl : n ≤ la) (hX : X < Bs ^ la) (hY : Bs ^ (n - 1) ≤ Y) (ul : us.length = la + 1) (uL : Limbs us) (hu : val us = X * 2 ^ s) : LInv (X * 2 ^ s) (Y * 2 ^ s) n la (la - n + 1) us (List.replicate (la - n + 1) 0) := by
  refine ⟨ul, uL, by simp, Limbs.replicate _, by rw [Kg]; omega, ?_, fun i hi => by simp [List.getD, hi]⟩
  rw [hu]
  have h1 := Int.mul_lt_mul_of_pos_right hX (Z0 s)
  have h2 : Bs ^ la = Bs ^ (n - 1) * Bs ^ (la - n + 1) := by rw [← Int.pow_add]; congr 1; omega
  have h3 := Int.mul_le_mul_of_nonneg_right hY (Int.le_of_lt (Int.mul_pos (Xc (la - n + 1)) (Z0 s)))
  have e1 : Bs ^ (n - 1) * (Bs ^ (la - n + 1) * 2 ^ s) = Bs ^ la * 2 ^ s := by rw [h2]; grind
  have e2 : Y * (Bs ^ (la - n + 1) * 2 ^ s) = Y * 2 ^ s * Bs ^ (la - n + 1) := by grind
  omega
section
variable {U V : Int} {n la i : Nat} {us qs : List Int}
theorem LInv.window (L : LInv U V n la (i + 1) us qs) (hin : i + n ≤ la) (hV : 0 < V) (hVn : V < Bs ^ n) :
    ((us.drop i).take (n + 1)).length = n + 1 ∧ Limbs ((us.drop i).take (n + 1)) ∧ val ((us.drop i).take (n + 1)) = val (us.drop i) ∧ val (((us.drop i).take (n + 1)).drop 1) < V ∧ (∀ k, i + n < k → us.getD k 0 = 0) ∧
    val us = val (us.take i) + Bs ^ i * val (us.drop i) ∧ (0 ≤ val (us.take i) ∧ val (us.take i) < Bs ^ i) ∧ 0 ≤ val (us.drop i) ∧ val (us.drop i) / V < Bs := by
  have hl := L.ul
  have hp := Xc i
  have h1 := Zx us i
  rw [Nat.min_eq_left (by omega)] at h1
  have h2 := Xa (L.uL.take i)
  rw [List.length_take, Nat.min_eq_left (by omega)] at h2
  have h3 := (Xa (L.uL.drop i)).1
  have hlt := L.lt
  have hWV : val (us.drop i) < V * Bs := by
    apply G4 hp
    have : Bs ^ i * (V * Bs) = V * Bs ^ (i + 1) := by rw [Int.pow_succ]; grind
    omega
  have hVB : V * Bs < Bs ^ (n + 1) := by rw [Int.pow_succ]; exact Int.mul_lt_mul_of_pos_right hVn (by decide)
  obtain ⟨z1, z2⟩ := Vo (L.uL.drop i) (m := n + 1) (by omega)
  rw [List.drop_drop, show i + (n + 1) = i + n + 1 by omega] at z1
  have wl : ((us.drop i).take (n + 1)).length = n + 1 := by rw [List.length_take, List.length_drop]; omega
  have wL : Limbs ((us.drop i).take (n + 1)) := (L.uL.drop i).take _
  have d1 := Y5 ((us.drop i).take (n + 1)) (i := 0) (by omega)
  rw [List.drop_zero, z2] at d1
  refine ⟨wl, wL, z2, ?_, fun k hk => getD_above L.uL z1 k (by omega), h1, h2, h3, (Int.ediv_lt_iff_lt_mul hV).2 (by rw [Int.mul_comm]; exact hWV)⟩
  have g0 := wL.get 0
  apply G4 (p := Bs) (by decide)
  have : Bs * V = V * Bs := Int.mul_comm _ _
  rw [this]
  have e : val (((us.drop i).take (n + 1)).drop (0 + 1)) = val (((us.drop i).take (n + 1)).drop 1) := rfl
  rw [e] at d1
  omega
theorem LInv.round (L : LInv U V n la (i + 1) us qs) (hin : i + n ≤ la) (hV : 0 < V) (hVn : V < Bs ^ n) {us' : List Int} (ul : us'.length = us.length) (uL : Limbs us') (hv : val us' = val (us.take i) + Bs ^ i * (val (us.drop i) % V)) : LInv U V n la i us' (qs.set i (val (us.drop i) / V)) := by
  obtain ⟨w1, w2, w3, w4, w5, w6, w7, w8, w9⟩ := L.window hin hV hVn
  have hql := L.ql
  refine ⟨by rw [ul]; exact L.ul, uL, by rw [List.length_set]; exact hql, L.qL.set i ⟨Int.ediv_nonneg w8 (by omega), w9⟩, ?_, ?_, fun k hk => ?_⟩
  · rw [Yw _ (by omega), L.qz i (by omega), hv]
    have hi := L.inv
    have hm := Int.emod_add_mul_ediv (val (us.drop i)) V
    have e : Bs ^ i * val (us.drop i) = Bs ^ i * (val (us.drop i) % V) + V * (Bs ^ i * (val (us.drop i) / V)) := by
      conv => lhs; rw [← hm]
      grind
    rw [Int.mul_add, Int.sub_zero]
    omega
  · rw [hv]
    have h1 := Int.emod_lt_of_pos (val (us.drop i)) hV
    have h2 := Int.mul_le_mul_of_nonneg_left (show val (us.drop i) % V + 1 ≤ V by omega) (Int.le_of_lt (Xc i))
    rw [Int.mul_add, Int.mul_comm (Bs ^ i) V] at h2
    omega
  · rw [Xf _ _ (by omega), if_neg (by omega)]
    exact L.qz k (by omega)
end
theorem LInv.done {X Y : Int} {n la s : Nat} {us qs : List Int} (L : LInv (X * 2 ^ s) (Y * 2 ^ s) n la 0 us qs) (hY : 0 < Y) : val qs = X / Y ∧ val us = X % Y * 2 ^ s := by
  have hp := Z0 s
  have hV := Int.mul_pos hY hp
  have h1 := L.inv
  have h2 := L.lt
  have h3 := (Xa L.uL).1
  rw [Int.pow_zero, Int.mul_one] at h2
  have hq : val qs = X * 2 ^ s / (Y * 2 ^ s) := by
    refine (ediv_eq hV ?_ ?_).symm
    · rw [Int.mul_comm]; omega
    · have e : (val qs + 1) * (Y * 2 ^ s) = Y * 2 ^ s * val qs + Y * 2 ^ s := by grind
      omega
  have hXY : X * 2 ^ s / (Y * 2 ^ s) = X / Y := Int.mul_ediv_mul_of_pos_left _ _ hp
  have hR : X * 2 ^ s % (Y * 2 ^ s) = X % Y * 2 ^ s := Wz hp
  refine ⟨by rw [hq, hXY], ?_⟩
  have hm := Int.emod_add_mul_ediv (X * 2 ^ s) (Y * 2 ^ s)
  rw [← hq, hR] at hm
  omega
theorem guess_low {w vs : List Int} {m : Nat} (hw : Limbs w) (hv : Limbs vs) (hwl : w.length = m + 3) (hvl : vs.length = m + 2) (hlt : val (w.drop 1) < val vs) (hv1 : 0 < vs.getD (m + 1) 0) {t : Int}
    (ht : t = Bs - 1 ∨ ((w.getD (m + 2) 0 * Bs + w.getD (m + 1) 0) * Bs + w.getD m 0) / (vs.getD (m + 1) 0 * Bs + vs.getD m 0) ≤ t) : val w / val vs ≤ t := by
  have h := (guess_right hw hv hwl hvl hlt hv1).2.1
  rcases ht with ht | ht <;> omega
end Go.PW
namespace Go.PD
def Zd (r : Nat → Int) : List Nat → (List Nat → Int) → Int
  | [], _ => 0
  | a :: cs, F => r a * F cs - Zd r cs (fun ds => F (a :: ds))
def D : List (Nat → Int) → List Nat → Int
  | [], cs => if cs = [] then 1 else 0
  | r :: rs, cs => Zd r cs (D rs)
theorem iota_F {r : Nat → Int} {x y : Int} : ∀ {cs : List Nat} {F G : List Nat → Int}, Zd r cs (fun ds => x * F ds + y * G ds) = x * Zd r cs F + y * Zd r cs G
  | [], _, _ => by simp [Zd]
  | a :: cs, F, G => by
    simp only [Zd]
    rw [iota_F (cs := cs)]
    grind
theorem iota_row {r s : Nat → Int} {x y : Int} : ∀ {cs : List Nat} {F : List Nat → Int}, Zd (fun j => x * r j + y * s j) cs F = x * Zd r cs F + y * Zd s cs F
  | [], _ => by simp [Zd]
  | a :: cs, F => by
    simp only [Zd]
    rw [iota_row (cs := cs)]
    grind
theorem iota_neg {r : Nat → Int} {cs : List Nat} {F : List Nat → Int} : Zd r cs (fun ds => - F ds) = - Zd r cs F := by
  have h := iota_F (r := r) (x := -1) (y := 0) (cs := cs) (F := F) (G := F)
  have e : (fun ds => -1 * F ds + 0 * F ds) = fun ds => - F ds := by funext ds; omega
  rw [e] at h
  omega
theorem iota_zero {r : Nat → Int} : ∀ {cs : List Nat} {F : List Nat → Int}, (∀ ds, ds.length < cs.length → F ds = 0) → Zd r cs F = 0
  | [], _, _ => rfl
  | a :: cs, F, h => by
    simp only [Zd]
    rw [h cs (by simp), iota_zero (cs := cs) fun ds hd => h (a :: ds) (by simp; omega)]
    simp
theorem iota_iota {r s : Nat → Int} : ∀ {cs : List Nat} {F : List Nat → Int}, Zd r cs (fun ds => Zd s ds F) = - Zd s cs (fun ds => Zd r ds F)
  | [], _ => by simp [Zd]
  | a :: cs, F => by
    have ih := iota_iota (r := r) (s := s) (cs := cs) (F := fun ds => F (a :: ds))
    simp only [Zd]
    have h1 := iota_F (r := r) (x := s a) (y := -1) (cs := cs) (F := F) (G := fun ds => Zd s ds fun es => F (a :: es))
    have h2 := iota_F (r := s) (x := r a) (y := -1) (cs := cs) (F := F) (G := fun ds => Zd r ds fun es => F (a :: es))
    have e1 : (fun ds => s a * F ds - Zd s ds fun es => F (a :: es)) = fun ds => s a * F ds + -1 * Zd s ds fun es => F (a :: es) := by funext ds; omega
    have e2 : (fun ds => r a * F ds - Zd r ds fun es => F (a :: es)) = fun ds => r a * F ds + -1 * Zd r ds fun es => F (a :: es) := by funext ds; omega
    rw [e1, e2, h1, h2]
    omega
theorem Rp (r s : Nat → Int) (rs : List (Nat → Int)) (cs : List Nat) : D (r :: s :: rs) cs = - D (s :: r :: rs) cs := iota_iota
theorem D_row {r s : Nat → Int} {x y : Int} (rs : List (Nat → Int)) (cs : List Nat) : D ((fun j => x * r j + y * s j) :: rs) cs = x * D (r :: rs) cs + y * D (s :: rs) cs := iota_row
theorem D_twice (r : Nat → Int) : ∀ (ps rs : List (Nat → Int)) (cs : List Nat), D (r :: ps ++ r :: rs) cs = 0
  | [], rs, cs => by
    have := Rp r r rs cs
    simp only [List.singleton_append]
    omega
  | p :: ps, rs, cs => by
    have h := Rp r p (ps ++ r :: rs) cs
    have h2 : D (p :: r :: (ps ++ r :: rs)) cs = 0 := iota_zero fun ds _ => D_twice r ps rs ds
    simp only [List.cons_append]
    omega
theorem D_mem {r : Nat → Int} {rs : List (Nat → Int)} (h : r ∈ rs) (cs : List Nat) : D (r :: rs) cs = 0 := by
  obtain ⟨ps, qs, rfl⟩ := List.append_of_mem h
  exact D_twice r ps qs cs
def Alt (F : List Nat → Int) : Prop := ∀ c1 a b c2, F (c1 ++ a :: b :: c2) = - F (c1 ++ b :: a :: c2)
theorem Alt.tail {F : List Nat → Int} (h : Alt F) (a : Nat) : Alt fun ds => F (a :: ds) := fun c1 x y c2 => h (a :: c1) x y c2
theorem iota_alt (r : Nat → Int) : ∀ (c1 : List Nat) {F : List Nat → Int}, Alt F → ∀ a b c2, Zd r (c1 ++ a :: b :: c2) F = - Zd r (c1 ++ b :: a :: c2) F
  | [], F, h, a, b, c2 => by
    simp only [List.nil_append, Zd]
    have e : (fun ds => F (a :: b :: ds)) = fun ds => - F (b :: a :: ds) := by funext ds; exact h [] a b ds
    rw [e, iota_neg]
    omega
  | c :: c1, F, h, a, b, c2 => by
    simp only [List.cons_append, Zd]
    rw [iota_alt r c1 (h.tail c) a b c2, h c1 a b c2]
    grind
theorem D_alt : ∀ rs, Alt (D rs)
  | [] => fun c1 a b c2 => by simp [D]
  | r :: rs => fun c1 a b c2 => iota_alt r c1 (D_alt rs) a b c2
theorem Alt.twice {F : List Nat → Int} (h : Alt F) (a : Nat) : ∀ (c1 c2 : List Nat), F (a :: c1 ++ a :: c2) = 0
  | [], c2 => by
    have := h [] a a c2
    simp only [List.nil_append] at this
    simp only [List.singleton_append]
    omega
  | c :: c1, c2 => by
    have h1 := h [] a c (c1 ++ a :: c2)
    have h2 := (h.tail c).twice a c1 c2
    simp only [List.cons_append, List.nil_append] at h1 h2 ⊢
    omega
theorem Alt.mem {F : List Nat → Int} (h : Alt F) {a : Nat} {cs : List Nat} (hm : a ∈ cs) : F (a :: cs) = 0 := by
  obtain ⟨ps, qs, rfl⟩ := List.append_of_mem hm
  exact h.twice a ps qs
inductive Span : List (Nat → Int) → (Nat → Int) → Prop
  | nil : Span [] (fun _ => 0)
  | cons {rs : List (Nat → Int)} {f : Nat → Int} (r : Nat → Int) (x : Int) : Span rs f → Span (r :: rs) (fun j => x * r j + f j)
theorem Span.D {rs ss : List (Nat → Int)} {f : Nat → Int} (h : Span rs f) (hs : ∀ r ∈ rs, r ∈ ss) (cs : List Nat) : PD.D (f :: ss) cs = 0 := by
  induction h with
  | nil =>
    have := D_row (r := fun _ => 0) (s := fun _ => 0) (x := 0) (y := 0) ss cs
    simpa using this
  | cons r x _ ih =>
    rename_i rs f _
    have := D_row (r := r) (s := f) (x := x) (y := 1) ss cs
    simp only [Int.one_mul] at this
    rw [this, D_mem (hs r (List.mem_cons_self ..)), ih fun q hq => hs q (List.mem_cons_of_mem _ hq)]
    simp
theorem Span.add {rs : List (Nat → Int)} {f g : Nat → Int} (h : Span rs f) (k : Span rs g) (x y : Int) : Span rs (fun j => x * f j + y * g j) := by
  induction h generalizing g with
  | nil =>
    cases k
    have : (fun _ : Nat => x * 0 + y * 0) = fun _ => (0 : Int) := by funext; simp
    rw [this]; exact .nil
  | cons r u _ ih =>
    rename_i rs f _
    cases k with
    | cons r' v k =>
      rename_i g
      have := Span.cons r (x * u + y * v) (ih k)
      have e : (fun j => (x * u + y * v) * r j + (x * f j + y * g j)) = fun j => x * (u * r j + f j) + y * (v * r j + g j) := by funext j; grind
      rw [e] at this
      exact this
theorem Span.zero : ∀ (rs : List (Nat → Int)), Span rs (fun _ => 0)
  | [] => .nil
  | r :: rs => by
    have := Span.cons r 0 (Span.zero rs)
    have e : (fun j => 0 * r j + (fun _ => (0 : Int)) j) = fun _ => 0 := by funext; simp
    rwa [e] at this
theorem Span.more {rs : List (Nat → Int)} {f : Nat → Int} (r : Nat → Int) (h : Span rs f) : Span (r :: rs) f := by
  have := Span.cons r 0 h
  have e : (fun j => 0 * r j + f j) = f := by funext; simp
  rwa [e] at this
theorem Span.col : ∀ (rs : List (Nat → Int)) (es : List Nat), Span rs (fun j => PD.D rs (j :: es))
  | [], es => by simpa [PD.D] using Span.nil
  | r :: rs, es => by
    have key : ∀ (es : List Nat) (G : Nat → List Nat → Int), (∀ ds, Span rs fun j => G j ds) → Span rs fun j => Zd r es (G j) := by
      intro es
      induction es with
      | nil => intro G _; simpa [Zd] using Span.zero rs
      | cons a es ih =>
        intro G hG
        have h1 := (hG es).add (ih (fun j ds => G j (a :: ds)) fun ds => hG (a :: ds)) (r a) (-1)
        have e : (fun j => r a * G j es + -1 * Zd r es fun ds => G j (a :: ds)) = fun j => Zd r (a :: es) (G j) := by funext j; simp only [Zd]; omega
        rwa [e] at h1
    have h1 := (key es (fun j ds => PD.D rs (j :: ds)) fun ds => Span.col rs ds).add (Span.zero rs) (-1) 0
    have h2 := Span.cons r (PD.D rs es) h1
    have e : (fun j => PD.D rs es * r j + (-1 * Zd r es (fun ds => PD.D rs (j :: ds)) + 0 * 0)) = fun j => PD.D (r :: rs) (j :: es) := by
      funext j
      show _ = r j * PD.D rs es - Zd r es fun ds => PD.D rs (j :: ds)
      grind
    rwa [e] at h2
theorem Span.tail {rs : List (Nat → Int)} (r : Nat → Int) {es : List Nat} : Span rs (fun j => Zd r es (fun ds => PD.D rs (j :: ds))) := by
  have h := Span.col (r :: rs) es
  have key : ∀ (es : List Nat) (G : Nat → List Nat → Int), (∀ ds, Span rs fun j => G j ds) → Span rs fun j => Zd r es (G j) := by
    intro es
    induction es with
    | nil => intro G _; simpa [Zd] using Span.zero rs
    | cons a es ih =>
      intro G hG
      have h1 := (hG es).add (ih (fun j ds => G j (a :: ds)) fun ds => hG (a :: ds)) (r a) (-1)
      have e : (fun j => r a * G j es + -1 * Zd r es fun ds => G j (a :: ds)) = fun j => Zd r (a :: es) (G j) := by funext j; simp only [Zd]; omega
      rwa [e] at h1
  exact key es _ fun ds => Span.col rs ds
def red (rs : List (Nat → Int)) (cs : List Nat) (u : Nat → Int) : Nat → Int := fun j => D (u :: rs) (j :: cs)
theorem red_eq (rs : List (Nat → Int)) (cs : List Nat) (u : Nat → Int) (j : Nat) : red rs cs u j = u j * D rs cs - Zd u cs (fun ds => D rs (j :: ds)) := rfl
theorem red_zero {rs : List (Nat → Int)} {cs : List Nat} (u : Nat → Int) {j : Nat} (h : j ∈ cs) : red rs cs u j = 0 := (D_alt (u :: rs)).mem h
theorem red_row (rs : List (Nat → Int)) (cs : List Nat) (u : Nat → Int) (qs : List (Nat → Int)) (hq : ∀ r ∈ rs, r ∈ qs) (es : List Nat) : D (red rs cs u :: qs) es = D rs cs * D (u :: qs) es := by
  have hs := Span.tail (rs := rs) u (es := cs)
  have e : red rs cs u = fun j => D rs cs * u j + -1 * Zd u cs (fun ds => D rs (j :: ds)) := by funext j; rw [red_eq]; grind
  rw [e, D_row, hs.D hq]
  simp
theorem Wx {u : Nat → Int} {cs : List Nat} (h : ∀ c ∈ cs, u c = 0) {F : List Nat → Int} : Zd u cs F = 0 := by
  induction cs generalizing F with
  | nil => rfl
  | cons a cs ih =>
    simp only [Zd]
    rw [h a (List.mem_cons_self ..), ih fun c hc => h c (List.mem_cons_of_mem _ hc)]
    simp
theorem sylvester (rs : List (Nat → Int)) (cs : List Nat) (u v : Nat → Int) (j k : Nat) (h : D rs cs ≠ 0) :
    D rs cs * D (u :: v :: rs) (j :: k :: cs) = D (v :: rs) (k :: cs) * D (u :: rs) (j :: cs) - D (u :: rs) (k :: cs) * D (v :: rs) (j :: cs) := by
  have hu : ∀ c ∈ cs, red rs cs u c = 0 := fun c hc => red_zero u hc
  have hv : ∀ c ∈ cs, red rs cs v c = 0 := fun c hc => red_zero v hc
  have h1 : D (red rs cs u :: red rs cs v :: rs) (j :: k :: cs) = D rs cs * (D rs cs * D (u :: v :: rs) (j :: k :: cs)) := by
    rw [red_row rs cs u _ (fun r hr => List.mem_cons_of_mem _ hr)]
    have h2 : ∀ es, D (u :: red rs cs v :: rs) es = D rs cs * D (u :: v :: rs) es := by
      intro es
      rw [Rp, red_row rs cs v _ (fun r hr => List.mem_cons_of_mem _ hr), Rp u v]
      grind
    rw [h2]
  have h3 : D (red rs cs u :: red rs cs v :: rs) (j :: k :: cs) = D rs cs * (red rs cs v k * red rs cs u j - red rs cs u k * red rs cs v j) := by
    show Zd (red rs cs u) (j :: k :: cs) (fun ds => Zd (red rs cs v) ds (D rs)) = _
    have e : ∀ a, (Zd (red rs cs v) (a :: cs) (D rs)) = red rs cs v a * D rs cs := by
      intro a
      simp only [Zd]
      rw [Wx hv]; omega
    simp only [Zd]
    rw [Wx hv, Wx hv, Wx hu]
    grind
  rw [h1] at h3
  exact Int.eq_of_mul_eq_mul_left h h3
def fact : Nat → Nat
  | 0 => 1
  | n + 1 => (n + 1) * fact n
theorem iota_bound {r : Nat → Int} {B N : Nat} (hr : ∀ j, (r j).natAbs ≤ B) : ∀ {cs : List Nat} {F : List Nat → Int}, (∀ ds, ds.length + 1 = cs.length → (F ds).natAbs ≤ N) → (Zd r cs F).natAbs ≤ cs.length * (B * N)
  | [], _, _ => by simp [Zd]
  | a :: cs, F, h => by
    have h1 := iota_bound hr (cs := cs) (F := fun ds => F (a :: ds)) (fun ds hd => h (a :: ds) (by simp; omega))
    have h2 : (r a * F cs).natAbs ≤ B * N := by
      rw [Int.natAbs_mul]
      exact Nat.mul_le_mul (hr a) (h cs (by simp))
    simp only [Zd, List.length_cons]
    rw [Nat.add_mul, Nat.one_mul]
    omega
theorem D_bound {B : Nat} : ∀ {rs : List (Nat → Int)}, (∀ r ∈ rs, ∀ j, (r j).natAbs ≤ B) → ∀ cs : List Nat, cs.length = rs.length → (D rs cs).natAbs ≤ fact rs.length * B ^ rs.length
  | [], _, cs, h => by
    simp only [D]
    split <;> simp [fact]
  | r :: rs, hr, cs, h => by
    have h1 := iota_bound (N := fact rs.length * B ^ rs.length) (hr r (List.mem_cons_self ..)) (cs := cs) (F := D rs) (fun ds hd => D_bound (fun q hq => hr q (List.mem_cons_of_mem _ hq)) ds (by simp at h; omega))
    rw [h] at h1
    show (Zd r cs (D rs)).natAbs ≤ _
    refine Nat.le_trans h1 (Nat.le_of_eq ?_)
    simp only [List.length_cons, fact, Nat.pow_succ]
    grind
end Go.PD
namespace Go.PD
def Rs (rho : Nat → Nat → Int) : Nat → List (Nat → Int)
  | 0 => []
  | k + 1 => rho k :: Rs rho k
def Cs : Nat → List Nat
  | 0 => []
  | k + 1 => k :: Cs k
def P (rho : Nat → Nat → Int) (k : Nat) : Int := D (Rs rho k) (Cs k)
def d (rho : Nat → Nat → Int) (k i j : Nat) : Int := D (rho i :: Rs rho k) (j :: Cs k)
def e (rho : Nat → Nat → Int) (k i j : Nat) : Int := D (Rs rho k) ((Cs k).map fun c => if c = i then j else c)
theorem W4 : ∀ {k c : Nat}, c ∈ Cs k ↔ c < k
  | 0, c => by simp [Cs]
  | k + 1, c => by simp [Cs, W4 (k := k)]; omega
theorem mem_Rs {rho : Nat → Nat → Int} : ∀ {k : Nat} {r : Nat → Int}, r ∈ Rs rho k ↔ ∃ i, i < k ∧ rho i = r
  | 0, r => by simp [Rs]
  | k + 1, r => by
    simp only [Rs, List.mem_cons, mem_Rs (k := k)]
    constructor
    · rintro (rfl | ⟨i, h, rfl⟩)
      · exact ⟨k, by omega, rfl⟩
      · exact ⟨i, by omega, rfl⟩
    · rintro ⟨i, h, rfl⟩
      by_cases e : i = k
      · subst e; exact .inl rfl
      · exact .inr ⟨i, by omega, rfl⟩
theorem Ga (rho : Nat → Nat → Int) : ∀ k, (Rs rho k).length = k
  | 0 => rfl
  | k + 1 => by simp [Rs, Ga rho k]
theorem J1r : ∀ k, (Cs k).length = k
  | 0 => rfl
  | k + 1 => by simp [Cs, J1r k]
theorem Rs_congr {rho tau : Nat → Nat → Int} : ∀ {k : Nat}, (∀ i, i < k → rho i = tau i) → Rs rho k = Rs tau k
  | 0, _ => rfl
  | k + 1, h => by simp only [Rs]; rw [h k (by omega), Rs_congr fun i hi => h i (by omega)]
variable {rho : Nat → Nat → Int}
theorem Kz : P rho 0 = 1 := rfl
theorem Kf (k : Nat) : P rho (k + 1) = d rho k k k := rfl
theorem Gj (i j : Nat) : d rho 0 i j = rho i j := by
  show rho i j * 1 - 0 = _
  omega
theorem d_col {k i j : Nat} (h : j < k) : d rho k i j = 0 := (D_alt _).mem (W4.2 h)
theorem d_mul {k : Nat} (h : P rho k ≠ 0) (i j : Nat) : P rho k * d rho (k + 1) i j = d rho k k k * d rho k i j - d rho k i k * d rho k k j :=
  sylvester (Rs rho k) (Cs k) (rho i) (rho k) j k h
theorem d_step {k : Nat} (h : P rho k ≠ 0) (i j : Nat) : (d rho k k k * d rho k i j - d rho k i k * d rho k k j).tdiv (P rho k) = d rho (k + 1) i j := by
  rw [← d_mul h, Int.mul_tdiv_cancel_left _ h]
theorem Alt.front {F : List Nat → Int} (h : Alt F) (a : Nat) : ∀ (c1 : List Nat), ∃ s : Int, (s = 1 ∨ s = -1) ∧ ∀ a c2, F (c1 ++ a :: c2) = s * F (a :: (c1 ++ c2))
  | [] => ⟨1, .inl rfl, fun a c2 => by simp⟩
  | c :: c1 => by
    obtain ⟨s, hs, h1⟩ := (h.tail c).front a c1
    refine ⟨-s, by omega, fun a c2 => ?_⟩
    have h2 := h1 a c2
    have h3 := h [] c a (c1 ++ c2)
    simp only [List.nil_append] at h3
    simp only [List.cons_append, h2, h3]
    grind
theorem Rs_bound {B k : Nat} (hB : ∀ i j, (rho i j).natAbs ≤ B) : ∀ r ∈ Rs rho k, ∀ j, (r j).natAbs ≤ B := by
  intro r hr j
  obtain ⟨i, _, rfl⟩ := mem_Rs.1 hr
  exact hB i j
theorem d_bound {B : Nat} (hB : ∀ i j, (rho i j).natAbs ≤ B) (k i j : Nat) : (d rho k i j).natAbs ≤ fact (k + 1) * B ^ (k + 1) := by
  have := D_bound (B := B) (rs := rho i :: Rs rho k) (fun r hr => by
    rcases List.mem_cons.1 hr with rfl | hr
    · exact hB i
    · exact Rs_bound hB r hr) (j :: Cs k) (by simp [Ga, J1r])
  simpa [Ga, d] using this
end Go.PD
namespace Go.PD
def sum : Nat → (Nat → Int) → Int
  | 0, _ => 0
  | n + 1, f => sum n f + f n
theorem Zz : ∀ {n : Nat} {f g : Nat → Int}, (∀ i, i < n → f i = g i) → sum n f = sum n g
  | 0, _, _, _ => rfl
  | n + 1, f, g, h => by simp only [sum]; rw [Zz fun i hi => h i (by omega), h n (by omega)]
theorem Km {x y : Int} : ∀ {n : Nat} {f g : Nat → Int}, sum n (fun i => x * f i + y * g i) = x * sum n f + y * sum n g
  | 0, _, _ => by simp [sum]
  | n + 1, f, g => by simp only [sum]; rw [Km (n := n)]; grind
theorem sum_add {n : Nat} {f g : Nat → Int} : sum n (fun i => f i + g i) = sum n f + sum n g := by
  have := Km (x := 1) (y := 1) (n := n) (f := f) (g := g)
  simpa using this
theorem sum_smul {x : Int} {n : Nat} {f : Nat → Int} : sum n (fun i => x * f i) = x * sum n f := by
  have := Km (x := x) (y := 0) (n := n) (f := f) (g := f)
  simpa using this
theorem Nk : ∀ {n : Nat} {f : Nat → Int}, (∀ i, i < n → f i = 0) → sum n f = 0
  | 0, _, _ => rfl
  | n + 1, f, h => by simp only [sum]; rw [Nk fun i hi => h i (by omega), h n (by omega)]; rfl
theorem Gt {k : Nat} : ∀ {n : Nat} {f : Nat → Int}, k < n → (∀ i, i < n → i ≠ k → f i = 0) → sum n f = f k
  | n + 1, f, hk, h => by
    simp only [sum]
    by_cases e : k = n
    · subst e
      rw [Nk fun i hi => h i (by omega) (by omega)]; omega
    · rw [Gt (by omega) fun i hi => h i (by omega), h n (by omega) (fun h => e h.symm)]; omega
theorem sum_nonneg : ∀ {n : Nat} {f : Nat → Int}, (∀ i, i < n → 0 ≤ f i) → 0 ≤ sum n f
  | 0, _, _ => Int.le_refl 0
  | n + 1, f, h => by
    simp only [sum]
    have := sum_nonneg (n := n) (f := f) fun i hi => h i (by omega)
    have := h n (by omega)
    omega
def Um (n : Nat) (a : Nat → Nat → Int) (x : Nat → Int) : Int := sum n fun i => sum n fun j => x i * a i j * x j
def Pos (n : Nat) (a : Nat → Nat → Int) : Prop := ∀ x, (∃ i, i < n ∧ x i ≠ 0) → 0 < Um n a x
def Symm (n : Nat) (a : Nat → Nat → Int) : Prop := ∀ i j, i < n → j < n → a i j = a j i
variable {rho : Nat → Nat → Int} {n : Nat}
theorem sq_nonneg (a : Int) : 0 ≤ a * a := by
  rcases Int.le_total 0 a with h | h
  · exact Int.mul_nonneg h h
  · have := Int.mul_nonneg (a := -a) (b := -a) (by omega) (by omega)
    rwa [Int.neg_mul_neg] at this
end Go.PD
namespace Go.PD
def swr (rho : Nat → Nat → Int) (k i : Nat) : Nat → Nat → Int := fun l => if l = k then rho i else if l = i then rho k else rho l
theorem swr_low {rho : Nat → Nat → Int} {k i m : Nat} (hk : m ≤ k) (hi : m ≤ i) : Rs (swr rho k i) m = Rs rho m := Rs_congr fun l hl => by
  unfold swr; rw [if_neg (by omega), if_neg (by omega)]
theorem d_swr {rho : Nat → Nat → Int} {k i l j : Nat} (hki : k ≤ i) : d (swr rho k i) k l j = if l = k then d rho k i j else if l = i then d rho k k j else d rho k l j := by
  unfold d
  rw [swr_low (Nat.le_refl _) hki]
  unfold swr
  split
  · rfl
  · split <;> rfl
end Go.PD
namespace Go.PD
def dif (a b : Nat → Nat → Int) (m : Int) : Nat → Nat → Int := fun i j => a i j - b i j + if i = j then m else 0
def sq (n : Nat) (x : Nat → Int) : Int := sum n fun i => x i * x i
theorem sum_pick {n k : Nat} (hk : k < n) (c : Int) : sum n (fun j => if j = k then c else 0) = c := by
  rw [Gt hk (fun i _ hi => by rw [if_neg hi]), if_pos rfl]
theorem form_dif (n : Nat) (a b : Nat → Nat → Int) (m : Int) (x : Nat → Int) : Um n (dif a b m) x = Um n a x - Um n b x + m * sq n x := by
  have h : ∀ i, i < n → (sum n fun j => x i * dif a b m i j * x j) = (1 * (sum n fun j => x i * a i j * x j) + (-1) * (sum n fun j => x i * b i j * x j)) + m * (x i * x i) := by
    intro i hi
    have e1 : (sum n fun j => x i * dif a b m i j * x j) = sum n fun j => (1 * (x i * a i j * x j) + (-1) * (x i * b i j * x j)) + (if j = i then m * (x i * x i) else 0) := by
      refine Zz fun j _ => ?_
      unfold dif
      by_cases e : i = j
      · subst e; simp only [if_true]; grind
      · have e' : ¬ j = i := fun h => e h.symm
        simp only [e, e', if_false]; grind
    rw [e1, sum_add, Km, sum_pick hi]
  unfold Um sq
  rw [Zz h, sum_add, Km, sum_smul]
  omega
theorem sq_pos {n : Nat} {x : Nat → Int} : 0 ≤ sq n x := sum_nonneg fun i _ => sq_nonneg _
theorem Pos.more {n : Nat} {a b : Nat → Nat → Int} {m m' : Int} (h : Pos n (dif a b m)) (hm : m ≤ m') : Pos n (dif a b m') := by
  intro x hx
  have h1 := h x hx
  rw [form_dif] at h1 ⊢
  have h2 : m * sq n x ≤ m' * sq n x := Int.mul_le_mul_of_nonneg_right hm sq_pos
  omega
theorem Symm.dif {n : Nat} {a b : Nat → Nat → Int} {m : Int} (ha : Symm n a) (hb : Symm n b) : Symm n (dif a b m) := by
  intro i j hi hj
  unfold PD.dif
  rw [ha i j hi hj, hb i j hi hj]
  by_cases e : i = j
  · rw [if_pos e, if_pos e.symm]
  · rw [if_neg e, if_neg (fun h => e h.symm)]
end Go.PD
namespace Go.PD
theorem iota_mem {r s : Nat → Int} : ∀ {cs : List Nat} {F G : List Nat → Int}, (∀ c ∈ cs, r c = s c) → (∀ ds, (∀ c ∈ ds, c ∈ cs) → F ds = G ds) → Zd r cs F = Zd s cs G
  | [], _, _, _, _ => rfl
  | a :: cs, F, G, h, g => by
    simp only [Zd]
    rw [h a (by simp), g cs (fun c hc => by simp [hc]), iota_mem (cs := cs) (fun c hc => h c (by simp [hc])) (fun ds hd => g (a :: ds) (fun c hc => by
      rcases List.mem_cons.1 hc with rfl | hc
      · simp
      · simp [hd c hc]))]
theorem D_Rs_congr {a b : Nat → Nat → Int} : ∀ (k : Nat) (cs : List Nat), (∀ i, i < k → ∀ c ∈ cs, a i c = b i c) → D (Rs a k) cs = D (Rs b k) cs
  | 0, _, _ => rfl
  | k + 1, cs, h => iota_mem (fun c hc => h k (by omega) c hc) fun ds hd => D_Rs_congr k ds fun i hi c hc => h i (by omega) c (hd c hc)
theorem P_congr {a b : Nat → Nat → Int} {m : Nat} (h : ∀ i j, i < m → j < m → a i j = b i j) : P a m = P b m := D_Rs_congr m _ fun i hi c hc => h i c hi (W4.1 hc)
theorem iota_map {r : Nat → Int} {s : Nat → Nat} : ∀ {cs : List Nat} {F : List Nat → Int}, Zd r (cs.map s) F = Zd (fun j => r (s j)) cs fun ds => F (ds.map s)
  | [], _ => rfl
  | a :: cs, F => by
    simp only [List.map_cons, Zd]
    rw [iota_map (cs := cs) (F := fun ds => F (s a :: ds))]
theorem D_map {s : Nat → Nat} : ∀ (rs : List (Nat → Int)) (cs : List Nat), D rs (cs.map s) = D (rs.map fun r j => r (s j)) cs
  | [], cs => by cases cs <;> simp [D]
  | r :: rs, cs => by
    simp only [D, List.map_cons]
    rw [iota_map]
    congr 1
    funext ds
    exact D_map rs ds
theorem Alt.more {F : List Nat → Int} (h : Alt F) : ∀ (c1 : List Nat), Alt fun ds => F (c1 ++ ds)
  | [] => h
  | a :: c1 => (h.tail a).more c1
theorem Alt.trans0 : ∀ (q : List Nat) {F : List Nat → Int} (h : Alt F) (a b : Nat) (c2 : List Nat), F (a :: (q ++ b :: c2)) = - F (b :: (q ++ a :: c2))
  | [], F, h, a, b, c2 => h [] a b c2
  | x :: q, F, h, a, b, c2 => by
    have h1 := h [] a x (q ++ b :: c2)
    have h2 := Alt.trans0 q (h.tail x) a b c2
    have h3 := h [] b x (q ++ a :: c2)
    simp only [List.nil_append, List.cons_append] at h1 h2 h3 ⊢
    omega
theorem Alt.trans {F : List Nat → Int} (h : Alt F) (c1 q c2 : List Nat) (a b : Nat) : F (c1 ++ a :: (q ++ b :: c2)) = - F (c1 ++ b :: (q ++ a :: c2)) := Alt.trans0 q (h.more c1) a b c2
def sw (s t i : Nat) : Nat := if i = s then t else if i = t then s else i
theorem Rs_map (a : Nat → Nat → Int) (f : (Nat → Int) → Nat → Int) : ∀ k, (Rs a k).map f = Rs (fun i => f (a i)) k
  | 0 => rfl
  | k + 1 => by simp only [Rs, List.map_cons, Rs_map a f k]
theorem iota_low {r : Nat → Int} : ∀ (cs es : List Nat) {F : List Nat → Int}, (∀ c ∈ es, r c = 0) → Zd r (cs ++ es) F = Zd r cs fun ds => F (ds ++ es)
  | [], es, F, h => by rw [List.nil_append, Wx h]; rfl
  | c :: cs, es, F, h => by
    simp only [List.cons_append, Zd]
    rw [iota_low cs es h]
theorem iota_times {r : Nat → Int} {x : Int} : ∀ {cs : List Nat} {F G : List Nat → Int}, (∀ ds, ds.length + 1 = cs.length → F ds = x * G ds) → Zd r cs F = x * Zd r cs G
  | [], _, _, _ => by simp [Zd]
  | a :: cs, F, G, h => by
    simp only [Zd]
    rw [h cs (by simp), iota_times (cs := cs) (G := fun ds => G (a :: ds)) fun ds hd => h (a :: ds) (by simp; omega)]
    grind
theorem D_block (S : List (Nat → Int)) (es : List Nat) : ∀ (R : List (Nat → Int)) (cs : List Nat), cs.length = R.length → (∀ r ∈ R, ∀ c ∈ es, r c = 0) → D (R ++ S) (cs ++ es) = D S es * D R cs
  | [], cs, hl, _ => by
    obtain rfl : cs = [] := List.eq_nil_of_length_eq_zero (by simpa using hl)
    simp [D]
  | r :: R, cs, hl, h => by
    simp only [List.cons_append, D]
    rw [iota_low cs es (h r (by simp)), iota_times (x := D S es) (G := D R) fun ds hd => D_block S es R ds (by simp at hl; omega) fun r' hr => h r' (by simp [hr])]
theorem Rs_block (a : Nat → Nat → Int) (p : Nat) : ∀ k, Rs a (p + k) = (Rs (fun i => a (p + i)) k) ++ Rs a p
  | 0 => rfl
  | k + 1 => by
    show a (p + k) :: Rs a (p + k) = _
    rw [Rs_block a p k]; rfl
theorem Cs_block (p : Nat) : ∀ k, Cs (p + k) = (Cs k).map (fun j => p + j) ++ Cs p
  | 0 => rfl
  | k + 1 => by
    show (p + k) :: Cs (p + k) = _
    rw [Cs_block p k]; rfl
theorem P_block {a : Nat → Nat → Int} {p : Nat} (k : Nat) (h : ∀ i j, i < k → j < p → a (p + i) j = 0) : P a (p + k) = P a p * P (fun i j => a (p + i) (p + j)) k := by
  unfold P
  rw [Rs_block, Cs_block, D_block _ _ _ _ (by rw [List.length_map, J1r, Ga]) (fun r hr c hc => by
    obtain ⟨i, hi, rfl⟩ := mem_Rs.1 hr
    exact h i c hi (W4.1 hc)), D_map, Rs_map]
end Go.PD

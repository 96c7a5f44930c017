/- Part 11 of the proof of laws of this seat: lemmas on the model's code, on this program's functions, on numbers. No condition. -/
import Derived.Test.YtigddjlhncnnoaaGreatDoorZGaj
set_option linter.unusedVariables false
set_option linter.unusedSimpArgs false
open Nat renaming reduceEqDiff → J0, reduceLeDiff → J1, reduceMul → J2, reduceAdd → J3, reduceSub → J4, reduceLT → J5
open Int renaming reduceToNat → J6, reducePow → J7, reduceNeg → J8, reduceLT → J9, reduceLE → Ja, reduceEq → Jb
open And renaming intro → Jc
open Go.IntKind renaming bits → Jd
open Go.PW renaming dig_length → Je
namespace Go.PW
def Z9 (rs : List Int) : List Int := rs.flatMap (dig 16)
theorem Gm (rs : List Int) : (Z9 rs).length = rs.length * 16 := by
  induction rs with
  | nil => rfl
  | cons r rs ih =>
    have : Z9 (r :: rs) = dig 16 r ++ Z9 rs := rfl
    rw [this, List.length_append, dig_length, ih, List.length_cons]
    omega
theorem cellsOf_get : ∀ (rs : List Int) (j : Nat), j < rs.length → ((Z9 rs).drop (j * 16)).take 16 = dig 16 (rs.getD j 0)
  | r :: rs, 0, _ => by
    have : Z9 (r :: rs) = dig 16 r ++ Z9 rs := rfl
    rw [this, Nat.zero_mul, List.drop_zero, List.take_append_of_le_length (by rw [dig_length]; omega), List.take_of_length_le (by rw [dig_length]; omega)]
    rfl
  | r :: rs, j + 1, h => by
    have e : Z9 (r :: rs) = dig 16 r ++ Z9 rs := rfl
    have ih := cellsOf_get rs j (by simpa using h)
    rw [e, show (j + 1) * 16 = (dig 16 r).length + j * 16 by rw [dig_length]; omega, List.drop_append, List.drop_of_length_le (by omega), List.nil_append, Nat.add_sub_cancel_left, ih, List.getD_cons_succ]
theorem cellsOf_set : ∀ (rs : List Int) (j : Nat) (x : Int), j < rs.length → (Z9 rs).take (j * 16) ++ dig 16 x ++ (Z9 rs).drop (j * 16 + 16) = Z9 (rs.set j x)
  | r :: rs, 0, x, _ => by
    have e : Z9 (r :: rs) = dig 16 r ++ Z9 rs := rfl
    have e2 : Z9 (x :: rs) = dig 16 x ++ Z9 rs := rfl
    rw [e, Nat.zero_mul, List.take_zero, List.nil_append, List.set_cons_zero, e2, Nat.zero_add, List.drop_append_of_le_length (by rw [dig_length]; omega), List.drop_of_length_le (by rw [dig_length]; omega), List.nil_append]
  | r :: rs, j + 1, x, h => by
    have e : Z9 (r :: rs) = dig 16 r ++ Z9 rs := rfl
    have e2 : Z9 (r :: rs.set j x) = dig 16 r ++ Z9 (rs.set j x) := rfl
    have ih := cellsOf_set rs j x (by simpa using h)
    rw [e, List.set_cons_succ, e2, ← ih, show (j + 1) * 16 = (dig 16 r).length + j * 16 by rw [dig_length]; omega, List.take_append, List.take_of_length_le (by omega), Nat.add_sub_cancel_left,
      show (dig 16 r).length + j * 16 + 16 = (dig 16 r).length + (j * 16 + 16) by omega, List.drop_append, List.drop_of_length_le (by omega), List.nil_append, Nat.add_sub_cancel_left]
    simp only [List.append_assoc]
end Go.PW
namespace Go.PW
theorem R9 {p a b : Int} (hp : 0 < p) (h : p * a < p * b) : a < b := Int.lt_of_mul_lt_mul_left h (Int.le_of_lt hp)
theorem getD_above {xs : List Int} (hx : Limbs xs) {m : Nat} (h : val (xs.drop m) = 0) (k : Nat) (hk : m ≤ k) : xs.getD k 0 = 0 := by
  have hz : ∀ (ys : List Int), Limbs ys → val ys = 0 → ∀ k, ys.getD k 0 = 0 := by
    intro ys
    induction ys with
    | nil => intro _ _ k; rfl
    | cons y ys ih =>
      intro hl hv k
      obtain ⟨a, b⟩ := Limbs.cons.1 hl
      have c := (Xh b).1
      simp only [val] at hv
      have hy : y = 0 := by simp only [Bs] at *; omega
      have hys : val ys = 0 := by simp only [Bs] at *; omega
      cases k with
      | zero => rw [List.getD_cons_zero]; exact hy
      | succ k => rw [List.getD_cons_succ]; exact ih b hys k
  have := hz _ (hx.drop m) h (k - m)
  rw [List.getD_eq_getElem?_getD, List.getElem?_drop, show m + (k - m) = k by omega, ← List.getD_eq_getElem?_getD] at this
  exact this
structure LInv (U V : Int) (n la j : Nat) (us qs : List Int) : Prop where
  ul : us.length = la + 1
  uL : Limbs us
  ql : qs.length = la - n + 1
  qL : Limbs qs
  inv : val us + V * val qs = U
  lt : val us < V * Bs ^ j
  qz : ∀ i, i < j → qs.getD i 0 = 0
theorem LInv.start {X Y : Int} {n la s : Nat} {us : List Int} (hn : 0 < n) (hnl : n ≤ la) (hX : X < Bs ^ la) (hY : Bs ^ (n - 1) ≤ Y) (ul : us.length = la + 1) (uL : Limbs us) (hu : val us = X * 2 ^ s) : LInv (X * 2 ^ s) (Y * 2 ^ s) n la (la - n + 1) us (List.replicate (la - n + 1) 0) := by
  refine ⟨ul, uL, by simp, Limbs.replicate _, by rw [Gw]; omega, ?_, fun i hi => by simp [List.getD, hi]⟩
  rw [hu]
  have h1 := Int.mul_lt_mul_of_pos_right hX (Zb s)
  have h2 : Bs ^ la = Bs ^ (n - 1) * Bs ^ (la - n + 1) := by rw [← Int.pow_add]; congr 1; omega
  have h3 := Int.mul_le_mul_of_nonneg_right hY (Int.le_of_lt (Int.mul_pos (Xn (la - n + 1)) (Zb s)))
  have e1 : Bs ^ (n - 1) * (Bs ^ (la - n + 1) * 2 ^ s) = Bs ^ la * 2 ^ s := by rw [h2]; grind
  have e2 : Y * (Bs ^ (la - n + 1) * 2 ^ s) = Y * 2 ^ s * Bs ^ (la - n + 1) := by grind
  omega
section
variable {U V : Int} {n la i : Nat} {us qs : List Int}
theorem LInv.window (L : LInv U V n la (i + 1) us qs) (hin : i + n ≤ la) (hV : 0 < V) (hVn : V < Bs ^ n) :
    ((us.drop i).take (n + 1)).length = n + 1 ∧ Limbs ((us.drop i).take (n + 1)) ∧ val ((us.drop i).take (n + 1)) = val (us.drop i) ∧ val (((us.drop i).take (n + 1)).drop 1) < V ∧ (∀ k, i + n < k → us.getD k 0 = 0) ∧
    val us = val (us.take i) + Bs ^ i * val (us.drop i) ∧ (0 ≤ val (us.take i) ∧ val (us.take i) < Bs ^ i) ∧ 0 ≤ val (us.drop i) ∧ val (us.drop i) / V < Bs := by
  have hl := L.ul
  have hp := Xn i
  have h1 := Yq us i
  rw [Nat.min_eq_left (by omega)] at h1
  have h2 := Xh (L.uL.take i)
  rw [List.length_take, Nat.min_eq_left (by omega)] at h2
  have h3 := (Xh (L.uL.drop i)).1
  have hlt := L.lt
  have hWV : val (us.drop i) < V * Bs := by
    apply R9 hp
    have : Bs ^ i * (V * Bs) = V * Bs ^ (i + 1) := by rw [Int.pow_succ]; grind
    omega
  have hVB : V * Bs < Bs ^ (n + 1) := by rw [Int.pow_succ]; exact Int.mul_lt_mul_of_pos_right hVn (by decide)
  obtain ⟨z1, z2⟩ := Uj (L.uL.drop i) (m := n + 1) (by omega)
  rw [List.drop_drop, show i + (n + 1) = i + n + 1 by omega] at z1
  have wl : ((us.drop i).take (n + 1)).length = n + 1 := by rw [List.length_take, List.length_drop]; omega
  have wL : Limbs ((us.drop i).take (n + 1)) := (L.uL.drop i).take _
  have d1 := Yw ((us.drop i).take (n + 1)) (i := 0) (by omega)
  rw [List.drop_zero, z2] at d1
  refine ⟨wl, wL, z2, ?_, fun k hk => getD_above L.uL z1 k (by omega), h1, h2, h3, (Int.ediv_lt_iff_lt_mul hV).2 (by rw [Int.mul_comm]; exact hWV)⟩
  have g0 := wL.get 0
  apply R9 (p := Bs) (by decide)
  have : Bs * V = V * Bs := Int.mul_comm _ _
  rw [this]
  have e : val (((us.drop i).take (n + 1)).drop (0 + 1)) = val (((us.drop i).take (n + 1)).drop 1) := rfl
  rw [e] at d1
  omega
theorem LInv.round (L : LInv U V n la (i + 1) us qs) (hin : i + n ≤ la) (hV : 0 < V) (hVn : V < Bs ^ n) {us' : List Int} (ul : us'.length = us.length) (uL : Limbs us') (hv : val us' = val (us.take i) + Bs ^ i * (val (us.drop i) % V)) : LInv U V n la i us' (qs.set i (val (us.drop i) / V)) := by
  obtain ⟨w1, w2, w3, w4, w5, w6, w7, w8, w9⟩ := L.window hin hV hVn
  have hql := L.ql
  refine ⟨by rw [ul]; exact L.ul, uL, by rw [List.length_set]; exact hql, L.qL.set i ⟨Int.ediv_nonneg w8 (by omega), w9⟩, ?_, ?_, fun k hk => ?_⟩
  · rw [Vt _ (by omega), L.qz i (by omega), hv]
    have hi := L.inv
    have hm := Int.emod_add_mul_ediv (val (us.drop i)) V
    have e : Bs ^ i * val (us.drop i) = Bs ^ i * (val (us.drop i) % V) + V * (Bs ^ i * (val (us.drop i) / V)) := by
      conv => lhs; rw [← hm]
      grind
    rw [Int.mul_add, Int.sub_zero]
    omega
  · rw [hv]
    have h1 := Int.emod_lt_of_pos (val (us.drop i)) hV
    have h2 := Int.mul_le_mul_of_nonneg_left (show val (us.drop i) % V + 1 ≤ V by omega) (Int.le_of_lt (Xn i))
    rw [Int.mul_add, Int.mul_comm (Bs ^ i) V] at h2
    omega
  · rw [Xs _ _ (by omega), if_neg (by omega)]
    exact L.qz k (by omega)
end
theorem LInv.done {X Y : Int} {n la s : Nat} {us qs : List Int} (L : LInv (X * 2 ^ s) (Y * 2 ^ s) n la 0 us qs) (hY : 0 < Y) : val qs = X / Y ∧ val us = X % Y * 2 ^ s := by
  have hp := Zb s
  have hV := Int.mul_pos hY hp
  have h1 := L.inv
  have h2 := L.lt
  have h3 := (Xh L.uL).1
  rw [Int.pow_zero, Int.mul_one] at h2
  have hq : val qs = X * 2 ^ s / (Y * 2 ^ s) := by
    refine (ediv_eq hV ?_ ?_).symm
    · rw [Int.mul_comm]; omega
    · have e : (val qs + 1) * (Y * 2 ^ s) = Y * 2 ^ s * val qs + Y * 2 ^ s := by grind
      omega
  have hXY : X * 2 ^ s / (Y * 2 ^ s) = X / Y := Int.mul_ediv_mul_of_pos_left _ _ hp
  have hR : X * 2 ^ s % (Y * 2 ^ s) = X % Y * 2 ^ s := Gk hp
  refine ⟨by rw [hq, hXY], ?_⟩
  have hm := Int.emod_add_mul_ediv (X * 2 ^ s) (Y * 2 ^ s)
  rw [← hq, hR] at hm
  omega
end Go.PW
namespace Go.PD
def Zt (r : Nat → Int) : List Nat → (List Nat → Int) → Int
  | [], _ => 0
  | a :: cs, F => r a * F cs - Zt r cs (fun ds => F (a :: ds))
def D : List (Nat → Int) → List Nat → Int
  | [], cs => if cs = [] then 1 else 0
  | r :: rs, cs => Zt r cs (D rs)
theorem iota_F {r : Nat → Int} {x y : Int} : ∀ {cs : List Nat} {F G : List Nat → Int}, Zt r cs (fun ds => x * F ds + y * G ds) = x * Zt r cs F + y * Zt r cs G
  | [], _, _ => by simp [Zt]
  | a :: cs, F, G => by
    simp only [Zt]
    rw [iota_F (cs := cs)]
    grind
theorem iota_row {r s : Nat → Int} {x y : Int} : ∀ {cs : List Nat} {F : List Nat → Int}, Zt (fun j => x * r j + y * s j) cs F = x * Zt r cs F + y * Zt s cs F
  | [], _ => by simp [Zt]
  | a :: cs, F => by
    simp only [Zt]
    rw [iota_row (cs := cs)]
    grind
theorem iota_neg {r : Nat → Int} {cs : List Nat} {F : List Nat → Int} : Zt r cs (fun ds => - F ds) = - Zt r cs F := by
  have h := iota_F (r := r) (x := -1) (y := 0) (cs := cs) (F := F) (G := F)
  have e : (fun ds => -1 * F ds + 0 * F ds) = fun ds => - F ds := by funext ds; omega
  rw [e] at h
  omega
theorem iota_zero {r : Nat → Int} : ∀ {cs : List Nat} {F : List Nat → Int}, (∀ ds, ds.length < cs.length → F ds = 0) → Zt r cs F = 0
  | [], _, _ => rfl
  | a :: cs, F, h => by
    simp only [Zt]
    rw [h cs (by simp), iota_zero (cs := cs) fun ds hd => h (a :: ds) (by simp; omega)]
    simp
theorem iota_iota {r s : Nat → Int} : ∀ {cs : List Nat} {F : List Nat → Int}, Zt r cs (fun ds => Zt s ds F) = - Zt s cs (fun ds => Zt r ds F)
  | [], _ => by simp [Zt]
  | a :: cs, F => by
    have ih := iota_iota (r := r) (s := s) (cs := cs) (F := fun ds => F (a :: ds))
    simp only [Zt]
    have h1 := iota_F (r := r) (x := s a) (y := -1) (cs := cs) (F := F) (G := fun ds => Zt s ds fun es => F (a :: es))
    have h2 := iota_F (r := s) (x := r a) (y := -1) (cs := cs) (F := F) (G := fun ds => Zt r ds fun es => F (a :: es))
    have e1 : (fun ds => s a * F ds - Zt s ds fun es => F (a :: es)) = fun ds => s a * F ds + -1 * Zt s ds fun es => F (a :: es) := by funext ds; omega
    have e2 : (fun ds => r a * F ds - Zt r ds fun es => F (a :: es)) = fun ds => r a * F ds + -1 * Zt r ds fun es => F (a :: es) := by funext ds; omega
    rw [e1, e2, h1, h2]
    omega
theorem D_swap0 (r s : Nat → Int) (rs : List (Nat → Int)) (cs : List Nat) : D (r :: s :: rs) cs = - D (s :: r :: rs) cs := iota_iota
theorem D_row {r s : Nat → Int} {x y : Int} (rs : List (Nat → Int)) (cs : List Nat) : D ((fun j => x * r j + y * s j) :: rs) cs = x * D (r :: rs) cs + y * D (s :: rs) cs := iota_row
theorem D_twice (r : Nat → Int) : ∀ (ps rs : List (Nat → Int)) (cs : List Nat), D (r :: ps ++ r :: rs) cs = 0
  | [], rs, cs => by
    have := D_swap0 r r rs cs
    simp only [List.singleton_append]
    omega
  | p :: ps, rs, cs => by
    have h := D_swap0 r p (ps ++ r :: rs) cs
    have h2 : D (p :: r :: (ps ++ r :: rs)) cs = 0 := iota_zero fun ds _ => D_twice r ps rs ds
    simp only [List.cons_append]
    omega
theorem D_mem {r : Nat → Int} {rs : List (Nat → Int)} (h : r ∈ rs) (cs : List Nat) : D (r :: rs) cs = 0 := by
  obtain ⟨ps, qs, rfl⟩ := List.append_of_mem h
  exact D_twice r ps qs cs
def Alt (F : List Nat → Int) : Prop := ∀ c1 a b c2, F (c1 ++ a :: b :: c2) = - F (c1 ++ b :: a :: c2)
theorem Alt.tail {F : List Nat → Int} (h : Alt F) (a : Nat) : Alt fun ds => F (a :: ds) := fun c1 x y c2 => h (a :: c1) x y c2
theorem iota_alt (r : Nat → Int) : ∀ (c1 : List Nat) {F : List Nat → Int}, Alt F → ∀ a b c2, Zt r (c1 ++ a :: b :: c2) F = - Zt r (c1 ++ b :: a :: c2) F
  | [], F, h, a, b, c2 => by
    simp only [List.nil_append, Zt]
    have e : (fun ds => F (a :: b :: ds)) = fun ds => - F (b :: a :: ds) := by funext ds; exact h [] a b ds
    rw [e, iota_neg]
    omega
  | c :: c1, F, h, a, b, c2 => by
    simp only [List.cons_append, Zt]
    rw [iota_alt r c1 (h.tail c) a b c2, h c1 a b c2]
    grind
theorem D_alt : ∀ rs, Alt (D rs)
  | [] => fun c1 a b c2 => by simp [D]
  | r :: rs => fun c1 a b c2 => iota_alt r c1 (D_alt rs) a b c2
theorem Alt.twice {F : List Nat → Int} (h : Alt F) (a : Nat) : ∀ (c1 c2 : List Nat), F (a :: c1 ++ a :: c2) = 0
  | [], c2 => by
    have := h [] a a c2
    simp only [List.nil_append] at this
    simp only [List.singleton_append]
    omega
  | c :: c1, c2 => by
    have h1 := h [] a c (c1 ++ a :: c2)
    have h2 := (h.tail c).twice a c1 c2
    simp only [List.cons_append, List.nil_append] at h1 h2 ⊢
    omega
theorem Alt.mem {F : List Nat → Int} (h : Alt F) {a : Nat} {cs : List Nat} (hm : a ∈ cs) : F (a :: cs) = 0 := by
  obtain ⟨ps, qs, rfl⟩ := List.append_of_mem hm
  exact h.twice a ps qs
inductive Span : List (Nat → Int) → (Nat → Int) → Prop
  | nil : Span [] (fun _ => 0)
  | cons {rs : List (Nat → Int)} {f : Nat → Int} (r : Nat → Int) (x : Int) : Span rs f → Span (r :: rs) (fun j => x * r j + f j)
theorem Span.D {rs ss : List (Nat → Int)} {f : Nat → Int} (h : Span rs f) (hs : ∀ r ∈ rs, r ∈ ss) (cs : List Nat) : PD.D (f :: ss) cs = 0 := by
  induction h with
  | nil =>
    have := D_row (r := fun _ => 0) (s := fun _ => 0) (x := 0) (y := 0) ss cs
    simpa using this
  | cons r x _ ih =>
    rename_i rs f _
    have := D_row (r := r) (s := f) (x := x) (y := 1) ss cs
    simp only [Int.one_mul] at this
    rw [this, D_mem (hs r (List.mem_cons_self ..)), ih fun q hq => hs q (List.mem_cons_of_mem _ hq)]
    simp
theorem Span.add {rs : List (Nat → Int)} {f g : Nat → Int} (h : Span rs f) (k : Span rs g) (x y : Int) : Span rs (fun j => x * f j + y * g j) := by
  induction h generalizing g with
  | nil =>
    cases k
    have : (fun _ : Nat => x * 0 + y * 0) = fun _ => (0 : Int) := by funext; simp
    rw [this]; exact .nil
  | cons r u _ ih =>
    rename_i rs f _
    cases k with
    | cons r' v k =>
      rename_i g
      have := Span.cons r (x * u + y * v) (ih k)
      have e : (fun j => (x * u + y * v) * r j + (x * f j + y * g j)) = fun j => x * (u * r j + f j) + y * (v * r j + g j) := by funext j; grind
      rw [e] at this
      exact this
theorem Span.zero : ∀ (rs : List (Nat → Int)), Span rs (fun _ => 0)
  | [] => .nil
  | r :: rs => by
    have := Span.cons r 0 (Span.zero rs)
    have e : (fun j => 0 * r j + (fun _ => (0 : Int)) j) = fun _ => 0 := by funext; simp
    rwa [e] at this
theorem Span.more {rs : List (Nat → Int)} {f : Nat → Int} (r : Nat → Int) (h : Span rs f) : Span (r :: rs) f := by
  have := Span.cons r 0 h
  have e : (fun j => 0 * r j + f j) = f := by funext; simp
  rwa [e] at this
theorem Span.col : ∀ (rs : List (Nat → Int)) (es : List Nat), Span rs (fun j => PD.D rs (j :: es))
  | [], es => by simpa [PD.D] using Span.nil
  | r :: rs, es => by
    have key : ∀ (es : List Nat) (G : Nat → List Nat → Int), (∀ ds, Span rs fun j => G j ds) → Span rs fun j => Zt r es (G j) := by
      intro es
      induction es with
      | nil => intro G _; simpa [Zt] using Span.zero rs
      | cons a es ih =>
        intro G hG
        have h1 := (hG es).add (ih (fun j ds => G j (a :: ds)) fun ds => hG (a :: ds)) (r a) (-1)
        have e : (fun j => r a * G j es + -1 * Zt r es fun ds => G j (a :: ds)) = fun j => Zt r (a :: es) (G j) := by funext j; simp only [Zt]; omega
        rwa [e] at h1
    have h1 := (key es (fun j ds => PD.D rs (j :: ds)) fun ds => Span.col rs ds).add (Span.zero rs) (-1) 0
    have h2 := Span.cons r (PD.D rs es) h1
    have e : (fun j => PD.D rs es * r j + (-1 * Zt r es (fun ds => PD.D rs (j :: ds)) + 0 * 0)) = fun j => PD.D (r :: rs) (j :: es) := by
      funext j
      show _ = r j * PD.D rs es - Zt r es fun ds => PD.D rs (j :: ds)
      grind
    rwa [e] at h2
theorem Span.tail {rs : List (Nat → Int)} (r : Nat → Int) {es : List Nat} : Span rs (fun j => Zt r es (fun ds => PD.D rs (j :: ds))) := by
  have h := Span.col (r :: rs) es
  have key : ∀ (es : List Nat) (G : Nat → List Nat → Int), (∀ ds, Span rs fun j => G j ds) → Span rs fun j => Zt r es (G j) := by
    intro es
    induction es with
    | nil => intro G _; simpa [Zt] using Span.zero rs
    | cons a es ih =>
      intro G hG
      have h1 := (hG es).add (ih (fun j ds => G j (a :: ds)) fun ds => hG (a :: ds)) (r a) (-1)
      have e : (fun j => r a * G j es + -1 * Zt r es fun ds => G j (a :: ds)) = fun j => Zt r (a :: es) (G j) := by funext j; simp only [Zt]; omega
      rwa [e] at h1
  exact key es _ fun ds => Span.col rs ds
def red (rs : List (Nat → Int)) (cs : List Nat) (u : Nat → Int) : Nat → Int := fun j => D (u :: rs) (j :: cs)
theorem red_eq (rs : List (Nat → Int)) (cs : List Nat) (u : Nat → Int) (j : Nat) : red rs cs u j = u j * D rs cs - Zt u cs (fun ds => D rs (j :: ds)) := rfl
theorem red_zero {rs : List (Nat → Int)} {cs : List Nat} (u : Nat → Int) {j : Nat} (h : j ∈ cs) : red rs cs u j = 0 := (D_alt (u :: rs)).mem h
theorem red_row (rs : List (Nat → Int)) (cs : List Nat) (u : Nat → Int) (qs : List (Nat → Int)) (hq : ∀ r ∈ rs, r ∈ qs) (es : List Nat) : D (red rs cs u :: qs) es = D rs cs * D (u :: qs) es := by
  have hs := Span.tail (rs := rs) u (es := cs)
  have e : red rs cs u = fun j => D rs cs * u j + -1 * Zt u cs (fun ds => D rs (j :: ds)) := by funext j; rw [red_eq]; grind
  rw [e, D_row, hs.D hq]
  simp
theorem Gg {u : Nat → Int} {cs : List Nat} (h : ∀ c ∈ cs, u c = 0) {F : List Nat → Int} : Zt u cs F = 0 := by
  induction cs generalizing F with
  | nil => rfl
  | cons a cs ih =>
    simp only [Zt]
    rw [h a (List.mem_cons_self ..), ih fun c hc => h c (List.mem_cons_of_mem _ hc)]
    simp
theorem sylvester (rs : List (Nat → Int)) (cs : List Nat) (u v : Nat → Int) (j k : Nat) (h : D rs cs ≠ 0) :
    D rs cs * D (u :: v :: rs) (j :: k :: cs) = D (v :: rs) (k :: cs) * D (u :: rs) (j :: cs) - D (u :: rs) (k :: cs) * D (v :: rs) (j :: cs) := by
  have hu : ∀ c ∈ cs, red rs cs u c = 0 := fun c hc => red_zero u hc
  have hv : ∀ c ∈ cs, red rs cs v c = 0 := fun c hc => red_zero v hc
  have h1 : D (red rs cs u :: red rs cs v :: rs) (j :: k :: cs) = D rs cs * (D rs cs * D (u :: v :: rs) (j :: k :: cs)) := by
    rw [red_row rs cs u _ (fun r hr => List.mem_cons_of_mem _ hr)]
    have h2 : ∀ es, D (u :: red rs cs v :: rs) es = D rs cs * D (u :: v :: rs) es := by
      intro es
      rw [D_swap0, red_row rs cs v _ (fun r hr => List.mem_cons_of_mem _ hr), D_swap0 u v]
      grind
    rw [h2]
  have h3 : D (red rs cs u :: red rs cs v :: rs) (j :: k :: cs) = D rs cs * (red rs cs v k * red rs cs u j - red rs cs u k * red rs cs v j) := by
    show Zt (red rs cs u) (j :: k :: cs) (fun ds => Zt (red rs cs v) ds (D rs)) = _
    have e : ∀ a, (Zt (red rs cs v) (a :: cs) (D rs)) = red rs cs v a * D rs cs := by
      intro a
      simp only [Zt]
      rw [Gg hv]; omega
    simp only [Zt]
    rw [Gg hv, Gg hv, Gg hu]
    grind
  rw [h1] at h3
  exact Int.eq_of_mul_eq_mul_left h h3
end Go.PD
namespace Go.PD
def Rs (rho : Nat → Nat → Int) : Nat → List (Nat → Int)
  | 0 => []
  | k + 1 => rho k :: Rs rho k
def Cs : Nat → List Nat
  | 0 => []
  | k + 1 => k :: Cs k
def P (rho : Nat → Nat → Int) (k : Nat) : Int := D (Rs rho k) (Cs k)
def d (rho : Nat → Nat → Int) (k i j : Nat) : Int := D (rho i :: Rs rho k) (j :: Cs k)
def e (rho : Nat → Nat → Int) (k i j : Nat) : Int := D (Rs rho k) ((Cs k).map fun c => if c = i then j else c)
theorem Ki : ∀ {k c : Nat}, c ∈ Cs k ↔ c < k
  | 0, c => by simp [Cs]
  | k + 1, c => by simp [Cs, Ki (k := k)]; omega
theorem Rs_congr {rho tau : Nat → Nat → Int} : ∀ {k : Nat}, (∀ i, i < k → rho i = tau i) → Rs rho k = Rs tau k
  | 0, _ => rfl
  | k + 1, h => by simp only [Rs]; rw [h k (by omega), Rs_congr fun i hi => h i (by omega)]
variable {rho : Nat → Nat → Int}
theorem d_zero (i j : Nat) : d rho 0 i j = rho i j := by
  show rho i j * 1 - 0 = _
  omega
theorem d_col {k i j : Nat} (h : j < k) : d rho k i j = 0 := (D_alt _).mem (Ki.2 h)
theorem d_mul {k : Nat} (h : P rho k ≠ 0) (i j : Nat) : P rho k * d rho (k + 1) i j = d rho k k k * d rho k i j - d rho k i k * d rho k k j :=
  sylvester (Rs rho k) (Cs k) (rho i) (rho k) j k h
theorem d_step {k : Nat} (h : P rho k ≠ 0) (i j : Nat) : (d rho k k k * d rho k i j - d rho k i k * d rho k k j).tdiv (P rho k) = d rho (k + 1) i j := by
  rw [← d_mul h, Int.mul_tdiv_cancel_left _ h]
end Go.PD
namespace Go.PD
def sum : Nat → (Nat → Int) → Int
  | 0, _ => 0
  | n + 1, f => sum n f + f n
theorem Yb : ∀ {n : Nat} {f g : Nat → Int}, (∀ i, i < n → f i = g i) → sum n f = sum n g
  | 0, _, _, _ => rfl
  | n + 1, f, g, h => by simp only [sum]; rw [Yb fun i hi => h i (by omega), h n (by omega)]
theorem N0 {x y : Int} : ∀ {n : Nat} {f g : Nat → Int}, sum n (fun i => x * f i + y * g i) = x * sum n f + y * sum n g
  | 0, _, _ => by simp [sum]
  | n + 1, f, g => by simp only [sum]; rw [N0 (n := n)]; grind
theorem sum_add {n : Nat} {f g : Nat → Int} : sum n (fun i => f i + g i) = sum n f + sum n g := by
  have := N0 (x := 1) (y := 1) (n := n) (f := f) (g := g)
  simpa using this
theorem J1f {x : Int} {n : Nat} {f : Nat → Int} : sum n (fun i => x * f i) = x * sum n f := by
  have := N0 (x := x) (y := 0) (n := n) (f := f) (g := f)
  simpa using this
theorem J1e : ∀ {n : Nat} {f : Nat → Int}, (∀ i, i < n → f i = 0) → sum n f = 0
  | 0, _, _ => rfl
  | n + 1, f, h => by simp only [sum]; rw [J1e fun i hi => h i (by omega), h n (by omega)]; rfl
theorem J0i {k : Nat} : ∀ {n : Nat} {f : Nat → Int}, k < n → (∀ i, i < n → i ≠ k → f i = 0) → sum n f = f k
  | n + 1, f, hk, h => by
    simp only [sum]
    by_cases e : k = n
    · subst e
      rw [J1e fun i hi => h i (by omega) (by omega)]; omega
    · rw [J0i (by omega) fun i hi => h i (by omega), h n (by omega) (fun h => e h.symm)]; omega
theorem sum_nonneg : ∀ {n : Nat} {f : Nat → Int}, (∀ i, i < n → 0 ≤ f i) → 0 ≤ sum n f
  | 0, _, _ => Int.le_refl 0
  | n + 1, f, h => by
    simp only [sum]
    have := sum_nonneg (n := n) (f := f) fun i hi => h i (by omega)
    have := h n (by omega)
    omega
def Uk (n : Nat) (a : Nat → Nat → Int) (x : Nat → Int) : Int := sum n fun i => sum n fun j => x i * a i j * x j
def Pos (n : Nat) (a : Nat → Nat → Int) : Prop := ∀ x, (∃ i, i < n ∧ x i ≠ 0) → 0 < Uk n a x
def Symm (n : Nat) (a : Nat → Nat → Int) : Prop := ∀ i j, i < n → j < n → a i j = a j i
variable {rho : Nat → Nat → Int} {n : Nat}
theorem J1g (a : Int) : 0 ≤ a * a := by
  rcases Int.le_total 0 a with h | h
  · exact Int.mul_nonneg h h
  · have := Int.mul_nonneg (a := -a) (b := -a) (by omega) (by omega)
    rwa [Int.neg_mul_neg] at this
end Go.PD
namespace Go.PD
def swr (rho : Nat → Nat → Int) (k i : Nat) : Nat → Nat → Int := fun l => if l = k then rho i else if l = i then rho k else rho l
theorem swr_low {rho : Nat → Nat → Int} {k i m : Nat} (hk : m ≤ k) (hi : m ≤ i) : Rs (swr rho k i) m = Rs rho m := Rs_congr fun l hl => by
  unfold swr; rw [if_neg (by omega), if_neg (by omega)]
theorem d_swr {rho : Nat → Nat → Int} {k i l j : Nat} (hki : k ≤ i) : d (swr rho k i) k l j = if l = k then d rho k i j else if l = i then d rho k k j else d rho k l j := by
  unfold d
  rw [swr_low (Nat.le_refl _) hki]
  unfold swr
  split
  · rfl
  · split <;> rfl
end Go.PD
namespace Go.PD
def dif (a b : Nat → Nat → Int) (m : Int) : Nat → Nat → Int := fun i j => a i j - b i j + if i = j then m else 0
def sq (n : Nat) (x : Nat → Int) : Int := sum n fun i => x i * x i
theorem sum_pick {n k : Nat} (hk : k < n) (c : Int) : sum n (fun j => if j = k then c else 0) = c := by
  rw [J0i hk (fun i _ hi => by rw [if_neg hi]), if_pos rfl]
theorem form_dif (n : Nat) (a b : Nat → Nat → Int) (m : Int) (x : Nat → Int) : Uk n (dif a b m) x = Uk n a x - Uk n b x + m * sq n x := by
  have h : ∀ i, i < n → (sum n fun j => x i * dif a b m i j * x j) = (1 * (sum n fun j => x i * a i j * x j) + (-1) * (sum n fun j => x i * b i j * x j)) + m * (x i * x i) := by
    intro i hi
    have e1 : (sum n fun j => x i * dif a b m i j * x j) = sum n fun j => (1 * (x i * a i j * x j) + (-1) * (x i * b i j * x j)) + (if j = i then m * (x i * x i) else 0) := by
      refine Yb fun j _ => ?_
      unfold dif
      by_cases e : i = j
      · subst e; simp only [if_true]; grind
      · have e' : ¬ j = i := fun h => e h.symm
        simp only [e, e', if_false]; grind
    rw [e1, sum_add, N0, sum_pick hi]
  unfold Uk sq
  rw [Yb h, sum_add, N0, J1f]
  omega
theorem sq_pos {n : Nat} {x : Nat → Int} : 0 ≤ sq n x := sum_nonneg fun i _ => J1g _
theorem Pos.more {n : Nat} {a b : Nat → Nat → Int} {m m' : Int} (h : Pos n (dif a b m)) (hm : m ≤ m') : Pos n (dif a b m') := by
  intro x hx
  have h1 := h x hx
  rw [form_dif] at h1 ⊢
  have h2 : m * sq n x ≤ m' * sq n x := Int.mul_le_mul_of_nonneg_right hm sq_pos
  omega
theorem Symm.dif {n : Nat} {a b : Nat → Nat → Int} {m : Int} (ha : Symm n a) (hb : Symm n b) : Symm n (dif a b m) := by
  intro i j hi hj
  unfold PD.dif
  rw [ha i j hi hj, hb i j hi hj]
  by_cases e : i = j
  · rw [if_pos e, if_pos e.symm]
  · rw [if_neg e, if_neg (fun h => e h.symm)]
end Go.PD
namespace Go.PD
theorem Alt.more {F : List Nat → Int} (h : Alt F) : ∀ (c1 : List Nat), Alt fun ds => F (c1 ++ ds)
  | [] => h
  | a :: c1 => (h.tail a).more c1
theorem Alt.trans0 : ∀ (q : List Nat) {F : List Nat → Int} (h : Alt F) (a b : Nat) (c2 : List Nat), F (a :: (q ++ b :: c2)) = - F (b :: (q ++ a :: c2))
  | [], F, h, a, b, c2 => h [] a b c2
  | x :: q, F, h, a, b, c2 => by
    have h1 := h [] a x (q ++ b :: c2)
    have h2 := Alt.trans0 q (h.tail x) a b c2
    have h3 := h [] b x (q ++ a :: c2)
    simp only [List.nil_append, List.cons_append] at h1 h2 h3 ⊢
    omega
theorem Alt.trans {F : List Nat → Int} (h : Alt F) (c1 q c2 : List Nat) (a b : Nat) : F (c1 ++ a :: (q ++ b :: c2)) = - F (c1 ++ b :: (q ++ a :: c2)) := Alt.trans0 q (h.more c1) a b c2
end Go.PD
namespace Go.PR
def rtGo (n : Nat) : Nat → Nat → Nat
  | 0, r => r
  | s + 1, r => if (r + 2 ^ s) * (r + 2 ^ s) ≤ n then rtGo n s (r + 2 ^ s) else rtGo n s r
def rt (n : Nat) : Nat := rtGo n 64 0
theorem rtGo_spec (n : Nat) : ∀ s r, r * r ≤ n → n < (r + 2 ^ s) * (r + 2 ^ s) → rtGo n s r * rtGo n s r ≤ n ∧ n < (rtGo n s r + 1) * (rtGo n s r + 1)
  | 0, r, h1, h2 => ⟨h1, by rw [Nat.pow_zero] at h2; exact h2⟩
  | s + 1, r, h1, h2 => by
    simp only [rtGo]
    by_cases h : (r + 2 ^ s) * (r + 2 ^ s) ≤ n
    · rw [if_pos h]
      refine rtGo_spec n s _ h ?_
      have e : r + 2 ^ s + 2 ^ s = r + 2 ^ (s + 1) := by rw [Nat.pow_succ]; omega
      rw [e]; exact h2
    · rw [if_neg h]
      exact rtGo_spec n s r h1 (by omega)
theorem rt_spec {n : Nat} (h : n < 2 ^ 128) : rt n * rt n ≤ n ∧ n < (rt n + 1) * (rt n + 1) := by
  refine rtGo_spec n 64 0 (Nat.zero_le _) ?_
  rw [Nat.zero_add]
  exact Nat.lt_of_lt_of_le h (by decide)
theorem rt_lt {n b : Nat} (hn : n < 2 ^ 128) (h : n < b * b) : rt n < b := by
  have := (rt_spec hn).1
  refine Nat.lt_of_not_le fun hb => ?_
  have := Nat.mul_le_mul hb hb
  omega
def rnd (x y : Int) : Int := (2 * x + y) / (2 * y)
theorem ediv_of_t (a : Int) {b : Int} (hb : 0 < b) : a / b = if a.tmod b < 0 then a.tdiv b - 1 else a.tdiv b := by
  have h1 := Int.mul_tdiv_add_tmod a b
  have h5 := Int.lt_tmod_of_pos a hb
  have h6 := Int.tmod_lt_of_pos a hb
  -- both quotients times b: they differ by less than two b
  have key : ∀ q : Int, a = b * q + (a - b * q) → 0 ≤ a - b * q → a - b * q < b → a / b = q := by
    intro q _ l1 l2
    have e : a = (a - b * q) + b * q := by omega
    rw [e, Int.add_mul_ediv_left _ _ (by omega : b ≠ 0), Int.ediv_eq_zero_of_lt l1 l2, Int.zero_add]
  split
  · refine key _ (by omega) ?_ ?_
    · rw [Int.mul_sub, Int.mul_one]; omega
    · rw [Int.mul_sub, Int.mul_one]; omega
  · exact key _ (by omega) (by omega) (by omega)
theorem Ry {x y : Int} (hy : 0 < y) : 2 * y * rnd x y ≤ 2 * x + y ∧ 2 * x + y < 2 * y * rnd x y + 2 * y := by
  unfold rnd
  have h := Int.mul_ediv_add_emod (2 * x + y) (2 * y)
  have h3 := Int.emod_nonneg (2 * x + y) (b := 2 * y) (by omega)
  have h4 := Int.emod_lt_of_pos (2 * x + y) (b := 2 * y) (by omega)
  omega
end Go.PR
namespace Go.PR
theorem Ns {x b : Int} (hb : 0 ≤ b) (h : -b ≤ x ∧ x ≤ b) : 0 ≤ x * x ∧ x * x ≤ b * b := by
  have e : x * x = (x.natAbs : Int) * x.natAbs := by rw [← Int.natCast_mul]; exact (Int.natAbs_mul_self).symm
  have h1 : (x.natAbs : Int) ≤ b := by omega
  rw [e]
  exact ⟨Int.mul_nonneg (by omega) (by omega), Int.mul_le_mul h1 h1 (by omega) (by omega)⟩
theorem W7 {x y : Int} {p q : Nat} (hx : x.natAbs ≤ p) (hy : y.natAbs ≤ q) : (x * y).natAbs ≤ p * q := by
  rw [Int.natAbs_mul]; exact Nat.mul_le_mul hx hy
theorem Uw (x : Int) : (x.natAbs : Int) ≤ x * x := by
  have e : x * x = (x.natAbs : Int) * x.natAbs := by rw [← Int.natCast_mul]; exact (Int.natAbs_mul_self).symm
  rw [e]
  rcases Nat.eq_zero_or_pos x.natAbs with h | h
  · rw [h]; decide
  · have := Int.mul_le_mul_of_nonneg_left (show (1 : Int) ≤ x.natAbs by omega) (show (0 : Int) ≤ x.natAbs by omega)
    rwa [Int.mul_one] at this
theorem rnd_small {x y b : Int} (hy : 0 < y) (hb : 0 ≤ b) (h1 : -(b * y) ≤ x) (h2 : x ≤ b * y) : -b - 1 ≤ rnd x y ∧ rnd x y ≤ b + 1 := by
  obtain ⟨l, u⟩ := Ry (x := x) hy
  constructor
  · refine Int.not_lt.mp fun h => ?_
    have h3 : 2 * y * rnd x y ≤ 2 * y * (-b - 2) := Int.mul_le_mul_of_nonneg_left (by omega) (by omega)
    have e : 2 * y * (-b - 2) = -2 * (b * y) - 4 * y := by grind
    omega
  · refine Int.not_lt.mp fun h => ?_
    have h3 : 2 * y * (b + 2) ≤ 2 * y * rnd x y := Int.mul_le_mul_of_nonneg_left (by omega) (by omega)
    have e : 2 * y * (b + 2) = 2 * (b * y) + 4 * y := by grind
    omega
theorem mul_abs_le {a x B d : Int} (ha : -B ≤ a ∧ a ≤ B) (hx : -d ≤ x ∧ x ≤ d) : -(B * d) ≤ a * x ∧ a * x ≤ B * d := by
  have h : (a * x).natAbs ≤ B.toNat * d.toNat := W7 (by omega) (by omega)
  have e : ((B.toNat * d.toNat : Nat) : Int) = B * d := by push_cast; rw [Int.toNat_of_nonneg (by omega), Int.toNat_of_nonneg (by omega)]
  omega
def plX (px a k dx dy d : Int) : Int := rnd (a * dx + -k * dy) (2 * d) + px
def plY (py a k dx dy d : Int) : Int := rnd (a * dy + k * dx) (2 * d) + py
theorem pl_small {f a k x y d : Int} (hd : 0 < d) (ha : -281474976710656 ≤ a ∧ a ≤ 281474976710656) (hk : -140737488355328 ≤ k ∧ k ≤ 140737488355328) (hx : -d ≤ x ∧ x ≤ d) (hy : -d ≤ y ∧ y ≤ d) (hf : -4194304 ≤ f ∧ f ≤ 4194304) :
    -562949953421312 ≤ rnd (a * x + k * y) (2 * d) + f ∧ rnd (a * x + k * y) (2 * d) + f ≤ 562949953421312 := by
  have h1 := mul_abs_le ha hx
  have h2 := mul_abs_le hk hy
  have h3 := rnd_small (x := a * x + k * y) (y := 2 * d) (b := 281474976710656) (by omega) (by omega) (by omega) (by omega)
  omega
def Y7 (v : Int) : Bool := decide (v < -4194304 ∨ 4194304 < v)
def dd (px py qx qy : Int) : Int := (qx - px) * (qx - px) + (qy - py) * (qy - py)
def aa (px py r qx qy s : Int) : Int := r * r - s * s + dd px py qx qy
def rest (px py r qx qy s : Int) : Int := 4 * r * r * dd px py qx qy - aa px py r qx qy s * aa px py r qx qy s
def Gq (px py r qx qy s base : Int) : Bool := Y7 px || Y7 py || (Y7 qx || Y7 qy) || !(decide (0 ≤ r ∧ r ≤ 2097152) && decide (0 ≤ s ∧ s ≤ 2097152)) || decide (base < 1 ∨ 4194304 < base)
theorem Rc (r : Int) : 4 * r * r = 4 * (r * r) := by rw [Int.mul_assoc]
structure Sized (px py r qx qy s base : Int) : Prop where
  p1 : -4194304 ≤ px ∧ px ≤ 4194304
  p2 : -4194304 ≤ py ∧ py ≤ 4194304
  q1 : -4194304 ≤ qx ∧ qx ≤ 4194304
  q2 : -4194304 ≤ qy ∧ qy ≤ 4194304
  r0 : 0 ≤ r ∧ r ≤ 2097152
  s0 : 0 ≤ s ∧ s ≤ 2097152
  b0 : 1 ≤ base ∧ base ≤ 4194304
theorem sized_of {px py r qx qy s base : Int} (h : Gq px py r qx qy s base = false) : Sized px py r qx qy s base := by
  simp only [Gq, Y7, Bool.or_eq_false_iff, decide_eq_false_iff_not, Bool.not_eq_false', Bool.and_eq_true, decide_eq_true_eq] at h
  obtain ⟨⟨⟨⟨h1, h2⟩, h3, h4⟩, h5, h6⟩, h7⟩ := h
  exact ⟨by omega, by omega, by omega, by omega, h5, h6, by omega⟩
section
variable {px py r qx qy s base : Int} (Z : Sized px py r qx qy s base)
include Z
theorem Sized.dx : -8388608 ≤ qx - px ∧ qx - px ≤ 8388608 := by have := Z.p1; have := Z.q1; omega
theorem Sized.dy : -8388608 ≤ qy - py ∧ qy - py ≤ 8388608 := by have := Z.p2; have := Z.q2; omega
theorem Sized.dxx : 0 ≤ (qx - px) * (qx - px) ∧ (qx - px) * (qx - px) ≤ 70368744177664 := Ns (by decide) Z.dx
theorem Sized.dyy : 0 ≤ (qy - py) * (qy - py) ∧ (qy - py) * (qy - py) ≤ 70368744177664 := Ns (by decide) Z.dy
theorem Sized.d : 0 ≤ dd px py qx qy ∧ dd px py qx qy ≤ 140737488355328 := by
  have := Z.dxx; have := Z.dyy; unfold dd; omega
theorem Sized.rr : 0 ≤ r * r ∧ r * r ≤ 4398046511104 := Ns (b := 2097152) (by decide) (by have := Z.r0; omega)
theorem Sized.ss : 0 ≤ s * s ∧ s * s ≤ 4398046511104 := Ns (b := 2097152) (by decide) (by have := Z.s0; omega)
theorem Sized.bb : 1 ≤ base * base ∧ base * base ≤ 17592186044416 := by
  have h := Ns (x := base) (b := 4194304) (by decide) (by have := Z.b0; omega)
  have h2 := Uw base
  have := Z.b0
  omega
theorem Sized.a : -281474976710656 ≤ aa px py r qx qy s ∧ aa px py r qx qy s ≤ 281474976710656 := by
  have := Z.rr; have := Z.ss; have := Z.d; unfold aa; omega
theorem Sized.near (h : ¬ dd px py qx qy < base * base) : 0 < dd px py qx qy ∧ (-dd px py qx qy ≤ qx - px ∧ qx - px ≤ dd px py qx qy) ∧ (-dd px py qx qy ≤ qy - py ∧ qy - py ≤ dd px py qx qy) := by
  have h1 := Uw (qx - px)
  have h2 := Uw (qy - py)
  have h3 := Z.dxx
  have h4 := Z.dyy
  have h5 := Z.bb
  unfold dd at *
  omega
theorem Sized.rest_le : rest px py r qx qy s < 19807040628566084398385987584 := by
  have h1 := Z.rr
  have h2 := Z.d
  have h3 := Ns (x := aa px py r qx qy s) (b := 281474976710656) (by decide) Z.a
  have h4 : 4 * (r * r) * dd px py qx qy ≤ 17592186044416 * 140737488355328 := Int.mul_le_mul (by omega) h2.2 h2.1 (by omega)
  unfold rest
  rw [Rc]
  omega
theorem Sized.root : ((rt (rest px py r qx qy s).toNat : Nat) : Int) ≤ 140737488355327 := by
  have h := Z.rest_le
  have := rt_lt (n := (rest px py r qx qy s).toNat) (b := 140737488355328) (by have : (2 : Nat) ^ 128 = 340282366920938463463374607431768211456 := by decide
                                                                               omega) (by omega)
  omega
end
def meetK (px py r qx qy s : Int) : Int × (Int × Int) × (Int × Int) :=
  if (Y7 (plX px (aa px py r qx qy s) (rt (rest px py r qx qy s).toNat : Nat) (qx - px) (qy - py) (dd px py qx qy)) || Y7 (plY py (aa px py r qx qy s) (rt (rest px py r qx qy s).toNat : Nat) (qx - px) (qy - py) (dd px py qx qy)))
    || (Y7 (plX px (aa px py r qx qy s) (-(rt (rest px py r qx qy s).toNat : Nat)) (qx - px) (qy - py) (dd px py qx qy)) || Y7 (plY py (aa px py r qx qy s) (-(rt (rest px py r qx qy s).toNat : Nat)) (qx - px) (qy - py) (dd px py qx qy)))
  then (21, (0, 0), (0, 0))
  else (0, (plX px (aa px py r qx qy s) (rt (rest px py r qx qy s).toNat : Nat) (qx - px) (qy - py) (dd px py qx qy), plY py (aa px py r qx qy s) (rt (rest px py r qx qy s).toNat : Nat) (qx - px) (qy - py) (dd px py qx qy)),
    (plX px (aa px py r qx qy s) (-(rt (rest px py r qx qy s).toNat : Nat)) (qx - px) (qy - py) (dd px py qx qy), plY py (aa px py r qx qy s) (-(rt (rest px py r qx qy s).toNat : Nat)) (qx - px) (qy - py) (dd px py qx qy)))
def J0q (px py r qx qy s base : Int) : Int × (Int × Int) × (Int × Int) :=
  if Gq px py r qx qy s base then (27, (0, 0), (0, 0))
  else if dd px py qx qy < base * base then (33, (0, 0), (0, 0))
  else if rest px py r qx qy s < 0 then (34, (0, 0), (0, 0))
  else meetK px py r qx qy s
theorem meetS_ok {px py r qx qy s base : Int} (h : Gq px py r qx qy s base = false) : J0q px py r qx qy s base = if dd px py qx qy < base * base then (33, (0, 0), (0, 0)) else if rest px py r qx qy s < 0 then (34, (0, 0), (0, 0)) else meetK px py r qx qy s := by
  unfold J0q; rw [if_neg (by rw [h]; decide)]
end Go.PR
namespace Go.PW
def limF : Nat → Nat → List Int
  | 0, _ => []
  | f + 1, n => if n = 0 then [] else ((n % 18446744073709551616 : Nat) : Int) :: limF f (n / 18446744073709551616)
def lim (n : Nat) : List Int := limF n n
theorem limF_zero (f : Nat) : limF f 0 = [] := by cases f <;> simp [limF]
theorem limF_eq : ∀ f g n : Nat, n ≤ f → n ≤ g → limF f n = limF g n
  | 0, g, n, h, _ => by
    have : n = 0 := by omega
    subst this; rw [limF_zero, limF_zero]
  | f + 1, 0, n, _, h => by
    have : n = 0 := by omega
    subst this; rw [limF_zero, limF_zero]
  | f + 1, g + 1, n, hf, hg => by
    simp only [limF]
    by_cases h : n = 0
    · rw [if_pos h, if_pos h]
    · have := Nat.div_lt_self (Nat.pos_of_ne_zero h) (show 1 < 18446744073709551616 by decide)
      rw [if_neg h, if_neg h, limF_eq f g _ (by omega) (by omega)]
theorem lim_zero : lim 0 = [] := rfl
theorem lim_pos {n : Nat} (h : 0 < n) : lim n = ((n % 18446744073709551616 : Nat) : Int) :: lim (n / 18446744073709551616) := by
  obtain ⟨m, rfl⟩ : ∃ m, n = m + 1 := ⟨n - 1, by omega⟩
  have := Nat.div_lt_self h (show 1 < 18446744073709551616 by decide)
  show limF (m + 1) (m + 1) = _
  rw [limF, if_neg (by omega), limF_eq m ((m + 1) / 18446744073709551616) _ (by omega) (Nat.le_refl _)]
  rfl
theorem lim_unique : ∀ (xs : List Int) (n : Nat), Limbs xs → val xs = n → (xs = [] ∨ xs.getD (xs.length - 1) 0 ≠ 0) → xs = lim n
  | [], n, _, hv, _ => by
    have : n = 0 := by simp only [val] at hv; omega
    subst this; rw [lim_zero]
  | a :: l, n, hl, hv, ht => by
    have ha := hl a (List.mem_cons_self ..)
    have hll : Limbs l := fun x hx => hl x (List.mem_cons_of_mem _ hx)
    have hb := Xh hll
    simp only [val] at hv
    have htl : l = [] ∨ l.getD (l.length - 1) 0 ≠ 0 := by
      cases l with
      | nil => exact .inl rfl
      | cons b l =>
        right
        rcases ht with ht | ht
        · cases ht
        · rw [List.length_cons, show (b :: l).length + 1 - 1 = ((b :: l).length - 1) + 1 by simp] at ht
          simpa [List.getD_cons_succ] using ht
    obtain ⟨m, hm⟩ : ∃ m : Nat, val l = m := ⟨(val l).toNat, by omega⟩
    have ih := lim_unique l m hll hm htl
    have hn : 0 < n := by
      rcases Nat.eq_zero_or_pos n with h0 | h0
      · exfalso
        simp only [Bs] at *
        have h1 : a = 0 := by omega
        have h2 : m = 0 := by omega
        rw [h2, lim_zero] at ih
        subst ih
        rcases ht with ht | ht
        · cases ht
        · simp at ht; exact ht h1
      · exact h0
    rw [lim_pos hn]
    simp only [Bs] at *
    have e1 : ((n % 18446744073709551616 : Nat) : Int) = a := by omega
    have e2 : n / 18446744073709551616 = m := by omega
    rw [e1, e2, ← ih]
end Go.PW

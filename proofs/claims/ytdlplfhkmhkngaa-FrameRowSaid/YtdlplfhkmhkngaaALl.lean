/- For reckoning with the abstract memory. -/
import Derived.Test.YtdlplfhkmhkngaaALk
set_option linter.unusedVariables false
set_option linter.unusedSimpArgs false
namespace Go.AL
open Go.RowKit

/-! ### Checks that are met -/
theorem optIf {α : Type} {c : Prop} [Decidable c] {a : Option α} (h : c) : (if c then a else none) = a := if_pos h
theorem optIfN {α : Type} {c : Prop} [Decidable c] {a : Option α} (h : ¬ c) : (if c then none else a) = a := if_neg h
theorem selP {c : Prop} [Decidable c] {b : Blk} {x : Option Blk} (h : c) : (if c then some b else x) = some b := if_pos h
theorem selN {c : Prop} [Decidable c] {b : Blk} {x : Option Blk} (h : ¬ c) : (if c then some b else x) = x := if_neg h

theorem avP {c : Prop} [Decidable c] {a b : AV} (h : c) : (if c then a else b) = a := if_pos h
theorem avN {c : Prop} [Decidable c] {a b : AV} (h : ¬ c) : (if c then a else b) = b := if_neg h

/-! ### The heap -/
theorem hget_push (H : Hp) (b : Blk) (k : Nat) : hget (H ++ [b]) k = if k = H.length then some b else hget H k := by
  unfold hget
  split
  · rename_i h; subst h; simp
  · rename_i h
    rcases Nat.lt_or_ge k H.length with h1 | h1
    · rw [List.getElem?_append_left h1]
    · rw [List.getElem?_eq_none (by simp; omega), List.getElem?_eq_none (by omega)]
theorem hget_set {H : Hp} {h : Nat} (hl : h < H.length) (b : Blk) (k : Nat) : hget (H.set h b) k = if k = h then some b else hget H k := by
  unfold hget
  rw [List.getElem?_set]
  split
  · rename_i e; subst e; simp [hl]
  · rename_i e; rw [if_neg (fun h' => e h'.symm)]
theorem hget_lt {H : Hp} {h : Nat} {b : Blk} (e : hget H h = some b) : h < H.length := (List.getElem?_eq_some_iff.1 e).1
theorem hget_ext {H H' : Hp} {h : Nat} {b : Blk} (e : hget H h = some b) (x : Ext H H') : hget H' h = some b := by
  obtain ⟨E, rfl⟩ := x
  unfold hget at *
  rw [List.getElem?_append_left (hget_lt e)]
  exact e
theorem len_push (H : Hp) (b : Blk) : (H ++ [b]).length = H.length + 1 := by simp
theorem Ext.len {H H' : Hp} (x : Ext H H') : H.length ≤ H'.length := by
  obtain ⟨E, rfl⟩ := x
  simp
theorem set_push_new (H : Hp) (b b' : Blk) : (H ++ [b]).set H.length b' = H ++ [b'] := by
  rw [List.set_append_right _ _ (by omega)]; simp
theorem set_push_old {H : Hp} {h : Nat} (hl : h < H.length) (b b' : Blk) : (H ++ [b]).set h b' = H.set h b' ++ [b] := by
  rw [List.set_append_left _ _ hl]

/-! ### Slices that are read: whatever their form -/
def AV.hd : AV → Nat
  | .sl h _ _ _ => h
  | .sg h _ _ _ => h
  | .ptr h _ => h
  | _ => 0
def AV.of : AV → Nat
  | .sl _ o _ _ => o
  | .sg _ o _ _ => o
  | .ptr _ o => o
  | _ => 0

theorem arow_ext {H H' : Hp} {z n : Nat} {v : AV} {cs : List AV} (h : arow H z v = some (cs, n)) (x : Ext H H') : arow H' z v = some (cs, n) := by
  unfold arow at h ⊢
  split at h
  · exact h
  · split at h
    · rename_i b hb; rw [hget_ext hb x]; exact h
    · cases h
  · split at h
    · rename_i b hb; rw [hget_ext hb x]; exact h
    · cases h
  · cases h

theorem arow_cases {H : Hp} {z n : Nat} {v : AV} {cs : List AV} (h : arow H z v = some (cs, n)) :
    (v = .nilS ∧ cs = [] ∧ n = 0) ∨ (∃ b, ((∃ c, v = .sl v.hd v.of n c) ∨ (∃ z', v = .sg v.hd v.of n z')) ∧ hget H v.hd = some b ∧ b.kind ≠ .dead ∧ v.of + n * z ≤ b.cells.length ∧ cs = (b.cells.drop v.of).take (n * z)) := by
  unfold arow at h
  split at h
  · cases h; exact .inl ⟨rfl, rfl, rfl⟩
  · split at h
    · rename_i b hb
      split at h
      · cases h
      · rename_i hd
        split at h
        · rename_i hle; cases h; exact .inr ⟨b, .inl ⟨_, rfl⟩, hb, hd, hle, rfl⟩
        · cases h
    · cases h
  · split at h
    · rename_i b hb
      split at h
      · cases h
      · rename_i hd
        split at h
        · rename_i hle; cases h; exact .inr ⟨b, .inr ⟨_, rfl⟩, hb, hd, hle, rfl⟩
        · cases h
    · cases h
  · cases h

theorem arow_length {H : Hp} {z n : Nat} {v : AV} {cs : List AV} (h : arow H z v = some (cs, n)) : cs.length = n * z := by
  rcases arow_cases h with ⟨_, rfl, rfl⟩ | ⟨b, _, _, _, hle, rfl⟩
  · simp
  · simp; omega

theorem arow_lt {H : Hp} {z n : Nat} {v : AV} {cs : List AV} (h : arow H z v = some (cs, n)) : v.lt H.length := by
  rcases arow_cases h with ⟨rfl, _, _⟩ | ⟨b, hv, hb, _⟩
  · trivial
  · have := hget_lt hb
    rcases hv with ⟨c, e⟩ | ⟨c, e⟩ <;> (rw [e]; simpa only [AV.lt] using this)

/-- len -/
theorem sl_len {P : Program} {H : Hp} {z n : Nat} {v : AV} {cs : List AV} {t e : TypeId} (h : arow H z v = some (cs, n)) (hu : P.underlying t = some (.slice e)) : abuiltin P .len #[t] [v] = some (.int .i64 n) := by
  rcases arow_cases h with ⟨rfl, _, rfl⟩ | ⟨b, hv, _⟩
  · simp [abuiltin, hu]
  · rcases hv with ⟨c, e'⟩ | ⟨c, e'⟩ <;> (rw [e']; simp [abuiltin, hu])
/-- &v[i] -/
theorem sl_at {P : Program} {H : Hp} {z n : Nat} {v : AV} {cs : List AV} {t e : TypeId} {k : IntKind} {j : Int} (h : arow H z v = some (cs, n)) (hu : P.underlying t = some (.slice e)) (hz : sizeT P e = some z) (h0 : 0 ≤ j) (h1 : j < (n : Int)) :
    aindexAddr P t v (.int k j) = some (.ptr v.hd (v.of + j.toNat * z)) := by
  rcases arow_cases h with ⟨rfl, _, rfl⟩ | ⟨b, hv, _⟩
  · omega
  · rcases hv with ⟨c, e'⟩ | ⟨c, e'⟩ <;> (rw [e']; simp [aindexAddr, hu, hz, h0, h1, AV.hd, AV.of])
/-- v[i], elements of one cell -/
theorem sl_load {P : Program} {H : Hp} {n : Nat} {v : AV} {cs : List AV} {e : TypeId} {i : Nat} (h : arow H 1 v = some (cs, n)) (ha : isAggT P e = some false) (hi : i < n) : aload P H e (.ptr v.hd (v.of + i * 1)) = cs[i]? := by
  rcases arow_cases h with ⟨rfl, _, rfl⟩ | ⟨b, _, hb, hd, hle, rfl⟩
  · omega
  · simp only [aload, hb, hd, if_false, ha]
    rw [Nat.mul_one] at hle ⊢
    rw [Nat.mul_one, List.getElem?_take, if_pos hi, List.getElem?_drop]
/-- v[i], elements of several cells -/
theorem sl_load_agg {P : Program} {H : Hp} {z n : Nat} {v : AV} {cs : List AV} {e : TypeId} {i : Nat} (h : arow H z v = some (cs, n)) (ha : isAggT P e = some true) (hz : sizeT P e = some z) (hi : i < n) : aload P H e (.ptr v.hd (v.of + i * z)) = some (.agg ((cs.drop (i * z)).take z)) := by
  rcases arow_cases h with ⟨rfl, _, rfl⟩ | ⟨b, _, hb, hd, hle, rfl⟩
  · omega
  · have hiz : i * z + z ≤ n * z := by
      have : (i + 1) * z ≤ n * z := Nat.mul_le_mul_right _ hi
      rw [Nat.add_mul, Nat.one_mul] at this
      exact this
    simp only [aload, hb, hd, if_false, ha, hz]
    rw [if_pos (by omega)]
    congr 2
    rw [List.drop_take, List.drop_drop, List.take_take]
    congr 1
    omega

theorem drop_step {α : Type} (xs : List α) (d : α) {i : Nat} (h : i < xs.length) : xs.drop i = xs.getD i d :: xs.drop (i + 1) := by
  rw [List.drop_eq_getElem_cons h]
  simp [List.getD, h]
theorem map_get {α : Type} (f : α → AV) (xs : List α) (d : α) {i : Nat} (h : i < xs.length) : (xs.map f)[i]? = some (f (xs.getD i d)) := by
  simp [List.getElem?_map, List.getElem?_eq_getElem h, List.getD]

/-- A form that a slice has that came out of Go's own operations. -/
def AV.fine (z : Nat) : AV → Prop
  | .nilS => True
  | .sl _ _ n c => n ≤ c
  | .sg _ _ _ z' => z' = z
  | _ => False

/-- v is a slice of n elements of z cells each, that reads cs. -/
structure Rd (H : Hp) (z : Nat) (v : AV) (cs : List AV) (n : Nat) : Prop where
  row : arow H z v = some (cs, n)
  fine : v.fine z

theorem Rd.ext {H H' : Hp} {z n : Nat} {v : AV} {cs : List AV} (h : Rd H z v cs n) (x : Ext H H') : Rd H' z v cs n := ⟨arow_ext h.row x, h.fine⟩
theorem Rd.push {H : Hp} {z n : Nat} {v : AV} {cs : List AV} (h : Rd H z v cs n) (b : Blk) : Rd (H ++ [b]) z v cs n := h.ext (Ext.push H b)
theorem Rd.lt {H : Hp} {z n : Nat} {v : AV} {cs : List AV} (h : Rd H z v cs n) : v.lt H.length := arow_lt h.row
theorem Rd.length {H : Hp} {z n : Nat} {v : AV} {cs : List AV} (h : Rd H z v cs n) : cs.length = n * z := arow_length h.row
theorem Rd.nil (H : Hp) (z : Nat) : Rd H z .nilS [] 0 := ⟨rfl, trivial⟩

theorem Rd.len {P : Program} {H : Hp} {z n : Nat} {v : AV} {cs : List AV} {t e : TypeId} (h : Rd H z v cs n) (hu : P.underlying t = some (.slice e)) : abuiltin P .len #[t] [v] = some (.int .i64 n) := sl_len h.row hu
theorem Rd.at_ {P : Program} {H : Hp} {z n : Nat} {v : AV} {cs : List AV} {t e : TypeId} (h : Rd H z v cs n) (hu : P.underlying t = some (.slice e)) (hz : sizeT P e = some z) : ∀ {k : IntKind} {j : Int}, 0 ≤ j → j < (n : Int) →
    aindexAddr P t v (.int k j) = some (.ptr v.hd (v.of + j.toNat * z)) := fun h0 h1 => sl_at h.row hu hz h0 h1
theorem Rd.load {P : Program} {H : Hp} {n : Nat} {v : AV} {cs : List AV} {e : TypeId} (h : Rd H 1 v cs n) (ha : isAggT P e = some false) : ∀ {i : Nat}, i < n → aload P H e (.ptr v.hd (v.of + i * 1)) = cs[i]? := fun hi => sl_load h.row ha hi
theorem Rd.loads {P : Program} {H : Hp} {z n : Nat} {v : AV} {cs : List AV} {e : TypeId} (h : Rd H z v cs n) (ha : isAggT P e = some true) (hz : sizeT P e = some z) : ∀ {i : Nat}, i < n → aload P H e (.ptr v.hd (v.of + i * z)) = some (.agg ((cs.drop (i * z)).take z)) := fun hi => sl_load_agg h.row ha hz hi

/-- A slice's part. -/
theorem Rd.cut {P : Program} {H : Hp} {z n : Nat} {v : AV} {cs : List AV} {t e : TypeId} {lo hi : Option AV} {a u : Nat} (h : Rd H z v cs n) (hu : P.underlying t = some (.slice e)) (hz : sizeT P e = some z)
    (hb : abounds n n lo hi none = some (a, u, n)) :
    ∃ r, aslice P t v lo hi none = some r ∧ Rd H z r ((cs.drop (a * z)).take ((u - a) * z)) (u - a) := by
  have hle := abounds_le hb (Nat.le_refl _)
  have hfine := h.fine
  rcases arow_cases h.row with ⟨rfl, rfl, rfl⟩ | ⟨b, hv, hg, hd, hlen, rfl⟩
  · refine ⟨.nilS, by simp [aslice, hu, hb, hz], ?_, trivial⟩
    have : u - a = 0 := by omega
    simp [arow, this]
  · have haz : a * z + (u - a) * z ≤ n * z := by
      rw [← Nat.add_mul]
      exact Nat.mul_le_mul_right _ (by omega)
    have e1 : (List.drop (a * z) (List.take (n * z) (List.drop v.of b.cells))).take ((u - a) * z) = (b.cells.drop (v.of + a * z)).take ((u - a) * z) := by
      rw [List.drop_take, List.drop_drop, List.take_take]
      congr 1
      omega
    rcases hv with ⟨c, e'⟩ | ⟨z', e'⟩
    · have hc : n ≤ c := by rw [e'] at hfine; exact hfine
      have hb' := abounds_grow hb hc
      refine ⟨.sl v.hd (if c = a then v.of else v.of + a * z) (u - a) (c - a), ?_, ?_, ?_⟩
      · rw [e']; simp [aslice, hu, hb', hz, AV.hd, AV.of]
      · simp only [arow, hg, hd, if_false]
        by_cases hca : c = a
        · have : u - a = 0 := by omega
          simp [this, hca]
          have := Nat.le_trans (Nat.le_add_right _ _) hlen
          exact this
        · rw [if_neg hca, if_pos (by omega), e1]
      · show u - a ≤ c - a
        omega
    · have hz' : z' = z := by rw [e'] at hfine; exact hfine
      subst hz'
      refine ⟨.sg v.hd (v.of + a * z') (u - a) z', ?_, ?_, rfl⟩
      · rw [e']; simp [aslice, hu, hb, hz, AV.hd, AV.of]
      · simp only [arow, hg, hd, if_false]
        rw [if_pos (by omega), e1]

theorem arow_one {H : Hp} {z n : Nat} {v : AV} {cs : List AV} (h : arow H z v = some (cs, n)) : v.one = true := by
  rcases arow_cases h with ⟨rfl, _, _⟩ | ⟨b, hv, _⟩
  · rfl
  · rcases hv with ⟨c, e⟩ | ⟨c, e⟩ <;> (rw [e]; rfl)
theorem AV.cells_one {v : AV} (h : v.one = true) : v.cells = [v] := by cases v <;> simp [AV.one] at h <;> rfl
theorem AV.solid_one {v : AV} (h : v.one = true) : v.solid = true := by cases v <;> simp [AV.one] at h <;> rfl
theorem Rd.one {H : Hp} {z n : Nat} {v : AV} {cs : List AV} (h : Rd H z v cs n) : v.one = true := arow_one h.row
theorem Rd.solid {H : Hp} {z n : Nat} {v : AV} {cs : List AV} (h : Rd H z v cs n) : v.solid = true := AV.solid_one h.one
theorem Rd.cells {H : Hp} {z n : Nat} {v : AV} {cs : List AV} (h : Rd H z v cs n) : v.cells = [v] := AV.cells_one h.one
/-- A literal, a made slice. -/
theorem Rd.lit (H : Hp) {z n : Nat} {cs : List AV} {k : BK} {e : TypeId} (hk : k ≠ .dead) (hl : cs.length = n * z) : Rd (H ++ [⟨cs, k, e⟩]) z (.sl H.length 0 n n) cs n := by
  refine ⟨?_, Nat.le_refl _⟩
  simp only [arow, hget_push, if_true, hk, if_false]
  rw [if_pos (by omega)]
  simp [← hl]
/-- A slice that grew. -/
theorem Rd.grown (H : Hp) {z n : Nat} {cs : List AV} {k : BK} {e : TypeId} (hk : k ≠ .dead) (hl : cs.length = n * z) : Rd (H ++ [⟨cs, k, e⟩]) z (.sg H.length 0 n z) cs n := by
  refine ⟨?_, rfl⟩
  simp only [arow, hget_push, if_true, hk, if_false]
  rw [if_pos (by omega)]
  simp [← hl]

/-- Slices of whole numbers. -/
def Ints (H : Hp) (k : IntKind) (v : AV) (xs : List Int) : Prop := Rd H 1 v (xs.map (AV.int k)) xs.length
theorem Ints.rd {H : Hp} {k : IntKind} {v : AV} {xs : List Int} (h : Ints H k v xs) : Rd H 1 v (xs.map (AV.int k)) xs.length := h
theorem Ints.ext {H H' : Hp} {k : IntKind} {v : AV} {xs : List Int} (h : Ints H k v xs) (x : Ext H H') : Ints H' k v xs := Rd.ext h x
theorem Ints.push {H : Hp} {k : IntKind} {v : AV} {xs : List Int} (h : Ints H k v xs) (b : Blk) : Ints (H ++ [b]) k v xs := Rd.push h b
theorem Ints.load {P : Program} {H : Hp} {k : IntKind} {v : AV} {xs : List Int} {e : TypeId} (h : Ints H k v xs) (ha : isAggT P e = some false) : ∀ {i : Nat}, i < xs.length → aload P H e (.ptr v.hd (v.of + i * 1)) = some (.int k (xs.getD i 0)) :=
  fun hi => by rw [Rd.load h ha hi]; exact map_get _ _ _ hi
theorem Ints.cut {P : Program} {H : Hp} {k : IntKind} {v : AV} {xs : List Int} {t e : TypeId} {lo hi : Option AV} {a u : Nat} (h : Ints H k v xs) (hu : P.underlying t = some (.slice e)) (hz : sizeT P e = some 1)
    (hb : abounds xs.length xs.length lo hi none = some (a, u, xs.length)) : ∃ r, aslice P t v lo hi none = some r ∧ Ints H k r ((xs.drop a).take (u - a)) := by
  have hle := abounds_le hb (Nat.le_refl _)
  obtain ⟨r, h1, h2⟩ := Rd.cut h hu hz hb
  refine ⟨r, h1, ?_⟩
  unfold Ints
  rw [Nat.mul_one, Nat.mul_one, ← List.map_drop, ← List.map_take] at h2
  have hl : ((xs.drop a).take (u - a)).length = u - a := by simp; omega
  rw [hl]
  exact h2

theorem Ints.lit (H : Hp) {k : IntKind} {xs : List Int} {n : Nat} {kd : BK} {e : TypeId} (hk : kd ≠ .dead) (hn : n = xs.length) : Ints (H ++ [⟨xs.map (AV.int k), kd, e⟩]) k (.sl H.length 0 n n) xs := by
  subst hn
  exact Rd.lit H hk (by simp)
theorem Ints.nil (H : Hp) (k : IntKind) : Ints H k .nilS [] := Rd.nil H 1

/-- Slices of slices. -/
def RowsI (H : Hp) (k : IntKind) : List AV → List (List Int) → Prop
  | [], [] => True
  | v :: vs, xs :: xss => Ints H k v xs ∧ RowsI H k vs xss
  | _, _ => False
theorem RowsI.length {H : Hp} {k : IntKind} : ∀ {vs : List AV} {xss : List (List Int)}, RowsI H k vs xss → vs.length = xss.length
  | [], [], _ => rfl
  | v :: vs, xs :: xss, h => by simp [RowsI.length (vs := vs) h.2]
theorem RowsI.get {H : Hp} {k : IntKind} : ∀ {vs : List AV} {xss : List (List Int)}, RowsI H k vs xss → ∀ {i : Nat}, i < vs.length → ∃ v, vs[i]? = some v ∧ Ints H k v (xss.getD i [])
  | [], [], _, i, hi => by simp at hi
  | v :: vs, xs :: xss, h, 0, _ => ⟨v, rfl, h.1⟩
  | v :: vs, xs :: xss, h, i + 1, hi => by
    obtain ⟨u, h1, h2⟩ := RowsI.get (vs := vs) h.2 (i := i) (by simpa using hi)
    exact ⟨u, by simpa using h1, by simpa using h2⟩
theorem RowsI.ext {H H' : Hp} {k : IntKind} (x : Ext H H') : ∀ {vs : List AV} {xss : List (List Int)}, RowsI H k vs xss → RowsI H' k vs xss
  | [], [], _ => trivial
  | v :: vs, xs :: xss, h => ⟨h.1.ext x, RowsI.ext x (vs := vs) h.2⟩

end Go.AL

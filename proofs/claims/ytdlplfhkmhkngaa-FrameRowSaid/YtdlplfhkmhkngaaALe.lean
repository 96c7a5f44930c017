/- One operation that leaves the memory alone, second part; all of them together. -/
import Derived.Test.YtdlplfhkmhkngaaALd
set_option linter.unusedVariables false
set_option linter.unusedSimpArgs false
namespace Go.AL
open Go.RowKit

/-! ### Conversions -/
def aints : List AV → Option (List Int)
  | [] => some []
  | .int .u8 n :: cs => (aints cs).map (n :: ·)
  | _ => none

theorem aints_map (xs : List Int) : aints (xs.map (AV.int .u8)) = some xs := by
  induction xs with
  | nil => rfl
  | cons x xs ih => simp [aints, ih]
theorem aints_eq : ∀ {cs : List AV} {xs : List Int}, aints cs = some xs → cs = xs.map (AV.int .u8)
  | [], xs, h => by simp [aints] at h; subst h; rfl
  | c :: cs, xs, h => by
    unfold aints at h
    split at h
    · rename_i heq; cases heq
    · rename_i n cs' heq
      cases heq
      obtain ⟨ys, hy, rfl⟩ := Option.map_eq_some_iff.1 h
      rw [aints_eq hy]; rfl
    · cases h
theorem VRs_ints {β : Nat → Bx} : ∀ {xs : List Int} {l : List Value}, VRs β (xs.map (AV.int .u8)) l → l = xs.map (Value.int .u8)
  | [], l, h => h
  | x :: xs, l, h => by
    simp only [List.map_cons, VRs, VR] at h
    obtain ⟨y, ys, rfl, rfl, h2⟩ := h
    rw [VRs_ints h2]; rfl

/-- The bytes of a slice. -/
def abytes (H : Hp) (h o n : Nat) : Option (List Int) :=
  match hget H h with
  | some b => if b.kind = .dead then none else if o + n ≤ b.cells.length then aints ((b.cells.drop o).take n) else none
  | none => none

def isU8 (P : Program) (e : TypeId) : Bool :=
  match P.underlying e with
  | some (.int .u8) => true
  | _ => false
theorem isU8_eq {P : Program} {e : TypeId} (h : isU8 P e = true) : P.underlying e = some (.int .u8) := by
  unfold isU8 at h
  split at h
  · assumption
  · cases h

def aconv (P : Program) (H : Hp) (src dst : TypeId) (x : AV) : Option AV :=
  match P.underlying src, P.underlying dst, x with
  | some _, some (.int k), .int _ n => some (.int k (k.wrap n))
  | some _, some .string, .str s => some (.str s)
  | some (.slice e), some .string, .nilS => if isU8 P e then some (.str .empty) else none
  | some (.slice e), some .string, .sl h o n _ => if isU8 P e then (abytes H h o n).map fun xs => .str (strOfNums xs) else none
  | some (.slice e), some .string, .sg h o n _ => if isU8 P e then (abytes H h o n).map fun xs => .str (strOfNums xs) else none
  | _, _, _ => none

theorem run_bytes_al {P : Program} {w0 : World} {B : Nat} {β : Nat → Bx} {H : Hp} {w : World} (R : Rel w0 B β H w) {h o n : Nat} {xs : List Int} (e : abytes H h o n = some xs) (c : Nat) :
    (Conv.bytesToString (.slice (some ((β h).addr.add o)) n c)).run P w = .ok (.string (strOfNums xs)) w := by
  simp only [abytes, hget] at e
  split at e
  · rename_i b hb
    split at e
    · cases e
    · rename_i hd
      split at e
      · rename_i hle
        obtain ⟨l, h1, h2, h3, h4⟩ := R.row hb hd o n hle
        rw [aints_eq e] at h1
        have hl := VRs_ints h1
        subst hl
        have hload := run_loadCells_list (P := P) w ((β h).addr.add o) (xs.map (Value.int .u8)) (fun j v hv => by rw [Addr.add_add]; exact h3 j v hv)
        rw [h2] at hload
        rw [run_bytesToString w _ n c xs hload, foldl_push_bytes]
        simp [strOfNums, ByteArray.empty, ByteArray.emptyWithCapacity]
        rfl
      · cases e
  · cases e

theorem run_aconv {P : Program} {w0 : World} {B : Nat} {β : Nat → Bx} {H : Hp} {w : World} (R : Rel w0 B β H w) {src dst : TypeId} {x v : AV} {u : Value} (e : aconv P H src dst x = some v) (hx : VR β x u) :
    ∃ r, (convert src dst u).run P w = .ok r w ∧ VR β v r ∧ ∀ n, v.lt n := by
  unfold aconv at e
  split at e <;> (try simp only [VR] at hx)
  · rename_i d k k' n hs hd
    cases e
    subst hx
    refine ⟨.int k (k.wrap n), ?_, rfl, fun _ => trivial⟩
    simp [convert, run_underlying hs, run_underlying hd, Conv.intToInt]
  · rename_i d s hs hd
    cases e
    subst hx
    refine ⟨.string s, ?_, rfl, fun _ => trivial⟩
    simp only [convert, Sem.run_bind, run_underlying hs, run_underlying hd, Result.andThen_ok]
    cases d <;> rfl
  · rename_i el hs hd
    split at e
    · rename_i he
      cases e
      subst hx
      exact ⟨_, run_convert_bytes_nil w src el hs (isU8_eq he) 0 0 dst hd, rfl, fun _ => trivial⟩
    · cases e
  · rename_i el h o n c hs hd
    split at e
    · rename_i he
      obtain ⟨xs, hxs, rfl⟩ := Option.map_eq_some_iff.1 e
      subst hx
      refine ⟨_, ?_, rfl, fun _ => trivial⟩
      rw [run_convert_bytes_string w src dst el _ n c hs (isU8_eq he) hd]
      exact run_bytes_al R hxs c
    · cases e
  · rename_i el h o n z hs hd
    split at e
    · rename_i he
      obtain ⟨xs, hxs, rfl⟩ := Option.map_eq_some_iff.1 e
      obtain ⟨c, o', rfl, hnc, hco⟩ := hx
      refine ⟨_, ?_, rfl, fun _ => trivial⟩
      rw [run_convert_bytes_string w src dst el _ n c hs (isU8_eq he) hd]
      rcases hco with ⟨h0, _⟩ | ⟨rfl, _⟩
      · subst h0
        have hn : n = 0 := by omega
        subst hn
        have hx0 : xs = [] := by
          simp only [abytes] at hxs
          split at hxs
          · split at hxs
            · cases hxs
            · split at hxs
              · simpa [aints] using hxs.symm
              · cases hxs
          · cases hxs
        subst hx0
        simp [Conv.bytesToString, loadCells, loadCellsFrom]
        rfl
      · exact run_bytes_al R hxs c
    · cases e
  · cases e

/-! ### Interfaces -/
def atypeAssert (P : Program) (x : AV) (asserted : TypeId) (commaOk : Bool) : Option AV :=
  let fails : Option AV := if commaOk then (zeroT P asserted).map fun z => .tup [z, .bool false] else none
  let holds (v : AV) : Option AV := some (if commaOk then .tup [v, .bool true] else v)
  match P.underlying asserted, x with
  | some (.interface _), .nilI => fails
  | some (.interface want), .ifc t v =>
    match P.info? t with
    | some i => if (Instr.missingMethod want i.methods).isNone then holds (.ifc t v) else fails
    | none => none
  | some _, .nilI => fails
  | some _, .ifc t v => if t = asserted then holds v else fails
  | _, _ => none

theorem run_atypeAssert {P : Program} {β : Nat → Bx} {N : Nat} {x v : AV} {xType asserted : TypeId} {ok : Bool} {u : Value} (e : atypeAssert P x asserted ok = some v) (hx : VR β x u) (hl : x.lt N) (w : World) :
    ∃ r, (Instr.typeAssert u xType asserted ok).run P w = .ok r w ∧ VR β v r ∧ v.lt N := by
  have hz : ∀ z, zeroT P asserted = some z → ∃ i zv, P.info? asserted = some i ∧ i.zero = some zv ∧ z = ofValue zv := by
    intro z h
    unfold zeroT at h
    obtain ⟨i, hi, h2⟩ := Option.bind_eq_some_iff.1 h
    obtain ⟨zv, h3, h4⟩ := Option.map_eq_some_iff.1 h2
    exact ⟨i, zv, hi, h3, h4.symm⟩
  have two : ∀ (a b : AV) (p q : Value), VR β a p → VR β b q → VR β (.tup [a, b]) (.tuple #[p, q]) := by
    intro a b p q h1 h2
    simp only [VR]
    exact ⟨_, rfl, by simp only [VRs]; exact ⟨p, [q], rfl, h1, q, [], rfl, h2, rfl⟩⟩
  have hf : ∀ s d m, (if ok then (zeroT P asserted).map (fun z => AV.tup [z, .bool false]) else none) = some v →
      ∃ r, ((if ok = true then (do let z ← zeroValue asserted; pure (Value.tuple #[z, .bool false])) else runtimePanic (.typeAssertion s d asserted m) : Sem Value)).run P w = .ok r w ∧ VR β v r ∧ v.lt N := by
    intro s d m h
    split at h
    · rename_i hok
      obtain ⟨z, hz1, rfl⟩ := Option.map_eq_some_iff.1 h
      obtain ⟨i, zv, hi, hzv, rfl⟩ := hz z hz1
      refine ⟨.tuple #[zv, .bool false], ?_, two _ _ _ _ (ofValue_VR β zv) rfl, ?_⟩
      · rw [if_pos hok]
        simp [zeroValue, typeInfo, hi, hzv]
      · simp only [AV.lt, AV.lts]; exact ⟨ofValue_lt N zv, trivial, trivial⟩
    · cases h
  unfold atypeAssert at e
  simp only at e
  split at e <;> (try simp only [VR] at hx)
  · rename_i ms ht
    subst hx
    obtain ⟨r, h1, h2, h3⟩ := hf none none "" e
    refine ⟨r, ?_, h2, h3⟩
    rw [← h1]
    simp [Instr.typeAssert, run_underlying ht]
  · rename_i want t y ht
    obtain ⟨yv, rfl, hy⟩ := hx
    split at e
    · rename_i i hi
      split at e
      · rename_i hm
        cases e
        have hm' : Instr.missingMethod want i.methods = none := by simpa using hm
        cases ok
        · refine ⟨.iface t yv, ?_, ?_, hl⟩
          · simp [Instr.typeAssert, run_underlying ht, typeInfo, hi, hm']
          · simp only [VR, Bool.false_eq_true, if_false]; exact ⟨yv, rfl, hy⟩
        · refine ⟨.tuple #[.iface t yv, .bool true], ?_, ?_, ?_⟩
          · simp [Instr.typeAssert, run_underlying ht, typeInfo, hi, hm']
          · simp only [if_true]; exact two _ _ _ _ (by simp only [VR]; exact ⟨yv, rfl, hy⟩) rfl
          · simp only [if_true, AV.lt, AV.lts]; exact ⟨by simpa only [AV.lt] using hl, trivial, trivial⟩
      · rename_i hm
        have hm' : ∃ m, Instr.missingMethod want i.methods = some m := by
          cases h : Instr.missingMethod want i.methods with
          | none => simp [h] at hm
          | some m => exact ⟨m, rfl⟩
        obtain ⟨m, hm'⟩ := hm'
        obtain ⟨r, h1, h2, h3⟩ := hf none (some t) m e
        refine ⟨r, ?_, h2, h3⟩
        rw [← h1]
        simp [Instr.typeAssert, run_underlying ht, typeInfo, hi, hm']
    · cases e
  · rename_i d hni ht
    subst hx
    obtain ⟨r, h1, h2, h3⟩ := hf (some xType) none "" e
    refine ⟨r, ?_, h2, h3⟩
    rw [← h1]
    simp only [Instr.typeAssert, Sem.run_bind, run_underlying ht, Result.andThen_ok]
    all_goals (cases d <;> first | exact absurd rfl (hni _) | simp)
  · rename_i d t y hni ht
    obtain ⟨yv, rfl, hy⟩ := hx
    split at e
    · rename_i hta
      cases e
      cases ok
      · refine ⟨yv, ?_, by simpa using hy, by simp only [Bool.false_eq_true, if_false]; simpa only [AV.lt] using hl⟩
        simp only [Instr.typeAssert, Sem.run_bind, run_underlying ht, Result.andThen_ok]
        cases d <;> first | exact absurd rfl (hni _) | simp [hta]
      · refine ⟨.tuple #[yv, .bool true], ?_, by simp only [if_true]; exact two _ _ _ _ hy rfl, ?_⟩
        · simp only [Instr.typeAssert, Sem.run_bind, run_underlying ht, Result.andThen_ok]
          cases d <;> first | exact absurd rfl (hni _) | simp [hta]
        · simp only [if_true, AV.lt, AV.lts]; exact ⟨by simpa only [AV.lt] using hl, trivial, trivial⟩
    · rename_i hta
      obtain ⟨r, h1, h2, h3⟩ := hf (some xType) (some t) "" e
      refine ⟨r, ?_, h2, h3⟩
      rw [← h1]
      simp only [Instr.typeAssert, Sem.run_bind, run_underlying ht, Result.andThen_ok]
      cases d <;> first | exact absurd rfl (hni _) | simp [hta]
  · cases e

end Go.AL

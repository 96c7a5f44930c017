/- Part 4 of the proof of the law DetBlocks: lemmas on the model's code, on this program's functions, on numbers. No condition. -/
import Derived.Test.YtfalfmfkifemeaaGreatDoorZDetBlocksac
set_option linter.unusedVariables false
set_option linter.unusedSimpArgs false
open Nat renaming reduceEqDiff → J0, reduceLeDiff → J1, reduceMul → J2, reduceAdd → J3, reduceSub → J4, reduceLT → J5
open Int renaming reduceToNat → J6, reducePow → J7, reduceNeg → J8, reduceLT → J9, reduceLE → Ja, reduceEq → Jb
open And renaming intro → Jc
open Go.IntKind renaming bits → Jd
open Go.PW renaming dig_length → Je
namespace Go.Proofs.YtfalfmfkifemeaaGreatDoor
open Go.AL Go.PW Go.PD
set_option maxRecDepth 8000
inductive OwnI (H : Hp) (v : AV) (gs : List Int) (lo : Nat) : Prop
  | no : v = .nilS → gs = [] → OwnI H v gs lo
  | yes (h : Nat) : v = .sg h 0 gs.length 1 → Qt H h = some (Ib gs) → lo ≤ h → OwnI H v gs lo
theorem OwnI.one {H : Hp} {v : AV} {gs : List Int} {lo : Nat} (O : OwnI H v gs lo) : v.one = true := by
  cases O with
  | no h => rw [h]; rfl
  | yes h e => rw [e]; rfl
theorem OwnI.lt {H : Hp} {v : AV} {gs : List Int} {lo : Nat} (O : OwnI H v gs lo) : v.lt H.length := by
  cases O with
  | no h => rw [h]; trivial
  | yes h e g => rw [e]; simpa [AV.lt] using Qr g
theorem OwnI.ext {H H' : Hp} {v : AV} {gs : List Int} {lo : Nat} (O : OwnI H v gs lo) (x : Ext H H') : OwnI H' v gs lo := by
  cases O with
  | no h1 h2 => exact .no h1 h2
  | yes h h1 h2 h3 => exact .yes h h1 (Qh h2 x) h3
theorem OwnI.ints {H : Hp} {v : AV} {gs : List Int} {lo : Nat} (O : OwnI H v gs lo) : Ints H .i64 v gs := by
  cases O with
  | no h1 h2 => rw [h1, h2]; exact Rd.nil _ _
  | yes h h1 h2 h3 =>
    rw [h1]
    refine ⟨?_, rfl⟩
    simp only [arow, h2]
    rw [if_neg (by decide), if_pos (by simp), List.drop_zero, List.take_of_length_le (by simp)]
theorem OwnI.of {H : Hp} {v : AV} {gs : List Int} {n lo : Nat} (O : Own H 1 2 v (gs.map (AV.int .i64)) n lo) (hn : gs.length = n) (hf : v = .nilS ∨ ∃ h, v = .sg h 0 n 1) : OwnI H v gs lo := by
  rcases O.row with ⟨h1, h2, h3⟩ | ⟨h, o, h1, h2⟩ | ⟨h, h1, h2, h3, h4⟩
  · exact .no h1 (by rw [h3] at hn; exact List.eq_nil_of_length_eq_zero hn)
  · rcases hf with e | ⟨h', e⟩
    · rw [e] at h1; cases h1
    · rw [e] at h1; cases h1
  · subst hn; exact .yes h h1 h2 h4
theorem OwnI.idx {H : Hp} {v : AV} {gs : List Int} {lo : Nat} (O : OwnI H v gs lo) {i : Nat} (hi : i < gs.length) {k : IntKind} : X3 Tryz.prog 22 v (.int k (i : Int)) = some (.ptr v.hd i) := by
  cases O with
  | no h1 h2 => subst h2; simp at hi
  | yes h h1 h2 h3 =>
    rw [h1, J0y Ym W3 (by omega) (by omega), Int.toNat_natCast, Nat.zero_add]; rfl
theorem OwnI.get {H : Hp} {v : AV} {gs : List Int} {lo : Nat} (O : OwnI H v gs lo) {i : Nat} (hi : i < gs.length) : Qt H v.hd = some (Ib gs) ∧ lo ≤ v.hd := by
  cases O with
  | no h1 h2 => subst h2; simp at hi
  | yes h h1 h2 h3 => rw [h1]; exact ⟨h2, h3⟩
theorem OwnI.mo {H : Hp} {v : AV} {gs : List Int} {lo : Nat} (O : OwnI H v gs lo) : Mo H v gs lo := by
  cases O with
  | no h1 h2 => exact .inl ⟨h2, h1⟩
  | yes h h1 h2 h3 => exact .inr ⟨h, .inr h1, h2, h3⟩
end Go.Proofs.YtfalfmfkifemeaaGreatDoor

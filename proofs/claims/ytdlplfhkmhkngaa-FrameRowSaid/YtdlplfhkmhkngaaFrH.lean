/- A part of the proofs of this seat: FrH. No condition. -/
import Derived.Test.YtdlplfhkmhkngaaFrG
set_option linter.unusedVariables false
set_option linter.unusedSimpArgs false
namespace Go.Proofs.Ytdlplfhkmhkngaa
open Go.AL

/-- The whole parser: payloads, what is left, how many bad. -/
def parse : Nat → List Int → List (List Int) × List Int × Int
  | 0, xs => ([], xs, 0)
  | f + 1, xs =>
    if (nxt xs).1 = 0 then ([], xs, 0)
    else ((if (nxt xs).2.1 = [] then [] else [(nxt xs).2.1]) ++ (parse f (xs.drop (nxt xs).1)).1, (parse f (xs.drop (nxt xs).1)).2.1, (nxt xs).2.2 + (parse f (xs.drop (nxt xs).1)).2.2)

theorem nxt_le (xs : List Int) : (nxt xs).1 ≤ xs.length := by
  unfold nxt
  repeat' first | split | (simp only; omega)
theorem nxt_inc (xs : List Int) : 0 ≤ (nxt xs).2.2 ∧ (nxt xs).2.2 ≤ (nxt xs).1 := by
  unfold nxt
  repeat' first | split | (simp only; omega)
theorem parse_fuel : ∀ (f g : Nat) (xs : List Int), xs.length < f → xs.length < g → parse f xs = parse g xs
  | 0, _, _, h, _ => absurd h (by omega)
  | _ + 1, 0, _, _, h => absurd h (by omega)
  | f + 1, g + 1, xs, h, h' => by
    have hle := nxt_le xs
    unfold parse
    by_cases h0 : (nxt xs).1 = 0
    · rw [if_pos h0, if_pos h0]
    · have e := parse_fuel f g (xs.drop (nxt xs).1) (by rw [List.length_drop]; omega) (by rw [List.length_drop]; omega)
      rw [if_neg h0, if_neg h0, e]

theorem rows_pblk {H : Hp} {p : Nat} {v v' : AV} {bad bad' : Int} {ys : List Int} (hp : hget H p = some (pblk v bad)) (hv : Ints H .u8 v ys) : ∀ {vs : List AV} {xss : List (List Int)}, RowsI H .u8 vs xss → RowsI (H.set p (pblk v' bad')) .u8 vs xss
  | [], [], _ => trivial
  | w :: vs, xs :: xss, h => ⟨ints_pblk hp hv h.1, rows_pblk hp hv (vs := vs) h.2⟩

theorem own_pblk {H : Hp} {p : Nat} {b : Blk} {o : AV} {cs : List AV} {n lo : Nat} {e : TypeId} (hp : p < lo) (hl : p < H.length) (h : Own H 1 e o cs n lo) (hns : ∀ h o' n', o ≠ .sl h o' n' n') : Own (H.set p b) 1 e o cs n lo := by
  refine ⟨?_⟩
  rcases h.row with h | ⟨h', o', h1, _⟩ | ⟨h', h1, h2, h3, h4⟩
  · exact .inl h
  · exact absurd h1 (hns _ _ _)
  · refine .inr (.inr ⟨h', h1, ?_, h3, h4⟩)
    rw [hget_set hl, if_neg (by omega)]
    exact h2
end Go.Proofs.Ytdlplfhkmhkngaa

/- Bytes as a string. -/
import Derived.Test.YtdlplfhkmhkngaaALq
set_option linter.unusedVariables false
set_option linter.unusedSimpArgs false
namespace Go.AL
open Go.RowKit

theorem Ints.str {P : Program} {H : Hp} {v : AV} {xs : List Int} {src dst e : TypeId} (h : Ints H .u8 v xs) (hs : P.underlying src = some (.slice e)) (he : isU8 P e = true) (hd : P.underlying dst = some .string) :
    aconv P H src dst v = some (.str (strOfNums xs)) := by
  rcases arow_cases h.rd.row with ⟨rfl, h0, hn⟩ | ⟨b, hb, hg, hk, hl, hc⟩
  · have : xs = [] := by simpa using h0
    subst this
    simp only [aconv, hs, hd, he, if_true]
    rfl
  · have ha : aints ((b.cells.drop v.of).take xs.length) = some xs := by
      rw [Nat.mul_one] at hc
      rw [← hc, aints_map]
    rw [Nat.mul_one] at hl
    rcases hb with ⟨c, hb⟩ | ⟨z', hb⟩ <;> (generalize v.hd = k, v.of = o at *; subst hb; simp only [aconv, hs, hd, he, if_true, abytes, hg]; rw [if_neg hk, if_pos hl, ha]; rfl)

theorem eq_bools {P : Program} {t : TypeId} {a b : Bool} (hu : P.underlying t = some .bool) : aeqIn P Op.maxDepth t (.bool a) (.bool b) = some (a == b) := aeqIn_succ fun d => by simp [aeqIn, hu]
theorem eq_ptr_nil {P : Program} {t e : TypeId} {h o : Nat} (hu : P.underlying t = some (.pointer e)) : aeqIn P Op.maxDepth t (.ptr h o) .nilP = some false := aeqIn_succ fun d => by simp [aeqIn, hu]
theorem eq_nilP_nilP {P : Program} {t e : TypeId} (hu : P.underlying t = some (.pointer e)) : aeqIn P Op.maxDepth t .nilP .nilP = some true := aeqIn_succ fun d => by simp [aeqIn, hu]
end Go.AL

/- A part of the proofs of this seat: FrJ. No condition. -/
import Derived.Test.YtdlplfhkmhkngaaFrH
set_option linter.unusedVariables false
set_option linter.unusedSimpArgs false
namespace Go.Proofs.Ytdlplfhkmhkngaa
open Go.AL

/-- Bytes that are there do not stand in a block that holds no bytes. -/
theorem ints_apart {H : Hp} {h : Nat} {b : Blk} {w : AV} {xs : List Int} (hw : Ints H .u8 w xs) (hne : xs ≠ []) (hg : hget H h = some b) (hb : ∀ c ∈ b.cells, ∀ n, c ≠ .int .u8 n) : w.hd ≠ h := by
  intro hh
  rcases arow_cases hw.rd.row with ⟨rfl, h0, hn⟩ | ⟨b', _, hg', hd, hl, he⟩
  · exact hne (by simpa using h0)
  · rw [hh, hg] at hg'
    cases hg'
    rcases xs with _ | ⟨x, xs⟩
    · exact hne rfl
    · have hm : AV.int .u8 x ∈ (b.cells.drop w.of).take ((x :: xs).length * 1) := by rw [← he]; simp
      exact hb _ (List.mem_of_mem_drop (List.mem_of_mem_take hm)) x rfl
/-- Bytes stay when another block is written. -/
theorem ints_set {H : Hp} {h : Nat} {b : Blk} {w : AV} {xs : List Int} (hw : Ints H .u8 w xs) (hl : h < H.length) (hh : w = .nilS ∨ w.hd ≠ h) : Ints (H.set h b) .u8 w xs := by
  have hfine := hw.rd.fine
  rcases arow_cases hw.rd.row with ⟨rfl, h0, hn⟩ | ⟨b', hb, hg', hd, hl', he⟩
  · have : xs = [] := by simpa using h0
    subst this
    exact Ints.nil _ _
  · have hne : w.hd ≠ h := by
      rcases hh with rfl | hh
      · rcases hb with ⟨c, hb⟩ | ⟨z', hb⟩ <;> cases hb
      · exact hh
    have hset : hget (H.set h b) w.hd = some b' := by rw [hget_set hl, if_neg hne]; exact hg'
    refine ⟨?_, hfine⟩
    rcases hb with ⟨c, hb⟩ | ⟨z', hb⟩ <;> (generalize w.hd = k, w.of = o at *; subst hb; simp only [arow, hset]; rw [if_neg hd, if_pos hl', he])
end Go.Proofs.Ytdlplfhkmhkngaa

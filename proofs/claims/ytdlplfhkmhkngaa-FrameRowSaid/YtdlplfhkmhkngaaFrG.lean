/- A part of the proofs of this seat: FrG. No condition. -/
import Derived.Test.YtdlplfhkmhkngaaFrF
set_option linter.unusedVariables false
set_option linter.unusedSimpArgs false
namespace Go.Proofs.Ytdlplfhkmhkngaa
open Go.AL

/-- Bytes stay where they are when the parser's block is written. -/
theorem ints_pblk {H : Hp} {p : Nat} {v v' w : AV} {bad bad' : Int} {xs ys : List Int} (hp : hget H p = some (pblk v bad)) (hv : Ints H .u8 v ys) (hw : Ints H .u8 w xs) : Ints (H.set p (pblk v' bad')) .u8 w xs := by
  have hfine := hw.rd.fine
  rcases arow_cases hw.rd.row with ⟨rfl, h0, hn⟩ | ⟨b, hb, hg, hd, hl, he⟩
  · have : xs = [] := by simpa using h0
    subst this
    exact Ints.nil _ _
  · have hset := hget_set (hget_lt hp) (pblk v' bad') w.hd
    have key : ∃ b', hget (H.set p (pblk v' bad')) w.hd = some b' ∧ b'.kind ≠ .dead ∧ w.of + xs.length * 1 ≤ b'.cells.length ∧ (b'.cells.drop w.of).take (xs.length * 1) = xs.map (AV.int .u8) := by
      by_cases hh : w.hd = p
      · rw [hh] at hg hset
        rw [if_pos rfl] at hset
        rw [hp] at hg
        cases hg
        refine ⟨_, by rw [hh]; exact hset, by simp [pblk], by simpa [pblk] using hl, ?_⟩
        have hx : xs = [] := by
          rcases xs with _ | ⟨x, xs⟩
          · rfl
          · exfalso
            have hv1 : ∀ m, v ≠ .int .u8 m := by
              intro m hm
              subst hm
              have := hv.rd.row
              simp [arow] at this
            have hof : w.of = 0 ∨ w.of = 1 := by
              simp [pblk] at hl
              omega
            rcases hof with ho | ho
            · rw [ho] at he
              simp [pblk] at he
              exact hv1 x he.1.symm
            · rw [ho] at he
              simp [pblk] at he
        subst hx
        simp
      · rw [if_neg hh] at hset
        exact ⟨b, hset.trans hg, hd, hl, he.symm⟩
    obtain ⟨b', k1, k2, k3, k4⟩ := key
    refine ⟨?_, hfine⟩
    rcases hb with ⟨c, hb⟩ | ⟨z', hb⟩ <;> (generalize w.hd = h, w.of = o at *; subst hb; simp only [arow, k1]; rw [if_neg k2, if_pos k3, k4])

theorem next_calls (H : Hp) (p : Nat) (v : AV) (bad : Int) (xs : List Int) (hp : hget H p = some (pblk v bad)) (hv : Ints H .u8 v xs) (hb : Bytes xs) (hx : xs.length < 1000000) (hbad : 0 ≤ bad ∧ bad < 1000000000000) :
    ACalls Try.prog 25 [.ptr p 0] H fun r H' => NextPost H p v bad (nxt xs).1 (nxt xs).2.1 (nxt xs).2.2 r H' := by
  by_cases h : Long xs
  · exact next_long H p v bad xs hp hv hb hx hbad h
  · exact next_short H p v bad xs hp hv hb hx hbad h
end Go.Proofs.Ytdlplfhkmhkngaa

/- A part of the proofs of this seat: CrcRow. No condition. -/
import Derived.Test.YtdlplfhkmhkngaaCrcP
import Derived.Test.YtdlplfhkmhkngaaALp
set_option linter.unusedVariables false
namespace Go.Proofs.Ytdlplfhkmhkngaa
open Go.AL

theorem u8_wf {n : Int} (h : (Lit.int .u8 n).wf = true) : 0 ≤ n ∧ n < 256 := by
  simp only [Lit.wf, Bool.and_eq_true, decide_eq_true_eq] at h
  have h1 : IntKind.u8.min = 0 := by decide +kernel
  have h2 : IntKind.u8.max = 255 := by decide +kernel
  omega
theorem u16_wf {n : Int} (h : (Lit.int .u16 n).wf = true) : 0 ≤ n ∧ n < 65536 := by
  simp only [Lit.wf, Bool.and_eq_true, decide_eq_true_eq] at h
  have h1 : IntKind.u16.min = 0 := by decide +kernel
  have h2 : IntKind.u16.max = 65535 := by decide +kernel
  omega
theorem bytes_wf {xs : List Int} (h : ∀ n ∈ xs, (Lit.int .u8 n).wf = true) : Bytes xs := fun n hn => u8_wf (h n hn)
end Go.Proofs.Ytdlplfhkmhkngaa

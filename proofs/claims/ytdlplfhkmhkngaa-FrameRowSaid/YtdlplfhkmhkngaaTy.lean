/- What the types are (written by a program of this work). -/
import Derived.Test.YtdlplfhkmhkngaaALs
import Derived.Test.YtdlplfhkmhkngaaProg
set_option linter.unusedSimpArgs false
namespace Go.Proofs.Ytdlplfhkmhkngaa
open Go.AL
theorem und3 : Try.prog.underlying 3 = some (.int .i64) := by kernel_rfl
theorem agg3 : isAggT Try.prog 3 = some false := by kernel_rfl
theorem und4 : Try.prog.underlying 4 = some (.bool) := by kernel_rfl
theorem agg4 : isAggT Try.prog 4 = some false := by kernel_rfl
theorem und5 : Try.prog.underlying 5 = some (.int .u8) := by kernel_rfl
theorem agg5 : isAggT Try.prog 5 = some false := by kernel_rfl
theorem und9 : Try.prog.underlying 9 = some (.string) := by kernel_rfl
theorem agg9 : isAggT Try.prog 9 = some false := by kernel_rfl
theorem und22 : Try.prog.underlying 22 = some (.slice 5) := by kernel_rfl
theorem agg22 : isAggT Try.prog 22 = some false := by kernel_rfl
theorem und23 : Try.prog.underlying 23 = some (.int .u16) := by kernel_rfl
theorem agg23 : isAggT Try.prog 23 = some false := by kernel_rfl
theorem und32 : Try.prog.underlying 32 = some (.slice 22) := by kernel_rfl
theorem agg32 : isAggT Try.prog 32 = some false := by kernel_rfl
theorem und35 : Try.prog.underlying 35 = some (.pointer 45) := by kernel_rfl
theorem agg35 : isAggT Try.prog 35 = some false := by kernel_rfl
theorem und44 : Try.prog.underlying 44 = some (.struct #[{ name := "b", type := 22, offset := 0, embedded := false, tag := "", pkgPath := "leadline/frame", byteOffset := 0 }, { name := "bad", type := 3, offset := 1, embedded := false, tag := "", pkgPath := "leadline/frame", byteOffset := 24 }]) := by kernel_rfl
theorem agg44 : isAggT Try.prog 44 = some true := by kernel_rfl
theorem und45 : Try.prog.underlying 45 = some (.struct #[{ name := "b", type := 22, offset := 0, embedded := false, tag := "", pkgPath := "leadline/frame", byteOffset := 0 }, { name := "bad", type := 3, offset := 1, embedded := false, tag := "", pkgPath := "leadline/frame", byteOffset := 24 }]) := by kernel_rfl
theorem agg45 : isAggT Try.prog 45 = some true := by kernel_rfl
theorem size3 : sizeT Try.prog 3 = some 1 := by kernel_rfl
theorem bytes3 : bytesT Try.prog 3 = some 8 := by kernel_rfl
theorem zero3 : zeroT Try.prog 3 = some (.int .i64 0) := by kernel_rfl
theorem size4 : sizeT Try.prog 4 = some 1 := by kernel_rfl
theorem bytes4 : bytesT Try.prog 4 = some 1 := by kernel_rfl
theorem zero4 : zeroT Try.prog 4 = some (.bool false) := by kernel_rfl
theorem size5 : sizeT Try.prog 5 = some 1 := by kernel_rfl
theorem bytes5 : bytesT Try.prog 5 = some 1 := by kernel_rfl
theorem zero5 : zeroT Try.prog 5 = some (.int .u8 0) := by kernel_rfl
theorem size9 : sizeT Try.prog 9 = some 1 := by kernel_rfl
theorem bytes9 : bytesT Try.prog 9 = some 16 := by kernel_rfl
theorem zero9 : zeroT Try.prog 9 = some (.str .empty) := by kernel_rfl
theorem size22 : sizeT Try.prog 22 = some 1 := by kernel_rfl
theorem bytes22 : bytesT Try.prog 22 = some 24 := by kernel_rfl
theorem zero22 : zeroT Try.prog 22 = some (.nilS) := by kernel_rfl
theorem size23 : sizeT Try.prog 23 = some 1 := by kernel_rfl
theorem bytes23 : bytesT Try.prog 23 = some 2 := by kernel_rfl
theorem zero23 : zeroT Try.prog 23 = some (.int .u16 0) := by kernel_rfl
theorem size32 : sizeT Try.prog 32 = some 1 := by kernel_rfl
theorem bytes32 : bytesT Try.prog 32 = some 24 := by kernel_rfl
theorem zero32 : zeroT Try.prog 32 = some (.nilS) := by kernel_rfl
theorem size35 : sizeT Try.prog 35 = some 1 := by kernel_rfl
theorem bytes35 : bytesT Try.prog 35 = some 8 := by kernel_rfl
theorem zero35 : zeroT Try.prog 35 = some (.nilP) := by kernel_rfl
theorem size44 : sizeT Try.prog 44 = some 2 := by kernel_rfl
theorem bytes44 : bytesT Try.prog 44 = some 32 := by kernel_rfl
theorem zero44 : zeroT Try.prog 44 = some (.agg [.nilS, .int .i64 0]) := by kernel_rfl
theorem size45 : sizeT Try.prog 45 = some 2 := by kernel_rfl
theorem bytes45 : bytesT Try.prog 45 = some 32 := by kernel_rfl
theorem zero45 : zeroT Try.prog 45 = some (.agg [.nilS, .int .i64 0]) := by kernel_rfl
theorem lenS22 (h o n c : Nat) : abuiltin Try.prog .len #[22] [.sl h o n c] = some (.int .i64 n) := by simp [abuiltin, und22]
theorem lenG22 (h o n z : Nat) : abuiltin Try.prog .len #[22] [.sg h o n z] = some (.int .i64 n) := by simp [abuiltin, und22]
theorem lenN22 : abuiltin Try.prog .len #[22] [.nilS] = some (.int .i64 0) := by simp [abuiltin, und22]
theorem lenS32 (h o n c : Nat) : abuiltin Try.prog .len #[32] [.sl h o n c] = some (.int .i64 n) := by simp [abuiltin, und32]
theorem lenG32 (h o n z : Nat) : abuiltin Try.prog .len #[32] [.sg h o n z] = some (.int .i64 n) := by simp [abuiltin, und32]
theorem lenN32 : abuiltin Try.prog .len #[32] [.nilS] = some (.int .i64 0) := by simp [abuiltin, und32]
theorem eqB4 (a b : Bool) : aeqIn Try.prog Op.maxDepth 4 (.bool a) (.bool b) = some (a == b) := eq_bools und4
theorem eqSl22 (h o n c : Nat) : aeqIn Try.prog Op.maxDepth 22 (.sl h o n c) .nilS = some false := eq_sl_nil und22
theorem eqSg22 (h o n c : Nat) : aeqIn Try.prog Op.maxDepth 22 (.sg h o n c) .nilS = some false := eq_sg_nil und22
theorem eqSn22 : aeqIn Try.prog Op.maxDepth 22 .nilS .nilS = some true := eq_nil_nil und22
theorem eqSl32 (h o n c : Nat) : aeqIn Try.prog Op.maxDepth 32 (.sl h o n c) .nilS = some false := eq_sl_nil und32
theorem eqSg32 (h o n c : Nat) : aeqIn Try.prog Op.maxDepth 32 (.sg h o n c) .nilS = some false := eq_sg_nil und32
theorem eqSn32 : aeqIn Try.prog Op.maxDepth 32 .nilS .nilS = some true := eq_nil_nil und32
theorem eqPn35 (h o : Nat) : aeqIn Try.prog Op.maxDepth 35 (.ptr h o) .nilP = some false := eq_ptr_nil und35
theorem eqPP35 : aeqIn Try.prog Op.maxDepth 35 .nilP .nilP = some true := eq_nilP_nilP und35
theorem cv3_5 (H : Hp) (k : IntKind) (n : Int) : aconv Try.prog H 3 5 (.int k n) = some (.int .u8 (IntKind.u8.wrap n)) := by simp [aconv, und3, und5]
theorem cv5_3 (H : Hp) (k : IntKind) (n : Int) : aconv Try.prog H 5 3 (.int k n) = some (.int .i64 (IntKind.i64.wrap n)) := by simp [aconv, und5, und3]
theorem cv5_23 (H : Hp) (k : IntKind) (n : Int) : aconv Try.prog H 5 23 (.int k n) = some (.int .u16 (IntKind.u16.wrap n)) := by simp [aconv, und5, und23]
theorem str22_9 {H : Hp} {v : AV} {xs : List Int} (h : Ints H .u8 v xs) : aconv Try.prog H 22 9 v = some (.str (strOfNums xs)) := h.str und22 (by simp [isU8, und5]) und9
theorem cv22_9 (H : Hp) : aconv Try.prog H 22 9 .nilS = some (.str .empty) := by simp [aconv, und22, und9, isU8, und5]
theorem cv22_22 (H : Hp) (h o n c : Nat) : aconv Try.prog H 22 22 (.sl h o n c) = none := by simp [aconv, und22]
theorem cv23_5 (H : Hp) (k : IntKind) (n : Int) : aconv Try.prog H 23 5 (.int k n) = some (.int .u8 (IntKind.u8.wrap n)) := by simp [aconv, und23, und5]
end Go.Proofs.Ytdlplfhkmhkngaa

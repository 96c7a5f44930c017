/- Part 10 of the proof of laws of this seat: lemmas on the model's code, on this program's functions, on numbers. No condition. -/
import Derived.Test.YtfalfmfkifemeaaDoorZDiaai
import Derived.Laws.Externs
import Derived.Test.YtfalfmfkifemeaaDoorProg
set_option linter.unusedSimpArgs false
namespace Go.Proofs.YtfalfmfkifemeaaDoor
open Go.AL
theorem und2 : Tryd.prog.underlying 2 = some (.int .i64) := by kernel_rfl
theorem agg2 : isAggT Tryd.prog 2 = some false := by kernel_rfl
theorem und3 : Tryd.prog.underlying 3 = some (.int .i64) := by kernel_rfl
theorem agg3 : isAggT Tryd.prog 3 = some false := by kernel_rfl
theorem und4 : Tryd.prog.underlying 4 = some (.bool) := by kernel_rfl
theorem agg4 : isAggT Tryd.prog 4 = some false := by kernel_rfl
theorem und5 : Tryd.prog.underlying 5 = some (.int .u8) := by kernel_rfl
theorem agg5 : isAggT Tryd.prog 5 = some false := by kernel_rfl
theorem und9 : Tryd.prog.underlying 9 = some (.string) := by kernel_rfl
theorem agg9 : isAggT Tryd.prog 9 = some false := by kernel_rfl
theorem und20 : Tryd.prog.underlying 20 = some (.interface #[]) := by kernel_rfl
theorem agg20 : isAggT Tryd.prog 20 = some false := by kernel_rfl
theorem und22 : Tryd.prog.underlying 22 = some (.slice 2) := by kernel_rfl
theorem agg22 : isAggT Tryd.prog 22 = some false := by kernel_rfl
theorem und24 : Tryd.prog.underlying 24 = some (.struct #[{ name := "N", type := 3, offset := 0, embedded := false, tag := "", pkgPath := "", byteOffset := 0 }, { name := "A", type := 22, offset := 1, embedded := false, tag := "", pkgPath := "", byteOffset := 8 }]) := by kernel_rfl
theorem agg24 : isAggT Tryd.prog 24 = some true := by kernel_rfl
theorem und25 : Tryd.prog.underlying 25 = some (.struct #[{ name := "N", type := 3, offset := 0, embedded := false, tag := "", pkgPath := "", byteOffset := 0 }, { name := "A", type := 22, offset := 1, embedded := false, tag := "", pkgPath := "", byteOffset := 8 }]) := by kernel_rfl
theorem agg25 : isAggT Tryd.prog 25 = some true := by kernel_rfl
theorem und27 : Tryd.prog.underlying 27 = some (.slice 34) := by kernel_rfl
theorem agg27 : isAggT Tryd.prog 27 = some false := by kernel_rfl
theorem und28 : Tryd.prog.underlying 28 = some (.struct #[{ name := "Neg", type := 4, offset := 0, embedded := false, tag := "", pkgPath := "", byteOffset := 0 }, { name := "M", type := 27, offset := 1, embedded := false, tag := "", pkgPath := "", byteOffset := 8 }]) := by kernel_rfl
theorem agg28 : isAggT Tryd.prog 28 = some true := by kernel_rfl
theorem und29 : Tryd.prog.underlying 29 = some (.struct #[{ name := "Neg", type := 4, offset := 0, embedded := false, tag := "", pkgPath := "", byteOffset := 0 }, { name := "M", type := 27, offset := 1, embedded := false, tag := "", pkgPath := "", byteOffset := 8 }]) := by kernel_rfl
theorem agg29 : isAggT Tryd.prog 29 = some true := by kernel_rfl
theorem und34 : Tryd.prog.underlying 34 = some (.int .u64) := by kernel_rfl
theorem agg34 : isAggT Tryd.prog 34 = some false := by kernel_rfl
theorem und35 : Tryd.prog.underlying 35 = some (.array 16 34) := by kernel_rfl
theorem agg35 : isAggT Tryd.prog 35 = some true := by kernel_rfl
theorem und36 : Tryd.prog.underlying 36 = some (.array 16 34) := by kernel_rfl
theorem agg36 : isAggT Tryd.prog 36 = some true := by kernel_rfl
theorem und37 : Tryd.prog.underlying 37 = some (.interface #[("Error", 141)]) := by kernel_rfl
theorem agg37 : isAggT Tryd.prog 37 = some false := by kernel_rfl
theorem und38 : Tryd.prog.underlying 38 = some (.interface #[("Error", 141)]) := by kernel_rfl
theorem agg38 : isAggT Tryd.prog 38 = some false := by kernel_rfl
theorem und48 : Tryd.prog.underlying 48 = some (.slice 36) := by kernel_rfl
theorem agg48 : isAggT Tryd.prog 48 = some false := by kernel_rfl
theorem und57 : Tryd.prog.underlying 57 = some (.int .i64) := by kernel_rfl
theorem agg57 : isAggT Tryd.prog 57 = some false := by kernel_rfl
theorem und58 : Tryd.prog.underlying 58 = some (.slice 48) := by kernel_rfl
theorem agg58 : isAggT Tryd.prog 58 = some false := by kernel_rfl
theorem und70 : Tryd.prog.underlying 70 = some (.slice 9) := by kernel_rfl
theorem agg70 : isAggT Tryd.prog 70 = some false := by kernel_rfl
theorem und79 : Tryd.prog.underlying 79 = some (.pointer 81) := by kernel_rfl
theorem agg79 : isAggT Tryd.prog 79 = some false := by kernel_rfl
theorem und80 : Tryd.prog.underlying 80 = some (.struct #[{ name := "Op", type := 9, offset := 0, embedded := false, tag := "", pkgPath := "", byteOffset := 0 }, { name := "Err", type := 38, offset := 1, embedded := false, tag := "", pkgPath := "", byteOffset := 16 }]) := by kernel_rfl
theorem agg80 : isAggT Tryd.prog 80 = some true := by kernel_rfl
theorem und81 : Tryd.prog.underlying 81 = some (.struct #[{ name := "Op", type := 9, offset := 0, embedded := false, tag := "", pkgPath := "", byteOffset := 0 }, { name := "Err", type := 38, offset := 1, embedded := false, tag := "", pkgPath := "", byteOffset := 16 }]) := by kernel_rfl
theorem agg81 : isAggT Tryd.prog 81 = some true := by kernel_rfl
theorem und84 : Tryd.prog.underlying 84 = some (.int .u64) := by kernel_rfl
theorem agg84 : isAggT Tryd.prog 84 = some false := by kernel_rfl
theorem und96 : Tryd.prog.underlying 96 = some (.pointer 57) := by kernel_rfl
theorem agg96 : isAggT Tryd.prog 96 = some false := by kernel_rfl
theorem und102 : Tryd.prog.underlying 102 = some (.interface #[("Unwrap", 106)]) := by kernel_rfl
theorem agg102 : isAggT Tryd.prog 102 = some false := by kernel_rfl
theorem und105 : Tryd.prog.underlying 105 = some (.slice 38) := by kernel_rfl
theorem agg105 : isAggT Tryd.prog 105 = some false := by kernel_rfl
theorem und120 : Tryd.prog.underlying 120 = some (.slice 3) := by kernel_rfl
theorem agg120 : isAggT Tryd.prog 120 = some false := by kernel_rfl
theorem und122 : Tryd.prog.underlying 122 = some (.array 17 34) := by kernel_rfl
theorem agg122 : isAggT Tryd.prog 122 = some true := by kernel_rfl
theorem size2 : sizeT Tryd.prog 2 = some 1 := by kernel_rfl
theorem bytes2 : bytesT Tryd.prog 2 = some 8 := by kernel_rfl
theorem zero2 : zeroT Tryd.prog 2 = some (.int .i64 0) := by kernel_rfl
theorem size3 : sizeT Tryd.prog 3 = some 1 := by kernel_rfl
theorem bytes3 : bytesT Tryd.prog 3 = some 8 := by kernel_rfl
theorem zero3 : zeroT Tryd.prog 3 = some (.int .i64 0) := by kernel_rfl
theorem size4 : sizeT Tryd.prog 4 = some 1 := by kernel_rfl
theorem bytes4 : bytesT Tryd.prog 4 = some 1 := by kernel_rfl
theorem zero4 : zeroT Tryd.prog 4 = some (.bool false) := by kernel_rfl
theorem size5 : sizeT Tryd.prog 5 = some 1 := by kernel_rfl
theorem bytes5 : bytesT Tryd.prog 5 = some 1 := by kernel_rfl
theorem zero5 : zeroT Tryd.prog 5 = some (.int .u8 0) := by kernel_rfl
theorem size9 : sizeT Tryd.prog 9 = some 1 := by kernel_rfl
theorem bytes9 : bytesT Tryd.prog 9 = some 16 := by kernel_rfl
theorem zero9 : zeroT Tryd.prog 9 = some (.str .empty) := by kernel_rfl
theorem size20 : sizeT Tryd.prog 20 = some 1 := by kernel_rfl
theorem bytes20 : bytesT Tryd.prog 20 = some 16 := by kernel_rfl
theorem zero20 : zeroT Tryd.prog 20 = some (.nilI) := by kernel_rfl
theorem size22 : sizeT Tryd.prog 22 = some 1 := by kernel_rfl
theorem bytes22 : bytesT Tryd.prog 22 = some 24 := by kernel_rfl
theorem zero22 : zeroT Tryd.prog 22 = some (.nilS) := by kernel_rfl
theorem size24 : sizeT Tryd.prog 24 = some 2 := by kernel_rfl
theorem bytes24 : bytesT Tryd.prog 24 = some 32 := by kernel_rfl
theorem zero24 : zeroT Tryd.prog 24 = some (.agg [.int .i64 0, .nilS]) := by kernel_rfl
theorem size25 : sizeT Tryd.prog 25 = some 2 := by kernel_rfl
theorem bytes25 : bytesT Tryd.prog 25 = some 32 := by kernel_rfl
theorem zero25 : zeroT Tryd.prog 25 = some (.agg [.int .i64 0, .nilS]) := by kernel_rfl
theorem size27 : sizeT Tryd.prog 27 = some 1 := by kernel_rfl
theorem bytes27 : bytesT Tryd.prog 27 = some 24 := by kernel_rfl
theorem zero27 : zeroT Tryd.prog 27 = some (.nilS) := by kernel_rfl
theorem size28 : sizeT Tryd.prog 28 = some 2 := by kernel_rfl
theorem bytes28 : bytesT Tryd.prog 28 = some 32 := by kernel_rfl
theorem zero28 : zeroT Tryd.prog 28 = some (.agg [.bool false, .nilS]) := by kernel_rfl
theorem size29 : sizeT Tryd.prog 29 = some 2 := by kernel_rfl
theorem bytes29 : bytesT Tryd.prog 29 = some 32 := by kernel_rfl
theorem zero29 : zeroT Tryd.prog 29 = some (.agg [.bool false, .nilS]) := by kernel_rfl
theorem size34 : sizeT Tryd.prog 34 = some 1 := by kernel_rfl
theorem bytes34 : bytesT Tryd.prog 34 = some 8 := by kernel_rfl
theorem zero34 : zeroT Tryd.prog 34 = some (.int .u64 0) := by kernel_rfl
theorem size35 : sizeT Tryd.prog 35 = some 16 := by kernel_rfl
theorem bytes35 : bytesT Tryd.prog 35 = some 128 := by kernel_rfl
theorem zero35 : zeroT Tryd.prog 35 = some (.agg ((Go.PW.dig 16 0).map (AV.int .u64))) := by kernel_rfl
theorem bld35 : abuild Tryd.prog 35 [] = some (.agg ((Go.PW.dig 16 0).map (AV.int .u64))) := by kernel_rfl
theorem size36 : sizeT Tryd.prog 36 = some 16 := by kernel_rfl
theorem bytes36 : bytesT Tryd.prog 36 = some 128 := by kernel_rfl
theorem zero36 : zeroT Tryd.prog 36 = some (.agg ((Go.PW.dig 16 0).map (AV.int .u64))) := by kernel_rfl
theorem bld36 : abuild Tryd.prog 36 [] = some (.agg ((Go.PW.dig 16 0).map (AV.int .u64))) := by kernel_rfl
theorem size37 : sizeT Tryd.prog 37 = some 1 := by kernel_rfl
theorem bytes37 : bytesT Tryd.prog 37 = some 16 := by kernel_rfl
theorem zero37 : zeroT Tryd.prog 37 = some (.nilI) := by kernel_rfl
theorem size38 : sizeT Tryd.prog 38 = some 1 := by kernel_rfl
theorem bytes38 : bytesT Tryd.prog 38 = some 16 := by kernel_rfl
theorem zero38 : zeroT Tryd.prog 38 = some (.nilI) := by kernel_rfl
theorem size48 : sizeT Tryd.prog 48 = some 1 := by kernel_rfl
theorem bytes48 : bytesT Tryd.prog 48 = some 24 := by kernel_rfl
theorem zero48 : zeroT Tryd.prog 48 = some (.nilS) := by kernel_rfl
theorem size57 : sizeT Tryd.prog 57 = some 1 := by kernel_rfl
theorem bytes57 : bytesT Tryd.prog 57 = some 8 := by kernel_rfl
theorem zero57 : zeroT Tryd.prog 57 = some (.int .i64 0) := by kernel_rfl
theorem size58 : sizeT Tryd.prog 58 = some 1 := by kernel_rfl
theorem bytes58 : bytesT Tryd.prog 58 = some 24 := by kernel_rfl
theorem zero58 : zeroT Tryd.prog 58 = some (.nilS) := by kernel_rfl
theorem size70 : sizeT Tryd.prog 70 = some 1 := by kernel_rfl
theorem bytes70 : bytesT Tryd.prog 70 = some 24 := by kernel_rfl
theorem zero70 : zeroT Tryd.prog 70 = some (.nilS) := by kernel_rfl
theorem size79 : sizeT Tryd.prog 79 = some 1 := by kernel_rfl
theorem bytes79 : bytesT Tryd.prog 79 = some 8 := by kernel_rfl
theorem zero79 : zeroT Tryd.prog 79 = some (.nilP) := by kernel_rfl
theorem size80 : sizeT Tryd.prog 80 = some 2 := by kernel_rfl
theorem bytes80 : bytesT Tryd.prog 80 = some 32 := by kernel_rfl
theorem zero80 : zeroT Tryd.prog 80 = some (.agg [.str .empty, .nilI]) := by kernel_rfl
theorem size81 : sizeT Tryd.prog 81 = some 2 := by kernel_rfl
theorem bytes81 : bytesT Tryd.prog 81 = some 32 := by kernel_rfl
theorem zero81 : zeroT Tryd.prog 81 = some (.agg [.str .empty, .nilI]) := by kernel_rfl
theorem size84 : sizeT Tryd.prog 84 = some 1 := by kernel_rfl
theorem bytes84 : bytesT Tryd.prog 84 = some 8 := by kernel_rfl
theorem zero84 : zeroT Tryd.prog 84 = some (.int .u64 0) := by kernel_rfl
theorem size96 : sizeT Tryd.prog 96 = some 1 := by kernel_rfl
theorem bytes96 : bytesT Tryd.prog 96 = some 8 := by kernel_rfl
theorem zero96 : zeroT Tryd.prog 96 = some (.nilP) := by kernel_rfl
theorem size102 : sizeT Tryd.prog 102 = some 1 := by kernel_rfl
theorem bytes102 : bytesT Tryd.prog 102 = some 16 := by kernel_rfl
theorem zero102 : zeroT Tryd.prog 102 = some (.nilI) := by kernel_rfl
theorem size105 : sizeT Tryd.prog 105 = some 1 := by kernel_rfl
theorem bytes105 : bytesT Tryd.prog 105 = some 24 := by kernel_rfl
theorem zero105 : zeroT Tryd.prog 105 = some (.nilS) := by kernel_rfl
theorem size120 : sizeT Tryd.prog 120 = some 1 := by kernel_rfl
theorem bytes120 : bytesT Tryd.prog 120 = some 24 := by kernel_rfl
theorem zero120 : zeroT Tryd.prog 120 = some (.nilS) := by kernel_rfl
theorem size122 : sizeT Tryd.prog 122 = some 17 := by kernel_rfl
theorem bytes122 : bytesT Tryd.prog 122 = some 136 := by kernel_rfl
theorem zero122 : zeroT Tryd.prog 122 = some (.agg ((Go.PW.dig 17 0).map (AV.int .u64))) := by kernel_rfl
theorem bld122 : abuild Tryd.prog 122 [] = some (.agg ((Go.PW.dig 17 0).map (AV.int .u64))) := by kernel_rfl
theorem lenS22 (h o n c : Nat) : abuiltin Tryd.prog .len #[22] [.sl h o n c] = some (.int .i64 n) := by simp [abuiltin, und22]
theorem lenG22 (h o n z : Nat) : abuiltin Tryd.prog .len #[22] [.sg h o n z] = some (.int .i64 n) := by simp [abuiltin, und22]
theorem lenN22 : abuiltin Tryd.prog .len #[22] [.nilS] = some (.int .i64 0) := by simp [abuiltin, und22]
theorem lenS27 (h o n c : Nat) : abuiltin Tryd.prog .len #[27] [.sl h o n c] = some (.int .i64 n) := by simp [abuiltin, und27]
theorem lenG27 (h o n z : Nat) : abuiltin Tryd.prog .len #[27] [.sg h o n z] = some (.int .i64 n) := by simp [abuiltin, und27]
theorem lenN27 : abuiltin Tryd.prog .len #[27] [.nilS] = some (.int .i64 0) := by simp [abuiltin, und27]
theorem lenS48 (h o n c : Nat) : abuiltin Tryd.prog .len #[48] [.sl h o n c] = some (.int .i64 n) := by simp [abuiltin, und48]
theorem lenG48 (h o n z : Nat) : abuiltin Tryd.prog .len #[48] [.sg h o n z] = some (.int .i64 n) := by simp [abuiltin, und48]
theorem lenN48 : abuiltin Tryd.prog .len #[48] [.nilS] = some (.int .i64 0) := by simp [abuiltin, und48]
theorem lenS58 (h o n c : Nat) : abuiltin Tryd.prog .len #[58] [.sl h o n c] = some (.int .i64 n) := by simp [abuiltin, und58]
theorem lenG58 (h o n z : Nat) : abuiltin Tryd.prog .len #[58] [.sg h o n z] = some (.int .i64 n) := by simp [abuiltin, und58]
theorem lenN58 : abuiltin Tryd.prog .len #[58] [.nilS] = some (.int .i64 0) := by simp [abuiltin, und58]
theorem lenS70 (h o n c : Nat) : abuiltin Tryd.prog .len #[70] [.sl h o n c] = some (.int .i64 n) := by simp [abuiltin, und70]
theorem lenG70 (h o n z : Nat) : abuiltin Tryd.prog .len #[70] [.sg h o n z] = some (.int .i64 n) := by simp [abuiltin, und70]
theorem lenN70 : abuiltin Tryd.prog .len #[70] [.nilS] = some (.int .i64 0) := by simp [abuiltin, und70]
theorem lenS105 (h o n c : Nat) : abuiltin Tryd.prog .len #[105] [.sl h o n c] = some (.int .i64 n) := by simp [abuiltin, und105]
theorem lenG105 (h o n z : Nat) : abuiltin Tryd.prog .len #[105] [.sg h o n z] = some (.int .i64 n) := by simp [abuiltin, und105]
theorem lenN105 : abuiltin Tryd.prog .len #[105] [.nilS] = some (.int .i64 0) := by simp [abuiltin, und105]
theorem lenS120 (h o n c : Nat) : abuiltin Tryd.prog .len #[120] [.sl h o n c] = some (.int .i64 n) := by simp [abuiltin, und120]
theorem lenG120 (h o n z : Nat) : abuiltin Tryd.prog .len #[120] [.sg h o n z] = some (.int .i64 n) := by simp [abuiltin, und120]
theorem lenN120 : abuiltin Tryd.prog .len #[120] [.nilS] = some (.int .i64 0) := by simp [abuiltin, und120]
theorem six22 {h o n c : Nat} {l : IntKind} {j : Int} (h0 : 0 ≤ j) (h1 : j < (n : Int)) : aindexAddr Tryd.prog 22 (.sl h o n c) (.int l j) = some (.ptr h (o + j.toNat)) := at_sl1 und22 size2 h0 h1
theorem gix22 {h o n : Nat} {l : IntKind} {j : Int} (h0 : 0 ≤ j) (h1 : j < (n : Int)) : aindexAddr Tryd.prog 22 (.sg h o n 1) (.int l j) = some (.ptr h (o + j.toNat)) := at_sg1 und22 size2 h0 h1
theorem six27 {h o n c : Nat} {l : IntKind} {j : Int} (h0 : 0 ≤ j) (h1 : j < (n : Int)) : aindexAddr Tryd.prog 27 (.sl h o n c) (.int l j) = some (.ptr h (o + j.toNat)) := at_sl1 und27 size34 h0 h1
theorem gix27 {h o n : Nat} {l : IntKind} {j : Int} (h0 : 0 ≤ j) (h1 : j < (n : Int)) : aindexAddr Tryd.prog 27 (.sg h o n 1) (.int l j) = some (.ptr h (o + j.toNat)) := at_sg1 und27 size34 h0 h1
theorem six48 {h o n c : Nat} {l : IntKind} {j : Int} (h0 : 0 ≤ j) (h1 : j < (n : Int)) : aindexAddr Tryd.prog 48 (.sl h o n c) (.int l j) = some (.ptr h (o + j.toNat * 16)) := at_sl und48 size36 h0 h1
theorem gix48 {h o n : Nat} {l : IntKind} {j : Int} (h0 : 0 ≤ j) (h1 : j < (n : Int)) : aindexAddr Tryd.prog 48 (.sg h o n 16) (.int l j) = some (.ptr h (o + j.toNat * 16)) := at_sg und48 size36 h0 h1
theorem six58 {h o n c : Nat} {l : IntKind} {j : Int} (h0 : 0 ≤ j) (h1 : j < (n : Int)) : aindexAddr Tryd.prog 58 (.sl h o n c) (.int l j) = some (.ptr h (o + j.toNat)) := at_sl1 und58 size48 h0 h1
theorem gix58 {h o n : Nat} {l : IntKind} {j : Int} (h0 : 0 ≤ j) (h1 : j < (n : Int)) : aindexAddr Tryd.prog 58 (.sg h o n 1) (.int l j) = some (.ptr h (o + j.toNat)) := at_sg1 und58 size48 h0 h1
theorem six70 {h o n c : Nat} {l : IntKind} {j : Int} (h0 : 0 ≤ j) (h1 : j < (n : Int)) : aindexAddr Tryd.prog 70 (.sl h o n c) (.int l j) = some (.ptr h (o + j.toNat)) := at_sl1 und70 size9 h0 h1
theorem gix70 {h o n : Nat} {l : IntKind} {j : Int} (h0 : 0 ≤ j) (h1 : j < (n : Int)) : aindexAddr Tryd.prog 70 (.sg h o n 1) (.int l j) = some (.ptr h (o + j.toNat)) := at_sg1 und70 size9 h0 h1
theorem six120 {h o n c : Nat} {l : IntKind} {j : Int} (h0 : 0 ≤ j) (h1 : j < (n : Int)) : aindexAddr Tryd.prog 120 (.sl h o n c) (.int l j) = some (.ptr h (o + j.toNat)) := at_sl1 und120 size3 h0 h1
theorem gix120 {h o n : Nat} {l : IntKind} {j : Int} (h0 : 0 ≤ j) (h1 : j < (n : Int)) : aindexAddr Tryd.prog 120 (.sg h o n 1) (.int l j) = some (.ptr h (o + j.toNat)) := at_sg1 und120 size3 h0 h1
theorem idx35 {h o : Nat} {l : IntKind} {j : Int} (h0 : 0 ≤ j) (h1 : j < 16) : aindexAddr Tryd.prog 35 (.ptr h o) (.int l j) = some (.ptr h (o + j.toNat * 1)) := addr_array und35 size34 h0 h1
theorem sla35 {h o : Nat} : aslice Tryd.prog 35 (.ptr h o) none none none = some (.sl h o 16 16) := slice_array und35 size34
theorem slh35 {h o : Nat} {l : IntKind} {q : Int} (h0 : 0 ≤ q) (h1 : q ≤ 16) : aslice Tryd.prog 35 (.ptr h o) none (some (.int l q)) none = some (.sl h o q.toNat 16) := slice_array_hi und35 size34 h0 h1
theorem idx36 {h o : Nat} {l : IntKind} {j : Int} (h0 : 0 ≤ j) (h1 : j < 16) : aindexAddr Tryd.prog 36 (.ptr h o) (.int l j) = some (.ptr h (o + j.toNat * 1)) := addr_array und36 size34 h0 h1
theorem sla36 {h o : Nat} : aslice Tryd.prog 36 (.ptr h o) none none none = some (.sl h o 16 16) := slice_array und36 size34
theorem slh36 {h o : Nat} {l : IntKind} {q : Int} (h0 : 0 ≤ q) (h1 : q ≤ 16) : aslice Tryd.prog 36 (.ptr h o) none (some (.int l q)) none = some (.sl h o q.toNat 16) := slice_array_hi und36 size34 h0 h1
theorem ix36 {l k : IntKind} {xs : List Int} {j : Int} (hn : xs.length = 16) (h0 : 0 ≤ j) (h1 : j < 16) : aindex Tryd.prog 36 (.agg (xs.map (AV.int k))) (.int l j) = some (.int k (xs.getD j.toNat 0)) := index_ints und36 size34 agg34 hn h0 h1
theorem idx122 {h o : Nat} {l : IntKind} {j : Int} (h0 : 0 ≤ j) (h1 : j < 17) : aindexAddr Tryd.prog 122 (.ptr h o) (.int l j) = some (.ptr h (o + j.toNat * 1)) := addr_array und122 size34 h0 h1
theorem sla122 {h o : Nat} : aslice Tryd.prog 122 (.ptr h o) none none none = some (.sl h o 17 17) := slice_array und122 size34
theorem slh122 {h o : Nat} {l : IntKind} {q : Int} (h0 : 0 ≤ q) (h1 : q ≤ 17) : aslice Tryd.prog 122 (.ptr h o) none (some (.int l q)) none = some (.sl h o q.toNat 17) := slice_array_hi und122 size34 h0 h1
theorem fad24_0 {h o : Nat} : afieldAddr Tryd.prog 24 (.ptr h o) 0 = some (.ptr h (o)) := by simp [afieldAddr, und24, size3]
theorem fad24_1 {h o : Nat} : afieldAddr Tryd.prog 24 (.ptr h o) 1 = some (.ptr h (o + 1)) := by simp [afieldAddr, und24, size22]
theorem fad25_0 {h o : Nat} : afieldAddr Tryd.prog 25 (.ptr h o) 0 = some (.ptr h (o)) := by simp [afieldAddr, und25, size3]
theorem fad25_1 {h o : Nat} : afieldAddr Tryd.prog 25 (.ptr h o) 1 = some (.ptr h (o + 1)) := by simp [afieldAddr, und25, size22]
theorem fad28_0 {h o : Nat} : afieldAddr Tryd.prog 28 (.ptr h o) 0 = some (.ptr h (o)) := by simp [afieldAddr, und28, size4]
theorem fad28_1 {h o : Nat} : afieldAddr Tryd.prog 28 (.ptr h o) 1 = some (.ptr h (o + 1)) := by simp [afieldAddr, und28, size27]
theorem fad29_0 {h o : Nat} : afieldAddr Tryd.prog 29 (.ptr h o) 0 = some (.ptr h (o)) := by simp [afieldAddr, und29, size4]
theorem fad29_1 {h o : Nat} : afieldAddr Tryd.prog 29 (.ptr h o) 1 = some (.ptr h (o + 1)) := by simp [afieldAddr, und29, size27]
theorem fad80_0 {h o : Nat} : afieldAddr Tryd.prog 80 (.ptr h o) 0 = some (.ptr h (o)) := by simp [afieldAddr, und80, size9]
theorem fad80_1 {h o : Nat} : afieldAddr Tryd.prog 80 (.ptr h o) 1 = some (.ptr h (o + 1)) := by simp [afieldAddr, und80, size38]
theorem fad81_0 {h o : Nat} : afieldAddr Tryd.prog 81 (.ptr h o) 0 = some (.ptr h (o)) := by simp [afieldAddr, und81, size9]
theorem fad81_1 {h o : Nat} : afieldAddr Tryd.prog 81 (.ptr h o) 1 = some (.ptr h (o + 1)) := by simp [afieldAddr, und81, size38]
theorem bst25_e : abuild Tryd.prog 25 [] = some (.agg [(.int .i64 0), (.nilS)]) := by
  simp [abuild, zero25, aplace, und25, size3, size22, afill, splice, AV.cells_agg]
theorem bst25_0 {x0 : AV} (h0 : x0.one = true) : abuild Tryd.prog 25 [(0, x0)] = some (.agg [x0, (.nilS)]) := by
  simp [abuild, zero25, aplace, und25, size3, size22, afill, splice, AV.solid_one h0, AV.cells_one h0, AV.cells_agg]
theorem bst25_01 {x0 x1 : AV} (h0 : x0.one = true) (h1 : x1.one = true) : abuild Tryd.prog 25 [(0, x0), (1, x1)] = some (.agg [x0, x1]) := by
  simp [abuild, zero25, aplace, und25, size3, size22, afill, splice, AV.solid_one h0, AV.cells_one h0, AV.solid_one h1, AV.cells_one h1, AV.cells_agg]
theorem bst29_01 {x0 x1 : AV} (h0 : x0.one = true) (h1 : x1.one = true) : abuild Tryd.prog 29 [(0, x0), (1, x1)] = some (.agg [x0, x1]) := by
  simp [abuild, zero29, aplace, und29, size4, size27, afill, splice, AV.solid_one h0, AV.cells_one h0, AV.solid_one h1, AV.cells_one h1, AV.cells_agg]
theorem eg35 : Tryd.prog.eqGuardType Tryd.prog.depth 35 = false := by kernel_rfl
theorem eg36 : Tryd.prog.eqGuardType Tryd.prog.depth 36 = false := by kernel_rfl
theorem eg122 : Tryd.prog.eqGuardType Tryd.prog.depth 122 = false := by kernel_rfl
theorem eqB4 (a b : Bool) : aeqIn Tryd.prog Op.maxDepth 4 (.bool a) (.bool b) = some (a == b) := eq_bools und4
theorem eqSl22 (h o n c : Nat) : aeqIn Tryd.prog Op.maxDepth 22 (.sl h o n c) .nilS = some false := eq_sl_nil und22
theorem eqSg22 (h o n c : Nat) : aeqIn Tryd.prog Op.maxDepth 22 (.sg h o n c) .nilS = some false := eq_sg_nil und22
theorem eqSn22 : aeqIn Tryd.prog Op.maxDepth 22 .nilS .nilS = some true := eq_nil_nil und22
theorem eqSl27 (h o n c : Nat) : aeqIn Tryd.prog Op.maxDepth 27 (.sl h o n c) .nilS = some false := eq_sl_nil und27
theorem eqSg27 (h o n c : Nat) : aeqIn Tryd.prog Op.maxDepth 27 (.sg h o n c) .nilS = some false := eq_sg_nil und27
theorem eqSn27 : aeqIn Tryd.prog Op.maxDepth 27 .nilS .nilS = some true := eq_nil_nil und27
theorem eqSl48 (h o n c : Nat) : aeqIn Tryd.prog Op.maxDepth 48 (.sl h o n c) .nilS = some false := eq_sl_nil und48
theorem eqSg48 (h o n c : Nat) : aeqIn Tryd.prog Op.maxDepth 48 (.sg h o n c) .nilS = some false := eq_sg_nil und48
theorem eqSn48 : aeqIn Tryd.prog Op.maxDepth 48 .nilS .nilS = some true := eq_nil_nil und48
theorem eqSl58 (h o n c : Nat) : aeqIn Tryd.prog Op.maxDepth 58 (.sl h o n c) .nilS = some false := eq_sl_nil und58
theorem eqSg58 (h o n c : Nat) : aeqIn Tryd.prog Op.maxDepth 58 (.sg h o n c) .nilS = some false := eq_sg_nil und58
theorem eqSn58 : aeqIn Tryd.prog Op.maxDepth 58 .nilS .nilS = some true := eq_nil_nil und58
theorem eqSl70 (h o n c : Nat) : aeqIn Tryd.prog Op.maxDepth 70 (.sl h o n c) .nilS = some false := eq_sl_nil und70
theorem eqSg70 (h o n c : Nat) : aeqIn Tryd.prog Op.maxDepth 70 (.sg h o n c) .nilS = some false := eq_sg_nil und70
theorem eqSn70 : aeqIn Tryd.prog Op.maxDepth 70 .nilS .nilS = some true := eq_nil_nil und70
theorem eqPn79 (h o : Nat) : aeqIn Tryd.prog Op.maxDepth 79 (.ptr h o) .nilP = some false := eq_ptr_nil und79
theorem eqPP79 : aeqIn Tryd.prog Op.maxDepth 79 .nilP .nilP = some true := eq_nilP_nilP und79
theorem eqPn96 (h o : Nat) : aeqIn Tryd.prog Op.maxDepth 96 (.ptr h o) .nilP = some false := eq_ptr_nil und96
theorem eqPP96 : aeqIn Tryd.prog Op.maxDepth 96 .nilP .nilP = some true := eq_nilP_nilP und96
theorem eqSl105 (h o n c : Nat) : aeqIn Tryd.prog Op.maxDepth 105 (.sl h o n c) .nilS = some false := eq_sl_nil und105
theorem eqSg105 (h o n c : Nat) : aeqIn Tryd.prog Op.maxDepth 105 (.sg h o n c) .nilS = some false := eq_sg_nil und105
theorem eqSn105 : aeqIn Tryd.prog Op.maxDepth 105 .nilS .nilS = some true := eq_nil_nil und105
theorem eqSl120 (h o n c : Nat) : aeqIn Tryd.prog Op.maxDepth 120 (.sl h o n c) .nilS = some false := eq_sl_nil und120
theorem eqSg120 (h o n c : Nat) : aeqIn Tryd.prog Op.maxDepth 120 (.sg h o n c) .nilS = some false := eq_sg_nil und120
theorem eqSn120 : aeqIn Tryd.prog Op.maxDepth 120 .nilS .nilS = some true := eq_nil_nil und120
theorem cv2_34 (H : Hp) (k : IntKind) (n : Int) : aconv Tryd.prog H 2 34 (.int k n) = some (.int .u64 (IntKind.u64.wrap n)) := by simp [aconv, und2, und34]
theorem cv3_84 (H : Hp) (k : IntKind) (n : Int) : aconv Tryd.prog H 3 84 (.int k n) = some (.int .u64 (IntKind.u64.wrap n)) := by simp [aconv, und3, und84]
theorem cv5_3 (H : Hp) (k : IntKind) (n : Int) : aconv Tryd.prog H 5 3 (.int k n) = some (.int .i64 (IntKind.i64.wrap n)) := by simp [aconv, und5, und3]
theorem cv34_5 (H : Hp) (k : IntKind) (n : Int) : aconv Tryd.prog H 34 5 (.int k n) = some (.int .u8 (IntKind.u8.wrap n)) := by simp [aconv, und34, und5]
theorem tyb2 : type_of% (And.intro @und2 (And.intro @agg2 (And.intro @size2 (And.intro @bytes2 (@zero2))))) := And.intro @und2 (And.intro @agg2 (And.intro @size2 (And.intro @bytes2 (@zero2))))
theorem tyb3 : type_of% (And.intro @und3 (And.intro @agg3 (And.intro @size3 (And.intro @bytes3 (@zero3))))) := And.intro @und3 (And.intro @agg3 (And.intro @size3 (And.intro @bytes3 (@zero3))))
theorem tyb4 : type_of% (And.intro @und4 (And.intro @agg4 (And.intro @size4 (And.intro @bytes4 (And.intro @zero4 (@eqB4)))))) := And.intro @und4 (And.intro @agg4 (And.intro @size4 (And.intro @bytes4 (And.intro @zero4 (@eqB4)))))
theorem tyb5 : type_of% (And.intro @und5 (And.intro @agg5 (And.intro @size5 (And.intro @bytes5 (@zero5))))) := And.intro @und5 (And.intro @agg5 (And.intro @size5 (And.intro @bytes5 (@zero5))))
theorem tyb9 : type_of% (And.intro @und9 (And.intro @agg9 (And.intro @size9 (And.intro @bytes9 (@zero9))))) := And.intro @und9 (And.intro @agg9 (And.intro @size9 (And.intro @bytes9 (@zero9))))
theorem tyb20 : type_of% (And.intro @und20 (And.intro @agg20 (And.intro @size20 (And.intro @bytes20 (@zero20))))) := And.intro @und20 (And.intro @agg20 (And.intro @size20 (And.intro @bytes20 (@zero20))))
theorem tyb22 : type_of% (And.intro @und22 (And.intro @agg22 (And.intro @size22 (And.intro @bytes22 (And.intro @zero22 (And.intro @lenS22 (And.intro @lenG22 (And.intro @lenN22 (And.intro @eqSl22 (And.intro @eqSg22 (@eqSn22))))))))))) := And.intro @und22 (And.intro @agg22 (And.intro @size22 (And.intro @bytes22 (And.intro @zero22 (And.intro @lenS22 (And.intro @lenG22 (And.intro @lenN22 (And.intro @eqSl22 (And.intro @eqSg22 (@eqSn22))))))))))
theorem tyb24 : type_of% (And.intro @und24 (And.intro @agg24 (And.intro @size24 (And.intro @bytes24 (And.intro @zero24 (And.intro @fad24_0 (@fad24_1))))))) := And.intro @und24 (And.intro @agg24 (And.intro @size24 (And.intro @bytes24 (And.intro @zero24 (And.intro @fad24_0 (@fad24_1))))))
theorem tyb25 : type_of% (And.intro @und25 (And.intro @agg25 (And.intro @size25 (And.intro @bytes25 (And.intro @zero25 (And.intro @fad25_0 (@fad25_1))))))) := And.intro @und25 (And.intro @agg25 (And.intro @size25 (And.intro @bytes25 (And.intro @zero25 (And.intro @fad25_0 (@fad25_1))))))
theorem tyb27 : type_of% (And.intro @und27 (And.intro @agg27 (And.intro @size27 (And.intro @bytes27 (And.intro @zero27 (And.intro @lenS27 (And.intro @lenG27 (And.intro @lenN27 (And.intro @eqSl27 (And.intro @eqSg27 (@eqSn27))))))))))) := And.intro @und27 (And.intro @agg27 (And.intro @size27 (And.intro @bytes27 (And.intro @zero27 (And.intro @lenS27 (And.intro @lenG27 (And.intro @lenN27 (And.intro @eqSl27 (And.intro @eqSg27 (@eqSn27))))))))))
theorem tyb28 : type_of% (And.intro @und28 (And.intro @agg28 (And.intro @size28 (And.intro @bytes28 (And.intro @zero28 (And.intro @fad28_0 (@fad28_1))))))) := And.intro @und28 (And.intro @agg28 (And.intro @size28 (And.intro @bytes28 (And.intro @zero28 (And.intro @fad28_0 (@fad28_1))))))
theorem tyb29 : type_of% (And.intro @und29 (And.intro @agg29 (And.intro @size29 (And.intro @bytes29 (And.intro @zero29 (And.intro @fad29_0 (@fad29_1))))))) := And.intro @und29 (And.intro @agg29 (And.intro @size29 (And.intro @bytes29 (And.intro @zero29 (And.intro @fad29_0 (@fad29_1))))))
theorem tyb34 : type_of% (And.intro @und34 (And.intro @agg34 (And.intro @size34 (And.intro @bytes34 (@zero34))))) := And.intro @und34 (And.intro @agg34 (And.intro @size34 (And.intro @bytes34 (@zero34))))
theorem tyb35 : type_of% (And.intro @und35 (And.intro @agg35 (And.intro @size35 (And.intro @bytes35 (And.intro @zero35 (And.intro @bld35 (And.intro @sla35 (@eg35)))))))) := And.intro @und35 (And.intro @agg35 (And.intro @size35 (And.intro @bytes35 (And.intro @zero35 (And.intro @bld35 (And.intro @sla35 (@eg35)))))))
theorem tyb36 : type_of% (And.intro @und36 (And.intro @agg36 (And.intro @size36 (And.intro @bytes36 (And.intro @zero36 (And.intro @bld36 (And.intro @sla36 (@eg36)))))))) := And.intro @und36 (And.intro @agg36 (And.intro @size36 (And.intro @bytes36 (And.intro @zero36 (And.intro @bld36 (And.intro @sla36 (@eg36)))))))
theorem tyb37 : type_of% (And.intro @und37 (And.intro @agg37 (And.intro @size37 (And.intro @bytes37 (@zero37))))) := And.intro @und37 (And.intro @agg37 (And.intro @size37 (And.intro @bytes37 (@zero37))))
theorem tyb38 : type_of% (And.intro @und38 (And.intro @agg38 (And.intro @size38 (And.intro @bytes38 (@zero38))))) := And.intro @und38 (And.intro @agg38 (And.intro @size38 (And.intro @bytes38 (@zero38))))
theorem tyb48 : type_of% (And.intro @und48 (And.intro @agg48 (And.intro @size48 (And.intro @bytes48 (And.intro @zero48 (And.intro @lenS48 (And.intro @lenG48 (And.intro @lenN48 (And.intro @eqSl48 (And.intro @eqSg48 (@eqSn48))))))))))) := And.intro @und48 (And.intro @agg48 (And.intro @size48 (And.intro @bytes48 (And.intro @zero48 (And.intro @lenS48 (And.intro @lenG48 (And.intro @lenN48 (And.intro @eqSl48 (And.intro @eqSg48 (@eqSn48))))))))))
theorem tyb57 : type_of% (And.intro @und57 (And.intro @agg57 (And.intro @size57 (And.intro @bytes57 (@zero57))))) := And.intro @und57 (And.intro @agg57 (And.intro @size57 (And.intro @bytes57 (@zero57))))
theorem tyb58 : type_of% (And.intro @und58 (And.intro @agg58 (And.intro @size58 (And.intro @bytes58 (And.intro @zero58 (And.intro @lenS58 (And.intro @lenG58 (And.intro @lenN58 (And.intro @eqSl58 (And.intro @eqSg58 (@eqSn58))))))))))) := And.intro @und58 (And.intro @agg58 (And.intro @size58 (And.intro @bytes58 (And.intro @zero58 (And.intro @lenS58 (And.intro @lenG58 (And.intro @lenN58 (And.intro @eqSl58 (And.intro @eqSg58 (@eqSn58))))))))))
theorem tyb70 : type_of% (And.intro @und70 (And.intro @agg70 (And.intro @size70 (And.intro @bytes70 (And.intro @zero70 (And.intro @lenS70 (And.intro @lenG70 (And.intro @lenN70 (And.intro @eqSl70 (And.intro @eqSg70 (@eqSn70))))))))))) := And.intro @und70 (And.intro @agg70 (And.intro @size70 (And.intro @bytes70 (And.intro @zero70 (And.intro @lenS70 (And.intro @lenG70 (And.intro @lenN70 (And.intro @eqSl70 (And.intro @eqSg70 (@eqSn70))))))))))
theorem tyb79 : type_of% (And.intro @und79 (And.intro @agg79 (And.intro @size79 (And.intro @bytes79 (And.intro @zero79 (And.intro @eqPn79 (@eqPP79))))))) := And.intro @und79 (And.intro @agg79 (And.intro @size79 (And.intro @bytes79 (And.intro @zero79 (And.intro @eqPn79 (@eqPP79))))))
theorem tyb80 : type_of% (And.intro @und80 (And.intro @agg80 (And.intro @size80 (And.intro @bytes80 (And.intro @zero80 (And.intro @fad80_0 (@fad80_1))))))) := And.intro @und80 (And.intro @agg80 (And.intro @size80 (And.intro @bytes80 (And.intro @zero80 (And.intro @fad80_0 (@fad80_1))))))
theorem tyb81 : type_of% (And.intro @und81 (And.intro @agg81 (And.intro @size81 (And.intro @bytes81 (And.intro @zero81 (And.intro @fad81_0 (@fad81_1))))))) := And.intro @und81 (And.intro @agg81 (And.intro @size81 (And.intro @bytes81 (And.intro @zero81 (And.intro @fad81_0 (@fad81_1))))))
theorem tyb84 : type_of% (And.intro @und84 (And.intro @agg84 (And.intro @size84 (And.intro @bytes84 (@zero84))))) := And.intro @und84 (And.intro @agg84 (And.intro @size84 (And.intro @bytes84 (@zero84))))
theorem tyb96 : type_of% (And.intro @und96 (And.intro @agg96 (And.intro @size96 (And.intro @bytes96 (And.intro @zero96 (And.intro @eqPn96 (@eqPP96))))))) := And.intro @und96 (And.intro @agg96 (And.intro @size96 (And.intro @bytes96 (And.intro @zero96 (And.intro @eqPn96 (@eqPP96))))))
theorem tyb102 : type_of% (And.intro @und102 (And.intro @agg102 (And.intro @size102 (And.intro @bytes102 (@zero102))))) := And.intro @und102 (And.intro @agg102 (And.intro @size102 (And.intro @bytes102 (@zero102))))
theorem tyb105 : type_of% (And.intro @und105 (And.intro @agg105 (And.intro @size105 (And.intro @bytes105 (And.intro @zero105 (And.intro @lenS105 (And.intro @lenG105 (And.intro @lenN105 (And.intro @eqSl105 (And.intro @eqSg105 (@eqSn105))))))))))) := And.intro @und105 (And.intro @agg105 (And.intro @size105 (And.intro @bytes105 (And.intro @zero105 (And.intro @lenS105 (And.intro @lenG105 (And.intro @lenN105 (And.intro @eqSl105 (And.intro @eqSg105 (@eqSn105))))))))))
theorem tyb120 : type_of% (And.intro @und120 (And.intro @agg120 (And.intro @size120 (And.intro @bytes120 (And.intro @zero120 (And.intro @lenS120 (And.intro @lenG120 (And.intro @lenN120 (And.intro @eqSl120 (And.intro @eqSg120 (@eqSn120))))))))))) := And.intro @und120 (And.intro @agg120 (And.intro @size120 (And.intro @bytes120 (And.intro @zero120 (And.intro @lenS120 (And.intro @lenG120 (And.intro @lenN120 (And.intro @eqSl120 (And.intro @eqSg120 (@eqSn120))))))))))
theorem tyb122 : type_of% (And.intro @und122 (And.intro @agg122 (And.intro @size122 (And.intro @bytes122 (And.intro @zero122 (And.intro @bld122 (And.intro @sla122 (@eg122)))))))) := And.intro @und122 (And.intro @agg122 (And.intro @size122 (And.intro @bytes122 (And.intro @zero122 (And.intro @bld122 (And.intro @sla122 (@eg122)))))))
end Go.Proofs.YtfalfmfkifemeaaDoor
set_option linter.unusedVariables false
set_option linter.unusedSimpArgs false
namespace Go.Proofs.YtfalfmfkifemeaaDoor
open Go.AL Go.PW
theorem u64_wrap (n : Int) : IntKind.u64.wrap n = n % Bs := by
  have e : ((2 : Int) ^ IntKind.u64.bits) = Bs := by decide
  simp only [IntKind.wrap, IntKind.signed, Bool.false_and, Bool.false_eq_true, if_false, e]
theorem u64_in {n : Int} (h0 : 0 ≤ n) (h1 : n < Bs) : IntKind.u64.wrap n = n := by rw [u64_wrap]; exact Int.emod_eq_of_lt h0 h1
theorem ofInt64 {n : Nat} (h : n < 2 ^ 64) : (BitVec.ofInt IntKind.u64.bits (n : Int)).toNat = n := by
  rw [BitVec.toNat_ofInt]
  have : ((2 : Nat) ^ IntKind.u64.bits) = 18446744073709551616 := by decide
  rw [this]
  omega
theorem nat_lt {x : Int} (hx : 0 ≤ x) (hx' : x < Bs) : ∃ a : Nat, x = a ∧ a < 2 ^ 64 := by
  obtain ⟨a, rfl⟩ := Int.eq_ofNat_of_zero_le hx
  exact ⟨a, rfl, by simp only [Bs] at hx'; omega⟩
theorem wrap_nat {a : Nat} (h : a < 2 ^ 64) : IntKind.u64.wrap (a : Int) = a := u64_in (by omega) (by simp only [Bs]; omega)
theorem xor64 {a b : Nat} (ha : a < 2 ^ 64) (hb : b < 2 ^ 64) : bits .xor .u64 (a : Int) (b : Int) = ((a ^^^ b : Nat) : Int) := by
  have hab := Nat.xor_lt_two_pow ha hb
  unfold bits
  simp only
  rw [BitVec.toNat_xor, ofInt64 ha, ofInt64 hb]
  exact wrap_nat hab
theorem and64 {a b : Nat} (ha : a < 2 ^ 64) (hb : b < 2 ^ 64) : bits .and .u64 (a : Int) (b : Int) = ((a &&& b : Nat) : Int) := by
  have hab : a &&& b < 2 ^ 64 := Nat.lt_of_le_of_lt Nat.and_le_left ha
  unfold bits
  simp only
  rw [BitVec.toNat_and, ofInt64 ha, ofInt64 hb]
  exact wrap_nat hab
theorem or64 {a b : Nat} (ha : a < 2 ^ 64) (hb : b < 2 ^ 64) : bits .or .u64 (a : Int) (b : Int) = ((a ||| b : Nat) : Int) := by
  have hab := Nat.or_lt_two_pow ha hb
  unfold bits
  simp only
  rw [BitVec.toNat_or, ofInt64 ha, ofInt64 hb]
  exact wrap_nat hab
/-- The other bits. -/
theorem not64 {x : Int} (h0 : 0 ≤ x) (h1 : x < Bs) : bits .xor .u64 (if IntKind.u64.signed = true then -1 else IntKind.u64.max) x = Bs - 1 - x := by
  have e : (if IntKind.u64.signed = true then -1 else IntKind.u64.max) = ((2 ^ 64 - 1 : Nat) : Int) := by decide
  obtain ⟨a, rfl, ha⟩ := nat_lt h0 h1
  rw [e, xor64 (by decide) ha]
  have h2 : (2 ^ 64 - 1) ^^^ a = 2 ^ 64 - 1 - a := by
    have h3 : (BitVec.allOnes 64 ^^^ BitVec.ofNat 64 a) = ~~~ (BitVec.ofNat 64 a) := BitVec.allOnes_xor
    have h4 := congrArg BitVec.toNat h3
    rw [BitVec.toNat_xor, BitVec.toNat_not, BitVec.toNat_allOnes, BitVec.toNat_ofNat, Nat.mod_eq_of_lt ha] at h4
    exact h4
  rw [h2]
  simp only [Bs]
  omega
/-- The lower half. -/
theorem low32 {x : Int} (h0 : 0 ≤ x) (h1 : x < Bs) : bits .and .u64 x 4294967295 = x % 4294967296 := by
  obtain ⟨a, rfl, ha⟩ := nat_lt h0 h1
  have h2 := and64 (b := 4294967295) ha (by decide)
  have h3 := Nat.and_two_pow_sub_one_eq_mod a 32
  have e : (2 ^ 32 - 1 : Nat) = 4294967295 := by decide
  rw [e] at h3
  rw [h3] at h2
  exact h2.trans (by omega)
/-- Bits that do not meet. -/
theorem or_add {x y : Int} (k : Nat) (h0 : 0 ≤ x) (h1 : x * 2 ^ k < Bs) (h2 : 0 ≤ y) (h3 : y < 2 ^ k) (h4 : y < Bs) : bits .or .u64 (x * 2 ^ k) y = x * 2 ^ k + y := by
  have hp : (0 : Int) < 2 ^ k := Int.pow_pos (by decide)
  obtain ⟨a, rfl⟩ := Int.eq_ofNat_of_zero_le h0
  obtain ⟨b, rfl⟩ := Int.eq_ofNat_of_zero_le h2
  have e : ((a : Int) * 2 ^ k) = ((a * 2 ^ k : Nat) : Int) := by simp
  have hb : b < 2 ^ k := by
    have : ((b : Int)) < ((2 ^ k : Nat) : Int) := by simpa using h3
    omega
  rw [e] at h1 ⊢
  have h5 : a * 2 ^ k < 2 ^ 64 := by simp only [Bs] at h1; omega
  have h6 : b < 2 ^ 64 := by simp only [Bs] at h4; omega
  rw [or64 h5 h6]
  have h7 := Nat.shiftLeft_add_eq_or_of_lt hb a
  rw [Nat.shiftLeft_eq] at h7
  rw [← h7]
  omega
/-- 2 to 1024, and half of it. -/
def M : Int := Bs ^ 16
def Mh : Int := Bs ^ 15 * 9223372036854775808
theorem M_two : M = 2 * Mh := by decide
theorem M_pow : M = Bs ^ 16 := rfl
theorem M_pos : 0 < M := by decide
theorem Mh_pos : 0 < Mh := by decide
theorem top_iff (x : Int) : ((dig 16 x).getD 15 0 / 9223372036854775808 == 1) = decide (Mh ≤ x % M) := by
  rw [getD_dig 16 x 15 (by decide)]
  have h := emod_two (x := x) (m := Bs ^ 15) (k := Bs) (by decide)
  have e : Bs ^ 15 * Bs = M := by decide
  rw [e] at h
  have h1 := Int.emod_nonneg x (b := Bs ^ 15) (by decide)
  have h2 := Int.emod_lt_of_pos x (b := Bs ^ 15) (by decide)
  have h3 := Int.emod_nonneg (x / Bs ^ 15) (b := Bs) (by decide)
  have h4 := Int.emod_lt_of_pos (x / Bs ^ 15) (b := Bs) (by decide)
  rw [← h]
  have eM : Mh = Bs ^ 15 * 9223372036854775808 := rfl
  rw [eM]
  have hp : (0 : Int) < Bs ^ 15 := by decide
  generalize x / Bs ^ 15 % Bs = t at *
  generalize x % Bs ^ 15 = r at *
  generalize Bs ^ 15 = p at *
  have key : (t / 9223372036854775808 = 1) ↔ (p * 9223372036854775808 ≤ r + p * t) := by
    constructor
    · intro ht
      have : 9223372036854775808 ≤ t := by omega
      have := Int.mul_le_mul_of_nonneg_left this (Int.le_of_lt hp)
      omega
    · intro ht
      rcases Int.lt_or_le t 9223372036854775808 with h5 | h5
      · have : p * (t + 1) ≤ p * 9223372036854775808 := Int.mul_le_mul_of_nonneg_left (by omega) (Int.le_of_lt hp)
        rw [Int.mul_add] at this
        omega
      · simp only [Bs] at h4; omega
  rw [Bool.eq_iff_iff]
  simp only [beq_iff_eq, decide_eq_true_eq]
  exact key
/-- In range: below nought. -/
def In (x : Int) : Prop := -Mh ≤ x ∧ x < Mh
theorem neg_iff {x : Int} (h : In x) : decide (Mh ≤ x % M) = decide (x < 0) := by
  obtain ⟨h1, h2⟩ := h
  have hm := M_two
  have hp := Mh_pos
  rcases Int.lt_or_le x 0 with h0 | h0
  · have : x % M = x + M := by
      rw [← Int.add_emod_right, Int.emod_eq_of_lt (by omega) (by omega)]
    rw [this]
    have h3 : Mh ≤ x + M := by omega
    simp [h0, h3]
  · have : x % M = x := Int.emod_eq_of_lt h0 (by omega)
    rw [this]
    have h3 : ¬ Mh ≤ x := by omega
    have h4 : ¬ x < 0 := by omega
    simp [h3, h4]
theorem dig_M {x y : Int} (h : x % M = y % M) : dig 16 x = dig 16 y := dig_mod 16 x y h
theorem val_M (x : Int) : val (dig 16 x) = x % M := val_dig 16 x
attribute [irreducible] M Mh
end Go.Proofs.YtfalfmfkifemeaaDoor
set_option linter.unusedVariables false
set_option linter.unusedSimpArgs false
namespace Go.Proofs.YtfalfmfkifemeaaDoor
open Go.AL Go.PW
theorem tf59WdA : type_of% (And.intro @tyb34 (And.intro @tyb35 (@tyb36))) := And.intro @tyb34 (And.intro @tyb35 (@tyb36))
theorem tf49WdA : type_of% (And.intro @tyb3 (And.intro @tyb34 (And.intro @tyb35 (@tyb36)))) := And.intro @tyb3 (And.intro @tyb34 (And.intro @tyb35 (@tyb36)))
set_option maxRecDepth 8000
/-- A wide number in two's complement. -/
abbrev W (x : Int) : AV := .agg ((dig 16 x).map (AV.int .u64))
abbrev Wb (x : Int) : Blk := ⟨(dig 16 x).map (AV.int .u64), .own, 36⟩
theorem ext_quiet {f : FuncId} {fn : Func} {e : Array Value → Sem Value} (hf : Tryd.prog.funcs[f]? = some fn) (hname : (fn.name == "runtime.NumGoroutine") = false)
    (hb : fn.body.isNone = true) (hn : Extern.findNext fn = none) (he : Extern.find fn = some e) {args : List AV} {r : AV} {H : Hp} (hr : ∀ n, r.lt n)
    (h : ∀ (β : Nat → Bx) (vs : Array Value) (w : World), VRs β args vs.toList → ∃ v, (e vs).run Tryd.prog w = .ok v w ∧ VR β r v) : AExt Tryd.prog f args H fun r' H' => r' = r ∧ H = H' := by
  intro w0 B β w vs R hv hl
  obtain ⟨v, h1, h2⟩ := h β vs w hv
  refine ⟨v, w, β, r, H, ?_, ⟨rfl, rfl⟩, Agree.refl _ _, Nat.le_refl _, h2, hr _, R⟩
  rw [run_callFunc_extern hf hname hb hn he, h1]
  rfl
theorem three_eq (P : Program) (name : String) (x y c : Nat) (hc : ¬ 1 < c) (w : World) : (Extern.MathBitsCarry.three name ⟨[.int .u64 (x : Int), .int .u64 (y : Int), .int .u64 (c : Int)]⟩).run P w = .ok (x, y, c) w := by
  have h : ∀ a b d : Value, Extern.MathBitsCarry.three name ⟨[a, b, d]⟩ = (do
      let c := (← asInt d).toNat
      if c > 1 then unsupported (.noEntry ("extern/math/bits." ++ name ++ ": a carry that is neither 0 nor 1"))
      pure ((← asInt a).toNat, (← asInt b).toNat, c)) := fun _ _ _ => rfl
  rw [h]
  simp only [asInt, asIntOf, Sem.run_bind, Sem.run_pure, Result.andThen_ok, Int.toNat_natCast]
  rw [if_neg hc]
  simp
theorem add64 (H : Hp) (x y c : Int) (hx : 0 ≤ x) (hy : 0 ≤ y) (hc : 0 ≤ c ∧ c ≤ 1) : AExt Tryd.prog 42 [.int .u64 x, .int .u64 y, .int .u64 c] H fun r H' => r = .tup [.int .u64 ((x + y + c) % Bs), .int .u64 ((x + y + c) / Bs)] ∧ H = H' := by
  refine ext_quiet (e := fun args => do
    let (x, y, c) ← Extern.MathBitsCarry.three "Add64" args
    pure (Extern.MathBitsCarry.pair ((x + y + c) % Extern.MathBitsCarry.m64) ((x + y + c) / Extern.MathBitsCarry.m64))) Tryd.func42 (by kernel_rfl) (by kernel_rfl) (by kernel_rfl) (by kernel_rfl) (fun _ => by simp [AV.lt, AV.lts]) ?_
  intro β vs w hv
  obtain ⟨vs⟩ := vs
  simp only [VRs, VR] at hv
  obtain ⟨_, _, rfl, rfl, _, _, rfl, rfl, _, _, rfl, rfl, rfl⟩ := hv
  obtain ⟨x, rfl⟩ := Int.eq_ofNat_of_zero_le hx
  obtain ⟨y, rfl⟩ := Int.eq_ofNat_of_zero_le hy
  obtain ⟨c, rfl⟩ := Int.eq_ofNat_of_zero_le hc.1
  have hc1 : ¬ 1 < c := by omega
  refine ⟨_, by simp only [Sem.run_bind, three_eq _ _ _ _ _ hc1, Result.andThen_ok, Sem.run_pure]; rfl, ?_⟩
  simp only [Extern.MathBitsCarry.pair, VR, VRs, Extern.MathBitsCarry.m64]
  refine ⟨_, rfl, _, _, rfl, ?_, _, _, rfl, ?_, rfl⟩
  · simp [Bs]
  · simp [Bs]
theorem sub64 (H : Hp) (x y c : Int) (hx : 0 ≤ x) (hy : 0 ≤ y ∧ y < Bs) (hc : 0 ≤ c ∧ c ≤ 1) : AExt Tryd.prog 82 [.int .u64 x, .int .u64 y, .int .u64 c] H fun r H' => r = .tup [.int .u64 ((x - y - c) % Bs), .int .u64 (if x < y + c then 1 else 0)] ∧ H = H' := by
  refine ext_quiet (e := fun args => do
    let (x, y, b) ← Extern.MathBitsCarry.three "Sub64" args
    pure (Extern.MathBitsCarry.pair ((x + Extern.MathBitsCarry.m64 - y - b) % Extern.MathBitsCarry.m64) (if x < y + b then 1 else 0))) Tryd.func82 (by kernel_rfl) (by kernel_rfl) (by kernel_rfl) (by kernel_rfl) (fun _ => by simp [AV.lt, AV.lts]) ?_
  intro β vs w hv
  obtain ⟨vs⟩ := vs
  simp only [VRs, VR] at hv
  obtain ⟨_, _, rfl, rfl, _, _, rfl, rfl, _, _, rfl, rfl, rfl⟩ := hv
  obtain ⟨x, rfl⟩ := Int.eq_ofNat_of_zero_le hx
  obtain ⟨y, rfl⟩ := Int.eq_ofNat_of_zero_le hy.1
  obtain ⟨c, rfl⟩ := Int.eq_ofNat_of_zero_le hc.1
  have hc1 : ¬ 1 < c := by omega
  refine ⟨_, by simp only [Sem.run_bind, three_eq _ _ _ _ _ hc1, Result.andThen_ok, Sem.run_pure]; rfl, ?_⟩
  simp only [Extern.MathBitsCarry.pair, VR, VRs, Extern.MathBitsCarry.m64]
  refine ⟨_, rfl, _, _, rfl, ?_, _, _, rfl, ?_, rfl⟩
  · have hy2 : y < 18446744073709551616 := by have := hy.2; simp only [Bs] at this; omega
    have : ((x + 2 ^ 64 - y - c : Nat) : Int) = (x : Int) - y - c + Bs := by simp only [Bs]; omega
    simp only [Value.int.injEq, true_and, Int.ofNat_eq_natCast, Int.natCast_emod, this]
    simp only [Bs]
    omega
  · by_cases h : x < y + c
    · have : (x : Int) < (y : Int) + c := by omega
      simp [h, this]
    · have : ¬ (x : Int) < (y : Int) + c := by omega
      simp [h, this]
theorem below_calls (x : Int) (H : Hp) : ACalls Tryd.prog 59 [W x] H fun r H' => r = .bool (decide (Mh ≤ x % M)) ∧ H = H' := by
  refine ACalls.drop (R := fun r => r = .bool (decide (Mh ≤ x % M))) ?_
  refine ACalls_body Tryd.func59 rfl (by kernel_rfl) (by kernel_rfl) ?_
  repeat' first
    | (with_reducible first | refine AWp_seq_k (fun K hK => ?_) | refine AWp_ret ?_ | refine AWp_regionE ?_)
    | (simp only [thenA, inBlockA, reduceIte, Nat.reduceEqDiff])
    | ((with_reducible refine hK _ _ ?_); clear hK)
    | (simp only [ACond, RA, EAtS_def, EAtX_def, wantedA, acall, astep, ev, ofValue, ofAtom, Nat.reduceEqDiff, Nat.reduceAdd, Nat.reduceMul, Nat.reduceSub, reduceCtorEq, reduceIte, aoptEv, abin, aint, ashift, aun, astr, aeqGuard, isConstOp, aconvH, aofStr, aconvSame, isU8, abuildSlice, afill, splice, azeros, Nat.reduceLeDiff, Nat.reduceLT, Int.reduceLE, Int.reduceLT, Int.reduceEq, Int.reduceToNat, Int.reducePow, IntKind.bits, Int.reduceNeg, RB, aalloc, Go.PW.dig_length, tf59WdA])
    | (simp (disch := first | omega | (simp only [RO]; done) | assumption) only [RS, idx35, slh35, idx36, slh36])
    | (simp (disch := (first | omega | (simp only [RO]; done) | assumption | (simp only [RM, Go.PW.dig_length]; done) | (simp only [RL, Go.PW.dig_length]; omega))) only [RD, reduceCtorEq, reduceIte, Go.PW.dig_length, Nat.reduceLeDiff, Nat.reduceAdd, Nat.reduceMul, Int.reduceToNat, tf59WdA])
  (
   (refine AEnd_gen (rs := [.tmp 2]) rfl ?_)
   (simp only [AEndR, aresults, Fr.put_some, Fr.put_none, fr0_zero, fr0_succ, fr0_nil, Nat.reduceEqDiff, reduceIte])
   (try simp (disch := (first | omega | (simp only [RO]; done) | assumption | (simp only [RM, Go.PW.dig_length]; done) | (simp only [RL, Go.PW.dig_length]; omega))) only [RD, reduceCtorEq, reduceIte, Go.PW.dig_length, Nat.reduceLeDiff, Nat.reduceAdd, Nat.reduceMul, Int.reduceToNat, tf59WdA]))
  exact ⟨⟨_, rfl⟩, trivial, by rw [top_iff]⟩
theorem ext4 {H : Hp} (a b : Blk) : Ext H (H ++ [a] ++ [b]) := (Ext.push _ _).pushed _
theorem inverse_calls (x : Int) (H : Hp) : ACalls Tryd.prog 49 [W x] H fun r H' => r = W (-x - 1) ∧ H = H' := by
  refine ACalls.drop (R := fun r => r = W (-x - 1)) ?_
  refine ACalls_body Tryd.func49 rfl (by kernel_rfl) (by kernel_rfl) ?_
  repeat' first
    | (with_reducible first | refine AWp_seq_k (fun K hK => ?_) | refine AWp_block ?_ | refine AWp_regionE ?_)
    | (simp only [thenA, inBlockA, reduceIte, Nat.reduceEqDiff])
    | ((with_reducible refine hK _ _ ?_); clear hK)
    | (simp only [ACond, RA, EAtS_def, EAtX_def, wantedA, acall, astep, ev, ofValue, ofAtom, Nat.reduceEqDiff, Nat.reduceAdd, Nat.reduceMul, Nat.reduceSub, reduceCtorEq, reduceIte, aoptEv, abin, aint, ashift, aun, astr, aeqGuard, isConstOp, aconvH, aofStr, aconvSame, isU8, abuildSlice, afill, splice, azeros, Nat.reduceLeDiff, Nat.reduceLT, Int.reduceLE, Int.reduceLT, Int.reduceEq, Int.reduceToNat, Int.reducePow, IntKind.bits, Int.reduceNeg, RB, aalloc, Go.PW.dig_length, tf49WdA])
    | (simp (disch := (first | omega | (simp only [RO]; done) | assumption | (simp only [RM, Go.PW.dig_length]; done) | (simp only [RL, Go.PW.dig_length]; omega))) only [RD, reduceCtorEq, reduceIte, Go.PW.dig_length, Nat.reduceLeDiff, Nat.reduceAdd, Nat.reduceMul, Int.reduceToNat, tf49WdA])
  refine AWp_loop (fun m fr' H' => ∃ (i : Nat) (ys : List Int), m = 16 - i ∧ i ≤ 16 ∧ fr' 1 = .ptr H.length 0 ∧ fr' 2 = .ptr (H.length + 1) 0 ∧ fr' 5 = W x ∧ fr' 6 = .int .i64 (i : Int) ∧ ys.length = 16 ∧ Limbs ys ∧ val (ys.take i) + val ((dig 16 x).take i) = Bs ^ i - 1 ∧ (H ++ [⟨ys.map (AV.int .u64), .own, 36⟩]) ++ [Wb 0] = H') (m := 16)
    ⟨0, dig 16 x, by omega, by omega, rfl, rfl, rfl, rfl, dig_length _ _, dig_limbs _ _, rfl, rfl⟩ ?_
  rintro m fr' H' ⟨i, ys, rfl, hi, k1, k2, k5, k6, hl, hys, hy, rfl⟩
  by_cases hlt : i < 16
  · have hd := (dig_limbs 16 x).get i
    repeat' first
      | (with_reducible first | refine AWp_seq_k (fun K hK => ?_) | refine AWp_block ?_ | refine AWp_skip ?_ | refine AWp_regionE ?_ | refine AWp_condI ?_)
      | (with_reducible refine AIte (fun hc => ?_) (fun hc => ?_) <;> (try simp only [RC] at hc) <;> (try (exfalso; first | omega | contradiction)))
      | (simp only [thenA, inBlockA, reduceIte, Nat.reduceEqDiff])
      | ((with_reducible refine hK _ _ ?_); clear hK)
      | (simp only [ACond, RA, EAtS_def, EAtX_def, wantedA, acall, astep, ev, ofValue, ofAtom, Nat.reduceEqDiff, Nat.reduceAdd, Nat.reduceMul, Nat.reduceSub, reduceCtorEq, reduceIte, aoptEv, abin, aint, ashift, aun, astr, aeqGuard, isConstOp, aconvH, aofStr, aconvSame, isU8, abuildSlice, afill, splice, azeros, Nat.reduceLeDiff, Nat.reduceLT, Int.reduceLE, Int.reduceLT, Int.reduceEq, Int.reduceToNat, Int.reducePow, IntKind.bits, Int.reduceNeg, RB, aalloc, Go.PW.dig_length, tf49WdA, k1, k2, k5, k6, not64 hd.1 hd.2])
      | (simp (disch := first | omega | (simp only [RO]; done) | assumption) only [RS, hl, ix36 (dig_length 16 x), idx35, slh35, idx36, slh36])
      | (simp (disch := (first | omega | (simp only [RO]; done) | assumption | (simp only [RM, Go.PW.dig_length]; done) | (simp only [RL, Go.PW.dig_length]; omega))) only [RD, reduceCtorEq, reduceIte, Go.PW.dig_length, Nat.reduceLeDiff, Nat.reduceAdd, Nat.reduceMul, Int.reduceToNat, tf49WdA, k1, k2, k5, k6, not64 hd.1 hd.2])
    have hv := val_take_succ (dig 16 x) (i := i) (by rw [dig_length]; exact hlt)
    have hv2 := val_take_succ (ys.set i (Bs - 1 - (dig 16 x).getD i 0)) (i := i) (by rw [List.length_set]; omega)
    rw [getD_set _ _ (by omega), if_pos rfl, List.take_set_of_le (Nat.le_refl _)] at hv2
    refine ⟨16 - (i + 1), by omega, i + 1, _, rfl, by omega, by rw [wrap_i64_id (by omega) (by omega)]; rfl, ?_, hys.set i (by omega), ?_, rfl⟩
    · rw [List.length_set]; exact hl
    · rw [hv, hv2, Int.pow_succ]
      have hp := Bs_pow_pos i
      generalize Bs ^ i = p at *
      generalize (dig 16 x).getD i 0 = d at *
      rw [Int.mul_sub, Int.mul_sub]
      omega
  · obtain rfl : i = 16 := by omega
    repeat' first
      | (with_reducible first | refine AWp_seq_k (fun K hK => ?_) | refine AWp_exit ?_ | refine AWp_ret ?_ | refine AWp_regionE ?_ | refine AWp_condI ?_)
      | (simp only [thenA, inBlockA, reduceIte, Nat.reduceEqDiff])
      | ((with_reducible refine hK _ _ ?_); clear hK)
      | (clear hK; (with_reducible refine hK _ _ ?_); clear hK)
      | (simp only [ACond, RA, EAtS_def, EAtX_def, wantedA, acall, astep, ev, ofValue, ofAtom, Nat.reduceEqDiff, Nat.reduceAdd, Nat.reduceMul, Nat.reduceSub, reduceCtorEq, reduceIte, aoptEv, abin, aint, ashift, aun, astr, aeqGuard, isConstOp, aconvH, aofStr, aconvSame, isU8, abuildSlice, afill, splice, azeros, Nat.reduceLeDiff, Nat.reduceLT, Int.reduceLE, Int.reduceLT, Int.reduceEq, Int.reduceToNat, Int.reducePow, IntKind.bits, Int.reduceNeg, RB, aalloc, Go.PW.dig_length, tf49WdA, k1, k2, k5, k6])
      | (simp (disch := (first | omega | (simp only [RO]; done) | assumption | (simp only [RM, Go.PW.dig_length]; done) | (simp only [RL, Go.PW.dig_length]; omega))) only [RD, reduceCtorEq, reduceIte, Go.PW.dig_length, Nat.reduceLeDiff, Nat.reduceAdd, Nat.reduceMul, Int.reduceToNat, tf49WdA, k1, k2, k5, k6])
    (
     (refine AEnd_gen (rs := [.cell 2 36]) rfl ?_)
     (simp only [AEndR, aresults, Fr.put_some, Fr.put_none, fr0_zero, fr0_succ, fr0_nil, Nat.reduceEqDiff, reduceIte, k2])
     (try simp (disch := (first | omega | (simp only [RO]; done) | assumption | (simp only [RM, Go.PW.dig_length]; done) | (simp only [RL, Go.PW.dig_length]; omega))) only [RD, reduceCtorEq, reduceIte, Go.PW.dig_length, Nat.reduceLeDiff, Nat.reduceAdd, Nat.reduceMul, Int.reduceToNat, tf49WdA, k2]))
    refine ⟨ext4 _ _, by simp [AV.lt, AV.lts_iff], ?_⟩
    have e1 : ys.take 16 = ys := List.take_of_length_le (by omega)
    have e2 : (dig 16 x).take 16 = dig 16 x := List.take_of_length_le (by rw [dig_length]; omega)
    rw [e1, e2, val_dig] at hy
    have : ys = dig 16 (-x - 1) := by
      refine dig_of_val hys hl ?_
      have h1 := val_bound hys
      rw [hl] at h1
      have h2 : (-x - 1) % Bs ^ 16 = val ys := by
        have hx := Int.emod_add_mul_ediv x (Bs ^ 16)
        generalize x / Bs ^ 16 = q at *
        generalize x % Bs ^ 16 = r at *
        generalize Bs ^ 16 = p at *
        have : -x - 1 = val ys + p * (-q - 1) := by rw [Int.mul_sub, Int.mul_neg]; omega
        rw [this, Int.add_mul_emod_self_left, Int.emod_eq_of_lt h1.1 h1.2]
      exact h2.symm
    rw [this]
end Go.Proofs.YtfalfmfkifemeaaDoor

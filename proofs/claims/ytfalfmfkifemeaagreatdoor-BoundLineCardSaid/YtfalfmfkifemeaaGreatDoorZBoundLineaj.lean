/- Part 10 of the proof of the law BoundLine of this seat: lemmas on the model's code, on this program's functions, on numbers. No condition. -/
import Derived.Test.YtfalfmfkifemeaaGreatDoorZBoundLineai
import Derived.Laws.Externs
import Derived.Test.YtfalfmfkifemeaaGreatDoorProg
set_option linter.unusedSimpArgs false
namespace Go.Proofs.YtfalfmfkifemeaaGreatDoor
open Go.AL
theorem und2 : Tryz.prog.underlying 2 = some (.int .i64) := by kernel_rfl
theorem agg2 : isAggT Tryz.prog 2 = some false := by kernel_rfl
theorem und3 : Tryz.prog.underlying 3 = some (.int .i64) := by kernel_rfl
theorem agg3 : isAggT Tryz.prog 3 = some false := by kernel_rfl
theorem und4 : Tryz.prog.underlying 4 = some (.bool) := by kernel_rfl
theorem agg4 : isAggT Tryz.prog 4 = some false := by kernel_rfl
theorem und5 : Tryz.prog.underlying 5 = some (.int .u8) := by kernel_rfl
theorem agg5 : isAggT Tryz.prog 5 = some false := by kernel_rfl
theorem und9 : Tryz.prog.underlying 9 = some (.string) := by kernel_rfl
theorem agg9 : isAggT Tryz.prog 9 = some false := by kernel_rfl
theorem und20 : Tryz.prog.underlying 20 = some (.interface #[]) := by kernel_rfl
theorem agg20 : isAggT Tryz.prog 20 = some false := by kernel_rfl
theorem und22 : Tryz.prog.underlying 22 = some (.slice 2) := by kernel_rfl
theorem agg22 : isAggT Tryz.prog 22 = some false := by kernel_rfl
theorem und23 : Tryz.prog.underlying 23 = some (.struct #[{ name := "N", type := 3, offset := 0, embedded := false, tag := "", pkgPath := "", byteOffset := 0 }, { name := "A", type := 22, offset := 1, embedded := false, tag := "", pkgPath := "", byteOffset := 8 }]) := by kernel_rfl
theorem agg23 : isAggT Tryz.prog 23 = some true := by kernel_rfl
theorem und24 : Tryz.prog.underlying 24 = some (.struct #[{ name := "N", type := 3, offset := 0, embedded := false, tag := "", pkgPath := "", byteOffset := 0 }, { name := "A", type := 22, offset := 1, embedded := false, tag := "", pkgPath := "", byteOffset := 8 }]) := by kernel_rfl
theorem agg24 : isAggT Tryz.prog 24 = some true := by kernel_rfl
theorem und25 : Tryz.prog.underlying 25 = some (.int .u16) := by kernel_rfl
theorem agg25 : isAggT Tryz.prog 25 = some false := by kernel_rfl
theorem und26 : Tryz.prog.underlying 26 = some (.slice 76) := by kernel_rfl
theorem agg26 : isAggT Tryz.prog 26 = some false := by kernel_rfl
theorem und31 : Tryz.prog.underlying 31 = some (.int .u64) := by kernel_rfl
theorem agg31 : isAggT Tryz.prog 31 = some false := by kernel_rfl
theorem und32 : Tryz.prog.underlying 32 = some (.array 16 31) := by kernel_rfl
theorem agg32 : isAggT Tryz.prog 32 = some true := by kernel_rfl
theorem und33 : Tryz.prog.underlying 33 = some (.array 16 31) := by kernel_rfl
theorem agg33 : isAggT Tryz.prog 33 = some true := by kernel_rfl
theorem und34 : Tryz.prog.underlying 34 = some (.interface #[("Error", 179)]) := by kernel_rfl
theorem agg34 : isAggT Tryz.prog 34 = some false := by kernel_rfl
theorem und35 : Tryz.prog.underlying 35 = some (.interface #[("Error", 179)]) := by kernel_rfl
theorem agg35 : isAggT Tryz.prog 35 = some false := by kernel_rfl
theorem und38 : Tryz.prog.underlying 38 = some (.slice 33) := by kernel_rfl
theorem agg38 : isAggT Tryz.prog 38 = some false := by kernel_rfl
theorem und44 : Tryz.prog.underlying 44 = some (.slice 31) := by kernel_rfl
theorem agg44 : isAggT Tryz.prog 44 = some false := by kernel_rfl
theorem und45 : Tryz.prog.underlying 45 = some (.struct #[{ name := "Neg", type := 4, offset := 0, embedded := false, tag := "", pkgPath := "", byteOffset := 0 }, { name := "M", type := 44, offset := 1, embedded := false, tag := "", pkgPath := "", byteOffset := 8 }]) := by kernel_rfl
theorem agg45 : isAggT Tryz.prog 45 = some true := by kernel_rfl
theorem und46 : Tryz.prog.underlying 46 = some (.struct #[{ name := "Neg", type := 4, offset := 0, embedded := false, tag := "", pkgPath := "", byteOffset := 0 }, { name := "M", type := 44, offset := 1, embedded := false, tag := "", pkgPath := "", byteOffset := 8 }]) := by kernel_rfl
theorem agg46 : isAggT Tryz.prog 46 = some true := by kernel_rfl
theorem und58 : Tryz.prog.underlying 58 = some (.slice 3) := by kernel_rfl
theorem agg58 : isAggT Tryz.prog 58 = some false := by kernel_rfl
theorem und76 : Tryz.prog.underlying 76 = some (.int .i16) := by kernel_rfl
theorem agg76 : isAggT Tryz.prog 76 = some false := by kernel_rfl
theorem und78 : Tryz.prog.underlying 78 = some (.int .i64) := by kernel_rfl
theorem agg78 : isAggT Tryz.prog 78 = some false := by kernel_rfl
theorem und79 : Tryz.prog.underlying 79 = some (.slice 38) := by kernel_rfl
theorem agg79 : isAggT Tryz.prog 79 = some false := by kernel_rfl
theorem und87 : Tryz.prog.underlying 87 = some (.slice 9) := by kernel_rfl
theorem agg87 : isAggT Tryz.prog 87 = some false := by kernel_rfl
theorem und110 : Tryz.prog.underlying 110 = some (.pointer 112) := by kernel_rfl
theorem agg110 : isAggT Tryz.prog 110 = some false := by kernel_rfl
theorem und111 : Tryz.prog.underlying 111 = some (.struct #[{ name := "Op", type := 9, offset := 0, embedded := false, tag := "", pkgPath := "", byteOffset := 0 }, { name := "Err", type := 35, offset := 1, embedded := false, tag := "", pkgPath := "", byteOffset := 16 }]) := by kernel_rfl
theorem agg111 : isAggT Tryz.prog 111 = some true := by kernel_rfl
theorem und112 : Tryz.prog.underlying 112 = some (.struct #[{ name := "Op", type := 9, offset := 0, embedded := false, tag := "", pkgPath := "", byteOffset := 0 }, { name := "Err", type := 35, offset := 1, embedded := false, tag := "", pkgPath := "", byteOffset := 16 }]) := by kernel_rfl
theorem agg112 : isAggT Tryz.prog 112 = some true := by kernel_rfl
theorem und115 : Tryz.prog.underlying 115 = some (.int .u64) := by kernel_rfl
theorem agg115 : isAggT Tryz.prog 115 = some false := by kernel_rfl
theorem und123 : Tryz.prog.underlying 123 = some (.pointer 78) := by kernel_rfl
theorem agg123 : isAggT Tryz.prog 123 = some false := by kernel_rfl
theorem und138 : Tryz.prog.underlying 138 = some (.interface #[("Unwrap", 142)]) := by kernel_rfl
theorem agg138 : isAggT Tryz.prog 138 = some false := by kernel_rfl
theorem und141 : Tryz.prog.underlying 141 = some (.slice 35) := by kernel_rfl
theorem agg141 : isAggT Tryz.prog 141 = some false := by kernel_rfl
theorem und160 : Tryz.prog.underlying 160 = some (.array 17 31) := by kernel_rfl
theorem agg160 : isAggT Tryz.prog 160 = some true := by kernel_rfl
theorem size2 : sizeT Tryz.prog 2 = some 1 := by kernel_rfl
theorem bytes2 : bytesT Tryz.prog 2 = some 8 := by kernel_rfl
theorem zero2 : zeroT Tryz.prog 2 = some (.int .i64 0) := by kernel_rfl
theorem size3 : sizeT Tryz.prog 3 = some 1 := by kernel_rfl
theorem bytes3 : bytesT Tryz.prog 3 = some 8 := by kernel_rfl
theorem zero3 : zeroT Tryz.prog 3 = some (.int .i64 0) := by kernel_rfl
theorem size4 : sizeT Tryz.prog 4 = some 1 := by kernel_rfl
theorem bytes4 : bytesT Tryz.prog 4 = some 1 := by kernel_rfl
theorem zero4 : zeroT Tryz.prog 4 = some (.bool false) := by kernel_rfl
theorem size5 : sizeT Tryz.prog 5 = some 1 := by kernel_rfl
theorem bytes5 : bytesT Tryz.prog 5 = some 1 := by kernel_rfl
theorem zero5 : zeroT Tryz.prog 5 = some (.int .u8 0) := by kernel_rfl
theorem size9 : sizeT Tryz.prog 9 = some 1 := by kernel_rfl
theorem bytes9 : bytesT Tryz.prog 9 = some 16 := by kernel_rfl
theorem zero9 : zeroT Tryz.prog 9 = some (.str .empty) := by kernel_rfl
theorem size20 : sizeT Tryz.prog 20 = some 1 := by kernel_rfl
theorem bytes20 : bytesT Tryz.prog 20 = some 16 := by kernel_rfl
theorem zero20 : zeroT Tryz.prog 20 = some (.nilI) := by kernel_rfl
theorem size22 : sizeT Tryz.prog 22 = some 1 := by kernel_rfl
theorem bytes22 : bytesT Tryz.prog 22 = some 24 := by kernel_rfl
theorem zero22 : zeroT Tryz.prog 22 = some (.nilS) := by kernel_rfl
theorem size23 : sizeT Tryz.prog 23 = some 2 := by kernel_rfl
theorem bytes23 : bytesT Tryz.prog 23 = some 32 := by kernel_rfl
theorem zero23 : zeroT Tryz.prog 23 = some (.agg [.int .i64 0, .nilS]) := by kernel_rfl
theorem size24 : sizeT Tryz.prog 24 = some 2 := by kernel_rfl
theorem bytes24 : bytesT Tryz.prog 24 = some 32 := by kernel_rfl
theorem zero24 : zeroT Tryz.prog 24 = some (.agg [.int .i64 0, .nilS]) := by kernel_rfl
theorem size25 : sizeT Tryz.prog 25 = some 1 := by kernel_rfl
theorem bytes25 : bytesT Tryz.prog 25 = some 2 := by kernel_rfl
theorem zero25 : zeroT Tryz.prog 25 = some (.int .u16 0) := by kernel_rfl
theorem size26 : sizeT Tryz.prog 26 = some 1 := by kernel_rfl
theorem bytes26 : bytesT Tryz.prog 26 = some 24 := by kernel_rfl
theorem zero26 : zeroT Tryz.prog 26 = some (.nilS) := by kernel_rfl
theorem size31 : sizeT Tryz.prog 31 = some 1 := by kernel_rfl
theorem bytes31 : bytesT Tryz.prog 31 = some 8 := by kernel_rfl
theorem zero31 : zeroT Tryz.prog 31 = some (.int .u64 0) := by kernel_rfl
theorem size32 : sizeT Tryz.prog 32 = some 16 := by kernel_rfl
theorem bytes32 : bytesT Tryz.prog 32 = some 128 := by kernel_rfl
theorem zero32 : zeroT Tryz.prog 32 = some (.agg ((Go.PW.dig 16 0).map (AV.int .u64))) := by kernel_rfl
theorem bld32 : abuild Tryz.prog 32 [] = some (.agg ((Go.PW.dig 16 0).map (AV.int .u64))) := by kernel_rfl
theorem size33 : sizeT Tryz.prog 33 = some 16 := by kernel_rfl
theorem bytes33 : bytesT Tryz.prog 33 = some 128 := by kernel_rfl
theorem zero33 : zeroT Tryz.prog 33 = some (.agg ((Go.PW.dig 16 0).map (AV.int .u64))) := by kernel_rfl
theorem bld33 : abuild Tryz.prog 33 [] = some (.agg ((Go.PW.dig 16 0).map (AV.int .u64))) := by kernel_rfl
theorem size34 : sizeT Tryz.prog 34 = some 1 := by kernel_rfl
theorem bytes34 : bytesT Tryz.prog 34 = some 16 := by kernel_rfl
theorem zero34 : zeroT Tryz.prog 34 = some (.nilI) := by kernel_rfl
theorem size35 : sizeT Tryz.prog 35 = some 1 := by kernel_rfl
theorem bytes35 : bytesT Tryz.prog 35 = some 16 := by kernel_rfl
theorem zero35 : zeroT Tryz.prog 35 = some (.nilI) := by kernel_rfl
theorem size38 : sizeT Tryz.prog 38 = some 1 := by kernel_rfl
theorem bytes38 : bytesT Tryz.prog 38 = some 24 := by kernel_rfl
theorem zero38 : zeroT Tryz.prog 38 = some (.nilS) := by kernel_rfl
theorem size44 : sizeT Tryz.prog 44 = some 1 := by kernel_rfl
theorem bytes44 : bytesT Tryz.prog 44 = some 24 := by kernel_rfl
theorem zero44 : zeroT Tryz.prog 44 = some (.nilS) := by kernel_rfl
theorem size45 : sizeT Tryz.prog 45 = some 2 := by kernel_rfl
theorem bytes45 : bytesT Tryz.prog 45 = some 32 := by kernel_rfl
theorem zero45 : zeroT Tryz.prog 45 = some (.agg [.bool false, .nilS]) := by kernel_rfl
theorem size46 : sizeT Tryz.prog 46 = some 2 := by kernel_rfl
theorem bytes46 : bytesT Tryz.prog 46 = some 32 := by kernel_rfl
theorem zero46 : zeroT Tryz.prog 46 = some (.agg [.bool false, .nilS]) := by kernel_rfl
theorem size58 : sizeT Tryz.prog 58 = some 1 := by kernel_rfl
theorem bytes58 : bytesT Tryz.prog 58 = some 24 := by kernel_rfl
theorem zero58 : zeroT Tryz.prog 58 = some (.nilS) := by kernel_rfl
theorem size76 : sizeT Tryz.prog 76 = some 1 := by kernel_rfl
theorem bytes76 : bytesT Tryz.prog 76 = some 2 := by kernel_rfl
theorem zero76 : zeroT Tryz.prog 76 = some (.int .i16 0) := by kernel_rfl
theorem size78 : sizeT Tryz.prog 78 = some 1 := by kernel_rfl
theorem bytes78 : bytesT Tryz.prog 78 = some 8 := by kernel_rfl
theorem zero78 : zeroT Tryz.prog 78 = some (.int .i64 0) := by kernel_rfl
theorem size79 : sizeT Tryz.prog 79 = some 1 := by kernel_rfl
theorem bytes79 : bytesT Tryz.prog 79 = some 24 := by kernel_rfl
theorem zero79 : zeroT Tryz.prog 79 = some (.nilS) := by kernel_rfl
theorem size87 : sizeT Tryz.prog 87 = some 1 := by kernel_rfl
theorem bytes87 : bytesT Tryz.prog 87 = some 24 := by kernel_rfl
theorem zero87 : zeroT Tryz.prog 87 = some (.nilS) := by kernel_rfl
theorem size110 : sizeT Tryz.prog 110 = some 1 := by kernel_rfl
theorem bytes110 : bytesT Tryz.prog 110 = some 8 := by kernel_rfl
theorem zero110 : zeroT Tryz.prog 110 = some (.nilP) := by kernel_rfl
theorem size111 : sizeT Tryz.prog 111 = some 2 := by kernel_rfl
theorem bytes111 : bytesT Tryz.prog 111 = some 32 := by kernel_rfl
theorem zero111 : zeroT Tryz.prog 111 = some (.agg [.str .empty, .nilI]) := by kernel_rfl
theorem size112 : sizeT Tryz.prog 112 = some 2 := by kernel_rfl
theorem bytes112 : bytesT Tryz.prog 112 = some 32 := by kernel_rfl
theorem zero112 : zeroT Tryz.prog 112 = some (.agg [.str .empty, .nilI]) := by kernel_rfl
theorem size115 : sizeT Tryz.prog 115 = some 1 := by kernel_rfl
theorem bytes115 : bytesT Tryz.prog 115 = some 8 := by kernel_rfl
theorem zero115 : zeroT Tryz.prog 115 = some (.int .u64 0) := by kernel_rfl
theorem size123 : sizeT Tryz.prog 123 = some 1 := by kernel_rfl
theorem bytes123 : bytesT Tryz.prog 123 = some 8 := by kernel_rfl
theorem zero123 : zeroT Tryz.prog 123 = some (.nilP) := by kernel_rfl
theorem size138 : sizeT Tryz.prog 138 = some 1 := by kernel_rfl
theorem bytes138 : bytesT Tryz.prog 138 = some 16 := by kernel_rfl
theorem zero138 : zeroT Tryz.prog 138 = some (.nilI) := by kernel_rfl
theorem size141 : sizeT Tryz.prog 141 = some 1 := by kernel_rfl
theorem bytes141 : bytesT Tryz.prog 141 = some 24 := by kernel_rfl
theorem zero141 : zeroT Tryz.prog 141 = some (.nilS) := by kernel_rfl
theorem size160 : sizeT Tryz.prog 160 = some 17 := by kernel_rfl
theorem bytes160 : bytesT Tryz.prog 160 = some 136 := by kernel_rfl
theorem zero160 : zeroT Tryz.prog 160 = some (.agg ((Go.PW.dig 17 0).map (AV.int .u64))) := by kernel_rfl
theorem bld160 : abuild Tryz.prog 160 [] = some (.agg ((Go.PW.dig 17 0).map (AV.int .u64))) := by kernel_rfl
theorem lenS22 (h o n c : Nat) : abuiltin Tryz.prog .len #[22] [.sl h o n c] = some (.int .i64 n) := by simp [abuiltin, und22]
theorem lenG22 (h o n z : Nat) : abuiltin Tryz.prog .len #[22] [.sg h o n z] = some (.int .i64 n) := by simp [abuiltin, und22]
theorem lenN22 : abuiltin Tryz.prog .len #[22] [.nilS] = some (.int .i64 0) := by simp [abuiltin, und22]
theorem lenS26 (h o n c : Nat) : abuiltin Tryz.prog .len #[26] [.sl h o n c] = some (.int .i64 n) := by simp [abuiltin, und26]
theorem lenG26 (h o n z : Nat) : abuiltin Tryz.prog .len #[26] [.sg h o n z] = some (.int .i64 n) := by simp [abuiltin, und26]
theorem lenN26 : abuiltin Tryz.prog .len #[26] [.nilS] = some (.int .i64 0) := by simp [abuiltin, und26]
theorem lenS38 (h o n c : Nat) : abuiltin Tryz.prog .len #[38] [.sl h o n c] = some (.int .i64 n) := by simp [abuiltin, und38]
theorem lenG38 (h o n z : Nat) : abuiltin Tryz.prog .len #[38] [.sg h o n z] = some (.int .i64 n) := by simp [abuiltin, und38]
theorem lenN38 : abuiltin Tryz.prog .len #[38] [.nilS] = some (.int .i64 0) := by simp [abuiltin, und38]
theorem lenS44 (h o n c : Nat) : abuiltin Tryz.prog .len #[44] [.sl h o n c] = some (.int .i64 n) := by simp [abuiltin, und44]
theorem lenG44 (h o n z : Nat) : abuiltin Tryz.prog .len #[44] [.sg h o n z] = some (.int .i64 n) := by simp [abuiltin, und44]
theorem lenN44 : abuiltin Tryz.prog .len #[44] [.nilS] = some (.int .i64 0) := by simp [abuiltin, und44]
theorem lenS58 (h o n c : Nat) : abuiltin Tryz.prog .len #[58] [.sl h o n c] = some (.int .i64 n) := by simp [abuiltin, und58]
theorem lenG58 (h o n z : Nat) : abuiltin Tryz.prog .len #[58] [.sg h o n z] = some (.int .i64 n) := by simp [abuiltin, und58]
theorem lenN58 : abuiltin Tryz.prog .len #[58] [.nilS] = some (.int .i64 0) := by simp [abuiltin, und58]
theorem lenS79 (h o n c : Nat) : abuiltin Tryz.prog .len #[79] [.sl h o n c] = some (.int .i64 n) := by simp [abuiltin, und79]
theorem lenG79 (h o n z : Nat) : abuiltin Tryz.prog .len #[79] [.sg h o n z] = some (.int .i64 n) := by simp [abuiltin, und79]
theorem lenN79 : abuiltin Tryz.prog .len #[79] [.nilS] = some (.int .i64 0) := by simp [abuiltin, und79]
theorem lenS87 (h o n c : Nat) : abuiltin Tryz.prog .len #[87] [.sl h o n c] = some (.int .i64 n) := by simp [abuiltin, und87]
theorem lenG87 (h o n z : Nat) : abuiltin Tryz.prog .len #[87] [.sg h o n z] = some (.int .i64 n) := by simp [abuiltin, und87]
theorem lenN87 : abuiltin Tryz.prog .len #[87] [.nilS] = some (.int .i64 0) := by simp [abuiltin, und87]
theorem lenS141 (h o n c : Nat) : abuiltin Tryz.prog .len #[141] [.sl h o n c] = some (.int .i64 n) := by simp [abuiltin, und141]
theorem lenG141 (h o n z : Nat) : abuiltin Tryz.prog .len #[141] [.sg h o n z] = some (.int .i64 n) := by simp [abuiltin, und141]
theorem lenN141 : abuiltin Tryz.prog .len #[141] [.nilS] = some (.int .i64 0) := by simp [abuiltin, und141]
theorem six22 {h o n c : Nat} {l : IntKind} {j : Int} (h0 : 0 ≤ j) (h1 : j < (n : Int)) : aindexAddr Tryz.prog 22 (.sl h o n c) (.int l j) = some (.ptr h (o + j.toNat)) := at_sl1 und22 size2 h0 h1
theorem gix22 {h o n : Nat} {l : IntKind} {j : Int} (h0 : 0 ≤ j) (h1 : j < (n : Int)) : aindexAddr Tryz.prog 22 (.sg h o n 1) (.int l j) = some (.ptr h (o + j.toNat)) := at_sg1 und22 size2 h0 h1
theorem six26 {h o n c : Nat} {l : IntKind} {j : Int} (h0 : 0 ≤ j) (h1 : j < (n : Int)) : aindexAddr Tryz.prog 26 (.sl h o n c) (.int l j) = some (.ptr h (o + j.toNat)) := at_sl1 und26 size76 h0 h1
theorem gix26 {h o n : Nat} {l : IntKind} {j : Int} (h0 : 0 ≤ j) (h1 : j < (n : Int)) : aindexAddr Tryz.prog 26 (.sg h o n 1) (.int l j) = some (.ptr h (o + j.toNat)) := at_sg1 und26 size76 h0 h1
theorem six38 {h o n c : Nat} {l : IntKind} {j : Int} (h0 : 0 ≤ j) (h1 : j < (n : Int)) : aindexAddr Tryz.prog 38 (.sl h o n c) (.int l j) = some (.ptr h (o + j.toNat * 16)) := at_sl und38 size33 h0 h1
theorem gix38 {h o n : Nat} {l : IntKind} {j : Int} (h0 : 0 ≤ j) (h1 : j < (n : Int)) : aindexAddr Tryz.prog 38 (.sg h o n 16) (.int l j) = some (.ptr h (o + j.toNat * 16)) := at_sg und38 size33 h0 h1
theorem six44 {h o n c : Nat} {l : IntKind} {j : Int} (h0 : 0 ≤ j) (h1 : j < (n : Int)) : aindexAddr Tryz.prog 44 (.sl h o n c) (.int l j) = some (.ptr h (o + j.toNat)) := at_sl1 und44 size31 h0 h1
theorem gix44 {h o n : Nat} {l : IntKind} {j : Int} (h0 : 0 ≤ j) (h1 : j < (n : Int)) : aindexAddr Tryz.prog 44 (.sg h o n 1) (.int l j) = some (.ptr h (o + j.toNat)) := at_sg1 und44 size31 h0 h1
theorem six58 {h o n c : Nat} {l : IntKind} {j : Int} (h0 : 0 ≤ j) (h1 : j < (n : Int)) : aindexAddr Tryz.prog 58 (.sl h o n c) (.int l j) = some (.ptr h (o + j.toNat)) := at_sl1 und58 size3 h0 h1
theorem gix58 {h o n : Nat} {l : IntKind} {j : Int} (h0 : 0 ≤ j) (h1 : j < (n : Int)) : aindexAddr Tryz.prog 58 (.sg h o n 1) (.int l j) = some (.ptr h (o + j.toNat)) := at_sg1 und58 size3 h0 h1
theorem six79 {h o n c : Nat} {l : IntKind} {j : Int} (h0 : 0 ≤ j) (h1 : j < (n : Int)) : aindexAddr Tryz.prog 79 (.sl h o n c) (.int l j) = some (.ptr h (o + j.toNat)) := at_sl1 und79 size38 h0 h1
theorem gix79 {h o n : Nat} {l : IntKind} {j : Int} (h0 : 0 ≤ j) (h1 : j < (n : Int)) : aindexAddr Tryz.prog 79 (.sg h o n 1) (.int l j) = some (.ptr h (o + j.toNat)) := at_sg1 und79 size38 h0 h1
theorem six87 {h o n c : Nat} {l : IntKind} {j : Int} (h0 : 0 ≤ j) (h1 : j < (n : Int)) : aindexAddr Tryz.prog 87 (.sl h o n c) (.int l j) = some (.ptr h (o + j.toNat)) := at_sl1 und87 size9 h0 h1
theorem gix87 {h o n : Nat} {l : IntKind} {j : Int} (h0 : 0 ≤ j) (h1 : j < (n : Int)) : aindexAddr Tryz.prog 87 (.sg h o n 1) (.int l j) = some (.ptr h (o + j.toNat)) := at_sg1 und87 size9 h0 h1
theorem idx32 {h o : Nat} {l : IntKind} {j : Int} (h0 : 0 ≤ j) (h1 : j < 16) : aindexAddr Tryz.prog 32 (.ptr h o) (.int l j) = some (.ptr h (o + j.toNat * 1)) := addr_array und32 size31 h0 h1
theorem sla32 {h o : Nat} : aslice Tryz.prog 32 (.ptr h o) none none none = some (.sl h o 16 16) := slice_array und32 size31
theorem slh32 {h o : Nat} {l : IntKind} {q : Int} (h0 : 0 ≤ q) (h1 : q ≤ 16) : aslice Tryz.prog 32 (.ptr h o) none (some (.int l q)) none = some (.sl h o q.toNat 16) := slice_array_hi und32 size31 h0 h1
theorem idx33 {h o : Nat} {l : IntKind} {j : Int} (h0 : 0 ≤ j) (h1 : j < 16) : aindexAddr Tryz.prog 33 (.ptr h o) (.int l j) = some (.ptr h (o + j.toNat * 1)) := addr_array und33 size31 h0 h1
theorem sla33 {h o : Nat} : aslice Tryz.prog 33 (.ptr h o) none none none = some (.sl h o 16 16) := slice_array und33 size31
theorem slh33 {h o : Nat} {l : IntKind} {q : Int} (h0 : 0 ≤ q) (h1 : q ≤ 16) : aslice Tryz.prog 33 (.ptr h o) none (some (.int l q)) none = some (.sl h o q.toNat 16) := slice_array_hi und33 size31 h0 h1
theorem ix33 {l k : IntKind} {xs : List Int} {j : Int} (hn : xs.length = 16) (h0 : 0 ≤ j) (h1 : j < 16) : aindex Tryz.prog 33 (.agg (xs.map (AV.int k))) (.int l j) = some (.int k (xs.getD j.toNat 0)) := index_ints und33 size31 agg31 hn h0 h1
theorem idx160 {h o : Nat} {l : IntKind} {j : Int} (h0 : 0 ≤ j) (h1 : j < 17) : aindexAddr Tryz.prog 160 (.ptr h o) (.int l j) = some (.ptr h (o + j.toNat * 1)) := addr_array und160 size31 h0 h1
theorem sla160 {h o : Nat} : aslice Tryz.prog 160 (.ptr h o) none none none = some (.sl h o 17 17) := slice_array und160 size31
theorem slh160 {h o : Nat} {l : IntKind} {q : Int} (h0 : 0 ≤ q) (h1 : q ≤ 17) : aslice Tryz.prog 160 (.ptr h o) none (some (.int l q)) none = some (.sl h o q.toNat 17) := slice_array_hi und160 size31 h0 h1
theorem fad23_0 {h o : Nat} : afieldAddr Tryz.prog 23 (.ptr h o) 0 = some (.ptr h (o)) := by simp [afieldAddr, und23, size3]
theorem fad23_1 {h o : Nat} : afieldAddr Tryz.prog 23 (.ptr h o) 1 = some (.ptr h (o + 1)) := by simp [afieldAddr, und23, size22]
theorem fad24_0 {h o : Nat} : afieldAddr Tryz.prog 24 (.ptr h o) 0 = some (.ptr h (o)) := by simp [afieldAddr, und24, size3]
theorem fad24_1 {h o : Nat} : afieldAddr Tryz.prog 24 (.ptr h o) 1 = some (.ptr h (o + 1)) := by simp [afieldAddr, und24, size22]
theorem fad45_0 {h o : Nat} : afieldAddr Tryz.prog 45 (.ptr h o) 0 = some (.ptr h (o)) := by simp [afieldAddr, und45, size4]
theorem fad45_1 {h o : Nat} : afieldAddr Tryz.prog 45 (.ptr h o) 1 = some (.ptr h (o + 1)) := by simp [afieldAddr, und45, size44]
theorem fad46_0 {h o : Nat} : afieldAddr Tryz.prog 46 (.ptr h o) 0 = some (.ptr h (o)) := by simp [afieldAddr, und46, size4]
theorem fad46_1 {h o : Nat} : afieldAddr Tryz.prog 46 (.ptr h o) 1 = some (.ptr h (o + 1)) := by simp [afieldAddr, und46, size44]
theorem fad111_0 {h o : Nat} : afieldAddr Tryz.prog 111 (.ptr h o) 0 = some (.ptr h (o)) := by simp [afieldAddr, und111, size9]
theorem fad111_1 {h o : Nat} : afieldAddr Tryz.prog 111 (.ptr h o) 1 = some (.ptr h (o + 1)) := by simp [afieldAddr, und111, size35]
theorem fad112_0 {h o : Nat} : afieldAddr Tryz.prog 112 (.ptr h o) 0 = some (.ptr h (o)) := by simp [afieldAddr, und112, size9]
theorem fad112_1 {h o : Nat} : afieldAddr Tryz.prog 112 (.ptr h o) 1 = some (.ptr h (o + 1)) := by simp [afieldAddr, und112, size35]
theorem bst24_e : abuild Tryz.prog 24 [] = some (.agg [(.int .i64 0), (.nilS)]) := by
  simp [abuild, zero24, aplace, und24, size3, size22, afill, splice, AV.cells_agg]
theorem bst24_0 {x0 : AV} (h0 : x0.one = true) : abuild Tryz.prog 24 [(0, x0)] = some (.agg [x0, (.nilS)]) := by
  simp [abuild, zero24, aplace, und24, size3, size22, afill, splice, AV.solid_one h0, AV.cells_one h0, AV.cells_agg]
theorem bst24_01 {x0 x1 : AV} (h0 : x0.one = true) (h1 : x1.one = true) : abuild Tryz.prog 24 [(0, x0), (1, x1)] = some (.agg [x0, x1]) := by
  simp [abuild, zero24, aplace, und24, size3, size22, afill, splice, AV.solid_one h0, AV.cells_one h0, AV.solid_one h1, AV.cells_one h1, AV.cells_agg]
theorem bst46_e : abuild Tryz.prog 46 [] = some (.agg [(.bool false), (.nilS)]) := by
  simp [abuild, zero46, aplace, und46, size4, size44, afill, splice, AV.cells_agg]
theorem bst46_01 {x0 x1 : AV} (h0 : x0.one = true) (h1 : x1.one = true) : abuild Tryz.prog 46 [(0, x0), (1, x1)] = some (.agg [x0, x1]) := by
  simp [abuild, zero46, aplace, und46, size4, size44, afill, splice, AV.solid_one h0, AV.cells_one h0, AV.solid_one h1, AV.cells_one h1, AV.cells_agg]
theorem eg32 : Tryz.prog.eqGuardType Tryz.prog.depth 32 = false := by kernel_rfl
theorem eg33 : Tryz.prog.eqGuardType Tryz.prog.depth 33 = false := by kernel_rfl
theorem eg160 : Tryz.prog.eqGuardType Tryz.prog.depth 160 = false := by kernel_rfl
theorem eqB4 (a b : Bool) : aeqIn Tryz.prog Op.maxDepth 4 (.bool a) (.bool b) = some (a == b) := eq_bools und4
theorem eqSl22 (h o n c : Nat) : aeqIn Tryz.prog Op.maxDepth 22 (.sl h o n c) .nilS = some false := eq_sl_nil und22
theorem eqSg22 (h o n c : Nat) : aeqIn Tryz.prog Op.maxDepth 22 (.sg h o n c) .nilS = some false := eq_sg_nil und22
theorem eqSn22 : aeqIn Tryz.prog Op.maxDepth 22 .nilS .nilS = some true := eq_nil_nil und22
theorem eqSl26 (h o n c : Nat) : aeqIn Tryz.prog Op.maxDepth 26 (.sl h o n c) .nilS = some false := eq_sl_nil und26
theorem eqSg26 (h o n c : Nat) : aeqIn Tryz.prog Op.maxDepth 26 (.sg h o n c) .nilS = some false := eq_sg_nil und26
theorem eqSn26 : aeqIn Tryz.prog Op.maxDepth 26 .nilS .nilS = some true := eq_nil_nil und26
theorem eqSl38 (h o n c : Nat) : aeqIn Tryz.prog Op.maxDepth 38 (.sl h o n c) .nilS = some false := eq_sl_nil und38
theorem eqSg38 (h o n c : Nat) : aeqIn Tryz.prog Op.maxDepth 38 (.sg h o n c) .nilS = some false := eq_sg_nil und38
theorem eqSn38 : aeqIn Tryz.prog Op.maxDepth 38 .nilS .nilS = some true := eq_nil_nil und38
theorem eqSl44 (h o n c : Nat) : aeqIn Tryz.prog Op.maxDepth 44 (.sl h o n c) .nilS = some false := eq_sl_nil und44
theorem eqSg44 (h o n c : Nat) : aeqIn Tryz.prog Op.maxDepth 44 (.sg h o n c) .nilS = some false := eq_sg_nil und44
theorem eqSn44 : aeqIn Tryz.prog Op.maxDepth 44 .nilS .nilS = some true := eq_nil_nil und44
theorem eqSl58 (h o n c : Nat) : aeqIn Tryz.prog Op.maxDepth 58 (.sl h o n c) .nilS = some false := eq_sl_nil und58
theorem eqSg58 (h o n c : Nat) : aeqIn Tryz.prog Op.maxDepth 58 (.sg h o n c) .nilS = some false := eq_sg_nil und58
theorem eqSn58 : aeqIn Tryz.prog Op.maxDepth 58 .nilS .nilS = some true := eq_nil_nil und58
theorem eqSl79 (h o n c : Nat) : aeqIn Tryz.prog Op.maxDepth 79 (.sl h o n c) .nilS = some false := eq_sl_nil und79
theorem eqSg79 (h o n c : Nat) : aeqIn Tryz.prog Op.maxDepth 79 (.sg h o n c) .nilS = some false := eq_sg_nil und79
theorem eqSn79 : aeqIn Tryz.prog Op.maxDepth 79 .nilS .nilS = some true := eq_nil_nil und79
theorem eqSl87 (h o n c : Nat) : aeqIn Tryz.prog Op.maxDepth 87 (.sl h o n c) .nilS = some false := eq_sl_nil und87
theorem eqSg87 (h o n c : Nat) : aeqIn Tryz.prog Op.maxDepth 87 (.sg h o n c) .nilS = some false := eq_sg_nil und87
theorem eqSn87 : aeqIn Tryz.prog Op.maxDepth 87 .nilS .nilS = some true := eq_nil_nil und87
theorem eqPn110 (h o : Nat) : aeqIn Tryz.prog Op.maxDepth 110 (.ptr h o) .nilP = some false := eq_ptr_nil und110
theorem eqPP110 : aeqIn Tryz.prog Op.maxDepth 110 .nilP .nilP = some true := eq_nilP_nilP und110
theorem eqPn123 (h o : Nat) : aeqIn Tryz.prog Op.maxDepth 123 (.ptr h o) .nilP = some false := eq_ptr_nil und123
theorem eqPP123 : aeqIn Tryz.prog Op.maxDepth 123 .nilP .nilP = some true := eq_nilP_nilP und123
theorem eqSl141 (h o n c : Nat) : aeqIn Tryz.prog Op.maxDepth 141 (.sl h o n c) .nilS = some false := eq_sl_nil und141
theorem eqSg141 (h o n c : Nat) : aeqIn Tryz.prog Op.maxDepth 141 (.sg h o n c) .nilS = some false := eq_sg_nil und141
theorem eqSn141 : aeqIn Tryz.prog Op.maxDepth 141 .nilS .nilS = some true := eq_nil_nil und141
theorem cv2_31 (H : Hp) (k : IntKind) (n : Int) : aconv Tryz.prog H 2 31 (.int k n) = some (.int .u64 (IntKind.u64.wrap n)) := by simp [aconv, und2, und31]
theorem cv3_115 (H : Hp) (k : IntKind) (n : Int) : aconv Tryz.prog H 3 115 (.int k n) = some (.int .u64 (IntKind.u64.wrap n)) := by simp [aconv, und3, und115]
theorem cv5_3 (H : Hp) (k : IntKind) (n : Int) : aconv Tryz.prog H 5 3 (.int k n) = some (.int .i64 (IntKind.i64.wrap n)) := by simp [aconv, und5, und3]
theorem cv25_2 (H : Hp) (k : IntKind) (n : Int) : aconv Tryz.prog H 25 2 (.int k n) = some (.int .i64 (IntKind.i64.wrap n)) := by simp [aconv, und25, und2]
theorem cv31_2 (H : Hp) (k : IntKind) (n : Int) : aconv Tryz.prog H 31 2 (.int k n) = some (.int .i64 (IntKind.i64.wrap n)) := by simp [aconv, und31, und2]
theorem cv31_5 (H : Hp) (k : IntKind) (n : Int) : aconv Tryz.prog H 31 5 (.int k n) = some (.int .u8 (IntKind.u8.wrap n)) := by simp [aconv, und31, und5]
theorem cv76_2 (H : Hp) (k : IntKind) (n : Int) : aconv Tryz.prog H 76 2 (.int k n) = some (.int .i64 (IntKind.i64.wrap n)) := by simp [aconv, und76, und2]
theorem tyb2 : type_of% (And.intro @und2 (And.intro @agg2 (And.intro @size2 (And.intro @bytes2 (@zero2))))) := And.intro @und2 (And.intro @agg2 (And.intro @size2 (And.intro @bytes2 (@zero2))))
theorem tyb3 : type_of% (And.intro @und3 (And.intro @agg3 (And.intro @size3 (And.intro @bytes3 (@zero3))))) := And.intro @und3 (And.intro @agg3 (And.intro @size3 (And.intro @bytes3 (@zero3))))
theorem tyb4 : type_of% (And.intro @und4 (And.intro @agg4 (And.intro @size4 (And.intro @bytes4 (And.intro @zero4 (@eqB4)))))) := And.intro @und4 (And.intro @agg4 (And.intro @size4 (And.intro @bytes4 (And.intro @zero4 (@eqB4)))))
theorem tyb5 : type_of% (And.intro @und5 (And.intro @agg5 (And.intro @size5 (And.intro @bytes5 (@zero5))))) := And.intro @und5 (And.intro @agg5 (And.intro @size5 (And.intro @bytes5 (@zero5))))
theorem tyb9 : type_of% (And.intro @und9 (And.intro @agg9 (And.intro @size9 (And.intro @bytes9 (@zero9))))) := And.intro @und9 (And.intro @agg9 (And.intro @size9 (And.intro @bytes9 (@zero9))))
theorem tyb20 : type_of% (And.intro @und20 (And.intro @agg20 (And.intro @size20 (And.intro @bytes20 (@zero20))))) := And.intro @und20 (And.intro @agg20 (And.intro @size20 (And.intro @bytes20 (@zero20))))
theorem tyb22 : type_of% (And.intro @und22 (And.intro @agg22 (And.intro @size22 (And.intro @bytes22 (And.intro @zero22 (And.intro @lenS22 (And.intro @lenG22 (And.intro @lenN22 (And.intro @eqSl22 (And.intro @eqSg22 (@eqSn22))))))))))) := And.intro @und22 (And.intro @agg22 (And.intro @size22 (And.intro @bytes22 (And.intro @zero22 (And.intro @lenS22 (And.intro @lenG22 (And.intro @lenN22 (And.intro @eqSl22 (And.intro @eqSg22 (@eqSn22))))))))))
theorem tyb23 : type_of% (And.intro @und23 (And.intro @agg23 (And.intro @size23 (And.intro @bytes23 (And.intro @zero23 (And.intro @fad23_0 (@fad23_1))))))) := And.intro @und23 (And.intro @agg23 (And.intro @size23 (And.intro @bytes23 (And.intro @zero23 (And.intro @fad23_0 (@fad23_1))))))
theorem tyb24 : type_of% (And.intro @und24 (And.intro @agg24 (And.intro @size24 (And.intro @bytes24 (And.intro @zero24 (And.intro @fad24_0 (@fad24_1))))))) := And.intro @und24 (And.intro @agg24 (And.intro @size24 (And.intro @bytes24 (And.intro @zero24 (And.intro @fad24_0 (@fad24_1))))))
theorem tyb25 : type_of% (And.intro @und25 (And.intro @agg25 (And.intro @size25 (And.intro @bytes25 (@zero25))))) := And.intro @und25 (And.intro @agg25 (And.intro @size25 (And.intro @bytes25 (@zero25))))
theorem tyb26 : type_of% (And.intro @und26 (And.intro @agg26 (And.intro @size26 (And.intro @bytes26 (And.intro @zero26 (And.intro @lenS26 (And.intro @lenG26 (And.intro @lenN26 (And.intro @eqSl26 (And.intro @eqSg26 (@eqSn26))))))))))) := And.intro @und26 (And.intro @agg26 (And.intro @size26 (And.intro @bytes26 (And.intro @zero26 (And.intro @lenS26 (And.intro @lenG26 (And.intro @lenN26 (And.intro @eqSl26 (And.intro @eqSg26 (@eqSn26))))))))))
theorem tyb31 : type_of% (And.intro @und31 (And.intro @agg31 (And.intro @size31 (And.intro @bytes31 (@zero31))))) := And.intro @und31 (And.intro @agg31 (And.intro @size31 (And.intro @bytes31 (@zero31))))
theorem tyb32 : type_of% (And.intro @und32 (And.intro @agg32 (And.intro @size32 (And.intro @bytes32 (And.intro @zero32 (And.intro @bld32 (And.intro @sla32 (@eg32)))))))) := And.intro @und32 (And.intro @agg32 (And.intro @size32 (And.intro @bytes32 (And.intro @zero32 (And.intro @bld32 (And.intro @sla32 (@eg32)))))))
theorem tyb33 : type_of% (And.intro @und33 (And.intro @agg33 (And.intro @size33 (And.intro @bytes33 (And.intro @zero33 (And.intro @bld33 (And.intro @sla33 (@eg33)))))))) := And.intro @und33 (And.intro @agg33 (And.intro @size33 (And.intro @bytes33 (And.intro @zero33 (And.intro @bld33 (And.intro @sla33 (@eg33)))))))
theorem tyb34 : type_of% (And.intro @und34 (And.intro @agg34 (And.intro @size34 (And.intro @bytes34 (@zero34))))) := And.intro @und34 (And.intro @agg34 (And.intro @size34 (And.intro @bytes34 (@zero34))))
theorem tyb35 : type_of% (And.intro @und35 (And.intro @agg35 (And.intro @size35 (And.intro @bytes35 (@zero35))))) := And.intro @und35 (And.intro @agg35 (And.intro @size35 (And.intro @bytes35 (@zero35))))
theorem tyb38 : type_of% (And.intro @und38 (And.intro @agg38 (And.intro @size38 (And.intro @bytes38 (And.intro @zero38 (And.intro @lenS38 (And.intro @lenG38 (And.intro @lenN38 (And.intro @eqSl38 (And.intro @eqSg38 (@eqSn38))))))))))) := And.intro @und38 (And.intro @agg38 (And.intro @size38 (And.intro @bytes38 (And.intro @zero38 (And.intro @lenS38 (And.intro @lenG38 (And.intro @lenN38 (And.intro @eqSl38 (And.intro @eqSg38 (@eqSn38))))))))))
theorem tyb44 : type_of% (And.intro @und44 (And.intro @agg44 (And.intro @size44 (And.intro @bytes44 (And.intro @zero44 (And.intro @lenS44 (And.intro @lenG44 (And.intro @lenN44 (And.intro @eqSl44 (And.intro @eqSg44 (@eqSn44))))))))))) := And.intro @und44 (And.intro @agg44 (And.intro @size44 (And.intro @bytes44 (And.intro @zero44 (And.intro @lenS44 (And.intro @lenG44 (And.intro @lenN44 (And.intro @eqSl44 (And.intro @eqSg44 (@eqSn44))))))))))
theorem tyb45 : type_of% (And.intro @und45 (And.intro @agg45 (And.intro @size45 (And.intro @bytes45 (And.intro @zero45 (And.intro @fad45_0 (@fad45_1))))))) := And.intro @und45 (And.intro @agg45 (And.intro @size45 (And.intro @bytes45 (And.intro @zero45 (And.intro @fad45_0 (@fad45_1))))))
theorem tyb46 : type_of% (And.intro @und46 (And.intro @agg46 (And.intro @size46 (And.intro @bytes46 (And.intro @zero46 (And.intro @fad46_0 (@fad46_1))))))) := And.intro @und46 (And.intro @agg46 (And.intro @size46 (And.intro @bytes46 (And.intro @zero46 (And.intro @fad46_0 (@fad46_1))))))
theorem tyb58 : type_of% (And.intro @und58 (And.intro @agg58 (And.intro @size58 (And.intro @bytes58 (And.intro @zero58 (And.intro @lenS58 (And.intro @lenG58 (And.intro @lenN58 (And.intro @eqSl58 (And.intro @eqSg58 (@eqSn58))))))))))) := And.intro @und58 (And.intro @agg58 (And.intro @size58 (And.intro @bytes58 (And.intro @zero58 (And.intro @lenS58 (And.intro @lenG58 (And.intro @lenN58 (And.intro @eqSl58 (And.intro @eqSg58 (@eqSn58))))))))))
theorem tyb76 : type_of% (And.intro @und76 (And.intro @agg76 (And.intro @size76 (And.intro @bytes76 (@zero76))))) := And.intro @und76 (And.intro @agg76 (And.intro @size76 (And.intro @bytes76 (@zero76))))
theorem tyb78 : type_of% (And.intro @und78 (And.intro @agg78 (And.intro @size78 (And.intro @bytes78 (@zero78))))) := And.intro @und78 (And.intro @agg78 (And.intro @size78 (And.intro @bytes78 (@zero78))))
theorem tyb79 : type_of% (And.intro @und79 (And.intro @agg79 (And.intro @size79 (And.intro @bytes79 (And.intro @zero79 (And.intro @lenS79 (And.intro @lenG79 (And.intro @lenN79 (And.intro @eqSl79 (And.intro @eqSg79 (@eqSn79))))))))))) := And.intro @und79 (And.intro @agg79 (And.intro @size79 (And.intro @bytes79 (And.intro @zero79 (And.intro @lenS79 (And.intro @lenG79 (And.intro @lenN79 (And.intro @eqSl79 (And.intro @eqSg79 (@eqSn79))))))))))
theorem tyb87 : type_of% (And.intro @und87 (And.intro @agg87 (And.intro @size87 (And.intro @bytes87 (And.intro @zero87 (And.intro @lenS87 (And.intro @lenG87 (And.intro @lenN87 (And.intro @eqSl87 (And.intro @eqSg87 (@eqSn87))))))))))) := And.intro @und87 (And.intro @agg87 (And.intro @size87 (And.intro @bytes87 (And.intro @zero87 (And.intro @lenS87 (And.intro @lenG87 (And.intro @lenN87 (And.intro @eqSl87 (And.intro @eqSg87 (@eqSn87))))))))))
theorem tyb110 : type_of% (And.intro @und110 (And.intro @agg110 (And.intro @size110 (And.intro @bytes110 (And.intro @zero110 (And.intro @eqPn110 (@eqPP110))))))) := And.intro @und110 (And.intro @agg110 (And.intro @size110 (And.intro @bytes110 (And.intro @zero110 (And.intro @eqPn110 (@eqPP110))))))
theorem tyb111 : type_of% (And.intro @und111 (And.intro @agg111 (And.intro @size111 (And.intro @bytes111 (And.intro @zero111 (And.intro @fad111_0 (@fad111_1))))))) := And.intro @und111 (And.intro @agg111 (And.intro @size111 (And.intro @bytes111 (And.intro @zero111 (And.intro @fad111_0 (@fad111_1))))))
theorem tyb112 : type_of% (And.intro @und112 (And.intro @agg112 (And.intro @size112 (And.intro @bytes112 (And.intro @zero112 (And.intro @fad112_0 (@fad112_1))))))) := And.intro @und112 (And.intro @agg112 (And.intro @size112 (And.intro @bytes112 (And.intro @zero112 (And.intro @fad112_0 (@fad112_1))))))
theorem tyb115 : type_of% (And.intro @und115 (And.intro @agg115 (And.intro @size115 (And.intro @bytes115 (@zero115))))) := And.intro @und115 (And.intro @agg115 (And.intro @size115 (And.intro @bytes115 (@zero115))))
theorem tyb123 : type_of% (And.intro @und123 (And.intro @agg123 (And.intro @size123 (And.intro @bytes123 (And.intro @zero123 (And.intro @eqPn123 (@eqPP123))))))) := And.intro @und123 (And.intro @agg123 (And.intro @size123 (And.intro @bytes123 (And.intro @zero123 (And.intro @eqPn123 (@eqPP123))))))
theorem tyb138 : type_of% (And.intro @und138 (And.intro @agg138 (And.intro @size138 (And.intro @bytes138 (@zero138))))) := And.intro @und138 (And.intro @agg138 (And.intro @size138 (And.intro @bytes138 (@zero138))))
theorem tyb141 : type_of% (And.intro @und141 (And.intro @agg141 (And.intro @size141 (And.intro @bytes141 (And.intro @zero141 (And.intro @lenS141 (And.intro @lenG141 (And.intro @lenN141 (And.intro @eqSl141 (And.intro @eqSg141 (@eqSn141))))))))))) := And.intro @und141 (And.intro @agg141 (And.intro @size141 (And.intro @bytes141 (And.intro @zero141 (And.intro @lenS141 (And.intro @lenG141 (And.intro @lenN141 (And.intro @eqSl141 (And.intro @eqSg141 (@eqSn141))))))))))
theorem tyb160 : type_of% (And.intro @und160 (And.intro @agg160 (And.intro @size160 (And.intro @bytes160 (And.intro @zero160 (And.intro @bld160 (And.intro @sla160 (@eg160)))))))) := And.intro @und160 (And.intro @agg160 (And.intro @size160 (And.intro @bytes160 (And.intro @zero160 (And.intro @bld160 (And.intro @sla160 (@eg160)))))))
end Go.Proofs.YtfalfmfkifemeaaGreatDoor
set_option linter.unusedVariables false
set_option linter.unusedSimpArgs false
namespace Go.Proofs.YtfalfmfkifemeaaGreatDoor
open Go.AL Go.PW
theorem u64_wrap (n : Int) : IntKind.u64.wrap n = n % Bs := by
  have e : ((2 : Int) ^ IntKind.u64.bits) = Bs := by decide
  simp only [IntKind.wrap, IntKind.signed, Bool.false_and, Bool.false_eq_true, if_false, e]
theorem u64_in {n : Int} (h0 : 0 ≤ n) (h1 : n < Bs) : IntKind.u64.wrap n = n := by rw [u64_wrap]; exact Int.emod_eq_of_lt h0 h1
theorem ofInt64 {n : Nat} (h : n < 2 ^ 64) : (BitVec.ofInt IntKind.u64.bits (n : Int)).toNat = n := by
  rw [BitVec.toNat_ofInt]
  have : ((2 : Nat) ^ IntKind.u64.bits) = 18446744073709551616 := by decide
  rw [this]
  omega
theorem nat_lt {x : Int} (hx : 0 ≤ x) (hx' : x < Bs) : ∃ a : Nat, x = a ∧ a < 2 ^ 64 := by
  obtain ⟨a, rfl⟩ := Int.eq_ofNat_of_zero_le hx
  exact ⟨a, rfl, by simp only [Bs] at hx'; omega⟩
theorem wrap_nat {a : Nat} (h : a < 2 ^ 64) : IntKind.u64.wrap (a : Int) = a := u64_in (by omega) (by simp only [Bs]; omega)
theorem xor64 {a b : Nat} (ha : a < 2 ^ 64) (hb : b < 2 ^ 64) : bits .xor .u64 (a : Int) (b : Int) = ((a ^^^ b : Nat) : Int) := by
  have hab := Nat.xor_lt_two_pow ha hb
  unfold bits
  simp only
  rw [BitVec.toNat_xor, ofInt64 ha, ofInt64 hb]
  exact wrap_nat hab
theorem and64 {a b : Nat} (ha : a < 2 ^ 64) (hb : b < 2 ^ 64) : bits .and .u64 (a : Int) (b : Int) = ((a &&& b : Nat) : Int) := by
  have hab : a &&& b < 2 ^ 64 := Nat.lt_of_le_of_lt Nat.and_le_left ha
  unfold bits
  simp only
  rw [BitVec.toNat_and, ofInt64 ha, ofInt64 hb]
  exact wrap_nat hab
theorem or64 {a b : Nat} (ha : a < 2 ^ 64) (hb : b < 2 ^ 64) : bits .or .u64 (a : Int) (b : Int) = ((a ||| b : Nat) : Int) := by
  have hab := Nat.or_lt_two_pow ha hb
  unfold bits
  simp only
  rw [BitVec.toNat_or, ofInt64 ha, ofInt64 hb]
  exact wrap_nat hab
/-- The other bits. -/
theorem not64 {x : Int} (h0 : 0 ≤ x) (h1 : x < Bs) : bits .xor .u64 (if IntKind.u64.signed = true then -1 else IntKind.u64.max) x = Bs - 1 - x := by
  have e : (if IntKind.u64.signed = true then -1 else IntKind.u64.max) = ((2 ^ 64 - 1 : Nat) : Int) := by decide
  obtain ⟨a, rfl, ha⟩ := nat_lt h0 h1
  rw [e, xor64 (by decide) ha]
  have h2 : (2 ^ 64 - 1) ^^^ a = 2 ^ 64 - 1 - a := by
    have h3 : (BitVec.allOnes 64 ^^^ BitVec.ofNat 64 a) = ~~~ (BitVec.ofNat 64 a) := BitVec.allOnes_xor
    have h4 := congrArg BitVec.toNat h3
    rw [BitVec.toNat_xor, BitVec.toNat_not, BitVec.toNat_allOnes, BitVec.toNat_ofNat, Nat.mod_eq_of_lt ha] at h4
    exact h4
  rw [h2]
  simp only [Bs]
  omega
/-- The lower half. -/
theorem low32 {x : Int} (h0 : 0 ≤ x) (h1 : x < Bs) : bits .and .u64 x 4294967295 = x % 4294967296 := by
  obtain ⟨a, rfl, ha⟩ := nat_lt h0 h1
  have h2 := and64 (b := 4294967295) ha (by decide)
  have h3 := Nat.and_two_pow_sub_one_eq_mod a 32
  have e : (2 ^ 32 - 1 : Nat) = 4294967295 := by decide
  rw [e] at h3
  rw [h3] at h2
  exact h2.trans (by omega)
/-- Bits that do not meet. -/
theorem or_add {x y : Int} (k : Nat) (h0 : 0 ≤ x) (h1 : x * 2 ^ k < Bs) (h2 : 0 ≤ y) (h3 : y < 2 ^ k) (h4 : y < Bs) : bits .or .u64 (x * 2 ^ k) y = x * 2 ^ k + y := by
  have hp : (0 : Int) < 2 ^ k := Int.pow_pos (by decide)
  obtain ⟨a, rfl⟩ := Int.eq_ofNat_of_zero_le h0
  obtain ⟨b, rfl⟩ := Int.eq_ofNat_of_zero_le h2
  have e : ((a : Int) * 2 ^ k) = ((a * 2 ^ k : Nat) : Int) := by simp
  have hb : b < 2 ^ k := by
    have : ((b : Int)) < ((2 ^ k : Nat) : Int) := by simpa using h3
    omega
  rw [e] at h1 ⊢
  have h5 : a * 2 ^ k < 2 ^ 64 := by simp only [Bs] at h1; omega
  have h6 : b < 2 ^ 64 := by simp only [Bs] at h4; omega
  rw [or64 h5 h6]
  have h7 := Nat.shiftLeft_add_eq_or_of_lt hb a
  rw [Nat.shiftLeft_eq] at h7
  rw [← h7]
  omega
/-- 2 to 1024, and half of it. -/
def M : Int := Bs ^ 16
def Mh : Int := Bs ^ 15 * 9223372036854775808
theorem M_two : M = 2 * Mh := by decide
theorem M_pow : M = Bs ^ 16 := rfl
theorem M_pos : 0 < M := by decide
theorem Mh_pos : 0 < Mh := by decide
theorem top_iff (x : Int) : ((dig 16 x).getD 15 0 / 9223372036854775808 == 1) = decide (Mh ≤ x % M) := by
  rw [getD_dig 16 x 15 (by decide)]
  have h := emod_two (x := x) (m := Bs ^ 15) (k := Bs) (by decide)
  have e : Bs ^ 15 * Bs = M := by decide
  rw [e] at h
  have h1 := Int.emod_nonneg x (b := Bs ^ 15) (by decide)
  have h2 := Int.emod_lt_of_pos x (b := Bs ^ 15) (by decide)
  have h3 := Int.emod_nonneg (x / Bs ^ 15) (b := Bs) (by decide)
  have h4 := Int.emod_lt_of_pos (x / Bs ^ 15) (b := Bs) (by decide)
  rw [← h]
  have eM : Mh = Bs ^ 15 * 9223372036854775808 := rfl
  rw [eM]
  have hp : (0 : Int) < Bs ^ 15 := by decide
  generalize x / Bs ^ 15 % Bs = t at *
  generalize x % Bs ^ 15 = r at *
  generalize Bs ^ 15 = p at *
  have key : (t / 9223372036854775808 = 1) ↔ (p * 9223372036854775808 ≤ r + p * t) := by
    constructor
    · intro ht
      have : 9223372036854775808 ≤ t := by omega
      have := Int.mul_le_mul_of_nonneg_left this (Int.le_of_lt hp)
      omega
    · intro ht
      rcases Int.lt_or_le t 9223372036854775808 with h5 | h5
      · have : p * (t + 1) ≤ p * 9223372036854775808 := Int.mul_le_mul_of_nonneg_left (by omega) (Int.le_of_lt hp)
        rw [Int.mul_add] at this
        omega
      · simp only [Bs] at h4; omega
  rw [Bool.eq_iff_iff]
  simp only [beq_iff_eq, decide_eq_true_eq]
  exact key
/-- In range: below nought. -/
def In (x : Int) : Prop := -Mh ≤ x ∧ x < Mh
theorem neg_iff {x : Int} (h : In x) : decide (Mh ≤ x % M) = decide (x < 0) := by
  obtain ⟨h1, h2⟩ := h
  have hm := M_two
  have hp := Mh_pos
  rcases Int.lt_or_le x 0 with h0 | h0
  · have : x % M = x + M := by
      rw [← Int.add_emod_right, Int.emod_eq_of_lt (by omega) (by omega)]
    rw [this]
    have h3 : Mh ≤ x + M := by omega
    simp [h0, h3]
  · have : x % M = x := Int.emod_eq_of_lt h0 (by omega)
    rw [this]
    have h3 : ¬ Mh ≤ x := by omega
    have h4 : ¬ x < 0 := by omega
    simp [h3, h4]
theorem dig_M {x y : Int} (h : x % M = y % M) : dig 16 x = dig 16 y := dig_mod 16 x y h
theorem val_M (x : Int) : val (dig 16 x) = x % M := val_dig 16 x
attribute [irreducible] M Mh
end Go.Proofs.YtfalfmfkifemeaaGreatDoor
set_option linter.unusedVariables false
set_option linter.unusedSimpArgs false
namespace Go.Proofs.YtfalfmfkifemeaaGreatDoor
open Go.AL Go.PW
theorem tf94WdA : type_of% (And.intro @tyb31 (And.intro @tyb32 (@tyb33))) := And.intro @tyb31 (And.intro @tyb32 (@tyb33))
theorem tf77WdA : type_of% (And.intro @tyb3 (And.intro @tyb31 (And.intro @tyb32 (@tyb33)))) := And.intro @tyb3 (And.intro @tyb31 (And.intro @tyb32 (@tyb33)))
set_option maxRecDepth 8000
/-- A wide number in two's complement. -/
abbrev W (x : Int) : AV := .agg ((dig 16 x).map (AV.int .u64))
abbrev Wb (x : Int) : Blk := ⟨(dig 16 x).map (AV.int .u64), .own, 33⟩
theorem ext_quiet {f : FuncId} {fn : Func} {e : Array Value → Sem Value} (hf : Tryz.prog.funcs[f]? = some fn) (hname : (fn.name == "runtime.NumGoroutine") = false)
    (hb : fn.body.isNone = true) (hn : Extern.findNext fn = none) (he : Extern.find fn = some e) {args : List AV} {r : AV} {H : Hp} (hr : ∀ n, r.lt n)
    (h : ∀ (β : Nat → Bx) (vs : Array Value) (w : World), VRs β args vs.toList → ∃ v, (e vs).run Tryz.prog w = .ok v w ∧ VR β r v) : AExt Tryz.prog f args H fun r' H' => r' = r ∧ H = H' := by
  intro w0 B β w vs R hv hl
  obtain ⟨v, h1, h2⟩ := h β vs w hv
  refine ⟨v, w, β, r, H, ?_, ⟨rfl, rfl⟩, Agree.refl _ _, Nat.le_refl _, h2, hr _, R⟩
  rw [run_callFunc_extern hf hname hb hn he, h1]
  rfl
theorem three_eq (P : Program) (name : String) (x y c : Nat) (hc : ¬ 1 < c) (w : World) : (Extern.MathBitsCarry.three name ⟨[.int .u64 (x : Int), .int .u64 (y : Int), .int .u64 (c : Int)]⟩).run P w = .ok (x, y, c) w := by
  have h : ∀ a b d : Value, Extern.MathBitsCarry.three name ⟨[a, b, d]⟩ = (do
      let c := (← asInt d).toNat
      if c > 1 then unsupported (.noEntry ("extern/math/bits." ++ name ++ ": a carry that is neither 0 nor 1"))
      pure ((← asInt a).toNat, (← asInt b).toNat, c)) := fun _ _ _ => rfl
  rw [h]
  simp only [asInt, asIntOf, Sem.run_bind, Sem.run_pure, Result.andThen_ok, Int.toNat_natCast]
  rw [if_neg hc]
  simp
theorem add64 (H : Hp) (x y c : Int) (hx : 0 ≤ x) (hy : 0 ≤ y) (hc : 0 ≤ c ∧ c ≤ 1) : AExt Tryz.prog 83 [.int .u64 x, .int .u64 y, .int .u64 c] H fun r H' => r = .tup [.int .u64 ((x + y + c) % Bs), .int .u64 ((x + y + c) / Bs)] ∧ H = H' := by
  refine ext_quiet (e := fun args => do
    let (x, y, c) ← Extern.MathBitsCarry.three "Add64" args
    pure (Extern.MathBitsCarry.pair ((x + y + c) % Extern.MathBitsCarry.m64) ((x + y + c) / Extern.MathBitsCarry.m64))) Tryz.func83 (by kernel_rfl) (by kernel_rfl) (by kernel_rfl) (by kernel_rfl) (fun _ => by simp [AV.lt, AV.lts]) ?_
  intro β vs w hv
  obtain ⟨vs⟩ := vs
  simp only [VRs, VR] at hv
  obtain ⟨_, _, rfl, rfl, _, _, rfl, rfl, _, _, rfl, rfl, rfl⟩ := hv
  obtain ⟨x, rfl⟩ := Int.eq_ofNat_of_zero_le hx
  obtain ⟨y, rfl⟩ := Int.eq_ofNat_of_zero_le hy
  obtain ⟨c, rfl⟩ := Int.eq_ofNat_of_zero_le hc.1
  have hc1 : ¬ 1 < c := by omega
  refine ⟨_, by simp only [Sem.run_bind, three_eq _ _ _ _ _ hc1, Result.andThen_ok, Sem.run_pure]; rfl, ?_⟩
  simp only [Extern.MathBitsCarry.pair, VR, VRs, Extern.MathBitsCarry.m64]
  refine ⟨_, rfl, _, _, rfl, ?_, _, _, rfl, ?_, rfl⟩
  · simp [Bs]
  · simp [Bs]
theorem sub64 (H : Hp) (x y c : Int) (hx : 0 ≤ x) (hy : 0 ≤ y ∧ y < Bs) (hc : 0 ≤ c ∧ c ≤ 1) : AExt Tryz.prog 104 [.int .u64 x, .int .u64 y, .int .u64 c] H fun r H' => r = .tup [.int .u64 ((x - y - c) % Bs), .int .u64 (if x < y + c then 1 else 0)] ∧ H = H' := by
  refine ext_quiet (e := fun args => do
    let (x, y, b) ← Extern.MathBitsCarry.three "Sub64" args
    pure (Extern.MathBitsCarry.pair ((x + Extern.MathBitsCarry.m64 - y - b) % Extern.MathBitsCarry.m64) (if x < y + b then 1 else 0))) Tryz.func104 (by kernel_rfl) (by kernel_rfl) (by kernel_rfl) (by kernel_rfl) (fun _ => by simp [AV.lt, AV.lts]) ?_
  intro β vs w hv
  obtain ⟨vs⟩ := vs
  simp only [VRs, VR] at hv
  obtain ⟨_, _, rfl, rfl, _, _, rfl, rfl, _, _, rfl, rfl, rfl⟩ := hv
  obtain ⟨x, rfl⟩ := Int.eq_ofNat_of_zero_le hx
  obtain ⟨y, rfl⟩ := Int.eq_ofNat_of_zero_le hy.1
  obtain ⟨c, rfl⟩ := Int.eq_ofNat_of_zero_le hc.1
  have hc1 : ¬ 1 < c := by omega
  refine ⟨_, by simp only [Sem.run_bind, three_eq _ _ _ _ _ hc1, Result.andThen_ok, Sem.run_pure]; rfl, ?_⟩
  simp only [Extern.MathBitsCarry.pair, VR, VRs, Extern.MathBitsCarry.m64]
  refine ⟨_, rfl, _, _, rfl, ?_, _, _, rfl, ?_, rfl⟩
  · have hy2 : y < 18446744073709551616 := by have := hy.2; simp only [Bs] at this; omega
    have : ((x + 2 ^ 64 - y - c : Nat) : Int) = (x : Int) - y - c + Bs := by simp only [Bs]; omega
    simp only [Value.int.injEq, true_and, Int.ofNat_eq_natCast, Int.natCast_emod, this]
    simp only [Bs]
    omega
  · by_cases h : x < y + c
    · have : (x : Int) < (y : Int) + c := by omega
      simp [h, this]
    · have : ¬ (x : Int) < (y : Int) + c := by omega
      simp [h, this]
theorem below_calls (x : Int) (H : Hp) : ACalls Tryz.prog 94 [W x] H fun r H' => r = .bool (decide (Mh ≤ x % M)) ∧ H = H' := by
  refine ACalls.drop (R := fun r => r = .bool (decide (Mh ≤ x % M))) ?_
  refine ACalls_body Tryz.func94 rfl (by kernel_rfl) (by kernel_rfl) ?_
  repeat' first
    | (with_reducible first | refine AWp_seq_k (fun K hK => ?_) | refine AWp_ret ?_ | refine AWp_regionE ?_)
    | (simp only [thenA, inBlockA, reduceIte, Nat.reduceEqDiff])
    | ((with_reducible refine hK _ _ ?_); clear hK)
    | (simp only [ACond, RA, EAtS_def, EAtX_def, wantedA, acall, astep, ev, ofValue, ofAtom, Nat.reduceEqDiff, Nat.reduceAdd, Nat.reduceMul, Nat.reduceSub, reduceCtorEq, reduceIte, aoptEv, abin, aint, ashift, aun, astr, aeqGuard, isConstOp, aconvH, aofStr, aconvSame, isU8, abuildSlice, afill, splice, azeros, Nat.reduceLeDiff, Nat.reduceLT, Int.reduceLE, Int.reduceLT, Int.reduceEq, Int.reduceToNat, Int.reducePow, IntKind.bits, Int.reduceNeg, RB, aalloc, Go.PW.dig_length, tf94WdA])
    | (simp (disch := first | omega | (simp only [RO]; done) | assumption) only [RS, idx32, slh32, idx33, slh33])
    | (simp (disch := (first | omega | (simp only [RO]; done) | assumption | (simp only [RM, Go.PW.dig_length]; done) | (simp only [RL, Go.PW.dig_length]; omega))) only [RD, reduceCtorEq, reduceIte, Go.PW.dig_length, Nat.reduceLeDiff, Nat.reduceAdd, Nat.reduceMul, Int.reduceToNat, tf94WdA])
  (
   (refine AEnd_gen (rs := [.tmp 2]) rfl ?_)
   (simp only [AEndR, aresults, Fr.put_some, Fr.put_none, fr0_zero, fr0_succ, fr0_nil, Nat.reduceEqDiff, reduceIte])
   (try simp (disch := (first | omega | (simp only [RO]; done) | assumption | (simp only [RM, Go.PW.dig_length]; done) | (simp only [RL, Go.PW.dig_length]; omega))) only [RD, reduceCtorEq, reduceIte, Go.PW.dig_length, Nat.reduceLeDiff, Nat.reduceAdd, Nat.reduceMul, Int.reduceToNat, tf94WdA]))
  exact ⟨⟨_, rfl⟩, trivial, by rw [top_iff]⟩
theorem ext4 {H : Hp} (a b : Blk) : Ext H (H ++ [a] ++ [b]) := (Ext.push _ _).pushed _
theorem inverse_calls (x : Int) (H : Hp) : ACalls Tryz.prog 77 [W x] H fun r H' => r = W (-x - 1) ∧ H = H' := by
  refine ACalls.drop (R := fun r => r = W (-x - 1)) ?_
  refine ACalls_body Tryz.func77 rfl (by kernel_rfl) (by kernel_rfl) ?_
  repeat' first
    | (with_reducible first | refine AWp_seq_k (fun K hK => ?_) | refine AWp_block ?_ | refine AWp_regionE ?_)
    | (simp only [thenA, inBlockA, reduceIte, Nat.reduceEqDiff])
    | ((with_reducible refine hK _ _ ?_); clear hK)
    | (simp only [ACond, RA, EAtS_def, EAtX_def, wantedA, acall, astep, ev, ofValue, ofAtom, Nat.reduceEqDiff, Nat.reduceAdd, Nat.reduceMul, Nat.reduceSub, reduceCtorEq, reduceIte, aoptEv, abin, aint, ashift, aun, astr, aeqGuard, isConstOp, aconvH, aofStr, aconvSame, isU8, abuildSlice, afill, splice, azeros, Nat.reduceLeDiff, Nat.reduceLT, Int.reduceLE, Int.reduceLT, Int.reduceEq, Int.reduceToNat, Int.reducePow, IntKind.bits, Int.reduceNeg, RB, aalloc, Go.PW.dig_length, tf77WdA])
    | (simp (disch := (first | omega | (simp only [RO]; done) | assumption | (simp only [RM, Go.PW.dig_length]; done) | (simp only [RL, Go.PW.dig_length]; omega))) only [RD, reduceCtorEq, reduceIte, Go.PW.dig_length, Nat.reduceLeDiff, Nat.reduceAdd, Nat.reduceMul, Int.reduceToNat, tf77WdA])
  refine AWp_loop (fun m fr' H' => ∃ (i : Nat) (ys : List Int), m = 16 - i ∧ i ≤ 16 ∧ fr' 1 = .ptr H.length 0 ∧ fr' 2 = .ptr (H.length + 1) 0 ∧ fr' 5 = W x ∧ fr' 6 = .int .i64 (i : Int) ∧ ys.length = 16 ∧ Limbs ys ∧ val (ys.take i) + val ((dig 16 x).take i) = Bs ^ i - 1 ∧ (H ++ [⟨ys.map (AV.int .u64), .own, 33⟩]) ++ [Wb 0] = H') (m := 16)
    ⟨0, dig 16 x, by omega, by omega, rfl, rfl, rfl, rfl, dig_length _ _, dig_limbs _ _, rfl, rfl⟩ ?_
  rintro m fr' H' ⟨i, ys, rfl, hi, k1, k2, k5, k6, hl, hys, hy, rfl⟩
  by_cases hlt : i < 16
  · have hd := (dig_limbs 16 x).get i
    repeat' first
      | (with_reducible first | refine AWp_seq_k (fun K hK => ?_) | refine AWp_block ?_ | refine AWp_skip ?_ | refine AWp_regionE ?_ | refine AWp_condI ?_)
      | (with_reducible refine AIte (fun hc => ?_) (fun hc => ?_) <;> (try simp only [RC] at hc) <;> (try (exfalso; first | omega | contradiction)))
      | (simp only [thenA, inBlockA, reduceIte, Nat.reduceEqDiff])
      | ((with_reducible refine hK _ _ ?_); clear hK)
      | (simp only [ACond, RA, EAtS_def, EAtX_def, wantedA, acall, astep, ev, ofValue, ofAtom, Nat.reduceEqDiff, Nat.reduceAdd, Nat.reduceMul, Nat.reduceSub, reduceCtorEq, reduceIte, aoptEv, abin, aint, ashift, aun, astr, aeqGuard, isConstOp, aconvH, aofStr, aconvSame, isU8, abuildSlice, afill, splice, azeros, Nat.reduceLeDiff, Nat.reduceLT, Int.reduceLE, Int.reduceLT, Int.reduceEq, Int.reduceToNat, Int.reducePow, IntKind.bits, Int.reduceNeg, RB, aalloc, Go.PW.dig_length, tf77WdA, k1, k2, k5, k6, not64 hd.1 hd.2])
      | (simp (disch := first | omega | (simp only [RO]; done) | assumption) only [RS, hl, ix33 (dig_length 16 x), idx32, slh32, idx33, slh33])
      | (simp (disch := (first | omega | (simp only [RO]; done) | assumption | (simp only [RM, Go.PW.dig_length]; done) | (simp only [RL, Go.PW.dig_length]; omega))) only [RD, reduceCtorEq, reduceIte, Go.PW.dig_length, Nat.reduceLeDiff, Nat.reduceAdd, Nat.reduceMul, Int.reduceToNat, tf77WdA, k1, k2, k5, k6, not64 hd.1 hd.2])
    have hv := val_take_succ (dig 16 x) (i := i) (by rw [dig_length]; exact hlt)
    have hv2 := val_take_succ (ys.set i (Bs - 1 - (dig 16 x).getD i 0)) (i := i) (by rw [List.length_set]; omega)
    rw [getD_set _ _ (by omega), if_pos rfl, List.take_set_of_le (Nat.le_refl _)] at hv2
    refine ⟨16 - (i + 1), by omega, i + 1, _, rfl, by omega, by rw [wrap_i64_id (by omega) (by omega)]; rfl, ?_, hys.set i (by omega), ?_, rfl⟩
    · rw [List.length_set]; exact hl
    · rw [hv, hv2, Int.pow_succ]
      have hp := Bs_pow_pos i
      generalize Bs ^ i = p at *
      generalize (dig 16 x).getD i 0 = d at *
      rw [Int.mul_sub, Int.mul_sub]
      omega
  · obtain rfl : i = 16 := by omega
    repeat' first
      | (with_reducible first | refine AWp_seq_k (fun K hK => ?_) | refine AWp_exit ?_ | refine AWp_ret ?_ | refine AWp_regionE ?_ | refine AWp_condI ?_)
      | (simp only [thenA, inBlockA, reduceIte, Nat.reduceEqDiff])
      | ((with_reducible refine hK _ _ ?_); clear hK)
      | (clear hK; (with_reducible refine hK _ _ ?_); clear hK)
      | (simp only [ACond, RA, EAtS_def, EAtX_def, wantedA, acall, astep, ev, ofValue, ofAtom, Nat.reduceEqDiff, Nat.reduceAdd, Nat.reduceMul, Nat.reduceSub, reduceCtorEq, reduceIte, aoptEv, abin, aint, ashift, aun, astr, aeqGuard, isConstOp, aconvH, aofStr, aconvSame, isU8, abuildSlice, afill, splice, azeros, Nat.reduceLeDiff, Nat.reduceLT, Int.reduceLE, Int.reduceLT, Int.reduceEq, Int.reduceToNat, Int.reducePow, IntKind.bits, Int.reduceNeg, RB, aalloc, Go.PW.dig_length, tf77WdA, k1, k2, k5, k6])
      | (simp (disch := (first | omega | (simp only [RO]; done) | assumption | (simp only [RM, Go.PW.dig_length]; done) | (simp only [RL, Go.PW.dig_length]; omega))) only [RD, reduceCtorEq, reduceIte, Go.PW.dig_length, Nat.reduceLeDiff, Nat.reduceAdd, Nat.reduceMul, Int.reduceToNat, tf77WdA, k1, k2, k5, k6])
    (
     (refine AEnd_gen (rs := [.cell 2 33]) rfl ?_)
     (simp only [AEndR, aresults, Fr.put_some, Fr.put_none, fr0_zero, fr0_succ, fr0_nil, Nat.reduceEqDiff, reduceIte, k2])
     (try simp (disch := (first | omega | (simp only [RO]; done) | assumption | (simp only [RM, Go.PW.dig_length]; done) | (simp only [RL, Go.PW.dig_length]; omega))) only [RD, reduceCtorEq, reduceIte, Go.PW.dig_length, Nat.reduceLeDiff, Nat.reduceAdd, Nat.reduceMul, Int.reduceToNat, tf77WdA, k2]))
    refine ⟨ext4 _ _, by simp [AV.lt, AV.lts_iff], ?_⟩
    have e1 : ys.take 16 = ys := List.take_of_length_le (by omega)
    have e2 : (dig 16 x).take 16 = dig 16 x := List.take_of_length_le (by rw [dig_length]; omega)
    rw [e1, e2, val_dig] at hy
    have : ys = dig 16 (-x - 1) := by
      refine dig_of_val hys hl ?_
      have h1 := val_bound hys
      rw [hl] at h1
      have h2 : (-x - 1) % Bs ^ 16 = val ys := by
        have hx := Int.emod_add_mul_ediv x (Bs ^ 16)
        generalize x / Bs ^ 16 = q at *
        generalize x % Bs ^ 16 = r at *
        generalize Bs ^ 16 = p at *
        have : -x - 1 = val ys + p * (-q - 1) := by rw [Int.mul_sub, Int.mul_neg]; omega
        rw [this, Int.add_mul_emod_self_left, Int.emod_eq_of_lt h1.1 h1.2]
      exact h2.symm
    rw [this]
end Go.Proofs.YtfalfmfkifemeaaGreatDoor

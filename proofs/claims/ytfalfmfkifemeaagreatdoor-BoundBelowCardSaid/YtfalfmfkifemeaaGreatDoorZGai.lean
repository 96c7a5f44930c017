/- Part 9 of the proof of laws of this seat: lemmas on the model's code, on this program's functions, on numbers. No condition. -/
import Derived.Test.YtfalfmfkifemeaaGreatDoorZGah
import Derived.Laws.Externs
import Derived.Test.YtfalfmfkifemeaaGreatDoorProg
set_option linter.unusedVariables false
set_option linter.unusedSimpArgs false
open Nat renaming reduceEqDiff → J0, reduceLeDiff → J1, reduceMul → J2, reduceAdd → J3, reduceSub → J4, reduceLT → J5
open Int renaming reduceToNat → J6, reducePow → J7, reduceNeg → J8, reduceLT → J9, reduceLE → Ja, reduceEq → Jb
open And renaming intro → Jc
open Go.IntKind renaming bits → Jd
open Go.PW renaming dig_length → Je
namespace Go.Proofs.YtfalfmfkifemeaaGreatDoor
open Go.AL
theorem und2 : Tryz.prog.underlying 2 = some (.int .i64) := by kernel_rfl
theorem agg2 : Xm Tryz.prog 2 = some false := by kernel_rfl
theorem und3 : Tryz.prog.underlying 3 = some (.int .i64) := by kernel_rfl
theorem agg3 : Xm Tryz.prog 3 = some false := by kernel_rfl
theorem und4 : Tryz.prog.underlying 4 = some (.bool) := by kernel_rfl
theorem agg4 : Xm Tryz.prog 4 = some false := by kernel_rfl
theorem und5 : Tryz.prog.underlying 5 = some (.int .u8) := by kernel_rfl
theorem agg5 : Xm Tryz.prog 5 = some false := by kernel_rfl
theorem und9 : Tryz.prog.underlying 9 = some (.string) := by kernel_rfl
theorem agg9 : Xm Tryz.prog 9 = some false := by kernel_rfl
theorem und20 : Tryz.prog.underlying 20 = some (.interface #[]) := by kernel_rfl
theorem agg20 : Xm Tryz.prog 20 = some false := by kernel_rfl
theorem Ym : Tryz.prog.underlying 22 = some (.slice 2) := by kernel_rfl
theorem agg22 : Xm Tryz.prog 22 = some false := by kernel_rfl
theorem und23 : Tryz.prog.underlying 23 = some (.struct #[{ name := "N", type := 3, offset := 0, embedded := false, tag := "", pkgPath := "", byteOffset := 0 }, { name := "A", type := 22, offset := 1, embedded := false, tag := "", pkgPath := "", byteOffset := 8 }]) := by kernel_rfl
theorem agg23 : Xm Tryz.prog 23 = some true := by kernel_rfl
theorem und24 : Tryz.prog.underlying 24 = some (.struct #[{ name := "N", type := 3, offset := 0, embedded := false, tag := "", pkgPath := "", byteOffset := 0 }, { name := "A", type := 22, offset := 1, embedded := false, tag := "", pkgPath := "", byteOffset := 8 }]) := by kernel_rfl
theorem agg24 : Xm Tryz.prog 24 = some true := by kernel_rfl
theorem und25 : Tryz.prog.underlying 25 = some (.int .u16) := by kernel_rfl
theorem agg25 : Xm Tryz.prog 25 = some false := by kernel_rfl
theorem K8 : Tryz.prog.underlying 26 = some (.slice 76) := by kernel_rfl
theorem agg26 : Xm Tryz.prog 26 = some false := by kernel_rfl
theorem und31 : Tryz.prog.underlying 31 = some (.int .u64) := by kernel_rfl
theorem Y0 : Xm Tryz.prog 31 = some false := by kernel_rfl
theorem und32 : Tryz.prog.underlying 32 = some (.array 16 31) := by kernel_rfl
theorem agg32 : Xm Tryz.prog 32 = some true := by kernel_rfl
theorem und33 : Tryz.prog.underlying 33 = some (.array 16 31) := by kernel_rfl
theorem agg33 : Xm Tryz.prog 33 = some true := by kernel_rfl
theorem und34 : Tryz.prog.underlying 34 = some (.interface #[("Error", 179)]) := by kernel_rfl
theorem agg34 : Xm Tryz.prog 34 = some false := by kernel_rfl
theorem Yt : Tryz.prog.underlying 35 = some (.interface #[("Error", 179)]) := by kernel_rfl
theorem agg35 : Xm Tryz.prog 35 = some false := by kernel_rfl
theorem Wh : Tryz.prog.underlying 38 = some (.slice 33) := by kernel_rfl
theorem agg38 : Xm Tryz.prog 38 = some false := by kernel_rfl
theorem Z4 : Tryz.prog.underlying 44 = some (.slice 31) := by kernel_rfl
theorem agg44 : Xm Tryz.prog 44 = some false := by kernel_rfl
theorem und45 : Tryz.prog.underlying 45 = some (.struct #[{ name := "Neg", type := 4, offset := 0, embedded := false, tag := "", pkgPath := "", byteOffset := 0 }, { name := "M", type := 44, offset := 1, embedded := false, tag := "", pkgPath := "", byteOffset := 8 }]) := by kernel_rfl
theorem agg45 : Xm Tryz.prog 45 = some true := by kernel_rfl
theorem und46 : Tryz.prog.underlying 46 = some (.struct #[{ name := "Neg", type := 4, offset := 0, embedded := false, tag := "", pkgPath := "", byteOffset := 0 }, { name := "M", type := 44, offset := 1, embedded := false, tag := "", pkgPath := "", byteOffset := 8 }]) := by kernel_rfl
theorem agg46 : Xm Tryz.prog 46 = some true := by kernel_rfl
theorem Kq : Tryz.prog.underlying 49 = some (.slice 46) := by kernel_rfl
theorem agg49 : Xm Tryz.prog 49 = some false := by kernel_rfl
theorem Nf : Tryz.prog.underlying 58 = some (.slice 3) := by kernel_rfl
theorem agg58 : Xm Tryz.prog 58 = some false := by kernel_rfl
theorem und76 : Tryz.prog.underlying 76 = some (.int .i16) := by kernel_rfl
theorem agg76 : Xm Tryz.prog 76 = some false := by kernel_rfl
theorem und78 : Tryz.prog.underlying 78 = some (.int .i64) := by kernel_rfl
theorem agg78 : Xm Tryz.prog 78 = some false := by kernel_rfl
theorem J0a : Tryz.prog.underlying 79 = some (.slice 38) := by kernel_rfl
theorem agg79 : Xm Tryz.prog 79 = some false := by kernel_rfl
theorem Rq : Tryz.prog.underlying 87 = some (.slice 9) := by kernel_rfl
theorem agg87 : Xm Tryz.prog 87 = some false := by kernel_rfl
theorem Gm : Tryz.prog.underlying 93 = some (.slice 49) := by kernel_rfl
theorem agg93 : Xm Tryz.prog 93 = some false := by kernel_rfl
theorem und110 : Tryz.prog.underlying 110 = some (.pointer 112) := by kernel_rfl
theorem agg110 : Xm Tryz.prog 110 = some false := by kernel_rfl
theorem und111 : Tryz.prog.underlying 111 = some (.struct #[{ name := "Op", type := 9, offset := 0, embedded := false, tag := "", pkgPath := "", byteOffset := 0 }, { name := "Err", type := 35, offset := 1, embedded := false, tag := "", pkgPath := "", byteOffset := 16 }]) := by kernel_rfl
theorem agg111 : Xm Tryz.prog 111 = some true := by kernel_rfl
theorem J0c : Tryz.prog.underlying 112 = some (.struct #[{ name := "Op", type := 9, offset := 0, embedded := false, tag := "", pkgPath := "", byteOffset := 0 }, { name := "Err", type := 35, offset := 1, embedded := false, tag := "", pkgPath := "", byteOffset := 16 }]) := by kernel_rfl
theorem agg112 : Xm Tryz.prog 112 = some true := by kernel_rfl
theorem und115 : Tryz.prog.underlying 115 = some (.int .u64) := by kernel_rfl
theorem agg115 : Xm Tryz.prog 115 = some false := by kernel_rfl
theorem und123 : Tryz.prog.underlying 123 = some (.pointer 78) := by kernel_rfl
theorem agg123 : Xm Tryz.prog 123 = some false := by kernel_rfl
theorem und138 : Tryz.prog.underlying 138 = some (.interface #[("Unwrap", 142)]) := by kernel_rfl
theorem agg138 : Xm Tryz.prog 138 = some false := by kernel_rfl
theorem N8 : Tryz.prog.underlying 141 = some (.slice 35) := by kernel_rfl
theorem agg141 : Xm Tryz.prog 141 = some false := by kernel_rfl
theorem und160 : Tryz.prog.underlying 160 = some (.array 17 31) := by kernel_rfl
theorem agg160 : Xm Tryz.prog 160 = some true := by kernel_rfl
theorem W3 : Xg Tryz.prog 2 = some 1 := by kernel_rfl
theorem bytes2 : Xn Tryz.prog 2 = some 8 := by kernel_rfl
theorem zero2 : Z5 Tryz.prog 2 = some (.int .i64 0) := by kernel_rfl
theorem Rw : Xg Tryz.prog 3 = some 1 := by kernel_rfl
theorem bytes3 : Xn Tryz.prog 3 = some 8 := by kernel_rfl
theorem zero3 : Z5 Tryz.prog 3 = some (.int .i64 0) := by kernel_rfl
theorem size4 : Xg Tryz.prog 4 = some 1 := by kernel_rfl
theorem bytes4 : Xn Tryz.prog 4 = some 1 := by kernel_rfl
theorem zero4 : Z5 Tryz.prog 4 = some (.bool false) := by kernel_rfl
theorem size5 : Xg Tryz.prog 5 = some 1 := by kernel_rfl
theorem bytes5 : Xn Tryz.prog 5 = some 1 := by kernel_rfl
theorem zero5 : Z5 Tryz.prog 5 = some (.int .u8 0) := by kernel_rfl
theorem J0j : Xg Tryz.prog 9 = some 1 := by kernel_rfl
theorem bytes9 : Xn Tryz.prog 9 = some 16 := by kernel_rfl
theorem zero9 : Z5 Tryz.prog 9 = some (.str .empty) := by kernel_rfl
theorem size20 : Xg Tryz.prog 20 = some 1 := by kernel_rfl
theorem bytes20 : Xn Tryz.prog 20 = some 16 := by kernel_rfl
theorem zero20 : Z5 Tryz.prog 20 = some (.nilI) := by kernel_rfl
theorem size22 : Xg Tryz.prog 22 = some 1 := by kernel_rfl
theorem bytes22 : Xn Tryz.prog 22 = some 24 := by kernel_rfl
theorem zero22 : Z5 Tryz.prog 22 = some (.nilS) := by kernel_rfl
theorem size23 : Xg Tryz.prog 23 = some 2 := by kernel_rfl
theorem bytes23 : Xn Tryz.prog 23 = some 32 := by kernel_rfl
theorem zero23 : Z5 Tryz.prog 23 = some (.agg [.int .i64 0, .nilS]) := by kernel_rfl
theorem size24 : Xg Tryz.prog 24 = some 2 := by kernel_rfl
theorem bytes24 : Xn Tryz.prog 24 = some 32 := by kernel_rfl
theorem zero24 : Z5 Tryz.prog 24 = some (.agg [.int .i64 0, .nilS]) := by kernel_rfl
theorem size25 : Xg Tryz.prog 25 = some 1 := by kernel_rfl
theorem bytes25 : Xn Tryz.prog 25 = some 2 := by kernel_rfl
theorem zero25 : Z5 Tryz.prog 25 = some (.int .u16 0) := by kernel_rfl
theorem size26 : Xg Tryz.prog 26 = some 1 := by kernel_rfl
theorem bytes26 : Xn Tryz.prog 26 = some 24 := by kernel_rfl
theorem zero26 : Z5 Tryz.prog 26 = some (.nilS) := by kernel_rfl
theorem Xt : Xg Tryz.prog 31 = some 1 := by kernel_rfl
theorem bytes31 : Xn Tryz.prog 31 = some 8 := by kernel_rfl
theorem zero31 : Z5 Tryz.prog 31 = some (.int .u64 0) := by kernel_rfl
theorem size32 : Xg Tryz.prog 32 = some 16 := by kernel_rfl
theorem bytes32 : Xn Tryz.prog 32 = some 128 := by kernel_rfl
theorem zero32 : Z5 Tryz.prog 32 = some (.agg ((Go.PW.dig 16 0).map (AV.int .u64))) := by kernel_rfl
theorem bld32 : Va Tryz.prog 32 [] = some (.agg ((Go.PW.dig 16 0).map (AV.int .u64))) := by kernel_rfl
theorem Wr : Xg Tryz.prog 33 = some 16 := by kernel_rfl
theorem bytes33 : Xn Tryz.prog 33 = some 128 := by kernel_rfl
theorem zero33 : Z5 Tryz.prog 33 = some (.agg ((Go.PW.dig 16 0).map (AV.int .u64))) := by kernel_rfl
theorem bld33 : Va Tryz.prog 33 [] = some (.agg ((Go.PW.dig 16 0).map (AV.int .u64))) := by kernel_rfl
theorem size34 : Xg Tryz.prog 34 = some 1 := by kernel_rfl
theorem bytes34 : Xn Tryz.prog 34 = some 16 := by kernel_rfl
theorem zero34 : Z5 Tryz.prog 34 = some (.nilI) := by kernel_rfl
theorem R9 : Xg Tryz.prog 35 = some 1 := by kernel_rfl
theorem bytes35 : Xn Tryz.prog 35 = some 16 := by kernel_rfl
theorem zero35 : Z5 Tryz.prog 35 = some (.nilI) := by kernel_rfl
theorem size38 : Xg Tryz.prog 38 = some 1 := by kernel_rfl
theorem bytes38 : Xn Tryz.prog 38 = some 24 := by kernel_rfl
theorem zero38 : Z5 Tryz.prog 38 = some (.nilS) := by kernel_rfl
theorem size44 : Xg Tryz.prog 44 = some 1 := by kernel_rfl
theorem bytes44 : Xn Tryz.prog 44 = some 24 := by kernel_rfl
theorem zero44 : Z5 Tryz.prog 44 = some (.nilS) := by kernel_rfl
theorem size45 : Xg Tryz.prog 45 = some 2 := by kernel_rfl
theorem bytes45 : Xn Tryz.prog 45 = some 32 := by kernel_rfl
theorem zero45 : Z5 Tryz.prog 45 = some (.agg [.bool false, .nilS]) := by kernel_rfl
theorem Kv : Xg Tryz.prog 46 = some 2 := by kernel_rfl
theorem bytes46 : Xn Tryz.prog 46 = some 32 := by kernel_rfl
theorem zero46 : Z5 Tryz.prog 46 = some (.agg [.bool false, .nilS]) := by kernel_rfl
theorem J0k : Xg Tryz.prog 49 = some 1 := by kernel_rfl
theorem bytes49 : Xn Tryz.prog 49 = some 24 := by kernel_rfl
theorem zero49 : Z5 Tryz.prog 49 = some (.nilS) := by kernel_rfl
theorem size58 : Xg Tryz.prog 58 = some 1 := by kernel_rfl
theorem bytes58 : Xn Tryz.prog 58 = some 24 := by kernel_rfl
theorem zero58 : Z5 Tryz.prog 58 = some (.nilS) := by kernel_rfl
theorem size76 : Xg Tryz.prog 76 = some 1 := by kernel_rfl
theorem bytes76 : Xn Tryz.prog 76 = some 2 := by kernel_rfl
theorem zero76 : Z5 Tryz.prog 76 = some (.int .i16 0) := by kernel_rfl
theorem size78 : Xg Tryz.prog 78 = some 1 := by kernel_rfl
theorem bytes78 : Xn Tryz.prog 78 = some 8 := by kernel_rfl
theorem zero78 : Z5 Tryz.prog 78 = some (.int .i64 0) := by kernel_rfl
theorem size79 : Xg Tryz.prog 79 = some 1 := by kernel_rfl
theorem bytes79 : Xn Tryz.prog 79 = some 24 := by kernel_rfl
theorem zero79 : Z5 Tryz.prog 79 = some (.nilS) := by kernel_rfl
theorem size87 : Xg Tryz.prog 87 = some 1 := by kernel_rfl
theorem bytes87 : Xn Tryz.prog 87 = some 24 := by kernel_rfl
theorem zero87 : Z5 Tryz.prog 87 = some (.nilS) := by kernel_rfl
theorem size93 : Xg Tryz.prog 93 = some 1 := by kernel_rfl
theorem bytes93 : Xn Tryz.prog 93 = some 24 := by kernel_rfl
theorem zero93 : Z5 Tryz.prog 93 = some (.nilS) := by kernel_rfl
theorem size110 : Xg Tryz.prog 110 = some 1 := by kernel_rfl
theorem bytes110 : Xn Tryz.prog 110 = some 8 := by kernel_rfl
theorem zero110 : Z5 Tryz.prog 110 = some (.nilP) := by kernel_rfl
theorem size111 : Xg Tryz.prog 111 = some 2 := by kernel_rfl
theorem bytes111 : Xn Tryz.prog 111 = some 32 := by kernel_rfl
theorem zero111 : Z5 Tryz.prog 111 = some (.agg [.str .empty, .nilI]) := by kernel_rfl
theorem size112 : Xg Tryz.prog 112 = some 2 := by kernel_rfl
theorem bytes112 : Xn Tryz.prog 112 = some 32 := by kernel_rfl
theorem zero112 : Z5 Tryz.prog 112 = some (.agg [.str .empty, .nilI]) := by kernel_rfl
theorem size115 : Xg Tryz.prog 115 = some 1 := by kernel_rfl
theorem bytes115 : Xn Tryz.prog 115 = some 8 := by kernel_rfl
theorem zero115 : Z5 Tryz.prog 115 = some (.int .u64 0) := by kernel_rfl
theorem size123 : Xg Tryz.prog 123 = some 1 := by kernel_rfl
theorem bytes123 : Xn Tryz.prog 123 = some 8 := by kernel_rfl
theorem zero123 : Z5 Tryz.prog 123 = some (.nilP) := by kernel_rfl
theorem size138 : Xg Tryz.prog 138 = some 1 := by kernel_rfl
theorem bytes138 : Xn Tryz.prog 138 = some 16 := by kernel_rfl
theorem zero138 : Z5 Tryz.prog 138 = some (.nilI) := by kernel_rfl
theorem size141 : Xg Tryz.prog 141 = some 1 := by kernel_rfl
theorem bytes141 : Xn Tryz.prog 141 = some 24 := by kernel_rfl
theorem zero141 : Z5 Tryz.prog 141 = some (.nilS) := by kernel_rfl
theorem size160 : Xg Tryz.prog 160 = some 17 := by kernel_rfl
theorem bytes160 : Xn Tryz.prog 160 = some 136 := by kernel_rfl
theorem zero160 : Z5 Tryz.prog 160 = some (.agg ((Go.PW.dig 17 0).map (AV.int .u64))) := by kernel_rfl
theorem bld160 : Va Tryz.prog 160 [] = some (.agg ((Go.PW.dig 17 0).map (AV.int .u64))) := by kernel_rfl
theorem lenS22 (h o n c : Nat) : Qy Tryz.prog .len #[22] [.sl h o n c] = some (.int .i64 n) := by simp [Qy, Ym]
theorem lenG22 (h o n z : Nat) : Qy Tryz.prog .len #[22] [.sg h o n z] = some (.int .i64 n) := by simp [Qy, Ym]
theorem lenN22 : Qy Tryz.prog .len #[22] [.nilS] = some (.int .i64 0) := by simp [Qy, Ym]
theorem lenS26 (h o n c : Nat) : Qy Tryz.prog .len #[26] [.sl h o n c] = some (.int .i64 n) := by simp [Qy, K8]
theorem lenG26 (h o n z : Nat) : Qy Tryz.prog .len #[26] [.sg h o n z] = some (.int .i64 n) := by simp [Qy, K8]
theorem lenN26 : Qy Tryz.prog .len #[26] [.nilS] = some (.int .i64 0) := by simp [Qy, K8]
theorem lenS38 (h o n c : Nat) : Qy Tryz.prog .len #[38] [.sl h o n c] = some (.int .i64 n) := by simp [Qy, Wh]
theorem lenG38 (h o n z : Nat) : Qy Tryz.prog .len #[38] [.sg h o n z] = some (.int .i64 n) := by simp [Qy, Wh]
theorem lenN38 : Qy Tryz.prog .len #[38] [.nilS] = some (.int .i64 0) := by simp [Qy, Wh]
theorem lenS44 (h o n c : Nat) : Qy Tryz.prog .len #[44] [.sl h o n c] = some (.int .i64 n) := by simp [Qy, Z4]
theorem lenG44 (h o n z : Nat) : Qy Tryz.prog .len #[44] [.sg h o n z] = some (.int .i64 n) := by simp [Qy, Z4]
theorem lenN44 : Qy Tryz.prog .len #[44] [.nilS] = some (.int .i64 0) := by simp [Qy, Z4]
theorem lenS49 (h o n c : Nat) : Qy Tryz.prog .len #[49] [.sl h o n c] = some (.int .i64 n) := by simp [Qy, Kq]
theorem lenG49 (h o n z : Nat) : Qy Tryz.prog .len #[49] [.sg h o n z] = some (.int .i64 n) := by simp [Qy, Kq]
theorem lenN49 : Qy Tryz.prog .len #[49] [.nilS] = some (.int .i64 0) := by simp [Qy, Kq]
theorem lenS58 (h o n c : Nat) : Qy Tryz.prog .len #[58] [.sl h o n c] = some (.int .i64 n) := by simp [Qy, Nf]
theorem lenG58 (h o n z : Nat) : Qy Tryz.prog .len #[58] [.sg h o n z] = some (.int .i64 n) := by simp [Qy, Nf]
theorem lenN58 : Qy Tryz.prog .len #[58] [.nilS] = some (.int .i64 0) := by simp [Qy, Nf]
theorem lenS79 (h o n c : Nat) : Qy Tryz.prog .len #[79] [.sl h o n c] = some (.int .i64 n) := by simp [Qy, J0a]
theorem lenG79 (h o n z : Nat) : Qy Tryz.prog .len #[79] [.sg h o n z] = some (.int .i64 n) := by simp [Qy, J0a]
theorem lenN79 : Qy Tryz.prog .len #[79] [.nilS] = some (.int .i64 0) := by simp [Qy, J0a]
theorem lenS87 (h o n c : Nat) : Qy Tryz.prog .len #[87] [.sl h o n c] = some (.int .i64 n) := by simp [Qy, Rq]
theorem lenG87 (h o n z : Nat) : Qy Tryz.prog .len #[87] [.sg h o n z] = some (.int .i64 n) := by simp [Qy, Rq]
theorem lenN87 : Qy Tryz.prog .len #[87] [.nilS] = some (.int .i64 0) := by simp [Qy, Rq]
theorem lenS93 (h o n c : Nat) : Qy Tryz.prog .len #[93] [.sl h o n c] = some (.int .i64 n) := by simp [Qy, Gm]
theorem lenG93 (h o n z : Nat) : Qy Tryz.prog .len #[93] [.sg h o n z] = some (.int .i64 n) := by simp [Qy, Gm]
theorem lenN93 : Qy Tryz.prog .len #[93] [.nilS] = some (.int .i64 0) := by simp [Qy, Gm]
theorem lenS141 (h o n c : Nat) : Qy Tryz.prog .len #[141] [.sl h o n c] = some (.int .i64 n) := by simp [Qy, N8]
theorem lenG141 (h o n z : Nat) : Qy Tryz.prog .len #[141] [.sg h o n z] = some (.int .i64 n) := by simp [Qy, N8]
theorem lenN141 : Qy Tryz.prog .len #[141] [.nilS] = some (.int .i64 0) := by simp [Qy, N8]
theorem X8 {h o n c : Nat} {l : IntKind} {j : Int} (h0 : 0 ≤ j) (h1 : j < (n : Int)) : X3 Tryz.prog 22 (.sl h o n c) (.int l j) = some (.ptr h (o + j.toNat)) := J0x Ym W3 h0 h1
theorem X9 {h o n : Nat} {l : IntKind} {j : Int} (h0 : 0 ≤ j) (h1 : j < (n : Int)) : X3 Tryz.prog 22 (.sg h o n 1) (.int l j) = some (.ptr h (o + j.toNat)) := J0y Ym W3 h0 h1
theorem Vp {h o n c : Nat} {l : IntKind} {j : Int} (h0 : 0 ≤ j) (h1 : j < (n : Int)) : X3 Tryz.prog 26 (.sl h o n c) (.int l j) = some (.ptr h (o + j.toNat)) := J0x K8 size76 h0 h1
theorem Vq {h o n : Nat} {l : IntKind} {j : Int} (h0 : 0 ≤ j) (h1 : j < (n : Int)) : X3 Tryz.prog 26 (.sg h o n 1) (.int l j) = some (.ptr h (o + j.toNat)) := J0y K8 size76 h0 h1
theorem Zm {h o n c : Nat} {l : IntKind} {j : Int} (h0 : 0 ≤ j) (h1 : j < (n : Int)) : X3 Tryz.prog 38 (.sl h o n c) (.int l j) = some (.ptr h (o + j.toNat * 16)) := at_sl Wh Wr h0 h1
theorem Zn {h o n : Nat} {l : IntKind} {j : Int} (h0 : 0 ≤ j) (h1 : j < (n : Int)) : X3 Tryz.prog 38 (.sg h o n 16) (.int l j) = some (.ptr h (o + j.toNat * 16)) := at_sg Wh Wr h0 h1
theorem X6 {h o n c : Nat} {l : IntKind} {j : Int} (h0 : 0 ≤ j) (h1 : j < (n : Int)) : X3 Tryz.prog 44 (.sl h o n c) (.int l j) = some (.ptr h (o + j.toNat)) := J0x Z4 Xt h0 h1
theorem X7 {h o n : Nat} {l : IntKind} {j : Int} (h0 : 0 ≤ j) (h1 : j < (n : Int)) : X3 Tryz.prog 44 (.sg h o n 1) (.int l j) = some (.ptr h (o + j.toNat)) := J0y Z4 Xt h0 h1
theorem Ye {h o n c : Nat} {l : IntKind} {j : Int} (h0 : 0 ≤ j) (h1 : j < (n : Int)) : X3 Tryz.prog 49 (.sl h o n c) (.int l j) = some (.ptr h (o + j.toNat * 2)) := at_sl Kq Kv h0 h1
theorem Yf {h o n : Nat} {l : IntKind} {j : Int} (h0 : 0 ≤ j) (h1 : j < (n : Int)) : X3 Tryz.prog 49 (.sg h o n 2) (.int l j) = some (.ptr h (o + j.toNat * 2)) := at_sg Kq Kv h0 h1
theorem six58 {h o n c : Nat} {l : IntKind} {j : Int} (h0 : 0 ≤ j) (h1 : j < (n : Int)) : X3 Tryz.prog 58 (.sl h o n c) (.int l j) = some (.ptr h (o + j.toNat)) := J0x Nf Rw h0 h1
theorem gix58 {h o n : Nat} {l : IntKind} {j : Int} (h0 : 0 ≤ j) (h1 : j < (n : Int)) : X3 Tryz.prog 58 (.sg h o n 1) (.int l j) = some (.ptr h (o + j.toNat)) := J0y Nf Rw h0 h1
theorem Yi {h o n c : Nat} {l : IntKind} {j : Int} (h0 : 0 ≤ j) (h1 : j < (n : Int)) : X3 Tryz.prog 79 (.sl h o n c) (.int l j) = some (.ptr h (o + j.toNat)) := J0x J0a size38 h0 h1
theorem Yk {h o n : Nat} {l : IntKind} {j : Int} (h0 : 0 ≤ j) (h1 : j < (n : Int)) : X3 Tryz.prog 79 (.sg h o n 1) (.int l j) = some (.ptr h (o + j.toNat)) := J0y J0a size38 h0 h1
theorem six87 {h o n c : Nat} {l : IntKind} {j : Int} (h0 : 0 ≤ j) (h1 : j < (n : Int)) : X3 Tryz.prog 87 (.sl h o n c) (.int l j) = some (.ptr h (o + j.toNat)) := J0x Rq J0j h0 h1
theorem gix87 {h o n : Nat} {l : IntKind} {j : Int} (h0 : 0 ≤ j) (h1 : j < (n : Int)) : X3 Tryz.prog 87 (.sg h o n 1) (.int l j) = some (.ptr h (o + j.toNat)) := J0y Rq J0j h0 h1
theorem Vm {h o n c : Nat} {l : IntKind} {j : Int} (h0 : 0 ≤ j) (h1 : j < (n : Int)) : X3 Tryz.prog 93 (.sl h o n c) (.int l j) = some (.ptr h (o + j.toNat)) := J0x Gm J0k h0 h1
theorem Vn {h o n : Nat} {l : IntKind} {j : Int} (h0 : 0 ≤ j) (h1 : j < (n : Int)) : X3 Tryz.prog 93 (.sg h o n 1) (.int l j) = some (.ptr h (o + j.toNat)) := J0y Gm J0k h0 h1
theorem Xs {h o : Nat} {l : IntKind} {j : Int} (h0 : 0 ≤ j) (h1 : j < 16) : X3 Tryz.prog 32 (.ptr h o) (.int l j) = some (.ptr h (o + j.toNat * 1)) := Rm und32 Xt h0 h1
theorem sla32 {h o : Nat} : Zu Tryz.prog 32 (.ptr h o) none none none = some (.sl h o 16 16) := Gu und32 Xt
theorem Xq {h o : Nat} {l : IntKind} {q : Int} (h0 : 0 ≤ q) (h1 : q ≤ 16) : Zu Tryz.prog 32 (.ptr h o) none (some (.int l q)) none = some (.sl h o q.toNat 16) := Wq und32 Xt h0 h1
theorem Xr {h o : Nat} {l : IntKind} {j : Int} (h0 : 0 ≤ j) (h1 : j < 16) : X3 Tryz.prog 33 (.ptr h o) (.int l j) = some (.ptr h (o + j.toNat * 1)) := Rm und33 Xt h0 h1
theorem sla33 {h o : Nat} : Zu Tryz.prog 33 (.ptr h o) none none none = some (.sl h o 16 16) := Gu und33 Xt
theorem Xp {h o : Nat} {l : IntKind} {q : Int} (h0 : 0 ≤ q) (h1 : q ≤ 16) : Zu Tryz.prog 33 (.ptr h o) none (some (.int l q)) none = some (.sl h o q.toNat 16) := Wq und33 Xt h0 h1
theorem ix33 {l k : IntKind} {xs : List Int} {j : Int} (hn : xs.length = 16) (h0 : 0 ≤ j) (h1 : j < 16) : Ky Tryz.prog 33 (.agg (xs.map (AV.int k))) (.int l j) = some (.int k (xs.getD j.toNat 0)) := Rf und33 Xt Y0 hn h0 h1
theorem idx160 {h o : Nat} {l : IntKind} {j : Int} (h0 : 0 ≤ j) (h1 : j < 17) : X3 Tryz.prog 160 (.ptr h o) (.int l j) = some (.ptr h (o + j.toNat * 1)) := Rm und160 Xt h0 h1
theorem sla160 {h o : Nat} : Zu Tryz.prog 160 (.ptr h o) none none none = some (.sl h o 17 17) := Gu und160 Xt
theorem slh160 {h o : Nat} {l : IntKind} {q : Int} (h0 : 0 ≤ q) (h1 : q ≤ 17) : Zu Tryz.prog 160 (.ptr h o) none (some (.int l q)) none = some (.sl h o q.toNat 17) := Wq und160 Xt h0 h1
theorem fad23_0 {h o : Nat} : Xh Tryz.prog 23 (.ptr h o) 0 = some (.ptr h (o)) := by simp [Xh, und23, Rw]
theorem fad23_1 {h o : Nat} : Xh Tryz.prog 23 (.ptr h o) 1 = some (.ptr h (o + 1)) := by simp [Xh, und23, size22]
theorem fad24_0 {h o : Nat} : Xh Tryz.prog 24 (.ptr h o) 0 = some (.ptr h (o)) := by simp [Xh, und24, Rw]
theorem fad24_1 {h o : Nat} : Xh Tryz.prog 24 (.ptr h o) 1 = some (.ptr h (o + 1)) := by simp [Xh, und24, size22]
theorem fad45_0 {h o : Nat} : Xh Tryz.prog 45 (.ptr h o) 0 = some (.ptr h (o)) := by simp [Xh, und45, size4]
theorem fad45_1 {h o : Nat} : Xh Tryz.prog 45 (.ptr h o) 1 = some (.ptr h (o + 1)) := by simp [Xh, und45, size44]
theorem fad46_0 {h o : Nat} : Xh Tryz.prog 46 (.ptr h o) 0 = some (.ptr h (o)) := by simp [Xh, und46, size4]
theorem fad46_1 {h o : Nat} : Xh Tryz.prog 46 (.ptr h o) 1 = some (.ptr h (o + 1)) := by simp [Xh, und46, size44]
theorem fad111_0 {h o : Nat} : Xh Tryz.prog 111 (.ptr h o) 0 = some (.ptr h (o)) := by simp [Xh, und111, J0j]
theorem fad111_1 {h o : Nat} : Xh Tryz.prog 111 (.ptr h o) 1 = some (.ptr h (o + 1)) := by simp [Xh, und111, R9]
theorem fad112_0 {h o : Nat} : Xh Tryz.prog 112 (.ptr h o) 0 = some (.ptr h (o)) := by simp [Xh, J0c, J0j]
theorem fad112_1 {h o : Nat} : Xh Tryz.prog 112 (.ptr h o) 1 = some (.ptr h (o + 1)) := by simp [Xh, J0c, R9]
theorem Qu : Va Tryz.prog 24 [] = some (.agg [(.int .i64 0), (.nilS)]) := by
  simp [Va, zero24, Nc, und24, Rw, size22, Q1, Jr, AV.cells_agg]
theorem Qv {x0 : AV} (h0 : x0.one = true) : Va Tryz.prog 24 [(0, x0)] = some (.agg [x0, (.nilS)]) := by
  simp [Va, zero24, Nc, und24, Rw, size22, Q1, Jr, AV.solid_one h0, AV.cells_one h0, AV.cells_agg]
theorem Qq {x0 x1 : AV} (h0 : x0.one = true) (h1 : x1.one = true) : Va Tryz.prog 24 [(0, x0), (1, x1)] = some (.agg [x0, x1]) := by
  simp [Va, zero24, Nc, und24, Rw, size22, Q1, Jr, AV.solid_one h0, AV.cells_one h0, AV.solid_one h1, AV.cells_one h1, AV.cells_agg]
theorem X4 : Va Tryz.prog 46 [] = some (.agg [(.bool false), (.nilS)]) := by
  simp [Va, zero46, Nc, und46, size4, size44, Q1, Jr, AV.cells_agg]
theorem X0 {x0 x1 : AV} (h0 : x0.one = true) (h1 : x1.one = true) : Va Tryz.prog 46 [(0, x0), (1, x1)] = some (.agg [x0, x1]) := by
  simp [Va, zero46, Nc, und46, size4, size44, Q1, Jr, AV.solid_one h0, AV.cells_one h0, AV.solid_one h1, AV.cells_one h1, AV.cells_agg]
theorem eg32 : Tryz.prog.eqGuardType Tryz.prog.depth 32 = false := by kernel_rfl
theorem eg33 : Tryz.prog.eqGuardType Tryz.prog.depth 33 = false := by kernel_rfl
theorem eg160 : Tryz.prog.eqGuardType Tryz.prog.depth 160 = false := by kernel_rfl
theorem eqB4 (a b : Bool) : Xk Tryz.prog Op.maxDepth 4 (.bool a) (.bool b) = some (a == b) := eq_bools und4
theorem eqSl22 (h o n c : Nat) : Xk Tryz.prog Op.maxDepth 22 (.sl h o n c) .nilS = some false := Vg Ym
theorem eqSg22 (h o n c : Nat) : Xk Tryz.prog Op.maxDepth 22 (.sg h o n c) .nilS = some false := Vh Ym
theorem eqSn22 : Xk Tryz.prog Op.maxDepth 22 .nilS .nilS = some true := Yr Ym
theorem eqSl26 (h o n c : Nat) : Xk Tryz.prog Op.maxDepth 26 (.sl h o n c) .nilS = some false := Vg K8
theorem eqSg26 (h o n c : Nat) : Xk Tryz.prog Op.maxDepth 26 (.sg h o n c) .nilS = some false := Vh K8
theorem eqSn26 : Xk Tryz.prog Op.maxDepth 26 .nilS .nilS = some true := Yr K8
theorem eqSl38 (h o n c : Nat) : Xk Tryz.prog Op.maxDepth 38 (.sl h o n c) .nilS = some false := Vg Wh
theorem eqSg38 (h o n c : Nat) : Xk Tryz.prog Op.maxDepth 38 (.sg h o n c) .nilS = some false := Vh Wh
theorem eqSn38 : Xk Tryz.prog Op.maxDepth 38 .nilS .nilS = some true := Yr Wh
theorem eqSl44 (h o n c : Nat) : Xk Tryz.prog Op.maxDepth 44 (.sl h o n c) .nilS = some false := Vg Z4
theorem eqSg44 (h o n c : Nat) : Xk Tryz.prog Op.maxDepth 44 (.sg h o n c) .nilS = some false := Vh Z4
theorem eqSn44 : Xk Tryz.prog Op.maxDepth 44 .nilS .nilS = some true := Yr Z4
theorem eqSl49 (h o n c : Nat) : Xk Tryz.prog Op.maxDepth 49 (.sl h o n c) .nilS = some false := Vg Kq
theorem eqSg49 (h o n c : Nat) : Xk Tryz.prog Op.maxDepth 49 (.sg h o n c) .nilS = some false := Vh Kq
theorem eqSn49 : Xk Tryz.prog Op.maxDepth 49 .nilS .nilS = some true := Yr Kq
theorem eqSl58 (h o n c : Nat) : Xk Tryz.prog Op.maxDepth 58 (.sl h o n c) .nilS = some false := Vg Nf
theorem eqSg58 (h o n c : Nat) : Xk Tryz.prog Op.maxDepth 58 (.sg h o n c) .nilS = some false := Vh Nf
theorem eqSn58 : Xk Tryz.prog Op.maxDepth 58 .nilS .nilS = some true := Yr Nf
theorem eqSl79 (h o n c : Nat) : Xk Tryz.prog Op.maxDepth 79 (.sl h o n c) .nilS = some false := Vg J0a
theorem eqSg79 (h o n c : Nat) : Xk Tryz.prog Op.maxDepth 79 (.sg h o n c) .nilS = some false := Vh J0a
theorem eqSn79 : Xk Tryz.prog Op.maxDepth 79 .nilS .nilS = some true := Yr J0a
theorem eqSl87 (h o n c : Nat) : Xk Tryz.prog Op.maxDepth 87 (.sl h o n c) .nilS = some false := Vg Rq
theorem eqSg87 (h o n c : Nat) : Xk Tryz.prog Op.maxDepth 87 (.sg h o n c) .nilS = some false := Vh Rq
theorem eqSn87 : Xk Tryz.prog Op.maxDepth 87 .nilS .nilS = some true := Yr Rq
theorem eqSl93 (h o n c : Nat) : Xk Tryz.prog Op.maxDepth 93 (.sl h o n c) .nilS = some false := Vg Gm
theorem eqSg93 (h o n c : Nat) : Xk Tryz.prog Op.maxDepth 93 (.sg h o n c) .nilS = some false := Vh Gm
theorem eqSn93 : Xk Tryz.prog Op.maxDepth 93 .nilS .nilS = some true := Yr Gm
theorem eqPn110 (h o : Nat) : Xk Tryz.prog Op.maxDepth 110 (.ptr h o) .nilP = some false := Rg und110
theorem eqPP110 : Xk Tryz.prog Op.maxDepth 110 .nilP .nilP = some true := G6 und110
theorem eqPn123 (h o : Nat) : Xk Tryz.prog Op.maxDepth 123 (.ptr h o) .nilP = some false := Rg und123
theorem eqPP123 : Xk Tryz.prog Op.maxDepth 123 .nilP .nilP = some true := G6 und123
theorem eqSl141 (h o n c : Nat) : Xk Tryz.prog Op.maxDepth 141 (.sl h o n c) .nilS = some false := Vg N8
theorem eqSg141 (h o n c : Nat) : Xk Tryz.prog Op.maxDepth 141 (.sg h o n c) .nilS = some false := Vh N8
theorem eqSn141 : Xk Tryz.prog Op.maxDepth 141 .nilS .nilS = some true := Yr N8
theorem cv2_31 (H : Hp) (k : IntKind) (n : Int) : Uu Tryz.prog H 2 31 (.int k n) = some (.int .u64 (IntKind.u64.wrap n)) := by simp [Uu, und2, und31]
theorem N0 (H : Hp) (k : IntKind) (n : Int) : Uu Tryz.prog H 3 115 (.int k n) = some (.int .u64 (IntKind.u64.wrap n)) := by simp [Uu, und3, und115]
theorem J1w (H : Hp) (k : IntKind) (n : Int) : Uu Tryz.prog H 5 3 (.int k n) = some (.int .i64 (IntKind.i64.wrap n)) := by simp [Uu, und5, und3]
theorem cv25_2 (H : Hp) (k : IntKind) (n : Int) : Uu Tryz.prog H 25 2 (.int k n) = some (.int .i64 (IntKind.i64.wrap n)) := by simp [Uu, und25, und2]
theorem cv31_2 (H : Hp) (k : IntKind) (n : Int) : Uu Tryz.prog H 31 2 (.int k n) = some (.int .i64 (IntKind.i64.wrap n)) := by simp [Uu, und31, und2]
theorem cv31_5 (H : Hp) (k : IntKind) (n : Int) : Uu Tryz.prog H 31 5 (.int k n) = some (.int .u8 (IntKind.u8.wrap n)) := by simp [Uu, und31, und5]
theorem cv76_2 (H : Hp) (k : IntKind) (n : Int) : Uu Tryz.prog H 76 2 (.int k n) = some (.int .i64 (IntKind.i64.wrap n)) := by simp [Uu, und76, und2]
theorem Z8 : type_of% (Jc @und2 (Jc @agg2 (Jc @W3 (Jc @bytes2 (@zero2))))) := Jc @und2 (Jc @agg2 (Jc @W3 (Jc @bytes2 (@zero2))))
theorem Xd : type_of% (Jc @und3 (Jc @agg3 (Jc @Rw (Jc @bytes3 (@zero3))))) := Jc @und3 (Jc @agg3 (Jc @Rw (Jc @bytes3 (@zero3))))
theorem Xz : type_of% (Jc @und4 (Jc @agg4 (Jc @size4 (Jc @bytes4 (Jc @zero4 (@eqB4)))))) := Jc @und4 (Jc @agg4 (Jc @size4 (Jc @bytes4 (Jc @zero4 (@eqB4)))))
theorem tyb5 : type_of% (Jc @und5 (Jc @agg5 (Jc @size5 (Jc @bytes5 (@zero5))))) := Jc @und5 (Jc @agg5 (Jc @size5 (Jc @bytes5 (@zero5))))
theorem Ng : type_of% (Jc @und9 (Jc @agg9 (Jc @J0j (Jc @bytes9 (@zero9))))) := Jc @und9 (Jc @agg9 (Jc @J0j (Jc @bytes9 (@zero9))))
theorem tyb20 : type_of% (Jc @und20 (Jc @agg20 (Jc @size20 (Jc @bytes20 (@zero20))))) := Jc @und20 (Jc @agg20 (Jc @size20 (Jc @bytes20 (@zero20))))
theorem Xx : type_of% (Jc @Ym (Jc @agg22 (Jc @size22 (Jc @bytes22 (Jc @zero22 (Jc @lenS22 (Jc @lenG22 (Jc @lenN22 (Jc @eqSl22 (Jc @eqSg22 (@eqSn22))))))))))) := Jc @Ym (Jc @agg22 (Jc @size22 (Jc @bytes22 (Jc @zero22 (Jc @lenS22 (Jc @lenG22 (Jc @lenN22 (Jc @eqSl22 (Jc @eqSg22 (@eqSn22))))))))))
theorem Xw : type_of% (Jc @und23 (Jc @agg23 (Jc @size23 (Jc @bytes23 (Jc @zero23 (Jc @fad23_0 (@fad23_1))))))) := Jc @und23 (Jc @agg23 (Jc @size23 (Jc @bytes23 (Jc @zero23 (Jc @fad23_0 (@fad23_1))))))
theorem Xv : type_of% (Jc @und24 (Jc @agg24 (Jc @size24 (Jc @bytes24 (Jc @zero24 (Jc @fad24_0 (@fad24_1))))))) := Jc @und24 (Jc @agg24 (Jc @size24 (Jc @bytes24 (Jc @zero24 (Jc @fad24_0 (@fad24_1))))))
theorem Rv : type_of% (Jc @und25 (Jc @agg25 (Jc @size25 (Jc @bytes25 (@zero25))))) := Jc @und25 (Jc @agg25 (Jc @size25 (Jc @bytes25 (@zero25))))
theorem Ru : type_of% (Jc @K8 (Jc @agg26 (Jc @size26 (Jc @bytes26 (Jc @zero26 (Jc @lenS26 (Jc @lenG26 (Jc @lenN26 (Jc @eqSl26 (Jc @eqSg26 (@eqSn26))))))))))) := Jc @K8 (Jc @agg26 (Jc @size26 (Jc @bytes26 (Jc @zero26 (Jc @lenS26 (Jc @lenG26 (Jc @lenN26 (Jc @eqSl26 (Jc @eqSg26 (@eqSn26))))))))))
theorem X1 : type_of% (Jc @und31 (Jc @Y0 (Jc @Xt (Jc @bytes31 (@zero31))))) := Jc @und31 (Jc @Y0 (Jc @Xt (Jc @bytes31 (@zero31))))
theorem Z3 : type_of% (Jc @und32 (Jc @agg32 (Jc @size32 (Jc @bytes32 (Jc @zero32 (Jc @bld32 (Jc @sla32 (@eg32)))))))) := Jc @und32 (Jc @agg32 (Jc @size32 (Jc @bytes32 (Jc @zero32 (Jc @bld32 (Jc @sla32 (@eg32)))))))
theorem Z2 : type_of% (Jc @und33 (Jc @agg33 (Jc @Wr (Jc @bytes33 (Jc @zero33 (Jc @bld33 (Jc @sla33 (@eg33)))))))) := Jc @und33 (Jc @agg33 (Jc @Wr (Jc @bytes33 (Jc @zero33 (Jc @bld33 (Jc @sla33 (@eg33)))))))
theorem Yd : type_of% (Jc @und34 (Jc @agg34 (Jc @size34 (Jc @bytes34 (@zero34))))) := Jc @und34 (Jc @agg34 (Jc @size34 (Jc @bytes34 (@zero34))))
theorem Yc : type_of% (Jc @Yt (Jc @agg35 (Jc @R9 (Jc @bytes35 (@zero35))))) := Jc @Yt (Jc @agg35 (Jc @R9 (Jc @bytes35 (@zero35))))
theorem Yo : type_of% (Jc @Wh (Jc @agg38 (Jc @size38 (Jc @bytes38 (Jc @zero38 (Jc @lenS38 (Jc @lenG38 (Jc @lenN38 (Jc @eqSl38 (Jc @eqSg38 (@eqSn38))))))))))) := Jc @Wh (Jc @agg38 (Jc @size38 (Jc @bytes38 (Jc @zero38 (Jc @lenS38 (Jc @lenG38 (Jc @lenN38 (Jc @eqSl38 (Jc @eqSg38 (@eqSn38))))))))))
theorem Xj : type_of% (Jc @Z4 (Jc @agg44 (Jc @size44 (Jc @bytes44 (Jc @zero44 (Jc @lenS44 (Jc @lenG44 (Jc @lenN44 (Jc @eqSl44 (Jc @eqSg44 (@eqSn44))))))))))) := Jc @Z4 (Jc @agg44 (Jc @size44 (Jc @bytes44 (Jc @zero44 (Jc @lenS44 (Jc @lenG44 (Jc @lenN44 (Jc @eqSl44 (Jc @eqSg44 (@eqSn44))))))))))
theorem Za : type_of% (Jc @und45 (Jc @agg45 (Jc @size45 (Jc @bytes45 (Jc @zero45 (Jc @fad45_0 (@fad45_1))))))) := Jc @und45 (Jc @agg45 (Jc @size45 (Jc @bytes45 (Jc @zero45 (Jc @fad45_0 (@fad45_1))))))
theorem Z9 : type_of% (Jc @und46 (Jc @agg46 (Jc @Kv (Jc @bytes46 (Jc @zero46 (Jc @fad46_0 (@fad46_1))))))) := Jc @und46 (Jc @agg46 (Jc @Kv (Jc @bytes46 (Jc @zero46 (Jc @fad46_0 (@fad46_1))))))
theorem Vx : type_of% (Jc @Kq (Jc @agg49 (Jc @J0k (Jc @bytes49 (Jc @zero49 (Jc @lenS49 (Jc @lenG49 (Jc @lenN49 (Jc @eqSl49 (Jc @eqSg49 (@eqSn49))))))))))) := Jc @Kq (Jc @agg49 (Jc @J0k (Jc @bytes49 (Jc @zero49 (Jc @lenS49 (Jc @lenG49 (Jc @lenN49 (Jc @eqSl49 (Jc @eqSg49 (@eqSn49))))))))))
theorem tyb58 : type_of% (Jc @Nf (Jc @agg58 (Jc @size58 (Jc @bytes58 (Jc @zero58 (Jc @lenS58 (Jc @lenG58 (Jc @lenN58 (Jc @eqSl58 (Jc @eqSg58 (@eqSn58))))))))))) := Jc @Nf (Jc @agg58 (Jc @size58 (Jc @bytes58 (Jc @zero58 (Jc @lenS58 (Jc @lenG58 (Jc @lenN58 (Jc @eqSl58 (Jc @eqSg58 (@eqSn58))))))))))
theorem Rt : type_of% (Jc @und76 (Jc @agg76 (Jc @size76 (Jc @bytes76 (@zero76))))) := Jc @und76 (Jc @agg76 (Jc @size76 (Jc @bytes76 (@zero76))))
theorem Rr : type_of% (Jc @und78 (Jc @agg78 (Jc @size78 (Jc @bytes78 (@zero78))))) := Jc @und78 (Jc @agg78 (Jc @size78 (Jc @bytes78 (@zero78))))
theorem Vw : type_of% (Jc @J0a (Jc @agg79 (Jc @size79 (Jc @bytes79 (Jc @zero79 (Jc @lenS79 (Jc @lenG79 (Jc @lenN79 (Jc @eqSl79 (Jc @eqSg79 (@eqSn79))))))))))) := Jc @J0a (Jc @agg79 (Jc @size79 (Jc @bytes79 (Jc @zero79 (Jc @lenS79 (Jc @lenG79 (Jc @lenN79 (Jc @eqSl79 (Jc @eqSg79 (@eqSn79))))))))))
theorem tyb87 : type_of% (Jc @Rq (Jc @agg87 (Jc @size87 (Jc @bytes87 (Jc @zero87 (Jc @lenS87 (Jc @lenG87 (Jc @lenN87 (Jc @eqSl87 (Jc @eqSg87 (@eqSn87))))))))))) := Jc @Rq (Jc @agg87 (Jc @size87 (Jc @bytes87 (Jc @zero87 (Jc @lenS87 (Jc @lenG87 (Jc @lenN87 (Jc @eqSl87 (Jc @eqSg87 (@eqSn87))))))))))
theorem W0 : type_of% (Jc @Gm (Jc @agg93 (Jc @size93 (Jc @bytes93 (Jc @zero93 (Jc @lenS93 (Jc @lenG93 (Jc @lenN93 (Jc @eqSl93 (Jc @eqSg93 (@eqSn93))))))))))) := Jc @Gm (Jc @agg93 (Jc @size93 (Jc @bytes93 (Jc @zero93 (Jc @lenS93 (Jc @lenG93 (Jc @lenN93 (Jc @eqSl93 (Jc @eqSg93 (@eqSn93))))))))))
theorem tyb110 : type_of% (Jc @und110 (Jc @agg110 (Jc @size110 (Jc @bytes110 (Jc @zero110 (Jc @eqPn110 (@eqPP110))))))) := Jc @und110 (Jc @agg110 (Jc @size110 (Jc @bytes110 (Jc @zero110 (Jc @eqPn110 (@eqPP110))))))
theorem tyb111 : type_of% (Jc @und111 (Jc @agg111 (Jc @size111 (Jc @bytes111 (Jc @zero111 (Jc @fad111_0 (@fad111_1))))))) := Jc @und111 (Jc @agg111 (Jc @size111 (Jc @bytes111 (Jc @zero111 (Jc @fad111_0 (@fad111_1))))))
theorem tyb112 : type_of% (Jc @J0c (Jc @agg112 (Jc @size112 (Jc @bytes112 (Jc @zero112 (Jc @fad112_0 (@fad112_1))))))) := Jc @J0c (Jc @agg112 (Jc @size112 (Jc @bytes112 (Jc @zero112 (Jc @fad112_0 (@fad112_1))))))
theorem J0d : type_of% (Jc @und115 (Jc @agg115 (Jc @size115 (Jc @bytes115 (@zero115))))) := Jc @und115 (Jc @agg115 (Jc @size115 (Jc @bytes115 (@zero115))))
theorem tyb123 : type_of% (Jc @und123 (Jc @agg123 (Jc @size123 (Jc @bytes123 (Jc @zero123 (Jc @eqPn123 (@eqPP123))))))) := Jc @und123 (Jc @agg123 (Jc @size123 (Jc @bytes123 (Jc @zero123 (Jc @eqPn123 (@eqPP123))))))
theorem tyb138 : type_of% (Jc @und138 (Jc @agg138 (Jc @size138 (Jc @bytes138 (@zero138))))) := Jc @und138 (Jc @agg138 (Jc @size138 (Jc @bytes138 (@zero138))))
theorem tyb141 : type_of% (Jc @N8 (Jc @agg141 (Jc @size141 (Jc @bytes141 (Jc @zero141 (Jc @lenS141 (Jc @lenG141 (Jc @lenN141 (Jc @eqSl141 (Jc @eqSg141 (@eqSn141))))))))))) := Jc @N8 (Jc @agg141 (Jc @size141 (Jc @bytes141 (Jc @zero141 (Jc @lenS141 (Jc @lenG141 (Jc @lenN141 (Jc @eqSl141 (Jc @eqSg141 (@eqSn141))))))))))
theorem tyb160 : type_of% (Jc @und160 (Jc @agg160 (Jc @size160 (Jc @bytes160 (Jc @zero160 (Jc @bld160 (Jc @sla160 (@eg160)))))))) := Jc @und160 (Jc @agg160 (Jc @size160 (Jc @bytes160 (Jc @zero160 (Jc @bld160 (Jc @sla160 (@eg160)))))))
end Go.Proofs.YtfalfmfkifemeaaGreatDoor
namespace Go.Proofs.YtfalfmfkifemeaaGreatDoor
open Go.AL Go.PW
theorem Zb (n : Int) : IntKind.u64.wrap n = n % Bs := by
  have e : ((2 : Int) ^ IntKind.u64.bits) = Bs := by decide
  simp only [IntKind.wrap, IntKind.signed, Bool.false_and, Bool.false_eq_true, if_false, e]
theorem Zt {n : Int} (h0 : 0 ≤ n) (h1 : n < Bs) : IntKind.u64.wrap n = n := by rw [Zb]; exact Int.emod_eq_of_lt h0 h1
theorem J1j {n : Nat} (h : n < 2 ^ 64) : (BitVec.ofInt IntKind.u64.bits (n : Int)).toNat = n := by
  rw [BitVec.toNat_ofInt]
  have : ((2 : Nat) ^ IntKind.u64.bits) = 18446744073709551616 := by decide
  rw [this]
  omega
theorem nat_lt {x : Int} (hx : 0 ≤ x) (hx' : x < Bs) : ∃ a : Nat, x = a ∧ a < 2 ^ 64 := by
  obtain ⟨a, rfl⟩ := Int.eq_ofNat_of_zero_le hx
  exact ⟨a, rfl, by simp only [Bs] at hx'; omega⟩
theorem wrap_nat {a : Nat} (h : a < 2 ^ 64) : IntKind.u64.wrap (a : Int) = a := Zt (by omega) (by simp only [Bs]; omega)
theorem xor64 {a b : Nat} (ha : a < 2 ^ 64) (hb : b < 2 ^ 64) : bits .xor .u64 (a : Int) (b : Int) = ((a ^^^ b : Nat) : Int) := by
  have hab := Nat.xor_lt_two_pow ha hb
  unfold bits
  simp only
  rw [BitVec.toNat_xor, J1j ha, J1j hb]
  exact wrap_nat hab
theorem and64 {a b : Nat} (ha : a < 2 ^ 64) (hb : b < 2 ^ 64) : bits .and .u64 (a : Int) (b : Int) = ((a &&& b : Nat) : Int) := by
  have hab : a &&& b < 2 ^ 64 := Nat.lt_of_le_of_lt Nat.and_le_left ha
  unfold bits
  simp only
  rw [BitVec.toNat_and, J1j ha, J1j hb]
  exact wrap_nat hab
theorem or64 {a b : Nat} (ha : a < 2 ^ 64) (hb : b < 2 ^ 64) : bits .or .u64 (a : Int) (b : Int) = ((a ||| b : Nat) : Int) := by
  have hab := Nat.or_lt_two_pow ha hb
  unfold bits
  simp only
  rw [BitVec.toNat_or, J1j ha, J1j hb]
  exact wrap_nat hab
theorem not64 {x : Int} (h0 : 0 ≤ x) (h1 : x < Bs) : bits .xor .u64 (if IntKind.u64.signed = true then -1 else IntKind.u64.max) x = Bs - 1 - x := by
  have e : (if IntKind.u64.signed = true then -1 else IntKind.u64.max) = ((2 ^ 64 - 1 : Nat) : Int) := by decide
  obtain ⟨a, rfl, ha⟩ := nat_lt h0 h1
  rw [e, xor64 (by decide) ha]
  have h2 : (2 ^ 64 - 1) ^^^ a = 2 ^ 64 - 1 - a := by
    have h3 : (BitVec.allOnes 64 ^^^ BitVec.ofNat 64 a) = ~~~ (BitVec.ofNat 64 a) := BitVec.allOnes_xor
    have h4 := congrArg BitVec.toNat h3
    rw [BitVec.toNat_xor, BitVec.toNat_not, BitVec.toNat_allOnes, BitVec.toNat_ofNat, Nat.mod_eq_of_lt ha] at h4
    exact h4
  rw [h2]
  simp only [Bs]
  omega
theorem low32 {x : Int} (h0 : 0 ≤ x) (h1 : x < Bs) : bits .and .u64 x 4294967295 = x % 4294967296 := by
  obtain ⟨a, rfl, ha⟩ := nat_lt h0 h1
  have h2 := and64 (b := 4294967295) ha (by decide)
  have h3 := Nat.and_two_pow_sub_one_eq_mod a 32
  have e : (2 ^ 32 - 1 : Nat) = 4294967295 := by decide
  rw [e] at h3
  rw [h3] at h2
  exact h2.trans (by omega)
theorem or_add {x y : Int} (k : Nat) (h0 : 0 ≤ x) (h1 : x * 2 ^ k < Bs) (h2 : 0 ≤ y) (h3 : y < 2 ^ k) (h4 : y < Bs) : bits .or .u64 (x * 2 ^ k) y = x * 2 ^ k + y := by
  have hp : (0 : Int) < 2 ^ k := Int.pow_pos (by decide)
  obtain ⟨a, rfl⟩ := Int.eq_ofNat_of_zero_le h0
  obtain ⟨b, rfl⟩ := Int.eq_ofNat_of_zero_le h2
  have e : ((a : Int) * 2 ^ k) = ((a * 2 ^ k : Nat) : Int) := by simp
  have hb : b < 2 ^ k := by
    have : ((b : Int)) < ((2 ^ k : Nat) : Int) := by simpa using h3
    omega
  rw [e] at h1 ⊢
  have h5 : a * 2 ^ k < 2 ^ 64 := by simp only [Bs] at h1; omega
  have h6 : b < 2 ^ 64 := by simp only [Bs] at h4; omega
  rw [or64 h5 h6]
  have h7 := Nat.shiftLeft_add_eq_or_of_lt hb a
  rw [Nat.shiftLeft_eq] at h7
  rw [← h7]
  omega
def M : Int := Bs ^ 16
def Mh : Int := Bs ^ 15 * 9223372036854775808
theorem M_two : M = 2 * Mh := by decide
theorem M_pow : M = Bs ^ 16 := rfl
theorem M_pos : 0 < M := by decide
theorem J03 : 0 < Mh := by decide
theorem top_iff (x : Int) : ((dig 16 x).getD 15 0 / 9223372036854775808 == 1) = decide (Mh ≤ x % M) := by
  rw [W8 16 x 15 (by decide)]
  have h := emod_two (x := x) (m := Bs ^ 15) (k := Bs) (by decide)
  have e : Bs ^ 15 * Bs = M := by decide
  rw [e] at h
  have h1 := Int.emod_nonneg x (b := Bs ^ 15) (by decide)
  have h2 := Int.emod_lt_of_pos x (b := Bs ^ 15) (by decide)
  have h3 := Int.emod_nonneg (x / Bs ^ 15) (b := Bs) (by decide)
  have h4 := Int.emod_lt_of_pos (x / Bs ^ 15) (b := Bs) (by decide)
  rw [← h]
  have eM : Mh = Bs ^ 15 * 9223372036854775808 := rfl
  rw [eM]
  have hp : (0 : Int) < Bs ^ 15 := by decide
  generalize x / Bs ^ 15 % Bs = t at *
  generalize x % Bs ^ 15 = r at *
  generalize Bs ^ 15 = p at *
  have key : (t / 9223372036854775808 = 1) ↔ (p * 9223372036854775808 ≤ r + p * t) := by
    constructor
    · intro ht
      have : 9223372036854775808 ≤ t := by omega
      have := Int.mul_le_mul_of_nonneg_left this (Int.le_of_lt hp)
      omega
    · intro ht
      rcases Int.lt_or_le t 9223372036854775808 with h5 | h5
      · have : p * (t + 1) ≤ p * 9223372036854775808 := Int.mul_le_mul_of_nonneg_left (by omega) (Int.le_of_lt hp)
        rw [Int.mul_add] at this
        omega
      · simp only [Bs] at h4; omega
  rw [Bool.eq_iff_iff]
  simp only [beq_iff_eq, decide_eq_true_eq]
  exact key
def In (x : Int) : Prop := -Mh ≤ x ∧ x < Mh
theorem Uq {x : Int} (h : In x) : decide (Mh ≤ x % M) = decide (x < 0) := by
  obtain ⟨h1, h2⟩ := h
  have hm := M_two
  have hp := J03
  rcases Int.lt_or_le x 0 with h0 | h0
  · have : x % M = x + M := by
      rw [← Int.add_emod_right, Int.emod_eq_of_lt (by omega) (by omega)]
    rw [this]
    have h3 : Mh ≤ x + M := by omega
    simp [h0, h3]
  · have : x % M = x := Int.emod_eq_of_lt h0 (by omega)
    rw [this]
    have h3 : ¬ Mh ≤ x := by omega
    have h4 : ¬ x < 0 := by omega
    simp [h3, h4]
theorem dig_M {x y : Int} (h : x % M = y % M) : dig 16 x = dig 16 y := dig_mod 16 x y h
theorem val_M (x : Int) : val (dig 16 x) = x % M := Uo 16 x
attribute [irreducible] M Mh
end Go.Proofs.YtfalfmfkifemeaaGreatDoor
namespace Go.Proofs.YtfalfmfkifemeaaGreatDoor
open Go.AL Go.PW
theorem tf94WdA : type_of% (Jc @X1 (Jc @Z3 (@Z2))) := Jc @X1 (Jc @Z3 (@Z2))
theorem Ny : type_of% (Jc @Xd (Jc @X1 (Jc @Z3 (@Z2)))) := Jc @Xd (Jc @X1 (Jc @Z3 (@Z2)))
set_option maxRecDepth 8000
abbrev W (x : Int) : AV := .agg ((dig 16 x).map (AV.int .u64))
abbrev Wb (x : Int) : Blk := ⟨(dig 16 x).map (AV.int .u64), .own, 33⟩
theorem ext_quiet {f : FuncId} {fn : Func} {e : Array Value → Sem Value} (hf : Tryz.prog.funcs[f]? = some fn) (hname : (fn.name == "runtime.NumGoroutine") = false)
    (hb : fn.body.isNone = true) (hn : Extern.findNext fn = none) (he : Extern.find fn = some e) {args : List AV} {r : AV} {H : Hp} (hr : ∀ n, r.lt n)
    (h : ∀ (β : Nat → Bx) (vs : Array Value) (w : World), VRs β args vs.toList → ∃ v, (e vs).run Tryz.prog w = .ok v w ∧ VR β r v) : AExt Tryz.prog f args H fun r' H' => r' = r ∧ H = H' := by
  intro w0 B β w vs R hv hl
  obtain ⟨v, h1, h2⟩ := h β vs w hv
  refine ⟨v, w, β, r, H, ?_, ⟨rfl, rfl⟩, Agree.refl _ _, Nat.le_refl _, h2, hr _, R⟩
  rw [run_callFunc_extern hf hname hb hn he, h1]
  rfl
theorem three_eq (P : Program) (name : String) (x y c : Nat) (hc : ¬ 1 < c) (w : World) : (Extern.MathBitsCarry.three name ⟨[.int .u64 (x : Int), .int .u64 (y : Int), .int .u64 (c : Int)]⟩).run P w = .ok (x, y, c) w := by
  have h : ∀ a b d : Value, Extern.MathBitsCarry.three name ⟨[a, b, d]⟩ = (do
      let c := (← asInt d).toNat
      if c > 1 then unsupported (.noEntry ("extern/math/bits." ++ name ++ ": a carry that is neither 0 nor 1"))
      pure ((← asInt a).toNat, (← asInt b).toNat, c)) := fun _ _ _ => rfl
  rw [h]
  simp only [asInt, asIntOf, Sem.run_bind, Sem.run_pure, Result.andThen_ok, Int.toNat_natCast]
  rw [if_neg hc]
  simp
theorem K1 (H : Hp) (x y c : Int) (hx : 0 ≤ x) (hy : 0 ≤ y) (hc : 0 ≤ c ∧ c ≤ 1) : AExt Tryz.prog 83 [.int .u64 x, .int .u64 y, .int .u64 c] H fun r H' => r = .tup [.int .u64 ((x + y + c) % Bs), .int .u64 ((x + y + c) / Bs)] ∧ H = H' := by
  refine ext_quiet (e := fun args => do
    let (x, y, c) ← Extern.MathBitsCarry.three "Add64" args
    pure (Extern.MathBitsCarry.pair ((x + y + c) % Extern.MathBitsCarry.m64) ((x + y + c) / Extern.MathBitsCarry.m64))) Tryz.func83 (by kernel_rfl) (by kernel_rfl) (by kernel_rfl) (by kernel_rfl) (fun _ => by simp [AV.lt, AV.lts]) ?_
  intro β vs w hv
  obtain ⟨vs⟩ := vs
  simp only [VRs, VR] at hv
  obtain ⟨_, _, rfl, rfl, _, _, rfl, rfl, _, _, rfl, rfl, rfl⟩ := hv
  obtain ⟨x, rfl⟩ := Int.eq_ofNat_of_zero_le hx
  obtain ⟨y, rfl⟩ := Int.eq_ofNat_of_zero_le hy
  obtain ⟨c, rfl⟩ := Int.eq_ofNat_of_zero_le hc.1
  have hc1 : ¬ 1 < c := by omega
  refine ⟨_, by simp only [Sem.run_bind, three_eq _ _ _ _ _ hc1, Result.andThen_ok, Sem.run_pure]; rfl, ?_⟩
  simp only [Extern.MathBitsCarry.pair, VR, VRs, Extern.MathBitsCarry.m64]
  refine ⟨_, rfl, _, _, rfl, ?_, _, _, rfl, ?_, rfl⟩
  · simp [Bs]
  · simp [Bs]
theorem sub64 (H : Hp) (x y c : Int) (hx : 0 ≤ x) (hy : 0 ≤ y ∧ y < Bs) (hc : 0 ≤ c ∧ c ≤ 1) : AExt Tryz.prog 104 [.int .u64 x, .int .u64 y, .int .u64 c] H fun r H' => r = .tup [.int .u64 ((x - y - c) % Bs), .int .u64 (if x < y + c then 1 else 0)] ∧ H = H' := by
  refine ext_quiet (e := fun args => do
    let (x, y, b) ← Extern.MathBitsCarry.three "Sub64" args
    pure (Extern.MathBitsCarry.pair ((x + Extern.MathBitsCarry.m64 - y - b) % Extern.MathBitsCarry.m64) (if x < y + b then 1 else 0))) Tryz.func104 (by kernel_rfl) (by kernel_rfl) (by kernel_rfl) (by kernel_rfl) (fun _ => by simp [AV.lt, AV.lts]) ?_
  intro β vs w hv
  obtain ⟨vs⟩ := vs
  simp only [VRs, VR] at hv
  obtain ⟨_, _, rfl, rfl, _, _, rfl, rfl, _, _, rfl, rfl, rfl⟩ := hv
  obtain ⟨x, rfl⟩ := Int.eq_ofNat_of_zero_le hx
  obtain ⟨y, rfl⟩ := Int.eq_ofNat_of_zero_le hy.1
  obtain ⟨c, rfl⟩ := Int.eq_ofNat_of_zero_le hc.1
  have hc1 : ¬ 1 < c := by omega
  refine ⟨_, by simp only [Sem.run_bind, three_eq _ _ _ _ _ hc1, Result.andThen_ok, Sem.run_pure]; rfl, ?_⟩
  simp only [Extern.MathBitsCarry.pair, VR, VRs, Extern.MathBitsCarry.m64]
  refine ⟨_, rfl, _, _, rfl, ?_, _, _, rfl, ?_, rfl⟩
  · have hy2 : y < 18446744073709551616 := by have := hy.2; simp only [Bs] at this; omega
    have : ((x + 2 ^ 64 - y - c : Nat) : Int) = (x : Int) - y - c + Bs := by simp only [Bs]; omega
    simp only [Value.int.injEq, true_and, Int.ofNat_eq_natCast, Int.natCast_emod, this]
    simp only [Bs]
    omega
  · by_cases h : x < y + c
    · have : (x : Int) < (y : Int) + c := by omega
      simp [h, this]
    · have : ¬ (x : Int) < (y : Int) + c := by omega
      simp [h, this]
theorem below_calls (x : Int) (H : Hp) : ACalls Tryz.prog 94 [W x] H fun r H' => r = .bool (decide (Mh ≤ x % M)) ∧ H = H' := by
  refine ACalls.drop (R := fun r => r = .bool (decide (Mh ≤ x % M))) ?_
  refine Q7 Tryz.func94 rfl (by kernel_rfl) (by kernel_rfl) ?_
  repeat' first
    | (with_reducible first | refine Jj (fun K hK => ?_) | refine Qj ?_ | refine Jg ?_)
    | (simp only [Q4, Jo, reduceIte, J0])
    | ((with_reducible refine hK _ _ ?_); clear hK)
    | (simp only [Q3, RA, Jn, Jm, Jp, Q2, Q0, ev, ofValue, Jt, J0, J3, J2, J4, reduceCtorEq, reduceIte, Ju, Qb, Qa, Jy, aun, Q9, Jk, Jh, Jx, Jw, Ji, Q8, Jf, Q1, Jr, Js, J1, J5, Ja, J9, Jb, J6, J7, Jd, J8, RB, Jv, Je, tf94WdA])
    | (simp (disch := first | omega | (simp only [RO]; done) | assumption) only [RS, Xs, Xq, Xr, Xp])
    | (simp (disch := (first | omega | (simp only [RO]; done) | assumption | (simp only [RM, Je]; done) | (simp only [RL, Je]; omega))) only [RD, reduceCtorEq, reduceIte, Je, J1, J3, J2, J6, tf94WdA])
  (
   (refine Qg (rs := [.tmp 2]) rfl ?_)
   (simp only [Qx, Qd, Fr.put_some, Fr.put_none, Qe, Qf, Qi, J0, reduceIte])
   (try simp (disch := (first | omega | (simp only [RO]; done) | assumption | (simp only [RM, Je]; done) | (simp only [RL, Je]; omega))) only [RD, reduceCtorEq, reduceIte, Je, J1, J3, J2, J6, tf94WdA]))
  exact ⟨⟨_, rfl⟩, trivial, by rw [top_iff]⟩
theorem ext4 {H : Hp} (a b : Blk) : Ext H (H ++ [a] ++ [b]) := (Ext.push _ _).pushed _
theorem inverse_calls (x : Int) (H : Hp) : ACalls Tryz.prog 77 [W x] H fun r H' => r = W (-x - 1) ∧ H = H' := by
  refine ACalls.drop (R := fun r => r = W (-x - 1)) ?_
  refine Q7 Tryz.func77 rfl (by kernel_rfl) (by kernel_rfl) ?_
  repeat' first
    | (with_reducible first | refine Jj (fun K hK => ?_) | refine Qc ?_ | refine Jg ?_)
    | (simp only [Q4, Jo, reduceIte, J0])
    | ((with_reducible refine hK _ _ ?_); clear hK)
    | (simp only [Q3, RA, Jn, Jm, Jp, Q2, Q0, ev, ofValue, Jt, J0, J3, J2, J4, reduceCtorEq, reduceIte, Ju, Qb, Qa, Jy, aun, Q9, Jk, Jh, Jx, Jw, Ji, Q8, Jf, Q1, Jr, Js, J1, J5, Ja, J9, Jb, J6, J7, Jd, J8, RB, Jv, Je, Ny])
    | (simp (disch := (first | omega | (simp only [RO]; done) | assumption | (simp only [RM, Je]; done) | (simp only [RL, Je]; omega))) only [RD, reduceCtorEq, reduceIte, Je, J1, J3, J2, J6, Ny])
  refine X2 (fun m fr' H' => ∃ (i : Nat) (ys : List Int), m = 16 - i ∧ i ≤ 16 ∧ fr' 1 = .ptr H.length 0 ∧ fr' 2 = .ptr (H.length + 1) 0 ∧ fr' 5 = W x ∧ fr' 6 = .int .i64 (i : Int) ∧ ys.length = 16 ∧ Limbs ys ∧ val (ys.take i) + val ((dig 16 x).take i) = Bs ^ i - 1 ∧ (H ++ [⟨ys.map (AV.int .u64), .own, 33⟩]) ++ [Wb 0] = H') (m := 16)
    ⟨0, dig 16 x, by omega, by omega, rfl, rfl, rfl, rfl, dig_length _ _, Xu _ _, rfl, rfl⟩ ?_
  rintro m fr' H' ⟨i, ys, rfl, hi, k1, k2, k5, k6, hl, hys, hy, rfl⟩
  by_cases hlt : i < 16
  · have hd := (Xu 16 x).get i
    repeat' first
      | (with_reducible first | refine Jj (fun K hK => ?_) | refine Qc ?_ | refine Q6 ?_ | refine Jg ?_ | refine Jz ?_)
      | (with_reducible refine X5 (fun hc => ?_) (fun hc => ?_) <;> (try simp only [RC] at hc) <;> (try (exfalso; first | omega | contradiction)))
      | (simp only [Q4, Jo, reduceIte, J0])
      | ((with_reducible refine hK _ _ ?_); clear hK)
      | (simp only [Q3, RA, Jn, Jm, Jp, Q2, Q0, ev, ofValue, Jt, J0, J3, J2, J4, reduceCtorEq, reduceIte, Ju, Qb, Qa, Jy, aun, Q9, Jk, Jh, Jx, Jw, Ji, Q8, Jf, Q1, Jr, Js, J1, J5, Ja, J9, Jb, J6, J7, Jd, J8, RB, Jv, Je, Ny, k1, k2, k5, k6, not64 hd.1 hd.2])
      | (simp (disch := first | omega | (simp only [RO]; done) | assumption) only [RS, hl, ix33 (dig_length 16 x), Xs, Xq, Xr, Xp])
      | (simp (disch := (first | omega | (simp only [RO]; done) | assumption | (simp only [RM, Je]; done) | (simp only [RL, Je]; omega))) only [RD, reduceCtorEq, reduceIte, Je, J1, J3, J2, J6, Ny, k1, k2, k5, k6, not64 hd.1 hd.2])
    have hv := Xb (dig 16 x) (i := i) (by rw [dig_length]; exact hlt)
    have hv2 := Xb (ys.set i (Bs - 1 - (dig 16 x).getD i 0)) (i := i) (by rw [List.length_set]; omega)
    rw [Xf _ _ (by omega), if_pos rfl, List.take_set_of_le (Nat.le_refl _)] at hv2
    refine ⟨16 - (i + 1), by omega, i + 1, _, rfl, by omega, by rw [Q5 (by omega) (by omega)]; rfl, ?_, hys.set i (by omega), ?_, rfl⟩
    · rw [List.length_set]; exact hl
    · rw [hv, hv2, Int.pow_succ]
      have hp := Xc i
      generalize Bs ^ i = p at *
      generalize (dig 16 x).getD i 0 = d at *
      rw [Int.mul_sub, Int.mul_sub]
      omega
  · obtain rfl : i = 16 := by omega
    repeat' first
      | (with_reducible first | refine Jj (fun K hK => ?_) | refine Qz ?_ | refine Qj ?_ | refine Jg ?_ | refine Jz ?_)
      | (simp only [Q4, Jo, reduceIte, J0])
      | ((with_reducible refine hK _ _ ?_); clear hK)
      | (clear hK; (with_reducible refine hK _ _ ?_); clear hK)
      | (simp only [Q3, RA, Jn, Jm, Jp, Q2, Q0, ev, ofValue, Jt, J0, J3, J2, J4, reduceCtorEq, reduceIte, Ju, Qb, Qa, Jy, aun, Q9, Jk, Jh, Jx, Jw, Ji, Q8, Jf, Q1, Jr, Js, J1, J5, Ja, J9, Jb, J6, J7, Jd, J8, RB, Jv, Je, Ny, k1, k2, k5, k6])
      | (simp (disch := (first | omega | (simp only [RO]; done) | assumption | (simp only [RM, Je]; done) | (simp only [RL, Je]; omega))) only [RD, reduceCtorEq, reduceIte, Je, J1, J3, J2, J6, Ny, k1, k2, k5, k6])
    (
     (refine Qg (rs := [.cell 2 33]) rfl ?_)
     (simp only [Qx, Qd, Fr.put_some, Fr.put_none, Qe, Qf, Qi, J0, reduceIte, k2])
     (try simp (disch := (first | omega | (simp only [RO]; done) | assumption | (simp only [RM, Je]; done) | (simp only [RL, Je]; omega))) only [RD, reduceCtorEq, reduceIte, Je, J1, J3, J2, J6, Ny, k2]))
    refine ⟨ext4 _ _, by simp [AV.lt, AV.lts_iff], ?_⟩
    have e1 : ys.take 16 = ys := List.take_of_length_le (by omega)
    have e2 : (dig 16 x).take 16 = dig 16 x := List.take_of_length_le (by rw [dig_length]; omega)
    rw [e1, e2, Uo] at hy
    have : ys = dig 16 (-x - 1) := by
      refine Ys hys hl ?_
      have h1 := Xa hys
      rw [hl] at h1
      have h2 : (-x - 1) % Bs ^ 16 = val ys := by
        have hx := Int.emod_add_mul_ediv x (Bs ^ 16)
        generalize x / Bs ^ 16 = q at *
        generalize x % Bs ^ 16 = r at *
        generalize Bs ^ 16 = p at *
        have : -x - 1 = val ys + p * (-q - 1) := by rw [Int.mul_sub, Int.mul_neg]; omega
        rw [this, Int.add_mul_emod_self_left, Int.emod_eq_of_lt h1.1 h1.2]
      exact h2.symm
    rw [this]
end Go.Proofs.YtfalfmfkifemeaaGreatDoor

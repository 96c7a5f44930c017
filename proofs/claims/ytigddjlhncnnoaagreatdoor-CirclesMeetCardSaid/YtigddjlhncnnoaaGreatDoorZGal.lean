/- Part 12 of the proof of laws of this seat: lemmas on the model's code, on this program's functions, on numbers. No condition. -/
import Derived.Test.YtigddjlhncnnoaaGreatDoorZGak
import Derived.Laws.Externs
import Derived.Test.YtigddjlhncnnoaaGreatDoorProg
set_option linter.unusedVariables false
set_option linter.unusedSimpArgs false
open Nat renaming reduceEqDiff → J0, reduceLeDiff → J1, reduceMul → J2, reduceAdd → J3, reduceSub → J4, reduceLT → J5
open Int renaming reduceToNat → J6, reducePow → J7, reduceNeg → J8, reduceLT → J9, reduceLE → Ja, reduceEq → Jb
open And renaming intro → Jc
open Go.IntKind renaming bits → Jd
open Go.PW renaming dig_length → Je
namespace Go.Proofs.YtigddjlhncnnoaaGreatDoor
open Go.AL
theorem und2 : Tryz.prog.underlying 2 = some (.int .i64) := by kernel_rfl
theorem agg2 : Xp Tryz.prog 2 = some false := by kernel_rfl
theorem und3 : Tryz.prog.underlying 3 = some (.int .i64) := by kernel_rfl
theorem agg3 : Xp Tryz.prog 3 = some false := by kernel_rfl
theorem und4 : Tryz.prog.underlying 4 = some (.bool) := by kernel_rfl
theorem agg4 : Xp Tryz.prog 4 = some false := by kernel_rfl
theorem und5 : Tryz.prog.underlying 5 = some (.int .u8) := by kernel_rfl
theorem agg5 : Xp Tryz.prog 5 = some false := by kernel_rfl
theorem und9 : Tryz.prog.underlying 9 = some (.string) := by kernel_rfl
theorem agg9 : Xp Tryz.prog 9 = some false := by kernel_rfl
theorem und20 : Tryz.prog.underlying 20 = some (.interface #[]) := by kernel_rfl
theorem agg20 : Xp Tryz.prog 20 = some false := by kernel_rfl
theorem und22 : Tryz.prog.underlying 22 = some (.struct #[{ name := "X", type := 2, offset := 0, embedded := false, tag := "", pkgPath := "", byteOffset := 0 }, { name := "Y", type := 2, offset := 1, embedded := false, tag := "", pkgPath := "", byteOffset := 8 }]) := by kernel_rfl
theorem agg22 : Xp Tryz.prog 22 = some true := by kernel_rfl
theorem und23 : Tryz.prog.underlying 23 = some (.struct #[{ name := "X", type := 2, offset := 0, embedded := false, tag := "", pkgPath := "", byteOffset := 0 }, { name := "Y", type := 2, offset := 1, embedded := false, tag := "", pkgPath := "", byteOffset := 8 }]) := by kernel_rfl
theorem agg23 : Xp Tryz.prog 23 = some true := by kernel_rfl
theorem und30 : Tryz.prog.underlying 30 = some (.interface #[("Error", 248)]) := by kernel_rfl
theorem agg30 : Xp Tryz.prog 30 = some false := by kernel_rfl
theorem Ys : Tryz.prog.underlying 31 = some (.interface #[("Error", 248)]) := by kernel_rfl
theorem agg31 : Xp Tryz.prog 31 = some false := by kernel_rfl
theorem Vb : Tryz.prog.underlying 38 = some (.slice 2) := by kernel_rfl
theorem agg38 : Xp Tryz.prog 38 = some false := by kernel_rfl
theorem Z8 : Tryz.prog.underlying 65 = some (.slice 71) := by kernel_rfl
theorem agg65 : Xp Tryz.prog 65 = some false := by kernel_rfl
theorem agg67 : Xp Tryz.prog 67 = some true := by kernel_rfl
theorem und71 : Tryz.prog.underlying 71 = some (.int .u64) := by kernel_rfl
theorem Yt : Xp Tryz.prog 71 = some false := by kernel_rfl
theorem und72 : Tryz.prog.underlying 72 = some (.array 16 71) := by kernel_rfl
theorem agg72 : Xp Tryz.prog 72 = some true := by kernel_rfl
theorem und73 : Tryz.prog.underlying 73 = some (.array 16 71) := by kernel_rfl
theorem agg73 : Xp Tryz.prog 73 = some true := by kernel_rfl
theorem und114 : Tryz.prog.underlying 114 = some (.int .i64) := by kernel_rfl
theorem agg114 : Xp Tryz.prog 114 = some false := by kernel_rfl
theorem Kf : Tryz.prog.underlying 123 = some (.slice 9) := by kernel_rfl
theorem agg123 : Xp Tryz.prog 123 = some false := by kernel_rfl
theorem Wn : Tryz.prog.underlying 131 = some (.slice 73) := by kernel_rfl
theorem Ke : Tryz.prog.underlying 135 = some (.slice 137) := by kernel_rfl
theorem Wm : Tryz.prog.underlying 137 = some (.slice 67) := by kernel_rfl
theorem und165 : Tryz.prog.underlying 165 = some (.int .u64) := by kernel_rfl
theorem agg165 : Xp Tryz.prog 165 = some false := by kernel_rfl
theorem und173 : Tryz.prog.underlying 173 = some (.pointer 114) := by kernel_rfl
theorem agg173 : Xp Tryz.prog 173 = some false := by kernel_rfl
theorem und188 : Tryz.prog.underlying 188 = some (.array 17 71) := by kernel_rfl
theorem agg188 : Xp Tryz.prog 188 = some true := by kernel_rfl
theorem und193 : Tryz.prog.underlying 193 = some (.pointer 195) := by kernel_rfl
theorem agg193 : Xp Tryz.prog 193 = some false := by kernel_rfl
theorem und194 : Tryz.prog.underlying 194 = some (.struct #[{ name := "Op", type := 9, offset := 0, embedded := false, tag := "", pkgPath := "", byteOffset := 0 }, { name := "Err", type := 31, offset := 1, embedded := false, tag := "", pkgPath := "", byteOffset := 16 }]) := by kernel_rfl
theorem agg194 : Xp Tryz.prog 194 = some true := by kernel_rfl
theorem J0y : Tryz.prog.underlying 195 = some (.struct #[{ name := "Op", type := 9, offset := 0, embedded := false, tag := "", pkgPath := "", byteOffset := 0 }, { name := "Err", type := 31, offset := 1, embedded := false, tag := "", pkgPath := "", byteOffset := 16 }]) := by kernel_rfl
theorem agg195 : Xp Tryz.prog 195 = some true := by kernel_rfl
theorem und196 : Tryz.prog.underlying 196 = some (.interface #[("Unwrap", 200)]) := by kernel_rfl
theorem agg196 : Xp Tryz.prog 196 = some false := by kernel_rfl
theorem Nh : Tryz.prog.underlying 199 = some (.slice 31) := by kernel_rfl
theorem agg199 : Xp Tryz.prog 199 = some false := by kernel_rfl
theorem und225 : Tryz.prog.underlying 225 = some (.int .u32) := by kernel_rfl
theorem agg225 : Xp Tryz.prog 225 = some false := by kernel_rfl
theorem Yr : Xf Tryz.prog 2 = some 1 := by kernel_rfl
theorem bytes2 : Xq Tryz.prog 2 = some 8 := by kernel_rfl
theorem zero2 : Z2 Tryz.prog 2 = some (.int .i64 0) := by kernel_rfl
theorem size3 : Xf Tryz.prog 3 = some 1 := by kernel_rfl
theorem bytes3 : Xq Tryz.prog 3 = some 8 := by kernel_rfl
theorem zero3 : Z2 Tryz.prog 3 = some (.int .i64 0) := by kernel_rfl
theorem size4 : Xf Tryz.prog 4 = some 1 := by kernel_rfl
theorem bytes4 : Xq Tryz.prog 4 = some 1 := by kernel_rfl
theorem zero4 : Z2 Tryz.prog 4 = some (.bool false) := by kernel_rfl
theorem size5 : Xf Tryz.prog 5 = some 1 := by kernel_rfl
theorem bytes5 : Xq Tryz.prog 5 = some 1 := by kernel_rfl
theorem zero5 : Z2 Tryz.prog 5 = some (.int .u8 0) := by kernel_rfl
theorem Nu : Xf Tryz.prog 9 = some 1 := by kernel_rfl
theorem bytes9 : Xq Tryz.prog 9 = some 16 := by kernel_rfl
theorem zero9 : Z2 Tryz.prog 9 = some (.str .empty) := by kernel_rfl
theorem size20 : Xf Tryz.prog 20 = some 1 := by kernel_rfl
theorem bytes20 : Xq Tryz.prog 20 = some 16 := by kernel_rfl
theorem zero20 : Z2 Tryz.prog 20 = some (.nilI) := by kernel_rfl
theorem size22 : Xf Tryz.prog 22 = some 2 := by kernel_rfl
theorem bytes22 : Xq Tryz.prog 22 = some 16 := by kernel_rfl
theorem zero22 : Z2 Tryz.prog 22 = some (.agg [.int .i64 0, .int .i64 0]) := by kernel_rfl
theorem J1z : Xf Tryz.prog 23 = some 2 := by kernel_rfl
theorem bytes23 : Xq Tryz.prog 23 = some 16 := by kernel_rfl
theorem zero23 : Z2 Tryz.prog 23 = some (.agg [.int .i64 0, .int .i64 0]) := by kernel_rfl
theorem size30 : Xf Tryz.prog 30 = some 1 := by kernel_rfl
theorem bytes30 : Xq Tryz.prog 30 = some 16 := by kernel_rfl
theorem zero30 : Z2 Tryz.prog 30 = some (.nilI) := by kernel_rfl
theorem Nj : Xf Tryz.prog 31 = some 1 := by kernel_rfl
theorem bytes31 : Xq Tryz.prog 31 = some 16 := by kernel_rfl
theorem zero31 : Z2 Tryz.prog 31 = some (.nilI) := by kernel_rfl
theorem Rx : Xf Tryz.prog 38 = some 1 := by kernel_rfl
theorem bytes38 : Xq Tryz.prog 38 = some 24 := by kernel_rfl
theorem zero38 : Z2 Tryz.prog 38 = some (.nilS) := by kernel_rfl
theorem J1y : Xf Tryz.prog 65 = some 1 := by kernel_rfl
theorem bytes65 : Xq Tryz.prog 65 = some 24 := by kernel_rfl
theorem zero65 : Z2 Tryz.prog 65 = some (.nilS) := by kernel_rfl
theorem Ut : Xf Tryz.prog 67 = some 2 := by kernel_rfl
theorem bytes67 : Xq Tryz.prog 67 = some 32 := by kernel_rfl
theorem zero67 : Z2 Tryz.prog 67 = some (.agg [.bool false, .nilS]) := by kernel_rfl
theorem Z4 : Xf Tryz.prog 71 = some 1 := by kernel_rfl
theorem bytes71 : Xq Tryz.prog 71 = some 8 := by kernel_rfl
theorem zero71 : Z2 Tryz.prog 71 = some (.int .u64 0) := by kernel_rfl
theorem size72 : Xf Tryz.prog 72 = some 16 := by kernel_rfl
theorem bytes72 : Xq Tryz.prog 72 = some 128 := by kernel_rfl
theorem zero72 : Z2 Tryz.prog 72 = some (.agg ((Go.PW.dig 16 0).map (AV.int .u64))) := by kernel_rfl
theorem bld72 : Yh Tryz.prog 72 [] = some (.agg ((Go.PW.dig 16 0).map (AV.int .u64))) := by kernel_rfl
theorem Us : Xf Tryz.prog 73 = some 16 := by kernel_rfl
theorem bytes73 : Xq Tryz.prog 73 = some 128 := by kernel_rfl
theorem zero73 : Z2 Tryz.prog 73 = some (.agg ((Go.PW.dig 16 0).map (AV.int .u64))) := by kernel_rfl
theorem bld73 : Yh Tryz.prog 73 [] = some (.agg ((Go.PW.dig 16 0).map (AV.int .u64))) := by kernel_rfl
theorem size114 : Xf Tryz.prog 114 = some 1 := by kernel_rfl
theorem bytes114 : Xq Tryz.prog 114 = some 8 := by kernel_rfl
theorem zero114 : Z2 Tryz.prog 114 = some (.int .i64 0) := by kernel_rfl
theorem size123 : Xf Tryz.prog 123 = some 1 := by kernel_rfl
theorem bytes123 : Xq Tryz.prog 123 = some 24 := by kernel_rfl
theorem zero123 : Z2 Tryz.prog 123 = some (.nilS) := by kernel_rfl
theorem Ny : Xf Tryz.prog 137 = some 1 := by kernel_rfl
theorem bytes137 : Xq Tryz.prog 137 = some 24 := by kernel_rfl
theorem zero137 : Z2 Tryz.prog 137 = some (.nilS) := by kernel_rfl
theorem size165 : Xf Tryz.prog 165 = some 1 := by kernel_rfl
theorem bytes165 : Xq Tryz.prog 165 = some 8 := by kernel_rfl
theorem zero165 : Z2 Tryz.prog 165 = some (.int .u64 0) := by kernel_rfl
theorem size173 : Xf Tryz.prog 173 = some 1 := by kernel_rfl
theorem bytes173 : Xq Tryz.prog 173 = some 8 := by kernel_rfl
theorem zero173 : Z2 Tryz.prog 173 = some (.nilP) := by kernel_rfl
theorem size188 : Xf Tryz.prog 188 = some 17 := by kernel_rfl
theorem bytes188 : Xq Tryz.prog 188 = some 136 := by kernel_rfl
theorem zero188 : Z2 Tryz.prog 188 = some (.agg ((Go.PW.dig 17 0).map (AV.int .u64))) := by kernel_rfl
theorem bld188 : Yh Tryz.prog 188 [] = some (.agg ((Go.PW.dig 17 0).map (AV.int .u64))) := by kernel_rfl
theorem size193 : Xf Tryz.prog 193 = some 1 := by kernel_rfl
theorem bytes193 : Xq Tryz.prog 193 = some 8 := by kernel_rfl
theorem zero193 : Z2 Tryz.prog 193 = some (.nilP) := by kernel_rfl
theorem size194 : Xf Tryz.prog 194 = some 2 := by kernel_rfl
theorem bytes194 : Xq Tryz.prog 194 = some 32 := by kernel_rfl
theorem zero194 : Z2 Tryz.prog 194 = some (.agg [.str .empty, .nilI]) := by kernel_rfl
theorem size195 : Xf Tryz.prog 195 = some 2 := by kernel_rfl
theorem bytes195 : Xq Tryz.prog 195 = some 32 := by kernel_rfl
theorem zero195 : Z2 Tryz.prog 195 = some (.agg [.str .empty, .nilI]) := by kernel_rfl
theorem size196 : Xf Tryz.prog 196 = some 1 := by kernel_rfl
theorem bytes196 : Xq Tryz.prog 196 = some 16 := by kernel_rfl
theorem zero196 : Z2 Tryz.prog 196 = some (.nilI) := by kernel_rfl
theorem size199 : Xf Tryz.prog 199 = some 1 := by kernel_rfl
theorem bytes199 : Xq Tryz.prog 199 = some 24 := by kernel_rfl
theorem zero199 : Z2 Tryz.prog 199 = some (.nilS) := by kernel_rfl
theorem size225 : Xf Tryz.prog 225 = some 1 := by kernel_rfl
theorem bytes225 : Xq Tryz.prog 225 = some 4 := by kernel_rfl
theorem zero225 : Z2 Tryz.prog 225 = some (.int .u32 0) := by kernel_rfl
theorem lenS38 (h o n c : Nat) : Qn Tryz.prog .len #[38] [.sl h o n c] = some (.int .i64 n) := by simp [Qn, Vb]
theorem lenG38 (h o n z : Nat) : Qn Tryz.prog .len #[38] [.sg h o n z] = some (.int .i64 n) := by simp [Qn, Vb]
theorem lenN38 : Qn Tryz.prog .len #[38] [.nilS] = some (.int .i64 0) := by simp [Qn, Vb]
theorem lenZ38 (n : Nat) (cs : List AV) : Qn Tryz.prog .len #[38] [.fz n cs] = some (.int .i64 n) := by simp [Qn, Vb]
theorem lenS65 (h o n c : Nat) : Qn Tryz.prog .len #[65] [.sl h o n c] = some (.int .i64 n) := by simp [Qn, Z8]
theorem lenG65 (h o n z : Nat) : Qn Tryz.prog .len #[65] [.sg h o n z] = some (.int .i64 n) := by simp [Qn, Z8]
theorem lenN65 : Qn Tryz.prog .len #[65] [.nilS] = some (.int .i64 0) := by simp [Qn, Z8]
theorem lenZ65 (n : Nat) (cs : List AV) : Qn Tryz.prog .len #[65] [.fz n cs] = some (.int .i64 n) := by simp [Qn, Z8]
theorem lenS123 (h o n c : Nat) : Qn Tryz.prog .len #[123] [.sl h o n c] = some (.int .i64 n) := by simp [Qn, Kf]
theorem lenG123 (h o n z : Nat) : Qn Tryz.prog .len #[123] [.sg h o n z] = some (.int .i64 n) := by simp [Qn, Kf]
theorem lenN123 : Qn Tryz.prog .len #[123] [.nilS] = some (.int .i64 0) := by simp [Qn, Kf]
theorem lenZ123 (n : Nat) (cs : List AV) : Qn Tryz.prog .len #[123] [.fz n cs] = some (.int .i64 n) := by simp [Qn, Kf]
theorem lenS131 (h o n c : Nat) : Qn Tryz.prog .len #[131] [.sl h o n c] = some (.int .i64 n) := by simp [Qn, Wn]
theorem lenG131 (h o n z : Nat) : Qn Tryz.prog .len #[131] [.sg h o n z] = some (.int .i64 n) := by simp [Qn, Wn]
theorem lenS199 (h o n c : Nat) : Qn Tryz.prog .len #[199] [.sl h o n c] = some (.int .i64 n) := by simp [Qn, Nh]
theorem lenG199 (h o n z : Nat) : Qn Tryz.prog .len #[199] [.sg h o n z] = some (.int .i64 n) := by simp [Qn, Nh]
theorem lenN199 : Qn Tryz.prog .len #[199] [.nilS] = some (.int .i64 0) := by simp [Qn, Nh]
theorem lenZ199 (n : Nat) (cs : List AV) : Qn Tryz.prog .len #[199] [.fz n cs] = some (.int .i64 n) := by simp [Qn, Nh]
theorem Xx {h o n c : Nat} {l : IntKind} {j : Int} (h0 : 0 ≤ j) (h1 : j < (n : Int)) : Qx Tryz.prog 38 (.sl h o n c) (.int l j) = some (.ptr h (o + j.toNat)) := at_sl1 Vb Yr h0 h1
theorem Xy {h o n : Nat} {l : IntKind} {j : Int} (h0 : 0 ≤ j) (h1 : j < (n : Int)) : Qx Tryz.prog 38 (.sg h o n 1) (.int l j) = some (.ptr h (o + j.toNat)) := at_sg1 Vb Yr h0 h1
theorem Z0 {n : Nat} {cs : List AV} {l : IntKind} {j : Int} (h0 : 0 ≤ j) (h1 : j < (n : Int)) : Qx Tryz.prog 38 (.fz n cs) (.int l j) = some (.fp (cs.drop (j.toNat))) := at_fz1 Vb Yr h0 h1
theorem Xa {h o n c : Nat} {l : IntKind} {j : Int} (h0 : 0 ≤ j) (h1 : j < (n : Int)) : Qx Tryz.prog 65 (.sl h o n c) (.int l j) = some (.ptr h (o + j.toNat)) := at_sl1 Z8 Z4 h0 h1
theorem Xb {h o n : Nat} {l : IntKind} {j : Int} (h0 : 0 ≤ j) (h1 : j < (n : Int)) : Qx Tryz.prog 65 (.sg h o n 1) (.int l j) = some (.ptr h (o + j.toNat)) := at_sg1 Z8 Z4 h0 h1
theorem X9 {n : Nat} {cs : List AV} {l : IntKind} {j : Int} (h0 : 0 ≤ j) (h1 : j < (n : Int)) : Qx Tryz.prog 65 (.fz n cs) (.int l j) = some (.fp (cs.drop (j.toNat))) := at_fz1 Z8 Z4 h0 h1
theorem Nk {h o n c : Nat} {l : IntKind} {j : Int} (h0 : 0 ≤ j) (h1 : j < (n : Int)) : Qx Tryz.prog 123 (.sl h o n c) (.int l j) = some (.ptr h (o + j.toNat)) := at_sl1 Kf Nu h0 h1
theorem Nn {h o n : Nat} {l : IntKind} {j : Int} (h0 : 0 ≤ j) (h1 : j < (n : Int)) : Qx Tryz.prog 123 (.sg h o n 1) (.int l j) = some (.ptr h (o + j.toNat)) := at_sg1 Kf Nu h0 h1
theorem Ng {n : Nat} {cs : List AV} {l : IntKind} {j : Int} (h0 : 0 ≤ j) (h1 : j < (n : Int)) : Qx Tryz.prog 123 (.fz n cs) (.int l j) = some (.fp (cs.drop (j.toNat))) := at_fz1 Kf Nu h0 h1
theorem Vk {h o n c : Nat} {l : IntKind} {j : Int} (h0 : 0 ≤ j) (h1 : j < (n : Int)) : Qx Tryz.prog 131 (.sl h o n c) (.int l j) = some (.ptr h (o + j.toNat * 16)) := at_sl Wn Us h0 h1
theorem Vm {h o n : Nat} {l : IntKind} {j : Int} (h0 : 0 ≤ j) (h1 : j < (n : Int)) : Qx Tryz.prog 131 (.sg h o n 16) (.int l j) = some (.ptr h (o + j.toNat * 16)) := at_sg Wn Us h0 h1
theorem six199 {h o n c : Nat} {l : IntKind} {j : Int} (h0 : 0 ≤ j) (h1 : j < (n : Int)) : Qx Tryz.prog 199 (.sl h o n c) (.int l j) = some (.ptr h (o + j.toNat)) := at_sl1 Nh Nj h0 h1
theorem gix199 {h o n : Nat} {l : IntKind} {j : Int} (h0 : 0 ≤ j) (h1 : j < (n : Int)) : Qx Tryz.prog 199 (.sg h o n 1) (.int l j) = some (.ptr h (o + j.toNat)) := at_sg1 Nh Nj h0 h1
theorem zix199 {n : Nat} {cs : List AV} {l : IntKind} {j : Int} (h0 : 0 ≤ j) (h1 : j < (n : Int)) : Qx Tryz.prog 199 (.fz n cs) (.int l j) = some (.fp (cs.drop (j.toNat))) := at_fz1 Nh Nj h0 h1
theorem Zz {h o : Nat} {l : IntKind} {j : Int} (h0 : 0 ≤ j) (h1 : j < 16) : Qx Tryz.prog 72 (.ptr h o) (.int l j) = some (.ptr h (o + j.toNat * 1)) := J0d und72 Z4 h0 h1
theorem sla72 {h o : Nat} : Yg Tryz.prog 72 (.ptr h o) none none none = some (.sl h o 16 16) := Nc und72 Z4
theorem Zx {h o : Nat} {l : IntKind} {q : Int} (h0 : 0 ≤ q) (h1 : q ≤ 16) : Yg Tryz.prog 72 (.ptr h o) none (some (.int l q)) none = some (.sl h o q.toNat 16) := Wr und72 Z4 h0 h1
theorem Zy {h o : Nat} {l : IntKind} {j : Int} (h0 : 0 ≤ j) (h1 : j < 16) : Qx Tryz.prog 73 (.ptr h o) (.int l j) = some (.ptr h (o + j.toNat * 1)) := J0d und73 Z4 h0 h1
theorem sla73 {h o : Nat} : Yg Tryz.prog 73 (.ptr h o) none none none = some (.sl h o 16 16) := Nc und73 Z4
theorem Zw {h o : Nat} {l : IntKind} {q : Int} (h0 : 0 ≤ q) (h1 : q ≤ 16) : Yg Tryz.prog 73 (.ptr h o) none (some (.int l q)) none = some (.sl h o q.toNat 16) := Wr und73 Z4 h0 h1
theorem ix73 {l k : IntKind} {xs : List Int} {j : Int} (hn : xs.length = 16) (h0 : 0 ≤ j) (h1 : j < 16) : Gv Tryz.prog 73 (.agg (xs.map (AV.int k))) (.int l j) = some (.int k (xs.getD j.toNat 0)) := J0c und73 Z4 Yt hn h0 h1
theorem idx188 {h o : Nat} {l : IntKind} {j : Int} (h0 : 0 ≤ j) (h1 : j < 17) : Qx Tryz.prog 188 (.ptr h o) (.int l j) = some (.ptr h (o + j.toNat * 1)) := J0d und188 Z4 h0 h1
theorem sla188 {h o : Nat} : Yg Tryz.prog 188 (.ptr h o) none none none = some (.sl h o 17 17) := Nc und188 Z4
theorem slh188 {h o : Nat} {l : IntKind} {q : Int} (h0 : 0 ≤ q) (h1 : q ≤ 17) : Yg Tryz.prog 188 (.ptr h o) none (some (.int l q)) none = some (.sl h o q.toNat 17) := Wr und188 Z4 h0 h1
theorem fad22_0 {h o : Nat} : Qh Tryz.prog 22 (.ptr h o) 0 = some (.ptr h (o)) := by simp [Qh, und22, Yr]
theorem faz22_0 {cs : List AV} : Qh Tryz.prog 22 (.fp cs) 0 = some (.fp (cs.drop 0)) := by simp [Qh, und22, Yr]
theorem fad22_1 {h o : Nat} : Qh Tryz.prog 22 (.ptr h o) 1 = some (.ptr h (o + 1)) := by simp [Qh, und22, Yr]
theorem faz22_1 {cs : List AV} : Qh Tryz.prog 22 (.fp cs) 1 = some (.fp (cs.drop 1)) := by simp [Qh, und22, Yr]
theorem fad23_0 {h o : Nat} : Qh Tryz.prog 23 (.ptr h o) 0 = some (.ptr h (o)) := by simp [Qh, und23, Yr]
theorem faz23_0 {cs : List AV} : Qh Tryz.prog 23 (.fp cs) 0 = some (.fp (cs.drop 0)) := by simp [Qh, und23, Yr]
theorem fad23_1 {h o : Nat} : Qh Tryz.prog 23 (.ptr h o) 1 = some (.ptr h (o + 1)) := by simp [Qh, und23, Yr]
theorem faz23_1 {cs : List AV} : Qh Tryz.prog 23 (.fp cs) 1 = some (.fp (cs.drop 1)) := by simp [Qh, und23, Yr]
theorem fad194_0 {h o : Nat} : Qh Tryz.prog 194 (.ptr h o) 0 = some (.ptr h (o)) := by simp [Qh, und194, Nu]
theorem faz194_0 {cs : List AV} : Qh Tryz.prog 194 (.fp cs) 0 = some (.fp (cs.drop 0)) := by simp [Qh, und194, Nu]
theorem fad194_1 {h o : Nat} : Qh Tryz.prog 194 (.ptr h o) 1 = some (.ptr h (o + 1)) := by simp [Qh, und194, Nj]
theorem faz194_1 {cs : List AV} : Qh Tryz.prog 194 (.fp cs) 1 = some (.fp (cs.drop 1)) := by simp [Qh, und194, Nj]
theorem fad195_0 {h o : Nat} : Qh Tryz.prog 195 (.ptr h o) 0 = some (.ptr h (o)) := by simp [Qh, J0y, Nu]
theorem faz195_0 {cs : List AV} : Qh Tryz.prog 195 (.fp cs) 0 = some (.fp (cs.drop 0)) := by simp [Qh, J0y, Nu]
theorem fad195_1 {h o : Nat} : Qh Tryz.prog 195 (.ptr h o) 1 = some (.ptr h (o + 1)) := by simp [Qh, J0y, Nj]
theorem faz195_1 {cs : List AV} : Qh Tryz.prog 195 (.fp cs) 1 = some (.fp (cs.drop 1)) := by simp [Qh, J0y, Nj]
theorem Xt : Yh Tryz.prog 23 [] = some (.agg [(.int .i64 0), (.int .i64 0)]) := by
  simp [Yh, zero23, G1, und23, Yr, Q7, Q2, AV.cells_agg]
theorem Xv {x0 : AV} (h0 : x0.one = true) : Yh Tryz.prog 23 [(0, x0)] = some (.agg [x0, (.int .i64 0)]) := by
  simp [Yh, zero23, G1, und23, Yr, Q7, Q2, AV.solid_one h0, AV.cells_one h0, AV.cells_agg]
theorem Xj {x0 x1 : AV} (h0 : x0.one = true) (h1 : x1.one = true) : Yh Tryz.prog 23 [(0, x0), (1, x1)] = some (.agg [x0, x1]) := by
  simp [Yh, zero23, G1, und23, Yr, Q7, Q2, AV.solid_one h0, AV.cells_one h0, AV.solid_one h1, AV.cells_one h1, AV.cells_agg]
theorem Xu {x1 : AV} (h1 : x1.one = true) : Yh Tryz.prog 23 [(1, x1)] = some (.agg [(.int .i64 0), x1]) := by
  simp [Yh, zero23, G1, und23, Yr, Q7, Q2, AV.solid_one h1, AV.cells_one h1, AV.cells_agg]
theorem bst195_01 {x0 x1 : AV} (h0 : x0.one = true) (h1 : x1.one = true) : Yh Tryz.prog 195 [(0, x0), (1, x1)] = some (.agg [x0, x1]) := by
  simp [Yh, zero195, G1, J0y, Nu, Nj, Q7, Q2, AV.solid_one h0, AV.cells_one h0, AV.solid_one h1, AV.cells_one h1, AV.cells_agg]
theorem eg22 : Tryz.prog.eqGuardType Tryz.prog.depth 22 = false := by kernel_rfl
theorem eg23 : Tryz.prog.eqGuardType Tryz.prog.depth 23 = false := by kernel_rfl
theorem eg72 : Tryz.prog.eqGuardType Tryz.prog.depth 72 = false := by kernel_rfl
theorem eg73 : Tryz.prog.eqGuardType Tryz.prog.depth 73 = false := by kernel_rfl
theorem eg188 : Tryz.prog.eqGuardType Tryz.prog.depth 188 = false := by kernel_rfl
theorem eqB4 (a b : Bool) : Xm Tryz.prog Op.maxDepth 4 (.bool a) (.bool b) = some (a == b) := eq_bools und4
theorem eqSl38 (h o n c : Nat) : Xm Tryz.prog Op.maxDepth 38 (.sl h o n c) .nilS = some false := Yo Vb
theorem eqSg38 (h o n c : Nat) : Xm Tryz.prog Op.maxDepth 38 (.sg h o n c) .nilS = some false := Yp Vb
theorem eqSn38 : Xm Tryz.prog Op.maxDepth 38 .nilS .nilS = some true := Yc Vb
theorem eqSl65 (h o n c : Nat) : Xm Tryz.prog Op.maxDepth 65 (.sl h o n c) .nilS = some false := Yo Z8
theorem eqSg65 (h o n c : Nat) : Xm Tryz.prog Op.maxDepth 65 (.sg h o n c) .nilS = some false := Yp Z8
theorem eqSn65 : Xm Tryz.prog Op.maxDepth 65 .nilS .nilS = some true := Yc Z8
theorem eqSl123 (h o n c : Nat) : Xm Tryz.prog Op.maxDepth 123 (.sl h o n c) .nilS = some false := Yo Kf
theorem eqSg123 (h o n c : Nat) : Xm Tryz.prog Op.maxDepth 123 (.sg h o n c) .nilS = some false := Yp Kf
theorem eqSn123 : Xm Tryz.prog Op.maxDepth 123 .nilS .nilS = some true := Yc Kf
theorem eqPn173 (h o : Nat) : Xm Tryz.prog Op.maxDepth 173 (.ptr h o) .nilP = some false := eq_ptr_nil und173
theorem eqPP173 : Xm Tryz.prog Op.maxDepth 173 .nilP .nilP = some true := Rf und173
theorem eqPz173 (cs : List AV) : Xm Tryz.prog Op.maxDepth 173 (.fp cs) .nilP = some false := eq_fp_nil und173
theorem eqPn193 (h o : Nat) : Xm Tryz.prog Op.maxDepth 193 (.ptr h o) .nilP = some false := eq_ptr_nil und193
theorem eqPP193 : Xm Tryz.prog Op.maxDepth 193 .nilP .nilP = some true := Rf und193
theorem eqPz193 (cs : List AV) : Xm Tryz.prog Op.maxDepth 193 (.fp cs) .nilP = some false := eq_fp_nil und193
theorem eqSl199 (h o n c : Nat) : Xm Tryz.prog Op.maxDepth 199 (.sl h o n c) .nilS = some false := Yo Nh
theorem eqSg199 (h o n c : Nat) : Xm Tryz.prog Op.maxDepth 199 (.sg h o n c) .nilS = some false := Yp Nh
theorem eqSn199 : Xm Tryz.prog Op.maxDepth 199 .nilS .nilS = some true := Yc Nh
theorem cv2_71 (H : Hp) (k : IntKind) (n : Int) : Up Tryz.prog H 2 71 (.int k n) = some (.int .u64 (IntKind.u64.wrap n)) := by simp [Up, und2, und71]
theorem N9 (H : Hp) (k : IntKind) (n : Int) : Up Tryz.prog H 3 165 (.int k n) = some (.int .u64 (IntKind.u64.wrap n)) := by simp [Up, und3, und165]
theorem cv5_3 (H : Hp) (k : IntKind) (n : Int) : Up Tryz.prog H 5 3 (.int k n) = some (.int .i64 (IntKind.i64.wrap n)) := by simp [Up, und5, und3]
theorem J05 (H : Hp) (k : IntKind) (n : Int) : Up Tryz.prog H 71 2 (.int k n) = some (.int .i64 (IntKind.i64.wrap n)) := by simp [Up, und71, und2]
theorem cv71_5 (H : Hp) (k : IntKind) (n : Int) : Up Tryz.prog H 71 5 (.int k n) = some (.int .u8 (IntKind.u8.wrap n)) := by simp [Up, und71, und5]
theorem cv71_225 (H : Hp) (k : IntKind) (n : Int) : Up Tryz.prog H 71 225 (.int k n) = some (.int .u32 (IntKind.u32.wrap n)) := by simp [Up, und71, und225]
theorem cv225_2 (H : Hp) (k : IntKind) (n : Int) : Up Tryz.prog H 225 2 (.int k n) = some (.int .i64 (IntKind.i64.wrap n)) := by simp [Up, und225, und2]
theorem Zg : type_of% (Jc @und2 (Jc @agg2 (Jc @Yr (Jc @bytes2 (@zero2))))) := Jc @und2 (Jc @agg2 (Jc @Yr (Jc @bytes2 (@zero2))))
theorem Xw : type_of% (Jc @und3 (Jc @agg3 (Jc @size3 (Jc @bytes3 (@zero3))))) := Jc @und3 (Jc @agg3 (Jc @size3 (Jc @bytes3 (@zero3))))
theorem Zh : type_of% (Jc @und4 (Jc @agg4 (Jc @size4 (Jc @bytes4 (Jc @zero4 (@eqB4)))))) := Jc @und4 (Jc @agg4 (Jc @size4 (Jc @bytes4 (Jc @zero4 (@eqB4)))))
theorem tyb5 : type_of% (Jc @und5 (Jc @agg5 (Jc @size5 (Jc @bytes5 (@zero5))))) := Jc @und5 (Jc @agg5 (Jc @size5 (Jc @bytes5 (@zero5))))
theorem tyb9 : type_of% (Jc @und9 (Jc @agg9 (Jc @Nu (Jc @bytes9 (@zero9))))) := Jc @und9 (Jc @agg9 (Jc @Nu (Jc @bytes9 (@zero9))))
theorem tyb20 : type_of% (Jc @und20 (Jc @agg20 (Jc @size20 (Jc @bytes20 (@zero20))))) := Jc @und20 (Jc @agg20 (Jc @size20 (Jc @bytes20 (@zero20))))
theorem Uz : type_of% (Jc @und22 (Jc @agg22 (Jc @size22 (Jc @bytes22 (Jc @zero22 (Jc @fad22_0 (Jc @faz22_0 (Jc @fad22_1 (Jc @faz22_1 (@eg22)))))))))) := Jc @und22 (Jc @agg22 (Jc @size22 (Jc @bytes22 (Jc @zero22 (Jc @fad22_0 (Jc @faz22_0 (Jc @fad22_1 (Jc @faz22_1 (@eg22)))))))))
theorem Uy : type_of% (Jc @und23 (Jc @agg23 (Jc @J1z (Jc @bytes23 (Jc @zero23 (Jc @fad23_0 (Jc @faz23_0 (Jc @fad23_1 (Jc @faz23_1 (@eg23)))))))))) := Jc @und23 (Jc @agg23 (Jc @J1z (Jc @bytes23 (Jc @zero23 (Jc @fad23_0 (Jc @faz23_0 (Jc @fad23_1 (Jc @faz23_1 (@eg23)))))))))
theorem U1 : type_of% (Jc @und30 (Jc @agg30 (Jc @size30 (Jc @bytes30 (@zero30))))) := Jc @und30 (Jc @agg30 (Jc @size30 (Jc @bytes30 (@zero30))))
theorem U0 : type_of% (Jc @Ys (Jc @agg31 (Jc @Nj (Jc @bytes31 (@zero31))))) := Jc @Ys (Jc @agg31 (Jc @Nj (Jc @bytes31 (@zero31))))
theorem Yv : type_of% (Jc @Vb (Jc @agg38 (Jc @Rx (Jc @bytes38 (Jc @zero38 (Jc @lenS38 (Jc @lenG38 (Jc @lenN38 (Jc @lenZ38 (Jc @eqSl38 (Jc @eqSg38 (@eqSn38)))))))))))) := Jc @Vb (Jc @agg38 (Jc @Rx (Jc @bytes38 (Jc @zero38 (Jc @lenS38 (Jc @lenG38 (Jc @lenN38 (Jc @lenZ38 (Jc @eqSl38 (Jc @eqSg38 (@eqSn38)))))))))))
theorem Z1 : type_of% (Jc @Z8 (Jc @agg65 (Jc @J1y (Jc @bytes65 (Jc @zero65 (Jc @lenS65 (Jc @lenG65 (Jc @lenN65 (Jc @lenZ65 (Jc @eqSl65 (Jc @eqSg65 (@eqSn65)))))))))))) := Jc @Z8 (Jc @agg65 (Jc @J1y (Jc @bytes65 (Jc @zero65 (Jc @lenS65 (Jc @lenG65 (Jc @lenN65 (Jc @lenZ65 (Jc @eqSl65 (Jc @eqSg65 (@eqSn65)))))))))))
theorem Xc : type_of% (Jc @und71 (Jc @Yt (Jc @Z4 (Jc @bytes71 (@zero71))))) := Jc @und71 (Jc @Yt (Jc @Z4 (Jc @bytes71 (@zero71))))
theorem Y9 : type_of% (Jc @und72 (Jc @agg72 (Jc @size72 (Jc @bytes72 (Jc @zero72 (Jc @bld72 (Jc @sla72 (@eg72)))))))) := Jc @und72 (Jc @agg72 (Jc @size72 (Jc @bytes72 (Jc @zero72 (Jc @bld72 (Jc @sla72 (@eg72)))))))
theorem Y8 : type_of% (Jc @und73 (Jc @agg73 (Jc @Us (Jc @bytes73 (Jc @zero73 (Jc @bld73 (Jc @sla73 (@eg73)))))))) := Jc @und73 (Jc @agg73 (Jc @Us (Jc @bytes73 (Jc @zero73 (Jc @bld73 (Jc @sla73 (@eg73)))))))
theorem Kg : type_of% (Jc @und114 (Jc @agg114 (Jc @size114 (Jc @bytes114 (@zero114))))) := Jc @und114 (Jc @agg114 (Jc @size114 (Jc @bytes114 (@zero114))))
theorem J02 : type_of% (Jc @Kf (Jc @agg123 (Jc @size123 (Jc @bytes123 (Jc @zero123 (Jc @lenS123 (Jc @lenG123 (Jc @lenN123 (Jc @lenZ123 (Jc @eqSl123 (Jc @eqSg123 (@eqSn123)))))))))))) := Jc @Kf (Jc @agg123 (Jc @size123 (Jc @bytes123 (Jc @zero123 (Jc @lenS123 (Jc @lenG123 (Jc @lenN123 (Jc @lenZ123 (Jc @eqSl123 (Jc @eqSg123 (@eqSn123)))))))))))
theorem J00 : type_of% (Jc @und165 (Jc @agg165 (Jc @size165 (Jc @bytes165 (@zero165))))) := Jc @und165 (Jc @agg165 (Jc @size165 (Jc @bytes165 (@zero165))))
theorem tyb173 : type_of% (Jc @und173 (Jc @agg173 (Jc @size173 (Jc @bytes173 (Jc @zero173 (Jc @eqPn173 (Jc @eqPP173 (@eqPz173)))))))) := Jc @und173 (Jc @agg173 (Jc @size173 (Jc @bytes173 (Jc @zero173 (Jc @eqPn173 (Jc @eqPP173 (@eqPz173)))))))
theorem tyb188 : type_of% (Jc @und188 (Jc @agg188 (Jc @size188 (Jc @bytes188 (Jc @zero188 (Jc @bld188 (Jc @sla188 (@eg188)))))))) := Jc @und188 (Jc @agg188 (Jc @size188 (Jc @bytes188 (Jc @zero188 (Jc @bld188 (Jc @sla188 (@eg188)))))))
theorem tyb193 : type_of% (Jc @und193 (Jc @agg193 (Jc @size193 (Jc @bytes193 (Jc @zero193 (Jc @eqPn193 (Jc @eqPP193 (@eqPz193)))))))) := Jc @und193 (Jc @agg193 (Jc @size193 (Jc @bytes193 (Jc @zero193 (Jc @eqPn193 (Jc @eqPP193 (@eqPz193)))))))
theorem tyb194 : type_of% (Jc @und194 (Jc @agg194 (Jc @size194 (Jc @bytes194 (Jc @zero194 (Jc @fad194_0 (Jc @faz194_0 (Jc @fad194_1 (@faz194_1))))))))) := Jc @und194 (Jc @agg194 (Jc @size194 (Jc @bytes194 (Jc @zero194 (Jc @fad194_0 (Jc @faz194_0 (Jc @fad194_1 (@faz194_1))))))))
theorem tyb195 : type_of% (Jc @J0y (Jc @agg195 (Jc @size195 (Jc @bytes195 (Jc @zero195 (Jc @fad195_0 (Jc @faz195_0 (Jc @fad195_1 (@faz195_1))))))))) := Jc @J0y (Jc @agg195 (Jc @size195 (Jc @bytes195 (Jc @zero195 (Jc @fad195_0 (Jc @faz195_0 (Jc @fad195_1 (@faz195_1))))))))
theorem tyb196 : type_of% (Jc @und196 (Jc @agg196 (Jc @size196 (Jc @bytes196 (@zero196))))) := Jc @und196 (Jc @agg196 (Jc @size196 (Jc @bytes196 (@zero196))))
theorem tyb199 : type_of% (Jc @Nh (Jc @agg199 (Jc @size199 (Jc @bytes199 (Jc @zero199 (Jc @lenS199 (Jc @lenG199 (Jc @lenN199 (Jc @lenZ199 (Jc @eqSl199 (Jc @eqSg199 (@eqSn199)))))))))))) := Jc @Nh (Jc @agg199 (Jc @size199 (Jc @bytes199 (Jc @zero199 (Jc @lenS199 (Jc @lenG199 (Jc @lenN199 (Jc @lenZ199 (Jc @eqSl199 (Jc @eqSg199 (@eqSn199)))))))))))
theorem tyb225 : type_of% (Jc @und225 (Jc @agg225 (Jc @size225 (Jc @bytes225 (@zero225))))) := Jc @und225 (Jc @agg225 (Jc @size225 (Jc @bytes225 (@zero225))))
end Go.Proofs.YtigddjlhncnnoaaGreatDoor
namespace Go.Proofs.YtigddjlhncnnoaaGreatDoor
open Go.AL Go.PW
theorem Zr (n : Int) : IntKind.u64.wrap n = n % Bs := by
  have e : ((2 : Int) ^ IntKind.u64.bits) = Bs := by decide
  simp only [IntKind.wrap, IntKind.signed, Bool.false_and, Bool.false_eq_true, if_false, e]
theorem Y0 {n : Int} (h0 : 0 ≤ n) (h1 : n < Bs) : IntKind.u64.wrap n = n := by rw [Zr]; exact Int.emod_eq_of_lt h0 h1
theorem ofInt64 {n : Nat} (h : n < 2 ^ 64) : (BitVec.ofInt IntKind.u64.bits (n : Int)).toNat = n := by
  rw [BitVec.toNat_ofInt]
  have : ((2 : Nat) ^ IntKind.u64.bits) = 18446744073709551616 := by decide
  rw [this]
  omega
theorem nat_lt {x : Int} (hx : 0 ≤ x) (hx' : x < Bs) : ∃ a : Nat, x = a ∧ a < 2 ^ 64 := by
  obtain ⟨a, rfl⟩ := Int.eq_ofNat_of_zero_le hx
  exact ⟨a, rfl, by simp only [Bs] at hx'; omega⟩
theorem wrap_nat {a : Nat} (h : a < 2 ^ 64) : IntKind.u64.wrap (a : Int) = a := Y0 (by omega) (by simp only [Bs]; omega)
theorem xor64 {a b : Nat} (ha : a < 2 ^ 64) (hb : b < 2 ^ 64) : bits .xor .u64 (a : Int) (b : Int) = ((a ^^^ b : Nat) : Int) := by
  have hab := Nat.xor_lt_two_pow ha hb
  unfold bits
  simp only
  rw [BitVec.toNat_xor, ofInt64 ha, ofInt64 hb]
  exact wrap_nat hab
theorem and64 {a b : Nat} (ha : a < 2 ^ 64) (hb : b < 2 ^ 64) : bits .and .u64 (a : Int) (b : Int) = ((a &&& b : Nat) : Int) := by
  have hab : a &&& b < 2 ^ 64 := Nat.lt_of_le_of_lt Nat.and_le_left ha
  unfold bits
  simp only
  rw [BitVec.toNat_and, ofInt64 ha, ofInt64 hb]
  exact wrap_nat hab
theorem or64 {a b : Nat} (ha : a < 2 ^ 64) (hb : b < 2 ^ 64) : bits .or .u64 (a : Int) (b : Int) = ((a ||| b : Nat) : Int) := by
  have hab := Nat.or_lt_two_pow ha hb
  unfold bits
  simp only
  rw [BitVec.toNat_or, ofInt64 ha, ofInt64 hb]
  exact wrap_nat hab
theorem not64 {x : Int} (h0 : 0 ≤ x) (h1 : x < Bs) : bits .xor .u64 (if IntKind.u64.signed = true then -1 else IntKind.u64.max) x = Bs - 1 - x := by
  have e : (if IntKind.u64.signed = true then -1 else IntKind.u64.max) = ((2 ^ 64 - 1 : Nat) : Int) := by decide
  obtain ⟨a, rfl, ha⟩ := nat_lt h0 h1
  rw [e, xor64 (by decide) ha]
  have h2 : (2 ^ 64 - 1) ^^^ a = 2 ^ 64 - 1 - a := by
    have h3 : (BitVec.allOnes 64 ^^^ BitVec.ofNat 64 a) = ~~~ (BitVec.ofNat 64 a) := BitVec.allOnes_xor
    have h4 := congrArg BitVec.toNat h3
    rw [BitVec.toNat_xor, BitVec.toNat_not, BitVec.toNat_allOnes, BitVec.toNat_ofNat, Nat.mod_eq_of_lt ha] at h4
    exact h4
  rw [h2]
  simp only [Bs]
  omega
theorem low32 {x : Int} (h0 : 0 ≤ x) (h1 : x < Bs) : bits .and .u64 x 4294967295 = x % 4294967296 := by
  obtain ⟨a, rfl, ha⟩ := nat_lt h0 h1
  have h2 := and64 (b := 4294967295) ha (by decide)
  have h3 := Nat.and_two_pow_sub_one_eq_mod a 32
  have e : (2 ^ 32 - 1 : Nat) = 4294967295 := by decide
  rw [e] at h3
  rw [h3] at h2
  exact h2.trans (by omega)
theorem or_add {x y : Int} (k : Nat) (h0 : 0 ≤ x) (h1 : x * 2 ^ k < Bs) (h2 : 0 ≤ y) (h3 : y < 2 ^ k) (h4 : y < Bs) : bits .or .u64 (x * 2 ^ k) y = x * 2 ^ k + y := by
  have hp : (0 : Int) < 2 ^ k := Int.pow_pos (by decide)
  obtain ⟨a, rfl⟩ := Int.eq_ofNat_of_zero_le h0
  obtain ⟨b, rfl⟩ := Int.eq_ofNat_of_zero_le h2
  have e : ((a : Int) * 2 ^ k) = ((a * 2 ^ k : Nat) : Int) := by simp
  have hb : b < 2 ^ k := by
    have : ((b : Int)) < ((2 ^ k : Nat) : Int) := by simpa using h3
    omega
  rw [e] at h1 ⊢
  have h5 : a * 2 ^ k < 2 ^ 64 := by simp only [Bs] at h1; omega
  have h6 : b < 2 ^ 64 := by simp only [Bs] at h4; omega
  rw [or64 h5 h6]
  have h7 := Nat.shiftLeft_add_eq_or_of_lt hb a
  rw [Nat.shiftLeft_eq] at h7
  rw [← h7]
  omega
def M : Int := Bs ^ 16
def Mh : Int := Bs ^ 15 * 9223372036854775808
theorem M_two : M = 2 * Mh := by decide
theorem M_pow : M = Bs ^ 16 := rfl
theorem M_pos : 0 < M := by decide
theorem Mh_pos : 0 < Mh := by decide
theorem top_iff (x : Int) : ((dig 16 x).getD 15 0 / 9223372036854775808 == 1) = decide (Mh ≤ x % M) := by
  rw [Kt 16 x 15 (by decide)]
  have h := emod_two (x := x) (m := Bs ^ 15) (k := Bs) (by decide)
  have e : Bs ^ 15 * Bs = M := by decide
  rw [e] at h
  have h1 := Int.emod_nonneg x (b := Bs ^ 15) (by decide)
  have h2 := Int.emod_lt_of_pos x (b := Bs ^ 15) (by decide)
  have h3 := Int.emod_nonneg (x / Bs ^ 15) (b := Bs) (by decide)
  have h4 := Int.emod_lt_of_pos (x / Bs ^ 15) (b := Bs) (by decide)
  rw [← h]
  have eM : Mh = Bs ^ 15 * 9223372036854775808 := rfl
  rw [eM]
  have hp : (0 : Int) < Bs ^ 15 := by decide
  generalize x / Bs ^ 15 % Bs = t at *
  generalize x % Bs ^ 15 = r at *
  generalize Bs ^ 15 = p at *
  have key : (t / 9223372036854775808 = 1) ↔ (p * 9223372036854775808 ≤ r + p * t) := by
    constructor
    · intro ht
      have : 9223372036854775808 ≤ t := by omega
      have := Int.mul_le_mul_of_nonneg_left this (Int.le_of_lt hp)
      omega
    · intro ht
      rcases Int.lt_or_le t 9223372036854775808 with h5 | h5
      · have : p * (t + 1) ≤ p * 9223372036854775808 := Int.mul_le_mul_of_nonneg_left (by omega) (Int.le_of_lt hp)
        rw [Int.mul_add] at this
        omega
      · simp only [Bs] at h4; omega
  rw [Bool.eq_iff_iff]
  simp only [beq_iff_eq, decide_eq_true_eq]
  exact key
def In (x : Int) : Prop := -Mh ≤ x ∧ x < Mh
theorem W6 {x : Int} (h : In x) : decide (Mh ≤ x % M) = decide (x < 0) := by
  obtain ⟨h1, h2⟩ := h
  have hm := M_two
  have hp := Mh_pos
  rcases Int.lt_or_le x 0 with h0 | h0
  · have : x % M = x + M := by
      rw [← Int.add_emod_right, Int.emod_eq_of_lt (by omega) (by omega)]
    rw [this]
    have h3 : Mh ≤ x + M := by omega
    simp [h0, h3]
  · have : x % M = x := Int.emod_eq_of_lt h0 (by omega)
    rw [this]
    have h3 : ¬ Mh ≤ x := by omega
    have h4 : ¬ x < 0 := by omega
    simp [h3, h4]
theorem dig_M {x y : Int} (h : x % M = y % M) : dig 16 x = dig 16 y := dig_mod 16 x y h
theorem val_M (x : Int) : val (dig 16 x) = x % M := Wj 16 x
attribute [irreducible] M Mh
end Go.Proofs.YtigddjlhncnnoaaGreatDoor
namespace Go.Proofs.YtigddjlhncnnoaaGreatDoor
open Go.AL Go.PW
theorem tf112WdA : type_of% (Jc @Xc (Jc @Y9 (@Y8))) := Jc @Xc (Jc @Y9 (@Y8))
theorem Ru : type_of% (Jc @Xw (Jc @Xc (Jc @Y9 (@Y8)))) := Jc @Xw (Jc @Xc (Jc @Y9 (@Y8)))
set_option maxRecDepth 8000
abbrev W (x : Int) : AV := .agg ((dig 16 x).map (AV.int .u64))
abbrev Wb (x : Int) : Blk := ⟨(dig 16 x).map (AV.int .u64), .own, 73⟩
theorem ext_quiet {f : FuncId} {fn : Func} {e : Array Value → Sem Value} (hf : Tryz.prog.funcs[f]? = some fn) (hname : (fn.name == "runtime.NumGoroutine") = false)
    (hb : fn.body.isNone = true) (hn : Extern.findNext fn = none) (he : Extern.find fn = some e) {args : List AV} {r : AV} {H : Hp} (hr : ∀ n, r.lt n)
    (h : ∀ (β : Env) (vs : Array Value) (w : World), VRs β args vs.toList → ∃ v, (e vs).run Tryz.prog w = .ok v w ∧ VR β r v) : AExt Tryz.prog f args H fun r' H' => r' = r ∧ H = H' := by
  intro w0 B β w vs R hv hl
  obtain ⟨v, h1, h2⟩ := h β vs w hv
  refine ⟨v, w, β, r, H, ?_, ⟨rfl, rfl⟩, Agree.refl _ _, Nat.le_refl _, h2, hr _, R⟩
  rw [run_callFunc_extern hf hname hb hn he, h1]
  rfl
theorem three_eq (P : Program) (name : String) (x y c : Nat) (hc : ¬ 1 < c) (w : World) : (Extern.MathBitsCarry.three name ⟨[.int .u64 (x : Int), .int .u64 (y : Int), .int .u64 (c : Int)]⟩).run P w = .ok (x, y, c) w := by
  have h : ∀ a b d : Value, Extern.MathBitsCarry.three name ⟨[a, b, d]⟩ = (do
      let c := (← asInt d).toNat
      if c > 1 then unsupported (.noEntry ("extern/math/bits." ++ name ++ ": a carry that is neither 0 nor 1"))
      pure ((← asInt a).toNat, (← asInt b).toNat, c)) := fun _ _ _ => rfl
  rw [h]
  simp only [asInt, asIntOf, Sem.run_bind, Sem.run_pure, Result.andThen_ok, Int.toNat_natCast]
  rw [if_neg hc]
  simp
theorem Gn (H : Hp) (x y c : Int) (hx : 0 ≤ x) (hy : 0 ≤ y) (hc : 0 ≤ c ∧ c ≤ 1) : AExt Tryz.prog 129 [.int .u64 x, .int .u64 y, .int .u64 c] H fun r H' => r = .tup [.int .u64 ((x + y + c) % Bs), .int .u64 ((x + y + c) / Bs)] ∧ H = H' := by
  refine ext_quiet (e := fun args => do
    let (x, y, c) ← Extern.MathBitsCarry.three "Add64" args
    pure (Extern.MathBitsCarry.pair ((x + y + c) % Extern.MathBitsCarry.m64) ((x + y + c) / Extern.MathBitsCarry.m64))) Tryz.func129 (by kernel_rfl) (by kernel_rfl) (by kernel_rfl) (by kernel_rfl) (fun _ => by simp [AV.lt, AV.lts]) ?_
  intro β vs w hv
  obtain ⟨vs⟩ := vs
  simp only [VRs, VR] at hv
  obtain ⟨_, _, rfl, rfl, _, _, rfl, rfl, _, _, rfl, rfl, rfl⟩ := hv
  obtain ⟨x, rfl⟩ := Int.eq_ofNat_of_zero_le hx
  obtain ⟨y, rfl⟩ := Int.eq_ofNat_of_zero_le hy
  obtain ⟨c, rfl⟩ := Int.eq_ofNat_of_zero_le hc.1
  have hc1 : ¬ 1 < c := by omega
  refine ⟨_, by simp only [Sem.run_bind, three_eq _ _ _ _ _ hc1, Result.andThen_ok, Sem.run_pure]; rfl, ?_⟩
  simp only [Extern.MathBitsCarry.pair, VR, VRs, Extern.MathBitsCarry.m64]
  refine ⟨_, rfl, _, _, rfl, ?_, _, _, rfl, ?_, rfl⟩
  · simp [Bs]
  · simp [Bs]
theorem sub64 (H : Hp) (x y c : Int) (hx : 0 ≤ x) (hy : 0 ≤ y ∧ y < Bs) (hc : 0 ≤ c ∧ c ≤ 1) : AExt Tryz.prog 130 [.int .u64 x, .int .u64 y, .int .u64 c] H fun r H' => r = .tup [.int .u64 ((x - y - c) % Bs), .int .u64 (if x < y + c then 1 else 0)] ∧ H = H' := by
  refine ext_quiet (e := fun args => do
    let (x, y, b) ← Extern.MathBitsCarry.three "Sub64" args
    pure (Extern.MathBitsCarry.pair ((x + Extern.MathBitsCarry.m64 - y - b) % Extern.MathBitsCarry.m64) (if x < y + b then 1 else 0))) Tryz.func130 (by kernel_rfl) (by kernel_rfl) (by kernel_rfl) (by kernel_rfl) (fun _ => by simp [AV.lt, AV.lts]) ?_
  intro β vs w hv
  obtain ⟨vs⟩ := vs
  simp only [VRs, VR] at hv
  obtain ⟨_, _, rfl, rfl, _, _, rfl, rfl, _, _, rfl, rfl, rfl⟩ := hv
  obtain ⟨x, rfl⟩ := Int.eq_ofNat_of_zero_le hx
  obtain ⟨y, rfl⟩ := Int.eq_ofNat_of_zero_le hy.1
  obtain ⟨c, rfl⟩ := Int.eq_ofNat_of_zero_le hc.1
  have hc1 : ¬ 1 < c := by omega
  refine ⟨_, by simp only [Sem.run_bind, three_eq _ _ _ _ _ hc1, Result.andThen_ok, Sem.run_pure]; rfl, ?_⟩
  simp only [Extern.MathBitsCarry.pair, VR, VRs, Extern.MathBitsCarry.m64]
  refine ⟨_, rfl, _, _, rfl, ?_, _, _, rfl, ?_, rfl⟩
  · have hy2 : y < 18446744073709551616 := by have := hy.2; simp only [Bs] at this; omega
    have : ((x + 2 ^ 64 - y - c : Nat) : Int) = (x : Int) - y - c + Bs := by simp only [Bs]; omega
    simp only [Value.int.injEq, true_and, Int.ofNat_eq_natCast, Int.natCast_emod, this]
    simp only [Bs]
    omega
  · by_cases h : x < y + c
    · have : (x : Int) < (y : Int) + c := by omega
      simp [h, this]
    · have : ¬ (x : Int) < (y : Int) + c := by omega
      simp [h, this]
theorem below_calls (x : Int) (H : Hp) : ACalls Tryz.prog 112 [W x] H fun r H' => r = .bool (decide (Mh ≤ x % M)) ∧ H = H' := by
  refine ACalls.drop (R := fun r => r = .bool (decide (Mh ≤ x % M))) ?_
  refine Qo Tryz.func112 rfl (by kernel_rfl) (by kernel_rfl) ?_
  repeat' first
    | (with_reducible first | refine Jh (fun K hK => ?_) | refine Jx ?_ | refine Q4 ?_ | refine Qc ?_ | refine Qd ?_ | refine Jg ?_ | refine Jr ?_)
    | (with_reducible refine Jt (fun hc => ?_) (fun hc => ?_) <;> (try simp only [RC] at hc) <;> (try (exfalso; first | omega | contradiction)))
    | (with_reducible refine X4 (fun hc => ?_) (fun hc => ?_) <;> (try simp only [RC] at hc) <;> (try (exfalso; first | omega | contradiction)))
    | (simp only [Qb, Jo, reduceIte, J0])
    | ((with_reducible refine hK _ _ ?_); clear hK)
    | (clear hK; (with_reducible refine hK _ _ ?_); clear hK)
    | (clear hK; clear hK; (with_reducible refine hK _ _ ?_); clear hK)
    | (clear hK; clear hK; clear hK; (with_reducible refine hK _ _ ?_); clear hK)
    | (clear hK; clear hK; clear hK; clear hK; (with_reducible refine hK _ _ ?_); clear hK)
    | (clear hK; clear hK; clear hK; clear hK; clear hK; (with_reducible refine hK _ _ ?_); clear hK)
    | (simp only [Q9, RA, Jn, Jm, Jp, Q8, Q6, ev, ofValue, Ju, J0, J3, J2, J4, reduceCtorEq, reduceIte, Jv, Qm, Qk, Q0, aun, Qj, Jk, Ji, Jz, Jy, Jj, Qi, Jf, Q7, Q2, Js, J1, J5, Ja, J9, Jb, J6, J7, Jd, J8, RB, Jw, Je, tf112WdA])
    | (simp (disch := first | omega | (simp only [RO]; done) | assumption) only [RS, Zz, Zx, Zy, Zw])
    | (simp (disch := (first | omega | (simp only [RO]; done) | assumption | (simp only [RM, Je]; done) | (simp only [RL, Je]; omega))) only [RD, reduceCtorEq, reduceIte, Je, J1, J3, J2, J6, tf112WdA])
  (
   (refine Qg (rs := [.tmp 2]) rfl ?_)
   (simp only [X5, Qf, Fr.put_some, Fr.put_none, Qp, Qq, Qt, J0, reduceIte])
   (try simp (disch := (first | omega | (simp only [RO]; done) | assumption | (simp only [RM, Je]; done) | (simp only [RL, Je]; omega))) only [RD, reduceCtorEq, reduceIte, Je, J1, J3, J2, J6, tf112WdA]))
  exact ⟨⟨_, rfl⟩, trivial, by rw [top_iff]⟩
theorem ext4 {H : Hp} (a b : Blk) : Ext H (H ++ [a] ++ [b]) := (Ext.push _ _).pushed _
theorem inverse_calls (x : Int) (H : Hp) : ACalls Tryz.prog 111 [W x] H fun r H' => r = W (-x - 1) ∧ H = H' := by
  refine ACalls.drop (R := fun r => r = W (-x - 1)) ?_
  refine Qo Tryz.func111 rfl (by kernel_rfl) (by kernel_rfl) ?_
  repeat' first
    | (with_reducible first | refine Jh (fun K hK => ?_) | refine Jx ?_ | refine Q4 ?_ | refine Qc ?_ | refine Qd ?_ | refine Jg ?_ | refine Jr ?_)
    | (with_reducible refine Jt (fun hc => ?_) (fun hc => ?_) <;> (try simp only [RC] at hc) <;> (try (exfalso; first | omega | contradiction)))
    | (with_reducible refine X4 (fun hc => ?_) (fun hc => ?_) <;> (try simp only [RC] at hc) <;> (try (exfalso; first | omega | contradiction)))
    | (simp only [Qb, Jo, reduceIte, J0])
    | ((with_reducible refine hK _ _ ?_); clear hK)
    | (clear hK; (with_reducible refine hK _ _ ?_); clear hK)
    | (clear hK; clear hK; (with_reducible refine hK _ _ ?_); clear hK)
    | (clear hK; clear hK; clear hK; (with_reducible refine hK _ _ ?_); clear hK)
    | (clear hK; clear hK; clear hK; clear hK; (with_reducible refine hK _ _ ?_); clear hK)
    | (clear hK; clear hK; clear hK; clear hK; clear hK; (with_reducible refine hK _ _ ?_); clear hK)
    | (simp only [Q9, RA, Jn, Jm, Jp, Q8, Q6, ev, ofValue, Ju, J0, J3, J2, J4, reduceCtorEq, reduceIte, Jv, Qm, Qk, Q0, aun, Qj, Jk, Ji, Jz, Jy, Jj, Qi, Jf, Q7, Q2, Js, J1, J5, Ja, J9, Jb, J6, J7, Jd, J8, RB, Jw, Je, Ru])
    | (simp (disch := first | omega | (simp only [RO]; done) | assumption) only [RS, Zz, Zx, Zy, Zw])
    | (simp (disch := (first | omega | (simp only [RO]; done) | assumption | (simp only [RM, Je]; done) | (simp only [RL, Je]; omega))) only [RD, reduceCtorEq, reduceIte, Je, J1, J3, J2, J6, Ru])
  refine Xi (fun m fr' H' => ∃ (i : Nat) (ys : List Int), m = 16 - i ∧ i ≤ 16 ∧ fr' 1 = .ptr H.length 0 ∧ fr' 2 = .ptr (H.length + 1) 0 ∧ fr' 5 = W x ∧ fr' 6 = .int .i64 (i : Int) ∧ ys.length = 16 ∧ Limbs ys ∧ val (ys.take i) + val ((dig 16 x).take i) = Bs ^ i - 1 ∧ (H ++ [⟨ys.map (AV.int .u64), .own, 73⟩]) ++ [Wb 0] = H') (m := 16)
    ⟨0, dig 16 x, by omega, by omega, rfl, rfl, rfl, rfl, dig_length _ _, Z7 _ _, rfl, rfl⟩ ?_
  rintro m fr' H' ⟨i, ys, rfl, hi, k1, k2, k5, k6, hl, hys, hy, rfl⟩
  by_cases hlt : i < 16
  · have hd := (Z7 16 x).get i
    repeat' first
      | (with_reducible first | refine Jh (fun K hK => ?_) | refine Jx ?_ | refine Q4 ?_ | refine Qc ?_ | refine Qd ?_ | refine Jg ?_ | refine Jr ?_)
      | (with_reducible refine Jt (fun hc => ?_) (fun hc => ?_) <;> (try simp only [RC] at hc) <;> (try (exfalso; first | omega | contradiction)))
      | (with_reducible refine X4 (fun hc => ?_) (fun hc => ?_) <;> (try simp only [RC] at hc) <;> (try (exfalso; first | omega | contradiction)))
      | (simp only [Qb, Jo, reduceIte, J0])
      | ((with_reducible refine hK _ _ ?_); clear hK)
      | (clear hK; (with_reducible refine hK _ _ ?_); clear hK)
      | (clear hK; clear hK; (with_reducible refine hK _ _ ?_); clear hK)
      | (clear hK; clear hK; clear hK; (with_reducible refine hK _ _ ?_); clear hK)
      | (clear hK; clear hK; clear hK; clear hK; (with_reducible refine hK _ _ ?_); clear hK)
      | (clear hK; clear hK; clear hK; clear hK; clear hK; (with_reducible refine hK _ _ ?_); clear hK)
      | (simp only [Q9, RA, Jn, Jm, Jp, Q8, Q6, ev, ofValue, Ju, J0, J3, J2, J4, reduceCtorEq, reduceIte, Jv, Qm, Qk, Q0, aun, Qj, Jk, Ji, Jz, Jy, Jj, Qi, Jf, Q7, Q2, Js, J1, J5, Ja, J9, Jb, J6, J7, Jd, J8, RB, Jw, Je, Ru, k1, k2, k5, k6, not64 hd.1 hd.2])
      | (simp (disch := first | omega | (simp only [RO]; done) | assumption) only [RS, hl, ix73 (dig_length 16 x), Zz, Zx, Zy, Zw])
      | (simp (disch := (first | omega | (simp only [RO]; done) | assumption | (simp only [RM, Je]; done) | (simp only [RL, Je]; omega))) only [RD, reduceCtorEq, reduceIte, Je, J1, J3, J2, J6, Ru, k1, k2, k5, k6, not64 hd.1 hd.2])
    have hv := Xk (dig 16 x) (i := i) (by rw [dig_length]; exact hlt)
    have hv2 := Xk (ys.set i (Bs - 1 - (dig 16 x).getD i 0)) (i := i) (by rw [List.length_set]; omega)
    rw [Xs _ _ (by omega), if_pos rfl, List.take_set_of_le (Nat.le_refl _)] at hv2
    refine ⟨16 - (i + 1), by omega, i + 1, _, rfl, by omega, by rw [Qe (by omega) (by omega)]; rfl, ?_, hys.set i (by omega), ?_, rfl⟩
    · rw [List.length_set]; exact hl
    · rw [hv, hv2, Int.pow_succ]
      have hp := Xn i
      generalize Bs ^ i = p at *
      generalize (dig 16 x).getD i 0 = d at *
      rw [Int.mul_sub, Int.mul_sub]
      omega
  · obtain rfl : i = 16 := by omega
    repeat' first
      | (with_reducible first | refine Jh (fun K hK => ?_) | refine Jx ?_ | refine Q4 ?_ | refine Qc ?_ | refine Qd ?_ | refine Jg ?_ | refine Jr ?_)
      | (with_reducible refine Jt (fun hc => ?_) (fun hc => ?_) <;> (try simp only [RC] at hc) <;> (try (exfalso; first | omega | contradiction)))
      | (with_reducible refine X4 (fun hc => ?_) (fun hc => ?_) <;> (try simp only [RC] at hc) <;> (try (exfalso; first | omega | contradiction)))
      | (simp only [Qb, Jo, reduceIte, J0])
      | ((with_reducible refine hK _ _ ?_); clear hK)
      | (clear hK; (with_reducible refine hK _ _ ?_); clear hK)
      | (clear hK; clear hK; (with_reducible refine hK _ _ ?_); clear hK)
      | (clear hK; clear hK; clear hK; (with_reducible refine hK _ _ ?_); clear hK)
      | (clear hK; clear hK; clear hK; clear hK; (with_reducible refine hK _ _ ?_); clear hK)
      | (clear hK; clear hK; clear hK; clear hK; clear hK; (with_reducible refine hK _ _ ?_); clear hK)
      | (simp only [Q9, RA, Jn, Jm, Jp, Q8, Q6, ev, ofValue, Ju, J0, J3, J2, J4, reduceCtorEq, reduceIte, Jv, Qm, Qk, Q0, aun, Qj, Jk, Ji, Jz, Jy, Jj, Qi, Jf, Q7, Q2, Js, J1, J5, Ja, J9, Jb, J6, J7, Jd, J8, RB, Jw, Je, Ru, k1, k2, k5, k6])
      | (simp (disch := first | omega | (simp only [RO]; done) | assumption) only [RS, hl, Zz, Zx, Zy, Zw])
      | (simp (disch := (first | omega | (simp only [RO]; done) | assumption | (simp only [RM, Je]; done) | (simp only [RL, Je]; omega))) only [RD, reduceCtorEq, reduceIte, Je, J1, J3, J2, J6, Ru, k1, k2, k5, k6])
    (
     (refine Qg (rs := [.cell 2 73]) rfl ?_)
     (simp only [X5, Qf, Fr.put_some, Fr.put_none, Qp, Qq, Qt, J0, reduceIte, k2])
     (try simp (disch := (first | omega | (simp only [RO]; done) | assumption | (simp only [RM, Je]; done) | (simp only [RL, Je]; omega))) only [RD, reduceCtorEq, reduceIte, Je, J1, J3, J2, J6, Ru, k2]))
    refine ⟨ext4 _ _, by simp [AV.lt, AV.lts_iff], ?_⟩
    have e1 : ys.take 16 = ys := List.take_of_length_le (by omega)
    have e2 : (dig 16 x).take 16 = dig 16 x := List.take_of_length_le (by rw [dig_length]; omega)
    rw [e1, e2, Wj] at hy
    have : ys = dig 16 (-x - 1) := by
      refine Vn hys hl ?_
      have h1 := Xh hys
      rw [hl] at h1
      have h2 : (-x - 1) % Bs ^ 16 = val ys := by
        have hx := Int.emod_add_mul_ediv x (Bs ^ 16)
        generalize x / Bs ^ 16 = q at *
        generalize x % Bs ^ 16 = r at *
        generalize Bs ^ 16 = p at *
        have : -x - 1 = val ys + p * (-q - 1) := by rw [Int.mul_sub, Int.mul_neg]; omega
        rw [this, Int.add_mul_emod_self_left, Int.emod_eq_of_lt h1.1 h1.2]
      exact h2.symm
    rw [this]
end Go.Proofs.YtigddjlhncnnoaaGreatDoor

/- Part 11 of the proof of laws of this seat: lemmas on the model's code, on this program's functions, on numbers. No condition. -/
import Derived.Test.YtlgpemndbfclfaaDoorZGaj
import Derived.Laws.Externs
import Derived.Test.YtlgpemndbfclfaaDoorProg
set_option linter.unusedVariables false
set_option linter.unusedSimpArgs false
open Nat renaming reduceEqDiff → J0, reduceLeDiff → J1, reduceMul → J2, reduceAdd → J3, reduceSub → J4, reduceLT → J5
open Int renaming reduceToNat → J6, reducePow → J7, reduceNeg → J8, reduceLT → J9, reduceLE → Ja, reduceEq → Jb
open And renaming intro → Jc
open Go.IntKind renaming bits → Jd
open Go.PW renaming dig_length → Je
namespace Go.Proofs.YtlgpemndbfclfaaDoor
open Go.AL
theorem und2 : Tryd.prog.underlying 2 = some (.int .i64) := by kernel_rfl
theorem agg2 : X4 Tryd.prog 2 = some false := by kernel_rfl
theorem und3 : Tryd.prog.underlying 3 = some (.int .i64) := by kernel_rfl
theorem agg3 : X4 Tryd.prog 3 = some false := by kernel_rfl
theorem und4 : Tryd.prog.underlying 4 = some (.bool) := by kernel_rfl
theorem agg4 : X4 Tryd.prog 4 = some false := by kernel_rfl
theorem und5 : Tryd.prog.underlying 5 = some (.int .u8) := by kernel_rfl
theorem agg5 : X4 Tryd.prog 5 = some false := by kernel_rfl
theorem und9 : Tryd.prog.underlying 9 = some (.string) := by kernel_rfl
theorem agg9 : X4 Tryd.prog 9 = some false := by kernel_rfl
theorem und20 : Tryd.prog.underlying 20 = some (.interface #[]) := by kernel_rfl
theorem agg20 : X4 Tryd.prog 20 = some false := by kernel_rfl
theorem und22 : Tryd.prog.underlying 22 = some (.struct #[{ name := "X", type := 2, offset := 0, embedded := false, tag := "", pkgPath := "", byteOffset := 0 }, { name := "Y", type := 2, offset := 1, embedded := false, tag := "", pkgPath := "", byteOffset := 8 }]) := by kernel_rfl
theorem agg22 : X4 Tryd.prog 22 = some true := by kernel_rfl
theorem Gr : Tryd.prog.underlying 23 = some (.struct #[{ name := "X", type := 2, offset := 0, embedded := false, tag := "", pkgPath := "", byteOffset := 0 }, { name := "Y", type := 2, offset := 1, embedded := false, tag := "", pkgPath := "", byteOffset := 8 }]) := by kernel_rfl
theorem agg23 : X4 Tryd.prog 23 = some true := by kernel_rfl
theorem Uo : Tryd.prog.underlying 27 = some (.slice 2) := by kernel_rfl
theorem agg27 : X4 Tryd.prog 27 = some false := by kernel_rfl
theorem und28 : Tryd.prog.underlying 28 = some (.interface #[("Error", 147)]) := by kernel_rfl
theorem agg28 : X4 Tryd.prog 28 = some false := by kernel_rfl
theorem Z0 : Tryd.prog.underlying 29 = some (.interface #[("Error", 147)]) := by kernel_rfl
theorem agg29 : X4 Tryd.prog 29 = some false := by kernel_rfl
theorem Xo : Tryd.prog.underlying 49 = some (.slice 53) := by kernel_rfl
theorem agg49 : X4 Tryd.prog 49 = some false := by kernel_rfl
theorem und53 : Tryd.prog.underlying 53 = some (.int .u64) := by kernel_rfl
theorem Zx : X4 Tryd.prog 53 = some false := by kernel_rfl
theorem und58 : Tryd.prog.underlying 58 = some (.int .i64) := by kernel_rfl
theorem agg58 : X4 Tryd.prog 58 = some false := by kernel_rfl
theorem Un : Tryd.prog.underlying 62 = some (.slice 9) := by kernel_rfl
theorem agg62 : X4 Tryd.prog 62 = some false := by kernel_rfl
theorem und65 : Tryd.prog.underlying 65 = some (.array 16 53) := by kernel_rfl
theorem agg65 : X4 Tryd.prog 65 = some true := by kernel_rfl
theorem J0x : Tryd.prog.underlying 66 = some (.array 16 53) := by kernel_rfl
theorem agg66 : X4 Tryd.prog 66 = some true := by kernel_rfl
theorem und81 : Tryd.prog.underlying 81 = some (.int .u32) := by kernel_rfl
theorem agg81 : X4 Tryd.prog 81 = some false := by kernel_rfl
theorem und89 : Tryd.prog.underlying 89 = some (.pointer 58) := by kernel_rfl
theorem agg89 : X4 Tryd.prog 89 = some false := by kernel_rfl
theorem und95 : Tryd.prog.underlying 95 = some (.int .u64) := by kernel_rfl
theorem agg95 : X4 Tryd.prog 95 = some false := by kernel_rfl
theorem J0b : Tryd.prog.underlying 101 = some (.pointer 103) := by kernel_rfl
theorem agg101 : X4 Tryd.prog 101 = some false := by kernel_rfl
theorem J1r : Tryd.prog.underlying 102 = some (.struct #[{ name := "Op", type := 9, offset := 0, embedded := false, tag := "", pkgPath := "", byteOffset := 0 }, { name := "Err", type := 29, offset := 1, embedded := false, tag := "", pkgPath := "", byteOffset := 16 }]) := by kernel_rfl
theorem agg102 : X4 Tryd.prog 102 = some true := by kernel_rfl
theorem Wy : Tryd.prog.underlying 103 = some (.struct #[{ name := "Op", type := 9, offset := 0, embedded := false, tag := "", pkgPath := "", byteOffset := 0 }, { name := "Err", type := 29, offset := 1, embedded := false, tag := "", pkgPath := "", byteOffset := 16 }]) := by kernel_rfl
theorem agg103 : X4 Tryd.prog 103 = some true := by kernel_rfl
theorem und104 : Tryd.prog.underlying 104 = some (.interface #[("Unwrap", 108)]) := by kernel_rfl
theorem agg104 : X4 Tryd.prog 104 = some false := by kernel_rfl
theorem Uh : Tryd.prog.underlying 107 = some (.slice 29) := by kernel_rfl
theorem agg107 : X4 Tryd.prog 107 = some false := by kernel_rfl
theorem J1o : Tryd.prog.underlying 123 = some (.array 17 53) := by kernel_rfl
theorem agg123 : X4 Tryd.prog 123 = some true := by kernel_rfl
theorem Vc : Qv Tryd.prog 2 = some 1 := by kernel_rfl
theorem bytes2 : X7 Tryd.prog 2 = some 8 := by kernel_rfl
theorem zero2 : Xf Tryd.prog 2 = some (.int .i64 0) := by kernel_rfl
theorem size3 : Qv Tryd.prog 3 = some 1 := by kernel_rfl
theorem bytes3 : X7 Tryd.prog 3 = some 8 := by kernel_rfl
theorem zero3 : Xf Tryd.prog 3 = some (.int .i64 0) := by kernel_rfl
theorem size4 : Qv Tryd.prog 4 = some 1 := by kernel_rfl
theorem bytes4 : X7 Tryd.prog 4 = some 1 := by kernel_rfl
theorem zero4 : Xf Tryd.prog 4 = some (.bool false) := by kernel_rfl
theorem size5 : Qv Tryd.prog 5 = some 1 := by kernel_rfl
theorem bytes5 : X7 Tryd.prog 5 = some 1 := by kernel_rfl
theorem zero5 : Xf Tryd.prog 5 = some (.int .u8 0) := by kernel_rfl
theorem Ur : Qv Tryd.prog 9 = some 1 := by kernel_rfl
theorem bytes9 : X7 Tryd.prog 9 = some 16 := by kernel_rfl
theorem zero9 : Xf Tryd.prog 9 = some (.str .empty) := by kernel_rfl
theorem size20 : Qv Tryd.prog 20 = some 1 := by kernel_rfl
theorem bytes20 : X7 Tryd.prog 20 = some 16 := by kernel_rfl
theorem zero20 : Xf Tryd.prog 20 = some (.nilI) := by kernel_rfl
theorem size22 : Qv Tryd.prog 22 = some 2 := by kernel_rfl
theorem bytes22 : X7 Tryd.prog 22 = some 16 := by kernel_rfl
theorem zero22 : Xf Tryd.prog 22 = some (.agg [.int .i64 0, .int .i64 0]) := by kernel_rfl
theorem size23 : Qv Tryd.prog 23 = some 2 := by kernel_rfl
theorem bytes23 : X7 Tryd.prog 23 = some 16 := by kernel_rfl
theorem J1n : Xf Tryd.prog 23 = some (.agg [.int .i64 0, .int .i64 0]) := by kernel_rfl
theorem size27 : Qv Tryd.prog 27 = some 1 := by kernel_rfl
theorem bytes27 : X7 Tryd.prog 27 = some 24 := by kernel_rfl
theorem zero27 : Xf Tryd.prog 27 = some (.nilS) := by kernel_rfl
theorem size28 : Qv Tryd.prog 28 = some 1 := by kernel_rfl
theorem bytes28 : X7 Tryd.prog 28 = some 16 := by kernel_rfl
theorem zero28 : Xf Tryd.prog 28 = some (.nilI) := by kernel_rfl
theorem Uk : Qv Tryd.prog 29 = some 1 := by kernel_rfl
theorem bytes29 : X7 Tryd.prog 29 = some 16 := by kernel_rfl
theorem zero29 : Xf Tryd.prog 29 = some (.nilI) := by kernel_rfl
theorem J0e : Qv Tryd.prog 49 = some 1 := by kernel_rfl
theorem bytes49 : X7 Tryd.prog 49 = some 24 := by kernel_rfl
theorem zero49 : Xf Tryd.prog 49 = some (.nilS) := by kernel_rfl
theorem Xa : Qv Tryd.prog 53 = some 1 := by kernel_rfl
theorem J1h : X7 Tryd.prog 53 = some 8 := by kernel_rfl
theorem zero53 : Xf Tryd.prog 53 = some (.int .u64 0) := by kernel_rfl
theorem size58 : Qv Tryd.prog 58 = some 1 := by kernel_rfl
theorem bytes58 : X7 Tryd.prog 58 = some 8 := by kernel_rfl
theorem zero58 : Xf Tryd.prog 58 = some (.int .i64 0) := by kernel_rfl
theorem size62 : Qv Tryd.prog 62 = some 1 := by kernel_rfl
theorem bytes62 : X7 Tryd.prog 62 = some 24 := by kernel_rfl
theorem zero62 : Xf Tryd.prog 62 = some (.nilS) := by kernel_rfl
theorem size65 : Qv Tryd.prog 65 = some 16 := by kernel_rfl
theorem bytes65 : X7 Tryd.prog 65 = some 128 := by kernel_rfl
theorem zero65 : Xf Tryd.prog 65 = some (.agg ((Go.PW.dig 16 0).map (AV.int .u64))) := by kernel_rfl
theorem bld65 : Y5 Tryd.prog 65 [] = some (.agg ((Go.PW.dig 16 0).map (AV.int .u64))) := by kernel_rfl
theorem size66 : Qv Tryd.prog 66 = some 16 := by kernel_rfl
theorem bytes66 : X7 Tryd.prog 66 = some 128 := by kernel_rfl
theorem zero66 : Xf Tryd.prog 66 = some (.agg ((Go.PW.dig 16 0).map (AV.int .u64))) := by kernel_rfl
theorem bld66 : Y5 Tryd.prog 66 [] = some (.agg ((Go.PW.dig 16 0).map (AV.int .u64))) := by kernel_rfl
theorem size81 : Qv Tryd.prog 81 = some 1 := by kernel_rfl
theorem bytes81 : X7 Tryd.prog 81 = some 4 := by kernel_rfl
theorem zero81 : Xf Tryd.prog 81 = some (.int .u32 0) := by kernel_rfl
theorem size89 : Qv Tryd.prog 89 = some 1 := by kernel_rfl
theorem bytes89 : X7 Tryd.prog 89 = some 8 := by kernel_rfl
theorem zero89 : Xf Tryd.prog 89 = some (.nilP) := by kernel_rfl
theorem size95 : Qv Tryd.prog 95 = some 1 := by kernel_rfl
theorem bytes95 : X7 Tryd.prog 95 = some 8 := by kernel_rfl
theorem zero95 : Xf Tryd.prog 95 = some (.int .u64 0) := by kernel_rfl
theorem size101 : Qv Tryd.prog 101 = some 1 := by kernel_rfl
theorem bytes101 : X7 Tryd.prog 101 = some 8 := by kernel_rfl
theorem zero101 : Xf Tryd.prog 101 = some (.nilP) := by kernel_rfl
theorem size102 : Qv Tryd.prog 102 = some 2 := by kernel_rfl
theorem bytes102 : X7 Tryd.prog 102 = some 32 := by kernel_rfl
theorem zero102 : Xf Tryd.prog 102 = some (.agg [.str .empty, .nilI]) := by kernel_rfl
theorem size103 : Qv Tryd.prog 103 = some 2 := by kernel_rfl
theorem bytes103 : X7 Tryd.prog 103 = some 32 := by kernel_rfl
theorem zero103 : Xf Tryd.prog 103 = some (.agg [.str .empty, .nilI]) := by kernel_rfl
theorem size104 : Qv Tryd.prog 104 = some 1 := by kernel_rfl
theorem bytes104 : X7 Tryd.prog 104 = some 16 := by kernel_rfl
theorem zero104 : Xf Tryd.prog 104 = some (.nilI) := by kernel_rfl
theorem size107 : Qv Tryd.prog 107 = some 1 := by kernel_rfl
theorem bytes107 : X7 Tryd.prog 107 = some 24 := by kernel_rfl
theorem zero107 : Xf Tryd.prog 107 = some (.nilS) := by kernel_rfl
theorem size123 : Qv Tryd.prog 123 = some 17 := by kernel_rfl
theorem bytes123 : X7 Tryd.prog 123 = some 136 := by kernel_rfl
theorem zero123 : Xf Tryd.prog 123 = some (.agg ((Go.PW.dig 17 0).map (AV.int .u64))) := by kernel_rfl
theorem bld123 : Y5 Tryd.prog 123 [] = some (.agg ((Go.PW.dig 17 0).map (AV.int .u64))) := by kernel_rfl
theorem lenS27 (h o n c : Nat) : Qw Tryd.prog .len #[27] [.sl h o n c] = some (.int .i64 n) := by simp [Qw, Uo]
theorem lenG27 (h o n z : Nat) : Qw Tryd.prog .len #[27] [.sg h o n z] = some (.int .i64 n) := by simp [Qw, Uo]
theorem lenN27 : Qw Tryd.prog .len #[27] [.nilS] = some (.int .i64 0) := by simp [Qw, Uo]
theorem lenZ27 (n : Nat) (cs : List AV) : Qw Tryd.prog .len #[27] [.fz n cs] = some (.int .i64 n) := by simp [Qw, Uo]
theorem lenS49 (h o n c : Nat) : Qw Tryd.prog .len #[49] [.sl h o n c] = some (.int .i64 n) := by simp [Qw, Xo]
theorem lenG49 (h o n z : Nat) : Qw Tryd.prog .len #[49] [.sg h o n z] = some (.int .i64 n) := by simp [Qw, Xo]
theorem lenN49 : Qw Tryd.prog .len #[49] [.nilS] = some (.int .i64 0) := by simp [Qw, Xo]
theorem lenZ49 (n : Nat) (cs : List AV) : Qw Tryd.prog .len #[49] [.fz n cs] = some (.int .i64 n) := by simp [Qw, Xo]
theorem lenS62 (h o n c : Nat) : Qw Tryd.prog .len #[62] [.sl h o n c] = some (.int .i64 n) := by simp [Qw, Un]
theorem lenG62 (h o n z : Nat) : Qw Tryd.prog .len #[62] [.sg h o n z] = some (.int .i64 n) := by simp [Qw, Un]
theorem lenN62 : Qw Tryd.prog .len #[62] [.nilS] = some (.int .i64 0) := by simp [Qw, Un]
theorem lenZ62 (n : Nat) (cs : List AV) : Qw Tryd.prog .len #[62] [.fz n cs] = some (.int .i64 n) := by simp [Qw, Un]
theorem lenS107 (h o n c : Nat) : Qw Tryd.prog .len #[107] [.sl h o n c] = some (.int .i64 n) := by simp [Qw, Uh]
theorem lenG107 (h o n z : Nat) : Qw Tryd.prog .len #[107] [.sg h o n z] = some (.int .i64 n) := by simp [Qw, Uh]
theorem lenN107 : Qw Tryd.prog .len #[107] [.nilS] = some (.int .i64 0) := by simp [Qw, Uh]
theorem lenZ107 (n : Nat) (cs : List AV) : Qw Tryd.prog .len #[107] [.fz n cs] = some (.int .i64 n) := by simp [Qw, Uh]
theorem Wk {h o n c : Nat} {l : IntKind} {j : Int} (h0 : 0 ≤ j) (h1 : j < (n : Int)) : Qr Tryd.prog 27 (.sl h o n c) (.int l j) = some (.ptr h (o + j.toNat)) := at_sl1 Uo Vc h0 h1
theorem Wr {h o n : Nat} {l : IntKind} {j : Int} (h0 : 0 ≤ j) (h1 : j < (n : Int)) : Qr Tryd.prog 27 (.sg h o n 1) (.int l j) = some (.ptr h (o + j.toNat)) := at_sg1 Uo Vc h0 h1
theorem K1 {n : Nat} {cs : List AV} {l : IntKind} {j : Int} (h0 : 0 ≤ j) (h1 : j < (n : Int)) : Qr Tryd.prog 27 (.fz n cs) (.int l j) = some (.fp (cs.drop (j.toNat))) := at_fz1 Uo Vc h0 h1
theorem Xc {h o n c : Nat} {l : IntKind} {j : Int} (h0 : 0 ≤ j) (h1 : j < (n : Int)) : Qr Tryd.prog 49 (.sl h o n c) (.int l j) = some (.ptr h (o + j.toNat)) := at_sl1 Xo Xa h0 h1
theorem Xe {h o n : Nat} {l : IntKind} {j : Int} (h0 : 0 ≤ j) (h1 : j < (n : Int)) : Qr Tryd.prog 49 (.sg h o n 1) (.int l j) = some (.ptr h (o + j.toNat)) := at_sg1 Xo Xa h0 h1
theorem Xb {n : Nat} {cs : List AV} {l : IntKind} {j : Int} (h0 : 0 ≤ j) (h1 : j < (n : Int)) : Qr Tryd.prog 49 (.fz n cs) (.int l j) = some (.fp (cs.drop (j.toNat))) := at_fz1 Xo Xa h0 h1
theorem Gf {h o n c : Nat} {l : IntKind} {j : Int} (h0 : 0 ≤ j) (h1 : j < (n : Int)) : Qr Tryd.prog 62 (.sl h o n c) (.int l j) = some (.ptr h (o + j.toNat)) := at_sl1 Un Ur h0 h1
theorem Gh {h o n : Nat} {l : IntKind} {j : Int} (h0 : 0 ≤ j) (h1 : j < (n : Int)) : Qr Tryd.prog 62 (.sg h o n 1) (.int l j) = some (.ptr h (o + j.toNat)) := at_sg1 Un Ur h0 h1
theorem Gd {n : Nat} {cs : List AV} {l : IntKind} {j : Int} (h0 : 0 ≤ j) (h1 : j < (n : Int)) : Qr Tryd.prog 62 (.fz n cs) (.int l j) = some (.fp (cs.drop (j.toNat))) := at_fz1 Un Ur h0 h1
theorem six107 {h o n c : Nat} {l : IntKind} {j : Int} (h0 : 0 ≤ j) (h1 : j < (n : Int)) : Qr Tryd.prog 107 (.sl h o n c) (.int l j) = some (.ptr h (o + j.toNat)) := at_sl1 Uh Uk h0 h1
theorem gix107 {h o n : Nat} {l : IntKind} {j : Int} (h0 : 0 ≤ j) (h1 : j < (n : Int)) : Qr Tryd.prog 107 (.sg h o n 1) (.int l j) = some (.ptr h (o + j.toNat)) := at_sg1 Uh Uk h0 h1
theorem zix107 {n : Nat} {cs : List AV} {l : IntKind} {j : Int} (h0 : 0 ≤ j) (h1 : j < (n : Int)) : Qr Tryd.prog 107 (.fz n cs) (.int l j) = some (.fp (cs.drop (j.toNat))) := at_fz1 Uh Uk h0 h1
theorem Y4 {h o : Nat} {l : IntKind} {j : Int} (h0 : 0 ≤ j) (h1 : j < 16) : Qr Tryd.prog 65 (.ptr h o) (.int l j) = some (.ptr h (o + j.toNat * 1)) := J0s und65 Xa h0 h1
theorem sla65 {h o : Nat} : Z5 Tryd.prog 65 (.ptr h o) none none none = some (.sl h o 16 16) := Gv und65 Xa
theorem Y0 {h o : Nat} {l : IntKind} {q : Int} (h0 : 0 ≤ q) (h1 : q ≤ 16) : Z5 Tryd.prog 65 (.ptr h o) none (some (.int l q)) none = some (.sl h o q.toNat 16) := W8 und65 Xa h0 h1
theorem Y3 {h o : Nat} {l : IntKind} {j : Int} (h0 : 0 ≤ j) (h1 : j < 16) : Qr Tryd.prog 66 (.ptr h o) (.int l j) = some (.ptr h (o + j.toNat * 1)) := J0s J0x Xa h0 h1
theorem sla66 {h o : Nat} : Z5 Tryd.prog 66 (.ptr h o) none none none = some (.sl h o 16 16) := Gv J0x Xa
theorem Zz {h o : Nat} {l : IntKind} {q : Int} (h0 : 0 ≤ q) (h1 : q ≤ 16) : Z5 Tryd.prog 66 (.ptr h o) none (some (.int l q)) none = some (.sl h o q.toNat 16) := W8 J0x Xa h0 h1
theorem ix66 {l k : IntKind} {xs : List Int} {j : Int} (hn : xs.length = 16) (h0 : 0 ≤ j) (h1 : j < 16) : We Tryd.prog 66 (.agg (xs.map (AV.int k))) (.int l j) = some (.int k (xs.getD j.toNat 0)) := J0n J0x Xa Zx hn h0 h1
theorem idx123 {h o : Nat} {l : IntKind} {j : Int} (h0 : 0 ≤ j) (h1 : j < 17) : Qr Tryd.prog 123 (.ptr h o) (.int l j) = some (.ptr h (o + j.toNat * 1)) := J0s J1o Xa h0 h1
theorem sla123 {h o : Nat} : Z5 Tryd.prog 123 (.ptr h o) none none none = some (.sl h o 17 17) := Gv J1o Xa
theorem slh123 {h o : Nat} {l : IntKind} {q : Int} (h0 : 0 ≤ q) (h1 : q ≤ 17) : Z5 Tryd.prog 123 (.ptr h o) none (some (.int l q)) none = some (.sl h o q.toNat 17) := W8 J1o Xa h0 h1
theorem fad22_0 {h o : Nat} : Qd Tryd.prog 22 (.ptr h o) 0 = some (.ptr h (o)) := by simp [Qd, und22, Vc]
theorem faz22_0 {cs : List AV} : Qd Tryd.prog 22 (.fp cs) 0 = some (.fp (cs.drop 0)) := by simp [Qd, und22, Vc]
theorem fad22_1 {h o : Nat} : Qd Tryd.prog 22 (.ptr h o) 1 = some (.ptr h (o + 1)) := by simp [Qd, und22, Vc]
theorem faz22_1 {cs : List AV} : Qd Tryd.prog 22 (.fp cs) 1 = some (.fp (cs.drop 1)) := by simp [Qd, und22, Vc]
theorem fad23_0 {h o : Nat} : Qd Tryd.prog 23 (.ptr h o) 0 = some (.ptr h (o)) := by simp [Qd, Gr, Vc]
theorem faz23_0 {cs : List AV} : Qd Tryd.prog 23 (.fp cs) 0 = some (.fp (cs.drop 0)) := by simp [Qd, Gr, Vc]
theorem fad23_1 {h o : Nat} : Qd Tryd.prog 23 (.ptr h o) 1 = some (.ptr h (o + 1)) := by simp [Qd, Gr, Vc]
theorem faz23_1 {cs : List AV} : Qd Tryd.prog 23 (.fp cs) 1 = some (.fp (cs.drop 1)) := by simp [Qd, Gr, Vc]
theorem fad102_0 {h o : Nat} : Qd Tryd.prog 102 (.ptr h o) 0 = some (.ptr h (o)) := by simp [Qd, J1r, Ur]
theorem faz102_0 {cs : List AV} : Qd Tryd.prog 102 (.fp cs) 0 = some (.fp (cs.drop 0)) := by simp [Qd, J1r, Ur]
theorem fad102_1 {h o : Nat} : Qd Tryd.prog 102 (.ptr h o) 1 = some (.ptr h (o + 1)) := by simp [Qd, J1r, Uk]
theorem faz102_1 {cs : List AV} : Qd Tryd.prog 102 (.fp cs) 1 = some (.fp (cs.drop 1)) := by simp [Qd, J1r, Uk]
theorem fad103_0 {h o : Nat} : Qd Tryd.prog 103 (.ptr h o) 0 = some (.ptr h (o)) := by simp [Qd, Wy, Ur]
theorem faz103_0 {cs : List AV} : Qd Tryd.prog 103 (.fp cs) 0 = some (.fp (cs.drop 0)) := by simp [Qd, Wy, Ur]
theorem fad103_1 {h o : Nat} : Qd Tryd.prog 103 (.ptr h o) 1 = some (.ptr h (o + 1)) := by simp [Qd, Wy, Uk]
theorem faz103_1 {cs : List AV} : Qd Tryd.prog 103 (.fp cs) 1 = some (.fp (cs.drop 1)) := by simp [Qd, Wy, Uk]
theorem Ya : Y5 Tryd.prog 23 [] = some (.agg [(.int .i64 0), (.int .i64 0)]) := by
  simp [Y5, J1n, K0, Gr, Vc, Q6, Jw, AV.cells_agg]
theorem Yc {x0 : AV} (h0 : x0.one = true) : Y5 Tryd.prog 23 [(0, x0)] = some (.agg [x0, (.int .i64 0)]) := by
  simp [Y5, J1n, K0, Gr, Vc, Q6, Jw, AV.solid_one h0, AV.cells_one h0, AV.cells_agg]
theorem Zg {x0 x1 : AV} (h0 : x0.one = true) (h1 : x1.one = true) : Y5 Tryd.prog 23 [(0, x0), (1, x1)] = some (.agg [x0, x1]) := by
  simp [Y5, J1n, K0, Gr, Vc, Q6, Jw, AV.solid_one h0, AV.cells_one h0, AV.solid_one h1, AV.cells_one h1, AV.cells_agg]
theorem Yb {x1 : AV} (h1 : x1.one = true) : Y5 Tryd.prog 23 [(1, x1)] = some (.agg [(.int .i64 0), x1]) := by
  simp [Y5, J1n, K0, Gr, Vc, Q6, Jw, AV.solid_one h1, AV.cells_one h1, AV.cells_agg]
theorem bst103_01 {x0 x1 : AV} (h0 : x0.one = true) (h1 : x1.one = true) : Y5 Tryd.prog 103 [(0, x0), (1, x1)] = some (.agg [x0, x1]) := by
  simp [Y5, zero103, K0, Wy, Ur, Uk, Q6, Jw, AV.solid_one h0, AV.cells_one h0, AV.solid_one h1, AV.cells_one h1, AV.cells_agg]
theorem eg22 : Tryd.prog.eqGuardType Tryd.prog.depth 22 = false := by kernel_rfl
theorem eg23 : Tryd.prog.eqGuardType Tryd.prog.depth 23 = false := by kernel_rfl
theorem eg65 : Tryd.prog.eqGuardType Tryd.prog.depth 65 = false := by kernel_rfl
theorem eg66 : Tryd.prog.eqGuardType Tryd.prog.depth 66 = false := by kernel_rfl
theorem eg123 : Tryd.prog.eqGuardType Tryd.prog.depth 123 = false := by kernel_rfl
theorem eqB4 (a b : Bool) : X5 Tryd.prog Op.maxDepth 4 (.bool a) (.bool b) = some (a == b) := eq_bools und4
theorem eqSl27 (h o n c : Nat) : X5 Tryd.prog Op.maxDepth 27 (.sl h o n c) .nilS = some false := Kh Uo
theorem eqSg27 (h o n c : Nat) : X5 Tryd.prog Op.maxDepth 27 (.sg h o n c) .nilS = some false := Ki Uo
theorem eqSn27 : X5 Tryd.prog Op.maxDepth 27 .nilS .nilS = some true := Wd Uo
theorem eqSl49 (h o n c : Nat) : X5 Tryd.prog Op.maxDepth 49 (.sl h o n c) .nilS = some false := Kh Xo
theorem eqSg49 (h o n c : Nat) : X5 Tryd.prog Op.maxDepth 49 (.sg h o n c) .nilS = some false := Ki Xo
theorem eqSn49 : X5 Tryd.prog Op.maxDepth 49 .nilS .nilS = some true := Wd Xo
theorem eqSl62 (h o n c : Nat) : X5 Tryd.prog Op.maxDepth 62 (.sl h o n c) .nilS = some false := Kh Un
theorem eqSg62 (h o n c : Nat) : X5 Tryd.prog Op.maxDepth 62 (.sg h o n c) .nilS = some false := Ki Un
theorem eqSn62 : X5 Tryd.prog Op.maxDepth 62 .nilS .nilS = some true := Wd Un
theorem eqPn89 (h o : Nat) : X5 Tryd.prog Op.maxDepth 89 (.ptr h o) .nilP = some false := G7 und89
theorem eqPP89 : X5 Tryd.prog Op.maxDepth 89 .nilP .nilP = some true := Uy und89
theorem eqPz89 (cs : List AV) : X5 Tryd.prog Op.maxDepth 89 (.fp cs) .nilP = some false := Rq und89
theorem eqPn101 (h o : Nat) : X5 Tryd.prog Op.maxDepth 101 (.ptr h o) .nilP = some false := G7 J0b
theorem eqPP101 : X5 Tryd.prog Op.maxDepth 101 .nilP .nilP = some true := Uy J0b
theorem eqPz101 (cs : List AV) : X5 Tryd.prog Op.maxDepth 101 (.fp cs) .nilP = some false := Rq J0b
theorem eqSl107 (h o n c : Nat) : X5 Tryd.prog Op.maxDepth 107 (.sl h o n c) .nilS = some false := Kh Uh
theorem eqSg107 (h o n c : Nat) : X5 Tryd.prog Op.maxDepth 107 (.sg h o n c) .nilS = some false := Ki Uh
theorem eqSn107 : X5 Tryd.prog Op.maxDepth 107 .nilS .nilS = some true := Wd Uh
theorem Ni (H : Hp) (k : IntKind) (n : Int) : Yk Tryd.prog H 2 53 (.int k n) = some (.int .u64 (IntKind.u64.wrap n)) := by simp [Yk, und2, und53]
theorem Wz (H : Hp) (k : IntKind) (n : Int) : Yk Tryd.prog H 3 95 (.int k n) = some (.int .u64 (IntKind.u64.wrap n)) := by simp [Yk, und3, und95]
theorem cv5_3 (H : Hp) (k : IntKind) (n : Int) : Yk Tryd.prog H 5 3 (.int k n) = some (.int .i64 (IntKind.i64.wrap n)) := by simp [Yk, und5, und3]
theorem cv53_2 (H : Hp) (k : IntKind) (n : Int) : Yk Tryd.prog H 53 2 (.int k n) = some (.int .i64 (IntKind.i64.wrap n)) := by simp [Yk, und53, und2]
theorem cv53_5 (H : Hp) (k : IntKind) (n : Int) : Yk Tryd.prog H 53 5 (.int k n) = some (.int .u8 (IntKind.u8.wrap n)) := by simp [Yk, und53, und5]
theorem cv53_81 (H : Hp) (k : IntKind) (n : Int) : Yk Tryd.prog H 53 81 (.int k n) = some (.int .u32 (IntKind.u32.wrap n)) := by simp [Yk, und53, und81]
theorem cv81_2 (H : Hp) (k : IntKind) (n : Int) : Yk Tryd.prog H 81 2 (.int k n) = some (.int .i64 (IntKind.i64.wrap n)) := by simp [Yk, und81, und2]
theorem Yj : type_of% (Jc @und2 (Jc @agg2 (Jc @Vc (Jc @bytes2 (@zero2))))) := Jc @und2 (Jc @agg2 (Jc @Vc (Jc @bytes2 (@zero2))))
theorem Xz : type_of% (Jc @und3 (Jc @agg3 (Jc @size3 (Jc @bytes3 (@zero3))))) := Jc @und3 (Jc @agg3 (Jc @size3 (Jc @bytes3 (@zero3))))
theorem Zn : type_of% (Jc @und4 (Jc @agg4 (Jc @size4 (Jc @bytes4 (Jc @zero4 (@eqB4)))))) := Jc @und4 (Jc @agg4 (Jc @size4 (Jc @bytes4 (Jc @zero4 (@eqB4)))))
theorem tyb5 : type_of% (Jc @und5 (Jc @agg5 (Jc @size5 (Jc @bytes5 (@zero5))))) := Jc @und5 (Jc @agg5 (Jc @size5 (Jc @bytes5 (@zero5))))
theorem Gj : type_of% (Jc @und9 (Jc @agg9 (Jc @Ur (Jc @bytes9 (@zero9))))) := Jc @und9 (Jc @agg9 (Jc @Ur (Jc @bytes9 (@zero9))))
theorem tyb20 : type_of% (Jc @und20 (Jc @agg20 (Jc @size20 (Jc @bytes20 (@zero20))))) := Jc @und20 (Jc @agg20 (Jc @size20 (Jc @bytes20 (@zero20))))
theorem Uq : type_of% (Jc @und22 (Jc @agg22 (Jc @size22 (Jc @bytes22 (Jc @zero22 (Jc @fad22_0 (Jc @faz22_0 (Jc @fad22_1 (Jc @faz22_1 (@eg22)))))))))) := Jc @und22 (Jc @agg22 (Jc @size22 (Jc @bytes22 (Jc @zero22 (Jc @fad22_0 (Jc @faz22_0 (Jc @fad22_1 (Jc @faz22_1 (@eg22)))))))))
theorem Up : type_of% (Jc @Gr (Jc @agg23 (Jc @size23 (Jc @bytes23 (Jc @J1n (Jc @fad23_0 (Jc @faz23_0 (Jc @fad23_1 (Jc @faz23_1 (@eg23)))))))))) := Jc @Gr (Jc @agg23 (Jc @size23 (Jc @bytes23 (Jc @J1n (Jc @fad23_0 (Jc @faz23_0 (Jc @fad23_1 (Jc @faz23_1 (@eg23)))))))))
theorem tyb27 : type_of% (Jc @Uo (Jc @agg27 (Jc @size27 (Jc @bytes27 (Jc @zero27 (Jc @lenS27 (Jc @lenG27 (Jc @lenN27 (Jc @lenZ27 (Jc @eqSl27 (Jc @eqSg27 (@eqSn27)))))))))))) := Jc @Uo (Jc @agg27 (Jc @size27 (Jc @bytes27 (Jc @zero27 (Jc @lenS27 (Jc @lenG27 (Jc @lenN27 (Jc @lenZ27 (Jc @eqSl27 (Jc @eqSg27 (@eqSn27)))))))))))
theorem Zs : type_of% (Jc @und28 (Jc @agg28 (Jc @size28 (Jc @bytes28 (@zero28))))) := Jc @und28 (Jc @agg28 (Jc @size28 (Jc @bytes28 (@zero28))))
theorem Zr : type_of% (Jc @Z0 (Jc @agg29 (Jc @Uk (Jc @bytes29 (@zero29))))) := Jc @Z0 (Jc @agg29 (Jc @Uk (Jc @bytes29 (@zero29))))
theorem Z6 : type_of% (Jc @Xo (Jc @agg49 (Jc @J0e (Jc @bytes49 (Jc @zero49 (Jc @lenS49 (Jc @lenG49 (Jc @lenN49 (Jc @lenZ49 (Jc @eqSl49 (Jc @eqSg49 (@eqSn49)))))))))))) := Jc @Xo (Jc @agg49 (Jc @J0e (Jc @bytes49 (Jc @zero49 (Jc @lenS49 (Jc @lenG49 (Jc @lenN49 (Jc @lenZ49 (Jc @eqSl49 (Jc @eqSg49 (@eqSn49)))))))))))
theorem Qx : type_of% (Jc @und53 (Jc @Zx (Jc @Xa (Jc @J1h (@zero53))))) := Jc @und53 (Jc @Zx (Jc @Xa (Jc @J1h (@zero53))))
theorem Wh : type_of% (Jc @und58 (Jc @agg58 (Jc @size58 (Jc @bytes58 (@zero58))))) := Jc @und58 (Jc @agg58 (Jc @size58 (Jc @bytes58 (@zero58))))
theorem Rw : type_of% (Jc @Un (Jc @agg62 (Jc @size62 (Jc @bytes62 (Jc @zero62 (Jc @lenS62 (Jc @lenG62 (Jc @lenN62 (Jc @lenZ62 (Jc @eqSl62 (Jc @eqSg62 (@eqSn62)))))))))))) := Jc @Un (Jc @agg62 (Jc @size62 (Jc @bytes62 (Jc @zero62 (Jc @lenS62 (Jc @lenG62 (Jc @lenN62 (Jc @lenZ62 (Jc @eqSl62 (Jc @eqSg62 (@eqSn62)))))))))))
theorem Zb : type_of% (Jc @und65 (Jc @agg65 (Jc @size65 (Jc @bytes65 (Jc @zero65 (Jc @bld65 (Jc @sla65 (@eg65)))))))) := Jc @und65 (Jc @agg65 (Jc @size65 (Jc @bytes65 (Jc @zero65 (Jc @bld65 (Jc @sla65 (@eg65)))))))
theorem Za : type_of% (Jc @J0x (Jc @agg66 (Jc @size66 (Jc @bytes66 (Jc @zero66 (Jc @bld66 (Jc @sla66 (@eg66)))))))) := Jc @J0x (Jc @agg66 (Jc @size66 (Jc @bytes66 (Jc @zero66 (Jc @bld66 (Jc @sla66 (@eg66)))))))
theorem tyb81 : type_of% (Jc @und81 (Jc @agg81 (Jc @size81 (Jc @bytes81 (@zero81))))) := Jc @und81 (Jc @agg81 (Jc @size81 (Jc @bytes81 (@zero81))))
theorem tyb89 : type_of% (Jc @und89 (Jc @agg89 (Jc @size89 (Jc @bytes89 (Jc @zero89 (Jc @eqPn89 (Jc @eqPP89 (@eqPz89)))))))) := Jc @und89 (Jc @agg89 (Jc @size89 (Jc @bytes89 (Jc @zero89 (Jc @eqPn89 (Jc @eqPP89 (@eqPz89)))))))
theorem Rv : type_of% (Jc @und95 (Jc @agg95 (Jc @size95 (Jc @bytes95 (@zero95))))) := Jc @und95 (Jc @agg95 (Jc @size95 (Jc @bytes95 (@zero95))))
theorem J1u : type_of% (Jc @J0b (Jc @agg101 (Jc @size101 (Jc @bytes101 (Jc @zero101 (Jc @eqPn101 (Jc @eqPP101 (@eqPz101)))))))) := Jc @J0b (Jc @agg101 (Jc @size101 (Jc @bytes101 (Jc @zero101 (Jc @eqPn101 (Jc @eqPP101 (@eqPz101)))))))
theorem J1t : type_of% (Jc @J1r (Jc @agg102 (Jc @size102 (Jc @bytes102 (Jc @zero102 (Jc @fad102_0 (Jc @faz102_0 (Jc @fad102_1 (@faz102_1))))))))) := Jc @J1r (Jc @agg102 (Jc @size102 (Jc @bytes102 (Jc @zero102 (Jc @fad102_0 (Jc @faz102_0 (Jc @fad102_1 (@faz102_1))))))))
theorem J1s : type_of% (Jc @Wy (Jc @agg103 (Jc @size103 (Jc @bytes103 (Jc @zero103 (Jc @fad103_0 (Jc @faz103_0 (Jc @fad103_1 (@faz103_1))))))))) := Jc @Wy (Jc @agg103 (Jc @size103 (Jc @bytes103 (Jc @zero103 (Jc @fad103_0 (Jc @faz103_0 (Jc @fad103_1 (@faz103_1))))))))
theorem tyb104 : type_of% (Jc @und104 (Jc @agg104 (Jc @size104 (Jc @bytes104 (@zero104))))) := Jc @und104 (Jc @agg104 (Jc @size104 (Jc @bytes104 (@zero104))))
theorem tyb107 : type_of% (Jc @Uh (Jc @agg107 (Jc @size107 (Jc @bytes107 (Jc @zero107 (Jc @lenS107 (Jc @lenG107 (Jc @lenN107 (Jc @lenZ107 (Jc @eqSl107 (Jc @eqSg107 (@eqSn107)))))))))))) := Jc @Uh (Jc @agg107 (Jc @size107 (Jc @bytes107 (Jc @zero107 (Jc @lenS107 (Jc @lenG107 (Jc @lenN107 (Jc @lenZ107 (Jc @eqSl107 (Jc @eqSg107 (@eqSn107)))))))))))
theorem tyb123 : type_of% (Jc @J1o (Jc @agg123 (Jc @size123 (Jc @bytes123 (Jc @zero123 (Jc @bld123 (Jc @sla123 (@eg123)))))))) := Jc @J1o (Jc @agg123 (Jc @size123 (Jc @bytes123 (Jc @zero123 (Jc @bld123 (Jc @sla123 (@eg123)))))))
end Go.Proofs.YtlgpemndbfclfaaDoor
namespace Go.Proofs.YtlgpemndbfclfaaDoor
open Go.AL Go.PW
theorem Xp (n : Int) : IntKind.u64.wrap n = n % Bs := by
  have e : ((2 : Int) ^ IntKind.u64.bits) = Bs := by decide
  simp only [IntKind.wrap, IntKind.signed, Bool.false_and, Bool.false_eq_true, if_false, e]
theorem Xx {n : Int} (h0 : 0 ≤ n) (h1 : n < Bs) : IntKind.u64.wrap n = n := by rw [Xp]; exact Int.emod_eq_of_lt h0 h1
theorem Rn {n : Nat} (h : n < 2 ^ 64) : (BitVec.ofInt IntKind.u64.bits (n : Int)).toNat = n := by
  rw [BitVec.toNat_ofInt]
  have : ((2 : Nat) ^ IntKind.u64.bits) = 18446744073709551616 := by decide
  rw [this]
  omega
theorem nat_lt {x : Int} (hx : 0 ≤ x) (hx' : x < Bs) : ∃ a : Nat, x = a ∧ a < 2 ^ 64 := by
  obtain ⟨a, rfl⟩ := Int.eq_ofNat_of_zero_le hx
  exact ⟨a, rfl, by simp only [Bs] at hx'; omega⟩
theorem wrap_nat {a : Nat} (h : a < 2 ^ 64) : IntKind.u64.wrap (a : Int) = a := Xx (by omega) (by simp only [Bs]; omega)
theorem xor64 {a b : Nat} (ha : a < 2 ^ 64) (hb : b < 2 ^ 64) : bits .xor .u64 (a : Int) (b : Int) = ((a ^^^ b : Nat) : Int) := by
  have hab := Nat.xor_lt_two_pow ha hb
  unfold bits
  simp only
  rw [BitVec.toNat_xor, Rn ha, Rn hb]
  exact wrap_nat hab
theorem and64 {a b : Nat} (ha : a < 2 ^ 64) (hb : b < 2 ^ 64) : bits .and .u64 (a : Int) (b : Int) = ((a &&& b : Nat) : Int) := by
  have hab : a &&& b < 2 ^ 64 := Nat.lt_of_le_of_lt Nat.and_le_left ha
  unfold bits
  simp only
  rw [BitVec.toNat_and, Rn ha, Rn hb]
  exact wrap_nat hab
theorem or64 {a b : Nat} (ha : a < 2 ^ 64) (hb : b < 2 ^ 64) : bits .or .u64 (a : Int) (b : Int) = ((a ||| b : Nat) : Int) := by
  have hab := Nat.or_lt_two_pow ha hb
  unfold bits
  simp only
  rw [BitVec.toNat_or, Rn ha, Rn hb]
  exact wrap_nat hab
theorem not64 {x : Int} (h0 : 0 ≤ x) (h1 : x < Bs) : bits .xor .u64 (if IntKind.u64.signed = true then -1 else IntKind.u64.max) x = Bs - 1 - x := by
  have e : (if IntKind.u64.signed = true then -1 else IntKind.u64.max) = ((2 ^ 64 - 1 : Nat) : Int) := by decide
  obtain ⟨a, rfl, ha⟩ := nat_lt h0 h1
  rw [e, xor64 (by decide) ha]
  have h2 : (2 ^ 64 - 1) ^^^ a = 2 ^ 64 - 1 - a := by
    have h3 : (BitVec.allOnes 64 ^^^ BitVec.ofNat 64 a) = ~~~ (BitVec.ofNat 64 a) := BitVec.allOnes_xor
    have h4 := congrArg BitVec.toNat h3
    rw [BitVec.toNat_xor, BitVec.toNat_not, BitVec.toNat_allOnes, BitVec.toNat_ofNat, Nat.mod_eq_of_lt ha] at h4
    exact h4
  rw [h2]
  simp only [Bs]
  omega
theorem low32 {x : Int} (h0 : 0 ≤ x) (h1 : x < Bs) : bits .and .u64 x 4294967295 = x % 4294967296 := by
  obtain ⟨a, rfl, ha⟩ := nat_lt h0 h1
  have h2 := and64 (b := 4294967295) ha (by decide)
  have h3 := Nat.and_two_pow_sub_one_eq_mod a 32
  have e : (2 ^ 32 - 1 : Nat) = 4294967295 := by decide
  rw [e] at h3
  rw [h3] at h2
  exact h2.trans (by omega)
theorem or_add {x y : Int} (k : Nat) (h0 : 0 ≤ x) (h1 : x * 2 ^ k < Bs) (h2 : 0 ≤ y) (h3 : y < 2 ^ k) (h4 : y < Bs) : bits .or .u64 (x * 2 ^ k) y = x * 2 ^ k + y := by
  have hp : (0 : Int) < 2 ^ k := Int.pow_pos (by decide)
  obtain ⟨a, rfl⟩ := Int.eq_ofNat_of_zero_le h0
  obtain ⟨b, rfl⟩ := Int.eq_ofNat_of_zero_le h2
  have e : ((a : Int) * 2 ^ k) = ((a * 2 ^ k : Nat) : Int) := by simp
  have hb : b < 2 ^ k := by
    have : ((b : Int)) < ((2 ^ k : Nat) : Int) := by simpa using h3
    omega
  rw [e] at h1 ⊢
  have h5 : a * 2 ^ k < 2 ^ 64 := by simp only [Bs] at h1; omega
  have h6 : b < 2 ^ 64 := by simp only [Bs] at h4; omega
  rw [or64 h5 h6]
  have h7 := Nat.shiftLeft_add_eq_or_of_lt hb a
  rw [Nat.shiftLeft_eq] at h7
  rw [← h7]
  omega
def M : Int := Bs ^ 16
def Mh : Int := Bs ^ 15 * 9223372036854775808
theorem M_two : M = 2 * Mh := by decide
theorem M_pow : M = Bs ^ 16 := rfl
theorem M_pos : 0 < M := by decide
theorem Ns : 0 < Mh := by decide
theorem top_iff (x : Int) : ((dig 16 x).getD 15 0 / 9223372036854775808 == 1) = decide (Mh ≤ x % M) := by
  rw [Vf 16 x 15 (by decide)]
  have h := emod_two (x := x) (m := Bs ^ 15) (k := Bs) (by decide)
  have e : Bs ^ 15 * Bs = M := by decide
  rw [e] at h
  have h1 := Int.emod_nonneg x (b := Bs ^ 15) (by decide)
  have h2 := Int.emod_lt_of_pos x (b := Bs ^ 15) (by decide)
  have h3 := Int.emod_nonneg (x / Bs ^ 15) (b := Bs) (by decide)
  have h4 := Int.emod_lt_of_pos (x / Bs ^ 15) (b := Bs) (by decide)
  rw [← h]
  have eM : Mh = Bs ^ 15 * 9223372036854775808 := rfl
  rw [eM]
  have hp : (0 : Int) < Bs ^ 15 := by decide
  generalize x / Bs ^ 15 % Bs = t at *
  generalize x % Bs ^ 15 = r at *
  generalize Bs ^ 15 = p at *
  have key : (t / 9223372036854775808 = 1) ↔ (p * 9223372036854775808 ≤ r + p * t) := by
    constructor
    · intro ht
      have : 9223372036854775808 ≤ t := by omega
      have := Int.mul_le_mul_of_nonneg_left this (Int.le_of_lt hp)
      omega
    · intro ht
      rcases Int.lt_or_le t 9223372036854775808 with h5 | h5
      · have : p * (t + 1) ≤ p * 9223372036854775808 := Int.mul_le_mul_of_nonneg_left (by omega) (Int.le_of_lt hp)
        rw [Int.mul_add] at this
        omega
      · simp only [Bs] at h4; omega
  rw [Bool.eq_iff_iff]
  simp only [beq_iff_eq, decide_eq_true_eq]
  exact key
def In (x : Int) : Prop := -Mh ≤ x ∧ x < Mh
theorem Yp {x : Int} (h : In x) : decide (Mh ≤ x % M) = decide (x < 0) := by
  obtain ⟨h1, h2⟩ := h
  have hm := M_two
  have hp := Ns
  rcases Int.lt_or_le x 0 with h0 | h0
  · have : x % M = x + M := by
      rw [← Int.add_emod_right, Int.emod_eq_of_lt (by omega) (by omega)]
    rw [this]
    have h3 : Mh ≤ x + M := by omega
    simp [h0, h3]
  · have : x % M = x := Int.emod_eq_of_lt h0 (by omega)
    rw [this]
    have h3 : ¬ Mh ≤ x := by omega
    have h4 : ¬ x < 0 := by omega
    simp [h3, h4]
theorem dig_M {x y : Int} (h : x % M = y % M) : dig 16 x = dig 16 y := dig_mod 16 x y h
theorem J0w (x : Int) : val (dig 16 x) = x % M := Vg 16 x
attribute [irreducible] M Mh
end Go.Proofs.YtlgpemndbfclfaaDoor
namespace Go.Proofs.YtlgpemndbfclfaaDoor
open Go.AL Go.PW
theorem tf52WdA : type_of% (Jc @Qx (Jc @Zb (@Za))) := Jc @Qx (Jc @Zb (@Za))
theorem Ks : type_of% (Jc @Xz (Jc @Qx (Jc @Zb (@Za)))) := Jc @Xz (Jc @Qx (Jc @Zb (@Za)))
set_option maxRecDepth 8000
abbrev W (x : Int) : AV := .agg ((dig 16 x).map (AV.int .u64))
abbrev Wb (x : Int) : Blk := ⟨(dig 16 x).map (AV.int .u64), .own, 66⟩
theorem ext_quiet {f : FuncId} {fn : Func} {e : Array Value → Sem Value} (hf : Tryd.prog.funcs[f]? = some fn) (hname : (fn.name == "runtime.NumGoroutine") = false)
    (hb : fn.body.isNone = true) (hn : Extern.findNext fn = none) (he : Extern.find fn = some e) {args : List AV} {r : AV} {H : Hp} (hr : ∀ n, r.lt n)
    (h : ∀ (β : Env) (vs : Array Value) (w : World), VRs β args vs.toList → ∃ v, (e vs).run Tryd.prog w = .ok v w ∧ VR β r v) : AExt Tryd.prog f args H fun r' H' => r' = r ∧ H = H' := by
  intro w0 B β w vs R hv hl
  obtain ⟨v, h1, h2⟩ := h β vs w hv
  refine ⟨v, w, β, r, H, ?_, ⟨rfl, rfl⟩, Agree.refl _ _, Nat.le_refl _, h2, hr _, R⟩
  rw [run_callFunc_extern hf hname hb hn he, h1]
  rfl
theorem three_eq (P : Program) (name : String) (x y c : Nat) (hc : ¬ 1 < c) (w : World) : (Extern.MathBitsCarry.three name ⟨[.int .u64 (x : Int), .int .u64 (y : Int), .int .u64 (c : Int)]⟩).run P w = .ok (x, y, c) w := by
  have h : ∀ a b d : Value, Extern.MathBitsCarry.three name ⟨[a, b, d]⟩ = (do
      let c := (← asInt d).toNat
      if c > 1 then unsupported (.noEntry ("extern/math/bits." ++ name ++ ": a carry that is neither 0 nor 1"))
      pure ((← asInt a).toNat, (← asInt b).toNat, c)) := fun _ _ _ => rfl
  rw [h]
  simp only [asInt, asIntOf, Sem.run_bind, Sem.run_pure, Result.andThen_ok, Int.toNat_natCast]
  rw [if_neg hc]
  simp
theorem Kk (H : Hp) (x y c : Int) (hx : 0 ≤ x) (hy : 0 ≤ y) (hc : 0 ≤ c ∧ c ≤ 1) : AExt Tryd.prog 59 [.int .u64 x, .int .u64 y, .int .u64 c] H fun r H' => r = .tup [.int .u64 ((x + y + c) % Bs), .int .u64 ((x + y + c) / Bs)] ∧ H = H' := by
  refine ext_quiet (e := fun args => do
    let (x, y, c) ← Extern.MathBitsCarry.three "Add64" args
    pure (Extern.MathBitsCarry.pair ((x + y + c) % Extern.MathBitsCarry.m64) ((x + y + c) / Extern.MathBitsCarry.m64))) Tryd.func59 (by kernel_rfl) (by kernel_rfl) (by kernel_rfl) (by kernel_rfl) (fun _ => by simp [AV.lt, AV.lts]) ?_
  intro β vs w hv
  obtain ⟨vs⟩ := vs
  simp only [VRs, VR] at hv
  obtain ⟨_, _, rfl, rfl, _, _, rfl, rfl, _, _, rfl, rfl, rfl⟩ := hv
  obtain ⟨x, rfl⟩ := Int.eq_ofNat_of_zero_le hx
  obtain ⟨y, rfl⟩ := Int.eq_ofNat_of_zero_le hy
  obtain ⟨c, rfl⟩ := Int.eq_ofNat_of_zero_le hc.1
  have hc1 : ¬ 1 < c := by omega
  refine ⟨_, by simp only [Sem.run_bind, three_eq _ _ _ _ _ hc1, Result.andThen_ok, Sem.run_pure]; rfl, ?_⟩
  simp only [Extern.MathBitsCarry.pair, VR, VRs, Extern.MathBitsCarry.m64]
  refine ⟨_, rfl, _, _, rfl, ?_, _, _, rfl, ?_, rfl⟩
  · simp [Bs]
  · simp [Bs]
theorem sub64 (H : Hp) (x y c : Int) (hx : 0 ≤ x) (hy : 0 ≤ y ∧ y < Bs) (hc : 0 ≤ c ∧ c ≤ 1) : AExt Tryd.prog 60 [.int .u64 x, .int .u64 y, .int .u64 c] H fun r H' => r = .tup [.int .u64 ((x - y - c) % Bs), .int .u64 (if x < y + c then 1 else 0)] ∧ H = H' := by
  refine ext_quiet (e := fun args => do
    let (x, y, b) ← Extern.MathBitsCarry.three "Sub64" args
    pure (Extern.MathBitsCarry.pair ((x + Extern.MathBitsCarry.m64 - y - b) % Extern.MathBitsCarry.m64) (if x < y + b then 1 else 0))) Tryd.func60 (by kernel_rfl) (by kernel_rfl) (by kernel_rfl) (by kernel_rfl) (fun _ => by simp [AV.lt, AV.lts]) ?_
  intro β vs w hv
  obtain ⟨vs⟩ := vs
  simp only [VRs, VR] at hv
  obtain ⟨_, _, rfl, rfl, _, _, rfl, rfl, _, _, rfl, rfl, rfl⟩ := hv
  obtain ⟨x, rfl⟩ := Int.eq_ofNat_of_zero_le hx
  obtain ⟨y, rfl⟩ := Int.eq_ofNat_of_zero_le hy.1
  obtain ⟨c, rfl⟩ := Int.eq_ofNat_of_zero_le hc.1
  have hc1 : ¬ 1 < c := by omega
  refine ⟨_, by simp only [Sem.run_bind, three_eq _ _ _ _ _ hc1, Result.andThen_ok, Sem.run_pure]; rfl, ?_⟩
  simp only [Extern.MathBitsCarry.pair, VR, VRs, Extern.MathBitsCarry.m64]
  refine ⟨_, rfl, _, _, rfl, ?_, _, _, rfl, ?_, rfl⟩
  · have hy2 : y < 18446744073709551616 := by have := hy.2; simp only [Bs] at this; omega
    have : ((x + 2 ^ 64 - y - c : Nat) : Int) = (x : Int) - y - c + Bs := by simp only [Bs]; omega
    simp only [Value.int.injEq, true_and, Int.ofNat_eq_natCast, Int.natCast_emod, this]
    simp only [Bs]
    omega
  · by_cases h : x < y + c
    · have : (x : Int) < (y : Int) + c := by omega
      simp [h, this]
    · have : ¬ (x : Int) < (y : Int) + c := by omega
      simp [h, this]
theorem below_calls (x : Int) (H : Hp) : ACalls Tryd.prog 52 [W x] H fun r H' => r = .bool (decide (Mh ≤ x % M)) ∧ H = H' := by
  refine ACalls.drop (R := fun r => r = .bool (decide (Mh ≤ x % M))) ?_
  refine Qe Tryd.func52 rfl (by kernel_rfl) (by kernel_rfl) ?_
  repeat' first
    | (with_reducible first | refine Jj (fun K hK => ?_) | refine Js ?_ | refine Q2 ?_ | refine Qc ?_ | refine Qb ?_ | refine Jg ?_ | refine Jq ?_)
    | (with_reducible refine Jv (fun hc => ?_) (fun hc => ?_) <;> (try simp only [RC] at hc) <;> (try (exfalso; first | omega | contradiction)))
    | (with_reducible refine X3 (fun hc => ?_) (fun hc => ?_) <;> (try simp only [RC] at hc) <;> (try (exfalso; first | omega | contradiction)))
    | (simp only [Q8, Jk, reduceIte, J0])
    | ((with_reducible refine hK _ _ ?_); clear hK)
    | (clear hK; (with_reducible refine hK _ _ ?_); clear hK)
    | (clear hK; clear hK; (with_reducible refine hK _ _ ?_); clear hK)
    | (clear hK; clear hK; clear hK; (with_reducible refine hK _ _ ?_); clear hK)
    | (clear hK; clear hK; clear hK; clear hK; (with_reducible refine hK _ _ ?_); clear hK)
    | (clear hK; clear hK; clear hK; clear hK; clear hK; (with_reducible refine hK _ _ ?_); clear hK)
    | (simp only [Qa, RA, Jo, Jn, Jp, Q7, Q5, ev, ofValue, Ju, J0, J3, J2, J4, reduceCtorEq, reduceIte, Jx, Qm, Qk, Q1, aun, Qj, Jm, Jh, Q0, Jz, Ji, Qi, Jf, Q6, Jw, Jr, J1, J5, Ja, J9, Jb, J6, J7, Jd, J8, RB, Jy, Je, tf52WdA])
    | (simp (disch := first | omega | (simp only [RO]; done) | assumption) only [RS, Y4, Y0, Y3, Zz])
    | (simp (disch := (first | omega | (simp only [RO]; done) | assumption | (simp only [RM, Je]; done) | (simp only [RL, Je]; omega))) only [RD, reduceCtorEq, reduceIte, Je, J1, J3, J2, J6, tf52WdA])
  (
   (refine Q9 (rs := [.tmp 2]) rfl ?_)
   (simp only [Qt, Q4, Fr.put_some, Fr.put_none, Qg, Qh, Qn, J0, reduceIte])
   (try simp (disch := (first | omega | (simp only [RO]; done) | assumption | (simp only [RM, Je]; done) | (simp only [RL, Je]; omega))) only [RD, reduceCtorEq, reduceIte, Je, J1, J3, J2, J6, tf52WdA]))
  exact ⟨⟨_, rfl⟩, trivial, by rw [top_iff]⟩
theorem ext4 {H : Hp} (a b : Blk) : Ext H (H ++ [a] ++ [b]) := (Ext.push _ _).pushed _
theorem inverse_calls (x : Int) (H : Hp) : ACalls Tryd.prog 51 [W x] H fun r H' => r = W (-x - 1) ∧ H = H' := by
  refine ACalls.drop (R := fun r => r = W (-x - 1)) ?_
  refine Qe Tryd.func51 rfl (by kernel_rfl) (by kernel_rfl) ?_
  repeat' first
    | (with_reducible first | refine Jj (fun K hK => ?_) | refine Js ?_ | refine Q2 ?_ | refine Qc ?_ | refine Qb ?_ | refine Jg ?_ | refine Jq ?_)
    | (with_reducible refine Jv (fun hc => ?_) (fun hc => ?_) <;> (try simp only [RC] at hc) <;> (try (exfalso; first | omega | contradiction)))
    | (with_reducible refine X3 (fun hc => ?_) (fun hc => ?_) <;> (try simp only [RC] at hc) <;> (try (exfalso; first | omega | contradiction)))
    | (simp only [Q8, Jk, reduceIte, J0])
    | ((with_reducible refine hK _ _ ?_); clear hK)
    | (clear hK; (with_reducible refine hK _ _ ?_); clear hK)
    | (clear hK; clear hK; (with_reducible refine hK _ _ ?_); clear hK)
    | (clear hK; clear hK; clear hK; (with_reducible refine hK _ _ ?_); clear hK)
    | (clear hK; clear hK; clear hK; clear hK; (with_reducible refine hK _ _ ?_); clear hK)
    | (clear hK; clear hK; clear hK; clear hK; clear hK; (with_reducible refine hK _ _ ?_); clear hK)
    | (simp only [Qa, RA, Jo, Jn, Jp, Q7, Q5, ev, ofValue, Ju, J0, J3, J2, J4, reduceCtorEq, reduceIte, Jx, Qm, Qk, Q1, aun, Qj, Jm, Jh, Q0, Jz, Ji, Qi, Jf, Q6, Jw, Jr, J1, J5, Ja, J9, Jb, J6, J7, Jd, J8, RB, Jy, Je, Ks])
    | (simp (disch := first | omega | (simp only [RO]; done) | assumption) only [RS, Y4, Y0, Y3, Zz])
    | (simp (disch := (first | omega | (simp only [RO]; done) | assumption | (simp only [RM, Je]; done) | (simp only [RL, Je]; omega))) only [RD, reduceCtorEq, reduceIte, Je, J1, J3, J2, J6, Ks])
  refine Xr (fun m fr' H' => ∃ (i : Nat) (ys : List Int), m = 16 - i ∧ i ≤ 16 ∧ fr' 1 = .ptr H.length 0 ∧ fr' 2 = .ptr (H.length + 1) 0 ∧ fr' 5 = W x ∧ fr' 6 = .int .i64 (i : Int) ∧ ys.length = 16 ∧ Limbs ys ∧ val (ys.take i) + val ((dig 16 x).take i) = Bs ^ i - 1 ∧ (H ++ [⟨ys.map (AV.int .u64), .own, 66⟩]) ++ [Wb 0] = H') (m := 16)
    ⟨0, dig 16 x, by omega, by omega, rfl, rfl, rfl, rfl, dig_length _ _, X6 _ _, rfl, rfl⟩ ?_
  rintro m fr' H' ⟨i, ys, rfl, hi, k1, k2, k5, k6, hl, hys, hy, rfl⟩
  by_cases hlt : i < 16
  · have hd := (X6 16 x).get i
    repeat' first
      | (with_reducible first | refine Jj (fun K hK => ?_) | refine Js ?_ | refine Q2 ?_ | refine Qc ?_ | refine Qb ?_ | refine Jg ?_ | refine Jq ?_)
      | (with_reducible refine Jv (fun hc => ?_) (fun hc => ?_) <;> (try simp only [RC] at hc) <;> (try (exfalso; first | omega | contradiction)))
      | (with_reducible refine X3 (fun hc => ?_) (fun hc => ?_) <;> (try simp only [RC] at hc) <;> (try (exfalso; first | omega | contradiction)))
      | (simp only [Q8, Jk, reduceIte, J0])
      | ((with_reducible refine hK _ _ ?_); clear hK)
      | (clear hK; (with_reducible refine hK _ _ ?_); clear hK)
      | (clear hK; clear hK; (with_reducible refine hK _ _ ?_); clear hK)
      | (clear hK; clear hK; clear hK; (with_reducible refine hK _ _ ?_); clear hK)
      | (clear hK; clear hK; clear hK; clear hK; (with_reducible refine hK _ _ ?_); clear hK)
      | (clear hK; clear hK; clear hK; clear hK; clear hK; (with_reducible refine hK _ _ ?_); clear hK)
      | (simp only [Qa, RA, Jo, Jn, Jp, Q7, Q5, ev, ofValue, Ju, J0, J3, J2, J4, reduceCtorEq, reduceIte, Jx, Qm, Qk, Q1, aun, Qj, Jm, Jh, Q0, Jz, Ji, Qi, Jf, Q6, Jw, Jr, J1, J5, Ja, J9, Jb, J6, J7, Jd, J8, RB, Jy, Je, Ks, k1, k2, k5, k6, not64 hd.1 hd.2])
      | (simp (disch := first | omega | (simp only [RO]; done) | assumption) only [RS, hl, ix66 (dig_length 16 x), Y4, Y0, Y3, Zz])
      | (simp (disch := (first | omega | (simp only [RO]; done) | assumption | (simp only [RM, Je]; done) | (simp only [RL, Je]; omega))) only [RD, reduceCtorEq, reduceIte, Je, J1, J3, J2, J6, Ks, k1, k2, k5, k6, not64 hd.1 hd.2])
    have hv := Qz (dig 16 x) (i := i) (by rw [dig_length]; exact hlt)
    have hv2 := Qz (ys.set i (Bs - 1 - (dig 16 x).getD i 0)) (i := i) (by rw [List.length_set]; omega)
    rw [Xh _ _ (by omega), if_pos rfl, List.take_set_of_le (Nat.le_refl _)] at hv2
    refine ⟨16 - (i + 1), by omega, i + 1, _, rfl, by omega, by rw [Q3 (by omega) (by omega)]; rfl, ?_, hys.set i (by omega), ?_, rfl⟩
    · rw [List.length_set]; exact hl
    · rw [hv, hv2, Int.pow_succ]
      have hp := X0 i
      generalize Bs ^ i = p at *
      generalize (dig 16 x).getD i 0 = d at *
      rw [Int.mul_sub, Int.mul_sub]
      omega
  · obtain rfl : i = 16 := by omega
    repeat' first
      | (with_reducible first | refine Jj (fun K hK => ?_) | refine Js ?_ | refine Q2 ?_ | refine Qc ?_ | refine Qb ?_ | refine Jg ?_ | refine Jq ?_)
      | (with_reducible refine Jv (fun hc => ?_) (fun hc => ?_) <;> (try simp only [RC] at hc) <;> (try (exfalso; first | omega | contradiction)))
      | (with_reducible refine X3 (fun hc => ?_) (fun hc => ?_) <;> (try simp only [RC] at hc) <;> (try (exfalso; first | omega | contradiction)))
      | (simp only [Q8, Jk, reduceIte, J0])
      | ((with_reducible refine hK _ _ ?_); clear hK)
      | (clear hK; (with_reducible refine hK _ _ ?_); clear hK)
      | (clear hK; clear hK; (with_reducible refine hK _ _ ?_); clear hK)
      | (clear hK; clear hK; clear hK; (with_reducible refine hK _ _ ?_); clear hK)
      | (clear hK; clear hK; clear hK; clear hK; (with_reducible refine hK _ _ ?_); clear hK)
      | (clear hK; clear hK; clear hK; clear hK; clear hK; (with_reducible refine hK _ _ ?_); clear hK)
      | (simp only [Qa, RA, Jo, Jn, Jp, Q7, Q5, ev, ofValue, Ju, J0, J3, J2, J4, reduceCtorEq, reduceIte, Jx, Qm, Qk, Q1, aun, Qj, Jm, Jh, Q0, Jz, Ji, Qi, Jf, Q6, Jw, Jr, J1, J5, Ja, J9, Jb, J6, J7, Jd, J8, RB, Jy, Je, Ks, k1, k2, k5, k6])
      | (simp (disch := first | omega | (simp only [RO]; done) | assumption) only [RS, hl, Y4, Y0, Y3, Zz])
      | (simp (disch := (first | omega | (simp only [RO]; done) | assumption | (simp only [RM, Je]; done) | (simp only [RL, Je]; omega))) only [RD, reduceCtorEq, reduceIte, Je, J1, J3, J2, J6, Ks, k1, k2, k5, k6])
    (
     (refine Q9 (rs := [.cell 2 66]) rfl ?_)
     (simp only [Qt, Q4, Fr.put_some, Fr.put_none, Qg, Qh, Qn, J0, reduceIte, k2])
     (try simp (disch := (first | omega | (simp only [RO]; done) | assumption | (simp only [RM, Je]; done) | (simp only [RL, Je]; omega))) only [RD, reduceCtorEq, reduceIte, Je, J1, J3, J2, J6, Ks, k2]))
    refine ⟨ext4 _ _, by simp [AV.lt, AV.lts_iff], ?_⟩
    have e1 : ys.take 16 = ys := List.take_of_length_le (by omega)
    have e2 : (dig 16 x).take 16 = dig 16 x := List.take_of_length_le (by rw [dig_length]; omega)
    rw [e1, e2, Vg] at hy
    have : ys = dig 16 (-x - 1) := by
      refine Zw hys hl ?_
      have h1 := Qq hys
      rw [hl] at h1
      have h2 : (-x - 1) % Bs ^ 16 = val ys := by
        have hx := Int.emod_add_mul_ediv x (Bs ^ 16)
        generalize x / Bs ^ 16 = q at *
        generalize x % Bs ^ 16 = r at *
        generalize Bs ^ 16 = p at *
        have : -x - 1 = val ys + p * (-q - 1) := by rw [Int.mul_sub, Int.mul_neg]; omega
        rw [this, Int.add_mul_emod_self_left, Int.emod_eq_of_lt h1.1 h1.2]
      exact h2.symm
    rw [this]
end Go.Proofs.YtlgpemndbfclfaaDoor

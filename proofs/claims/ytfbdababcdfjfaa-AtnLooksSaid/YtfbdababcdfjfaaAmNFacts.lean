/- A part of a proof. Its conditions: none. -/
import Derived.Test.YtfbdababcdfjfaaAmD
import Derived.Test.YtfbdababcdfjfaaRows
import Derived.KernelRfl
set_option linter.all false
namespace Go.Proofs.Ytfbdababcdfjfaa
open Go.AM
def fns : List Nat := [3, 4, 5, 6, 7, 8, 9, 10, 11, 12, 13, 14, 15, 16, 17, 18, 19, 20, 21, 22, 23, 24, 25, 26, 27, 28, 29, 30, 31, 32, 33, 34, 35, 36, 37, 38, 39, 40, 41, 42, 43, 44, 45, 46, 47, 48, 49, 50, 51, 52, 53, 54, 55, 56, 57, 58, 59, 60, 61, 62, 63, 64, 65, 66, 67, 68, 69, 70, 71, 72, 73, 74, 75, 76, 77, 78, 79, 80, 81, 82, 83, 84, 86, 87, 88, 89, 90, 91, 92, 93, 94, 95, 96, 97, 98, 99, 100, 101, 102, 103, 104, 105, 106, 107, 108, 109, 110, 112, 114, 115, 116, 117]
theorem fns_ok : fns.all (fnOKb Try.prog) = true := by kernel_rfl
theorem orders : Try.prog.follows .mixedOrders = true := by kernel_rfl
theorem agg_3 : aggT Try.prog 3 = some false := by kernel_rfl
theorem agg_4 : aggT Try.prog 4 = some false := by kernel_rfl
theorem agg_9 : aggT Try.prog 9 = some false := by kernel_rfl
theorem agg_22 : aggT Try.prog 22 = some false := by kernel_rfl
theorem agg_23 : aggT Try.prog 23 = some false := by kernel_rfl
theorem agg_25 : aggT Try.prog 25 = some true := by kernel_rfl
theorem agg_26 : aggT Try.prog 26 = some false := by kernel_rfl
theorem agg_29 : aggT Try.prog 29 = some false := by kernel_rfl
theorem agg_31 : aggT Try.prog 31 = some false := by kernel_rfl
theorem agg_44 : aggT Try.prog 44 = some true := by kernel_rfl
theorem agg_45 : aggT Try.prog 45 = some false := by kernel_rfl
theorem agg_47 : aggT Try.prog 47 = some true := by kernel_rfl
theorem agg_58 : aggT Try.prog 58 = some false := by kernel_rfl
theorem agg_60 : aggT Try.prog 60 = some true := by kernel_rfl
theorem agg_63 : aggT Try.prog 63 = some false := by kernel_rfl
theorem agg_65 : aggT Try.prog 65 = some true := by kernel_rfl
theorem agg_66 : aggT Try.prog 66 = some false := by kernel_rfl
theorem agg_84 : aggT Try.prog 84 = some false := by kernel_rfl
theorem csz_3 : Program.cellsOf Try.prog 3 = 1 := by kernel_rfl
theorem csz_4 : Program.cellsOf Try.prog 4 = 1 := by kernel_rfl
theorem csz_9 : Program.cellsOf Try.prog 9 = 1 := by kernel_rfl
theorem csz_22 : Program.cellsOf Try.prog 22 = 1 := by kernel_rfl
theorem csz_23 : Program.cellsOf Try.prog 23 = 1 := by kernel_rfl
theorem csz_25 : Program.cellsOf Try.prog 25 = 3 := by kernel_rfl
theorem csz_26 : Program.cellsOf Try.prog 26 = 1 := by kernel_rfl
theorem csz_29 : Program.cellsOf Try.prog 29 = 1 := by kernel_rfl
theorem csz_31 : Program.cellsOf Try.prog 31 = 1 := by kernel_rfl
theorem csz_44 : Program.cellsOf Try.prog 44 = 2 := by kernel_rfl
theorem csz_45 : Program.cellsOf Try.prog 45 = 1 := by kernel_rfl
theorem csz_47 : Program.cellsOf Try.prog 47 = 4 := by kernel_rfl
theorem csz_58 : Program.cellsOf Try.prog 58 = 1 := by kernel_rfl
theorem csz_60 : Program.cellsOf Try.prog 60 = 3 := by kernel_rfl
theorem csz_63 : Program.cellsOf Try.prog 63 = 1 := by kernel_rfl
theorem csz_65 : Program.cellsOf Try.prog 65 = 3 := by kernel_rfl
theorem csz_66 : Program.cellsOf Try.prog 66 = 1 := by kernel_rfl
theorem csz_84 : Program.cellsOf Try.prog 84 = 1 := by kernel_rfl
theorem eapp_26_26 : eapp Try.prog #[26, 26] = some (3, 1) := by kernel_rfl
theorem eapp_31_31 : eapp Try.prog #[31, 31] = some (47, 4) := by kernel_rfl
theorem eapp_45_45 : eapp Try.prog #[45, 45] = some (44, 2) := by kernel_rfl
theorem eapp_58_58 : eapp Try.prog #[58, 58] = some (66, 1) := by kernel_rfl
theorem eapp_66_66 : eapp Try.prog #[66, 66] = some (26, 1) := by kernel_rfl
theorem eapp_114_114 : eapp Try.prog #[114, 114] = some (4, 1) := by kernel_rfl
theorem ebd_44 : ebd Try.prog 44 = some ([Value.int IntKind.i64 (Int.ofNat 0), Value.int IntKind.i64 (Int.ofNat 0)], [(0, 1), (1, 1)]) := by kernel_rfl
theorem ebd_47 : ebd Try.prog 47 = some ([Value.int IntKind.i64 (Int.ofNat 0), Value.int IntKind.i64 (Int.ofNat 0), Value.int IntKind.i64 (Int.ofNat 0), Value.slice none 0 0], [(0, 1), (1, 2), (3, 1)]) := by kernel_rfl
theorem ebd_60 : ebd Try.prog 60 = some ([Value.int IntKind.i64 (Int.ofNat 0), Value.slice none 0 0, Value.slice none 0 0], [(0, 1), (1, 1), (2, 1)]) := by kernel_rfl
theorem ebd_86 : ebd Try.prog 86 = some ([Value.slice none 0 0, Value.slice none 0 0, Value.slice none 0 0, Value.slice none 0 0], [(0, 3), (3, 1)]) := by kernel_rfl
theorem ebd_92 : ebd Try.prog 92 = some ([Value.pointer none, Value.slice none 0 0, Value.slice none 0 0, Value.int IntKind.i64 (Int.ofNat 0), Value.int IntKind.i64 (Int.ofNat 0)], [(0, 1), (1, 1), (2, 1), (3, 1), (4, 1)]) := by kernel_rfl
theorem ebs_26_0 : ebs Try.prog 26 0 = some (3, 1, [Value.int IntKind.i64 (Int.ofNat 0)]) := by kernel_rfl
theorem ebs_26_1 : ebs Try.prog 26 1 = some (3, 1, [Value.int IntKind.i64 (Int.ofNat 0)]) := by kernel_rfl
theorem ebs_26_2 : ebs Try.prog 26 2 = some (3, 1, [Value.int IntKind.i64 (Int.ofNat 0)]) := by kernel_rfl
theorem ebs_26_3 : ebs Try.prog 26 3 = some (3, 1, [Value.int IntKind.i64 (Int.ofNat 0)]) := by kernel_rfl
theorem ebs_31_0 : ebs Try.prog 31 0 = some (47, 4, [Value.int IntKind.i64 (Int.ofNat 0), Value.int IntKind.i64 (Int.ofNat 0), Value.int IntKind.i64 (Int.ofNat 0), Value.slice none 0 0]) := by kernel_rfl
theorem ebs_31_1 : ebs Try.prog 31 1 = some (47, 4, [Value.int IntKind.i64 (Int.ofNat 0), Value.int IntKind.i64 (Int.ofNat 0), Value.int IntKind.i64 (Int.ofNat 0), Value.slice none 0 0]) := by kernel_rfl
theorem ebs_45_0 : ebs Try.prog 45 0 = some (44, 2, [Value.int IntKind.i64 (Int.ofNat 0), Value.int IntKind.i64 (Int.ofNat 0)]) := by kernel_rfl
theorem ebs_45_1 : ebs Try.prog 45 1 = some (44, 2, [Value.int IntKind.i64 (Int.ofNat 0), Value.int IntKind.i64 (Int.ofNat 0)]) := by kernel_rfl
theorem ebs_58_1 : ebs Try.prog 58 1 = some (66, 1, [Value.slice none 0 0]) := by kernel_rfl
theorem ebs_66_0 : ebs Try.prog 66 0 = some (26, 1, [Value.slice none 0 0]) := by kernel_rfl
theorem ebs_66_1 : ebs Try.prog 66 1 = some (26, 1, [Value.slice none 0 0]) := by kernel_rfl
theorem ebs_114_0 : ebs Try.prog 114 0 = some (4, 1, [Value.bool false]) := by kernel_rfl
theorem emk_84 : emk Try.prog 84 = some (45, [Value.slice none 0 0]) := by kernel_rfl
theorem emk_114 : emk Try.prog 114 = some (4, [Value.bool false]) := by kernel_rfl
theorem esz_22 : esz Try.prog 22 = some (9, 1) := by kernel_rfl
theorem esz_23 : esz Try.prog 23 = some (65, 3) := by kernel_rfl
theorem esz_26 : esz Try.prog 26 = some (3, 1) := by kernel_rfl
theorem esz_31 : esz Try.prog 31 = some (47, 4) := by kernel_rfl
theorem esz_45 : esz Try.prog 45 = some (44, 2) := by kernel_rfl
theorem esz_58 : esz Try.prog 58 = some (66, 1) := by kernel_rfl
theorem esz_66 : esz Try.prog 66 = some (26, 1) := by kernel_rfl
theorem esz_84 : esz Try.prog 84 = some (45, 1) := by kernel_rfl
theorem esz_114 : esz Try.prog 114 = some (4, 1) := by kernel_rfl
theorem fofs_25_0 : fofs Try.prog 25 0 = some 0 := by kernel_rfl
theorem fofs_25_1 : fofs Try.prog 25 1 = some 1 := by kernel_rfl
theorem fofs_25_2 : fofs Try.prog 25 2 = some 2 := by kernel_rfl
theorem fofs_44_0 : fofs Try.prog 44 0 = some 0 := by kernel_rfl
theorem fofs_44_1 : fofs Try.prog 44 1 = some 1 := by kernel_rfl
theorem fofs_47_0 : fofs Try.prog 47 0 = some 0 := by kernel_rfl
theorem fofs_47_1 : fofs Try.prog 47 1 = some 1 := by kernel_rfl
theorem fofs_47_2 : fofs Try.prog 47 2 = some 3 := by kernel_rfl
theorem fofs_60_0 : fofs Try.prog 60 0 = some 0 := by kernel_rfl
theorem fofs_60_1 : fofs Try.prog 60 1 = some 1 := by kernel_rfl
theorem fofs_60_2 : fofs Try.prog 60 2 = some 2 := by kernel_rfl
theorem fofs_65_0 : fofs Try.prog 65 0 = some 0 := by kernel_rfl
theorem fofs_65_1 : fofs Try.prog 65 1 = some 1 := by kernel_rfl
theorem fofs_65_2 : fofs Try.prog 65 2 = some 2 := by kernel_rfl
theorem fofs_86_0 : fofs Try.prog 86 0 = some 0 := by kernel_rfl
theorem fofs_86_1 : fofs Try.prog 86 1 = some 3 := by kernel_rfl
theorem fofs_92_0 : fofs Try.prog 92 0 = some 0 := by kernel_rfl
theorem fofs_92_1 : fofs Try.prog 92 1 = some 1 := by kernel_rfl
theorem fofs_92_2 : fofs Try.prog 92 2 = some 2 := by kernel_rfl
theorem fofs_92_3 : fofs Try.prog 92 3 = some 3 := by kernel_rfl
theorem fofs_92_4 : fofs Try.prog 92 4 = some 4 := by kernel_rfl
theorem grt_26_26 : growT Try.prog #[26, 26] = false := by kernel_rfl
theorem grt_31_3 : growT Try.prog #[31, 3] = false := by kernel_rfl
theorem grt_31_31 : growT Try.prog #[31, 31] = false := by kernel_rfl
theorem grt_45_45 : growT Try.prog #[45, 45] = false := by kernel_rfl
theorem grt_58_58 : growT Try.prog #[58, 58] = false := by kernel_rfl
theorem grt_66_66 : growT Try.prog #[66, 66] = false := by kernel_rfl
theorem grt_114_114 : growT Try.prog #[114, 114] = false := by kernel_rfl
theorem isz_3 : isz Try.prog 3 = some 1 := by kernel_rfl
theorem isz_4 : isz Try.prog 4 = some 1 := by kernel_rfl
theorem isz_31 : isz Try.prog 31 = some 1 := by kernel_rfl
theorem isz_44 : isz Try.prog 44 = some 2 := by kernel_rfl
theorem isz_45 : isz Try.prog 45 = some 1 := by kernel_rfl
theorem isz_47 : isz Try.prog 47 = some 4 := by kernel_rfl
theorem isz_58 : isz Try.prog 58 = some 1 := by kernel_rfl
theorem isz_60 : isz Try.prog 60 = some 3 := by kernel_rfl
theorem isz_65 : isz Try.prog 65 = some 3 := by kernel_rfl
theorem isz_66 : isz Try.prog 66 = some 1 := by kernel_rfl
theorem und_2 : Program.underlying Try.prog 2 = some (TypeDesc.int IntKind.i64) := by kernel_rfl
theorem und_3 : Program.underlying Try.prog 3 = some (TypeDesc.int IntKind.i64) := by kernel_rfl
theorem und_4 : Program.underlying Try.prog 4 = some TypeDesc.bool := by kernel_rfl
theorem und_5 : Program.underlying Try.prog 5 = some (TypeDesc.int IntKind.u8) := by kernel_rfl
theorem und_9 : Program.underlying Try.prog 9 = some TypeDesc.string := by kernel_rfl
theorem und_45 : Program.underlying Try.prog 45 = some (TypeDesc.slice 44) := by kernel_rfl
theorem und_63 : Program.underlying Try.prog 63 = some (TypeDesc.float FloatKind.f64) := by kernel_rfl
theorem und_124 : Program.underlying Try.prog 124 = some (TypeDesc.int IntKind.u64) := by kernel_rfl
theorem und_135 : Program.underlying Try.prog 135 = some (TypeDesc.int IntKind.i64) := by kernel_rfl
theorem und_143 : Program.underlying Try.prog 143 = some (TypeDesc.int IntKind.u32) := by kernel_rfl
theorem und_145 : Program.underlying Try.prog 145 = some (TypeDesc.int IntKind.u64) := by kernel_rfl
theorem undT_9 : undT Try.prog #[9] = some TypeDesc.string := by kernel_rfl
theorem undT_22 : undT Try.prog #[22] = some (TypeDesc.slice 9) := by kernel_rfl
theorem undT_23 : undT Try.prog #[23] = some (TypeDesc.slice 65) := by kernel_rfl
theorem undT_26 : undT Try.prog #[26] = some (TypeDesc.slice 3) := by kernel_rfl
theorem undT_31 : undT Try.prog #[31] = some (TypeDesc.slice 47) := by kernel_rfl
theorem undT_45 : undT Try.prog #[45] = some (TypeDesc.slice 44) := by kernel_rfl
theorem undT_58 : undT Try.prog #[58] = some (TypeDesc.slice 66) := by kernel_rfl
theorem undT_66 : undT Try.prog #[66] = some (TypeDesc.slice 26) := by kernel_rfl
theorem zeroT_3 : zeroT Try.prog 3 = some (Value.int IntKind.i64 (Int.ofNat 0)) := by kernel_rfl
theorem zeroT_44 : zeroT Try.prog 44 = some (Value.agg { toList := [Value.int IntKind.i64 (Int.ofNat 0), Value.int IntKind.i64 (Int.ofNat 0)] }) := by kernel_rfl
theorem zeroT_47 : zeroT Try.prog 47 = some (Value.agg { toList := [Value.int IntKind.i64 (Int.ofNat 0), Value.int IntKind.i64 (Int.ofNat 0), Value.int IntKind.i64 (Int.ofNat 0), Value.slice none 0 0] }) := by kernel_rfl
theorem zeroT_60 : zeroT Try.prog 60 = some (Value.agg { toList := [Value.int IntKind.i64 (Int.ofNat 0), Value.slice none 0 0, Value.slice none 0 0] }) := by kernel_rfl
theorem zeroT_65 : zeroT Try.prog 65 = some (Value.agg { toList := [Value.int IntKind.i64 (Int.ofNat 0), Value.slice none 0 0, Value.float FloatKind.f64 0] }) := by kernel_rfl
theorem ok4 : FnOK Try.prog 4 Try.f4 (Try.f4.body.getD .skip) := fnOK_of fns_ok 4 _ _ (by kernel_rfl) Try.func4 rfl
theorem ok8 : FnOK Try.prog 8 Try.f8 (Try.f8.body.getD .skip) := fnOK_of fns_ok 8 _ _ (by kernel_rfl) Try.func8 rfl
theorem ok9 : FnOK Try.prog 9 Try.f9 (Try.f9.body.getD .skip) := fnOK_of fns_ok 9 _ _ (by kernel_rfl) Try.func9 rfl
theorem ok10 : FnOK Try.prog 10 Try.f10 (Try.f10.body.getD .skip) := fnOK_of fns_ok 10 _ _ (by kernel_rfl) Try.func10 rfl
theorem ok13 : FnOK Try.prog 13 Try.f13 (Try.f13.body.getD .skip) := fnOK_of fns_ok 13 _ _ (by kernel_rfl) Try.func13 rfl
theorem ok15 : FnOK Try.prog 15 Try.f15 (Try.f15.body.getD .skip) := fnOK_of fns_ok 15 _ _ (by kernel_rfl) Try.func15 rfl
theorem ok16 : FnOK Try.prog 16 Try.f16 (Try.f16.body.getD .skip) := fnOK_of fns_ok 16 _ _ (by kernel_rfl) Try.func16 rfl
theorem ok18 : FnOK Try.prog 18 Try.f18 (Try.f18.body.getD .skip) := fnOK_of fns_ok 18 _ _ (by kernel_rfl) Try.func18 rfl
theorem ok20 : FnOK Try.prog 20 Try.f20 (Try.f20.body.getD .skip) := fnOK_of fns_ok 20 _ _ (by kernel_rfl) Try.func20 rfl
theorem ok21 : FnOK Try.prog 21 Try.f21 (Try.f21.body.getD .skip) := fnOK_of fns_ok 21 _ _ (by kernel_rfl) Try.func21 rfl
theorem ok23 : FnOK Try.prog 23 Try.f23 (Try.f23.body.getD .skip) := fnOK_of fns_ok 23 _ _ (by kernel_rfl) Try.func23 rfl
theorem ok24 : FnOK Try.prog 24 Try.f24 (Try.f24.body.getD .skip) := fnOK_of fns_ok 24 _ _ (by kernel_rfl) Try.func24 rfl
theorem ok25 : FnOK Try.prog 25 Try.f25 (Try.f25.body.getD .skip) := fnOK_of fns_ok 25 _ _ (by kernel_rfl) Try.func25 rfl
theorem ok32 : FnOK Try.prog 32 Try.f32 (Try.f32.body.getD .skip) := fnOK_of fns_ok 32 _ _ (by kernel_rfl) Try.func32 rfl
theorem ok33 : FnOK Try.prog 33 Try.f33 (Try.f33.body.getD .skip) := fnOK_of fns_ok 33 _ _ (by kernel_rfl) Try.func33 rfl
theorem ok34 : FnOK Try.prog 34 Try.f34 (Try.f34.body.getD .skip) := fnOK_of fns_ok 34 _ _ (by kernel_rfl) Try.func34 rfl
theorem ok35 : FnOK Try.prog 35 Try.f35 (Try.f35.body.getD .skip) := fnOK_of fns_ok 35 _ _ (by kernel_rfl) Try.func35 rfl
theorem ok36 : FnOK Try.prog 36 Try.f36 (Try.f36.body.getD .skip) := fnOK_of fns_ok 36 _ _ (by kernel_rfl) Try.func36 rfl
theorem ok37 : FnOK Try.prog 37 Try.f37 (Try.f37.body.getD .skip) := fnOK_of fns_ok 37 _ _ (by kernel_rfl) Try.func37 rfl
theorem ok38 : FnOK Try.prog 38 Try.f38 (Try.f38.body.getD .skip) := fnOK_of fns_ok 38 _ _ (by kernel_rfl) Try.func38 rfl
theorem ok39 : FnOK Try.prog 39 Try.f39 (Try.f39.body.getD .skip) := fnOK_of fns_ok 39 _ _ (by kernel_rfl) Try.func39 rfl
theorem ok40 : FnOK Try.prog 40 Try.f40 (Try.f40.body.getD .skip) := fnOK_of fns_ok 40 _ _ (by kernel_rfl) Try.func40 rfl
theorem ok44 : FnOK Try.prog 44 Try.f44 (Try.f44.body.getD .skip) := fnOK_of fns_ok 44 _ _ (by kernel_rfl) Try.func44 rfl
theorem ok45 : FnOK Try.prog 45 Try.f45 (Try.f45.body.getD .skip) := fnOK_of fns_ok 45 _ _ (by kernel_rfl) Try.func45 rfl
theorem ok46 : FnOK Try.prog 46 Try.f46 (Try.f46.body.getD .skip) := fnOK_of fns_ok 46 _ _ (by kernel_rfl) Try.func46 rfl
theorem ok47 : FnOK Try.prog 47 Try.f47 (Try.f47.body.getD .skip) := fnOK_of fns_ok 47 _ _ (by kernel_rfl) Try.func47 rfl
theorem ok48 : FnOK Try.prog 48 Try.f48 (Try.f48.body.getD .skip) := fnOK_of fns_ok 48 _ _ (by kernel_rfl) Try.func48 rfl
theorem ok49 : FnOK Try.prog 49 Try.f49 (Try.f49.body.getD .skip) := fnOK_of fns_ok 49 _ _ (by kernel_rfl) Try.func49 rfl
theorem ok50 : FnOK Try.prog 50 Try.f50 (Try.f50.body.getD .skip) := fnOK_of fns_ok 50 _ _ (by kernel_rfl) Try.func50 rfl
theorem ok51 : FnOK Try.prog 51 Try.f51 (Try.f51.body.getD .skip) := fnOK_of fns_ok 51 _ _ (by kernel_rfl) Try.func51 rfl
theorem ok52 : FnOK Try.prog 52 Try.f52 (Try.f52.body.getD .skip) := fnOK_of fns_ok 52 _ _ (by kernel_rfl) Try.func52 rfl
theorem ok53 : FnOK Try.prog 53 Try.f53 (Try.f53.body.getD .skip) := fnOK_of fns_ok 53 _ _ (by kernel_rfl) Try.func53 rfl
theorem ok54 : FnOK Try.prog 54 Try.f54 (Try.f54.body.getD .skip) := fnOK_of fns_ok 54 _ _ (by kernel_rfl) Try.func54 rfl
theorem ok58 : FnOK Try.prog 58 Try.f58 (Try.f58.body.getD .skip) := fnOK_of fns_ok 58 _ _ (by kernel_rfl) Try.func58 rfl
theorem ok59 : FnOK Try.prog 59 Try.f59 (Try.f59.body.getD .skip) := fnOK_of fns_ok 59 _ _ (by kernel_rfl) Try.func59 rfl
theorem ok60 : FnOK Try.prog 60 Try.f60 (Try.f60.body.getD .skip) := fnOK_of fns_ok 60 _ _ (by kernel_rfl) Try.func60 rfl
theorem ok61 : FnOK Try.prog 61 Try.f61 (Try.f61.body.getD .skip) := fnOK_of fns_ok 61 _ _ (by kernel_rfl) Try.func61 rfl
theorem ok62 : FnOK Try.prog 62 Try.f62 (Try.f62.body.getD .skip) := fnOK_of fns_ok 62 _ _ (by kernel_rfl) Try.func62 rfl
theorem ok63 : FnOK Try.prog 63 Try.f63 (Try.f63.body.getD .skip) := fnOK_of fns_ok 63 _ _ (by kernel_rfl) Try.func63 rfl
theorem ok64 : FnOK Try.prog 64 Try.f64 (Try.f64.body.getD .skip) := fnOK_of fns_ok 64 _ _ (by kernel_rfl) Try.func64 rfl
theorem ok65 : FnOK Try.prog 65 Try.f65 (Try.f65.body.getD .skip) := fnOK_of fns_ok 65 _ _ (by kernel_rfl) Try.func65 rfl
theorem ok66 : FnOK Try.prog 66 Try.f66 (Try.f66.body.getD .skip) := fnOK_of fns_ok 66 _ _ (by kernel_rfl) Try.func66 rfl
theorem ok67 : FnOK Try.prog 67 Try.f67 (Try.f67.body.getD .skip) := fnOK_of fns_ok 67 _ _ (by kernel_rfl) Try.func67 rfl
theorem ok68 : FnOK Try.prog 68 Try.f68 (Try.f68.body.getD .skip) := fnOK_of fns_ok 68 _ _ (by kernel_rfl) Try.func68 rfl
theorem ok69 : FnOK Try.prog 69 Try.f69 (Try.f69.body.getD .skip) := fnOK_of fns_ok 69 _ _ (by kernel_rfl) Try.func69 rfl
theorem ok70 : FnOK Try.prog 70 Try.f70 (Try.f70.body.getD .skip) := fnOK_of fns_ok 70 _ _ (by kernel_rfl) Try.func70 rfl
theorem ok71 : FnOK Try.prog 71 Try.f71 (Try.f71.body.getD .skip) := fnOK_of fns_ok 71 _ _ (by kernel_rfl) Try.func71 rfl
theorem ok72 : FnOK Try.prog 72 Try.f72 (Try.f72.body.getD .skip) := fnOK_of fns_ok 72 _ _ (by kernel_rfl) Try.func72 rfl
theorem ok73 : FnOK Try.prog 73 Try.f73 (Try.f73.body.getD .skip) := fnOK_of fns_ok 73 _ _ (by kernel_rfl) Try.func73 rfl
theorem ok74 : FnOK Try.prog 74 Try.f74 (Try.f74.body.getD .skip) := fnOK_of fns_ok 74 _ _ (by kernel_rfl) Try.func74 rfl
theorem ok75 : FnOK Try.prog 75 Try.f75 (Try.f75.body.getD .skip) := fnOK_of fns_ok 75 _ _ (by kernel_rfl) Try.func75 rfl
theorem ok76 : FnOK Try.prog 76 Try.f76 (Try.f76.body.getD .skip) := fnOK_of fns_ok 76 _ _ (by kernel_rfl) Try.func76 rfl
theorem ok77 : FnOK Try.prog 77 Try.f77 (Try.f77.body.getD .skip) := fnOK_of fns_ok 77 _ _ (by kernel_rfl) Try.func77 rfl
theorem ok78 : FnOK Try.prog 78 Try.f78 (Try.f78.body.getD .skip) := fnOK_of fns_ok 78 _ _ (by kernel_rfl) Try.func78 rfl
theorem ok80 : FnOK Try.prog 80 Try.f80 (Try.f80.body.getD .skip) := fnOK_of fns_ok 80 _ _ (by kernel_rfl) Try.func80 rfl
theorem ok81 : FnOK Try.prog 81 Try.f81 (Try.f81.body.getD .skip) := fnOK_of fns_ok 81 _ _ (by kernel_rfl) Try.func81 rfl
theorem ok82 : FnOK Try.prog 82 Try.f82 (Try.f82.body.getD .skip) := fnOK_of fns_ok 82 _ _ (by kernel_rfl) Try.func82 rfl
theorem ok83 : FnOK Try.prog 83 Try.f83 (Try.f83.body.getD .skip) := fnOK_of fns_ok 83 _ _ (by kernel_rfl) Try.func83 rfl
theorem ok84 : FnOK Try.prog 84 Try.f84 (Try.f84.body.getD .skip) := fnOK_of fns_ok 84 _ _ (by kernel_rfl) Try.func84 rfl
theorem ok87 : FnOK Try.prog 87 Try.f87 (Try.f87.body.getD .skip) := fnOK_of fns_ok 87 _ _ (by kernel_rfl) Try.func87 rfl
theorem ok90 : FnOK Try.prog 90 Try.f90 (Try.f90.body.getD .skip) := fnOK_of fns_ok 90 _ _ (by kernel_rfl) Try.func90 rfl
theorem ok92 : FnOK Try.prog 92 Try.f92 (Try.f92.body.getD .skip) := fnOK_of fns_ok 92 _ _ (by kernel_rfl) Try.func92 rfl
theorem ok93 : FnOK Try.prog 93 Try.f93 (Try.f93.body.getD .skip) := fnOK_of fns_ok 93 _ _ (by kernel_rfl) Try.func93 rfl
theorem ok97 : FnOK Try.prog 97 Try.f97 (Try.f97.body.getD .skip) := fnOK_of fns_ok 97 _ _ (by kernel_rfl) Try.func97 rfl
theorem ok98 : FnOK Try.prog 98 Try.f98 (Try.f98.body.getD .skip) := fnOK_of fns_ok 98 _ _ (by kernel_rfl) Try.func98 rfl
theorem ok99 : FnOK Try.prog 99 Try.f99 (Try.f99.body.getD .skip) := fnOK_of fns_ok 99 _ _ (by kernel_rfl) Try.func99 rfl
theorem ok100 : FnOK Try.prog 100 Try.f100 (Try.f100.body.getD .skip) := fnOK_of fns_ok 100 _ _ (by kernel_rfl) Try.func100 rfl
theorem ok102 : FnOK Try.prog 102 Try.f102 (Try.f102.body.getD .skip) := fnOK_of fns_ok 102 _ _ (by kernel_rfl) Try.func102 rfl
theorem ok103 : FnOK Try.prog 103 Try.f103 (Try.f103.body.getD .skip) := fnOK_of fns_ok 103 _ _ (by kernel_rfl) Try.func103 rfl
theorem ok109 : FnOK Try.prog 109 Try.f109 (Try.f109.body.getD .skip) := fnOK_of fns_ok 109 _ _ (by kernel_rfl) Try.func109 rfl
theorem ok110 : FnOK Try.prog 110 Try.f110 (Try.f110.body.getD .skip) := fnOK_of fns_ok 110 _ _ (by kernel_rfl) Try.func110 rfl
theorem ok114 : FnOK Try.prog 114 Try.f114 (Try.f114.body.getD .skip) := fnOK_of fns_ok 114 _ _ (by kernel_rfl) Try.func114 rfl
theorem ok116 : FnOK Try.prog 116 Try.f116 (Try.f116.body.getD .skip) := fnOK_of fns_ok 116 _ _ (by kernel_rfl) Try.func116 rfl
theorem ok117 : FnOK Try.prog 117 Try.f117 (Try.f117.body.getD .skip) := fnOK_of fns_ok 117 _ _ (by kernel_rfl) Try.func117 rfl
theorem ff_4 : type_of% (And.intro (And.intro (And.intro (And.intro (And.intro @agg_3 @agg_22) (And.intro @agg_23 (And.intro @agg_25 @agg_26))) (And.intro (And.intro @agg_47 (And.intro @agg_60 @agg_65)) (And.intro @csz_3 (And.intro @csz_22 @csz_23)))) (And.intro (And.intro (And.intro @csz_25 @csz_26) (And.intro @csz_47 (And.intro @csz_60 @csz_65))) (And.intro (And.intro @eapp_26_26 (And.intro @eapp_31_31 @ebs_26_0)) (And.intro @ebs_26_1 (And.intro @ebs_26_2 @ebs_31_0))))) (And.intro (And.intro (And.intro (And.intro @ebs_31_1 @esz_23) (And.intro @esz_26 (And.intro @esz_31 @esz_66))) (And.intro (And.intro @fofs_25_1 (And.intro @fofs_25_2 @fofs_65_0)) (And.intro @grt_26_26 (And.intro @grt_31_31 @isz_47)))) (And.intro (And.intro (And.intro @isz_60 @isz_65) (And.intro @und_3 (And.intro @undT_22 @undT_23))) (And.intro (And.intro @undT_26 (And.intro @undT_31 @undT_66)) (And.intro @zeroT_47 (And.intro @zeroT_60 @zeroT_65)))))) := And.intro (And.intro (And.intro (And.intro (And.intro @agg_3 @agg_22) (And.intro @agg_23 (And.intro @agg_25 @agg_26))) (And.intro (And.intro @agg_47 (And.intro @agg_60 @agg_65)) (And.intro @csz_3 (And.intro @csz_22 @csz_23)))) (And.intro (And.intro (And.intro @csz_25 @csz_26) (And.intro @csz_47 (And.intro @csz_60 @csz_65))) (And.intro (And.intro @eapp_26_26 (And.intro @eapp_31_31 @ebs_26_0)) (And.intro @ebs_26_1 (And.intro @ebs_26_2 @ebs_31_0))))) (And.intro (And.intro (And.intro (And.intro @ebs_31_1 @esz_23) (And.intro @esz_26 (And.intro @esz_31 @esz_66))) (And.intro (And.intro @fofs_25_1 (And.intro @fofs_25_2 @fofs_65_0)) (And.intro @grt_26_26 (And.intro @grt_31_31 @isz_47)))) (And.intro (And.intro (And.intro @isz_60 @isz_65) (And.intro @und_3 (And.intro @undT_22 @undT_23))) (And.intro (And.intro @undT_26 (And.intro @undT_31 @undT_66)) (And.intro @zeroT_47 (And.intro @zeroT_60 @zeroT_65)))))
theorem ff_8 : type_of% (And.intro (And.intro @agg_23 (And.intro @agg_25 @csz_23)) (And.intro @csz_25 (And.intro @fofs_25_2 @undT_23))) := And.intro (And.intro @agg_23 (And.intro @agg_25 @csz_23)) (And.intro @csz_25 (And.intro @fofs_25_2 @undT_23))
theorem ff_9 : type_of% (And.intro (And.intro (And.intro (And.intro (And.intro @agg_3 @agg_22) (And.intro @agg_23 @agg_25)) (And.intro (And.intro @agg_26 @agg_45) (And.intro @agg_65 @agg_84))) (And.intro (And.intro (And.intro @csz_3 @csz_22) (And.intro @csz_23 @csz_25)) (And.intro (And.intro @csz_26 @csz_45) (And.intro @csz_65 (And.intro @csz_84 @eapp_45_45))))) (And.intro (And.intro (And.intro (And.intro @ebd_44 @ebd_86) (And.intro @ebs_45_1 @emk_84)) (And.intro (And.intro @esz_23 @esz_26) (And.intro @esz_84 (And.intro @fofs_25_1 @fofs_25_2)))) (And.intro (And.intro (And.intro @fofs_65_1 @fofs_86_1) (And.intro @grt_45_45 @isz_45)) (And.intro (And.intro @isz_65 @undT_22) (And.intro @undT_23 (And.intro @undT_26 @zeroT_65)))))) := And.intro (And.intro (And.intro (And.intro (And.intro @agg_3 @agg_22) (And.intro @agg_23 @agg_25)) (And.intro (And.intro @agg_26 @agg_45) (And.intro @agg_65 @agg_84))) (And.intro (And.intro (And.intro @csz_3 @csz_22) (And.intro @csz_23 @csz_25)) (And.intro (And.intro @csz_26 @csz_45) (And.intro @csz_65 (And.intro @csz_84 @eapp_45_45))))) (And.intro (And.intro (And.intro (And.intro @ebd_44 @ebd_86) (And.intro @ebs_45_1 @emk_84)) (And.intro (And.intro @esz_23 @esz_26) (And.intro @esz_84 (And.intro @fofs_25_1 @fofs_25_2)))) (And.intro (And.intro (And.intro @fofs_65_1 @fofs_86_1) (And.intro @grt_45_45 @isz_45)) (And.intro (And.intro @isz_65 @undT_22) (And.intro @undT_23 (And.intro @undT_26 @zeroT_65)))))
theorem ff_10 : type_of% (And.intro (And.intro (And.intro @agg_22 (And.intro @agg_25 @csz_22)) (And.intro @csz_25 (And.intro @eapp_31_31 @ebd_44))) (And.intro (And.intro @ebd_47 (And.intro @ebs_31_1 @fofs_25_1)) (And.intro @fofs_86_0 (And.intro @grt_31_31 @undT_22)))) := And.intro (And.intro (And.intro @agg_22 (And.intro @agg_25 @csz_22)) (And.intro @csz_25 (And.intro @eapp_31_31 @ebd_44))) (And.intro (And.intro @ebd_47 (And.intro @ebs_31_1 @fofs_25_1)) (And.intro @fofs_86_0 (And.intro @grt_31_31 @undT_22)))
theorem ff_13 : type_of% (And.intro (And.intro (And.intro @agg_29 (And.intro @agg_31 @agg_47)) (And.intro (And.intro @csz_29 @csz_31) (And.intro @csz_47 @ebd_92))) (And.intro (And.intro @esz_31 (And.intro @fofs_92_1 @fofs_92_2)) (And.intro (And.intro @isz_31 @isz_47) (And.intro @undT_31 @zeroT_47)))) := And.intro (And.intro (And.intro @agg_29 (And.intro @agg_31 @agg_47)) (And.intro (And.intro @csz_29 @csz_31) (And.intro @csz_47 @ebd_92))) (And.intro (And.intro @esz_31 (And.intro @fofs_92_1 @fofs_92_2)) (And.intro (And.intro @isz_31 @isz_47) (And.intro @undT_31 @zeroT_47)))
theorem ff_16 : type_of% (And.intro (And.intro (And.intro @agg_3 (And.intro @agg_47 @csz_3)) (And.intro @csz_47 (And.intro @eapp_26_26 @ebs_26_1))) (And.intro (And.intro @esz_31 (And.intro @fofs_47_0 @grt_26_26)) (And.intro @isz_47 (And.intro @undT_31 @zeroT_47)))) := And.intro (And.intro (And.intro @agg_3 (And.intro @agg_47 @csz_3)) (And.intro @csz_47 (And.intro @eapp_26_26 @ebs_26_1))) (And.intro (And.intro @esz_31 (And.intro @fofs_47_0 @grt_26_26)) (And.intro @isz_47 (And.intro @undT_31 @zeroT_47)))
theorem ff_18 : type_of% (And.intro (And.intro (And.intro (And.intro @agg_3 @agg_23) (And.intro @agg_26 @csz_3)) (And.intro (And.intro @csz_23 @csz_26) (And.intro @esz_23 @esz_26))) (And.intro (And.intro (And.intro @fofs_25_2 @fofs_44_0) (And.intro @fofs_44_1 @fofs_47_1)) (And.intro (And.intro @fofs_65_1 @fofs_86_0) (And.intro @und_3 @undT_26)))) := And.intro (And.intro (And.intro (And.intro @agg_3 @agg_23) (And.intro @agg_26 @csz_3)) (And.intro (And.intro @csz_23 @csz_26) (And.intro @esz_23 @esz_26))) (And.intro (And.intro (And.intro @fofs_25_2 @fofs_44_0) (And.intro @fofs_44_1 @fofs_47_1)) (And.intro (And.intro @fofs_65_1 @fofs_86_0) (And.intro @und_3 @undT_26)))
theorem ff_20 : type_of% (And.intro (And.intro (And.intro @agg_3 @agg_44) (And.intro @agg_45 (And.intro @csz_3 @csz_44))) (And.intro (And.intro @csz_45 @ebs_26_3) (And.intro @fofs_47_0 (And.intro @fofs_47_1 @fofs_47_2)))) := And.intro (And.intro (And.intro @agg_3 @agg_44) (And.intro @agg_45 (And.intro @csz_3 @csz_44))) (And.intro (And.intro @csz_45 @ebs_26_3) (And.intro @fofs_47_0 (And.intro @fofs_47_1 @fofs_47_2)))
theorem ff_21 : type_of% (And.intro (And.intro (And.intro (And.intro @agg_3 @agg_45) (And.intro @agg_47 (And.intro @csz_3 @csz_45))) (And.intro (And.intro @csz_47 @eapp_31_31) (And.intro @ebd_44 (And.intro @ebd_47 @ebs_31_1)))) (And.intro (And.intro (And.intro @esz_31 @fofs_44_0) (And.intro @fofs_44_1 (And.intro @fofs_47_0 @fofs_47_1))) (And.intro (And.intro @fofs_47_2 (And.intro @grt_31_31 @isz_47)) (And.intro @und_3 (And.intro @undT_31 @zeroT_47))))) := And.intro (And.intro (And.intro (And.intro @agg_3 @agg_45) (And.intro @agg_47 (And.intro @csz_3 @csz_45))) (And.intro (And.intro @csz_47 @eapp_31_31) (And.intro @ebd_44 (And.intro @ebd_47 @ebs_31_1)))) (And.intro (And.intro (And.intro @esz_31 @fofs_44_0) (And.intro @fofs_44_1 (And.intro @fofs_47_0 @fofs_47_1))) (And.intro (And.intro @fofs_47_2 (And.intro @grt_31_31 @isz_47)) (And.intro @und_3 (And.intro @undT_31 @zeroT_47))))
theorem ff_23 : type_of% (And.intro (And.intro (And.intro (And.intro (And.intro @agg_3 @agg_22) (And.intro @agg_23 (And.intro @agg_26 @agg_58))) (And.intro (And.intro @agg_60 @agg_65) (And.intro @agg_66 (And.intro @csz_3 @csz_22)))) (And.intro (And.intro (And.intro @csz_23 @csz_26) (And.intro @csz_58 (And.intro @csz_60 @csz_65))) (And.intro (And.intro @csz_66 @eapp_58_58) (And.intro @ebd_60 (And.intro @ebs_26_0 @ebs_58_1))))) (And.intro (And.intro (And.intro (And.intro @ebs_66_0 @ebs_66_1) (And.intro @esz_23 (And.intro @esz_26 @esz_58))) (And.intro (And.intro @fofs_25_1 @fofs_25_2) (And.intro @fofs_60_1 (And.intro @fofs_60_2 @fofs_65_0)))) (And.intro (And.intro (And.intro @fofs_65_1 @grt_58_58) (And.intro @isz_58 (And.intro @isz_60 @isz_65))) (And.intro (And.intro @isz_66 (And.intro @undT_22 @undT_23)) (And.intro @undT_26 (And.intro @zeroT_60 @zeroT_65)))))) := And.intro (And.intro (And.intro (And.intro (And.intro @agg_3 @agg_22) (And.intro @agg_23 (And.intro @agg_26 @agg_58))) (And.intro (And.intro @agg_60 @agg_65) (And.intro @agg_66 (And.intro @csz_3 @csz_22)))) (And.intro (And.intro (And.intro @csz_23 @csz_26) (And.intro @csz_58 (And.intro @csz_60 @csz_65))) (And.intro (And.intro @csz_66 @eapp_58_58) (And.intro @ebd_60 (And.intro @ebs_26_0 @ebs_58_1))))) (And.intro (And.intro (And.intro (And.intro @ebs_66_0 @ebs_66_1) (And.intro @esz_23 (And.intro @esz_26 @esz_58))) (And.intro (And.intro @fofs_25_1 @fofs_25_2) (And.intro @fofs_60_1 (And.intro @fofs_60_2 @fofs_65_0)))) (And.intro (And.intro (And.intro @fofs_65_1 @grt_58_58) (And.intro @isz_58 (And.intro @isz_60 @isz_65))) (And.intro (And.intro @isz_66 (And.intro @undT_22 @undT_23)) (And.intro @undT_26 (And.intro @zeroT_60 @zeroT_65)))))
theorem ff_24 : type_of% (And.intro (And.intro (And.intro (And.intro @agg_3 @agg_23) (And.intro @agg_26 @agg_58)) (And.intro (And.intro @agg_60 @agg_66) (And.intro @csz_3 (And.intro @csz_23 @csz_26)))) (And.intro (And.intro (And.intro @csz_58 @csz_60) (And.intro @csz_66 @esz_23)) (And.intro (And.intro @esz_58 @fofs_25_2) (And.intro @fofs_60_2 (And.intro @fofs_65_0 @fofs_65_1))))) := And.intro (And.intro (And.intro (And.intro @agg_3 @agg_23) (And.intro @agg_26 @agg_58)) (And.intro (And.intro @agg_60 @agg_66) (And.intro @csz_3 (And.intro @csz_23 @csz_26)))) (And.intro (And.intro (And.intro @csz_58 @csz_60) (And.intro @csz_66 @esz_23)) (And.intro (And.intro @esz_58 @fofs_25_2) (And.intro @fofs_60_2 (And.intro @fofs_65_0 @fofs_65_1))))
theorem ff_25 : type_of% (And.intro (And.intro @agg_3 @csz_3) (And.intro @esz_26 (And.intro @und_3 @undT_26))) := And.intro (And.intro @agg_3 @csz_3) (And.intro @esz_26 (And.intro @und_3 @undT_26))
theorem ff_32 : type_of% (And.intro (And.intro (And.intro @agg_22 (And.intro @agg_23 @agg_26)) (And.intro (And.intro @csz_22 @csz_23) (And.intro @csz_26 @esz_23))) (And.intro (And.intro @fofs_25_0 (And.intro @fofs_25_1 @fofs_25_2)) (And.intro (And.intro @fofs_65_1 @undT_22) (And.intro @undT_23 @undT_26)))) := And.intro (And.intro (And.intro @agg_22 (And.intro @agg_23 @agg_26)) (And.intro (And.intro @csz_22 @csz_23) (And.intro @csz_26 @esz_23))) (And.intro (And.intro @fofs_25_0 (And.intro @fofs_25_1 @fofs_25_2)) (And.intro (And.intro @fofs_65_1 @undT_22) (And.intro @undT_23 @undT_26)))
theorem ff_33 : type_of% (And.intro (And.intro (And.intro @agg_9 (And.intro @agg_22 @agg_23)) (And.intro (And.intro @agg_25 @csz_9) (And.intro @csz_22 @csz_23))) (And.intro (And.intro (And.intro @csz_25 @esz_22) (And.intro @fofs_25_0 @fofs_25_1)) (And.intro (And.intro @fofs_25_2 @und_3) (And.intro @undT_22 @undT_23)))) := And.intro (And.intro (And.intro @agg_9 (And.intro @agg_22 @agg_23)) (And.intro (And.intro @agg_25 @csz_9) (And.intro @csz_22 @csz_23))) (And.intro (And.intro (And.intro @csz_25 @esz_22) (And.intro @fofs_25_0 @fofs_25_1)) (And.intro (And.intro @fofs_25_2 @und_3) (And.intro @undT_22 @undT_23)))
theorem ff_34 : type_of% (And.intro (And.intro (And.intro @agg_3 (And.intro @agg_4 @agg_23)) (And.intro (And.intro @agg_25 @agg_65) (And.intro @csz_3 @csz_4))) (And.intro (And.intro @csz_23 (And.intro @csz_25 @csz_65)) (And.intro (And.intro @esz_23 @esz_114) (And.intro @fofs_25_2 @fofs_65_0)))) := And.intro (And.intro (And.intro @agg_3 (And.intro @agg_4 @agg_23)) (And.intro (And.intro @agg_25 @agg_65) (And.intro @csz_3 @csz_4))) (And.intro (And.intro @csz_23 (And.intro @csz_25 @csz_65)) (And.intro (And.intro @esz_23 @esz_114) (And.intro @fofs_25_2 @fofs_65_0)))
theorem ff_36 : type_of% (And.intro (And.intro (And.intro @agg_3 @agg_23) (And.intro @csz_3 @csz_23)) (And.intro (And.intro @esz_23 @fofs_25_2) (And.intro @fofs_65_0 (And.intro @und_3 @undT_23)))) := And.intro (And.intro (And.intro @agg_3 @agg_23) (And.intro @csz_3 @csz_23)) (And.intro (And.intro @esz_23 @fofs_25_2) (And.intro @fofs_65_0 (And.intro @und_3 @undT_23)))
theorem ff_37 : type_of% (And.intro (And.intro (And.intro (And.intro @agg_3 @agg_31) (And.intro @agg_45 @agg_47)) (And.intro (And.intro @csz_3 @csz_31) (And.intro @csz_45 (And.intro @csz_47 @eapp_31_31)))) (And.intro (And.intro (And.intro @ebs_31_1 @fofs_47_2) (And.intro @fofs_92_1 (And.intro @fofs_92_2 @fofs_92_3))) (And.intro (And.intro @fofs_92_4 @grt_31_31) (And.intro @isz_31 (And.intro @undT_31 @undT_45))))) := And.intro (And.intro (And.intro (And.intro @agg_3 @agg_31) (And.intro @agg_45 @agg_47)) (And.intro (And.intro @csz_3 @csz_31) (And.intro @csz_45 (And.intro @csz_47 @eapp_31_31)))) (And.intro (And.intro (And.intro @ebs_31_1 @fofs_47_2) (And.intro @fofs_92_1 (And.intro @fofs_92_2 @fofs_92_3))) (And.intro (And.intro @fofs_92_4 @grt_31_31) (And.intro @isz_31 (And.intro @undT_31 @undT_45))))
theorem ff_38 : type_of% (And.intro (And.intro (And.intro (And.intro (And.intro @agg_3 @agg_23) (And.intro @agg_25 @agg_26)) (And.intro (And.intro @agg_29 @agg_45) (And.intro @agg_47 @csz_3))) (And.intro (And.intro (And.intro @csz_23 @csz_25) (And.intro @csz_26 @csz_29)) (And.intro (And.intro @csz_45 @csz_47) (And.intro @eapp_45_45 @ebd_44)))) (And.intro (And.intro (And.intro (And.intro @ebd_47 @ebs_45_1) (And.intro @esz_23 @esz_26)) (And.intro (And.intro @fofs_25_2 @fofs_44_0) (And.intro @fofs_44_1 @fofs_47_0))) (And.intro (And.intro (And.intro @fofs_47_1 @fofs_47_2) (And.intro @fofs_65_1 @fofs_86_0)) (And.intro (And.intro @fofs_92_0 @grt_45_45) (And.intro @und_3 (And.intro @undT_26 @undT_45)))))) := And.intro (And.intro (And.intro (And.intro (And.intro @agg_3 @agg_23) (And.intro @agg_25 @agg_26)) (And.intro (And.intro @agg_29 @agg_45) (And.intro @agg_47 @csz_3))) (And.intro (And.intro (And.intro @csz_23 @csz_25) (And.intro @csz_26 @csz_29)) (And.intro (And.intro @csz_45 @csz_47) (And.intro @eapp_45_45 @ebd_44)))) (And.intro (And.intro (And.intro (And.intro @ebd_47 @ebs_45_1) (And.intro @esz_23 @esz_26)) (And.intro (And.intro @fofs_25_2 @fofs_44_0) (And.intro @fofs_44_1 @fofs_47_0))) (And.intro (And.intro (And.intro @fofs_47_1 @fofs_47_2) (And.intro @fofs_65_1 @fofs_86_0)) (And.intro (And.intro @fofs_92_0 @grt_45_45) (And.intro @und_3 (And.intro @undT_26 @undT_45)))))
theorem ff_39 : type_of% (And.intro (And.intro @agg_47 (And.intro @csz_47 @esz_31)) (And.intro (And.intro @isz_47 @und_3) (And.intro @undT_31 @zeroT_47))) := And.intro (And.intro @agg_47 (And.intro @csz_47 @esz_31)) (And.intro (And.intro @isz_47 @und_3) (And.intro @undT_31 @zeroT_47))
theorem ff_40 : type_of% (And.intro (And.intro @agg_29 @agg_47) (And.intro @csz_29 (And.intro @csz_47 @und_3))) := And.intro (And.intro @agg_29 @agg_47) (And.intro @csz_29 (And.intro @csz_47 @und_3))
theorem ff_44 : type_of% (And.intro (And.intro @agg_3 @csz_3) (And.intro @esz_26 (And.intro @und_3 @undT_26))) := And.intro (And.intro @agg_3 @csz_3) (And.intro @esz_26 (And.intro @und_3 @undT_26))
theorem ff_46 : type_of% (And.intro @und_3 (And.intro @und_124 @undT_26)) := And.intro @und_3 (And.intro @und_124 @undT_26)
theorem ff_47 : type_of% (And.intro (And.intro @agg_3 @csz_3) (And.intro @esz_26 (And.intro @und_3 @undT_26))) := And.intro (And.intro @agg_3 @csz_3) (And.intro @esz_26 (And.intro @und_3 @undT_26))
theorem ff_49 : type_of% (And.intro (And.intro @agg_3 @csz_3) (And.intro @ebs_26_2 (And.intro @fofs_44_0 @fofs_44_1))) := And.intro (And.intro @agg_3 @csz_3) (And.intro @ebs_26_2 (And.intro @fofs_44_0 @fofs_44_1))
theorem ff_50 : type_of% (And.intro (And.intro @agg_44 (And.intro @csz_44 @esz_45)) (And.intro (And.intro @isz_44 @und_3) (And.intro @undT_45 @zeroT_44))) := And.intro (And.intro @agg_44 (And.intro @csz_44 @esz_45)) (And.intro (And.intro @isz_44 @und_3) (And.intro @undT_45 @zeroT_44))
theorem ff_51 : type_of% (And.intro (And.intro @eapp_45_45 @ebs_45_0) (And.intro @grt_45_45 @und_45)) := And.intro (And.intro @eapp_45_45 @ebs_45_0) (And.intro @grt_45_45 @und_45)
theorem ff_52 : type_of% (And.intro (And.intro (And.intro @agg_58 @agg_66) (And.intro @csz_58 @csz_66)) (And.intro (And.intro @esz_58 @fofs_60_1) (And.intro @fofs_60_2 (And.intro @undT_58 @undT_66)))) := And.intro (And.intro (And.intro @agg_58 @agg_66) (And.intro @csz_58 @csz_66)) (And.intro (And.intro @esz_58 @fofs_60_1) (And.intro @fofs_60_2 (And.intro @undT_58 @undT_66)))
theorem ff_53 : type_of% (And.intro (And.intro @agg_26 @csz_26) (And.intro @esz_66 @undT_66)) := And.intro (And.intro @agg_26 @csz_26) (And.intro @esz_66 @undT_66)
theorem ff_54 : type_of% (And.intro (And.intro (And.intro @agg_3 (And.intro @agg_58 @agg_66)) (And.intro (And.intro @csz_3 @csz_58) (And.intro @csz_66 @ebs_26_0))) (And.intro (And.intro @ebs_26_1 (And.intro @ebs_66_1 @esz_26)) (And.intro (And.intro @esz_58 @fofs_60_0) (And.intro @fofs_60_1 @undT_26)))) := And.intro (And.intro (And.intro @agg_3 (And.intro @agg_58 @agg_66)) (And.intro (And.intro @csz_3 @csz_58) (And.intro @csz_66 @ebs_26_0))) (And.intro (And.intro @ebs_26_1 (And.intro @ebs_66_1 @esz_26)) (And.intro (And.intro @esz_58 @fofs_60_0) (And.intro @fofs_60_1 @undT_26)))
theorem ff_58 : type_of% (And.intro @und_9 @undT_9) := And.intro @und_9 @undT_9
theorem ff_59 : type_of% (And.intro (And.intro @agg_9 @csz_9) (And.intro @esz_22 (And.intro @und_9 @undT_22))) := And.intro (And.intro @agg_9 @csz_9) (And.intro @esz_22 (And.intro @und_9 @undT_22))
theorem ff_60 : type_of% (And.intro @und_9 @undT_9) := And.intro @und_9 @undT_9
theorem ff_61 : type_of% (And.intro (And.intro (And.intro (And.intro @agg_3 (And.intro @agg_22 @agg_23)) (And.intro @agg_26 (And.intro @agg_63 @agg_65))) (And.intro (And.intro @csz_3 (And.intro @csz_22 @csz_23)) (And.intro @csz_26 (And.intro @csz_63 @csz_65)))) (And.intro (And.intro (And.intro @esz_23 (And.intro @esz_26 @fofs_25_0)) (And.intro @fofs_25_1 (And.intro @fofs_25_2 @fofs_65_0))) (And.intro (And.intro @fofs_65_1 (And.intro @fofs_65_2 @isz_65)) (And.intro (And.intro @und_3 @undT_22) (And.intro @undT_26 @zeroT_65))))) := And.intro (And.intro (And.intro (And.intro @agg_3 (And.intro @agg_22 @agg_23)) (And.intro @agg_26 (And.intro @agg_63 @agg_65))) (And.intro (And.intro @csz_3 (And.intro @csz_22 @csz_23)) (And.intro @csz_26 (And.intro @csz_63 @csz_65)))) (And.intro (And.intro (And.intro @esz_23 (And.intro @esz_26 @fofs_25_0)) (And.intro @fofs_25_1 (And.intro @fofs_25_2 @fofs_65_0))) (And.intro (And.intro @fofs_65_1 (And.intro @fofs_65_2 @isz_65)) (And.intro (And.intro @und_3 @undT_22) (And.intro @undT_26 @zeroT_65))))
theorem ff_62 : type_of% (And.intro (And.intro (And.intro @agg_3 @agg_23) (And.intro @csz_3 @csz_23)) (And.intro (And.intro @esz_23 @fofs_25_2) (And.intro @fofs_65_0 (And.intro @und_3 @undT_23)))) := And.intro (And.intro (And.intro @agg_3 @agg_23) (And.intro @csz_3 @csz_23)) (And.intro (And.intro @esz_23 @fofs_25_2) (And.intro @fofs_65_0 (And.intro @und_3 @undT_23)))
theorem ff_63 : type_of% (And.intro (And.intro (And.intro @agg_3 (And.intro @agg_23 @agg_26)) (And.intro @csz_3 (And.intro @csz_23 @csz_26))) (And.intro (And.intro @esz_23 (And.intro @esz_26 @fofs_25_2)) (And.intro (And.intro @fofs_65_1 @und_3) (And.intro @undT_23 @undT_26)))) := And.intro (And.intro (And.intro @agg_3 (And.intro @agg_23 @agg_26)) (And.intro @csz_3 (And.intro @csz_23 @csz_26))) (And.intro (And.intro @esz_23 (And.intro @esz_26 @fofs_25_2)) (And.intro (And.intro @fofs_65_1 @und_3) (And.intro @undT_23 @undT_26)))
theorem ff_64 : type_of% (And.intro (And.intro (And.intro (And.intro @agg_3 (And.intro @agg_4 @agg_22)) (And.intro (And.intro @agg_23 @agg_25) (And.intro @agg_26 @agg_65))) (And.intro (And.intro @csz_3 (And.intro @csz_4 @csz_22)) (And.intro (And.intro @csz_23 @csz_25) (And.intro @csz_26 @csz_65)))) (And.intro (And.intro (And.intro @emk_114 (And.intro @esz_23 @esz_26)) (And.intro (And.intro @esz_114 @fofs_25_1) (And.intro @fofs_25_2 @fofs_65_0))) (And.intro (And.intro @fofs_65_1 (And.intro @isz_4 @isz_65)) (And.intro (And.intro @undT_22 @undT_23) (And.intro @undT_26 @zeroT_65))))) := And.intro (And.intro (And.intro (And.intro @agg_3 (And.intro @agg_4 @agg_22)) (And.intro (And.intro @agg_23 @agg_25) (And.intro @agg_26 @agg_65))) (And.intro (And.intro @csz_3 (And.intro @csz_4 @csz_22)) (And.intro (And.intro @csz_23 @csz_25) (And.intro @csz_26 @csz_65)))) (And.intro (And.intro (And.intro @emk_114 (And.intro @esz_23 @esz_26)) (And.intro (And.intro @esz_114 @fofs_25_1) (And.intro @fofs_25_2 @fofs_65_0))) (And.intro (And.intro @fofs_65_1 (And.intro @isz_4 @isz_65)) (And.intro (And.intro @undT_22 @undT_23) (And.intro @undT_26 @zeroT_65))))
theorem ff_65 : type_of% (And.intro (And.intro (And.intro @agg_3 @agg_4) (And.intro @agg_26 (And.intro @csz_3 @csz_4))) (And.intro (And.intro @csz_26 @esz_26) (And.intro @esz_114 (And.intro @fofs_65_1 @undT_26)))) := And.intro (And.intro (And.intro @agg_3 @agg_4) (And.intro @agg_26 (And.intro @csz_3 @csz_4))) (And.intro (And.intro @csz_26 @esz_26) (And.intro @esz_114 (And.intro @fofs_65_1 @undT_26)))
theorem ff_66 : type_of% (And.intro @agg_25 @csz_25) := And.intro @agg_25 @csz_25
theorem ff_67 : type_of% (And.intro @und_3 @und_124) := And.intro @und_3 @und_124
theorem ff_68 : type_of% (And.intro (And.intro @agg_3 (And.intro @agg_23 @csz_3)) (And.intro (And.intro @csz_23 @esz_23) (And.intro @fofs_25_2 @fofs_65_0))) := And.intro (And.intro @agg_3 (And.intro @agg_23 @csz_3)) (And.intro (And.intro @csz_23 @esz_23) (And.intro @fofs_25_2 @fofs_65_0))
theorem ff_69 : type_of% (And.intro (And.intro @agg_47 (And.intro @csz_47 @esz_31)) (And.intro @und_3 (And.intro @und_124 @undT_31))) := And.intro (And.intro @agg_47 (And.intro @csz_47 @esz_31)) (And.intro @und_3 (And.intro @und_124 @undT_31))
theorem ff_70 : type_of% (And.intro (And.intro @eapp_31_31 (And.intro @esz_31 @grt_31_3)) (And.intro @grt_31_31 (And.intro @und_3 @undT_31))) := And.intro (And.intro @eapp_31_31 (And.intro @esz_31 @grt_31_3)) (And.intro @grt_31_31 (And.intro @und_3 @undT_31))
theorem ff_71 : type_of% (And.intro (And.intro (And.intro (And.intro @agg_3 (And.intro @agg_23 @agg_29)) (And.intro (And.intro @agg_44 @agg_45) (And.intro @agg_84 @csz_3))) (And.intro (And.intro (And.intro @csz_23 @csz_29) (And.intro @csz_44 @csz_45)) (And.intro (And.intro @csz_84 @ebd_44) (And.intro @ebd_47 @esz_23)))) (And.intro (And.intro (And.intro @esz_45 (And.intro @esz_84 @fofs_25_2)) (And.intro (And.intro @fofs_44_0 @fofs_47_0) (And.intro @fofs_47_1 @fofs_47_2))) (And.intro (And.intro (And.intro @fofs_65_0 @fofs_86_0) (And.intro @fofs_86_1 @fofs_92_0)) (And.intro (And.intro @isz_44 @und_3) (And.intro @undT_45 @zeroT_44))))) := And.intro (And.intro (And.intro (And.intro @agg_3 (And.intro @agg_23 @agg_29)) (And.intro (And.intro @agg_44 @agg_45) (And.intro @agg_84 @csz_3))) (And.intro (And.intro (And.intro @csz_23 @csz_29) (And.intro @csz_44 @csz_45)) (And.intro (And.intro @csz_84 @ebd_44) (And.intro @ebd_47 @esz_23)))) (And.intro (And.intro (And.intro @esz_45 (And.intro @esz_84 @fofs_25_2)) (And.intro (And.intro @fofs_44_0 @fofs_47_0) (And.intro @fofs_47_1 @fofs_47_2))) (And.intro (And.intro (And.intro @fofs_65_0 @fofs_86_0) (And.intro @fofs_86_1 @fofs_92_0)) (And.intro (And.intro @isz_44 @und_3) (And.intro @undT_45 @zeroT_44))))
theorem ff_72 : type_of% (And.intro (And.intro @agg_47 @csz_47) (And.intro @esz_31 @undT_31)) := And.intro (And.intro @agg_47 @csz_47) (And.intro @esz_31 @undT_31)
theorem ff_73 : type_of% (And.intro (And.intro @agg_3 @csz_3) (And.intro @esz_26 (And.intro @und_3 @undT_26))) := And.intro (And.intro @agg_3 @csz_3) (And.intro @esz_26 (And.intro @und_3 @undT_26))
theorem ff_74 : type_of% (And.intro (And.intro @agg_3 @csz_3) (And.intro @esz_26 (And.intro @und_3 @und_135))) := And.intro (And.intro @agg_3 @csz_3) (And.intro @esz_26 (And.intro @und_3 @und_135))
theorem ff_75 : type_of% (And.intro @und_124 @und_143) := And.intro @und_124 @und_143
theorem ff_76 : type_of% (@und_3) := @und_3
theorem ff_77 : type_of% (And.intro (And.intro (And.intro @agg_26 @csz_26) (And.intro @eapp_26_26 (And.intro @eapp_66_66 @ebs_26_0))) (And.intro (And.intro @ebs_66_0 (And.intro @ebs_66_1 @esz_66)) (And.intro @grt_26_26 (And.intro @grt_66_66 @undT_66)))) := And.intro (And.intro (And.intro @agg_26 @csz_26) (And.intro @eapp_26_26 (And.intro @eapp_66_66 @ebs_26_0))) (And.intro (And.intro @ebs_66_0 (And.intro @ebs_66_1 @esz_66)) (And.intro @grt_26_26 (And.intro @grt_66_66 @undT_66)))
theorem ff_78 : type_of% (And.intro (And.intro @agg_26 @csz_26) (And.intro @ebs_66_0 (And.intro @esz_66 @undT_66))) := And.intro (And.intro @agg_26 @csz_26) (And.intro @ebs_66_0 (And.intro @esz_66 @undT_66))
theorem ff_81 : type_of% (@und_5) := @und_5
theorem ff_82 : type_of% (@und_5) := @und_5
theorem ff_83 : type_of% (And.intro @und_2 @und_63) := And.intro @und_2 @und_63
theorem ff_84 : type_of% (And.intro (And.intro (And.intro (And.intro @agg_3 @agg_22) (And.intro @agg_23 (And.intro @agg_65 @csz_3))) (And.intro (And.intro @csz_22 @csz_23) (And.intro @csz_65 (And.intro @eapp_114_114 @ebs_114_0)))) (And.intro (And.intro (And.intro @emk_114 @esz_23) (And.intro @esz_114 (And.intro @fofs_25_1 @fofs_25_2))) (And.intro (And.intro @fofs_65_0 @grt_114_114) (And.intro @isz_4 (And.intro @undT_22 @undT_23))))) := And.intro (And.intro (And.intro (And.intro @agg_3 @agg_22) (And.intro @agg_23 (And.intro @agg_65 @csz_3))) (And.intro (And.intro @csz_22 @csz_23) (And.intro @csz_65 (And.intro @eapp_114_114 @ebs_114_0)))) (And.intro (And.intro (And.intro @emk_114 @esz_23) (And.intro @esz_114 (And.intro @fofs_25_1 @fofs_25_2))) (And.intro (And.intro @fofs_65_0 @grt_114_114) (And.intro @isz_4 (And.intro @undT_22 @undT_23))))
theorem ff_87 : type_of% (And.intro (And.intro @agg_3 @csz_3) (And.intro @esz_26 @isz_3)) := And.intro (And.intro @agg_3 @csz_3) (And.intro @esz_26 @isz_3)
theorem ff_90 : type_of% (And.intro (And.intro @agg_3 @csz_3) (And.intro @und_3 @zeroT_3)) := And.intro (And.intro @agg_3 @csz_3) (And.intro @und_3 @zeroT_3)
theorem ff_92 : type_of% (And.intro (And.intro @agg_3 @csz_3) (And.intro @esz_26 (And.intro @isz_3 @und_3))) := And.intro (And.intro @agg_3 @csz_3) (And.intro @esz_26 (And.intro @isz_3 @und_3))
theorem ff_97 : type_of% (And.intro (And.intro @und_3 @und_5) (And.intro @und_9 @und_145)) := And.intro (And.intro @und_3 @und_5) (And.intro @und_9 @und_145)
theorem ff_98 : type_of% (And.intro (And.intro @agg_26 @csz_26) (And.intro @esz_66 @undT_66)) := And.intro (And.intro @agg_26 @csz_26) (And.intro @esz_66 @undT_66)
theorem ff_99 : type_of% (And.intro @eapp_26_26 (And.intro @ebs_26_0 @grt_26_26)) := And.intro @eapp_26_26 (And.intro @ebs_26_0 @grt_26_26)
theorem ff_102 : type_of% (@und_145) := @und_145
theorem ff_110 : type_of% (And.intro (And.intro (And.intro @agg_3 @csz_3) (And.intro @eapp_26_26 @ebs_26_0)) (And.intro (And.intro @ebs_26_1 @esz_26) (And.intro @grt_26_26 @undT_26))) := And.intro (And.intro (And.intro @agg_3 @csz_3) (And.intro @eapp_26_26 @ebs_26_0)) (And.intro (And.intro @ebs_26_1 @esz_26) (And.intro @grt_26_26 @undT_26))
theorem ff_114 : type_of% (@und_4) := @und_4
theorem ff_116 : type_of% (And.intro (And.intro @agg_3 @csz_3) (And.intro @esz_26 @isz_3)) := And.intro (And.intro @agg_3 @csz_3) (And.intro @esz_26 @isz_3)
theorem ff_117 : type_of% (@und_145) := @und_145
end Go.Proofs.Ytfbdababcdfjfaa

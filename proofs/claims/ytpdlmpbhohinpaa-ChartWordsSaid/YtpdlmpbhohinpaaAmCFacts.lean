/- A part of a proof. Its conditions: none. -/
import Derived.Test.YtpdlmpbhohinpaaAmD
import Derived.Test.YtpdlmpbhohinpaaRows
import Derived.KernelRfl
set_option linter.all false
namespace Go.Proofs.Ytpdlmpbhohinpaa
open Go.AM
def fns : List Nat := [3, 4, 5, 6, 7, 8, 9, 10, 11, 12, 13, 14, 15, 16, 17, 18, 19, 20, 21, 22, 23, 24, 25, 26, 27, 28, 29, 30, 31, 32, 33, 34, 35, 36, 37, 38, 39, 40, 41, 42, 43, 44, 45, 46, 47, 48, 49, 50, 51, 52, 53, 54, 55, 56, 57, 58, 59, 60, 61, 62, 63, 64, 65, 66, 67, 68, 69, 70, 71, 72, 73, 74, 75, 76, 77, 78, 79, 80, 81, 82, 83, 84, 85, 86, 87, 88, 89, 90, 91, 92, 93, 94, 95, 96, 97, 98, 99, 100, 101, 103, 105, 106, 107]
theorem fns_ok : fns.all (fnOKb Try.prog) = true := by kernel_rfl
theorem orders : Try.prog.follows .mixedOrders = true := by kernel_rfl
theorem agg_3 : aggT Try.prog 3 = some false := by kernel_rfl
theorem agg_4 : aggT Try.prog 4 = some false := by kernel_rfl
theorem agg_9 : aggT Try.prog 9 = some false := by kernel_rfl
theorem agg_22 : aggT Try.prog 22 = some false := by kernel_rfl
theorem agg_23 : aggT Try.prog 23 = some false := by kernel_rfl
theorem agg_25 : aggT Try.prog 25 = some true := by kernel_rfl
theorem agg_26 : aggT Try.prog 26 = some false := by kernel_rfl
theorem agg_53 : aggT Try.prog 53 = some false := by kernel_rfl
theorem agg_55 : aggT Try.prog 55 = some true := by kernel_rfl
theorem agg_58 : aggT Try.prog 58 = some false := by kernel_rfl
theorem agg_60 : aggT Try.prog 60 = some false := by kernel_rfl
theorem agg_66 : aggT Try.prog 66 = some false := by kernel_rfl
theorem agg_67 : aggT Try.prog 67 = some false := by kernel_rfl
theorem agg_69 : aggT Try.prog 69 = some true := by kernel_rfl
theorem agg_74 : aggT Try.prog 74 = some true := by kernel_rfl
theorem csz_3 : Program.cellsOf Try.prog 3 = 1 := by kernel_rfl
theorem csz_4 : Program.cellsOf Try.prog 4 = 1 := by kernel_rfl
theorem csz_9 : Program.cellsOf Try.prog 9 = 1 := by kernel_rfl
theorem csz_22 : Program.cellsOf Try.prog 22 = 1 := by kernel_rfl
theorem csz_23 : Program.cellsOf Try.prog 23 = 1 := by kernel_rfl
theorem csz_25 : Program.cellsOf Try.prog 25 = 3 := by kernel_rfl
theorem csz_26 : Program.cellsOf Try.prog 26 = 1 := by kernel_rfl
theorem csz_53 : Program.cellsOf Try.prog 53 = 1 := by kernel_rfl
theorem csz_55 : Program.cellsOf Try.prog 55 = 3 := by kernel_rfl
theorem csz_58 : Program.cellsOf Try.prog 58 = 1 := by kernel_rfl
theorem csz_60 : Program.cellsOf Try.prog 60 = 1 := by kernel_rfl
theorem csz_66 : Program.cellsOf Try.prog 66 = 1 := by kernel_rfl
theorem csz_67 : Program.cellsOf Try.prog 67 = 1 := by kernel_rfl
theorem csz_69 : Program.cellsOf Try.prog 69 = 2 := by kernel_rfl
theorem csz_74 : Program.cellsOf Try.prog 74 = 3 := by kernel_rfl
theorem eapp_26_26 : eapp Try.prog #[26, 26] = some (3, 1) := by kernel_rfl
theorem eapp_29_29 : eapp Try.prog #[29, 29] = some (26, 1) := by kernel_rfl
theorem eapp_58_58 : eapp Try.prog #[58, 58] = some (4, 1) := by kernel_rfl
theorem eapp_60_60 : eapp Try.prog #[60, 60] = some (69, 2) := by kernel_rfl
theorem eapp_67_67 : eapp Try.prog #[67, 67] = some (74, 3) := by kernel_rfl
theorem ebd_62 : ebd Try.prog 62 = some ([Value.slice none 0 0, Value.slice none 0 0, Value.slice none 0 0, Value.slice none 0 0, Value.slice none 0 0, Value.slice none 0 0, Value.slice none 0 0, Value.slice none 0 0], [(0, 3), (3, 1), (4, 1), (5, 1), (6, 1), (7, 1)]) := by kernel_rfl
theorem ebd_69 : ebd Try.prog 69 = some ([Value.slice none 0 0, Value.map none], [(0, 1), (1, 1)]) := by kernel_rfl
theorem ebd_74 : ebd Try.prog 74 = some ([Value.int IntKind.i64 (Int.ofNat 0), Value.int IntKind.i64 (Int.ofNat 0), Value.int IntKind.i64 (Int.ofNat 0)], [(0, 1), (1, 1), (2, 1)]) := by kernel_rfl
theorem ebd_81 : ebd Try.prog 81 = some ([Value.int IntKind.i64 (Int.ofNat 0), Value.int IntKind.i64 (Int.ofNat 0), Value.int IntKind.i64 (Int.ofNat 0), Value.int IntKind.i64 (Int.ofNat 0)], [(0, 1), (1, 3)]) := by kernel_rfl
theorem ebs_26_0 : ebs Try.prog 26 0 = some (3, 1, [Value.int IntKind.i64 (Int.ofNat 0)]) := by kernel_rfl
theorem ebs_26_1 : ebs Try.prog 26 1 = some (3, 1, [Value.int IntKind.i64 (Int.ofNat 0)]) := by kernel_rfl
theorem ebs_29_0 : ebs Try.prog 29 0 = some (26, 1, [Value.slice none 0 0]) := by kernel_rfl
theorem ebs_29_1 : ebs Try.prog 29 1 = some (26, 1, [Value.slice none 0 0]) := by kernel_rfl
theorem ebs_58_1 : ebs Try.prog 58 1 = some (4, 1, [Value.bool false]) := by kernel_rfl
theorem ebs_60_1 : ebs Try.prog 60 1 = some (69, 2, [Value.slice none 0 0, Value.map none]) := by kernel_rfl
theorem ebs_67_1 : ebs Try.prog 67 1 = some (74, 3, [Value.int IntKind.i64 (Int.ofNat 0), Value.int IntKind.i64 (Int.ofNat 0), Value.int IntKind.i64 (Int.ofNat 0)]) := by kernel_rfl
theorem emk_26 : emk Try.prog 26 = some (3, [Value.int IntKind.i64 (Int.ofNat 0)]) := by kernel_rfl
theorem emk_58 : emk Try.prog 58 = some (4, [Value.bool false]) := by kernel_rfl
theorem esz_22 : esz Try.prog 22 = some (9, 1) := by kernel_rfl
theorem esz_23 : esz Try.prog 23 = some (55, 3) := by kernel_rfl
theorem esz_26 : esz Try.prog 26 = some (3, 1) := by kernel_rfl
theorem esz_29 : esz Try.prog 29 = some (26, 1) := by kernel_rfl
theorem esz_58 : esz Try.prog 58 = some (4, 1) := by kernel_rfl
theorem esz_60 : esz Try.prog 60 = some (69, 2) := by kernel_rfl
theorem esz_67 : esz Try.prog 67 = some (74, 3) := by kernel_rfl
theorem fofs_25_0 : fofs Try.prog 25 0 = some 0 := by kernel_rfl
theorem fofs_25_1 : fofs Try.prog 25 1 = some 1 := by kernel_rfl
theorem fofs_25_2 : fofs Try.prog 25 2 = some 2 := by kernel_rfl
theorem fofs_55_0 : fofs Try.prog 55 0 = some 0 := by kernel_rfl
theorem fofs_55_1 : fofs Try.prog 55 1 = some 1 := by kernel_rfl
theorem fofs_55_2 : fofs Try.prog 55 2 = some 2 := by kernel_rfl
theorem fofs_62_0 : fofs Try.prog 62 0 = some 0 := by kernel_rfl
theorem fofs_62_1 : fofs Try.prog 62 1 = some 3 := by kernel_rfl
theorem fofs_62_2 : fofs Try.prog 62 2 = some 4 := by kernel_rfl
theorem fofs_62_3 : fofs Try.prog 62 3 = some 5 := by kernel_rfl
theorem fofs_62_4 : fofs Try.prog 62 4 = some 6 := by kernel_rfl
theorem fofs_62_5 : fofs Try.prog 62 5 = some 7 := by kernel_rfl
theorem fofs_69_0 : fofs Try.prog 69 0 = some 0 := by kernel_rfl
theorem fofs_69_1 : fofs Try.prog 69 1 = some 1 := by kernel_rfl
theorem fofs_74_0 : fofs Try.prog 74 0 = some 0 := by kernel_rfl
theorem fofs_74_1 : fofs Try.prog 74 1 = some 1 := by kernel_rfl
theorem fofs_74_2 : fofs Try.prog 74 2 = some 2 := by kernel_rfl
theorem grt_26_26 : growT Try.prog #[26, 26] = false := by kernel_rfl
theorem grt_29_29 : growT Try.prog #[29, 29] = false := by kernel_rfl
theorem grt_58_58 : growT Try.prog #[58, 58] = false := by kernel_rfl
theorem grt_60_60 : growT Try.prog #[60, 60] = false := by kernel_rfl
theorem grt_67_67 : growT Try.prog #[67, 67] = true := by kernel_rfl
theorem isz_3 : isz Try.prog 3 = some 1 := by kernel_rfl
theorem isz_4 : isz Try.prog 4 = some 1 := by kernel_rfl
theorem isz_26 : isz Try.prog 26 = some 1 := by kernel_rfl
theorem isz_55 : isz Try.prog 55 = some 3 := by kernel_rfl
theorem isz_58 : isz Try.prog 58 = some 1 := by kernel_rfl
theorem isz_60 : isz Try.prog 60 = some 1 := by kernel_rfl
theorem isz_67 : isz Try.prog 67 = some 1 := by kernel_rfl
theorem isz_69 : isz Try.prog 69 = some 2 := by kernel_rfl
theorem isz_74 : isz Try.prog 74 = some 3 := by kernel_rfl
theorem und_2 : Program.underlying Try.prog 2 = some (TypeDesc.int IntKind.i64) := by kernel_rfl
theorem und_3 : Program.underlying Try.prog 3 = some (TypeDesc.int IntKind.i64) := by kernel_rfl
theorem und_4 : Program.underlying Try.prog 4 = some TypeDesc.bool := by kernel_rfl
theorem und_5 : Program.underlying Try.prog 5 = some (TypeDesc.int IntKind.u8) := by kernel_rfl
theorem und_9 : Program.underlying Try.prog 9 = some TypeDesc.string := by kernel_rfl
theorem und_26 : Program.underlying Try.prog 26 = some (TypeDesc.slice 3) := by kernel_rfl
theorem und_53 : Program.underlying Try.prog 53 = some (TypeDesc.float FloatKind.f64) := by kernel_rfl
theorem und_102 : Program.underlying Try.prog 102 = some (TypeDesc.int IntKind.u64) := by kernel_rfl
theorem und_110 : Program.underlying Try.prog 110 = some (TypeDesc.int IntKind.i64) := by kernel_rfl
theorem und_118 : Program.underlying Try.prog 118 = some (TypeDesc.int IntKind.u32) := by kernel_rfl
theorem und_120 : Program.underlying Try.prog 120 = some (TypeDesc.int IntKind.u64) := by kernel_rfl
theorem undT_9 : undT Try.prog #[9] = some TypeDesc.string := by kernel_rfl
theorem undT_22 : undT Try.prog #[22] = some (TypeDesc.slice 9) := by kernel_rfl
theorem undT_23 : undT Try.prog #[23] = some (TypeDesc.slice 55) := by kernel_rfl
theorem undT_26 : undT Try.prog #[26] = some (TypeDesc.slice 3) := by kernel_rfl
theorem undT_29 : undT Try.prog #[29] = some (TypeDesc.slice 26) := by kernel_rfl
theorem undT_60 : undT Try.prog #[60] = some (TypeDesc.slice 69) := by kernel_rfl
theorem undT_67 : undT Try.prog #[67] = some (TypeDesc.slice 74) := by kernel_rfl
theorem zeroT_55 : zeroT Try.prog 55 = some (Value.agg { toList := [Value.int IntKind.i64 (Int.ofNat 0), Value.slice none 0 0, Value.float FloatKind.f64 0] }) := by kernel_rfl
theorem zeroT_58 : zeroT Try.prog 58 = some (Value.slice none 0 0) := by kernel_rfl
theorem zeroT_69 : zeroT Try.prog 69 = some (Value.agg { toList := [Value.slice none 0 0, Value.map none] }) := by kernel_rfl
theorem zeroT_74 : zeroT Try.prog 74 = some (Value.agg { toList := [Value.int IntKind.i64 (Int.ofNat 0), Value.int IntKind.i64 (Int.ofNat 0), Value.int IntKind.i64 (Int.ofNat 0)] }) := by kernel_rfl
theorem ok3 : FnOK Try.prog 3 Try.f3 (Try.f3.body.getD .skip) := fnOK_of fns_ok 3 _ _ (by kernel_rfl) Try.func3 rfl
theorem ok9 : FnOK Try.prog 9 Try.f9 (Try.f9.body.getD .skip) := fnOK_of fns_ok 9 _ _ (by kernel_rfl) Try.func9 rfl
theorem ok10 : FnOK Try.prog 10 Try.f10 (Try.f10.body.getD .skip) := fnOK_of fns_ok 10 _ _ (by kernel_rfl) Try.func10 rfl
theorem ok11 : FnOK Try.prog 11 Try.f11 (Try.f11.body.getD .skip) := fnOK_of fns_ok 11 _ _ (by kernel_rfl) Try.func11 rfl
theorem ok12 : FnOK Try.prog 12 Try.f12 (Try.f12.body.getD .skip) := fnOK_of fns_ok 12 _ _ (by kernel_rfl) Try.func12 rfl
theorem ok13 : FnOK Try.prog 13 Try.f13 (Try.f13.body.getD .skip) := fnOK_of fns_ok 13 _ _ (by kernel_rfl) Try.func13 rfl
theorem ok14 : FnOK Try.prog 14 Try.f14 (Try.f14.body.getD .skip) := fnOK_of fns_ok 14 _ _ (by kernel_rfl) Try.func14 rfl
theorem ok15 : FnOK Try.prog 15 Try.f15 (Try.f15.body.getD .skip) := fnOK_of fns_ok 15 _ _ (by kernel_rfl) Try.func15 rfl
theorem ok16 : FnOK Try.prog 16 Try.f16 (Try.f16.body.getD .skip) := fnOK_of fns_ok 16 _ _ (by kernel_rfl) Try.func16 rfl
theorem ok17 : FnOK Try.prog 17 Try.f17 (Try.f17.body.getD .skip) := fnOK_of fns_ok 17 _ _ (by kernel_rfl) Try.func17 rfl
theorem ok18 : FnOK Try.prog 18 Try.f18 (Try.f18.body.getD .skip) := fnOK_of fns_ok 18 _ _ (by kernel_rfl) Try.func18 rfl
theorem ok19 : FnOK Try.prog 19 Try.f19 (Try.f19.body.getD .skip) := fnOK_of fns_ok 19 _ _ (by kernel_rfl) Try.func19 rfl
theorem ok20 : FnOK Try.prog 20 Try.f20 (Try.f20.body.getD .skip) := fnOK_of fns_ok 20 _ _ (by kernel_rfl) Try.func20 rfl
theorem ok21 : FnOK Try.prog 21 Try.f21 (Try.f21.body.getD .skip) := fnOK_of fns_ok 21 _ _ (by kernel_rfl) Try.func21 rfl
theorem ok22 : FnOK Try.prog 22 Try.f22 (Try.f22.body.getD .skip) := fnOK_of fns_ok 22 _ _ (by kernel_rfl) Try.func22 rfl
theorem ok23 : FnOK Try.prog 23 Try.f23 (Try.f23.body.getD .skip) := fnOK_of fns_ok 23 _ _ (by kernel_rfl) Try.func23 rfl
theorem ok24 : FnOK Try.prog 24 Try.f24 (Try.f24.body.getD .skip) := fnOK_of fns_ok 24 _ _ (by kernel_rfl) Try.func24 rfl
theorem ok25 : FnOK Try.prog 25 Try.f25 (Try.f25.body.getD .skip) := fnOK_of fns_ok 25 _ _ (by kernel_rfl) Try.func25 rfl
theorem ok26 : FnOK Try.prog 26 Try.f26 (Try.f26.body.getD .skip) := fnOK_of fns_ok 26 _ _ (by kernel_rfl) Try.func26 rfl
theorem ok29 : FnOK Try.prog 29 Try.f29 (Try.f29.body.getD .skip) := fnOK_of fns_ok 29 _ _ (by kernel_rfl) Try.func29 rfl
theorem ok30 : FnOK Try.prog 30 Try.f30 (Try.f30.body.getD .skip) := fnOK_of fns_ok 30 _ _ (by kernel_rfl) Try.func30 rfl
theorem ok31 : FnOK Try.prog 31 Try.f31 (Try.f31.body.getD .skip) := fnOK_of fns_ok 31 _ _ (by kernel_rfl) Try.func31 rfl
theorem ok32 : FnOK Try.prog 32 Try.f32 (Try.f32.body.getD .skip) := fnOK_of fns_ok 32 _ _ (by kernel_rfl) Try.func32 rfl
theorem ok33 : FnOK Try.prog 33 Try.f33 (Try.f33.body.getD .skip) := fnOK_of fns_ok 33 _ _ (by kernel_rfl) Try.func33 rfl
theorem ok34 : FnOK Try.prog 34 Try.f34 (Try.f34.body.getD .skip) := fnOK_of fns_ok 34 _ _ (by kernel_rfl) Try.func34 rfl
theorem ok35 : FnOK Try.prog 35 Try.f35 (Try.f35.body.getD .skip) := fnOK_of fns_ok 35 _ _ (by kernel_rfl) Try.func35 rfl
theorem ok36 : FnOK Try.prog 36 Try.f36 (Try.f36.body.getD .skip) := fnOK_of fns_ok 36 _ _ (by kernel_rfl) Try.func36 rfl
theorem ok37 : FnOK Try.prog 37 Try.f37 (Try.f37.body.getD .skip) := fnOK_of fns_ok 37 _ _ (by kernel_rfl) Try.func37 rfl
theorem ok38 : FnOK Try.prog 38 Try.f38 (Try.f38.body.getD .skip) := fnOK_of fns_ok 38 _ _ (by kernel_rfl) Try.func38 rfl
theorem ok39 : FnOK Try.prog 39 Try.f39 (Try.f39.body.getD .skip) := fnOK_of fns_ok 39 _ _ (by kernel_rfl) Try.func39 rfl
theorem ok40 : FnOK Try.prog 40 Try.f40 (Try.f40.body.getD .skip) := fnOK_of fns_ok 40 _ _ (by kernel_rfl) Try.func40 rfl
theorem ok41 : FnOK Try.prog 41 Try.f41 (Try.f41.body.getD .skip) := fnOK_of fns_ok 41 _ _ (by kernel_rfl) Try.func41 rfl
theorem ok42 : FnOK Try.prog 42 Try.f42 (Try.f42.body.getD .skip) := fnOK_of fns_ok 42 _ _ (by kernel_rfl) Try.func42 rfl
theorem ok43 : FnOK Try.prog 43 Try.f43 (Try.f43.body.getD .skip) := fnOK_of fns_ok 43 _ _ (by kernel_rfl) Try.func43 rfl
theorem ok44 : FnOK Try.prog 44 Try.f44 (Try.f44.body.getD .skip) := fnOK_of fns_ok 44 _ _ (by kernel_rfl) Try.func44 rfl
theorem ok45 : FnOK Try.prog 45 Try.f45 (Try.f45.body.getD .skip) := fnOK_of fns_ok 45 _ _ (by kernel_rfl) Try.func45 rfl
theorem ok46 : FnOK Try.prog 46 Try.f46 (Try.f46.body.getD .skip) := fnOK_of fns_ok 46 _ _ (by kernel_rfl) Try.func46 rfl
theorem ok47 : FnOK Try.prog 47 Try.f47 (Try.f47.body.getD .skip) := fnOK_of fns_ok 47 _ _ (by kernel_rfl) Try.func47 rfl
theorem ok48 : FnOK Try.prog 48 Try.f48 (Try.f48.body.getD .skip) := fnOK_of fns_ok 48 _ _ (by kernel_rfl) Try.func48 rfl
theorem ok49 : FnOK Try.prog 49 Try.f49 (Try.f49.body.getD .skip) := fnOK_of fns_ok 49 _ _ (by kernel_rfl) Try.func49 rfl
theorem ok50 : FnOK Try.prog 50 Try.f50 (Try.f50.body.getD .skip) := fnOK_of fns_ok 50 _ _ (by kernel_rfl) Try.func50 rfl
theorem ok51 : FnOK Try.prog 51 Try.f51 (Try.f51.body.getD .skip) := fnOK_of fns_ok 51 _ _ (by kernel_rfl) Try.func51 rfl
theorem ok54 : FnOK Try.prog 54 Try.f54 (Try.f54.body.getD .skip) := fnOK_of fns_ok 54 _ _ (by kernel_rfl) Try.func54 rfl
theorem ok55 : FnOK Try.prog 55 Try.f55 (Try.f55.body.getD .skip) := fnOK_of fns_ok 55 _ _ (by kernel_rfl) Try.func55 rfl
theorem ok56 : FnOK Try.prog 56 Try.f56 (Try.f56.body.getD .skip) := fnOK_of fns_ok 56 _ _ (by kernel_rfl) Try.func56 rfl
theorem ok57 : FnOK Try.prog 57 Try.f57 (Try.f57.body.getD .skip) := fnOK_of fns_ok 57 _ _ (by kernel_rfl) Try.func57 rfl
theorem ok58 : FnOK Try.prog 58 Try.f58 (Try.f58.body.getD .skip) := fnOK_of fns_ok 58 _ _ (by kernel_rfl) Try.func58 rfl
theorem ok59 : FnOK Try.prog 59 Try.f59 (Try.f59.body.getD .skip) := fnOK_of fns_ok 59 _ _ (by kernel_rfl) Try.func59 rfl
theorem ok60 : FnOK Try.prog 60 Try.f60 (Try.f60.body.getD .skip) := fnOK_of fns_ok 60 _ _ (by kernel_rfl) Try.func60 rfl
theorem ok61 : FnOK Try.prog 61 Try.f61 (Try.f61.body.getD .skip) := fnOK_of fns_ok 61 _ _ (by kernel_rfl) Try.func61 rfl
theorem ok62 : FnOK Try.prog 62 Try.f62 (Try.f62.body.getD .skip) := fnOK_of fns_ok 62 _ _ (by kernel_rfl) Try.func62 rfl
theorem ok63 : FnOK Try.prog 63 Try.f63 (Try.f63.body.getD .skip) := fnOK_of fns_ok 63 _ _ (by kernel_rfl) Try.func63 rfl
theorem ok64 : FnOK Try.prog 64 Try.f64 (Try.f64.body.getD .skip) := fnOK_of fns_ok 64 _ _ (by kernel_rfl) Try.func64 rfl
theorem ok65 : FnOK Try.prog 65 Try.f65 (Try.f65.body.getD .skip) := fnOK_of fns_ok 65 _ _ (by kernel_rfl) Try.func65 rfl
theorem ok66 : FnOK Try.prog 66 Try.f66 (Try.f66.body.getD .skip) := fnOK_of fns_ok 66 _ _ (by kernel_rfl) Try.func66 rfl
theorem ok67 : FnOK Try.prog 67 Try.f67 (Try.f67.body.getD .skip) := fnOK_of fns_ok 67 _ _ (by kernel_rfl) Try.func67 rfl
theorem ok68 : FnOK Try.prog 68 Try.f68 (Try.f68.body.getD .skip) := fnOK_of fns_ok 68 _ _ (by kernel_rfl) Try.func68 rfl
theorem ok69 : FnOK Try.prog 69 Try.f69 (Try.f69.body.getD .skip) := fnOK_of fns_ok 69 _ _ (by kernel_rfl) Try.func69 rfl
theorem ok70 : FnOK Try.prog 70 Try.f70 (Try.f70.body.getD .skip) := fnOK_of fns_ok 70 _ _ (by kernel_rfl) Try.func70 rfl
theorem ok74 : FnOK Try.prog 74 Try.f74 (Try.f74.body.getD .skip) := fnOK_of fns_ok 74 _ _ (by kernel_rfl) Try.func74 rfl
theorem ok75 : FnOK Try.prog 75 Try.f75 (Try.f75.body.getD .skip) := fnOK_of fns_ok 75 _ _ (by kernel_rfl) Try.func75 rfl
theorem ok76 : FnOK Try.prog 76 Try.f76 (Try.f76.body.getD .skip) := fnOK_of fns_ok 76 _ _ (by kernel_rfl) Try.func76 rfl
theorem ok77 : FnOK Try.prog 77 Try.f77 (Try.f77.body.getD .skip) := fnOK_of fns_ok 77 _ _ (by kernel_rfl) Try.func77 rfl
theorem ok78 : FnOK Try.prog 78 Try.f78 (Try.f78.body.getD .skip) := fnOK_of fns_ok 78 _ _ (by kernel_rfl) Try.func78 rfl
theorem ok79 : FnOK Try.prog 79 Try.f79 (Try.f79.body.getD .skip) := fnOK_of fns_ok 79 _ _ (by kernel_rfl) Try.func79 rfl
theorem ok80 : FnOK Try.prog 80 Try.f80 (Try.f80.body.getD .skip) := fnOK_of fns_ok 80 _ _ (by kernel_rfl) Try.func80 rfl
theorem ok86 : FnOK Try.prog 86 Try.f86 (Try.f86.body.getD .skip) := fnOK_of fns_ok 86 _ _ (by kernel_rfl) Try.func86 rfl
theorem ok90 : FnOK Try.prog 90 Try.f90 (Try.f90.body.getD .skip) := fnOK_of fns_ok 90 _ _ (by kernel_rfl) Try.func90 rfl
theorem ok92 : FnOK Try.prog 92 Try.f92 (Try.f92.body.getD .skip) := fnOK_of fns_ok 92 _ _ (by kernel_rfl) Try.func92 rfl
theorem ok94 : FnOK Try.prog 94 Try.f94 (Try.f94.body.getD .skip) := fnOK_of fns_ok 94 _ _ (by kernel_rfl) Try.func94 rfl
theorem ok95 : FnOK Try.prog 95 Try.f95 (Try.f95.body.getD .skip) := fnOK_of fns_ok 95 _ _ (by kernel_rfl) Try.func95 rfl
theorem ok101 : FnOK Try.prog 101 Try.f101 (Try.f101.body.getD .skip) := fnOK_of fns_ok 101 _ _ (by kernel_rfl) Try.func101 rfl
theorem ok105 : FnOK Try.prog 105 Try.f105 (Try.f105.body.getD .skip) := fnOK_of fns_ok 105 _ _ (by kernel_rfl) Try.func105 rfl
theorem ok107 : FnOK Try.prog 107 Try.f107 (Try.f107.body.getD .skip) := fnOK_of fns_ok 107 _ _ (by kernel_rfl) Try.func107 rfl
theorem ff_3 : type_of% (And.intro (And.intro (And.intro @agg_3 (And.intro @agg_25 @agg_26)) (And.intro (And.intro @csz_3 @csz_25) (And.intro @csz_26 @eapp_26_26))) (And.intro (And.intro (And.intro @ebs_26_0 @esz_26) (And.intro @esz_29 @grt_26_26)) (And.intro (And.intro @und_3 @und_4) (And.intro @undT_26 @undT_29)))) := And.intro (And.intro (And.intro @agg_3 (And.intro @agg_25 @agg_26)) (And.intro (And.intro @csz_3 @csz_25) (And.intro @csz_26 @eapp_26_26))) (And.intro (And.intro (And.intro @ebs_26_0 @esz_26) (And.intro @esz_29 @grt_26_26)) (And.intro (And.intro @und_3 @und_4) (And.intro @undT_26 @undT_29)))
theorem ff_9 : type_of% (And.intro @agg_25 @csz_25) := And.intro @agg_25 @csz_25
theorem ff_10 : type_of% (And.intro (And.intro (And.intro (And.intro @agg_3 @agg_23) (And.intro @agg_25 (And.intro @agg_26 @csz_3))) (And.intro (And.intro @csz_23 (And.intro @csz_25 @csz_26)) (And.intro @eapp_29_29 (And.intro @ebs_26_1 @ebs_29_0)))) (And.intro (And.intro (And.intro @ebs_29_1 @esz_23) (And.intro @esz_26 (And.intro @esz_29 @fofs_25_2))) (And.intro (And.intro @fofs_55_0 (And.intro @grt_29_29 @und_3)) (And.intro @undT_23 (And.intro @undT_26 @undT_29))))) := And.intro (And.intro (And.intro (And.intro @agg_3 @agg_23) (And.intro @agg_25 (And.intro @agg_26 @csz_3))) (And.intro (And.intro @csz_23 (And.intro @csz_25 @csz_26)) (And.intro @eapp_29_29 (And.intro @ebs_26_1 @ebs_29_0)))) (And.intro (And.intro (And.intro @ebs_29_1 @esz_23) (And.intro @esz_26 (And.intro @esz_29 @fofs_25_2))) (And.intro (And.intro @fofs_55_0 (And.intro @grt_29_29 @und_3)) (And.intro @undT_23 (And.intro @undT_26 @undT_29))))
theorem ff_11 : type_of% (And.intro (And.intro (And.intro (And.intro (And.intro @agg_23 @agg_25) (And.intro @agg_26 @agg_55)) (And.intro (And.intro @agg_58 @agg_69) (And.intro @csz_23 @csz_25))) (And.intro (And.intro (And.intro @csz_26 @csz_55) (And.intro @csz_58 @csz_69)) (And.intro (And.intro @eapp_58_58 @ebd_62) (And.intro @ebd_69 @ebs_58_1)))) (And.intro (And.intro (And.intro (And.intro @ebs_60_1 @esz_23) (And.intro @fofs_25_2 @fofs_55_1)) (And.intro (And.intro @fofs_62_1 @fofs_62_3) (And.intro @fofs_62_4 @grt_58_58))) (And.intro (And.intro (And.intro @isz_26 @isz_55) (And.intro @isz_58 @isz_60)) (And.intro (And.intro @isz_69 @undT_23) (And.intro @zeroT_55 (And.intro @zeroT_58 @zeroT_69)))))) := And.intro (And.intro (And.intro (And.intro (And.intro @agg_23 @agg_25) (And.intro @agg_26 @agg_55)) (And.intro (And.intro @agg_58 @agg_69) (And.intro @csz_23 @csz_25))) (And.intro (And.intro (And.intro @csz_26 @csz_55) (And.intro @csz_58 @csz_69)) (And.intro (And.intro @eapp_58_58 @ebd_62) (And.intro @ebd_69 @ebs_58_1)))) (And.intro (And.intro (And.intro (And.intro @ebs_60_1 @esz_23) (And.intro @fofs_25_2 @fofs_55_1)) (And.intro (And.intro @fofs_62_1 @fofs_62_3) (And.intro @fofs_62_4 @grt_58_58))) (And.intro (And.intro (And.intro @isz_26 @isz_55) (And.intro @isz_58 @isz_60)) (And.intro (And.intro @isz_69 @undT_23) (And.intro @zeroT_55 (And.intro @zeroT_58 @zeroT_69)))))
theorem ff_12 : type_of% (And.intro (And.intro (And.intro (And.intro (And.intro @agg_3 @agg_26) (And.intro @agg_60 @agg_67)) (And.intro (And.intro @agg_69 @agg_74) (And.intro @csz_3 (And.intro @csz_26 @csz_60)))) (And.intro (And.intro (And.intro @csz_67 @csz_69) (And.intro @csz_74 @eapp_26_26)) (And.intro (And.intro @eapp_60_60 @ebd_69) (And.intro @ebd_74 (And.intro @ebs_26_1 @ebs_60_1))))) (And.intro (And.intro (And.intro (And.intro @esz_60 @esz_67) (And.intro @fofs_62_4 @fofs_62_5)) (And.intro (And.intro @fofs_69_0 @fofs_74_0) (And.intro @fofs_74_1 (And.intro @fofs_74_2 @grt_26_26)))) (And.intro (And.intro (And.intro @grt_60_60 @isz_26) (And.intro @isz_60 (And.intro @isz_69 @isz_74))) (And.intro (And.intro @und_3 @undT_60) (And.intro @undT_67 (And.intro @zeroT_69 @zeroT_74)))))) := And.intro (And.intro (And.intro (And.intro (And.intro @agg_3 @agg_26) (And.intro @agg_60 @agg_67)) (And.intro (And.intro @agg_69 @agg_74) (And.intro @csz_3 (And.intro @csz_26 @csz_60)))) (And.intro (And.intro (And.intro @csz_67 @csz_69) (And.intro @csz_74 @eapp_26_26)) (And.intro (And.intro @eapp_60_60 @ebd_69) (And.intro @ebd_74 (And.intro @ebs_26_1 @ebs_60_1))))) (And.intro (And.intro (And.intro (And.intro @esz_60 @esz_67) (And.intro @fofs_62_4 @fofs_62_5)) (And.intro (And.intro @fofs_69_0 @fofs_74_0) (And.intro @fofs_74_1 (And.intro @fofs_74_2 @grt_26_26)))) (And.intro (And.intro (And.intro @grt_60_60 @isz_26) (And.intro @isz_60 (And.intro @isz_69 @isz_74))) (And.intro (And.intro @und_3 @undT_60) (And.intro @undT_67 (And.intro @zeroT_69 @zeroT_74)))))
theorem ff_13 : type_of% (And.intro (And.intro @agg_26 @csz_26) (And.intro @fofs_62_5 @undT_26)) := And.intro (And.intro @agg_26 @csz_26) (And.intro @fofs_62_5 @undT_26)
theorem ff_15 : type_of% (And.intro @agg_26 (And.intro @csz_26 @fofs_62_5)) := And.intro @agg_26 (And.intro @csz_26 @fofs_62_5)
theorem ff_16 : type_of% (And.intro (And.intro @agg_3 (And.intro @agg_25 @csz_3)) (And.intro @csz_25 (And.intro @esz_26 @undT_26))) := And.intro (And.intro @agg_3 (And.intro @agg_25 @csz_3)) (And.intro @csz_25 (And.intro @esz_26 @undT_26))
theorem ff_17 : type_of% (And.intro (And.intro @agg_3 (And.intro @agg_25 @csz_3)) (And.intro @csz_25 (And.intro @esz_26 @undT_26))) := And.intro (And.intro @agg_3 (And.intro @agg_25 @csz_3)) (And.intro @csz_25 (And.intro @esz_26 @undT_26))
theorem ff_18 : type_of% (And.intro (And.intro @agg_26 @csz_26) (And.intro @esz_29 @undT_29)) := And.intro (And.intro @agg_26 @csz_26) (And.intro @esz_29 @undT_29)
theorem ff_19 : type_of% (And.intro (And.intro (And.intro (And.intro @agg_3 (And.intro @agg_23 @agg_60)) (And.intro @agg_67 (And.intro @agg_74 @csz_3))) (And.intro (And.intro @csz_23 (And.intro @csz_60 @csz_67)) (And.intro @csz_74 (And.intro @esz_23 @esz_60)))) (And.intro (And.intro (And.intro @esz_67 (And.intro @fofs_25_2 @fofs_55_0)) (And.intro @fofs_62_0 (And.intro @fofs_62_4 @fofs_69_0))) (And.intro (And.intro @fofs_74_0 (And.intro @fofs_74_2 @isz_74)) (And.intro (And.intro @und_3 @undT_60) (And.intro @undT_67 @zeroT_74))))) := And.intro (And.intro (And.intro (And.intro @agg_3 (And.intro @agg_23 @agg_60)) (And.intro @agg_67 (And.intro @agg_74 @csz_3))) (And.intro (And.intro @csz_23 (And.intro @csz_60 @csz_67)) (And.intro @csz_74 (And.intro @esz_23 @esz_60)))) (And.intro (And.intro (And.intro @esz_67 (And.intro @fofs_25_2 @fofs_55_0)) (And.intro @fofs_62_0 (And.intro @fofs_62_4 @fofs_69_0))) (And.intro (And.intro @fofs_74_0 (And.intro @fofs_74_2 @isz_74)) (And.intro (And.intro @und_3 @undT_60) (And.intro @undT_67 @zeroT_74))))
theorem ff_20 : type_of% (And.intro (And.intro @agg_26 (And.intro @csz_26 @ebs_26_0)) (And.intro @esz_29 (And.intro @undT_26 @undT_29))) := And.intro (And.intro @agg_26 (And.intro @csz_26 @ebs_26_0)) (And.intro @esz_29 (And.intro @undT_26 @undT_29))
theorem ff_21 : type_of% (And.intro (And.intro (And.intro @agg_3 @csz_3) (And.intro @eapp_26_26 @ebs_26_1)) (And.intro (And.intro @esz_26 @grt_26_26) (And.intro @und_3 @undT_26))) := And.intro (And.intro (And.intro @agg_3 @csz_3) (And.intro @eapp_26_26 @ebs_26_1)) (And.intro (And.intro @esz_26 @grt_26_26) (And.intro @und_3 @undT_26))
theorem ff_22 : type_of% (And.intro (And.intro (And.intro (And.intro @agg_3 @agg_60) (And.intro @agg_67 @agg_74)) (And.intro (And.intro @csz_3 @csz_60) (And.intro @csz_67 (And.intro @csz_74 @ebd_81)))) (And.intro (And.intro (And.intro @esz_60 @esz_67) (And.intro @fofs_62_4 @fofs_69_0)) (And.intro (And.intro @fofs_74_1 @isz_74) (And.intro @undT_60 (And.intro @undT_67 @zeroT_74))))) := And.intro (And.intro (And.intro (And.intro @agg_3 @agg_60) (And.intro @agg_67 @agg_74)) (And.intro (And.intro @csz_3 @csz_60) (And.intro @csz_67 (And.intro @csz_74 @ebd_81)))) (And.intro (And.intro (And.intro @esz_60 @esz_67) (And.intro @fofs_62_4 @fofs_69_0)) (And.intro (And.intro @fofs_74_1 @isz_74) (And.intro @undT_60 (And.intro @undT_67 @zeroT_74))))
theorem ff_23 : type_of% (And.intro (And.intro (And.intro (And.intro @agg_60 @agg_67) (And.intro @agg_74 @csz_60)) (And.intro (And.intro @csz_67 @csz_74) (And.intro @eapp_26_26 @ebs_26_1))) (And.intro (And.intro (And.intro @esz_60 @esz_67) (And.intro @fofs_62_4 @fofs_69_0)) (And.intro (And.intro @grt_26_26 @isz_74) (And.intro @undT_60 (And.intro @undT_67 @zeroT_74))))) := And.intro (And.intro (And.intro (And.intro @agg_60 @agg_67) (And.intro @agg_74 @csz_60)) (And.intro (And.intro @csz_67 @csz_74) (And.intro @eapp_26_26 @ebs_26_1))) (And.intro (And.intro (And.intro @esz_60 @esz_67) (And.intro @fofs_62_4 @fofs_69_0)) (And.intro (And.intro @grt_26_26 @isz_74) (And.intro @undT_60 (And.intro @undT_67 @zeroT_74))))
theorem ff_24 : type_of% (And.intro @esz_26 @undT_26) := And.intro @esz_26 @undT_26
theorem ff_25 : type_of% (And.intro (And.intro @agg_3 @csz_3) (And.intro @esz_26 (And.intro @und_3 @undT_26))) := And.intro (And.intro @agg_3 @csz_3) (And.intro @esz_26 (And.intro @und_3 @undT_26))
theorem ff_26 : type_of% (And.intro (And.intro (And.intro @agg_26 (And.intro @agg_60 @csz_26)) (And.intro @csz_60 (And.intro @esz_26 @esz_60))) (And.intro (And.intro @fofs_62_4 (And.intro @fofs_62_5 @isz_26)) (And.intro (And.intro @isz_60 @und_3) (And.intro @undT_26 @undT_60)))) := And.intro (And.intro (And.intro @agg_26 (And.intro @agg_60 @csz_26)) (And.intro @csz_60 (And.intro @esz_26 @esz_60))) (And.intro (And.intro @fofs_62_4 (And.intro @fofs_62_5 @isz_26)) (And.intro (And.intro @isz_60 @und_3) (And.intro @undT_26 @undT_60)))
theorem ff_29 : type_of% (And.intro (And.intro (And.intro @agg_22 (And.intro @agg_23 @agg_26)) (And.intro (And.intro @csz_22 @csz_23) (And.intro @csz_26 @esz_23))) (And.intro (And.intro @fofs_25_0 (And.intro @fofs_25_1 @fofs_25_2)) (And.intro (And.intro @fofs_55_1 @undT_22) (And.intro @undT_23 @undT_26)))) := And.intro (And.intro (And.intro @agg_22 (And.intro @agg_23 @agg_26)) (And.intro (And.intro @csz_22 @csz_23) (And.intro @csz_26 @esz_23))) (And.intro (And.intro @fofs_25_0 (And.intro @fofs_25_1 @fofs_25_2)) (And.intro (And.intro @fofs_55_1 @undT_22) (And.intro @undT_23 @undT_26)))
theorem ff_30 : type_of% (And.intro (And.intro (And.intro @agg_9 (And.intro @agg_22 @agg_23)) (And.intro (And.intro @agg_25 @csz_9) (And.intro @csz_22 @csz_23))) (And.intro (And.intro (And.intro @csz_25 @esz_22) (And.intro @fofs_25_0 @fofs_25_1)) (And.intro (And.intro @fofs_25_2 @und_3) (And.intro @undT_22 @undT_23)))) := And.intro (And.intro (And.intro @agg_9 (And.intro @agg_22 @agg_23)) (And.intro (And.intro @agg_25 @csz_9) (And.intro @csz_22 @csz_23))) (And.intro (And.intro (And.intro @csz_25 @esz_22) (And.intro @fofs_25_0 @fofs_25_1)) (And.intro (And.intro @fofs_25_2 @und_3) (And.intro @undT_22 @undT_23)))
theorem ff_31 : type_of% (And.intro (And.intro @agg_3 (And.intro @agg_25 @csz_3)) (And.intro @csz_25 (And.intro @esz_26 @undT_26))) := And.intro (And.intro @agg_3 (And.intro @agg_25 @csz_3)) (And.intro @csz_25 (And.intro @esz_26 @undT_26))
theorem ff_32 : type_of% (And.intro (And.intro @agg_3 @csz_3) (And.intro @esz_26 @undT_26)) := And.intro (And.intro @agg_3 @csz_3) (And.intro @esz_26 @undT_26)
theorem ff_33 : type_of% (And.intro (And.intro (And.intro @agg_26 @csz_26) (And.intro @eapp_26_26 (And.intro @eapp_29_29 @ebs_26_0))) (And.intro (And.intro @ebs_29_0 (And.intro @ebs_29_1 @esz_29)) (And.intro @grt_26_26 (And.intro @grt_29_29 @undT_29)))) := And.intro (And.intro (And.intro @agg_26 @csz_26) (And.intro @eapp_26_26 (And.intro @eapp_29_29 @ebs_26_0))) (And.intro (And.intro @ebs_29_0 (And.intro @ebs_29_1 @esz_29)) (And.intro @grt_26_26 (And.intro @grt_29_29 @undT_29)))
theorem ff_34 : type_of% (And.intro (And.intro (And.intro @agg_3 @csz_3) (And.intro @eapp_26_26 @ebs_26_0)) (And.intro (And.intro @ebs_26_1 @esz_26) (And.intro @grt_26_26 @undT_26))) := And.intro (And.intro (And.intro @agg_3 @csz_3) (And.intro @eapp_26_26 @ebs_26_0)) (And.intro (And.intro @ebs_26_1 @esz_26) (And.intro @grt_26_26 @undT_26))
theorem ff_35 : type_of% (And.intro (And.intro (And.intro (And.intro @agg_3 @agg_23) (And.intro @agg_26 @csz_3)) (And.intro (And.intro @csz_23 @csz_26) (And.intro @eapp_26_26 (And.intro @ebs_26_0 @ebs_26_1)))) (And.intro (And.intro (And.intro @esz_23 @esz_26) (And.intro @fofs_25_2 @fofs_55_0)) (And.intro (And.intro @fofs_55_1 @grt_26_26) (And.intro @und_3 (And.intro @undT_23 @undT_26))))) := And.intro (And.intro (And.intro (And.intro @agg_3 @agg_23) (And.intro @agg_26 @csz_3)) (And.intro (And.intro @csz_23 @csz_26) (And.intro @eapp_26_26 (And.intro @ebs_26_0 @ebs_26_1)))) (And.intro (And.intro (And.intro @esz_23 @esz_26) (And.intro @fofs_25_2 @fofs_55_0)) (And.intro (And.intro @fofs_55_1 @grt_26_26) (And.intro @und_3 (And.intro @undT_23 @undT_26))))
theorem ff_36 : type_of% (And.intro (And.intro (And.intro @agg_22 @agg_25) (And.intro @agg_58 (And.intro @csz_22 @csz_25))) (And.intro (And.intro @csz_58 (And.intro @emk_58 @fofs_25_1)) (And.intro @isz_58 (And.intro @undT_22 @zeroT_58)))) := And.intro (And.intro (And.intro @agg_22 @agg_25) (And.intro @agg_58 (And.intro @csz_22 @csz_25))) (And.intro (And.intro @csz_58 (And.intro @emk_58 @fofs_25_1)) (And.intro @isz_58 (And.intro @undT_22 @zeroT_58)))
theorem ff_37 : type_of% (And.intro (And.intro (And.intro (And.intro @agg_3 (And.intro @agg_4 @agg_22)) (And.intro @agg_23 (And.intro @agg_55 @csz_3))) (And.intro (And.intro @csz_4 (And.intro @csz_22 @csz_23)) (And.intro @csz_55 (And.intro @emk_26 @emk_58)))) (And.intro (And.intro (And.intro @esz_23 (And.intro @esz_26 @esz_58)) (And.intro @fofs_25_1 (And.intro @fofs_25_2 @fofs_55_0))) (And.intro (And.intro @isz_3 (And.intro @isz_4 @isz_55)) (And.intro (And.intro @undT_22 @undT_23) (And.intro @undT_26 @zeroT_55))))) := And.intro (And.intro (And.intro (And.intro @agg_3 (And.intro @agg_4 @agg_22)) (And.intro @agg_23 (And.intro @agg_55 @csz_3))) (And.intro (And.intro @csz_4 (And.intro @csz_22 @csz_23)) (And.intro @csz_55 (And.intro @emk_26 @emk_58)))) (And.intro (And.intro (And.intro @esz_23 (And.intro @esz_26 @esz_58)) (And.intro @fofs_25_1 (And.intro @fofs_25_2 @fofs_55_0))) (And.intro (And.intro @isz_3 (And.intro @isz_4 @isz_55)) (And.intro (And.intro @undT_22 @undT_23) (And.intro @undT_26 @zeroT_55))))
theorem ff_38 : type_of% (And.intro (And.intro (And.intro @agg_22 @agg_25) (And.intro @agg_58 (And.intro @csz_22 @csz_25))) (And.intro (And.intro @csz_58 (And.intro @emk_58 @fofs_25_1)) (And.intro @isz_58 (And.intro @undT_22 @zeroT_58)))) := And.intro (And.intro (And.intro @agg_22 @agg_25) (And.intro @agg_58 (And.intro @csz_22 @csz_25))) (And.intro (And.intro @csz_58 (And.intro @emk_58 @fofs_25_1)) (And.intro @isz_58 (And.intro @undT_22 @zeroT_58)))
theorem ff_40 : type_of% (And.intro (And.intro @agg_4 @agg_58) (And.intro @csz_4 (And.intro @csz_58 @esz_58))) := And.intro (And.intro @agg_4 @agg_58) (And.intro @csz_4 (And.intro @csz_58 @esz_58))
theorem ff_42 : type_of% (And.intro (And.intro (And.intro @agg_4 @agg_25) (And.intro @agg_58 (And.intro @csz_4 @csz_25))) (And.intro (And.intro @csz_58 @ebd_74) (And.intro @esz_58 (And.intro @fofs_62_0 @fofs_62_1)))) := And.intro (And.intro (And.intro @agg_4 @agg_25) (And.intro @agg_58 (And.intro @csz_4 @csz_25))) (And.intro (And.intro @csz_58 @ebd_74) (And.intro @esz_58 (And.intro @fofs_62_0 @fofs_62_1)))
theorem ff_43 : type_of% (And.intro (And.intro (And.intro (And.intro @agg_3 (And.intro @agg_4 @agg_58)) (And.intro @agg_60 (And.intro @agg_67 @agg_74))) (And.intro (And.intro @csz_3 (And.intro @csz_4 @csz_58)) (And.intro @csz_60 (And.intro @csz_67 @csz_74)))) (And.intro (And.intro (And.intro @ebd_74 (And.intro @esz_58 @esz_60)) (And.intro @esz_67 (And.intro @fofs_62_2 @fofs_62_4))) (And.intro (And.intro @fofs_69_0 (And.intro @fofs_74_0 @fofs_74_1)) (And.intro (And.intro @fofs_74_2 @isz_74) (And.intro @undT_67 @zeroT_74))))) := And.intro (And.intro (And.intro (And.intro @agg_3 (And.intro @agg_4 @agg_58)) (And.intro @agg_60 (And.intro @agg_67 @agg_74))) (And.intro (And.intro @csz_3 (And.intro @csz_4 @csz_58)) (And.intro @csz_60 (And.intro @csz_67 @csz_74)))) (And.intro (And.intro (And.intro @ebd_74 (And.intro @esz_58 @esz_60)) (And.intro @esz_67 (And.intro @fofs_62_2 @fofs_62_4))) (And.intro (And.intro @fofs_69_0 (And.intro @fofs_74_0 @fofs_74_1)) (And.intro (And.intro @fofs_74_2 @isz_74) (And.intro @undT_67 @zeroT_74))))
theorem ff_44 : type_of% (And.intro (And.intro (And.intro @agg_3 (And.intro @agg_23 @agg_26)) (And.intro (And.intro @csz_3 @csz_23) (And.intro @csz_26 @esz_23))) (And.intro (And.intro (And.intro @esz_26 @fofs_25_2) (And.intro @fofs_55_1 @fofs_62_0)) (And.intro (And.intro @fofs_74_0 @fofs_74_1) (And.intro @und_3 @undT_26)))) := And.intro (And.intro (And.intro @agg_3 (And.intro @agg_23 @agg_26)) (And.intro (And.intro @csz_3 @csz_23) (And.intro @csz_26 @esz_23))) (And.intro (And.intro (And.intro @esz_26 @fofs_25_2) (And.intro @fofs_55_1 @fofs_62_0)) (And.intro (And.intro @fofs_74_0 @fofs_74_1) (And.intro @und_3 @undT_26)))
theorem ff_45 : type_of% (And.intro (And.intro (And.intro @agg_66 (And.intro @agg_67 @agg_74)) (And.intro @csz_66 (And.intro @csz_67 @csz_74))) (And.intro (And.intro @eapp_67_67 (And.intro @ebs_67_1 @fofs_69_0)) (And.intro @fofs_69_1 (And.intro @grt_67_67 @isz_67)))) := And.intro (And.intro (And.intro @agg_66 (And.intro @agg_67 @agg_74)) (And.intro @csz_66 (And.intro @csz_67 @csz_74))) (And.intro (And.intro @eapp_67_67 (And.intro @ebs_67_1 @fofs_69_0)) (And.intro @fofs_69_1 (And.intro @grt_67_67 @isz_67)))
theorem ff_46 : type_of% (And.intro (And.intro @agg_3 @csz_3) (And.intro @esz_26 (And.intro @und_3 @undT_26))) := And.intro (And.intro @agg_3 @csz_3) (And.intro @esz_26 (And.intro @und_3 @undT_26))
theorem ff_47 : type_of% (And.intro (And.intro @eapp_26_26 @ebs_26_0) (And.intro @grt_26_26 @und_26)) := And.intro (And.intro @eapp_26_26 @ebs_26_0) (And.intro @grt_26_26 @und_26)
theorem ff_48 : type_of% (And.intro (And.intro (And.intro (And.intro @agg_3 (And.intro @agg_23 @agg_60)) (And.intro @agg_67 (And.intro @agg_74 @csz_3))) (And.intro (And.intro @csz_23 (And.intro @csz_60 @csz_67)) (And.intro (And.intro @csz_74 @ebd_81) (And.intro @esz_23 @esz_60)))) (And.intro (And.intro (And.intro @esz_67 (And.intro @fofs_25_2 @fofs_55_0)) (And.intro (And.intro @fofs_62_0 @fofs_62_4) (And.intro @fofs_69_0 @fofs_74_0))) (And.intro (And.intro @fofs_74_1 (And.intro @fofs_74_2 @isz_74)) (And.intro (And.intro @und_3 @undT_60) (And.intro @undT_67 @zeroT_74))))) := And.intro (And.intro (And.intro (And.intro @agg_3 (And.intro @agg_23 @agg_60)) (And.intro @agg_67 (And.intro @agg_74 @csz_3))) (And.intro (And.intro @csz_23 (And.intro @csz_60 @csz_67)) (And.intro (And.intro @csz_74 @ebd_81) (And.intro @esz_23 @esz_60)))) (And.intro (And.intro (And.intro @esz_67 (And.intro @fofs_25_2 @fofs_55_0)) (And.intro (And.intro @fofs_62_0 @fofs_62_4) (And.intro @fofs_69_0 @fofs_74_0))) (And.intro (And.intro @fofs_74_1 (And.intro @fofs_74_2 @isz_74)) (And.intro (And.intro @und_3 @undT_60) (And.intro @undT_67 @zeroT_74))))
theorem ff_49 : type_of% (And.intro (And.intro (And.intro @agg_3 (And.intro @agg_23 @agg_26)) (And.intro (And.intro @csz_3 @csz_23) (And.intro @csz_26 @esz_23))) (And.intro (And.intro @esz_26 (And.intro @fofs_25_2 @fofs_55_1)) (And.intro (And.intro @fofs_62_0 @fofs_62_3) (And.intro @fofs_74_0 @undT_26)))) := And.intro (And.intro (And.intro @agg_3 (And.intro @agg_23 @agg_26)) (And.intro (And.intro @csz_3 @csz_23) (And.intro @csz_26 @esz_23))) (And.intro (And.intro @esz_26 (And.intro @fofs_25_2 @fofs_55_1)) (And.intro (And.intro @fofs_62_0 @fofs_62_3) (And.intro @fofs_74_0 @undT_26)))
theorem ff_51 : type_of% (And.intro @und_3 (And.intro @und_102 @undT_26)) := And.intro @und_3 (And.intro @und_102 @undT_26)
theorem ff_54 : type_of% (And.intro @und_9 @undT_9) := And.intro @und_9 @undT_9
theorem ff_55 : type_of% (And.intro (And.intro @agg_9 @csz_9) (And.intro @esz_22 (And.intro @und_9 @undT_22))) := And.intro (And.intro @agg_9 @csz_9) (And.intro @esz_22 (And.intro @und_9 @undT_22))
theorem ff_56 : type_of% (And.intro @und_9 @undT_9) := And.intro @und_9 @undT_9
theorem ff_57 : type_of% (And.intro (And.intro (And.intro (And.intro @agg_3 (And.intro @agg_22 @agg_23)) (And.intro @agg_26 (And.intro @agg_53 @agg_55))) (And.intro (And.intro @csz_3 (And.intro @csz_22 @csz_23)) (And.intro @csz_26 (And.intro @csz_53 @csz_55)))) (And.intro (And.intro (And.intro @esz_23 (And.intro @esz_26 @fofs_25_0)) (And.intro @fofs_25_1 (And.intro @fofs_25_2 @fofs_55_0))) (And.intro (And.intro @fofs_55_1 (And.intro @fofs_55_2 @isz_55)) (And.intro (And.intro @und_3 @undT_22) (And.intro @undT_26 @zeroT_55))))) := And.intro (And.intro (And.intro (And.intro @agg_3 (And.intro @agg_22 @agg_23)) (And.intro @agg_26 (And.intro @agg_53 @agg_55))) (And.intro (And.intro @csz_3 (And.intro @csz_22 @csz_23)) (And.intro @csz_26 (And.intro @csz_53 @csz_55)))) (And.intro (And.intro (And.intro @esz_23 (And.intro @esz_26 @fofs_25_0)) (And.intro @fofs_25_1 (And.intro @fofs_25_2 @fofs_55_0))) (And.intro (And.intro @fofs_55_1 (And.intro @fofs_55_2 @isz_55)) (And.intro (And.intro @und_3 @undT_22) (And.intro @undT_26 @zeroT_55))))
theorem ff_58 : type_of% (And.intro (And.intro (And.intro @agg_3 @agg_23) (And.intro @csz_3 @csz_23)) (And.intro (And.intro @esz_23 @fofs_25_2) (And.intro @fofs_55_0 (And.intro @und_3 @undT_23)))) := And.intro (And.intro (And.intro @agg_3 @agg_23) (And.intro @csz_3 @csz_23)) (And.intro (And.intro @esz_23 @fofs_25_2) (And.intro @fofs_55_0 (And.intro @und_3 @undT_23)))
theorem ff_59 : type_of% (And.intro (And.intro (And.intro @agg_3 (And.intro @agg_23 @agg_26)) (And.intro @csz_3 (And.intro @csz_23 @csz_26))) (And.intro (And.intro @esz_23 (And.intro @esz_26 @fofs_25_2)) (And.intro (And.intro @fofs_55_1 @und_3) (And.intro @undT_23 @undT_26)))) := And.intro (And.intro (And.intro @agg_3 (And.intro @agg_23 @agg_26)) (And.intro @csz_3 (And.intro @csz_23 @csz_26))) (And.intro (And.intro @esz_23 (And.intro @esz_26 @fofs_25_2)) (And.intro (And.intro @fofs_55_1 @und_3) (And.intro @undT_23 @undT_26)))
theorem ff_60 : type_of% (And.intro (And.intro (And.intro (And.intro @agg_3 @agg_22) (And.intro @agg_23 (And.intro @agg_26 @csz_3))) (And.intro (And.intro @csz_22 (And.intro @csz_23 @csz_26)) (And.intro @eapp_26_26 (And.intro @ebs_26_0 @ebs_26_1)))) (And.intro (And.intro (And.intro @esz_23 @esz_26) (And.intro @fofs_25_1 (And.intro @fofs_25_2 @fofs_55_0))) (And.intro (And.intro @fofs_55_1 (And.intro @grt_26_26 @isz_3)) (And.intro @undT_22 (And.intro @undT_23 @undT_26))))) := And.intro (And.intro (And.intro (And.intro @agg_3 @agg_22) (And.intro @agg_23 (And.intro @agg_26 @csz_3))) (And.intro (And.intro @csz_22 (And.intro @csz_23 @csz_26)) (And.intro @eapp_26_26 (And.intro @ebs_26_0 @ebs_26_1)))) (And.intro (And.intro (And.intro @esz_23 @esz_26) (And.intro @fofs_25_1 (And.intro @fofs_25_2 @fofs_55_0))) (And.intro (And.intro @fofs_55_1 (And.intro @grt_26_26 @isz_3)) (And.intro @undT_22 (And.intro @undT_23 @undT_26))))
theorem ff_61 : type_of% (And.intro (And.intro (And.intro (And.intro @agg_3 @agg_4) (And.intro @agg_23 @agg_55)) (And.intro (And.intro @csz_3 @csz_4) (And.intro @csz_23 @csz_55))) (And.intro (And.intro (And.intro @esz_23 @esz_58) (And.intro @fofs_25_2 @fofs_55_0)) (And.intro (And.intro @isz_4 @isz_55) (And.intro @undT_23 @zeroT_55)))) := And.intro (And.intro (And.intro (And.intro @agg_3 @agg_4) (And.intro @agg_23 @agg_55)) (And.intro (And.intro @csz_3 @csz_4) (And.intro @csz_23 @csz_55))) (And.intro (And.intro (And.intro @esz_23 @esz_58) (And.intro @fofs_25_2 @fofs_55_0)) (And.intro (And.intro @isz_4 @isz_55) (And.intro @undT_23 @zeroT_55)))
theorem ff_62 : type_of% (And.intro (And.intro (And.intro @agg_3 (And.intro @agg_4 @agg_26)) (And.intro @agg_58 (And.intro @csz_3 @csz_4))) (And.intro (And.intro @csz_26 (And.intro @csz_58 @esz_26)) (And.intro @esz_58 (And.intro @fofs_55_1 @undT_26)))) := And.intro (And.intro (And.intro @agg_3 (And.intro @agg_4 @agg_26)) (And.intro @agg_58 (And.intro @csz_3 @csz_4))) (And.intro (And.intro @csz_26 (And.intro @csz_58 @esz_26)) (And.intro @esz_58 (And.intro @fofs_55_1 @undT_26)))
theorem ff_63 : type_of% (And.intro (And.intro (And.intro @agg_3 @agg_4) (And.intro @agg_26 (And.intro @csz_3 @csz_4))) (And.intro (And.intro @csz_26 @esz_26) (And.intro @esz_58 (And.intro @fofs_55_1 @undT_26)))) := And.intro (And.intro (And.intro @agg_3 @agg_4) (And.intro @agg_26 (And.intro @csz_3 @csz_4))) (And.intro (And.intro @csz_26 @esz_26) (And.intro @esz_58 (And.intro @fofs_55_1 @undT_26)))
theorem ff_64 : type_of% (And.intro (And.intro (And.intro @agg_3 (And.intro @agg_4 @agg_26)) (And.intro @agg_58 (And.intro @csz_3 @csz_4))) (And.intro (And.intro @csz_26 (And.intro @csz_58 @esz_26)) (And.intro @esz_58 (And.intro @fofs_55_1 @undT_26)))) := And.intro (And.intro (And.intro @agg_3 (And.intro @agg_4 @agg_26)) (And.intro @agg_58 (And.intro @csz_3 @csz_4))) (And.intro (And.intro @csz_26 (And.intro @csz_58 @esz_26)) (And.intro @esz_58 (And.intro @fofs_55_1 @undT_26)))
theorem ff_65 : type_of% (And.intro (And.intro @agg_3 @csz_3) (And.intro @esz_26 @undT_26)) := And.intro (And.intro @agg_3 @csz_3) (And.intro @esz_26 @undT_26)
theorem ff_66 : type_of% (And.intro (And.intro (And.intro @agg_3 @agg_23) (And.intro @csz_3 @csz_23)) (And.intro (And.intro @esz_23 @fofs_25_2) (And.intro @fofs_55_0 (And.intro @und_3 @undT_23)))) := And.intro (And.intro (And.intro @agg_3 @agg_23) (And.intro @csz_3 @csz_23)) (And.intro (And.intro @esz_23 @fofs_25_2) (And.intro @fofs_55_0 (And.intro @und_3 @undT_23)))
theorem ff_67 : type_of% (And.intro (And.intro (And.intro (And.intro @agg_3 (And.intro @agg_23 @agg_60)) (And.intro @agg_67 (And.intro @agg_74 @csz_3))) (And.intro (And.intro @csz_23 (And.intro @csz_60 @csz_67)) (And.intro (And.intro @csz_74 @ebd_74) (And.intro @esz_23 @esz_60)))) (And.intro (And.intro (And.intro @esz_67 (And.intro @fofs_25_2 @fofs_55_0)) (And.intro @fofs_62_0 (And.intro @fofs_62_4 @fofs_69_0))) (And.intro (And.intro @fofs_74_0 (And.intro @fofs_74_1 @fofs_74_2)) (And.intro (And.intro @isz_74 @und_3) (And.intro @undT_67 @zeroT_74))))) := And.intro (And.intro (And.intro (And.intro @agg_3 (And.intro @agg_23 @agg_60)) (And.intro @agg_67 (And.intro @agg_74 @csz_3))) (And.intro (And.intro @csz_23 (And.intro @csz_60 @csz_67)) (And.intro (And.intro @csz_74 @ebd_74) (And.intro @esz_23 @esz_60)))) (And.intro (And.intro (And.intro @esz_67 (And.intro @fofs_25_2 @fofs_55_0)) (And.intro @fofs_62_0 (And.intro @fofs_62_4 @fofs_69_0))) (And.intro (And.intro @fofs_74_0 (And.intro @fofs_74_1 @fofs_74_2)) (And.intro (And.intro @isz_74 @und_3) (And.intro @undT_67 @zeroT_74))))
theorem ff_68 : type_of% (And.intro (And.intro @agg_3 @csz_3) (And.intro @esz_26 (And.intro @und_3 @undT_26))) := And.intro (And.intro @agg_3 @csz_3) (And.intro @esz_26 (And.intro @und_3 @undT_26))
theorem ff_69 : type_of% (And.intro (And.intro @agg_3 @csz_3) (And.intro @esz_26 (And.intro @und_3 @und_110))) := And.intro (And.intro @agg_3 @csz_3) (And.intro @esz_26 (And.intro @und_3 @und_110))
theorem ff_70 : type_of% (And.intro @und_102 @und_118) := And.intro @und_102 @und_118
theorem ff_75 : type_of% (@und_5) := @und_5
theorem ff_76 : type_of% (@und_5) := @und_5
theorem ff_77 : type_of% (And.intro @und_2 @und_53) := And.intro @und_2 @und_53
theorem ff_78 : type_of% (And.intro @und_3 @und_102) := And.intro @und_3 @und_102
theorem ff_79 : type_of% (And.intro (And.intro @agg_3 (And.intro @agg_23 @csz_3)) (And.intro (And.intro @csz_23 @esz_23) (And.intro @fofs_25_2 @fofs_55_0))) := And.intro (And.intro @agg_3 (And.intro @agg_23 @csz_3)) (And.intro (And.intro @csz_23 @esz_23) (And.intro @fofs_25_2 @fofs_55_0))
theorem ff_80 : type_of% (And.intro (And.intro @agg_3 @csz_3) (And.intro @esz_26 @isz_3)) := And.intro (And.intro @agg_3 @csz_3) (And.intro @esz_26 @isz_3)
theorem ff_90 : type_of% (And.intro (And.intro @und_3 @und_5) (And.intro @und_9 @und_120)) := And.intro (And.intro @und_3 @und_5) (And.intro @und_9 @und_120)
theorem ff_94 : type_of% (@und_120) := @und_120
theorem ff_101 : type_of% (@und_3) := @und_3
theorem ff_105 : type_of% (@und_4) := @und_4
theorem ff_107 : type_of% (@und_120) := @und_120
end Go.Proofs.Ytpdlmpbhohinpaa

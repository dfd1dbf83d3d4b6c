/- A part of a proof. Its conditions: none. -/
import Derived.Test.YtplnndgdklfnfaaAmD
import Derived.Test.YtplnndgdklfnfaaRows
import Derived.KernelRfl
set_option linter.all false
namespace Go.Proofs.Ytplnndgdklfnfaa
open Go.AM
def fns : List Nat := List.range 68
theorem fns_ok : fns.all (fnOKb Try.prog) = true := by kernel_rfl
theorem orders : Try.prog.follows .mixedOrders = true := by kernel_rfl
theorem agg_3 : aggT Try.prog 3 = some false := by kernel_rfl
theorem agg_4 : aggT Try.prog 4 = some false := by kernel_rfl
theorem agg_9 : aggT Try.prog 9 = some false := by kernel_rfl
theorem agg_22 : aggT Try.prog 22 = some false := by kernel_rfl
theorem agg_23 : aggT Try.prog 23 = some false := by kernel_rfl
theorem agg_25 : aggT Try.prog 25 = some true := by kernel_rfl
theorem agg_30 : aggT Try.prog 30 = some false := by kernel_rfl
theorem agg_35 : aggT Try.prog 35 = some false := by kernel_rfl
theorem agg_46 : aggT Try.prog 46 = some false := by kernel_rfl
theorem agg_48 : aggT Try.prog 48 = some true := by kernel_rfl
theorem agg_57 : aggT Try.prog 57 = some false := by kernel_rfl
theorem agg_60 : aggT Try.prog 60 = some true := by kernel_rfl
theorem csz_3 : Program.cellsOf Try.prog 3 = 1 := by kernel_rfl
theorem csz_4 : Program.cellsOf Try.prog 4 = 1 := by kernel_rfl
theorem csz_9 : Program.cellsOf Try.prog 9 = 1 := by kernel_rfl
theorem csz_22 : Program.cellsOf Try.prog 22 = 1 := by kernel_rfl
theorem csz_23 : Program.cellsOf Try.prog 23 = 1 := by kernel_rfl
theorem csz_25 : Program.cellsOf Try.prog 25 = 3 := by kernel_rfl
theorem csz_30 : Program.cellsOf Try.prog 30 = 1 := by kernel_rfl
theorem csz_35 : Program.cellsOf Try.prog 35 = 1 := by kernel_rfl
theorem csz_46 : Program.cellsOf Try.prog 46 = 1 := by kernel_rfl
theorem csz_48 : Program.cellsOf Try.prog 48 = 3 := by kernel_rfl
theorem csz_57 : Program.cellsOf Try.prog 57 = 1 := by kernel_rfl
theorem csz_60 : Program.cellsOf Try.prog 60 = 3 := by kernel_rfl
theorem eapp_28_28 : eapp Try.prog #[28, 28] = some (30, 1) := by kernel_rfl
theorem eapp_30_30 : eapp Try.prog #[30, 30] = some (4, 1) := by kernel_rfl
theorem eapp_33_33 : eapp Try.prog #[33, 33] = some (35, 1) := by kernel_rfl
theorem eapp_35_35 : eapp Try.prog #[35, 35] = some (3, 1) := by kernel_rfl
theorem eapp_57_57 : eapp Try.prog #[57, 57] = some (60, 3) := by kernel_rfl
theorem ebd_25 : ebd Try.prog 25 = some ([Value.slice none 0 0, Value.slice none 0 0, Value.slice none 0 0], [(0, 1), (1, 1), (2, 1)]) := by kernel_rfl
theorem ebd_48 : ebd Try.prog 48 = some ([Value.int IntKind.i64 (Int.ofNat 0), Value.slice none 0 0, Value.float FloatKind.f64 0], [(0, 1), (1, 1), (2, 1)]) := by kernel_rfl
theorem ebd_60 : ebd Try.prog 60 = some ([Value.int IntKind.i64 (Int.ofNat 0), Value.int IntKind.i64 (Int.ofNat 0), Value.int IntKind.i64 (Int.ofNat 0)], [(0, 1), (1, 1), (2, 1)]) := by kernel_rfl
theorem ebd_78 : ebd Try.prog 78 = some ([Value.slice none 0 0, Value.slice none 0 0, Value.slice none 0 0, Value.slice none 0 0, Value.slice none 0 0], [(0, 3), (3, 1), (4, 1)]) := by kernel_rfl
theorem ebs_22_2 : ebs Try.prog 22 2 = some (9, 1, [Value.string { data := { toList := [] } }]) := by kernel_rfl
theorem ebs_23_3 : ebs Try.prog 23 3 = some (48, 3, [Value.int IntKind.i64 (Int.ofNat 0), Value.slice none 0 0, Value.float FloatKind.f64 0]) := by kernel_rfl
theorem ebs_28_0 : ebs Try.prog 28 0 = some (30, 1, [Value.slice none 0 0]) := by kernel_rfl
theorem ebs_28_1 : ebs Try.prog 28 1 = some (30, 1, [Value.slice none 0 0]) := by kernel_rfl
theorem ebs_30_0 : ebs Try.prog 30 0 = some (4, 1, [Value.bool false]) := by kernel_rfl
theorem ebs_30_1 : ebs Try.prog 30 1 = some (4, 1, [Value.bool false]) := by kernel_rfl
theorem ebs_33_0 : ebs Try.prog 33 0 = some (35, 1, [Value.slice none 0 0]) := by kernel_rfl
theorem ebs_33_1 : ebs Try.prog 33 1 = some (35, 1, [Value.slice none 0 0]) := by kernel_rfl
theorem ebs_35_0 : ebs Try.prog 35 0 = some (3, 1, [Value.int IntKind.i64 (Int.ofNat 0)]) := by kernel_rfl
theorem ebs_35_1 : ebs Try.prog 35 1 = some (3, 1, [Value.int IntKind.i64 (Int.ofNat 0)]) := by kernel_rfl
theorem ebs_35_3 : ebs Try.prog 35 3 = some (3, 1, [Value.int IntKind.i64 (Int.ofNat 0)]) := by kernel_rfl
theorem ebs_57_1 : ebs Try.prog 57 1 = some (60, 3, [Value.int IntKind.i64 (Int.ofNat 0), Value.int IntKind.i64 (Int.ofNat 0), Value.int IntKind.i64 (Int.ofNat 0)]) := by kernel_rfl
theorem emk_28 : emk Try.prog 28 = some (30, [Value.slice none 0 0]) := by kernel_rfl
theorem emk_30 : emk Try.prog 30 = some (4, [Value.bool false]) := by kernel_rfl
theorem emk_35 : emk Try.prog 35 = some (3, [Value.int IntKind.i64 (Int.ofNat 0)]) := by kernel_rfl
theorem emk_57 : emk Try.prog 57 = some (60, [Value.int IntKind.i64 (Int.ofNat 0), Value.int IntKind.i64 (Int.ofNat 0), Value.int IntKind.i64 (Int.ofNat 0)]) := by kernel_rfl
theorem emk_69 : emk Try.prog 69 = some (57, [Value.slice none 0 0]) := by kernel_rfl
theorem esz_22 : esz Try.prog 22 = some (9, 1) := by kernel_rfl
theorem esz_23 : esz Try.prog 23 = some (48, 3) := by kernel_rfl
theorem esz_28 : esz Try.prog 28 = some (30, 1) := by kernel_rfl
theorem esz_30 : esz Try.prog 30 = some (4, 1) := by kernel_rfl
theorem esz_33 : esz Try.prog 33 = some (35, 1) := by kernel_rfl
theorem esz_35 : esz Try.prog 35 = some (3, 1) := by kernel_rfl
theorem esz_57 : esz Try.prog 57 = some (60, 3) := by kernel_rfl
theorem esz_69 : esz Try.prog 69 = some (57, 1) := by kernel_rfl
theorem fofs_25_0 : fofs Try.prog 25 0 = some 0 := by kernel_rfl
theorem fofs_25_1 : fofs Try.prog 25 1 = some 1 := by kernel_rfl
theorem fofs_25_2 : fofs Try.prog 25 2 = some 2 := by kernel_rfl
theorem fofs_48_0 : fofs Try.prog 48 0 = some 0 := by kernel_rfl
theorem fofs_48_1 : fofs Try.prog 48 1 = some 1 := by kernel_rfl
theorem fofs_48_2 : fofs Try.prog 48 2 = some 2 := by kernel_rfl
theorem fofs_60_0 : fofs Try.prog 60 0 = some 0 := by kernel_rfl
theorem fofs_60_1 : fofs Try.prog 60 1 = some 1 := by kernel_rfl
theorem fofs_60_2 : fofs Try.prog 60 2 = some 2 := by kernel_rfl
theorem fofs_78_0 : fofs Try.prog 78 0 = some 0 := by kernel_rfl
theorem fofs_78_1 : fofs Try.prog 78 1 = some 3 := by kernel_rfl
theorem fofs_78_2 : fofs Try.prog 78 2 = some 4 := by kernel_rfl
theorem isz_3 : isz Try.prog 3 = some 1 := by kernel_rfl
theorem isz_4 : isz Try.prog 4 = some 1 := by kernel_rfl
theorem isz_25 : isz Try.prog 25 = some 3 := by kernel_rfl
theorem isz_30 : isz Try.prog 30 = some 1 := by kernel_rfl
theorem isz_35 : isz Try.prog 35 = some 1 := by kernel_rfl
theorem isz_48 : isz Try.prog 48 = some 3 := by kernel_rfl
theorem isz_57 : isz Try.prog 57 = some 1 := by kernel_rfl
theorem isz_60 : isz Try.prog 60 = some 3 := by kernel_rfl
theorem und_2 : Program.underlying Try.prog 2 = some (TypeDesc.int IntKind.i64) := by kernel_rfl
theorem und_3 : Program.underlying Try.prog 3 = some (TypeDesc.int IntKind.i64) := by kernel_rfl
theorem und_4 : Program.underlying Try.prog 4 = some TypeDesc.bool := by kernel_rfl
theorem und_5 : Program.underlying Try.prog 5 = some (TypeDesc.int IntKind.u8) := by kernel_rfl
theorem und_9 : Program.underlying Try.prog 9 = some TypeDesc.string := by kernel_rfl
theorem und_38 : Program.underlying Try.prog 38 = some (TypeDesc.int IntKind.i64) := by kernel_rfl
theorem und_46 : Program.underlying Try.prog 46 = some (TypeDesc.float FloatKind.f64) := by kernel_rfl
theorem und_88 : Program.underlying Try.prog 88 = some (TypeDesc.int IntKind.u64) := by kernel_rfl
theorem undT_9 : undT Try.prog #[9] = some TypeDesc.string := by kernel_rfl
theorem undT_22 : undT Try.prog #[22] = some (TypeDesc.slice 9) := by kernel_rfl
theorem undT_23 : undT Try.prog #[23] = some (TypeDesc.slice 48) := by kernel_rfl
theorem undT_28 : undT Try.prog #[28] = some (TypeDesc.slice 30) := by kernel_rfl
theorem undT_30 : undT Try.prog #[30] = some (TypeDesc.slice 4) := by kernel_rfl
theorem undT_33 : undT Try.prog #[33] = some (TypeDesc.slice 35) := by kernel_rfl
theorem undT_35 : undT Try.prog #[35] = some (TypeDesc.slice 3) := by kernel_rfl
theorem undT_57 : undT Try.prog #[57] = some (TypeDesc.slice 60) := by kernel_rfl
theorem undT_69 : undT Try.prog #[69] = some (TypeDesc.slice 57) := by kernel_rfl
theorem zeroT_3 : zeroT Try.prog 3 = some (Value.int IntKind.i64 (Int.ofNat 0)) := by kernel_rfl
theorem zeroT_25 : zeroT Try.prog 25 = some (Value.agg { toList := [Value.slice none 0 0, Value.slice none 0 0, Value.slice none 0 0] }) := by kernel_rfl
theorem zeroT_30 : zeroT Try.prog 30 = some (Value.slice none 0 0) := by kernel_rfl
theorem zeroT_48 : zeroT Try.prog 48 = some (Value.agg { toList := [Value.int IntKind.i64 (Int.ofNat 0), Value.slice none 0 0, Value.float FloatKind.f64 0] }) := by kernel_rfl
theorem zeroT_60 : zeroT Try.prog 60 = some (Value.agg { toList := [Value.int IntKind.i64 (Int.ofNat 0), Value.int IntKind.i64 (Int.ofNat 0), Value.int IntKind.i64 (Int.ofNat 0)] }) := by kernel_rfl
theorem ok3 : FnOK Try.prog 3 Try.f3 (Try.f3.body.getD .skip) := fnOK_of fns_ok 3 _ _ (by kernel_rfl) Try.func3 rfl
theorem ok4 : FnOK Try.prog 4 Try.f4 (Try.f4.body.getD .skip) := fnOK_of fns_ok 4 _ _ (by kernel_rfl) Try.func4 rfl
theorem ok5 : FnOK Try.prog 5 Try.f5 (Try.f5.body.getD .skip) := fnOK_of fns_ok 5 _ _ (by kernel_rfl) Try.func5 rfl
theorem ok6 : FnOK Try.prog 6 Try.f6 (Try.f6.body.getD .skip) := fnOK_of fns_ok 6 _ _ (by kernel_rfl) Try.func6 rfl
theorem ok7 : FnOK Try.prog 7 Try.f7 (Try.f7.body.getD .skip) := fnOK_of fns_ok 7 _ _ (by kernel_rfl) Try.func7 rfl
theorem ok8 : FnOK Try.prog 8 Try.f8 (Try.f8.body.getD .skip) := fnOK_of fns_ok 8 _ _ (by kernel_rfl) Try.func8 rfl
theorem ok9 : FnOK Try.prog 9 Try.f9 (Try.f9.body.getD .skip) := fnOK_of fns_ok 9 _ _ (by kernel_rfl) Try.func9 rfl
theorem ok10 : FnOK Try.prog 10 Try.f10 (Try.f10.body.getD .skip) := fnOK_of fns_ok 10 _ _ (by kernel_rfl) Try.func10 rfl
theorem ok11 : FnOK Try.prog 11 Try.f11 (Try.f11.body.getD .skip) := fnOK_of fns_ok 11 _ _ (by kernel_rfl) Try.func11 rfl
theorem ok12 : FnOK Try.prog 12 Try.f12 (Try.f12.body.getD .skip) := fnOK_of fns_ok 12 _ _ (by kernel_rfl) Try.func12 rfl
theorem ok13 : FnOK Try.prog 13 Try.f13 (Try.f13.body.getD .skip) := fnOK_of fns_ok 13 _ _ (by kernel_rfl) Try.func13 rfl
theorem ok14 : FnOK Try.prog 14 Try.f14 (Try.f14.body.getD .skip) := fnOK_of fns_ok 14 _ _ (by kernel_rfl) Try.func14 rfl
theorem ok15 : FnOK Try.prog 15 Try.f15 (Try.f15.body.getD .skip) := fnOK_of fns_ok 15 _ _ (by kernel_rfl) Try.func15 rfl
theorem ok16 : FnOK Try.prog 16 Try.f16 (Try.f16.body.getD .skip) := fnOK_of fns_ok 16 _ _ (by kernel_rfl) Try.func16 rfl
theorem ok17 : FnOK Try.prog 17 Try.f17 (Try.f17.body.getD .skip) := fnOK_of fns_ok 17 _ _ (by kernel_rfl) Try.func17 rfl
theorem ok18 : FnOK Try.prog 18 Try.f18 (Try.f18.body.getD .skip) := fnOK_of fns_ok 18 _ _ (by kernel_rfl) Try.func18 rfl
theorem ok19 : FnOK Try.prog 19 Try.f19 (Try.f19.body.getD .skip) := fnOK_of fns_ok 19 _ _ (by kernel_rfl) Try.func19 rfl
theorem ok20 : FnOK Try.prog 20 Try.f20 (Try.f20.body.getD .skip) := fnOK_of fns_ok 20 _ _ (by kernel_rfl) Try.func20 rfl
theorem ok21 : FnOK Try.prog 21 Try.f21 (Try.f21.body.getD .skip) := fnOK_of fns_ok 21 _ _ (by kernel_rfl) Try.func21 rfl
theorem ok22 : FnOK Try.prog 22 Try.f22 (Try.f22.body.getD .skip) := fnOK_of fns_ok 22 _ _ (by kernel_rfl) Try.func22 rfl
theorem ok23 : FnOK Try.prog 23 Try.f23 (Try.f23.body.getD .skip) := fnOK_of fns_ok 23 _ _ (by kernel_rfl) Try.func23 rfl
theorem ok24 : FnOK Try.prog 24 Try.f24 (Try.f24.body.getD .skip) := fnOK_of fns_ok 24 _ _ (by kernel_rfl) Try.func24 rfl
theorem ok25 : FnOK Try.prog 25 Try.f25 (Try.f25.body.getD .skip) := fnOK_of fns_ok 25 _ _ (by kernel_rfl) Try.func25 rfl
theorem ok26 : FnOK Try.prog 26 Try.f26 (Try.f26.body.getD .skip) := fnOK_of fns_ok 26 _ _ (by kernel_rfl) Try.func26 rfl
theorem ok27 : FnOK Try.prog 27 Try.f27 (Try.f27.body.getD .skip) := fnOK_of fns_ok 27 _ _ (by kernel_rfl) Try.func27 rfl
theorem ok28 : FnOK Try.prog 28 Try.f28 (Try.f28.body.getD .skip) := fnOK_of fns_ok 28 _ _ (by kernel_rfl) Try.func28 rfl
theorem ok29 : FnOK Try.prog 29 Try.f29 (Try.f29.body.getD .skip) := fnOK_of fns_ok 29 _ _ (by kernel_rfl) Try.func29 rfl
theorem ok30 : FnOK Try.prog 30 Try.f30 (Try.f30.body.getD .skip) := fnOK_of fns_ok 30 _ _ (by kernel_rfl) Try.func30 rfl
theorem ok31 : FnOK Try.prog 31 Try.f31 (Try.f31.body.getD .skip) := fnOK_of fns_ok 31 _ _ (by kernel_rfl) Try.func31 rfl
theorem ok32 : FnOK Try.prog 32 Try.f32 (Try.f32.body.getD .skip) := fnOK_of fns_ok 32 _ _ (by kernel_rfl) Try.func32 rfl
theorem ok33 : FnOK Try.prog 33 Try.f33 (Try.f33.body.getD .skip) := fnOK_of fns_ok 33 _ _ (by kernel_rfl) Try.func33 rfl
theorem ok34 : FnOK Try.prog 34 Try.f34 (Try.f34.body.getD .skip) := fnOK_of fns_ok 34 _ _ (by kernel_rfl) Try.func34 rfl
theorem ok35 : FnOK Try.prog 35 Try.f35 (Try.f35.body.getD .skip) := fnOK_of fns_ok 35 _ _ (by kernel_rfl) Try.func35 rfl
theorem ok36 : FnOK Try.prog 36 Try.f36 (Try.f36.body.getD .skip) := fnOK_of fns_ok 36 _ _ (by kernel_rfl) Try.func36 rfl
theorem ok37 : FnOK Try.prog 37 Try.f37 (Try.f37.body.getD .skip) := fnOK_of fns_ok 37 _ _ (by kernel_rfl) Try.func37 rfl
theorem ok38 : FnOK Try.prog 38 Try.f38 (Try.f38.body.getD .skip) := fnOK_of fns_ok 38 _ _ (by kernel_rfl) Try.func38 rfl
theorem ok39 : FnOK Try.prog 39 Try.f39 (Try.f39.body.getD .skip) := fnOK_of fns_ok 39 _ _ (by kernel_rfl) Try.func39 rfl
theorem ok40 : FnOK Try.prog 40 Try.f40 (Try.f40.body.getD .skip) := fnOK_of fns_ok 40 _ _ (by kernel_rfl) Try.func40 rfl
theorem ok41 : FnOK Try.prog 41 Try.f41 (Try.f41.body.getD .skip) := fnOK_of fns_ok 41 _ _ (by kernel_rfl) Try.func41 rfl
theorem ok42 : FnOK Try.prog 42 Try.f42 (Try.f42.body.getD .skip) := fnOK_of fns_ok 42 _ _ (by kernel_rfl) Try.func42 rfl
theorem ok43 : FnOK Try.prog 43 Try.f43 (Try.f43.body.getD .skip) := fnOK_of fns_ok 43 _ _ (by kernel_rfl) Try.func43 rfl
theorem ok44 : FnOK Try.prog 44 Try.f44 (Try.f44.body.getD .skip) := fnOK_of fns_ok 44 _ _ (by kernel_rfl) Try.func44 rfl
theorem ok45 : FnOK Try.prog 45 Try.f45 (Try.f45.body.getD .skip) := fnOK_of fns_ok 45 _ _ (by kernel_rfl) Try.func45 rfl
theorem ok46 : FnOK Try.prog 46 Try.f46 (Try.f46.body.getD .skip) := fnOK_of fns_ok 46 _ _ (by kernel_rfl) Try.func46 rfl
theorem ok47 : FnOK Try.prog 47 Try.f47 (Try.f47.body.getD .skip) := fnOK_of fns_ok 47 _ _ (by kernel_rfl) Try.func47 rfl
theorem ok48 : FnOK Try.prog 48 Try.f48 (Try.f48.body.getD .skip) := fnOK_of fns_ok 48 _ _ (by kernel_rfl) Try.func48 rfl
theorem ok49 : FnOK Try.prog 49 Try.f49 (Try.f49.body.getD .skip) := fnOK_of fns_ok 49 _ _ (by kernel_rfl) Try.func49 rfl
theorem ok50 : FnOK Try.prog 50 Try.f50 (Try.f50.body.getD .skip) := fnOK_of fns_ok 50 _ _ (by kernel_rfl) Try.func50 rfl
theorem ok51 : FnOK Try.prog 51 Try.f51 (Try.f51.body.getD .skip) := fnOK_of fns_ok 51 _ _ (by kernel_rfl) Try.func51 rfl
theorem ok52 : FnOK Try.prog 52 Try.f52 (Try.f52.body.getD .skip) := fnOK_of fns_ok 52 _ _ (by kernel_rfl) Try.func52 rfl
theorem ok53 : FnOK Try.prog 53 Try.f53 (Try.f53.body.getD .skip) := fnOK_of fns_ok 53 _ _ (by kernel_rfl) Try.func53 rfl
theorem ok54 : FnOK Try.prog 54 Try.f54 (Try.f54.body.getD .skip) := fnOK_of fns_ok 54 _ _ (by kernel_rfl) Try.func54 rfl
theorem ok55 : FnOK Try.prog 55 Try.f55 (Try.f55.body.getD .skip) := fnOK_of fns_ok 55 _ _ (by kernel_rfl) Try.func55 rfl
theorem ok56 : FnOK Try.prog 56 Try.f56 (Try.f56.body.getD .skip) := fnOK_of fns_ok 56 _ _ (by kernel_rfl) Try.func56 rfl
theorem ok57 : FnOK Try.prog 57 Try.f57 (Try.f57.body.getD .skip) := fnOK_of fns_ok 57 _ _ (by kernel_rfl) Try.func57 rfl
theorem ok58 : FnOK Try.prog 58 Try.f58 (Try.f58.body.getD .skip) := fnOK_of fns_ok 58 _ _ (by kernel_rfl) Try.func58 rfl
theorem ok59 : FnOK Try.prog 59 Try.f59 (Try.f59.body.getD .skip) := fnOK_of fns_ok 59 _ _ (by kernel_rfl) Try.func59 rfl
theorem ok61 : FnOK Try.prog 61 Try.f61 (Try.f61.body.getD .skip) := fnOK_of fns_ok 61 _ _ (by kernel_rfl) Try.func61 rfl
theorem ok63 : FnOK Try.prog 63 Try.f63 (Try.f63.body.getD .skip) := fnOK_of fns_ok 63 _ _ (by kernel_rfl) Try.func63 rfl
theorem ok64 : FnOK Try.prog 64 Try.f64 (Try.f64.body.getD .skip) := fnOK_of fns_ok 64 _ _ (by kernel_rfl) Try.func64 rfl
theorem ok65 : FnOK Try.prog 65 Try.f65 (Try.f65.body.getD .skip) := fnOK_of fns_ok 65 _ _ (by kernel_rfl) Try.func65 rfl
theorem ok66 : FnOK Try.prog 66 Try.f66 (Try.f66.body.getD .skip) := fnOK_of fns_ok 66 _ _ (by kernel_rfl) Try.func66 rfl
theorem ok67 : FnOK Try.prog 67 Try.f67 (Try.f67.body.getD .skip) := fnOK_of fns_ok 67 _ _ (by kernel_rfl) Try.func67 rfl
theorem ff_3 : type_of% (And.intro (And.intro (And.intro @agg_4 (And.intro @agg_25 @agg_30)) (And.intro @csz_4 (And.intro @csz_25 @csz_30))) (And.intro (And.intro @esz_28 (And.intro @esz_30 @und_3)) (And.intro @und_4 (And.intro @undT_28 @undT_30)))) := And.intro (And.intro (And.intro @agg_4 (And.intro @agg_25 @agg_30)) (And.intro @csz_4 (And.intro @csz_25 @csz_30))) (And.intro (And.intro @esz_28 (And.intro @esz_30 @und_3)) (And.intro @und_4 (And.intro @undT_28 @undT_30)))
theorem ff_4 : type_of% (And.intro (And.intro (And.intro (And.intro @agg_3 @agg_4) (And.intro @agg_22 @agg_25)) (And.intro (And.intro @agg_30 @csz_3) (And.intro @csz_4 (And.intro @csz_22 @csz_25)))) (And.intro (And.intro (And.intro @csz_30 @ebs_35_1) (And.intro @esz_28 (And.intro @esz_30 @esz_35))) (And.intro (And.intro @fofs_25_1 @und_3) (And.intro @und_38 (And.intro @undT_22 @undT_35))))) := And.intro (And.intro (And.intro (And.intro @agg_3 @agg_4) (And.intro @agg_22 @agg_25)) (And.intro (And.intro @agg_30 @csz_3) (And.intro @csz_4 (And.intro @csz_22 @csz_25)))) (And.intro (And.intro (And.intro @csz_30 @ebs_35_1) (And.intro @esz_28 (And.intro @esz_30 @esz_35))) (And.intro (And.intro @fofs_25_1 @und_3) (And.intro @und_38 (And.intro @undT_22 @undT_35))))
theorem ff_5 : type_of% (And.intro (And.intro (And.intro (And.intro @agg_3 @agg_4) (And.intro @agg_22 @agg_25)) (And.intro (And.intro @agg_30 @csz_3) (And.intro @csz_4 (And.intro @csz_22 @csz_25)))) (And.intro (And.intro (And.intro @csz_30 @ebs_35_1) (And.intro @esz_28 (And.intro @esz_30 @esz_35))) (And.intro (And.intro @fofs_25_1 @und_3) (And.intro @und_4 (And.intro @undT_22 @undT_35))))) := And.intro (And.intro (And.intro (And.intro @agg_3 @agg_4) (And.intro @agg_22 @agg_25)) (And.intro (And.intro @agg_30 @csz_3) (And.intro @csz_4 (And.intro @csz_22 @csz_25)))) (And.intro (And.intro (And.intro @csz_30 @ebs_35_1) (And.intro @esz_28 (And.intro @esz_30 @esz_35))) (And.intro (And.intro @fofs_25_1 @und_3) (And.intro @und_4 (And.intro @undT_22 @undT_35))))
theorem ff_6 : type_of% (And.intro (And.intro (And.intro (And.intro @agg_3 @agg_4) (And.intro @agg_22 (And.intro @agg_25 @agg_35))) (And.intro (And.intro @csz_3 (And.intro @csz_4 @csz_22)) (And.intro @csz_25 (And.intro @csz_35 @emk_35)))) (And.intro (And.intro (And.intro @esz_30 @esz_33) (And.intro @esz_35 (And.intro @fofs_25_1 @isz_3))) (And.intro (And.intro @und_3 (And.intro @und_4 @undT_22)) (And.intro @undT_30 (And.intro @undT_33 @undT_35))))) := And.intro (And.intro (And.intro (And.intro @agg_3 @agg_4) (And.intro @agg_22 (And.intro @agg_25 @agg_35))) (And.intro (And.intro @csz_3 (And.intro @csz_4 @csz_22)) (And.intro @csz_25 (And.intro @csz_35 @emk_35)))) (And.intro (And.intro (And.intro @esz_30 @esz_33) (And.intro @esz_35 (And.intro @fofs_25_1 @isz_3))) (And.intro (And.intro @und_3 (And.intro @und_4 @undT_22)) (And.intro @undT_30 (And.intro @undT_33 @undT_35))))
theorem ff_7 : type_of% (And.intro (And.intro @agg_4 (And.intro @csz_4 @ebs_33_1)) (And.intro (And.intro @ebs_35_1 @esz_30) (And.intro @und_3 @undT_30))) := And.intro (And.intro @agg_4 (And.intro @csz_4 @ebs_33_1)) (And.intro (And.intro @ebs_35_1 @esz_30) (And.intro @und_3 @undT_30))
theorem ff_8 : type_of% (And.intro (And.intro (And.intro @agg_22 (And.intro @agg_23 @agg_35)) (And.intro (And.intro @csz_22 @csz_23) (And.intro @csz_35 @esz_23))) (And.intro (And.intro @fofs_25_0 (And.intro @fofs_25_1 @fofs_25_2)) (And.intro (And.intro @fofs_48_1 @undT_22) (And.intro @undT_23 @undT_35)))) := And.intro (And.intro (And.intro @agg_22 (And.intro @agg_23 @agg_35)) (And.intro (And.intro @csz_22 @csz_23) (And.intro @csz_35 @esz_23))) (And.intro (And.intro @fofs_25_0 (And.intro @fofs_25_1 @fofs_25_2)) (And.intro (And.intro @fofs_48_1 @undT_22) (And.intro @undT_23 @undT_35)))
theorem ff_9 : type_of% (And.intro (And.intro (And.intro @agg_9 (And.intro @agg_22 @agg_23)) (And.intro (And.intro @agg_25 @csz_9) (And.intro @csz_22 @csz_23))) (And.intro (And.intro (And.intro @csz_25 @esz_22) (And.intro @fofs_25_0 @fofs_25_1)) (And.intro (And.intro @fofs_25_2 @und_3) (And.intro @undT_22 @undT_23)))) := And.intro (And.intro (And.intro @agg_9 (And.intro @agg_22 @agg_23)) (And.intro (And.intro @agg_25 @csz_9) (And.intro @csz_22 @csz_23))) (And.intro (And.intro (And.intro @csz_25 @esz_22) (And.intro @fofs_25_0 @fofs_25_1)) (And.intro (And.intro @fofs_25_2 @und_3) (And.intro @undT_22 @undT_23)))
theorem ff_10 : type_of% (And.intro (And.intro (And.intro (And.intro @agg_4 @agg_22) (And.intro @agg_25 @agg_30)) (And.intro (And.intro @csz_4 @csz_22) (And.intro @csz_25 (And.intro @csz_30 @eapp_28_28)))) (And.intro (And.intro (And.intro @eapp_30_30 @ebs_28_0) (And.intro @ebs_28_1 (And.intro @ebs_30_0 @ebs_30_1))) (And.intro (And.intro @esz_28 @esz_30) (And.intro @fofs_25_1 (And.intro @isz_4 @undT_22))))) := And.intro (And.intro (And.intro (And.intro @agg_4 @agg_22) (And.intro @agg_25 @agg_30)) (And.intro (And.intro @csz_4 @csz_22) (And.intro @csz_25 (And.intro @csz_30 @eapp_28_28)))) (And.intro (And.intro (And.intro @eapp_30_30 @ebs_28_0) (And.intro @ebs_28_1 (And.intro @ebs_30_0 @ebs_30_1))) (And.intro (And.intro @esz_28 @esz_30) (And.intro @fofs_25_1 (And.intro @isz_4 @undT_22))))
theorem ff_11 : type_of% (And.intro (And.intro (And.intro @agg_4 (And.intro @agg_22 @agg_25)) (And.intro (And.intro @agg_30 @csz_4) (And.intro @csz_22 @csz_25))) (And.intro (And.intro (And.intro @csz_30 @emk_30) (And.intro @esz_28 @esz_30)) (And.intro (And.intro @fofs_25_1 @isz_4) (And.intro @undT_22 @undT_28)))) := And.intro (And.intro (And.intro @agg_4 (And.intro @agg_22 @agg_25)) (And.intro (And.intro @agg_30 @csz_4) (And.intro @csz_22 @csz_25))) (And.intro (And.intro (And.intro @csz_30 @emk_30) (And.intro @esz_28 @esz_30)) (And.intro (And.intro @fofs_25_1 @isz_4) (And.intro @undT_22 @undT_28)))
theorem ff_12 : type_of% (And.intro (And.intro @agg_35 @csz_35) (And.intro @esz_33 (And.intro @und_3 @undT_33))) := And.intro (And.intro @agg_35 @csz_35) (And.intro @esz_33 (And.intro @und_3 @undT_33))
theorem ff_13 : type_of% (And.intro (And.intro (And.intro (And.intro @agg_3 @agg_4) (And.intro @agg_25 @agg_30)) (And.intro (And.intro @csz_3 @csz_4) (And.intro @csz_25 @csz_30))) (And.intro (And.intro (And.intro @eapp_33_33 @eapp_35_35) (And.intro @ebs_33_1 @ebs_35_1)) (And.intro (And.intro @esz_28 @esz_30) (And.intro @isz_3 (And.intro @undT_28 @zeroT_3))))) := And.intro (And.intro (And.intro (And.intro @agg_3 @agg_4) (And.intro @agg_25 @agg_30)) (And.intro (And.intro @csz_3 @csz_4) (And.intro @csz_25 @csz_30))) (And.intro (And.intro (And.intro @eapp_33_33 @eapp_35_35) (And.intro @ebs_33_1 @ebs_35_1)) (And.intro (And.intro @esz_28 @esz_30) (And.intro @isz_3 (And.intro @undT_28 @zeroT_3))))
theorem ff_14 : type_of% (And.intro (And.intro (And.intro (And.intro @agg_4 @agg_25) (And.intro @agg_30 @csz_4)) (And.intro (And.intro @csz_25 @csz_30) (And.intro @eapp_33_33 @eapp_35_35))) (And.intro (And.intro (And.intro @ebs_33_0 @ebs_33_1) (And.intro @ebs_35_0 @ebs_35_1)) (And.intro (And.intro @esz_28 @esz_30) (And.intro @und_3 @undT_28)))) := And.intro (And.intro (And.intro (And.intro @agg_4 @agg_25) (And.intro @agg_30 @csz_4)) (And.intro (And.intro @csz_25 @csz_30) (And.intro @eapp_33_33 @eapp_35_35))) (And.intro (And.intro (And.intro @ebs_33_0 @ebs_33_1) (And.intro @ebs_35_0 @ebs_35_1)) (And.intro (And.intro @esz_28 @esz_30) (And.intro @und_3 @undT_28)))
theorem ff_15 : type_of% (And.intro (And.intro (And.intro (And.intro @agg_3 (And.intro @agg_22 @agg_23)) (And.intro @agg_25 (And.intro @agg_35 @agg_60))) (And.intro (And.intro @csz_3 (And.intro @csz_22 @csz_23)) (And.intro (And.intro @csz_25 @csz_35) (And.intro @csz_60 @eapp_35_35)))) (And.intro (And.intro (And.intro @ebs_35_1 (And.intro @esz_23 @esz_35)) (And.intro (And.intro @esz_57 @fofs_25_1) (And.intro @fofs_25_2 @fofs_48_1))) (And.intro (And.intro @fofs_60_0 (And.intro @fofs_60_1 @isz_60)) (And.intro (And.intro @undT_22 @undT_35) (And.intro @undT_57 @zeroT_60))))) := And.intro (And.intro (And.intro (And.intro @agg_3 (And.intro @agg_22 @agg_23)) (And.intro @agg_25 (And.intro @agg_35 @agg_60))) (And.intro (And.intro @csz_3 (And.intro @csz_22 @csz_23)) (And.intro (And.intro @csz_25 @csz_35) (And.intro @csz_60 @eapp_35_35)))) (And.intro (And.intro (And.intro @ebs_35_1 (And.intro @esz_23 @esz_35)) (And.intro (And.intro @esz_57 @fofs_25_1) (And.intro @fofs_25_2 @fofs_48_1))) (And.intro (And.intro @fofs_60_0 (And.intro @fofs_60_1 @isz_60)) (And.intro (And.intro @undT_22 @undT_35) (And.intro @undT_57 @zeroT_60))))
theorem ff_16 : type_of% (And.intro (And.intro (And.intro (And.intro @agg_3 (And.intro @agg_22 @agg_23)) (And.intro @agg_35 (And.intro @agg_48 @csz_3))) (And.intro (And.intro @csz_22 (And.intro @csz_23 @csz_35)) (And.intro @csz_48 (And.intro @emk_35 @esz_23)))) (And.intro (And.intro (And.intro @esz_35 (And.intro @fofs_25_1 @fofs_25_2)) (And.intro @fofs_48_0 (And.intro @fofs_48_1 @isz_3))) (And.intro (And.intro @isz_48 (And.intro @und_3 @undT_22)) (And.intro @undT_23 (And.intro @undT_35 @zeroT_48))))) := And.intro (And.intro (And.intro (And.intro @agg_3 (And.intro @agg_22 @agg_23)) (And.intro @agg_35 (And.intro @agg_48 @csz_3))) (And.intro (And.intro @csz_22 (And.intro @csz_23 @csz_35)) (And.intro @csz_48 (And.intro @emk_35 @esz_23)))) (And.intro (And.intro (And.intro @esz_35 (And.intro @fofs_25_1 @fofs_25_2)) (And.intro @fofs_48_0 (And.intro @fofs_48_1 @isz_3))) (And.intro (And.intro @isz_48 (And.intro @und_3 @undT_22)) (And.intro @undT_23 (And.intro @undT_35 @zeroT_48))))
theorem ff_17 : type_of% (And.intro (And.intro @agg_3 (And.intro @agg_25 @csz_3)) (And.intro (And.intro @csz_25 @esz_35) (And.intro @und_38 @undT_35))) := And.intro (And.intro @agg_3 (And.intro @agg_25 @csz_3)) (And.intro (And.intro @csz_25 @esz_35) (And.intro @und_38 @undT_35))
theorem ff_18 : type_of% (And.intro (And.intro (And.intro @agg_3 @agg_25) (And.intro @csz_3 @csz_25)) (And.intro (And.intro @ebs_35_1 @esz_35) (And.intro @und_3 (And.intro @und_38 @undT_35)))) := And.intro (And.intro (And.intro @agg_3 @agg_25) (And.intro @csz_3 @csz_25)) (And.intro (And.intro @ebs_35_1 @esz_35) (And.intro @und_3 (And.intro @und_38 @undT_35)))
theorem ff_19 : type_of% (And.intro (And.intro @agg_3 (And.intro @agg_25 @csz_3)) (And.intro (And.intro @csz_25 @esz_35) (And.intro @und_3 @undT_35))) := And.intro (And.intro @agg_3 (And.intro @agg_25 @csz_3)) (And.intro (And.intro @csz_25 @esz_35) (And.intro @und_3 @undT_35))
theorem ff_20 : type_of% (And.intro (And.intro (And.intro @ebd_25 @ebd_48) (And.intro @ebs_22_2 @ebs_23_3)) (And.intro (And.intro @ebs_35_1 @ebs_35_3) (And.intro @isz_25 @zeroT_25))) := And.intro (And.intro (And.intro @ebd_25 @ebd_48) (And.intro @ebs_22_2 @ebs_23_3)) (And.intro (And.intro @ebs_35_1 @ebs_35_3) (And.intro @isz_25 @zeroT_25))
theorem ff_21 : type_of% (And.intro @und_9 @undT_9) := And.intro @und_9 @undT_9
theorem ff_22 : type_of% (And.intro (And.intro @agg_9 @csz_9) (And.intro @esz_22 (And.intro @und_9 @undT_22))) := And.intro (And.intro @agg_9 @csz_9) (And.intro @esz_22 (And.intro @und_9 @undT_22))
theorem ff_23 : type_of% (And.intro @und_9 @undT_9) := And.intro @und_9 @undT_9
theorem ff_24 : type_of% (And.intro (And.intro (And.intro (And.intro @agg_3 (And.intro @agg_22 @agg_23)) (And.intro @agg_35 (And.intro @agg_46 @agg_48))) (And.intro (And.intro @csz_3 (And.intro @csz_22 @csz_23)) (And.intro @csz_35 (And.intro @csz_46 @csz_48)))) (And.intro (And.intro (And.intro @esz_23 (And.intro @esz_35 @fofs_25_0)) (And.intro @fofs_25_1 (And.intro @fofs_25_2 @fofs_48_0))) (And.intro (And.intro @fofs_48_1 (And.intro @fofs_48_2 @isz_48)) (And.intro (And.intro @und_3 @undT_22) (And.intro @undT_35 @zeroT_48))))) := And.intro (And.intro (And.intro (And.intro @agg_3 (And.intro @agg_22 @agg_23)) (And.intro @agg_35 (And.intro @agg_46 @agg_48))) (And.intro (And.intro @csz_3 (And.intro @csz_22 @csz_23)) (And.intro @csz_35 (And.intro @csz_46 @csz_48)))) (And.intro (And.intro (And.intro @esz_23 (And.intro @esz_35 @fofs_25_0)) (And.intro @fofs_25_1 (And.intro @fofs_25_2 @fofs_48_0))) (And.intro (And.intro @fofs_48_1 (And.intro @fofs_48_2 @isz_48)) (And.intro (And.intro @und_3 @undT_22) (And.intro @undT_35 @zeroT_48))))
theorem ff_25 : type_of% (And.intro (And.intro (And.intro @agg_3 @agg_23) (And.intro @csz_3 @csz_23)) (And.intro (And.intro @esz_23 @fofs_25_2) (And.intro @fofs_48_0 (And.intro @und_3 @undT_23)))) := And.intro (And.intro (And.intro @agg_3 @agg_23) (And.intro @csz_3 @csz_23)) (And.intro (And.intro @esz_23 @fofs_25_2) (And.intro @fofs_48_0 (And.intro @und_3 @undT_23)))
theorem ff_26 : type_of% (And.intro (And.intro (And.intro @agg_3 (And.intro @agg_23 @agg_35)) (And.intro @csz_3 (And.intro @csz_23 @csz_35))) (And.intro (And.intro @esz_23 (And.intro @esz_35 @fofs_25_2)) (And.intro (And.intro @fofs_48_1 @und_3) (And.intro @undT_23 @undT_35)))) := And.intro (And.intro (And.intro @agg_3 (And.intro @agg_23 @agg_35)) (And.intro @csz_3 (And.intro @csz_23 @csz_35))) (And.intro (And.intro @esz_23 (And.intro @esz_35 @fofs_25_2)) (And.intro (And.intro @fofs_48_1 @und_3) (And.intro @undT_23 @undT_35)))
theorem ff_27 : type_of% (And.intro (And.intro (And.intro (And.intro @agg_3 @agg_4) (And.intro @agg_23 @agg_25)) (And.intro (And.intro @agg_35 @csz_3) (And.intro @csz_4 (And.intro @csz_23 @csz_25)))) (And.intro (And.intro (And.intro @csz_35 @esz_23) (And.intro @esz_30 (And.intro @esz_35 @fofs_25_2))) (And.intro (And.intro @fofs_48_0 @fofs_48_1) (And.intro @und_3 (And.intro @undT_23 @undT_35))))) := And.intro (And.intro (And.intro (And.intro @agg_3 @agg_4) (And.intro @agg_23 @agg_25)) (And.intro (And.intro @agg_35 @csz_3) (And.intro @csz_4 (And.intro @csz_23 @csz_25)))) (And.intro (And.intro (And.intro @csz_35 @esz_23) (And.intro @esz_30 (And.intro @esz_35 @fofs_25_2))) (And.intro (And.intro @fofs_48_0 @fofs_48_1) (And.intro @und_3 (And.intro @undT_23 @undT_35))))
theorem ff_28 : type_of% (And.intro (And.intro (And.intro (And.intro @agg_3 (And.intro @agg_4 @agg_25)) (And.intro (And.intro @agg_30 @agg_57) (And.intro @agg_60 @csz_3))) (And.intro (And.intro @csz_4 (And.intro @csz_25 @csz_30)) (And.intro (And.intro @csz_57 @csz_60) (And.intro @eapp_35_35 @ebs_35_1)))) (And.intro (And.intro (And.intro @emk_28 (And.intro @emk_30 @esz_28)) (And.intro (And.intro @esz_30 @esz_35) (And.intro @esz_57 @esz_69))) (And.intro (And.intro (And.intro @fofs_60_2 @isz_4) (And.intro @isz_30 @isz_60)) (And.intro (And.intro @undT_35 @undT_57) (And.intro @undT_69 @zeroT_60))))) := And.intro (And.intro (And.intro (And.intro @agg_3 (And.intro @agg_4 @agg_25)) (And.intro (And.intro @agg_30 @agg_57) (And.intro @agg_60 @csz_3))) (And.intro (And.intro @csz_4 (And.intro @csz_25 @csz_30)) (And.intro (And.intro @csz_57 @csz_60) (And.intro @eapp_35_35 @ebs_35_1)))) (And.intro (And.intro (And.intro @emk_28 (And.intro @emk_30 @esz_28)) (And.intro (And.intro @esz_30 @esz_35) (And.intro @esz_57 @esz_69))) (And.intro (And.intro (And.intro @fofs_60_2 @isz_4) (And.intro @isz_30 @isz_60)) (And.intro (And.intro @undT_35 @undT_57) (And.intro @undT_69 @zeroT_60))))
theorem ff_31 : type_of% (And.intro @agg_3 @csz_3) := And.intro @agg_3 @csz_3
theorem ff_33 : type_of% (And.intro (And.intro (And.intro (And.intro @agg_3 (And.intro @agg_4 @agg_25)) (And.intro (And.intro @agg_57 @agg_60) (And.intro @csz_3 @csz_4))) (And.intro (And.intro (And.intro @csz_25 @csz_57) (And.intro @csz_60 @eapp_35_35)) (And.intro (And.intro @eapp_57_57 @ebs_35_1) (And.intro @ebs_57_1 @emk_30)))) (And.intro (And.intro (And.intro @emk_35 (And.intro @emk_57 @esz_30)) (And.intro (And.intro @esz_35 @esz_57) (And.intro @esz_69 @fofs_60_2))) (And.intro (And.intro (And.intro @isz_3 @isz_4) (And.intro @isz_60 @und_3)) (And.intro (And.intro @undT_35 @undT_57) (And.intro @undT_69 @zeroT_60))))) := And.intro (And.intro (And.intro (And.intro @agg_3 (And.intro @agg_4 @agg_25)) (And.intro (And.intro @agg_57 @agg_60) (And.intro @csz_3 @csz_4))) (And.intro (And.intro (And.intro @csz_25 @csz_57) (And.intro @csz_60 @eapp_35_35)) (And.intro (And.intro @eapp_57_57 @ebs_35_1) (And.intro @ebs_57_1 @emk_30)))) (And.intro (And.intro (And.intro @emk_35 (And.intro @emk_57 @esz_30)) (And.intro (And.intro @esz_35 @esz_57) (And.intro @esz_69 @fofs_60_2))) (And.intro (And.intro (And.intro @isz_3 @isz_4) (And.intro @isz_60 @und_3)) (And.intro (And.intro @undT_35 @undT_57) (And.intro @undT_69 @zeroT_60))))
theorem ff_34 : type_of% (And.intro (And.intro (And.intro (And.intro @agg_3 @agg_23) (And.intro @agg_25 @agg_35)) (And.intro (And.intro @csz_3 @csz_23) (And.intro @csz_25 @csz_35))) (And.intro (And.intro (And.intro @eapp_35_35 @ebs_35_1) (And.intro @esz_23 @esz_35)) (And.intro (And.intro @fofs_25_2 @fofs_48_1) (And.intro @und_3 @undT_35)))) := And.intro (And.intro (And.intro (And.intro @agg_3 @agg_23) (And.intro @agg_25 @agg_35)) (And.intro (And.intro @csz_3 @csz_23) (And.intro @csz_25 @csz_35))) (And.intro (And.intro (And.intro @eapp_35_35 @ebs_35_1) (And.intro @esz_23 @esz_35)) (And.intro (And.intro @fofs_25_2 @fofs_48_1) (And.intro @und_3 @undT_35)))
theorem ff_35 : type_of% (And.intro @agg_25 (And.intro @csz_25 @ebd_78)) := And.intro @agg_25 (And.intro @csz_25 @ebd_78)
theorem ff_36 : type_of% (And.intro (And.intro (And.intro (And.intro @agg_3 @agg_23) (And.intro @agg_35 @csz_3)) (And.intro (And.intro @csz_23 @csz_35) (And.intro @esz_23 @esz_35))) (And.intro (And.intro (And.intro @fofs_25_2 @fofs_48_0) (And.intro @fofs_48_1 @fofs_78_0)) (And.intro (And.intro @fofs_78_2 @isz_35) (And.intro @und_3 (And.intro @undT_23 @undT_35))))) := And.intro (And.intro (And.intro (And.intro @agg_3 @agg_23) (And.intro @agg_35 @csz_3)) (And.intro (And.intro @csz_23 @csz_35) (And.intro @esz_23 @esz_35))) (And.intro (And.intro (And.intro @fofs_25_2 @fofs_48_0) (And.intro @fofs_48_1 @fofs_78_0)) (And.intro (And.intro @fofs_78_2 @isz_35) (And.intro @und_3 (And.intro @undT_23 @undT_35))))
theorem ff_37 : type_of% (And.intro (And.intro (And.intro @agg_3 @agg_35) (And.intro @csz_3 (And.intro @csz_35 @eapp_35_35))) (And.intro (And.intro @ebs_35_1 @esz_35) (And.intro @fofs_78_1 (And.intro @fofs_78_2 @undT_35)))) := And.intro (And.intro (And.intro @agg_3 @agg_35) (And.intro @csz_3 (And.intro @csz_35 @eapp_35_35))) (And.intro (And.intro @ebs_35_1 @esz_35) (And.intro @fofs_78_1 (And.intro @fofs_78_2 @undT_35)))
theorem ff_38 : type_of% (And.intro (And.intro (And.intro (And.intro @agg_3 @agg_23) (And.intro @agg_35 @csz_3)) (And.intro (And.intro @csz_23 @csz_35) (And.intro @eapp_35_35 @ebs_35_0))) (And.intro (And.intro (And.intro @ebs_35_1 @esz_23) (And.intro @esz_35 @fofs_25_2)) (And.intro (And.intro @fofs_48_0 @fofs_48_1) (And.intro @und_3 (And.intro @undT_23 @undT_35))))) := And.intro (And.intro (And.intro (And.intro @agg_3 @agg_23) (And.intro @agg_35 @csz_3)) (And.intro (And.intro @csz_23 @csz_35) (And.intro @eapp_35_35 @ebs_35_0))) (And.intro (And.intro (And.intro @ebs_35_1 @esz_23) (And.intro @esz_35 @fofs_25_2)) (And.intro (And.intro @fofs_48_0 @fofs_48_1) (And.intro @und_3 (And.intro @undT_23 @undT_35))))
theorem ff_40 : type_of% (@und_5) := @und_5
theorem ff_41 : type_of% (@und_5) := @und_5
theorem ff_42 : type_of% (And.intro @und_2 @und_46) := And.intro @und_2 @und_46
theorem ff_43 : type_of% (And.intro @agg_25 @csz_25) := And.intro @agg_25 @csz_25
theorem ff_44 : type_of% (And.intro (And.intro (And.intro (And.intro (And.intro @agg_3 @agg_4) (And.intro @agg_22 @agg_23)) (And.intro (And.intro @agg_25 @agg_35) (And.intro @agg_48 @agg_57))) (And.intro (And.intro (And.intro @csz_3 @csz_4) (And.intro @csz_22 @csz_23)) (And.intro (And.intro @csz_25 @csz_35) (And.intro @csz_48 (And.intro @csz_57 @eapp_57_57))))) (And.intro (And.intro (And.intro (And.intro @ebd_60 @ebs_57_1) (And.intro @emk_69 @esz_23)) (And.intro (And.intro @esz_30 @esz_35) (And.intro @esz_69 @fofs_25_1))) (And.intro (And.intro (And.intro @fofs_25_2 @fofs_48_0) (And.intro @fofs_48_1 @isz_48)) (And.intro (And.intro @isz_57 @undT_22) (And.intro @undT_23 (And.intro @undT_35 @zeroT_48)))))) := And.intro (And.intro (And.intro (And.intro (And.intro @agg_3 @agg_4) (And.intro @agg_22 @agg_23)) (And.intro (And.intro @agg_25 @agg_35) (And.intro @agg_48 @agg_57))) (And.intro (And.intro (And.intro @csz_3 @csz_4) (And.intro @csz_22 @csz_23)) (And.intro (And.intro @csz_25 @csz_35) (And.intro @csz_48 (And.intro @csz_57 @eapp_57_57))))) (And.intro (And.intro (And.intro (And.intro @ebd_60 @ebs_57_1) (And.intro @emk_69 @esz_23)) (And.intro (And.intro @esz_30 @esz_35) (And.intro @esz_69 @fofs_25_1))) (And.intro (And.intro (And.intro @fofs_25_2 @fofs_48_0) (And.intro @fofs_48_1 @isz_48)) (And.intro (And.intro @isz_57 @undT_22) (And.intro @undT_23 (And.intro @undT_35 @zeroT_48)))))
theorem ff_45 : type_of% (And.intro (And.intro @agg_3 @csz_3) (And.intro @esz_35 (And.intro @und_3 @undT_35))) := And.intro (And.intro @agg_3 @csz_3) (And.intro @esz_35 (And.intro @und_3 @undT_35))
theorem ff_46 : type_of% (And.intro (And.intro @agg_35 @csz_35) (And.intro @esz_33 @undT_33)) := And.intro (And.intro @agg_35 @csz_35) (And.intro @esz_33 @undT_33)
theorem ff_47 : type_of% (And.intro (And.intro @agg_3 @csz_3) (And.intro @esz_35 (And.intro @und_3 @undT_35))) := And.intro (And.intro @agg_3 @csz_3) (And.intro @esz_35 (And.intro @und_3 @undT_35))
theorem ff_48 : type_of% (And.intro (And.intro @agg_60 @csz_60) (And.intro @esz_57 (And.intro @isz_60 @undT_57))) := And.intro (And.intro @agg_60 @csz_60) (And.intro @esz_57 (And.intro @isz_60 @undT_57))
theorem ff_49 : type_of% (And.intro (And.intro (And.intro (And.intro @agg_3 (And.intro @agg_4 @agg_22)) (And.intro @agg_23 (And.intro @agg_48 @csz_3))) (And.intro (And.intro @csz_4 (And.intro @csz_22 @csz_23)) (And.intro @csz_48 (And.intro @emk_30 @emk_35)))) (And.intro (And.intro (And.intro @esz_23 (And.intro @esz_30 @esz_35)) (And.intro @fofs_25_1 (And.intro @fofs_25_2 @fofs_48_0))) (And.intro (And.intro @isz_3 (And.intro @isz_4 @isz_48)) (And.intro (And.intro @undT_22 @undT_23) (And.intro @undT_35 @zeroT_48))))) := And.intro (And.intro (And.intro (And.intro @agg_3 (And.intro @agg_4 @agg_22)) (And.intro @agg_23 (And.intro @agg_48 @csz_3))) (And.intro (And.intro @csz_4 (And.intro @csz_22 @csz_23)) (And.intro @csz_48 (And.intro @emk_30 @emk_35)))) (And.intro (And.intro (And.intro @esz_23 (And.intro @esz_30 @esz_35)) (And.intro @fofs_25_1 (And.intro @fofs_25_2 @fofs_48_0))) (And.intro (And.intro @isz_3 (And.intro @isz_4 @isz_48)) (And.intro (And.intro @undT_22 @undT_23) (And.intro @undT_35 @zeroT_48))))
theorem ff_51 : type_of% (And.intro (And.intro (And.intro @agg_3 @agg_35) (And.intro @csz_3 (And.intro @csz_35 @eapp_35_35))) (And.intro (And.intro @ebs_35_1 (And.intro @esz_35 @fofs_78_1)) (And.intro @fofs_78_2 (And.intro @isz_35 @undT_35)))) := And.intro (And.intro (And.intro @agg_3 @agg_35) (And.intro @csz_3 (And.intro @csz_35 @eapp_35_35))) (And.intro (And.intro @ebs_35_1 (And.intro @esz_35 @fofs_78_1)) (And.intro @fofs_78_2 (And.intro @isz_35 @undT_35)))
theorem ff_52 : type_of% (And.intro (And.intro @agg_3 @csz_3) (And.intro @esz_35 @undT_35)) := And.intro (And.intro @agg_3 @csz_3) (And.intro @esz_35 @undT_35)
theorem ff_54 : type_of% (And.intro (And.intro @und_2 @und_5) (And.intro @und_9 (And.intro @und_46 @undT_9))) := And.intro (And.intro @und_2 @und_5) (And.intro @und_9 (And.intro @und_46 @undT_9))
theorem ff_55 : type_of% (@und_88) := @und_88
theorem ff_57 : type_of% (And.intro (And.intro (And.intro (And.intro @agg_3 @agg_22) (And.intro @agg_23 @agg_48)) (And.intro (And.intro @csz_3 @csz_22) (And.intro @csz_23 (And.intro @csz_48 @eapp_30_30)))) (And.intro (And.intro (And.intro @ebs_30_0 @emk_30) (And.intro @esz_23 (And.intro @esz_30 @fofs_25_1))) (And.intro (And.intro @fofs_25_2 @fofs_48_0) (And.intro @isz_4 (And.intro @undT_22 @undT_23))))) := And.intro (And.intro (And.intro (And.intro @agg_3 @agg_22) (And.intro @agg_23 @agg_48)) (And.intro (And.intro @csz_3 @csz_22) (And.intro @csz_23 (And.intro @csz_48 @eapp_30_30)))) (And.intro (And.intro (And.intro @ebs_30_0 @emk_30) (And.intro @esz_23 (And.intro @esz_30 @fofs_25_1))) (And.intro (And.intro @fofs_25_2 @fofs_48_0) (And.intro @isz_4 (And.intro @undT_22 @undT_23))))
theorem ff_58 : type_of% (And.intro (And.intro (And.intro @agg_22 @agg_25) (And.intro @agg_30 (And.intro @csz_22 @csz_25))) (And.intro (And.intro @csz_30 (And.intro @emk_30 @fofs_25_1)) (And.intro @isz_30 (And.intro @undT_22 @zeroT_30)))) := And.intro (And.intro (And.intro @agg_22 @agg_25) (And.intro @agg_30 (And.intro @csz_22 @csz_25))) (And.intro (And.intro @csz_30 (And.intro @emk_30 @fofs_25_1)) (And.intro @isz_30 (And.intro @undT_22 @zeroT_30)))
theorem ff_59 : type_of% (And.intro (And.intro (And.intro @agg_3 @agg_4) (And.intro @agg_35 (And.intro @csz_3 @csz_4))) (And.intro (And.intro @csz_35 @esz_30) (And.intro @esz_35 (And.intro @fofs_48_1 @undT_35)))) := And.intro (And.intro (And.intro @agg_3 @agg_4) (And.intro @agg_35 (And.intro @csz_3 @csz_4))) (And.intro (And.intro @csz_35 @esz_30) (And.intro @esz_35 (And.intro @fofs_48_1 @undT_35)))
theorem ff_61 : type_of% (And.intro (And.intro @und_3 @und_5) (And.intro @und_9 @undT_9)) := And.intro (And.intro @und_3 @und_5) (And.intro @und_9 @undT_9)
theorem ff_63 : type_of% (@und_4) := @und_4
theorem ff_64 : type_of% (And.intro (And.intro (And.intro @agg_3 @agg_4) (And.intro @agg_35 (And.intro @csz_3 @csz_4))) (And.intro (And.intro @csz_35 @esz_30) (And.intro @esz_35 (And.intro @fofs_48_1 @undT_35)))) := And.intro (And.intro (And.intro @agg_3 @agg_4) (And.intro @agg_35 (And.intro @csz_3 @csz_4))) (And.intro (And.intro @csz_35 @esz_30) (And.intro @esz_35 (And.intro @fofs_48_1 @undT_35)))
theorem ff_65 : type_of% (And.intro (And.intro (And.intro (And.intro @agg_3 @agg_4) (And.intro @agg_23 @agg_48)) (And.intro (And.intro @csz_3 @csz_4) (And.intro @csz_23 @csz_48))) (And.intro (And.intro (And.intro @esz_23 @esz_30) (And.intro @fofs_25_2 @fofs_48_0)) (And.intro (And.intro @isz_4 @isz_48) (And.intro @undT_23 @zeroT_48)))) := And.intro (And.intro (And.intro (And.intro @agg_3 @agg_4) (And.intro @agg_23 @agg_48)) (And.intro (And.intro @csz_3 @csz_4) (And.intro @csz_23 @csz_48))) (And.intro (And.intro (And.intro @esz_23 @esz_30) (And.intro @fofs_25_2 @fofs_48_0)) (And.intro (And.intro @isz_4 @isz_48) (And.intro @undT_23 @zeroT_48)))
theorem ff_66 : type_of% (And.intro (And.intro (And.intro @agg_3 (And.intro @agg_4 @agg_30)) (And.intro @agg_35 (And.intro @csz_3 @csz_4))) (And.intro (And.intro @csz_30 (And.intro @csz_35 @esz_30)) (And.intro @esz_35 (And.intro @fofs_48_1 @undT_35)))) := And.intro (And.intro (And.intro @agg_3 (And.intro @agg_4 @agg_30)) (And.intro @agg_35 (And.intro @csz_3 @csz_4))) (And.intro (And.intro @csz_30 (And.intro @csz_35 @esz_30)) (And.intro @esz_35 (And.intro @fofs_48_1 @undT_35)))
theorem ff_67 : type_of% (@und_88) := @und_88
end Go.Proofs.Ytplnndgdklfnfaa

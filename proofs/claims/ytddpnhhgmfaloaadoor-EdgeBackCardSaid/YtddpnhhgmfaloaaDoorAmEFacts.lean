/- A part of a proof. Its conditions: none. -/
import Derived.Test.YtddpnhhgmfaloaaDoorAmD
import Derived.Test.YtddpnhhgmfaloaaDoorRows
import Derived.KernelRfl
set_option linter.all false
namespace Go.Proofs.YtddpnhhgmfaloaaDoor
open Go.AM
def fns : List Nat := [3, 4, 5, 6, 7, 9, 10, 11, 12, 13, 14, 15, 16, 17, 18, 19, 20, 21, 22, 23, 24, 26, 27, 28, 29, 30, 31, 32, 33, 34, 35, 36, 37, 38, 39, 40, 41, 42, 43, 44, 45, 46, 48, 49, 50, 51, 53, 54, 59, 60, 61, 62, 63, 64, 65, 66, 67, 68, 69, 70, 71, 73, 74, 75, 76, 77, 78, 79, 80, 81, 82, 83, 84, 85, 86, 87, 88, 89, 90, 91, 92, 93, 94, 95, 96, 97, 98, 99, 100, 101, 102, 103]
theorem fns_ok : fns.all (fnOKb Tryd.prog) = true := by kernel_rfl
theorem orders : Tryd.prog.follows .mixedOrders = true := by kernel_rfl
theorem agg_3 : aggT Tryd.prog 3 = some false := by kernel_rfl
theorem agg_4 : aggT Tryd.prog 4 = some false := by kernel_rfl
theorem agg_5 : aggT Tryd.prog 5 = some false := by kernel_rfl
theorem agg_9 : aggT Tryd.prog 9 = some false := by kernel_rfl
theorem agg_22 : aggT Tryd.prog 22 = some false := by kernel_rfl
theorem agg_24 : aggT Tryd.prog 24 = some false := by kernel_rfl
theorem agg_57 : aggT Tryd.prog 57 = some false := by kernel_rfl
theorem agg_129 : aggT Tryd.prog 129 = some false := by kernel_rfl
theorem csz_3 : Program.cellsOf Tryd.prog 3 = 1 := by kernel_rfl
theorem csz_4 : Program.cellsOf Tryd.prog 4 = 1 := by kernel_rfl
theorem csz_5 : Program.cellsOf Tryd.prog 5 = 1 := by kernel_rfl
theorem csz_9 : Program.cellsOf Tryd.prog 9 = 1 := by kernel_rfl
theorem csz_22 : Program.cellsOf Tryd.prog 22 = 1 := by kernel_rfl
theorem csz_24 : Program.cellsOf Tryd.prog 24 = 1 := by kernel_rfl
theorem csz_57 : Program.cellsOf Tryd.prog 57 = 1 := by kernel_rfl
theorem csz_129 : Program.cellsOf Tryd.prog 129 = 1 := by kernel_rfl
theorem eapp_32_32 : eapp Tryd.prog #[32, 32] = some (24, 1) := by kernel_rfl
theorem eapp_57_9 : eapp Tryd.prog #[57, 9] = some (5, 1) := by kernel_rfl
theorem eapp_57_57 : eapp Tryd.prog #[57, 57] = some (5, 1) := by kernel_rfl
theorem ear_87 : earr Tryd.prog 87 = some (5, 1, 32) := by kernel_rfl
theorem ear_93 : earr Tryd.prog 93 = some (5, 1, 24) := by kernel_rfl
theorem ear_96 : earr Tryd.prog 96 = some (5, 1, 800) := by kernel_rfl
theorem ear_114 : earr Tryd.prog 114 = some (22, 1, 20) := by kernel_rfl
theorem ear_124 : earr Tryd.prog 124 = some (123, 2, 696) := by kernel_rfl
theorem ear_131 : earr Tryd.prog 131 = some (5, 1, 65) := by kernel_rfl
theorem ear_135 : earr Tryd.prog 135 = some (5, 1, 64) := by kernel_rfl
theorem ebs_32_0 : ebs Tryd.prog 32 0 = some (24, 1, [Value.float FloatKind.f64 0]) := by kernel_rfl
theorem ebs_32_1 : ebs Tryd.prog 32 1 = some (24, 1, [Value.float FloatKind.f64 0]) := by kernel_rfl
theorem ebs_32_2 : ebs Tryd.prog 32 2 = some (24, 1, [Value.float FloatKind.f64 0]) := by kernel_rfl
theorem ebs_57_1 : ebs Tryd.prog 57 1 = some (5, 1, [Value.int IntKind.u8 (Int.ofNat 0)]) := by kernel_rfl
theorem ebs_57_2 : ebs Tryd.prog 57 2 = some (5, 1, [Value.int IntKind.u8 (Int.ofNat 0)]) := by kernel_rfl
theorem ebs_57_3 : ebs Tryd.prog 57 3 = some (5, 1, [Value.int IntKind.u8 (Int.ofNat 0)]) := by kernel_rfl
theorem ebs_57_4 : ebs Tryd.prog 57 4 = some (5, 1, [Value.int IntKind.u8 (Int.ofNat 0)]) := by kernel_rfl
theorem emk_57 : emk Tryd.prog 57 = some (5, [Value.int IntKind.u8 (Int.ofNat 0)]) := by kernel_rfl
theorem esz_31 : esz Tryd.prog 31 = some (22, 1) := by kernel_rfl
theorem esz_32 : esz Tryd.prog 32 = some (24, 1) := by kernel_rfl
theorem esz_57 : esz Tryd.prog 57 = some (5, 1) := by kernel_rfl
theorem esz_129 : esz Tryd.prog 129 = some (128, 2) := by kernel_rfl
theorem fofs_59_1 : fofs Tryd.prog 59 1 = some 1 := by kernel_rfl
theorem fofs_98_0 : fofs Tryd.prog 98 0 = some 0 := by kernel_rfl
theorem fofs_98_1 : fofs Tryd.prog 98 1 = some 800 := by kernel_rfl
theorem fofs_98_2 : fofs Tryd.prog 98 2 = some 801 := by kernel_rfl
theorem fofs_98_4 : fofs Tryd.prog 98 4 = some 803 := by kernel_rfl
theorem fofs_105_0 : fofs Tryd.prog 105 0 = some 0 := by kernel_rfl
theorem fofs_105_1 : fofs Tryd.prog 105 1 = some 1 := by kernel_rfl
theorem fofs_105_2 : fofs Tryd.prog 105 2 = some 2 := by kernel_rfl
theorem fofs_123_0 : fofs Tryd.prog 123 0 = some 0 := by kernel_rfl
theorem fofs_123_1 : fofs Tryd.prog 123 1 = some 1 := by kernel_rfl
theorem fofs_128_0 : fofs Tryd.prog 128 0 = some 0 := by kernel_rfl
theorem fofs_128_1 : fofs Tryd.prog 128 1 = some 1 := by kernel_rfl
theorem isz_3 : isz Tryd.prog 3 = some 1 := by kernel_rfl
theorem isz_4 : isz Tryd.prog 4 = some 1 := by kernel_rfl
theorem isz_5 : isz Tryd.prog 5 = some 1 := by kernel_rfl
theorem isz_22 : isz Tryd.prog 22 = some 1 := by kernel_rfl
theorem isz_57 : isz Tryd.prog 57 = some 1 := by kernel_rfl
theorem und_2 : Program.underlying Tryd.prog 2 = some (TypeDesc.int IntKind.i64) := by kernel_rfl
theorem und_3 : Program.underlying Tryd.prog 3 = some (TypeDesc.int IntKind.i64) := by kernel_rfl
theorem und_4 : Program.underlying Tryd.prog 4 = some TypeDesc.bool := by kernel_rfl
theorem und_5 : Program.underlying Tryd.prog 5 = some (TypeDesc.int IntKind.u8) := by kernel_rfl
theorem und_9 : Program.underlying Tryd.prog 9 = some TypeDesc.string := by kernel_rfl
theorem und_12 : Program.underlying Tryd.prog 12 = some (TypeDesc.int IntKind.u64) := by kernel_rfl
theorem und_22 : Program.underlying Tryd.prog 22 = some (TypeDesc.int IntKind.u64) := by kernel_rfl
theorem und_24 : Program.underlying Tryd.prog 24 = some (TypeDesc.float FloatKind.f64) := by kernel_rfl
theorem und_43 : Program.underlying Tryd.prog 43 = some (TypeDesc.int IntKind.u64) := by kernel_rfl
theorem und_57 : Program.underlying Tryd.prog 57 = some (TypeDesc.slice 5) := by kernel_rfl
theorem und_69 : Program.underlying Tryd.prog 69 = some (TypeDesc.int IntKind.u32) := by kernel_rfl
theorem und_76 : Program.underlying Tryd.prog 76 = some (TypeDesc.float FloatKind.f32) := by kernel_rfl
theorem und_108 : Program.underlying Tryd.prog 108 = some (TypeDesc.int IntKind.u64) := by kernel_rfl
theorem undT_9 : undT Tryd.prog #[9] = some TypeDesc.string := by kernel_rfl
theorem undT_31 : undT Tryd.prog #[31] = some (TypeDesc.slice 22) := by kernel_rfl
theorem undT_32 : undT Tryd.prog #[32] = some (TypeDesc.slice 24) := by kernel_rfl
theorem undT_57 : undT Tryd.prog #[57] = some (TypeDesc.slice 5) := by kernel_rfl
theorem zeroT_59 : zeroT Tryd.prog 59 = some (Value.agg { toList := [Value.pointer none, Value.slice none 0 0] }) := by kernel_rfl
theorem zeroT_87 : zeroT Tryd.prog 87 = some (Value.agg { toList := [Value.int IntKind.u8 (Int.ofNat 0), Value.int IntKind.u8 (Int.ofNat 0), Value.int IntKind.u8 (Int.ofNat 0), Value.int IntKind.u8 (Int.ofNat 0), Value.int IntKind.u8 (Int.ofNat 0), Value.int IntKind.u8 (Int.ofNat 0), Value.int IntKind.u8 (Int.ofNat 0), Value.int IntKind.u8 (Int.ofNat 0), Value.int IntKind.u8 (Int.ofNat 0), Value.int IntKind.u8 (Int.ofNat 0), Value.int IntKind.u8 (Int.ofNat 0), Value.int IntKind.u8 (Int.ofNat 0), Value.int IntKind.u8 (Int.ofNat 0), Value.int IntKind.u8 (Int.ofNat 0), Value.int IntKind.u8 (Int.ofNat 0), Value.int IntKind.u8 (Int.ofNat 0), Value.int IntKind.u8 (Int.ofNat 0), Value.int IntKind.u8 (Int.ofNat 0), Value.int IntKind.u8 (Int.ofNat 0), Value.int IntKind.u8 (Int.ofNat 0), Value.int IntKind.u8 (Int.ofNat 0), Value.int IntKind.u8 (Int.ofNat 0), Value.int IntKind.u8 (Int.ofNat 0), Value.int IntKind.u8 (Int.ofNat 0), Value.int IntKind.u8 (Int.ofNat 0), Value.int IntKind.u8 (Int.ofNat 0), Value.int IntKind.u8 (Int.ofNat 0), Value.int IntKind.u8 (Int.ofNat 0), Value.int IntKind.u8 (Int.ofNat 0), Value.int IntKind.u8 (Int.ofNat 0), Value.int IntKind.u8 (Int.ofNat 0), Value.int IntKind.u8 (Int.ofNat 0)] }) := by kernel_rfl
theorem zeroT_93 : zeroT Tryd.prog 93 = some (Value.agg { toList := [Value.int IntKind.u8 (Int.ofNat 0), Value.int IntKind.u8 (Int.ofNat 0), Value.int IntKind.u8 (Int.ofNat 0), Value.int IntKind.u8 (Int.ofNat 0), Value.int IntKind.u8 (Int.ofNat 0), Value.int IntKind.u8 (Int.ofNat 0), Value.int IntKind.u8 (Int.ofNat 0), Value.int IntKind.u8 (Int.ofNat 0), Value.int IntKind.u8 (Int.ofNat 0), Value.int IntKind.u8 (Int.ofNat 0), Value.int IntKind.u8 (Int.ofNat 0), Value.int IntKind.u8 (Int.ofNat 0), Value.int IntKind.u8 (Int.ofNat 0), Value.int IntKind.u8 (Int.ofNat 0), Value.int IntKind.u8 (Int.ofNat 0), Value.int IntKind.u8 (Int.ofNat 0), Value.int IntKind.u8 (Int.ofNat 0), Value.int IntKind.u8 (Int.ofNat 0), Value.int IntKind.u8 (Int.ofNat 0), Value.int IntKind.u8 (Int.ofNat 0), Value.int IntKind.u8 (Int.ofNat 0), Value.int IntKind.u8 (Int.ofNat 0), Value.int IntKind.u8 (Int.ofNat 0), Value.int IntKind.u8 (Int.ofNat 0)] }) := by kernel_rfl
theorem zeroT_105 : zeroT Tryd.prog 105 = some (Value.agg { toList := [Value.int IntKind.u64 (Int.ofNat 0), Value.int IntKind.u64 (Int.ofNat 0), Value.int IntKind.i64 (Int.ofNat 0)] }) := by kernel_rfl
theorem zeroT_131 : zeroT Tryd.prog 131 = some (Value.agg { toList := [Value.int IntKind.u8 (Int.ofNat 0), Value.int IntKind.u8 (Int.ofNat 0), Value.int IntKind.u8 (Int.ofNat 0), Value.int IntKind.u8 (Int.ofNat 0), Value.int IntKind.u8 (Int.ofNat 0), Value.int IntKind.u8 (Int.ofNat 0), Value.int IntKind.u8 (Int.ofNat 0), Value.int IntKind.u8 (Int.ofNat 0), Value.int IntKind.u8 (Int.ofNat 0), Value.int IntKind.u8 (Int.ofNat 0), Value.int IntKind.u8 (Int.ofNat 0), Value.int IntKind.u8 (Int.ofNat 0), Value.int IntKind.u8 (Int.ofNat 0), Value.int IntKind.u8 (Int.ofNat 0), Value.int IntKind.u8 (Int.ofNat 0), Value.int IntKind.u8 (Int.ofNat 0), Value.int IntKind.u8 (Int.ofNat 0), Value.int IntKind.u8 (Int.ofNat 0), Value.int IntKind.u8 (Int.ofNat 0), Value.int IntKind.u8 (Int.ofNat 0), Value.int IntKind.u8 (Int.ofNat 0), Value.int IntKind.u8 (Int.ofNat 0), Value.int IntKind.u8 (Int.ofNat 0), Value.int IntKind.u8 (Int.ofNat 0), Value.int IntKind.u8 (Int.ofNat 0), Value.int IntKind.u8 (Int.ofNat 0), Value.int IntKind.u8 (Int.ofNat 0), Value.int IntKind.u8 (Int.ofNat 0), Value.int IntKind.u8 (Int.ofNat 0), Value.int IntKind.u8 (Int.ofNat 0), Value.int IntKind.u8 (Int.ofNat 0), Value.int IntKind.u8 (Int.ofNat 0), Value.int IntKind.u8 (Int.ofNat 0), Value.int IntKind.u8 (Int.ofNat 0), Value.int IntKind.u8 (Int.ofNat 0), Value.int IntKind.u8 (Int.ofNat 0), Value.int IntKind.u8 (Int.ofNat 0), Value.int IntKind.u8 (Int.ofNat 0), Value.int IntKind.u8 (Int.ofNat 0), Value.int IntKind.u8 (Int.ofNat 0), Value.int IntKind.u8 (Int.ofNat 0), Value.int IntKind.u8 (Int.ofNat 0), Value.int IntKind.u8 (Int.ofNat 0), Value.int IntKind.u8 (Int.ofNat 0), Value.int IntKind.u8 (Int.ofNat 0), Value.int IntKind.u8 (Int.ofNat 0), Value.int IntKind.u8 (Int.ofNat 0), Value.int IntKind.u8 (Int.ofNat 0), Value.int IntKind.u8 (Int.ofNat 0), Value.int IntKind.u8 (Int.ofNat 0), Value.int IntKind.u8 (Int.ofNat 0), Value.int IntKind.u8 (Int.ofNat 0), Value.int IntKind.u8 (Int.ofNat 0), Value.int IntKind.u8 (Int.ofNat 0), Value.int IntKind.u8 (Int.ofNat 0), Value.int IntKind.u8 (Int.ofNat 0), Value.int IntKind.u8 (Int.ofNat 0), Value.int IntKind.u8 (Int.ofNat 0), Value.int IntKind.u8 (Int.ofNat 0), Value.int IntKind.u8 (Int.ofNat 0), Value.int IntKind.u8 (Int.ofNat 0), Value.int IntKind.u8 (Int.ofNat 0), Value.int IntKind.u8 (Int.ofNat 0), Value.int IntKind.u8 (Int.ofNat 0), Value.int IntKind.u8 (Int.ofNat 0)] }) := by kernel_rfl
theorem ok3 : FnOK Tryd.prog 3 Tryd.f3 (Tryd.f3.body.getD .skip) := fnOK_of fns_ok 3 _ _ (by kernel_rfl) Tryd.func3 rfl
theorem ok4 : FnOK Tryd.prog 4 Tryd.f4 (Tryd.f4.body.getD .skip) := fnOK_of fns_ok 4 _ _ (by kernel_rfl) Tryd.func4 rfl
theorem ok5 : FnOK Tryd.prog 5 Tryd.f5 (Tryd.f5.body.getD .skip) := fnOK_of fns_ok 5 _ _ (by kernel_rfl) Tryd.func5 rfl
theorem ok6 : FnOK Tryd.prog 6 Tryd.f6 (Tryd.f6.body.getD .skip) := fnOK_of fns_ok 6 _ _ (by kernel_rfl) Tryd.func6 rfl
theorem ok7 : FnOK Tryd.prog 7 Tryd.f7 (Tryd.f7.body.getD .skip) := fnOK_of fns_ok 7 _ _ (by kernel_rfl) Tryd.func7 rfl
theorem ok9 : FnOK Tryd.prog 9 Tryd.f9 (Tryd.f9.body.getD .skip) := fnOK_of fns_ok 9 _ _ (by kernel_rfl) Tryd.func9 rfl
theorem ok10 : FnOK Tryd.prog 10 Tryd.f10 (Tryd.f10.body.getD .skip) := fnOK_of fns_ok 10 _ _ (by kernel_rfl) Tryd.func10 rfl
theorem ok11 : FnOK Tryd.prog 11 Tryd.f11 (Tryd.f11.body.getD .skip) := fnOK_of fns_ok 11 _ _ (by kernel_rfl) Tryd.func11 rfl
theorem ok12 : FnOK Tryd.prog 12 Tryd.f12 (Tryd.f12.body.getD .skip) := fnOK_of fns_ok 12 _ _ (by kernel_rfl) Tryd.func12 rfl
theorem ok13 : FnOK Tryd.prog 13 Tryd.f13 (Tryd.f13.body.getD .skip) := fnOK_of fns_ok 13 _ _ (by kernel_rfl) Tryd.func13 rfl
theorem ok14 : FnOK Tryd.prog 14 Tryd.f14 (Tryd.f14.body.getD .skip) := fnOK_of fns_ok 14 _ _ (by kernel_rfl) Tryd.func14 rfl
theorem ok15 : FnOK Tryd.prog 15 Tryd.f15 (Tryd.f15.body.getD .skip) := fnOK_of fns_ok 15 _ _ (by kernel_rfl) Tryd.func15 rfl
theorem ok16 : FnOK Tryd.prog 16 Tryd.f16 (Tryd.f16.body.getD .skip) := fnOK_of fns_ok 16 _ _ (by kernel_rfl) Tryd.func16 rfl
theorem ok17 : FnOK Tryd.prog 17 Tryd.f17 (Tryd.f17.body.getD .skip) := fnOK_of fns_ok 17 _ _ (by kernel_rfl) Tryd.func17 rfl
theorem ok18 : FnOK Tryd.prog 18 Tryd.f18 (Tryd.f18.body.getD .skip) := fnOK_of fns_ok 18 _ _ (by kernel_rfl) Tryd.func18 rfl
theorem ok19 : FnOK Tryd.prog 19 Tryd.f19 (Tryd.f19.body.getD .skip) := fnOK_of fns_ok 19 _ _ (by kernel_rfl) Tryd.func19 rfl
theorem ok20 : FnOK Tryd.prog 20 Tryd.f20 (Tryd.f20.body.getD .skip) := fnOK_of fns_ok 20 _ _ (by kernel_rfl) Tryd.func20 rfl
theorem ok21 : FnOK Tryd.prog 21 Tryd.f21 (Tryd.f21.body.getD .skip) := fnOK_of fns_ok 21 _ _ (by kernel_rfl) Tryd.func21 rfl
theorem ok22 : FnOK Tryd.prog 22 Tryd.f22 (Tryd.f22.body.getD .skip) := fnOK_of fns_ok 22 _ _ (by kernel_rfl) Tryd.func22 rfl
theorem ok23 : FnOK Tryd.prog 23 Tryd.f23 (Tryd.f23.body.getD .skip) := fnOK_of fns_ok 23 _ _ (by kernel_rfl) Tryd.func23 rfl
theorem ok24 : FnOK Tryd.prog 24 Tryd.f24 (Tryd.f24.body.getD .skip) := fnOK_of fns_ok 24 _ _ (by kernel_rfl) Tryd.func24 rfl
theorem ok26 : FnOK Tryd.prog 26 Tryd.f26 (Tryd.f26.body.getD .skip) := fnOK_of fns_ok 26 _ _ (by kernel_rfl) Tryd.func26 rfl
theorem ok27 : FnOK Tryd.prog 27 Tryd.f27 (Tryd.f27.body.getD .skip) := fnOK_of fns_ok 27 _ _ (by kernel_rfl) Tryd.func27 rfl
theorem ok28 : FnOK Tryd.prog 28 Tryd.f28 (Tryd.f28.body.getD .skip) := fnOK_of fns_ok 28 _ _ (by kernel_rfl) Tryd.func28 rfl
theorem ok29 : FnOK Tryd.prog 29 Tryd.f29 (Tryd.f29.body.getD .skip) := fnOK_of fns_ok 29 _ _ (by kernel_rfl) Tryd.func29 rfl
theorem ok30 : FnOK Tryd.prog 30 Tryd.f30 (Tryd.f30.body.getD .skip) := fnOK_of fns_ok 30 _ _ (by kernel_rfl) Tryd.func30 rfl
theorem ok31 : FnOK Tryd.prog 31 Tryd.f31 (Tryd.f31.body.getD .skip) := fnOK_of fns_ok 31 _ _ (by kernel_rfl) Tryd.func31 rfl
theorem ok32 : FnOK Tryd.prog 32 Tryd.f32 (Tryd.f32.body.getD .skip) := fnOK_of fns_ok 32 _ _ (by kernel_rfl) Tryd.func32 rfl
theorem ok33 : FnOK Tryd.prog 33 Tryd.f33 (Tryd.f33.body.getD .skip) := fnOK_of fns_ok 33 _ _ (by kernel_rfl) Tryd.func33 rfl
theorem ok34 : FnOK Tryd.prog 34 Tryd.f34 (Tryd.f34.body.getD .skip) := fnOK_of fns_ok 34 _ _ (by kernel_rfl) Tryd.func34 rfl
theorem ok35 : FnOK Tryd.prog 35 Tryd.f35 (Tryd.f35.body.getD .skip) := fnOK_of fns_ok 35 _ _ (by kernel_rfl) Tryd.func35 rfl
theorem ok36 : FnOK Tryd.prog 36 Tryd.f36 (Tryd.f36.body.getD .skip) := fnOK_of fns_ok 36 _ _ (by kernel_rfl) Tryd.func36 rfl
theorem ok37 : FnOK Tryd.prog 37 Tryd.f37 (Tryd.f37.body.getD .skip) := fnOK_of fns_ok 37 _ _ (by kernel_rfl) Tryd.func37 rfl
theorem ok38 : FnOK Tryd.prog 38 Tryd.f38 (Tryd.f38.body.getD .skip) := fnOK_of fns_ok 38 _ _ (by kernel_rfl) Tryd.func38 rfl
theorem ok39 : FnOK Tryd.prog 39 Tryd.f39 (Tryd.f39.body.getD .skip) := fnOK_of fns_ok 39 _ _ (by kernel_rfl) Tryd.func39 rfl
theorem ok40 : FnOK Tryd.prog 40 Tryd.f40 (Tryd.f40.body.getD .skip) := fnOK_of fns_ok 40 _ _ (by kernel_rfl) Tryd.func40 rfl
theorem ok41 : FnOK Tryd.prog 41 Tryd.f41 (Tryd.f41.body.getD .skip) := fnOK_of fns_ok 41 _ _ (by kernel_rfl) Tryd.func41 rfl
theorem ok42 : FnOK Tryd.prog 42 Tryd.f42 (Tryd.f42.body.getD .skip) := fnOK_of fns_ok 42 _ _ (by kernel_rfl) Tryd.func42 rfl
theorem ok43 : FnOK Tryd.prog 43 Tryd.f43 (Tryd.f43.body.getD .skip) := fnOK_of fns_ok 43 _ _ (by kernel_rfl) Tryd.func43 rfl
theorem ok44 : FnOK Tryd.prog 44 Tryd.f44 (Tryd.f44.body.getD .skip) := fnOK_of fns_ok 44 _ _ (by kernel_rfl) Tryd.func44 rfl
theorem ok45 : FnOK Tryd.prog 45 Tryd.f45 (Tryd.f45.body.getD .skip) := fnOK_of fns_ok 45 _ _ (by kernel_rfl) Tryd.func45 rfl
theorem ok46 : FnOK Tryd.prog 46 Tryd.f46 (Tryd.f46.body.getD .skip) := fnOK_of fns_ok 46 _ _ (by kernel_rfl) Tryd.func46 rfl
theorem ok48 : FnOK Tryd.prog 48 Tryd.f48 (Tryd.f48.body.getD .skip) := fnOK_of fns_ok 48 _ _ (by kernel_rfl) Tryd.func48 rfl
theorem ok49 : FnOK Tryd.prog 49 Tryd.f49 (Tryd.f49.body.getD .skip) := fnOK_of fns_ok 49 _ _ (by kernel_rfl) Tryd.func49 rfl
theorem ok50 : FnOK Tryd.prog 50 Tryd.f50 (Tryd.f50.body.getD .skip) := fnOK_of fns_ok 50 _ _ (by kernel_rfl) Tryd.func50 rfl
theorem ok51 : FnOK Tryd.prog 51 Tryd.f51 (Tryd.f51.body.getD .skip) := fnOK_of fns_ok 51 _ _ (by kernel_rfl) Tryd.func51 rfl
theorem ok53 : FnOK Tryd.prog 53 Tryd.f53 (Tryd.f53.body.getD .skip) := fnOK_of fns_ok 53 _ _ (by kernel_rfl) Tryd.func53 rfl
theorem ok54 : FnOK Tryd.prog 54 Tryd.f54 (Tryd.f54.body.getD .skip) := fnOK_of fns_ok 54 _ _ (by kernel_rfl) Tryd.func54 rfl
theorem ok59 : FnOK Tryd.prog 59 Tryd.f59 (Tryd.f59.body.getD .skip) := fnOK_of fns_ok 59 _ _ (by kernel_rfl) Tryd.func59 rfl
theorem ok60 : FnOK Tryd.prog 60 Tryd.f60 (Tryd.f60.body.getD .skip) := fnOK_of fns_ok 60 _ _ (by kernel_rfl) Tryd.func60 rfl
theorem ok61 : FnOK Tryd.prog 61 Tryd.f61 (Tryd.f61.body.getD .skip) := fnOK_of fns_ok 61 _ _ (by kernel_rfl) Tryd.func61 rfl
theorem ok62 : FnOK Tryd.prog 62 Tryd.f62 (Tryd.f62.body.getD .skip) := fnOK_of fns_ok 62 _ _ (by kernel_rfl) Tryd.func62 rfl
theorem ok63 : FnOK Tryd.prog 63 Tryd.f63 (Tryd.f63.body.getD .skip) := fnOK_of fns_ok 63 _ _ (by kernel_rfl) Tryd.func63 rfl
theorem ok64 : FnOK Tryd.prog 64 Tryd.f64 (Tryd.f64.body.getD .skip) := fnOK_of fns_ok 64 _ _ (by kernel_rfl) Tryd.func64 rfl
theorem ok65 : FnOK Tryd.prog 65 Tryd.f65 (Tryd.f65.body.getD .skip) := fnOK_of fns_ok 65 _ _ (by kernel_rfl) Tryd.func65 rfl
theorem ok66 : FnOK Tryd.prog 66 Tryd.f66 (Tryd.f66.body.getD .skip) := fnOK_of fns_ok 66 _ _ (by kernel_rfl) Tryd.func66 rfl
theorem ok67 : FnOK Tryd.prog 67 Tryd.f67 (Tryd.f67.body.getD .skip) := fnOK_of fns_ok 67 _ _ (by kernel_rfl) Tryd.func67 rfl
theorem ok68 : FnOK Tryd.prog 68 Tryd.f68 (Tryd.f68.body.getD .skip) := fnOK_of fns_ok 68 _ _ (by kernel_rfl) Tryd.func68 rfl
theorem ok69 : FnOK Tryd.prog 69 Tryd.f69 (Tryd.f69.body.getD .skip) := fnOK_of fns_ok 69 _ _ (by kernel_rfl) Tryd.func69 rfl
theorem ok70 : FnOK Tryd.prog 70 Tryd.f70 (Tryd.f70.body.getD .skip) := fnOK_of fns_ok 70 _ _ (by kernel_rfl) Tryd.func70 rfl
theorem ok71 : FnOK Tryd.prog 71 Tryd.f71 (Tryd.f71.body.getD .skip) := fnOK_of fns_ok 71 _ _ (by kernel_rfl) Tryd.func71 rfl
theorem ok73 : FnOK Tryd.prog 73 Tryd.f73 (Tryd.f73.body.getD .skip) := fnOK_of fns_ok 73 _ _ (by kernel_rfl) Tryd.func73 rfl
theorem ok74 : FnOK Tryd.prog 74 Tryd.f74 (Tryd.f74.body.getD .skip) := fnOK_of fns_ok 74 _ _ (by kernel_rfl) Tryd.func74 rfl
theorem ok75 : FnOK Tryd.prog 75 Tryd.f75 (Tryd.f75.body.getD .skip) := fnOK_of fns_ok 75 _ _ (by kernel_rfl) Tryd.func75 rfl
theorem ok76 : FnOK Tryd.prog 76 Tryd.f76 (Tryd.f76.body.getD .skip) := fnOK_of fns_ok 76 _ _ (by kernel_rfl) Tryd.func76 rfl
theorem ok77 : FnOK Tryd.prog 77 Tryd.f77 (Tryd.f77.body.getD .skip) := fnOK_of fns_ok 77 _ _ (by kernel_rfl) Tryd.func77 rfl
theorem ok78 : FnOK Tryd.prog 78 Tryd.f78 (Tryd.f78.body.getD .skip) := fnOK_of fns_ok 78 _ _ (by kernel_rfl) Tryd.func78 rfl
theorem ok79 : FnOK Tryd.prog 79 Tryd.f79 (Tryd.f79.body.getD .skip) := fnOK_of fns_ok 79 _ _ (by kernel_rfl) Tryd.func79 rfl
theorem ok80 : FnOK Tryd.prog 80 Tryd.f80 (Tryd.f80.body.getD .skip) := fnOK_of fns_ok 80 _ _ (by kernel_rfl) Tryd.func80 rfl
theorem ok81 : FnOK Tryd.prog 81 Tryd.f81 (Tryd.f81.body.getD .skip) := fnOK_of fns_ok 81 _ _ (by kernel_rfl) Tryd.func81 rfl
theorem ok82 : FnOK Tryd.prog 82 Tryd.f82 (Tryd.f82.body.getD .skip) := fnOK_of fns_ok 82 _ _ (by kernel_rfl) Tryd.func82 rfl
theorem ok83 : FnOK Tryd.prog 83 Tryd.f83 (Tryd.f83.body.getD .skip) := fnOK_of fns_ok 83 _ _ (by kernel_rfl) Tryd.func83 rfl
theorem ok84 : FnOK Tryd.prog 84 Tryd.f84 (Tryd.f84.body.getD .skip) := fnOK_of fns_ok 84 _ _ (by kernel_rfl) Tryd.func84 rfl
theorem ok85 : FnOK Tryd.prog 85 Tryd.f85 (Tryd.f85.body.getD .skip) := fnOK_of fns_ok 85 _ _ (by kernel_rfl) Tryd.func85 rfl
theorem ok86 : FnOK Tryd.prog 86 Tryd.f86 (Tryd.f86.body.getD .skip) := fnOK_of fns_ok 86 _ _ (by kernel_rfl) Tryd.func86 rfl
theorem ok87 : FnOK Tryd.prog 87 Tryd.f87 (Tryd.f87.body.getD .skip) := fnOK_of fns_ok 87 _ _ (by kernel_rfl) Tryd.func87 rfl
theorem ok88 : FnOK Tryd.prog 88 Tryd.f88 (Tryd.f88.body.getD .skip) := fnOK_of fns_ok 88 _ _ (by kernel_rfl) Tryd.func88 rfl
theorem ok89 : FnOK Tryd.prog 89 Tryd.f89 (Tryd.f89.body.getD .skip) := fnOK_of fns_ok 89 _ _ (by kernel_rfl) Tryd.func89 rfl
theorem ok90 : FnOK Tryd.prog 90 Tryd.f90 (Tryd.f90.body.getD .skip) := fnOK_of fns_ok 90 _ _ (by kernel_rfl) Tryd.func90 rfl
theorem ok91 : FnOK Tryd.prog 91 Tryd.f91 (Tryd.f91.body.getD .skip) := fnOK_of fns_ok 91 _ _ (by kernel_rfl) Tryd.func91 rfl
theorem ok92 : FnOK Tryd.prog 92 Tryd.f92 (Tryd.f92.body.getD .skip) := fnOK_of fns_ok 92 _ _ (by kernel_rfl) Tryd.func92 rfl
theorem ok93 : FnOK Tryd.prog 93 Tryd.f93 (Tryd.f93.body.getD .skip) := fnOK_of fns_ok 93 _ _ (by kernel_rfl) Tryd.func93 rfl
theorem ok94 : FnOK Tryd.prog 94 Tryd.f94 (Tryd.f94.body.getD .skip) := fnOK_of fns_ok 94 _ _ (by kernel_rfl) Tryd.func94 rfl
theorem ok95 : FnOK Tryd.prog 95 Tryd.f95 (Tryd.f95.body.getD .skip) := fnOK_of fns_ok 95 _ _ (by kernel_rfl) Tryd.func95 rfl
theorem ok96 : FnOK Tryd.prog 96 Tryd.f96 (Tryd.f96.body.getD .skip) := fnOK_of fns_ok 96 _ _ (by kernel_rfl) Tryd.func96 rfl
theorem ok97 : FnOK Tryd.prog 97 Tryd.f97 (Tryd.f97.body.getD .skip) := fnOK_of fns_ok 97 _ _ (by kernel_rfl) Tryd.func97 rfl
theorem ok98 : FnOK Tryd.prog 98 Tryd.f98 (Tryd.f98.body.getD .skip) := fnOK_of fns_ok 98 _ _ (by kernel_rfl) Tryd.func98 rfl
theorem ok99 : FnOK Tryd.prog 99 Tryd.f99 (Tryd.f99.body.getD .skip) := fnOK_of fns_ok 99 _ _ (by kernel_rfl) Tryd.func99 rfl
theorem ok100 : FnOK Tryd.prog 100 Tryd.f100 (Tryd.f100.body.getD .skip) := fnOK_of fns_ok 100 _ _ (by kernel_rfl) Tryd.func100 rfl
theorem ok101 : FnOK Tryd.prog 101 Tryd.f101 (Tryd.f101.body.getD .skip) := fnOK_of fns_ok 101 _ _ (by kernel_rfl) Tryd.func101 rfl
theorem ok102 : FnOK Tryd.prog 102 Tryd.f102 (Tryd.f102.body.getD .skip) := fnOK_of fns_ok 102 _ _ (by kernel_rfl) Tryd.func102 rfl
theorem ok103 : FnOK Tryd.prog 103 Tryd.f103 (Tryd.f103.body.getD .skip) := fnOK_of fns_ok 103 _ _ (by kernel_rfl) Tryd.func103 rfl
theorem ff_3 : type_of% (And.intro @und_3 (And.intro @und_4 @und_22)) := And.intro @und_3 (And.intro @und_4 @und_22)
theorem ff_4 : type_of% (And.intro (And.intro @agg_22 (And.intro @csz_22 @eapp_32_32)) (And.intro (And.intro @ebs_32_0 @ebs_32_1) (And.intro @esz_31 @undT_31))) := And.intro (And.intro @agg_22 (And.intro @csz_22 @eapp_32_32)) (And.intro (And.intro @ebs_32_0 @ebs_32_1) (And.intro @esz_31 @undT_31))
theorem ff_5 : type_of% (@und_3) := @und_3
theorem ff_6 : type_of% (And.intro @und_9 (And.intro @und_24 @undT_9)) := And.intro @und_9 (And.intro @und_24 @undT_9)
theorem ff_7 : type_of% (And.intro (And.intro @ebs_32_2 @und_3) (And.intro @und_9 (And.intro @und_22 @und_24))) := And.intro (And.intro @ebs_32_2 @und_3) (And.intro @und_9 (And.intro @und_22 @und_24))
theorem ff_9 : type_of% (@und_4) := @und_4
theorem ff_11 : type_of% (@und_22) := @und_22
theorem ff_14 : type_of% (And.intro @und_22 @und_24) := And.intro @und_22 @und_24
theorem ff_15 : type_of% (And.intro (And.intro @agg_24 @csz_24) (And.intro @esz_32 (And.intro @und_3 @undT_32))) := And.intro (And.intro @agg_24 @csz_24) (And.intro @esz_32 (And.intro @und_3 @undT_32))
theorem ff_16 : type_of% (And.intro (And.intro @agg_24 @csz_24) (And.intro @esz_32 (And.intro @und_3 @undT_32))) := And.intro (And.intro @agg_24 @csz_24) (And.intro @esz_32 (And.intro @und_3 @undT_32))
theorem ff_20 : type_of% (And.intro @und_5 (And.intro @und_9 @undT_9)) := And.intro @und_5 (And.intro @und_9 @undT_9)
theorem ff_21 : type_of% (And.intro @und_2 @und_22) := And.intro @und_2 @und_22
theorem ff_22 : type_of% (@und_24) := @und_24
theorem ff_23 : type_of% (@und_22) := @und_22
theorem ff_24 : type_of% (@und_22) := @und_22
theorem ff_28 : type_of% (And.intro @und_9 @undT_9) := And.intro @und_9 @undT_9
theorem ff_29 : type_of% (And.intro (And.intro @und_3 @und_5) (And.intro @und_9 (And.intro @und_24 @undT_9))) := And.intro (And.intro @und_3 @und_5) (And.intro @und_9 (And.intro @und_24 @undT_9))
theorem ff_30 : type_of% (And.intro (And.intro @und_3 (And.intro @und_5 @und_9)) (And.intro @und_43 (And.intro @undT_9 @zeroT_59))) := And.intro (And.intro @und_3 (And.intro @und_5 @und_9)) (And.intro @und_43 (And.intro @undT_9 @zeroT_59))
theorem ff_31 : type_of% (@und_3) := @und_3
theorem ff_33 : type_of% (@undT_9) := @undT_9
theorem ff_34 : type_of% (@undT_9) := @undT_9
theorem ff_35 : type_of% (And.intro @und_43 @und_69) := And.intro @und_43 @und_69
theorem ff_37 : type_of% (And.intro (And.intro @agg_57 @csz_57) (And.intro @fofs_59_1 @undT_57)) := And.intro (And.intro @agg_57 @csz_57) (And.intro @fofs_59_1 @undT_57)
theorem ff_38 : type_of% (And.intro (And.intro @agg_57 (And.intro @csz_57 @eapp_57_9)) (And.intro @fofs_59_1 (And.intro @isz_57 @undT_9))) := And.intro (And.intro @agg_57 (And.intro @csz_57 @eapp_57_9)) (And.intro @fofs_59_1 (And.intro @isz_57 @undT_9))
theorem ff_39 : type_of% (And.intro (And.intro @agg_57 @csz_57) (And.intro @fofs_59_1 @undT_57)) := And.intro (And.intro @agg_57 @csz_57) (And.intro @fofs_59_1 @undT_57)
theorem ff_40 : type_of% (And.intro (And.intro @agg_57 @csz_57) (And.intro @fofs_59_1 @undT_57)) := And.intro (And.intro @agg_57 @csz_57) (And.intro @fofs_59_1 @undT_57)
theorem ff_42 : type_of% (And.intro (And.intro @emk_57 (And.intro @und_3 @und_9)) (And.intro @und_24 (And.intro @und_57 @und_76))) := And.intro (And.intro @emk_57 (And.intro @und_3 @und_9)) (And.intro @und_24 (And.intro @und_57 @und_76))
theorem ff_43 : type_of% (And.intro @und_9 @undT_9) := And.intro @und_9 @undT_9
theorem ff_44 : type_of% (And.intro (And.intro @agg_3 (And.intro @csz_3 @und_3)) (And.intro @und_5 (And.intro @und_9 @undT_9))) := And.intro (And.intro @agg_3 (And.intro @csz_3 @und_3)) (And.intro @und_5 (And.intro @und_9 @undT_9))
theorem ff_45 : type_of% (And.intro @und_22 @und_69) := And.intro @und_22 @und_69
theorem ff_48 : type_of% (And.intro (And.intro @agg_57 (And.intro @csz_57 @esz_57)) (And.intro @fofs_59_1 (And.intro @isz_57 @undT_57))) := And.intro (And.intro @agg_57 (And.intro @csz_57 @esz_57)) (And.intro @fofs_59_1 (And.intro @isz_57 @undT_57))
theorem ff_49 : type_of% (And.intro (And.intro (And.intro (And.intro @agg_3 @agg_4) (And.intro @csz_3 (And.intro @csz_4 @eapp_57_9))) (And.intro (And.intro @ear_87 @ear_93) (And.intro @ear_96 (And.intro @fofs_98_0 @fofs_98_1)))) (And.intro (And.intro (And.intro @fofs_98_2 @und_3) (And.intro @und_5 (And.intro @und_12 @und_22))) (And.intro (And.intro @und_24 @und_69) (And.intro @und_76 (And.intro @zeroT_87 @zeroT_93))))) := And.intro (And.intro (And.intro (And.intro @agg_3 @agg_4) (And.intro @csz_3 (And.intro @csz_4 @eapp_57_9))) (And.intro (And.intro @ear_87 @ear_93) (And.intro @ear_96 (And.intro @fofs_98_0 @fofs_98_1)))) (And.intro (And.intro (And.intro @fofs_98_2 @und_3) (And.intro @und_5 (And.intro @und_12 @und_22))) (And.intro (And.intro @und_24 @und_69) (And.intro @und_76 (And.intro @zeroT_87 @zeroT_93))))
theorem ff_50 : type_of% (And.intro (And.intro (And.intro (And.intro @agg_3 @agg_4) (And.intro @csz_3 (And.intro @csz_4 @eapp_57_9))) (And.intro (And.intro @ear_87 @ear_93) (And.intro @ear_96 (And.intro @fofs_98_0 @fofs_98_1)))) (And.intro (And.intro (And.intro @fofs_98_2 @und_3) (And.intro @und_5 (And.intro @und_12 @und_22))) (And.intro (And.intro @und_24 @und_69) (And.intro @und_76 (And.intro @zeroT_87 @zeroT_93))))) := And.intro (And.intro (And.intro (And.intro @agg_3 @agg_4) (And.intro @csz_3 (And.intro @csz_4 @eapp_57_9))) (And.intro (And.intro @ear_87 @ear_93) (And.intro @ear_96 (And.intro @fofs_98_0 @fofs_98_1)))) (And.intro (And.intro (And.intro @fofs_98_2 @und_3) (And.intro @und_5 (And.intro @und_12 @und_22))) (And.intro (And.intro @und_24 @und_69) (And.intro @und_76 (And.intro @zeroT_87 @zeroT_93))))
theorem ff_54 : type_of% (And.intro (And.intro @und_5 @und_9) (And.intro @und_69 @undT_9)) := And.intro (And.intro @und_5 @und_9) (And.intro @und_69 @undT_9)
theorem ff_59 : type_of% (And.intro @eapp_57_57 @ebs_57_1) := And.intro @eapp_57_57 @ebs_57_1
theorem ff_60 : type_of% (And.intro (And.intro (And.intro @eapp_57_57 @ebs_57_1) (And.intro @ebs_57_2 (And.intro @ebs_57_3 @ebs_57_4))) (And.intro (And.intro @und_3 @und_5) (And.intro @und_9 (And.intro @und_22 @und_43)))) := And.intro (And.intro (And.intro @eapp_57_57 @ebs_57_1) (And.intro @ebs_57_2 (And.intro @ebs_57_3 @ebs_57_4))) (And.intro (And.intro @und_3 @und_5) (And.intro @und_9 (And.intro @und_22 @und_43)))
theorem ff_61 : type_of% (And.intro (And.intro (And.intro @agg_5 @csz_5) (And.intro @eapp_57_57 (And.intro @ebs_57_1 @ebs_57_2))) (And.intro (And.intro @ebs_57_3 @esz_57) (And.intro @und_3 (And.intro @und_5 @undT_57)))) := And.intro (And.intro (And.intro @agg_5 @csz_5) (And.intro @eapp_57_57 (And.intro @ebs_57_1 @ebs_57_2))) (And.intro (And.intro @ebs_57_3 @esz_57) (And.intro @und_3 (And.intro @und_5 @undT_57)))
theorem ff_62 : type_of% (And.intro (And.intro @und_3 @und_5) (And.intro @und_9 @und_22)) := And.intro (And.intro @und_3 @und_5) (And.intro @und_9 @und_22)
theorem ff_63 : type_of% (And.intro (And.intro @und_3 @und_12) (And.intro @und_22 @zeroT_105)) := And.intro (And.intro @und_3 @und_12) (And.intro @und_22 @zeroT_105)
theorem ff_64 : type_of% (And.intro (And.intro @agg_5 @csz_5) (And.intro @esz_57 (And.intro @und_5 @undT_57))) := And.intro (And.intro @agg_5 @csz_5) (And.intro @esz_57 (And.intro @und_5 @undT_57))
theorem ff_65 : type_of% (And.intro @agg_22 (And.intro @csz_22 @ear_114)) := And.intro @agg_22 (And.intro @csz_22 @ear_114)
theorem ff_67 : type_of% (And.intro (And.intro @agg_22 @csz_22) (And.intro @ear_114 (And.intro @und_5 @zeroT_105))) := And.intro (And.intro @agg_22 @csz_22) (And.intro @ear_114 (And.intro @und_5 @zeroT_105))
theorem ff_68 : type_of% (And.intro (And.intro (And.intro @agg_3 (And.intro @agg_5 @csz_3)) (And.intro (And.intro @csz_5 @ear_93) (And.intro @ear_96 @fofs_98_0))) (And.intro (And.intro @fofs_98_1 (And.intro @fofs_98_2 @isz_3)) (And.intro (And.intro @isz_5 @und_5) (And.intro @und_22 @zeroT_93)))) := And.intro (And.intro (And.intro @agg_3 (And.intro @agg_5 @csz_3)) (And.intro (And.intro @csz_5 @ear_93) (And.intro @ear_96 @fofs_98_0))) (And.intro (And.intro @fofs_98_1 (And.intro @fofs_98_2 @isz_3)) (And.intro (And.intro @isz_5 @und_5) (And.intro @und_22 @zeroT_93)))
theorem ff_69 : type_of% (And.intro (And.intro @agg_3 @csz_3) (And.intro @fofs_98_1 (And.intro @und_3 @und_43))) := And.intro (And.intro @agg_3 @csz_3) (And.intro @fofs_98_1 (And.intro @und_3 @und_43))
theorem ff_70 : type_of% (And.intro @agg_3 (And.intro @csz_3 @fofs_98_1)) := And.intro @agg_3 (And.intro @csz_3 @fofs_98_1)
theorem ff_71 : type_of% (And.intro (And.intro @und_3 @und_12) (And.intro @und_22 @zeroT_105)) := And.intro (And.intro @und_3 @und_12) (And.intro @und_22 @zeroT_105)
theorem ff_73 : type_of% (And.intro (And.intro @und_3 @und_5) (And.intro @und_9 (And.intro @und_69 @undT_9))) := And.intro (And.intro @und_3 @und_5) (And.intro @und_9 (And.intro @und_69 @undT_9))
theorem ff_74 : type_of% (And.intro (And.intro @eapp_57_9 (And.intro @eapp_57_57 @ear_93)) (And.intro @und_3 (And.intro @und_22 @zeroT_93))) := And.intro (And.intro @eapp_57_9 (And.intro @eapp_57_57 @ear_93)) (And.intro @und_3 (And.intro @und_22 @zeroT_93))
theorem ff_75 : type_of% (And.intro (And.intro @eapp_57_57 @ebs_57_1) (And.intro @und_2 @und_22)) := And.intro (And.intro @eapp_57_57 @ebs_57_1) (And.intro @und_2 @und_22)
theorem ff_78 : type_of% (And.intro (And.intro (And.intro @agg_22 @csz_22) (And.intro @ear_124 (And.intro @fofs_105_0 @fofs_105_1))) (And.intro (And.intro @fofs_105_2 @fofs_123_0) (And.intro @fofs_123_1 (And.intro @isz_3 @isz_22)))) := And.intro (And.intro (And.intro @agg_22 @csz_22) (And.intro @ear_124 (And.intro @fofs_105_0 @fofs_105_1))) (And.intro (And.intro @fofs_105_2 @fofs_123_0) (And.intro @fofs_123_1 (And.intro @isz_3 @isz_22)))
theorem ff_80 : type_of% (And.intro (And.intro (And.intro @agg_3 @agg_22) (And.intro @csz_3 @csz_22)) (And.intro (And.intro @fofs_105_0 @fofs_105_1) (And.intro @fofs_105_2 @und_22))) := And.intro (And.intro (And.intro @agg_3 @agg_22) (And.intro @csz_3 @csz_22)) (And.intro (And.intro @fofs_105_0 @fofs_105_1) (And.intro @fofs_105_2 @und_22))
theorem ff_81 : type_of% (And.intro @und_3 @und_108) := And.intro @und_3 @und_108
theorem ff_85 : type_of% (And.intro (And.intro @esz_57 (And.intro @isz_5 @und_5)) (And.intro (And.intro @und_9 @und_22) (And.intro @und_69 @undT_57))) := And.intro (And.intro @esz_57 (And.intro @isz_5 @und_5)) (And.intro (And.intro @und_9 @und_22) (And.intro @und_69 @undT_57))
theorem ff_88 : type_of% (@und_22) := @und_22
theorem ff_89 : type_of% (And.intro (And.intro (And.intro @agg_3 @agg_5) (And.intro @csz_3 (And.intro @csz_5 @ear_96))) (And.intro (And.intro @fofs_98_0 (And.intro @fofs_98_1 @fofs_98_2)) (And.intro @isz_3 (And.intro @und_3 @und_5)))) := And.intro (And.intro (And.intro @agg_3 @agg_5) (And.intro @csz_3 (And.intro @csz_5 @ear_96))) (And.intro (And.intro @fofs_98_0 (And.intro @fofs_98_1 @fofs_98_2)) (And.intro @isz_3 (And.intro @und_3 @und_5)))
theorem ff_90 : type_of% (And.intro (And.intro (And.intro (And.intro @agg_3 @agg_5) (And.intro @agg_9 (And.intro @agg_129 @csz_3))) (And.intro (And.intro @csz_5 @csz_9) (And.intro @csz_129 (And.intro @ear_96 @esz_129)))) (And.intro (And.intro (And.intro @fofs_98_0 @fofs_98_1) (And.intro @fofs_98_2 (And.intro @fofs_98_4 @fofs_128_0))) (And.intro (And.intro @fofs_128_1 (And.intro @isz_3 @isz_4)) (And.intro @isz_5 (And.intro @und_5 @und_43))))) := And.intro (And.intro (And.intro (And.intro @agg_3 @agg_5) (And.intro @agg_9 (And.intro @agg_129 @csz_3))) (And.intro (And.intro @csz_5 @csz_9) (And.intro @csz_129 (And.intro @ear_96 @esz_129)))) (And.intro (And.intro (And.intro @fofs_98_0 @fofs_98_1) (And.intro @fofs_98_2 (And.intro @fofs_98_4 @fofs_128_0))) (And.intro (And.intro @fofs_128_1 (And.intro @isz_3 @isz_4)) (And.intro @isz_5 (And.intro @und_5 @und_43))))
theorem ff_91 : type_of% (And.intro (And.intro (And.intro @agg_3 (And.intro @agg_5 @csz_3)) (And.intro (And.intro @csz_5 @ear_96) (And.intro @fofs_98_0 @fofs_98_1))) (And.intro (And.intro @fofs_98_2 (And.intro @fofs_98_4 @isz_3)) (And.intro (And.intro @isz_4 @isz_5) (And.intro @und_5 @und_43)))) := And.intro (And.intro (And.intro @agg_3 (And.intro @agg_5 @csz_3)) (And.intro (And.intro @csz_5 @ear_96) (And.intro @fofs_98_0 @fofs_98_1))) (And.intro (And.intro @fofs_98_2 (And.intro @fofs_98_4 @isz_3)) (And.intro (And.intro @isz_4 @isz_5) (And.intro @und_5 @und_43)))
theorem ff_92 : type_of% (And.intro (And.intro (And.intro @agg_3 (And.intro @agg_4 @agg_5)) (And.intro @csz_3 (And.intro @csz_4 @csz_5))) (And.intro (And.intro @ear_96 (And.intro @fofs_98_0 @fofs_98_1)) (And.intro @fofs_98_4 (And.intro @und_3 @und_5)))) := And.intro (And.intro (And.intro @agg_3 (And.intro @agg_4 @agg_5)) (And.intro @csz_3 (And.intro @csz_4 @csz_5))) (And.intro (And.intro @ear_96 (And.intro @fofs_98_0 @fofs_98_1)) (And.intro @fofs_98_4 (And.intro @und_3 @und_5)))
theorem ff_93 : type_of% (And.intro (And.intro (And.intro @agg_3 @agg_5) (And.intro @csz_3 (And.intro @csz_5 @ear_96))) (And.intro (And.intro @fofs_98_0 @fofs_98_1) (And.intro @fofs_98_2 (And.intro @isz_3 @isz_5)))) := And.intro (And.intro (And.intro @agg_3 @agg_5) (And.intro @csz_3 (And.intro @csz_5 @ear_96))) (And.intro (And.intro @fofs_98_0 @fofs_98_1) (And.intro @fofs_98_2 (And.intro @isz_3 @isz_5)))
theorem ff_94 : type_of% (And.intro (And.intro @agg_3 @csz_3) (And.intro @fofs_98_1 @isz_3)) := And.intro (And.intro @agg_3 @csz_3) (And.intro @fofs_98_1 @isz_3)
theorem ff_96 : type_of% (And.intro (And.intro (And.intro @eapp_57_57 @ear_131) (And.intro @isz_5 @und_3)) (And.intro (And.intro @und_9 @und_22) (And.intro @und_43 (And.intro @und_57 @zeroT_131)))) := And.intro (And.intro (And.intro @eapp_57_57 @ear_131) (And.intro @isz_5 @und_3)) (And.intro (And.intro @und_9 @und_22) (And.intro @und_43 (And.intro @und_57 @zeroT_131)))
theorem ff_99 : type_of% (And.intro (And.intro @agg_5 (And.intro @csz_5 @esz_57)) (And.intro (And.intro @und_5 @und_9) (And.intro @undT_9 @undT_57))) := And.intro (And.intro @agg_5 (And.intro @csz_5 @esz_57)) (And.intro (And.intro @und_5 @und_9) (And.intro @undT_9 @undT_57))
theorem ff_100 : type_of% (@und_3) := @und_3
theorem ff_101 : type_of% (And.intro @und_43 @und_69) := And.intro @und_43 @und_69
theorem ff_102 : type_of% (And.intro (And.intro @agg_5 (And.intro @csz_5 @ear_87)) (And.intro @und_3 (And.intro @und_5 @und_69))) := And.intro (And.intro @agg_5 (And.intro @csz_5 @ear_87)) (And.intro @und_3 (And.intro @und_5 @und_69))
theorem ff_103 : type_of% (And.intro (And.intro @agg_5 (And.intro @csz_5 @ear_135)) (And.intro @und_3 (And.intro @und_5 @und_22))) := And.intro (And.intro @agg_5 (And.intro @csz_5 @ear_135)) (And.intro @und_3 (And.intro @und_5 @und_22))
end Go.Proofs.YtddpnhhgmfaloaaDoor

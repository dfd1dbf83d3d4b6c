/- A part of a proof. Its conditions: none. -/
import Derived.Test.YtddpnhhgmfaloaaGreatDoorAmD
import Derived.Test.YtddpnhhgmfaloaaGreatDoorRows
import Derived.KernelRfl
set_option linter.all false
namespace Go.Proofs.YtddpnhhgmfaloaaGreatDoor
open Go.AM
def fns : List Nat := [3, 4, 5, 6, 7, 8, 9, 10, 11, 12, 13, 14, 15, 16, 17, 18, 19, 20, 21, 22, 24, 26, 27, 28, 29, 30, 31, 32, 33, 34, 35, 36, 37, 38, 39, 40, 41, 42, 43, 44, 46, 47, 48, 49, 51, 52, 57, 58, 59, 60, 61, 62, 63, 64, 65, 66, 67, 68, 69, 71, 72, 73, 74, 75, 76, 77, 78, 79, 80, 81, 82, 83, 84, 85, 86, 87, 88, 89, 90, 91, 92, 93, 94, 95, 96, 97, 98, 99, 100, 101]
theorem fns_ok : fns.all (fnOKb Tryz.prog) = true := by kernel_rfl
theorem orders : Tryz.prog.follows .mixedOrders = true := by kernel_rfl
theorem agg_3 : aggT Tryz.prog 3 = some false := by kernel_rfl
theorem agg_4 : aggT Tryz.prog 4 = some false := by kernel_rfl
theorem agg_5 : aggT Tryz.prog 5 = some false := by kernel_rfl
theorem agg_9 : aggT Tryz.prog 9 = some false := by kernel_rfl
theorem agg_23 : aggT Tryz.prog 23 = some false := by kernel_rfl
theorem agg_34 : aggT Tryz.prog 34 = some false := by kernel_rfl
theorem agg_55 : aggT Tryz.prog 55 = some false := by kernel_rfl
theorem agg_128 : aggT Tryz.prog 128 = some false := by kernel_rfl
theorem csz_3 : Program.cellsOf Tryz.prog 3 = 1 := by kernel_rfl
theorem csz_4 : Program.cellsOf Tryz.prog 4 = 1 := by kernel_rfl
theorem csz_5 : Program.cellsOf Tryz.prog 5 = 1 := by kernel_rfl
theorem csz_9 : Program.cellsOf Tryz.prog 9 = 1 := by kernel_rfl
theorem csz_23 : Program.cellsOf Tryz.prog 23 = 1 := by kernel_rfl
theorem csz_34 : Program.cellsOf Tryz.prog 34 = 1 := by kernel_rfl
theorem csz_55 : Program.cellsOf Tryz.prog 55 = 1 := by kernel_rfl
theorem csz_128 : Program.cellsOf Tryz.prog 128 = 1 := by kernel_rfl
theorem eapp_55_9 : eapp Tryz.prog #[55, 9] = some (5, 1) := by kernel_rfl
theorem eapp_55_55 : eapp Tryz.prog #[55, 55] = some (5, 1) := by kernel_rfl
theorem ear_86 : earr Tryz.prog 86 = some (5, 1, 32) := by kernel_rfl
theorem ear_92 : earr Tryz.prog 92 = some (5, 1, 24) := by kernel_rfl
theorem ear_95 : earr Tryz.prog 95 = some (5, 1, 800) := by kernel_rfl
theorem ear_113 : earr Tryz.prog 113 = some (34, 1, 20) := by kernel_rfl
theorem ear_123 : earr Tryz.prog 123 = some (122, 2, 696) := by kernel_rfl
theorem ear_130 : earr Tryz.prog 130 = some (5, 1, 65) := by kernel_rfl
theorem ear_134 : earr Tryz.prog 134 = some (5, 1, 64) := by kernel_rfl
theorem ebs_33_2 : ebs Tryz.prog 33 2 = some (23, 1, [Value.float FloatKind.f64 0]) := by kernel_rfl
theorem ebs_55_1 : ebs Tryz.prog 55 1 = some (5, 1, [Value.int IntKind.u8 (Int.ofNat 0)]) := by kernel_rfl
theorem ebs_55_2 : ebs Tryz.prog 55 2 = some (5, 1, [Value.int IntKind.u8 (Int.ofNat 0)]) := by kernel_rfl
theorem ebs_55_3 : ebs Tryz.prog 55 3 = some (5, 1, [Value.int IntKind.u8 (Int.ofNat 0)]) := by kernel_rfl
theorem ebs_55_4 : ebs Tryz.prog 55 4 = some (5, 1, [Value.int IntKind.u8 (Int.ofNat 0)]) := by kernel_rfl
theorem emk_55 : emk Tryz.prog 55 = some (5, [Value.int IntKind.u8 (Int.ofNat 0)]) := by kernel_rfl
theorem esz_33 : esz Tryz.prog 33 = some (23, 1) := by kernel_rfl
theorem esz_55 : esz Tryz.prog 55 = some (5, 1) := by kernel_rfl
theorem esz_128 : esz Tryz.prog 128 = some (127, 2) := by kernel_rfl
theorem fofs_57_1 : fofs Tryz.prog 57 1 = some 1 := by kernel_rfl
theorem fofs_97_0 : fofs Tryz.prog 97 0 = some 0 := by kernel_rfl
theorem fofs_97_1 : fofs Tryz.prog 97 1 = some 800 := by kernel_rfl
theorem fofs_97_2 : fofs Tryz.prog 97 2 = some 801 := by kernel_rfl
theorem fofs_97_4 : fofs Tryz.prog 97 4 = some 803 := by kernel_rfl
theorem fofs_104_0 : fofs Tryz.prog 104 0 = some 0 := by kernel_rfl
theorem fofs_104_1 : fofs Tryz.prog 104 1 = some 1 := by kernel_rfl
theorem fofs_104_2 : fofs Tryz.prog 104 2 = some 2 := by kernel_rfl
theorem fofs_122_0 : fofs Tryz.prog 122 0 = some 0 := by kernel_rfl
theorem fofs_122_1 : fofs Tryz.prog 122 1 = some 1 := by kernel_rfl
theorem fofs_127_0 : fofs Tryz.prog 127 0 = some 0 := by kernel_rfl
theorem fofs_127_1 : fofs Tryz.prog 127 1 = some 1 := by kernel_rfl
theorem isz_3 : isz Tryz.prog 3 = some 1 := by kernel_rfl
theorem isz_4 : isz Tryz.prog 4 = some 1 := by kernel_rfl
theorem isz_5 : isz Tryz.prog 5 = some 1 := by kernel_rfl
theorem isz_34 : isz Tryz.prog 34 = some 1 := by kernel_rfl
theorem isz_55 : isz Tryz.prog 55 = some 1 := by kernel_rfl
theorem und_2 : Program.underlying Tryz.prog 2 = some (TypeDesc.int IntKind.i64) := by kernel_rfl
theorem und_3 : Program.underlying Tryz.prog 3 = some (TypeDesc.int IntKind.i64) := by kernel_rfl
theorem und_4 : Program.underlying Tryz.prog 4 = some TypeDesc.bool := by kernel_rfl
theorem und_5 : Program.underlying Tryz.prog 5 = some (TypeDesc.int IntKind.u8) := by kernel_rfl
theorem und_9 : Program.underlying Tryz.prog 9 = some TypeDesc.string := by kernel_rfl
theorem und_12 : Program.underlying Tryz.prog 12 = some (TypeDesc.int IntKind.u64) := by kernel_rfl
theorem und_23 : Program.underlying Tryz.prog 23 = some (TypeDesc.float FloatKind.f64) := by kernel_rfl
theorem und_34 : Program.underlying Tryz.prog 34 = some (TypeDesc.int IntKind.u64) := by kernel_rfl
theorem und_50 : Program.underlying Tryz.prog 50 = some (TypeDesc.int IntKind.u64) := by kernel_rfl
theorem und_55 : Program.underlying Tryz.prog 55 = some (TypeDesc.slice 5) := by kernel_rfl
theorem und_68 : Program.underlying Tryz.prog 68 = some (TypeDesc.int IntKind.u32) := by kernel_rfl
theorem und_75 : Program.underlying Tryz.prog 75 = some (TypeDesc.float FloatKind.f32) := by kernel_rfl
theorem und_107 : Program.underlying Tryz.prog 107 = some (TypeDesc.int IntKind.u64) := by kernel_rfl
theorem undT_9 : undT Tryz.prog #[9] = some TypeDesc.string := by kernel_rfl
theorem undT_33 : undT Tryz.prog #[33] = some (TypeDesc.slice 23) := by kernel_rfl
theorem undT_55 : undT Tryz.prog #[55] = some (TypeDesc.slice 5) := by kernel_rfl
theorem zeroT_57 : zeroT Tryz.prog 57 = some (Value.agg { toList := [Value.pointer none, Value.slice none 0 0] }) := by kernel_rfl
theorem zeroT_86 : zeroT Tryz.prog 86 = some (Value.agg { toList := [Value.int IntKind.u8 (Int.ofNat 0), Value.int IntKind.u8 (Int.ofNat 0), Value.int IntKind.u8 (Int.ofNat 0), Value.int IntKind.u8 (Int.ofNat 0), Value.int IntKind.u8 (Int.ofNat 0), Value.int IntKind.u8 (Int.ofNat 0), Value.int IntKind.u8 (Int.ofNat 0), Value.int IntKind.u8 (Int.ofNat 0), Value.int IntKind.u8 (Int.ofNat 0), Value.int IntKind.u8 (Int.ofNat 0), Value.int IntKind.u8 (Int.ofNat 0), Value.int IntKind.u8 (Int.ofNat 0), Value.int IntKind.u8 (Int.ofNat 0), Value.int IntKind.u8 (Int.ofNat 0), Value.int IntKind.u8 (Int.ofNat 0), Value.int IntKind.u8 (Int.ofNat 0), Value.int IntKind.u8 (Int.ofNat 0), Value.int IntKind.u8 (Int.ofNat 0), Value.int IntKind.u8 (Int.ofNat 0), Value.int IntKind.u8 (Int.ofNat 0), Value.int IntKind.u8 (Int.ofNat 0), Value.int IntKind.u8 (Int.ofNat 0), Value.int IntKind.u8 (Int.ofNat 0), Value.int IntKind.u8 (Int.ofNat 0), Value.int IntKind.u8 (Int.ofNat 0), Value.int IntKind.u8 (Int.ofNat 0), Value.int IntKind.u8 (Int.ofNat 0), Value.int IntKind.u8 (Int.ofNat 0), Value.int IntKind.u8 (Int.ofNat 0), Value.int IntKind.u8 (Int.ofNat 0), Value.int IntKind.u8 (Int.ofNat 0), Value.int IntKind.u8 (Int.ofNat 0)] }) := by kernel_rfl
theorem zeroT_92 : zeroT Tryz.prog 92 = some (Value.agg { toList := [Value.int IntKind.u8 (Int.ofNat 0), Value.int IntKind.u8 (Int.ofNat 0), Value.int IntKind.u8 (Int.ofNat 0), Value.int IntKind.u8 (Int.ofNat 0), Value.int IntKind.u8 (Int.ofNat 0), Value.int IntKind.u8 (Int.ofNat 0), Value.int IntKind.u8 (Int.ofNat 0), Value.int IntKind.u8 (Int.ofNat 0), Value.int IntKind.u8 (Int.ofNat 0), Value.int IntKind.u8 (Int.ofNat 0), Value.int IntKind.u8 (Int.ofNat 0), Value.int IntKind.u8 (Int.ofNat 0), Value.int IntKind.u8 (Int.ofNat 0), Value.int IntKind.u8 (Int.ofNat 0), Value.int IntKind.u8 (Int.ofNat 0), Value.int IntKind.u8 (Int.ofNat 0), Value.int IntKind.u8 (Int.ofNat 0), Value.int IntKind.u8 (Int.ofNat 0), Value.int IntKind.u8 (Int.ofNat 0), Value.int IntKind.u8 (Int.ofNat 0), Value.int IntKind.u8 (Int.ofNat 0), Value.int IntKind.u8 (Int.ofNat 0), Value.int IntKind.u8 (Int.ofNat 0), Value.int IntKind.u8 (Int.ofNat 0)] }) := by kernel_rfl
theorem zeroT_104 : zeroT Tryz.prog 104 = some (Value.agg { toList := [Value.int IntKind.u64 (Int.ofNat 0), Value.int IntKind.u64 (Int.ofNat 0), Value.int IntKind.i64 (Int.ofNat 0)] }) := by kernel_rfl
theorem zeroT_130 : zeroT Tryz.prog 130 = some (Value.agg { toList := [Value.int IntKind.u8 (Int.ofNat 0), Value.int IntKind.u8 (Int.ofNat 0), Value.int IntKind.u8 (Int.ofNat 0), Value.int IntKind.u8 (Int.ofNat 0), Value.int IntKind.u8 (Int.ofNat 0), Value.int IntKind.u8 (Int.ofNat 0), Value.int IntKind.u8 (Int.ofNat 0), Value.int IntKind.u8 (Int.ofNat 0), Value.int IntKind.u8 (Int.ofNat 0), Value.int IntKind.u8 (Int.ofNat 0), Value.int IntKind.u8 (Int.ofNat 0), Value.int IntKind.u8 (Int.ofNat 0), Value.int IntKind.u8 (Int.ofNat 0), Value.int IntKind.u8 (Int.ofNat 0), Value.int IntKind.u8 (Int.ofNat 0), Value.int IntKind.u8 (Int.ofNat 0), Value.int IntKind.u8 (Int.ofNat 0), Value.int IntKind.u8 (Int.ofNat 0), Value.int IntKind.u8 (Int.ofNat 0), Value.int IntKind.u8 (Int.ofNat 0), Value.int IntKind.u8 (Int.ofNat 0), Value.int IntKind.u8 (Int.ofNat 0), Value.int IntKind.u8 (Int.ofNat 0), Value.int IntKind.u8 (Int.ofNat 0), Value.int IntKind.u8 (Int.ofNat 0), Value.int IntKind.u8 (Int.ofNat 0), Value.int IntKind.u8 (Int.ofNat 0), Value.int IntKind.u8 (Int.ofNat 0), Value.int IntKind.u8 (Int.ofNat 0), Value.int IntKind.u8 (Int.ofNat 0), Value.int IntKind.u8 (Int.ofNat 0), Value.int IntKind.u8 (Int.ofNat 0), Value.int IntKind.u8 (Int.ofNat 0), Value.int IntKind.u8 (Int.ofNat 0), Value.int IntKind.u8 (Int.ofNat 0), Value.int IntKind.u8 (Int.ofNat 0), Value.int IntKind.u8 (Int.ofNat 0), Value.int IntKind.u8 (Int.ofNat 0), Value.int IntKind.u8 (Int.ofNat 0), Value.int IntKind.u8 (Int.ofNat 0), Value.int IntKind.u8 (Int.ofNat 0), Value.int IntKind.u8 (Int.ofNat 0), Value.int IntKind.u8 (Int.ofNat 0), Value.int IntKind.u8 (Int.ofNat 0), Value.int IntKind.u8 (Int.ofNat 0), Value.int IntKind.u8 (Int.ofNat 0), Value.int IntKind.u8 (Int.ofNat 0), Value.int IntKind.u8 (Int.ofNat 0), Value.int IntKind.u8 (Int.ofNat 0), Value.int IntKind.u8 (Int.ofNat 0), Value.int IntKind.u8 (Int.ofNat 0), Value.int IntKind.u8 (Int.ofNat 0), Value.int IntKind.u8 (Int.ofNat 0), Value.int IntKind.u8 (Int.ofNat 0), Value.int IntKind.u8 (Int.ofNat 0), Value.int IntKind.u8 (Int.ofNat 0), Value.int IntKind.u8 (Int.ofNat 0), Value.int IntKind.u8 (Int.ofNat 0), Value.int IntKind.u8 (Int.ofNat 0), Value.int IntKind.u8 (Int.ofNat 0), Value.int IntKind.u8 (Int.ofNat 0), Value.int IntKind.u8 (Int.ofNat 0), Value.int IntKind.u8 (Int.ofNat 0), Value.int IntKind.u8 (Int.ofNat 0), Value.int IntKind.u8 (Int.ofNat 0)] }) := by kernel_rfl
theorem ok3 : FnOK Tryz.prog 3 Tryz.f3 (Tryz.f3.body.getD .skip) := fnOK_of fns_ok 3 _ _ (by kernel_rfl) Tryz.func3 rfl
theorem ok4 : FnOK Tryz.prog 4 Tryz.f4 (Tryz.f4.body.getD .skip) := fnOK_of fns_ok 4 _ _ (by kernel_rfl) Tryz.func4 rfl
theorem ok5 : FnOK Tryz.prog 5 Tryz.f5 (Tryz.f5.body.getD .skip) := fnOK_of fns_ok 5 _ _ (by kernel_rfl) Tryz.func5 rfl
theorem ok6 : FnOK Tryz.prog 6 Tryz.f6 (Tryz.f6.body.getD .skip) := fnOK_of fns_ok 6 _ _ (by kernel_rfl) Tryz.func6 rfl
theorem ok7 : FnOK Tryz.prog 7 Tryz.f7 (Tryz.f7.body.getD .skip) := fnOK_of fns_ok 7 _ _ (by kernel_rfl) Tryz.func7 rfl
theorem ok8 : FnOK Tryz.prog 8 Tryz.f8 (Tryz.f8.body.getD .skip) := fnOK_of fns_ok 8 _ _ (by kernel_rfl) Tryz.func8 rfl
theorem ok9 : FnOK Tryz.prog 9 Tryz.f9 (Tryz.f9.body.getD .skip) := fnOK_of fns_ok 9 _ _ (by kernel_rfl) Tryz.func9 rfl
theorem ok10 : FnOK Tryz.prog 10 Tryz.f10 (Tryz.f10.body.getD .skip) := fnOK_of fns_ok 10 _ _ (by kernel_rfl) Tryz.func10 rfl
theorem ok11 : FnOK Tryz.prog 11 Tryz.f11 (Tryz.f11.body.getD .skip) := fnOK_of fns_ok 11 _ _ (by kernel_rfl) Tryz.func11 rfl
theorem ok12 : FnOK Tryz.prog 12 Tryz.f12 (Tryz.f12.body.getD .skip) := fnOK_of fns_ok 12 _ _ (by kernel_rfl) Tryz.func12 rfl
theorem ok13 : FnOK Tryz.prog 13 Tryz.f13 (Tryz.f13.body.getD .skip) := fnOK_of fns_ok 13 _ _ (by kernel_rfl) Tryz.func13 rfl
theorem ok14 : FnOK Tryz.prog 14 Tryz.f14 (Tryz.f14.body.getD .skip) := fnOK_of fns_ok 14 _ _ (by kernel_rfl) Tryz.func14 rfl
theorem ok15 : FnOK Tryz.prog 15 Tryz.f15 (Tryz.f15.body.getD .skip) := fnOK_of fns_ok 15 _ _ (by kernel_rfl) Tryz.func15 rfl
theorem ok16 : FnOK Tryz.prog 16 Tryz.f16 (Tryz.f16.body.getD .skip) := fnOK_of fns_ok 16 _ _ (by kernel_rfl) Tryz.func16 rfl
theorem ok17 : FnOK Tryz.prog 17 Tryz.f17 (Tryz.f17.body.getD .skip) := fnOK_of fns_ok 17 _ _ (by kernel_rfl) Tryz.func17 rfl
theorem ok18 : FnOK Tryz.prog 18 Tryz.f18 (Tryz.f18.body.getD .skip) := fnOK_of fns_ok 18 _ _ (by kernel_rfl) Tryz.func18 rfl
theorem ok19 : FnOK Tryz.prog 19 Tryz.f19 (Tryz.f19.body.getD .skip) := fnOK_of fns_ok 19 _ _ (by kernel_rfl) Tryz.func19 rfl
theorem ok20 : FnOK Tryz.prog 20 Tryz.f20 (Tryz.f20.body.getD .skip) := fnOK_of fns_ok 20 _ _ (by kernel_rfl) Tryz.func20 rfl
theorem ok21 : FnOK Tryz.prog 21 Tryz.f21 (Tryz.f21.body.getD .skip) := fnOK_of fns_ok 21 _ _ (by kernel_rfl) Tryz.func21 rfl
theorem ok22 : FnOK Tryz.prog 22 Tryz.f22 (Tryz.f22.body.getD .skip) := fnOK_of fns_ok 22 _ _ (by kernel_rfl) Tryz.func22 rfl
theorem ok24 : FnOK Tryz.prog 24 Tryz.f24 (Tryz.f24.body.getD .skip) := fnOK_of fns_ok 24 _ _ (by kernel_rfl) Tryz.func24 rfl
theorem ok26 : FnOK Tryz.prog 26 Tryz.f26 (Tryz.f26.body.getD .skip) := fnOK_of fns_ok 26 _ _ (by kernel_rfl) Tryz.func26 rfl
theorem ok27 : FnOK Tryz.prog 27 Tryz.f27 (Tryz.f27.body.getD .skip) := fnOK_of fns_ok 27 _ _ (by kernel_rfl) Tryz.func27 rfl
theorem ok28 : FnOK Tryz.prog 28 Tryz.f28 (Tryz.f28.body.getD .skip) := fnOK_of fns_ok 28 _ _ (by kernel_rfl) Tryz.func28 rfl
theorem ok29 : FnOK Tryz.prog 29 Tryz.f29 (Tryz.f29.body.getD .skip) := fnOK_of fns_ok 29 _ _ (by kernel_rfl) Tryz.func29 rfl
theorem ok30 : FnOK Tryz.prog 30 Tryz.f30 (Tryz.f30.body.getD .skip) := fnOK_of fns_ok 30 _ _ (by kernel_rfl) Tryz.func30 rfl
theorem ok31 : FnOK Tryz.prog 31 Tryz.f31 (Tryz.f31.body.getD .skip) := fnOK_of fns_ok 31 _ _ (by kernel_rfl) Tryz.func31 rfl
theorem ok32 : FnOK Tryz.prog 32 Tryz.f32 (Tryz.f32.body.getD .skip) := fnOK_of fns_ok 32 _ _ (by kernel_rfl) Tryz.func32 rfl
theorem ok33 : FnOK Tryz.prog 33 Tryz.f33 (Tryz.f33.body.getD .skip) := fnOK_of fns_ok 33 _ _ (by kernel_rfl) Tryz.func33 rfl
theorem ok34 : FnOK Tryz.prog 34 Tryz.f34 (Tryz.f34.body.getD .skip) := fnOK_of fns_ok 34 _ _ (by kernel_rfl) Tryz.func34 rfl
theorem ok35 : FnOK Tryz.prog 35 Tryz.f35 (Tryz.f35.body.getD .skip) := fnOK_of fns_ok 35 _ _ (by kernel_rfl) Tryz.func35 rfl
theorem ok36 : FnOK Tryz.prog 36 Tryz.f36 (Tryz.f36.body.getD .skip) := fnOK_of fns_ok 36 _ _ (by kernel_rfl) Tryz.func36 rfl
theorem ok37 : FnOK Tryz.prog 37 Tryz.f37 (Tryz.f37.body.getD .skip) := fnOK_of fns_ok 37 _ _ (by kernel_rfl) Tryz.func37 rfl
theorem ok38 : FnOK Tryz.prog 38 Tryz.f38 (Tryz.f38.body.getD .skip) := fnOK_of fns_ok 38 _ _ (by kernel_rfl) Tryz.func38 rfl
theorem ok39 : FnOK Tryz.prog 39 Tryz.f39 (Tryz.f39.body.getD .skip) := fnOK_of fns_ok 39 _ _ (by kernel_rfl) Tryz.func39 rfl
theorem ok40 : FnOK Tryz.prog 40 Tryz.f40 (Tryz.f40.body.getD .skip) := fnOK_of fns_ok 40 _ _ (by kernel_rfl) Tryz.func40 rfl
theorem ok41 : FnOK Tryz.prog 41 Tryz.f41 (Tryz.f41.body.getD .skip) := fnOK_of fns_ok 41 _ _ (by kernel_rfl) Tryz.func41 rfl
theorem ok42 : FnOK Tryz.prog 42 Tryz.f42 (Tryz.f42.body.getD .skip) := fnOK_of fns_ok 42 _ _ (by kernel_rfl) Tryz.func42 rfl
theorem ok43 : FnOK Tryz.prog 43 Tryz.f43 (Tryz.f43.body.getD .skip) := fnOK_of fns_ok 43 _ _ (by kernel_rfl) Tryz.func43 rfl
theorem ok44 : FnOK Tryz.prog 44 Tryz.f44 (Tryz.f44.body.getD .skip) := fnOK_of fns_ok 44 _ _ (by kernel_rfl) Tryz.func44 rfl
theorem ok46 : FnOK Tryz.prog 46 Tryz.f46 (Tryz.f46.body.getD .skip) := fnOK_of fns_ok 46 _ _ (by kernel_rfl) Tryz.func46 rfl
theorem ok47 : FnOK Tryz.prog 47 Tryz.f47 (Tryz.f47.body.getD .skip) := fnOK_of fns_ok 47 _ _ (by kernel_rfl) Tryz.func47 rfl
theorem ok48 : FnOK Tryz.prog 48 Tryz.f48 (Tryz.f48.body.getD .skip) := fnOK_of fns_ok 48 _ _ (by kernel_rfl) Tryz.func48 rfl
theorem ok49 : FnOK Tryz.prog 49 Tryz.f49 (Tryz.f49.body.getD .skip) := fnOK_of fns_ok 49 _ _ (by kernel_rfl) Tryz.func49 rfl
theorem ok51 : FnOK Tryz.prog 51 Tryz.f51 (Tryz.f51.body.getD .skip) := fnOK_of fns_ok 51 _ _ (by kernel_rfl) Tryz.func51 rfl
theorem ok52 : FnOK Tryz.prog 52 Tryz.f52 (Tryz.f52.body.getD .skip) := fnOK_of fns_ok 52 _ _ (by kernel_rfl) Tryz.func52 rfl
theorem ok57 : FnOK Tryz.prog 57 Tryz.f57 (Tryz.f57.body.getD .skip) := fnOK_of fns_ok 57 _ _ (by kernel_rfl) Tryz.func57 rfl
theorem ok58 : FnOK Tryz.prog 58 Tryz.f58 (Tryz.f58.body.getD .skip) := fnOK_of fns_ok 58 _ _ (by kernel_rfl) Tryz.func58 rfl
theorem ok59 : FnOK Tryz.prog 59 Tryz.f59 (Tryz.f59.body.getD .skip) := fnOK_of fns_ok 59 _ _ (by kernel_rfl) Tryz.func59 rfl
theorem ok60 : FnOK Tryz.prog 60 Tryz.f60 (Tryz.f60.body.getD .skip) := fnOK_of fns_ok 60 _ _ (by kernel_rfl) Tryz.func60 rfl
theorem ok61 : FnOK Tryz.prog 61 Tryz.f61 (Tryz.f61.body.getD .skip) := fnOK_of fns_ok 61 _ _ (by kernel_rfl) Tryz.func61 rfl
theorem ok62 : FnOK Tryz.prog 62 Tryz.f62 (Tryz.f62.body.getD .skip) := fnOK_of fns_ok 62 _ _ (by kernel_rfl) Tryz.func62 rfl
theorem ok63 : FnOK Tryz.prog 63 Tryz.f63 (Tryz.f63.body.getD .skip) := fnOK_of fns_ok 63 _ _ (by kernel_rfl) Tryz.func63 rfl
theorem ok64 : FnOK Tryz.prog 64 Tryz.f64 (Tryz.f64.body.getD .skip) := fnOK_of fns_ok 64 _ _ (by kernel_rfl) Tryz.func64 rfl
theorem ok65 : FnOK Tryz.prog 65 Tryz.f65 (Tryz.f65.body.getD .skip) := fnOK_of fns_ok 65 _ _ (by kernel_rfl) Tryz.func65 rfl
theorem ok66 : FnOK Tryz.prog 66 Tryz.f66 (Tryz.f66.body.getD .skip) := fnOK_of fns_ok 66 _ _ (by kernel_rfl) Tryz.func66 rfl
theorem ok67 : FnOK Tryz.prog 67 Tryz.f67 (Tryz.f67.body.getD .skip) := fnOK_of fns_ok 67 _ _ (by kernel_rfl) Tryz.func67 rfl
theorem ok68 : FnOK Tryz.prog 68 Tryz.f68 (Tryz.f68.body.getD .skip) := fnOK_of fns_ok 68 _ _ (by kernel_rfl) Tryz.func68 rfl
theorem ok69 : FnOK Tryz.prog 69 Tryz.f69 (Tryz.f69.body.getD .skip) := fnOK_of fns_ok 69 _ _ (by kernel_rfl) Tryz.func69 rfl
theorem ok71 : FnOK Tryz.prog 71 Tryz.f71 (Tryz.f71.body.getD .skip) := fnOK_of fns_ok 71 _ _ (by kernel_rfl) Tryz.func71 rfl
theorem ok72 : FnOK Tryz.prog 72 Tryz.f72 (Tryz.f72.body.getD .skip) := fnOK_of fns_ok 72 _ _ (by kernel_rfl) Tryz.func72 rfl
theorem ok73 : FnOK Tryz.prog 73 Tryz.f73 (Tryz.f73.body.getD .skip) := fnOK_of fns_ok 73 _ _ (by kernel_rfl) Tryz.func73 rfl
theorem ok74 : FnOK Tryz.prog 74 Tryz.f74 (Tryz.f74.body.getD .skip) := fnOK_of fns_ok 74 _ _ (by kernel_rfl) Tryz.func74 rfl
theorem ok75 : FnOK Tryz.prog 75 Tryz.f75 (Tryz.f75.body.getD .skip) := fnOK_of fns_ok 75 _ _ (by kernel_rfl) Tryz.func75 rfl
theorem ok76 : FnOK Tryz.prog 76 Tryz.f76 (Tryz.f76.body.getD .skip) := fnOK_of fns_ok 76 _ _ (by kernel_rfl) Tryz.func76 rfl
theorem ok77 : FnOK Tryz.prog 77 Tryz.f77 (Tryz.f77.body.getD .skip) := fnOK_of fns_ok 77 _ _ (by kernel_rfl) Tryz.func77 rfl
theorem ok78 : FnOK Tryz.prog 78 Tryz.f78 (Tryz.f78.body.getD .skip) := fnOK_of fns_ok 78 _ _ (by kernel_rfl) Tryz.func78 rfl
theorem ok79 : FnOK Tryz.prog 79 Tryz.f79 (Tryz.f79.body.getD .skip) := fnOK_of fns_ok 79 _ _ (by kernel_rfl) Tryz.func79 rfl
theorem ok80 : FnOK Tryz.prog 80 Tryz.f80 (Tryz.f80.body.getD .skip) := fnOK_of fns_ok 80 _ _ (by kernel_rfl) Tryz.func80 rfl
theorem ok81 : FnOK Tryz.prog 81 Tryz.f81 (Tryz.f81.body.getD .skip) := fnOK_of fns_ok 81 _ _ (by kernel_rfl) Tryz.func81 rfl
theorem ok82 : FnOK Tryz.prog 82 Tryz.f82 (Tryz.f82.body.getD .skip) := fnOK_of fns_ok 82 _ _ (by kernel_rfl) Tryz.func82 rfl
theorem ok83 : FnOK Tryz.prog 83 Tryz.f83 (Tryz.f83.body.getD .skip) := fnOK_of fns_ok 83 _ _ (by kernel_rfl) Tryz.func83 rfl
theorem ok84 : FnOK Tryz.prog 84 Tryz.f84 (Tryz.f84.body.getD .skip) := fnOK_of fns_ok 84 _ _ (by kernel_rfl) Tryz.func84 rfl
theorem ok85 : FnOK Tryz.prog 85 Tryz.f85 (Tryz.f85.body.getD .skip) := fnOK_of fns_ok 85 _ _ (by kernel_rfl) Tryz.func85 rfl
theorem ok86 : FnOK Tryz.prog 86 Tryz.f86 (Tryz.f86.body.getD .skip) := fnOK_of fns_ok 86 _ _ (by kernel_rfl) Tryz.func86 rfl
theorem ok87 : FnOK Tryz.prog 87 Tryz.f87 (Tryz.f87.body.getD .skip) := fnOK_of fns_ok 87 _ _ (by kernel_rfl) Tryz.func87 rfl
theorem ok88 : FnOK Tryz.prog 88 Tryz.f88 (Tryz.f88.body.getD .skip) := fnOK_of fns_ok 88 _ _ (by kernel_rfl) Tryz.func88 rfl
theorem ok89 : FnOK Tryz.prog 89 Tryz.f89 (Tryz.f89.body.getD .skip) := fnOK_of fns_ok 89 _ _ (by kernel_rfl) Tryz.func89 rfl
theorem ok90 : FnOK Tryz.prog 90 Tryz.f90 (Tryz.f90.body.getD .skip) := fnOK_of fns_ok 90 _ _ (by kernel_rfl) Tryz.func90 rfl
theorem ok91 : FnOK Tryz.prog 91 Tryz.f91 (Tryz.f91.body.getD .skip) := fnOK_of fns_ok 91 _ _ (by kernel_rfl) Tryz.func91 rfl
theorem ok92 : FnOK Tryz.prog 92 Tryz.f92 (Tryz.f92.body.getD .skip) := fnOK_of fns_ok 92 _ _ (by kernel_rfl) Tryz.func92 rfl
theorem ok93 : FnOK Tryz.prog 93 Tryz.f93 (Tryz.f93.body.getD .skip) := fnOK_of fns_ok 93 _ _ (by kernel_rfl) Tryz.func93 rfl
theorem ok94 : FnOK Tryz.prog 94 Tryz.f94 (Tryz.f94.body.getD .skip) := fnOK_of fns_ok 94 _ _ (by kernel_rfl) Tryz.func94 rfl
theorem ok95 : FnOK Tryz.prog 95 Tryz.f95 (Tryz.f95.body.getD .skip) := fnOK_of fns_ok 95 _ _ (by kernel_rfl) Tryz.func95 rfl
theorem ok96 : FnOK Tryz.prog 96 Tryz.f96 (Tryz.f96.body.getD .skip) := fnOK_of fns_ok 96 _ _ (by kernel_rfl) Tryz.func96 rfl
theorem ok97 : FnOK Tryz.prog 97 Tryz.f97 (Tryz.f97.body.getD .skip) := fnOK_of fns_ok 97 _ _ (by kernel_rfl) Tryz.func97 rfl
theorem ok98 : FnOK Tryz.prog 98 Tryz.f98 (Tryz.f98.body.getD .skip) := fnOK_of fns_ok 98 _ _ (by kernel_rfl) Tryz.func98 rfl
theorem ok99 : FnOK Tryz.prog 99 Tryz.f99 (Tryz.f99.body.getD .skip) := fnOK_of fns_ok 99 _ _ (by kernel_rfl) Tryz.func99 rfl
theorem ok100 : FnOK Tryz.prog 100 Tryz.f100 (Tryz.f100.body.getD .skip) := fnOK_of fns_ok 100 _ _ (by kernel_rfl) Tryz.func100 rfl
theorem ok101 : FnOK Tryz.prog 101 Tryz.f101 (Tryz.f101.body.getD .skip) := fnOK_of fns_ok 101 _ _ (by kernel_rfl) Tryz.func101 rfl
theorem ff_3 : type_of% (And.intro @und_4 (And.intro @und_9 @undT_9)) := And.intro @und_4 (And.intro @und_9 @undT_9)
theorem ff_4 : type_of% (And.intro (And.intro @ebs_33_2 @und_3) (And.intro @und_9 (And.intro @und_23 @und_34))) := And.intro (And.intro @ebs_33_2 @und_3) (And.intro @und_9 (And.intro @und_23 @und_34))
theorem ff_5 : type_of% (And.intro @und_5 (And.intro @und_9 @undT_9)) := And.intro @und_5 (And.intro @und_9 @undT_9)
theorem ff_6 : type_of% (And.intro (And.intro @und_2 @und_5) (And.intro @und_9 (And.intro @und_23 @undT_9))) := And.intro (And.intro @und_2 @und_5) (And.intro @und_9 (And.intro @und_23 @undT_9))
theorem ff_8 : type_of% (@und_23) := @und_23
theorem ff_9 : type_of% (And.intro @und_5 (And.intro @und_9 @undT_9)) := And.intro @und_5 (And.intro @und_9 @undT_9)
theorem ff_12 : type_of% (@und_34) := @und_34
theorem ff_13 : type_of% (And.intro (And.intro @agg_23 @csz_23) (And.intro @esz_33 (And.intro @und_3 @undT_33))) := And.intro (And.intro @agg_23 @csz_23) (And.intro @esz_33 (And.intro @und_3 @undT_33))
theorem ff_14 : type_of% (And.intro @und_23 @und_34) := And.intro @und_23 @und_34
theorem ff_19 : type_of% (And.intro @und_9 @undT_9) := And.intro @und_9 @undT_9
theorem ff_20 : type_of% (And.intro (And.intro @und_3 @und_5) (And.intro @und_9 (And.intro @und_23 @undT_9))) := And.intro (And.intro @und_3 @und_5) (And.intro @und_9 (And.intro @und_23 @undT_9))
theorem ff_21 : type_of% (And.intro (And.intro @und_3 (And.intro @und_5 @und_9)) (And.intro @und_50 (And.intro @undT_9 @zeroT_57))) := And.intro (And.intro @und_3 (And.intro @und_5 @und_9)) (And.intro @und_50 (And.intro @undT_9 @zeroT_57))
theorem ff_24 : type_of% (And.intro (And.intro @und_3 @und_5) (And.intro @und_9 @undT_9)) := And.intro (And.intro @und_3 @und_5) (And.intro @und_9 @undT_9)
theorem ff_26 : type_of% (@und_4) := @und_4
theorem ff_27 : type_of% (@und_3) := @und_3
theorem ff_29 : type_of% (@undT_9) := @undT_9
theorem ff_30 : type_of% (@undT_9) := @undT_9
theorem ff_31 : type_of% (And.intro @und_50 @und_68) := And.intro @und_50 @und_68
theorem ff_33 : type_of% (And.intro (And.intro @agg_55 @csz_55) (And.intro @fofs_57_1 @undT_55)) := And.intro (And.intro @agg_55 @csz_55) (And.intro @fofs_57_1 @undT_55)
theorem ff_34 : type_of% (And.intro (And.intro @agg_55 (And.intro @csz_55 @eapp_55_9)) (And.intro @fofs_57_1 (And.intro @isz_55 @undT_9))) := And.intro (And.intro @agg_55 (And.intro @csz_55 @eapp_55_9)) (And.intro @fofs_57_1 (And.intro @isz_55 @undT_9))
theorem ff_35 : type_of% (And.intro (And.intro @agg_55 @csz_55) (And.intro @fofs_57_1 @undT_55)) := And.intro (And.intro @agg_55 @csz_55) (And.intro @fofs_57_1 @undT_55)
theorem ff_36 : type_of% (And.intro (And.intro @agg_55 @csz_55) (And.intro @fofs_57_1 @undT_55)) := And.intro (And.intro @agg_55 @csz_55) (And.intro @fofs_57_1 @undT_55)
theorem ff_37 : type_of% (@und_34) := @und_34
theorem ff_38 : type_of% (@und_34) := @und_34
theorem ff_40 : type_of% (And.intro (And.intro @emk_55 (And.intro @und_3 @und_9)) (And.intro @und_23 (And.intro @und_55 @und_75))) := And.intro (And.intro @emk_55 (And.intro @und_3 @und_9)) (And.intro @und_23 (And.intro @und_55 @und_75))
theorem ff_41 : type_of% (And.intro @und_9 @undT_9) := And.intro @und_9 @undT_9
theorem ff_42 : type_of% (And.intro (And.intro @agg_3 (And.intro @csz_3 @und_3)) (And.intro @und_5 (And.intro @und_9 @undT_9))) := And.intro (And.intro @agg_3 (And.intro @csz_3 @und_3)) (And.intro @und_5 (And.intro @und_9 @undT_9))
theorem ff_43 : type_of% (And.intro @und_34 @und_68) := And.intro @und_34 @und_68
theorem ff_46 : type_of% (And.intro (And.intro @agg_55 (And.intro @csz_55 @esz_55)) (And.intro @fofs_57_1 (And.intro @isz_55 @undT_55))) := And.intro (And.intro @agg_55 (And.intro @csz_55 @esz_55)) (And.intro @fofs_57_1 (And.intro @isz_55 @undT_55))
theorem ff_47 : type_of% (And.intro (And.intro (And.intro (And.intro @agg_3 @agg_4) (And.intro @csz_3 (And.intro @csz_4 @eapp_55_9))) (And.intro (And.intro @ear_86 @ear_92) (And.intro @ear_95 (And.intro @fofs_97_0 @fofs_97_1)))) (And.intro (And.intro (And.intro @fofs_97_2 @und_3) (And.intro @und_5 (And.intro @und_12 @und_23))) (And.intro (And.intro @und_34 @und_68) (And.intro @und_75 (And.intro @zeroT_86 @zeroT_92))))) := And.intro (And.intro (And.intro (And.intro @agg_3 @agg_4) (And.intro @csz_3 (And.intro @csz_4 @eapp_55_9))) (And.intro (And.intro @ear_86 @ear_92) (And.intro @ear_95 (And.intro @fofs_97_0 @fofs_97_1)))) (And.intro (And.intro (And.intro @fofs_97_2 @und_3) (And.intro @und_5 (And.intro @und_12 @und_23))) (And.intro (And.intro @und_34 @und_68) (And.intro @und_75 (And.intro @zeroT_86 @zeroT_92))))
theorem ff_48 : type_of% (And.intro (And.intro (And.intro (And.intro @agg_3 @agg_4) (And.intro @csz_3 (And.intro @csz_4 @eapp_55_9))) (And.intro (And.intro @ear_86 @ear_92) (And.intro @ear_95 (And.intro @fofs_97_0 @fofs_97_1)))) (And.intro (And.intro (And.intro @fofs_97_2 @und_3) (And.intro @und_5 (And.intro @und_12 @und_23))) (And.intro (And.intro @und_34 @und_68) (And.intro @und_75 (And.intro @zeroT_86 @zeroT_92))))) := And.intro (And.intro (And.intro (And.intro @agg_3 @agg_4) (And.intro @csz_3 (And.intro @csz_4 @eapp_55_9))) (And.intro (And.intro @ear_86 @ear_92) (And.intro @ear_95 (And.intro @fofs_97_0 @fofs_97_1)))) (And.intro (And.intro (And.intro @fofs_97_2 @und_3) (And.intro @und_5 (And.intro @und_12 @und_23))) (And.intro (And.intro @und_34 @und_68) (And.intro @und_75 (And.intro @zeroT_86 @zeroT_92))))
theorem ff_52 : type_of% (And.intro (And.intro @und_5 @und_9) (And.intro @und_68 @undT_9)) := And.intro (And.intro @und_5 @und_9) (And.intro @und_68 @undT_9)
theorem ff_57 : type_of% (And.intro @eapp_55_55 @ebs_55_1) := And.intro @eapp_55_55 @ebs_55_1
theorem ff_58 : type_of% (And.intro (And.intro (And.intro @eapp_55_55 @ebs_55_1) (And.intro @ebs_55_2 (And.intro @ebs_55_3 @ebs_55_4))) (And.intro (And.intro @und_3 @und_5) (And.intro @und_9 (And.intro @und_34 @und_50)))) := And.intro (And.intro (And.intro @eapp_55_55 @ebs_55_1) (And.intro @ebs_55_2 (And.intro @ebs_55_3 @ebs_55_4))) (And.intro (And.intro @und_3 @und_5) (And.intro @und_9 (And.intro @und_34 @und_50)))
theorem ff_59 : type_of% (And.intro (And.intro (And.intro @agg_5 @csz_5) (And.intro @eapp_55_55 (And.intro @ebs_55_1 @ebs_55_2))) (And.intro (And.intro @ebs_55_3 @esz_55) (And.intro @und_3 (And.intro @und_5 @undT_55)))) := And.intro (And.intro (And.intro @agg_5 @csz_5) (And.intro @eapp_55_55 (And.intro @ebs_55_1 @ebs_55_2))) (And.intro (And.intro @ebs_55_3 @esz_55) (And.intro @und_3 (And.intro @und_5 @undT_55)))
theorem ff_60 : type_of% (And.intro (And.intro @und_3 @und_5) (And.intro @und_9 @und_34)) := And.intro (And.intro @und_3 @und_5) (And.intro @und_9 @und_34)
theorem ff_61 : type_of% (And.intro (And.intro @und_3 @und_12) (And.intro @und_34 @zeroT_104)) := And.intro (And.intro @und_3 @und_12) (And.intro @und_34 @zeroT_104)
theorem ff_62 : type_of% (And.intro (And.intro @agg_5 @csz_5) (And.intro @esz_55 (And.intro @und_5 @undT_55))) := And.intro (And.intro @agg_5 @csz_5) (And.intro @esz_55 (And.intro @und_5 @undT_55))
theorem ff_63 : type_of% (And.intro @agg_34 (And.intro @csz_34 @ear_113)) := And.intro @agg_34 (And.intro @csz_34 @ear_113)
theorem ff_65 : type_of% (And.intro (And.intro @agg_34 @csz_34) (And.intro @ear_113 (And.intro @und_5 @zeroT_104))) := And.intro (And.intro @agg_34 @csz_34) (And.intro @ear_113 (And.intro @und_5 @zeroT_104))
theorem ff_66 : type_of% (And.intro (And.intro (And.intro @agg_3 (And.intro @agg_5 @csz_3)) (And.intro (And.intro @csz_5 @ear_92) (And.intro @ear_95 @fofs_97_0))) (And.intro (And.intro @fofs_97_1 (And.intro @fofs_97_2 @isz_3)) (And.intro (And.intro @isz_5 @und_5) (And.intro @und_34 @zeroT_92)))) := And.intro (And.intro (And.intro @agg_3 (And.intro @agg_5 @csz_3)) (And.intro (And.intro @csz_5 @ear_92) (And.intro @ear_95 @fofs_97_0))) (And.intro (And.intro @fofs_97_1 (And.intro @fofs_97_2 @isz_3)) (And.intro (And.intro @isz_5 @und_5) (And.intro @und_34 @zeroT_92)))
theorem ff_67 : type_of% (And.intro (And.intro @agg_3 @csz_3) (And.intro @fofs_97_1 (And.intro @und_3 @und_50))) := And.intro (And.intro @agg_3 @csz_3) (And.intro @fofs_97_1 (And.intro @und_3 @und_50))
theorem ff_68 : type_of% (And.intro @agg_3 (And.intro @csz_3 @fofs_97_1)) := And.intro @agg_3 (And.intro @csz_3 @fofs_97_1)
theorem ff_69 : type_of% (And.intro (And.intro @und_3 @und_12) (And.intro @und_34 @zeroT_104)) := And.intro (And.intro @und_3 @und_12) (And.intro @und_34 @zeroT_104)
theorem ff_71 : type_of% (And.intro (And.intro @und_3 @und_5) (And.intro @und_9 (And.intro @und_68 @undT_9))) := And.intro (And.intro @und_3 @und_5) (And.intro @und_9 (And.intro @und_68 @undT_9))
theorem ff_72 : type_of% (And.intro (And.intro @eapp_55_9 (And.intro @eapp_55_55 @ear_92)) (And.intro @und_3 (And.intro @und_34 @zeroT_92))) := And.intro (And.intro @eapp_55_9 (And.intro @eapp_55_55 @ear_92)) (And.intro @und_3 (And.intro @und_34 @zeroT_92))
theorem ff_73 : type_of% (And.intro (And.intro @eapp_55_55 @ebs_55_1) (And.intro @und_2 @und_34)) := And.intro (And.intro @eapp_55_55 @ebs_55_1) (And.intro @und_2 @und_34)
theorem ff_76 : type_of% (And.intro (And.intro (And.intro @agg_34 @csz_34) (And.intro @ear_123 (And.intro @fofs_104_0 @fofs_104_1))) (And.intro (And.intro @fofs_104_2 @fofs_122_0) (And.intro @fofs_122_1 (And.intro @isz_3 @isz_34)))) := And.intro (And.intro (And.intro @agg_34 @csz_34) (And.intro @ear_123 (And.intro @fofs_104_0 @fofs_104_1))) (And.intro (And.intro @fofs_104_2 @fofs_122_0) (And.intro @fofs_122_1 (And.intro @isz_3 @isz_34)))
theorem ff_78 : type_of% (And.intro (And.intro (And.intro @agg_3 @agg_34) (And.intro @csz_3 @csz_34)) (And.intro (And.intro @fofs_104_0 @fofs_104_1) (And.intro @fofs_104_2 @und_34))) := And.intro (And.intro (And.intro @agg_3 @agg_34) (And.intro @csz_3 @csz_34)) (And.intro (And.intro @fofs_104_0 @fofs_104_1) (And.intro @fofs_104_2 @und_34))
theorem ff_79 : type_of% (And.intro @und_3 @und_107) := And.intro @und_3 @und_107
theorem ff_83 : type_of% (And.intro (And.intro @esz_55 (And.intro @isz_5 @und_5)) (And.intro (And.intro @und_9 @und_34) (And.intro @und_68 @undT_55))) := And.intro (And.intro @esz_55 (And.intro @isz_5 @und_5)) (And.intro (And.intro @und_9 @und_34) (And.intro @und_68 @undT_55))
theorem ff_86 : type_of% (@und_34) := @und_34
theorem ff_87 : type_of% (And.intro (And.intro (And.intro @agg_3 @agg_5) (And.intro @csz_3 (And.intro @csz_5 @ear_95))) (And.intro (And.intro @fofs_97_0 (And.intro @fofs_97_1 @fofs_97_2)) (And.intro @isz_3 (And.intro @und_3 @und_5)))) := And.intro (And.intro (And.intro @agg_3 @agg_5) (And.intro @csz_3 (And.intro @csz_5 @ear_95))) (And.intro (And.intro @fofs_97_0 (And.intro @fofs_97_1 @fofs_97_2)) (And.intro @isz_3 (And.intro @und_3 @und_5)))
theorem ff_88 : type_of% (And.intro (And.intro (And.intro (And.intro @agg_3 @agg_5) (And.intro @agg_9 (And.intro @agg_128 @csz_3))) (And.intro (And.intro @csz_5 @csz_9) (And.intro @csz_128 (And.intro @ear_95 @esz_128)))) (And.intro (And.intro (And.intro @fofs_97_0 @fofs_97_1) (And.intro @fofs_97_2 (And.intro @fofs_97_4 @fofs_127_0))) (And.intro (And.intro @fofs_127_1 (And.intro @isz_3 @isz_4)) (And.intro @isz_5 (And.intro @und_5 @und_50))))) := And.intro (And.intro (And.intro (And.intro @agg_3 @agg_5) (And.intro @agg_9 (And.intro @agg_128 @csz_3))) (And.intro (And.intro @csz_5 @csz_9) (And.intro @csz_128 (And.intro @ear_95 @esz_128)))) (And.intro (And.intro (And.intro @fofs_97_0 @fofs_97_1) (And.intro @fofs_97_2 (And.intro @fofs_97_4 @fofs_127_0))) (And.intro (And.intro @fofs_127_1 (And.intro @isz_3 @isz_4)) (And.intro @isz_5 (And.intro @und_5 @und_50))))
theorem ff_89 : type_of% (And.intro (And.intro (And.intro @agg_3 (And.intro @agg_5 @csz_3)) (And.intro (And.intro @csz_5 @ear_95) (And.intro @fofs_97_0 @fofs_97_1))) (And.intro (And.intro @fofs_97_2 (And.intro @fofs_97_4 @isz_3)) (And.intro (And.intro @isz_4 @isz_5) (And.intro @und_5 @und_50)))) := And.intro (And.intro (And.intro @agg_3 (And.intro @agg_5 @csz_3)) (And.intro (And.intro @csz_5 @ear_95) (And.intro @fofs_97_0 @fofs_97_1))) (And.intro (And.intro @fofs_97_2 (And.intro @fofs_97_4 @isz_3)) (And.intro (And.intro @isz_4 @isz_5) (And.intro @und_5 @und_50)))
theorem ff_90 : type_of% (And.intro (And.intro (And.intro @agg_3 (And.intro @agg_4 @agg_5)) (And.intro @csz_3 (And.intro @csz_4 @csz_5))) (And.intro (And.intro @ear_95 (And.intro @fofs_97_0 @fofs_97_1)) (And.intro @fofs_97_4 (And.intro @und_3 @und_5)))) := And.intro (And.intro (And.intro @agg_3 (And.intro @agg_4 @agg_5)) (And.intro @csz_3 (And.intro @csz_4 @csz_5))) (And.intro (And.intro @ear_95 (And.intro @fofs_97_0 @fofs_97_1)) (And.intro @fofs_97_4 (And.intro @und_3 @und_5)))
theorem ff_91 : type_of% (And.intro (And.intro (And.intro @agg_3 @agg_5) (And.intro @csz_3 (And.intro @csz_5 @ear_95))) (And.intro (And.intro @fofs_97_0 @fofs_97_1) (And.intro @fofs_97_2 (And.intro @isz_3 @isz_5)))) := And.intro (And.intro (And.intro @agg_3 @agg_5) (And.intro @csz_3 (And.intro @csz_5 @ear_95))) (And.intro (And.intro @fofs_97_0 @fofs_97_1) (And.intro @fofs_97_2 (And.intro @isz_3 @isz_5)))
theorem ff_92 : type_of% (And.intro (And.intro @agg_3 @csz_3) (And.intro @fofs_97_1 @isz_3)) := And.intro (And.intro @agg_3 @csz_3) (And.intro @fofs_97_1 @isz_3)
theorem ff_94 : type_of% (And.intro (And.intro (And.intro @eapp_55_55 @ear_130) (And.intro @isz_5 @und_3)) (And.intro (And.intro @und_9 @und_34) (And.intro @und_50 (And.intro @und_55 @zeroT_130)))) := And.intro (And.intro (And.intro @eapp_55_55 @ear_130) (And.intro @isz_5 @und_3)) (And.intro (And.intro @und_9 @und_34) (And.intro @und_50 (And.intro @und_55 @zeroT_130)))
theorem ff_97 : type_of% (And.intro (And.intro @agg_5 (And.intro @csz_5 @esz_55)) (And.intro (And.intro @und_5 @und_9) (And.intro @undT_9 @undT_55))) := And.intro (And.intro @agg_5 (And.intro @csz_5 @esz_55)) (And.intro (And.intro @und_5 @und_9) (And.intro @undT_9 @undT_55))
theorem ff_98 : type_of% (@und_3) := @und_3
theorem ff_99 : type_of% (And.intro @und_50 @und_68) := And.intro @und_50 @und_68
theorem ff_100 : type_of% (And.intro (And.intro @agg_5 (And.intro @csz_5 @ear_86)) (And.intro @und_3 (And.intro @und_5 @und_68))) := And.intro (And.intro @agg_5 (And.intro @csz_5 @ear_86)) (And.intro @und_3 (And.intro @und_5 @und_68))
theorem ff_101 : type_of% (And.intro (And.intro @agg_5 (And.intro @csz_5 @ear_134)) (And.intro @und_3 (And.intro @und_5 @und_34))) := And.intro (And.intro @agg_5 (And.intro @csz_5 @ear_134)) (And.intro @und_3 (And.intro @und_5 @und_34))
end Go.Proofs.YtddpnhhgmfaloaaGreatDoor

/- A part of a proof. Its conditions: none. -/
import Derived.Test.YtihjaobjhmmboaaGreatDoorAmD
import Derived.Test.YtihjaobjhmmboaaGreatDoorRows
import Derived.KernelRfl
set_option linter.all false
namespace Go.Proofs.YtihjaobjhmmboaaGreatDoor
open Go.AM
def fns : List Nat := [3, 4, 5, 6, 7, 8, 9, 10, 11, 12, 13, 14, 15, 16, 17, 18, 19, 20, 21, 22, 23, 24, 25, 26, 27, 28, 29, 30, 31, 32, 33, 34, 35, 36, 37, 38, 39, 40, 41, 42, 43, 44, 45, 46, 47, 48, 49, 50, 51, 52, 53, 54, 55, 56, 57, 58, 59, 60, 61, 62, 63, 64, 65, 66, 67, 68, 69, 70, 71, 72, 73, 74, 75, 76, 77, 78, 79, 80, 81, 82, 83, 84, 85, 86, 87, 88, 89, 90, 91, 92, 93, 94, 95, 98, 99, 101, 102, 103, 104, 105, 106, 107, 108, 109, 110, 111, 112, 113, 114, 115, 116, 119, 120, 121, 122, 123, 124, 125, 126, 127, 128, 129, 130, 131, 132, 134, 135, 137, 138, 139, 140, 141, 142, 143, 144, 145, 146, 147, 148, 149, 150, 151, 152, 153, 154, 155, 156, 157, 159, 160, 161, 162, 163, 164, 165, 166, 167, 168]
theorem fns_ok : fns.all (fnOKb Tryz.prog) = true := by kernel_rfl
theorem orders : Tryz.prog.follows .mixedOrders = true := by kernel_rfl
theorem agg_3 : aggT Tryz.prog 3 = some false := by kernel_rfl
theorem agg_4 : aggT Tryz.prog 4 = some false := by kernel_rfl
theorem agg_5 : aggT Tryz.prog 5 = some false := by kernel_rfl
theorem agg_9 : aggT Tryz.prog 9 = some false := by kernel_rfl
theorem agg_22 : aggT Tryz.prog 22 = some false := by kernel_rfl
theorem agg_23 : aggT Tryz.prog 23 = some false := by kernel_rfl
theorem agg_25 : aggT Tryz.prog 25 = some true := by kernel_rfl
theorem agg_28 : aggT Tryz.prog 28 = some false := by kernel_rfl
theorem agg_34 : aggT Tryz.prog 34 = some false := by kernel_rfl
theorem agg_42 : aggT Tryz.prog 42 = some false := by kernel_rfl
theorem agg_44 : aggT Tryz.prog 44 = some true := by kernel_rfl
theorem agg_97 : aggT Tryz.prog 97 = some false := by kernel_rfl
theorem csz_3 : Program.cellsOf Tryz.prog 3 = 1 := by kernel_rfl
theorem csz_4 : Program.cellsOf Tryz.prog 4 = 1 := by kernel_rfl
theorem csz_5 : Program.cellsOf Tryz.prog 5 = 1 := by kernel_rfl
theorem csz_9 : Program.cellsOf Tryz.prog 9 = 1 := by kernel_rfl
theorem csz_22 : Program.cellsOf Tryz.prog 22 = 1 := by kernel_rfl
theorem csz_23 : Program.cellsOf Tryz.prog 23 = 1 := by kernel_rfl
theorem csz_25 : Program.cellsOf Tryz.prog 25 = 3 := by kernel_rfl
theorem csz_28 : Program.cellsOf Tryz.prog 28 = 1 := by kernel_rfl
theorem csz_34 : Program.cellsOf Tryz.prog 34 = 1 := by kernel_rfl
theorem csz_42 : Program.cellsOf Tryz.prog 42 = 1 := by kernel_rfl
theorem csz_44 : Program.cellsOf Tryz.prog 44 = 3 := by kernel_rfl
theorem csz_97 : Program.cellsOf Tryz.prog 97 = 1 := by kernel_rfl
theorem eapp_22_22 : eapp Tryz.prog #[22, 22] = some (9, 1) := by kernel_rfl
theorem eapp_23_23 : eapp Tryz.prog #[23, 23] = some (44, 3) := by kernel_rfl
theorem eapp_28_28 : eapp Tryz.prog #[28, 28] = some (3, 1) := by kernel_rfl
theorem eapp_34_34 : eapp Tryz.prog #[34, 34] = some (4, 1) := by kernel_rfl
theorem eapp_78_9 : eapp Tryz.prog #[78, 9] = some (5, 1) := by kernel_rfl
theorem eapp_78_78 : eapp Tryz.prog #[78, 78] = some (5, 1) := by kernel_rfl
theorem ear_140 : earr Tryz.prog 140 = some (5, 1, 32) := by kernel_rfl
theorem ear_146 : earr Tryz.prog 146 = some (5, 1, 24) := by kernel_rfl
theorem ear_149 : earr Tryz.prog 149 = some (5, 1, 800) := by kernel_rfl
theorem ear_168 : earr Tryz.prog 168 = some (97, 1, 20) := by kernel_rfl
theorem ear_179 : earr Tryz.prog 179 = some (178, 2, 696) := by kernel_rfl
theorem ebd_25 : ebd Tryz.prog 25 = some ([Value.slice none 0 0, Value.slice none 0 0, Value.slice none 0 0], [(0, 1), (1, 1), (2, 1)]) := by kernel_rfl
theorem ebd_44 : ebd Tryz.prog 44 = some ([Value.int IntKind.i64 (Int.ofNat 0), Value.slice none 0 0, Value.float FloatKind.f64 0], [(0, 1), (1, 1), (2, 1)]) := by kernel_rfl
theorem ebs_22_1 : ebs Tryz.prog 22 1 = some (9, 1, [Value.string { data := { toList := [] } }]) := by kernel_rfl
theorem ebs_23_1 : ebs Tryz.prog 23 1 = some (44, 3, [Value.int IntKind.i64 (Int.ofNat 0), Value.slice none 0 0, Value.float FloatKind.f64 0]) := by kernel_rfl
theorem ebs_28_1 : ebs Tryz.prog 28 1 = some (3, 1, [Value.int IntKind.i64 (Int.ofNat 0)]) := by kernel_rfl
theorem ebs_34_0 : ebs Tryz.prog 34 0 = some (4, 1, [Value.bool false]) := by kernel_rfl
theorem ebs_78_1 : ebs Tryz.prog 78 1 = some (5, 1, [Value.int IntKind.u8 (Int.ofNat 0)]) := by kernel_rfl
theorem ebs_78_2 : ebs Tryz.prog 78 2 = some (5, 1, [Value.int IntKind.u8 (Int.ofNat 0)]) := by kernel_rfl
theorem ebs_78_3 : ebs Tryz.prog 78 3 = some (5, 1, [Value.int IntKind.u8 (Int.ofNat 0)]) := by kernel_rfl
theorem emk_28 : emk Tryz.prog 28 = some (3, [Value.int IntKind.i64 (Int.ofNat 0)]) := by kernel_rfl
theorem emk_34 : emk Tryz.prog 34 = some (4, [Value.bool false]) := by kernel_rfl
theorem emk_78 : emk Tryz.prog 78 = some (5, [Value.int IntKind.u8 (Int.ofNat 0)]) := by kernel_rfl
theorem esz_22 : esz Tryz.prog 22 = some (9, 1) := by kernel_rfl
theorem esz_23 : esz Tryz.prog 23 = some (44, 3) := by kernel_rfl
theorem esz_28 : esz Tryz.prog 28 = some (3, 1) := by kernel_rfl
theorem esz_34 : esz Tryz.prog 34 = some (4, 1) := by kernel_rfl
theorem esz_78 : esz Tryz.prog 78 = some (5, 1) := by kernel_rfl
theorem fofs_25_0 : fofs Tryz.prog 25 0 = some 0 := by kernel_rfl
theorem fofs_25_1 : fofs Tryz.prog 25 1 = some 1 := by kernel_rfl
theorem fofs_25_2 : fofs Tryz.prog 25 2 = some 2 := by kernel_rfl
theorem fofs_44_0 : fofs Tryz.prog 44 0 = some 0 := by kernel_rfl
theorem fofs_44_1 : fofs Tryz.prog 44 1 = some 1 := by kernel_rfl
theorem fofs_44_2 : fofs Tryz.prog 44 2 = some 2 := by kernel_rfl
theorem fofs_151_0 : fofs Tryz.prog 151 0 = some 0 := by kernel_rfl
theorem fofs_151_1 : fofs Tryz.prog 151 1 = some 800 := by kernel_rfl
theorem fofs_151_2 : fofs Tryz.prog 151 2 = some 801 := by kernel_rfl
theorem fofs_159_0 : fofs Tryz.prog 159 0 = some 0 := by kernel_rfl
theorem fofs_159_1 : fofs Tryz.prog 159 1 = some 1 := by kernel_rfl
theorem fofs_159_2 : fofs Tryz.prog 159 2 = some 2 := by kernel_rfl
theorem fofs_178_0 : fofs Tryz.prog 178 0 = some 0 := by kernel_rfl
theorem fofs_178_1 : fofs Tryz.prog 178 1 = some 1 := by kernel_rfl
theorem grt_22_22 : growT Tryz.prog #[22, 22] = false := by kernel_rfl
theorem grt_23_23 : growT Tryz.prog #[23, 23] = false := by kernel_rfl
theorem grt_28_28 : growT Tryz.prog #[28, 28] = false := by kernel_rfl
theorem grt_34_34 : growT Tryz.prog #[34, 34] = false := by kernel_rfl
theorem grt_78_9 : growT Tryz.prog #[78, 9] = false := by kernel_rfl
theorem grt_78_78 : growT Tryz.prog #[78, 78] = false := by kernel_rfl
theorem isz_3 : isz Tryz.prog 3 = some 1 := by kernel_rfl
theorem isz_4 : isz Tryz.prog 4 = some 1 := by kernel_rfl
theorem isz_5 : isz Tryz.prog 5 = some 1 := by kernel_rfl
theorem isz_22 : isz Tryz.prog 22 = some 1 := by kernel_rfl
theorem isz_23 : isz Tryz.prog 23 = some 1 := by kernel_rfl
theorem isz_25 : isz Tryz.prog 25 = some 3 := by kernel_rfl
theorem isz_28 : isz Tryz.prog 28 = some 1 := by kernel_rfl
theorem isz_34 : isz Tryz.prog 34 = some 1 := by kernel_rfl
theorem isz_44 : isz Tryz.prog 44 = some 3 := by kernel_rfl
theorem isz_97 : isz Tryz.prog 97 = some 1 := by kernel_rfl
theorem und_2 : Program.underlying Tryz.prog 2 = some (TypeDesc.int IntKind.i64) := by kernel_rfl
theorem und_3 : Program.underlying Tryz.prog 3 = some (TypeDesc.int IntKind.i64) := by kernel_rfl
theorem und_4 : Program.underlying Tryz.prog 4 = some TypeDesc.bool := by kernel_rfl
theorem und_5 : Program.underlying Tryz.prog 5 = some (TypeDesc.int IntKind.u8) := by kernel_rfl
theorem und_9 : Program.underlying Tryz.prog 9 = some TypeDesc.string := by kernel_rfl
theorem und_12 : Program.underlying Tryz.prog 12 = some (TypeDesc.int IntKind.u64) := by kernel_rfl
theorem und_42 : Program.underlying Tryz.prog 42 = some (TypeDesc.float FloatKind.f64) := by kernel_rfl
theorem und_78 : Program.underlying Tryz.prog 78 = some (TypeDesc.slice 5) := by kernel_rfl
theorem und_97 : Program.underlying Tryz.prog 97 = some (TypeDesc.int IntKind.u64) := by kernel_rfl
theorem und_102 : Program.underlying Tryz.prog 102 = some (TypeDesc.int IntKind.u64) := by kernel_rfl
theorem und_128 : Program.underlying Tryz.prog 128 = some (TypeDesc.float FloatKind.f32) := by kernel_rfl
theorem und_131 : Program.underlying Tryz.prog 131 = some (TypeDesc.int IntKind.u32) := by kernel_rfl
theorem und_162 : Program.underlying Tryz.prog 162 = some (TypeDesc.int IntKind.u64) := by kernel_rfl
theorem undT_9 : undT Tryz.prog #[9] = some TypeDesc.string := by kernel_rfl
theorem undT_22 : undT Tryz.prog #[22] = some (TypeDesc.slice 9) := by kernel_rfl
theorem undT_23 : undT Tryz.prog #[23] = some (TypeDesc.slice 44) := by kernel_rfl
theorem undT_28 : undT Tryz.prog #[28] = some (TypeDesc.slice 3) := by kernel_rfl
theorem undT_34 : undT Tryz.prog #[34] = some (TypeDesc.slice 4) := by kernel_rfl
theorem undT_78 : undT Tryz.prog #[78] = some (TypeDesc.slice 5) := by kernel_rfl
theorem zeroT_25 : zeroT Tryz.prog 25 = some (Value.agg { toList := [Value.slice none 0 0, Value.slice none 0 0, Value.slice none 0 0] }) := by kernel_rfl
theorem zeroT_34 : zeroT Tryz.prog 34 = some (Value.slice none 0 0) := by kernel_rfl
theorem zeroT_44 : zeroT Tryz.prog 44 = some (Value.agg { toList := [Value.int IntKind.i64 (Int.ofNat 0), Value.slice none 0 0, Value.float FloatKind.f64 0] }) := by kernel_rfl
theorem zeroT_80 : zeroT Tryz.prog 80 = some (Value.agg { toList := [Value.pointer none, Value.slice none 0 0] }) := by kernel_rfl
theorem zeroT_140 : zeroT Tryz.prog 140 = some (Value.agg { toList := [Value.int IntKind.u8 (Int.ofNat 0), Value.int IntKind.u8 (Int.ofNat 0), Value.int IntKind.u8 (Int.ofNat 0), Value.int IntKind.u8 (Int.ofNat 0), Value.int IntKind.u8 (Int.ofNat 0), Value.int IntKind.u8 (Int.ofNat 0), Value.int IntKind.u8 (Int.ofNat 0), Value.int IntKind.u8 (Int.ofNat 0), Value.int IntKind.u8 (Int.ofNat 0), Value.int IntKind.u8 (Int.ofNat 0), Value.int IntKind.u8 (Int.ofNat 0), Value.int IntKind.u8 (Int.ofNat 0), Value.int IntKind.u8 (Int.ofNat 0), Value.int IntKind.u8 (Int.ofNat 0), Value.int IntKind.u8 (Int.ofNat 0), Value.int IntKind.u8 (Int.ofNat 0), Value.int IntKind.u8 (Int.ofNat 0), Value.int IntKind.u8 (Int.ofNat 0), Value.int IntKind.u8 (Int.ofNat 0), Value.int IntKind.u8 (Int.ofNat 0), Value.int IntKind.u8 (Int.ofNat 0), Value.int IntKind.u8 (Int.ofNat 0), Value.int IntKind.u8 (Int.ofNat 0), Value.int IntKind.u8 (Int.ofNat 0), Value.int IntKind.u8 (Int.ofNat 0), Value.int IntKind.u8 (Int.ofNat 0), Value.int IntKind.u8 (Int.ofNat 0), Value.int IntKind.u8 (Int.ofNat 0), Value.int IntKind.u8 (Int.ofNat 0), Value.int IntKind.u8 (Int.ofNat 0), Value.int IntKind.u8 (Int.ofNat 0), Value.int IntKind.u8 (Int.ofNat 0)] }) := by kernel_rfl
theorem zeroT_146 : zeroT Tryz.prog 146 = some (Value.agg { toList := [Value.int IntKind.u8 (Int.ofNat 0), Value.int IntKind.u8 (Int.ofNat 0), Value.int IntKind.u8 (Int.ofNat 0), Value.int IntKind.u8 (Int.ofNat 0), Value.int IntKind.u8 (Int.ofNat 0), Value.int IntKind.u8 (Int.ofNat 0), Value.int IntKind.u8 (Int.ofNat 0), Value.int IntKind.u8 (Int.ofNat 0), Value.int IntKind.u8 (Int.ofNat 0), Value.int IntKind.u8 (Int.ofNat 0), Value.int IntKind.u8 (Int.ofNat 0), Value.int IntKind.u8 (Int.ofNat 0), Value.int IntKind.u8 (Int.ofNat 0), Value.int IntKind.u8 (Int.ofNat 0), Value.int IntKind.u8 (Int.ofNat 0), Value.int IntKind.u8 (Int.ofNat 0), Value.int IntKind.u8 (Int.ofNat 0), Value.int IntKind.u8 (Int.ofNat 0), Value.int IntKind.u8 (Int.ofNat 0), Value.int IntKind.u8 (Int.ofNat 0), Value.int IntKind.u8 (Int.ofNat 0), Value.int IntKind.u8 (Int.ofNat 0), Value.int IntKind.u8 (Int.ofNat 0), Value.int IntKind.u8 (Int.ofNat 0)] }) := by kernel_rfl
theorem zeroT_159 : zeroT Tryz.prog 159 = some (Value.agg { toList := [Value.int IntKind.u64 (Int.ofNat 0), Value.int IntKind.u64 (Int.ofNat 0), Value.int IntKind.i64 (Int.ofNat 0)] }) := by kernel_rfl
theorem ok7 : FnOK Tryz.prog 7 Tryz.f7 (Tryz.f7.body.getD .skip) := fnOK_of fns_ok 7 _ _ (by kernel_rfl) Tryz.func7 rfl
theorem ok9 : FnOK Tryz.prog 9 Tryz.f9 (Tryz.f9.body.getD .skip) := fnOK_of fns_ok 9 _ _ (by kernel_rfl) Tryz.func9 rfl
theorem ok10 : FnOK Tryz.prog 10 Tryz.f10 (Tryz.f10.body.getD .skip) := fnOK_of fns_ok 10 _ _ (by kernel_rfl) Tryz.func10 rfl
theorem ok12 : FnOK Tryz.prog 12 Tryz.f12 (Tryz.f12.body.getD .skip) := fnOK_of fns_ok 12 _ _ (by kernel_rfl) Tryz.func12 rfl
theorem ok15 : FnOK Tryz.prog 15 Tryz.f15 (Tryz.f15.body.getD .skip) := fnOK_of fns_ok 15 _ _ (by kernel_rfl) Tryz.func15 rfl
theorem ok16 : FnOK Tryz.prog 16 Tryz.f16 (Tryz.f16.body.getD .skip) := fnOK_of fns_ok 16 _ _ (by kernel_rfl) Tryz.func16 rfl
theorem ok19 : FnOK Tryz.prog 19 Tryz.f19 (Tryz.f19.body.getD .skip) := fnOK_of fns_ok 19 _ _ (by kernel_rfl) Tryz.func19 rfl
theorem ok20 : FnOK Tryz.prog 20 Tryz.f20 (Tryz.f20.body.getD .skip) := fnOK_of fns_ok 20 _ _ (by kernel_rfl) Tryz.func20 rfl
theorem ok24 : FnOK Tryz.prog 24 Tryz.f24 (Tryz.f24.body.getD .skip) := fnOK_of fns_ok 24 _ _ (by kernel_rfl) Tryz.func24 rfl
theorem ok25 : FnOK Tryz.prog 25 Tryz.f25 (Tryz.f25.body.getD .skip) := fnOK_of fns_ok 25 _ _ (by kernel_rfl) Tryz.func25 rfl
theorem ok26 : FnOK Tryz.prog 26 Tryz.f26 (Tryz.f26.body.getD .skip) := fnOK_of fns_ok 26 _ _ (by kernel_rfl) Tryz.func26 rfl
theorem ok27 : FnOK Tryz.prog 27 Tryz.f27 (Tryz.f27.body.getD .skip) := fnOK_of fns_ok 27 _ _ (by kernel_rfl) Tryz.func27 rfl
theorem ok28 : FnOK Tryz.prog 28 Tryz.f28 (Tryz.f28.body.getD .skip) := fnOK_of fns_ok 28 _ _ (by kernel_rfl) Tryz.func28 rfl
theorem ok29 : FnOK Tryz.prog 29 Tryz.f29 (Tryz.f29.body.getD .skip) := fnOK_of fns_ok 29 _ _ (by kernel_rfl) Tryz.func29 rfl
theorem ok32 : FnOK Tryz.prog 32 Tryz.f32 (Tryz.f32.body.getD .skip) := fnOK_of fns_ok 32 _ _ (by kernel_rfl) Tryz.func32 rfl
theorem ok33 : FnOK Tryz.prog 33 Tryz.f33 (Tryz.f33.body.getD .skip) := fnOK_of fns_ok 33 _ _ (by kernel_rfl) Tryz.func33 rfl
theorem ok34 : FnOK Tryz.prog 34 Tryz.f34 (Tryz.f34.body.getD .skip) := fnOK_of fns_ok 34 _ _ (by kernel_rfl) Tryz.func34 rfl
theorem ok35 : FnOK Tryz.prog 35 Tryz.f35 (Tryz.f35.body.getD .skip) := fnOK_of fns_ok 35 _ _ (by kernel_rfl) Tryz.func35 rfl
theorem ok36 : FnOK Tryz.prog 36 Tryz.f36 (Tryz.f36.body.getD .skip) := fnOK_of fns_ok 36 _ _ (by kernel_rfl) Tryz.func36 rfl
theorem ok37 : FnOK Tryz.prog 37 Tryz.f37 (Tryz.f37.body.getD .skip) := fnOK_of fns_ok 37 _ _ (by kernel_rfl) Tryz.func37 rfl
theorem ok39 : FnOK Tryz.prog 39 Tryz.f39 (Tryz.f39.body.getD .skip) := fnOK_of fns_ok 39 _ _ (by kernel_rfl) Tryz.func39 rfl
theorem ok40 : FnOK Tryz.prog 40 Tryz.f40 (Tryz.f40.body.getD .skip) := fnOK_of fns_ok 40 _ _ (by kernel_rfl) Tryz.func40 rfl
theorem ok41 : FnOK Tryz.prog 41 Tryz.f41 (Tryz.f41.body.getD .skip) := fnOK_of fns_ok 41 _ _ (by kernel_rfl) Tryz.func41 rfl
theorem ok42 : FnOK Tryz.prog 42 Tryz.f42 (Tryz.f42.body.getD .skip) := fnOK_of fns_ok 42 _ _ (by kernel_rfl) Tryz.func42 rfl
theorem ok44 : FnOK Tryz.prog 44 Tryz.f44 (Tryz.f44.body.getD .skip) := fnOK_of fns_ok 44 _ _ (by kernel_rfl) Tryz.func44 rfl
theorem ok45 : FnOK Tryz.prog 45 Tryz.f45 (Tryz.f45.body.getD .skip) := fnOK_of fns_ok 45 _ _ (by kernel_rfl) Tryz.func45 rfl
theorem ok46 : FnOK Tryz.prog 46 Tryz.f46 (Tryz.f46.body.getD .skip) := fnOK_of fns_ok 46 _ _ (by kernel_rfl) Tryz.func46 rfl
theorem ok49 : FnOK Tryz.prog 49 Tryz.f49 (Tryz.f49.body.getD .skip) := fnOK_of fns_ok 49 _ _ (by kernel_rfl) Tryz.func49 rfl
theorem ok50 : FnOK Tryz.prog 50 Tryz.f50 (Tryz.f50.body.getD .skip) := fnOK_of fns_ok 50 _ _ (by kernel_rfl) Tryz.func50 rfl
theorem ok51 : FnOK Tryz.prog 51 Tryz.f51 (Tryz.f51.body.getD .skip) := fnOK_of fns_ok 51 _ _ (by kernel_rfl) Tryz.func51 rfl
theorem ok52 : FnOK Tryz.prog 52 Tryz.f52 (Tryz.f52.body.getD .skip) := fnOK_of fns_ok 52 _ _ (by kernel_rfl) Tryz.func52 rfl
theorem ok53 : FnOK Tryz.prog 53 Tryz.f53 (Tryz.f53.body.getD .skip) := fnOK_of fns_ok 53 _ _ (by kernel_rfl) Tryz.func53 rfl
theorem ok54 : FnOK Tryz.prog 54 Tryz.f54 (Tryz.f54.body.getD .skip) := fnOK_of fns_ok 54 _ _ (by kernel_rfl) Tryz.func54 rfl
theorem ok55 : FnOK Tryz.prog 55 Tryz.f55 (Tryz.f55.body.getD .skip) := fnOK_of fns_ok 55 _ _ (by kernel_rfl) Tryz.func55 rfl
theorem ok56 : FnOK Tryz.prog 56 Tryz.f56 (Tryz.f56.body.getD .skip) := fnOK_of fns_ok 56 _ _ (by kernel_rfl) Tryz.func56 rfl
theorem ok57 : FnOK Tryz.prog 57 Tryz.f57 (Tryz.f57.body.getD .skip) := fnOK_of fns_ok 57 _ _ (by kernel_rfl) Tryz.func57 rfl
theorem ok58 : FnOK Tryz.prog 58 Tryz.f58 (Tryz.f58.body.getD .skip) := fnOK_of fns_ok 58 _ _ (by kernel_rfl) Tryz.func58 rfl
theorem ok60 : FnOK Tryz.prog 60 Tryz.f60 (Tryz.f60.body.getD .skip) := fnOK_of fns_ok 60 _ _ (by kernel_rfl) Tryz.func60 rfl
theorem ok62 : FnOK Tryz.prog 62 Tryz.f62 (Tryz.f62.body.getD .skip) := fnOK_of fns_ok 62 _ _ (by kernel_rfl) Tryz.func62 rfl
theorem ok63 : FnOK Tryz.prog 63 Tryz.f63 (Tryz.f63.body.getD .skip) := fnOK_of fns_ok 63 _ _ (by kernel_rfl) Tryz.func63 rfl
theorem ok64 : FnOK Tryz.prog 64 Tryz.f64 (Tryz.f64.body.getD .skip) := fnOK_of fns_ok 64 _ _ (by kernel_rfl) Tryz.func64 rfl
theorem ok65 : FnOK Tryz.prog 65 Tryz.f65 (Tryz.f65.body.getD .skip) := fnOK_of fns_ok 65 _ _ (by kernel_rfl) Tryz.func65 rfl
theorem ok66 : FnOK Tryz.prog 66 Tryz.f66 (Tryz.f66.body.getD .skip) := fnOK_of fns_ok 66 _ _ (by kernel_rfl) Tryz.func66 rfl
theorem ok67 : FnOK Tryz.prog 67 Tryz.f67 (Tryz.f67.body.getD .skip) := fnOK_of fns_ok 67 _ _ (by kernel_rfl) Tryz.func67 rfl
theorem ok71 : FnOK Tryz.prog 71 Tryz.f71 (Tryz.f71.body.getD .skip) := fnOK_of fns_ok 71 _ _ (by kernel_rfl) Tryz.func71 rfl
theorem ok72 : FnOK Tryz.prog 72 Tryz.f72 (Tryz.f72.body.getD .skip) := fnOK_of fns_ok 72 _ _ (by kernel_rfl) Tryz.func72 rfl
theorem ok73 : FnOK Tryz.prog 73 Tryz.f73 (Tryz.f73.body.getD .skip) := fnOK_of fns_ok 73 _ _ (by kernel_rfl) Tryz.func73 rfl
theorem ok74 : FnOK Tryz.prog 74 Tryz.f74 (Tryz.f74.body.getD .skip) := fnOK_of fns_ok 74 _ _ (by kernel_rfl) Tryz.func74 rfl
theorem ok75 : FnOK Tryz.prog 75 Tryz.f75 (Tryz.f75.body.getD .skip) := fnOK_of fns_ok 75 _ _ (by kernel_rfl) Tryz.func75 rfl
theorem ok76 : FnOK Tryz.prog 76 Tryz.f76 (Tryz.f76.body.getD .skip) := fnOK_of fns_ok 76 _ _ (by kernel_rfl) Tryz.func76 rfl
theorem ok78 : FnOK Tryz.prog 78 Tryz.f78 (Tryz.f78.body.getD .skip) := fnOK_of fns_ok 78 _ _ (by kernel_rfl) Tryz.func78 rfl
theorem ok79 : FnOK Tryz.prog 79 Tryz.f79 (Tryz.f79.body.getD .skip) := fnOK_of fns_ok 79 _ _ (by kernel_rfl) Tryz.func79 rfl
theorem ok80 : FnOK Tryz.prog 80 Tryz.f80 (Tryz.f80.body.getD .skip) := fnOK_of fns_ok 80 _ _ (by kernel_rfl) Tryz.func80 rfl
theorem ok82 : FnOK Tryz.prog 82 Tryz.f82 (Tryz.f82.body.getD .skip) := fnOK_of fns_ok 82 _ _ (by kernel_rfl) Tryz.func82 rfl
theorem ok83 : FnOK Tryz.prog 83 Tryz.f83 (Tryz.f83.body.getD .skip) := fnOK_of fns_ok 83 _ _ (by kernel_rfl) Tryz.func83 rfl
theorem ok85 : FnOK Tryz.prog 85 Tryz.f85 (Tryz.f85.body.getD .skip) := fnOK_of fns_ok 85 _ _ (by kernel_rfl) Tryz.func85 rfl
theorem ok86 : FnOK Tryz.prog 86 Tryz.f86 (Tryz.f86.body.getD .skip) := fnOK_of fns_ok 86 _ _ (by kernel_rfl) Tryz.func86 rfl
theorem ok87 : FnOK Tryz.prog 87 Tryz.f87 (Tryz.f87.body.getD .skip) := fnOK_of fns_ok 87 _ _ (by kernel_rfl) Tryz.func87 rfl
theorem ok88 : FnOK Tryz.prog 88 Tryz.f88 (Tryz.f88.body.getD .skip) := fnOK_of fns_ok 88 _ _ (by kernel_rfl) Tryz.func88 rfl
theorem ok89 : FnOK Tryz.prog 89 Tryz.f89 (Tryz.f89.body.getD .skip) := fnOK_of fns_ok 89 _ _ (by kernel_rfl) Tryz.func89 rfl
theorem ok90 : FnOK Tryz.prog 90 Tryz.f90 (Tryz.f90.body.getD .skip) := fnOK_of fns_ok 90 _ _ (by kernel_rfl) Tryz.func90 rfl
theorem ok91 : FnOK Tryz.prog 91 Tryz.f91 (Tryz.f91.body.getD .skip) := fnOK_of fns_ok 91 _ _ (by kernel_rfl) Tryz.func91 rfl
theorem ok92 : FnOK Tryz.prog 92 Tryz.f92 (Tryz.f92.body.getD .skip) := fnOK_of fns_ok 92 _ _ (by kernel_rfl) Tryz.func92 rfl
theorem ok93 : FnOK Tryz.prog 93 Tryz.f93 (Tryz.f93.body.getD .skip) := fnOK_of fns_ok 93 _ _ (by kernel_rfl) Tryz.func93 rfl
theorem ok94 : FnOK Tryz.prog 94 Tryz.f94 (Tryz.f94.body.getD .skip) := fnOK_of fns_ok 94 _ _ (by kernel_rfl) Tryz.func94 rfl
theorem ok95 : FnOK Tryz.prog 95 Tryz.f95 (Tryz.f95.body.getD .skip) := fnOK_of fns_ok 95 _ _ (by kernel_rfl) Tryz.func95 rfl
theorem ok99 : FnOK Tryz.prog 99 Tryz.f99 (Tryz.f99.body.getD .skip) := fnOK_of fns_ok 99 _ _ (by kernel_rfl) Tryz.func99 rfl
theorem ok102 : FnOK Tryz.prog 102 Tryz.f102 (Tryz.f102.body.getD .skip) := fnOK_of fns_ok 102 _ _ (by kernel_rfl) Tryz.func102 rfl
theorem ok103 : FnOK Tryz.prog 103 Tryz.f103 (Tryz.f103.body.getD .skip) := fnOK_of fns_ok 103 _ _ (by kernel_rfl) Tryz.func103 rfl
theorem ok104 : FnOK Tryz.prog 104 Tryz.f104 (Tryz.f104.body.getD .skip) := fnOK_of fns_ok 104 _ _ (by kernel_rfl) Tryz.func104 rfl
theorem ok105 : FnOK Tryz.prog 105 Tryz.f105 (Tryz.f105.body.getD .skip) := fnOK_of fns_ok 105 _ _ (by kernel_rfl) Tryz.func105 rfl
theorem ok106 : FnOK Tryz.prog 106 Tryz.f106 (Tryz.f106.body.getD .skip) := fnOK_of fns_ok 106 _ _ (by kernel_rfl) Tryz.func106 rfl
theorem ok110 : FnOK Tryz.prog 110 Tryz.f110 (Tryz.f110.body.getD .skip) := fnOK_of fns_ok 110 _ _ (by kernel_rfl) Tryz.func110 rfl
theorem ok111 : FnOK Tryz.prog 111 Tryz.f111 (Tryz.f111.body.getD .skip) := fnOK_of fns_ok 111 _ _ (by kernel_rfl) Tryz.func111 rfl
theorem ok112 : FnOK Tryz.prog 112 Tryz.f112 (Tryz.f112.body.getD .skip) := fnOK_of fns_ok 112 _ _ (by kernel_rfl) Tryz.func112 rfl
theorem ok113 : FnOK Tryz.prog 113 Tryz.f113 (Tryz.f113.body.getD .skip) := fnOK_of fns_ok 113 _ _ (by kernel_rfl) Tryz.func113 rfl
theorem ok115 : FnOK Tryz.prog 115 Tryz.f115 (Tryz.f115.body.getD .skip) := fnOK_of fns_ok 115 _ _ (by kernel_rfl) Tryz.func115 rfl
theorem ok121 : FnOK Tryz.prog 121 Tryz.f121 (Tryz.f121.body.getD .skip) := fnOK_of fns_ok 121 _ _ (by kernel_rfl) Tryz.func121 rfl
theorem ok122 : FnOK Tryz.prog 122 Tryz.f122 (Tryz.f122.body.getD .skip) := fnOK_of fns_ok 122 _ _ (by kernel_rfl) Tryz.func122 rfl
theorem ok124 : FnOK Tryz.prog 124 Tryz.f124 (Tryz.f124.body.getD .skip) := fnOK_of fns_ok 124 _ _ (by kernel_rfl) Tryz.func124 rfl
theorem ok125 : FnOK Tryz.prog 125 Tryz.f125 (Tryz.f125.body.getD .skip) := fnOK_of fns_ok 125 _ _ (by kernel_rfl) Tryz.func125 rfl
theorem ok126 : FnOK Tryz.prog 126 Tryz.f126 (Tryz.f126.body.getD .skip) := fnOK_of fns_ok 126 _ _ (by kernel_rfl) Tryz.func126 rfl
theorem ok131 : FnOK Tryz.prog 131 Tryz.f131 (Tryz.f131.body.getD .skip) := fnOK_of fns_ok 131 _ _ (by kernel_rfl) Tryz.func131 rfl
theorem ok132 : FnOK Tryz.prog 132 Tryz.f132 (Tryz.f132.body.getD .skip) := fnOK_of fns_ok 132 _ _ (by kernel_rfl) Tryz.func132 rfl
theorem ok140 : FnOK Tryz.prog 140 Tryz.f140 (Tryz.f140.body.getD .skip) := fnOK_of fns_ok 140 _ _ (by kernel_rfl) Tryz.func140 rfl
theorem ok141 : FnOK Tryz.prog 141 Tryz.f141 (Tryz.f141.body.getD .skip) := fnOK_of fns_ok 141 _ _ (by kernel_rfl) Tryz.func141 rfl
theorem ok142 : FnOK Tryz.prog 142 Tryz.f142 (Tryz.f142.body.getD .skip) := fnOK_of fns_ok 142 _ _ (by kernel_rfl) Tryz.func142 rfl
theorem ok143 : FnOK Tryz.prog 143 Tryz.f143 (Tryz.f143.body.getD .skip) := fnOK_of fns_ok 143 _ _ (by kernel_rfl) Tryz.func143 rfl
theorem ok144 : FnOK Tryz.prog 144 Tryz.f144 (Tryz.f144.body.getD .skip) := fnOK_of fns_ok 144 _ _ (by kernel_rfl) Tryz.func144 rfl
theorem ok145 : FnOK Tryz.prog 145 Tryz.f145 (Tryz.f145.body.getD .skip) := fnOK_of fns_ok 145 _ _ (by kernel_rfl) Tryz.func145 rfl
theorem ok146 : FnOK Tryz.prog 146 Tryz.f146 (Tryz.f146.body.getD .skip) := fnOK_of fns_ok 146 _ _ (by kernel_rfl) Tryz.func146 rfl
theorem ok148 : FnOK Tryz.prog 148 Tryz.f148 (Tryz.f148.body.getD .skip) := fnOK_of fns_ok 148 _ _ (by kernel_rfl) Tryz.func148 rfl
theorem ff_7 : type_of% (And.intro (And.intro (And.intro (And.intro (And.intro @agg_3 @agg_4) (And.intro @agg_9 @agg_22)) (And.intro (And.intro @agg_23 @agg_25) (And.intro @agg_28 @agg_44))) (And.intro (And.intro (And.intro @csz_3 @csz_4) (And.intro @csz_9 @csz_22)) (And.intro (And.intro @csz_23 @csz_25) (And.intro @csz_28 (And.intro @csz_44 @esz_22))))) (And.intro (And.intro (And.intro (And.intro @esz_23 @esz_28) (And.intro @esz_34 @fofs_25_1)) (And.intro (And.intro @fofs_25_2 @fofs_44_0) (And.intro @fofs_44_1 (And.intro @isz_25 @isz_44)))) (And.intro (And.intro (And.intro @und_3 @und_4) (And.intro @und_9 @undT_22)) (And.intro (And.intro @undT_23 @undT_28) (And.intro @undT_34 (And.intro @zeroT_25 @zeroT_44)))))) := And.intro (And.intro (And.intro (And.intro (And.intro @agg_3 @agg_4) (And.intro @agg_9 @agg_22)) (And.intro (And.intro @agg_23 @agg_25) (And.intro @agg_28 @agg_44))) (And.intro (And.intro (And.intro @csz_3 @csz_4) (And.intro @csz_9 @csz_22)) (And.intro (And.intro @csz_23 @csz_25) (And.intro @csz_28 (And.intro @csz_44 @esz_22))))) (And.intro (And.intro (And.intro (And.intro @esz_23 @esz_28) (And.intro @esz_34 @fofs_25_1)) (And.intro (And.intro @fofs_25_2 @fofs_44_0) (And.intro @fofs_44_1 (And.intro @isz_25 @isz_44)))) (And.intro (And.intro (And.intro @und_3 @und_4) (And.intro @und_9 @undT_22)) (And.intro (And.intro @undT_23 @undT_28) (And.intro @undT_34 (And.intro @zeroT_25 @zeroT_44)))))
theorem ff_9 : type_of% (And.intro (And.intro (And.intro @agg_22 (And.intro @agg_23 @agg_28)) (And.intro (And.intro @csz_22 @csz_23) (And.intro @csz_28 @esz_23))) (And.intro (And.intro @fofs_25_0 (And.intro @fofs_25_1 @fofs_25_2)) (And.intro (And.intro @fofs_44_1 @undT_22) (And.intro @undT_23 @undT_28)))) := And.intro (And.intro (And.intro @agg_22 (And.intro @agg_23 @agg_28)) (And.intro (And.intro @csz_22 @csz_23) (And.intro @csz_28 @esz_23))) (And.intro (And.intro @fofs_25_0 (And.intro @fofs_25_1 @fofs_25_2)) (And.intro (And.intro @fofs_44_1 @undT_22) (And.intro @undT_23 @undT_28)))
theorem ff_10 : type_of% (And.intro (And.intro (And.intro @agg_9 (And.intro @agg_22 @agg_23)) (And.intro (And.intro @agg_25 @csz_9) (And.intro @csz_22 @csz_23))) (And.intro (And.intro (And.intro @csz_25 @esz_22) (And.intro @fofs_25_0 @fofs_25_1)) (And.intro (And.intro @fofs_25_2 @und_3) (And.intro @undT_22 @undT_23)))) := And.intro (And.intro (And.intro @agg_9 (And.intro @agg_22 @agg_23)) (And.intro (And.intro @agg_25 @csz_9) (And.intro @csz_22 @csz_23))) (And.intro (And.intro (And.intro @csz_25 @esz_22) (And.intro @fofs_25_0 @fofs_25_1)) (And.intro (And.intro @fofs_25_2 @und_3) (And.intro @undT_22 @undT_23)))
theorem ff_15 : type_of% (And.intro (And.intro (And.intro @agg_22 @agg_25) (And.intro @agg_34 (And.intro @csz_22 @csz_25))) (And.intro (And.intro @csz_34 (And.intro @emk_34 @fofs_25_1)) (And.intro @isz_34 (And.intro @undT_22 @zeroT_34)))) := And.intro (And.intro (And.intro @agg_22 @agg_25) (And.intro @agg_34 (And.intro @csz_22 @csz_25))) (And.intro (And.intro @csz_34 (And.intro @emk_34 @fofs_25_1)) (And.intro @isz_34 (And.intro @undT_22 @zeroT_34)))
theorem ff_16 : type_of% (And.intro @agg_25 @csz_25) := And.intro @agg_25 @csz_25
theorem ff_19 : type_of% (And.intro (And.intro (And.intro (And.intro @agg_3 (And.intro @agg_4 @agg_22)) (And.intro (And.intro @agg_23 @agg_25) (And.intro @agg_28 @agg_44))) (And.intro (And.intro (And.intro @csz_3 @csz_4) (And.intro @csz_22 @csz_23)) (And.intro (And.intro @csz_25 @csz_28) (And.intro @csz_44 @eapp_28_28)))) (And.intro (And.intro (And.intro @ebs_28_1 (And.intro @emk_34 @esz_23)) (And.intro (And.intro @esz_28 @esz_34) (And.intro @fofs_25_1 @fofs_25_2))) (And.intro (And.intro (And.intro @fofs_44_1 @grt_28_28) (And.intro @isz_4 @isz_44)) (And.intro (And.intro @undT_22 @undT_23) (And.intro @undT_28 @zeroT_44))))) := And.intro (And.intro (And.intro (And.intro @agg_3 (And.intro @agg_4 @agg_22)) (And.intro (And.intro @agg_23 @agg_25) (And.intro @agg_28 @agg_44))) (And.intro (And.intro (And.intro @csz_3 @csz_4) (And.intro @csz_22 @csz_23)) (And.intro (And.intro @csz_25 @csz_28) (And.intro @csz_44 @eapp_28_28)))) (And.intro (And.intro (And.intro @ebs_28_1 (And.intro @emk_34 @esz_23)) (And.intro (And.intro @esz_28 @esz_34) (And.intro @fofs_25_1 @fofs_25_2))) (And.intro (And.intro (And.intro @fofs_44_1 @grt_28_28) (And.intro @isz_4 @isz_44)) (And.intro (And.intro @undT_22 @undT_23) (And.intro @undT_28 @zeroT_44))))
theorem ff_20 : type_of% (And.intro (And.intro (And.intro (And.intro @agg_3 (And.intro @agg_4 @agg_22)) (And.intro (And.intro @agg_23 @agg_25) (And.intro @agg_28 @agg_44))) (And.intro (And.intro @csz_3 (And.intro @csz_4 @csz_22)) (And.intro (And.intro @csz_23 @csz_25) (And.intro @csz_28 @csz_44)))) (And.intro (And.intro (And.intro @emk_34 (And.intro @esz_23 @esz_28)) (And.intro (And.intro @esz_34 @fofs_25_1) (And.intro @fofs_25_2 @fofs_44_0))) (And.intro (And.intro @fofs_44_1 (And.intro @isz_4 @isz_44)) (And.intro (And.intro @undT_22 @undT_23) (And.intro @undT_28 @zeroT_44))))) := And.intro (And.intro (And.intro (And.intro @agg_3 (And.intro @agg_4 @agg_22)) (And.intro (And.intro @agg_23 @agg_25) (And.intro @agg_28 @agg_44))) (And.intro (And.intro @csz_3 (And.intro @csz_4 @csz_22)) (And.intro (And.intro @csz_23 @csz_25) (And.intro @csz_28 @csz_44)))) (And.intro (And.intro (And.intro @emk_34 (And.intro @esz_23 @esz_28)) (And.intro (And.intro @esz_34 @fofs_25_1) (And.intro @fofs_25_2 @fofs_44_0))) (And.intro (And.intro @fofs_44_1 (And.intro @isz_4 @isz_44)) (And.intro (And.intro @undT_22 @undT_23) (And.intro @undT_28 @zeroT_44))))
theorem ff_24 : type_of% (And.intro (And.intro (And.intro (And.intro @agg_3 (And.intro @agg_22 @agg_23)) (And.intro (And.intro @agg_25 @agg_28) (And.intro @agg_42 @agg_44))) (And.intro (And.intro (And.intro @csz_3 @csz_22) (And.intro @csz_23 @csz_25)) (And.intro (And.intro @csz_28 @csz_42) (And.intro @csz_44 @emk_34)))) (And.intro (And.intro (And.intro (And.intro @esz_23 @esz_28) (And.intro @esz_34 @fofs_25_0)) (And.intro (And.intro @fofs_25_1 @fofs_25_2) (And.intro @fofs_44_0 @fofs_44_1))) (And.intro (And.intro (And.intro @fofs_44_2 @isz_4) (And.intro @isz_44 @und_3)) (And.intro (And.intro @undT_22 @undT_23) (And.intro @undT_28 @zeroT_44))))) := And.intro (And.intro (And.intro (And.intro @agg_3 (And.intro @agg_22 @agg_23)) (And.intro (And.intro @agg_25 @agg_28) (And.intro @agg_42 @agg_44))) (And.intro (And.intro (And.intro @csz_3 @csz_22) (And.intro @csz_23 @csz_25)) (And.intro (And.intro @csz_28 @csz_42) (And.intro @csz_44 @emk_34)))) (And.intro (And.intro (And.intro (And.intro @esz_23 @esz_28) (And.intro @esz_34 @fofs_25_0)) (And.intro (And.intro @fofs_25_1 @fofs_25_2) (And.intro @fofs_44_0 @fofs_44_1))) (And.intro (And.intro (And.intro @fofs_44_2 @isz_4) (And.intro @isz_44 @und_3)) (And.intro (And.intro @undT_22 @undT_23) (And.intro @undT_28 @zeroT_44))))
theorem ff_25 : type_of% (And.intro (And.intro (And.intro (And.intro (And.intro @agg_3 (And.intro @agg_4 @agg_9)) (And.intro @agg_22 (And.intro @agg_23 @agg_25))) (And.intro (And.intro @agg_28 (And.intro @agg_42 @agg_44)) (And.intro @csz_3 (And.intro @csz_4 @csz_9)))) (And.intro (And.intro (And.intro @csz_22 (And.intro @csz_23 @csz_25)) (And.intro @csz_28 (And.intro @csz_42 @csz_44))) (And.intro (And.intro @eapp_22_22 (And.intro @eapp_23_23 @eapp_28_28)) (And.intro (And.intro @ebd_25 @ebd_44) (And.intro @ebs_22_1 @ebs_23_1))))) (And.intro (And.intro (And.intro (And.intro @ebs_28_1 (And.intro @emk_28 @esz_22)) (And.intro @esz_23 (And.intro @esz_28 @esz_34))) (And.intro (And.intro @fofs_25_0 (And.intro @fofs_25_1 @fofs_25_2)) (And.intro (And.intro @fofs_44_0 @fofs_44_1) (And.intro @fofs_44_2 @grt_22_22)))) (And.intro (And.intro (And.intro @grt_23_23 (And.intro @grt_28_28 @isz_3)) (And.intro @isz_22 (And.intro @isz_23 @isz_25))) (And.intro (And.intro @isz_28 (And.intro @isz_44 @undT_22)) (And.intro (And.intro @undT_23 @undT_28) (And.intro @zeroT_25 @zeroT_44)))))) := And.intro (And.intro (And.intro (And.intro (And.intro @agg_3 (And.intro @agg_4 @agg_9)) (And.intro @agg_22 (And.intro @agg_23 @agg_25))) (And.intro (And.intro @agg_28 (And.intro @agg_42 @agg_44)) (And.intro @csz_3 (And.intro @csz_4 @csz_9)))) (And.intro (And.intro (And.intro @csz_22 (And.intro @csz_23 @csz_25)) (And.intro @csz_28 (And.intro @csz_42 @csz_44))) (And.intro (And.intro @eapp_22_22 (And.intro @eapp_23_23 @eapp_28_28)) (And.intro (And.intro @ebd_25 @ebd_44) (And.intro @ebs_22_1 @ebs_23_1))))) (And.intro (And.intro (And.intro (And.intro @ebs_28_1 (And.intro @emk_28 @esz_22)) (And.intro @esz_23 (And.intro @esz_28 @esz_34))) (And.intro (And.intro @fofs_25_0 (And.intro @fofs_25_1 @fofs_25_2)) (And.intro (And.intro @fofs_44_0 @fofs_44_1) (And.intro @fofs_44_2 @grt_22_22)))) (And.intro (And.intro (And.intro @grt_23_23 (And.intro @grt_28_28 @isz_3)) (And.intro @isz_22 (And.intro @isz_23 @isz_25))) (And.intro (And.intro @isz_28 (And.intro @isz_44 @undT_22)) (And.intro (And.intro @undT_23 @undT_28) (And.intro @zeroT_25 @zeroT_44)))))
theorem ff_26 : type_of% (And.intro (And.intro (And.intro @agg_3 (And.intro @agg_4 @agg_23)) (And.intro (And.intro @agg_25 @agg_44) (And.intro @csz_3 @csz_4))) (And.intro (And.intro @csz_23 (And.intro @csz_25 @csz_44)) (And.intro (And.intro @esz_23 @esz_34) (And.intro @fofs_25_2 @fofs_44_0)))) := And.intro (And.intro (And.intro @agg_3 (And.intro @agg_4 @agg_23)) (And.intro (And.intro @agg_25 @agg_44) (And.intro @csz_3 @csz_4))) (And.intro (And.intro @csz_23 (And.intro @csz_25 @csz_44)) (And.intro (And.intro @esz_23 @esz_34) (And.intro @fofs_25_2 @fofs_44_0)))
theorem ff_27 : type_of% (And.intro (And.intro @agg_9 (And.intro @agg_22 @csz_9)) (And.intro (And.intro @csz_22 @esz_22) (And.intro @fofs_25_0 @fofs_25_1))) := And.intro (And.intro @agg_9 (And.intro @agg_22 @csz_9)) (And.intro (And.intro @csz_22 @esz_22) (And.intro @fofs_25_0 @fofs_25_1))
theorem ff_29 : type_of% (And.intro (And.intro @agg_22 (And.intro @agg_23 @csz_22)) (And.intro (And.intro @csz_23 @fofs_25_0) (And.intro @fofs_25_1 @fofs_25_2))) := And.intro (And.intro @agg_22 (And.intro @agg_23 @csz_22)) (And.intro (And.intro @csz_23 @fofs_25_0) (And.intro @fofs_25_1 @fofs_25_2))
theorem ff_32 : type_of% (And.intro @und_9 @undT_9) := And.intro @und_9 @undT_9
theorem ff_33 : type_of% (And.intro (And.intro @agg_9 @csz_9) (And.intro @esz_22 (And.intro @und_9 @undT_22))) := And.intro (And.intro @agg_9 @csz_9) (And.intro @esz_22 (And.intro @und_9 @undT_22))
theorem ff_34 : type_of% (And.intro @und_9 @undT_9) := And.intro @und_9 @undT_9
theorem ff_35 : type_of% (And.intro (And.intro (And.intro (And.intro @agg_3 (And.intro @agg_22 @agg_23)) (And.intro @agg_28 (And.intro @agg_42 @agg_44))) (And.intro (And.intro @csz_3 (And.intro @csz_22 @csz_23)) (And.intro @csz_28 (And.intro @csz_42 @csz_44)))) (And.intro (And.intro (And.intro @esz_23 (And.intro @esz_28 @fofs_25_0)) (And.intro @fofs_25_1 (And.intro @fofs_25_2 @fofs_44_0))) (And.intro (And.intro @fofs_44_1 (And.intro @fofs_44_2 @isz_44)) (And.intro (And.intro @und_3 @undT_22) (And.intro @undT_28 @zeroT_44))))) := And.intro (And.intro (And.intro (And.intro @agg_3 (And.intro @agg_22 @agg_23)) (And.intro @agg_28 (And.intro @agg_42 @agg_44))) (And.intro (And.intro @csz_3 (And.intro @csz_22 @csz_23)) (And.intro @csz_28 (And.intro @csz_42 @csz_44)))) (And.intro (And.intro (And.intro @esz_23 (And.intro @esz_28 @fofs_25_0)) (And.intro @fofs_25_1 (And.intro @fofs_25_2 @fofs_44_0))) (And.intro (And.intro @fofs_44_1 (And.intro @fofs_44_2 @isz_44)) (And.intro (And.intro @und_3 @undT_22) (And.intro @undT_28 @zeroT_44))))
theorem ff_36 : type_of% (And.intro (And.intro (And.intro @agg_3 @agg_23) (And.intro @csz_3 @csz_23)) (And.intro (And.intro @esz_23 @fofs_25_2) (And.intro @fofs_44_0 (And.intro @und_3 @undT_23)))) := And.intro (And.intro (And.intro @agg_3 @agg_23) (And.intro @csz_3 @csz_23)) (And.intro (And.intro @esz_23 @fofs_25_2) (And.intro @fofs_44_0 (And.intro @und_3 @undT_23)))
theorem ff_37 : type_of% (And.intro (And.intro (And.intro @agg_3 (And.intro @agg_23 @agg_28)) (And.intro @csz_3 (And.intro @csz_23 @csz_28))) (And.intro (And.intro @esz_23 (And.intro @esz_28 @fofs_25_2)) (And.intro (And.intro @fofs_44_1 @und_3) (And.intro @undT_23 @undT_28)))) := And.intro (And.intro (And.intro @agg_3 (And.intro @agg_23 @agg_28)) (And.intro @csz_3 (And.intro @csz_23 @csz_28))) (And.intro (And.intro @esz_23 (And.intro @esz_28 @fofs_25_2)) (And.intro (And.intro @fofs_44_1 @und_3) (And.intro @undT_23 @undT_28)))
theorem ff_39 : type_of% (And.intro (And.intro @agg_3 @csz_3) (And.intro @esz_28 (And.intro @und_3 @undT_28))) := And.intro (And.intro @agg_3 @csz_3) (And.intro @esz_28 (And.intro @und_3 @undT_28))
theorem ff_40 : type_of% (And.intro (And.intro (And.intro (And.intro @agg_3 @agg_4) (And.intro @agg_23 @agg_44)) (And.intro (And.intro @csz_3 @csz_4) (And.intro @csz_23 @csz_44))) (And.intro (And.intro (And.intro @esz_23 @esz_34) (And.intro @fofs_25_2 @fofs_44_0)) (And.intro (And.intro @isz_4 @isz_44) (And.intro @undT_23 @zeroT_44)))) := And.intro (And.intro (And.intro (And.intro @agg_3 @agg_4) (And.intro @agg_23 @agg_44)) (And.intro (And.intro @csz_3 @csz_4) (And.intro @csz_23 @csz_44))) (And.intro (And.intro (And.intro @esz_23 @esz_34) (And.intro @fofs_25_2 @fofs_44_0)) (And.intro (And.intro @isz_4 @isz_44) (And.intro @undT_23 @zeroT_44)))
theorem ff_41 : type_of% (And.intro (And.intro (And.intro @agg_3 (And.intro @agg_4 @agg_28)) (And.intro @agg_34 (And.intro @csz_3 @csz_4))) (And.intro (And.intro @csz_28 (And.intro @csz_34 @esz_28)) (And.intro @esz_34 (And.intro @fofs_44_1 @undT_28)))) := And.intro (And.intro (And.intro @agg_3 (And.intro @agg_4 @agg_28)) (And.intro @agg_34 (And.intro @csz_3 @csz_4))) (And.intro (And.intro @csz_28 (And.intro @csz_34 @esz_28)) (And.intro @esz_34 (And.intro @fofs_44_1 @undT_28)))
theorem ff_42 : type_of% (And.intro (And.intro (And.intro (And.intro @agg_3 @agg_22) (And.intro @agg_23 (And.intro @agg_44 @csz_3))) (And.intro (And.intro @csz_22 @csz_23) (And.intro @csz_44 (And.intro @eapp_34_34 @ebs_34_0)))) (And.intro (And.intro (And.intro @emk_34 @esz_23) (And.intro @esz_34 (And.intro @fofs_25_1 @fofs_25_2))) (And.intro (And.intro @fofs_44_0 @grt_34_34) (And.intro @isz_4 (And.intro @undT_22 @undT_23))))) := And.intro (And.intro (And.intro (And.intro @agg_3 @agg_22) (And.intro @agg_23 (And.intro @agg_44 @csz_3))) (And.intro (And.intro @csz_22 @csz_23) (And.intro @csz_44 (And.intro @eapp_34_34 @ebs_34_0)))) (And.intro (And.intro (And.intro @emk_34 @esz_23) (And.intro @esz_34 (And.intro @fofs_25_1 @fofs_25_2))) (And.intro (And.intro @fofs_44_0 @grt_34_34) (And.intro @isz_4 (And.intro @undT_22 @undT_23))))
theorem ff_44 : type_of% (And.intro (And.intro (And.intro @agg_3 @agg_23) (And.intro @csz_3 @csz_23)) (And.intro (And.intro @esz_23 @fofs_25_2) (And.intro @fofs_44_0 (And.intro @und_3 @undT_23)))) := And.intro (And.intro (And.intro @agg_3 @agg_23) (And.intro @csz_3 @csz_23)) (And.intro (And.intro @esz_23 @fofs_25_2) (And.intro @fofs_44_0 (And.intro @und_3 @undT_23)))
theorem ff_45 : type_of% (And.intro (And.intro (And.intro @agg_3 @agg_4) (And.intro @agg_28 (And.intro @csz_3 @csz_4))) (And.intro (And.intro @csz_28 @esz_28) (And.intro @esz_34 (And.intro @fofs_44_1 @undT_28)))) := And.intro (And.intro (And.intro @agg_3 @agg_4) (And.intro @agg_28 (And.intro @csz_3 @csz_4))) (And.intro (And.intro @csz_28 @esz_28) (And.intro @esz_34 (And.intro @fofs_44_1 @undT_28)))
theorem ff_46 : type_of% (And.intro (And.intro (And.intro @agg_3 @agg_4) (And.intro @agg_28 (And.intro @csz_3 @csz_4))) (And.intro (And.intro @csz_28 @esz_28) (And.intro @esz_34 (And.intro @fofs_44_1 @undT_28)))) := And.intro (And.intro (And.intro @agg_3 @agg_4) (And.intro @agg_28 (And.intro @csz_3 @csz_4))) (And.intro (And.intro @csz_28 @esz_28) (And.intro @esz_34 (And.intro @fofs_44_1 @undT_28)))
theorem ff_49 : type_of% (And.intro (And.intro (And.intro @agg_9 @agg_22) (And.intro @csz_9 @csz_22)) (And.intro (And.intro @esz_22 @fofs_25_0) (And.intro @fofs_25_1 @undT_22))) := And.intro (And.intro (And.intro @agg_9 @agg_22) (And.intro @csz_9 @csz_22)) (And.intro (And.intro @esz_22 @fofs_25_0) (And.intro @fofs_25_1 @undT_22))
theorem ff_51 : type_of% (And.intro (And.intro @agg_22 @csz_22) (And.intro @fofs_25_0 (And.intro @fofs_25_1 @undT_22))) := And.intro (And.intro @agg_22 @csz_22) (And.intro @fofs_25_0 (And.intro @fofs_25_1 @undT_22))
theorem ff_52 : type_of% (And.intro (And.intro @agg_3 @csz_3) (And.intro @esz_28 (And.intro @und_3 @undT_28))) := And.intro (And.intro @agg_3 @csz_3) (And.intro @esz_28 (And.intro @und_3 @undT_28))
theorem ff_54 : type_of% (And.intro (And.intro (And.intro (And.intro @agg_3 @agg_4) (And.intro @agg_23 (And.intro @agg_28 @agg_44))) (And.intro (And.intro @csz_3 @csz_4) (And.intro @csz_23 (And.intro @csz_28 @csz_44)))) (And.intro (And.intro (And.intro @esz_23 @esz_28) (And.intro @esz_34 (And.intro @fofs_25_2 @fofs_44_0))) (And.intro (And.intro @fofs_44_1 (And.intro @isz_44 @und_3)) (And.intro @undT_23 (And.intro @undT_28 @zeroT_44))))) := And.intro (And.intro (And.intro (And.intro @agg_3 @agg_4) (And.intro @agg_23 (And.intro @agg_28 @agg_44))) (And.intro (And.intro @csz_3 @csz_4) (And.intro @csz_23 (And.intro @csz_28 @csz_44)))) (And.intro (And.intro (And.intro @esz_23 @esz_28) (And.intro @esz_34 (And.intro @fofs_25_2 @fofs_44_0))) (And.intro (And.intro @fofs_44_1 (And.intro @isz_44 @und_3)) (And.intro @undT_23 (And.intro @undT_28 @zeroT_44))))
theorem ff_55 : type_of% (And.intro (And.intro @agg_9 (And.intro @csz_9 @esz_22)) (And.intro @und_3 (And.intro @und_9 @undT_22))) := And.intro (And.intro @agg_9 (And.intro @csz_9 @esz_22)) (And.intro @und_3 (And.intro @und_9 @undT_22))
theorem ff_56 : type_of% (And.intro (And.intro @agg_44 (And.intro @csz_44 @esz_23)) (And.intro (And.intro @isz_44 @und_3) (And.intro @undT_23 @zeroT_44))) := And.intro (And.intro @agg_44 (And.intro @csz_44 @esz_23)) (And.intro (And.intro @isz_44 @und_3) (And.intro @undT_23 @zeroT_44))
theorem ff_57 : type_of% (And.intro (And.intro (And.intro @agg_3 @agg_28) (And.intro @agg_42 (And.intro @csz_3 @csz_28))) (And.intro (And.intro @csz_42 @fofs_44_0) (And.intro @fofs_44_1 (And.intro @fofs_44_2 @und_3)))) := And.intro (And.intro (And.intro @agg_3 @agg_28) (And.intro @agg_42 (And.intro @csz_3 @csz_28))) (And.intro (And.intro @csz_42 @fofs_44_0) (And.intro @fofs_44_1 (And.intro @fofs_44_2 @und_3)))
theorem ff_58 : type_of% (@und_97) := @und_97
theorem ff_60 : type_of% (@und_42) := @und_42
theorem ff_63 : type_of% (@und_5) := @und_5
theorem ff_64 : type_of% (@und_5) := @und_5
theorem ff_65 : type_of% (And.intro @und_2 @und_42) := And.intro @und_2 @und_42
theorem ff_66 : type_of% (And.intro @und_3 @und_102) := And.intro @und_3 @und_102
theorem ff_67 : type_of% (And.intro (And.intro @agg_3 (And.intro @agg_23 @csz_3)) (And.intro (And.intro @csz_23 @esz_23) (And.intro @fofs_25_2 @fofs_44_0))) := And.intro (And.intro @agg_3 (And.intro @agg_23 @csz_3)) (And.intro (And.intro @csz_23 @esz_23) (And.intro @fofs_25_2 @fofs_44_0))
theorem ff_71 : type_of% (And.intro (And.intro @und_3 @und_5) (And.intro @und_9 @undT_9)) := And.intro (And.intro @und_3 @und_5) (And.intro @und_9 @undT_9)
theorem ff_73 : type_of% (And.intro @und_5 (And.intro @und_9 @undT_9)) := And.intro @und_5 (And.intro @und_9 @undT_9)
theorem ff_74 : type_of% (And.intro @und_5 (And.intro @und_9 @undT_9)) := And.intro @und_5 (And.intro @und_9 @undT_9)
theorem ff_75 : type_of% (And.intro (And.intro @agg_4 @csz_4) (And.intro @esz_34 (And.intro @und_4 @undT_34))) := And.intro (And.intro @agg_4 @csz_4) (And.intro @esz_34 (And.intro @und_4 @undT_34))
theorem ff_76 : type_of% (And.intro @und_42 @und_97) := And.intro @und_42 @und_97
theorem ff_78 : type_of% (@und_3) := @und_3
theorem ff_82 : type_of% (@und_97) := @und_97
theorem ff_87 : type_of% (And.intro (And.intro @agg_9 @csz_9) (And.intro @esz_22 (And.intro @und_9 @undT_22))) := And.intro (And.intro @agg_9 @csz_9) (And.intro @esz_22 (And.intro @und_9 @undT_22))
theorem ff_92 : type_of% (And.intro @und_9 @undT_9) := And.intro @und_9 @undT_9
theorem ff_93 : type_of% (And.intro (And.intro @und_3 @und_5) (And.intro @und_9 (And.intro @und_42 @undT_9))) := And.intro (And.intro @und_3 @und_5) (And.intro @und_9 (And.intro @und_42 @undT_9))
theorem ff_94 : type_of% (And.intro (And.intro @und_3 (And.intro @und_5 @und_9)) (And.intro @und_102 (And.intro @undT_9 @zeroT_80))) := And.intro (And.intro @und_3 (And.intro @und_5 @und_9)) (And.intro @und_102 (And.intro @undT_9 @zeroT_80))
theorem ff_99 : type_of% (And.intro (And.intro @emk_78 (And.intro @und_3 @und_9)) (And.intro @und_42 (And.intro @und_78 @und_128))) := And.intro (And.intro @emk_78 (And.intro @und_3 @und_9)) (And.intro @und_42 (And.intro @und_78 @und_128))
theorem ff_102 : type_of% (@und_4) := @und_4
theorem ff_103 : type_of% (@undT_9) := @undT_9
theorem ff_104 : type_of% (@undT_9) := @undT_9
theorem ff_105 : type_of% (And.intro @und_102 @und_131) := And.intro @und_102 @und_131
theorem ff_110 : type_of% (And.intro (And.intro (And.intro (And.intro @agg_3 @agg_4) (And.intro @csz_3 (And.intro @csz_4 @eapp_78_9))) (And.intro (And.intro @ear_140 @ear_146) (And.intro @ear_149 (And.intro @fofs_151_0 @fofs_151_1)))) (And.intro (And.intro (And.intro @fofs_151_2 @grt_78_9) (And.intro @und_3 (And.intro @und_5 @und_12))) (And.intro (And.intro @und_42 (And.intro @und_97 @und_128)) (And.intro @und_131 (And.intro @zeroT_140 @zeroT_146))))) := And.intro (And.intro (And.intro (And.intro @agg_3 @agg_4) (And.intro @csz_3 (And.intro @csz_4 @eapp_78_9))) (And.intro (And.intro @ear_140 @ear_146) (And.intro @ear_149 (And.intro @fofs_151_0 @fofs_151_1)))) (And.intro (And.intro (And.intro @fofs_151_2 @grt_78_9) (And.intro @und_3 (And.intro @und_5 @und_12))) (And.intro (And.intro @und_42 (And.intro @und_97 @und_128)) (And.intro @und_131 (And.intro @zeroT_140 @zeroT_146))))
theorem ff_111 : type_of% (@und_97) := @und_97
theorem ff_112 : type_of% (And.intro @und_9 @undT_9) := And.intro @und_9 @undT_9
theorem ff_113 : type_of% (And.intro (And.intro @agg_3 (And.intro @csz_3 @und_3)) (And.intro @und_5 (And.intro @und_9 @undT_9))) := And.intro (And.intro @agg_3 (And.intro @csz_3 @und_3)) (And.intro @und_5 (And.intro @und_9 @undT_9))
theorem ff_121 : type_of% (And.intro (And.intro (And.intro @agg_5 @csz_5) (And.intro @eapp_78_78 (And.intro @ebs_78_1 @ebs_78_2))) (And.intro (And.intro @ebs_78_3 (And.intro @esz_78 @grt_78_78)) (And.intro @und_3 (And.intro @und_5 @undT_78)))) := And.intro (And.intro (And.intro @agg_5 @csz_5) (And.intro @eapp_78_78 (And.intro @ebs_78_1 @ebs_78_2))) (And.intro (And.intro @ebs_78_3 (And.intro @esz_78 @grt_78_78)) (And.intro @und_3 (And.intro @und_5 @undT_78)))
theorem ff_122 : type_of% (And.intro (And.intro @und_3 @und_5) (And.intro @und_9 @und_97)) := And.intro (And.intro @und_3 @und_5) (And.intro @und_9 @und_97)
theorem ff_124 : type_of% (And.intro (And.intro @agg_5 @csz_5) (And.intro @esz_78 (And.intro @und_5 @undT_78))) := And.intro (And.intro @agg_5 @csz_5) (And.intro @esz_78 (And.intro @und_5 @undT_78))
theorem ff_125 : type_of% (And.intro @agg_97 (And.intro @csz_97 @ear_168)) := And.intro @agg_97 (And.intro @csz_97 @ear_168)
theorem ff_131 : type_of% (And.intro (And.intro @und_3 @und_12) (And.intro @und_97 @zeroT_159)) := And.intro (And.intro @und_3 @und_12) (And.intro @und_97 @zeroT_159)
theorem ff_141 : type_of% (And.intro (And.intro (And.intro @agg_97 @csz_97) (And.intro @ear_179 (And.intro @fofs_159_0 @fofs_159_1))) (And.intro (And.intro @fofs_159_2 @fofs_178_0) (And.intro @fofs_178_1 (And.intro @isz_3 @isz_97)))) := And.intro (And.intro (And.intro @agg_97 @csz_97) (And.intro @ear_179 (And.intro @fofs_159_0 @fofs_159_1))) (And.intro (And.intro @fofs_159_2 @fofs_178_0) (And.intro @fofs_178_1 (And.intro @isz_3 @isz_97)))
theorem ff_143 : type_of% (And.intro (And.intro (And.intro @agg_3 @agg_97) (And.intro @csz_3 @csz_97)) (And.intro (And.intro @fofs_159_0 @fofs_159_1) (And.intro @fofs_159_2 @und_97))) := And.intro (And.intro (And.intro @agg_3 @agg_97) (And.intro @csz_3 @csz_97)) (And.intro (And.intro @fofs_159_0 @fofs_159_1) (And.intro @fofs_159_2 @und_97))
theorem ff_144 : type_of% (And.intro @und_3 @und_162) := And.intro @und_3 @und_162
theorem ff_148 : type_of% (And.intro (And.intro @esz_78 (And.intro @isz_5 @und_5)) (And.intro (And.intro @und_9 @und_97) (And.intro @und_131 @undT_78))) := And.intro (And.intro @esz_78 (And.intro @isz_5 @und_5)) (And.intro (And.intro @und_9 @und_97) (And.intro @und_131 @undT_78))
end Go.Proofs.YtihjaobjhmmboaaGreatDoor

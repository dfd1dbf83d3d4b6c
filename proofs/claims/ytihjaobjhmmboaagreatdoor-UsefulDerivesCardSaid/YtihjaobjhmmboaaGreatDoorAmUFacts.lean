/- A part of a proof. Its conditions: none. -/
import Derived.Test.YtihjaobjhmmboaaGreatDoorAmD
import Derived.Test.YtihjaobjhmmboaaGreatDoorRows
import Derived.KernelRfl
set_option linter.all false
namespace Go.Proofs.YtihjaobjhmmboaaGreatDoor
open Go.AM
def fns : List Nat := [3, 4, 5, 6, 7, 8, 9, 10, 11, 12, 13, 14, 15, 16, 17, 18, 19, 20, 21, 22, 23, 24, 25, 26, 27, 28, 29, 30, 31, 32, 33, 34, 35, 36, 37, 38, 39, 40, 41, 42, 43, 44, 45, 46, 47, 48, 49, 50, 51, 52, 53, 54, 55, 56, 57, 58, 59, 60, 61, 62, 63, 64, 65, 66, 67, 68, 69, 70, 71, 72, 73, 74, 75, 76, 77, 78, 79, 80, 81, 82, 83, 84, 85, 86, 87, 88, 89, 90, 91, 92, 93, 94, 95, 98, 99, 101, 102, 103, 104, 105, 106, 107, 108, 109, 110, 111, 112, 113, 114, 115, 116, 119, 120, 121, 122, 123, 124, 125, 126, 127, 128, 129, 130, 131, 132, 134, 135, 137, 138, 139, 140, 141, 142, 143, 144, 145, 146, 147, 148, 149, 150, 151, 152, 153, 154, 155, 156, 157, 159, 160, 161, 162, 163, 164, 165, 166, 167, 168]
theorem fns_ok : fns.all (fnOKb Tryz.prog) = true := by kernel_rfl
theorem orders : Tryz.prog.follows .mixedOrders = true := by kernel_rfl
theorem agg_3 : aggT Tryz.prog 3 = some false := by kernel_rfl
theorem agg_4 : aggT Tryz.prog 4 = some false := by kernel_rfl
theorem agg_5 : aggT Tryz.prog 5 = some false := by kernel_rfl
theorem agg_9 : aggT Tryz.prog 9 = some false := by kernel_rfl
theorem agg_22 : aggT Tryz.prog 22 = some false := by kernel_rfl
theorem agg_23 : aggT Tryz.prog 23 = some false := by kernel_rfl
theorem agg_25 : aggT Tryz.prog 25 = some true := by kernel_rfl
theorem agg_28 : aggT Tryz.prog 28 = some false := by kernel_rfl
theorem agg_34 : aggT Tryz.prog 34 = some false := by kernel_rfl
theorem agg_42 : aggT Tryz.prog 42 = some false := by kernel_rfl
theorem agg_44 : aggT Tryz.prog 44 = some true := by kernel_rfl
theorem agg_77 : aggT Tryz.prog 77 = some false := by kernel_rfl
theorem agg_78 : aggT Tryz.prog 78 = some false := by kernel_rfl
theorem agg_97 : aggT Tryz.prog 97 = some false := by kernel_rfl
theorem agg_184 : aggT Tryz.prog 184 = some false := by kernel_rfl
theorem csz_3 : Program.cellsOf Tryz.prog 3 = 1 := by kernel_rfl
theorem csz_4 : Program.cellsOf Tryz.prog 4 = 1 := by kernel_rfl
theorem csz_5 : Program.cellsOf Tryz.prog 5 = 1 := by kernel_rfl
theorem csz_9 : Program.cellsOf Tryz.prog 9 = 1 := by kernel_rfl
theorem csz_22 : Program.cellsOf Tryz.prog 22 = 1 := by kernel_rfl
theorem csz_23 : Program.cellsOf Tryz.prog 23 = 1 := by kernel_rfl
theorem csz_25 : Program.cellsOf Tryz.prog 25 = 3 := by kernel_rfl
theorem csz_28 : Program.cellsOf Tryz.prog 28 = 1 := by kernel_rfl
theorem csz_34 : Program.cellsOf Tryz.prog 34 = 1 := by kernel_rfl
theorem csz_42 : Program.cellsOf Tryz.prog 42 = 1 := by kernel_rfl
theorem csz_44 : Program.cellsOf Tryz.prog 44 = 3 := by kernel_rfl
theorem csz_77 : Program.cellsOf Tryz.prog 77 = 1 := by kernel_rfl
theorem csz_78 : Program.cellsOf Tryz.prog 78 = 1 := by kernel_rfl
theorem csz_97 : Program.cellsOf Tryz.prog 97 = 1 := by kernel_rfl
theorem csz_184 : Program.cellsOf Tryz.prog 184 = 1 := by kernel_rfl
theorem eapp_22_22 : eapp Tryz.prog #[22, 22] = some (9, 1) := by kernel_rfl
theorem eapp_23_23 : eapp Tryz.prog #[23, 23] = some (44, 3) := by kernel_rfl
theorem eapp_28_28 : eapp Tryz.prog #[28, 28] = some (3, 1) := by kernel_rfl
theorem eapp_34_34 : eapp Tryz.prog #[34, 34] = some (4, 1) := by kernel_rfl
theorem eapp_78_9 : eapp Tryz.prog #[78, 9] = some (5, 1) := by kernel_rfl
theorem eapp_78_78 : eapp Tryz.prog #[78, 78] = some (5, 1) := by kernel_rfl
theorem ear_140 : earr Tryz.prog 140 = some (5, 1, 32) := by kernel_rfl
theorem ear_146 : earr Tryz.prog 146 = some (5, 1, 24) := by kernel_rfl
theorem ear_149 : earr Tryz.prog 149 = some (5, 1, 800) := by kernel_rfl
theorem ear_168 : earr Tryz.prog 168 = some (97, 1, 20) := by kernel_rfl
theorem ear_179 : earr Tryz.prog 179 = some (178, 2, 696) := by kernel_rfl
theorem ear_186 : earr Tryz.prog 186 = some (5, 1, 65) := by kernel_rfl
theorem ear_189 : earr Tryz.prog 189 = some (5, 1, 64) := by kernel_rfl
theorem ebd_25 : ebd Tryz.prog 25 = some ([Value.slice none 0 0, Value.slice none 0 0, Value.slice none 0 0], [(0, 1), (1, 1), (2, 1)]) := by kernel_rfl
theorem ebd_44 : ebd Tryz.prog 44 = some ([Value.int IntKind.i64 (Int.ofNat 0), Value.slice none 0 0, Value.float FloatKind.f64 0], [(0, 1), (1, 1), (2, 1)]) := by kernel_rfl
theorem ebd_104 : ebd Tryz.prog 104 = some ([Value.slice none 0 0, Value.slice none 0 0, Value.slice none 0 0, Value.slice none 0 0, Value.slice none 0 0], [(0, 3), (3, 1), (4, 1)]) := by kernel_rfl
theorem ebs_22_1 : ebs Tryz.prog 22 1 = some (9, 1, [Value.string { data := { toList := [] } }]) := by kernel_rfl
theorem ebs_22_2 : ebs Tryz.prog 22 2 = some (9, 1, [Value.string { data := { toList := [] } }]) := by kernel_rfl
theorem ebs_22_4 : ebs Tryz.prog 22 4 = some (9, 1, [Value.string { data := { toList := [] } }]) := by kernel_rfl
theorem ebs_23_0 : ebs Tryz.prog 23 0 = some (44, 3, [Value.int IntKind.i64 (Int.ofNat 0), Value.slice none 0 0, Value.float FloatKind.f64 0]) := by kernel_rfl
theorem ebs_23_1 : ebs Tryz.prog 23 1 = some (44, 3, [Value.int IntKind.i64 (Int.ofNat 0), Value.slice none 0 0, Value.float FloatKind.f64 0]) := by kernel_rfl
theorem ebs_23_6 : ebs Tryz.prog 23 6 = some (44, 3, [Value.int IntKind.i64 (Int.ofNat 0), Value.slice none 0 0, Value.float FloatKind.f64 0]) := by kernel_rfl
theorem ebs_28_0 : ebs Tryz.prog 28 0 = some (3, 1, [Value.int IntKind.i64 (Int.ofNat 0)]) := by kernel_rfl
theorem ebs_28_1 : ebs Tryz.prog 28 1 = some (3, 1, [Value.int IntKind.i64 (Int.ofNat 0)]) := by kernel_rfl
theorem ebs_28_2 : ebs Tryz.prog 28 2 = some (3, 1, [Value.int IntKind.i64 (Int.ofNat 0)]) := by kernel_rfl
theorem ebs_34_0 : ebs Tryz.prog 34 0 = some (4, 1, [Value.bool false]) := by kernel_rfl
theorem ebs_34_4 : ebs Tryz.prog 34 4 = some (4, 1, [Value.bool false]) := by kernel_rfl
theorem ebs_78_1 : ebs Tryz.prog 78 1 = some (5, 1, [Value.int IntKind.u8 (Int.ofNat 0)]) := by kernel_rfl
theorem ebs_78_2 : ebs Tryz.prog 78 2 = some (5, 1, [Value.int IntKind.u8 (Int.ofNat 0)]) := by kernel_rfl
theorem ebs_78_3 : ebs Tryz.prog 78 3 = some (5, 1, [Value.int IntKind.u8 (Int.ofNat 0)]) := by kernel_rfl
theorem ebs_78_4 : ebs Tryz.prog 78 4 = some (5, 1, [Value.int IntKind.u8 (Int.ofNat 0)]) := by kernel_rfl
theorem emk_28 : emk Tryz.prog 28 = some (3, [Value.int IntKind.i64 (Int.ofNat 0)]) := by kernel_rfl
theorem emk_34 : emk Tryz.prog 34 = some (4, [Value.bool false]) := by kernel_rfl
theorem emk_78 : emk Tryz.prog 78 = some (5, [Value.int IntKind.u8 (Int.ofNat 0)]) := by kernel_rfl
theorem esz_22 : esz Tryz.prog 22 = some (9, 1) := by kernel_rfl
theorem esz_23 : esz Tryz.prog 23 = some (44, 3) := by kernel_rfl
theorem esz_28 : esz Tryz.prog 28 = some (3, 1) := by kernel_rfl
theorem esz_34 : esz Tryz.prog 34 = some (4, 1) := by kernel_rfl
theorem esz_78 : esz Tryz.prog 78 = some (5, 1) := by kernel_rfl
theorem esz_184 : esz Tryz.prog 184 = some (183, 2) := by kernel_rfl
theorem fofs_25_0 : fofs Tryz.prog 25 0 = some 0 := by kernel_rfl
theorem fofs_25_1 : fofs Tryz.prog 25 1 = some 1 := by kernel_rfl
theorem fofs_25_2 : fofs Tryz.prog 25 2 = some 2 := by kernel_rfl
theorem fofs_44_0 : fofs Tryz.prog 44 0 = some 0 := by kernel_rfl
theorem fofs_44_1 : fofs Tryz.prog 44 1 = some 1 := by kernel_rfl
theorem fofs_44_2 : fofs Tryz.prog 44 2 = some 2 := by kernel_rfl
theorem fofs_80_0 : fofs Tryz.prog 80 0 = some 0 := by kernel_rfl
theorem fofs_80_1 : fofs Tryz.prog 80 1 = some 1 := by kernel_rfl
theorem fofs_104_0 : fofs Tryz.prog 104 0 = some 0 := by kernel_rfl
theorem fofs_104_1 : fofs Tryz.prog 104 1 = some 3 := by kernel_rfl
theorem fofs_104_2 : fofs Tryz.prog 104 2 = some 4 := by kernel_rfl
theorem fofs_151_0 : fofs Tryz.prog 151 0 = some 0 := by kernel_rfl
theorem fofs_151_1 : fofs Tryz.prog 151 1 = some 800 := by kernel_rfl
theorem fofs_151_2 : fofs Tryz.prog 151 2 = some 801 := by kernel_rfl
theorem fofs_151_4 : fofs Tryz.prog 151 4 = some 803 := by kernel_rfl
theorem fofs_159_0 : fofs Tryz.prog 159 0 = some 0 := by kernel_rfl
theorem fofs_159_1 : fofs Tryz.prog 159 1 = some 1 := by kernel_rfl
theorem fofs_159_2 : fofs Tryz.prog 159 2 = some 2 := by kernel_rfl
theorem fofs_178_0 : fofs Tryz.prog 178 0 = some 0 := by kernel_rfl
theorem fofs_178_1 : fofs Tryz.prog 178 1 = some 1 := by kernel_rfl
theorem fofs_183_0 : fofs Tryz.prog 183 0 = some 0 := by kernel_rfl
theorem fofs_183_1 : fofs Tryz.prog 183 1 = some 1 := by kernel_rfl
theorem isz_3 : isz Tryz.prog 3 = some 1 := by kernel_rfl
theorem isz_4 : isz Tryz.prog 4 = some 1 := by kernel_rfl
theorem isz_5 : isz Tryz.prog 5 = some 1 := by kernel_rfl
theorem isz_22 : isz Tryz.prog 22 = some 1 := by kernel_rfl
theorem isz_23 : isz Tryz.prog 23 = some 1 := by kernel_rfl
theorem isz_25 : isz Tryz.prog 25 = some 3 := by kernel_rfl
theorem isz_28 : isz Tryz.prog 28 = some 1 := by kernel_rfl
theorem isz_34 : isz Tryz.prog 34 = some 1 := by kernel_rfl
theorem isz_44 : isz Tryz.prog 44 = some 3 := by kernel_rfl
theorem isz_77 : isz Tryz.prog 77 = some 1 := by kernel_rfl
theorem isz_78 : isz Tryz.prog 78 = some 1 := by kernel_rfl
theorem isz_97 : isz Tryz.prog 97 = some 1 := by kernel_rfl
theorem und_2 : Program.underlying Tryz.prog 2 = some (TypeDesc.int IntKind.i64) := by kernel_rfl
theorem und_3 : Program.underlying Tryz.prog 3 = some (TypeDesc.int IntKind.i64) := by kernel_rfl
theorem und_4 : Program.underlying Tryz.prog 4 = some TypeDesc.bool := by kernel_rfl
theorem und_5 : Program.underlying Tryz.prog 5 = some (TypeDesc.int IntKind.u8) := by kernel_rfl
theorem und_9 : Program.underlying Tryz.prog 9 = some TypeDesc.string := by kernel_rfl
theorem und_12 : Program.underlying Tryz.prog 12 = some (TypeDesc.int IntKind.u64) := by kernel_rfl
theorem und_39 : Program.underlying Tryz.prog 39 = some (TypeDesc.int IntKind.i64) := by kernel_rfl
theorem und_42 : Program.underlying Tryz.prog 42 = some (TypeDesc.float FloatKind.f64) := by kernel_rfl
theorem und_77 : Program.underlying Tryz.prog 77 = some (TypeDesc.pointer 80) := by kernel_rfl
theorem und_78 : Program.underlying Tryz.prog 78 = some (TypeDesc.slice 5) := by kernel_rfl
theorem und_97 : Program.underlying Tryz.prog 97 = some (TypeDesc.int IntKind.u64) := by kernel_rfl
theorem und_102 : Program.underlying Tryz.prog 102 = some (TypeDesc.int IntKind.u64) := by kernel_rfl
theorem und_116 : Program.underlying Tryz.prog 116 = some TypeDesc.unsafePointer := by kernel_rfl
theorem und_128 : Program.underlying Tryz.prog 128 = some (TypeDesc.float FloatKind.f32) := by kernel_rfl
theorem und_131 : Program.underlying Tryz.prog 131 = some (TypeDesc.int IntKind.u32) := by kernel_rfl
theorem und_162 : Program.underlying Tryz.prog 162 = some (TypeDesc.int IntKind.u64) := by kernel_rfl
theorem undT_9 : undT Tryz.prog #[9] = some TypeDesc.string := by kernel_rfl
theorem undT_22 : undT Tryz.prog #[22] = some (TypeDesc.slice 9) := by kernel_rfl
theorem undT_23 : undT Tryz.prog #[23] = some (TypeDesc.slice 44) := by kernel_rfl
theorem undT_28 : undT Tryz.prog #[28] = some (TypeDesc.slice 3) := by kernel_rfl
theorem undT_34 : undT Tryz.prog #[34] = some (TypeDesc.slice 4) := by kernel_rfl
theorem undT_78 : undT Tryz.prog #[78] = some (TypeDesc.slice 5) := by kernel_rfl
theorem zeroT_25 : zeroT Tryz.prog 25 = some (Value.agg { toList := [Value.slice none 0 0, Value.slice none 0 0, Value.slice none 0 0] }) := by kernel_rfl
theorem zeroT_34 : zeroT Tryz.prog 34 = some (Value.slice none 0 0) := by kernel_rfl
theorem zeroT_44 : zeroT Tryz.prog 44 = some (Value.agg { toList := [Value.int IntKind.i64 (Int.ofNat 0), Value.slice none 0 0, Value.float FloatKind.f64 0] }) := by kernel_rfl
theorem zeroT_80 : zeroT Tryz.prog 80 = some (Value.agg { toList := [Value.pointer none, Value.slice none 0 0] }) := by kernel_rfl
theorem zeroT_140 : zeroT Tryz.prog 140 = some (Value.agg { toList := [Value.int IntKind.u8 (Int.ofNat 0), Value.int IntKind.u8 (Int.ofNat 0), Value.int IntKind.u8 (Int.ofNat 0), Value.int IntKind.u8 (Int.ofNat 0), Value.int IntKind.u8 (Int.ofNat 0), Value.int IntKind.u8 (Int.ofNat 0), Value.int IntKind.u8 (Int.ofNat 0), Value.int IntKind.u8 (Int.ofNat 0), Value.int IntKind.u8 (Int.ofNat 0), Value.int IntKind.u8 (Int.ofNat 0), Value.int IntKind.u8 (Int.ofNat 0), Value.int IntKind.u8 (Int.ofNat 0), Value.int IntKind.u8 (Int.ofNat 0), Value.int IntKind.u8 (Int.ofNat 0), Value.int IntKind.u8 (Int.ofNat 0), Value.int IntKind.u8 (Int.ofNat 0), Value.int IntKind.u8 (Int.ofNat 0), Value.int IntKind.u8 (Int.ofNat 0), Value.int IntKind.u8 (Int.ofNat 0), Value.int IntKind.u8 (Int.ofNat 0), Value.int IntKind.u8 (Int.ofNat 0), Value.int IntKind.u8 (Int.ofNat 0), Value.int IntKind.u8 (Int.ofNat 0), Value.int IntKind.u8 (Int.ofNat 0), Value.int IntKind.u8 (Int.ofNat 0), Value.int IntKind.u8 (Int.ofNat 0), Value.int IntKind.u8 (Int.ofNat 0), Value.int IntKind.u8 (Int.ofNat 0), Value.int IntKind.u8 (Int.ofNat 0), Value.int IntKind.u8 (Int.ofNat 0), Value.int IntKind.u8 (Int.ofNat 0), Value.int IntKind.u8 (Int.ofNat 0)] }) := by kernel_rfl
theorem zeroT_146 : zeroT Tryz.prog 146 = some (Value.agg { toList := [Value.int IntKind.u8 (Int.ofNat 0), Value.int IntKind.u8 (Int.ofNat 0), Value.int IntKind.u8 (Int.ofNat 0), Value.int IntKind.u8 (Int.ofNat 0), Value.int IntKind.u8 (Int.ofNat 0), Value.int IntKind.u8 (Int.ofNat 0), Value.int IntKind.u8 (Int.ofNat 0), Value.int IntKind.u8 (Int.ofNat 0), Value.int IntKind.u8 (Int.ofNat 0), Value.int IntKind.u8 (Int.ofNat 0), Value.int IntKind.u8 (Int.ofNat 0), Value.int IntKind.u8 (Int.ofNat 0), Value.int IntKind.u8 (Int.ofNat 0), Value.int IntKind.u8 (Int.ofNat 0), Value.int IntKind.u8 (Int.ofNat 0), Value.int IntKind.u8 (Int.ofNat 0), Value.int IntKind.u8 (Int.ofNat 0), Value.int IntKind.u8 (Int.ofNat 0), Value.int IntKind.u8 (Int.ofNat 0), Value.int IntKind.u8 (Int.ofNat 0), Value.int IntKind.u8 (Int.ofNat 0), Value.int IntKind.u8 (Int.ofNat 0), Value.int IntKind.u8 (Int.ofNat 0), Value.int IntKind.u8 (Int.ofNat 0)] }) := by kernel_rfl
theorem zeroT_159 : zeroT Tryz.prog 159 = some (Value.agg { toList := [Value.int IntKind.u64 (Int.ofNat 0), Value.int IntKind.u64 (Int.ofNat 0), Value.int IntKind.i64 (Int.ofNat 0)] }) := by kernel_rfl
theorem zeroT_186 : zeroT Tryz.prog 186 = some (Value.agg { toList := [Value.int IntKind.u8 (Int.ofNat 0), Value.int IntKind.u8 (Int.ofNat 0), Value.int IntKind.u8 (Int.ofNat 0), Value.int IntKind.u8 (Int.ofNat 0), Value.int IntKind.u8 (Int.ofNat 0), Value.int IntKind.u8 (Int.ofNat 0), Value.int IntKind.u8 (Int.ofNat 0), Value.int IntKind.u8 (Int.ofNat 0), Value.int IntKind.u8 (Int.ofNat 0), Value.int IntKind.u8 (Int.ofNat 0), Value.int IntKind.u8 (Int.ofNat 0), Value.int IntKind.u8 (Int.ofNat 0), Value.int IntKind.u8 (Int.ofNat 0), Value.int IntKind.u8 (Int.ofNat 0), Value.int IntKind.u8 (Int.ofNat 0), Value.int IntKind.u8 (Int.ofNat 0), Value.int IntKind.u8 (Int.ofNat 0), Value.int IntKind.u8 (Int.ofNat 0), Value.int IntKind.u8 (Int.ofNat 0), Value.int IntKind.u8 (Int.ofNat 0), Value.int IntKind.u8 (Int.ofNat 0), Value.int IntKind.u8 (Int.ofNat 0), Value.int IntKind.u8 (Int.ofNat 0), Value.int IntKind.u8 (Int.ofNat 0), Value.int IntKind.u8 (Int.ofNat 0), Value.int IntKind.u8 (Int.ofNat 0), Value.int IntKind.u8 (Int.ofNat 0), Value.int IntKind.u8 (Int.ofNat 0), Value.int IntKind.u8 (Int.ofNat 0), Value.int IntKind.u8 (Int.ofNat 0), Value.int IntKind.u8 (Int.ofNat 0), Value.int IntKind.u8 (Int.ofNat 0), Value.int IntKind.u8 (Int.ofNat 0), Value.int IntKind.u8 (Int.ofNat 0), Value.int IntKind.u8 (Int.ofNat 0), Value.int IntKind.u8 (Int.ofNat 0), Value.int IntKind.u8 (Int.ofNat 0), Value.int IntKind.u8 (Int.ofNat 0), Value.int IntKind.u8 (Int.ofNat 0), Value.int IntKind.u8 (Int.ofNat 0), Value.int IntKind.u8 (Int.ofNat 0), Value.int IntKind.u8 (Int.ofNat 0), Value.int IntKind.u8 (Int.ofNat 0), Value.int IntKind.u8 (Int.ofNat 0), Value.int IntKind.u8 (Int.ofNat 0), Value.int IntKind.u8 (Int.ofNat 0), Value.int IntKind.u8 (Int.ofNat 0), Value.int IntKind.u8 (Int.ofNat 0), Value.int IntKind.u8 (Int.ofNat 0), Value.int IntKind.u8 (Int.ofNat 0), Value.int IntKind.u8 (Int.ofNat 0), Value.int IntKind.u8 (Int.ofNat 0), Value.int IntKind.u8 (Int.ofNat 0), Value.int IntKind.u8 (Int.ofNat 0), Value.int IntKind.u8 (Int.ofNat 0), Value.int IntKind.u8 (Int.ofNat 0), Value.int IntKind.u8 (Int.ofNat 0), Value.int IntKind.u8 (Int.ofNat 0), Value.int IntKind.u8 (Int.ofNat 0), Value.int IntKind.u8 (Int.ofNat 0), Value.int IntKind.u8 (Int.ofNat 0), Value.int IntKind.u8 (Int.ofNat 0), Value.int IntKind.u8 (Int.ofNat 0), Value.int IntKind.u8 (Int.ofNat 0), Value.int IntKind.u8 (Int.ofNat 0)] }) := by kernel_rfl
theorem ok3 : FnOK Tryz.prog 3 Tryz.f3 (Tryz.f3.body.getD .skip) := fnOK_of fns_ok 3 _ _ (by kernel_rfl) Tryz.func3 rfl
theorem ok4 : FnOK Tryz.prog 4 Tryz.f4 (Tryz.f4.body.getD .skip) := fnOK_of fns_ok 4 _ _ (by kernel_rfl) Tryz.func4 rfl
theorem ok5 : FnOK Tryz.prog 5 Tryz.f5 (Tryz.f5.body.getD .skip) := fnOK_of fns_ok 5 _ _ (by kernel_rfl) Tryz.func5 rfl
theorem ok6 : FnOK Tryz.prog 6 Tryz.f6 (Tryz.f6.body.getD .skip) := fnOK_of fns_ok 6 _ _ (by kernel_rfl) Tryz.func6 rfl
theorem ok7 : FnOK Tryz.prog 7 Tryz.f7 (Tryz.f7.body.getD .skip) := fnOK_of fns_ok 7 _ _ (by kernel_rfl) Tryz.func7 rfl
theorem ok8 : FnOK Tryz.prog 8 Tryz.f8 (Tryz.f8.body.getD .skip) := fnOK_of fns_ok 8 _ _ (by kernel_rfl) Tryz.func8 rfl
theorem ok9 : FnOK Tryz.prog 9 Tryz.f9 (Tryz.f9.body.getD .skip) := fnOK_of fns_ok 9 _ _ (by kernel_rfl) Tryz.func9 rfl
theorem ok10 : FnOK Tryz.prog 10 Tryz.f10 (Tryz.f10.body.getD .skip) := fnOK_of fns_ok 10 _ _ (by kernel_rfl) Tryz.func10 rfl
theorem ok11 : FnOK Tryz.prog 11 Tryz.f11 (Tryz.f11.body.getD .skip) := fnOK_of fns_ok 11 _ _ (by kernel_rfl) Tryz.func11 rfl
theorem ok12 : FnOK Tryz.prog 12 Tryz.f12 (Tryz.f12.body.getD .skip) := fnOK_of fns_ok 12 _ _ (by kernel_rfl) Tryz.func12 rfl
theorem ok13 : FnOK Tryz.prog 13 Tryz.f13 (Tryz.f13.body.getD .skip) := fnOK_of fns_ok 13 _ _ (by kernel_rfl) Tryz.func13 rfl
theorem ok14 : FnOK Tryz.prog 14 Tryz.f14 (Tryz.f14.body.getD .skip) := fnOK_of fns_ok 14 _ _ (by kernel_rfl) Tryz.func14 rfl
theorem ok15 : FnOK Tryz.prog 15 Tryz.f15 (Tryz.f15.body.getD .skip) := fnOK_of fns_ok 15 _ _ (by kernel_rfl) Tryz.func15 rfl
theorem ok16 : FnOK Tryz.prog 16 Tryz.f16 (Tryz.f16.body.getD .skip) := fnOK_of fns_ok 16 _ _ (by kernel_rfl) Tryz.func16 rfl
theorem ok17 : FnOK Tryz.prog 17 Tryz.f17 (Tryz.f17.body.getD .skip) := fnOK_of fns_ok 17 _ _ (by kernel_rfl) Tryz.func17 rfl
theorem ok18 : FnOK Tryz.prog 18 Tryz.f18 (Tryz.f18.body.getD .skip) := fnOK_of fns_ok 18 _ _ (by kernel_rfl) Tryz.func18 rfl
theorem ok19 : FnOK Tryz.prog 19 Tryz.f19 (Tryz.f19.body.getD .skip) := fnOK_of fns_ok 19 _ _ (by kernel_rfl) Tryz.func19 rfl
theorem ok20 : FnOK Tryz.prog 20 Tryz.f20 (Tryz.f20.body.getD .skip) := fnOK_of fns_ok 20 _ _ (by kernel_rfl) Tryz.func20 rfl
theorem ok21 : FnOK Tryz.prog 21 Tryz.f21 (Tryz.f21.body.getD .skip) := fnOK_of fns_ok 21 _ _ (by kernel_rfl) Tryz.func21 rfl
theorem ok22 : FnOK Tryz.prog 22 Tryz.f22 (Tryz.f22.body.getD .skip) := fnOK_of fns_ok 22 _ _ (by kernel_rfl) Tryz.func22 rfl
theorem ok23 : FnOK Tryz.prog 23 Tryz.f23 (Tryz.f23.body.getD .skip) := fnOK_of fns_ok 23 _ _ (by kernel_rfl) Tryz.func23 rfl
theorem ok24 : FnOK Tryz.prog 24 Tryz.f24 (Tryz.f24.body.getD .skip) := fnOK_of fns_ok 24 _ _ (by kernel_rfl) Tryz.func24 rfl
theorem ok25 : FnOK Tryz.prog 25 Tryz.f25 (Tryz.f25.body.getD .skip) := fnOK_of fns_ok 25 _ _ (by kernel_rfl) Tryz.func25 rfl
theorem ok26 : FnOK Tryz.prog 26 Tryz.f26 (Tryz.f26.body.getD .skip) := fnOK_of fns_ok 26 _ _ (by kernel_rfl) Tryz.func26 rfl
theorem ok27 : FnOK Tryz.prog 27 Tryz.f27 (Tryz.f27.body.getD .skip) := fnOK_of fns_ok 27 _ _ (by kernel_rfl) Tryz.func27 rfl
theorem ok28 : FnOK Tryz.prog 28 Tryz.f28 (Tryz.f28.body.getD .skip) := fnOK_of fns_ok 28 _ _ (by kernel_rfl) Tryz.func28 rfl
theorem ok29 : FnOK Tryz.prog 29 Tryz.f29 (Tryz.f29.body.getD .skip) := fnOK_of fns_ok 29 _ _ (by kernel_rfl) Tryz.func29 rfl
theorem ok30 : FnOK Tryz.prog 30 Tryz.f30 (Tryz.f30.body.getD .skip) := fnOK_of fns_ok 30 _ _ (by kernel_rfl) Tryz.func30 rfl
theorem ok31 : FnOK Tryz.prog 31 Tryz.f31 (Tryz.f31.body.getD .skip) := fnOK_of fns_ok 31 _ _ (by kernel_rfl) Tryz.func31 rfl
theorem ok32 : FnOK Tryz.prog 32 Tryz.f32 (Tryz.f32.body.getD .skip) := fnOK_of fns_ok 32 _ _ (by kernel_rfl) Tryz.func32 rfl
theorem ok33 : FnOK Tryz.prog 33 Tryz.f33 (Tryz.f33.body.getD .skip) := fnOK_of fns_ok 33 _ _ (by kernel_rfl) Tryz.func33 rfl
theorem ok34 : FnOK Tryz.prog 34 Tryz.f34 (Tryz.f34.body.getD .skip) := fnOK_of fns_ok 34 _ _ (by kernel_rfl) Tryz.func34 rfl
theorem ok35 : FnOK Tryz.prog 35 Tryz.f35 (Tryz.f35.body.getD .skip) := fnOK_of fns_ok 35 _ _ (by kernel_rfl) Tryz.func35 rfl
theorem ok36 : FnOK Tryz.prog 36 Tryz.f36 (Tryz.f36.body.getD .skip) := fnOK_of fns_ok 36 _ _ (by kernel_rfl) Tryz.func36 rfl
theorem ok37 : FnOK Tryz.prog 37 Tryz.f37 (Tryz.f37.body.getD .skip) := fnOK_of fns_ok 37 _ _ (by kernel_rfl) Tryz.func37 rfl
theorem ok38 : FnOK Tryz.prog 38 Tryz.f38 (Tryz.f38.body.getD .skip) := fnOK_of fns_ok 38 _ _ (by kernel_rfl) Tryz.func38 rfl
theorem ok39 : FnOK Tryz.prog 39 Tryz.f39 (Tryz.f39.body.getD .skip) := fnOK_of fns_ok 39 _ _ (by kernel_rfl) Tryz.func39 rfl
theorem ok40 : FnOK Tryz.prog 40 Tryz.f40 (Tryz.f40.body.getD .skip) := fnOK_of fns_ok 40 _ _ (by kernel_rfl) Tryz.func40 rfl
theorem ok41 : FnOK Tryz.prog 41 Tryz.f41 (Tryz.f41.body.getD .skip) := fnOK_of fns_ok 41 _ _ (by kernel_rfl) Tryz.func41 rfl
theorem ok42 : FnOK Tryz.prog 42 Tryz.f42 (Tryz.f42.body.getD .skip) := fnOK_of fns_ok 42 _ _ (by kernel_rfl) Tryz.func42 rfl
theorem ok43 : FnOK Tryz.prog 43 Tryz.f43 (Tryz.f43.body.getD .skip) := fnOK_of fns_ok 43 _ _ (by kernel_rfl) Tryz.func43 rfl
theorem ok44 : FnOK Tryz.prog 44 Tryz.f44 (Tryz.f44.body.getD .skip) := fnOK_of fns_ok 44 _ _ (by kernel_rfl) Tryz.func44 rfl
theorem ok45 : FnOK Tryz.prog 45 Tryz.f45 (Tryz.f45.body.getD .skip) := fnOK_of fns_ok 45 _ _ (by kernel_rfl) Tryz.func45 rfl
theorem ok46 : FnOK Tryz.prog 46 Tryz.f46 (Tryz.f46.body.getD .skip) := fnOK_of fns_ok 46 _ _ (by kernel_rfl) Tryz.func46 rfl
theorem ok47 : FnOK Tryz.prog 47 Tryz.f47 (Tryz.f47.body.getD .skip) := fnOK_of fns_ok 47 _ _ (by kernel_rfl) Tryz.func47 rfl
theorem ok48 : FnOK Tryz.prog 48 Tryz.f48 (Tryz.f48.body.getD .skip) := fnOK_of fns_ok 48 _ _ (by kernel_rfl) Tryz.func48 rfl
theorem ok49 : FnOK Tryz.prog 49 Tryz.f49 (Tryz.f49.body.getD .skip) := fnOK_of fns_ok 49 _ _ (by kernel_rfl) Tryz.func49 rfl
theorem ok50 : FnOK Tryz.prog 50 Tryz.f50 (Tryz.f50.body.getD .skip) := fnOK_of fns_ok 50 _ _ (by kernel_rfl) Tryz.func50 rfl
theorem ok51 : FnOK Tryz.prog 51 Tryz.f51 (Tryz.f51.body.getD .skip) := fnOK_of fns_ok 51 _ _ (by kernel_rfl) Tryz.func51 rfl
theorem ok52 : FnOK Tryz.prog 52 Tryz.f52 (Tryz.f52.body.getD .skip) := fnOK_of fns_ok 52 _ _ (by kernel_rfl) Tryz.func52 rfl
theorem ok53 : FnOK Tryz.prog 53 Tryz.f53 (Tryz.f53.body.getD .skip) := fnOK_of fns_ok 53 _ _ (by kernel_rfl) Tryz.func53 rfl
theorem ok54 : FnOK Tryz.prog 54 Tryz.f54 (Tryz.f54.body.getD .skip) := fnOK_of fns_ok 54 _ _ (by kernel_rfl) Tryz.func54 rfl
theorem ok55 : FnOK Tryz.prog 55 Tryz.f55 (Tryz.f55.body.getD .skip) := fnOK_of fns_ok 55 _ _ (by kernel_rfl) Tryz.func55 rfl
theorem ok56 : FnOK Tryz.prog 56 Tryz.f56 (Tryz.f56.body.getD .skip) := fnOK_of fns_ok 56 _ _ (by kernel_rfl) Tryz.func56 rfl
theorem ok57 : FnOK Tryz.prog 57 Tryz.f57 (Tryz.f57.body.getD .skip) := fnOK_of fns_ok 57 _ _ (by kernel_rfl) Tryz.func57 rfl
theorem ok58 : FnOK Tryz.prog 58 Tryz.f58 (Tryz.f58.body.getD .skip) := fnOK_of fns_ok 58 _ _ (by kernel_rfl) Tryz.func58 rfl
theorem ok59 : FnOK Tryz.prog 59 Tryz.f59 (Tryz.f59.body.getD .skip) := fnOK_of fns_ok 59 _ _ (by kernel_rfl) Tryz.func59 rfl
theorem ok60 : FnOK Tryz.prog 60 Tryz.f60 (Tryz.f60.body.getD .skip) := fnOK_of fns_ok 60 _ _ (by kernel_rfl) Tryz.func60 rfl
theorem ok61 : FnOK Tryz.prog 61 Tryz.f61 (Tryz.f61.body.getD .skip) := fnOK_of fns_ok 61 _ _ (by kernel_rfl) Tryz.func61 rfl
theorem ok62 : FnOK Tryz.prog 62 Tryz.f62 (Tryz.f62.body.getD .skip) := fnOK_of fns_ok 62 _ _ (by kernel_rfl) Tryz.func62 rfl
theorem ok63 : FnOK Tryz.prog 63 Tryz.f63 (Tryz.f63.body.getD .skip) := fnOK_of fns_ok 63 _ _ (by kernel_rfl) Tryz.func63 rfl
theorem ok64 : FnOK Tryz.prog 64 Tryz.f64 (Tryz.f64.body.getD .skip) := fnOK_of fns_ok 64 _ _ (by kernel_rfl) Tryz.func64 rfl
theorem ok65 : FnOK Tryz.prog 65 Tryz.f65 (Tryz.f65.body.getD .skip) := fnOK_of fns_ok 65 _ _ (by kernel_rfl) Tryz.func65 rfl
theorem ok66 : FnOK Tryz.prog 66 Tryz.f66 (Tryz.f66.body.getD .skip) := fnOK_of fns_ok 66 _ _ (by kernel_rfl) Tryz.func66 rfl
theorem ok67 : FnOK Tryz.prog 67 Tryz.f67 (Tryz.f67.body.getD .skip) := fnOK_of fns_ok 67 _ _ (by kernel_rfl) Tryz.func67 rfl
theorem ok68 : FnOK Tryz.prog 68 Tryz.f68 (Tryz.f68.body.getD .skip) := fnOK_of fns_ok 68 _ _ (by kernel_rfl) Tryz.func68 rfl
theorem ok69 : FnOK Tryz.prog 69 Tryz.f69 (Tryz.f69.body.getD .skip) := fnOK_of fns_ok 69 _ _ (by kernel_rfl) Tryz.func69 rfl
theorem ok70 : FnOK Tryz.prog 70 Tryz.f70 (Tryz.f70.body.getD .skip) := fnOK_of fns_ok 70 _ _ (by kernel_rfl) Tryz.func70 rfl
theorem ok71 : FnOK Tryz.prog 71 Tryz.f71 (Tryz.f71.body.getD .skip) := fnOK_of fns_ok 71 _ _ (by kernel_rfl) Tryz.func71 rfl
theorem ok72 : FnOK Tryz.prog 72 Tryz.f72 (Tryz.f72.body.getD .skip) := fnOK_of fns_ok 72 _ _ (by kernel_rfl) Tryz.func72 rfl
theorem ok73 : FnOK Tryz.prog 73 Tryz.f73 (Tryz.f73.body.getD .skip) := fnOK_of fns_ok 73 _ _ (by kernel_rfl) Tryz.func73 rfl
theorem ok74 : FnOK Tryz.prog 74 Tryz.f74 (Tryz.f74.body.getD .skip) := fnOK_of fns_ok 74 _ _ (by kernel_rfl) Tryz.func74 rfl
theorem ok75 : FnOK Tryz.prog 75 Tryz.f75 (Tryz.f75.body.getD .skip) := fnOK_of fns_ok 75 _ _ (by kernel_rfl) Tryz.func75 rfl
theorem ok76 : FnOK Tryz.prog 76 Tryz.f76 (Tryz.f76.body.getD .skip) := fnOK_of fns_ok 76 _ _ (by kernel_rfl) Tryz.func76 rfl
theorem ok77 : FnOK Tryz.prog 77 Tryz.f77 (Tryz.f77.body.getD .skip) := fnOK_of fns_ok 77 _ _ (by kernel_rfl) Tryz.func77 rfl
theorem ok78 : FnOK Tryz.prog 78 Tryz.f78 (Tryz.f78.body.getD .skip) := fnOK_of fns_ok 78 _ _ (by kernel_rfl) Tryz.func78 rfl
theorem ok79 : FnOK Tryz.prog 79 Tryz.f79 (Tryz.f79.body.getD .skip) := fnOK_of fns_ok 79 _ _ (by kernel_rfl) Tryz.func79 rfl
theorem ok80 : FnOK Tryz.prog 80 Tryz.f80 (Tryz.f80.body.getD .skip) := fnOK_of fns_ok 80 _ _ (by kernel_rfl) Tryz.func80 rfl
theorem ok81 : FnOK Tryz.prog 81 Tryz.f81 (Tryz.f81.body.getD .skip) := fnOK_of fns_ok 81 _ _ (by kernel_rfl) Tryz.func81 rfl
theorem ok82 : FnOK Tryz.prog 82 Tryz.f82 (Tryz.f82.body.getD .skip) := fnOK_of fns_ok 82 _ _ (by kernel_rfl) Tryz.func82 rfl
theorem ok83 : FnOK Tryz.prog 83 Tryz.f83 (Tryz.f83.body.getD .skip) := fnOK_of fns_ok 83 _ _ (by kernel_rfl) Tryz.func83 rfl
theorem ok84 : FnOK Tryz.prog 84 Tryz.f84 (Tryz.f84.body.getD .skip) := fnOK_of fns_ok 84 _ _ (by kernel_rfl) Tryz.func84 rfl
theorem ok85 : FnOK Tryz.prog 85 Tryz.f85 (Tryz.f85.body.getD .skip) := fnOK_of fns_ok 85 _ _ (by kernel_rfl) Tryz.func85 rfl
theorem ok86 : FnOK Tryz.prog 86 Tryz.f86 (Tryz.f86.body.getD .skip) := fnOK_of fns_ok 86 _ _ (by kernel_rfl) Tryz.func86 rfl
theorem ok87 : FnOK Tryz.prog 87 Tryz.f87 (Tryz.f87.body.getD .skip) := fnOK_of fns_ok 87 _ _ (by kernel_rfl) Tryz.func87 rfl
theorem ok88 : FnOK Tryz.prog 88 Tryz.f88 (Tryz.f88.body.getD .skip) := fnOK_of fns_ok 88 _ _ (by kernel_rfl) Tryz.func88 rfl
theorem ok89 : FnOK Tryz.prog 89 Tryz.f89 (Tryz.f89.body.getD .skip) := fnOK_of fns_ok 89 _ _ (by kernel_rfl) Tryz.func89 rfl
theorem ok90 : FnOK Tryz.prog 90 Tryz.f90 (Tryz.f90.body.getD .skip) := fnOK_of fns_ok 90 _ _ (by kernel_rfl) Tryz.func90 rfl
theorem ok91 : FnOK Tryz.prog 91 Tryz.f91 (Tryz.f91.body.getD .skip) := fnOK_of fns_ok 91 _ _ (by kernel_rfl) Tryz.func91 rfl
theorem ok92 : FnOK Tryz.prog 92 Tryz.f92 (Tryz.f92.body.getD .skip) := fnOK_of fns_ok 92 _ _ (by kernel_rfl) Tryz.func92 rfl
theorem ok93 : FnOK Tryz.prog 93 Tryz.f93 (Tryz.f93.body.getD .skip) := fnOK_of fns_ok 93 _ _ (by kernel_rfl) Tryz.func93 rfl
theorem ok94 : FnOK Tryz.prog 94 Tryz.f94 (Tryz.f94.body.getD .skip) := fnOK_of fns_ok 94 _ _ (by kernel_rfl) Tryz.func94 rfl
theorem ok95 : FnOK Tryz.prog 95 Tryz.f95 (Tryz.f95.body.getD .skip) := fnOK_of fns_ok 95 _ _ (by kernel_rfl) Tryz.func95 rfl
theorem ok98 : FnOK Tryz.prog 98 Tryz.f98 (Tryz.f98.body.getD .skip) := fnOK_of fns_ok 98 _ _ (by kernel_rfl) Tryz.func98 rfl
theorem ok99 : FnOK Tryz.prog 99 Tryz.f99 (Tryz.f99.body.getD .skip) := fnOK_of fns_ok 99 _ _ (by kernel_rfl) Tryz.func99 rfl
theorem ok101 : FnOK Tryz.prog 101 Tryz.f101 (Tryz.f101.body.getD .skip) := fnOK_of fns_ok 101 _ _ (by kernel_rfl) Tryz.func101 rfl
theorem ok102 : FnOK Tryz.prog 102 Tryz.f102 (Tryz.f102.body.getD .skip) := fnOK_of fns_ok 102 _ _ (by kernel_rfl) Tryz.func102 rfl
theorem ok103 : FnOK Tryz.prog 103 Tryz.f103 (Tryz.f103.body.getD .skip) := fnOK_of fns_ok 103 _ _ (by kernel_rfl) Tryz.func103 rfl
theorem ok104 : FnOK Tryz.prog 104 Tryz.f104 (Tryz.f104.body.getD .skip) := fnOK_of fns_ok 104 _ _ (by kernel_rfl) Tryz.func104 rfl
theorem ok105 : FnOK Tryz.prog 105 Tryz.f105 (Tryz.f105.body.getD .skip) := fnOK_of fns_ok 105 _ _ (by kernel_rfl) Tryz.func105 rfl
theorem ok106 : FnOK Tryz.prog 106 Tryz.f106 (Tryz.f106.body.getD .skip) := fnOK_of fns_ok 106 _ _ (by kernel_rfl) Tryz.func106 rfl
theorem ok107 : FnOK Tryz.prog 107 Tryz.f107 (Tryz.f107.body.getD .skip) := fnOK_of fns_ok 107 _ _ (by kernel_rfl) Tryz.func107 rfl
theorem ok108 : FnOK Tryz.prog 108 Tryz.f108 (Tryz.f108.body.getD .skip) := fnOK_of fns_ok 108 _ _ (by kernel_rfl) Tryz.func108 rfl
theorem ok109 : FnOK Tryz.prog 109 Tryz.f109 (Tryz.f109.body.getD .skip) := fnOK_of fns_ok 109 _ _ (by kernel_rfl) Tryz.func109 rfl
theorem ok110 : FnOK Tryz.prog 110 Tryz.f110 (Tryz.f110.body.getD .skip) := fnOK_of fns_ok 110 _ _ (by kernel_rfl) Tryz.func110 rfl
theorem ok111 : FnOK Tryz.prog 111 Tryz.f111 (Tryz.f111.body.getD .skip) := fnOK_of fns_ok 111 _ _ (by kernel_rfl) Tryz.func111 rfl
theorem ok112 : FnOK Tryz.prog 112 Tryz.f112 (Tryz.f112.body.getD .skip) := fnOK_of fns_ok 112 _ _ (by kernel_rfl) Tryz.func112 rfl
theorem ok113 : FnOK Tryz.prog 113 Tryz.f113 (Tryz.f113.body.getD .skip) := fnOK_of fns_ok 113 _ _ (by kernel_rfl) Tryz.func113 rfl
theorem ok114 : FnOK Tryz.prog 114 Tryz.f114 (Tryz.f114.body.getD .skip) := fnOK_of fns_ok 114 _ _ (by kernel_rfl) Tryz.func114 rfl
theorem ok115 : FnOK Tryz.prog 115 Tryz.f115 (Tryz.f115.body.getD .skip) := fnOK_of fns_ok 115 _ _ (by kernel_rfl) Tryz.func115 rfl
theorem ok116 : FnOK Tryz.prog 116 Tryz.f116 (Tryz.f116.body.getD .skip) := fnOK_of fns_ok 116 _ _ (by kernel_rfl) Tryz.func116 rfl
theorem ok119 : FnOK Tryz.prog 119 Tryz.f119 (Tryz.f119.body.getD .skip) := fnOK_of fns_ok 119 _ _ (by kernel_rfl) Tryz.func119 rfl
theorem ok120 : FnOK Tryz.prog 120 Tryz.f120 (Tryz.f120.body.getD .skip) := fnOK_of fns_ok 120 _ _ (by kernel_rfl) Tryz.func120 rfl
theorem ok121 : FnOK Tryz.prog 121 Tryz.f121 (Tryz.f121.body.getD .skip) := fnOK_of fns_ok 121 _ _ (by kernel_rfl) Tryz.func121 rfl
theorem ok122 : FnOK Tryz.prog 122 Tryz.f122 (Tryz.f122.body.getD .skip) := fnOK_of fns_ok 122 _ _ (by kernel_rfl) Tryz.func122 rfl
theorem ok123 : FnOK Tryz.prog 123 Tryz.f123 (Tryz.f123.body.getD .skip) := fnOK_of fns_ok 123 _ _ (by kernel_rfl) Tryz.func123 rfl
theorem ok124 : FnOK Tryz.prog 124 Tryz.f124 (Tryz.f124.body.getD .skip) := fnOK_of fns_ok 124 _ _ (by kernel_rfl) Tryz.func124 rfl
theorem ok125 : FnOK Tryz.prog 125 Tryz.f125 (Tryz.f125.body.getD .skip) := fnOK_of fns_ok 125 _ _ (by kernel_rfl) Tryz.func125 rfl
theorem ok126 : FnOK Tryz.prog 126 Tryz.f126 (Tryz.f126.body.getD .skip) := fnOK_of fns_ok 126 _ _ (by kernel_rfl) Tryz.func126 rfl
theorem ok127 : FnOK Tryz.prog 127 Tryz.f127 (Tryz.f127.body.getD .skip) := fnOK_of fns_ok 127 _ _ (by kernel_rfl) Tryz.func127 rfl
theorem ok128 : FnOK Tryz.prog 128 Tryz.f128 (Tryz.f128.body.getD .skip) := fnOK_of fns_ok 128 _ _ (by kernel_rfl) Tryz.func128 rfl
theorem ok129 : FnOK Tryz.prog 129 Tryz.f129 (Tryz.f129.body.getD .skip) := fnOK_of fns_ok 129 _ _ (by kernel_rfl) Tryz.func129 rfl
theorem ok130 : FnOK Tryz.prog 130 Tryz.f130 (Tryz.f130.body.getD .skip) := fnOK_of fns_ok 130 _ _ (by kernel_rfl) Tryz.func130 rfl
theorem ok131 : FnOK Tryz.prog 131 Tryz.f131 (Tryz.f131.body.getD .skip) := fnOK_of fns_ok 131 _ _ (by kernel_rfl) Tryz.func131 rfl
theorem ok132 : FnOK Tryz.prog 132 Tryz.f132 (Tryz.f132.body.getD .skip) := fnOK_of fns_ok 132 _ _ (by kernel_rfl) Tryz.func132 rfl
theorem ok134 : FnOK Tryz.prog 134 Tryz.f134 (Tryz.f134.body.getD .skip) := fnOK_of fns_ok 134 _ _ (by kernel_rfl) Tryz.func134 rfl
theorem ok135 : FnOK Tryz.prog 135 Tryz.f135 (Tryz.f135.body.getD .skip) := fnOK_of fns_ok 135 _ _ (by kernel_rfl) Tryz.func135 rfl
theorem ok137 : FnOK Tryz.prog 137 Tryz.f137 (Tryz.f137.body.getD .skip) := fnOK_of fns_ok 137 _ _ (by kernel_rfl) Tryz.func137 rfl
theorem ok138 : FnOK Tryz.prog 138 Tryz.f138 (Tryz.f138.body.getD .skip) := fnOK_of fns_ok 138 _ _ (by kernel_rfl) Tryz.func138 rfl
theorem ok139 : FnOK Tryz.prog 139 Tryz.f139 (Tryz.f139.body.getD .skip) := fnOK_of fns_ok 139 _ _ (by kernel_rfl) Tryz.func139 rfl
theorem ok140 : FnOK Tryz.prog 140 Tryz.f140 (Tryz.f140.body.getD .skip) := fnOK_of fns_ok 140 _ _ (by kernel_rfl) Tryz.func140 rfl
theorem ok141 : FnOK Tryz.prog 141 Tryz.f141 (Tryz.f141.body.getD .skip) := fnOK_of fns_ok 141 _ _ (by kernel_rfl) Tryz.func141 rfl
theorem ok142 : FnOK Tryz.prog 142 Tryz.f142 (Tryz.f142.body.getD .skip) := fnOK_of fns_ok 142 _ _ (by kernel_rfl) Tryz.func142 rfl
theorem ok143 : FnOK Tryz.prog 143 Tryz.f143 (Tryz.f143.body.getD .skip) := fnOK_of fns_ok 143 _ _ (by kernel_rfl) Tryz.func143 rfl
theorem ok144 : FnOK Tryz.prog 144 Tryz.f144 (Tryz.f144.body.getD .skip) := fnOK_of fns_ok 144 _ _ (by kernel_rfl) Tryz.func144 rfl
theorem ok145 : FnOK Tryz.prog 145 Tryz.f145 (Tryz.f145.body.getD .skip) := fnOK_of fns_ok 145 _ _ (by kernel_rfl) Tryz.func145 rfl
theorem ok146 : FnOK Tryz.prog 146 Tryz.f146 (Tryz.f146.body.getD .skip) := fnOK_of fns_ok 146 _ _ (by kernel_rfl) Tryz.func146 rfl
theorem ok147 : FnOK Tryz.prog 147 Tryz.f147 (Tryz.f147.body.getD .skip) := fnOK_of fns_ok 147 _ _ (by kernel_rfl) Tryz.func147 rfl
theorem ok148 : FnOK Tryz.prog 148 Tryz.f148 (Tryz.f148.body.getD .skip) := fnOK_of fns_ok 148 _ _ (by kernel_rfl) Tryz.func148 rfl
theorem ok149 : FnOK Tryz.prog 149 Tryz.f149 (Tryz.f149.body.getD .skip) := fnOK_of fns_ok 149 _ _ (by kernel_rfl) Tryz.func149 rfl
theorem ok150 : FnOK Tryz.prog 150 Tryz.f150 (Tryz.f150.body.getD .skip) := fnOK_of fns_ok 150 _ _ (by kernel_rfl) Tryz.func150 rfl
theorem ok151 : FnOK Tryz.prog 151 Tryz.f151 (Tryz.f151.body.getD .skip) := fnOK_of fns_ok 151 _ _ (by kernel_rfl) Tryz.func151 rfl
theorem ok152 : FnOK Tryz.prog 152 Tryz.f152 (Tryz.f152.body.getD .skip) := fnOK_of fns_ok 152 _ _ (by kernel_rfl) Tryz.func152 rfl
theorem ok153 : FnOK Tryz.prog 153 Tryz.f153 (Tryz.f153.body.getD .skip) := fnOK_of fns_ok 153 _ _ (by kernel_rfl) Tryz.func153 rfl
theorem ok154 : FnOK Tryz.prog 154 Tryz.f154 (Tryz.f154.body.getD .skip) := fnOK_of fns_ok 154 _ _ (by kernel_rfl) Tryz.func154 rfl
theorem ok155 : FnOK Tryz.prog 155 Tryz.f155 (Tryz.f155.body.getD .skip) := fnOK_of fns_ok 155 _ _ (by kernel_rfl) Tryz.func155 rfl
theorem ok156 : FnOK Tryz.prog 156 Tryz.f156 (Tryz.f156.body.getD .skip) := fnOK_of fns_ok 156 _ _ (by kernel_rfl) Tryz.func156 rfl
theorem ok157 : FnOK Tryz.prog 157 Tryz.f157 (Tryz.f157.body.getD .skip) := fnOK_of fns_ok 157 _ _ (by kernel_rfl) Tryz.func157 rfl
theorem ok159 : FnOK Tryz.prog 159 Tryz.f159 (Tryz.f159.body.getD .skip) := fnOK_of fns_ok 159 _ _ (by kernel_rfl) Tryz.func159 rfl
theorem ok160 : FnOK Tryz.prog 160 Tryz.f160 (Tryz.f160.body.getD .skip) := fnOK_of fns_ok 160 _ _ (by kernel_rfl) Tryz.func160 rfl
theorem ok161 : FnOK Tryz.prog 161 Tryz.f161 (Tryz.f161.body.getD .skip) := fnOK_of fns_ok 161 _ _ (by kernel_rfl) Tryz.func161 rfl
theorem ok162 : FnOK Tryz.prog 162 Tryz.f162 (Tryz.f162.body.getD .skip) := fnOK_of fns_ok 162 _ _ (by kernel_rfl) Tryz.func162 rfl
theorem ok163 : FnOK Tryz.prog 163 Tryz.f163 (Tryz.f163.body.getD .skip) := fnOK_of fns_ok 163 _ _ (by kernel_rfl) Tryz.func163 rfl
theorem ok164 : FnOK Tryz.prog 164 Tryz.f164 (Tryz.f164.body.getD .skip) := fnOK_of fns_ok 164 _ _ (by kernel_rfl) Tryz.func164 rfl
theorem ok165 : FnOK Tryz.prog 165 Tryz.f165 (Tryz.f165.body.getD .skip) := fnOK_of fns_ok 165 _ _ (by kernel_rfl) Tryz.func165 rfl
theorem ok166 : FnOK Tryz.prog 166 Tryz.f166 (Tryz.f166.body.getD .skip) := fnOK_of fns_ok 166 _ _ (by kernel_rfl) Tryz.func166 rfl
theorem ok167 : FnOK Tryz.prog 167 Tryz.f167 (Tryz.f167.body.getD .skip) := fnOK_of fns_ok 167 _ _ (by kernel_rfl) Tryz.func167 rfl
theorem ok168 : FnOK Tryz.prog 168 Tryz.f168 (Tryz.f168.body.getD .skip) := fnOK_of fns_ok 168 _ _ (by kernel_rfl) Tryz.func168 rfl
theorem ff_3 : type_of% (And.intro (And.intro (And.intro @agg_22 @agg_25) (And.intro @csz_22 @csz_25)) (And.intro (And.intro @fofs_25_1 @und_3) (And.intro @undT_22 @undT_28))) := And.intro (And.intro (And.intro @agg_22 @agg_25) (And.intro @csz_22 @csz_25)) (And.intro (And.intro @fofs_25_1 @und_3) (And.intro @undT_22 @undT_28))
theorem ff_4 : type_of% (And.intro (And.intro (And.intro (And.intro @agg_3 @agg_4) (And.intro @agg_22 (And.intro @agg_23 @agg_25))) (And.intro (And.intro @csz_3 @csz_4) (And.intro @csz_22 (And.intro @csz_23 @csz_25)))) (And.intro (And.intro (And.intro @ebs_28_1 @esz_23) (And.intro @esz_28 (And.intro @esz_34 @fofs_25_1))) (And.intro (And.intro @fofs_25_2 (And.intro @fofs_44_0 @und_3)) (And.intro @und_39 (And.intro @undT_22 @undT_28))))) := And.intro (And.intro (And.intro (And.intro @agg_3 @agg_4) (And.intro @agg_22 (And.intro @agg_23 @agg_25))) (And.intro (And.intro @csz_3 @csz_4) (And.intro @csz_22 (And.intro @csz_23 @csz_25)))) (And.intro (And.intro (And.intro @ebs_28_1 @esz_23) (And.intro @esz_28 (And.intro @esz_34 @fofs_25_1))) (And.intro (And.intro @fofs_25_2 (And.intro @fofs_44_0 @und_3)) (And.intro @und_39 (And.intro @undT_22 @undT_28))))
theorem ff_5 : type_of% (And.intro (And.intro (And.intro (And.intro @agg_3 @agg_4) (And.intro @agg_23 @agg_25)) (And.intro (And.intro @csz_3 @csz_4) (And.intro @csz_23 @csz_25))) (And.intro (And.intro (And.intro @ebs_28_1 @esz_23) (And.intro @esz_28 @esz_34)) (And.intro (And.intro @fofs_25_2 @fofs_44_0) (And.intro @und_3 (And.intro @und_39 @undT_28))))) := And.intro (And.intro (And.intro (And.intro @agg_3 @agg_4) (And.intro @agg_23 @agg_25)) (And.intro (And.intro @csz_3 @csz_4) (And.intro @csz_23 @csz_25))) (And.intro (And.intro (And.intro @ebs_28_1 @esz_23) (And.intro @esz_28 @esz_34)) (And.intro (And.intro @fofs_25_2 @fofs_44_0) (And.intro @und_3 (And.intro @und_39 @undT_28))))
theorem ff_6 : type_of% (And.intro (And.intro (And.intro (And.intro @agg_3 (And.intro @agg_4 @agg_22)) (And.intro @agg_23 (And.intro @agg_25 @csz_3))) (And.intro (And.intro @csz_4 (And.intro @csz_22 @csz_23)) (And.intro @csz_25 (And.intro @eapp_23_23 @ebs_23_0)))) (And.intro (And.intro (And.intro @esz_23 (And.intro @esz_28 @esz_34)) (And.intro @fofs_25_1 (And.intro @fofs_25_2 @isz_23))) (And.intro (And.intro @isz_25 (And.intro @und_3 @und_4)) (And.intro @undT_22 (And.intro @undT_23 @zeroT_25))))) := And.intro (And.intro (And.intro (And.intro @agg_3 (And.intro @agg_4 @agg_22)) (And.intro @agg_23 (And.intro @agg_25 @csz_3))) (And.intro (And.intro @csz_4 (And.intro @csz_22 @csz_23)) (And.intro @csz_25 (And.intro @eapp_23_23 @ebs_23_0)))) (And.intro (And.intro (And.intro @esz_23 (And.intro @esz_28 @esz_34)) (And.intro @fofs_25_1 (And.intro @fofs_25_2 @isz_23))) (And.intro (And.intro @isz_25 (And.intro @und_3 @und_4)) (And.intro @undT_22 (And.intro @undT_23 @zeroT_25))))
theorem ff_7 : type_of% (And.intro (And.intro (And.intro (And.intro (And.intro @agg_3 @agg_4) (And.intro @agg_9 @agg_22)) (And.intro (And.intro @agg_23 @agg_25) (And.intro @agg_28 @agg_44))) (And.intro (And.intro (And.intro @csz_3 @csz_4) (And.intro @csz_9 @csz_22)) (And.intro (And.intro @csz_23 @csz_25) (And.intro @csz_28 (And.intro @csz_44 @esz_22))))) (And.intro (And.intro (And.intro (And.intro @esz_23 @esz_28) (And.intro @esz_34 @fofs_25_1)) (And.intro (And.intro @fofs_25_2 @fofs_44_0) (And.intro @fofs_44_1 (And.intro @isz_25 @isz_44)))) (And.intro (And.intro (And.intro @und_3 @und_4) (And.intro @und_9 @undT_22)) (And.intro (And.intro @undT_23 @undT_28) (And.intro @undT_34 (And.intro @zeroT_25 @zeroT_44)))))) := And.intro (And.intro (And.intro (And.intro (And.intro @agg_3 @agg_4) (And.intro @agg_9 @agg_22)) (And.intro (And.intro @agg_23 @agg_25) (And.intro @agg_28 @agg_44))) (And.intro (And.intro (And.intro @csz_3 @csz_4) (And.intro @csz_9 @csz_22)) (And.intro (And.intro @csz_23 @csz_25) (And.intro @csz_28 (And.intro @csz_44 @esz_22))))) (And.intro (And.intro (And.intro (And.intro @esz_23 @esz_28) (And.intro @esz_34 @fofs_25_1)) (And.intro (And.intro @fofs_25_2 @fofs_44_0) (And.intro @fofs_44_1 (And.intro @isz_25 @isz_44)))) (And.intro (And.intro (And.intro @und_3 @und_4) (And.intro @und_9 @undT_22)) (And.intro (And.intro @undT_23 @undT_28) (And.intro @undT_34 (And.intro @zeroT_25 @zeroT_44)))))
theorem ff_8 : type_of% (And.intro (And.intro (And.intro @agg_3 (And.intro @agg_25 @csz_3)) (And.intro @csz_25 (And.intro @ebs_28_2 @ebs_34_4))) (And.intro (And.intro @esz_28 (And.intro @isz_25 @und_3)) (And.intro @und_9 (And.intro @undT_28 @zeroT_25)))) := And.intro (And.intro (And.intro @agg_3 (And.intro @agg_25 @csz_3)) (And.intro @csz_25 (And.intro @ebs_28_2 @ebs_34_4))) (And.intro (And.intro @esz_28 (And.intro @isz_25 @und_3)) (And.intro @und_9 (And.intro @undT_28 @zeroT_25)))
theorem ff_9 : type_of% (And.intro (And.intro (And.intro @agg_22 (And.intro @agg_23 @agg_28)) (And.intro (And.intro @csz_22 @csz_23) (And.intro @csz_28 @esz_23))) (And.intro (And.intro @fofs_25_0 (And.intro @fofs_25_1 @fofs_25_2)) (And.intro (And.intro @fofs_44_1 @undT_22) (And.intro @undT_23 @undT_28)))) := And.intro (And.intro (And.intro @agg_22 (And.intro @agg_23 @agg_28)) (And.intro (And.intro @csz_22 @csz_23) (And.intro @csz_28 @esz_23))) (And.intro (And.intro @fofs_25_0 (And.intro @fofs_25_1 @fofs_25_2)) (And.intro (And.intro @fofs_44_1 @undT_22) (And.intro @undT_23 @undT_28)))
theorem ff_10 : type_of% (And.intro (And.intro (And.intro @agg_9 (And.intro @agg_22 @agg_23)) (And.intro (And.intro @agg_25 @csz_9) (And.intro @csz_22 @csz_23))) (And.intro (And.intro (And.intro @csz_25 @esz_22) (And.intro @fofs_25_0 @fofs_25_1)) (And.intro (And.intro @fofs_25_2 @und_3) (And.intro @undT_22 @undT_23)))) := And.intro (And.intro (And.intro @agg_9 (And.intro @agg_22 @agg_23)) (And.intro (And.intro @agg_25 @csz_9) (And.intro @csz_22 @csz_23))) (And.intro (And.intro (And.intro @csz_25 @esz_22) (And.intro @fofs_25_0 @fofs_25_1)) (And.intro (And.intro @fofs_25_2 @und_3) (And.intro @undT_22 @undT_23)))
theorem ff_11 : type_of% (And.intro (And.intro (And.intro (And.intro @agg_3 (And.intro @agg_4 @agg_22)) (And.intro @agg_23 (And.intro @agg_44 @csz_3))) (And.intro (And.intro @csz_4 (And.intro @csz_22 @csz_23)) (And.intro @csz_44 (And.intro @emk_28 @emk_34)))) (And.intro (And.intro (And.intro @esz_23 (And.intro @esz_28 @esz_34)) (And.intro @fofs_25_1 (And.intro @fofs_25_2 @fofs_44_0))) (And.intro (And.intro @isz_3 (And.intro @isz_4 @isz_44)) (And.intro (And.intro @undT_22 @undT_23) (And.intro @undT_28 @zeroT_44))))) := And.intro (And.intro (And.intro (And.intro @agg_3 (And.intro @agg_4 @agg_22)) (And.intro @agg_23 (And.intro @agg_44 @csz_3))) (And.intro (And.intro @csz_4 (And.intro @csz_22 @csz_23)) (And.intro @csz_44 (And.intro @emk_28 @emk_34)))) (And.intro (And.intro (And.intro @esz_23 (And.intro @esz_28 @esz_34)) (And.intro @fofs_25_1 (And.intro @fofs_25_2 @fofs_44_0))) (And.intro (And.intro @isz_3 (And.intro @isz_4 @isz_44)) (And.intro (And.intro @undT_22 @undT_23) (And.intro @undT_28 @zeroT_44))))
theorem ff_13 : type_of% (And.intro (And.intro (And.intro (And.intro @agg_3 @agg_22) (And.intro @agg_23 (And.intro @agg_28 @csz_3))) (And.intro (And.intro @csz_22 @csz_23) (And.intro @csz_28 (And.intro @eapp_28_28 @ebs_28_0)))) (And.intro (And.intro (And.intro @ebs_28_1 @esz_23) (And.intro @esz_28 (And.intro @fofs_25_1 @fofs_25_2))) (And.intro (And.intro @fofs_44_0 (And.intro @fofs_44_1 @isz_3)) (And.intro @undT_22 (And.intro @undT_23 @undT_28))))) := And.intro (And.intro (And.intro (And.intro @agg_3 @agg_22) (And.intro @agg_23 (And.intro @agg_28 @csz_3))) (And.intro (And.intro @csz_22 @csz_23) (And.intro @csz_28 (And.intro @eapp_28_28 @ebs_28_0)))) (And.intro (And.intro (And.intro @ebs_28_1 @esz_23) (And.intro @esz_28 (And.intro @fofs_25_1 @fofs_25_2))) (And.intro (And.intro @fofs_44_0 (And.intro @fofs_44_1 @isz_3)) (And.intro @undT_22 (And.intro @undT_23 @undT_28))))
theorem ff_14 : type_of% (And.intro (And.intro @agg_4 (And.intro @csz_4 @esz_34)) (And.intro @und_3 (And.intro @und_4 @undT_34))) := And.intro (And.intro @agg_4 (And.intro @csz_4 @esz_34)) (And.intro @und_3 (And.intro @und_4 @undT_34))
theorem ff_15 : type_of% (And.intro (And.intro (And.intro @agg_22 @agg_25) (And.intro @agg_34 (And.intro @csz_22 @csz_25))) (And.intro (And.intro @csz_34 (And.intro @emk_34 @fofs_25_1)) (And.intro @isz_34 (And.intro @undT_22 @zeroT_34)))) := And.intro (And.intro (And.intro @agg_22 @agg_25) (And.intro @agg_34 (And.intro @csz_22 @csz_25))) (And.intro (And.intro @csz_34 (And.intro @emk_34 @fofs_25_1)) (And.intro @isz_34 (And.intro @undT_22 @zeroT_34)))
theorem ff_16 : type_of% (And.intro @agg_25 @csz_25) := And.intro @agg_25 @csz_25
theorem ff_17 : type_of% (And.intro (And.intro (And.intro @agg_22 @agg_25) (And.intro @agg_34 (And.intro @csz_22 @csz_25))) (And.intro (And.intro @csz_34 (And.intro @emk_34 @fofs_25_1)) (And.intro @isz_34 (And.intro @undT_22 @zeroT_34)))) := And.intro (And.intro (And.intro @agg_22 @agg_25) (And.intro @agg_34 (And.intro @csz_22 @csz_25))) (And.intro (And.intro @csz_34 (And.intro @emk_34 @fofs_25_1)) (And.intro @isz_34 (And.intro @undT_22 @zeroT_34)))
theorem ff_18 : type_of% (And.intro @agg_25 @csz_25) := And.intro @agg_25 @csz_25
theorem ff_19 : type_of% (And.intro (And.intro (And.intro (And.intro @agg_3 (And.intro @agg_4 @agg_22)) (And.intro (And.intro @agg_23 @agg_25) (And.intro @agg_28 @agg_44))) (And.intro (And.intro @csz_3 (And.intro @csz_4 @csz_22)) (And.intro (And.intro @csz_23 @csz_25) (And.intro @csz_28 @csz_44)))) (And.intro (And.intro (And.intro @eapp_28_28 (And.intro @ebs_28_1 @emk_34)) (And.intro (And.intro @esz_23 @esz_28) (And.intro @esz_34 @fofs_25_1))) (And.intro (And.intro (And.intro @fofs_25_2 @fofs_44_1) (And.intro @isz_4 @isz_44)) (And.intro (And.intro @undT_22 @undT_23) (And.intro @undT_28 @zeroT_44))))) := And.intro (And.intro (And.intro (And.intro @agg_3 (And.intro @agg_4 @agg_22)) (And.intro (And.intro @agg_23 @agg_25) (And.intro @agg_28 @agg_44))) (And.intro (And.intro @csz_3 (And.intro @csz_4 @csz_22)) (And.intro (And.intro @csz_23 @csz_25) (And.intro @csz_28 @csz_44)))) (And.intro (And.intro (And.intro @eapp_28_28 (And.intro @ebs_28_1 @emk_34)) (And.intro (And.intro @esz_23 @esz_28) (And.intro @esz_34 @fofs_25_1))) (And.intro (And.intro (And.intro @fofs_25_2 @fofs_44_1) (And.intro @isz_4 @isz_44)) (And.intro (And.intro @undT_22 @undT_23) (And.intro @undT_28 @zeroT_44))))
theorem ff_20 : type_of% (And.intro (And.intro (And.intro (And.intro @agg_3 (And.intro @agg_4 @agg_22)) (And.intro (And.intro @agg_23 @agg_25) (And.intro @agg_28 @agg_44))) (And.intro (And.intro @csz_3 (And.intro @csz_4 @csz_22)) (And.intro (And.intro @csz_23 @csz_25) (And.intro @csz_28 @csz_44)))) (And.intro (And.intro (And.intro @emk_34 (And.intro @esz_23 @esz_28)) (And.intro (And.intro @esz_34 @fofs_25_1) (And.intro @fofs_25_2 @fofs_44_0))) (And.intro (And.intro @fofs_44_1 (And.intro @isz_4 @isz_44)) (And.intro (And.intro @undT_22 @undT_23) (And.intro @undT_28 @zeroT_44))))) := And.intro (And.intro (And.intro (And.intro @agg_3 (And.intro @agg_4 @agg_22)) (And.intro (And.intro @agg_23 @agg_25) (And.intro @agg_28 @agg_44))) (And.intro (And.intro @csz_3 (And.intro @csz_4 @csz_22)) (And.intro (And.intro @csz_23 @csz_25) (And.intro @csz_28 @csz_44)))) (And.intro (And.intro (And.intro @emk_34 (And.intro @esz_23 @esz_28)) (And.intro (And.intro @esz_34 @fofs_25_1) (And.intro @fofs_25_2 @fofs_44_0))) (And.intro (And.intro @fofs_44_1 (And.intro @isz_4 @isz_44)) (And.intro (And.intro @undT_22 @undT_23) (And.intro @undT_28 @zeroT_44))))
theorem ff_21 : type_of% (And.intro (And.intro (And.intro (And.intro @agg_3 @agg_23) (And.intro @agg_25 @agg_28)) (And.intro (And.intro @csz_3 @csz_23) (And.intro @csz_25 @csz_28))) (And.intro (And.intro (And.intro @eapp_28_28 @ebs_28_1) (And.intro @esz_23 @esz_28)) (And.intro (And.intro @fofs_25_2 @fofs_44_1) (And.intro @und_3 @undT_28)))) := And.intro (And.intro (And.intro (And.intro @agg_3 @agg_23) (And.intro @agg_25 @agg_28)) (And.intro (And.intro @csz_3 @csz_23) (And.intro @csz_25 @csz_28))) (And.intro (And.intro (And.intro @eapp_28_28 @ebs_28_1) (And.intro @esz_23 @esz_28)) (And.intro (And.intro @fofs_25_2 @fofs_44_1) (And.intro @und_3 @undT_28)))
theorem ff_22 : type_of% (And.intro (And.intro (And.intro (And.intro @agg_3 @agg_22) (And.intro @agg_23 @agg_28)) (And.intro (And.intro @csz_3 @csz_22) (And.intro @csz_23 @csz_28))) (And.intro (And.intro (And.intro @emk_28 @esz_23) (And.intro @esz_28 @fofs_25_1)) (And.intro (And.intro @fofs_25_2 @fofs_44_1) (And.intro @isz_3 (And.intro @undT_22 @undT_28))))) := And.intro (And.intro (And.intro (And.intro @agg_3 @agg_22) (And.intro @agg_23 @agg_28)) (And.intro (And.intro @csz_3 @csz_22) (And.intro @csz_23 @csz_28))) (And.intro (And.intro (And.intro @emk_28 @esz_23) (And.intro @esz_28 @fofs_25_1)) (And.intro (And.intro @fofs_25_2 @fofs_44_1) (And.intro @isz_3 (And.intro @undT_22 @undT_28))))
theorem ff_23 : type_of% (And.intro @agg_25 (And.intro @csz_25 @und_39)) := And.intro @agg_25 (And.intro @csz_25 @und_39)
theorem ff_24 : type_of% (And.intro (And.intro (And.intro (And.intro @agg_3 (And.intro @agg_22 @agg_23)) (And.intro (And.intro @agg_25 @agg_28) (And.intro @agg_42 @agg_44))) (And.intro (And.intro (And.intro @csz_3 @csz_22) (And.intro @csz_23 @csz_25)) (And.intro (And.intro @csz_28 @csz_42) (And.intro @csz_44 @emk_34)))) (And.intro (And.intro (And.intro (And.intro @esz_23 @esz_28) (And.intro @esz_34 @fofs_25_0)) (And.intro (And.intro @fofs_25_1 @fofs_25_2) (And.intro @fofs_44_0 @fofs_44_1))) (And.intro (And.intro (And.intro @fofs_44_2 @isz_4) (And.intro @isz_44 @und_3)) (And.intro (And.intro @undT_22 @undT_23) (And.intro @undT_28 @zeroT_44))))) := And.intro (And.intro (And.intro (And.intro @agg_3 (And.intro @agg_22 @agg_23)) (And.intro (And.intro @agg_25 @agg_28) (And.intro @agg_42 @agg_44))) (And.intro (And.intro (And.intro @csz_3 @csz_22) (And.intro @csz_23 @csz_25)) (And.intro (And.intro @csz_28 @csz_42) (And.intro @csz_44 @emk_34)))) (And.intro (And.intro (And.intro (And.intro @esz_23 @esz_28) (And.intro @esz_34 @fofs_25_0)) (And.intro (And.intro @fofs_25_1 @fofs_25_2) (And.intro @fofs_44_0 @fofs_44_1))) (And.intro (And.intro (And.intro @fofs_44_2 @isz_4) (And.intro @isz_44 @und_3)) (And.intro (And.intro @undT_22 @undT_23) (And.intro @undT_28 @zeroT_44))))
theorem ff_25 : type_of% (And.intro (And.intro (And.intro (And.intro (And.intro @agg_3 (And.intro @agg_4 @agg_9)) (And.intro @agg_22 (And.intro @agg_23 @agg_25))) (And.intro (And.intro @agg_28 (And.intro @agg_42 @agg_44)) (And.intro @csz_3 (And.intro @csz_4 @csz_9)))) (And.intro (And.intro (And.intro @csz_22 (And.intro @csz_23 @csz_25)) (And.intro @csz_28 (And.intro @csz_42 @csz_44))) (And.intro (And.intro @eapp_22_22 (And.intro @eapp_23_23 @eapp_28_28)) (And.intro @ebd_25 (And.intro @ebd_44 @ebs_22_1))))) (And.intro (And.intro (And.intro (And.intro @ebs_23_1 (And.intro @ebs_28_1 @emk_28)) (And.intro @esz_22 (And.intro @esz_23 @esz_28))) (And.intro (And.intro @esz_34 (And.intro @fofs_25_0 @fofs_25_1)) (And.intro @fofs_25_2 (And.intro @fofs_44_0 @fofs_44_1)))) (And.intro (And.intro (And.intro @fofs_44_2 (And.intro @isz_3 @isz_22)) (And.intro @isz_23 (And.intro @isz_25 @isz_28))) (And.intro (And.intro @isz_44 (And.intro @undT_22 @undT_23)) (And.intro @undT_28 (And.intro @zeroT_25 @zeroT_44)))))) := And.intro (And.intro (And.intro (And.intro (And.intro @agg_3 (And.intro @agg_4 @agg_9)) (And.intro @agg_22 (And.intro @agg_23 @agg_25))) (And.intro (And.intro @agg_28 (And.intro @agg_42 @agg_44)) (And.intro @csz_3 (And.intro @csz_4 @csz_9)))) (And.intro (And.intro (And.intro @csz_22 (And.intro @csz_23 @csz_25)) (And.intro @csz_28 (And.intro @csz_42 @csz_44))) (And.intro (And.intro @eapp_22_22 (And.intro @eapp_23_23 @eapp_28_28)) (And.intro @ebd_25 (And.intro @ebd_44 @ebs_22_1))))) (And.intro (And.intro (And.intro (And.intro @ebs_23_1 (And.intro @ebs_28_1 @emk_28)) (And.intro @esz_22 (And.intro @esz_23 @esz_28))) (And.intro (And.intro @esz_34 (And.intro @fofs_25_0 @fofs_25_1)) (And.intro @fofs_25_2 (And.intro @fofs_44_0 @fofs_44_1)))) (And.intro (And.intro (And.intro @fofs_44_2 (And.intro @isz_3 @isz_22)) (And.intro @isz_23 (And.intro @isz_25 @isz_28))) (And.intro (And.intro @isz_44 (And.intro @undT_22 @undT_23)) (And.intro @undT_28 (And.intro @zeroT_25 @zeroT_44)))))
theorem ff_26 : type_of% (And.intro (And.intro (And.intro @agg_3 (And.intro @agg_4 @agg_23)) (And.intro (And.intro @agg_25 @agg_44) (And.intro @csz_3 @csz_4))) (And.intro (And.intro @csz_23 (And.intro @csz_25 @csz_44)) (And.intro (And.intro @esz_23 @esz_34) (And.intro @fofs_25_2 @fofs_44_0)))) := And.intro (And.intro (And.intro @agg_3 (And.intro @agg_4 @agg_23)) (And.intro (And.intro @agg_25 @agg_44) (And.intro @csz_3 @csz_4))) (And.intro (And.intro @csz_23 (And.intro @csz_25 @csz_44)) (And.intro (And.intro @esz_23 @esz_34) (And.intro @fofs_25_2 @fofs_44_0)))
theorem ff_27 : type_of% (And.intro (And.intro @agg_9 (And.intro @agg_22 @csz_9)) (And.intro (And.intro @csz_22 @esz_22) (And.intro @fofs_25_0 @fofs_25_1))) := And.intro (And.intro @agg_9 (And.intro @agg_22 @csz_9)) (And.intro (And.intro @csz_22 @esz_22) (And.intro @fofs_25_0 @fofs_25_1))
theorem ff_29 : type_of% (And.intro (And.intro @agg_22 (And.intro @agg_23 @csz_22)) (And.intro (And.intro @csz_23 @fofs_25_0) (And.intro @fofs_25_1 @fofs_25_2))) := And.intro (And.intro @agg_22 (And.intro @agg_23 @csz_22)) (And.intro (And.intro @csz_23 @fofs_25_0) (And.intro @fofs_25_1 @fofs_25_2))
theorem ff_30 : type_of% (And.intro (And.intro (And.intro @ebd_25 @ebd_44) (And.intro @ebs_22_2 @ebs_22_4)) (And.intro (And.intro @ebs_23_6 @ebs_28_1) (And.intro @ebs_28_2 (And.intro @isz_25 @zeroT_25)))) := And.intro (And.intro (And.intro @ebd_25 @ebd_44) (And.intro @ebs_22_2 @ebs_22_4)) (And.intro (And.intro @ebs_23_6 @ebs_28_1) (And.intro @ebs_28_2 (And.intro @isz_25 @zeroT_25)))
theorem ff_31 : type_of% (And.intro (And.intro (And.intro (And.intro @agg_3 (And.intro @agg_9 @agg_22)) (And.intro @agg_23 (And.intro @agg_25 @agg_28))) (And.intro (And.intro @agg_42 (And.intro @csz_3 @csz_9)) (And.intro @csz_22 (And.intro @csz_23 @csz_25)))) (And.intro (And.intro (And.intro @csz_28 (And.intro @csz_42 @esz_22)) (And.intro @esz_23 (And.intro @esz_28 @fofs_25_1))) (And.intro (And.intro @fofs_25_2 (And.intro @fofs_44_1 @fofs_44_2)) (And.intro @undT_22 (And.intro @undT_28 @zeroT_80))))) := And.intro (And.intro (And.intro (And.intro @agg_3 (And.intro @agg_9 @agg_22)) (And.intro @agg_23 (And.intro @agg_25 @agg_28))) (And.intro (And.intro @agg_42 (And.intro @csz_3 @csz_9)) (And.intro @csz_22 (And.intro @csz_23 @csz_25)))) (And.intro (And.intro (And.intro @csz_28 (And.intro @csz_42 @esz_22)) (And.intro @esz_23 (And.intro @esz_28 @fofs_25_1))) (And.intro (And.intro @fofs_25_2 (And.intro @fofs_44_1 @fofs_44_2)) (And.intro @undT_22 (And.intro @undT_28 @zeroT_80))))
theorem ff_32 : type_of% (And.intro @und_9 @undT_9) := And.intro @und_9 @undT_9
theorem ff_33 : type_of% (And.intro (And.intro @agg_9 @csz_9) (And.intro @esz_22 (And.intro @und_9 @undT_22))) := And.intro (And.intro @agg_9 @csz_9) (And.intro @esz_22 (And.intro @und_9 @undT_22))
theorem ff_34 : type_of% (And.intro @und_9 @undT_9) := And.intro @und_9 @undT_9
theorem ff_35 : type_of% (And.intro (And.intro (And.intro (And.intro @agg_3 (And.intro @agg_22 @agg_23)) (And.intro @agg_28 (And.intro @agg_42 @agg_44))) (And.intro (And.intro @csz_3 (And.intro @csz_22 @csz_23)) (And.intro @csz_28 (And.intro @csz_42 @csz_44)))) (And.intro (And.intro (And.intro @esz_23 (And.intro @esz_28 @fofs_25_0)) (And.intro @fofs_25_1 (And.intro @fofs_25_2 @fofs_44_0))) (And.intro (And.intro @fofs_44_1 (And.intro @fofs_44_2 @isz_44)) (And.intro (And.intro @und_3 @undT_22) (And.intro @undT_28 @zeroT_44))))) := And.intro (And.intro (And.intro (And.intro @agg_3 (And.intro @agg_22 @agg_23)) (And.intro @agg_28 (And.intro @agg_42 @agg_44))) (And.intro (And.intro @csz_3 (And.intro @csz_22 @csz_23)) (And.intro @csz_28 (And.intro @csz_42 @csz_44)))) (And.intro (And.intro (And.intro @esz_23 (And.intro @esz_28 @fofs_25_0)) (And.intro @fofs_25_1 (And.intro @fofs_25_2 @fofs_44_0))) (And.intro (And.intro @fofs_44_1 (And.intro @fofs_44_2 @isz_44)) (And.intro (And.intro @und_3 @undT_22) (And.intro @undT_28 @zeroT_44))))
theorem ff_36 : type_of% (And.intro (And.intro (And.intro @agg_3 @agg_23) (And.intro @csz_3 @csz_23)) (And.intro (And.intro @esz_23 @fofs_25_2) (And.intro @fofs_44_0 (And.intro @und_3 @undT_23)))) := And.intro (And.intro (And.intro @agg_3 @agg_23) (And.intro @csz_3 @csz_23)) (And.intro (And.intro @esz_23 @fofs_25_2) (And.intro @fofs_44_0 (And.intro @und_3 @undT_23)))
theorem ff_37 : type_of% (And.intro (And.intro (And.intro @agg_3 (And.intro @agg_23 @agg_28)) (And.intro @csz_3 (And.intro @csz_23 @csz_28))) (And.intro (And.intro @esz_23 (And.intro @esz_28 @fofs_25_2)) (And.intro (And.intro @fofs_44_1 @und_3) (And.intro @undT_23 @undT_28)))) := And.intro (And.intro (And.intro @agg_3 (And.intro @agg_23 @agg_28)) (And.intro @csz_3 (And.intro @csz_23 @csz_28))) (And.intro (And.intro @esz_23 (And.intro @esz_28 @fofs_25_2)) (And.intro (And.intro @fofs_44_1 @und_3) (And.intro @undT_23 @undT_28)))
theorem ff_38 : type_of% (And.intro (And.intro (And.intro @agg_3 @agg_4) (And.intro @agg_28 (And.intro @csz_3 @csz_4))) (And.intro (And.intro @csz_28 @esz_28) (And.intro @esz_34 (And.intro @fofs_44_1 @undT_28)))) := And.intro (And.intro (And.intro @agg_3 @agg_4) (And.intro @agg_28 (And.intro @csz_3 @csz_4))) (And.intro (And.intro @csz_28 @esz_28) (And.intro @esz_34 (And.intro @fofs_44_1 @undT_28)))
theorem ff_39 : type_of% (And.intro (And.intro @agg_3 @csz_3) (And.intro @esz_28 (And.intro @und_3 @undT_28))) := And.intro (And.intro @agg_3 @csz_3) (And.intro @esz_28 (And.intro @und_3 @undT_28))
theorem ff_40 : type_of% (And.intro (And.intro (And.intro (And.intro @agg_3 @agg_4) (And.intro @agg_23 @agg_44)) (And.intro (And.intro @csz_3 @csz_4) (And.intro @csz_23 @csz_44))) (And.intro (And.intro (And.intro @esz_23 @esz_34) (And.intro @fofs_25_2 @fofs_44_0)) (And.intro (And.intro @isz_4 @isz_44) (And.intro @undT_23 @zeroT_44)))) := And.intro (And.intro (And.intro (And.intro @agg_3 @agg_4) (And.intro @agg_23 @agg_44)) (And.intro (And.intro @csz_3 @csz_4) (And.intro @csz_23 @csz_44))) (And.intro (And.intro (And.intro @esz_23 @esz_34) (And.intro @fofs_25_2 @fofs_44_0)) (And.intro (And.intro @isz_4 @isz_44) (And.intro @undT_23 @zeroT_44)))
theorem ff_41 : type_of% (And.intro (And.intro (And.intro @agg_3 (And.intro @agg_4 @agg_28)) (And.intro @agg_34 (And.intro @csz_3 @csz_4))) (And.intro (And.intro @csz_28 (And.intro @csz_34 @esz_28)) (And.intro @esz_34 (And.intro @fofs_44_1 @undT_28)))) := And.intro (And.intro (And.intro @agg_3 (And.intro @agg_4 @agg_28)) (And.intro @agg_34 (And.intro @csz_3 @csz_4))) (And.intro (And.intro @csz_28 (And.intro @csz_34 @esz_28)) (And.intro @esz_34 (And.intro @fofs_44_1 @undT_28)))
theorem ff_42 : type_of% (And.intro (And.intro (And.intro (And.intro @agg_3 @agg_22) (And.intro @agg_23 @agg_44)) (And.intro (And.intro @csz_3 @csz_22) (And.intro @csz_23 (And.intro @csz_44 @eapp_34_34)))) (And.intro (And.intro (And.intro @ebs_34_0 @emk_34) (And.intro @esz_23 (And.intro @esz_34 @fofs_25_1))) (And.intro (And.intro @fofs_25_2 @fofs_44_0) (And.intro @isz_4 (And.intro @undT_22 @undT_23))))) := And.intro (And.intro (And.intro (And.intro @agg_3 @agg_22) (And.intro @agg_23 @agg_44)) (And.intro (And.intro @csz_3 @csz_22) (And.intro @csz_23 (And.intro @csz_44 @eapp_34_34)))) (And.intro (And.intro (And.intro @ebs_34_0 @emk_34) (And.intro @esz_23 (And.intro @esz_34 @fofs_25_1))) (And.intro (And.intro @fofs_25_2 @fofs_44_0) (And.intro @isz_4 (And.intro @undT_22 @undT_23))))
theorem ff_43 : type_of% (And.intro (And.intro (And.intro @agg_3 (And.intro @agg_4 @agg_28)) (And.intro @agg_34 (And.intro @csz_3 @csz_4))) (And.intro (And.intro @csz_28 (And.intro @csz_34 @esz_28)) (And.intro @esz_34 (And.intro @fofs_44_1 @undT_28)))) := And.intro (And.intro (And.intro @agg_3 (And.intro @agg_4 @agg_28)) (And.intro @agg_34 (And.intro @csz_3 @csz_4))) (And.intro (And.intro @csz_28 (And.intro @csz_34 @esz_28)) (And.intro @esz_34 (And.intro @fofs_44_1 @undT_28)))
theorem ff_44 : type_of% (And.intro (And.intro (And.intro @agg_3 @agg_23) (And.intro @csz_3 @csz_23)) (And.intro (And.intro @esz_23 @fofs_25_2) (And.intro @fofs_44_0 (And.intro @und_3 @undT_23)))) := And.intro (And.intro (And.intro @agg_3 @agg_23) (And.intro @csz_3 @csz_23)) (And.intro (And.intro @esz_23 @fofs_25_2) (And.intro @fofs_44_0 (And.intro @und_3 @undT_23)))
theorem ff_45 : type_of% (And.intro (And.intro (And.intro @agg_3 @agg_4) (And.intro @agg_28 (And.intro @csz_3 @csz_4))) (And.intro (And.intro @csz_28 @esz_28) (And.intro @esz_34 (And.intro @fofs_44_1 @undT_28)))) := And.intro (And.intro (And.intro @agg_3 @agg_4) (And.intro @agg_28 (And.intro @csz_3 @csz_4))) (And.intro (And.intro @csz_28 @esz_28) (And.intro @esz_34 (And.intro @fofs_44_1 @undT_28)))
theorem ff_46 : type_of% (And.intro (And.intro (And.intro @agg_3 @agg_4) (And.intro @agg_28 (And.intro @csz_3 @csz_4))) (And.intro (And.intro @csz_28 @esz_28) (And.intro @esz_34 (And.intro @fofs_44_1 @undT_28)))) := And.intro (And.intro (And.intro @agg_3 @agg_4) (And.intro @agg_28 (And.intro @csz_3 @csz_4))) (And.intro (And.intro @csz_28 @esz_28) (And.intro @esz_34 (And.intro @fofs_44_1 @undT_28)))
theorem ff_47 : type_of% (And.intro (And.intro @agg_3 (And.intro @agg_25 @csz_3)) (And.intro (And.intro @csz_25 @esz_28) (And.intro @und_39 @undT_28))) := And.intro (And.intro @agg_3 (And.intro @agg_25 @csz_3)) (And.intro (And.intro @csz_25 @esz_28) (And.intro @und_39 @undT_28))
theorem ff_48 : type_of% (And.intro (And.intro @agg_3 (And.intro @csz_3 @eapp_28_28)) (And.intro @ebs_28_1 (And.intro @esz_28 @undT_28))) := And.intro (And.intro @agg_3 (And.intro @csz_3 @eapp_28_28)) (And.intro @ebs_28_1 (And.intro @esz_28 @undT_28))
theorem ff_49 : type_of% (And.intro (And.intro (And.intro @agg_9 @agg_22) (And.intro @csz_9 @csz_22)) (And.intro (And.intro @esz_22 @fofs_25_0) (And.intro @fofs_25_1 @undT_22))) := And.intro (And.intro (And.intro @agg_9 @agg_22) (And.intro @csz_9 @csz_22)) (And.intro (And.intro @esz_22 @fofs_25_0) (And.intro @fofs_25_1 @undT_22))
theorem ff_51 : type_of% (And.intro (And.intro @agg_22 @csz_22) (And.intro @fofs_25_0 (And.intro @fofs_25_1 @undT_22))) := And.intro (And.intro @agg_22 @csz_22) (And.intro @fofs_25_0 (And.intro @fofs_25_1 @undT_22))
theorem ff_52 : type_of% (And.intro (And.intro @agg_3 @csz_3) (And.intro @esz_28 (And.intro @und_3 @undT_28))) := And.intro (And.intro @agg_3 @csz_3) (And.intro @esz_28 (And.intro @und_3 @undT_28))
theorem ff_54 : type_of% (And.intro (And.intro (And.intro (And.intro @agg_3 @agg_4) (And.intro @agg_23 (And.intro @agg_28 @agg_44))) (And.intro (And.intro @csz_3 @csz_4) (And.intro @csz_23 (And.intro @csz_28 @csz_44)))) (And.intro (And.intro (And.intro @esz_23 @esz_28) (And.intro @esz_34 (And.intro @fofs_25_2 @fofs_44_0))) (And.intro (And.intro @fofs_44_1 (And.intro @isz_44 @und_3)) (And.intro @undT_23 (And.intro @undT_28 @zeroT_44))))) := And.intro (And.intro (And.intro (And.intro @agg_3 @agg_4) (And.intro @agg_23 (And.intro @agg_28 @agg_44))) (And.intro (And.intro @csz_3 @csz_4) (And.intro @csz_23 (And.intro @csz_28 @csz_44)))) (And.intro (And.intro (And.intro @esz_23 @esz_28) (And.intro @esz_34 (And.intro @fofs_25_2 @fofs_44_0))) (And.intro (And.intro @fofs_44_1 (And.intro @isz_44 @und_3)) (And.intro @undT_23 (And.intro @undT_28 @zeroT_44))))
theorem ff_55 : type_of% (And.intro (And.intro @agg_9 (And.intro @csz_9 @esz_22)) (And.intro @und_3 (And.intro @und_9 @undT_22))) := And.intro (And.intro @agg_9 (And.intro @csz_9 @esz_22)) (And.intro @und_3 (And.intro @und_9 @undT_22))
theorem ff_56 : type_of% (And.intro (And.intro @agg_44 (And.intro @csz_44 @esz_23)) (And.intro (And.intro @isz_44 @und_3) (And.intro @undT_23 @zeroT_44))) := And.intro (And.intro @agg_44 (And.intro @csz_44 @esz_23)) (And.intro (And.intro @isz_44 @und_3) (And.intro @undT_23 @zeroT_44))
theorem ff_57 : type_of% (And.intro (And.intro (And.intro @agg_3 @agg_28) (And.intro @agg_42 (And.intro @csz_3 @csz_28))) (And.intro (And.intro @csz_42 @fofs_44_0) (And.intro @fofs_44_1 (And.intro @fofs_44_2 @und_3)))) := And.intro (And.intro (And.intro @agg_3 @agg_28) (And.intro @agg_42 (And.intro @csz_3 @csz_28))) (And.intro (And.intro @csz_42 @fofs_44_0) (And.intro @fofs_44_1 (And.intro @fofs_44_2 @und_3)))
theorem ff_58 : type_of% (@und_97) := @und_97
theorem ff_59 : type_of% (And.intro (And.intro @agg_78 (And.intro @csz_78 @eapp_78_9)) (And.intro @fofs_80_1 (And.intro @isz_78 @undT_9))) := And.intro (And.intro @agg_78 (And.intro @csz_78 @eapp_78_9)) (And.intro @fofs_80_1 (And.intro @isz_78 @undT_9))
theorem ff_60 : type_of% (@und_42) := @und_42
theorem ff_61 : type_of% (And.intro (And.intro @agg_78 @csz_78) (And.intro @fofs_80_1 @undT_78)) := And.intro (And.intro @agg_78 @csz_78) (And.intro @fofs_80_1 @undT_78)
theorem ff_63 : type_of% (@und_5) := @und_5
theorem ff_64 : type_of% (@und_5) := @und_5
theorem ff_65 : type_of% (And.intro @und_2 @und_42) := And.intro @und_2 @und_42
theorem ff_66 : type_of% (And.intro @und_3 @und_102) := And.intro @und_3 @und_102
theorem ff_67 : type_of% (And.intro (And.intro @agg_3 (And.intro @agg_23 @csz_3)) (And.intro (And.intro @csz_23 @esz_23) (And.intro @fofs_25_2 @fofs_44_0))) := And.intro (And.intro @agg_3 (And.intro @agg_23 @csz_3)) (And.intro (And.intro @csz_23 @esz_23) (And.intro @fofs_25_2 @fofs_44_0))
theorem ff_68 : type_of% (And.intro @agg_25 (And.intro @csz_25 @ebd_104)) := And.intro @agg_25 (And.intro @csz_25 @ebd_104)
theorem ff_69 : type_of% (And.intro (And.intro (And.intro (And.intro @agg_3 @agg_23) (And.intro @agg_28 @csz_3)) (And.intro (And.intro @csz_23 @csz_28) (And.intro @esz_23 @esz_28))) (And.intro (And.intro (And.intro @fofs_25_2 @fofs_44_0) (And.intro @fofs_44_1 @fofs_104_0)) (And.intro (And.intro @fofs_104_2 @isz_28) (And.intro @und_3 (And.intro @undT_23 @undT_28))))) := And.intro (And.intro (And.intro (And.intro @agg_3 @agg_23) (And.intro @agg_28 @csz_3)) (And.intro (And.intro @csz_23 @csz_28) (And.intro @esz_23 @esz_28))) (And.intro (And.intro (And.intro @fofs_25_2 @fofs_44_0) (And.intro @fofs_44_1 @fofs_104_0)) (And.intro (And.intro @fofs_104_2 @isz_28) (And.intro @und_3 (And.intro @undT_23 @undT_28))))
theorem ff_70 : type_of% (And.intro (And.intro (And.intro @agg_3 @agg_28) (And.intro @csz_3 (And.intro @csz_28 @eapp_28_28))) (And.intro (And.intro @ebs_28_1 @esz_28) (And.intro @fofs_104_1 (And.intro @fofs_104_2 @undT_28)))) := And.intro (And.intro (And.intro @agg_3 @agg_28) (And.intro @csz_3 (And.intro @csz_28 @eapp_28_28))) (And.intro (And.intro @ebs_28_1 @esz_28) (And.intro @fofs_104_1 (And.intro @fofs_104_2 @undT_28)))
theorem ff_71 : type_of% (And.intro (And.intro @und_3 @und_5) (And.intro @und_9 @undT_9)) := And.intro (And.intro @und_3 @und_5) (And.intro @und_9 @undT_9)
theorem ff_73 : type_of% (And.intro @und_5 (And.intro @und_9 @undT_9)) := And.intro @und_5 (And.intro @und_9 @undT_9)
theorem ff_74 : type_of% (And.intro @und_5 (And.intro @und_9 @undT_9)) := And.intro @und_5 (And.intro @und_9 @undT_9)
theorem ff_75 : type_of% (And.intro (And.intro @agg_4 @csz_4) (And.intro @esz_34 (And.intro @und_4 @undT_34))) := And.intro (And.intro @agg_4 @csz_4) (And.intro @esz_34 (And.intro @und_4 @undT_34))
theorem ff_76 : type_of% (And.intro @und_42 @und_97) := And.intro @und_42 @und_97
theorem ff_77 : type_of% (And.intro (And.intro @agg_77 (And.intro @csz_77 @fofs_80_0)) (And.intro @isz_77 (And.intro @und_77 @und_116))) := And.intro (And.intro @agg_77 (And.intro @csz_77 @fofs_80_0)) (And.intro @isz_77 (And.intro @und_77 @und_116))
theorem ff_78 : type_of% (@und_3) := @und_3
theorem ff_81 : type_of% (And.intro (And.intro @und_2 @und_5) (And.intro @und_9 (And.intro @und_42 @undT_9))) := And.intro (And.intro @und_2 @und_5) (And.intro @und_9 (And.intro @und_42 @undT_9))
theorem ff_82 : type_of% (@und_97) := @und_97
theorem ff_84 : type_of% (And.intro (And.intro (And.intro @agg_3 @agg_28) (And.intro @csz_3 (And.intro @csz_28 @eapp_28_28))) (And.intro (And.intro @ebs_28_1 (And.intro @esz_28 @fofs_104_1)) (And.intro @fofs_104_2 (And.intro @isz_28 @undT_28)))) := And.intro (And.intro (And.intro @agg_3 @agg_28) (And.intro @csz_3 (And.intro @csz_28 @eapp_28_28))) (And.intro (And.intro @ebs_28_1 (And.intro @esz_28 @fofs_104_1)) (And.intro @fofs_104_2 (And.intro @isz_28 @undT_28)))
theorem ff_87 : type_of% (And.intro (And.intro @agg_9 @csz_9) (And.intro @esz_22 (And.intro @und_9 @undT_22))) := And.intro (And.intro @agg_9 @csz_9) (And.intro @esz_22 (And.intro @und_9 @undT_22))
theorem ff_92 : type_of% (And.intro @und_9 @undT_9) := And.intro @und_9 @undT_9
theorem ff_93 : type_of% (And.intro (And.intro @und_3 @und_5) (And.intro @und_9 (And.intro @und_42 @undT_9))) := And.intro (And.intro @und_3 @und_5) (And.intro @und_9 (And.intro @und_42 @undT_9))
theorem ff_94 : type_of% (And.intro (And.intro @und_3 (And.intro @und_5 @und_9)) (And.intro @und_102 (And.intro @undT_9 @zeroT_80))) := And.intro (And.intro @und_3 (And.intro @und_5 @und_9)) (And.intro @und_102 (And.intro @undT_9 @zeroT_80))
theorem ff_99 : type_of% (And.intro (And.intro @emk_78 (And.intro @und_3 @und_9)) (And.intro @und_42 (And.intro @und_78 @und_128))) := And.intro (And.intro @emk_78 (And.intro @und_3 @und_9)) (And.intro @und_42 (And.intro @und_78 @und_128))
theorem ff_101 : type_of% (And.intro (And.intro @und_3 @und_5) (And.intro @und_9 @undT_9)) := And.intro (And.intro @und_3 @und_5) (And.intro @und_9 @undT_9)
theorem ff_102 : type_of% (@und_4) := @und_4
theorem ff_103 : type_of% (@undT_9) := @undT_9
theorem ff_104 : type_of% (@undT_9) := @undT_9
theorem ff_105 : type_of% (And.intro @und_102 @und_131) := And.intro @und_102 @und_131
theorem ff_107 : type_of% (And.intro (And.intro @agg_78 @csz_78) (And.intro @fofs_80_1 @undT_78)) := And.intro (And.intro @agg_78 @csz_78) (And.intro @fofs_80_1 @undT_78)
theorem ff_108 : type_of% (And.intro (And.intro @agg_78 @csz_78) (And.intro @fofs_80_1 @undT_78)) := And.intro (And.intro @agg_78 @csz_78) (And.intro @fofs_80_1 @undT_78)
theorem ff_109 : type_of% (And.intro (And.intro (And.intro (And.intro @agg_3 @agg_4) (And.intro @csz_3 (And.intro @csz_4 @eapp_78_9))) (And.intro (And.intro @ear_140 @ear_146) (And.intro @ear_149 (And.intro @fofs_151_0 @fofs_151_1)))) (And.intro (And.intro (And.intro @fofs_151_2 @und_3) (And.intro @und_5 (And.intro @und_12 @und_42))) (And.intro (And.intro @und_97 @und_128) (And.intro @und_131 (And.intro @zeroT_140 @zeroT_146))))) := And.intro (And.intro (And.intro (And.intro @agg_3 @agg_4) (And.intro @csz_3 (And.intro @csz_4 @eapp_78_9))) (And.intro (And.intro @ear_140 @ear_146) (And.intro @ear_149 (And.intro @fofs_151_0 @fofs_151_1)))) (And.intro (And.intro (And.intro @fofs_151_2 @und_3) (And.intro @und_5 (And.intro @und_12 @und_42))) (And.intro (And.intro @und_97 @und_128) (And.intro @und_131 (And.intro @zeroT_140 @zeroT_146))))
theorem ff_110 : type_of% (And.intro (And.intro (And.intro (And.intro @agg_3 @agg_4) (And.intro @csz_3 (And.intro @csz_4 @eapp_78_9))) (And.intro (And.intro @ear_140 @ear_146) (And.intro @ear_149 (And.intro @fofs_151_0 @fofs_151_1)))) (And.intro (And.intro (And.intro @fofs_151_2 @und_3) (And.intro @und_5 (And.intro @und_12 @und_42))) (And.intro (And.intro @und_97 @und_128) (And.intro @und_131 (And.intro @zeroT_140 @zeroT_146))))) := And.intro (And.intro (And.intro (And.intro @agg_3 @agg_4) (And.intro @csz_3 (And.intro @csz_4 @eapp_78_9))) (And.intro (And.intro @ear_140 @ear_146) (And.intro @ear_149 (And.intro @fofs_151_0 @fofs_151_1)))) (And.intro (And.intro (And.intro @fofs_151_2 @und_3) (And.intro @und_5 (And.intro @und_12 @und_42))) (And.intro (And.intro @und_97 @und_128) (And.intro @und_131 (And.intro @zeroT_140 @zeroT_146))))
theorem ff_111 : type_of% (@und_97) := @und_97
theorem ff_112 : type_of% (And.intro @und_9 @undT_9) := And.intro @und_9 @undT_9
theorem ff_113 : type_of% (And.intro (And.intro @agg_3 (And.intro @csz_3 @und_3)) (And.intro @und_5 (And.intro @und_9 @undT_9))) := And.intro (And.intro @agg_3 (And.intro @csz_3 @und_3)) (And.intro @und_5 (And.intro @und_9 @undT_9))
theorem ff_114 : type_of% (And.intro @und_97 @und_131) := And.intro @und_97 @und_131
theorem ff_116 : type_of% (And.intro (And.intro @agg_78 (And.intro @csz_78 @esz_78)) (And.intro @fofs_80_1 (And.intro @isz_78 @undT_78))) := And.intro (And.intro @agg_78 (And.intro @csz_78 @esz_78)) (And.intro @fofs_80_1 (And.intro @isz_78 @undT_78))
theorem ff_119 : type_of% (And.intro @eapp_78_78 @ebs_78_1) := And.intro @eapp_78_78 @ebs_78_1
theorem ff_120 : type_of% (And.intro (And.intro (And.intro @eapp_78_78 @ebs_78_1) (And.intro @ebs_78_2 (And.intro @ebs_78_3 @ebs_78_4))) (And.intro (And.intro @und_3 @und_5) (And.intro @und_9 (And.intro @und_97 @und_102)))) := And.intro (And.intro (And.intro @eapp_78_78 @ebs_78_1) (And.intro @ebs_78_2 (And.intro @ebs_78_3 @ebs_78_4))) (And.intro (And.intro @und_3 @und_5) (And.intro @und_9 (And.intro @und_97 @und_102)))
theorem ff_121 : type_of% (And.intro (And.intro (And.intro @agg_5 @csz_5) (And.intro @eapp_78_78 (And.intro @ebs_78_1 @ebs_78_2))) (And.intro (And.intro @ebs_78_3 @esz_78) (And.intro @und_3 (And.intro @und_5 @undT_78)))) := And.intro (And.intro (And.intro @agg_5 @csz_5) (And.intro @eapp_78_78 (And.intro @ebs_78_1 @ebs_78_2))) (And.intro (And.intro @ebs_78_3 @esz_78) (And.intro @und_3 (And.intro @und_5 @undT_78)))
theorem ff_122 : type_of% (And.intro (And.intro @und_3 @und_5) (And.intro @und_9 @und_97)) := And.intro (And.intro @und_3 @und_5) (And.intro @und_9 @und_97)
theorem ff_123 : type_of% (And.intro (And.intro @und_3 @und_12) (And.intro @und_97 @zeroT_159)) := And.intro (And.intro @und_3 @und_12) (And.intro @und_97 @zeroT_159)
theorem ff_124 : type_of% (And.intro (And.intro @agg_5 @csz_5) (And.intro @esz_78 (And.intro @und_5 @undT_78))) := And.intro (And.intro @agg_5 @csz_5) (And.intro @esz_78 (And.intro @und_5 @undT_78))
theorem ff_125 : type_of% (And.intro @agg_97 (And.intro @csz_97 @ear_168)) := And.intro @agg_97 (And.intro @csz_97 @ear_168)
theorem ff_127 : type_of% (And.intro (And.intro @agg_97 @csz_97) (And.intro @ear_168 (And.intro @und_5 @zeroT_159))) := And.intro (And.intro @agg_97 @csz_97) (And.intro @ear_168 (And.intro @und_5 @zeroT_159))
theorem ff_128 : type_of% (And.intro (And.intro (And.intro @agg_3 (And.intro @agg_5 @csz_3)) (And.intro (And.intro @csz_5 @ear_146) (And.intro @ear_149 @fofs_151_0))) (And.intro (And.intro @fofs_151_1 (And.intro @fofs_151_2 @isz_3)) (And.intro (And.intro @isz_5 @und_5) (And.intro @und_97 @zeroT_146)))) := And.intro (And.intro (And.intro @agg_3 (And.intro @agg_5 @csz_3)) (And.intro (And.intro @csz_5 @ear_146) (And.intro @ear_149 @fofs_151_0))) (And.intro (And.intro @fofs_151_1 (And.intro @fofs_151_2 @isz_3)) (And.intro (And.intro @isz_5 @und_5) (And.intro @und_97 @zeroT_146)))
theorem ff_129 : type_of% (And.intro (And.intro @agg_3 @csz_3) (And.intro @fofs_151_1 (And.intro @und_3 @und_102))) := And.intro (And.intro @agg_3 @csz_3) (And.intro @fofs_151_1 (And.intro @und_3 @und_102))
theorem ff_130 : type_of% (And.intro @agg_3 (And.intro @csz_3 @fofs_151_1)) := And.intro @agg_3 (And.intro @csz_3 @fofs_151_1)
theorem ff_131 : type_of% (And.intro (And.intro @und_3 @und_12) (And.intro @und_97 @zeroT_159)) := And.intro (And.intro @und_3 @und_12) (And.intro @und_97 @zeroT_159)
theorem ff_135 : type_of% (And.intro (And.intro @und_5 @und_9) (And.intro @und_131 @undT_9)) := And.intro (And.intro @und_5 @und_9) (And.intro @und_131 @undT_9)
theorem ff_137 : type_of% (And.intro (And.intro @eapp_78_9 (And.intro @eapp_78_78 @ear_146)) (And.intro @und_3 (And.intro @und_97 @zeroT_146))) := And.intro (And.intro @eapp_78_9 (And.intro @eapp_78_78 @ear_146)) (And.intro @und_3 (And.intro @und_97 @zeroT_146))
theorem ff_138 : type_of% (And.intro (And.intro @eapp_78_78 @ebs_78_1) (And.intro @und_2 @und_97)) := And.intro (And.intro @eapp_78_78 @ebs_78_1) (And.intro @und_2 @und_97)
theorem ff_141 : type_of% (And.intro (And.intro (And.intro @agg_97 @csz_97) (And.intro @ear_179 (And.intro @fofs_159_0 @fofs_159_1))) (And.intro (And.intro @fofs_159_2 @fofs_178_0) (And.intro @fofs_178_1 (And.intro @isz_3 @isz_97)))) := And.intro (And.intro (And.intro @agg_97 @csz_97) (And.intro @ear_179 (And.intro @fofs_159_0 @fofs_159_1))) (And.intro (And.intro @fofs_159_2 @fofs_178_0) (And.intro @fofs_178_1 (And.intro @isz_3 @isz_97)))
theorem ff_143 : type_of% (And.intro (And.intro (And.intro @agg_3 @agg_97) (And.intro @csz_3 @csz_97)) (And.intro (And.intro @fofs_159_0 @fofs_159_1) (And.intro @fofs_159_2 @und_97))) := And.intro (And.intro (And.intro @agg_3 @agg_97) (And.intro @csz_3 @csz_97)) (And.intro (And.intro @fofs_159_0 @fofs_159_1) (And.intro @fofs_159_2 @und_97))
theorem ff_144 : type_of% (And.intro @und_3 @und_162) := And.intro @und_3 @und_162
theorem ff_148 : type_of% (And.intro (And.intro @esz_78 (And.intro @isz_5 @und_5)) (And.intro (And.intro @und_9 @und_97) (And.intro @und_131 @undT_78))) := And.intro (And.intro @esz_78 (And.intro @isz_5 @und_5)) (And.intro (And.intro @und_9 @und_97) (And.intro @und_131 @undT_78))
theorem ff_151 : type_of% (@und_97) := @und_97
theorem ff_152 : type_of% (And.intro (And.intro (And.intro @agg_3 @agg_5) (And.intro @csz_3 (And.intro @csz_5 @ear_149))) (And.intro (And.intro @fofs_151_0 (And.intro @fofs_151_1 @fofs_151_2)) (And.intro @isz_3 (And.intro @und_3 @und_5)))) := And.intro (And.intro (And.intro @agg_3 @agg_5) (And.intro @csz_3 (And.intro @csz_5 @ear_149))) (And.intro (And.intro @fofs_151_0 (And.intro @fofs_151_1 @fofs_151_2)) (And.intro @isz_3 (And.intro @und_3 @und_5)))
theorem ff_153 : type_of% (And.intro (And.intro (And.intro (And.intro @agg_3 @agg_5) (And.intro @agg_9 (And.intro @agg_184 @csz_3))) (And.intro (And.intro @csz_5 @csz_9) (And.intro @csz_184 (And.intro @ear_149 @esz_184)))) (And.intro (And.intro (And.intro @fofs_151_0 @fofs_151_1) (And.intro @fofs_151_2 (And.intro @fofs_151_4 @fofs_183_0))) (And.intro (And.intro @fofs_183_1 (And.intro @isz_3 @isz_4)) (And.intro @isz_5 (And.intro @und_5 @und_102))))) := And.intro (And.intro (And.intro (And.intro @agg_3 @agg_5) (And.intro @agg_9 (And.intro @agg_184 @csz_3))) (And.intro (And.intro @csz_5 @csz_9) (And.intro @csz_184 (And.intro @ear_149 @esz_184)))) (And.intro (And.intro (And.intro @fofs_151_0 @fofs_151_1) (And.intro @fofs_151_2 (And.intro @fofs_151_4 @fofs_183_0))) (And.intro (And.intro @fofs_183_1 (And.intro @isz_3 @isz_4)) (And.intro @isz_5 (And.intro @und_5 @und_102))))
theorem ff_154 : type_of% (And.intro (And.intro (And.intro @agg_3 (And.intro @agg_5 @csz_3)) (And.intro (And.intro @csz_5 @ear_149) (And.intro @fofs_151_0 @fofs_151_1))) (And.intro (And.intro @fofs_151_2 (And.intro @fofs_151_4 @isz_3)) (And.intro (And.intro @isz_4 @isz_5) (And.intro @und_5 @und_102)))) := And.intro (And.intro (And.intro @agg_3 (And.intro @agg_5 @csz_3)) (And.intro (And.intro @csz_5 @ear_149) (And.intro @fofs_151_0 @fofs_151_1))) (And.intro (And.intro @fofs_151_2 (And.intro @fofs_151_4 @isz_3)) (And.intro (And.intro @isz_4 @isz_5) (And.intro @und_5 @und_102)))
theorem ff_155 : type_of% (And.intro (And.intro (And.intro @agg_3 (And.intro @agg_4 @agg_5)) (And.intro @csz_3 (And.intro @csz_4 @csz_5))) (And.intro (And.intro @ear_149 (And.intro @fofs_151_0 @fofs_151_1)) (And.intro @fofs_151_4 (And.intro @und_3 @und_5)))) := And.intro (And.intro (And.intro @agg_3 (And.intro @agg_4 @agg_5)) (And.intro @csz_3 (And.intro @csz_4 @csz_5))) (And.intro (And.intro @ear_149 (And.intro @fofs_151_0 @fofs_151_1)) (And.intro @fofs_151_4 (And.intro @und_3 @und_5)))
theorem ff_156 : type_of% (And.intro (And.intro (And.intro @agg_3 @agg_5) (And.intro @csz_3 (And.intro @csz_5 @ear_149))) (And.intro (And.intro @fofs_151_0 @fofs_151_1) (And.intro @fofs_151_2 (And.intro @isz_3 @isz_5)))) := And.intro (And.intro (And.intro @agg_3 @agg_5) (And.intro @csz_3 (And.intro @csz_5 @ear_149))) (And.intro (And.intro @fofs_151_0 @fofs_151_1) (And.intro @fofs_151_2 (And.intro @isz_3 @isz_5)))
theorem ff_157 : type_of% (And.intro (And.intro @agg_3 @csz_3) (And.intro @fofs_151_1 @isz_3)) := And.intro (And.intro @agg_3 @csz_3) (And.intro @fofs_151_1 @isz_3)
theorem ff_159 : type_of% (And.intro (And.intro @und_3 @und_5) (And.intro @und_9 (And.intro @und_131 @undT_9))) := And.intro (And.intro @und_3 @und_5) (And.intro @und_9 (And.intro @und_131 @undT_9))
theorem ff_161 : type_of% (And.intro (And.intro (And.intro @eapp_78_78 @ear_186) (And.intro @isz_5 @und_3)) (And.intro (And.intro @und_9 @und_78) (And.intro @und_97 (And.intro @und_102 @zeroT_186)))) := And.intro (And.intro (And.intro @eapp_78_78 @ear_186) (And.intro @isz_5 @und_3)) (And.intro (And.intro @und_9 @und_78) (And.intro @und_97 (And.intro @und_102 @zeroT_186)))
theorem ff_164 : type_of% (And.intro (And.intro @agg_5 (And.intro @csz_5 @esz_78)) (And.intro (And.intro @und_5 @und_9) (And.intro @undT_9 @undT_78))) := And.intro (And.intro @agg_5 (And.intro @csz_5 @esz_78)) (And.intro (And.intro @und_5 @und_9) (And.intro @undT_9 @undT_78))
theorem ff_165 : type_of% (@und_3) := @und_3
theorem ff_166 : type_of% (And.intro @und_102 @und_131) := And.intro @und_102 @und_131
theorem ff_167 : type_of% (And.intro (And.intro @agg_5 (And.intro @csz_5 @ear_140)) (And.intro @und_3 (And.intro @und_5 @und_131))) := And.intro (And.intro @agg_5 (And.intro @csz_5 @ear_140)) (And.intro @und_3 (And.intro @und_5 @und_131))
theorem ff_168 : type_of% (And.intro (And.intro @agg_5 (And.intro @csz_5 @ear_189)) (And.intro @und_3 (And.intro @und_5 @und_97))) := And.intro (And.intro @agg_5 (And.intro @csz_5 @ear_189)) (And.intro @und_3 (And.intro @und_5 @und_97))
end Go.Proofs.YtihjaobjhmmboaaGreatDoor

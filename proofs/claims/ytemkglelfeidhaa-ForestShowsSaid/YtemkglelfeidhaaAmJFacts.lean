/- A part of a proof. Its conditions: none. -/
import Derived.Test.YtemkglelfeidhaaAmD
import Derived.Test.YtemkglelfeidhaaRows
import Derived.KernelRfl
set_option linter.all false
namespace Go.Proofs.Ytemkglelfeidhaa
open Go.AM
def fns : List Nat := [3, 4, 5, 6, 7, 8, 9, 10, 11, 12, 13, 14, 15, 16, 17, 18, 19, 20, 21, 22, 23, 24, 25, 26, 27, 28, 29, 30, 31, 32, 33, 34, 35, 36, 37, 38, 39, 40, 41, 42, 43, 44, 45, 46, 47, 48, 49, 50, 51, 52, 53, 54, 55, 56, 57, 58, 59, 60, 61, 62, 63, 64, 65, 66, 67, 68, 69, 70, 71, 72, 73, 74, 75, 76, 77, 78, 79, 80, 81, 83, 85, 86, 87, 88]
theorem fns_ok : fns.all (fnOKb Try.prog) = true := by kernel_rfl
theorem orders : Try.prog.follows .mixedOrders = true := by kernel_rfl
theorem agg_3 : aggT Try.prog 3 = some false := by kernel_rfl
theorem agg_4 : aggT Try.prog 4 = some false := by kernel_rfl
theorem agg_9 : aggT Try.prog 9 = some false := by kernel_rfl
theorem agg_22 : aggT Try.prog 22 = some false := by kernel_rfl
theorem agg_23 : aggT Try.prog 23 = some false := by kernel_rfl
theorem agg_25 : aggT Try.prog 25 = some true := by kernel_rfl
theorem agg_26 : aggT Try.prog 26 = some false := by kernel_rfl
theorem agg_40 : aggT Try.prog 40 = some false := by kernel_rfl
theorem agg_47 : aggT Try.prog 47 = some false := by kernel_rfl
theorem agg_49 : aggT Try.prog 49 = some true := by kernel_rfl
theorem agg_62 : aggT Try.prog 62 = some false := by kernel_rfl
theorem agg_67 : aggT Try.prog 67 = some true := by kernel_rfl
theorem agg_74 : aggT Try.prog 74 = some true := by kernel_rfl
theorem agg_77 : aggT Try.prog 77 = some false := by kernel_rfl
theorem agg_82 : aggT Try.prog 82 = some true := by kernel_rfl
theorem agg_97 : aggT Try.prog 97 = some false := by kernel_rfl
theorem agg_99 : aggT Try.prog 99 = some false := by kernel_rfl
theorem agg_105 : aggT Try.prog 105 = some false := by kernel_rfl
theorem agg_106 : aggT Try.prog 106 = some false := by kernel_rfl
theorem agg_108 : aggT Try.prog 108 = some true := by kernel_rfl
theorem agg_113 : aggT Try.prog 113 = some true := by kernel_rfl
theorem csz_3 : Program.cellsOf Try.prog 3 = 1 := by kernel_rfl
theorem csz_4 : Program.cellsOf Try.prog 4 = 1 := by kernel_rfl
theorem csz_9 : Program.cellsOf Try.prog 9 = 1 := by kernel_rfl
theorem csz_22 : Program.cellsOf Try.prog 22 = 1 := by kernel_rfl
theorem csz_23 : Program.cellsOf Try.prog 23 = 1 := by kernel_rfl
theorem csz_25 : Program.cellsOf Try.prog 25 = 3 := by kernel_rfl
theorem csz_26 : Program.cellsOf Try.prog 26 = 1 := by kernel_rfl
theorem csz_40 : Program.cellsOf Try.prog 40 = 1 := by kernel_rfl
theorem csz_47 : Program.cellsOf Try.prog 47 = 1 := by kernel_rfl
theorem csz_49 : Program.cellsOf Try.prog 49 = 3 := by kernel_rfl
theorem csz_62 : Program.cellsOf Try.prog 62 = 1 := by kernel_rfl
theorem csz_67 : Program.cellsOf Try.prog 67 = 3 := by kernel_rfl
theorem csz_74 : Program.cellsOf Try.prog 74 = 4 := by kernel_rfl
theorem csz_77 : Program.cellsOf Try.prog 77 = 1 := by kernel_rfl
theorem csz_82 : Program.cellsOf Try.prog 82 = 2 := by kernel_rfl
theorem csz_97 : Program.cellsOf Try.prog 97 = 1 := by kernel_rfl
theorem csz_99 : Program.cellsOf Try.prog 99 = 1 := by kernel_rfl
theorem csz_105 : Program.cellsOf Try.prog 105 = 1 := by kernel_rfl
theorem csz_106 : Program.cellsOf Try.prog 106 = 1 := by kernel_rfl
theorem csz_108 : Program.cellsOf Try.prog 108 = 2 := by kernel_rfl
theorem csz_113 : Program.cellsOf Try.prog 113 = 3 := by kernel_rfl
theorem eapp_26_26 : eapp Try.prog #[26, 26] = some (3, 1) := by kernel_rfl
theorem eapp_76_76 : eapp Try.prog #[76, 76] = some (67, 3) := by kernel_rfl
theorem eapp_77_77 : eapp Try.prog #[77, 77] = some (82, 2) := by kernel_rfl
theorem eapp_97_97 : eapp Try.prog #[97, 97] = some (4, 1) := by kernel_rfl
theorem eapp_99_99 : eapp Try.prog #[99, 99] = some (108, 2) := by kernel_rfl
theorem eapp_106_106 : eapp Try.prog #[106, 106] = some (113, 3) := by kernel_rfl
theorem ebd_25 : ebd Try.prog 25 = some ([Value.slice none 0 0, Value.slice none 0 0, Value.slice none 0 0], [(0, 1), (1, 1), (2, 1)]) := by kernel_rfl
theorem ebd_49 : ebd Try.prog 49 = some ([Value.int IntKind.i64 (Int.ofNat 0), Value.slice none 0 0, Value.float FloatKind.f64 0], [(0, 1), (1, 1), (2, 1)]) := by kernel_rfl
theorem ebd_64 : ebd Try.prog 64 = some ([Value.slice none 0 0, Value.slice none 0 0, Value.slice none 0 0, Value.slice none 0 0, Value.map none], [(0, 3), (3, 1), (4, 1)]) := by kernel_rfl
theorem ebd_67 : ebd Try.prog 67 = some ([Value.int IntKind.i64 (Int.ofNat 0), Value.int IntKind.i64 (Int.ofNat 0), Value.int IntKind.i64 (Int.ofNat 0)], [(0, 1), (1, 1), (2, 1)]) := by kernel_rfl
theorem ebd_74 : ebd Try.prog 74 = some ([Value.int IntKind.i64 (Int.ofNat 0), Value.int IntKind.i64 (Int.ofNat 0), Value.int IntKind.i64 (Int.ofNat 0), Value.int IntKind.i64 (Int.ofNat 0)], [(0, 3), (3, 1)]) := by kernel_rfl
theorem ebd_82 : ebd Try.prog 82 = some ([Value.int IntKind.i64 (Int.ofNat 0), Value.slice none 0 0], [(0, 1), (1, 1)]) := by kernel_rfl
theorem ebd_101 : ebd Try.prog 101 = some ([Value.slice none 0 0, Value.slice none 0 0, Value.slice none 0 0, Value.slice none 0 0, Value.slice none 0 0, Value.slice none 0 0, Value.slice none 0 0, Value.slice none 0 0], [(0, 3), (3, 1), (4, 1), (5, 1), (6, 1), (7, 1)]) := by kernel_rfl
theorem ebd_108 : ebd Try.prog 108 = some ([Value.slice none 0 0, Value.map none], [(0, 1), (1, 1)]) := by kernel_rfl
theorem ebd_113 : ebd Try.prog 113 = some ([Value.int IntKind.i64 (Int.ofNat 0), Value.int IntKind.i64 (Int.ofNat 0), Value.int IntKind.i64 (Int.ofNat 0)], [(0, 1), (1, 1), (2, 1)]) := by kernel_rfl
theorem ebd_121 : ebd Try.prog 121 = some ([Value.slice none 0 0, Value.slice none 0 0, Value.slice none 0 0, Value.slice none 0 0, Value.slice none 0 0], [(0, 3), (3, 1), (4, 1)]) := by kernel_rfl
theorem ebs_22_1 : ebs Try.prog 22 1 = some (9, 1, [Value.string { data := { toList := [] } }]) := by kernel_rfl
theorem ebs_22_2 : ebs Try.prog 22 2 = some (9, 1, [Value.string { data := { toList := [] } }]) := by kernel_rfl
theorem ebs_23_2 : ebs Try.prog 23 2 = some (49, 3, [Value.int IntKind.i64 (Int.ofNat 0), Value.slice none 0 0, Value.float FloatKind.f64 0]) := by kernel_rfl
theorem ebs_26_0 : ebs Try.prog 26 0 = some (3, 1, [Value.int IntKind.i64 (Int.ofNat 0)]) := by kernel_rfl
theorem ebs_26_1 : ebs Try.prog 26 1 = some (3, 1, [Value.int IntKind.i64 (Int.ofNat 0)]) := by kernel_rfl
theorem ebs_26_3 : ebs Try.prog 26 3 = some (3, 1, [Value.int IntKind.i64 (Int.ofNat 0)]) := by kernel_rfl
theorem ebs_26_5 : ebs Try.prog 26 5 = some (3, 1, [Value.int IntKind.i64 (Int.ofNat 0)]) := by kernel_rfl
theorem ebs_76_1 : ebs Try.prog 76 1 = some (67, 3, [Value.int IntKind.i64 (Int.ofNat 0), Value.int IntKind.i64 (Int.ofNat 0), Value.int IntKind.i64 (Int.ofNat 0)]) := by kernel_rfl
theorem ebs_77_1 : ebs Try.prog 77 1 = some (82, 2, [Value.int IntKind.i64 (Int.ofNat 0), Value.slice none 0 0]) := by kernel_rfl
theorem ebs_97_1 : ebs Try.prog 97 1 = some (4, 1, [Value.bool false]) := by kernel_rfl
theorem ebs_99_1 : ebs Try.prog 99 1 = some (108, 2, [Value.slice none 0 0, Value.map none]) := by kernel_rfl
theorem ebs_106_1 : ebs Try.prog 106 1 = some (113, 3, [Value.int IntKind.i64 (Int.ofNat 0), Value.int IntKind.i64 (Int.ofNat 0), Value.int IntKind.i64 (Int.ofNat 0)]) := by kernel_rfl
theorem emk_26 : emk Try.prog 26 = some (3, [Value.int IntKind.i64 (Int.ofNat 0)]) := by kernel_rfl
theorem emk_97 : emk Try.prog 97 = some (4, [Value.bool false]) := by kernel_rfl
theorem esz_22 : esz Try.prog 22 = some (9, 1) := by kernel_rfl
theorem esz_23 : esz Try.prog 23 = some (49, 3) := by kernel_rfl
theorem esz_26 : esz Try.prog 26 = some (3, 1) := by kernel_rfl
theorem esz_76 : esz Try.prog 76 = some (67, 3) := by kernel_rfl
theorem esz_77 : esz Try.prog 77 = some (82, 2) := by kernel_rfl
theorem esz_97 : esz Try.prog 97 = some (4, 1) := by kernel_rfl
theorem esz_99 : esz Try.prog 99 = some (108, 2) := by kernel_rfl
theorem esz_106 : esz Try.prog 106 = some (113, 3) := by kernel_rfl
theorem fofs_25_0 : fofs Try.prog 25 0 = some 0 := by kernel_rfl
theorem fofs_25_1 : fofs Try.prog 25 1 = some 1 := by kernel_rfl
theorem fofs_25_2 : fofs Try.prog 25 2 = some 2 := by kernel_rfl
theorem fofs_49_0 : fofs Try.prog 49 0 = some 0 := by kernel_rfl
theorem fofs_49_1 : fofs Try.prog 49 1 = some 1 := by kernel_rfl
theorem fofs_49_2 : fofs Try.prog 49 2 = some 2 := by kernel_rfl
theorem fofs_64_0 : fofs Try.prog 64 0 = some 0 := by kernel_rfl
theorem fofs_64_1 : fofs Try.prog 64 1 = some 3 := by kernel_rfl
theorem fofs_64_2 : fofs Try.prog 64 2 = some 4 := by kernel_rfl
theorem fofs_67_0 : fofs Try.prog 67 0 = some 0 := by kernel_rfl
theorem fofs_67_1 : fofs Try.prog 67 1 = some 1 := by kernel_rfl
theorem fofs_67_2 : fofs Try.prog 67 2 = some 2 := by kernel_rfl
theorem fofs_74_0 : fofs Try.prog 74 0 = some 0 := by kernel_rfl
theorem fofs_74_1 : fofs Try.prog 74 1 = some 3 := by kernel_rfl
theorem fofs_82_0 : fofs Try.prog 82 0 = some 0 := by kernel_rfl
theorem fofs_82_1 : fofs Try.prog 82 1 = some 1 := by kernel_rfl
theorem fofs_101_0 : fofs Try.prog 101 0 = some 0 := by kernel_rfl
theorem fofs_101_1 : fofs Try.prog 101 1 = some 3 := by kernel_rfl
theorem fofs_101_2 : fofs Try.prog 101 2 = some 4 := by kernel_rfl
theorem fofs_101_3 : fofs Try.prog 101 3 = some 5 := by kernel_rfl
theorem fofs_101_4 : fofs Try.prog 101 4 = some 6 := by kernel_rfl
theorem fofs_101_5 : fofs Try.prog 101 5 = some 7 := by kernel_rfl
theorem fofs_108_0 : fofs Try.prog 108 0 = some 0 := by kernel_rfl
theorem fofs_108_1 : fofs Try.prog 108 1 = some 1 := by kernel_rfl
theorem fofs_113_0 : fofs Try.prog 113 0 = some 0 := by kernel_rfl
theorem fofs_113_1 : fofs Try.prog 113 1 = some 1 := by kernel_rfl
theorem fofs_113_2 : fofs Try.prog 113 2 = some 2 := by kernel_rfl
theorem fofs_121_0 : fofs Try.prog 121 0 = some 0 := by kernel_rfl
theorem fofs_121_1 : fofs Try.prog 121 1 = some 3 := by kernel_rfl
theorem fofs_121_2 : fofs Try.prog 121 2 = some 4 := by kernel_rfl
theorem grt_26_26 : growT Try.prog #[26, 26] = false := by kernel_rfl
theorem grt_76_76 : growT Try.prog #[76, 76] = false := by kernel_rfl
theorem grt_77_77 : growT Try.prog #[77, 77] = false := by kernel_rfl
theorem grt_97_97 : growT Try.prog #[97, 97] = false := by kernel_rfl
theorem grt_99_99 : growT Try.prog #[99, 99] = false := by kernel_rfl
theorem grt_106_106 : growT Try.prog #[106, 106] = true := by kernel_rfl
theorem isz_3 : isz Try.prog 3 = some 1 := by kernel_rfl
theorem isz_4 : isz Try.prog 4 = some 1 := by kernel_rfl
theorem isz_25 : isz Try.prog 25 = some 3 := by kernel_rfl
theorem isz_26 : isz Try.prog 26 = some 1 := by kernel_rfl
theorem isz_49 : isz Try.prog 49 = some 3 := by kernel_rfl
theorem isz_67 : isz Try.prog 67 = some 3 := by kernel_rfl
theorem isz_74 : isz Try.prog 74 = some 4 := by kernel_rfl
theorem isz_77 : isz Try.prog 77 = some 1 := by kernel_rfl
theorem isz_97 : isz Try.prog 97 = some 1 := by kernel_rfl
theorem isz_99 : isz Try.prog 99 = some 1 := by kernel_rfl
theorem isz_106 : isz Try.prog 106 = some 1 := by kernel_rfl
theorem isz_108 : isz Try.prog 108 = some 2 := by kernel_rfl
theorem isz_113 : isz Try.prog 113 = some 3 := by kernel_rfl
theorem und_2 : Program.underlying Try.prog 2 = some (TypeDesc.int IntKind.i64) := by kernel_rfl
theorem und_3 : Program.underlying Try.prog 3 = some (TypeDesc.int IntKind.i64) := by kernel_rfl
theorem und_4 : Program.underlying Try.prog 4 = some TypeDesc.bool := by kernel_rfl
theorem und_5 : Program.underlying Try.prog 5 = some (TypeDesc.int IntKind.u8) := by kernel_rfl
theorem und_9 : Program.underlying Try.prog 9 = some TypeDesc.string := by kernel_rfl
theorem und_34 : Program.underlying Try.prog 34 = some (TypeDesc.int IntKind.i64) := by kernel_rfl
theorem und_40 : Program.underlying Try.prog 40 = some (TypeDesc.pointer 64) := by kernel_rfl
theorem und_47 : Program.underlying Try.prog 47 = some (TypeDesc.float FloatKind.f64) := by kernel_rfl
theorem und_133 : Program.underlying Try.prog 133 = some (TypeDesc.int IntKind.u64) := by kernel_rfl
theorem und_137 : Program.underlying Try.prog 137 = some (TypeDesc.int IntKind.u64) := by kernel_rfl
theorem undT_9 : undT Try.prog #[9] = some TypeDesc.string := by kernel_rfl
theorem undT_22 : undT Try.prog #[22] = some (TypeDesc.slice 9) := by kernel_rfl
theorem undT_23 : undT Try.prog #[23] = some (TypeDesc.slice 49) := by kernel_rfl
theorem undT_26 : undT Try.prog #[26] = some (TypeDesc.slice 3) := by kernel_rfl
theorem undT_76 : undT Try.prog #[76] = some (TypeDesc.slice 67) := by kernel_rfl
theorem undT_77 : undT Try.prog #[77] = some (TypeDesc.slice 82) := by kernel_rfl
theorem undT_99 : undT Try.prog #[99] = some (TypeDesc.slice 108) := by kernel_rfl
theorem undT_106 : undT Try.prog #[106] = some (TypeDesc.slice 113) := by kernel_rfl
theorem zeroT_25 : zeroT Try.prog 25 = some (Value.agg { toList := [Value.slice none 0 0, Value.slice none 0 0, Value.slice none 0 0] }) := by kernel_rfl
theorem zeroT_26 : zeroT Try.prog 26 = some (Value.slice none 0 0) := by kernel_rfl
theorem zeroT_49 : zeroT Try.prog 49 = some (Value.agg { toList := [Value.int IntKind.i64 (Int.ofNat 0), Value.slice none 0 0, Value.float FloatKind.f64 0] }) := by kernel_rfl
theorem zeroT_67 : zeroT Try.prog 67 = some (Value.agg { toList := [Value.int IntKind.i64 (Int.ofNat 0), Value.int IntKind.i64 (Int.ofNat 0), Value.int IntKind.i64 (Int.ofNat 0)] }) := by kernel_rfl
theorem zeroT_74 : zeroT Try.prog 74 = some (Value.agg { toList := [Value.int IntKind.i64 (Int.ofNat 0), Value.int IntKind.i64 (Int.ofNat 0), Value.int IntKind.i64 (Int.ofNat 0), Value.int IntKind.i64 (Int.ofNat 0)] }) := by kernel_rfl
theorem zeroT_77 : zeroT Try.prog 77 = some (Value.slice none 0 0) := by kernel_rfl
theorem zeroT_97 : zeroT Try.prog 97 = some (Value.slice none 0 0) := by kernel_rfl
theorem zeroT_108 : zeroT Try.prog 108 = some (Value.agg { toList := [Value.slice none 0 0, Value.map none] }) := by kernel_rfl
theorem zeroT_113 : zeroT Try.prog 113 = some (Value.agg { toList := [Value.int IntKind.i64 (Int.ofNat 0), Value.int IntKind.i64 (Int.ofNat 0), Value.int IntKind.i64 (Int.ofNat 0)] }) := by kernel_rfl
theorem ok6 : FnOK Try.prog 6 Try.f6 (Try.f6.body.getD .skip) := fnOK_of fns_ok 6 _ _ (by kernel_rfl) Try.func6 rfl
theorem ok7 : FnOK Try.prog 7 Try.f7 (Try.f7.body.getD .skip) := fnOK_of fns_ok 7 _ _ (by kernel_rfl) Try.func7 rfl
theorem ok8 : FnOK Try.prog 8 Try.f8 (Try.f8.body.getD .skip) := fnOK_of fns_ok 8 _ _ (by kernel_rfl) Try.func8 rfl
theorem ok9 : FnOK Try.prog 9 Try.f9 (Try.f9.body.getD .skip) := fnOK_of fns_ok 9 _ _ (by kernel_rfl) Try.func9 rfl
theorem ok11 : FnOK Try.prog 11 Try.f11 (Try.f11.body.getD .skip) := fnOK_of fns_ok 11 _ _ (by kernel_rfl) Try.func11 rfl
theorem ok12 : FnOK Try.prog 12 Try.f12 (Try.f12.body.getD .skip) := fnOK_of fns_ok 12 _ _ (by kernel_rfl) Try.func12 rfl
theorem ok13 : FnOK Try.prog 13 Try.f13 (Try.f13.body.getD .skip) := fnOK_of fns_ok 13 _ _ (by kernel_rfl) Try.func13 rfl
theorem ok14 : FnOK Try.prog 14 Try.f14 (Try.f14.body.getD .skip) := fnOK_of fns_ok 14 _ _ (by kernel_rfl) Try.func14 rfl
theorem ok15 : FnOK Try.prog 15 Try.f15 (Try.f15.body.getD .skip) := fnOK_of fns_ok 15 _ _ (by kernel_rfl) Try.func15 rfl
theorem ok16 : FnOK Try.prog 16 Try.f16 (Try.f16.body.getD .skip) := fnOK_of fns_ok 16 _ _ (by kernel_rfl) Try.func16 rfl
theorem ok17 : FnOK Try.prog 17 Try.f17 (Try.f17.body.getD .skip) := fnOK_of fns_ok 17 _ _ (by kernel_rfl) Try.func17 rfl
theorem ok18 : FnOK Try.prog 18 Try.f18 (Try.f18.body.getD .skip) := fnOK_of fns_ok 18 _ _ (by kernel_rfl) Try.func18 rfl
theorem ok19 : FnOK Try.prog 19 Try.f19 (Try.f19.body.getD .skip) := fnOK_of fns_ok 19 _ _ (by kernel_rfl) Try.func19 rfl
theorem ok20 : FnOK Try.prog 20 Try.f20 (Try.f20.body.getD .skip) := fnOK_of fns_ok 20 _ _ (by kernel_rfl) Try.func20 rfl
theorem ok21 : FnOK Try.prog 21 Try.f21 (Try.f21.body.getD .skip) := fnOK_of fns_ok 21 _ _ (by kernel_rfl) Try.func21 rfl
theorem ok22 : FnOK Try.prog 22 Try.f22 (Try.f22.body.getD .skip) := fnOK_of fns_ok 22 _ _ (by kernel_rfl) Try.func22 rfl
theorem ok23 : FnOK Try.prog 23 Try.f23 (Try.f23.body.getD .skip) := fnOK_of fns_ok 23 _ _ (by kernel_rfl) Try.func23 rfl
theorem ok24 : FnOK Try.prog 24 Try.f24 (Try.f24.body.getD .skip) := fnOK_of fns_ok 24 _ _ (by kernel_rfl) Try.func24 rfl
theorem ok25 : FnOK Try.prog 25 Try.f25 (Try.f25.body.getD .skip) := fnOK_of fns_ok 25 _ _ (by kernel_rfl) Try.func25 rfl
theorem ok26 : FnOK Try.prog 26 Try.f26 (Try.f26.body.getD .skip) := fnOK_of fns_ok 26 _ _ (by kernel_rfl) Try.func26 rfl
theorem ok27 : FnOK Try.prog 27 Try.f27 (Try.f27.body.getD .skip) := fnOK_of fns_ok 27 _ _ (by kernel_rfl) Try.func27 rfl
theorem ok30 : FnOK Try.prog 30 Try.f30 (Try.f30.body.getD .skip) := fnOK_of fns_ok 30 _ _ (by kernel_rfl) Try.func30 rfl
theorem ok31 : FnOK Try.prog 31 Try.f31 (Try.f31.body.getD .skip) := fnOK_of fns_ok 31 _ _ (by kernel_rfl) Try.func31 rfl
theorem ok32 : FnOK Try.prog 32 Try.f32 (Try.f32.body.getD .skip) := fnOK_of fns_ok 32 _ _ (by kernel_rfl) Try.func32 rfl
theorem ok33 : FnOK Try.prog 33 Try.f33 (Try.f33.body.getD .skip) := fnOK_of fns_ok 33 _ _ (by kernel_rfl) Try.func33 rfl
theorem ok34 : FnOK Try.prog 34 Try.f34 (Try.f34.body.getD .skip) := fnOK_of fns_ok 34 _ _ (by kernel_rfl) Try.func34 rfl
theorem ok35 : FnOK Try.prog 35 Try.f35 (Try.f35.body.getD .skip) := fnOK_of fns_ok 35 _ _ (by kernel_rfl) Try.func35 rfl
theorem ok36 : FnOK Try.prog 36 Try.f36 (Try.f36.body.getD .skip) := fnOK_of fns_ok 36 _ _ (by kernel_rfl) Try.func36 rfl
theorem ok37 : FnOK Try.prog 37 Try.f37 (Try.f37.body.getD .skip) := fnOK_of fns_ok 37 _ _ (by kernel_rfl) Try.func37 rfl
theorem ok38 : FnOK Try.prog 38 Try.f38 (Try.f38.body.getD .skip) := fnOK_of fns_ok 38 _ _ (by kernel_rfl) Try.func38 rfl
theorem ok39 : FnOK Try.prog 39 Try.f39 (Try.f39.body.getD .skip) := fnOK_of fns_ok 39 _ _ (by kernel_rfl) Try.func39 rfl
theorem ok40 : FnOK Try.prog 40 Try.f40 (Try.f40.body.getD .skip) := fnOK_of fns_ok 40 _ _ (by kernel_rfl) Try.func40 rfl
theorem ok41 : FnOK Try.prog 41 Try.f41 (Try.f41.body.getD .skip) := fnOK_of fns_ok 41 _ _ (by kernel_rfl) Try.func41 rfl
theorem ok42 : FnOK Try.prog 42 Try.f42 (Try.f42.body.getD .skip) := fnOK_of fns_ok 42 _ _ (by kernel_rfl) Try.func42 rfl
theorem ok43 : FnOK Try.prog 43 Try.f43 (Try.f43.body.getD .skip) := fnOK_of fns_ok 43 _ _ (by kernel_rfl) Try.func43 rfl
theorem ok44 : FnOK Try.prog 44 Try.f44 (Try.f44.body.getD .skip) := fnOK_of fns_ok 44 _ _ (by kernel_rfl) Try.func44 rfl
theorem ok45 : FnOK Try.prog 45 Try.f45 (Try.f45.body.getD .skip) := fnOK_of fns_ok 45 _ _ (by kernel_rfl) Try.func45 rfl
theorem ok46 : FnOK Try.prog 46 Try.f46 (Try.f46.body.getD .skip) := fnOK_of fns_ok 46 _ _ (by kernel_rfl) Try.func46 rfl
theorem ok47 : FnOK Try.prog 47 Try.f47 (Try.f47.body.getD .skip) := fnOK_of fns_ok 47 _ _ (by kernel_rfl) Try.func47 rfl
theorem ok48 : FnOK Try.prog 48 Try.f48 (Try.f48.body.getD .skip) := fnOK_of fns_ok 48 _ _ (by kernel_rfl) Try.func48 rfl
theorem ok49 : FnOK Try.prog 49 Try.f49 (Try.f49.body.getD .skip) := fnOK_of fns_ok 49 _ _ (by kernel_rfl) Try.func49 rfl
theorem ok51 : FnOK Try.prog 51 Try.f51 (Try.f51.body.getD .skip) := fnOK_of fns_ok 51 _ _ (by kernel_rfl) Try.func51 rfl
theorem ok52 : FnOK Try.prog 52 Try.f52 (Try.f52.body.getD .skip) := fnOK_of fns_ok 52 _ _ (by kernel_rfl) Try.func52 rfl
theorem ok53 : FnOK Try.prog 53 Try.f53 (Try.f53.body.getD .skip) := fnOK_of fns_ok 53 _ _ (by kernel_rfl) Try.func53 rfl
theorem ok54 : FnOK Try.prog 54 Try.f54 (Try.f54.body.getD .skip) := fnOK_of fns_ok 54 _ _ (by kernel_rfl) Try.func54 rfl
theorem ok55 : FnOK Try.prog 55 Try.f55 (Try.f55.body.getD .skip) := fnOK_of fns_ok 55 _ _ (by kernel_rfl) Try.func55 rfl
theorem ok56 : FnOK Try.prog 56 Try.f56 (Try.f56.body.getD .skip) := fnOK_of fns_ok 56 _ _ (by kernel_rfl) Try.func56 rfl
theorem ok57 : FnOK Try.prog 57 Try.f57 (Try.f57.body.getD .skip) := fnOK_of fns_ok 57 _ _ (by kernel_rfl) Try.func57 rfl
theorem ok58 : FnOK Try.prog 58 Try.f58 (Try.f58.body.getD .skip) := fnOK_of fns_ok 58 _ _ (by kernel_rfl) Try.func58 rfl
theorem ok59 : FnOK Try.prog 59 Try.f59 (Try.f59.body.getD .skip) := fnOK_of fns_ok 59 _ _ (by kernel_rfl) Try.func59 rfl
theorem ok60 : FnOK Try.prog 60 Try.f60 (Try.f60.body.getD .skip) := fnOK_of fns_ok 60 _ _ (by kernel_rfl) Try.func60 rfl
theorem ok61 : FnOK Try.prog 61 Try.f61 (Try.f61.body.getD .skip) := fnOK_of fns_ok 61 _ _ (by kernel_rfl) Try.func61 rfl
theorem ok62 : FnOK Try.prog 62 Try.f62 (Try.f62.body.getD .skip) := fnOK_of fns_ok 62 _ _ (by kernel_rfl) Try.func62 rfl
theorem ok63 : FnOK Try.prog 63 Try.f63 (Try.f63.body.getD .skip) := fnOK_of fns_ok 63 _ _ (by kernel_rfl) Try.func63 rfl
theorem ok64 : FnOK Try.prog 64 Try.f64 (Try.f64.body.getD .skip) := fnOK_of fns_ok 64 _ _ (by kernel_rfl) Try.func64 rfl
theorem ok65 : FnOK Try.prog 65 Try.f65 (Try.f65.body.getD .skip) := fnOK_of fns_ok 65 _ _ (by kernel_rfl) Try.func65 rfl
theorem ok66 : FnOK Try.prog 66 Try.f66 (Try.f66.body.getD .skip) := fnOK_of fns_ok 66 _ _ (by kernel_rfl) Try.func66 rfl
theorem ok67 : FnOK Try.prog 67 Try.f67 (Try.f67.body.getD .skip) := fnOK_of fns_ok 67 _ _ (by kernel_rfl) Try.func67 rfl
theorem ok68 : FnOK Try.prog 68 Try.f68 (Try.f68.body.getD .skip) := fnOK_of fns_ok 68 _ _ (by kernel_rfl) Try.func68 rfl
theorem ok70 : FnOK Try.prog 70 Try.f70 (Try.f70.body.getD .skip) := fnOK_of fns_ok 70 _ _ (by kernel_rfl) Try.func70 rfl
theorem ok71 : FnOK Try.prog 71 Try.f71 (Try.f71.body.getD .skip) := fnOK_of fns_ok 71 _ _ (by kernel_rfl) Try.func71 rfl
theorem ok72 : FnOK Try.prog 72 Try.f72 (Try.f72.body.getD .skip) := fnOK_of fns_ok 72 _ _ (by kernel_rfl) Try.func72 rfl
theorem ok73 : FnOK Try.prog 73 Try.f73 (Try.f73.body.getD .skip) := fnOK_of fns_ok 73 _ _ (by kernel_rfl) Try.func73 rfl
theorem ok74 : FnOK Try.prog 74 Try.f74 (Try.f74.body.getD .skip) := fnOK_of fns_ok 74 _ _ (by kernel_rfl) Try.func74 rfl
theorem ok75 : FnOK Try.prog 75 Try.f75 (Try.f75.body.getD .skip) := fnOK_of fns_ok 75 _ _ (by kernel_rfl) Try.func75 rfl
theorem ok76 : FnOK Try.prog 76 Try.f76 (Try.f76.body.getD .skip) := fnOK_of fns_ok 76 _ _ (by kernel_rfl) Try.func76 rfl
theorem ok77 : FnOK Try.prog 77 Try.f77 (Try.f77.body.getD .skip) := fnOK_of fns_ok 77 _ _ (by kernel_rfl) Try.func77 rfl
theorem ok78 : FnOK Try.prog 78 Try.f78 (Try.f78.body.getD .skip) := fnOK_of fns_ok 78 _ _ (by kernel_rfl) Try.func78 rfl
theorem ok79 : FnOK Try.prog 79 Try.f79 (Try.f79.body.getD .skip) := fnOK_of fns_ok 79 _ _ (by kernel_rfl) Try.func79 rfl
theorem ok80 : FnOK Try.prog 80 Try.f80 (Try.f80.body.getD .skip) := fnOK_of fns_ok 80 _ _ (by kernel_rfl) Try.func80 rfl
theorem ok81 : FnOK Try.prog 81 Try.f81 (Try.f81.body.getD .skip) := fnOK_of fns_ok 81 _ _ (by kernel_rfl) Try.func81 rfl
theorem ok85 : FnOK Try.prog 85 Try.f85 (Try.f85.body.getD .skip) := fnOK_of fns_ok 85 _ _ (by kernel_rfl) Try.func85 rfl
theorem ok86 : FnOK Try.prog 86 Try.f86 (Try.f86.body.getD .skip) := fnOK_of fns_ok 86 _ _ (by kernel_rfl) Try.func86 rfl
theorem ok87 : FnOK Try.prog 87 Try.f87 (Try.f87.body.getD .skip) := fnOK_of fns_ok 87 _ _ (by kernel_rfl) Try.func87 rfl
theorem ok88 : FnOK Try.prog 88 Try.f88 (Try.f88.body.getD .skip) := fnOK_of fns_ok 88 _ _ (by kernel_rfl) Try.func88 rfl
theorem ff_6 : type_of% (And.intro (And.intro @agg_25 (And.intro @csz_25 @und_3)) (And.intro @und_4 (And.intro @und_40 @undT_26))) := And.intro (And.intro @agg_25 (And.intro @csz_25 @und_3)) (And.intro @und_4 (And.intro @und_40 @undT_26))
theorem ff_7 : type_of% (And.intro (And.intro @ebs_26_1 (And.intro @ebs_26_3 @ebs_26_5)) (And.intro (And.intro @und_3 @und_34) (And.intro @und_40 @undT_26))) := And.intro (And.intro @ebs_26_1 (And.intro @ebs_26_3 @ebs_26_5)) (And.intro (And.intro @und_3 @und_34) (And.intro @und_40 @undT_26))
theorem ff_8 : type_of% (And.intro (And.intro (And.intro @agg_22 (And.intro @agg_23 @agg_26)) (And.intro (And.intro @csz_22 @csz_23) (And.intro @csz_26 @esz_23))) (And.intro (And.intro @fofs_25_0 (And.intro @fofs_25_1 @fofs_25_2)) (And.intro (And.intro @fofs_49_1 @undT_22) (And.intro @undT_23 @undT_26)))) := And.intro (And.intro (And.intro @agg_22 (And.intro @agg_23 @agg_26)) (And.intro (And.intro @csz_22 @csz_23) (And.intro @csz_26 @esz_23))) (And.intro (And.intro @fofs_25_0 (And.intro @fofs_25_1 @fofs_25_2)) (And.intro (And.intro @fofs_49_1 @undT_22) (And.intro @undT_23 @undT_26)))
theorem ff_9 : type_of% (And.intro (And.intro (And.intro @agg_9 (And.intro @agg_22 @agg_23)) (And.intro (And.intro @agg_25 @csz_9) (And.intro @csz_22 @csz_23))) (And.intro (And.intro (And.intro @csz_25 @esz_22) (And.intro @fofs_25_0 @fofs_25_1)) (And.intro (And.intro @fofs_25_2 @und_3) (And.intro @undT_22 @undT_23)))) := And.intro (And.intro (And.intro @agg_9 (And.intro @agg_22 @agg_23)) (And.intro (And.intro @agg_25 @csz_9) (And.intro @csz_22 @csz_23))) (And.intro (And.intro (And.intro @csz_25 @esz_22) (And.intro @fofs_25_0 @fofs_25_1)) (And.intro (And.intro @fofs_25_2 @und_3) (And.intro @undT_22 @undT_23)))
theorem ff_11 : type_of% (And.intro @agg_25 (And.intro @csz_25 @und_40)) := And.intro @agg_25 (And.intro @csz_25 @und_40)
theorem ff_12 : type_of% (And.intro @agg_25 (And.intro @csz_25 @und_34)) := And.intro @agg_25 (And.intro @csz_25 @und_34)
theorem ff_14 : type_of% (And.intro (And.intro @agg_25 (And.intro @csz_25 @eapp_26_26)) (And.intro @ebd_64 (And.intro @grt_26_26 @undT_26))) := And.intro (And.intro @agg_25 (And.intro @csz_25 @eapp_26_26)) (And.intro @ebd_64 (And.intro @grt_26_26 @undT_26))
theorem ff_15 : type_of% (And.intro (And.intro @agg_62 @csz_62) (And.intro @fofs_64_2 @und_3)) := And.intro (And.intro @agg_62 @csz_62) (And.intro @fofs_64_2 @und_3)
theorem ff_16 : type_of% (And.intro (And.intro @agg_25 @csz_25) (And.intro @ebs_26_1 @und_3)) := And.intro (And.intro @agg_25 @csz_25) (And.intro @ebs_26_1 @und_3)
theorem ff_17 : type_of% (And.intro (And.intro @agg_3 (And.intro @agg_25 @csz_3)) (And.intro @csz_25 (And.intro @esz_26 @undT_26))) := And.intro (And.intro @agg_3 (And.intro @agg_25 @csz_3)) (And.intro @csz_25 (And.intro @esz_26 @undT_26))
theorem ff_18 : type_of% (And.intro (And.intro (And.intro (And.intro @agg_3 @agg_62) (And.intro @agg_67 (And.intro @agg_82 @csz_3))) (And.intro (And.intro @csz_62 (And.intro @csz_67 @csz_82)) (And.intro @eapp_76_76 (And.intro @ebd_74 @ebs_76_1)))) (And.intro (And.intro (And.intro @esz_76 (And.intro @esz_77 @fofs_64_2)) (And.intro @fofs_67_0 (And.intro @grt_76_76 @isz_67))) (And.intro (And.intro @isz_74 (And.intro @und_3 @undT_76)) (And.intro @undT_77 (And.intro @zeroT_67 @zeroT_74))))) := And.intro (And.intro (And.intro (And.intro @agg_3 @agg_62) (And.intro @agg_67 (And.intro @agg_82 @csz_3))) (And.intro (And.intro @csz_62 (And.intro @csz_67 @csz_82)) (And.intro @eapp_76_76 (And.intro @ebd_74 @ebs_76_1)))) (And.intro (And.intro (And.intro @esz_76 (And.intro @esz_77 @fofs_64_2)) (And.intro @fofs_67_0 (And.intro @grt_76_76 @isz_67))) (And.intro (And.intro @isz_74 (And.intro @und_3 @undT_76)) (And.intro @undT_77 (And.intro @zeroT_67 @zeroT_74))))
theorem ff_19 : type_of% (And.intro (And.intro (And.intro @ebd_25 @ebd_49) (And.intro @ebs_22_1 @ebs_22_2)) (And.intro (And.intro @ebs_23_2 @ebs_26_1) (And.intro @ebs_26_3 (And.intro @isz_25 @zeroT_25)))) := And.intro (And.intro (And.intro @ebd_25 @ebd_49) (And.intro @ebs_22_1 @ebs_22_2)) (And.intro (And.intro @ebs_23_2 @ebs_26_1) (And.intro @ebs_26_3 (And.intro @isz_25 @zeroT_25)))
theorem ff_20 : type_of% (And.intro @und_9 @undT_9) := And.intro @und_9 @undT_9
theorem ff_21 : type_of% (And.intro (And.intro @agg_9 @csz_9) (And.intro @esz_22 (And.intro @und_9 @undT_22))) := And.intro (And.intro @agg_9 @csz_9) (And.intro @esz_22 (And.intro @und_9 @undT_22))
theorem ff_22 : type_of% (And.intro @und_9 @undT_9) := And.intro @und_9 @undT_9
theorem ff_23 : type_of% (And.intro (And.intro (And.intro (And.intro @agg_3 (And.intro @agg_22 @agg_23)) (And.intro @agg_26 (And.intro @agg_47 @agg_49))) (And.intro (And.intro @csz_3 (And.intro @csz_22 @csz_23)) (And.intro @csz_26 (And.intro @csz_47 @csz_49)))) (And.intro (And.intro (And.intro @esz_23 (And.intro @esz_26 @fofs_25_0)) (And.intro @fofs_25_1 (And.intro @fofs_25_2 @fofs_49_0))) (And.intro (And.intro @fofs_49_1 (And.intro @fofs_49_2 @isz_49)) (And.intro (And.intro @und_3 @undT_22) (And.intro @undT_26 @zeroT_49))))) := And.intro (And.intro (And.intro (And.intro @agg_3 (And.intro @agg_22 @agg_23)) (And.intro @agg_26 (And.intro @agg_47 @agg_49))) (And.intro (And.intro @csz_3 (And.intro @csz_22 @csz_23)) (And.intro @csz_26 (And.intro @csz_47 @csz_49)))) (And.intro (And.intro (And.intro @esz_23 (And.intro @esz_26 @fofs_25_0)) (And.intro @fofs_25_1 (And.intro @fofs_25_2 @fofs_49_0))) (And.intro (And.intro @fofs_49_1 (And.intro @fofs_49_2 @isz_49)) (And.intro (And.intro @und_3 @undT_22) (And.intro @undT_26 @zeroT_49))))
theorem ff_24 : type_of% (And.intro (And.intro (And.intro @agg_3 @agg_23) (And.intro @csz_3 @csz_23)) (And.intro (And.intro @esz_23 @fofs_25_2) (And.intro @fofs_49_0 (And.intro @und_3 @undT_23)))) := And.intro (And.intro (And.intro @agg_3 @agg_23) (And.intro @csz_3 @csz_23)) (And.intro (And.intro @esz_23 @fofs_25_2) (And.intro @fofs_49_0 (And.intro @und_3 @undT_23)))
theorem ff_25 : type_of% (And.intro (And.intro (And.intro @agg_3 (And.intro @agg_23 @agg_26)) (And.intro @csz_3 (And.intro @csz_23 @csz_26))) (And.intro (And.intro @esz_23 (And.intro @esz_26 @fofs_25_2)) (And.intro (And.intro @fofs_49_1 @und_3) (And.intro @undT_23 @undT_26)))) := And.intro (And.intro (And.intro @agg_3 (And.intro @agg_23 @agg_26)) (And.intro @csz_3 (And.intro @csz_23 @csz_26))) (And.intro (And.intro @esz_23 (And.intro @esz_26 @fofs_25_2)) (And.intro (And.intro @fofs_49_1 @und_3) (And.intro @undT_23 @undT_26)))
theorem ff_26 : type_of% (And.intro (And.intro @agg_3 (And.intro @agg_25 @csz_3)) (And.intro (And.intro @csz_25 @esz_26) (And.intro @und_3 @undT_26))) := And.intro (And.intro @agg_3 (And.intro @agg_25 @csz_3)) (And.intro (And.intro @csz_25 @esz_26) (And.intro @und_3 @undT_26))
theorem ff_27 : type_of% (And.intro (And.intro (And.intro @agg_3 @csz_3) (And.intro @eapp_26_26 @ebs_26_0)) (And.intro (And.intro @ebs_26_1 @esz_26) (And.intro @grt_26_26 @undT_26))) := And.intro (And.intro (And.intro @agg_3 @csz_3) (And.intro @eapp_26_26 @ebs_26_0)) (And.intro (And.intro @ebs_26_1 @esz_26) (And.intro @grt_26_26 @undT_26))
theorem ff_30 : type_of% (And.intro (And.intro @agg_3 @csz_3) (And.intro @esz_26 @undT_26)) := And.intro (And.intro @agg_3 @csz_3) (And.intro @esz_26 @undT_26)
theorem ff_31 : type_of% (And.intro (And.intro @agg_3 (And.intro @agg_25 @csz_3)) (And.intro (And.intro @csz_25 @esz_26) (And.intro @und_34 @undT_26))) := And.intro (And.intro @agg_3 (And.intro @agg_25 @csz_3)) (And.intro (And.intro @csz_25 @esz_26) (And.intro @und_34 @undT_26))
theorem ff_32 : type_of% (And.intro (And.intro @agg_3 (And.intro @csz_3 @eapp_26_26)) (And.intro (And.intro @ebs_26_1 @esz_26) (And.intro @grt_26_26 @undT_26))) := And.intro (And.intro @agg_3 (And.intro @csz_3 @eapp_26_26)) (And.intro (And.intro @ebs_26_1 @esz_26) (And.intro @grt_26_26 @undT_26))
theorem ff_33 : type_of% (And.intro (And.intro @agg_3 @csz_3) (And.intro @esz_26 (And.intro @und_3 @undT_26))) := And.intro (And.intro @agg_3 @csz_3) (And.intro @esz_26 (And.intro @und_3 @undT_26))
theorem ff_34 : type_of% (And.intro (And.intro (And.intro (And.intro @agg_3 (And.intro @agg_23 @agg_26)) (And.intro (And.intro @agg_49 @agg_62) (And.intro @agg_67 @csz_3))) (And.intro (And.intro (And.intro @csz_23 @csz_26) (And.intro @csz_49 @csz_62)) (And.intro (And.intro @csz_67 @eapp_76_76) (And.intro @ebd_67 @ebs_76_1)))) (And.intro (And.intro (And.intro (And.intro @esz_23 @esz_76) (And.intro @fofs_25_2 @fofs_49_0)) (And.intro (And.intro @fofs_64_0 @fofs_64_1) (And.intro @fofs_64_2 @grt_76_76))) (And.intro (And.intro (And.intro @isz_49 @isz_67) (And.intro @und_3 @undT_23)) (And.intro (And.intro @undT_26 @undT_76) (And.intro @zeroT_49 @zeroT_67))))) := And.intro (And.intro (And.intro (And.intro @agg_3 (And.intro @agg_23 @agg_26)) (And.intro (And.intro @agg_49 @agg_62) (And.intro @agg_67 @csz_3))) (And.intro (And.intro (And.intro @csz_23 @csz_26) (And.intro @csz_49 @csz_62)) (And.intro (And.intro @csz_67 @eapp_76_76) (And.intro @ebd_67 @ebs_76_1)))) (And.intro (And.intro (And.intro (And.intro @esz_23 @esz_76) (And.intro @fofs_25_2 @fofs_49_0)) (And.intro (And.intro @fofs_64_0 @fofs_64_1) (And.intro @fofs_64_2 @grt_76_76))) (And.intro (And.intro (And.intro @isz_49 @isz_67) (And.intro @und_3 @undT_23)) (And.intro (And.intro @undT_26 @undT_76) (And.intro @zeroT_49 @zeroT_67))))
theorem ff_35 : type_of% (And.intro (And.intro @agg_26 (And.intro @csz_26 @ebd_67)) (And.intro (And.intro @fofs_64_1 @isz_67) (And.intro @undT_26 @zeroT_67))) := And.intro (And.intro @agg_26 (And.intro @csz_26 @ebd_67)) (And.intro (And.intro @fofs_64_1 @isz_67) (And.intro @undT_26 @zeroT_67))
theorem ff_36 : type_of% (And.intro (And.intro (And.intro @agg_26 @agg_40) (And.intro @agg_62 (And.intro @agg_67 @csz_26))) (And.intro (And.intro @csz_40 @csz_62) (And.intro @csz_67 (And.intro @fofs_64_2 @zeroT_26)))) := And.intro (And.intro (And.intro @agg_26 @agg_40) (And.intro @agg_62 (And.intro @agg_67 @csz_26))) (And.intro (And.intro @csz_40 @csz_62) (And.intro @csz_67 (And.intro @fofs_64_2 @zeroT_26)))
theorem ff_37 : type_of% (And.intro @agg_25 (And.intro @csz_25 @und_3)) := And.intro @agg_25 (And.intro @csz_25 @und_3)
theorem ff_38 : type_of% (And.intro (And.intro (And.intro (And.intro (And.intro @agg_23 @agg_25) (And.intro @agg_26 @agg_49)) (And.intro (And.intro @agg_97 @agg_108) (And.intro @csz_23 @csz_25))) (And.intro (And.intro (And.intro @csz_26 @csz_49) (And.intro @csz_97 @csz_108)) (And.intro (And.intro @eapp_97_97 @ebd_101) (And.intro @ebd_108 @ebs_97_1)))) (And.intro (And.intro (And.intro (And.intro @ebs_99_1 @esz_23) (And.intro @fofs_25_2 @fofs_49_1)) (And.intro (And.intro @fofs_101_1 @fofs_101_3) (And.intro @fofs_101_4 @grt_97_97))) (And.intro (And.intro (And.intro @isz_26 @isz_49) (And.intro @isz_97 @isz_99)) (And.intro (And.intro @isz_108 @undT_23) (And.intro @zeroT_49 (And.intro @zeroT_97 @zeroT_108)))))) := And.intro (And.intro (And.intro (And.intro (And.intro @agg_23 @agg_25) (And.intro @agg_26 @agg_49)) (And.intro (And.intro @agg_97 @agg_108) (And.intro @csz_23 @csz_25))) (And.intro (And.intro (And.intro @csz_26 @csz_49) (And.intro @csz_97 @csz_108)) (And.intro (And.intro @eapp_97_97 @ebd_101) (And.intro @ebd_108 @ebs_97_1)))) (And.intro (And.intro (And.intro (And.intro @ebs_99_1 @esz_23) (And.intro @fofs_25_2 @fofs_49_1)) (And.intro (And.intro @fofs_101_1 @fofs_101_3) (And.intro @fofs_101_4 @grt_97_97))) (And.intro (And.intro (And.intro @isz_26 @isz_49) (And.intro @isz_97 @isz_99)) (And.intro (And.intro @isz_108 @undT_23) (And.intro @zeroT_49 (And.intro @zeroT_97 @zeroT_108)))))
theorem ff_39 : type_of% (And.intro (And.intro (And.intro (And.intro (And.intro @agg_3 @agg_26) (And.intro @agg_99 @agg_106)) (And.intro (And.intro @agg_108 @agg_113) (And.intro @csz_3 (And.intro @csz_26 @csz_99)))) (And.intro (And.intro (And.intro @csz_106 @csz_108) (And.intro @csz_113 @eapp_26_26)) (And.intro (And.intro @eapp_99_99 @ebd_108) (And.intro @ebd_113 (And.intro @ebs_26_1 @ebs_99_1))))) (And.intro (And.intro (And.intro (And.intro @esz_99 @esz_106) (And.intro @fofs_101_4 @fofs_101_5)) (And.intro (And.intro @fofs_108_0 @fofs_113_0) (And.intro @fofs_113_1 (And.intro @fofs_113_2 @grt_26_26)))) (And.intro (And.intro (And.intro @grt_99_99 @isz_26) (And.intro @isz_99 (And.intro @isz_108 @isz_113))) (And.intro (And.intro @und_3 @undT_99) (And.intro @undT_106 (And.intro @zeroT_108 @zeroT_113)))))) := And.intro (And.intro (And.intro (And.intro (And.intro @agg_3 @agg_26) (And.intro @agg_99 @agg_106)) (And.intro (And.intro @agg_108 @agg_113) (And.intro @csz_3 (And.intro @csz_26 @csz_99)))) (And.intro (And.intro (And.intro @csz_106 @csz_108) (And.intro @csz_113 @eapp_26_26)) (And.intro (And.intro @eapp_99_99 @ebd_108) (And.intro @ebd_113 (And.intro @ebs_26_1 @ebs_99_1))))) (And.intro (And.intro (And.intro (And.intro @esz_99 @esz_106) (And.intro @fofs_101_4 @fofs_101_5)) (And.intro (And.intro @fofs_108_0 @fofs_113_0) (And.intro @fofs_113_1 (And.intro @fofs_113_2 @grt_26_26)))) (And.intro (And.intro (And.intro @grt_99_99 @isz_26) (And.intro @isz_99 (And.intro @isz_108 @isz_113))) (And.intro (And.intro @und_3 @undT_99) (And.intro @undT_106 (And.intro @zeroT_108 @zeroT_113)))))
theorem ff_40 : type_of% (And.intro (And.intro (And.intro (And.intro @agg_3 (And.intro @agg_23 @agg_99)) (And.intro @agg_106 (And.intro @agg_113 @csz_3))) (And.intro (And.intro @csz_23 (And.intro @csz_99 @csz_106)) (And.intro @csz_113 (And.intro @esz_23 @esz_99)))) (And.intro (And.intro (And.intro @esz_106 (And.intro @fofs_25_2 @fofs_49_0)) (And.intro @fofs_101_0 (And.intro @fofs_101_4 @fofs_108_0))) (And.intro (And.intro @fofs_113_0 (And.intro @fofs_113_2 @isz_113)) (And.intro (And.intro @und_3 @undT_99) (And.intro @undT_106 @zeroT_113))))) := And.intro (And.intro (And.intro (And.intro @agg_3 (And.intro @agg_23 @agg_99)) (And.intro @agg_106 (And.intro @agg_113 @csz_3))) (And.intro (And.intro @csz_23 (And.intro @csz_99 @csz_106)) (And.intro @csz_113 (And.intro @esz_23 @esz_99)))) (And.intro (And.intro (And.intro @esz_106 (And.intro @fofs_25_2 @fofs_49_0)) (And.intro @fofs_101_0 (And.intro @fofs_101_4 @fofs_108_0))) (And.intro (And.intro @fofs_113_0 (And.intro @fofs_113_2 @isz_113)) (And.intro (And.intro @und_3 @undT_99) (And.intro @undT_106 @zeroT_113))))
theorem ff_41 : type_of% (And.intro (And.intro @agg_67 @agg_77) (And.intro @csz_67 (And.intro @csz_77 @zeroT_77))) := And.intro (And.intro @agg_67 @agg_77) (And.intro @csz_67 (And.intro @csz_77 @zeroT_77))
theorem ff_42 : type_of% (And.intro (And.intro (And.intro @agg_3 (And.intro @agg_67 @agg_74)) (And.intro (And.intro @agg_82 @csz_3) (And.intro @csz_67 @csz_74))) (And.intro (And.intro @csz_82 (And.intro @esz_77 @fofs_74_0)) (And.intro (And.intro @fofs_74_1 @isz_67) (And.intro @isz_74 @zeroT_74)))) := And.intro (And.intro (And.intro @agg_3 (And.intro @agg_67 @agg_74)) (And.intro (And.intro @agg_82 @csz_3) (And.intro @csz_67 @csz_74))) (And.intro (And.intro @csz_82 (And.intro @esz_77 @fofs_74_0)) (And.intro (And.intro @fofs_74_1 @isz_67) (And.intro @isz_74 @zeroT_74)))
theorem ff_43 : type_of% (And.intro (And.intro (And.intro (And.intro @agg_3 @agg_67) (And.intro @agg_82 @csz_3)) (And.intro (And.intro @csz_67 @csz_82) (And.intro @eapp_26_26 @ebs_26_1))) (And.intro (And.intro (And.intro @esz_76 @fofs_67_0) (And.intro @fofs_82_0 @grt_26_26)) (And.intro (And.intro @isz_67 @und_3) (And.intro @undT_76 @zeroT_67)))) := And.intro (And.intro (And.intro (And.intro @agg_3 @agg_67) (And.intro @agg_82 @csz_3)) (And.intro (And.intro @csz_67 @csz_82) (And.intro @eapp_26_26 @ebs_26_1))) (And.intro (And.intro (And.intro @esz_76 @fofs_67_0) (And.intro @fofs_82_0 @grt_26_26)) (And.intro (And.intro @isz_67 @und_3) (And.intro @undT_76 @zeroT_67)))
theorem ff_44 : type_of% (And.intro (And.intro (And.intro (And.intro @agg_3 @agg_23) (And.intro @agg_26 @csz_3)) (And.intro (And.intro @csz_23 @csz_26) (And.intro @eapp_76_76 (And.intro @ebd_67 @ebs_76_1)))) (And.intro (And.intro (And.intro @esz_23 @esz_26) (And.intro @fofs_25_2 (And.intro @fofs_49_1 @fofs_64_0))) (And.intro (And.intro @fofs_67_1 @fofs_82_0) (And.intro @fofs_82_1 (And.intro @grt_76_76 @undT_26))))) := And.intro (And.intro (And.intro (And.intro @agg_3 @agg_23) (And.intro @agg_26 @csz_3)) (And.intro (And.intro @csz_23 @csz_26) (And.intro @eapp_76_76 (And.intro @ebd_67 @ebs_76_1)))) (And.intro (And.intro (And.intro @esz_23 @esz_26) (And.intro @fofs_25_2 (And.intro @fofs_49_1 @fofs_64_0))) (And.intro (And.intro @fofs_67_1 @fofs_82_0) (And.intro @fofs_82_1 (And.intro @grt_76_76 @undT_26))))
theorem ff_46 : type_of% (@und_5) := @und_5
theorem ff_47 : type_of% (@und_5) := @und_5
theorem ff_48 : type_of% (And.intro @und_2 @und_47) := And.intro @und_2 @und_47
theorem ff_49 : type_of% (And.intro (And.intro (And.intro (And.intro @agg_3 @agg_23) (And.intro @agg_26 @csz_3)) (And.intro (And.intro @csz_23 @csz_26) (And.intro @eapp_26_26 (And.intro @ebs_26_0 @ebs_26_1)))) (And.intro (And.intro (And.intro @esz_23 @esz_26) (And.intro @fofs_25_2 @fofs_49_0)) (And.intro (And.intro @fofs_49_1 @grt_26_26) (And.intro @und_3 (And.intro @undT_23 @undT_26))))) := And.intro (And.intro (And.intro (And.intro @agg_3 @agg_23) (And.intro @agg_26 @csz_3)) (And.intro (And.intro @csz_23 @csz_26) (And.intro @eapp_26_26 (And.intro @ebs_26_0 @ebs_26_1)))) (And.intro (And.intro (And.intro @esz_23 @esz_26) (And.intro @fofs_25_2 @fofs_49_0)) (And.intro (And.intro @fofs_49_1 @grt_26_26) (And.intro @und_3 (And.intro @undT_23 @undT_26))))
theorem ff_51 : type_of% (And.intro @agg_25 (And.intro @csz_25 @ebd_121)) := And.intro @agg_25 (And.intro @csz_25 @ebd_121)
theorem ff_52 : type_of% (And.intro (And.intro (And.intro (And.intro @agg_3 @agg_23) (And.intro @agg_26 @csz_3)) (And.intro (And.intro @csz_23 @csz_26) (And.intro @esz_23 @esz_26))) (And.intro (And.intro (And.intro @fofs_25_2 @fofs_49_0) (And.intro @fofs_49_1 @fofs_121_0)) (And.intro (And.intro @fofs_121_2 @isz_26) (And.intro @und_3 (And.intro @undT_23 @undT_26))))) := And.intro (And.intro (And.intro (And.intro @agg_3 @agg_23) (And.intro @agg_26 @csz_3)) (And.intro (And.intro @csz_23 @csz_26) (And.intro @esz_23 @esz_26))) (And.intro (And.intro (And.intro @fofs_25_2 @fofs_49_0) (And.intro @fofs_49_1 @fofs_121_0)) (And.intro (And.intro @fofs_121_2 @isz_26) (And.intro @und_3 (And.intro @undT_23 @undT_26))))
theorem ff_53 : type_of% (And.intro (And.intro (And.intro @agg_3 @agg_26) (And.intro @csz_3 (And.intro @csz_26 @eapp_26_26))) (And.intro (And.intro @ebs_26_1 (And.intro @esz_26 @fofs_121_1)) (And.intro @fofs_121_2 (And.intro @grt_26_26 @undT_26)))) := And.intro (And.intro (And.intro @agg_3 @agg_26) (And.intro @csz_3 (And.intro @csz_26 @eapp_26_26))) (And.intro (And.intro @ebs_26_1 (And.intro @esz_26 @fofs_121_1)) (And.intro @fofs_121_2 (And.intro @grt_26_26 @undT_26)))
theorem ff_55 : type_of% (And.intro (And.intro (And.intro @agg_3 @agg_26) (And.intro @csz_3 @csz_26)) (And.intro (And.intro @esz_26 @fofs_49_1) (And.intro @fofs_64_1 @undT_26))) := And.intro (And.intro (And.intro @agg_3 @agg_26) (And.intro @csz_3 @csz_26)) (And.intro (And.intro @esz_26 @fofs_49_1) (And.intro @fofs_64_1 @undT_26))
theorem ff_56 : type_of% (And.intro (And.intro (And.intro @agg_3 @agg_25) (And.intro @agg_67 (And.intro @csz_3 @csz_25))) (And.intro (And.intro @csz_67 @ebd_82) (And.intro @fofs_64_0 (And.intro @fofs_67_0 @fofs_67_1)))) := And.intro (And.intro (And.intro @agg_3 @agg_25) (And.intro @agg_67 (And.intro @csz_3 @csz_25))) (And.intro (And.intro @csz_67 @ebd_82) (And.intro @fofs_64_0 (And.intro @fofs_67_0 @fofs_67_1)))
theorem ff_57 : type_of% (And.intro (And.intro @agg_40 (And.intro @agg_67 @agg_82)) (And.intro (And.intro @csz_40 @csz_67) (And.intro @csz_82 @isz_26))) := And.intro (And.intro @agg_40 (And.intro @agg_67 @agg_82)) (And.intro (And.intro @csz_40 @csz_67) (And.intro @csz_82 @isz_26))
theorem ff_58 : type_of% (And.intro (And.intro (And.intro @agg_22 @agg_25) (And.intro @agg_97 (And.intro @csz_22 @csz_25))) (And.intro (And.intro @csz_97 (And.intro @emk_97 @fofs_25_1)) (And.intro @isz_97 (And.intro @undT_22 @zeroT_97)))) := And.intro (And.intro (And.intro @agg_22 @agg_25) (And.intro @agg_97 (And.intro @csz_22 @csz_25))) (And.intro (And.intro @csz_97 (And.intro @emk_97 @fofs_25_1)) (And.intro @isz_97 (And.intro @undT_22 @zeroT_97)))
theorem ff_59 : type_of% (And.intro (And.intro (And.intro (And.intro @agg_3 (And.intro @agg_4 @agg_22)) (And.intro @agg_23 (And.intro @agg_49 @csz_3))) (And.intro (And.intro @csz_4 (And.intro @csz_22 @csz_23)) (And.intro @csz_49 (And.intro @emk_26 @emk_97)))) (And.intro (And.intro (And.intro @esz_23 (And.intro @esz_26 @esz_97)) (And.intro @fofs_25_1 (And.intro @fofs_25_2 @fofs_49_0))) (And.intro (And.intro @isz_3 (And.intro @isz_4 @isz_49)) (And.intro (And.intro @undT_22 @undT_23) (And.intro @undT_26 @zeroT_49))))) := And.intro (And.intro (And.intro (And.intro @agg_3 (And.intro @agg_4 @agg_22)) (And.intro @agg_23 (And.intro @agg_49 @csz_3))) (And.intro (And.intro @csz_4 (And.intro @csz_22 @csz_23)) (And.intro @csz_49 (And.intro @emk_26 @emk_97)))) (And.intro (And.intro (And.intro @esz_23 (And.intro @esz_26 @esz_97)) (And.intro @fofs_25_1 (And.intro @fofs_25_2 @fofs_49_0))) (And.intro (And.intro @isz_3 (And.intro @isz_4 @isz_49)) (And.intro (And.intro @undT_22 @undT_23) (And.intro @undT_26 @zeroT_49))))
theorem ff_60 : type_of% (And.intro (And.intro (And.intro @agg_22 @agg_25) (And.intro @agg_97 (And.intro @csz_22 @csz_25))) (And.intro (And.intro @csz_97 (And.intro @emk_97 @fofs_25_1)) (And.intro @isz_97 (And.intro @undT_22 @zeroT_97)))) := And.intro (And.intro (And.intro @agg_22 @agg_25) (And.intro @agg_97 (And.intro @csz_22 @csz_25))) (And.intro (And.intro @csz_97 (And.intro @emk_97 @fofs_25_1)) (And.intro @isz_97 (And.intro @undT_22 @zeroT_97)))
theorem ff_62 : type_of% (And.intro (And.intro @agg_4 @agg_97) (And.intro @csz_4 (And.intro @csz_97 @esz_97))) := And.intro (And.intro @agg_4 @agg_97) (And.intro @csz_4 (And.intro @csz_97 @esz_97))
theorem ff_63 : type_of% (And.intro (And.intro (And.intro @agg_4 @agg_25) (And.intro @agg_97 (And.intro @csz_4 @csz_25))) (And.intro (And.intro @csz_97 @ebd_113) (And.intro @esz_97 (And.intro @fofs_101_0 @fofs_101_1)))) := And.intro (And.intro (And.intro @agg_4 @agg_25) (And.intro @agg_97 (And.intro @csz_4 @csz_25))) (And.intro (And.intro @csz_97 @ebd_113) (And.intro @esz_97 (And.intro @fofs_101_0 @fofs_101_1)))
theorem ff_64 : type_of% (And.intro (And.intro (And.intro (And.intro @agg_3 (And.intro @agg_4 @agg_97)) (And.intro @agg_99 (And.intro @agg_106 @agg_113))) (And.intro (And.intro @csz_3 (And.intro @csz_4 @csz_97)) (And.intro @csz_99 (And.intro @csz_106 @csz_113)))) (And.intro (And.intro (And.intro @ebd_113 (And.intro @esz_97 @esz_99)) (And.intro @esz_106 (And.intro @fofs_101_2 @fofs_101_4))) (And.intro (And.intro @fofs_108_0 (And.intro @fofs_113_0 @fofs_113_1)) (And.intro (And.intro @fofs_113_2 @isz_113) (And.intro @undT_106 @zeroT_113))))) := And.intro (And.intro (And.intro (And.intro @agg_3 (And.intro @agg_4 @agg_97)) (And.intro @agg_99 (And.intro @agg_106 @agg_113))) (And.intro (And.intro @csz_3 (And.intro @csz_4 @csz_97)) (And.intro @csz_99 (And.intro @csz_106 @csz_113)))) (And.intro (And.intro (And.intro @ebd_113 (And.intro @esz_97 @esz_99)) (And.intro @esz_106 (And.intro @fofs_101_2 @fofs_101_4))) (And.intro (And.intro @fofs_108_0 (And.intro @fofs_113_0 @fofs_113_1)) (And.intro (And.intro @fofs_113_2 @isz_113) (And.intro @undT_106 @zeroT_113))))
theorem ff_65 : type_of% (And.intro (And.intro (And.intro @agg_3 (And.intro @agg_23 @agg_26)) (And.intro (And.intro @csz_3 @csz_23) (And.intro @csz_26 @esz_23))) (And.intro (And.intro (And.intro @esz_26 @fofs_25_2) (And.intro @fofs_49_1 @fofs_101_0)) (And.intro (And.intro @fofs_113_0 @fofs_113_1) (And.intro @und_3 @undT_26)))) := And.intro (And.intro (And.intro @agg_3 (And.intro @agg_23 @agg_26)) (And.intro (And.intro @csz_3 @csz_23) (And.intro @csz_26 @esz_23))) (And.intro (And.intro (And.intro @esz_26 @fofs_25_2) (And.intro @fofs_49_1 @fofs_101_0)) (And.intro (And.intro @fofs_113_0 @fofs_113_1) (And.intro @und_3 @undT_26)))
theorem ff_66 : type_of% (And.intro (And.intro (And.intro @agg_105 (And.intro @agg_106 @agg_113)) (And.intro @csz_105 (And.intro @csz_106 @csz_113))) (And.intro (And.intro @eapp_106_106 (And.intro @ebs_106_1 @fofs_108_0)) (And.intro @fofs_108_1 (And.intro @grt_106_106 @isz_106)))) := And.intro (And.intro (And.intro @agg_105 (And.intro @agg_106 @agg_113)) (And.intro @csz_105 (And.intro @csz_106 @csz_113))) (And.intro (And.intro @eapp_106_106 (And.intro @ebs_106_1 @fofs_108_0)) (And.intro @fofs_108_1 (And.intro @grt_106_106 @isz_106)))
theorem ff_67 : type_of% (And.intro (And.intro (And.intro @agg_77 @agg_82) (And.intro @csz_77 @csz_82)) (And.intro (And.intro @eapp_77_77 @ebs_77_1) (And.intro @grt_77_77 (And.intro @isz_77 @undT_77)))) := And.intro (And.intro (And.intro @agg_77 @agg_82) (And.intro @csz_77 @csz_82)) (And.intro (And.intro @eapp_77_77 @ebs_77_1) (And.intro @grt_77_77 (And.intro @isz_77 @undT_77)))
theorem ff_70 : type_of% (@und_133) := @und_133
theorem ff_72 : type_of% (And.intro (And.intro (And.intro @agg_3 (And.intro @agg_26 @csz_3)) (And.intro @csz_26 (And.intro @eapp_26_26 @ebs_26_1))) (And.intro (And.intro @esz_26 (And.intro @fofs_121_1 @fofs_121_2)) (And.intro @grt_26_26 (And.intro @isz_26 @undT_26)))) := And.intro (And.intro (And.intro @agg_3 (And.intro @agg_26 @csz_3)) (And.intro @csz_26 (And.intro @eapp_26_26 @ebs_26_1))) (And.intro (And.intro @esz_26 (And.intro @fofs_121_1 @fofs_121_2)) (And.intro @grt_26_26 (And.intro @isz_26 @undT_26)))
theorem ff_73 : type_of% (And.intro (And.intro (And.intro @agg_3 @agg_26) (And.intro @agg_62 (And.intro @csz_3 @csz_26))) (And.intro (And.intro @csz_62 (And.intro @ebd_67 @esz_26)) (And.intro @fofs_64_1 (And.intro @fofs_64_2 @und_3)))) := And.intro (And.intro (And.intro @agg_3 @agg_26) (And.intro @agg_62 (And.intro @csz_3 @csz_26))) (And.intro (And.intro @csz_62 (And.intro @ebd_67 @esz_26)) (And.intro @fofs_64_1 (And.intro @fofs_64_2 @und_3)))
theorem ff_74 : type_of% (And.intro (And.intro (And.intro @agg_3 @agg_23) (And.intro @csz_3 @csz_23)) (And.intro (And.intro @esz_23 @fofs_25_2) (And.intro @fofs_49_0 (And.intro @und_3 @undT_23)))) := And.intro (And.intro (And.intro @agg_3 @agg_23) (And.intro @csz_3 @csz_23)) (And.intro (And.intro @esz_23 @fofs_25_2) (And.intro @fofs_49_0 (And.intro @und_3 @undT_23)))
theorem ff_75 : type_of% (And.intro (And.intro (And.intro (And.intro @agg_3 (And.intro @agg_23 @agg_26)) (And.intro @agg_67 (And.intro @agg_82 @csz_3))) (And.intro (And.intro @csz_23 (And.intro @csz_26 @csz_67)) (And.intro @csz_82 (And.intro @eapp_26_26 @ebd_82)))) (And.intro (And.intro (And.intro @ebs_26_1 (And.intro @esz_23 @esz_26)) (And.intro @fofs_25_2 (And.intro @fofs_49_1 @fofs_64_0))) (And.intro (And.intro @fofs_67_2 (And.intro @fofs_82_0 @fofs_82_1)) (And.intro @grt_26_26 (And.intro @und_3 @undT_26))))) := And.intro (And.intro (And.intro (And.intro @agg_3 (And.intro @agg_23 @agg_26)) (And.intro @agg_67 (And.intro @agg_82 @csz_3))) (And.intro (And.intro @csz_23 (And.intro @csz_26 @csz_67)) (And.intro @csz_82 (And.intro @eapp_26_26 @ebd_82)))) (And.intro (And.intro (And.intro @ebs_26_1 (And.intro @esz_23 @esz_26)) (And.intro @fofs_25_2 (And.intro @fofs_49_1 @fofs_64_0))) (And.intro (And.intro @fofs_67_2 (And.intro @fofs_82_0 @fofs_82_1)) (And.intro @grt_26_26 (And.intro @und_3 @undT_26))))
theorem ff_76 : type_of% (And.intro (And.intro (And.intro (And.intro @agg_3 @agg_4) (And.intro @agg_23 @agg_49)) (And.intro (And.intro @csz_3 @csz_4) (And.intro @csz_23 @csz_49))) (And.intro (And.intro (And.intro @esz_23 @esz_97) (And.intro @fofs_25_2 @fofs_49_0)) (And.intro (And.intro @isz_4 @isz_49) (And.intro @undT_23 @zeroT_49)))) := And.intro (And.intro (And.intro (And.intro @agg_3 @agg_4) (And.intro @agg_23 @agg_49)) (And.intro (And.intro @csz_3 @csz_4) (And.intro @csz_23 @csz_49))) (And.intro (And.intro (And.intro @esz_23 @esz_97) (And.intro @fofs_25_2 @fofs_49_0)) (And.intro (And.intro @isz_4 @isz_49) (And.intro @undT_23 @zeroT_49)))
theorem ff_77 : type_of% (And.intro (And.intro (And.intro @agg_3 (And.intro @agg_4 @agg_26)) (And.intro @agg_97 (And.intro @csz_3 @csz_4))) (And.intro (And.intro @csz_26 (And.intro @csz_97 @esz_26)) (And.intro @esz_97 (And.intro @fofs_49_1 @undT_26)))) := And.intro (And.intro (And.intro @agg_3 (And.intro @agg_4 @agg_26)) (And.intro @agg_97 (And.intro @csz_3 @csz_4))) (And.intro (And.intro @csz_26 (And.intro @csz_97 @esz_26)) (And.intro @esz_97 (And.intro @fofs_49_1 @undT_26)))
theorem ff_78 : type_of% (And.intro (And.intro (And.intro @agg_3 @agg_4) (And.intro @agg_26 (And.intro @csz_3 @csz_4))) (And.intro (And.intro @csz_26 @esz_26) (And.intro @esz_97 (And.intro @fofs_49_1 @undT_26)))) := And.intro (And.intro (And.intro @agg_3 @agg_4) (And.intro @agg_26 (And.intro @csz_3 @csz_4))) (And.intro (And.intro @csz_26 @esz_26) (And.intro @esz_97 (And.intro @fofs_49_1 @undT_26)))
theorem ff_79 : type_of% (And.intro (And.intro (And.intro @agg_3 (And.intro @agg_4 @agg_26)) (And.intro @agg_97 (And.intro @csz_3 @csz_4))) (And.intro (And.intro @csz_26 (And.intro @csz_97 @esz_26)) (And.intro @esz_97 (And.intro @fofs_49_1 @undT_26)))) := And.intro (And.intro (And.intro @agg_3 (And.intro @agg_4 @agg_26)) (And.intro @agg_97 (And.intro @csz_3 @csz_4))) (And.intro (And.intro @csz_26 (And.intro @csz_97 @esz_26)) (And.intro @esz_97 (And.intro @fofs_49_1 @undT_26)))
theorem ff_80 : type_of% (And.intro (And.intro @agg_3 @csz_3) (And.intro @esz_26 @undT_26)) := And.intro (And.intro @agg_3 @csz_3) (And.intro @esz_26 @undT_26)
theorem ff_81 : type_of% (And.intro (And.intro (And.intro (And.intro @agg_3 (And.intro @agg_23 @agg_99)) (And.intro @agg_106 (And.intro @agg_113 @csz_3))) (And.intro (And.intro @csz_23 (And.intro @csz_99 @csz_106)) (And.intro (And.intro @csz_113 @ebd_113) (And.intro @esz_23 @esz_99)))) (And.intro (And.intro (And.intro @esz_106 (And.intro @fofs_25_2 @fofs_49_0)) (And.intro @fofs_101_0 (And.intro @fofs_101_4 @fofs_108_0))) (And.intro (And.intro @fofs_113_0 (And.intro @fofs_113_1 @fofs_113_2)) (And.intro (And.intro @isz_113 @und_3) (And.intro @undT_106 @zeroT_113))))) := And.intro (And.intro (And.intro (And.intro @agg_3 (And.intro @agg_23 @agg_99)) (And.intro @agg_106 (And.intro @agg_113 @csz_3))) (And.intro (And.intro @csz_23 (And.intro @csz_99 @csz_106)) (And.intro (And.intro @csz_113 @ebd_113) (And.intro @esz_23 @esz_99)))) (And.intro (And.intro (And.intro @esz_106 (And.intro @fofs_25_2 @fofs_49_0)) (And.intro @fofs_101_0 (And.intro @fofs_101_4 @fofs_108_0))) (And.intro (And.intro @fofs_113_0 (And.intro @fofs_113_1 @fofs_113_2)) (And.intro (And.intro @isz_113 @und_3) (And.intro @undT_106 @zeroT_113))))
theorem ff_85 : type_of% (@und_4) := @und_4
theorem ff_86 : type_of% (And.intro @und_3 @und_137) := And.intro @und_3 @und_137
theorem ff_87 : type_of% (And.intro (And.intro @agg_3 (And.intro @agg_23 @csz_3)) (And.intro (And.intro @csz_23 @esz_23) (And.intro @fofs_25_2 @fofs_49_0))) := And.intro (And.intro @agg_3 (And.intro @agg_23 @csz_3)) (And.intro (And.intro @csz_23 @esz_23) (And.intro @fofs_25_2 @fofs_49_0))
theorem ff_88 : type_of% (@und_133) := @und_133
end Go.Proofs.Ytemkglelfeidhaa

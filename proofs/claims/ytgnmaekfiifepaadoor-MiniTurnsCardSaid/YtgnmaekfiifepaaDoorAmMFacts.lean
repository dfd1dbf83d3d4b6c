/- A part of a proof. Its conditions: none. -/
import Derived.Test.YtgnmaekfiifepaaDoorAmD
import Derived.Test.YtgnmaekfiifepaaDoorRows
import Derived.KernelRfl
set_option linter.all false
namespace Go.Proofs.YtgnmaekfiifepaaDoor
open Go.AM
def fns : List Nat := [3, 4, 5, 6, 7, 8, 9, 10, 11, 12, 13, 14, 15, 16, 17, 18, 19, 20, 21, 22, 23, 25, 26, 27, 28, 29, 30, 31, 32, 33, 34, 35, 36]
theorem fns_ok : fns.all (fnOKb Tryd.prog) = true := by kernel_rfl
theorem orders : Tryd.prog.follows .mixedOrders = true := by kernel_rfl
theorem agg_3 : aggT Tryd.prog 3 = some false := by kernel_rfl
theorem agg_22 : aggT Tryd.prog 22 = some false := by kernel_rfl
theorem agg_23 : aggT Tryd.prog 23 = some false := by kernel_rfl
theorem agg_25 : aggT Tryd.prog 25 = some true := by kernel_rfl
theorem agg_42 : aggT Tryd.prog 42 = some true := by kernel_rfl
theorem agg_47 : aggT Tryd.prog 47 = some false := by kernel_rfl
theorem agg_48 : aggT Tryd.prog 48 = some false := by kernel_rfl
theorem agg_62 : aggT Tryd.prog 62 = some false := by kernel_rfl
theorem csz_3 : Program.cellsOf Tryd.prog 3 = 1 := by kernel_rfl
theorem csz_22 : Program.cellsOf Tryd.prog 22 = 1 := by kernel_rfl
theorem csz_23 : Program.cellsOf Tryd.prog 23 = 1 := by kernel_rfl
theorem csz_25 : Program.cellsOf Tryd.prog 25 = 2 := by kernel_rfl
theorem csz_42 : Program.cellsOf Tryd.prog 42 = 2 := by kernel_rfl
theorem csz_47 : Program.cellsOf Tryd.prog 47 = 1 := by kernel_rfl
theorem csz_48 : Program.cellsOf Tryd.prog 48 = 1 := by kernel_rfl
theorem csz_62 : Program.cellsOf Tryd.prog 62 = 1 := by kernel_rfl
theorem eapp_22_22 : eapp Tryd.prog #[22, 22] = some (23, 1) := by kernel_rfl
theorem eapp_23_23 : eapp Tryd.prog #[23, 23] = some (3, 1) := by kernel_rfl
theorem eapp_44_44 : eapp Tryd.prog #[44, 44] = some (42, 2) := by kernel_rfl
theorem eapp_48_9 : eapp Tryd.prog #[48, 9] = some (5, 1) := by kernel_rfl
theorem ear_42 : earr Tryd.prog 42 = some (3, 1, 2) := by kernel_rfl
theorem ear_61 : earr Tryd.prog 61 = some (5, 1, 24) := by kernel_rfl
theorem ear_69 : earr Tryd.prog 69 = some (62, 1, 20) := by kernel_rfl
theorem ebd_25 : ebd Tryd.prog 25 = some ([Value.slice none 0 0, Value.slice none 0 0], [(0, 1), (1, 1)]) := by kernel_rfl
theorem ebd_42 : ebd Tryd.prog 42 = some ([Value.int IntKind.i64 (Int.ofNat 0), Value.int IntKind.i64 (Int.ofNat 0)], [(0, 1), (1, 1)]) := by kernel_rfl
theorem ebs_22_1 : ebs Tryd.prog 22 1 = some (23, 1, [Value.slice none 0 0]) := by kernel_rfl
theorem ebs_23_0 : ebs Tryd.prog 23 0 = some (3, 1, [Value.int IntKind.i64 (Int.ofNat 0)]) := by kernel_rfl
theorem ebs_23_1 : ebs Tryd.prog 23 1 = some (3, 1, [Value.int IntKind.i64 (Int.ofNat 0)]) := by kernel_rfl
theorem ebs_44_1 : ebs Tryd.prog 44 1 = some (42, 2, [Value.int IntKind.i64 (Int.ofNat 0), Value.int IntKind.i64 (Int.ofNat 0)]) := by kernel_rfl
theorem emk_23 : emk Tryd.prog 23 = some (3, [Value.int IntKind.i64 (Int.ofNat 0)]) := by kernel_rfl
theorem esz_22 : esz Tryd.prog 22 = some (23, 1) := by kernel_rfl
theorem esz_23 : esz Tryd.prog 23 = some (3, 1) := by kernel_rfl
theorem esz_44 : esz Tryd.prog 44 = some (42, 2) := by kernel_rfl
theorem esz_48 : esz Tryd.prog 48 = some (5, 1) := by kernel_rfl
theorem fofs_25_0 : fofs Tryd.prog 25 0 = some 0 := by kernel_rfl
theorem fofs_25_1 : fofs Tryd.prog 25 1 = some 1 := by kernel_rfl
theorem fofs_50_0 : fofs Tryd.prog 50 0 = some 0 := by kernel_rfl
theorem fofs_50_1 : fofs Tryd.prog 50 1 = some 1 := by kernel_rfl
theorem grt_22_22 : growT Tryd.prog #[22, 22] = false := by kernel_rfl
theorem grt_23_23 : growT Tryd.prog #[23, 23] = false := by kernel_rfl
theorem grt_44_44 : growT Tryd.prog #[44, 44] = false := by kernel_rfl
theorem grt_48_9 : growT Tryd.prog #[48, 9] = false := by kernel_rfl
theorem isz_3 : isz Tryd.prog 3 = some 1 := by kernel_rfl
theorem isz_5 : isz Tryd.prog 5 = some 1 := by kernel_rfl
theorem isz_22 : isz Tryd.prog 22 = some 1 := by kernel_rfl
theorem isz_23 : isz Tryd.prog 23 = some 1 := by kernel_rfl
theorem isz_25 : isz Tryd.prog 25 = some 2 := by kernel_rfl
theorem isz_42 : isz Tryd.prog 42 = some 2 := by kernel_rfl
theorem isz_47 : isz Tryd.prog 47 = some 1 := by kernel_rfl
theorem isz_48 : isz Tryd.prog 48 = some 1 := by kernel_rfl
theorem und_2 : Program.underlying Tryd.prog 2 = some (TypeDesc.int IntKind.i64) := by kernel_rfl
theorem und_3 : Program.underlying Tryd.prog 3 = some (TypeDesc.int IntKind.i64) := by kernel_rfl
theorem und_4 : Program.underlying Tryd.prog 4 = some TypeDesc.bool := by kernel_rfl
theorem und_5 : Program.underlying Tryd.prog 5 = some (TypeDesc.int IntKind.u8) := by kernel_rfl
theorem und_9 : Program.underlying Tryd.prog 9 = some TypeDesc.string := by kernel_rfl
theorem und_47 : Program.underlying Tryd.prog 47 = some (TypeDesc.pointer 50) := by kernel_rfl
theorem und_48 : Program.underlying Tryd.prog 48 = some (TypeDesc.slice 5) := by kernel_rfl
theorem und_58 : Program.underlying Tryd.prog 58 = some TypeDesc.unsafePointer := by kernel_rfl
theorem und_62 : Program.underlying Tryd.prog 62 = some (TypeDesc.int IntKind.u64) := by kernel_rfl
theorem und_70 : Program.underlying Tryd.prog 70 = some (TypeDesc.int IntKind.u32) := by kernel_rfl
theorem undT_9 : undT Tryd.prog #[9] = some TypeDesc.string := by kernel_rfl
theorem undT_22 : undT Tryd.prog #[22] = some (TypeDesc.slice 23) := by kernel_rfl
theorem undT_23 : undT Tryd.prog #[23] = some (TypeDesc.slice 3) := by kernel_rfl
theorem undT_44 : undT Tryd.prog #[44] = some (TypeDesc.slice 42) := by kernel_rfl
theorem undT_46 : undT Tryd.prog #[46] = some (TypeDesc.map 9 3) := by kernel_rfl
theorem undT_48 : undT Tryd.prog #[48] = some (TypeDesc.slice 5) := by kernel_rfl
theorem zeroT_25 : zeroT Tryd.prog 25 = some (Value.agg { toList := [Value.slice none 0 0, Value.slice none 0 0] }) := by kernel_rfl
theorem zeroT_42 : zeroT Tryd.prog 42 = some (Value.agg { toList := [Value.int IntKind.i64 (Int.ofNat 0), Value.int IntKind.i64 (Int.ofNat 0)] }) := by kernel_rfl
theorem zeroT_50 : zeroT Tryd.prog 50 = some (Value.agg { toList := [Value.pointer none, Value.slice none 0 0] }) := by kernel_rfl
theorem zeroT_61 : zeroT Tryd.prog 61 = some (Value.agg { toList := [Value.int IntKind.u8 (Int.ofNat 0), Value.int IntKind.u8 (Int.ofNat 0), Value.int IntKind.u8 (Int.ofNat 0), Value.int IntKind.u8 (Int.ofNat 0), Value.int IntKind.u8 (Int.ofNat 0), Value.int IntKind.u8 (Int.ofNat 0), Value.int IntKind.u8 (Int.ofNat 0), Value.int IntKind.u8 (Int.ofNat 0), Value.int IntKind.u8 (Int.ofNat 0), Value.int IntKind.u8 (Int.ofNat 0), Value.int IntKind.u8 (Int.ofNat 0), Value.int IntKind.u8 (Int.ofNat 0), Value.int IntKind.u8 (Int.ofNat 0), Value.int IntKind.u8 (Int.ofNat 0), Value.int IntKind.u8 (Int.ofNat 0), Value.int IntKind.u8 (Int.ofNat 0), Value.int IntKind.u8 (Int.ofNat 0), Value.int IntKind.u8 (Int.ofNat 0), Value.int IntKind.u8 (Int.ofNat 0), Value.int IntKind.u8 (Int.ofNat 0), Value.int IntKind.u8 (Int.ofNat 0), Value.int IntKind.u8 (Int.ofNat 0), Value.int IntKind.u8 (Int.ofNat 0), Value.int IntKind.u8 (Int.ofNat 0)] }) := by kernel_rfl
theorem ok4 : FnOK Tryd.prog 4 Tryd.f4 (Tryd.f4.body.getD .skip) := fnOK_of fns_ok 4 _ _ (by kernel_rfl) Tryd.func4 rfl
theorem ok6 : FnOK Tryd.prog 6 Tryd.f6 (Tryd.f6.body.getD .skip) := fnOK_of fns_ok 6 _ _ (by kernel_rfl) Tryd.func6 rfl
theorem ok8 : FnOK Tryd.prog 8 Tryd.f8 (Tryd.f8.body.getD .skip) := fnOK_of fns_ok 8 _ _ (by kernel_rfl) Tryd.func8 rfl
theorem ok9 : FnOK Tryd.prog 9 Tryd.f9 (Tryd.f9.body.getD .skip) := fnOK_of fns_ok 9 _ _ (by kernel_rfl) Tryd.func9 rfl
theorem ok10 : FnOK Tryd.prog 10 Tryd.f10 (Tryd.f10.body.getD .skip) := fnOK_of fns_ok 10 _ _ (by kernel_rfl) Tryd.func10 rfl
theorem ok13 : FnOK Tryd.prog 13 Tryd.f13 (Tryd.f13.body.getD .skip) := fnOK_of fns_ok 13 _ _ (by kernel_rfl) Tryd.func13 rfl
theorem ok14 : FnOK Tryd.prog 14 Tryd.f14 (Tryd.f14.body.getD .skip) := fnOK_of fns_ok 14 _ _ (by kernel_rfl) Tryd.func14 rfl
theorem ok15 : FnOK Tryd.prog 15 Tryd.f15 (Tryd.f15.body.getD .skip) := fnOK_of fns_ok 15 _ _ (by kernel_rfl) Tryd.func15 rfl
theorem ok16 : FnOK Tryd.prog 16 Tryd.f16 (Tryd.f16.body.getD .skip) := fnOK_of fns_ok 16 _ _ (by kernel_rfl) Tryd.func16 rfl
theorem ok18 : FnOK Tryd.prog 18 Tryd.f18 (Tryd.f18.body.getD .skip) := fnOK_of fns_ok 18 _ _ (by kernel_rfl) Tryd.func18 rfl
theorem ok19 : FnOK Tryd.prog 19 Tryd.f19 (Tryd.f19.body.getD .skip) := fnOK_of fns_ok 19 _ _ (by kernel_rfl) Tryd.func19 rfl
theorem ok20 : FnOK Tryd.prog 20 Tryd.f20 (Tryd.f20.body.getD .skip) := fnOK_of fns_ok 20 _ _ (by kernel_rfl) Tryd.func20 rfl
theorem ok21 : FnOK Tryd.prog 21 Tryd.f21 (Tryd.f21.body.getD .skip) := fnOK_of fns_ok 21 _ _ (by kernel_rfl) Tryd.func21 rfl
theorem ok22 : FnOK Tryd.prog 22 Tryd.f22 (Tryd.f22.body.getD .skip) := fnOK_of fns_ok 22 _ _ (by kernel_rfl) Tryd.func22 rfl
theorem ok23 : FnOK Tryd.prog 23 Tryd.f23 (Tryd.f23.body.getD .skip) := fnOK_of fns_ok 23 _ _ (by kernel_rfl) Tryd.func23 rfl
theorem ok25 : FnOK Tryd.prog 25 Tryd.f25 (Tryd.f25.body.getD .skip) := fnOK_of fns_ok 25 _ _ (by kernel_rfl) Tryd.func25 rfl
theorem ok26 : FnOK Tryd.prog 26 Tryd.f26 (Tryd.f26.body.getD .skip) := fnOK_of fns_ok 26 _ _ (by kernel_rfl) Tryd.func26 rfl
theorem ok27 : FnOK Tryd.prog 27 Tryd.f27 (Tryd.f27.body.getD .skip) := fnOK_of fns_ok 27 _ _ (by kernel_rfl) Tryd.func27 rfl
theorem ok28 : FnOK Tryd.prog 28 Tryd.f28 (Tryd.f28.body.getD .skip) := fnOK_of fns_ok 28 _ _ (by kernel_rfl) Tryd.func28 rfl
theorem ok30 : FnOK Tryd.prog 30 Tryd.f30 (Tryd.f30.body.getD .skip) := fnOK_of fns_ok 30 _ _ (by kernel_rfl) Tryd.func30 rfl
theorem ok31 : FnOK Tryd.prog 31 Tryd.f31 (Tryd.f31.body.getD .skip) := fnOK_of fns_ok 31 _ _ (by kernel_rfl) Tryd.func31 rfl
theorem ff_4 : type_of% (And.intro (And.intro (And.intro (And.intro @agg_3 (And.intro @agg_22 @agg_23)) (And.intro @agg_25 (And.intro @csz_3 @csz_22))) (And.intro (And.intro @csz_23 (And.intro @csz_25 @eapp_22_22)) (And.intro (And.intro @eapp_23_23 @ebd_25) (And.intro @ebs_22_1 @ebs_23_0)))) (And.intro (And.intro (And.intro @ebs_23_1 (And.intro @esz_22 @esz_23)) (And.intro @fofs_25_0 (And.intro @fofs_25_1 @grt_22_22))) (And.intro (And.intro @grt_23_23 (And.intro @isz_22 @isz_23)) (And.intro (And.intro @isz_25 @undT_22) (And.intro @undT_23 @zeroT_25))))) := And.intro (And.intro (And.intro (And.intro @agg_3 (And.intro @agg_22 @agg_23)) (And.intro @agg_25 (And.intro @csz_3 @csz_22))) (And.intro (And.intro @csz_23 (And.intro @csz_25 @eapp_22_22)) (And.intro (And.intro @eapp_23_23 @ebd_25) (And.intro @ebs_22_1 @ebs_23_0)))) (And.intro (And.intro (And.intro @ebs_23_1 (And.intro @esz_22 @esz_23)) (And.intro @fofs_25_0 (And.intro @fofs_25_1 @grt_22_22))) (And.intro (And.intro @grt_23_23 (And.intro @isz_22 @isz_23)) (And.intro (And.intro @isz_25 @undT_22) (And.intro @undT_23 @zeroT_25))))
theorem ff_6 : type_of% (And.intro (And.intro (And.intro @agg_22 @agg_23) (And.intro @csz_22 @csz_23)) (And.intro (And.intro @esz_22 @fofs_25_0) (And.intro @fofs_25_1 (And.intro @undT_22 @undT_23)))) := And.intro (And.intro (And.intro @agg_22 @agg_23) (And.intro @csz_22 @csz_23)) (And.intro (And.intro @esz_22 @fofs_25_0) (And.intro @fofs_25_1 (And.intro @undT_22 @undT_23)))
theorem ff_8 : type_of% (And.intro (And.intro (And.intro @agg_3 (And.intro @agg_22 @agg_23)) (And.intro @csz_3 (And.intro @csz_22 @csz_23))) (And.intro (And.intro @esz_22 (And.intro @esz_23 @fofs_25_0)) (And.intro (And.intro @fofs_25_1 @und_3) (And.intro @undT_22 @undT_23)))) := And.intro (And.intro (And.intro @agg_3 (And.intro @agg_22 @agg_23)) (And.intro @csz_3 (And.intro @csz_22 @csz_23))) (And.intro (And.intro @esz_22 (And.intro @esz_23 @fofs_25_0)) (And.intro (And.intro @fofs_25_1 @und_3) (And.intro @undT_22 @undT_23)))
theorem ff_9 : type_of% (And.intro (And.intro (And.intro (And.intro @agg_3 (And.intro @agg_22 @agg_23)) (And.intro @agg_25 (And.intro @csz_3 @csz_22))) (And.intro (And.intro @csz_23 (And.intro @csz_25 @eapp_22_22)) (And.intro (And.intro @eapp_23_23 @ebd_25) (And.intro @ebs_22_1 @ebs_23_1)))) (And.intro (And.intro (And.intro @emk_23 (And.intro @esz_22 @esz_23)) (And.intro @fofs_25_0 (And.intro @fofs_25_1 @grt_22_22))) (And.intro (And.intro @grt_23_23 (And.intro @isz_3 @isz_22)) (And.intro (And.intro @isz_23 @isz_25) (And.intro @undT_23 @zeroT_25))))) := And.intro (And.intro (And.intro (And.intro @agg_3 (And.intro @agg_22 @agg_23)) (And.intro @agg_25 (And.intro @csz_3 @csz_22))) (And.intro (And.intro @csz_23 (And.intro @csz_25 @eapp_22_22)) (And.intro (And.intro @eapp_23_23 @ebd_25) (And.intro @ebs_22_1 @ebs_23_1)))) (And.intro (And.intro (And.intro @emk_23 (And.intro @esz_22 @esz_23)) (And.intro @fofs_25_0 (And.intro @fofs_25_1 @grt_22_22))) (And.intro (And.intro @grt_23_23 (And.intro @isz_3 @isz_22)) (And.intro (And.intro @isz_23 @isz_25) (And.intro @undT_23 @zeroT_25))))
theorem ff_10 : type_of% (And.intro (And.intro (And.intro (And.intro @agg_3 (And.intro @agg_22 @agg_23)) (And.intro @agg_25 (And.intro @agg_42 @csz_3))) (And.intro (And.intro @csz_22 (And.intro @csz_23 @csz_25)) (And.intro (And.intro @csz_42 @eapp_44_44) (And.intro @ear_42 @ebd_42)))) (And.intro (And.intro (And.intro @ebs_44_1 (And.intro @esz_22 @esz_23)) (And.intro @esz_44 (And.intro @fofs_25_0 @fofs_25_1))) (And.intro (And.intro @grt_44_44 (And.intro @isz_42 @und_3)) (And.intro (And.intro @und_4 @undT_23) (And.intro @undT_44 @zeroT_42))))) := And.intro (And.intro (And.intro (And.intro @agg_3 (And.intro @agg_22 @agg_23)) (And.intro @agg_25 (And.intro @agg_42 @csz_3))) (And.intro (And.intro @csz_22 (And.intro @csz_23 @csz_25)) (And.intro (And.intro @csz_42 @eapp_44_44) (And.intro @ear_42 @ebd_42)))) (And.intro (And.intro (And.intro @ebs_44_1 (And.intro @esz_22 @esz_23)) (And.intro @esz_44 (And.intro @fofs_25_0 @fofs_25_1))) (And.intro (And.intro @grt_44_44 (And.intro @isz_42 @und_3)) (And.intro (And.intro @und_4 @undT_23) (And.intro @undT_44 @zeroT_42))))
theorem ff_13 : type_of% (@und_3) := @und_3
theorem ff_14 : type_of% (And.intro (And.intro @agg_23 @csz_23) (And.intro @esz_22 (And.intro @und_3 @undT_22))) := And.intro (And.intro @agg_23 @csz_23) (And.intro @esz_22 (And.intro @und_3 @undT_22))
theorem ff_16 : type_of% (And.intro (And.intro (And.intro (And.intro @agg_3 @agg_22) (And.intro @agg_23 @csz_3)) (And.intro (And.intro @csz_22 @csz_23) (And.intro @emk_23 @esz_22))) (And.intro (And.intro (And.intro @esz_23 @fofs_25_0) (And.intro @fofs_25_1 @isz_3)) (And.intro (And.intro @und_3 @undT_22) (And.intro @undT_23 (And.intro @undT_46 @zeroT_50))))) := And.intro (And.intro (And.intro (And.intro @agg_3 @agg_22) (And.intro @agg_23 @csz_3)) (And.intro (And.intro @csz_22 @csz_23) (And.intro @emk_23 @esz_22))) (And.intro (And.intro (And.intro @esz_23 @fofs_25_0) (And.intro @fofs_25_1 @isz_3)) (And.intro (And.intro @und_3 @undT_22) (And.intro @undT_23 (And.intro @undT_46 @zeroT_50))))
theorem ff_18 : type_of% (And.intro (And.intro @agg_3 @csz_3) (And.intro @esz_23 (And.intro @und_3 @undT_23))) := And.intro (And.intro @agg_3 @csz_3) (And.intro @esz_23 (And.intro @und_3 @undT_23))
theorem ff_19 : type_of% (And.intro (And.intro @agg_48 (And.intro @csz_48 @eapp_48_9)) (And.intro (And.intro @fofs_50_1 @grt_48_9) (And.intro @isz_48 @undT_9))) := And.intro (And.intro @agg_48 (And.intro @csz_48 @eapp_48_9)) (And.intro (And.intro @fofs_50_1 @grt_48_9) (And.intro @isz_48 @undT_9))
theorem ff_21 : type_of% (And.intro (And.intro @agg_48 @csz_48) (And.intro @fofs_50_1 @undT_48)) := And.intro (And.intro @agg_48 @csz_48) (And.intro @fofs_50_1 @undT_48)
theorem ff_22 : type_of% (And.intro (And.intro @agg_47 (And.intro @csz_47 @fofs_50_0)) (And.intro @isz_47 (And.intro @und_47 @und_58))) := And.intro (And.intro @agg_47 (And.intro @csz_47 @fofs_50_0)) (And.intro @isz_47 (And.intro @und_47 @und_58))
theorem ff_25 : type_of% (And.intro (And.intro (And.intro @ear_61 @isz_5) (And.intro @und_2 @und_3)) (And.intro (And.intro @und_9 @und_48) (And.intro @und_62 @zeroT_61))) := And.intro (And.intro (And.intro @ear_61 @isz_5) (And.intro @und_2 @und_3)) (And.intro (And.intro @und_9 @und_48) (And.intro @und_62 @zeroT_61))
theorem ff_27 : type_of% (And.intro @agg_62 (And.intro @csz_62 @ear_69)) := And.intro @agg_62 (And.intro @csz_62 @ear_69)
theorem ff_28 : type_of% (And.intro (And.intro @esz_48 (And.intro @isz_5 @und_5)) (And.intro (And.intro @und_9 @und_62) (And.intro @und_70 @undT_48))) := And.intro (And.intro @esz_48 (And.intro @isz_5 @und_5)) (And.intro (And.intro @und_9 @und_62) (And.intro @und_70 @undT_48))
theorem ff_31 : type_of% (And.intro (And.intro @und_3 @und_5) (And.intro @und_9 @und_62)) := And.intro (And.intro @und_3 @und_5) (And.intro @und_9 @und_62)
end Go.Proofs.YtgnmaekfiifepaaDoor

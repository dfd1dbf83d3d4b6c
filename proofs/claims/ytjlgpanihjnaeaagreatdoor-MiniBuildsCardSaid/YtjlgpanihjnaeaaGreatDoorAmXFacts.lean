/- A part of a proof. Its conditions: none. -/
import Derived.Test.YtjlgpanihjnaeaaGreatDoorAmD
import Derived.Test.YtjlgpanihjnaeaaGreatDoorRows
import Derived.KernelRfl
set_option linter.all false
namespace Go.Proofs.YtjlgpanihjnaeaaGreatDoor
open Go.AM
def fns:List Nat:=[3,4,5,6,7,8,9,10,11,12,13,14,15,16,17,18,19,20,21,22,23,24,25,26,27,28,29,30,31,32,33,34,35,36,37,38,39,40,41,42,43,44,45,46,47,48,49,50,51,52,53,54,55,56,57,58,59,60,61,62,63,64,65,66,67,68,69,70,71,73,75,77,78,79,80,81,83,84,85,86,87,88,89,90,91,92,93,94,95,96,97,98,99,100,101,102,103,104,105,106,107,108,109,110,111,112,113,114,115,116]
theorem fns_ok:fns.all (fnOKb Tryz.prog)=true:=by kernel_rfl
theorem orders:Tryz.prog.follows .mixedOrders=true:=by kernel_rfl
theorem agg_3:aggT Tryz.prog 3=some false:=by kernel_rfl
theorem agg_4:aggT Tryz.prog 4=some false:=by kernel_rfl
theorem agg_9:aggT Tryz.prog 9=some false:=by kernel_rfl
theorem agg_22:aggT Tryz.prog 22=some false:=by kernel_rfl
theorem agg_23:aggT Tryz.prog 23=some false:=by kernel_rfl
theorem agg_25:aggT Tryz.prog 25=some true:=by kernel_rfl
theorem agg_26:aggT Tryz.prog 26=some false:=by kernel_rfl
theorem agg_29:aggT Tryz.prog 29=some false:=by kernel_rfl
theorem agg_31:aggT Tryz.prog 31=some true:=by kernel_rfl
theorem agg_45:aggT Tryz.prog 45=some false:=by kernel_rfl
theorem agg_47:aggT Tryz.prog 47=some false:=by kernel_rfl
theorem agg_48:aggT Tryz.prog 48=some false:=by kernel_rfl
theorem agg_53:aggT Tryz.prog 53=some false:=by kernel_rfl
theorem agg_58:aggT Tryz.prog 58=some true:=by kernel_rfl
theorem agg_61:aggT Tryz.prog 61=some false:=by kernel_rfl
theorem agg_63:aggT Tryz.prog 63=some true:=by kernel_rfl
theorem agg_70:aggT Tryz.prog 70=some false:=by kernel_rfl
theorem agg_73:aggT Tryz.prog 73=some false:=by kernel_rfl
theorem agg_75:aggT Tryz.prog 75=some true:=by kernel_rfl
theorem agg_82:aggT Tryz.prog 82=some true:=by kernel_rfl
theorem agg_84:aggT Tryz.prog 84=some false:=by kernel_rfl
theorem agg_85:aggT Tryz.prog 85=some false:=by kernel_rfl
theorem csz_3:Program.cellsOf Tryz.prog 3=1:=by kernel_rfl
theorem csz_4:Program.cellsOf Tryz.prog 4=1:=by kernel_rfl
theorem csz_9:Program.cellsOf Tryz.prog 9=1:=by kernel_rfl
theorem csz_22:Program.cellsOf Tryz.prog 22=1:=by kernel_rfl
theorem csz_23:Program.cellsOf Tryz.prog 23=1:=by kernel_rfl
theorem csz_25:Program.cellsOf Tryz.prog 25=3:=by kernel_rfl
theorem csz_26:Program.cellsOf Tryz.prog 26=1:=by kernel_rfl
theorem csz_29:Program.cellsOf Tryz.prog 29=1:=by kernel_rfl
theorem csz_31:Program.cellsOf Tryz.prog 31=2:=by kernel_rfl
theorem csz_45:Program.cellsOf Tryz.prog 45=1:=by kernel_rfl
theorem csz_47:Program.cellsOf Tryz.prog 47=1:=by kernel_rfl
theorem csz_48:Program.cellsOf Tryz.prog 48=1:=by kernel_rfl
theorem csz_53:Program.cellsOf Tryz.prog 53=1:=by kernel_rfl
theorem csz_58:Program.cellsOf Tryz.prog 58=2:=by kernel_rfl
theorem csz_61:Program.cellsOf Tryz.prog 61=1:=by kernel_rfl
theorem csz_63:Program.cellsOf Tryz.prog 63=3:=by kernel_rfl
theorem csz_70:Program.cellsOf Tryz.prog 70=1:=by kernel_rfl
theorem csz_73:Program.cellsOf Tryz.prog 73=1:=by kernel_rfl
theorem csz_75:Program.cellsOf Tryz.prog 75=2:=by kernel_rfl
theorem csz_82:Program.cellsOf Tryz.prog 82=4:=by kernel_rfl
theorem csz_84:Program.cellsOf Tryz.prog 84=1:=by kernel_rfl
theorem csz_85:Program.cellsOf Tryz.prog 85=1:=by kernel_rfl
theorem eapp_26_26:eapp Tryz.prog #[26,26]=some (3,1):=by kernel_rfl
theorem eapp_29_29:eapp Tryz.prog #[29,29]=some (26,1):=by kernel_rfl
theorem eapp_48_48:eapp Tryz.prog #[48,48]=some (53,1):=by kernel_rfl
theorem eapp_53_53:eapp Tryz.prog #[53,53]=some (82,4):=by kernel_rfl
theorem eapp_60_60:eapp Tryz.prog #[60,60]=some (58,2):=by kernel_rfl
theorem eapp_67_67:eapp Tryz.prog #[67,67]=some (4,1):=by kernel_rfl
theorem eapp_73_73:eapp Tryz.prog #[73,73]=some (75,2):=by kernel_rfl
theorem eapp_85_9:eapp Tryz.prog #[85,9]=some (5,1):=by kernel_rfl
theorem eapp_85_85:eapp Tryz.prog #[85,85]=some (5,1):=by kernel_rfl
theorem ear_58:earr Tryz.prog 58=some (3,1,2):=by kernel_rfl
theorem ear_146:earr Tryz.prog 146=some (5,1,24):=by kernel_rfl
theorem ebd_31:ebd Tryz.prog 31=some ([Value.slice none 0 0,Value.slice none 0 0],[(0,1),(1,1)]):=by kernel_rfl
theorem ebd_50:ebd Tryz.prog 50=some ([Value.slice none 0 0,Value.slice none 0 0,Value.slice none 0 0,Value.pointer none,Value.int IntKind.i64 (Int.ofNat 0),Value.int IntKind.i64 (Int.ofNat 0),Value.int IntKind.i64 (Int.ofNat 0),Value.slice none 0 0,Value.slice none 0 0,Value.slice none 0 0,Value.map none],[(0,3),(3,1),(4,1),(5,1),(6,1),(7,2),(9,1),(10,1)]):=by kernel_rfl
theorem ebd_58:ebd Tryz.prog 58=some ([Value.int IntKind.i64 (Int.ofNat 0),Value.int IntKind.i64 (Int.ofNat 0)],[(0,1),(1,1)]):=by kernel_rfl
theorem ebd_72:ebd Tryz.prog 72=some ([Value.slice none 0 0,Value.slice none 0 0,Value.slice none 0 0,Value.slice none 0 0],[(0,3),(3,1)]):=by kernel_rfl
theorem ebd_75:ebd Tryz.prog 75=some ([Value.int IntKind.i64 (Int.ofNat 0),Value.int IntKind.i64 (Int.ofNat 0)],[(0,1),(1,1)]):=by kernel_rfl
theorem ebd_82:ebd Tryz.prog 82=some ([Value.int IntKind.i64 (Int.ofNat 0),Value.int IntKind.i64 (Int.ofNat 0),Value.int IntKind.i64 (Int.ofNat 0),Value.slice none 0 0],[(0,1),(1,2),(3,1)]):=by kernel_rfl
theorem ebd_99:ebd Tryz.prog 99=some ([Value.pointer none,Value.slice none 0 0,Value.slice none 0 0,Value.int IntKind.i64 (Int.ofNat 0),Value.int IntKind.i64 (Int.ofNat 0)],[(0,1),(1,1),(2,1),(3,1),(4,1)]):=by kernel_rfl
theorem ebs_26_1:ebs Tryz.prog 26 1=some (3,1,[Value.int IntKind.i64 (Int.ofNat 0)]):=by kernel_rfl
theorem ebs_26_2:ebs Tryz.prog 26 2=some (3,1,[Value.int IntKind.i64 (Int.ofNat 0)]):=by kernel_rfl
theorem ebs_26_3:ebs Tryz.prog 26 3=some (3,1,[Value.int IntKind.i64 (Int.ofNat 0)]):=by kernel_rfl
theorem ebs_29_1:ebs Tryz.prog 29 1=some (26,1,[Value.slice none 0 0]):=by kernel_rfl
theorem ebs_48_1:ebs Tryz.prog 48 1=some (53,1,[Value.slice none 0 0]):=by kernel_rfl
theorem ebs_53_1:ebs Tryz.prog 53 1=some (82,4,[Value.int IntKind.i64 (Int.ofNat 0),Value.int IntKind.i64 (Int.ofNat 0),Value.int IntKind.i64 (Int.ofNat 0),Value.slice none 0 0]):=by kernel_rfl
theorem ebs_60_1:ebs Tryz.prog 60 1=some (58,2,[Value.int IntKind.i64 (Int.ofNat 0),Value.int IntKind.i64 (Int.ofNat 0)]):=by kernel_rfl
theorem ebs_67_0:ebs Tryz.prog 67 0=some (4,1,[Value.bool false]):=by kernel_rfl
theorem ebs_73_0:ebs Tryz.prog 73 0=some (75,2,[Value.int IntKind.i64 (Int.ofNat 0),Value.int IntKind.i64 (Int.ofNat 0)]):=by kernel_rfl
theorem ebs_73_1:ebs Tryz.prog 73 1=some (75,2,[Value.int IntKind.i64 (Int.ofNat 0),Value.int IntKind.i64 (Int.ofNat 0)]):=by kernel_rfl
theorem ebs_85_1:ebs Tryz.prog 85 1=some (5,1,[Value.int IntKind.u8 (Int.ofNat 0)]):=by kernel_rfl
theorem emk_26:emk Tryz.prog 26=some (3,[Value.int IntKind.i64 (Int.ofNat 0)]):=by kernel_rfl
theorem emk_67:emk Tryz.prog 67=some (4,[Value.bool false]):=by kernel_rfl
theorem emk_70:emk Tryz.prog 70=some (73,[Value.slice none 0 0]):=by kernel_rfl
theorem esz_22:esz Tryz.prog 22=some (9,1):=by kernel_rfl
theorem esz_23:esz Tryz.prog 23=some (63,3):=by kernel_rfl
theorem esz_26:esz Tryz.prog 26=some (3,1):=by kernel_rfl
theorem esz_29:esz Tryz.prog 29=some (26,1):=by kernel_rfl
theorem esz_48:esz Tryz.prog 48=some (53,1):=by kernel_rfl
theorem esz_53:esz Tryz.prog 53=some (82,4):=by kernel_rfl
theorem esz_60:esz Tryz.prog 60=some (58,2):=by kernel_rfl
theorem esz_67:esz Tryz.prog 67=some (4,1):=by kernel_rfl
theorem esz_70:esz Tryz.prog 70=some (73,1):=by kernel_rfl
theorem esz_73:esz Tryz.prog 73=some (75,2):=by kernel_rfl
theorem fofs_25_0:fofs Tryz.prog 25 0=some 0:=by kernel_rfl
theorem fofs_25_1:fofs Tryz.prog 25 1=some 1:=by kernel_rfl
theorem fofs_25_2:fofs Tryz.prog 25 2=some 2:=by kernel_rfl
theorem fofs_31_0:fofs Tryz.prog 31 0=some 0:=by kernel_rfl
theorem fofs_31_1:fofs Tryz.prog 31 1=some 1:=by kernel_rfl
theorem fofs_50_0:fofs Tryz.prog 50 0=some 0:=by kernel_rfl
theorem fofs_50_1:fofs Tryz.prog 50 1=some 3:=by kernel_rfl
theorem fofs_50_2:fofs Tryz.prog 50 2=some 4:=by kernel_rfl
theorem fofs_50_3:fofs Tryz.prog 50 3=some 5:=by kernel_rfl
theorem fofs_50_4:fofs Tryz.prog 50 4=some 6:=by kernel_rfl
theorem fofs_50_5:fofs Tryz.prog 50 5=some 7:=by kernel_rfl
theorem fofs_50_6:fofs Tryz.prog 50 6=some 9:=by kernel_rfl
theorem fofs_50_7:fofs Tryz.prog 50 7=some 10:=by kernel_rfl
theorem fofs_63_0:fofs Tryz.prog 63 0=some 0:=by kernel_rfl
theorem fofs_63_1:fofs Tryz.prog 63 1=some 1:=by kernel_rfl
theorem fofs_63_2:fofs Tryz.prog 63 2=some 2:=by kernel_rfl
theorem fofs_72_0:fofs Tryz.prog 72 0=some 0:=by kernel_rfl
theorem fofs_72_1:fofs Tryz.prog 72 1=some 3:=by kernel_rfl
theorem fofs_75_0:fofs Tryz.prog 75 0=some 0:=by kernel_rfl
theorem fofs_75_1:fofs Tryz.prog 75 1=some 1:=by kernel_rfl
theorem fofs_82_0:fofs Tryz.prog 82 0=some 0:=by kernel_rfl
theorem fofs_82_1:fofs Tryz.prog 82 1=some 1:=by kernel_rfl
theorem fofs_82_2:fofs Tryz.prog 82 2=some 3:=by kernel_rfl
theorem fofs_87_0:fofs Tryz.prog 87 0=some 0:=by kernel_rfl
theorem fofs_87_1:fofs Tryz.prog 87 1=some 1:=by kernel_rfl
theorem fofs_99_0:fofs Tryz.prog 99 0=some 0:=by kernel_rfl
theorem fofs_99_1:fofs Tryz.prog 99 1=some 1:=by kernel_rfl
theorem fofs_99_2:fofs Tryz.prog 99 2=some 2:=by kernel_rfl
theorem fofs_99_3:fofs Tryz.prog 99 3=some 3:=by kernel_rfl
theorem fofs_99_4:fofs Tryz.prog 99 4=some 4:=by kernel_rfl
theorem grt_26_26:growT Tryz.prog #[26,26]=false:=by kernel_rfl
theorem grt_29_29:growT Tryz.prog #[29,29]=false:=by kernel_rfl
theorem grt_48_48:growT Tryz.prog #[48,48]=false:=by kernel_rfl
theorem grt_53_3:growT Tryz.prog #[53,3]=false:=by kernel_rfl
theorem grt_53_53:growT Tryz.prog #[53,53]=false:=by kernel_rfl
theorem grt_60_60:growT Tryz.prog #[60,60]=false:=by kernel_rfl
theorem grt_67_67:growT Tryz.prog #[67,67]=false:=by kernel_rfl
theorem grt_73_73:growT Tryz.prog #[73,73]=false:=by kernel_rfl
theorem grt_85_9:growT Tryz.prog #[85,9]=false:=by kernel_rfl
theorem grt_85_85:growT Tryz.prog #[85,85]=false:=by kernel_rfl
theorem isz_3:isz Tryz.prog 3=some 1:=by kernel_rfl
theorem isz_4:isz Tryz.prog 4=some 1:=by kernel_rfl
theorem isz_5:isz Tryz.prog 5=some 1:=by kernel_rfl
theorem isz_26:isz Tryz.prog 26=some 1:=by kernel_rfl
theorem isz_29:isz Tryz.prog 29=some 1:=by kernel_rfl
theorem isz_31:isz Tryz.prog 31=some 2:=by kernel_rfl
theorem isz_48:isz Tryz.prog 48=some 1:=by kernel_rfl
theorem isz_53:isz Tryz.prog 53=some 1:=by kernel_rfl
theorem isz_58:isz Tryz.prog 58=some 2:=by kernel_rfl
theorem isz_63:isz Tryz.prog 63=some 3:=by kernel_rfl
theorem isz_73:isz Tryz.prog 73=some 1:=by kernel_rfl
theorem isz_75:isz Tryz.prog 75=some 2:=by kernel_rfl
theorem isz_82:isz Tryz.prog 82=some 4:=by kernel_rfl
theorem isz_84:isz Tryz.prog 84=some 1:=by kernel_rfl
theorem isz_85:isz Tryz.prog 85=some 1:=by kernel_rfl
theorem und_2:Program.underlying Tryz.prog 2=some (TypeDesc.int IntKind.i64):=by kernel_rfl
theorem und_3:Program.underlying Tryz.prog 3=some (TypeDesc.int IntKind.i64):=by kernel_rfl
theorem und_4:Program.underlying Tryz.prog 4=some TypeDesc.bool:=by kernel_rfl
theorem und_5:Program.underlying Tryz.prog 5=some (TypeDesc.int IntKind.u8):=by kernel_rfl
theorem und_9:Program.underlying Tryz.prog 9=some TypeDesc.string:=by kernel_rfl
theorem und_61:Program.underlying Tryz.prog 61=some (TypeDesc.float FloatKind.f64):=by kernel_rfl
theorem und_73:Program.underlying Tryz.prog 73=some (TypeDesc.slice 75):=by kernel_rfl
theorem und_84:Program.underlying Tryz.prog 84=some (TypeDesc.pointer 87):=by kernel_rfl
theorem und_85:Program.underlying Tryz.prog 85=some (TypeDesc.slice 5):=by kernel_rfl
theorem und_119:Program.underlying Tryz.prog 119=some (TypeDesc.int IntKind.u64):=by kernel_rfl
theorem und_121:Program.underlying Tryz.prog 121=some TypeDesc.unsafePointer:=by kernel_rfl
theorem und_125:Program.underlying Tryz.prog 125=some (TypeDesc.int IntKind.u64):=by kernel_rfl
theorem und_136:Program.underlying Tryz.prog 136=some (TypeDesc.int IntKind.i64):=by kernel_rfl
theorem und_144:Program.underlying Tryz.prog 144=some (TypeDesc.int IntKind.u32):=by kernel_rfl
theorem undT_9:undT Tryz.prog #[9]=some TypeDesc.string:=by kernel_rfl
theorem undT_22:undT Tryz.prog #[22]=some (TypeDesc.slice 9):=by kernel_rfl
theorem undT_23:undT Tryz.prog #[23]=some (TypeDesc.slice 63):=by kernel_rfl
theorem undT_26:undT Tryz.prog #[26]=some (TypeDesc.slice 3):=by kernel_rfl
theorem undT_29:undT Tryz.prog #[29]=some (TypeDesc.slice 26):=by kernel_rfl
theorem undT_47:undT Tryz.prog #[47]=some (TypeDesc.map 9 3):=by kernel_rfl
theorem undT_48:undT Tryz.prog #[48]=some (TypeDesc.slice 53):=by kernel_rfl
theorem undT_53:undT Tryz.prog #[53]=some (TypeDesc.slice 82):=by kernel_rfl
theorem undT_60:undT Tryz.prog #[60]=some (TypeDesc.slice 58):=by kernel_rfl
theorem undT_73:undT Tryz.prog #[73]=some (TypeDesc.slice 75):=by kernel_rfl
theorem undT_85:undT Tryz.prog #[85]=some (TypeDesc.slice 5):=by kernel_rfl
theorem zeroT_3:zeroT Tryz.prog 3=some (Value.int IntKind.i64 (Int.ofNat 0)):=by kernel_rfl
theorem zeroT_31:zeroT Tryz.prog 31=some (Value.agg { toList:=[Value.slice none 0 0,Value.slice none 0 0] }):=by kernel_rfl
theorem zeroT_58:zeroT Tryz.prog 58=some (Value.agg { toList:=[Value.int IntKind.i64 (Int.ofNat 0),Value.int IntKind.i64 (Int.ofNat 0)] }):=by kernel_rfl
theorem zeroT_63:zeroT Tryz.prog 63=some (Value.agg { toList:=[Value.int IntKind.i64 (Int.ofNat 0),Value.slice none 0 0,Value.float FloatKind.f64 0] }):=by kernel_rfl
theorem zeroT_75:zeroT Tryz.prog 75=some (Value.agg { toList:=[Value.int IntKind.i64 (Int.ofNat 0),Value.int IntKind.i64 (Int.ofNat 0)] }):=by kernel_rfl
theorem zeroT_82:zeroT Tryz.prog 82=some (Value.agg { toList:=[Value.int IntKind.i64 (Int.ofNat 0),Value.int IntKind.i64 (Int.ofNat 0),Value.int IntKind.i64 (Int.ofNat 0),Value.slice none 0 0] }):=by kernel_rfl
theorem zeroT_87:zeroT Tryz.prog 87=some (Value.agg { toList:=[Value.pointer none,Value.slice none 0 0] }):=by kernel_rfl
theorem zeroT_146:zeroT Tryz.prog 146=some (Value.agg { toList:=[Value.int IntKind.u8 (Int.ofNat 0),Value.int IntKind.u8 (Int.ofNat 0),Value.int IntKind.u8 (Int.ofNat 0),Value.int IntKind.u8 (Int.ofNat 0),Value.int IntKind.u8 (Int.ofNat 0),Value.int IntKind.u8 (Int.ofNat 0),Value.int IntKind.u8 (Int.ofNat 0),Value.int IntKind.u8 (Int.ofNat 0),Value.int IntKind.u8 (Int.ofNat 0),Value.int IntKind.u8 (Int.ofNat 0),Value.int IntKind.u8 (Int.ofNat 0),Value.int IntKind.u8 (Int.ofNat 0),Value.int IntKind.u8 (Int.ofNat 0),Value.int IntKind.u8 (Int.ofNat 0),Value.int IntKind.u8 (Int.ofNat 0),Value.int IntKind.u8 (Int.ofNat 0),Value.int IntKind.u8 (Int.ofNat 0),Value.int IntKind.u8 (Int.ofNat 0),Value.int IntKind.u8 (Int.ofNat 0),Value.int IntKind.u8 (Int.ofNat 0),Value.int IntKind.u8 (Int.ofNat 0),Value.int IntKind.u8 (Int.ofNat 0),Value.int IntKind.u8 (Int.ofNat 0),Value.int IntKind.u8 (Int.ofNat 0)] }):=by kernel_rfl
theorem ok3:FnOK Tryz.prog 3 Tryz.f3 (Tryz.f3.body.getD .skip):=fnOK_of fns_ok 3 _ _ (by kernel_rfl) Tryz.func3 rfl
theorem ok5:FnOK Tryz.prog 5 Tryz.f5 (Tryz.f5.body.getD .skip):=fnOK_of fns_ok 5 _ _ (by kernel_rfl) Tryz.func5 rfl
theorem ok6:FnOK Tryz.prog 6 Tryz.f6 (Tryz.f6.body.getD .skip):=fnOK_of fns_ok 6 _ _ (by kernel_rfl) Tryz.func6 rfl
theorem ok7:FnOK Tryz.prog 7 Tryz.f7 (Tryz.f7.body.getD .skip):=fnOK_of fns_ok 7 _ _ (by kernel_rfl) Tryz.func7 rfl
theorem ok8:FnOK Tryz.prog 8 Tryz.f8 (Tryz.f8.body.getD .skip):=fnOK_of fns_ok 8 _ _ (by kernel_rfl) Tryz.func8 rfl
theorem ok9:FnOK Tryz.prog 9 Tryz.f9 (Tryz.f9.body.getD .skip):=fnOK_of fns_ok 9 _ _ (by kernel_rfl) Tryz.func9 rfl
theorem ok10:FnOK Tryz.prog 10 Tryz.f10 (Tryz.f10.body.getD .skip):=fnOK_of fns_ok 10 _ _ (by kernel_rfl) Tryz.func10 rfl
theorem ok12:FnOK Tryz.prog 12 Tryz.f12 (Tryz.f12.body.getD .skip):=fnOK_of fns_ok 12 _ _ (by kernel_rfl) Tryz.func12 rfl
theorem ok13:FnOK Tryz.prog 13 Tryz.f13 (Tryz.f13.body.getD .skip):=fnOK_of fns_ok 13 _ _ (by kernel_rfl) Tryz.func13 rfl
theorem ok14:FnOK Tryz.prog 14 Tryz.f14 (Tryz.f14.body.getD .skip):=fnOK_of fns_ok 14 _ _ (by kernel_rfl) Tryz.func14 rfl
theorem ok15:FnOK Tryz.prog 15 Tryz.f15 (Tryz.f15.body.getD .skip):=fnOK_of fns_ok 15 _ _ (by kernel_rfl) Tryz.func15 rfl
theorem ok16:FnOK Tryz.prog 16 Tryz.f16 (Tryz.f16.body.getD .skip):=fnOK_of fns_ok 16 _ _ (by kernel_rfl) Tryz.func16 rfl
theorem ok17:FnOK Tryz.prog 17 Tryz.f17 (Tryz.f17.body.getD .skip):=fnOK_of fns_ok 17 _ _ (by kernel_rfl) Tryz.func17 rfl
theorem ok18:FnOK Tryz.prog 18 Tryz.f18 (Tryz.f18.body.getD .skip):=fnOK_of fns_ok 18 _ _ (by kernel_rfl) Tryz.func18 rfl
theorem ok19:FnOK Tryz.prog 19 Tryz.f19 (Tryz.f19.body.getD .skip):=fnOK_of fns_ok 19 _ _ (by kernel_rfl) Tryz.func19 rfl
theorem ok20:FnOK Tryz.prog 20 Tryz.f20 (Tryz.f20.body.getD .skip):=fnOK_of fns_ok 20 _ _ (by kernel_rfl) Tryz.func20 rfl
theorem ok21:FnOK Tryz.prog 21 Tryz.f21 (Tryz.f21.body.getD .skip):=fnOK_of fns_ok 21 _ _ (by kernel_rfl) Tryz.func21 rfl
theorem ok22:FnOK Tryz.prog 22 Tryz.f22 (Tryz.f22.body.getD .skip):=fnOK_of fns_ok 22 _ _ (by kernel_rfl) Tryz.func22 rfl
theorem ok23:FnOK Tryz.prog 23 Tryz.f23 (Tryz.f23.body.getD .skip):=fnOK_of fns_ok 23 _ _ (by kernel_rfl) Tryz.func23 rfl
theorem ok24:FnOK Tryz.prog 24 Tryz.f24 (Tryz.f24.body.getD .skip):=fnOK_of fns_ok 24 _ _ (by kernel_rfl) Tryz.func24 rfl
theorem ok25:FnOK Tryz.prog 25 Tryz.f25 (Tryz.f25.body.getD .skip):=fnOK_of fns_ok 25 _ _ (by kernel_rfl) Tryz.func25 rfl
theorem ok26:FnOK Tryz.prog 26 Tryz.f26 (Tryz.f26.body.getD .skip):=fnOK_of fns_ok 26 _ _ (by kernel_rfl) Tryz.func26 rfl
theorem ok27:FnOK Tryz.prog 27 Tryz.f27 (Tryz.f27.body.getD .skip):=fnOK_of fns_ok 27 _ _ (by kernel_rfl) Tryz.func27 rfl
theorem ok28:FnOK Tryz.prog 28 Tryz.f28 (Tryz.f28.body.getD .skip):=fnOK_of fns_ok 28 _ _ (by kernel_rfl) Tryz.func28 rfl
theorem ok29:FnOK Tryz.prog 29 Tryz.f29 (Tryz.f29.body.getD .skip):=fnOK_of fns_ok 29 _ _ (by kernel_rfl) Tryz.func29 rfl
theorem ok30:FnOK Tryz.prog 30 Tryz.f30 (Tryz.f30.body.getD .skip):=fnOK_of fns_ok 30 _ _ (by kernel_rfl) Tryz.func30 rfl
theorem ok31:FnOK Tryz.prog 31 Tryz.f31 (Tryz.f31.body.getD .skip):=fnOK_of fns_ok 31 _ _ (by kernel_rfl) Tryz.func31 rfl
theorem ok32:FnOK Tryz.prog 32 Tryz.f32 (Tryz.f32.body.getD .skip):=fnOK_of fns_ok 32 _ _ (by kernel_rfl) Tryz.func32 rfl
theorem ok33:FnOK Tryz.prog 33 Tryz.f33 (Tryz.f33.body.getD .skip):=fnOK_of fns_ok 33 _ _ (by kernel_rfl) Tryz.func33 rfl
theorem ok34:FnOK Tryz.prog 34 Tryz.f34 (Tryz.f34.body.getD .skip):=fnOK_of fns_ok 34 _ _ (by kernel_rfl) Tryz.func34 rfl
theorem ok35:FnOK Tryz.prog 35 Tryz.f35 (Tryz.f35.body.getD .skip):=fnOK_of fns_ok 35 _ _ (by kernel_rfl) Tryz.func35 rfl
theorem ok36:FnOK Tryz.prog 36 Tryz.f36 (Tryz.f36.body.getD .skip):=fnOK_of fns_ok 36 _ _ (by kernel_rfl) Tryz.func36 rfl
theorem ok37:FnOK Tryz.prog 37 Tryz.f37 (Tryz.f37.body.getD .skip):=fnOK_of fns_ok 37 _ _ (by kernel_rfl) Tryz.func37 rfl
theorem ok38:FnOK Tryz.prog 38 Tryz.f38 (Tryz.f38.body.getD .skip):=fnOK_of fns_ok 38 _ _ (by kernel_rfl) Tryz.func38 rfl
theorem ok39:FnOK Tryz.prog 39 Tryz.f39 (Tryz.f39.body.getD .skip):=fnOK_of fns_ok 39 _ _ (by kernel_rfl) Tryz.func39 rfl
theorem ok40:FnOK Tryz.prog 40 Tryz.f40 (Tryz.f40.body.getD .skip):=fnOK_of fns_ok 40 _ _ (by kernel_rfl) Tryz.func40 rfl
theorem ok41:FnOK Tryz.prog 41 Tryz.f41 (Tryz.f41.body.getD .skip):=fnOK_of fns_ok 41 _ _ (by kernel_rfl) Tryz.func41 rfl
theorem ok42:FnOK Tryz.prog 42 Tryz.f42 (Tryz.f42.body.getD .skip):=fnOK_of fns_ok 42 _ _ (by kernel_rfl) Tryz.func42 rfl
theorem ok43:FnOK Tryz.prog 43 Tryz.f43 (Tryz.f43.body.getD .skip):=fnOK_of fns_ok 43 _ _ (by kernel_rfl) Tryz.func43 rfl
theorem ok44:FnOK Tryz.prog 44 Tryz.f44 (Tryz.f44.body.getD .skip):=fnOK_of fns_ok 44 _ _ (by kernel_rfl) Tryz.func44 rfl
theorem ok45:FnOK Tryz.prog 45 Tryz.f45 (Tryz.f45.body.getD .skip):=fnOK_of fns_ok 45 _ _ (by kernel_rfl) Tryz.func45 rfl
theorem ok46:FnOK Tryz.prog 46 Tryz.f46 (Tryz.f46.body.getD .skip):=fnOK_of fns_ok 46 _ _ (by kernel_rfl) Tryz.func46 rfl
theorem ok47:FnOK Tryz.prog 47 Tryz.f47 (Tryz.f47.body.getD .skip):=fnOK_of fns_ok 47 _ _ (by kernel_rfl) Tryz.func47 rfl
theorem ok48:FnOK Tryz.prog 48 Tryz.f48 (Tryz.f48.body.getD .skip):=fnOK_of fns_ok 48 _ _ (by kernel_rfl) Tryz.func48 rfl
theorem ok49:FnOK Tryz.prog 49 Tryz.f49 (Tryz.f49.body.getD .skip):=fnOK_of fns_ok 49 _ _ (by kernel_rfl) Tryz.func49 rfl
theorem ok50:FnOK Tryz.prog 50 Tryz.f50 (Tryz.f50.body.getD .skip):=fnOK_of fns_ok 50 _ _ (by kernel_rfl) Tryz.func50 rfl
theorem ok51:FnOK Tryz.prog 51 Tryz.f51 (Tryz.f51.body.getD .skip):=fnOK_of fns_ok 51 _ _ (by kernel_rfl) Tryz.func51 rfl
theorem ok52:FnOK Tryz.prog 52 Tryz.f52 (Tryz.f52.body.getD .skip):=fnOK_of fns_ok 52 _ _ (by kernel_rfl) Tryz.func52 rfl
theorem ok53:FnOK Tryz.prog 53 Tryz.f53 (Tryz.f53.body.getD .skip):=fnOK_of fns_ok 53 _ _ (by kernel_rfl) Tryz.func53 rfl
theorem ok54:FnOK Tryz.prog 54 Tryz.f54 (Tryz.f54.body.getD .skip):=fnOK_of fns_ok 54 _ _ (by kernel_rfl) Tryz.func54 rfl
theorem ok55:FnOK Tryz.prog 55 Tryz.f55 (Tryz.f55.body.getD .skip):=fnOK_of fns_ok 55 _ _ (by kernel_rfl) Tryz.func55 rfl
theorem ok56:FnOK Tryz.prog 56 Tryz.f56 (Tryz.f56.body.getD .skip):=fnOK_of fns_ok 56 _ _ (by kernel_rfl) Tryz.func56 rfl
theorem ok57:FnOK Tryz.prog 57 Tryz.f57 (Tryz.f57.body.getD .skip):=fnOK_of fns_ok 57 _ _ (by kernel_rfl) Tryz.func57 rfl
theorem ok58:FnOK Tryz.prog 58 Tryz.f58 (Tryz.f58.body.getD .skip):=fnOK_of fns_ok 58 _ _ (by kernel_rfl) Tryz.func58 rfl
theorem ok59:FnOK Tryz.prog 59 Tryz.f59 (Tryz.f59.body.getD .skip):=fnOK_of fns_ok 59 _ _ (by kernel_rfl) Tryz.func59 rfl
theorem ok61:FnOK Tryz.prog 61 Tryz.f61 (Tryz.f61.body.getD .skip):=fnOK_of fns_ok 61 _ _ (by kernel_rfl) Tryz.func61 rfl
theorem ok62:FnOK Tryz.prog 62 Tryz.f62 (Tryz.f62.body.getD .skip):=fnOK_of fns_ok 62 _ _ (by kernel_rfl) Tryz.func62 rfl
theorem ok63:FnOK Tryz.prog 63 Tryz.f63 (Tryz.f63.body.getD .skip):=fnOK_of fns_ok 63 _ _ (by kernel_rfl) Tryz.func63 rfl
theorem ok64:FnOK Tryz.prog 64 Tryz.f64 (Tryz.f64.body.getD .skip):=fnOK_of fns_ok 64 _ _ (by kernel_rfl) Tryz.func64 rfl
theorem ok65:FnOK Tryz.prog 65 Tryz.f65 (Tryz.f65.body.getD .skip):=fnOK_of fns_ok 65 _ _ (by kernel_rfl) Tryz.func65 rfl
theorem ok66:FnOK Tryz.prog 66 Tryz.f66 (Tryz.f66.body.getD .skip):=fnOK_of fns_ok 66 _ _ (by kernel_rfl) Tryz.func66 rfl
theorem ok67:FnOK Tryz.prog 67 Tryz.f67 (Tryz.f67.body.getD .skip):=fnOK_of fns_ok 67 _ _ (by kernel_rfl) Tryz.func67 rfl
theorem ok68:FnOK Tryz.prog 68 Tryz.f68 (Tryz.f68.body.getD .skip):=fnOK_of fns_ok 68 _ _ (by kernel_rfl) Tryz.func68 rfl
theorem ok69:FnOK Tryz.prog 69 Tryz.f69 (Tryz.f69.body.getD .skip):=fnOK_of fns_ok 69 _ _ (by kernel_rfl) Tryz.func69 rfl
theorem ok70:FnOK Tryz.prog 70 Tryz.f70 (Tryz.f70.body.getD .skip):=fnOK_of fns_ok 70 _ _ (by kernel_rfl) Tryz.func70 rfl
theorem ok71:FnOK Tryz.prog 71 Tryz.f71 (Tryz.f71.body.getD .skip):=fnOK_of fns_ok 71 _ _ (by kernel_rfl) Tryz.func71 rfl
theorem ok73:FnOK Tryz.prog 73 Tryz.f73 (Tryz.f73.body.getD .skip):=fnOK_of fns_ok 73 _ _ (by kernel_rfl) Tryz.func73 rfl
theorem ok77:FnOK Tryz.prog 77 Tryz.f77 (Tryz.f77.body.getD .skip):=fnOK_of fns_ok 77 _ _ (by kernel_rfl) Tryz.func77 rfl
theorem ok78:FnOK Tryz.prog 78 Tryz.f78 (Tryz.f78.body.getD .skip):=fnOK_of fns_ok 78 _ _ (by kernel_rfl) Tryz.func78 rfl
theorem ok79:FnOK Tryz.prog 79 Tryz.f79 (Tryz.f79.body.getD .skip):=fnOK_of fns_ok 79 _ _ (by kernel_rfl) Tryz.func79 rfl
theorem ok80:FnOK Tryz.prog 80 Tryz.f80 (Tryz.f80.body.getD .skip):=fnOK_of fns_ok 80 _ _ (by kernel_rfl) Tryz.func80 rfl
theorem ok81:FnOK Tryz.prog 81 Tryz.f81 (Tryz.f81.body.getD .skip):=fnOK_of fns_ok 81 _ _ (by kernel_rfl) Tryz.func81 rfl
theorem ok84:FnOK Tryz.prog 84 Tryz.f84 (Tryz.f84.body.getD .skip):=fnOK_of fns_ok 84 _ _ (by kernel_rfl) Tryz.func84 rfl
theorem ok87:FnOK Tryz.prog 87 Tryz.f87 (Tryz.f87.body.getD .skip):=fnOK_of fns_ok 87 _ _ (by kernel_rfl) Tryz.func87 rfl
theorem ok89:FnOK Tryz.prog 89 Tryz.f89 (Tryz.f89.body.getD .skip):=fnOK_of fns_ok 89 _ _ (by kernel_rfl) Tryz.func89 rfl
theorem ok90:FnOK Tryz.prog 90 Tryz.f90 (Tryz.f90.body.getD .skip):=fnOK_of fns_ok 90 _ _ (by kernel_rfl) Tryz.func90 rfl
theorem ok94:FnOK Tryz.prog 94 Tryz.f94 (Tryz.f94.body.getD .skip):=fnOK_of fns_ok 94 _ _ (by kernel_rfl) Tryz.func94 rfl
theorem ok95:FnOK Tryz.prog 95 Tryz.f95 (Tryz.f95.body.getD .skip):=fnOK_of fns_ok 95 _ _ (by kernel_rfl) Tryz.func95 rfl
theorem ok96:FnOK Tryz.prog 96 Tryz.f96 (Tryz.f96.body.getD .skip):=fnOK_of fns_ok 96 _ _ (by kernel_rfl) Tryz.func96 rfl
theorem ok100:FnOK Tryz.prog 100 Tryz.f100 (Tryz.f100.body.getD .skip):=fnOK_of fns_ok 100 _ _ (by kernel_rfl) Tryz.func100 rfl
theorem ok101:FnOK Tryz.prog 101 Tryz.f101 (Tryz.f101.body.getD .skip):=fnOK_of fns_ok 101 _ _ (by kernel_rfl) Tryz.func101 rfl
theorem ok107:FnOK Tryz.prog 107 Tryz.f107 (Tryz.f107.body.getD .skip):=fnOK_of fns_ok 107 _ _ (by kernel_rfl) Tryz.func107 rfl
theorem ok108:FnOK Tryz.prog 108 Tryz.f108 (Tryz.f108.body.getD .skip):=fnOK_of fns_ok 108 _ _ (by kernel_rfl) Tryz.func108 rfl
theorem ok114:FnOK Tryz.prog 114 Tryz.f114 (Tryz.f114.body.getD .skip):=fnOK_of fns_ok 114 _ _ (by kernel_rfl) Tryz.func114 rfl
theorem ff_3:type_of% (And.intro (And.intro (And.intro @agg_25 (And.intro @agg_29 @agg_31)) (And.intro @csz_25 (And.intro @csz_29 @csz_31))) (And.intro (And.intro @fofs_31_0 (And.intro @isz_31 @und_3)) (And.intro @undT_26 (And.intro @undT_29 @zeroT_31)))):=And.intro (And.intro (And.intro @agg_25 (And.intro @agg_29 @agg_31)) (And.intro @csz_25 (And.intro @csz_29 @csz_31))) (And.intro (And.intro @fofs_31_0 (And.intro @isz_31 @und_3)) (And.intro @undT_26 (And.intro @undT_29 @zeroT_31)))
theorem ff_5:type_of% (And.intro (And.intro @agg_23 (And.intro @agg_25 @csz_23)) (And.intro @csz_25 (And.intro @fofs_25_2 @undT_23))):=And.intro (And.intro @agg_23 (And.intro @agg_25 @csz_23)) (And.intro @csz_25 (And.intro @fofs_25_2 @undT_23))
theorem ff_6:type_of% (And.intro (And.intro (And.intro (And.intro @agg_22 @agg_25) (And.intro @agg_31 (And.intro @agg_45 @agg_48))) (And.intro (And.intro @csz_22 @csz_25) (And.intro @csz_31 (And.intro @csz_45 @csz_48)))) (And.intro (And.intro (And.intro @ebd_31 @ebd_50) (And.intro @fofs_25_1 (And.intro @fofs_50_1 @fofs_50_5))) (And.intro (And.intro @fofs_50_6 @isz_31) (And.intro @undT_22 (And.intro @undT_48 @zeroT_31))))):=And.intro (And.intro (And.intro (And.intro @agg_22 @agg_25) (And.intro @agg_31 (And.intro @agg_45 @agg_48))) (And.intro (And.intro @csz_22 @csz_25) (And.intro @csz_31 (And.intro @csz_45 @csz_48)))) (And.intro (And.intro (And.intro @ebd_31 @ebd_50) (And.intro @fofs_25_1 (And.intro @fofs_50_1 @fofs_50_5))) (And.intro (And.intro @fofs_50_6 @isz_31) (And.intro @undT_22 (And.intro @undT_48 @zeroT_31))))
theorem ff_7:type_of% (And.intro (And.intro (And.intro @agg_3 (And.intro @agg_26 @agg_29)) (And.intro @csz_3 (And.intro @csz_26 @csz_29))) (And.intro (And.intro @esz_26 (And.intro @esz_29 @fofs_31_0)) (And.intro (And.intro @fofs_31_1 @und_3) (And.intro @undT_26 @undT_29)))):=And.intro (And.intro (And.intro @agg_3 (And.intro @agg_26 @agg_29)) (And.intro @csz_3 (And.intro @csz_26 @csz_29))) (And.intro (And.intro @esz_26 (And.intro @esz_29 @fofs_31_0)) (And.intro (And.intro @fofs_31_1 @und_3) (And.intro @undT_26 @undT_29)))
theorem ff_8:type_of% (And.intro (And.intro (And.intro (And.intro @agg_3 (And.intro @agg_26 @agg_29)) (And.intro @agg_31 (And.intro @csz_3 @csz_26))) (And.intro (And.intro @csz_29 (And.intro @csz_31 @eapp_26_26)) (And.intro (And.intro @eapp_29_29 @ebd_31) (And.intro @ebs_26_1 @ebs_29_1)))) (And.intro (And.intro (And.intro @emk_26 (And.intro @esz_26 @esz_29)) (And.intro @fofs_31_0 (And.intro @fofs_31_1 @grt_26_26))) (And.intro (And.intro @grt_29_29 (And.intro @isz_3 @isz_26)) (And.intro (And.intro @isz_29 @isz_31) (And.intro @undT_26 @zeroT_31))))):=And.intro (And.intro (And.intro (And.intro @agg_3 (And.intro @agg_26 @agg_29)) (And.intro @agg_31 (And.intro @csz_3 @csz_26))) (And.intro (And.intro @csz_29 (And.intro @csz_31 @eapp_26_26)) (And.intro (And.intro @eapp_29_29 @ebd_31) (And.intro @ebs_26_1 @ebs_29_1)))) (And.intro (And.intro (And.intro @emk_26 (And.intro @esz_26 @esz_29)) (And.intro @fofs_31_0 (And.intro @fofs_31_1 @grt_26_26))) (And.intro (And.intro @grt_29_29 (And.intro @isz_3 @isz_26)) (And.intro (And.intro @isz_29 @isz_31) (And.intro @undT_26 @zeroT_31))))
theorem ff_9:type_of% (And.intro (And.intro (And.intro @agg_3 (And.intro @agg_26 @agg_29)) (And.intro @csz_3 (And.intro @csz_26 @csz_29))) (And.intro (And.intro @esz_26 (And.intro @esz_29 @fofs_31_0)) (And.intro @fofs_31_1 (And.intro @undT_26 @undT_29)))):=And.intro (And.intro (And.intro @agg_3 (And.intro @agg_26 @agg_29)) (And.intro @csz_3 (And.intro @csz_26 @csz_29))) (And.intro (And.intro @esz_26 (And.intro @esz_29 @fofs_31_0)) (And.intro @fofs_31_1 (And.intro @undT_26 @undT_29)))
theorem ff_10:type_of% (And.intro (And.intro (And.intro (And.intro @agg_3 (And.intro @agg_26 @agg_29)) (And.intro @agg_31 (And.intro @agg_58 @csz_3))) (And.intro (And.intro @csz_26 (And.intro @csz_29 @csz_31)) (And.intro (And.intro @csz_58 @eapp_60_60) (And.intro @ear_58 @ebd_58)))) (And.intro (And.intro (And.intro @ebs_60_1 (And.intro @esz_26 @esz_29)) (And.intro @esz_60 (And.intro @fofs_31_0 @fofs_31_1))) (And.intro (And.intro @grt_60_60 (And.intro @isz_58 @und_3)) (And.intro (And.intro @und_4 @undT_26) (And.intro @undT_60 @zeroT_58))))):=And.intro (And.intro (And.intro (And.intro @agg_3 (And.intro @agg_26 @agg_29)) (And.intro @agg_31 (And.intro @agg_58 @csz_3))) (And.intro (And.intro @csz_26 (And.intro @csz_29 @csz_31)) (And.intro (And.intro @csz_58 @eapp_60_60) (And.intro @ear_58 @ebd_58)))) (And.intro (And.intro (And.intro @ebs_60_1 (And.intro @esz_26 @esz_29)) (And.intro @esz_60 (And.intro @fofs_31_0 @fofs_31_1))) (And.intro (And.intro @grt_60_60 (And.intro @isz_58 @und_3)) (And.intro (And.intro @und_4 @undT_26) (And.intro @undT_60 @zeroT_58))))
theorem ff_13:type_of% (And.intro (And.intro (And.intro @agg_22 (And.intro @agg_23 @agg_26)) (And.intro (And.intro @csz_22 @csz_23) (And.intro @csz_26 @esz_23))) (And.intro (And.intro @fofs_25_0 (And.intro @fofs_25_1 @fofs_25_2)) (And.intro (And.intro @fofs_63_1 @undT_22) (And.intro @undT_23 @undT_26)))):=And.intro (And.intro (And.intro @agg_22 (And.intro @agg_23 @agg_26)) (And.intro (And.intro @csz_22 @csz_23) (And.intro @csz_26 @esz_23))) (And.intro (And.intro @fofs_25_0 (And.intro @fofs_25_1 @fofs_25_2)) (And.intro (And.intro @fofs_63_1 @undT_22) (And.intro @undT_23 @undT_26)))
theorem ff_14:type_of% (And.intro (And.intro (And.intro @agg_9 (And.intro @agg_22 @agg_23)) (And.intro (And.intro @agg_25 @csz_9) (And.intro @csz_22 @csz_23))) (And.intro (And.intro (And.intro @csz_25 @esz_22) (And.intro @fofs_25_0 @fofs_25_1)) (And.intro (And.intro @fofs_25_2 @und_3) (And.intro @undT_22 @undT_23)))):=And.intro (And.intro (And.intro @agg_9 (And.intro @agg_22 @agg_23)) (And.intro (And.intro @agg_25 @csz_9) (And.intro @csz_22 @csz_23))) (And.intro (And.intro (And.intro @csz_25 @esz_22) (And.intro @fofs_25_0 @fofs_25_1)) (And.intro (And.intro @fofs_25_2 @und_3) (And.intro @undT_22 @undT_23)))
theorem ff_15:type_of% (And.intro (And.intro (And.intro @agg_3 (And.intro @agg_4 @agg_23)) (And.intro (And.intro @agg_25 @agg_63) (And.intro @csz_3 @csz_4))) (And.intro (And.intro @csz_23 (And.intro @csz_25 @csz_63)) (And.intro (And.intro @esz_23 @esz_67) (And.intro @fofs_25_2 @fofs_63_0)))):=And.intro (And.intro (And.intro @agg_3 (And.intro @agg_4 @agg_23)) (And.intro (And.intro @agg_25 @agg_63) (And.intro @csz_3 @csz_4))) (And.intro (And.intro @csz_23 (And.intro @csz_25 @csz_63)) (And.intro (And.intro @esz_23 @esz_67) (And.intro @fofs_25_2 @fofs_63_0)))
theorem ff_16:type_of% (And.intro (And.intro (And.intro (And.intro (And.intro @agg_3 @agg_22) (And.intro @agg_23 @agg_25)) (And.intro (And.intro @agg_26 @agg_63) (And.intro @agg_70 @agg_73))) (And.intro (And.intro (And.intro @csz_3 @csz_22) (And.intro @csz_23 @csz_25)) (And.intro (And.intro @csz_26 @csz_63) (And.intro @csz_70 (And.intro @csz_73 @eapp_73_73))))) (And.intro (And.intro (And.intro (And.intro @ebd_72 @ebd_75) (And.intro @ebs_73_1 @emk_70)) (And.intro (And.intro @esz_23 @esz_26) (And.intro @esz_70 (And.intro @fofs_25_1 @fofs_25_2)))) (And.intro (And.intro (And.intro @fofs_63_1 @fofs_72_1) (And.intro @grt_73_73 @isz_63)) (And.intro (And.intro @isz_73 @undT_22) (And.intro @undT_23 (And.intro @undT_26 @zeroT_63)))))):=And.intro (And.intro (And.intro (And.intro (And.intro @agg_3 @agg_22) (And.intro @agg_23 @agg_25)) (And.intro (And.intro @agg_26 @agg_63) (And.intro @agg_70 @agg_73))) (And.intro (And.intro (And.intro @csz_3 @csz_22) (And.intro @csz_23 @csz_25)) (And.intro (And.intro @csz_26 @csz_63) (And.intro @csz_70 (And.intro @csz_73 @eapp_73_73))))) (And.intro (And.intro (And.intro (And.intro @ebd_72 @ebd_75) (And.intro @ebs_73_1 @emk_70)) (And.intro (And.intro @esz_23 @esz_26) (And.intro @esz_70 (And.intro @fofs_25_1 @fofs_25_2)))) (And.intro (And.intro (And.intro @fofs_63_1 @fofs_72_1) (And.intro @grt_73_73 @isz_63)) (And.intro (And.intro @isz_73 @undT_22) (And.intro @undT_23 (And.intro @undT_26 @zeroT_63)))))
theorem ff_17:type_of% (And.intro (And.intro (And.intro @agg_3 @agg_45) (And.intro @csz_3 (And.intro @csz_45 @esz_26))) (And.intro (And.intro @fofs_50_1 @fofs_50_2) (And.intro @fofs_50_3 (And.intro @und_3 @undT_26)))):=And.intro (And.intro (And.intro @agg_3 @agg_45) (And.intro @csz_3 (And.intro @csz_45 @esz_26))) (And.intro (And.intro @fofs_50_1 @fofs_50_2) (And.intro @fofs_50_3 (And.intro @und_3 @undT_26)))
theorem ff_18:type_of% (And.intro (And.intro (And.intro @agg_22 (And.intro @agg_25 @csz_22)) (And.intro @csz_25 (And.intro @eapp_53_53 @ebd_75))) (And.intro (And.intro @ebd_82 (And.intro @ebs_53_1 @fofs_25_1)) (And.intro @fofs_72_0 (And.intro @grt_53_53 @undT_22)))):=And.intro (And.intro (And.intro @agg_22 (And.intro @agg_25 @csz_22)) (And.intro @csz_25 (And.intro @eapp_53_53 @ebd_75))) (And.intro (And.intro @ebd_82 (And.intro @ebs_53_1 @fofs_25_1)) (And.intro @fofs_72_0 (And.intro @grt_53_53 @undT_22)))
theorem ff_19:type_of% (And.intro (And.intro (And.intro (And.intro @agg_3 (And.intro @agg_22 @agg_26)) (And.intro @agg_29 (And.intro @agg_45 @agg_48))) (And.intro (And.intro @agg_53 (And.intro @csz_3 @csz_22)) (And.intro (And.intro @csz_26 @csz_29) (And.intro @csz_45 @csz_48)))) (And.intro (And.intro (And.intro @csz_53 (And.intro @esz_26 @esz_29)) (And.intro @esz_48 (And.intro @fofs_25_0 @fofs_31_0))) (And.intro (And.intro @fofs_31_1 (And.intro @fofs_50_0 @fofs_50_1)) (And.intro (And.intro @fofs_50_5 @fofs_50_6) (And.intro @isz_3 @undT_22))))):=And.intro (And.intro (And.intro (And.intro @agg_3 (And.intro @agg_22 @agg_26)) (And.intro @agg_29 (And.intro @agg_45 @agg_48))) (And.intro (And.intro @agg_53 (And.intro @csz_3 @csz_22)) (And.intro (And.intro @csz_26 @csz_29) (And.intro @csz_45 @csz_48)))) (And.intro (And.intro (And.intro @csz_53 (And.intro @esz_26 @esz_29)) (And.intro @esz_48 (And.intro @fofs_25_0 @fofs_31_0))) (And.intro (And.intro @fofs_31_1 (And.intro @fofs_50_0 @fofs_50_1)) (And.intro (And.intro @fofs_50_5 @fofs_50_6) (And.intro @isz_3 @undT_22))))
theorem ff_20:type_of% (And.intro (And.intro (And.intro (And.intro @agg_3 @agg_26) (And.intro @agg_29 @csz_3)) (And.intro (And.intro @csz_26 @csz_29) (And.intro @emk_26 @esz_26))) (And.intro (And.intro (And.intro @esz_29 @fofs_31_0) (And.intro @fofs_31_1 @isz_3)) (And.intro (And.intro @und_3 @undT_26) (And.intro @undT_29 (And.intro @undT_47 @zeroT_87))))):=And.intro (And.intro (And.intro (And.intro @agg_3 @agg_26) (And.intro @agg_29 @csz_3)) (And.intro (And.intro @csz_26 @csz_29) (And.intro @emk_26 @esz_26))) (And.intro (And.intro (And.intro @esz_29 @fofs_31_0) (And.intro @fofs_31_1 @isz_3)) (And.intro (And.intro @und_3 @undT_26) (And.intro @undT_29 (And.intro @undT_47 @zeroT_87))))
theorem ff_21:type_of% (And.intro (And.intro @agg_3 @csz_3) (And.intro @esz_26 (And.intro @und_3 @undT_26))):=And.intro (And.intro @agg_3 @csz_3) (And.intro @esz_26 (And.intro @und_3 @undT_26))
theorem ff_22:type_of% (And.intro @und_9 @undT_9):=And.intro @und_9 @undT_9
theorem ff_23:type_of% (And.intro (And.intro @agg_9 @csz_9) (And.intro @esz_22 (And.intro @und_9 @undT_22))):=And.intro (And.intro @agg_9 @csz_9) (And.intro @esz_22 (And.intro @und_9 @undT_22))
theorem ff_24:type_of% (And.intro @und_9 @undT_9):=And.intro @und_9 @undT_9
theorem ff_25:type_of% (And.intro (And.intro (And.intro (And.intro @agg_3 (And.intro @agg_22 @agg_23)) (And.intro @agg_26 (And.intro @agg_61 @agg_63))) (And.intro (And.intro @csz_3 (And.intro @csz_22 @csz_23)) (And.intro @csz_26 (And.intro @csz_61 @csz_63)))) (And.intro (And.intro (And.intro @esz_23 (And.intro @esz_26 @fofs_25_0)) (And.intro @fofs_25_1 (And.intro @fofs_25_2 @fofs_63_0))) (And.intro (And.intro @fofs_63_1 (And.intro @fofs_63_2 @isz_63)) (And.intro (And.intro @und_3 @undT_22) (And.intro @undT_26 @zeroT_63))))):=And.intro (And.intro (And.intro (And.intro @agg_3 (And.intro @agg_22 @agg_23)) (And.intro @agg_26 (And.intro @agg_61 @agg_63))) (And.intro (And.intro @csz_3 (And.intro @csz_22 @csz_23)) (And.intro @csz_26 (And.intro @csz_61 @csz_63)))) (And.intro (And.intro (And.intro @esz_23 (And.intro @esz_26 @fofs_25_0)) (And.intro @fofs_25_1 (And.intro @fofs_25_2 @fofs_63_0))) (And.intro (And.intro @fofs_63_1 (And.intro @fofs_63_2 @isz_63)) (And.intro (And.intro @und_3 @undT_22) (And.intro @undT_26 @zeroT_63))))
theorem ff_26:type_of% (And.intro (And.intro (And.intro @agg_3 @agg_23) (And.intro @csz_3 @csz_23)) (And.intro (And.intro @esz_23 @fofs_25_2) (And.intro @fofs_63_0 (And.intro @und_3 @undT_23)))):=And.intro (And.intro (And.intro @agg_3 @agg_23) (And.intro @csz_3 @csz_23)) (And.intro (And.intro @esz_23 @fofs_25_2) (And.intro @fofs_63_0 (And.intro @und_3 @undT_23)))
theorem ff_27:type_of% (And.intro (And.intro (And.intro @agg_3 (And.intro @agg_23 @agg_26)) (And.intro @csz_3 (And.intro @csz_23 @csz_26))) (And.intro (And.intro @esz_23 (And.intro @esz_26 @fofs_25_2)) (And.intro (And.intro @fofs_63_1 @und_3) (And.intro @undT_23 @undT_26)))):=And.intro (And.intro (And.intro @agg_3 (And.intro @agg_23 @agg_26)) (And.intro @csz_3 (And.intro @csz_23 @csz_26))) (And.intro (And.intro @esz_23 (And.intro @esz_26 @fofs_25_2)) (And.intro (And.intro @fofs_63_1 @und_3) (And.intro @undT_23 @undT_26)))
theorem ff_28:type_of% (And.intro (And.intro (And.intro (And.intro @agg_3 (And.intro @agg_4 @agg_22)) (And.intro (And.intro @agg_23 @agg_25) (And.intro @agg_26 @agg_63))) (And.intro (And.intro @csz_3 (And.intro @csz_4 @csz_22)) (And.intro (And.intro @csz_23 @csz_25) (And.intro @csz_26 @csz_63)))) (And.intro (And.intro (And.intro @emk_67 (And.intro @esz_23 @esz_26)) (And.intro (And.intro @esz_67 @fofs_25_1) (And.intro @fofs_25_2 @fofs_63_0))) (And.intro (And.intro @fofs_63_1 (And.intro @isz_4 @isz_63)) (And.intro (And.intro @undT_22 @undT_23) (And.intro @undT_26 @zeroT_63))))):=And.intro (And.intro (And.intro (And.intro @agg_3 (And.intro @agg_4 @agg_22)) (And.intro (And.intro @agg_23 @agg_25) (And.intro @agg_26 @agg_63))) (And.intro (And.intro @csz_3 (And.intro @csz_4 @csz_22)) (And.intro (And.intro @csz_23 @csz_25) (And.intro @csz_26 @csz_63)))) (And.intro (And.intro (And.intro @emk_67 (And.intro @esz_23 @esz_26)) (And.intro (And.intro @esz_67 @fofs_25_1) (And.intro @fofs_25_2 @fofs_63_0))) (And.intro (And.intro @fofs_63_1 (And.intro @isz_4 @isz_63)) (And.intro (And.intro @undT_22 @undT_23) (And.intro @undT_26 @zeroT_63))))
theorem ff_29:type_of% (And.intro (And.intro (And.intro @agg_3 @agg_4) (And.intro @agg_26 (And.intro @csz_3 @csz_4))) (And.intro (And.intro @csz_26 @esz_26) (And.intro @esz_67 (And.intro @fofs_63_1 @undT_26)))):=And.intro (And.intro (And.intro @agg_3 @agg_4) (And.intro @agg_26 (And.intro @csz_3 @csz_4))) (And.intro (And.intro @csz_26 @esz_26) (And.intro @esz_67 (And.intro @fofs_63_1 @undT_26)))
theorem ff_30:type_of% (And.intro @agg_25 @csz_25):=And.intro @agg_25 @csz_25
theorem ff_32:type_of% (And.intro (And.intro (And.intro @agg_45 (And.intro @agg_53 @agg_82)) (And.intro (And.intro @csz_45 @csz_53) (And.intro @csz_82 @ebd_99))) (And.intro (And.intro @esz_53 (And.intro @fofs_99_1 @fofs_99_2)) (And.intro (And.intro @isz_53 @isz_82) (And.intro @undT_53 @zeroT_82)))):=And.intro (And.intro (And.intro @agg_45 (And.intro @agg_53 @agg_82)) (And.intro (And.intro @csz_45 @csz_53) (And.intro @csz_82 @ebd_99))) (And.intro (And.intro @esz_53 (And.intro @fofs_99_1 @fofs_99_2)) (And.intro (And.intro @isz_53 @isz_82) (And.intro @undT_53 @zeroT_82)))
theorem ff_33:type_of% (And.intro (And.intro (And.intro @agg_3 (And.intro @agg_82 @csz_3)) (And.intro @csz_82 (And.intro @eapp_26_26 @ebs_26_1))) (And.intro (And.intro @esz_53 (And.intro @fofs_82_0 @grt_26_26)) (And.intro @isz_82 (And.intro @undT_53 @zeroT_82)))):=And.intro (And.intro (And.intro @agg_3 (And.intro @agg_82 @csz_3)) (And.intro @csz_82 (And.intro @eapp_26_26 @ebs_26_1))) (And.intro (And.intro @esz_53 (And.intro @fofs_82_0 @grt_26_26)) (And.intro @isz_82 (And.intro @undT_53 @zeroT_82)))
theorem ff_34:type_of% (And.intro (And.intro (And.intro (And.intro (And.intro @agg_3 @agg_22) (And.intro @agg_26 @agg_29)) (And.intro (And.intro @agg_47 @agg_48) (And.intro @csz_3 (And.intro @csz_22 @csz_26)))) (And.intro (And.intro (And.intro @csz_29 @csz_47) (And.intro @csz_48 (And.intro @eapp_26_26 @eapp_29_29))) (And.intro (And.intro @eapp_48_48 @ebs_26_1) (And.intro @ebs_29_1 (And.intro @ebs_48_1 @emk_26))))) (And.intro (And.intro (And.intro (And.intro @esz_26 @fofs_25_0) (And.intro @fofs_31_0 @fofs_31_1)) (And.intro (And.intro @fofs_50_0 @fofs_50_4) (And.intro @fofs_50_5 (And.intro @fofs_50_6 @fofs_50_7)))) (And.intro (And.intro (And.intro @grt_26_26 @grt_29_29) (And.intro @grt_48_48 (And.intro @isz_3 @isz_26))) (And.intro (And.intro @isz_29 @isz_48) (And.intro @undT_22 (And.intro @undT_26 @undT_48)))))):=And.intro (And.intro (And.intro (And.intro (And.intro @agg_3 @agg_22) (And.intro @agg_26 @agg_29)) (And.intro (And.intro @agg_47 @agg_48) (And.intro @csz_3 (And.intro @csz_22 @csz_26)))) (And.intro (And.intro (And.intro @csz_29 @csz_47) (And.intro @csz_48 (And.intro @eapp_26_26 @eapp_29_29))) (And.intro (And.intro @eapp_48_48 @ebs_26_1) (And.intro @ebs_29_1 (And.intro @ebs_48_1 @emk_26))))) (And.intro (And.intro (And.intro (And.intro @esz_26 @fofs_25_0) (And.intro @fofs_31_0 @fofs_31_1)) (And.intro (And.intro @fofs_50_0 @fofs_50_4) (And.intro @fofs_50_5 (And.intro @fofs_50_6 @fofs_50_7)))) (And.intro (And.intro (And.intro @grt_26_26 @grt_29_29) (And.intro @grt_48_48 (And.intro @isz_3 @isz_26))) (And.intro (And.intro @isz_29 @isz_48) (And.intro @undT_22 (And.intro @undT_26 @undT_48)))))
theorem ff_35:type_of% (And.intro (And.intro (And.intro @agg_3 @agg_23) (And.intro @csz_3 @csz_23)) (And.intro (And.intro @esz_23 @fofs_25_2) (And.intro @fofs_63_0 (And.intro @und_3 @undT_23)))):=And.intro (And.intro (And.intro @agg_3 @agg_23) (And.intro @csz_3 @csz_23)) (And.intro (And.intro @esz_23 @fofs_25_2) (And.intro @fofs_63_0 (And.intro @und_3 @undT_23)))
theorem ff_36:type_of% (And.intro (And.intro (And.intro (And.intro @agg_3 @agg_73) (And.intro @agg_82 (And.intro @csz_3 @csz_73))) (And.intro (And.intro @csz_82 @eapp_53_53) (And.intro @ebd_75 (And.intro @ebd_82 @ebs_53_1)))) (And.intro (And.intro (And.intro @esz_53 @fofs_75_0) (And.intro @fofs_75_1 (And.intro @fofs_82_0 @fofs_82_1))) (And.intro (And.intro @fofs_82_2 (And.intro @grt_53_53 @isz_82)) (And.intro @und_3 (And.intro @undT_53 @zeroT_82))))):=And.intro (And.intro (And.intro (And.intro @agg_3 @agg_73) (And.intro @agg_82 (And.intro @csz_3 @csz_73))) (And.intro (And.intro @csz_82 @eapp_53_53) (And.intro @ebd_75 (And.intro @ebd_82 @ebs_53_1)))) (And.intro (And.intro (And.intro @esz_53 @fofs_75_0) (And.intro @fofs_75_1 (And.intro @fofs_82_0 @fofs_82_1))) (And.intro (And.intro @fofs_82_2 (And.intro @grt_53_53 @isz_82)) (And.intro @und_3 (And.intro @undT_53 @zeroT_82))))
theorem ff_37:type_of% (And.intro (And.intro (And.intro (And.intro @agg_3 @agg_45) (And.intro @agg_82 @csz_3)) (And.intro (And.intro @csz_45 @csz_82) (And.intro @eapp_53_53 @ebs_53_1))) (And.intro (And.intro (And.intro @esz_26 @esz_53) (And.intro @fofs_50_1 @grt_53_53)) (And.intro (And.intro @isz_82 @und_3) (And.intro @undT_26 (And.intro @undT_53 @zeroT_82))))):=And.intro (And.intro (And.intro (And.intro @agg_3 @agg_45) (And.intro @agg_82 @csz_3)) (And.intro (And.intro @csz_45 @csz_82) (And.intro @eapp_53_53 @ebs_53_1))) (And.intro (And.intro (And.intro @esz_26 @esz_53) (And.intro @fofs_50_1 @grt_53_53)) (And.intro (And.intro @isz_82 @und_3) (And.intro @undT_26 (And.intro @undT_53 @zeroT_82))))
theorem ff_38:type_of% (And.intro (And.intro @agg_85 (And.intro @csz_85 @eapp_85_9)) (And.intro (And.intro @fofs_87_1 @grt_85_9) (And.intro @isz_85 @undT_9))):=And.intro (And.intro @agg_85 (And.intro @csz_85 @eapp_85_9)) (And.intro (And.intro @fofs_87_1 @grt_85_9) (And.intro @isz_85 @undT_9))
theorem ff_40:type_of% (And.intro (And.intro @agg_85 @csz_85) (And.intro @fofs_87_1 @undT_85)):=And.intro (And.intro @agg_85 @csz_85) (And.intro @fofs_87_1 @undT_85)
theorem ff_42:type_of% (@und_5):=@und_5
theorem ff_43:type_of% (@und_5):=@und_5
theorem ff_44:type_of% (And.intro @und_2 @und_61):=And.intro @und_2 @und_61
theorem ff_45:type_of% (And.intro (And.intro (And.intro (And.intro @agg_3 @agg_22) (And.intro @agg_23 (And.intro @agg_63 @csz_3))) (And.intro (And.intro @csz_22 @csz_23) (And.intro @csz_63 (And.intro @eapp_67_67 @ebs_67_0)))) (And.intro (And.intro (And.intro @emk_67 @esz_23) (And.intro @esz_67 (And.intro @fofs_25_1 @fofs_25_2))) (And.intro (And.intro @fofs_63_0 @grt_67_67) (And.intro @isz_4 (And.intro @undT_22 @undT_23))))):=And.intro (And.intro (And.intro (And.intro @agg_3 @agg_22) (And.intro @agg_23 (And.intro @agg_63 @csz_3))) (And.intro (And.intro @csz_22 @csz_23) (And.intro @csz_63 (And.intro @eapp_67_67 @ebs_67_0)))) (And.intro (And.intro (And.intro @emk_67 @esz_23) (And.intro @esz_67 (And.intro @fofs_25_1 @fofs_25_2))) (And.intro (And.intro @fofs_63_0 @grt_67_67) (And.intro @isz_4 (And.intro @undT_22 @undT_23))))
theorem ff_46:type_of% (And.intro (And.intro (And.intro (And.intro @agg_3 @agg_53) (And.intro @agg_73 @agg_82)) (And.intro (And.intro @csz_3 @csz_53) (And.intro @csz_73 (And.intro @csz_82 @eapp_53_53)))) (And.intro (And.intro (And.intro @ebs_53_1 @fofs_82_2) (And.intro @fofs_99_1 (And.intro @fofs_99_2 @fofs_99_3))) (And.intro (And.intro @fofs_99_4 @grt_53_53) (And.intro @isz_53 (And.intro @undT_53 @undT_73))))):=And.intro (And.intro (And.intro (And.intro @agg_3 @agg_53) (And.intro @agg_73 @agg_82)) (And.intro (And.intro @csz_3 @csz_53) (And.intro @csz_73 (And.intro @csz_82 @eapp_53_53)))) (And.intro (And.intro (And.intro @ebs_53_1 @fofs_82_2) (And.intro @fofs_99_1 (And.intro @fofs_99_2 @fofs_99_3))) (And.intro (And.intro @fofs_99_4 @grt_53_53) (And.intro @isz_53 (And.intro @undT_53 @undT_73))))
theorem ff_47:type_of% (And.intro (And.intro (And.intro (And.intro (And.intro @agg_3 @agg_23) (And.intro @agg_25 @agg_26)) (And.intro (And.intro @agg_45 @agg_73) (And.intro @agg_82 @csz_3))) (And.intro (And.intro (And.intro @csz_23 @csz_25) (And.intro @csz_26 @csz_45)) (And.intro (And.intro @csz_73 @csz_82) (And.intro @eapp_73_73 @ebd_75)))) (And.intro (And.intro (And.intro (And.intro @ebd_82 @ebs_73_1) (And.intro @esz_23 @esz_26)) (And.intro (And.intro @fofs_25_2 @fofs_63_1) (And.intro @fofs_72_0 @fofs_75_0))) (And.intro (And.intro (And.intro @fofs_75_1 @fofs_82_0) (And.intro @fofs_82_1 @fofs_82_2)) (And.intro (And.intro @fofs_99_0 @grt_73_73) (And.intro @und_3 (And.intro @undT_26 @undT_73)))))):=And.intro (And.intro (And.intro (And.intro (And.intro @agg_3 @agg_23) (And.intro @agg_25 @agg_26)) (And.intro (And.intro @agg_45 @agg_73) (And.intro @agg_82 @csz_3))) (And.intro (And.intro (And.intro @csz_23 @csz_25) (And.intro @csz_26 @csz_45)) (And.intro (And.intro @csz_73 @csz_82) (And.intro @eapp_73_73 @ebd_75)))) (And.intro (And.intro (And.intro (And.intro @ebd_82 @ebs_73_1) (And.intro @esz_23 @esz_26)) (And.intro (And.intro @fofs_25_2 @fofs_63_1) (And.intro @fofs_72_0 @fofs_75_0))) (And.intro (And.intro (And.intro @fofs_75_1 @fofs_82_0) (And.intro @fofs_82_1 @fofs_82_2)) (And.intro (And.intro @fofs_99_0 @grt_73_73) (And.intro @und_3 (And.intro @undT_26 @undT_73)))))
theorem ff_48:type_of% (And.intro (And.intro @agg_82 (And.intro @csz_82 @esz_53)) (And.intro (And.intro @isz_82 @und_3) (And.intro @undT_53 @zeroT_82))):=And.intro (And.intro @agg_82 (And.intro @csz_82 @esz_53)) (And.intro (And.intro @isz_82 @und_3) (And.intro @undT_53 @zeroT_82))
theorem ff_49:type_of% (And.intro (And.intro @agg_45 @agg_82) (And.intro @csz_45 (And.intro @csz_82 @und_3))):=And.intro (And.intro @agg_45 @agg_82) (And.intro @csz_45 (And.intro @csz_82 @und_3))
theorem ff_50:type_of% (And.intro (And.intro (And.intro (And.intro @agg_3 @agg_23) (And.intro @agg_26 @csz_3)) (And.intro (And.intro @csz_23 @csz_26) (And.intro @esz_23 @esz_26))) (And.intro (And.intro (And.intro @fofs_25_2 @fofs_63_1) (And.intro @fofs_72_0 @fofs_75_0)) (And.intro (And.intro @fofs_75_1 @fofs_82_1) (And.intro @und_3 @undT_26)))):=And.intro (And.intro (And.intro (And.intro @agg_3 @agg_23) (And.intro @agg_26 @csz_3)) (And.intro (And.intro @csz_23 @csz_26) (And.intro @esz_23 @esz_26))) (And.intro (And.intro (And.intro @fofs_25_2 @fofs_63_1) (And.intro @fofs_72_0 @fofs_75_0)) (And.intro (And.intro @fofs_75_1 @fofs_82_1) (And.intro @und_3 @undT_26)))
theorem ff_52:type_of% (And.intro @und_3 (And.intro @und_119 @undT_26)):=And.intro @und_3 (And.intro @und_119 @undT_26)
theorem ff_53:type_of% (And.intro (And.intro (And.intro (And.intro @agg_3 (And.intro @agg_73 @agg_75)) (And.intro (And.intro @agg_82 @csz_3) (And.intro @csz_73 @csz_75))) (And.intro (And.intro @csz_82 (And.intro @eapp_73_73 @eapp_85_85)) (And.intro (And.intro @ebs_73_1 @ebs_85_1) (And.intro @esz_53 @esz_73)))) (And.intro (And.intro (And.intro @fofs_75_0 (And.intro @fofs_75_1 @fofs_82_0)) (And.intro (And.intro @fofs_82_1 @fofs_82_2) (And.intro @grt_73_73 @grt_85_85))) (And.intro (And.intro (And.intro @isz_75 @isz_82) (And.intro @und_9 @und_85)) (And.intro (And.intro @undT_53 @undT_73) (And.intro @zeroT_75 @zeroT_82))))):=And.intro (And.intro (And.intro (And.intro @agg_3 (And.intro @agg_73 @agg_75)) (And.intro (And.intro @agg_82 @csz_3) (And.intro @csz_73 @csz_75))) (And.intro (And.intro @csz_82 (And.intro @eapp_73_73 @eapp_85_85)) (And.intro (And.intro @ebs_73_1 @ebs_85_1) (And.intro @esz_53 @esz_73)))) (And.intro (And.intro (And.intro @fofs_75_0 (And.intro @fofs_75_1 @fofs_82_0)) (And.intro (And.intro @fofs_82_1 @fofs_82_2) (And.intro @grt_73_73 @grt_85_85))) (And.intro (And.intro (And.intro @isz_75 @isz_82) (And.intro @und_9 @und_85)) (And.intro (And.intro @undT_53 @undT_73) (And.intro @zeroT_75 @zeroT_82))))
theorem ff_54:type_of% (And.intro @und_3 @und_119):=And.intro @und_3 @und_119
theorem ff_55:type_of% (And.intro (And.intro @agg_3 (And.intro @agg_23 @csz_3)) (And.intro (And.intro @csz_23 @esz_23) (And.intro @fofs_25_2 @fofs_63_0))):=And.intro (And.intro @agg_3 (And.intro @agg_23 @csz_3)) (And.intro (And.intro @csz_23 @esz_23) (And.intro @fofs_25_2 @fofs_63_0))
theorem ff_56:type_of% (And.intro (And.intro @eapp_73_73 @ebs_73_0) (And.intro @grt_73_73 @und_73)):=And.intro (And.intro @eapp_73_73 @ebs_73_0) (And.intro @grt_73_73 @und_73)
theorem ff_57:type_of% (And.intro (And.intro @agg_84 (And.intro @csz_84 @fofs_87_0)) (And.intro @isz_84 (And.intro @und_84 @und_121))):=And.intro (And.intro @agg_84 (And.intro @csz_84 @fofs_87_0)) (And.intro @isz_84 (And.intro @und_84 @und_121))
theorem ff_61:type_of% (@und_125):=@und_125
theorem ff_63:type_of% (And.intro (And.intro @agg_82 (And.intro @csz_82 @esz_53)) (And.intro @und_3 (And.intro @und_119 @undT_53))):=And.intro (And.intro @agg_82 (And.intro @csz_82 @esz_53)) (And.intro @und_3 (And.intro @und_119 @undT_53))
theorem ff_64:type_of% (And.intro (And.intro (And.intro @agg_3 @agg_73) (And.intro @agg_75 (And.intro @csz_3 @csz_73))) (And.intro (And.intro @csz_75 @ebs_26_3) (And.intro @fofs_82_0 (And.intro @fofs_82_1 @fofs_82_2)))):=And.intro (And.intro (And.intro @agg_3 @agg_73) (And.intro @agg_75 (And.intro @csz_3 @csz_73))) (And.intro (And.intro @csz_75 @ebs_26_3) (And.intro @fofs_82_0 (And.intro @fofs_82_1 @fofs_82_2)))
theorem ff_65:type_of% (And.intro (And.intro @eapp_53_53 (And.intro @esz_53 @grt_53_3)) (And.intro @grt_53_53 (And.intro @und_3 @undT_53))):=And.intro (And.intro @eapp_53_53 (And.intro @esz_53 @grt_53_3)) (And.intro @grt_53_53 (And.intro @und_3 @undT_53))
theorem ff_66:type_of% (And.intro (And.intro (And.intro (And.intro @agg_3 (And.intro @agg_23 @agg_45)) (And.intro (And.intro @agg_70 @agg_73) (And.intro @agg_75 @csz_3))) (And.intro (And.intro (And.intro @csz_23 @csz_45) (And.intro @csz_70 @csz_73)) (And.intro (And.intro @csz_75 @ebd_75) (And.intro @ebd_82 @esz_23)))) (And.intro (And.intro (And.intro @esz_70 (And.intro @esz_73 @fofs_25_2)) (And.intro (And.intro @fofs_63_0 @fofs_72_0) (And.intro @fofs_72_1 @fofs_75_0))) (And.intro (And.intro (And.intro @fofs_82_0 @fofs_82_1) (And.intro @fofs_82_2 @fofs_99_0)) (And.intro (And.intro @isz_75 @und_3) (And.intro @undT_73 @zeroT_75))))):=And.intro (And.intro (And.intro (And.intro @agg_3 (And.intro @agg_23 @agg_45)) (And.intro (And.intro @agg_70 @agg_73) (And.intro @agg_75 @csz_3))) (And.intro (And.intro (And.intro @csz_23 @csz_45) (And.intro @csz_70 @csz_73)) (And.intro (And.intro @csz_75 @ebd_75) (And.intro @ebd_82 @esz_23)))) (And.intro (And.intro (And.intro @esz_70 (And.intro @esz_73 @fofs_25_2)) (And.intro (And.intro @fofs_63_0 @fofs_72_0) (And.intro @fofs_72_1 @fofs_75_0))) (And.intro (And.intro (And.intro @fofs_82_0 @fofs_82_1) (And.intro @fofs_82_2 @fofs_99_0)) (And.intro (And.intro @isz_75 @und_3) (And.intro @undT_73 @zeroT_75))))
theorem ff_67:type_of% (And.intro (And.intro @agg_82 @csz_82) (And.intro @esz_53 @undT_53)):=And.intro (And.intro @agg_82 @csz_82) (And.intro @esz_53 @undT_53)
theorem ff_68:type_of% (And.intro (And.intro @agg_3 @csz_3) (And.intro @esz_26 (And.intro @und_3 @undT_26))):=And.intro (And.intro @agg_3 @csz_3) (And.intro @esz_26 (And.intro @und_3 @undT_26))
theorem ff_69:type_of% (And.intro (And.intro @agg_3 @csz_3) (And.intro @esz_26 (And.intro @und_3 @und_136))):=And.intro (And.intro @agg_3 @csz_3) (And.intro @esz_26 (And.intro @und_3 @und_136))
theorem ff_70:type_of% (And.intro @und_119 @und_144):=And.intro @und_119 @und_144
theorem ff_73:type_of% (And.intro (And.intro (And.intro @ear_146 @isz_5) (And.intro @und_2 @und_3)) (And.intro (And.intro @und_9 @und_85) (And.intro @und_125 @zeroT_146))):=And.intro (And.intro (And.intro @ear_146 @isz_5) (And.intro @und_2 @und_3)) (And.intro (And.intro @und_9 @und_85) (And.intro @und_125 @zeroT_146))
theorem ff_77:type_of% (@und_4):=@und_4
theorem ff_78:type_of% (And.intro (And.intro @agg_3 @csz_3) (And.intro @esz_26 (And.intro @und_3 @undT_26))):=And.intro (And.intro @agg_3 @csz_3) (And.intro @esz_26 (And.intro @und_3 @undT_26))
theorem ff_80:type_of% (And.intro (And.intro @agg_3 @csz_3) (And.intro @ebs_26_2 (And.intro @fofs_75_0 @fofs_75_1))):=And.intro (And.intro @agg_3 @csz_3) (And.intro @ebs_26_2 (And.intro @fofs_75_0 @fofs_75_1))
theorem ff_81:type_of% (And.intro (And.intro @agg_75 (And.intro @csz_75 @esz_73)) (And.intro (And.intro @isz_75 @und_3) (And.intro @undT_73 @zeroT_75))):=And.intro (And.intro @agg_75 (And.intro @csz_75 @esz_73)) (And.intro (And.intro @isz_75 @und_3) (And.intro @undT_73 @zeroT_75))
theorem ff_84:type_of% (And.intro (And.intro @agg_3 @csz_3) (And.intro @esz_26 @isz_3)):=And.intro (And.intro @agg_3 @csz_3) (And.intro @esz_26 @isz_3)
theorem ff_87:type_of% (And.intro (And.intro @agg_3 @csz_3) (And.intro @und_3 @zeroT_3)):=And.intro (And.intro @agg_3 @csz_3) (And.intro @und_3 @zeroT_3)
theorem ff_89:type_of% (And.intro (And.intro @agg_3 @csz_3) (And.intro @esz_26 (And.intro @isz_3 @und_3))):=And.intro (And.intro @agg_3 @csz_3) (And.intro @esz_26 (And.intro @isz_3 @und_3))
theorem ff_94:type_of% (And.intro (And.intro @und_3 @und_5) (And.intro @und_9 @und_125)):=And.intro (And.intro @und_3 @und_5) (And.intro @und_9 @und_125)
theorem ff_95:type_of% (And.intro (And.intro @eapp_85_85 @ebs_85_1) (And.intro @grt_85_85 (And.intro @und_2 @und_125))):=And.intro (And.intro @eapp_85_85 @ebs_85_1) (And.intro @grt_85_85 (And.intro @und_2 @und_125))
theorem ff_100:type_of% (@und_125):=@und_125
theorem ff_101:type_of% (@und_3):=@und_3
theorem ff_108:type_of% (And.intro (And.intro (And.intro @eapp_85_9 @eapp_85_85) (And.intro @ear_146 @grt_85_9)) (And.intro (And.intro @grt_85_85 @und_3) (And.intro @und_125 @zeroT_146))):=And.intro (And.intro (And.intro @eapp_85_9 @eapp_85_85) (And.intro @ear_146 @grt_85_9)) (And.intro (And.intro @grt_85_85 @und_3) (And.intro @und_125 @zeroT_146))
theorem ff_114:type_of% (And.intro (And.intro @agg_3 @csz_3) (And.intro @esz_26 @isz_3)):=And.intro (And.intro @agg_3 @csz_3) (And.intro @esz_26 @isz_3)
end Go.Proofs.YtjlgpanihjnaeaaGreatDoor

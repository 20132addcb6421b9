/- Facts about the seat's types. -/
import Derived.Test.YtjbfdbbmgbekiaaGreatDoorProg
import Derived.Test.YtjbfdbbmgbekiaaGreatDoorPvZa
set_option linter.unusedSimpArgs false
set_option linter.unusedVariables false
set_option linter.unusedSectionVars false
namespace Go.Pw
open Go.Proofs
set_option maxRecDepth 4000
theorem z_has0 : hasT Tryz.prog 0 = true := by kernel_rfl
theorem z_agg0 : aggT Tryz.prog 0 = false := by kernel_rfl
theorem z_cel0 : Program.cellsOf Tryz.prog 0 = 1 := by kernel_rfl
theorem z_byt0 : Program.bytesOf Tryz.prog 0 = 0 := by kernel_rfl
theorem z_fun1 : funT Tryz.prog 1 = true := by kernel_rfl
theorem z_has1 : hasT Tryz.prog 1 = true := by kernel_rfl
theorem z_agg1 : aggT Tryz.prog 1 = false := by kernel_rfl
theorem z_cel1 : Program.cellsOf Tryz.prog 1 = 1 := by kernel_rfl
theorem z_byt1 : Program.bytesOf Tryz.prog 1 = 8 := by kernel_rfl
theorem z_zer1 : zeroA Tryz.prog 1 = some [.pv (.raw (.nilFunc))] := by kernel_rfl
theorem z_has2 : hasT Tryz.prog 2 = true := by kernel_rfl
theorem z_agg2 : aggT Tryz.prog 2 = false := by kernel_rfl
theorem z_int2 : intT Tryz.prog 2 = some .i64 := by kernel_rfl
theorem z_cel2 : Program.cellsOf Tryz.prog 2 = 1 := by kernel_rfl
theorem z_byt2 : Program.bytesOf Tryz.prog 2 = 8 := by kernel_rfl
theorem z_zer2 : zeroA Tryz.prog 2 = some [.pv (.int .i64 0)] := by kernel_rfl
theorem z_has3 : hasT Tryz.prog 3 = true := by kernel_rfl
theorem z_agg3 : aggT Tryz.prog 3 = false := by kernel_rfl
theorem z_int3 : intT Tryz.prog 3 = some .i64 := by kernel_rfl
theorem z_cel3 : Program.cellsOf Tryz.prog 3 = 1 := by kernel_rfl
theorem z_byt3 : Program.bytesOf Tryz.prog 3 = 8 := by kernel_rfl
theorem z_zer3 : zeroA Tryz.prog 3 = some [.pv (.int .i64 0)] := by kernel_rfl
theorem z_boo4 : boolT Tryz.prog 4 = true := by kernel_rfl
theorem z_has4 : hasT Tryz.prog 4 = true := by kernel_rfl
theorem z_agg4 : aggT Tryz.prog 4 = false := by kernel_rfl
theorem z_cel4 : Program.cellsOf Tryz.prog 4 = 1 := by kernel_rfl
theorem z_byt4 : Program.bytesOf Tryz.prog 4 = 1 := by kernel_rfl
theorem z_zer4 : zeroA Tryz.prog 4 = some [.pv (.bool false)] := by kernel_rfl
theorem z_has5 : hasT Tryz.prog 5 = true := by kernel_rfl
theorem z_agg5 : aggT Tryz.prog 5 = false := by kernel_rfl
theorem z_int5 : intT Tryz.prog 5 = some .u8 := by kernel_rfl
theorem z_cel5 : Program.cellsOf Tryz.prog 5 = 1 := by kernel_rfl
theorem z_byt5 : Program.bytesOf Tryz.prog 5 = 1 := by kernel_rfl
theorem z_zer5 : zeroA Tryz.prog 5 = some [.pv (.int .u8 0)] := by kernel_rfl
theorem z_has6 : hasT Tryz.prog 6 = true := by kernel_rfl
theorem z_agg6 : aggT Tryz.prog 6 = false := by kernel_rfl
theorem z_int6 : intT Tryz.prog 6 = some .u8 := by kernel_rfl
theorem z_cel6 : Program.cellsOf Tryz.prog 6 = 1 := by kernel_rfl
theorem z_byt6 : Program.bytesOf Tryz.prog 6 = 1 := by kernel_rfl
theorem z_zer6 : zeroA Tryz.prog 6 = some [.pv (.int .u8 0)] := by kernel_rfl
theorem z_stt7 : stT Tryz.prog 7 = true := by kernel_rfl
theorem z_has7 : hasT Tryz.prog 7 = true := by kernel_rfl
theorem z_agg7 : aggT Tryz.prog 7 = true := by kernel_rfl
theorem z_cel7 : Program.cellsOf Tryz.prog 7 = 4 := by kernel_rfl
theorem z_byt7 : Program.bytesOf Tryz.prog 7 = 24 := by kernel_rfl
theorem z_off7_0 : offT Tryz.prog 7 0 = some 0 := by kernel_rfl
theorem z_fld7_0 : fldT Tryz.prog 7 0 = some 2 := by kernel_rfl
theorem z_off7_1 : offT Tryz.prog 7 1 = some 1 := by kernel_rfl
theorem z_fld7_1 : fldT Tryz.prog 7 1 = some 3 := by kernel_rfl
theorem z_off7_2 : offT Tryz.prog 7 2 = some 2 := by kernel_rfl
theorem z_fld7_2 : fldT Tryz.prog 7 2 = some 4 := by kernel_rfl
theorem z_off7_3 : offT Tryz.prog 7 3 = some 3 := by kernel_rfl
theorem z_fld7_3 : fldT Tryz.prog 7 3 = some 6 := by kernel_rfl
theorem z_zer7 : zeroA Tryz.prog 7 = some [.pv (.int .i64 0), .pv (.int .i64 0), .pv (.bool false), .pv (.int .u8 0)] := by kernel_rfl
theorem z_eqT7 : eqT Tryz.prog 7 = some [(0, 2), (1, 3), (2, 4), (3, 6)] := by kernel_rfl
theorem z_stt8 : stT Tryz.prog 8 = true := by kernel_rfl
theorem z_has8 : hasT Tryz.prog 8 = true := by kernel_rfl
theorem z_agg8 : aggT Tryz.prog 8 = true := by kernel_rfl
theorem z_cel8 : Program.cellsOf Tryz.prog 8 = 4 := by kernel_rfl
theorem z_byt8 : Program.bytesOf Tryz.prog 8 = 24 := by kernel_rfl
theorem z_off8_0 : offT Tryz.prog 8 0 = some 0 := by kernel_rfl
theorem z_fld8_0 : fldT Tryz.prog 8 0 = some 2 := by kernel_rfl
theorem z_off8_1 : offT Tryz.prog 8 1 = some 1 := by kernel_rfl
theorem z_fld8_1 : fldT Tryz.prog 8 1 = some 3 := by kernel_rfl
theorem z_off8_2 : offT Tryz.prog 8 2 = some 2 := by kernel_rfl
theorem z_fld8_2 : fldT Tryz.prog 8 2 = some 4 := by kernel_rfl
theorem z_off8_3 : offT Tryz.prog 8 3 = some 3 := by kernel_rfl
theorem z_fld8_3 : fldT Tryz.prog 8 3 = some 6 := by kernel_rfl
theorem z_zer8 : zeroA Tryz.prog 8 = some [.pv (.int .i64 0), .pv (.int .i64 0), .pv (.bool false), .pv (.int .u8 0)] := by kernel_rfl
theorem z_eqT8 : eqT Tryz.prog 8 = some [(0, 2), (1, 3), (2, 4), (3, 6)] := by kernel_rfl
theorem z_str9 : strT Tryz.prog 9 = true := by kernel_rfl
theorem z_has9 : hasT Tryz.prog 9 = true := by kernel_rfl
theorem z_agg9 : aggT Tryz.prog 9 = false := by kernel_rfl
theorem z_cel9 : Program.cellsOf Tryz.prog 9 = 1 := by kernel_rfl
theorem z_byt9 : Program.bytesOf Tryz.prog 9 = 16 := by kernel_rfl
theorem z_zer9 : zeroA Tryz.prog 9 = some [.pv (.str [])] := by kernel_rfl
theorem z_str10 : strT Tryz.prog 10 = true := by kernel_rfl
theorem z_has10 : hasT Tryz.prog 10 = true := by kernel_rfl
theorem z_agg10 : aggT Tryz.prog 10 = false := by kernel_rfl
theorem z_cel10 : Program.cellsOf Tryz.prog 10 = 1 := by kernel_rfl
theorem z_byt10 : Program.bytesOf Tryz.prog 10 = 16 := by kernel_rfl
theorem z_zer10 : zeroA Tryz.prog 10 = some [.pv (.str [])] := by kernel_rfl
theorem z_str11 : strT Tryz.prog 11 = true := by kernel_rfl
theorem z_has11 : hasT Tryz.prog 11 = true := by kernel_rfl
theorem z_agg11 : aggT Tryz.prog 11 = false := by kernel_rfl
theorem z_cel11 : Program.cellsOf Tryz.prog 11 = 1 := by kernel_rfl
theorem z_byt11 : Program.bytesOf Tryz.prog 11 = 16 := by kernel_rfl
theorem z_zer11 : zeroA Tryz.prog 11 = some [.pv (.str [])] := by kernel_rfl
theorem z_has12 : hasT Tryz.prog 12 = true := by kernel_rfl
theorem z_agg12 : aggT Tryz.prog 12 = false := by kernel_rfl
theorem z_int12 : intT Tryz.prog 12 = some .u64 := by kernel_rfl
theorem z_cel12 : Program.cellsOf Tryz.prog 12 = 1 := by kernel_rfl
theorem z_byt12 : Program.bytesOf Tryz.prog 12 = 8 := by kernel_rfl
theorem z_zer12 : zeroA Tryz.prog 12 = some [.pv (.int .u64 0)] := by kernel_rfl
theorem z_stt13 : stT Tryz.prog 13 = true := by kernel_rfl
theorem z_has13 : hasT Tryz.prog 13 = true := by kernel_rfl
theorem z_agg13 : aggT Tryz.prog 13 = true := by kernel_rfl
theorem z_cel13 : Program.cellsOf Tryz.prog 13 = 2 := by kernel_rfl
theorem z_byt13 : Program.bytesOf Tryz.prog 13 = 24 := by kernel_rfl
theorem z_off13_0 : offT Tryz.prog 13 0 = some 0 := by kernel_rfl
theorem z_fld13_0 : fldT Tryz.prog 13 0 = some 9 := by kernel_rfl
theorem z_off13_1 : offT Tryz.prog 13 1 = some 1 := by kernel_rfl
theorem z_fld13_1 : fldT Tryz.prog 13 1 = some 12 := by kernel_rfl
theorem z_zer13 : zeroA Tryz.prog 13 = some [.pv (.str []), .pv (.int .u64 0)] := by kernel_rfl
theorem z_stt14 : stT Tryz.prog 14 = true := by kernel_rfl
theorem z_has14 : hasT Tryz.prog 14 = true := by kernel_rfl
theorem z_agg14 : aggT Tryz.prog 14 = true := by kernel_rfl
theorem z_cel14 : Program.cellsOf Tryz.prog 14 = 2 := by kernel_rfl
theorem z_byt14 : Program.bytesOf Tryz.prog 14 = 24 := by kernel_rfl
theorem z_off14_0 : offT Tryz.prog 14 0 = some 0 := by kernel_rfl
theorem z_fld14_0 : fldT Tryz.prog 14 0 = some 9 := by kernel_rfl
theorem z_off14_1 : offT Tryz.prog 14 1 = some 1 := by kernel_rfl
theorem z_fld14_1 : fldT Tryz.prog 14 1 = some 12 := by kernel_rfl
theorem z_zer14 : zeroA Tryz.prog 14 = some [.pv (.str []), .pv (.int .u64 0)] := by kernel_rfl
theorem z_ptr15 : ptrT Tryz.prog 15 = true := by kernel_rfl
theorem z_has15 : hasT Tryz.prog 15 = true := by kernel_rfl
theorem z_agg15 : aggT Tryz.prog 15 = false := by kernel_rfl
theorem z_cel15 : Program.cellsOf Tryz.prog 15 = 1 := by kernel_rfl
theorem z_byt15 : Program.bytesOf Tryz.prog 15 = 8 := by kernel_rfl
theorem z_zer15 : zeroA Tryz.prog 15 = some [.pv (.raw (.pointer none))] := by kernel_rfl
theorem z_ptr16 : ptrT Tryz.prog 16 = true := by kernel_rfl
theorem z_has16 : hasT Tryz.prog 16 = true := by kernel_rfl
theorem z_agg16 : aggT Tryz.prog 16 = false := by kernel_rfl
theorem z_cel16 : Program.cellsOf Tryz.prog 16 = 1 := by kernel_rfl
theorem z_byt16 : Program.bytesOf Tryz.prog 16 = 8 := by kernel_rfl
theorem z_zer16 : zeroA Tryz.prog 16 = some [.pv (.raw (.pointer none))] := by kernel_rfl
theorem z_ptr17 : ptrT Tryz.prog 17 = true := by kernel_rfl
theorem z_has17 : hasT Tryz.prog 17 = true := by kernel_rfl
theorem z_agg17 : aggT Tryz.prog 17 = false := by kernel_rfl
theorem z_cel17 : Program.cellsOf Tryz.prog 17 = 1 := by kernel_rfl
theorem z_byt17 : Program.bytesOf Tryz.prog 17 = 8 := by kernel_rfl
theorem z_zer17 : zeroA Tryz.prog 17 = some [.pv (.raw (.pointer none))] := by kernel_rfl
theorem z_stt18 : stT Tryz.prog 18 = true := by kernel_rfl
theorem z_has18 : hasT Tryz.prog 18 = true := by kernel_rfl
theorem z_agg18 : aggT Tryz.prog 18 = true := by kernel_rfl
theorem z_cel18 : Program.cellsOf Tryz.prog 18 = 1 := by kernel_rfl
theorem z_byt18 : Program.bytesOf Tryz.prog 18 = 8 := by kernel_rfl
theorem z_off18_0 : offT Tryz.prog 18 0 = some 0 := by kernel_rfl
theorem z_fld18_0 : fldT Tryz.prog 18 0 = some 17 := by kernel_rfl
theorem z_zer18 : zeroA Tryz.prog 18 = some [.pv (.raw (.pointer none))] := by kernel_rfl
theorem z_stt19 : stT Tryz.prog 19 = true := by kernel_rfl
theorem z_has19 : hasT Tryz.prog 19 = true := by kernel_rfl
theorem z_agg19 : aggT Tryz.prog 19 = true := by kernel_rfl
theorem z_cel19 : Program.cellsOf Tryz.prog 19 = 1 := by kernel_rfl
theorem z_byt19 : Program.bytesOf Tryz.prog 19 = 8 := by kernel_rfl
theorem z_off19_0 : offT Tryz.prog 19 0 = some 0 := by kernel_rfl
theorem z_fld19_0 : fldT Tryz.prog 19 0 = some 17 := by kernel_rfl
theorem z_zer19 : zeroA Tryz.prog 19 = some [.pv (.raw (.pointer none))] := by kernel_rfl
theorem z_has20 : hasT Tryz.prog 20 = true := by kernel_rfl
theorem z_agg20 : aggT Tryz.prog 20 = false := by kernel_rfl
theorem z_cel20 : Program.cellsOf Tryz.prog 20 = 1 := by kernel_rfl
theorem z_byt20 : Program.bytesOf Tryz.prog 20 = 16 := by kernel_rfl
theorem z_zer20 : zeroA Tryz.prog 20 = some [.pv (.raw (.nilIface))] := by kernel_rfl
theorem z_has21 : hasT Tryz.prog 21 = true := by kernel_rfl
theorem z_agg21 : aggT Tryz.prog 21 = false := by kernel_rfl
theorem z_int21 : intT Tryz.prog 21 = some .i32 := by kernel_rfl
theorem z_cel21 : Program.cellsOf Tryz.prog 21 = 1 := by kernel_rfl
theorem z_byt21 : Program.bytesOf Tryz.prog 21 = 4 := by kernel_rfl
theorem z_zer21 : zeroA Tryz.prog 21 = some [.pv (.int .i32 0)] := by kernel_rfl
theorem z_has22 : hasT Tryz.prog 22 = true := by kernel_rfl
theorem z_nst22 : strT Tryz.prog 22 = false := by kernel_rfl
theorem z_agg22 : aggT Tryz.prog 22 = false := by kernel_rfl
theorem z_elm22 : elemT Tryz.prog 22 = some 41 := by kernel_rfl
theorem z_cel22 : Program.cellsOf Tryz.prog 22 = 1 := by kernel_rfl
theorem z_byt22 : Program.bytesOf Tryz.prog 22 = 24 := by kernel_rfl
theorem z_zer22 : zeroA Tryz.prog 22 = some [.emp] := by kernel_rfl
theorem z_stt23 : stT Tryz.prog 23 = true := by kernel_rfl
theorem z_has23 : hasT Tryz.prog 23 = true := by kernel_rfl
theorem z_agg23 : aggT Tryz.prog 23 = true := by kernel_rfl
theorem z_cel23 : Program.cellsOf Tryz.prog 23 = 1 := by kernel_rfl
theorem z_byt23 : Program.bytesOf Tryz.prog 23 = 24 := by kernel_rfl
theorem z_off23_0 : offT Tryz.prog 23 0 = some 0 := by kernel_rfl
theorem z_fld23_0 : fldT Tryz.prog 23 0 = some 22 := by kernel_rfl
theorem z_zer23 : zeroA Tryz.prog 23 = some [.emp] := by kernel_rfl
theorem z_eqT23 : eqT Tryz.prog 23 = some [(0, 22)] := by kernel_rfl
theorem z_stt24 : stT Tryz.prog 24 = true := by kernel_rfl
theorem z_has24 : hasT Tryz.prog 24 = true := by kernel_rfl
theorem z_agg24 : aggT Tryz.prog 24 = true := by kernel_rfl
theorem z_cel24 : Program.cellsOf Tryz.prog 24 = 1 := by kernel_rfl
theorem z_byt24 : Program.bytesOf Tryz.prog 24 = 24 := by kernel_rfl
theorem z_off24_0 : offT Tryz.prog 24 0 = some 0 := by kernel_rfl
theorem z_fld24_0 : fldT Tryz.prog 24 0 = some 22 := by kernel_rfl
theorem z_zer24 : zeroA Tryz.prog 24 = some [.emp] := by kernel_rfl
theorem z_eqT24 : eqT Tryz.prog 24 = some [(0, 22)] := by kernel_rfl
theorem z_has25 : hasT Tryz.prog 25 = true := by kernel_rfl
theorem z_agg25 : aggT Tryz.prog 25 = false := by kernel_rfl
theorem z_int25 : intT Tryz.prog 25 = some .i64 := by kernel_rfl
theorem z_cel25 : Program.cellsOf Tryz.prog 25 = 1 := by kernel_rfl
theorem z_byt25 : Program.bytesOf Tryz.prog 25 = 8 := by kernel_rfl
theorem z_zer25 : zeroA Tryz.prog 25 = some [.pv (.int .i64 0)] := by kernel_rfl
theorem z_has26 : hasT Tryz.prog 26 = true := by kernel_rfl
theorem z_agg26 : aggT Tryz.prog 26 = false := by kernel_rfl
theorem z_cel26 : Program.cellsOf Tryz.prog 26 = 1 := by kernel_rfl
theorem z_byt26 : Program.bytesOf Tryz.prog 26 = 0 := by kernel_rfl
theorem z_fun27 : funT Tryz.prog 27 = true := by kernel_rfl
theorem z_has27 : hasT Tryz.prog 27 = true := by kernel_rfl
theorem z_agg27 : aggT Tryz.prog 27 = false := by kernel_rfl
theorem z_cel27 : Program.cellsOf Tryz.prog 27 = 1 := by kernel_rfl
theorem z_byt27 : Program.bytesOf Tryz.prog 27 = 8 := by kernel_rfl
theorem z_zer27 : zeroA Tryz.prog 27 = some [.pv (.raw (.nilFunc))] := by kernel_rfl
theorem z_has28 : hasT Tryz.prog 28 = true := by kernel_rfl
theorem z_nst28 : strT Tryz.prog 28 = false := by kernel_rfl
theorem z_agg28 : aggT Tryz.prog 28 = false := by kernel_rfl
theorem z_elm28 : elemT Tryz.prog 28 = some 52 := by kernel_rfl
theorem z_cel28 : Program.cellsOf Tryz.prog 28 = 1 := by kernel_rfl
theorem z_byt28 : Program.bytesOf Tryz.prog 28 = 24 := by kernel_rfl
theorem z_zer28 : zeroA Tryz.prog 28 = some [.emp] := by kernel_rfl
theorem z_has29 : hasT Tryz.prog 29 = true := by kernel_rfl
theorem z_agg29 : aggT Tryz.prog 29 = false := by kernel_rfl
theorem z_cel29 : Program.cellsOf Tryz.prog 29 = 1 := by kernel_rfl
theorem z_byt29 : Program.bytesOf Tryz.prog 29 = 0 := by kernel_rfl
theorem z_fun30 : funT Tryz.prog 30 = true := by kernel_rfl
theorem z_has30 : hasT Tryz.prog 30 = true := by kernel_rfl
theorem z_agg30 : aggT Tryz.prog 30 = false := by kernel_rfl
theorem z_cel30 : Program.cellsOf Tryz.prog 30 = 1 := by kernel_rfl
theorem z_byt30 : Program.bytesOf Tryz.prog 30 = 8 := by kernel_rfl
theorem z_zer30 : zeroA Tryz.prog 30 = some [.pv (.raw (.nilFunc))] := by kernel_rfl
theorem z_fun31 : funT Tryz.prog 31 = true := by kernel_rfl
theorem z_has31 : hasT Tryz.prog 31 = true := by kernel_rfl
theorem z_agg31 : aggT Tryz.prog 31 = false := by kernel_rfl
theorem z_cel31 : Program.cellsOf Tryz.prog 31 = 1 := by kernel_rfl
theorem z_byt31 : Program.bytesOf Tryz.prog 31 = 8 := by kernel_rfl
theorem z_zer31 : zeroA Tryz.prog 31 = some [.pv (.raw (.nilFunc))] := by kernel_rfl
theorem z_fun32 : funT Tryz.prog 32 = true := by kernel_rfl
theorem z_has32 : hasT Tryz.prog 32 = true := by kernel_rfl
theorem z_agg32 : aggT Tryz.prog 32 = false := by kernel_rfl
theorem z_cel32 : Program.cellsOf Tryz.prog 32 = 1 := by kernel_rfl
theorem z_byt32 : Program.bytesOf Tryz.prog 32 = 8 := by kernel_rfl
theorem z_zer32 : zeroA Tryz.prog 32 = some [.pv (.raw (.nilFunc))] := by kernel_rfl
theorem z_fun33 : funT Tryz.prog 33 = true := by kernel_rfl
theorem z_has33 : hasT Tryz.prog 33 = true := by kernel_rfl
theorem z_agg33 : aggT Tryz.prog 33 = false := by kernel_rfl
theorem z_cel33 : Program.cellsOf Tryz.prog 33 = 1 := by kernel_rfl
theorem z_byt33 : Program.bytesOf Tryz.prog 33 = 8 := by kernel_rfl
theorem z_zer33 : zeroA Tryz.prog 33 = some [.pv (.raw (.nilFunc))] := by kernel_rfl
theorem z_fun34 : funT Tryz.prog 34 = true := by kernel_rfl
theorem z_has34 : hasT Tryz.prog 34 = true := by kernel_rfl
theorem z_agg34 : aggT Tryz.prog 34 = false := by kernel_rfl
theorem z_cel34 : Program.cellsOf Tryz.prog 34 = 1 := by kernel_rfl
theorem z_byt34 : Program.bytesOf Tryz.prog 34 = 8 := by kernel_rfl
theorem z_zer34 : zeroA Tryz.prog 34 = some [.pv (.raw (.nilFunc))] := by kernel_rfl
theorem z_has35 : hasT Tryz.prog 35 = true := by kernel_rfl
theorem z_agg35 : aggT Tryz.prog 35 = false := by kernel_rfl
theorem z_cel35 : Program.cellsOf Tryz.prog 35 = 1 := by kernel_rfl
theorem z_byt35 : Program.bytesOf Tryz.prog 35 = 0 := by kernel_rfl
theorem z_fun36 : funT Tryz.prog 36 = true := by kernel_rfl
theorem z_has36 : hasT Tryz.prog 36 = true := by kernel_rfl
theorem z_agg36 : aggT Tryz.prog 36 = false := by kernel_rfl
theorem z_cel36 : Program.cellsOf Tryz.prog 36 = 1 := by kernel_rfl
theorem z_byt36 : Program.bytesOf Tryz.prog 36 = 8 := by kernel_rfl
theorem z_zer36 : zeroA Tryz.prog 36 = some [.pv (.raw (.nilFunc))] := by kernel_rfl
theorem z_fun37 : funT Tryz.prog 37 = true := by kernel_rfl
theorem z_has37 : hasT Tryz.prog 37 = true := by kernel_rfl
theorem z_agg37 : aggT Tryz.prog 37 = false := by kernel_rfl
theorem z_cel37 : Program.cellsOf Tryz.prog 37 = 1 := by kernel_rfl
theorem z_byt37 : Program.bytesOf Tryz.prog 37 = 8 := by kernel_rfl
theorem z_zer37 : zeroA Tryz.prog 37 = some [.pv (.raw (.nilFunc))] := by kernel_rfl
theorem z_fun38 : funT Tryz.prog 38 = true := by kernel_rfl
theorem z_has38 : hasT Tryz.prog 38 = true := by kernel_rfl
theorem z_agg38 : aggT Tryz.prog 38 = false := by kernel_rfl
theorem z_cel38 : Program.cellsOf Tryz.prog 38 = 1 := by kernel_rfl
theorem z_byt38 : Program.bytesOf Tryz.prog 38 = 8 := by kernel_rfl
theorem z_zer38 : zeroA Tryz.prog 38 = some [.pv (.raw (.nilFunc))] := by kernel_rfl
theorem z_fun39 : funT Tryz.prog 39 = true := by kernel_rfl
theorem z_has39 : hasT Tryz.prog 39 = true := by kernel_rfl
theorem z_agg39 : aggT Tryz.prog 39 = false := by kernel_rfl
theorem z_cel39 : Program.cellsOf Tryz.prog 39 = 1 := by kernel_rfl
theorem z_byt39 : Program.bytesOf Tryz.prog 39 = 8 := by kernel_rfl
theorem z_zer39 : zeroA Tryz.prog 39 = some [.pv (.raw (.nilFunc))] := by kernel_rfl
theorem z_stt40 : stT Tryz.prog 40 = true := by kernel_rfl
theorem z_has40 : hasT Tryz.prog 40 = true := by kernel_rfl
theorem z_agg40 : aggT Tryz.prog 40 = true := by kernel_rfl
theorem z_cel40 : Program.cellsOf Tryz.prog 40 = 2 := by kernel_rfl
theorem z_byt40 : Program.bytesOf Tryz.prog 40 = 16 := by kernel_rfl
theorem z_off40_0 : offT Tryz.prog 40 0 = some 0 := by kernel_rfl
theorem z_fld40_0 : fldT Tryz.prog 40 0 = some 3 := by kernel_rfl
theorem z_off40_1 : offT Tryz.prog 40 1 = some 1 := by kernel_rfl
theorem z_fld40_1 : fldT Tryz.prog 40 1 = some 3 := by kernel_rfl
theorem z_zer40 : zeroA Tryz.prog 40 = some [.pv (.int .i64 0), .pv (.int .i64 0)] := by kernel_rfl
theorem z_eqT40 : eqT Tryz.prog 40 = some [(0, 3), (1, 3)] := by kernel_rfl
theorem z_stt41 : stT Tryz.prog 41 = true := by kernel_rfl
theorem z_has41 : hasT Tryz.prog 41 = true := by kernel_rfl
theorem z_agg41 : aggT Tryz.prog 41 = true := by kernel_rfl
theorem z_cel41 : Program.cellsOf Tryz.prog 41 = 2 := by kernel_rfl
theorem z_byt41 : Program.bytesOf Tryz.prog 41 = 16 := by kernel_rfl
theorem z_off41_0 : offT Tryz.prog 41 0 = some 0 := by kernel_rfl
theorem z_fld41_0 : fldT Tryz.prog 41 0 = some 3 := by kernel_rfl
theorem z_off41_1 : offT Tryz.prog 41 1 = some 1 := by kernel_rfl
theorem z_fld41_1 : fldT Tryz.prog 41 1 = some 3 := by kernel_rfl
theorem z_zer41 : zeroA Tryz.prog 41 = some [.pv (.int .i64 0), .pv (.int .i64 0)] := by kernel_rfl
theorem z_eqT41 : eqT Tryz.prog 41 = some [(0, 3), (1, 3)] := by kernel_rfl
theorem z_fun42 : funT Tryz.prog 42 = true := by kernel_rfl
theorem z_has42 : hasT Tryz.prog 42 = true := by kernel_rfl
theorem z_agg42 : aggT Tryz.prog 42 = false := by kernel_rfl
theorem z_cel42 : Program.cellsOf Tryz.prog 42 = 1 := by kernel_rfl
theorem z_byt42 : Program.bytesOf Tryz.prog 42 = 8 := by kernel_rfl
theorem z_zer42 : zeroA Tryz.prog 42 = some [.pv (.raw (.nilFunc))] := by kernel_rfl
theorem z_has43 : hasT Tryz.prog 43 = true := by kernel_rfl
theorem z_agg43 : aggT Tryz.prog 43 = false := by kernel_rfl
theorem z_cel43 : Program.cellsOf Tryz.prog 43 = 1 := by kernel_rfl
theorem z_byt43 : Program.bytesOf Tryz.prog 43 = 0 := by kernel_rfl
theorem z_fun44 : funT Tryz.prog 44 = true := by kernel_rfl
theorem z_has44 : hasT Tryz.prog 44 = true := by kernel_rfl
theorem z_agg44 : aggT Tryz.prog 44 = false := by kernel_rfl
theorem z_cel44 : Program.cellsOf Tryz.prog 44 = 1 := by kernel_rfl
theorem z_byt44 : Program.bytesOf Tryz.prog 44 = 8 := by kernel_rfl
theorem z_zer44 : zeroA Tryz.prog 44 = some [.pv (.raw (.nilFunc))] := by kernel_rfl
theorem z_fun45 : funT Tryz.prog 45 = true := by kernel_rfl
theorem z_has45 : hasT Tryz.prog 45 = true := by kernel_rfl
theorem z_agg45 : aggT Tryz.prog 45 = false := by kernel_rfl
theorem z_cel45 : Program.cellsOf Tryz.prog 45 = 1 := by kernel_rfl
theorem z_byt45 : Program.bytesOf Tryz.prog 45 = 8 := by kernel_rfl
theorem z_zer45 : zeroA Tryz.prog 45 = some [.pv (.raw (.nilFunc))] := by kernel_rfl
theorem z_fun46 : funT Tryz.prog 46 = true := by kernel_rfl
theorem z_has46 : hasT Tryz.prog 46 = true := by kernel_rfl
theorem z_agg46 : aggT Tryz.prog 46 = false := by kernel_rfl
theorem z_cel46 : Program.cellsOf Tryz.prog 46 = 1 := by kernel_rfl
theorem z_byt46 : Program.bytesOf Tryz.prog 46 = 8 := by kernel_rfl
theorem z_zer46 : zeroA Tryz.prog 46 = some [.pv (.raw (.nilFunc))] := by kernel_rfl
theorem z_fun47 : funT Tryz.prog 47 = true := by kernel_rfl
theorem z_has47 : hasT Tryz.prog 47 = true := by kernel_rfl
theorem z_agg47 : aggT Tryz.prog 47 = false := by kernel_rfl
theorem z_cel47 : Program.cellsOf Tryz.prog 47 = 1 := by kernel_rfl
theorem z_byt47 : Program.bytesOf Tryz.prog 47 = 8 := by kernel_rfl
theorem z_zer47 : zeroA Tryz.prog 47 = some [.pv (.raw (.nilFunc))] := by kernel_rfl
theorem z_has48 : hasT Tryz.prog 48 = true := by kernel_rfl
theorem z_nst48 : strT Tryz.prog 48 = false := by kernel_rfl
theorem z_agg48 : aggT Tryz.prog 48 = false := by kernel_rfl
theorem z_elm48 : elemT Tryz.prog 48 = some 9 := by kernel_rfl
theorem z_cel48 : Program.cellsOf Tryz.prog 48 = 1 := by kernel_rfl
theorem z_byt48 : Program.bytesOf Tryz.prog 48 = 24 := by kernel_rfl
theorem z_zer48 : zeroA Tryz.prog 48 = some [.emp] := by kernel_rfl
theorem z_fun49 : funT Tryz.prog 49 = true := by kernel_rfl
theorem z_has49 : hasT Tryz.prog 49 = true := by kernel_rfl
theorem z_agg49 : aggT Tryz.prog 49 = false := by kernel_rfl
theorem z_cel49 : Program.cellsOf Tryz.prog 49 = 1 := by kernel_rfl
theorem z_byt49 : Program.bytesOf Tryz.prog 49 = 8 := by kernel_rfl
theorem z_zer49 : zeroA Tryz.prog 49 = some [.pv (.raw (.nilFunc))] := by kernel_rfl
theorem z_has50 : hasT Tryz.prog 50 = true := by kernel_rfl
theorem z_agg50 : aggT Tryz.prog 50 = false := by kernel_rfl
theorem z_cel50 : Program.cellsOf Tryz.prog 50 = 1 := by kernel_rfl
theorem z_byt50 : Program.bytesOf Tryz.prog 50 = 0 := by kernel_rfl
theorem z_fun51 : funT Tryz.prog 51 = true := by kernel_rfl
theorem z_has51 : hasT Tryz.prog 51 = true := by kernel_rfl
theorem z_agg51 : aggT Tryz.prog 51 = false := by kernel_rfl
theorem z_cel51 : Program.cellsOf Tryz.prog 51 = 1 := by kernel_rfl
theorem z_byt51 : Program.bytesOf Tryz.prog 51 = 8 := by kernel_rfl
theorem z_zer51 : zeroA Tryz.prog 51 = some [.pv (.raw (.nilFunc))] := by kernel_rfl
theorem z_stt52 : stT Tryz.prog 52 = true := by kernel_rfl
theorem z_has52 : hasT Tryz.prog 52 = true := by kernel_rfl
theorem z_agg52 : aggT Tryz.prog 52 = true := by kernel_rfl
theorem z_cel52 : Program.cellsOf Tryz.prog 52 = 2 := by kernel_rfl
theorem z_byt52 : Program.bytesOf Tryz.prog 52 = 16 := by kernel_rfl
theorem z_off52_0 : offT Tryz.prog 52 0 = some 0 := by kernel_rfl
theorem z_fld52_0 : fldT Tryz.prog 52 0 = some 3 := by kernel_rfl
theorem z_off52_1 : offT Tryz.prog 52 1 = some 1 := by kernel_rfl
theorem z_fld52_1 : fldT Tryz.prog 52 1 = some 3 := by kernel_rfl
theorem z_zer52 : zeroA Tryz.prog 52 = some [.pv (.int .i64 0), .pv (.int .i64 0)] := by kernel_rfl
theorem z_eqT52 : eqT Tryz.prog 52 = some [(0, 3), (1, 3)] := by kernel_rfl
theorem z_has53 : hasT Tryz.prog 53 = true := by kernel_rfl
theorem z_agg53 : aggT Tryz.prog 53 = false := by kernel_rfl
theorem z_cel53 : Program.cellsOf Tryz.prog 53 = 1 := by kernel_rfl
theorem z_byt53 : Program.bytesOf Tryz.prog 53 = 0 := by kernel_rfl
theorem z_fun54 : funT Tryz.prog 54 = true := by kernel_rfl
theorem z_has54 : hasT Tryz.prog 54 = true := by kernel_rfl
theorem z_agg54 : aggT Tryz.prog 54 = false := by kernel_rfl
theorem z_cel54 : Program.cellsOf Tryz.prog 54 = 1 := by kernel_rfl
theorem z_byt54 : Program.bytesOf Tryz.prog 54 = 8 := by kernel_rfl
theorem z_zer54 : zeroA Tryz.prog 54 = some [.pv (.raw (.nilFunc))] := by kernel_rfl
theorem z_has55 : hasT Tryz.prog 55 = true := by kernel_rfl
theorem z_nst55 : strT Tryz.prog 55 = false := by kernel_rfl
theorem z_agg55 : aggT Tryz.prog 55 = false := by kernel_rfl
theorem z_elm55 : elemT Tryz.prog 55 = some 3 := by kernel_rfl
theorem z_cel55 : Program.cellsOf Tryz.prog 55 = 1 := by kernel_rfl
theorem z_byt55 : Program.bytesOf Tryz.prog 55 = 24 := by kernel_rfl
theorem z_zer55 : zeroA Tryz.prog 55 = some [.emp] := by kernel_rfl
theorem z_has56 : hasT Tryz.prog 56 = true := by kernel_rfl
theorem z_agg56 : aggT Tryz.prog 56 = false := by kernel_rfl
theorem z_cel56 : Program.cellsOf Tryz.prog 56 = 1 := by kernel_rfl
theorem z_byt56 : Program.bytesOf Tryz.prog 56 = 0 := by kernel_rfl
theorem z_fun57 : funT Tryz.prog 57 = true := by kernel_rfl
theorem z_has57 : hasT Tryz.prog 57 = true := by kernel_rfl
theorem z_agg57 : aggT Tryz.prog 57 = false := by kernel_rfl
theorem z_cel57 : Program.cellsOf Tryz.prog 57 = 1 := by kernel_rfl
theorem z_byt57 : Program.bytesOf Tryz.prog 57 = 8 := by kernel_rfl
theorem z_zer57 : zeroA Tryz.prog 57 = some [.pv (.raw (.nilFunc))] := by kernel_rfl
theorem z_fun58 : funT Tryz.prog 58 = true := by kernel_rfl
theorem z_has58 : hasT Tryz.prog 58 = true := by kernel_rfl
theorem z_agg58 : aggT Tryz.prog 58 = false := by kernel_rfl
theorem z_cel58 : Program.cellsOf Tryz.prog 58 = 1 := by kernel_rfl
theorem z_byt58 : Program.bytesOf Tryz.prog 58 = 8 := by kernel_rfl
theorem z_zer58 : zeroA Tryz.prog 58 = some [.pv (.raw (.nilFunc))] := by kernel_rfl
theorem z_has59 : hasT Tryz.prog 59 = true := by kernel_rfl
theorem z_nst59 : strT Tryz.prog 59 = false := by kernel_rfl
theorem z_agg59 : aggT Tryz.prog 59 = false := by kernel_rfl
theorem z_elm59 : elemT Tryz.prog 59 = some 5 := by kernel_rfl
theorem z_cel59 : Program.cellsOf Tryz.prog 59 = 1 := by kernel_rfl
theorem z_byt59 : Program.bytesOf Tryz.prog 59 = 24 := by kernel_rfl
theorem z_zer59 : zeroA Tryz.prog 59 = some [.emp] := by kernel_rfl
theorem z_fun60 : funT Tryz.prog 60 = true := by kernel_rfl
theorem z_has60 : hasT Tryz.prog 60 = true := by kernel_rfl
theorem z_agg60 : aggT Tryz.prog 60 = false := by kernel_rfl
theorem z_cel60 : Program.cellsOf Tryz.prog 60 = 1 := by kernel_rfl
theorem z_byt60 : Program.bytesOf Tryz.prog 60 = 8 := by kernel_rfl
theorem z_zer60 : zeroA Tryz.prog 60 = some [.pv (.raw (.nilFunc))] := by kernel_rfl
theorem z_fun61 : funT Tryz.prog 61 = true := by kernel_rfl
theorem z_has61 : hasT Tryz.prog 61 = true := by kernel_rfl
theorem z_agg61 : aggT Tryz.prog 61 = false := by kernel_rfl
theorem z_cel61 : Program.cellsOf Tryz.prog 61 = 1 := by kernel_rfl
theorem z_byt61 : Program.bytesOf Tryz.prog 61 = 8 := by kernel_rfl
theorem z_zer61 : zeroA Tryz.prog 61 = some [.pv (.raw (.nilFunc))] := by kernel_rfl
theorem z_fun62 : funT Tryz.prog 62 = true := by kernel_rfl
theorem z_has62 : hasT Tryz.prog 62 = true := by kernel_rfl
theorem z_agg62 : aggT Tryz.prog 62 = false := by kernel_rfl
theorem z_cel62 : Program.cellsOf Tryz.prog 62 = 1 := by kernel_rfl
theorem z_byt62 : Program.bytesOf Tryz.prog 62 = 8 := by kernel_rfl
theorem z_zer62 : zeroA Tryz.prog 62 = some [.pv (.raw (.nilFunc))] := by kernel_rfl
theorem z_fun63 : funT Tryz.prog 63 = true := by kernel_rfl
theorem z_has63 : hasT Tryz.prog 63 = true := by kernel_rfl
theorem z_agg63 : aggT Tryz.prog 63 = false := by kernel_rfl
theorem z_cel63 : Program.cellsOf Tryz.prog 63 = 1 := by kernel_rfl
theorem z_byt63 : Program.bytesOf Tryz.prog 63 = 8 := by kernel_rfl
theorem z_zer63 : zeroA Tryz.prog 63 = some [.pv (.raw (.nilFunc))] := by kernel_rfl
theorem z_has64 : hasT Tryz.prog 64 = true := by kernel_rfl
theorem z_agg64 : aggT Tryz.prog 64 = false := by kernel_rfl
theorem z_cel64 : Program.cellsOf Tryz.prog 64 = 1 := by kernel_rfl
theorem z_byt64 : Program.bytesOf Tryz.prog 64 = 0 := by kernel_rfl
theorem z_fun65 : funT Tryz.prog 65 = true := by kernel_rfl
theorem z_has65 : hasT Tryz.prog 65 = true := by kernel_rfl
theorem z_agg65 : aggT Tryz.prog 65 = false := by kernel_rfl
theorem z_cel65 : Program.cellsOf Tryz.prog 65 = 1 := by kernel_rfl
theorem z_byt65 : Program.bytesOf Tryz.prog 65 = 8 := by kernel_rfl
theorem z_zer65 : zeroA Tryz.prog 65 = some [.pv (.raw (.nilFunc))] := by kernel_rfl
theorem z_fun66 : funT Tryz.prog 66 = true := by kernel_rfl
theorem z_has66 : hasT Tryz.prog 66 = true := by kernel_rfl
theorem z_agg66 : aggT Tryz.prog 66 = false := by kernel_rfl
theorem z_cel66 : Program.cellsOf Tryz.prog 66 = 1 := by kernel_rfl
theorem z_byt66 : Program.bytesOf Tryz.prog 66 = 8 := by kernel_rfl
theorem z_zer66 : zeroA Tryz.prog 66 = some [.pv (.raw (.nilFunc))] := by kernel_rfl
theorem z_fun67 : funT Tryz.prog 67 = true := by kernel_rfl
theorem z_has67 : hasT Tryz.prog 67 = true := by kernel_rfl
theorem z_agg67 : aggT Tryz.prog 67 = false := by kernel_rfl
theorem z_cel67 : Program.cellsOf Tryz.prog 67 = 1 := by kernel_rfl
theorem z_byt67 : Program.bytesOf Tryz.prog 67 = 8 := by kernel_rfl
theorem z_zer67 : zeroA Tryz.prog 67 = some [.pv (.raw (.nilFunc))] := by kernel_rfl
theorem z_fun68 : funT Tryz.prog 68 = true := by kernel_rfl
theorem z_has68 : hasT Tryz.prog 68 = true := by kernel_rfl
theorem z_agg68 : aggT Tryz.prog 68 = false := by kernel_rfl
theorem z_cel68 : Program.cellsOf Tryz.prog 68 = 1 := by kernel_rfl
theorem z_byt68 : Program.bytesOf Tryz.prog 68 = 8 := by kernel_rfl
theorem z_zer68 : zeroA Tryz.prog 68 = some [.pv (.raw (.nilFunc))] := by kernel_rfl
theorem z_fun69 : funT Tryz.prog 69 = true := by kernel_rfl
theorem z_has69 : hasT Tryz.prog 69 = true := by kernel_rfl
theorem z_agg69 : aggT Tryz.prog 69 = false := by kernel_rfl
theorem z_cel69 : Program.cellsOf Tryz.prog 69 = 1 := by kernel_rfl
theorem z_byt69 : Program.bytesOf Tryz.prog 69 = 8 := by kernel_rfl
theorem z_zer69 : zeroA Tryz.prog 69 = some [.pv (.raw (.nilFunc))] := by kernel_rfl
theorem z_fun70 : funT Tryz.prog 70 = true := by kernel_rfl
theorem z_has70 : hasT Tryz.prog 70 = true := by kernel_rfl
theorem z_agg70 : aggT Tryz.prog 70 = false := by kernel_rfl
theorem z_cel70 : Program.cellsOf Tryz.prog 70 = 1 := by kernel_rfl
theorem z_byt70 : Program.bytesOf Tryz.prog 70 = 8 := by kernel_rfl
theorem z_zer70 : zeroA Tryz.prog 70 = some [.pv (.raw (.nilFunc))] := by kernel_rfl
theorem z_fun71 : funT Tryz.prog 71 = true := by kernel_rfl
theorem z_has71 : hasT Tryz.prog 71 = true := by kernel_rfl
theorem z_agg71 : aggT Tryz.prog 71 = false := by kernel_rfl
theorem z_cel71 : Program.cellsOf Tryz.prog 71 = 1 := by kernel_rfl
theorem z_byt71 : Program.bytesOf Tryz.prog 71 = 8 := by kernel_rfl
theorem z_zer71 : zeroA Tryz.prog 71 = some [.pv (.raw (.nilFunc))] := by kernel_rfl
theorem z_fun72 : funT Tryz.prog 72 = true := by kernel_rfl
theorem z_has72 : hasT Tryz.prog 72 = true := by kernel_rfl
theorem z_agg72 : aggT Tryz.prog 72 = false := by kernel_rfl
theorem z_cel72 : Program.cellsOf Tryz.prog 72 = 1 := by kernel_rfl
theorem z_byt72 : Program.bytesOf Tryz.prog 72 = 8 := by kernel_rfl
theorem z_zer72 : zeroA Tryz.prog 72 = some [.pv (.raw (.nilFunc))] := by kernel_rfl
theorem z_fun73 : funT Tryz.prog 73 = true := by kernel_rfl
theorem z_has73 : hasT Tryz.prog 73 = true := by kernel_rfl
theorem z_agg73 : aggT Tryz.prog 73 = false := by kernel_rfl
theorem z_cel73 : Program.cellsOf Tryz.prog 73 = 1 := by kernel_rfl
theorem z_byt73 : Program.bytesOf Tryz.prog 73 = 8 := by kernel_rfl
theorem z_zer73 : zeroA Tryz.prog 73 = some [.pv (.raw (.nilFunc))] := by kernel_rfl
theorem z_fun74 : funT Tryz.prog 74 = true := by kernel_rfl
theorem z_has74 : hasT Tryz.prog 74 = true := by kernel_rfl
theorem z_agg74 : aggT Tryz.prog 74 = false := by kernel_rfl
theorem z_cel74 : Program.cellsOf Tryz.prog 74 = 1 := by kernel_rfl
theorem z_byt74 : Program.bytesOf Tryz.prog 74 = 8 := by kernel_rfl
theorem z_zer74 : zeroA Tryz.prog 74 = some [.pv (.raw (.nilFunc))] := by kernel_rfl
theorem zf : type_of% (And.intro (And.intro (And.intro (And.intro (And.intro (And.intro (And.intro (And.intro z_has0 (And.intro z_agg0 z_cel0)) (And.intro (And.intro z_byt0 z_fun1) (And.intro z_has1 z_agg1))) (And.intro (And.intro (And.intro z_cel1 z_byt1) (And.intro z_zer1 z_has2)) (And.intro (And.intro z_agg2 z_int2) (And.intro z_cel2 z_byt2)))) (And.intro (And.intro (And.intro z_zer2 (And.intro z_has3 z_agg3)) (And.intro (And.intro z_int3 z_cel3) (And.intro z_byt3 z_zer3))) (And.intro (And.intro (And.intro z_boo4 z_has4) (And.intro z_agg4 z_cel4)) (And.intro (And.intro z_byt4 z_zer4) (And.intro z_has5 z_agg5))))) (And.intro (And.intro (And.intro (And.intro z_int5 (And.intro z_cel5 z_byt5)) (And.intro (And.intro z_zer5 z_has6) (And.intro z_agg6 z_int6))) (And.intro (And.intro (And.intro z_cel6 z_byt6) (And.intro z_zer6 z_stt7)) (And.intro (And.intro z_has7 z_agg7) (And.intro z_cel7 z_byt7)))) (And.intro (And.intro (And.intro z_off7_0 (And.intro z_fld7_0 z_off7_1)) (And.intro (And.intro z_fld7_1 z_off7_2) (And.intro z_fld7_2 z_off7_3))) (And.intro (And.intro (And.intro z_fld7_3 z_zer7) (And.intro z_eqT7 z_stt8)) (And.intro (And.intro z_has8 z_agg8) (And.intro z_cel8 z_byt8)))))) (And.intro (And.intro (And.intro (And.intro (And.intro z_off8_0 (And.intro z_fld8_0 z_off8_1)) (And.intro (And.intro z_fld8_1 z_off8_2) (And.intro z_fld8_2 z_off8_3))) (And.intro (And.intro (And.intro z_fld8_3 z_zer8) (And.intro z_eqT8 z_str9)) (And.intro (And.intro z_has9 z_agg9) (And.intro z_cel9 z_byt9)))) (And.intro (And.intro (And.intro z_zer9 (And.intro z_str10 z_has10)) (And.intro (And.intro z_agg10 z_cel10) (And.intro z_byt10 z_zer10))) (And.intro (And.intro (And.intro z_str11 z_has11) (And.intro z_agg11 z_cel11)) (And.intro (And.intro z_byt11 z_zer11) (And.intro z_has12 z_agg12))))) (And.intro (And.intro (And.intro (And.intro z_int12 (And.intro z_cel12 z_byt12)) (And.intro (And.intro z_zer12 z_stt13) (And.intro z_has13 z_agg13))) (And.intro (And.intro (And.intro z_cel13 z_byt13) (And.intro z_off13_0 z_fld13_0)) (And.intro (And.intro z_off13_1 z_fld13_1) (And.intro z_zer13 z_stt14)))) (And.intro (And.intro (And.intro (And.intro z_has14 z_agg14) (And.intro z_cel14 z_byt14)) (And.intro (And.intro z_off14_0 z_fld14_0) (And.intro z_off14_1 z_fld14_1))) (And.intro (And.intro (And.intro z_zer14 z_ptr15) (And.intro z_has15 z_agg15)) (And.intro (And.intro z_cel15 z_byt15) (And.intro z_zer15 z_ptr16))))))) (And.intro (And.intro (And.intro (And.intro (And.intro (And.intro z_has16 (And.intro z_agg16 z_cel16)) (And.intro (And.intro z_byt16 z_zer16) (And.intro z_ptr17 z_has17))) (And.intro (And.intro (And.intro z_agg17 z_cel17) (And.intro z_byt17 z_zer17)) (And.intro (And.intro z_stt18 z_has18) (And.intro z_agg18 z_cel18)))) (And.intro (And.intro (And.intro z_byt18 (And.intro z_off18_0 z_fld18_0)) (And.intro (And.intro z_zer18 z_stt19) (And.intro z_has19 z_agg19))) (And.intro (And.intro (And.intro z_cel19 z_byt19) (And.intro z_off19_0 z_fld19_0)) (And.intro (And.intro z_zer19 z_has20) (And.intro z_agg20 z_cel20))))) (And.intro (And.intro (And.intro (And.intro z_byt20 (And.intro z_zer20 z_has21)) (And.intro (And.intro z_agg21 z_int21) (And.intro z_cel21 z_byt21))) (And.intro (And.intro (And.intro z_zer21 z_has22) (And.intro z_nst22 z_agg22)) (And.intro (And.intro z_elm22 z_cel22) (And.intro z_byt22 z_zer22)))) (And.intro (And.intro (And.intro (And.intro z_stt23 z_has23) (And.intro z_agg23 z_cel23)) (And.intro (And.intro z_byt23 z_off23_0) (And.intro z_fld23_0 z_zer23))) (And.intro (And.intro (And.intro z_eqT23 z_stt24) (And.intro z_has24 z_agg24)) (And.intro (And.intro z_cel24 z_byt24) (And.intro z_off24_0 z_fld24_0)))))) (And.intro (And.intro (And.intro (And.intro (And.intro z_zer24 (And.intro z_eqT24 z_has25)) (And.intro (And.intro z_agg25 z_int25) (And.intro z_cel25 z_byt25))) (And.intro (And.intro (And.intro z_zer25 z_has26) (And.intro z_agg26 z_cel26)) (And.intro (And.intro z_byt26 z_fun27) (And.intro z_has27 z_agg27)))) (And.intro (And.intro (And.intro z_cel27 (And.intro z_byt27 z_zer27)) (And.intro (And.intro z_has28 z_nst28) (And.intro z_agg28 z_elm28))) (And.intro (And.intro (And.intro z_cel28 z_byt28) (And.intro z_zer28 z_has29)) (And.intro (And.intro z_agg29 z_cel29) (And.intro z_byt29 z_fun30))))) (And.intro (And.intro (And.intro (And.intro z_has30 (And.intro z_agg30 z_cel30)) (And.intro (And.intro z_byt30 z_zer30) (And.intro z_fun31 z_has31))) (And.intro (And.intro (And.intro z_agg31 z_cel31) (And.intro z_byt31 z_zer31)) (And.intro (And.intro z_fun32 z_has32) (And.intro z_agg32 z_cel32)))) (And.intro (And.intro (And.intro (And.intro z_byt32 z_zer32) (And.intro z_fun33 z_has33)) (And.intro (And.intro z_agg33 z_cel33) (And.intro z_byt33 z_zer33))) (And.intro (And.intro (And.intro z_fun34 z_has34) (And.intro z_agg34 z_cel34)) (And.intro (And.intro z_byt34 z_zer34) (And.intro z_has35 z_agg35)))))))) (And.intro (And.intro (And.intro (And.intro (And.intro (And.intro (And.intro z_cel35 (And.intro z_byt35 z_fun36)) (And.intro (And.intro z_has36 z_agg36) (And.intro z_cel36 z_byt36))) (And.intro (And.intro (And.intro z_zer36 z_fun37) (And.intro z_has37 z_agg37)) (And.intro (And.intro z_cel37 z_byt37) (And.intro z_zer37 z_fun38)))) (And.intro (And.intro (And.intro z_has38 (And.intro z_agg38 z_cel38)) (And.intro (And.intro z_byt38 z_zer38) (And.intro z_fun39 z_has39))) (And.intro (And.intro (And.intro z_agg39 z_cel39) (And.intro z_byt39 z_zer39)) (And.intro (And.intro z_stt40 z_has40) (And.intro z_agg40 z_cel40))))) (And.intro (And.intro (And.intro (And.intro z_byt40 (And.intro z_off40_0 z_fld40_0)) (And.intro (And.intro z_off40_1 z_fld40_1) (And.intro z_zer40 z_eqT40))) (And.intro (And.intro (And.intro z_stt41 z_has41) (And.intro z_agg41 z_cel41)) (And.intro (And.intro z_byt41 z_off41_0) (And.intro z_fld41_0 z_off41_1)))) (And.intro (And.intro (And.intro (And.intro z_fld41_1 z_zer41) (And.intro z_eqT41 z_fun42)) (And.intro (And.intro z_has42 z_agg42) (And.intro z_cel42 z_byt42))) (And.intro (And.intro (And.intro z_zer42 z_has43) (And.intro z_agg43 z_cel43)) (And.intro (And.intro z_byt43 z_fun44) (And.intro z_has44 z_agg44)))))) (And.intro (And.intro (And.intro (And.intro (And.intro z_cel44 (And.intro z_byt44 z_zer44)) (And.intro (And.intro z_fun45 z_has45) (And.intro z_agg45 z_cel45))) (And.intro (And.intro (And.intro z_byt45 z_zer45) (And.intro z_fun46 z_has46)) (And.intro (And.intro z_agg46 z_cel46) (And.intro z_byt46 z_zer46)))) (And.intro (And.intro (And.intro z_fun47 (And.intro z_has47 z_agg47)) (And.intro (And.intro z_cel47 z_byt47) (And.intro z_zer47 z_has48))) (And.intro (And.intro (And.intro z_nst48 z_agg48) (And.intro z_elm48 z_cel48)) (And.intro (And.intro z_byt48 z_zer48) (And.intro z_fun49 z_has49))))) (And.intro (And.intro (And.intro (And.intro z_agg49 (And.intro z_cel49 z_byt49)) (And.intro (And.intro z_zer49 z_has50) (And.intro z_agg50 z_cel50))) (And.intro (And.intro (And.intro z_byt50 z_fun51) (And.intro z_has51 z_agg51)) (And.intro (And.intro z_cel51 z_byt51) (And.intro z_zer51 z_stt52)))) (And.intro (And.intro (And.intro (And.intro z_has52 z_agg52) (And.intro z_cel52 z_byt52)) (And.intro (And.intro z_off52_0 z_fld52_0) (And.intro z_off52_1 z_fld52_1))) (And.intro (And.intro (And.intro z_zer52 z_eqT52) (And.intro z_has53 z_agg53)) (And.intro (And.intro z_cel53 z_byt53) (And.intro z_fun54 z_has54))))))) (And.intro (And.intro (And.intro (And.intro (And.intro (And.intro z_agg54 (And.intro z_cel54 z_byt54)) (And.intro (And.intro z_zer54 z_has55) (And.intro z_nst55 z_agg55))) (And.intro (And.intro (And.intro z_elm55 z_cel55) (And.intro z_byt55 z_zer55)) (And.intro (And.intro z_has56 z_agg56) (And.intro z_cel56 z_byt56)))) (And.intro (And.intro (And.intro z_fun57 (And.intro z_has57 z_agg57)) (And.intro (And.intro z_cel57 z_byt57) (And.intro z_zer57 z_fun58))) (And.intro (And.intro (And.intro z_has58 z_agg58) (And.intro z_cel58 z_byt58)) (And.intro (And.intro z_zer58 z_has59) (And.intro z_nst59 z_agg59))))) (And.intro (And.intro (And.intro (And.intro z_elm59 (And.intro z_cel59 z_byt59)) (And.intro (And.intro z_zer59 z_fun60) (And.intro z_has60 z_agg60))) (And.intro (And.intro (And.intro z_cel60 z_byt60) (And.intro z_zer60 z_fun61)) (And.intro (And.intro z_has61 z_agg61) (And.intro z_cel61 z_byt61)))) (And.intro (And.intro (And.intro (And.intro z_zer61 z_fun62) (And.intro z_has62 z_agg62)) (And.intro (And.intro z_cel62 z_byt62) (And.intro z_zer62 z_fun63))) (And.intro (And.intro (And.intro z_has63 z_agg63) (And.intro z_cel63 z_byt63)) (And.intro (And.intro z_zer63 z_has64) (And.intro z_agg64 z_cel64)))))) (And.intro (And.intro (And.intro (And.intro (And.intro z_byt64 (And.intro z_fun65 z_has65)) (And.intro (And.intro z_agg65 z_cel65) (And.intro z_byt65 z_zer65))) (And.intro (And.intro (And.intro z_fun66 z_has66) (And.intro z_agg66 z_cel66)) (And.intro (And.intro z_byt66 z_zer66) (And.intro z_fun67 z_has67)))) (And.intro (And.intro (And.intro z_agg67 (And.intro z_cel67 z_byt67)) (And.intro (And.intro z_zer67 z_fun68) (And.intro z_has68 z_agg68))) (And.intro (And.intro (And.intro z_cel68 z_byt68) (And.intro z_zer68 z_fun69)) (And.intro (And.intro z_has69 z_agg69) (And.intro z_cel69 z_byt69))))) (And.intro (And.intro (And.intro (And.intro z_zer69 (And.intro z_fun70 z_has70)) (And.intro (And.intro z_agg70 z_cel70) (And.intro z_byt70 z_zer70))) (And.intro (And.intro (And.intro z_fun71 z_has71) (And.intro z_agg71 z_cel71)) (And.intro (And.intro z_byt71 z_zer71) (And.intro z_fun72 z_has72)))) (And.intro (And.intro (And.intro (And.intro z_agg72 z_cel72) (And.intro z_byt72 z_zer72)) (And.intro (And.intro z_fun73 z_has73) (And.intro z_agg73 z_cel73))) (And.intro (And.intro (And.intro z_byt73 z_zer73) (And.intro z_fun74 z_has74)) (And.intro (And.intro z_agg74 z_cel74) (And.intro z_byt74 z_zer74))))))))) := (And.intro (And.intro (And.intro (And.intro (And.intro (And.intro (And.intro (And.intro z_has0 (And.intro z_agg0 z_cel0)) (And.intro (And.intro z_byt0 z_fun1) (And.intro z_has1 z_agg1))) (And.intro (And.intro (And.intro z_cel1 z_byt1) (And.intro z_zer1 z_has2)) (And.intro (And.intro z_agg2 z_int2) (And.intro z_cel2 z_byt2)))) (And.intro (And.intro (And.intro z_zer2 (And.intro z_has3 z_agg3)) (And.intro (And.intro z_int3 z_cel3) (And.intro z_byt3 z_zer3))) (And.intro (And.intro (And.intro z_boo4 z_has4) (And.intro z_agg4 z_cel4)) (And.intro (And.intro z_byt4 z_zer4) (And.intro z_has5 z_agg5))))) (And.intro (And.intro (And.intro (And.intro z_int5 (And.intro z_cel5 z_byt5)) (And.intro (And.intro z_zer5 z_has6) (And.intro z_agg6 z_int6))) (And.intro (And.intro (And.intro z_cel6 z_byt6) (And.intro z_zer6 z_stt7)) (And.intro (And.intro z_has7 z_agg7) (And.intro z_cel7 z_byt7)))) (And.intro (And.intro (And.intro z_off7_0 (And.intro z_fld7_0 z_off7_1)) (And.intro (And.intro z_fld7_1 z_off7_2) (And.intro z_fld7_2 z_off7_3))) (And.intro (And.intro (And.intro z_fld7_3 z_zer7) (And.intro z_eqT7 z_stt8)) (And.intro (And.intro z_has8 z_agg8) (And.intro z_cel8 z_byt8)))))) (And.intro (And.intro (And.intro (And.intro (And.intro z_off8_0 (And.intro z_fld8_0 z_off8_1)) (And.intro (And.intro z_fld8_1 z_off8_2) (And.intro z_fld8_2 z_off8_3))) (And.intro (And.intro (And.intro z_fld8_3 z_zer8) (And.intro z_eqT8 z_str9)) (And.intro (And.intro z_has9 z_agg9) (And.intro z_cel9 z_byt9)))) (And.intro (And.intro (And.intro z_zer9 (And.intro z_str10 z_has10)) (And.intro (And.intro z_agg10 z_cel10) (And.intro z_byt10 z_zer10))) (And.intro (And.intro (And.intro z_str11 z_has11) (And.intro z_agg11 z_cel11)) (And.intro (And.intro z_byt11 z_zer11) (And.intro z_has12 z_agg12))))) (And.intro (And.intro (And.intro (And.intro z_int12 (And.intro z_cel12 z_byt12)) (And.intro (And.intro z_zer12 z_stt13) (And.intro z_has13 z_agg13))) (And.intro (And.intro (And.intro z_cel13 z_byt13) (And.intro z_off13_0 z_fld13_0)) (And.intro (And.intro z_off13_1 z_fld13_1) (And.intro z_zer13 z_stt14)))) (And.intro (And.intro (And.intro (And.intro z_has14 z_agg14) (And.intro z_cel14 z_byt14)) (And.intro (And.intro z_off14_0 z_fld14_0) (And.intro z_off14_1 z_fld14_1))) (And.intro (And.intro (And.intro z_zer14 z_ptr15) (And.intro z_has15 z_agg15)) (And.intro (And.intro z_cel15 z_byt15) (And.intro z_zer15 z_ptr16))))))) (And.intro (And.intro (And.intro (And.intro (And.intro (And.intro z_has16 (And.intro z_agg16 z_cel16)) (And.intro (And.intro z_byt16 z_zer16) (And.intro z_ptr17 z_has17))) (And.intro (And.intro (And.intro z_agg17 z_cel17) (And.intro z_byt17 z_zer17)) (And.intro (And.intro z_stt18 z_has18) (And.intro z_agg18 z_cel18)))) (And.intro (And.intro (And.intro z_byt18 (And.intro z_off18_0 z_fld18_0)) (And.intro (And.intro z_zer18 z_stt19) (And.intro z_has19 z_agg19))) (And.intro (And.intro (And.intro z_cel19 z_byt19) (And.intro z_off19_0 z_fld19_0)) (And.intro (And.intro z_zer19 z_has20) (And.intro z_agg20 z_cel20))))) (And.intro (And.intro (And.intro (And.intro z_byt20 (And.intro z_zer20 z_has21)) (And.intro (And.intro z_agg21 z_int21) (And.intro z_cel21 z_byt21))) (And.intro (And.intro (And.intro z_zer21 z_has22) (And.intro z_nst22 z_agg22)) (And.intro (And.intro z_elm22 z_cel22) (And.intro z_byt22 z_zer22)))) (And.intro (And.intro (And.intro (And.intro z_stt23 z_has23) (And.intro z_agg23 z_cel23)) (And.intro (And.intro z_byt23 z_off23_0) (And.intro z_fld23_0 z_zer23))) (And.intro (And.intro (And.intro z_eqT23 z_stt24) (And.intro z_has24 z_agg24)) (And.intro (And.intro z_cel24 z_byt24) (And.intro z_off24_0 z_fld24_0)))))) (And.intro (And.intro (And.intro (And.intro (And.intro z_zer24 (And.intro z_eqT24 z_has25)) (And.intro (And.intro z_agg25 z_int25) (And.intro z_cel25 z_byt25))) (And.intro (And.intro (And.intro z_zer25 z_has26) (And.intro z_agg26 z_cel26)) (And.intro (And.intro z_byt26 z_fun27) (And.intro z_has27 z_agg27)))) (And.intro (And.intro (And.intro z_cel27 (And.intro z_byt27 z_zer27)) (And.intro (And.intro z_has28 z_nst28) (And.intro z_agg28 z_elm28))) (And.intro (And.intro (And.intro z_cel28 z_byt28) (And.intro z_zer28 z_has29)) (And.intro (And.intro z_agg29 z_cel29) (And.intro z_byt29 z_fun30))))) (And.intro (And.intro (And.intro (And.intro z_has30 (And.intro z_agg30 z_cel30)) (And.intro (And.intro z_byt30 z_zer30) (And.intro z_fun31 z_has31))) (And.intro (And.intro (And.intro z_agg31 z_cel31) (And.intro z_byt31 z_zer31)) (And.intro (And.intro z_fun32 z_has32) (And.intro z_agg32 z_cel32)))) (And.intro (And.intro (And.intro (And.intro z_byt32 z_zer32) (And.intro z_fun33 z_has33)) (And.intro (And.intro z_agg33 z_cel33) (And.intro z_byt33 z_zer33))) (And.intro (And.intro (And.intro z_fun34 z_has34) (And.intro z_agg34 z_cel34)) (And.intro (And.intro z_byt34 z_zer34) (And.intro z_has35 z_agg35)))))))) (And.intro (And.intro (And.intro (And.intro (And.intro (And.intro (And.intro z_cel35 (And.intro z_byt35 z_fun36)) (And.intro (And.intro z_has36 z_agg36) (And.intro z_cel36 z_byt36))) (And.intro (And.intro (And.intro z_zer36 z_fun37) (And.intro z_has37 z_agg37)) (And.intro (And.intro z_cel37 z_byt37) (And.intro z_zer37 z_fun38)))) (And.intro (And.intro (And.intro z_has38 (And.intro z_agg38 z_cel38)) (And.intro (And.intro z_byt38 z_zer38) (And.intro z_fun39 z_has39))) (And.intro (And.intro (And.intro z_agg39 z_cel39) (And.intro z_byt39 z_zer39)) (And.intro (And.intro z_stt40 z_has40) (And.intro z_agg40 z_cel40))))) (And.intro (And.intro (And.intro (And.intro z_byt40 (And.intro z_off40_0 z_fld40_0)) (And.intro (And.intro z_off40_1 z_fld40_1) (And.intro z_zer40 z_eqT40))) (And.intro (And.intro (And.intro z_stt41 z_has41) (And.intro z_agg41 z_cel41)) (And.intro (And.intro z_byt41 z_off41_0) (And.intro z_fld41_0 z_off41_1)))) (And.intro (And.intro (And.intro (And.intro z_fld41_1 z_zer41) (And.intro z_eqT41 z_fun42)) (And.intro (And.intro z_has42 z_agg42) (And.intro z_cel42 z_byt42))) (And.intro (And.intro (And.intro z_zer42 z_has43) (And.intro z_agg43 z_cel43)) (And.intro (And.intro z_byt43 z_fun44) (And.intro z_has44 z_agg44)))))) (And.intro (And.intro (And.intro (And.intro (And.intro z_cel44 (And.intro z_byt44 z_zer44)) (And.intro (And.intro z_fun45 z_has45) (And.intro z_agg45 z_cel45))) (And.intro (And.intro (And.intro z_byt45 z_zer45) (And.intro z_fun46 z_has46)) (And.intro (And.intro z_agg46 z_cel46) (And.intro z_byt46 z_zer46)))) (And.intro (And.intro (And.intro z_fun47 (And.intro z_has47 z_agg47)) (And.intro (And.intro z_cel47 z_byt47) (And.intro z_zer47 z_has48))) (And.intro (And.intro (And.intro z_nst48 z_agg48) (And.intro z_elm48 z_cel48)) (And.intro (And.intro z_byt48 z_zer48) (And.intro z_fun49 z_has49))))) (And.intro (And.intro (And.intro (And.intro z_agg49 (And.intro z_cel49 z_byt49)) (And.intro (And.intro z_zer49 z_has50) (And.intro z_agg50 z_cel50))) (And.intro (And.intro (And.intro z_byt50 z_fun51) (And.intro z_has51 z_agg51)) (And.intro (And.intro z_cel51 z_byt51) (And.intro z_zer51 z_stt52)))) (And.intro (And.intro (And.intro (And.intro z_has52 z_agg52) (And.intro z_cel52 z_byt52)) (And.intro (And.intro z_off52_0 z_fld52_0) (And.intro z_off52_1 z_fld52_1))) (And.intro (And.intro (And.intro z_zer52 z_eqT52) (And.intro z_has53 z_agg53)) (And.intro (And.intro z_cel53 z_byt53) (And.intro z_fun54 z_has54))))))) (And.intro (And.intro (And.intro (And.intro (And.intro (And.intro z_agg54 (And.intro z_cel54 z_byt54)) (And.intro (And.intro z_zer54 z_has55) (And.intro z_nst55 z_agg55))) (And.intro (And.intro (And.intro z_elm55 z_cel55) (And.intro z_byt55 z_zer55)) (And.intro (And.intro z_has56 z_agg56) (And.intro z_cel56 z_byt56)))) (And.intro (And.intro (And.intro z_fun57 (And.intro z_has57 z_agg57)) (And.intro (And.intro z_cel57 z_byt57) (And.intro z_zer57 z_fun58))) (And.intro (And.intro (And.intro z_has58 z_agg58) (And.intro z_cel58 z_byt58)) (And.intro (And.intro z_zer58 z_has59) (And.intro z_nst59 z_agg59))))) (And.intro (And.intro (And.intro (And.intro z_elm59 (And.intro z_cel59 z_byt59)) (And.intro (And.intro z_zer59 z_fun60) (And.intro z_has60 z_agg60))) (And.intro (And.intro (And.intro z_cel60 z_byt60) (And.intro z_zer60 z_fun61)) (And.intro (And.intro z_has61 z_agg61) (And.intro z_cel61 z_byt61)))) (And.intro (And.intro (And.intro (And.intro z_zer61 z_fun62) (And.intro z_has62 z_agg62)) (And.intro (And.intro z_cel62 z_byt62) (And.intro z_zer62 z_fun63))) (And.intro (And.intro (And.intro z_has63 z_agg63) (And.intro z_cel63 z_byt63)) (And.intro (And.intro z_zer63 z_has64) (And.intro z_agg64 z_cel64)))))) (And.intro (And.intro (And.intro (And.intro (And.intro z_byt64 (And.intro z_fun65 z_has65)) (And.intro (And.intro z_agg65 z_cel65) (And.intro z_byt65 z_zer65))) (And.intro (And.intro (And.intro z_fun66 z_has66) (And.intro z_agg66 z_cel66)) (And.intro (And.intro z_byt66 z_zer66) (And.intro z_fun67 z_has67)))) (And.intro (And.intro (And.intro z_agg67 (And.intro z_cel67 z_byt67)) (And.intro (And.intro z_zer67 z_fun68) (And.intro z_has68 z_agg68))) (And.intro (And.intro (And.intro z_cel68 z_byt68) (And.intro z_zer68 z_fun69)) (And.intro (And.intro z_has69 z_agg69) (And.intro z_cel69 z_byt69))))) (And.intro (And.intro (And.intro (And.intro z_zer69 (And.intro z_fun70 z_has70)) (And.intro (And.intro z_agg70 z_cel70) (And.intro z_byt70 z_zer70))) (And.intro (And.intro (And.intro z_fun71 z_has71) (And.intro z_agg71 z_cel71)) (And.intro (And.intro z_byt71 z_zer71) (And.intro z_fun72 z_has72)))) (And.intro (And.intro (And.intro (And.intro z_agg72 z_cel72) (And.intro z_byt72 z_zer72)) (And.intro (And.intro z_fun73 z_has73) (And.intro z_agg73 z_cel73))) (And.intro (And.intro (And.intro z_byt73 z_zer73) (And.intro z_fun74 z_has74)) (And.intro (And.intro z_agg74 z_cel74) (And.intro z_byt74 z_zer74)))))))))
end Go.Pw

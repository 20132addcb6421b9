/- Facts about the seat's types. -/
import Derived.Test.YtjbfdbbmgbekiaaDoorProg
import Derived.Test.YtjbfdbbmgbekiaaDoorPwZa
set_option linter.unusedSimpArgs false
set_option linter.unusedVariables false
set_option linter.unusedSectionVars false
namespace Go.Pw
open Go.Proofs
set_option maxRecDepth 4000
theorem z_has0 : hasT Tryd.prog 0 = true := by kernel_rfl
theorem z_agg0 : aggT Tryd.prog 0 = false := by kernel_rfl
theorem z_cel0 : Program.cellsOf Tryd.prog 0 = 1 := by kernel_rfl
theorem z_byt0 : Program.bytesOf Tryd.prog 0 = 0 := by kernel_rfl
theorem z_fun1 : funT Tryd.prog 1 = true := by kernel_rfl
theorem z_has1 : hasT Tryd.prog 1 = true := by kernel_rfl
theorem z_agg1 : aggT Tryd.prog 1 = false := by kernel_rfl
theorem z_cel1 : Program.cellsOf Tryd.prog 1 = 1 := by kernel_rfl
theorem z_byt1 : Program.bytesOf Tryd.prog 1 = 8 := by kernel_rfl
theorem z_zer1 : zeroA Tryd.prog 1 = some [.pv (.raw (.nilFunc))] := by kernel_rfl
theorem z_has2 : hasT Tryd.prog 2 = true := by kernel_rfl
theorem z_agg2 : aggT Tryd.prog 2 = false := by kernel_rfl
theorem z_int2 : intT Tryd.prog 2 = some .i64 := by kernel_rfl
theorem z_cel2 : Program.cellsOf Tryd.prog 2 = 1 := by kernel_rfl
theorem z_byt2 : Program.bytesOf Tryd.prog 2 = 8 := by kernel_rfl
theorem z_zer2 : zeroA Tryd.prog 2 = some [.pv (.int .i64 0)] := by kernel_rfl
theorem z_has3 : hasT Tryd.prog 3 = true := by kernel_rfl
theorem z_agg3 : aggT Tryd.prog 3 = false := by kernel_rfl
theorem z_int3 : intT Tryd.prog 3 = some .i64 := by kernel_rfl
theorem z_cel3 : Program.cellsOf Tryd.prog 3 = 1 := by kernel_rfl
theorem z_byt3 : Program.bytesOf Tryd.prog 3 = 8 := by kernel_rfl
theorem z_zer3 : zeroA Tryd.prog 3 = some [.pv (.int .i64 0)] := by kernel_rfl
theorem z_boo4 : boolT Tryd.prog 4 = true := by kernel_rfl
theorem z_has4 : hasT Tryd.prog 4 = true := by kernel_rfl
theorem z_agg4 : aggT Tryd.prog 4 = false := by kernel_rfl
theorem z_cel4 : Program.cellsOf Tryd.prog 4 = 1 := by kernel_rfl
theorem z_byt4 : Program.bytesOf Tryd.prog 4 = 1 := by kernel_rfl
theorem z_zer4 : zeroA Tryd.prog 4 = some [.pv (.bool false)] := by kernel_rfl
theorem z_has5 : hasT Tryd.prog 5 = true := by kernel_rfl
theorem z_agg5 : aggT Tryd.prog 5 = false := by kernel_rfl
theorem z_int5 : intT Tryd.prog 5 = some .u8 := by kernel_rfl
theorem z_cel5 : Program.cellsOf Tryd.prog 5 = 1 := by kernel_rfl
theorem z_byt5 : Program.bytesOf Tryd.prog 5 = 1 := by kernel_rfl
theorem z_zer5 : zeroA Tryd.prog 5 = some [.pv (.int .u8 0)] := by kernel_rfl
theorem z_has6 : hasT Tryd.prog 6 = true := by kernel_rfl
theorem z_agg6 : aggT Tryd.prog 6 = false := by kernel_rfl
theorem z_int6 : intT Tryd.prog 6 = some .u8 := by kernel_rfl
theorem z_cel6 : Program.cellsOf Tryd.prog 6 = 1 := by kernel_rfl
theorem z_byt6 : Program.bytesOf Tryd.prog 6 = 1 := by kernel_rfl
theorem z_zer6 : zeroA Tryd.prog 6 = some [.pv (.int .u8 0)] := by kernel_rfl
theorem z_stt7 : stT Tryd.prog 7 = true := by kernel_rfl
theorem z_has7 : hasT Tryd.prog 7 = true := by kernel_rfl
theorem z_agg7 : aggT Tryd.prog 7 = true := by kernel_rfl
theorem z_cel7 : Program.cellsOf Tryd.prog 7 = 4 := by kernel_rfl
theorem z_byt7 : Program.bytesOf Tryd.prog 7 = 24 := by kernel_rfl
theorem z_off7_0 : offT Tryd.prog 7 0 = some 0 := by kernel_rfl
theorem z_fld7_0 : fldT Tryd.prog 7 0 = some 2 := by kernel_rfl
theorem z_off7_1 : offT Tryd.prog 7 1 = some 1 := by kernel_rfl
theorem z_fld7_1 : fldT Tryd.prog 7 1 = some 3 := by kernel_rfl
theorem z_off7_2 : offT Tryd.prog 7 2 = some 2 := by kernel_rfl
theorem z_fld7_2 : fldT Tryd.prog 7 2 = some 4 := by kernel_rfl
theorem z_off7_3 : offT Tryd.prog 7 3 = some 3 := by kernel_rfl
theorem z_fld7_3 : fldT Tryd.prog 7 3 = some 6 := by kernel_rfl
theorem z_zer7 : zeroA Tryd.prog 7 = some [.pv (.int .i64 0), .pv (.int .i64 0), .pv (.bool false), .pv (.int .u8 0)] := by kernel_rfl
theorem z_eqT7 : eqT Tryd.prog 7 = some [(0, 2), (1, 3), (2, 4), (3, 6)] := by kernel_rfl
theorem z_stt8 : stT Tryd.prog 8 = true := by kernel_rfl
theorem z_has8 : hasT Tryd.prog 8 = true := by kernel_rfl
theorem z_agg8 : aggT Tryd.prog 8 = true := by kernel_rfl
theorem z_cel8 : Program.cellsOf Tryd.prog 8 = 4 := by kernel_rfl
theorem z_byt8 : Program.bytesOf Tryd.prog 8 = 24 := by kernel_rfl
theorem z_off8_0 : offT Tryd.prog 8 0 = some 0 := by kernel_rfl
theorem z_fld8_0 : fldT Tryd.prog 8 0 = some 2 := by kernel_rfl
theorem z_off8_1 : offT Tryd.prog 8 1 = some 1 := by kernel_rfl
theorem z_fld8_1 : fldT Tryd.prog 8 1 = some 3 := by kernel_rfl
theorem z_off8_2 : offT Tryd.prog 8 2 = some 2 := by kernel_rfl
theorem z_fld8_2 : fldT Tryd.prog 8 2 = some 4 := by kernel_rfl
theorem z_off8_3 : offT Tryd.prog 8 3 = some 3 := by kernel_rfl
theorem z_fld8_3 : fldT Tryd.prog 8 3 = some 6 := by kernel_rfl
theorem z_zer8 : zeroA Tryd.prog 8 = some [.pv (.int .i64 0), .pv (.int .i64 0), .pv (.bool false), .pv (.int .u8 0)] := by kernel_rfl
theorem z_eqT8 : eqT Tryd.prog 8 = some [(0, 2), (1, 3), (2, 4), (3, 6)] := by kernel_rfl
theorem z_str9 : strT Tryd.prog 9 = true := by kernel_rfl
theorem z_has9 : hasT Tryd.prog 9 = true := by kernel_rfl
theorem z_agg9 : aggT Tryd.prog 9 = false := by kernel_rfl
theorem z_cel9 : Program.cellsOf Tryd.prog 9 = 1 := by kernel_rfl
theorem z_byt9 : Program.bytesOf Tryd.prog 9 = 16 := by kernel_rfl
theorem z_zer9 : zeroA Tryd.prog 9 = some [.pv (.str [])] := by kernel_rfl
theorem z_str10 : strT Tryd.prog 10 = true := by kernel_rfl
theorem z_has10 : hasT Tryd.prog 10 = true := by kernel_rfl
theorem z_agg10 : aggT Tryd.prog 10 = false := by kernel_rfl
theorem z_cel10 : Program.cellsOf Tryd.prog 10 = 1 := by kernel_rfl
theorem z_byt10 : Program.bytesOf Tryd.prog 10 = 16 := by kernel_rfl
theorem z_zer10 : zeroA Tryd.prog 10 = some [.pv (.str [])] := by kernel_rfl
theorem z_str11 : strT Tryd.prog 11 = true := by kernel_rfl
theorem z_has11 : hasT Tryd.prog 11 = true := by kernel_rfl
theorem z_agg11 : aggT Tryd.prog 11 = false := by kernel_rfl
theorem z_cel11 : Program.cellsOf Tryd.prog 11 = 1 := by kernel_rfl
theorem z_byt11 : Program.bytesOf Tryd.prog 11 = 16 := by kernel_rfl
theorem z_zer11 : zeroA Tryd.prog 11 = some [.pv (.str [])] := by kernel_rfl
theorem z_has12 : hasT Tryd.prog 12 = true := by kernel_rfl
theorem z_agg12 : aggT Tryd.prog 12 = false := by kernel_rfl
theorem z_int12 : intT Tryd.prog 12 = some .u64 := by kernel_rfl
theorem z_cel12 : Program.cellsOf Tryd.prog 12 = 1 := by kernel_rfl
theorem z_byt12 : Program.bytesOf Tryd.prog 12 = 8 := by kernel_rfl
theorem z_zer12 : zeroA Tryd.prog 12 = some [.pv (.int .u64 0)] := by kernel_rfl
theorem z_stt13 : stT Tryd.prog 13 = true := by kernel_rfl
theorem z_has13 : hasT Tryd.prog 13 = true := by kernel_rfl
theorem z_agg13 : aggT Tryd.prog 13 = true := by kernel_rfl
theorem z_cel13 : Program.cellsOf Tryd.prog 13 = 2 := by kernel_rfl
theorem z_byt13 : Program.bytesOf Tryd.prog 13 = 24 := by kernel_rfl
theorem z_off13_0 : offT Tryd.prog 13 0 = some 0 := by kernel_rfl
theorem z_fld13_0 : fldT Tryd.prog 13 0 = some 9 := by kernel_rfl
theorem z_off13_1 : offT Tryd.prog 13 1 = some 1 := by kernel_rfl
theorem z_fld13_1 : fldT Tryd.prog 13 1 = some 12 := by kernel_rfl
theorem z_zer13 : zeroA Tryd.prog 13 = some [.pv (.str []), .pv (.int .u64 0)] := by kernel_rfl
theorem z_stt14 : stT Tryd.prog 14 = true := by kernel_rfl
theorem z_has14 : hasT Tryd.prog 14 = true := by kernel_rfl
theorem z_agg14 : aggT Tryd.prog 14 = true := by kernel_rfl
theorem z_cel14 : Program.cellsOf Tryd.prog 14 = 2 := by kernel_rfl
theorem z_byt14 : Program.bytesOf Tryd.prog 14 = 24 := by kernel_rfl
theorem z_off14_0 : offT Tryd.prog 14 0 = some 0 := by kernel_rfl
theorem z_fld14_0 : fldT Tryd.prog 14 0 = some 9 := by kernel_rfl
theorem z_off14_1 : offT Tryd.prog 14 1 = some 1 := by kernel_rfl
theorem z_fld14_1 : fldT Tryd.prog 14 1 = some 12 := by kernel_rfl
theorem z_zer14 : zeroA Tryd.prog 14 = some [.pv (.str []), .pv (.int .u64 0)] := by kernel_rfl
theorem z_ptr15 : ptrT Tryd.prog 15 = true := by kernel_rfl
theorem z_has15 : hasT Tryd.prog 15 = true := by kernel_rfl
theorem z_agg15 : aggT Tryd.prog 15 = false := by kernel_rfl
theorem z_cel15 : Program.cellsOf Tryd.prog 15 = 1 := by kernel_rfl
theorem z_byt15 : Program.bytesOf Tryd.prog 15 = 8 := by kernel_rfl
theorem z_zer15 : zeroA Tryd.prog 15 = some [.pv (.raw (.pointer none))] := by kernel_rfl
theorem z_ptr16 : ptrT Tryd.prog 16 = true := by kernel_rfl
theorem z_has16 : hasT Tryd.prog 16 = true := by kernel_rfl
theorem z_agg16 : aggT Tryd.prog 16 = false := by kernel_rfl
theorem z_cel16 : Program.cellsOf Tryd.prog 16 = 1 := by kernel_rfl
theorem z_byt16 : Program.bytesOf Tryd.prog 16 = 8 := by kernel_rfl
theorem z_zer16 : zeroA Tryd.prog 16 = some [.pv (.raw (.pointer none))] := by kernel_rfl
theorem z_ptr17 : ptrT Tryd.prog 17 = true := by kernel_rfl
theorem z_has17 : hasT Tryd.prog 17 = true := by kernel_rfl
theorem z_agg17 : aggT Tryd.prog 17 = false := by kernel_rfl
theorem z_cel17 : Program.cellsOf Tryd.prog 17 = 1 := by kernel_rfl
theorem z_byt17 : Program.bytesOf Tryd.prog 17 = 8 := by kernel_rfl
theorem z_zer17 : zeroA Tryd.prog 17 = some [.pv (.raw (.pointer none))] := by kernel_rfl
theorem z_stt18 : stT Tryd.prog 18 = true := by kernel_rfl
theorem z_has18 : hasT Tryd.prog 18 = true := by kernel_rfl
theorem z_agg18 : aggT Tryd.prog 18 = true := by kernel_rfl
theorem z_cel18 : Program.cellsOf Tryd.prog 18 = 1 := by kernel_rfl
theorem z_byt18 : Program.bytesOf Tryd.prog 18 = 8 := by kernel_rfl
theorem z_off18_0 : offT Tryd.prog 18 0 = some 0 := by kernel_rfl
theorem z_fld18_0 : fldT Tryd.prog 18 0 = some 17 := by kernel_rfl
theorem z_zer18 : zeroA Tryd.prog 18 = some [.pv (.raw (.pointer none))] := by kernel_rfl
theorem z_stt19 : stT Tryd.prog 19 = true := by kernel_rfl
theorem z_has19 : hasT Tryd.prog 19 = true := by kernel_rfl
theorem z_agg19 : aggT Tryd.prog 19 = true := by kernel_rfl
theorem z_cel19 : Program.cellsOf Tryd.prog 19 = 1 := by kernel_rfl
theorem z_byt19 : Program.bytesOf Tryd.prog 19 = 8 := by kernel_rfl
theorem z_off19_0 : offT Tryd.prog 19 0 = some 0 := by kernel_rfl
theorem z_fld19_0 : fldT Tryd.prog 19 0 = some 17 := by kernel_rfl
theorem z_zer19 : zeroA Tryd.prog 19 = some [.pv (.raw (.pointer none))] := by kernel_rfl
theorem z_has20 : hasT Tryd.prog 20 = true := by kernel_rfl
theorem z_agg20 : aggT Tryd.prog 20 = false := by kernel_rfl
theorem z_cel20 : Program.cellsOf Tryd.prog 20 = 1 := by kernel_rfl
theorem z_byt20 : Program.bytesOf Tryd.prog 20 = 16 := by kernel_rfl
theorem z_zer20 : zeroA Tryd.prog 20 = some [.pv (.raw (.nilIface))] := by kernel_rfl
theorem z_has21 : hasT Tryd.prog 21 = true := by kernel_rfl
theorem z_agg21 : aggT Tryd.prog 21 = false := by kernel_rfl
theorem z_int21 : intT Tryd.prog 21 = some .i32 := by kernel_rfl
theorem z_cel21 : Program.cellsOf Tryd.prog 21 = 1 := by kernel_rfl
theorem z_byt21 : Program.bytesOf Tryd.prog 21 = 4 := by kernel_rfl
theorem z_zer21 : zeroA Tryd.prog 21 = some [.pv (.int .i32 0)] := by kernel_rfl
theorem z_has22 : hasT Tryd.prog 22 = true := by kernel_rfl
theorem z_nst22 : strT Tryd.prog 22 = false := by kernel_rfl
theorem z_agg22 : aggT Tryd.prog 22 = false := by kernel_rfl
theorem z_elm22 : elemT Tryd.prog 22 = some 5 := by kernel_rfl
theorem z_cel22 : Program.cellsOf Tryd.prog 22 = 1 := by kernel_rfl
theorem z_byt22 : Program.bytesOf Tryd.prog 22 = 24 := by kernel_rfl
theorem z_zer22 : zeroA Tryd.prog 22 = some [.emp] := by kernel_rfl
theorem z_has23 : hasT Tryd.prog 23 = true := by kernel_rfl
theorem z_nst23 : strT Tryd.prog 23 = false := by kernel_rfl
theorem z_agg23 : aggT Tryd.prog 23 = false := by kernel_rfl
theorem z_elm23 : elemT Tryd.prog 23 = some 53 := by kernel_rfl
theorem z_cel23 : Program.cellsOf Tryd.prog 23 = 1 := by kernel_rfl
theorem z_byt23 : Program.bytesOf Tryd.prog 23 = 24 := by kernel_rfl
theorem z_zer23 : zeroA Tryd.prog 23 = some [.emp] := by kernel_rfl
theorem z_stt24 : stT Tryd.prog 24 = true := by kernel_rfl
theorem z_has24 : hasT Tryd.prog 24 = true := by kernel_rfl
theorem z_agg24 : aggT Tryd.prog 24 = true := by kernel_rfl
theorem z_cel24 : Program.cellsOf Tryd.prog 24 = 1 := by kernel_rfl
theorem z_byt24 : Program.bytesOf Tryd.prog 24 = 24 := by kernel_rfl
theorem z_off24_0 : offT Tryd.prog 24 0 = some 0 := by kernel_rfl
theorem z_fld24_0 : fldT Tryd.prog 24 0 = some 23 := by kernel_rfl
theorem z_zer24 : zeroA Tryd.prog 24 = some [.emp] := by kernel_rfl
theorem z_eqT24 : eqT Tryd.prog 24 = some [(0, 23)] := by kernel_rfl
theorem z_stt25 : stT Tryd.prog 25 = true := by kernel_rfl
theorem z_has25 : hasT Tryd.prog 25 = true := by kernel_rfl
theorem z_agg25 : aggT Tryd.prog 25 = true := by kernel_rfl
theorem z_cel25 : Program.cellsOf Tryd.prog 25 = 1 := by kernel_rfl
theorem z_byt25 : Program.bytesOf Tryd.prog 25 = 24 := by kernel_rfl
theorem z_off25_0 : offT Tryd.prog 25 0 = some 0 := by kernel_rfl
theorem z_fld25_0 : fldT Tryd.prog 25 0 = some 23 := by kernel_rfl
theorem z_zer25 : zeroA Tryd.prog 25 = some [.emp] := by kernel_rfl
theorem z_eqT25 : eqT Tryd.prog 25 = some [(0, 23)] := by kernel_rfl
theorem z_has26 : hasT Tryd.prog 26 = true := by kernel_rfl
theorem z_agg26 : aggT Tryd.prog 26 = false := by kernel_rfl
theorem z_int26 : intT Tryd.prog 26 = some .i64 := by kernel_rfl
theorem z_cel26 : Program.cellsOf Tryd.prog 26 = 1 := by kernel_rfl
theorem z_byt26 : Program.bytesOf Tryd.prog 26 = 8 := by kernel_rfl
theorem z_zer26 : zeroA Tryd.prog 26 = some [.pv (.int .i64 0)] := by kernel_rfl
theorem z_has27 : hasT Tryd.prog 27 = true := by kernel_rfl
theorem z_agg27 : aggT Tryd.prog 27 = false := by kernel_rfl
theorem z_cel27 : Program.cellsOf Tryd.prog 27 = 1 := by kernel_rfl
theorem z_byt27 : Program.bytesOf Tryd.prog 27 = 0 := by kernel_rfl
theorem z_fun28 : funT Tryd.prog 28 = true := by kernel_rfl
theorem z_has28 : hasT Tryd.prog 28 = true := by kernel_rfl
theorem z_agg28 : aggT Tryd.prog 28 = false := by kernel_rfl
theorem z_cel28 : Program.cellsOf Tryd.prog 28 = 1 := by kernel_rfl
theorem z_byt28 : Program.bytesOf Tryd.prog 28 = 8 := by kernel_rfl
theorem z_zer28 : zeroA Tryd.prog 28 = some [.pv (.raw (.nilFunc))] := by kernel_rfl
theorem z_has29 : hasT Tryd.prog 29 = true := by kernel_rfl
theorem z_nst29 : strT Tryd.prog 29 = false := by kernel_rfl
theorem z_agg29 : aggT Tryd.prog 29 = false := by kernel_rfl
theorem z_elm29 : elemT Tryd.prog 29 = some 55 := by kernel_rfl
theorem z_cel29 : Program.cellsOf Tryd.prog 29 = 1 := by kernel_rfl
theorem z_byt29 : Program.bytesOf Tryd.prog 29 = 24 := by kernel_rfl
theorem z_zer29 : zeroA Tryd.prog 29 = some [.emp] := by kernel_rfl
theorem z_has30 : hasT Tryd.prog 30 = true := by kernel_rfl
theorem z_agg30 : aggT Tryd.prog 30 = false := by kernel_rfl
theorem z_cel30 : Program.cellsOf Tryd.prog 30 = 1 := by kernel_rfl
theorem z_byt30 : Program.bytesOf Tryd.prog 30 = 0 := by kernel_rfl
theorem z_fun31 : funT Tryd.prog 31 = true := by kernel_rfl
theorem z_has31 : hasT Tryd.prog 31 = true := by kernel_rfl
theorem z_agg31 : aggT Tryd.prog 31 = false := by kernel_rfl
theorem z_cel31 : Program.cellsOf Tryd.prog 31 = 1 := by kernel_rfl
theorem z_byt31 : Program.bytesOf Tryd.prog 31 = 8 := by kernel_rfl
theorem z_zer31 : zeroA Tryd.prog 31 = some [.pv (.raw (.nilFunc))] := by kernel_rfl
theorem z_fun32 : funT Tryd.prog 32 = true := by kernel_rfl
theorem z_has32 : hasT Tryd.prog 32 = true := by kernel_rfl
theorem z_agg32 : aggT Tryd.prog 32 = false := by kernel_rfl
theorem z_cel32 : Program.cellsOf Tryd.prog 32 = 1 := by kernel_rfl
theorem z_byt32 : Program.bytesOf Tryd.prog 32 = 8 := by kernel_rfl
theorem z_zer32 : zeroA Tryd.prog 32 = some [.pv (.raw (.nilFunc))] := by kernel_rfl
theorem z_fun33 : funT Tryd.prog 33 = true := by kernel_rfl
theorem z_has33 : hasT Tryd.prog 33 = true := by kernel_rfl
theorem z_agg33 : aggT Tryd.prog 33 = false := by kernel_rfl
theorem z_cel33 : Program.cellsOf Tryd.prog 33 = 1 := by kernel_rfl
theorem z_byt33 : Program.bytesOf Tryd.prog 33 = 8 := by kernel_rfl
theorem z_zer33 : zeroA Tryd.prog 33 = some [.pv (.raw (.nilFunc))] := by kernel_rfl
theorem z_fun34 : funT Tryd.prog 34 = true := by kernel_rfl
theorem z_has34 : hasT Tryd.prog 34 = true := by kernel_rfl
theorem z_agg34 : aggT Tryd.prog 34 = false := by kernel_rfl
theorem z_cel34 : Program.cellsOf Tryd.prog 34 = 1 := by kernel_rfl
theorem z_byt34 : Program.bytesOf Tryd.prog 34 = 8 := by kernel_rfl
theorem z_zer34 : zeroA Tryd.prog 34 = some [.pv (.raw (.nilFunc))] := by kernel_rfl
theorem z_has35 : hasT Tryd.prog 35 = true := by kernel_rfl
theorem z_agg35 : aggT Tryd.prog 35 = false := by kernel_rfl
theorem z_cel35 : Program.cellsOf Tryd.prog 35 = 1 := by kernel_rfl
theorem z_byt35 : Program.bytesOf Tryd.prog 35 = 0 := by kernel_rfl
theorem z_fun36 : funT Tryd.prog 36 = true := by kernel_rfl
theorem z_has36 : hasT Tryd.prog 36 = true := by kernel_rfl
theorem z_agg36 : aggT Tryd.prog 36 = false := by kernel_rfl
theorem z_cel36 : Program.cellsOf Tryd.prog 36 = 1 := by kernel_rfl
theorem z_byt36 : Program.bytesOf Tryd.prog 36 = 8 := by kernel_rfl
theorem z_zer36 : zeroA Tryd.prog 36 = some [.pv (.raw (.nilFunc))] := by kernel_rfl
theorem z_fun37 : funT Tryd.prog 37 = true := by kernel_rfl
theorem z_has37 : hasT Tryd.prog 37 = true := by kernel_rfl
theorem z_agg37 : aggT Tryd.prog 37 = false := by kernel_rfl
theorem z_cel37 : Program.cellsOf Tryd.prog 37 = 1 := by kernel_rfl
theorem z_byt37 : Program.bytesOf Tryd.prog 37 = 8 := by kernel_rfl
theorem z_zer37 : zeroA Tryd.prog 37 = some [.pv (.raw (.nilFunc))] := by kernel_rfl
theorem z_fun38 : funT Tryd.prog 38 = true := by kernel_rfl
theorem z_has38 : hasT Tryd.prog 38 = true := by kernel_rfl
theorem z_agg38 : aggT Tryd.prog 38 = false := by kernel_rfl
theorem z_cel38 : Program.cellsOf Tryd.prog 38 = 1 := by kernel_rfl
theorem z_byt38 : Program.bytesOf Tryd.prog 38 = 8 := by kernel_rfl
theorem z_zer38 : zeroA Tryd.prog 38 = some [.pv (.raw (.nilFunc))] := by kernel_rfl
theorem z_fun39 : funT Tryd.prog 39 = true := by kernel_rfl
theorem z_has39 : hasT Tryd.prog 39 = true := by kernel_rfl
theorem z_agg39 : aggT Tryd.prog 39 = false := by kernel_rfl
theorem z_cel39 : Program.cellsOf Tryd.prog 39 = 1 := by kernel_rfl
theorem z_byt39 : Program.bytesOf Tryd.prog 39 = 8 := by kernel_rfl
theorem z_zer39 : zeroA Tryd.prog 39 = some [.pv (.raw (.nilFunc))] := by kernel_rfl
theorem z_has40 : hasT Tryd.prog 40 = true := by kernel_rfl
theorem z_nst40 : strT Tryd.prog 40 = false := by kernel_rfl
theorem z_agg40 : aggT Tryd.prog 40 = false := by kernel_rfl
theorem z_elm40 : elemT Tryd.prog 40 = some 3 := by kernel_rfl
theorem z_cel40 : Program.cellsOf Tryd.prog 40 = 1 := by kernel_rfl
theorem z_byt40 : Program.bytesOf Tryd.prog 40 = 24 := by kernel_rfl
theorem z_zer40 : zeroA Tryd.prog 40 = some [.emp] := by kernel_rfl
theorem z_has41 : hasT Tryd.prog 41 = true := by kernel_rfl
theorem z_agg41 : aggT Tryd.prog 41 = false := by kernel_rfl
theorem z_cel41 : Program.cellsOf Tryd.prog 41 = 1 := by kernel_rfl
theorem z_byt41 : Program.bytesOf Tryd.prog 41 = 0 := by kernel_rfl
theorem z_fun42 : funT Tryd.prog 42 = true := by kernel_rfl
theorem z_has42 : hasT Tryd.prog 42 = true := by kernel_rfl
theorem z_agg42 : aggT Tryd.prog 42 = false := by kernel_rfl
theorem z_cel42 : Program.cellsOf Tryd.prog 42 = 1 := by kernel_rfl
theorem z_byt42 : Program.bytesOf Tryd.prog 42 = 8 := by kernel_rfl
theorem z_zer42 : zeroA Tryd.prog 42 = some [.pv (.raw (.nilFunc))] := by kernel_rfl
theorem z_has43 : hasT Tryd.prog 43 = true := by kernel_rfl
theorem z_agg43 : aggT Tryd.prog 43 = false := by kernel_rfl
theorem z_cel43 : Program.cellsOf Tryd.prog 43 = 1 := by kernel_rfl
theorem z_byt43 : Program.bytesOf Tryd.prog 43 = 0 := by kernel_rfl
theorem z_fun44 : funT Tryd.prog 44 = true := by kernel_rfl
theorem z_has44 : hasT Tryd.prog 44 = true := by kernel_rfl
theorem z_agg44 : aggT Tryd.prog 44 = false := by kernel_rfl
theorem z_cel44 : Program.cellsOf Tryd.prog 44 = 1 := by kernel_rfl
theorem z_byt44 : Program.bytesOf Tryd.prog 44 = 8 := by kernel_rfl
theorem z_zer44 : zeroA Tryd.prog 44 = some [.pv (.raw (.nilFunc))] := by kernel_rfl
theorem z_fun45 : funT Tryd.prog 45 = true := by kernel_rfl
theorem z_has45 : hasT Tryd.prog 45 = true := by kernel_rfl
theorem z_agg45 : aggT Tryd.prog 45 = false := by kernel_rfl
theorem z_cel45 : Program.cellsOf Tryd.prog 45 = 1 := by kernel_rfl
theorem z_byt45 : Program.bytesOf Tryd.prog 45 = 8 := by kernel_rfl
theorem z_zer45 : zeroA Tryd.prog 45 = some [.pv (.raw (.nilFunc))] := by kernel_rfl
theorem z_has46 : hasT Tryd.prog 46 = true := by kernel_rfl
theorem z_agg46 : aggT Tryd.prog 46 = false := by kernel_rfl
theorem z_cel46 : Program.cellsOf Tryd.prog 46 = 1 := by kernel_rfl
theorem z_byt46 : Program.bytesOf Tryd.prog 46 = 0 := by kernel_rfl
theorem z_fun47 : funT Tryd.prog 47 = true := by kernel_rfl
theorem z_has47 : hasT Tryd.prog 47 = true := by kernel_rfl
theorem z_agg47 : aggT Tryd.prog 47 = false := by kernel_rfl
theorem z_cel47 : Program.cellsOf Tryd.prog 47 = 1 := by kernel_rfl
theorem z_byt47 : Program.bytesOf Tryd.prog 47 = 8 := by kernel_rfl
theorem z_zer47 : zeroA Tryd.prog 47 = some [.pv (.raw (.nilFunc))] := by kernel_rfl
theorem z_fun48 : funT Tryd.prog 48 = true := by kernel_rfl
theorem z_has48 : hasT Tryd.prog 48 = true := by kernel_rfl
theorem z_agg48 : aggT Tryd.prog 48 = false := by kernel_rfl
theorem z_cel48 : Program.cellsOf Tryd.prog 48 = 1 := by kernel_rfl
theorem z_byt48 : Program.bytesOf Tryd.prog 48 = 8 := by kernel_rfl
theorem z_zer48 : zeroA Tryd.prog 48 = some [.pv (.raw (.nilFunc))] := by kernel_rfl
theorem z_fun49 : funT Tryd.prog 49 = true := by kernel_rfl
theorem z_has49 : hasT Tryd.prog 49 = true := by kernel_rfl
theorem z_agg49 : aggT Tryd.prog 49 = false := by kernel_rfl
theorem z_cel49 : Program.cellsOf Tryd.prog 49 = 1 := by kernel_rfl
theorem z_byt49 : Program.bytesOf Tryd.prog 49 = 8 := by kernel_rfl
theorem z_zer49 : zeroA Tryd.prog 49 = some [.pv (.raw (.nilFunc))] := by kernel_rfl
theorem z_fun50 : funT Tryd.prog 50 = true := by kernel_rfl
theorem z_has50 : hasT Tryd.prog 50 = true := by kernel_rfl
theorem z_agg50 : aggT Tryd.prog 50 = false := by kernel_rfl
theorem z_cel50 : Program.cellsOf Tryd.prog 50 = 1 := by kernel_rfl
theorem z_byt50 : Program.bytesOf Tryd.prog 50 = 8 := by kernel_rfl
theorem z_zer50 : zeroA Tryd.prog 50 = some [.pv (.raw (.nilFunc))] := by kernel_rfl
theorem z_fun51 : funT Tryd.prog 51 = true := by kernel_rfl
theorem z_has51 : hasT Tryd.prog 51 = true := by kernel_rfl
theorem z_agg51 : aggT Tryd.prog 51 = false := by kernel_rfl
theorem z_cel51 : Program.cellsOf Tryd.prog 51 = 1 := by kernel_rfl
theorem z_byt51 : Program.bytesOf Tryd.prog 51 = 8 := by kernel_rfl
theorem z_zer51 : zeroA Tryd.prog 51 = some [.pv (.raw (.nilFunc))] := by kernel_rfl
theorem z_stt52 : stT Tryd.prog 52 = true := by kernel_rfl
theorem z_has52 : hasT Tryd.prog 52 = true := by kernel_rfl
theorem z_agg52 : aggT Tryd.prog 52 = true := by kernel_rfl
theorem z_cel52 : Program.cellsOf Tryd.prog 52 = 2 := by kernel_rfl
theorem z_byt52 : Program.bytesOf Tryd.prog 52 = 16 := by kernel_rfl
theorem z_off52_0 : offT Tryd.prog 52 0 = some 0 := by kernel_rfl
theorem z_fld52_0 : fldT Tryd.prog 52 0 = some 3 := by kernel_rfl
theorem z_off52_1 : offT Tryd.prog 52 1 = some 1 := by kernel_rfl
theorem z_fld52_1 : fldT Tryd.prog 52 1 = some 3 := by kernel_rfl
theorem z_zer52 : zeroA Tryd.prog 52 = some [.pv (.int .i64 0), .pv (.int .i64 0)] := by kernel_rfl
theorem z_eqT52 : eqT Tryd.prog 52 = some [(0, 3), (1, 3)] := by kernel_rfl
theorem z_stt53 : stT Tryd.prog 53 = true := by kernel_rfl
theorem z_has53 : hasT Tryd.prog 53 = true := by kernel_rfl
theorem z_agg53 : aggT Tryd.prog 53 = true := by kernel_rfl
theorem z_cel53 : Program.cellsOf Tryd.prog 53 = 2 := by kernel_rfl
theorem z_byt53 : Program.bytesOf Tryd.prog 53 = 16 := by kernel_rfl
theorem z_off53_0 : offT Tryd.prog 53 0 = some 0 := by kernel_rfl
theorem z_fld53_0 : fldT Tryd.prog 53 0 = some 3 := by kernel_rfl
theorem z_off53_1 : offT Tryd.prog 53 1 = some 1 := by kernel_rfl
theorem z_fld53_1 : fldT Tryd.prog 53 1 = some 3 := by kernel_rfl
theorem z_zer53 : zeroA Tryd.prog 53 = some [.pv (.int .i64 0), .pv (.int .i64 0)] := by kernel_rfl
theorem z_eqT53 : eqT Tryd.prog 53 = some [(0, 3), (1, 3)] := by kernel_rfl
theorem z_fun54 : funT Tryd.prog 54 = true := by kernel_rfl
theorem z_has54 : hasT Tryd.prog 54 = true := by kernel_rfl
theorem z_agg54 : aggT Tryd.prog 54 = false := by kernel_rfl
theorem z_cel54 : Program.cellsOf Tryd.prog 54 = 1 := by kernel_rfl
theorem z_byt54 : Program.bytesOf Tryd.prog 54 = 8 := by kernel_rfl
theorem z_zer54 : zeroA Tryd.prog 54 = some [.pv (.raw (.nilFunc))] := by kernel_rfl
theorem z_stt55 : stT Tryd.prog 55 = true := by kernel_rfl
theorem z_has55 : hasT Tryd.prog 55 = true := by kernel_rfl
theorem z_agg55 : aggT Tryd.prog 55 = true := by kernel_rfl
theorem z_cel55 : Program.cellsOf Tryd.prog 55 = 2 := by kernel_rfl
theorem z_byt55 : Program.bytesOf Tryd.prog 55 = 16 := by kernel_rfl
theorem z_off55_0 : offT Tryd.prog 55 0 = some 0 := by kernel_rfl
theorem z_fld55_0 : fldT Tryd.prog 55 0 = some 3 := by kernel_rfl
theorem z_off55_1 : offT Tryd.prog 55 1 = some 1 := by kernel_rfl
theorem z_fld55_1 : fldT Tryd.prog 55 1 = some 3 := by kernel_rfl
theorem z_zer55 : zeroA Tryd.prog 55 = some [.pv (.int .i64 0), .pv (.int .i64 0)] := by kernel_rfl
theorem z_eqT55 : eqT Tryd.prog 55 = some [(0, 3), (1, 3)] := by kernel_rfl
theorem z_fun56 : funT Tryd.prog 56 = true := by kernel_rfl
theorem z_has56 : hasT Tryd.prog 56 = true := by kernel_rfl
theorem z_agg56 : aggT Tryd.prog 56 = false := by kernel_rfl
theorem z_cel56 : Program.cellsOf Tryd.prog 56 = 1 := by kernel_rfl
theorem z_byt56 : Program.bytesOf Tryd.prog 56 = 8 := by kernel_rfl
theorem z_zer56 : zeroA Tryd.prog 56 = some [.pv (.raw (.nilFunc))] := by kernel_rfl
theorem z_fun57 : funT Tryd.prog 57 = true := by kernel_rfl
theorem z_has57 : hasT Tryd.prog 57 = true := by kernel_rfl
theorem z_agg57 : aggT Tryd.prog 57 = false := by kernel_rfl
theorem z_cel57 : Program.cellsOf Tryd.prog 57 = 1 := by kernel_rfl
theorem z_byt57 : Program.bytesOf Tryd.prog 57 = 8 := by kernel_rfl
theorem z_zer57 : zeroA Tryd.prog 57 = some [.pv (.raw (.nilFunc))] := by kernel_rfl
theorem z_fun58 : funT Tryd.prog 58 = true := by kernel_rfl
theorem z_has58 : hasT Tryd.prog 58 = true := by kernel_rfl
theorem z_agg58 : aggT Tryd.prog 58 = false := by kernel_rfl
theorem z_cel58 : Program.cellsOf Tryd.prog 58 = 1 := by kernel_rfl
theorem z_byt58 : Program.bytesOf Tryd.prog 58 = 8 := by kernel_rfl
theorem z_zer58 : zeroA Tryd.prog 58 = some [.pv (.raw (.nilFunc))] := by kernel_rfl
theorem z_fun59 : funT Tryd.prog 59 = true := by kernel_rfl
theorem z_has59 : hasT Tryd.prog 59 = true := by kernel_rfl
theorem z_agg59 : aggT Tryd.prog 59 = false := by kernel_rfl
theorem z_cel59 : Program.cellsOf Tryd.prog 59 = 1 := by kernel_rfl
theorem z_byt59 : Program.bytesOf Tryd.prog 59 = 8 := by kernel_rfl
theorem z_zer59 : zeroA Tryd.prog 59 = some [.pv (.raw (.nilFunc))] := by kernel_rfl
theorem zf : type_of% (And.intro (And.intro (And.intro (And.intro (And.intro (And.intro (And.intro (And.intro z_has0 (And.intro z_agg0 z_cel0)) (And.intro z_byt0 (And.intro z_fun1 z_has1))) (And.intro (And.intro z_agg1 (And.intro z_cel1 z_byt1)) (And.intro z_zer1 (And.intro z_has2 z_agg2)))) (And.intro (And.intro (And.intro z_int2 (And.intro z_cel2 z_byt2)) (And.intro z_zer2 (And.intro z_has3 z_agg3))) (And.intro (And.intro z_int3 (And.intro z_cel3 z_byt3)) (And.intro (And.intro z_zer3 z_boo4) (And.intro z_has4 z_agg4))))) (And.intro (And.intro (And.intro (And.intro z_cel4 (And.intro z_byt4 z_zer4)) (And.intro z_has5 (And.intro z_agg5 z_int5))) (And.intro (And.intro z_cel5 (And.intro z_byt5 z_zer5)) (And.intro z_has6 (And.intro z_agg6 z_int6)))) (And.intro (And.intro (And.intro z_cel6 (And.intro z_byt6 z_zer6)) (And.intro z_stt7 (And.intro z_has7 z_agg7))) (And.intro (And.intro z_cel7 (And.intro z_byt7 z_off7_0)) (And.intro (And.intro z_fld7_0 z_off7_1) (And.intro z_fld7_1 z_off7_2)))))) (And.intro (And.intro (And.intro (And.intro (And.intro z_fld7_2 (And.intro z_off7_3 z_fld7_3)) (And.intro z_zer7 (And.intro z_eqT7 z_stt8))) (And.intro (And.intro z_has8 (And.intro z_agg8 z_cel8)) (And.intro z_byt8 (And.intro z_off8_0 z_fld8_0)))) (And.intro (And.intro (And.intro z_off8_1 (And.intro z_fld8_1 z_off8_2)) (And.intro z_fld8_2 (And.intro z_off8_3 z_fld8_3))) (And.intro (And.intro z_zer8 (And.intro z_eqT8 z_str9)) (And.intro (And.intro z_has9 z_agg9) (And.intro z_cel9 z_byt9))))) (And.intro (And.intro (And.intro (And.intro z_zer9 (And.intro z_str10 z_has10)) (And.intro z_agg10 (And.intro z_cel10 z_byt10))) (And.intro (And.intro z_zer10 (And.intro z_str11 z_has11)) (And.intro z_agg11 (And.intro z_cel11 z_byt11)))) (And.intro (And.intro (And.intro z_zer11 (And.intro z_has12 z_agg12)) (And.intro z_int12 (And.intro z_cel12 z_byt12))) (And.intro (And.intro z_zer12 (And.intro z_stt13 z_has13)) (And.intro (And.intro z_agg13 z_cel13) (And.intro z_byt13 z_off13_0))))))) (And.intro (And.intro (And.intro (And.intro (And.intro (And.intro z_fld13_0 (And.intro z_off13_1 z_fld13_1)) (And.intro z_zer13 (And.intro z_stt14 z_has14))) (And.intro (And.intro z_agg14 (And.intro z_cel14 z_byt14)) (And.intro z_off14_0 (And.intro z_fld14_0 z_off14_1)))) (And.intro (And.intro (And.intro z_fld14_1 (And.intro z_zer14 z_ptr15)) (And.intro z_has15 (And.intro z_agg15 z_cel15))) (And.intro (And.intro z_byt15 (And.intro z_zer15 z_ptr16)) (And.intro (And.intro z_has16 z_agg16) (And.intro z_cel16 z_byt16))))) (And.intro (And.intro (And.intro (And.intro z_zer16 (And.intro z_ptr17 z_has17)) (And.intro z_agg17 (And.intro z_cel17 z_byt17))) (And.intro (And.intro z_zer17 (And.intro z_stt18 z_has18)) (And.intro z_agg18 (And.intro z_cel18 z_byt18)))) (And.intro (And.intro (And.intro z_off18_0 (And.intro z_fld18_0 z_zer18)) (And.intro z_stt19 (And.intro z_has19 z_agg19))) (And.intro (And.intro z_cel19 (And.intro z_byt19 z_off19_0)) (And.intro (And.intro z_fld19_0 z_zer19) (And.intro z_has20 z_agg20)))))) (And.intro (And.intro (And.intro (And.intro (And.intro z_cel20 (And.intro z_byt20 z_zer20)) (And.intro z_has21 (And.intro z_agg21 z_int21))) (And.intro (And.intro z_cel21 (And.intro z_byt21 z_zer21)) (And.intro z_has22 (And.intro z_nst22 z_agg22)))) (And.intro (And.intro (And.intro z_elm22 (And.intro z_cel22 z_byt22)) (And.intro z_zer22 (And.intro z_has23 z_nst23))) (And.intro (And.intro z_agg23 (And.intro z_elm23 z_cel23)) (And.intro (And.intro z_byt23 z_zer23) (And.intro z_stt24 z_has24))))) (And.intro (And.intro (And.intro (And.intro z_agg24 (And.intro z_cel24 z_byt24)) (And.intro z_off24_0 (And.intro z_fld24_0 z_zer24))) (And.intro (And.intro z_eqT24 (And.intro z_stt25 z_has25)) (And.intro z_agg25 (And.intro z_cel25 z_byt25)))) (And.intro (And.intro (And.intro z_off25_0 (And.intro z_fld25_0 z_zer25)) (And.intro z_eqT25 (And.intro z_has26 z_agg26))) (And.intro (And.intro z_int26 (And.intro z_cel26 z_byt26)) (And.intro (And.intro z_zer26 z_has27) (And.intro z_agg27 z_cel27)))))))) (And.intro (And.intro (And.intro (And.intro (And.intro (And.intro (And.intro z_byt27 (And.intro z_fun28 z_has28)) (And.intro z_agg28 (And.intro z_cel28 z_byt28))) (And.intro (And.intro z_zer28 (And.intro z_has29 z_nst29)) (And.intro z_agg29 (And.intro z_elm29 z_cel29)))) (And.intro (And.intro (And.intro z_byt29 (And.intro z_zer29 z_has30)) (And.intro z_agg30 (And.intro z_cel30 z_byt30))) (And.intro (And.intro z_fun31 (And.intro z_has31 z_agg31)) (And.intro (And.intro z_cel31 z_byt31) (And.intro z_zer31 z_fun32))))) (And.intro (And.intro (And.intro (And.intro z_has32 (And.intro z_agg32 z_cel32)) (And.intro z_byt32 (And.intro z_zer32 z_fun33))) (And.intro (And.intro z_has33 (And.intro z_agg33 z_cel33)) (And.intro z_byt33 (And.intro z_zer33 z_fun34)))) (And.intro (And.intro (And.intro z_has34 (And.intro z_agg34 z_cel34)) (And.intro z_byt34 (And.intro z_zer34 z_has35))) (And.intro (And.intro z_agg35 (And.intro z_cel35 z_byt35)) (And.intro (And.intro z_fun36 z_has36) (And.intro z_agg36 z_cel36)))))) (And.intro (And.intro (And.intro (And.intro (And.intro z_byt36 (And.intro z_zer36 z_fun37)) (And.intro z_has37 (And.intro z_agg37 z_cel37))) (And.intro (And.intro z_byt37 (And.intro z_zer37 z_fun38)) (And.intro z_has38 (And.intro z_agg38 z_cel38)))) (And.intro (And.intro (And.intro z_byt38 (And.intro z_zer38 z_fun39)) (And.intro z_has39 (And.intro z_agg39 z_cel39))) (And.intro (And.intro z_byt39 (And.intro z_zer39 z_has40)) (And.intro (And.intro z_nst40 z_agg40) (And.intro z_elm40 z_cel40))))) (And.intro (And.intro (And.intro (And.intro z_byt40 (And.intro z_zer40 z_has41)) (And.intro z_agg41 (And.intro z_cel41 z_byt41))) (And.intro (And.intro z_fun42 (And.intro z_has42 z_agg42)) (And.intro z_cel42 (And.intro z_byt42 z_zer42)))) (And.intro (And.intro (And.intro z_has43 (And.intro z_agg43 z_cel43)) (And.intro z_byt43 (And.intro z_fun44 z_has44))) (And.intro (And.intro z_agg44 (And.intro z_cel44 z_byt44)) (And.intro (And.intro z_zer44 z_fun45) (And.intro z_has45 z_agg45))))))) (And.intro (And.intro (And.intro (And.intro (And.intro (And.intro z_cel45 (And.intro z_byt45 z_zer45)) (And.intro z_has46 (And.intro z_agg46 z_cel46))) (And.intro (And.intro z_byt46 (And.intro z_fun47 z_has47)) (And.intro z_agg47 (And.intro z_cel47 z_byt47)))) (And.intro (And.intro (And.intro z_zer47 (And.intro z_fun48 z_has48)) (And.intro z_agg48 (And.intro z_cel48 z_byt48))) (And.intro (And.intro z_zer48 (And.intro z_fun49 z_has49)) (And.intro (And.intro z_agg49 z_cel49) (And.intro z_byt49 z_zer49))))) (And.intro (And.intro (And.intro (And.intro z_fun50 (And.intro z_has50 z_agg50)) (And.intro z_cel50 (And.intro z_byt50 z_zer50))) (And.intro (And.intro z_fun51 (And.intro z_has51 z_agg51)) (And.intro z_cel51 (And.intro z_byt51 z_zer51)))) (And.intro (And.intro (And.intro z_stt52 (And.intro z_has52 z_agg52)) (And.intro z_cel52 (And.intro z_byt52 z_off52_0))) (And.intro (And.intro z_fld52_0 (And.intro z_off52_1 z_fld52_1)) (And.intro (And.intro z_zer52 z_eqT52) (And.intro z_stt53 z_has53)))))) (And.intro (And.intro (And.intro (And.intro (And.intro z_agg53 (And.intro z_cel53 z_byt53)) (And.intro z_off53_0 (And.intro z_fld53_0 z_off53_1))) (And.intro (And.intro z_fld53_1 (And.intro z_zer53 z_eqT53)) (And.intro z_fun54 (And.intro z_has54 z_agg54)))) (And.intro (And.intro (And.intro z_cel54 (And.intro z_byt54 z_zer54)) (And.intro z_stt55 (And.intro z_has55 z_agg55))) (And.intro (And.intro z_cel55 (And.intro z_byt55 z_off55_0)) (And.intro (And.intro z_fld55_0 z_off55_1) (And.intro z_fld55_1 z_zer55))))) (And.intro (And.intro (And.intro (And.intro z_eqT55 (And.intro z_fun56 z_has56)) (And.intro z_agg56 (And.intro z_cel56 z_byt56))) (And.intro (And.intro z_zer56 (And.intro z_fun57 z_has57)) (And.intro z_agg57 (And.intro z_cel57 z_byt57)))) (And.intro (And.intro (And.intro z_zer57 (And.intro z_fun58 z_has58)) (And.intro z_agg58 (And.intro z_cel58 z_byt58))) (And.intro (And.intro z_zer58 (And.intro z_fun59 z_has59)) (And.intro (And.intro z_agg59 z_cel59) (And.intro z_byt59 z_zer59))))))))) := (And.intro (And.intro (And.intro (And.intro (And.intro (And.intro (And.intro (And.intro z_has0 (And.intro z_agg0 z_cel0)) (And.intro z_byt0 (And.intro z_fun1 z_has1))) (And.intro (And.intro z_agg1 (And.intro z_cel1 z_byt1)) (And.intro z_zer1 (And.intro z_has2 z_agg2)))) (And.intro (And.intro (And.intro z_int2 (And.intro z_cel2 z_byt2)) (And.intro z_zer2 (And.intro z_has3 z_agg3))) (And.intro (And.intro z_int3 (And.intro z_cel3 z_byt3)) (And.intro (And.intro z_zer3 z_boo4) (And.intro z_has4 z_agg4))))) (And.intro (And.intro (And.intro (And.intro z_cel4 (And.intro z_byt4 z_zer4)) (And.intro z_has5 (And.intro z_agg5 z_int5))) (And.intro (And.intro z_cel5 (And.intro z_byt5 z_zer5)) (And.intro z_has6 (And.intro z_agg6 z_int6)))) (And.intro (And.intro (And.intro z_cel6 (And.intro z_byt6 z_zer6)) (And.intro z_stt7 (And.intro z_has7 z_agg7))) (And.intro (And.intro z_cel7 (And.intro z_byt7 z_off7_0)) (And.intro (And.intro z_fld7_0 z_off7_1) (And.intro z_fld7_1 z_off7_2)))))) (And.intro (And.intro (And.intro (And.intro (And.intro z_fld7_2 (And.intro z_off7_3 z_fld7_3)) (And.intro z_zer7 (And.intro z_eqT7 z_stt8))) (And.intro (And.intro z_has8 (And.intro z_agg8 z_cel8)) (And.intro z_byt8 (And.intro z_off8_0 z_fld8_0)))) (And.intro (And.intro (And.intro z_off8_1 (And.intro z_fld8_1 z_off8_2)) (And.intro z_fld8_2 (And.intro z_off8_3 z_fld8_3))) (And.intro (And.intro z_zer8 (And.intro z_eqT8 z_str9)) (And.intro (And.intro z_has9 z_agg9) (And.intro z_cel9 z_byt9))))) (And.intro (And.intro (And.intro (And.intro z_zer9 (And.intro z_str10 z_has10)) (And.intro z_agg10 (And.intro z_cel10 z_byt10))) (And.intro (And.intro z_zer10 (And.intro z_str11 z_has11)) (And.intro z_agg11 (And.intro z_cel11 z_byt11)))) (And.intro (And.intro (And.intro z_zer11 (And.intro z_has12 z_agg12)) (And.intro z_int12 (And.intro z_cel12 z_byt12))) (And.intro (And.intro z_zer12 (And.intro z_stt13 z_has13)) (And.intro (And.intro z_agg13 z_cel13) (And.intro z_byt13 z_off13_0))))))) (And.intro (And.intro (And.intro (And.intro (And.intro (And.intro z_fld13_0 (And.intro z_off13_1 z_fld13_1)) (And.intro z_zer13 (And.intro z_stt14 z_has14))) (And.intro (And.intro z_agg14 (And.intro z_cel14 z_byt14)) (And.intro z_off14_0 (And.intro z_fld14_0 z_off14_1)))) (And.intro (And.intro (And.intro z_fld14_1 (And.intro z_zer14 z_ptr15)) (And.intro z_has15 (And.intro z_agg15 z_cel15))) (And.intro (And.intro z_byt15 (And.intro z_zer15 z_ptr16)) (And.intro (And.intro z_has16 z_agg16) (And.intro z_cel16 z_byt16))))) (And.intro (And.intro (And.intro (And.intro z_zer16 (And.intro z_ptr17 z_has17)) (And.intro z_agg17 (And.intro z_cel17 z_byt17))) (And.intro (And.intro z_zer17 (And.intro z_stt18 z_has18)) (And.intro z_agg18 (And.intro z_cel18 z_byt18)))) (And.intro (And.intro (And.intro z_off18_0 (And.intro z_fld18_0 z_zer18)) (And.intro z_stt19 (And.intro z_has19 z_agg19))) (And.intro (And.intro z_cel19 (And.intro z_byt19 z_off19_0)) (And.intro (And.intro z_fld19_0 z_zer19) (And.intro z_has20 z_agg20)))))) (And.intro (And.intro (And.intro (And.intro (And.intro z_cel20 (And.intro z_byt20 z_zer20)) (And.intro z_has21 (And.intro z_agg21 z_int21))) (And.intro (And.intro z_cel21 (And.intro z_byt21 z_zer21)) (And.intro z_has22 (And.intro z_nst22 z_agg22)))) (And.intro (And.intro (And.intro z_elm22 (And.intro z_cel22 z_byt22)) (And.intro z_zer22 (And.intro z_has23 z_nst23))) (And.intro (And.intro z_agg23 (And.intro z_elm23 z_cel23)) (And.intro (And.intro z_byt23 z_zer23) (And.intro z_stt24 z_has24))))) (And.intro (And.intro (And.intro (And.intro z_agg24 (And.intro z_cel24 z_byt24)) (And.intro z_off24_0 (And.intro z_fld24_0 z_zer24))) (And.intro (And.intro z_eqT24 (And.intro z_stt25 z_has25)) (And.intro z_agg25 (And.intro z_cel25 z_byt25)))) (And.intro (And.intro (And.intro z_off25_0 (And.intro z_fld25_0 z_zer25)) (And.intro z_eqT25 (And.intro z_has26 z_agg26))) (And.intro (And.intro z_int26 (And.intro z_cel26 z_byt26)) (And.intro (And.intro z_zer26 z_has27) (And.intro z_agg27 z_cel27)))))))) (And.intro (And.intro (And.intro (And.intro (And.intro (And.intro (And.intro z_byt27 (And.intro z_fun28 z_has28)) (And.intro z_agg28 (And.intro z_cel28 z_byt28))) (And.intro (And.intro z_zer28 (And.intro z_has29 z_nst29)) (And.intro z_agg29 (And.intro z_elm29 z_cel29)))) (And.intro (And.intro (And.intro z_byt29 (And.intro z_zer29 z_has30)) (And.intro z_agg30 (And.intro z_cel30 z_byt30))) (And.intro (And.intro z_fun31 (And.intro z_has31 z_agg31)) (And.intro (And.intro z_cel31 z_byt31) (And.intro z_zer31 z_fun32))))) (And.intro (And.intro (And.intro (And.intro z_has32 (And.intro z_agg32 z_cel32)) (And.intro z_byt32 (And.intro z_zer32 z_fun33))) (And.intro (And.intro z_has33 (And.intro z_agg33 z_cel33)) (And.intro z_byt33 (And.intro z_zer33 z_fun34)))) (And.intro (And.intro (And.intro z_has34 (And.intro z_agg34 z_cel34)) (And.intro z_byt34 (And.intro z_zer34 z_has35))) (And.intro (And.intro z_agg35 (And.intro z_cel35 z_byt35)) (And.intro (And.intro z_fun36 z_has36) (And.intro z_agg36 z_cel36)))))) (And.intro (And.intro (And.intro (And.intro (And.intro z_byt36 (And.intro z_zer36 z_fun37)) (And.intro z_has37 (And.intro z_agg37 z_cel37))) (And.intro (And.intro z_byt37 (And.intro z_zer37 z_fun38)) (And.intro z_has38 (And.intro z_agg38 z_cel38)))) (And.intro (And.intro (And.intro z_byt38 (And.intro z_zer38 z_fun39)) (And.intro z_has39 (And.intro z_agg39 z_cel39))) (And.intro (And.intro z_byt39 (And.intro z_zer39 z_has40)) (And.intro (And.intro z_nst40 z_agg40) (And.intro z_elm40 z_cel40))))) (And.intro (And.intro (And.intro (And.intro z_byt40 (And.intro z_zer40 z_has41)) (And.intro z_agg41 (And.intro z_cel41 z_byt41))) (And.intro (And.intro z_fun42 (And.intro z_has42 z_agg42)) (And.intro z_cel42 (And.intro z_byt42 z_zer42)))) (And.intro (And.intro (And.intro z_has43 (And.intro z_agg43 z_cel43)) (And.intro z_byt43 (And.intro z_fun44 z_has44))) (And.intro (And.intro z_agg44 (And.intro z_cel44 z_byt44)) (And.intro (And.intro z_zer44 z_fun45) (And.intro z_has45 z_agg45))))))) (And.intro (And.intro (And.intro (And.intro (And.intro (And.intro z_cel45 (And.intro z_byt45 z_zer45)) (And.intro z_has46 (And.intro z_agg46 z_cel46))) (And.intro (And.intro z_byt46 (And.intro z_fun47 z_has47)) (And.intro z_agg47 (And.intro z_cel47 z_byt47)))) (And.intro (And.intro (And.intro z_zer47 (And.intro z_fun48 z_has48)) (And.intro z_agg48 (And.intro z_cel48 z_byt48))) (And.intro (And.intro z_zer48 (And.intro z_fun49 z_has49)) (And.intro (And.intro z_agg49 z_cel49) (And.intro z_byt49 z_zer49))))) (And.intro (And.intro (And.intro (And.intro z_fun50 (And.intro z_has50 z_agg50)) (And.intro z_cel50 (And.intro z_byt50 z_zer50))) (And.intro (And.intro z_fun51 (And.intro z_has51 z_agg51)) (And.intro z_cel51 (And.intro z_byt51 z_zer51)))) (And.intro (And.intro (And.intro z_stt52 (And.intro z_has52 z_agg52)) (And.intro z_cel52 (And.intro z_byt52 z_off52_0))) (And.intro (And.intro z_fld52_0 (And.intro z_off52_1 z_fld52_1)) (And.intro (And.intro z_zer52 z_eqT52) (And.intro z_stt53 z_has53)))))) (And.intro (And.intro (And.intro (And.intro (And.intro z_agg53 (And.intro z_cel53 z_byt53)) (And.intro z_off53_0 (And.intro z_fld53_0 z_off53_1))) (And.intro (And.intro z_fld53_1 (And.intro z_zer53 z_eqT53)) (And.intro z_fun54 (And.intro z_has54 z_agg54)))) (And.intro (And.intro (And.intro z_cel54 (And.intro z_byt54 z_zer54)) (And.intro z_stt55 (And.intro z_has55 z_agg55))) (And.intro (And.intro z_cel55 (And.intro z_byt55 z_off55_0)) (And.intro (And.intro z_fld55_0 z_off55_1) (And.intro z_fld55_1 z_zer55))))) (And.intro (And.intro (And.intro (And.intro z_eqT55 (And.intro z_fun56 z_has56)) (And.intro z_agg56 (And.intro z_cel56 z_byt56))) (And.intro (And.intro z_zer56 (And.intro z_fun57 z_has57)) (And.intro z_agg57 (And.intro z_cel57 z_byt57)))) (And.intro (And.intro (And.intro z_zer57 (And.intro z_fun58 z_has58)) (And.intro z_agg58 (And.intro z_cel58 z_byt58))) (And.intro (And.intro z_zer58 (And.intro z_fun59 z_has59)) (And.intro (And.intro z_agg59 z_cel59) (And.intro z_byt59 z_zer59)))))))))
end Go.Pw

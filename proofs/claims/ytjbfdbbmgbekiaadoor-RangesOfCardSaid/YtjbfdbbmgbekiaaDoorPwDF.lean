/- Facts about the seat's types. -/
import Derived.Test.YtjbfdbbmgbekiaaDoorProg
import Derived.Test.YtjbfdbbmgbekiaaDoorPwZa
set_option linter.unusedSimpArgs false
set_option linter.unusedVariables false
set_option linter.unusedSectionVars false
namespace Go.Pw
open Go.Proofs
set_option maxRecDepth 4000
theorem z_has0 : hasT Tryd.prog 0 = true := by kernel_rfl
theorem z_agg0 : aggT Tryd.prog 0 = false := by kernel_rfl
theorem z_cel0 : Program.cellsOf Tryd.prog 0 = 1 := by kernel_rfl
theorem z_byt0 : Program.bytesOf Tryd.prog 0 = 0 := by kernel_rfl
theorem z_fun1 : funT Tryd.prog 1 = true := by kernel_rfl
theorem z_has1 : hasT Tryd.prog 1 = true := by kernel_rfl
theorem z_agg1 : aggT Tryd.prog 1 = false := by kernel_rfl
theorem z_cel1 : Program.cellsOf Tryd.prog 1 = 1 := by kernel_rfl
theorem z_byt1 : Program.bytesOf Tryd.prog 1 = 8 := by kernel_rfl
theorem z_zer1 : zeroA Tryd.prog 1 = some [.pv (.raw (.nilFunc))] := by kernel_rfl
theorem z_has2 : hasT Tryd.prog 2 = true := by kernel_rfl
theorem z_agg2 : aggT Tryd.prog 2 = false := by kernel_rfl
theorem z_int2 : intT Tryd.prog 2 = some .i64 := by kernel_rfl
theorem z_cel2 : Program.cellsOf Tryd.prog 2 = 1 := by kernel_rfl
theorem z_byt2 : Program.bytesOf Tryd.prog 2 = 8 := by kernel_rfl
theorem z_zer2 : zeroA Tryd.prog 2 = some [.pv (.int .i64 0)] := by kernel_rfl
theorem z_has3 : hasT Tryd.prog 3 = true := by kernel_rfl
theorem z_agg3 : aggT Tryd.prog 3 = false := by kernel_rfl
theorem z_int3 : intT Tryd.prog 3 = some .i64 := by kernel_rfl
theorem z_cel3 : Program.cellsOf Tryd.prog 3 = 1 := by kernel_rfl
theorem z_byt3 : Program.bytesOf Tryd.prog 3 = 8 := by kernel_rfl
theorem z_zer3 : zeroA Tryd.prog 3 = some [.pv (.int .i64 0)] := by kernel_rfl
theorem z_boo4 : boolT Tryd.prog 4 = true := by kernel_rfl
theorem z_has4 : hasT Tryd.prog 4 = true := by kernel_rfl
theorem z_agg4 : aggT Tryd.prog 4 = false := by kernel_rfl
theorem z_cel4 : Program.cellsOf Tryd.prog 4 = 1 := by kernel_rfl
theorem z_byt4 : Program.bytesOf Tryd.prog 4 = 1 := by kernel_rfl
theorem z_zer4 : zeroA Tryd.prog 4 = some [.pv (.bool false)] := by kernel_rfl
theorem z_has5 : hasT Tryd.prog 5 = true := by kernel_rfl
theorem z_agg5 : aggT Tryd.prog 5 = false := by kernel_rfl
theorem z_int5 : intT Tryd.prog 5 = some .u8 := by kernel_rfl
theorem z_cel5 : Program.cellsOf Tryd.prog 5 = 1 := by kernel_rfl
theorem z_byt5 : Program.bytesOf Tryd.prog 5 = 1 := by kernel_rfl
theorem z_zer5 : zeroA Tryd.prog 5 = some [.pv (.int .u8 0)] := by kernel_rfl
theorem z_has6 : hasT Tryd.prog 6 = true := by kernel_rfl
theorem z_agg6 : aggT Tryd.prog 6 = false := by kernel_rfl
theorem z_int6 : intT Tryd.prog 6 = some .u8 := by kernel_rfl
theorem z_cel6 : Program.cellsOf Tryd.prog 6 = 1 := by kernel_rfl
theorem z_byt6 : Program.bytesOf Tryd.prog 6 = 1 := by kernel_rfl
theorem z_zer6 : zeroA Tryd.prog 6 = some [.pv (.int .u8 0)] := by kernel_rfl
theorem z_stt7 : stT Tryd.prog 7 = true := by kernel_rfl
theorem z_has7 : hasT Tryd.prog 7 = true := by kernel_rfl
theorem z_agg7 : aggT Tryd.prog 7 = true := by kernel_rfl
theorem z_cel7 : Program.cellsOf Tryd.prog 7 = 4 := by kernel_rfl
theorem z_byt7 : Program.bytesOf Tryd.prog 7 = 24 := by kernel_rfl
theorem z_off7_0 : offT Tryd.prog 7 0 = some 0 := by kernel_rfl
theorem z_fld7_0 : fldT Tryd.prog 7 0 = some 2 := by kernel_rfl
theorem z_off7_1 : offT Tryd.prog 7 1 = some 1 := by kernel_rfl
theorem z_fld7_1 : fldT Tryd.prog 7 1 = some 3 := by kernel_rfl
theorem z_off7_2 : offT Tryd.prog 7 2 = some 2 := by kernel_rfl
theorem z_fld7_2 : fldT Tryd.prog 7 2 = some 4 := by kernel_rfl
theorem z_off7_3 : offT Tryd.prog 7 3 = some 3 := by kernel_rfl
theorem z_fld7_3 : fldT Tryd.prog 7 3 = some 6 := by kernel_rfl
theorem z_zer7 : zeroA Tryd.prog 7 = some [.pv (.int .i64 0), .pv (.int .i64 0), .pv (.bool false), .pv (.int .u8 0)] := by kernel_rfl
theorem z_eqT7 : eqT Tryd.prog 7 = some [(0, 2), (1, 3), (2, 4), (3, 6)] := by kernel_rfl
theorem z_stt8 : stT Tryd.prog 8 = true := by kernel_rfl
theorem z_has8 : hasT Tryd.prog 8 = true := by kernel_rfl
theorem z_agg8 : aggT Tryd.prog 8 = true := by kernel_rfl
theorem z_cel8 : Program.cellsOf Tryd.prog 8 = 4 := by kernel_rfl
theorem z_byt8 : Program.bytesOf Tryd.prog 8 = 24 := by kernel_rfl
theorem z_off8_0 : offT Tryd.prog 8 0 = some 0 := by kernel_rfl
theorem z_fld8_0 : fldT Tryd.prog 8 0 = some 2 := by kernel_rfl
theorem z_off8_1 : offT Tryd.prog 8 1 = some 1 := by kernel_rfl
theorem z_fld8_1 : fldT Tryd.prog 8 1 = some 3 := by kernel_rfl
theorem z_off8_2 : offT Tryd.prog 8 2 = some 2 := by kernel_rfl
theorem z_fld8_2 : fldT Tryd.prog 8 2 = some 4 := by kernel_rfl
theorem z_off8_3 : offT Tryd.prog 8 3 = some 3 := by kernel_rfl
theorem z_fld8_3 : fldT Tryd.prog 8 3 = some 6 := by kernel_rfl
theorem z_zer8 : zeroA Tryd.prog 8 = some [.pv (.int .i64 0), .pv (.int .i64 0), .pv (.bool false), .pv (.int .u8 0)] := by kernel_rfl
theorem z_eqT8 : eqT Tryd.prog 8 = some [(0, 2), (1, 3), (2, 4), (3, 6)] := by kernel_rfl
theorem z_str9 : strT Tryd.prog 9 = true := by kernel_rfl
theorem z_has9 : hasT Tryd.prog 9 = true := by kernel_rfl
theorem z_agg9 : aggT Tryd.prog 9 = false := by kernel_rfl
theorem z_cel9 : Program.cellsOf Tryd.prog 9 = 1 := by kernel_rfl
theorem z_byt9 : Program.bytesOf Tryd.prog 9 = 16 := by kernel_rfl
theorem z_zer9 : zeroA Tryd.prog 9 = some [.pv (.str [])] := by kernel_rfl
theorem z_str10 : strT Tryd.prog 10 = true := by kernel_rfl
theorem z_has10 : hasT Tryd.prog 10 = true := by kernel_rfl
theorem z_agg10 : aggT Tryd.prog 10 = false := by kernel_rfl
theorem z_cel10 : Program.cellsOf Tryd.prog 10 = 1 := by kernel_rfl
theorem z_byt10 : Program.bytesOf Tryd.prog 10 = 16 := by kernel_rfl
theorem z_zer10 : zeroA Tryd.prog 10 = some [.pv (.str [])] := by kernel_rfl
theorem z_str11 : strT Tryd.prog 11 = true := by kernel_rfl
theorem z_has11 : hasT Tryd.prog 11 = true := by kernel_rfl
theorem z_agg11 : aggT Tryd.prog 11 = false := by kernel_rfl
theorem z_cel11 : Program.cellsOf Tryd.prog 11 = 1 := by kernel_rfl
theorem z_byt11 : Program.bytesOf Tryd.prog 11 = 16 := by kernel_rfl
theorem z_zer11 : zeroA Tryd.prog 11 = some [.pv (.str [])] := by kernel_rfl
theorem z_has12 : hasT Tryd.prog 12 = true := by kernel_rfl
theorem z_agg12 : aggT Tryd.prog 12 = false := by kernel_rfl
theorem z_int12 : intT Tryd.prog 12 = some .u64 := by kernel_rfl
theorem z_cel12 : Program.cellsOf Tryd.prog 12 = 1 := by kernel_rfl
theorem z_byt12 : Program.bytesOf Tryd.prog 12 = 8 := by kernel_rfl
theorem z_zer12 : zeroA Tryd.prog 12 = some [.pv (.int .u64 0)] := by kernel_rfl
theorem z_stt13 : stT Tryd.prog 13 = true := by kernel_rfl
theorem z_has13 : hasT Tryd.prog 13 = true := by kernel_rfl
theorem z_agg13 : aggT Tryd.prog 13 = true := by kernel_rfl
theorem z_cel13 : Program.cellsOf Tryd.prog 13 = 2 := by kernel_rfl
theorem z_byt13 : Program.bytesOf Tryd.prog 13 = 24 := by kernel_rfl
theorem z_off13_0 : offT Tryd.prog 13 0 = some 0 := by kernel_rfl
theorem z_fld13_0 : fldT Tryd.prog 13 0 = some 9 := by kernel_rfl
theorem z_off13_1 : offT Tryd.prog 13 1 = some 1 := by kernel_rfl
theorem z_fld13_1 : fldT Tryd.prog 13 1 = some 12 := by kernel_rfl
theorem z_zer13 : zeroA Tryd.prog 13 = some [.pv (.str []), .pv (.int .u64 0)] := by kernel_rfl
theorem z_stt14 : stT Tryd.prog 14 = true := by kernel_rfl
theorem z_has14 : hasT Tryd.prog 14 = true := by kernel_rfl
theorem z_agg14 : aggT Tryd.prog 14 = true := by kernel_rfl
theorem z_cel14 : Program.cellsOf Tryd.prog 14 = 2 := by kernel_rfl
theorem z_byt14 : Program.bytesOf Tryd.prog 14 = 24 := by kernel_rfl
theorem z_off14_0 : offT Tryd.prog 14 0 = some 0 := by kernel_rfl
theorem z_fld14_0 : fldT Tryd.prog 14 0 = some 9 := by kernel_rfl
theorem z_off14_1 : offT Tryd.prog 14 1 = some 1 := by kernel_rfl
theorem z_fld14_1 : fldT Tryd.prog 14 1 = some 12 := by kernel_rfl
theorem z_zer14 : zeroA Tryd.prog 14 = some [.pv (.str []), .pv (.int .u64 0)] := by kernel_rfl
theorem z_ptr15 : ptrT Tryd.prog 15 = true := by kernel_rfl
theorem z_has15 : hasT Tryd.prog 15 = true := by kernel_rfl
theorem z_agg15 : aggT Tryd.prog 15 = false := by kernel_rfl
theorem z_cel15 : Program.cellsOf Tryd.prog 15 = 1 := by kernel_rfl
theorem z_byt15 : Program.bytesOf Tryd.prog 15 = 8 := by kernel_rfl
theorem z_zer15 : zeroA Tryd.prog 15 = some [.pv (.raw (.pointer none))] := by kernel_rfl
theorem z_ptr16 : ptrT Tryd.prog 16 = true := by kernel_rfl
theorem z_has16 : hasT Tryd.prog 16 = true := by kernel_rfl
theorem z_agg16 : aggT Tryd.prog 16 = false := by kernel_rfl
theorem z_cel16 : Program.cellsOf Tryd.prog 16 = 1 := by kernel_rfl
theorem z_byt16 : Program.bytesOf Tryd.prog 16 = 8 := by kernel_rfl
theorem z_zer16 : zeroA Tryd.prog 16 = some [.pv (.raw (.pointer none))] := by kernel_rfl
theorem z_ptr17 : ptrT Tryd.prog 17 = true := by kernel_rfl
theorem z_has17 : hasT Tryd.prog 17 = true := by kernel_rfl
theorem z_agg17 : aggT Tryd.prog 17 = false := by kernel_rfl
theorem z_cel17 : Program.cellsOf Tryd.prog 17 = 1 := by kernel_rfl
theorem z_byt17 : Program.bytesOf Tryd.prog 17 = 8 := by kernel_rfl
theorem z_zer17 : zeroA Tryd.prog 17 = some [.pv (.raw (.pointer none))] := by kernel_rfl
theorem z_stt18 : stT Tryd.prog 18 = true := by kernel_rfl
theorem z_has18 : hasT Tryd.prog 18 = true := by kernel_rfl
theorem z_agg18 : aggT Tryd.prog 18 = true := by kernel_rfl
theorem z_cel18 : Program.cellsOf Tryd.prog 18 = 1 := by kernel_rfl
theorem z_byt18 : Program.bytesOf Tryd.prog 18 = 8 := by kernel_rfl
theorem z_off18_0 : offT Tryd.prog 18 0 = some 0 := by kernel_rfl
theorem z_fld18_0 : fldT Tryd.prog 18 0 = some 17 := by kernel_rfl
theorem z_zer18 : zeroA Tryd.prog 18 = some [.pv (.raw (.pointer none))] := by kernel_rfl
theorem z_stt19 : stT Tryd.prog 19 = true := by kernel_rfl
theorem z_has19 : hasT Tryd.prog 19 = true := by kernel_rfl
theorem z_agg19 : aggT Tryd.prog 19 = true := by kernel_rfl
theorem z_cel19 : Program.cellsOf Tryd.prog 19 = 1 := by kernel_rfl
theorem z_byt19 : Program.bytesOf Tryd.prog 19 = 8 := by kernel_rfl
theorem z_off19_0 : offT Tryd.prog 19 0 = some 0 := by kernel_rfl
theorem z_fld19_0 : fldT Tryd.prog 19 0 = some 17 := by kernel_rfl
theorem z_zer19 : zeroA Tryd.prog 19 = some [.pv (.raw (.pointer none))] := by kernel_rfl
theorem z_has20 : hasT Tryd.prog 20 = true := by kernel_rfl
theorem z_agg20 : aggT Tryd.prog 20 = false := by kernel_rfl
theorem z_cel20 : Program.cellsOf Tryd.prog 20 = 1 := by kernel_rfl
theorem z_byt20 : Program.bytesOf Tryd.prog 20 = 16 := by kernel_rfl
theorem z_zer20 : zeroA Tryd.prog 20 = some [.pv (.raw (.nilIface))] := by kernel_rfl
theorem z_has21 : hasT Tryd.prog 21 = true := by kernel_rfl
theorem z_agg21 : aggT Tryd.prog 21 = false := by kernel_rfl
theorem z_int21 : intT Tryd.prog 21 = some .i32 := by kernel_rfl
theorem z_cel21 : Program.cellsOf Tryd.prog 21 = 1 := by kernel_rfl
theorem z_byt21 : Program.bytesOf Tryd.prog 21 = 4 := by kernel_rfl
theorem z_zer21 : zeroA Tryd.prog 21 = some [.pv (.int .i32 0)] := by kernel_rfl
theorem z_has22 : hasT Tryd.prog 22 = true := by kernel_rfl
theorem z_nst22 : strT Tryd.prog 22 = false := by kernel_rfl
theorem z_agg22 : aggT Tryd.prog 22 = false := by kernel_rfl
theorem z_elm22 : elemT Tryd.prog 22 = some 5 := by kernel_rfl
theorem z_cel22 : Program.cellsOf Tryd.prog 22 = 1 := by kernel_rfl
theorem z_byt22 : Program.bytesOf Tryd.prog 22 = 24 := by kernel_rfl
theorem z_zer22 : zeroA Tryd.prog 22 = some [.emp] := by kernel_rfl
theorem z_has23 : hasT Tryd.prog 23 = true := by kernel_rfl
theorem z_nst23 : strT Tryd.prog 23 = false := by kernel_rfl
theorem z_agg23 : aggT Tryd.prog 23 = false := by kernel_rfl
theorem z_elm23 : elemT Tryd.prog 23 = some 53 := by kernel_rfl
theorem z_cel23 : Program.cellsOf Tryd.prog 23 = 1 := by kernel_rfl
theorem z_byt23 : Program.bytesOf Tryd.prog 23 = 24 := by kernel_rfl
theorem z_zer23 : zeroA Tryd.prog 23 = some [.emp] := by kernel_rfl
theorem z_stt24 : stT Tryd.prog 24 = true := by kernel_rfl
theorem z_has24 : hasT Tryd.prog 24 = true := by kernel_rfl
theorem z_agg24 : aggT Tryd.prog 24 = true := by kernel_rfl
theorem z_cel24 : Program.cellsOf Tryd.prog 24 = 1 := by kernel_rfl
theorem z_byt24 : Program.bytesOf Tryd.prog 24 = 24 := by kernel_rfl
theorem z_off24_0 : offT Tryd.prog 24 0 = some 0 := by kernel_rfl
theorem z_fld24_0 : fldT Tryd.prog 24 0 = some 23 := by kernel_rfl
theorem z_zer24 : zeroA Tryd.prog 24 = some [.emp] := by kernel_rfl
theorem z_eqT24 : eqT Tryd.prog 24 = some [(0, 23)] := by kernel_rfl
theorem z_stt25 : stT Tryd.prog 25 = true := by kernel_rfl
theorem z_has25 : hasT Tryd.prog 25 = true := by kernel_rfl
theorem z_agg25 : aggT Tryd.prog 25 = true := by kernel_rfl
theorem z_cel25 : Program.cellsOf Tryd.prog 25 = 1 := by kernel_rfl
theorem z_byt25 : Program.bytesOf Tryd.prog 25 = 24 := by kernel_rfl
theorem z_off25_0 : offT Tryd.prog 25 0 = some 0 := by kernel_rfl
theorem z_fld25_0 : fldT Tryd.prog 25 0 = some 23 := by kernel_rfl
theorem z_zer25 : zeroA Tryd.prog 25 = some [.emp] := by kernel_rfl
theorem z_eqT25 : eqT Tryd.prog 25 = some [(0, 23)] := by kernel_rfl
theorem z_has26 : hasT Tryd.prog 26 = true := by kernel_rfl
theorem z_agg26 : aggT Tryd.prog 26 = false := by kernel_rfl
theorem z_int26 : intT Tryd.prog 26 = some .i64 := by kernel_rfl
theorem z_cel26 : Program.cellsOf Tryd.prog 26 = 1 := by kernel_rfl
theorem z_byt26 : Program.bytesOf Tryd.prog 26 = 8 := by kernel_rfl
theorem z_zer26 : zeroA Tryd.prog 26 = some [.pv (.int .i64 0)] := by kernel_rfl
theorem z_has27 : hasT Tryd.prog 27 = true := by kernel_rfl
theorem z_agg27 : aggT Tryd.prog 27 = false := by kernel_rfl
theorem z_cel27 : Program.cellsOf Tryd.prog 27 = 1 := by kernel_rfl
theorem z_byt27 : Program.bytesOf Tryd.prog 27 = 0 := by kernel_rfl
theorem z_fun28 : funT Tryd.prog 28 = true := by kernel_rfl
theorem z_has28 : hasT Tryd.prog 28 = true := by kernel_rfl
theorem z_agg28 : aggT Tryd.prog 28 = false := by kernel_rfl
theorem z_cel28 : Program.cellsOf Tryd.prog 28 = 1 := by kernel_rfl
theorem z_byt28 : Program.bytesOf Tryd.prog 28 = 8 := by kernel_rfl
theorem z_zer28 : zeroA Tryd.prog 28 = some [.pv (.raw (.nilFunc))] := by kernel_rfl
theorem z_has29 : hasT Tryd.prog 29 = true := by kernel_rfl
theorem z_nst29 : strT Tryd.prog 29 = false := by kernel_rfl
theorem z_agg29 : aggT Tryd.prog 29 = false := by kernel_rfl
theorem z_elm29 : elemT Tryd.prog 29 = some 55 := by kernel_rfl
theorem z_cel29 : Program.cellsOf Tryd.prog 29 = 1 := by kernel_rfl
theorem z_byt29 : Program.bytesOf Tryd.prog 29 = 24 := by kernel_rfl
theorem z_zer29 : zeroA Tryd.prog 29 = some [.emp] := by kernel_rfl
theorem z_has30 : hasT Tryd.prog 30 = true := by kernel_rfl
theorem z_agg30 : aggT Tryd.prog 30 = false := by kernel_rfl
theorem z_cel30 : Program.cellsOf Tryd.prog 30 = 1 := by kernel_rfl
theorem z_byt30 : Program.bytesOf Tryd.prog 30 = 0 := by kernel_rfl
theorem z_fun31 : funT Tryd.prog 31 = true := by kernel_rfl
theorem z_has31 : hasT Tryd.prog 31 = true := by kernel_rfl
theorem z_agg31 : aggT Tryd.prog 31 = false := by kernel_rfl
theorem z_cel31 : Program.cellsOf Tryd.prog 31 = 1 := by kernel_rfl
theorem z_byt31 : Program.bytesOf Tryd.prog 31 = 8 := by kernel_rfl
theorem z_zer31 : zeroA Tryd.prog 31 = some [.pv (.raw (.nilFunc))] := by kernel_rfl
theorem z_fun32 : funT Tryd.prog 32 = true := by kernel_rfl
theorem z_has32 : hasT Tryd.prog 32 = true := by kernel_rfl
theorem z_agg32 : aggT Tryd.prog 32 = false := by kernel_rfl
theorem z_cel32 : Program.cellsOf Tryd.prog 32 = 1 := by kernel_rfl
theorem z_byt32 : Program.bytesOf Tryd.prog 32 = 8 := by kernel_rfl
theorem z_zer32 : zeroA Tryd.prog 32 = some [.pv (.raw (.nilFunc))] := by kernel_rfl
theorem z_fun33 : funT Tryd.prog 33 = true := by kernel_rfl
theorem z_has33 : hasT Tryd.prog 33 = true := by kernel_rfl
theorem z_agg33 : aggT Tryd.prog 33 = false := by kernel_rfl
theorem z_cel33 : Program.cellsOf Tryd.prog 33 = 1 := by kernel_rfl
theorem z_byt33 : Program.bytesOf Tryd.prog 33 = 8 := by kernel_rfl
theorem z_zer33 : zeroA Tryd.prog 33 = some [.pv (.raw (.nilFunc))] := by kernel_rfl
theorem z_fun34 : funT Tryd.prog 34 = true := by kernel_rfl
theorem z_has34 : hasT Tryd.prog 34 = true := by kernel_rfl
theorem z_agg34 : aggT Tryd.prog 34 = false := by kernel_rfl
theorem z_cel34 : Program.cellsOf Tryd.prog 34 = 1 := by kernel_rfl
theorem z_byt34 : Program.bytesOf Tryd.prog 34 = 8 := by kernel_rfl
theorem z_zer34 : zeroA Tryd.prog 34 = some [.pv (.raw (.nilFunc))] := by kernel_rfl
theorem z_has35 : hasT Tryd.prog 35 = true := by kernel_rfl
theorem z_agg35 : aggT Tryd.prog 35 = false := by kernel_rfl
theorem z_cel35 : Program.cellsOf Tryd.prog 35 = 1 := by kernel_rfl
theorem z_byt35 : Program.bytesOf Tryd.prog 35 = 0 := by kernel_rfl
theorem z_fun36 : funT Tryd.prog 36 = true := by kernel_rfl
theorem z_has36 : hasT Tryd.prog 36 = true := by kernel_rfl
theorem z_agg36 : aggT Tryd.prog 36 = false := by kernel_rfl
theorem z_cel36 : Program.cellsOf Tryd.prog 36 = 1 := by kernel_rfl
theorem z_byt36 : Program.bytesOf Tryd.prog 36 = 8 := by kernel_rfl
theorem z_zer36 : zeroA Tryd.prog 36 = some [.pv (.raw (.nilFunc))] := by kernel_rfl
theorem z_fun37 : funT Tryd.prog 37 = true := by kernel_rfl
theorem z_has37 : hasT Tryd.prog 37 = true := by kernel_rfl
theorem z_agg37 : aggT Tryd.prog 37 = false := by kernel_rfl
theorem z_cel37 : Program.cellsOf Tryd.prog 37 = 1 := by kernel_rfl
theorem z_byt37 : Program.bytesOf Tryd.prog 37 = 8 := by kernel_rfl
theorem z_zer37 : zeroA Tryd.prog 37 = some [.pv (.raw (.nilFunc))] := by kernel_rfl
theorem z_fun38 : funT Tryd.prog 38 = true := by kernel_rfl
theorem z_has38 : hasT Tryd.prog 38 = true := by kernel_rfl
theorem z_agg38 : aggT Tryd.prog 38 = false := by kernel_rfl
theorem z_cel38 : Program.cellsOf Tryd.prog 38 = 1 := by kernel_rfl
theorem z_byt38 : Program.bytesOf Tryd.prog 38 = 8 := by kernel_rfl
theorem z_zer38 : zeroA Tryd.prog 38 = some [.pv (.raw (.nilFunc))] := by kernel_rfl
theorem z_fun39 : funT Tryd.prog 39 = true := by kernel_rfl
theorem z_has39 : hasT Tryd.prog 39 = true := by kernel_rfl
theorem z_agg39 : aggT Tryd.prog 39 = false := by kernel_rfl
theorem z_cel39 : Program.cellsOf Tryd.prog 39 = 1 := by kernel_rfl
theorem z_byt39 : Program.bytesOf Tryd.prog 39 = 8 := by kernel_rfl
theorem z_zer39 : zeroA Tryd.prog 39 = some [.pv (.raw (.nilFunc))] := by kernel_rfl
theorem z_has40 : hasT Tryd.prog 40 = true := by kernel_rfl
theorem z_nst40 : strT Tryd.prog 40 = false := by kernel_rfl
theorem z_agg40 : aggT Tryd.prog 40 = false := by kernel_rfl
theorem z_elm40 : elemT Tryd.prog 40 = some 3 := by kernel_rfl
theorem z_cel40 : Program.cellsOf Tryd.prog 40 = 1 := by kernel_rfl
theorem z_byt40 : Program.bytesOf Tryd.prog 40 = 24 := by kernel_rfl
theorem z_zer40 : zeroA Tryd.prog 40 = some [.emp] := by kernel_rfl
theorem z_has41 : hasT Tryd.prog 41 = true := by kernel_rfl
theorem z_agg41 : aggT Tryd.prog 41 = false := by kernel_rfl
theorem z_cel41 : Program.cellsOf Tryd.prog 41 = 1 := by kernel_rfl
theorem z_byt41 : Program.bytesOf Tryd.prog 41 = 0 := by kernel_rfl
theorem z_fun42 : funT Tryd.prog 42 = true := by kernel_rfl
theorem z_has42 : hasT Tryd.prog 42 = true := by kernel_rfl
theorem z_agg42 : aggT Tryd.prog 42 = false := by kernel_rfl
theorem z_cel42 : Program.cellsOf Tryd.prog 42 = 1 := by kernel_rfl
theorem z_byt42 : Program.bytesOf Tryd.prog 42 = 8 := by kernel_rfl
theorem z_zer42 : zeroA Tryd.prog 42 = some [.pv (.raw (.nilFunc))] := by kernel_rfl
theorem z_has43 : hasT Tryd.prog 43 = true := by kernel_rfl
theorem z_agg43 : aggT Tryd.prog 43 = false := by kernel_rfl
theorem z_cel43 : Program.cellsOf Tryd.prog 43 = 1 := by kernel_rfl
theorem z_byt43 : Program.bytesOf Tryd.prog 43 = 0 := by kernel_rfl
theorem z_fun44 : funT Tryd.prog 44 = true := by kernel_rfl
theorem z_has44 : hasT Tryd.prog 44 = true := by kernel_rfl
theorem z_agg44 : aggT Tryd.prog 44 = false := by kernel_rfl
theorem z_cel44 : Program.cellsOf Tryd.prog 44 = 1 := by kernel_rfl
theorem z_byt44 : Program.bytesOf Tryd.prog 44 = 8 := by kernel_rfl
theorem z_zer44 : zeroA Tryd.prog 44 = some [.pv (.raw (.nilFunc))] := by kernel_rfl
theorem z_fun45 : funT Tryd.prog 45 = true := by kernel_rfl
theorem z_has45 : hasT Tryd.prog 45 = true := by kernel_rfl
theorem z_agg45 : aggT Tryd.prog 45 = false := by kernel_rfl
theorem z_cel45 : Program.cellsOf Tryd.prog 45 = 1 := by kernel_rfl
theorem z_byt45 : Program.bytesOf Tryd.prog 45 = 8 := by kernel_rfl
theorem z_zer45 : zeroA Tryd.prog 45 = some [.pv (.raw (.nilFunc))] := by kernel_rfl
theorem z_has46 : hasT Tryd.prog 46 = true := by kernel_rfl
theorem z_agg46 : aggT Tryd.prog 46 = false := by kernel_rfl
theorem z_cel46 : Program.cellsOf Tryd.prog 46 = 1 := by kernel_rfl
theorem z_byt46 : Program.bytesOf Tryd.prog 46 = 0 := by kernel_rfl
theorem z_fun47 : funT Tryd.prog 47 = true := by kernel_rfl
theorem z_has47 : hasT Tryd.prog 47 = true := by kernel_rfl
theorem z_agg47 : aggT Tryd.prog 47 = false := by kernel_rfl
theorem z_cel47 : Program.cellsOf Tryd.prog 47 = 1 := by kernel_rfl
theorem z_byt47 : Program.bytesOf Tryd.prog 47 = 8 := by kernel_rfl
theorem z_zer47 : zeroA Tryd.prog 47 = some [.pv (.raw (.nilFunc))] := by kernel_rfl
theorem z_fun48 : funT Tryd.prog 48 = true := by kernel_rfl
theorem z_has48 : hasT Tryd.prog 48 = true := by kernel_rfl
theorem z_agg48 : aggT Tryd.prog 48 = false := by kernel_rfl
theorem z_cel48 : Program.cellsOf Tryd.prog 48 = 1 := by kernel_rfl
theorem z_byt48 : Program.bytesOf Tryd.prog 48 = 8 := by kernel_rfl
theorem z_zer48 : zeroA Tryd.prog 48 = some [.pv (.raw (.nilFunc))] := by kernel_rfl
theorem z_fun49 : funT Tryd.prog 49 = true := by kernel_rfl
theorem z_has49 : hasT Tryd.prog 49 = true := by kernel_rfl
theorem z_agg49 : aggT Tryd.prog 49 = false := by kernel_rfl
theorem z_cel49 : Program.cellsOf Tryd.prog 49 = 1 := by kernel_rfl
theorem z_byt49 : Program.bytesOf Tryd.prog 49 = 8 := by kernel_rfl
theorem z_zer49 : zeroA Tryd.prog 49 = some [.pv (.raw (.nilFunc))] := by kernel_rfl
theorem z_fun50 : funT Tryd.prog 50 = true := by kernel_rfl
theorem z_has50 : hasT Tryd.prog 50 = true := by kernel_rfl
theorem z_agg50 : aggT Tryd.prog 50 = false := by kernel_rfl
theorem z_cel50 : Program.cellsOf Tryd.prog 50 = 1 := by kernel_rfl
theorem z_byt50 : Program.bytesOf Tryd.prog 50 = 8 := by kernel_rfl
theorem z_zer50 : zeroA Tryd.prog 50 = some [.pv (.raw (.nilFunc))] := by kernel_rfl
theorem z_fun51 : funT Tryd.prog 51 = true := by kernel_rfl
theorem z_has51 : hasT Tryd.prog 51 = true := by kernel_rfl
theorem z_agg51 : aggT Tryd.prog 51 = false := by kernel_rfl
theorem z_cel51 : Program.cellsOf Tryd.prog 51 = 1 := by kernel_rfl
theorem z_byt51 : Program.bytesOf Tryd.prog 51 = 8 := by kernel_rfl
theorem z_zer51 : zeroA Tryd.prog 51 = some [.pv (.raw (.nilFunc))] := by kernel_rfl
theorem z_stt52 : stT Tryd.prog 52 = true := by kernel_rfl
theorem z_has52 : hasT Tryd.prog 52 = true := by kernel_rfl
theorem z_agg52 : aggT Tryd.prog 52 = true := by kernel_rfl
theorem z_cel52 : Program.cellsOf Tryd.prog 52 = 2 := by kernel_rfl
theorem z_byt52 : Program.bytesOf Tryd.prog 52 = 16 := by kernel_rfl
theorem z_off52_0 : offT Tryd.prog 52 0 = some 0 := by kernel_rfl
theorem z_fld52_0 : fldT Tryd.prog 52 0 = some 3 := by kernel_rfl
theorem z_off52_1 : offT Tryd.prog 52 1 = some 1 := by kernel_rfl
theorem z_fld52_1 : fldT Tryd.prog 52 1 = some 3 := by kernel_rfl
theorem z_zer52 : zeroA Tryd.prog 52 = some [.pv (.int .i64 0), .pv (.int .i64 0)] := by kernel_rfl
theorem z_eqT52 : eqT Tryd.prog 52 = some [(0, 3), (1, 3)] := by kernel_rfl
theorem z_stt53 : stT Tryd.prog 53 = true := by kernel_rfl
theorem z_has53 : hasT Tryd.prog 53 = true := by kernel_rfl
theorem z_agg53 : aggT Tryd.prog 53 = true := by kernel_rfl
theorem z_cel53 : Program.cellsOf Tryd.prog 53 = 2 := by kernel_rfl
theorem z_byt53 : Program.bytesOf Tryd.prog 53 = 16 := by kernel_rfl
theorem z_off53_0 : offT Tryd.prog 53 0 = some 0 := by kernel_rfl
theorem z_fld53_0 : fldT Tryd.prog 53 0 = some 3 := by kernel_rfl
theorem z_off53_1 : offT Tryd.prog 53 1 = some 1 := by kernel_rfl
theorem z_fld53_1 : fldT Tryd.prog 53 1 = some 3 := by kernel_rfl
theorem z_zer53 : zeroA Tryd.prog 53 = some [.pv (.int .i64 0), .pv (.int .i64 0)] := by kernel_rfl
theorem z_eqT53 : eqT Tryd.prog 53 = some [(0, 3), (1, 3)] := by kernel_rfl
theorem z_fun54 : funT Tryd.prog 54 = true := by kernel_rfl
theorem z_has54 : hasT Tryd.prog 54 = true := by kernel_rfl
theorem z_agg54 : aggT Tryd.prog 54 = false := by kernel_rfl
theorem z_cel54 : Program.cellsOf Tryd.prog 54 = 1 := by kernel_rfl
theorem z_byt54 : Program.bytesOf Tryd.prog 54 = 8 := by kernel_rfl
theorem z_zer54 : zeroA Tryd.prog 54 = some [.pv (.raw (.nilFunc))] := by kernel_rfl
theorem z_stt55 : stT Tryd.prog 55 = true := by kernel_rfl
theorem z_has55 : hasT Tryd.prog 55 = true := by kernel_rfl
theorem z_agg55 : aggT Tryd.prog 55 = true := by kernel_rfl
theorem z_cel55 : Program.cellsOf Tryd.prog 55 = 2 := by kernel_rfl
theorem z_byt55 : Program.bytesOf Tryd.prog 55 = 16 := by kernel_rfl
theorem z_off55_0 : offT Tryd.prog 55 0 = some 0 := by kernel_rfl
theorem z_fld55_0 : fldT Tryd.prog 55 0 = some 3 := by kernel_rfl
theorem z_off55_1 : offT Tryd.prog 55 1 = some 1 := by kernel_rfl
theorem z_fld55_1 : fldT Tryd.prog 55 1 = some 3 := by kernel_rfl
theorem z_zer55 : zeroA Tryd.prog 55 = some [.pv (.int .i64 0), .pv (.int .i64 0)] := by kernel_rfl
theorem z_eqT55 : eqT Tryd.prog 55 = some [(0, 3), (1, 3)] := by kernel_rfl
theorem z_fun56 : funT Tryd.prog 56 = true := by kernel_rfl
theorem z_has56 : hasT Tryd.prog 56 = true := by kernel_rfl
theorem z_agg56 : aggT Tryd.prog 56 = false := by kernel_rfl
theorem z_cel56 : Program.cellsOf Tryd.prog 56 = 1 := by kernel_rfl
theorem z_byt56 : Program.bytesOf Tryd.prog 56 = 8 := by kernel_rfl
theorem z_zer56 : zeroA Tryd.prog 56 = some [.pv (.raw (.nilFunc))] := by kernel_rfl
theorem z_fun57 : funT Tryd.prog 57 = true := by kernel_rfl
theorem z_has57 : hasT Tryd.prog 57 = true := by kernel_rfl
theorem z_agg57 : aggT Tryd.prog 57 = false := by kernel_rfl
theorem z_cel57 : Program.cellsOf Tryd.prog 57 = 1 := by kernel_rfl
theorem z_byt57 : Program.bytesOf Tryd.prog 57 = 8 := by kernel_rfl
theorem z_zer57 : zeroA Tryd.prog 57 = some [.pv (.raw (.nilFunc))] := by kernel_rfl
theorem z_fun58 : funT Tryd.prog 58 = true := by kernel_rfl
theorem z_has58 : hasT Tryd.prog 58 = true := by kernel_rfl
theorem z_agg58 : aggT Tryd.prog 58 = false := by kernel_rfl
theorem z_cel58 : Program.cellsOf Tryd.prog 58 = 1 := by kernel_rfl
theorem z_byt58 : Program.bytesOf Tryd.prog 58 = 8 := by kernel_rfl
theorem z_zer58 : zeroA Tryd.prog 58 = some [.pv (.raw (.nilFunc))] := by kernel_rfl
theorem z_fun59 : funT Tryd.prog 59 = true := by kernel_rfl
theorem z_has59 : hasT Tryd.prog 59 = true := by kernel_rfl
theorem z_agg59 : aggT Tryd.prog 59 = false := by kernel_rfl
theorem z_cel59 : Program.cellsOf Tryd.prog 59 = 1 := by kernel_rfl
theorem z_byt59 : Program.bytesOf Tryd.prog 59 = 8 := by kernel_rfl
theorem z_zer59 : zeroA Tryd.prog 59 = some [.pv (.raw (.nilFunc))] := by kernel_rfl
theorem z_fun60 : funT Tryd.prog 60 = true := by kernel_rfl
theorem z_has60 : hasT Tryd.prog 60 = true := by kernel_rfl
theorem z_agg60 : aggT Tryd.prog 60 = false := by kernel_rfl
theorem z_cel60 : Program.cellsOf Tryd.prog 60 = 1 := by kernel_rfl
theorem z_byt60 : Program.bytesOf Tryd.prog 60 = 8 := by kernel_rfl
theorem z_zer60 : zeroA Tryd.prog 60 = some [.pv (.raw (.nilFunc))] := by kernel_rfl
theorem z_fun61 : funT Tryd.prog 61 = true := by kernel_rfl
theorem z_has61 : hasT Tryd.prog 61 = true := by kernel_rfl
theorem z_agg61 : aggT Tryd.prog 61 = false := by kernel_rfl
theorem z_cel61 : Program.cellsOf Tryd.prog 61 = 1 := by kernel_rfl
theorem z_byt61 : Program.bytesOf Tryd.prog 61 = 8 := by kernel_rfl
theorem z_zer61 : zeroA Tryd.prog 61 = some [.pv (.raw (.nilFunc))] := by kernel_rfl
theorem z_fun62 : funT Tryd.prog 62 = true := by kernel_rfl
theorem z_has62 : hasT Tryd.prog 62 = true := by kernel_rfl
theorem z_agg62 : aggT Tryd.prog 62 = false := by kernel_rfl
theorem z_cel62 : Program.cellsOf Tryd.prog 62 = 1 := by kernel_rfl
theorem z_byt62 : Program.bytesOf Tryd.prog 62 = 8 := by kernel_rfl
theorem z_zer62 : zeroA Tryd.prog 62 = some [.pv (.raw (.nilFunc))] := by kernel_rfl
theorem z_fun63 : funT Tryd.prog 63 = true := by kernel_rfl
theorem z_has63 : hasT Tryd.prog 63 = true := by kernel_rfl
theorem z_agg63 : aggT Tryd.prog 63 = false := by kernel_rfl
theorem z_cel63 : Program.cellsOf Tryd.prog 63 = 1 := by kernel_rfl
theorem z_byt63 : Program.bytesOf Tryd.prog 63 = 8 := by kernel_rfl
theorem z_zer63 : zeroA Tryd.prog 63 = some [.pv (.raw (.nilFunc))] := by kernel_rfl
theorem z_fun64 : funT Tryd.prog 64 = true := by kernel_rfl
theorem z_has64 : hasT Tryd.prog 64 = true := by kernel_rfl
theorem z_agg64 : aggT Tryd.prog 64 = false := by kernel_rfl
theorem z_cel64 : Program.cellsOf Tryd.prog 64 = 1 := by kernel_rfl
theorem z_byt64 : Program.bytesOf Tryd.prog 64 = 8 := by kernel_rfl
theorem z_zer64 : zeroA Tryd.prog 64 = some [.pv (.raw (.nilFunc))] := by kernel_rfl
theorem z_fun65 : funT Tryd.prog 65 = true := by kernel_rfl
theorem z_has65 : hasT Tryd.prog 65 = true := by kernel_rfl
theorem z_agg65 : aggT Tryd.prog 65 = false := by kernel_rfl
theorem z_cel65 : Program.cellsOf Tryd.prog 65 = 1 := by kernel_rfl
theorem z_byt65 : Program.bytesOf Tryd.prog 65 = 8 := by kernel_rfl
theorem z_zer65 : zeroA Tryd.prog 65 = some [.pv (.raw (.nilFunc))] := by kernel_rfl
theorem z_fun66 : funT Tryd.prog 66 = true := by kernel_rfl
theorem z_has66 : hasT Tryd.prog 66 = true := by kernel_rfl
theorem z_agg66 : aggT Tryd.prog 66 = false := by kernel_rfl
theorem z_cel66 : Program.cellsOf Tryd.prog 66 = 1 := by kernel_rfl
theorem z_byt66 : Program.bytesOf Tryd.prog 66 = 8 := by kernel_rfl
theorem z_zer66 : zeroA Tryd.prog 66 = some [.pv (.raw (.nilFunc))] := by kernel_rfl
theorem z_fun67 : funT Tryd.prog 67 = true := by kernel_rfl
theorem z_has67 : hasT Tryd.prog 67 = true := by kernel_rfl
theorem z_agg67 : aggT Tryd.prog 67 = false := by kernel_rfl
theorem z_cel67 : Program.cellsOf Tryd.prog 67 = 1 := by kernel_rfl
theorem z_byt67 : Program.bytesOf Tryd.prog 67 = 8 := by kernel_rfl
theorem z_zer67 : zeroA Tryd.prog 67 = some [.pv (.raw (.nilFunc))] := by kernel_rfl
theorem z_fun68 : funT Tryd.prog 68 = true := by kernel_rfl
theorem z_has68 : hasT Tryd.prog 68 = true := by kernel_rfl
theorem z_agg68 : aggT Tryd.prog 68 = false := by kernel_rfl
theorem z_cel68 : Program.cellsOf Tryd.prog 68 = 1 := by kernel_rfl
theorem z_byt68 : Program.bytesOf Tryd.prog 68 = 8 := by kernel_rfl
theorem z_zer68 : zeroA Tryd.prog 68 = some [.pv (.raw (.nilFunc))] := by kernel_rfl
theorem z_fun69 : funT Tryd.prog 69 = true := by kernel_rfl
theorem z_has69 : hasT Tryd.prog 69 = true := by kernel_rfl
theorem z_agg69 : aggT Tryd.prog 69 = false := by kernel_rfl
theorem z_cel69 : Program.cellsOf Tryd.prog 69 = 1 := by kernel_rfl
theorem z_byt69 : Program.bytesOf Tryd.prog 69 = 8 := by kernel_rfl
theorem z_zer69 : zeroA Tryd.prog 69 = some [.pv (.raw (.nilFunc))] := by kernel_rfl
theorem z_fun70 : funT Tryd.prog 70 = true := by kernel_rfl
theorem z_has70 : hasT Tryd.prog 70 = true := by kernel_rfl
theorem z_agg70 : aggT Tryd.prog 70 = false := by kernel_rfl
theorem z_cel70 : Program.cellsOf Tryd.prog 70 = 1 := by kernel_rfl
theorem z_byt70 : Program.bytesOf Tryd.prog 70 = 8 := by kernel_rfl
theorem z_zer70 : zeroA Tryd.prog 70 = some [.pv (.raw (.nilFunc))] := by kernel_rfl
theorem z_fun71 : funT Tryd.prog 71 = true := by kernel_rfl
theorem z_has71 : hasT Tryd.prog 71 = true := by kernel_rfl
theorem z_agg71 : aggT Tryd.prog 71 = false := by kernel_rfl
theorem z_cel71 : Program.cellsOf Tryd.prog 71 = 1 := by kernel_rfl
theorem z_byt71 : Program.bytesOf Tryd.prog 71 = 8 := by kernel_rfl
theorem z_zer71 : zeroA Tryd.prog 71 = some [.pv (.raw (.nilFunc))] := by kernel_rfl
theorem z_fun72 : funT Tryd.prog 72 = true := by kernel_rfl
theorem z_has72 : hasT Tryd.prog 72 = true := by kernel_rfl
theorem z_agg72 : aggT Tryd.prog 72 = false := by kernel_rfl
theorem z_cel72 : Program.cellsOf Tryd.prog 72 = 1 := by kernel_rfl
theorem z_byt72 : Program.bytesOf Tryd.prog 72 = 8 := by kernel_rfl
theorem z_zer72 : zeroA Tryd.prog 72 = some [.pv (.raw (.nilFunc))] := by kernel_rfl
theorem z_fun73 : funT Tryd.prog 73 = true := by kernel_rfl
theorem z_has73 : hasT Tryd.prog 73 = true := by kernel_rfl
theorem z_agg73 : aggT Tryd.prog 73 = false := by kernel_rfl
theorem z_cel73 : Program.cellsOf Tryd.prog 73 = 1 := by kernel_rfl
theorem z_byt73 : Program.bytesOf Tryd.prog 73 = 8 := by kernel_rfl
theorem z_zer73 : zeroA Tryd.prog 73 = some [.pv (.raw (.nilFunc))] := by kernel_rfl
theorem z_fun74 : funT Tryd.prog 74 = true := by kernel_rfl
theorem z_has74 : hasT Tryd.prog 74 = true := by kernel_rfl
theorem z_agg74 : aggT Tryd.prog 74 = false := by kernel_rfl
theorem z_cel74 : Program.cellsOf Tryd.prog 74 = 1 := by kernel_rfl
theorem z_byt74 : Program.bytesOf Tryd.prog 74 = 8 := by kernel_rfl
theorem z_zer74 : zeroA Tryd.prog 74 = some [.pv (.raw (.nilFunc))] := by kernel_rfl
theorem z_has75 : hasT Tryd.prog 75 = true := by kernel_rfl
theorem z_nst75 : strT Tryd.prog 75 = false := by kernel_rfl
theorem z_agg75 : aggT Tryd.prog 75 = false := by kernel_rfl
theorem z_elm75 : elemT Tryd.prog 75 = some 9 := by kernel_rfl
theorem z_cel75 : Program.cellsOf Tryd.prog 75 = 1 := by kernel_rfl
theorem z_byt75 : Program.bytesOf Tryd.prog 75 = 24 := by kernel_rfl
theorem z_zer75 : zeroA Tryd.prog 75 = some [.emp] := by kernel_rfl
theorem z_fun76 : funT Tryd.prog 76 = true := by kernel_rfl
theorem z_has76 : hasT Tryd.prog 76 = true := by kernel_rfl
theorem z_agg76 : aggT Tryd.prog 76 = false := by kernel_rfl
theorem z_cel76 : Program.cellsOf Tryd.prog 76 = 1 := by kernel_rfl
theorem z_byt76 : Program.bytesOf Tryd.prog 76 = 8 := by kernel_rfl
theorem z_zer76 : zeroA Tryd.prog 76 = some [.pv (.raw (.nilFunc))] := by kernel_rfl
theorem z_fun77 : funT Tryd.prog 77 = true := by kernel_rfl
theorem z_has77 : hasT Tryd.prog 77 = true := by kernel_rfl
theorem z_agg77 : aggT Tryd.prog 77 = false := by kernel_rfl
theorem z_cel77 : Program.cellsOf Tryd.prog 77 = 1 := by kernel_rfl
theorem z_byt77 : Program.bytesOf Tryd.prog 77 = 8 := by kernel_rfl
theorem z_zer77 : zeroA Tryd.prog 77 = some [.pv (.raw (.nilFunc))] := by kernel_rfl
theorem z_fun78 : funT Tryd.prog 78 = true := by kernel_rfl
theorem z_has78 : hasT Tryd.prog 78 = true := by kernel_rfl
theorem z_agg78 : aggT Tryd.prog 78 = false := by kernel_rfl
theorem z_cel78 : Program.cellsOf Tryd.prog 78 = 1 := by kernel_rfl
theorem z_byt78 : Program.bytesOf Tryd.prog 78 = 8 := by kernel_rfl
theorem z_zer78 : zeroA Tryd.prog 78 = some [.pv (.raw (.nilFunc))] := by kernel_rfl
theorem z_fun79 : funT Tryd.prog 79 = true := by kernel_rfl
theorem z_has79 : hasT Tryd.prog 79 = true := by kernel_rfl
theorem z_agg79 : aggT Tryd.prog 79 = false := by kernel_rfl
theorem z_cel79 : Program.cellsOf Tryd.prog 79 = 1 := by kernel_rfl
theorem z_byt79 : Program.bytesOf Tryd.prog 79 = 8 := by kernel_rfl
theorem z_zer79 : zeroA Tryd.prog 79 = some [.pv (.raw (.nilFunc))] := by kernel_rfl
theorem z_fun80 : funT Tryd.prog 80 = true := by kernel_rfl
theorem z_has80 : hasT Tryd.prog 80 = true := by kernel_rfl
theorem z_agg80 : aggT Tryd.prog 80 = false := by kernel_rfl
theorem z_cel80 : Program.cellsOf Tryd.prog 80 = 1 := by kernel_rfl
theorem z_byt80 : Program.bytesOf Tryd.prog 80 = 8 := by kernel_rfl
theorem z_zer80 : zeroA Tryd.prog 80 = some [.pv (.raw (.nilFunc))] := by kernel_rfl
theorem z_fun81 : funT Tryd.prog 81 = true := by kernel_rfl
theorem z_has81 : hasT Tryd.prog 81 = true := by kernel_rfl
theorem z_agg81 : aggT Tryd.prog 81 = false := by kernel_rfl
theorem z_cel81 : Program.cellsOf Tryd.prog 81 = 1 := by kernel_rfl
theorem z_byt81 : Program.bytesOf Tryd.prog 81 = 8 := by kernel_rfl
theorem z_zer81 : zeroA Tryd.prog 81 = some [.pv (.raw (.nilFunc))] := by kernel_rfl
theorem z_fun82 : funT Tryd.prog 82 = true := by kernel_rfl
theorem z_has82 : hasT Tryd.prog 82 = true := by kernel_rfl
theorem z_agg82 : aggT Tryd.prog 82 = false := by kernel_rfl
theorem z_cel82 : Program.cellsOf Tryd.prog 82 = 1 := by kernel_rfl
theorem z_byt82 : Program.bytesOf Tryd.prog 82 = 8 := by kernel_rfl
theorem z_zer82 : zeroA Tryd.prog 82 = some [.pv (.raw (.nilFunc))] := by kernel_rfl
theorem z_fun83 : funT Tryd.prog 83 = true := by kernel_rfl
theorem z_has83 : hasT Tryd.prog 83 = true := by kernel_rfl
theorem z_agg83 : aggT Tryd.prog 83 = false := by kernel_rfl
theorem z_cel83 : Program.cellsOf Tryd.prog 83 = 1 := by kernel_rfl
theorem z_byt83 : Program.bytesOf Tryd.prog 83 = 8 := by kernel_rfl
theorem z_zer83 : zeroA Tryd.prog 83 = some [.pv (.raw (.nilFunc))] := by kernel_rfl
theorem z_has84 : hasT Tryd.prog 84 = true := by kernel_rfl
theorem z_agg84 : aggT Tryd.prog 84 = false := by kernel_rfl
theorem z_int84 : intT Tryd.prog 84 = some .u64 := by kernel_rfl
theorem z_cel84 : Program.cellsOf Tryd.prog 84 = 1 := by kernel_rfl
theorem z_byt84 : Program.bytesOf Tryd.prog 84 = 8 := by kernel_rfl
theorem z_zer84 : zeroA Tryd.prog 84 = some [.pv (.int .u64 0)] := by kernel_rfl
theorem z_ptr85 : ptrT Tryd.prog 85 = true := by kernel_rfl
theorem z_has85 : hasT Tryd.prog 85 = true := by kernel_rfl
theorem z_agg85 : aggT Tryd.prog 85 = false := by kernel_rfl
theorem z_cel85 : Program.cellsOf Tryd.prog 85 = 1 := by kernel_rfl
theorem z_byt85 : Program.bytesOf Tryd.prog 85 = 8 := by kernel_rfl
theorem z_zer85 : zeroA Tryd.prog 85 = some [.pv (.raw (.pointer none))] := by kernel_rfl
theorem z_stt86 : stT Tryd.prog 86 = true := by kernel_rfl
theorem z_has86 : hasT Tryd.prog 86 = true := by kernel_rfl
theorem z_agg86 : aggT Tryd.prog 86 = true := by kernel_rfl
theorem z_cel86 : Program.cellsOf Tryd.prog 86 = 2 := by kernel_rfl
theorem z_byt86 : Program.bytesOf Tryd.prog 86 = 32 := by kernel_rfl
theorem z_off86_0 : offT Tryd.prog 86 0 = some 0 := by kernel_rfl
theorem z_fld86_0 : fldT Tryd.prog 86 0 = some 85 := by kernel_rfl
theorem z_off86_1 : offT Tryd.prog 86 1 = some 1 := by kernel_rfl
theorem z_fld86_1 : fldT Tryd.prog 86 1 = some 22 := by kernel_rfl
theorem z_zer86 : zeroA Tryd.prog 86 = some [.pv (.raw (.pointer none)), .emp] := by kernel_rfl
theorem z_eqT86 : eqT Tryd.prog 86 = some [(0, 85), (1, 22)] := by kernel_rfl
theorem z_stt87 : stT Tryd.prog 87 = true := by kernel_rfl
theorem z_has87 : hasT Tryd.prog 87 = true := by kernel_rfl
theorem z_agg87 : aggT Tryd.prog 87 = true := by kernel_rfl
theorem z_cel87 : Program.cellsOf Tryd.prog 87 = 2 := by kernel_rfl
theorem z_byt87 : Program.bytesOf Tryd.prog 87 = 32 := by kernel_rfl
theorem z_off87_0 : offT Tryd.prog 87 0 = some 0 := by kernel_rfl
theorem z_fld87_0 : fldT Tryd.prog 87 0 = some 85 := by kernel_rfl
theorem z_off87_1 : offT Tryd.prog 87 1 = some 1 := by kernel_rfl
theorem z_fld87_1 : fldT Tryd.prog 87 1 = some 22 := by kernel_rfl
theorem z_zer87 : zeroA Tryd.prog 87 = some [.pv (.raw (.pointer none)), .emp] := by kernel_rfl
theorem z_eqT87 : eqT Tryd.prog 87 = some [(0, 85), (1, 22)] := by kernel_rfl
theorem z_fun88 : funT Tryd.prog 88 = true := by kernel_rfl
theorem z_has88 : hasT Tryd.prog 88 = true := by kernel_rfl
theorem z_agg88 : aggT Tryd.prog 88 = false := by kernel_rfl
theorem z_cel88 : Program.cellsOf Tryd.prog 88 = 1 := by kernel_rfl
theorem z_byt88 : Program.bytesOf Tryd.prog 88 = 8 := by kernel_rfl
theorem z_zer88 : zeroA Tryd.prog 88 = some [.pv (.raw (.nilFunc))] := by kernel_rfl
theorem z_has89 : hasT Tryd.prog 89 = true := by kernel_rfl
theorem z_agg89 : aggT Tryd.prog 89 = false := by kernel_rfl
theorem z_cel89 : Program.cellsOf Tryd.prog 89 = 1 := by kernel_rfl
theorem z_byt89 : Program.bytesOf Tryd.prog 89 = 16 := by kernel_rfl
theorem z_zer89 : zeroA Tryd.prog 89 = some [.pv (.raw (.nilIface))] := by kernel_rfl
theorem z_has90 : hasT Tryd.prog 90 = true := by kernel_rfl
theorem z_agg90 : aggT Tryd.prog 90 = false := by kernel_rfl
theorem z_cel90 : Program.cellsOf Tryd.prog 90 = 1 := by kernel_rfl
theorem z_byt90 : Program.bytesOf Tryd.prog 90 = 16 := by kernel_rfl
theorem z_zer90 : zeroA Tryd.prog 90 = some [.pv (.raw (.nilIface))] := by kernel_rfl
theorem z_has91 : hasT Tryd.prog 91 = true := by kernel_rfl
theorem z_agg91 : aggT Tryd.prog 91 = false := by kernel_rfl
theorem z_cel91 : Program.cellsOf Tryd.prog 91 = 1 := by kernel_rfl
theorem z_byt91 : Program.bytesOf Tryd.prog 91 = 0 := by kernel_rfl
theorem z_fun92 : funT Tryd.prog 92 = true := by kernel_rfl
theorem z_has92 : hasT Tryd.prog 92 = true := by kernel_rfl
theorem z_agg92 : aggT Tryd.prog 92 = false := by kernel_rfl
theorem z_cel92 : Program.cellsOf Tryd.prog 92 = 1 := by kernel_rfl
theorem z_byt92 : Program.bytesOf Tryd.prog 92 = 8 := by kernel_rfl
theorem z_zer92 : zeroA Tryd.prog 92 = some [.pv (.raw (.nilFunc))] := by kernel_rfl
theorem z_fun93 : funT Tryd.prog 93 = true := by kernel_rfl
theorem z_has93 : hasT Tryd.prog 93 = true := by kernel_rfl
theorem z_agg93 : aggT Tryd.prog 93 = false := by kernel_rfl
theorem z_cel93 : Program.cellsOf Tryd.prog 93 = 1 := by kernel_rfl
theorem z_byt93 : Program.bytesOf Tryd.prog 93 = 8 := by kernel_rfl
theorem z_zer93 : zeroA Tryd.prog 93 = some [.pv (.raw (.nilFunc))] := by kernel_rfl
theorem z_fun94 : funT Tryd.prog 94 = true := by kernel_rfl
theorem z_has94 : hasT Tryd.prog 94 = true := by kernel_rfl
theorem z_agg94 : aggT Tryd.prog 94 = false := by kernel_rfl
theorem z_cel94 : Program.cellsOf Tryd.prog 94 = 1 := by kernel_rfl
theorem z_byt94 : Program.bytesOf Tryd.prog 94 = 8 := by kernel_rfl
theorem z_zer94 : zeroA Tryd.prog 94 = some [.pv (.raw (.nilFunc))] := by kernel_rfl
theorem z_has95 : hasT Tryd.prog 95 = true := by kernel_rfl
theorem z_agg95 : aggT Tryd.prog 95 = false := by kernel_rfl
theorem z_int95 : intT Tryd.prog 95 = some .i64 := by kernel_rfl
theorem z_cel95 : Program.cellsOf Tryd.prog 95 = 1 := by kernel_rfl
theorem z_byt95 : Program.bytesOf Tryd.prog 95 = 8 := by kernel_rfl
theorem z_zer95 : zeroA Tryd.prog 95 = some [.pv (.int .i64 0)] := by kernel_rfl
theorem z_has96 : hasT Tryd.prog 96 = true := by kernel_rfl
theorem z_agg96 : aggT Tryd.prog 96 = false := by kernel_rfl
theorem z_cel96 : Program.cellsOf Tryd.prog 96 = 1 := by kernel_rfl
theorem z_byt96 : Program.bytesOf Tryd.prog 96 = 0 := by kernel_rfl
theorem z_fun97 : funT Tryd.prog 97 = true := by kernel_rfl
theorem z_has97 : hasT Tryd.prog 97 = true := by kernel_rfl
theorem z_agg97 : aggT Tryd.prog 97 = false := by kernel_rfl
theorem z_cel97 : Program.cellsOf Tryd.prog 97 = 1 := by kernel_rfl
theorem z_byt97 : Program.bytesOf Tryd.prog 97 = 8 := by kernel_rfl
theorem z_zer97 : zeroA Tryd.prog 97 = some [.pv (.raw (.nilFunc))] := by kernel_rfl
theorem z_fun98 : funT Tryd.prog 98 = true := by kernel_rfl
theorem z_has98 : hasT Tryd.prog 98 = true := by kernel_rfl
theorem z_agg98 : aggT Tryd.prog 98 = false := by kernel_rfl
theorem z_cel98 : Program.cellsOf Tryd.prog 98 = 1 := by kernel_rfl
theorem z_byt98 : Program.bytesOf Tryd.prog 98 = 8 := by kernel_rfl
theorem z_zer98 : zeroA Tryd.prog 98 = some [.pv (.raw (.nilFunc))] := by kernel_rfl
theorem z_fun99 : funT Tryd.prog 99 = true := by kernel_rfl
theorem z_has99 : hasT Tryd.prog 99 = true := by kernel_rfl
theorem z_agg99 : aggT Tryd.prog 99 = false := by kernel_rfl
theorem z_cel99 : Program.cellsOf Tryd.prog 99 = 1 := by kernel_rfl
theorem z_byt99 : Program.bytesOf Tryd.prog 99 = 8 := by kernel_rfl
theorem z_zer99 : zeroA Tryd.prog 99 = some [.pv (.raw (.nilFunc))] := by kernel_rfl
theorem z_has100 : hasT Tryd.prog 100 = true := by kernel_rfl
theorem z_agg100 : aggT Tryd.prog 100 = false := by kernel_rfl
theorem z_cel100 : Program.cellsOf Tryd.prog 100 = 1 := by kernel_rfl
theorem z_byt100 : Program.bytesOf Tryd.prog 100 = 0 := by kernel_rfl
theorem z_fun101 : funT Tryd.prog 101 = true := by kernel_rfl
theorem z_has101 : hasT Tryd.prog 101 = true := by kernel_rfl
theorem z_agg101 : aggT Tryd.prog 101 = false := by kernel_rfl
theorem z_cel101 : Program.cellsOf Tryd.prog 101 = 1 := by kernel_rfl
theorem z_byt101 : Program.bytesOf Tryd.prog 101 = 8 := by kernel_rfl
theorem z_zer101 : zeroA Tryd.prog 101 = some [.pv (.raw (.nilFunc))] := by kernel_rfl
theorem z_fun102 : funT Tryd.prog 102 = true := by kernel_rfl
theorem z_has102 : hasT Tryd.prog 102 = true := by kernel_rfl
theorem z_agg102 : aggT Tryd.prog 102 = false := by kernel_rfl
theorem z_cel102 : Program.cellsOf Tryd.prog 102 = 1 := by kernel_rfl
theorem z_byt102 : Program.bytesOf Tryd.prog 102 = 8 := by kernel_rfl
theorem z_zer102 : zeroA Tryd.prog 102 = some [.pv (.raw (.nilFunc))] := by kernel_rfl
theorem z_has103 : hasT Tryd.prog 103 = true := by kernel_rfl
theorem z_agg103 : aggT Tryd.prog 103 = false := by kernel_rfl
theorem z_int103 : intT Tryd.prog 103 = some .u32 := by kernel_rfl
theorem z_cel103 : Program.cellsOf Tryd.prog 103 = 1 := by kernel_rfl
theorem z_byt103 : Program.bytesOf Tryd.prog 103 = 4 := by kernel_rfl
theorem z_zer103 : zeroA Tryd.prog 103 = some [.pv (.int .u32 0)] := by kernel_rfl
theorem z_fun104 : funT Tryd.prog 104 = true := by kernel_rfl
theorem z_has104 : hasT Tryd.prog 104 = true := by kernel_rfl
theorem z_agg104 : aggT Tryd.prog 104 = false := by kernel_rfl
theorem z_cel104 : Program.cellsOf Tryd.prog 104 = 1 := by kernel_rfl
theorem z_byt104 : Program.bytesOf Tryd.prog 104 = 8 := by kernel_rfl
theorem z_zer104 : zeroA Tryd.prog 104 = some [.pv (.raw (.nilFunc))] := by kernel_rfl
theorem z_has105 : hasT Tryd.prog 105 = true := by kernel_rfl
theorem z_agg105 : aggT Tryd.prog 105 = false := by kernel_rfl
theorem z_int105 : intT Tryd.prog 105 = some .u64 := by kernel_rfl
theorem z_cel105 : Program.cellsOf Tryd.prog 105 = 1 := by kernel_rfl
theorem z_byt105 : Program.bytesOf Tryd.prog 105 = 8 := by kernel_rfl
theorem z_zer105 : zeroA Tryd.prog 105 = some [.pv (.int .u64 0)] := by kernel_rfl
theorem z_fun106 : funT Tryd.prog 106 = true := by kernel_rfl
theorem z_has106 : hasT Tryd.prog 106 = true := by kernel_rfl
theorem z_agg106 : aggT Tryd.prog 106 = false := by kernel_rfl
theorem z_cel106 : Program.cellsOf Tryd.prog 106 = 1 := by kernel_rfl
theorem z_byt106 : Program.bytesOf Tryd.prog 106 = 8 := by kernel_rfl
theorem z_zer106 : zeroA Tryd.prog 106 = some [.pv (.raw (.nilFunc))] := by kernel_rfl
theorem z_ptr107 : ptrT Tryd.prog 107 = true := by kernel_rfl
theorem z_has107 : hasT Tryd.prog 107 = true := by kernel_rfl
theorem z_agg107 : aggT Tryd.prog 107 = false := by kernel_rfl
theorem z_cel107 : Program.cellsOf Tryd.prog 107 = 1 := by kernel_rfl
theorem z_byt107 : Program.bytesOf Tryd.prog 107 = 8 := by kernel_rfl
theorem z_zer107 : zeroA Tryd.prog 107 = some [.pv (.raw (.pointer none))] := by kernel_rfl
theorem z_fun108 : funT Tryd.prog 108 = true := by kernel_rfl
theorem z_has108 : hasT Tryd.prog 108 = true := by kernel_rfl
theorem z_agg108 : aggT Tryd.prog 108 = false := by kernel_rfl
theorem z_cel108 : Program.cellsOf Tryd.prog 108 = 1 := by kernel_rfl
theorem z_byt108 : Program.bytesOf Tryd.prog 108 = 8 := by kernel_rfl
theorem z_zer108 : zeroA Tryd.prog 108 = some [.pv (.raw (.nilFunc))] := by kernel_rfl
theorem z_fun109 : funT Tryd.prog 109 = true := by kernel_rfl
theorem z_has109 : hasT Tryd.prog 109 = true := by kernel_rfl
theorem z_agg109 : aggT Tryd.prog 109 = false := by kernel_rfl
theorem z_cel109 : Program.cellsOf Tryd.prog 109 = 1 := by kernel_rfl
theorem z_byt109 : Program.bytesOf Tryd.prog 109 = 8 := by kernel_rfl
theorem z_zer109 : zeroA Tryd.prog 109 = some [.pv (.raw (.nilFunc))] := by kernel_rfl
theorem z_fun110 : funT Tryd.prog 110 = true := by kernel_rfl
theorem z_has110 : hasT Tryd.prog 110 = true := by kernel_rfl
theorem z_agg110 : aggT Tryd.prog 110 = false := by kernel_rfl
theorem z_cel110 : Program.cellsOf Tryd.prog 110 = 1 := by kernel_rfl
theorem z_byt110 : Program.bytesOf Tryd.prog 110 = 8 := by kernel_rfl
theorem z_zer110 : zeroA Tryd.prog 110 = some [.pv (.raw (.nilFunc))] := by kernel_rfl
theorem z_fun111 : funT Tryd.prog 111 = true := by kernel_rfl
theorem z_has111 : hasT Tryd.prog 111 = true := by kernel_rfl
theorem z_agg111 : aggT Tryd.prog 111 = false := by kernel_rfl
theorem z_cel111 : Program.cellsOf Tryd.prog 111 = 1 := by kernel_rfl
theorem z_byt111 : Program.bytesOf Tryd.prog 111 = 8 := by kernel_rfl
theorem z_zer111 : zeroA Tryd.prog 111 = some [.pv (.raw (.nilFunc))] := by kernel_rfl
theorem z_fun112 : funT Tryd.prog 112 = true := by kernel_rfl
theorem z_has112 : hasT Tryd.prog 112 = true := by kernel_rfl
theorem z_agg112 : aggT Tryd.prog 112 = false := by kernel_rfl
theorem z_cel112 : Program.cellsOf Tryd.prog 112 = 1 := by kernel_rfl
theorem z_byt112 : Program.bytesOf Tryd.prog 112 = 8 := by kernel_rfl
theorem z_zer112 : zeroA Tryd.prog 112 = some [.pv (.raw (.nilFunc))] := by kernel_rfl
theorem z_has113 : hasT Tryd.prog 113 = true := by kernel_rfl
theorem z_agg113 : aggT Tryd.prog 113 = false := by kernel_rfl
theorem z_int113 : intT Tryd.prog 113 = some .u64 := by kernel_rfl
theorem z_cel113 : Program.cellsOf Tryd.prog 113 = 1 := by kernel_rfl
theorem z_byt113 : Program.bytesOf Tryd.prog 113 = 8 := by kernel_rfl
theorem z_zer113 : zeroA Tryd.prog 113 = some [.pv (.int .u64 0)] := by kernel_rfl
theorem z_fun114 : funT Tryd.prog 114 = true := by kernel_rfl
theorem z_has114 : hasT Tryd.prog 114 = true := by kernel_rfl
theorem z_agg114 : aggT Tryd.prog 114 = false := by kernel_rfl
theorem z_cel114 : Program.cellsOf Tryd.prog 114 = 1 := by kernel_rfl
theorem z_byt114 : Program.bytesOf Tryd.prog 114 = 8 := by kernel_rfl
theorem z_zer114 : zeroA Tryd.prog 114 = some [.pv (.raw (.nilFunc))] := by kernel_rfl
theorem z_fun115 : funT Tryd.prog 115 = true := by kernel_rfl
theorem z_has115 : hasT Tryd.prog 115 = true := by kernel_rfl
theorem z_agg115 : aggT Tryd.prog 115 = false := by kernel_rfl
theorem z_cel115 : Program.cellsOf Tryd.prog 115 = 1 := by kernel_rfl
theorem z_byt115 : Program.bytesOf Tryd.prog 115 = 8 := by kernel_rfl
theorem z_zer115 : zeroA Tryd.prog 115 = some [.pv (.raw (.nilFunc))] := by kernel_rfl
theorem z_fun116 : funT Tryd.prog 116 = true := by kernel_rfl
theorem z_has116 : hasT Tryd.prog 116 = true := by kernel_rfl
theorem z_agg116 : aggT Tryd.prog 116 = false := by kernel_rfl
theorem z_cel116 : Program.cellsOf Tryd.prog 116 = 1 := by kernel_rfl
theorem z_byt116 : Program.bytesOf Tryd.prog 116 = 8 := by kernel_rfl
theorem z_zer116 : zeroA Tryd.prog 116 = some [.pv (.raw (.nilFunc))] := by kernel_rfl
theorem z_ptr117 : ptrT Tryd.prog 117 = true := by kernel_rfl
theorem z_has117 : hasT Tryd.prog 117 = true := by kernel_rfl
theorem z_agg117 : aggT Tryd.prog 117 = false := by kernel_rfl
theorem z_cel117 : Program.cellsOf Tryd.prog 117 = 1 := by kernel_rfl
theorem z_byt117 : Program.bytesOf Tryd.prog 117 = 8 := by kernel_rfl
theorem z_zer117 : zeroA Tryd.prog 117 = some [.pv (.raw (.pointer none))] := by kernel_rfl
theorem z_fun118 : funT Tryd.prog 118 = true := by kernel_rfl
theorem z_has118 : hasT Tryd.prog 118 = true := by kernel_rfl
theorem z_agg118 : aggT Tryd.prog 118 = false := by kernel_rfl
theorem z_cel118 : Program.cellsOf Tryd.prog 118 = 1 := by kernel_rfl
theorem z_byt118 : Program.bytesOf Tryd.prog 118 = 8 := by kernel_rfl
theorem z_zer118 : zeroA Tryd.prog 118 = some [.pv (.raw (.nilFunc))] := by kernel_rfl
theorem z_has119 : hasT Tryd.prog 119 = true := by kernel_rfl
theorem z_agg119 : aggT Tryd.prog 119 = true := by kernel_rfl
theorem z_arr119 : arrT Tryd.prog 119 = some (24, 5) := by kernel_rfl
theorem z_cel119 : Program.cellsOf Tryd.prog 119 = 24 := by kernel_rfl
theorem z_byt119 : Program.bytesOf Tryd.prog 119 = 24 := by kernel_rfl
theorem z_zer119 : zeroA Tryd.prog 119 = some [.pv (.int .u8 0), .pv (.int .u8 0), .pv (.int .u8 0), .pv (.int .u8 0), .pv (.int .u8 0), .pv (.int .u8 0), .pv (.int .u8 0), .pv (.int .u8 0), .pv (.int .u8 0), .pv (.int .u8 0), .pv (.int .u8 0), .pv (.int .u8 0), .pv (.int .u8 0), .pv (.int .u8 0), .pv (.int .u8 0), .pv (.int .u8 0), .pv (.int .u8 0), .pv (.int .u8 0), .pv (.int .u8 0), .pv (.int .u8 0), .pv (.int .u8 0), .pv (.int .u8 0), .pv (.int .u8 0), .pv (.int .u8 0)] := by kernel_rfl
theorem z_fun120 : funT Tryd.prog 120 = true := by kernel_rfl
theorem z_has120 : hasT Tryd.prog 120 = true := by kernel_rfl
theorem z_agg120 : aggT Tryd.prog 120 = false := by kernel_rfl
theorem z_cel120 : Program.cellsOf Tryd.prog 120 = 1 := by kernel_rfl
theorem z_byt120 : Program.bytesOf Tryd.prog 120 = 8 := by kernel_rfl
theorem z_zer120 : zeroA Tryd.prog 120 = some [.pv (.raw (.nilFunc))] := by kernel_rfl
theorem z_has121 : hasT Tryd.prog 121 = true := by kernel_rfl
theorem z_agg121 : aggT Tryd.prog 121 = false := by kernel_rfl
theorem z_cel121 : Program.cellsOf Tryd.prog 121 = 1 := by kernel_rfl
theorem z_byt121 : Program.bytesOf Tryd.prog 121 = 0 := by kernel_rfl
theorem z_fun122 : funT Tryd.prog 122 = true := by kernel_rfl
theorem z_has122 : hasT Tryd.prog 122 = true := by kernel_rfl
theorem z_agg122 : aggT Tryd.prog 122 = false := by kernel_rfl
theorem z_cel122 : Program.cellsOf Tryd.prog 122 = 1 := by kernel_rfl
theorem z_byt122 : Program.bytesOf Tryd.prog 122 = 8 := by kernel_rfl
theorem z_zer122 : zeroA Tryd.prog 122 = some [.pv (.raw (.nilFunc))] := by kernel_rfl
theorem z_has123 : hasT Tryd.prog 123 = true := by kernel_rfl
theorem z_agg123 : aggT Tryd.prog 123 = false := by kernel_rfl
theorem z_cel123 : Program.cellsOf Tryd.prog 123 = 1 := by kernel_rfl
theorem z_byt123 : Program.bytesOf Tryd.prog 123 = 8 := by kernel_rfl
theorem z_zer123 : zeroA Tryd.prog 123 = some [.pv (.raw (.pointer none))] := by kernel_rfl
theorem zf : type_of% (And.intro (And.intro (And.intro (And.intro (And.intro (And.intro (And.intro (And.intro (And.intro z_has0 (And.intro z_agg0 z_cel0)) (And.intro z_byt0 (And.intro z_fun1 z_has1))) (And.intro (And.intro z_agg1 (And.intro z_cel1 z_byt1)) (And.intro z_zer1 (And.intro z_has2 z_agg2)))) (And.intro (And.intro (And.intro z_int2 (And.intro z_cel2 z_byt2)) (And.intro z_zer2 (And.intro z_has3 z_agg3))) (And.intro (And.intro z_int3 (And.intro z_cel3 z_byt3)) (And.intro z_zer3 (And.intro z_boo4 z_has4))))) (And.intro (And.intro (And.intro (And.intro z_agg4 (And.intro z_cel4 z_byt4)) (And.intro z_zer4 (And.intro z_has5 z_agg5))) (And.intro (And.intro z_int5 (And.intro z_cel5 z_byt5)) (And.intro z_zer5 (And.intro z_has6 z_agg6)))) (And.intro (And.intro (And.intro z_int6 (And.intro z_cel6 z_byt6)) (And.intro z_zer6 (And.intro z_stt7 z_has7))) (And.intro (And.intro z_agg7 (And.intro z_cel7 z_byt7)) (And.intro (And.intro z_off7_0 z_fld7_0) (And.intro z_off7_1 z_fld7_1)))))) (And.intro (And.intro (And.intro (And.intro (And.intro z_off7_2 (And.intro z_fld7_2 z_off7_3)) (And.intro z_fld7_3 (And.intro z_zer7 z_eqT7))) (And.intro (And.intro z_stt8 (And.intro z_has8 z_agg8)) (And.intro z_cel8 (And.intro z_byt8 z_off8_0)))) (And.intro (And.intro (And.intro z_fld8_0 (And.intro z_off8_1 z_fld8_1)) (And.intro z_off8_2 (And.intro z_fld8_2 z_off8_3))) (And.intro (And.intro z_fld8_3 (And.intro z_zer8 z_eqT8)) (And.intro z_str9 (And.intro z_has9 z_agg9))))) (And.intro (And.intro (And.intro (And.intro z_cel9 (And.intro z_byt9 z_zer9)) (And.intro z_str10 (And.intro z_has10 z_agg10))) (And.intro (And.intro z_cel10 (And.intro z_byt10 z_zer10)) (And.intro z_str11 (And.intro z_has11 z_agg11)))) (And.intro (And.intro (And.intro z_cel11 (And.intro z_byt11 z_zer11)) (And.intro z_has12 (And.intro z_agg12 z_int12))) (And.intro (And.intro z_cel12 (And.intro z_byt12 z_zer12)) (And.intro (And.intro z_stt13 z_has13) (And.intro z_agg13 z_cel13))))))) (And.intro (And.intro (And.intro (And.intro (And.intro (And.intro z_byt13 (And.intro z_off13_0 z_fld13_0)) (And.intro z_off13_1 (And.intro z_fld13_1 z_zer13))) (And.intro (And.intro z_stt14 (And.intro z_has14 z_agg14)) (And.intro z_cel14 (And.intro z_byt14 z_off14_0)))) (And.intro (And.intro (And.intro z_fld14_0 (And.intro z_off14_1 z_fld14_1)) (And.intro z_zer14 (And.intro z_ptr15 z_has15))) (And.intro (And.intro z_agg15 (And.intro z_cel15 z_byt15)) (And.intro z_zer15 (And.intro z_ptr16 z_has16))))) (And.intro (And.intro (And.intro (And.intro z_agg16 (And.intro z_cel16 z_byt16)) (And.intro z_zer16 (And.intro z_ptr17 z_has17))) (And.intro (And.intro z_agg17 (And.intro z_cel17 z_byt17)) (And.intro z_zer17 (And.intro z_stt18 z_has18)))) (And.intro (And.intro (And.intro z_agg18 (And.intro z_cel18 z_byt18)) (And.intro z_off18_0 (And.intro z_fld18_0 z_zer18))) (And.intro (And.intro z_stt19 (And.intro z_has19 z_agg19)) (And.intro (And.intro z_cel19 z_byt19) (And.intro z_off19_0 z_fld19_0)))))) (And.intro (And.intro (And.intro (And.intro (And.intro z_zer19 (And.intro z_has20 z_agg20)) (And.intro z_cel20 (And.intro z_byt20 z_zer20))) (And.intro (And.intro z_has21 (And.intro z_agg21 z_int21)) (And.intro z_cel21 (And.intro z_byt21 z_zer21)))) (And.intro (And.intro (And.intro z_has22 (And.intro z_nst22 z_agg22)) (And.intro z_elm22 (And.intro z_cel22 z_byt22))) (And.intro (And.intro z_zer22 (And.intro z_has23 z_nst23)) (And.intro z_agg23 (And.intro z_elm23 z_cel23))))) (And.intro (And.intro (And.intro (And.intro z_byt23 (And.intro z_zer23 z_stt24)) (And.intro z_has24 (And.intro z_agg24 z_cel24))) (And.intro (And.intro z_byt24 (And.intro z_off24_0 z_fld24_0)) (And.intro z_zer24 (And.intro z_eqT24 z_stt25)))) (And.intro (And.intro (And.intro z_has25 (And.intro z_agg25 z_cel25)) (And.intro z_byt25 (And.intro z_off25_0 z_fld25_0))) (And.intro (And.intro z_zer25 (And.intro z_eqT25 z_has26)) (And.intro (And.intro z_agg26 z_int26) (And.intro z_cel26 z_byt26)))))))) (And.intro (And.intro (And.intro (And.intro (And.intro (And.intro (And.intro z_zer26 (And.intro z_has27 z_agg27)) (And.intro z_cel27 (And.intro z_byt27 z_fun28))) (And.intro (And.intro z_has28 (And.intro z_agg28 z_cel28)) (And.intro z_byt28 (And.intro z_zer28 z_has29)))) (And.intro (And.intro (And.intro z_nst29 (And.intro z_agg29 z_elm29)) (And.intro z_cel29 (And.intro z_byt29 z_zer29))) (And.intro (And.intro z_has30 (And.intro z_agg30 z_cel30)) (And.intro z_byt30 (And.intro z_fun31 z_has31))))) (And.intro (And.intro (And.intro (And.intro z_agg31 (And.intro z_cel31 z_byt31)) (And.intro z_zer31 (And.intro z_fun32 z_has32))) (And.intro (And.intro z_agg32 (And.intro z_cel32 z_byt32)) (And.intro z_zer32 (And.intro z_fun33 z_has33)))) (And.intro (And.intro (And.intro z_agg33 (And.intro z_cel33 z_byt33)) (And.intro z_zer33 (And.intro z_fun34 z_has34))) (And.intro (And.intro z_agg34 (And.intro z_cel34 z_byt34)) (And.intro (And.intro z_zer34 z_has35) (And.intro z_agg35 z_cel35)))))) (And.intro (And.intro (And.intro (And.intro (And.intro z_byt35 (And.intro z_fun36 z_has36)) (And.intro z_agg36 (And.intro z_cel36 z_byt36))) (And.intro (And.intro z_zer36 (And.intro z_fun37 z_has37)) (And.intro z_agg37 (And.intro z_cel37 z_byt37)))) (And.intro (And.intro (And.intro z_zer37 (And.intro z_fun38 z_has38)) (And.intro z_agg38 (And.intro z_cel38 z_byt38))) (And.intro (And.intro z_zer38 (And.intro z_fun39 z_has39)) (And.intro z_agg39 (And.intro z_cel39 z_byt39))))) (And.intro (And.intro (And.intro (And.intro z_zer39 (And.intro z_has40 z_nst40)) (And.intro z_agg40 (And.intro z_elm40 z_cel40))) (And.intro (And.intro z_byt40 (And.intro z_zer40 z_has41)) (And.intro z_agg41 (And.intro z_cel41 z_byt41)))) (And.intro (And.intro (And.intro z_fun42 (And.intro z_has42 z_agg42)) (And.intro z_cel42 (And.intro z_byt42 z_zer42))) (And.intro (And.intro z_has43 (And.intro z_agg43 z_cel43)) (And.intro (And.intro z_byt43 z_fun44) (And.intro z_has44 z_agg44))))))) (And.intro (And.intro (And.intro (And.intro (And.intro (And.intro z_cel44 (And.intro z_byt44 z_zer44)) (And.intro z_fun45 (And.intro z_has45 z_agg45))) (And.intro (And.intro z_cel45 (And.intro z_byt45 z_zer45)) (And.intro z_has46 (And.intro z_agg46 z_cel46)))) (And.intro (And.intro (And.intro z_byt46 (And.intro z_fun47 z_has47)) (And.intro z_agg47 (And.intro z_cel47 z_byt47))) (And.intro (And.intro z_zer47 (And.intro z_fun48 z_has48)) (And.intro z_agg48 (And.intro z_cel48 z_byt48))))) (And.intro (And.intro (And.intro (And.intro z_zer48 (And.intro z_fun49 z_has49)) (And.intro z_agg49 (And.intro z_cel49 z_byt49))) (And.intro (And.intro z_zer49 (And.intro z_fun50 z_has50)) (And.intro z_agg50 (And.intro z_cel50 z_byt50)))) (And.intro (And.intro (And.intro z_zer50 (And.intro z_fun51 z_has51)) (And.intro z_agg51 (And.intro z_cel51 z_byt51))) (And.intro (And.intro z_zer51 (And.intro z_stt52 z_has52)) (And.intro (And.intro z_agg52 z_cel52) (And.intro z_byt52 z_off52_0)))))) (And.intro (And.intro (And.intro (And.intro (And.intro z_fld52_0 (And.intro z_off52_1 z_fld52_1)) (And.intro z_zer52 (And.intro z_eqT52 z_stt53))) (And.intro (And.intro z_has53 (And.intro z_agg53 z_cel53)) (And.intro z_byt53 (And.intro z_off53_0 z_fld53_0)))) (And.intro (And.intro (And.intro z_off53_1 (And.intro z_fld53_1 z_zer53)) (And.intro z_eqT53 (And.intro z_fun54 z_has54))) (And.intro (And.intro z_agg54 (And.intro z_cel54 z_byt54)) (And.intro z_zer54 (And.intro z_stt55 z_has55))))) (And.intro (And.intro (And.intro (And.intro z_agg55 (And.intro z_cel55 z_byt55)) (And.intro z_off55_0 (And.intro z_fld55_0 z_off55_1))) (And.intro (And.intro z_fld55_1 (And.intro z_zer55 z_eqT55)) (And.intro z_fun56 (And.intro z_has56 z_agg56)))) (And.intro (And.intro (And.intro z_cel56 (And.intro z_byt56 z_zer56)) (And.intro z_fun57 (And.intro z_has57 z_agg57))) (And.intro (And.intro z_cel57 (And.intro z_byt57 z_zer57)) (And.intro (And.intro z_fun58 z_has58) (And.intro z_agg58 z_cel58))))))))) (And.intro (And.intro (And.intro (And.intro (And.intro (And.intro (And.intro (And.intro z_byt58 (And.intro z_zer58 z_fun59)) (And.intro z_has59 (And.intro z_agg59 z_cel59))) (And.intro (And.intro z_byt59 (And.intro z_zer59 z_fun60)) (And.intro z_has60 (And.intro z_agg60 z_cel60)))) (And.intro (And.intro (And.intro z_byt60 (And.intro z_zer60 z_fun61)) (And.intro z_has61 (And.intro z_agg61 z_cel61))) (And.intro (And.intro z_byt61 (And.intro z_zer61 z_fun62)) (And.intro z_has62 (And.intro z_agg62 z_cel62))))) (And.intro (And.intro (And.intro (And.intro z_byt62 (And.intro z_zer62 z_fun63)) (And.intro z_has63 (And.intro z_agg63 z_cel63))) (And.intro (And.intro z_byt63 (And.intro z_zer63 z_fun64)) (And.intro z_has64 (And.intro z_agg64 z_cel64)))) (And.intro (And.intro (And.intro z_byt64 (And.intro z_zer64 z_fun65)) (And.intro z_has65 (And.intro z_agg65 z_cel65))) (And.intro (And.intro z_byt65 (And.intro z_zer65 z_fun66)) (And.intro (And.intro z_has66 z_agg66) (And.intro z_cel66 z_byt66)))))) (And.intro (And.intro (And.intro (And.intro (And.intro z_zer66 (And.intro z_fun67 z_has67)) (And.intro z_agg67 (And.intro z_cel67 z_byt67))) (And.intro (And.intro z_zer67 (And.intro z_fun68 z_has68)) (And.intro z_agg68 (And.intro z_cel68 z_byt68)))) (And.intro (And.intro (And.intro z_zer68 (And.intro z_fun69 z_has69)) (And.intro z_agg69 (And.intro z_cel69 z_byt69))) (And.intro (And.intro z_zer69 (And.intro z_fun70 z_has70)) (And.intro z_agg70 (And.intro z_cel70 z_byt70))))) (And.intro (And.intro (And.intro (And.intro z_zer70 (And.intro z_fun71 z_has71)) (And.intro z_agg71 (And.intro z_cel71 z_byt71))) (And.intro (And.intro z_zer71 (And.intro z_fun72 z_has72)) (And.intro z_agg72 (And.intro z_cel72 z_byt72)))) (And.intro (And.intro (And.intro z_zer72 (And.intro z_fun73 z_has73)) (And.intro z_agg73 (And.intro z_cel73 z_byt73))) (And.intro (And.intro z_zer73 (And.intro z_fun74 z_has74)) (And.intro (And.intro z_agg74 z_cel74) (And.intro z_byt74 z_zer74))))))) (And.intro (And.intro (And.intro (And.intro (And.intro (And.intro z_has75 (And.intro z_nst75 z_agg75)) (And.intro z_elm75 (And.intro z_cel75 z_byt75))) (And.intro (And.intro z_zer75 (And.intro z_fun76 z_has76)) (And.intro z_agg76 (And.intro z_cel76 z_byt76)))) (And.intro (And.intro (And.intro z_zer76 (And.intro z_fun77 z_has77)) (And.intro z_agg77 (And.intro z_cel77 z_byt77))) (And.intro (And.intro z_zer77 (And.intro z_fun78 z_has78)) (And.intro z_agg78 (And.intro z_cel78 z_byt78))))) (And.intro (And.intro (And.intro (And.intro z_zer78 (And.intro z_fun79 z_has79)) (And.intro z_agg79 (And.intro z_cel79 z_byt79))) (And.intro (And.intro z_zer79 (And.intro z_fun80 z_has80)) (And.intro z_agg80 (And.intro z_cel80 z_byt80)))) (And.intro (And.intro (And.intro z_zer80 (And.intro z_fun81 z_has81)) (And.intro z_agg81 (And.intro z_cel81 z_byt81))) (And.intro (And.intro z_zer81 (And.intro z_fun82 z_has82)) (And.intro (And.intro z_agg82 z_cel82) (And.intro z_byt82 z_zer82)))))) (And.intro (And.intro (And.intro (And.intro (And.intro z_fun83 (And.intro z_has83 z_agg83)) (And.intro z_cel83 (And.intro z_byt83 z_zer83))) (And.intro (And.intro z_has84 (And.intro z_agg84 z_int84)) (And.intro z_cel84 (And.intro z_byt84 z_zer84)))) (And.intro (And.intro (And.intro z_ptr85 (And.intro z_has85 z_agg85)) (And.intro z_cel85 (And.intro z_byt85 z_zer85))) (And.intro (And.intro z_stt86 (And.intro z_has86 z_agg86)) (And.intro z_cel86 (And.intro z_byt86 z_off86_0))))) (And.intro (And.intro (And.intro (And.intro z_fld86_0 (And.intro z_off86_1 z_fld86_1)) (And.intro z_zer86 (And.intro z_eqT86 z_stt87))) (And.intro (And.intro z_has87 (And.intro z_agg87 z_cel87)) (And.intro z_byt87 (And.intro z_off87_0 z_fld87_0)))) (And.intro (And.intro (And.intro z_off87_1 (And.intro z_fld87_1 z_zer87)) (And.intro z_eqT87 (And.intro z_fun88 z_has88))) (And.intro (And.intro z_agg88 (And.intro z_cel88 z_byt88)) (And.intro (And.intro z_zer88 z_has89) (And.intro z_agg89 z_cel89)))))))) (And.intro (And.intro (And.intro (And.intro (And.intro (And.intro (And.intro z_byt89 (And.intro z_zer89 z_has90)) (And.intro z_agg90 (And.intro z_cel90 z_byt90))) (And.intro (And.intro z_zer90 (And.intro z_has91 z_agg91)) (And.intro z_cel91 (And.intro z_byt91 z_fun92)))) (And.intro (And.intro (And.intro z_has92 (And.intro z_agg92 z_cel92)) (And.intro z_byt92 (And.intro z_zer92 z_fun93))) (And.intro (And.intro z_has93 (And.intro z_agg93 z_cel93)) (And.intro z_byt93 (And.intro z_zer93 z_fun94))))) (And.intro (And.intro (And.intro (And.intro z_has94 (And.intro z_agg94 z_cel94)) (And.intro z_byt94 (And.intro z_zer94 z_has95))) (And.intro (And.intro z_agg95 (And.intro z_int95 z_cel95)) (And.intro z_byt95 (And.intro z_zer95 z_has96)))) (And.intro (And.intro (And.intro z_agg96 (And.intro z_cel96 z_byt96)) (And.intro z_fun97 (And.intro z_has97 z_agg97))) (And.intro (And.intro z_cel97 (And.intro z_byt97 z_zer97)) (And.intro (And.intro z_fun98 z_has98) (And.intro z_agg98 z_cel98)))))) (And.intro (And.intro (And.intro (And.intro (And.intro z_byt98 (And.intro z_zer98 z_fun99)) (And.intro z_has99 (And.intro z_agg99 z_cel99))) (And.intro (And.intro z_byt99 (And.intro z_zer99 z_has100)) (And.intro z_agg100 (And.intro z_cel100 z_byt100)))) (And.intro (And.intro (And.intro z_fun101 (And.intro z_has101 z_agg101)) (And.intro z_cel101 (And.intro z_byt101 z_zer101))) (And.intro (And.intro z_fun102 (And.intro z_has102 z_agg102)) (And.intro z_cel102 (And.intro z_byt102 z_zer102))))) (And.intro (And.intro (And.intro (And.intro z_has103 (And.intro z_agg103 z_int103)) (And.intro z_cel103 (And.intro z_byt103 z_zer103))) (And.intro (And.intro z_fun104 (And.intro z_has104 z_agg104)) (And.intro z_cel104 (And.intro z_byt104 z_zer104)))) (And.intro (And.intro (And.intro z_has105 (And.intro z_agg105 z_int105)) (And.intro z_cel105 (And.intro z_byt105 z_zer105))) (And.intro (And.intro z_fun106 (And.intro z_has106 z_agg106)) (And.intro (And.intro z_cel106 z_byt106) (And.intro z_zer106 z_ptr107))))))) (And.intro (And.intro (And.intro (And.intro (And.intro (And.intro z_has107 (And.intro z_agg107 z_cel107)) (And.intro z_byt107 (And.intro z_zer107 z_fun108))) (And.intro (And.intro z_has108 (And.intro z_agg108 z_cel108)) (And.intro z_byt108 (And.intro z_zer108 z_fun109)))) (And.intro (And.intro (And.intro z_has109 (And.intro z_agg109 z_cel109)) (And.intro z_byt109 (And.intro z_zer109 z_fun110))) (And.intro (And.intro z_has110 (And.intro z_agg110 z_cel110)) (And.intro z_byt110 (And.intro z_zer110 z_fun111))))) (And.intro (And.intro (And.intro (And.intro z_has111 (And.intro z_agg111 z_cel111)) (And.intro z_byt111 (And.intro z_zer111 z_fun112))) (And.intro (And.intro z_has112 (And.intro z_agg112 z_cel112)) (And.intro z_byt112 (And.intro z_zer112 z_has113)))) (And.intro (And.intro (And.intro z_agg113 (And.intro z_int113 z_cel113)) (And.intro z_byt113 (And.intro z_zer113 z_fun114))) (And.intro (And.intro z_has114 (And.intro z_agg114 z_cel114)) (And.intro (And.intro z_byt114 z_zer114) (And.intro z_fun115 z_has115)))))) (And.intro (And.intro (And.intro (And.intro (And.intro z_agg115 (And.intro z_cel115 z_byt115)) (And.intro z_zer115 (And.intro z_fun116 z_has116))) (And.intro (And.intro z_agg116 (And.intro z_cel116 z_byt116)) (And.intro z_zer116 (And.intro z_ptr117 z_has117)))) (And.intro (And.intro (And.intro z_agg117 (And.intro z_cel117 z_byt117)) (And.intro z_zer117 (And.intro z_fun118 z_has118))) (And.intro (And.intro z_agg118 (And.intro z_cel118 z_byt118)) (And.intro z_zer118 (And.intro z_has119 z_agg119))))) (And.intro (And.intro (And.intro (And.intro z_arr119 (And.intro z_cel119 z_byt119)) (And.intro z_zer119 (And.intro z_fun120 z_has120))) (And.intro (And.intro z_agg120 (And.intro z_cel120 z_byt120)) (And.intro z_zer120 (And.intro z_has121 z_agg121)))) (And.intro (And.intro (And.intro z_cel121 (And.intro z_byt121 z_fun122)) (And.intro z_has122 (And.intro z_agg122 z_cel122))) (And.intro (And.intro z_byt122 (And.intro z_zer122 z_has123)) (And.intro (And.intro z_agg123 z_cel123) (And.intro z_byt123 z_zer123)))))))))) := (And.intro (And.intro (And.intro (And.intro (And.intro (And.intro (And.intro (And.intro (And.intro z_has0 (And.intro z_agg0 z_cel0)) (And.intro z_byt0 (And.intro z_fun1 z_has1))) (And.intro (And.intro z_agg1 (And.intro z_cel1 z_byt1)) (And.intro z_zer1 (And.intro z_has2 z_agg2)))) (And.intro (And.intro (And.intro z_int2 (And.intro z_cel2 z_byt2)) (And.intro z_zer2 (And.intro z_has3 z_agg3))) (And.intro (And.intro z_int3 (And.intro z_cel3 z_byt3)) (And.intro z_zer3 (And.intro z_boo4 z_has4))))) (And.intro (And.intro (And.intro (And.intro z_agg4 (And.intro z_cel4 z_byt4)) (And.intro z_zer4 (And.intro z_has5 z_agg5))) (And.intro (And.intro z_int5 (And.intro z_cel5 z_byt5)) (And.intro z_zer5 (And.intro z_has6 z_agg6)))) (And.intro (And.intro (And.intro z_int6 (And.intro z_cel6 z_byt6)) (And.intro z_zer6 (And.intro z_stt7 z_has7))) (And.intro (And.intro z_agg7 (And.intro z_cel7 z_byt7)) (And.intro (And.intro z_off7_0 z_fld7_0) (And.intro z_off7_1 z_fld7_1)))))) (And.intro (And.intro (And.intro (And.intro (And.intro z_off7_2 (And.intro z_fld7_2 z_off7_3)) (And.intro z_fld7_3 (And.intro z_zer7 z_eqT7))) (And.intro (And.intro z_stt8 (And.intro z_has8 z_agg8)) (And.intro z_cel8 (And.intro z_byt8 z_off8_0)))) (And.intro (And.intro (And.intro z_fld8_0 (And.intro z_off8_1 z_fld8_1)) (And.intro z_off8_2 (And.intro z_fld8_2 z_off8_3))) (And.intro (And.intro z_fld8_3 (And.intro z_zer8 z_eqT8)) (And.intro z_str9 (And.intro z_has9 z_agg9))))) (And.intro (And.intro (And.intro (And.intro z_cel9 (And.intro z_byt9 z_zer9)) (And.intro z_str10 (And.intro z_has10 z_agg10))) (And.intro (And.intro z_cel10 (And.intro z_byt10 z_zer10)) (And.intro z_str11 (And.intro z_has11 z_agg11)))) (And.intro (And.intro (And.intro z_cel11 (And.intro z_byt11 z_zer11)) (And.intro z_has12 (And.intro z_agg12 z_int12))) (And.intro (And.intro z_cel12 (And.intro z_byt12 z_zer12)) (And.intro (And.intro z_stt13 z_has13) (And.intro z_agg13 z_cel13))))))) (And.intro (And.intro (And.intro (And.intro (And.intro (And.intro z_byt13 (And.intro z_off13_0 z_fld13_0)) (And.intro z_off13_1 (And.intro z_fld13_1 z_zer13))) (And.intro (And.intro z_stt14 (And.intro z_has14 z_agg14)) (And.intro z_cel14 (And.intro z_byt14 z_off14_0)))) (And.intro (And.intro (And.intro z_fld14_0 (And.intro z_off14_1 z_fld14_1)) (And.intro z_zer14 (And.intro z_ptr15 z_has15))) (And.intro (And.intro z_agg15 (And.intro z_cel15 z_byt15)) (And.intro z_zer15 (And.intro z_ptr16 z_has16))))) (And.intro (And.intro (And.intro (And.intro z_agg16 (And.intro z_cel16 z_byt16)) (And.intro z_zer16 (And.intro z_ptr17 z_has17))) (And.intro (And.intro z_agg17 (And.intro z_cel17 z_byt17)) (And.intro z_zer17 (And.intro z_stt18 z_has18)))) (And.intro (And.intro (And.intro z_agg18 (And.intro z_cel18 z_byt18)) (And.intro z_off18_0 (And.intro z_fld18_0 z_zer18))) (And.intro (And.intro z_stt19 (And.intro z_has19 z_agg19)) (And.intro (And.intro z_cel19 z_byt19) (And.intro z_off19_0 z_fld19_0)))))) (And.intro (And.intro (And.intro (And.intro (And.intro z_zer19 (And.intro z_has20 z_agg20)) (And.intro z_cel20 (And.intro z_byt20 z_zer20))) (And.intro (And.intro z_has21 (And.intro z_agg21 z_int21)) (And.intro z_cel21 (And.intro z_byt21 z_zer21)))) (And.intro (And.intro (And.intro z_has22 (And.intro z_nst22 z_agg22)) (And.intro z_elm22 (And.intro z_cel22 z_byt22))) (And.intro (And.intro z_zer22 (And.intro z_has23 z_nst23)) (And.intro z_agg23 (And.intro z_elm23 z_cel23))))) (And.intro (And.intro (And.intro (And.intro z_byt23 (And.intro z_zer23 z_stt24)) (And.intro z_has24 (And.intro z_agg24 z_cel24))) (And.intro (And.intro z_byt24 (And.intro z_off24_0 z_fld24_0)) (And.intro z_zer24 (And.intro z_eqT24 z_stt25)))) (And.intro (And.intro (And.intro z_has25 (And.intro z_agg25 z_cel25)) (And.intro z_byt25 (And.intro z_off25_0 z_fld25_0))) (And.intro (And.intro z_zer25 (And.intro z_eqT25 z_has26)) (And.intro (And.intro z_agg26 z_int26) (And.intro z_cel26 z_byt26)))))))) (And.intro (And.intro (And.intro (And.intro (And.intro (And.intro (And.intro z_zer26 (And.intro z_has27 z_agg27)) (And.intro z_cel27 (And.intro z_byt27 z_fun28))) (And.intro (And.intro z_has28 (And.intro z_agg28 z_cel28)) (And.intro z_byt28 (And.intro z_zer28 z_has29)))) (And.intro (And.intro (And.intro z_nst29 (And.intro z_agg29 z_elm29)) (And.intro z_cel29 (And.intro z_byt29 z_zer29))) (And.intro (And.intro z_has30 (And.intro z_agg30 z_cel30)) (And.intro z_byt30 (And.intro z_fun31 z_has31))))) (And.intro (And.intro (And.intro (And.intro z_agg31 (And.intro z_cel31 z_byt31)) (And.intro z_zer31 (And.intro z_fun32 z_has32))) (And.intro (And.intro z_agg32 (And.intro z_cel32 z_byt32)) (And.intro z_zer32 (And.intro z_fun33 z_has33)))) (And.intro (And.intro (And.intro z_agg33 (And.intro z_cel33 z_byt33)) (And.intro z_zer33 (And.intro z_fun34 z_has34))) (And.intro (And.intro z_agg34 (And.intro z_cel34 z_byt34)) (And.intro (And.intro z_zer34 z_has35) (And.intro z_agg35 z_cel35)))))) (And.intro (And.intro (And.intro (And.intro (And.intro z_byt35 (And.intro z_fun36 z_has36)) (And.intro z_agg36 (And.intro z_cel36 z_byt36))) (And.intro (And.intro z_zer36 (And.intro z_fun37 z_has37)) (And.intro z_agg37 (And.intro z_cel37 z_byt37)))) (And.intro (And.intro (And.intro z_zer37 (And.intro z_fun38 z_has38)) (And.intro z_agg38 (And.intro z_cel38 z_byt38))) (And.intro (And.intro z_zer38 (And.intro z_fun39 z_has39)) (And.intro z_agg39 (And.intro z_cel39 z_byt39))))) (And.intro (And.intro (And.intro (And.intro z_zer39 (And.intro z_has40 z_nst40)) (And.intro z_agg40 (And.intro z_elm40 z_cel40))) (And.intro (And.intro z_byt40 (And.intro z_zer40 z_has41)) (And.intro z_agg41 (And.intro z_cel41 z_byt41)))) (And.intro (And.intro (And.intro z_fun42 (And.intro z_has42 z_agg42)) (And.intro z_cel42 (And.intro z_byt42 z_zer42))) (And.intro (And.intro z_has43 (And.intro z_agg43 z_cel43)) (And.intro (And.intro z_byt43 z_fun44) (And.intro z_has44 z_agg44))))))) (And.intro (And.intro (And.intro (And.intro (And.intro (And.intro z_cel44 (And.intro z_byt44 z_zer44)) (And.intro z_fun45 (And.intro z_has45 z_agg45))) (And.intro (And.intro z_cel45 (And.intro z_byt45 z_zer45)) (And.intro z_has46 (And.intro z_agg46 z_cel46)))) (And.intro (And.intro (And.intro z_byt46 (And.intro z_fun47 z_has47)) (And.intro z_agg47 (And.intro z_cel47 z_byt47))) (And.intro (And.intro z_zer47 (And.intro z_fun48 z_has48)) (And.intro z_agg48 (And.intro z_cel48 z_byt48))))) (And.intro (And.intro (And.intro (And.intro z_zer48 (And.intro z_fun49 z_has49)) (And.intro z_agg49 (And.intro z_cel49 z_byt49))) (And.intro (And.intro z_zer49 (And.intro z_fun50 z_has50)) (And.intro z_agg50 (And.intro z_cel50 z_byt50)))) (And.intro (And.intro (And.intro z_zer50 (And.intro z_fun51 z_has51)) (And.intro z_agg51 (And.intro z_cel51 z_byt51))) (And.intro (And.intro z_zer51 (And.intro z_stt52 z_has52)) (And.intro (And.intro z_agg52 z_cel52) (And.intro z_byt52 z_off52_0)))))) (And.intro (And.intro (And.intro (And.intro (And.intro z_fld52_0 (And.intro z_off52_1 z_fld52_1)) (And.intro z_zer52 (And.intro z_eqT52 z_stt53))) (And.intro (And.intro z_has53 (And.intro z_agg53 z_cel53)) (And.intro z_byt53 (And.intro z_off53_0 z_fld53_0)))) (And.intro (And.intro (And.intro z_off53_1 (And.intro z_fld53_1 z_zer53)) (And.intro z_eqT53 (And.intro z_fun54 z_has54))) (And.intro (And.intro z_agg54 (And.intro z_cel54 z_byt54)) (And.intro z_zer54 (And.intro z_stt55 z_has55))))) (And.intro (And.intro (And.intro (And.intro z_agg55 (And.intro z_cel55 z_byt55)) (And.intro z_off55_0 (And.intro z_fld55_0 z_off55_1))) (And.intro (And.intro z_fld55_1 (And.intro z_zer55 z_eqT55)) (And.intro z_fun56 (And.intro z_has56 z_agg56)))) (And.intro (And.intro (And.intro z_cel56 (And.intro z_byt56 z_zer56)) (And.intro z_fun57 (And.intro z_has57 z_agg57))) (And.intro (And.intro z_cel57 (And.intro z_byt57 z_zer57)) (And.intro (And.intro z_fun58 z_has58) (And.intro z_agg58 z_cel58))))))))) (And.intro (And.intro (And.intro (And.intro (And.intro (And.intro (And.intro (And.intro z_byt58 (And.intro z_zer58 z_fun59)) (And.intro z_has59 (And.intro z_agg59 z_cel59))) (And.intro (And.intro z_byt59 (And.intro z_zer59 z_fun60)) (And.intro z_has60 (And.intro z_agg60 z_cel60)))) (And.intro (And.intro (And.intro z_byt60 (And.intro z_zer60 z_fun61)) (And.intro z_has61 (And.intro z_agg61 z_cel61))) (And.intro (And.intro z_byt61 (And.intro z_zer61 z_fun62)) (And.intro z_has62 (And.intro z_agg62 z_cel62))))) (And.intro (And.intro (And.intro (And.intro z_byt62 (And.intro z_zer62 z_fun63)) (And.intro z_has63 (And.intro z_agg63 z_cel63))) (And.intro (And.intro z_byt63 (And.intro z_zer63 z_fun64)) (And.intro z_has64 (And.intro z_agg64 z_cel64)))) (And.intro (And.intro (And.intro z_byt64 (And.intro z_zer64 z_fun65)) (And.intro z_has65 (And.intro z_agg65 z_cel65))) (And.intro (And.intro z_byt65 (And.intro z_zer65 z_fun66)) (And.intro (And.intro z_has66 z_agg66) (And.intro z_cel66 z_byt66)))))) (And.intro (And.intro (And.intro (And.intro (And.intro z_zer66 (And.intro z_fun67 z_has67)) (And.intro z_agg67 (And.intro z_cel67 z_byt67))) (And.intro (And.intro z_zer67 (And.intro z_fun68 z_has68)) (And.intro z_agg68 (And.intro z_cel68 z_byt68)))) (And.intro (And.intro (And.intro z_zer68 (And.intro z_fun69 z_has69)) (And.intro z_agg69 (And.intro z_cel69 z_byt69))) (And.intro (And.intro z_zer69 (And.intro z_fun70 z_has70)) (And.intro z_agg70 (And.intro z_cel70 z_byt70))))) (And.intro (And.intro (And.intro (And.intro z_zer70 (And.intro z_fun71 z_has71)) (And.intro z_agg71 (And.intro z_cel71 z_byt71))) (And.intro (And.intro z_zer71 (And.intro z_fun72 z_has72)) (And.intro z_agg72 (And.intro z_cel72 z_byt72)))) (And.intro (And.intro (And.intro z_zer72 (And.intro z_fun73 z_has73)) (And.intro z_agg73 (And.intro z_cel73 z_byt73))) (And.intro (And.intro z_zer73 (And.intro z_fun74 z_has74)) (And.intro (And.intro z_agg74 z_cel74) (And.intro z_byt74 z_zer74))))))) (And.intro (And.intro (And.intro (And.intro (And.intro (And.intro z_has75 (And.intro z_nst75 z_agg75)) (And.intro z_elm75 (And.intro z_cel75 z_byt75))) (And.intro (And.intro z_zer75 (And.intro z_fun76 z_has76)) (And.intro z_agg76 (And.intro z_cel76 z_byt76)))) (And.intro (And.intro (And.intro z_zer76 (And.intro z_fun77 z_has77)) (And.intro z_agg77 (And.intro z_cel77 z_byt77))) (And.intro (And.intro z_zer77 (And.intro z_fun78 z_has78)) (And.intro z_agg78 (And.intro z_cel78 z_byt78))))) (And.intro (And.intro (And.intro (And.intro z_zer78 (And.intro z_fun79 z_has79)) (And.intro z_agg79 (And.intro z_cel79 z_byt79))) (And.intro (And.intro z_zer79 (And.intro z_fun80 z_has80)) (And.intro z_agg80 (And.intro z_cel80 z_byt80)))) (And.intro (And.intro (And.intro z_zer80 (And.intro z_fun81 z_has81)) (And.intro z_agg81 (And.intro z_cel81 z_byt81))) (And.intro (And.intro z_zer81 (And.intro z_fun82 z_has82)) (And.intro (And.intro z_agg82 z_cel82) (And.intro z_byt82 z_zer82)))))) (And.intro (And.intro (And.intro (And.intro (And.intro z_fun83 (And.intro z_has83 z_agg83)) (And.intro z_cel83 (And.intro z_byt83 z_zer83))) (And.intro (And.intro z_has84 (And.intro z_agg84 z_int84)) (And.intro z_cel84 (And.intro z_byt84 z_zer84)))) (And.intro (And.intro (And.intro z_ptr85 (And.intro z_has85 z_agg85)) (And.intro z_cel85 (And.intro z_byt85 z_zer85))) (And.intro (And.intro z_stt86 (And.intro z_has86 z_agg86)) (And.intro z_cel86 (And.intro z_byt86 z_off86_0))))) (And.intro (And.intro (And.intro (And.intro z_fld86_0 (And.intro z_off86_1 z_fld86_1)) (And.intro z_zer86 (And.intro z_eqT86 z_stt87))) (And.intro (And.intro z_has87 (And.intro z_agg87 z_cel87)) (And.intro z_byt87 (And.intro z_off87_0 z_fld87_0)))) (And.intro (And.intro (And.intro z_off87_1 (And.intro z_fld87_1 z_zer87)) (And.intro z_eqT87 (And.intro z_fun88 z_has88))) (And.intro (And.intro z_agg88 (And.intro z_cel88 z_byt88)) (And.intro (And.intro z_zer88 z_has89) (And.intro z_agg89 z_cel89)))))))) (And.intro (And.intro (And.intro (And.intro (And.intro (And.intro (And.intro z_byt89 (And.intro z_zer89 z_has90)) (And.intro z_agg90 (And.intro z_cel90 z_byt90))) (And.intro (And.intro z_zer90 (And.intro z_has91 z_agg91)) (And.intro z_cel91 (And.intro z_byt91 z_fun92)))) (And.intro (And.intro (And.intro z_has92 (And.intro z_agg92 z_cel92)) (And.intro z_byt92 (And.intro z_zer92 z_fun93))) (And.intro (And.intro z_has93 (And.intro z_agg93 z_cel93)) (And.intro z_byt93 (And.intro z_zer93 z_fun94))))) (And.intro (And.intro (And.intro (And.intro z_has94 (And.intro z_agg94 z_cel94)) (And.intro z_byt94 (And.intro z_zer94 z_has95))) (And.intro (And.intro z_agg95 (And.intro z_int95 z_cel95)) (And.intro z_byt95 (And.intro z_zer95 z_has96)))) (And.intro (And.intro (And.intro z_agg96 (And.intro z_cel96 z_byt96)) (And.intro z_fun97 (And.intro z_has97 z_agg97))) (And.intro (And.intro z_cel97 (And.intro z_byt97 z_zer97)) (And.intro (And.intro z_fun98 z_has98) (And.intro z_agg98 z_cel98)))))) (And.intro (And.intro (And.intro (And.intro (And.intro z_byt98 (And.intro z_zer98 z_fun99)) (And.intro z_has99 (And.intro z_agg99 z_cel99))) (And.intro (And.intro z_byt99 (And.intro z_zer99 z_has100)) (And.intro z_agg100 (And.intro z_cel100 z_byt100)))) (And.intro (And.intro (And.intro z_fun101 (And.intro z_has101 z_agg101)) (And.intro z_cel101 (And.intro z_byt101 z_zer101))) (And.intro (And.intro z_fun102 (And.intro z_has102 z_agg102)) (And.intro z_cel102 (And.intro z_byt102 z_zer102))))) (And.intro (And.intro (And.intro (And.intro z_has103 (And.intro z_agg103 z_int103)) (And.intro z_cel103 (And.intro z_byt103 z_zer103))) (And.intro (And.intro z_fun104 (And.intro z_has104 z_agg104)) (And.intro z_cel104 (And.intro z_byt104 z_zer104)))) (And.intro (And.intro (And.intro z_has105 (And.intro z_agg105 z_int105)) (And.intro z_cel105 (And.intro z_byt105 z_zer105))) (And.intro (And.intro z_fun106 (And.intro z_has106 z_agg106)) (And.intro (And.intro z_cel106 z_byt106) (And.intro z_zer106 z_ptr107))))))) (And.intro (And.intro (And.intro (And.intro (And.intro (And.intro z_has107 (And.intro z_agg107 z_cel107)) (And.intro z_byt107 (And.intro z_zer107 z_fun108))) (And.intro (And.intro z_has108 (And.intro z_agg108 z_cel108)) (And.intro z_byt108 (And.intro z_zer108 z_fun109)))) (And.intro (And.intro (And.intro z_has109 (And.intro z_agg109 z_cel109)) (And.intro z_byt109 (And.intro z_zer109 z_fun110))) (And.intro (And.intro z_has110 (And.intro z_agg110 z_cel110)) (And.intro z_byt110 (And.intro z_zer110 z_fun111))))) (And.intro (And.intro (And.intro (And.intro z_has111 (And.intro z_agg111 z_cel111)) (And.intro z_byt111 (And.intro z_zer111 z_fun112))) (And.intro (And.intro z_has112 (And.intro z_agg112 z_cel112)) (And.intro z_byt112 (And.intro z_zer112 z_has113)))) (And.intro (And.intro (And.intro z_agg113 (And.intro z_int113 z_cel113)) (And.intro z_byt113 (And.intro z_zer113 z_fun114))) (And.intro (And.intro z_has114 (And.intro z_agg114 z_cel114)) (And.intro (And.intro z_byt114 z_zer114) (And.intro z_fun115 z_has115)))))) (And.intro (And.intro (And.intro (And.intro (And.intro z_agg115 (And.intro z_cel115 z_byt115)) (And.intro z_zer115 (And.intro z_fun116 z_has116))) (And.intro (And.intro z_agg116 (And.intro z_cel116 z_byt116)) (And.intro z_zer116 (And.intro z_ptr117 z_has117)))) (And.intro (And.intro (And.intro z_agg117 (And.intro z_cel117 z_byt117)) (And.intro z_zer117 (And.intro z_fun118 z_has118))) (And.intro (And.intro z_agg118 (And.intro z_cel118 z_byt118)) (And.intro z_zer118 (And.intro z_has119 z_agg119))))) (And.intro (And.intro (And.intro (And.intro z_arr119 (And.intro z_cel119 z_byt119)) (And.intro z_zer119 (And.intro z_fun120 z_has120))) (And.intro (And.intro z_agg120 (And.intro z_cel120 z_byt120)) (And.intro z_zer120 (And.intro z_has121 z_agg121)))) (And.intro (And.intro (And.intro z_cel121 (And.intro z_byt121 z_fun122)) (And.intro z_has122 (And.intro z_agg122 z_cel122))) (And.intro (And.intro z_byt122 (And.intro z_zer122 z_has123)) (And.intro (And.intro z_agg123 z_cel123) (And.intro z_byt123 z_zer123))))))))))
end Go.Pw

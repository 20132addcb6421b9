/- Facts about the seat's types. -/
import Derived.Test.YtgnedmmecmpnpaaGreatDoorProg
import Derived.Test.YtgnedmmecmpnpaaGreatDoorPuZb
set_option linter.unusedSimpArgs false
set_option linter.unusedVariables false
set_option linter.unusedSectionVars false
namespace Go.Pw
open Go.Proofs
set_option maxRecDepth 4000
theorem z_has3 : hasT Tryz.prog 3 = true := by kernel_rfl
theorem z_agg3 : aggT Tryz.prog 3 = false := by kernel_rfl
theorem z_int3 : intT Tryz.prog 3 = some .i64 := by kernel_rfl
theorem z_cel3 : Program.cellsOf Tryz.prog 3 = 1 := by kernel_rfl
theorem z_byt3 : Program.bytesOf Tryz.prog 3 = 8 := by kernel_rfl
theorem z_zer3 : zeroA Tryz.prog 3 = some [.pv (.int .i64 0)] := by kernel_rfl
theorem z_boo4 : boolT Tryz.prog 4 = true := by kernel_rfl
theorem z_has4 : hasT Tryz.prog 4 = true := by kernel_rfl
theorem z_agg4 : aggT Tryz.prog 4 = false := by kernel_rfl
theorem z_cel4 : Program.cellsOf Tryz.prog 4 = 1 := by kernel_rfl
theorem z_byt4 : Program.bytesOf Tryz.prog 4 = 1 := by kernel_rfl
theorem z_zer4 : zeroA Tryz.prog 4 = some [.pv (.bool false)] := by kernel_rfl
theorem z_has5 : hasT Tryz.prog 5 = true := by kernel_rfl
theorem z_agg5 : aggT Tryz.prog 5 = false := by kernel_rfl
theorem z_int5 : intT Tryz.prog 5 = some .u8 := by kernel_rfl
theorem z_cel5 : Program.cellsOf Tryz.prog 5 = 1 := by kernel_rfl
theorem z_byt5 : Program.bytesOf Tryz.prog 5 = 1 := by kernel_rfl
theorem z_zer5 : zeroA Tryz.prog 5 = some [.pv (.int .u8 0)] := by kernel_rfl
theorem z_str9 : strT Tryz.prog 9 = true := by kernel_rfl
theorem z_has9 : hasT Tryz.prog 9 = true := by kernel_rfl
theorem z_agg9 : aggT Tryz.prog 9 = false := by kernel_rfl
theorem z_cel9 : Program.cellsOf Tryz.prog 9 = 1 := by kernel_rfl
theorem z_byt9 : Program.bytesOf Tryz.prog 9 = 16 := by kernel_rfl
theorem z_zer9 : zeroA Tryz.prog 9 = some [.pv (.str [])] := by kernel_rfl
theorem z_has23 : hasT Tryz.prog 23 = true := by kernel_rfl
theorem z_nst23 : strT Tryz.prog 23 = false := by kernel_rfl
theorem z_agg23 : aggT Tryz.prog 23 = false := by kernel_rfl
theorem z_elm23 : elemT Tryz.prog 23 = some 80 := by kernel_rfl
theorem z_cel23 : Program.cellsOf Tryz.prog 23 = 1 := by kernel_rfl
theorem z_byt23 : Program.bytesOf Tryz.prog 23 = 24 := by kernel_rfl
theorem z_zer23 : zeroA Tryz.prog 23 = some [.emp] := by kernel_rfl
theorem z_has24 : hasT Tryz.prog 24 = true := by kernel_rfl
theorem z_nst24 : strT Tryz.prog 24 = false := by kernel_rfl
theorem z_agg24 : aggT Tryz.prog 24 = false := by kernel_rfl
theorem z_elm24 : elemT Tryz.prog 24 = some 50 := by kernel_rfl
theorem z_cel24 : Program.cellsOf Tryz.prog 24 = 1 := by kernel_rfl
theorem z_byt24 : Program.bytesOf Tryz.prog 24 = 24 := by kernel_rfl
theorem z_zer24 : zeroA Tryz.prog 24 = some [.emp] := by kernel_rfl
theorem z_stt26 : stT Tryz.prog 26 = true := by kernel_rfl
theorem z_has26 : hasT Tryz.prog 26 = true := by kernel_rfl
theorem z_agg26 : aggT Tryz.prog 26 = true := by kernel_rfl
theorem z_cel26 : Program.cellsOf Tryz.prog 26 = 2 := by kernel_rfl
theorem z_byt26 : Program.bytesOf Tryz.prog 26 = 48 := by kernel_rfl
theorem z_off26_0 : offT Tryz.prog 26 0 = some 0 := by kernel_rfl
theorem z_fld26_0 : fldT Tryz.prog 26 0 = some 23 := by kernel_rfl
theorem z_off26_1 : offT Tryz.prog 26 1 = some 1 := by kernel_rfl
theorem z_fld26_1 : fldT Tryz.prog 26 1 = some 24 := by kernel_rfl
theorem z_zer26 : zeroA Tryz.prog 26 = some [.emp, .emp] := by kernel_rfl
theorem z_eqT26 : eqT Tryz.prog 26 = some [(0, 23), (1, 24)] := by kernel_rfl
theorem z_has27 : hasT Tryz.prog 27 = true := by kernel_rfl
theorem z_agg27 : aggT Tryz.prog 27 = false := by kernel_rfl
theorem z_int27 : intT Tryz.prog 27 = some .i64 := by kernel_rfl
theorem z_cel27 : Program.cellsOf Tryz.prog 27 = 1 := by kernel_rfl
theorem z_byt27 : Program.bytesOf Tryz.prog 27 = 8 := by kernel_rfl
theorem z_zer27 : zeroA Tryz.prog 27 = some [.pv (.int .i64 0)] := by kernel_rfl
theorem z_has30 : hasT Tryz.prog 30 = true := by kernel_rfl
theorem z_nst30 : strT Tryz.prog 30 = false := by kernel_rfl
theorem z_agg30 : aggT Tryz.prog 30 = false := by kernel_rfl
theorem z_elm30 : elemT Tryz.prog 30 = some 88 := by kernel_rfl
theorem z_cel30 : Program.cellsOf Tryz.prog 30 = 1 := by kernel_rfl
theorem z_byt30 : Program.bytesOf Tryz.prog 30 = 24 := by kernel_rfl
theorem z_zer30 : zeroA Tryz.prog 30 = some [.emp] := by kernel_rfl
theorem z_has31 : hasT Tryz.prog 31 = true := by kernel_rfl
theorem z_nst31 : strT Tryz.prog 31 = false := by kernel_rfl
theorem z_agg31 : aggT Tryz.prog 31 = false := by kernel_rfl
theorem z_elm31 : elemT Tryz.prog 31 = some 96 := by kernel_rfl
theorem z_cel31 : Program.cellsOf Tryz.prog 31 = 1 := by kernel_rfl
theorem z_byt31 : Program.bytesOf Tryz.prog 31 = 24 := by kernel_rfl
theorem z_zer31 : zeroA Tryz.prog 31 = some [.emp] := by kernel_rfl
theorem z_stt33 : stT Tryz.prog 33 = true := by kernel_rfl
theorem z_has33 : hasT Tryz.prog 33 = true := by kernel_rfl
theorem z_agg33 : aggT Tryz.prog 33 = true := by kernel_rfl
theorem z_cel33 : Program.cellsOf Tryz.prog 33 = 2 := by kernel_rfl
theorem z_byt33 : Program.bytesOf Tryz.prog 33 = 48 := by kernel_rfl
theorem z_off33_0 : offT Tryz.prog 33 0 = some 0 := by kernel_rfl
theorem z_fld33_0 : fldT Tryz.prog 33 0 = some 30 := by kernel_rfl
theorem z_off33_1 : offT Tryz.prog 33 1 = some 1 := by kernel_rfl
theorem z_fld33_1 : fldT Tryz.prog 33 1 = some 31 := by kernel_rfl
theorem z_zer33 : zeroA Tryz.prog 33 = some [.emp, .emp] := by kernel_rfl
theorem z_eqT33 : eqT Tryz.prog 33 = some [(0, 30), (1, 31)] := by kernel_rfl
theorem z_ptr38 : ptrT Tryz.prog 38 = true := by kernel_rfl
theorem z_has38 : hasT Tryz.prog 38 = true := by kernel_rfl
theorem z_agg38 : aggT Tryz.prog 38 = false := by kernel_rfl
theorem z_cel38 : Program.cellsOf Tryz.prog 38 = 1 := by kernel_rfl
theorem z_byt38 : Program.bytesOf Tryz.prog 38 = 8 := by kernel_rfl
theorem z_zer38 : zeroA Tryz.prog 38 = some [.pv (.raw (.pointer none))] := by kernel_rfl
theorem z_has41 : hasT Tryz.prog 41 = true := by kernel_rfl
theorem z_nst41 : strT Tryz.prog 41 = false := by kernel_rfl
theorem z_agg41 : aggT Tryz.prog 41 = false := by kernel_rfl
theorem z_elm41 : elemT Tryz.prog 41 = some 5 := by kernel_rfl
theorem z_cel41 : Program.cellsOf Tryz.prog 41 = 1 := by kernel_rfl
theorem z_byt41 : Program.bytesOf Tryz.prog 41 = 24 := by kernel_rfl
theorem z_zer41 : zeroA Tryz.prog 41 = some [.emp] := by kernel_rfl
theorem z_has42 : hasT Tryz.prog 42 = true := by kernel_rfl
theorem z_nst42 : strT Tryz.prog 42 = false := by kernel_rfl
theorem z_agg42 : aggT Tryz.prog 42 = false := by kernel_rfl
theorem z_elm42 : elemT Tryz.prog 42 = some 44 := by kernel_rfl
theorem z_cel42 : Program.cellsOf Tryz.prog 42 = 1 := by kernel_rfl
theorem z_byt42 : Program.bytesOf Tryz.prog 42 = 24 := by kernel_rfl
theorem z_zer42 : zeroA Tryz.prog 42 = some [.emp] := by kernel_rfl
theorem z_stt44 : stT Tryz.prog 44 = true := by kernel_rfl
theorem z_has44 : hasT Tryz.prog 44 = true := by kernel_rfl
theorem z_agg44 : aggT Tryz.prog 44 = true := by kernel_rfl
theorem z_cel44 : Program.cellsOf Tryz.prog 44 = 8 := by kernel_rfl
theorem z_byt44 : Program.bytesOf Tryz.prog 44 = 104 := by kernel_rfl
theorem z_off44_0 : offT Tryz.prog 44 0 = some 0 := by kernel_rfl
theorem z_fld44_0 : fldT Tryz.prog 44 0 = some 3 := by kernel_rfl
theorem z_off44_1 : offT Tryz.prog 44 1 = some 1 := by kernel_rfl
theorem z_fld44_1 : fldT Tryz.prog 44 1 = some 9 := by kernel_rfl
theorem z_off44_2 : offT Tryz.prog 44 2 = some 2 := by kernel_rfl
theorem z_fld44_2 : fldT Tryz.prog 44 2 = some 9 := by kernel_rfl
theorem z_off44_3 : offT Tryz.prog 44 3 = some 3 := by kernel_rfl
theorem z_fld44_3 : fldT Tryz.prog 44 3 = some 3 := by kernel_rfl
theorem z_off44_4 : offT Tryz.prog 44 4 = some 4 := by kernel_rfl
theorem z_fld44_4 : fldT Tryz.prog 44 4 = some 9 := by kernel_rfl
theorem z_off44_5 : offT Tryz.prog 44 5 = some 5 := by kernel_rfl
theorem z_fld44_5 : fldT Tryz.prog 44 5 = some 42 := by kernel_rfl
theorem z_off44_6 : offT Tryz.prog 44 6 = some 6 := by kernel_rfl
theorem z_fld44_6 : fldT Tryz.prog 44 6 = some 3 := by kernel_rfl
theorem z_off44_7 : offT Tryz.prog 44 7 = some 7 := by kernel_rfl
theorem z_fld44_7 : fldT Tryz.prog 44 7 = some 3 := by kernel_rfl
theorem z_zer44 : zeroA Tryz.prog 44 = some [.pv (.int .i64 0), .pv (.str []), .pv (.str []), .pv (.int .i64 0), .pv (.str []), .emp, .pv (.int .i64 0), .pv (.int .i64 0)] := by kernel_rfl
theorem z_eqT44 : eqT Tryz.prog 44 = some [(0, 3), (1, 9), (2, 9), (3, 3), (4, 9), (5, 42), (6, 3), (7, 3)] := by kernel_rfl
theorem z_has47 : hasT Tryz.prog 47 = true := by kernel_rfl
theorem z_nst47 : strT Tryz.prog 47 = false := by kernel_rfl
theorem z_agg47 : aggT Tryz.prog 47 = false := by kernel_rfl
theorem z_elm47 : elemT Tryz.prog 47 = some 9 := by kernel_rfl
theorem z_cel47 : Program.cellsOf Tryz.prog 47 = 1 := by kernel_rfl
theorem z_byt47 : Program.bytesOf Tryz.prog 47 = 24 := by kernel_rfl
theorem z_zer47 : zeroA Tryz.prog 47 = some [.emp] := by kernel_rfl
theorem z_has48 : hasT Tryz.prog 48 = true := by kernel_rfl
theorem z_nst48 : strT Tryz.prog 48 = false := by kernel_rfl
theorem z_agg48 : aggT Tryz.prog 48 = false := by kernel_rfl
theorem z_elm48 : elemT Tryz.prog 48 = some 52 := by kernel_rfl
theorem z_cel48 : Program.cellsOf Tryz.prog 48 = 1 := by kernel_rfl
theorem z_byt48 : Program.bytesOf Tryz.prog 48 = 24 := by kernel_rfl
theorem z_zer48 : zeroA Tryz.prog 48 = some [.emp] := by kernel_rfl
theorem z_stt50 : stT Tryz.prog 50 = true := by kernel_rfl
theorem z_has50 : hasT Tryz.prog 50 = true := by kernel_rfl
theorem z_agg50 : aggT Tryz.prog 50 = true := by kernel_rfl
theorem z_cel50 : Program.cellsOf Tryz.prog 50 = 5 := by kernel_rfl
theorem z_byt50 : Program.bytesOf Tryz.prog 50 = 80 := by kernel_rfl
theorem z_off50_0 : offT Tryz.prog 50 0 = some 0 := by kernel_rfl
theorem z_fld50_0 : fldT Tryz.prog 50 0 = some 9 := by kernel_rfl
theorem z_off50_1 : offT Tryz.prog 50 1 = some 1 := by kernel_rfl
theorem z_fld50_1 : fldT Tryz.prog 50 1 = some 47 := by kernel_rfl
theorem z_off50_2 : offT Tryz.prog 50 2 = some 2 := by kernel_rfl
theorem z_fld50_2 : fldT Tryz.prog 50 2 = some 48 := by kernel_rfl
theorem z_off50_3 : offT Tryz.prog 50 3 = some 3 := by kernel_rfl
theorem z_fld50_3 : fldT Tryz.prog 50 3 = some 3 := by kernel_rfl
theorem z_off50_4 : offT Tryz.prog 50 4 = some 4 := by kernel_rfl
theorem z_fld50_4 : fldT Tryz.prog 50 4 = some 3 := by kernel_rfl
theorem z_zer50 : zeroA Tryz.prog 50 = some [.pv (.str []), .emp, .emp, .pv (.int .i64 0), .pv (.int .i64 0)] := by kernel_rfl
theorem z_eqT50 : eqT Tryz.prog 50 = some [(0, 9), (1, 47), (2, 48), (3, 3), (4, 3)] := by kernel_rfl
theorem z_stt52 : stT Tryz.prog 52 = true := by kernel_rfl
theorem z_has52 : hasT Tryz.prog 52 = true := by kernel_rfl
theorem z_agg52 : aggT Tryz.prog 52 = true := by kernel_rfl
theorem z_cel52 : Program.cellsOf Tryz.prog 52 = 7 := by kernel_rfl
theorem z_byt52 : Program.bytesOf Tryz.prog 52 = 112 := by kernel_rfl
theorem z_off52_0 : offT Tryz.prog 52 0 = some 0 := by kernel_rfl
theorem z_fld52_0 : fldT Tryz.prog 52 0 = some 3 := by kernel_rfl
theorem z_off52_1 : offT Tryz.prog 52 1 = some 1 := by kernel_rfl
theorem z_fld52_1 : fldT Tryz.prog 52 1 = some 9 := by kernel_rfl
theorem z_off52_2 : offT Tryz.prog 52 2 = some 2 := by kernel_rfl
theorem z_fld52_2 : fldT Tryz.prog 52 2 = some 42 := by kernel_rfl
theorem z_off52_3 : offT Tryz.prog 52 3 = some 3 := by kernel_rfl
theorem z_fld52_3 : fldT Tryz.prog 52 3 = some 48 := by kernel_rfl
theorem z_off52_4 : offT Tryz.prog 52 4 = some 4 := by kernel_rfl
theorem z_fld52_4 : fldT Tryz.prog 52 4 = some 48 := by kernel_rfl
theorem z_off52_5 : offT Tryz.prog 52 5 = some 5 := by kernel_rfl
theorem z_fld52_5 : fldT Tryz.prog 52 5 = some 3 := by kernel_rfl
theorem z_off52_6 : offT Tryz.prog 52 6 = some 6 := by kernel_rfl
theorem z_fld52_6 : fldT Tryz.prog 52 6 = some 3 := by kernel_rfl
theorem z_zer52 : zeroA Tryz.prog 52 = some [.pv (.int .i64 0), .pv (.str []), .emp, .emp, .emp, .pv (.int .i64 0), .pv (.int .i64 0)] := by kernel_rfl
theorem z_eqT52 : eqT Tryz.prog 52 = some [(0, 3), (1, 9), (2, 42), (3, 48), (4, 48), (5, 3), (6, 3)] := by kernel_rfl
theorem z_has60 : hasT Tryz.prog 60 = true := by kernel_rfl
theorem z_nst60 : strT Tryz.prog 60 = false := by kernel_rfl
theorem z_agg60 : aggT Tryz.prog 60 = false := by kernel_rfl
theorem z_elm60 : elemT Tryz.prog 60 = some 64 := by kernel_rfl
theorem z_cel60 : Program.cellsOf Tryz.prog 60 = 1 := by kernel_rfl
theorem z_byt60 : Program.bytesOf Tryz.prog 60 = 24 := by kernel_rfl
theorem z_zer60 : zeroA Tryz.prog 60 = some [.emp] := by kernel_rfl
theorem z_stt64 : stT Tryz.prog 64 = true := by kernel_rfl
theorem z_has64 : hasT Tryz.prog 64 = true := by kernel_rfl
theorem z_agg64 : aggT Tryz.prog 64 = true := by kernel_rfl
theorem z_cel64 : Program.cellsOf Tryz.prog 64 = 5 := by kernel_rfl
theorem z_byt64 : Program.bytesOf Tryz.prog 64 = 56 := by kernel_rfl
theorem z_off64_0 : offT Tryz.prog 64 0 = some 0 := by kernel_rfl
theorem z_fld64_0 : fldT Tryz.prog 64 0 = some 3 := by kernel_rfl
theorem z_off64_1 : offT Tryz.prog 64 1 = some 1 := by kernel_rfl
theorem z_fld64_1 : fldT Tryz.prog 64 1 = some 9 := by kernel_rfl
theorem z_off64_2 : offT Tryz.prog 64 2 = some 2 := by kernel_rfl
theorem z_fld64_2 : fldT Tryz.prog 64 2 = some 3 := by kernel_rfl
theorem z_off64_3 : offT Tryz.prog 64 3 = some 3 := by kernel_rfl
theorem z_fld64_3 : fldT Tryz.prog 64 3 = some 9 := by kernel_rfl
theorem z_off64_4 : offT Tryz.prog 64 4 = some 4 := by kernel_rfl
theorem z_fld64_4 : fldT Tryz.prog 64 4 = some 3 := by kernel_rfl
theorem z_zer64 : zeroA Tryz.prog 64 = some [.pv (.int .i64 0), .pv (.str []), .pv (.int .i64 0), .pv (.str []), .pv (.int .i64 0)] := by kernel_rfl
theorem z_eqT64 : eqT Tryz.prog 64 = some [(0, 3), (1, 9), (2, 3), (3, 9), (4, 3)] := by kernel_rfl
theorem z_has70 : hasT Tryz.prog 70 = true := by kernel_rfl
theorem z_nst70 : strT Tryz.prog 70 = false := by kernel_rfl
theorem z_agg70 : aggT Tryz.prog 70 = false := by kernel_rfl
theorem z_elm70 : elemT Tryz.prog 70 = some 77 := by kernel_rfl
theorem z_cel70 : Program.cellsOf Tryz.prog 70 = 1 := by kernel_rfl
theorem z_byt70 : Program.bytesOf Tryz.prog 70 = 24 := by kernel_rfl
theorem z_zer70 : zeroA Tryz.prog 70 = some [.emp] := by kernel_rfl
theorem z_stt75 : stT Tryz.prog 75 = true := by kernel_rfl
theorem z_has75 : hasT Tryz.prog 75 = true := by kernel_rfl
theorem z_agg75 : aggT Tryz.prog 75 = true := by kernel_rfl
theorem z_cel75 : Program.cellsOf Tryz.prog 75 = 4 := by kernel_rfl
theorem z_byt75 : Program.bytesOf Tryz.prog 75 = 48 := by kernel_rfl
theorem z_off75_0 : offT Tryz.prog 75 0 = some 0 := by kernel_rfl
theorem z_fld75_0 : fldT Tryz.prog 75 0 = some 70 := by kernel_rfl
theorem z_off75_1 : offT Tryz.prog 75 1 = some 1 := by kernel_rfl
theorem z_fld75_1 : fldT Tryz.prog 75 1 = some 3 := by kernel_rfl
theorem z_off75_2 : offT Tryz.prog 75 2 = some 2 := by kernel_rfl
theorem z_fld75_2 : fldT Tryz.prog 75 2 = some 3 := by kernel_rfl
theorem z_off75_3 : offT Tryz.prog 75 3 = some 3 := by kernel_rfl
theorem z_fld75_3 : fldT Tryz.prog 75 3 = some 27 := by kernel_rfl
theorem z_zer75 : zeroA Tryz.prog 75 = some [.emp, .pv (.int .i64 0), .pv (.int .i64 0), .pv (.int .i64 0)] := by kernel_rfl
theorem z_eqT75 : eqT Tryz.prog 75 = some [(0, 70), (1, 3), (2, 3), (3, 27)] := by kernel_rfl
theorem z_stt77 : stT Tryz.prog 77 = true := by kernel_rfl
theorem z_has77 : hasT Tryz.prog 77 = true := by kernel_rfl
theorem z_agg77 : aggT Tryz.prog 77 = true := by kernel_rfl
theorem z_cel77 : Program.cellsOf Tryz.prog 77 = 6 := by kernel_rfl
theorem z_byt77 : Program.bytesOf Tryz.prog 77 = 64 := by kernel_rfl
theorem z_off77_0 : offT Tryz.prog 77 0 = some 0 := by kernel_rfl
theorem z_fld77_0 : fldT Tryz.prog 77 0 = some 3 := by kernel_rfl
theorem z_off77_1 : offT Tryz.prog 77 1 = some 1 := by kernel_rfl
theorem z_fld77_1 : fldT Tryz.prog 77 1 = some 9 := by kernel_rfl
theorem z_off77_2 : offT Tryz.prog 77 2 = some 2 := by kernel_rfl
theorem z_fld77_2 : fldT Tryz.prog 77 2 = some 3 := by kernel_rfl
theorem z_off77_3 : offT Tryz.prog 77 3 = some 3 := by kernel_rfl
theorem z_fld77_3 : fldT Tryz.prog 77 3 = some 9 := by kernel_rfl
theorem z_off77_4 : offT Tryz.prog 77 4 = some 4 := by kernel_rfl
theorem z_fld77_4 : fldT Tryz.prog 77 4 = some 3 := by kernel_rfl
theorem z_off77_5 : offT Tryz.prog 77 5 = some 5 := by kernel_rfl
theorem z_fld77_5 : fldT Tryz.prog 77 5 = some 3 := by kernel_rfl
theorem z_zer77 : zeroA Tryz.prog 77 = some [.pv (.int .i64 0), .pv (.str []), .pv (.int .i64 0), .pv (.str []), .pv (.int .i64 0), .pv (.int .i64 0)] := by kernel_rfl
theorem z_eqT77 : eqT Tryz.prog 77 = some [(0, 3), (1, 9), (2, 3), (3, 9), (4, 3), (5, 3)] := by kernel_rfl
theorem z_stt80 : stT Tryz.prog 80 = true := by kernel_rfl
theorem z_has80 : hasT Tryz.prog 80 = true := by kernel_rfl
theorem z_agg80 : aggT Tryz.prog 80 = true := by kernel_rfl
theorem z_cel80 : Program.cellsOf Tryz.prog 80 = 5 := by kernel_rfl
theorem z_byt80 : Program.bytesOf Tryz.prog 80 = 48 := by kernel_rfl
theorem z_off80_0 : offT Tryz.prog 80 0 = some 0 := by kernel_rfl
theorem z_fld80_0 : fldT Tryz.prog 80 0 = some 9 := by kernel_rfl
theorem z_off80_1 : offT Tryz.prog 80 1 = some 1 := by kernel_rfl
theorem z_fld80_1 : fldT Tryz.prog 80 1 = some 3 := by kernel_rfl
theorem z_off80_2 : offT Tryz.prog 80 2 = some 2 := by kernel_rfl
theorem z_fld80_2 : fldT Tryz.prog 80 2 = some 3 := by kernel_rfl
theorem z_off80_3 : offT Tryz.prog 80 3 = some 3 := by kernel_rfl
theorem z_fld80_3 : fldT Tryz.prog 80 3 = some 3 := by kernel_rfl
theorem z_off80_4 : offT Tryz.prog 80 4 = some 4 := by kernel_rfl
theorem z_fld80_4 : fldT Tryz.prog 80 4 = some 3 := by kernel_rfl
theorem z_zer80 : zeroA Tryz.prog 80 = some [.pv (.str []), .pv (.int .i64 0), .pv (.int .i64 0), .pv (.int .i64 0), .pv (.int .i64 0)] := by kernel_rfl
theorem z_eqT80 : eqT Tryz.prog 80 = some [(0, 9), (1, 3), (2, 3), (3, 3), (4, 3)] := by kernel_rfl
theorem z_stt84 : stT Tryz.prog 84 = true := by kernel_rfl
theorem z_has84 : hasT Tryz.prog 84 = true := by kernel_rfl
theorem z_agg84 : aggT Tryz.prog 84 = true := by kernel_rfl
theorem z_cel84 : Program.cellsOf Tryz.prog 84 = 5 := by kernel_rfl
theorem z_byt84 : Program.bytesOf Tryz.prog 84 = 56 := by kernel_rfl
theorem z_off84_0 : offT Tryz.prog 84 0 = some 0 := by kernel_rfl
theorem z_fld84_0 : fldT Tryz.prog 84 0 = some 60 := by kernel_rfl
theorem z_off84_1 : offT Tryz.prog 84 1 = some 1 := by kernel_rfl
theorem z_fld84_1 : fldT Tryz.prog 84 1 = some 3 := by kernel_rfl
theorem z_off84_2 : offT Tryz.prog 84 2 = some 2 := by kernel_rfl
theorem z_fld84_2 : fldT Tryz.prog 84 2 = some 3 := by kernel_rfl
theorem z_off84_3 : offT Tryz.prog 84 3 = some 3 := by kernel_rfl
theorem z_fld84_3 : fldT Tryz.prog 84 3 = some 3 := by kernel_rfl
theorem z_off84_4 : offT Tryz.prog 84 4 = some 4 := by kernel_rfl
theorem z_fld84_4 : fldT Tryz.prog 84 4 = some 3 := by kernel_rfl
theorem z_zer84 : zeroA Tryz.prog 84 = some [.emp, .pv (.int .i64 0), .pv (.int .i64 0), .pv (.int .i64 0), .pv (.int .i64 0)] := by kernel_rfl
theorem z_eqT84 : eqT Tryz.prog 84 = some [(0, 60), (1, 3), (2, 3), (3, 3), (4, 3)] := by kernel_rfl
theorem z_stt88 : stT Tryz.prog 88 = true := by kernel_rfl
theorem z_has88 : hasT Tryz.prog 88 = true := by kernel_rfl
theorem z_agg88 : aggT Tryz.prog 88 = true := by kernel_rfl
theorem z_cel88 : Program.cellsOf Tryz.prog 88 = 4 := by kernel_rfl
theorem z_byt88 : Program.bytesOf Tryz.prog 88 = 40 := by kernel_rfl
theorem z_off88_0 : offT Tryz.prog 88 0 = some 0 := by kernel_rfl
theorem z_fld88_0 : fldT Tryz.prog 88 0 = some 9 := by kernel_rfl
theorem z_off88_1 : offT Tryz.prog 88 1 = some 1 := by kernel_rfl
theorem z_fld88_1 : fldT Tryz.prog 88 1 = some 3 := by kernel_rfl
theorem z_off88_2 : offT Tryz.prog 88 2 = some 2 := by kernel_rfl
theorem z_fld88_2 : fldT Tryz.prog 88 2 = some 3 := by kernel_rfl
theorem z_off88_3 : offT Tryz.prog 88 3 = some 3 := by kernel_rfl
theorem z_fld88_3 : fldT Tryz.prog 88 3 = some 3 := by kernel_rfl
theorem z_zer88 : zeroA Tryz.prog 88 = some [.pv (.str []), .pv (.int .i64 0), .pv (.int .i64 0), .pv (.int .i64 0)] := by kernel_rfl
theorem z_eqT88 : eqT Tryz.prog 88 = some [(0, 9), (1, 3), (2, 3), (3, 3)] := by kernel_rfl
theorem z_has94 : hasT Tryz.prog 94 = true := by kernel_rfl
theorem z_nst94 : strT Tryz.prog 94 = false := by kernel_rfl
theorem z_agg94 : aggT Tryz.prog 94 = false := by kernel_rfl
theorem z_elm94 : elemT Tryz.prog 94 = some 148 := by kernel_rfl
theorem z_cel94 : Program.cellsOf Tryz.prog 94 = 1 := by kernel_rfl
theorem z_byt94 : Program.bytesOf Tryz.prog 94 = 24 := by kernel_rfl
theorem z_zer94 : zeroA Tryz.prog 94 = some [.emp] := by kernel_rfl
theorem z_stt96 : stT Tryz.prog 96 = true := by kernel_rfl
theorem z_has96 : hasT Tryz.prog 96 = true := by kernel_rfl
theorem z_agg96 : aggT Tryz.prog 96 = true := by kernel_rfl
theorem z_cel96 : Program.cellsOf Tryz.prog 96 = 4 := by kernel_rfl
theorem z_byt96 : Program.bytesOf Tryz.prog 96 = 72 := by kernel_rfl
theorem z_off96_0 : offT Tryz.prog 96 0 = some 0 := by kernel_rfl
theorem z_fld96_0 : fldT Tryz.prog 96 0 = some 9 := by kernel_rfl
theorem z_off96_1 : offT Tryz.prog 96 1 = some 1 := by kernel_rfl
theorem z_fld96_1 : fldT Tryz.prog 96 1 = some 47 := by kernel_rfl
theorem z_off96_2 : offT Tryz.prog 96 2 = some 2 := by kernel_rfl
theorem z_fld96_2 : fldT Tryz.prog 96 2 = some 94 := by kernel_rfl
theorem z_off96_3 : offT Tryz.prog 96 3 = some 3 := by kernel_rfl
theorem z_fld96_3 : fldT Tryz.prog 96 3 = some 3 := by kernel_rfl
theorem z_zer96 : zeroA Tryz.prog 96 = some [.pv (.str []), .emp, .emp, .pv (.int .i64 0)] := by kernel_rfl
theorem z_eqT96 : eqT Tryz.prog 96 = some [(0, 9), (1, 47), (2, 94), (3, 3)] := by kernel_rfl
theorem z_has110 : hasT Tryz.prog 110 = true := by kernel_rfl
theorem z_nst110 : strT Tryz.prog 110 = false := by kernel_rfl
theorem z_agg110 : aggT Tryz.prog 110 = false := by kernel_rfl
theorem z_elm110 : elemT Tryz.prog 110 = some 47 := by kernel_rfl
theorem z_cel110 : Program.cellsOf Tryz.prog 110 = 1 := by kernel_rfl
theorem z_byt110 : Program.bytesOf Tryz.prog 110 = 24 := by kernel_rfl
theorem z_zer110 : zeroA Tryz.prog 110 = some [.emp] := by kernel_rfl
theorem z_fun111 : funT Tryz.prog 111 = true := by kernel_rfl
theorem z_has111 : hasT Tryz.prog 111 = true := by kernel_rfl
theorem z_agg111 : aggT Tryz.prog 111 = false := by kernel_rfl
theorem z_cel111 : Program.cellsOf Tryz.prog 111 = 1 := by kernel_rfl
theorem z_byt111 : Program.bytesOf Tryz.prog 111 = 8 := by kernel_rfl
theorem z_zer111 : zeroA Tryz.prog 111 = some [.pv (.raw (.nilFunc))] := by kernel_rfl
theorem z_zrv111 : zeroV Tryz.prog 111 = some (.pv (.raw (.nilFunc))) := by kernel_rfl
theorem z_fun113 : funT Tryz.prog 113 = true := by kernel_rfl
theorem z_has113 : hasT Tryz.prog 113 = true := by kernel_rfl
theorem z_agg113 : aggT Tryz.prog 113 = false := by kernel_rfl
theorem z_cel113 : Program.cellsOf Tryz.prog 113 = 1 := by kernel_rfl
theorem z_byt113 : Program.bytesOf Tryz.prog 113 = 8 := by kernel_rfl
theorem z_zer113 : zeroA Tryz.prog 113 = some [.pv (.raw (.nilFunc))] := by kernel_rfl
theorem z_zrv113 : zeroV Tryz.prog 113 = some (.pv (.raw (.nilFunc))) := by kernel_rfl
theorem z_ptr126 : ptrT Tryz.prog 126 = true := by kernel_rfl
theorem z_has126 : hasT Tryz.prog 126 = true := by kernel_rfl
theorem z_agg126 : aggT Tryz.prog 126 = false := by kernel_rfl
theorem z_cel126 : Program.cellsOf Tryz.prog 126 = 1 := by kernel_rfl
theorem z_byt126 : Program.bytesOf Tryz.prog 126 = 8 := by kernel_rfl
theorem z_zer126 : zeroA Tryz.prog 126 = some [.pv (.raw (.pointer none))] := by kernel_rfl
theorem z_stt128 : stT Tryz.prog 128 = true := by kernel_rfl
theorem z_has128 : hasT Tryz.prog 128 = true := by kernel_rfl
theorem z_agg128 : aggT Tryz.prog 128 = true := by kernel_rfl
theorem z_cel128 : Program.cellsOf Tryz.prog 128 = 2 := by kernel_rfl
theorem z_byt128 : Program.bytesOf Tryz.prog 128 = 32 := by kernel_rfl
theorem z_off128_0 : offT Tryz.prog 128 0 = some 0 := by kernel_rfl
theorem z_fld128_0 : fldT Tryz.prog 128 0 = some 126 := by kernel_rfl
theorem z_off128_1 : offT Tryz.prog 128 1 = some 1 := by kernel_rfl
theorem z_fld128_1 : fldT Tryz.prog 128 1 = some 41 := by kernel_rfl
theorem z_zer128 : zeroA Tryz.prog 128 = some [.pv (.raw (.pointer none)), .emp] := by kernel_rfl
theorem z_eqT128 : eqT Tryz.prog 128 = some [(0, 126), (1, 41)] := by kernel_rfl
theorem z_stt130 : stT Tryz.prog 130 = true := by kernel_rfl
theorem z_has130 : hasT Tryz.prog 130 = true := by kernel_rfl
theorem z_agg130 : aggT Tryz.prog 130 = true := by kernel_rfl
theorem z_cel130 : Program.cellsOf Tryz.prog 130 = 3 := by kernel_rfl
theorem z_byt130 : Program.bytesOf Tryz.prog 130 = 40 := by kernel_rfl
theorem z_off130_0 : offT Tryz.prog 130 0 = some 0 := by kernel_rfl
theorem z_fld130_0 : fldT Tryz.prog 130 0 = some 128 := by kernel_rfl
theorem z_off130_1 : offT Tryz.prog 130 1 = some 2 := by kernel_rfl
theorem z_fld130_1 : fldT Tryz.prog 130 1 = some 3 := by kernel_rfl
theorem z_zer130 : zeroA Tryz.prog 130 = some [.pv (.raw (.pointer none)), .emp, .pv (.int .i64 0)] := by kernel_rfl
theorem z_eqT130 : eqT Tryz.prog 130 = some [(0, 128), (2, 3)] := by kernel_rfl
theorem z_stt137 : stT Tryz.prog 137 = true := by kernel_rfl
theorem z_has137 : hasT Tryz.prog 137 = true := by kernel_rfl
theorem z_agg137 : aggT Tryz.prog 137 = true := by kernel_rfl
theorem z_cel137 : Program.cellsOf Tryz.prog 137 = 3 := by kernel_rfl
theorem z_byt137 : Program.bytesOf Tryz.prog 137 = 32 := by kernel_rfl
theorem z_off137_0 : offT Tryz.prog 137 0 = some 0 := by kernel_rfl
theorem z_fld137_0 : fldT Tryz.prog 137 0 = some 9 := by kernel_rfl
theorem z_off137_1 : offT Tryz.prog 137 1 = some 1 := by kernel_rfl
theorem z_fld137_1 : fldT Tryz.prog 137 1 = some 3 := by kernel_rfl
theorem z_off137_2 : offT Tryz.prog 137 2 = some 2 := by kernel_rfl
theorem z_fld137_2 : fldT Tryz.prog 137 2 = some 3 := by kernel_rfl
theorem z_zer137 : zeroA Tryz.prog 137 = some [.pv (.str []), .pv (.int .i64 0), .pv (.int .i64 0)] := by kernel_rfl
theorem z_eqT137 : eqT Tryz.prog 137 = some [(0, 9), (1, 3), (2, 3)] := by kernel_rfl
theorem z_stt139 : stT Tryz.prog 139 = true := by kernel_rfl
theorem z_has139 : hasT Tryz.prog 139 = true := by kernel_rfl
theorem z_agg139 : aggT Tryz.prog 139 = true := by kernel_rfl
theorem z_cel139 : Program.cellsOf Tryz.prog 139 = 2 := by kernel_rfl
theorem z_byt139 : Program.bytesOf Tryz.prog 139 = 16 := by kernel_rfl
theorem z_off139_0 : offT Tryz.prog 139 0 = some 0 := by kernel_rfl
theorem z_fld139_0 : fldT Tryz.prog 139 0 = some 3 := by kernel_rfl
theorem z_off139_1 : offT Tryz.prog 139 1 = some 1 := by kernel_rfl
theorem z_fld139_1 : fldT Tryz.prog 139 1 = some 27 := by kernel_rfl
theorem z_zer139 : zeroA Tryz.prog 139 = some [.pv (.int .i64 0), .pv (.int .i64 0)] := by kernel_rfl
theorem z_eqT139 : eqT Tryz.prog 139 = some [(0, 3), (1, 27)] := by kernel_rfl
theorem z_has146 : hasT Tryz.prog 146 = true := by kernel_rfl
theorem z_nst146 : strT Tryz.prog 146 = false := by kernel_rfl
theorem z_agg146 : aggT Tryz.prog 146 = false := by kernel_rfl
theorem z_elm146 : elemT Tryz.prog 146 = some 184 := by kernel_rfl
theorem z_cel146 : Program.cellsOf Tryz.prog 146 = 1 := by kernel_rfl
theorem z_byt146 : Program.bytesOf Tryz.prog 146 = 24 := by kernel_rfl
theorem z_zer146 : zeroA Tryz.prog 146 = some [.emp] := by kernel_rfl
theorem z_stt148 : stT Tryz.prog 148 = true := by kernel_rfl
theorem z_has148 : hasT Tryz.prog 148 = true := by kernel_rfl
theorem z_agg148 : aggT Tryz.prog 148 = true := by kernel_rfl
theorem z_cel148 : Program.cellsOf Tryz.prog 148 = 6 := by kernel_rfl
theorem z_byt148 : Program.bytesOf Tryz.prog 148 = 104 := by kernel_rfl
theorem z_off148_0 : offT Tryz.prog 148 0 = some 0 := by kernel_rfl
theorem z_fld148_0 : fldT Tryz.prog 148 0 = some 3 := by kernel_rfl
theorem z_off148_1 : offT Tryz.prog 148 1 = some 1 := by kernel_rfl
theorem z_fld148_1 : fldT Tryz.prog 148 1 = some 9 := by kernel_rfl
theorem z_off148_2 : offT Tryz.prog 148 2 = some 2 := by kernel_rfl
theorem z_fld148_2 : fldT Tryz.prog 148 2 = some 146 := by kernel_rfl
theorem z_off148_3 : offT Tryz.prog 148 3 = some 3 := by kernel_rfl
theorem z_fld148_3 : fldT Tryz.prog 148 3 = some 94 := by kernel_rfl
theorem z_off148_4 : offT Tryz.prog 148 4 = some 4 := by kernel_rfl
theorem z_fld148_4 : fldT Tryz.prog 148 4 = some 94 := by kernel_rfl
theorem z_off148_5 : offT Tryz.prog 148 5 = some 5 := by kernel_rfl
theorem z_fld148_5 : fldT Tryz.prog 148 5 = some 3 := by kernel_rfl
theorem z_zer148 : zeroA Tryz.prog 148 = some [.pv (.int .i64 0), .pv (.str []), .emp, .emp, .emp, .pv (.int .i64 0)] := by kernel_rfl
theorem z_eqT148 : eqT Tryz.prog 148 = some [(0, 3), (1, 9), (2, 146), (3, 94), (4, 94), (5, 3)] := by kernel_rfl
theorem z_stt153 : stT Tryz.prog 153 = true := by kernel_rfl
theorem z_has153 : hasT Tryz.prog 153 = true := by kernel_rfl
theorem z_agg153 : aggT Tryz.prog 153 = true := by kernel_rfl
theorem z_cel153 : Program.cellsOf Tryz.prog 153 = 8 := by kernel_rfl
theorem z_byt153 : Program.bytesOf Tryz.prog 153 = 112 := by kernel_rfl
theorem z_off153_0 : offT Tryz.prog 153 0 = some 0 := by kernel_rfl
theorem z_fld153_0 : fldT Tryz.prog 153 0 = some 26 := by kernel_rfl
theorem z_off153_1 : offT Tryz.prog 153 1 = some 2 := by kernel_rfl
theorem z_fld153_1 : fldT Tryz.prog 153 1 = some 47 := by kernel_rfl
theorem z_off153_2 : offT Tryz.prog 153 2 = some 3 := by kernel_rfl
theorem z_fld153_2 : fldT Tryz.prog 153 2 = some 3 := by kernel_rfl
theorem z_off153_3 : offT Tryz.prog 153 3 = some 4 := by kernel_rfl
theorem z_fld153_3 : fldT Tryz.prog 153 3 = some 3 := by kernel_rfl
theorem z_off153_4 : offT Tryz.prog 153 4 = some 5 := by kernel_rfl
theorem z_fld153_4 : fldT Tryz.prog 153 4 = some 3 := by kernel_rfl
theorem z_off153_5 : offT Tryz.prog 153 5 = some 6 := by kernel_rfl
theorem z_fld153_5 : fldT Tryz.prog 153 5 = some 3 := by kernel_rfl
theorem z_off153_6 : offT Tryz.prog 153 6 = some 7 := by kernel_rfl
theorem z_fld153_6 : fldT Tryz.prog 153 6 = some 27 := by kernel_rfl
theorem z_zer153 : zeroA Tryz.prog 153 = some [.emp, .emp, .emp, .pv (.int .i64 0), .pv (.int .i64 0), .pv (.int .i64 0), .pv (.int .i64 0), .pv (.int .i64 0)] := by kernel_rfl
theorem z_eqT153 : eqT Tryz.prog 153 = some [(0, 26), (2, 47), (3, 3), (4, 3), (5, 3), (6, 3), (7, 27)] := by kernel_rfl
theorem z_has176 : hasT Tryz.prog 176 = true := by kernel_rfl
theorem z_nst176 : strT Tryz.prog 176 = false := by kernel_rfl
theorem z_agg176 : aggT Tryz.prog 176 = false := by kernel_rfl
theorem z_elm176 : elemT Tryz.prog 176 = some 179 := by kernel_rfl
theorem z_cel176 : Program.cellsOf Tryz.prog 176 = 1 := by kernel_rfl
theorem z_byt176 : Program.bytesOf Tryz.prog 176 = 24 := by kernel_rfl
theorem z_zer176 : zeroA Tryz.prog 176 = some [.emp] := by kernel_rfl
theorem z_fun179 : funT Tryz.prog 179 = true := by kernel_rfl
theorem z_has179 : hasT Tryz.prog 179 = true := by kernel_rfl
theorem z_agg179 : aggT Tryz.prog 179 = false := by kernel_rfl
theorem z_cel179 : Program.cellsOf Tryz.prog 179 = 1 := by kernel_rfl
theorem z_byt179 : Program.bytesOf Tryz.prog 179 = 8 := by kernel_rfl
theorem z_zer179 : zeroA Tryz.prog 179 = some [.pv (.raw (.nilFunc))] := by kernel_rfl
theorem z_zrv179 : zeroV Tryz.prog 179 = some (.pv (.raw (.nilFunc))) := by kernel_rfl
theorem z_stt184 : stT Tryz.prog 184 = true := by kernel_rfl
theorem z_has184 : hasT Tryz.prog 184 = true := by kernel_rfl
theorem z_agg184 : aggT Tryz.prog 184 = true := by kernel_rfl
theorem z_cel184 : Program.cellsOf Tryz.prog 184 = 7 := by kernel_rfl
theorem z_byt184 : Program.bytesOf Tryz.prog 184 = 96 := by kernel_rfl
theorem z_off184_0 : offT Tryz.prog 184 0 = some 0 := by kernel_rfl
theorem z_fld184_0 : fldT Tryz.prog 184 0 = some 3 := by kernel_rfl
theorem z_off184_1 : offT Tryz.prog 184 1 = some 1 := by kernel_rfl
theorem z_fld184_1 : fldT Tryz.prog 184 1 = some 9 := by kernel_rfl
theorem z_off184_2 : offT Tryz.prog 184 2 = some 2 := by kernel_rfl
theorem z_fld184_2 : fldT Tryz.prog 184 2 = some 9 := by kernel_rfl
theorem z_off184_3 : offT Tryz.prog 184 3 = some 3 := by kernel_rfl
theorem z_fld184_3 : fldT Tryz.prog 184 3 = some 3 := by kernel_rfl
theorem z_off184_4 : offT Tryz.prog 184 4 = some 4 := by kernel_rfl
theorem z_fld184_4 : fldT Tryz.prog 184 4 = some 9 := by kernel_rfl
theorem z_off184_5 : offT Tryz.prog 184 5 = some 5 := by kernel_rfl
theorem z_fld184_5 : fldT Tryz.prog 184 5 = some 146 := by kernel_rfl
theorem z_off184_6 : offT Tryz.prog 184 6 = some 6 := by kernel_rfl
theorem z_fld184_6 : fldT Tryz.prog 184 6 = some 3 := by kernel_rfl
theorem z_zer184 : zeroA Tryz.prog 184 = some [.pv (.int .i64 0), .pv (.str []), .pv (.str []), .pv (.int .i64 0), .pv (.str []), .emp, .pv (.int .i64 0)] := by kernel_rfl
theorem z_eqT184 : eqT Tryz.prog 184 = some [(0, 3), (1, 9), (2, 9), (3, 3), (4, 9), (5, 146), (6, 3)] := by kernel_rfl
theorem z_has207 : hasT Tryz.prog 207 = true := by kernel_rfl
theorem z_agg207 : aggT Tryz.prog 207 = false := by kernel_rfl
theorem z_cel207 : Program.cellsOf Tryz.prog 207 = 1 := by kernel_rfl
theorem z_byt207 : Program.bytesOf Tryz.prog 207 = 8 := by kernel_rfl
theorem z_zer207 : zeroA Tryz.prog 207 = some [.pv (.raw (.map none))] := by kernel_rfl
theorem z_map207 : mapT Tryz.prog 207 = some 205 := by kernel_rfl
theorem z_has247 : hasT Tryz.prog 247 = true := by kernel_rfl
theorem z_agg247 : aggT Tryz.prog 247 = true := by kernel_rfl
theorem z_arr247 : arrT Tryz.prog 247 = some (256, 3) := by kernel_rfl
theorem z_cel247 : Program.cellsOf Tryz.prog 247 = 256 := by kernel_rfl
theorem z_byt247 : Program.bytesOf Tryz.prog 247 = 2048 := by kernel_rfl
theorem zf : type_of% (And.intro (And.intro (And.intro (And.intro (And.intro (And.intro (And.intro (And.intro z_has3 (And.intro z_agg3 z_int3)) (And.intro (And.intro z_cel3 z_byt3) (And.intro z_zer3 z_boo4))) (And.intro (And.intro z_has4 (And.intro z_agg4 z_cel4)) (And.intro (And.intro z_byt4 z_zer4) (And.intro z_has5 z_agg5)))) (And.intro (And.intro (And.intro z_int5 (And.intro z_cel5 z_byt5)) (And.intro (And.intro z_zer5 z_str9) (And.intro z_has9 z_agg9))) (And.intro (And.intro (And.intro z_cel9 z_byt9) (And.intro z_zer9 z_has23)) (And.intro (And.intro z_nst23 z_agg23) (And.intro z_elm23 z_cel23))))) (And.intro (And.intro (And.intro (And.intro z_byt23 (And.intro z_zer23 z_has24)) (And.intro (And.intro z_nst24 z_agg24) (And.intro z_elm24 z_cel24))) (And.intro (And.intro (And.intro z_byt24 z_zer24) (And.intro z_stt26 z_has26)) (And.intro (And.intro z_agg26 z_cel26) (And.intro z_byt26 z_off26_0)))) (And.intro (And.intro (And.intro z_fld26_0 (And.intro z_off26_1 z_fld26_1)) (And.intro (And.intro z_zer26 z_eqT26) (And.intro z_has27 z_agg27))) (And.intro (And.intro (And.intro z_int27 z_cel27) (And.intro z_byt27 z_zer27)) (And.intro (And.intro z_has30 z_nst30) (And.intro z_agg30 z_elm30)))))) (And.intro (And.intro (And.intro (And.intro (And.intro z_cel30 (And.intro z_byt30 z_zer30)) (And.intro (And.intro z_has31 z_nst31) (And.intro z_agg31 z_elm31))) (And.intro (And.intro (And.intro z_cel31 z_byt31) (And.intro z_zer31 z_stt33)) (And.intro (And.intro z_has33 z_agg33) (And.intro z_cel33 z_byt33)))) (And.intro (And.intro (And.intro z_off33_0 (And.intro z_fld33_0 z_off33_1)) (And.intro (And.intro z_fld33_1 z_zer33) (And.intro z_eqT33 z_ptr38))) (And.intro (And.intro (And.intro z_has38 z_agg38) (And.intro z_cel38 z_byt38)) (And.intro (And.intro z_zer38 z_has41) (And.intro z_nst41 z_agg41))))) (And.intro (And.intro (And.intro (And.intro z_elm41 (And.intro z_cel41 z_byt41)) (And.intro (And.intro z_zer41 z_has42) (And.intro z_nst42 z_agg42))) (And.intro (And.intro (And.intro z_elm42 z_cel42) (And.intro z_byt42 z_zer42)) (And.intro (And.intro z_stt44 z_has44) (And.intro z_agg44 z_cel44)))) (And.intro (And.intro (And.intro z_byt44 (And.intro z_off44_0 z_fld44_0)) (And.intro (And.intro z_off44_1 z_fld44_1) (And.intro z_off44_2 z_fld44_2))) (And.intro (And.intro (And.intro z_off44_3 z_fld44_3) (And.intro z_off44_4 z_fld44_4)) (And.intro (And.intro z_off44_5 z_fld44_5) (And.intro z_off44_6 z_fld44_6))))))) (And.intro (And.intro (And.intro (And.intro (And.intro (And.intro z_off44_7 (And.intro z_fld44_7 z_zer44)) (And.intro (And.intro z_eqT44 z_has47) (And.intro z_nst47 z_agg47))) (And.intro (And.intro z_elm47 (And.intro z_cel47 z_byt47)) (And.intro (And.intro z_zer47 z_has48) (And.intro z_nst48 z_agg48)))) (And.intro (And.intro (And.intro z_elm48 (And.intro z_cel48 z_byt48)) (And.intro (And.intro z_zer48 z_stt50) (And.intro z_has50 z_agg50))) (And.intro (And.intro (And.intro z_cel50 z_byt50) (And.intro z_off50_0 z_fld50_0)) (And.intro (And.intro z_off50_1 z_fld50_1) (And.intro z_off50_2 z_fld50_2))))) (And.intro (And.intro (And.intro (And.intro z_off50_3 (And.intro z_fld50_3 z_off50_4)) (And.intro (And.intro z_fld50_4 z_zer50) (And.intro z_eqT50 z_stt52))) (And.intro (And.intro (And.intro z_has52 z_agg52) (And.intro z_cel52 z_byt52)) (And.intro (And.intro z_off52_0 z_fld52_0) (And.intro z_off52_1 z_fld52_1)))) (And.intro (And.intro (And.intro z_off52_2 (And.intro z_fld52_2 z_off52_3)) (And.intro (And.intro z_fld52_3 z_off52_4) (And.intro z_fld52_4 z_off52_5))) (And.intro (And.intro (And.intro z_fld52_5 z_off52_6) (And.intro z_fld52_6 z_zer52)) (And.intro (And.intro z_eqT52 z_has60) (And.intro z_nst60 z_agg60)))))) (And.intro (And.intro (And.intro (And.intro (And.intro z_elm60 (And.intro z_cel60 z_byt60)) (And.intro (And.intro z_zer60 z_stt64) (And.intro z_has64 z_agg64))) (And.intro (And.intro (And.intro z_cel64 z_byt64) (And.intro z_off64_0 z_fld64_0)) (And.intro (And.intro z_off64_1 z_fld64_1) (And.intro z_off64_2 z_fld64_2)))) (And.intro (And.intro (And.intro z_off64_3 (And.intro z_fld64_3 z_off64_4)) (And.intro (And.intro z_fld64_4 z_zer64) (And.intro z_eqT64 z_has70))) (And.intro (And.intro (And.intro z_nst70 z_agg70) (And.intro z_elm70 z_cel70)) (And.intro (And.intro z_byt70 z_zer70) (And.intro z_stt75 z_has75))))) (And.intro (And.intro (And.intro (And.intro z_agg75 (And.intro z_cel75 z_byt75)) (And.intro (And.intro z_off75_0 z_fld75_0) (And.intro z_off75_1 z_fld75_1))) (And.intro (And.intro (And.intro z_off75_2 z_fld75_2) (And.intro z_off75_3 z_fld75_3)) (And.intro (And.intro z_zer75 z_eqT75) (And.intro z_stt77 z_has77)))) (And.intro (And.intro (And.intro z_agg77 (And.intro z_cel77 z_byt77)) (And.intro (And.intro z_off77_0 z_fld77_0) (And.intro z_off77_1 z_fld77_1))) (And.intro (And.intro (And.intro z_off77_2 z_fld77_2) (And.intro z_off77_3 z_fld77_3)) (And.intro (And.intro z_off77_4 z_fld77_4) (And.intro z_off77_5 z_fld77_5)))))))) (And.intro (And.intro (And.intro (And.intro (And.intro (And.intro (And.intro z_zer77 (And.intro z_eqT77 z_stt80)) (And.intro (And.intro z_has80 z_agg80) (And.intro z_cel80 z_byt80))) (And.intro (And.intro z_off80_0 (And.intro z_fld80_0 z_off80_1)) (And.intro (And.intro z_fld80_1 z_off80_2) (And.intro z_fld80_2 z_off80_3)))) (And.intro (And.intro (And.intro z_fld80_3 (And.intro z_off80_4 z_fld80_4)) (And.intro (And.intro z_zer80 z_eqT80) (And.intro z_stt84 z_has84))) (And.intro (And.intro (And.intro z_agg84 z_cel84) (And.intro z_byt84 z_off84_0)) (And.intro (And.intro z_fld84_0 z_off84_1) (And.intro z_fld84_1 z_off84_2))))) (And.intro (And.intro (And.intro (And.intro z_fld84_2 (And.intro z_off84_3 z_fld84_3)) (And.intro (And.intro z_off84_4 z_fld84_4) (And.intro z_zer84 z_eqT84))) (And.intro (And.intro (And.intro z_stt88 z_has88) (And.intro z_agg88 z_cel88)) (And.intro (And.intro z_byt88 z_off88_0) (And.intro z_fld88_0 z_off88_1)))) (And.intro (And.intro (And.intro z_fld88_1 (And.intro z_off88_2 z_fld88_2)) (And.intro (And.intro z_off88_3 z_fld88_3) (And.intro z_zer88 z_eqT88))) (And.intro (And.intro (And.intro z_has94 z_nst94) (And.intro z_agg94 z_elm94)) (And.intro (And.intro z_cel94 z_byt94) (And.intro z_zer94 z_stt96)))))) (And.intro (And.intro (And.intro (And.intro (And.intro z_has96 (And.intro z_agg96 z_cel96)) (And.intro (And.intro z_byt96 z_off96_0) (And.intro z_fld96_0 z_off96_1))) (And.intro (And.intro (And.intro z_fld96_1 z_off96_2) (And.intro z_fld96_2 z_off96_3)) (And.intro (And.intro z_fld96_3 z_zer96) (And.intro z_eqT96 z_has110)))) (And.intro (And.intro (And.intro z_nst110 (And.intro z_agg110 z_elm110)) (And.intro (And.intro z_cel110 z_byt110) (And.intro z_zer110 z_fun111))) (And.intro (And.intro (And.intro z_has111 z_agg111) (And.intro z_cel111 z_byt111)) (And.intro (And.intro z_zer111 z_zrv111) (And.intro z_fun113 z_has113))))) (And.intro (And.intro (And.intro (And.intro z_agg113 (And.intro z_cel113 z_byt113)) (And.intro (And.intro z_zer113 z_zrv113) (And.intro z_ptr126 z_has126))) (And.intro (And.intro (And.intro z_agg126 z_cel126) (And.intro z_byt126 z_zer126)) (And.intro (And.intro z_stt128 z_has128) (And.intro z_agg128 z_cel128)))) (And.intro (And.intro (And.intro z_byt128 (And.intro z_off128_0 z_fld128_0)) (And.intro (And.intro z_off128_1 z_fld128_1) (And.intro z_zer128 z_eqT128))) (And.intro (And.intro (And.intro z_stt130 z_has130) (And.intro z_agg130 z_cel130)) (And.intro (And.intro z_byt130 z_off130_0) (And.intro z_fld130_0 z_off130_1))))))) (And.intro (And.intro (And.intro (And.intro (And.intro (And.intro z_fld130_1 (And.intro z_zer130 z_eqT130)) (And.intro (And.intro z_stt137 z_has137) (And.intro z_agg137 z_cel137))) (And.intro (And.intro (And.intro z_byt137 z_off137_0) (And.intro z_fld137_0 z_off137_1)) (And.intro (And.intro z_fld137_1 z_off137_2) (And.intro z_fld137_2 z_zer137)))) (And.intro (And.intro (And.intro z_eqT137 (And.intro z_stt139 z_has139)) (And.intro (And.intro z_agg139 z_cel139) (And.intro z_byt139 z_off139_0))) (And.intro (And.intro (And.intro z_fld139_0 z_off139_1) (And.intro z_fld139_1 z_zer139)) (And.intro (And.intro z_eqT139 z_has146) (And.intro z_nst146 z_agg146))))) (And.intro (And.intro (And.intro (And.intro z_elm146 (And.intro z_cel146 z_byt146)) (And.intro (And.intro z_zer146 z_stt148) (And.intro z_has148 z_agg148))) (And.intro (And.intro (And.intro z_cel148 z_byt148) (And.intro z_off148_0 z_fld148_0)) (And.intro (And.intro z_off148_1 z_fld148_1) (And.intro z_off148_2 z_fld148_2)))) (And.intro (And.intro (And.intro z_off148_3 (And.intro z_fld148_3 z_off148_4)) (And.intro (And.intro z_fld148_4 z_off148_5) (And.intro z_fld148_5 z_zer148))) (And.intro (And.intro (And.intro z_eqT148 z_stt153) (And.intro z_has153 z_agg153)) (And.intro (And.intro z_cel153 z_byt153) (And.intro z_off153_0 z_fld153_0)))))) (And.intro (And.intro (And.intro (And.intro (And.intro z_off153_1 (And.intro z_fld153_1 z_off153_2)) (And.intro (And.intro z_fld153_2 z_off153_3) (And.intro z_fld153_3 z_off153_4))) (And.intro (And.intro (And.intro z_fld153_4 z_off153_5) (And.intro z_fld153_5 z_off153_6)) (And.intro (And.intro z_fld153_6 z_zer153) (And.intro z_eqT153 z_has176)))) (And.intro (And.intro (And.intro z_nst176 (And.intro z_agg176 z_elm176)) (And.intro (And.intro z_cel176 z_byt176) (And.intro z_zer176 z_fun179))) (And.intro (And.intro (And.intro z_has179 z_agg179) (And.intro z_cel179 z_byt179)) (And.intro (And.intro z_zer179 z_zrv179) (And.intro z_stt184 z_has184))))) (And.intro (And.intro (And.intro (And.intro z_agg184 (And.intro z_cel184 z_byt184)) (And.intro (And.intro z_off184_0 z_fld184_0) (And.intro z_off184_1 z_fld184_1))) (And.intro (And.intro (And.intro z_off184_2 z_fld184_2) (And.intro z_off184_3 z_fld184_3)) (And.intro (And.intro z_off184_4 z_fld184_4) (And.intro z_off184_5 z_fld184_5)))) (And.intro (And.intro (And.intro z_off184_6 (And.intro z_fld184_6 z_zer184)) (And.intro (And.intro z_eqT184 z_has207) (And.intro z_agg207 z_cel207))) (And.intro (And.intro (And.intro z_byt207 z_zer207) (And.intro z_map207 z_has247)) (And.intro (And.intro z_agg247 z_arr247) (And.intro z_cel247 z_byt247))))))))) := (And.intro (And.intro (And.intro (And.intro (And.intro (And.intro (And.intro (And.intro z_has3 (And.intro z_agg3 z_int3)) (And.intro (And.intro z_cel3 z_byt3) (And.intro z_zer3 z_boo4))) (And.intro (And.intro z_has4 (And.intro z_agg4 z_cel4)) (And.intro (And.intro z_byt4 z_zer4) (And.intro z_has5 z_agg5)))) (And.intro (And.intro (And.intro z_int5 (And.intro z_cel5 z_byt5)) (And.intro (And.intro z_zer5 z_str9) (And.intro z_has9 z_agg9))) (And.intro (And.intro (And.intro z_cel9 z_byt9) (And.intro z_zer9 z_has23)) (And.intro (And.intro z_nst23 z_agg23) (And.intro z_elm23 z_cel23))))) (And.intro (And.intro (And.intro (And.intro z_byt23 (And.intro z_zer23 z_has24)) (And.intro (And.intro z_nst24 z_agg24) (And.intro z_elm24 z_cel24))) (And.intro (And.intro (And.intro z_byt24 z_zer24) (And.intro z_stt26 z_has26)) (And.intro (And.intro z_agg26 z_cel26) (And.intro z_byt26 z_off26_0)))) (And.intro (And.intro (And.intro z_fld26_0 (And.intro z_off26_1 z_fld26_1)) (And.intro (And.intro z_zer26 z_eqT26) (And.intro z_has27 z_agg27))) (And.intro (And.intro (And.intro z_int27 z_cel27) (And.intro z_byt27 z_zer27)) (And.intro (And.intro z_has30 z_nst30) (And.intro z_agg30 z_elm30)))))) (And.intro (And.intro (And.intro (And.intro (And.intro z_cel30 (And.intro z_byt30 z_zer30)) (And.intro (And.intro z_has31 z_nst31) (And.intro z_agg31 z_elm31))) (And.intro (And.intro (And.intro z_cel31 z_byt31) (And.intro z_zer31 z_stt33)) (And.intro (And.intro z_has33 z_agg33) (And.intro z_cel33 z_byt33)))) (And.intro (And.intro (And.intro z_off33_0 (And.intro z_fld33_0 z_off33_1)) (And.intro (And.intro z_fld33_1 z_zer33) (And.intro z_eqT33 z_ptr38))) (And.intro (And.intro (And.intro z_has38 z_agg38) (And.intro z_cel38 z_byt38)) (And.intro (And.intro z_zer38 z_has41) (And.intro z_nst41 z_agg41))))) (And.intro (And.intro (And.intro (And.intro z_elm41 (And.intro z_cel41 z_byt41)) (And.intro (And.intro z_zer41 z_has42) (And.intro z_nst42 z_agg42))) (And.intro (And.intro (And.intro z_elm42 z_cel42) (And.intro z_byt42 z_zer42)) (And.intro (And.intro z_stt44 z_has44) (And.intro z_agg44 z_cel44)))) (And.intro (And.intro (And.intro z_byt44 (And.intro z_off44_0 z_fld44_0)) (And.intro (And.intro z_off44_1 z_fld44_1) (And.intro z_off44_2 z_fld44_2))) (And.intro (And.intro (And.intro z_off44_3 z_fld44_3) (And.intro z_off44_4 z_fld44_4)) (And.intro (And.intro z_off44_5 z_fld44_5) (And.intro z_off44_6 z_fld44_6))))))) (And.intro (And.intro (And.intro (And.intro (And.intro (And.intro z_off44_7 (And.intro z_fld44_7 z_zer44)) (And.intro (And.intro z_eqT44 z_has47) (And.intro z_nst47 z_agg47))) (And.intro (And.intro z_elm47 (And.intro z_cel47 z_byt47)) (And.intro (And.intro z_zer47 z_has48) (And.intro z_nst48 z_agg48)))) (And.intro (And.intro (And.intro z_elm48 (And.intro z_cel48 z_byt48)) (And.intro (And.intro z_zer48 z_stt50) (And.intro z_has50 z_agg50))) (And.intro (And.intro (And.intro z_cel50 z_byt50) (And.intro z_off50_0 z_fld50_0)) (And.intro (And.intro z_off50_1 z_fld50_1) (And.intro z_off50_2 z_fld50_2))))) (And.intro (And.intro (And.intro (And.intro z_off50_3 (And.intro z_fld50_3 z_off50_4)) (And.intro (And.intro z_fld50_4 z_zer50) (And.intro z_eqT50 z_stt52))) (And.intro (And.intro (And.intro z_has52 z_agg52) (And.intro z_cel52 z_byt52)) (And.intro (And.intro z_off52_0 z_fld52_0) (And.intro z_off52_1 z_fld52_1)))) (And.intro (And.intro (And.intro z_off52_2 (And.intro z_fld52_2 z_off52_3)) (And.intro (And.intro z_fld52_3 z_off52_4) (And.intro z_fld52_4 z_off52_5))) (And.intro (And.intro (And.intro z_fld52_5 z_off52_6) (And.intro z_fld52_6 z_zer52)) (And.intro (And.intro z_eqT52 z_has60) (And.intro z_nst60 z_agg60)))))) (And.intro (And.intro (And.intro (And.intro (And.intro z_elm60 (And.intro z_cel60 z_byt60)) (And.intro (And.intro z_zer60 z_stt64) (And.intro z_has64 z_agg64))) (And.intro (And.intro (And.intro z_cel64 z_byt64) (And.intro z_off64_0 z_fld64_0)) (And.intro (And.intro z_off64_1 z_fld64_1) (And.intro z_off64_2 z_fld64_2)))) (And.intro (And.intro (And.intro z_off64_3 (And.intro z_fld64_3 z_off64_4)) (And.intro (And.intro z_fld64_4 z_zer64) (And.intro z_eqT64 z_has70))) (And.intro (And.intro (And.intro z_nst70 z_agg70) (And.intro z_elm70 z_cel70)) (And.intro (And.intro z_byt70 z_zer70) (And.intro z_stt75 z_has75))))) (And.intro (And.intro (And.intro (And.intro z_agg75 (And.intro z_cel75 z_byt75)) (And.intro (And.intro z_off75_0 z_fld75_0) (And.intro z_off75_1 z_fld75_1))) (And.intro (And.intro (And.intro z_off75_2 z_fld75_2) (And.intro z_off75_3 z_fld75_3)) (And.intro (And.intro z_zer75 z_eqT75) (And.intro z_stt77 z_has77)))) (And.intro (And.intro (And.intro z_agg77 (And.intro z_cel77 z_byt77)) (And.intro (And.intro z_off77_0 z_fld77_0) (And.intro z_off77_1 z_fld77_1))) (And.intro (And.intro (And.intro z_off77_2 z_fld77_2) (And.intro z_off77_3 z_fld77_3)) (And.intro (And.intro z_off77_4 z_fld77_4) (And.intro z_off77_5 z_fld77_5)))))))) (And.intro (And.intro (And.intro (And.intro (And.intro (And.intro (And.intro z_zer77 (And.intro z_eqT77 z_stt80)) (And.intro (And.intro z_has80 z_agg80) (And.intro z_cel80 z_byt80))) (And.intro (And.intro z_off80_0 (And.intro z_fld80_0 z_off80_1)) (And.intro (And.intro z_fld80_1 z_off80_2) (And.intro z_fld80_2 z_off80_3)))) (And.intro (And.intro (And.intro z_fld80_3 (And.intro z_off80_4 z_fld80_4)) (And.intro (And.intro z_zer80 z_eqT80) (And.intro z_stt84 z_has84))) (And.intro (And.intro (And.intro z_agg84 z_cel84) (And.intro z_byt84 z_off84_0)) (And.intro (And.intro z_fld84_0 z_off84_1) (And.intro z_fld84_1 z_off84_2))))) (And.intro (And.intro (And.intro (And.intro z_fld84_2 (And.intro z_off84_3 z_fld84_3)) (And.intro (And.intro z_off84_4 z_fld84_4) (And.intro z_zer84 z_eqT84))) (And.intro (And.intro (And.intro z_stt88 z_has88) (And.intro z_agg88 z_cel88)) (And.intro (And.intro z_byt88 z_off88_0) (And.intro z_fld88_0 z_off88_1)))) (And.intro (And.intro (And.intro z_fld88_1 (And.intro z_off88_2 z_fld88_2)) (And.intro (And.intro z_off88_3 z_fld88_3) (And.intro z_zer88 z_eqT88))) (And.intro (And.intro (And.intro z_has94 z_nst94) (And.intro z_agg94 z_elm94)) (And.intro (And.intro z_cel94 z_byt94) (And.intro z_zer94 z_stt96)))))) (And.intro (And.intro (And.intro (And.intro (And.intro z_has96 (And.intro z_agg96 z_cel96)) (And.intro (And.intro z_byt96 z_off96_0) (And.intro z_fld96_0 z_off96_1))) (And.intro (And.intro (And.intro z_fld96_1 z_off96_2) (And.intro z_fld96_2 z_off96_3)) (And.intro (And.intro z_fld96_3 z_zer96) (And.intro z_eqT96 z_has110)))) (And.intro (And.intro (And.intro z_nst110 (And.intro z_agg110 z_elm110)) (And.intro (And.intro z_cel110 z_byt110) (And.intro z_zer110 z_fun111))) (And.intro (And.intro (And.intro z_has111 z_agg111) (And.intro z_cel111 z_byt111)) (And.intro (And.intro z_zer111 z_zrv111) (And.intro z_fun113 z_has113))))) (And.intro (And.intro (And.intro (And.intro z_agg113 (And.intro z_cel113 z_byt113)) (And.intro (And.intro z_zer113 z_zrv113) (And.intro z_ptr126 z_has126))) (And.intro (And.intro (And.intro z_agg126 z_cel126) (And.intro z_byt126 z_zer126)) (And.intro (And.intro z_stt128 z_has128) (And.intro z_agg128 z_cel128)))) (And.intro (And.intro (And.intro z_byt128 (And.intro z_off128_0 z_fld128_0)) (And.intro (And.intro z_off128_1 z_fld128_1) (And.intro z_zer128 z_eqT128))) (And.intro (And.intro (And.intro z_stt130 z_has130) (And.intro z_agg130 z_cel130)) (And.intro (And.intro z_byt130 z_off130_0) (And.intro z_fld130_0 z_off130_1))))))) (And.intro (And.intro (And.intro (And.intro (And.intro (And.intro z_fld130_1 (And.intro z_zer130 z_eqT130)) (And.intro (And.intro z_stt137 z_has137) (And.intro z_agg137 z_cel137))) (And.intro (And.intro (And.intro z_byt137 z_off137_0) (And.intro z_fld137_0 z_off137_1)) (And.intro (And.intro z_fld137_1 z_off137_2) (And.intro z_fld137_2 z_zer137)))) (And.intro (And.intro (And.intro z_eqT137 (And.intro z_stt139 z_has139)) (And.intro (And.intro z_agg139 z_cel139) (And.intro z_byt139 z_off139_0))) (And.intro (And.intro (And.intro z_fld139_0 z_off139_1) (And.intro z_fld139_1 z_zer139)) (And.intro (And.intro z_eqT139 z_has146) (And.intro z_nst146 z_agg146))))) (And.intro (And.intro (And.intro (And.intro z_elm146 (And.intro z_cel146 z_byt146)) (And.intro (And.intro z_zer146 z_stt148) (And.intro z_has148 z_agg148))) (And.intro (And.intro (And.intro z_cel148 z_byt148) (And.intro z_off148_0 z_fld148_0)) (And.intro (And.intro z_off148_1 z_fld148_1) (And.intro z_off148_2 z_fld148_2)))) (And.intro (And.intro (And.intro z_off148_3 (And.intro z_fld148_3 z_off148_4)) (And.intro (And.intro z_fld148_4 z_off148_5) (And.intro z_fld148_5 z_zer148))) (And.intro (And.intro (And.intro z_eqT148 z_stt153) (And.intro z_has153 z_agg153)) (And.intro (And.intro z_cel153 z_byt153) (And.intro z_off153_0 z_fld153_0)))))) (And.intro (And.intro (And.intro (And.intro (And.intro z_off153_1 (And.intro z_fld153_1 z_off153_2)) (And.intro (And.intro z_fld153_2 z_off153_3) (And.intro z_fld153_3 z_off153_4))) (And.intro (And.intro (And.intro z_fld153_4 z_off153_5) (And.intro z_fld153_5 z_off153_6)) (And.intro (And.intro z_fld153_6 z_zer153) (And.intro z_eqT153 z_has176)))) (And.intro (And.intro (And.intro z_nst176 (And.intro z_agg176 z_elm176)) (And.intro (And.intro z_cel176 z_byt176) (And.intro z_zer176 z_fun179))) (And.intro (And.intro (And.intro z_has179 z_agg179) (And.intro z_cel179 z_byt179)) (And.intro (And.intro z_zer179 z_zrv179) (And.intro z_stt184 z_has184))))) (And.intro (And.intro (And.intro (And.intro z_agg184 (And.intro z_cel184 z_byt184)) (And.intro (And.intro z_off184_0 z_fld184_0) (And.intro z_off184_1 z_fld184_1))) (And.intro (And.intro (And.intro z_off184_2 z_fld184_2) (And.intro z_off184_3 z_fld184_3)) (And.intro (And.intro z_off184_4 z_fld184_4) (And.intro z_off184_5 z_fld184_5)))) (And.intro (And.intro (And.intro z_off184_6 (And.intro z_fld184_6 z_zer184)) (And.intro (And.intro z_eqT184 z_has207) (And.intro z_agg207 z_cel207))) (And.intro (And.intro (And.intro z_byt207 z_zer207) (And.intro z_map207 z_has247)) (And.intro (And.intro z_agg247 z_arr247) (And.intro z_cel247 z_byt247)))))))))
end Go.Pw

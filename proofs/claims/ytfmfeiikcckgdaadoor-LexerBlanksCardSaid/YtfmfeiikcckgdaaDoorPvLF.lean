/- Facts about the seat's types. -/
import Derived.Test.YtfmfeiikcckgdaaDoorProg
import Derived.Test.YtfmfeiikcckgdaaDoorPvZb
set_option linter.unusedSimpArgs false
set_option linter.unusedVariables false
set_option linter.unusedSectionVars false
namespace Go.Pw
open Go.Proofs
set_option maxRecDepth 4000
theorem z_has3 : hasT Tryd.prog 3 = true := by kernel_rfl
theorem z_agg3 : aggT Tryd.prog 3 = false := by kernel_rfl
theorem z_int3 : intT Tryd.prog 3 = some .i64 := by kernel_rfl
theorem z_cel3 : Program.cellsOf Tryd.prog 3 = 1 := by kernel_rfl
theorem z_byt3 : Program.bytesOf Tryd.prog 3 = 8 := by kernel_rfl
theorem z_zer3 : zeroA Tryd.prog 3 = some [.pv (.int .i64 0)] := by kernel_rfl
theorem z_boo4 : boolT Tryd.prog 4 = true := by kernel_rfl
theorem z_has4 : hasT Tryd.prog 4 = true := by kernel_rfl
theorem z_agg4 : aggT Tryd.prog 4 = false := by kernel_rfl
theorem z_cel4 : Program.cellsOf Tryd.prog 4 = 1 := by kernel_rfl
theorem z_byt4 : Program.bytesOf Tryd.prog 4 = 1 := by kernel_rfl
theorem z_zer4 : zeroA Tryd.prog 4 = some [.pv (.bool false)] := by kernel_rfl
theorem z_has5 : hasT Tryd.prog 5 = true := by kernel_rfl
theorem z_agg5 : aggT Tryd.prog 5 = false := by kernel_rfl
theorem z_int5 : intT Tryd.prog 5 = some .u8 := by kernel_rfl
theorem z_cel5 : Program.cellsOf Tryd.prog 5 = 1 := by kernel_rfl
theorem z_byt5 : Program.bytesOf Tryd.prog 5 = 1 := by kernel_rfl
theorem z_zer5 : zeroA Tryd.prog 5 = some [.pv (.int .u8 0)] := by kernel_rfl
theorem z_str9 : strT Tryd.prog 9 = true := by kernel_rfl
theorem z_has9 : hasT Tryd.prog 9 = true := by kernel_rfl
theorem z_agg9 : aggT Tryd.prog 9 = false := by kernel_rfl
theorem z_cel9 : Program.cellsOf Tryd.prog 9 = 1 := by kernel_rfl
theorem z_byt9 : Program.bytesOf Tryd.prog 9 = 16 := by kernel_rfl
theorem z_zer9 : zeroA Tryd.prog 9 = some [.pv (.str [])] := by kernel_rfl
theorem z_has23 : hasT Tryd.prog 23 = true := by kernel_rfl
theorem z_nst23 : strT Tryd.prog 23 = false := by kernel_rfl
theorem z_agg23 : aggT Tryd.prog 23 = false := by kernel_rfl
theorem z_elm23 : elemT Tryd.prog 23 = some 29 := by kernel_rfl
theorem z_cel23 : Program.cellsOf Tryd.prog 23 = 1 := by kernel_rfl
theorem z_byt23 : Program.bytesOf Tryd.prog 23 = 24 := by kernel_rfl
theorem z_zer23 : zeroA Tryd.prog 23 = some [.emp] := by kernel_rfl
theorem z_has24 : hasT Tryd.prog 24 = true := by kernel_rfl
theorem z_agg24 : aggT Tryd.prog 24 = false := by kernel_rfl
theorem z_int24 : intT Tryd.prog 24 = some .i64 := by kernel_rfl
theorem z_cel24 : Program.cellsOf Tryd.prog 24 = 1 := by kernel_rfl
theorem z_byt24 : Program.bytesOf Tryd.prog 24 = 8 := by kernel_rfl
theorem z_zer24 : zeroA Tryd.prog 24 = some [.pv (.int .i64 0)] := by kernel_rfl
theorem z_stt29 : stT Tryd.prog 29 = true := by kernel_rfl
theorem z_has29 : hasT Tryd.prog 29 = true := by kernel_rfl
theorem z_agg29 : aggT Tryd.prog 29 = true := by kernel_rfl
theorem z_cel29 : Program.cellsOf Tryd.prog 29 = 6 := by kernel_rfl
theorem z_byt29 : Program.bytesOf Tryd.prog 29 = 64 := by kernel_rfl
theorem z_off29_0 : offT Tryd.prog 29 0 = some 0 := by kernel_rfl
theorem z_fld29_0 : fldT Tryd.prog 29 0 = some 3 := by kernel_rfl
theorem z_off29_1 : offT Tryd.prog 29 1 = some 1 := by kernel_rfl
theorem z_fld29_1 : fldT Tryd.prog 29 1 = some 9 := by kernel_rfl
theorem z_off29_2 : offT Tryd.prog 29 2 = some 2 := by kernel_rfl
theorem z_fld29_2 : fldT Tryd.prog 29 2 = some 3 := by kernel_rfl
theorem z_off29_3 : offT Tryd.prog 29 3 = some 3 := by kernel_rfl
theorem z_fld29_3 : fldT Tryd.prog 29 3 = some 9 := by kernel_rfl
theorem z_off29_4 : offT Tryd.prog 29 4 = some 4 := by kernel_rfl
theorem z_fld29_4 : fldT Tryd.prog 29 4 = some 3 := by kernel_rfl
theorem z_off29_5 : offT Tryd.prog 29 5 = some 5 := by kernel_rfl
theorem z_fld29_5 : fldT Tryd.prog 29 5 = some 3 := by kernel_rfl
theorem z_zer29 : zeroA Tryd.prog 29 = some [.pv (.int .i64 0), .pv (.str []), .pv (.int .i64 0), .pv (.str []), .pv (.int .i64 0), .pv (.int .i64 0)] := by kernel_rfl
theorem z_eqT29 : eqT Tryd.prog 29 = some [(0, 3), (1, 9), (2, 3), (3, 9), (4, 3), (5, 3)] := by kernel_rfl
theorem z_has32 : hasT Tryd.prog 32 = true := by kernel_rfl
theorem z_nst32 : strT Tryd.prog 32 = false := by kernel_rfl
theorem z_agg32 : aggT Tryd.prog 32 = false := by kernel_rfl
theorem z_elm32 : elemT Tryd.prog 32 = some 9 := by kernel_rfl
theorem z_cel32 : Program.cellsOf Tryd.prog 32 = 1 := by kernel_rfl
theorem z_byt32 : Program.bytesOf Tryd.prog 32 = 24 := by kernel_rfl
theorem z_zer32 : zeroA Tryd.prog 32 = some [.emp] := by kernel_rfl
theorem z_has34 : hasT Tryd.prog 34 = true := by kernel_rfl
theorem z_nst34 : strT Tryd.prog 34 = false := by kernel_rfl
theorem z_agg34 : aggT Tryd.prog 34 = false := by kernel_rfl
theorem z_elm34 : elemT Tryd.prog 34 = some 5 := by kernel_rfl
theorem z_cel34 : Program.cellsOf Tryd.prog 34 = 1 := by kernel_rfl
theorem z_byt34 : Program.bytesOf Tryd.prog 34 = 24 := by kernel_rfl
theorem z_zer34 : zeroA Tryd.prog 34 = some [.emp] := by kernel_rfl
theorem z_stt45 : stT Tryd.prog 45 = true := by kernel_rfl
theorem z_has45 : hasT Tryd.prog 45 = true := by kernel_rfl
theorem z_agg45 : aggT Tryd.prog 45 = true := by kernel_rfl
theorem z_cel45 : Program.cellsOf Tryd.prog 45 = 3 := by kernel_rfl
theorem z_byt45 : Program.bytesOf Tryd.prog 45 = 32 := by kernel_rfl
theorem z_off45_0 : offT Tryd.prog 45 0 = some 0 := by kernel_rfl
theorem z_fld45_0 : fldT Tryd.prog 45 0 = some 9 := by kernel_rfl
theorem z_off45_1 : offT Tryd.prog 45 1 = some 1 := by kernel_rfl
theorem z_fld45_1 : fldT Tryd.prog 45 1 = some 3 := by kernel_rfl
theorem z_off45_2 : offT Tryd.prog 45 2 = some 2 := by kernel_rfl
theorem z_fld45_2 : fldT Tryd.prog 45 2 = some 3 := by kernel_rfl
theorem z_zer45 : zeroA Tryd.prog 45 = some [.pv (.str []), .pv (.int .i64 0), .pv (.int .i64 0)] := by kernel_rfl
theorem z_eqT45 : eqT Tryd.prog 45 = some [(0, 9), (1, 3), (2, 3)] := by kernel_rfl
theorem z_stt47 : stT Tryd.prog 47 = true := by kernel_rfl
theorem z_has47 : hasT Tryd.prog 47 = true := by kernel_rfl
theorem z_agg47 : aggT Tryd.prog 47 = true := by kernel_rfl
theorem z_cel47 : Program.cellsOf Tryd.prog 47 = 2 := by kernel_rfl
theorem z_byt47 : Program.bytesOf Tryd.prog 47 = 16 := by kernel_rfl
theorem z_off47_0 : offT Tryd.prog 47 0 = some 0 := by kernel_rfl
theorem z_fld47_0 : fldT Tryd.prog 47 0 = some 3 := by kernel_rfl
theorem z_off47_1 : offT Tryd.prog 47 1 = some 1 := by kernel_rfl
theorem z_fld47_1 : fldT Tryd.prog 47 1 = some 24 := by kernel_rfl
theorem z_zer47 : zeroA Tryd.prog 47 = some [.pv (.int .i64 0), .pv (.int .i64 0)] := by kernel_rfl
theorem z_eqT47 : eqT Tryd.prog 47 = some [(0, 3), (1, 24)] := by kernel_rfl
theorem z_has62 : hasT Tryd.prog 62 = true := by kernel_rfl
theorem z_nst62 : strT Tryd.prog 62 = false := by kernel_rfl
theorem z_agg62 : aggT Tryd.prog 62 = false := by kernel_rfl
theorem z_elm62 : elemT Tryd.prog 62 = some 65 := by kernel_rfl
theorem z_cel62 : Program.cellsOf Tryd.prog 62 = 1 := by kernel_rfl
theorem z_byt62 : Program.bytesOf Tryd.prog 62 = 24 := by kernel_rfl
theorem z_zer62 : zeroA Tryd.prog 62 = some [.emp] := by kernel_rfl
theorem z_fun65 : funT Tryd.prog 65 = true := by kernel_rfl
theorem z_has65 : hasT Tryd.prog 65 = true := by kernel_rfl
theorem z_agg65 : aggT Tryd.prog 65 = false := by kernel_rfl
theorem z_cel65 : Program.cellsOf Tryd.prog 65 = 1 := by kernel_rfl
theorem z_byt65 : Program.bytesOf Tryd.prog 65 = 8 := by kernel_rfl
theorem z_zer65 : zeroA Tryd.prog 65 = some [.pv (.raw (.nilFunc))] := by kernel_rfl
theorem z_has128 : hasT Tryd.prog 128 = true := by kernel_rfl
theorem z_agg128 : aggT Tryd.prog 128 = true := by kernel_rfl
theorem z_arr128 : arrT Tryd.prog 128 = some (256, 3) := by kernel_rfl
theorem z_cel128 : Program.cellsOf Tryd.prog 128 = 256 := by kernel_rfl
theorem z_byt128 : Program.bytesOf Tryd.prog 128 = 2048 := by kernel_rfl
theorem zf : type_of% (And.intro (And.intro (And.intro (And.intro (And.intro (And.intro z_has3 (And.intro z_agg3 z_int3)) (And.intro (And.intro z_cel3 z_byt3) (And.intro z_zer3 z_boo4))) (And.intro (And.intro z_has4 (And.intro z_agg4 z_cel4)) (And.intro (And.intro z_byt4 z_zer4) (And.intro z_has5 z_agg5)))) (And.intro (And.intro (And.intro z_int5 (And.intro z_cel5 z_byt5)) (And.intro (And.intro z_zer5 z_str9) (And.intro z_has9 z_agg9))) (And.intro (And.intro z_cel9 (And.intro z_byt9 z_zer9)) (And.intro (And.intro z_has23 z_nst23) (And.intro z_agg23 z_elm23))))) (And.intro (And.intro (And.intro (And.intro z_cel23 (And.intro z_byt23 z_zer23)) (And.intro (And.intro z_has24 z_agg24) (And.intro z_int24 z_cel24))) (And.intro (And.intro z_byt24 (And.intro z_zer24 z_stt29)) (And.intro (And.intro z_has29 z_agg29) (And.intro z_cel29 z_byt29)))) (And.intro (And.intro (And.intro z_off29_0 (And.intro z_fld29_0 z_off29_1)) (And.intro (And.intro z_fld29_1 z_off29_2) (And.intro z_fld29_2 z_off29_3))) (And.intro (And.intro z_fld29_3 (And.intro z_off29_4 z_fld29_4)) (And.intro (And.intro z_off29_5 z_fld29_5) (And.intro z_zer29 z_eqT29)))))) (And.intro (And.intro (And.intro (And.intro (And.intro z_has32 (And.intro z_nst32 z_agg32)) (And.intro (And.intro z_elm32 z_cel32) (And.intro z_byt32 z_zer32))) (And.intro (And.intro z_has34 (And.intro z_nst34 z_agg34)) (And.intro (And.intro z_elm34 z_cel34) (And.intro z_byt34 z_zer34)))) (And.intro (And.intro (And.intro z_stt45 (And.intro z_has45 z_agg45)) (And.intro (And.intro z_cel45 z_byt45) (And.intro z_off45_0 z_fld45_0))) (And.intro (And.intro z_off45_1 (And.intro z_fld45_1 z_off45_2)) (And.intro (And.intro z_fld45_2 z_zer45) (And.intro z_eqT45 z_stt47))))) (And.intro (And.intro (And.intro (And.intro z_has47 (And.intro z_agg47 z_cel47)) (And.intro (And.intro z_byt47 z_off47_0) (And.intro z_fld47_0 z_off47_1))) (And.intro (And.intro z_fld47_1 (And.intro z_zer47 z_eqT47)) (And.intro (And.intro z_has62 z_nst62) (And.intro z_agg62 z_elm62)))) (And.intro (And.intro (And.intro z_cel62 (And.intro z_byt62 z_zer62)) (And.intro (And.intro z_fun65 z_has65) (And.intro z_agg65 z_cel65))) (And.intro (And.intro z_byt65 (And.intro z_zer65 z_has128)) (And.intro (And.intro z_agg128 z_arr128) (And.intro z_cel128 z_byt128))))))) := (And.intro (And.intro (And.intro (And.intro (And.intro (And.intro z_has3 (And.intro z_agg3 z_int3)) (And.intro (And.intro z_cel3 z_byt3) (And.intro z_zer3 z_boo4))) (And.intro (And.intro z_has4 (And.intro z_agg4 z_cel4)) (And.intro (And.intro z_byt4 z_zer4) (And.intro z_has5 z_agg5)))) (And.intro (And.intro (And.intro z_int5 (And.intro z_cel5 z_byt5)) (And.intro (And.intro z_zer5 z_str9) (And.intro z_has9 z_agg9))) (And.intro (And.intro z_cel9 (And.intro z_byt9 z_zer9)) (And.intro (And.intro z_has23 z_nst23) (And.intro z_agg23 z_elm23))))) (And.intro (And.intro (And.intro (And.intro z_cel23 (And.intro z_byt23 z_zer23)) (And.intro (And.intro z_has24 z_agg24) (And.intro z_int24 z_cel24))) (And.intro (And.intro z_byt24 (And.intro z_zer24 z_stt29)) (And.intro (And.intro z_has29 z_agg29) (And.intro z_cel29 z_byt29)))) (And.intro (And.intro (And.intro z_off29_0 (And.intro z_fld29_0 z_off29_1)) (And.intro (And.intro z_fld29_1 z_off29_2) (And.intro z_fld29_2 z_off29_3))) (And.intro (And.intro z_fld29_3 (And.intro z_off29_4 z_fld29_4)) (And.intro (And.intro z_off29_5 z_fld29_5) (And.intro z_zer29 z_eqT29)))))) (And.intro (And.intro (And.intro (And.intro (And.intro z_has32 (And.intro z_nst32 z_agg32)) (And.intro (And.intro z_elm32 z_cel32) (And.intro z_byt32 z_zer32))) (And.intro (And.intro z_has34 (And.intro z_nst34 z_agg34)) (And.intro (And.intro z_elm34 z_cel34) (And.intro z_byt34 z_zer34)))) (And.intro (And.intro (And.intro z_stt45 (And.intro z_has45 z_agg45)) (And.intro (And.intro z_cel45 z_byt45) (And.intro z_off45_0 z_fld45_0))) (And.intro (And.intro z_off45_1 (And.intro z_fld45_1 z_off45_2)) (And.intro (And.intro z_fld45_2 z_zer45) (And.intro z_eqT45 z_stt47))))) (And.intro (And.intro (And.intro (And.intro z_has47 (And.intro z_agg47 z_cel47)) (And.intro (And.intro z_byt47 z_off47_0) (And.intro z_fld47_0 z_off47_1))) (And.intro (And.intro z_fld47_1 (And.intro z_zer47 z_eqT47)) (And.intro (And.intro z_has62 z_nst62) (And.intro z_agg62 z_elm62)))) (And.intro (And.intro (And.intro z_cel62 (And.intro z_byt62 z_zer62)) (And.intro (And.intro z_fun65 z_has65) (And.intro z_agg65 z_cel65))) (And.intro (And.intro z_byt65 (And.intro z_zer65 z_has128)) (And.intro (And.intro z_agg128 z_arr128) (And.intro z_cel128 z_byt128)))))))
end Go.Pw

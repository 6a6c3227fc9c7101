/- Facts on the types of this translation, by reckoning. Printed by a program of mine (gen.py). No condition. -/
import Derived.Test.YtmcopafdooejjaaDoorEh
import Derived.Test.YtmcopafdooejjaaDoorProg
import Derived.KernelRfl
namespace Go.Proofs.YtmcopafdooejjaaDoor
open Go.Eng
theorem mixed : Tryd.prog.follows .mixedOrders = true := by kernel_rfl
theorem are_118 : arrE Tryd.prog 118 = some (4, 77) := by kernel_rfl
theorem are_121 : arrE Tryd.prog 121 = some (4, 3) := by kernel_rfl
theorem bld_110 : bldB Tryd.prog 110 = some (#[(Go.Value.int Go.IntKind.i64 0), (Go.Value.int Go.IntKind.i64 0), (Go.Value.int Go.IntKind.i64 0), (Go.Value.int Go.IntKind.i64 0), (Go.Value.int Go.IntKind.u32 0), (Go.Value.bool false)], [(0, 4), (4, 1), (5, 1)]) := by kernel_rfl
theorem bld_118 : bldB Tryd.prog 118 = some (#[(Go.Value.int Go.IntKind.u64 0), (Go.Value.int Go.IntKind.u64 0), (Go.Value.int Go.IntKind.u64 0), (Go.Value.int Go.IntKind.u64 0)], [(0, 1), (1, 1), (2, 1), (3, 1)]) := by kernel_rfl
theorem bld_121 : bldB Tryd.prog 121 = some (#[(Go.Value.int Go.IntKind.i64 0), (Go.Value.int Go.IntKind.i64 0), (Go.Value.int Go.IntKind.i64 0), (Go.Value.int Go.IntKind.i64 0)], [(0, 1), (1, 1), (2, 1), (3, 1)]) := by kernel_rfl
theorem bld_126 : bldB Tryd.prog 126 = some (#[(Go.Value.int Go.IntKind.u8 0), (Go.Value.int Go.IntKind.u8 0)], [(0, 1), (1, 1)]) := by kernel_rfl
theorem bld_127 : bldB Tryd.prog 127 = some (#[(Go.Value.int Go.IntKind.u8 0), (Go.Value.int Go.IntKind.u8 0), (Go.Value.int Go.IntKind.u8 0), (Go.Value.int Go.IntKind.u8 0), (Go.Value.int Go.IntKind.u8 0), (Go.Value.int Go.IntKind.u8 0), (Go.Value.int Go.IntKind.u8 0), (Go.Value.int Go.IntKind.u8 0), (Go.Value.int Go.IntKind.u8 0), (Go.Value.int Go.IntKind.u8 0), (Go.Value.int Go.IntKind.u8 0), (Go.Value.int Go.IntKind.u8 0), (Go.Value.int Go.IntKind.u8 0), (Go.Value.int Go.IntKind.u8 0), (Go.Value.int Go.IntKind.u8 0), (Go.Value.int Go.IntKind.u8 0), (Go.Value.int Go.IntKind.u8 0), (Go.Value.int Go.IntKind.u8 0), (Go.Value.int Go.IntKind.u8 0), (Go.Value.int Go.IntKind.u8 0), (Go.Value.int Go.IntKind.u8 0), (Go.Value.int Go.IntKind.u8 0), (Go.Value.int Go.IntKind.u8 0), (Go.Value.int Go.IntKind.u8 0), (Go.Value.int Go.IntKind.u8 0), (Go.Value.int Go.IntKind.u8 0), (Go.Value.int Go.IntKind.u8 0), (Go.Value.int Go.IntKind.u8 0), (Go.Value.int Go.IntKind.u8 0), (Go.Value.int Go.IntKind.u8 0), (Go.Value.int Go.IntKind.u8 0), (Go.Value.int Go.IntKind.u8 0)], [(0, 2), (2, 2), (4, 2), (6, 2), (8, 2), (10, 2), (12, 2), (14, 2), (16, 2), (18, 2), (20, 2), (22, 2), (24, 2), (26, 2), (28, 2), (30, 2)]) := by kernel_rfl
theorem bld_37 : bldB Tryd.prog 37 = some (#[(Go.Value.int Go.IntKind.i64 0), (Go.Value.int Go.IntKind.i64 0), (Go.Value.slice none 0 0), (Go.Value.slice none 0 0), (Go.Value.slice none 0 0), (Go.Value.slice none 0 0)], [(0, 1), (1, 1), (2, 1), (3, 1), (4, 1), (5, 1)]) := by kernel_rfl
theorem bld_40 : bldB Tryd.prog 40 = some (#[(Go.Value.int Go.IntKind.i64 0), (Go.Value.int Go.IntKind.i64 0), (Go.Value.int Go.IntKind.i64 0), (Go.Value.int Go.IntKind.u32 0)], [(0, 1), (1, 1), (2, 1), (3, 1)]) := by kernel_rfl
theorem bld_46 : bldB Tryd.prog 46 = some (#[(Go.Value.slice none 0 0), (Go.Value.bool false)], [(0, 1), (1, 1)]) := by kernel_rfl
theorem bld_53 : bldB Tryd.prog 53 = some (#[(Go.Value.int Go.IntKind.i64 0), (Go.Value.int Go.IntKind.i64 0), (Go.Value.slice none 0 0), (Go.Value.slice none 0 0), (Go.Value.slice none 0 0), (Go.Value.slice none 0 0)], [(0, 1), (1, 1), (2, 1), (3, 1), (4, 1), (5, 1)]) := by kernel_rfl
theorem bld_55 : bldB Tryd.prog 55 = some (#[(Go.Value.int Go.IntKind.i64 0), (Go.Value.int Go.IntKind.i64 0), (Go.Value.int Go.IntKind.i64 0), (Go.Value.int Go.IntKind.u32 0)], [(0, 1), (1, 1), (2, 1), (3, 1)]) := by kernel_rfl
theorem bld_76 : bldB Tryd.prog 76 = some (#[(Go.Value.int Go.IntKind.i64 0), (Go.Value.int Go.IntKind.i64 0), (Go.Value.int Go.IntKind.i64 0), (Go.Value.int Go.IntKind.i64 0)], [(0, 1), (1, 1), (2, 1), (3, 1)]) := by kernel_rfl
theorem bld_79 : bldB Tryd.prog 79 = some (#[(Go.Value.int Go.IntKind.i64 0), (Go.Value.int Go.IntKind.i64 0), (Go.Value.int Go.IntKind.i64 0), (Go.Value.int Go.IntKind.i64 0), (Go.Value.int Go.IntKind.u64 0), (Go.Value.bool false)], [(0, 4), (4, 1), (5, 1)]) := by kernel_rfl
theorem bld_93 : bldB Tryd.prog 93 = some (#[(Go.Value.int Go.IntKind.i64 0), (Go.Value.int Go.IntKind.i64 0), (Go.Value.int Go.IntKind.i64 0), (Go.Value.int Go.IntKind.i64 0)], [(0, 1), (1, 1), (2, 1), (3, 1)]) := by kernel_rfl
theorem fld_110_0 : fldB Tryd.prog 110 0 = some 0 := by kernel_rfl
theorem fld_110_1 : fldB Tryd.prog 110 1 = some 4 := by kernel_rfl
theorem fld_110_2 : fldB Tryd.prog 110 2 = some 5 := by kernel_rfl
theorem fld_126_0 : fldB Tryd.prog 126 0 = some 0 := by kernel_rfl
theorem fld_126_1 : fldB Tryd.prog 126 1 = some 1 := by kernel_rfl
theorem fld_37_0 : fldB Tryd.prog 37 0 = some 0 := by kernel_rfl
theorem fld_37_1 : fldB Tryd.prog 37 1 = some 1 := by kernel_rfl
theorem fld_37_2 : fldB Tryd.prog 37 2 = some 2 := by kernel_rfl
theorem fld_37_3 : fldB Tryd.prog 37 3 = some 3 := by kernel_rfl
theorem fld_37_4 : fldB Tryd.prog 37 4 = some 4 := by kernel_rfl
theorem fld_37_5 : fldB Tryd.prog 37 5 = some 5 := by kernel_rfl
theorem fld_40_2 : fldB Tryd.prog 40 2 = some 2 := by kernel_rfl
theorem fld_46_0 : fldB Tryd.prog 46 0 = some 0 := by kernel_rfl
theorem fld_46_1 : fldB Tryd.prog 46 1 = some 1 := by kernel_rfl
theorem fld_53_0 : fldB Tryd.prog 53 0 = some 0 := by kernel_rfl
theorem fld_53_1 : fldB Tryd.prog 53 1 = some 1 := by kernel_rfl
theorem fld_53_2 : fldB Tryd.prog 53 2 = some 2 := by kernel_rfl
theorem fld_53_3 : fldB Tryd.prog 53 3 = some 3 := by kernel_rfl
theorem fld_53_4 : fldB Tryd.prog 53 4 = some 4 := by kernel_rfl
theorem fld_53_5 : fldB Tryd.prog 53 5 = some 5 := by kernel_rfl
theorem fld_55_0 : fldB Tryd.prog 55 0 = some 0 := by kernel_rfl
theorem fld_55_1 : fldB Tryd.prog 55 1 = some 1 := by kernel_rfl
theorem fld_76_0 : fldB Tryd.prog 76 0 = some 0 := by kernel_rfl
theorem fld_76_1 : fldB Tryd.prog 76 1 = some 1 := by kernel_rfl
theorem fld_76_2 : fldB Tryd.prog 76 2 = some 2 := by kernel_rfl
theorem fld_76_3 : fldB Tryd.prog 76 3 = some 3 := by kernel_rfl
theorem fld_79_0 : fldB Tryd.prog 79 0 = some 0 := by kernel_rfl
theorem fld_79_1 : fldB Tryd.prog 79 1 = some 4 := by kernel_rfl
theorem fld_79_2 : fldB Tryd.prog 79 2 = some 5 := by kernel_rfl
theorem fld_93_0 : fldB Tryd.prog 93 0 = some 0 := by kernel_rfl
theorem fld_93_1 : fldB Tryd.prog 93 1 = some 1 := by kernel_rfl
theorem fld_93_2 : fldB Tryd.prog 93 2 = some 2 := by kernel_rfl
theorem fld_93_3 : fldB Tryd.prog 93 3 = some 3 := by kernel_rfl
theorem fn_10 : fnB Tryd.prog 10 = true := by kernel_rfl
theorem fn_11 : fnB Tryd.prog 11 = true := by kernel_rfl
theorem fn_12 : fnB Tryd.prog 12 = true := by kernel_rfl
theorem fn_13 : fnB Tryd.prog 13 = true := by kernel_rfl
theorem fn_14 : fnB Tryd.prog 14 = true := by kernel_rfl
theorem fn_15 : fnB Tryd.prog 15 = true := by kernel_rfl
theorem fn_16 : fnB Tryd.prog 16 = true := by kernel_rfl
theorem fn_17 : fnB Tryd.prog 17 = true := by kernel_rfl
theorem fn_18 : fnB Tryd.prog 18 = true := by kernel_rfl
theorem fn_19 : fnB Tryd.prog 19 = true := by kernel_rfl
theorem fn_20 : fnB Tryd.prog 20 = true := by kernel_rfl
theorem fn_21 : fnB Tryd.prog 21 = true := by kernel_rfl
theorem fn_22 : fnB Tryd.prog 22 = true := by kernel_rfl
theorem fn_23 : fnB Tryd.prog 23 = true := by kernel_rfl
theorem fn_24 : fnB Tryd.prog 24 = true := by kernel_rfl
theorem fn_25 : fnB Tryd.prog 25 = true := by kernel_rfl
theorem fn_26 : fnB Tryd.prog 26 = true := by kernel_rfl
theorem fn_27 : fnB Tryd.prog 27 = true := by kernel_rfl
theorem fn_28 : fnB Tryd.prog 28 = true := by kernel_rfl
theorem fn_29 : fnB Tryd.prog 29 = true := by kernel_rfl
theorem fn_30 : fnB Tryd.prog 30 = true := by kernel_rfl
theorem fn_31 : fnB Tryd.prog 31 = true := by kernel_rfl
theorem fn_32 : fnB Tryd.prog 32 = true := by kernel_rfl
theorem fn_33 : fnB Tryd.prog 33 = true := by kernel_rfl
theorem fn_34 : fnB Tryd.prog 34 = true := by kernel_rfl
theorem fn_35 : fnB Tryd.prog 35 = true := by kernel_rfl
theorem fn_36 : fnB Tryd.prog 36 = true := by kernel_rfl
theorem fn_37 : fnB Tryd.prog 37 = true := by kernel_rfl
theorem fn_38 : fnB Tryd.prog 38 = true := by kernel_rfl
theorem fn_39 : fnB Tryd.prog 39 = true := by kernel_rfl
theorem fn_4 : fnB Tryd.prog 4 = true := by kernel_rfl
theorem fn_40 : fnB Tryd.prog 40 = true := by kernel_rfl
theorem fn_41 : fnB Tryd.prog 41 = true := by kernel_rfl
theorem fn_42 : fnB Tryd.prog 42 = true := by kernel_rfl
theorem fn_43 : fnB Tryd.prog 43 = true := by kernel_rfl
theorem fn_44 : fnB Tryd.prog 44 = true := by kernel_rfl
theorem fn_45 : fnB Tryd.prog 45 = true := by kernel_rfl
theorem fn_46 : fnB Tryd.prog 46 = true := by kernel_rfl
theorem fn_47 : fnB Tryd.prog 47 = true := by kernel_rfl
theorem fn_49 : fnB Tryd.prog 49 = true := by kernel_rfl
theorem fn_5 : fnB Tryd.prog 5 = true := by kernel_rfl
theorem fn_50 : fnB Tryd.prog 50 = true := by kernel_rfl
theorem fn_51 : fnB Tryd.prog 51 = true := by kernel_rfl
theorem fn_52 : fnB Tryd.prog 52 = true := by kernel_rfl
theorem fn_54 : fnB Tryd.prog 54 = true := by kernel_rfl
theorem fn_55 : fnB Tryd.prog 55 = true := by kernel_rfl
theorem fn_56 : fnB Tryd.prog 56 = true := by kernel_rfl
theorem fn_57 : fnB Tryd.prog 57 = true := by kernel_rfl
theorem fn_58 : fnB Tryd.prog 58 = true := by kernel_rfl
theorem fn_59 : fnB Tryd.prog 59 = true := by kernel_rfl
theorem fn_6 : fnB Tryd.prog 6 = true := by kernel_rfl
theorem fn_60 : fnB Tryd.prog 60 = true := by kernel_rfl
theorem fn_61 : fnB Tryd.prog 61 = true := by kernel_rfl
theorem fn_62 : fnB Tryd.prog 62 = true := by kernel_rfl
theorem fn_63 : fnB Tryd.prog 63 = true := by kernel_rfl
theorem fn_65 : fnB Tryd.prog 65 = true := by kernel_rfl
theorem fn_66 : fnB Tryd.prog 66 = true := by kernel_rfl
theorem fn_67 : fnB Tryd.prog 67 = true := by kernel_rfl
theorem fn_68 : fnB Tryd.prog 68 = true := by kernel_rfl
theorem fn_69 : fnB Tryd.prog 69 = true := by kernel_rfl
theorem fn_7 : fnB Tryd.prog 7 = true := by kernel_rfl
theorem fn_70 : fnB Tryd.prog 70 = true := by kernel_rfl
theorem fn_71 : fnB Tryd.prog 71 = true := by kernel_rfl
theorem fn_72 : fnB Tryd.prog 72 = true := by kernel_rfl
theorem fn_73 : fnB Tryd.prog 73 = true := by kernel_rfl
theorem fn_74 : fnB Tryd.prog 74 = true := by kernel_rfl
theorem fn_75 : fnB Tryd.prog 75 = true := by kernel_rfl
theorem fn_8 : fnB Tryd.prog 8 = true := by kernel_rfl
theorem fn_9 : fnB Tryd.prog 9 = true := by kernel_rfl
theorem int_2 : intB Tryd.prog 2 = some .i64 := by kernel_rfl
theorem int_21 : intB Tryd.prog 21 = some .i32 := by kernel_rfl
theorem int_3 : intB Tryd.prog 3 = some .i64 := by kernel_rfl
theorem int_38 : intB Tryd.prog 38 = some .u32 := by kernel_rfl
theorem int_5 : intB Tryd.prog 5 = some .u8 := by kernel_rfl
theorem int_54 : intB Tryd.prog 54 = some .i16 := by kernel_rfl
theorem int_77 : intB Tryd.prog 77 = some .u64 := by kernel_rfl
theorem int_91 : intB Tryd.prog 91 = some .u64 := by kernel_rfl
theorem lod_118 : lodB Tryd.prog 118 = some (some 4) := by kernel_rfl
theorem lod_121 : lodB Tryd.prog 121 = some (some 4) := by kernel_rfl
theorem lod_124 : lodB Tryd.prog 124 = some (some 256) := by kernel_rfl
theorem lod_126 : lodB Tryd.prog 126 = some (some 2) := by kernel_rfl
theorem lod_127 : lodB Tryd.prog 127 = some (some 32) := by kernel_rfl
theorem lod_2 : lodB Tryd.prog 2 = some (none) := by kernel_rfl
theorem lod_3 : lodB Tryd.prog 3 = some (none) := by kernel_rfl
theorem lod_33 : lodB Tryd.prog 33 = some (none) := by kernel_rfl
theorem lod_34 : lodB Tryd.prog 34 = some (none) := by kernel_rfl
theorem lod_35 : lodB Tryd.prog 35 = some (none) := by kernel_rfl
theorem lod_37 : lodB Tryd.prog 37 = some (some 6) := by kernel_rfl
theorem lod_38 : lodB Tryd.prog 38 = some (none) := by kernel_rfl
theorem lod_4 : lodB Tryd.prog 4 = some (none) := by kernel_rfl
theorem lod_40 : lodB Tryd.prog 40 = some (some 4) := by kernel_rfl
theorem lod_43 : lodB Tryd.prog 43 = some (none) := by kernel_rfl
theorem lod_46 : lodB Tryd.prog 46 = some (some 2) := by kernel_rfl
theorem lod_5 : lodB Tryd.prog 5 = some (none) := by kernel_rfl
theorem lod_51 : lodB Tryd.prog 51 = some (none) := by kernel_rfl
theorem lod_53 : lodB Tryd.prog 53 = some (some 6) := by kernel_rfl
theorem lod_54 : lodB Tryd.prog 54 = some (none) := by kernel_rfl
theorem lod_55 : lodB Tryd.prog 55 = some (some 4) := by kernel_rfl
theorem lod_57 : lodB Tryd.prog 57 = some (none) := by kernel_rfl
theorem lod_76 : lodB Tryd.prog 76 = some (some 4) := by kernel_rfl
theorem lod_77 : lodB Tryd.prog 77 = some (none) := by kernel_rfl
theorem lod_79 : lodB Tryd.prog 79 = some (some 6) := by kernel_rfl
theorem lod_9 : lodB Tryd.prog 9 = some (none) := by kernel_rfl
theorem lod_93 : lodB Tryd.prog 93 = some (some 4) := by kernel_rfl
theorem arr_118 : arrB Tryd.prog 118 = some (4, 1) := by kernel_rfl
theorem arr_121 : arrB Tryd.prog 121 = some (4, 1) := by kernel_rfl
theorem arr_124 : arrB Tryd.prog 124 = some (256, 1) := by kernel_rfl
theorem arr_127 : arrB Tryd.prog 127 = some (16, 2) := by kernel_rfl
theorem slc_23 : slcB Tryd.prog 23 = some (37, 6) := by kernel_rfl
theorem slc_27 : slcB Tryd.prog 27 = some (53, 6) := by kernel_rfl
theorem slc_33 : slcB Tryd.prog 33 = some (54, 1) := by kernel_rfl
theorem slc_34 : slcB Tryd.prog 34 = some (5, 1) := by kernel_rfl
theorem slc_35 : slcB Tryd.prog 35 = some (40, 4) := by kernel_rfl
theorem slc_43 : slcB Tryd.prog 43 = some (9, 1) := by kernel_rfl
theorem slc_51 : slcB Tryd.prog 51 = some (55, 4) := by kernel_rfl
theorem slc_66 : slcB Tryd.prog 66 = some (2, 1) := by kernel_rfl
theorem siz_126 : sizB Tryd.prog 126 = some 2 := by kernel_rfl
theorem siz_127 : sizB Tryd.prog 127 = some 32 := by kernel_rfl
theorem siz_2 : sizB Tryd.prog 2 = some 1 := by kernel_rfl
theorem siz_3 : sizB Tryd.prog 3 = some 1 := by kernel_rfl
theorem siz_33 : sizB Tryd.prog 33 = some 1 := by kernel_rfl
theorem siz_34 : sizB Tryd.prog 34 = some 1 := by kernel_rfl
theorem siz_35 : sizB Tryd.prog 35 = some 1 := by kernel_rfl
theorem siz_37 : sizB Tryd.prog 37 = some 6 := by kernel_rfl
theorem siz_38 : sizB Tryd.prog 38 = some 1 := by kernel_rfl
theorem siz_4 : sizB Tryd.prog 4 = some 1 := by kernel_rfl
theorem siz_40 : sizB Tryd.prog 40 = some 4 := by kernel_rfl
theorem siz_43 : sizB Tryd.prog 43 = some 1 := by kernel_rfl
theorem siz_46 : sizB Tryd.prog 46 = some 2 := by kernel_rfl
theorem siz_5 : sizB Tryd.prog 5 = some 1 := by kernel_rfl
theorem siz_51 : sizB Tryd.prog 51 = some 1 := by kernel_rfl
theorem siz_53 : sizB Tryd.prog 53 = some 6 := by kernel_rfl
theorem siz_54 : sizB Tryd.prog 54 = some 1 := by kernel_rfl
theorem siz_55 : sizB Tryd.prog 55 = some 4 := by kernel_rfl
theorem siz_76 : sizB Tryd.prog 76 = some 4 := by kernel_rfl
theorem siz_77 : sizB Tryd.prog 77 = some 1 := by kernel_rfl
theorem siz_79 : sizB Tryd.prog 79 = some 6 := by kernel_rfl
theorem siz_9 : sizB Tryd.prog 9 = some 1 := by kernel_rfl
theorem siz_93 : sizB Tryd.prog 93 = some 4 := by kernel_rfl
theorem xf_1 : Xf Tryd.prog 1 Tryd.f1 := ⟨Tryd.func1, by kernel_rfl, by kernel_rfl, by kernel_rfl⟩
theorem xf_48 : Xf Tryd.prog 48 Tryd.f48 := ⟨Tryd.func48, by kernel_rfl, by kernel_rfl, by kernel_rfl⟩
theorem xf_53 : Xf Tryd.prog 53 Tryd.f53 := ⟨Tryd.func53, by kernel_rfl, by kernel_rfl, by kernel_rfl⟩
theorem xf_64 : Xf Tryd.prog 64 Tryd.f64 := ⟨Tryd.func64, by kernel_rfl, by kernel_rfl, by kernel_rfl⟩
theorem zer_110 : zerB Tryd.prog 110 = some ((Go.Value.agg #[(Go.Value.int Go.IntKind.i64 0), (Go.Value.int Go.IntKind.i64 0), (Go.Value.int Go.IntKind.i64 0), (Go.Value.int Go.IntKind.i64 0), (Go.Value.int Go.IntKind.u32 0), (Go.Value.bool false)]), 6, 40) := by kernel_rfl
theorem zer_126 : zerB Tryd.prog 126 = some ((Go.Value.agg #[(Go.Value.int Go.IntKind.u8 0), (Go.Value.int Go.IntKind.u8 0)]), 2, 2) := by kernel_rfl
theorem zer_2 : zerB Tryd.prog 2 = some ((Go.Value.int Go.IntKind.i64 0), 1, 8) := by kernel_rfl
theorem zer_3 : zerB Tryd.prog 3 = some ((Go.Value.int Go.IntKind.i64 0), 1, 8) := by kernel_rfl
theorem zer_37 : zerB Tryd.prog 37 = some ((Go.Value.agg #[(Go.Value.int Go.IntKind.i64 0), (Go.Value.int Go.IntKind.i64 0), (Go.Value.slice none 0 0), (Go.Value.slice none 0 0), (Go.Value.slice none 0 0), (Go.Value.slice none 0 0)]), 6, 112) := by kernel_rfl
theorem zer_40 : zerB Tryd.prog 40 = some ((Go.Value.agg #[(Go.Value.int Go.IntKind.i64 0), (Go.Value.int Go.IntKind.i64 0), (Go.Value.int Go.IntKind.i64 0), (Go.Value.int Go.IntKind.u32 0)]), 4, 32) := by kernel_rfl
theorem zer_43 : zerB Tryd.prog 43 = some ((Go.Value.slice none 0 0), 1, 24) := by kernel_rfl
theorem zer_46 : zerB Tryd.prog 46 = some ((Go.Value.agg #[(Go.Value.slice none 0 0), (Go.Value.bool false)]), 2, 32) := by kernel_rfl
theorem zer_5 : zerB Tryd.prog 5 = some ((Go.Value.int Go.IntKind.u8 0), 1, 1) := by kernel_rfl
theorem zer_53 : zerB Tryd.prog 53 = some ((Go.Value.agg #[(Go.Value.int Go.IntKind.i64 0), (Go.Value.int Go.IntKind.i64 0), (Go.Value.slice none 0 0), (Go.Value.slice none 0 0), (Go.Value.slice none 0 0), (Go.Value.slice none 0 0)]), 6, 112) := by kernel_rfl
theorem zer_54 : zerB Tryd.prog 54 = some ((Go.Value.int Go.IntKind.i16 0), 1, 2) := by kernel_rfl
theorem zer_55 : zerB Tryd.prog 55 = some ((Go.Value.agg #[(Go.Value.int Go.IntKind.i64 0), (Go.Value.int Go.IntKind.i64 0), (Go.Value.int Go.IntKind.i64 0), (Go.Value.int Go.IntKind.u32 0)]), 4, 32) := by kernel_rfl
theorem zer_57 : zerB Tryd.prog 57 = some ((Go.Value.pointer none), 1, 8) := by kernel_rfl
theorem zer_76 : zerB Tryd.prog 76 = some ((Go.Value.agg #[(Go.Value.int Go.IntKind.i64 0), (Go.Value.int Go.IntKind.i64 0), (Go.Value.int Go.IntKind.i64 0), (Go.Value.int Go.IntKind.i64 0)]), 4, 32) := by kernel_rfl
theorem zer_77 : zerB Tryd.prog 77 = some ((Go.Value.int Go.IntKind.u64 0), 1, 8) := by kernel_rfl
theorem zer_79 : zerB Tryd.prog 79 = some ((Go.Value.agg #[(Go.Value.int Go.IntKind.i64 0), (Go.Value.int Go.IntKind.i64 0), (Go.Value.int Go.IntKind.i64 0), (Go.Value.int Go.IntKind.i64 0), (Go.Value.int Go.IntKind.u64 0), (Go.Value.bool false)]), 6, 48) := by kernel_rfl
theorem zer_9 : zerB Tryd.prog 9 = some ((Go.Value.string { data := #[] }), 1, 16) := by kernel_rfl
theorem zer_93 : zerB Tryd.prog 93 = some ((Go.Value.agg #[(Go.Value.int Go.IntKind.i64 0), (Go.Value.int Go.IntKind.i64 0), (Go.Value.int Go.IntKind.i64 0), (Go.Value.int Go.IntKind.i64 0)]), 4, 32) := by kernel_rfl
end Go.Proofs.YtmcopafdooejjaaDoor

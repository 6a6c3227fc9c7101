/- Facts on the types of this translation, by reckoning. Printed by a program of mine (gen.py). No condition. -/
import Derived.Test.YtjmnidcfgkdhcaaEh
import Derived.Test.YtjmnidcfgkdhcaaProg
import Derived.KernelRfl
namespace Go.Proofs.Ytjmnidcfgkdhcaa
open Go.Eng
theorem mixed : Try.prog.follows .mixedOrders = true := by kernel_rfl
theorem are_167 : arrE Try.prog 167 = some (4, 160) := by kernel_rfl
theorem bld_101 : bldB Try.prog 101 = some (#[(Go.Value.int Go.IntKind.i64 0), (Go.Value.slice none 0 0), (Go.Value.slice none 0 0)], [(0, 1), (1, 1), (2, 1)]) := by kernel_rfl
theorem bld_105 : bldB Try.prog 105 = some (#[(Go.Value.int Go.IntKind.i64 0), (Go.Value.slice none 0 0), (Go.Value.slice none 0 0), (Go.Value.slice none 0 0)], [(0, 3), (3, 1)]) := by kernel_rfl
theorem bld_110 : bldB Try.prog 110 = some (#[(Go.Value.int Go.IntKind.i64 0), (Go.Value.slice none 0 0), (Go.Value.slice none 0 0), (Go.Value.slice none 0 0)], [(0, 3), (3, 1)]) := by kernel_rfl
theorem bld_115 : bldB Try.prog 115 = some (#[(Go.Value.int Go.IntKind.i64 0), (Go.Value.slice none 0 0), (Go.Value.slice none 0 0)], [(0, 1), (1, 1), (2, 1)]) := by kernel_rfl
theorem bld_119 : bldB Try.prog 119 = some (#[(Go.Value.int Go.IntKind.i64 0), (Go.Value.slice none 0 0), (Go.Value.slice none 0 0), (Go.Value.slice none 0 0)], [(0, 3), (3, 1)]) := by kernel_rfl
theorem bld_124 : bldB Try.prog 124 = some (#[(Go.Value.int Go.IntKind.i64 0), (Go.Value.int Go.IntKind.i64 0), (Go.Value.int Go.IntKind.i64 0), (Go.Value.int Go.IntKind.i64 0)], [(0, 1), (1, 1), (2, 1), (3, 1)]) := by kernel_rfl
theorem bld_131 : bldB Try.prog 131 = some (#[(Go.Value.int Go.IntKind.i64 0), (Go.Value.slice none 0 0), (Go.Value.slice none 0 0), (Go.Value.slice none 0 0)], [(0, 3), (3, 1)]) := by kernel_rfl
theorem bld_167 : bldB Try.prog 167 = some (#[(Go.Value.int Go.IntKind.u64 0), (Go.Value.int Go.IntKind.u64 0), (Go.Value.int Go.IntKind.u64 0), (Go.Value.int Go.IntKind.u64 0)], [(0, 1), (1, 1), (2, 1), (3, 1)]) := by kernel_rfl
theorem fld_101_0 : fldB Try.prog 101 0 = some 0 := by kernel_rfl
theorem fld_101_1 : fldB Try.prog 101 1 = some 1 := by kernel_rfl
theorem fld_101_2 : fldB Try.prog 101 2 = some 2 := by kernel_rfl
theorem fld_105_0 : fldB Try.prog 105 0 = some 0 := by kernel_rfl
theorem fld_105_1 : fldB Try.prog 105 1 = some 3 := by kernel_rfl
theorem fld_110_0 : fldB Try.prog 110 0 = some 0 := by kernel_rfl
theorem fld_110_1 : fldB Try.prog 110 1 = some 3 := by kernel_rfl
theorem fld_115_0 : fldB Try.prog 115 0 = some 0 := by kernel_rfl
theorem fld_115_1 : fldB Try.prog 115 1 = some 1 := by kernel_rfl
theorem fld_115_2 : fldB Try.prog 115 2 = some 2 := by kernel_rfl
theorem fld_119_0 : fldB Try.prog 119 0 = some 0 := by kernel_rfl
theorem fld_119_1 : fldB Try.prog 119 1 = some 3 := by kernel_rfl
theorem fld_131_0 : fldB Try.prog 131 0 = some 0 := by kernel_rfl
theorem fld_131_1 : fldB Try.prog 131 1 = some 3 := by kernel_rfl
theorem fld_31_0 : fldB Try.prog 31 0 = some 0 := by kernel_rfl
theorem fld_31_1 : fldB Try.prog 31 1 = some 1 := by kernel_rfl
theorem fld_82_1 : fldB Try.prog 82 1 = some 0 := by kernel_rfl
theorem fld_84_0 : fldB Try.prog 84 0 = some 0 := by kernel_rfl
theorem fld_84_1 : fldB Try.prog 84 1 = some 1 := by kernel_rfl
theorem fld_86_1 : fldB Try.prog 86 1 = some 0 := by kernel_rfl
theorem fld_88_1 : fldB Try.prog 88 1 = some 0 := by kernel_rfl
theorem fld_88_2 : fldB Try.prog 88 2 = some 1 := by kernel_rfl
theorem fld_90_0 : fldB Try.prog 90 0 = some 0 := by kernel_rfl
theorem fld_90_1 : fldB Try.prog 90 1 = some 3 := by kernel_rfl
theorem fld_96_2 : fldB Try.prog 96 2 = some 0 := by kernel_rfl
theorem fld_98_0 : fldB Try.prog 98 0 = some 0 := by kernel_rfl
theorem fld_98_1 : fldB Try.prog 98 1 = some 1028 := by kernel_rfl
theorem fld_98_2 : fldB Try.prog 98 2 = some 1544 := by kernel_rfl
theorem fld_98_3 : fldB Try.prog 98 3 = some 1552 := by kernel_rfl
theorem fld_98_4 : fldB Try.prog 98 4 = some 1553 := by kernel_rfl
theorem fn_101 : fnB Try.prog 101 = true := by kernel_rfl
theorem fn_102 : fnB Try.prog 102 = true := by kernel_rfl
theorem fn_103 : fnB Try.prog 103 = true := by kernel_rfl
theorem fn_105 : fnB Try.prog 105 = true := by kernel_rfl
theorem fn_106 : fnB Try.prog 106 = true := by kernel_rfl
theorem fn_107 : fnB Try.prog 107 = true := by kernel_rfl
theorem fn_108 : fnB Try.prog 108 = true := by kernel_rfl
theorem fn_109 : fnB Try.prog 109 = true := by kernel_rfl
theorem fn_11 : fnB Try.prog 11 = true := by kernel_rfl
theorem fn_111 : fnB Try.prog 111 = true := by kernel_rfl
theorem fn_116 : fnB Try.prog 116 = true := by kernel_rfl
theorem fn_119 : fnB Try.prog 119 = true := by kernel_rfl
theorem fn_12 : fnB Try.prog 12 = true := by kernel_rfl
theorem fn_13 : fnB Try.prog 13 = true := by kernel_rfl
theorem fn_14 : fnB Try.prog 14 = true := by kernel_rfl
theorem fn_15 : fnB Try.prog 15 = true := by kernel_rfl
theorem fn_16 : fnB Try.prog 16 = true := by kernel_rfl
theorem fn_17 : fnB Try.prog 17 = true := by kernel_rfl
theorem fn_18 : fnB Try.prog 18 = true := by kernel_rfl
theorem fn_19 : fnB Try.prog 19 = true := by kernel_rfl
theorem fn_20 : fnB Try.prog 20 = true := by kernel_rfl
theorem fn_21 : fnB Try.prog 21 = true := by kernel_rfl
theorem fn_22 : fnB Try.prog 22 = true := by kernel_rfl
theorem fn_23 : fnB Try.prog 23 = true := by kernel_rfl
theorem fn_24 : fnB Try.prog 24 = true := by kernel_rfl
theorem fn_25 : fnB Try.prog 25 = true := by kernel_rfl
theorem fn_26 : fnB Try.prog 26 = true := by kernel_rfl
theorem fn_27 : fnB Try.prog 27 = true := by kernel_rfl
theorem fn_28 : fnB Try.prog 28 = true := by kernel_rfl
theorem fn_29 : fnB Try.prog 29 = true := by kernel_rfl
theorem fn_30 : fnB Try.prog 30 = true := by kernel_rfl
theorem fn_31 : fnB Try.prog 31 = true := by kernel_rfl
theorem fn_32 : fnB Try.prog 32 = true := by kernel_rfl
theorem fn_33 : fnB Try.prog 33 = true := by kernel_rfl
theorem fn_34 : fnB Try.prog 34 = true := by kernel_rfl
theorem fn_35 : fnB Try.prog 35 = true := by kernel_rfl
theorem fn_36 : fnB Try.prog 36 = true := by kernel_rfl
theorem fn_37 : fnB Try.prog 37 = true := by kernel_rfl
theorem fn_38 : fnB Try.prog 38 = true := by kernel_rfl
theorem fn_39 : fnB Try.prog 39 = true := by kernel_rfl
theorem fn_40 : fnB Try.prog 40 = true := by kernel_rfl
theorem fn_41 : fnB Try.prog 41 = true := by kernel_rfl
theorem fn_42 : fnB Try.prog 42 = true := by kernel_rfl
theorem fn_43 : fnB Try.prog 43 = true := by kernel_rfl
theorem fn_44 : fnB Try.prog 44 = true := by kernel_rfl
theorem fn_45 : fnB Try.prog 45 = true := by kernel_rfl
theorem fn_46 : fnB Try.prog 46 = true := by kernel_rfl
theorem fn_47 : fnB Try.prog 47 = true := by kernel_rfl
theorem fn_48 : fnB Try.prog 48 = true := by kernel_rfl
theorem fn_49 : fnB Try.prog 49 = true := by kernel_rfl
theorem fn_50 : fnB Try.prog 50 = true := by kernel_rfl
theorem fn_51 : fnB Try.prog 51 = true := by kernel_rfl
theorem fn_52 : fnB Try.prog 52 = true := by kernel_rfl
theorem fn_53 : fnB Try.prog 53 = true := by kernel_rfl
theorem fn_54 : fnB Try.prog 54 = true := by kernel_rfl
theorem fn_55 : fnB Try.prog 55 = true := by kernel_rfl
theorem fn_56 : fnB Try.prog 56 = true := by kernel_rfl
theorem fn_57 : fnB Try.prog 57 = true := by kernel_rfl
theorem fn_58 : fnB Try.prog 58 = true := by kernel_rfl
theorem fn_59 : fnB Try.prog 59 = true := by kernel_rfl
theorem fn_60 : fnB Try.prog 60 = true := by kernel_rfl
theorem fn_61 : fnB Try.prog 61 = true := by kernel_rfl
theorem fn_62 : fnB Try.prog 62 = true := by kernel_rfl
theorem fn_63 : fnB Try.prog 63 = true := by kernel_rfl
theorem fn_64 : fnB Try.prog 64 = true := by kernel_rfl
theorem fn_65 : fnB Try.prog 65 = true := by kernel_rfl
theorem fn_66 : fnB Try.prog 66 = true := by kernel_rfl
theorem fn_67 : fnB Try.prog 67 = true := by kernel_rfl
theorem fn_68 : fnB Try.prog 68 = true := by kernel_rfl
theorem fn_69 : fnB Try.prog 69 = true := by kernel_rfl
theorem fn_70 : fnB Try.prog 70 = true := by kernel_rfl
theorem fn_71 : fnB Try.prog 71 = true := by kernel_rfl
theorem fn_72 : fnB Try.prog 72 = true := by kernel_rfl
theorem fn_73 : fnB Try.prog 73 = true := by kernel_rfl
theorem fn_74 : fnB Try.prog 74 = true := by kernel_rfl
theorem fn_75 : fnB Try.prog 75 = true := by kernel_rfl
theorem fn_76 : fnB Try.prog 76 = true := by kernel_rfl
theorem fn_77 : fnB Try.prog 77 = true := by kernel_rfl
theorem fn_78 : fnB Try.prog 78 = true := by kernel_rfl
theorem fn_79 : fnB Try.prog 79 = true := by kernel_rfl
theorem fn_80 : fnB Try.prog 80 = true := by kernel_rfl
theorem fn_82 : fnB Try.prog 82 = true := by kernel_rfl
theorem fn_83 : fnB Try.prog 83 = true := by kernel_rfl
theorem fn_84 : fnB Try.prog 84 = true := by kernel_rfl
theorem fn_85 : fnB Try.prog 85 = true := by kernel_rfl
theorem fn_86 : fnB Try.prog 86 = true := by kernel_rfl
theorem fn_87 : fnB Try.prog 87 = true := by kernel_rfl
theorem fn_88 : fnB Try.prog 88 = true := by kernel_rfl
theorem fn_89 : fnB Try.prog 89 = true := by kernel_rfl
theorem fn_90 : fnB Try.prog 90 = true := by kernel_rfl
theorem fn_91 : fnB Try.prog 91 = true := by kernel_rfl
theorem fn_92 : fnB Try.prog 92 = true := by kernel_rfl
theorem fn_93 : fnB Try.prog 93 = true := by kernel_rfl
theorem fn_94 : fnB Try.prog 94 = true := by kernel_rfl
theorem fn_95 : fnB Try.prog 95 = true := by kernel_rfl
theorem fn_96 : fnB Try.prog 96 = true := by kernel_rfl
theorem fn_97 : fnB Try.prog 97 = true := by kernel_rfl
theorem fn_98 : fnB Try.prog 98 = true := by kernel_rfl
theorem fn_99 : fnB Try.prog 99 = true := by kernel_rfl
theorem int_149 : intB Try.prog 149 = some .u64 := by kernel_rfl
theorem int_160 : intB Try.prog 160 = some .u64 := by kernel_rfl
theorem int_2 : intB Try.prog 2 = some .i64 := by kernel_rfl
theorem int_21 : intB Try.prog 21 = some .i32 := by kernel_rfl
theorem int_3 : intB Try.prog 3 = some .i64 := by kernel_rfl
theorem int_35 : intB Try.prog 35 = some .i16 := by kernel_rfl
theorem int_5 : intB Try.prog 5 = some .u8 := by kernel_rfl
theorem int_80 : intB Try.prog 80 = some .u32 := by kernel_rfl
theorem lod_101 : lodB Try.prog 101 = some (some 3) := by kernel_rfl
theorem lod_115 : lodB Try.prog 115 = some (some 3) := by kernel_rfl
theorem lod_124 : lodB Try.prog 124 = some (some 4) := by kernel_rfl
theorem lod_136 : lodB Try.prog 136 = some (none) := by kernel_rfl
theorem lod_139 : lodB Try.prog 139 = some (none) := by kernel_rfl
theorem lod_160 : lodB Try.prog 160 = some (none) := by kernel_rfl
theorem lod_167 : lodB Try.prog 167 = some (some 4) := by kernel_rfl
theorem lod_2 : lodB Try.prog 2 = some (none) := by kernel_rfl
theorem lod_21 : lodB Try.prog 21 = some (none) := by kernel_rfl
theorem lod_24 : lodB Try.prog 24 = some (none) := by kernel_rfl
theorem lod_26 : lodB Try.prog 26 = some (none) := by kernel_rfl
theorem lod_3 : lodB Try.prog 3 = some (none) := by kernel_rfl
theorem lod_31 : lodB Try.prog 31 = some (some 2) := by kernel_rfl
theorem lod_35 : lodB Try.prog 35 = some (none) := by kernel_rfl
theorem lod_43 : lodB Try.prog 43 = some (none) := by kernel_rfl
theorem lod_71 : lodB Try.prog 71 = some (none) := by kernel_rfl
theorem lod_91 : lodB Try.prog 91 = some (some 1028) := by kernel_rfl
theorem lod_92 : lodB Try.prog 92 = some (some 516) := by kernel_rfl
theorem lod_93 : lodB Try.prog 93 = some (some 8) := by kernel_rfl
theorem slc_112 : slcB Try.prog 112 = some (3, 1) := by kernel_rfl
theorem arr_124 : arrB Try.prog 124 = some (4, 1) := by kernel_rfl
theorem arr_167 : arrB Try.prog 167 = some (4, 1) := by kernel_rfl
theorem slc_22 : slcB Try.prog 22 = some (31, 2) := by kernel_rfl
theorem slc_26 : slcB Try.prog 26 = some (35, 1) := by kernel_rfl
theorem slc_41 : slcB Try.prog 41 = some (26, 1) := by kernel_rfl
theorem slc_43 : slcB Try.prog 43 = some (21, 1) := by kernel_rfl
theorem slc_52 : slcB Try.prog 52 = some (43, 1) := by kernel_rfl
theorem slc_71 : slcB Try.prog 71 = some (2, 1) := by kernel_rfl
theorem arr_91 : arrB Try.prog 91 = some (257, 4) := by kernel_rfl
theorem arr_92 : arrB Try.prog 92 = some (129, 4) := by kernel_rfl
theorem arr_93 : arrB Try.prog 93 = some (2, 4) := by kernel_rfl
theorem siz_101 : sizB Try.prog 101 = some 3 := by kernel_rfl
theorem siz_115 : sizB Try.prog 115 = some 3 := by kernel_rfl
theorem siz_124 : sizB Try.prog 124 = some 4 := by kernel_rfl
theorem siz_160 : sizB Try.prog 160 = some 1 := by kernel_rfl
theorem siz_2 : sizB Try.prog 2 = some 1 := by kernel_rfl
theorem siz_21 : sizB Try.prog 21 = some 1 := by kernel_rfl
theorem siz_26 : sizB Try.prog 26 = some 1 := by kernel_rfl
theorem siz_3 : sizB Try.prog 3 = some 1 := by kernel_rfl
theorem siz_31 : sizB Try.prog 31 = some 2 := by kernel_rfl
theorem siz_35 : sizB Try.prog 35 = some 1 := by kernel_rfl
theorem siz_43 : sizB Try.prog 43 = some 1 := by kernel_rfl
theorem xf_1 : Xf Try.prog 1 Try.f1 := ⟨Try.func1, by kernel_rfl, by kernel_rfl, by kernel_rfl⟩
theorem xf_100 : Xf Try.prog 100 Try.f100 := ⟨Try.func100, by kernel_rfl, by kernel_rfl, by kernel_rfl⟩
theorem xf_104 : Xf Try.prog 104 Try.f104 := ⟨Try.func104, by kernel_rfl, by kernel_rfl, by kernel_rfl⟩
theorem xf_110 : Xf Try.prog 110 Try.f110 := ⟨Try.func110, by kernel_rfl, by kernel_rfl, by kernel_rfl⟩
theorem xf_112 : Xf Try.prog 112 Try.f112 := ⟨Try.func112, by kernel_rfl, by kernel_rfl, by kernel_rfl⟩
theorem xf_113 : Xf Try.prog 113 Try.f113 := ⟨Try.func113, by kernel_rfl, by kernel_rfl, by kernel_rfl⟩
theorem xf_114 : Xf Try.prog 114 Try.f114 := ⟨Try.func114, by kernel_rfl, by kernel_rfl, by kernel_rfl⟩
theorem xf_115 : Xf Try.prog 115 Try.f115 := ⟨Try.func115, by kernel_rfl, by kernel_rfl, by kernel_rfl⟩
theorem xf_117 : Xf Try.prog 117 Try.f117 := ⟨Try.func117, by kernel_rfl, by kernel_rfl, by kernel_rfl⟩
theorem xf_118 : Xf Try.prog 118 Try.f118 := ⟨Try.func118, by kernel_rfl, by kernel_rfl, by kernel_rfl⟩
theorem xf_120 : Xf Try.prog 120 Try.f120 := ⟨Try.func120, by kernel_rfl, by kernel_rfl, by kernel_rfl⟩
theorem xf_121 : Xf Try.prog 121 Try.f121 := ⟨Try.func121, by kernel_rfl, by kernel_rfl, by kernel_rfl⟩
theorem xf_122 : Xf Try.prog 122 Try.f122 := ⟨Try.func122, by kernel_rfl, by kernel_rfl, by kernel_rfl⟩
theorem xf_123 : Xf Try.prog 123 Try.f123 := ⟨Try.func123, by kernel_rfl, by kernel_rfl, by kernel_rfl⟩
theorem xf_124 : Xf Try.prog 124 Try.f124 := ⟨Try.func124, by kernel_rfl, by kernel_rfl, by kernel_rfl⟩
theorem xf_125 : Xf Try.prog 125 Try.f125 := ⟨Try.func125, by kernel_rfl, by kernel_rfl, by kernel_rfl⟩
theorem xf_126 : Xf Try.prog 126 Try.f126 := ⟨Try.func126, by kernel_rfl, by kernel_rfl, by kernel_rfl⟩
theorem xf_81 : Xf Try.prog 81 Try.f81 := ⟨Try.func81, by kernel_rfl, by kernel_rfl, by kernel_rfl⟩
theorem zer_101 : zerB Try.prog 101 = some ((Go.Value.agg #[(Go.Value.int Go.IntKind.i64 0), (Go.Value.slice none 0 0), (Go.Value.slice none 0 0)]), 3, 56) := by kernel_rfl
theorem zer_105 : zerB Try.prog 105 = some ((Go.Value.agg #[(Go.Value.int Go.IntKind.i64 0), (Go.Value.slice none 0 0), (Go.Value.slice none 0 0), (Go.Value.slice none 0 0)]), 4, 80) := by kernel_rfl
theorem zer_110 : zerB Try.prog 110 = some ((Go.Value.agg #[(Go.Value.int Go.IntKind.i64 0), (Go.Value.slice none 0 0), (Go.Value.slice none 0 0), (Go.Value.slice none 0 0)]), 4, 80) := by kernel_rfl
theorem zer_115 : zerB Try.prog 115 = some ((Go.Value.agg #[(Go.Value.int Go.IntKind.i64 0), (Go.Value.slice none 0 0), (Go.Value.slice none 0 0)]), 3, 56) := by kernel_rfl
theorem zer_119 : zerB Try.prog 119 = some ((Go.Value.agg #[(Go.Value.int Go.IntKind.i64 0), (Go.Value.slice none 0 0), (Go.Value.slice none 0 0), (Go.Value.slice none 0 0)]), 4, 80) := by kernel_rfl
theorem zer_124 : zerB Try.prog 124 = some ((Go.Value.agg #[(Go.Value.int Go.IntKind.i64 0), (Go.Value.int Go.IntKind.i64 0), (Go.Value.int Go.IntKind.i64 0), (Go.Value.int Go.IntKind.i64 0)]), 4, 32) := by kernel_rfl
theorem zer_131 : zerB Try.prog 131 = some ((Go.Value.agg #[(Go.Value.int Go.IntKind.i64 0), (Go.Value.slice none 0 0), (Go.Value.slice none 0 0), (Go.Value.slice none 0 0)]), 4, 80) := by kernel_rfl
theorem zer_136 : zerB Try.prog 136 = some ((Go.Value.pointer none), 1, 8) := by kernel_rfl
theorem zer_139 : zerB Try.prog 139 = some (Go.Value.nilFunc, 1, 8) := by kernel_rfl
theorem zer_160 : zerB Try.prog 160 = some ((Go.Value.int Go.IntKind.u64 0), 1, 8) := by kernel_rfl
theorem zer_2 : zerB Try.prog 2 = some ((Go.Value.int Go.IntKind.i64 0), 1, 8) := by kernel_rfl
theorem zer_21 : zerB Try.prog 21 = some ((Go.Value.int Go.IntKind.i32 0), 1, 4) := by kernel_rfl
theorem zer_24 : zerB Try.prog 24 = some ((Go.Value.pointer none), 1, 8) := by kernel_rfl
theorem zer_26 : zerB Try.prog 26 = some ((Go.Value.slice none 0 0), 1, 24) := by kernel_rfl
theorem zer_3 : zerB Try.prog 3 = some ((Go.Value.int Go.IntKind.i64 0), 1, 8) := by kernel_rfl
theorem zer_31 : zerB Try.prog 31 = some ((Go.Value.agg #[(Go.Value.int Go.IntKind.i64 0), (Go.Value.int Go.IntKind.i64 0)]), 2, 16) := by kernel_rfl
theorem zer_35 : zerB Try.prog 35 = some ((Go.Value.int Go.IntKind.i16 0), 1, 2) := by kernel_rfl
theorem zer_43 : zerB Try.prog 43 = some ((Go.Value.slice none 0 0), 1, 24) := by kernel_rfl
theorem zer_90 : zerB Try.prog 90 = some ((Go.Value.agg #[(Go.Value.int Go.IntKind.u32 0), (Go.Value.int Go.IntKind.i32 0), (Go.Value.int Go.IntKind.u32 0), (Go.Value.slice none 0 0)]), 4, 40) := by kernel_rfl
end Go.Proofs.Ytjmnidcfgkdhcaa

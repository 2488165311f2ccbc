/- Closed facts on the types of the seat's program: printed by wip/facts.py. -/
import Derived.Test.YtaackmiajgapoaaDoorVA
import Derived.Test.YtaackmiajgapoaaDoorProg
set_option maxRecDepth 100000
namespace Go.Proofs.YtaackmiajgapoaaDoor.V
open Go
theorem canCall_10 : canCall Tryd.prog 10 = true := by rfl
theorem canCall_100 : canCall Tryd.prog 100 = true := by rfl
theorem canCall_102 : canCall Tryd.prog 102 = true := by rfl
theorem canCall_103 : canCall Tryd.prog 103 = true := by rfl
theorem canCall_104 : canCall Tryd.prog 104 = true := by rfl
theorem canCall_105 : canCall Tryd.prog 105 = true := by rfl
theorem canCall_106 : canCall Tryd.prog 106 = true := by rfl
theorem canCall_107 : canCall Tryd.prog 107 = true := by rfl
theorem canCall_108 : canCall Tryd.prog 108 = true := by rfl
theorem canCall_109 : canCall Tryd.prog 109 = true := by rfl
theorem canCall_11 : canCall Tryd.prog 11 = true := by rfl
theorem canCall_110 : canCall Tryd.prog 110 = true := by rfl
theorem canCall_111 : canCall Tryd.prog 111 = true := by rfl
theorem canCall_112 : canCall Tryd.prog 112 = true := by rfl
theorem canCall_113 : canCall Tryd.prog 113 = true := by rfl
theorem canCall_114 : canCall Tryd.prog 114 = true := by rfl
theorem canCall_115 : canCall Tryd.prog 115 = true := by rfl
theorem canCall_116 : canCall Tryd.prog 116 = true := by rfl
theorem canCall_117 : canCall Tryd.prog 117 = true := by rfl
theorem canCall_118 : canCall Tryd.prog 118 = true := by rfl
theorem canCall_119 : canCall Tryd.prog 119 = true := by rfl
theorem canCall_12 : canCall Tryd.prog 12 = true := by rfl
theorem canCall_120 : canCall Tryd.prog 120 = true := by rfl
theorem canCall_121 : canCall Tryd.prog 121 = true := by rfl
theorem canCall_122 : canCall Tryd.prog 122 = true := by rfl
theorem canCall_123 : canCall Tryd.prog 123 = true := by rfl
theorem canCall_124 : canCall Tryd.prog 124 = true := by rfl
theorem canCall_125 : canCall Tryd.prog 125 = true := by rfl
theorem canCall_126 : canCall Tryd.prog 126 = true := by rfl
theorem canCall_127 : canCall Tryd.prog 127 = true := by rfl
theorem canCall_128 : canCall Tryd.prog 128 = true := by rfl
theorem canCall_129 : canCall Tryd.prog 129 = true := by rfl
theorem canCall_13 : canCall Tryd.prog 13 = true := by rfl
theorem canCall_131 : canCall Tryd.prog 131 = true := by rfl
theorem canCall_132 : canCall Tryd.prog 132 = true := by rfl
theorem canCall_133 : canCall Tryd.prog 133 = true := by rfl
theorem canCall_134 : canCall Tryd.prog 134 = true := by rfl
theorem canCall_135 : canCall Tryd.prog 135 = true := by rfl
theorem canCall_136 : canCall Tryd.prog 136 = true := by rfl
theorem canCall_137 : canCall Tryd.prog 137 = true := by rfl
theorem canCall_138 : canCall Tryd.prog 138 = true := by rfl
theorem canCall_139 : canCall Tryd.prog 139 = true := by rfl
theorem canCall_14 : canCall Tryd.prog 14 = true := by rfl
theorem canCall_140 : canCall Tryd.prog 140 = true := by rfl
theorem canCall_141 : canCall Tryd.prog 141 = true := by rfl
theorem canCall_142 : canCall Tryd.prog 142 = true := by rfl
theorem canCall_143 : canCall Tryd.prog 143 = true := by rfl
theorem canCall_144 : canCall Tryd.prog 144 = false := by rfl
theorem canCall_145 : canCall Tryd.prog 145 = true := by rfl
theorem canCall_146 : canCall Tryd.prog 146 = true := by rfl
theorem canCall_147 : canCall Tryd.prog 147 = false := by rfl
theorem canCall_148 : canCall Tryd.prog 148 = true := by rfl
theorem canCall_149 : canCall Tryd.prog 149 = true := by rfl
theorem canCall_15 : canCall Tryd.prog 15 = true := by rfl
theorem canCall_150 : canCall Tryd.prog 150 = true := by rfl
theorem canCall_151 : canCall Tryd.prog 151 = true := by rfl
theorem canCall_152 : canCall Tryd.prog 152 = true := by rfl
theorem canCall_153 : canCall Tryd.prog 153 = true := by rfl
theorem canCall_154 : canCall Tryd.prog 154 = true := by rfl
theorem canCall_155 : canCall Tryd.prog 155 = true := by rfl
theorem canCall_156 : canCall Tryd.prog 156 = true := by rfl
theorem canCall_157 : canCall Tryd.prog 157 = true := by rfl
theorem canCall_158 : canCall Tryd.prog 158 = true := by rfl
theorem canCall_159 : canCall Tryd.prog 159 = true := by rfl
theorem canCall_16 : canCall Tryd.prog 16 = true := by rfl
theorem canCall_160 : canCall Tryd.prog 160 = true := by rfl
theorem canCall_161 : canCall Tryd.prog 161 = true := by rfl
theorem canCall_162 : canCall Tryd.prog 162 = true := by rfl
theorem canCall_163 : canCall Tryd.prog 163 = true := by rfl
theorem canCall_164 : canCall Tryd.prog 164 = true := by rfl
theorem canCall_165 : canCall Tryd.prog 165 = true := by rfl
theorem canCall_166 : canCall Tryd.prog 166 = true := by rfl
theorem canCall_167 : canCall Tryd.prog 167 = true := by rfl
theorem canCall_168 : canCall Tryd.prog 168 = true := by rfl
theorem canCall_169 : canCall Tryd.prog 169 = true := by rfl
theorem canCall_17 : canCall Tryd.prog 17 = true := by rfl
theorem canCall_170 : canCall Tryd.prog 170 = true := by rfl
theorem canCall_171 : canCall Tryd.prog 171 = true := by rfl
theorem canCall_172 : canCall Tryd.prog 172 = true := by rfl
theorem canCall_173 : canCall Tryd.prog 173 = true := by rfl
theorem canCall_174 : canCall Tryd.prog 174 = true := by rfl
theorem canCall_175 : canCall Tryd.prog 175 = true := by rfl
theorem canCall_176 : canCall Tryd.prog 176 = true := by rfl
theorem canCall_177 : canCall Tryd.prog 177 = true := by rfl
theorem canCall_178 : canCall Tryd.prog 178 = true := by rfl
theorem canCall_179 : canCall Tryd.prog 179 = true := by rfl
theorem canCall_18 : canCall Tryd.prog 18 = true := by rfl
theorem canCall_180 : canCall Tryd.prog 180 = true := by rfl
theorem canCall_181 : canCall Tryd.prog 181 = true := by rfl
theorem canCall_182 : canCall Tryd.prog 182 = true := by rfl
theorem canCall_19 : canCall Tryd.prog 19 = true := by rfl
theorem canCall_20 : canCall Tryd.prog 20 = true := by rfl
theorem canCall_21 : canCall Tryd.prog 21 = true := by rfl
theorem canCall_22 : canCall Tryd.prog 22 = true := by rfl
theorem canCall_23 : canCall Tryd.prog 23 = true := by rfl
theorem canCall_24 : canCall Tryd.prog 24 = true := by rfl
theorem canCall_25 : canCall Tryd.prog 25 = true := by rfl
theorem canCall_26 : canCall Tryd.prog 26 = true := by rfl
theorem canCall_27 : canCall Tryd.prog 27 = true := by rfl
theorem canCall_28 : canCall Tryd.prog 28 = true := by rfl
theorem canCall_29 : canCall Tryd.prog 29 = true := by rfl
theorem canCall_30 : canCall Tryd.prog 30 = true := by rfl
theorem canCall_31 : canCall Tryd.prog 31 = true := by rfl
theorem canCall_32 : canCall Tryd.prog 32 = true := by rfl
theorem canCall_33 : canCall Tryd.prog 33 = true := by rfl
theorem canCall_34 : canCall Tryd.prog 34 = true := by rfl
theorem canCall_35 : canCall Tryd.prog 35 = true := by rfl
theorem canCall_36 : canCall Tryd.prog 36 = true := by rfl
theorem canCall_37 : canCall Tryd.prog 37 = true := by rfl
theorem canCall_38 : canCall Tryd.prog 38 = true := by rfl
theorem canCall_39 : canCall Tryd.prog 39 = true := by rfl
theorem canCall_40 : canCall Tryd.prog 40 = true := by rfl
theorem canCall_41 : canCall Tryd.prog 41 = true := by rfl
theorem canCall_42 : canCall Tryd.prog 42 = true := by rfl
theorem canCall_43 : canCall Tryd.prog 43 = true := by rfl
theorem canCall_44 : canCall Tryd.prog 44 = true := by rfl
theorem canCall_45 : canCall Tryd.prog 45 = true := by rfl
theorem canCall_46 : canCall Tryd.prog 46 = true := by rfl
theorem canCall_49 : canCall Tryd.prog 49 = true := by rfl
theorem canCall_50 : canCall Tryd.prog 50 = true := by rfl
theorem canCall_51 : canCall Tryd.prog 51 = true := by rfl
theorem canCall_52 : canCall Tryd.prog 52 = true := by rfl
theorem canCall_53 : canCall Tryd.prog 53 = true := by rfl
theorem canCall_54 : canCall Tryd.prog 54 = true := by rfl
theorem canCall_55 : canCall Tryd.prog 55 = true := by rfl
theorem canCall_56 : canCall Tryd.prog 56 = true := by rfl
theorem canCall_57 : canCall Tryd.prog 57 = true := by rfl
theorem canCall_58 : canCall Tryd.prog 58 = true := by rfl
theorem canCall_59 : canCall Tryd.prog 59 = true := by rfl
theorem canCall_61 : canCall Tryd.prog 61 = true := by rfl
theorem canCall_62 : canCall Tryd.prog 62 = true := by rfl
theorem canCall_63 : canCall Tryd.prog 63 = true := by rfl
theorem canCall_64 : canCall Tryd.prog 64 = true := by rfl
theorem canCall_65 : canCall Tryd.prog 65 = true := by rfl
theorem canCall_66 : canCall Tryd.prog 66 = true := by rfl
theorem canCall_67 : canCall Tryd.prog 67 = true := by rfl
theorem canCall_68 : canCall Tryd.prog 68 = true := by rfl
theorem canCall_69 : canCall Tryd.prog 69 = true := by rfl
theorem canCall_70 : canCall Tryd.prog 70 = true := by rfl
theorem canCall_71 : canCall Tryd.prog 71 = true := by rfl
theorem canCall_72 : canCall Tryd.prog 72 = true := by rfl
theorem canCall_73 : canCall Tryd.prog 73 = true := by rfl
theorem canCall_74 : canCall Tryd.prog 74 = true := by rfl
theorem canCall_75 : canCall Tryd.prog 75 = true := by rfl
theorem canCall_76 : canCall Tryd.prog 76 = true := by rfl
theorem canCall_77 : canCall Tryd.prog 77 = true := by rfl
theorem canCall_78 : canCall Tryd.prog 78 = true := by rfl
theorem canCall_79 : canCall Tryd.prog 79 = true := by rfl
theorem canCall_80 : canCall Tryd.prog 80 = true := by rfl
theorem canCall_81 : canCall Tryd.prog 81 = true := by rfl
theorem canCall_83 : canCall Tryd.prog 83 = true := by rfl
theorem canCall_84 : canCall Tryd.prog 84 = true := by rfl
theorem canCall_85 : canCall Tryd.prog 85 = true := by rfl
theorem canCall_86 : canCall Tryd.prog 86 = true := by rfl
theorem canCall_87 : canCall Tryd.prog 87 = true := by rfl
theorem canCall_88 : canCall Tryd.prog 88 = true := by rfl
theorem canCall_89 : canCall Tryd.prog 89 = true := by rfl
theorem canCall_90 : canCall Tryd.prog 90 = true := by rfl
theorem canCall_92 : canCall Tryd.prog 92 = true := by rfl
theorem canCall_93 : canCall Tryd.prog 93 = true := by rfl
theorem canCall_94 : canCall Tryd.prog 94 = true := by rfl
theorem canCall_95 : canCall Tryd.prog 95 = true := by rfl
theorem canCall_97 : canCall Tryd.prog 97 = true := by rfl
theorem canCall_98 : canCall Tryd.prog 98 = true := by rfl
theorem canCall_99 : canCall Tryd.prog 99 = true := by rfl
theorem tAgg_104 : tAgg Tryd.prog 104 = some true := by rfl
theorem tAgg_119 : tAgg Tryd.prog 119 = some true := by rfl
theorem tAgg_128 : tAgg Tryd.prog 128 = some false := by rfl
theorem tAgg_189 : tAgg Tryd.prog 189 = some true := by rfl
theorem tAgg_208 : tAgg Tryd.prog 208 = some false := by rfl
theorem tAgg_22 : tAgg Tryd.prog 22 = some false := by rfl
theorem tAgg_23 : tAgg Tryd.prog 23 = some false := by rfl
theorem tAgg_24 : tAgg Tryd.prog 24 = some false := by rfl
theorem tAgg_26 : tAgg Tryd.prog 26 = some true := by rfl
theorem tAgg_27 : tAgg Tryd.prog 27 = some false := by rfl
theorem tAgg_28 : tAgg Tryd.prog 28 = some false := by rfl
theorem tAgg_3 : tAgg Tryd.prog 3 = some false := by rfl
theorem tAgg_30 : tAgg Tryd.prog 30 = some true := by rfl
theorem tAgg_36 : tAgg Tryd.prog 36 = some false := by rfl
theorem tAgg_4 : tAgg Tryd.prog 4 = some false := by rfl
theorem tAgg_43 : tAgg Tryd.prog 43 = some false := by rfl
theorem tAgg_45 : tAgg Tryd.prog 45 = some true := by rfl
theorem tAgg_47 : tAgg Tryd.prog 47 = some true := by rfl
theorem tAgg_5 : tAgg Tryd.prog 5 = some false := by rfl
theorem tAgg_53 : tAgg Tryd.prog 53 = some false := by rfl
theorem tAgg_58 : tAgg Tryd.prog 58 = some true := by rfl
theorem tAgg_63 : tAgg Tryd.prog 63 = some true := by rfl
theorem tAgg_67 : tAgg Tryd.prog 67 = some false := by rfl
theorem tAgg_87 : tAgg Tryd.prog 87 = some false := by rfl
theorem tAgg_88 : tAgg Tryd.prog 88 = some false := by rfl
theorem tAgg_9 : tAgg Tryd.prog 9 = some false := by rfl
theorem tAgg_90 : tAgg Tryd.prog 90 = some true := by rfl
theorem tArr1_104 : tArr1 Tryd.prog 104 = some 10 := by rfl
theorem tArr1_119 : tArr1 Tryd.prog 119 = some 24 := by rfl
theorem tArr1_9 : tArr1 Tryd.prog 9 = none := by rfl
theorem tBytes_189 : tBytes Tryd.prog 189 = some 40 := by rfl
theorem tBytes_22 : tBytes Tryd.prog 22 = some 24 := by rfl
theorem tBytes_30 : tBytes Tryd.prog 30 = some 64 := by rfl
theorem tBytes_45 : tBytes Tryd.prog 45 = some 96 := by rfl
theorem tBytes_47 : tBytes Tryd.prog 47 = some 96 := by rfl
theorem tBytes_5 : tBytes Tryd.prog 5 = some 1 := by rfl
theorem tBytes_58 : tBytes Tryd.prog 58 = some 40 := by rfl
theorem tBytes_63 : tBytes Tryd.prog 63 = some 24 := by rfl
theorem tBytes_9 : tBytes Tryd.prog 9 = some 16 := by rfl
theorem tElem_182 : tElem Tryd.prog 182 = none := by rfl
theorem tElem_185 : tElem Tryd.prog 185 = some 22 := by rfl
theorem tElem_194 : tElem Tryd.prog 194 = none := by rfl
theorem tElem_195 : tElem Tryd.prog 195 = none := by rfl
theorem tElem_206 : tElem Tryd.prog 206 = some 189 := by rfl
theorem tElem_214 : tElem Tryd.prog 214 = none := by rfl
theorem tElem_215 : tElem Tryd.prog 215 = none := by rfl
theorem tElem_22 : tElem Tryd.prog 22 = some 9 := by rfl
theorem tElem_23 : tElem Tryd.prog 23 = some 63 := by rfl
theorem tElem_24 : tElem Tryd.prog 24 = some 47 := by rfl
theorem tElem_28 : tElem Tryd.prog 28 = some 30 := by rfl
theorem tElem_43 : tElem Tryd.prog 43 = some 45 := by rfl
theorem tElem_53 : tElem Tryd.prog 53 = some 58 := by rfl
theorem tElem_88 : tElem Tryd.prog 88 = some 5 := by rfl
theorem tField_109_0 : tField Tryd.prog 109 0 = some (0, 53) := by rfl
theorem tField_109_1 : tField Tryd.prog 109 1 = some (1, 3) := by rfl
theorem tField_111_0 : tField Tryd.prog 111 0 = some (0, 3) := by rfl
theorem tField_142_0 : tField Tryd.prog 142 0 = some (0, 9) := by rfl
theorem tField_142_1 : tField Tryd.prog 142 1 = some (1, 3) := by rfl
theorem tField_142_2 : tField Tryd.prog 142 2 = some (2, 3) := by rfl
theorem tField_189_0 : tField Tryd.prog 189 0 = some (0, 9) := by rfl
theorem tField_189_1 : tField Tryd.prog 189 1 = some (1, 3) := by rfl
theorem tField_189_2 : tField Tryd.prog 189 2 = some (2, 3) := by rfl
theorem tField_189_3 : tField Tryd.prog 189 3 = some (3, 3) := by rfl
theorem tField_26_0 : tField Tryd.prog 26 0 = some (0, 22) := by rfl
theorem tField_26_1 : tField Tryd.prog 26 1 = some (1, 23) := by rfl
theorem tField_26_2 : tField Tryd.prog 26 2 = some (2, 24) := by rfl
theorem tField_30_0 : tField Tryd.prog 30 0 = some (0, 3) := by rfl
theorem tField_30_1 : tField Tryd.prog 30 1 = some (1, 3) := by rfl
theorem tField_30_2 : tField Tryd.prog 30 2 = some (2, 27) := by rfl
theorem tField_30_3 : tField Tryd.prog 30 3 = some (3, 9) := by rfl
theorem tField_30_4 : tField Tryd.prog 30 4 = some (4, 28) := by rfl
theorem tField_45_0 : tField Tryd.prog 45 0 = some (0, 3) := by rfl
theorem tField_45_1 : tField Tryd.prog 45 1 = some (1, 9) := by rfl
theorem tField_45_2 : tField Tryd.prog 45 2 = some (2, 28) := by rfl
theorem tField_45_3 : tField Tryd.prog 45 3 = some (3, 43) := by rfl
theorem tField_45_4 : tField Tryd.prog 45 4 = some (4, 43) := by rfl
theorem tField_47_0 : tField Tryd.prog 47 0 = some (0, 9) := by rfl
theorem tField_47_1 : tField Tryd.prog 47 1 = some (1, 22) := by rfl
theorem tField_47_2 : tField Tryd.prog 47 2 = some (2, 22) := by rfl
theorem tField_47_3 : tField Tryd.prog 47 3 = some (3, 4) := by rfl
theorem tField_47_4 : tField Tryd.prog 47 4 = some (4, 43) := by rfl
theorem tField_58_0 : tField Tryd.prog 58 0 = some (0, 3) := by rfl
theorem tField_58_1 : tField Tryd.prog 58 1 = some (1, 9) := by rfl
theorem tField_58_2 : tField Tryd.prog 58 2 = some (2, 27) := by rfl
theorem tField_58_3 : tField Tryd.prog 58 3 = some (3, 3) := by rfl
theorem tField_63_0 : tField Tryd.prog 63 0 = some (0, 9) := by rfl
theorem tField_63_1 : tField Tryd.prog 63 1 = some (1, 3) := by rfl
theorem tField_69_0 : tField Tryd.prog 69 0 = some (0, 26) := by rfl
theorem tField_69_1 : tField Tryd.prog 69 1 = some (3, 4) := by rfl
theorem tField_90_0 : tField Tryd.prog 90 0 = some (0, 87) := by rfl
theorem tField_90_1 : tField Tryd.prog 90 1 = some (1, 88) := by rfl
theorem tField_92_0 : tField Tryd.prog 92 0 = some (0, 90) := by rfl
theorem tPlaces_104 : tPlaces Tryd.prog 104 = some [(0, 1), (1, 1), (2, 1), (3, 1), (4, 1), (5, 1), (6, 1), (7, 1), (8, 1), (9, 1)] := by rfl
theorem tPlaces_109 : tPlaces Tryd.prog 109 = some [(0, 1), (1, 1)] := by rfl
theorem tPlaces_111 : tPlaces Tryd.prog 111 = some [(0, 1)] := by rfl
theorem tPlaces_142 : tPlaces Tryd.prog 142 = some [(0, 1), (1, 1), (2, 1)] := by rfl
theorem tPlaces_189 : tPlaces Tryd.prog 189 = some [(0, 1), (1, 1), (2, 1), (3, 1)] := by rfl
theorem tPlaces_26 : tPlaces Tryd.prog 26 = some [(0, 1), (1, 1), (2, 1)] := by rfl
theorem tPlaces_30 : tPlaces Tryd.prog 30 = some [(0, 1), (1, 1), (2, 1), (3, 1), (4, 1)] := by rfl
theorem tPlaces_45 : tPlaces Tryd.prog 45 = some [(0, 1), (1, 1), (2, 1), (3, 1), (4, 1)] := by rfl
theorem tPlaces_47 : tPlaces Tryd.prog 47 = some [(0, 1), (1, 1), (2, 1), (3, 1), (4, 1)] := by rfl
theorem tPlaces_58 : tPlaces Tryd.prog 58 = some [(0, 1), (1, 1), (2, 1), (3, 1)] := by rfl
theorem tPlaces_63 : tPlaces Tryd.prog 63 = some [(0, 1), (1, 1)] := by rfl
theorem tPlaces_69 : tPlaces Tryd.prog 69 = some [(0, 3), (3, 1)] := by rfl
theorem tPlaces_92 : tPlaces Tryd.prog 92 = some [(0, 2)] := by rfl
theorem tSize_104 : tSize Tryd.prog 104 = some 10 := by rfl
theorem tSize_119 : tSize Tryd.prog 119 = some 24 := by rfl
theorem tSize_128 : tSize Tryd.prog 128 = some 1 := by rfl
theorem tSize_189 : tSize Tryd.prog 189 = some 4 := by rfl
theorem tSize_208 : tSize Tryd.prog 208 = some 1 := by rfl
theorem tSize_22 : tSize Tryd.prog 22 = some 1 := by rfl
theorem tSize_23 : tSize Tryd.prog 23 = some 1 := by rfl
theorem tSize_24 : tSize Tryd.prog 24 = some 1 := by rfl
theorem tSize_26 : tSize Tryd.prog 26 = some 3 := by rfl
theorem tSize_27 : tSize Tryd.prog 27 = some 1 := by rfl
theorem tSize_28 : tSize Tryd.prog 28 = some 1 := by rfl
theorem tSize_3 : tSize Tryd.prog 3 = some 1 := by rfl
theorem tSize_30 : tSize Tryd.prog 30 = some 5 := by rfl
theorem tSize_36 : tSize Tryd.prog 36 = some 1 := by rfl
theorem tSize_4 : tSize Tryd.prog 4 = some 1 := by rfl
theorem tSize_43 : tSize Tryd.prog 43 = some 1 := by rfl
theorem tSize_45 : tSize Tryd.prog 45 = some 5 := by rfl
theorem tSize_47 : tSize Tryd.prog 47 = some 5 := by rfl
theorem tSize_5 : tSize Tryd.prog 5 = some 1 := by rfl
theorem tSize_53 : tSize Tryd.prog 53 = some 1 := by rfl
theorem tSize_58 : tSize Tryd.prog 58 = some 4 := by rfl
theorem tSize_63 : tSize Tryd.prog 63 = some 2 := by rfl
theorem tSize_67 : tSize Tryd.prog 67 = some 1 := by rfl
theorem tSize_87 : tSize Tryd.prog 87 = some 1 := by rfl
theorem tSize_88 : tSize Tryd.prog 88 = some 1 := by rfl
theorem tSize_9 : tSize Tryd.prog 9 = some 1 := by rfl
theorem tSize_90 : tSize Tryd.prog 90 = some 2 := by rfl
theorem zeroPV_104 : zeroPV Tryd.prog 104 = some [PV.val Value.nilFunc, PV.val Value.nilFunc, PV.val Value.nilFunc, PV.val Value.nilFunc, PV.val Value.nilFunc, PV.val Value.nilFunc, PV.val Value.nilFunc, PV.val Value.nilFunc, PV.val Value.nilFunc, PV.val Value.nilFunc] := by rfl
theorem zeroPV_109 : zeroPV Tryd.prog 109 = some [PV.nils, PV.val (Value.int IntKind.i64 (0))] := by rfl
theorem zeroPV_111 : zeroPV Tryd.prog 111 = some [PV.val (Value.int IntKind.i64 (0))] := by rfl
theorem zeroPV_142 : zeroPV Tryd.prog 142 = some [PV.val (Value.string ByteArray.empty), PV.val (Value.int IntKind.i64 (0)), PV.val (Value.int IntKind.i64 (0))] := by rfl
theorem zeroPV_176 : zeroPV Tryd.prog 176 = some [PV.val (Value.int IntKind.u8 (0)), PV.val (Value.int IntKind.u8 (0)), PV.val (Value.int IntKind.u8 (0)), PV.val (Value.int IntKind.u8 (0)), PV.val (Value.int IntKind.u8 (0)), PV.val (Value.int IntKind.u8 (0)), PV.val (Value.int IntKind.u8 (0)), PV.val (Value.int IntKind.u8 (0)), PV.val (Value.int IntKind.u8 (0)), PV.val (Value.int IntKind.u8 (0)), PV.val (Value.int IntKind.u8 (0)), PV.val (Value.int IntKind.u8 (0)), PV.val (Value.int IntKind.u8 (0)), PV.val (Value.int IntKind.u8 (0)), PV.val (Value.int IntKind.u8 (0)), PV.val (Value.int IntKind.u8 (0)), PV.val (Value.int IntKind.u8 (0)), PV.val (Value.int IntKind.u8 (0)), PV.val (Value.int IntKind.u8 (0)), PV.val (Value.int IntKind.u8 (0)), PV.val (Value.int IntKind.u8 (0)), PV.val (Value.int IntKind.u8 (0)), PV.val (Value.int IntKind.u8 (0)), PV.val (Value.int IntKind.u8 (0))] := by rfl
theorem zeroPV_189 : zeroPV Tryd.prog 189 = some [PV.val (Value.string ByteArray.empty), PV.val (Value.int IntKind.i64 (0)), PV.val (Value.int IntKind.i64 (0)), PV.val (Value.int IntKind.i64 (0))] := by rfl
theorem zeroPV_195 : zeroPV Tryd.prog 195 = some [PV.val (Value.int IntKind.u8 (0)), PV.val (Value.int IntKind.u8 (0)), PV.val (Value.int IntKind.u8 (0)), PV.val (Value.int IntKind.u8 (0)), PV.val (Value.int IntKind.u8 (0)), PV.val (Value.int IntKind.u8 (0)), PV.val (Value.int IntKind.u8 (0)), PV.val (Value.int IntKind.u8 (0)), PV.val (Value.int IntKind.u8 (0)), PV.val (Value.int IntKind.u8 (0)), PV.val (Value.int IntKind.u8 (0)), PV.val (Value.int IntKind.u8 (0)), PV.val (Value.int IntKind.u8 (0)), PV.val (Value.int IntKind.u8 (0)), PV.val (Value.int IntKind.u8 (0)), PV.val (Value.int IntKind.u8 (0)), PV.val (Value.int IntKind.u8 (0)), PV.val (Value.int IntKind.u8 (0)), PV.val (Value.int IntKind.u8 (0)), PV.val (Value.int IntKind.u8 (0)), PV.val (Value.int IntKind.u8 (0)), PV.val (Value.int IntKind.u8 (0)), PV.val (Value.int IntKind.u8 (0)), PV.val (Value.int IntKind.u8 (0)), PV.val (Value.int IntKind.u8 (0)), PV.val (Value.int IntKind.u8 (0)), PV.val (Value.int IntKind.u8 (0)), PV.val (Value.int IntKind.u8 (0)), PV.val (Value.int IntKind.u8 (0)), PV.val (Value.int IntKind.u8 (0)), PV.val (Value.int IntKind.u8 (0)), PV.val (Value.int IntKind.u8 (0)), PV.val (Value.int IntKind.u8 (0)), PV.val (Value.int IntKind.u8 (0)), PV.val (Value.int IntKind.u8 (0)), PV.val (Value.int IntKind.u8 (0)), PV.val (Value.int IntKind.u8 (0)), PV.val (Value.int IntKind.u8 (0)), PV.val (Value.int IntKind.u8 (0)), PV.val (Value.int IntKind.u8 (0)), PV.val (Value.int IntKind.u8 (0)), PV.val (Value.int IntKind.u8 (0)), PV.val (Value.int IntKind.u8 (0)), PV.val (Value.int IntKind.u8 (0)), PV.val (Value.int IntKind.u8 (0)), PV.val (Value.int IntKind.u8 (0)), PV.val (Value.int IntKind.u8 (0)), PV.val (Value.int IntKind.u8 (0)), PV.val (Value.int IntKind.u8 (0)), PV.val (Value.int IntKind.u8 (0)), PV.val (Value.int IntKind.u8 (0)), PV.val (Value.int IntKind.u8 (0)), PV.val (Value.int IntKind.u8 (0)), PV.val (Value.int IntKind.u8 (0)), PV.val (Value.int IntKind.u8 (0)), PV.val (Value.int IntKind.u8 (0)), PV.val (Value.int IntKind.u8 (0)), PV.val (Value.int IntKind.u8 (0)), PV.val (Value.int IntKind.u8 (0)), PV.val (Value.int IntKind.u8 (0)), PV.val (Value.int IntKind.u8 (0)), PV.val (Value.int IntKind.u8 (0)), PV.val (Value.int IntKind.u8 (0)), PV.val (Value.int IntKind.u8 (0)), PV.val (Value.int IntKind.u8 (0))] := by rfl
theorem zeroPV_208 : zeroPV Tryd.prog 208 = some [PV.val (Value.int IntKind.u64 (0))] := by rfl
theorem zeroPV_22 : zeroPV Tryd.prog 22 = some [PV.nils] := by rfl
theorem zeroPV_26 : zeroPV Tryd.prog 26 = some [PV.nils, PV.nils, PV.nils] := by rfl
theorem zeroPV_3 : zeroPV Tryd.prog 3 = some [PV.val (Value.int IntKind.i64 (0))] := by rfl
theorem zeroPV_30 : zeroPV Tryd.prog 30 = some [PV.val (Value.int IntKind.i64 (0)), PV.val (Value.int IntKind.i64 (0)), PV.val (Value.int IntKind.u32 (0)), PV.val (Value.string ByteArray.empty), PV.nils] := by rfl
theorem zeroPV_36 : zeroPV Tryd.prog 36 = some [PV.val (Value.int IntKind.i64 (0))] := by rfl
theorem zeroPV_4 : zeroPV Tryd.prog 4 = some [PV.val (Value.bool false)] := by rfl
theorem zeroPV_45 : zeroPV Tryd.prog 45 = some [PV.val (Value.int IntKind.i64 (0)), PV.val (Value.string ByteArray.empty), PV.nils, PV.nils, PV.nils] := by rfl
theorem zeroPV_47 : zeroPV Tryd.prog 47 = some [PV.val (Value.string ByteArray.empty), PV.nils, PV.nils, PV.val (Value.bool false), PV.nils] := by rfl
theorem zeroPV_5 : zeroPV Tryd.prog 5 = some [PV.val (Value.int IntKind.u8 (0))] := by rfl
theorem zeroPV_58 : zeroPV Tryd.prog 58 = some [PV.val (Value.int IntKind.i64 (0)), PV.val (Value.string ByteArray.empty), PV.val (Value.int IntKind.u32 (0)), PV.val (Value.int IntKind.i64 (0))] := by rfl
theorem zeroPV_63 : zeroPV Tryd.prog 63 = some [PV.val (Value.string ByteArray.empty), PV.val (Value.int IntKind.i64 (0))] := by rfl
theorem zeroPV_69 : zeroPV Tryd.prog 69 = some [PV.nils, PV.nils, PV.nils, PV.val (Value.bool false)] := by rfl
theorem zeroPV_9 : zeroPV Tryd.prog 9 = some [PV.val (Value.string ByteArray.empty)] := by rfl
theorem zeroPV_90 : zeroPV Tryd.prog 90 = some [PV.val (Value.pointer none), PV.nils] := by rfl
theorem zeroPV_92 : zeroPV Tryd.prog 92 = some [PV.val (Value.pointer none), PV.nils] := by rfl
theorem mixed : Tryd.prog.follows .mixedOrders = true := by rfl
end Go.Proofs.YtaackmiajgapoaaDoor.V

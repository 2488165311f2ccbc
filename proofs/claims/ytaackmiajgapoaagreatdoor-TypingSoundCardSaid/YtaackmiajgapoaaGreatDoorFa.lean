/- Closed facts on the types of the seat's program: printed by wip/facts.py. -/
import Derived.Test.YtaackmiajgapoaaGreatDoorVA
import Derived.Test.YtaackmiajgapoaaGreatDoorProg
set_option maxRecDepth 100000
namespace Go.Proofs.YtaackmiajgapoaaGreatDoor.V
open Go
theorem canCall_1 : canCall Tryz.prog 1 = false := by rfl
theorem canCall_10 : canCall Tryz.prog 10 = true := by rfl
theorem canCall_100 : canCall Tryz.prog 100 = true := by rfl
theorem canCall_101 : canCall Tryz.prog 101 = true := by rfl
theorem canCall_102 : canCall Tryz.prog 102 = true := by rfl
theorem canCall_103 : canCall Tryz.prog 103 = true := by rfl
theorem canCall_104 : canCall Tryz.prog 104 = true := by rfl
theorem canCall_105 : canCall Tryz.prog 105 = true := by rfl
theorem canCall_106 : canCall Tryz.prog 106 = true := by rfl
theorem canCall_107 : canCall Tryz.prog 107 = true := by rfl
theorem canCall_108 : canCall Tryz.prog 108 = true := by rfl
theorem canCall_109 : canCall Tryz.prog 109 = true := by rfl
theorem canCall_11 : canCall Tryz.prog 11 = true := by rfl
theorem canCall_110 : canCall Tryz.prog 110 = true := by rfl
theorem canCall_111 : canCall Tryz.prog 111 = true := by rfl
theorem canCall_112 : canCall Tryz.prog 112 = true := by rfl
theorem canCall_113 : canCall Tryz.prog 113 = true := by rfl
theorem canCall_114 : canCall Tryz.prog 114 = true := by rfl
theorem canCall_115 : canCall Tryz.prog 115 = true := by rfl
theorem canCall_117 : canCall Tryz.prog 117 = true := by rfl
theorem canCall_118 : canCall Tryz.prog 118 = true := by rfl
theorem canCall_119 : canCall Tryz.prog 119 = true := by rfl
theorem canCall_12 : canCall Tryz.prog 12 = true := by rfl
theorem canCall_120 : canCall Tryz.prog 120 = true := by rfl
theorem canCall_121 : canCall Tryz.prog 121 = true := by rfl
theorem canCall_122 : canCall Tryz.prog 122 = true := by rfl
theorem canCall_123 : canCall Tryz.prog 123 = true := by rfl
theorem canCall_124 : canCall Tryz.prog 124 = true := by rfl
theorem canCall_125 : canCall Tryz.prog 125 = true := by rfl
theorem canCall_126 : canCall Tryz.prog 126 = true := by rfl
theorem canCall_128 : canCall Tryz.prog 128 = true := by rfl
theorem canCall_129 : canCall Tryz.prog 129 = true := by rfl
theorem canCall_13 : canCall Tryz.prog 13 = true := by rfl
theorem canCall_130 : canCall Tryz.prog 130 = true := by rfl
theorem canCall_131 : canCall Tryz.prog 131 = true := by rfl
theorem canCall_132 : canCall Tryz.prog 132 = true := by rfl
theorem canCall_133 : canCall Tryz.prog 133 = true := by rfl
theorem canCall_134 : canCall Tryz.prog 134 = true := by rfl
theorem canCall_135 : canCall Tryz.prog 135 = true := by rfl
theorem canCall_136 : canCall Tryz.prog 136 = true := by rfl
theorem canCall_137 : canCall Tryz.prog 137 = true := by rfl
theorem canCall_138 : canCall Tryz.prog 138 = true := by rfl
theorem canCall_139 : canCall Tryz.prog 139 = true := by rfl
theorem canCall_14 : canCall Tryz.prog 14 = true := by rfl
theorem canCall_140 : canCall Tryz.prog 140 = true := by rfl
theorem canCall_141 : canCall Tryz.prog 141 = true := by rfl
theorem canCall_142 : canCall Tryz.prog 142 = true := by rfl
theorem canCall_143 : canCall Tryz.prog 143 = true := by rfl
theorem canCall_144 : canCall Tryz.prog 144 = true := by rfl
theorem canCall_145 : canCall Tryz.prog 145 = true := by rfl
theorem canCall_146 : canCall Tryz.prog 146 = true := by rfl
theorem canCall_147 : canCall Tryz.prog 147 = true := by rfl
theorem canCall_148 : canCall Tryz.prog 148 = true := by rfl
theorem canCall_149 : canCall Tryz.prog 149 = true := by rfl
theorem canCall_15 : canCall Tryz.prog 15 = true := by rfl
theorem canCall_150 : canCall Tryz.prog 150 = true := by rfl
theorem canCall_151 : canCall Tryz.prog 151 = true := by rfl
theorem canCall_152 : canCall Tryz.prog 152 = true := by rfl
theorem canCall_153 : canCall Tryz.prog 153 = true := by rfl
theorem canCall_154 : canCall Tryz.prog 154 = true := by rfl
theorem canCall_155 : canCall Tryz.prog 155 = true := by rfl
theorem canCall_156 : canCall Tryz.prog 156 = true := by rfl
theorem canCall_157 : canCall Tryz.prog 157 = true := by rfl
theorem canCall_158 : canCall Tryz.prog 158 = true := by rfl
theorem canCall_159 : canCall Tryz.prog 159 = true := by rfl
theorem canCall_16 : canCall Tryz.prog 16 = true := by rfl
theorem canCall_160 : canCall Tryz.prog 160 = true := by rfl
theorem canCall_161 : canCall Tryz.prog 161 = true := by rfl
theorem canCall_162 : canCall Tryz.prog 162 = true := by rfl
theorem canCall_163 : canCall Tryz.prog 163 = true := by rfl
theorem canCall_164 : canCall Tryz.prog 164 = true := by rfl
theorem canCall_165 : canCall Tryz.prog 165 = true := by rfl
theorem canCall_166 : canCall Tryz.prog 166 = true := by rfl
theorem canCall_167 : canCall Tryz.prog 167 = true := by rfl
theorem canCall_168 : canCall Tryz.prog 168 = true := by rfl
theorem canCall_169 : canCall Tryz.prog 169 = true := by rfl
theorem canCall_17 : canCall Tryz.prog 17 = true := by rfl
theorem canCall_170 : canCall Tryz.prog 170 = true := by rfl
theorem canCall_171 : canCall Tryz.prog 171 = true := by rfl
theorem canCall_172 : canCall Tryz.prog 172 = true := by rfl
theorem canCall_173 : canCall Tryz.prog 173 = true := by rfl
theorem canCall_174 : canCall Tryz.prog 174 = true := by rfl
theorem canCall_175 : canCall Tryz.prog 175 = true := by rfl
theorem canCall_176 : canCall Tryz.prog 176 = true := by rfl
theorem canCall_177 : canCall Tryz.prog 177 = true := by rfl
theorem canCall_178 : canCall Tryz.prog 178 = true := by rfl
theorem canCall_179 : canCall Tryz.prog 179 = true := by rfl
theorem canCall_18 : canCall Tryz.prog 18 = true := by rfl
theorem canCall_180 : canCall Tryz.prog 180 = true := by rfl
theorem canCall_181 : canCall Tryz.prog 181 = true := by rfl
theorem canCall_19 : canCall Tryz.prog 19 = true := by rfl
theorem canCall_20 : canCall Tryz.prog 20 = true := by rfl
theorem canCall_21 : canCall Tryz.prog 21 = true := by rfl
theorem canCall_22 : canCall Tryz.prog 22 = true := by rfl
theorem canCall_23 : canCall Tryz.prog 23 = true := by rfl
theorem canCall_24 : canCall Tryz.prog 24 = true := by rfl
theorem canCall_25 : canCall Tryz.prog 25 = true := by rfl
theorem canCall_26 : canCall Tryz.prog 26 = true := by rfl
theorem canCall_27 : canCall Tryz.prog 27 = true := by rfl
theorem canCall_28 : canCall Tryz.prog 28 = true := by rfl
theorem canCall_29 : canCall Tryz.prog 29 = true := by rfl
theorem canCall_30 : canCall Tryz.prog 30 = true := by rfl
theorem canCall_31 : canCall Tryz.prog 31 = true := by rfl
theorem canCall_32 : canCall Tryz.prog 32 = true := by rfl
theorem canCall_33 : canCall Tryz.prog 33 = true := by rfl
theorem canCall_34 : canCall Tryz.prog 34 = true := by rfl
theorem canCall_35 : canCall Tryz.prog 35 = true := by rfl
theorem canCall_36 : canCall Tryz.prog 36 = true := by rfl
theorem canCall_37 : canCall Tryz.prog 37 = true := by rfl
theorem canCall_38 : canCall Tryz.prog 38 = true := by rfl
theorem canCall_39 : canCall Tryz.prog 39 = true := by rfl
theorem canCall_40 : canCall Tryz.prog 40 = true := by rfl
theorem canCall_41 : canCall Tryz.prog 41 = true := by rfl
theorem canCall_42 : canCall Tryz.prog 42 = true := by rfl
theorem canCall_43 : canCall Tryz.prog 43 = true := by rfl
theorem canCall_44 : canCall Tryz.prog 44 = true := by rfl
theorem canCall_45 : canCall Tryz.prog 45 = true := by rfl
theorem canCall_47 : canCall Tryz.prog 47 = true := by rfl
theorem canCall_49 : canCall Tryz.prog 49 = true := by rfl
theorem canCall_50 : canCall Tryz.prog 50 = true := by rfl
theorem canCall_51 : canCall Tryz.prog 51 = true := by rfl
theorem canCall_52 : canCall Tryz.prog 52 = true := by rfl
theorem canCall_53 : canCall Tryz.prog 53 = true := by rfl
theorem canCall_54 : canCall Tryz.prog 54 = true := by rfl
theorem canCall_55 : canCall Tryz.prog 55 = true := by rfl
theorem canCall_56 : canCall Tryz.prog 56 = true := by rfl
theorem canCall_57 : canCall Tryz.prog 57 = true := by rfl
theorem canCall_58 : canCall Tryz.prog 58 = true := by rfl
theorem canCall_59 : canCall Tryz.prog 59 = true := by rfl
theorem canCall_60 : canCall Tryz.prog 60 = true := by rfl
theorem canCall_61 : canCall Tryz.prog 61 = true := by rfl
theorem canCall_62 : canCall Tryz.prog 62 = true := by rfl
theorem canCall_63 : canCall Tryz.prog 63 = true := by rfl
theorem canCall_64 : canCall Tryz.prog 64 = true := by rfl
theorem canCall_65 : canCall Tryz.prog 65 = true := by rfl
theorem canCall_66 : canCall Tryz.prog 66 = true := by rfl
theorem canCall_67 : canCall Tryz.prog 67 = true := by rfl
theorem canCall_68 : canCall Tryz.prog 68 = true := by rfl
theorem canCall_69 : canCall Tryz.prog 69 = true := by rfl
theorem canCall_70 : canCall Tryz.prog 70 = true := by rfl
theorem canCall_71 : canCall Tryz.prog 71 = true := by rfl
theorem canCall_72 : canCall Tryz.prog 72 = true := by rfl
theorem canCall_73 : canCall Tryz.prog 73 = true := by rfl
theorem canCall_74 : canCall Tryz.prog 74 = true := by rfl
theorem canCall_75 : canCall Tryz.prog 75 = true := by rfl
theorem canCall_76 : canCall Tryz.prog 76 = true := by rfl
theorem canCall_77 : canCall Tryz.prog 77 = true := by rfl
theorem canCall_78 : canCall Tryz.prog 78 = true := by rfl
theorem canCall_79 : canCall Tryz.prog 79 = true := by rfl
theorem canCall_8 : canCall Tryz.prog 8 = true := by rfl
theorem canCall_81 : canCall Tryz.prog 81 = true := by rfl
theorem canCall_82 : canCall Tryz.prog 82 = true := by rfl
theorem canCall_83 : canCall Tryz.prog 83 = true := by rfl
theorem canCall_84 : canCall Tryz.prog 84 = true := by rfl
theorem canCall_85 : canCall Tryz.prog 85 = true := by rfl
theorem canCall_87 : canCall Tryz.prog 87 = true := by rfl
theorem canCall_88 : canCall Tryz.prog 88 = true := by rfl
theorem canCall_89 : canCall Tryz.prog 89 = true := by rfl
theorem canCall_9 : canCall Tryz.prog 9 = true := by rfl
theorem canCall_90 : canCall Tryz.prog 90 = true := by rfl
theorem canCall_91 : canCall Tryz.prog 91 = true := by rfl
theorem canCall_92 : canCall Tryz.prog 92 = true := by rfl
theorem canCall_93 : canCall Tryz.prog 93 = true := by rfl
theorem canCall_94 : canCall Tryz.prog 94 = true := by rfl
theorem canCall_95 : canCall Tryz.prog 95 = true := by rfl
theorem canCall_96 : canCall Tryz.prog 96 = true := by rfl
theorem canCall_97 : canCall Tryz.prog 97 = true := by rfl
theorem canCall_98 : canCall Tryz.prog 98 = true := by rfl
theorem canCall_99 : canCall Tryz.prog 99 = true := by rfl
theorem tAgg_123 : tAgg Tryz.prog 123 = some true := by rfl
theorem tAgg_126 : tAgg Tryz.prog 126 = some true := by rfl
theorem tAgg_201 : tAgg Tryz.prog 201 = some false := by rfl
theorem tAgg_22 : tAgg Tryz.prog 22 = some false := by rfl
theorem tAgg_23 : tAgg Tryz.prog 23 = some false := by rfl
theorem tAgg_24 : tAgg Tryz.prog 24 = some false := by rfl
theorem tAgg_26 : tAgg Tryz.prog 26 = some true := by rfl
theorem tAgg_3 : tAgg Tryz.prog 3 = some false := by rfl
theorem tAgg_32 : tAgg Tryz.prog 32 = some false := by rfl
theorem tAgg_34 : tAgg Tryz.prog 34 = some true := by rfl
theorem tAgg_38 : tAgg Tryz.prog 38 = some true := by rfl
theorem tAgg_4 : tAgg Tryz.prog 4 = some false := by rfl
theorem tAgg_44 : tAgg Tryz.prog 44 = some false := by rfl
theorem tAgg_51 : tAgg Tryz.prog 51 = some false := by rfl
theorem tAgg_52 : tAgg Tryz.prog 52 = some false := by rfl
theorem tAgg_54 : tAgg Tryz.prog 54 = some true := by rfl
theorem tAgg_55 : tAgg Tryz.prog 55 = some false := by rfl
theorem tAgg_57 : tAgg Tryz.prog 57 = some true := by rfl
theorem tAgg_59 : tAgg Tryz.prog 59 = some true := by rfl
theorem tAgg_65 : tAgg Tryz.prog 65 = some true := by rfl
theorem tAgg_68 : tAgg Tryz.prog 68 = some false := by rfl
theorem tAgg_70 : tAgg Tryz.prog 70 = some true := by rfl
theorem tAgg_72 : tAgg Tryz.prog 72 = some false := by rfl
theorem tAgg_73 : tAgg Tryz.prog 73 = some false := by rfl
theorem tAgg_86 : tAgg Tryz.prog 86 = some true := by rfl
theorem tAgg_9 : tAgg Tryz.prog 9 = some false := by rfl
theorem tAgg_90 : tAgg Tryz.prog 90 = some false := by rfl
theorem tAgg_92 : tAgg Tryz.prog 92 = some true := by rfl
theorem tAgg_96 : tAgg Tryz.prog 96 = some false := by rfl
theorem tArr1_126 : tArr1 Tryz.prog 126 = some 10 := by rfl
theorem tArr1_9 : tArr1 Tryz.prog 9 = none := by rfl
theorem tBytes_123 : tBytes Tryz.prog 123 = some 64 := by rfl
theorem tBytes_145 : tBytes Tryz.prog 145 = some 32 := by rfl
theorem tBytes_22 : tBytes Tryz.prog 22 = some 24 := by rfl
theorem tBytes_3 : tBytes Tryz.prog 3 = some 8 := by rfl
theorem tBytes_5 : tBytes Tryz.prog 5 = some 1 := by rfl
theorem tBytes_51 : tBytes Tryz.prog 51 = some 4 := by rfl
theorem tBytes_54 : tBytes Tryz.prog 54 = some 64 := by rfl
theorem tBytes_57 : tBytes Tryz.prog 57 = some 96 := by rfl
theorem tBytes_59 : tBytes Tryz.prog 59 = some 96 := by rfl
theorem tBytes_65 : tBytes Tryz.prog 65 = some 24 := by rfl
theorem tBytes_70 : tBytes Tryz.prog 70 = some 56 := by rfl
theorem tBytes_9 : tBytes Tryz.prog 9 = some 16 := by rfl
theorem tBytes_92 : tBytes Tryz.prog 92 = some 96 := by rfl
theorem tElem_142 : tElem Tryz.prog 142 = some 145 := by rfl
theorem tElem_183 : tElem Tryz.prog 183 = some 22 := by rfl
theorem tElem_22 : tElem Tryz.prog 22 = some 9 := by rfl
theorem tElem_23 : tElem Tryz.prog 23 = some 65 := by rfl
theorem tElem_24 : tElem Tryz.prog 24 = some 59 := by rfl
theorem tElem_32 : tElem Tryz.prog 32 = some 70 := by rfl
theorem tElem_35 : tElem Tryz.prog 35 = none := by rfl
theorem tElem_44 : tElem Tryz.prog 44 = some 3 := by rfl
theorem tElem_52 : tElem Tryz.prog 52 = some 54 := by rfl
theorem tElem_55 : tElem Tryz.prog 55 = some 57 := by rfl
theorem tElem_68 : tElem Tryz.prog 68 = some 92 := by rfl
theorem tElem_72 : tElem Tryz.prog 72 = some 51 := by rfl
theorem tElem_73 : tElem Tryz.prog 73 = some 5 := by rfl
theorem tElem_90 : tElem Tryz.prog 90 = some 123 := by rfl
theorem tField_108_0 : tField Tryz.prog 108 0 = some (0, 3) := by rfl
theorem tField_123_0 : tField Tryz.prog 123 0 = some (0, 3) := by rfl
theorem tField_123_1 : tField Tryz.prog 123 1 = some (1, 3) := by rfl
theorem tField_123_2 : tField Tryz.prog 123 2 = some (2, 51) := by rfl
theorem tField_123_3 : tField Tryz.prog 123 3 = some (3, 3) := by rfl
theorem tField_123_4 : tField Tryz.prog 123 4 = some (4, 3) := by rfl
theorem tField_123_5 : tField Tryz.prog 123 5 = some (5, 90) := by rfl
theorem tField_135_0 : tField Tryz.prog 135 0 = some (0, 9) := by rfl
theorem tField_135_1 : tField Tryz.prog 135 1 = some (1, 3) := by rfl
theorem tField_135_2 : tField Tryz.prog 135 2 = some (2, 3) := by rfl
theorem tField_145_0 : tField Tryz.prog 145 0 = some (0, 9) := by rfl
theorem tField_145_1 : tField Tryz.prog 145 1 = some (1, 3) := by rfl
theorem tField_145_2 : tField Tryz.prog 145 2 = some (2, 3) := by rfl
theorem tField_26_0 : tField Tryz.prog 26 0 = some (0, 22) := by rfl
theorem tField_26_1 : tField Tryz.prog 26 1 = some (1, 23) := by rfl
theorem tField_26_2 : tField Tryz.prog 26 2 = some (2, 24) := by rfl
theorem tField_34_0 : tField Tryz.prog 34 0 = some (0, 3) := by rfl
theorem tField_34_1 : tField Tryz.prog 34 1 = some (1, 32) := by rfl
theorem tField_38_0 : tField Tryz.prog 38 0 = some (0, 3) := by rfl
theorem tField_38_1 : tField Tryz.prog 38 1 = some (1, 9) := by rfl
theorem tField_38_2 : tField Tryz.prog 38 2 = some (2, 3) := by rfl
theorem tField_54_0 : tField Tryz.prog 54 0 = some (0, 3) := by rfl
theorem tField_54_1 : tField Tryz.prog 54 1 = some (1, 3) := by rfl
theorem tField_54_2 : tField Tryz.prog 54 2 = some (2, 51) := by rfl
theorem tField_54_3 : tField Tryz.prog 54 3 = some (3, 9) := by rfl
theorem tField_54_4 : tField Tryz.prog 54 4 = some (4, 52) := by rfl
theorem tField_57_0 : tField Tryz.prog 57 0 = some (0, 3) := by rfl
theorem tField_57_1 : tField Tryz.prog 57 1 = some (1, 9) := by rfl
theorem tField_57_2 : tField Tryz.prog 57 2 = some (2, 52) := by rfl
theorem tField_57_3 : tField Tryz.prog 57 3 = some (3, 55) := by rfl
theorem tField_57_4 : tField Tryz.prog 57 4 = some (4, 55) := by rfl
theorem tField_59_0 : tField Tryz.prog 59 0 = some (0, 9) := by rfl
theorem tField_59_1 : tField Tryz.prog 59 1 = some (1, 22) := by rfl
theorem tField_59_2 : tField Tryz.prog 59 2 = some (2, 22) := by rfl
theorem tField_59_3 : tField Tryz.prog 59 3 = some (3, 4) := by rfl
theorem tField_59_4 : tField Tryz.prog 59 4 = some (4, 55) := by rfl
theorem tField_65_0 : tField Tryz.prog 65 0 = some (0, 9) := by rfl
theorem tField_65_1 : tField Tryz.prog 65 1 = some (1, 3) := by rfl
theorem tField_70_0 : tField Tryz.prog 70 0 = some (0, 3) := by rfl
theorem tField_70_1 : tField Tryz.prog 70 1 = some (1, 3) := by rfl
theorem tField_70_2 : tField Tryz.prog 70 2 = some (2, 3) := by rfl
theorem tField_70_3 : tField Tryz.prog 70 3 = some (3, 4) := by rfl
theorem tField_70_4 : tField Tryz.prog 70 4 = some (4, 68) := by rfl
theorem tField_75_0 : tField Tryz.prog 75 0 = some (0, 34) := by rfl
theorem tField_75_1 : tField Tryz.prog 75 1 = some (2, 9) := by rfl
theorem tField_75_2 : tField Tryz.prog 75 2 = some (3, 3) := by rfl
theorem tField_75_3 : tField Tryz.prog 75 3 = some (4, 3) := by rfl
theorem tField_75_4 : tField Tryz.prog 75 4 = some (5, 72) := by rfl
theorem tField_75_5 : tField Tryz.prog 75 5 = some (6, 73) := by rfl
theorem tField_80_0 : tField Tryz.prog 80 0 = some (0, 26) := by rfl
theorem tField_80_1 : tField Tryz.prog 80 1 = some (3, 3) := by rfl
theorem tField_80_2 : tField Tryz.prog 80 2 = some (4, 44) := by rfl
theorem tField_80_3 : tField Tryz.prog 80 3 = some (5, 44) := by rfl
theorem tField_86_0 : tField Tryz.prog 86 0 = some (0, 34) := by rfl
theorem tField_86_1 : tField Tryz.prog 86 1 = some (2, 3) := by rfl
theorem tField_92_0 : tField Tryz.prog 92 0 = some (0, 3) := by rfl
theorem tField_92_1 : tField Tryz.prog 92 1 = some (1, 3) := by rfl
theorem tField_92_2 : tField Tryz.prog 92 2 = some (2, 3) := by rfl
theorem tField_92_3 : tField Tryz.prog 92 3 = some (3, 90) := by rfl
theorem tField_92_4 : tField Tryz.prog 92 4 = some (4, 68) := by rfl
theorem tField_92_5 : tField Tryz.prog 92 5 = some (5, 68) := by rfl
theorem tField_98_0 : tField Tryz.prog 98 0 = some (0, 26) := by rfl
theorem tField_98_1 : tField Tryz.prog 98 1 = some (3, 4) := by rfl
theorem tPlaces_108 : tPlaces Tryz.prog 108 = some [(0, 1)] := by rfl
theorem tPlaces_123 : tPlaces Tryz.prog 123 = some [(0, 1), (1, 1), (2, 1), (3, 1), (4, 1), (5, 1)] := by rfl
theorem tPlaces_126 : tPlaces Tryz.prog 126 = some [(0, 1), (1, 1), (2, 1), (3, 1), (4, 1), (5, 1), (6, 1), (7, 1), (8, 1), (9, 1)] := by rfl
theorem tPlaces_135 : tPlaces Tryz.prog 135 = some [(0, 1), (1, 1), (2, 1)] := by rfl
theorem tPlaces_145 : tPlaces Tryz.prog 145 = some [(0, 1), (1, 1), (2, 1)] := by rfl
theorem tPlaces_162 : tPlaces Tryz.prog 162 = some [(0, 1), (1, 1), (2, 1), (3, 1), (4, 1), (5, 1), (6, 1), (7, 1), (8, 1), (9, 1)] := by rfl
theorem tPlaces_26 : tPlaces Tryz.prog 26 = some [(0, 1), (1, 1), (2, 1)] := by rfl
theorem tPlaces_34 : tPlaces Tryz.prog 34 = some [(0, 1), (1, 1)] := by rfl
theorem tPlaces_38 : tPlaces Tryz.prog 38 = some [(0, 1), (1, 1), (2, 1)] := by rfl
theorem tPlaces_54 : tPlaces Tryz.prog 54 = some [(0, 1), (1, 1), (2, 1), (3, 1), (4, 1)] := by rfl
theorem tPlaces_57 : tPlaces Tryz.prog 57 = some [(0, 1), (1, 1), (2, 1), (3, 1), (4, 1)] := by rfl
theorem tPlaces_59 : tPlaces Tryz.prog 59 = some [(0, 1), (1, 1), (2, 1), (3, 1), (4, 1)] := by rfl
theorem tPlaces_70 : tPlaces Tryz.prog 70 = some [(0, 1), (1, 1), (2, 1), (3, 1), (4, 1)] := by rfl
theorem tPlaces_75 : tPlaces Tryz.prog 75 = some [(0, 2), (2, 1), (3, 1), (4, 1), (5, 1), (6, 1)] := by rfl
theorem tPlaces_80 : tPlaces Tryz.prog 80 = some [(0, 3), (3, 1), (4, 1), (5, 1)] := by rfl
theorem tPlaces_86 : tPlaces Tryz.prog 86 = some [(0, 2), (2, 1)] := by rfl
theorem tPlaces_92 : tPlaces Tryz.prog 92 = some [(0, 1), (1, 1), (2, 1), (3, 1), (4, 1), (5, 1)] := by rfl
theorem tPlaces_98 : tPlaces Tryz.prog 98 = some [(0, 3), (3, 1)] := by rfl
theorem tSize_123 : tSize Tryz.prog 123 = some 6 := by rfl
theorem tSize_126 : tSize Tryz.prog 126 = some 10 := by rfl
theorem tSize_145 : tSize Tryz.prog 145 = some 3 := by rfl
theorem tSize_162 : tSize Tryz.prog 162 = some 10 := by rfl
theorem tSize_201 : tSize Tryz.prog 201 = some 1 := by rfl
theorem tSize_22 : tSize Tryz.prog 22 = some 1 := by rfl
theorem tSize_23 : tSize Tryz.prog 23 = some 1 := by rfl
theorem tSize_24 : tSize Tryz.prog 24 = some 1 := by rfl
theorem tSize_26 : tSize Tryz.prog 26 = some 3 := by rfl
theorem tSize_3 : tSize Tryz.prog 3 = some 1 := by rfl
theorem tSize_32 : tSize Tryz.prog 32 = some 1 := by rfl
theorem tSize_34 : tSize Tryz.prog 34 = some 2 := by rfl
theorem tSize_38 : tSize Tryz.prog 38 = some 3 := by rfl
theorem tSize_4 : tSize Tryz.prog 4 = some 1 := by rfl
theorem tSize_44 : tSize Tryz.prog 44 = some 1 := by rfl
theorem tSize_5 : tSize Tryz.prog 5 = some 1 := by rfl
theorem tSize_51 : tSize Tryz.prog 51 = some 1 := by rfl
theorem tSize_52 : tSize Tryz.prog 52 = some 1 := by rfl
theorem tSize_54 : tSize Tryz.prog 54 = some 5 := by rfl
theorem tSize_55 : tSize Tryz.prog 55 = some 1 := by rfl
theorem tSize_57 : tSize Tryz.prog 57 = some 5 := by rfl
theorem tSize_59 : tSize Tryz.prog 59 = some 5 := by rfl
theorem tSize_65 : tSize Tryz.prog 65 = some 2 := by rfl
theorem tSize_68 : tSize Tryz.prog 68 = some 1 := by rfl
theorem tSize_70 : tSize Tryz.prog 70 = some 5 := by rfl
theorem tSize_72 : tSize Tryz.prog 72 = some 1 := by rfl
theorem tSize_73 : tSize Tryz.prog 73 = some 1 := by rfl
theorem tSize_86 : tSize Tryz.prog 86 = some 3 := by rfl
theorem tSize_9 : tSize Tryz.prog 9 = some 1 := by rfl
theorem tSize_90 : tSize Tryz.prog 90 = some 1 := by rfl
theorem tSize_92 : tSize Tryz.prog 92 = some 6 := by rfl
theorem tSize_96 : tSize Tryz.prog 96 = some 1 := by rfl
theorem zeroPV_108 : zeroPV Tryz.prog 108 = some [PV.val (Value.int IntKind.i64 (0))] := by rfl
theorem zeroPV_123 : zeroPV Tryz.prog 123 = some [PV.val (Value.int IntKind.i64 (0)), PV.val (Value.int IntKind.i64 (0)), PV.val (Value.int IntKind.u32 (0)), PV.val (Value.int IntKind.i64 (0)), PV.val (Value.int IntKind.i64 (0)), PV.nils] := by rfl
theorem zeroPV_126 : zeroPV Tryz.prog 126 = some [PV.val Value.nilFunc, PV.val Value.nilFunc, PV.val Value.nilFunc, PV.val Value.nilFunc, PV.val Value.nilFunc, PV.val Value.nilFunc, PV.val Value.nilFunc, PV.val Value.nilFunc, PV.val Value.nilFunc, PV.val Value.nilFunc] := by rfl
theorem zeroPV_135 : zeroPV Tryz.prog 135 = some [PV.val (Value.string ByteArray.empty), PV.val (Value.int IntKind.i64 (0)), PV.val (Value.int IntKind.i64 (0))] := by rfl
theorem zeroPV_145 : zeroPV Tryz.prog 145 = some [PV.val (Value.string ByteArray.empty), PV.val (Value.int IntKind.i64 (0)), PV.val (Value.int IntKind.i64 (0))] := by rfl
theorem zeroPV_162 : zeroPV Tryz.prog 162 = some [PV.val (Value.string ByteArray.empty), PV.val (Value.string ByteArray.empty), PV.val (Value.string ByteArray.empty), PV.val (Value.string ByteArray.empty), PV.val (Value.string ByteArray.empty), PV.val (Value.string ByteArray.empty), PV.val (Value.string ByteArray.empty), PV.val (Value.string ByteArray.empty), PV.val (Value.string ByteArray.empty), PV.val (Value.string ByteArray.empty)] := by rfl
theorem zeroPV_201 : zeroPV Tryz.prog 201 = some [PV.val (Value.int IntKind.u64 (0))] := by rfl
theorem zeroPV_22 : zeroPV Tryz.prog 22 = some [PV.nils] := by rfl
theorem zeroPV_26 : zeroPV Tryz.prog 26 = some [PV.nils, PV.nils, PV.nils] := by rfl
theorem zeroPV_3 : zeroPV Tryz.prog 3 = some [PV.val (Value.int IntKind.i64 (0))] := by rfl
theorem zeroPV_34 : zeroPV Tryz.prog 34 = some [PV.val (Value.int IntKind.i64 (0)), PV.nils] := by rfl
theorem zeroPV_38 : zeroPV Tryz.prog 38 = some [PV.val (Value.int IntKind.i64 (0)), PV.val (Value.string ByteArray.empty), PV.val (Value.int IntKind.i64 (0))] := by rfl
theorem zeroPV_4 : zeroPV Tryz.prog 4 = some [PV.val (Value.bool false)] := by rfl
theorem zeroPV_5 : zeroPV Tryz.prog 5 = some [PV.val (Value.int IntKind.u8 (0))] := by rfl
theorem zeroPV_51 : zeroPV Tryz.prog 51 = some [PV.val (Value.int IntKind.u32 (0))] := by rfl
theorem zeroPV_54 : zeroPV Tryz.prog 54 = some [PV.val (Value.int IntKind.i64 (0)), PV.val (Value.int IntKind.i64 (0)), PV.val (Value.int IntKind.u32 (0)), PV.val (Value.string ByteArray.empty), PV.nils] := by rfl
theorem zeroPV_57 : zeroPV Tryz.prog 57 = some [PV.val (Value.int IntKind.i64 (0)), PV.val (Value.string ByteArray.empty), PV.nils, PV.nils, PV.nils] := by rfl
theorem zeroPV_59 : zeroPV Tryz.prog 59 = some [PV.val (Value.string ByteArray.empty), PV.nils, PV.nils, PV.val (Value.bool false), PV.nils] := by rfl
theorem zeroPV_65 : zeroPV Tryz.prog 65 = some [PV.val (Value.string ByteArray.empty), PV.val (Value.int IntKind.i64 (0))] := by rfl
theorem zeroPV_70 : zeroPV Tryz.prog 70 = some [PV.val (Value.int IntKind.i64 (0)), PV.val (Value.int IntKind.i64 (0)), PV.val (Value.int IntKind.i64 (0)), PV.val (Value.bool false), PV.nils] := by rfl
theorem zeroPV_75 : zeroPV Tryz.prog 75 = some [PV.val (Value.int IntKind.i64 (0)), PV.nils, PV.val (Value.string ByteArray.empty), PV.val (Value.int IntKind.i64 (0)), PV.val (Value.int IntKind.i64 (0)), PV.nils, PV.nils] := by rfl
theorem zeroPV_80 : zeroPV Tryz.prog 80 = some [PV.nils, PV.nils, PV.nils, PV.val (Value.int IntKind.i64 (0)), PV.nils, PV.nils] := by rfl
theorem zeroPV_86 : zeroPV Tryz.prog 86 = some [PV.val (Value.int IntKind.i64 (0)), PV.nils, PV.val (Value.int IntKind.i64 (0))] := by rfl
theorem zeroPV_9 : zeroPV Tryz.prog 9 = some [PV.val (Value.string ByteArray.empty)] := by rfl
theorem zeroPV_92 : zeroPV Tryz.prog 92 = some [PV.val (Value.int IntKind.i64 (0)), PV.val (Value.int IntKind.i64 (0)), PV.val (Value.int IntKind.i64 (0)), PV.nils, PV.nils, PV.nils] := by rfl
theorem zeroPV_98 : zeroPV Tryz.prog 98 = some [PV.nils, PV.nils, PV.nils, PV.val (Value.bool false)] := by rfl
theorem mixed : Tryz.prog.follows .mixedOrders = true := by rfl
end Go.Proofs.YtaackmiajgapoaaGreatDoor.V

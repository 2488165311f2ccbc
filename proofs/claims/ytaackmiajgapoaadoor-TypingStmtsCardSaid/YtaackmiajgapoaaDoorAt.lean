/- The walk's lemmas, as one set. -/
import Derived.Test.YtaackmiajgapoaaDoorD1
namespace Go.Proofs.YtaackmiajgapoaaDoor.V
open Go
attribute [go_sem]
  vCode_skip vIf_true vIf_false vCode_cond vCode_loop vCode_draw vCode_region vCode_seq vCode_block vCode_exit vCode_ret vList
  vOp pureK changeK vCallN vCallG tab_nil pureP vD vDOp rOf isPop bare
  bareT vLoadOp settle vMove vPick vBin vUn vConv vNil vFieldAddr vIndexAddr vLoad
  vLen vField vIndex vExtract vSlice vAlloc vBox vStore vBuild vBuildSlice vAppend vMakeFunc
  newVar vCallOp look under VS.ev okOp VR.ok VR.bad ofConst okVal andG impG
  onG ung bnd moveBy rowCells binT binV pickPV_t pickPV_f pickPV_b thenQ blockQ
  bodyQ retK cellsOk resPre resPVs resVR cvs cv onePV VS.put okDst initVS
  callK guardOf hdVS overF upd_at okStore setE treeV okCell wholeC cellsPV setL
  isPlain isTree asSlice okParts partsPV zipParts fillPV appendPre chunk cond_true cond_false Bool.false_eq_true
  List.getD_cons_zero List.getD_cons_succ List.getD_nil List.length_cons List.length_nil List.lookup_cons List.lookup_nil List.map_cons List.map_nil List.all_cons List.all_nil List.drop_zero
  List.drop_succ_cons List.take_zero List.take_succ_cons List.take_nil List.drop_nil List.set_cons_zero List.set_cons_succ List.append_nil List.cons_append List.nil_append List.zip_cons_cons List.zip_nil_left
  List.contains_cons List.contains_nil List.getElem?_cons_zero List.getElem?_cons_succ List.mem_cons List.not_mem_nil forall_eq_or_imp forall_eq List.getElem?_nil Option.bind_some Option.bind_none Option.getD_some
  Option.getD_none Option.map_some Option.map_none true_and and_true and_self forall_const implies_true false_implies imp_self Bool.true_and Bool.and_true
  Bool.or_false Bool.false_or Bool.and_self Bool.not_true Bool.not_false beq_self_eq_true Bool.or_true Bool.true_or decide_true decide_false forall_false or_false
  false_or true_or or_true not_true_eq_false not_false_eq_true if_true if_false ne_eq isPtr Option.some.injEq Option.isSome_some Option.isSome_none
  decide_eq_true_eq decide_eq_false_iff_not List.length_map Int.ofNat_lt Int.ofNat_le Int.toNat_natCast Int.natCast_nonneg Int.natCast_inj getD_mapD encF encA encE_eq
  encS_eq Bool.cond_true_left Bool.cond_false_right Bool.cond_true_right Bool.cond_false_left VEnd.ret.injEq PV.val.injEq Value.bool.injEq Value.int.injEq Value.string.injEq range_0 range_1
  range_2 range_3 range_4 range_5 range_6 range_7 range_8 range_9 range_10 range_11 range_12 range_13
  range_14 range_15 range_16 range_17 range_18 range_19 range_20 range_21 range_22 range_23 range_24 range_25
  List.replicate_succ List.replicate_zero size_mk List.size_toArray maxLen_eq encT_getD encT_length beq_true beq_false Bool.not_not lit_eq_0 lit_lt_0
  lit_gt_0 lit_le_0 lit_ge_0 lit_eq_1 lit_lt_1 lit_gt_1 lit_le_1 lit_ge_1 lit_eq_2 lit_lt_2 lit_gt_2 lit_le_2
  lit_ge_2 lit_eq_3 lit_lt_3 lit_gt_3 lit_le_3 lit_ge_3 lit_eq_4 lit_lt_4 lit_gt_4 lit_le_4 lit_ge_4 lit_eq_5
  lit_lt_5 lit_gt_5 lit_le_5 lit_ge_5 lit_eq_6 lit_lt_6 lit_gt_6 lit_le_6 lit_ge_6 lit_eq_15 lit_lt_15 lit_gt_15
  lit_le_15 lit_ge_15 lit_eq_20 lit_lt_20 lit_gt_20 lit_le_20 lit_ge_20 lit_eq_24 lit_lt_24 lit_gt_24 lit_le_24 lit_ge_24
  lit_eq_30 lit_lt_30 lit_gt_30 lit_le_30 lit_ge_30 lit_eq_60 lit_lt_60 lit_gt_60 lit_le_60 lit_ge_60 lit_eq_64 lit_lt_64
  lit_gt_64 lit_le_64 lit_ge_64 lit_eq_70 lit_lt_70 lit_gt_70 lit_le_70 lit_ge_70 lit_eq_95 lit_lt_95 lit_gt_95 lit_le_95
  lit_ge_95 lit_eq_200 lit_lt_200 lit_gt_200 lit_le_200 lit_ge_200 Tryd.underlying104 Tryd.underlying118 Tryd.underlying119 Tryd.underlying128 Tryd.underlying149 Tryd.underlying168
  Tryd.underlying176 Tryd.underlying185 Tryd.underlying195 Tryd.underlying198 Tryd.underlying20 Tryd.underlying206 Tryd.underlying208 Tryd.underlying22 Tryd.underlying23 Tryd.underlying24 Tryd.underlying27 Tryd.underlying28
  Tryd.underlying3 Tryd.underlying36 Tryd.underlying4 Tryd.underlying43 Tryd.underlying5 Tryd.underlying53 Tryd.underlying63 Tryd.underlying87 Tryd.underlying88 Tryd.underlying9 canCall_10 canCall_100
  canCall_102 canCall_103 canCall_104 canCall_105 canCall_106 canCall_107 canCall_108 canCall_109 canCall_11 canCall_110 canCall_111 canCall_112
  canCall_113 canCall_114 canCall_115 canCall_116 canCall_117 canCall_118 canCall_119 canCall_12 canCall_120 canCall_121 canCall_122 canCall_123
  canCall_124 canCall_125 canCall_126 canCall_127 canCall_128 canCall_129 canCall_13 canCall_131 canCall_132 canCall_133 canCall_134 canCall_135
  canCall_136 canCall_137 canCall_138 canCall_139 canCall_14 canCall_140 canCall_141 canCall_142 canCall_143 canCall_144 canCall_145 canCall_146
  canCall_147 canCall_148 canCall_149 canCall_15 canCall_150 canCall_151 canCall_152 canCall_153 canCall_154 canCall_155 canCall_156 canCall_157
  canCall_158 canCall_159 canCall_16 canCall_160 canCall_161 canCall_162 canCall_163 canCall_164 canCall_165 canCall_166 canCall_167 canCall_168
  canCall_169 canCall_17 canCall_170 canCall_171 canCall_172 canCall_173 canCall_174 canCall_175 canCall_176 canCall_177 canCall_178 canCall_179
  canCall_18 canCall_180 canCall_181 canCall_182 canCall_19 canCall_20 canCall_21 canCall_22 canCall_23 canCall_24 canCall_25 canCall_26
  canCall_27 canCall_28 canCall_29 canCall_30 canCall_31 canCall_32 canCall_33 canCall_34 canCall_35 canCall_36 canCall_37 canCall_38
  canCall_39 canCall_40 canCall_41 canCall_42 canCall_43 canCall_44 canCall_45 canCall_46 canCall_49 canCall_50 canCall_51 canCall_52
  canCall_53 canCall_54 canCall_55 canCall_56 canCall_57 canCall_58 canCall_59 canCall_61 canCall_62 canCall_63 canCall_64 canCall_65
  canCall_66 canCall_67 canCall_68 canCall_69 canCall_70 canCall_71 canCall_72 canCall_73 canCall_74 canCall_75 canCall_76 canCall_77
  canCall_78 canCall_79 canCall_80 canCall_81 canCall_83 canCall_84 canCall_85 canCall_86 canCall_87 canCall_88 canCall_89 canCall_90
  canCall_92 canCall_93 canCall_94 canCall_95 canCall_97 canCall_98 canCall_99 tAgg_104 tAgg_119 tAgg_128 tAgg_189 tAgg_208
  tAgg_22 tAgg_23 tAgg_24 tAgg_26 tAgg_27 tAgg_28 tAgg_3 tAgg_30 tAgg_36 tAgg_4 tAgg_43 tAgg_45
  tAgg_47 tAgg_5 tAgg_53 tAgg_58 tAgg_63 tAgg_67 tAgg_87 tAgg_88 tAgg_9 tAgg_90 tArr1_104 tArr1_119
  tArr1_9 tBytes_189 tBytes_22 tBytes_30 tBytes_45 tBytes_47 tBytes_5 tBytes_58 tBytes_63 tBytes_9 tElem_182 tElem_185
  tElem_194 tElem_195 tElem_206 tElem_214 tElem_215 tElem_22 tElem_23 tElem_24 tElem_28 tElem_43 tElem_53 tElem_88
  tField_109_0 tField_109_1 tField_111_0 tField_142_0 tField_142_1 tField_142_2 tField_189_0 tField_189_1 tField_189_2 tField_189_3 tField_26_0 tField_26_1
  tField_26_2 tField_30_0 tField_30_1 tField_30_2 tField_30_3 tField_30_4 tField_45_0 tField_45_1 tField_45_2 tField_45_3 tField_45_4 tField_47_0
  tField_47_1 tField_47_2 tField_47_3 tField_47_4 tField_58_0 tField_58_1 tField_58_2 tField_58_3 tField_63_0 tField_63_1 tField_69_0 tField_69_1
  tField_90_0 tField_90_1 tField_92_0 tPlaces_104 tPlaces_109 tPlaces_111 tPlaces_142 tPlaces_189 tPlaces_26 tPlaces_30 tPlaces_45 tPlaces_47
  tPlaces_58 tPlaces_63 tPlaces_69 tPlaces_92 tSize_104 tSize_119 tSize_128 tSize_189 tSize_208 tSize_22 tSize_23 tSize_24
  tSize_26 tSize_27 tSize_28 tSize_3 tSize_30 tSize_36 tSize_4 tSize_43 tSize_45 tSize_47 tSize_5 tSize_53
  tSize_58 tSize_63 tSize_67 tSize_87 tSize_88 tSize_9 tSize_90 zeroPV_104 zeroPV_109 zeroPV_111 zeroPV_142 zeroPV_176
  zeroPV_189 zeroPV_195 zeroPV_208 zeroPV_22 zeroPV_26 zeroPV_3 zeroPV_30 zeroPV_36 zeroPV_4 zeroPV_45 zeroPV_47 zeroPV_5
  zeroPV_58 zeroPV_63 zeroPV_69 zeroPV_9 zeroPV_90 zeroPV_92
end Go.Proofs.YtaackmiajgapoaaDoor.V

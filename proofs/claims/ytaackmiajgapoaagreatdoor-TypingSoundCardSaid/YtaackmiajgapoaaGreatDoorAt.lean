/- The walk's lemmas, as one set. -/
import Derived.Test.YtaackmiajgapoaaGreatDoorD1
namespace Go.Proofs.YtaackmiajgapoaaGreatDoor.V
open Go
attribute [go_sem]
  vCode_skip vIf_true vIf_false vCode_cond vCode_loop vCode_draw vCode_region vCode_seq vCode_block vCode_exit vCode_ret vList
  vOp pureK changeK vCallN vCallG tab_nil pureP vD vDOp rOf isPop bare
  bareT vLoadOp settle vMove vPick vBin vUn vConv vNil vFieldAddr vIndexAddr vLoad
  vLen vField vIndex vExtract vSlice vAlloc vBox vStore vBuild vBuildSlice vAppend vMakeFunc
  newVar vCallOp look under VS.ev okOp VR.ok VR.bad ofConst okVal andG impG
  onG ung bnd moveBy rowCells binT binV pickPV_t pickPV_f pickPV_b thenQ blockQ
  bodyQ retK cellsOk resPre resPVs resVR cvs cv onePV VS.put okDst initVS
  callK guardOf hdVS overF upd_at okStore setE treeV okCell wholeC cellsPV setL
  isPlain isTree asSlice okParts partsPV zipParts fillPV appendPre chunk cond_true cond_false Bool.false_eq_true
  List.getD_cons_zero List.getD_cons_succ List.getD_nil List.length_cons List.length_nil List.lookup_cons List.lookup_nil List.map_cons List.map_nil List.all_cons List.all_nil List.drop_zero
  List.drop_succ_cons List.take_zero List.take_succ_cons List.take_nil List.drop_nil List.set_cons_zero List.set_cons_succ List.append_nil List.cons_append List.nil_append List.zip_cons_cons List.zip_nil_left
  List.contains_cons List.contains_nil List.getElem?_cons_zero List.getElem?_cons_succ List.mem_cons List.not_mem_nil forall_eq_or_imp forall_eq List.getElem?_nil Option.bind_some Option.bind_none Option.getD_some
  Option.getD_none Option.map_some Option.map_none true_and and_true and_self forall_const implies_true false_implies imp_self Bool.true_and Bool.and_true
  Bool.or_false Bool.false_or Bool.and_self Bool.not_true Bool.not_false beq_self_eq_true Bool.or_true Bool.true_or decide_true decide_false forall_false or_false
  false_or true_or or_true not_true_eq_false not_false_eq_true if_true if_false ne_eq isPtr Option.some.injEq Option.isSome_some Option.isSome_none
  decide_eq_true_eq decide_eq_false_iff_not List.length_map Int.ofNat_lt Int.ofNat_le Int.toNat_natCast Int.natCast_nonneg Int.natCast_inj getD_mapD encF encA encE_eq
  encS_eq Bool.cond_true_left Bool.cond_false_right Bool.cond_true_right Bool.cond_false_left VEnd.ret.injEq PV.val.injEq Value.bool.injEq Value.int.injEq Value.string.injEq range_0 range_1
  range_2 range_3 range_4 range_5 range_6 range_7 range_8 range_9 range_10 range_11 range_12 range_13
  range_14 range_15 range_16 range_17 range_18 range_19 range_20 range_21 range_22 range_23 range_24 range_25
  List.replicate_succ List.replicate_zero size_mk List.size_toArray maxLen_eq encT_getD encT_length beq_true beq_false Bool.not_not lit_eq_0 lit_lt_0
  lit_gt_0 lit_le_0 lit_ge_0 lit_eq_1 lit_lt_1 lit_gt_1 lit_le_1 lit_ge_1 lit_eq_2 lit_lt_2 lit_gt_2 lit_le_2
  lit_ge_2 lit_eq_3 lit_lt_3 lit_gt_3 lit_le_3 lit_ge_3 lit_eq_4 lit_lt_4 lit_gt_4 lit_le_4 lit_ge_4 lit_eq_5
  lit_lt_5 lit_gt_5 lit_le_5 lit_ge_5 lit_eq_6 lit_lt_6 lit_gt_6 lit_le_6 lit_ge_6 lit_eq_15 lit_lt_15 lit_gt_15
  lit_le_15 lit_ge_15 lit_eq_20 lit_lt_20 lit_gt_20 lit_le_20 lit_ge_20 lit_eq_24 lit_lt_24 lit_gt_24 lit_le_24 lit_ge_24
  lit_eq_30 lit_lt_30 lit_gt_30 lit_le_30 lit_ge_30 lit_eq_60 lit_lt_60 lit_gt_60 lit_le_60 lit_ge_60 lit_eq_64 lit_lt_64
  lit_gt_64 lit_le_64 lit_ge_64 lit_eq_70 lit_lt_70 lit_gt_70 lit_le_70 lit_ge_70 lit_eq_95 lit_lt_95 lit_gt_95 lit_le_95
  lit_ge_95 lit_eq_200 lit_lt_200 lit_gt_200 lit_le_200 lit_ge_200 Tryz.underlying126 Tryz.underlying142 Tryz.underlying162 Tryz.underlying182 Tryz.underlying183 Tryz.underlying190
  Tryz.underlying20 Tryz.underlying200 Tryz.underlying201 Tryz.underlying22 Tryz.underlying23 Tryz.underlying24 Tryz.underlying29 Tryz.underlying3 Tryz.underlying32 Tryz.underlying4 Tryz.underlying5 Tryz.underlying51
  Tryz.underlying52 Tryz.underlying55 Tryz.underlying68 Tryz.underlying72 Tryz.underlying73 Tryz.underlying9 Tryz.underlying90 canCall_1 canCall_10 canCall_100 canCall_101 canCall_102
  canCall_103 canCall_104 canCall_105 canCall_106 canCall_107 canCall_108 canCall_109 canCall_11 canCall_110 canCall_111 canCall_112 canCall_113
  canCall_114 canCall_115 canCall_117 canCall_118 canCall_119 canCall_12 canCall_120 canCall_121 canCall_122 canCall_123 canCall_124 canCall_125
  canCall_126 canCall_128 canCall_129 canCall_13 canCall_130 canCall_131 canCall_132 canCall_133 canCall_134 canCall_135 canCall_136 canCall_137
  canCall_138 canCall_139 canCall_14 canCall_140 canCall_141 canCall_142 canCall_143 canCall_144 canCall_145 canCall_146 canCall_147 canCall_148
  canCall_149 canCall_15 canCall_150 canCall_151 canCall_152 canCall_153 canCall_154 canCall_155 canCall_156 canCall_157 canCall_158 canCall_159
  canCall_16 canCall_160 canCall_161 canCall_162 canCall_163 canCall_164 canCall_165 canCall_166 canCall_167 canCall_168 canCall_169 canCall_17
  canCall_170 canCall_171 canCall_172 canCall_173 canCall_174 canCall_175 canCall_176 canCall_177 canCall_178 canCall_179 canCall_18 canCall_180
  canCall_181 canCall_19 canCall_20 canCall_21 canCall_22 canCall_23 canCall_24 canCall_25 canCall_26 canCall_27 canCall_28 canCall_29
  canCall_30 canCall_31 canCall_32 canCall_33 canCall_34 canCall_35 canCall_36 canCall_37 canCall_38 canCall_39 canCall_40 canCall_41
  canCall_42 canCall_43 canCall_44 canCall_45 canCall_47 canCall_49 canCall_50 canCall_51 canCall_52 canCall_53 canCall_54 canCall_55
  canCall_56 canCall_57 canCall_58 canCall_59 canCall_60 canCall_61 canCall_62 canCall_63 canCall_64 canCall_65 canCall_66 canCall_67
  canCall_68 canCall_69 canCall_70 canCall_71 canCall_72 canCall_73 canCall_74 canCall_75 canCall_76 canCall_77 canCall_78 canCall_79
  canCall_8 canCall_81 canCall_82 canCall_83 canCall_84 canCall_85 canCall_87 canCall_88 canCall_89 canCall_9 canCall_90 canCall_91
  canCall_92 canCall_93 canCall_94 canCall_95 canCall_96 canCall_97 canCall_98 canCall_99 tAgg_123 tAgg_126 tAgg_201 tAgg_22
  tAgg_23 tAgg_24 tAgg_26 tAgg_3 tAgg_32 tAgg_34 tAgg_38 tAgg_4 tAgg_44 tAgg_51 tAgg_52 tAgg_54
  tAgg_55 tAgg_57 tAgg_59 tAgg_65 tAgg_68 tAgg_70 tAgg_72 tAgg_73 tAgg_86 tAgg_9 tAgg_90 tAgg_92
  tAgg_96 tArr1_126 tArr1_9 tBytes_123 tBytes_145 tBytes_22 tBytes_3 tBytes_5 tBytes_51 tBytes_54 tBytes_57 tBytes_59
  tBytes_65 tBytes_70 tBytes_9 tBytes_92 tElem_142 tElem_183 tElem_22 tElem_23 tElem_24 tElem_32 tElem_35 tElem_44
  tElem_52 tElem_55 tElem_68 tElem_72 tElem_73 tElem_90 tField_108_0 tField_123_0 tField_123_1 tField_123_2 tField_123_3 tField_123_4
  tField_123_5 tField_135_0 tField_135_1 tField_135_2 tField_145_0 tField_145_1 tField_145_2 tField_26_0 tField_26_1 tField_26_2 tField_34_0 tField_34_1
  tField_38_0 tField_38_1 tField_38_2 tField_54_0 tField_54_1 tField_54_2 tField_54_3 tField_54_4 tField_57_0 tField_57_1 tField_57_2 tField_57_3
  tField_57_4 tField_59_0 tField_59_1 tField_59_2 tField_59_3 tField_59_4 tField_65_0 tField_65_1 tField_70_0 tField_70_1 tField_70_2 tField_70_3
  tField_70_4 tField_75_0 tField_75_1 tField_75_2 tField_75_3 tField_75_4 tField_75_5 tField_80_0 tField_80_1 tField_80_2 tField_80_3 tField_86_0
  tField_86_1 tField_92_0 tField_92_1 tField_92_2 tField_92_3 tField_92_4 tField_92_5 tField_98_0 tField_98_1 tPlaces_108 tPlaces_123 tPlaces_126
  tPlaces_135 tPlaces_145 tPlaces_162 tPlaces_26 tPlaces_34 tPlaces_38 tPlaces_54 tPlaces_57 tPlaces_59 tPlaces_70 tPlaces_75 tPlaces_80
  tPlaces_86 tPlaces_92 tPlaces_98 tSize_123 tSize_126 tSize_145 tSize_162 tSize_201 tSize_22 tSize_23 tSize_24 tSize_26
  tSize_3 tSize_32 tSize_34 tSize_38 tSize_4 tSize_44 tSize_5 tSize_51 tSize_52 tSize_54 tSize_55 tSize_57
  tSize_59 tSize_65 tSize_68 tSize_70 tSize_72 tSize_73 tSize_86 tSize_9 tSize_90 tSize_92 tSize_96 zeroPV_108
  zeroPV_123 zeroPV_126 zeroPV_135 zeroPV_145 zeroPV_162 zeroPV_201 zeroPV_22 zeroPV_26 zeroPV_3 zeroPV_34 zeroPV_38 zeroPV_4
  zeroPV_5 zeroPV_51 zeroPV_54 zeroPV_57 zeroPV_59 zeroPV_65 zeroPV_70 zeroPV_75 zeroPV_80 zeroPV_86 zeroPV_9 zeroPV_92
  zeroPV_98
end Go.Proofs.YtaackmiajgapoaaGreatDoor.V

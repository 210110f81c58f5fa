/-
  The Go functions ferry/ferrylaw09.ReadyWakes, ferry/ferrylaw09.ReadyFires as plain terms. By an AI agent; no person has read it.
-/
import Derived.Test.YtjjiphigolegbaaDoorFvCf
set_option linter.unusedVariables false
set_option linter.unusedSimpArgs false
set_option linter.unusedSectionVars false
/-! The Go functions ferry/ferrylaw09.ReadyWakes, ferry/ferrylaw09.ReadyFires as plain terms. -/
namespace Go.Fv.Tr
open Go Go.Fv Go.Proofs
set_option linter.unusedVariables false

noncomputable def ferry_ferrylaw09_ReadyWakes (G : Nat → Option (List V)) (call : FuncId → List V → M V) (x0 : V) : M R :=
  (newV x0).bind fun t1_1 =>
  (M.ret (V.bool false)).bind fun t2_2 =>
  (callV (cfg G) call 40 []).bind fun t15_3 =>
  (callV (cfg G) call 17 [t15_3]).bind fun t16_4 =>
  (callV (cfg G) call 44 [t16_4, (V.int .i64 3), (V.int .i64 1)]).bind fun t17_5 =>
  (sliceV 1 1 [(V.int .i64 0)] [(0, (V.int .i64 2))]).bind fun t18_6 =>
  (callV (cfg G) call 27 [t17_5, t18_6]).bind fun t19_7 =>
  (M.lift (unV .not t19_7)).bind fun t20_8 =>
  (condV t20_8
   ((M.ret (V.bool false)).bind fun t2_9 =>
  M.ret (Ex.ret, [t2_9]))
   ((callV (cfg G) call 40 []).bind fun t22_10 =>
  (callV (cfg G) call 17 [t22_10]).bind fun t23_11 =>
  (callV (cfg G) call 39 [t23_11, (V.int .i64 10)]).bind fun t24_12 =>
  (M.ret t24_12).bind fun t21_13 =>
  (M.lift (extractV t21_13 0)).bind fun t25_14 =>
  (M.lift (extractV t21_13 1)).bind fun t26_15 =>
  (M.lift (extractV t21_13 2)).bind fun t27_16 =>
  (newV (.agg [V.nils, V.nils, V.nils])).bind fun t3_17 =>
  (storeN 3 t3_17 t25_14).bind fun _ =>
  (M.ret t26_15).bind fun t4_18 =>
  (M.ret t27_16).bind fun t5_19 =>
  (M.ret t5_19).bind fun t28_20 =>
  (M.lift ((eqV .iface true t28_20 V.nili).bind fun b => some (.bool !b))).bind fun t29_21 =>
  (M.ret t29_21).bind fun t30_22 =>
  (guardV t30_22 false (M.ret t4_18)).bind fun t31_23 =>
  (guardV t30_22 false (sliceV 1 1 [(V.int .i64 0)] [(0, (V.int .i64 3))])).bind fun t32_24 =>
  (guardV t30_22 false (callV (cfg G) call 27 [t31_23, t32_24])).bind fun t33_25 =>
  (guardV t30_22 false (M.lift (unV .not t33_25))).bind fun t34_26 =>
  (M.lift (pickV t30_22 (V.bool true) t34_26)).bind fun t35_27 =>
  (M.ret t35_27).bind fun t36_28 =>
  (guardV t36_28 false (M.lift (padd 1 t3_17))).bind fun t37_29 =>
  (guardV t36_28 false (load1 t37_29)).bind fun t38_30 =>
  (guardV t36_28 false (sliceV 1 3 [(V.int .i64 0)] [(0, (V.int .i64 1)), (1, (V.int .i64 0)), (2, (V.int .i64 3))])).bind fun t39_31 =>
  (guardV t36_28 false (callV (cfg G) call 27 [t38_30, t39_31])).bind fun t40_32 =>
  (guardV t36_28 false (M.lift (unV .not t40_32))).bind fun t41_33 =>
  (M.lift (pickV t36_28 (V.bool true) t41_33)).bind fun t42_34 =>
  (condV t42_34
   ((M.ret (V.bool false)).bind fun t2_35 =>
  M.ret (Ex.ret, [t2_35]))
   ((M.lift (padd 0 t1_1)).bind fun t43_36 =>
  (loadN 3 t43_36).bind fun t44_37 =>
  (M.lift (padd 4 t1_1)).bind fun t45_38 =>
  (load1 t45_38).bind fun t46_39 =>
  (M.lift (padd 5 t1_1)).bind fun t47_40 =>
  (load1 t47_40).bind fun t48_41 =>
  (callV (cfg G) call 45 [t44_37, t46_39, t48_41]).bind fun t49_42 =>
  (M.ret t49_42).bind fun t6_43 =>
  (M.lift (padd 0 t1_1)).bind fun t51_44 =>
  (loadN 3 t51_44).bind fun t52_45 =>
  (M.lift (padd 4 t1_1)).bind fun t53_46 =>
  (load1 t53_46).bind fun t54_47 =>
  (M.lift (padd 5 t1_1)).bind fun t55_48 =>
  (load1 t55_48).bind fun t56_49 =>
  (callV (cfg G) call 46 [t52_45, t54_47, t56_49]).bind fun t57_50 =>
  (M.ret t57_50).bind fun t50_51 =>
  (M.lift (extractV t50_51 0)).bind fun t58_52 =>
  (M.lift (extractV t50_51 1)).bind fun t59_53 =>
  (M.ret t58_52).bind fun t7_54 =>
  (M.ret t59_53).bind fun t8_55 =>
  (M.lift (padd 0 t1_1)).bind fun t61_56 =>
  (loadN 3 t61_56).bind fun t62_57 =>
  (M.lift (padd 4 t1_1)).bind fun t63_58 =>
  (load1 t63_58).bind fun t64_59 =>
  (M.lift (padd 5 t1_1)).bind fun t65_60 =>
  (load1 t65_60).bind fun t66_61 =>
  (M.lift (padd 10 t1_1)).bind fun t67_62 =>
  (load1 t67_62).bind fun t68_63 =>
  (callV (cfg G) call 47 [t62_57, t64_59, t66_61, t68_63]).bind fun t69_64 =>
  (M.ret t69_64).bind fun t60_65 =>
  (M.lift (extractV t60_65 0)).bind fun t70_66 =>
  (M.lift (extractV t60_65 1)).bind fun t71_67 =>
  (newV (.agg [V.nils, V.nils, V.nils])).bind fun t9_68 =>
  (storeN 3 t9_68 t70_66).bind fun _ =>
  (M.ret t71_67).bind fun t10_69 =>
  (M.lift (padd 0 t1_1)).bind fun t73_70 =>
  (loadN 3 t73_70).bind fun t74_71 =>
  (M.lift (padd 9 t1_1)).bind fun t75_72 =>
  (load1 t75_72).bind fun t76_73 =>
  (callV (cfg G) call 48 [t74_71, t76_73]).bind fun t77_74 =>
  (M.ret t77_74).bind fun t72_75 =>
  (M.lift (extractV t72_75 0)).bind fun t78_76 =>
  (M.lift (extractV t72_75 1)).bind fun t79_77 =>
  (M.lift (extractV t72_75 2)).bind fun t80_78 =>
  (newV (.agg [V.nils, V.nils, V.nils])).bind fun t11_79 =>
  (storeN 3 t11_79 t78_76).bind fun _ =>
  (M.ret t79_77).bind fun t12_80 =>
  (M.ret t80_78).bind fun t13_81 =>
  (getN.bind fun n_82 =>
  (M.lift (padd 0 t1_1)).bind fun y0_83 =>
  getN.bind fun n_84 =>
  (loadN 3 y0_83).bind fun y1_85 =>
  getN.bind fun n_86 =>
  (qrun (visB n_82 [(n_84, n_86, true), (n_82, n_84, true)]) (callV (cfg G) call 17 [y1_85])).bind fun y2_87 =>
  getN.bind fun n_88 =>
  (M.lift (padd 4 t1_1)).bind fun y3_89 =>
  getN.bind fun n_90 =>
  (load1 y3_89).bind fun y4_91 =>
  getN.bind fun n_92 =>
  (M.lift (padd 5 t1_1)).bind fun y5_93 =>
  getN.bind fun n_94 =>
  (load1 y5_93).bind fun y6_95 =>
  getN.bind fun n_96 =>
  (qrun (visB n_82 [(n_94, n_96, true), (n_92, n_94, true), (n_90, n_92, true), (n_88, n_90, true), (n_86, n_88, true), (n_84, n_86, true), (n_82, n_84, true)]) (callV (cfg G) call 44 [y2_87, y4_91, y6_95])).bind fun y7_97 =>
  getN.bind fun n_98 =>
  (M.ret t6_43).bind fun y8_99 =>
  getN.bind fun n_100 =>
  (qrun (visB n_82 [(n_98, n_100, true), (n_96, n_98, true), (n_94, n_96, true), (n_92, n_94, true), (n_90, n_92, true), (n_88, n_90, true), (n_86, n_88, true), (n_84, n_86, true), (n_82, n_84, true)]) (callV (cfg G) call 27 [y7_97, y8_99])).bind fun y9_101 =>
  (M.lift (unV .not y9_101)).bind fun y10_102 =>
  (condV y10_102
   ((M.ret (V.bool false)).bind fun t2_103 =>
  M.ret (Ex.ret, [t2_103]))
   ((getN.bind fun n_104 =>
  (M.lift (padd 0 t1_1)).bind fun y0_105 =>
  getN.bind fun n_106 =>
  (loadN 3 y0_105).bind fun y1_107 =>
  getN.bind fun n_108 =>
  (qrun (visB n_104 [(n_106, n_108, true), (n_104, n_106, true)]) (callV (cfg G) call 17 [y1_107])).bind fun y2_109 =>
  getN.bind fun n_110 =>
  (M.lift (padd 4 t1_1)).bind fun y3_111 =>
  getN.bind fun n_112 =>
  (load1 y3_111).bind fun y4_113 =>
  getN.bind fun n_114 =>
  (M.lift (padd 5 t1_1)).bind fun y5_115 =>
  getN.bind fun n_116 =>
  (load1 y5_115).bind fun y6_117 =>
  getN.bind fun n_118 =>
  (qrun (visB n_104 [(n_116, n_118, true), (n_114, n_116, true), (n_112, n_114, true), (n_110, n_112, true), (n_108, n_110, true), (n_106, n_108, true), (n_104, n_106, true)]) (callV (cfg G) call 49 [y2_109, y4_113, y6_117])).bind fun y7_119 =>
  (M.ret y7_119).bind fun y8_120 =>
  (M.lift (extractV y8_120 0)).bind fun y9_121 =>
  (M.lift (extractV y8_120 1)).bind fun y10_122 =>
  (M.ret y9_121).bind fun y11_123 =>
  (M.ret y10_122).bind fun y12_124 =>
  (M.ret y12_124).bind fun t103_125 =>
  (M.ret t8_55).bind fun t104_126 =>
  (callV (cfg G) call 41 [t103_125, t104_126]).bind fun t105_127 =>
  (M.lift (unV .not t105_127)).bind fun t106_128 =>
  (M.ret t106_128).bind fun t107_129 =>
  (guardV t107_129 false (M.ret y11_123)).bind fun t108_130 =>
  (guardV t107_129 false (M.ret t7_54)).bind fun t109_131 =>
  (guardV t107_129 false (M.lift ((eqV (.sc .int) false t108_130 t109_131).bind fun b => some (.bool !b)))).bind fun t110_132 =>
  (M.lift (pickV t107_129 (V.bool true) t110_132)).bind fun t111_133 =>
  (condV t111_133
   ((M.ret (V.bool false)).bind fun t2_134 =>
  M.ret (Ex.ret, [t2_134]))
   ((getN.bind fun n_135 =>
  (M.lift (padd 0 t1_1)).bind fun y0_136 =>
  getN.bind fun n_137 =>
  (loadN 3 y0_136).bind fun y1_138 =>
  getN.bind fun n_139 =>
  (qrun (visB n_135 [(n_137, n_139, true), (n_135, n_137, true)]) (callV (cfg G) call 17 [y1_138])).bind fun y2_140 =>
  getN.bind fun n_141 =>
  (M.lift (padd 4 t1_1)).bind fun y3_142 =>
  getN.bind fun n_143 =>
  (load1 y3_142).bind fun y4_144 =>
  getN.bind fun n_145 =>
  (M.lift (padd 5 t1_1)).bind fun y5_146 =>
  getN.bind fun n_147 =>
  (load1 y5_146).bind fun y6_148 =>
  getN.bind fun n_149 =>
  (M.lift (padd 10 t1_1)).bind fun y7_150 =>
  getN.bind fun n_151 =>
  (load1 y7_150).bind fun y8_152 =>
  getN.bind fun n_153 =>
  (qrun (visB n_135 [(n_151, n_153, true), (n_149, n_151, true), (n_147, n_149, true), (n_145, n_147, true), (n_143, n_145, true), (n_141, n_143, true), (n_139, n_141, true), (n_137, n_139, true), (n_135, n_137, true)]) (callV (cfg G) call 50 [y2_140, y4_144, y6_148, y8_152])).bind fun y9_154 =>
  (M.ret y9_154).bind fun y10_155 =>
  (M.lift (extractV y10_155 0)).bind fun y11_156 =>
  (M.lift (extractV y10_155 1)).bind fun y12_157 =>
  (storeN 3 t3_17 y11_156).bind fun _ =>
  (M.ret y12_157).bind fun y14_158 =>
  (loadN 3 t3_17).bind fun t125_159 =>
  (M.ret y14_158).bind fun t126_160 =>
  (loadN 3 t9_68).bind fun t127_161 =>
  (M.ret t10_69).bind fun t128_162 =>
  (callV (cfg G) call 51 [t125_159, t126_160, t127_161, t128_162]).bind fun t129_163 =>
  (M.lift (unV .not t129_163)).bind fun t130_164 =>
  (condV t130_164
   ((M.ret (V.bool false)).bind fun t2_165 =>
  M.ret (Ex.ret, [t2_165]))
   ((getN.bind fun n_166 =>
  (M.lift (padd 0 t1_1)).bind fun y0_167 =>
  getN.bind fun n_168 =>
  (loadN 3 y0_167).bind fun y1_169 =>
  getN.bind fun n_170 =>
  (qrun (visB n_166 [(n_168, n_170, true), (n_166, n_168, true)]) (callV (cfg G) call 17 [y1_169])).bind fun y2_171 =>
  getN.bind fun n_172 =>
  (M.lift (padd 9 t1_1)).bind fun y3_173 =>
  getN.bind fun n_174 =>
  (load1 y3_173).bind fun y4_175 =>
  getN.bind fun n_176 =>
  (qrun (visB n_166 [(n_174, n_176, true), (n_172, n_174, true), (n_170, n_172, true), (n_168, n_170, true), (n_166, n_168, true)]) (callV (cfg G) call 39 [y2_171, y4_175])).bind fun y5_177 =>
  (M.ret y5_177).bind fun y6_178 =>
  (M.lift (extractV y6_178 0)).bind fun y7_179 =>
  (M.lift (extractV y6_178 1)).bind fun y8_180 =>
  (M.lift (extractV y6_178 2)).bind fun y9_181 =>
  (storeN 3 t3_17 y7_179).bind fun _ =>
  (M.ret y8_180).bind fun y11_182 =>
  (M.ret y9_181).bind fun y12_183 =>
  (loadN 3 t3_17).bind fun t141_184 =>
  (M.ret y12_183).bind fun t142_185 =>
  (loadN 3 t11_79).bind fun t143_186 =>
  (M.ret t13_81).bind fun t144_187 =>
  (callV (cfg G) call 51 [t141_184, t142_185, t143_186, t144_187]).bind fun t145_188 =>
  (M.ret t145_188).bind fun t146_189 =>
  (guardV t146_189 true (M.ret y11_182)).bind fun t147_190 =>
  (guardV t146_189 true (M.ret t12_80)).bind fun t148_191 =>
  (guardV t146_189 true (callV (cfg G) call 27 [t147_190, t148_191])).bind fun t149_192 =>
  (M.lift (pickV t146_189 t149_192 (V.bool false))).bind fun t150_193 =>
  (M.ret t150_193).bind fun t2_194 =>
  M.ret (Ex.ret, [t2_194])))))))))))))))

theorem ferry_ferrylaw09_ReadyWakes_eq (G : Nat → Option (List V)) (n : Nat) (x0 : V) : sem (cfg G) (n + 1) 10 [x0] = outV (ferry_ferrylaw09_ReadyWakes G (sem (cfg G) n) x0) :=
  (fnV_at (C := cfg G) (n := n) (f := 10) (fn := Tryd.f10) (c := Tryd.f10.body.getD .skip) (by kernel_rfl) (by kernel_rfl) (by kernel_rfl) [x0]).trans (by kernel_rfl)

noncomputable def ferry_ferrylaw09_ReadyFires_l1 (G : Nat → Option (List V)) (call : FuncId → List V → M V) (t106_128 : V) (t105_127 : V) (j2_27 : V) (s0_130 : List V) : M R :=
  (M.lift (arithV .lss (s0_130.getD 1 V.undef) t106_128)).bind fun t108_131 =>
  (condV t108_131
   ((M.lift (idxV 2 t105_127 (s0_130.getD 1 V.undef))).bind fun t109_132 =>
  (loadN 2 t109_132).bind fun t110_133 =>
  (newV (.agg [(V.int .i64 0), (V.int .i64 0)])).bind fun t20_134 =>
  (storeN 2 t20_134 t110_133).bind fun _ =>
  (M.lift (padd 1 t20_134)).bind fun t111_135 =>
  (load1 t111_135).bind fun t112_136 =>
  (M.ret j2_27).bind fun t113_137 =>
  (M.lift (arithV .leq t112_136 t113_137)).bind fun t114_138 =>
  (condV t114_138
   ((M.ret (V.bool false)).bind fun t6_139 =>
  M.ret (Ex.ret, [t6_139, (s0_130.getD 1 V.undef)]))
   ((M.lift (arithV .add (s0_130.getD 1 V.undef) (V.int .i64 1))).bind fun t115_140 =>
  (M.ret t115_140).bind fun t107_141 =>
  M.ret (Ex.normal, [(s0_130.getD 0 V.undef), t107_141]))))
   (M.ret ((Ex.exit 0), [(s0_130.getD 0 V.undef), (s0_130.getD 1 V.undef)])))

noncomputable def ferry_ferrylaw09_ReadyFires_j1 (G : Nat → Option (List V)) (call : FuncId → List V → M V) (t16_68 : V) (t22_151 : V) (s0_147 : List V) (j23_177 : V) : M R :=
  (M.lift (padd 0 t16_68)).bind fun t145_178 =>
  (load1 t145_178).bind fun t146_179 =>
  (M.ret t22_151).bind fun t147_180 =>
  (M.lift (idxV 21 t146_179 t147_180)).bind fun t148_181 =>
  (M.lift (padd 17 t148_181)).bind fun t149_182 =>
  (load1 t149_182).bind fun t150_183 =>
  (M.lift ((eqV (.sc .int) true t150_183 (V.int .i64 1)).bind fun b => some (.bool !b))).bind fun t151_184 =>
  (M.ret t151_184).bind fun t152_185 =>
  (guardV t152_185 false (M.lift (padd 0 t16_68))).bind fun t153_186 =>
  (guardV t152_185 false (load1 t153_186)).bind fun t154_187 =>
  (guardV t152_185 false (M.ret t22_151)).bind fun t155_188 =>
  (guardV t152_185 false (M.lift (idxV 21 t154_187 t155_188))).bind fun t156_189 =>
  (guardV t152_185 false (M.lift (padd 0 t156_189))).bind fun t157_190 =>
  (guardV t152_185 false (M.lift (aidxV 16 1 t157_190 (V.int .i64 1)))).bind fun t158_191 =>
  (guardV t152_185 false (load1 t158_191)).bind fun t159_192 =>
  (guardV t152_185 false (M.ret j23_177)).bind fun t160_193 =>
  (guardV t152_185 false (M.lift ((eqV (.sc .int) false t159_192 t160_193).bind fun b => some (.bool !b)))).bind fun t161_194 =>
  (M.lift (pickV t152_185 (V.bool true) t161_194)).bind fun t162_195 =>
  (condV t162_195
   ((M.ret (V.bool false)).bind fun t6_196 =>
  M.ret (Ex.ret, [t6_196, (s0_147.getD 1 V.undef)]))
   ((M.lift (arithV .add (s0_147.getD 1 V.undef) (V.int .i64 1))).bind fun t163_197 =>
  (M.ret t163_197).bind fun t118_198 =>
  M.ret (Ex.normal, [(s0_147.getD 0 V.undef), t118_198])))

noncomputable def ferry_ferrylaw09_ReadyFires_l2 (G : Nat → Option (List V)) (call : FuncId → List V → M V) (t117_145 : V) (t116_144 : V) (t3_1 : V) (t16_68 : V) (s0_147 : List V) : M R :=
  (M.lift (arithV .lss (s0_147.getD 1 V.undef) t117_145)).bind fun t119_148 =>
  (condV t119_148
   ((M.lift (idxV 1 t116_144 (s0_147.getD 1 V.undef))).bind fun t120_149 =>
  (load1 t120_149).bind fun t121_150 =>
  (M.ret t121_150).bind fun t22_151 =>
  (M.ret t22_151).bind fun t122_152 =>
  (M.lift (arithV .lss t122_152 (V.int .i64 0))).bind fun t123_153 =>
  (M.ret t123_153).bind fun t124_154 =>
  (guardV t124_154 false (M.ret t22_151)).bind fun t125_155 =>
  (guardV t124_154 false (M.lift (padd 0 t3_1))).bind fun t126_156 =>
  (guardV t124_154 false (load1 t126_156)).bind fun t127_157 =>
  (guardV t124_154 false (M.lift (lenV t127_157))).bind fun t128_158 =>
  (guardV t124_154 false (M.lift (arithV .geq t125_155 t128_158))).bind fun t129_159 =>
  (M.lift (pickV t124_154 (V.bool true) t129_159)).bind fun t130_160 =>
  (M.ret t130_160).bind fun t131_161 =>
  (guardV t131_161 false (M.ret t22_151)).bind fun t132_162 =>
  (guardV t131_161 false (M.lift (padd 0 t16_68))).bind fun t133_163 =>
  (guardV t131_161 false (load1 t133_163)).bind fun t134_164 =>
  (guardV t131_161 false (M.lift (lenV t134_164))).bind fun t135_165 =>
  (guardV t131_161 false (M.lift (arithV .geq t132_162 t135_165))).bind fun t136_166 =>
  (M.lift (pickV t131_161 (V.bool true) t136_166)).bind fun t137_167 =>
  (condV t137_167
   ((M.ret (V.bool false)).bind fun t6_168 =>
  M.ret (Ex.ret, [t6_168, (s0_147.getD 1 V.undef)]))
   ((M.ret (V.int .u32 4294967294)).bind fun t23_169 =>
  (M.lift (padd 0 t3_1)).bind fun t138_170 =>
  (load1 t138_170).bind fun t139_171 =>
  (M.ret t22_151).bind fun t140_172 =>
  (M.lift (idxV 21 t139_171 t140_172)).bind fun t141_173 =>
  (M.lift (padd 19 t141_173)).bind fun t142_174 =>
  (load1 t142_174).bind fun t143_175 =>
  (M.lift ((eqV (.sc .int) true t143_175 (V.int .i64 1)).bind fun b => some (.bool b))).bind fun t144_176 =>
  (condV t144_176
   ((M.ret (V.int .u32 0)).bind fun t23_199 =>
  ferry_ferrylaw09_ReadyFires_j1 G call t16_68 t22_151 s0_147 t23_199)
   (ferry_ferrylaw09_ReadyFires_j1 G call t16_68 t22_151 s0_147 t23_169)))))
   (M.ret ((Ex.exit 2), [(s0_147.getD 0 V.undef), (s0_147.getD 1 V.undef)])))

noncomputable def ferry_ferrylaw09_ReadyFires_j2 (G : Nat → Option (List V)) (call : FuncId → List V → M V) (t3_1 : V) (t6_2 : V) (j1_26 : V) (j2_27 : V) : M R :=
  (loadN 3 t3_1).bind fun t44_28 =>
  (callV (cfg G) call 17 [t44_28]).bind fun t45_29 =>
  (M.ret j1_26).bind fun t46_30 =>
  (callV (cfg G) call 39 [t45_29, t46_30]).bind fun t47_31 =>
  (M.ret t47_31).bind fun t43_32 =>
  (M.lift (extractV t43_32 0)).bind fun t48_33 =>
  (M.lift (extractV t43_32 1)).bind fun t49_34 =>
  (M.lift (extractV t43_32 2)).bind fun t50_35 =>
  (newV (.agg [V.nils, V.nils, V.nils])).bind fun t10_36 =>
  (storeN 3 t10_36 t48_33).bind fun _ =>
  (M.ret t49_34).bind fun t11_37 =>
  (M.ret t50_35).bind fun t12_38 =>
  (loadN 3 t3_1).bind fun t51_39 =>
  (callV (cfg G) call 16 [t51_39]).bind fun t52_40 =>
  (M.lift (unV .not t52_40)).bind fun t53_41 =>
  (condV t53_41
   ((M.ret t12_38).bind fun t54_42 =>
  (callV (cfg G) call 41 [t54_42, (V.int .i64 9)]).bind fun t55_43 =>
  (M.ret t55_43).bind fun t56_44 =>
  (guardV t56_44 true (M.ret t11_37)).bind fun t57_45 =>
  (guardV t56_44 true (M.lift (lenV t57_45))).bind fun t58_46 =>
  (guardV t56_44 true (M.lift ((eqV (.sc .int) true t58_46 (V.int .i64 0)).bind fun b => some (.bool b)))).bind fun t59_47 =>
  (M.lift (pickV t56_44 t59_47 (V.bool false))).bind fun t60_48 =>
  (M.ret t60_48).bind fun t6_49 =>
  M.ret (Ex.ret, [t6_49]))
   ((loadN 3 t10_36).bind fun t62_50 =>
  (M.ret j2_27).bind fun t63_51 =>
  (callV (cfg G) call 39 [t62_50, t63_51]).bind fun t64_52 =>
  (M.ret t64_52).bind fun t61_53 =>
  (M.lift (extractV t61_53 0)).bind fun t65_54 =>
  (M.lift (extractV t61_53 1)).bind fun t66_55 =>
  (M.lift (extractV t61_53 2)).bind fun t67_56 =>
  (newV (.agg [V.nils, V.nils, V.nils])).bind fun t13_57 =>
  (storeN 3 t13_57 t65_54).bind fun _ =>
  (M.ret t66_55).bind fun t14_58 =>
  (M.ret t67_56).bind fun t15_59 =>
  (loadN 3 t3_1).bind fun t69_60 =>
  (callV (cfg G) call 17 [t69_60]).bind fun t70_61 =>
  (M.ret j2_27).bind fun t71_62 =>
  (callV (cfg G) call 39 [t70_61, t71_62]).bind fun t72_63 =>
  (M.ret t72_63).bind fun t68_64 =>
  (M.lift (extractV t68_64 0)).bind fun t73_65 =>
  (M.lift (extractV t68_64 1)).bind fun t74_66 =>
  (M.lift (extractV t68_64 2)).bind fun t75_67 =>
  (newV (.agg [V.nils, V.nils, V.nils])).bind fun t16_68 =>
  (storeN 3 t16_68 t73_65).bind fun _ =>
  (M.ret t74_66).bind fun t17_69 =>
  (M.ret t75_67).bind fun t18_70 =>
  (getN.bind fun n_71 =>
  (M.ret t12_38).bind fun y0_72 =>
  getN.bind fun n_73 =>
  (M.lift ((eqV .iface true y0_72 V.nili).bind fun b => some (.bool !b))).bind fun y1_74 =>
  getN.bind fun n_75 =>
  (M.ret y1_74).bind fun y2_76 =>
  getN.bind fun n_77 =>
  (guardV y2_76 false (M.ret t15_59)).bind fun y3_78 =>
  getN.bind fun n_79 =>
  (guardV y2_76 false (M.lift ((eqV .iface true y3_78 V.nili).bind fun b => some (.bool !b)))).bind fun y4_80 =>
  getN.bind fun n_81 =>
  (M.lift (pickV y2_76 (V.bool true) y4_80)).bind fun y5_82 =>
  getN.bind fun n_83 =>
  (M.ret y5_82).bind fun y6_84 =>
  getN.bind fun n_85 =>
  (guardV y6_84 false (M.ret t18_70)).bind fun y7_86 =>
  getN.bind fun n_87 =>
  (guardV y6_84 false (M.lift ((eqV .iface true y7_86 V.nili).bind fun b => some (.bool !b)))).bind fun y8_88 =>
  getN.bind fun n_89 =>
  (M.lift (pickV y6_84 (V.bool true) y8_88)).bind fun y9_90 =>
  getN.bind fun n_91 =>
  (M.ret y9_90).bind fun y10_92 =>
  getN.bind fun n_93 =>
  (guardV y10_92 false (loadN 3 t13_57)).bind fun y11_94 =>
  getN.bind fun n_95 =>
  (qrun (visB n_71 [(n_93, n_95, true), (n_91, n_93, true), (n_89, n_91, true), (n_87, n_89, true), (n_85, n_87, true), (n_83, n_85, true), (n_81, n_83, true), (n_79, n_81, true), (n_77, n_79, true), (n_75, n_77, true), (n_73, n_75, true), (n_71, n_73, true)]) (guardV y10_92 false (callV (cfg G) call 26 [y11_94]))).bind fun y12_96 =>
  getN.bind fun n_97 =>
  (guardV y10_92 false (loadN 3 t16_68)).bind fun y13_98 =>
  getN.bind fun n_99 =>
  (qrun (visB n_71 [(n_97, n_99, true), (n_95, n_97, true), (n_93, n_95, true), (n_91, n_93, true), (n_89, n_91, true), (n_87, n_89, true), (n_85, n_87, true), (n_83, n_85, true), (n_81, n_83, true), (n_79, n_81, true), (n_77, n_79, true), (n_75, n_77, true), (n_73, n_75, true), (n_71, n_73, true)]) (guardV y10_92 false (callV (cfg G) call 26 [y13_98]))).bind fun y14_100 =>
  getN.bind fun n_101 =>
  (qrun (visB n_71 [(n_99, n_101, true), (n_97, n_99, true), (n_95, n_97, true), (n_93, n_95, true), (n_91, n_93, true), (n_89, n_91, true), (n_87, n_89, true), (n_85, n_87, true), (n_83, n_85, true), (n_81, n_83, true), (n_79, n_81, true), (n_77, n_79, true), (n_75, n_77, true), (n_73, n_75, true), (n_71, n_73, true)]) (guardV y10_92 false (callV (cfg G) call 25 [y12_96, y14_100]))).bind fun y15_102 =>
  getN.bind fun n_103 =>
  (guardV y10_92 false (M.lift (unV .not y15_102))).bind fun y16_104 =>
  getN.bind fun n_105 =>
  (M.lift (pickV y10_92 (V.bool true) y16_104)).bind fun y17_106 =>
  getN.bind fun n_107 =>
  (M.ret y17_106).bind fun y18_108 =>
  getN.bind fun n_109 =>
  (guardV y18_108 false (sliceV 1 0 [(V.int .i64 0)] [])).bind fun y19_110 =>
  getN.bind fun n_111 =>
  (guardV y18_108 false (M.ret t11_37)).bind fun y20_112 =>
  getN.bind fun n_113 =>
  (trun (visB n_71 [(n_111, n_113, true), (n_109, n_111, true), (n_107, n_109, true), (n_105, n_107, true), (n_103, n_105, true), (n_101, n_103, true), (n_99, n_101, true), (n_97, n_99, true), (n_95, n_97, true), (n_93, n_95, true), (n_91, n_93, true), (n_89, n_91, true), (n_87, n_89, true), (n_85, n_87, true), (n_83, n_85, true), (n_81, n_83, true), (n_79, n_81, true), (n_77, n_79, true), (n_75, n_77, true), (n_73, n_75, true), (n_71, n_73, true)]) (guardV y18_108 false (appV 1 8 y19_110 y20_112))).bind fun y21_114 =>
  getN.bind fun n_115 =>
  (guardV y18_108 false (M.ret t14_58)).bind fun y22_116 =>
  getN.bind fun n_117 =>
  (trun (visB n_71 [(n_115, n_117, true), (n_113, n_115, true), (n_111, n_113, true), (n_109, n_111, true), (n_107, n_109, true), (n_105, n_107, true), (n_103, n_105, true), (n_101, n_103, true), (n_99, n_101, true), (n_97, n_99, true), (n_95, n_97, true), (n_93, n_95, true), (n_91, n_93, true), (n_89, n_91, true), (n_87, n_89, true), (n_85, n_87, true), (n_83, n_85, true), (n_81, n_83, true), (n_79, n_81, true), (n_77, n_79, true), (n_75, n_77, true), (n_73, n_75, true), (n_71, n_73, true)]) (guardV y18_108 false (appV 1 8 y21_114 y22_116))).bind fun y23_118 =>
  getN.bind fun n_119 =>
  (guardV y18_108 false (M.ret t17_69)).bind fun y24_120 =>
  getN.bind fun n_121 =>
  (qrun (visB n_71 [(n_119, n_121, true), (n_117, n_119, true), (n_115, n_117, true), (n_113, n_115, true), (n_111, n_113, true), (n_109, n_111, true), (n_107, n_109, true), (n_105, n_107, true), (n_103, n_105, true), (n_101, n_103, true), (n_99, n_101, true), (n_97, n_99, true), (n_95, n_97, true), (n_93, n_95, true), (n_91, n_93, true), (n_89, n_91, true), (n_87, n_89, true), (n_85, n_87, true), (n_83, n_85, true), (n_81, n_83, true), (n_79, n_81, true), (n_77, n_79, true), (n_75, n_77, true), (n_73, n_75, true), (n_71, n_73, true)]) (guardV y18_108 false (callV (cfg G) call 27 [y23_118, y24_120]))).bind fun y25_122 =>
  (guardV y18_108 false (M.lift (unV .not y25_122))).bind fun y26_123 =>
  (M.lift (pickV y18_108 (V.bool true) y26_123)).bind fun y27_124 =>
  (condV y27_124
   ((M.ret (V.bool false)).bind fun t6_125 =>
  M.ret (Ex.ret, [t6_125]))
   ((M.lift (padd 2 t16_68)).bind fun t104_126 =>
  (load1 t104_126).bind fun t105_127 =>
  (M.lift (lenV t105_127)).bind fun t106_128 =>
  (M.ret (V.int .i64 0)).bind fun t107_129 =>
  (loopV (ferry_ferrylaw09_ReadyFires_l1 G call t106_128 t105_127 j2_27) [t6_2, t107_129]).bind fun r0_142 => match r0_142.1 with
  | .normal => M.fail
  | .exit k0_143 =>
    (if k0_143 = 0 then
    (M.ret t17_69).bind fun t116_144 =>
    (M.lift (lenV t116_144)).bind fun t117_145 =>
    (M.ret (V.int .i64 0)).bind fun t118_146 =>
    (loopV (ferry_ferrylaw09_ReadyFires_l2 G call t117_145 t116_144 t3_1 t16_68) [(r0_142.2.getD 0 V.undef), t118_146]).bind fun r0_200 => match r0_200.1 with
    | .normal => M.fail
    | .exit k0_201 =>
      (if k0_201 = 2 then
      (M.ret (V.bool true)).bind fun t6_202 =>
      M.ret (Ex.ret, [t6_202])
      else M.fail)
    | .ret =>
      M.ret (Ex.ret, [(r0_200.2.getD 0 V.undef)])
    else M.fail)
  | .ret =>
    M.ret (Ex.ret, [(r0_142.2.getD 0 V.undef)]))))))

noncomputable def ferry_ferrylaw09_ReadyFires (G : Nat → Option (List V)) (call : FuncId → List V → M V) (x0 : V) (x1 : V) (x2 : V) : M R :=
  (newV x0).bind fun t3_1 =>
  (M.ret (V.bool false)).bind fun t6_2 =>
  (callV (cfg G) call 40 []).bind fun t25_3 =>
  (callV (cfg G) call 17 [t25_3]).bind fun t26_4 =>
  (callV (cfg G) call 39 [t26_4, (V.int .i64 10)]).bind fun t27_5 =>
  (M.ret t27_5).bind fun t24_6 =>
  (M.lift (extractV t24_6 0)).bind fun t28_7 =>
  (M.lift (extractV t24_6 1)).bind fun t29_8 =>
  (M.lift (extractV t24_6 2)).bind fun t30_9 =>
  (newV (.agg [V.nils, V.nils, V.nils])).bind fun t7_10 =>
  (storeN 3 t7_10 t28_7).bind fun _ =>
  (M.ret t29_8).bind fun t8_11 =>
  (M.ret t30_9).bind fun t9_12 =>
  (M.ret t9_12).bind fun t31_13 =>
  (M.lift ((eqV .iface true t31_13 V.nili).bind fun b => some (.bool !b))).bind fun t32_14 =>
  (M.ret t32_14).bind fun t33_15 =>
  (guardV t33_15 false (M.ret t8_11)).bind fun t34_16 =>
  (guardV t33_15 false (M.lift (lenV t34_16))).bind fun t35_17 =>
  (guardV t33_15 false (M.lift ((eqV (.sc .int) true t35_17 (V.int .i64 1)).bind fun b => some (.bool !b)))).bind fun t36_18 =>
  (M.lift (pickV t33_15 (V.bool true) t36_18)).bind fun t37_19 =>
  (condV t37_19
   ((M.ret (V.bool false)).bind fun t6_20 =>
  M.ret (Ex.ret, [t6_20]))
   ((M.ret x1).bind fun t38_21 =>
  (M.ret x2).bind fun t39_22 =>
  (M.lift (arithV .gtr t38_21 t39_22)).bind fun t40_23 =>
  (condV t40_23
   ((M.ret x2).bind fun t41_203 =>
  (M.ret x1).bind fun t42_204 =>
  (M.ret t41_203).bind fun t1_205 =>
  (M.ret t42_204).bind fun t2_206 =>
  ferry_ferrylaw09_ReadyFires_j2 G call t3_1 t6_2 t1_205 t2_206)
   (ferry_ferrylaw09_ReadyFires_j2 G call t3_1 t6_2 x1 x2))))

theorem ferry_ferrylaw09_ReadyFires_eq (G : Nat → Option (List V)) (n : Nat) (x0 : V) (x1 : V) (x2 : V) : sem (cfg G) (n + 1) 8 [x0, x1, x2] = outV (ferry_ferrylaw09_ReadyFires G (sem (cfg G) n) x0 x1 x2) :=
  (fnV_at (C := cfg G) (n := n) (f := 8) (fn := Tryd.f8) (c := Tryd.f8.body.getD .skip) (by kernel_rfl) (by kernel_rfl) (by kernel_rfl) [x0, x1, x2]).trans (by kernel_rfl)

end Go.Fv.Tr

/-
  The Go functions ferry/ferrylaw08.code, ferry/ferrylaw08.looks, ferry/ferrylaw08.plays, ferry/ferrylaw08.TimerPlays as plain terms. By an AI agent; no person has read it.
-/
import Derived.Test.YtjjiphigolegbabDoorFvCf
import Derived.Test.YtjjiphigolegbabDoorFvW4
set_option linter.unusedVariables false
set_option linter.unusedSimpArgs false
set_option linter.unusedSectionVars false
/-! The Go functions ferry/ferrylaw08.code, ferry/ferrylaw08.looks, ferry/ferrylaw08.plays, ferry/ferrylaw08.TimerPlays as plain terms. -/
namespace Go.Fv.Tr
open Go Go.Fv Go.Proofs
set_option linter.unusedVariables false
set_option maxRecDepth 20000

noncomputable def ferry_ferrylaw08_code (G : Nat → Option (List V)) (call : FuncId → List V → M V) (x0 : V) : M R :=
  (M.ret (V.int .i64 0)).bind fun t2_1 =>
  (M.ret x0).bind fun t3_2 =>
  (callV (cfg G) call 72 [t3_2]).bind fun t4_3 =>
  (M.lift ((eqV (.sc .int) true t4_3 (V.int .i64 (-1))).bind fun b => some (.bool !b))).bind fun t5_4 =>
  (condV t5_4
   ((M.ret (V.int .i64 99)).bind fun t2_5 =>
  M.ret (Ex.ret, [t2_5]))
   ((M.ret x0).bind fun t6_6 =>
  (callV (cfg G) call 73 [t6_6]).bind fun t7_7 =>
  (M.ret t7_7).bind fun t2_8 =>
  M.ret (Ex.ret, [t2_8])))

theorem ferry_ferrylaw08_code_eq (G : Nat → Option (List V)) (n : Nat) (x0 : V) : sem (cfg G) (n + 1) 27 [x0] = outV (ferry_ferrylaw08_code G (sem (cfg G) n) x0) :=
  (fnV_at (C := cfg G) (n := n) (f := 27) (fn := Tryd.f27) (c := Tryd.f27.body.getD .skip) (by kernel_rfl) (by kernel_rfl) (by kernel_rfl) [x0]).trans (by kernel_rfl)

noncomputable def ferry_ferrylaw08_looks (G : Nat → Option (List V)) (call : FuncId → List V → M V) (x0 : V) (x1 : V) : M R :=
  (newV x1).bind fun t3_1 =>
  (M.ret (V.bool false)).bind fun t4_2 =>
  (M.ret x0).bind fun t18_3 =>
  (M.lift (padd 2 t3_1)).bind fun t19_4 =>
  (load1 t19_4).bind fun t20_5 =>
  (callV (cfg G) call 101 [t18_3, t20_5]).bind fun t21_6 =>
  (M.ret t21_6).bind fun t5_7 =>
  (M.ret x0).bind fun t23_8 =>
  (M.lift (padd 1 t3_1)).bind fun t24_9 =>
  (load1 t24_9).bind fun t25_10 =>
  (callV (cfg G) call 102 [t23_8, t25_10]).bind fun t26_11 =>
  (M.ret t26_11).bind fun t22_12 =>
  (M.lift (extractV t22_12 0)).bind fun t27_13 =>
  (M.lift (extractV t22_12 1)).bind fun t28_14 =>
  (M.ret t27_13).bind fun t6_15 =>
  (M.ret t28_14).bind fun t7_16 =>
  (M.ret x0).bind fun t30_17 =>
  (callV (cfg G) call 103 [t30_17]).bind fun t31_18 =>
  (M.ret t31_18).bind fun t29_19 =>
  (M.lift (extractV t29_19 0)).bind fun t32_20 =>
  (M.lift (extractV t29_19 1)).bind fun t33_21 =>
  (M.ret t32_20).bind fun t8_22 =>
  (M.ret t33_21).bind fun t9_23 =>
  (M.ret x0).bind fun t35_24 =>
  (callV (cfg G) call 21 [t35_24]).bind fun t36_25 =>
  (M.ret t36_25).bind fun t34_26 =>
  (M.lift (extractV t34_26 0)).bind fun t37_27 =>
  (M.lift (extractV t34_26 1)).bind fun t38_28 =>
  (M.ret t37_27).bind fun t10_29 =>
  (M.ret t38_28).bind fun t11_30 =>
  (getN.bind fun n_31 =>
  (M.ret x0).bind fun y0_32 =>
  getN.bind fun n_33 =>
  (qrun (visB n_31 [(n_31, n_33, true)]) (callV (cfg G) call 16 [y0_32])).bind fun y1_34 =>
  getN.bind fun n_35 =>
  (M.lift (padd 1 t3_1)).bind fun y2_36 =>
  getN.bind fun n_37 =>
  (load1 y2_36).bind fun y3_38 =>
  getN.bind fun n_39 =>
  (qrun (visB n_31 [(n_37, n_39, true), (n_35, n_37, true), (n_33, n_35, true), (n_31, n_33, true)]) (callV (cfg G) call 88 [y1_34, y3_38])).bind fun y4_40 =>
  getN.bind fun n_41 =>
  (M.ret y4_40).bind fun y5_42 =>
  getN.bind fun n_43 =>
  (M.lift (extractV y5_42 0)).bind fun y6_44 =>
  getN.bind fun n_45 =>
  (M.lift (extractV y5_42 1)).bind fun y7_46 =>
  getN.bind fun n_47 =>
  (M.ret y6_44).bind fun y8_48 =>
  getN.bind fun n_49 =>
  (M.ret y7_46).bind fun y9_50 =>
  getN.bind fun n_51 =>
  (M.ret x0).bind fun t48_52 =>
  (callV (cfg G) call 16 [t48_52]).bind fun t49_53 =>
  (callV (cfg G) call 104 [t49_53]).bind fun t50_54 =>
  (M.ret t50_54).bind fun t47_55 =>
  (M.lift (extractV t47_55 0)).bind fun t51_56 =>
  (M.lift (extractV t47_55 1)).bind fun t52_57 =>
  (M.ret t51_56).bind fun t14_58 =>
  (M.ret t52_57).bind fun t15_59 =>
  (M.ret x0).bind fun t54_60 =>
  (callV (cfg G) call 16 [t54_60]).bind fun t55_61 =>
  (callV (cfg G) call 26 [t55_61]).bind fun t56_62 =>
  (M.ret t56_62).bind fun t53_63 =>
  (M.lift (extractV t53_63 0)).bind fun t57_64 =>
  (M.lift (extractV t53_63 1)).bind fun t58_65 =>
  (M.ret t57_64).bind fun t16_66 =>
  (M.ret t58_65).bind fun t17_67 =>
  (getN.bind fun n_68 =>
  (M.ret x0).bind fun y0_69 =>
  getN.bind fun n_70 =>
  (qrun (visB n_68 [(n_68, n_70, true)]) (callV (cfg G) call 16 [y0_69])).bind fun y1_71 =>
  getN.bind fun n_72 =>
  (M.lift (padd 2 t3_1)).bind fun y2_73 =>
  getN.bind fun n_74 =>
  (load1 y2_73).bind fun y3_75 =>
  getN.bind fun n_76 =>
  (qrun (visB n_68 [(n_74, n_76, true), (n_72, n_74, true), (n_70, n_72, true), (n_68, n_70, true)]) (callV (cfg G) call 87 [y1_71, y3_75])).bind fun y4_77 =>
  getN.bind fun n_78 =>
  (qrun (visB n_68 [(n_76, n_78, true), (n_74, n_76, true), (n_72, n_74, true), (n_70, n_72, true), (n_68, n_70, true)]) (callV (cfg G) call 27 [y4_77])).bind fun y5_79 =>
  getN.bind fun n_80 =>
  (M.ret t5_7).bind fun y6_81 =>
  getN.bind fun n_82 =>
  (M.lift ((eqV (.sc .int) false y5_79 y6_81).bind fun b => some (.bool b))).bind fun y7_83 =>
  getN.bind fun n_84 =>
  (M.ret y7_83).bind fun y8_85 =>
  getN.bind fun n_86 =>
  (guardV y8_85 true (M.ret y8_48)).bind fun y9_87 =>
  getN.bind fun n_88 =>
  (guardV y8_85 true (M.ret t6_15)).bind fun y10_89 =>
  getN.bind fun n_90 =>
  (guardV y8_85 true (M.lift ((eqV (.sc .int) false y9_87 y10_89).bind fun b => some (.bool b)))).bind fun y11_91 =>
  getN.bind fun n_92 =>
  (M.lift (pickV y8_85 y11_91 (V.bool false))).bind fun y12_93 =>
  getN.bind fun n_94 =>
  (M.ret y12_93).bind fun y13_95 =>
  getN.bind fun n_96 =>
  (guardV y13_95 true (M.ret y9_50)).bind fun y14_97 =>
  getN.bind fun n_98 =>
  (guardV y13_95 true (M.ret t7_16)).bind fun y15_99 =>
  getN.bind fun n_100 =>
  (guardV y13_95 true (M.lift ((eqV (.sc .bool) false y14_97 y15_99).bind fun b => some (.bool b)))).bind fun y16_101 =>
  getN.bind fun n_102 =>
  (M.lift (pickV y13_95 y16_101 (V.bool false))).bind fun y17_103 =>
  getN.bind fun n_104 =>
  (M.ret y17_103).bind fun y18_105 =>
  getN.bind fun n_106 =>
  (guardV y18_105 true (M.ret t14_58)).bind fun y19_107 =>
  getN.bind fun n_108 =>
  (guardV y18_105 true (M.ret t8_22)).bind fun y20_109 =>
  getN.bind fun n_110 =>
  (guardV y18_105 true (M.lift ((eqV (.sc .int) false y19_107 y20_109).bind fun b => some (.bool b)))).bind fun y21_111 =>
  getN.bind fun n_112 =>
  (M.lift (pickV y18_105 y21_111 (V.bool false))).bind fun y22_113 =>
  getN.bind fun n_114 =>
  (M.ret y22_113).bind fun y23_115 =>
  getN.bind fun n_116 =>
  (guardV y23_115 true (M.ret t15_59)).bind fun y24_117 =>
  getN.bind fun n_118 =>
  (guardV y23_115 true (M.ret t9_23)).bind fun y25_119 =>
  getN.bind fun n_120 =>
  (guardV y23_115 true (M.lift ((eqV (.sc .bool) false y24_117 y25_119).bind fun b => some (.bool b)))).bind fun y26_121 =>
  getN.bind fun n_122 =>
  (M.lift (pickV y23_115 y26_121 (V.bool false))).bind fun y27_123 =>
  getN.bind fun n_124 =>
  (M.ret y27_123).bind fun y28_125 =>
  getN.bind fun n_126 =>
  (guardV y28_125 true (M.ret t16_66)).bind fun y29_127 =>
  getN.bind fun n_128 =>
  (guardV y28_125 true (M.ret t10_29)).bind fun y30_129 =>
  getN.bind fun n_130 =>
  (qrun (visB n_68 [(n_128, n_130, true), (n_126, n_128, true), (n_124, n_126, true), (n_122, n_124, true), (n_120, n_122, true), (n_118, n_120, true), (n_116, n_118, true), (n_114, n_116, true), (n_112, n_114, true), (n_110, n_112, true), (n_108, n_110, true), (n_106, n_108, true), (n_104, n_106, true), (n_102, n_104, true), (n_100, n_102, true), (n_98, n_100, true), (n_96, n_98, true), (n_94, n_96, true), (n_92, n_94, true), (n_90, n_92, true), (n_88, n_90, true), (n_86, n_88, true), (n_84, n_86, true), (n_82, n_84, true), (n_80, n_82, true), (n_78, n_80, true), (n_76, n_78, true), (n_74, n_76, true), (n_72, n_74, true), (n_70, n_72, true), (n_68, n_70, true)]) (guardV y28_125 true (callV (cfg G) call 28 [y29_127, y30_129]))).bind fun y31_131 =>
  getN.bind fun n_132 =>
  (M.lift (pickV y28_125 y31_131 (V.bool false))).bind fun y32_133 =>
  getN.bind fun n_134 =>
  (M.ret y32_133).bind fun y33_135 =>
  getN.bind fun n_136 =>
  (guardV y33_135 true (M.ret t17_67)).bind fun y34_137 =>
  getN.bind fun n_138 =>
  (qrun (visB n_68 [(n_136, n_138, true), (n_134, n_136, true), (n_132, n_134, true), (n_130, n_132, true), (n_128, n_130, true), (n_126, n_128, true), (n_124, n_126, true), (n_122, n_124, true), (n_120, n_122, true), (n_118, n_120, true), (n_116, n_118, true), (n_114, n_116, true), (n_112, n_114, true), (n_110, n_112, true), (n_108, n_110, true), (n_106, n_108, true), (n_104, n_106, true), (n_102, n_104, true), (n_100, n_102, true), (n_98, n_100, true), (n_96, n_98, true), (n_94, n_96, true), (n_92, n_94, true), (n_90, n_92, true), (n_88, n_90, true), (n_86, n_88, true), (n_84, n_86, true), (n_82, n_84, true), (n_80, n_82, true), (n_78, n_80, true), (n_76, n_78, true), (n_74, n_76, true), (n_72, n_74, true), (n_70, n_72, true), (n_68, n_70, true)]) (guardV y33_135 true (callV (cfg G) call 27 [y34_137]))).bind fun y35_139 =>
  getN.bind fun n_140 =>
  (guardV y33_135 true (M.ret t11_30)).bind fun y36_141 =>
  getN.bind fun n_142 =>
  (guardV y33_135 true (M.lift ((eqV (.sc .int) false y35_139 y36_141).bind fun b => some (.bool b)))).bind fun y37_143 =>
  getN.bind fun n_144 =>
  (M.lift (pickV y33_135 y37_143 (V.bool false))).bind fun y38_145 =>
  getN.bind fun n_146 =>
  (M.ret y38_145).bind fun y39_147 =>
  getN.bind fun n_148 =>
  M.ret (Ex.ret, [y39_147])))

theorem ferry_ferrylaw08_looks_eq (G : Nat → Option (List V)) (n : Nat) (x0 : V) (x1 : V) : sem (cfg G) (n + 1) 74 [x0, x1] = outV (ferry_ferrylaw08_looks G (sem (cfg G) n) x0 x1) :=
  (fnV_atM (C := cfg G) (n := n) (f := 74) (fn := Tryd.f74) (c := Tryd.f74.body.getD .skip) (by kernel_rfl) (by kernel_rfl) (by kernel_rfl) [x0, x1]).trans (by kernel_rfl)

noncomputable def ferry_ferrylaw08_plays_j1 (G : Nat → Option (List V)) (call : FuncId → List V → M V) (j8_167 : V) (j6_171 : V) : M R :=
  (M.ret j6_171).bind fun t170_172 =>
  (M.ret j8_167).bind fun t171_173 =>
  (M.ret t170_172).bind fun t4_174 =>
  (M.ret t171_173).bind fun t5_175 =>
  M.ret (Ex.ret, [V.tuple [t4_174, t5_175]])

noncomputable def ferry_ferrylaw08_plays_j2 (G : Nat → Option (List V)) (call : FuncId → List V → M V) (x0 : V) (j6_160 : V) (j7_161 : V) (j8_167 : V) : M R :=
  (M.ret j7_161).bind fun t167_168 =>
  (M.lift ((eqV (.sc .int) true t167_168 (V.int .i64 0)).bind fun b => some (.bool !b))).bind fun t168_169 =>
  (condV t168_169
   ((M.ret x0).bind fun t169_176 =>
  (M.ret t169_176).bind fun t6_177 =>
  ferry_ferrylaw08_plays_j1 G call j8_167 t6_177)
   (ferry_ferrylaw08_plays_j1 G call j8_167 j6_160))

noncomputable def ferry_ferrylaw08_plays (G : Nat → Option (List V)) (call : FuncId → List V → M V) (x0 : V) (x1 : V) : M R :=
  (newV x1).bind fun t3_1 =>
  (M.ret V.nils).bind fun t4_2 =>
  (M.ret (V.bool false)).bind fun t5_3 =>
  (M.ret x0).bind fun t29_4 =>
  (M.ret t29_4).bind fun t6_5 =>
  (M.ret (V.int .i64 0)).bind fun t7_6 =>
  (M.ret (V.bool true)).bind fun t8_7 =>
  (M.lift (padd 0 t3_1)).bind fun t30_8 =>
  (load1 t30_8).bind fun t31_9 =>
  (M.lift ((eqV (.sc .int) true t31_9 (V.int .i64 1)).bind fun b => some (.bool b))).bind fun t33_10 =>
  (M.ret t33_10).bind fun t32_11 =>
  (condV t32_11
   ((M.ret x0).bind fun t35_178 =>
  (M.lift (padd 1 t3_1)).bind fun t36_179 =>
  (load1 t36_179).bind fun t37_180 =>
  (M.lift (padd 2 t3_1)).bind fun t38_181 =>
  (load1 t38_181).bind fun t39_182 =>
  (callV (cfg G) call 17 [t35_178, t37_180, t39_182]).bind fun t40_183 =>
  (M.ret t40_183).bind fun t34_184 =>
  (M.lift (extractV t34_184 0)).bind fun t41_185 =>
  (M.lift (extractV t34_184 1)).bind fun t42_186 =>
  (M.ret t41_185).bind fun t9_187 =>
  (M.ret t42_186).bind fun t10_188 =>
  (getN.bind fun n_189 =>
  (M.ret x0).bind fun y0_190 =>
  getN.bind fun n_191 =>
  (qrun (visB n_189 [(n_189, n_191, true)]) (callV (cfg G) call 16 [y0_190])).bind fun y1_192 =>
  getN.bind fun n_193 =>
  (M.lift (padd 1 t3_1)).bind fun y2_194 =>
  getN.bind fun n_195 =>
  (load1 y2_194).bind fun y3_196 =>
  getN.bind fun n_197 =>
  (M.lift (padd 2 t3_1)).bind fun y4_198 =>
  getN.bind fun n_199 =>
  (load1 y4_198).bind fun y5_200 =>
  getN.bind fun n_201 =>
  (qrun (visB n_189 [(n_199, n_201, true), (n_197, n_199, true), (n_195, n_197, true), (n_193, n_195, true), (n_191, n_193, true), (n_189, n_191, true)]) (callV (cfg G) call 22 [y1_192, y3_196, y5_200])).bind fun y6_202 =>
  getN.bind fun n_203 =>
  (M.ret y6_202).bind fun y7_204 =>
  getN.bind fun n_205 =>
  (M.lift (extractV y7_204 0)).bind fun y8_206 =>
  getN.bind fun n_207 =>
  (M.lift (extractV y7_204 1)).bind fun y9_208 =>
  getN.bind fun n_209 =>
  (M.ret y8_206).bind fun y10_210 =>
  getN.bind fun n_211 =>
  (M.ret y9_208).bind fun y11_212 =>
  getN.bind fun n_213 =>
  (M.ret t9_187).bind fun t53_214 =>
  (M.ret t10_188).bind fun t54_215 =>
  (M.ret y10_210).bind fun t55_216 =>
  (M.ret t9_187).bind fun t56_217 =>
  (callV (cfg G) call 28 [t55_216, t56_217]).bind fun t57_218 =>
  (M.ret t57_218).bind fun t58_219 =>
  (guardV t58_219 true (M.ret y11_212)).bind fun t59_220 =>
  (guardV t58_219 true (callV (cfg G) call 27 [t59_220])).bind fun t60_221 =>
  (guardV t58_219 true (M.ret t10_188)).bind fun t61_222 =>
  (guardV t58_219 true (M.lift ((eqV (.sc .int) false t60_221 t61_222).bind fun b => some (.bool b)))).bind fun t62_223 =>
  (M.lift (pickV t58_219 t62_223 (V.bool false))).bind fun t63_224 =>
  (M.ret t53_214).bind fun t6_225 =>
  (M.ret t54_215).bind fun t7_226 =>
  (M.ret t63_224).bind fun t8_227 =>
  ferry_ferrylaw08_plays_j2 G call x0 t6_225 t7_226 t8_227))
   ((M.lift ((eqV (.sc .int) true t31_9 (V.int .i64 2)).bind fun b => some (.bool b))).bind fun t65_228 =>
  (M.ret t65_228).bind fun t64_229 =>
  (condV t64_229
   ((M.ret x0).bind fun t67_350 =>
  (M.lift (padd 1 t3_1)).bind fun t68_351 =>
  (load1 t68_351).bind fun t69_352 =>
  (callV (cfg G) call 18 [t67_350, t69_352]).bind fun t70_353 =>
  (M.ret t70_353).bind fun t66_354 =>
  (M.lift (extractV t66_354 0)).bind fun t71_355 =>
  (M.lift (extractV t66_354 1)).bind fun t72_356 =>
  (M.lift (extractV t66_354 2)).bind fun t73_357 =>
  (M.ret t71_355).bind fun t13_358 =>
  (M.ret t72_356).bind fun t14_359 =>
  (M.ret t73_357).bind fun t15_360 =>
  (getN.bind fun n_361 =>
  (M.ret x0).bind fun y0_362 =>
  getN.bind fun n_363 =>
  (qrun (visB n_361 [(n_361, n_363, true)]) (callV (cfg G) call 16 [y0_362])).bind fun y1_364 =>
  getN.bind fun n_365 =>
  (M.lift (padd 1 t3_1)).bind fun y2_366 =>
  getN.bind fun n_367 =>
  (load1 y2_366).bind fun y3_368 =>
  getN.bind fun n_369 =>
  (qrun (visB n_361 [(n_367, n_369, true), (n_365, n_367, true), (n_363, n_365, true), (n_361, n_363, true)]) (callV (cfg G) call 23 [y1_364, y3_368])).bind fun y4_370 =>
  getN.bind fun n_371 =>
  (M.ret y4_370).bind fun y5_372 =>
  getN.bind fun n_373 =>
  (M.lift (extractV y5_372 0)).bind fun y6_374 =>
  getN.bind fun n_375 =>
  (M.lift (extractV y5_372 1)).bind fun y7_376 =>
  getN.bind fun n_377 =>
  (M.lift (extractV y5_372 2)).bind fun y8_378 =>
  getN.bind fun n_379 =>
  (M.ret y6_374).bind fun y9_380 =>
  getN.bind fun n_381 =>
  (M.ret y7_376).bind fun y10_382 =>
  getN.bind fun n_383 =>
  (M.ret y8_378).bind fun y11_384 =>
  getN.bind fun n_385 =>
  (M.ret t13_358).bind fun t83_386 =>
  (M.ret t15_360).bind fun t84_387 =>
  (M.ret y9_380).bind fun t85_388 =>
  (M.ret t13_358).bind fun t86_389 =>
  (callV (cfg G) call 28 [t85_388, t86_389]).bind fun t87_390 =>
  (M.ret t87_390).bind fun t88_391 =>
  (guardV t88_391 true (M.ret y10_382)).bind fun t89_392 =>
  (guardV t88_391 true (M.ret t14_359)).bind fun t90_393 =>
  (guardV t88_391 true (M.lift ((eqV (.sc .bool) false t89_392 t90_393).bind fun b => some (.bool b)))).bind fun t91_394 =>
  (M.lift (pickV t88_391 t91_394 (V.bool false))).bind fun t92_395 =>
  (M.ret t92_395).bind fun t93_396 =>
  (guardV t93_396 true (M.ret y11_384)).bind fun t94_397 =>
  (guardV t93_396 true (callV (cfg G) call 27 [t94_397])).bind fun t95_398 =>
  (guardV t93_396 true (M.ret t15_360)).bind fun t96_399 =>
  (guardV t93_396 true (M.lift ((eqV (.sc .int) false t95_398 t96_399).bind fun b => some (.bool b)))).bind fun t97_400 =>
  (M.lift (pickV t93_396 t97_400 (V.bool false))).bind fun t98_401 =>
  (M.ret t83_386).bind fun t6_402 =>
  (M.ret t84_387).bind fun t7_403 =>
  (M.ret t98_401).bind fun t8_404 =>
  ferry_ferrylaw08_plays_j2 G call x0 t6_402 t7_403 t8_404))
   ((M.lift ((eqV (.sc .int) true t31_9 (V.int .i64 3)).bind fun b => some (.bool b))).bind fun t100_405 =>
  (M.ret t100_405).bind fun t99_406 =>
  (condV t99_406
   ((M.ret x0).bind fun t102_486 =>
  (M.lift (padd 2 t3_1)).bind fun t103_487 =>
  (load1 t103_487).bind fun t104_488 =>
  (callV (cfg G) call 19 [t102_486, t104_488]).bind fun t105_489 =>
  (M.ret t105_489).bind fun t101_490 =>
  (M.lift (extractV t101_490 0)).bind fun t106_491 =>
  (M.lift (extractV t101_490 1)).bind fun t107_492 =>
  (M.lift (extractV t101_490 2)).bind fun t108_493 =>
  (M.ret t106_491).bind fun t19_494 =>
  (M.ret t107_492).bind fun t20_495 =>
  (M.ret t108_493).bind fun t21_496 =>
  (getN.bind fun n_497 =>
  (M.ret x0).bind fun y0_498 =>
  getN.bind fun n_499 =>
  (qrun (visB n_497 [(n_497, n_499, true)]) (callV (cfg G) call 16 [y0_498])).bind fun y1_500 =>
  getN.bind fun n_501 =>
  (M.lift (padd 2 t3_1)).bind fun y2_502 =>
  getN.bind fun n_503 =>
  (load1 y2_502).bind fun y3_504 =>
  getN.bind fun n_505 =>
  (qrun (visB n_497 [(n_503, n_505, true), (n_501, n_503, true), (n_499, n_501, true), (n_497, n_499, true)]) (callV (cfg G) call 24 [y1_500, y3_504])).bind fun y4_506 =>
  getN.bind fun n_507 =>
  (M.ret y4_506).bind fun y5_508 =>
  getN.bind fun n_509 =>
  (M.lift (extractV y5_508 0)).bind fun y6_510 =>
  getN.bind fun n_511 =>
  (M.lift (extractV y5_508 1)).bind fun y7_512 =>
  getN.bind fun n_513 =>
  (M.lift (extractV y5_508 2)).bind fun y8_514 =>
  getN.bind fun n_515 =>
  (M.ret y6_510).bind fun y9_516 =>
  getN.bind fun n_517 =>
  (M.ret y7_512).bind fun y10_518 =>
  getN.bind fun n_519 =>
  (M.ret y8_514).bind fun y11_520 =>
  getN.bind fun n_521 =>
  (M.ret t20_495).bind fun t118_522 =>
  (M.ret t21_496).bind fun t119_523 =>
  (M.ret y10_518).bind fun t120_524 =>
  (M.ret t20_495).bind fun t121_525 =>
  (callV (cfg G) call 28 [t120_524, t121_525]).bind fun t122_526 =>
  (M.ret t122_526).bind fun t123_527 =>
  (guardV t123_527 true (M.ret y9_516)).bind fun t124_528 =>
  (guardV t123_527 true (M.ret t19_494)).bind fun t125_529 =>
  (guardV t123_527 true (callV (cfg G) call 29 [t124_528, t125_529])).bind fun t126_530 =>
  (M.lift (pickV t123_527 t126_530 (V.bool false))).bind fun t127_531 =>
  (M.ret t127_531).bind fun t128_532 =>
  (guardV t128_532 true (M.ret y11_520)).bind fun t129_533 =>
  (guardV t128_532 true (callV (cfg G) call 27 [t129_533])).bind fun t130_534 =>
  (guardV t128_532 true (M.ret t21_496)).bind fun t131_535 =>
  (guardV t128_532 true (M.lift ((eqV (.sc .int) false t130_534 t131_535).bind fun b => some (.bool b)))).bind fun t132_536 =>
  (M.lift (pickV t128_532 t132_536 (V.bool false))).bind fun t133_537 =>
  (M.ret t118_522).bind fun t6_538 =>
  (M.ret t119_523).bind fun t7_539 =>
  (M.ret t133_537).bind fun t8_540 =>
  ferry_ferrylaw08_plays_j2 G call x0 t6_538 t7_539 t8_540))
   ((M.lift ((eqV (.sc .int) true t31_9 (V.int .i64 4)).bind fun b => some (.bool b))).bind fun t135_541 =>
  (M.ret t135_541).bind fun t134_542 =>
  (condV t134_542
   ((M.ret x0).bind fun t137_581 =>
  (M.lift (padd 2 t3_1)).bind fun t138_582 =>
  (load1 t138_582).bind fun t139_583 =>
  (callV (cfg G) call 20 [t137_581, t139_583]).bind fun t140_584 =>
  (M.ret t140_584).bind fun t136_585 =>
  (M.lift (extractV t136_585 0)).bind fun t141_586 =>
  (M.lift (extractV t136_585 1)).bind fun t142_587 =>
  (M.ret t141_586).bind fun t25_588 =>
  (M.ret t142_587).bind fun t26_589 =>
  (getN.bind fun n_590 =>
  (M.ret x0).bind fun y0_591 =>
  getN.bind fun n_592 =>
  (qrun (visB n_590 [(n_590, n_592, true)]) (callV (cfg G) call 16 [y0_591])).bind fun y1_593 =>
  getN.bind fun n_594 =>
  (M.lift (padd 2 t3_1)).bind fun y2_595 =>
  getN.bind fun n_596 =>
  (load1 y2_595).bind fun y3_597 =>
  getN.bind fun n_598 =>
  (qrun (visB n_590 [(n_596, n_598, true), (n_594, n_596, true), (n_592, n_594, true), (n_590, n_592, true)]) (callV (cfg G) call 25 [y1_593, y3_597])).bind fun y4_599 =>
  getN.bind fun n_600 =>
  (M.ret y4_599).bind fun y5_601 =>
  getN.bind fun n_602 =>
  (M.lift (extractV y5_601 0)).bind fun y6_603 =>
  getN.bind fun n_604 =>
  (M.lift (extractV y5_601 1)).bind fun y7_605 =>
  getN.bind fun n_606 =>
  (M.ret y6_603).bind fun y8_607 =>
  getN.bind fun n_608 =>
  (M.ret y7_605).bind fun y9_609 =>
  getN.bind fun n_610 =>
  (M.ret t25_588).bind fun t151_611 =>
  (M.ret t26_589).bind fun t152_612 =>
  (M.ret y8_607).bind fun t153_613 =>
  (M.ret t25_588).bind fun t154_614 =>
  (callV (cfg G) call 28 [t153_613, t154_614]).bind fun t155_615 =>
  (M.ret t155_615).bind fun t156_616 =>
  (guardV t156_616 true (M.ret y9_609)).bind fun t157_617 =>
  (guardV t156_616 true (callV (cfg G) call 27 [t157_617])).bind fun t158_618 =>
  (guardV t156_616 true (M.ret t26_589)).bind fun t159_619 =>
  (guardV t156_616 true (M.lift ((eqV (.sc .int) false t158_618 t159_619).bind fun b => some (.bool b)))).bind fun t160_620 =>
  (M.lift (pickV t156_616 t160_620 (V.bool false))).bind fun t161_621 =>
  (M.ret t151_611).bind fun t6_622 =>
  (M.ret t152_612).bind fun t7_623 =>
  (M.ret t161_621).bind fun t8_624 =>
  ferry_ferrylaw08_plays_j2 G call x0 t6_622 t7_623 t8_624))
   ((M.lift ((eqV (.sc .int) true t31_9 (V.int .i64 5)).bind fun b => some (.bool b))).bind fun t163_625 =>
  (M.ret t163_625).bind fun t162_626 =>
  (condV t162_626
   ((M.ret x0).bind fun t164_631 =>
  (loadN 3 t3_1).bind fun t165_632 =>
  (callV (cfg G) call 74 [t164_631, t165_632]).bind fun t166_633 =>
  (M.ret t166_633).bind fun t8_634 =>
  ferry_ferrylaw08_plays_j2 G call x0 t6_5 t7_6 t8_634)
   (ferry_ferrylaw08_plays_j2 G call x0 t6_5 t7_6 t8_7))))))))))

theorem ferry_ferrylaw08_plays_eq (G : Nat → Option (List V)) (n : Nat) (x0 : V) (x1 : V) : sem (cfg G) (n + 1) 31 [x0, x1] = outV (ferry_ferrylaw08_plays G (sem (cfg G) n) x0 x1) :=
  (fnV_atM (C := cfg G) (n := n) (f := 31) (fn := Tryd.f31) (c := Tryd.f31.body.getD .skip) (by kernel_rfl) (by kernel_rfl) (by kernel_rfl) [x0, x1]).trans (by kernel_rfl)

noncomputable def ferry_ferrylaw08_TimerPlays_l1 (G : Nat → Option (List V)) (call : FuncId → List V → M V) (x1 : V) (s0_9 : List V) : M R :=
  (M.ret (s0_9.getD 2 V.undef)).bind fun t12_10 =>
  (M.ret x1).bind fun t13_11 =>
  (M.lift (lenV t13_11)).bind fun t14_12 =>
  (M.lift (arithV .lss t12_10 t14_12)).bind fun t15_13 =>
  (condV t15_13
   ((M.ret (s0_9.getD 1 V.undef)).bind fun t19_14 =>
  (M.ret x1).bind fun t20_15 =>
  (M.ret (s0_9.getD 2 V.undef)).bind fun t21_16 =>
  (M.lift (idxV 3 t20_15 t21_16)).bind fun t22_17 =>
  (loadN 3 t22_17).bind fun t23_18 =>
  (callV (cfg G) call 31 [t19_14, t23_18]).bind fun t24_19 =>
  (M.ret t24_19).bind fun t18_20 =>
  (M.lift (extractV t18_20 0)).bind fun t25_21 =>
  (M.lift (extractV t18_20 1)).bind fun t26_22 =>
  (M.ret t25_21).bind fun t6_23 =>
  (M.ret t26_22).bind fun t7_24 =>
  (M.ret t7_24).bind fun t27_25 =>
  (M.lift (unV .not t27_25)).bind fun t28_26 =>
  (condV t28_26
   ((M.ret (V.bool false)).bind fun t4_27 =>
  M.ret (Ex.ret, [t4_27, (s0_9.getD 1 V.undef), (s0_9.getD 2 V.undef)]))
   ((M.ret t6_23).bind fun t29_28 =>
  (M.ret t29_28).bind fun t0_29 =>
  (M.ret (s0_9.getD 2 V.undef)).bind fun t16_30 =>
  (M.lift (arithV .add t16_30 (V.int .i64 1))).bind fun t17_31 =>
  (M.ret t17_31).bind fun t5_32 =>
  M.ret (Ex.normal, [(s0_9.getD 0 V.undef), t0_29, t5_32]))))
   (M.ret ((Ex.exit 0), [(s0_9.getD 0 V.undef), (s0_9.getD 1 V.undef), (s0_9.getD 2 V.undef)])))

noncomputable def ferry_ferrylaw08_TimerPlays (G : Nat → Option (List V)) (call : FuncId → List V → M V) (x0 : V) (x1 : V) : M R :=
  (M.ret (V.bool false)).bind fun t4_1 =>
  (callV (cfg G) call 15 []).bind fun t8_2 =>
  (M.lift (unV .not t8_2)).bind fun t9_3 =>
  (condV t9_3
   ((M.ret (V.bool false)).bind fun t4_4 =>
  M.ret (Ex.ret, [t4_4]))
   ((M.ret x0).bind fun t10_5 =>
  (callV (cfg G) call 16 [t10_5]).bind fun t11_6 =>
  (M.ret t11_6).bind fun t0_7 =>
  (M.ret (V.int .i64 0)).bind fun t5_8 =>
  (loopV (ferry_ferrylaw08_TimerPlays_l1 G call x1) [t4_1, t0_7, t5_8]).bind fun r0_33 => match r0_33.1 with
  | .normal => M.fail
  | .exit k0_34 =>
    (if k0_34 = 0 then
    (M.ret (V.bool true)).bind fun t4_35 =>
    M.ret (Ex.ret, [t4_35])
    else M.fail)
  | .ret =>
    M.ret (Ex.ret, [(r0_33.2.getD 0 V.undef)])))

theorem ferry_ferrylaw08_TimerPlays_eq (G : Nat → Option (List V)) (n : Nat) (x0 : V) (x1 : V) : sem (cfg G) (n + 1) 5 [x0, x1] = outV (ferry_ferrylaw08_TimerPlays G (sem (cfg G) n) x0 x1) :=
  (fnV_at (C := cfg G) (n := n) (f := 5) (fn := Tryd.f5) (c := Tryd.f5.body.getD .skip) (by kernel_rfl) (by kernel_rfl) (by kernel_rfl) [x0, x1]).trans (by kernel_rfl)

end Go.Fv.Tr

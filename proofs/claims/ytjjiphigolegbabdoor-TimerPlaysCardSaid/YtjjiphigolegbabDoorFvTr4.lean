/-
  The Go functions slices.insertionSortCmpFunc[ferry/api.Timer], slices.pdqsortCmpFunc[ferry/api.Timer], math/bits.Len, math/bits.Len32, math/bits.Len64, slices.SortFunc[ferry/api.Timer,ferry/api.Timer] as plain terms. By an AI agent; no person has read it.
-/
import Derived.Test.YtjjiphigolegbabDoorFvCf
set_option linter.unusedVariables false
set_option linter.unusedSimpArgs false
set_option linter.unusedSectionVars false
/-! The Go functions slices.insertionSortCmpFunc[ferry/api.Timer], slices.pdqsortCmpFunc[ferry/api.Timer], math/bits.Len, math/bits.Len32, math/bits.Len64, slices.SortFunc[ferry/api.Timer,ferry/api.Timer] as plain terms. -/
namespace Go.Fv.Tr
open Go Go.Fv Go.Proofs
set_option linter.unusedVariables false
set_option maxRecDepth 20000

noncomputable def slices_insertionSortCmpFunc_ferry_api_Timer_l2 (G : Nat → Option (List V)) (call : FuncId → List V → M V) (x1 : V) (x3 : V) (x0 : V) (s0_10 : List V) : M R :=
  (getN.bind fun n_11 =>
  (M.ret (s0_10.getD 0 V.undef)).bind fun y0_12 =>
  getN.bind fun n_13 =>
  (M.ret x1).bind fun y1_14 =>
  getN.bind fun n_15 =>
  (M.lift (arithV .gtr y0_12 y1_14)).bind fun y2_16 =>
  getN.bind fun n_17 =>
  (M.ret y2_16).bind fun y3_18 =>
  getN.bind fun n_19 =>
  (guardV y3_18 true (M.ret x3)).bind fun y4_20 =>
  getN.bind fun n_21 =>
  (guardV y3_18 true (M.ret x0)).bind fun y5_22 =>
  getN.bind fun n_23 =>
  (guardV y3_18 true (M.ret (s0_10.getD 0 V.undef))).bind fun y6_24 =>
  getN.bind fun n_25 =>
  (guardV y3_18 true (M.lift (idxV 2 y5_22 y6_24))).bind fun y7_26 =>
  getN.bind fun n_27 =>
  (guardV y3_18 true (loadN 2 y7_26)).bind fun y8_28 =>
  getN.bind fun n_29 =>
  (guardV y3_18 true (M.ret x0)).bind fun y9_30 =>
  getN.bind fun n_31 =>
  (guardV y3_18 true (M.ret (s0_10.getD 0 V.undef))).bind fun y10_32 =>
  getN.bind fun n_33 =>
  (guardV y3_18 true (M.lift (arithV .sub y10_32 (V.int .i64 1)))).bind fun y11_34 =>
  getN.bind fun n_35 =>
  (guardV y3_18 true (M.lift (idxV 2 y9_30 y11_34))).bind fun y12_36 =>
  getN.bind fun n_37 =>
  (guardV y3_18 true (loadN 2 y12_36)).bind fun y13_38 =>
  getN.bind fun n_39 =>
  (qrun (visB n_11 [(n_37, n_39, true), (n_35, n_37, true), (n_33, n_35, true), (n_31, n_33, true), (n_29, n_31, true), (n_27, n_29, true), (n_25, n_27, true), (n_23, n_25, true), (n_21, n_23, true), (n_19, n_21, true), (n_17, n_19, true), (n_15, n_17, true), (n_13, n_15, true), (n_11, n_13, true)]) (guardV y3_18 true (callFn (cfg G) call y4_20 [y8_28, y13_38]))).bind fun y14_40 =>
  (guardV y3_18 true (M.lift (arithV .lss y14_40 (V.int .i64 0)))).bind fun y15_41 =>
  (M.lift (pickV y3_18 y15_41 (V.bool false))).bind fun y16_42 =>
  (condV y16_42
   (((M.ret x0).bind fun y0_43 =>
  (M.ret (s0_10.getD 0 V.undef)).bind fun y1_44 =>
  (M.ret x0).bind fun y2_45 =>
  (M.ret (s0_10.getD 0 V.undef)).bind fun y3_46 =>
  (M.lift (arithV .sub y3_46 (V.int .i64 1))).bind fun y4_47 =>
  (M.ret x0).bind fun y5_48 =>
  (M.ret (s0_10.getD 0 V.undef)).bind fun y6_49 =>
  (M.lift (arithV .sub y6_49 (V.int .i64 1))).bind fun y7_50 =>
  (M.lift (idxV 2 y5_48 y7_50)).bind fun y8_51 =>
  (loadN 2 y8_51).bind fun y9_52 =>
  (M.ret x0).bind fun y10_53 =>
  (M.ret (s0_10.getD 0 V.undef)).bind fun y11_54 =>
  (M.lift (idxV 2 y10_53 y11_54)).bind fun y12_55 =>
  (loadN 2 y12_55).bind fun y13_56 =>
  (M.lift (idxV 2 y0_43 y1_44)).bind fun y14_57 =>
  (storeN 2 y14_57 y9_52).bind fun _ =>
  (M.lift (idxV 2 y2_45 y4_47)).bind fun y16_58 =>
  (storeN 2 y16_58 y13_56).bind fun _ =>
  (M.ret (s0_10.getD 0 V.undef)).bind fun t35_59 =>
  (M.lift (arithV .sub t35_59 (V.int .i64 1))).bind fun t36_60 =>
  (M.ret t36_60).bind fun t9_61 =>
  M.ret (Ex.normal, [t9_61])))
   (M.ret ((Ex.exit 2), [(s0_10.getD 0 V.undef)]))))

noncomputable def slices_insertionSortCmpFunc_ferry_api_Timer_l1 (G : Nat → Option (List V)) (call : FuncId → List V → M V) (x2 : V) (x1 : V) (x3 : V) (x0 : V) (s0_4 : List V) : M R :=
  (M.ret (s0_4.getD 0 V.undef)).bind fun t12_5 =>
  (M.ret x2).bind fun t13_6 =>
  (M.lift (arithV .lss t12_5 t13_6)).bind fun t14_7 =>
  (condV t14_7
   ((M.ret (s0_4.getD 0 V.undef)).bind fun t17_8 =>
  (M.ret t17_8).bind fun t9_9 =>
  (loopV (slices_insertionSortCmpFunc_ferry_api_Timer_l2 G call x1 x3 x0) [t9_9]).bind fun r0_62 => match r0_62.1 with
  | .normal => M.fail
  | .exit k0_63 =>
    (if k0_63 = 2 then
    (M.ret (s0_4.getD 0 V.undef)).bind fun t15_64 =>
    (M.lift (arithV .add t15_64 (V.int .i64 1))).bind fun t16_65 =>
    (M.ret t16_65).bind fun t8_66 =>
    M.ret (Ex.normal, [t8_66])
    else (if k0_63 = 1 then
    (M.ret (s0_4.getD 0 V.undef)).bind fun t15_67 =>
    (M.lift (arithV .add t15_67 (V.int .i64 1))).bind fun t16_68 =>
    (M.ret t16_68).bind fun t8_69 =>
    M.ret (Ex.normal, [t8_69])
    else M.ret ((Ex.exit k0_63), [(s0_4.getD 0 V.undef)])))
  | .ret =>
    M.ret (Ex.ret, [(s0_4.getD 0 V.undef)]))
   (M.ret ((Ex.exit 0), [(s0_4.getD 0 V.undef)])))

noncomputable def slices_insertionSortCmpFunc_ferry_api_Timer (G : Nat → Option (List V)) (call : FuncId → List V → M V) (x0 : V) (x1 : V) (x2 : V) (x3 : V) : M R :=
  (M.ret x1).bind fun t10_1 =>
  (M.lift (arithV .add t10_1 (V.int .i64 1))).bind fun t11_2 =>
  (M.ret t11_2).bind fun t8_3 =>
  (loopV (slices_insertionSortCmpFunc_ferry_api_Timer_l1 G call x2 x1 x3 x0) [t8_3]).bind fun r0_70 => match r0_70.1 with
  | .normal => M.fail
  | .exit k0_71 =>
    (if k0_71 = 0 then
    M.ret (Ex.ret, [V.tuple []])
    else M.fail)
  | .ret =>
    M.ret (Ex.ret, [V.tuple []])

theorem slices_insertionSortCmpFunc_ferry_api_Timer_eq (G : Nat → Option (List V)) (n : Nat) (x0 : V) (x1 : V) (x2 : V) (x3 : V) : sem (cfg G) (n + 1) 112 [x0, x1, x2, x3] = outV (slices_insertionSortCmpFunc_ferry_api_Timer G (sem (cfg G) n) x0 x1 x2 x3) :=
  (fnV_at (C := cfg G) (n := n) (f := 112) (fn := Tryd.f112) (c := Tryd.f112.body.getD .skip) (by kernel_rfl) (by kernel_rfl) (by kernel_rfl) [x0, x1, x2, x3]).trans (by kernel_rfl)

noncomputable def slices_pdqsortCmpFunc_ferry_api_Timer_j1 (G : Nat → Option (List V)) (call : FuncId → List V → M V) (s0_3 : List V) (x4 : V) (x0 : V) (j13_55 : V) (j3_31 : V) (t12_7 : V) : M R :=
  (getN.bind fun n_70 =>
  (M.ret (s0_3.getD 2 V.undef)).bind fun y0_71 =>
  getN.bind fun n_72 =>
  (M.lift (arithV .gtr y0_71 (V.int .i64 0))).bind fun y1_73 =>
  getN.bind fun n_74 =>
  (M.ret y1_73).bind fun y2_75 =>
  getN.bind fun n_76 =>
  (guardV y2_75 true (M.ret x4)).bind fun y3_77 =>
  getN.bind fun n_78 =>
  (guardV y2_75 true (M.ret x0)).bind fun y4_79 =>
  getN.bind fun n_80 =>
  (guardV y2_75 true (M.ret (s0_3.getD 2 V.undef))).bind fun y5_81 =>
  getN.bind fun n_82 =>
  (guardV y2_75 true (M.lift (arithV .sub y5_81 (V.int .i64 1)))).bind fun y6_83 =>
  getN.bind fun n_84 =>
  (guardV y2_75 true (M.lift (idxV 2 y4_79 y6_83))).bind fun y7_85 =>
  getN.bind fun n_86 =>
  (guardV y2_75 true (loadN 2 y7_85)).bind fun y8_87 =>
  getN.bind fun n_88 =>
  (guardV y2_75 true (M.ret x0)).bind fun y9_89 =>
  getN.bind fun n_90 =>
  (guardV y2_75 true (M.ret j13_55)).bind fun y10_91 =>
  getN.bind fun n_92 =>
  (guardV y2_75 true (M.lift (idxV 2 y9_89 y10_91))).bind fun y11_93 =>
  getN.bind fun n_94 =>
  (guardV y2_75 true (loadN 2 y11_93)).bind fun y12_95 =>
  getN.bind fun n_96 =>
  (qrun (visB n_70 [(n_94, n_96, true), (n_92, n_94, true), (n_90, n_92, true), (n_88, n_90, true), (n_86, n_88, true), (n_84, n_86, true), (n_82, n_84, true), (n_80, n_82, true), (n_78, n_80, true), (n_76, n_78, true), (n_74, n_76, true), (n_72, n_74, true), (n_70, n_72, true)]) (guardV y2_75 true (callFn (cfg G) call y3_77 [y8_87, y12_95]))).bind fun y13_97 =>
  (guardV y2_75 true (M.lift (arithV .lss y13_97 (V.int .i64 0)))).bind fun y14_98 =>
  (guardV y2_75 true (M.lift (unV .not y14_98))).bind fun y15_99 =>
  (M.lift (pickV y2_75 y15_99 (V.bool false))).bind fun y16_100 =>
  (condV y16_100
   ((M.ret x0).bind fun t98_101 =>
  (M.ret (s0_3.getD 2 V.undef)).bind fun t99_102 =>
  (M.ret (s0_3.getD 4 V.undef)).bind fun t100_103 =>
  (M.ret j13_55).bind fun t101_104 =>
  (M.ret x4).bind fun t102_105 =>
  (callV (cfg G) call 118 [t98_101, t99_102, t100_103, t101_104, t102_105]).bind fun t103_106 =>
  (M.ret t103_106).bind fun t15_107 =>
  (M.ret t15_107).bind fun t104_108 =>
  (M.ret t104_108).bind fun t1_109 =>
  M.ret (Ex.normal, [j3_31, (s0_3.getD 1 V.undef), t1_109, (s0_3.getD 3 V.undef), (s0_3.getD 4 V.undef)]))
   ((M.ret x0).bind fun t106_110 =>
  (M.ret (s0_3.getD 2 V.undef)).bind fun t107_111 =>
  (M.ret (s0_3.getD 4 V.undef)).bind fun t108_112 =>
  (M.ret j13_55).bind fun t109_113 =>
  (M.ret x4).bind fun t110_114 =>
  (callV (cfg G) call 119 [t106_110, t107_111, t108_112, t109_113, t110_114]).bind fun t111_115 =>
  (M.ret t111_115).bind fun t105_116 =>
  (M.lift (extractV t105_116 0)).bind fun t112_117 =>
  (M.lift (extractV t105_116 1)).bind fun t113_118 =>
  (M.ret t112_117).bind fun t16_119 =>
  (M.ret t113_118).bind fun t17_120 =>
  (M.ret t17_120).bind fun t114_121 =>
  (M.ret t114_121).bind fun t11_122 =>
  (M.ret t16_119).bind fun t115_123 =>
  (M.ret (s0_3.getD 2 V.undef)).bind fun t116_124 =>
  (M.lift (arithV .sub t115_123 t116_124)).bind fun t117_125 =>
  (M.ret (s0_3.getD 4 V.undef)).bind fun t118_126 =>
  (M.ret t16_119).bind fun t119_127 =>
  (M.lift (arithV .sub t118_126 t119_127)).bind fun t120_128 =>
  (M.ret t117_125).bind fun t18_129 =>
  (M.ret t120_128).bind fun t19_130 =>
  (M.ret t12_7).bind fun t121_131 =>
  (M.lift (arithV .quo t121_131 (V.int .i64 8))).bind fun t122_132 =>
  (M.ret t122_132).bind fun t20_133 =>
  (M.ret t18_129).bind fun t123_134 =>
  (M.ret t19_130).bind fun t124_135 =>
  (M.lift (arithV .lss t123_134 t124_135)).bind fun t125_136 =>
  (condV t125_136
   ((M.ret t18_129).bind fun t126_162 =>
  (M.ret t20_133).bind fun t127_163 =>
  (M.lift (arithV .geq t126_162 t127_163)).bind fun t128_164 =>
  (M.ret t128_164).bind fun t10_165 =>
  (M.ret x0).bind fun t129_166 =>
  (M.ret (s0_3.getD 2 V.undef)).bind fun t130_167 =>
  (M.ret t16_119).bind fun t131_168 =>
  (M.ret j3_31).bind fun t132_169 =>
  (M.ret x4).bind fun t133_170 =>
  (callV (cfg G) call 94 [t129_166, t130_167, t131_168, t132_169, t133_170]).bind fun t134_171 =>
  (M.ret t16_119).bind fun t135_172 =>
  (M.lift (arithV .add t135_172 (V.int .i64 1))).bind fun t136_173 =>
  (M.ret t136_173).bind fun t1_174 =>
  M.ret (Ex.normal, [j3_31, t11_122, t1_174, t10_165, (s0_3.getD 4 V.undef)]))
   ((M.ret t19_130).bind fun t137_175 =>
  (M.ret t20_133).bind fun t138_176 =>
  (M.lift (arithV .geq t137_175 t138_176)).bind fun t139_177 =>
  (M.ret t139_177).bind fun t10_178 =>
  (M.ret x0).bind fun t140_179 =>
  (M.ret t16_119).bind fun t141_180 =>
  (M.lift (arithV .add t141_180 (V.int .i64 1))).bind fun t142_181 =>
  (M.ret (s0_3.getD 4 V.undef)).bind fun t143_182 =>
  (M.ret j3_31).bind fun t144_183 =>
  (M.ret x4).bind fun t145_184 =>
  (callV (cfg G) call 94 [t140_179, t142_181, t143_182, t144_183, t145_184]).bind fun t146_185 =>
  (M.ret t16_119).bind fun t147_186 =>
  (M.ret t147_186).bind fun t2_187 =>
  M.ret (Ex.normal, [j3_31, t11_122, (s0_3.getD 2 V.undef), t10_178, t2_187]))))))

noncomputable def slices_pdqsortCmpFunc_ferry_api_Timer_j2 (G : Nat → Option (List V)) (call : FuncId → List V → M V) (s0_3 : List V) (x0 : V) (x4 : V) (j3_31 : V) (t12_7 : V) (j13_55 : V) (j14_56 : V) : M R :=
  (M.ret (s0_3.getD 3 V.undef)).bind fun t68_57 =>
  (M.ret t68_57).bind fun t69_58 =>
  (guardV t69_58 true (M.ret (s0_3.getD 1 V.undef))).bind fun t70_59 =>
  (M.lift (pickV t69_58 t70_59 (V.bool false))).bind fun t71_60 =>
  (M.ret t71_60).bind fun t72_61 =>
  (guardV t72_61 true (M.ret j14_56)).bind fun t73_62 =>
  (guardV t72_61 true (M.lift ((eqV (.sc .int) true t73_62 (V.int .i64 1)).bind fun b => some (.bool b)))).bind fun t74_63 =>
  (M.lift (pickV t72_61 t74_63 (V.bool false))).bind fun t75_64 =>
  (condV t75_64
   ((M.ret x0).bind fun t76_188 =>
  (M.ret (s0_3.getD 2 V.undef)).bind fun t77_189 =>
  (M.ret (s0_3.getD 4 V.undef)).bind fun t78_190 =>
  (M.ret x4).bind fun t79_191 =>
  (callV (cfg G) call 117 [t76_188, t77_189, t78_190, t79_191]).bind fun t80_192 =>
  (condV t80_192
   (M.ret (Ex.ret, [j3_31, (s0_3.getD 1 V.undef), (s0_3.getD 2 V.undef), (s0_3.getD 3 V.undef), (s0_3.getD 4 V.undef)]))
   (slices_pdqsortCmpFunc_ferry_api_Timer_j1 G call s0_3 x4 x0 j13_55 j3_31 t12_7)))
   (slices_pdqsortCmpFunc_ferry_api_Timer_j1 G call s0_3 x4 x0 j13_55 j3_31 t12_7))

noncomputable def slices_pdqsortCmpFunc_ferry_api_Timer_j3 (G : Nat → Option (List V)) (call : FuncId → List V → M V) (x0 : V) (s0_3 : List V) (x4 : V) (t12_7 : V) (j3_31 : V) : M R :=
  (M.ret x0).bind fun t48_32 =>
  (M.ret (s0_3.getD 2 V.undef)).bind fun t49_33 =>
  (M.ret (s0_3.getD 4 V.undef)).bind fun t50_34 =>
  (M.ret x4).bind fun t51_35 =>
  (callV (cfg G) call 115 [t48_32, t49_33, t50_34, t51_35]).bind fun t52_36 =>
  (M.ret t52_36).bind fun t47_37 =>
  (M.lift (extractV t47_37 0)).bind fun t53_38 =>
  (M.lift (extractV t47_37 1)).bind fun t54_39 =>
  (M.ret t53_38).bind fun t13_40 =>
  (M.ret t54_39).bind fun t14_41 =>
  (M.ret t14_41).bind fun t55_42 =>
  (M.lift ((eqV (.sc .int) true t55_42 (V.int .i64 2)).bind fun b => some (.bool b))).bind fun t56_43 =>
  (condV t56_43
   ((M.ret x0).bind fun t57_193 =>
  (M.ret (s0_3.getD 2 V.undef)).bind fun t58_194 =>
  (M.ret (s0_3.getD 4 V.undef)).bind fun t59_195 =>
  (M.ret x4).bind fun t60_196 =>
  (callV (cfg G) call 116 [t57_193, t58_194, t59_195, t60_196]).bind fun t61_197 =>
  (M.ret (s0_3.getD 4 V.undef)).bind fun t62_198 =>
  (M.lift (arithV .sub t62_198 (V.int .i64 1))).bind fun t63_199 =>
  (M.ret t13_40).bind fun t64_200 =>
  (M.ret (s0_3.getD 2 V.undef)).bind fun t65_201 =>
  (M.lift (arithV .sub t64_200 t65_201)).bind fun t66_202 =>
  (M.lift (arithV .sub t63_199 t66_202)).bind fun t67_203 =>
  (M.ret t67_203).bind fun t13_204 =>
  (M.ret (V.int .i64 1)).bind fun t14_205 =>
  slices_pdqsortCmpFunc_ferry_api_Timer_j2 G call s0_3 x0 x4 j3_31 t12_7 t13_204 t14_205)
   (slices_pdqsortCmpFunc_ferry_api_Timer_j2 G call s0_3 x0 x4 j3_31 t12_7 t13_40 t14_41))

noncomputable def slices_pdqsortCmpFunc_ferry_api_Timer_l1 (G : Nat → Option (List V)) (call : FuncId → List V → M V) (x0 : V) (x4 : V) (s0_3 : List V) : M R :=
  (M.ret (s0_3.getD 4 V.undef)).bind fun t21_4 =>
  (M.ret (s0_3.getD 2 V.undef)).bind fun t22_5 =>
  (M.lift (arithV .sub t21_4 t22_5)).bind fun t23_6 =>
  (M.ret t23_6).bind fun t12_7 =>
  (M.ret t12_7).bind fun t24_8 =>
  (M.lift (arithV .leq t24_8 (V.int .i64 12))).bind fun t25_9 =>
  (condV t25_9
   ((M.ret x0).bind fun t26_10 =>
  (M.ret (s0_3.getD 2 V.undef)).bind fun t27_11 =>
  (M.ret (s0_3.getD 4 V.undef)).bind fun t28_12 =>
  (M.ret x4).bind fun t29_13 =>
  (callV (cfg G) call 112 [t26_10, t27_11, t28_12, t29_13]).bind fun t30_14 =>
  M.ret (Ex.ret, [(s0_3.getD 0 V.undef), (s0_3.getD 1 V.undef), (s0_3.getD 2 V.undef), (s0_3.getD 3 V.undef), (s0_3.getD 4 V.undef)]))
   ((M.ret (s0_3.getD 0 V.undef)).bind fun t31_15 =>
  (M.lift ((eqV (.sc .int) true t31_15 (V.int .i64 0)).bind fun b => some (.bool b))).bind fun t32_16 =>
  (condV t32_16
   ((M.ret x0).bind fun t33_17 =>
  (M.ret (s0_3.getD 2 V.undef)).bind fun t34_18 =>
  (M.ret (s0_3.getD 4 V.undef)).bind fun t35_19 =>
  (M.ret x4).bind fun t36_20 =>
  (callV (cfg G) call 113 [t33_17, t34_18, t35_19, t36_20]).bind fun t37_21 =>
  M.ret (Ex.ret, [(s0_3.getD 0 V.undef), (s0_3.getD 1 V.undef), (s0_3.getD 2 V.undef), (s0_3.getD 3 V.undef), (s0_3.getD 4 V.undef)]))
   ((M.ret (s0_3.getD 3 V.undef)).bind fun t38_22 =>
  (M.lift (unV .not t38_22)).bind fun t39_23 =>
  (condV t39_23
   ((M.ret x0).bind fun t40_206 =>
  (M.ret (s0_3.getD 2 V.undef)).bind fun t41_207 =>
  (M.ret (s0_3.getD 4 V.undef)).bind fun t42_208 =>
  (M.ret x4).bind fun t43_209 =>
  (callV (cfg G) call 114 [t40_206, t41_207, t42_208, t43_209]).bind fun t44_210 =>
  (M.ret (s0_3.getD 0 V.undef)).bind fun t45_211 =>
  (M.lift (arithV .sub t45_211 (V.int .i64 1))).bind fun t46_212 =>
  (M.ret t46_212).bind fun t3_213 =>
  slices_pdqsortCmpFunc_ferry_api_Timer_j3 G call x0 s0_3 x4 t12_7 t3_213)
   (slices_pdqsortCmpFunc_ferry_api_Timer_j3 G call x0 s0_3 x4 t12_7 (s0_3.getD 0 V.undef)))))))

noncomputable def slices_pdqsortCmpFunc_ferry_api_Timer (G : Nat → Option (List V)) (call : FuncId → List V → M V) (x0 : V) (x1 : V) (x2 : V) (x3 : V) (x4 : V) : M R :=
  (M.ret (V.bool true)).bind fun t10_1 =>
  (M.ret (V.bool true)).bind fun t11_2 =>
  (loopV (slices_pdqsortCmpFunc_ferry_api_Timer_l1 G call x0 x4) [x3, t11_2, x1, t10_1, x2]).bind fun r0_214 => match r0_214.1 with
  | .normal => M.fail
  | .exit k0_215 =>
    (if k0_215 = 0 then
    M.ret (Ex.ret, [V.tuple []])
    else M.fail)
  | .ret =>
    M.ret (Ex.ret, [V.tuple []])

theorem slices_pdqsortCmpFunc_ferry_api_Timer_eq (G : Nat → Option (List V)) (n : Nat) (x0 : V) (x1 : V) (x2 : V) (x3 : V) (x4 : V) : sem (cfg G) (n + 1) 94 [x0, x1, x2, x3, x4] = outV (slices_pdqsortCmpFunc_ferry_api_Timer G (sem (cfg G) n) x0 x1 x2 x3 x4) :=
  (fnV_at (C := cfg G) (n := n) (f := 94) (fn := Tryd.f94) (c := Tryd.f94.body.getD .skip) (by kernel_rfl) (by kernel_rfl) (by kernel_rfl) [x0, x1, x2, x3, x4]).trans (by kernel_rfl)

noncomputable def math_bits_Len (G : Nat → Option (List V)) (call : FuncId → List V → M V) (x0 : V) : M R :=
  (M.ret (V.int .i64 0)).bind fun t2_1 =>
  (condV (V.bool false)
   ((M.ret x0).bind fun t3_2 =>
  (M.lift (convI .u32 t3_2)).bind fun t4_3 =>
  (callV (cfg G) call 120 [t4_3]).bind fun t5_4 =>
  (M.ret t5_4).bind fun t2_5 =>
  M.ret (Ex.ret, [t2_5]))
   ((M.ret x0).bind fun t6_6 =>
  (callV (cfg G) call 121 [t6_6]).bind fun t7_7 =>
  (M.ret t7_7).bind fun t2_8 =>
  M.ret (Ex.ret, [t2_8])))

theorem math_bits_Len_eq (G : Nat → Option (List V)) (n : Nat) (x0 : V) : sem (cfg G) (n + 1) 95 [x0] = outV (math_bits_Len G (sem (cfg G) n) x0) :=
  (fnV_at (C := cfg G) (n := n) (f := 95) (fn := Tryd.f95) (c := Tryd.f95.body.getD .skip) (by kernel_rfl) (by kernel_rfl) (by kernel_rfl) [x0]).trans (by kernel_rfl)

noncomputable def math_bits_Len32_j1 (G : Nat → Option (List V)) (call : FuncId → List V → M V) (j0_12 : V) (j2_15 : V) : M R :=
  (M.ret j2_15).bind fun t13_16 =>
  (M.ret j0_12).bind fun t14_17 =>
  (M.lift (convI .u8 t14_17)).bind fun t15_18 =>
  (M.lift (indexS (V.str ⟨#[0, 1, 2, 2, 3, 3, 3, 3, 4, 4, 4, 4, 4, 4, 4, 4, 5, 5, 5, 5, 5, 5, 5, 5, 5, 5, 5, 5, 5, 5, 5, 5, 6, 6, 6, 6, 6, 6, 6, 6, 6, 6, 6, 6, 6, 6, 6, 6, 6, 6, 6, 6, 6, 6, 6, 6, 6, 6, 6, 6, 6, 6, 6, 6, 7, 7, 7, 7, 7, 7, 7, 7, 7, 7, 7, 7, 7, 7, 7, 7, 7, 7, 7, 7, 7, 7, 7, 7, 7, 7, 7, 7, 7, 7, 7, 7, 7, 7, 7, 7, 7, 7, 7, 7, 7, 7, 7, 7, 7, 7, 7, 7, 7, 7, 7, 7, 7, 7, 7, 7, 7, 7, 7, 7, 7, 7, 7, 7, 8, 8, 8, 8, 8, 8, 8, 8, 8, 8, 8, 8, 8, 8, 8, 8, 8, 8, 8, 8, 8, 8, 8, 8, 8, 8, 8, 8, 8, 8, 8, 8, 8, 8, 8, 8, 8, 8, 8, 8, 8, 8, 8, 8, 8, 8, 8, 8, 8, 8, 8, 8, 8, 8, 8, 8, 8, 8, 8, 8, 8, 8, 8, 8, 8, 8, 8, 8, 8, 8, 8, 8, 8, 8, 8, 8, 8, 8, 8, 8, 8, 8, 8, 8, 8, 8, 8, 8, 8, 8, 8, 8, 8, 8, 8, 8, 8, 8, 8, 8, 8, 8, 8, 8, 8, 8, 8, 8, 8, 8, 8, 8, 8, 8, 8, 8, 8, 8, 8, 8, 8, 8, 8, 8, 8, 8, 8, 8]⟩) t15_18)).bind fun t16_19 =>
  (M.lift (convI .i64 t16_19)).bind fun t17_20 =>
  (M.lift (arithV .add t13_16 t17_20)).bind fun t18_21 =>
  (M.ret t18_21).bind fun t2_22 =>
  M.ret (Ex.ret, [t2_22])

noncomputable def math_bits_Len32_j2 (G : Nat → Option (List V)) (call : FuncId → List V → M V) (j0_6 : V) (j2_7 : V) : M R :=
  (M.ret j0_6).bind fun t7_8 =>
  (M.lift (arithV .geq t7_8 (V.int .u32 256))).bind fun t8_9 =>
  (condV t8_9
   ((M.ret j0_6).bind fun t9_23 =>
  (M.lift (arithV .shr t9_23 (V.int .u64 8))).bind fun t10_24 =>
  (M.ret t10_24).bind fun t0_25 =>
  (M.ret j2_7).bind fun t11_26 =>
  (M.lift (arithV .add t11_26 (V.int .i64 8))).bind fun t12_27 =>
  (M.ret t12_27).bind fun t2_28 =>
  math_bits_Len32_j1 G call t0_25 t2_28)
   (math_bits_Len32_j1 G call j0_6 j2_7))

noncomputable def math_bits_Len32 (G : Nat → Option (List V)) (call : FuncId → List V → M V) (x0 : V) : M R :=
  (M.ret (V.int .i64 0)).bind fun t2_1 =>
  (M.ret x0).bind fun t3_2 =>
  (M.lift (arithV .geq t3_2 (V.int .u32 65536))).bind fun t4_3 =>
  (condV t4_3
   ((M.ret x0).bind fun t5_29 =>
  (M.lift (arithV .shr t5_29 (V.int .u64 16))).bind fun t6_30 =>
  (M.ret t6_30).bind fun t0_31 =>
  (M.ret (V.int .i64 16)).bind fun t2_32 =>
  math_bits_Len32_j2 G call t0_31 t2_32)
   (math_bits_Len32_j2 G call x0 t2_1))

theorem math_bits_Len32_eq (G : Nat → Option (List V)) (n : Nat) (x0 : V) : sem (cfg G) (n + 1) 120 [x0] = outV (math_bits_Len32 G (sem (cfg G) n) x0) :=
  (fnV_at (C := cfg G) (n := n) (f := 120) (fn := Tryd.f120) (c := Tryd.f120.body.getD .skip) (by kernel_rfl) (by kernel_rfl) (by kernel_rfl) [x0]).trans (by kernel_rfl)

noncomputable def math_bits_Len64_j1 (G : Nat → Option (List V)) (call : FuncId → List V → M V) (j0_20 : V) (j2_23 : V) : M R :=
  (M.ret j2_23).bind fun t19_24 =>
  (M.ret j0_20).bind fun t20_25 =>
  (M.lift (convI .u8 t20_25)).bind fun t21_26 =>
  (M.lift (indexS (V.str ⟨#[0, 1, 2, 2, 3, 3, 3, 3, 4, 4, 4, 4, 4, 4, 4, 4, 5, 5, 5, 5, 5, 5, 5, 5, 5, 5, 5, 5, 5, 5, 5, 5, 6, 6, 6, 6, 6, 6, 6, 6, 6, 6, 6, 6, 6, 6, 6, 6, 6, 6, 6, 6, 6, 6, 6, 6, 6, 6, 6, 6, 6, 6, 6, 6, 7, 7, 7, 7, 7, 7, 7, 7, 7, 7, 7, 7, 7, 7, 7, 7, 7, 7, 7, 7, 7, 7, 7, 7, 7, 7, 7, 7, 7, 7, 7, 7, 7, 7, 7, 7, 7, 7, 7, 7, 7, 7, 7, 7, 7, 7, 7, 7, 7, 7, 7, 7, 7, 7, 7, 7, 7, 7, 7, 7, 7, 7, 7, 7, 8, 8, 8, 8, 8, 8, 8, 8, 8, 8, 8, 8, 8, 8, 8, 8, 8, 8, 8, 8, 8, 8, 8, 8, 8, 8, 8, 8, 8, 8, 8, 8, 8, 8, 8, 8, 8, 8, 8, 8, 8, 8, 8, 8, 8, 8, 8, 8, 8, 8, 8, 8, 8, 8, 8, 8, 8, 8, 8, 8, 8, 8, 8, 8, 8, 8, 8, 8, 8, 8, 8, 8, 8, 8, 8, 8, 8, 8, 8, 8, 8, 8, 8, 8, 8, 8, 8, 8, 8, 8, 8, 8, 8, 8, 8, 8, 8, 8, 8, 8, 8, 8, 8, 8, 8, 8, 8, 8, 8, 8, 8, 8, 8, 8, 8, 8, 8, 8, 8, 8, 8, 8, 8, 8, 8, 8, 8, 8]⟩) t21_26)).bind fun t22_27 =>
  (M.lift (convI .i64 t22_27)).bind fun t23_28 =>
  (M.lift (arithV .add t19_24 t23_28)).bind fun t24_29 =>
  (M.ret t24_29).bind fun t2_30 =>
  M.ret (Ex.ret, [t2_30])

noncomputable def math_bits_Len64_j2 (G : Nat → Option (List V)) (call : FuncId → List V → M V) (j0_12 : V) (j2_15 : V) : M R :=
  (M.ret j0_12).bind fun t13_16 =>
  (M.lift (arithV .geq t13_16 (V.int .u64 256))).bind fun t14_17 =>
  (condV t14_17
   ((M.ret j0_12).bind fun t15_31 =>
  (M.lift (arithV .shr t15_31 (V.int .u64 8))).bind fun t16_32 =>
  (M.ret t16_32).bind fun t0_33 =>
  (M.ret j2_15).bind fun t17_34 =>
  (M.lift (arithV .add t17_34 (V.int .i64 8))).bind fun t18_35 =>
  (M.ret t18_35).bind fun t2_36 =>
  math_bits_Len64_j1 G call t0_33 t2_36)
   (math_bits_Len64_j1 G call j0_12 j2_15))

noncomputable def math_bits_Len64_j3 (G : Nat → Option (List V)) (call : FuncId → List V → M V) (j0_6 : V) (j2_7 : V) : M R :=
  (M.ret j0_6).bind fun t7_8 =>
  (M.lift (arithV .geq t7_8 (V.int .u64 65536))).bind fun t8_9 =>
  (condV t8_9
   ((M.ret j0_6).bind fun t9_37 =>
  (M.lift (arithV .shr t9_37 (V.int .u64 16))).bind fun t10_38 =>
  (M.ret t10_38).bind fun t0_39 =>
  (M.ret j2_7).bind fun t11_40 =>
  (M.lift (arithV .add t11_40 (V.int .i64 16))).bind fun t12_41 =>
  (M.ret t12_41).bind fun t2_42 =>
  math_bits_Len64_j2 G call t0_39 t2_42)
   (math_bits_Len64_j2 G call j0_6 j2_7))

noncomputable def math_bits_Len64 (G : Nat → Option (List V)) (call : FuncId → List V → M V) (x0 : V) : M R :=
  (M.ret (V.int .i64 0)).bind fun t2_1 =>
  (M.ret x0).bind fun t3_2 =>
  (M.lift (arithV .geq t3_2 (V.int .u64 4294967296))).bind fun t4_3 =>
  (condV t4_3
   ((M.ret x0).bind fun t5_43 =>
  (M.lift (arithV .shr t5_43 (V.int .u64 32))).bind fun t6_44 =>
  (M.ret t6_44).bind fun t0_45 =>
  (M.ret (V.int .i64 32)).bind fun t2_46 =>
  math_bits_Len64_j3 G call t0_45 t2_46)
   (math_bits_Len64_j3 G call x0 t2_1))

theorem math_bits_Len64_eq (G : Nat → Option (List V)) (n : Nat) (x0 : V) : sem (cfg G) (n + 1) 121 [x0] = outV (math_bits_Len64 G (sem (cfg G) n) x0) :=
  (fnV_at (C := cfg G) (n := n) (f := 121) (fn := Tryd.f121) (c := Tryd.f121.body.getD .skip) (by kernel_rfl) (by kernel_rfl) (by kernel_rfl) [x0]).trans (by kernel_rfl)

noncomputable def slices_SortFunc_ferry_api_Timer_ferry_api_Timer (G : Nat → Option (List V)) (call : FuncId → List V → M V) (x0 : V) (x1 : V) : M R :=
  (M.ret x0).bind fun t5_1 =>
  (M.lift (lenV t5_1)).bind fun t6_2 =>
  (M.ret t6_2).bind fun t4_3 =>
  (M.ret x0).bind fun t7_4 =>
  (M.ret t4_3).bind fun t8_5 =>
  (M.ret t4_3).bind fun t9_6 =>
  (M.lift (convI .u64 t9_6)).bind fun t10_7 =>
  (callV (cfg G) call 95 [t10_7]).bind fun t11_8 =>
  (M.ret x1).bind fun t12_9 =>
  (callV (cfg G) call 94 [t7_4, (V.int .i64 0), t8_5, t11_8, t12_9]).bind fun t13_10 =>
  M.ret (Ex.ret, [V.tuple []])

theorem slices_SortFunc_ferry_api_Timer_ferry_api_Timer_eq (G : Nat → Option (List V)) (n : Nat) (x0 : V) (x1 : V) : sem (cfg G) (n + 1) 69 [x0, x1] = outV (slices_SortFunc_ferry_api_Timer_ferry_api_Timer G (sem (cfg G) n) x0 x1) :=
  (fnV_at (C := cfg G) (n := n) (f := 69) (fn := Tryd.f69) (c := Tryd.f69.body.getD .skip) (by kernel_rfl) (by kernel_rfl) (by kernel_rfl) [x0, x1]).trans (by kernel_rfl)

end Go.Fv.Tr

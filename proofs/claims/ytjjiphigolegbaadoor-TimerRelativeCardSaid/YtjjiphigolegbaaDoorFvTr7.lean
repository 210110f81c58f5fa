/-
  The Go functions ferry/timer.Shift, ferry/ferrylaw08.TimerRelative as plain terms. By an AI agent; no person has read it.
-/
import Derived.Test.YtjjiphigolegbaaDoorFvCf
set_option linter.unusedVariables false
set_option linter.unusedSimpArgs false
set_option linter.unusedSectionVars false
/-! The Go functions ferry/timer.Shift, ferry/ferrylaw08.TimerRelative as plain terms. -/
namespace Go.Fv.Tr
open Go Go.Fv Go.Proofs
set_option linter.unusedVariables false

noncomputable def ferry_timer_Shift_l1 (G : Nat → Option (List V)) (call : FuncId → List V → M V) (t22_22 : V) (t6_20 : V) (x1 : V) (s0_24 : List V) : M R :=
  (M.lift (arithV .lss (s0_24.getD 0 V.undef) t22_22)).bind fun t24_25 =>
  (condV t24_25
   ((M.ret (s0_24.getD 0 V.undef)).bind fun t25_26 =>
  (M.ret t25_26).bind fun t7_27 =>
  (M.ret t6_20).bind fun t26_28 =>
  (M.ret t7_27).bind fun t27_29 =>
  (M.ret t6_20).bind fun t28_30 =>
  (M.ret t7_27).bind fun t29_31 =>
  (M.lift (idxV 2 t28_30 t29_31)).bind fun t30_32 =>
  (M.lift (padd 1 t30_32)).bind fun t31_33 =>
  (load1 t31_33).bind fun t32_34 =>
  (M.ret x1).bind fun t33_35 =>
  (M.lift (arithV .sub t32_34 t33_35)).bind fun t34_36 =>
  (M.lift (maxV t34_36 (V.int .i64 0))).bind fun t35_37 =>
  (M.lift (idxV 2 t26_28 t27_29)).bind fun t36_38 =>
  (M.lift (padd 1 t36_38)).bind fun t37_39 =>
  (storeN 1 t37_39 t35_37).bind fun _ =>
  (M.lift (arithV .add (s0_24.getD 0 V.undef) (V.int .i64 1))).bind fun t38_40 =>
  (M.ret t38_40).bind fun t23_41 =>
  M.ret (Ex.normal, [t23_41]))
   (M.ret ((Ex.exit 0), [(s0_24.getD 0 V.undef)])))

noncomputable def ferry_timer_Shift (G : Nat → Option (List V)) (call : FuncId → List V → M V) (x0 : V) (x1 : V) : M R :=
  (M.ret V.nils).bind fun t4_1 =>
  (M.ret V.nili).bind fun t5_2 =>
  (M.ret x0).bind fun t8_3 =>
  (callV (cfg G) call 95 [t8_3, (V.int .i64 8)]).bind fun t9_4 =>
  (M.lift (unV .not t9_4)).bind fun t10_5 =>
  (condV t10_5
   (((load1 (glob (cfg G) 0)).bind fun y0_6 =>
  (M.ret V.nils).bind fun y1_7 =>
  (M.ret y0_6).bind fun y2_8 =>
  M.ret (Ex.ret, [V.tuple [y1_7, y2_8]])))
   ((M.ret x1).bind fun t12_9 =>
  (M.lift (arithV .lss t12_9 (V.int .i64 1))).bind fun t13_10 =>
  (M.ret t13_10).bind fun t14_11 =>
  (guardV t14_11 false (M.ret x1)).bind fun t15_12 =>
  (guardV t14_11 false (M.lift (arithV .gtr t15_12 (V.int .i64 10000)))).bind fun t16_13 =>
  (M.lift (pickV t14_11 (V.bool true) t16_13)).bind fun t17_14 =>
  (condV t17_14
   (((load1 (glob (cfg G) 2)).bind fun y0_15 =>
  (M.ret V.nils).bind fun y1_16 =>
  (M.ret y0_15).bind fun y2_17 =>
  M.ret (Ex.ret, [V.tuple [y1_16, y2_17]])))
   ((M.ret x0).bind fun t19_18 =>
  (callV (cfg G) call 74 [t19_18]).bind fun t20_19 =>
  (M.ret t20_19).bind fun t6_20 =>
  (M.ret t6_20).bind fun t21_21 =>
  (M.lift (lenV t21_21)).bind fun t22_22 =>
  (M.ret (V.int .i64 0)).bind fun t23_23 =>
  (loopV (ferry_timer_Shift_l1 G call t22_22 t6_20 x1) [t23_23]).bind fun r0_42 => match r0_42.1 with
  | .normal => M.fail
  | .exit k0_43 =>
    (if k0_43 = 0 then
    (M.ret t6_20).bind fun t39_44 =>
    (callV (cfg G) call 98 [t39_44, (V.fn 99 [])]).bind fun t40_45 =>
    (M.ret t6_20).bind fun t41_46 =>
    (M.ret t41_46).bind fun t4_47 =>
    (M.ret V.nili).bind fun t5_48 =>
    M.ret (Ex.ret, [V.tuple [t4_47, t5_48]])
    else M.fail)
  | .ret =>
    M.ret (Ex.ret, [V.tuple [t4_1, t5_2]])))))

theorem ferry_timer_Shift_eq (G : Nat → Option (List V)) (n : Nat) (x0 : V) (x1 : V) : sem (cfg G) (n + 1) 62 [x0, x1] = outV (ferry_timer_Shift G (sem (cfg G) n) x0 x1) :=
  (fnV_at (C := cfg G) (n := n) (f := 62) (fn := Tryd.f62) (c := Tryd.f62.body.getD .skip) (by kernel_rfl) (by kernel_rfl) (by kernel_rfl) [x0, x1]).trans (by kernel_rfl)

noncomputable def ferry_ferrylaw08_TimerRelative_l1 (G : Nat → Option (List V)) (call : FuncId → List V → M V) (t11_58 : V) (t17_89 : V) (t14_71 : V) (s0_91 : List V) : M R :=
  (M.ret (s0_91.getD 0 V.undef)).bind fun t95_92 =>
  (M.ret t11_58).bind fun t96_93 =>
  (M.lift (lenV t96_93)).bind fun t97_94 =>
  (M.lift (arithV .lss t95_92 t97_94)).bind fun t98_95 =>
  (condV t98_95
   ((M.ret t11_58).bind fun t101_96 =>
  (M.ret (s0_91.getD 0 V.undef)).bind fun t102_97 =>
  (M.lift (idxV 1 t101_96 t102_97)).bind fun t103_98 =>
  (load1 t103_98).bind fun t104_99 =>
  (M.lift (arithV .and t104_99 (V.int .i64 7))).bind fun t105_100 =>
  (M.lift (aidxV 8 1 t17_89 t105_100)).bind fun t106_101 =>
  (load1 t106_101).bind fun t107_102 =>
  (M.lift (arithV .add t107_102 (V.int .i64 1))).bind fun t108_103 =>
  (M.lift (aidxV 8 1 t17_89 t105_100)).bind fun t109_104 =>
  (storeN 1 t109_104 t108_103).bind fun _ =>
  (M.ret t14_71).bind fun t110_105 =>
  (M.ret (s0_91.getD 0 V.undef)).bind fun t111_106 =>
  (M.lift (idxV 1 t110_105 t111_106)).bind fun t112_107 =>
  (load1 t112_107).bind fun t113_108 =>
  (M.lift (arithV .and t113_108 (V.int .i64 7))).bind fun t114_109 =>
  (M.lift (aidxV 8 1 t17_89 t114_109)).bind fun t115_110 =>
  (load1 t115_110).bind fun t116_111 =>
  (M.lift (arithV .sub t116_111 (V.int .i64 1))).bind fun t117_112 =>
  (M.lift (aidxV 8 1 t17_89 t114_109)).bind fun t118_113 =>
  (storeN 1 t118_113 t117_112).bind fun _ =>
  (M.ret (s0_91.getD 0 V.undef)).bind fun t99_114 =>
  (M.lift (arithV .add t99_114 (V.int .i64 1))).bind fun t100_115 =>
  (M.ret t100_115).bind fun t18_116 =>
  M.ret (Ex.normal, [t18_116]))
   (M.ret ((Ex.exit 0), [(s0_91.getD 0 V.undef)])))

noncomputable def ferry_ferrylaw08_TimerRelative_l2 (G : Nat → Option (List V)) (call : FuncId → List V → M V) (t7_7 : V) (t9_34 : V) (t1_21 : V) (s0_124 : List V) : M R :=
  (M.ret (s0_124.getD 1 V.undef)).bind fun t122_125 =>
  (M.ret t7_7).bind fun t123_126 =>
  (M.lift (lenV t123_126)).bind fun t124_127 =>
  (M.lift (arithV .lss t122_125 t124_127)).bind fun t125_128 =>
  (condV t125_128
   ((M.ret t9_34).bind fun t129_129 =>
  (M.ret t7_7).bind fun t130_130 =>
  (M.ret (s0_124.getD 1 V.undef)).bind fun t131_131 =>
  (M.lift (idxV 2 t130_130 t131_131)).bind fun t132_132 =>
  (M.lift (padd 0 t132_132)).bind fun t133_133 =>
  (load1 t133_133).bind fun t134_134 =>
  (callV (cfg G) call 61 [t129_129, t134_134]).bind fun t135_135 =>
  (M.ret t135_135).bind fun t128_136 =>
  (M.lift (extractV t128_136 0)).bind fun t136_137 =>
  (M.lift (extractV t128_136 1)).bind fun t137_138 =>
  (M.ret t136_137).bind fun t20_139 =>
  (M.ret t137_138).bind fun t21_140 =>
  (M.ret t21_140).bind fun t138_141 =>
  (M.lift (unV .not t138_141)).bind fun t139_142 =>
  (M.ret t139_142).bind fun t140_143 =>
  (guardV t140_143 false (M.ret t20_139)).bind fun t141_144 =>
  (guardV t140_143 false (M.ret t7_7)).bind fun t142_145 =>
  (guardV t140_143 false (M.ret (s0_124.getD 1 V.undef))).bind fun t143_146 =>
  (guardV t140_143 false (M.lift (idxV 2 t142_145 t143_146))).bind fun t144_147 =>
  (guardV t140_143 false (M.lift (padd 1 t144_147))).bind fun t145_148 =>
  (guardV t140_143 false (load1 t145_148)).bind fun t146_149 =>
  (guardV t140_143 false (M.ret t1_21)).bind fun t147_150 =>
  (guardV t140_143 false (M.lift (arithV .sub t146_149 t147_150))).bind fun t148_151 =>
  (guardV t140_143 false (M.lift (maxV t148_151 (V.int .i64 0)))).bind fun t149_152 =>
  (guardV t140_143 false (M.lift ((eqV (.sc .int) false t141_144 t149_152).bind fun b => some (.bool !b)))).bind fun t150_153 =>
  (M.lift (pickV t140_143 (V.bool true) t150_153)).bind fun t151_154 =>
  (condV t151_154
   ((M.ret (V.bool false)).bind fun t6_155 =>
  M.ret (Ex.ret, [t6_155, (s0_124.getD 1 V.undef)]))
   ((M.ret (s0_124.getD 1 V.undef)).bind fun t126_156 =>
  (M.lift (arithV .add t126_156 (V.int .i64 1))).bind fun t127_157 =>
  (M.ret t127_157).bind fun t19_158 =>
  M.ret (Ex.normal, [(s0_124.getD 0 V.undef), t19_158]))))
   (M.ret ((Ex.exit 2), [(s0_124.getD 0 V.undef), (s0_124.getD 1 V.undef)])))

noncomputable def ferry_ferrylaw08_TimerRelative_l3 (G : Nat → Option (List V)) (call : FuncId → List V → M V) (t7_7 : V) (t9_34 : V) (s0_173 : List V) : M R :=
  (M.ret (s0_173.getD 1 V.undef)).bind fun t163_174 =>
  (M.ret t7_7).bind fun t164_175 =>
  (M.lift (lenV t164_175)).bind fun t165_176 =>
  (M.lift (arithV .lss t163_174 t165_176)).bind fun t166_177 =>
  (condV t166_177
   (((M.ret t9_34).bind fun y0_178 =>
  (M.ret (s0_173.getD 1 V.undef)).bind fun y1_179 =>
  (M.lift (idxV 2 y0_178 y1_179)).bind fun y2_180 =>
  (M.lift (padd 0 y2_180)).bind fun y3_181 =>
  (load1 y3_181).bind fun y4_182 =>
  (M.ret t7_7).bind fun y5_183 =>
  (M.ret (s0_173.getD 1 V.undef)).bind fun y6_184 =>
  (M.lift (idxV 2 y5_183 y6_184)).bind fun y7_185 =>
  (M.lift (padd 0 y7_185)).bind fun y8_186 =>
  (load1 y8_186).bind fun y9_187 =>
  (M.lift ((eqV (.sc .int) false y4_182 y9_187).bind fun b => some (.bool !b))).bind fun y10_188 =>
  (condV y10_188
   ((M.ret (V.bool false)).bind fun t6_189 =>
  M.ret (Ex.ret, [t6_189, (s0_173.getD 1 V.undef)]))
   ((M.ret (s0_173.getD 1 V.undef)).bind fun t167_190 =>
  (M.lift (arithV .add t167_190 (V.int .i64 1))).bind fun t168_191 =>
  (M.ret t168_191).bind fun t22_192 =>
  M.ret (Ex.normal, [(s0_173.getD 0 V.undef), t22_192])))))
   (M.ret ((Ex.exit 4), [(s0_173.getD 0 V.undef), (s0_173.getD 1 V.undef)])))

noncomputable def ferry_ferrylaw08_TimerRelative (G : Nat → Option (List V)) (call : FuncId → List V → M V) (x0 : V) (x1 : V) (x2 : V) : M R :=
  (M.ret (V.bool false)).bind fun t6_1 =>
  (M.ret x0).bind fun t24_2 =>
  (callV (cfg G) call 52 [t24_2]).bind fun t25_3 =>
  (M.ret t25_3).bind fun t23_4 =>
  (M.lift (extractV t23_4 0)).bind fun t26_5 =>
  (M.lift (extractV t23_4 1)).bind fun t27_6 =>
  (M.ret t26_5).bind fun t7_7 =>
  (M.ret t27_6).bind fun t8_8 =>
  (callV (cfg G) call 53 []).bind fun t28_9 =>
  (M.lift (unV .not t28_9)).bind fun t29_10 =>
  (M.ret t29_10).bind fun t30_11 =>
  (guardV t30_11 false (M.ret t8_8)).bind fun t31_12 =>
  (guardV t30_11 false (M.lift (unV .not t31_12))).bind fun t32_13 =>
  (M.lift (pickV t30_11 (V.bool true) t32_13)).bind fun t33_14 =>
  (condV t33_14
   ((M.ret (V.bool false)).bind fun t6_15 =>
  M.ret (Ex.ret, [t6_15]))
   ((M.ret x1).bind fun t34_16 =>
  (M.lift (convI .u64 t34_16)).bind fun t35_17 =>
  (M.lift (arithV .rem t35_17 (V.int .u64 10000))).bind fun t36_18 =>
  (M.lift (convI .i64 t36_18)).bind fun t37_19 =>
  (M.lift (arithV .add (V.int .i64 1) t37_19)).bind fun t38_20 =>
  (M.ret t38_20).bind fun t1_21 =>
  (M.ret x2).bind fun t39_22 =>
  (M.lift (convI .u64 t39_22)).bind fun t40_23 =>
  (M.lift (arithV .rem t40_23 (V.int .u64 1010001))).bind fun t41_24 =>
  (M.lift (convI .i64 t41_24)).bind fun t42_25 =>
  (M.ret t42_25).bind fun t2_26 =>
  (M.ret t7_7).bind fun t44_27 =>
  (callV (cfg G) call 55 [t44_27]).bind fun t45_28 =>
  (M.ret t1_21).bind fun t46_29 =>
  (callV (cfg G) call 62 [t45_28, t46_29]).bind fun t47_30 =>
  (M.ret t47_30).bind fun t43_31 =>
  (M.lift (extractV t43_31 0)).bind fun t48_32 =>
  (M.lift (extractV t43_31 1)).bind fun t49_33 =>
  (M.ret t48_32).bind fun t9_34 =>
  (M.ret t49_33).bind fun t10_35 =>
  (M.ret t10_35).bind fun t50_36 =>
  (M.lift ((eqV .iface true t50_36 V.nili).bind fun b => some (.bool !b))).bind fun t51_37 =>
  (M.ret t51_37).bind fun t52_38 =>
  (guardV t52_38 false (M.ret t9_34)).bind fun t53_39 =>
  (guardV t52_38 false (callV (cfg G) call 60 [t53_39, (V.int .i64 8)])).bind fun t54_40 =>
  (guardV t52_38 false (M.lift ((eqV .iface true t54_40 V.nili).bind fun b => some (.bool !b)))).bind fun t55_41 =>
  (M.lift (pickV t52_38 (V.bool true) t55_41)).bind fun t56_42 =>
  (M.ret t56_42).bind fun t57_43 =>
  (guardV t57_43 false (M.ret t9_34)).bind fun t58_44 =>
  (guardV t57_43 false (M.lift (lenV t58_44))).bind fun t59_45 =>
  (guardV t57_43 false (M.ret t7_7)).bind fun t60_46 =>
  (guardV t57_43 false (M.lift (lenV t60_46))).bind fun t61_47 =>
  (guardV t57_43 false (M.lift ((eqV (.sc .int) false t59_45 t61_47).bind fun b => some (.bool !b)))).bind fun t62_48 =>
  (M.lift (pickV t57_43 (V.bool true) t62_48)).bind fun t63_49 =>
  (condV t63_49
   ((M.ret (V.bool false)).bind fun t6_50 =>
  M.ret (Ex.ret, [t6_50]))
   ((M.ret t9_34).bind fun t65_51 =>
  (M.ret t2_26).bind fun t66_52 =>
  (callV (cfg G) call 54 [t65_51, t66_52]).bind fun t67_53 =>
  (M.ret t67_53).bind fun t64_54 =>
  (M.lift (extractV t64_54 0)).bind fun t68_55 =>
  (M.lift (extractV t64_54 1)).bind fun t69_56 =>
  (M.lift (extractV t64_54 2)).bind fun t70_57 =>
  (M.ret t68_55).bind fun t11_58 =>
  (M.ret t69_56).bind fun t12_59 =>
  (M.ret t70_57).bind fun t13_60 =>
  (M.ret t7_7).bind fun t72_61 =>
  (callV (cfg G) call 55 [t72_61]).bind fun t73_62 =>
  (M.ret t2_26).bind fun t74_63 =>
  (M.ret t1_21).bind fun t75_64 =>
  (M.lift (arithV .add t74_63 t75_64)).bind fun t76_65 =>
  (callV (cfg G) call 54 [t73_62, t76_65]).bind fun t77_66 =>
  (M.ret t77_66).bind fun t71_67 =>
  (M.lift (extractV t71_67 0)).bind fun t78_68 =>
  (M.lift (extractV t71_67 1)).bind fun t79_69 =>
  (M.lift (extractV t71_67 2)).bind fun t80_70 =>
  (M.ret t78_68).bind fun t14_71 =>
  (M.ret t79_69).bind fun t15_72 =>
  (M.ret t80_70).bind fun t16_73 =>
  (M.ret t13_60).bind fun t81_74 =>
  (M.lift ((eqV .iface true t81_74 V.nili).bind fun b => some (.bool !b))).bind fun t82_75 =>
  (M.ret t82_75).bind fun t83_76 =>
  (guardV t83_76 false (M.ret t16_73)).bind fun t84_77 =>
  (guardV t83_76 false (M.lift ((eqV .iface true t84_77 V.nili).bind fun b => some (.bool !b)))).bind fun t85_78 =>
  (M.lift (pickV t83_76 (V.bool true) t85_78)).bind fun t86_79 =>
  (M.ret t86_79).bind fun t87_80 =>
  (guardV t87_80 false (M.ret t11_58)).bind fun t88_81 =>
  (guardV t87_80 false (M.lift (lenV t88_81))).bind fun t89_82 =>
  (guardV t87_80 false (M.ret t14_71)).bind fun t90_83 =>
  (guardV t87_80 false (M.lift (lenV t90_83))).bind fun t91_84 =>
  (guardV t87_80 false (M.lift ((eqV (.sc .int) false t89_82 t91_84).bind fun b => some (.bool !b)))).bind fun t92_85 =>
  (M.lift (pickV t87_80 (V.bool true) t92_85)).bind fun t93_86 =>
  (condV t93_86
   ((M.ret (V.bool false)).bind fun t6_87 =>
  M.ret (Ex.ret, [t6_87]))
   ((M.lift (buildV [(V.int .i64 0), (V.int .i64 0), (V.int .i64 0), (V.int .i64 0), (V.int .i64 0), (V.int .i64 0), (V.int .i64 0), (V.int .i64 0)] [])).bind fun t94_88 =>
  (newV (.agg [(V.int .i64 0), (V.int .i64 0), (V.int .i64 0), (V.int .i64 0), (V.int .i64 0), (V.int .i64 0), (V.int .i64 0), (V.int .i64 0)])).bind fun t17_89 =>
  (storeN 8 t17_89 t94_88).bind fun _ =>
  (M.ret (V.int .i64 0)).bind fun t18_90 =>
  (loopV (ferry_ferrylaw08_TimerRelative_l1 G call t11_58 t17_89 t14_71) [t18_90]).bind fun r0_117 => match r0_117.1 with
  | .normal => M.fail
  | .exit k0_118 =>
    (if k0_118 = 0 then
    (loadN 8 t17_89).bind fun t119_119 =>
    (M.lift (buildV [(V.int .i64 0), (V.int .i64 0), (V.int .i64 0), (V.int .i64 0), (V.int .i64 0), (V.int .i64 0), (V.int .i64 0), (V.int .i64 0)] [])).bind fun t120_120 =>
    (M.lift ((eqV (.agg [.int, .int, .int, .int, .int, .int, .int, .int]) false t119_119 t120_120).bind fun b => some (.bool !b))).bind fun t121_121 =>
    (condV t121_121
     ((M.ret (V.bool false)).bind fun t6_122 =>
    M.ret (Ex.ret, [t6_122]))
     ((M.ret (V.int .i64 0)).bind fun t19_123 =>
    (loopV (ferry_ferrylaw08_TimerRelative_l2 G call t7_7 t9_34 t1_21) [t6_1, t19_123]).bind fun r0_159 => match r0_159.1 with
    | .normal => M.fail
    | .exit k0_160 =>
      (if k0_160 = 2 then
      (M.ret t7_7).bind fun t152_161 =>
      (M.lift (lenV t152_161)).bind fun t153_162 =>
      (M.lift (arithV .gtr t153_162 (V.int .i64 0))).bind fun t154_163 =>
      (M.ret t154_163).bind fun t155_164 =>
      (guardV t155_164 true (M.ret t7_7)).bind fun t156_165 =>
      (guardV t155_164 true (M.lift (idxV 2 t156_165 (V.int .i64 0)))).bind fun t157_166 =>
      (guardV t155_164 true (M.lift (padd 1 t157_166))).bind fun t158_167 =>
      (guardV t155_164 true (load1 t158_167)).bind fun t159_168 =>
      (guardV t155_164 true (M.ret t1_21)).bind fun t160_169 =>
      (guardV t155_164 true (M.lift (arithV .geq t159_168 t160_169))).bind fun t161_170 =>
      (M.lift (pickV t155_164 t161_170 (V.bool false))).bind fun t162_171 =>
      (condV t162_171
       ((M.ret (V.int .i64 0)).bind fun t22_172 =>
      (loopV (ferry_ferrylaw08_TimerRelative_l3 G call t7_7 t9_34) [(r0_159.2.getD 0 V.undef), t22_172]).bind fun r0_193 => match r0_193.1 with
      | .normal => M.fail
      | .exit k0_194 =>
        (if k0_194 = 4 then
        (M.ret t11_58).bind fun t180_195 =>
        (M.ret t14_71).bind fun t181_196 =>
        (callV (cfg G) call 56 [t180_195, t181_196]).bind fun t182_197 =>
        (M.ret t182_197).bind fun t6_198 =>
        M.ret (Ex.ret, [t6_198])
        else M.fail)
      | .ret =>
        M.ret (Ex.ret, [(r0_193.2.getD 0 V.undef)]))
       ((M.ret (V.bool true)).bind fun t6_199 =>
      M.ret (Ex.ret, [t6_199])))
      else M.fail)
    | .ret =>
      M.ret (Ex.ret, [(r0_159.2.getD 0 V.undef)])))
    else M.fail)
  | .ret =>
    M.ret (Ex.ret, [t6_1])))))))

theorem ferry_ferrylaw08_TimerRelative_eq (G : Nat → Option (List V)) (n : Nat) (x0 : V) (x1 : V) (x2 : V) : sem (cfg G) (n + 1) 13 [x0, x1, x2] = outV (ferry_ferrylaw08_TimerRelative G (sem (cfg G) n) x0 x1 x2) :=
  (fnV_at (C := cfg G) (n := n) (f := 13) (fn := Tryd.f13) (c := Tryd.f13.body.getD .skip) (by kernel_rfl) (by kernel_rfl) (by kernel_rfl) [x0, x1, x2]).trans (by kernel_rfl)

end Go.Fv.Tr

/-
  The Go functions ferry/ferrylaw09.ReadyBlocks, ferry/ready.Block, ferry/ready.Wake as plain terms. By an AI agent; no person has read it.
-/
import Derived.Test.YtjjiphigolegbaaDoorFvCf
set_option linter.unusedVariables false
set_option linter.unusedSimpArgs false
set_option linter.unusedSectionVars false
/-! The Go functions ferry/ferrylaw09.ReadyBlocks, ferry/ready.Block, ferry/ready.Wake as plain terms. -/
namespace Go.Fv.Tr
open Go Go.Fv Go.Proofs
set_option linter.unusedVariables false

noncomputable def ferry_ferrylaw09_ReadyBlocks_l1 (G : Nat → Option (List V)) (call : FuncId → List V → M V) (t41_45 : V) (t40_44 : V) (t1_1 : V) (s0_47 : List V) : M R :=
  (M.lift (arithV .lss (s0_47.getD 1 V.undef) t41_45)).bind fun t43_48 =>
  (condV t43_48
   ((M.lift (idxV 1 t40_44 (s0_47.getD 1 V.undef))).bind fun t44_49 =>
  (load1 t44_49).bind fun t45_50 =>
  (M.ret t45_50).bind fun t7_51 =>
  (M.ret (s0_47.getD 0 V.undef)).bind fun t46_52 =>
  (M.ret t46_52).bind fun t47_53 =>
  (guardV t47_53 false (M.ret t7_51)).bind fun t48_54 =>
  (guardV t47_53 false (M.lift (padd 3 t1_1))).bind fun t49_55 =>
  (guardV t47_53 false (load1 t49_55)).bind fun t50_56 =>
  (guardV t47_53 false (M.lift ((eqV (.sc .int) false t48_54 t50_56).bind fun b => some (.bool b)))).bind fun t51_57 =>
  (M.lift (pickV t47_53 (V.bool true) t51_57)).bind fun t52_58 =>
  (M.ret t52_58).bind fun t5_59 =>
  (M.lift (arithV .add (s0_47.getD 1 V.undef) (V.int .i64 1))).bind fun t53_60 =>
  (M.ret t53_60).bind fun t42_61 =>
  M.ret (Ex.normal, [t5_59, t42_61]))
   (M.ret ((Ex.exit 0), [(s0_47.getD 0 V.undef), (s0_47.getD 1 V.undef)])))

noncomputable def ferry_ferrylaw09_ReadyBlocks_l2 (G : Nat → Option (List V)) (call : FuncId → List V → M V) (t61_73 : V) (t60_72 : V) (t1_1 : V) (s0_75 : List V) : M R :=
  (M.lift (arithV .lss (s0_75.getD 1 V.undef) t61_73)).bind fun t63_76 =>
  (condV t63_76
   ((M.lift (idxV 1 t60_72 (s0_75.getD 1 V.undef))).bind fun t64_77 =>
  (load1 t64_77).bind fun t65_78 =>
  (M.ret t65_78).bind fun t11_79 =>
  (M.ret (s0_75.getD 0 V.undef)).bind fun t66_80 =>
  (M.ret t66_80).bind fun t67_81 =>
  (guardV t67_81 false (M.ret t11_79)).bind fun t68_82 =>
  (guardV t67_81 false (M.lift (padd 3 t1_1))).bind fun t69_83 =>
  (guardV t67_81 false (load1 t69_83)).bind fun t70_84 =>
  (guardV t67_81 false (M.lift ((eqV (.sc .int) false t68_82 t70_84).bind fun b => some (.bool b)))).bind fun t71_85 =>
  (M.lift (pickV t67_81 (V.bool true) t71_85)).bind fun t72_86 =>
  (M.ret t72_86).bind fun t9_87 =>
  (M.lift (arithV .add (s0_75.getD 1 V.undef) (V.int .i64 1))).bind fun t73_88 =>
  (M.ret t73_88).bind fun t62_89 =>
  M.ret (Ex.normal, [t9_87, t62_89]))
   (M.ret ((Ex.exit 2), [(s0_75.getD 0 V.undef), (s0_75.getD 1 V.undef)])))

noncomputable def ferry_ferrylaw09_ReadyBlocks (G : Nat → Option (List V)) (call : FuncId → List V → M V) (x0 : V) : M R :=
  (newV x0).bind fun t1_1 =>
  (M.ret (V.bool false)).bind fun t2_2 =>
  (callV (cfg G) call 15 []).bind fun t16_3 =>
  (M.lift (unV .not t16_3)).bind fun t17_4 =>
  (condV t17_4
   ((M.ret (V.bool false)).bind fun t2_5 =>
  M.ret (Ex.ret, [t2_5]))
   ((getN.bind fun n_6 =>
  (M.lift (padd 0 t1_1)).bind fun y0_7 =>
  getN.bind fun n_8 =>
  (loadN 3 y0_7).bind fun y1_9 =>
  getN.bind fun n_10 =>
  (qrun (visB n_6 [(n_8, n_10, true), (n_6, n_8, true)]) (callV (cfg G) call 17 [y1_9])).bind fun y2_11 =>
  getN.bind fun n_12 =>
  (M.lift (padd 3 t1_1)).bind fun y3_13 =>
  getN.bind fun n_14 =>
  (load1 y3_13).bind fun y4_15 =>
  getN.bind fun n_16 =>
  (M.lift (padd 4 t1_1)).bind fun y5_17 =>
  getN.bind fun n_18 =>
  (load1 y5_17).bind fun y6_19 =>
  getN.bind fun n_20 =>
  (M.lift (padd 5 t1_1)).bind fun y7_21 =>
  getN.bind fun n_22 =>
  (load1 y7_21).bind fun y8_23 =>
  getN.bind fun n_24 =>
  (M.lift (padd 6 t1_1)).bind fun y9_25 =>
  getN.bind fun n_26 =>
  (load1 y9_25).bind fun y10_27 =>
  getN.bind fun n_28 =>
  (qrun (visB n_6 [(n_26, n_28, true), (n_24, n_26, true), (n_22, n_24, true), (n_20, n_22, true), (n_18, n_20, true), (n_16, n_18, true), (n_14, n_16, true), (n_12, n_14, true), (n_10, n_12, true), (n_8, n_10, true), (n_6, n_8, true)]) (callV (cfg G) call 63 [y2_11, y4_15, y6_19, y8_23, y10_27])).bind fun y11_29 =>
  (M.ret y11_29).bind fun y12_30 =>
  (M.lift (extractV y12_30 0)).bind fun y13_31 =>
  (M.lift (extractV y12_30 1)).bind fun y14_32 =>
  (newV (.agg [V.nils, V.nils, V.nils])).bind fun y15_33 =>
  (storeN 3 y15_33 y13_31).bind fun _ =>
  (M.ret y14_32).bind fun y17_34 =>
  (M.ret y17_34).bind fun t33_35 =>
  (M.lift ((eqV .iface true t33_35 V.nili).bind fun b => some (.bool !b))).bind fun t34_36 =>
  (condV t34_36
   ((M.lift (padd 0 y15_33)).bind fun t35_37 =>
  (load1 t35_37).bind fun t36_38 =>
  (M.lift (lenV t36_38)).bind fun t37_39 =>
  (M.lift ((eqV (.sc .int) true t37_39 (V.int .i64 0)).bind fun b => some (.bool b))).bind fun t38_40 =>
  (M.ret t38_40).bind fun t2_41 =>
  M.ret (Ex.ret, [t2_41]))
   ((M.ret (V.bool false)).bind fun t5_42 =>
  (M.lift (padd 1 y15_33)).bind fun t39_43 =>
  (load1 t39_43).bind fun t40_44 =>
  (M.lift (lenV t40_44)).bind fun t41_45 =>
  (M.ret (V.int .i64 0)).bind fun t42_46 =>
  (loopV (ferry_ferrylaw09_ReadyBlocks_l1 G call t41_45 t40_44 t1_1) [t5_42, t42_46]).bind fun r0_62 => match r0_62.1 with
  | .normal => M.fail
  | .exit k0_63 =>
    (if k0_63 = 0 then
    (loadN 3 y15_33).bind fun t54_64 =>
    (M.lift (padd 4 t1_1)).bind fun t55_65 =>
    (load1 t55_65).bind fun t56_66 =>
    (M.lift (padd 5 t1_1)).bind fun t57_67 =>
    (load1 t57_67).bind fun t58_68 =>
    (callV (cfg G) call 44 [t54_64, t56_66, t58_68]).bind fun t59_69 =>
    (M.ret t59_69).bind fun t8_70 =>
    (M.ret (V.bool false)).bind fun t9_71 =>
    (M.ret t8_70).bind fun t60_72 =>
    (M.lift (lenV t60_72)).bind fun t61_73 =>
    (M.ret (V.int .i64 0)).bind fun t62_74 =>
    (loopV (ferry_ferrylaw09_ReadyBlocks_l2 G call t61_73 t60_72 t1_1) [t9_71, t62_74]).bind fun r0_90 => match r0_90.1 with
    | .normal => M.fail
    | .exit k0_91 =>
      (if k0_91 = 2 then
      (M.ret (r0_62.2.getD 0 V.undef)).bind fun t74_92 =>
      (M.ret t74_92).bind fun t75_93 =>
      (guardV t75_93 false (M.ret (r0_90.2.getD 0 V.undef))).bind fun t76_94 =>
      (guardV t75_93 false (M.lift (unV .not t76_94))).bind fun t77_95 =>
      (M.lift (pickV t75_93 (V.bool true) t77_95)).bind fun t78_96 =>
      (condV t78_96
       ((M.ret (V.bool false)).bind fun t2_97 =>
      M.ret (Ex.ret, [t2_97]))
       ((loadN 3 y15_33).bind fun t80_98 =>
      (M.lift (padd 3 t1_1)).bind fun t81_99 =>
      (load1 t81_99).bind fun t82_100 =>
      (M.lift (padd 10 t1_1)).bind fun t83_101 =>
      (load1 t83_101).bind fun t84_102 =>
      (callV (cfg G) call 64 [t80_98, t82_100, t84_102]).bind fun t85_103 =>
      (M.ret t85_103).bind fun t79_104 =>
      (M.lift (extractV t79_104 0)).bind fun t86_105 =>
      (M.lift (extractV t79_104 1)).bind fun t87_106 =>
      (newV (.agg [V.nils, V.nils, V.nils])).bind fun t12_107 =>
      (storeN 3 t12_107 t86_105).bind fun _ =>
      (M.ret t87_106).bind fun t4_108 =>
      (getN.bind fun n_109 =>
      (M.lift (padd 0 t1_1)).bind fun y0_110 =>
      getN.bind fun n_111 =>
      (loadN 3 y0_110).bind fun y1_112 =>
      getN.bind fun n_113 =>
      (qrun (visB n_109 [(n_111, n_113, true), (n_109, n_111, true)]) (callV (cfg G) call 17 [y1_112])).bind fun y2_114 =>
      getN.bind fun n_115 =>
      (M.lift (padd 3 t1_1)).bind fun y3_116 =>
      getN.bind fun n_117 =>
      (load1 y3_116).bind fun y4_118 =>
      getN.bind fun n_119 =>
      (qrun (visB n_109 [(n_117, n_119, true), (n_115, n_117, true), (n_113, n_115, true), (n_111, n_113, true), (n_109, n_111, true)]) (callV (cfg G) call 19 [y2_114, y4_118])).bind fun y5_120 =>
      (M.ret y5_120).bind fun y6_121 =>
      (M.lift (extractV y6_121 0)).bind fun y7_122 =>
      (M.lift (extractV y6_121 1)).bind fun y8_123 =>
      (newV (.agg [V.nils, V.nils, V.nils])).bind fun y9_124 =>
      (storeN 3 y9_124 y7_122).bind fun _ =>
      (M.ret y8_123).bind fun y11_125 =>
      (M.ret t4_108).bind fun t97_126 =>
      (M.lift ((eqV .iface true t97_126 V.nili).bind fun b => some (.bool !b))).bind fun t98_127 =>
      (M.ret t98_127).bind fun t99_128 =>
      (guardV t99_128 false (M.ret y11_125)).bind fun t100_129 =>
      (guardV t99_128 false (M.lift ((eqV .iface true t100_129 V.nili).bind fun b => some (.bool !b)))).bind fun t101_130 =>
      (M.lift (pickV t99_128 (V.bool true) t101_130)).bind fun t102_131 =>
      (M.ret t102_131).bind fun t103_132 =>
      (guardV t103_132 false (M.lift (padd 3 t1_1))).bind fun t104_133 =>
      (guardV t103_132 false (load1 t104_133)).bind fun t105_134 =>
      (guardV t103_132 false (M.lift (arithV .lss t105_134 (V.int .i64 0)))).bind fun t106_135 =>
      (M.lift (pickV t103_132 (V.bool true) t106_135)).bind fun t107_136 =>
      (M.ret t107_136).bind fun t108_137 =>
      (guardV t108_137 false (M.lift (padd 3 t1_1))).bind fun t109_138 =>
      (guardV t108_137 false (load1 t109_138)).bind fun t110_139 =>
      (guardV t108_137 false (M.lift (padd 0 y9_124))).bind fun t111_140 =>
      (guardV t108_137 false (load1 t111_140)).bind fun t112_141 =>
      (guardV t108_137 false (M.lift (lenV t112_141))).bind fun t113_142 =>
      (guardV t108_137 false (M.lift (arithV .geq t110_139 t113_142))).bind fun t114_143 =>
      (M.lift (pickV t108_137 (V.bool true) t114_143)).bind fun t115_144 =>
      (condV t115_144
       ((M.ret (V.bool false)).bind fun t2_145 =>
      M.ret (Ex.ret, [t2_145]))
       ((sliceV 21 0 [(V.int .u32 0), (V.int .u32 0), (V.int .u32 0), (V.int .u32 0), (V.int .u32 0), (V.int .u32 0), (V.int .u32 0), (V.int .u32 0), (V.int .u32 0), (V.int .u32 0), (V.int .u32 0), (V.int .u32 0), (V.int .u32 0), (V.int .u32 0), (V.int .u32 0), (V.int .u32 0), (V.int .u32 0), (V.int .i64 0), (V.int .i64 0), (V.int .i64 0), (V.int .i64 0)] []).bind fun t116_146 =>
      (M.lift (padd 0 y9_124)).bind fun t117_147 =>
      (load1 t117_147).bind fun t118_148 =>
      (appV 21 104 t116_146 t118_148).bind fun t119_149 =>
      (M.ret t119_149).bind fun t15_150 =>
      ((M.ret t15_150).bind fun y0_151 =>
      (M.lift (padd 3 t1_1)).bind fun y1_152 =>
      (load1 y1_152).bind fun y2_153 =>
      (M.lift (padd 10 t1_1)).bind fun y3_154 =>
      (load1 y3_154).bind fun y4_155 =>
      (M.lift (idxV 21 y0_151 y2_153)).bind fun y5_156 =>
      (M.lift (padd 0 y5_156)).bind fun y6_157 =>
      (M.lift (aidxV 16 1 y6_157 (V.int .i64 1))).bind fun y7_158 =>
      (storeN 1 y7_158 y4_155).bind fun _ =>
      (getN.bind fun n_159 =>
      (loadN 3 t12_107).bind fun y0_160 =>
      getN.bind fun n_161 =>
      (qrun (visB n_159 [(n_159, n_161, true)]) (callV (cfg G) call 26 [y0_160])).bind fun y1_162 =>
      getN.bind fun n_163 =>
      (M.ret t15_150).bind fun y2_164 =>
      getN.bind fun n_165 =>
      (M.lift (padd 1 y9_124)).bind fun y3_166 =>
      getN.bind fun n_167 =>
      (load1 y3_166).bind fun y4_168 =>
      getN.bind fun n_169 =>
      (M.lift (padd 2 y9_124)).bind fun y5_170 =>
      getN.bind fun n_171 =>
      (load1 y5_170).bind fun y6_172 =>
      getN.bind fun n_173 =>
      (M.lift (buildV [V.nils, V.nils, V.nils] [(0, 1, y2_164), (1, 1, y4_168), (2, 1, y6_172)])).bind fun y7_174 =>
      getN.bind fun n_175 =>
      (qrun (visB n_159 [(n_173, n_175, true), (n_171, n_173, true), (n_169, n_171, true), (n_167, n_169, true), (n_165, n_167, true), (n_163, n_165, true), (n_161, n_163, true), (n_159, n_161, true)]) (callV (cfg G) call 25 [y1_162, y7_174])).bind fun y8_176 =>
      (M.ret y8_176).bind fun y9_177 =>
      M.ret (Ex.ret, [y9_177]))))))))
      else M.fail)
    | .ret =>
      M.ret (Ex.ret, [t2_2])
    else M.fail)
  | .ret =>
    M.ret (Ex.ret, [t2_2]))))))

theorem ferry_ferrylaw09_ReadyBlocks_eq (G : Nat → Option (List V)) (n : Nat) (x0 : V) : sem (cfg G) (n + 1) 14 [x0] = outV (ferry_ferrylaw09_ReadyBlocks G (sem (cfg G) n) x0) :=
  (fnV_at (C := cfg G) (n := n) (f := 14) (fn := Tryd.f14) (c := Tryd.f14.body.getD .skip) (by kernel_rfl) (by kernel_rfl) (by kernel_rfl) [x0]).trans (by kernel_rfl)

noncomputable def ferry_ready_Block_j1 (G : Nat → Option (List V)) (call : FuncId → List V → M V) (t12_11 : V) (t10_2 : V) : M R :=
  (loadN 3 t12_11).bind fun t92_88 =>
  (storeN 3 t10_2 t92_88).bind fun _ =>
  (M.ret V.nili).bind fun t11_89 =>
  (((loadN 3 t10_2)).bind fun v => ((M.ret []).bind fun l => M.ret (t11_89 :: l)).bind fun l => M.ret (v :: l)).bind fun l => M.ret (Ex.ret, tupV l)

noncomputable def ferry_ready_Block (G : Nat → Option (List V)) (call : FuncId → List V → M V) (x0 : V) (x1 : V) (x2 : V) (x3 : V) (x4 : V) : M R :=
  (newV x0).bind fun t5_1 =>
  (newV (.agg [V.nils, V.nils, V.nils])).bind fun t10_2 =>
  (M.ret V.nili).bind fun t11_3 =>
  (loadN 3 t5_1).bind fun t17_4 =>
  (M.ret x1).bind fun t18_5 =>
  (sliceV 1 1 [(V.int .i64 0)] [(0, (V.int .i64 1))]).bind fun t19_6 =>
  (callV (cfg G) call 67 [t17_4, t18_5, t19_6]).bind fun t20_7 =>
  (M.ret t20_7).bind fun t16_8 =>
  (M.lift (extractV t16_8 0)).bind fun t21_9 =>
  (M.lift (extractV t16_8 1)).bind fun t22_10 =>
  (newV (.agg [V.nils, V.nils, V.nils])).bind fun t12_11 =>
  (storeN 3 t12_11 t21_9).bind fun _ =>
  (M.ret t22_10).bind fun t13_12 =>
  (M.ret t13_12).bind fun t23_13 =>
  (M.lift ((eqV .iface true t23_13 V.nili).bind fun b => some (.bool !b))).bind fun t24_14 =>
  (condV t24_14
   ((M.lift (buildV [V.nils, V.nils, V.nils] [])).bind fun t25_15 =>
  (M.ret t13_12).bind fun t26_16 =>
  (storeN 3 t10_2 t25_15).bind fun _ =>
  (M.ret t26_16).bind fun t11_17 =>
  (((loadN 3 t10_2)).bind fun v => ((M.ret []).bind fun l => M.ret (t11_17 :: l)).bind fun l => M.ret (v :: l)).bind fun l => M.ret (Ex.ret, tupV l))
   ((M.ret x2).bind fun t27_18 =>
  (M.lift ((eqV (.sc .int) true t27_18 (V.int .i64 1)).bind fun b => some (.bool b))).bind fun t28_19 =>
  (M.ret t28_19).bind fun t14_20 =>
  (M.ret x2).bind fun t29_21 =>
  (M.lift (arithV .lss t29_21 (V.int .i64 1))).bind fun t30_22 =>
  (M.ret t30_22).bind fun t31_23 =>
  (guardV t31_23 false (M.ret x2)).bind fun t32_24 =>
  (guardV t31_23 false (M.lift (arithV .gtr t32_24 (V.int .i64 4)))).bind fun t33_25 =>
  (M.lift (pickV t31_23 (V.bool true) t33_25)).bind fun t34_26 =>
  (M.ret t34_26).bind fun t35_27 =>
  (guardV t35_27 false (M.ret x3)).bind fun t36_28 =>
  (guardV t35_27 false (M.lift (arithV .lss t36_28 (V.int .i64 0)))).bind fun t37_29 =>
  (M.lift (pickV t35_27 (V.bool true) t37_29)).bind fun t38_30 =>
  (M.ret t38_30).bind fun t39_31 =>
  (guardV t39_31 false (M.ret t14_20)).bind fun t40_32 =>
  (guardV t39_31 false (M.ret t40_32)).bind fun t41_33 =>
  (guardV t41_33 true (M.ret x3)).bind fun t42_34 =>
  (guardV t41_33 true (M.lift ((eqV (.sc .int) true t42_34 (V.int .i64 0)).bind fun b => some (.bool !b)))).bind fun t43_35 =>
  (guardV t41_33 true (M.ret t43_35)).bind fun t44_36 =>
  (guardV t44_36 false (M.ret x4)).bind fun t45_37 =>
  (guardV t44_36 false (M.lift ((eqV (.sc .int) true t45_37 (V.int .i64 (-1))).bind fun b => some (.bool b)))).bind fun t46_38 =>
  (guardV t41_33 true (M.lift (pickV t44_36 (V.bool true) t46_38))).bind fun t47_39 =>
  (guardV t39_31 false (M.lift (pickV t41_33 t47_39 (V.bool false)))).bind fun t48_40 =>
  (M.lift (pickV t39_31 (V.bool true) t48_40)).bind fun t49_41 =>
  (M.ret t49_41).bind fun t50_42 =>
  (guardV t50_42 false (M.ret x4)).bind fun t51_43 =>
  (guardV t50_42 false (M.lift (arithV .lss t51_43 (V.int .i64 (-1))))).bind fun t52_44 =>
  (M.lift (pickV t50_42 (V.bool true) t52_44)).bind fun t53_45 =>
  (M.ret t53_45).bind fun t54_46 =>
  (guardV t54_46 false (M.ret x4)).bind fun t55_47 =>
  (guardV t54_46 false (M.lift (arithV .gtr t55_47 (V.int .i64 1010000)))).bind fun t56_48 =>
  (M.lift (pickV t54_46 (V.bool true) t56_48)).bind fun t57_49 =>
  (condV t57_49
   (((M.lift (buildV [V.nils, V.nils, V.nils] [])).bind fun y0_50 =>
  (load1 (glob (cfg G) 2)).bind fun y1_51 =>
  guardM (apartV (glob (cfg G) 2) t10_2 && true) (
  (storeN 3 t10_2 y0_50).bind fun _ =>
  (M.ret y1_51).bind fun y3_52 =>
  (((loadN 3 t10_2)).bind fun v => ((M.ret []).bind fun l => M.ret (y3_52 :: l)).bind fun l => M.ret (v :: l)).bind fun l => M.ret (Ex.ret, tupV l))))
   ((M.ret x1).bind fun t60_53 =>
  (callV (cfg G) call 68 [t12_11, t60_53]).bind fun t61_54 =>
  (M.lift (padd 0 t12_11)).bind fun t62_55 =>
  (load1 t62_55).bind fun t63_56 =>
  (M.ret x1).bind fun t64_57 =>
  (M.lift (idxV 21 t63_56 t64_57)).bind fun t65_58 =>
  (M.ret t65_58).bind fun t15_59 =>
  (M.ret t15_59).bind fun t66_60 =>
  (M.ret t15_59).bind fun t67_61 =>
  (M.ret t15_59).bind fun t68_62 =>
  (M.ret x2).bind fun t69_63 =>
  (M.ret x3).bind fun t70_64 =>
  (M.lift (nilCheckV t66_60)).bind fun t71_65 =>
  (M.lift (padd 17 t71_65)).bind fun t72_66 =>
  (storeN 1 t72_66 (V.int .i64 2)).bind fun _ =>
  (M.lift (nilCheckV t67_61)).bind fun t73_67 =>
  (M.lift (padd 19 t73_67)).bind fun t74_68 =>
  (storeN 1 t74_68 t69_63).bind fun _ =>
  (M.lift (nilCheckV t68_62)).bind fun t75_69 =>
  (M.lift (padd 20 t75_69)).bind fun t76_70 =>
  (storeN 1 t76_70 t70_64).bind fun _ =>
  (M.ret x4).bind fun t77_71 =>
  (M.lift (arithV .geq t77_71 (V.int .i64 0))).bind fun t78_72 =>
  (condV t78_72
   ((M.lift (padd 2 t12_11)).bind fun t80_90 =>
  (load1 t80_90).bind fun t81_91 =>
  (M.ret x1).bind fun t82_92 =>
  (M.ret x4).bind fun t83_93 =>
  (callV (cfg G) call 58 [t81_91, t82_92, t83_93]).bind fun t84_94 =>
  (M.ret t84_94).bind fun t79_95 =>
  (M.lift (extractV t79_95 0)).bind fun t85_96 =>
  (M.lift (extractV t79_95 1)).bind fun t86_97 =>
  (M.lift (padd 2 t12_11)).bind fun t87_98 =>
  (storeN 1 t87_98 t85_96).bind fun _ =>
  (M.ret t86_97).bind fun t13_99 =>
  (M.ret t13_99).bind fun t88_100 =>
  (M.lift ((eqV .iface true t88_100 V.nili).bind fun b => some (.bool !b))).bind fun t89_101 =>
  (condV t89_101
   ((M.lift (buildV [V.nils, V.nils, V.nils] [])).bind fun t90_102 =>
  (M.ret t13_99).bind fun t91_103 =>
  (storeN 3 t10_2 t90_102).bind fun _ =>
  (M.ret t91_103).bind fun t11_104 =>
  (((loadN 3 t10_2)).bind fun v => ((M.ret []).bind fun l => M.ret (t11_104 :: l)).bind fun l => M.ret (v :: l)).bind fun l => M.ret (Ex.ret, tupV l))
   (ferry_ready_Block_j1 G call t12_11 t10_2)))
   (ferry_ready_Block_j1 G call t12_11 t10_2))))))

theorem ferry_ready_Block_eq (G : Nat → Option (List V)) (n : Nat) (x0 : V) (x1 : V) (x2 : V) (x3 : V) (x4 : V) : sem (cfg G) (n + 1) 63 [x0, x1, x2, x3, x4] = outV (ferry_ready_Block G (sem (cfg G) n) x0 x1 x2 x3 x4) :=
  (fnV_at (C := cfg G) (n := n) (f := 63) (fn := Tryd.f63) (c := Tryd.f63.body.getD .skip) (by kernel_rfl) (by kernel_rfl) (by kernel_rfl) [x0, x1, x2, x3, x4]).trans (by kernel_rfl)

noncomputable def ferry_ready_Wake (G : Nat → Option (List V)) (call : FuncId → List V → M V) (x0 : V) (x1 : V) (x2 : V) : M R :=
  (newV x0).bind fun t3_1 =>
  (newV (.agg [V.nils, V.nils, V.nils])).bind fun t6_2 =>
  (M.ret V.nili).bind fun t7_3 =>
  (loadN 3 t3_1).bind fun t11_4 =>
  (M.ret x1).bind fun t12_5 =>
  (sliceV 1 1 [(V.int .i64 0)] [(0, (V.int .i64 2))]).bind fun t13_6 =>
  (callV (cfg G) call 67 [t11_4, t12_5, t13_6]).bind fun t14_7 =>
  (M.ret t14_7).bind fun t10_8 =>
  (M.lift (extractV t10_8 0)).bind fun t15_9 =>
  (M.lift (extractV t10_8 1)).bind fun t16_10 =>
  (newV (.agg [V.nils, V.nils, V.nils])).bind fun t8_11 =>
  (storeN 3 t8_11 t15_9).bind fun _ =>
  (M.ret t16_10).bind fun t9_12 =>
  (M.ret t9_12).bind fun t17_13 =>
  (M.lift ((eqV .iface true t17_13 V.nili).bind fun b => some (.bool !b))).bind fun t18_14 =>
  (condV t18_14
   ((M.lift (buildV [V.nils, V.nils, V.nils] [])).bind fun t19_15 =>
  (M.ret t9_12).bind fun t20_16 =>
  (storeN 3 t6_2 t19_15).bind fun _ =>
  (M.ret t20_16).bind fun t7_17 =>
  (((loadN 3 t6_2)).bind fun v => ((M.ret []).bind fun l => M.ret (t7_17 :: l)).bind fun l => M.ret (v :: l)).bind fun l => M.ret (Ex.ret, tupV l))
   ((M.ret x1).bind fun t21_18 =>
  (M.ret x2).bind fun t22_19 =>
  (callV (cfg G) call 87 [t8_11, t21_18, t22_19]).bind fun t23_20 =>
  (loadN 3 t8_11).bind fun t24_21 =>
  (storeN 3 t6_2 t24_21).bind fun _ =>
  (M.ret V.nili).bind fun t7_22 =>
  (((loadN 3 t6_2)).bind fun v => ((M.ret []).bind fun l => M.ret (t7_22 :: l)).bind fun l => M.ret (v :: l)).bind fun l => M.ret (Ex.ret, tupV l)))

theorem ferry_ready_Wake_eq (G : Nat → Option (List V)) (n : Nat) (x0 : V) (x1 : V) (x2 : V) : sem (cfg G) (n + 1) 64 [x0, x1, x2] = outV (ferry_ready_Wake G (sem (cfg G) n) x0 x1 x2) :=
  (fnV_at (C := cfg G) (n := n) (f := 64) (fn := Tryd.f64) (c := Tryd.f64.body.getD .skip) (by kernel_rfl) (by kernel_rfl) (by kernel_rfl) [x0, x1, x2]).trans (by kernel_rfl)

end Go.Fv.Tr

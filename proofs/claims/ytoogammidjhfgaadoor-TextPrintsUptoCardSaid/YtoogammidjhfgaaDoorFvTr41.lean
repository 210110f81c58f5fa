/-
  The Go functions ferry/ferrylaw25.samePart, ferry/ferrylaw25.sameConfig, ferry/ferrylaw25.sameScript, ferry/ferrylaw25.TextPrints as plain terms. By an AI agent; no person has read it.
-/
import Derived.Test.YtoogammidjhfgaaDoorFvCf
import Derived.Test.YtoogammidjhfgaaDoorFvW4
set_option linter.unusedVariables false
set_option linter.unusedSimpArgs false
set_option linter.unusedSectionVars false
/-! The Go functions ferry/ferrylaw25.samePart, ferry/ferrylaw25.sameConfig, ferry/ferrylaw25.sameScript, ferry/ferrylaw25.TextPrints as plain terms. -/
namespace Go.Fv.Tr
open Go Go.Fv Go.Proofs
set_option linter.unusedVariables false
set_option maxRecDepth 20000

noncomputable def ferry_ferrylaw25_samePart_l1 (G : Nat → Option (List V)) (call : FuncId → List V → M V) (t66_62 : V) (t2_1 : V) (t3_2 : V) (s0_64 : List V) : M R :=
  (M.lift (arithV .lss (s0_64.getD 1 V.undef) t66_62)).bind fun t68_65 =>
  (condV t68_65
   ((M.ret (s0_64.getD 1 V.undef)).bind fun t69_66 =>
  (M.ret t69_66).bind fun t5_67 =>
  ((M.lift (padd 2 t2_1)).bind fun y0_68 =>
  (load1 y0_68).bind fun y1_69 =>
  (M.ret t5_67).bind fun y2_70 =>
  (M.lift (idxV 2 y1_69 y2_70)).bind fun y3_71 =>
  (loadN 2 y3_71).bind fun y4_72 =>
  (M.lift (padd 2 t3_2)).bind fun y5_73 =>
  (load1 y5_73).bind fun y6_74 =>
  (M.ret t5_67).bind fun y7_75 =>
  (M.lift (idxV 2 y6_74 y7_75)).bind fun y8_76 =>
  (loadN 2 y8_76).bind fun y9_77 =>
  (M.lift ((eqV (.agg [.int, .str]) false y4_72 y9_77).bind fun b => some (.bool !b))).bind fun y10_78 =>
  (condV y10_78
   ((M.ret (V.bool false)).bind fun t4_79 =>
  M.ret (Ex.ret, [t4_79, (s0_64.getD 1 V.undef)]))
   ((M.lift (arithV .add (s0_64.getD 1 V.undef) (V.int .i64 1))).bind fun t81_80 =>
  (M.ret t81_80).bind fun t67_81 =>
  M.ret (Ex.normal, [(s0_64.getD 0 V.undef), t67_81])))))
   (M.ret ((Ex.exit 0), [(s0_64.getD 0 V.undef), (s0_64.getD 1 V.undef)])))

noncomputable def ferry_ferrylaw25_samePart_l2 (G : Nat → Option (List V)) (call : FuncId → List V → M V) (t84_86 : V) (t2_1 : V) (t3_2 : V) (s0_88 : List V) : M R :=
  (M.lift (arithV .lss (s0_88.getD 1 V.undef) t84_86)).bind fun t86_89 =>
  (condV t86_89
   ((M.ret (s0_88.getD 1 V.undef)).bind fun t87_90 =>
  (M.ret t87_90).bind fun t6_91 =>
  ((M.lift (padd 3 t2_1)).bind fun y0_92 =>
  (load1 y0_92).bind fun y1_93 =>
  (M.ret t6_91).bind fun y2_94 =>
  (M.lift (idxV 3 y1_93 y2_94)).bind fun y3_95 =>
  (loadN 3 y3_95).bind fun y4_96 =>
  (M.lift (padd 3 t3_2)).bind fun y5_97 =>
  (load1 y5_97).bind fun y6_98 =>
  (M.ret t6_91).bind fun y7_99 =>
  (M.lift (idxV 3 y6_98 y7_99)).bind fun y8_100 =>
  (loadN 3 y8_100).bind fun y9_101 =>
  (M.lift ((eqV (.agg [.int, .int, .bool]) false y4_96 y9_101).bind fun b => some (.bool !b))).bind fun y10_102 =>
  (condV y10_102
   ((M.ret (V.bool false)).bind fun t4_103 =>
  M.ret (Ex.ret, [t4_103, (s0_88.getD 1 V.undef)]))
   ((M.lift (arithV .add (s0_88.getD 1 V.undef) (V.int .i64 1))).bind fun t99_104 =>
  (M.ret t99_104).bind fun t85_105 =>
  M.ret (Ex.normal, [(s0_88.getD 0 V.undef), t85_105])))))
   (M.ret ((Ex.exit 2), [(s0_88.getD 0 V.undef), (s0_88.getD 1 V.undef)])))

noncomputable def ferry_ferrylaw25_samePart_l3 (G : Nat → Option (List V)) (call : FuncId → List V → M V) (t102_110 : V) (t2_1 : V) (t3_2 : V) (s0_112 : List V) : M R :=
  (M.lift (arithV .lss (s0_112.getD 1 V.undef) t102_110)).bind fun t104_113 =>
  (condV t104_113
   ((M.ret (s0_112.getD 1 V.undef)).bind fun t105_114 =>
  (M.ret t105_114).bind fun t7_115 =>
  ((M.lift (padd 4 t2_1)).bind fun y0_116 =>
  (load1 y0_116).bind fun y1_117 =>
  (M.ret t7_115).bind fun y2_118 =>
  (M.lift (idxV 4 y1_117 y2_118)).bind fun y3_119 =>
  (loadN 4 y3_119).bind fun y4_120 =>
  (M.lift (padd 4 t3_2)).bind fun y5_121 =>
  (load1 y5_121).bind fun y6_122 =>
  (M.ret t7_115).bind fun y7_123 =>
  (M.lift (idxV 4 y6_122 y7_123)).bind fun y8_124 =>
  (loadN 4 y8_124).bind fun y9_125 =>
  (M.lift ((eqV (.agg [.int, .int, .int, .int]) false y4_120 y9_125).bind fun b => some (.bool !b))).bind fun y10_126 =>
  (condV y10_126
   ((M.ret (V.bool false)).bind fun t4_127 =>
  M.ret (Ex.ret, [t4_127, (s0_112.getD 1 V.undef)]))
   ((M.lift (arithV .add (s0_112.getD 1 V.undef) (V.int .i64 1))).bind fun t117_128 =>
  (M.ret t117_128).bind fun t103_129 =>
  M.ret (Ex.normal, [(s0_112.getD 0 V.undef), t103_129])))))
   (M.ret ((Ex.exit 4), [(s0_112.getD 0 V.undef), (s0_112.getD 1 V.undef)])))

noncomputable def ferry_ferrylaw25_samePart_l4 (G : Nat → Option (List V)) (call : FuncId → List V → M V) (t120_134 : V) (t2_1 : V) (t3_2 : V) (s0_136 : List V) : M R :=
  (M.lift (arithV .lss (s0_136.getD 1 V.undef) t120_134)).bind fun t122_137 =>
  (condV t122_137
   ((M.ret (s0_136.getD 1 V.undef)).bind fun t123_138 =>
  (M.ret t123_138).bind fun t8_139 =>
  ((M.lift (padd 6 t2_1)).bind fun y0_140 =>
  (load1 y0_140).bind fun y1_141 =>
  (M.ret t8_139).bind fun y2_142 =>
  (M.lift (idxV 1 y1_141 y2_142)).bind fun y3_143 =>
  (load1 y3_143).bind fun y4_144 =>
  (M.lift (padd 6 t3_2)).bind fun y5_145 =>
  (load1 y5_145).bind fun y6_146 =>
  (M.ret t8_139).bind fun y7_147 =>
  (M.lift (idxV 1 y6_146 y7_147)).bind fun y8_148 =>
  (load1 y8_148).bind fun y9_149 =>
  (M.lift ((eqV (.sc .int) false y4_144 y9_149).bind fun b => some (.bool !b))).bind fun y10_150 =>
  (condV y10_150
   ((M.ret (V.bool false)).bind fun t4_151 =>
  M.ret (Ex.ret, [t4_151, (s0_136.getD 1 V.undef)]))
   ((M.lift (arithV .add (s0_136.getD 1 V.undef) (V.int .i64 1))).bind fun t135_152 =>
  (M.ret t135_152).bind fun t121_153 =>
  M.ret (Ex.normal, [(s0_136.getD 0 V.undef), t121_153])))))
   (M.ret ((Ex.exit 6), [(s0_136.getD 0 V.undef), (s0_136.getD 1 V.undef)])))

noncomputable def ferry_ferrylaw25_samePart (G : Nat → Option (List V)) (call : FuncId → List V → M V) (x0 : V) (x1 : V) : M R :=
  (newV x0).bind fun t2_1 =>
  (newV x1).bind fun t3_2 =>
  (M.ret (V.bool false)).bind fun t4_3 =>
  (M.lift (padd 0 t2_1)).bind fun t9_4 =>
  (load1 t9_4).bind fun t10_5 =>
  (M.lift (padd 0 t3_2)).bind fun t11_6 =>
  (load1 t11_6).bind fun t12_7 =>
  (M.lift ((eqV (.sc .int) false t10_5 t12_7).bind fun b => some (.bool !b))).bind fun t13_8 =>
  (M.ret t13_8).bind fun t14_9 =>
  (guardV t14_9 false (M.lift (padd 1 t2_1))).bind fun t15_10 =>
  (guardV t14_9 false (load1 t15_10)).bind fun t16_11 =>
  (guardV t14_9 false (M.lift (padd 1 t3_2))).bind fun t17_12 =>
  (guardV t14_9 false (load1 t17_12)).bind fun t18_13 =>
  (guardV t14_9 false (M.lift ((eqV (.sc .bool) false t16_11 t18_13).bind fun b => some (.bool !b)))).bind fun t19_14 =>
  (M.lift (pickV t14_9 (V.bool true) t19_14)).bind fun t20_15 =>
  (M.ret t20_15).bind fun t21_16 =>
  (guardV t21_16 false (M.lift (padd 5 t2_1))).bind fun t22_17 =>
  (guardV t21_16 false (load1 t22_17)).bind fun t23_18 =>
  (guardV t21_16 false (M.lift (padd 5 t3_2))).bind fun t24_19 =>
  (guardV t21_16 false (load1 t24_19)).bind fun t25_20 =>
  (guardV t21_16 false (M.lift ((eqV (.sc .int) false t23_18 t25_20).bind fun b => some (.bool !b)))).bind fun t26_21 =>
  (M.lift (pickV t21_16 (V.bool true) t26_21)).bind fun t27_22 =>
  (M.ret t27_22).bind fun t28_23 =>
  (guardV t28_23 false (M.lift (padd 2 t2_1))).bind fun t29_24 =>
  (guardV t28_23 false (load1 t29_24)).bind fun t30_25 =>
  (guardV t28_23 false (M.lift (lenV t30_25))).bind fun t31_26 =>
  (guardV t28_23 false (M.lift (padd 2 t3_2))).bind fun t32_27 =>
  (guardV t28_23 false (load1 t32_27)).bind fun t33_28 =>
  (guardV t28_23 false (M.lift (lenV t33_28))).bind fun t34_29 =>
  (guardV t28_23 false (M.lift ((eqV (.sc .int) false t31_26 t34_29).bind fun b => some (.bool !b)))).bind fun t35_30 =>
  (M.lift (pickV t28_23 (V.bool true) t35_30)).bind fun t36_31 =>
  (M.ret t36_31).bind fun t37_32 =>
  (guardV t37_32 false (M.lift (padd 3 t2_1))).bind fun t38_33 =>
  (guardV t37_32 false (load1 t38_33)).bind fun t39_34 =>
  (guardV t37_32 false (M.lift (lenV t39_34))).bind fun t40_35 =>
  (guardV t37_32 false (M.lift (padd 3 t3_2))).bind fun t41_36 =>
  (guardV t37_32 false (load1 t41_36)).bind fun t42_37 =>
  (guardV t37_32 false (M.lift (lenV t42_37))).bind fun t43_38 =>
  (guardV t37_32 false (M.lift ((eqV (.sc .int) false t40_35 t43_38).bind fun b => some (.bool !b)))).bind fun t44_39 =>
  (M.lift (pickV t37_32 (V.bool true) t44_39)).bind fun t45_40 =>
  (M.ret t45_40).bind fun t46_41 =>
  (guardV t46_41 false (M.lift (padd 4 t2_1))).bind fun t47_42 =>
  (guardV t46_41 false (load1 t47_42)).bind fun t48_43 =>
  (guardV t46_41 false (M.lift (lenV t48_43))).bind fun t49_44 =>
  (guardV t46_41 false (M.lift (padd 4 t3_2))).bind fun t50_45 =>
  (guardV t46_41 false (load1 t50_45)).bind fun t51_46 =>
  (guardV t46_41 false (M.lift (lenV t51_46))).bind fun t52_47 =>
  (guardV t46_41 false (M.lift ((eqV (.sc .int) false t49_44 t52_47).bind fun b => some (.bool !b)))).bind fun t53_48 =>
  (M.lift (pickV t46_41 (V.bool true) t53_48)).bind fun t54_49 =>
  (M.ret t54_49).bind fun t55_50 =>
  (guardV t55_50 false (M.lift (padd 6 t2_1))).bind fun t56_51 =>
  (guardV t55_50 false (load1 t56_51)).bind fun t57_52 =>
  (guardV t55_50 false (M.lift (lenV t57_52))).bind fun t58_53 =>
  (guardV t55_50 false (M.lift (padd 6 t3_2))).bind fun t59_54 =>
  (guardV t55_50 false (load1 t59_54)).bind fun t60_55 =>
  (guardV t55_50 false (M.lift (lenV t60_55))).bind fun t61_56 =>
  (guardV t55_50 false (M.lift ((eqV (.sc .int) false t58_53 t61_56).bind fun b => some (.bool !b)))).bind fun t62_57 =>
  (M.lift (pickV t55_50 (V.bool true) t62_57)).bind fun t63_58 =>
  (condV t63_58
   ((M.ret (V.bool false)).bind fun t4_59 =>
  M.ret (Ex.ret, [t4_59]))
   ((M.lift (padd 2 t2_1)).bind fun t64_60 =>
  (load1 t64_60).bind fun t65_61 =>
  (M.lift (lenV t65_61)).bind fun t66_62 =>
  (M.ret (V.int .i64 0)).bind fun t67_63 =>
  (loopV (ferry_ferrylaw25_samePart_l1 G call t66_62 t2_1 t3_2) [t4_3, t67_63]).bind fun r0_82 => match r0_82.1 with
  | .normal => M.fail
  | .exit k0_83 =>
    (if k0_83 = 0 then
    (M.lift (padd 3 t2_1)).bind fun t82_84 =>
    (load1 t82_84).bind fun t83_85 =>
    (M.lift (lenV t83_85)).bind fun t84_86 =>
    (M.ret (V.int .i64 0)).bind fun t85_87 =>
    (loopV (ferry_ferrylaw25_samePart_l2 G call t84_86 t2_1 t3_2) [(r0_82.2.getD 0 V.undef), t85_87]).bind fun r0_106 => match r0_106.1 with
    | .normal => M.fail
    | .exit k0_107 =>
      (if k0_107 = 2 then
      (M.lift (padd 4 t2_1)).bind fun t100_108 =>
      (load1 t100_108).bind fun t101_109 =>
      (M.lift (lenV t101_109)).bind fun t102_110 =>
      (M.ret (V.int .i64 0)).bind fun t103_111 =>
      (loopV (ferry_ferrylaw25_samePart_l3 G call t102_110 t2_1 t3_2) [(r0_106.2.getD 0 V.undef), t103_111]).bind fun r0_130 => match r0_130.1 with
      | .normal => M.fail
      | .exit k0_131 =>
        (if k0_131 = 4 then
        (M.lift (padd 6 t2_1)).bind fun t118_132 =>
        (load1 t118_132).bind fun t119_133 =>
        (M.lift (lenV t119_133)).bind fun t120_134 =>
        (M.ret (V.int .i64 0)).bind fun t121_135 =>
        (loopV (ferry_ferrylaw25_samePart_l4 G call t120_134 t2_1 t3_2) [(r0_130.2.getD 0 V.undef), t121_135]).bind fun r0_154 => match r0_154.1 with
        | .normal => M.fail
        | .exit k0_155 =>
          (if k0_155 = 6 then
          (M.ret (V.bool true)).bind fun t4_156 =>
          M.ret (Ex.ret, [t4_156])
          else M.fail)
        | .ret =>
          M.ret (Ex.ret, [(r0_154.2.getD 0 V.undef)])
        else M.fail)
      | .ret =>
        M.ret (Ex.ret, [(r0_130.2.getD 0 V.undef)])
      else M.fail)
    | .ret =>
      M.ret (Ex.ret, [(r0_106.2.getD 0 V.undef)])
    else M.fail)
  | .ret =>
    M.ret (Ex.ret, [(r0_82.2.getD 0 V.undef)])))

theorem ferry_ferrylaw25_samePart_eq (G : Nat → Option (List V)) (n : Nat) (x0 : V) (x1 : V) : sem (cfg G) (n + 1) 140 [x0, x1] = outV (ferry_ferrylaw25_samePart G (sem (cfg G) n) x0 x1) :=
  (fnV_at (C := cfg G) (n := n) (f := 140) (fn := Tryd.f140) (c := Tryd.f140.body.getD .skip) (by kernel_rfl) (by kernel_rfl) (by kernel_rfl) [x0, x1]).trans (by kernel_rfl)

noncomputable def ferry_ferrylaw25_sameConfig_l1 (G : Nat → Option (List V)) (call : FuncId → List V → M V) (t59_55 : V) (t2_1 : V) (t3_2 : V) (s0_57 : List V) : M R :=
  (M.lift (arithV .lss (s0_57.getD 1 V.undef) t59_55)).bind fun t61_58 =>
  (condV t61_58
   ((M.ret (s0_57.getD 1 V.undef)).bind fun t62_59 =>
  (M.ret t62_59).bind fun t5_60 =>
  (getN.bind fun n_61 =>
  (M.lift (padd 1 t2_1)).bind fun y0_62 =>
  getN.bind fun n_63 =>
  (load1 y0_62).bind fun y1_64 =>
  getN.bind fun n_65 =>
  (M.ret t5_60).bind fun y2_66 =>
  getN.bind fun n_67 =>
  (M.lift (idxV 7 y1_64 y2_66)).bind fun y3_68 =>
  getN.bind fun n_69 =>
  (loadN 7 y3_68).bind fun y4_70 =>
  getN.bind fun n_71 =>
  (M.lift (padd 1 t3_2)).bind fun y5_72 =>
  getN.bind fun n_73 =>
  (load1 y5_72).bind fun y6_74 =>
  getN.bind fun n_75 =>
  (M.ret t5_60).bind fun y7_76 =>
  getN.bind fun n_77 =>
  (M.lift (idxV 7 y6_74 y7_76)).bind fun y8_78 =>
  getN.bind fun n_79 =>
  (loadN 7 y8_78).bind fun y9_80 =>
  getN.bind fun n_81 =>
  (trun (visB n_61 [(n_79, n_81, true), (n_77, n_79, true), (n_75, n_77, true), (n_73, n_75, true), (n_71, n_73, true), (n_69, n_71, true), (n_67, n_69, true), (n_65, n_67, true), (n_63, n_65, true), (n_61, n_63, true)]) (callV (cfg G) call 140 [y4_70, y9_80])).bind fun y10_82 =>
  (M.lift (unV .not y10_82)).bind fun y11_83 =>
  (condV y11_83
   ((M.ret (V.bool false)).bind fun t4_84 =>
  M.ret (Ex.ret, [t4_84, (s0_57.getD 1 V.undef)]))
   ((M.lift (arithV .add (s0_57.getD 1 V.undef) (V.int .i64 1))).bind fun t75_85 =>
  (M.ret t75_85).bind fun t60_86 =>
  M.ret (Ex.normal, [(s0_57.getD 0 V.undef), t60_86])))))
   (M.ret ((Ex.exit 0), [(s0_57.getD 0 V.undef), (s0_57.getD 1 V.undef)])))

noncomputable def ferry_ferrylaw25_sameConfig_l2 (G : Nat → Option (List V)) (call : FuncId → List V → M V) (t78_91 : V) (t2_1 : V) (t3_2 : V) (s0_93 : List V) : M R :=
  (M.lift (arithV .lss (s0_93.getD 1 V.undef) t78_91)).bind fun t80_94 =>
  (condV t80_94
   ((M.ret (s0_93.getD 1 V.undef)).bind fun t81_95 =>
  (M.ret t81_95).bind fun t6_96 =>
  ((M.lift (padd 2 t2_1)).bind fun y0_97 =>
  (load1 y0_97).bind fun y1_98 =>
  (M.ret t6_96).bind fun y2_99 =>
  (M.lift (idxV 1 y1_98 y2_99)).bind fun y3_100 =>
  (load1 y3_100).bind fun y4_101 =>
  (M.lift (padd 2 t3_2)).bind fun y5_102 =>
  (load1 y5_102).bind fun y6_103 =>
  (M.ret t6_96).bind fun y7_104 =>
  (M.lift (idxV 1 y6_103 y7_104)).bind fun y8_105 =>
  (load1 y8_105).bind fun y9_106 =>
  (M.lift ((eqV (.sc .int) false y4_101 y9_106).bind fun b => some (.bool !b))).bind fun y10_107 =>
  (condV y10_107
   ((M.ret (V.bool false)).bind fun t4_108 =>
  M.ret (Ex.ret, [t4_108, (s0_93.getD 1 V.undef)]))
   ((M.lift (arithV .add (s0_93.getD 1 V.undef) (V.int .i64 1))).bind fun t93_109 =>
  (M.ret t93_109).bind fun t79_110 =>
  M.ret (Ex.normal, [(s0_93.getD 0 V.undef), t79_110])))))
   (M.ret ((Ex.exit 2), [(s0_93.getD 0 V.undef), (s0_93.getD 1 V.undef)])))

noncomputable def ferry_ferrylaw25_sameConfig_l3 (G : Nat → Option (List V)) (call : FuncId → List V → M V) (t96_115 : V) (t2_1 : V) (t3_2 : V) (s0_117 : List V) : M R :=
  (M.lift (arithV .lss (s0_117.getD 1 V.undef) t96_115)).bind fun t98_118 =>
  (condV t98_118
   ((M.ret (s0_117.getD 1 V.undef)).bind fun t99_119 =>
  (M.ret t99_119).bind fun t7_120 =>
  ((M.lift (padd 3 t2_1)).bind fun y0_121 =>
  (load1 y0_121).bind fun y1_122 =>
  (M.ret t7_120).bind fun y2_123 =>
  (M.lift (idxV 3 y1_122 y2_123)).bind fun y3_124 =>
  (loadN 3 y3_124).bind fun y4_125 =>
  (M.lift (padd 3 t3_2)).bind fun y5_126 =>
  (load1 y5_126).bind fun y6_127 =>
  (M.ret t7_120).bind fun y7_128 =>
  (M.lift (idxV 3 y6_127 y7_128)).bind fun y8_129 =>
  (loadN 3 y8_129).bind fun y9_130 =>
  (M.lift ((eqV (.agg [.int, .int, .int]) false y4_125 y9_130).bind fun b => some (.bool !b))).bind fun y10_131 =>
  (condV y10_131
   ((M.ret (V.bool false)).bind fun t4_132 =>
  M.ret (Ex.ret, [t4_132, (s0_117.getD 1 V.undef)]))
   ((M.lift (arithV .add (s0_117.getD 1 V.undef) (V.int .i64 1))).bind fun t111_133 =>
  (M.ret t111_133).bind fun t97_134 =>
  M.ret (Ex.normal, [(s0_117.getD 0 V.undef), t97_134])))))
   (M.ret ((Ex.exit 4), [(s0_117.getD 0 V.undef), (s0_117.getD 1 V.undef)])))

noncomputable def ferry_ferrylaw25_sameConfig_l4 (G : Nat → Option (List V)) (call : FuncId → List V → M V) (t114_139 : V) (t2_1 : V) (t3_2 : V) (s0_141 : List V) : M R :=
  (M.lift (arithV .lss (s0_141.getD 1 V.undef) t114_139)).bind fun t116_142 =>
  (condV t116_142
   ((M.ret (s0_141.getD 1 V.undef)).bind fun t117_143 =>
  (M.ret t117_143).bind fun t8_144 =>
  ((M.lift (padd 4 t2_1)).bind fun y0_145 =>
  (load1 y0_145).bind fun y1_146 =>
  (M.ret t8_144).bind fun y2_147 =>
  (M.lift (idxV 4 y1_146 y2_147)).bind fun y3_148 =>
  (loadN 4 y3_148).bind fun y4_149 =>
  (M.lift (padd 4 t3_2)).bind fun y5_150 =>
  (load1 y5_150).bind fun y6_151 =>
  (M.ret t8_144).bind fun y7_152 =>
  (M.lift (idxV 4 y6_151 y7_152)).bind fun y8_153 =>
  (loadN 4 y8_153).bind fun y9_154 =>
  (M.lift ((eqV (.agg [.int, .int, .int, .int]) false y4_149 y9_154).bind fun b => some (.bool !b))).bind fun y10_155 =>
  (condV y10_155
   ((M.ret (V.bool false)).bind fun t4_156 =>
  M.ret (Ex.ret, [t4_156, (s0_141.getD 1 V.undef)]))
   ((M.lift (arithV .add (s0_141.getD 1 V.undef) (V.int .i64 1))).bind fun t129_157 =>
  (M.ret t129_157).bind fun t115_158 =>
  M.ret (Ex.normal, [(s0_141.getD 0 V.undef), t115_158])))))
   (M.ret ((Ex.exit 6), [(s0_141.getD 0 V.undef), (s0_141.getD 1 V.undef)])))

noncomputable def ferry_ferrylaw25_sameConfig (G : Nat → Option (List V)) (call : FuncId → List V → M V) (x0 : V) (x1 : V) : M R :=
  (newV x0).bind fun t2_1 =>
  (newV x1).bind fun t3_2 =>
  (M.ret (V.bool false)).bind fun t4_3 =>
  (M.lift (padd 0 t2_1)).bind fun t9_4 =>
  (load1 t9_4).bind fun t10_5 =>
  (M.lift (padd 0 t3_2)).bind fun t11_6 =>
  (load1 t11_6).bind fun t12_7 =>
  (M.lift ((eqV (.sc .int) false t10_5 t12_7).bind fun b => some (.bool !b))).bind fun t13_8 =>
  (M.ret t13_8).bind fun t14_9 =>
  (guardV t14_9 false (M.lift (padd 5 t2_1))).bind fun t15_10 =>
  (guardV t14_9 false (load1 t15_10)).bind fun t16_11 =>
  (guardV t14_9 false (M.lift (padd 5 t3_2))).bind fun t17_12 =>
  (guardV t14_9 false (load1 t17_12)).bind fun t18_13 =>
  (guardV t14_9 false (M.lift ((eqV (.sc .int) false t16_11 t18_13).bind fun b => some (.bool !b)))).bind fun t19_14 =>
  (M.lift (pickV t14_9 (V.bool true) t19_14)).bind fun t20_15 =>
  (M.ret t20_15).bind fun t21_16 =>
  (guardV t21_16 false (M.lift (padd 1 t2_1))).bind fun t22_17 =>
  (guardV t21_16 false (load1 t22_17)).bind fun t23_18 =>
  (guardV t21_16 false (M.lift (lenV t23_18))).bind fun t24_19 =>
  (guardV t21_16 false (M.lift (padd 1 t3_2))).bind fun t25_20 =>
  (guardV t21_16 false (load1 t25_20)).bind fun t26_21 =>
  (guardV t21_16 false (M.lift (lenV t26_21))).bind fun t27_22 =>
  (guardV t21_16 false (M.lift ((eqV (.sc .int) false t24_19 t27_22).bind fun b => some (.bool !b)))).bind fun t28_23 =>
  (M.lift (pickV t21_16 (V.bool true) t28_23)).bind fun t29_24 =>
  (M.ret t29_24).bind fun t30_25 =>
  (guardV t30_25 false (M.lift (padd 2 t2_1))).bind fun t31_26 =>
  (guardV t30_25 false (load1 t31_26)).bind fun t32_27 =>
  (guardV t30_25 false (M.lift (lenV t32_27))).bind fun t33_28 =>
  (guardV t30_25 false (M.lift (padd 2 t3_2))).bind fun t34_29 =>
  (guardV t30_25 false (load1 t34_29)).bind fun t35_30 =>
  (guardV t30_25 false (M.lift (lenV t35_30))).bind fun t36_31 =>
  (guardV t30_25 false (M.lift ((eqV (.sc .int) false t33_28 t36_31).bind fun b => some (.bool !b)))).bind fun t37_32 =>
  (M.lift (pickV t30_25 (V.bool true) t37_32)).bind fun t38_33 =>
  (M.ret t38_33).bind fun t39_34 =>
  (guardV t39_34 false (M.lift (padd 3 t2_1))).bind fun t40_35 =>
  (guardV t39_34 false (load1 t40_35)).bind fun t41_36 =>
  (guardV t39_34 false (M.lift (lenV t41_36))).bind fun t42_37 =>
  (guardV t39_34 false (M.lift (padd 3 t3_2))).bind fun t43_38 =>
  (guardV t39_34 false (load1 t43_38)).bind fun t44_39 =>
  (guardV t39_34 false (M.lift (lenV t44_39))).bind fun t45_40 =>
  (guardV t39_34 false (M.lift ((eqV (.sc .int) false t42_37 t45_40).bind fun b => some (.bool !b)))).bind fun t46_41 =>
  (M.lift (pickV t39_34 (V.bool true) t46_41)).bind fun t47_42 =>
  (M.ret t47_42).bind fun t48_43 =>
  (guardV t48_43 false (M.lift (padd 4 t2_1))).bind fun t49_44 =>
  (guardV t48_43 false (load1 t49_44)).bind fun t50_45 =>
  (guardV t48_43 false (M.lift (lenV t50_45))).bind fun t51_46 =>
  (guardV t48_43 false (M.lift (padd 4 t3_2))).bind fun t52_47 =>
  (guardV t48_43 false (load1 t52_47)).bind fun t53_48 =>
  (guardV t48_43 false (M.lift (lenV t53_48))).bind fun t54_49 =>
  (guardV t48_43 false (M.lift ((eqV (.sc .int) false t51_46 t54_49).bind fun b => some (.bool !b)))).bind fun t55_50 =>
  (M.lift (pickV t48_43 (V.bool true) t55_50)).bind fun t56_51 =>
  (condV t56_51
   ((M.ret (V.bool false)).bind fun t4_52 =>
  M.ret (Ex.ret, [t4_52]))
   ((M.lift (padd 1 t2_1)).bind fun t57_53 =>
  (load1 t57_53).bind fun t58_54 =>
  (M.lift (lenV t58_54)).bind fun t59_55 =>
  (M.ret (V.int .i64 0)).bind fun t60_56 =>
  (loopV (ferry_ferrylaw25_sameConfig_l1 G call t59_55 t2_1 t3_2) [t4_3, t60_56]).bind fun r0_87 => match r0_87.1 with
  | .normal => M.fail
  | .exit k0_88 =>
    (if k0_88 = 0 then
    (M.lift (padd 2 t2_1)).bind fun t76_89 =>
    (load1 t76_89).bind fun t77_90 =>
    (M.lift (lenV t77_90)).bind fun t78_91 =>
    (M.ret (V.int .i64 0)).bind fun t79_92 =>
    (loopV (ferry_ferrylaw25_sameConfig_l2 G call t78_91 t2_1 t3_2) [(r0_87.2.getD 0 V.undef), t79_92]).bind fun r0_111 => match r0_111.1 with
    | .normal => M.fail
    | .exit k0_112 =>
      (if k0_112 = 2 then
      (M.lift (padd 3 t2_1)).bind fun t94_113 =>
      (load1 t94_113).bind fun t95_114 =>
      (M.lift (lenV t95_114)).bind fun t96_115 =>
      (M.ret (V.int .i64 0)).bind fun t97_116 =>
      (loopV (ferry_ferrylaw25_sameConfig_l3 G call t96_115 t2_1 t3_2) [(r0_111.2.getD 0 V.undef), t97_116]).bind fun r0_135 => match r0_135.1 with
      | .normal => M.fail
      | .exit k0_136 =>
        (if k0_136 = 4 then
        (M.lift (padd 4 t2_1)).bind fun t112_137 =>
        (load1 t112_137).bind fun t113_138 =>
        (M.lift (lenV t113_138)).bind fun t114_139 =>
        (M.ret (V.int .i64 0)).bind fun t115_140 =>
        (loopV (ferry_ferrylaw25_sameConfig_l4 G call t114_139 t2_1 t3_2) [(r0_135.2.getD 0 V.undef), t115_140]).bind fun r0_159 => match r0_159.1 with
        | .normal => M.fail
        | .exit k0_160 =>
          (if k0_160 = 6 then
          (M.ret (V.bool true)).bind fun t4_161 =>
          M.ret (Ex.ret, [t4_161])
          else M.fail)
        | .ret =>
          M.ret (Ex.ret, [(r0_159.2.getD 0 V.undef)])
        else M.fail)
      | .ret =>
        M.ret (Ex.ret, [(r0_135.2.getD 0 V.undef)])
      else M.fail)
    | .ret =>
      M.ret (Ex.ret, [(r0_111.2.getD 0 V.undef)])
    else M.fail)
  | .ret =>
    M.ret (Ex.ret, [(r0_87.2.getD 0 V.undef)])))

theorem ferry_ferrylaw25_sameConfig_eq (G : Nat → Option (List V)) (n : Nat) (x0 : V) (x1 : V) : sem (cfg G) (n + 1) 85 [x0, x1] = outV (ferry_ferrylaw25_sameConfig G (sem (cfg G) n) x0 x1) :=
  (fnV_at (C := cfg G) (n := n) (f := 85) (fn := Tryd.f85) (c := Tryd.f85.body.getD .skip) (by kernel_rfl) (by kernel_rfl) (by kernel_rfl) [x0, x1]).trans (by kernel_rfl)

noncomputable def ferry_ferrylaw25_sameScript_l1 (G : Nat → Option (List V)) (call : FuncId → List V → M V) (t33_31 : V) (t2_1 : V) (t3_2 : V) (s0_33 : List V) : M R :=
  (M.lift (arithV .lss (s0_33.getD 1 V.undef) t33_31)).bind fun t35_34 =>
  (condV t35_34
   ((M.ret (s0_33.getD 1 V.undef)).bind fun t36_35 =>
  (M.ret t36_35).bind fun t5_36 =>
  ((M.lift (padd 6 t2_1)).bind fun y0_37 =>
  (load1 y0_37).bind fun y1_38 =>
  (M.ret t5_36).bind fun y2_39 =>
  (M.lift (idxV 4 y1_38 y2_39)).bind fun y3_40 =>
  (loadN 4 y3_40).bind fun y4_41 =>
  (M.lift (padd 6 t3_2)).bind fun y5_42 =>
  (load1 y5_42).bind fun y6_43 =>
  (M.ret t5_36).bind fun y7_44 =>
  (M.lift (idxV 4 y6_43 y7_44)).bind fun y8_45 =>
  (loadN 4 y8_45).bind fun y9_46 =>
  (M.lift ((eqV (.agg [.int, .int, .int, .str]) false y4_41 y9_46).bind fun b => some (.bool !b))).bind fun y10_47 =>
  (condV y10_47
   ((M.ret (V.bool false)).bind fun t4_48 =>
  M.ret (Ex.ret, [t4_48, (s0_33.getD 1 V.undef)]))
   ((M.lift (arithV .add (s0_33.getD 1 V.undef) (V.int .i64 1))).bind fun t48_49 =>
  (M.ret t48_49).bind fun t34_50 =>
  M.ret (Ex.normal, [(s0_33.getD 0 V.undef), t34_50])))))
   (M.ret ((Ex.exit 0), [(s0_33.getD 0 V.undef), (s0_33.getD 1 V.undef)])))

noncomputable def ferry_ferrylaw25_sameScript_l2 (G : Nat → Option (List V)) (call : FuncId → List V → M V) (t51_55 : V) (t2_1 : V) (t3_2 : V) (s0_57 : List V) : M R :=
  (M.lift (arithV .lss (s0_57.getD 1 V.undef) t51_55)).bind fun t53_58 =>
  (condV t53_58
   ((M.ret (s0_57.getD 1 V.undef)).bind fun t54_59 =>
  (M.ret t54_59).bind fun t6_60 =>
  ((M.lift (padd 7 t2_1)).bind fun y0_61 =>
  (load1 y0_61).bind fun y1_62 =>
  (M.ret t6_60).bind fun y2_63 =>
  (M.lift (idxV 4 y1_62 y2_63)).bind fun y3_64 =>
  (loadN 4 y3_64).bind fun y4_65 =>
  (M.lift (padd 7 t3_2)).bind fun y5_66 =>
  (load1 y5_66).bind fun y6_67 =>
  (M.ret t6_60).bind fun y7_68 =>
  (M.lift (idxV 4 y6_67 y7_68)).bind fun y8_69 =>
  (loadN 4 y8_69).bind fun y9_70 =>
  (M.lift ((eqV (.agg [.int, .int, .int, .int]) false y4_65 y9_70).bind fun b => some (.bool !b))).bind fun y10_71 =>
  (condV y10_71
   ((M.ret (V.bool false)).bind fun t4_72 =>
  M.ret (Ex.ret, [t4_72, (s0_57.getD 1 V.undef)]))
   ((M.lift (arithV .add (s0_57.getD 1 V.undef) (V.int .i64 1))).bind fun t66_73 =>
  (M.ret t66_73).bind fun t52_74 =>
  M.ret (Ex.normal, [(s0_57.getD 0 V.undef), t52_74])))))
   (M.ret ((Ex.exit 2), [(s0_57.getD 0 V.undef), (s0_57.getD 1 V.undef)])))

noncomputable def ferry_ferrylaw25_sameScript (G : Nat → Option (List V)) (call : FuncId → List V → M V) (x0 : V) (x1 : V) : M R :=
  (newV x0).bind fun t2_1 =>
  (newV x1).bind fun t3_2 =>
  (M.ret (V.bool false)).bind fun t4_3 =>
  (M.lift (padd 0 t2_1)).bind fun t7_4 =>
  (loadN 6 t7_4).bind fun t8_5 =>
  (M.lift (padd 0 t3_2)).bind fun t9_6 =>
  (loadN 6 t9_6).bind fun t10_7 =>
  (callV (cfg G) call 85 [t8_5, t10_7]).bind fun t11_8 =>
  (M.lift (unV .not t11_8)).bind fun t12_9 =>
  (M.ret t12_9).bind fun t13_10 =>
  (guardV t13_10 false (M.lift (padd 6 t2_1))).bind fun t14_11 =>
  (guardV t13_10 false (load1 t14_11)).bind fun t15_12 =>
  (guardV t13_10 false (M.lift (lenV t15_12))).bind fun t16_13 =>
  (guardV t13_10 false (M.lift (padd 6 t3_2))).bind fun t17_14 =>
  (guardV t13_10 false (load1 t17_14)).bind fun t18_15 =>
  (guardV t13_10 false (M.lift (lenV t18_15))).bind fun t19_16 =>
  (guardV t13_10 false (M.lift ((eqV (.sc .int) false t16_13 t19_16).bind fun b => some (.bool !b)))).bind fun t20_17 =>
  (M.lift (pickV t13_10 (V.bool true) t20_17)).bind fun t21_18 =>
  (M.ret t21_18).bind fun t22_19 =>
  (guardV t22_19 false (M.lift (padd 7 t2_1))).bind fun t23_20 =>
  (guardV t22_19 false (load1 t23_20)).bind fun t24_21 =>
  (guardV t22_19 false (M.lift (lenV t24_21))).bind fun t25_22 =>
  (guardV t22_19 false (M.lift (padd 7 t3_2))).bind fun t26_23 =>
  (guardV t22_19 false (load1 t26_23)).bind fun t27_24 =>
  (guardV t22_19 false (M.lift (lenV t27_24))).bind fun t28_25 =>
  (guardV t22_19 false (M.lift ((eqV (.sc .int) false t25_22 t28_25).bind fun b => some (.bool !b)))).bind fun t29_26 =>
  (M.lift (pickV t22_19 (V.bool true) t29_26)).bind fun t30_27 =>
  (condV t30_27
   ((M.ret (V.bool false)).bind fun t4_28 =>
  M.ret (Ex.ret, [t4_28]))
   ((M.lift (padd 6 t2_1)).bind fun t31_29 =>
  (load1 t31_29).bind fun t32_30 =>
  (M.lift (lenV t32_30)).bind fun t33_31 =>
  (M.ret (V.int .i64 0)).bind fun t34_32 =>
  (loopV (ferry_ferrylaw25_sameScript_l1 G call t33_31 t2_1 t3_2) [t4_3, t34_32]).bind fun r0_51 => match r0_51.1 with
  | .normal => M.fail
  | .exit k0_52 =>
    (if k0_52 = 0 then
    (M.lift (padd 7 t2_1)).bind fun t49_53 =>
    (load1 t49_53).bind fun t50_54 =>
    (M.lift (lenV t50_54)).bind fun t51_55 =>
    (M.ret (V.int .i64 0)).bind fun t52_56 =>
    (loopV (ferry_ferrylaw25_sameScript_l2 G call t51_55 t2_1 t3_2) [(r0_51.2.getD 0 V.undef), t52_56]).bind fun r0_75 => match r0_75.1 with
    | .normal => M.fail
    | .exit k0_76 =>
      (if k0_76 = 2 then
      (M.ret (V.bool true)).bind fun t4_77 =>
      M.ret (Ex.ret, [t4_77])
      else M.fail)
    | .ret =>
      M.ret (Ex.ret, [(r0_75.2.getD 0 V.undef)])
    else M.fail)
  | .ret =>
    M.ret (Ex.ret, [(r0_51.2.getD 0 V.undef)])))

theorem ferry_ferrylaw25_sameScript_eq (G : Nat → Option (List V)) (n : Nat) (x0 : V) (x1 : V) : sem (cfg G) (n + 1) 29 [x0, x1] = outV (ferry_ferrylaw25_sameScript G (sem (cfg G) n) x0 x1) :=
  (fnV_at (C := cfg G) (n := n) (f := 29) (fn := Tryd.f29) (c := Tryd.f29.body.getD .skip) (by kernel_rfl) (by kernel_rfl) (by kernel_rfl) [x0, x1]).trans (by kernel_rfl)

noncomputable def ferry_ferrylaw25_TextPrints (G : Nat → Option (List V)) (call : FuncId → List V → M V) (x0 : V) : M R :=
  (newV x0).bind fun t1_1 =>
  (M.ret (V.bool false)).bind fun t2_2 =>
  (callV (cfg G) call 26 []).bind fun t7_3 =>
  (M.lift (unV .not t7_3)).bind fun t8_4 =>
  (condV t8_4
   ((M.ret (V.bool false)).bind fun t2_5 =>
  M.ret (Ex.ret, [t2_5]))
   ((loadN 8 t1_1).bind fun t9_6 =>
  (callV (cfg G) call 27 [t9_6]).bind fun t10_7 =>
  (newV (.agg [(V.int .i64 0), V.nils, V.nils, V.nils, V.nils, (V.int .i64 0), V.nils, V.nils])).bind fun t3_8 =>
  (storeN 8 t3_8 t10_7).bind fun _ =>
  (loadN 8 t3_8).bind fun t12_9 =>
  (callV (cfg G) call 28 [t12_9]).bind fun t13_10 =>
  (M.ret t13_10).bind fun t11_11 =>
  (M.lift (extractV t11_11 0)).bind fun t14_12 =>
  (M.lift (extractV t11_11 1)).bind fun t15_13 =>
  (M.ret t14_12).bind fun t4_14 =>
  (M.ret t15_13).bind fun t5_15 =>
  (loadN 8 t3_8).bind fun t16_16 =>
  (loadN 8 t1_1).bind fun t17_17 =>
  (callV (cfg G) call 29 [t16_16, t17_17]).bind fun t18_18 =>
  (M.lift (unV .not t18_18)).bind fun t19_19 =>
  (condV t19_19
   ((M.ret (V.bool false)).bind fun t2_20 =>
  M.ret (Ex.ret, [t2_20]))
   ((loadN 8 t1_1).bind fun t20_21 =>
  (callV (cfg G) call 30 [t20_21]).bind fun t21_22 =>
  (M.ret t21_22).bind fun t6_23 =>
  (M.ret t6_23).bind fun t22_24 =>
  (M.lift (arithV .geq t22_24 (V.int .i64 0))).bind fun t23_25 =>
  (condV t23_25
   ((M.ret t4_14).bind fun t24_26 =>
  (M.lift ((eqV (.sc .str) true t24_26 (V.str ⟨#[]⟩)).bind fun b => some (.bool b))).bind fun t25_27 =>
  (M.ret t25_27).bind fun t26_28 =>
  (guardV t26_28 true (M.ret t5_15)).bind fun t27_29 =>
  (guardV t26_28 true (callV (cfg G) call 31 [t27_29])).bind fun t28_30 =>
  (guardV t26_28 true (M.lift ((eqV (.sc .int) true t28_30 (V.int .i64 12)).bind fun b => some (.bool b)))).bind fun t29_31 =>
  (M.lift (pickV t26_28 t29_31 (V.bool false))).bind fun t30_32 =>
  (M.ret t30_32).bind fun t31_33 =>
  (guardV t31_33 true (M.ret t5_15)).bind fun t32_34 =>
  (guardV t31_33 true (callV (cfg G) call 32 [t32_34])).bind fun t33_35 =>
  (guardV t31_33 true (M.ret t6_23)).bind fun t34_36 =>
  (guardV t31_33 true (M.lift ((eqV (.sc .int) false t33_35 t34_36).bind fun b => some (.bool b)))).bind fun t35_37 =>
  (M.lift (pickV t31_33 t35_37 (V.bool false))).bind fun t36_38 =>
  (M.ret t36_38).bind fun t2_39 =>
  M.ret (Ex.ret, [t2_39]))
   ((M.ret t5_15).bind fun t37_40 =>
  (M.lift ((eqV .iface true t37_40 V.nili).bind fun b => some (.bool b))).bind fun t38_41 =>
  (M.ret t38_41).bind fun t39_42 =>
  (guardV t39_42 true (M.ret t4_14)).bind fun t40_43 =>
  (guardV t39_42 true (loadN 8 t1_1)).bind fun t41_44 =>
  (guardV t39_42 true (callV (cfg G) call 33 [t41_44])).bind fun t42_45 =>
  (guardV t39_42 true (M.lift ((eqV (.sc .str) false t40_43 t42_45).bind fun b => some (.bool b)))).bind fun t43_46 =>
  (M.lift (pickV t39_42 t43_46 (V.bool false))).bind fun t44_47 =>
  (M.ret t44_47).bind fun t2_48 =>
  M.ret (Ex.ret, [t2_48])))))))

theorem ferry_ferrylaw25_TextPrints_eq (G : Nat → Option (List V)) (n : Nat) (x0 : V) : sem (cfg G) (n + 1) 5 [x0] = outV (ferry_ferrylaw25_TextPrints G (sem (cfg G) n) x0) :=
  (fnV_at (C := cfg G) (n := n) (f := 5) (fn := Tryd.f5) (c := Tryd.f5.body.getD .skip) (by kernel_rfl) (by kernel_rfl) (by kernel_rfl) [x0]).trans (by kernel_rfl)

end Go.Fv.Tr

/-
  The Go functions ferry/text.Check, ferry/text.Print, ferry/ferrylaw25.awake, ferry/ferryref25.Check, ferry/ferrylaw25.copyScript as plain terms. By an AI agent; no person has read it.
-/
import Derived.Test.YtoogammidjhfgaaDoorFvCf
import Derived.Test.YtoogammidjhfgaaDoorFvW4
set_option linter.unusedVariables false
set_option linter.unusedSimpArgs false
set_option linter.unusedSectionVars false
/-! The Go functions ferry/text.Check, ferry/text.Print, ferry/ferrylaw25.awake, ferry/ferryref25.Check, ferry/ferrylaw25.copyScript as plain terms. -/
namespace Go.Fv.Tr
open Go Go.Fv Go.Proofs
set_option linter.unusedVariables false
set_option maxRecDepth 20000

noncomputable def ferry_text_Check_l1 (G : Nat → Option (List V)) (call : FuncId → List V → M V) (t9_6 : V) (t8_5 : V) (t1_1 : V) (s0_8 : List V) : M R :=
  (M.lift (arithV .lss (s0_8.getD 1 V.undef) t9_6)).bind fun t11_9 =>
  (condV t11_9
   ((M.ret (s0_8.getD 1 V.undef)).bind fun t12_10 =>
  (M.lift (idxV 7 t8_5 (s0_8.getD 1 V.undef))).bind fun t13_11 =>
  (loadN 7 t13_11).bind fun t14_12 =>
  (newV (.agg [(V.int .i64 0), (V.bool false), V.nils, V.nils, V.nils, (V.int .i64 0), V.nils])).bind fun t4_13 =>
  (M.ret t12_10).bind fun t3_14 =>
  (storeN 7 t4_13 t14_12).bind fun _ =>
  (M.ret t3_14).bind fun t15_15 =>
  (M.lift (padd 0 t1_1)).bind fun t16_16 =>
  (M.lift (padd 2 t16_16)).bind fun t17_17 =>
  (load1 t17_17).bind fun t18_18 =>
  (M.lift (lenV t18_18)).bind fun t19_19 =>
  (M.lift (arithV .geq t15_15 t19_19)).bind fun t20_20 =>
  (M.ret t20_20).bind fun t21_21 =>
  (guardV t21_21 false (loadN 7 t4_13)).bind fun t22_22 =>
  (guardV t21_21 false (M.ret t3_14)).bind fun t23_23 =>
  (guardV t21_21 false (callV (cfg G) call 133 [t22_22, t23_23])).bind fun t24_24 =>
  (guardV t21_21 false (M.lift (unV .not t24_24))).bind fun t25_25 =>
  (M.lift (pickV t21_21 (V.bool true) t25_25)).bind fun t26_26 =>
  (condV t26_26
   ((M.ret t3_14).bind fun t27_27 =>
  (load1 (glob (cfg G) 10)).bind fun t28_28 =>
  (M.lift (buildV [(V.int .i64 0), V.nili] [(0, 1, t27_27), (1, 1, t28_28)])).bind fun t29_29 =>
  (newV t29_29).bind fun t30_30 =>
  (M.lift (ifaceV 186 t30_30)).bind fun t31_31 =>
  (M.ret t31_31).bind fun t2_32 =>
  M.ret (Ex.ret, [t2_32, (s0_8.getD 1 V.undef)]))
   ((M.lift (arithV .add (s0_8.getD 1 V.undef) (V.int .i64 1))).bind fun t32_33 =>
  (M.ret t32_33).bind fun t10_34 =>
  M.ret (Ex.normal, [(s0_8.getD 0 V.undef), t10_34]))))
   (M.ret ((Ex.exit 0), [(s0_8.getD 0 V.undef), (s0_8.getD 1 V.undef)])))

noncomputable def ferry_text_Check (G : Nat → Option (List V)) (call : FuncId → List V → M V) (x0 : V) : M R :=
  (newV x0).bind fun t1_1 =>
  (M.ret V.nili).bind fun t2_2 =>
  (M.lift (padd 0 t1_1)).bind fun t6_3 =>
  (M.lift (padd 1 t6_3)).bind fun t7_4 =>
  (load1 t7_4).bind fun t8_5 =>
  (M.lift (lenV t8_5)).bind fun t9_6 =>
  (M.ret (V.int .i64 0)).bind fun t10_7 =>
  (loopV (ferry_text_Check_l1 G call t9_6 t8_5 t1_1) [t2_2, t10_7]).bind fun r0_35 => match r0_35.1 with
  | .normal => M.fail
  | .exit k0_36 =>
    (if k0_36 = 0 then
    (M.lift (padd 0 t1_1)).bind fun t33_37 =>
    (M.lift (padd 1 t33_37)).bind fun t34_38 =>
    (load1 t34_38).bind fun t35_39 =>
    (M.lift (lenV t35_39)).bind fun t36_40 =>
    (M.ret t36_40).bind fun t5_41 =>
    (M.lift (padd 0 t1_1)).bind fun t37_42 =>
    (M.lift (padd 2 t37_42)).bind fun t38_43 =>
    (load1 t38_43).bind fun t39_44 =>
    (M.lift (lenV t39_44)).bind fun t40_45 =>
    (M.ret t5_41).bind fun t41_46 =>
    (M.lift (arithV .gtr t40_45 t41_46)).bind fun t42_47 =>
    (condV t42_47
     ((M.ret t5_41).bind fun t43_48 =>
    (load1 (glob (cfg G) 10)).bind fun t44_49 =>
    (M.lift (buildV [(V.int .i64 0), V.nili] [(0, 1, t43_48), (1, 1, t44_49)])).bind fun t45_50 =>
    (newV t45_50).bind fun t46_51 =>
    (M.lift (ifaceV 186 t46_51)).bind fun t47_52 =>
    (M.ret t47_52).bind fun t2_53 =>
    M.ret (Ex.ret, [t2_53]))
     ((M.ret V.nili).bind fun t2_54 =>
    M.ret (Ex.ret, [t2_54])))
    else M.fail)
  | .ret =>
    M.ret (Ex.ret, [(r0_35.2.getD 0 V.undef)])

theorem ferry_text_Check_eq (G : Nat → Option (List V)) (n : Nat) (x0 : V) : sem (cfg G) (n + 1) 77 [x0] = outV (ferry_text_Check G (sem (cfg G) n) x0) :=
  (fnV_at (C := cfg G) (n := n) (f := 77) (fn := Tryd.f77) (c := Tryd.f77.body.getD .skip) (by kernel_rfl) (by kernel_rfl) (by kernel_rfl) [x0]).trans (by kernel_rfl)

noncomputable def ferry_text_Print_l1 (G : Nat → Option (List V)) (call : FuncId → List V → M V) (t35_38 : V) (t34_37 : V) (t5_14 : V) (s0_40 : List V) : M R :=
  (M.lift (arithV .lss (s0_40.getD 1 V.undef) t35_38)).bind fun t37_41 =>
  (condV t37_41
   ((M.ret (s0_40.getD 1 V.undef)).bind fun t38_42 =>
  (M.lift (idxV 7 t34_37 (s0_40.getD 1 V.undef))).bind fun t39_43 =>
  (loadN 7 t39_43).bind fun t40_44 =>
  (newV (.agg [(V.int .i64 0), (V.bool false), V.nils, V.nils, V.nils, (V.int .i64 0), V.nils])).bind fun t8_45 =>
  (M.ret t38_42).bind fun t7_46 =>
  (storeN 7 t8_45 t40_44).bind fun _ =>
  (getN.bind fun n_47 =>
  (M.ret (s0_40.getD 0 V.undef)).bind fun y0_48 =>
  getN.bind fun n_49 =>
  (loadN 7 t8_45).bind fun y1_50 =>
  getN.bind fun n_51 =>
  (M.lift (padd 2 t5_14)).bind fun y2_52 =>
  getN.bind fun n_53 =>
  (load1 y2_52).bind fun y3_54 =>
  getN.bind fun n_55 =>
  (M.ret t7_46).bind fun y4_56 =>
  getN.bind fun n_57 =>
  (M.lift (idxV 1 y3_54 y4_56)).bind fun y5_58 =>
  getN.bind fun n_59 =>
  (load1 y5_58).bind fun y6_60 =>
  getN.bind fun n_61 =>
  (qrun (visB n_47 [(n_59, n_61, true), (n_57, n_59, true), (n_55, n_57, true), (n_53, n_55, true), (n_51, n_53, true), (n_49, n_51, true), (n_47, n_49, false)]) (callV (cfg G) call 80 [y1_50, y6_60])).bind fun y7_62 =>
  getN.bind fun n_63 =>
  (trun (visB n_47 [(n_61, n_63, true), (n_59, n_61, true), (n_57, n_59, true), (n_55, n_57, true), (n_53, n_55, true), (n_51, n_53, true), (n_49, n_51, true), (n_47, n_49, true)]) (appV 1 16 y0_48 y7_62)).bind fun y8_64 =>
  getN.bind fun n_65 =>
  (M.ret y8_64).bind fun y9_66 =>
  getN.bind fun n_67 =>
  (M.lift (arithV .add (s0_40.getD 1 V.undef) (V.int .i64 1))).bind fun t50_68 =>
  (M.ret t50_68).bind fun t36_69 =>
  M.ret (Ex.normal, [y9_66, t36_69])))
   (M.ret ((Ex.exit 0), [(s0_40.getD 0 V.undef), (s0_40.getD 1 V.undef)])))

noncomputable def ferry_text_Print_l2 (G : Nat → Option (List V)) (call : FuncId → List V → M V) (t53_74 : V) (t52_73 : V) (s0_76 : List V) : M R :=
  (M.lift (arithV .lss (s0_76.getD 1 V.undef) t53_74)).bind fun t55_77 =>
  (condV t55_77
   ((M.lift (idxV 3 t52_73 (s0_76.getD 1 V.undef))).bind fun t56_78 =>
  (loadN 3 t56_78).bind fun t57_79 =>
  (newV (.agg [(V.int .i64 0), (V.int .i64 0), (V.int .i64 0)])).bind fun t10_80 =>
  (storeN 3 t10_80 t57_79).bind fun _ =>
  (getN.bind fun n_81 =>
  (M.ret (s0_76.getD 0 V.undef)).bind fun y0_82 =>
  getN.bind fun n_83 =>
  (M.lift (padd 0 t10_80)).bind fun y1_84 =>
  getN.bind fun n_85 =>
  (load1 y1_84).bind fun y2_86 =>
  getN.bind fun n_87 =>
  (M.lift ((eqV (.sc .int) true y2_86 (V.int .i64 (-1))).bind fun b => some (.bool b))).bind fun y3_88 =>
  getN.bind fun n_89 =>
  (M.lift (padd 0 t10_80)).bind fun y4_90 =>
  getN.bind fun n_91 =>
  (load1 y4_90).bind fun y5_92 =>
  getN.bind fun n_93 =>
  (qrun (visB n_81 [(n_91, n_93, true), (n_89, n_91, true), (n_87, n_89, false), (n_85, n_87, false), (n_83, n_85, false), (n_81, n_83, false)]) (callV (cfg G) call 79 [y5_92])).bind fun y6_94 =>
  getN.bind fun n_95 =>
  (qrun (visB n_81 [(n_93, n_95, true), (n_91, n_93, true), (n_89, n_91, true), (n_87, n_89, true), (n_85, n_87, true), (n_83, n_85, true), (n_81, n_83, false)]) (callV (cfg G) call 81 [y3_88, (V.str ⟨#[115, 110, 97, 112]⟩), y6_94])).bind fun y7_96 =>
  getN.bind fun n_97 =>
  (M.lift (padd 1 t10_80)).bind fun y8_98 =>
  getN.bind fun n_99 =>
  (load1 y8_98).bind fun y9_100 =>
  getN.bind fun n_101 =>
  (qrun (visB n_81 [(n_99, n_101, true), (n_97, n_99, true), (n_95, n_97, true), (n_93, n_95, true), (n_91, n_93, true), (n_89, n_91, true), (n_87, n_89, true), (n_85, n_87, true), (n_83, n_85, true), (n_81, n_83, false)]) (callV (cfg G) call 79 [y9_100])).bind fun y10_102 =>
  getN.bind fun n_103 =>
  (M.lift (padd 2 t10_80)).bind fun y11_104 =>
  getN.bind fun n_105 =>
  (load1 y11_104).bind fun y12_106 =>
  getN.bind fun n_107 =>
  (qrun (visB n_81 [(n_105, n_107, true), (n_103, n_105, true), (n_101, n_103, true), (n_99, n_101, true), (n_97, n_99, true), (n_95, n_97, true), (n_93, n_95, true), (n_91, n_93, true), (n_89, n_91, true), (n_87, n_89, true), (n_85, n_87, true), (n_83, n_85, true), (n_81, n_83, false)]) (callV (cfg G) call 79 [y12_106])).bind fun y13_108 =>
  getN.bind fun n_109 =>
  (sliceV 1 4 [(V.str ⟨#[]⟩)] [(0, (V.str ⟨#[119, 105, 110, 100, 111, 119]⟩)), (1, y7_96), (2, y10_102), (3, y13_108)]).bind fun y14_110 =>
  getN.bind fun n_111 =>
  (qrun (visB n_81 [(n_109, n_111, true), (n_107, n_109, true), (n_105, n_107, true), (n_103, n_105, true), (n_101, n_103, true), (n_99, n_101, true), (n_97, n_99, true), (n_95, n_97, true), (n_93, n_95, true), (n_91, n_93, true), (n_89, n_91, true), (n_87, n_89, true), (n_85, n_87, true), (n_83, n_85, true), (n_81, n_83, false)]) (callV (cfg G) call 78 [y14_110])).bind fun y15_112 =>
  getN.bind fun n_113 =>
  (sliceV 1 1 [(V.str ⟨#[]⟩)] [(0, y15_112)]).bind fun y16_114 =>
  getN.bind fun n_115 =>
  (trun (visB n_81 [(n_113, n_115, true), (n_111, n_113, true), (n_109, n_111, true), (n_107, n_109, true), (n_105, n_107, true), (n_103, n_105, true), (n_101, n_103, true), (n_99, n_101, true), (n_97, n_99, true), (n_95, n_97, true), (n_93, n_95, true), (n_91, n_93, true), (n_89, n_91, true), (n_87, n_89, true), (n_85, n_87, true), (n_83, n_85, true), (n_81, n_83, true)]) (appV 1 16 y0_82 y16_114)).bind fun y17_116 =>
  getN.bind fun n_117 =>
  (M.ret y17_116).bind fun y18_118 =>
  getN.bind fun n_119 =>
  (M.lift (arithV .add (s0_76.getD 1 V.undef) (V.int .i64 1))).bind fun t76_120 =>
  (M.ret t76_120).bind fun t54_121 =>
  M.ret (Ex.normal, [y18_118, t54_121])))
   (M.ret ((Ex.exit 2), [(s0_76.getD 0 V.undef), (s0_76.getD 1 V.undef)])))

noncomputable def ferry_text_Print_l3 (G : Nat → Option (List V)) (call : FuncId → List V → M V) (t79_126 : V) (t78_125 : V) (s0_128 : List V) : M R :=
  (M.lift (arithV .lss (s0_128.getD 1 V.undef) t79_126)).bind fun t81_129 =>
  (condV t81_129
   ((M.lift (idxV 4 t78_125 (s0_128.getD 1 V.undef))).bind fun t82_130 =>
  (loadN 4 t82_130).bind fun t83_131 =>
  (newV (.agg [(V.int .i64 0), (V.int .i64 0), (V.int .i64 0), (V.int .i64 0)])).bind fun t12_132 =>
  (storeN 4 t12_132 t83_131).bind fun _ =>
  (getN.bind fun n_133 =>
  (M.ret (s0_128.getD 0 V.undef)).bind fun y0_134 =>
  getN.bind fun n_135 =>
  (M.lift (padd 0 t12_132)).bind fun y1_136 =>
  getN.bind fun n_137 =>
  (load1 y1_136).bind fun y2_138 =>
  getN.bind fun n_139 =>
  (qrun (visB n_133 [(n_137, n_139, true), (n_135, n_137, true), (n_133, n_135, false)]) (callV (cfg G) call 79 [y2_138])).bind fun y3_140 =>
  getN.bind fun n_141 =>
  (M.lift (padd 1 t12_132)).bind fun y4_142 =>
  getN.bind fun n_143 =>
  (load1 y4_142).bind fun y5_144 =>
  getN.bind fun n_145 =>
  (qrun (visB n_133 [(n_143, n_145, true), (n_141, n_143, true), (n_139, n_141, true), (n_137, n_139, true), (n_135, n_137, true), (n_133, n_135, false)]) (callV (cfg G) call 79 [y5_144])).bind fun y6_146 =>
  getN.bind fun n_147 =>
  (M.lift (padd 2 t12_132)).bind fun y7_148 =>
  getN.bind fun n_149 =>
  (load1 y7_148).bind fun y8_150 =>
  getN.bind fun n_151 =>
  (qrun (visB n_133 [(n_149, n_151, true), (n_147, n_149, true), (n_145, n_147, true), (n_143, n_145, true), (n_141, n_143, true), (n_139, n_141, true), (n_137, n_139, true), (n_135, n_137, true), (n_133, n_135, false)]) (callV (cfg G) call 79 [y8_150])).bind fun y9_152 =>
  getN.bind fun n_153 =>
  (M.lift (padd 3 t12_132)).bind fun y10_154 =>
  getN.bind fun n_155 =>
  (load1 y10_154).bind fun y11_156 =>
  getN.bind fun n_157 =>
  (qrun (visB n_133 [(n_155, n_157, true), (n_153, n_155, true), (n_151, n_153, true), (n_149, n_151, true), (n_147, n_149, true), (n_145, n_147, true), (n_143, n_145, true), (n_141, n_143, true), (n_139, n_141, true), (n_137, n_139, true), (n_135, n_137, true), (n_133, n_135, false)]) (callV (cfg G) call 79 [y11_156])).bind fun y12_158 =>
  getN.bind fun n_159 =>
  (sliceV 1 5 [(V.str ⟨#[]⟩)] [(0, (V.str ⟨#[108, 105, 110, 107]⟩)), (1, y3_140), (2, y6_146), (3, y9_152), (4, y12_158)]).bind fun y13_160 =>
  getN.bind fun n_161 =>
  (qrun (visB n_133 [(n_159, n_161, true), (n_157, n_159, true), (n_155, n_157, true), (n_153, n_155, true), (n_151, n_153, true), (n_149, n_151, true), (n_147, n_149, true), (n_145, n_147, true), (n_143, n_145, true), (n_141, n_143, true), (n_139, n_141, true), (n_137, n_139, true), (n_135, n_137, true), (n_133, n_135, false)]) (callV (cfg G) call 78 [y13_160])).bind fun y14_162 =>
  getN.bind fun n_163 =>
  (sliceV 1 1 [(V.str ⟨#[]⟩)] [(0, y14_162)]).bind fun y15_164 =>
  getN.bind fun n_165 =>
  (trun (visB n_133 [(n_163, n_165, true), (n_161, n_163, true), (n_159, n_161, true), (n_157, n_159, true), (n_155, n_157, true), (n_153, n_155, true), (n_151, n_153, true), (n_149, n_151, true), (n_147, n_149, true), (n_145, n_147, true), (n_143, n_145, true), (n_141, n_143, true), (n_139, n_141, true), (n_137, n_139, true), (n_135, n_137, true), (n_133, n_135, true)]) (appV 1 16 y0_134 y15_164)).bind fun y16_166 =>
  getN.bind fun n_167 =>
  (M.ret y16_166).bind fun y17_168 =>
  getN.bind fun n_169 =>
  (M.lift (arithV .add (s0_128.getD 1 V.undef) (V.int .i64 1))).bind fun t101_170 =>
  (M.ret t101_170).bind fun t80_171 =>
  M.ret (Ex.normal, [y17_168, t80_171])))
   (M.ret ((Ex.exit 4), [(s0_128.getD 0 V.undef), (s0_128.getD 1 V.undef)])))

noncomputable def ferry_text_Print_l4 (G : Nat → Option (List V)) (call : FuncId → List V → M V) (t104_176 : V) (t103_175 : V) (s0_178 : List V) : M R :=
  (M.lift (arithV .lss (s0_178.getD 1 V.undef) t104_176)).bind fun t106_179 =>
  (condV t106_179
   ((M.lift (idxV 4 t103_175 (s0_178.getD 1 V.undef))).bind fun t107_180 =>
  (loadN 4 t107_180).bind fun t108_181 =>
  (newV (.agg [(V.int .i64 0), (V.int .i64 0), (V.int .i64 0), (V.str ⟨#[]⟩)])).bind fun t14_182 =>
  (storeN 4 t14_182 t108_181).bind fun _ =>
  (getN.bind fun n_183 =>
  (M.ret (s0_178.getD 0 V.undef)).bind fun y0_184 =>
  getN.bind fun n_185 =>
  (M.lift (padd 0 t14_182)).bind fun y1_186 =>
  getN.bind fun n_187 =>
  (load1 y1_186).bind fun y2_188 =>
  getN.bind fun n_189 =>
  (qrun (visB n_183 [(n_187, n_189, true), (n_185, n_187, true), (n_183, n_185, false)]) (callV (cfg G) call 79 [y2_188])).bind fun y3_190 =>
  getN.bind fun n_191 =>
  (M.lift (padd 1 t14_182)).bind fun y4_192 =>
  getN.bind fun n_193 =>
  (load1 y4_192).bind fun y5_194 =>
  getN.bind fun n_195 =>
  (qrun (visB n_183 [(n_193, n_195, true), (n_191, n_193, true), (n_189, n_191, true), (n_187, n_189, true), (n_185, n_187, true), (n_183, n_185, false)]) (callV (cfg G) call 79 [y5_194])).bind fun y6_196 =>
  getN.bind fun n_197 =>
  (M.lift (padd 2 t14_182)).bind fun y7_198 =>
  getN.bind fun n_199 =>
  (load1 y7_198).bind fun y8_200 =>
  getN.bind fun n_201 =>
  (qrun (visB n_183 [(n_199, n_201, true), (n_197, n_199, true), (n_195, n_197, true), (n_193, n_195, true), (n_191, n_193, true), (n_189, n_191, true), (n_187, n_189, true), (n_185, n_187, true), (n_183, n_185, false)]) (callV (cfg G) call 79 [y8_200])).bind fun y9_202 =>
  getN.bind fun n_203 =>
  (M.lift (padd 3 t14_182)).bind fun y10_204 =>
  getN.bind fun n_205 =>
  (load1 y10_204).bind fun y11_206 =>
  getN.bind fun n_207 =>
  (qrun (visB n_183 [(n_205, n_207, true), (n_203, n_205, true), (n_201, n_203, true), (n_199, n_201, true), (n_197, n_199, true), (n_195, n_197, true), (n_193, n_195, true), (n_191, n_193, true), (n_189, n_191, true), (n_187, n_189, true), (n_185, n_187, true), (n_183, n_185, false)]) (callV (cfg G) call 82 [y11_206])).bind fun y12_208 =>
  getN.bind fun n_209 =>
  (sliceV 1 5 [(V.str ⟨#[]⟩)] [(0, (V.str ⟨#[105, 110, 112, 117, 116]⟩)), (1, y3_190), (2, y6_196), (3, y9_202), (4, y12_208)]).bind fun y13_210 =>
  getN.bind fun n_211 =>
  (qrun (visB n_183 [(n_209, n_211, true), (n_207, n_209, true), (n_205, n_207, true), (n_203, n_205, true), (n_201, n_203, true), (n_199, n_201, true), (n_197, n_199, true), (n_195, n_197, true), (n_193, n_195, true), (n_191, n_193, true), (n_189, n_191, true), (n_187, n_189, true), (n_185, n_187, true), (n_183, n_185, false)]) (callV (cfg G) call 78 [y13_210])).bind fun y14_212 =>
  getN.bind fun n_213 =>
  (sliceV 1 1 [(V.str ⟨#[]⟩)] [(0, y14_212)]).bind fun y15_214 =>
  getN.bind fun n_215 =>
  (trun (visB n_183 [(n_213, n_215, true), (n_211, n_213, true), (n_209, n_211, true), (n_207, n_209, true), (n_205, n_207, true), (n_203, n_205, true), (n_201, n_203, true), (n_199, n_201, true), (n_197, n_199, true), (n_195, n_197, true), (n_193, n_195, true), (n_191, n_193, true), (n_189, n_191, true), (n_187, n_189, true), (n_185, n_187, true), (n_183, n_185, true)]) (appV 1 16 y0_184 y15_214)).bind fun y16_216 =>
  getN.bind fun n_217 =>
  (M.ret y16_216).bind fun y17_218 =>
  getN.bind fun n_219 =>
  (M.lift (arithV .add (s0_178.getD 1 V.undef) (V.int .i64 1))).bind fun t126_220 =>
  (M.ret t126_220).bind fun t105_221 =>
  M.ret (Ex.normal, [y17_218, t105_221])))
   (M.ret ((Ex.exit 6), [(s0_178.getD 0 V.undef), (s0_178.getD 1 V.undef)])))

noncomputable def ferry_text_Print_l5 (G : Nat → Option (List V)) (call : FuncId → List V → M V) (t129_226 : V) (t128_225 : V) (s0_228 : List V) : M R :=
  (M.lift (arithV .lss (s0_228.getD 1 V.undef) t129_226)).bind fun t131_229 =>
  (condV t131_229
   ((M.lift (idxV 4 t128_225 (s0_228.getD 1 V.undef))).bind fun t132_230 =>
  (loadN 4 t132_230).bind fun t133_231 =>
  (newV (.agg [(V.int .i64 0), (V.int .i64 0), (V.int .i64 0), (V.int .i64 0)])).bind fun t16_232 =>
  (storeN 4 t16_232 t133_231).bind fun _ =>
  (M.ret (s0_228.getD 0 V.undef)).bind fun t134_233 =>
  (loadN 4 t16_232).bind fun t135_234 =>
  (callV (cfg G) call 83 [t135_234]).bind fun t136_235 =>
  (sliceV 1 1 [(V.str ⟨#[]⟩)] [(0, t136_235)]).bind fun t137_236 =>
  (appV 1 16 t134_233 t137_236).bind fun t138_237 =>
  (M.ret t138_237).bind fun t6_238 =>
  (M.lift (arithV .add (s0_228.getD 1 V.undef) (V.int .i64 1))).bind fun t139_239 =>
  (M.ret t139_239).bind fun t130_240 =>
  M.ret (Ex.normal, [t6_238, t130_240]))
   (M.ret ((Ex.exit 8), [(s0_228.getD 0 V.undef), (s0_228.getD 1 V.undef)])))

noncomputable def ferry_text_Print (G : Nat → Option (List V)) (call : FuncId → List V → M V) (x0 : V) : M R :=
  (newV x0).bind fun t1_1 =>
  (M.ret (V.str ⟨#[]⟩)).bind fun t2_2 =>
  (M.ret V.nili).bind fun t3_3 =>
  (loadN 8 t1_1).bind fun t17_4 =>
  (callV (cfg G) call 77 [t17_4]).bind fun t18_5 =>
  (M.ret t18_5).bind fun t4_6 =>
  (M.ret t4_6).bind fun t19_7 =>
  (M.lift ((eqV .iface true t19_7 V.nili).bind fun b => some (.bool !b))).bind fun t20_8 =>
  (condV t20_8
   ((M.ret t4_6).bind fun t21_9 =>
  (M.ret (V.str ⟨#[]⟩)).bind fun t2_10 =>
  (M.ret t21_9).bind fun t3_11 =>
  M.ret (Ex.ret, [V.tuple [t2_10, t3_11]]))
   ((M.lift (padd 0 t1_1)).bind fun t22_12 =>
  (loadN 6 t22_12).bind fun t23_13 =>
  (newV (.agg [(V.int .i64 0), V.nils, V.nils, V.nils, V.nils, (V.int .i64 0)])).bind fun t5_14 =>
  (storeN 6 t5_14 t23_13).bind fun _ =>
  (getN.bind fun n_15 =>
  (M.lift (padd 0 t5_14)).bind fun y0_16 =>
  getN.bind fun n_17 =>
  (load1 y0_16).bind fun y1_18 =>
  getN.bind fun n_19 =>
  (qrun (visB n_15 [(n_17, n_19, true), (n_15, n_17, true)]) (callV (cfg G) call 79 [y1_18])).bind fun y2_20 =>
  getN.bind fun n_21 =>
  (M.lift (padd 5 t5_14)).bind fun y3_22 =>
  getN.bind fun n_23 =>
  (load1 y3_22).bind fun y4_24 =>
  getN.bind fun n_25 =>
  (qrun (visB n_15 [(n_23, n_25, true), (n_21, n_23, true), (n_19, n_21, true), (n_17, n_19, true), (n_15, n_17, true)]) (callV (cfg G) call 79 [y4_24])).bind fun y5_26 =>
  getN.bind fun n_27 =>
  (sliceV 1 3 [(V.str ⟨#[]⟩)] [(0, (V.str ⟨#[99, 111, 110, 102, 105, 103]⟩)), (1, y2_20), (2, y5_26)]).bind fun y6_28 =>
  getN.bind fun n_29 =>
  (qrun (visB n_15 [(n_27, n_29, true), (n_25, n_27, true), (n_23, n_25, true), (n_21, n_23, true), (n_19, n_21, true), (n_17, n_19, true), (n_15, n_17, true)]) (callV (cfg G) call 78 [y6_28])).bind fun y7_30 =>
  getN.bind fun n_31 =>
  (sliceV 1 1 [(V.str ⟨#[]⟩)] [(0, y7_30)]).bind fun y8_32 =>
  getN.bind fun n_33 =>
  (M.ret y8_32).bind fun y9_34 =>
  getN.bind fun n_35 =>
  (M.lift (padd 1 t5_14)).bind fun t33_36 =>
  (load1 t33_36).bind fun t34_37 =>
  (M.lift (lenV t34_37)).bind fun t35_38 =>
  (M.ret (V.int .i64 0)).bind fun t36_39 =>
  (loopV (ferry_text_Print_l1 G call t35_38 t34_37 t5_14) [y9_34, t36_39]).bind fun r0_70 => match r0_70.1 with
  | .normal => M.fail
  | .exit k0_71 =>
    (if k0_71 = 0 then
    (M.lift (padd 3 t5_14)).bind fun t51_72 =>
    (load1 t51_72).bind fun t52_73 =>
    (M.lift (lenV t52_73)).bind fun t53_74 =>
    (M.ret (V.int .i64 0)).bind fun t54_75 =>
    (loopV (ferry_text_Print_l2 G call t53_74 t52_73) [(r0_70.2.getD 0 V.undef), t54_75]).bind fun r0_122 => match r0_122.1 with
    | .normal => M.fail
    | .exit k0_123 =>
      (if k0_123 = 2 then
      (M.lift (padd 4 t5_14)).bind fun t77_124 =>
      (load1 t77_124).bind fun t78_125 =>
      (M.lift (lenV t78_125)).bind fun t79_126 =>
      (M.ret (V.int .i64 0)).bind fun t80_127 =>
      (loopV (ferry_text_Print_l3 G call t79_126 t78_125) [(r0_122.2.getD 0 V.undef), t80_127]).bind fun r0_172 => match r0_172.1 with
      | .normal => M.fail
      | .exit k0_173 =>
        (if k0_173 = 4 then
        (M.lift (padd 6 t1_1)).bind fun t102_174 =>
        (load1 t102_174).bind fun t103_175 =>
        (M.lift (lenV t103_175)).bind fun t104_176 =>
        (M.ret (V.int .i64 0)).bind fun t105_177 =>
        (loopV (ferry_text_Print_l4 G call t104_176 t103_175) [(r0_172.2.getD 0 V.undef), t105_177]).bind fun r0_222 => match r0_222.1 with
        | .normal => M.fail
        | .exit k0_223 =>
          (if k0_223 = 6 then
          (M.lift (padd 7 t1_1)).bind fun t127_224 =>
          (load1 t127_224).bind fun t128_225 =>
          (M.lift (lenV t128_225)).bind fun t129_226 =>
          (M.ret (V.int .i64 0)).bind fun t130_227 =>
          (loopV (ferry_text_Print_l5 G call t129_226 t128_225) [(r0_222.2.getD 0 V.undef), t130_227]).bind fun r0_241 => match r0_241.1 with
          | .normal => M.fail
          | .exit k0_242 =>
            (if k0_242 = 8 then
            (M.ret (r0_241.2.getD 0 V.undef)).bind fun t140_243 =>
            (callV (cfg G) call 84 [t140_243, (V.str ⟨#[10]⟩)]).bind fun t141_244 =>
            (M.lift (arithV .add t141_244 (V.str ⟨#[10]⟩))).bind fun t142_245 =>
            (M.ret t142_245).bind fun t2_246 =>
            (M.ret V.nili).bind fun t3_247 =>
            M.ret (Ex.ret, [V.tuple [t2_246, t3_247]])
            else M.fail)
          | .ret =>
            M.ret (Ex.ret, [V.tuple [t2_2, t3_3]])
          else M.fail)
        | .ret =>
          M.ret (Ex.ret, [V.tuple [t2_2, t3_3]])
        else M.fail)
      | .ret =>
        M.ret (Ex.ret, [V.tuple [t2_2, t3_3]])
      else M.fail)
    | .ret =>
      M.ret (Ex.ret, [V.tuple [t2_2, t3_3]])
    else M.fail)
  | .ret =>
    M.ret (Ex.ret, [V.tuple [t2_2, t3_3]]))))

theorem ferry_text_Print_eq (G : Nat → Option (List V)) (n : Nat) (x0 : V) : sem (cfg G) (n + 1) 28 [x0] = outV (ferry_text_Print G (sem (cfg G) n) x0) :=
  (fnV_atM (C := cfg G) (n := n) (f := 28) (fn := Tryd.f28) (c := Tryd.f28.body.getD .skip) (by kernel_rfl) (by kernel_rfl) (by kernel_rfl) [x0]).trans (by kernel_rfl)

noncomputable def ferry_ferrylaw25_awake (G : Nat → Option (List V)) (call : FuncId → List V → M V)  : M R :=
  (M.ret (V.bool false)).bind fun t0_1 =>
  (sliceV 1 1 [(V.int .i64 0)] [(0, (V.int .i64 1))]).bind fun t4_2 =>
  (M.lift (buildV [(V.int .i64 0), (V.bool false), V.nils, V.nils, V.nils, (V.int .i64 0), V.nils] [(1, 1, (V.bool true))])).bind fun t5_3 =>
  (sliceV 7 1 [(V.int .i64 0), (V.bool false), V.nils, V.nils, V.nils, (V.int .i64 0), V.nils] [(0, t5_3)]).bind fun t6_4 =>
  (M.lift (buildV [(V.int .i64 0), V.nils, V.nils, V.nils, V.nils, (V.int .i64 0)] [(0, 1, (V.int .i64 3)), (2, 1, t4_2), (1, 1, t6_4)])).bind fun t7_5 =>
  (M.lift (buildV [(V.int .i64 0), (V.int .i64 0), (V.int .i64 0), (V.int .i64 0)] [(0, 1, (V.int .i64 9)), (1, 1, (V.int .i64 4)), (2, 1, (V.int .i64 2)), (3, 1, (V.int .i64 7))])).bind fun t8_6 =>
  (sliceV 4 1 [(V.int .i64 0), (V.int .i64 0), (V.int .i64 0), (V.int .i64 0)] [(0, t8_6)]).bind fun t9_7 =>
  (M.lift (buildV [(V.int .i64 0), V.nils, V.nils, V.nils, V.nils, (V.int .i64 0), V.nils, V.nils] [(0, 6, t7_5), (7, 1, t9_7)])).bind fun t10_8 =>
  (callV (cfg G) call 28 [t10_8]).bind fun t11_9 =>
  (M.ret t11_9).bind fun t3_10 =>
  (M.lift (extractV t3_10 0)).bind fun t12_11 =>
  (M.lift (extractV t3_10 1)).bind fun t13_12 =>
  (M.ret t12_11).bind fun t1_13 =>
  (M.ret t13_12).bind fun t2_14 =>
  (M.ret t2_14).bind fun t14_15 =>
  (M.lift ((eqV .iface true t14_15 V.nili).bind fun b => some (.bool b))).bind fun t15_16 =>
  (M.ret t15_16).bind fun t16_17 =>
  (guardV t16_17 true (M.ret t1_13)).bind fun t17_18 =>
  (guardV t16_17 true (M.lift ((eqV (.sc .str) true t17_18 (V.str ⟨#[99, 111, 110, 102, 105, 103, 32, 51, 32, 48, 10, 112, 97, 114, 116, 32, 49, 32, 109, 111, 98, 105, 108, 101, 10, 116, 114, 105, 109, 32, 52, 32, 50, 10]⟩)).bind fun b => some (.bool b)))).bind fun t18_19 =>
  (M.lift (pickV t16_17 t18_19 (V.bool false))).bind fun t19_20 =>
  (M.ret t19_20).bind fun t0_21 =>
  M.ret (Ex.ret, [t0_21])

theorem ferry_ferrylaw25_awake_eq (G : Nat → Option (List V)) (n : Nat)  : sem (cfg G) (n + 1) 26 [] = outV (ferry_ferrylaw25_awake G (sem (cfg G) n) ) :=
  (fnV_at (C := cfg G) (n := n) (f := 26) (fn := Tryd.f26) (c := Tryd.f26.body.getD .skip) (by kernel_rfl) (by kernel_rfl) (by kernel_rfl) []).trans (by kernel_rfl)

noncomputable def ferry_ferryref25_Check_l2 (G : Nat → Option (List V)) (call : FuncId → List V → M V) (t33_30 : V) (t32_29 : V) (s0_32 : List V) : M R :=
  (M.lift (arithV .lss (s0_32.getD 1 V.undef) t33_30)).bind fun t35_33 =>
  (condV t35_33
   ((M.lift (idxV 2 t32_29 (s0_32.getD 1 V.undef))).bind fun t36_34 =>
  (loadN 2 t36_34).bind fun t37_35 =>
  (newV (.agg [(V.int .i64 0), (V.str ⟨#[]⟩)])).bind fun t7_36 =>
  (storeN 2 t7_36 t37_35).bind fun _ =>
  (M.ret (s0_32.getD 0 V.undef)).bind fun t38_37 =>
  (M.ret t38_37).bind fun t39_38 =>
  (guardV t39_38 true (M.lift (padd 0 t7_36))).bind fun t40_39 =>
  (guardV t39_38 true (load1 t40_39)).bind fun t41_40 =>
  (guardV t39_38 true (M.lift (arithV .geq t41_40 (V.int .i64 0)))).bind fun t42_41 =>
  (M.lift (pickV t39_38 t42_41 (V.bool false))).bind fun t43_42 =>
  (M.ret t43_42).bind fun t44_43 =>
  (guardV t44_43 true (M.lift (padd 0 t7_36))).bind fun t45_44 =>
  (guardV t44_43 true (load1 t45_44)).bind fun t46_45 =>
  (guardV t44_43 true (M.lift (arithV .leq t46_45 (V.int .i64 7)))).bind fun t47_46 =>
  (M.lift (pickV t44_43 t47_46 (V.bool false))).bind fun t48_47 =>
  (M.ret t48_47).bind fun t5_48 =>
  (M.lift (arithV .add (s0_32.getD 1 V.undef) (V.int .i64 1))).bind fun t49_49 =>
  (M.ret t49_49).bind fun t34_50 =>
  M.ret (Ex.normal, [t5_48, t34_50]))
   (M.ret ((Ex.exit 2), [(s0_32.getD 0 V.undef), (s0_32.getD 1 V.undef)])))

noncomputable def ferry_ferryref25_Check_j1 (G : Nat → Option (List V)) (call : FuncId → List V → M V) (s0_57 : List V) (t9_61 : V) (j80_148 : V) : M R :=
  (condV j80_148
   ((M.ret (s0_57.getD 0 V.undef)).bind fun t83_158 =>
  (M.ret t83_158).bind fun t84_159 =>
  (guardV t84_159 true (M.lift (padd 3 t9_61))).bind fun t85_160 =>
  (guardV t84_159 true (load1 t85_160)).bind fun t86_161 =>
  (guardV t84_159 true (M.lift ((eqV (.sc .int) true t86_161 (V.int .i64 0)).bind fun b => some (.bool b)))).bind fun t87_162 =>
  (M.lift (pickV t84_159 t87_162 (V.bool false))).bind fun t88_163 =>
  (M.ret t88_163).bind fun t5_164 =>
  (M.lift (arithV .add (s0_57.getD 1 V.undef) (V.int .i64 1))).bind fun t89_165 =>
  (M.ret t89_165).bind fun t53_166 =>
  M.ret (Ex.normal, [t5_164, t53_166]))
   ((M.ret (V.bool false)).bind fun t5_167 =>
  (M.lift (arithV .add (s0_57.getD 1 V.undef) (V.int .i64 1))).bind fun t89_168 =>
  (M.ret t89_168).bind fun t53_169 =>
  M.ret (Ex.normal, [t5_167, t53_169])))

noncomputable def ferry_ferryref25_Check_l3 (G : Nat → Option (List V)) (call : FuncId → List V → M V) (t52_55 : V) (t51_54 : V) (s0_57 : List V) : M R :=
  (M.lift (arithV .lss (s0_57.getD 1 V.undef) t52_55)).bind fun t54_58 =>
  (condV t54_58
   ((M.lift (idxV 4 t51_54 (s0_57.getD 1 V.undef))).bind fun t55_59 =>
  (loadN 4 t55_59).bind fun t56_60 =>
  (newV (.agg [(V.int .i64 0), (V.int .i64 0), (V.int .i64 0), (V.int .i64 0)])).bind fun t9_61 =>
  (storeN 4 t9_61 t56_60).bind fun _ =>
  (M.lift (padd 0 t9_61)).bind fun t57_62 =>
  (load1 t57_62).bind fun t58_63 =>
  (M.lift ((eqV (.sc .int) true t58_63 (V.int .i64 1)).bind fun b => some (.bool b))).bind fun t60_64 =>
  (M.ret t60_64).bind fun t59_65 =>
  (condV t59_65
   ((M.ret (s0_57.getD 0 V.undef)).bind fun t61_97 =>
  (M.ret t61_97).bind fun t62_98 =>
  (guardV t62_98 true (M.lift (padd 2 t9_61))).bind fun t63_99 =>
  (guardV t62_98 true (load1 t63_99)).bind fun t64_100 =>
  (guardV t62_98 true (M.lift ((eqV (.sc .int) true t64_100 (V.int .i64 1)).bind fun b => some (.bool b)))).bind fun t65_101 =>
  (M.lift (pickV t62_98 t65_101 (V.bool false))).bind fun t66_102 =>
  (M.ret t66_102).bind fun t5_103 =>
  (M.lift (arithV .add (s0_57.getD 1 V.undef) (V.int .i64 1))).bind fun t89_104 =>
  (M.ret t89_104).bind fun t53_105 =>
  M.ret (Ex.normal, [t5_103, t53_105]))
   ((M.lift ((eqV (.sc .int) true t58_63 (V.int .i64 2)).bind fun b => some (.bool b))).bind fun t68_106 =>
  (M.ret t68_106).bind fun t67_107 =>
  (condV t67_107
   ((M.ret (s0_57.getD 0 V.undef)).bind fun t69_131 =>
  (M.ret t69_131).bind fun t70_132 =>
  (guardV t70_132 true (M.lift (padd 2 t9_61))).bind fun t71_133 =>
  (guardV t70_132 true (load1 t71_133)).bind fun t72_134 =>
  (guardV t70_132 true (M.lift ((eqV (.sc .int) true t72_134 (V.int .i64 1)).bind fun b => some (.bool b)))).bind fun t73_135 =>
  (M.lift (pickV t70_132 t73_135 (V.bool false))).bind fun t74_136 =>
  (M.ret t74_136).bind fun t75_137 =>
  (guardV t75_137 true (M.lift (padd 3 t9_61))).bind fun t76_138 =>
  (guardV t75_137 true (load1 t76_138)).bind fun t77_139 =>
  (guardV t75_137 true (M.lift ((eqV (.sc .int) true t77_139 (V.int .i64 0)).bind fun b => some (.bool b)))).bind fun t78_140 =>
  (M.lift (pickV t75_137 t78_140 (V.bool false))).bind fun t79_141 =>
  (M.ret t79_141).bind fun t5_142 =>
  (M.lift (arithV .add (s0_57.getD 1 V.undef) (V.int .i64 1))).bind fun t89_143 =>
  (M.ret t89_143).bind fun t53_144 =>
  M.ret (Ex.normal, [t5_142, t53_144]))
   ((M.lift ((eqV (.sc .int) true t58_63 (V.int .i64 3)).bind fun b => some (.bool b))).bind fun t81_145 =>
  (M.ret t81_145).bind fun t80_146 =>
  (condV t80_146
   (ferry_ferryref25_Check_j1 G call s0_57 t9_61 t80_146)
   ((M.lift ((eqV (.sc .int) true t58_63 (V.int .i64 4)).bind fun b => some (.bool b))).bind fun t82_170 =>
  (M.ret t82_170).bind fun t80_171 =>
  ferry_ferryref25_Check_j1 G call s0_57 t9_61 t80_171)))))))
   (M.ret ((Ex.exit 4), [(s0_57.getD 0 V.undef), (s0_57.getD 1 V.undef)])))

noncomputable def ferry_ferryref25_Check_l1 (G : Nat → Option (List V)) (call : FuncId → List V → M V) (t13_6 : V) (t12_5 : V) (t1_1 : V) (s0_8 : List V) : M R :=
  (M.lift (arithV .lss (s0_8.getD 1 V.undef) t13_6)).bind fun t15_9 =>
  (condV t15_9
   ((M.ret (s0_8.getD 1 V.undef)).bind fun t16_10 =>
  (M.lift (idxV 7 t12_5 (s0_8.getD 1 V.undef))).bind fun t17_11 =>
  (loadN 7 t17_11).bind fun t18_12 =>
  (newV (.agg [(V.int .i64 0), (V.bool false), V.nils, V.nils, V.nils, (V.int .i64 0), V.nils])).bind fun t4_13 =>
  (M.ret t16_10).bind fun t3_14 =>
  (storeN 7 t4_13 t18_12).bind fun _ =>
  (M.lift (padd 0 t4_13)).bind fun t19_15 =>
  (load1 t19_15).bind fun t20_16 =>
  (M.ret t3_14).bind fun t21_17 =>
  (M.lift ((eqV (.sc .int) false t20_16 t21_17).bind fun b => some (.bool b))).bind fun t22_18 =>
  (M.ret t22_18).bind fun t23_19 =>
  (guardV t23_19 true (M.ret t3_14)).bind fun t24_20 =>
  (guardV t23_19 true (M.lift (padd 0 t1_1))).bind fun t25_21 =>
  (guardV t23_19 true (M.lift (padd 2 t25_21))).bind fun t26_22 =>
  (guardV t23_19 true (load1 t26_22)).bind fun t27_23 =>
  (guardV t23_19 true (M.lift (lenV t27_23))).bind fun t28_24 =>
  (guardV t23_19 true (M.lift (arithV .lss t24_20 t28_24))).bind fun t29_25 =>
  (M.lift (pickV t23_19 t29_25 (V.bool false))).bind fun t30_26 =>
  (M.ret t30_26).bind fun t5_27 =>
  (M.lift (padd 2 t4_13)).bind fun t31_28 =>
  (load1 t31_28).bind fun t32_29 =>
  (M.lift (lenV t32_29)).bind fun t33_30 =>
  (M.ret (V.int .i64 0)).bind fun t34_31 =>
  (loopV (ferry_ferryref25_Check_l2 G call t33_30 t32_29) [t5_27, t34_31]).bind fun r0_51 => match r0_51.1 with
  | .normal => M.fail
  | .exit k0_52 =>
    (if k0_52 = 2 then
    (M.lift (padd 4 t4_13)).bind fun t50_53 =>
    (load1 t50_53).bind fun t51_54 =>
    (M.lift (lenV t51_54)).bind fun t52_55 =>
    (M.ret (V.int .i64 0)).bind fun t53_56 =>
    (loopV (ferry_ferryref25_Check_l3 G call t52_55 t51_54) [(r0_51.2.getD 0 V.undef), t53_56]).bind fun r0_172 => match r0_172.1 with
    | .normal => M.fail
    | .exit k0_173 =>
      (if k0_173 = 4 then
      (M.ret (r0_172.2.getD 0 V.undef)).bind fun t90_174 =>
      (M.lift (unV .not t90_174)).bind fun t91_175 =>
      (condV t91_175
       ((M.ret t3_14).bind fun t92_176 =>
      (M.ret t92_176).bind fun t2_177 =>
      M.ret (Ex.ret, [t2_177, (s0_8.getD 1 V.undef)]))
       ((M.lift (arithV .add (s0_8.getD 1 V.undef) (V.int .i64 1))).bind fun t93_178 =>
      (M.ret t93_178).bind fun t14_179 =>
      M.ret (Ex.normal, [(s0_8.getD 0 V.undef), t14_179])))
      else (if k0_173 = 1 then
      (M.lift (arithV .add (s0_8.getD 1 V.undef) (V.int .i64 1))).bind fun t93_180 =>
      (M.ret t93_180).bind fun t14_181 =>
      M.ret (Ex.normal, [(s0_8.getD 0 V.undef), t14_181])
      else M.ret ((Ex.exit k0_173), [(s0_8.getD 0 V.undef), (s0_8.getD 1 V.undef)])))
    | .ret =>
      M.ret (Ex.ret, [(s0_8.getD 0 V.undef), (s0_8.getD 1 V.undef)])
    else (if k0_52 = 1 then
    (M.lift (arithV .add (s0_8.getD 1 V.undef) (V.int .i64 1))).bind fun t93_182 =>
    (M.ret t93_182).bind fun t14_183 =>
    M.ret (Ex.normal, [(s0_8.getD 0 V.undef), t14_183])
    else M.ret ((Ex.exit k0_52), [(s0_8.getD 0 V.undef), (s0_8.getD 1 V.undef)])))
  | .ret =>
    M.ret (Ex.ret, [(s0_8.getD 0 V.undef), (s0_8.getD 1 V.undef)]))
   (M.ret ((Ex.exit 0), [(s0_8.getD 0 V.undef), (s0_8.getD 1 V.undef)])))

noncomputable def ferry_ferryref25_Check (G : Nat → Option (List V)) (call : FuncId → List V → M V) (x0 : V) : M R :=
  (newV x0).bind fun t1_1 =>
  (M.ret (V.int .i64 0)).bind fun t2_2 =>
  (M.lift (padd 0 t1_1)).bind fun t10_3 =>
  (M.lift (padd 1 t10_3)).bind fun t11_4 =>
  (load1 t11_4).bind fun t12_5 =>
  (M.lift (lenV t12_5)).bind fun t13_6 =>
  (M.ret (V.int .i64 0)).bind fun t14_7 =>
  (loopV (ferry_ferryref25_Check_l1 G call t13_6 t12_5 t1_1) [t2_2, t14_7]).bind fun r0_184 => match r0_184.1 with
  | .normal => M.fail
  | .exit k0_185 =>
    (if k0_185 = 0 then
    (M.lift (padd 0 t1_1)).bind fun t94_186 =>
    (M.lift (padd 2 t94_186)).bind fun t95_187 =>
    (load1 t95_187).bind fun t96_188 =>
    (M.lift (lenV t96_188)).bind fun t97_189 =>
    (M.lift (padd 0 t1_1)).bind fun t98_190 =>
    (M.lift (padd 1 t98_190)).bind fun t99_191 =>
    (load1 t99_191).bind fun t100_192 =>
    (M.lift (lenV t100_192)).bind fun t101_193 =>
    (M.lift (arithV .gtr t97_189 t101_193)).bind fun t102_194 =>
    (condV t102_194
     ((M.lift (padd 0 t1_1)).bind fun t103_195 =>
    (M.lift (padd 1 t103_195)).bind fun t104_196 =>
    (load1 t104_196).bind fun t105_197 =>
    (M.lift (lenV t105_197)).bind fun t106_198 =>
    (M.ret t106_198).bind fun t2_199 =>
    M.ret (Ex.ret, [t2_199]))
     ((M.ret (V.int .i64 (-1))).bind fun t2_200 =>
    M.ret (Ex.ret, [t2_200])))
    else M.fail)
  | .ret =>
    M.ret (Ex.ret, [(r0_184.2.getD 0 V.undef)])

theorem ferry_ferryref25_Check_eq (G : Nat → Option (List V)) (n : Nat) (x0 : V) : sem (cfg G) (n + 1) 30 [x0] = outV (ferry_ferryref25_Check G (sem (cfg G) n) x0) :=
  (fnV_at (C := cfg G) (n := n) (f := 30) (fn := Tryd.f30) (c := Tryd.f30.body.getD .skip) (by kernel_rfl) (by kernel_rfl) (by kernel_rfl) [x0]).trans (by kernel_rfl)

noncomputable def ferry_ferrylaw25_copyScript_l1 (G : Nat → Option (List V)) (call : FuncId → List V → M V) (t49_46 : V) (t48_45 : V) (t3_11 : V) (s0_48 : List V) : M R :=
  (M.lift (arithV .lss (s0_48.getD 0 V.undef) t49_46)).bind fun t51_49 =>
  (condV t51_49
   ((M.lift (idxV 7 t48_45 (s0_48.getD 0 V.undef))).bind fun t52_50 =>
  (loadN 7 t52_50).bind fun t53_51 =>
  (newV (.agg [(V.int .i64 0), (V.bool false), V.nils, V.nils, V.nils, (V.int .i64 0), V.nils])).bind fun t5_52 =>
  (storeN 7 t5_52 t53_51).bind fun _ =>
  (loadN 7 t5_52).bind fun t54_53 =>
  (newV (.agg [(V.int .i64 0), (V.bool false), V.nils, V.nils, V.nils, (V.int .i64 0), V.nils])).bind fun t6_54 =>
  (storeN 7 t6_54 t54_53).bind fun _ =>
  (sliceV 2 0 [(V.int .i64 0), (V.str ⟨#[]⟩)] []).bind fun t55_55 =>
  (M.lift (padd 2 t5_52)).bind fun t56_56 =>
  (load1 t56_56).bind fun t57_57 =>
  (appV 2 24 t55_55 t57_57).bind fun t58_58 =>
  (M.lift (padd 2 t6_54)).bind fun t59_59 =>
  (storeN 1 t59_59 t58_58).bind fun _ =>
  (sliceV 3 0 [(V.int .i64 0), (V.int .i64 0), (V.bool false)] []).bind fun t60_60 =>
  (M.lift (padd 3 t5_52)).bind fun t61_61 =>
  (load1 t61_61).bind fun t62_62 =>
  (appV 3 24 t60_60 t62_62).bind fun t63_63 =>
  (M.lift (padd 3 t6_54)).bind fun t64_64 =>
  (storeN 1 t64_64 t63_63).bind fun _ =>
  (sliceV 4 0 [(V.int .i64 0), (V.int .i64 0), (V.int .i64 0), (V.int .i64 0)] []).bind fun t65_65 =>
  (M.lift (padd 4 t5_52)).bind fun t66_66 =>
  (load1 t66_66).bind fun t67_67 =>
  (appV 4 32 t65_65 t67_67).bind fun t68_68 =>
  (M.lift (padd 4 t6_54)).bind fun t69_69 =>
  (storeN 1 t69_69 t68_68).bind fun _ =>
  (sliceV 1 0 [(V.int .i64 0)] []).bind fun t70_70 =>
  (M.lift (padd 6 t5_52)).bind fun t71_71 =>
  (load1 t71_71).bind fun t72_72 =>
  (appV 1 8 t70_70 t72_72).bind fun t73_73 =>
  (M.lift (padd 6 t6_54)).bind fun t74_74 =>
  (storeN 1 t74_74 t73_73).bind fun _ =>
  (M.lift (padd 0 t3_11)).bind fun t75_75 =>
  (M.lift (padd 1 t75_75)).bind fun t76_76 =>
  (load1 t76_76).bind fun t77_77 =>
  (loadN 7 t6_54).bind fun t78_78 =>
  (sliceV 7 1 [(V.int .i64 0), (V.bool false), V.nils, V.nils, V.nils, (V.int .i64 0), V.nils] [(0, t78_78)]).bind fun t79_79 =>
  (appV 7 120 t77_77 t79_79).bind fun t80_80 =>
  (M.lift (padd 0 t3_11)).bind fun t81_81 =>
  (M.lift (padd 1 t81_81)).bind fun t82_82 =>
  (storeN 1 t82_82 t80_80).bind fun _ =>
  (M.lift (arithV .add (s0_48.getD 0 V.undef) (V.int .i64 1))).bind fun t83_83 =>
  (M.ret t83_83).bind fun t50_84 =>
  M.ret (Ex.normal, [t50_84]))
   (M.ret ((Ex.exit 0), [(s0_48.getD 0 V.undef)])))

noncomputable def ferry_ferrylaw25_copyScript (G : Nat → Option (List V)) (call : FuncId → List V → M V) (x0 : V) : M R :=
  (newV x0).bind fun t1_1 =>
  (newV (.agg [(V.int .i64 0), V.nils, V.nils, V.nils, V.nils, (V.int .i64 0), V.nils, V.nils])).bind fun t2_2 =>
  (M.lift (padd 0 t1_1)).bind fun t7_3 =>
  (M.lift (padd 0 t7_3)).bind fun t8_4 =>
  (load1 t8_4).bind fun t9_5 =>
  (M.lift (padd 0 t1_1)).bind fun t10_6 =>
  (M.lift (padd 5 t10_6)).bind fun t11_7 =>
  (load1 t11_7).bind fun t12_8 =>
  (M.lift (buildV [(V.int .i64 0), V.nils, V.nils, V.nils, V.nils, (V.int .i64 0)] [(0, 1, t9_5), (5, 1, t12_8)])).bind fun t13_9 =>
  (M.lift (buildV [(V.int .i64 0), V.nils, V.nils, V.nils, V.nils, (V.int .i64 0), V.nils, V.nils] [(0, 6, t13_9)])).bind fun t14_10 =>
  (newV (.agg [(V.int .i64 0), V.nils, V.nils, V.nils, V.nils, (V.int .i64 0), V.nils, V.nils])).bind fun t3_11 =>
  (storeN 8 t3_11 t14_10).bind fun _ =>
  (sliceV 1 0 [(V.int .i64 0)] []).bind fun t15_12 =>
  (M.lift (padd 0 t1_1)).bind fun t16_13 =>
  (M.lift (padd 2 t16_13)).bind fun t17_14 =>
  (load1 t17_14).bind fun t18_15 =>
  (appV 1 8 t15_12 t18_15).bind fun t19_16 =>
  (M.lift (padd 0 t3_11)).bind fun t20_17 =>
  (M.lift (padd 2 t20_17)).bind fun t21_18 =>
  (storeN 1 t21_18 t19_16).bind fun _ =>
  (sliceV 3 0 [(V.int .i64 0), (V.int .i64 0), (V.int .i64 0)] []).bind fun t22_19 =>
  (M.lift (padd 0 t1_1)).bind fun t23_20 =>
  (M.lift (padd 3 t23_20)).bind fun t24_21 =>
  (load1 t24_21).bind fun t25_22 =>
  (appV 3 24 t22_19 t25_22).bind fun t26_23 =>
  (M.lift (padd 0 t3_11)).bind fun t27_24 =>
  (M.lift (padd 3 t27_24)).bind fun t28_25 =>
  (storeN 1 t28_25 t26_23).bind fun _ =>
  (sliceV 4 0 [(V.int .i64 0), (V.int .i64 0), (V.int .i64 0), (V.int .i64 0)] []).bind fun t29_26 =>
  (M.lift (padd 0 t1_1)).bind fun t30_27 =>
  (M.lift (padd 4 t30_27)).bind fun t31_28 =>
  (load1 t31_28).bind fun t32_29 =>
  (appV 4 32 t29_26 t32_29).bind fun t33_30 =>
  (M.lift (padd 0 t3_11)).bind fun t34_31 =>
  (M.lift (padd 4 t34_31)).bind fun t35_32 =>
  (storeN 1 t35_32 t33_30).bind fun _ =>
  (sliceV 4 0 [(V.int .i64 0), (V.int .i64 0), (V.int .i64 0), (V.str ⟨#[]⟩)] []).bind fun t36_33 =>
  (M.lift (padd 6 t1_1)).bind fun t37_34 =>
  (load1 t37_34).bind fun t38_35 =>
  (appV 4 40 t36_33 t38_35).bind fun t39_36 =>
  (M.lift (padd 6 t3_11)).bind fun t40_37 =>
  (storeN 1 t40_37 t39_36).bind fun _ =>
  (sliceV 4 0 [(V.int .i64 0), (V.int .i64 0), (V.int .i64 0), (V.int .i64 0)] []).bind fun t41_38 =>
  (M.lift (padd 7 t1_1)).bind fun t42_39 =>
  (load1 t42_39).bind fun t43_40 =>
  (appV 4 32 t41_38 t43_40).bind fun t44_41 =>
  (M.lift (padd 7 t3_11)).bind fun t45_42 =>
  (storeN 1 t45_42 t44_41).bind fun _ =>
  (M.lift (padd 0 t1_1)).bind fun t46_43 =>
  (M.lift (padd 1 t46_43)).bind fun t47_44 =>
  (load1 t47_44).bind fun t48_45 =>
  (M.lift (lenV t48_45)).bind fun t49_46 =>
  (M.ret (V.int .i64 0)).bind fun t50_47 =>
  (loopV (ferry_ferrylaw25_copyScript_l1 G call t49_46 t48_45 t3_11) [t50_47]).bind fun r0_85 => match r0_85.1 with
  | .normal => M.fail
  | .exit k0_86 =>
    (if k0_86 = 0 then
    (loadN 8 t3_11).bind fun t84_87 =>
    (storeN 8 t2_2 t84_87).bind fun _ =>
    (((loadN 8 t2_2)).bind fun v => (M.ret []).bind fun l => M.ret (v :: l)).bind fun l => M.ret (Ex.ret, tupV l)
    else M.fail)
  | .ret =>
    (((loadN 8 t2_2)).bind fun v => (M.ret []).bind fun l => M.ret (v :: l)).bind fun l => M.ret (Ex.ret, tupV l)

theorem ferry_ferrylaw25_copyScript_eq (G : Nat → Option (List V)) (n : Nat) (x0 : V) : sem (cfg G) (n + 1) 27 [x0] = outV (ferry_ferrylaw25_copyScript G (sem (cfg G) n) x0) :=
  (fnV_at (C := cfg G) (n := n) (f := 27) (fn := Tryd.f27) (c := Tryd.f27.body.getD .skip) (by kernel_rfl) (by kernel_rfl) (by kernel_rfl) [x0]).trans (by kernel_rfl)

end Go.Fv.Tr

/-
  The Go functions ferry/ferrylaw09.call, ferry/ferrylaw09.bystander, ferry/ferrylaw09.ReadyMoves, ferry/ferrylaw09.ReadyHolds as plain terms. By an AI agent; no person has read it.
-/
import Derived.Test.YtjjiphigolegbabGreatDoorFvCf
set_option linter.unusedVariables false
set_option linter.unusedSimpArgs false
set_option linter.unusedSectionVars false
/-! The Go functions ferry/ferrylaw09.call, ferry/ferrylaw09.bystander, ferry/ferrylaw09.ReadyMoves, ferry/ferrylaw09.ReadyHolds as plain terms. -/
namespace Go.Fv.Tr
open Go Go.Fv Go.Proofs
set_option linter.unusedVariables false
set_option maxRecDepth 20000

noncomputable def ferry_ferrylaw09_call (G : Nat → Option (List V)) (call : FuncId → List V → M V) (x0 : V) (x1 : V) : M R :=
  (newV x0).bind fun t2_1 =>
  (newV x1).bind fun t3_2 =>
  (newV (.agg [V.nils, V.nils, V.nils])).bind fun t4_3 =>
  (M.ret V.nili).bind fun t5_4 =>
  (M.lift (padd 0 t3_2)).bind fun t9_5 =>
  (load1 t9_5).bind fun t10_6 =>
  (M.lift ((eqV (.sc .int) true t10_6 (V.int .i64 1)).bind fun b => some (.bool b))).bind fun t12_7 =>
  (M.ret t12_7).bind fun t11_8 =>
  (condV t11_8
   ((loadN 3 t2_1).bind fun t13_9 =>
  (M.lift (padd 1 t3_2)).bind fun t14_10 =>
  (load1 t14_10).bind fun t15_11 =>
  (callV (cfg G) call 12 [t13_9, t15_11]).bind fun t16_12 =>
  (M.lift (extractV t16_12 0)).bind fun t17_13 =>
  (M.lift (extractV t16_12 1)).bind fun t18_14 =>
  (storeN 3 t4_3 t17_13).bind fun _ =>
  (M.ret t18_14).bind fun t5_15 =>
  (((loadN 3 t4_3)).bind fun v => ((M.ret []).bind fun l => M.ret (t5_15 :: l)).bind fun l => M.ret (v :: l)).bind fun l => M.ret (Ex.ret, tupV l))
   ((M.lift ((eqV (.sc .int) true t10_6 (V.int .i64 2)).bind fun b => some (.bool b))).bind fun t20_16 =>
  (M.ret t20_16).bind fun t19_17 =>
  (condV t19_17
   ((loadN 3 t2_1).bind fun t21_18 =>
  (M.lift (padd 1 t3_2)).bind fun t22_19 =>
  (load1 t22_19).bind fun t23_20 =>
  (M.lift (padd 2 t3_2)).bind fun t24_21 =>
  (load1 t24_21).bind fun t25_22 =>
  (M.lift (padd 3 t3_2)).bind fun t26_23 =>
  (load1 t26_23).bind fun t27_24 =>
  (M.lift (padd 4 t3_2)).bind fun t28_25 =>
  (load1 t28_25).bind fun t29_26 =>
  (callV (cfg G) call 15 [t21_18, t23_20, t25_22, t27_24, t29_26]).bind fun t30_27 =>
  (M.lift (extractV t30_27 0)).bind fun t31_28 =>
  (M.lift (extractV t30_27 1)).bind fun t32_29 =>
  (storeN 3 t4_3 t31_28).bind fun _ =>
  (M.ret t32_29).bind fun t5_30 =>
  (((loadN 3 t4_3)).bind fun v => ((M.ret []).bind fun l => M.ret (t5_30 :: l)).bind fun l => M.ret (v :: l)).bind fun l => M.ret (Ex.ret, tupV l))
   ((M.lift ((eqV (.sc .int) true t10_6 (V.int .i64 3)).bind fun b => some (.bool b))).bind fun t34_31 =>
  (M.ret t34_31).bind fun t33_32 =>
  (condV t33_32
   ((loadN 3 t2_1).bind fun t35_33 =>
  (M.lift (padd 1 t3_2)).bind fun t36_34 =>
  (load1 t36_34).bind fun t37_35 =>
  (M.lift (padd 5 t3_2)).bind fun t38_36 =>
  (load1 t38_36).bind fun t39_37 =>
  (callV (cfg G) call 16 [t35_33, t37_35, t39_37]).bind fun t40_38 =>
  (M.lift (extractV t40_38 0)).bind fun t41_39 =>
  (M.lift (extractV t40_38 1)).bind fun t42_40 =>
  (storeN 3 t4_3 t41_39).bind fun _ =>
  (M.ret t42_40).bind fun t5_41 =>
  (((loadN 3 t4_3)).bind fun v => ((M.ret []).bind fun l => M.ret (t5_41 :: l)).bind fun l => M.ret (v :: l)).bind fun l => M.ret (Ex.ret, tupV l))
   ((M.lift ((eqV (.sc .int) true t10_6 (V.int .i64 4)).bind fun b => some (.bool b))).bind fun t44_42 =>
  (M.ret t44_42).bind fun t43_43 =>
  (condV t43_43
   ((loadN 3 t2_1).bind fun t45_44 =>
  (M.lift (padd 1 t3_2)).bind fun t46_45 =>
  (load1 t46_45).bind fun t47_46 =>
  (M.lift (padd 2 t3_2)).bind fun t48_47 =>
  (load1 t48_47).bind fun t49_48 =>
  (callV (cfg G) call 17 [t45_44, t47_46, t49_48]).bind fun t50_49 =>
  (M.lift (extractV t50_49 0)).bind fun t51_50 =>
  (M.lift (extractV t50_49 1)).bind fun t52_51 =>
  (storeN 3 t4_3 t51_50).bind fun _ =>
  (M.ret t52_51).bind fun t5_52 =>
  (((loadN 3 t4_3)).bind fun v => ((M.ret []).bind fun l => M.ret (t5_52 :: l)).bind fun l => M.ret (v :: l)).bind fun l => M.ret (Ex.ret, tupV l))
   ((M.lift ((eqV (.sc .int) true t10_6 (V.int .i64 5)).bind fun b => some (.bool b))).bind fun t54_53 =>
  (M.ret t54_53).bind fun t53_54 =>
  (condV t53_54
   ((loadN 3 t2_1).bind fun t55_55 =>
  (M.lift (padd 1 t3_2)).bind fun t56_56 =>
  (load1 t56_56).bind fun t57_57 =>
  (M.lift (padd 5 t3_2)).bind fun t58_58 =>
  (load1 t58_58).bind fun t59_59 =>
  (M.lift (padd 2 t3_2)).bind fun t60_60 =>
  (load1 t60_60).bind fun t61_61 =>
  (callV (cfg G) call 18 [t55_55, t57_57, t59_59, t61_61]).bind fun t62_62 =>
  (M.lift (extractV t62_62 0)).bind fun t63_63 =>
  (M.lift (extractV t62_62 1)).bind fun t64_64 =>
  (storeN 3 t4_3 t63_63).bind fun _ =>
  (M.ret t64_64).bind fun t5_65 =>
  (((loadN 3 t4_3)).bind fun v => ((M.ret []).bind fun l => M.ret (t5_65 :: l)).bind fun l => M.ret (v :: l)).bind fun l => M.ret (Ex.ret, tupV l))
   ((M.lift ((eqV (.sc .int) true t10_6 (V.int .i64 6)).bind fun b => some (.bool b))).bind fun t66_66 =>
  (M.ret t66_66).bind fun t65_67 =>
  (condV t65_67
   ((loadN 3 t2_1).bind fun t67_68 =>
  (M.lift (padd 1 t3_2)).bind fun t68_69 =>
  (load1 t68_69).bind fun t69_70 =>
  (M.lift (padd 2 t3_2)).bind fun t70_71 =>
  (load1 t70_71).bind fun t71_72 =>
  (callV (cfg G) call 19 [t67_68, t69_70, t71_72]).bind fun t72_73 =>
  (M.lift (extractV t72_73 0)).bind fun t73_74 =>
  (M.lift (extractV t72_73 1)).bind fun t74_75 =>
  (storeN 3 t4_3 t73_74).bind fun _ =>
  (M.ret t74_75).bind fun t5_76 =>
  (((loadN 3 t4_3)).bind fun v => ((M.ret []).bind fun l => M.ret (t5_76 :: l)).bind fun l => M.ret (v :: l)).bind fun l => M.ret (Ex.ret, tupV l))
   ((M.lift ((eqV (.sc .int) true t10_6 (V.int .i64 7)).bind fun b => some (.bool b))).bind fun t76_77 =>
  (M.ret t76_77).bind fun t75_78 =>
  (condV t75_78
   ((loadN 3 t2_1).bind fun t77_79 =>
  (M.lift (padd 2 t3_2)).bind fun t78_80 =>
  (load1 t78_80).bind fun t79_81 =>
  (M.lift (padd 3 t3_2)).bind fun t80_82 =>
  (load1 t80_82).bind fun t81_83 =>
  (M.lift (padd 5 t3_2)).bind fun t82_84 =>
  (load1 t82_84).bind fun t83_85 =>
  (callV (cfg G) call 42 [t77_79, t79_81, t81_83, t83_85]).bind fun t84_86 =>
  (M.lift (extractV t84_86 0)).bind fun t85_87 =>
  (M.lift (extractV t84_86 1)).bind fun t86_88 =>
  (storeN 3 t4_3 t85_87).bind fun _ =>
  (M.ret t86_88).bind fun t5_89 =>
  (((loadN 3 t4_3)).bind fun v => ((M.ret []).bind fun l => M.ret (t5_89 :: l)).bind fun l => M.ret (v :: l)).bind fun l => M.ret (Ex.ret, tupV l))
   ((M.lift ((eqV (.sc .int) true t10_6 (V.int .i64 8)).bind fun b => some (.bool b))).bind fun t88_90 =>
  (M.ret t88_90).bind fun t87_91 =>
  (condV t87_91
   ((loadN 3 t2_1).bind fun t90_92 =>
  (M.lift (padd 2 t3_2)).bind fun t91_93 =>
  (load1 t91_93).bind fun t92_94 =>
  (callV (cfg G) call 43 [t90_92, t92_94]).bind fun t93_95 =>
  (M.ret t93_95).bind fun t89_96 =>
  (M.lift (extractV t89_96 0)).bind fun t94_97 =>
  (M.lift (extractV t89_96 1)).bind fun t95_98 =>
  (M.lift (extractV t89_96 2)).bind fun t96_99 =>
  (newV (.agg [V.nils, V.nils, V.nils])).bind fun t6_100 =>
  (storeN 3 t6_100 t94_97).bind fun _ =>
  (M.ret t95_98).bind fun t7_101 =>
  (M.ret t96_99).bind fun t8_102 =>
  (loadN 3 t6_100).bind fun t97_103 =>
  (M.ret t8_102).bind fun t98_104 =>
  (storeN 3 t4_3 t97_103).bind fun _ =>
  (M.ret t98_104).bind fun t5_105 =>
  (((loadN 3 t4_3)).bind fun v => ((M.ret []).bind fun l => M.ret (t5_105 :: l)).bind fun l => M.ret (v :: l)).bind fun l => M.ret (Ex.ret, tupV l))
   ((loadN 3 t2_1).bind fun t99_106 =>
  (storeN 3 t4_3 t99_106).bind fun _ =>
  (M.ret V.nili).bind fun t5_107 =>
  (((loadN 3 t4_3)).bind fun v => ((M.ret []).bind fun l => M.ret (t5_107 :: l)).bind fun l => M.ret (v :: l)).bind fun l => M.ret (Ex.ret, tupV l)))))))))))))))))

theorem ferry_ferrylaw09_call_eq (G : Nat → Option (List V)) (n : Nat) (x0 : V) (x1 : V) : sem (cfg G) (n + 1) 23 [x0, x1] = outV (ferry_ferrylaw09_call G (sem (cfg G) n) x0 x1) :=
  (fnV_at (C := cfg G) (n := n) (f := 23) (fn := Tryz.f23) (c := Tryz.f23.body.getD .skip) (by kernel_rfl) (by kernel_rfl) (by kernel_rfl) [x0, x1]).trans (by kernel_rfl)

noncomputable def ferry_ferrylaw09_bystander_l1 (G : Nat → Option (List V)) (call : FuncId → List V → M V) (t3_1 : V) (t5_3 : V) (t4_2 : V) (s0_23 : List V) : M R :=
  (M.ret (s0_23.getD 1 V.undef)).bind fun t29_24 =>
  (M.lift (padd 0 t3_1)).bind fun t30_25 =>
  (load1 t30_25).bind fun t31_26 =>
  (M.lift (lenV t31_26)).bind fun t32_27 =>
  (M.lift (arithV .lss t29_24 t32_27)).bind fun t33_28 =>
  (condV t33_28
   (((M.ret (s0_23.getD 1 V.undef)).bind fun y0_29 =>
  (M.lift (padd 1 t5_3)).bind fun y1_30 =>
  (load1 y1_30).bind fun y2_31 =>
  (M.lift ((eqV (.sc .int) false y0_29 y2_31).bind fun b => some (.bool !b))).bind fun y3_32 =>
  (M.ret y3_32).bind fun y4_33 =>
  (guardV y4_33 true (M.lift (padd 0 t3_1))).bind fun y5_34 =>
  (guardV y4_33 true (load1 y5_34)).bind fun y6_35 =>
  (guardV y4_33 true (M.ret (s0_23.getD 1 V.undef))).bind fun y7_36 =>
  (guardV y4_33 true (M.lift (idxV 21 y6_35 y7_36))).bind fun y8_37 =>
  (guardV y4_33 true (loadN 21 y8_37)).bind fun y9_38 =>
  (guardV y4_33 true (M.lift (padd 0 t4_2))).bind fun y10_39 =>
  (guardV y4_33 true (load1 y10_39)).bind fun y11_40 =>
  (guardV y4_33 true (M.ret (s0_23.getD 1 V.undef))).bind fun y12_41 =>
  (guardV y4_33 true (M.lift (idxV 21 y11_40 y12_41))).bind fun y13_42 =>
  (guardV y4_33 true (loadN 21 y13_42)).bind fun y14_43 =>
  (guardV y4_33 true (M.lift ((eqV (.agg [.int, .int, .int, .int, .int, .int, .int, .int, .int, .int, .int, .int, .int, .int, .int, .int, .int, .int, .int, .int, .int]) false y9_38 y14_43).bind fun b => some (.bool !b)))).bind fun y15_44 =>
  (M.lift (pickV y4_33 y15_44 (V.bool false))).bind fun y16_45 =>
  (condV y16_45
   ((M.ret (V.bool false)).bind fun t6_46 =>
  M.ret (Ex.ret, [t6_46, (s0_23.getD 1 V.undef)]))
   ((M.ret (s0_23.getD 1 V.undef)).bind fun t34_47 =>
  (M.lift (arithV .add t34_47 (V.int .i64 1))).bind fun t35_48 =>
  (M.ret t35_48).bind fun t7_49 =>
  M.ret (Ex.normal, [(s0_23.getD 0 V.undef), t7_49])))))
   (M.ret ((Ex.exit 0), [(s0_23.getD 0 V.undef), (s0_23.getD 1 V.undef)])))

noncomputable def ferry_ferrylaw09_bystander_l2 (G : Nat → Option (List V)) (call : FuncId → List V → M V) (t55_56 : V) (t54_55 : V) (t5_3 : V) (s0_58 : List V) : M R :=
  (M.lift (arithV .lss (s0_58.getD 1 V.undef) t55_56)).bind fun t57_59 =>
  (condV t57_59
   ((M.lift (idxV 1 t54_55 (s0_58.getD 1 V.undef))).bind fun t58_60 =>
  (load1 t58_60).bind fun t59_61 =>
  (M.ret t59_61).bind fun t11_62 =>
  (M.ret t11_62).bind fun t60_63 =>
  (M.lift (padd 1 t5_3)).bind fun t61_64 =>
  (load1 t61_64).bind fun t62_65 =>
  (M.lift ((eqV (.sc .int) false t60_63 t62_65).bind fun b => some (.bool !b))).bind fun t63_66 =>
  (condV t63_66
   ((M.ret (s0_58.getD 0 V.undef)).bind fun t64_74 =>
  (M.ret t11_62).bind fun t65_75 =>
  (sliceV 1 1 [(V.int .i64 0)] [(0, t65_75)]).bind fun t66_76 =>
  (appV 1 8 t64_74 t66_76).bind fun t67_77 =>
  (M.ret t67_77).bind fun t8_78 =>
  (M.lift (arithV .add (s0_58.getD 1 V.undef) (V.int .i64 1))).bind fun t68_79 =>
  (M.ret t68_79).bind fun t56_80 =>
  M.ret (Ex.normal, [t8_78, t56_80]))
   ((M.lift (arithV .add (s0_58.getD 1 V.undef) (V.int .i64 1))).bind fun t68_81 =>
  (M.ret t68_81).bind fun t56_82 =>
  M.ret (Ex.normal, [(s0_58.getD 0 V.undef), t56_82]))))
   (M.ret ((Ex.exit 2), [(s0_58.getD 0 V.undef), (s0_58.getD 1 V.undef)])))

noncomputable def ferry_ferrylaw09_bystander_l3 (G : Nat → Option (List V)) (call : FuncId → List V → M V) (t71_87 : V) (t70_86 : V) (t5_3 : V) (s0_89 : List V) : M R :=
  (M.lift (arithV .lss (s0_89.getD 1 V.undef) t71_87)).bind fun t73_90 =>
  (condV t73_90
   ((M.lift (idxV 1 t70_86 (s0_89.getD 1 V.undef))).bind fun t74_91 =>
  (load1 t74_91).bind fun t75_92 =>
  (M.ret t75_92).bind fun t13_93 =>
  (M.ret t13_93).bind fun t76_94 =>
  (M.lift (padd 1 t5_3)).bind fun t77_95 =>
  (load1 t77_95).bind fun t78_96 =>
  (M.lift ((eqV (.sc .int) false t76_94 t78_96).bind fun b => some (.bool !b))).bind fun t79_97 =>
  (condV t79_97
   ((M.ret (s0_89.getD 0 V.undef)).bind fun t80_105 =>
  (M.ret t13_93).bind fun t81_106 =>
  (sliceV 1 1 [(V.int .i64 0)] [(0, t81_106)]).bind fun t82_107 =>
  (appV 1 8 t80_105 t82_107).bind fun t83_108 =>
  (M.ret t83_108).bind fun t9_109 =>
  (M.lift (arithV .add (s0_89.getD 1 V.undef) (V.int .i64 1))).bind fun t84_110 =>
  (M.ret t84_110).bind fun t72_111 =>
  M.ret (Ex.normal, [t9_109, t72_111]))
   ((M.lift (arithV .add (s0_89.getD 1 V.undef) (V.int .i64 1))).bind fun t84_112 =>
  (M.ret t84_112).bind fun t72_113 =>
  M.ret (Ex.normal, [(s0_89.getD 0 V.undef), t72_113]))))
   (M.ret ((Ex.exit 4), [(s0_89.getD 0 V.undef), (s0_89.getD 1 V.undef)])))

noncomputable def ferry_ferrylaw09_bystander (G : Nat → Option (List V)) (call : FuncId → List V → M V) (x0 : V) (x1 : V) (x2 : V) : M R :=
  (newV x0).bind fun t3_1 =>
  (newV x1).bind fun t4_2 =>
  (newV x2).bind fun t5_3 =>
  (M.ret (V.bool false)).bind fun t6_4 =>
  (M.lift (padd 0 t3_1)).bind fun t14_5 =>
  (load1 t14_5).bind fun t15_6 =>
  (M.lift (lenV t15_6)).bind fun t16_7 =>
  (M.lift (padd 0 t4_2)).bind fun t17_8 =>
  (load1 t17_8).bind fun t18_9 =>
  (M.lift (lenV t18_9)).bind fun t19_10 =>
  (M.lift ((eqV (.sc .int) false t16_7 t19_10).bind fun b => some (.bool !b))).bind fun t20_11 =>
  (condV t20_11
   ((M.ret (V.bool false)).bind fun t6_12 =>
  M.ret (Ex.ret, [t6_12]))
   ((M.lift (padd 0 t5_3)).bind fun t21_13 =>
  (load1 t21_13).bind fun t22_14 =>
  (M.lift ((eqV (.sc .int) true t22_14 (V.int .i64 7)).bind fun b => some (.bool b))).bind fun t23_15 =>
  (M.ret t23_15).bind fun t24_16 =>
  (guardV t24_16 false (M.lift (padd 0 t5_3))).bind fun t25_17 =>
  (guardV t24_16 false (load1 t25_17)).bind fun t26_18 =>
  (guardV t24_16 false (M.lift ((eqV (.sc .int) true t26_18 (V.int .i64 8)).bind fun b => some (.bool b)))).bind fun t27_19 =>
  (M.lift (pickV t24_16 (V.bool true) t27_19)).bind fun t28_20 =>
  (condV t28_20
   ((M.ret (V.bool true)).bind fun t6_21 =>
  M.ret (Ex.ret, [t6_21]))
   ((M.ret (V.int .i64 0)).bind fun t7_22 =>
  (loopV (ferry_ferrylaw09_bystander_l1 G call t3_1 t5_3 t4_2) [t6_4, t7_22]).bind fun r0_50 => match r0_50.1 with
  | .normal => M.fail
  | .exit k0_51 =>
    (if k0_51 = 0 then
    (M.ret V.nils).bind fun t8_52 =>
    (M.ret V.nils).bind fun t9_53 =>
    (M.lift (padd 1 t3_1)).bind fun t53_54 =>
    (load1 t53_54).bind fun t54_55 =>
    (M.lift (lenV t54_55)).bind fun t55_56 =>
    (M.ret (V.int .i64 0)).bind fun t56_57 =>
    (loopV (ferry_ferrylaw09_bystander_l2 G call t55_56 t54_55 t5_3) [t8_52, t56_57]).bind fun r0_83 => match r0_83.1 with
    | .normal => M.fail
    | .exit k0_84 =>
      (if k0_84 = 2 then
      (M.lift (padd 1 t4_2)).bind fun t69_85 =>
      (load1 t69_85).bind fun t70_86 =>
      (M.lift (lenV t70_86)).bind fun t71_87 =>
      (M.ret (V.int .i64 0)).bind fun t72_88 =>
      (loopV (ferry_ferrylaw09_bystander_l3 G call t71_87 t70_86 t5_3) [t9_53, t72_88]).bind fun r0_114 => match r0_114.1 with
      | .normal => M.fail
      | .exit k0_115 =>
        (if k0_115 = 4 then
        (M.ret (r0_83.2.getD 0 V.undef)).bind fun t85_116 =>
        (M.ret (r0_114.2.getD 0 V.undef)).bind fun t86_117 =>
        (callV (cfg G) call 28 [t85_116, t86_117]).bind fun t87_118 =>
        (M.ret t87_118).bind fun t6_119 =>
        M.ret (Ex.ret, [t6_119])
        else M.fail)
      | .ret =>
        M.ret (Ex.ret, [(r0_50.2.getD 0 V.undef)])
      else M.fail)
    | .ret =>
      M.ret (Ex.ret, [(r0_50.2.getD 0 V.undef)])
    else M.fail)
  | .ret =>
    M.ret (Ex.ret, [(r0_50.2.getD 0 V.undef)])))))

theorem ferry_ferrylaw09_bystander_eq (G : Nat → Option (List V)) (n : Nat) (x0 : V) (x1 : V) (x2 : V) : sem (cfg G) (n + 1) 26 [x0, x1, x2] = outV (ferry_ferrylaw09_bystander G (sem (cfg G) n) x0 x1 x2) :=
  (fnV_at (C := cfg G) (n := n) (f := 26) (fn := Tryz.f26) (c := Tryz.f26.body.getD .skip) (by kernel_rfl) (by kernel_rfl) (by kernel_rfl) [x0, x1, x2]).trans (by kernel_rfl)

noncomputable def ferry_ferrylaw09_ReadyMoves (G : Nat → Option (List V)) (call : FuncId → List V → M V) (x0 : V) : M R :=
  (newV x0).bind fun t1_1 =>
  (M.ret (V.bool false)).bind fun t2_2 =>
  (callV (cfg G) call 5 []).bind fun t17_3 =>
  (M.lift (unV .not t17_3)).bind fun t18_4 =>
  (condV t18_4
   ((M.ret (V.bool false)).bind fun t2_5 =>
  M.ret (Ex.ret, [t2_5]))
   ((M.lift (padd 0 t1_1)).bind fun t20_6 =>
  (loadN 3 t20_6).bind fun t21_7 =>
  (M.lift (padd 3 t1_1)).bind fun t22_8 =>
  (load1 t22_8).bind fun t23_9 =>
  (callV (cfg G) call 6 [t21_7, t23_9]).bind fun t24_10 =>
  (M.ret t24_10).bind fun t19_11 =>
  (M.lift (extractV t19_11 0)).bind fun t25_12 =>
  (M.lift (extractV t19_11 1)).bind fun t26_13 =>
  (newV (.agg [V.nils, V.nils, V.nils])).bind fun t3_14 =>
  (storeN 3 t3_14 t25_12).bind fun _ =>
  (M.ret t26_13).bind fun t4_15 =>
  (M.lift (padd 0 t1_1)).bind fun t28_16 =>
  (loadN 3 t28_16).bind fun t29_17 =>
  (M.lift (padd 3 t1_1)).bind fun t30_18 =>
  (load1 t30_18).bind fun t31_19 =>
  (M.lift (padd 4 t1_1)).bind fun t32_20 =>
  (load1 t32_20).bind fun t33_21 =>
  (M.lift (padd 5 t1_1)).bind fun t34_22 =>
  (load1 t34_22).bind fun t35_23 =>
  (M.lift (padd 6 t1_1)).bind fun t36_24 =>
  (load1 t36_24).bind fun t37_25 =>
  (callV (cfg G) call 7 [t29_17, t31_19, t33_21, t35_23, t37_25]).bind fun t38_26 =>
  (M.ret t38_26).bind fun t27_27 =>
  (M.lift (extractV t27_27 0)).bind fun t39_28 =>
  (M.lift (extractV t27_27 1)).bind fun t40_29 =>
  (newV (.agg [V.nils, V.nils, V.nils])).bind fun t5_30 =>
  (storeN 3 t5_30 t39_28).bind fun _ =>
  (M.ret t40_29).bind fun t6_31 =>
  (M.lift (padd 0 t1_1)).bind fun t42_32 =>
  (loadN 3 t42_32).bind fun t43_33 =>
  (M.lift (padd 3 t1_1)).bind fun t44_34 =>
  (load1 t44_34).bind fun t45_35 =>
  (M.lift (padd 10 t1_1)).bind fun t46_36 =>
  (load1 t46_36).bind fun t47_37 =>
  (callV (cfg G) call 8 [t43_33, t45_35, t47_37]).bind fun t48_38 =>
  (M.ret t48_38).bind fun t41_39 =>
  (M.lift (extractV t41_39 0)).bind fun t49_40 =>
  (M.lift (extractV t41_39 1)).bind fun t50_41 =>
  (newV (.agg [V.nils, V.nils, V.nils])).bind fun t7_42 =>
  (storeN 3 t7_42 t49_40).bind fun _ =>
  (M.ret t50_41).bind fun t8_43 =>
  (M.lift (padd 0 t1_1)).bind fun t52_44 =>
  (loadN 3 t52_44).bind fun t53_45 =>
  (M.lift (padd 3 t1_1)).bind fun t54_46 =>
  (load1 t54_46).bind fun t55_47 =>
  (M.lift (padd 8 t1_1)).bind fun t56_48 =>
  (load1 t56_48).bind fun t57_49 =>
  (callV (cfg G) call 9 [t53_45, t55_47, t57_49]).bind fun t58_50 =>
  (M.ret t58_50).bind fun t51_51 =>
  (M.lift (extractV t51_51 0)).bind fun t59_52 =>
  (M.lift (extractV t51_51 1)).bind fun t60_53 =>
  (newV (.agg [V.nils, V.nils, V.nils])).bind fun t9_54 =>
  (storeN 3 t9_54 t59_52).bind fun _ =>
  (M.ret t60_53).bind fun t10_55 =>
  (M.lift (padd 0 t1_1)).bind fun t62_56 =>
  (loadN 3 t62_56).bind fun t63_57 =>
  (M.lift (padd 3 t1_1)).bind fun t64_58 =>
  (load1 t64_58).bind fun t65_59 =>
  (M.lift (padd 10 t1_1)).bind fun t66_60 =>
  (load1 t66_60).bind fun t67_61 =>
  (M.lift (padd 7 t1_1)).bind fun t68_62 =>
  (load1 t68_62).bind fun t69_63 =>
  (callV (cfg G) call 10 [t63_57, t65_59, t67_61, t69_63]).bind fun t70_64 =>
  (M.ret t70_64).bind fun t61_65 =>
  (M.lift (extractV t61_65 0)).bind fun t71_66 =>
  (M.lift (extractV t61_65 1)).bind fun t72_67 =>
  (newV (.agg [V.nils, V.nils, V.nils])).bind fun t11_68 =>
  (storeN 3 t11_68 t71_66).bind fun _ =>
  (M.ret t72_67).bind fun t12_69 =>
  (M.lift (padd 0 t1_1)).bind fun t74_70 =>
  (loadN 3 t74_70).bind fun t75_71 =>
  (M.lift (padd 3 t1_1)).bind fun t76_72 =>
  (load1 t76_72).bind fun t77_73 =>
  (M.lift (padd 7 t1_1)).bind fun t78_74 =>
  (load1 t78_74).bind fun t79_75 =>
  (callV (cfg G) call 11 [t75_71, t77_73, t79_75]).bind fun t80_76 =>
  (M.ret t80_76).bind fun t73_77 =>
  (M.lift (extractV t73_77 0)).bind fun t81_78 =>
  (M.lift (extractV t73_77 1)).bind fun t82_79 =>
  (newV (.agg [V.nils, V.nils, V.nils])).bind fun t13_80 =>
  (storeN 3 t13_80 t81_78).bind fun _ =>
  (M.ret t82_79).bind fun t14_81 =>
  (getN.bind fun n_82 =>
  (M.lift (padd 0 t1_1)).bind fun y0_83 =>
  getN.bind fun n_84 =>
  (loadN 3 y0_83).bind fun y1_85 =>
  getN.bind fun n_86 =>
  (qrun (visB n_82 [(n_84, n_86, true), (n_82, n_84, true)]) (callV (cfg G) call 13 [y1_85])).bind fun y2_87 =>
  getN.bind fun n_88 =>
  (M.lift (padd 3 t1_1)).bind fun y3_89 =>
  getN.bind fun n_90 =>
  (load1 y3_89).bind fun y4_91 =>
  getN.bind fun n_92 =>
  (qrun (visB n_82 [(n_90, n_92, true), (n_88, n_90, true), (n_86, n_88, true), (n_84, n_86, true), (n_82, n_84, true)]) (callV (cfg G) call 12 [y2_87, y4_91])).bind fun y5_93 =>
  (M.ret y5_93).bind fun y6_94 =>
  (M.lift (extractV y6_94 0)).bind fun y7_95 =>
  (M.lift (extractV y6_94 1)).bind fun y8_96 =>
  (newV (.agg [V.nils, V.nils, V.nils])).bind fun y9_97 =>
  (storeN 3 y9_97 y7_95).bind fun _ =>
  (M.ret y8_96).bind fun y11_98 =>
  (loadN 3 y9_97).bind fun t92_99 =>
  (M.ret y11_98).bind fun t93_100 =>
  (loadN 3 t3_14).bind fun t94_101 =>
  (M.ret t4_15).bind fun t95_102 =>
  (callV (cfg G) call 14 [t92_99, t93_100, t94_101, t95_102]).bind fun t96_103 =>
  (M.lift (unV .not t96_103)).bind fun t97_104 =>
  (condV t97_104
   ((M.ret (V.bool false)).bind fun t2_105 =>
  M.ret (Ex.ret, [t2_105]))
   ((getN.bind fun n_106 =>
  (M.lift (padd 0 t1_1)).bind fun y0_107 =>
  getN.bind fun n_108 =>
  (loadN 3 y0_107).bind fun y1_109 =>
  getN.bind fun n_110 =>
  (qrun (visB n_106 [(n_108, n_110, true), (n_106, n_108, true)]) (callV (cfg G) call 13 [y1_109])).bind fun y2_111 =>
  getN.bind fun n_112 =>
  (M.lift (padd 3 t1_1)).bind fun y3_113 =>
  getN.bind fun n_114 =>
  (load1 y3_113).bind fun y4_115 =>
  getN.bind fun n_116 =>
  (M.lift (padd 4 t1_1)).bind fun y5_117 =>
  getN.bind fun n_118 =>
  (load1 y5_117).bind fun y6_119 =>
  getN.bind fun n_120 =>
  (M.lift (padd 5 t1_1)).bind fun y7_121 =>
  getN.bind fun n_122 =>
  (load1 y7_121).bind fun y8_123 =>
  getN.bind fun n_124 =>
  (M.lift (padd 6 t1_1)).bind fun y9_125 =>
  getN.bind fun n_126 =>
  (load1 y9_125).bind fun y10_127 =>
  getN.bind fun n_128 =>
  (qrun (visB n_106 [(n_126, n_128, true), (n_124, n_126, true), (n_122, n_124, true), (n_120, n_122, true), (n_118, n_120, true), (n_116, n_118, true), (n_114, n_116, true), (n_112, n_114, true), (n_110, n_112, true), (n_108, n_110, true), (n_106, n_108, true)]) (callV (cfg G) call 15 [y2_111, y4_115, y6_119, y8_123, y10_127])).bind fun y11_129 =>
  (M.ret y11_129).bind fun y12_130 =>
  (M.lift (extractV y12_130 0)).bind fun y13_131 =>
  (M.lift (extractV y12_130 1)).bind fun y14_132 =>
  (storeN 3 y9_97 y13_131).bind fun _ =>
  (M.ret y14_132).bind fun y16_133 =>
  (loadN 3 y9_97).bind fun t113_134 =>
  (M.ret y16_133).bind fun t114_135 =>
  (loadN 3 t5_30).bind fun t115_136 =>
  (M.ret t6_31).bind fun t116_137 =>
  (callV (cfg G) call 14 [t113_134, t114_135, t115_136, t116_137]).bind fun t117_138 =>
  (M.lift (unV .not t117_138)).bind fun t118_139 =>
  (condV t118_139
   ((M.ret (V.bool false)).bind fun t2_140 =>
  M.ret (Ex.ret, [t2_140]))
   ((getN.bind fun n_141 =>
  (M.lift (padd 0 t1_1)).bind fun y0_142 =>
  getN.bind fun n_143 =>
  (loadN 3 y0_142).bind fun y1_144 =>
  getN.bind fun n_145 =>
  (qrun (visB n_141 [(n_143, n_145, true), (n_141, n_143, true)]) (callV (cfg G) call 13 [y1_144])).bind fun y2_146 =>
  getN.bind fun n_147 =>
  (M.lift (padd 3 t1_1)).bind fun y3_148 =>
  getN.bind fun n_149 =>
  (load1 y3_148).bind fun y4_150 =>
  getN.bind fun n_151 =>
  (M.lift (padd 10 t1_1)).bind fun y5_152 =>
  getN.bind fun n_153 =>
  (load1 y5_152).bind fun y6_154 =>
  getN.bind fun n_155 =>
  (qrun (visB n_141 [(n_153, n_155, true), (n_151, n_153, true), (n_149, n_151, true), (n_147, n_149, true), (n_145, n_147, true), (n_143, n_145, true), (n_141, n_143, true)]) (callV (cfg G) call 16 [y2_146, y4_150, y6_154])).bind fun y7_156 =>
  (M.ret y7_156).bind fun y8_157 =>
  (M.lift (extractV y8_157 0)).bind fun y9_158 =>
  (M.lift (extractV y8_157 1)).bind fun y10_159 =>
  (storeN 3 y9_97 y9_158).bind fun _ =>
  (M.ret y10_159).bind fun y12_160 =>
  (loadN 3 y9_97).bind fun t130_161 =>
  (M.ret y12_160).bind fun t131_162 =>
  (loadN 3 t7_42).bind fun t132_163 =>
  (M.ret t8_43).bind fun t133_164 =>
  (callV (cfg G) call 14 [t130_161, t131_162, t132_163, t133_164]).bind fun t134_165 =>
  (M.lift (unV .not t134_165)).bind fun t135_166 =>
  (condV t135_166
   ((M.ret (V.bool false)).bind fun t2_167 =>
  M.ret (Ex.ret, [t2_167]))
   ((getN.bind fun n_168 =>
  (M.lift (padd 0 t1_1)).bind fun y0_169 =>
  getN.bind fun n_170 =>
  (loadN 3 y0_169).bind fun y1_171 =>
  getN.bind fun n_172 =>
  (qrun (visB n_168 [(n_170, n_172, true), (n_168, n_170, true)]) (callV (cfg G) call 13 [y1_171])).bind fun y2_173 =>
  getN.bind fun n_174 =>
  (M.lift (padd 3 t1_1)).bind fun y3_175 =>
  getN.bind fun n_176 =>
  (load1 y3_175).bind fun y4_177 =>
  getN.bind fun n_178 =>
  (M.lift (padd 8 t1_1)).bind fun y5_179 =>
  getN.bind fun n_180 =>
  (load1 y5_179).bind fun y6_181 =>
  getN.bind fun n_182 =>
  (qrun (visB n_168 [(n_180, n_182, true), (n_178, n_180, true), (n_176, n_178, true), (n_174, n_176, true), (n_172, n_174, true), (n_170, n_172, true), (n_168, n_170, true)]) (callV (cfg G) call 17 [y2_173, y4_177, y6_181])).bind fun y7_183 =>
  (M.ret y7_183).bind fun y8_184 =>
  (M.lift (extractV y8_184 0)).bind fun y9_185 =>
  (M.lift (extractV y8_184 1)).bind fun y10_186 =>
  (storeN 3 y9_97 y9_185).bind fun _ =>
  (M.ret y10_186).bind fun y12_187 =>
  (loadN 3 y9_97).bind fun t147_188 =>
  (M.ret y12_187).bind fun t148_189 =>
  (loadN 3 t9_54).bind fun t149_190 =>
  (M.ret t10_55).bind fun t150_191 =>
  (callV (cfg G) call 14 [t147_188, t148_189, t149_190, t150_191]).bind fun t151_192 =>
  (M.lift (unV .not t151_192)).bind fun t152_193 =>
  (condV t152_193
   ((M.ret (V.bool false)).bind fun t2_194 =>
  M.ret (Ex.ret, [t2_194]))
   ((getN.bind fun n_195 =>
  (M.lift (padd 0 t1_1)).bind fun y0_196 =>
  getN.bind fun n_197 =>
  (loadN 3 y0_196).bind fun y1_198 =>
  getN.bind fun n_199 =>
  (qrun (visB n_195 [(n_197, n_199, true), (n_195, n_197, true)]) (callV (cfg G) call 13 [y1_198])).bind fun y2_200 =>
  getN.bind fun n_201 =>
  (M.lift (padd 3 t1_1)).bind fun y3_202 =>
  getN.bind fun n_203 =>
  (load1 y3_202).bind fun y4_204 =>
  getN.bind fun n_205 =>
  (M.lift (padd 10 t1_1)).bind fun y5_206 =>
  getN.bind fun n_207 =>
  (load1 y5_206).bind fun y6_208 =>
  getN.bind fun n_209 =>
  (M.lift (padd 7 t1_1)).bind fun y7_210 =>
  getN.bind fun n_211 =>
  (load1 y7_210).bind fun y8_212 =>
  getN.bind fun n_213 =>
  (qrun (visB n_195 [(n_211, n_213, true), (n_209, n_211, true), (n_207, n_209, true), (n_205, n_207, true), (n_203, n_205, true), (n_201, n_203, true), (n_199, n_201, true), (n_197, n_199, true), (n_195, n_197, true)]) (callV (cfg G) call 18 [y2_200, y4_204, y6_208, y8_212])).bind fun y9_214 =>
  (M.ret y9_214).bind fun y10_215 =>
  (M.lift (extractV y10_215 0)).bind fun y11_216 =>
  (M.lift (extractV y10_215 1)).bind fun y12_217 =>
  (storeN 3 y9_97 y11_216).bind fun _ =>
  (M.ret y12_217).bind fun y14_218 =>
  (loadN 3 y9_97).bind fun t166_219 =>
  (M.ret y14_218).bind fun t167_220 =>
  (loadN 3 t11_68).bind fun t168_221 =>
  (M.ret t12_69).bind fun t169_222 =>
  (callV (cfg G) call 14 [t166_219, t167_220, t168_221, t169_222]).bind fun t170_223 =>
  (M.lift (unV .not t170_223)).bind fun t171_224 =>
  (condV t171_224
   ((M.ret (V.bool false)).bind fun t2_225 =>
  M.ret (Ex.ret, [t2_225]))
   ((getN.bind fun n_226 =>
  (M.lift (padd 0 t1_1)).bind fun y0_227 =>
  getN.bind fun n_228 =>
  (loadN 3 y0_227).bind fun y1_229 =>
  getN.bind fun n_230 =>
  (qrun (visB n_226 [(n_228, n_230, true), (n_226, n_228, true)]) (callV (cfg G) call 13 [y1_229])).bind fun y2_231 =>
  getN.bind fun n_232 =>
  (M.lift (padd 3 t1_1)).bind fun y3_233 =>
  getN.bind fun n_234 =>
  (load1 y3_233).bind fun y4_235 =>
  getN.bind fun n_236 =>
  (M.lift (padd 7 t1_1)).bind fun y5_237 =>
  getN.bind fun n_238 =>
  (load1 y5_237).bind fun y6_239 =>
  getN.bind fun n_240 =>
  (qrun (visB n_226 [(n_238, n_240, true), (n_236, n_238, true), (n_234, n_236, true), (n_232, n_234, true), (n_230, n_232, true), (n_228, n_230, true), (n_226, n_228, true)]) (callV (cfg G) call 19 [y2_231, y4_235, y6_239])).bind fun y7_241 =>
  (M.ret y7_241).bind fun y8_242 =>
  (M.lift (extractV y8_242 0)).bind fun y9_243 =>
  (M.lift (extractV y8_242 1)).bind fun y10_244 =>
  (storeN 3 y9_97 y9_243).bind fun _ =>
  (M.ret y10_244).bind fun y12_245 =>
  (loadN 3 y9_97).bind fun t183_246 =>
  (M.ret y12_245).bind fun t184_247 =>
  (loadN 3 t13_80).bind fun t185_248 =>
  (M.ret t14_81).bind fun t186_249 =>
  (callV (cfg G) call 14 [t183_246, t184_247, t185_248, t186_249]).bind fun t187_250 =>
  (M.ret t187_250).bind fun t2_251 =>
  M.ret (Ex.ret, [t2_251])))))))))))))))))))

theorem ferry_ferrylaw09_ReadyMoves_eq (G : Nat → Option (List V)) (n : Nat) (x0 : V) : sem (cfg G) (n + 1) 3 [x0] = outV (ferry_ferrylaw09_ReadyMoves G (sem (cfg G) n) x0) :=
  (fnV_at (C := cfg G) (n := n) (f := 3) (fn := Tryz.f3) (c := Tryz.f3.body.getD .skip) (by kernel_rfl) (by kernel_rfl) (by kernel_rfl) [x0]).trans (by kernel_rfl)

noncomputable def ferry_ferrylaw09_ReadyHolds_l1 (G : Nat → Option (List V)) (call : FuncId → List V → M V) (t28_24 : V) (t27_23 : V) (t7_22 : V) (s0_26 : List V) : M R :=
  (M.lift (arithV .lss (s0_26.getD 1 V.undef) t28_24)).bind fun t30_27 =>
  (condV t30_27
   ((M.lift (idxV 6 t27_23 (s0_26.getD 1 V.undef))).bind fun t31_28 =>
  (loadN 6 t31_28).bind fun t32_29 =>
  (newV (.agg [(V.int .i64 0), (V.int .i64 0), (V.int .i64 0), (V.int .i64 0), (V.int .i64 0), (V.int .u32 0)])).bind fun t9_30 =>
  (storeN 6 t9_30 t32_29).bind fun _ =>
  (loadN 3 t7_22).bind fun t34_31 =>
  (loadN 6 t9_30).bind fun t35_32 =>
  (callV (cfg G) call 23 [t34_31, t35_32]).bind fun t36_33 =>
  (M.ret t36_33).bind fun t33_34 =>
  (M.lift (extractV t33_34 0)).bind fun t37_35 =>
  (M.lift (extractV t33_34 1)).bind fun t38_36 =>
  (newV (.agg [V.nils, V.nils, V.nils])).bind fun t10_37 =>
  (storeN 3 t10_37 t37_35).bind fun _ =>
  (M.ret t38_36).bind fun t11_38 =>
  (M.ret t11_38).bind fun t39_39 =>
  (M.lift ((eqV .iface true t39_39 V.nili).bind fun b => some (.bool !b))).bind fun t40_40 =>
  (condV t40_40
   ((M.ret t11_38).bind fun t41_41 =>
  (callV (cfg G) call 22 [t41_41, (V.int .i64 12)]).bind fun t42_42 =>
  (M.lift (unV .not t42_42)).bind fun t43_43 =>
  (M.ret t43_43).bind fun t44_44 =>
  (guardV t44_44 false (M.lift (padd 0 t10_37))).bind fun t45_45 =>
  (guardV t44_44 false (load1 t45_45)).bind fun t46_46 =>
  (guardV t44_44 false (M.lift (lenV t46_46))).bind fun t47_47 =>
  (guardV t44_44 false (M.lift ((eqV (.sc .int) true t47_47 (V.int .i64 0)).bind fun b => some (.bool !b)))).bind fun t48_48 =>
  (M.lift (pickV t44_44 (V.bool true) t48_48)).bind fun t49_49 =>
  (M.ret t49_49).bind fun t50_50 =>
  (guardV t50_50 false (M.lift (padd 1 t10_37))).bind fun t51_51 =>
  (guardV t50_50 false (load1 t51_51)).bind fun t52_52 =>
  (guardV t50_50 false (M.lift (lenV t52_52))).bind fun t53_53 =>
  (guardV t50_50 false (M.lift ((eqV (.sc .int) true t53_53 (V.int .i64 0)).bind fun b => some (.bool !b)))).bind fun t54_54 =>
  (M.lift (pickV t50_50 (V.bool true) t54_54)).bind fun t55_55 =>
  (M.ret t55_55).bind fun t56_56 =>
  (guardV t56_56 false (M.lift (padd 2 t10_37))).bind fun t57_57 =>
  (guardV t56_56 false (load1 t57_57)).bind fun t58_58 =>
  (guardV t56_56 false (M.lift (lenV t58_58))).bind fun t59_59 =>
  (guardV t56_56 false (M.lift ((eqV (.sc .int) true t59_59 (V.int .i64 0)).bind fun b => some (.bool !b)))).bind fun t60_60 =>
  (M.lift (pickV t56_56 (V.bool true) t60_60)).bind fun t61_61 =>
  (condV t61_61
   ((M.ret (V.bool false)).bind fun t4_62 =>
  M.ret (Ex.ret, [t4_62, (s0_26.getD 1 V.undef)]))
   ((M.lift (arithV .add (s0_26.getD 1 V.undef) (V.int .i64 1))).bind fun t79_63 =>
  (M.ret t79_63).bind fun t29_64 =>
  M.ret (Ex.normal, [(s0_26.getD 0 V.undef), t29_64]))))
   ((loadN 3 t10_37).bind fun t62_65 =>
  (callV (cfg G) call 24 [t62_65]).bind fun t63_66 =>
  (M.lift (unV .not t63_66)).bind fun t64_67 =>
  (M.ret t64_67).bind fun t65_68 =>
  (guardV t65_68 false (loadN 3 t10_37)).bind fun t66_69 =>
  (guardV t65_68 false (callV (cfg G) call 25 [t66_69])).bind fun t67_70 =>
  (guardV t65_68 false (callV (cfg G) call 20 [t67_70])).bind fun t68_71 =>
  (guardV t65_68 false (M.lift (unV .not t68_71))).bind fun t69_72 =>
  (M.lift (pickV t65_68 (V.bool true) t69_72)).bind fun t70_73 =>
  (M.ret t70_73).bind fun t71_74 =>
  (guardV t71_74 false (loadN 3 t7_22)).bind fun t72_75 =>
  (guardV t71_74 false (loadN 3 t10_37)).bind fun t73_76 =>
  (guardV t71_74 false (loadN 6 t9_30)).bind fun t74_77 =>
  (guardV t71_74 false (callV (cfg G) call 26 [t72_75, t73_76, t74_77])).bind fun t75_78 =>
  (guardV t71_74 false (M.lift (unV .not t75_78))).bind fun t76_79 =>
  (M.lift (pickV t71_74 (V.bool true) t76_79)).bind fun t77_80 =>
  (condV t77_80
   ((M.ret (V.bool false)).bind fun t4_81 =>
  M.ret (Ex.ret, [t4_81, (s0_26.getD 1 V.undef)]))
   ((loadN 3 t10_37).bind fun t78_82 =>
  (storeN 3 t7_22 t78_82).bind fun _ =>
  (M.lift (arithV .add (s0_26.getD 1 V.undef) (V.int .i64 1))).bind fun t79_83 =>
  (M.ret t79_83).bind fun t29_84 =>
  M.ret (Ex.normal, [(s0_26.getD 0 V.undef), t29_84]))))))
   (M.ret ((Ex.exit 0), [(s0_26.getD 0 V.undef), (s0_26.getD 1 V.undef)])))

noncomputable def ferry_ferrylaw09_ReadyHolds (G : Nat → Option (List V)) (call : FuncId → List V → M V) (x0 : V) (x1 : V) : M R :=
  (newV x0).bind fun t2_1 =>
  (M.ret (V.bool false)).bind fun t4_2 =>
  (callV (cfg G) call 5 []).bind fun t12_3 =>
  (M.lift (unV .not t12_3)).bind fun t13_4 =>
  (condV t13_4
   ((M.ret (V.bool false)).bind fun t4_5 =>
  M.ret (Ex.ret, [t4_5]))
   ((loadN 3 t2_1).bind fun t14_6 =>
  (callV (cfg G) call 20 [t14_6]).bind fun t15_7 =>
  (M.lift (unV .not t15_7)).bind fun t16_8 =>
  (condV t16_8
   ((loadN 3 t2_1).bind fun t18_9 =>
  (callV (cfg G) call 13 [t18_9]).bind fun t19_10 =>
  (callV (cfg G) call 21 [t19_10]).bind fun t20_11 =>
  (M.ret t20_11).bind fun t17_12 =>
  (M.lift (extractV t17_12 0)).bind fun t21_13 =>
  (M.lift (extractV t17_12 1)).bind fun t22_14 =>
  (M.ret t21_13).bind fun t5_15 =>
  (M.ret t22_14).bind fun t6_16 =>
  (M.ret t6_16).bind fun t23_17 =>
  (callV (cfg G) call 22 [t23_17, (V.int .i64 9)]).bind fun t24_18 =>
  (M.ret t24_18).bind fun t4_19 =>
  M.ret (Ex.ret, [t4_19]))
   ((loadN 3 t2_1).bind fun t25_20 =>
  (callV (cfg G) call 13 [t25_20]).bind fun t26_21 =>
  (newV (.agg [V.nils, V.nils, V.nils])).bind fun t7_22 =>
  (storeN 3 t7_22 t26_21).bind fun _ =>
  (M.ret x1).bind fun t27_23 =>
  (M.lift (lenV t27_23)).bind fun t28_24 =>
  (M.ret (V.int .i64 0)).bind fun t29_25 =>
  (loopV (ferry_ferrylaw09_ReadyHolds_l1 G call t28_24 t27_23 t7_22) [t4_2, t29_25]).bind fun r0_85 => match r0_85.1 with
  | .normal => M.fail
  | .exit k0_86 =>
    (if k0_86 = 0 then
    (M.ret (V.bool true)).bind fun t4_87 =>
    M.ret (Ex.ret, [t4_87])
    else M.fail)
  | .ret =>
    M.ret (Ex.ret, [(r0_85.2.getD 0 V.undef)])))))

theorem ferry_ferrylaw09_ReadyHolds_eq (G : Nat → Option (List V)) (n : Nat) (x0 : V) (x1 : V) : sem (cfg G) (n + 1) 4 [x0, x1] = outV (ferry_ferrylaw09_ReadyHolds G (sem (cfg G) n) x0 x1) :=
  (fnV_at (C := cfg G) (n := n) (f := 4) (fn := Tryz.f4) (c := Tryz.f4.body.getD .skip) (by kernel_rfl) (by kernel_rfl) (by kernel_rfl) [x0, x1]).trans (by kernel_rfl)

end Go.Fv.Tr

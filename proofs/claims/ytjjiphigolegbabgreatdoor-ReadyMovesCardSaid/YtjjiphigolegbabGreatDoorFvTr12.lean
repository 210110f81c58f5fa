/-
  The Go functions ferry/ready.Block, ferry/ready.Wake as plain terms. By an AI agent; no person has read it.
-/
import Derived.Test.YtjjiphigolegbabGreatDoorFvCf
set_option linter.unusedVariables false
set_option linter.unusedSimpArgs false
set_option linter.unusedSectionVars false
/-! The Go functions ferry/ready.Block, ferry/ready.Wake as plain terms. -/
namespace Go.Fv.Tr
open Go Go.Fv Go.Proofs
set_option linter.unusedVariables false

noncomputable def ferry_ready_Block_j1 (G : Nat → Option (List V)) (call : FuncId → List V → M V) (t12_11 : V) (t10_2 : V) : M R :=
  (loadN 3 t12_11).bind fun t92_88 =>
  (storeN 3 t10_2 t92_88).bind fun _ =>
  (M.ret V.nili).bind fun t11_89 =>
  (((loadN 3 t10_2)).bind fun v => ((M.ret []).bind fun l => M.ret (t11_89 :: l)).bind fun l => M.ret (v :: l)).bind fun l => M.ret (Ex.ret, tupV l)

noncomputable def ferry_ready_Block (G : Nat → Option (List V)) (call : FuncId → List V → M V) (x0 : V) (x1 : V) (x2 : V) (x3 : V) (x4 : V) : M R :=
  (newV x0).bind fun t5_1 =>
  (newV (.agg [V.nils, V.nils, V.nils])).bind fun t10_2 =>
  (M.ret V.nili).bind fun t11_3 =>
  (loadN 3 t5_1).bind fun t17_4 =>
  (M.ret x1).bind fun t18_5 =>
  (sliceV 1 1 [(V.int .i64 0)] [(0, (V.int .i64 1))]).bind fun t19_6 =>
  (callV (cfg G) call 34 [t17_4, t18_5, t19_6]).bind fun t20_7 =>
  (M.ret t20_7).bind fun t16_8 =>
  (M.lift (extractV t16_8 0)).bind fun t21_9 =>
  (M.lift (extractV t16_8 1)).bind fun t22_10 =>
  (newV (.agg [V.nils, V.nils, V.nils])).bind fun t12_11 =>
  (storeN 3 t12_11 t21_9).bind fun _ =>
  (M.ret t22_10).bind fun t13_12 =>
  (M.ret t13_12).bind fun t23_13 =>
  (M.lift ((eqV .iface true t23_13 V.nili).bind fun b => some (.bool !b))).bind fun t24_14 =>
  (condV t24_14
   ((M.lift (buildV [V.nils, V.nils, V.nils] [])).bind fun t25_15 =>
  (M.ret t13_12).bind fun t26_16 =>
  (storeN 3 t10_2 t25_15).bind fun _ =>
  (M.ret t26_16).bind fun t11_17 =>
  (((loadN 3 t10_2)).bind fun v => ((M.ret []).bind fun l => M.ret (t11_17 :: l)).bind fun l => M.ret (v :: l)).bind fun l => M.ret (Ex.ret, tupV l))
   ((M.ret x2).bind fun t27_18 =>
  (M.lift ((eqV (.sc .int) true t27_18 (V.int .i64 1)).bind fun b => some (.bool b))).bind fun t28_19 =>
  (M.ret t28_19).bind fun t14_20 =>
  (M.ret x2).bind fun t29_21 =>
  (M.lift (arithV .lss t29_21 (V.int .i64 1))).bind fun t30_22 =>
  (M.ret t30_22).bind fun t31_23 =>
  (guardV t31_23 false (M.ret x2)).bind fun t32_24 =>
  (guardV t31_23 false (M.lift (arithV .gtr t32_24 (V.int .i64 4)))).bind fun t33_25 =>
  (M.lift (pickV t31_23 (V.bool true) t33_25)).bind fun t34_26 =>
  (M.ret t34_26).bind fun t35_27 =>
  (guardV t35_27 false (M.ret x3)).bind fun t36_28 =>
  (guardV t35_27 false (M.lift (arithV .lss t36_28 (V.int .i64 0)))).bind fun t37_29 =>
  (M.lift (pickV t35_27 (V.bool true) t37_29)).bind fun t38_30 =>
  (M.ret t38_30).bind fun t39_31 =>
  (guardV t39_31 false (M.ret t14_20)).bind fun t40_32 =>
  (guardV t39_31 false (M.ret t40_32)).bind fun t41_33 =>
  (guardV t41_33 true (M.ret x3)).bind fun t42_34 =>
  (guardV t41_33 true (M.lift ((eqV (.sc .int) true t42_34 (V.int .i64 0)).bind fun b => some (.bool !b)))).bind fun t43_35 =>
  (guardV t41_33 true (M.ret t43_35)).bind fun t44_36 =>
  (guardV t44_36 false (M.ret x4)).bind fun t45_37 =>
  (guardV t44_36 false (M.lift ((eqV (.sc .int) true t45_37 (V.int .i64 (-1))).bind fun b => some (.bool b)))).bind fun t46_38 =>
  (guardV t41_33 true (M.lift (pickV t44_36 (V.bool true) t46_38))).bind fun t47_39 =>
  (guardV t39_31 false (M.lift (pickV t41_33 t47_39 (V.bool false)))).bind fun t48_40 =>
  (M.lift (pickV t39_31 (V.bool true) t48_40)).bind fun t49_41 =>
  (M.ret t49_41).bind fun t50_42 =>
  (guardV t50_42 false (M.ret x4)).bind fun t51_43 =>
  (guardV t50_42 false (M.lift (arithV .lss t51_43 (V.int .i64 (-1))))).bind fun t52_44 =>
  (M.lift (pickV t50_42 (V.bool true) t52_44)).bind fun t53_45 =>
  (M.ret t53_45).bind fun t54_46 =>
  (guardV t54_46 false (M.ret x4)).bind fun t55_47 =>
  (guardV t54_46 false (M.lift (arithV .gtr t55_47 (V.int .i64 1010000)))).bind fun t56_48 =>
  (M.lift (pickV t54_46 (V.bool true) t56_48)).bind fun t57_49 =>
  (condV t57_49
   (((M.lift (buildV [V.nils, V.nils, V.nils] [])).bind fun y0_50 =>
  (load1 (glob (cfg G) 0)).bind fun y1_51 =>
  guardM (apartV (glob (cfg G) 0) t10_2 && true) (
  (storeN 3 t10_2 y0_50).bind fun _ =>
  (M.ret y1_51).bind fun y3_52 =>
  (((loadN 3 t10_2)).bind fun v => ((M.ret []).bind fun l => M.ret (y3_52 :: l)).bind fun l => M.ret (v :: l)).bind fun l => M.ret (Ex.ret, tupV l))))
   ((M.ret x1).bind fun t60_53 =>
  (callV (cfg G) call 35 [t12_11, t60_53]).bind fun t61_54 =>
  (M.lift (padd 0 t12_11)).bind fun t62_55 =>
  (load1 t62_55).bind fun t63_56 =>
  (M.ret x1).bind fun t64_57 =>
  (M.lift (idxV 21 t63_56 t64_57)).bind fun t65_58 =>
  (M.ret t65_58).bind fun t15_59 =>
  (M.ret t15_59).bind fun t66_60 =>
  (M.ret t15_59).bind fun t67_61 =>
  (M.ret t15_59).bind fun t68_62 =>
  (M.ret x2).bind fun t69_63 =>
  (M.ret x3).bind fun t70_64 =>
  (M.lift (nilCheckV t66_60)).bind fun t71_65 =>
  (M.lift (padd 17 t71_65)).bind fun t72_66 =>
  (storeN 1 t72_66 (V.int .i64 2)).bind fun _ =>
  (M.lift (nilCheckV t67_61)).bind fun t73_67 =>
  (M.lift (padd 19 t73_67)).bind fun t74_68 =>
  (storeN 1 t74_68 t69_63).bind fun _ =>
  (M.lift (nilCheckV t68_62)).bind fun t75_69 =>
  (M.lift (padd 20 t75_69)).bind fun t76_70 =>
  (storeN 1 t76_70 t70_64).bind fun _ =>
  (M.ret x4).bind fun t77_71 =>
  (M.lift (arithV .geq t77_71 (V.int .i64 0))).bind fun t78_72 =>
  (condV t78_72
   ((M.lift (padd 2 t12_11)).bind fun t80_90 =>
  (load1 t80_90).bind fun t81_91 =>
  (M.ret x1).bind fun t82_92 =>
  (M.ret x4).bind fun t83_93 =>
  (callV (cfg G) call 37 [t81_91, t82_92, t83_93]).bind fun t84_94 =>
  (M.ret t84_94).bind fun t79_95 =>
  (M.lift (extractV t79_95 0)).bind fun t85_96 =>
  (M.lift (extractV t79_95 1)).bind fun t86_97 =>
  (M.lift (padd 2 t12_11)).bind fun t87_98 =>
  (storeN 1 t87_98 t85_96).bind fun _ =>
  (M.ret t86_97).bind fun t13_99 =>
  (M.ret t13_99).bind fun t88_100 =>
  (M.lift ((eqV .iface true t88_100 V.nili).bind fun b => some (.bool !b))).bind fun t89_101 =>
  (condV t89_101
   ((M.lift (buildV [V.nils, V.nils, V.nils] [])).bind fun t90_102 =>
  (M.ret t13_99).bind fun t91_103 =>
  (storeN 3 t10_2 t90_102).bind fun _ =>
  (M.ret t91_103).bind fun t11_104 =>
  (((loadN 3 t10_2)).bind fun v => ((M.ret []).bind fun l => M.ret (t11_104 :: l)).bind fun l => M.ret (v :: l)).bind fun l => M.ret (Ex.ret, tupV l))
   (ferry_ready_Block_j1 G call t12_11 t10_2)))
   (ferry_ready_Block_j1 G call t12_11 t10_2))))))

theorem ferry_ready_Block_eq (G : Nat → Option (List V)) (n : Nat) (x0 : V) (x1 : V) (x2 : V) (x3 : V) (x4 : V) : sem (cfg G) (n + 1) 15 [x0, x1, x2, x3, x4] = outV (ferry_ready_Block G (sem (cfg G) n) x0 x1 x2 x3 x4) :=
  (fnV_at (C := cfg G) (n := n) (f := 15) (fn := Tryz.f15) (c := Tryz.f15.body.getD .skip) (by kernel_rfl) (by kernel_rfl) (by kernel_rfl) [x0, x1, x2, x3, x4]).trans (by kernel_rfl)

noncomputable def ferry_ready_Wake (G : Nat → Option (List V)) (call : FuncId → List V → M V) (x0 : V) (x1 : V) (x2 : V) : M R :=
  (newV x0).bind fun t3_1 =>
  (newV (.agg [V.nils, V.nils, V.nils])).bind fun t6_2 =>
  (M.ret V.nili).bind fun t7_3 =>
  (loadN 3 t3_1).bind fun t11_4 =>
  (M.ret x1).bind fun t12_5 =>
  (sliceV 1 1 [(V.int .i64 0)] [(0, (V.int .i64 2))]).bind fun t13_6 =>
  (callV (cfg G) call 34 [t11_4, t12_5, t13_6]).bind fun t14_7 =>
  (M.ret t14_7).bind fun t10_8 =>
  (M.lift (extractV t10_8 0)).bind fun t15_9 =>
  (M.lift (extractV t10_8 1)).bind fun t16_10 =>
  (newV (.agg [V.nils, V.nils, V.nils])).bind fun t8_11 =>
  (storeN 3 t8_11 t15_9).bind fun _ =>
  (M.ret t16_10).bind fun t9_12 =>
  (M.ret t9_12).bind fun t17_13 =>
  (M.lift ((eqV .iface true t17_13 V.nili).bind fun b => some (.bool !b))).bind fun t18_14 =>
  (condV t18_14
   ((M.lift (buildV [V.nils, V.nils, V.nils] [])).bind fun t19_15 =>
  (M.ret t9_12).bind fun t20_16 =>
  (storeN 3 t6_2 t19_15).bind fun _ =>
  (M.ret t20_16).bind fun t7_17 =>
  (((loadN 3 t6_2)).bind fun v => ((M.ret []).bind fun l => M.ret (t7_17 :: l)).bind fun l => M.ret (v :: l)).bind fun l => M.ret (Ex.ret, tupV l))
   ((M.ret x1).bind fun t21_18 =>
  (M.ret x2).bind fun t22_19 =>
  (callV (cfg G) call 38 [t8_11, t21_18, t22_19]).bind fun t23_20 =>
  (loadN 3 t8_11).bind fun t24_21 =>
  (storeN 3 t6_2 t24_21).bind fun _ =>
  (M.ret V.nili).bind fun t7_22 =>
  (((loadN 3 t6_2)).bind fun v => ((M.ret []).bind fun l => M.ret (t7_22 :: l)).bind fun l => M.ret (v :: l)).bind fun l => M.ret (Ex.ret, tupV l)))

theorem ferry_ready_Wake_eq (G : Nat → Option (List V)) (n : Nat) (x0 : V) (x1 : V) (x2 : V) : sem (cfg G) (n + 1) 16 [x0, x1, x2] = outV (ferry_ready_Wake G (sem (cfg G) n) x0 x1 x2) :=
  (fnV_at (C := cfg G) (n := n) (f := 16) (fn := Tryz.f16) (c := Tryz.f16.body.getD .skip) (by kernel_rfl) (by kernel_rfl) (by kernel_rfl) [x0, x1, x2]).trans (by kernel_rfl)

end Go.Fv.Tr

/-
  The Go functions ferry/ferryref09.timers, ferry/ferryref09.count, ferry/ferryref09.goodProc, ferry/ferryref09.ahead, ferry/ferryref09.Good, ferry/ferrylaw09.to, ferry/ferrylaw09.from, ferry/ferrylaw09.some, ferry/ferryref09.EqualInts, ferry/ferrylaw09.awake as plain terms. By an AI agent; no person has read it.
-/
import Derived.Test.YtjjiphigolegbabDoorFvCf
set_option linter.unusedVariables false
set_option linter.unusedSimpArgs false
set_option linter.unusedSectionVars false
/-! The Go functions ferry/ferryref09.timers, ferry/ferryref09.count, ferry/ferryref09.goodProc, ferry/ferryref09.ahead, ferry/ferryref09.Good, ferry/ferrylaw09.to, ferry/ferrylaw09.from, ferry/ferrylaw09.some, ferry/ferryref09.EqualInts, ferry/ferrylaw09.awake as plain terms. -/
namespace Go.Fv.Tr
open Go Go.Fv Go.Proofs
set_option linter.unusedVariables false
set_option maxRecDepth 20000

noncomputable def ferry_ferryref09_timers_j1 (G : Nat → Option (List V)) (call : FuncId → List V → M V) (s0_5 : List V) (j5_21 : V) : M R :=
  (M.ret (s0_5.getD 1 V.undef)).bind fun t12_22 =>
  (M.lift (arithV .add t12_22 (V.int .i64 1))).bind fun t13_23 =>
  (M.ret t13_23).bind fun t6_24 =>
  M.ret (Ex.normal, [j5_21, t6_24])

noncomputable def ferry_ferryref09_timers_l1 (G : Nat → Option (List V)) (call : FuncId → List V → M V) (t2_1 : V) (x1 : V) (s0_5 : List V) : M R :=
  (M.ret (s0_5.getD 1 V.undef)).bind fun t7_6 =>
  (M.lift (padd 2 t2_1)).bind fun t8_7 =>
  (load1 t8_7).bind fun t9_8 =>
  (M.lift (lenV t9_8)).bind fun t10_9 =>
  (M.lift (arithV .lss t7_6 t10_9)).bind fun t11_10 =>
  (condV t11_10
   ((M.lift (padd 2 t2_1)).bind fun t14_11 =>
  (load1 t14_11).bind fun t15_12 =>
  (M.ret (s0_5.getD 1 V.undef)).bind fun t16_13 =>
  (M.lift (idxV 2 t15_12 t16_13)).bind fun t17_14 =>
  (M.lift (padd 0 t17_14)).bind fun t18_15 =>
  (load1 t18_15).bind fun t19_16 =>
  (M.ret x1).bind fun t20_17 =>
  (M.lift ((eqV (.sc .int) false t19_16 t20_17).bind fun b => some (.bool b))).bind fun t21_18 =>
  (condV t21_18
   ((M.ret (s0_5.getD 0 V.undef)).bind fun t22_25 =>
  (M.lift (arithV .add t22_25 (V.int .i64 1))).bind fun t23_26 =>
  (M.ret t23_26).bind fun t5_27 =>
  ferry_ferryref09_timers_j1 G call s0_5 t5_27)
   (ferry_ferryref09_timers_j1 G call s0_5 (s0_5.getD 0 V.undef))))
   (M.ret ((Ex.exit 0), [(s0_5.getD 0 V.undef), (s0_5.getD 1 V.undef)])))

noncomputable def ferry_ferryref09_timers (G : Nat → Option (List V)) (call : FuncId → List V → M V) (x0 : V) (x1 : V) : M R :=
  (newV x0).bind fun t2_1 =>
  (M.ret (V.int .i64 0)).bind fun t4_2 =>
  (M.ret (V.int .i64 0)).bind fun t5_3 =>
  (M.ret (V.int .i64 0)).bind fun t6_4 =>
  (loopV (ferry_ferryref09_timers_l1 G call t2_1 x1) [t5_3, t6_4]).bind fun r0_28 => match r0_28.1 with
  | .normal => M.fail
  | .exit k0_29 =>
    (if k0_29 = 0 then
    (M.ret (r0_28.2.getD 0 V.undef)).bind fun t24_30 =>
    (M.ret t24_30).bind fun t4_31 =>
    M.ret (Ex.ret, [t4_31])
    else M.fail)
  | .ret =>
    M.ret (Ex.ret, [t4_2])

theorem ferry_ferryref09_timers_eq (G : Nat → Option (List V)) (n : Nat) (x0 : V) (x1 : V) : sem (cfg G) (n + 1) 108 [x0, x1] = outV (ferry_ferryref09_timers G (sem (cfg G) n) x0 x1) :=
  (fnV_at (C := cfg G) (n := n) (f := 108) (fn := Tryd.f108) (c := Tryd.f108.body.getD .skip) (by kernel_rfl) (by kernel_rfl) (by kernel_rfl) [x0, x1]).trans (by kernel_rfl)

noncomputable def ferry_ferryref09_count_j1 (G : Nat → Option (List V)) (call : FuncId → List V → M V) (s0_4 : List V) (j5_17 : V) : M R :=
  (M.ret (s0_4.getD 1 V.undef)).bind fun t11_18 =>
  (M.lift (arithV .add t11_18 (V.int .i64 1))).bind fun t12_19 =>
  (M.ret t12_19).bind fun t6_20 =>
  M.ret (Ex.normal, [j5_17, t6_20])

noncomputable def ferry_ferryref09_count_l1 (G : Nat → Option (List V)) (call : FuncId → List V → M V) (x0 : V) (x1 : V) (s0_4 : List V) : M R :=
  (M.ret (s0_4.getD 1 V.undef)).bind fun t7_5 =>
  (M.ret x0).bind fun t8_6 =>
  (M.lift (lenV t8_6)).bind fun t9_7 =>
  (M.lift (arithV .lss t7_5 t9_7)).bind fun t10_8 =>
  (condV t10_8
   ((M.ret x0).bind fun t13_9 =>
  (M.ret (s0_4.getD 1 V.undef)).bind fun t14_10 =>
  (M.lift (idxV 1 t13_9 t14_10)).bind fun t15_11 =>
  (load1 t15_11).bind fun t16_12 =>
  (M.ret x1).bind fun t17_13 =>
  (M.lift ((eqV (.sc .int) false t16_12 t17_13).bind fun b => some (.bool b))).bind fun t18_14 =>
  (condV t18_14
   ((M.ret (s0_4.getD 0 V.undef)).bind fun t19_21 =>
  (M.lift (arithV .add t19_21 (V.int .i64 1))).bind fun t20_22 =>
  (M.ret t20_22).bind fun t5_23 =>
  ferry_ferryref09_count_j1 G call s0_4 t5_23)
   (ferry_ferryref09_count_j1 G call s0_4 (s0_4.getD 0 V.undef))))
   (M.ret ((Ex.exit 0), [(s0_4.getD 0 V.undef), (s0_4.getD 1 V.undef)])))

noncomputable def ferry_ferryref09_count (G : Nat → Option (List V)) (call : FuncId → List V → M V) (x0 : V) (x1 : V) : M R :=
  (M.ret (V.int .i64 0)).bind fun t4_1 =>
  (M.ret (V.int .i64 0)).bind fun t5_2 =>
  (M.ret (V.int .i64 0)).bind fun t6_3 =>
  (loopV (ferry_ferryref09_count_l1 G call x0 x1) [t5_2, t6_3]).bind fun r0_24 => match r0_24.1 with
  | .normal => M.fail
  | .exit k0_25 =>
    (if k0_25 = 0 then
    (M.ret (r0_24.2.getD 0 V.undef)).bind fun t21_26 =>
    (M.ret t21_26).bind fun t4_27 =>
    M.ret (Ex.ret, [t4_27])
    else M.fail)
  | .ret =>
    M.ret (Ex.ret, [t4_1])

theorem ferry_ferryref09_count_eq (G : Nat → Option (List V)) (n : Nat) (x0 : V) (x1 : V) : sem (cfg G) (n + 1) 109 [x0, x1] = outV (ferry_ferryref09_count G (sem (cfg G) n) x0 x1) :=
  (fnV_at (C := cfg G) (n := n) (f := 109) (fn := Tryd.f109) (c := Tryd.f109.body.getD .skip) (by kernel_rfl) (by kernel_rfl) (by kernel_rfl) [x0, x1]).trans (by kernel_rfl)

noncomputable def ferry_ferryref09_goodProc_j1 (G : Nat → Option (List V)) (call : FuncId → List V → M V) (t2_1 : V) (x1 : V) (t5_8 : V) (j6_71 : V) : M R :=
  (loadN 3 t2_1).bind fun t72_72 =>
  (M.ret x1).bind fun t73_73 =>
  (callV (cfg G) call 108 [t72_72, t73_73]).bind fun t74_74 =>
  (M.ret t74_74).bind fun t7_75 =>
  (M.ret t7_75).bind fun t75_76 =>
  (M.lift (arithV .gtr t75_76 (V.int .i64 1))).bind fun t76_77 =>
  (M.ret t76_77).bind fun t77_78 =>
  (guardV t77_78 false (M.ret t7_75)).bind fun t78_79 =>
  (guardV t77_78 false (M.lift ((eqV (.sc .int) true t78_79 (V.int .i64 1)).bind fun b => some (.bool b)))).bind fun t79_80 =>
  (guardV t77_78 false (M.ret t79_80)).bind fun t80_81 =>
  (guardV t80_81 true (M.lift (padd 17 t5_8))).bind fun t81_82 =>
  (guardV t80_81 true (load1 t81_82)).bind fun t82_83 =>
  (guardV t80_81 true (M.lift ((eqV (.sc .int) true t82_83 (V.int .i64 2)).bind fun b => some (.bool !b)))).bind fun t83_84 =>
  (guardV t77_78 false (M.lift (pickV t80_81 t83_84 (V.bool false)))).bind fun t84_85 =>
  (M.lift (pickV t77_78 (V.bool true) t84_85)).bind fun t85_86 =>
  (M.ret t85_86).bind fun t86_87 =>
  (guardV t86_87 false (M.ret t7_75)).bind fun t87_88 =>
  (guardV t86_87 false (M.lift ((eqV (.sc .int) true t87_88 (V.int .i64 0)).bind fun b => some (.bool b)))).bind fun t88_89 =>
  (guardV t86_87 false (M.ret t88_89)).bind fun t89_90 =>
  (guardV t89_90 true (M.lift (padd 19 t5_8))).bind fun t90_91 =>
  (guardV t89_90 true (load1 t90_91)).bind fun t91_92 =>
  (guardV t89_90 true (M.lift ((eqV (.sc .int) true t91_92 (V.int .i64 1)).bind fun b => some (.bool b)))).bind fun t92_93 =>
  (guardV t86_87 false (M.lift (pickV t89_90 t92_93 (V.bool false)))).bind fun t93_94 =>
  (M.lift (pickV t86_87 (V.bool true) t93_94)).bind fun t94_95 =>
  (condV t94_95
   ((M.ret (V.bool false)).bind fun t4_96 =>
  M.ret (Ex.ret, [t4_96]))
   ((M.lift (padd 1 t2_1)).bind fun t95_97 =>
  (load1 t95_97).bind fun t96_98 =>
  (M.ret x1).bind fun t97_99 =>
  (callV (cfg G) call 109 [t96_98, t97_99]).bind fun t98_100 =>
  (M.ret j6_71).bind fun t99_101 =>
  (M.lift ((eqV (.sc .int) false t98_100 t99_101).bind fun b => some (.bool b))).bind fun t100_102 =>
  (M.ret t100_102).bind fun t4_103 =>
  M.ret (Ex.ret, [t4_103])))

noncomputable def ferry_ferryref09_goodProc (G : Nat → Option (List V)) (call : FuncId → List V → M V) (x0 : V) (x1 : V) : M R :=
  (newV x0).bind fun t2_1 =>
  (M.ret (V.bool false)).bind fun t4_2 =>
  (M.lift (padd 0 t2_1)).bind fun t8_3 =>
  (load1 t8_3).bind fun t9_4 =>
  (M.ret x1).bind fun t10_5 =>
  (M.lift (idxV 21 t9_4 t10_5)).bind fun t11_6 =>
  (loadN 21 t11_6).bind fun t12_7 =>
  (newV (.agg [(V.int .u32 0), (V.int .u32 0), (V.int .u32 0), (V.int .u32 0), (V.int .u32 0), (V.int .u32 0), (V.int .u32 0), (V.int .u32 0), (V.int .u32 0), (V.int .u32 0), (V.int .u32 0), (V.int .u32 0), (V.int .u32 0), (V.int .u32 0), (V.int .u32 0), (V.int .u32 0), (V.int .u32 0), (V.int .i64 0), (V.int .i64 0), (V.int .i64 0), (V.int .i64 0)])).bind fun t5_8 =>
  (storeN 21 t5_8 t12_7).bind fun _ =>
  (M.lift (padd 0 t5_8)).bind fun t13_9 =>
  (M.lift (aidxV 16 1 t13_9 (V.int .i64 0))).bind fun t14_10 =>
  (load1 t14_10).bind fun t15_11 =>
  (M.lift ((eqV (.sc .int) true t15_11 (V.int .u32 0)).bind fun b => some (.bool !b))).bind fun t16_12 =>
  (M.ret t16_12).bind fun t17_13 =>
  (guardV t17_13 false (M.lift (padd 17 t5_8))).bind fun t18_14 =>
  (guardV t17_13 false (load1 t18_14)).bind fun t19_15 =>
  (guardV t17_13 false (M.lift (arithV .lss t19_15 (V.int .i64 0)))).bind fun t20_16 =>
  (M.lift (pickV t17_13 (V.bool true) t20_16)).bind fun t21_17 =>
  (M.ret t21_17).bind fun t22_18 =>
  (guardV t22_18 false (M.lift (padd 17 t5_8))).bind fun t23_19 =>
  (guardV t22_18 false (load1 t23_19)).bind fun t24_20 =>
  (guardV t22_18 false (M.lift (arithV .gtr t24_20 (V.int .i64 3)))).bind fun t25_21 =>
  (M.lift (pickV t22_18 (V.bool true) t25_21)).bind fun t26_22 =>
  (M.ret t26_22).bind fun t27_23 =>
  (guardV t27_23 false (M.lift (padd 18 t5_8))).bind fun t28_24 =>
  (guardV t27_23 false (load1 t28_24)).bind fun t29_25 =>
  (guardV t27_23 false (M.lift (arithV .lss t29_25 (V.int .i64 0)))).bind fun t30_26 =>
  (M.lift (pickV t27_23 (V.bool true) t30_26)).bind fun t31_27 =>
  (M.ret t31_27).bind fun t32_28 =>
  (guardV t32_28 false (M.lift (padd 18 t5_8))).bind fun t33_29 =>
  (guardV t32_28 false (load1 t33_29)).bind fun t34_30 =>
  (guardV t32_28 false (M.lift (arithV .gtr t34_30 (V.int .i64 255)))).bind fun t35_31 =>
  (M.lift (pickV t32_28 (V.bool true) t35_31)).bind fun t36_32 =>
  (M.ret t36_32).bind fun t37_33 =>
  (guardV t37_33 false (M.lift (padd 19 t5_8))).bind fun t38_34 =>
  (guardV t37_33 false (load1 t38_34)).bind fun t39_35 =>
  (guardV t37_33 false (M.lift (arithV .lss t39_35 (V.int .i64 0)))).bind fun t40_36 =>
  (M.lift (pickV t37_33 (V.bool true) t40_36)).bind fun t41_37 =>
  (M.ret t41_37).bind fun t42_38 =>
  (guardV t42_38 false (M.lift (padd 19 t5_8))).bind fun t43_39 =>
  (guardV t42_38 false (load1 t43_39)).bind fun t44_40 =>
  (guardV t42_38 false (M.lift (arithV .gtr t44_40 (V.int .i64 4)))).bind fun t45_41 =>
  (M.lift (pickV t42_38 (V.bool true) t45_41)).bind fun t46_42 =>
  (condV t46_42
   ((M.ret (V.bool false)).bind fun t4_43 =>
  M.ret (Ex.ret, [t4_43]))
   ((M.lift (padd 19 t5_8)).bind fun t47_44 =>
  (load1 t47_44).bind fun t48_45 =>
  (M.lift ((eqV (.sc .int) true t48_45 (V.int .i64 0)).bind fun b => some (.bool !b))).bind fun t49_46 =>
  (M.lift (padd 17 t5_8)).bind fun t50_47 =>
  (load1 t50_47).bind fun t51_48 =>
  (M.lift ((eqV (.sc .int) true t51_48 (V.int .i64 2)).bind fun b => some (.bool b))).bind fun t52_49 =>
  (M.lift ((eqV (.sc .bool) false t49_46 t52_49).bind fun b => some (.bool !b))).bind fun t53_50 =>
  (M.ret t53_50).bind fun t54_51 =>
  (guardV t54_51 false (M.lift (padd 20 t5_8))).bind fun t55_52 =>
  (guardV t54_51 false (load1 t55_52)).bind fun t56_53 =>
  (guardV t54_51 false (M.lift (arithV .lss t56_53 (V.int .i64 0)))).bind fun t57_54 =>
  (M.lift (pickV t54_51 (V.bool true) t57_54)).bind fun t58_55 =>
  (M.ret t58_55).bind fun t59_56 =>
  (guardV t59_56 false (M.lift (padd 19 t5_8))).bind fun t60_57 =>
  (guardV t59_56 false (load1 t60_57)).bind fun t61_58 =>
  (guardV t59_56 false (M.lift (arithV .leq t61_58 (V.int .i64 1)))).bind fun t62_59 =>
  (guardV t59_56 false (M.ret t62_59)).bind fun t63_60 =>
  (guardV t63_60 true (M.lift (padd 20 t5_8))).bind fun t64_61 =>
  (guardV t63_60 true (load1 t64_61)).bind fun t65_62 =>
  (guardV t63_60 true (M.lift ((eqV (.sc .int) true t65_62 (V.int .i64 0)).bind fun b => some (.bool !b)))).bind fun t66_63 =>
  (guardV t59_56 false (M.lift (pickV t63_60 t66_63 (V.bool false)))).bind fun t67_64 =>
  (M.lift (pickV t59_56 (V.bool true) t67_64)).bind fun t68_65 =>
  (condV t68_65
   ((M.ret (V.bool false)).bind fun t4_66 =>
  M.ret (Ex.ret, [t4_66]))
   ((M.ret (V.int .i64 0)).bind fun t6_67 =>
  (M.lift (padd 17 t5_8)).bind fun t69_68 =>
  (load1 t69_68).bind fun t70_69 =>
  (M.lift ((eqV (.sc .int) true t70_69 (V.int .i64 1)).bind fun b => some (.bool b))).bind fun t71_70 =>
  (condV t71_70
   ((M.ret (V.int .i64 1)).bind fun t6_104 =>
  ferry_ferryref09_goodProc_j1 G call t2_1 x1 t5_8 t6_104)
   (ferry_ferryref09_goodProc_j1 G call t2_1 x1 t5_8 t6_67))))))

theorem ferry_ferryref09_goodProc_eq (G : Nat → Option (List V)) (n : Nat) (x0 : V) (x1 : V) : sem (cfg G) (n + 1) 82 [x0, x1] = outV (ferry_ferryref09_goodProc G (sem (cfg G) n) x0 x1) :=
  (fnV_at (C := cfg G) (n := n) (f := 82) (fn := Tryd.f82) (c := Tryd.f82.body.getD .skip) (by kernel_rfl) (by kernel_rfl) (by kernel_rfl) [x0, x1]).trans (by kernel_rfl)

noncomputable def ferry_ferryref09_ahead (G : Nat → Option (List V)) (call : FuncId → List V → M V) (x0 : V) (x1 : V) : M R :=
  (newV x0).bind fun t2_1 =>
  (newV x1).bind fun t3_2 =>
  (M.ret (V.bool false)).bind fun t4_3 =>
  (M.lift (padd 1 t2_1)).bind fun t5_4 =>
  (load1 t5_4).bind fun t6_5 =>
  (M.lift (padd 1 t3_2)).bind fun t7_6 =>
  (load1 t7_6).bind fun t8_7 =>
  (M.lift (arithV .lss t6_5 t8_7)).bind fun t9_8 =>
  (M.ret t9_8).bind fun t10_9 =>
  (guardV t10_9 false (M.lift (padd 1 t2_1))).bind fun t11_10 =>
  (guardV t10_9 false (load1 t11_10)).bind fun t12_11 =>
  (guardV t10_9 false (M.lift (padd 1 t3_2))).bind fun t13_12 =>
  (guardV t10_9 false (load1 t13_12)).bind fun t14_13 =>
  (guardV t10_9 false (M.lift ((eqV (.sc .int) false t12_11 t14_13).bind fun b => some (.bool b)))).bind fun t15_14 =>
  (guardV t10_9 false (M.ret t15_14)).bind fun t16_15 =>
  (guardV t16_15 true (M.lift (padd 0 t2_1))).bind fun t17_16 =>
  (guardV t16_15 true (load1 t17_16)).bind fun t18_17 =>
  (guardV t16_15 true (M.lift (padd 0 t3_2))).bind fun t19_18 =>
  (guardV t16_15 true (load1 t19_18)).bind fun t20_19 =>
  (guardV t16_15 true (M.lift (arithV .lss t18_17 t20_19))).bind fun t21_20 =>
  (guardV t10_9 false (M.lift (pickV t16_15 t21_20 (V.bool false)))).bind fun t22_21 =>
  (M.lift (pickV t10_9 (V.bool true) t22_21)).bind fun t23_22 =>
  (M.ret t23_22).bind fun t4_23 =>
  M.ret (Ex.ret, [t4_23])

theorem ferry_ferryref09_ahead_eq (G : Nat → Option (List V)) (n : Nat) (x0 : V) (x1 : V) : sem (cfg G) (n + 1) 80 [x0, x1] = outV (ferry_ferryref09_ahead G (sem (cfg G) n) x0 x1) :=
  (fnV_at (C := cfg G) (n := n) (f := 80) (fn := Tryd.f80) (c := Tryd.f80.body.getD .skip) (by kernel_rfl) (by kernel_rfl) (by kernel_rfl) [x0, x1]).trans (by kernel_rfl)

noncomputable def ferry_ferryref09_Good_l1 (G : Nat → Option (List V)) (call : FuncId → List V → M V) (t1_1 : V) (s0_21 : List V) : M R :=
  (M.ret (s0_21.getD 1 V.undef)).bind fun t23_22 =>
  (M.lift (padd 0 t1_1)).bind fun t24_23 =>
  (load1 t24_23).bind fun t25_24 =>
  (M.lift (lenV t25_24)).bind fun t26_25 =>
  (M.lift (arithV .lss t23_22 t26_25)).bind fun t27_26 =>
  (condV t27_26
   ((loadN 3 t1_1).bind fun t30_27 =>
  (M.ret (s0_21.getD 1 V.undef)).bind fun t31_28 =>
  (callV (cfg G) call 82 [t30_27, t31_28]).bind fun t32_29 =>
  (M.lift (unV .not t32_29)).bind fun t33_30 =>
  (condV t33_30
   ((M.ret (V.bool false)).bind fun t2_31 =>
  M.ret (Ex.ret, [t2_31, (s0_21.getD 1 V.undef)]))
   ((M.ret (s0_21.getD 1 V.undef)).bind fun t28_32 =>
  (M.lift (arithV .add t28_32 (V.int .i64 1))).bind fun t29_33 =>
  (M.ret t29_33).bind fun t3_34 =>
  M.ret (Ex.normal, [(s0_21.getD 0 V.undef), t3_34]))))
   (M.ret ((Ex.exit 0), [(s0_21.getD 0 V.undef), (s0_21.getD 1 V.undef)])))

noncomputable def ferry_ferryref09_Good_l2 (G : Nat → Option (List V)) (call : FuncId → List V → M V) (t1_1 : V) (s0_38 : List V) : M R :=
  (M.ret (s0_38.getD 1 V.undef)).bind fun t34_39 =>
  (M.lift (padd 1 t1_1)).bind fun t35_40 =>
  (load1 t35_40).bind fun t36_41 =>
  (M.lift (lenV t36_41)).bind fun t37_42 =>
  (M.lift (arithV .lss t34_39 t37_42)).bind fun t38_43 =>
  (condV t38_43
   (((M.lift (padd 1 t1_1)).bind fun y0_44 =>
  (load1 y0_44).bind fun y1_45 =>
  (M.ret (s0_38.getD 1 V.undef)).bind fun y2_46 =>
  (M.lift (idxV 1 y1_45 y2_46)).bind fun y3_47 =>
  (load1 y3_47).bind fun y4_48 =>
  (M.lift (arithV .lss y4_48 (V.int .i64 0))).bind fun y5_49 =>
  (M.ret y5_49).bind fun y6_50 =>
  (guardV y6_50 false (M.lift (padd 1 t1_1))).bind fun y7_51 =>
  (guardV y6_50 false (load1 y7_51)).bind fun y8_52 =>
  (guardV y6_50 false (M.ret (s0_38.getD 1 V.undef))).bind fun y9_53 =>
  (guardV y6_50 false (M.lift (idxV 1 y8_52 y9_53))).bind fun y10_54 =>
  (guardV y6_50 false (load1 y10_54)).bind fun y11_55 =>
  (guardV y6_50 false (M.lift (padd 0 t1_1))).bind fun y12_56 =>
  (guardV y6_50 false (load1 y12_56)).bind fun y13_57 =>
  (guardV y6_50 false (M.lift (lenV y13_57))).bind fun y14_58 =>
  (guardV y6_50 false (M.lift (arithV .geq y11_55 y14_58))).bind fun y15_59 =>
  (M.lift (pickV y6_50 (V.bool true) y15_59)).bind fun y16_60 =>
  (condV y16_60
   ((M.ret (V.bool false)).bind fun t2_61 =>
  M.ret (Ex.ret, [t2_61, (s0_38.getD 1 V.undef)]))
   ((M.ret (s0_38.getD 1 V.undef)).bind fun t39_62 =>
  (M.lift (arithV .add t39_62 (V.int .i64 1))).bind fun t40_63 =>
  (M.ret t40_63).bind fun t4_64 =>
  M.ret (Ex.normal, [(s0_38.getD 0 V.undef), t4_64])))))
   (M.ret ((Ex.exit 2), [(s0_38.getD 0 V.undef), (s0_38.getD 1 V.undef)])))

noncomputable def ferry_ferryref09_Good_l3 (G : Nat → Option (List V)) (call : FuncId → List V → M V) (t1_1 : V) (s0_68 : List V) : M R :=
  (M.ret (s0_68.getD 1 V.undef)).bind fun t58_69 =>
  (M.lift (padd 2 t1_1)).bind fun t59_70 =>
  (load1 t59_70).bind fun t60_71 =>
  (M.lift (lenV t60_71)).bind fun t61_72 =>
  (M.lift (arithV .lss t58_69 t61_72)).bind fun t62_73 =>
  (condV t62_73
   ((M.lift (padd 2 t1_1)).bind fun t65_74 =>
  (load1 t65_74).bind fun t66_75 =>
  (M.ret (s0_68.getD 1 V.undef)).bind fun t67_76 =>
  (M.lift (idxV 2 t66_75 t67_76)).bind fun t68_77 =>
  (loadN 2 t68_77).bind fun t69_78 =>
  (newV (.agg [(V.int .i64 0), (V.int .i64 0)])).bind fun t6_79 =>
  (storeN 2 t6_79 t69_78).bind fun _ =>
  (M.lift (padd 0 t6_79)).bind fun t70_80 =>
  (load1 t70_80).bind fun t71_81 =>
  (M.lift (arithV .lss t71_81 (V.int .i64 0))).bind fun t72_82 =>
  (M.ret t72_82).bind fun t73_83 =>
  (guardV t73_83 false (M.lift (padd 0 t6_79))).bind fun t74_84 =>
  (guardV t73_83 false (load1 t74_84)).bind fun t75_85 =>
  (guardV t73_83 false (M.lift (padd 0 t1_1))).bind fun t76_86 =>
  (guardV t73_83 false (load1 t76_86)).bind fun t77_87 =>
  (guardV t73_83 false (M.lift (lenV t77_87))).bind fun t78_88 =>
  (guardV t73_83 false (M.lift (arithV .geq t75_85 t78_88))).bind fun t79_89 =>
  (M.lift (pickV t73_83 (V.bool true) t79_89)).bind fun t80_90 =>
  (M.ret t80_90).bind fun t81_91 =>
  (guardV t81_91 false (M.lift (padd 1 t6_79))).bind fun t82_92 =>
  (guardV t81_91 false (load1 t82_92)).bind fun t83_93 =>
  (guardV t81_91 false (M.lift (arithV .lss t83_93 (V.int .i64 0)))).bind fun t84_94 =>
  (M.lift (pickV t81_91 (V.bool true) t84_94)).bind fun t85_95 =>
  (M.ret t85_95).bind fun t86_96 =>
  (guardV t86_96 false (M.lift (padd 1 t6_79))).bind fun t87_97 =>
  (guardV t86_96 false (load1 t87_97)).bind fun t88_98 =>
  (guardV t86_96 false (M.lift (arithV .gtr t88_98 (V.int .i64 1010000)))).bind fun t89_99 =>
  (M.lift (pickV t86_96 (V.bool true) t89_99)).bind fun t90_100 =>
  (condV t90_100
   ((M.ret (V.bool false)).bind fun t2_101 =>
  M.ret (Ex.ret, [t2_101, (s0_68.getD 1 V.undef)]))
   ((getN.bind fun n_102 =>
  (M.ret (s0_68.getD 1 V.undef)).bind fun y0_103 =>
  getN.bind fun n_104 =>
  (M.lift (arithV .gtr y0_103 (V.int .i64 0))).bind fun y1_105 =>
  getN.bind fun n_106 =>
  (M.ret y1_105).bind fun y2_107 =>
  getN.bind fun n_108 =>
  (guardV y2_107 true (M.lift (padd 2 t1_1))).bind fun y3_109 =>
  getN.bind fun n_110 =>
  (guardV y2_107 true (load1 y3_109)).bind fun y4_111 =>
  getN.bind fun n_112 =>
  (guardV y2_107 true (M.ret (s0_68.getD 1 V.undef))).bind fun y5_113 =>
  getN.bind fun n_114 =>
  (guardV y2_107 true (M.lift (arithV .sub y5_113 (V.int .i64 1)))).bind fun y6_115 =>
  getN.bind fun n_116 =>
  (guardV y2_107 true (M.lift (idxV 2 y4_111 y6_115))).bind fun y7_117 =>
  getN.bind fun n_118 =>
  (guardV y2_107 true (loadN 2 y7_117)).bind fun y8_119 =>
  getN.bind fun n_120 =>
  (guardV y2_107 true (loadN 2 t6_79)).bind fun y9_121 =>
  getN.bind fun n_122 =>
  (qrun (visB n_102 [(n_120, n_122, true), (n_118, n_120, true), (n_116, n_118, true), (n_114, n_116, true), (n_112, n_114, true), (n_110, n_112, true), (n_108, n_110, true), (n_106, n_108, true), (n_104, n_106, true), (n_102, n_104, true)]) (guardV y2_107 true (callV (cfg G) call 80 [y8_119, y9_121]))).bind fun y10_123 =>
  (guardV y2_107 true (M.lift (unV .not y10_123))).bind fun y11_124 =>
  (M.lift (pickV y2_107 y11_124 (V.bool false))).bind fun y12_125 =>
  (condV y12_125
   ((M.ret (V.bool false)).bind fun t2_126 =>
  M.ret (Ex.ret, [t2_126, (s0_68.getD 1 V.undef)]))
   ((M.ret (s0_68.getD 1 V.undef)).bind fun t63_127 =>
  (M.lift (arithV .add t63_127 (V.int .i64 1))).bind fun t64_128 =>
  (M.ret t64_128).bind fun t5_129 =>
  M.ret (Ex.normal, [(s0_68.getD 0 V.undef), t5_129])))))))
   (M.ret ((Ex.exit 4), [(s0_68.getD 0 V.undef), (s0_68.getD 1 V.undef)])))

noncomputable def ferry_ferryref09_Good (G : Nat → Option (List V)) (call : FuncId → List V → M V) (x0 : V) : M R :=
  (newV x0).bind fun t1_1 =>
  (M.ret (V.bool false)).bind fun t2_2 =>
  (M.lift (padd 0 t1_1)).bind fun t7_3 =>
  (load1 t7_3).bind fun t8_4 =>
  (M.lift (lenV t8_4)).bind fun t9_5 =>
  (M.lift (arithV .gtr t9_5 (V.int .i64 8))).bind fun t10_6 =>
  (M.ret t10_6).bind fun t11_7 =>
  (guardV t11_7 false (M.lift (padd 1 t1_1))).bind fun t12_8 =>
  (guardV t11_7 false (load1 t12_8)).bind fun t13_9 =>
  (guardV t11_7 false (M.lift (lenV t13_9))).bind fun t14_10 =>
  (guardV t11_7 false (M.lift (arithV .gtr t14_10 (V.int .i64 8)))).bind fun t15_11 =>
  (M.lift (pickV t11_7 (V.bool true) t15_11)).bind fun t16_12 =>
  (M.ret t16_12).bind fun t17_13 =>
  (guardV t17_13 false (M.lift (padd 2 t1_1))).bind fun t18_14 =>
  (guardV t17_13 false (load1 t18_14)).bind fun t19_15 =>
  (guardV t17_13 false (M.lift (lenV t19_15))).bind fun t20_16 =>
  (guardV t17_13 false (M.lift (arithV .gtr t20_16 (V.int .i64 8)))).bind fun t21_17 =>
  (M.lift (pickV t17_13 (V.bool true) t21_17)).bind fun t22_18 =>
  (condV t22_18
   ((M.ret (V.bool false)).bind fun t2_19 =>
  M.ret (Ex.ret, [t2_19]))
   ((M.ret (V.int .i64 0)).bind fun t3_20 =>
  (loopV (ferry_ferryref09_Good_l1 G call t1_1) [t2_2, t3_20]).bind fun r0_35 => match r0_35.1 with
  | .normal => M.fail
  | .exit k0_36 =>
    (if k0_36 = 0 then
    (M.ret (V.int .i64 0)).bind fun t4_37 =>
    (loopV (ferry_ferryref09_Good_l2 G call t1_1) [(r0_35.2.getD 0 V.undef), t4_37]).bind fun r0_65 => match r0_65.1 with
    | .normal => M.fail
    | .exit k0_66 =>
      (if k0_66 = 2 then
      (M.ret (V.int .i64 0)).bind fun t5_67 =>
      (loopV (ferry_ferryref09_Good_l3 G call t1_1) [(r0_65.2.getD 0 V.undef), t5_67]).bind fun r0_130 => match r0_130.1 with
      | .normal => M.fail
      | .exit k0_131 =>
        (if k0_131 = 4 then
        (M.ret (V.bool true)).bind fun t2_132 =>
        M.ret (Ex.ret, [t2_132])
        else M.fail)
      | .ret =>
        M.ret (Ex.ret, [(r0_130.2.getD 0 V.undef)])
      else M.fail)
    | .ret =>
      M.ret (Ex.ret, [(r0_65.2.getD 0 V.undef)])
    else M.fail)
  | .ret =>
    M.ret (Ex.ret, [(r0_35.2.getD 0 V.undef)])))

theorem ferry_ferryref09_Good_eq (G : Nat → Option (List V)) (n : Nat) (x0 : V) : sem (cfg G) (n + 1) 48 [x0] = outV (ferry_ferryref09_Good G (sem (cfg G) n) x0) :=
  (fnV_at (C := cfg G) (n := n) (f := 48) (fn := Tryd.f48) (c := Tryd.f48.body.getD .skip) (by kernel_rfl) (by kernel_rfl) (by kernel_rfl) [x0]).trans (by kernel_rfl)

noncomputable def ferry_ferrylaw09_to (G : Nat → Option (List V)) (call : FuncId → List V → M V) (x0 : V) : M R :=
  (newV x0).bind fun t1_1 =>
  (newV (.agg [V.nils, V.nils, V.nils])).bind fun t2_2 =>
  (M.lift (padd 0 t1_1)).bind fun t3_3 =>
  (load1 t3_3).bind fun t4_4 =>
  (M.lift (padd 1 t1_1)).bind fun t5_5 =>
  (load1 t5_5).bind fun t6_6 =>
  (M.lift (padd 2 t1_1)).bind fun t7_7 =>
  (load1 t7_7).bind fun t8_8 =>
  (M.lift (buildV [V.nils, V.nils, V.nils] [(0, 1, t4_4), (1, 1, t6_6), (2, 1, t8_8)])).bind fun t9_9 =>
  (storeN 3 t2_2 t9_9).bind fun _ =>
  (((loadN 3 t2_2)).bind fun v => (M.ret []).bind fun l => M.ret (v :: l)).bind fun l => M.ret (Ex.ret, tupV l)

theorem ferry_ferrylaw09_to_eq (G : Nat → Option (List V)) (n : Nat) (x0 : V) : sem (cfg G) (n + 1) 33 [x0] = outV (ferry_ferrylaw09_to G (sem (cfg G) n) x0) :=
  (fnV_at (C := cfg G) (n := n) (f := 33) (fn := Tryd.f33) (c := Tryd.f33.body.getD .skip) (by kernel_rfl) (by kernel_rfl) (by kernel_rfl) [x0]).trans (by kernel_rfl)

noncomputable def ferry_ferrylaw09_from (G : Nat → Option (List V)) (call : FuncId → List V → M V) (x0 : V) : M R :=
  (newV x0).bind fun t1_1 =>
  (newV (.agg [V.nils, V.nils, V.nils])).bind fun t2_2 =>
  (M.lift (padd 0 t1_1)).bind fun t3_3 =>
  (load1 t3_3).bind fun t4_4 =>
  (M.lift (padd 1 t1_1)).bind fun t5_5 =>
  (load1 t5_5).bind fun t6_6 =>
  (M.lift (padd 2 t1_1)).bind fun t7_7 =>
  (load1 t7_7).bind fun t8_8 =>
  (M.lift (buildV [V.nils, V.nils, V.nils] [(0, 1, t4_4), (1, 1, t6_6), (2, 1, t8_8)])).bind fun t9_9 =>
  (storeN 3 t2_2 t9_9).bind fun _ =>
  (((loadN 3 t2_2)).bind fun v => (M.ret []).bind fun l => M.ret (v :: l)).bind fun l => M.ret (Ex.ret, tupV l)

theorem ferry_ferrylaw09_from_eq (G : Nat → Option (List V)) (n : Nat) (x0 : V) : sem (cfg G) (n + 1) 49 [x0] = outV (ferry_ferrylaw09_from G (sem (cfg G) n) x0) :=
  (fnV_at (C := cfg G) (n := n) (f := 49) (fn := Tryd.f49) (c := Tryd.f49.body.getD .skip) (by kernel_rfl) (by kernel_rfl) (by kernel_rfl) [x0]).trans (by kernel_rfl)

noncomputable def ferry_ferrylaw09_some (G : Nat → Option (List V)) (call : FuncId → List V → M V)  : M R :=
  (newV (.agg [V.nils, V.nils, V.nils])).bind fun t0_1 =>
  (M.lift (buildV [(V.int .u32 0), (V.int .u32 0), (V.int .u32 0), (V.int .u32 0), (V.int .u32 0), (V.int .u32 0), (V.int .u32 0), (V.int .u32 0), (V.int .u32 0), (V.int .u32 0), (V.int .u32 0), (V.int .u32 0), (V.int .u32 0), (V.int .u32 0), (V.int .u32 0), (V.int .u32 0), (V.int .u32 0), (V.int .i64 0), (V.int .i64 0), (V.int .i64 0), (V.int .i64 0)] [(17, 1, (V.int .i64 1)), (18, 1, (V.int .i64 5))])).bind fun t1_2 =>
  (M.lift (buildV [(V.int .u32 0), (V.int .u32 0), (V.int .u32 0), (V.int .u32 0), (V.int .u32 0), (V.int .u32 0), (V.int .u32 0), (V.int .u32 0), (V.int .u32 0), (V.int .u32 0), (V.int .u32 0), (V.int .u32 0), (V.int .u32 0), (V.int .u32 0), (V.int .u32 0), (V.int .u32 0), (V.int .u32 0), (V.int .i64 0), (V.int .i64 0), (V.int .i64 0), (V.int .i64 0)] [(17, 1, (V.int .i64 1)), (18, 1, (V.int .i64 5))])).bind fun t2_3 =>
  (M.lift (buildV [(V.int .u32 0), (V.int .u32 0), (V.int .u32 0), (V.int .u32 0), (V.int .u32 0), (V.int .u32 0), (V.int .u32 0), (V.int .u32 0), (V.int .u32 0), (V.int .u32 0), (V.int .u32 0), (V.int .u32 0), (V.int .u32 0), (V.int .u32 0), (V.int .u32 0), (V.int .u32 0), (V.int .u32 0), (V.int .i64 0), (V.int .i64 0), (V.int .i64 0), (V.int .i64 0)] [(17, 1, (V.int .i64 2)), (19, 1, (V.int .i64 3)), (20, 1, (V.int .i64 1)), (18, 1, (V.int .i64 3))])).bind fun t3_4 =>
  (M.lift (buildV [(V.int .u32 0), (V.int .u32 0), (V.int .u32 0), (V.int .u32 0), (V.int .u32 0), (V.int .u32 0), (V.int .u32 0), (V.int .u32 0), (V.int .u32 0), (V.int .u32 0), (V.int .u32 0), (V.int .u32 0), (V.int .u32 0), (V.int .u32 0), (V.int .u32 0), (V.int .u32 0), (V.int .u32 0), (V.int .i64 0), (V.int .i64 0), (V.int .i64 0), (V.int .i64 0)] [(17, 1, (V.int .i64 2)), (19, 1, (V.int .i64 1)), (18, 1, (V.int .i64 3))])).bind fun t4_5 =>
  (sliceV 21 4 [(V.int .u32 0), (V.int .u32 0), (V.int .u32 0), (V.int .u32 0), (V.int .u32 0), (V.int .u32 0), (V.int .u32 0), (V.int .u32 0), (V.int .u32 0), (V.int .u32 0), (V.int .u32 0), (V.int .u32 0), (V.int .u32 0), (V.int .u32 0), (V.int .u32 0), (V.int .u32 0), (V.int .u32 0), (V.int .i64 0), (V.int .i64 0), (V.int .i64 0), (V.int .i64 0)] [(0, t1_2), (1, t2_3), (2, t3_4), (3, t4_5)]).bind fun t5_6 =>
  (sliceV 1 2 [(V.int .i64 0)] [(0, (V.int .i64 1)), (1, (V.int .i64 0))]).bind fun t6_7 =>
  (M.lift (buildV [(V.int .i64 0), (V.int .i64 0)] [(0, 1, (V.int .i64 3)), (1, 1, (V.int .i64 10))])).bind fun t7_8 =>
  (sliceV 2 1 [(V.int .i64 0), (V.int .i64 0)] [(0, t7_8)]).bind fun t8_9 =>
  (M.lift (buildV [V.nils, V.nils, V.nils] [(0, 1, t5_6), (1, 1, t6_7), (2, 1, t8_9)])).bind fun t9_10 =>
  (storeN 3 t0_1 t9_10).bind fun _ =>
  (((loadN 3 t0_1)).bind fun v => (M.ret []).bind fun l => M.ret (v :: l)).bind fun l => M.ret (Ex.ret, tupV l)

theorem ferry_ferrylaw09_some_eq (G : Nat → Option (List V)) (n : Nat)  : sem (cfg G) (n + 1) 34 [] = outV (ferry_ferrylaw09_some G (sem (cfg G) n) ) :=
  (fnV_at (C := cfg G) (n := n) (f := 34) (fn := Tryd.f34) (c := Tryd.f34.body.getD .skip) (by kernel_rfl) (by kernel_rfl) (by kernel_rfl) []).trans (by kernel_rfl)

noncomputable def ferry_ferryref09_EqualInts_l1 (G : Nat → Option (List V)) (call : FuncId → List V → M V) (x0 : V) (x1 : V) (s0_9 : List V) : M R :=
  (M.ret (s0_9.getD 1 V.undef)).bind fun t11_10 =>
  (M.ret x0).bind fun t12_11 =>
  (M.lift (lenV t12_11)).bind fun t13_12 =>
  (M.lift (arithV .lss t11_10 t13_12)).bind fun t14_13 =>
  (condV t14_13
   (((M.ret x0).bind fun y0_14 =>
  (M.ret (s0_9.getD 1 V.undef)).bind fun y1_15 =>
  (M.lift (idxV 1 y0_14 y1_15)).bind fun y2_16 =>
  (load1 y2_16).bind fun y3_17 =>
  (M.ret x1).bind fun y4_18 =>
  (M.ret (s0_9.getD 1 V.undef)).bind fun y5_19 =>
  (M.lift (idxV 1 y4_18 y5_19)).bind fun y6_20 =>
  (load1 y6_20).bind fun y7_21 =>
  (M.lift ((eqV (.sc .int) false y3_17 y7_21).bind fun b => some (.bool !b))).bind fun y8_22 =>
  (condV y8_22
   ((M.ret (V.bool false)).bind fun t4_23 =>
  M.ret (Ex.ret, [t4_23, (s0_9.getD 1 V.undef)]))
   ((M.ret (s0_9.getD 1 V.undef)).bind fun t15_24 =>
  (M.lift (arithV .add t15_24 (V.int .i64 1))).bind fun t16_25 =>
  (M.ret t16_25).bind fun t5_26 =>
  M.ret (Ex.normal, [(s0_9.getD 0 V.undef), t5_26])))))
   (M.ret ((Ex.exit 0), [(s0_9.getD 0 V.undef), (s0_9.getD 1 V.undef)])))

noncomputable def ferry_ferryref09_EqualInts (G : Nat → Option (List V)) (call : FuncId → List V → M V) (x0 : V) (x1 : V) : M R :=
  (M.ret (V.bool false)).bind fun t4_1 =>
  (M.ret x0).bind fun t6_2 =>
  (M.lift (lenV t6_2)).bind fun t7_3 =>
  (M.ret x1).bind fun t8_4 =>
  (M.lift (lenV t8_4)).bind fun t9_5 =>
  (M.lift ((eqV (.sc .int) false t7_3 t9_5).bind fun b => some (.bool !b))).bind fun t10_6 =>
  (condV t10_6
   ((M.ret (V.bool false)).bind fun t4_7 =>
  M.ret (Ex.ret, [t4_7]))
   ((M.ret (V.int .i64 0)).bind fun t5_8 =>
  (loopV (ferry_ferryref09_EqualInts_l1 G call x0 x1) [t4_1, t5_8]).bind fun r0_27 => match r0_27.1 with
  | .normal => M.fail
  | .exit k0_28 =>
    (if k0_28 = 0 then
    (M.ret (V.bool true)).bind fun t4_29 =>
    M.ret (Ex.ret, [t4_29])
    else M.fail)
  | .ret =>
    M.ret (Ex.ret, [(r0_27.2.getD 0 V.undef)])))

theorem ferry_ferryref09_EqualInts_eq (G : Nat → Option (List V)) (n : Nat) (x0 : V) (x1 : V) : sem (cfg G) (n + 1) 36 [x0, x1] = outV (ferry_ferryref09_EqualInts G (sem (cfg G) n) x0 x1) :=
  (fnV_at (C := cfg G) (n := n) (f := 36) (fn := Tryd.f36) (c := Tryd.f36.body.getD .skip) (by kernel_rfl) (by kernel_rfl) (by kernel_rfl) [x0, x1]).trans (by kernel_rfl)

noncomputable def ferry_ferrylaw09_awake (G : Nat → Option (List V)) (call : FuncId → List V → M V)  : M R :=
  (M.ret (V.bool false)).bind fun t0_1 =>
  (callV (cfg G) call 34 []).bind fun t5_2 =>
  (callV (cfg G) call 33 [t5_2]).bind fun t6_3 =>
  (callV (cfg G) call 32 [t6_3]).bind fun t7_4 =>
  (M.ret t7_4).bind fun t4_5 =>
  (M.lift (extractV t4_5 0)).bind fun t8_6 =>
  (M.lift (extractV t4_5 1)).bind fun t9_7 =>
  (M.ret t8_6).bind fun t1_8 =>
  (M.ret t9_7).bind fun t2_9 =>
  (M.ret t2_9).bind fun t10_10 =>
  (M.lift ((eqV .iface true t10_10 V.nili).bind fun b => some (.bool !b))).bind fun t11_11 =>
  (M.ret t11_11).bind fun t12_12 =>
  (guardV t12_12 false (M.ret t1_8)).bind fun t13_13 =>
  (guardV t12_12 false (M.lift ((eqV (.sc .int) true t13_13 (V.int .i64 1)).bind fun b => some (.bool !b)))).bind fun t14_14 =>
  (M.lift (pickV t12_12 (V.bool true) t14_14)).bind fun t15_15 =>
  (condV t15_15
   ((M.ret (V.bool false)).bind fun t0_16 =>
  M.ret (Ex.ret, [t0_16]))
   ((callV (cfg G) call 34 []).bind fun t17_17 =>
  (callV (cfg G) call 33 [t17_17]).bind fun t18_18 =>
  (callV (cfg G) call 35 [t18_18, (V.int .i64 1)]).bind fun t19_19 =>
  (M.ret t19_19).bind fun t16_20 =>
  (M.lift (extractV t16_20 0)).bind fun t20_21 =>
  (M.lift (extractV t16_20 1)).bind fun t21_22 =>
  (newV (.agg [V.nils, V.nils, V.nils])).bind fun t3_23 =>
  (storeN 3 t3_23 t20_21).bind fun _ =>
  (M.ret t21_22).bind fun t2_24 =>
  (M.ret t2_24).bind fun t22_25 =>
  (M.lift ((eqV .iface true t22_25 V.nili).bind fun b => some (.bool !b))).bind fun t23_26 =>
  (M.ret t23_26).bind fun t24_27 =>
  (guardV t24_27 false (M.lift (padd 1 t3_23))).bind fun t25_28 =>
  (guardV t24_27 false (load1 t25_28)).bind fun t26_29 =>
  (guardV t24_27 false (sliceV 1 2 [(V.int .i64 0)] [(0, (V.int .i64 0)), (1, (V.int .i64 1))])).bind fun t27_30 =>
  (guardV t24_27 false (callV (cfg G) call 36 [t26_29, t27_30])).bind fun t28_31 =>
  (guardV t24_27 false (M.lift (unV .not t28_31))).bind fun t29_32 =>
  (M.lift (pickV t24_27 (V.bool true) t29_32)).bind fun t30_33 =>
  (condV t30_33
   ((M.ret (V.bool false)).bind fun t0_34 =>
  M.ret (Ex.ret, [t0_34]))
   ((loadN 3 t3_23).bind fun t32_35 =>
  (callV (cfg G) call 32 [t32_35]).bind fun t33_36 =>
  (M.ret t33_36).bind fun t31_37 =>
  (M.lift (extractV t31_37 0)).bind fun t34_38 =>
  (M.lift (extractV t31_37 1)).bind fun t35_39 =>
  (M.ret t34_38).bind fun t1_40 =>
  (M.ret t35_39).bind fun t2_41 =>
  (M.ret t2_41).bind fun t36_42 =>
  (M.lift ((eqV .iface true t36_42 V.nili).bind fun b => some (.bool b))).bind fun t37_43 =>
  (M.ret t37_43).bind fun t38_44 =>
  (guardV t38_44 true (M.ret t1_40)).bind fun t39_45 =>
  (guardV t38_44 true (M.lift ((eqV (.sc .int) true t39_45 (V.int .i64 0)).bind fun b => some (.bool b)))).bind fun t40_46 =>
  (M.lift (pickV t38_44 t40_46 (V.bool false))).bind fun t41_47 =>
  (M.ret t41_47).bind fun t0_48 =>
  M.ret (Ex.ret, [t0_48])))))

theorem ferry_ferrylaw09_awake_eq (G : Nat → Option (List V)) (n : Nat)  : sem (cfg G) (n + 1) 6 [] = outV (ferry_ferrylaw09_awake G (sem (cfg G) n) ) :=
  (fnV_at (C := cfg G) (n := n) (f := 6) (fn := Tryd.f6) (c := Tryd.f6.body.getD .skip) (by kernel_rfl) (by kernel_rfl) (by kernel_rfl) []).trans (by kernel_rfl)

end Go.Fv.Tr

/-
  The Go functions ferry/ferryref09.timers, ferry/ferryref09.count, ferry/ferryref09.goodProc, ferry/ferryref09.ahead, ferry/ferryref09.Good, ferry/ferrylaw09.to, ferry/ferrylaw09.from, ferry/ferrylaw09.some, ferry/ferryref09.EqualInts, ferry/ferrylaw09.awake, ferry/ferrylaw09.ReadyTurns as plain terms. By an AI agent; no person has read it.
-/
import Derived.Test.YtjjiphigolegbaaDoorFvCf
import Derived.Test.YtjjiphigolegbaaDoorFvW4
set_option linter.unusedVariables false
set_option linter.unusedSimpArgs false
set_option linter.unusedSectionVars false
/-! The Go functions ferry/ferryref09.timers, ferry/ferryref09.count, ferry/ferryref09.goodProc, ferry/ferryref09.ahead, ferry/ferryref09.Good, ferry/ferrylaw09.to, ferry/ferrylaw09.from, ferry/ferrylaw09.some, ferry/ferryref09.EqualInts, ferry/ferrylaw09.awake, ferry/ferrylaw09.ReadyTurns as plain terms. -/
namespace Go.Fv.Tr
open Go Go.Fv Go.Proofs
set_option linter.unusedVariables false
set_option maxRecDepth 20000

noncomputable def ferry_ferryref09_timers_j1 (G : Nat → Option (List V)) (call : FuncId → List V → M V) (s0_5 : List V) (j5_21 : V) : M R :=
  (M.ret (s0_5.getD 1 V.undef)).bind fun t12_22 =>
  (M.lift (arithV .add t12_22 (V.int .i64 1))).bind fun t13_23 =>
  (M.ret t13_23).bind fun t6_24 =>
  M.ret (Ex.normal, [j5_21, t6_24])

noncomputable def ferry_ferryref09_timers_l1 (G : Nat → Option (List V)) (call : FuncId → List V → M V) (t2_1 : V) (x1 : V) (s0_5 : List V) : M R :=
  (M.ret (s0_5.getD 1 V.undef)).bind fun t7_6 =>
  (M.lift (padd 2 t2_1)).bind fun t8_7 =>
  (load1 t8_7).bind fun t9_8 =>
  (M.lift (lenV t9_8)).bind fun t10_9 =>
  (M.lift (arithV .lss t7_6 t10_9)).bind fun t11_10 =>
  (condV t11_10
   ((M.lift (padd 2 t2_1)).bind fun t14_11 =>
  (load1 t14_11).bind fun t15_12 =>
  (M.ret (s0_5.getD 1 V.undef)).bind fun t16_13 =>
  (M.lift (idxV 2 t15_12 t16_13)).bind fun t17_14 =>
  (M.lift (padd 0 t17_14)).bind fun t18_15 =>
  (load1 t18_15).bind fun t19_16 =>
  (M.ret x1).bind fun t20_17 =>
  (M.lift ((eqV (.sc .int) false t19_16 t20_17).bind fun b => some (.bool b))).bind fun t21_18 =>
  (condV t21_18
   ((M.ret (s0_5.getD 0 V.undef)).bind fun t22_25 =>
  (M.lift (arithV .add t22_25 (V.int .i64 1))).bind fun t23_26 =>
  (M.ret t23_26).bind fun t5_27 =>
  ferry_ferryref09_timers_j1 G call s0_5 t5_27)
   (ferry_ferryref09_timers_j1 G call s0_5 (s0_5.getD 0 V.undef))))
   (M.ret ((Ex.exit 0), [(s0_5.getD 0 V.undef), (s0_5.getD 1 V.undef)])))

noncomputable def ferry_ferryref09_timers (G : Nat → Option (List V)) (call : FuncId → List V → M V) (x0 : V) (x1 : V) : M R :=
  (newV x0).bind fun t2_1 =>
  (M.ret (V.int .i64 0)).bind fun t4_2 =>
  (M.ret (V.int .i64 0)).bind fun t5_3 =>
  (M.ret (V.int .i64 0)).bind fun t6_4 =>
  (loopV (ferry_ferryref09_timers_l1 G call t2_1 x1) [t5_3, t6_4]).bind fun r0_28 => match r0_28.1 with
  | .normal => M.fail
  | .exit k0_29 =>
    (if k0_29 = 0 then
    (M.ret (r0_28.2.getD 0 V.undef)).bind fun t24_30 =>
    (M.ret t24_30).bind fun t4_31 =>
    M.ret (Ex.ret, [t4_31])
    else M.fail)
  | .ret =>
    M.ret (Ex.ret, [t4_2])

theorem ferry_ferryref09_timers_eq (G : Nat → Option (List V)) (n : Nat) (x0 : V) (x1 : V) : sem (cfg G) (n + 1) 100 [x0, x1] = outV (ferry_ferryref09_timers G (sem (cfg G) n) x0 x1) :=
  (fnV_at (C := cfg G) (n := n) (f := 100) (fn := Tryd.f100) (c := Tryd.f100.body.getD .skip) (by kernel_rfl) (by kernel_rfl) (by kernel_rfl) [x0, x1]).trans (by kernel_rfl)

noncomputable def ferry_ferryref09_count_j1 (G : Nat → Option (List V)) (call : FuncId → List V → M V) (s0_4 : List V) (j5_17 : V) : M R :=
  (M.ret (s0_4.getD 1 V.undef)).bind fun t11_18 =>
  (M.lift (arithV .add t11_18 (V.int .i64 1))).bind fun t12_19 =>
  (M.ret t12_19).bind fun t6_20 =>
  M.ret (Ex.normal, [j5_17, t6_20])

noncomputable def ferry_ferryref09_count_l1 (G : Nat → Option (List V)) (call : FuncId → List V → M V) (x0 : V) (x1 : V) (s0_4 : List V) : M R :=
  (M.ret (s0_4.getD 1 V.undef)).bind fun t7_5 =>
  (M.ret x0).bind fun t8_6 =>
  (M.lift (lenV t8_6)).bind fun t9_7 =>
  (M.lift (arithV .lss t7_5 t9_7)).bind fun t10_8 =>
  (condV t10_8
   ((M.ret x0).bind fun t13_9 =>
  (M.ret (s0_4.getD 1 V.undef)).bind fun t14_10 =>
  (M.lift (idxV 1 t13_9 t14_10)).bind fun t15_11 =>
  (load1 t15_11).bind fun t16_12 =>
  (M.ret x1).bind fun t17_13 =>
  (M.lift ((eqV (.sc .int) false t16_12 t17_13).bind fun b => some (.bool b))).bind fun t18_14 =>
  (condV t18_14
   ((M.ret (s0_4.getD 0 V.undef)).bind fun t19_21 =>
  (M.lift (arithV .add t19_21 (V.int .i64 1))).bind fun t20_22 =>
  (M.ret t20_22).bind fun t5_23 =>
  ferry_ferryref09_count_j1 G call s0_4 t5_23)
   (ferry_ferryref09_count_j1 G call s0_4 (s0_4.getD 0 V.undef))))
   (M.ret ((Ex.exit 0), [(s0_4.getD 0 V.undef), (s0_4.getD 1 V.undef)])))

noncomputable def ferry_ferryref09_count (G : Nat → Option (List V)) (call : FuncId → List V → M V) (x0 : V) (x1 : V) : M R :=
  (M.ret (V.int .i64 0)).bind fun t4_1 =>
  (M.ret (V.int .i64 0)).bind fun t5_2 =>
  (M.ret (V.int .i64 0)).bind fun t6_3 =>
  (loopV (ferry_ferryref09_count_l1 G call x0 x1) [t5_2, t6_3]).bind fun r0_24 => match r0_24.1 with
  | .normal => M.fail
  | .exit k0_25 =>
    (if k0_25 = 0 then
    (M.ret (r0_24.2.getD 0 V.undef)).bind fun t21_26 =>
    (M.ret t21_26).bind fun t4_27 =>
    M.ret (Ex.ret, [t4_27])
    else M.fail)
  | .ret =>
    M.ret (Ex.ret, [t4_1])

theorem ferry_ferryref09_count_eq (G : Nat → Option (List V)) (n : Nat) (x0 : V) (x1 : V) : sem (cfg G) (n + 1) 101 [x0, x1] = outV (ferry_ferryref09_count G (sem (cfg G) n) x0 x1) :=
  (fnV_at (C := cfg G) (n := n) (f := 101) (fn := Tryd.f101) (c := Tryd.f101.body.getD .skip) (by kernel_rfl) (by kernel_rfl) (by kernel_rfl) [x0, x1]).trans (by kernel_rfl)

noncomputable def ferry_ferryref09_goodProc_j1 (G : Nat → Option (List V)) (call : FuncId → List V → M V) (t2_1 : V) (x1 : V) (t5_8 : V) (j6_71 : V) : M R :=
  (loadN 3 t2_1).bind fun t72_72 =>
  (M.ret x1).bind fun t73_73 =>
  (callV (cfg G) call 100 [t72_72, t73_73]).bind fun t74_74 =>
  (M.ret t74_74).bind fun t7_75 =>
  (M.ret t7_75).bind fun t75_76 =>
  (M.lift (arithV .gtr t75_76 (V.int .i64 1))).bind fun t76_77 =>
  (M.ret t76_77).bind fun t77_78 =>
  (guardV t77_78 false (M.ret t7_75)).bind fun t78_79 =>
  (guardV t77_78 false (M.lift ((eqV (.sc .int) true t78_79 (V.int .i64 1)).bind fun b => some (.bool b)))).bind fun t79_80 =>
  (guardV t77_78 false (M.ret t79_80)).bind fun t80_81 =>
  (guardV t80_81 true (M.lift (padd 17 t5_8))).bind fun t81_82 =>
  (guardV t80_81 true (load1 t81_82)).bind fun t82_83 =>
  (guardV t80_81 true (M.lift ((eqV (.sc .int) true t82_83 (V.int .i64 2)).bind fun b => some (.bool !b)))).bind fun t83_84 =>
  (guardV t77_78 false (M.lift (pickV t80_81 t83_84 (V.bool false)))).bind fun t84_85 =>
  (M.lift (pickV t77_78 (V.bool true) t84_85)).bind fun t85_86 =>
  (M.ret t85_86).bind fun t86_87 =>
  (guardV t86_87 false (M.ret t7_75)).bind fun t87_88 =>
  (guardV t86_87 false (M.lift ((eqV (.sc .int) true t87_88 (V.int .i64 0)).bind fun b => some (.bool b)))).bind fun t88_89 =>
  (guardV t86_87 false (M.ret t88_89)).bind fun t89_90 =>
  (guardV t89_90 true (M.lift (padd 19 t5_8))).bind fun t90_91 =>
  (guardV t89_90 true (load1 t90_91)).bind fun t91_92 =>
  (guardV t89_90 true (M.lift ((eqV (.sc .int) true t91_92 (V.int .i64 1)).bind fun b => some (.bool b)))).bind fun t92_93 =>
  (guardV t86_87 false (M.lift (pickV t89_90 t92_93 (V.bool false)))).bind fun t93_94 =>
  (M.lift (pickV t86_87 (V.bool true) t93_94)).bind fun t94_95 =>
  (condV t94_95
   ((M.ret (V.bool false)).bind fun t4_96 =>
  M.ret (Ex.ret, [t4_96]))
   ((M.lift (padd 1 t2_1)).bind fun t95_97 =>
  (load1 t95_97).bind fun t96_98 =>
  (M.ret x1).bind fun t97_99 =>
  (callV (cfg G) call 101 [t96_98, t97_99]).bind fun t98_100 =>
  (M.ret j6_71).bind fun t99_101 =>
  (M.lift ((eqV (.sc .int) false t98_100 t99_101).bind fun b => some (.bool b))).bind fun t100_102 =>
  (M.ret t100_102).bind fun t4_103 =>
  M.ret (Ex.ret, [t4_103])))

noncomputable def ferry_ferryref09_goodProc (G : Nat → Option (List V)) (call : FuncId → List V → M V) (x0 : V) (x1 : V) : M R :=
  (newV x0).bind fun t2_1 =>
  (M.ret (V.bool false)).bind fun t4_2 =>
  (M.lift (padd 0 t2_1)).bind fun t8_3 =>
  (load1 t8_3).bind fun t9_4 =>
  (M.ret x1).bind fun t10_5 =>
  (M.lift (idxV 21 t9_4 t10_5)).bind fun t11_6 =>
  (loadN 21 t11_6).bind fun t12_7 =>
  (newV (.agg [(V.int .u32 0), (V.int .u32 0), (V.int .u32 0), (V.int .u32 0), (V.int .u32 0), (V.int .u32 0), (V.int .u32 0), (V.int .u32 0), (V.int .u32 0), (V.int .u32 0), (V.int .u32 0), (V.int .u32 0), (V.int .u32 0), (V.int .u32 0), (V.int .u32 0), (V.int .u32 0), (V.int .u32 0), (V.int .i64 0), (V.int .i64 0), (V.int .i64 0), (V.int .i64 0)])).bind fun t5_8 =>
  (storeN 21 t5_8 t12_7).bind fun _ =>
  (M.lift (padd 0 t5_8)).bind fun t13_9 =>
  (M.lift (aidxV 16 1 t13_9 (V.int .i64 0))).bind fun t14_10 =>
  (load1 t14_10).bind fun t15_11 =>
  (M.lift ((eqV (.sc .int) true t15_11 (V.int .u32 0)).bind fun b => some (.bool !b))).bind fun t16_12 =>
  (M.ret t16_12).bind fun t17_13 =>
  (guardV t17_13 false (M.lift (padd 17 t5_8))).bind fun t18_14 =>
  (guardV t17_13 false (load1 t18_14)).bind fun t19_15 =>
  (guardV t17_13 false (M.lift (arithV .lss t19_15 (V.int .i64 0)))).bind fun t20_16 =>
  (M.lift (pickV t17_13 (V.bool true) t20_16)).bind fun t21_17 =>
  (M.ret t21_17).bind fun t22_18 =>
  (guardV t22_18 false (M.lift (padd 17 t5_8))).bind fun t23_19 =>
  (guardV t22_18 false (load1 t23_19)).bind fun t24_20 =>
  (guardV t22_18 false (M.lift (arithV .gtr t24_20 (V.int .i64 3)))).bind fun t25_21 =>
  (M.lift (pickV t22_18 (V.bool true) t25_21)).bind fun t26_22 =>
  (M.ret t26_22).bind fun t27_23 =>
  (guardV t27_23 false (M.lift (padd 18 t5_8))).bind fun t28_24 =>
  (guardV t27_23 false (load1 t28_24)).bind fun t29_25 =>
  (guardV t27_23 false (M.lift (arithV .lss t29_25 (V.int .i64 0)))).bind fun t30_26 =>
  (M.lift (pickV t27_23 (V.bool true) t30_26)).bind fun t31_27 =>
  (M.ret t31_27).bind fun t32_28 =>
  (guardV t32_28 false (M.lift (padd 18 t5_8))).bind fun t33_29 =>
  (guardV t32_28 false (load1 t33_29)).bind fun t34_30 =>
  (guardV t32_28 false (M.lift (arithV .gtr t34_30 (V.int .i64 255)))).bind fun t35_31 =>
  (M.lift (pickV t32_28 (V.bool true) t35_31)).bind fun t36_32 =>
  (M.ret t36_32).bind fun t37_33 =>
  (guardV t37_33 false (M.lift (padd 19 t5_8))).bind fun t38_34 =>
  (guardV t37_33 false (load1 t38_34)).bind fun t39_35 =>
  (guardV t37_33 false (M.lift (arithV .lss t39_35 (V.int .i64 0)))).bind fun t40_36 =>
  (M.lift (pickV t37_33 (V.bool true) t40_36)).bind fun t41_37 =>
  (M.ret t41_37).bind fun t42_38 =>
  (guardV t42_38 false (M.lift (padd 19 t5_8))).bind fun t43_39 =>
  (guardV t42_38 false (load1 t43_39)).bind fun t44_40 =>
  (guardV t42_38 false (M.lift (arithV .gtr t44_40 (V.int .i64 4)))).bind fun t45_41 =>
  (M.lift (pickV t42_38 (V.bool true) t45_41)).bind fun t46_42 =>
  (condV t46_42
   ((M.ret (V.bool false)).bind fun t4_43 =>
  M.ret (Ex.ret, [t4_43]))
   ((M.lift (padd 19 t5_8)).bind fun t47_44 =>
  (load1 t47_44).bind fun t48_45 =>
  (M.lift ((eqV (.sc .int) true t48_45 (V.int .i64 0)).bind fun b => some (.bool !b))).bind fun t49_46 =>
  (M.lift (padd 17 t5_8)).bind fun t50_47 =>
  (load1 t50_47).bind fun t51_48 =>
  (M.lift ((eqV (.sc .int) true t51_48 (V.int .i64 2)).bind fun b => some (.bool b))).bind fun t52_49 =>
  (M.lift ((eqV (.sc .bool) false t49_46 t52_49).bind fun b => some (.bool !b))).bind fun t53_50 =>
  (M.ret t53_50).bind fun t54_51 =>
  (guardV t54_51 false (M.lift (padd 20 t5_8))).bind fun t55_52 =>
  (guardV t54_51 false (load1 t55_52)).bind fun t56_53 =>
  (guardV t54_51 false (M.lift (arithV .lss t56_53 (V.int .i64 0)))).bind fun t57_54 =>
  (M.lift (pickV t54_51 (V.bool true) t57_54)).bind fun t58_55 =>
  (M.ret t58_55).bind fun t59_56 =>
  (guardV t59_56 false (M.lift (padd 19 t5_8))).bind fun t60_57 =>
  (guardV t59_56 false (load1 t60_57)).bind fun t61_58 =>
  (guardV t59_56 false (M.lift (arithV .leq t61_58 (V.int .i64 1)))).bind fun t62_59 =>
  (guardV t59_56 false (M.ret t62_59)).bind fun t63_60 =>
  (guardV t63_60 true (M.lift (padd 20 t5_8))).bind fun t64_61 =>
  (guardV t63_60 true (load1 t64_61)).bind fun t65_62 =>
  (guardV t63_60 true (M.lift ((eqV (.sc .int) true t65_62 (V.int .i64 0)).bind fun b => some (.bool !b)))).bind fun t66_63 =>
  (guardV t59_56 false (M.lift (pickV t63_60 t66_63 (V.bool false)))).bind fun t67_64 =>
  (M.lift (pickV t59_56 (V.bool true) t67_64)).bind fun t68_65 =>
  (condV t68_65
   ((M.ret (V.bool false)).bind fun t4_66 =>
  M.ret (Ex.ret, [t4_66]))
   ((M.ret (V.int .i64 0)).bind fun t6_67 =>
  (M.lift (padd 17 t5_8)).bind fun t69_68 =>
  (load1 t69_68).bind fun t70_69 =>
  (M.lift ((eqV (.sc .int) true t70_69 (V.int .i64 1)).bind fun b => some (.bool b))).bind fun t71_70 =>
  (condV t71_70
   ((M.ret (V.int .i64 1)).bind fun t6_104 =>
  ferry_ferryref09_goodProc_j1 G call t2_1 x1 t5_8 t6_104)
   (ferry_ferryref09_goodProc_j1 G call t2_1 x1 t5_8 t6_67))))))

theorem ferry_ferryref09_goodProc_eq (G : Nat → Option (List V)) (n : Nat) (x0 : V) (x1 : V) : sem (cfg G) (n + 1) 65 [x0, x1] = outV (ferry_ferryref09_goodProc G (sem (cfg G) n) x0 x1) :=
  (fnV_at (C := cfg G) (n := n) (f := 65) (fn := Tryd.f65) (c := Tryd.f65.body.getD .skip) (by kernel_rfl) (by kernel_rfl) (by kernel_rfl) [x0, x1]).trans (by kernel_rfl)

noncomputable def ferry_ferryref09_ahead (G : Nat → Option (List V)) (call : FuncId → List V → M V) (x0 : V) (x1 : V) : M R :=
  (newV x0).bind fun t2_1 =>
  (newV x1).bind fun t3_2 =>
  (M.ret (V.bool false)).bind fun t4_3 =>
  (M.lift (padd 1 t2_1)).bind fun t5_4 =>
  (load1 t5_4).bind fun t6_5 =>
  (M.lift (padd 1 t3_2)).bind fun t7_6 =>
  (load1 t7_6).bind fun t8_7 =>
  (M.lift (arithV .lss t6_5 t8_7)).bind fun t9_8 =>
  (M.ret t9_8).bind fun t10_9 =>
  (guardV t10_9 false (M.lift (padd 1 t2_1))).bind fun t11_10 =>
  (guardV t10_9 false (load1 t11_10)).bind fun t12_11 =>
  (guardV t10_9 false (M.lift (padd 1 t3_2))).bind fun t13_12 =>
  (guardV t10_9 false (load1 t13_12)).bind fun t14_13 =>
  (guardV t10_9 false (M.lift ((eqV (.sc .int) false t12_11 t14_13).bind fun b => some (.bool b)))).bind fun t15_14 =>
  (guardV t10_9 false (M.ret t15_14)).bind fun t16_15 =>
  (guardV t16_15 true (M.lift (padd 0 t2_1))).bind fun t17_16 =>
  (guardV t16_15 true (load1 t17_16)).bind fun t18_17 =>
  (guardV t16_15 true (M.lift (padd 0 t3_2))).bind fun t19_18 =>
  (guardV t16_15 true (load1 t19_18)).bind fun t20_19 =>
  (guardV t16_15 true (M.lift (arithV .lss t18_17 t20_19))).bind fun t21_20 =>
  (guardV t10_9 false (M.lift (pickV t16_15 t21_20 (V.bool false)))).bind fun t22_21 =>
  (M.lift (pickV t10_9 (V.bool true) t22_21)).bind fun t23_22 =>
  (M.ret t23_22).bind fun t4_23 =>
  M.ret (Ex.ret, [t4_23])

theorem ferry_ferryref09_ahead_eq (G : Nat → Option (List V)) (n : Nat) (x0 : V) (x1 : V) : sem (cfg G) (n + 1) 66 [x0, x1] = outV (ferry_ferryref09_ahead G (sem (cfg G) n) x0 x1) :=
  (fnV_at (C := cfg G) (n := n) (f := 66) (fn := Tryd.f66) (c := Tryd.f66.body.getD .skip) (by kernel_rfl) (by kernel_rfl) (by kernel_rfl) [x0, x1]).trans (by kernel_rfl)

noncomputable def ferry_ferryref09_Good_l1 (G : Nat → Option (List V)) (call : FuncId → List V → M V) (t1_1 : V) (s0_21 : List V) : M R :=
  (M.ret (s0_21.getD 1 V.undef)).bind fun t23_22 =>
  (M.lift (padd 0 t1_1)).bind fun t24_23 =>
  (load1 t24_23).bind fun t25_24 =>
  (M.lift (lenV t25_24)).bind fun t26_25 =>
  (M.lift (arithV .lss t23_22 t26_25)).bind fun t27_26 =>
  (condV t27_26
   ((loadN 3 t1_1).bind fun t30_27 =>
  (M.ret (s0_21.getD 1 V.undef)).bind fun t31_28 =>
  (callV (cfg G) call 65 [t30_27, t31_28]).bind fun t32_29 =>
  (M.lift (unV .not t32_29)).bind fun t33_30 =>
  (condV t33_30
   ((M.ret (V.bool false)).bind fun t2_31 =>
  M.ret (Ex.ret, [t2_31, (s0_21.getD 1 V.undef)]))
   ((M.ret (s0_21.getD 1 V.undef)).bind fun t28_32 =>
  (M.lift (arithV .add t28_32 (V.int .i64 1))).bind fun t29_33 =>
  (M.ret t29_33).bind fun t3_34 =>
  M.ret (Ex.normal, [(s0_21.getD 0 V.undef), t3_34]))))
   (M.ret ((Ex.exit 0), [(s0_21.getD 0 V.undef), (s0_21.getD 1 V.undef)])))

noncomputable def ferry_ferryref09_Good_l2 (G : Nat → Option (List V)) (call : FuncId → List V → M V) (t1_1 : V) (s0_38 : List V) : M R :=
  (M.ret (s0_38.getD 1 V.undef)).bind fun t34_39 =>
  (M.lift (padd 1 t1_1)).bind fun t35_40 =>
  (load1 t35_40).bind fun t36_41 =>
  (M.lift (lenV t36_41)).bind fun t37_42 =>
  (M.lift (arithV .lss t34_39 t37_42)).bind fun t38_43 =>
  (condV t38_43
   (((M.lift (padd 1 t1_1)).bind fun y0_44 =>
  (load1 y0_44).bind fun y1_45 =>
  (M.ret (s0_38.getD 1 V.undef)).bind fun y2_46 =>
  (M.lift (idxV 1 y1_45 y2_46)).bind fun y3_47 =>
  (load1 y3_47).bind fun y4_48 =>
  (M.lift (arithV .lss y4_48 (V.int .i64 0))).bind fun y5_49 =>
  (M.ret y5_49).bind fun y6_50 =>
  (guardV y6_50 false (M.lift (padd 1 t1_1))).bind fun y7_51 =>
  (guardV y6_50 false (load1 y7_51)).bind fun y8_52 =>
  (guardV y6_50 false (M.ret (s0_38.getD 1 V.undef))).bind fun y9_53 =>
  (guardV y6_50 false (M.lift (idxV 1 y8_52 y9_53))).bind fun y10_54 =>
  (guardV y6_50 false (load1 y10_54)).bind fun y11_55 =>
  (guardV y6_50 false (M.lift (padd 0 t1_1))).bind fun y12_56 =>
  (guardV y6_50 false (load1 y12_56)).bind fun y13_57 =>
  (guardV y6_50 false (M.lift (lenV y13_57))).bind fun y14_58 =>
  (guardV y6_50 false (M.lift (arithV .geq y11_55 y14_58))).bind fun y15_59 =>
  (M.lift (pickV y6_50 (V.bool true) y15_59)).bind fun y16_60 =>
  (condV y16_60
   ((M.ret (V.bool false)).bind fun t2_61 =>
  M.ret (Ex.ret, [t2_61, (s0_38.getD 1 V.undef)]))
   ((M.ret (s0_38.getD 1 V.undef)).bind fun t39_62 =>
  (M.lift (arithV .add t39_62 (V.int .i64 1))).bind fun t40_63 =>
  (M.ret t40_63).bind fun t4_64 =>
  M.ret (Ex.normal, [(s0_38.getD 0 V.undef), t4_64])))))
   (M.ret ((Ex.exit 2), [(s0_38.getD 0 V.undef), (s0_38.getD 1 V.undef)])))

noncomputable def ferry_ferryref09_Good_l3 (G : Nat → Option (List V)) (call : FuncId → List V → M V) (t1_1 : V) (s0_68 : List V) : M R :=
  (M.ret (s0_68.getD 1 V.undef)).bind fun t58_69 =>
  (M.lift (padd 2 t1_1)).bind fun t59_70 =>
  (load1 t59_70).bind fun t60_71 =>
  (M.lift (lenV t60_71)).bind fun t61_72 =>
  (M.lift (arithV .lss t58_69 t61_72)).bind fun t62_73 =>
  (condV t62_73
   ((M.lift (padd 2 t1_1)).bind fun t65_74 =>
  (load1 t65_74).bind fun t66_75 =>
  (M.ret (s0_68.getD 1 V.undef)).bind fun t67_76 =>
  (M.lift (idxV 2 t66_75 t67_76)).bind fun t68_77 =>
  (loadN 2 t68_77).bind fun t69_78 =>
  (newV (.agg [(V.int .i64 0), (V.int .i64 0)])).bind fun t6_79 =>
  (storeN 2 t6_79 t69_78).bind fun _ =>
  (M.lift (padd 0 t6_79)).bind fun t70_80 =>
  (load1 t70_80).bind fun t71_81 =>
  (M.lift (arithV .lss t71_81 (V.int .i64 0))).bind fun t72_82 =>
  (M.ret t72_82).bind fun t73_83 =>
  (guardV t73_83 false (M.lift (padd 0 t6_79))).bind fun t74_84 =>
  (guardV t73_83 false (load1 t74_84)).bind fun t75_85 =>
  (guardV t73_83 false (M.lift (padd 0 t1_1))).bind fun t76_86 =>
  (guardV t73_83 false (load1 t76_86)).bind fun t77_87 =>
  (guardV t73_83 false (M.lift (lenV t77_87))).bind fun t78_88 =>
  (guardV t73_83 false (M.lift (arithV .geq t75_85 t78_88))).bind fun t79_89 =>
  (M.lift (pickV t73_83 (V.bool true) t79_89)).bind fun t80_90 =>
  (M.ret t80_90).bind fun t81_91 =>
  (guardV t81_91 false (M.lift (padd 1 t6_79))).bind fun t82_92 =>
  (guardV t81_91 false (load1 t82_92)).bind fun t83_93 =>
  (guardV t81_91 false (M.lift (arithV .lss t83_93 (V.int .i64 0)))).bind fun t84_94 =>
  (M.lift (pickV t81_91 (V.bool true) t84_94)).bind fun t85_95 =>
  (M.ret t85_95).bind fun t86_96 =>
  (guardV t86_96 false (M.lift (padd 1 t6_79))).bind fun t87_97 =>
  (guardV t86_96 false (load1 t87_97)).bind fun t88_98 =>
  (guardV t86_96 false (M.lift (arithV .gtr t88_98 (V.int .i64 1010000)))).bind fun t89_99 =>
  (M.lift (pickV t86_96 (V.bool true) t89_99)).bind fun t90_100 =>
  (condV t90_100
   ((M.ret (V.bool false)).bind fun t2_101 =>
  M.ret (Ex.ret, [t2_101, (s0_68.getD 1 V.undef)]))
   ((getN.bind fun n_102 =>
  (M.ret (s0_68.getD 1 V.undef)).bind fun y0_103 =>
  getN.bind fun n_104 =>
  (M.lift (arithV .gtr y0_103 (V.int .i64 0))).bind fun y1_105 =>
  getN.bind fun n_106 =>
  (M.ret y1_105).bind fun y2_107 =>
  getN.bind fun n_108 =>
  (guardV y2_107 true (M.lift (padd 2 t1_1))).bind fun y3_109 =>
  getN.bind fun n_110 =>
  (guardV y2_107 true (load1 y3_109)).bind fun y4_111 =>
  getN.bind fun n_112 =>
  (guardV y2_107 true (M.ret (s0_68.getD 1 V.undef))).bind fun y5_113 =>
  getN.bind fun n_114 =>
  (guardV y2_107 true (M.lift (arithV .sub y5_113 (V.int .i64 1)))).bind fun y6_115 =>
  getN.bind fun n_116 =>
  (guardV y2_107 true (M.lift (idxV 2 y4_111 y6_115))).bind fun y7_117 =>
  getN.bind fun n_118 =>
  (guardV y2_107 true (loadN 2 y7_117)).bind fun y8_119 =>
  getN.bind fun n_120 =>
  (guardV y2_107 true (loadN 2 t6_79)).bind fun y9_121 =>
  getN.bind fun n_122 =>
  (qrun (visB n_102 [(n_120, n_122, true), (n_118, n_120, true), (n_116, n_118, true), (n_114, n_116, true), (n_112, n_114, true), (n_110, n_112, true), (n_108, n_110, true), (n_106, n_108, true), (n_104, n_106, true), (n_102, n_104, true)]) (guardV y2_107 true (callV (cfg G) call 66 [y8_119, y9_121]))).bind fun y10_123 =>
  (guardV y2_107 true (M.lift (unV .not y10_123))).bind fun y11_124 =>
  (M.lift (pickV y2_107 y11_124 (V.bool false))).bind fun y12_125 =>
  (condV y12_125
   ((M.ret (V.bool false)).bind fun t2_126 =>
  M.ret (Ex.ret, [t2_126, (s0_68.getD 1 V.undef)]))
   ((M.ret (s0_68.getD 1 V.undef)).bind fun t63_127 =>
  (M.lift (arithV .add t63_127 (V.int .i64 1))).bind fun t64_128 =>
  (M.ret t64_128).bind fun t5_129 =>
  M.ret (Ex.normal, [(s0_68.getD 0 V.undef), t5_129])))))))
   (M.ret ((Ex.exit 4), [(s0_68.getD 0 V.undef), (s0_68.getD 1 V.undef)])))

noncomputable def ferry_ferryref09_Good (G : Nat → Option (List V)) (call : FuncId → List V → M V) (x0 : V) : M R :=
  (newV x0).bind fun t1_1 =>
  (M.ret (V.bool false)).bind fun t2_2 =>
  (M.lift (padd 0 t1_1)).bind fun t7_3 =>
  (load1 t7_3).bind fun t8_4 =>
  (M.lift (lenV t8_4)).bind fun t9_5 =>
  (M.lift (arithV .gtr t9_5 (V.int .i64 8))).bind fun t10_6 =>
  (M.ret t10_6).bind fun t11_7 =>
  (guardV t11_7 false (M.lift (padd 1 t1_1))).bind fun t12_8 =>
  (guardV t11_7 false (load1 t12_8)).bind fun t13_9 =>
  (guardV t11_7 false (M.lift (lenV t13_9))).bind fun t14_10 =>
  (guardV t11_7 false (M.lift (arithV .gtr t14_10 (V.int .i64 8)))).bind fun t15_11 =>
  (M.lift (pickV t11_7 (V.bool true) t15_11)).bind fun t16_12 =>
  (M.ret t16_12).bind fun t17_13 =>
  (guardV t17_13 false (M.lift (padd 2 t1_1))).bind fun t18_14 =>
  (guardV t17_13 false (load1 t18_14)).bind fun t19_15 =>
  (guardV t17_13 false (M.lift (lenV t19_15))).bind fun t20_16 =>
  (guardV t17_13 false (M.lift (arithV .gtr t20_16 (V.int .i64 8)))).bind fun t21_17 =>
  (M.lift (pickV t17_13 (V.bool true) t21_17)).bind fun t22_18 =>
  (condV t22_18
   ((M.ret (V.bool false)).bind fun t2_19 =>
  M.ret (Ex.ret, [t2_19]))
   ((M.ret (V.int .i64 0)).bind fun t3_20 =>
  (loopV (ferry_ferryref09_Good_l1 G call t1_1) [t2_2, t3_20]).bind fun r0_35 => match r0_35.1 with
  | .normal => M.fail
  | .exit k0_36 =>
    (if k0_36 = 0 then
    (M.ret (V.int .i64 0)).bind fun t4_37 =>
    (loopV (ferry_ferryref09_Good_l2 G call t1_1) [(r0_35.2.getD 0 V.undef), t4_37]).bind fun r0_65 => match r0_65.1 with
    | .normal => M.fail
    | .exit k0_66 =>
      (if k0_66 = 2 then
      (M.ret (V.int .i64 0)).bind fun t5_67 =>
      (loopV (ferry_ferryref09_Good_l3 G call t1_1) [(r0_65.2.getD 0 V.undef), t5_67]).bind fun r0_130 => match r0_130.1 with
      | .normal => M.fail
      | .exit k0_131 =>
        (if k0_131 = 4 then
        (M.ret (V.bool true)).bind fun t2_132 =>
        M.ret (Ex.ret, [t2_132])
        else M.fail)
      | .ret =>
        M.ret (Ex.ret, [(r0_130.2.getD 0 V.undef)])
      else M.fail)
    | .ret =>
      M.ret (Ex.ret, [(r0_65.2.getD 0 V.undef)])
    else M.fail)
  | .ret =>
    M.ret (Ex.ret, [(r0_35.2.getD 0 V.undef)])))

theorem ferry_ferryref09_Good_eq (G : Nat → Option (List V)) (n : Nat) (x0 : V) : sem (cfg G) (n + 1) 16 [x0] = outV (ferry_ferryref09_Good G (sem (cfg G) n) x0) :=
  (fnV_at (C := cfg G) (n := n) (f := 16) (fn := Tryd.f16) (c := Tryd.f16.body.getD .skip) (by kernel_rfl) (by kernel_rfl) (by kernel_rfl) [x0]).trans (by kernel_rfl)

noncomputable def ferry_ferrylaw09_to (G : Nat → Option (List V)) (call : FuncId → List V → M V) (x0 : V) : M R :=
  (newV x0).bind fun t1_1 =>
  (newV (.agg [V.nils, V.nils, V.nils])).bind fun t2_2 =>
  (M.lift (padd 0 t1_1)).bind fun t3_3 =>
  (load1 t3_3).bind fun t4_4 =>
  (M.lift (padd 1 t1_1)).bind fun t5_5 =>
  (load1 t5_5).bind fun t6_6 =>
  (M.lift (padd 2 t1_1)).bind fun t7_7 =>
  (load1 t7_7).bind fun t8_8 =>
  (M.lift (buildV [V.nils, V.nils, V.nils] [(0, 1, t4_4), (1, 1, t6_6), (2, 1, t8_8)])).bind fun t9_9 =>
  (storeN 3 t2_2 t9_9).bind fun _ =>
  (((loadN 3 t2_2)).bind fun v => (M.ret []).bind fun l => M.ret (v :: l)).bind fun l => M.ret (Ex.ret, tupV l)

theorem ferry_ferrylaw09_to_eq (G : Nat → Option (List V)) (n : Nat) (x0 : V) : sem (cfg G) (n + 1) 17 [x0] = outV (ferry_ferrylaw09_to G (sem (cfg G) n) x0) :=
  (fnV_at (C := cfg G) (n := n) (f := 17) (fn := Tryd.f17) (c := Tryd.f17.body.getD .skip) (by kernel_rfl) (by kernel_rfl) (by kernel_rfl) [x0]).trans (by kernel_rfl)

noncomputable def ferry_ferrylaw09_from (G : Nat → Option (List V)) (call : FuncId → List V → M V) (x0 : V) : M R :=
  (newV x0).bind fun t1_1 =>
  (newV (.agg [V.nils, V.nils, V.nils])).bind fun t2_2 =>
  (M.lift (padd 0 t1_1)).bind fun t3_3 =>
  (load1 t3_3).bind fun t4_4 =>
  (M.lift (padd 1 t1_1)).bind fun t5_5 =>
  (load1 t5_5).bind fun t6_6 =>
  (M.lift (padd 2 t1_1)).bind fun t7_7 =>
  (load1 t7_7).bind fun t8_8 =>
  (M.lift (buildV [V.nils, V.nils, V.nils] [(0, 1, t4_4), (1, 1, t6_6), (2, 1, t8_8)])).bind fun t9_9 =>
  (storeN 3 t2_2 t9_9).bind fun _ =>
  (((loadN 3 t2_2)).bind fun v => (M.ret []).bind fun l => M.ret (v :: l)).bind fun l => M.ret (Ex.ret, tupV l)

theorem ferry_ferrylaw09_from_eq (G : Nat → Option (List V)) (n : Nat) (x0 : V) : sem (cfg G) (n + 1) 26 [x0] = outV (ferry_ferrylaw09_from G (sem (cfg G) n) x0) :=
  (fnV_at (C := cfg G) (n := n) (f := 26) (fn := Tryd.f26) (c := Tryd.f26.body.getD .skip) (by kernel_rfl) (by kernel_rfl) (by kernel_rfl) [x0]).trans (by kernel_rfl)

noncomputable def ferry_ferrylaw09_some (G : Nat → Option (List V)) (call : FuncId → List V → M V)  : M R :=
  (newV (.agg [V.nils, V.nils, V.nils])).bind fun t0_1 =>
  (M.lift (buildV [(V.int .u32 0), (V.int .u32 0), (V.int .u32 0), (V.int .u32 0), (V.int .u32 0), (V.int .u32 0), (V.int .u32 0), (V.int .u32 0), (V.int .u32 0), (V.int .u32 0), (V.int .u32 0), (V.int .u32 0), (V.int .u32 0), (V.int .u32 0), (V.int .u32 0), (V.int .u32 0), (V.int .u32 0), (V.int .i64 0), (V.int .i64 0), (V.int .i64 0), (V.int .i64 0)] [(17, 1, (V.int .i64 1)), (18, 1, (V.int .i64 5))])).bind fun t1_2 =>
  (M.lift (buildV [(V.int .u32 0), (V.int .u32 0), (V.int .u32 0), (V.int .u32 0), (V.int .u32 0), (V.int .u32 0), (V.int .u32 0), (V.int .u32 0), (V.int .u32 0), (V.int .u32 0), (V.int .u32 0), (V.int .u32 0), (V.int .u32 0), (V.int .u32 0), (V.int .u32 0), (V.int .u32 0), (V.int .u32 0), (V.int .i64 0), (V.int .i64 0), (V.int .i64 0), (V.int .i64 0)] [(17, 1, (V.int .i64 1)), (18, 1, (V.int .i64 5))])).bind fun t2_3 =>
  (M.lift (buildV [(V.int .u32 0), (V.int .u32 0), (V.int .u32 0), (V.int .u32 0), (V.int .u32 0), (V.int .u32 0), (V.int .u32 0), (V.int .u32 0), (V.int .u32 0), (V.int .u32 0), (V.int .u32 0), (V.int .u32 0), (V.int .u32 0), (V.int .u32 0), (V.int .u32 0), (V.int .u32 0), (V.int .u32 0), (V.int .i64 0), (V.int .i64 0), (V.int .i64 0), (V.int .i64 0)] [(17, 1, (V.int .i64 2)), (19, 1, (V.int .i64 3)), (20, 1, (V.int .i64 1)), (18, 1, (V.int .i64 3))])).bind fun t3_4 =>
  (M.lift (buildV [(V.int .u32 0), (V.int .u32 0), (V.int .u32 0), (V.int .u32 0), (V.int .u32 0), (V.int .u32 0), (V.int .u32 0), (V.int .u32 0), (V.int .u32 0), (V.int .u32 0), (V.int .u32 0), (V.int .u32 0), (V.int .u32 0), (V.int .u32 0), (V.int .u32 0), (V.int .u32 0), (V.int .u32 0), (V.int .i64 0), (V.int .i64 0), (V.int .i64 0), (V.int .i64 0)] [(17, 1, (V.int .i64 2)), (19, 1, (V.int .i64 1)), (18, 1, (V.int .i64 3))])).bind fun t4_5 =>
  (sliceV 21 4 [(V.int .u32 0), (V.int .u32 0), (V.int .u32 0), (V.int .u32 0), (V.int .u32 0), (V.int .u32 0), (V.int .u32 0), (V.int .u32 0), (V.int .u32 0), (V.int .u32 0), (V.int .u32 0), (V.int .u32 0), (V.int .u32 0), (V.int .u32 0), (V.int .u32 0), (V.int .u32 0), (V.int .u32 0), (V.int .i64 0), (V.int .i64 0), (V.int .i64 0), (V.int .i64 0)] [(0, t1_2), (1, t2_3), (2, t3_4), (3, t4_5)]).bind fun t5_6 =>
  (sliceV 1 2 [(V.int .i64 0)] [(0, (V.int .i64 1)), (1, (V.int .i64 0))]).bind fun t6_7 =>
  (M.lift (buildV [(V.int .i64 0), (V.int .i64 0)] [(0, 1, (V.int .i64 3)), (1, 1, (V.int .i64 10))])).bind fun t7_8 =>
  (sliceV 2 1 [(V.int .i64 0), (V.int .i64 0)] [(0, t7_8)]).bind fun t8_9 =>
  (M.lift (buildV [V.nils, V.nils, V.nils] [(0, 1, t5_6), (1, 1, t6_7), (2, 1, t8_9)])).bind fun t9_10 =>
  (storeN 3 t0_1 t9_10).bind fun _ =>
  (((loadN 3 t0_1)).bind fun v => (M.ret []).bind fun l => M.ret (v :: l)).bind fun l => M.ret (Ex.ret, tupV l)

theorem ferry_ferrylaw09_some_eq (G : Nat → Option (List V)) (n : Nat)  : sem (cfg G) (n + 1) 40 [] = outV (ferry_ferrylaw09_some G (sem (cfg G) n) ) :=
  (fnV_at (C := cfg G) (n := n) (f := 40) (fn := Tryd.f40) (c := Tryd.f40.body.getD .skip) (by kernel_rfl) (by kernel_rfl) (by kernel_rfl) []).trans (by kernel_rfl)

noncomputable def ferry_ferryref09_EqualInts_l1 (G : Nat → Option (List V)) (call : FuncId → List V → M V) (x0 : V) (x1 : V) (s0_9 : List V) : M R :=
  (M.ret (s0_9.getD 1 V.undef)).bind fun t11_10 =>
  (M.ret x0).bind fun t12_11 =>
  (M.lift (lenV t12_11)).bind fun t13_12 =>
  (M.lift (arithV .lss t11_10 t13_12)).bind fun t14_13 =>
  (condV t14_13
   (((M.ret x0).bind fun y0_14 =>
  (M.ret (s0_9.getD 1 V.undef)).bind fun y1_15 =>
  (M.lift (idxV 1 y0_14 y1_15)).bind fun y2_16 =>
  (load1 y2_16).bind fun y3_17 =>
  (M.ret x1).bind fun y4_18 =>
  (M.ret (s0_9.getD 1 V.undef)).bind fun y5_19 =>
  (M.lift (idxV 1 y4_18 y5_19)).bind fun y6_20 =>
  (load1 y6_20).bind fun y7_21 =>
  (M.lift ((eqV (.sc .int) false y3_17 y7_21).bind fun b => some (.bool !b))).bind fun y8_22 =>
  (condV y8_22
   ((M.ret (V.bool false)).bind fun t4_23 =>
  M.ret (Ex.ret, [t4_23, (s0_9.getD 1 V.undef)]))
   ((M.ret (s0_9.getD 1 V.undef)).bind fun t15_24 =>
  (M.lift (arithV .add t15_24 (V.int .i64 1))).bind fun t16_25 =>
  (M.ret t16_25).bind fun t5_26 =>
  M.ret (Ex.normal, [(s0_9.getD 0 V.undef), t5_26])))))
   (M.ret ((Ex.exit 0), [(s0_9.getD 0 V.undef), (s0_9.getD 1 V.undef)])))

noncomputable def ferry_ferryref09_EqualInts (G : Nat → Option (List V)) (call : FuncId → List V → M V) (x0 : V) (x1 : V) : M R :=
  (M.ret (V.bool false)).bind fun t4_1 =>
  (M.ret x0).bind fun t6_2 =>
  (M.lift (lenV t6_2)).bind fun t7_3 =>
  (M.ret x1).bind fun t8_4 =>
  (M.lift (lenV t8_4)).bind fun t9_5 =>
  (M.lift ((eqV (.sc .int) false t7_3 t9_5).bind fun b => some (.bool !b))).bind fun t10_6 =>
  (condV t10_6
   ((M.ret (V.bool false)).bind fun t4_7 =>
  M.ret (Ex.ret, [t4_7]))
   ((M.ret (V.int .i64 0)).bind fun t5_8 =>
  (loopV (ferry_ferryref09_EqualInts_l1 G call x0 x1) [t4_1, t5_8]).bind fun r0_27 => match r0_27.1 with
  | .normal => M.fail
  | .exit k0_28 =>
    (if k0_28 = 0 then
    (M.ret (V.bool true)).bind fun t4_29 =>
    M.ret (Ex.ret, [t4_29])
    else M.fail)
  | .ret =>
    M.ret (Ex.ret, [(r0_27.2.getD 0 V.undef)])))

theorem ferry_ferryref09_EqualInts_eq (G : Nat → Option (List V)) (n : Nat) (x0 : V) (x1 : V) : sem (cfg G) (n + 1) 27 [x0, x1] = outV (ferry_ferryref09_EqualInts G (sem (cfg G) n) x0 x1) :=
  (fnV_at (C := cfg G) (n := n) (f := 27) (fn := Tryd.f27) (c := Tryd.f27.body.getD .skip) (by kernel_rfl) (by kernel_rfl) (by kernel_rfl) [x0, x1]).trans (by kernel_rfl)

noncomputable def ferry_ferrylaw09_awake (G : Nat → Option (List V)) (call : FuncId → List V → M V)  : M R :=
  (M.ret (V.bool false)).bind fun t0_1 =>
  (callV (cfg G) call 40 []).bind fun t5_2 =>
  (callV (cfg G) call 17 [t5_2]).bind fun t6_3 =>
  (callV (cfg G) call 18 [t6_3]).bind fun t7_4 =>
  (M.ret t7_4).bind fun t4_5 =>
  (M.lift (extractV t4_5 0)).bind fun t8_6 =>
  (M.lift (extractV t4_5 1)).bind fun t9_7 =>
  (M.ret t8_6).bind fun t1_8 =>
  (M.ret t9_7).bind fun t2_9 =>
  (M.ret t2_9).bind fun t10_10 =>
  (M.lift ((eqV .iface true t10_10 V.nili).bind fun b => some (.bool !b))).bind fun t11_11 =>
  (M.ret t11_11).bind fun t12_12 =>
  (guardV t12_12 false (M.ret t1_8)).bind fun t13_13 =>
  (guardV t12_12 false (M.lift ((eqV (.sc .int) true t13_13 (V.int .i64 1)).bind fun b => some (.bool !b)))).bind fun t14_14 =>
  (M.lift (pickV t12_12 (V.bool true) t14_14)).bind fun t15_15 =>
  (condV t15_15
   ((M.ret (V.bool false)).bind fun t0_16 =>
  M.ret (Ex.ret, [t0_16]))
   ((callV (cfg G) call 40 []).bind fun t17_17 =>
  (callV (cfg G) call 17 [t17_17]).bind fun t18_18 =>
  (callV (cfg G) call 19 [t18_18, (V.int .i64 1)]).bind fun t19_19 =>
  (M.ret t19_19).bind fun t16_20 =>
  (M.lift (extractV t16_20 0)).bind fun t20_21 =>
  (M.lift (extractV t16_20 1)).bind fun t21_22 =>
  (newV (.agg [V.nils, V.nils, V.nils])).bind fun t3_23 =>
  (storeN 3 t3_23 t20_21).bind fun _ =>
  (M.ret t21_22).bind fun t2_24 =>
  (M.ret t2_24).bind fun t22_25 =>
  (M.lift ((eqV .iface true t22_25 V.nili).bind fun b => some (.bool !b))).bind fun t23_26 =>
  (M.ret t23_26).bind fun t24_27 =>
  (guardV t24_27 false (M.lift (padd 1 t3_23))).bind fun t25_28 =>
  (guardV t24_27 false (load1 t25_28)).bind fun t26_29 =>
  (guardV t24_27 false (sliceV 1 2 [(V.int .i64 0)] [(0, (V.int .i64 0)), (1, (V.int .i64 1))])).bind fun t27_30 =>
  (guardV t24_27 false (callV (cfg G) call 27 [t26_29, t27_30])).bind fun t28_31 =>
  (guardV t24_27 false (M.lift (unV .not t28_31))).bind fun t29_32 =>
  (M.lift (pickV t24_27 (V.bool true) t29_32)).bind fun t30_33 =>
  (condV t30_33
   ((M.ret (V.bool false)).bind fun t0_34 =>
  M.ret (Ex.ret, [t0_34]))
   ((loadN 3 t3_23).bind fun t32_35 =>
  (callV (cfg G) call 18 [t32_35]).bind fun t33_36 =>
  (M.ret t33_36).bind fun t31_37 =>
  (M.lift (extractV t31_37 0)).bind fun t34_38 =>
  (M.lift (extractV t31_37 1)).bind fun t35_39 =>
  (M.ret t34_38).bind fun t1_40 =>
  (M.ret t35_39).bind fun t2_41 =>
  (M.ret t2_41).bind fun t36_42 =>
  (M.lift ((eqV .iface true t36_42 V.nili).bind fun b => some (.bool b))).bind fun t37_43 =>
  (M.ret t37_43).bind fun t38_44 =>
  (guardV t38_44 true (M.ret t1_40)).bind fun t39_45 =>
  (guardV t38_44 true (M.lift ((eqV (.sc .int) true t39_45 (V.int .i64 0)).bind fun b => some (.bool b)))).bind fun t40_46 =>
  (M.lift (pickV t38_44 t40_46 (V.bool false))).bind fun t41_47 =>
  (M.ret t41_47).bind fun t0_48 =>
  M.ret (Ex.ret, [t0_48])))))

theorem ferry_ferrylaw09_awake_eq (G : Nat → Option (List V)) (n : Nat)  : sem (cfg G) (n + 1) 15 [] = outV (ferry_ferrylaw09_awake G (sem (cfg G) n) ) :=
  (fnV_at (C := cfg G) (n := n) (f := 15) (fn := Tryd.f15) (c := Tryd.f15.body.getD .skip) (by kernel_rfl) (by kernel_rfl) (by kernel_rfl) []).trans (by kernel_rfl)

noncomputable def ferry_ferrylaw09_ReadyTurns_l1 (G : Nat → Option (List V)) (call : FuncId → List V → M V) (t29_19 : V) (t28_18 : V) (t1_1 : V) (s0_21 : List V) : M R :=
  (M.lift (arithV .lss (s0_21.getD 1 V.undef) t29_19)).bind fun t31_22 =>
  (condV t31_22
   ((M.lift (idxV 1 t28_18 (s0_21.getD 1 V.undef))).bind fun t32_23 =>
  (load1 t32_23).bind fun t33_24 =>
  (M.ret t33_24).bind fun t5_25 =>
  (M.lift (padd 0 t1_1)).bind fun t34_26 =>
  (load1 t34_26).bind fun t35_27 =>
  (M.ret t5_25).bind fun t36_28 =>
  (M.lift (idxV 21 t35_27 t36_28)).bind fun t37_29 =>
  (M.lift (padd 18 t37_29)).bind fun t38_30 =>
  (load1 t38_30).bind fun t39_31 =>
  (M.ret (s0_21.getD 0 V.undef)).bind fun t40_32 =>
  (M.lift (arithV .gtr t39_31 t40_32)).bind fun t41_33 =>
  (condV t41_33
   ((M.lift (padd 0 t1_1)).bind fun t42_43 =>
  (load1 t42_43).bind fun t43_44 =>
  (M.ret t5_25).bind fun t44_45 =>
  (M.lift (idxV 21 t43_44 t44_45)).bind fun t45_46 =>
  (M.lift (padd 18 t45_46)).bind fun t46_47 =>
  (load1 t46_47).bind fun t47_48 =>
  (M.ret t47_48).bind fun t3_49 =>
  (M.lift (arithV .add (s0_21.getD 1 V.undef) (V.int .i64 1))).bind fun t48_50 =>
  (M.ret t48_50).bind fun t30_51 =>
  M.ret (Ex.normal, [t3_49, t30_51]))
   ((M.lift (arithV .add (s0_21.getD 1 V.undef) (V.int .i64 1))).bind fun t48_52 =>
  (M.ret t48_52).bind fun t30_53 =>
  M.ret (Ex.normal, [(s0_21.getD 0 V.undef), t30_53]))))
   (M.ret ((Ex.exit 0), [(s0_21.getD 0 V.undef), (s0_21.getD 1 V.undef)])))

noncomputable def ferry_ferrylaw09_ReadyTurns_l2 (G : Nat → Option (List V)) (call : FuncId → List V → M V) (t51_59 : V) (t50_58 : V) (t1_1 : V) (r0_54 : R) (s0_61 : List V) : M R :=
  (M.lift (arithV .lss (s0_61.getD 1 V.undef) t51_59)).bind fun t53_62 =>
  (condV t53_62
   ((M.lift (idxV 1 t50_58 (s0_61.getD 1 V.undef))).bind fun t54_63 =>
  (load1 t54_63).bind fun t55_64 =>
  (M.ret t55_64).bind fun t8_65 =>
  (M.lift (padd 0 t1_1)).bind fun t56_66 =>
  (load1 t56_66).bind fun t57_67 =>
  (M.ret t8_65).bind fun t58_68 =>
  (M.lift (idxV 21 t57_67 t58_68)).bind fun t59_69 =>
  (M.lift (padd 18 t59_69)).bind fun t60_70 =>
  (load1 t60_70).bind fun t61_71 =>
  (M.ret (r0_54.2.getD 0 V.undef)).bind fun t62_72 =>
  (M.lift ((eqV (.sc .int) false t61_71 t62_72).bind fun b => some (.bool b))).bind fun t63_73 =>
  (condV t63_73
   ((M.ret (s0_61.getD 0 V.undef)).bind fun t64_79 =>
  (M.lift (arithV .add t64_79 (V.int .i64 1))).bind fun t65_80 =>
  (M.ret t65_80).bind fun t6_81 =>
  (M.lift (arithV .add (s0_61.getD 1 V.undef) (V.int .i64 1))).bind fun t66_82 =>
  (M.ret t66_82).bind fun t52_83 =>
  M.ret (Ex.normal, [t6_81, t52_83]))
   ((M.lift (arithV .add (s0_61.getD 1 V.undef) (V.int .i64 1))).bind fun t66_84 =>
  (M.ret t66_84).bind fun t52_85 =>
  M.ret (Ex.normal, [(s0_61.getD 0 V.undef), t52_85]))))
   (M.ret ((Ex.exit 2), [(s0_61.getD 0 V.undef), (s0_61.getD 1 V.undef)])))

noncomputable def ferry_ferrylaw09_ReadyTurns_l4 (G : Nat → Option (List V)) (call : FuncId → List V → M V) (r0_86 : R) (t9_90 : V) (t1_1 : V) (t11_95 : V) (r0_54 : R) (s0_97 : List V) : M R :=
  (M.ret (s0_97.getD 1 V.undef)).bind fun t73_98 =>
  (M.ret (r0_86.2.getD 0 V.undef)).bind fun t74_99 =>
  (M.lift (arithV .lss t73_98 t74_99)).bind fun t75_100 =>
  (condV t75_100
   ((loadN 3 t9_90).bind fun t79_101 =>
  (callV (cfg G) call 18 [t79_101]).bind fun t80_102 =>
  (M.ret t80_102).bind fun t78_103 =>
  (M.lift (extractV t78_103 0)).bind fun t81_104 =>
  (M.lift (extractV t78_103 1)).bind fun t82_105 =>
  (M.ret t81_104).bind fun t13_106 =>
  (M.ret t82_105).bind fun t14_107 =>
  (M.ret t14_107).bind fun t83_108 =>
  (M.lift ((eqV .iface true t83_108 V.nili).bind fun b => some (.bool !b))).bind fun t84_109 =>
  (M.ret t84_109).bind fun t85_110 =>
  (guardV t85_110 false (M.ret t13_106)).bind fun t86_111 =>
  (guardV t85_110 false (M.lift (arithV .lss t86_111 (V.int .i64 0)))).bind fun t87_112 =>
  (M.lift (pickV t85_110 (V.bool true) t87_112)).bind fun t88_113 =>
  (M.ret t88_113).bind fun t89_114 =>
  (guardV t89_114 false (M.ret t13_106)).bind fun t90_115 =>
  (guardV t89_114 false (M.lift (padd 0 t1_1))).bind fun t91_116 =>
  (guardV t89_114 false (load1 t91_116)).bind fun t92_117 =>
  (guardV t89_114 false (M.lift (lenV t92_117))).bind fun t93_118 =>
  (guardV t89_114 false (M.lift (arithV .geq t90_115 t93_118))).bind fun t94_119 =>
  (M.lift (pickV t89_114 (V.bool true) t94_119)).bind fun t95_120 =>
  (M.ret t95_120).bind fun t96_121 =>
  (guardV t96_121 false (M.ret t13_106)).bind fun t97_122 =>
  (guardV t96_121 false (M.lift (arithV .gtr t97_122 (V.int .i64 7)))).bind fun t98_123 =>
  (M.lift (pickV t96_121 (V.bool true) t98_123)).bind fun t99_124 =>
  (M.ret t99_124).bind fun t100_125 =>
  (guardV t100_125 false (M.ret t13_106)).bind fun t101_126 =>
  (guardV t100_125 false (M.lift (aidxV 8 1 t11_95 t101_126))).bind fun t102_127 =>
  (guardV t100_125 false (load1 t102_127)).bind fun t103_128 =>
  (M.lift (pickV t100_125 (V.bool true) t103_128)).bind fun t104_129 =>
  (M.ret t104_129).bind fun t105_130 =>
  (guardV t105_130 false (M.lift (padd 0 t1_1))).bind fun t106_131 =>
  (guardV t105_130 false (load1 t106_131)).bind fun t107_132 =>
  (guardV t105_130 false (M.ret t13_106)).bind fun t108_133 =>
  (guardV t105_130 false (M.lift (idxV 21 t107_132 t108_133))).bind fun t109_134 =>
  (guardV t105_130 false (M.lift (padd 18 t109_134))).bind fun t110_135 =>
  (guardV t105_130 false (load1 t110_135)).bind fun t111_136 =>
  (guardV t105_130 false (M.ret (r0_54.2.getD 0 V.undef))).bind fun t112_137 =>
  (guardV t105_130 false (M.lift ((eqV (.sc .int) false t111_136 t112_137).bind fun b => some (.bool !b)))).bind fun t113_138 =>
  (M.lift (pickV t105_130 (V.bool true) t113_138)).bind fun t114_139 =>
  (M.ret t114_139).bind fun t115_140 =>
  (guardV t115_140 false (M.lift (padd 0 t1_1))).bind fun t116_141 =>
  (guardV t115_140 false (load1 t116_141)).bind fun t117_142 =>
  (guardV t115_140 false (M.ret t13_106)).bind fun t118_143 =>
  (guardV t115_140 false (M.lift (idxV 21 t117_142 t118_143))).bind fun t119_144 =>
  (guardV t115_140 false (M.lift (padd 17 t119_144))).bind fun t120_145 =>
  (guardV t115_140 false (load1 t120_145)).bind fun t121_146 =>
  (guardV t115_140 false (M.lift ((eqV (.sc .int) true t121_146 (V.int .i64 1)).bind fun b => some (.bool !b)))).bind fun t122_147 =>
  (M.lift (pickV t115_140 (V.bool true) t122_147)).bind fun t123_148 =>
  (condV t123_148
   ((M.ret (V.bool false)).bind fun t2_149 =>
  M.ret (Ex.ret, [t2_149, (s0_97.getD 1 V.undef)]))
   ((M.ret t13_106).bind fun t124_150 =>
  (M.lift (aidxV 8 1 t11_95 t124_150)).bind fun t125_151 =>
  (storeN 1 t125_151 (V.bool true)).bind fun _ =>
  (loadN 3 t9_90).bind fun t127_152 =>
  (M.ret t13_106).bind fun t128_153 =>
  (callV (cfg G) call 19 [t127_152, t128_153]).bind fun t129_154 =>
  (M.ret t129_154).bind fun t126_155 =>
  (M.lift (extractV t126_155 0)).bind fun t130_156 =>
  (M.lift (extractV t126_155 1)).bind fun t131_157 =>
  (newV (.agg [V.nils, V.nils, V.nils])).bind fun t15_158 =>
  (storeN 3 t15_158 t130_156).bind fun _ =>
  (M.ret t131_157).bind fun t14_159 =>
  (M.ret t14_159).bind fun t132_160 =>
  (M.lift ((eqV .iface true t132_160 V.nili).bind fun b => some (.bool !b))).bind fun t133_161 =>
  (condV t133_161
   ((M.ret (V.bool false)).bind fun t2_162 =>
  M.ret (Ex.ret, [t2_162, (s0_97.getD 1 V.undef)]))
   ((loadN 3 t15_158).bind fun t134_163 =>
  (storeN 3 t9_90 t134_163).bind fun _ =>
  (M.ret (s0_97.getD 1 V.undef)).bind fun t76_164 =>
  (M.lift (arithV .add t76_164 (V.int .i64 1))).bind fun t77_165 =>
  (M.ret t77_165).bind fun t12_166 =>
  M.ret (Ex.normal, [(s0_97.getD 0 V.undef), t12_166]))))))
   (M.ret ((Ex.exit 6), [(s0_97.getD 0 V.undef), (s0_97.getD 1 V.undef)])))

noncomputable def ferry_ferrylaw09_ReadyTurns_l3 (G : Nat → Option (List V)) (call : FuncId → List V → M V) (r0_86 : R) (t9_90 : V) (t1_1 : V) (r0_54 : R) (s0_92 : List V) : M R :=
  (M.ret (s0_92.getD 1 V.undef)).bind fun t69_93 =>
  (M.lift (arithV .lss t69_93 (V.int .i64 2))).bind fun t70_94 =>
  (condV t70_94
   ((newV (.agg [(V.bool false), (V.bool false), (V.bool false), (V.bool false), (V.bool false), (V.bool false), (V.bool false), (V.bool false)])).bind fun t11_95 =>
  (M.ret (V.int .i64 0)).bind fun t12_96 =>
  (loopV (ferry_ferrylaw09_ReadyTurns_l4 G call r0_86 t9_90 t1_1 t11_95 r0_54) [(s0_92.getD 0 V.undef), t12_96]).bind fun r0_167 => match r0_167.1 with
  | .normal => M.fail
  | .exit k0_168 =>
    (if k0_168 = 6 then
    (M.ret (s0_92.getD 1 V.undef)).bind fun t71_169 =>
    (M.lift (arithV .add t71_169 (V.int .i64 1))).bind fun t72_170 =>
    (M.ret t72_170).bind fun t10_171 =>
    M.ret (Ex.normal, [(r0_167.2.getD 0 V.undef), t10_171])
    else (if k0_168 = 5 then
    (M.ret (s0_92.getD 1 V.undef)).bind fun t71_172 =>
    (M.lift (arithV .add t71_172 (V.int .i64 1))).bind fun t72_173 =>
    (M.ret t72_173).bind fun t10_174 =>
    M.ret (Ex.normal, [(r0_167.2.getD 0 V.undef), t10_174])
    else M.ret ((Ex.exit k0_168), [(r0_167.2.getD 0 V.undef), (s0_92.getD 1 V.undef)])))
  | .ret =>
    M.ret (Ex.ret, [(r0_167.2.getD 0 V.undef), (s0_92.getD 1 V.undef)]))
   (M.ret ((Ex.exit 4), [(s0_92.getD 0 V.undef), (s0_92.getD 1 V.undef)])))

noncomputable def ferry_ferrylaw09_ReadyTurns (G : Nat → Option (List V)) (call : FuncId → List V → M V) (x0 : V) : M R :=
  (newV x0).bind fun t1_1 =>
  (M.ret (V.bool false)).bind fun t2_2 =>
  (callV (cfg G) call 15 []).bind fun t16_3 =>
  (M.lift (unV .not t16_3)).bind fun t17_4 =>
  (condV t17_4
   ((M.ret (V.bool false)).bind fun t2_5 =>
  M.ret (Ex.ret, [t2_5]))
   ((loadN 3 t1_1).bind fun t18_6 =>
  (callV (cfg G) call 16 [t18_6]).bind fun t19_7 =>
  (M.lift (unV .not t19_7)).bind fun t20_8 =>
  (M.ret t20_8).bind fun t21_9 =>
  (guardV t21_9 false (M.lift (padd 1 t1_1))).bind fun t22_10 =>
  (guardV t21_9 false (load1 t22_10)).bind fun t23_11 =>
  (guardV t21_9 false (M.lift (lenV t23_11))).bind fun t24_12 =>
  (guardV t21_9 false (M.lift ((eqV (.sc .int) true t24_12 (V.int .i64 0)).bind fun b => some (.bool b)))).bind fun t25_13 =>
  (M.lift (pickV t21_9 (V.bool true) t25_13)).bind fun t26_14 =>
  (condV t26_14
   ((M.ret (V.bool true)).bind fun t2_15 =>
  M.ret (Ex.ret, [t2_15]))
   ((M.ret (V.int .i64 (-1))).bind fun t3_16 =>
  (M.lift (padd 1 t1_1)).bind fun t27_17 =>
  (load1 t27_17).bind fun t28_18 =>
  (M.lift (lenV t28_18)).bind fun t29_19 =>
  (M.ret (V.int .i64 0)).bind fun t30_20 =>
  (loopV (ferry_ferrylaw09_ReadyTurns_l1 G call t29_19 t28_18 t1_1) [t3_16, t30_20]).bind fun r0_54 => match r0_54.1 with
  | .normal => M.fail
  | .exit k0_55 =>
    (if k0_55 = 0 then
    (M.ret (V.int .i64 0)).bind fun t6_56 =>
    (M.lift (padd 1 t1_1)).bind fun t49_57 =>
    (load1 t49_57).bind fun t50_58 =>
    (M.lift (lenV t50_58)).bind fun t51_59 =>
    (M.ret (V.int .i64 0)).bind fun t52_60 =>
    (loopV (ferry_ferrylaw09_ReadyTurns_l2 G call t51_59 t50_58 t1_1 r0_54) [t6_56, t52_60]).bind fun r0_86 => match r0_86.1 with
    | .normal => M.fail
    | .exit k0_87 =>
      (if k0_87 = 2 then
      (loadN 3 t1_1).bind fun t67_88 =>
      (callV (cfg G) call 17 [t67_88]).bind fun t68_89 =>
      (newV (.agg [V.nils, V.nils, V.nils])).bind fun t9_90 =>
      (storeN 3 t9_90 t68_89).bind fun _ =>
      (M.ret (V.int .i64 0)).bind fun t10_91 =>
      (loopV (ferry_ferrylaw09_ReadyTurns_l3 G call r0_86 t9_90 t1_1 r0_54) [t2_2, t10_91]).bind fun r0_175 => match r0_175.1 with
      | .normal => M.fail
      | .exit k0_176 =>
        (if k0_176 = 4 then
        (M.ret (V.bool true)).bind fun t2_177 =>
        M.ret (Ex.ret, [t2_177])
        else M.fail)
      | .ret =>
        M.ret (Ex.ret, [(r0_175.2.getD 0 V.undef)])
      else M.fail)
    | .ret =>
      M.ret (Ex.ret, [t2_2])
    else M.fail)
  | .ret =>
    M.ret (Ex.ret, [t2_2])))))

theorem ferry_ferrylaw09_ReadyTurns_eq (G : Nat → Option (List V)) (n : Nat) (x0 : V) : sem (cfg G) (n + 1) 3 [x0] = outV (ferry_ferrylaw09_ReadyTurns G (sem (cfg G) n) x0) :=
  (fnV_at (C := cfg G) (n := n) (f := 3) (fn := Tryd.f3) (c := Tryd.f3.body.getD .skip) (by kernel_rfl) (by kernel_rfl) (by kernel_rfl) [x0]).trans (by kernel_rfl)

end Go.Fv.Tr

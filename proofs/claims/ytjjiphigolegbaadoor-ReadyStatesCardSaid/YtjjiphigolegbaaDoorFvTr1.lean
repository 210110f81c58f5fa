/-
  The Go functions ferry/ready.Pick, ferry/ready.Good, ferry/timer.Check, ferry/timer.good, ferry/timer.right, ferry/timer.compare, cmp.Compare[int], cmp.Or[int], cmp.isNaN[int], ferry/timer.Find, ferry/ready.goodProc, ferry/ready.goodQueue as plain terms. By an AI agent; no person has read it.
-/
import Derived.Test.YtjjiphigolegbaaDoorFvCf
import Derived.Test.YtjjiphigolegbaaDoorFvW4
set_option linter.unusedVariables false
set_option linter.unusedSimpArgs false
set_option linter.unusedSectionVars false
/-! The Go functions ferry/ready.Pick, ferry/ready.Good, ferry/timer.Check, ferry/timer.good, ferry/timer.right, ferry/timer.compare, cmp.Compare[int], cmp.Or[int], cmp.isNaN[int], ferry/timer.Find, ferry/ready.goodProc, ferry/ready.goodQueue as plain terms. -/
namespace Go.Fv.Tr
open Go Go.Fv Go.Proofs
set_option linter.unusedVariables false
set_option maxRecDepth 20000

noncomputable def ferry_ready_Pick_l1 (G : Nat → Option (List V)) (call : FuncId → List V → M V) (t22_24 : V) (t21_23 : V) (t1_1 : V) (s0_26 : List V) : M R :=
  (M.lift (arithV .lss (s0_26.getD 1 V.undef) t22_24)).bind fun t24_27 =>
  (condV t24_27
   ((M.lift (idxV 1 t21_23 (s0_26.getD 1 V.undef))).bind fun t25_28 =>
  (load1 t25_28).bind fun t26_29 =>
  (M.ret t26_29).bind fun t6_30 =>
  ((M.lift (padd 0 t1_1)).bind fun y0_31 =>
  (load1 y0_31).bind fun y1_32 =>
  (M.ret t6_30).bind fun y2_33 =>
  (M.lift (idxV 21 y1_32 y2_33)).bind fun y3_34 =>
  (M.lift (padd 18 y3_34)).bind fun y4_35 =>
  (load1 y4_35).bind fun y5_36 =>
  (M.lift (padd 0 t1_1)).bind fun y6_37 =>
  (load1 y6_37).bind fun y7_38 =>
  (M.ret (s0_26.getD 0 V.undef)).bind fun y8_39 =>
  (M.lift (idxV 21 y7_38 y8_39)).bind fun y9_40 =>
  (M.lift (padd 18 y9_40)).bind fun y10_41 =>
  (load1 y10_41).bind fun y11_42 =>
  (M.lift (arithV .gtr y5_36 y11_42)).bind fun y12_43 =>
  (condV y12_43
   ((M.ret t6_30).bind fun t40_48 =>
  (M.ret t40_48).bind fun t4_49 =>
  (M.lift (arithV .add (s0_26.getD 1 V.undef) (V.int .i64 1))).bind fun t41_50 =>
  (M.ret t41_50).bind fun t23_51 =>
  M.ret (Ex.normal, [t4_49, t23_51]))
   ((M.lift (arithV .add (s0_26.getD 1 V.undef) (V.int .i64 1))).bind fun t41_52 =>
  (M.ret t41_52).bind fun t23_53 =>
  M.ret (Ex.normal, [(s0_26.getD 0 V.undef), t23_53])))))
   (M.ret ((Ex.exit 0), [(s0_26.getD 0 V.undef), (s0_26.getD 1 V.undef)])))

noncomputable def ferry_ready_Pick (G : Nat → Option (List V)) (call : FuncId → List V → M V) (x0 : V) : M R :=
  (newV x0).bind fun t1_1 =>
  (M.ret (V.int .i64 0)).bind fun t2_2 =>
  (M.ret V.nili).bind fun t3_3 =>
  (loadN 3 t1_1).bind fun t7_4 =>
  (callV (cfg G) call 42 [t7_4]).bind fun t8_5 =>
  (M.lift (unV .not t8_5)).bind fun t9_6 =>
  (condV t9_6
   (((load1 (glob (cfg G) 0)).bind fun y0_7 =>
  (M.ret (V.int .i64 0)).bind fun y1_8 =>
  (M.ret y0_7).bind fun y2_9 =>
  M.ret (Ex.ret, [V.tuple [y1_8, y2_9]])))
   ((M.lift (padd 1 t1_1)).bind fun t11_10 =>
  (load1 t11_10).bind fun t12_11 =>
  (M.lift (lenV t12_11)).bind fun t13_12 =>
  (M.lift ((eqV (.sc .int) true t13_12 (V.int .i64 0)).bind fun b => some (.bool b))).bind fun t14_13 =>
  (condV t14_13
   (((load1 (glob (cfg G) 1)).bind fun y0_14 =>
  (M.ret (V.int .i64 0)).bind fun y1_15 =>
  (M.ret y0_14).bind fun y2_16 =>
  M.ret (Ex.ret, [V.tuple [y1_15, y2_16]])))
   ((M.lift (padd 1 t1_1)).bind fun t16_17 =>
  (load1 t16_17).bind fun t17_18 =>
  (M.lift (idxV 1 t17_18 (V.int .i64 0))).bind fun t18_19 =>
  (load1 t18_19).bind fun t19_20 =>
  (M.ret t19_20).bind fun t4_21 =>
  (M.lift (padd 1 t1_1)).bind fun t20_22 =>
  (load1 t20_22).bind fun t21_23 =>
  (M.lift (lenV t21_23)).bind fun t22_24 =>
  (M.ret (V.int .i64 0)).bind fun t23_25 =>
  (loopV (ferry_ready_Pick_l1 G call t22_24 t21_23 t1_1) [t4_21, t23_25]).bind fun r0_54 => match r0_54.1 with
  | .normal => M.fail
  | .exit k0_55 =>
    (if k0_55 = 0 then
    (M.ret (r0_54.2.getD 0 V.undef)).bind fun t42_56 =>
    (M.ret t42_56).bind fun t2_57 =>
    (M.ret V.nili).bind fun t3_58 =>
    M.ret (Ex.ret, [V.tuple [t2_57, t3_58]])
    else M.fail)
  | .ret =>
    M.ret (Ex.ret, [V.tuple [t2_2, t3_3]])))))

theorem ferry_ready_Pick_eq (G : Nat → Option (List V)) (n : Nat) (x0 : V) : sem (cfg G) (n + 1) 18 [x0] = outV (ferry_ready_Pick G (sem (cfg G) n) x0) :=
  (fnV_at (C := cfg G) (n := n) (f := 18) (fn := Tryd.f18) (c := Tryd.f18.body.getD .skip) (by kernel_rfl) (by kernel_rfl) (by kernel_rfl) [x0]).trans (by kernel_rfl)

noncomputable def ferry_ready_Good_l1 (G : Nat → Option (List V)) (call : FuncId → List V → M V) (t22_19 : V) (t21_18 : V) (t1_1 : V) (s0_21 : List V) : M R :=
  (M.lift (arithV .lss (s0_21.getD 1 V.undef) t22_19)).bind fun t24_22 =>
  (condV t24_22
   ((M.ret (s0_21.getD 1 V.undef)).bind fun t25_23 =>
  (M.lift (idxV 21 t21_18 (s0_21.getD 1 V.undef))).bind fun t26_24 =>
  (loadN 21 t26_24).bind fun t27_25 =>
  (newV (.agg [(V.int .u32 0), (V.int .u32 0), (V.int .u32 0), (V.int .u32 0), (V.int .u32 0), (V.int .u32 0), (V.int .u32 0), (V.int .u32 0), (V.int .u32 0), (V.int .u32 0), (V.int .u32 0), (V.int .u32 0), (V.int .u32 0), (V.int .u32 0), (V.int .u32 0), (V.int .u32 0), (V.int .u32 0), (V.int .i64 0), (V.int .i64 0), (V.int .i64 0), (V.int .i64 0)])).bind fun t4_26 =>
  (M.ret t25_23).bind fun t3_27 =>
  (storeN 21 t4_26 t27_25).bind fun _ =>
  (M.lift (padd 2 t1_1)).bind fun t29_28 =>
  (load1 t29_28).bind fun t30_29 =>
  (M.ret t3_27).bind fun t31_30 =>
  (callV (cfg G) call 61 [t30_29, t31_30]).bind fun t32_31 =>
  (M.ret t32_31).bind fun t28_32 =>
  (M.lift (extractV t28_32 0)).bind fun t33_33 =>
  (M.lift (extractV t28_32 1)).bind fun t34_34 =>
  (M.ret t33_33).bind fun t5_35 =>
  (M.ret t34_34).bind fun t6_36 =>
  (loadN 21 t4_26).bind fun t35_37 =>
  (callV (cfg G) call 90 [t35_37]).bind fun t36_38 =>
  (M.lift (unV .not t36_38)).bind fun t37_39 =>
  (M.ret t37_39).bind fun t38_40 =>
  (guardV t38_40 false (M.ret t6_36)).bind fun t39_41 =>
  (guardV t38_40 false (M.ret t39_41)).bind fun t40_42 =>
  (guardV t40_42 true (M.lift (padd 17 t4_26))).bind fun t41_43 =>
  (guardV t40_42 true (load1 t41_43)).bind fun t42_44 =>
  (guardV t40_42 true (M.lift ((eqV (.sc .int) true t42_44 (V.int .i64 2)).bind fun b => some (.bool !b)))).bind fun t43_45 =>
  (guardV t38_40 false (M.lift (pickV t40_42 t43_45 (V.bool false)))).bind fun t44_46 =>
  (M.lift (pickV t38_40 (V.bool true) t44_46)).bind fun t45_47 =>
  (M.ret t45_47).bind fun t46_48 =>
  (guardV t46_48 false (M.ret t6_36)).bind fun t47_49 =>
  (guardV t46_48 false (M.lift (unV .not t47_49))).bind fun t48_50 =>
  (guardV t46_48 false (M.ret t48_50)).bind fun t49_51 =>
  (guardV t49_51 true (M.lift (padd 19 t4_26))).bind fun t50_52 =>
  (guardV t49_51 true (load1 t50_52)).bind fun t51_53 =>
  (guardV t49_51 true (M.lift ((eqV (.sc .int) true t51_53 (V.int .i64 1)).bind fun b => some (.bool b)))).bind fun t52_54 =>
  (guardV t46_48 false (M.lift (pickV t49_51 t52_54 (V.bool false)))).bind fun t53_55 =>
  (M.lift (pickV t46_48 (V.bool true) t53_55)).bind fun t54_56 =>
  (condV t54_56
   ((M.ret (V.bool false)).bind fun t2_57 =>
  M.ret (Ex.ret, [t2_57, (s0_21.getD 1 V.undef)]))
   ((M.lift (arithV .add (s0_21.getD 1 V.undef) (V.int .i64 1))).bind fun t55_58 =>
  (M.ret t55_58).bind fun t23_59 =>
  M.ret (Ex.normal, [(s0_21.getD 0 V.undef), t23_59]))))
   (M.ret ((Ex.exit 0), [(s0_21.getD 0 V.undef), (s0_21.getD 1 V.undef)])))

noncomputable def ferry_ready_Good (G : Nat → Option (List V)) (call : FuncId → List V → M V) (x0 : V) : M R :=
  (newV x0).bind fun t1_1 =>
  (M.ret (V.bool false)).bind fun t2_2 =>
  (M.lift (padd 0 t1_1)).bind fun t7_3 =>
  (load1 t7_3).bind fun t8_4 =>
  (M.lift (lenV t8_4)).bind fun t9_5 =>
  (M.lift (arithV .gtr t9_5 (V.int .i64 8))).bind fun t10_6 =>
  (M.ret t10_6).bind fun t11_7 =>
  (guardV t11_7 false (M.lift (padd 2 t1_1))).bind fun t12_8 =>
  (guardV t11_7 false (load1 t12_8)).bind fun t13_9 =>
  (guardV t11_7 false (M.lift (padd 0 t1_1))).bind fun t14_10 =>
  (guardV t11_7 false (load1 t14_10)).bind fun t15_11 =>
  (guardV t11_7 false (M.lift (lenV t15_11))).bind fun t16_12 =>
  (guardV t11_7 false (callV (cfg G) call 60 [t13_9, t16_12])).bind fun t17_13 =>
  (guardV t11_7 false (M.lift ((eqV .iface true t17_13 V.nili).bind fun b => some (.bool !b)))).bind fun t18_14 =>
  (M.lift (pickV t11_7 (V.bool true) t18_14)).bind fun t19_15 =>
  (condV t19_15
   ((M.ret (V.bool false)).bind fun t2_16 =>
  M.ret (Ex.ret, [t2_16]))
   ((M.lift (padd 0 t1_1)).bind fun t20_17 =>
  (load1 t20_17).bind fun t21_18 =>
  (M.lift (lenV t21_18)).bind fun t22_19 =>
  (M.ret (V.int .i64 0)).bind fun t23_20 =>
  (loopV (ferry_ready_Good_l1 G call t22_19 t21_18 t1_1) [t2_2, t23_20]).bind fun r0_60 => match r0_60.1 with
  | .normal => M.fail
  | .exit k0_61 =>
    (if k0_61 = 0 then
    (loadN 3 t1_1).bind fun t56_62 =>
    (callV (cfg G) call 91 [t56_62]).bind fun t57_63 =>
    (M.ret t57_63).bind fun t2_64 =>
    M.ret (Ex.ret, [t2_64])
    else M.fail)
  | .ret =>
    M.ret (Ex.ret, [(r0_60.2.getD 0 V.undef)])))

theorem ferry_ready_Good_eq (G : Nat → Option (List V)) (n : Nat) (x0 : V) : sem (cfg G) (n + 1) 42 [x0] = outV (ferry_ready_Good G (sem (cfg G) n) x0) :=
  (fnV_at (C := cfg G) (n := n) (f := 42) (fn := Tryd.f42) (c := Tryd.f42.body.getD .skip) (by kernel_rfl) (by kernel_rfl) (by kernel_rfl) [x0]).trans (by kernel_rfl)

noncomputable def ferry_timer_Check (G : Nat → Option (List V)) (call : FuncId → List V → M V) (x0 : V) (x1 : V) : M R :=
  (M.ret V.nili).bind fun t4_1 =>
  (M.ret x1).bind fun t5_2 =>
  (M.lift (arithV .lss t5_2 (V.int .i64 0))).bind fun t6_3 =>
  (M.ret t6_3).bind fun t7_4 =>
  (guardV t7_4 false (M.ret x1)).bind fun t8_5 =>
  (guardV t7_4 false (M.lift (arithV .gtr t8_5 (V.int .i64 8)))).bind fun t9_6 =>
  (M.lift (pickV t7_4 (V.bool true) t9_6)).bind fun t10_7 =>
  (condV t10_7
   ((load1 (glob (cfg G) 2)).bind fun t11_8 =>
  (M.ret t11_8).bind fun t4_9 =>
  M.ret (Ex.ret, [t4_9]))
   ((M.ret x0).bind fun t12_10 =>
  (M.ret x1).bind fun t13_11 =>
  (callV (cfg G) call 95 [t12_10, t13_11]).bind fun t14_12 =>
  (M.lift (unV .not t14_12)).bind fun t15_13 =>
  (condV t15_13
   ((load1 (glob (cfg G) 0)).bind fun t16_14 =>
  (M.ret t16_14).bind fun t4_15 =>
  M.ret (Ex.ret, [t4_15]))
   ((M.ret V.nili).bind fun t4_16 =>
  M.ret (Ex.ret, [t4_16])))))

theorem ferry_timer_Check_eq (G : Nat → Option (List V)) (n : Nat) (x0 : V) (x1 : V) : sem (cfg G) (n + 1) 60 [x0, x1] = outV (ferry_timer_Check G (sem (cfg G) n) x0 x1) :=
  (fnV_at (C := cfg G) (n := n) (f := 60) (fn := Tryd.f60) (c := Tryd.f60.body.getD .skip) (by kernel_rfl) (by kernel_rfl) (by kernel_rfl) [x0, x1]).trans (by kernel_rfl)

noncomputable def ferry_timer_good_l1 (G : Nat → Option (List V)) (call : FuncId → List V → M V) (t9_4 : V) (t8_3 : V) (x1 : V) (t5_2 : V) (x0 : V) (s0_6 : List V) : M R :=
  (M.lift (arithV .lss (s0_6.getD 1 V.undef) t9_4)).bind fun t11_7 =>
  (condV t11_7
   ((M.ret (s0_6.getD 1 V.undef)).bind fun t12_8 =>
  (M.lift (idxV 2 t8_3 (s0_6.getD 1 V.undef))).bind fun t13_9 =>
  (loadN 2 t13_9).bind fun t14_10 =>
  (newV (.agg [(V.int .i64 0), (V.int .i64 0)])).bind fun t7_11 =>
  (M.ret t12_8).bind fun t6_12 =>
  (storeN 2 t7_11 t14_10).bind fun _ =>
  (getN.bind fun n_13 =>
  (loadN 2 t7_11).bind fun y0_14 =>
  getN.bind fun n_15 =>
  (M.ret x1).bind fun y1_16 =>
  getN.bind fun n_17 =>
  (qrun (visB n_13 [(n_15, n_17, true), (n_13, n_15, true)]) (callV (cfg G) call 96 [y0_14, y1_16])).bind fun y2_18 =>
  getN.bind fun n_19 =>
  (M.lift (unV .not y2_18)).bind fun y3_20 =>
  getN.bind fun n_21 =>
  (M.ret y3_20).bind fun y4_22 =>
  getN.bind fun n_23 =>
  (guardV y4_22 false (M.lift (padd 0 t7_11))).bind fun y5_24 =>
  getN.bind fun n_25 =>
  (guardV y4_22 false (load1 y5_24)).bind fun y6_26 =>
  getN.bind fun n_27 =>
  (guardV y4_22 false (M.lift (aidxV 8 1 t5_2 y6_26))).bind fun y7_28 =>
  getN.bind fun n_29 =>
  (guardV y4_22 false (load1 y7_28)).bind fun y8_30 =>
  getN.bind fun n_31 =>
  (M.lift (pickV y4_22 (V.bool true) y8_30)).bind fun y9_32 =>
  getN.bind fun n_33 =>
  (M.ret y9_32).bind fun y10_34 =>
  getN.bind fun n_35 =>
  (guardV y10_34 false (M.ret t6_12)).bind fun y11_36 =>
  getN.bind fun n_37 =>
  (guardV y10_34 false (M.lift (arithV .gtr y11_36 (V.int .i64 0)))).bind fun y12_38 =>
  getN.bind fun n_39 =>
  (guardV y10_34 false (M.ret y12_38)).bind fun y13_40 =>
  getN.bind fun n_41 =>
  (guardV y13_40 true (M.ret x0)).bind fun y14_42 =>
  getN.bind fun n_43 =>
  (guardV y13_40 true (M.ret t6_12)).bind fun y15_44 =>
  getN.bind fun n_45 =>
  (guardV y13_40 true (M.lift (arithV .sub y15_44 (V.int .i64 1)))).bind fun y16_46 =>
  getN.bind fun n_47 =>
  (guardV y13_40 true (M.lift (idxV 2 y14_42 y16_46))).bind fun y17_48 =>
  getN.bind fun n_49 =>
  (guardV y13_40 true (loadN 2 y17_48)).bind fun y18_50 =>
  getN.bind fun n_51 =>
  (guardV y13_40 true (loadN 2 t7_11)).bind fun y19_52 =>
  getN.bind fun n_53 =>
  (qrun (visB n_13 [(n_51, n_53, true), (n_49, n_51, true), (n_47, n_49, true), (n_45, n_47, true), (n_43, n_45, true), (n_41, n_43, true), (n_39, n_41, true), (n_37, n_39, true), (n_35, n_37, true), (n_33, n_35, true), (n_31, n_33, true), (n_29, n_31, true), (n_27, n_29, true), (n_25, n_27, true), (n_23, n_25, true), (n_21, n_23, true), (n_19, n_21, true), (n_17, n_19, true), (n_15, n_17, true), (n_13, n_15, true)]) (guardV y13_40 true (callV (cfg G) call 99 [y18_50, y19_52]))).bind fun y20_54 =>
  (guardV y13_40 true (M.lift (arithV .geq y20_54 (V.int .i64 0)))).bind fun y21_55 =>
  (guardV y10_34 false (M.lift (pickV y13_40 y21_55 (V.bool false)))).bind fun y22_56 =>
  (M.lift (pickV y10_34 (V.bool true) y22_56)).bind fun y23_57 =>
  (condV y23_57
   ((M.ret (V.bool false)).bind fun t4_58 =>
  M.ret (Ex.ret, [t4_58, (s0_6.getD 1 V.undef)]))
   ((M.lift (padd 0 t7_11)).bind fun t39_59 =>
  (load1 t39_59).bind fun t40_60 =>
  (M.lift (aidxV 8 1 t5_2 t40_60)).bind fun t41_61 =>
  (storeN 1 t41_61 (V.bool true)).bind fun _ =>
  (M.lift (arithV .add (s0_6.getD 1 V.undef) (V.int .i64 1))).bind fun t42_62 =>
  (M.ret t42_62).bind fun t10_63 =>
  M.ret (Ex.normal, [(s0_6.getD 0 V.undef), t10_63])))))
   (M.ret ((Ex.exit 0), [(s0_6.getD 0 V.undef), (s0_6.getD 1 V.undef)])))

noncomputable def ferry_timer_good (G : Nat → Option (List V)) (call : FuncId → List V → M V) (x0 : V) (x1 : V) : M R :=
  (M.ret (V.bool false)).bind fun t4_1 =>
  (newV (.agg [(V.bool false), (V.bool false), (V.bool false), (V.bool false), (V.bool false), (V.bool false), (V.bool false), (V.bool false)])).bind fun t5_2 =>
  (M.ret x0).bind fun t8_3 =>
  (M.lift (lenV t8_3)).bind fun t9_4 =>
  (M.ret (V.int .i64 0)).bind fun t10_5 =>
  (loopV (ferry_timer_good_l1 G call t9_4 t8_3 x1 t5_2 x0) [t4_1, t10_5]).bind fun r0_64 => match r0_64.1 with
  | .normal => M.fail
  | .exit k0_65 =>
    (if k0_65 = 0 then
    (M.ret (V.bool true)).bind fun t4_66 =>
    M.ret (Ex.ret, [t4_66])
    else M.fail)
  | .ret =>
    M.ret (Ex.ret, [(r0_64.2.getD 0 V.undef)])

theorem ferry_timer_good_eq (G : Nat → Option (List V)) (n : Nat) (x0 : V) (x1 : V) : sem (cfg G) (n + 1) 95 [x0, x1] = outV (ferry_timer_good G (sem (cfg G) n) x0 x1) :=
  (fnV_at (C := cfg G) (n := n) (f := 95) (fn := Tryd.f95) (c := Tryd.f95.body.getD .skip) (by kernel_rfl) (by kernel_rfl) (by kernel_rfl) [x0, x1]).trans (by kernel_rfl)

noncomputable def ferry_timer_right (G : Nat → Option (List V)) (call : FuncId → List V → M V) (x0 : V) (x1 : V) : M R :=
  (newV x0).bind fun t2_1 =>
  (M.ret (V.bool false)).bind fun t4_2 =>
  (M.lift (padd 0 t2_1)).bind fun t5_3 =>
  (load1 t5_3).bind fun t6_4 =>
  (M.lift (arithV .geq t6_4 (V.int .i64 0))).bind fun t7_5 =>
  (M.ret t7_5).bind fun t8_6 =>
  (guardV t8_6 true (M.lift (padd 0 t2_1))).bind fun t9_7 =>
  (guardV t8_6 true (load1 t9_7)).bind fun t10_8 =>
  (guardV t8_6 true (M.ret x1)).bind fun t11_9 =>
  (guardV t8_6 true (M.lift (arithV .lss t10_8 t11_9))).bind fun t12_10 =>
  (M.lift (pickV t8_6 t12_10 (V.bool false))).bind fun t13_11 =>
  (M.ret t13_11).bind fun t14_12 =>
  (guardV t14_12 true (M.lift (padd 1 t2_1))).bind fun t15_13 =>
  (guardV t14_12 true (load1 t15_13)).bind fun t16_14 =>
  (guardV t14_12 true (M.lift (arithV .geq t16_14 (V.int .i64 0)))).bind fun t17_15 =>
  (M.lift (pickV t14_12 t17_15 (V.bool false))).bind fun t18_16 =>
  (M.ret t18_16).bind fun t19_17 =>
  (guardV t19_17 true (M.lift (padd 1 t2_1))).bind fun t20_18 =>
  (guardV t19_17 true (load1 t20_18)).bind fun t21_19 =>
  (guardV t19_17 true (M.lift (arithV .leq t21_19 (V.int .i64 1010000)))).bind fun t22_20 =>
  (M.lift (pickV t19_17 t22_20 (V.bool false))).bind fun t23_21 =>
  (M.ret t23_21).bind fun t4_22 =>
  M.ret (Ex.ret, [t4_22])

theorem ferry_timer_right_eq (G : Nat → Option (List V)) (n : Nat) (x0 : V) (x1 : V) : sem (cfg G) (n + 1) 96 [x0, x1] = outV (ferry_timer_right G (sem (cfg G) n) x0 x1) :=
  (fnV_at (C := cfg G) (n := n) (f := 96) (fn := Tryd.f96) (c := Tryd.f96.body.getD .skip) (by kernel_rfl) (by kernel_rfl) (by kernel_rfl) [x0, x1]).trans (by kernel_rfl)

noncomputable def ferry_timer_compare (G : Nat → Option (List V)) (call : FuncId → List V → M V) (x0 : V) (x1 : V) : M R :=
  (newV x0).bind fun t2_1 =>
  (newV x1).bind fun t3_2 =>
  (M.ret (V.int .i64 0)).bind fun t4_3 =>
  (getN.bind fun n_4 =>
  (M.lift (padd 1 t2_1)).bind fun y0_5 =>
  getN.bind fun n_6 =>
  (load1 y0_5).bind fun y1_7 =>
  getN.bind fun n_8 =>
  (M.lift (padd 1 t3_2)).bind fun y2_9 =>
  getN.bind fun n_10 =>
  (load1 y2_9).bind fun y3_11 =>
  getN.bind fun n_12 =>
  (qrun (visB n_4 [(n_10, n_12, true), (n_8, n_10, true), (n_6, n_8, true), (n_4, n_6, true)]) (callV (cfg G) call 121 [y1_7, y3_11])).bind fun y4_13 =>
  getN.bind fun n_14 =>
  (M.lift (padd 0 t2_1)).bind fun y5_15 =>
  getN.bind fun n_16 =>
  (load1 y5_15).bind fun y6_17 =>
  getN.bind fun n_18 =>
  (M.lift (padd 0 t3_2)).bind fun y7_19 =>
  getN.bind fun n_20 =>
  (load1 y7_19).bind fun y8_21 =>
  getN.bind fun n_22 =>
  (qrun (visB n_4 [(n_20, n_22, true), (n_18, n_20, true), (n_16, n_18, true), (n_14, n_16, true), (n_12, n_14, true), (n_10, n_12, true), (n_8, n_10, true), (n_6, n_8, true), (n_4, n_6, true)]) (callV (cfg G) call 121 [y6_17, y8_21])).bind fun y9_23 =>
  getN.bind fun n_24 =>
  (sliceV 1 2 [(V.int .i64 0)] [(0, y4_13), (1, y9_23)]).bind fun y10_25 =>
  getN.bind fun n_26 =>
  (qrun (visB n_4 [(n_24, n_26, true), (n_22, n_24, true), (n_20, n_22, true), (n_18, n_20, true), (n_16, n_18, true), (n_14, n_16, true), (n_12, n_14, true), (n_10, n_12, true), (n_8, n_10, true), (n_6, n_8, true), (n_4, n_6, true)]) (callV (cfg G) call 120 [y10_25])).bind fun y11_27 =>
  (M.ret y11_27).bind fun y12_28 =>
  M.ret (Ex.ret, [y12_28]))

theorem ferry_timer_compare_eq (G : Nat → Option (List V)) (n : Nat) (x0 : V) (x1 : V) : sem (cfg G) (n + 1) 99 [x0, x1] = outV (ferry_timer_compare G (sem (cfg G) n) x0 x1) :=
  (fnV_at (C := cfg G) (n := n) (f := 99) (fn := Tryd.f99) (c := Tryd.f99.body.getD .skip) (by kernel_rfl) (by kernel_rfl) (by kernel_rfl) [x0, x1]).trans (by kernel_rfl)

noncomputable def cmp_Compare_int (G : Nat → Option (List V)) (call : FuncId → List V → M V) (x0 : V) (x1 : V) : M R :=
  (M.ret (V.int .i64 0)).bind fun t4_1 =>
  (M.ret x0).bind fun t7_2 =>
  (callV (cfg G) call 144 [t7_2]).bind fun t8_3 =>
  (M.ret t8_3).bind fun t5_4 =>
  (M.ret x1).bind fun t9_5 =>
  (callV (cfg G) call 144 [t9_5]).bind fun t10_6 =>
  (M.ret t10_6).bind fun t6_7 =>
  (M.ret t5_4).bind fun t11_8 =>
  (condV t11_8
   ((M.ret t6_7).bind fun t12_9 =>
  (condV t12_9
   ((M.ret (V.int .i64 0)).bind fun t4_10 =>
  M.ret (Ex.ret, [t4_10]))
   ((M.ret (V.int .i64 (-1))).bind fun t4_11 =>
  M.ret (Ex.ret, [t4_11]))))
   ((M.ret t6_7).bind fun t13_12 =>
  (condV t13_12
   ((M.ret (V.int .i64 1)).bind fun t4_13 =>
  M.ret (Ex.ret, [t4_13]))
   ((M.ret x0).bind fun t14_14 =>
  (M.ret x1).bind fun t15_15 =>
  (M.lift (arithV .lss t14_14 t15_15)).bind fun t16_16 =>
  (condV t16_16
   ((M.ret (V.int .i64 (-1))).bind fun t4_17 =>
  M.ret (Ex.ret, [t4_17]))
   ((M.ret x0).bind fun t17_18 =>
  (M.ret x1).bind fun t18_19 =>
  (M.lift (arithV .gtr t17_18 t18_19)).bind fun t19_20 =>
  (condV t19_20
   ((M.ret (V.int .i64 1)).bind fun t4_21 =>
  M.ret (Ex.ret, [t4_21]))
   ((M.ret (V.int .i64 0)).bind fun t4_22 =>
  M.ret (Ex.ret, [t4_22])))))))))

theorem cmp_Compare_int_eq (G : Nat → Option (List V)) (n : Nat) (x0 : V) (x1 : V) : sem (cfg G) (n + 1) 121 [x0, x1] = outV (cmp_Compare_int G (sem (cfg G) n) x0 x1) :=
  (fnV_at (C := cfg G) (n := n) (f := 121) (fn := Tryd.f121) (c := Tryd.f121.body.getD .skip) (by kernel_rfl) (by kernel_rfl) (by kernel_rfl) [x0, x1]).trans (by kernel_rfl)

noncomputable def cmp_Or_int_l1 (G : Nat → Option (List V)) (call : FuncId → List V → M V) (t7_4 : V) (t6_3 : V) (t3_2 : V) (s0_6 : List V) : M R :=
  (M.lift (arithV .lss (s0_6.getD 1 V.undef) t7_4)).bind fun t9_7 =>
  (condV t9_7
   ((M.lift (idxV 1 t6_3 (s0_6.getD 1 V.undef))).bind fun t10_8 =>
  (load1 t10_8).bind fun t11_9 =>
  (M.ret t11_9).bind fun t5_10 =>
  (M.ret t5_10).bind fun t12_11 =>
  (M.ret t3_2).bind fun t13_12 =>
  (M.lift ((eqV (.sc .int) false t12_11 t13_12).bind fun b => some (.bool !b))).bind fun t14_13 =>
  (condV t14_13
   ((M.ret t5_10).bind fun t15_14 =>
  (M.ret t15_14).bind fun t2_15 =>
  M.ret (Ex.ret, [t2_15, (s0_6.getD 1 V.undef)]))
   ((M.lift (arithV .add (s0_6.getD 1 V.undef) (V.int .i64 1))).bind fun t16_16 =>
  (M.ret t16_16).bind fun t8_17 =>
  M.ret (Ex.normal, [(s0_6.getD 0 V.undef), t8_17]))))
   (M.ret ((Ex.exit 0), [(s0_6.getD 0 V.undef), (s0_6.getD 1 V.undef)])))

noncomputable def cmp_Or_int (G : Nat → Option (List V)) (call : FuncId → List V → M V) (x0 : V) : M R :=
  (M.ret (V.int .i64 0)).bind fun t2_1 =>
  (M.ret (V.int .i64 0)).bind fun t3_2 =>
  (M.ret x0).bind fun t6_3 =>
  (M.lift (lenV t6_3)).bind fun t7_4 =>
  (M.ret (V.int .i64 0)).bind fun t8_5 =>
  (loopV (cmp_Or_int_l1 G call t7_4 t6_3 t3_2) [t2_1, t8_5]).bind fun r0_18 => match r0_18.1 with
  | .normal => M.fail
  | .exit k0_19 =>
    (if k0_19 = 0 then
    (M.ret t3_2).bind fun t17_20 =>
    (M.ret t17_20).bind fun t2_21 =>
    M.ret (Ex.ret, [t2_21])
    else M.fail)
  | .ret =>
    M.ret (Ex.ret, [(r0_18.2.getD 0 V.undef)])

theorem cmp_Or_int_eq (G : Nat → Option (List V)) (n : Nat) (x0 : V) : sem (cfg G) (n + 1) 120 [x0] = outV (cmp_Or_int G (sem (cfg G) n) x0) :=
  (fnV_at (C := cfg G) (n := n) (f := 120) (fn := Tryd.f120) (c := Tryd.f120.body.getD .skip) (by kernel_rfl) (by kernel_rfl) (by kernel_rfl) [x0]).trans (by kernel_rfl)

noncomputable def cmp_isNaN_int (G : Nat → Option (List V)) (call : FuncId → List V → M V) (x0 : V) : M R :=
  (M.ret (V.bool false)).bind fun t2_1 =>
  (M.ret x0).bind fun t3_2 =>
  (M.ret x0).bind fun t4_3 =>
  (M.lift ((eqV (.sc .int) false t3_2 t4_3).bind fun b => some (.bool !b))).bind fun t5_4 =>
  (M.ret t5_4).bind fun t2_5 =>
  M.ret (Ex.ret, [t2_5])

theorem cmp_isNaN_int_eq (G : Nat → Option (List V)) (n : Nat) (x0 : V) : sem (cfg G) (n + 1) 144 [x0] = outV (cmp_isNaN_int G (sem (cfg G) n) x0) :=
  (fnV_at (C := cfg G) (n := n) (f := 144) (fn := Tryd.f144) (c := Tryd.f144.body.getD .skip) (by kernel_rfl) (by kernel_rfl) (by kernel_rfl) [x0]).trans (by kernel_rfl)

noncomputable def ferry_timer_Find_l1 (G : Nat → Option (List V)) (call : FuncId → List V → M V) (t9_4 : V) (t8_3 : V) (x1 : V) (s0_6 : List V) : M R :=
  (M.lift (arithV .lss (s0_6.getD 2 V.undef) t9_4)).bind fun t11_7 =>
  (condV t11_7
   ((M.lift (idxV 2 t8_3 (s0_6.getD 2 V.undef))).bind fun t12_8 =>
  (loadN 2 t12_8).bind fun t13_9 =>
  (newV (.agg [(V.int .i64 0), (V.int .i64 0)])).bind fun t7_10 =>
  (storeN 2 t7_10 t13_9).bind fun _ =>
  (M.lift (padd 0 t7_10)).bind fun t14_11 =>
  (load1 t14_11).bind fun t15_12 =>
  (M.ret x1).bind fun t16_13 =>
  (M.lift ((eqV (.sc .int) false t15_12 t16_13).bind fun b => some (.bool b))).bind fun t17_14 =>
  (condV t17_14
   ((M.lift (padd 1 t7_10)).bind fun t18_15 =>
  (load1 t18_15).bind fun t19_16 =>
  (M.ret t19_16).bind fun t4_17 =>
  (M.ret (V.bool true)).bind fun t5_18 =>
  M.ret (Ex.ret, [t4_17, t5_18, (s0_6.getD 2 V.undef)]))
   ((M.lift (arithV .add (s0_6.getD 2 V.undef) (V.int .i64 1))).bind fun t20_19 =>
  (M.ret t20_19).bind fun t10_20 =>
  M.ret (Ex.normal, [(s0_6.getD 0 V.undef), (s0_6.getD 1 V.undef), t10_20]))))
   (M.ret ((Ex.exit 0), [(s0_6.getD 0 V.undef), (s0_6.getD 1 V.undef), (s0_6.getD 2 V.undef)])))

noncomputable def ferry_timer_Find (G : Nat → Option (List V)) (call : FuncId → List V → M V) (x0 : V) (x1 : V) : M R :=
  (M.ret (V.int .i64 0)).bind fun t4_1 =>
  (M.ret (V.bool false)).bind fun t5_2 =>
  (M.ret x0).bind fun t8_3 =>
  (M.lift (lenV t8_3)).bind fun t9_4 =>
  (M.ret (V.int .i64 0)).bind fun t10_5 =>
  (loopV (ferry_timer_Find_l1 G call t9_4 t8_3 x1) [t4_1, t5_2, t10_5]).bind fun r0_21 => match r0_21.1 with
  | .normal => M.fail
  | .exit k0_22 =>
    (if k0_22 = 0 then
    (M.ret (V.int .i64 0)).bind fun t4_23 =>
    (M.ret (V.bool false)).bind fun t5_24 =>
    M.ret (Ex.ret, [V.tuple [t4_23, t5_24]])
    else M.fail)
  | .ret =>
    M.ret (Ex.ret, [V.tuple [(r0_21.2.getD 0 V.undef), (r0_21.2.getD 1 V.undef)]])

theorem ferry_timer_Find_eq (G : Nat → Option (List V)) (n : Nat) (x0 : V) (x1 : V) : sem (cfg G) (n + 1) 61 [x0, x1] = outV (ferry_timer_Find G (sem (cfg G) n) x0 x1) :=
  (fnV_at (C := cfg G) (n := n) (f := 61) (fn := Tryd.f61) (c := Tryd.f61.body.getD .skip) (by kernel_rfl) (by kernel_rfl) (by kernel_rfl) [x0, x1]).trans (by kernel_rfl)

noncomputable def ferry_ready_goodProc (G : Nat → Option (List V)) (call : FuncId → List V → M V) (x0 : V) : M R :=
  (newV x0).bind fun t1_1 =>
  (M.ret (V.bool false)).bind fun t2_2 =>
  (M.lift (padd 0 t1_1)).bind fun t4_3 =>
  (M.lift (aidxV 16 1 t4_3 (V.int .i64 0))).bind fun t5_4 =>
  (load1 t5_4).bind fun t6_5 =>
  (M.lift ((eqV (.sc .int) true t6_5 (V.int .u32 0)).bind fun b => some (.bool !b))).bind fun t7_6 =>
  (M.ret t7_6).bind fun t8_7 =>
  (guardV t8_7 false (M.lift (padd 17 t1_1))).bind fun t9_8 =>
  (guardV t8_7 false (load1 t9_8)).bind fun t10_9 =>
  (guardV t8_7 false (M.lift (arithV .lss t10_9 (V.int .i64 0)))).bind fun t11_10 =>
  (M.lift (pickV t8_7 (V.bool true) t11_10)).bind fun t12_11 =>
  (M.ret t12_11).bind fun t13_12 =>
  (guardV t13_12 false (M.lift (padd 17 t1_1))).bind fun t14_13 =>
  (guardV t13_12 false (load1 t14_13)).bind fun t15_14 =>
  (guardV t13_12 false (M.lift (arithV .gtr t15_14 (V.int .i64 3)))).bind fun t16_15 =>
  (M.lift (pickV t13_12 (V.bool true) t16_15)).bind fun t17_16 =>
  (M.ret t17_16).bind fun t18_17 =>
  (guardV t18_17 false (M.lift (padd 18 t1_1))).bind fun t19_18 =>
  (guardV t18_17 false (load1 t19_18)).bind fun t20_19 =>
  (guardV t18_17 false (M.lift (arithV .lss t20_19 (V.int .i64 0)))).bind fun t21_20 =>
  (M.lift (pickV t18_17 (V.bool true) t21_20)).bind fun t22_21 =>
  (M.ret t22_21).bind fun t23_22 =>
  (guardV t23_22 false (M.lift (padd 18 t1_1))).bind fun t24_23 =>
  (guardV t23_22 false (load1 t24_23)).bind fun t25_24 =>
  (guardV t23_22 false (M.lift (arithV .gtr t25_24 (V.int .i64 255)))).bind fun t26_25 =>
  (M.lift (pickV t23_22 (V.bool true) t26_25)).bind fun t27_26 =>
  (M.ret t27_26).bind fun t3_27 =>
  (condV t3_27
   ((M.ret (V.bool false)).bind fun t2_28 =>
  M.ret (Ex.ret, [t2_28]))
   ((M.lift (padd 19 t1_1)).bind fun t29_29 =>
  (load1 t29_29).bind fun t30_30 =>
  (M.lift (arithV .lss t30_30 (V.int .i64 0))).bind fun t31_31 =>
  (M.ret t31_31).bind fun t32_32 =>
  (guardV t32_32 false (M.lift (padd 19 t1_1))).bind fun t33_33 =>
  (guardV t32_32 false (load1 t33_33)).bind fun t34_34 =>
  (guardV t32_32 false (M.lift (arithV .gtr t34_34 (V.int .i64 4)))).bind fun t35_35 =>
  (M.lift (pickV t32_32 (V.bool true) t35_35)).bind fun t36_36 =>
  (M.ret t36_36).bind fun t37_37 =>
  (guardV t37_37 false (M.lift (padd 19 t1_1))).bind fun t38_38 =>
  (guardV t37_37 false (load1 t38_38)).bind fun t39_39 =>
  (guardV t37_37 false (M.lift ((eqV (.sc .int) true t39_39 (V.int .i64 0)).bind fun b => some (.bool !b)))).bind fun t40_40 =>
  (guardV t37_37 false (M.lift (padd 17 t1_1))).bind fun t41_41 =>
  (guardV t37_37 false (load1 t41_41)).bind fun t42_42 =>
  (guardV t37_37 false (M.lift ((eqV (.sc .int) true t42_42 (V.int .i64 2)).bind fun b => some (.bool b)))).bind fun t43_43 =>
  (guardV t37_37 false (M.lift ((eqV (.sc .bool) false t40_40 t43_43).bind fun b => some (.bool !b)))).bind fun t44_44 =>
  (M.lift (pickV t37_37 (V.bool true) t44_44)).bind fun t45_45 =>
  (M.ret t45_45).bind fun t46_46 =>
  (guardV t46_46 false (M.lift (padd 20 t1_1))).bind fun t47_47 =>
  (guardV t46_46 false (load1 t47_47)).bind fun t48_48 =>
  (guardV t46_46 false (M.lift (arithV .lss t48_48 (V.int .i64 0)))).bind fun t49_49 =>
  (M.lift (pickV t46_46 (V.bool true) t49_49)).bind fun t50_50 =>
  (M.ret t50_50).bind fun t28_51 =>
  (condV t28_51
   ((M.ret (V.bool false)).bind fun t2_52 =>
  M.ret (Ex.ret, [t2_52]))
   ((M.lift (padd 20 t1_1)).bind fun t51_53 =>
  (load1 t51_53).bind fun t52_54 =>
  (M.lift ((eqV (.sc .int) true t52_54 (V.int .i64 0)).bind fun b => some (.bool b))).bind fun t53_55 =>
  (M.ret t53_55).bind fun t54_56 =>
  (guardV t54_56 false (M.lift (padd 19 t1_1))).bind fun t55_57 =>
  (guardV t54_56 false (load1 t55_57)).bind fun t56_58 =>
  (guardV t54_56 false (M.lift ((eqV (.sc .int) true t56_58 (V.int .i64 0)).bind fun b => some (.bool !b)))).bind fun t57_59 =>
  (guardV t54_56 false (M.ret t57_59)).bind fun t58_60 =>
  (guardV t58_60 true (M.lift (padd 19 t1_1))).bind fun t59_61 =>
  (guardV t58_60 true (load1 t59_61)).bind fun t60_62 =>
  (guardV t58_60 true (M.lift ((eqV (.sc .int) true t60_62 (V.int .i64 1)).bind fun b => some (.bool !b)))).bind fun t61_63 =>
  (guardV t54_56 false (M.lift (pickV t58_60 t61_63 (V.bool false)))).bind fun t62_64 =>
  (M.lift (pickV t54_56 (V.bool true) t62_64)).bind fun t63_65 =>
  (M.ret t63_65).bind fun t2_66 =>
  M.ret (Ex.ret, [t2_66])))))

theorem ferry_ready_goodProc_eq (G : Nat → Option (List V)) (n : Nat) (x0 : V) : sem (cfg G) (n + 1) 90 [x0] = outV (ferry_ready_goodProc G (sem (cfg G) n) x0) :=
  (fnV_at (C := cfg G) (n := n) (f := 90) (fn := Tryd.f90) (c := Tryd.f90.body.getD .skip) (by kernel_rfl) (by kernel_rfl) (by kernel_rfl) [x0]).trans (by kernel_rfl)

noncomputable def ferry_ready_goodQueue_l1 (G : Nat → Option (List V)) (call : FuncId → List V → M V) (t10_6 : V) (t9_5 : V) (t1_1 : V) (t3_3 : V) (s0_8 : List V) : M R :=
  (M.lift (arithV .lss (s0_8.getD 1 V.undef) t10_6)).bind fun t12_9 =>
  (condV t12_9
   ((M.lift (idxV 1 t9_5 (s0_8.getD 1 V.undef))).bind fun t13_10 =>
  (load1 t13_10).bind fun t14_11 =>
  (M.ret t14_11).bind fun t5_12 =>
  (M.ret t5_12).bind fun t15_13 =>
  (M.lift (arithV .lss t15_13 (V.int .i64 0))).bind fun t16_14 =>
  (M.ret t16_14).bind fun t17_15 =>
  (guardV t17_15 false (M.ret t5_12)).bind fun t18_16 =>
  (guardV t17_15 false (M.lift (padd 0 t1_1))).bind fun t19_17 =>
  (guardV t17_15 false (load1 t19_17)).bind fun t20_18 =>
  (guardV t17_15 false (M.lift (lenV t20_18))).bind fun t21_19 =>
  (guardV t17_15 false (M.lift (arithV .geq t18_16 t21_19))).bind fun t22_20 =>
  (M.lift (pickV t17_15 (V.bool true) t22_20)).bind fun t23_21 =>
  (M.ret t23_21).bind fun t24_22 =>
  (guardV t24_22 false (M.ret t5_12)).bind fun t25_23 =>
  (guardV t24_22 false (M.lift (aidxV 8 1 t3_3 t25_23))).bind fun t26_24 =>
  (guardV t24_22 false (load1 t26_24)).bind fun t27_25 =>
  (M.lift (pickV t24_22 (V.bool true) t27_25)).bind fun t28_26 =>
  (M.ret t28_26).bind fun t29_27 =>
  (guardV t29_27 false (M.lift (padd 0 t1_1))).bind fun t30_28 =>
  (guardV t29_27 false (load1 t30_28)).bind fun t31_29 =>
  (guardV t29_27 false (M.ret t5_12)).bind fun t32_30 =>
  (guardV t29_27 false (M.lift (idxV 21 t31_29 t32_30))).bind fun t33_31 =>
  (guardV t29_27 false (M.lift (padd 17 t33_31))).bind fun t34_32 =>
  (guardV t29_27 false (load1 t34_32)).bind fun t35_33 =>
  (guardV t29_27 false (M.lift ((eqV (.sc .int) true t35_33 (V.int .i64 1)).bind fun b => some (.bool !b)))).bind fun t36_34 =>
  (M.lift (pickV t29_27 (V.bool true) t36_34)).bind fun t37_35 =>
  (condV t37_35
   ((M.ret (V.bool false)).bind fun t2_36 =>
  M.ret (Ex.ret, [t2_36, (s0_8.getD 1 V.undef)]))
   ((M.ret t5_12).bind fun t38_37 =>
  (M.lift (aidxV 8 1 t3_3 t38_37)).bind fun t39_38 =>
  (storeN 1 t39_38 (V.bool true)).bind fun _ =>
  (M.lift (arithV .add (s0_8.getD 1 V.undef) (V.int .i64 1))).bind fun t40_39 =>
  (M.ret t40_39).bind fun t11_40 =>
  M.ret (Ex.normal, [(s0_8.getD 0 V.undef), t11_40]))))
   (M.ret ((Ex.exit 0), [(s0_8.getD 0 V.undef), (s0_8.getD 1 V.undef)])))

noncomputable def ferry_ready_goodQueue_l2 (G : Nat → Option (List V)) (call : FuncId → List V → M V) (t43_45 : V) (t42_44 : V) (t3_3 : V) (s0_47 : List V) : M R :=
  (M.lift (arithV .lss (s0_47.getD 1 V.undef) t43_45)).bind fun t45_48 =>
  (condV t45_48
   ((M.ret (s0_47.getD 1 V.undef)).bind fun t46_49 =>
  (M.lift (idxV 21 t42_44 (s0_47.getD 1 V.undef))).bind fun t47_50 =>
  (loadN 21 t47_50).bind fun t48_51 =>
  (newV (.agg [(V.int .u32 0), (V.int .u32 0), (V.int .u32 0), (V.int .u32 0), (V.int .u32 0), (V.int .u32 0), (V.int .u32 0), (V.int .u32 0), (V.int .u32 0), (V.int .u32 0), (V.int .u32 0), (V.int .u32 0), (V.int .u32 0), (V.int .u32 0), (V.int .u32 0), (V.int .u32 0), (V.int .u32 0), (V.int .i64 0), (V.int .i64 0), (V.int .i64 0), (V.int .i64 0)])).bind fun t7_52 =>
  (M.ret t46_49).bind fun t6_53 =>
  (storeN 21 t7_52 t48_51).bind fun _ =>
  (M.lift (padd 17 t7_52)).bind fun t49_54 =>
  (load1 t49_54).bind fun t50_55 =>
  (M.lift ((eqV (.sc .int) true t50_55 (V.int .i64 1)).bind fun b => some (.bool b))).bind fun t51_56 =>
  (M.ret t51_56).bind fun t52_57 =>
  (guardV t52_57 true (M.ret t6_53)).bind fun t53_58 =>
  (guardV t52_57 true (M.lift (aidxV 8 1 t3_3 t53_58))).bind fun t54_59 =>
  (guardV t52_57 true (load1 t54_59)).bind fun t55_60 =>
  (guardV t52_57 true (M.lift (unV .not t55_60))).bind fun t56_61 =>
  (M.lift (pickV t52_57 t56_61 (V.bool false))).bind fun t57_62 =>
  (condV t57_62
   ((M.ret (V.bool false)).bind fun t2_63 =>
  M.ret (Ex.ret, [t2_63, (s0_47.getD 1 V.undef)]))
   ((M.lift (arithV .add (s0_47.getD 1 V.undef) (V.int .i64 1))).bind fun t58_64 =>
  (M.ret t58_64).bind fun t44_65 =>
  M.ret (Ex.normal, [(s0_47.getD 0 V.undef), t44_65]))))
   (M.ret ((Ex.exit 2), [(s0_47.getD 0 V.undef), (s0_47.getD 1 V.undef)])))

noncomputable def ferry_ready_goodQueue (G : Nat → Option (List V)) (call : FuncId → List V → M V) (x0 : V) : M R :=
  (newV x0).bind fun t1_1 =>
  (M.ret (V.bool false)).bind fun t2_2 =>
  (newV (.agg [(V.bool false), (V.bool false), (V.bool false), (V.bool false), (V.bool false), (V.bool false), (V.bool false), (V.bool false)])).bind fun t3_3 =>
  (M.lift (padd 1 t1_1)).bind fun t8_4 =>
  (load1 t8_4).bind fun t9_5 =>
  (M.lift (lenV t9_5)).bind fun t10_6 =>
  (M.ret (V.int .i64 0)).bind fun t11_7 =>
  (loopV (ferry_ready_goodQueue_l1 G call t10_6 t9_5 t1_1 t3_3) [t2_2, t11_7]).bind fun r0_41 => match r0_41.1 with
  | .normal => M.fail
  | .exit k0_42 =>
    (if k0_42 = 0 then
    (M.lift (padd 0 t1_1)).bind fun t41_43 =>
    (load1 t41_43).bind fun t42_44 =>
    (M.lift (lenV t42_44)).bind fun t43_45 =>
    (M.ret (V.int .i64 0)).bind fun t44_46 =>
    (loopV (ferry_ready_goodQueue_l2 G call t43_45 t42_44 t3_3) [(r0_41.2.getD 0 V.undef), t44_46]).bind fun r0_66 => match r0_66.1 with
    | .normal => M.fail
    | .exit k0_67 =>
      (if k0_67 = 2 then
      (M.ret (V.bool true)).bind fun t2_68 =>
      M.ret (Ex.ret, [t2_68])
      else M.fail)
    | .ret =>
      M.ret (Ex.ret, [(r0_66.2.getD 0 V.undef)])
    else M.fail)
  | .ret =>
    M.ret (Ex.ret, [(r0_41.2.getD 0 V.undef)])

theorem ferry_ready_goodQueue_eq (G : Nat → Option (List V)) (n : Nat) (x0 : V) : sem (cfg G) (n + 1) 91 [x0] = outV (ferry_ready_goodQueue G (sem (cfg G) n) x0) :=
  (fnV_at (C := cfg G) (n := n) (f := 91) (fn := Tryd.f91) (c := Tryd.f91.body.getD .skip) (by kernel_rfl) (by kernel_rfl) (by kernel_rfl) [x0]).trans (by kernel_rfl)

end Go.Fv.Tr

/-
  The Go functions ferry/ready.Halt, ferry/ready.Start, ferry/ready.Rank, ferry/ferryref09.isIn, ferry/ferryref09.out, ferry/ferryref09.Yield, ferry/ferryref09.Block, ferry/ferryref09.Wake, ferry/ferryref09.Halt, ferry/ferryref09.Start, ferry/ferryref09.Rank as plain terms. By an AI agent; no person has read it.
-/
import Derived.Test.YtjjiphigolegbabGreatDoorFvCf
set_option linter.unusedVariables false
set_option linter.unusedSimpArgs false
set_option linter.unusedSectionVars false
/-! The Go functions ferry/ready.Halt, ferry/ready.Start, ferry/ready.Rank, ferry/ferryref09.isIn, ferry/ferryref09.out, ferry/ferryref09.Yield, ferry/ferryref09.Block, ferry/ferryref09.Wake, ferry/ferryref09.Halt, ferry/ferryref09.Start, ferry/ferryref09.Rank as plain terms. -/
namespace Go.Fv.Tr
open Go Go.Fv Go.Proofs
set_option linter.unusedVariables false
set_option maxRecDepth 20000

noncomputable def ferry_ready_Halt (G : Nat → Option (List V)) (call : FuncId → List V → M V) (x0 : V) (x1 : V) (x2 : V) : M R :=
  (newV x0).bind fun t3_1 =>
  (newV (.agg [V.nils, V.nils, V.nils])).bind fun t6_2 =>
  (M.ret V.nili).bind fun t7_3 =>
  (loadN 3 t3_1).bind fun t11_4 =>
  (M.ret x1).bind fun t12_5 =>
  (sliceV 1 1 [(V.int .i64 0)] [(0, (V.int .i64 1))]).bind fun t13_6 =>
  (callV (cfg G) call 34 [t11_4, t12_5, t13_6]).bind fun t14_7 =>
  (M.ret t14_7).bind fun t10_8 =>
  (M.lift (extractV t10_8 0)).bind fun t15_9 =>
  (M.lift (extractV t10_8 1)).bind fun t16_10 =>
  (newV (.agg [V.nils, V.nils, V.nils])).bind fun t8_11 =>
  (storeN 3 t8_11 t15_9).bind fun _ =>
  (M.ret t16_10).bind fun t9_12 =>
  (M.ret t9_12).bind fun t17_13 =>
  (M.lift ((eqV .iface true t17_13 V.nili).bind fun b => some (.bool !b))).bind fun t18_14 =>
  (condV t18_14
   ((M.lift (buildV [V.nils, V.nils, V.nils] [])).bind fun t19_15 =>
  (M.ret t9_12).bind fun t20_16 =>
  (storeN 3 t6_2 t19_15).bind fun _ =>
  (M.ret t20_16).bind fun t7_17 =>
  (((loadN 3 t6_2)).bind fun v => ((M.ret []).bind fun l => M.ret (t7_17 :: l)).bind fun l => M.ret (v :: l)).bind fun l => M.ret (Ex.ret, tupV l))
   ((M.ret x2).bind fun t21_18 =>
  (M.lift ((eqV (.sc .int) true t21_18 (V.int .i64 0)).bind fun b => some (.bool !b))).bind fun t22_19 =>
  (M.ret t22_19).bind fun t23_20 =>
  (guardV t23_20 true (M.ret x2)).bind fun t24_21 =>
  (guardV t23_20 true (M.lift ((eqV (.sc .int) true t24_21 (V.int .i64 3)).bind fun b => some (.bool !b)))).bind fun t25_22 =>
  (M.lift (pickV t23_20 t25_22 (V.bool false))).bind fun t26_23 =>
  (condV t26_23
   (((M.lift (buildV [V.nils, V.nils, V.nils] [])).bind fun y0_24 =>
  (load1 (glob (cfg G) 0)).bind fun y1_25 =>
  guardM (apartV (glob (cfg G) 0) t6_2 && true) (
  (storeN 3 t6_2 y0_24).bind fun _ =>
  (M.ret y1_25).bind fun y3_26 =>
  (((loadN 3 t6_2)).bind fun v => ((M.ret []).bind fun l => M.ret (y3_26 :: l)).bind fun l => M.ret (v :: l)).bind fun l => M.ret (Ex.ret, tupV l))))
   ((M.ret x1).bind fun t29_27 =>
  (callV (cfg G) call 35 [t8_11, t29_27]).bind fun t30_28 =>
  (M.lift (padd 0 t8_11)).bind fun t31_29 =>
  (load1 t31_29).bind fun t32_30 =>
  (M.ret x1).bind fun t33_31 =>
  (M.ret x2).bind fun t34_32 =>
  (M.lift (idxV 21 t32_30 t33_31)).bind fun t35_33 =>
  (M.lift (padd 17 t35_33)).bind fun t36_34 =>
  (storeN 1 t36_34 t34_32).bind fun _ =>
  (loadN 3 t8_11).bind fun t37_35 =>
  (storeN 3 t6_2 t37_35).bind fun _ =>
  (M.ret V.nili).bind fun t7_36 =>
  (((loadN 3 t6_2)).bind fun v => ((M.ret []).bind fun l => M.ret (t7_36 :: l)).bind fun l => M.ret (v :: l)).bind fun l => M.ret (Ex.ret, tupV l)))))

theorem ferry_ready_Halt_eq (G : Nat → Option (List V)) (n : Nat) (x0 : V) (x1 : V) (x2 : V) : sem (cfg G) (n + 1) 17 [x0, x1, x2] = outV (ferry_ready_Halt G (sem (cfg G) n) x0 x1 x2) :=
  (fnV_at (C := cfg G) (n := n) (f := 17) (fn := Tryz.f17) (c := Tryz.f17.body.getD .skip) (by kernel_rfl) (by kernel_rfl) (by kernel_rfl) [x0, x1, x2]).trans (by kernel_rfl)

noncomputable def ferry_ready_Start (G : Nat → Option (List V)) (call : FuncId → List V → M V) (x0 : V) (x1 : V) (x2 : V) (x3 : V) : M R :=
  (newV x0).bind fun t4_1 =>
  (newV (.agg [V.nils, V.nils, V.nils])).bind fun t8_2 =>
  (M.ret V.nili).bind fun t9_3 =>
  (loadN 3 t4_1).bind fun t13_4 =>
  (M.ret x1).bind fun t14_5 =>
  (sliceV 1 2 [(V.int .i64 0)] [(0, (V.int .i64 0)), (1, (V.int .i64 3))]).bind fun t15_6 =>
  (callV (cfg G) call 34 [t13_4, t14_5, t15_6]).bind fun t16_7 =>
  (M.ret t16_7).bind fun t12_8 =>
  (M.lift (extractV t12_8 0)).bind fun t17_9 =>
  (M.lift (extractV t12_8 1)).bind fun t18_10 =>
  (newV (.agg [V.nils, V.nils, V.nils])).bind fun t10_11 =>
  (storeN 3 t10_11 t17_9).bind fun _ =>
  (M.ret t18_10).bind fun t11_12 =>
  (M.ret t11_12).bind fun t19_13 =>
  (M.lift ((eqV .iface true t19_13 V.nili).bind fun b => some (.bool !b))).bind fun t20_14 =>
  (condV t20_14
   ((M.lift (buildV [V.nils, V.nils, V.nils] [])).bind fun t21_15 =>
  (M.ret t11_12).bind fun t22_16 =>
  (storeN 3 t8_2 t21_15).bind fun _ =>
  (M.ret t22_16).bind fun t9_17 =>
  (((loadN 3 t8_2)).bind fun v => ((M.ret []).bind fun l => M.ret (t9_17 :: l)).bind fun l => M.ret (v :: l)).bind fun l => M.ret (Ex.ret, tupV l))
   ((M.ret x3).bind fun t23_18 =>
  (M.lift (arithV .lss t23_18 (V.int .i64 0))).bind fun t24_19 =>
  (M.ret t24_19).bind fun t25_20 =>
  (guardV t25_20 false (M.ret x3)).bind fun t26_21 =>
  (guardV t25_20 false (M.lift (arithV .gtr t26_21 (V.int .i64 255)))).bind fun t27_22 =>
  (M.lift (pickV t25_20 (V.bool true) t27_22)).bind fun t28_23 =>
  (condV t28_23
   (((M.lift (buildV [V.nils, V.nils, V.nils] [])).bind fun y0_24 =>
  (load1 (glob (cfg G) 0)).bind fun y1_25 =>
  guardM (apartV (glob (cfg G) 0) t8_2 && true) (
  (storeN 3 t8_2 y0_24).bind fun _ =>
  (M.ret y1_25).bind fun y3_26 =>
  (((loadN 3 t8_2)).bind fun v => ((M.ret []).bind fun l => M.ret (y3_26 :: l)).bind fun l => M.ret (v :: l)).bind fun l => M.ret (Ex.ret, tupV l))))
   ((M.lift (padd 0 t10_11)).bind fun t31_27 =>
  (load1 t31_27).bind fun t32_28 =>
  (M.ret x1).bind fun t33_29 =>
  (M.ret x2).bind fun t34_30 =>
  (M.ret x3).bind fun t35_31 =>
  (M.lift (buildV [(V.int .u32 0), (V.int .u32 0), (V.int .u32 0), (V.int .u32 0), (V.int .u32 0), (V.int .u32 0), (V.int .u32 0), (V.int .u32 0), (V.int .u32 0), (V.int .u32 0), (V.int .u32 0), (V.int .u32 0), (V.int .u32 0), (V.int .u32 0), (V.int .u32 0), (V.int .u32 0), (V.int .u32 0), (V.int .i64 0), (V.int .i64 0), (V.int .i64 0), (V.int .i64 0)] [(16, 1, t34_30), (17, 1, (V.int .i64 1)), (18, 1, t35_31)])).bind fun t36_32 =>
  (M.lift (idxV 21 t32_28 t33_29)).bind fun t37_33 =>
  (storeN 21 t37_33 t36_32).bind fun _ =>
  (M.lift (padd 1 t10_11)).bind fun t38_34 =>
  (load1 t38_34).bind fun t39_35 =>
  (M.ret x1).bind fun t40_36 =>
  (sliceV 1 1 [(V.int .i64 0)] [(0, t40_36)]).bind fun t41_37 =>
  (appV 1 8 t39_35 t41_37).bind fun t42_38 =>
  (M.lift (padd 1 t10_11)).bind fun t43_39 =>
  (storeN 1 t43_39 t42_38).bind fun _ =>
  (loadN 3 t10_11).bind fun t44_40 =>
  (storeN 3 t8_2 t44_40).bind fun _ =>
  (M.ret V.nili).bind fun t9_41 =>
  (((loadN 3 t8_2)).bind fun v => ((M.ret []).bind fun l => M.ret (t9_41 :: l)).bind fun l => M.ret (v :: l)).bind fun l => M.ret (Ex.ret, tupV l)))))

theorem ferry_ready_Start_eq (G : Nat → Option (List V)) (n : Nat) (x0 : V) (x1 : V) (x2 : V) (x3 : V) : sem (cfg G) (n + 1) 18 [x0, x1, x2, x3] = outV (ferry_ready_Start G (sem (cfg G) n) x0 x1 x2 x3) :=
  (fnV_at (C := cfg G) (n := n) (f := 18) (fn := Tryz.f18) (c := Tryz.f18.body.getD .skip) (by kernel_rfl) (by kernel_rfl) (by kernel_rfl) [x0, x1, x2, x3]).trans (by kernel_rfl)

noncomputable def ferry_ready_Rank (G : Nat → Option (List V)) (call : FuncId → List V → M V) (x0 : V) (x1 : V) (x2 : V) : M R :=
  (newV x0).bind fun t3_1 =>
  (newV (.agg [V.nils, V.nils, V.nils])).bind fun t6_2 =>
  (M.ret V.nili).bind fun t7_3 =>
  (loadN 3 t3_1).bind fun t11_4 =>
  (M.ret x1).bind fun t12_5 =>
  (sliceV 1 4 [(V.int .i64 0)] [(0, (V.int .i64 0)), (1, (V.int .i64 1)), (2, (V.int .i64 2)), (3, (V.int .i64 3))]).bind fun t13_6 =>
  (callV (cfg G) call 34 [t11_4, t12_5, t13_6]).bind fun t14_7 =>
  (M.ret t14_7).bind fun t10_8 =>
  (M.lift (extractV t10_8 0)).bind fun t15_9 =>
  (M.lift (extractV t10_8 1)).bind fun t16_10 =>
  (newV (.agg [V.nils, V.nils, V.nils])).bind fun t8_11 =>
  (storeN 3 t8_11 t15_9).bind fun _ =>
  (M.ret t16_10).bind fun t9_12 =>
  (M.ret t9_12).bind fun t17_13 =>
  (M.lift ((eqV .iface true t17_13 V.nili).bind fun b => some (.bool !b))).bind fun t18_14 =>
  (condV t18_14
   ((M.lift (buildV [V.nils, V.nils, V.nils] [])).bind fun t19_15 =>
  (M.ret t9_12).bind fun t20_16 =>
  (storeN 3 t6_2 t19_15).bind fun _ =>
  (M.ret t20_16).bind fun t7_17 =>
  (((loadN 3 t6_2)).bind fun v => ((M.ret []).bind fun l => M.ret (t7_17 :: l)).bind fun l => M.ret (v :: l)).bind fun l => M.ret (Ex.ret, tupV l))
   ((M.ret x2).bind fun t21_18 =>
  (M.lift (arithV .lss t21_18 (V.int .i64 0))).bind fun t22_19 =>
  (M.ret t22_19).bind fun t23_20 =>
  (guardV t23_20 false (M.ret x2)).bind fun t24_21 =>
  (guardV t23_20 false (M.lift (arithV .gtr t24_21 (V.int .i64 255)))).bind fun t25_22 =>
  (M.lift (pickV t23_20 (V.bool true) t25_22)).bind fun t26_23 =>
  (condV t26_23
   (((M.lift (buildV [V.nils, V.nils, V.nils] [])).bind fun y0_24 =>
  (load1 (glob (cfg G) 0)).bind fun y1_25 =>
  guardM (apartV (glob (cfg G) 0) t6_2 && true) (
  (storeN 3 t6_2 y0_24).bind fun _ =>
  (M.ret y1_25).bind fun y3_26 =>
  (((loadN 3 t6_2)).bind fun v => ((M.ret []).bind fun l => M.ret (y3_26 :: l)).bind fun l => M.ret (v :: l)).bind fun l => M.ret (Ex.ret, tupV l))))
   ((M.lift (padd 0 t8_11)).bind fun t29_27 =>
  (load1 t29_27).bind fun t30_28 =>
  (M.ret x1).bind fun t31_29 =>
  (M.ret x2).bind fun t32_30 =>
  (M.lift (idxV 21 t30_28 t31_29)).bind fun t33_31 =>
  (M.lift (padd 18 t33_31)).bind fun t34_32 =>
  (storeN 1 t34_32 t32_30).bind fun _ =>
  (loadN 3 t8_11).bind fun t35_33 =>
  (storeN 3 t6_2 t35_33).bind fun _ =>
  (M.ret V.nili).bind fun t7_34 =>
  (((loadN 3 t6_2)).bind fun v => ((M.ret []).bind fun l => M.ret (t7_34 :: l)).bind fun l => M.ret (v :: l)).bind fun l => M.ret (Ex.ret, tupV l)))))

theorem ferry_ready_Rank_eq (G : Nat → Option (List V)) (n : Nat) (x0 : V) (x1 : V) (x2 : V) : sem (cfg G) (n + 1) 19 [x0, x1, x2] = outV (ferry_ready_Rank G (sem (cfg G) n) x0 x1 x2) :=
  (fnV_at (C := cfg G) (n := n) (f := 19) (fn := Tryz.f19) (c := Tryz.f19.body.getD .skip) (by kernel_rfl) (by kernel_rfl) (by kernel_rfl) [x0, x1, x2]).trans (by kernel_rfl)

noncomputable def ferry_ferryref09_isIn (G : Nat → Option (List V)) (call : FuncId → List V → M V) (x0 : V) (x1 : V) (x2 : V) : M R :=
  (newV x0).bind fun t3_1 =>
  (M.ret (V.bool false)).bind fun t6_2 =>
  (M.ret x1).bind fun t7_3 =>
  (M.lift (arithV .geq t7_3 (V.int .i64 0))).bind fun t8_4 =>
  (M.ret t8_4).bind fun t9_5 =>
  (guardV t9_5 true (M.ret x1)).bind fun t10_6 =>
  (guardV t9_5 true (M.lift (padd 0 t3_1))).bind fun t11_7 =>
  (guardV t9_5 true (load1 t11_7)).bind fun t12_8 =>
  (guardV t9_5 true (M.lift (lenV t12_8))).bind fun t13_9 =>
  (guardV t9_5 true (M.lift (arithV .lss t10_6 t13_9))).bind fun t14_10 =>
  (M.lift (pickV t9_5 t14_10 (V.bool false))).bind fun t15_11 =>
  (M.ret t15_11).bind fun t16_12 =>
  (guardV t16_12 true (M.lift (padd 0 t3_1))).bind fun t17_13 =>
  (guardV t16_12 true (load1 t17_13)).bind fun t18_14 =>
  (guardV t16_12 true (M.ret x1)).bind fun t19_15 =>
  (guardV t16_12 true (M.lift (idxV 21 t18_14 t19_15))).bind fun t20_16 =>
  (guardV t16_12 true (M.lift (padd 17 t20_16))).bind fun t21_17 =>
  (guardV t16_12 true (load1 t21_17)).bind fun t22_18 =>
  (guardV t16_12 true (M.ret x2)).bind fun t23_19 =>
  (guardV t16_12 true (M.lift ((eqV (.sc .int) false t22_18 t23_19).bind fun b => some (.bool b)))).bind fun t24_20 =>
  (M.lift (pickV t16_12 t24_20 (V.bool false))).bind fun t25_21 =>
  (M.ret t25_21).bind fun t6_22 =>
  M.ret (Ex.ret, [t6_22])

theorem ferry_ferryref09_isIn_eq (G : Nat → Option (List V)) (n : Nat) (x0 : V) (x1 : V) (x2 : V) : sem (cfg G) (n + 1) 29 [x0, x1, x2] = outV (ferry_ferryref09_isIn G (sem (cfg G) n) x0 x1 x2) :=
  (fnV_at (C := cfg G) (n := n) (f := 29) (fn := Tryz.f29) (c := Tryz.f29.body.getD .skip) (by kernel_rfl) (by kernel_rfl) (by kernel_rfl) [x0, x1, x2]).trans (by kernel_rfl)

noncomputable def ferry_ferryref09_out_j1 (G : Nat → Option (List V)) (call : FuncId → List V → M V) (s0_4 : List V) (j5_22 : V) : M R :=
  (M.ret (s0_4.getD 1 V.undef)).bind fun t11_23 =>
  (M.lift (arithV .add t11_23 (V.int .i64 1))).bind fun t12_24 =>
  (M.ret t12_24).bind fun t6_25 =>
  M.ret (Ex.normal, [j5_22, t6_25])

noncomputable def ferry_ferryref09_out_l1 (G : Nat → Option (List V)) (call : FuncId → List V → M V) (x0 : V) (x1 : V) (s0_4 : List V) : M R :=
  (M.ret (s0_4.getD 1 V.undef)).bind fun t7_5 =>
  (M.ret x0).bind fun t8_6 =>
  (M.lift (lenV t8_6)).bind fun t9_7 =>
  (M.lift (arithV .lss t7_5 t9_7)).bind fun t10_8 =>
  (condV t10_8
   ((M.ret x0).bind fun t13_9 =>
  (M.ret (s0_4.getD 1 V.undef)).bind fun t14_10 =>
  (M.lift (idxV 1 t13_9 t14_10)).bind fun t15_11 =>
  (load1 t15_11).bind fun t16_12 =>
  (M.ret x1).bind fun t17_13 =>
  (M.lift ((eqV (.sc .int) false t16_12 t17_13).bind fun b => some (.bool !b))).bind fun t18_14 =>
  (condV t18_14
   ((M.ret (s0_4.getD 0 V.undef)).bind fun t19_26 =>
  (M.ret x0).bind fun t20_27 =>
  (M.ret (s0_4.getD 1 V.undef)).bind fun t21_28 =>
  (M.lift (idxV 1 t20_27 t21_28)).bind fun t22_29 =>
  (load1 t22_29).bind fun t23_30 =>
  (sliceV 1 1 [(V.int .i64 0)] [(0, t23_30)]).bind fun t24_31 =>
  (appV 1 8 t19_26 t24_31).bind fun t25_32 =>
  (M.ret t25_32).bind fun t5_33 =>
  ferry_ferryref09_out_j1 G call s0_4 t5_33)
   (ferry_ferryref09_out_j1 G call s0_4 (s0_4.getD 0 V.undef))))
   (M.ret ((Ex.exit 0), [(s0_4.getD 0 V.undef), (s0_4.getD 1 V.undef)])))

noncomputable def ferry_ferryref09_out (G : Nat → Option (List V)) (call : FuncId → List V → M V) (x0 : V) (x1 : V) : M R :=
  (M.ret V.nils).bind fun t4_1 =>
  (M.ret V.nils).bind fun t5_2 =>
  (M.ret (V.int .i64 0)).bind fun t6_3 =>
  (loopV (ferry_ferryref09_out_l1 G call x0 x1) [t5_2, t6_3]).bind fun r0_34 => match r0_34.1 with
  | .normal => M.fail
  | .exit k0_35 =>
    (if k0_35 = 0 then
    (M.ret (r0_34.2.getD 0 V.undef)).bind fun t26_36 =>
    (M.ret t26_36).bind fun t4_37 =>
    M.ret (Ex.ret, [t4_37])
    else M.fail)
  | .ret =>
    M.ret (Ex.ret, [t4_1])

theorem ferry_ferryref09_out_eq (G : Nat → Option (List V)) (n : Nat) (x0 : V) (x1 : V) : sem (cfg G) (n + 1) 31 [x0, x1] = outV (ferry_ferryref09_out G (sem (cfg G) n) x0 x1) :=
  (fnV_at (C := cfg G) (n := n) (f := 31) (fn := Tryz.f31) (c := Tryz.f31.body.getD .skip) (by kernel_rfl) (by kernel_rfl) (by kernel_rfl) [x0, x1]).trans (by kernel_rfl)

noncomputable def ferry_ferryref09_Yield (G : Nat → Option (List V)) (call : FuncId → List V → M V) (x0 : V) (x1 : V) : M R :=
  (newV x0).bind fun t2_1 =>
  (newV (.agg [V.nils, V.nils, V.nils])).bind fun t4_2 =>
  (M.ret (V.int .i64 0)).bind fun t5_3 =>
  (loadN 3 t2_1).bind fun t7_4 =>
  (callV (cfg G) call 20 [t7_4]).bind fun t8_5 =>
  (M.lift (unV .not t8_5)).bind fun t9_6 =>
  (condV t9_6
   ((M.lift (buildV [V.nils, V.nils, V.nils] [])).bind fun t10_7 =>
  (storeN 3 t4_2 t10_7).bind fun _ =>
  (M.ret (V.int .i64 9)).bind fun t5_8 =>
  (((loadN 3 t4_2)).bind fun v => ((M.ret []).bind fun l => M.ret (t5_8 :: l)).bind fun l => M.ret (v :: l)).bind fun l => M.ret (Ex.ret, tupV l))
   ((loadN 3 t2_1).bind fun t11_9 =>
  (M.ret x1).bind fun t12_10 =>
  (callV (cfg G) call 29 [t11_9, t12_10, (V.int .i64 1)]).bind fun t13_11 =>
  (M.lift (unV .not t13_11)).bind fun t14_12 =>
  (condV t14_12
   ((M.lift (buildV [V.nils, V.nils, V.nils] [])).bind fun t15_13 =>
  (storeN 3 t4_2 t15_13).bind fun _ =>
  (M.ret (V.int .i64 12)).bind fun t5_14 =>
  (((loadN 3 t4_2)).bind fun v => ((M.ret []).bind fun l => M.ret (t5_14 :: l)).bind fun l => M.ret (v :: l)).bind fun l => M.ret (Ex.ret, tupV l))
   ((loadN 3 t2_1).bind fun t16_15 =>
  (callV (cfg G) call 30 [t16_15]).bind fun t17_16 =>
  (newV (.agg [V.nils, V.nils, V.nils])).bind fun t6_17 =>
  (storeN 3 t6_17 t17_16).bind fun _ =>
  (M.lift (padd 1 t2_1)).bind fun t18_18 =>
  (load1 t18_18).bind fun t19_19 =>
  (M.ret x1).bind fun t20_20 =>
  (callV (cfg G) call 31 [t19_19, t20_20]).bind fun t21_21 =>
  (M.ret x1).bind fun t22_22 =>
  (sliceV 1 1 [(V.int .i64 0)] [(0, t22_22)]).bind fun t23_23 =>
  (appV 1 8 t21_21 t23_23).bind fun t24_24 =>
  (M.lift (padd 1 t6_17)).bind fun t25_25 =>
  (storeN 1 t25_25 t24_24).bind fun _ =>
  (loadN 3 t6_17).bind fun t26_26 =>
  (storeN 3 t4_2 t26_26).bind fun _ =>
  (M.ret (V.int .i64 0)).bind fun t5_27 =>
  (((loadN 3 t4_2)).bind fun v => ((M.ret []).bind fun l => M.ret (t5_27 :: l)).bind fun l => M.ret (v :: l)).bind fun l => M.ret (Ex.ret, tupV l)))))

theorem ferry_ferryref09_Yield_eq (G : Nat → Option (List V)) (n : Nat) (x0 : V) (x1 : V) : sem (cfg G) (n + 1) 6 [x0, x1] = outV (ferry_ferryref09_Yield G (sem (cfg G) n) x0 x1) :=
  (fnV_at (C := cfg G) (n := n) (f := 6) (fn := Tryz.f6) (c := Tryz.f6.body.getD .skip) (by kernel_rfl) (by kernel_rfl) (by kernel_rfl) [x0, x1]).trans (by kernel_rfl)

noncomputable def ferry_ferryref09_Block_j1 (G : Nat → Option (List V)) (call : FuncId → List V → M V) (t12_49 : V) (t10_2 : V) : M R :=
  (loadN 3 t12_49).bind fun t128_123 =>
  (storeN 3 t10_2 t128_123).bind fun _ =>
  (M.ret (V.int .i64 0)).bind fun t11_124 =>
  (((loadN 3 t10_2)).bind fun v => ((M.ret []).bind fun l => M.ret (t11_124 :: l)).bind fun l => M.ret (v :: l)).bind fun l => M.ret (Ex.ret, tupV l)

noncomputable def ferry_ferryref09_Block_j2 (G : Nat → Option (List V)) (call : FuncId → List V → M V) (t12_49 : V) (t5_1 : V) (s0_132 : List V) (j14_165 : V) : M R :=
  (getN.bind fun n_166 =>
  (M.lift (padd 2 t12_49)).bind fun y0_167 =>
  getN.bind fun n_168 =>
  (load1 y0_167).bind fun y1_169 =>
  getN.bind fun n_170 =>
  (M.lift (padd 2 t5_1)).bind fun y2_171 =>
  getN.bind fun n_172 =>
  (load1 y2_171).bind fun y3_173 =>
  getN.bind fun n_174 =>
  (M.ret (s0_132.getD 1 V.undef)).bind fun y4_175 =>
  getN.bind fun n_176 =>
  (M.lift (idxV 2 y3_173 y4_175)).bind fun y5_177 =>
  getN.bind fun n_178 =>
  (loadN 2 y5_177).bind fun y6_179 =>
  getN.bind fun n_180 =>
  (sliceV 2 1 [(V.int .i64 0), (V.int .i64 0)] [(0, y6_179)]).bind fun y7_181 =>
  getN.bind fun n_182 =>
  (trun (visB n_166 [(n_180, n_182, true), (n_178, n_180, true), (n_176, n_178, true), (n_174, n_176, true), (n_172, n_174, true), (n_170, n_172, true), (n_168, n_170, true), (n_166, n_168, true)]) (appV 2 16 y1_169 y7_181)).bind fun y8_183 =>
  (M.lift (padd 2 t12_49)).bind fun y9_184 =>
  (storeN 1 y9_184 y8_183).bind fun _ =>
  (M.ret (s0_132.getD 1 V.undef)).bind fun t91_185 =>
  (M.lift (arithV .add t91_185 (V.int .i64 1))).bind fun t92_186 =>
  (M.ret t92_186).bind fun t15_187 =>
  M.ret (Ex.normal, [j14_165, t15_187]))

noncomputable def ferry_ferryref09_Block_l1 (G : Nat → Option (List V)) (call : FuncId → List V → M V) (t5_1 : V) (t13_128 : V) (t12_49 : V) (s0_132 : List V) : M R :=
  (M.ret (s0_132.getD 1 V.undef)).bind fun t86_133 =>
  (M.lift (padd 2 t5_1)).bind fun t87_134 =>
  (load1 t87_134).bind fun t88_135 =>
  (M.lift (lenV t88_135)).bind fun t89_136 =>
  (M.lift (arithV .lss t86_133 t89_136)).bind fun t90_137 =>
  (condV t90_137
   ((getN.bind fun n_138 =>
  (M.ret (s0_132.getD 0 V.undef)).bind fun y0_139 =>
  getN.bind fun n_140 =>
  (M.lift (unV .not y0_139)).bind fun y1_141 =>
  getN.bind fun n_142 =>
  (M.ret y1_141).bind fun y2_143 =>
  getN.bind fun n_144 =>
  (guardV y2_143 true (loadN 2 t13_128)).bind fun y3_145 =>
  getN.bind fun n_146 =>
  (guardV y2_143 true (M.lift (padd 2 t5_1))).bind fun y4_147 =>
  getN.bind fun n_148 =>
  (guardV y2_143 true (load1 y4_147)).bind fun y5_149 =>
  getN.bind fun n_150 =>
  (guardV y2_143 true (M.ret (s0_132.getD 1 V.undef))).bind fun y6_151 =>
  getN.bind fun n_152 =>
  (guardV y2_143 true (M.lift (idxV 2 y5_149 y6_151))).bind fun y7_153 =>
  getN.bind fun n_154 =>
  (guardV y2_143 true (loadN 2 y7_153)).bind fun y8_155 =>
  getN.bind fun n_156 =>
  (qrun (visB n_138 [(n_154, n_156, true), (n_152, n_154, true), (n_150, n_152, true), (n_148, n_150, true), (n_146, n_148, true), (n_144, n_146, true), (n_142, n_144, true), (n_140, n_142, true), (n_138, n_140, true)]) (guardV y2_143 true (callV (cfg G) call 32 [y3_145, y8_155]))).bind fun y9_157 =>
  (M.lift (pickV y2_143 y9_157 (V.bool false))).bind fun y10_158 =>
  (condV y10_158
   ((M.lift (padd 2 t12_49)).bind fun t104_188 =>
  (load1 t104_188).bind fun t105_189 =>
  (loadN 2 t13_128).bind fun t106_190 =>
  (sliceV 2 1 [(V.int .i64 0), (V.int .i64 0)] [(0, t106_190)]).bind fun t107_191 =>
  (appV 2 16 t105_189 t107_191).bind fun t108_192 =>
  (M.lift (padd 2 t12_49)).bind fun t109_193 =>
  (storeN 1 t109_193 t108_192).bind fun _ =>
  (M.ret (V.bool true)).bind fun t14_194 =>
  ferry_ferryref09_Block_j2 G call t12_49 t5_1 s0_132 t14_194)
   (ferry_ferryref09_Block_j2 G call t12_49 t5_1 s0_132 (s0_132.getD 0 V.undef)))))
   (M.ret ((Ex.exit 0), [(s0_132.getD 0 V.undef), (s0_132.getD 1 V.undef)])))

noncomputable def ferry_ferryref09_Block (G : Nat → Option (List V)) (call : FuncId → List V → M V) (x0 : V) (x1 : V) (x2 : V) (x3 : V) (x4 : V) : M R :=
  (newV x0).bind fun t5_1 =>
  (newV (.agg [V.nils, V.nils, V.nils])).bind fun t10_2 =>
  (M.ret (V.int .i64 0)).bind fun t11_3 =>
  (loadN 3 t5_1).bind fun t16_4 =>
  (callV (cfg G) call 20 [t16_4]).bind fun t17_5 =>
  (M.lift (unV .not t17_5)).bind fun t18_6 =>
  (condV t18_6
   ((M.lift (buildV [V.nils, V.nils, V.nils] [])).bind fun t19_7 =>
  (storeN 3 t10_2 t19_7).bind fun _ =>
  (M.ret (V.int .i64 9)).bind fun t11_8 =>
  (((loadN 3 t10_2)).bind fun v => ((M.ret []).bind fun l => M.ret (t11_8 :: l)).bind fun l => M.ret (v :: l)).bind fun l => M.ret (Ex.ret, tupV l))
   ((loadN 3 t5_1).bind fun t20_9 =>
  (M.ret x1).bind fun t21_10 =>
  (callV (cfg G) call 29 [t20_9, t21_10, (V.int .i64 1)]).bind fun t22_11 =>
  (M.lift (unV .not t22_11)).bind fun t23_12 =>
  (M.ret t23_12).bind fun t24_13 =>
  (guardV t24_13 false (M.ret x2)).bind fun t25_14 =>
  (guardV t24_13 false (M.lift (arithV .lss t25_14 (V.int .i64 1)))).bind fun t26_15 =>
  (M.lift (pickV t24_13 (V.bool true) t26_15)).bind fun t27_16 =>
  (M.ret t27_16).bind fun t28_17 =>
  (guardV t28_17 false (M.ret x2)).bind fun t29_18 =>
  (guardV t28_17 false (M.lift (arithV .gtr t29_18 (V.int .i64 4)))).bind fun t30_19 =>
  (M.lift (pickV t28_17 (V.bool true) t30_19)).bind fun t31_20 =>
  (M.ret t31_20).bind fun t32_21 =>
  (guardV t32_21 false (M.ret x3)).bind fun t33_22 =>
  (guardV t32_21 false (M.lift (arithV .lss t33_22 (V.int .i64 0)))).bind fun t34_23 =>
  (M.lift (pickV t32_21 (V.bool true) t34_23)).bind fun t35_24 =>
  (M.ret t35_24).bind fun t36_25 =>
  (guardV t36_25 false (M.ret x4)).bind fun t37_26 =>
  (guardV t36_25 false (M.lift (arithV .lss t37_26 (V.int .i64 (-1))))).bind fun t38_27 =>
  (M.lift (pickV t36_25 (V.bool true) t38_27)).bind fun t39_28 =>
  (M.ret t39_28).bind fun t40_29 =>
  (guardV t40_29 false (M.ret x4)).bind fun t41_30 =>
  (guardV t40_29 false (M.lift (arithV .gtr t41_30 (V.int .i64 1010000)))).bind fun t42_31 =>
  (M.lift (pickV t40_29 (V.bool true) t42_31)).bind fun t43_32 =>
  (condV t43_32
   ((M.lift (buildV [V.nils, V.nils, V.nils] [])).bind fun t44_33 =>
  (storeN 3 t10_2 t44_33).bind fun _ =>
  (M.ret (V.int .i64 12)).bind fun t11_34 =>
  (((loadN 3 t10_2)).bind fun v => ((M.ret []).bind fun l => M.ret (t11_34 :: l)).bind fun l => M.ret (v :: l)).bind fun l => M.ret (Ex.ret, tupV l))
   ((M.ret x2).bind fun t45_35 =>
  (M.lift ((eqV (.sc .int) true t45_35 (V.int .i64 1)).bind fun b => some (.bool b))).bind fun t46_36 =>
  (M.ret t46_36).bind fun t47_37 =>
  (guardV t47_37 true (M.ret x3)).bind fun t48_38 =>
  (guardV t47_37 true (M.lift ((eqV (.sc .int) true t48_38 (V.int .i64 0)).bind fun b => some (.bool !b)))).bind fun t49_39 =>
  (guardV t47_37 true (M.ret t49_39)).bind fun t50_40 =>
  (guardV t50_40 false (M.ret x4)).bind fun t51_41 =>
  (guardV t50_40 false (M.lift ((eqV (.sc .int) true t51_41 (V.int .i64 (-1))).bind fun b => some (.bool b)))).bind fun t52_42 =>
  (guardV t47_37 true (M.lift (pickV t50_40 (V.bool true) t52_42))).bind fun t53_43 =>
  (M.lift (pickV t47_37 t53_43 (V.bool false))).bind fun t54_44 =>
  (condV t54_44
   ((M.lift (buildV [V.nils, V.nils, V.nils] [])).bind fun t55_45 =>
  (storeN 3 t10_2 t55_45).bind fun _ =>
  (M.ret (V.int .i64 12)).bind fun t11_46 =>
  (((loadN 3 t10_2)).bind fun v => ((M.ret []).bind fun l => M.ret (t11_46 :: l)).bind fun l => M.ret (v :: l)).bind fun l => M.ret (Ex.ret, tupV l))
   ((loadN 3 t5_1).bind fun t56_47 =>
  (callV (cfg G) call 30 [t56_47]).bind fun t57_48 =>
  (newV (.agg [V.nils, V.nils, V.nils])).bind fun t12_49 =>
  (storeN 3 t12_49 t57_48).bind fun _ =>
  (M.lift (padd 1 t5_1)).bind fun t58_50 =>
  (load1 t58_50).bind fun t59_51 =>
  (M.ret x1).bind fun t60_52 =>
  (callV (cfg G) call 31 [t59_51, t60_52]).bind fun t61_53 =>
  (M.lift (padd 1 t12_49)).bind fun t62_54 =>
  (storeN 1 t62_54 t61_53).bind fun _ =>
  (M.lift (padd 0 t12_49)).bind fun t63_55 =>
  (load1 t63_55).bind fun t64_56 =>
  (M.ret x1).bind fun t65_57 =>
  (M.lift (idxV 21 t64_56 t65_57)).bind fun t66_58 =>
  (M.lift (padd 17 t66_58)).bind fun t67_59 =>
  (storeN 1 t67_59 (V.int .i64 2)).bind fun _ =>
  (M.lift (padd 0 t12_49)).bind fun t68_60 =>
  (load1 t68_60).bind fun t69_61 =>
  (M.ret x1).bind fun t70_62 =>
  (M.ret x2).bind fun t71_63 =>
  (M.lift (idxV 21 t69_61 t70_62)).bind fun t72_64 =>
  (M.lift (padd 19 t72_64)).bind fun t73_65 =>
  (storeN 1 t73_65 t71_63).bind fun _ =>
  (M.lift (padd 0 t12_49)).bind fun t74_66 =>
  (load1 t74_66).bind fun t75_67 =>
  (M.ret x1).bind fun t76_68 =>
  (M.ret x3).bind fun t77_69 =>
  (M.lift (idxV 21 t75_67 t76_68)).bind fun t78_70 =>
  (M.lift (padd 20 t78_70)).bind fun t79_71 =>
  (storeN 1 t79_71 t77_69).bind fun _ =>
  (M.ret x4).bind fun t80_72 =>
  (M.lift (arithV .geq t80_72 (V.int .i64 0))).bind fun t81_73 =>
  (condV t81_73
   ((M.ret x1).bind fun t82_125 =>
  (M.ret x4).bind fun t83_126 =>
  (M.lift (buildV [(V.int .i64 0), (V.int .i64 0)] [(0, 1, t82_125), (1, 1, t83_126)])).bind fun t84_127 =>
  (newV (.agg [(V.int .i64 0), (V.int .i64 0)])).bind fun t13_128 =>
  (storeN 2 t13_128 t84_127).bind fun _ =>
  (M.lift (padd 2 t12_49)).bind fun t85_129 =>
  (storeN 1 t85_129 V.nils).bind fun _ =>
  (M.ret (V.bool false)).bind fun t14_130 =>
  (M.ret (V.int .i64 0)).bind fun t15_131 =>
  (loopV (ferry_ferryref09_Block_l1 G call t5_1 t13_128 t12_49) [t14_130, t15_131]).bind fun r0_195 => match r0_195.1 with
  | .normal => M.fail
  | .exit k0_196 =>
    (if k0_196 = 0 then
    (M.ret (r0_195.2.getD 0 V.undef)).bind fun t120_197 =>
    (M.lift (unV .not t120_197)).bind fun t121_198 =>
    (condV t121_198
     ((M.lift (padd 2 t12_49)).bind fun t122_205 =>
    (load1 t122_205).bind fun t123_206 =>
    (loadN 2 t13_128).bind fun t124_207 =>
    (sliceV 2 1 [(V.int .i64 0), (V.int .i64 0)] [(0, t124_207)]).bind fun t125_208 =>
    (appV 2 16 t123_206 t125_208).bind fun t126_209 =>
    (M.lift (padd 2 t12_49)).bind fun t127_210 =>
    (storeN 1 t127_210 t126_209).bind fun _ =>
    ferry_ferryref09_Block_j1 G call t12_49 t10_2)
     (ferry_ferryref09_Block_j1 G call t12_49 t10_2))
    else M.fail)
  | .ret =>
    (((loadN 3 t10_2)).bind fun v => ((M.ret []).bind fun l => M.ret (t11_3 :: l)).bind fun l => M.ret (v :: l)).bind fun l => M.ret (Ex.ret, tupV l))
   (ferry_ferryref09_Block_j1 G call t12_49 t10_2))))))))

theorem ferry_ferryref09_Block_eq (G : Nat → Option (List V)) (n : Nat) (x0 : V) (x1 : V) (x2 : V) (x3 : V) (x4 : V) : sem (cfg G) (n + 1) 7 [x0, x1, x2, x3, x4] = outV (ferry_ferryref09_Block G (sem (cfg G) n) x0 x1 x2 x3 x4) :=
  (fnV_at (C := cfg G) (n := n) (f := 7) (fn := Tryz.f7) (c := Tryz.f7.body.getD .skip) (by kernel_rfl) (by kernel_rfl) (by kernel_rfl) [x0, x1, x2, x3, x4]).trans (by kernel_rfl)

noncomputable def ferry_ferryref09_Wake (G : Nat → Option (List V)) (call : FuncId → List V → M V) (x0 : V) (x1 : V) (x2 : V) : M R :=
  (newV x0).bind fun t3_1 =>
  (newV (.agg [V.nils, V.nils, V.nils])).bind fun t6_2 =>
  (M.ret (V.int .i64 0)).bind fun t7_3 =>
  (loadN 3 t3_1).bind fun t8_4 =>
  (callV (cfg G) call 20 [t8_4]).bind fun t9_5 =>
  (M.lift (unV .not t9_5)).bind fun t10_6 =>
  (condV t10_6
   ((M.lift (buildV [V.nils, V.nils, V.nils] [])).bind fun t11_7 =>
  (storeN 3 t6_2 t11_7).bind fun _ =>
  (M.ret (V.int .i64 9)).bind fun t7_8 =>
  (((loadN 3 t6_2)).bind fun v => ((M.ret []).bind fun l => M.ret (t7_8 :: l)).bind fun l => M.ret (v :: l)).bind fun l => M.ret (Ex.ret, tupV l))
   ((loadN 3 t3_1).bind fun t12_9 =>
  (M.ret x1).bind fun t13_10 =>
  (callV (cfg G) call 29 [t12_9, t13_10, (V.int .i64 2)]).bind fun t14_11 =>
  (M.lift (unV .not t14_11)).bind fun t15_12 =>
  (condV t15_12
   ((M.lift (buildV [V.nils, V.nils, V.nils] [])).bind fun t16_13 =>
  (storeN 3 t6_2 t16_13).bind fun _ =>
  (M.ret (V.int .i64 12)).bind fun t7_14 =>
  (((loadN 3 t6_2)).bind fun v => ((M.ret []).bind fun l => M.ret (t7_14 :: l)).bind fun l => M.ret (v :: l)).bind fun l => M.ret (Ex.ret, tupV l))
   ((loadN 3 t3_1).bind fun t17_15 =>
  (M.ret x1).bind fun t18_16 =>
  (M.ret x2).bind fun t19_17 =>
  (callV (cfg G) call 33 [t17_15, t18_16, t19_17]).bind fun t20_18 =>
  (storeN 3 t6_2 t20_18).bind fun _ =>
  (M.ret (V.int .i64 0)).bind fun t7_19 =>
  (((loadN 3 t6_2)).bind fun v => ((M.ret []).bind fun l => M.ret (t7_19 :: l)).bind fun l => M.ret (v :: l)).bind fun l => M.ret (Ex.ret, tupV l)))))

theorem ferry_ferryref09_Wake_eq (G : Nat → Option (List V)) (n : Nat) (x0 : V) (x1 : V) (x2 : V) : sem (cfg G) (n + 1) 8 [x0, x1, x2] = outV (ferry_ferryref09_Wake G (sem (cfg G) n) x0 x1 x2) :=
  (fnV_at (C := cfg G) (n := n) (f := 8) (fn := Tryz.f8) (c := Tryz.f8.body.getD .skip) (by kernel_rfl) (by kernel_rfl) (by kernel_rfl) [x0, x1, x2]).trans (by kernel_rfl)

noncomputable def ferry_ferryref09_Halt (G : Nat → Option (List V)) (call : FuncId → List V → M V) (x0 : V) (x1 : V) (x2 : V) : M R :=
  (newV x0).bind fun t3_1 =>
  (newV (.agg [V.nils, V.nils, V.nils])).bind fun t6_2 =>
  (M.ret (V.int .i64 0)).bind fun t7_3 =>
  (loadN 3 t3_1).bind fun t9_4 =>
  (callV (cfg G) call 20 [t9_4]).bind fun t10_5 =>
  (M.lift (unV .not t10_5)).bind fun t11_6 =>
  (condV t11_6
   ((M.lift (buildV [V.nils, V.nils, V.nils] [])).bind fun t12_7 =>
  (storeN 3 t6_2 t12_7).bind fun _ =>
  (M.ret (V.int .i64 9)).bind fun t7_8 =>
  (((loadN 3 t6_2)).bind fun v => ((M.ret []).bind fun l => M.ret (t7_8 :: l)).bind fun l => M.ret (v :: l)).bind fun l => M.ret (Ex.ret, tupV l))
   ((loadN 3 t3_1).bind fun t13_9 =>
  (M.ret x1).bind fun t14_10 =>
  (callV (cfg G) call 29 [t13_9, t14_10, (V.int .i64 1)]).bind fun t15_11 =>
  (M.lift (unV .not t15_11)).bind fun t16_12 =>
  (M.ret t16_12).bind fun t17_13 =>
  (guardV t17_13 false (M.ret x2)).bind fun t18_14 =>
  (guardV t17_13 false (M.lift ((eqV (.sc .int) true t18_14 (V.int .i64 0)).bind fun b => some (.bool !b)))).bind fun t19_15 =>
  (guardV t17_13 false (M.ret t19_15)).bind fun t20_16 =>
  (guardV t20_16 true (M.ret x2)).bind fun t21_17 =>
  (guardV t20_16 true (M.lift ((eqV (.sc .int) true t21_17 (V.int .i64 3)).bind fun b => some (.bool !b)))).bind fun t22_18 =>
  (guardV t17_13 false (M.lift (pickV t20_16 t22_18 (V.bool false)))).bind fun t23_19 =>
  (M.lift (pickV t17_13 (V.bool true) t23_19)).bind fun t24_20 =>
  (condV t24_20
   ((M.lift (buildV [V.nils, V.nils, V.nils] [])).bind fun t25_21 =>
  (storeN 3 t6_2 t25_21).bind fun _ =>
  (M.ret (V.int .i64 12)).bind fun t7_22 =>
  (((loadN 3 t6_2)).bind fun v => ((M.ret []).bind fun l => M.ret (t7_22 :: l)).bind fun l => M.ret (v :: l)).bind fun l => M.ret (Ex.ret, tupV l))
   ((loadN 3 t3_1).bind fun t26_23 =>
  (callV (cfg G) call 30 [t26_23]).bind fun t27_24 =>
  (newV (.agg [V.nils, V.nils, V.nils])).bind fun t8_25 =>
  (storeN 3 t8_25 t27_24).bind fun _ =>
  (M.lift (padd 1 t3_1)).bind fun t28_26 =>
  (load1 t28_26).bind fun t29_27 =>
  (M.ret x1).bind fun t30_28 =>
  (callV (cfg G) call 31 [t29_27, t30_28]).bind fun t31_29 =>
  (M.lift (padd 1 t8_25)).bind fun t32_30 =>
  (storeN 1 t32_30 t31_29).bind fun _ =>
  (M.lift (padd 0 t8_25)).bind fun t33_31 =>
  (load1 t33_31).bind fun t34_32 =>
  (M.ret x1).bind fun t35_33 =>
  (M.ret x2).bind fun t36_34 =>
  (M.lift (idxV 21 t34_32 t35_33)).bind fun t37_35 =>
  (M.lift (padd 17 t37_35)).bind fun t38_36 =>
  (storeN 1 t38_36 t36_34).bind fun _ =>
  (loadN 3 t8_25).bind fun t39_37 =>
  (storeN 3 t6_2 t39_37).bind fun _ =>
  (M.ret (V.int .i64 0)).bind fun t7_38 =>
  (((loadN 3 t6_2)).bind fun v => ((M.ret []).bind fun l => M.ret (t7_38 :: l)).bind fun l => M.ret (v :: l)).bind fun l => M.ret (Ex.ret, tupV l)))))

theorem ferry_ferryref09_Halt_eq (G : Nat → Option (List V)) (n : Nat) (x0 : V) (x1 : V) (x2 : V) : sem (cfg G) (n + 1) 9 [x0, x1, x2] = outV (ferry_ferryref09_Halt G (sem (cfg G) n) x0 x1 x2) :=
  (fnV_at (C := cfg G) (n := n) (f := 9) (fn := Tryz.f9) (c := Tryz.f9.body.getD .skip) (by kernel_rfl) (by kernel_rfl) (by kernel_rfl) [x0, x1, x2]).trans (by kernel_rfl)

noncomputable def ferry_ferryref09_Start (G : Nat → Option (List V)) (call : FuncId → List V → M V) (x0 : V) (x1 : V) (x2 : V) (x3 : V) : M R :=
  (newV x0).bind fun t4_1 =>
  (newV (.agg [V.nils, V.nils, V.nils])).bind fun t8_2 =>
  (M.ret (V.int .i64 0)).bind fun t9_3 =>
  (loadN 3 t4_1).bind fun t11_4 =>
  (callV (cfg G) call 20 [t11_4]).bind fun t12_5 =>
  (M.lift (unV .not t12_5)).bind fun t13_6 =>
  (condV t13_6
   ((M.lift (buildV [V.nils, V.nils, V.nils] [])).bind fun t14_7 =>
  (storeN 3 t8_2 t14_7).bind fun _ =>
  (M.ret (V.int .i64 9)).bind fun t9_8 =>
  (((loadN 3 t8_2)).bind fun v => ((M.ret []).bind fun l => M.ret (t9_8 :: l)).bind fun l => M.ret (v :: l)).bind fun l => M.ret (Ex.ret, tupV l))
   ((loadN 3 t4_1).bind fun t15_9 =>
  (M.ret x1).bind fun t16_10 =>
  (callV (cfg G) call 29 [t15_9, t16_10, (V.int .i64 0)]).bind fun t17_11 =>
  (M.lift (unV .not t17_11)).bind fun t18_12 =>
  (M.ret t18_12).bind fun t19_13 =>
  (guardV t19_13 true (loadN 3 t4_1)).bind fun t20_14 =>
  (guardV t19_13 true (M.ret x1)).bind fun t21_15 =>
  (guardV t19_13 true (callV (cfg G) call 29 [t20_14, t21_15, (V.int .i64 3)])).bind fun t22_16 =>
  (guardV t19_13 true (M.lift (unV .not t22_16))).bind fun t23_17 =>
  (M.lift (pickV t19_13 t23_17 (V.bool false))).bind fun t24_18 =>
  (M.ret t24_18).bind fun t25_19 =>
  (guardV t25_19 false (M.ret x3)).bind fun t26_20 =>
  (guardV t25_19 false (M.lift (arithV .lss t26_20 (V.int .i64 0)))).bind fun t27_21 =>
  (M.lift (pickV t25_19 (V.bool true) t27_21)).bind fun t28_22 =>
  (M.ret t28_22).bind fun t29_23 =>
  (guardV t29_23 false (M.ret x3)).bind fun t30_24 =>
  (guardV t29_23 false (M.lift (arithV .gtr t30_24 (V.int .i64 255)))).bind fun t31_25 =>
  (M.lift (pickV t29_23 (V.bool true) t31_25)).bind fun t32_26 =>
  (condV t32_26
   ((M.lift (buildV [V.nils, V.nils, V.nils] [])).bind fun t33_27 =>
  (storeN 3 t8_2 t33_27).bind fun _ =>
  (M.ret (V.int .i64 12)).bind fun t9_28 =>
  (((loadN 3 t8_2)).bind fun v => ((M.ret []).bind fun l => M.ret (t9_28 :: l)).bind fun l => M.ret (v :: l)).bind fun l => M.ret (Ex.ret, tupV l))
   ((loadN 3 t4_1).bind fun t34_29 =>
  (callV (cfg G) call 30 [t34_29]).bind fun t35_30 =>
  (newV (.agg [V.nils, V.nils, V.nils])).bind fun t10_31 =>
  (storeN 3 t10_31 t35_30).bind fun _ =>
  (M.lift (padd 0 t10_31)).bind fun t36_32 =>
  (load1 t36_32).bind fun t37_33 =>
  (M.ret x1).bind fun t38_34 =>
  (M.ret x2).bind fun t39_35 =>
  (M.ret x3).bind fun t40_36 =>
  (M.lift (buildV [(V.int .u32 0), (V.int .u32 0), (V.int .u32 0), (V.int .u32 0), (V.int .u32 0), (V.int .u32 0), (V.int .u32 0), (V.int .u32 0), (V.int .u32 0), (V.int .u32 0), (V.int .u32 0), (V.int .u32 0), (V.int .u32 0), (V.int .u32 0), (V.int .u32 0), (V.int .u32 0), (V.int .u32 0), (V.int .i64 0), (V.int .i64 0), (V.int .i64 0), (V.int .i64 0)] [(16, 1, t39_35), (17, 1, (V.int .i64 1)), (18, 1, t40_36)])).bind fun t41_37 =>
  (M.lift (idxV 21 t37_33 t38_34)).bind fun t42_38 =>
  (storeN 21 t42_38 t41_37).bind fun _ =>
  (M.lift (padd 1 t10_31)).bind fun t43_39 =>
  (load1 t43_39).bind fun t44_40 =>
  (M.ret x1).bind fun t45_41 =>
  (sliceV 1 1 [(V.int .i64 0)] [(0, t45_41)]).bind fun t46_42 =>
  (appV 1 8 t44_40 t46_42).bind fun t47_43 =>
  (M.lift (padd 1 t10_31)).bind fun t48_44 =>
  (storeN 1 t48_44 t47_43).bind fun _ =>
  (loadN 3 t10_31).bind fun t49_45 =>
  (storeN 3 t8_2 t49_45).bind fun _ =>
  (M.ret (V.int .i64 0)).bind fun t9_46 =>
  (((loadN 3 t8_2)).bind fun v => ((M.ret []).bind fun l => M.ret (t9_46 :: l)).bind fun l => M.ret (v :: l)).bind fun l => M.ret (Ex.ret, tupV l)))))

theorem ferry_ferryref09_Start_eq (G : Nat → Option (List V)) (n : Nat) (x0 : V) (x1 : V) (x2 : V) (x3 : V) : sem (cfg G) (n + 1) 10 [x0, x1, x2, x3] = outV (ferry_ferryref09_Start G (sem (cfg G) n) x0 x1 x2 x3) :=
  (fnV_at (C := cfg G) (n := n) (f := 10) (fn := Tryz.f10) (c := Tryz.f10.body.getD .skip) (by kernel_rfl) (by kernel_rfl) (by kernel_rfl) [x0, x1, x2, x3]).trans (by kernel_rfl)

noncomputable def ferry_ferryref09_Rank (G : Nat → Option (List V)) (call : FuncId → List V → M V) (x0 : V) (x1 : V) (x2 : V) : M R :=
  (newV x0).bind fun t3_1 =>
  (newV (.agg [V.nils, V.nils, V.nils])).bind fun t6_2 =>
  (M.ret (V.int .i64 0)).bind fun t7_3 =>
  (loadN 3 t3_1).bind fun t9_4 =>
  (callV (cfg G) call 20 [t9_4]).bind fun t10_5 =>
  (M.lift (unV .not t10_5)).bind fun t11_6 =>
  (condV t11_6
   ((M.lift (buildV [V.nils, V.nils, V.nils] [])).bind fun t12_7 =>
  (storeN 3 t6_2 t12_7).bind fun _ =>
  (M.ret (V.int .i64 9)).bind fun t7_8 =>
  (((loadN 3 t6_2)).bind fun v => ((M.ret []).bind fun l => M.ret (t7_8 :: l)).bind fun l => M.ret (v :: l)).bind fun l => M.ret (Ex.ret, tupV l))
   ((M.ret x1).bind fun t13_9 =>
  (M.lift (arithV .lss t13_9 (V.int .i64 0))).bind fun t14_10 =>
  (M.ret t14_10).bind fun t15_11 =>
  (guardV t15_11 false (M.ret x1)).bind fun t16_12 =>
  (guardV t15_11 false (M.lift (padd 0 t3_1))).bind fun t17_13 =>
  (guardV t15_11 false (load1 t17_13)).bind fun t18_14 =>
  (guardV t15_11 false (M.lift (lenV t18_14))).bind fun t19_15 =>
  (guardV t15_11 false (M.lift (arithV .geq t16_12 t19_15))).bind fun t20_16 =>
  (M.lift (pickV t15_11 (V.bool true) t20_16)).bind fun t21_17 =>
  (M.ret t21_17).bind fun t22_18 =>
  (guardV t22_18 false (M.ret x2)).bind fun t23_19 =>
  (guardV t22_18 false (M.lift (arithV .lss t23_19 (V.int .i64 0)))).bind fun t24_20 =>
  (M.lift (pickV t22_18 (V.bool true) t24_20)).bind fun t25_21 =>
  (M.ret t25_21).bind fun t26_22 =>
  (guardV t26_22 false (M.ret x2)).bind fun t27_23 =>
  (guardV t26_22 false (M.lift (arithV .gtr t27_23 (V.int .i64 255)))).bind fun t28_24 =>
  (M.lift (pickV t26_22 (V.bool true) t28_24)).bind fun t29_25 =>
  (condV t29_25
   ((M.lift (buildV [V.nils, V.nils, V.nils] [])).bind fun t30_26 =>
  (storeN 3 t6_2 t30_26).bind fun _ =>
  (M.ret (V.int .i64 12)).bind fun t7_27 =>
  (((loadN 3 t6_2)).bind fun v => ((M.ret []).bind fun l => M.ret (t7_27 :: l)).bind fun l => M.ret (v :: l)).bind fun l => M.ret (Ex.ret, tupV l))
   ((loadN 3 t3_1).bind fun t31_28 =>
  (callV (cfg G) call 30 [t31_28]).bind fun t32_29 =>
  (newV (.agg [V.nils, V.nils, V.nils])).bind fun t8_30 =>
  (storeN 3 t8_30 t32_29).bind fun _ =>
  (M.lift (padd 0 t8_30)).bind fun t33_31 =>
  (load1 t33_31).bind fun t34_32 =>
  (M.ret x1).bind fun t35_33 =>
  (M.ret x2).bind fun t36_34 =>
  (M.lift (idxV 21 t34_32 t35_33)).bind fun t37_35 =>
  (M.lift (padd 18 t37_35)).bind fun t38_36 =>
  (storeN 1 t38_36 t36_34).bind fun _ =>
  (loadN 3 t8_30).bind fun t39_37 =>
  (storeN 3 t6_2 t39_37).bind fun _ =>
  (M.ret (V.int .i64 0)).bind fun t7_38 =>
  (((loadN 3 t6_2)).bind fun v => ((M.ret []).bind fun l => M.ret (t7_38 :: l)).bind fun l => M.ret (v :: l)).bind fun l => M.ret (Ex.ret, tupV l)))))

theorem ferry_ferryref09_Rank_eq (G : Nat → Option (List V)) (n : Nat) (x0 : V) (x1 : V) (x2 : V) : sem (cfg G) (n + 1) 11 [x0, x1, x2] = outV (ferry_ferryref09_Rank G (sem (cfg G) n) x0 x1 x2) :=
  (fnV_at (C := cfg G) (n := n) (f := 11) (fn := Tryz.f11) (c := Tryz.f11.body.getD .skip) (by kernel_rfl) (by kernel_rfl) (by kernel_rfl) [x0, x1, x2]).trans (by kernel_rfl)

end Go.Fv.Tr

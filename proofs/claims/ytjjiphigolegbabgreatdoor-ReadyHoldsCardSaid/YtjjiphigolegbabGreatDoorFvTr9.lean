/-
  The Go functions ferry/ferryref09.woken, (*ferry/ready.Table).wake, ferry/ready.WakeAll, ferry/ready.Fire, ferry/ferrylaw09.same as plain terms. By an AI agent; no person has read it.
-/
import Derived.Test.YtjjiphigolegbabGreatDoorFvCf
set_option linter.unusedVariables false
set_option linter.unusedSimpArgs false
set_option linter.unusedSectionVars false
/-! The Go functions ferry/ferryref09.woken, (*ferry/ready.Table).wake, ferry/ready.WakeAll, ferry/ready.Fire, ferry/ferrylaw09.same as plain terms. -/
namespace Go.Fv.Tr
open Go Go.Fv Go.Proofs
set_option linter.unusedVariables false

noncomputable def ferry_ferryref09_woken_j1 (G : Nat → Option (List V)) (call : FuncId → List V → M V) (s0_36 : List V) : M R :=
  (M.ret (s0_36.getD 0 V.undef)).bind fun t45_60 =>
  (M.lift (arithV .add t45_60 (V.int .i64 1))).bind fun t46_61 =>
  (M.ret t46_61).bind fun t8_62 =>
  M.ret (Ex.normal, [t8_62])

noncomputable def ferry_ferryref09_woken_l1 (G : Nat → Option (List V)) (call : FuncId → List V → M V) (t3_1 : V) (x1 : V) (t7_5 : V) (s0_36 : List V) : M R :=
  (M.ret (s0_36.getD 0 V.undef)).bind fun t40_37 =>
  (M.lift (padd 2 t3_1)).bind fun t41_38 =>
  (load1 t41_38).bind fun t42_39 =>
  (M.lift (lenV t42_39)).bind fun t43_40 =>
  (M.lift (arithV .lss t40_37 t43_40)).bind fun t44_41 =>
  (condV t44_41
   ((M.lift (padd 2 t3_1)).bind fun t47_42 =>
  (load1 t47_42).bind fun t48_43 =>
  (M.ret (s0_36.getD 0 V.undef)).bind fun t49_44 =>
  (M.lift (idxV 2 t48_43 t49_44)).bind fun t50_45 =>
  (M.lift (padd 0 t50_45)).bind fun t51_46 =>
  (load1 t51_46).bind fun t52_47 =>
  (M.ret x1).bind fun t53_48 =>
  (M.lift ((eqV (.sc .int) false t52_47 t53_48).bind fun b => some (.bool !b))).bind fun t54_49 =>
  (condV t54_49
   ((getN.bind fun n_63 =>
  (M.lift (padd 2 t7_5)).bind fun y0_64 =>
  getN.bind fun n_65 =>
  (load1 y0_64).bind fun y1_66 =>
  getN.bind fun n_67 =>
  (M.lift (padd 2 t3_1)).bind fun y2_68 =>
  getN.bind fun n_69 =>
  (load1 y2_68).bind fun y3_70 =>
  getN.bind fun n_71 =>
  (M.ret (s0_36.getD 0 V.undef)).bind fun y4_72 =>
  getN.bind fun n_73 =>
  (M.lift (idxV 2 y3_70 y4_72)).bind fun y5_74 =>
  getN.bind fun n_75 =>
  (loadN 2 y5_74).bind fun y6_76 =>
  getN.bind fun n_77 =>
  (sliceV 2 1 [(V.int .i64 0), (V.int .i64 0)] [(0, y6_76)]).bind fun y7_78 =>
  getN.bind fun n_79 =>
  (trun (visB n_63 [(n_77, n_79, true), (n_75, n_77, true), (n_73, n_75, true), (n_71, n_73, true), (n_69, n_71, true), (n_67, n_69, true), (n_65, n_67, true), (n_63, n_65, true)]) (appV 2 16 y1_66 y7_78)).bind fun y8_80 =>
  (M.lift (padd 2 t7_5)).bind fun y9_81 =>
  (storeN 1 y9_81 y8_80).bind fun _ =>
  ferry_ferryref09_woken_j1 G call s0_36))
   (ferry_ferryref09_woken_j1 G call s0_36)))
   (M.ret ((Ex.exit 0), [(s0_36.getD 0 V.undef)])))

noncomputable def ferry_ferryref09_woken (G : Nat → Option (List V)) (call : FuncId → List V → M V) (x0 : V) (x1 : V) (x2 : V) : M R :=
  (newV x0).bind fun t3_1 =>
  (newV (.agg [V.nils, V.nils, V.nils])).bind fun t6_2 =>
  (loadN 3 t3_1).bind fun t9_3 =>
  (callV (cfg G) call 30 [t9_3]).bind fun t10_4 =>
  (newV (.agg [V.nils, V.nils, V.nils])).bind fun t7_5 =>
  (storeN 3 t7_5 t10_4).bind fun _ =>
  (M.lift (padd 0 t7_5)).bind fun t11_6 =>
  (load1 t11_6).bind fun t12_7 =>
  (M.ret x1).bind fun t13_8 =>
  (M.lift (idxV 21 t12_7 t13_8)).bind fun t14_9 =>
  (M.lift (padd 17 t14_9)).bind fun t15_10 =>
  (storeN 1 t15_10 (V.int .i64 1)).bind fun _ =>
  (M.lift (padd 0 t7_5)).bind fun t16_11 =>
  (load1 t16_11).bind fun t17_12 =>
  (M.ret x1).bind fun t18_13 =>
  (M.lift (idxV 21 t17_12 t18_13)).bind fun t19_14 =>
  (M.lift (padd 19 t19_14)).bind fun t20_15 =>
  (storeN 1 t20_15 (V.int .i64 0)).bind fun _ =>
  (M.lift (padd 0 t7_5)).bind fun t21_16 =>
  (load1 t21_16).bind fun t22_17 =>
  (M.ret x1).bind fun t23_18 =>
  (M.lift (idxV 21 t22_17 t23_18)).bind fun t24_19 =>
  (M.lift (padd 20 t24_19)).bind fun t25_20 =>
  (storeN 1 t25_20 (V.int .i64 0)).bind fun _ =>
  (M.lift (padd 0 t7_5)).bind fun t26_21 =>
  (load1 t26_21).bind fun t27_22 =>
  (M.ret x1).bind fun t28_23 =>
  (M.ret x2).bind fun t29_24 =>
  (M.lift (idxV 21 t27_22 t28_23)).bind fun t30_25 =>
  (M.lift (padd 0 t30_25)).bind fun t31_26 =>
  (M.lift (aidxV 16 1 t31_26 (V.int .i64 1))).bind fun t32_27 =>
  (storeN 1 t32_27 t29_24).bind fun _ =>
  (M.lift (padd 1 t7_5)).bind fun t33_28 =>
  (load1 t33_28).bind fun t34_29 =>
  (M.ret x1).bind fun t35_30 =>
  (sliceV 1 1 [(V.int .i64 0)] [(0, t35_30)]).bind fun t36_31 =>
  (appV 1 8 t34_29 t36_31).bind fun t37_32 =>
  (M.lift (padd 1 t7_5)).bind fun t38_33 =>
  (storeN 1 t38_33 t37_32).bind fun _ =>
  (M.lift (padd 2 t7_5)).bind fun t39_34 =>
  (storeN 1 t39_34 V.nils).bind fun _ =>
  (M.ret (V.int .i64 0)).bind fun t8_35 =>
  (loopV (ferry_ferryref09_woken_l1 G call t3_1 x1 t7_5) [t8_35]).bind fun r0_82 => match r0_82.1 with
  | .normal => M.fail
  | .exit k0_83 =>
    (if k0_83 = 0 then
    (loadN 3 t7_5).bind fun t65_84 =>
    (storeN 3 t6_2 t65_84).bind fun _ =>
    (((loadN 3 t6_2)).bind fun v => (M.ret []).bind fun l => M.ret (v :: l)).bind fun l => M.ret (Ex.ret, tupV l)
    else M.fail)
  | .ret =>
    (((loadN 3 t6_2)).bind fun v => (M.ret []).bind fun l => M.ret (v :: l)).bind fun l => M.ret (Ex.ret, tupV l)

theorem ferry_ferryref09_woken_eq (G : Nat → Option (List V)) (n : Nat) (x0 : V) (x1 : V) (x2 : V) : sem (cfg G) (n + 1) 33 [x0, x1, x2] = outV (ferry_ferryref09_woken G (sem (cfg G) n) x0 x1 x2) :=
  (fnV_at (C := cfg G) (n := n) (f := 33) (fn := Tryz.f33) (c := Tryz.f33.body.getD .skip) (by kernel_rfl) (by kernel_rfl) (by kernel_rfl) [x0, x1, x2]).trans (by kernel_rfl)

noncomputable def ferry_ready_Table_wake (G : Nat → Option (List V)) (call : FuncId → List V → M V) (x0 : V) (x1 : V) (x2 : V) : M R :=
  (newV x1).bind fun t4_1 =>
  ((M.ret x0).bind fun y0_2 =>
  (M.lift (nilCheckV y0_2)).bind fun y1_3 =>
  (M.lift (padd 0 y1_3)).bind fun y2_4 =>
  (load1 y2_4).bind fun y3_5 =>
  (load1 t4_1).bind fun y4_6 =>
  (M.lift (idxV 21 y3_5 y4_6)).bind fun y5_7 =>
  (M.ret y5_7).bind fun y6_8 =>
  (M.ret y6_8).bind fun t13_9 =>
  (M.ret y6_8).bind fun t14_10 =>
  (M.ret y6_8).bind fun t15_11 =>
  (M.lift (nilCheckV t13_9)).bind fun t16_12 =>
  (M.lift (padd 17 t16_12)).bind fun t17_13 =>
  (storeN 1 t17_13 (V.int .i64 1)).bind fun _ =>
  (M.lift (nilCheckV t14_10)).bind fun t18_14 =>
  (M.lift (padd 19 t18_14)).bind fun t19_15 =>
  (storeN 1 t19_15 (V.int .i64 0)).bind fun _ =>
  (M.lift (nilCheckV t15_11)).bind fun t20_16 =>
  (M.lift (padd 20 t20_16)).bind fun t21_17 =>
  (storeN 1 t21_17 (V.int .i64 0)).bind fun _ =>
  (M.ret y6_8).bind fun t22_18 =>
  (M.ret x2).bind fun t23_19 =>
  (M.lift (nilCheckV t22_18)).bind fun t24_20 =>
  (M.lift (padd 0 t24_20)).bind fun t25_21 =>
  (M.lift (aidxV 16 1 t25_21 (V.int .i64 1))).bind fun t26_22 =>
  (storeN 1 t26_22 t23_19).bind fun _ =>
  (getN.bind fun n_23 =>
  (M.ret x0).bind fun y0_24 =>
  getN.bind fun n_25 =>
  (M.ret x0).bind fun y1_26 =>
  getN.bind fun n_27 =>
  (M.lift (nilCheckV y1_26)).bind fun y2_28 =>
  getN.bind fun n_29 =>
  (M.lift (padd 1 y2_28)).bind fun y3_30 =>
  getN.bind fun n_31 =>
  (load1 y3_30).bind fun y4_32 =>
  getN.bind fun n_33 =>
  (load1 t4_1).bind fun y5_34 =>
  getN.bind fun n_35 =>
  (sliceV 1 1 [(V.int .i64 0)] [(0, y5_34)]).bind fun y6_36 =>
  getN.bind fun n_37 =>
  (trun (visB n_23 [(n_35, n_37, true), (n_33, n_35, true), (n_31, n_33, true), (n_29, n_31, true), (n_27, n_29, true), (n_25, n_27, true), (n_23, n_25, false)]) (appV 1 8 y4_32 y6_36)).bind fun y7_38 =>
  (M.lift (nilCheckV y0_24)).bind fun y8_39 =>
  (M.lift (padd 1 y8_39)).bind fun y9_40 =>
  (storeN 1 y9_40 y7_38).bind fun _ =>
  (M.ret x0).bind fun t37_41 =>
  (M.ret x0).bind fun t38_42 =>
  (M.lift (nilCheckV t38_42)).bind fun t39_43 =>
  (M.lift (padd 2 t39_43)).bind fun t40_44 =>
  (load1 t40_44).bind fun t41_45 =>
  (M.ret (V.fn 58 [t4_1])).bind fun t42_46 =>
  (callV (cfg G) call 57 [t41_45, t42_46]).bind fun t43_47 =>
  (M.lift (nilCheckV t37_41)).bind fun t44_48 =>
  (M.lift (padd 2 t44_48)).bind fun t45_49 =>
  (storeN 1 t45_49 t43_47).bind fun _ =>
  M.ret (Ex.ret, [V.tuple []])))

theorem ferry_ready_Table_wake_eq (G : Nat → Option (List V)) (n : Nat) (x0 : V) (x1 : V) (x2 : V) : sem (cfg G) (n + 1) 38 [x0, x1, x2] = outV (ferry_ready_Table_wake G (sem (cfg G) n) x0 x1 x2) :=
  (fnV_at (C := cfg G) (n := n) (f := 38) (fn := Tryz.f38) (c := Tryz.f38.body.getD .skip) (by kernel_rfl) (by kernel_rfl) (by kernel_rfl) [x0, x1, x2]).trans (by kernel_rfl)

noncomputable def ferry_ready_WakeAll_l1 (G : Nat → Option (List V)) (call : FuncId → List V → M V) (t24_17 : V) (t23_16 : V) (x3 : V) (t10_12 : V) (s0_19 : List V) : M R :=
  (M.lift (arithV .lss (s0_19.getD 0 V.undef) t24_17)).bind fun t26_20 =>
  (condV t26_20
   ((M.lift (idxV 1 t23_16 (s0_19.getD 0 V.undef))).bind fun t27_21 =>
  (load1 t27_21).bind fun t28_22 =>
  (M.ret t28_22).bind fun t12_23 =>
  (M.ret t12_23).bind fun t29_24 =>
  (M.ret x3).bind fun t30_25 =>
  (callV (cfg G) call 38 [t10_12, t29_24, t30_25]).bind fun t31_26 =>
  (M.lift (arithV .add (s0_19.getD 0 V.undef) (V.int .i64 1))).bind fun t32_27 =>
  (M.ret t32_27).bind fun t25_28 =>
  M.ret (Ex.normal, [t25_28]))
   (M.ret ((Ex.exit 0), [(s0_19.getD 0 V.undef)])))

noncomputable def ferry_ready_WakeAll (G : Nat → Option (List V)) (call : FuncId → List V → M V) (x0 : V) (x1 : V) (x2 : V) (x3 : V) : M R :=
  (newV x0).bind fun t4_1 =>
  (newV (.agg [V.nils, V.nils, V.nils])).bind fun t8_2 =>
  (M.ret V.nili).bind fun t9_3 =>
  (loadN 3 t4_1).bind fun t13_4 =>
  (callV (cfg G) call 24 [t13_4]).bind fun t14_5 =>
  (M.lift (unV .not t14_5)).bind fun t15_6 =>
  (condV t15_6
   (((M.lift (buildV [V.nils, V.nils, V.nils] [])).bind fun y0_7 =>
  (load1 (glob (cfg G) 1)).bind fun y1_8 =>
  guardM (apartV (glob (cfg G) 1) t8_2 && true) (
  (storeN 3 t8_2 y0_7).bind fun _ =>
  (M.ret y1_8).bind fun y3_9 =>
  (((loadN 3 t8_2)).bind fun v => ((M.ret []).bind fun l => M.ret (y3_9 :: l)).bind fun l => M.ret (v :: l)).bind fun l => M.ret (Ex.ret, tupV l))))
   ((loadN 3 t4_1).bind fun t18_10 =>
  (callV (cfg G) call 49 [t18_10]).bind fun t19_11 =>
  (newV (.agg [V.nils, V.nils, V.nils])).bind fun t10_12 =>
  (storeN 3 t10_12 t19_11).bind fun _ =>
  (loadN 3 t4_1).bind fun t20_13 =>
  (M.ret x1).bind fun t21_14 =>
  (M.ret x2).bind fun t22_15 =>
  (callV (cfg G) call 64 [t20_13, t21_14, t22_15]).bind fun t23_16 =>
  (M.lift (lenV t23_16)).bind fun t24_17 =>
  (M.ret (V.int .i64 0)).bind fun t25_18 =>
  (loopV (ferry_ready_WakeAll_l1 G call t24_17 t23_16 x3 t10_12) [t25_18]).bind fun r0_29 => match r0_29.1 with
  | .normal => M.fail
  | .exit k0_30 =>
    (if k0_30 = 0 then
    (loadN 3 t10_12).bind fun t33_31 =>
    (storeN 3 t8_2 t33_31).bind fun _ =>
    (M.ret V.nili).bind fun t9_32 =>
    (((loadN 3 t8_2)).bind fun v => ((M.ret []).bind fun l => M.ret (t9_32 :: l)).bind fun l => M.ret (v :: l)).bind fun l => M.ret (Ex.ret, tupV l)
    else M.fail)
  | .ret =>
    (((loadN 3 t8_2)).bind fun v => ((M.ret []).bind fun l => M.ret (t9_3 :: l)).bind fun l => M.ret (v :: l)).bind fun l => M.ret (Ex.ret, tupV l)))

theorem ferry_ready_WakeAll_eq (G : Nat → Option (List V)) (n : Nat) (x0 : V) (x1 : V) (x2 : V) (x3 : V) : sem (cfg G) (n + 1) 42 [x0, x1, x2, x3] = outV (ferry_ready_WakeAll G (sem (cfg G) n) x0 x1 x2 x3) :=
  (fnV_at (C := cfg G) (n := n) (f := 42) (fn := Tryz.f42) (c := Tryz.f42.body.getD .skip) (by kernel_rfl) (by kernel_rfl) (by kernel_rfl) [x0, x1, x2, x3]).trans (by kernel_rfl)

noncomputable def ferry_ready_Fire_j1 (G : Nat → Option (List V)) (call : FuncId → List V → M V) (t12_39 : V) (t10_31 : V) (s0_35 : List V) (j13_48 : V) : M R :=
  (M.ret t12_39).bind fun t46_49 =>
  (M.ret j13_48).bind fun t47_50 =>
  (callV (cfg G) call 38 [t10_31, t46_49, t47_50]).bind fun t48_51 =>
  (M.lift (arithV .add (s0_35.getD 0 V.undef) (V.int .i64 1))).bind fun t49_52 =>
  (M.ret t49_52).bind fun t35_53 =>
  M.ret (Ex.normal, [t35_53])

noncomputable def ferry_ready_Fire_l1 (G : Nat → Option (List V)) (call : FuncId → List V → M V) (t34_33 : V) (t33_32 : V) (t10_31 : V) (s0_35 : List V) : M R :=
  (M.lift (arithV .lss (s0_35.getD 0 V.undef) t34_33)).bind fun t36_36 =>
  (condV t36_36
   ((M.lift (idxV 1 t33_32 (s0_35.getD 0 V.undef))).bind fun t37_37 =>
  (load1 t37_37).bind fun t38_38 =>
  (M.ret t38_38).bind fun t12_39 =>
  (M.ret (V.int .u32 4294967294)).bind fun t13_40 =>
  (M.lift (padd 0 t10_31)).bind fun t39_41 =>
  (load1 t39_41).bind fun t40_42 =>
  (M.ret t12_39).bind fun t41_43 =>
  (M.lift (idxV 21 t40_42 t41_43)).bind fun t42_44 =>
  (M.lift (padd 19 t42_44)).bind fun t43_45 =>
  (load1 t43_45).bind fun t44_46 =>
  (M.lift ((eqV (.sc .int) true t44_46 (V.int .i64 1)).bind fun b => some (.bool b))).bind fun t45_47 =>
  (condV t45_47
   ((M.ret (V.int .u32 0)).bind fun t13_54 =>
  ferry_ready_Fire_j1 G call t12_39 t10_31 s0_35 t13_54)
   (ferry_ready_Fire_j1 G call t12_39 t10_31 s0_35 t13_40)))
   (M.ret ((Ex.exit 0), [(s0_35.getD 0 V.undef)])))

noncomputable def ferry_ready_Fire (G : Nat → Option (List V)) (call : FuncId → List V → M V) (x0 : V) (x1 : V) : M R :=
  (newV x0).bind fun t2_1 =>
  (newV (.agg [V.nils, V.nils, V.nils])).bind fun t4_2 =>
  (M.ret V.nils).bind fun t5_3 =>
  (M.ret V.nili).bind fun t6_4 =>
  (loadN 3 t2_1).bind fun t14_5 =>
  (callV (cfg G) call 24 [t14_5]).bind fun t15_6 =>
  (M.lift (unV .not t15_6)).bind fun t16_7 =>
  (condV t16_7
   (((M.lift (buildV [V.nils, V.nils, V.nils] [])).bind fun y0_8 =>
  (load1 (glob (cfg G) 1)).bind fun y1_9 =>
  guardM (apartV (glob (cfg G) 1) t4_2 && true) (
  (storeN 3 t4_2 y0_8).bind fun _ =>
  (M.ret V.nils).bind fun y3_10 =>
  (M.ret y1_9).bind fun y4_11 =>
  (((loadN 3 t4_2)).bind fun v => (((M.ret []).bind fun l => M.ret (y4_11 :: l)).bind fun l => M.ret (y3_10 :: l)).bind fun l => M.ret (v :: l)).bind fun l => M.ret (Ex.ret, tupV l))))
   ((M.lift (padd 2 t2_1)).bind fun t20_12 =>
  (load1 t20_12).bind fun t21_13 =>
  (M.ret x1).bind fun t22_14 =>
  (callV (cfg G) call 65 [t21_13, t22_14]).bind fun t23_15 =>
  (M.ret t23_15).bind fun t19_16 =>
  (M.lift (extractV t19_16 0)).bind fun t24_17 =>
  (M.lift (extractV t19_16 1)).bind fun t25_18 =>
  (M.lift (extractV t19_16 2)).bind fun t26_19 =>
  (M.ret t24_17).bind fun t7_20 =>
  (M.ret t25_18).bind fun t8_21 =>
  (M.ret t26_19).bind fun t9_22 =>
  (M.ret t9_22).bind fun t27_23 =>
  (M.lift ((eqV .iface true t27_23 V.nili).bind fun b => some (.bool !b))).bind fun t28_24 =>
  (condV t28_24
   ((M.lift (buildV [V.nils, V.nils, V.nils] [])).bind fun t29_25 =>
  (M.ret t9_22).bind fun t30_26 =>
  (storeN 3 t4_2 t29_25).bind fun _ =>
  (M.ret V.nils).bind fun t5_27 =>
  (M.ret t30_26).bind fun t6_28 =>
  (((loadN 3 t4_2)).bind fun v => (((M.ret []).bind fun l => M.ret (t6_28 :: l)).bind fun l => M.ret (t5_27 :: l)).bind fun l => M.ret (v :: l)).bind fun l => M.ret (Ex.ret, tupV l))
   ((loadN 3 t2_1).bind fun t31_29 =>
  (callV (cfg G) call 49 [t31_29]).bind fun t32_30 =>
  (newV (.agg [V.nils, V.nils, V.nils])).bind fun t10_31 =>
  (storeN 3 t10_31 t32_30).bind fun _ =>
  (M.ret t7_20).bind fun t33_32 =>
  (M.lift (lenV t33_32)).bind fun t34_33 =>
  (M.ret (V.int .i64 0)).bind fun t35_34 =>
  (loopV (ferry_ready_Fire_l1 G call t34_33 t33_32 t10_31) [t35_34]).bind fun r0_55 => match r0_55.1 with
  | .normal => M.fail
  | .exit k0_56 =>
    (if k0_56 = 0 then
    (loadN 3 t10_31).bind fun t50_57 =>
    (M.ret t7_20).bind fun t51_58 =>
    (storeN 3 t4_2 t50_57).bind fun _ =>
    (M.ret t51_58).bind fun t5_59 =>
    (M.ret V.nili).bind fun t6_60 =>
    (((loadN 3 t4_2)).bind fun v => (((M.ret []).bind fun l => M.ret (t6_60 :: l)).bind fun l => M.ret (t5_59 :: l)).bind fun l => M.ret (v :: l)).bind fun l => M.ret (Ex.ret, tupV l)
    else M.fail)
  | .ret =>
    (((loadN 3 t4_2)).bind fun v => (((M.ret []).bind fun l => M.ret (t6_4 :: l)).bind fun l => M.ret (t5_3 :: l)).bind fun l => M.ret (v :: l)).bind fun l => M.ret (Ex.ret, tupV l)))))

theorem ferry_ready_Fire_eq (G : Nat → Option (List V)) (n : Nat) (x0 : V) (x1 : V) : sem (cfg G) (n + 1) 43 [x0, x1] = outV (ferry_ready_Fire G (sem (cfg G) n) x0 x1) :=
  (fnV_at (C := cfg G) (n := n) (f := 43) (fn := Tryz.f43) (c := Tryz.f43.body.getD .skip) (by kernel_rfl) (by kernel_rfl) (by kernel_rfl) [x0, x1]).trans (by kernel_rfl)

noncomputable def ferry_ferrylaw09_same (G : Nat → Option (List V)) (call : FuncId → List V → M V) (x0 : V) (x1 : V) (x2 : V) (x3 : V) : M R :=
  (newV x0).bind fun t4_1 =>
  (newV x2).bind fun t6_2 =>
  (M.ret (V.bool false)).bind fun t8_3 =>
  (getN.bind fun n_4 =>
  (M.ret x1).bind fun y0_5 =>
  getN.bind fun n_6 =>
  (M.ret x3).bind fun y1_7 =>
  getN.bind fun n_8 =>
  (qrun (visB n_4 [(n_6, n_8, true), (n_4, n_6, true)]) (callV (cfg G) call 22 [y0_5, y1_7])).bind fun y2_9 =>
  getN.bind fun n_10 =>
  (M.ret y2_9).bind fun y3_11 =>
  getN.bind fun n_12 =>
  (guardV y3_11 true (loadN 3 t4_1)).bind fun y4_13 =>
  getN.bind fun n_14 =>
  (qrun (visB n_4 [(n_12, n_14, true), (n_10, n_12, true), (n_8, n_10, true), (n_6, n_8, true), (n_4, n_6, true)]) (guardV y3_11 true (callV (cfg G) call 25 [y4_13]))).bind fun y5_15 =>
  getN.bind fun n_16 =>
  (guardV y3_11 true (loadN 3 t6_2)).bind fun y6_17 =>
  getN.bind fun n_18 =>
  (qrun (visB n_4 [(n_16, n_18, true), (n_14, n_16, true), (n_12, n_14, true), (n_10, n_12, true), (n_8, n_10, true), (n_6, n_8, true), (n_4, n_6, true)]) (guardV y3_11 true (callV (cfg G) call 36 [y5_15, y6_17]))).bind fun y7_19 =>
  (M.lift (pickV y3_11 y7_19 (V.bool false))).bind fun y8_20 =>
  (M.ret y8_20).bind fun y9_21 =>
  M.ret (Ex.ret, [y9_21]))

theorem ferry_ferrylaw09_same_eq (G : Nat → Option (List V)) (n : Nat) (x0 : V) (x1 : V) (x2 : V) (x3 : V) : sem (cfg G) (n + 1) 14 [x0, x1, x2, x3] = outV (ferry_ferrylaw09_same G (sem (cfg G) n) x0 x1 x2 x3) :=
  (fnV_at (C := cfg G) (n := n) (f := 14) (fn := Tryz.f14) (c := Tryz.f14.body.getD .skip) (by kernel_rfl) (by kernel_rfl) (by kernel_rfl) [x0, x1, x2, x3]).trans (by kernel_rfl)

end Go.Fv.Tr

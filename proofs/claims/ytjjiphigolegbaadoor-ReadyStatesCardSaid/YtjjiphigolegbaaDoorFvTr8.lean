/-
  The Go functions ferry/ready.Waiters, ferry/ferryref09.Waiters, ferry/ferryref09.Best, ferry/ready.Best, ferry/ferryref09.Equal as plain terms. By an AI agent; no person has read it.
-/
import Derived.Test.YtjjiphigolegbaaDoorFvCf
import Derived.Test.YtjjiphigolegbaaDoorFvW4
set_option linter.unusedVariables false
set_option linter.unusedSimpArgs false
set_option linter.unusedSectionVars false
/-! The Go functions ferry/ready.Waiters, ferry/ferryref09.Waiters, ferry/ferryref09.Best, ferry/ready.Best, ferry/ferryref09.Equal as plain terms. -/
namespace Go.Fv.Tr
open Go Go.Fv Go.Proofs
set_option linter.unusedVariables false
set_option maxRecDepth 20000

noncomputable def ferry_ready_Waiters_l1 (G : Nat → Option (List V)) (call : FuncId → List V → M V) (t12_6 : V) (t11_5 : V) (x1 : V) (x2 : V) (s0_8 : List V) : M R :=
  (M.lift (arithV .lss (s0_8.getD 1 V.undef) t12_6)).bind fun t14_9 =>
  (condV t14_9
   ((M.ret (s0_8.getD 1 V.undef)).bind fun t15_10 =>
  (M.lift (idxV 21 t11_5 (s0_8.getD 1 V.undef))).bind fun t16_11 =>
  (loadN 21 t16_11).bind fun t17_12 =>
  (newV (.agg [(V.int .u32 0), (V.int .u32 0), (V.int .u32 0), (V.int .u32 0), (V.int .u32 0), (V.int .u32 0), (V.int .u32 0), (V.int .u32 0), (V.int .u32 0), (V.int .u32 0), (V.int .u32 0), (V.int .u32 0), (V.int .u32 0), (V.int .u32 0), (V.int .u32 0), (V.int .u32 0), (V.int .u32 0), (V.int .i64 0), (V.int .i64 0), (V.int .i64 0), (V.int .i64 0)])).bind fun t9_13 =>
  (M.ret t15_10).bind fun t8_14 =>
  (storeN 21 t9_13 t17_12).bind fun _ =>
  (M.lift (padd 17 t9_13)).bind fun t18_15 =>
  (load1 t18_15).bind fun t19_16 =>
  (M.lift ((eqV (.sc .int) true t19_16 (V.int .i64 2)).bind fun b => some (.bool b))).bind fun t20_17 =>
  (M.ret t20_17).bind fun t21_18 =>
  (guardV t21_18 true (M.lift (padd 19 t9_13))).bind fun t22_19 =>
  (guardV t21_18 true (load1 t22_19)).bind fun t23_20 =>
  (guardV t21_18 true (M.ret x1)).bind fun t24_21 =>
  (guardV t21_18 true (M.lift ((eqV (.sc .int) false t23_20 t24_21).bind fun b => some (.bool b)))).bind fun t25_22 =>
  (M.lift (pickV t21_18 t25_22 (V.bool false))).bind fun t26_23 =>
  (M.ret t26_23).bind fun t27_24 =>
  (guardV t27_24 true (M.lift (padd 20 t9_13))).bind fun t28_25 =>
  (guardV t27_24 true (load1 t28_25)).bind fun t29_26 =>
  (guardV t27_24 true (M.ret x2)).bind fun t30_27 =>
  (guardV t27_24 true (M.lift ((eqV (.sc .int) false t29_26 t30_27).bind fun b => some (.bool b)))).bind fun t31_28 =>
  (M.lift (pickV t27_24 t31_28 (V.bool false))).bind fun t32_29 =>
  (condV t32_29
   ((M.ret (s0_8.getD 0 V.undef)).bind fun t33_37 =>
  (M.ret t8_14).bind fun t34_38 =>
  (sliceV 1 1 [(V.int .i64 0)] [(0, t34_38)]).bind fun t35_39 =>
  (appV 1 8 t33_37 t35_39).bind fun t36_40 =>
  (M.ret t36_40).bind fun t7_41 =>
  (M.lift (arithV .add (s0_8.getD 1 V.undef) (V.int .i64 1))).bind fun t37_42 =>
  (M.ret t37_42).bind fun t13_43 =>
  M.ret (Ex.normal, [t7_41, t13_43]))
   ((M.lift (arithV .add (s0_8.getD 1 V.undef) (V.int .i64 1))).bind fun t37_44 =>
  (M.ret t37_44).bind fun t13_45 =>
  M.ret (Ex.normal, [(s0_8.getD 0 V.undef), t13_45]))))
   (M.ret ((Ex.exit 0), [(s0_8.getD 0 V.undef), (s0_8.getD 1 V.undef)])))

noncomputable def ferry_ready_Waiters (G : Nat → Option (List V)) (call : FuncId → List V → M V) (x0 : V) (x1 : V) (x2 : V) : M R :=
  (newV x0).bind fun t3_1 =>
  (M.ret V.nils).bind fun t6_2 =>
  (M.ret V.nils).bind fun t7_3 =>
  (M.lift (padd 0 t3_1)).bind fun t10_4 =>
  (load1 t10_4).bind fun t11_5 =>
  (M.lift (lenV t11_5)).bind fun t12_6 =>
  (M.ret (V.int .i64 0)).bind fun t13_7 =>
  (loopV (ferry_ready_Waiters_l1 G call t12_6 t11_5 x1 x2) [t7_3, t13_7]).bind fun r0_46 => match r0_46.1 with
  | .normal => M.fail
  | .exit k0_47 =>
    (if k0_47 = 0 then
    (M.ret (r0_46.2.getD 0 V.undef)).bind fun t38_48 =>
    (M.ret t38_48).bind fun t6_49 =>
    M.ret (Ex.ret, [t6_49])
    else M.fail)
  | .ret =>
    M.ret (Ex.ret, [t6_2])

theorem ferry_ready_Waiters_eq (G : Nat → Option (List V)) (n : Nat) (x0 : V) (x1 : V) (x2 : V) : sem (cfg G) (n + 1) 44 [x0, x1, x2] = outV (ferry_ready_Waiters G (sem (cfg G) n) x0 x1 x2) :=
  (fnV_at (C := cfg G) (n := n) (f := 44) (fn := Tryd.f44) (c := Tryd.f44.body.getD .skip) (by kernel_rfl) (by kernel_rfl) (by kernel_rfl) [x0, x1, x2]).trans (by kernel_rfl)

noncomputable def ferry_ferryref09_Waiters_j1 (G : Nat → Option (List V)) (call : FuncId → List V → M V) (s0_5 : List V) (j7_36 : V) : M R :=
  (M.ret (s0_5.getD 1 V.undef)).bind fun t15_37 =>
  (M.lift (arithV .add t15_37 (V.int .i64 1))).bind fun t16_38 =>
  (M.ret t16_38).bind fun t8_39 =>
  M.ret (Ex.normal, [j7_36, t8_39])

noncomputable def ferry_ferryref09_Waiters_l1 (G : Nat → Option (List V)) (call : FuncId → List V → M V) (t3_1 : V) (x1 : V) (x2 : V) (s0_5 : List V) : M R :=
  (M.ret (s0_5.getD 1 V.undef)).bind fun t10_6 =>
  (M.lift (padd 0 t3_1)).bind fun t11_7 =>
  (load1 t11_7).bind fun t12_8 =>
  (M.lift (lenV t12_8)).bind fun t13_9 =>
  (M.lift (arithV .lss t10_6 t13_9)).bind fun t14_10 =>
  (condV t14_10
   ((M.lift (padd 0 t3_1)).bind fun t17_11 =>
  (load1 t17_11).bind fun t18_12 =>
  (M.ret (s0_5.getD 1 V.undef)).bind fun t19_13 =>
  (M.lift (idxV 21 t18_12 t19_13)).bind fun t20_14 =>
  (loadN 21 t20_14).bind fun t21_15 =>
  (newV (.agg [(V.int .u32 0), (V.int .u32 0), (V.int .u32 0), (V.int .u32 0), (V.int .u32 0), (V.int .u32 0), (V.int .u32 0), (V.int .u32 0), (V.int .u32 0), (V.int .u32 0), (V.int .u32 0), (V.int .u32 0), (V.int .u32 0), (V.int .u32 0), (V.int .u32 0), (V.int .u32 0), (V.int .u32 0), (V.int .i64 0), (V.int .i64 0), (V.int .i64 0), (V.int .i64 0)])).bind fun t9_16 =>
  (storeN 21 t9_16 t21_15).bind fun _ =>
  (M.lift (padd 17 t9_16)).bind fun t22_17 =>
  (load1 t22_17).bind fun t23_18 =>
  (M.lift ((eqV (.sc .int) true t23_18 (V.int .i64 2)).bind fun b => some (.bool b))).bind fun t24_19 =>
  (M.ret t24_19).bind fun t25_20 =>
  (guardV t25_20 true (M.lift (padd 19 t9_16))).bind fun t26_21 =>
  (guardV t25_20 true (load1 t26_21)).bind fun t27_22 =>
  (guardV t25_20 true (M.ret x1)).bind fun t28_23 =>
  (guardV t25_20 true (M.lift ((eqV (.sc .int) false t27_22 t28_23).bind fun b => some (.bool b)))).bind fun t29_24 =>
  (M.lift (pickV t25_20 t29_24 (V.bool false))).bind fun t30_25 =>
  (M.ret t30_25).bind fun t31_26 =>
  (guardV t31_26 true (M.lift (padd 20 t9_16))).bind fun t32_27 =>
  (guardV t31_26 true (load1 t32_27)).bind fun t33_28 =>
  (guardV t31_26 true (M.ret x2)).bind fun t34_29 =>
  (guardV t31_26 true (M.lift ((eqV (.sc .int) false t33_28 t34_29).bind fun b => some (.bool b)))).bind fun t35_30 =>
  (M.lift (pickV t31_26 t35_30 (V.bool false))).bind fun t36_31 =>
  (condV t36_31
   ((M.ret (s0_5.getD 0 V.undef)).bind fun t37_40 =>
  (M.ret (s0_5.getD 1 V.undef)).bind fun t38_41 =>
  (sliceV 1 1 [(V.int .i64 0)] [(0, t38_41)]).bind fun t39_42 =>
  (appV 1 8 t37_40 t39_42).bind fun t40_43 =>
  (M.ret t40_43).bind fun t7_44 =>
  ferry_ferryref09_Waiters_j1 G call s0_5 t7_44)
   (ferry_ferryref09_Waiters_j1 G call s0_5 (s0_5.getD 0 V.undef))))
   (M.ret ((Ex.exit 0), [(s0_5.getD 0 V.undef), (s0_5.getD 1 V.undef)])))

noncomputable def ferry_ferryref09_Waiters (G : Nat → Option (List V)) (call : FuncId → List V → M V) (x0 : V) (x1 : V) (x2 : V) : M R :=
  (newV x0).bind fun t3_1 =>
  (M.ret V.nils).bind fun t6_2 =>
  (M.ret V.nils).bind fun t7_3 =>
  (M.ret (V.int .i64 0)).bind fun t8_4 =>
  (loopV (ferry_ferryref09_Waiters_l1 G call t3_1 x1 x2) [t7_3, t8_4]).bind fun r0_45 => match r0_45.1 with
  | .normal => M.fail
  | .exit k0_46 =>
    (if k0_46 = 0 then
    (M.ret (r0_45.2.getD 0 V.undef)).bind fun t41_47 =>
    (M.ret t41_47).bind fun t6_48 =>
    M.ret (Ex.ret, [t6_48])
    else M.fail)
  | .ret =>
    M.ret (Ex.ret, [t6_2])

theorem ferry_ferryref09_Waiters_eq (G : Nat → Option (List V)) (n : Nat) (x0 : V) (x1 : V) (x2 : V) : sem (cfg G) (n + 1) 45 [x0, x1, x2] = outV (ferry_ferryref09_Waiters G (sem (cfg G) n) x0 x1 x2) :=
  (fnV_at (C := cfg G) (n := n) (f := 45) (fn := Tryd.f45) (c := Tryd.f45.body.getD .skip) (by kernel_rfl) (by kernel_rfl) (by kernel_rfl) [x0, x1, x2]).trans (by kernel_rfl)

noncomputable def ferry_ferryref09_Best_j1 (G : Nat → Option (List V)) (call : FuncId → List V → M V) (s0_16 : List V) (j9_45 : V) : M R :=
  (M.ret (s0_16.getD 1 V.undef)).bind fun t22_46 =>
  (M.lift (arithV .add t22_46 (V.int .i64 1))).bind fun t23_47 =>
  (M.ret t23_47).bind fun t10_48 =>
  M.ret (Ex.normal, [j9_45, t10_48])

noncomputable def ferry_ferryref09_Best_l1 (G : Nat → Option (List V)) (call : FuncId → List V → M V) (t8_13 : V) (t3_1 : V) (s0_16 : List V) : M R :=
  (M.ret (s0_16.getD 1 V.undef)).bind fun t18_17 =>
  (M.ret t8_13).bind fun t19_18 =>
  (M.lift (lenV t19_18)).bind fun t20_19 =>
  (M.lift (arithV .lss t18_17 t20_19)).bind fun t21_20 =>
  (condV t21_20
   (((M.ret (s0_16.getD 0 V.undef)).bind fun y0_21 =>
  (M.lift (arithV .lss y0_21 (V.int .i64 0))).bind fun y1_22 =>
  (M.ret y1_22).bind fun y2_23 =>
  (guardV y2_23 false (M.lift (padd 0 t3_1))).bind fun y3_24 =>
  (guardV y2_23 false (load1 y3_24)).bind fun y4_25 =>
  (guardV y2_23 false (M.ret t8_13)).bind fun y5_26 =>
  (guardV y2_23 false (M.ret (s0_16.getD 1 V.undef))).bind fun y6_27 =>
  (guardV y2_23 false (M.lift (idxV 1 y5_26 y6_27))).bind fun y7_28 =>
  (guardV y2_23 false (load1 y7_28)).bind fun y8_29 =>
  (guardV y2_23 false (M.lift (idxV 21 y4_25 y8_29))).bind fun y9_30 =>
  (guardV y2_23 false (M.lift (padd 18 y9_30))).bind fun y10_31 =>
  (guardV y2_23 false (load1 y10_31)).bind fun y11_32 =>
  (guardV y2_23 false (M.lift (padd 0 t3_1))).bind fun y12_33 =>
  (guardV y2_23 false (load1 y12_33)).bind fun y13_34 =>
  (guardV y2_23 false (M.ret (s0_16.getD 0 V.undef))).bind fun y14_35 =>
  (guardV y2_23 false (M.lift (idxV 21 y13_34 y14_35))).bind fun y15_36 =>
  (guardV y2_23 false (M.lift (padd 18 y15_36))).bind fun y16_37 =>
  (guardV y2_23 false (load1 y16_37)).bind fun y17_38 =>
  (guardV y2_23 false (M.lift (arithV .gtr y11_32 y17_38))).bind fun y18_39 =>
  (M.lift (pickV y2_23 (V.bool true) y18_39)).bind fun y19_40 =>
  (condV y19_40
   ((M.ret t8_13).bind fun t44_49 =>
  (M.ret (s0_16.getD 1 V.undef)).bind fun t45_50 =>
  (M.lift (idxV 1 t44_49 t45_50)).bind fun t46_51 =>
  (load1 t46_51).bind fun t47_52 =>
  (M.ret t47_52).bind fun t9_53 =>
  ferry_ferryref09_Best_j1 G call s0_16 t9_53)
   (ferry_ferryref09_Best_j1 G call s0_16 (s0_16.getD 0 V.undef)))))
   (M.ret ((Ex.exit 0), [(s0_16.getD 0 V.undef), (s0_16.getD 1 V.undef)])))

noncomputable def ferry_ferryref09_Best (G : Nat → Option (List V)) (call : FuncId → List V → M V) (x0 : V) (x1 : V) (x2 : V) : M R :=
  (newV x0).bind fun t3_1 =>
  (M.ret (V.int .i64 0)).bind fun t6_2 =>
  (M.ret (V.int .i64 0)).bind fun t7_3 =>
  (loadN 3 t3_1).bind fun t11_4 =>
  (callV (cfg G) call 16 [t11_4]).bind fun t12_5 =>
  (M.lift (unV .not t12_5)).bind fun t13_6 =>
  (condV t13_6
   ((M.ret (V.int .i64 0)).bind fun t6_7 =>
  (M.ret (V.int .i64 9)).bind fun t7_8 =>
  M.ret (Ex.ret, [V.tuple [t6_7, t7_8]]))
   ((loadN 3 t3_1).bind fun t14_9 =>
  (M.ret x1).bind fun t15_10 =>
  (M.ret x2).bind fun t16_11 =>
  (callV (cfg G) call 45 [t14_9, t15_10, t16_11]).bind fun t17_12 =>
  (M.ret t17_12).bind fun t8_13 =>
  (M.ret (V.int .i64 (-1))).bind fun t9_14 =>
  (M.ret (V.int .i64 0)).bind fun t10_15 =>
  (loopV (ferry_ferryref09_Best_l1 G call t8_13 t3_1) [t9_14, t10_15]).bind fun r0_54 => match r0_54.1 with
  | .normal => M.fail
  | .exit k0_55 =>
    (if k0_55 = 0 then
    (M.ret (r0_54.2.getD 0 V.undef)).bind fun t48_56 =>
    (M.lift (arithV .lss t48_56 (V.int .i64 0))).bind fun t49_57 =>
    (condV t49_57
     ((M.ret (V.int .i64 0)).bind fun t6_58 =>
    (M.ret (V.int .i64 17)).bind fun t7_59 =>
    M.ret (Ex.ret, [V.tuple [t6_58, t7_59]]))
     ((M.ret (r0_54.2.getD 0 V.undef)).bind fun t50_60 =>
    (M.ret t50_60).bind fun t6_61 =>
    (M.ret (V.int .i64 0)).bind fun t7_62 =>
    M.ret (Ex.ret, [V.tuple [t6_61, t7_62]])))
    else M.fail)
  | .ret =>
    M.ret (Ex.ret, [V.tuple [t6_2, t7_3]])))

theorem ferry_ferryref09_Best_eq (G : Nat → Option (List V)) (n : Nat) (x0 : V) (x1 : V) (x2 : V) : sem (cfg G) (n + 1) 46 [x0, x1, x2] = outV (ferry_ferryref09_Best G (sem (cfg G) n) x0 x1 x2) :=
  (fnV_at (C := cfg G) (n := n) (f := 46) (fn := Tryd.f46) (c := Tryd.f46.body.getD .skip) (by kernel_rfl) (by kernel_rfl) (by kernel_rfl) [x0, x1, x2]).trans (by kernel_rfl)

noncomputable def ferry_ready_Best_l1 (G : Nat → Option (List V)) (call : FuncId → List V → M V) (t28_26 : V) (t27_25 : V) (t3_1 : V) (s0_28 : List V) : M R :=
  (M.lift (arithV .lss (s0_28.getD 1 V.undef) t28_26)).bind fun t30_29 =>
  (condV t30_29
   ((M.lift (idxV 1 t27_25 (s0_28.getD 1 V.undef))).bind fun t31_30 =>
  (load1 t31_30).bind fun t32_31 =>
  (M.ret t32_31).bind fun t11_32 =>
  ((M.lift (padd 0 t3_1)).bind fun y0_33 =>
  (load1 y0_33).bind fun y1_34 =>
  (M.ret t11_32).bind fun y2_35 =>
  (M.lift (idxV 21 y1_34 y2_35)).bind fun y3_36 =>
  (M.lift (padd 18 y3_36)).bind fun y4_37 =>
  (load1 y4_37).bind fun y5_38 =>
  (M.lift (padd 0 t3_1)).bind fun y6_39 =>
  (load1 y6_39).bind fun y7_40 =>
  (M.ret (s0_28.getD 0 V.undef)).bind fun y8_41 =>
  (M.lift (idxV 21 y7_40 y8_41)).bind fun y9_42 =>
  (M.lift (padd 18 y9_42)).bind fun y10_43 =>
  (load1 y10_43).bind fun y11_44 =>
  (M.lift (arithV .gtr y5_38 y11_44)).bind fun y12_45 =>
  (condV y12_45
   ((M.ret t11_32).bind fun t46_50 =>
  (M.ret t46_50).bind fun t9_51 =>
  (M.lift (arithV .add (s0_28.getD 1 V.undef) (V.int .i64 1))).bind fun t47_52 =>
  (M.ret t47_52).bind fun t29_53 =>
  M.ret (Ex.normal, [t9_51, t29_53]))
   ((M.lift (arithV .add (s0_28.getD 1 V.undef) (V.int .i64 1))).bind fun t47_54 =>
  (M.ret t47_54).bind fun t29_55 =>
  M.ret (Ex.normal, [(s0_28.getD 0 V.undef), t29_55])))))
   (M.ret ((Ex.exit 0), [(s0_28.getD 0 V.undef), (s0_28.getD 1 V.undef)])))

noncomputable def ferry_ready_Best (G : Nat → Option (List V)) (call : FuncId → List V → M V) (x0 : V) (x1 : V) (x2 : V) : M R :=
  (newV x0).bind fun t3_1 =>
  (M.ret (V.int .i64 0)).bind fun t6_2 =>
  (M.ret V.nili).bind fun t7_3 =>
  (loadN 3 t3_1).bind fun t12_4 =>
  (callV (cfg G) call 42 [t12_4]).bind fun t13_5 =>
  (M.lift (unV .not t13_5)).bind fun t14_6 =>
  (condV t14_6
   (((load1 (glob (cfg G) 0)).bind fun y0_7 =>
  (M.ret (V.int .i64 0)).bind fun y1_8 =>
  (M.ret y0_7).bind fun y2_9 =>
  M.ret (Ex.ret, [V.tuple [y1_8, y2_9]])))
   ((loadN 3 t3_1).bind fun t16_10 =>
  (M.ret x1).bind fun t17_11 =>
  (M.ret x2).bind fun t18_12 =>
  (callV (cfg G) call 44 [t16_10, t17_11, t18_12]).bind fun t19_13 =>
  (M.ret t19_13).bind fun t8_14 =>
  (M.ret t8_14).bind fun t20_15 =>
  (M.lift (lenV t20_15)).bind fun t21_16 =>
  (M.lift ((eqV (.sc .int) true t21_16 (V.int .i64 0)).bind fun b => some (.bool b))).bind fun t22_17 =>
  (condV t22_17
   (((load1 (glob (cfg G) 1)).bind fun y0_18 =>
  (M.ret (V.int .i64 0)).bind fun y1_19 =>
  (M.ret y0_18).bind fun y2_20 =>
  M.ret (Ex.ret, [V.tuple [y1_19, y2_20]])))
   ((M.ret t8_14).bind fun t24_21 =>
  (M.lift (idxV 1 t24_21 (V.int .i64 0))).bind fun t25_22 =>
  (load1 t25_22).bind fun t26_23 =>
  (M.ret t26_23).bind fun t9_24 =>
  (M.ret t8_14).bind fun t27_25 =>
  (M.lift (lenV t27_25)).bind fun t28_26 =>
  (M.ret (V.int .i64 0)).bind fun t29_27 =>
  (loopV (ferry_ready_Best_l1 G call t28_26 t27_25 t3_1) [t9_24, t29_27]).bind fun r0_56 => match r0_56.1 with
  | .normal => M.fail
  | .exit k0_57 =>
    (if k0_57 = 0 then
    (M.ret (r0_56.2.getD 0 V.undef)).bind fun t48_58 =>
    (M.ret t48_58).bind fun t6_59 =>
    (M.ret V.nili).bind fun t7_60 =>
    M.ret (Ex.ret, [V.tuple [t6_59, t7_60]])
    else M.fail)
  | .ret =>
    M.ret (Ex.ret, [V.tuple [t6_2, t7_3]])))))

theorem ferry_ready_Best_eq (G : Nat → Option (List V)) (n : Nat) (x0 : V) (x1 : V) (x2 : V) : sem (cfg G) (n + 1) 49 [x0, x1, x2] = outV (ferry_ready_Best G (sem (cfg G) n) x0 x1 x2) :=
  (fnV_at (C := cfg G) (n := n) (f := 49) (fn := Tryd.f49) (c := Tryd.f49.body.getD .skip) (by kernel_rfl) (by kernel_rfl) (by kernel_rfl) [x0, x1, x2]).trans (by kernel_rfl)

noncomputable def ferry_ferryref09_Equal_l1 (G : Nat → Option (List V)) (call : FuncId → List V → M V) (t2_1 : V) (t3_2 : V) (s0_30 : List V) : M R :=
  (M.ret (s0_30.getD 1 V.undef)).bind fun t31_31 =>
  (M.lift (padd 0 t2_1)).bind fun t32_32 =>
  (load1 t32_32).bind fun t33_33 =>
  (M.lift (lenV t33_33)).bind fun t34_34 =>
  (M.lift (arithV .lss t31_31 t34_34)).bind fun t35_35 =>
  (condV t35_35
   (((M.lift (padd 0 t2_1)).bind fun y0_36 =>
  (load1 y0_36).bind fun y1_37 =>
  (M.ret (s0_30.getD 1 V.undef)).bind fun y2_38 =>
  (M.lift (idxV 21 y1_37 y2_38)).bind fun y3_39 =>
  (loadN 21 y3_39).bind fun y4_40 =>
  (M.lift (padd 0 t3_2)).bind fun y5_41 =>
  (load1 y5_41).bind fun y6_42 =>
  (M.ret (s0_30.getD 1 V.undef)).bind fun y7_43 =>
  (M.lift (idxV 21 y6_42 y7_43)).bind fun y8_44 =>
  (loadN 21 y8_44).bind fun y9_45 =>
  (M.lift ((eqV (.agg [.int, .int, .int, .int, .int, .int, .int, .int, .int, .int, .int, .int, .int, .int, .int, .int, .int, .int, .int, .int, .int]) false y4_40 y9_45).bind fun b => some (.bool !b))).bind fun y10_46 =>
  (condV y10_46
   ((M.ret (V.bool false)).bind fun t4_47 =>
  M.ret (Ex.ret, [t4_47, (s0_30.getD 1 V.undef)]))
   ((M.ret (s0_30.getD 1 V.undef)).bind fun t36_48 =>
  (M.lift (arithV .add t36_48 (V.int .i64 1))).bind fun t37_49 =>
  (M.ret t37_49).bind fun t5_50 =>
  M.ret (Ex.normal, [(s0_30.getD 0 V.undef), t5_50])))))
   (M.ret ((Ex.exit 0), [(s0_30.getD 0 V.undef), (s0_30.getD 1 V.undef)])))

noncomputable def ferry_ferryref09_Equal_l2 (G : Nat → Option (List V)) (call : FuncId → List V → M V) (t2_1 : V) (t3_2 : V) (s0_54 : List V) : M R :=
  (M.ret (s0_54.getD 1 V.undef)).bind fun t49_55 =>
  (M.lift (padd 2 t2_1)).bind fun t50_56 =>
  (load1 t50_56).bind fun t51_57 =>
  (M.lift (lenV t51_57)).bind fun t52_58 =>
  (M.lift (arithV .lss t49_55 t52_58)).bind fun t53_59 =>
  (condV t53_59
   (((M.lift (padd 2 t2_1)).bind fun y0_60 =>
  (load1 y0_60).bind fun y1_61 =>
  (M.ret (s0_54.getD 1 V.undef)).bind fun y2_62 =>
  (M.lift (idxV 2 y1_61 y2_62)).bind fun y3_63 =>
  (loadN 2 y3_63).bind fun y4_64 =>
  (M.lift (padd 2 t3_2)).bind fun y5_65 =>
  (load1 y5_65).bind fun y6_66 =>
  (M.ret (s0_54.getD 1 V.undef)).bind fun y7_67 =>
  (M.lift (idxV 2 y6_66 y7_67)).bind fun y8_68 =>
  (loadN 2 y8_68).bind fun y9_69 =>
  (M.lift ((eqV (.agg [.int, .int]) false y4_64 y9_69).bind fun b => some (.bool !b))).bind fun y10_70 =>
  (condV y10_70
   ((M.ret (V.bool false)).bind fun t4_71 =>
  M.ret (Ex.ret, [t4_71, (s0_54.getD 1 V.undef)]))
   ((M.ret (s0_54.getD 1 V.undef)).bind fun t54_72 =>
  (M.lift (arithV .add t54_72 (V.int .i64 1))).bind fun t55_73 =>
  (M.ret t55_73).bind fun t6_74 =>
  M.ret (Ex.normal, [(s0_54.getD 0 V.undef), t6_74])))))
   (M.ret ((Ex.exit 2), [(s0_54.getD 0 V.undef), (s0_54.getD 1 V.undef)])))

noncomputable def ferry_ferryref09_Equal (G : Nat → Option (List V)) (call : FuncId → List V → M V) (x0 : V) (x1 : V) : M R :=
  (newV x0).bind fun t2_1 =>
  (newV x1).bind fun t3_2 =>
  (M.ret (V.bool false)).bind fun t4_3 =>
  (M.lift (padd 0 t2_1)).bind fun t7_4 =>
  (load1 t7_4).bind fun t8_5 =>
  (M.lift (lenV t8_5)).bind fun t9_6 =>
  (M.lift (padd 0 t3_2)).bind fun t10_7 =>
  (load1 t10_7).bind fun t11_8 =>
  (M.lift (lenV t11_8)).bind fun t12_9 =>
  (M.lift ((eqV (.sc .int) false t9_6 t12_9).bind fun b => some (.bool !b))).bind fun t13_10 =>
  (M.ret t13_10).bind fun t14_11 =>
  (guardV t14_11 false (M.lift (padd 2 t2_1))).bind fun t15_12 =>
  (guardV t14_11 false (load1 t15_12)).bind fun t16_13 =>
  (guardV t14_11 false (M.lift (lenV t16_13))).bind fun t17_14 =>
  (guardV t14_11 false (M.lift (padd 2 t3_2))).bind fun t18_15 =>
  (guardV t14_11 false (load1 t18_15)).bind fun t19_16 =>
  (guardV t14_11 false (M.lift (lenV t19_16))).bind fun t20_17 =>
  (guardV t14_11 false (M.lift ((eqV (.sc .int) false t17_14 t20_17).bind fun b => some (.bool !b)))).bind fun t21_18 =>
  (M.lift (pickV t14_11 (V.bool true) t21_18)).bind fun t22_19 =>
  (M.ret t22_19).bind fun t23_20 =>
  (guardV t23_20 false (M.lift (padd 1 t2_1))).bind fun t24_21 =>
  (guardV t23_20 false (load1 t24_21)).bind fun t25_22 =>
  (guardV t23_20 false (M.lift (padd 1 t3_2))).bind fun t26_23 =>
  (guardV t23_20 false (load1 t26_23)).bind fun t27_24 =>
  (guardV t23_20 false (callV (cfg G) call 27 [t25_22, t27_24])).bind fun t28_25 =>
  (guardV t23_20 false (M.lift (unV .not t28_25))).bind fun t29_26 =>
  (M.lift (pickV t23_20 (V.bool true) t29_26)).bind fun t30_27 =>
  (condV t30_27
   ((M.ret (V.bool false)).bind fun t4_28 =>
  M.ret (Ex.ret, [t4_28]))
   ((M.ret (V.int .i64 0)).bind fun t5_29 =>
  (loopV (ferry_ferryref09_Equal_l1 G call t2_1 t3_2) [t4_3, t5_29]).bind fun r0_51 => match r0_51.1 with
  | .normal => M.fail
  | .exit k0_52 =>
    (if k0_52 = 0 then
    (M.ret (V.int .i64 0)).bind fun t6_53 =>
    (loopV (ferry_ferryref09_Equal_l2 G call t2_1 t3_2) [(r0_51.2.getD 0 V.undef), t6_53]).bind fun r0_75 => match r0_75.1 with
    | .normal => M.fail
    | .exit k0_76 =>
      (if k0_76 = 2 then
      (M.ret (V.bool true)).bind fun t4_77 =>
      M.ret (Ex.ret, [t4_77])
      else M.fail)
    | .ret =>
      M.ret (Ex.ret, [(r0_75.2.getD 0 V.undef)])
    else M.fail)
  | .ret =>
    M.ret (Ex.ret, [(r0_51.2.getD 0 V.undef)])))

theorem ferry_ferryref09_Equal_eq (G : Nat → Option (List V)) (n : Nat) (x0 : V) (x1 : V) : sem (cfg G) (n + 1) 25 [x0, x1] = outV (ferry_ferryref09_Equal G (sem (cfg G) n) x0 x1) :=
  (fnV_at (C := cfg G) (n := n) (f := 25) (fn := Tryd.f25) (c := Tryd.f25.body.getD .skip) (by kernel_rfl) (by kernel_rfl) (by kernel_rfl) [x0, x1]).trans (by kernel_rfl)

end Go.Fv.Tr

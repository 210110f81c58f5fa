/-
  The Go functions ferry/timer.without, ferry/timer.Set, ferry/timer.Fire, ferry/timer.Sort, ferry/timer.Drop, ferry/ferrylaw08.known, ferry/ferrylaw08.formed, ferry/ferrylaw08.copied, ferry/ferrylaw08.ints, ferry/ferryref08.Same, ferry/ferrylaw08.TimerSteps, ferry/ferrylaw08.TimerOne as plain terms. By an AI agent; no person has read it.
-/
import Derived.Test.YtjjiphigolegbaaDoorFvCf
set_option linter.unusedVariables false
set_option linter.unusedSimpArgs false
set_option linter.unusedSectionVars false
/-! The Go functions ferry/timer.without, ferry/timer.Set, ferry/timer.Fire, ferry/timer.Sort, ferry/timer.Drop, ferry/ferrylaw08.known, ferry/ferrylaw08.formed, ferry/ferrylaw08.copied, ferry/ferrylaw08.ints, ferry/ferryref08.Same, ferry/ferrylaw08.TimerSteps, ferry/ferrylaw08.TimerOne as plain terms. -/
namespace Go.Fv.Tr
open Go Go.Fv Go.Proofs
set_option linter.unusedVariables false

noncomputable def ferry_timer_without (G : Nat → Option (List V)) (call : FuncId → List V → M V) (x0 : V) (x1 : V) : M R :=
  (newV x1).bind fun t3_1 =>
  (M.ret V.nils).bind fun t4_2 =>
  (M.ret x0).bind fun t5_3 =>
  (callV (cfg G) call 74 [t5_3]).bind fun t6_4 =>
  (M.ret (V.fn 117 [t3_1])).bind fun t7_5 =>
  (callV (cfg G) call 112 [t6_4, t7_5]).bind fun t8_6 =>
  (M.ret t8_6).bind fun t4_7 =>
  M.ret (Ex.ret, [t4_7])

theorem ferry_timer_without_eq (G : Nat → Option (List V)) (n : Nat) (x0 : V) (x1 : V) : sem (cfg G) (n + 1) 97 [x0, x1] = outV (ferry_timer_without G (sem (cfg G) n) x0 x1) :=
  (fnV_at (C := cfg G) (n := n) (f := 97) (fn := Tryd.f97) (c := Tryd.f97.body.getD .skip) (by kernel_rfl) (by kernel_rfl) (by kernel_rfl) [x0, x1]).trans (by kernel_rfl)

noncomputable def ferry_timer_Set (G : Nat → Option (List V)) (call : FuncId → List V → M V) (x0 : V) (x1 : V) (x2 : V) : M R :=
  (M.ret V.nils).bind fun t6_1 =>
  (M.ret V.nili).bind fun t7_2 =>
  (M.ret x0).bind fun t10_3 =>
  (callV (cfg G) call 95 [t10_3, (V.int .i64 8)]).bind fun t11_4 =>
  (M.lift (unV .not t11_4)).bind fun t12_5 =>
  (condV t12_5
   (((load1 (glob (cfg G) 0)).bind fun y0_6 =>
  (M.ret V.nils).bind fun y1_7 =>
  (M.ret y0_6).bind fun y2_8 =>
  M.ret (Ex.ret, [V.tuple [y1_7, y2_8]])))
   ((M.ret x1).bind fun t14_9 =>
  (M.ret x2).bind fun t15_10 =>
  (M.lift (buildV [(V.int .i64 0), (V.int .i64 0)] [(0, 1, t14_9), (1, 1, t15_10)])).bind fun t16_11 =>
  (newV (.agg [(V.int .i64 0), (V.int .i64 0)])).bind fun t8_12 =>
  (storeN 2 t8_12 t16_11).bind fun _ =>
  (loadN 2 t8_12).bind fun t17_13 =>
  (callV (cfg G) call 96 [t17_13, (V.int .i64 8)]).bind fun t18_14 =>
  (M.lift (unV .not t18_14)).bind fun t19_15 =>
  (condV t19_15
   (((load1 (glob (cfg G) 2)).bind fun y0_16 =>
  (M.ret V.nils).bind fun y1_17 =>
  (M.ret y0_16).bind fun y2_18 =>
  M.ret (Ex.ret, [V.tuple [y1_17, y2_18]])))
   ((getN.bind fun n_19 =>
  (M.ret x0).bind fun y0_20 =>
  getN.bind fun n_21 =>
  (M.ret x1).bind fun y1_22 =>
  getN.bind fun n_23 =>
  (qrun (visB n_19 [(n_21, n_23, true), (n_19, n_21, true)]) (callV (cfg G) call 97 [y0_20, y1_22])).bind fun y2_24 =>
  getN.bind fun n_25 =>
  (loadN 2 t8_12).bind fun y3_26 =>
  getN.bind fun n_27 =>
  (sliceV 2 1 [(V.int .i64 0), (V.int .i64 0)] [(0, y3_26)]).bind fun y4_28 =>
  getN.bind fun n_29 =>
  (trun (visB n_19 [(n_27, n_29, true), (n_25, n_27, true), (n_23, n_25, true), (n_21, n_23, true), (n_19, n_21, true)]) (appV 2 16 y2_24 y4_28)).bind fun y5_30 =>
  (M.ret y5_30).bind fun y6_31 =>
  (M.ret y6_31).bind fun t27_32 =>
  (callV (cfg G) call 98 [t27_32, (V.fn 99 [])]).bind fun t28_33 =>
  (M.ret y6_31).bind fun t29_34 =>
  (M.ret t29_34).bind fun t6_35 =>
  (M.ret V.nili).bind fun t7_36 =>
  M.ret (Ex.ret, [V.tuple [t6_35, t7_36]]))))))

theorem ferry_timer_Set_eq (G : Nat → Option (List V)) (n : Nat) (x0 : V) (x1 : V) (x2 : V) : sem (cfg G) (n + 1) 58 [x0, x1, x2] = outV (ferry_timer_Set G (sem (cfg G) n) x0 x1 x2) :=
  (fnV_at (C := cfg G) (n := n) (f := 58) (fn := Tryd.f58) (c := Tryd.f58.body.getD .skip) (by kernel_rfl) (by kernel_rfl) (by kernel_rfl) [x0, x1, x2]).trans (by kernel_rfl)

noncomputable def ferry_timer_Fire_l1 (G : Nat → Option (List V)) (call : FuncId → List V → M V) (t16_14 : V) (t15_13 : V) (x1 : V) (s0_16 : List V) : M R :=
  (M.lift (arithV .lss (s0_16.getD 2 V.undef) t16_14)).bind fun t18_17 =>
  (condV t18_17
   ((M.lift (idxV 2 t15_13 (s0_16.getD 2 V.undef))).bind fun t19_18 =>
  (loadN 2 t19_18).bind fun t20_19 =>
  (newV (.agg [(V.int .i64 0), (V.int .i64 0)])).bind fun t10_20 =>
  (storeN 2 t10_20 t20_19).bind fun _ =>
  (M.lift (padd 1 t10_20)).bind fun t21_21 =>
  (load1 t21_21).bind fun t22_22 =>
  (M.ret x1).bind fun t23_23 =>
  (M.lift (arithV .leq t22_22 t23_23)).bind fun t24_24 =>
  (condV t24_24
   ((M.ret (s0_16.getD 0 V.undef)).bind fun t25_38 =>
  (M.lift (padd 0 t10_20)).bind fun t26_39 =>
  (load1 t26_39).bind fun t27_40 =>
  (sliceV 1 1 [(V.int .i64 0)] [(0, t27_40)]).bind fun t28_41 =>
  (appV 1 8 t25_38 t28_41).bind fun t29_42 =>
  (M.ret t29_42).bind fun t7_43 =>
  (M.lift (arithV .add (s0_16.getD 2 V.undef) (V.int .i64 1))).bind fun t34_44 =>
  (M.ret t34_44).bind fun t17_45 =>
  M.ret (Ex.normal, [t7_43, (s0_16.getD 1 V.undef), t17_45]))
   ((M.ret (s0_16.getD 1 V.undef)).bind fun t30_46 =>
  (loadN 2 t10_20).bind fun t31_47 =>
  (sliceV 2 1 [(V.int .i64 0), (V.int .i64 0)] [(0, t31_47)]).bind fun t32_48 =>
  (appV 2 16 t30_46 t32_48).bind fun t33_49 =>
  (M.ret t33_49).bind fun t8_50 =>
  (M.lift (arithV .add (s0_16.getD 2 V.undef) (V.int .i64 1))).bind fun t34_51 =>
  (M.ret t34_51).bind fun t17_52 =>
  M.ret (Ex.normal, [(s0_16.getD 0 V.undef), t8_50, t17_52]))))
   (M.ret ((Ex.exit 0), [(s0_16.getD 0 V.undef), (s0_16.getD 1 V.undef), (s0_16.getD 2 V.undef)])))

noncomputable def ferry_timer_Fire (G : Nat → Option (List V)) (call : FuncId → List V → M V) (x0 : V) (x1 : V) : M R :=
  (M.ret V.nils).bind fun t4_1 =>
  (M.ret V.nils).bind fun t5_2 =>
  (M.ret V.nili).bind fun t6_3 =>
  (M.ret x0).bind fun t11_4 =>
  (callV (cfg G) call 95 [t11_4, (V.int .i64 8)]).bind fun t12_5 =>
  (M.lift (unV .not t12_5)).bind fun t13_6 =>
  (condV t13_6
   (((load1 (glob (cfg G) 0)).bind fun y0_7 =>
  (M.ret V.nils).bind fun y1_8 =>
  (M.ret V.nils).bind fun y2_9 =>
  (M.ret y0_7).bind fun y3_10 =>
  M.ret (Ex.ret, [V.tuple [y1_8, y2_9, y3_10]])))
   ((M.ret V.nils).bind fun t7_11 =>
  (M.ret V.nils).bind fun t8_12 =>
  (M.ret x0).bind fun t15_13 =>
  (M.lift (lenV t15_13)).bind fun t16_14 =>
  (M.ret (V.int .i64 0)).bind fun t17_15 =>
  (loopV (ferry_timer_Fire_l1 G call t16_14 t15_13 x1) [t7_11, t8_12, t17_15]).bind fun r0_53 => match r0_53.1 with
  | .normal => M.fail
  | .exit k0_54 =>
    (if k0_54 = 0 then
    (M.ret (r0_53.2.getD 0 V.undef)).bind fun t35_55 =>
    (M.ret (r0_53.2.getD 1 V.undef)).bind fun t36_56 =>
    (M.ret t35_55).bind fun t4_57 =>
    (M.ret t36_56).bind fun t5_58 =>
    (M.ret V.nili).bind fun t6_59 =>
    M.ret (Ex.ret, [V.tuple [t4_57, t5_58, t6_59]])
    else M.fail)
  | .ret =>
    M.ret (Ex.ret, [V.tuple [t4_1, t5_2, t6_3]])))

theorem ferry_timer_Fire_eq (G : Nat → Option (List V)) (n : Nat) (x0 : V) (x1 : V) : sem (cfg G) (n + 1) 54 [x0, x1] = outV (ferry_timer_Fire G (sem (cfg G) n) x0 x1) :=
  (fnV_at (C := cfg G) (n := n) (f := 54) (fn := Tryd.f54) (c := Tryd.f54.body.getD .skip) (by kernel_rfl) (by kernel_rfl) (by kernel_rfl) [x0, x1]).trans (by kernel_rfl)

noncomputable def ferry_timer_Sort_l1 (G : Nat → Option (List V)) (call : FuncId → List V → M V) (t10_6 : V) (t9_5 : V) (t4_3 : V) (s0_8 : List V) : M R :=
  (M.lift (arithV .lss (s0_8.getD 3 V.undef) t10_6)).bind fun t12_9 =>
  (condV t12_9
   ((M.lift (idxV 2 t9_5 (s0_8.getD 3 V.undef))).bind fun t13_10 =>
  (loadN 2 t13_10).bind fun t14_11 =>
  (newV (.agg [(V.int .i64 0), (V.int .i64 0)])).bind fun t7_12 =>
  (storeN 2 t7_12 t14_11).bind fun _ =>
  (loadN 2 t7_12).bind fun t15_13 =>
  (callV (cfg G) call 96 [t15_13, (V.int .i64 8)]).bind fun t16_14 =>
  (M.lift (unV .not t16_14)).bind fun t17_15 =>
  (condV t17_15
   (((load1 (glob (cfg G) 6)).bind fun y0_16 =>
  (M.ret V.nils).bind fun y1_17 =>
  (M.ret y0_16).bind fun y2_18 =>
  M.ret (Ex.ret, [y1_17, y2_18, (s0_8.getD 2 V.undef), (s0_8.getD 3 V.undef)])))
   ((M.ret (s0_8.getD 2 V.undef)).bind fun t19_19 =>
  (M.ret t19_19).bind fun t20_20 =>
  (guardV t20_20 false (M.lift (padd 0 t7_12))).bind fun t21_21 =>
  (guardV t20_20 false (load1 t21_21)).bind fun t22_22 =>
  (guardV t20_20 false (M.lift (aidxV 8 1 t4_3 t22_22))).bind fun t23_23 =>
  (guardV t20_20 false (load1 t23_23)).bind fun t24_24 =>
  (M.lift (pickV t20_20 (V.bool true) t24_24)).bind fun t25_25 =>
  (M.ret t25_25).bind fun t5_26 =>
  (M.lift (padd 0 t7_12)).bind fun t26_27 =>
  (load1 t26_27).bind fun t27_28 =>
  (M.lift (aidxV 8 1 t4_3 t27_28)).bind fun t28_29 =>
  (storeN 1 t28_29 (V.bool true)).bind fun _ =>
  (M.lift (arithV .add (s0_8.getD 3 V.undef) (V.int .i64 1))).bind fun t29_30 =>
  (M.ret t29_30).bind fun t11_31 =>
  M.ret (Ex.normal, [(s0_8.getD 0 V.undef), (s0_8.getD 1 V.undef), t5_26, t11_31]))))
   (M.ret ((Ex.exit 0), [(s0_8.getD 0 V.undef), (s0_8.getD 1 V.undef), (s0_8.getD 2 V.undef), (s0_8.getD 3 V.undef)])))

noncomputable def ferry_timer_Sort (G : Nat → Option (List V)) (call : FuncId → List V → M V) (x0 : V) : M R :=
  (M.ret V.nils).bind fun t2_1 =>
  (M.ret V.nili).bind fun t3_2 =>
  (newV (.agg [(V.bool false), (V.bool false), (V.bool false), (V.bool false), (V.bool false), (V.bool false), (V.bool false), (V.bool false)])).bind fun t4_3 =>
  (M.ret (V.bool false)).bind fun t5_4 =>
  (M.ret x0).bind fun t9_5 =>
  (M.lift (lenV t9_5)).bind fun t10_6 =>
  (M.ret (V.int .i64 0)).bind fun t11_7 =>
  (loopV (ferry_timer_Sort_l1 G call t10_6 t9_5 t4_3) [t2_1, t3_2, t5_4, t11_7]).bind fun r0_32 => match r0_32.1 with
  | .normal => M.fail
  | .exit k0_33 =>
    (if k0_33 = 0 then
    (M.ret (r0_32.2.getD 2 V.undef)).bind fun t30_34 =>
    (condV t30_34
     (((load1 (glob (cfg G) 2)).bind fun y0_35 =>
    (M.ret V.nils).bind fun y1_36 =>
    (M.ret y0_35).bind fun y2_37 =>
    M.ret (Ex.ret, [V.tuple [y1_36, y2_37]])))
     ((M.ret x0).bind fun t32_38 =>
    (callV (cfg G) call 74 [t32_38]).bind fun t33_39 =>
    (M.ret t33_39).bind fun t8_40 =>
    (M.ret t8_40).bind fun t34_41 =>
    (callV (cfg G) call 98 [t34_41, (V.fn 99 [])]).bind fun t35_42 =>
    (M.ret t8_40).bind fun t36_43 =>
    (M.ret t36_43).bind fun t2_44 =>
    (M.ret V.nili).bind fun t3_45 =>
    M.ret (Ex.ret, [V.tuple [t2_44, t3_45]])))
    else M.fail)
  | .ret =>
    M.ret (Ex.ret, [V.tuple [(r0_32.2.getD 0 V.undef), (r0_32.2.getD 1 V.undef)]])

theorem ferry_timer_Sort_eq (G : Nat → Option (List V)) (n : Nat) (x0 : V) : sem (cfg G) (n + 1) 94 [x0] = outV (ferry_timer_Sort G (sem (cfg G) n) x0) :=
  (fnV_at (C := cfg G) (n := n) (f := 94) (fn := Tryd.f94) (c := Tryd.f94.body.getD .skip) (by kernel_rfl) (by kernel_rfl) (by kernel_rfl) [x0]).trans (by kernel_rfl)

noncomputable def ferry_timer_Drop (G : Nat → Option (List V)) (call : FuncId → List V → M V) (x0 : V) (x1 : V) : M R :=
  (M.ret V.nils).bind fun t4_1 =>
  (M.ret (V.bool false)).bind fun t5_2 =>
  (M.ret V.nili).bind fun t6_3 =>
  (M.ret x0).bind fun t8_4 =>
  (callV (cfg G) call 95 [t8_4, (V.int .i64 8)]).bind fun t9_5 =>
  (M.lift (unV .not t9_5)).bind fun t10_6 =>
  (condV t10_6
   (((load1 (glob (cfg G) 0)).bind fun y0_7 =>
  (M.ret V.nils).bind fun y1_8 =>
  (M.ret (V.bool false)).bind fun y2_9 =>
  (M.ret y0_7).bind fun y3_10 =>
  M.ret (Ex.ret, [V.tuple [y1_8, y2_9, y3_10]])))
   ((M.ret x0).bind fun t12_11 =>
  (M.ret x1).bind fun t13_12 =>
  (callV (cfg G) call 97 [t12_11, t13_12]).bind fun t14_13 =>
  (M.ret t14_13).bind fun t7_14 =>
  (M.ret t7_14).bind fun t15_15 =>
  (M.ret t7_14).bind fun t16_16 =>
  (M.lift (lenV t16_16)).bind fun t17_17 =>
  (M.ret x0).bind fun t18_18 =>
  (M.lift (lenV t18_18)).bind fun t19_19 =>
  (M.lift (arithV .lss t17_17 t19_19)).bind fun t20_20 =>
  (M.ret t15_15).bind fun t4_21 =>
  (M.ret t20_20).bind fun t5_22 =>
  (M.ret V.nili).bind fun t6_23 =>
  M.ret (Ex.ret, [V.tuple [t4_21, t5_22, t6_23]])))

theorem ferry_timer_Drop_eq (G : Nat → Option (List V)) (n : Nat) (x0 : V) (x1 : V) : sem (cfg G) (n + 1) 59 [x0, x1] = outV (ferry_timer_Drop G (sem (cfg G) n) x0 x1) :=
  (fnV_at (C := cfg G) (n := n) (f := 59) (fn := Tryd.f59) (c := Tryd.f59.body.getD .skip) (by kernel_rfl) (by kernel_rfl) (by kernel_rfl) [x0, x1]).trans (by kernel_rfl)

noncomputable def ferry_ferrylaw08_known (G : Nat → Option (List V)) (call : FuncId → List V → M V)  : M R :=
  (M.ret (V.bool false)).bind fun t0_1 =>
  (M.lift (buildV [(V.int .i64 0), (V.int .i64 0)] [(0, 1, (V.int .i64 0)), (1, 1, (V.int .i64 7))])).bind fun t7_2 =>
  (sliceV 2 1 [(V.int .i64 0), (V.int .i64 0)] [(0, t7_2)]).bind fun t8_3 =>
  (callV (cfg G) call 58 [t8_3, (V.int .i64 2), (V.int .i64 5)]).bind fun t9_4 =>
  (M.ret t9_4).bind fun t6_5 =>
  (M.lift (extractV t6_5 0)).bind fun t10_6 =>
  (M.lift (extractV t6_5 1)).bind fun t11_7 =>
  (M.ret t10_6).bind fun t1_8 =>
  (M.ret t11_7).bind fun t2_9 =>
  (M.ret t1_8).bind fun t13_10 =>
  (callV (cfg G) call 54 [t13_10, (V.int .i64 6)]).bind fun t14_11 =>
  (M.ret t14_11).bind fun t12_12 =>
  (M.lift (extractV t12_12 0)).bind fun t15_13 =>
  (M.lift (extractV t12_12 1)).bind fun t16_14 =>
  (M.lift (extractV t12_12 2)).bind fun t17_15 =>
  (M.ret t15_13).bind fun t3_16 =>
  (M.ret t16_14).bind fun t4_17 =>
  (M.ret t17_15).bind fun t5_18 =>
  (M.ret t2_9).bind fun t18_19 =>
  (M.lift ((eqV .iface true t18_19 V.nili).bind fun b => some (.bool b))).bind fun t19_20 =>
  (M.ret t19_20).bind fun t20_21 =>
  (guardV t20_21 true (M.ret t5_18)).bind fun t21_22 =>
  (guardV t20_21 true (M.lift ((eqV .iface true t21_22 V.nili).bind fun b => some (.bool b)))).bind fun t22_23 =>
  (M.lift (pickV t20_21 t22_23 (V.bool false))).bind fun t23_24 =>
  (M.ret t23_24).bind fun t24_25 =>
  (guardV t24_25 true (M.ret t1_8)).bind fun t25_26 =>
  (guardV t24_25 true (M.lift (lenV t25_26))).bind fun t26_27 =>
  (guardV t24_25 true (M.lift ((eqV (.sc .int) true t26_27 (V.int .i64 2)).bind fun b => some (.bool b)))).bind fun t27_28 =>
  (M.lift (pickV t24_25 t27_28 (V.bool false))).bind fun t28_29 =>
  (M.ret t28_29).bind fun t29_30 =>
  (guardV t29_30 true (M.ret t3_16)).bind fun t30_31 =>
  (guardV t29_30 true (M.lift (lenV t30_31))).bind fun t31_32 =>
  (guardV t29_30 true (M.lift ((eqV (.sc .int) true t31_32 (V.int .i64 1)).bind fun b => some (.bool b)))).bind fun t32_33 =>
  (M.lift (pickV t29_30 t32_33 (V.bool false))).bind fun t33_34 =>
  (M.ret t33_34).bind fun t34_35 =>
  (guardV t34_35 true (M.ret t3_16)).bind fun t35_36 =>
  (guardV t34_35 true (M.lift (idxV 1 t35_36 (V.int .i64 0)))).bind fun t36_37 =>
  (guardV t34_35 true (load1 t36_37)).bind fun t37_38 =>
  (guardV t34_35 true (M.lift ((eqV (.sc .int) true t37_38 (V.int .i64 2)).bind fun b => some (.bool b)))).bind fun t38_39 =>
  (M.lift (pickV t34_35 t38_39 (V.bool false))).bind fun t39_40 =>
  (M.ret t39_40).bind fun t40_41 =>
  (guardV t40_41 true (M.ret t4_17)).bind fun t41_42 =>
  (guardV t40_41 true (M.lift (lenV t41_42))).bind fun t42_43 =>
  (guardV t40_41 true (M.lift ((eqV (.sc .int) true t42_43 (V.int .i64 1)).bind fun b => some (.bool b)))).bind fun t43_44 =>
  (M.lift (pickV t40_41 t43_44 (V.bool false))).bind fun t44_45 =>
  (M.ret t44_45).bind fun t45_46 =>
  (guardV t45_46 true (M.ret t4_17)).bind fun t46_47 =>
  (guardV t45_46 true (M.lift (idxV 2 t46_47 (V.int .i64 0)))).bind fun t47_48 =>
  (guardV t45_46 true (M.lift (padd 1 t47_48))).bind fun t48_49 =>
  (guardV t45_46 true (load1 t48_49)).bind fun t49_50 =>
  (guardV t45_46 true (M.lift ((eqV (.sc .int) true t49_50 (V.int .i64 7)).bind fun b => some (.bool b)))).bind fun t50_51 =>
  (M.lift (pickV t45_46 t50_51 (V.bool false))).bind fun t51_52 =>
  (M.ret t51_52).bind fun t0_53 =>
  M.ret (Ex.ret, [t0_53])

theorem ferry_ferrylaw08_known_eq (G : Nat → Option (List V)) (n : Nat)  : sem (cfg G) (n + 1) 53 [] = outV (ferry_ferrylaw08_known G (sem (cfg G) n) ) :=
  (fnV_at (C := cfg G) (n := n) (f := 53) (fn := Tryd.f53) (c := Tryd.f53.body.getD .skip) (by kernel_rfl) (by kernel_rfl) (by kernel_rfl) []).trans (by kernel_rfl)

noncomputable def ferry_ferrylaw08_formed_j1 (G : Nat → Option (List V)) (call : FuncId → List V → M V) (s0_7 : List V) (j4_42 : V) : M R :=
  (M.ret (s0_7.getD 1 V.undef)).bind fun t16_43 =>
  (M.lift (arithV .add t16_43 (V.int .i64 1))).bind fun t17_44 =>
  (M.ret t17_44).bind fun t6_45 =>
  M.ret (Ex.normal, [j4_42, t6_45])

noncomputable def ferry_ferrylaw08_formed_l1 (G : Nat → Option (List V)) (call : FuncId → List V → M V) (x0 : V) (t5_5 : V) (s0_7 : List V) : M R :=
  (M.ret (s0_7.getD 1 V.undef)).bind fun t12_8 =>
  (M.ret x0).bind fun t13_9 =>
  (M.lift (lenV t13_9)).bind fun t14_10 =>
  (M.lift (arithV .lss t12_8 t14_10)).bind fun t15_11 =>
  (condV t15_11
   ((M.ret x0).bind fun t18_12 =>
  (M.ret (s0_7.getD 1 V.undef)).bind fun t19_13 =>
  (M.lift (idxV 2 t18_12 t19_13)).bind fun t20_14 =>
  (M.lift (padd 0 t20_14)).bind fun t21_15 =>
  (load1 t21_15).bind fun t22_16 =>
  (M.lift (convI .u64 t22_16)).bind fun t23_17 =>
  (M.lift (arithV .rem t23_17 (V.int .u64 8))).bind fun t24_18 =>
  (M.lift (convI .i64 t24_18)).bind fun t25_19 =>
  (M.ret t25_19).bind fun t7_20 =>
  (M.ret x0).bind fun t26_21 =>
  (M.ret (s0_7.getD 1 V.undef)).bind fun t27_22 =>
  (M.lift (idxV 2 t26_21 t27_22)).bind fun t28_23 =>
  (M.lift (padd 1 t28_23)).bind fun t29_24 =>
  (load1 t29_24).bind fun t30_25 =>
  (M.lift (convI .u64 t30_25)).bind fun t31_26 =>
  (M.lift (arithV .rem t31_26 (V.int .u64 1010001))).bind fun t32_27 =>
  (M.lift (convI .i64 t32_27)).bind fun t33_28 =>
  (M.ret t33_28).bind fun t8_29 =>
  (M.ret t7_20).bind fun t34_30 =>
  (M.lift (aidxV 8 1 t5_5 t34_30)).bind fun t35_31 =>
  (load1 t35_31).bind fun t36_32 =>
  (M.lift (unV .not t36_32)).bind fun t37_33 =>
  (condV t37_33
   ((M.ret t7_20).bind fun t38_46 =>
  (M.lift (aidxV 8 1 t5_5 t38_46)).bind fun t39_47 =>
  (storeN 1 t39_47 (V.bool true)).bind fun _ =>
  (M.ret (s0_7.getD 0 V.undef)).bind fun t40_48 =>
  (M.ret t7_20).bind fun t41_49 =>
  (M.ret t8_29).bind fun t42_50 =>
  (M.lift (buildV [(V.int .i64 0), (V.int .i64 0)] [(0, 1, t41_49), (1, 1, t42_50)])).bind fun t43_51 =>
  (sliceV 2 1 [(V.int .i64 0), (V.int .i64 0)] [(0, t43_51)]).bind fun t44_52 =>
  (appV 2 16 t40_48 t44_52).bind fun t45_53 =>
  (M.ret t45_53).bind fun t4_54 =>
  ferry_ferrylaw08_formed_j1 G call s0_7 t4_54)
   (ferry_ferrylaw08_formed_j1 G call s0_7 (s0_7.getD 0 V.undef))))
   (M.ret ((Ex.exit 0), [(s0_7.getD 0 V.undef), (s0_7.getD 1 V.undef)])))

noncomputable def ferry_ferrylaw08_formed (G : Nat → Option (List V)) (call : FuncId → List V → M V) (x0 : V) : M R :=
  (M.ret V.nils).bind fun t2_1 =>
  (M.ret (V.bool false)).bind fun t3_2 =>
  (M.ret V.nils).bind fun t4_3 =>
  (M.lift (buildV [(V.bool false), (V.bool false), (V.bool false), (V.bool false), (V.bool false), (V.bool false), (V.bool false), (V.bool false)] [])).bind fun t11_4 =>
  (newV (.agg [(V.bool false), (V.bool false), (V.bool false), (V.bool false), (V.bool false), (V.bool false), (V.bool false), (V.bool false)])).bind fun t5_5 =>
  (storeN 8 t5_5 t11_4).bind fun _ =>
  (M.ret (V.int .i64 0)).bind fun t6_6 =>
  (loopV (ferry_ferrylaw08_formed_l1 G call x0 t5_5) [t4_3, t6_6]).bind fun r0_55 => match r0_55.1 with
  | .normal => M.fail
  | .exit k0_56 =>
    (if k0_56 = 0 then
    (M.ret (r0_55.2.getD 0 V.undef)).bind fun t47_57 =>
    (callV (cfg G) call 94 [t47_57]).bind fun t48_58 =>
    (M.ret t48_58).bind fun t46_59 =>
    (M.lift (extractV t46_59 0)).bind fun t49_60 =>
    (M.lift (extractV t46_59 1)).bind fun t50_61 =>
    (M.ret t49_60).bind fun t9_62 =>
    (M.ret t50_61).bind fun t10_63 =>
    (M.ret t9_62).bind fun t51_64 =>
    (M.ret t10_63).bind fun t52_65 =>
    (M.lift ((eqV .iface true t52_65 V.nili).bind fun b => some (.bool b))).bind fun t53_66 =>
    (M.ret t53_66).bind fun t54_67 =>
    (guardV t54_67 true (M.ret t9_62)).bind fun t55_68 =>
    (guardV t54_67 true (callV (cfg G) call 60 [t55_68, (V.int .i64 8)])).bind fun t56_69 =>
    (guardV t54_67 true (M.lift ((eqV .iface true t56_69 V.nili).bind fun b => some (.bool b)))).bind fun t57_70 =>
    (M.lift (pickV t54_67 t57_70 (V.bool false))).bind fun t58_71 =>
    (M.ret t58_71).bind fun t59_72 =>
    (guardV t59_72 true (M.ret t9_62)).bind fun t60_73 =>
    (guardV t59_72 true (M.lift (lenV t60_73))).bind fun t61_74 =>
    (guardV t59_72 true (M.ret (r0_55.2.getD 0 V.undef))).bind fun t62_75 =>
    (guardV t59_72 true (M.lift (lenV t62_75))).bind fun t63_76 =>
    (guardV t59_72 true (M.lift ((eqV (.sc .int) false t61_74 t63_76).bind fun b => some (.bool b)))).bind fun t64_77 =>
    (M.lift (pickV t59_72 t64_77 (V.bool false))).bind fun t65_78 =>
    (M.ret t51_64).bind fun t2_79 =>
    (M.ret t65_78).bind fun t3_80 =>
    M.ret (Ex.ret, [V.tuple [t2_79, t3_80]])
    else M.fail)
  | .ret =>
    M.ret (Ex.ret, [V.tuple [t2_1, t3_2]])

theorem ferry_ferrylaw08_formed_eq (G : Nat → Option (List V)) (n : Nat) (x0 : V) : sem (cfg G) (n + 1) 52 [x0] = outV (ferry_ferrylaw08_formed G (sem (cfg G) n) x0) :=
  (fnV_at (C := cfg G) (n := n) (f := 52) (fn := Tryd.f52) (c := Tryd.f52.body.getD .skip) (by kernel_rfl) (by kernel_rfl) (by kernel_rfl) [x0]).trans (by kernel_rfl)

noncomputable def ferry_ferrylaw08_copied (G : Nat → Option (List V)) (call : FuncId → List V → M V) (x0 : V) : M R :=
  (M.ret V.nils).bind fun t2_1 =>
  (sliceV 2 0 [(V.int .i64 0), (V.int .i64 0)] []).bind fun t3_2 =>
  (M.ret x0).bind fun t4_3 =>
  (appV 2 16 t3_2 t4_3).bind fun t5_4 =>
  (M.ret t5_4).bind fun t2_5 =>
  M.ret (Ex.ret, [t2_5])

theorem ferry_ferrylaw08_copied_eq (G : Nat → Option (List V)) (n : Nat) (x0 : V) : sem (cfg G) (n + 1) 55 [x0] = outV (ferry_ferrylaw08_copied G (sem (cfg G) n) x0) :=
  (fnV_at (C := cfg G) (n := n) (f := 55) (fn := Tryd.f55) (c := Tryd.f55.body.getD .skip) (by kernel_rfl) (by kernel_rfl) (by kernel_rfl) [x0]).trans (by kernel_rfl)

noncomputable def ferry_ferrylaw08_ints_l1 (G : Nat → Option (List V)) (call : FuncId → List V → M V) (x0 : V) (x1 : V) (s0_9 : List V) : M R :=
  (M.ret (s0_9.getD 1 V.undef)).bind fun t11_10 =>
  (M.ret x0).bind fun t12_11 =>
  (M.lift (lenV t12_11)).bind fun t13_12 =>
  (M.lift (arithV .lss t11_10 t13_12)).bind fun t14_13 =>
  (condV t14_13
   (((M.ret x0).bind fun y0_14 =>
  (M.ret (s0_9.getD 1 V.undef)).bind fun y1_15 =>
  (M.lift (idxV 1 y0_14 y1_15)).bind fun y2_16 =>
  (load1 y2_16).bind fun y3_17 =>
  (M.ret x1).bind fun y4_18 =>
  (M.ret (s0_9.getD 1 V.undef)).bind fun y5_19 =>
  (M.lift (idxV 1 y4_18 y5_19)).bind fun y6_20 =>
  (load1 y6_20).bind fun y7_21 =>
  (M.lift ((eqV (.sc .int) false y3_17 y7_21).bind fun b => some (.bool !b))).bind fun y8_22 =>
  (condV y8_22
   ((M.ret (V.bool false)).bind fun t4_23 =>
  M.ret (Ex.ret, [t4_23, (s0_9.getD 1 V.undef)]))
   ((M.ret (s0_9.getD 1 V.undef)).bind fun t15_24 =>
  (M.lift (arithV .add t15_24 (V.int .i64 1))).bind fun t16_25 =>
  (M.ret t16_25).bind fun t5_26 =>
  M.ret (Ex.normal, [(s0_9.getD 0 V.undef), t5_26])))))
   (M.ret ((Ex.exit 0), [(s0_9.getD 0 V.undef), (s0_9.getD 1 V.undef)])))

noncomputable def ferry_ferrylaw08_ints (G : Nat → Option (List V)) (call : FuncId → List V → M V) (x0 : V) (x1 : V) : M R :=
  (M.ret (V.bool false)).bind fun t4_1 =>
  (M.ret x0).bind fun t6_2 =>
  (M.lift (lenV t6_2)).bind fun t7_3 =>
  (M.ret x1).bind fun t8_4 =>
  (M.lift (lenV t8_4)).bind fun t9_5 =>
  (M.lift ((eqV (.sc .int) false t7_3 t9_5).bind fun b => some (.bool !b))).bind fun t10_6 =>
  (condV t10_6
   ((M.ret (V.bool false)).bind fun t4_7 =>
  M.ret (Ex.ret, [t4_7]))
   ((M.ret (V.int .i64 0)).bind fun t5_8 =>
  (loopV (ferry_ferrylaw08_ints_l1 G call x0 x1) [t4_1, t5_8]).bind fun r0_27 => match r0_27.1 with
  | .normal => M.fail
  | .exit k0_28 =>
    (if k0_28 = 0 then
    (M.ret (V.bool true)).bind fun t4_29 =>
    M.ret (Ex.ret, [t4_29])
    else M.fail)
  | .ret =>
    M.ret (Ex.ret, [(r0_27.2.getD 0 V.undef)])))

theorem ferry_ferrylaw08_ints_eq (G : Nat → Option (List V)) (n : Nat) (x0 : V) (x1 : V) : sem (cfg G) (n + 1) 56 [x0, x1] = outV (ferry_ferrylaw08_ints G (sem (cfg G) n) x0 x1) :=
  (fnV_at (C := cfg G) (n := n) (f := 56) (fn := Tryd.f56) (c := Tryd.f56.body.getD .skip) (by kernel_rfl) (by kernel_rfl) (by kernel_rfl) [x0, x1]).trans (by kernel_rfl)

noncomputable def ferry_ferryref08_Same_l1 (G : Nat → Option (List V)) (call : FuncId → List V → M V) (x0 : V) (x1 : V) (s0_9 : List V) : M R :=
  (M.ret (s0_9.getD 1 V.undef)).bind fun t11_10 =>
  (M.ret x0).bind fun t12_11 =>
  (M.lift (lenV t12_11)).bind fun t13_12 =>
  (M.lift (arithV .lss t11_10 t13_12)).bind fun t14_13 =>
  (condV t14_13
   (((M.ret x0).bind fun y0_14 =>
  (M.ret (s0_9.getD 1 V.undef)).bind fun y1_15 =>
  (M.lift (idxV 2 y0_14 y1_15)).bind fun y2_16 =>
  (loadN 2 y2_16).bind fun y3_17 =>
  (M.ret x1).bind fun y4_18 =>
  (M.ret (s0_9.getD 1 V.undef)).bind fun y5_19 =>
  (M.lift (idxV 2 y4_18 y5_19)).bind fun y6_20 =>
  (loadN 2 y6_20).bind fun y7_21 =>
  (M.lift ((eqV (.agg [.int, .int]) false y3_17 y7_21).bind fun b => some (.bool !b))).bind fun y8_22 =>
  (condV y8_22
   ((M.ret (V.bool false)).bind fun t4_23 =>
  M.ret (Ex.ret, [t4_23, (s0_9.getD 1 V.undef)]))
   ((M.ret (s0_9.getD 1 V.undef)).bind fun t15_24 =>
  (M.lift (arithV .add t15_24 (V.int .i64 1))).bind fun t16_25 =>
  (M.ret t16_25).bind fun t5_26 =>
  M.ret (Ex.normal, [(s0_9.getD 0 V.undef), t5_26])))))
   (M.ret ((Ex.exit 0), [(s0_9.getD 0 V.undef), (s0_9.getD 1 V.undef)])))

noncomputable def ferry_ferryref08_Same (G : Nat → Option (List V)) (call : FuncId → List V → M V) (x0 : V) (x1 : V) : M R :=
  (M.ret (V.bool false)).bind fun t4_1 =>
  (M.ret x0).bind fun t6_2 =>
  (M.lift (lenV t6_2)).bind fun t7_3 =>
  (M.ret x1).bind fun t8_4 =>
  (M.lift (lenV t8_4)).bind fun t9_5 =>
  (M.lift ((eqV (.sc .int) false t7_3 t9_5).bind fun b => some (.bool !b))).bind fun t10_6 =>
  (condV t10_6
   ((M.ret (V.bool false)).bind fun t4_7 =>
  M.ret (Ex.ret, [t4_7]))
   ((M.ret (V.int .i64 0)).bind fun t5_8 =>
  (loopV (ferry_ferryref08_Same_l1 G call x0 x1) [t4_1, t5_8]).bind fun r0_27 => match r0_27.1 with
  | .normal => M.fail
  | .exit k0_28 =>
    (if k0_28 = 0 then
    (M.ret (V.bool true)).bind fun t4_29 =>
    M.ret (Ex.ret, [t4_29])
    else M.fail)
  | .ret =>
    M.ret (Ex.ret, [(r0_27.2.getD 0 V.undef)])))

theorem ferry_ferryref08_Same_eq (G : Nat → Option (List V)) (n : Nat) (x0 : V) (x1 : V) : sem (cfg G) (n + 1) 57 [x0, x1] = outV (ferry_ferryref08_Same G (sem (cfg G) n) x0 x1) :=
  (fnV_at (C := cfg G) (n := n) (f := 57) (fn := Tryd.f57) (c := Tryd.f57.body.getD .skip) (by kernel_rfl) (by kernel_rfl) (by kernel_rfl) [x0, x1]).trans (by kernel_rfl)

noncomputable def ferry_ferrylaw08_TimerSteps_j1 (G : Nat → Option (List V)) (call : FuncId → List V → M V) (t7_7 : V) (j1_21 : V) (j2_22 : V) : M R :=
  (M.ret t7_7).bind fun t35_23 =>
  (callV (cfg G) call 55 [t35_23]).bind fun t36_24 =>
  (M.ret j1_21).bind fun t37_25 =>
  (callV (cfg G) call 54 [t36_24, t37_25]).bind fun t38_26 =>
  (M.ret t38_26).bind fun t34_27 =>
  (M.lift (extractV t34_27 0)).bind fun t39_28 =>
  (M.lift (extractV t34_27 1)).bind fun t40_29 =>
  (M.lift (extractV t34_27 2)).bind fun t41_30 =>
  (M.ret t39_28).bind fun t9_31 =>
  (M.ret t40_29).bind fun t10_32 =>
  (M.ret t41_30).bind fun t11_33 =>
  (M.ret t10_32).bind fun t43_34 =>
  (M.ret j2_22).bind fun t44_35 =>
  (callV (cfg G) call 54 [t43_34, t44_35]).bind fun t45_36 =>
  (M.ret t45_36).bind fun t42_37 =>
  (M.lift (extractV t42_37 0)).bind fun t46_38 =>
  (M.lift (extractV t42_37 1)).bind fun t47_39 =>
  (M.lift (extractV t42_37 2)).bind fun t48_40 =>
  (M.ret t46_38).bind fun t12_41 =>
  (M.ret t47_39).bind fun t13_42 =>
  (M.ret t48_40).bind fun t14_43 =>
  (M.ret t7_7).bind fun t50_44 =>
  (callV (cfg G) call 55 [t50_44]).bind fun t51_45 =>
  (M.ret j2_22).bind fun t52_46 =>
  (callV (cfg G) call 54 [t51_45, t52_46]).bind fun t53_47 =>
  (M.ret t53_47).bind fun t49_48 =>
  (M.lift (extractV t49_48 0)).bind fun t54_49 =>
  (M.lift (extractV t49_48 1)).bind fun t55_50 =>
  (M.lift (extractV t49_48 2)).bind fun t56_51 =>
  (M.ret t54_49).bind fun t15_52 =>
  (M.ret t55_50).bind fun t16_53 =>
  (M.ret t56_51).bind fun t17_54 =>
  (M.ret t11_33).bind fun t57_55 =>
  (M.lift ((eqV .iface true t57_55 V.nili).bind fun b => some (.bool !b))).bind fun t58_56 =>
  (M.ret t58_56).bind fun t59_57 =>
  (guardV t59_57 false (M.ret t14_43)).bind fun t60_58 =>
  (guardV t59_57 false (M.lift ((eqV .iface true t60_58 V.nili).bind fun b => some (.bool !b)))).bind fun t61_59 =>
  (M.lift (pickV t59_57 (V.bool true) t61_59)).bind fun t62_60 =>
  (M.ret t62_60).bind fun t63_61 =>
  (guardV t63_61 false (M.ret t17_54)).bind fun t64_62 =>
  (guardV t63_61 false (M.lift ((eqV .iface true t64_62 V.nili).bind fun b => some (.bool !b)))).bind fun t65_63 =>
  (M.lift (pickV t63_61 (V.bool true) t65_63)).bind fun t66_64 =>
  (M.ret t66_64).bind fun t67_65 =>
  (guardV t67_65 false (sliceV 1 0 [(V.int .i64 0)] [])).bind fun t68_66 =>
  (guardV t67_65 false (M.ret t9_31)).bind fun t69_67 =>
  (guardV t67_65 false (appV 1 8 t68_66 t69_67)).bind fun t70_68 =>
  (guardV t67_65 false (M.ret t12_41)).bind fun t71_69 =>
  (guardV t67_65 false (appV 1 8 t70_68 t71_69)).bind fun t72_70 =>
  (guardV t67_65 false (M.ret t15_52)).bind fun t73_71 =>
  (guardV t67_65 false (callV (cfg G) call 56 [t72_70, t73_71])).bind fun t74_72 =>
  (guardV t67_65 false (M.lift (unV .not t74_72))).bind fun t75_73 =>
  (M.lift (pickV t67_65 (V.bool true) t75_73)).bind fun t76_74 =>
  (M.ret t76_74).bind fun t77_75 =>
  (guardV t77_75 false (M.ret t13_42)).bind fun t78_76 =>
  (guardV t77_75 false (M.ret t16_53)).bind fun t79_77 =>
  (guardV t77_75 false (callV (cfg G) call 57 [t78_76, t79_77])).bind fun t80_78 =>
  (guardV t77_75 false (M.lift (unV .not t80_78))).bind fun t81_79 =>
  (M.lift (pickV t77_75 (V.bool true) t81_79)).bind fun t82_80 =>
  (condV t82_80
   ((M.ret (V.bool false)).bind fun t6_81 =>
  M.ret (Ex.ret, [t6_81]))
   ((M.ret t15_52).bind fun t83_82 =>
  (M.lift (lenV t83_82)).bind fun t84_83 =>
  (M.ret t16_53).bind fun t85_84 =>
  (M.lift (lenV t85_84)).bind fun t86_85 =>
  (M.lift (arithV .add t84_83 t86_85)).bind fun t87_86 =>
  (M.ret t7_7).bind fun t88_87 =>
  (M.lift (lenV t88_87)).bind fun t89_88 =>
  (M.lift ((eqV (.sc .int) false t87_86 t89_88).bind fun b => some (.bool b))).bind fun t90_89 =>
  (M.ret t90_89).bind fun t6_90 =>
  M.ret (Ex.ret, [t6_90])))

noncomputable def ferry_ferrylaw08_TimerSteps (G : Nat → Option (List V)) (call : FuncId → List V → M V) (x0 : V) (x1 : V) (x2 : V) : M R :=
  (M.ret (V.bool false)).bind fun t6_1 =>
  (M.ret x0).bind fun t19_2 =>
  (callV (cfg G) call 52 [t19_2]).bind fun t20_3 =>
  (M.ret t20_3).bind fun t18_4 =>
  (M.lift (extractV t18_4 0)).bind fun t21_5 =>
  (M.lift (extractV t18_4 1)).bind fun t22_6 =>
  (M.ret t21_5).bind fun t7_7 =>
  (M.ret t22_6).bind fun t8_8 =>
  (callV (cfg G) call 53 []).bind fun t23_9 =>
  (M.lift (unV .not t23_9)).bind fun t24_10 =>
  (M.ret t24_10).bind fun t25_11 =>
  (guardV t25_11 false (M.ret t8_8)).bind fun t26_12 =>
  (guardV t25_11 false (M.lift (unV .not t26_12))).bind fun t27_13 =>
  (M.lift (pickV t25_11 (V.bool true) t27_13)).bind fun t28_14 =>
  (condV t28_14
   ((M.ret (V.bool false)).bind fun t6_15 =>
  M.ret (Ex.ret, [t6_15]))
   ((M.ret x1).bind fun t29_16 =>
  (M.ret x2).bind fun t30_17 =>
  (M.lift (arithV .gtr t29_16 t30_17)).bind fun t31_18 =>
  (condV t31_18
   ((M.ret x2).bind fun t32_91 =>
  (M.ret x1).bind fun t33_92 =>
  (M.ret t32_91).bind fun t1_93 =>
  (M.ret t33_92).bind fun t2_94 =>
  ferry_ferrylaw08_TimerSteps_j1 G call t7_7 t1_93 t2_94)
   (ferry_ferrylaw08_TimerSteps_j1 G call t7_7 x1 x2))))

theorem ferry_ferrylaw08_TimerSteps_eq (G : Nat → Option (List V)) (n : Nat) (x0 : V) (x1 : V) (x2 : V) : sem (cfg G) (n + 1) 11 [x0, x1, x2] = outV (ferry_ferrylaw08_TimerSteps G (sem (cfg G) n) x0 x1 x2) :=
  (fnV_at (C := cfg G) (n := n) (f := 11) (fn := Tryd.f11) (c := Tryd.f11.body.getD .skip) (by kernel_rfl) (by kernel_rfl) (by kernel_rfl) [x0, x1, x2]).trans (by kernel_rfl)

noncomputable def ferry_ferrylaw08_TimerOne_l1 (G : Nat → Option (List V)) (call : FuncId → List V → M V) (t7_7 : V) (t10_34 : V) (t12_44 : V) (t9_20 : V) (s0_129 : List V) : M R :=
  (M.ret (s0_129.getD 1 V.undef)).bind fun t135_130 =>
  (M.lift (arithV .lss t135_130 (V.int .i64 8))).bind fun t136_131 =>
  (condV t136_131
   ((M.ret t7_7).bind fun t140_132 =>
  (M.ret (s0_129.getD 1 V.undef)).bind fun t141_133 =>
  (callV (cfg G) call 61 [t140_132, t141_133]).bind fun t142_134 =>
  (M.ret t142_134).bind fun t139_135 =>
  (M.lift (extractV t139_135 0)).bind fun t143_136 =>
  (M.lift (extractV t139_135 1)).bind fun t144_137 =>
  (M.ret t143_136).bind fun t25_138 =>
  (M.ret t144_137).bind fun t26_139 =>
  (M.ret t10_34).bind fun t146_140 =>
  (M.ret (s0_129.getD 1 V.undef)).bind fun t147_141 =>
  (callV (cfg G) call 61 [t146_140, t147_141]).bind fun t148_142 =>
  (M.ret t148_142).bind fun t145_143 =>
  (M.lift (extractV t145_143 0)).bind fun t149_144 =>
  (M.lift (extractV t145_143 1)).bind fun t150_145 =>
  (M.ret t149_144).bind fun t27_146 =>
  (M.ret t150_145).bind fun t28_147 =>
  (M.ret t12_44).bind fun t152_148 =>
  (M.ret (s0_129.getD 1 V.undef)).bind fun t153_149 =>
  (callV (cfg G) call 61 [t152_148, t153_149]).bind fun t154_150 =>
  (M.ret t154_150).bind fun t151_151 =>
  (M.lift (extractV t151_151 0)).bind fun t155_152 =>
  (M.lift (extractV t151_151 1)).bind fun t156_153 =>
  (M.ret t155_152).bind fun t29_154 =>
  (M.ret t156_153).bind fun t30_155 =>
  (M.ret (s0_129.getD 1 V.undef)).bind fun t157_156 =>
  (M.ret t9_20).bind fun t158_157 =>
  (M.lift ((eqV (.sc .int) false t157_156 t158_157).bind fun b => some (.bool !b))).bind fun t159_158 =>
  (M.ret t159_158).bind fun t160_159 =>
  (guardV t160_159 true (M.ret t25_138)).bind fun t161_160 =>
  (guardV t160_159 true (M.ret t27_146)).bind fun t162_161 =>
  (guardV t160_159 true (M.lift ((eqV (.sc .int) false t161_160 t162_161).bind fun b => some (.bool !b)))).bind fun t163_162 =>
  (guardV t160_159 true (M.ret t163_162)).bind fun t164_163 =>
  (guardV t164_163 false (M.ret t25_138)).bind fun t165_164 =>
  (guardV t164_163 false (M.ret t29_154)).bind fun t166_165 =>
  (guardV t164_163 false (M.lift ((eqV (.sc .int) false t165_164 t166_165).bind fun b => some (.bool !b)))).bind fun t167_166 =>
  (guardV t160_159 true (M.lift (pickV t164_163 (V.bool true) t167_166))).bind fun t168_167 =>
  (guardV t160_159 true (M.ret t168_167)).bind fun t169_168 =>
  (guardV t169_168 false (M.ret t26_139)).bind fun t170_169 =>
  (guardV t169_168 false (M.ret t28_147)).bind fun t171_170 =>
  (guardV t169_168 false (M.lift ((eqV (.sc .bool) false t170_169 t171_170).bind fun b => some (.bool !b)))).bind fun t172_171 =>
  (guardV t160_159 true (M.lift (pickV t169_168 (V.bool true) t172_171))).bind fun t173_172 =>
  (guardV t160_159 true (M.ret t173_172)).bind fun t174_173 =>
  (guardV t174_173 false (M.ret t26_139)).bind fun t175_174 =>
  (guardV t174_173 false (M.ret t30_155)).bind fun t176_175 =>
  (guardV t174_173 false (M.lift ((eqV (.sc .bool) false t175_174 t176_175).bind fun b => some (.bool !b)))).bind fun t177_176 =>
  (guardV t160_159 true (M.lift (pickV t174_173 (V.bool true) t177_176))).bind fun t178_177 =>
  (M.lift (pickV t160_159 t178_177 (V.bool false))).bind fun t179_178 =>
  (condV t179_178
   ((M.ret (V.bool false)).bind fun t6_179 =>
  M.ret (Ex.ret, [t6_179, (s0_129.getD 1 V.undef)]))
   ((M.ret (s0_129.getD 1 V.undef)).bind fun t137_180 =>
  (M.lift (arithV .add t137_180 (V.int .i64 1))).bind fun t138_181 =>
  (M.ret t138_181).bind fun t24_182 =>
  M.ret (Ex.normal, [(s0_129.getD 0 V.undef), t24_182]))))
   (M.ret ((Ex.exit 0), [(s0_129.getD 0 V.undef), (s0_129.getD 1 V.undef)])))

noncomputable def ferry_ferrylaw08_TimerOne (G : Nat → Option (List V)) (call : FuncId → List V → M V) (x0 : V) (x1 : V) (x2 : V) : M R :=
  (M.ret (V.bool false)).bind fun t6_1 =>
  (M.ret x0).bind fun t32_2 =>
  (callV (cfg G) call 52 [t32_2]).bind fun t33_3 =>
  (M.ret t33_3).bind fun t31_4 =>
  (M.lift (extractV t31_4 0)).bind fun t34_5 =>
  (M.lift (extractV t31_4 1)).bind fun t35_6 =>
  (M.ret t34_5).bind fun t7_7 =>
  (M.ret t35_6).bind fun t8_8 =>
  (callV (cfg G) call 53 []).bind fun t36_9 =>
  (M.lift (unV .not t36_9)).bind fun t37_10 =>
  (M.ret t37_10).bind fun t38_11 =>
  (guardV t38_11 false (M.ret t8_8)).bind fun t39_12 =>
  (guardV t38_11 false (M.lift (unV .not t39_12))).bind fun t40_13 =>
  (M.lift (pickV t38_11 (V.bool true) t40_13)).bind fun t41_14 =>
  (condV t41_14
   ((M.ret (V.bool false)).bind fun t6_15 =>
  M.ret (Ex.ret, [t6_15]))
   ((M.ret x1).bind fun t42_16 =>
  (M.lift (convI .u64 t42_16)).bind fun t43_17 =>
  (M.lift (arithV .rem t43_17 (V.int .u64 8))).bind fun t44_18 =>
  (M.lift (convI .i64 t44_18)).bind fun t45_19 =>
  (M.ret t45_19).bind fun t9_20 =>
  (M.ret x2).bind fun t46_21 =>
  (M.lift (convI .u64 t46_21)).bind fun t47_22 =>
  (M.lift (arithV .rem t47_22 (V.int .u64 1010001))).bind fun t48_23 =>
  (M.lift (convI .i64 t48_23)).bind fun t49_24 =>
  (M.ret t49_24).bind fun t2_25 =>
  (M.ret t7_7).bind fun t51_26 =>
  (callV (cfg G) call 55 [t51_26]).bind fun t52_27 =>
  (M.ret t9_20).bind fun t53_28 =>
  (M.ret t2_25).bind fun t54_29 =>
  (callV (cfg G) call 58 [t52_27, t53_28, t54_29]).bind fun t55_30 =>
  (M.ret t55_30).bind fun t50_31 =>
  (M.lift (extractV t50_31 0)).bind fun t56_32 =>
  (M.lift (extractV t50_31 1)).bind fun t57_33 =>
  (M.ret t56_32).bind fun t10_34 =>
  (M.ret t57_33).bind fun t11_35 =>
  (M.ret t10_34).bind fun t59_36 =>
  (callV (cfg G) call 55 [t59_36]).bind fun t60_37 =>
  (M.ret t9_20).bind fun t61_38 =>
  (callV (cfg G) call 59 [t60_37, t61_38]).bind fun t62_39 =>
  (M.ret t62_39).bind fun t58_40 =>
  (M.lift (extractV t58_40 0)).bind fun t63_41 =>
  (M.lift (extractV t58_40 1)).bind fun t64_42 =>
  (M.lift (extractV t58_40 2)).bind fun t65_43 =>
  (M.ret t63_41).bind fun t12_44 =>
  (M.ret t64_42).bind fun t13_45 =>
  (M.ret t65_43).bind fun t14_46 =>
  (M.ret t7_7).bind fun t67_47 =>
  (callV (cfg G) call 55 [t67_47]).bind fun t68_48 =>
  (M.ret t9_20).bind fun t69_49 =>
  (callV (cfg G) call 59 [t68_48, t69_49]).bind fun t70_50 =>
  (M.ret t70_50).bind fun t66_51 =>
  (M.lift (extractV t66_51 0)).bind fun t71_52 =>
  (M.lift (extractV t66_51 1)).bind fun t72_53 =>
  (M.lift (extractV t66_51 2)).bind fun t73_54 =>
  (M.ret t71_52).bind fun t15_55 =>
  (M.ret t72_53).bind fun t16_56 =>
  (M.ret t73_54).bind fun t17_57 =>
  (M.ret t11_35).bind fun t74_58 =>
  (M.lift ((eqV .iface true t74_58 V.nili).bind fun b => some (.bool !b))).bind fun t75_59 =>
  (M.ret t75_59).bind fun t76_60 =>
  (guardV t76_60 false (M.ret t14_46)).bind fun t77_61 =>
  (guardV t76_60 false (M.lift ((eqV .iface true t77_61 V.nili).bind fun b => some (.bool !b)))).bind fun t78_62 =>
  (M.lift (pickV t76_60 (V.bool true) t78_62)).bind fun t79_63 =>
  (M.ret t79_63).bind fun t80_64 =>
  (guardV t80_64 false (M.ret t17_57)).bind fun t81_65 =>
  (guardV t80_64 false (M.lift ((eqV .iface true t81_65 V.nili).bind fun b => some (.bool !b)))).bind fun t82_66 =>
  (M.lift (pickV t80_64 (V.bool true) t82_66)).bind fun t83_67 =>
  (M.ret t83_67).bind fun t84_68 =>
  (guardV t84_68 false (M.ret t13_45)).bind fun t85_69 =>
  (guardV t84_68 false (M.lift (unV .not t85_69))).bind fun t86_70 =>
  (M.lift (pickV t84_68 (V.bool true) t86_70)).bind fun t87_71 =>
  (M.ret t87_71).bind fun t88_72 =>
  (guardV t88_72 false (M.ret t10_34)).bind fun t89_73 =>
  (guardV t88_72 false (callV (cfg G) call 60 [t89_73, (V.int .i64 8)])).bind fun t90_74 =>
  (guardV t88_72 false (M.lift ((eqV .iface true t90_74 V.nili).bind fun b => some (.bool !b)))).bind fun t91_75 =>
  (M.lift (pickV t88_72 (V.bool true) t91_75)).bind fun t92_76 =>
  (M.ret t92_76).bind fun t93_77 =>
  (guardV t93_77 false (M.ret t12_44)).bind fun t94_78 =>
  (guardV t93_77 false (callV (cfg G) call 60 [t94_78, (V.int .i64 8)])).bind fun t95_79 =>
  (guardV t93_77 false (M.lift ((eqV .iface true t95_79 V.nili).bind fun b => some (.bool !b)))).bind fun t96_80 =>
  (M.lift (pickV t93_77 (V.bool true) t96_80)).bind fun t97_81 =>
  (condV t97_81
   ((M.ret (V.bool false)).bind fun t6_82 =>
  M.ret (Ex.ret, [t6_82]))
   ((M.ret t7_7).bind fun t99_83 =>
  (M.ret t9_20).bind fun t100_84 =>
  (callV (cfg G) call 61 [t99_83, t100_84]).bind fun t101_85 =>
  (M.ret t101_85).bind fun t98_86 =>
  (M.lift (extractV t98_86 0)).bind fun t102_87 =>
  (M.lift (extractV t98_86 1)).bind fun t103_88 =>
  (M.ret t102_87).bind fun t18_89 =>
  (M.ret t103_88).bind fun t19_90 =>
  (M.ret t19_90).bind fun t104_91 =>
  (M.ret t16_56).bind fun t105_92 =>
  (M.lift ((eqV (.sc .bool) false t104_91 t105_92).bind fun b => some (.bool !b))).bind fun t106_93 =>
  (M.ret t106_93).bind fun t107_94 =>
  (guardV t107_94 false (M.ret t12_44)).bind fun t108_95 =>
  (guardV t107_94 false (M.ret t15_55)).bind fun t109_96 =>
  (guardV t107_94 false (callV (cfg G) call 57 [t108_95, t109_96])).bind fun t110_97 =>
  (guardV t107_94 false (M.lift (unV .not t110_97))).bind fun t111_98 =>
  (M.lift (pickV t107_94 (V.bool true) t111_98)).bind fun t112_99 =>
  (condV t112_99
   ((M.ret (V.bool false)).bind fun t6_100 =>
  M.ret (Ex.ret, [t6_100]))
   ((M.ret t10_34).bind fun t114_101 =>
  (M.ret t9_20).bind fun t115_102 =>
  (callV (cfg G) call 61 [t114_101, t115_102]).bind fun t116_103 =>
  (M.ret t116_103).bind fun t113_104 =>
  (M.lift (extractV t113_104 0)).bind fun t117_105 =>
  (M.lift (extractV t113_104 1)).bind fun t118_106 =>
  (M.ret t117_105).bind fun t20_107 =>
  (M.ret t118_106).bind fun t21_108 =>
  (M.ret t12_44).bind fun t120_109 =>
  (M.ret t9_20).bind fun t121_110 =>
  (callV (cfg G) call 61 [t120_109, t121_110]).bind fun t122_111 =>
  (M.ret t122_111).bind fun t119_112 =>
  (M.lift (extractV t119_112 0)).bind fun t123_113 =>
  (M.lift (extractV t119_112 1)).bind fun t124_114 =>
  (M.ret t123_113).bind fun t22_115 =>
  (M.ret t124_114).bind fun t23_116 =>
  (M.ret t20_107).bind fun t125_117 =>
  (M.ret t2_25).bind fun t126_118 =>
  (M.lift ((eqV (.sc .int) false t125_117 t126_118).bind fun b => some (.bool !b))).bind fun t127_119 =>
  (M.ret t127_119).bind fun t128_120 =>
  (guardV t128_120 false (M.ret t21_108)).bind fun t129_121 =>
  (guardV t128_120 false (M.lift (unV .not t129_121))).bind fun t130_122 =>
  (M.lift (pickV t128_120 (V.bool true) t130_122)).bind fun t131_123 =>
  (M.ret t131_123).bind fun t132_124 =>
  (guardV t132_124 false (M.ret t23_116)).bind fun t133_125 =>
  (M.lift (pickV t132_124 (V.bool true) t133_125)).bind fun t134_126 =>
  (condV t134_126
   ((M.ret (V.bool false)).bind fun t6_127 =>
  M.ret (Ex.ret, [t6_127]))
   ((M.ret (V.int .i64 0)).bind fun t24_128 =>
  (loopV (ferry_ferrylaw08_TimerOne_l1 G call t7_7 t10_34 t12_44 t9_20) [t6_1, t24_128]).bind fun r0_183 => match r0_183.1 with
  | .normal => M.fail
  | .exit k0_184 =>
    (if k0_184 = 0 then
    (M.ret (V.bool true)).bind fun t6_185 =>
    M.ret (Ex.ret, [t6_185])
    else M.fail)
  | .ret =>
    M.ret (Ex.ret, [(r0_183.2.getD 0 V.undef)])))))))))

theorem ferry_ferrylaw08_TimerOne_eq (G : Nat → Option (List V)) (n : Nat) (x0 : V) (x1 : V) (x2 : V) : sem (cfg G) (n + 1) 12 [x0, x1, x2] = outV (ferry_ferrylaw08_TimerOne G (sem (cfg G) n) x0 x1 x2) :=
  (fnV_at (C := cfg G) (n := n) (f := 12) (fn := Tryd.f12) (c := Tryd.f12.body.getD .skip) (by kernel_rfl) (by kernel_rfl) (by kernel_rfl) [x0, x1, x2]).trans (by kernel_rfl)

end Go.Fv.Tr

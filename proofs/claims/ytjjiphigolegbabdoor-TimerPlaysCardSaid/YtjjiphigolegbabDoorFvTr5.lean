/-
  The Go functions ferry/timer.without, ferry/timer.Set, ferry/timer.Fire, ferry/timer.Sort, ferry/timer.Drop, ferry/ferrylaw08.known, ferry/ferrylaw08.copied, ferry/ferrylaw08.ints, ferry/ferryref08.Same as plain terms. By an AI agent; no person has read it.
-/
import Derived.Test.YtjjiphigolegbabDoorFvCf
set_option linter.unusedVariables false
set_option linter.unusedSimpArgs false
set_option linter.unusedSectionVars false
/-! The Go functions ferry/timer.without, ferry/timer.Set, ferry/timer.Fire, ferry/timer.Sort, ferry/timer.Drop, ferry/ferrylaw08.known, ferry/ferrylaw08.copied, ferry/ferrylaw08.ints, ferry/ferryref08.Same as plain terms. -/
namespace Go.Fv.Tr
open Go Go.Fv Go.Proofs
set_option linter.unusedVariables false
set_option maxRecDepth 20000

noncomputable def ferry_timer_without (G : Nat → Option (List V)) (call : FuncId → List V → M V) (x0 : V) (x1 : V) : M R :=
  (newV x1).bind fun t3_1 =>
  (M.ret V.nils).bind fun t4_2 =>
  (M.ret x0).bind fun t5_3 =>
  (callV (cfg G) call 71 [t5_3]).bind fun t6_4 =>
  (M.ret (V.fn 93 [t3_1])).bind fun t7_5 =>
  (callV (cfg G) call 92 [t6_4, t7_5]).bind fun t8_6 =>
  (M.ret t8_6).bind fun t4_7 =>
  M.ret (Ex.ret, [t4_7])

theorem ferry_timer_without_eq (G : Nat → Option (List V)) (n : Nat) (x0 : V) (x1 : V) : sem (cfg G) (n + 1) 68 [x0, x1] = outV (ferry_timer_without G (sem (cfg G) n) x0 x1) :=
  (fnV_at (C := cfg G) (n := n) (f := 68) (fn := Tryd.f68) (c := Tryd.f68.body.getD .skip) (by kernel_rfl) (by kernel_rfl) (by kernel_rfl) [x0, x1]).trans (by kernel_rfl)

noncomputable def ferry_timer_Set (G : Nat → Option (List V)) (call : FuncId → List V → M V) (x0 : V) (x1 : V) (x2 : V) : M R :=
  (M.ret V.nils).bind fun t6_1 =>
  (M.ret V.nili).bind fun t7_2 =>
  (M.ret x0).bind fun t10_3 =>
  (callV (cfg G) call 66 [t10_3, (V.int .i64 8)]).bind fun t11_4 =>
  (M.lift (unV .not t11_4)).bind fun t12_5 =>
  (condV t12_5
   (((load1 (glob (cfg G) 0)).bind fun y0_6 =>
  (M.ret V.nils).bind fun y1_7 =>
  (M.ret y0_6).bind fun y2_8 =>
  M.ret (Ex.ret, [V.tuple [y1_7, y2_8]])))
   ((M.ret x1).bind fun t14_9 =>
  (M.ret x2).bind fun t15_10 =>
  (M.lift (buildV [(V.int .i64 0), (V.int .i64 0)] [(0, 1, t14_9), (1, 1, t15_10)])).bind fun t16_11 =>
  (newV (.agg [(V.int .i64 0), (V.int .i64 0)])).bind fun t8_12 =>
  (storeN 2 t8_12 t16_11).bind fun _ =>
  (loadN 2 t8_12).bind fun t17_13 =>
  (callV (cfg G) call 67 [t17_13, (V.int .i64 8)]).bind fun t18_14 =>
  (M.lift (unV .not t18_14)).bind fun t19_15 =>
  (condV t19_15
   (((load1 (glob (cfg G) 1)).bind fun y0_16 =>
  (M.ret V.nils).bind fun y1_17 =>
  (M.ret y0_16).bind fun y2_18 =>
  M.ret (Ex.ret, [V.tuple [y1_17, y2_18]])))
   ((getN.bind fun n_19 =>
  (M.ret x0).bind fun y0_20 =>
  getN.bind fun n_21 =>
  (M.ret x1).bind fun y1_22 =>
  getN.bind fun n_23 =>
  (qrun (visB n_19 [(n_21, n_23, true), (n_19, n_21, true)]) (callV (cfg G) call 68 [y0_20, y1_22])).bind fun y2_24 =>
  getN.bind fun n_25 =>
  (loadN 2 t8_12).bind fun y3_26 =>
  getN.bind fun n_27 =>
  (sliceV 2 1 [(V.int .i64 0), (V.int .i64 0)] [(0, y3_26)]).bind fun y4_28 =>
  getN.bind fun n_29 =>
  (trun (visB n_19 [(n_27, n_29, true), (n_25, n_27, true), (n_23, n_25, true), (n_21, n_23, true), (n_19, n_21, true)]) (appV 2 16 y2_24 y4_28)).bind fun y5_30 =>
  (M.ret y5_30).bind fun y6_31 =>
  (M.ret y6_31).bind fun t27_32 =>
  (callV (cfg G) call 69 [t27_32, (V.fn 70 [])]).bind fun t28_33 =>
  (M.ret y6_31).bind fun t29_34 =>
  (M.ret t29_34).bind fun t6_35 =>
  (M.ret V.nili).bind fun t7_36 =>
  M.ret (Ex.ret, [V.tuple [t6_35, t7_36]]))))))

theorem ferry_timer_Set_eq (G : Nat → Option (List V)) (n : Nat) (x0 : V) (x1 : V) (x2 : V) : sem (cfg G) (n + 1) 22 [x0, x1, x2] = outV (ferry_timer_Set G (sem (cfg G) n) x0 x1 x2) :=
  (fnV_at (C := cfg G) (n := n) (f := 22) (fn := Tryd.f22) (c := Tryd.f22.body.getD .skip) (by kernel_rfl) (by kernel_rfl) (by kernel_rfl) [x0, x1, x2]).trans (by kernel_rfl)

noncomputable def ferry_timer_Fire_l1 (G : Nat → Option (List V)) (call : FuncId → List V → M V) (t16_14 : V) (t15_13 : V) (x1 : V) (s0_16 : List V) : M R :=
  (M.lift (arithV .lss (s0_16.getD 2 V.undef) t16_14)).bind fun t18_17 =>
  (condV t18_17
   ((M.lift (idxV 2 t15_13 (s0_16.getD 2 V.undef))).bind fun t19_18 =>
  (loadN 2 t19_18).bind fun t20_19 =>
  (newV (.agg [(V.int .i64 0), (V.int .i64 0)])).bind fun t10_20 =>
  (storeN 2 t10_20 t20_19).bind fun _ =>
  (M.lift (padd 1 t10_20)).bind fun t21_21 =>
  (load1 t21_21).bind fun t22_22 =>
  (M.ret x1).bind fun t23_23 =>
  (M.lift (arithV .leq t22_22 t23_23)).bind fun t24_24 =>
  (condV t24_24
   ((M.ret (s0_16.getD 0 V.undef)).bind fun t25_38 =>
  (M.lift (padd 0 t10_20)).bind fun t26_39 =>
  (load1 t26_39).bind fun t27_40 =>
  (sliceV 1 1 [(V.int .i64 0)] [(0, t27_40)]).bind fun t28_41 =>
  (appV 1 8 t25_38 t28_41).bind fun t29_42 =>
  (M.ret t29_42).bind fun t7_43 =>
  (M.lift (arithV .add (s0_16.getD 2 V.undef) (V.int .i64 1))).bind fun t34_44 =>
  (M.ret t34_44).bind fun t17_45 =>
  M.ret (Ex.normal, [t7_43, (s0_16.getD 1 V.undef), t17_45]))
   ((M.ret (s0_16.getD 1 V.undef)).bind fun t30_46 =>
  (loadN 2 t10_20).bind fun t31_47 =>
  (sliceV 2 1 [(V.int .i64 0), (V.int .i64 0)] [(0, t31_47)]).bind fun t32_48 =>
  (appV 2 16 t30_46 t32_48).bind fun t33_49 =>
  (M.ret t33_49).bind fun t8_50 =>
  (M.lift (arithV .add (s0_16.getD 2 V.undef) (V.int .i64 1))).bind fun t34_51 =>
  (M.ret t34_51).bind fun t17_52 =>
  M.ret (Ex.normal, [(s0_16.getD 0 V.undef), t8_50, t17_52]))))
   (M.ret ((Ex.exit 0), [(s0_16.getD 0 V.undef), (s0_16.getD 1 V.undef), (s0_16.getD 2 V.undef)])))

noncomputable def ferry_timer_Fire (G : Nat → Option (List V)) (call : FuncId → List V → M V) (x0 : V) (x1 : V) : M R :=
  (M.ret V.nils).bind fun t4_1 =>
  (M.ret V.nils).bind fun t5_2 =>
  (M.ret V.nili).bind fun t6_3 =>
  (M.ret x0).bind fun t11_4 =>
  (callV (cfg G) call 66 [t11_4, (V.int .i64 8)]).bind fun t12_5 =>
  (M.lift (unV .not t12_5)).bind fun t13_6 =>
  (condV t13_6
   (((load1 (glob (cfg G) 0)).bind fun y0_7 =>
  (M.ret V.nils).bind fun y1_8 =>
  (M.ret V.nils).bind fun y2_9 =>
  (M.ret y0_7).bind fun y3_10 =>
  M.ret (Ex.ret, [V.tuple [y1_8, y2_9, y3_10]])))
   ((M.ret V.nils).bind fun t7_11 =>
  (M.ret V.nils).bind fun t8_12 =>
  (M.ret x0).bind fun t15_13 =>
  (M.lift (lenV t15_13)).bind fun t16_14 =>
  (M.ret (V.int .i64 0)).bind fun t17_15 =>
  (loopV (ferry_timer_Fire_l1 G call t16_14 t15_13 x1) [t7_11, t8_12, t17_15]).bind fun r0_53 => match r0_53.1 with
  | .normal => M.fail
  | .exit k0_54 =>
    (if k0_54 = 0 then
    (M.ret (r0_53.2.getD 0 V.undef)).bind fun t35_55 =>
    (M.ret (r0_53.2.getD 1 V.undef)).bind fun t36_56 =>
    (M.ret t35_55).bind fun t4_57 =>
    (M.ret t36_56).bind fun t5_58 =>
    (M.ret V.nili).bind fun t6_59 =>
    M.ret (Ex.ret, [V.tuple [t4_57, t5_58, t6_59]])
    else M.fail)
  | .ret =>
    M.ret (Ex.ret, [V.tuple [t4_1, t5_2, t6_3]])))

theorem ferry_timer_Fire_eq (G : Nat → Option (List V)) (n : Nat) (x0 : V) (x1 : V) : sem (cfg G) (n + 1) 24 [x0, x1] = outV (ferry_timer_Fire G (sem (cfg G) n) x0 x1) :=
  (fnV_at (C := cfg G) (n := n) (f := 24) (fn := Tryd.f24) (c := Tryd.f24.body.getD .skip) (by kernel_rfl) (by kernel_rfl) (by kernel_rfl) [x0, x1]).trans (by kernel_rfl)

noncomputable def ferry_timer_Sort_l1 (G : Nat → Option (List V)) (call : FuncId → List V → M V) (t10_6 : V) (t9_5 : V) (t4_3 : V) (s0_8 : List V) : M R :=
  (M.lift (arithV .lss (s0_8.getD 3 V.undef) t10_6)).bind fun t12_9 =>
  (condV t12_9
   ((M.lift (idxV 2 t9_5 (s0_8.getD 3 V.undef))).bind fun t13_10 =>
  (loadN 2 t13_10).bind fun t14_11 =>
  (newV (.agg [(V.int .i64 0), (V.int .i64 0)])).bind fun t7_12 =>
  (storeN 2 t7_12 t14_11).bind fun _ =>
  (loadN 2 t7_12).bind fun t15_13 =>
  (callV (cfg G) call 67 [t15_13, (V.int .i64 8)]).bind fun t16_14 =>
  (M.lift (unV .not t16_14)).bind fun t17_15 =>
  (condV t17_15
   (((load1 (glob (cfg G) 2)).bind fun y0_16 =>
  (M.ret V.nils).bind fun y1_17 =>
  (M.ret y0_16).bind fun y2_18 =>
  M.ret (Ex.ret, [y1_17, y2_18, (s0_8.getD 2 V.undef), (s0_8.getD 3 V.undef)])))
   ((M.ret (s0_8.getD 2 V.undef)).bind fun t19_19 =>
  (M.ret t19_19).bind fun t20_20 =>
  (guardV t20_20 false (M.lift (padd 0 t7_12))).bind fun t21_21 =>
  (guardV t20_20 false (load1 t21_21)).bind fun t22_22 =>
  (guardV t20_20 false (M.lift (aidxV 8 1 t4_3 t22_22))).bind fun t23_23 =>
  (guardV t20_20 false (load1 t23_23)).bind fun t24_24 =>
  (M.lift (pickV t20_20 (V.bool true) t24_24)).bind fun t25_25 =>
  (M.ret t25_25).bind fun t5_26 =>
  (M.lift (padd 0 t7_12)).bind fun t26_27 =>
  (load1 t26_27).bind fun t27_28 =>
  (M.lift (aidxV 8 1 t4_3 t27_28)).bind fun t28_29 =>
  (storeN 1 t28_29 (V.bool true)).bind fun _ =>
  (M.lift (arithV .add (s0_8.getD 3 V.undef) (V.int .i64 1))).bind fun t29_30 =>
  (M.ret t29_30).bind fun t11_31 =>
  M.ret (Ex.normal, [(s0_8.getD 0 V.undef), (s0_8.getD 1 V.undef), t5_26, t11_31]))))
   (M.ret ((Ex.exit 0), [(s0_8.getD 0 V.undef), (s0_8.getD 1 V.undef), (s0_8.getD 2 V.undef), (s0_8.getD 3 V.undef)])))

noncomputable def ferry_timer_Sort (G : Nat → Option (List V)) (call : FuncId → List V → M V) (x0 : V) : M R :=
  (M.ret V.nils).bind fun t2_1 =>
  (M.ret V.nili).bind fun t3_2 =>
  (newV (.agg [(V.bool false), (V.bool false), (V.bool false), (V.bool false), (V.bool false), (V.bool false), (V.bool false), (V.bool false)])).bind fun t4_3 =>
  (M.ret (V.bool false)).bind fun t5_4 =>
  (M.ret x0).bind fun t9_5 =>
  (M.lift (lenV t9_5)).bind fun t10_6 =>
  (M.ret (V.int .i64 0)).bind fun t11_7 =>
  (loopV (ferry_timer_Sort_l1 G call t10_6 t9_5 t4_3) [t2_1, t3_2, t5_4, t11_7]).bind fun r0_32 => match r0_32.1 with
  | .normal => M.fail
  | .exit k0_33 =>
    (if k0_33 = 0 then
    (M.ret (r0_32.2.getD 2 V.undef)).bind fun t30_34 =>
    (condV t30_34
     (((load1 (glob (cfg G) 1)).bind fun y0_35 =>
    (M.ret V.nils).bind fun y1_36 =>
    (M.ret y0_35).bind fun y2_37 =>
    M.ret (Ex.ret, [V.tuple [y1_36, y2_37]])))
     ((M.ret x0).bind fun t32_38 =>
    (callV (cfg G) call 71 [t32_38]).bind fun t33_39 =>
    (M.ret t33_39).bind fun t8_40 =>
    (M.ret t8_40).bind fun t34_41 =>
    (callV (cfg G) call 69 [t34_41, (V.fn 70 [])]).bind fun t35_42 =>
    (M.ret t8_40).bind fun t36_43 =>
    (M.ret t36_43).bind fun t2_44 =>
    (M.ret V.nili).bind fun t3_45 =>
    M.ret (Ex.ret, [V.tuple [t2_44, t3_45]])))
    else M.fail)
  | .ret =>
    M.ret (Ex.ret, [V.tuple [(r0_32.2.getD 0 V.undef), (r0_32.2.getD 1 V.undef)]])

theorem ferry_timer_Sort_eq (G : Nat → Option (List V)) (n : Nat) (x0 : V) : sem (cfg G) (n + 1) 26 [x0] = outV (ferry_timer_Sort G (sem (cfg G) n) x0) :=
  (fnV_at (C := cfg G) (n := n) (f := 26) (fn := Tryd.f26) (c := Tryd.f26.body.getD .skip) (by kernel_rfl) (by kernel_rfl) (by kernel_rfl) [x0]).trans (by kernel_rfl)

noncomputable def ferry_timer_Drop (G : Nat → Option (List V)) (call : FuncId → List V → M V) (x0 : V) (x1 : V) : M R :=
  (M.ret V.nils).bind fun t4_1 =>
  (M.ret (V.bool false)).bind fun t5_2 =>
  (M.ret V.nili).bind fun t6_3 =>
  (M.ret x0).bind fun t8_4 =>
  (callV (cfg G) call 66 [t8_4, (V.int .i64 8)]).bind fun t9_5 =>
  (M.lift (unV .not t9_5)).bind fun t10_6 =>
  (condV t10_6
   (((load1 (glob (cfg G) 0)).bind fun y0_7 =>
  (M.ret V.nils).bind fun y1_8 =>
  (M.ret (V.bool false)).bind fun y2_9 =>
  (M.ret y0_7).bind fun y3_10 =>
  M.ret (Ex.ret, [V.tuple [y1_8, y2_9, y3_10]])))
   ((M.ret x0).bind fun t12_11 =>
  (M.ret x1).bind fun t13_12 =>
  (callV (cfg G) call 68 [t12_11, t13_12]).bind fun t14_13 =>
  (M.ret t14_13).bind fun t7_14 =>
  (M.ret t7_14).bind fun t15_15 =>
  (M.ret t7_14).bind fun t16_16 =>
  (M.lift (lenV t16_16)).bind fun t17_17 =>
  (M.ret x0).bind fun t18_18 =>
  (M.lift (lenV t18_18)).bind fun t19_19 =>
  (M.lift (arithV .lss t17_17 t19_19)).bind fun t20_20 =>
  (M.ret t15_15).bind fun t4_21 =>
  (M.ret t20_20).bind fun t5_22 =>
  (M.ret V.nili).bind fun t6_23 =>
  M.ret (Ex.ret, [V.tuple [t4_21, t5_22, t6_23]])))

theorem ferry_timer_Drop_eq (G : Nat → Option (List V)) (n : Nat) (x0 : V) (x1 : V) : sem (cfg G) (n + 1) 23 [x0, x1] = outV (ferry_timer_Drop G (sem (cfg G) n) x0 x1) :=
  (fnV_at (C := cfg G) (n := n) (f := 23) (fn := Tryd.f23) (c := Tryd.f23.body.getD .skip) (by kernel_rfl) (by kernel_rfl) (by kernel_rfl) [x0, x1]).trans (by kernel_rfl)

noncomputable def ferry_ferrylaw08_known (G : Nat → Option (List V)) (call : FuncId → List V → M V)  : M R :=
  (M.ret (V.bool false)).bind fun t0_1 =>
  (M.lift (buildV [(V.int .i64 0), (V.int .i64 0)] [(0, 1, (V.int .i64 0)), (1, 1, (V.int .i64 7))])).bind fun t7_2 =>
  (sliceV 2 1 [(V.int .i64 0), (V.int .i64 0)] [(0, t7_2)]).bind fun t8_3 =>
  (callV (cfg G) call 22 [t8_3, (V.int .i64 2), (V.int .i64 5)]).bind fun t9_4 =>
  (M.ret t9_4).bind fun t6_5 =>
  (M.lift (extractV t6_5 0)).bind fun t10_6 =>
  (M.lift (extractV t6_5 1)).bind fun t11_7 =>
  (M.ret t10_6).bind fun t1_8 =>
  (M.ret t11_7).bind fun t2_9 =>
  (M.ret t1_8).bind fun t13_10 =>
  (callV (cfg G) call 24 [t13_10, (V.int .i64 6)]).bind fun t14_11 =>
  (M.ret t14_11).bind fun t12_12 =>
  (M.lift (extractV t12_12 0)).bind fun t15_13 =>
  (M.lift (extractV t12_12 1)).bind fun t16_14 =>
  (M.lift (extractV t12_12 2)).bind fun t17_15 =>
  (M.ret t15_13).bind fun t3_16 =>
  (M.ret t16_14).bind fun t4_17 =>
  (M.ret t17_15).bind fun t5_18 =>
  (M.ret t2_9).bind fun t18_19 =>
  (M.lift ((eqV .iface true t18_19 V.nili).bind fun b => some (.bool b))).bind fun t19_20 =>
  (M.ret t19_20).bind fun t20_21 =>
  (guardV t20_21 true (M.ret t5_18)).bind fun t21_22 =>
  (guardV t20_21 true (M.lift ((eqV .iface true t21_22 V.nili).bind fun b => some (.bool b)))).bind fun t22_23 =>
  (M.lift (pickV t20_21 t22_23 (V.bool false))).bind fun t23_24 =>
  (M.ret t23_24).bind fun t24_25 =>
  (guardV t24_25 true (M.ret t1_8)).bind fun t25_26 =>
  (guardV t24_25 true (M.lift (lenV t25_26))).bind fun t26_27 =>
  (guardV t24_25 true (M.lift ((eqV (.sc .int) true t26_27 (V.int .i64 2)).bind fun b => some (.bool b)))).bind fun t27_28 =>
  (M.lift (pickV t24_25 t27_28 (V.bool false))).bind fun t28_29 =>
  (M.ret t28_29).bind fun t29_30 =>
  (guardV t29_30 true (M.ret t3_16)).bind fun t30_31 =>
  (guardV t29_30 true (M.lift (lenV t30_31))).bind fun t31_32 =>
  (guardV t29_30 true (M.lift ((eqV (.sc .int) true t31_32 (V.int .i64 1)).bind fun b => some (.bool b)))).bind fun t32_33 =>
  (M.lift (pickV t29_30 t32_33 (V.bool false))).bind fun t33_34 =>
  (M.ret t33_34).bind fun t34_35 =>
  (guardV t34_35 true (M.ret t3_16)).bind fun t35_36 =>
  (guardV t34_35 true (M.lift (idxV 1 t35_36 (V.int .i64 0)))).bind fun t36_37 =>
  (guardV t34_35 true (load1 t36_37)).bind fun t37_38 =>
  (guardV t34_35 true (M.lift ((eqV (.sc .int) true t37_38 (V.int .i64 2)).bind fun b => some (.bool b)))).bind fun t38_39 =>
  (M.lift (pickV t34_35 t38_39 (V.bool false))).bind fun t39_40 =>
  (M.ret t39_40).bind fun t40_41 =>
  (guardV t40_41 true (M.ret t4_17)).bind fun t41_42 =>
  (guardV t40_41 true (M.lift (lenV t41_42))).bind fun t42_43 =>
  (guardV t40_41 true (M.lift ((eqV (.sc .int) true t42_43 (V.int .i64 1)).bind fun b => some (.bool b)))).bind fun t43_44 =>
  (M.lift (pickV t40_41 t43_44 (V.bool false))).bind fun t44_45 =>
  (M.ret t44_45).bind fun t45_46 =>
  (guardV t45_46 true (M.ret t4_17)).bind fun t46_47 =>
  (guardV t45_46 true (M.lift (idxV 2 t46_47 (V.int .i64 0)))).bind fun t47_48 =>
  (guardV t45_46 true (M.lift (padd 1 t47_48))).bind fun t48_49 =>
  (guardV t45_46 true (load1 t48_49)).bind fun t49_50 =>
  (guardV t45_46 true (M.lift ((eqV (.sc .int) true t49_50 (V.int .i64 7)).bind fun b => some (.bool b)))).bind fun t50_51 =>
  (M.lift (pickV t45_46 t50_51 (V.bool false))).bind fun t51_52 =>
  (M.ret t51_52).bind fun t0_53 =>
  M.ret (Ex.ret, [t0_53])

theorem ferry_ferrylaw08_known_eq (G : Nat → Option (List V)) (n : Nat)  : sem (cfg G) (n + 1) 15 [] = outV (ferry_ferrylaw08_known G (sem (cfg G) n) ) :=
  (fnV_at (C := cfg G) (n := n) (f := 15) (fn := Tryd.f15) (c := Tryd.f15.body.getD .skip) (by kernel_rfl) (by kernel_rfl) (by kernel_rfl) []).trans (by kernel_rfl)

noncomputable def ferry_ferrylaw08_copied (G : Nat → Option (List V)) (call : FuncId → List V → M V) (x0 : V) : M R :=
  (M.ret V.nils).bind fun t2_1 =>
  (sliceV 2 0 [(V.int .i64 0), (V.int .i64 0)] []).bind fun t3_2 =>
  (M.ret x0).bind fun t4_3 =>
  (appV 2 16 t3_2 t4_3).bind fun t5_4 =>
  (M.ret t5_4).bind fun t2_5 =>
  M.ret (Ex.ret, [t2_5])

theorem ferry_ferrylaw08_copied_eq (G : Nat → Option (List V)) (n : Nat) (x0 : V) : sem (cfg G) (n + 1) 16 [x0] = outV (ferry_ferrylaw08_copied G (sem (cfg G) n) x0) :=
  (fnV_at (C := cfg G) (n := n) (f := 16) (fn := Tryd.f16) (c := Tryd.f16.body.getD .skip) (by kernel_rfl) (by kernel_rfl) (by kernel_rfl) [x0]).trans (by kernel_rfl)

noncomputable def ferry_ferrylaw08_ints_l1 (G : Nat → Option (List V)) (call : FuncId → List V → M V) (x0 : V) (x1 : V) (s0_9 : List V) : M R :=
  (M.ret (s0_9.getD 1 V.undef)).bind fun t11_10 =>
  (M.ret x0).bind fun t12_11 =>
  (M.lift (lenV t12_11)).bind fun t13_12 =>
  (M.lift (arithV .lss t11_10 t13_12)).bind fun t14_13 =>
  (condV t14_13
   (((M.ret x0).bind fun y0_14 =>
  (M.ret (s0_9.getD 1 V.undef)).bind fun y1_15 =>
  (M.lift (idxV 1 y0_14 y1_15)).bind fun y2_16 =>
  (load1 y2_16).bind fun y3_17 =>
  (M.ret x1).bind fun y4_18 =>
  (M.ret (s0_9.getD 1 V.undef)).bind fun y5_19 =>
  (M.lift (idxV 1 y4_18 y5_19)).bind fun y6_20 =>
  (load1 y6_20).bind fun y7_21 =>
  (M.lift ((eqV (.sc .int) false y3_17 y7_21).bind fun b => some (.bool !b))).bind fun y8_22 =>
  (condV y8_22
   ((M.ret (V.bool false)).bind fun t4_23 =>
  M.ret (Ex.ret, [t4_23, (s0_9.getD 1 V.undef)]))
   ((M.ret (s0_9.getD 1 V.undef)).bind fun t15_24 =>
  (M.lift (arithV .add t15_24 (V.int .i64 1))).bind fun t16_25 =>
  (M.ret t16_25).bind fun t5_26 =>
  M.ret (Ex.normal, [(s0_9.getD 0 V.undef), t5_26])))))
   (M.ret ((Ex.exit 0), [(s0_9.getD 0 V.undef), (s0_9.getD 1 V.undef)])))

noncomputable def ferry_ferrylaw08_ints (G : Nat → Option (List V)) (call : FuncId → List V → M V) (x0 : V) (x1 : V) : M R :=
  (M.ret (V.bool false)).bind fun t4_1 =>
  (M.ret x0).bind fun t6_2 =>
  (M.lift (lenV t6_2)).bind fun t7_3 =>
  (M.ret x1).bind fun t8_4 =>
  (M.lift (lenV t8_4)).bind fun t9_5 =>
  (M.lift ((eqV (.sc .int) false t7_3 t9_5).bind fun b => some (.bool !b))).bind fun t10_6 =>
  (condV t10_6
   ((M.ret (V.bool false)).bind fun t4_7 =>
  M.ret (Ex.ret, [t4_7]))
   ((M.ret (V.int .i64 0)).bind fun t5_8 =>
  (loopV (ferry_ferrylaw08_ints_l1 G call x0 x1) [t4_1, t5_8]).bind fun r0_27 => match r0_27.1 with
  | .normal => M.fail
  | .exit k0_28 =>
    (if k0_28 = 0 then
    (M.ret (V.bool true)).bind fun t4_29 =>
    M.ret (Ex.ret, [t4_29])
    else M.fail)
  | .ret =>
    M.ret (Ex.ret, [(r0_27.2.getD 0 V.undef)])))

theorem ferry_ferrylaw08_ints_eq (G : Nat → Option (List V)) (n : Nat) (x0 : V) (x1 : V) : sem (cfg G) (n + 1) 29 [x0, x1] = outV (ferry_ferrylaw08_ints G (sem (cfg G) n) x0 x1) :=
  (fnV_at (C := cfg G) (n := n) (f := 29) (fn := Tryd.f29) (c := Tryd.f29.body.getD .skip) (by kernel_rfl) (by kernel_rfl) (by kernel_rfl) [x0, x1]).trans (by kernel_rfl)

noncomputable def ferry_ferryref08_Same_l1 (G : Nat → Option (List V)) (call : FuncId → List V → M V) (x0 : V) (x1 : V) (s0_9 : List V) : M R :=
  (M.ret (s0_9.getD 1 V.undef)).bind fun t11_10 =>
  (M.ret x0).bind fun t12_11 =>
  (M.lift (lenV t12_11)).bind fun t13_12 =>
  (M.lift (arithV .lss t11_10 t13_12)).bind fun t14_13 =>
  (condV t14_13
   (((M.ret x0).bind fun y0_14 =>
  (M.ret (s0_9.getD 1 V.undef)).bind fun y1_15 =>
  (M.lift (idxV 2 y0_14 y1_15)).bind fun y2_16 =>
  (loadN 2 y2_16).bind fun y3_17 =>
  (M.ret x1).bind fun y4_18 =>
  (M.ret (s0_9.getD 1 V.undef)).bind fun y5_19 =>
  (M.lift (idxV 2 y4_18 y5_19)).bind fun y6_20 =>
  (loadN 2 y6_20).bind fun y7_21 =>
  (M.lift ((eqV (.agg [.int, .int]) false y3_17 y7_21).bind fun b => some (.bool !b))).bind fun y8_22 =>
  (condV y8_22
   ((M.ret (V.bool false)).bind fun t4_23 =>
  M.ret (Ex.ret, [t4_23, (s0_9.getD 1 V.undef)]))
   ((M.ret (s0_9.getD 1 V.undef)).bind fun t15_24 =>
  (M.lift (arithV .add t15_24 (V.int .i64 1))).bind fun t16_25 =>
  (M.ret t16_25).bind fun t5_26 =>
  M.ret (Ex.normal, [(s0_9.getD 0 V.undef), t5_26])))))
   (M.ret ((Ex.exit 0), [(s0_9.getD 0 V.undef), (s0_9.getD 1 V.undef)])))

noncomputable def ferry_ferryref08_Same (G : Nat → Option (List V)) (call : FuncId → List V → M V) (x0 : V) (x1 : V) : M R :=
  (M.ret (V.bool false)).bind fun t4_1 =>
  (M.ret x0).bind fun t6_2 =>
  (M.lift (lenV t6_2)).bind fun t7_3 =>
  (M.ret x1).bind fun t8_4 =>
  (M.lift (lenV t8_4)).bind fun t9_5 =>
  (M.lift ((eqV (.sc .int) false t7_3 t9_5).bind fun b => some (.bool !b))).bind fun t10_6 =>
  (condV t10_6
   ((M.ret (V.bool false)).bind fun t4_7 =>
  M.ret (Ex.ret, [t4_7]))
   ((M.ret (V.int .i64 0)).bind fun t5_8 =>
  (loopV (ferry_ferryref08_Same_l1 G call x0 x1) [t4_1, t5_8]).bind fun r0_27 => match r0_27.1 with
  | .normal => M.fail
  | .exit k0_28 =>
    (if k0_28 = 0 then
    (M.ret (V.bool true)).bind fun t4_29 =>
    M.ret (Ex.ret, [t4_29])
    else M.fail)
  | .ret =>
    M.ret (Ex.ret, [(r0_27.2.getD 0 V.undef)])))

theorem ferry_ferryref08_Same_eq (G : Nat → Option (List V)) (n : Nat) (x0 : V) (x1 : V) : sem (cfg G) (n + 1) 28 [x0, x1] = outV (ferry_ferryref08_Same G (sem (cfg G) n) x0 x1) :=
  (fnV_at (C := cfg G) (n := n) (f := 28) (fn := Tryd.f28) (c := Tryd.f28.body.getD .skip) (by kernel_rfl) (by kernel_rfl) (by kernel_rfl) [x0, x1]).trans (by kernel_rfl)

end Go.Fv.Tr

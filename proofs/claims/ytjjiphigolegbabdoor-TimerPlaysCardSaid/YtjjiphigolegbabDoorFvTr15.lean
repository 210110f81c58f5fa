/-
  The Go functions ferry/ferryref08.None, ferry/ferryref08.List, ferry/ferryref08.Read, ferry/ferryref08.Form, ferry/ferryref08.Check, ferry/ferryref08.Set, ferry/ferryref08.Drop, ferry/ferryref08.Find, ferry/ferryref08.Next, ferry/ferryref08.Fire, ferry/ferryref08.Shift, ferry/ferryref08.Sort, ferry/timer.Next as plain terms. By an AI agent; no person has read it.
-/
import Derived.Test.YtjjiphigolegbabDoorFvCf
set_option linter.unusedVariables false
set_option linter.unusedSimpArgs false
set_option linter.unusedSectionVars false
/-! The Go functions ferry/ferryref08.None, ferry/ferryref08.List, ferry/ferryref08.Read, ferry/ferryref08.Form, ferry/ferryref08.Check, ferry/ferryref08.Set, ferry/ferryref08.Drop, ferry/ferryref08.Find, ferry/ferryref08.Next, ferry/ferryref08.Fire, ferry/ferryref08.Shift, ferry/ferryref08.Sort, ferry/timer.Next as plain terms. -/
namespace Go.Fv.Tr
open Go Go.Fv Go.Proofs
set_option linter.unusedVariables false
set_option maxRecDepth 20000

noncomputable def ferry_ferryref08_None_l1 (G : Nat → Option (List V)) (call : FuncId → List V → M V) (t1_2 : V) (s0_4 : List V) : M R :=
  (M.ret (s0_4.getD 0 V.undef)).bind fun t3_5 =>
  (M.lift (arithV .lss t3_5 (V.int .i64 8))).bind fun t4_6 =>
  (condV t4_6
   ((M.ret (s0_4.getD 0 V.undef)).bind fun t7_7 =>
  (M.lift (aidxV 8 1 t1_2 t7_7)).bind fun t8_8 =>
  (storeN 1 t8_8 (V.int .i64 (-1))).bind fun _ =>
  (M.ret (s0_4.getD 0 V.undef)).bind fun t5_9 =>
  (M.lift (arithV .add t5_9 (V.int .i64 1))).bind fun t6_10 =>
  (M.ret t6_10).bind fun t2_11 =>
  M.ret (Ex.normal, [t2_11]))
   (M.ret ((Ex.exit 0), [(s0_4.getD 0 V.undef)])))

noncomputable def ferry_ferryref08_None (G : Nat → Option (List V)) (call : FuncId → List V → M V)  : M R :=
  (newV (.agg [(V.int .i64 0), (V.int .i64 0), (V.int .i64 0), (V.int .i64 0), (V.int .i64 0), (V.int .i64 0), (V.int .i64 0), (V.int .i64 0)])).bind fun t0_1 =>
  (newV (.agg [(V.int .i64 0), (V.int .i64 0), (V.int .i64 0), (V.int .i64 0), (V.int .i64 0), (V.int .i64 0), (V.int .i64 0), (V.int .i64 0)])).bind fun t1_2 =>
  (M.ret (V.int .i64 0)).bind fun t2_3 =>
  (loopV (ferry_ferryref08_None_l1 G call t1_2) [t2_3]).bind fun r0_12 => match r0_12.1 with
  | .normal => M.fail
  | .exit k0_13 =>
    (if k0_13 = 0 then
    (loadN 8 t1_2).bind fun t9_14 =>
    (storeN 8 t0_1 t9_14).bind fun _ =>
    (((loadN 8 t0_1)).bind fun v => (M.ret []).bind fun l => M.ret (v :: l)).bind fun l => M.ret (Ex.ret, tupV l)
    else M.fail)
  | .ret =>
    (((loadN 8 t0_1)).bind fun v => (M.ret []).bind fun l => M.ret (v :: l)).bind fun l => M.ret (Ex.ret, tupV l)

theorem ferry_ferryref08_None_eq (G : Nat → Option (List V)) (n : Nat)  : sem (cfg G) (n + 1) 91 [] = outV (ferry_ferryref08_None G (sem (cfg G) n) ) :=
  (fnV_at (C := cfg G) (n := n) (f := 91) (fn := Tryd.f91) (c := Tryd.f91.body.getD .skip) (by kernel_rfl) (by kernel_rfl) (by kernel_rfl) []).trans (by kernel_rfl)

noncomputable def ferry_ferryref08_List_j1 (G : Nat → Option (List V)) (call : FuncId → List V → M V) (s0_7 : List V) (j4_28 : V) : M R :=
  (M.ret (s0_7.getD 1 V.undef)).bind fun t8_29 =>
  (M.lift (arithV .add t8_29 (V.int .i64 1))).bind fun t9_30 =>
  (M.ret t9_30).bind fun t5_31 =>
  M.ret (Ex.normal, [j4_28, t5_31])

noncomputable def ferry_ferryref08_List_l2 (G : Nat → Option (List V)) (call : FuncId → List V → M V) (t1_1 : V) (s0_7 : List V) : M R :=
  (M.ret (s0_7.getD 1 V.undef)).bind fun t6_8 =>
  (M.lift (arithV .lss t6_8 (V.int .i64 8))).bind fun t7_9 =>
  (condV t7_9
   (((M.ret (s0_7.getD 1 V.undef)).bind fun y0_10 =>
  (M.lift (aidxV 8 1 t1_1 y0_10)).bind fun y1_11 =>
  (load1 y1_11).bind fun y2_12 =>
  (M.lift (arithV .geq y2_12 (V.int .i64 0))).bind fun y3_13 =>
  (M.ret y3_13).bind fun y4_14 =>
  (guardV y4_14 true (M.ret (s0_7.getD 0 V.undef))).bind fun y5_15 =>
  (guardV y4_14 true (M.lift (arithV .lss y5_15 (V.int .i64 0)))).bind fun y6_16 =>
  (guardV y4_14 true (M.ret y6_16)).bind fun y7_17 =>
  (guardV y7_17 false (M.ret (s0_7.getD 1 V.undef))).bind fun y8_18 =>
  (guardV y7_17 false (M.lift (aidxV 8 1 t1_1 y8_18))).bind fun y9_19 =>
  (guardV y7_17 false (load1 y9_19)).bind fun y10_20 =>
  (guardV y7_17 false (M.ret (s0_7.getD 0 V.undef))).bind fun y11_21 =>
  (guardV y7_17 false (M.lift (aidxV 8 1 t1_1 y11_21))).bind fun y12_22 =>
  (guardV y7_17 false (load1 y12_22)).bind fun y13_23 =>
  (guardV y7_17 false (M.lift (arithV .lss y10_20 y13_23))).bind fun y14_24 =>
  (guardV y4_14 true (M.lift (pickV y7_17 (V.bool true) y14_24))).bind fun y15_25 =>
  (M.lift (pickV y4_14 y15_25 (V.bool false))).bind fun y16_26 =>
  (condV y16_26
   ((M.ret (s0_7.getD 1 V.undef)).bind fun t27_32 =>
  (M.ret t27_32).bind fun t4_33 =>
  ferry_ferryref08_List_j1 G call s0_7 t4_33)
   (ferry_ferryref08_List_j1 G call s0_7 (s0_7.getD 0 V.undef)))))
   (M.ret ((Ex.exit 2), [(s0_7.getD 0 V.undef), (s0_7.getD 1 V.undef)])))

noncomputable def ferry_ferryref08_List_l1 (G : Nat → Option (List V)) (call : FuncId → List V → M V) (t1_1 : V) (s0_4 : List V) : M R :=
  (M.ret (V.int .i64 (-1))).bind fun t4_5 =>
  (M.ret (V.int .i64 0)).bind fun t5_6 =>
  (loopV (ferry_ferryref08_List_l2 G call t1_1) [t4_5, t5_6]).bind fun r0_34 => match r0_34.1 with
  | .normal => M.fail
  | .exit k0_35 =>
    (if k0_35 = 2 then
    (M.ret (r0_34.2.getD 0 V.undef)).bind fun t28_36 =>
    (M.lift (arithV .lss t28_36 (V.int .i64 0))).bind fun t29_37 =>
    (condV t29_37
     ((M.ret (s0_4.getD 1 V.undef)).bind fun t30_38 =>
    (M.ret t30_38).bind fun t2_39 =>
    M.ret (Ex.ret, [t2_39, (s0_4.getD 1 V.undef)]))
     ((M.ret (s0_4.getD 1 V.undef)).bind fun t31_40 =>
    (M.ret (r0_34.2.getD 0 V.undef)).bind fun t32_41 =>
    (M.ret (r0_34.2.getD 0 V.undef)).bind fun t33_42 =>
    (M.lift (aidxV 8 1 t1_1 t33_42)).bind fun t34_43 =>
    (load1 t34_43).bind fun t35_44 =>
    (M.lift (buildV [(V.int .i64 0), (V.int .i64 0)] [(0, 1, t32_41), (1, 1, t35_44)])).bind fun t36_45 =>
    (sliceV 2 1 [(V.int .i64 0), (V.int .i64 0)] [(0, t36_45)]).bind fun t37_46 =>
    (appV 2 16 t31_40 t37_46).bind fun t38_47 =>
    (M.ret t38_47).bind fun t3_48 =>
    (M.ret (r0_34.2.getD 0 V.undef)).bind fun t39_49 =>
    (M.lift (aidxV 8 1 t1_1 t39_49)).bind fun t40_50 =>
    (storeN 1 t40_50 (V.int .i64 (-1))).bind fun _ =>
    M.ret (Ex.normal, [(s0_4.getD 0 V.undef), t3_48])))
    else (if k0_35 = 1 then
    M.ret (Ex.normal, [(s0_4.getD 0 V.undef), (s0_4.getD 1 V.undef)])
    else M.ret ((Ex.exit k0_35), [(s0_4.getD 0 V.undef), (s0_4.getD 1 V.undef)])))
  | .ret =>
    M.ret (Ex.ret, [(s0_4.getD 0 V.undef), (s0_4.getD 1 V.undef)])

noncomputable def ferry_ferryref08_List (G : Nat → Option (List V)) (call : FuncId → List V → M V) (x0 : V) : M R :=
  (newV x0).bind fun t1_1 =>
  (M.ret V.nils).bind fun t2_2 =>
  (M.ret V.nils).bind fun t3_3 =>
  (loopV (ferry_ferryref08_List_l1 G call t1_1) [t2_2, t3_3]).bind fun r0_51 => match r0_51.1 with
  | .normal => M.fail
  | .exit k0_52 =>
    (if k0_52 = 0 then
    M.ret (Ex.ret, [(r0_51.2.getD 0 V.undef)])
    else M.fail)
  | .ret =>
    M.ret (Ex.ret, [(r0_51.2.getD 0 V.undef)])

theorem ferry_ferryref08_List_eq (G : Nat → Option (List V)) (n : Nat) (x0 : V) : sem (cfg G) (n + 1) 64 [x0] = outV (ferry_ferryref08_List G (sem (cfg G) n) x0) :=
  (fnV_at (C := cfg G) (n := n) (f := 64) (fn := Tryd.f64) (c := Tryd.f64.body.getD .skip) (by kernel_rfl) (by kernel_rfl) (by kernel_rfl) [x0]).trans (by kernel_rfl)

noncomputable def ferry_ferryref08_Read_l1 (G : Nat → Option (List V)) (call : FuncId → List V → M V) (x0 : V) (t2_1 : V) (t4_4 : V) (s0_7 : List V) : M R :=
  (M.ret (s0_7.getD 2 V.undef)).bind fun t9_8 =>
  (M.ret x0).bind fun t10_9 =>
  (M.lift (lenV t10_9)).bind fun t11_10 =>
  (M.lift (arithV .lss t9_8 t11_10)).bind fun t12_11 =>
  (condV t12_11
   ((M.ret x0).bind fun t15_12 =>
  (M.ret (s0_7.getD 2 V.undef)).bind fun t16_13 =>
  (M.lift (idxV 2 t15_12 t16_13)).bind fun t17_14 =>
  (loadN 2 t17_14).bind fun t18_15 =>
  (newV (.agg [(V.int .i64 0), (V.int .i64 0)])).bind fun t7_16 =>
  (storeN 2 t7_16 t18_15).bind fun _ =>
  (M.lift (padd 0 t7_16)).bind fun t19_17 =>
  (load1 t19_17).bind fun t20_18 =>
  (M.lift (arithV .lss t20_18 (V.int .i64 0))).bind fun t21_19 =>
  (M.ret t21_19).bind fun t22_20 =>
  (guardV t22_20 false (M.lift (padd 0 t7_16))).bind fun t23_21 =>
  (guardV t22_20 false (load1 t23_21)).bind fun t24_22 =>
  (guardV t22_20 false (M.lift (arithV .geq t24_22 (V.int .i64 8)))).bind fun t25_23 =>
  (M.lift (pickV t22_20 (V.bool true) t25_23)).bind fun t26_24 =>
  (M.ret t26_24).bind fun t27_25 =>
  (guardV t27_25 false (M.lift (padd 1 t7_16))).bind fun t28_26 =>
  (guardV t27_25 false (load1 t28_26)).bind fun t29_27 =>
  (guardV t27_25 false (M.lift (arithV .lss t29_27 (V.int .i64 0)))).bind fun t30_28 =>
  (M.lift (pickV t27_25 (V.bool true) t30_28)).bind fun t31_29 =>
  (M.ret t31_29).bind fun t32_30 =>
  (guardV t32_30 false (M.lift (padd 1 t7_16))).bind fun t33_31 =>
  (guardV t32_30 false (load1 t33_31)).bind fun t34_32 =>
  (guardV t32_30 false (M.lift (arithV .gtr t34_32 (V.int .i64 1010000)))).bind fun t35_33 =>
  (M.lift (pickV t32_30 (V.bool true) t35_33)).bind fun t36_34 =>
  (condV t36_34
   ((callV (cfg G) call 91 []).bind fun t37_35 =>
  (storeN 8 t2_1 t37_35).bind fun _ =>
  (M.ret (V.int .i64 4)).bind fun t3_36 =>
  M.ret (Ex.ret, [t3_36, (s0_7.getD 1 V.undef), (s0_7.getD 2 V.undef)]))
   ((M.ret (s0_7.getD 1 V.undef)).bind fun t38_37 =>
  (M.ret t38_37).bind fun t39_38 =>
  (guardV t39_38 false (M.lift (padd 0 t7_16))).bind fun t40_39 =>
  (guardV t39_38 false (load1 t40_39)).bind fun t41_40 =>
  (guardV t39_38 false (M.lift (aidxV 8 1 t4_4 t41_40))).bind fun t42_41 =>
  (guardV t39_38 false (load1 t42_41)).bind fun t43_42 =>
  (guardV t39_38 false (M.lift (arithV .geq t43_42 (V.int .i64 0)))).bind fun t44_43 =>
  (M.lift (pickV t39_38 (V.bool true) t44_43)).bind fun t45_44 =>
  (M.ret t45_44).bind fun t5_45 =>
  (M.lift (padd 0 t7_16)).bind fun t46_46 =>
  (load1 t46_46).bind fun t47_47 =>
  (M.lift (padd 1 t7_16)).bind fun t48_48 =>
  (load1 t48_48).bind fun t49_49 =>
  (M.lift (aidxV 8 1 t4_4 t47_47)).bind fun t50_50 =>
  (storeN 1 t50_50 t49_49).bind fun _ =>
  (M.ret (s0_7.getD 2 V.undef)).bind fun t13_51 =>
  (M.lift (arithV .add t13_51 (V.int .i64 1))).bind fun t14_52 =>
  (M.ret t14_52).bind fun t6_53 =>
  M.ret (Ex.normal, [(s0_7.getD 0 V.undef), t5_45, t6_53]))))
   (M.ret ((Ex.exit 0), [(s0_7.getD 0 V.undef), (s0_7.getD 1 V.undef), (s0_7.getD 2 V.undef)])))

noncomputable def ferry_ferryref08_Read (G : Nat → Option (List V)) (call : FuncId → List V → M V) (x0 : V) : M R :=
  (newV (.agg [(V.int .i64 0), (V.int .i64 0), (V.int .i64 0), (V.int .i64 0), (V.int .i64 0), (V.int .i64 0), (V.int .i64 0), (V.int .i64 0)])).bind fun t2_1 =>
  (M.ret (V.int .i64 0)).bind fun t3_2 =>
  (callV (cfg G) call 91 []).bind fun t8_3 =>
  (newV (.agg [(V.int .i64 0), (V.int .i64 0), (V.int .i64 0), (V.int .i64 0), (V.int .i64 0), (V.int .i64 0), (V.int .i64 0), (V.int .i64 0)])).bind fun t4_4 =>
  (storeN 8 t4_4 t8_3).bind fun _ =>
  (M.ret (V.bool false)).bind fun t5_5 =>
  (M.ret (V.int .i64 0)).bind fun t6_6 =>
  (loopV (ferry_ferryref08_Read_l1 G call x0 t2_1 t4_4) [t3_2, t5_5, t6_6]).bind fun r0_54 => match r0_54.1 with
  | .normal => M.fail
  | .exit k0_55 =>
    (if k0_55 = 0 then
    (M.ret (r0_54.2.getD 1 V.undef)).bind fun t51_56 =>
    (condV t51_56
     ((callV (cfg G) call 91 []).bind fun t52_57 =>
    (storeN 8 t2_1 t52_57).bind fun _ =>
    (M.ret (V.int .i64 12)).bind fun t3_58 =>
    (((loadN 8 t2_1)).bind fun v => ((M.ret []).bind fun l => M.ret (t3_58 :: l)).bind fun l => M.ret (v :: l)).bind fun l => M.ret (Ex.ret, tupV l))
     ((loadN 8 t4_4).bind fun t53_59 =>
    (storeN 8 t2_1 t53_59).bind fun _ =>
    (M.ret (V.int .i64 0)).bind fun t3_60 =>
    (((loadN 8 t2_1)).bind fun v => ((M.ret []).bind fun l => M.ret (t3_60 :: l)).bind fun l => M.ret (v :: l)).bind fun l => M.ret (Ex.ret, tupV l)))
    else M.fail)
  | .ret =>
    (((loadN 8 t2_1)).bind fun v => ((M.ret []).bind fun l => M.ret ((r0_54.2.getD 0 V.undef) :: l)).bind fun l => M.ret (v :: l)).bind fun l => M.ret (Ex.ret, tupV l)

theorem ferry_ferryref08_Read_eq (G : Nat → Option (List V)) (n : Nat) (x0 : V) : sem (cfg G) (n + 1) 65 [x0] = outV (ferry_ferryref08_Read G (sem (cfg G) n) x0) :=
  (fnV_at (C := cfg G) (n := n) (f := 65) (fn := Tryd.f65) (c := Tryd.f65.body.getD .skip) (by kernel_rfl) (by kernel_rfl) (by kernel_rfl) [x0]).trans (by kernel_rfl)

noncomputable def ferry_ferryref08_Form (G : Nat → Option (List V)) (call : FuncId → List V → M V) (x0 : V) : M R :=
  (newV (.agg [(V.int .i64 0), (V.int .i64 0), (V.int .i64 0), (V.int .i64 0), (V.int .i64 0), (V.int .i64 0), (V.int .i64 0), (V.int .i64 0)])).bind fun t2_1 =>
  (M.ret (V.bool false)).bind fun t3_2 =>
  (M.ret x0).bind fun t7_3 =>
  (callV (cfg G) call 65 [t7_3]).bind fun t8_4 =>
  (M.ret t8_4).bind fun t6_5 =>
  (M.lift (extractV t6_5 0)).bind fun t9_6 =>
  (M.lift (extractV t6_5 1)).bind fun t10_7 =>
  (newV (.agg [(V.int .i64 0), (V.int .i64 0), (V.int .i64 0), (V.int .i64 0), (V.int .i64 0), (V.int .i64 0), (V.int .i64 0), (V.int .i64 0)])).bind fun t4_8 =>
  (storeN 8 t4_8 t9_6).bind fun _ =>
  (M.ret t10_7).bind fun t5_9 =>
  (M.ret t5_9).bind fun t11_10 =>
  (M.lift ((eqV (.sc .int) true t11_10 (V.int .i64 0)).bind fun b => some (.bool !b))).bind fun t12_11 =>
  (condV t12_11
   ((callV (cfg G) call 91 []).bind fun t13_12 =>
  (storeN 8 t2_1 t13_12).bind fun _ =>
  (M.ret (V.bool false)).bind fun t3_13 =>
  (((loadN 8 t2_1)).bind fun v => ((M.ret []).bind fun l => M.ret (t3_13 :: l)).bind fun l => M.ret (v :: l)).bind fun l => M.ret (Ex.ret, tupV l))
   ((getN.bind fun n_14 =>
  (loadN 8 t4_8).bind fun y0_15 =>
  getN.bind fun n_16 =>
  (loadN 8 t4_8).bind fun y1_17 =>
  getN.bind fun n_18 =>
  (qrun (visB n_14 [(n_16, n_18, true), (n_14, n_16, false)]) (callV (cfg G) call 64 [y1_17])).bind fun y2_19 =>
  getN.bind fun n_20 =>
  (M.ret x0).bind fun y3_21 =>
  getN.bind fun n_22 =>
  (qrun (visB n_14 [(n_20, n_22, true), (n_18, n_20, true), (n_16, n_18, true), (n_14, n_16, false)]) (callV (cfg G) call 28 [y2_19, y3_21])).bind fun y4_23 =>
  (storeN 8 t2_1 y0_15).bind fun _ =>
  (M.ret y4_23).bind fun y6_24 =>
  (((loadN 8 t2_1)).bind fun v => ((M.ret []).bind fun l => M.ret (y6_24 :: l)).bind fun l => M.ret (v :: l)).bind fun l => M.ret (Ex.ret, tupV l))))

theorem ferry_ferryref08_Form_eq (G : Nat → Option (List V)) (n : Nat) (x0 : V) : sem (cfg G) (n + 1) 63 [x0] = outV (ferry_ferryref08_Form G (sem (cfg G) n) x0) :=
  (fnV_at (C := cfg G) (n := n) (f := 63) (fn := Tryd.f63) (c := Tryd.f63.body.getD .skip) (by kernel_rfl) (by kernel_rfl) (by kernel_rfl) [x0]).trans (by kernel_rfl)

noncomputable def ferry_ferryref08_Check_l1 (G : Nat → Option (List V)) (call : FuncId → List V → M V) (x0 : V) (x1 : V) (s0_20 : List V) : M R :=
  (M.ret (s0_20.getD 1 V.undef)).bind fun t21_21 =>
  (M.ret x0).bind fun t22_22 =>
  (M.lift (lenV t22_22)).bind fun t23_23 =>
  (M.lift (arithV .lss t21_21 t23_23)).bind fun t24_24 =>
  (condV t24_24
   ((M.ret x0).bind fun t27_25 =>
  (M.ret (s0_20.getD 1 V.undef)).bind fun t28_26 =>
  (M.lift (idxV 2 t27_25 t28_26)).bind fun t29_27 =>
  (M.lift (padd 0 t29_27)).bind fun t30_28 =>
  (load1 t30_28).bind fun t31_29 =>
  (M.ret x1).bind fun t32_30 =>
  (M.lift (arithV .geq t31_29 t32_30)).bind fun t33_31 =>
  (condV t33_31
   ((M.ret (V.int .i64 9)).bind fun t4_32 =>
  M.ret (Ex.ret, [t4_32, (s0_20.getD 1 V.undef)]))
   ((M.ret (s0_20.getD 1 V.undef)).bind fun t25_33 =>
  (M.lift (arithV .add t25_33 (V.int .i64 1))).bind fun t26_34 =>
  (M.ret t26_34).bind fun t7_35 =>
  M.ret (Ex.normal, [(s0_20.getD 0 V.undef), t7_35]))))
   (M.ret ((Ex.exit 0), [(s0_20.getD 0 V.undef), (s0_20.getD 1 V.undef)])))

noncomputable def ferry_ferryref08_Check (G : Nat → Option (List V)) (call : FuncId → List V → M V) (x0 : V) (x1 : V) : M R :=
  (M.ret (V.int .i64 0)).bind fun t4_1 =>
  (M.ret x1).bind fun t8_2 =>
  (M.lift (arithV .lss t8_2 (V.int .i64 0))).bind fun t9_3 =>
  (M.ret t9_3).bind fun t10_4 =>
  (guardV t10_4 false (M.ret x1)).bind fun t11_5 =>
  (guardV t10_4 false (M.lift (arithV .gtr t11_5 (V.int .i64 8)))).bind fun t12_6 =>
  (M.lift (pickV t10_4 (V.bool true) t12_6)).bind fun t13_7 =>
  (condV t13_7
   ((M.ret (V.int .i64 12)).bind fun t4_8 =>
  M.ret (Ex.ret, [t4_8]))
   ((M.ret x0).bind fun t15_9 =>
  (callV (cfg G) call 63 [t15_9]).bind fun t16_10 =>
  (M.ret t16_10).bind fun t14_11 =>
  (M.lift (extractV t14_11 0)).bind fun t17_12 =>
  (M.lift (extractV t14_11 1)).bind fun t18_13 =>
  (newV (.agg [(V.int .i64 0), (V.int .i64 0), (V.int .i64 0), (V.int .i64 0), (V.int .i64 0), (V.int .i64 0), (V.int .i64 0), (V.int .i64 0)])).bind fun t5_14 =>
  (storeN 8 t5_14 t17_12).bind fun _ =>
  (M.ret t18_13).bind fun t6_15 =>
  (M.ret t6_15).bind fun t19_16 =>
  (M.lift (unV .not t19_16)).bind fun t20_17 =>
  (condV t20_17
   ((M.ret (V.int .i64 9)).bind fun t4_18 =>
  M.ret (Ex.ret, [t4_18]))
   ((M.ret (V.int .i64 0)).bind fun t7_19 =>
  (loopV (ferry_ferryref08_Check_l1 G call x0 x1) [t4_1, t7_19]).bind fun r0_36 => match r0_36.1 with
  | .normal => M.fail
  | .exit k0_37 =>
    (if k0_37 = 0 then
    (M.ret (V.int .i64 0)).bind fun t4_38 =>
    M.ret (Ex.ret, [t4_38])
    else M.fail)
  | .ret =>
    M.ret (Ex.ret, [(r0_36.2.getD 0 V.undef)])))))

theorem ferry_ferryref08_Check_eq (G : Nat → Option (List V)) (n : Nat) (x0 : V) (x1 : V) : sem (cfg G) (n + 1) 101 [x0, x1] = outV (ferry_ferryref08_Check G (sem (cfg G) n) x0 x1) :=
  (fnV_at (C := cfg G) (n := n) (f := 101) (fn := Tryd.f101) (c := Tryd.f101.body.getD .skip) (by kernel_rfl) (by kernel_rfl) (by kernel_rfl) [x0, x1]).trans (by kernel_rfl)

noncomputable def ferry_ferryref08_Set (G : Nat → Option (List V)) (call : FuncId → List V → M V) (x0 : V) (x1 : V) (x2 : V) : M R :=
  (M.ret V.nils).bind fun t6_1 =>
  (M.ret (V.int .i64 0)).bind fun t7_2 =>
  (M.ret x0).bind fun t11_3 =>
  (callV (cfg G) call 63 [t11_3]).bind fun t12_4 =>
  (M.ret t12_4).bind fun t10_5 =>
  (M.lift (extractV t10_5 0)).bind fun t13_6 =>
  (M.lift (extractV t10_5 1)).bind fun t14_7 =>
  (newV (.agg [(V.int .i64 0), (V.int .i64 0), (V.int .i64 0), (V.int .i64 0), (V.int .i64 0), (V.int .i64 0), (V.int .i64 0), (V.int .i64 0)])).bind fun t8_8 =>
  (storeN 8 t8_8 t13_6).bind fun _ =>
  (M.ret t14_7).bind fun t9_9 =>
  (M.ret t9_9).bind fun t15_10 =>
  (M.lift (unV .not t15_10)).bind fun t16_11 =>
  (condV t16_11
   ((M.ret V.nils).bind fun t6_12 =>
  (M.ret (V.int .i64 9)).bind fun t7_13 =>
  M.ret (Ex.ret, [V.tuple [t6_12, t7_13]]))
   ((M.ret x1).bind fun t17_14 =>
  (M.lift (arithV .lss t17_14 (V.int .i64 0))).bind fun t18_15 =>
  (M.ret t18_15).bind fun t19_16 =>
  (guardV t19_16 false (M.ret x1)).bind fun t20_17 =>
  (guardV t19_16 false (M.lift (arithV .geq t20_17 (V.int .i64 8)))).bind fun t21_18 =>
  (M.lift (pickV t19_16 (V.bool true) t21_18)).bind fun t22_19 =>
  (M.ret t22_19).bind fun t23_20 =>
  (guardV t23_20 false (M.ret x2)).bind fun t24_21 =>
  (guardV t23_20 false (M.lift (arithV .lss t24_21 (V.int .i64 0)))).bind fun t25_22 =>
  (M.lift (pickV t23_20 (V.bool true) t25_22)).bind fun t26_23 =>
  (M.ret t26_23).bind fun t27_24 =>
  (guardV t27_24 false (M.ret x2)).bind fun t28_25 =>
  (guardV t27_24 false (M.lift (arithV .gtr t28_25 (V.int .i64 1010000)))).bind fun t29_26 =>
  (M.lift (pickV t27_24 (V.bool true) t29_26)).bind fun t30_27 =>
  (condV t30_27
   ((M.ret V.nils).bind fun t6_28 =>
  (M.ret (V.int .i64 12)).bind fun t7_29 =>
  M.ret (Ex.ret, [V.tuple [t6_28, t7_29]]))
   ((M.ret x1).bind fun t31_30 =>
  (M.ret x2).bind fun t32_31 =>
  (M.lift (aidxV 8 1 t8_8 t31_30)).bind fun t33_32 =>
  (storeN 1 t33_32 t32_31).bind fun _ =>
  (loadN 8 t8_8).bind fun t34_33 =>
  (callV (cfg G) call 64 [t34_33]).bind fun t35_34 =>
  (M.ret t35_34).bind fun t6_35 =>
  (M.ret (V.int .i64 0)).bind fun t7_36 =>
  M.ret (Ex.ret, [V.tuple [t6_35, t7_36]])))))

theorem ferry_ferryref08_Set_eq (G : Nat → Option (List V)) (n : Nat) (x0 : V) (x1 : V) (x2 : V) : sem (cfg G) (n + 1) 17 [x0, x1, x2] = outV (ferry_ferryref08_Set G (sem (cfg G) n) x0 x1 x2) :=
  (fnV_at (C := cfg G) (n := n) (f := 17) (fn := Tryd.f17) (c := Tryd.f17.body.getD .skip) (by kernel_rfl) (by kernel_rfl) (by kernel_rfl) [x0, x1, x2]).trans (by kernel_rfl)

noncomputable def ferry_ferryref08_Drop_j1 (G : Nat → Option (List V)) (call : FuncId → List V → M V) (t7_9 : V) (t9_28 : V) : M R :=
  (loadN 8 t7_9).bind fun t32_32 =>
  (callV (cfg G) call 64 [t32_32]).bind fun t33_33 =>
  (M.ret t9_28).bind fun t34_34 =>
  (M.ret t33_33).bind fun t4_35 =>
  (M.ret t34_34).bind fun t5_36 =>
  (M.ret (V.int .i64 0)).bind fun t6_37 =>
  M.ret (Ex.ret, [V.tuple [t4_35, t5_36, t6_37]])

noncomputable def ferry_ferryref08_Drop (G : Nat → Option (List V)) (call : FuncId → List V → M V) (x0 : V) (x1 : V) : M R :=
  (M.ret V.nils).bind fun t4_1 =>
  (M.ret (V.bool false)).bind fun t5_2 =>
  (M.ret (V.int .i64 0)).bind fun t6_3 =>
  (M.ret x0).bind fun t11_4 =>
  (callV (cfg G) call 63 [t11_4]).bind fun t12_5 =>
  (M.ret t12_5).bind fun t10_6 =>
  (M.lift (extractV t10_6 0)).bind fun t13_7 =>
  (M.lift (extractV t10_6 1)).bind fun t14_8 =>
  (newV (.agg [(V.int .i64 0), (V.int .i64 0), (V.int .i64 0), (V.int .i64 0), (V.int .i64 0), (V.int .i64 0), (V.int .i64 0), (V.int .i64 0)])).bind fun t7_9 =>
  (storeN 8 t7_9 t13_7).bind fun _ =>
  (M.ret t14_8).bind fun t8_10 =>
  (M.ret t8_10).bind fun t15_11 =>
  (M.lift (unV .not t15_11)).bind fun t16_12 =>
  (condV t16_12
   ((M.ret V.nils).bind fun t4_13 =>
  (M.ret (V.bool false)).bind fun t5_14 =>
  (M.ret (V.int .i64 9)).bind fun t6_15 =>
  M.ret (Ex.ret, [V.tuple [t4_13, t5_14, t6_15]]))
   ((M.ret x1).bind fun t17_16 =>
  (M.lift (arithV .geq t17_16 (V.int .i64 0))).bind fun t18_17 =>
  (M.ret t18_17).bind fun t19_18 =>
  (guardV t19_18 true (M.ret x1)).bind fun t20_19 =>
  (guardV t19_18 true (M.lift (arithV .lss t20_19 (V.int .i64 8)))).bind fun t21_20 =>
  (M.lift (pickV t19_18 t21_20 (V.bool false))).bind fun t22_21 =>
  (M.ret t22_21).bind fun t23_22 =>
  (guardV t23_22 true (M.ret x1)).bind fun t24_23 =>
  (guardV t23_22 true (M.lift (aidxV 8 1 t7_9 t24_23))).bind fun t25_24 =>
  (guardV t23_22 true (load1 t25_24)).bind fun t26_25 =>
  (guardV t23_22 true (M.lift (arithV .geq t26_25 (V.int .i64 0)))).bind fun t27_26 =>
  (M.lift (pickV t23_22 t27_26 (V.bool false))).bind fun t28_27 =>
  (M.ret t28_27).bind fun t9_28 =>
  (M.ret t9_28).bind fun t29_29 =>
  (condV t29_29
   ((M.ret x1).bind fun t30_38 =>
  (M.lift (aidxV 8 1 t7_9 t30_38)).bind fun t31_39 =>
  (storeN 1 t31_39 (V.int .i64 (-1))).bind fun _ =>
  ferry_ferryref08_Drop_j1 G call t7_9 t9_28)
   (ferry_ferryref08_Drop_j1 G call t7_9 t9_28))))

theorem ferry_ferryref08_Drop_eq (G : Nat → Option (List V)) (n : Nat) (x0 : V) (x1 : V) : sem (cfg G) (n + 1) 18 [x0, x1] = outV (ferry_ferryref08_Drop G (sem (cfg G) n) x0 x1) :=
  (fnV_at (C := cfg G) (n := n) (f := 18) (fn := Tryd.f18) (c := Tryd.f18.body.getD .skip) (by kernel_rfl) (by kernel_rfl) (by kernel_rfl) [x0, x1]).trans (by kernel_rfl)

noncomputable def ferry_ferryref08_Find_l1 (G : Nat → Option (List V)) (call : FuncId → List V → M V) (x0 : V) (x1 : V) (s0_4 : List V) : M R :=
  (M.ret (s0_4.getD 2 V.undef)).bind fun t7_5 =>
  (M.ret x0).bind fun t8_6 =>
  (M.lift (lenV t8_6)).bind fun t9_7 =>
  (M.lift (arithV .lss t7_5 t9_7)).bind fun t10_8 =>
  (condV t10_8
   ((M.ret x0).bind fun t13_9 =>
  (M.ret (s0_4.getD 2 V.undef)).bind fun t14_10 =>
  (M.lift (idxV 2 t13_9 t14_10)).bind fun t15_11 =>
  (M.lift (padd 0 t15_11)).bind fun t16_12 =>
  (load1 t16_12).bind fun t17_13 =>
  (M.ret x1).bind fun t18_14 =>
  (M.lift ((eqV (.sc .int) false t17_13 t18_14).bind fun b => some (.bool b))).bind fun t19_15 =>
  (condV t19_15
   ((M.ret x0).bind fun t20_16 =>
  (M.ret (s0_4.getD 2 V.undef)).bind fun t21_17 =>
  (M.lift (idxV 2 t20_16 t21_17)).bind fun t22_18 =>
  (M.lift (padd 1 t22_18)).bind fun t23_19 =>
  (load1 t23_19).bind fun t24_20 =>
  (M.ret t24_20).bind fun t4_21 =>
  (M.ret (V.bool true)).bind fun t5_22 =>
  M.ret (Ex.ret, [t4_21, t5_22, (s0_4.getD 2 V.undef)]))
   ((M.ret (s0_4.getD 2 V.undef)).bind fun t11_23 =>
  (M.lift (arithV .add t11_23 (V.int .i64 1))).bind fun t12_24 =>
  (M.ret t12_24).bind fun t6_25 =>
  M.ret (Ex.normal, [(s0_4.getD 0 V.undef), (s0_4.getD 1 V.undef), t6_25]))))
   (M.ret ((Ex.exit 0), [(s0_4.getD 0 V.undef), (s0_4.getD 1 V.undef), (s0_4.getD 2 V.undef)])))

noncomputable def ferry_ferryref08_Find (G : Nat → Option (List V)) (call : FuncId → List V → M V) (x0 : V) (x1 : V) : M R :=
  (M.ret (V.int .i64 0)).bind fun t4_1 =>
  (M.ret (V.bool false)).bind fun t5_2 =>
  (M.ret (V.int .i64 0)).bind fun t6_3 =>
  (loopV (ferry_ferryref08_Find_l1 G call x0 x1) [t4_1, t5_2, t6_3]).bind fun r0_26 => match r0_26.1 with
  | .normal => M.fail
  | .exit k0_27 =>
    (if k0_27 = 0 then
    (M.ret (V.int .i64 0)).bind fun t4_28 =>
    (M.ret (V.bool false)).bind fun t5_29 =>
    M.ret (Ex.ret, [V.tuple [t4_28, t5_29]])
    else M.fail)
  | .ret =>
    M.ret (Ex.ret, [V.tuple [(r0_26.2.getD 0 V.undef), (r0_26.2.getD 1 V.undef)]])

theorem ferry_ferryref08_Find_eq (G : Nat → Option (List V)) (n : Nat) (x0 : V) (x1 : V) : sem (cfg G) (n + 1) 102 [x0, x1] = outV (ferry_ferryref08_Find G (sem (cfg G) n) x0 x1) :=
  (fnV_at (C := cfg G) (n := n) (f := 102) (fn := Tryd.f102) (c := Tryd.f102.body.getD .skip) (by kernel_rfl) (by kernel_rfl) (by kernel_rfl) [x0, x1]).trans (by kernel_rfl)

noncomputable def ferry_ferryref08_Next_j1 (G : Nat → Option (List V)) (call : FuncId → List V → M V) (s0_6 : List V) (j4_27 : V) : M R :=
  (M.ret (V.bool true)).bind fun t5_28 =>
  (M.ret (s0_6.getD 2 V.undef)).bind fun t11_29 =>
  (M.lift (arithV .add t11_29 (V.int .i64 1))).bind fun t12_30 =>
  (M.ret t12_30).bind fun t6_31 =>
  M.ret (Ex.normal, [j4_27, t5_28, t6_31])

noncomputable def ferry_ferryref08_Next_l1 (G : Nat → Option (List V)) (call : FuncId → List V → M V) (x0 : V) (s0_6 : List V) : M R :=
  (M.ret (s0_6.getD 2 V.undef)).bind fun t7_7 =>
  (M.ret x0).bind fun t8_8 =>
  (M.lift (lenV t8_8)).bind fun t9_9 =>
  (M.lift (arithV .lss t7_7 t9_9)).bind fun t10_10 =>
  (condV t10_10
   ((M.ret (s0_6.getD 1 V.undef)).bind fun t13_11 =>
  (M.lift (unV .not t13_11)).bind fun t14_12 =>
  (M.ret t14_12).bind fun t15_13 =>
  (guardV t15_13 false (M.ret x0)).bind fun t16_14 =>
  (guardV t15_13 false (M.ret (s0_6.getD 2 V.undef))).bind fun t17_15 =>
  (guardV t15_13 false (M.lift (idxV 2 t16_14 t17_15))).bind fun t18_16 =>
  (guardV t15_13 false (M.lift (padd 1 t18_16))).bind fun t19_17 =>
  (guardV t15_13 false (load1 t19_17)).bind fun t20_18 =>
  (guardV t15_13 false (M.ret (s0_6.getD 0 V.undef))).bind fun t21_19 =>
  (guardV t15_13 false (M.lift (arithV .lss t20_18 t21_19))).bind fun t22_20 =>
  (M.lift (pickV t15_13 (V.bool true) t22_20)).bind fun t23_21 =>
  (condV t23_21
   ((M.ret x0).bind fun t24_32 =>
  (M.ret (s0_6.getD 2 V.undef)).bind fun t25_33 =>
  (M.lift (idxV 2 t24_32 t25_33)).bind fun t26_34 =>
  (M.lift (padd 1 t26_34)).bind fun t27_35 =>
  (load1 t27_35).bind fun t28_36 =>
  (M.ret t28_36).bind fun t4_37 =>
  ferry_ferryref08_Next_j1 G call s0_6 t4_37)
   (ferry_ferryref08_Next_j1 G call s0_6 (s0_6.getD 0 V.undef))))
   (M.ret ((Ex.exit 0), [(s0_6.getD 0 V.undef), (s0_6.getD 1 V.undef), (s0_6.getD 2 V.undef)])))

noncomputable def ferry_ferryref08_Next (G : Nat → Option (List V)) (call : FuncId → List V → M V) (x0 : V) : M R :=
  (M.ret (V.int .i64 0)).bind fun t2_1 =>
  (M.ret (V.bool false)).bind fun t3_2 =>
  (M.ret (V.int .i64 0)).bind fun t4_3 =>
  (M.ret (V.bool false)).bind fun t5_4 =>
  (M.ret (V.int .i64 0)).bind fun t6_5 =>
  (loopV (ferry_ferryref08_Next_l1 G call x0) [t4_3, t5_4, t6_5]).bind fun r0_38 => match r0_38.1 with
  | .normal => M.fail
  | .exit k0_39 =>
    (if k0_39 = 0 then
    (M.ret (r0_38.2.getD 0 V.undef)).bind fun t29_40 =>
    (M.ret (r0_38.2.getD 1 V.undef)).bind fun t30_41 =>
    (M.ret t29_40).bind fun t2_42 =>
    (M.ret t30_41).bind fun t3_43 =>
    M.ret (Ex.ret, [V.tuple [t2_42, t3_43]])
    else M.fail)
  | .ret =>
    M.ret (Ex.ret, [V.tuple [t2_1, t3_2]])

theorem ferry_ferryref08_Next_eq (G : Nat → Option (List V)) (n : Nat) (x0 : V) : sem (cfg G) (n + 1) 103 [x0] = outV (ferry_ferryref08_Next G (sem (cfg G) n) x0) :=
  (fnV_at (C := cfg G) (n := n) (f := 103) (fn := Tryd.f103) (c := Tryd.f103.body.getD .skip) (by kernel_rfl) (by kernel_rfl) (by kernel_rfl) [x0]).trans (by kernel_rfl)

noncomputable def ferry_ferryref08_Fire_j1 (G : Nat → Option (List V)) (call : FuncId → List V → M V) (s0_19 : List V) (j9_39 : V) (j10_47 : V) : M R :=
  (M.ret (s0_19.getD 2 V.undef)).bind fun t23_48 =>
  (M.lift (arithV .add t23_48 (V.int .i64 1))).bind fun t24_49 =>
  (M.ret t24_49).bind fun t11_50 =>
  M.ret (Ex.normal, [j9_39, j10_47, t11_50])

noncomputable def ferry_ferryref08_Fire_l1 (G : Nat → Option (List V)) (call : FuncId → List V → M V) (x0 : V) (x1 : V) (s0_19 : List V) : M R :=
  (M.ret (s0_19.getD 2 V.undef)).bind fun t19_20 =>
  (M.ret x0).bind fun t20_21 =>
  (M.lift (lenV t20_21)).bind fun t21_22 =>
  (M.lift (arithV .lss t19_20 t21_22)).bind fun t22_23 =>
  (condV t22_23
   ((M.ret x0).bind fun t25_24 =>
  (M.ret (s0_19.getD 2 V.undef)).bind fun t26_25 =>
  (M.lift (idxV 2 t25_24 t26_25)).bind fun t27_26 =>
  (M.lift (padd 1 t27_26)).bind fun t28_27 =>
  (load1 t28_27).bind fun t29_28 =>
  (M.ret x1).bind fun t30_29 =>
  (M.lift (arithV .leq t29_28 t30_29)).bind fun t31_30 =>
  (condV t31_30
   ((M.ret (s0_19.getD 0 V.undef)).bind fun t32_51 =>
  (M.ret x0).bind fun t33_52 =>
  (M.ret (s0_19.getD 2 V.undef)).bind fun t34_53 =>
  (M.lift (idxV 2 t33_52 t34_53)).bind fun t35_54 =>
  (M.lift (padd 0 t35_54)).bind fun t36_55 =>
  (load1 t36_55).bind fun t37_56 =>
  (sliceV 1 1 [(V.int .i64 0)] [(0, t37_56)]).bind fun t38_57 =>
  (appV 1 8 t32_51 t38_57).bind fun t39_58 =>
  (M.ret t39_58).bind fun t9_59 =>
  ferry_ferryref08_Fire_j1 G call s0_19 t9_59 (s0_19.getD 1 V.undef))
   ((M.ret (s0_19.getD 1 V.undef)).bind fun t40_60 =>
  (M.ret x0).bind fun t41_61 =>
  (M.ret (s0_19.getD 2 V.undef)).bind fun t42_62 =>
  (M.lift (idxV 2 t41_61 t42_62)).bind fun t43_63 =>
  (loadN 2 t43_63).bind fun t44_64 =>
  (sliceV 2 1 [(V.int .i64 0), (V.int .i64 0)] [(0, t44_64)]).bind fun t45_65 =>
  (appV 2 16 t40_60 t45_65).bind fun t46_66 =>
  (M.ret t46_66).bind fun t10_67 =>
  ferry_ferryref08_Fire_j1 G call s0_19 (s0_19.getD 0 V.undef) t10_67)))
   (M.ret ((Ex.exit 0), [(s0_19.getD 0 V.undef), (s0_19.getD 1 V.undef), (s0_19.getD 2 V.undef)])))

noncomputable def ferry_ferryref08_Fire (G : Nat → Option (List V)) (call : FuncId → List V → M V) (x0 : V) (x1 : V) : M R :=
  (M.ret V.nils).bind fun t4_1 =>
  (M.ret V.nils).bind fun t5_2 =>
  (M.ret (V.int .i64 0)).bind fun t6_3 =>
  (M.ret x0).bind fun t13_4 =>
  (callV (cfg G) call 63 [t13_4]).bind fun t14_5 =>
  (M.ret t14_5).bind fun t12_6 =>
  (M.lift (extractV t12_6 0)).bind fun t15_7 =>
  (M.lift (extractV t12_6 1)).bind fun t16_8 =>
  (newV (.agg [(V.int .i64 0), (V.int .i64 0), (V.int .i64 0), (V.int .i64 0), (V.int .i64 0), (V.int .i64 0), (V.int .i64 0), (V.int .i64 0)])).bind fun t7_9 =>
  (storeN 8 t7_9 t15_7).bind fun _ =>
  (M.ret t16_8).bind fun t8_10 =>
  (M.ret t8_10).bind fun t17_11 =>
  (M.lift (unV .not t17_11)).bind fun t18_12 =>
  (condV t18_12
   ((M.ret V.nils).bind fun t4_13 =>
  (M.ret V.nils).bind fun t5_14 =>
  (M.ret (V.int .i64 9)).bind fun t6_15 =>
  M.ret (Ex.ret, [V.tuple [t4_13, t5_14, t6_15]]))
   ((M.ret V.nils).bind fun t9_16 =>
  (M.ret V.nils).bind fun t10_17 =>
  (M.ret (V.int .i64 0)).bind fun t11_18 =>
  (loopV (ferry_ferryref08_Fire_l1 G call x0 x1) [t9_16, t10_17, t11_18]).bind fun r0_68 => match r0_68.1 with
  | .normal => M.fail
  | .exit k0_69 =>
    (if k0_69 = 0 then
    (M.ret (r0_68.2.getD 0 V.undef)).bind fun t47_70 =>
    (M.ret (r0_68.2.getD 1 V.undef)).bind fun t48_71 =>
    (M.ret t47_70).bind fun t4_72 =>
    (M.ret t48_71).bind fun t5_73 =>
    (M.ret (V.int .i64 0)).bind fun t6_74 =>
    M.ret (Ex.ret, [V.tuple [t4_72, t5_73, t6_74]])
    else M.fail)
  | .ret =>
    M.ret (Ex.ret, [V.tuple [t4_1, t5_2, t6_3]])))

theorem ferry_ferryref08_Fire_eq (G : Nat → Option (List V)) (n : Nat) (x0 : V) (x1 : V) : sem (cfg G) (n + 1) 19 [x0, x1] = outV (ferry_ferryref08_Fire G (sem (cfg G) n) x0 x1) :=
  (fnV_at (C := cfg G) (n := n) (f := 19) (fn := Tryd.f19) (c := Tryd.f19.body.getD .skip) (by kernel_rfl) (by kernel_rfl) (by kernel_rfl) [x0, x1]).trans (by kernel_rfl)

noncomputable def ferry_ferryref08_Shift_j1 (G : Nat → Option (List V)) (call : FuncId → List V → M V) (s0_23 : List V) : M R :=
  (M.ret (s0_23.getD 0 V.undef)).bind fun t24_38 =>
  (M.lift (arithV .add t24_38 (V.int .i64 1))).bind fun t25_39 =>
  (M.ret t25_39).bind fun t8_40 =>
  M.ret (Ex.normal, [t8_40])

noncomputable def ferry_ferryref08_Shift_l1 (G : Nat → Option (List V)) (call : FuncId → List V → M V) (t6_8 : V) (x1 : V) (s0_23 : List V) : M R :=
  (M.ret (s0_23.getD 0 V.undef)).bind fun t22_24 =>
  (M.lift (arithV .lss t22_24 (V.int .i64 8))).bind fun t23_25 =>
  (condV t23_25
   ((M.ret (s0_23.getD 0 V.undef)).bind fun t26_26 =>
  (M.lift (aidxV 8 1 t6_8 t26_26)).bind fun t27_27 =>
  (load1 t27_27).bind fun t28_28 =>
  (M.lift (arithV .geq t28_28 (V.int .i64 0))).bind fun t29_29 =>
  (condV t29_29
   ((M.ret (s0_23.getD 0 V.undef)).bind fun t30_41 =>
  (M.ret (s0_23.getD 0 V.undef)).bind fun t31_42 =>
  (M.lift (aidxV 8 1 t6_8 t31_42)).bind fun t32_43 =>
  (load1 t32_43).bind fun t33_44 =>
  (M.ret x1).bind fun t34_45 =>
  (M.lift (arithV .sub t33_44 t34_45)).bind fun t35_46 =>
  (M.lift (maxV t35_46 (V.int .i64 0))).bind fun t36_47 =>
  (M.lift (aidxV 8 1 t6_8 t30_41)).bind fun t37_48 =>
  (storeN 1 t37_48 t36_47).bind fun _ =>
  ferry_ferryref08_Shift_j1 G call s0_23)
   (ferry_ferryref08_Shift_j1 G call s0_23)))
   (M.ret ((Ex.exit 0), [(s0_23.getD 0 V.undef)])))

noncomputable def ferry_ferryref08_Shift (G : Nat → Option (List V)) (call : FuncId → List V → M V) (x0 : V) (x1 : V) : M R :=
  (M.ret V.nils).bind fun t4_1 =>
  (M.ret (V.int .i64 0)).bind fun t5_2 =>
  (M.ret x0).bind fun t10_3 =>
  (callV (cfg G) call 63 [t10_3]).bind fun t11_4 =>
  (M.ret t11_4).bind fun t9_5 =>
  (M.lift (extractV t9_5 0)).bind fun t12_6 =>
  (M.lift (extractV t9_5 1)).bind fun t13_7 =>
  (newV (.agg [(V.int .i64 0), (V.int .i64 0), (V.int .i64 0), (V.int .i64 0), (V.int .i64 0), (V.int .i64 0), (V.int .i64 0), (V.int .i64 0)])).bind fun t6_8 =>
  (storeN 8 t6_8 t12_6).bind fun _ =>
  (M.ret t13_7).bind fun t7_9 =>
  (M.ret t7_9).bind fun t14_10 =>
  (M.lift (unV .not t14_10)).bind fun t15_11 =>
  (condV t15_11
   ((M.ret V.nils).bind fun t4_12 =>
  (M.ret (V.int .i64 9)).bind fun t5_13 =>
  M.ret (Ex.ret, [V.tuple [t4_12, t5_13]]))
   ((M.ret x1).bind fun t16_14 =>
  (M.lift (arithV .lss t16_14 (V.int .i64 1))).bind fun t17_15 =>
  (M.ret t17_15).bind fun t18_16 =>
  (guardV t18_16 false (M.ret x1)).bind fun t19_17 =>
  (guardV t18_16 false (M.lift (arithV .gtr t19_17 (V.int .i64 10000)))).bind fun t20_18 =>
  (M.lift (pickV t18_16 (V.bool true) t20_18)).bind fun t21_19 =>
  (condV t21_19
   ((M.ret V.nils).bind fun t4_20 =>
  (M.ret (V.int .i64 12)).bind fun t5_21 =>
  M.ret (Ex.ret, [V.tuple [t4_20, t5_21]]))
   ((M.ret (V.int .i64 0)).bind fun t8_22 =>
  (loopV (ferry_ferryref08_Shift_l1 G call t6_8 x1) [t8_22]).bind fun r0_49 => match r0_49.1 with
  | .normal => M.fail
  | .exit k0_50 =>
    (if k0_50 = 0 then
    (loadN 8 t6_8).bind fun t38_51 =>
    (callV (cfg G) call 64 [t38_51]).bind fun t39_52 =>
    (M.ret t39_52).bind fun t4_53 =>
    (M.ret (V.int .i64 0)).bind fun t5_54 =>
    M.ret (Ex.ret, [V.tuple [t4_53, t5_54]])
    else M.fail)
  | .ret =>
    M.ret (Ex.ret, [V.tuple [t4_1, t5_2]])))))

theorem ferry_ferryref08_Shift_eq (G : Nat → Option (List V)) (n : Nat) (x0 : V) (x1 : V) : sem (cfg G) (n + 1) 20 [x0, x1] = outV (ferry_ferryref08_Shift G (sem (cfg G) n) x0 x1) :=
  (fnV_at (C := cfg G) (n := n) (f := 20) (fn := Tryd.f20) (c := Tryd.f20.body.getD .skip) (by kernel_rfl) (by kernel_rfl) (by kernel_rfl) [x0, x1]).trans (by kernel_rfl)

noncomputable def ferry_ferryref08_Sort (G : Nat → Option (List V)) (call : FuncId → List V → M V) (x0 : V) : M R :=
  (M.ret V.nils).bind fun t2_1 =>
  (M.ret (V.int .i64 0)).bind fun t3_2 =>
  (M.ret x0).bind fun t7_3 =>
  (callV (cfg G) call 65 [t7_3]).bind fun t8_4 =>
  (M.ret t8_4).bind fun t6_5 =>
  (M.lift (extractV t6_5 0)).bind fun t9_6 =>
  (M.lift (extractV t6_5 1)).bind fun t10_7 =>
  (newV (.agg [(V.int .i64 0), (V.int .i64 0), (V.int .i64 0), (V.int .i64 0), (V.int .i64 0), (V.int .i64 0), (V.int .i64 0), (V.int .i64 0)])).bind fun t4_8 =>
  (storeN 8 t4_8 t9_6).bind fun _ =>
  (M.ret t10_7).bind fun t5_9 =>
  (M.ret t5_9).bind fun t11_10 =>
  (M.lift ((eqV (.sc .int) true t11_10 (V.int .i64 0)).bind fun b => some (.bool !b))).bind fun t12_11 =>
  (condV t12_11
   ((M.ret t5_9).bind fun t13_12 =>
  (M.ret V.nils).bind fun t2_13 =>
  (M.ret t13_12).bind fun t3_14 =>
  M.ret (Ex.ret, [V.tuple [t2_13, t3_14]]))
   ((loadN 8 t4_8).bind fun t14_15 =>
  (callV (cfg G) call 64 [t14_15]).bind fun t15_16 =>
  (M.ret t15_16).bind fun t2_17 =>
  (M.ret (V.int .i64 0)).bind fun t3_18 =>
  M.ret (Ex.ret, [V.tuple [t2_17, t3_18]])))

theorem ferry_ferryref08_Sort_eq (G : Nat → Option (List V)) (n : Nat) (x0 : V) : sem (cfg G) (n + 1) 21 [x0] = outV (ferry_ferryref08_Sort G (sem (cfg G) n) x0) :=
  (fnV_at (C := cfg G) (n := n) (f := 21) (fn := Tryd.f21) (c := Tryd.f21.body.getD .skip) (by kernel_rfl) (by kernel_rfl) (by kernel_rfl) [x0]).trans (by kernel_rfl)

noncomputable def ferry_timer_Next_l1 (G : Nat → Option (List V)) (call : FuncId → List V → M V) (t15_14 : V) (t14_13 : V) (s0_16 : List V) : M R :=
  (M.lift (arithV .lss (s0_16.getD 1 V.undef) t15_14)).bind fun t17_17 =>
  (condV t17_17
   ((M.lift (idxV 2 t14_13 (s0_16.getD 1 V.undef))).bind fun t18_18 =>
  (loadN 2 t18_18).bind fun t19_19 =>
  (newV (.agg [(V.int .i64 0), (V.int .i64 0)])).bind fun t6_20 =>
  (storeN 2 t6_20 t19_19).bind fun _ =>
  (M.ret (s0_16.getD 0 V.undef)).bind fun t20_21 =>
  (M.lift (padd 1 t6_20)).bind fun t21_22 =>
  (load1 t21_22).bind fun t22_23 =>
  (M.lift (minV t20_21 t22_23)).bind fun t23_24 =>
  (M.ret t23_24).bind fun t4_25 =>
  (M.lift (arithV .add (s0_16.getD 1 V.undef) (V.int .i64 1))).bind fun t24_26 =>
  (M.ret t24_26).bind fun t16_27 =>
  M.ret (Ex.normal, [t4_25, t16_27]))
   (M.ret ((Ex.exit 0), [(s0_16.getD 0 V.undef), (s0_16.getD 1 V.undef)])))

noncomputable def ferry_timer_Next (G : Nat → Option (List V)) (call : FuncId → List V → M V) (x0 : V) : M R :=
  (M.ret (V.int .i64 0)).bind fun t2_1 =>
  (M.ret (V.bool false)).bind fun t3_2 =>
  (M.ret x0).bind fun t7_3 =>
  (M.lift (lenV t7_3)).bind fun t8_4 =>
  (M.lift ((eqV (.sc .int) true t8_4 (V.int .i64 0)).bind fun b => some (.bool b))).bind fun t9_5 =>
  (condV t9_5
   ((M.ret (V.int .i64 0)).bind fun t2_6 =>
  (M.ret (V.bool false)).bind fun t3_7 =>
  M.ret (Ex.ret, [V.tuple [t2_6, t3_7]]))
   ((M.ret x0).bind fun t10_8 =>
  (M.lift (idxV 2 t10_8 (V.int .i64 0))).bind fun t11_9 =>
  (M.lift (padd 1 t11_9)).bind fun t12_10 =>
  (load1 t12_10).bind fun t13_11 =>
  (M.ret t13_11).bind fun t4_12 =>
  (M.ret x0).bind fun t14_13 =>
  (M.lift (lenV t14_13)).bind fun t15_14 =>
  (M.ret (V.int .i64 0)).bind fun t16_15 =>
  (loopV (ferry_timer_Next_l1 G call t15_14 t14_13) [t4_12, t16_15]).bind fun r0_28 => match r0_28.1 with
  | .normal => M.fail
  | .exit k0_29 =>
    (if k0_29 = 0 then
    (M.ret (r0_28.2.getD 0 V.undef)).bind fun t25_30 =>
    (M.ret t25_30).bind fun t2_31 =>
    (M.ret (V.bool true)).bind fun t3_32 =>
    M.ret (Ex.ret, [V.tuple [t2_31, t3_32]])
    else M.fail)
  | .ret =>
    M.ret (Ex.ret, [V.tuple [t2_1, t3_2]])))

theorem ferry_timer_Next_eq (G : Nat → Option (List V)) (n : Nat) (x0 : V) : sem (cfg G) (n + 1) 104 [x0] = outV (ferry_timer_Next G (sem (cfg G) n) x0) :=
  (fnV_at (C := cfg G) (n := n) (f := 104) (fn := Tryd.f104) (c := Tryd.f104.body.getD .skip) (by kernel_rfl) (by kernel_rfl) (by kernel_rfl) [x0]).trans (by kernel_rfl)

end Go.Fv.Tr

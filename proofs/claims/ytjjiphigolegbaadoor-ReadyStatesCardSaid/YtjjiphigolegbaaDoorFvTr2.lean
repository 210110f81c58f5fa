/-
  The Go functions slices.Clone[ferry/api.Proc,ferry/api.Proc], slices.Clone[int,int], slices.Clone[ferry/api.Timer,ferry/api.Timer], (ferry/ready.Table).copied, slices.Index[int,int], slices.Contains[int,int], ferry/ready.in, slices.IndexFunc[int,int], slices.DeleteFunc[int,int], (*ferry/ready.Table).leave$1, (*ferry/ready.Table).leave, ferry/ready.Yield, slices.IndexFunc[ferry/api.Timer,ferry/api.Timer], slices.DeleteFunc[ferry/api.Timer,ferry/api.Timer], (*ferry/ready.Table).wake$1, ferry/timer.without$1 as plain terms. By an AI agent; no person has read it.
-/
import Derived.Test.YtjjiphigolegbaaDoorFvCf
import Derived.Test.YtjjiphigolegbaaDoorFvW4
set_option linter.unusedVariables false
set_option linter.unusedSimpArgs false
set_option linter.unusedSectionVars false
/-! The Go functions slices.Clone[ferry/api.Proc,ferry/api.Proc], slices.Clone[int,int], slices.Clone[ferry/api.Timer,ferry/api.Timer], (ferry/ready.Table).copied, slices.Index[int,int], slices.Contains[int,int], ferry/ready.in, slices.IndexFunc[int,int], slices.DeleteFunc[int,int], (*ferry/ready.Table).leave$1, (*ferry/ready.Table).leave, ferry/ready.Yield, slices.IndexFunc[ferry/api.Timer,ferry/api.Timer], slices.DeleteFunc[ferry/api.Timer,ferry/api.Timer], (*ferry/ready.Table).wake$1, ferry/timer.without$1 as plain terms. -/
namespace Go.Fv.Tr
open Go Go.Fv Go.Proofs
set_option linter.unusedVariables false
set_option maxRecDepth 20000

noncomputable def slices_Clone_ferry_api_Proc_ferry_api_Proc (G : Nat → Option (List V)) (call : FuncId → List V → M V) (x0 : V) : M R :=
  (M.ret V.nils).bind fun t2_1 =>
  (M.ret x0).bind fun t3_2 =>
  (M.lift ((eqV .slice true t3_2 V.nils).bind fun b => some (.bool b))).bind fun t4_3 =>
  (condV t4_3
   ((M.ret V.nils).bind fun t2_4 =>
  M.ret (Ex.ret, [t2_4]))
   ((sliceV 21 0 [(V.int .u32 0), (V.int .u32 0), (V.int .u32 0), (V.int .u32 0), (V.int .u32 0), (V.int .u32 0), (V.int .u32 0), (V.int .u32 0), (V.int .u32 0), (V.int .u32 0), (V.int .u32 0), (V.int .u32 0), (V.int .u32 0), (V.int .u32 0), (V.int .u32 0), (V.int .u32 0), (V.int .u32 0), (V.int .i64 0), (V.int .i64 0), (V.int .i64 0), (V.int .i64 0)] []).bind fun t5_5 =>
  (M.ret x0).bind fun t6_6 =>
  (appV 21 104 t5_5 t6_6).bind fun t7_7 =>
  (M.ret t7_7).bind fun t2_8 =>
  M.ret (Ex.ret, [t2_8])))

theorem slices_Clone_ferry_api_Proc_ferry_api_Proc_eq (G : Nat → Option (List V)) (n : Nat) (x0 : V) : sem (cfg G) (n + 1) 72 [x0] = outV (slices_Clone_ferry_api_Proc_ferry_api_Proc G (sem (cfg G) n) x0) :=
  (fnV_at (C := cfg G) (n := n) (f := 72) (fn := Tryd.f72) (c := Tryd.f72.body.getD .skip) (by kernel_rfl) (by kernel_rfl) (by kernel_rfl) [x0]).trans (by kernel_rfl)

noncomputable def slices_Clone_int_int (G : Nat → Option (List V)) (call : FuncId → List V → M V) (x0 : V) : M R :=
  (M.ret V.nils).bind fun t2_1 =>
  (M.ret x0).bind fun t3_2 =>
  (M.lift ((eqV .slice true t3_2 V.nils).bind fun b => some (.bool b))).bind fun t4_3 =>
  (condV t4_3
   ((M.ret V.nils).bind fun t2_4 =>
  M.ret (Ex.ret, [t2_4]))
   ((sliceV 1 0 [(V.int .i64 0)] []).bind fun t5_5 =>
  (M.ret x0).bind fun t6_6 =>
  (appV 1 8 t5_5 t6_6).bind fun t7_7 =>
  (M.ret t7_7).bind fun t2_8 =>
  M.ret (Ex.ret, [t2_8])))

theorem slices_Clone_int_int_eq (G : Nat → Option (List V)) (n : Nat) (x0 : V) : sem (cfg G) (n + 1) 73 [x0] = outV (slices_Clone_int_int G (sem (cfg G) n) x0) :=
  (fnV_at (C := cfg G) (n := n) (f := 73) (fn := Tryd.f73) (c := Tryd.f73.body.getD .skip) (by kernel_rfl) (by kernel_rfl) (by kernel_rfl) [x0]).trans (by kernel_rfl)

noncomputable def slices_Clone_ferry_api_Timer_ferry_api_Timer (G : Nat → Option (List V)) (call : FuncId → List V → M V) (x0 : V) : M R :=
  (M.ret V.nils).bind fun t2_1 =>
  (M.ret x0).bind fun t3_2 =>
  (M.lift ((eqV .slice true t3_2 V.nils).bind fun b => some (.bool b))).bind fun t4_3 =>
  (condV t4_3
   ((M.ret V.nils).bind fun t2_4 =>
  M.ret (Ex.ret, [t2_4]))
   ((sliceV 2 0 [(V.int .i64 0), (V.int .i64 0)] []).bind fun t5_5 =>
  (M.ret x0).bind fun t6_6 =>
  (appV 2 16 t5_5 t6_6).bind fun t7_7 =>
  (M.ret t7_7).bind fun t2_8 =>
  M.ret (Ex.ret, [t2_8])))

theorem slices_Clone_ferry_api_Timer_ferry_api_Timer_eq (G : Nat → Option (List V)) (n : Nat) (x0 : V) : sem (cfg G) (n + 1) 74 [x0] = outV (slices_Clone_ferry_api_Timer_ferry_api_Timer G (sem (cfg G) n) x0) :=
  (fnV_at (C := cfg G) (n := n) (f := 74) (fn := Tryd.f74) (c := Tryd.f74.body.getD .skip) (by kernel_rfl) (by kernel_rfl) (by kernel_rfl) [x0]).trans (by kernel_rfl)

noncomputable def ferry_ready_Table_copied (G : Nat → Option (List V)) (call : FuncId → List V → M V) (x0 : V) : M R :=
  (newV x0).bind fun t1_1 =>
  (newV (.agg [V.nils, V.nils, V.nils])).bind fun t2_2 =>
  (getN.bind fun n_3 =>
  (M.lift (padd 0 t1_1)).bind fun y0_4 =>
  getN.bind fun n_5 =>
  (load1 y0_4).bind fun y1_6 =>
  getN.bind fun n_7 =>
  (qrun (visB n_3 [(n_5, n_7, true), (n_3, n_5, true)]) (callV (cfg G) call 72 [y1_6])).bind fun y2_8 =>
  getN.bind fun n_9 =>
  (M.lift (padd 1 t1_1)).bind fun y3_10 =>
  getN.bind fun n_11 =>
  (load1 y3_10).bind fun y4_12 =>
  getN.bind fun n_13 =>
  (qrun (visB n_3 [(n_11, n_13, true), (n_9, n_11, true), (n_7, n_9, true), (n_5, n_7, true), (n_3, n_5, true)]) (callV (cfg G) call 73 [y4_12])).bind fun y5_14 =>
  getN.bind fun n_15 =>
  (M.lift (padd 2 t1_1)).bind fun y6_16 =>
  getN.bind fun n_17 =>
  (load1 y6_16).bind fun y7_18 =>
  getN.bind fun n_19 =>
  (qrun (visB n_3 [(n_17, n_19, true), (n_15, n_17, true), (n_13, n_15, true), (n_11, n_13, true), (n_9, n_11, true), (n_7, n_9, true), (n_5, n_7, true), (n_3, n_5, true)]) (callV (cfg G) call 74 [y7_18])).bind fun y8_20 =>
  (M.lift (buildV [V.nils, V.nils, V.nils] [(0, 1, y2_8), (1, 1, y5_14), (2, 1, y8_20)])).bind fun y9_21 =>
  (storeN 3 t2_2 y9_21).bind fun _ =>
  (((loadN 3 t2_2)).bind fun v => (M.ret []).bind fun l => M.ret (v :: l)).bind fun l => M.ret (Ex.ret, tupV l))

theorem ferry_ready_Table_copied_eq (G : Nat → Option (List V)) (n : Nat) (x0 : V) : sem (cfg G) (n + 1) 75 [x0] = outV (ferry_ready_Table_copied G (sem (cfg G) n) x0) :=
  (fnV_at (C := cfg G) (n := n) (f := 75) (fn := Tryd.f75) (c := Tryd.f75.body.getD .skip) (by kernel_rfl) (by kernel_rfl) (by kernel_rfl) [x0]).trans (by kernel_rfl)

noncomputable def slices_Index_int_int_l1 (G : Nat → Option (List V)) (call : FuncId → List V → M V) (t7_3 : V) (x1 : V) (x0 : V) (s0_5 : List V) : M R :=
  (M.lift (arithV .lss (s0_5.getD 1 V.undef) t7_3)).bind fun t9_6 =>
  (condV t9_6
   ((M.ret (s0_5.getD 1 V.undef)).bind fun t10_7 =>
  (M.ret t10_7).bind fun t5_8 =>
  (M.ret x1).bind fun t11_9 =>
  (M.ret x0).bind fun t12_10 =>
  (M.ret t5_8).bind fun t13_11 =>
  (M.lift (idxV 1 t12_10 t13_11)).bind fun t14_12 =>
  (load1 t14_12).bind fun t15_13 =>
  (M.lift ((eqV (.sc .int) false t11_9 t15_13).bind fun b => some (.bool b))).bind fun t16_14 =>
  (condV t16_14
   ((M.ret t5_8).bind fun t17_15 =>
  (M.ret t17_15).bind fun t4_16 =>
  M.ret (Ex.ret, [t4_16, (s0_5.getD 1 V.undef)]))
   ((M.lift (arithV .add (s0_5.getD 1 V.undef) (V.int .i64 1))).bind fun t18_17 =>
  (M.ret t18_17).bind fun t8_18 =>
  M.ret (Ex.normal, [(s0_5.getD 0 V.undef), t8_18]))))
   (M.ret ((Ex.exit 0), [(s0_5.getD 0 V.undef), (s0_5.getD 1 V.undef)])))

noncomputable def slices_Index_int_int (G : Nat → Option (List V)) (call : FuncId → List V → M V) (x0 : V) (x1 : V) : M R :=
  (M.ret (V.int .i64 0)).bind fun t4_1 =>
  (M.ret x0).bind fun t6_2 =>
  (M.lift (lenV t6_2)).bind fun t7_3 =>
  (M.ret (V.int .i64 0)).bind fun t8_4 =>
  (loopV (slices_Index_int_int_l1 G call t7_3 x1 x0) [t4_1, t8_4]).bind fun r0_19 => match r0_19.1 with
  | .normal => M.fail
  | .exit k0_20 =>
    (if k0_20 = 0 then
    (M.ret (V.int .i64 (-1))).bind fun t4_21 =>
    M.ret (Ex.ret, [t4_21])
    else M.fail)
  | .ret =>
    M.ret (Ex.ret, [(r0_19.2.getD 0 V.undef)])

theorem slices_Index_int_int_eq (G : Nat → Option (List V)) (n : Nat) (x0 : V) (x1 : V) : sem (cfg G) (n + 1) 122 [x0, x1] = outV (slices_Index_int_int G (sem (cfg G) n) x0 x1) :=
  (fnV_at (C := cfg G) (n := n) (f := 122) (fn := Tryd.f122) (c := Tryd.f122.body.getD .skip) (by kernel_rfl) (by kernel_rfl) (by kernel_rfl) [x0, x1]).trans (by kernel_rfl)

noncomputable def slices_Contains_int_int (G : Nat → Option (List V)) (call : FuncId → List V → M V) (x0 : V) (x1 : V) : M R :=
  (M.ret (V.bool false)).bind fun t4_1 =>
  (M.ret x0).bind fun t5_2 =>
  (M.ret x1).bind fun t6_3 =>
  (callV (cfg G) call 122 [t5_2, t6_3]).bind fun t7_4 =>
  (M.lift (arithV .geq t7_4 (V.int .i64 0))).bind fun t8_5 =>
  (M.ret t8_5).bind fun t4_6 =>
  M.ret (Ex.ret, [t4_6])

theorem slices_Contains_int_int_eq (G : Nat → Option (List V)) (n : Nat) (x0 : V) (x1 : V) : sem (cfg G) (n + 1) 102 [x0, x1] = outV (slices_Contains_int_int G (sem (cfg G) n) x0 x1) :=
  (fnV_at (C := cfg G) (n := n) (f := 102) (fn := Tryd.f102) (c := Tryd.f102.body.getD .skip) (by kernel_rfl) (by kernel_rfl) (by kernel_rfl) [x0, x1]).trans (by kernel_rfl)

noncomputable def ferry_ready_in (G : Nat → Option (List V)) (call : FuncId → List V → M V) (x0 : V) (x1 : V) (x2 : V) : M R :=
  (newV x0).bind fun t3_1 =>
  (newV (.agg [V.nils, V.nils, V.nils])).bind fun t6_2 =>
  (M.ret V.nili).bind fun t7_3 =>
  (loadN 3 t3_1).bind fun t8_4 =>
  (callV (cfg G) call 42 [t8_4]).bind fun t9_5 =>
  (M.lift (unV .not t9_5)).bind fun t10_6 =>
  (condV t10_6
   (((M.lift (buildV [V.nils, V.nils, V.nils] [])).bind fun y0_7 =>
  (load1 (glob (cfg G) 0)).bind fun y1_8 =>
  guardM (apartV (glob (cfg G) 0) t6_2 && true) (
  (storeN 3 t6_2 y0_7).bind fun _ =>
  (M.ret y1_8).bind fun y3_9 =>
  (((loadN 3 t6_2)).bind fun v => ((M.ret []).bind fun l => M.ret (y3_9 :: l)).bind fun l => M.ret (v :: l)).bind fun l => M.ret (Ex.ret, tupV l))))
   ((M.ret x1).bind fun t13_10 =>
  (M.lift (arithV .lss t13_10 (V.int .i64 0))).bind fun t14_11 =>
  (M.ret t14_11).bind fun t15_12 =>
  (guardV t15_12 false (M.ret x1)).bind fun t16_13 =>
  (guardV t15_12 false (M.lift (padd 0 t3_1))).bind fun t17_14 =>
  (guardV t15_12 false (load1 t17_14)).bind fun t18_15 =>
  (guardV t15_12 false (M.lift (lenV t18_15))).bind fun t19_16 =>
  (guardV t15_12 false (M.lift (arithV .geq t16_13 t19_16))).bind fun t20_17 =>
  (M.lift (pickV t15_12 (V.bool true) t20_17)).bind fun t21_18 =>
  (M.ret t21_18).bind fun t22_19 =>
  (guardV t22_19 false (M.ret x2)).bind fun t23_20 =>
  (guardV t22_19 false (M.lift (padd 0 t3_1))).bind fun t24_21 =>
  (guardV t22_19 false (load1 t24_21)).bind fun t25_22 =>
  (guardV t22_19 false (M.ret x1)).bind fun t26_23 =>
  (guardV t22_19 false (M.lift (idxV 21 t25_22 t26_23))).bind fun t27_24 =>
  (guardV t22_19 false (M.lift (padd 17 t27_24))).bind fun t28_25 =>
  (guardV t22_19 false (load1 t28_25)).bind fun t29_26 =>
  (guardV t22_19 false (callV (cfg G) call 102 [t23_20, t29_26])).bind fun t30_27 =>
  (guardV t22_19 false (M.lift (unV .not t30_27))).bind fun t31_28 =>
  (M.lift (pickV t22_19 (V.bool true) t31_28)).bind fun t32_29 =>
  (condV t32_29
   (((M.lift (buildV [V.nils, V.nils, V.nils] [])).bind fun y0_30 =>
  (load1 (glob (cfg G) 2)).bind fun y1_31 =>
  guardM (apartV (glob (cfg G) 2) t6_2 && true) (
  (storeN 3 t6_2 y0_30).bind fun _ =>
  (M.ret y1_31).bind fun y3_32 =>
  (((loadN 3 t6_2)).bind fun v => ((M.ret []).bind fun l => M.ret (y3_32 :: l)).bind fun l => M.ret (v :: l)).bind fun l => M.ret (Ex.ret, tupV l))))
   ((loadN 3 t3_1).bind fun t35_33 =>
  (callV (cfg G) call 75 [t35_33]).bind fun t36_34 =>
  (storeN 3 t6_2 t36_34).bind fun _ =>
  (M.ret V.nili).bind fun t7_35 =>
  (((loadN 3 t6_2)).bind fun v => ((M.ret []).bind fun l => M.ret (t7_35 :: l)).bind fun l => M.ret (v :: l)).bind fun l => M.ret (Ex.ret, tupV l)))))

theorem ferry_ready_in_eq (G : Nat → Option (List V)) (n : Nat) (x0 : V) (x1 : V) (x2 : V) : sem (cfg G) (n + 1) 67 [x0, x1, x2] = outV (ferry_ready_in G (sem (cfg G) n) x0 x1 x2) :=
  (fnV_at (C := cfg G) (n := n) (f := 67) (fn := Tryd.f67) (c := Tryd.f67.body.getD .skip) (by kernel_rfl) (by kernel_rfl) (by kernel_rfl) [x0, x1, x2]).trans (by kernel_rfl)

noncomputable def slices_IndexFunc_int_int_l1 (G : Nat → Option (List V)) (call : FuncId → List V → M V) (t7_3 : V) (x1 : V) (x0 : V) (s0_5 : List V) : M R :=
  (M.lift (arithV .lss (s0_5.getD 1 V.undef) t7_3)).bind fun t9_6 =>
  (condV t9_6
   ((M.ret (s0_5.getD 1 V.undef)).bind fun t10_7 =>
  (M.ret t10_7).bind fun t5_8 =>
  (M.ret x1).bind fun t11_9 =>
  (M.ret x0).bind fun t12_10 =>
  (M.ret t5_8).bind fun t13_11 =>
  (M.lift (idxV 1 t12_10 t13_11)).bind fun t14_12 =>
  (load1 t14_12).bind fun t15_13 =>
  (callFn (cfg G) call t11_9 [t15_13]).bind fun t16_14 =>
  (condV t16_14
   ((M.ret t5_8).bind fun t17_15 =>
  (M.ret t17_15).bind fun t4_16 =>
  M.ret (Ex.ret, [t4_16, (s0_5.getD 1 V.undef)]))
   ((M.lift (arithV .add (s0_5.getD 1 V.undef) (V.int .i64 1))).bind fun t18_17 =>
  (M.ret t18_17).bind fun t8_18 =>
  M.ret (Ex.normal, [(s0_5.getD 0 V.undef), t8_18]))))
   (M.ret ((Ex.exit 0), [(s0_5.getD 0 V.undef), (s0_5.getD 1 V.undef)])))

noncomputable def slices_IndexFunc_int_int (G : Nat → Option (List V)) (call : FuncId → List V → M V) (x0 : V) (x1 : V) : M R :=
  (M.ret (V.int .i64 0)).bind fun t4_1 =>
  (M.ret x0).bind fun t6_2 =>
  (M.lift (lenV t6_2)).bind fun t7_3 =>
  (M.ret (V.int .i64 0)).bind fun t8_4 =>
  (loopV (slices_IndexFunc_int_int_l1 G call t7_3 x1 x0) [t4_1, t8_4]).bind fun r0_19 => match r0_19.1 with
  | .normal => M.fail
  | .exit k0_20 =>
    (if k0_20 = 0 then
    (M.ret (V.int .i64 (-1))).bind fun t4_21 =>
    M.ret (Ex.ret, [t4_21])
    else M.fail)
  | .ret =>
    M.ret (Ex.ret, [(r0_19.2.getD 0 V.undef)])

theorem slices_IndexFunc_int_int_eq (G : Nat → Option (List V)) (n : Nat) (x0 : V) (x1 : V) : sem (cfg G) (n + 1) 123 [x0, x1] = outV (slices_IndexFunc_int_int G (sem (cfg G) n) x0 x1) :=
  (fnV_at (C := cfg G) (n := n) (f := 123) (fn := Tryd.f123) (c := Tryd.f123.body.getD .skip) (by kernel_rfl) (by kernel_rfl) (by kernel_rfl) [x0, x1]).trans (by kernel_rfl)

noncomputable def slices_DeleteFunc_int_int_j1 (G : Nat → Option (List V)) (call : FuncId → List V → M V) (s0_13 : List V) (j5_33 : V) : M R :=
  (M.ret (s0_13.getD 1 V.undef)).bind fun t20_34 =>
  (M.lift (arithV .add t20_34 (V.int .i64 1))).bind fun t21_35 =>
  (M.ret t21_35).bind fun t6_36 =>
  M.ret (Ex.normal, [j5_33, t6_36])

noncomputable def slices_DeleteFunc_int_int_l1 (G : Nat → Option (List V)) (call : FuncId → List V → M V) (x0 : V) (x1 : V) (s0_13 : List V) : M R :=
  (M.ret (s0_13.getD 1 V.undef)).bind fun t16_14 =>
  (M.ret x0).bind fun t17_15 =>
  (M.lift (lenV t17_15)).bind fun t18_16 =>
  (M.lift (arithV .lss t16_14 t18_16)).bind fun t19_17 =>
  (condV t19_17
   ((M.ret x0).bind fun t22_18 =>
  (M.ret (s0_13.getD 1 V.undef)).bind fun t23_19 =>
  (M.lift (idxV 1 t22_18 t23_19)).bind fun t24_20 =>
  (load1 t24_20).bind fun t25_21 =>
  (M.ret t25_21).bind fun t7_22 =>
  (M.ret x1).bind fun t26_23 =>
  (M.ret t7_22).bind fun t27_24 =>
  (callFn (cfg G) call t26_23 [t27_24]).bind fun t28_25 =>
  (M.lift (unV .not t28_25)).bind fun t29_26 =>
  (condV t29_26
   ((M.ret x0).bind fun t30_37 =>
  (M.ret (s0_13.getD 0 V.undef)).bind fun t31_38 =>
  (M.ret t7_22).bind fun t32_39 =>
  (M.lift (idxV 1 t30_37 t31_38)).bind fun t33_40 =>
  (storeN 1 t33_40 t32_39).bind fun _ =>
  (M.ret (s0_13.getD 0 V.undef)).bind fun t34_41 =>
  (M.lift (arithV .add t34_41 (V.int .i64 1))).bind fun t35_42 =>
  (M.ret t35_42).bind fun t5_43 =>
  slices_DeleteFunc_int_int_j1 G call s0_13 t5_43)
   (slices_DeleteFunc_int_int_j1 G call s0_13 (s0_13.getD 0 V.undef))))
   (M.ret ((Ex.exit 0), [(s0_13.getD 0 V.undef), (s0_13.getD 1 V.undef)])))

noncomputable def slices_DeleteFunc_int_int (G : Nat → Option (List V)) (call : FuncId → List V → M V) (x0 : V) (x1 : V) : M R :=
  (M.ret V.nils).bind fun t4_1 =>
  (M.ret x0).bind fun t8_2 =>
  (M.ret x1).bind fun t9_3 =>
  (callV (cfg G) call 123 [t8_2, t9_3]).bind fun t10_4 =>
  (M.ret t10_4).bind fun t5_5 =>
  (M.ret t5_5).bind fun t11_6 =>
  (M.lift ((eqV (.sc .int) true t11_6 (V.int .i64 (-1))).bind fun b => some (.bool b))).bind fun t12_7 =>
  (condV t12_7
   ((M.ret x0).bind fun t13_8 =>
  (M.ret t13_8).bind fun t4_9 =>
  M.ret (Ex.ret, [t4_9]))
   ((M.ret t5_5).bind fun t14_10 =>
  (M.lift (arithV .add t14_10 (V.int .i64 1))).bind fun t15_11 =>
  (M.ret t15_11).bind fun t6_12 =>
  (loopV (slices_DeleteFunc_int_int_l1 G call x0 x1) [t5_5, t6_12]).bind fun r0_44 => match r0_44.1 with
  | .normal => M.fail
  | .exit k0_45 =>
    (if k0_45 = 0 then
    (M.ret x0).bind fun t36_46 =>
    (M.ret (r0_44.2.getD 0 V.undef)).bind fun t37_47 =>
    (M.lift (slV 1 t36_46 (some t37_47) none none)).bind fun t38_48 =>
    (clearV 1 [(V.int .i64 0)] t38_48).bind fun _ =>
    (M.ret x0).bind fun t39_49 =>
    (M.ret (r0_44.2.getD 0 V.undef)).bind fun t40_50 =>
    (M.lift (slV 1 t39_49 none (some t40_50) none)).bind fun t41_51 =>
    (M.ret t41_51).bind fun t4_52 =>
    M.ret (Ex.ret, [t4_52])
    else M.fail)
  | .ret =>
    M.ret (Ex.ret, [t4_1])))

theorem slices_DeleteFunc_int_int_eq (G : Nat → Option (List V)) (n : Nat) (x0 : V) (x1 : V) : sem (cfg G) (n + 1) 103 [x0, x1] = outV (slices_DeleteFunc_int_int G (sem (cfg G) n) x0 x1) :=
  (fnV_at (C := cfg G) (n := n) (f := 103) (fn := Tryd.f103) (c := Tryd.f103.body.getD .skip) (by kernel_rfl) (by kernel_rfl) (by kernel_rfl) [x0, x1]).trans (by kernel_rfl)

noncomputable def ferry_ready_Table_leave_1 (G : Nat → Option (List V)) (call : FuncId → List V → M V) (x0 : V) (x1 : V) : M R :=
  (M.ret (V.bool false)).bind fun t3_1 =>
  (M.ret x0).bind fun t4_2 =>
  (load1 x1).bind fun t5_3 =>
  (M.lift ((eqV (.sc .int) false t4_2 t5_3).bind fun b => some (.bool b))).bind fun t6_4 =>
  (M.ret t6_4).bind fun t3_5 =>
  M.ret (Ex.ret, [t3_5])

theorem ferry_ready_Table_leave_1_eq (G : Nat → Option (List V)) (n : Nat) (x0 : V) (x1 : V) : sem (cfg G) (n + 1) 104 [x0, x1] = outV (ferry_ready_Table_leave_1 G (sem (cfg G) n) x0 x1) :=
  (fnV_at (C := cfg G) (n := n) (f := 104) (fn := Tryd.f104) (c := Tryd.f104.body.getD .skip) (by kernel_rfl) (by kernel_rfl) (by kernel_rfl) [x0, x1]).trans (by kernel_rfl)

noncomputable def ferry_ready_Table_leave (G : Nat → Option (List V)) (call : FuncId → List V → M V) (x0 : V) (x1 : V) : M R :=
  (newV x1).bind fun t3_1 =>
  (M.ret x0).bind fun t4_2 =>
  (M.ret x0).bind fun t5_3 =>
  (M.lift (nilCheckV t5_3)).bind fun t6_4 =>
  (M.lift (padd 1 t6_4)).bind fun t7_5 =>
  (load1 t7_5).bind fun t8_6 =>
  (M.ret (V.fn 104 [t3_1])).bind fun t9_7 =>
  (callV (cfg G) call 103 [t8_6, t9_7]).bind fun t10_8 =>
  (M.lift (nilCheckV t4_2)).bind fun t11_9 =>
  (M.lift (padd 1 t11_9)).bind fun t12_10 =>
  (storeN 1 t12_10 t10_8).bind fun _ =>
  M.ret (Ex.ret, [V.tuple []])

theorem ferry_ready_Table_leave_eq (G : Nat → Option (List V)) (n : Nat) (x0 : V) (x1 : V) : sem (cfg G) (n + 1) 68 [x0, x1] = outV (ferry_ready_Table_leave G (sem (cfg G) n) x0 x1) :=
  (fnV_at (C := cfg G) (n := n) (f := 68) (fn := Tryd.f68) (c := Tryd.f68.body.getD .skip) (by kernel_rfl) (by kernel_rfl) (by kernel_rfl) [x0, x1]).trans (by kernel_rfl)

noncomputable def ferry_ready_Yield (G : Nat → Option (List V)) (call : FuncId → List V → M V) (x0 : V) (x1 : V) : M R :=
  (newV x0).bind fun t2_1 =>
  (newV (.agg [V.nils, V.nils, V.nils])).bind fun t4_2 =>
  (M.ret V.nili).bind fun t5_3 =>
  (loadN 3 t2_1).bind fun t9_4 =>
  (M.ret x1).bind fun t10_5 =>
  (sliceV 1 1 [(V.int .i64 0)] [(0, (V.int .i64 1))]).bind fun t11_6 =>
  (callV (cfg G) call 67 [t9_4, t10_5, t11_6]).bind fun t12_7 =>
  (M.ret t12_7).bind fun t8_8 =>
  (M.lift (extractV t8_8 0)).bind fun t13_9 =>
  (M.lift (extractV t8_8 1)).bind fun t14_10 =>
  (newV (.agg [V.nils, V.nils, V.nils])).bind fun t6_11 =>
  (storeN 3 t6_11 t13_9).bind fun _ =>
  (M.ret t14_10).bind fun t7_12 =>
  (M.ret t7_12).bind fun t15_13 =>
  (M.lift ((eqV .iface true t15_13 V.nili).bind fun b => some (.bool !b))).bind fun t16_14 =>
  (condV t16_14
   ((M.lift (buildV [V.nils, V.nils, V.nils] [])).bind fun t17_15 =>
  (M.ret t7_12).bind fun t18_16 =>
  (storeN 3 t4_2 t17_15).bind fun _ =>
  (M.ret t18_16).bind fun t5_17 =>
  (((loadN 3 t4_2)).bind fun v => ((M.ret []).bind fun l => M.ret (t5_17 :: l)).bind fun l => M.ret (v :: l)).bind fun l => M.ret (Ex.ret, tupV l))
   ((M.ret x1).bind fun t19_18 =>
  (callV (cfg G) call 68 [t6_11, t19_18]).bind fun t20_19 =>
  (M.lift (padd 1 t6_11)).bind fun t21_20 =>
  (load1 t21_20).bind fun t22_21 =>
  (M.ret x1).bind fun t23_22 =>
  (sliceV 1 1 [(V.int .i64 0)] [(0, t23_22)]).bind fun t24_23 =>
  (appV 1 8 t22_21 t24_23).bind fun t25_24 =>
  (M.lift (padd 1 t6_11)).bind fun t26_25 =>
  (storeN 1 t26_25 t25_24).bind fun _ =>
  (loadN 3 t6_11).bind fun t27_26 =>
  (storeN 3 t4_2 t27_26).bind fun _ =>
  (M.ret V.nili).bind fun t5_27 =>
  (((loadN 3 t4_2)).bind fun v => ((M.ret []).bind fun l => M.ret (t5_27 :: l)).bind fun l => M.ret (v :: l)).bind fun l => M.ret (Ex.ret, tupV l)))

theorem ferry_ready_Yield_eq (G : Nat → Option (List V)) (n : Nat) (x0 : V) (x1 : V) : sem (cfg G) (n + 1) 19 [x0, x1] = outV (ferry_ready_Yield G (sem (cfg G) n) x0 x1) :=
  (fnV_at (C := cfg G) (n := n) (f := 19) (fn := Tryd.f19) (c := Tryd.f19.body.getD .skip) (by kernel_rfl) (by kernel_rfl) (by kernel_rfl) [x0, x1]).trans (by kernel_rfl)

noncomputable def slices_IndexFunc_ferry_api_Timer_ferry_api_Timer_l1 (G : Nat → Option (List V)) (call : FuncId → List V → M V) (t7_3 : V) (x1 : V) (x0 : V) (s0_5 : List V) : M R :=
  (M.lift (arithV .lss (s0_5.getD 1 V.undef) t7_3)).bind fun t9_6 =>
  (condV t9_6
   ((M.ret (s0_5.getD 1 V.undef)).bind fun t10_7 =>
  (M.ret t10_7).bind fun t5_8 =>
  (M.ret x1).bind fun t11_9 =>
  (M.ret x0).bind fun t12_10 =>
  (M.ret t5_8).bind fun t13_11 =>
  (M.lift (idxV 2 t12_10 t13_11)).bind fun t14_12 =>
  (loadN 2 t14_12).bind fun t15_13 =>
  (callFn (cfg G) call t11_9 [t15_13]).bind fun t16_14 =>
  (condV t16_14
   ((M.ret t5_8).bind fun t17_15 =>
  (M.ret t17_15).bind fun t4_16 =>
  M.ret (Ex.ret, [t4_16, (s0_5.getD 1 V.undef)]))
   ((M.lift (arithV .add (s0_5.getD 1 V.undef) (V.int .i64 1))).bind fun t18_17 =>
  (M.ret t18_17).bind fun t8_18 =>
  M.ret (Ex.normal, [(s0_5.getD 0 V.undef), t8_18]))))
   (M.ret ((Ex.exit 0), [(s0_5.getD 0 V.undef), (s0_5.getD 1 V.undef)])))

noncomputable def slices_IndexFunc_ferry_api_Timer_ferry_api_Timer (G : Nat → Option (List V)) (call : FuncId → List V → M V) (x0 : V) (x1 : V) : M R :=
  (M.ret (V.int .i64 0)).bind fun t4_1 =>
  (M.ret x0).bind fun t6_2 =>
  (M.lift (lenV t6_2)).bind fun t7_3 =>
  (M.ret (V.int .i64 0)).bind fun t8_4 =>
  (loopV (slices_IndexFunc_ferry_api_Timer_ferry_api_Timer_l1 G call t7_3 x1 x0) [t4_1, t8_4]).bind fun r0_19 => match r0_19.1 with
  | .normal => M.fail
  | .exit k0_20 =>
    (if k0_20 = 0 then
    (M.ret (V.int .i64 (-1))).bind fun t4_21 =>
    M.ret (Ex.ret, [t4_21])
    else M.fail)
  | .ret =>
    M.ret (Ex.ret, [(r0_19.2.getD 0 V.undef)])

theorem slices_IndexFunc_ferry_api_Timer_ferry_api_Timer_eq (G : Nat → Option (List V)) (n : Nat) (x0 : V) (x1 : V) : sem (cfg G) (n + 1) 127 [x0, x1] = outV (slices_IndexFunc_ferry_api_Timer_ferry_api_Timer G (sem (cfg G) n) x0 x1) :=
  (fnV_at (C := cfg G) (n := n) (f := 127) (fn := Tryd.f127) (c := Tryd.f127.body.getD .skip) (by kernel_rfl) (by kernel_rfl) (by kernel_rfl) [x0, x1]).trans (by kernel_rfl)

noncomputable def slices_DeleteFunc_ferry_api_Timer_ferry_api_Timer_j1 (G : Nat → Option (List V)) (call : FuncId → List V → M V) (s0_13 : List V) (j5_33 : V) : M R :=
  (M.ret (s0_13.getD 1 V.undef)).bind fun t20_34 =>
  (M.lift (arithV .add t20_34 (V.int .i64 1))).bind fun t21_35 =>
  (M.ret t21_35).bind fun t6_36 =>
  M.ret (Ex.normal, [j5_33, t6_36])

noncomputable def slices_DeleteFunc_ferry_api_Timer_ferry_api_Timer_l1 (G : Nat → Option (List V)) (call : FuncId → List V → M V) (x0 : V) (x1 : V) (s0_13 : List V) : M R :=
  (M.ret (s0_13.getD 1 V.undef)).bind fun t16_14 =>
  (M.ret x0).bind fun t17_15 =>
  (M.lift (lenV t17_15)).bind fun t18_16 =>
  (M.lift (arithV .lss t16_14 t18_16)).bind fun t19_17 =>
  (condV t19_17
   ((M.ret x0).bind fun t22_18 =>
  (M.ret (s0_13.getD 1 V.undef)).bind fun t23_19 =>
  (M.lift (idxV 2 t22_18 t23_19)).bind fun t24_20 =>
  (loadN 2 t24_20).bind fun t25_21 =>
  (newV (.agg [(V.int .i64 0), (V.int .i64 0)])).bind fun t7_22 =>
  (storeN 2 t7_22 t25_21).bind fun _ =>
  (M.ret x1).bind fun t26_23 =>
  (loadN 2 t7_22).bind fun t27_24 =>
  (callFn (cfg G) call t26_23 [t27_24]).bind fun t28_25 =>
  (M.lift (unV .not t28_25)).bind fun t29_26 =>
  (condV t29_26
   ((M.ret x0).bind fun t30_37 =>
  (M.ret (s0_13.getD 0 V.undef)).bind fun t31_38 =>
  (loadN 2 t7_22).bind fun t32_39 =>
  (M.lift (idxV 2 t30_37 t31_38)).bind fun t33_40 =>
  (storeN 2 t33_40 t32_39).bind fun _ =>
  (M.ret (s0_13.getD 0 V.undef)).bind fun t34_41 =>
  (M.lift (arithV .add t34_41 (V.int .i64 1))).bind fun t35_42 =>
  (M.ret t35_42).bind fun t5_43 =>
  slices_DeleteFunc_ferry_api_Timer_ferry_api_Timer_j1 G call s0_13 t5_43)
   (slices_DeleteFunc_ferry_api_Timer_ferry_api_Timer_j1 G call s0_13 (s0_13.getD 0 V.undef))))
   (M.ret ((Ex.exit 0), [(s0_13.getD 0 V.undef), (s0_13.getD 1 V.undef)])))

noncomputable def slices_DeleteFunc_ferry_api_Timer_ferry_api_Timer (G : Nat → Option (List V)) (call : FuncId → List V → M V) (x0 : V) (x1 : V) : M R :=
  (M.ret V.nils).bind fun t4_1 =>
  (M.ret x0).bind fun t8_2 =>
  (M.ret x1).bind fun t9_3 =>
  (callV (cfg G) call 127 [t8_2, t9_3]).bind fun t10_4 =>
  (M.ret t10_4).bind fun t5_5 =>
  (M.ret t5_5).bind fun t11_6 =>
  (M.lift ((eqV (.sc .int) true t11_6 (V.int .i64 (-1))).bind fun b => some (.bool b))).bind fun t12_7 =>
  (condV t12_7
   ((M.ret x0).bind fun t13_8 =>
  (M.ret t13_8).bind fun t4_9 =>
  M.ret (Ex.ret, [t4_9]))
   ((M.ret t5_5).bind fun t14_10 =>
  (M.lift (arithV .add t14_10 (V.int .i64 1))).bind fun t15_11 =>
  (M.ret t15_11).bind fun t6_12 =>
  (loopV (slices_DeleteFunc_ferry_api_Timer_ferry_api_Timer_l1 G call x0 x1) [t5_5, t6_12]).bind fun r0_44 => match r0_44.1 with
  | .normal => M.fail
  | .exit k0_45 =>
    (if k0_45 = 0 then
    (M.ret x0).bind fun t36_46 =>
    (M.ret (r0_44.2.getD 0 V.undef)).bind fun t37_47 =>
    (M.lift (slV 2 t36_46 (some t37_47) none none)).bind fun t38_48 =>
    (clearV 2 [(V.int .i64 0), (V.int .i64 0)] t38_48).bind fun _ =>
    (M.ret x0).bind fun t39_49 =>
    (M.ret (r0_44.2.getD 0 V.undef)).bind fun t40_50 =>
    (M.lift (slV 2 t39_49 none (some t40_50) none)).bind fun t41_51 =>
    (M.ret t41_51).bind fun t4_52 =>
    M.ret (Ex.ret, [t4_52])
    else M.fail)
  | .ret =>
    M.ret (Ex.ret, [t4_1])))

theorem slices_DeleteFunc_ferry_api_Timer_ferry_api_Timer_eq (G : Nat → Option (List V)) (n : Nat) (x0 : V) (x1 : V) : sem (cfg G) (n + 1) 112 [x0, x1] = outV (slices_DeleteFunc_ferry_api_Timer_ferry_api_Timer G (sem (cfg G) n) x0 x1) :=
  (fnV_at (C := cfg G) (n := n) (f := 112) (fn := Tryd.f112) (c := Tryd.f112.body.getD .skip) (by kernel_rfl) (by kernel_rfl) (by kernel_rfl) [x0, x1]).trans (by kernel_rfl)

noncomputable def ferry_ready_Table_wake_1 (G : Nat → Option (List V)) (call : FuncId → List V → M V) (x0 : V) (x1 : V) : M R :=
  (newV x0).bind fun t2_1 =>
  (M.ret (V.bool false)).bind fun t3_2 =>
  (M.lift (padd 0 t2_1)).bind fun t4_3 =>
  (load1 t4_3).bind fun t5_4 =>
  (load1 x1).bind fun t6_5 =>
  (M.lift ((eqV (.sc .int) false t5_4 t6_5).bind fun b => some (.bool b))).bind fun t7_6 =>
  (M.ret t7_6).bind fun t3_7 =>
  M.ret (Ex.ret, [t3_7])

theorem ferry_ready_Table_wake_1_eq (G : Nat → Option (List V)) (n : Nat) (x0 : V) (x1 : V) : sem (cfg G) (n + 1) 113 [x0, x1] = outV (ferry_ready_Table_wake_1 G (sem (cfg G) n) x0 x1) :=
  (fnV_at (C := cfg G) (n := n) (f := 113) (fn := Tryd.f113) (c := Tryd.f113.body.getD .skip) (by kernel_rfl) (by kernel_rfl) (by kernel_rfl) [x0, x1]).trans (by kernel_rfl)

noncomputable def ferry_timer_without_1 (G : Nat → Option (List V)) (call : FuncId → List V → M V) (x0 : V) (x1 : V) : M R :=
  (newV x0).bind fun t2_1 =>
  (M.ret (V.bool false)).bind fun t3_2 =>
  (M.lift (padd 0 t2_1)).bind fun t4_3 =>
  (load1 t4_3).bind fun t5_4 =>
  (load1 x1).bind fun t6_5 =>
  (M.lift ((eqV (.sc .int) false t5_4 t6_5).bind fun b => some (.bool b))).bind fun t7_6 =>
  (M.ret t7_6).bind fun t3_7 =>
  M.ret (Ex.ret, [t3_7])

theorem ferry_timer_without_1_eq (G : Nat → Option (List V)) (n : Nat) (x0 : V) (x1 : V) : sem (cfg G) (n + 1) 117 [x0, x1] = outV (ferry_timer_without_1 G (sem (cfg G) n) x0 x1) :=
  (fnV_at (C := cfg G) (n := n) (f := 117) (fn := Tryd.f117) (c := Tryd.f117.body.getD .skip) (by kernel_rfl) (by kernel_rfl) (by kernel_rfl) [x0, x1]).trans (by kernel_rfl)

end Go.Fv.Tr

/-
  The Go functions ferry/api.Code, ferry/api.Place, ferry/api.code, ferry/ferryref09.Pick as plain terms. By an AI agent; no person has read it.
-/
import Derived.Test.YtjjiphigolegbabDoorFvCf
set_option linter.unusedVariables false
set_option linter.unusedSimpArgs false
set_option linter.unusedSectionVars false
/-! The Go functions ferry/api.Code, ferry/api.Place, ferry/api.code, ferry/ferryref09.Pick as plain terms. -/
namespace Go.Fv.Tr
open Go Go.Fv Go.Proofs
set_option linter.unusedVariables false
set_option maxRecDepth 20000

noncomputable def ferry_api_Code (G : Nat → Option (List V)) (call : FuncId → List V → M V) (x0 : V) : M R :=
  (M.ret (V.int .i64 0)).bind fun t2_1 =>
  (M.ret x0).bind fun t4_2 =>
  (M.lift ((eqV .iface true t4_2 V.nili).bind fun b => some (.bool b))).bind fun t5_3 =>
  (M.ret t5_3).bind fun t3_4 =>
  (condV t3_4
   ((M.ret (V.int .i64 0)).bind fun t2_5 =>
  M.ret (Ex.ret, [t2_5]))
   ((M.ret x0).bind fun t7_6 =>
  (load1 (glob (cfg G) 4)).bind fun t8_7 =>
  (callV (cfg G) call 99 [t7_6, t8_7]).bind fun t9_8 =>
  (M.ret t9_8).bind fun t6_9 =>
  (condV t6_9
   ((M.ret (V.int .i64 1)).bind fun t2_10 =>
  M.ret (Ex.ret, [t2_10]))
   ((M.ret x0).bind fun t11_11 =>
  (load1 (glob (cfg G) 5)).bind fun t12_12 =>
  (callV (cfg G) call 99 [t11_11, t12_12]).bind fun t13_13 =>
  (M.ret t13_13).bind fun t10_14 =>
  (condV t10_14
   ((M.ret (V.int .i64 2)).bind fun t2_15 =>
  M.ret (Ex.ret, [t2_15]))
   ((M.ret x0).bind fun t15_16 =>
  (load1 (glob (cfg G) 6)).bind fun t16_17 =>
  (callV (cfg G) call 99 [t15_16, t16_17]).bind fun t17_18 =>
  (M.ret t17_18).bind fun t14_19 =>
  (condV t14_19
   ((M.ret (V.int .i64 3)).bind fun t2_20 =>
  M.ret (Ex.ret, [t2_20]))
   ((M.ret x0).bind fun t19_21 =>
  (load1 (glob (cfg G) 2)).bind fun t20_22 =>
  (callV (cfg G) call 99 [t19_21, t20_22]).bind fun t21_23 =>
  (M.ret t21_23).bind fun t18_24 =>
  (condV t18_24
   ((M.ret (V.int .i64 4)).bind fun t2_25 =>
  M.ret (Ex.ret, [t2_25]))
   ((M.ret x0).bind fun t23_26 =>
  (load1 (glob (cfg G) 7)).bind fun t24_27 =>
  (callV (cfg G) call 99 [t23_26, t24_27]).bind fun t25_28 =>
  (M.ret t25_28).bind fun t22_29 =>
  (condV t22_29
   ((M.ret (V.int .i64 5)).bind fun t2_30 =>
  M.ret (Ex.ret, [t2_30]))
   ((M.ret x0).bind fun t27_31 =>
  (load1 (glob (cfg G) 8)).bind fun t28_32 =>
  (callV (cfg G) call 99 [t27_31, t28_32]).bind fun t29_33 =>
  (M.ret t29_33).bind fun t26_34 =>
  (condV t26_34
   ((M.ret (V.int .i64 6)).bind fun t2_35 =>
  M.ret (Ex.ret, [t2_35]))
   ((M.ret x0).bind fun t31_36 =>
  (load1 (glob (cfg G) 9)).bind fun t32_37 =>
  (callV (cfg G) call 99 [t31_36, t32_37]).bind fun t33_38 =>
  (M.ret t33_38).bind fun t30_39 =>
  (condV t30_39
   ((M.ret (V.int .i64 7)).bind fun t2_40 =>
  M.ret (Ex.ret, [t2_40]))
   ((M.ret x0).bind fun t35_41 =>
  (load1 (glob (cfg G) 10)).bind fun t36_42 =>
  (callV (cfg G) call 99 [t35_41, t36_42]).bind fun t37_43 =>
  (M.ret t37_43).bind fun t34_44 =>
  (condV t34_44
   ((M.ret (V.int .i64 8)).bind fun t2_45 =>
  M.ret (Ex.ret, [t2_45]))
   ((M.ret x0).bind fun t39_46 =>
  (load1 (glob (cfg G) 0)).bind fun t40_47 =>
  (callV (cfg G) call 99 [t39_46, t40_47]).bind fun t41_48 =>
  (M.ret t41_48).bind fun t38_49 =>
  (condV t38_49
   ((M.ret (V.int .i64 9)).bind fun t2_50 =>
  M.ret (Ex.ret, [t2_50]))
   ((M.ret x0).bind fun t43_51 =>
  (load1 (glob (cfg G) 11)).bind fun t44_52 =>
  (callV (cfg G) call 99 [t43_51, t44_52]).bind fun t45_53 =>
  (M.ret t45_53).bind fun t42_54 =>
  (condV t42_54
   ((M.ret (V.int .i64 10)).bind fun t2_55 =>
  M.ret (Ex.ret, [t2_55]))
   ((M.ret x0).bind fun t46_56 =>
  (callV (cfg G) call 100 [t46_56]).bind fun t47_57 =>
  (M.ret t47_57).bind fun t2_58 =>
  M.ret (Ex.ret, [t2_58])))))))))))))))))))))))

theorem ferry_api_Code_eq (G : Nat → Option (List V)) (n : Nat) (x0 : V) : sem (cfg G) (n + 1) 73 [x0] = outV (ferry_api_Code G (sem (cfg G) n) x0) :=
  (fnV_at (C := cfg G) (n := n) (f := 73) (fn := Tryd.f73) (c := Tryd.f73.body.getD .skip) (by kernel_rfl) (by kernel_rfl) (by kernel_rfl) [x0]).trans (by kernel_rfl)

noncomputable def ferry_api_Place (G : Nat → Option (List V)) (call : FuncId → List V → M V) (x0 : V) : M R :=
  (M.ret (V.int .i64 0)).bind fun t2_1 =>
  (newV (.agg [V.nilp])).bind fun t3_2 =>
  (M.ret x0).bind fun t4_3 =>
  (M.lift (ifaceV 163 t3_2)).bind fun t5_4 =>
  (callV (cfg G) call 98 [t4_3, t5_4]).bind fun t6_5 =>
  (condV t6_5
   ((load1 t3_2).bind fun t7_6 =>
  (M.lift (nilCheckV t7_6)).bind fun t8_7 =>
  (M.lift (padd 0 t8_7)).bind fun t9_8 =>
  (load1 t9_8).bind fun t10_9 =>
  (M.ret t10_9).bind fun t2_10 =>
  M.ret (Ex.ret, [t2_10]))
   ((M.ret (V.int .i64 (-1))).bind fun t2_11 =>
  M.ret (Ex.ret, [t2_11])))

theorem ferry_api_Place_eq (G : Nat → Option (List V)) (n : Nat) (x0 : V) : sem (cfg G) (n + 1) 72 [x0] = outV (ferry_api_Place G (sem (cfg G) n) x0) :=
  (fnV_at (C := cfg G) (n := n) (f := 72) (fn := Tryd.f72) (c := Tryd.f72.body.getD .skip) (by kernel_rfl) (by kernel_rfl) (by kernel_rfl) [x0]).trans (by kernel_rfl)

noncomputable def ferry_api_code (G : Nat → Option (List V)) (call : FuncId → List V → M V) (x0 : V) : M R :=
  (M.ret (V.int .i64 0)).bind fun t2_1 =>
  (M.ret x0).bind fun t4_2 =>
  (load1 (glob (cfg G) 13)).bind fun t5_3 =>
  (callV (cfg G) call 99 [t4_2, t5_3]).bind fun t6_4 =>
  (M.ret t6_4).bind fun t3_5 =>
  (condV t3_5
   ((M.ret (V.int .i64 11)).bind fun t2_6 =>
  M.ret (Ex.ret, [t2_6]))
   ((M.ret x0).bind fun t8_7 =>
  (load1 (glob (cfg G) 1)).bind fun t9_8 =>
  (callV (cfg G) call 99 [t8_7, t9_8]).bind fun t10_9 =>
  (M.ret t10_9).bind fun t7_10 =>
  (condV t7_10
   ((M.ret (V.int .i64 12)).bind fun t2_11 =>
  M.ret (Ex.ret, [t2_11]))
   ((M.ret x0).bind fun t12_12 =>
  (load1 (glob (cfg G) 14)).bind fun t13_13 =>
  (callV (cfg G) call 99 [t12_12, t13_13]).bind fun t14_14 =>
  (M.ret t14_14).bind fun t11_15 =>
  (condV t11_15
   ((M.ret (V.int .i64 13)).bind fun t2_16 =>
  M.ret (Ex.ret, [t2_16]))
   ((M.ret x0).bind fun t16_17 =>
  (load1 (glob (cfg G) 15)).bind fun t17_18 =>
  (callV (cfg G) call 99 [t16_17, t17_18]).bind fun t18_19 =>
  (M.ret t18_19).bind fun t15_20 =>
  (condV t15_20
   ((M.ret (V.int .i64 14)).bind fun t2_21 =>
  M.ret (Ex.ret, [t2_21]))
   ((M.ret x0).bind fun t20_22 =>
  (load1 (glob (cfg G) 16)).bind fun t21_23 =>
  (callV (cfg G) call 99 [t20_22, t21_23]).bind fun t22_24 =>
  (M.ret t22_24).bind fun t19_25 =>
  (condV t19_25
   ((M.ret (V.int .i64 15)).bind fun t2_26 =>
  M.ret (Ex.ret, [t2_26]))
   ((M.ret x0).bind fun t24_27 =>
  (load1 (glob (cfg G) 17)).bind fun t25_28 =>
  (callV (cfg G) call 99 [t24_27, t25_28]).bind fun t26_29 =>
  (M.ret t26_29).bind fun t23_30 =>
  (condV t23_30
   ((M.ret (V.int .i64 16)).bind fun t2_31 =>
  M.ret (Ex.ret, [t2_31]))
   ((M.ret x0).bind fun t28_32 =>
  (load1 (glob (cfg G) 3)).bind fun t29_33 =>
  (callV (cfg G) call 99 [t28_32, t29_33]).bind fun t30_34 =>
  (M.ret t30_34).bind fun t27_35 =>
  (condV t27_35
   ((M.ret (V.int .i64 17)).bind fun t2_36 =>
  M.ret (Ex.ret, [t2_36]))
   ((M.ret x0).bind fun t32_37 =>
  (load1 (glob (cfg G) 18)).bind fun t33_38 =>
  (callV (cfg G) call 99 [t32_37, t33_38]).bind fun t34_39 =>
  (M.ret t34_39).bind fun t31_40 =>
  (condV t31_40
   ((M.ret (V.int .i64 18)).bind fun t2_41 =>
  M.ret (Ex.ret, [t2_41]))
   ((M.ret x0).bind fun t36_42 =>
  (load1 (glob (cfg G) 19)).bind fun t37_43 =>
  (callV (cfg G) call 99 [t36_42, t37_43]).bind fun t38_44 =>
  (M.ret t38_44).bind fun t35_45 =>
  (condV t35_45
   ((M.ret (V.int .i64 19)).bind fun t2_46 =>
  M.ret (Ex.ret, [t2_46]))
   ((M.ret x0).bind fun t40_47 =>
  (load1 (glob (cfg G) 20)).bind fun t41_48 =>
  (callV (cfg G) call 99 [t40_47, t41_48]).bind fun t42_49 =>
  (M.ret t42_49).bind fun t39_50 =>
  (condV t39_50
   ((M.ret (V.int .i64 20)).bind fun t2_51 =>
  M.ret (Ex.ret, [t2_51]))
   ((M.ret (V.int .i64 99)).bind fun t2_52 =>
  M.ret (Ex.ret, [t2_52])))))))))))))))))))))

theorem ferry_api_code_eq (G : Nat → Option (List V)) (n : Nat) (x0 : V) : sem (cfg G) (n + 1) 100 [x0] = outV (ferry_api_code G (sem (cfg G) n) x0) :=
  (fnV_at (C := cfg G) (n := n) (f := 100) (fn := Tryd.f100) (c := Tryd.f100.body.getD .skip) (by kernel_rfl) (by kernel_rfl) (by kernel_rfl) [x0]).trans (by kernel_rfl)

noncomputable def ferry_ferryref09_Pick_j1 (G : Nat → Option (List V)) (call : FuncId → List V → M V) (s0_11 : List V) (j4_43 : V) : M R :=
  (M.ret (s0_11.getD 1 V.undef)).bind fun t14_44 =>
  (M.lift (arithV .add t14_44 (V.int .i64 1))).bind fun t15_45 =>
  (M.ret t15_45).bind fun t5_46 =>
  M.ret (Ex.normal, [j4_43, t5_46])

noncomputable def ferry_ferryref09_Pick_l1 (G : Nat → Option (List V)) (call : FuncId → List V → M V) (t1_1 : V) (s0_11 : List V) : M R :=
  (M.ret (s0_11.getD 1 V.undef)).bind fun t9_12 =>
  (M.lift (padd 1 t1_1)).bind fun t10_13 =>
  (load1 t10_13).bind fun t11_14 =>
  (M.lift (lenV t11_14)).bind fun t12_15 =>
  (M.lift (arithV .lss t9_12 t12_15)).bind fun t13_16 =>
  (condV t13_16
   (((M.ret (s0_11.getD 0 V.undef)).bind fun y0_17 =>
  (M.lift (arithV .lss y0_17 (V.int .i64 0))).bind fun y1_18 =>
  (M.ret y1_18).bind fun y2_19 =>
  (guardV y2_19 false (M.lift (padd 0 t1_1))).bind fun y3_20 =>
  (guardV y2_19 false (load1 y3_20)).bind fun y4_21 =>
  (guardV y2_19 false (M.lift (padd 1 t1_1))).bind fun y5_22 =>
  (guardV y2_19 false (load1 y5_22)).bind fun y6_23 =>
  (guardV y2_19 false (M.ret (s0_11.getD 1 V.undef))).bind fun y7_24 =>
  (guardV y2_19 false (M.lift (idxV 1 y6_23 y7_24))).bind fun y8_25 =>
  (guardV y2_19 false (load1 y8_25)).bind fun y9_26 =>
  (guardV y2_19 false (M.lift (idxV 21 y4_21 y9_26))).bind fun y10_27 =>
  (guardV y2_19 false (M.lift (padd 18 y10_27))).bind fun y11_28 =>
  (guardV y2_19 false (load1 y11_28)).bind fun y12_29 =>
  (guardV y2_19 false (M.lift (padd 0 t1_1))).bind fun y13_30 =>
  (guardV y2_19 false (load1 y13_30)).bind fun y14_31 =>
  (guardV y2_19 false (M.ret (s0_11.getD 0 V.undef))).bind fun y15_32 =>
  (guardV y2_19 false (M.lift (idxV 21 y14_31 y15_32))).bind fun y16_33 =>
  (guardV y2_19 false (M.lift (padd 18 y16_33))).bind fun y17_34 =>
  (guardV y2_19 false (load1 y17_34)).bind fun y18_35 =>
  (guardV y2_19 false (M.lift (arithV .gtr y12_29 y18_35))).bind fun y19_36 =>
  (M.lift (pickV y2_19 (V.bool true) y19_36)).bind fun y20_37 =>
  (condV y20_37
   ((M.lift (padd 1 t1_1)).bind fun t37_47 =>
  (load1 t37_47).bind fun t38_48 =>
  (M.ret (s0_11.getD 1 V.undef)).bind fun t39_49 =>
  (M.lift (idxV 1 t38_48 t39_49)).bind fun t40_50 =>
  (load1 t40_50).bind fun t41_51 =>
  (M.ret t41_51).bind fun t4_52 =>
  ferry_ferryref09_Pick_j1 G call s0_11 t4_52)
   (ferry_ferryref09_Pick_j1 G call s0_11 (s0_11.getD 0 V.undef)))))
   (M.ret ((Ex.exit 0), [(s0_11.getD 0 V.undef), (s0_11.getD 1 V.undef)])))

noncomputable def ferry_ferryref09_Pick (G : Nat → Option (List V)) (call : FuncId → List V → M V) (x0 : V) : M R :=
  (newV x0).bind fun t1_1 =>
  (M.ret (V.int .i64 0)).bind fun t2_2 =>
  (M.ret (V.int .i64 0)).bind fun t3_3 =>
  (loadN 3 t1_1).bind fun t6_4 =>
  (callV (cfg G) call 48 [t6_4]).bind fun t7_5 =>
  (M.lift (unV .not t7_5)).bind fun t8_6 =>
  (condV t8_6
   ((M.ret (V.int .i64 0)).bind fun t2_7 =>
  (M.ret (V.int .i64 9)).bind fun t3_8 =>
  M.ret (Ex.ret, [V.tuple [t2_7, t3_8]]))
   ((M.ret (V.int .i64 (-1))).bind fun t4_9 =>
  (M.ret (V.int .i64 0)).bind fun t5_10 =>
  (loopV (ferry_ferryref09_Pick_l1 G call t1_1) [t4_9, t5_10]).bind fun r0_53 => match r0_53.1 with
  | .normal => M.fail
  | .exit k0_54 =>
    (if k0_54 = 0 then
    (M.ret (r0_53.2.getD 0 V.undef)).bind fun t42_55 =>
    (M.lift (arithV .lss t42_55 (V.int .i64 0))).bind fun t43_56 =>
    (condV t43_56
     ((M.ret (V.int .i64 0)).bind fun t2_57 =>
    (M.ret (V.int .i64 17)).bind fun t3_58 =>
    M.ret (Ex.ret, [V.tuple [t2_57, t3_58]]))
     ((M.ret (r0_53.2.getD 0 V.undef)).bind fun t44_59 =>
    (M.ret t44_59).bind fun t2_60 =>
    (M.ret (V.int .i64 0)).bind fun t3_61 =>
    M.ret (Ex.ret, [V.tuple [t2_60, t3_61]])))
    else M.fail)
  | .ret =>
    M.ret (Ex.ret, [V.tuple [t2_2, t3_3]])))

theorem ferry_ferryref09_Pick_eq (G : Nat → Option (List V)) (n : Nat) (x0 : V) : sem (cfg G) (n + 1) 46 [x0] = outV (ferry_ferryref09_Pick G (sem (cfg G) n) x0) :=
  (fnV_at (C := cfg G) (n := n) (f := 46) (fn := Tryd.f46) (c := Tryd.f46.body.getD .skip) (by kernel_rfl) (by kernel_rfl) (by kernel_rfl) [x0]).trans (by kernel_rfl)

end Go.Fv.Tr

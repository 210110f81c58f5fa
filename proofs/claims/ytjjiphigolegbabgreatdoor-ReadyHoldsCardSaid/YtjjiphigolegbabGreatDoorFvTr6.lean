/-
  The Go functions ferry/api.Code, ferry/api.Place, ferry/api.code, ferry/ferrylaw09.plain as plain terms. By an AI agent; no person has read it.
-/
import Derived.Test.YtjjiphigolegbabGreatDoorFvCf
set_option linter.unusedVariables false
set_option linter.unusedSimpArgs false
set_option linter.unusedSectionVars false
/-! The Go functions ferry/api.Code, ferry/api.Place, ferry/api.code, ferry/ferrylaw09.plain as plain terms. -/
namespace Go.Fv.Tr
open Go Go.Fv Go.Proofs
set_option linter.unusedVariables false

noncomputable def ferry_api_Code (G : Nat → Option (List V)) (call : FuncId → List V → M V) (x0 : V) : M R :=
  (M.ret (V.int .i64 0)).bind fun t2_1 =>
  (M.ret x0).bind fun t4_2 =>
  (M.lift ((eqV .iface true t4_2 V.nili).bind fun b => some (.bool b))).bind fun t5_3 =>
  (M.ret t5_3).bind fun t3_4 =>
  (condV t3_4
   ((M.ret (V.int .i64 0)).bind fun t2_5 =>
  M.ret (Ex.ret, [t2_5]))
   ((M.ret x0).bind fun t7_6 =>
  (load1 (glob (cfg G) 3)).bind fun t8_7 =>
  (callV (cfg G) call 61 [t7_6, t8_7]).bind fun t9_8 =>
  (M.ret t9_8).bind fun t6_9 =>
  (condV t6_9
   ((M.ret (V.int .i64 1)).bind fun t2_10 =>
  M.ret (Ex.ret, [t2_10]))
   ((M.ret x0).bind fun t11_11 =>
  (load1 (glob (cfg G) 4)).bind fun t12_12 =>
  (callV (cfg G) call 61 [t11_11, t12_12]).bind fun t13_13 =>
  (M.ret t13_13).bind fun t10_14 =>
  (condV t10_14
   ((M.ret (V.int .i64 2)).bind fun t2_15 =>
  M.ret (Ex.ret, [t2_15]))
   ((M.ret x0).bind fun t15_16 =>
  (load1 (glob (cfg G) 5)).bind fun t16_17 =>
  (callV (cfg G) call 61 [t15_16, t16_17]).bind fun t17_18 =>
  (M.ret t17_18).bind fun t14_19 =>
  (condV t14_19
   ((M.ret (V.int .i64 3)).bind fun t2_20 =>
  M.ret (Ex.ret, [t2_20]))
   ((M.ret x0).bind fun t19_21 =>
  (load1 (glob (cfg G) 6)).bind fun t20_22 =>
  (callV (cfg G) call 61 [t19_21, t20_22]).bind fun t21_23 =>
  (M.ret t21_23).bind fun t18_24 =>
  (condV t18_24
   ((M.ret (V.int .i64 4)).bind fun t2_25 =>
  M.ret (Ex.ret, [t2_25]))
   ((M.ret x0).bind fun t23_26 =>
  (load1 (glob (cfg G) 7)).bind fun t24_27 =>
  (callV (cfg G) call 61 [t23_26, t24_27]).bind fun t25_28 =>
  (M.ret t25_28).bind fun t22_29 =>
  (condV t22_29
   ((M.ret (V.int .i64 5)).bind fun t2_30 =>
  M.ret (Ex.ret, [t2_30]))
   ((M.ret x0).bind fun t27_31 =>
  (load1 (glob (cfg G) 8)).bind fun t28_32 =>
  (callV (cfg G) call 61 [t27_31, t28_32]).bind fun t29_33 =>
  (M.ret t29_33).bind fun t26_34 =>
  (condV t26_34
   ((M.ret (V.int .i64 6)).bind fun t2_35 =>
  M.ret (Ex.ret, [t2_35]))
   ((M.ret x0).bind fun t31_36 =>
  (load1 (glob (cfg G) 9)).bind fun t32_37 =>
  (callV (cfg G) call 61 [t31_36, t32_37]).bind fun t33_38 =>
  (M.ret t33_38).bind fun t30_39 =>
  (condV t30_39
   ((M.ret (V.int .i64 7)).bind fun t2_40 =>
  M.ret (Ex.ret, [t2_40]))
   ((M.ret x0).bind fun t35_41 =>
  (load1 (glob (cfg G) 10)).bind fun t36_42 =>
  (callV (cfg G) call 61 [t35_41, t36_42]).bind fun t37_43 =>
  (M.ret t37_43).bind fun t34_44 =>
  (condV t34_44
   ((M.ret (V.int .i64 8)).bind fun t2_45 =>
  M.ret (Ex.ret, [t2_45]))
   ((M.ret x0).bind fun t39_46 =>
  (load1 (glob (cfg G) 1)).bind fun t40_47 =>
  (callV (cfg G) call 61 [t39_46, t40_47]).bind fun t41_48 =>
  (M.ret t41_48).bind fun t38_49 =>
  (condV t38_49
   ((M.ret (V.int .i64 9)).bind fun t2_50 =>
  M.ret (Ex.ret, [t2_50]))
   ((M.ret x0).bind fun t43_51 =>
  (load1 (glob (cfg G) 11)).bind fun t44_52 =>
  (callV (cfg G) call 61 [t43_51, t44_52]).bind fun t45_53 =>
  (M.ret t45_53).bind fun t42_54 =>
  (condV t42_54
   ((M.ret (V.int .i64 10)).bind fun t2_55 =>
  M.ret (Ex.ret, [t2_55]))
   ((M.ret x0).bind fun t46_56 =>
  (callV (cfg G) call 62 [t46_56]).bind fun t47_57 =>
  (M.ret t47_57).bind fun t2_58 =>
  M.ret (Ex.ret, [t2_58])))))))))))))))))))))))

theorem ferry_api_Code_eq (G : Nat → Option (List V)) (n : Nat) (x0 : V) : sem (cfg G) (n + 1) 40 [x0] = outV (ferry_api_Code G (sem (cfg G) n) x0) :=
  (fnV_at (C := cfg G) (n := n) (f := 40) (fn := Tryz.f40) (c := Tryz.f40.body.getD .skip) (by kernel_rfl) (by kernel_rfl) (by kernel_rfl) [x0]).trans (by kernel_rfl)

noncomputable def ferry_api_Place (G : Nat → Option (List V)) (call : FuncId → List V → M V) (x0 : V) : M R :=
  (M.ret (V.int .i64 0)).bind fun t2_1 =>
  (newV (.agg [V.nilp])).bind fun t3_2 =>
  (M.ret x0).bind fun t4_3 =>
  (M.lift (ifaceV 106 t3_2)).bind fun t5_4 =>
  (callV (cfg G) call 63 [t4_3, t5_4]).bind fun t6_5 =>
  (condV t6_5
   ((load1 t3_2).bind fun t7_6 =>
  (M.lift (nilCheckV t7_6)).bind fun t8_7 =>
  (M.lift (padd 0 t8_7)).bind fun t9_8 =>
  (load1 t9_8).bind fun t10_9 =>
  (M.ret t10_9).bind fun t2_10 =>
  M.ret (Ex.ret, [t2_10]))
   ((M.ret (V.int .i64 (-1))).bind fun t2_11 =>
  M.ret (Ex.ret, [t2_11])))

theorem ferry_api_Place_eq (G : Nat → Option (List V)) (n : Nat) (x0 : V) : sem (cfg G) (n + 1) 41 [x0] = outV (ferry_api_Place G (sem (cfg G) n) x0) :=
  (fnV_at (C := cfg G) (n := n) (f := 41) (fn := Tryz.f41) (c := Tryz.f41.body.getD .skip) (by kernel_rfl) (by kernel_rfl) (by kernel_rfl) [x0]).trans (by kernel_rfl)

noncomputable def ferry_api_code (G : Nat → Option (List V)) (call : FuncId → List V → M V) (x0 : V) : M R :=
  (M.ret (V.int .i64 0)).bind fun t2_1 =>
  (M.ret x0).bind fun t4_2 =>
  (load1 (glob (cfg G) 12)).bind fun t5_3 =>
  (callV (cfg G) call 61 [t4_2, t5_3]).bind fun t6_4 =>
  (M.ret t6_4).bind fun t3_5 =>
  (condV t3_5
   ((M.ret (V.int .i64 11)).bind fun t2_6 =>
  M.ret (Ex.ret, [t2_6]))
   ((M.ret x0).bind fun t8_7 =>
  (load1 (glob (cfg G) 0)).bind fun t9_8 =>
  (callV (cfg G) call 61 [t8_7, t9_8]).bind fun t10_9 =>
  (M.ret t10_9).bind fun t7_10 =>
  (condV t7_10
   ((M.ret (V.int .i64 12)).bind fun t2_11 =>
  M.ret (Ex.ret, [t2_11]))
   ((M.ret x0).bind fun t12_12 =>
  (load1 (glob (cfg G) 13)).bind fun t13_13 =>
  (callV (cfg G) call 61 [t12_12, t13_13]).bind fun t14_14 =>
  (M.ret t14_14).bind fun t11_15 =>
  (condV t11_15
   ((M.ret (V.int .i64 13)).bind fun t2_16 =>
  M.ret (Ex.ret, [t2_16]))
   ((M.ret x0).bind fun t16_17 =>
  (load1 (glob (cfg G) 14)).bind fun t17_18 =>
  (callV (cfg G) call 61 [t16_17, t17_18]).bind fun t18_19 =>
  (M.ret t18_19).bind fun t15_20 =>
  (condV t15_20
   ((M.ret (V.int .i64 14)).bind fun t2_21 =>
  M.ret (Ex.ret, [t2_21]))
   ((M.ret x0).bind fun t20_22 =>
  (load1 (glob (cfg G) 15)).bind fun t21_23 =>
  (callV (cfg G) call 61 [t20_22, t21_23]).bind fun t22_24 =>
  (M.ret t22_24).bind fun t19_25 =>
  (condV t19_25
   ((M.ret (V.int .i64 15)).bind fun t2_26 =>
  M.ret (Ex.ret, [t2_26]))
   ((M.ret x0).bind fun t24_27 =>
  (load1 (glob (cfg G) 16)).bind fun t25_28 =>
  (callV (cfg G) call 61 [t24_27, t25_28]).bind fun t26_29 =>
  (M.ret t26_29).bind fun t23_30 =>
  (condV t23_30
   ((M.ret (V.int .i64 16)).bind fun t2_31 =>
  M.ret (Ex.ret, [t2_31]))
   ((M.ret x0).bind fun t28_32 =>
  (load1 (glob (cfg G) 2)).bind fun t29_33 =>
  (callV (cfg G) call 61 [t28_32, t29_33]).bind fun t30_34 =>
  (M.ret t30_34).bind fun t27_35 =>
  (condV t27_35
   ((M.ret (V.int .i64 17)).bind fun t2_36 =>
  M.ret (Ex.ret, [t2_36]))
   ((M.ret x0).bind fun t32_37 =>
  (load1 (glob (cfg G) 17)).bind fun t33_38 =>
  (callV (cfg G) call 61 [t32_37, t33_38]).bind fun t34_39 =>
  (M.ret t34_39).bind fun t31_40 =>
  (condV t31_40
   ((M.ret (V.int .i64 18)).bind fun t2_41 =>
  M.ret (Ex.ret, [t2_41]))
   ((M.ret x0).bind fun t36_42 =>
  (load1 (glob (cfg G) 18)).bind fun t37_43 =>
  (callV (cfg G) call 61 [t36_42, t37_43]).bind fun t38_44 =>
  (M.ret t38_44).bind fun t35_45 =>
  (condV t35_45
   ((M.ret (V.int .i64 19)).bind fun t2_46 =>
  M.ret (Ex.ret, [t2_46]))
   ((M.ret x0).bind fun t40_47 =>
  (load1 (glob (cfg G) 19)).bind fun t41_48 =>
  (callV (cfg G) call 61 [t40_47, t41_48]).bind fun t42_49 =>
  (M.ret t42_49).bind fun t39_50 =>
  (condV t39_50
   ((M.ret (V.int .i64 20)).bind fun t2_51 =>
  M.ret (Ex.ret, [t2_51]))
   ((M.ret (V.int .i64 99)).bind fun t2_52 =>
  M.ret (Ex.ret, [t2_52])))))))))))))))))))))

theorem ferry_api_code_eq (G : Nat → Option (List V)) (n : Nat) (x0 : V) : sem (cfg G) (n + 1) 62 [x0] = outV (ferry_api_code G (sem (cfg G) n) x0) :=
  (fnV_at (C := cfg G) (n := n) (f := 62) (fn := Tryz.f62) (c := Tryz.f62.body.getD .skip) (by kernel_rfl) (by kernel_rfl) (by kernel_rfl) [x0]).trans (by kernel_rfl)

noncomputable def ferry_ferrylaw09_plain (G : Nat → Option (List V)) (call : FuncId → List V → M V) (x0 : V) (x1 : V) : M R :=
  (M.ret (V.bool false)).bind fun t4_1 =>
  (M.ret x0).bind fun t5_2 =>
  (callV (cfg G) call 40 [t5_2]).bind fun t6_3 =>
  (M.ret x1).bind fun t7_4 =>
  (M.lift ((eqV (.sc .int) false t6_3 t7_4).bind fun b => some (.bool b))).bind fun t8_5 =>
  (M.ret t8_5).bind fun t9_6 =>
  (guardV t9_6 true (M.ret x0)).bind fun t10_7 =>
  (guardV t9_6 true (callV (cfg G) call 41 [t10_7])).bind fun t11_8 =>
  (guardV t9_6 true (M.lift ((eqV (.sc .int) true t11_8 (V.int .i64 (-1))).bind fun b => some (.bool b)))).bind fun t12_9 =>
  (M.lift (pickV t9_6 t12_9 (V.bool false))).bind fun t13_10 =>
  (M.ret t13_10).bind fun t4_11 =>
  M.ret (Ex.ret, [t4_11])

theorem ferry_ferrylaw09_plain_eq (G : Nat → Option (List V)) (n : Nat) (x0 : V) (x1 : V) : sem (cfg G) (n + 1) 22 [x0, x1] = outV (ferry_ferrylaw09_plain G (sem (cfg G) n) x0 x1) :=
  (fnV_at (C := cfg G) (n := n) (f := 22) (fn := Tryz.f22) (c := Tryz.f22.body.getD .skip) (by kernel_rfl) (by kernel_rfl) (by kernel_rfl) [x0, x1]).trans (by kernel_rfl)

end Go.Fv.Tr

/-
  The Go functions ferry/timer.without, ferry/timer.Set, ferry/timer.Fire as plain terms. By an AI agent; no person has read it.
-/
import Derived.Test.YtjjiphigolegbabGreatDoorFvCf
set_option linter.unusedVariables false
set_option linter.unusedSimpArgs false
set_option linter.unusedSectionVars false
/-! The Go functions ferry/timer.without, ferry/timer.Set, ferry/timer.Fire as plain terms. -/
namespace Go.Fv.Tr
open Go Go.Fv Go.Proofs
set_option linter.unusedVariables false

noncomputable def ferry_timer_without (G : Nat → Option (List V)) (call : FuncId → List V → M V) (x0 : V) (x1 : V) : M R :=
  (newV x1).bind fun t3_1 =>
  (M.ret V.nils).bind fun t4_2 =>
  (M.ret x0).bind fun t5_3 =>
  (callV (cfg G) call 69 [t5_3]).bind fun t6_4 =>
  (M.ret (V.fn 71 [t3_1])).bind fun t7_5 =>
  (callV (cfg G) call 57 [t6_4, t7_5]).bind fun t8_6 =>
  (M.ret t8_6).bind fun t4_7 =>
  M.ret (Ex.ret, [t4_7])

theorem ferry_timer_without_eq (G : Nat → Option (List V)) (n : Nat) (x0 : V) (x1 : V) : sem (cfg G) (n + 1) 54 [x0, x1] = outV (ferry_timer_without G (sem (cfg G) n) x0 x1) :=
  (fnV_at (C := cfg G) (n := n) (f := 54) (fn := Tryz.f54) (c := Tryz.f54.body.getD .skip) (by kernel_rfl) (by kernel_rfl) (by kernel_rfl) [x0, x1]).trans (by kernel_rfl)

noncomputable def ferry_timer_Set (G : Nat → Option (List V)) (call : FuncId → List V → M V) (x0 : V) (x1 : V) (x2 : V) : M R :=
  (M.ret V.nils).bind fun t6_1 =>
  (M.ret V.nili).bind fun t7_2 =>
  (M.ret x0).bind fun t10_3 =>
  (callV (cfg G) call 52 [t10_3, (V.int .i64 8)]).bind fun t11_4 =>
  (M.lift (unV .not t11_4)).bind fun t12_5 =>
  (condV t12_5
   (((load1 (glob (cfg G) 1)).bind fun y0_6 =>
  (M.ret V.nils).bind fun y1_7 =>
  (M.ret y0_6).bind fun y2_8 =>
  M.ret (Ex.ret, [V.tuple [y1_7, y2_8]])))
   ((M.ret x1).bind fun t14_9 =>
  (M.ret x2).bind fun t15_10 =>
  (M.lift (buildV [(V.int .i64 0), (V.int .i64 0)] [(0, 1, t14_9), (1, 1, t15_10)])).bind fun t16_11 =>
  (newV (.agg [(V.int .i64 0), (V.int .i64 0)])).bind fun t8_12 =>
  (storeN 2 t8_12 t16_11).bind fun _ =>
  (loadN 2 t8_12).bind fun t17_13 =>
  (callV (cfg G) call 53 [t17_13, (V.int .i64 8)]).bind fun t18_14 =>
  (M.lift (unV .not t18_14)).bind fun t19_15 =>
  (condV t19_15
   (((load1 (glob (cfg G) 0)).bind fun y0_16 =>
  (M.ret V.nils).bind fun y1_17 =>
  (M.ret y0_16).bind fun y2_18 =>
  M.ret (Ex.ret, [V.tuple [y1_17, y2_18]])))
   ((getN.bind fun n_19 =>
  (M.ret x0).bind fun y0_20 =>
  getN.bind fun n_21 =>
  (M.ret x1).bind fun y1_22 =>
  getN.bind fun n_23 =>
  (qrun (visB n_19 [(n_21, n_23, true), (n_19, n_21, true)]) (callV (cfg G) call 54 [y0_20, y1_22])).bind fun y2_24 =>
  getN.bind fun n_25 =>
  (loadN 2 t8_12).bind fun y3_26 =>
  getN.bind fun n_27 =>
  (sliceV 2 1 [(V.int .i64 0), (V.int .i64 0)] [(0, y3_26)]).bind fun y4_28 =>
  getN.bind fun n_29 =>
  (trun (visB n_19 [(n_27, n_29, true), (n_25, n_27, true), (n_23, n_25, true), (n_21, n_23, true), (n_19, n_21, true)]) (appV 2 16 y2_24 y4_28)).bind fun y5_30 =>
  (M.ret y5_30).bind fun y6_31 =>
  (M.ret y6_31).bind fun t27_32 =>
  (callV (cfg G) call 55 [t27_32, (V.fn 56 [])]).bind fun t28_33 =>
  (M.ret y6_31).bind fun t29_34 =>
  (M.ret t29_34).bind fun t6_35 =>
  (M.ret V.nili).bind fun t7_36 =>
  M.ret (Ex.ret, [V.tuple [t6_35, t7_36]]))))))

theorem ferry_timer_Set_eq (G : Nat → Option (List V)) (n : Nat) (x0 : V) (x1 : V) (x2 : V) : sem (cfg G) (n + 1) 37 [x0, x1, x2] = outV (ferry_timer_Set G (sem (cfg G) n) x0 x1 x2) :=
  (fnV_at (C := cfg G) (n := n) (f := 37) (fn := Tryz.f37) (c := Tryz.f37.body.getD .skip) (by kernel_rfl) (by kernel_rfl) (by kernel_rfl) [x0, x1, x2]).trans (by kernel_rfl)

noncomputable def ferry_timer_Fire_l1 (G : Nat → Option (List V)) (call : FuncId → List V → M V) (t16_14 : V) (t15_13 : V) (x1 : V) (s0_16 : List V) : M R :=
  (M.lift (arithV .lss (s0_16.getD 2 V.undef) t16_14)).bind fun t18_17 =>
  (condV t18_17
   ((M.lift (idxV 2 t15_13 (s0_16.getD 2 V.undef))).bind fun t19_18 =>
  (loadN 2 t19_18).bind fun t20_19 =>
  (newV (.agg [(V.int .i64 0), (V.int .i64 0)])).bind fun t10_20 =>
  (storeN 2 t10_20 t20_19).bind fun _ =>
  (M.lift (padd 1 t10_20)).bind fun t21_21 =>
  (load1 t21_21).bind fun t22_22 =>
  (M.ret x1).bind fun t23_23 =>
  (M.lift (arithV .leq t22_22 t23_23)).bind fun t24_24 =>
  (condV t24_24
   ((M.ret (s0_16.getD 0 V.undef)).bind fun t25_38 =>
  (M.lift (padd 0 t10_20)).bind fun t26_39 =>
  (load1 t26_39).bind fun t27_40 =>
  (sliceV 1 1 [(V.int .i64 0)] [(0, t27_40)]).bind fun t28_41 =>
  (appV 1 8 t25_38 t28_41).bind fun t29_42 =>
  (M.ret t29_42).bind fun t7_43 =>
  (M.lift (arithV .add (s0_16.getD 2 V.undef) (V.int .i64 1))).bind fun t34_44 =>
  (M.ret t34_44).bind fun t17_45 =>
  M.ret (Ex.normal, [t7_43, (s0_16.getD 1 V.undef), t17_45]))
   ((M.ret (s0_16.getD 1 V.undef)).bind fun t30_46 =>
  (loadN 2 t10_20).bind fun t31_47 =>
  (sliceV 2 1 [(V.int .i64 0), (V.int .i64 0)] [(0, t31_47)]).bind fun t32_48 =>
  (appV 2 16 t30_46 t32_48).bind fun t33_49 =>
  (M.ret t33_49).bind fun t8_50 =>
  (M.lift (arithV .add (s0_16.getD 2 V.undef) (V.int .i64 1))).bind fun t34_51 =>
  (M.ret t34_51).bind fun t17_52 =>
  M.ret (Ex.normal, [(s0_16.getD 0 V.undef), t8_50, t17_52]))))
   (M.ret ((Ex.exit 0), [(s0_16.getD 0 V.undef), (s0_16.getD 1 V.undef), (s0_16.getD 2 V.undef)])))

noncomputable def ferry_timer_Fire (G : Nat → Option (List V)) (call : FuncId → List V → M V) (x0 : V) (x1 : V) : M R :=
  (M.ret V.nils).bind fun t4_1 =>
  (M.ret V.nils).bind fun t5_2 =>
  (M.ret V.nili).bind fun t6_3 =>
  (M.ret x0).bind fun t11_4 =>
  (callV (cfg G) call 52 [t11_4, (V.int .i64 8)]).bind fun t12_5 =>
  (M.lift (unV .not t12_5)).bind fun t13_6 =>
  (condV t13_6
   (((load1 (glob (cfg G) 1)).bind fun y0_7 =>
  (M.ret V.nils).bind fun y1_8 =>
  (M.ret V.nils).bind fun y2_9 =>
  (M.ret y0_7).bind fun y3_10 =>
  M.ret (Ex.ret, [V.tuple [y1_8, y2_9, y3_10]])))
   ((M.ret V.nils).bind fun t7_11 =>
  (M.ret V.nils).bind fun t8_12 =>
  (M.ret x0).bind fun t15_13 =>
  (M.lift (lenV t15_13)).bind fun t16_14 =>
  (M.ret (V.int .i64 0)).bind fun t17_15 =>
  (loopV (ferry_timer_Fire_l1 G call t16_14 t15_13 x1) [t7_11, t8_12, t17_15]).bind fun r0_53 => match r0_53.1 with
  | .normal => M.fail
  | .exit k0_54 =>
    (if k0_54 = 0 then
    (M.ret (r0_53.2.getD 0 V.undef)).bind fun t35_55 =>
    (M.ret (r0_53.2.getD 1 V.undef)).bind fun t36_56 =>
    (M.ret t35_55).bind fun t4_57 =>
    (M.ret t36_56).bind fun t5_58 =>
    (M.ret V.nili).bind fun t6_59 =>
    M.ret (Ex.ret, [V.tuple [t4_57, t5_58, t6_59]])
    else M.fail)
  | .ret =>
    M.ret (Ex.ret, [V.tuple [t4_1, t5_2, t6_3]])))

theorem ferry_timer_Fire_eq (G : Nat → Option (List V)) (n : Nat) (x0 : V) (x1 : V) : sem (cfg G) (n + 1) 65 [x0, x1] = outV (ferry_timer_Fire G (sem (cfg G) n) x0 x1) :=
  (fnV_at (C := cfg G) (n := n) (f := 65) (fn := Tryz.f65) (c := Tryz.f65.body.getD .skip) (by kernel_rfl) (by kernel_rfl) (by kernel_rfl) [x0, x1]).trans (by kernel_rfl)

end Go.Fv.Tr

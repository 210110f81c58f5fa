/-
  The Go functions ferry/timer.Shift as plain terms. By an AI agent; no person has read it.
-/
import Derived.Test.YtjjiphigolegbabDoorFvCf
set_option linter.unusedVariables false
set_option linter.unusedSimpArgs false
set_option linter.unusedSectionVars false
/-! The Go functions ferry/timer.Shift as plain terms. -/
namespace Go.Fv.Tr
open Go Go.Fv Go.Proofs
set_option linter.unusedVariables false
set_option maxRecDepth 20000

noncomputable def ferry_timer_Shift_l1 (G : Nat → Option (List V)) (call : FuncId → List V → M V) (t22_22 : V) (t6_20 : V) (x1 : V) (s0_24 : List V) : M R :=
  (M.lift (arithV .lss (s0_24.getD 0 V.undef) t22_22)).bind fun t24_25 =>
  (condV t24_25
   ((M.ret (s0_24.getD 0 V.undef)).bind fun t25_26 =>
  (M.ret t25_26).bind fun t7_27 =>
  (M.ret t6_20).bind fun t26_28 =>
  (M.ret t7_27).bind fun t27_29 =>
  (M.ret t6_20).bind fun t28_30 =>
  (M.ret t7_27).bind fun t29_31 =>
  (M.lift (idxV 2 t28_30 t29_31)).bind fun t30_32 =>
  (M.lift (padd 1 t30_32)).bind fun t31_33 =>
  (load1 t31_33).bind fun t32_34 =>
  (M.ret x1).bind fun t33_35 =>
  (M.lift (arithV .sub t32_34 t33_35)).bind fun t34_36 =>
  (M.lift (maxV t34_36 (V.int .i64 0))).bind fun t35_37 =>
  (M.lift (idxV 2 t26_28 t27_29)).bind fun t36_38 =>
  (M.lift (padd 1 t36_38)).bind fun t37_39 =>
  (storeN 1 t37_39 t35_37).bind fun _ =>
  (M.lift (arithV .add (s0_24.getD 0 V.undef) (V.int .i64 1))).bind fun t38_40 =>
  (M.ret t38_40).bind fun t23_41 =>
  M.ret (Ex.normal, [t23_41]))
   (M.ret ((Ex.exit 0), [(s0_24.getD 0 V.undef)])))

noncomputable def ferry_timer_Shift (G : Nat → Option (List V)) (call : FuncId → List V → M V) (x0 : V) (x1 : V) : M R :=
  (M.ret V.nils).bind fun t4_1 =>
  (M.ret V.nili).bind fun t5_2 =>
  (M.ret x0).bind fun t8_3 =>
  (callV (cfg G) call 66 [t8_3, (V.int .i64 8)]).bind fun t9_4 =>
  (M.lift (unV .not t9_4)).bind fun t10_5 =>
  (condV t10_5
   (((load1 (glob (cfg G) 0)).bind fun y0_6 =>
  (M.ret V.nils).bind fun y1_7 =>
  (M.ret y0_6).bind fun y2_8 =>
  M.ret (Ex.ret, [V.tuple [y1_7, y2_8]])))
   ((M.ret x1).bind fun t12_9 =>
  (M.lift (arithV .lss t12_9 (V.int .i64 1))).bind fun t13_10 =>
  (M.ret t13_10).bind fun t14_11 =>
  (guardV t14_11 false (M.ret x1)).bind fun t15_12 =>
  (guardV t14_11 false (M.lift (arithV .gtr t15_12 (V.int .i64 10000)))).bind fun t16_13 =>
  (M.lift (pickV t14_11 (V.bool true) t16_13)).bind fun t17_14 =>
  (condV t17_14
   (((load1 (glob (cfg G) 1)).bind fun y0_15 =>
  (M.ret V.nils).bind fun y1_16 =>
  (M.ret y0_15).bind fun y2_17 =>
  M.ret (Ex.ret, [V.tuple [y1_16, y2_17]])))
   ((M.ret x0).bind fun t19_18 =>
  (callV (cfg G) call 71 [t19_18]).bind fun t20_19 =>
  (M.ret t20_19).bind fun t6_20 =>
  (M.ret t6_20).bind fun t21_21 =>
  (M.lift (lenV t21_21)).bind fun t22_22 =>
  (M.ret (V.int .i64 0)).bind fun t23_23 =>
  (loopV (ferry_timer_Shift_l1 G call t22_22 t6_20 x1) [t23_23]).bind fun r0_42 => match r0_42.1 with
  | .normal => M.fail
  | .exit k0_43 =>
    (if k0_43 = 0 then
    (M.ret t6_20).bind fun t39_44 =>
    (callV (cfg G) call 69 [t39_44, (V.fn 70 [])]).bind fun t40_45 =>
    (M.ret t6_20).bind fun t41_46 =>
    (M.ret t41_46).bind fun t4_47 =>
    (M.ret V.nili).bind fun t5_48 =>
    M.ret (Ex.ret, [V.tuple [t4_47, t5_48]])
    else M.fail)
  | .ret =>
    M.ret (Ex.ret, [V.tuple [t4_1, t5_2]])))))

theorem ferry_timer_Shift_eq (G : Nat → Option (List V)) (n : Nat) (x0 : V) (x1 : V) : sem (cfg G) (n + 1) 25 [x0, x1] = outV (ferry_timer_Shift G (sem (cfg G) n) x0 x1) :=
  (fnV_at (C := cfg G) (n := n) (f := 25) (fn := Tryd.f25) (c := Tryd.f25.body.getD .skip) (by kernel_rfl) (by kernel_rfl) (by kernel_rfl) [x0, x1]).trans (by kernel_rfl)

end Go.Fv.Tr

/-
  The Go functions ferry/ferryref25.digit, ferry/ferryref25.Data, ferry/ferryref25.Rights, ferry/ferryref25.Word, ferry/ferryref25.Many, ferry/ferryref25.PrintOp, ferry/ferryref25.part, ferry/ferryref25.Print as plain terms. By an AI agent; no person has read it.
-/
import Derived.Test.YtoogammidjhfgaaDoorFvCf
import Derived.Test.YtoogammidjhfgaaDoorFvW4
set_option linter.unusedVariables false
set_option linter.unusedSimpArgs false
set_option linter.unusedSectionVars false
/-! The Go functions ferry/ferryref25.digit, ferry/ferryref25.Data, ferry/ferryref25.Rights, ferry/ferryref25.Word, ferry/ferryref25.Many, ferry/ferryref25.PrintOp, ferry/ferryref25.part, ferry/ferryref25.Print as plain terms. -/
namespace Go.Fv.Tr
open Go Go.Fv Go.Proofs
set_option linter.unusedVariables false
set_option maxRecDepth 20000

noncomputable def ferry_ferryref25_digit (G : Nat → Option (List V)) (call : FuncId → List V → M V) (x0 : V) : M R :=
  (M.ret (V.int .u8 0)).bind fun t2_1 =>
  (M.ret x0).bind fun t3_2 =>
  (M.lift (arithV .lss t3_2 (V.int .i64 10))).bind fun t4_3 =>
  (condV t4_3
   ((M.ret x0).bind fun t5_4 =>
  (M.lift (arithV .add (V.int .i64 48) t5_4)).bind fun t6_5 =>
  (M.lift (convI .u8 t6_5)).bind fun t7_6 =>
  (M.ret t7_6).bind fun t2_7 =>
  M.ret (Ex.ret, [t2_7]))
   ((M.ret x0).bind fun t8_8 =>
  (M.lift (arithV .add (V.int .i64 97) t8_8)).bind fun t9_9 =>
  (M.lift (arithV .sub t9_9 (V.int .i64 10))).bind fun t10_10 =>
  (M.lift (convI .u8 t10_10)).bind fun t11_11 =>
  (M.ret t11_11).bind fun t2_12 =>
  M.ret (Ex.ret, [t2_12])))

theorem ferry_ferryref25_digit_eq (G : Nat → Option (List V)) (n : Nat) (x0 : V) : sem (cfg G) (n + 1) 148 [x0] = outV (ferry_ferryref25_digit G (sem (cfg G) n) x0) :=
  (fnV_at (C := cfg G) (n := n) (f := 148) (fn := Tryd.f148) (c := Tryd.f148.body.getD .skip) (by kernel_rfl) (by kernel_rfl) (by kernel_rfl) [x0]).trans (by kernel_rfl)

noncomputable def ferry_ferryref25_Data_l1 (G : Nat → Option (List V)) (call : FuncId → List V → M V) (x0 : V) (s0_9 : List V) : M R :=
  (M.ret (s0_9.getD 1 V.undef)).bind fun t9_10 =>
  (M.ret x0).bind fun t10_11 =>
  (M.lift (lenS t10_11)).bind fun t11_12 =>
  (M.lift (arithV .lss t9_10 t11_12)).bind fun t12_13 =>
  (condV t12_13
   ((M.ret (s0_9.getD 0 V.undef)).bind fun t15_14 =>
  (M.ret x0).bind fun t16_15 =>
  (M.ret (s0_9.getD 1 V.undef)).bind fun t17_16 =>
  (M.lift (indexS t16_15 t17_16)).bind fun t18_17 =>
  (M.lift (convI .i64 t18_17)).bind fun t19_18 =>
  (M.lift (arithV .quo t19_18 (V.int .i64 16))).bind fun t20_19 =>
  (callV (cfg G) call 148 [t20_19]).bind fun t21_20 =>
  (sliceV 1 1 [(V.int .u8 0)] [(0, t21_20)]).bind fun t22_21 =>
  (appV 1 1 t15_14 t22_21).bind fun t23_22 =>
  (M.ret t23_22).bind fun t3_23 =>
  (M.ret t3_23).bind fun t24_24 =>
  (M.ret x0).bind fun t25_25 =>
  (M.ret (s0_9.getD 1 V.undef)).bind fun t26_26 =>
  (M.lift (indexS t25_25 t26_26)).bind fun t27_27 =>
  (M.lift (convI .i64 t27_27)).bind fun t28_28 =>
  (M.lift (arithV .rem t28_28 (V.int .i64 16))).bind fun t29_29 =>
  (callV (cfg G) call 148 [t29_29]).bind fun t30_30 =>
  (sliceV 1 1 [(V.int .u8 0)] [(0, t30_30)]).bind fun t31_31 =>
  (appV 1 1 t24_24 t31_31).bind fun t32_32 =>
  (M.ret t32_32).bind fun t3_33 =>
  (M.ret (s0_9.getD 1 V.undef)).bind fun t13_34 =>
  (M.lift (arithV .add t13_34 (V.int .i64 1))).bind fun t14_35 =>
  (M.ret t14_35).bind fun t4_36 =>
  M.ret (Ex.normal, [t3_33, t4_36]))
   (M.ret ((Ex.exit 0), [(s0_9.getD 0 V.undef), (s0_9.getD 1 V.undef)])))

noncomputable def ferry_ferryref25_Data (G : Nat → Option (List V)) (call : FuncId → List V → M V) (x0 : V) : M R :=
  (M.ret (V.str ⟨#[]⟩)).bind fun t2_1 =>
  (M.ret x0).bind fun t5_2 =>
  (M.lift (lenS t5_2)).bind fun t6_3 =>
  (M.lift ((eqV (.sc .int) true t6_3 (V.int .i64 0)).bind fun b => some (.bool b))).bind fun t7_4 =>
  (condV t7_4
   ((M.ret (V.str ⟨#[45]⟩)).bind fun t2_5 =>
  M.ret (Ex.ret, [t2_5]))
   ((sliceV 1 0 [(V.int .u8 0)] []).bind fun t8_6 =>
  (M.ret t8_6).bind fun t3_7 =>
  (M.ret (V.int .i64 0)).bind fun t4_8 =>
  (loopV (ferry_ferryref25_Data_l1 G call x0) [t3_7, t4_8]).bind fun r0_37 => match r0_37.1 with
  | .normal => M.fail
  | .exit k0_38 =>
    (if k0_38 = 0 then
    (M.ret (r0_37.2.getD 0 V.undef)).bind fun t33_39 =>
    (readBytes t33_39).bind fun t34_40 =>
    (M.ret t34_40).bind fun t2_41 =>
    M.ret (Ex.ret, [t2_41])
    else M.fail)
  | .ret =>
    M.ret (Ex.ret, [t2_1])))

theorem ferry_ferryref25_Data_eq (G : Nat → Option (List V)) (n : Nat) (x0 : V) : sem (cfg G) (n + 1) 90 [x0] = outV (ferry_ferryref25_Data G (sem (cfg G) n) x0) :=
  (fnV_at (C := cfg G) (n := n) (f := 90) (fn := Tryd.f90) (c := Tryd.f90.body.getD .skip) (by kernel_rfl) (by kernel_rfl) (by kernel_rfl) [x0]).trans (by kernel_rfl)

noncomputable def ferry_ferryref25_Rights_j1 (G : Nat → Option (List V)) (call : FuncId → List V → M V) (j3_22 : V) : M R :=
  (M.ret j3_22).bind fun t21_23 =>
  (M.lift ((eqV (.sc .str) true t21_23 (V.str ⟨#[]⟩)).bind fun b => some (.bool b))).bind fun t22_24 =>
  (condV t22_24
   ((M.ret (V.str ⟨#[45]⟩)).bind fun t2_25 =>
  M.ret (Ex.ret, [t2_25]))
   ((M.ret j3_22).bind fun t23_26 =>
  (M.ret t23_26).bind fun t2_27 =>
  M.ret (Ex.ret, [t2_27])))

noncomputable def ferry_ferryref25_Rights_j2 (G : Nat → Option (List V)) (call : FuncId → List V → M V) (x0 : V) (j3_15 : V) : M R :=
  (M.ret x0).bind fun t15_16 =>
  (M.lift (arithV .quo t15_16 (V.int .i64 4))).bind fun t16_17 =>
  (M.lift (arithV .rem t16_17 (V.int .i64 2))).bind fun t17_18 =>
  (M.lift ((eqV (.sc .int) true t17_18 (V.int .i64 1)).bind fun b => some (.bool b))).bind fun t18_19 =>
  (condV t18_19
   ((M.ret j3_15).bind fun t19_28 =>
  (M.lift (arithV .add t19_28 (V.str ⟨#[120]⟩))).bind fun t20_29 =>
  (M.ret t20_29).bind fun t3_30 =>
  ferry_ferryref25_Rights_j1 G call t3_30)
   (ferry_ferryref25_Rights_j1 G call j3_15))

noncomputable def ferry_ferryref25_Rights_j3 (G : Nat → Option (List V)) (call : FuncId → List V → M V) (x0 : V) (j3_8 : V) : M R :=
  (M.ret x0).bind fun t9_9 =>
  (M.lift (arithV .quo t9_9 (V.int .i64 2))).bind fun t10_10 =>
  (M.lift (arithV .rem t10_10 (V.int .i64 2))).bind fun t11_11 =>
  (M.lift ((eqV (.sc .int) true t11_11 (V.int .i64 1)).bind fun b => some (.bool b))).bind fun t12_12 =>
  (condV t12_12
   ((M.ret j3_8).bind fun t13_31 =>
  (M.lift (arithV .add t13_31 (V.str ⟨#[119]⟩))).bind fun t14_32 =>
  (M.ret t14_32).bind fun t3_33 =>
  ferry_ferryref25_Rights_j2 G call x0 t3_33)
   (ferry_ferryref25_Rights_j2 G call x0 j3_8))

noncomputable def ferry_ferryref25_Rights (G : Nat → Option (List V)) (call : FuncId → List V → M V) (x0 : V) : M R :=
  (M.ret (V.str ⟨#[]⟩)).bind fun t2_1 =>
  (M.ret (V.str ⟨#[]⟩)).bind fun t3_2 =>
  (M.ret x0).bind fun t4_3 =>
  (M.lift (arithV .rem t4_3 (V.int .i64 2))).bind fun t5_4 =>
  (M.lift ((eqV (.sc .int) true t5_4 (V.int .i64 1)).bind fun b => some (.bool b))).bind fun t6_5 =>
  (condV t6_5
   ((M.ret t3_2).bind fun t7_34 =>
  (M.lift (arithV .add t7_34 (V.str ⟨#[114]⟩))).bind fun t8_35 =>
  (M.ret t8_35).bind fun t3_36 =>
  ferry_ferryref25_Rights_j3 G call x0 t3_36)
   (ferry_ferryref25_Rights_j3 G call x0 t3_2))

theorem ferry_ferryref25_Rights_eq (G : Nat → Option (List V)) (n : Nat) (x0 : V) : sem (cfg G) (n + 1) 147 [x0] = outV (ferry_ferryref25_Rights G (sem (cfg G) n) x0) :=
  (fnV_at (C := cfg G) (n := n) (f := 147) (fn := Tryd.f147) (c := Tryd.f147.body.getD .skip) (by kernel_rfl) (by kernel_rfl) (by kernel_rfl) [x0]).trans (by kernel_rfl)

noncomputable def ferry_ferryref25_Word (G : Nat → Option (List V)) (call : FuncId → List V → M V) (x0 : V) : M R :=
  (M.ret (V.str ⟨#[]⟩)).bind fun t2_1 =>
  (M.ret x0).bind fun t3_2 =>
  (M.lift ((eqV (.sc .int) true t3_2 (V.int .i64 1)).bind fun b => some (.bool b))).bind fun t5_3 =>
  (M.ret t5_3).bind fun t4_4 =>
  (condV t4_4
   ((M.ret (V.str ⟨#[102, 114, 97, 109, 101]⟩)).bind fun t2_5 =>
  M.ret (Ex.ret, [t2_5]))
   ((M.lift ((eqV (.sc .int) true t3_2 (V.int .i64 2)).bind fun b => some (.bool b))).bind fun t7_6 =>
  (M.ret t7_6).bind fun t6_7 =>
  (condV t6_7
   ((M.ret (V.str ⟨#[109, 111, 118, 101]⟩)).bind fun t2_8 =>
  M.ret (Ex.ret, [t2_8]))
   ((M.lift ((eqV (.sc .int) true t3_2 (V.int .i64 3)).bind fun b => some (.bool b))).bind fun t9_9 =>
  (M.ret t9_9).bind fun t8_10 =>
  (condV t8_10
   ((M.ret (V.str ⟨#[97, 98, 111, 114, 116]⟩)).bind fun t2_11 =>
  M.ret (Ex.ret, [t2_11]))
   ((M.lift ((eqV (.sc .int) true t3_2 (V.int .i64 4)).bind fun b => some (.bool b))).bind fun t11_12 =>
  (M.ret t11_12).bind fun t10_13 =>
  (condV t10_13
   ((M.ret (V.str ⟨#[99, 114, 97, 115, 104]⟩)).bind fun t2_14 =>
  M.ret (Ex.ret, [t2_14]))
   ((M.lift ((eqV (.sc .int) true t3_2 (V.int .i64 5)).bind fun b => some (.bool b))).bind fun t13_15 =>
  (M.ret t13_15).bind fun t12_16 =>
  (condV t12_16
   ((M.ret (V.str ⟨#[117, 112]⟩)).bind fun t2_17 =>
  M.ret (Ex.ret, [t2_17]))
   ((M.lift ((eqV (.sc .int) true t3_2 (V.int .i64 6)).bind fun b => some (.bool b))).bind fun t15_18 =>
  (M.ret t15_18).bind fun t14_19 =>
  (condV t14_19
   ((M.ret (V.str ⟨#[100, 101, 108, 105, 118, 101, 114]⟩)).bind fun t2_20 =>
  M.ret (Ex.ret, [t2_20]))
   ((M.lift ((eqV (.sc .int) true t3_2 (V.int .i64 7)).bind fun b => some (.bool b))).bind fun t17_21 =>
  (M.ret t17_21).bind fun t16_22 =>
  (condV t16_22
   ((M.ret (V.str ⟨#[99, 111, 112, 121]⟩)).bind fun t2_23 =>
  M.ret (Ex.ret, [t2_23]))
   ((M.lift ((eqV (.sc .int) true t3_2 (V.int .i64 8)).bind fun b => some (.bool b))).bind fun t19_24 =>
  (M.ret t19_24).bind fun t18_25 =>
  (condV t18_25
   ((M.ret (V.str ⟨#[100, 114, 111, 112]⟩)).bind fun t2_26 =>
  M.ret (Ex.ret, [t2_26]))
   ((M.lift ((eqV (.sc .int) true t3_2 (V.int .i64 9)).bind fun b => some (.bool b))).bind fun t21_27 =>
  (M.ret t21_27).bind fun t20_28 =>
  (condV t20_28
   ((M.ret (V.str ⟨#[116, 114, 105, 109]⟩)).bind fun t2_29 =>
  M.ret (Ex.ret, [t2_29]))
   ((M.lift ((eqV (.sc .int) true t3_2 (V.int .i64 10)).bind fun b => some (.bool b))).bind fun t23_30 =>
  (M.ret t23_30).bind fun t22_31 =>
  (condV t22_31
   ((M.ret (V.str ⟨#[102, 108, 105, 112]⟩)).bind fun t2_32 =>
  M.ret (Ex.ret, [t2_32]))
   ((M.ret (V.str ⟨#[111, 112]⟩)).bind fun t2_33 =>
  M.ret (Ex.ret, [t2_33])))))))))))))))))))))

theorem ferry_ferryref25_Word_eq (G : Nat → Option (List V)) (n : Nat) (x0 : V) : sem (cfg G) (n + 1) 149 [x0] = outV (ferry_ferryref25_Word G (sem (cfg G) n) x0) :=
  (fnV_at (C := cfg G) (n := n) (f := 149) (fn := Tryd.f149) (c := Tryd.f149.body.getD .skip) (by kernel_rfl) (by kernel_rfl) (by kernel_rfl) [x0]).trans (by kernel_rfl)

noncomputable def ferry_ferryref25_Many_j1 (G : Nat → Option (List V)) (call : FuncId → List V → M V) (t3_2 : V) (j6_14 : V) : M R :=
  (condV j6_14
   ((M.ret (V.int .i64 1)).bind fun t2_15 =>
  M.ret (Ex.ret, [t2_15]))
   ((M.lift ((eqV (.sc .int) true t3_2 (V.int .i64 9)).bind fun b => some (.bool b))).bind fun t15_16 =>
  (M.ret t15_16).bind fun t14_17 =>
  (condV t14_17
   ((M.ret (V.int .i64 2)).bind fun t2_18 =>
  M.ret (Ex.ret, [t2_18]))
   ((M.lift ((eqV (.sc .int) true t3_2 (V.int .i64 10)).bind fun b => some (.bool b))).bind fun t17_19 =>
  (M.ret t17_19).bind fun t16_20 =>
  (condV t16_20
   ((M.ret (V.int .i64 3)).bind fun t2_21 =>
  M.ret (Ex.ret, [t2_21]))
   ((M.ret (V.int .i64 (-1))).bind fun t2_22 =>
  M.ret (Ex.ret, [t2_22])))))))

noncomputable def ferry_ferryref25_Many (G : Nat → Option (List V)) (call : FuncId → List V → M V) (x0 : V) : M R :=
  (M.ret (V.int .i64 0)).bind fun t2_1 =>
  (M.ret x0).bind fun t3_2 =>
  (M.lift ((eqV (.sc .int) true t3_2 (V.int .i64 1)).bind fun b => some (.bool b))).bind fun t5_3 =>
  (M.ret t5_3).bind fun t4_4 =>
  (condV t4_4
   ((M.ret (V.int .i64 0)).bind fun t2_5 =>
  M.ret (Ex.ret, [t2_5]))
   ((M.lift ((eqV (.sc .int) true t3_2 (V.int .i64 2)).bind fun b => some (.bool b))).bind fun t7_6 =>
  (M.ret t7_6).bind fun t6_7 =>
  (condV t6_7
   (ferry_ferryref25_Many_j1 G call t3_2 t6_7)
   ((M.lift ((eqV (.sc .int) true t3_2 (V.int .i64 3)).bind fun b => some (.bool b))).bind fun t8_23 =>
  (M.ret t8_23).bind fun t6_24 =>
  (condV t6_24
   (ferry_ferryref25_Many_j1 G call t3_2 t6_24)
   ((M.lift ((eqV (.sc .int) true t3_2 (V.int .i64 4)).bind fun b => some (.bool b))).bind fun t9_31 =>
  (M.ret t9_31).bind fun t6_32 =>
  (condV t6_32
   (ferry_ferryref25_Many_j1 G call t3_2 t6_32)
   ((M.lift ((eqV (.sc .int) true t3_2 (V.int .i64 5)).bind fun b => some (.bool b))).bind fun t10_38 =>
  (M.ret t10_38).bind fun t6_39 =>
  (condV t6_39
   (ferry_ferryref25_Many_j1 G call t3_2 t6_39)
   ((M.lift ((eqV (.sc .int) true t3_2 (V.int .i64 6)).bind fun b => some (.bool b))).bind fun t11_44 =>
  (M.ret t11_44).bind fun t6_45 =>
  (condV t6_45
   (ferry_ferryref25_Many_j1 G call t3_2 t6_45)
   ((M.lift ((eqV (.sc .int) true t3_2 (V.int .i64 7)).bind fun b => some (.bool b))).bind fun t12_49 =>
  (M.ret t12_49).bind fun t6_50 =>
  (condV t6_50
   (ferry_ferryref25_Many_j1 G call t3_2 t6_50)
   ((M.lift ((eqV (.sc .int) true t3_2 (V.int .i64 8)).bind fun b => some (.bool b))).bind fun t13_53 =>
  (M.ret t13_53).bind fun t6_54 =>
  ferry_ferryref25_Many_j1 G call t3_2 t6_54))))))))))))))

theorem ferry_ferryref25_Many_eq (G : Nat → Option (List V)) (n : Nat) (x0 : V) : sem (cfg G) (n + 1) 150 [x0] = outV (ferry_ferryref25_Many G (sem (cfg G) n) x0) :=
  (fnV_at (C := cfg G) (n := n) (f := 150) (fn := Tryd.f150) (c := Tryd.f150.body.getD .skip) (by kernel_rfl) (by kernel_rfl) (by kernel_rfl) [x0]).trans (by kernel_rfl)

noncomputable def ferry_ferryref25_PrintOp (G : Nat → Option (List V)) (call : FuncId → List V → M V) (x0 : V) : M R :=
  (newV x0).bind fun t1_1 =>
  (M.ret (V.str ⟨#[]⟩)).bind fun t2_2 =>
  (M.lift (padd 0 t1_1)).bind fun t4_3 =>
  (load1 t4_3).bind fun t5_4 =>
  (callV (cfg G) call 149 [t5_4]).bind fun t6_5 =>
  (M.ret t6_5).bind fun t3_6 =>
  (M.lift (padd 0 t1_1)).bind fun t7_7 =>
  (load1 t7_7).bind fun t8_8 =>
  (callV (cfg G) call 150 [t8_8]).bind fun t9_9 =>
  (M.lift ((eqV (.sc .int) true t9_9 (V.int .i64 (-1))).bind fun b => some (.bool b))).bind fun t11_10 =>
  (M.ret t11_10).bind fun t10_11 =>
  (condV t10_11
   ((M.ret t3_6).bind fun t12_60 =>
  (M.lift (padd 0 t1_1)).bind fun t13_61 =>
  (load1 t13_61).bind fun t14_62 =>
  (callV (cfg G) call 74 [t14_62]).bind fun t15_63 =>
  (M.lift (arithV .add (V.str ⟨#[32]⟩) t15_63)).bind fun t16_64 =>
  (M.lift (arithV .add t12_60 t16_64)).bind fun t17_65 =>
  (M.ret t17_65).bind fun t3_66 =>
  (M.ret t3_66).bind fun t57_67 =>
  (M.ret t57_67).bind fun t2_68 =>
  M.ret (Ex.ret, [t2_68]))
   ((M.lift ((eqV (.sc .int) true t9_9 (V.int .i64 1)).bind fun b => some (.bool b))).bind fun t19_69 =>
  (M.ret t19_69).bind fun t18_70 =>
  (condV t18_70
   ((M.ret t3_6).bind fun t20_111 =>
  (M.lift (padd 1 t1_1)).bind fun t21_112 =>
  (load1 t21_112).bind fun t22_113 =>
  (callV (cfg G) call 74 [t22_113]).bind fun t23_114 =>
  (M.lift (arithV .add (V.str ⟨#[32]⟩) t23_114)).bind fun t24_115 =>
  (M.lift (arithV .add t20_111 t24_115)).bind fun t25_116 =>
  (M.ret t25_116).bind fun t3_117 =>
  (M.ret t3_117).bind fun t57_118 =>
  (M.ret t57_118).bind fun t2_119 =>
  M.ret (Ex.ret, [t2_119]))
   ((M.lift ((eqV (.sc .int) true t9_9 (V.int .i64 2)).bind fun b => some (.bool b))).bind fun t27_120 =>
  (M.ret t27_120).bind fun t26_121 =>
  (condV t26_121
   ((getN.bind fun n_154 =>
  (M.ret t3_6).bind fun y0_155 =>
  getN.bind fun n_156 =>
  (M.lift (padd 1 t1_1)).bind fun y1_157 =>
  getN.bind fun n_158 =>
  (load1 y1_157).bind fun y2_159 =>
  getN.bind fun n_160 =>
  (qrun (visB n_154 [(n_158, n_160, true), (n_156, n_158, true), (n_154, n_156, false)]) (callV (cfg G) call 74 [y2_159])).bind fun y3_161 =>
  getN.bind fun n_162 =>
  (M.lift (arithV .add (V.str ⟨#[32]⟩) y3_161)).bind fun y4_163 =>
  getN.bind fun n_164 =>
  (M.lift (arithV .add y4_163 (V.str ⟨#[32]⟩))).bind fun y5_165 =>
  getN.bind fun n_166 =>
  (M.lift (padd 2 t1_1)).bind fun y6_167 =>
  getN.bind fun n_168 =>
  (load1 y6_167).bind fun y7_169 =>
  getN.bind fun n_170 =>
  (qrun (visB n_154 [(n_168, n_170, true), (n_166, n_168, true), (n_164, n_166, false), (n_162, n_164, false), (n_160, n_162, true), (n_158, n_160, true), (n_156, n_158, true), (n_154, n_156, false)]) (callV (cfg G) call 74 [y7_169])).bind fun y8_171 =>
  getN.bind fun n_172 =>
  (M.lift (arithV .add y5_165 y8_171)).bind fun y9_173 =>
  getN.bind fun n_174 =>
  (M.lift (arithV .add y0_155 y9_173)).bind fun y10_175 =>
  getN.bind fun n_176 =>
  (M.ret y10_175).bind fun y11_177 =>
  getN.bind fun n_178 =>
  (M.ret y11_177).bind fun t57_179 =>
  (M.ret t57_179).bind fun t2_180 =>
  M.ret (Ex.ret, [t2_180])))
   ((M.lift ((eqV (.sc .int) true t9_9 (V.int .i64 3)).bind fun b => some (.bool b))).bind fun t40_181 =>
  (M.ret t40_181).bind fun t39_182 =>
  (condV t39_182
   ((getN.bind fun n_202 =>
  (M.ret t3_6).bind fun y0_203 =>
  getN.bind fun n_204 =>
  (M.lift (padd 1 t1_1)).bind fun y1_205 =>
  getN.bind fun n_206 =>
  (load1 y1_205).bind fun y2_207 =>
  getN.bind fun n_208 =>
  (qrun (visB n_202 [(n_206, n_208, true), (n_204, n_206, true), (n_202, n_204, false)]) (callV (cfg G) call 74 [y2_207])).bind fun y3_209 =>
  getN.bind fun n_210 =>
  (M.lift (arithV .add (V.str ⟨#[32]⟩) y3_209)).bind fun y4_211 =>
  getN.bind fun n_212 =>
  (M.lift (arithV .add y4_211 (V.str ⟨#[32]⟩))).bind fun y5_213 =>
  getN.bind fun n_214 =>
  (M.lift (padd 2 t1_1)).bind fun y6_215 =>
  getN.bind fun n_216 =>
  (load1 y6_215).bind fun y7_217 =>
  getN.bind fun n_218 =>
  (qrun (visB n_202 [(n_216, n_218, true), (n_214, n_216, true), (n_212, n_214, false), (n_210, n_212, false), (n_208, n_210, true), (n_206, n_208, true), (n_204, n_206, true), (n_202, n_204, false)]) (callV (cfg G) call 74 [y7_217])).bind fun y8_219 =>
  getN.bind fun n_220 =>
  (M.lift (arithV .add y5_213 y8_219)).bind fun y9_221 =>
  getN.bind fun n_222 =>
  (M.lift (arithV .add y9_221 (V.str ⟨#[32]⟩))).bind fun y10_223 =>
  getN.bind fun n_224 =>
  (M.lift (padd 3 t1_1)).bind fun y11_225 =>
  getN.bind fun n_226 =>
  (load1 y11_225).bind fun y12_227 =>
  getN.bind fun n_228 =>
  (qrun (visB n_202 [(n_226, n_228, true), (n_224, n_226, true), (n_222, n_224, false), (n_220, n_222, false), (n_218, n_220, true), (n_216, n_218, true), (n_214, n_216, true), (n_212, n_214, false), (n_210, n_212, false), (n_208, n_210, true), (n_206, n_208, true), (n_204, n_206, true), (n_202, n_204, false)]) (callV (cfg G) call 74 [y12_227])).bind fun y13_229 =>
  getN.bind fun n_230 =>
  (M.lift (arithV .add y10_223 y13_229)).bind fun y14_231 =>
  getN.bind fun n_232 =>
  (M.lift (arithV .add y0_203 y14_231)).bind fun y15_233 =>
  getN.bind fun n_234 =>
  (M.ret y15_233).bind fun y16_235 =>
  getN.bind fun n_236 =>
  (M.ret y16_235).bind fun t57_237 =>
  (M.ret t57_237).bind fun t2_238 =>
  M.ret (Ex.ret, [t2_238])))
   ((M.ret t3_6).bind fun t57_239 =>
  (M.ret t57_239).bind fun t2_240 =>
  M.ret (Ex.ret, [t2_240])))))))))

theorem ferry_ferryref25_PrintOp_eq (G : Nat → Option (List V)) (n : Nat) (x0 : V) : sem (cfg G) (n + 1) 91 [x0] = outV (ferry_ferryref25_PrintOp G (sem (cfg G) n) x0) :=
  (fnV_atM (C := cfg G) (n := n) (f := 91) (fn := Tryd.f91) (c := Tryd.f91.body.getD .skip) (by kernel_rfl) (by kernel_rfl) (by kernel_rfl) [x0]).trans (by kernel_rfl)

noncomputable def ferry_ferryref25_part_l1 (G : Nat → Option (List V)) (call : FuncId → List V → M V) (t29_19 : V) (t28_18 : V) (s0_21 : List V) : M R :=
  (M.lift (arithV .lss (s0_21.getD 1 V.undef) t29_19)).bind fun t31_22 =>
  (condV t31_22
   ((M.lift (idxV 2 t28_18 (s0_21.getD 1 V.undef))).bind fun t32_23 =>
  (loadN 2 t32_23).bind fun t33_24 =>
  (newV (.agg [(V.int .i64 0), (V.str ⟨#[]⟩)])).bind fun t9_25 =>
  (storeN 2 t9_25 t33_24).bind fun _ =>
  (getN.bind fun n_26 =>
  (M.ret (s0_21.getD 0 V.undef)).bind fun y0_27 =>
  getN.bind fun n_28 =>
  (M.lift (padd 0 t9_25)).bind fun y1_29 =>
  getN.bind fun n_30 =>
  (load1 y1_29).bind fun y2_31 =>
  getN.bind fun n_32 =>
  (qrun (visB n_26 [(n_30, n_32, true), (n_28, n_30, true), (n_26, n_28, false)]) (callV (cfg G) call 147 [y2_31])).bind fun y3_33 =>
  getN.bind fun n_34 =>
  (M.lift (arithV .add (V.str ⟨#[112, 97, 103, 101, 32]⟩) y3_33)).bind fun y4_35 =>
  getN.bind fun n_36 =>
  (M.lift (arithV .add y4_35 (V.str ⟨#[32]⟩))).bind fun y5_37 =>
  getN.bind fun n_38 =>
  (M.lift (padd 1 t9_25)).bind fun y6_39 =>
  getN.bind fun n_40 =>
  (load1 y6_39).bind fun y7_41 =>
  getN.bind fun n_42 =>
  (qrun (visB n_26 [(n_40, n_42, true), (n_38, n_40, true), (n_36, n_38, false), (n_34, n_36, false), (n_32, n_34, true), (n_30, n_32, true), (n_28, n_30, true), (n_26, n_28, false)]) (callV (cfg G) call 90 [y7_41])).bind fun y8_43 =>
  getN.bind fun n_44 =>
  (M.lift (arithV .add y5_37 y8_43)).bind fun y9_45 =>
  getN.bind fun n_46 =>
  (M.lift (arithV .add y9_45 (V.str ⟨#[10]⟩))).bind fun y10_47 =>
  getN.bind fun n_48 =>
  (trun (visB n_26 [(n_46, n_48, true), (n_44, n_46, true), (n_42, n_44, true), (n_40, n_42, true), (n_38, n_40, true), (n_36, n_38, true), (n_34, n_36, true), (n_32, n_34, true), (n_30, n_32, true), (n_28, n_30, true), (n_26, n_28, true)]) (appV 1 1 y0_27 y10_47)).bind fun y11_49 =>
  getN.bind fun n_50 =>
  (M.ret y11_49).bind fun y12_51 =>
  getN.bind fun n_52 =>
  (M.lift (arithV .add (s0_21.getD 1 V.undef) (V.int .i64 1))).bind fun t46_53 =>
  (M.ret t46_53).bind fun t30_54 =>
  M.ret (Ex.normal, [y12_51, t30_54])))
   (M.ret ((Ex.exit 0), [(s0_21.getD 0 V.undef), (s0_21.getD 1 V.undef)])))

noncomputable def ferry_ferryref25_part_j1 (G : Nat → Option (List V)) (call : FuncId → List V → M V) (s0_61 : List V) (t11_65 : V) (j7_69 : V) : M R :=
  (getN.bind fun n_70 =>
  (M.ret (s0_61.getD 1 V.undef)).bind fun y0_71 =>
  getN.bind fun n_72 =>
  (M.lift (padd 0 t11_65)).bind fun y1_73 =>
  getN.bind fun n_74 =>
  (load1 y1_73).bind fun y2_75 =>
  getN.bind fun n_76 =>
  (qrun (visB n_70 [(n_74, n_76, true), (n_72, n_74, true), (n_70, n_72, false)]) (callV (cfg G) call 74 [y2_75])).bind fun y3_77 =>
  getN.bind fun n_78 =>
  (M.lift (arithV .add (V.str ⟨#[112, 114, 111, 99, 32]⟩) y3_77)).bind fun y4_79 =>
  getN.bind fun n_80 =>
  (M.lift (arithV .add y4_79 (V.str ⟨#[32]⟩))).bind fun y5_81 =>
  getN.bind fun n_82 =>
  (M.lift (padd 1 t11_65)).bind fun y6_83 =>
  getN.bind fun n_84 =>
  (load1 y6_83).bind fun y7_85 =>
  getN.bind fun n_86 =>
  (qrun (visB n_70 [(n_84, n_86, true), (n_82, n_84, true), (n_80, n_82, false), (n_78, n_80, false), (n_76, n_78, true), (n_74, n_76, true), (n_72, n_74, true), (n_70, n_72, false)]) (callV (cfg G) call 74 [y7_85])).bind fun y8_87 =>
  getN.bind fun n_88 =>
  (M.lift (arithV .add y5_81 y8_87)).bind fun y9_89 =>
  getN.bind fun n_90 =>
  (M.lift (arithV .add y9_89 (V.str ⟨#[32]⟩))).bind fun y10_91 =>
  getN.bind fun n_92 =>
  (M.ret j7_69).bind fun y11_93 =>
  getN.bind fun n_94 =>
  (M.lift (arithV .add y10_91 y11_93)).bind fun y12_95 =>
  getN.bind fun n_96 =>
  (M.lift (arithV .add y12_95 (V.str ⟨#[10]⟩))).bind fun y13_97 =>
  getN.bind fun n_98 =>
  (trun (visB n_70 [(n_96, n_98, true), (n_94, n_96, true), (n_92, n_94, true), (n_90, n_92, true), (n_88, n_90, true), (n_86, n_88, true), (n_84, n_86, true), (n_82, n_84, true), (n_80, n_82, true), (n_78, n_80, true), (n_76, n_78, true), (n_74, n_76, true), (n_72, n_74, true), (n_70, n_72, true)]) (appV 1 1 y0_71 y13_97)).bind fun y14_99 =>
  getN.bind fun n_100 =>
  (M.ret y14_99).bind fun y15_101 =>
  getN.bind fun n_102 =>
  (M.lift (arithV .add (s0_61.getD 2 V.undef) (V.int .i64 1))).bind fun t71_103 =>
  (M.ret t71_103).bind fun t50_104 =>
  M.ret (Ex.normal, [j7_69, y15_101, t50_104]))

noncomputable def ferry_ferryref25_part_l2 (G : Nat → Option (List V)) (call : FuncId → List V → M V) (t49_59 : V) (t48_58 : V) (s0_61 : List V) : M R :=
  (M.lift (arithV .lss (s0_61.getD 2 V.undef) t49_59)).bind fun t51_62 =>
  (condV t51_62
   ((M.lift (idxV 3 t48_58 (s0_61.getD 2 V.undef))).bind fun t52_63 =>
  (loadN 3 t52_63).bind fun t53_64 =>
  (newV (.agg [(V.int .i64 0), (V.int .i64 0), (V.bool false)])).bind fun t11_65 =>
  (storeN 3 t11_65 t53_64).bind fun _ =>
  (M.ret (V.str ⟨#[105, 100, 108, 101]⟩)).bind fun t7_66 =>
  (M.lift (padd 2 t11_65)).bind fun t54_67 =>
  (load1 t54_67).bind fun t55_68 =>
  (condV t55_68
   ((M.ret (V.str ⟨#[97, 117, 116, 111]⟩)).bind fun t7_105 =>
  ferry_ferryref25_part_j1 G call s0_61 t11_65 t7_105)
   (ferry_ferryref25_part_j1 G call s0_61 t11_65 t7_66)))
   (M.ret ((Ex.exit 2), [(s0_61.getD 0 V.undef), (s0_61.getD 1 V.undef), (s0_61.getD 2 V.undef)])))

noncomputable def ferry_ferryref25_part_l3 (G : Nat → Option (List V)) (call : FuncId → List V → M V) (t74_110 : V) (t73_109 : V) (s0_112 : List V) : M R :=
  (M.lift (arithV .lss (s0_112.getD 1 V.undef) t74_110)).bind fun t76_113 =>
  (condV t76_113
   ((M.lift (idxV 4 t73_109 (s0_112.getD 1 V.undef))).bind fun t77_114 =>
  (loadN 4 t77_114).bind fun t78_115 =>
  (newV (.agg [(V.int .i64 0), (V.int .i64 0), (V.int .i64 0), (V.int .i64 0)])).bind fun t13_116 =>
  (storeN 4 t13_116 t78_115).bind fun _ =>
  (M.lift (padd 0 t13_116)).bind fun t79_117 =>
  (load1 t79_117).bind fun t80_118 =>
  (M.lift ((eqV (.sc .int) true t80_118 (V.int .i64 1)).bind fun b => some (.bool b))).bind fun t94_119 =>
  (M.ret t94_119).bind fun t93_120 =>
  (condV t93_120
   ((getN.bind fun n_171 =>
  (M.ret (s0_112.getD 0 V.undef)).bind fun y0_172 =>
  getN.bind fun n_173 =>
  (M.lift (padd 1 t13_116)).bind fun y1_174 =>
  getN.bind fun n_175 =>
  (load1 y1_174).bind fun y2_176 =>
  getN.bind fun n_177 =>
  (qrun (visB n_171 [(n_175, n_177, true), (n_173, n_175, true), (n_171, n_173, false)]) (callV (cfg G) call 74 [y2_176])).bind fun y3_178 =>
  getN.bind fun n_179 =>
  (M.lift (arithV .add (V.str ⟨#[112, 111, 114, 116, 32, 115, 97, 109, 112, 108, 101, 105, 110, 32]⟩) y3_178)).bind fun y4_180 =>
  getN.bind fun n_181 =>
  (M.lift (arithV .add y4_180 (V.str ⟨#[32]⟩))).bind fun y5_182 =>
  getN.bind fun n_183 =>
  (M.lift (padd 3 t13_116)).bind fun y6_184 =>
  getN.bind fun n_185 =>
  (load1 y6_184).bind fun y7_186 =>
  getN.bind fun n_187 =>
  (qrun (visB n_171 [(n_185, n_187, true), (n_183, n_185, true), (n_181, n_183, false), (n_179, n_181, false), (n_177, n_179, true), (n_175, n_177, true), (n_173, n_175, true), (n_171, n_173, false)]) (callV (cfg G) call 74 [y7_186])).bind fun y8_188 =>
  getN.bind fun n_189 =>
  (M.lift (arithV .add y5_182 y8_188)).bind fun y9_190 =>
  getN.bind fun n_191 =>
  (M.lift (arithV .add y9_190 (V.str ⟨#[10]⟩))).bind fun y10_192 =>
  getN.bind fun n_193 =>
  (trun (visB n_171 [(n_191, n_193, true), (n_189, n_191, true), (n_187, n_189, true), (n_185, n_187, true), (n_183, n_185, true), (n_181, n_183, true), (n_179, n_181, true), (n_177, n_179, true), (n_175, n_177, true), (n_173, n_175, true), (n_171, n_173, true)]) (appV 1 1 y0_172 y10_192)).bind fun y11_194 =>
  getN.bind fun n_195 =>
  (M.ret y11_194).bind fun y12_196 =>
  getN.bind fun n_197 =>
  (M.lift (arithV .add (s0_112.getD 1 V.undef) (V.int .i64 1))).bind fun t130_198 =>
  (M.ret t130_198).bind fun t75_199 =>
  M.ret (Ex.normal, [y12_196, t75_199])))
   ((M.lift ((eqV (.sc .int) true t80_118 (V.int .i64 2)).bind fun b => some (.bool b))).bind fun t108_200 =>
  (M.ret t108_200).bind fun t107_201 =>
  (condV t107_201
   ((M.ret (s0_112.getD 0 V.undef)).bind fun t109_238 =>
  (M.lift (padd 1 t13_116)).bind fun t110_239 =>
  (load1 t110_239).bind fun t111_240 =>
  (callV (cfg G) call 74 [t111_240]).bind fun t112_241 =>
  (M.lift (arithV .add (V.str ⟨#[112, 111, 114, 116, 32, 115, 97, 109, 112, 108, 101, 111, 117, 116, 32]⟩) t112_241)).bind fun t113_242 =>
  (M.lift (arithV .add t113_242 (V.str ⟨#[10]⟩))).bind fun t114_243 =>
  (appV 1 1 t109_238 t114_243).bind fun t115_244 =>
  (M.ret t115_244).bind fun t0_245 =>
  (M.lift (arithV .add (s0_112.getD 1 V.undef) (V.int .i64 1))).bind fun t130_246 =>
  (M.ret t130_246).bind fun t75_247 =>
  M.ret (Ex.normal, [t0_245, t75_247]))
   ((M.lift ((eqV (.sc .int) true t80_118 (V.int .i64 3)).bind fun b => some (.bool b))).bind fun t117_248 =>
  (M.ret t117_248).bind fun t116_249 =>
  (condV t116_249
   ((getN.bind fun n_277 =>
  (M.ret (s0_112.getD 0 V.undef)).bind fun y0_278 =>
  getN.bind fun n_279 =>
  (M.lift (padd 1 t13_116)).bind fun y1_280 =>
  getN.bind fun n_281 =>
  (load1 y1_280).bind fun y2_282 =>
  getN.bind fun n_283 =>
  (qrun (visB n_277 [(n_281, n_283, true), (n_279, n_281, true), (n_277, n_279, false)]) (callV (cfg G) call 74 [y2_282])).bind fun y3_284 =>
  getN.bind fun n_285 =>
  (M.lift (arithV .add (V.str ⟨#[112, 111, 114, 116, 32, 113, 117, 101, 117, 101, 105, 110, 32]⟩) y3_284)).bind fun y4_286 =>
  getN.bind fun n_287 =>
  (M.lift (arithV .add y4_286 (V.str ⟨#[32]⟩))).bind fun y5_288 =>
  getN.bind fun n_289 =>
  (M.lift (padd 2 t13_116)).bind fun y6_290 =>
  getN.bind fun n_291 =>
  (load1 y6_290).bind fun y7_292 =>
  getN.bind fun n_293 =>
  (qrun (visB n_277 [(n_291, n_293, true), (n_289, n_291, true), (n_287, n_289, false), (n_285, n_287, false), (n_283, n_285, true), (n_281, n_283, true), (n_279, n_281, true), (n_277, n_279, false)]) (callV (cfg G) call 74 [y7_292])).bind fun y8_294 =>
  getN.bind fun n_295 =>
  (M.lift (arithV .add y5_288 y8_294)).bind fun y9_296 =>
  getN.bind fun n_297 =>
  (M.lift (arithV .add y9_296 (V.str ⟨#[10]⟩))).bind fun y10_298 =>
  getN.bind fun n_299 =>
  (trun (visB n_277 [(n_297, n_299, true), (n_295, n_297, true), (n_293, n_295, true), (n_291, n_293, true), (n_289, n_291, true), (n_287, n_289, true), (n_285, n_287, true), (n_283, n_285, true), (n_281, n_283, true), (n_279, n_281, true), (n_277, n_279, true)]) (appV 1 1 y0_278 y10_298)).bind fun y11_300 =>
  getN.bind fun n_301 =>
  (M.ret y11_300).bind fun y12_302 =>
  getN.bind fun n_303 =>
  (M.lift (arithV .add (s0_112.getD 1 V.undef) (V.int .i64 1))).bind fun t130_304 =>
  (M.ret t130_304).bind fun t75_305 =>
  M.ret (Ex.normal, [y12_302, t75_305])))
   ((getN.bind fun n_306 =>
  (M.ret (s0_112.getD 0 V.undef)).bind fun y0_307 =>
  getN.bind fun n_308 =>
  (M.lift (padd 1 t13_116)).bind fun y1_309 =>
  getN.bind fun n_310 =>
  (load1 y1_309).bind fun y2_311 =>
  getN.bind fun n_312 =>
  (qrun (visB n_306 [(n_310, n_312, true), (n_308, n_310, true), (n_306, n_308, false)]) (callV (cfg G) call 74 [y2_311])).bind fun y3_313 =>
  getN.bind fun n_314 =>
  (M.lift (arithV .add (V.str ⟨#[112, 111, 114, 116, 32, 113, 117, 101, 117, 101, 111, 117, 116, 32]⟩) y3_313)).bind fun y4_315 =>
  getN.bind fun n_316 =>
  (M.lift (arithV .add y4_315 (V.str ⟨#[32]⟩))).bind fun y5_317 =>
  getN.bind fun n_318 =>
  (M.lift (padd 2 t13_116)).bind fun y6_319 =>
  getN.bind fun n_320 =>
  (load1 y6_319).bind fun y7_321 =>
  getN.bind fun n_322 =>
  (qrun (visB n_306 [(n_320, n_322, true), (n_318, n_320, true), (n_316, n_318, false), (n_314, n_316, false), (n_312, n_314, true), (n_310, n_312, true), (n_308, n_310, true), (n_306, n_308, false)]) (callV (cfg G) call 74 [y7_321])).bind fun y8_323 =>
  getN.bind fun n_324 =>
  (M.lift (arithV .add y5_317 y8_323)).bind fun y9_325 =>
  getN.bind fun n_326 =>
  (M.lift (arithV .add y9_325 (V.str ⟨#[10]⟩))).bind fun y10_327 =>
  getN.bind fun n_328 =>
  (trun (visB n_306 [(n_326, n_328, true), (n_324, n_326, true), (n_322, n_324, true), (n_320, n_322, true), (n_318, n_320, true), (n_316, n_318, true), (n_314, n_316, true), (n_312, n_314, true), (n_310, n_312, true), (n_308, n_310, true), (n_306, n_308, true)]) (appV 1 1 y0_307 y10_327)).bind fun y11_329 =>
  getN.bind fun n_330 =>
  (M.ret y11_329).bind fun y12_331 =>
  getN.bind fun n_332 =>
  (M.lift (arithV .add (s0_112.getD 1 V.undef) (V.int .i64 1))).bind fun t130_333 =>
  (M.ret t130_333).bind fun t75_334 =>
  M.ret (Ex.normal, [y12_331, t75_334])))))))))
   (M.ret ((Ex.exit 4), [(s0_112.getD 0 V.undef), (s0_112.getD 1 V.undef)])))

noncomputable def ferry_ferryref25_part_l4 (G : Nat → Option (List V)) (call : FuncId → List V → M V) (t143_350 : V) (t142_349 : V) (s0_352 : List V) : M R :=
  (M.lift (arithV .lss (s0_352.getD 1 V.undef) t143_350)).bind fun t145_353 =>
  (condV t145_353
   ((M.lift (idxV 1 t142_349 (s0_352.getD 1 V.undef))).bind fun t146_354 =>
  (load1 t146_354).bind fun t147_355 =>
  (M.ret t147_355).bind fun t15_356 =>
  (M.ret (s0_352.getD 0 V.undef)).bind fun t148_357 =>
  (M.ret t15_356).bind fun t149_358 =>
  (callV (cfg G) call 74 [t149_358]).bind fun t150_359 =>
  (M.lift (arithV .add (V.str ⟨#[115, 101, 109, 32]⟩) t150_359)).bind fun t151_360 =>
  (M.lift (arithV .add t151_360 (V.str ⟨#[10]⟩))).bind fun t152_361 =>
  (appV 1 1 t148_357 t152_361).bind fun t153_362 =>
  (M.ret t153_362).bind fun t0_363 =>
  (M.lift (arithV .add (s0_352.getD 1 V.undef) (V.int .i64 1))).bind fun t154_364 =>
  (M.ret t154_364).bind fun t144_365 =>
  M.ret (Ex.normal, [t0_363, t144_365]))
   (M.ret ((Ex.exit 7), [(s0_352.getD 0 V.undef), (s0_352.getD 1 V.undef)])))

noncomputable def ferry_ferryref25_part_j2 (G : Nat → Option (List V)) (call : FuncId → List V → M V) (t4_1 : V) (t6_2 : V) (j0_347 : V) : M R :=
  (M.lift (padd 6 t4_1)).bind fun t141_348 =>
  (load1 t141_348).bind fun t142_349 =>
  (M.lift (lenV t142_349)).bind fun t143_350 =>
  (M.ret (V.int .i64 0)).bind fun t144_351 =>
  (loopV (ferry_ferryref25_part_l4 G call t143_350 t142_349) [j0_347, t144_351]).bind fun r0_366 => match r0_366.1 with
  | .normal => M.fail
  | .exit k0_367 =>
    (if k0_367 = 7 then
    (M.ret (r0_366.2.getD 0 V.undef)).bind fun t155_368 =>
    (M.ret t155_368).bind fun t6_369 =>
    M.ret (Ex.ret, [t6_369])
    else M.fail)
  | .ret =>
    M.ret (Ex.ret, [t6_2])

noncomputable def ferry_ferryref25_part_j3 (G : Nat → Option (List V)) (call : FuncId → List V → M V) (x0 : V) (x2 : V) (t4_1 : V) (t6_2 : V) (j7_6 : V) : M R :=
  (M.ret x0).bind fun t18_7 =>
  (M.ret x2).bind fun t19_8 =>
  (callV (cfg G) call 74 [t19_8]).bind fun t20_9 =>
  (M.lift (arithV .add (V.str ⟨#[112, 97, 114, 116, 32]⟩) t20_9)).bind fun t21_10 =>
  (M.lift (arithV .add t21_10 (V.str ⟨#[32]⟩))).bind fun t22_11 =>
  (M.ret j7_6).bind fun t23_12 =>
  (M.lift (arithV .add t22_11 t23_12)).bind fun t24_13 =>
  (M.lift (arithV .add t24_13 (V.str ⟨#[10]⟩))).bind fun t25_14 =>
  (appV 1 1 t18_7 t25_14).bind fun t26_15 =>
  (M.ret t26_15).bind fun t0_16 =>
  (M.lift (padd 2 t4_1)).bind fun t27_17 =>
  (load1 t27_17).bind fun t28_18 =>
  (M.lift (lenV t28_18)).bind fun t29_19 =>
  (M.ret (V.int .i64 0)).bind fun t30_20 =>
  (loopV (ferry_ferryref25_part_l1 G call t29_19 t28_18) [t0_16, t30_20]).bind fun r0_55 => match r0_55.1 with
  | .normal => M.fail
  | .exit k0_56 =>
    (if k0_56 = 0 then
    (M.lift (padd 3 t4_1)).bind fun t47_57 =>
    (load1 t47_57).bind fun t48_58 =>
    (M.lift (lenV t48_58)).bind fun t49_59 =>
    (M.ret (V.int .i64 0)).bind fun t50_60 =>
    (loopV (ferry_ferryref25_part_l2 G call t49_59 t48_58) [j7_6, (r0_55.2.getD 0 V.undef), t50_60]).bind fun r0_106 => match r0_106.1 with
    | .normal => M.fail
    | .exit k0_107 =>
      (if k0_107 = 2 then
      (M.lift (padd 4 t4_1)).bind fun t72_108 =>
      (load1 t72_108).bind fun t73_109 =>
      (M.lift (lenV t73_109)).bind fun t74_110 =>
      (M.ret (V.int .i64 0)).bind fun t75_111 =>
      (loopV (ferry_ferryref25_part_l3 G call t74_110 t73_109) [(r0_106.2.getD 1 V.undef), t75_111]).bind fun r0_335 => match r0_335.1 with
      | .normal => M.fail
      | .exit k0_336 =>
        (if k0_336 = 4 then
        (M.lift (padd 5 t4_1)).bind fun t131_337 =>
        (load1 t131_337).bind fun t132_338 =>
        (M.lift ((eqV (.sc .int) true t132_338 (V.int .i64 0)).bind fun b => some (.bool !b))).bind fun t133_339 =>
        (condV t133_339
         ((M.ret (r0_335.2.getD 0 V.undef)).bind fun t134_370 =>
        (M.lift (padd 5 t4_1)).bind fun t135_371 =>
        (load1 t135_371).bind fun t136_372 =>
        (callV (cfg G) call 74 [t136_372]).bind fun t137_373 =>
        (M.lift (arithV .add (V.str ⟨#[101, 118, 101, 110, 116, 115, 32]⟩) t137_373)).bind fun t138_374 =>
        (M.lift (arithV .add t138_374 (V.str ⟨#[10]⟩))).bind fun t139_375 =>
        (appV 1 1 t134_370 t139_375).bind fun t140_376 =>
        (M.ret t140_376).bind fun t0_377 =>
        ferry_ferryref25_part_j2 G call t4_1 t6_2 t0_377)
         (ferry_ferryref25_part_j2 G call t4_1 t6_2 (r0_335.2.getD 0 V.undef)))
        else M.fail)
      | .ret =>
        M.ret (Ex.ret, [t6_2])
      else M.fail)
    | .ret =>
      M.ret (Ex.ret, [t6_2])
    else M.fail)
  | .ret =>
    M.ret (Ex.ret, [t6_2])

noncomputable def ferry_ferryref25_part (G : Nat → Option (List V)) (call : FuncId → List V → M V) (x0 : V) (x1 : V) (x2 : V) : M R :=
  (newV x1).bind fun t4_1 =>
  (M.ret V.nils).bind fun t6_2 =>
  (M.ret (V.str ⟨#[102, 105, 120, 101, 100]⟩)).bind fun t7_3 =>
  (M.lift (padd 1 t4_1)).bind fun t16_4 =>
  (load1 t16_4).bind fun t17_5 =>
  (condV t17_5
   ((M.ret (V.str ⟨#[109, 111, 98, 105, 108, 101]⟩)).bind fun t7_378 =>
  ferry_ferryref25_part_j3 G call x0 x2 t4_1 t6_2 t7_378)
   (ferry_ferryref25_part_j3 G call x0 x2 t4_1 t6_2 t7_3))

theorem ferry_ferryref25_part_eq (G : Nat → Option (List V)) (n : Nat) (x0 : V) (x1 : V) (x2 : V) : sem (cfg G) (n + 1) 89 [x0, x1, x2] = outV (ferry_ferryref25_part G (sem (cfg G) n) x0 x1 x2) :=
  (fnV_atM (C := cfg G) (n := n) (f := 89) (fn := Tryd.f89) (c := Tryd.f89.body.getD .skip) (by kernel_rfl) (by kernel_rfl) (by kernel_rfl) [x0, x1, x2]).trans (by kernel_rfl)

noncomputable def ferry_ferryref25_Print_l1 (G : Nat → Option (List V)) (call : FuncId → List V → M V) (t31_35 : V) (t30_34 : V) (t1_1 : V) (s0_37 : List V) : M R :=
  (M.lift (arithV .lss (s0_37.getD 1 V.undef) t31_35)).bind fun t33_38 =>
  (condV t33_38
   ((M.ret (s0_37.getD 1 V.undef)).bind fun t34_39 =>
  (M.lift (idxV 7 t30_34 (s0_37.getD 1 V.undef))).bind fun t35_40 =>
  (loadN 7 t35_40).bind fun t36_41 =>
  (newV (.agg [(V.int .i64 0), (V.bool false), V.nils, V.nils, V.nils, (V.int .i64 0), V.nils])).bind fun t5_42 =>
  (M.ret t34_39).bind fun t4_43 =>
  (storeN 7 t5_42 t36_41).bind fun _ =>
  (getN.bind fun n_44 =>
  (M.ret (s0_37.getD 0 V.undef)).bind fun y0_45 =>
  getN.bind fun n_46 =>
  (loadN 7 t5_42).bind fun y1_47 =>
  getN.bind fun n_48 =>
  (M.lift (padd 0 t1_1)).bind fun y2_49 =>
  getN.bind fun n_50 =>
  (M.lift (padd 2 y2_49)).bind fun y3_51 =>
  getN.bind fun n_52 =>
  (load1 y3_51).bind fun y4_53 =>
  getN.bind fun n_54 =>
  (M.ret t4_43).bind fun y5_55 =>
  getN.bind fun n_56 =>
  (M.lift (idxV 1 y4_53 y5_55)).bind fun y6_57 =>
  getN.bind fun n_58 =>
  (load1 y6_57).bind fun y7_59 =>
  getN.bind fun n_60 =>
  (trun (visB n_44 [(n_58, n_60, true), (n_56, n_58, true), (n_54, n_56, true), (n_52, n_54, true), (n_50, n_52, true), (n_48, n_50, true), (n_46, n_48, true), (n_44, n_46, true)]) (callV (cfg G) call 89 [y0_45, y1_47, y7_59])).bind fun y8_61 =>
  getN.bind fun n_62 =>
  (M.ret y8_61).bind fun y9_63 =>
  getN.bind fun n_64 =>
  (M.lift (arithV .add (s0_37.getD 1 V.undef) (V.int .i64 1))).bind fun t46_65 =>
  (M.ret t46_65).bind fun t32_66 =>
  M.ret (Ex.normal, [y9_63, t32_66])))
   (M.ret ((Ex.exit 0), [(s0_37.getD 0 V.undef), (s0_37.getD 1 V.undef)])))

noncomputable def ferry_ferryref25_Print_j1 (G : Nat → Option (List V)) (call : FuncId → List V → M V) (s0_74 : List V) (t7_78 : V) (j8_86 : V) : M R :=
  (getN.bind fun n_87 =>
  (M.ret (s0_74.getD 0 V.undef)).bind fun y0_88 =>
  getN.bind fun n_89 =>
  (M.ret j8_86).bind fun y1_90 =>
  getN.bind fun n_91 =>
  (M.lift (arithV .add (V.str ⟨#[119, 105, 110, 100, 111, 119, 32]⟩) y1_90)).bind fun y2_92 =>
  getN.bind fun n_93 =>
  (M.lift (arithV .add y2_92 (V.str ⟨#[32]⟩))).bind fun y3_94 =>
  getN.bind fun n_95 =>
  (M.lift (padd 1 t7_78)).bind fun y4_96 =>
  getN.bind fun n_97 =>
  (load1 y4_96).bind fun y5_98 =>
  getN.bind fun n_99 =>
  (qrun (visB n_87 [(n_97, n_99, true), (n_95, n_97, true), (n_93, n_95, false), (n_91, n_93, false), (n_89, n_91, false), (n_87, n_89, false)]) (callV (cfg G) call 74 [y5_98])).bind fun y6_100 =>
  getN.bind fun n_101 =>
  (M.lift (arithV .add y3_94 y6_100)).bind fun y7_102 =>
  getN.bind fun n_103 =>
  (M.lift (arithV .add y7_102 (V.str ⟨#[32]⟩))).bind fun y8_104 =>
  getN.bind fun n_105 =>
  (M.lift (padd 2 t7_78)).bind fun y9_106 =>
  getN.bind fun n_107 =>
  (load1 y9_106).bind fun y10_108 =>
  getN.bind fun n_109 =>
  (qrun (visB n_87 [(n_107, n_109, true), (n_105, n_107, true), (n_103, n_105, false), (n_101, n_103, false), (n_99, n_101, true), (n_97, n_99, true), (n_95, n_97, true), (n_93, n_95, false), (n_91, n_93, false), (n_89, n_91, false), (n_87, n_89, false)]) (callV (cfg G) call 74 [y10_108])).bind fun y11_110 =>
  getN.bind fun n_111 =>
  (M.lift (arithV .add y8_104 y11_110)).bind fun y12_112 =>
  getN.bind fun n_113 =>
  (M.lift (arithV .add y12_112 (V.str ⟨#[10]⟩))).bind fun y13_114 =>
  getN.bind fun n_115 =>
  (trun (visB n_87 [(n_113, n_115, true), (n_111, n_113, true), (n_109, n_111, true), (n_107, n_109, true), (n_105, n_107, true), (n_103, n_105, true), (n_101, n_103, true), (n_99, n_101, true), (n_97, n_99, true), (n_95, n_97, true), (n_93, n_95, true), (n_91, n_93, true), (n_89, n_91, true), (n_87, n_89, true)]) (appV 1 1 y0_88 y13_114)).bind fun y14_116 =>
  getN.bind fun n_117 =>
  (M.ret y14_116).bind fun y15_118 =>
  getN.bind fun n_119 =>
  (M.lift (arithV .add (s0_74.getD 1 V.undef) (V.int .i64 1))).bind fun t76_120 =>
  (M.ret t76_120).bind fun t51_121 =>
  M.ret (Ex.normal, [y15_118, t51_121]))

noncomputable def ferry_ferryref25_Print_l2 (G : Nat → Option (List V)) (call : FuncId → List V → M V) (t50_72 : V) (t49_71 : V) (s0_74 : List V) : M R :=
  (M.lift (arithV .lss (s0_74.getD 1 V.undef) t50_72)).bind fun t52_75 =>
  (condV t52_75
   ((M.lift (idxV 3 t49_71 (s0_74.getD 1 V.undef))).bind fun t53_76 =>
  (loadN 3 t53_76).bind fun t54_77 =>
  (newV (.agg [(V.int .i64 0), (V.int .i64 0), (V.int .i64 0)])).bind fun t7_78 =>
  (storeN 3 t7_78 t54_77).bind fun _ =>
  (M.lift (padd 0 t7_78)).bind fun t55_79 =>
  (load1 t55_79).bind fun t56_80 =>
  (callV (cfg G) call 74 [t56_80]).bind fun t57_81 =>
  (M.ret t57_81).bind fun t8_82 =>
  (M.lift (padd 0 t7_78)).bind fun t58_83 =>
  (load1 t58_83).bind fun t59_84 =>
  (M.lift ((eqV (.sc .int) true t59_84 (V.int .i64 (-1))).bind fun b => some (.bool b))).bind fun t60_85 =>
  (condV t60_85
   ((M.ret (V.str ⟨#[115, 110, 97, 112]⟩)).bind fun t8_122 =>
  ferry_ferryref25_Print_j1 G call s0_74 t7_78 t8_122)
   (ferry_ferryref25_Print_j1 G call s0_74 t7_78 t8_82)))
   (M.ret ((Ex.exit 2), [(s0_74.getD 0 V.undef), (s0_74.getD 1 V.undef)])))

noncomputable def ferry_ferryref25_Print_l3 (G : Nat → Option (List V)) (call : FuncId → List V → M V) (t80_128 : V) (t79_127 : V) (s0_130 : List V) : M R :=
  (M.lift (arithV .lss (s0_130.getD 1 V.undef) t80_128)).bind fun t82_131 =>
  (condV t82_131
   ((M.lift (idxV 4 t79_127 (s0_130.getD 1 V.undef))).bind fun t83_132 =>
  (loadN 4 t83_132).bind fun t84_133 =>
  (newV (.agg [(V.int .i64 0), (V.int .i64 0), (V.int .i64 0), (V.int .i64 0)])).bind fun t10_134 =>
  (storeN 4 t10_134 t84_133).bind fun _ =>
  (getN.bind fun n_135 =>
  (M.ret (s0_130.getD 0 V.undef)).bind fun y0_136 =>
  getN.bind fun n_137 =>
  (M.lift (padd 0 t10_134)).bind fun y1_138 =>
  getN.bind fun n_139 =>
  (load1 y1_138).bind fun y2_140 =>
  getN.bind fun n_141 =>
  (qrun (visB n_135 [(n_139, n_141, true), (n_137, n_139, true), (n_135, n_137, false)]) (callV (cfg G) call 74 [y2_140])).bind fun y3_142 =>
  getN.bind fun n_143 =>
  (M.lift (arithV .add (V.str ⟨#[108, 105, 110, 107, 32]⟩) y3_142)).bind fun y4_144 =>
  getN.bind fun n_145 =>
  (M.lift (arithV .add y4_144 (V.str ⟨#[32]⟩))).bind fun y5_146 =>
  getN.bind fun n_147 =>
  (M.lift (padd 1 t10_134)).bind fun y6_148 =>
  getN.bind fun n_149 =>
  (load1 y6_148).bind fun y7_150 =>
  getN.bind fun n_151 =>
  (qrun (visB n_135 [(n_149, n_151, true), (n_147, n_149, true), (n_145, n_147, false), (n_143, n_145, false), (n_141, n_143, true), (n_139, n_141, true), (n_137, n_139, true), (n_135, n_137, false)]) (callV (cfg G) call 74 [y7_150])).bind fun y8_152 =>
  getN.bind fun n_153 =>
  (M.lift (arithV .add y5_146 y8_152)).bind fun y9_154 =>
  getN.bind fun n_155 =>
  (M.lift (arithV .add y9_154 (V.str ⟨#[32]⟩))).bind fun y10_156 =>
  getN.bind fun n_157 =>
  (M.lift (padd 2 t10_134)).bind fun y11_158 =>
  getN.bind fun n_159 =>
  (load1 y11_158).bind fun y12_160 =>
  getN.bind fun n_161 =>
  (qrun (visB n_135 [(n_159, n_161, true), (n_157, n_159, true), (n_155, n_157, false), (n_153, n_155, false), (n_151, n_153, true), (n_149, n_151, true), (n_147, n_149, true), (n_145, n_147, false), (n_143, n_145, false), (n_141, n_143, true), (n_139, n_141, true), (n_137, n_139, true), (n_135, n_137, false)]) (callV (cfg G) call 74 [y12_160])).bind fun y13_162 =>
  getN.bind fun n_163 =>
  (M.lift (arithV .add y10_156 y13_162)).bind fun y14_164 =>
  getN.bind fun n_165 =>
  (M.lift (arithV .add y14_164 (V.str ⟨#[32]⟩))).bind fun y15_166 =>
  getN.bind fun n_167 =>
  (M.lift (padd 3 t10_134)).bind fun y16_168 =>
  getN.bind fun n_169 =>
  (load1 y16_168).bind fun y17_170 =>
  getN.bind fun n_171 =>
  (qrun (visB n_135 [(n_169, n_171, true), (n_167, n_169, true), (n_165, n_167, false), (n_163, n_165, false), (n_161, n_163, true), (n_159, n_161, true), (n_157, n_159, true), (n_155, n_157, false), (n_153, n_155, false), (n_151, n_153, true), (n_149, n_151, true), (n_147, n_149, true), (n_145, n_147, false), (n_143, n_145, false), (n_141, n_143, true), (n_139, n_141, true), (n_137, n_139, true), (n_135, n_137, false)]) (callV (cfg G) call 74 [y17_170])).bind fun y18_172 =>
  getN.bind fun n_173 =>
  (M.lift (arithV .add y15_166 y18_172)).bind fun y19_174 =>
  getN.bind fun n_175 =>
  (M.lift (arithV .add y19_174 (V.str ⟨#[10]⟩))).bind fun y20_176 =>
  getN.bind fun n_177 =>
  (trun (visB n_135 [(n_175, n_177, true), (n_173, n_175, true), (n_171, n_173, true), (n_169, n_171, true), (n_167, n_169, true), (n_165, n_167, true), (n_163, n_165, true), (n_161, n_163, true), (n_159, n_161, true), (n_157, n_159, true), (n_155, n_157, true), (n_153, n_155, true), (n_151, n_153, true), (n_149, n_151, true), (n_147, n_149, true), (n_145, n_147, true), (n_143, n_145, true), (n_141, n_143, true), (n_139, n_141, true), (n_137, n_139, true), (n_135, n_137, true)]) (appV 1 1 y0_136 y20_176)).bind fun y21_178 =>
  getN.bind fun n_179 =>
  (M.ret y21_178).bind fun y22_180 =>
  getN.bind fun n_181 =>
  (M.lift (arithV .add (s0_130.getD 1 V.undef) (V.int .i64 1))).bind fun t107_182 =>
  (M.ret t107_182).bind fun t81_183 =>
  M.ret (Ex.normal, [y22_180, t81_183])))
   (M.ret ((Ex.exit 4), [(s0_130.getD 0 V.undef), (s0_130.getD 1 V.undef)])))

noncomputable def ferry_ferryref25_Print_l4 (G : Nat → Option (List V)) (call : FuncId → List V → M V) (t110_188 : V) (t109_187 : V) (s0_190 : List V) : M R :=
  (M.lift (arithV .lss (s0_190.getD 1 V.undef) t110_188)).bind fun t112_191 =>
  (condV t112_191
   ((M.lift (idxV 4 t109_187 (s0_190.getD 1 V.undef))).bind fun t113_192 =>
  (loadN 4 t113_192).bind fun t114_193 =>
  (newV (.agg [(V.int .i64 0), (V.int .i64 0), (V.int .i64 0), (V.str ⟨#[]⟩)])).bind fun t12_194 =>
  (storeN 4 t12_194 t114_193).bind fun _ =>
  (getN.bind fun n_195 =>
  (M.ret (s0_190.getD 0 V.undef)).bind fun y0_196 =>
  getN.bind fun n_197 =>
  (M.lift (padd 0 t12_194)).bind fun y1_198 =>
  getN.bind fun n_199 =>
  (load1 y1_198).bind fun y2_200 =>
  getN.bind fun n_201 =>
  (qrun (visB n_195 [(n_199, n_201, true), (n_197, n_199, true), (n_195, n_197, false)]) (callV (cfg G) call 74 [y2_200])).bind fun y3_202 =>
  getN.bind fun n_203 =>
  (M.lift (arithV .add (V.str ⟨#[105, 110, 112, 117, 116, 32]⟩) y3_202)).bind fun y4_204 =>
  getN.bind fun n_205 =>
  (M.lift (arithV .add y4_204 (V.str ⟨#[32]⟩))).bind fun y5_206 =>
  getN.bind fun n_207 =>
  (M.lift (padd 1 t12_194)).bind fun y6_208 =>
  getN.bind fun n_209 =>
  (load1 y6_208).bind fun y7_210 =>
  getN.bind fun n_211 =>
  (qrun (visB n_195 [(n_209, n_211, true), (n_207, n_209, true), (n_205, n_207, false), (n_203, n_205, false), (n_201, n_203, true), (n_199, n_201, true), (n_197, n_199, true), (n_195, n_197, false)]) (callV (cfg G) call 74 [y7_210])).bind fun y8_212 =>
  getN.bind fun n_213 =>
  (M.lift (arithV .add y5_206 y8_212)).bind fun y9_214 =>
  getN.bind fun n_215 =>
  (M.lift (arithV .add y9_214 (V.str ⟨#[32]⟩))).bind fun y10_216 =>
  getN.bind fun n_217 =>
  (M.lift (padd 2 t12_194)).bind fun y11_218 =>
  getN.bind fun n_219 =>
  (load1 y11_218).bind fun y12_220 =>
  getN.bind fun n_221 =>
  (qrun (visB n_195 [(n_219, n_221, true), (n_217, n_219, true), (n_215, n_217, false), (n_213, n_215, false), (n_211, n_213, true), (n_209, n_211, true), (n_207, n_209, true), (n_205, n_207, false), (n_203, n_205, false), (n_201, n_203, true), (n_199, n_201, true), (n_197, n_199, true), (n_195, n_197, false)]) (callV (cfg G) call 74 [y12_220])).bind fun y13_222 =>
  getN.bind fun n_223 =>
  (M.lift (arithV .add y10_216 y13_222)).bind fun y14_224 =>
  getN.bind fun n_225 =>
  (M.lift (arithV .add y14_224 (V.str ⟨#[32]⟩))).bind fun y15_226 =>
  getN.bind fun n_227 =>
  (M.lift (padd 3 t12_194)).bind fun y16_228 =>
  getN.bind fun n_229 =>
  (load1 y16_228).bind fun y17_230 =>
  getN.bind fun n_231 =>
  (qrun (visB n_195 [(n_229, n_231, true), (n_227, n_229, true), (n_225, n_227, false), (n_223, n_225, false), (n_221, n_223, true), (n_219, n_221, true), (n_217, n_219, true), (n_215, n_217, false), (n_213, n_215, false), (n_211, n_213, true), (n_209, n_211, true), (n_207, n_209, true), (n_205, n_207, false), (n_203, n_205, false), (n_201, n_203, true), (n_199, n_201, true), (n_197, n_199, true), (n_195, n_197, false)]) (callV (cfg G) call 90 [y17_230])).bind fun y18_232 =>
  getN.bind fun n_233 =>
  (M.lift (arithV .add y15_226 y18_232)).bind fun y19_234 =>
  getN.bind fun n_235 =>
  (M.lift (arithV .add y19_234 (V.str ⟨#[10]⟩))).bind fun y20_236 =>
  getN.bind fun n_237 =>
  (trun (visB n_195 [(n_235, n_237, true), (n_233, n_235, true), (n_231, n_233, true), (n_229, n_231, true), (n_227, n_229, true), (n_225, n_227, true), (n_223, n_225, true), (n_221, n_223, true), (n_219, n_221, true), (n_217, n_219, true), (n_215, n_217, true), (n_213, n_215, true), (n_211, n_213, true), (n_209, n_211, true), (n_207, n_209, true), (n_205, n_207, true), (n_203, n_205, true), (n_201, n_203, true), (n_199, n_201, true), (n_197, n_199, true), (n_195, n_197, true)]) (appV 1 1 y0_196 y20_236)).bind fun y21_238 =>
  getN.bind fun n_239 =>
  (M.ret y21_238).bind fun y22_240 =>
  getN.bind fun n_241 =>
  (M.lift (arithV .add (s0_190.getD 1 V.undef) (V.int .i64 1))).bind fun t137_242 =>
  (M.ret t137_242).bind fun t111_243 =>
  M.ret (Ex.normal, [y22_240, t111_243])))
   (M.ret ((Ex.exit 6), [(s0_190.getD 0 V.undef), (s0_190.getD 1 V.undef)])))

noncomputable def ferry_ferryref25_Print_l5 (G : Nat → Option (List V)) (call : FuncId → List V → M V) (t140_248 : V) (t139_247 : V) (s0_250 : List V) : M R :=
  (M.lift (arithV .lss (s0_250.getD 1 V.undef) t140_248)).bind fun t142_251 =>
  (condV t142_251
   ((M.lift (idxV 4 t139_247 (s0_250.getD 1 V.undef))).bind fun t143_252 =>
  (loadN 4 t143_252).bind fun t144_253 =>
  (newV (.agg [(V.int .i64 0), (V.int .i64 0), (V.int .i64 0), (V.int .i64 0)])).bind fun t14_254 =>
  (storeN 4 t14_254 t144_253).bind fun _ =>
  (M.ret (s0_250.getD 0 V.undef)).bind fun t145_255 =>
  (loadN 4 t14_254).bind fun t146_256 =>
  (callV (cfg G) call 91 [t146_256]).bind fun t147_257 =>
  (M.lift (arithV .add t147_257 (V.str ⟨#[10]⟩))).bind fun t148_258 =>
  (appV 1 1 t145_255 t148_258).bind fun t149_259 =>
  (M.ret t149_259).bind fun t3_260 =>
  (M.lift (arithV .add (s0_250.getD 1 V.undef) (V.int .i64 1))).bind fun t150_261 =>
  (M.ret t150_261).bind fun t141_262 =>
  M.ret (Ex.normal, [t3_260, t141_262]))
   (M.ret ((Ex.exit 8), [(s0_250.getD 0 V.undef), (s0_250.getD 1 V.undef)])))

noncomputable def ferry_ferryref25_Print (G : Nat → Option (List V)) (call : FuncId → List V → M V) (x0 : V) : M R :=
  (newV x0).bind fun t1_1 =>
  (M.ret (V.str ⟨#[]⟩)).bind fun t2_2 =>
  (getN.bind fun n_3 =>
  (M.lift (padd 0 t1_1)).bind fun y0_4 =>
  getN.bind fun n_5 =>
  (M.lift (padd 0 y0_4)).bind fun y1_6 =>
  getN.bind fun n_7 =>
  (load1 y1_6).bind fun y2_8 =>
  getN.bind fun n_9 =>
  (qrun (visB n_3 [(n_7, n_9, true), (n_5, n_7, true), (n_3, n_5, true)]) (callV (cfg G) call 74 [y2_8])).bind fun y3_10 =>
  getN.bind fun n_11 =>
  (M.lift (arithV .add (V.str ⟨#[99, 111, 110, 102, 105, 103, 32]⟩) y3_10)).bind fun y4_12 =>
  getN.bind fun n_13 =>
  (M.lift (arithV .add y4_12 (V.str ⟨#[32]⟩))).bind fun y5_14 =>
  getN.bind fun n_15 =>
  (M.lift (padd 0 t1_1)).bind fun y6_16 =>
  getN.bind fun n_17 =>
  (M.lift (padd 5 y6_16)).bind fun y7_18 =>
  getN.bind fun n_19 =>
  (load1 y7_18).bind fun y8_20 =>
  getN.bind fun n_21 =>
  (qrun (visB n_3 [(n_19, n_21, true), (n_17, n_19, true), (n_15, n_17, true), (n_13, n_15, false), (n_11, n_13, false), (n_9, n_11, true), (n_7, n_9, true), (n_5, n_7, true), (n_3, n_5, true)]) (callV (cfg G) call 74 [y8_20])).bind fun y9_22 =>
  getN.bind fun n_23 =>
  (M.lift (arithV .add y5_14 y9_22)).bind fun y10_24 =>
  getN.bind fun n_25 =>
  (M.lift (arithV .add y10_24 (V.str ⟨#[10]⟩))).bind fun y11_26 =>
  getN.bind fun n_27 =>
  (newBytes y11_26).bind fun y12_28 =>
  getN.bind fun n_29 =>
  (M.ret y12_28).bind fun y13_30 =>
  getN.bind fun n_31 =>
  (M.lift (padd 0 t1_1)).bind fun t28_32 =>
  (M.lift (padd 1 t28_32)).bind fun t29_33 =>
  (load1 t29_33).bind fun t30_34 =>
  (M.lift (lenV t30_34)).bind fun t31_35 =>
  (M.ret (V.int .i64 0)).bind fun t32_36 =>
  (loopV (ferry_ferryref25_Print_l1 G call t31_35 t30_34 t1_1) [y13_30, t32_36]).bind fun r0_67 => match r0_67.1 with
  | .normal => M.fail
  | .exit k0_68 =>
    (if k0_68 = 0 then
    (M.lift (padd 0 t1_1)).bind fun t47_69 =>
    (M.lift (padd 3 t47_69)).bind fun t48_70 =>
    (load1 t48_70).bind fun t49_71 =>
    (M.lift (lenV t49_71)).bind fun t50_72 =>
    (M.ret (V.int .i64 0)).bind fun t51_73 =>
    (loopV (ferry_ferryref25_Print_l2 G call t50_72 t49_71) [(r0_67.2.getD 0 V.undef), t51_73]).bind fun r0_123 => match r0_123.1 with
    | .normal => M.fail
    | .exit k0_124 =>
      (if k0_124 = 2 then
      (M.lift (padd 0 t1_1)).bind fun t77_125 =>
      (M.lift (padd 4 t77_125)).bind fun t78_126 =>
      (load1 t78_126).bind fun t79_127 =>
      (M.lift (lenV t79_127)).bind fun t80_128 =>
      (M.ret (V.int .i64 0)).bind fun t81_129 =>
      (loopV (ferry_ferryref25_Print_l3 G call t80_128 t79_127) [(r0_123.2.getD 0 V.undef), t81_129]).bind fun r0_184 => match r0_184.1 with
      | .normal => M.fail
      | .exit k0_185 =>
        (if k0_185 = 4 then
        (M.lift (padd 6 t1_1)).bind fun t108_186 =>
        (load1 t108_186).bind fun t109_187 =>
        (M.lift (lenV t109_187)).bind fun t110_188 =>
        (M.ret (V.int .i64 0)).bind fun t111_189 =>
        (loopV (ferry_ferryref25_Print_l4 G call t110_188 t109_187) [(r0_184.2.getD 0 V.undef), t111_189]).bind fun r0_244 => match r0_244.1 with
        | .normal => M.fail
        | .exit k0_245 =>
          (if k0_245 = 6 then
          (M.lift (padd 7 t1_1)).bind fun t138_246 =>
          (load1 t138_246).bind fun t139_247 =>
          (M.lift (lenV t139_247)).bind fun t140_248 =>
          (M.ret (V.int .i64 0)).bind fun t141_249 =>
          (loopV (ferry_ferryref25_Print_l5 G call t140_248 t139_247) [(r0_244.2.getD 0 V.undef), t141_249]).bind fun r0_263 => match r0_263.1 with
          | .normal => M.fail
          | .exit k0_264 =>
            (if k0_264 = 8 then
            (M.ret (r0_263.2.getD 0 V.undef)).bind fun t151_265 =>
            (readBytes t151_265).bind fun t152_266 =>
            (M.ret t152_266).bind fun t2_267 =>
            M.ret (Ex.ret, [t2_267])
            else M.fail)
          | .ret =>
            M.ret (Ex.ret, [t2_2])
          else M.fail)
        | .ret =>
          M.ret (Ex.ret, [t2_2])
        else M.fail)
      | .ret =>
        M.ret (Ex.ret, [t2_2])
      else M.fail)
    | .ret =>
      M.ret (Ex.ret, [t2_2])
    else M.fail)
  | .ret =>
    M.ret (Ex.ret, [t2_2]))

theorem ferry_ferryref25_Print_eq (G : Nat → Option (List V)) (n : Nat) (x0 : V) : sem (cfg G) (n + 1) 33 [x0] = outV (ferry_ferryref25_Print G (sem (cfg G) n) x0) :=
  (fnV_atM (C := cfg G) (n := n) (f := 33) (fn := Tryd.f33) (c := Tryd.f33.body.getD .skip) (by kernel_rfl) (by kernel_rfl) (by kernel_rfl) [x0]).trans (by kernel_rfl)

end Go.Fv.Tr

/-
  The Go functions ferry/text.num, ferry/text.choice, ferry/text.known, ferry/text.shapeOf, ferry/text.fields, ferry/text.PrintOp, ferry/text.line, ferry/text.data, ferry/text.rights, ferry/text.portLine, ferry/text.partLines, ferry/text.goodPart, ferry/wire.Hex as plain terms. By an AI agent; no person has read it.
-/
import Derived.Test.YtoogammidjhfgaaDoorFvCf
import Derived.Test.YtoogammidjhfgaaDoorFvW4
set_option linter.unusedVariables false
set_option linter.unusedSimpArgs false
set_option linter.unusedSectionVars false
/-! The Go functions ferry/text.num, ferry/text.choice, ferry/text.known, ferry/text.shapeOf, ferry/text.fields, ferry/text.PrintOp, ferry/text.line, ferry/text.data, ferry/text.rights, ferry/text.portLine, ferry/text.partLines, ferry/text.goodPart, ferry/wire.Hex as plain terms. -/
namespace Go.Fv.Tr
open Go Go.Fv Go.Proofs
set_option linter.unusedVariables false
set_option maxRecDepth 20000

noncomputable def ferry_text_num (G : Nat → Option (List V)) (call : FuncId → List V → M V) (x0 : V) : M R :=
  (M.ret (V.str ⟨#[]⟩)).bind fun t2_1 =>
  (M.ret x0).bind fun t3_2 =>
  (callV (cfg G) call 127 [t3_2]).bind fun t4_3 =>
  (M.ret t4_3).bind fun t2_4 =>
  M.ret (Ex.ret, [t2_4])

theorem ferry_text_num_eq (G : Nat → Option (List V)) (n : Nat) (x0 : V) : sem (cfg G) (n + 1) 79 [x0] = outV (ferry_text_num G (sem (cfg G) n) x0) :=
  (fnV_at (C := cfg G) (n := n) (f := 79) (fn := Tryd.f79) (c := Tryd.f79.body.getD .skip) (by kernel_rfl) (by kernel_rfl) (by kernel_rfl) [x0]).trans (by kernel_rfl)

noncomputable def ferry_text_choice (G : Nat → Option (List V)) (call : FuncId → List V → M V) (x0 : V) (x1 : V) (x2 : V) : M R :=
  (M.ret (V.str ⟨#[]⟩)).bind fun t6_1 =>
  (M.ret x0).bind fun t7_2 =>
  (condV t7_2
   ((M.ret x1).bind fun t8_3 =>
  (M.ret t8_3).bind fun t6_4 =>
  M.ret (Ex.ret, [t6_4]))
   ((M.ret x2).bind fun t9_5 =>
  (M.ret t9_5).bind fun t6_6 =>
  M.ret (Ex.ret, [t6_6])))

theorem ferry_text_choice_eq (G : Nat → Option (List V)) (n : Nat) (x0 : V) (x1 : V) (x2 : V) : sem (cfg G) (n + 1) 81 [x0, x1, x2] = outV (ferry_text_choice G (sem (cfg G) n) x0 x1 x2) :=
  (fnV_at (C := cfg G) (n := n) (f := 81) (fn := Tryd.f81) (c := Tryd.f81.body.getD .skip) (by kernel_rfl) (by kernel_rfl) (by kernel_rfl) [x0, x1, x2]).trans (by kernel_rfl)

noncomputable def ferry_text_known (G : Nat → Option (List V)) (call : FuncId → List V → M V) (x0 : V) : M R :=
  (M.ret (V.bool false)).bind fun t2_1 =>
  (M.ret x0).bind fun t3_2 =>
  (M.lift (arithV .geq t3_2 (V.int .i64 1))).bind fun t4_3 =>
  (M.ret t4_3).bind fun t5_4 =>
  (guardV t5_4 true (M.ret x0)).bind fun t6_5 =>
  (guardV t5_4 true (M.lift (arithV .leq t6_5 (V.int .i64 10)))).bind fun t7_6 =>
  (M.lift (pickV t5_4 t7_6 (V.bool false))).bind fun t8_7 =>
  (M.ret t8_7).bind fun t2_8 =>
  M.ret (Ex.ret, [t2_8])

theorem ferry_text_known_eq (G : Nat → Option (List V)) (n : Nat) (x0 : V) : sem (cfg G) (n + 1) 174 [x0] = outV (ferry_text_known G (sem (cfg G) n) x0) :=
  (fnV_at (C := cfg G) (n := n) (f := 174) (fn := Tryd.f174) (c := Tryd.f174.body.getD .skip) (by kernel_rfl) (by kernel_rfl) (by kernel_rfl) [x0]).trans (by kernel_rfl)

noncomputable def ferry_text_shapeOf (G : Nat → Option (List V)) (call : FuncId → List V → M V) (x0 : V) : M R :=
  (newV (.agg [(V.str ⟨#[]⟩), (V.int .i64 0)])).bind fun t2_1 =>
  (M.ret x0).bind fun t3_2 =>
  (M.lift ((eqV (.sc .int) true t3_2 (V.int .i64 1)).bind fun b => some (.bool b))).bind fun t5_3 =>
  (M.ret t5_3).bind fun t4_4 =>
  (condV t4_4
   ((M.lift (buildV [(V.str ⟨#[]⟩), (V.int .i64 0)] [(0, 1, (V.str ⟨#[102, 114, 97, 109, 101]⟩)), (1, 1, (V.int .i64 0))])).bind fun t6_5 =>
  (storeN 2 t2_1 t6_5).bind fun _ =>
  (((loadN 2 t2_1)).bind fun v => (M.ret []).bind fun l => M.ret (v :: l)).bind fun l => M.ret (Ex.ret, tupV l))
   ((M.lift ((eqV (.sc .int) true t3_2 (V.int .i64 2)).bind fun b => some (.bool b))).bind fun t8_6 =>
  (M.ret t8_6).bind fun t7_7 =>
  (condV t7_7
   ((M.lift (buildV [(V.str ⟨#[]⟩), (V.int .i64 0)] [(0, 1, (V.str ⟨#[109, 111, 118, 101]⟩)), (1, 1, (V.int .i64 1))])).bind fun t9_8 =>
  (storeN 2 t2_1 t9_8).bind fun _ =>
  (((loadN 2 t2_1)).bind fun v => (M.ret []).bind fun l => M.ret (v :: l)).bind fun l => M.ret (Ex.ret, tupV l))
   ((M.lift ((eqV (.sc .int) true t3_2 (V.int .i64 3)).bind fun b => some (.bool b))).bind fun t11_9 =>
  (M.ret t11_9).bind fun t10_10 =>
  (condV t10_10
   ((M.lift (buildV [(V.str ⟨#[]⟩), (V.int .i64 0)] [(0, 1, (V.str ⟨#[97, 98, 111, 114, 116]⟩)), (1, 1, (V.int .i64 1))])).bind fun t12_11 =>
  (storeN 2 t2_1 t12_11).bind fun _ =>
  (((loadN 2 t2_1)).bind fun v => (M.ret []).bind fun l => M.ret (v :: l)).bind fun l => M.ret (Ex.ret, tupV l))
   ((M.lift ((eqV (.sc .int) true t3_2 (V.int .i64 4)).bind fun b => some (.bool b))).bind fun t14_12 =>
  (M.ret t14_12).bind fun t13_13 =>
  (condV t13_13
   ((M.lift (buildV [(V.str ⟨#[]⟩), (V.int .i64 0)] [(0, 1, (V.str ⟨#[99, 114, 97, 115, 104]⟩)), (1, 1, (V.int .i64 1))])).bind fun t15_14 =>
  (storeN 2 t2_1 t15_14).bind fun _ =>
  (((loadN 2 t2_1)).bind fun v => (M.ret []).bind fun l => M.ret (v :: l)).bind fun l => M.ret (Ex.ret, tupV l))
   ((M.lift ((eqV (.sc .int) true t3_2 (V.int .i64 5)).bind fun b => some (.bool b))).bind fun t17_15 =>
  (M.ret t17_15).bind fun t16_16 =>
  (condV t16_16
   ((M.lift (buildV [(V.str ⟨#[]⟩), (V.int .i64 0)] [(0, 1, (V.str ⟨#[117, 112]⟩)), (1, 1, (V.int .i64 1))])).bind fun t18_17 =>
  (storeN 2 t2_1 t18_17).bind fun _ =>
  (((loadN 2 t2_1)).bind fun v => (M.ret []).bind fun l => M.ret (v :: l)).bind fun l => M.ret (Ex.ret, tupV l))
   ((M.lift ((eqV (.sc .int) true t3_2 (V.int .i64 6)).bind fun b => some (.bool b))).bind fun t20_18 =>
  (M.ret t20_18).bind fun t19_19 =>
  (condV t19_19
   ((M.lift (buildV [(V.str ⟨#[]⟩), (V.int .i64 0)] [(0, 1, (V.str ⟨#[100, 101, 108, 105, 118, 101, 114]⟩)), (1, 1, (V.int .i64 1))])).bind fun t21_20 =>
  (storeN 2 t2_1 t21_20).bind fun _ =>
  (((loadN 2 t2_1)).bind fun v => (M.ret []).bind fun l => M.ret (v :: l)).bind fun l => M.ret (Ex.ret, tupV l))
   ((M.lift ((eqV (.sc .int) true t3_2 (V.int .i64 7)).bind fun b => some (.bool b))).bind fun t23_21 =>
  (M.ret t23_21).bind fun t22_22 =>
  (condV t22_22
   ((M.lift (buildV [(V.str ⟨#[]⟩), (V.int .i64 0)] [(0, 1, (V.str ⟨#[99, 111, 112, 121]⟩)), (1, 1, (V.int .i64 1))])).bind fun t24_23 =>
  (storeN 2 t2_1 t24_23).bind fun _ =>
  (((loadN 2 t2_1)).bind fun v => (M.ret []).bind fun l => M.ret (v :: l)).bind fun l => M.ret (Ex.ret, tupV l))
   ((M.lift ((eqV (.sc .int) true t3_2 (V.int .i64 8)).bind fun b => some (.bool b))).bind fun t26_24 =>
  (M.ret t26_24).bind fun t25_25 =>
  (condV t25_25
   ((M.lift (buildV [(V.str ⟨#[]⟩), (V.int .i64 0)] [(0, 1, (V.str ⟨#[100, 114, 111, 112]⟩)), (1, 1, (V.int .i64 1))])).bind fun t27_26 =>
  (storeN 2 t2_1 t27_26).bind fun _ =>
  (((loadN 2 t2_1)).bind fun v => (M.ret []).bind fun l => M.ret (v :: l)).bind fun l => M.ret (Ex.ret, tupV l))
   ((M.lift ((eqV (.sc .int) true t3_2 (V.int .i64 9)).bind fun b => some (.bool b))).bind fun t29_27 =>
  (M.ret t29_27).bind fun t28_28 =>
  (condV t28_28
   ((M.lift (buildV [(V.str ⟨#[]⟩), (V.int .i64 0)] [(0, 1, (V.str ⟨#[116, 114, 105, 109]⟩)), (1, 1, (V.int .i64 2))])).bind fun t30_29 =>
  (storeN 2 t2_1 t30_29).bind fun _ =>
  (((loadN 2 t2_1)).bind fun v => (M.ret []).bind fun l => M.ret (v :: l)).bind fun l => M.ret (Ex.ret, tupV l))
   ((M.lift ((eqV (.sc .int) true t3_2 (V.int .i64 10)).bind fun b => some (.bool b))).bind fun t32_30 =>
  (M.ret t32_30).bind fun t31_31 =>
  (condV t31_31
   ((M.lift (buildV [(V.str ⟨#[]⟩), (V.int .i64 0)] [(0, 1, (V.str ⟨#[102, 108, 105, 112]⟩)), (1, 1, (V.int .i64 3))])).bind fun t33_32 =>
  (storeN 2 t2_1 t33_32).bind fun _ =>
  (((loadN 2 t2_1)).bind fun v => (M.ret []).bind fun l => M.ret (v :: l)).bind fun l => M.ret (Ex.ret, tupV l))
   ((M.lift (buildV [(V.str ⟨#[]⟩), (V.int .i64 0)] [(0, 1, (V.str ⟨#[111, 112]⟩)), (1, 1, (V.int .i64 1))])).bind fun t34_33 =>
  (storeN 2 t2_1 t34_33).bind fun _ =>
  (((loadN 2 t2_1)).bind fun v => (M.ret []).bind fun l => M.ret (v :: l)).bind fun l => M.ret (Ex.ret, tupV l)))))))))))))))))))))

theorem ferry_text_shapeOf_eq (G : Nat → Option (List V)) (n : Nat) (x0 : V) : sem (cfg G) (n + 1) 137 [x0] = outV (ferry_text_shapeOf G (sem (cfg G) n) x0) :=
  (fnV_at (C := cfg G) (n := n) (f := 137) (fn := Tryd.f137) (c := Tryd.f137.body.getD .skip) (by kernel_rfl) (by kernel_rfl) (by kernel_rfl) [x0]).trans (by kernel_rfl)

noncomputable def ferry_text_fields (G : Nat → Option (List V)) (call : FuncId → List V → M V) (x0 : V) : M R :=
  (M.ret V.nils).bind fun t2_1 =>
  (M.ret x0).bind fun t3_2 =>
  (M.lift (nilCheckV t3_2)).bind fun t4_3 =>
  (M.lift (padd 0 t4_3)).bind fun t5_4 =>
  (load1 t5_4).bind fun t6_5 =>
  (callV (cfg G) call 174 [t6_5]).bind fun t7_6 =>
  (M.lift (unV .not t7_6)).bind fun t8_7 =>
  (condV t8_7
   ((M.ret x0).bind fun t9_8 =>
  (M.lift (nilCheckV t9_8)).bind fun t10_9 =>
  (M.lift (padd 0 t10_9)).bind fun t11_10 =>
  (sliceV 1 1 [V.nilp] [(0, t11_10)]).bind fun t12_11 =>
  (M.ret t12_11).bind fun t2_12 =>
  M.ret (Ex.ret, [t2_12]))
   ((getN.bind fun n_13 =>
  (M.ret x0).bind fun y0_14 =>
  getN.bind fun n_15 =>
  (M.lift (nilCheckV y0_14)).bind fun y1_16 =>
  getN.bind fun n_17 =>
  (M.lift (padd 1 y1_16)).bind fun y2_18 =>
  getN.bind fun n_19 =>
  (M.ret x0).bind fun y3_20 =>
  getN.bind fun n_21 =>
  (M.lift (nilCheckV y3_20)).bind fun y4_22 =>
  getN.bind fun n_23 =>
  (M.lift (padd 2 y4_22)).bind fun y5_24 =>
  getN.bind fun n_25 =>
  (M.ret x0).bind fun y6_26 =>
  getN.bind fun n_27 =>
  (M.lift (nilCheckV y6_26)).bind fun y7_28 =>
  getN.bind fun n_29 =>
  (M.lift (padd 3 y7_28)).bind fun y8_30 =>
  getN.bind fun n_31 =>
  (sliceV 1 3 [V.nilp] [(0, y2_18), (1, y5_24), (2, y8_30)]).bind fun y9_32 =>
  getN.bind fun n_33 =>
  (M.ret x0).bind fun y10_34 =>
  getN.bind fun n_35 =>
  (M.lift (nilCheckV y10_34)).bind fun y11_36 =>
  getN.bind fun n_37 =>
  (M.lift (padd 0 y11_36)).bind fun y12_38 =>
  getN.bind fun n_39 =>
  (load1 y12_38).bind fun y13_40 =>
  getN.bind fun n_41 =>
  (qrun (visB n_13 [(n_39, n_41, true), (n_37, n_39, true), (n_35, n_37, true), (n_33, n_35, true), (n_31, n_33, false), (n_29, n_31, false), (n_27, n_29, false), (n_25, n_27, false), (n_23, n_25, false), (n_21, n_23, false), (n_19, n_21, false), (n_17, n_19, false), (n_15, n_17, false), (n_13, n_15, false)]) (callV (cfg G) call 137 [y13_40])).bind fun y14_42 =>
  (M.lift (fieldV 1 1 false y14_42)).bind fun y15_43 =>
  (M.lift (slV 1 y9_32 none (some y15_43) none)).bind fun y16_44 =>
  (M.ret y16_44).bind fun y17_45 =>
  M.ret (Ex.ret, [y17_45]))))

theorem ferry_text_fields_eq (G : Nat → Option (List V)) (n : Nat) (x0 : V) : sem (cfg G) (n + 1) 138 [x0] = outV (ferry_text_fields G (sem (cfg G) n) x0) :=
  (fnV_at (C := cfg G) (n := n) (f := 138) (fn := Tryd.f138) (c := Tryd.f138.body.getD .skip) (by kernel_rfl) (by kernel_rfl) (by kernel_rfl) [x0]).trans (by kernel_rfl)

noncomputable def ferry_text_PrintOp_l1 (G : Nat → Option (List V)) (call : FuncId → List V → M V) (t12_10 : V) (t11_9 : V) (s0_12 : List V) : M R :=
  (M.lift (arithV .lss (s0_12.getD 1 V.undef) t12_10)).bind fun t14_13 =>
  (condV t14_13
   ((M.lift (idxV 1 t11_9 (s0_12.getD 1 V.undef))).bind fun t15_14 =>
  (load1 t15_14).bind fun t16_15 =>
  (M.ret t16_15).bind fun t5_16 =>
  (M.ret (s0_12.getD 0 V.undef)).bind fun t17_17 =>
  (M.ret t5_16).bind fun t18_18 =>
  (M.lift (nilCheckV t18_18)).bind fun t19_19 =>
  (load1 t19_19).bind fun t20_20 =>
  (callV (cfg G) call 79 [t20_20]).bind fun t21_21 =>
  (sliceV 1 1 [(V.str ⟨#[]⟩)] [(0, t21_21)]).bind fun t22_22 =>
  (appV 1 16 t17_17 t22_22).bind fun t23_23 =>
  (M.ret t23_23).bind fun t3_24 =>
  (M.lift (arithV .add (s0_12.getD 1 V.undef) (V.int .i64 1))).bind fun t24_25 =>
  (M.ret t24_25).bind fun t13_26 =>
  M.ret (Ex.normal, [t3_24, t13_26]))
   (M.ret ((Ex.exit 0), [(s0_12.getD 0 V.undef), (s0_12.getD 1 V.undef)])))

noncomputable def ferry_text_PrintOp (G : Nat → Option (List V)) (call : FuncId → List V → M V) (x0 : V) : M R :=
  (newV x0).bind fun t1_1 =>
  (M.ret (V.str ⟨#[]⟩)).bind fun t2_2 =>
  (M.lift (padd 0 t1_1)).bind fun t6_3 =>
  (load1 t6_3).bind fun t7_4 =>
  (callV (cfg G) call 137 [t7_4]).bind fun t8_5 =>
  (M.lift (fieldV 0 1 false t8_5)).bind fun t9_6 =>
  (sliceV 1 1 [(V.str ⟨#[]⟩)] [(0, t9_6)]).bind fun t10_7 =>
  (M.ret t10_7).bind fun t3_8 =>
  (callV (cfg G) call 138 [t1_1]).bind fun t11_9 =>
  (M.lift (lenV t11_9)).bind fun t12_10 =>
  (M.ret (V.int .i64 0)).bind fun t13_11 =>
  (loopV (ferry_text_PrintOp_l1 G call t12_10 t11_9) [t3_8, t13_11]).bind fun r0_27 => match r0_27.1 with
  | .normal => M.fail
  | .exit k0_28 =>
    (if k0_28 = 0 then
    (M.ret (r0_27.2.getD 0 V.undef)).bind fun t25_29 =>
    (callV (cfg G) call 78 [t25_29]).bind fun t26_30 =>
    (M.ret t26_30).bind fun t2_31 =>
    M.ret (Ex.ret, [t2_31])
    else M.fail)
  | .ret =>
    M.ret (Ex.ret, [t2_2])

theorem ferry_text_PrintOp_eq (G : Nat → Option (List V)) (n : Nat) (x0 : V) : sem (cfg G) (n + 1) 83 [x0] = outV (ferry_text_PrintOp G (sem (cfg G) n) x0) :=
  (fnV_atM (C := cfg G) (n := n) (f := 83) (fn := Tryd.f83) (c := Tryd.f83.body.getD .skip) (by kernel_rfl) (by kernel_rfl) (by kernel_rfl) [x0]).trans (by kernel_rfl)

noncomputable def ferry_text_line (G : Nat → Option (List V)) (call : FuncId → List V → M V) (x0 : V) : M R :=
  (M.ret (V.str ⟨#[]⟩)).bind fun t2_1 =>
  (M.ret x0).bind fun t3_2 =>
  (callV (cfg G) call 84 [t3_2, (V.str ⟨#[32]⟩)]).bind fun t4_3 =>
  (M.ret t4_3).bind fun t2_4 =>
  M.ret (Ex.ret, [t2_4])

theorem ferry_text_line_eq (G : Nat → Option (List V)) (n : Nat) (x0 : V) : sem (cfg G) (n + 1) 78 [x0] = outV (ferry_text_line G (sem (cfg G) n) x0) :=
  (fnV_at (C := cfg G) (n := n) (f := 78) (fn := Tryd.f78) (c := Tryd.f78.body.getD .skip) (by kernel_rfl) (by kernel_rfl) (by kernel_rfl) [x0]).trans (by kernel_rfl)

noncomputable def ferry_text_data (G : Nat → Option (List V)) (call : FuncId → List V → M V) (x0 : V) : M R :=
  (M.ret (V.str ⟨#[]⟩)).bind fun t2_1 =>
  (M.ret x0).bind fun t3_2 =>
  (M.lift ((eqV (.sc .str) true t3_2 (V.str ⟨#[]⟩)).bind fun b => some (.bool b))).bind fun t4_3 =>
  (condV t4_3
   ((M.ret (V.str ⟨#[45]⟩)).bind fun t2_4 =>
  M.ret (Ex.ret, [t2_4]))
   ((M.ret x0).bind fun t5_5 =>
  (newBytes t5_5).bind fun t6_6 =>
  (callV (cfg G) call 136 [t6_6]).bind fun t7_7 =>
  (M.ret t7_7).bind fun t2_8 =>
  M.ret (Ex.ret, [t2_8])))

theorem ferry_text_data_eq (G : Nat → Option (List V)) (n : Nat) (x0 : V) : sem (cfg G) (n + 1) 82 [x0] = outV (ferry_text_data G (sem (cfg G) n) x0) :=
  (fnV_at (C := cfg G) (n := n) (f := 82) (fn := Tryd.f82) (c := Tryd.f82.body.getD .skip) (by kernel_rfl) (by kernel_rfl) (by kernel_rfl) [x0]).trans (by kernel_rfl)

noncomputable def ferry_text_rights_l1 (G : Nat → Option (List V)) (call : FuncId → List V → M V) (t7_4 : V) (t6_3 : V) (x0 : V) (s0_6 : List V) : M R :=
  (M.lift (arithV .lss (s0_6.getD 1 V.undef) t7_4)).bind fun t9_7 =>
  (condV t9_7
   ((M.ret (s0_6.getD 1 V.undef)).bind fun t10_8 =>
  (M.lift (idxV 1 t6_3 (s0_6.getD 1 V.undef))).bind fun t11_9 =>
  (load1 t11_9).bind fun t12_10 =>
  (M.ret t10_8).bind fun t4_11 =>
  (M.ret t12_10).bind fun t5_12 =>
  (M.ret x0).bind fun t13_13 =>
  (M.ret t4_11).bind fun t14_14 =>
  (M.lift (arithV .shr t13_13 t14_14)).bind fun t15_15 =>
  (M.lift (arithV .and t15_15 (V.int .i64 1))).bind fun t16_16 =>
  (M.lift ((eqV (.sc .int) true t16_16 (V.int .i64 1)).bind fun b => some (.bool b))).bind fun t17_17 =>
  (condV t17_17
   ((M.ret (s0_6.getD 0 V.undef)).bind fun t18_24 =>
  (M.ret t5_12).bind fun t19_25 =>
  (M.lift (arithV .add t18_24 t19_25)).bind fun t20_26 =>
  (M.ret t20_26).bind fun t3_27 =>
  (M.lift (arithV .add (s0_6.getD 1 V.undef) (V.int .i64 1))).bind fun t21_28 =>
  (M.ret t21_28).bind fun t8_29 =>
  M.ret (Ex.normal, [t3_27, t8_29]))
   ((M.lift (arithV .add (s0_6.getD 1 V.undef) (V.int .i64 1))).bind fun t21_30 =>
  (M.ret t21_30).bind fun t8_31 =>
  M.ret (Ex.normal, [(s0_6.getD 0 V.undef), t8_31]))))
   (M.ret ((Ex.exit 0), [(s0_6.getD 0 V.undef), (s0_6.getD 1 V.undef)])))

noncomputable def ferry_text_rights (G : Nat → Option (List V)) (call : FuncId → List V → M V) (x0 : V) : M R :=
  (M.ret (V.str ⟨#[]⟩)).bind fun t2_1 =>
  (M.ret (V.str ⟨#[]⟩)).bind fun t3_2 =>
  (sliceV 1 3 [(V.str ⟨#[]⟩)] [(0, (V.str ⟨#[114]⟩)), (1, (V.str ⟨#[119]⟩)), (2, (V.str ⟨#[120]⟩))]).bind fun t6_3 =>
  (M.lift (lenV t6_3)).bind fun t7_4 =>
  (M.ret (V.int .i64 0)).bind fun t8_5 =>
  (loopV (ferry_text_rights_l1 G call t7_4 t6_3 x0) [t3_2, t8_5]).bind fun r0_32 => match r0_32.1 with
  | .normal => M.fail
  | .exit k0_33 =>
    (if k0_33 = 0 then
    (M.ret (r0_32.2.getD 0 V.undef)).bind fun t22_34 =>
    (M.lift ((eqV (.sc .str) true t22_34 (V.str ⟨#[]⟩)).bind fun b => some (.bool b))).bind fun t23_35 =>
    (condV t23_35
     ((M.ret (V.str ⟨#[45]⟩)).bind fun t2_36 =>
    M.ret (Ex.ret, [t2_36]))
     ((M.ret (r0_32.2.getD 0 V.undef)).bind fun t24_37 =>
    (M.ret t24_37).bind fun t2_38 =>
    M.ret (Ex.ret, [t2_38])))
    else M.fail)
  | .ret =>
    M.ret (Ex.ret, [t2_1])

theorem ferry_text_rights_eq (G : Nat → Option (List V)) (n : Nat) (x0 : V) : sem (cfg G) (n + 1) 134 [x0] = outV (ferry_text_rights G (sem (cfg G) n) x0) :=
  (fnV_at (C := cfg G) (n := n) (f := 134) (fn := Tryd.f134) (c := Tryd.f134.body.getD .skip) (by kernel_rfl) (by kernel_rfl) (by kernel_rfl) [x0]).trans (by kernel_rfl)

noncomputable def ferry_text_portLine (G : Nat → Option (List V)) (call : FuncId → List V → M V) (x0 : V) : M R :=
  (newV x0).bind fun t1_1 =>
  (M.ret (V.str ⟨#[]⟩)).bind fun t2_2 =>
  (M.lift (padd 0 t1_1)).bind fun t3_3 =>
  (load1 t3_3).bind fun t4_4 =>
  (M.lift ((eqV (.sc .int) true t4_4 (V.int .i64 1)).bind fun b => some (.bool b))).bind fun t6_5 =>
  (M.ret t6_5).bind fun t5_6 =>
  (condV t5_6
   ((getN.bind fun n_7 =>
  (M.lift (padd 1 t1_1)).bind fun y0_8 =>
  getN.bind fun n_9 =>
  (load1 y0_8).bind fun y1_10 =>
  getN.bind fun n_11 =>
  (qrun (visB n_7 [(n_9, n_11, true), (n_7, n_9, true)]) (callV (cfg G) call 79 [y1_10])).bind fun y2_12 =>
  getN.bind fun n_13 =>
  (M.lift (padd 3 t1_1)).bind fun y3_14 =>
  getN.bind fun n_15 =>
  (load1 y3_14).bind fun y4_16 =>
  getN.bind fun n_17 =>
  (qrun (visB n_7 [(n_15, n_17, true), (n_13, n_15, true), (n_11, n_13, true), (n_9, n_11, true), (n_7, n_9, true)]) (callV (cfg G) call 79 [y4_16])).bind fun y5_18 =>
  getN.bind fun n_19 =>
  (sliceV 1 4 [(V.str ⟨#[]⟩)] [(0, (V.str ⟨#[112, 111, 114, 116]⟩)), (1, (V.str ⟨#[115, 97, 109, 112, 108, 101, 105, 110]⟩)), (2, y2_12), (3, y5_18)]).bind fun y6_20 =>
  getN.bind fun n_21 =>
  (qrun (visB n_7 [(n_19, n_21, true), (n_17, n_19, true), (n_15, n_17, true), (n_13, n_15, true), (n_11, n_13, true), (n_9, n_11, true), (n_7, n_9, true)]) (callV (cfg G) call 78 [y6_20])).bind fun y7_22 =>
  getN.bind fun n_23 =>
  (M.ret y7_22).bind fun y8_24 =>
  getN.bind fun n_25 =>
  M.ret (Ex.ret, [y8_24])))
   ((M.lift ((eqV (.sc .int) true t4_4 (V.int .i64 2)).bind fun b => some (.bool b))).bind fun t16_26 =>
  (M.ret t16_26).bind fun t15_27 =>
  (condV t15_27
   ((M.lift (padd 1 t1_1)).bind fun t17_28 =>
  (load1 t17_28).bind fun t18_29 =>
  (callV (cfg G) call 79 [t18_29]).bind fun t19_30 =>
  (sliceV 1 3 [(V.str ⟨#[]⟩)] [(0, (V.str ⟨#[112, 111, 114, 116]⟩)), (1, (V.str ⟨#[115, 97, 109, 112, 108, 101, 111, 117, 116]⟩)), (2, t19_30)]).bind fun t20_31 =>
  (callV (cfg G) call 78 [t20_31]).bind fun t21_32 =>
  (M.ret t21_32).bind fun t2_33 =>
  M.ret (Ex.ret, [t2_33]))
   ((M.lift ((eqV (.sc .int) true t4_4 (V.int .i64 3)).bind fun b => some (.bool b))).bind fun t23_34 =>
  (M.ret t23_34).bind fun t22_35 =>
  (condV t22_35
   ((getN.bind fun n_36 =>
  (M.lift (padd 1 t1_1)).bind fun y0_37 =>
  getN.bind fun n_38 =>
  (load1 y0_37).bind fun y1_39 =>
  getN.bind fun n_40 =>
  (qrun (visB n_36 [(n_38, n_40, true), (n_36, n_38, true)]) (callV (cfg G) call 79 [y1_39])).bind fun y2_41 =>
  getN.bind fun n_42 =>
  (M.lift (padd 2 t1_1)).bind fun y3_43 =>
  getN.bind fun n_44 =>
  (load1 y3_43).bind fun y4_45 =>
  getN.bind fun n_46 =>
  (qrun (visB n_36 [(n_44, n_46, true), (n_42, n_44, true), (n_40, n_42, true), (n_38, n_40, true), (n_36, n_38, true)]) (callV (cfg G) call 79 [y4_45])).bind fun y5_47 =>
  getN.bind fun n_48 =>
  (sliceV 1 4 [(V.str ⟨#[]⟩)] [(0, (V.str ⟨#[112, 111, 114, 116]⟩)), (1, (V.str ⟨#[113, 117, 101, 117, 101, 105, 110]⟩)), (2, y2_41), (3, y5_47)]).bind fun y6_49 =>
  getN.bind fun n_50 =>
  (qrun (visB n_36 [(n_48, n_50, true), (n_46, n_48, true), (n_44, n_46, true), (n_42, n_44, true), (n_40, n_42, true), (n_38, n_40, true), (n_36, n_38, true)]) (callV (cfg G) call 78 [y6_49])).bind fun y7_51 =>
  getN.bind fun n_52 =>
  (M.ret y7_51).bind fun y8_53 =>
  getN.bind fun n_54 =>
  M.ret (Ex.ret, [y8_53])))
   ((getN.bind fun n_55 =>
  (M.lift (padd 1 t1_1)).bind fun y0_56 =>
  getN.bind fun n_57 =>
  (load1 y0_56).bind fun y1_58 =>
  getN.bind fun n_59 =>
  (qrun (visB n_55 [(n_57, n_59, true), (n_55, n_57, true)]) (callV (cfg G) call 79 [y1_58])).bind fun y2_60 =>
  getN.bind fun n_61 =>
  (M.lift (padd 2 t1_1)).bind fun y3_62 =>
  getN.bind fun n_63 =>
  (load1 y3_62).bind fun y4_64 =>
  getN.bind fun n_65 =>
  (qrun (visB n_55 [(n_63, n_65, true), (n_61, n_63, true), (n_59, n_61, true), (n_57, n_59, true), (n_55, n_57, true)]) (callV (cfg G) call 79 [y4_64])).bind fun y5_66 =>
  getN.bind fun n_67 =>
  (sliceV 1 4 [(V.str ⟨#[]⟩)] [(0, (V.str ⟨#[112, 111, 114, 116]⟩)), (1, (V.str ⟨#[113, 117, 101, 117, 101, 111, 117, 116]⟩)), (2, y2_60), (3, y5_66)]).bind fun y6_68 =>
  getN.bind fun n_69 =>
  (qrun (visB n_55 [(n_67, n_69, true), (n_65, n_67, true), (n_63, n_65, true), (n_61, n_63, true), (n_59, n_61, true), (n_57, n_59, true), (n_55, n_57, true)]) (callV (cfg G) call 78 [y6_68])).bind fun y7_70 =>
  getN.bind fun n_71 =>
  (M.ret y7_70).bind fun y8_72 =>
  getN.bind fun n_73 =>
  M.ret (Ex.ret, [y8_72]))))))))

theorem ferry_text_portLine_eq (G : Nat → Option (List V)) (n : Nat) (x0 : V) : sem (cfg G) (n + 1) 135 [x0] = outV (ferry_text_portLine G (sem (cfg G) n) x0) :=
  (fnV_atM (C := cfg G) (n := n) (f := 135) (fn := Tryd.f135) (c := Tryd.f135.body.getD .skip) (by kernel_rfl) (by kernel_rfl) (by kernel_rfl) [x0]).trans (by kernel_rfl)

noncomputable def ferry_text_partLines_l1 (G : Nat → Option (List V)) (call : FuncId → List V → M V) (t24_24 : V) (t23_23 : V) (s0_26 : List V) : M R :=
  (M.lift (arithV .lss (s0_26.getD 1 V.undef) t24_24)).bind fun t26_27 =>
  (condV t26_27
   ((M.lift (idxV 2 t23_23 (s0_26.getD 1 V.undef))).bind fun t27_28 =>
  (loadN 2 t27_28).bind fun t28_29 =>
  (newV (.agg [(V.int .i64 0), (V.str ⟨#[]⟩)])).bind fun t7_30 =>
  (storeN 2 t7_30 t28_29).bind fun _ =>
  (getN.bind fun n_31 =>
  (M.ret (s0_26.getD 0 V.undef)).bind fun y0_32 =>
  getN.bind fun n_33 =>
  (M.lift (padd 0 t7_30)).bind fun y1_34 =>
  getN.bind fun n_35 =>
  (load1 y1_34).bind fun y2_36 =>
  getN.bind fun n_37 =>
  (qrun (visB n_31 [(n_35, n_37, true), (n_33, n_35, true), (n_31, n_33, false)]) (callV (cfg G) call 134 [y2_36])).bind fun y3_38 =>
  getN.bind fun n_39 =>
  (M.lift (padd 1 t7_30)).bind fun y4_40 =>
  getN.bind fun n_41 =>
  (load1 y4_40).bind fun y5_42 =>
  getN.bind fun n_43 =>
  (qrun (visB n_31 [(n_41, n_43, true), (n_39, n_41, true), (n_37, n_39, true), (n_35, n_37, true), (n_33, n_35, true), (n_31, n_33, false)]) (callV (cfg G) call 82 [y5_42])).bind fun y6_44 =>
  getN.bind fun n_45 =>
  (sliceV 1 3 [(V.str ⟨#[]⟩)] [(0, (V.str ⟨#[112, 97, 103, 101]⟩)), (1, y3_38), (2, y6_44)]).bind fun y7_46 =>
  getN.bind fun n_47 =>
  (qrun (visB n_31 [(n_45, n_47, true), (n_43, n_45, true), (n_41, n_43, true), (n_39, n_41, true), (n_37, n_39, true), (n_35, n_37, true), (n_33, n_35, true), (n_31, n_33, false)]) (callV (cfg G) call 78 [y7_46])).bind fun y8_48 =>
  getN.bind fun n_49 =>
  (sliceV 1 1 [(V.str ⟨#[]⟩)] [(0, y8_48)]).bind fun y9_50 =>
  getN.bind fun n_51 =>
  (trun (visB n_31 [(n_49, n_51, true), (n_47, n_49, true), (n_45, n_47, true), (n_43, n_45, true), (n_41, n_43, true), (n_39, n_41, true), (n_37, n_39, true), (n_35, n_37, true), (n_33, n_35, true), (n_31, n_33, true)]) (appV 1 16 y0_32 y9_50)).bind fun y10_52 =>
  getN.bind fun n_53 =>
  (M.ret y10_52).bind fun y11_54 =>
  getN.bind fun n_55 =>
  (M.lift (arithV .add (s0_26.getD 1 V.undef) (V.int .i64 1))).bind fun t40_56 =>
  (M.ret t40_56).bind fun t25_57 =>
  M.ret (Ex.normal, [y11_54, t25_57])))
   (M.ret ((Ex.exit 0), [(s0_26.getD 0 V.undef), (s0_26.getD 1 V.undef)])))

noncomputable def ferry_text_partLines_l2 (G : Nat → Option (List V)) (call : FuncId → List V → M V) (t43_62 : V) (t42_61 : V) (s0_64 : List V) : M R :=
  (M.lift (arithV .lss (s0_64.getD 1 V.undef) t43_62)).bind fun t45_65 =>
  (condV t45_65
   ((M.lift (idxV 3 t42_61 (s0_64.getD 1 V.undef))).bind fun t46_66 =>
  (loadN 3 t46_66).bind fun t47_67 =>
  (newV (.agg [(V.int .i64 0), (V.int .i64 0), (V.bool false)])).bind fun t9_68 =>
  (storeN 3 t9_68 t47_67).bind fun _ =>
  (getN.bind fun n_69 =>
  (M.ret (s0_64.getD 0 V.undef)).bind fun y0_70 =>
  getN.bind fun n_71 =>
  (M.lift (padd 0 t9_68)).bind fun y1_72 =>
  getN.bind fun n_73 =>
  (load1 y1_72).bind fun y2_74 =>
  getN.bind fun n_75 =>
  (qrun (visB n_69 [(n_73, n_75, true), (n_71, n_73, true), (n_69, n_71, false)]) (callV (cfg G) call 79 [y2_74])).bind fun y3_76 =>
  getN.bind fun n_77 =>
  (M.lift (padd 1 t9_68)).bind fun y4_78 =>
  getN.bind fun n_79 =>
  (load1 y4_78).bind fun y5_80 =>
  getN.bind fun n_81 =>
  (qrun (visB n_69 [(n_79, n_81, true), (n_77, n_79, true), (n_75, n_77, true), (n_73, n_75, true), (n_71, n_73, true), (n_69, n_71, false)]) (callV (cfg G) call 79 [y5_80])).bind fun y6_82 =>
  getN.bind fun n_83 =>
  (M.lift (padd 2 t9_68)).bind fun y7_84 =>
  getN.bind fun n_85 =>
  (load1 y7_84).bind fun y8_86 =>
  getN.bind fun n_87 =>
  (qrun (visB n_69 [(n_85, n_87, true), (n_83, n_85, true), (n_81, n_83, true), (n_79, n_81, true), (n_77, n_79, true), (n_75, n_77, true), (n_73, n_75, true), (n_71, n_73, true), (n_69, n_71, false)]) (callV (cfg G) call 81 [y8_86, (V.str ⟨#[97, 117, 116, 111]⟩), (V.str ⟨#[105, 100, 108, 101]⟩)])).bind fun y9_88 =>
  getN.bind fun n_89 =>
  (sliceV 1 4 [(V.str ⟨#[]⟩)] [(0, (V.str ⟨#[112, 114, 111, 99]⟩)), (1, y3_76), (2, y6_82), (3, y9_88)]).bind fun y10_90 =>
  getN.bind fun n_91 =>
  (qrun (visB n_69 [(n_89, n_91, true), (n_87, n_89, true), (n_85, n_87, true), (n_83, n_85, true), (n_81, n_83, true), (n_79, n_81, true), (n_77, n_79, true), (n_75, n_77, true), (n_73, n_75, true), (n_71, n_73, true), (n_69, n_71, false)]) (callV (cfg G) call 78 [y10_90])).bind fun y11_92 =>
  getN.bind fun n_93 =>
  (sliceV 1 1 [(V.str ⟨#[]⟩)] [(0, y11_92)]).bind fun y12_94 =>
  getN.bind fun n_95 =>
  (trun (visB n_69 [(n_93, n_95, true), (n_91, n_93, true), (n_89, n_91, true), (n_87, n_89, true), (n_85, n_87, true), (n_83, n_85, true), (n_81, n_83, true), (n_79, n_81, true), (n_77, n_79, true), (n_75, n_77, true), (n_73, n_75, true), (n_71, n_73, true), (n_69, n_71, true)]) (appV 1 16 y0_70 y12_94)).bind fun y13_96 =>
  getN.bind fun n_97 =>
  (M.ret y13_96).bind fun y14_98 =>
  getN.bind fun n_99 =>
  (M.lift (arithV .add (s0_64.getD 1 V.undef) (V.int .i64 1))).bind fun t62_100 =>
  (M.ret t62_100).bind fun t44_101 =>
  M.ret (Ex.normal, [y14_98, t44_101])))
   (M.ret ((Ex.exit 2), [(s0_64.getD 0 V.undef), (s0_64.getD 1 V.undef)])))

noncomputable def ferry_text_partLines_l3 (G : Nat → Option (List V)) (call : FuncId → List V → M V) (t65_106 : V) (t64_105 : V) (s0_108 : List V) : M R :=
  (M.lift (arithV .lss (s0_108.getD 1 V.undef) t65_106)).bind fun t67_109 =>
  (condV t67_109
   ((M.lift (idxV 4 t64_105 (s0_108.getD 1 V.undef))).bind fun t68_110 =>
  (loadN 4 t68_110).bind fun t69_111 =>
  (newV (.agg [(V.int .i64 0), (V.int .i64 0), (V.int .i64 0), (V.int .i64 0)])).bind fun t11_112 =>
  (storeN 4 t11_112 t69_111).bind fun _ =>
  (M.ret (s0_108.getD 0 V.undef)).bind fun t70_113 =>
  (loadN 4 t11_112).bind fun t71_114 =>
  (callV (cfg G) call 135 [t71_114]).bind fun t72_115 =>
  (sliceV 1 1 [(V.str ⟨#[]⟩)] [(0, t72_115)]).bind fun t73_116 =>
  (appV 1 16 t70_113 t73_116).bind fun t74_117 =>
  (M.ret t74_117).bind fun t5_118 =>
  (M.lift (arithV .add (s0_108.getD 1 V.undef) (V.int .i64 1))).bind fun t75_119 =>
  (M.ret t75_119).bind fun t66_120 =>
  M.ret (Ex.normal, [t5_118, t66_120]))
   (M.ret ((Ex.exit 4), [(s0_108.getD 0 V.undef), (s0_108.getD 1 V.undef)])))

noncomputable def ferry_text_partLines_l4 (G : Nat → Option (List V)) (call : FuncId → List V → M V) (t89_137 : V) (t88_136 : V) (s0_139 : List V) : M R :=
  (M.lift (arithV .lss (s0_139.getD 1 V.undef) t89_137)).bind fun t91_140 =>
  (condV t91_140
   ((M.lift (idxV 1 t88_136 (s0_139.getD 1 V.undef))).bind fun t92_141 =>
  (load1 t92_141).bind fun t93_142 =>
  (M.ret t93_142).bind fun t13_143 =>
  (M.ret (s0_139.getD 0 V.undef)).bind fun t94_144 =>
  (M.ret t13_143).bind fun t95_145 =>
  (callV (cfg G) call 79 [t95_145]).bind fun t96_146 =>
  (sliceV 1 2 [(V.str ⟨#[]⟩)] [(0, (V.str ⟨#[115, 101, 109]⟩)), (1, t96_146)]).bind fun t97_147 =>
  (callV (cfg G) call 78 [t97_147]).bind fun t98_148 =>
  (sliceV 1 1 [(V.str ⟨#[]⟩)] [(0, t98_148)]).bind fun t99_149 =>
  (appV 1 16 t94_144 t99_149).bind fun t100_150 =>
  (M.ret t100_150).bind fun t5_151 =>
  (M.lift (arithV .add (s0_139.getD 1 V.undef) (V.int .i64 1))).bind fun t101_152 =>
  (M.ret t101_152).bind fun t90_153 =>
  M.ret (Ex.normal, [t5_151, t90_153]))
   (M.ret ((Ex.exit 6), [(s0_139.getD 0 V.undef), (s0_139.getD 1 V.undef)])))

noncomputable def ferry_text_partLines_j1 (G : Nat → Option (List V)) (call : FuncId → List V → M V) (t2_1 : V) (t4_2 : V) (j5_134 : V) : M R :=
  (M.lift (padd 6 t2_1)).bind fun t87_135 =>
  (load1 t87_135).bind fun t88_136 =>
  (M.lift (lenV t88_136)).bind fun t89_137 =>
  (M.ret (V.int .i64 0)).bind fun t90_138 =>
  (loopV (ferry_text_partLines_l4 G call t89_137 t88_136) [j5_134, t90_138]).bind fun r0_154 => match r0_154.1 with
  | .normal => M.fail
  | .exit k0_155 =>
    (if k0_155 = 6 then
    (M.ret (r0_154.2.getD 0 V.undef)).bind fun t102_156 =>
    (M.ret t102_156).bind fun t4_157 =>
    M.ret (Ex.ret, [t4_157])
    else M.fail)
  | .ret =>
    M.ret (Ex.ret, [t4_2])

noncomputable def ferry_text_partLines (G : Nat → Option (List V)) (call : FuncId → List V → M V) (x0 : V) (x1 : V) : M R :=
  (newV x0).bind fun t2_1 =>
  (M.ret V.nils).bind fun t4_2 =>
  (getN.bind fun n_3 =>
  (M.ret x1).bind fun y0_4 =>
  getN.bind fun n_5 =>
  (qrun (visB n_3 [(n_3, n_5, true)]) (callV (cfg G) call 79 [y0_4])).bind fun y1_6 =>
  getN.bind fun n_7 =>
  (M.lift (padd 1 t2_1)).bind fun y2_8 =>
  getN.bind fun n_9 =>
  (load1 y2_8).bind fun y3_10 =>
  getN.bind fun n_11 =>
  (qrun (visB n_3 [(n_9, n_11, true), (n_7, n_9, true), (n_5, n_7, true), (n_3, n_5, true)]) (callV (cfg G) call 81 [y3_10, (V.str ⟨#[109, 111, 98, 105, 108, 101]⟩), (V.str ⟨#[102, 105, 120, 101, 100]⟩)])).bind fun y4_12 =>
  getN.bind fun n_13 =>
  (sliceV 1 3 [(V.str ⟨#[]⟩)] [(0, (V.str ⟨#[112, 97, 114, 116]⟩)), (1, y1_6), (2, y4_12)]).bind fun y5_14 =>
  getN.bind fun n_15 =>
  (qrun (visB n_3 [(n_13, n_15, true), (n_11, n_13, true), (n_9, n_11, true), (n_7, n_9, true), (n_5, n_7, true), (n_3, n_5, true)]) (callV (cfg G) call 78 [y5_14])).bind fun y6_16 =>
  getN.bind fun n_17 =>
  (sliceV 1 1 [(V.str ⟨#[]⟩)] [(0, y6_16)]).bind fun y7_18 =>
  getN.bind fun n_19 =>
  (M.ret y7_18).bind fun y8_20 =>
  getN.bind fun n_21 =>
  (M.lift (padd 2 t2_1)).bind fun t22_22 =>
  (load1 t22_22).bind fun t23_23 =>
  (M.lift (lenV t23_23)).bind fun t24_24 =>
  (M.ret (V.int .i64 0)).bind fun t25_25 =>
  (loopV (ferry_text_partLines_l1 G call t24_24 t23_23) [y8_20, t25_25]).bind fun r0_58 => match r0_58.1 with
  | .normal => M.fail
  | .exit k0_59 =>
    (if k0_59 = 0 then
    (M.lift (padd 3 t2_1)).bind fun t41_60 =>
    (load1 t41_60).bind fun t42_61 =>
    (M.lift (lenV t42_61)).bind fun t43_62 =>
    (M.ret (V.int .i64 0)).bind fun t44_63 =>
    (loopV (ferry_text_partLines_l2 G call t43_62 t42_61) [(r0_58.2.getD 0 V.undef), t44_63]).bind fun r0_102 => match r0_102.1 with
    | .normal => M.fail
    | .exit k0_103 =>
      (if k0_103 = 2 then
      (M.lift (padd 4 t2_1)).bind fun t63_104 =>
      (load1 t63_104).bind fun t64_105 =>
      (M.lift (lenV t64_105)).bind fun t65_106 =>
      (M.ret (V.int .i64 0)).bind fun t66_107 =>
      (loopV (ferry_text_partLines_l3 G call t65_106 t64_105) [(r0_102.2.getD 0 V.undef), t66_107]).bind fun r0_121 => match r0_121.1 with
      | .normal => M.fail
      | .exit k0_122 =>
        (if k0_122 = 4 then
        (M.lift (padd 5 t2_1)).bind fun t76_123 =>
        (load1 t76_123).bind fun t77_124 =>
        (M.lift ((eqV (.sc .int) true t77_124 (V.int .i64 0)).bind fun b => some (.bool !b))).bind fun t78_125 =>
        (condV t78_125
         ((M.ret (r0_121.2.getD 0 V.undef)).bind fun t79_158 =>
        (M.lift (padd 5 t2_1)).bind fun t80_159 =>
        (load1 t80_159).bind fun t81_160 =>
        (callV (cfg G) call 79 [t81_160]).bind fun t82_161 =>
        (sliceV 1 2 [(V.str ⟨#[]⟩)] [(0, (V.str ⟨#[101, 118, 101, 110, 116, 115]⟩)), (1, t82_161)]).bind fun t83_162 =>
        (callV (cfg G) call 78 [t83_162]).bind fun t84_163 =>
        (sliceV 1 1 [(V.str ⟨#[]⟩)] [(0, t84_163)]).bind fun t85_164 =>
        (appV 1 16 t79_158 t85_164).bind fun t86_165 =>
        (M.ret t86_165).bind fun t5_166 =>
        ferry_text_partLines_j1 G call t2_1 t4_2 t5_166)
         (ferry_text_partLines_j1 G call t2_1 t4_2 (r0_121.2.getD 0 V.undef)))
        else M.fail)
      | .ret =>
        M.ret (Ex.ret, [t4_2])
      else M.fail)
    | .ret =>
      M.ret (Ex.ret, [t4_2])
    else M.fail)
  | .ret =>
    M.ret (Ex.ret, [t4_2]))

theorem ferry_text_partLines_eq (G : Nat → Option (List V)) (n : Nat) (x0 : V) (x1 : V) : sem (cfg G) (n + 1) 80 [x0, x1] = outV (ferry_text_partLines G (sem (cfg G) n) x0 x1) :=
  (fnV_atM (C := cfg G) (n := n) (f := 80) (fn := Tryd.f80) (c := Tryd.f80.body.getD .skip) (by kernel_rfl) (by kernel_rfl) (by kernel_rfl) [x0, x1]).trans (by kernel_rfl)

noncomputable def ferry_text_goodPart_l1 (G : Nat → Option (List V)) (call : FuncId → List V → M V) (t16_10 : V) (t15_9 : V) (s0_12 : List V) : M R :=
  (M.lift (arithV .lss (s0_12.getD 1 V.undef) t16_10)).bind fun t18_13 =>
  (condV t18_13
   ((M.lift (idxV 2 t15_9 (s0_12.getD 1 V.undef))).bind fun t19_14 =>
  (loadN 2 t19_14).bind fun t20_15 =>
  (newV (.agg [(V.int .i64 0), (V.str ⟨#[]⟩)])).bind fun t6_16 =>
  (storeN 2 t6_16 t20_15).bind fun _ =>
  (M.lift (padd 0 t6_16)).bind fun t21_17 =>
  (load1 t21_17).bind fun t22_18 =>
  (M.lift (arithV .lss t22_18 (V.int .i64 0))).bind fun t23_19 =>
  (M.ret t23_19).bind fun t24_20 =>
  (guardV t24_20 false (M.lift (padd 0 t6_16))).bind fun t25_21 =>
  (guardV t24_20 false (load1 t25_21)).bind fun t26_22 =>
  (guardV t24_20 false (M.lift (arithV .gtr t26_22 (V.int .i64 7)))).bind fun t27_23 =>
  (M.lift (pickV t24_20 (V.bool true) t27_23)).bind fun t28_24 =>
  (condV t28_24
   ((M.ret (V.bool false)).bind fun t4_25 =>
  M.ret (Ex.ret, [t4_25, (s0_12.getD 1 V.undef)]))
   ((M.lift (arithV .add (s0_12.getD 1 V.undef) (V.int .i64 1))).bind fun t29_26 =>
  (M.ret t29_26).bind fun t17_27 =>
  M.ret (Ex.normal, [(s0_12.getD 0 V.undef), t17_27]))))
   (M.ret ((Ex.exit 0), [(s0_12.getD 0 V.undef), (s0_12.getD 1 V.undef)])))

noncomputable def ferry_text_goodPart_l2 (G : Nat → Option (List V)) (call : FuncId → List V → M V) (t32_32 : V) (t31_31 : V) (s0_34 : List V) : M R :=
  (M.lift (arithV .lss (s0_34.getD 1 V.undef) t32_32)).bind fun t34_35 =>
  (condV t34_35
   ((M.lift (idxV 4 t31_31 (s0_34.getD 1 V.undef))).bind fun t35_36 =>
  (loadN 4 t35_36).bind fun t36_37 =>
  (newV (.agg [(V.int .i64 0), (V.int .i64 0), (V.int .i64 0), (V.int .i64 0)])).bind fun t8_38 =>
  (storeN 4 t8_38 t36_37).bind fun _ =>
  (M.lift (padd 0 t8_38)).bind fun t37_39 =>
  (load1 t37_39).bind fun t38_40 =>
  (M.lift ((eqV (.sc .int) true t38_40 (V.int .i64 1)).bind fun b => some (.bool b))).bind fun t39_41 =>
  (M.ret t39_41).bind fun t40_42 =>
  (guardV t40_42 false (M.lift (padd 0 t8_38))).bind fun t41_43 =>
  (guardV t40_42 false (load1 t41_43)).bind fun t42_44 =>
  (guardV t40_42 false (M.lift ((eqV (.sc .int) true t42_44 (V.int .i64 2)).bind fun b => some (.bool b)))).bind fun t43_45 =>
  (M.lift (pickV t40_42 (V.bool true) t43_45)).bind fun t44_46 =>
  (M.ret t44_46).bind fun t9_47 =>
  (M.lift (padd 0 t8_38)).bind fun t45_48 =>
  (load1 t45_48).bind fun t46_49 =>
  (M.lift (arithV .lss t46_49 (V.int .i64 1))).bind fun t47_50 =>
  (M.ret t47_50).bind fun t48_51 =>
  (guardV t48_51 false (M.lift (padd 0 t8_38))).bind fun t49_52 =>
  (guardV t48_51 false (load1 t49_52)).bind fun t50_53 =>
  (guardV t48_51 false (M.lift (arithV .gtr t50_53 (V.int .i64 4)))).bind fun t51_54 =>
  (M.lift (pickV t48_51 (V.bool true) t51_54)).bind fun t52_55 =>
  (M.ret t52_55).bind fun t53_56 =>
  (guardV t53_56 false (M.ret t9_47)).bind fun t54_57 =>
  (guardV t53_56 false (M.ret t54_57)).bind fun t55_58 =>
  (guardV t55_58 true (M.lift (padd 2 t8_38))).bind fun t56_59 =>
  (guardV t55_58 true (load1 t56_59)).bind fun t57_60 =>
  (guardV t55_58 true (M.lift ((eqV (.sc .int) true t57_60 (V.int .i64 1)).bind fun b => some (.bool !b)))).bind fun t58_61 =>
  (guardV t53_56 false (M.lift (pickV t55_58 t58_61 (V.bool false)))).bind fun t59_62 =>
  (M.lift (pickV t53_56 (V.bool true) t59_62)).bind fun t60_63 =>
  (M.ret t60_63).bind fun t61_64 =>
  (guardV t61_64 false (M.lift (padd 0 t8_38))).bind fun t62_65 =>
  (guardV t61_64 false (load1 t62_65)).bind fun t63_66 =>
  (guardV t61_64 false (M.lift ((eqV (.sc .int) true t63_66 (V.int .i64 1)).bind fun b => some (.bool !b)))).bind fun t64_67 =>
  (guardV t61_64 false (M.ret t64_67)).bind fun t65_68 =>
  (guardV t65_68 true (M.lift (padd 3 t8_38))).bind fun t66_69 =>
  (guardV t65_68 true (load1 t66_69)).bind fun t67_70 =>
  (guardV t65_68 true (M.lift ((eqV (.sc .int) true t67_70 (V.int .i64 0)).bind fun b => some (.bool !b)))).bind fun t68_71 =>
  (guardV t61_64 false (M.lift (pickV t65_68 t68_71 (V.bool false)))).bind fun t69_72 =>
  (M.lift (pickV t61_64 (V.bool true) t69_72)).bind fun t70_73 =>
  (condV t70_73
   ((M.ret (V.bool false)).bind fun t4_74 =>
  M.ret (Ex.ret, [t4_74, (s0_34.getD 1 V.undef)]))
   ((M.lift (arithV .add (s0_34.getD 1 V.undef) (V.int .i64 1))).bind fun t71_75 =>
  (M.ret t71_75).bind fun t33_76 =>
  M.ret (Ex.normal, [(s0_34.getD 0 V.undef), t33_76]))))
   (M.ret ((Ex.exit 2), [(s0_34.getD 0 V.undef), (s0_34.getD 1 V.undef)])))

noncomputable def ferry_text_goodPart (G : Nat → Option (List V)) (call : FuncId → List V → M V) (x0 : V) (x1 : V) : M R :=
  (newV x0).bind fun t2_1 =>
  (M.ret (V.bool false)).bind fun t4_2 =>
  (M.lift (padd 0 t2_1)).bind fun t10_3 =>
  (load1 t10_3).bind fun t11_4 =>
  (M.ret x1).bind fun t12_5 =>
  (M.lift ((eqV (.sc .int) false t11_4 t12_5).bind fun b => some (.bool !b))).bind fun t13_6 =>
  (condV t13_6
   ((M.ret (V.bool false)).bind fun t4_7 =>
  M.ret (Ex.ret, [t4_7]))
   ((M.lift (padd 2 t2_1)).bind fun t14_8 =>
  (load1 t14_8).bind fun t15_9 =>
  (M.lift (lenV t15_9)).bind fun t16_10 =>
  (M.ret (V.int .i64 0)).bind fun t17_11 =>
  (loopV (ferry_text_goodPart_l1 G call t16_10 t15_9) [t4_2, t17_11]).bind fun r0_28 => match r0_28.1 with
  | .normal => M.fail
  | .exit k0_29 =>
    (if k0_29 = 0 then
    (M.lift (padd 4 t2_1)).bind fun t30_30 =>
    (load1 t30_30).bind fun t31_31 =>
    (M.lift (lenV t31_31)).bind fun t32_32 =>
    (M.ret (V.int .i64 0)).bind fun t33_33 =>
    (loopV (ferry_text_goodPart_l2 G call t32_32 t31_31) [(r0_28.2.getD 0 V.undef), t33_33]).bind fun r0_77 => match r0_77.1 with
    | .normal => M.fail
    | .exit k0_78 =>
      (if k0_78 = 2 then
      (M.ret (V.bool true)).bind fun t4_79 =>
      M.ret (Ex.ret, [t4_79])
      else M.fail)
    | .ret =>
      M.ret (Ex.ret, [(r0_77.2.getD 0 V.undef)])
    else M.fail)
  | .ret =>
    M.ret (Ex.ret, [(r0_28.2.getD 0 V.undef)])))

theorem ferry_text_goodPart_eq (G : Nat → Option (List V)) (n : Nat) (x0 : V) (x1 : V) : sem (cfg G) (n + 1) 133 [x0, x1] = outV (ferry_text_goodPart G (sem (cfg G) n) x0 x1) :=
  (fnV_at (C := cfg G) (n := n) (f := 133) (fn := Tryd.f133) (c := Tryd.f133.body.getD .skip) (by kernel_rfl) (by kernel_rfl) (by kernel_rfl) [x0, x1]).trans (by kernel_rfl)

noncomputable def ferry_wire_Hex_l1 (G : Nat → Option (List V)) (call : FuncId → List V → M V) (t11_8 : V) (t10_7 : V) (s0_10 : List V) : M R :=
  (M.lift (arithV .lss (s0_10.getD 1 V.undef) t11_8)).bind fun t13_11 =>
  (condV t13_11
   ((M.lift (idxV 1 t10_7 (s0_10.getD 1 V.undef))).bind fun t14_12 =>
  (load1 t14_12).bind fun t15_13 =>
  (M.ret t15_13).bind fun t5_14 =>
  (getN.bind fun n_15 =>
  (M.ret (s0_10.getD 0 V.undef)).bind fun y0_16 =>
  getN.bind fun n_17 =>
  (M.ret t5_14).bind fun y1_18 =>
  getN.bind fun n_19 =>
  (M.lift (arithV .shr y1_18 (V.int .u64 4))).bind fun y2_20 =>
  getN.bind fun n_21 =>
  (M.lift (indexS (V.str ⟨#[48, 49, 50, 51, 52, 53, 54, 55, 56, 57, 97, 98, 99, 100, 101, 102]⟩) y2_20)).bind fun y3_22 =>
  getN.bind fun n_23 =>
  (M.ret t5_14).bind fun y4_24 =>
  getN.bind fun n_25 =>
  (M.lift (arithV .and y4_24 (V.int .u8 15))).bind fun y5_26 =>
  getN.bind fun n_27 =>
  (M.lift (indexS (V.str ⟨#[48, 49, 50, 51, 52, 53, 54, 55, 56, 57, 97, 98, 99, 100, 101, 102]⟩) y5_26)).bind fun y6_28 =>
  getN.bind fun n_29 =>
  (sliceV 1 2 [(V.int .u8 0)] [(0, y3_22), (1, y6_28)]).bind fun y7_30 =>
  getN.bind fun n_31 =>
  (trun (visB n_15 [(n_29, n_31, true), (n_27, n_29, true), (n_25, n_27, true), (n_23, n_25, true), (n_21, n_23, true), (n_19, n_21, true), (n_17, n_19, true), (n_15, n_17, true)]) (appV 1 1 y0_16 y7_30)).bind fun y8_32 =>
  (M.ret y8_32).bind fun y9_33 =>
  (M.lift (arithV .add (s0_10.getD 1 V.undef) (V.int .i64 1))).bind fun t25_34 =>
  (M.ret t25_34).bind fun t12_35 =>
  M.ret (Ex.normal, [y9_33, t12_35])))
   (M.ret ((Ex.exit 0), [(s0_10.getD 0 V.undef), (s0_10.getD 1 V.undef)])))

noncomputable def ferry_wire_Hex (G : Nat → Option (List V)) (call : FuncId → List V → M V) (x0 : V) : M R :=
  (M.ret (V.str ⟨#[]⟩)).bind fun t2_1 =>
  (M.ret x0).bind fun t6_2 =>
  (M.lift (lenV t6_2)).bind fun t7_3 =>
  (M.lift (arithV .mul (V.int .i64 2) t7_3)).bind fun t8_4 =>
  (makeV 1 1 [(V.int .u8 0)] (V.int .i64 0) t8_4).bind fun t9_5 =>
  (M.ret t9_5).bind fun t3_6 =>
  (M.ret x0).bind fun t10_7 =>
  (M.lift (lenV t10_7)).bind fun t11_8 =>
  (M.ret (V.int .i64 0)).bind fun t12_9 =>
  (loopV (ferry_wire_Hex_l1 G call t11_8 t10_7) [t3_6, t12_9]).bind fun r0_36 => match r0_36.1 with
  | .normal => M.fail
  | .exit k0_37 =>
    (if k0_37 = 0 then
    (M.ret (r0_36.2.getD 0 V.undef)).bind fun t26_38 =>
    (readBytes t26_38).bind fun t27_39 =>
    (M.ret t27_39).bind fun t2_40 =>
    M.ret (Ex.ret, [t2_40])
    else M.fail)
  | .ret =>
    M.ret (Ex.ret, [t2_1])

theorem ferry_wire_Hex_eq (G : Nat → Option (List V)) (n : Nat) (x0 : V) : sem (cfg G) (n + 1) 136 [x0] = outV (ferry_wire_Hex G (sem (cfg G) n) x0) :=
  (fnV_at (C := cfg G) (n := n) (f := 136) (fn := Tryd.f136) (c := Tryd.f136.body.getD .skip) (by kernel_rfl) (by kernel_rfl) (by kernel_rfl) [x0]).trans (by kernel_rfl)

end Go.Fv.Tr

/-
  The Go functions slices.Clone[bool,bool], slices.Clone[ferry/api.Page,ferry/api.Page], slices.Clone[string,string], slices.Clone[ferry/api.Port,ferry/api.Port], ferry/ready.Of, ferry/ready.Into, ferry/ferryref09.Of, ferry/ferrylaw09.ReadyStates as plain terms. By an AI agent; no person has read it.
-/
import Derived.Test.YtjjiphigolegbaaDoorFvCf
import Derived.Test.YtjjiphigolegbaaDoorFvW4
set_option linter.unusedVariables false
set_option linter.unusedSimpArgs false
set_option linter.unusedSectionVars false
/-! The Go functions slices.Clone[bool,bool], slices.Clone[ferry/api.Page,ferry/api.Page], slices.Clone[string,string], slices.Clone[ferry/api.Port,ferry/api.Port], ferry/ready.Of, ferry/ready.Into, ferry/ferryref09.Of, ferry/ferrylaw09.ReadyStates as plain terms. -/
namespace Go.Fv.Tr
open Go Go.Fv Go.Proofs
set_option linter.unusedVariables false
set_option maxRecDepth 20000

noncomputable def slices_Clone_bool_bool (G : Nat → Option (List V)) (call : FuncId → List V → M V) (x0 : V) : M R :=
  (M.ret V.nils).bind fun t2_1 =>
  (M.ret x0).bind fun t3_2 =>
  (M.lift ((eqV .slice true t3_2 V.nils).bind fun b => some (.bool b))).bind fun t4_3 =>
  (condV t4_3
   ((M.ret V.nils).bind fun t2_4 =>
  M.ret (Ex.ret, [t2_4]))
   ((sliceV 1 0 [(V.bool false)] []).bind fun t5_5 =>
  (M.ret x0).bind fun t6_6 =>
  (appV 1 1 t5_5 t6_6).bind fun t7_7 =>
  (M.ret t7_7).bind fun t2_8 =>
  M.ret (Ex.ret, [t2_8])))

theorem slices_Clone_bool_bool_eq (G : Nat → Option (List V)) (n : Nat) (x0 : V) : sem (cfg G) (n + 1) 76 [x0] = outV (slices_Clone_bool_bool G (sem (cfg G) n) x0) :=
  (fnV_at (C := cfg G) (n := n) (f := 76) (fn := Tryd.f76) (c := Tryd.f76.body.getD .skip) (by kernel_rfl) (by kernel_rfl) (by kernel_rfl) [x0]).trans (by kernel_rfl)

noncomputable def slices_Clone_ferry_api_Page_ferry_api_Page (G : Nat → Option (List V)) (call : FuncId → List V → M V) (x0 : V) : M R :=
  (M.ret V.nils).bind fun t2_1 =>
  (M.ret x0).bind fun t3_2 =>
  (M.lift ((eqV .slice true t3_2 V.nils).bind fun b => some (.bool b))).bind fun t4_3 =>
  (condV t4_3
   ((M.ret V.nils).bind fun t2_4 =>
  M.ret (Ex.ret, [t2_4]))
   ((sliceV 66 0 [] []).bind fun t5_5 =>
  (M.ret x0).bind fun t6_6 =>
  (appV 66 80 t5_5 t6_6).bind fun t7_7 =>
  (M.ret t7_7).bind fun t2_8 =>
  M.ret (Ex.ret, [t2_8])))

theorem slices_Clone_ferry_api_Page_ferry_api_Page_eq (G : Nat → Option (List V)) (n : Nat) (x0 : V) : sem (cfg G) (n + 1) 77 [x0] = outV (slices_Clone_ferry_api_Page_ferry_api_Page G (sem (cfg G) n) x0) :=
  (fnV_at (C := cfg G) (n := n) (f := 77) (fn := Tryd.f77) (c := Tryd.f77.body.getD .skip) (by kernel_rfl) (by kernel_rfl) (by kernel_rfl) [x0]).trans (by kernel_rfl)

noncomputable def slices_Clone_string_string (G : Nat → Option (List V)) (call : FuncId → List V → M V) (x0 : V) : M R :=
  (M.ret V.nils).bind fun t2_1 =>
  (M.ret x0).bind fun t3_2 =>
  (M.lift ((eqV .slice true t3_2 V.nils).bind fun b => some (.bool b))).bind fun t4_3 =>
  (condV t4_3
   ((M.ret V.nils).bind fun t2_4 =>
  M.ret (Ex.ret, [t2_4]))
   ((sliceV 1 0 [(V.str ⟨#[]⟩)] []).bind fun t5_5 =>
  (M.ret x0).bind fun t6_6 =>
  (appV 1 16 t5_5 t6_6).bind fun t7_7 =>
  (M.ret t7_7).bind fun t2_8 =>
  M.ret (Ex.ret, [t2_8])))

theorem slices_Clone_string_string_eq (G : Nat → Option (List V)) (n : Nat) (x0 : V) : sem (cfg G) (n + 1) 79 [x0] = outV (slices_Clone_string_string G (sem (cfg G) n) x0) :=
  (fnV_at (C := cfg G) (n := n) (f := 79) (fn := Tryd.f79) (c := Tryd.f79.body.getD .skip) (by kernel_rfl) (by kernel_rfl) (by kernel_rfl) [x0]).trans (by kernel_rfl)

noncomputable def slices_Clone_ferry_api_Port_ferry_api_Port (G : Nat → Option (List V)) (call : FuncId → List V → M V) (x0 : V) : M R :=
  (M.ret V.nils).bind fun t2_1 =>
  (M.ret x0).bind fun t3_2 =>
  (M.lift ((eqV .slice true t3_2 V.nils).bind fun b => some (.bool b))).bind fun t4_3 =>
  (condV t4_3
   ((M.ret V.nils).bind fun t2_4 =>
  M.ret (Ex.ret, [t2_4]))
   ((sliceV 2 0 [V.nils, (V.int .i64 0)] []).bind fun t5_5 =>
  (M.ret x0).bind fun t6_6 =>
  (appV 2 32 t5_5 t6_6).bind fun t7_7 =>
  (M.ret t7_7).bind fun t2_8 =>
  M.ret (Ex.ret, [t2_8])))

theorem slices_Clone_ferry_api_Port_ferry_api_Port_eq (G : Nat → Option (List V)) (n : Nat) (x0 : V) : sem (cfg G) (n + 1) 78 [x0] = outV (slices_Clone_ferry_api_Port_ferry_api_Port G (sem (cfg G) n) x0) :=
  (fnV_at (C := cfg G) (n := n) (f := 78) (fn := Tryd.f78) (c := Tryd.f78.body.getD .skip) (by kernel_rfl) (by kernel_rfl) (by kernel_rfl) [x0]).trans (by kernel_rfl)

noncomputable def ferry_ready_Of (G : Nat → Option (List V)) (call : FuncId → List V → M V) (x0 : V) : M R :=
  (newV x0).bind fun t1_1 =>
  (newV (.agg [V.nils, V.nils, V.nils])).bind fun t2_2 =>
  (getN.bind fun n_3 =>
  (M.lift (padd 3 t1_1)).bind fun y0_4 =>
  getN.bind fun n_5 =>
  (load1 y0_4).bind fun y1_6 =>
  getN.bind fun n_7 =>
  (qrun (visB n_3 [(n_5, n_7, true), (n_3, n_5, true)]) (callV (cfg G) call 72 [y1_6])).bind fun y2_8 =>
  getN.bind fun n_9 =>
  (M.lift (padd 4 t1_1)).bind fun y3_10 =>
  getN.bind fun n_11 =>
  (load1 y3_10).bind fun y4_12 =>
  getN.bind fun n_13 =>
  (qrun (visB n_3 [(n_11, n_13, true), (n_9, n_11, true), (n_7, n_9, true), (n_5, n_7, true), (n_3, n_5, true)]) (callV (cfg G) call 73 [y4_12])).bind fun y5_14 =>
  getN.bind fun n_15 =>
  (M.lift (padd 5 t1_1)).bind fun y6_16 =>
  getN.bind fun n_17 =>
  (load1 y6_16).bind fun y7_18 =>
  getN.bind fun n_19 =>
  (qrun (visB n_3 [(n_17, n_19, true), (n_15, n_17, true), (n_13, n_15, true), (n_11, n_13, true), (n_9, n_11, true), (n_7, n_9, true), (n_5, n_7, true), (n_3, n_5, true)]) (callV (cfg G) call 74 [y7_18])).bind fun y8_20 =>
  (M.lift (buildV [V.nils, V.nils, V.nils] [(0, 1, y2_8), (1, 1, y5_14), (2, 1, y8_20)])).bind fun y9_21 =>
  (storeN 3 t2_2 y9_21).bind fun _ =>
  (((loadN 3 t2_2)).bind fun v => (M.ret []).bind fun l => M.ret (v :: l)).bind fun l => M.ret (Ex.ret, tupV l))

theorem ferry_ready_Of_eq (G : Nat → Option (List V)) (n : Nat) (x0 : V) : sem (cfg G) (n + 1) 23 [x0] = outV (ferry_ready_Of G (sem (cfg G) n) x0) :=
  (fnV_at (C := cfg G) (n := n) (f := 23) (fn := Tryd.f23) (c := Tryd.f23.body.getD .skip) (by kernel_rfl) (by kernel_rfl) (by kernel_rfl) [x0]).trans (by kernel_rfl)

noncomputable def ferry_ready_Into_l1 (G : Nat → Option (List V)) (call : FuncId → List V → M V) (t36_34 : V) (t2_1 : V) (s0_36 : List V) : M R :=
  (M.lift (arithV .lss (s0_36.getD 0 V.undef) t36_34)).bind fun t38_37 =>
  (condV t38_37
   ((M.ret (s0_36.getD 0 V.undef)).bind fun t39_38 =>
  (M.ret t39_38).bind fun t6_39 =>
  (getN.bind fun n_40 =>
  (M.lift (padd 8 t2_1)).bind fun y0_41 =>
  getN.bind fun n_42 =>
  (load1 y0_41).bind fun y1_43 =>
  getN.bind fun n_44 =>
  (M.ret t6_39).bind fun y2_45 =>
  getN.bind fun n_46 =>
  (M.lift (padd 8 t2_1)).bind fun y3_47 =>
  getN.bind fun n_48 =>
  (load1 y3_47).bind fun y4_49 =>
  getN.bind fun n_50 =>
  (M.ret t6_39).bind fun y5_51 =>
  getN.bind fun n_52 =>
  (M.lift (idxV 2 y4_49 y5_51)).bind fun y6_53 =>
  getN.bind fun n_54 =>
  (M.lift (padd 0 y6_53)).bind fun y7_55 =>
  getN.bind fun n_56 =>
  (load1 y7_55).bind fun y8_57 =>
  getN.bind fun n_58 =>
  (qrun (visB n_40 [(n_56, n_58, true), (n_54, n_56, true), (n_52, n_54, true), (n_50, n_52, true), (n_48, n_50, true), (n_46, n_48, true), (n_44, n_46, false), (n_42, n_44, false), (n_40, n_42, false)]) (callV (cfg G) call 79 [y8_57])).bind fun y9_59 =>
  (M.lift (idxV 2 y1_43 y2_45)).bind fun y10_60 =>
  (M.lift (padd 0 y10_60)).bind fun y11_61 =>
  (storeN 1 y11_61 y9_59).bind fun _ =>
  (M.lift (arithV .add (s0_36.getD 0 V.undef) (V.int .i64 1))).bind fun t52_62 =>
  (M.ret t52_62).bind fun t37_63 =>
  M.ret (Ex.normal, [t37_63])))
   (M.ret ((Ex.exit 0), [(s0_36.getD 0 V.undef)])))

noncomputable def ferry_ready_Into (G : Nat → Option (List V)) (call : FuncId → List V → M V) (x0 : V) (x1 : V) : M R :=
  (newV x0).bind fun t2_1 =>
  (newV x1).bind fun t3_2 =>
  (newV (.agg [(V.int .i64 0), (V.int .i64 0), (V.int .i64 0), V.nils, V.nils, V.nils, V.nils, V.nils, V.nils, V.nils])).bind fun t4_3 =>
  (loadN 3 t3_2).bind fun t7_4 =>
  (callV (cfg G) call 75 [t7_4]).bind fun t8_5 =>
  (newV (.agg [V.nils, V.nils, V.nils])).bind fun t5_6 =>
  (storeN 3 t5_6 t8_5).bind fun _ =>
  ((M.lift (padd 0 t5_6)).bind fun y0_7 =>
  (load1 y0_7).bind fun y1_8 =>
  (M.lift (padd 1 t5_6)).bind fun y2_9 =>
  (load1 y2_9).bind fun y3_10 =>
  (M.lift (padd 2 t5_6)).bind fun y4_11 =>
  (load1 y4_11).bind fun y5_12 =>
  (M.lift (padd 3 t2_1)).bind fun y6_13 =>
  guardM (apartV y2_9 y6_13 && (apartV y4_11 y6_13 && true)) (
  (storeN 1 y6_13 y1_8).bind fun _ =>
  (M.lift (padd 4 t2_1)).bind fun y8_14 =>
  guardM (apartV y4_11 y8_14 && true) (
  (storeN 1 y8_14 y3_10).bind fun _ =>
  (M.lift (padd 5 t2_1)).bind fun y10_15 =>
  (storeN 1 y10_15 y5_12).bind fun _ =>
  (M.lift (padd 6 t2_1)).bind fun t18_16 =>
  (load1 t18_16).bind fun t19_17 =>
  (callV (cfg G) call 76 [t19_17]).bind fun t20_18 =>
  (M.lift (padd 6 t2_1)).bind fun t21_19 =>
  (storeN 1 t21_19 t20_18).bind fun _ =>
  (M.lift (padd 7 t2_1)).bind fun t22_20 =>
  (load1 t22_20).bind fun t23_21 =>
  (callV (cfg G) call 73 [t23_21]).bind fun t24_22 =>
  (M.lift (padd 7 t2_1)).bind fun t25_23 =>
  (storeN 1 t25_23 t24_22).bind fun _ =>
  (M.lift (padd 9 t2_1)).bind fun t26_24 =>
  (load1 t26_24).bind fun t27_25 =>
  (callV (cfg G) call 77 [t27_25]).bind fun t28_26 =>
  (M.lift (padd 9 t2_1)).bind fun t29_27 =>
  (storeN 1 t29_27 t28_26).bind fun _ =>
  (M.lift (padd 8 t2_1)).bind fun t30_28 =>
  (load1 t30_28).bind fun t31_29 =>
  (callV (cfg G) call 78 [t31_29]).bind fun t32_30 =>
  (M.lift (padd 8 t2_1)).bind fun t33_31 =>
  (storeN 1 t33_31 t32_30).bind fun _ =>
  (M.lift (padd 8 t2_1)).bind fun t34_32 =>
  (load1 t34_32).bind fun t35_33 =>
  (M.lift (lenV t35_33)).bind fun t36_34 =>
  (M.ret (V.int .i64 0)).bind fun t37_35 =>
  (loopV (ferry_ready_Into_l1 G call t36_34 t2_1) [t37_35]).bind fun r0_64 => match r0_64.1 with
  | .normal => M.fail
  | .exit k0_65 =>
    (if k0_65 = 0 then
    (loadN 10 t2_1).bind fun t53_66 =>
    (storeN 10 t4_3 t53_66).bind fun _ =>
    (((loadN 10 t4_3)).bind fun v => (M.ret []).bind fun l => M.ret (v :: l)).bind fun l => M.ret (Ex.ret, tupV l)
    else M.fail)
  | .ret =>
    (((loadN 10 t4_3)).bind fun v => (M.ret []).bind fun l => M.ret (v :: l)).bind fun l => M.ret (Ex.ret, tupV l))))

theorem ferry_ready_Into_eq (G : Nat → Option (List V)) (n : Nat) (x0 : V) (x1 : V) : sem (cfg G) (n + 1) 24 [x0, x1] = outV (ferry_ready_Into G (sem (cfg G) n) x0 x1) :=
  (fnV_at (C := cfg G) (n := n) (f := 24) (fn := Tryd.f24) (c := Tryd.f24.body.getD .skip) (by kernel_rfl) (by kernel_rfl) (by kernel_rfl) [x0, x1]).trans (by kernel_rfl)

noncomputable def ferry_ferryref09_Of (G : Nat → Option (List V)) (call : FuncId → List V → M V) (x0 : V) : M R :=
  (newV x0).bind fun t1_1 =>
  (newV (.agg [V.nils, V.nils, V.nils])).bind fun t2_2 =>
  (M.lift (padd 3 t1_1)).bind fun t3_3 =>
  (load1 t3_3).bind fun t4_4 =>
  (M.lift (padd 4 t1_1)).bind fun t5_5 =>
  (load1 t5_5).bind fun t6_6 =>
  (M.lift (padd 5 t1_1)).bind fun t7_7 =>
  (load1 t7_7).bind fun t8_8 =>
  (M.lift (buildV [V.nils, V.nils, V.nils] [(0, 1, t4_4), (1, 1, t6_6), (2, 1, t8_8)])).bind fun t9_9 =>
  (storeN 3 t2_2 t9_9).bind fun _ =>
  (((loadN 3 t2_2)).bind fun v => (M.ret []).bind fun l => M.ret (v :: l)).bind fun l => M.ret (Ex.ret, tupV l)

theorem ferry_ferryref09_Of_eq (G : Nat → Option (List V)) (n : Nat) (x0 : V) : sem (cfg G) (n + 1) 22 [x0] = outV (ferry_ferryref09_Of G (sem (cfg G) n) x0) :=
  (fnV_at (C := cfg G) (n := n) (f := 22) (fn := Tryd.f22) (c := Tryd.f22.body.getD .skip) (by kernel_rfl) (by kernel_rfl) (by kernel_rfl) [x0]).trans (by kernel_rfl)

noncomputable def ferry_ferrylaw09_ReadyStates_l1 (G : Nat → Option (List V)) (call : FuncId → List V → M V) (t2_1 : V) (y4_22 : V) (s0_160 : List V) : M R :=
  (M.ret (s0_160.getD 1 V.undef)).bind fun t107_161 =>
  (M.lift (padd 6 t2_1)).bind fun t108_162 =>
  (load1 t108_162).bind fun t109_163 =>
  (M.lift (lenV t109_163)).bind fun t110_164 =>
  (M.lift (arithV .lss t107_161 t110_164)).bind fun t111_165 =>
  (condV t111_165
   (((M.lift (padd 6 y4_22)).bind fun y0_166 =>
  (load1 y0_166).bind fun y1_167 =>
  (M.ret (s0_160.getD 1 V.undef)).bind fun y2_168 =>
  (M.lift (idxV 1 y1_167 y2_168)).bind fun y3_169 =>
  (load1 y3_169).bind fun y4_170 =>
  (M.lift (padd 6 t2_1)).bind fun y5_171 =>
  (load1 y5_171).bind fun y6_172 =>
  (M.ret (s0_160.getD 1 V.undef)).bind fun y7_173 =>
  (M.lift (idxV 1 y6_172 y7_173)).bind fun y8_174 =>
  (load1 y8_174).bind fun y9_175 =>
  (M.lift ((eqV (.sc .bool) false y4_170 y9_175).bind fun b => some (.bool !b))).bind fun y10_176 =>
  (condV y10_176
   ((M.ret (V.bool false)).bind fun t4_177 =>
  M.ret (Ex.ret, [t4_177, (s0_160.getD 1 V.undef)]))
   ((M.ret (s0_160.getD 1 V.undef)).bind fun t112_178 =>
  (M.lift (arithV .add t112_178 (V.int .i64 1))).bind fun t113_179 =>
  (M.ret t113_179).bind fun t10_180 =>
  M.ret (Ex.normal, [(s0_160.getD 0 V.undef), t10_180])))))
   (M.ret ((Ex.exit 0), [(s0_160.getD 0 V.undef), (s0_160.getD 1 V.undef)])))

noncomputable def ferry_ferrylaw09_ReadyStates_l2 (G : Nat → Option (List V)) (call : FuncId → List V → M V) (t2_1 : V) (y4_22 : V) (s0_184 : List V) : M R :=
  (M.ret (s0_184.getD 1 V.undef)).bind fun t125_185 =>
  (M.lift (padd 9 t2_1)).bind fun t126_186 =>
  (load1 t126_186).bind fun t127_187 =>
  (M.lift (lenV t127_187)).bind fun t128_188 =>
  (M.lift (arithV .lss t125_185 t128_188)).bind fun t129_189 =>
  (condV t129_189
   (((M.lift (padd 9 y4_22)).bind fun y0_190 =>
  (load1 y0_190).bind fun y1_191 =>
  (M.ret (s0_184.getD 1 V.undef)).bind fun y2_192 =>
  (M.lift (idxV 66 y1_191 y2_192)).bind fun y3_193 =>
  (loadN 66 y3_193).bind fun y4_194 =>
  (M.lift (padd 9 t2_1)).bind fun y5_195 =>
  (load1 y5_195).bind fun y6_196 =>
  (M.ret (s0_184.getD 1 V.undef)).bind fun y7_197 =>
  (M.lift (idxV 66 y6_196 y7_197)).bind fun y8_198 =>
  (loadN 66 y8_198).bind fun y9_199 =>
  (M.lift ((eqV (.agg [.int, .bool, .int, .int, .int, .int, .int, .int, .int, .int, .int, .int, .int, .int, .int, .int, .int, .int, .int, .int, .int, .int, .int, .int, .int, .int, .int, .int, .int, .int, .int, .int, .int, .int, .int, .int, .int, .int, .int, .int, .int, .int, .int, .int, .int, .int, .int, .int, .int, .int, .int, .int, .int, .int, .int, .int, .int, .int, .int, .int, .int, .int, .int, .int, .int, .int]) false y4_194 y9_199).bind fun b => some (.bool !b))).bind fun y10_200 =>
  (condV y10_200
   ((M.ret (V.bool false)).bind fun t4_201 =>
  M.ret (Ex.ret, [t4_201, (s0_184.getD 1 V.undef)]))
   ((M.ret (s0_184.getD 1 V.undef)).bind fun t130_202 =>
  (M.lift (arithV .add t130_202 (V.int .i64 1))).bind fun t131_203 =>
  (M.ret t131_203).bind fun t11_204 =>
  M.ret (Ex.normal, [(s0_184.getD 0 V.undef), t11_204])))))
   (M.ret ((Ex.exit 2), [(s0_184.getD 0 V.undef), (s0_184.getD 1 V.undef)])))

noncomputable def ferry_ferrylaw09_ReadyStates_l4 (G : Nat → Option (List V)) (call : FuncId → List V → M V) (t2_1 : V) (s0_208 : List V) (y4_22 : V) (s0_246 : List V) : M R :=
  (M.ret (s0_246.getD 1 V.undef)).bind fun t180_247 =>
  (M.lift (padd 8 t2_1)).bind fun t181_248 =>
  (load1 t181_248).bind fun t182_249 =>
  (M.ret (s0_208.getD 1 V.undef)).bind fun t183_250 =>
  (M.lift (idxV 2 t182_249 t183_250)).bind fun t184_251 =>
  (M.lift (padd 0 t184_251)).bind fun t185_252 =>
  (load1 t185_252).bind fun t186_253 =>
  (M.lift (lenV t186_253)).bind fun t187_254 =>
  (M.lift (arithV .lss t180_247 t187_254)).bind fun t188_255 =>
  (condV t188_255
   (((M.lift (padd 8 y4_22)).bind fun y0_256 =>
  (load1 y0_256).bind fun y1_257 =>
  (M.ret (s0_208.getD 1 V.undef)).bind fun y2_258 =>
  (M.lift (idxV 2 y1_257 y2_258)).bind fun y3_259 =>
  (M.lift (padd 0 y3_259)).bind fun y4_260 =>
  (load1 y4_260).bind fun y5_261 =>
  (M.ret (s0_246.getD 1 V.undef)).bind fun y6_262 =>
  (M.lift (idxV 1 y5_261 y6_262)).bind fun y7_263 =>
  (load1 y7_263).bind fun y8_264 =>
  (M.lift (padd 8 t2_1)).bind fun y9_265 =>
  (load1 y9_265).bind fun y10_266 =>
  (M.ret (s0_208.getD 1 V.undef)).bind fun y11_267 =>
  (M.lift (idxV 2 y10_266 y11_267)).bind fun y12_268 =>
  (M.lift (padd 0 y12_268)).bind fun y13_269 =>
  (load1 y13_269).bind fun y14_270 =>
  (M.ret (s0_246.getD 1 V.undef)).bind fun y15_271 =>
  (M.lift (idxV 1 y14_270 y15_271)).bind fun y16_272 =>
  (load1 y16_272).bind fun y17_273 =>
  (M.lift ((eqV (.sc .str) false y8_264 y17_273).bind fun b => some (.bool !b))).bind fun y18_274 =>
  (condV y18_274
   ((M.ret (V.bool false)).bind fun t4_275 =>
  M.ret (Ex.ret, [t4_275, (s0_246.getD 1 V.undef)]))
   ((M.ret (s0_246.getD 1 V.undef)).bind fun t189_276 =>
  (M.lift (arithV .add t189_276 (V.int .i64 1))).bind fun t190_277 =>
  (M.ret t190_277).bind fun t13_278 =>
  M.ret (Ex.normal, [(s0_246.getD 0 V.undef), t13_278])))))
   (M.ret ((Ex.exit 6), [(s0_246.getD 0 V.undef), (s0_246.getD 1 V.undef)])))

noncomputable def ferry_ferrylaw09_ReadyStates_l3 (G : Nat → Option (List V)) (call : FuncId → List V → M V) (t2_1 : V) (y4_22 : V) (s0_208 : List V) : M R :=
  (M.ret (s0_208.getD 1 V.undef)).bind fun t143_209 =>
  (M.lift (padd 8 t2_1)).bind fun t144_210 =>
  (load1 t144_210).bind fun t145_211 =>
  (M.lift (lenV t145_211)).bind fun t146_212 =>
  (M.lift (arithV .lss t143_209 t146_212)).bind fun t147_213 =>
  (condV t147_213
   (((M.lift (padd 8 y4_22)).bind fun y0_214 =>
  (load1 y0_214).bind fun y1_215 =>
  (M.ret (s0_208.getD 1 V.undef)).bind fun y2_216 =>
  (M.lift (idxV 2 y1_215 y2_216)).bind fun y3_217 =>
  (M.lift (padd 1 y3_217)).bind fun y4_218 =>
  (load1 y4_218).bind fun y5_219 =>
  (M.lift (padd 8 t2_1)).bind fun y6_220 =>
  (load1 y6_220).bind fun y7_221 =>
  (M.ret (s0_208.getD 1 V.undef)).bind fun y8_222 =>
  (M.lift (idxV 2 y7_221 y8_222)).bind fun y9_223 =>
  (M.lift (padd 1 y9_223)).bind fun y10_224 =>
  (load1 y10_224).bind fun y11_225 =>
  (M.lift ((eqV (.sc .int) false y5_219 y11_225).bind fun b => some (.bool !b))).bind fun y12_226 =>
  (M.ret y12_226).bind fun y13_227 =>
  (guardV y13_227 false (M.lift (padd 8 y4_22))).bind fun y14_228 =>
  (guardV y13_227 false (load1 y14_228)).bind fun y15_229 =>
  (guardV y13_227 false (M.ret (s0_208.getD 1 V.undef))).bind fun y16_230 =>
  (guardV y13_227 false (M.lift (idxV 2 y15_229 y16_230))).bind fun y17_231 =>
  (guardV y13_227 false (M.lift (padd 0 y17_231))).bind fun y18_232 =>
  (guardV y13_227 false (load1 y18_232)).bind fun y19_233 =>
  (guardV y13_227 false (M.lift (lenV y19_233))).bind fun y20_234 =>
  (guardV y13_227 false (M.lift (padd 8 t2_1))).bind fun y21_235 =>
  (guardV y13_227 false (load1 y21_235)).bind fun y22_236 =>
  (guardV y13_227 false (M.ret (s0_208.getD 1 V.undef))).bind fun y23_237 =>
  (guardV y13_227 false (M.lift (idxV 2 y22_236 y23_237))).bind fun y24_238 =>
  (guardV y13_227 false (M.lift (padd 0 y24_238))).bind fun y25_239 =>
  (guardV y13_227 false (load1 y25_239)).bind fun y26_240 =>
  (guardV y13_227 false (M.lift (lenV y26_240))).bind fun y27_241 =>
  (guardV y13_227 false (M.lift ((eqV (.sc .int) false y20_234 y27_241).bind fun b => some (.bool !b)))).bind fun y28_242 =>
  (M.lift (pickV y13_227 (V.bool true) y28_242)).bind fun y29_243 =>
  (condV y29_243
   ((M.ret (V.bool false)).bind fun t4_244 =>
  M.ret (Ex.ret, [t4_244, (s0_208.getD 1 V.undef)]))
   ((M.ret (V.int .i64 0)).bind fun t13_245 =>
  (loopV (ferry_ferrylaw09_ReadyStates_l4 G call t2_1 s0_208 y4_22) [(s0_208.getD 0 V.undef), t13_245]).bind fun r0_279 => match r0_279.1 with
  | .normal => M.fail
  | .exit k0_280 =>
    (if k0_280 = 6 then
    (M.ret (s0_208.getD 1 V.undef)).bind fun t148_281 =>
    (M.lift (arithV .add t148_281 (V.int .i64 1))).bind fun t149_282 =>
    (M.ret t149_282).bind fun t12_283 =>
    M.ret (Ex.normal, [(r0_279.2.getD 0 V.undef), t12_283])
    else (if k0_280 = 5 then
    (M.ret (s0_208.getD 1 V.undef)).bind fun t148_284 =>
    (M.lift (arithV .add t148_284 (V.int .i64 1))).bind fun t149_285 =>
    (M.ret t149_285).bind fun t12_286 =>
    M.ret (Ex.normal, [(r0_279.2.getD 0 V.undef), t12_286])
    else M.ret ((Ex.exit k0_280), [(r0_279.2.getD 0 V.undef), (s0_208.getD 1 V.undef)])))
  | .ret =>
    M.ret (Ex.ret, [(r0_279.2.getD 0 V.undef), (s0_208.getD 1 V.undef)])))))
   (M.ret ((Ex.exit 4), [(s0_208.getD 0 V.undef), (s0_208.getD 1 V.undef)])))

noncomputable def ferry_ferrylaw09_ReadyStates (G : Nat → Option (List V)) (call : FuncId → List V → M V) (x0 : V) (x1 : V) : M R :=
  (newV x0).bind fun t2_1 =>
  (newV x1).bind fun t3_2 =>
  (M.ret (V.bool false)).bind fun t4_3 =>
  (callV (cfg G) call 15 []).bind fun t14_4 =>
  (M.lift (unV .not t14_4)).bind fun t15_5 =>
  (condV t15_5
   ((M.ret (V.bool false)).bind fun t4_6 =>
  M.ret (Ex.ret, [t4_6]))
   ((newV (.agg [V.nils, V.nils, V.nils])).bind fun t5_7 =>
  (newV (.agg [V.nils, V.nils, V.nils])).bind fun t6_8 =>
  (loadN 10 t2_1).bind fun t16_9 =>
  (callV (cfg G) call 22 [t16_9]).bind fun t17_10 =>
  (storeN 3 t5_7 t17_10).bind fun _ =>
  (loadN 10 t2_1).bind fun t18_11 =>
  (callV (cfg G) call 23 [t18_11]).bind fun t19_12 =>
  (newV (.agg [V.nils, V.nils, V.nils])).bind fun t7_13 =>
  (storeN 3 t7_13 t19_12).bind fun _ =>
  (getN.bind fun n_14 =>
  (loadN 10 t2_1).bind fun y0_15 =>
  getN.bind fun n_16 =>
  (loadN 3 t3_2).bind fun y1_17 =>
  getN.bind fun n_18 =>
  (qrun (visB n_14 [(n_16, n_18, true), (n_14, n_16, false)]) (callV (cfg G) call 17 [y1_17])).bind fun y2_19 =>
  getN.bind fun n_20 =>
  (trun (visB n_14 [(n_18, n_20, true), (n_16, n_18, true), (n_14, n_16, true)]) (callV (cfg G) call 24 [y0_15, y2_19])).bind fun y3_21 =>
  (newV (.agg [(V.int .i64 0), (V.int .i64 0), (V.int .i64 0), V.nils, V.nils, V.nils, V.nils, V.nils, V.nils, V.nils])).bind fun y4_22 =>
  (storeN 10 y4_22 y3_21).bind fun _ =>
  (getN.bind fun n_23 =>
  (loadN 3 t7_13).bind fun y0_24 =>
  getN.bind fun n_25 =>
  (qrun (visB n_23 [(n_23, n_25, true)]) (callV (cfg G) call 26 [y0_24])).bind fun y1_26 =>
  getN.bind fun n_27 =>
  (loadN 3 t5_7).bind fun y2_28 =>
  getN.bind fun n_29 =>
  (qrun (visB n_23 [(n_27, n_29, true), (n_25, n_27, true), (n_23, n_25, true)]) (callV (cfg G) call 25 [y1_26, y2_28])).bind fun y3_30 =>
  getN.bind fun n_31 =>
  (M.lift (unV .not y3_30)).bind fun y4_32 =>
  getN.bind fun n_33 =>
  (M.ret y4_32).bind fun y5_34 =>
  getN.bind fun n_35 =>
  (guardV y5_34 false (loadN 10 y4_22)).bind fun y6_36 =>
  getN.bind fun n_37 =>
  (qrun (visB n_23 [(n_35, n_37, true), (n_33, n_35, true), (n_31, n_33, true), (n_29, n_31, true), (n_27, n_29, true), (n_25, n_27, true), (n_23, n_25, true)]) (guardV y5_34 false (callV (cfg G) call 23 [y6_36]))).bind fun y7_38 =>
  getN.bind fun n_39 =>
  (qrun (visB n_23 [(n_37, n_39, true), (n_35, n_37, true), (n_33, n_35, true), (n_31, n_33, true), (n_29, n_31, true), (n_27, n_29, true), (n_25, n_27, true), (n_23, n_25, true)]) (guardV y5_34 false (callV (cfg G) call 26 [y7_38]))).bind fun y8_40 =>
  getN.bind fun n_41 =>
  (guardV y5_34 false (loadN 3 t3_2)).bind fun y9_42 =>
  getN.bind fun n_43 =>
  (qrun (visB n_23 [(n_41, n_43, true), (n_39, n_41, true), (n_37, n_39, true), (n_35, n_37, true), (n_33, n_35, true), (n_31, n_33, true), (n_29, n_31, true), (n_27, n_29, true), (n_25, n_27, true), (n_23, n_25, true)]) (guardV y5_34 false (callV (cfg G) call 25 [y8_40, y9_42]))).bind fun y10_44 =>
  (guardV y5_34 false (M.lift (unV .not y10_44))).bind fun y11_45 =>
  (M.lift (pickV y5_34 (V.bool true) y11_45)).bind fun y12_46 =>
  (condV y12_46
   ((M.ret (V.bool false)).bind fun t4_47 =>
  M.ret (Ex.ret, [t4_47]))
   ((loadN 10 y4_22).bind fun t37_48 =>
  (callV (cfg G) call 22 [t37_48]).bind fun t38_49 =>
  (storeN 3 t6_8 t38_49).bind fun _ =>
  (loadN 3 t6_8).bind fun t39_50 =>
  (loadN 3 t3_2).bind fun t40_51 =>
  (callV (cfg G) call 25 [t39_50, t40_51]).bind fun t41_52 =>
  (M.lift (unV .not t41_52)).bind fun t42_53 =>
  (M.ret t42_53).bind fun t43_54 =>
  (guardV t43_54 false (M.lift (padd 0 y4_22))).bind fun t44_55 =>
  (guardV t43_54 false (load1 t44_55)).bind fun t45_56 =>
  (guardV t43_54 false (M.lift (padd 0 t2_1))).bind fun t46_57 =>
  (guardV t43_54 false (load1 t46_57)).bind fun t47_58 =>
  (guardV t43_54 false (M.lift ((eqV (.sc .int) false t45_56 t47_58).bind fun b => some (.bool !b)))).bind fun t48_59 =>
  (M.lift (pickV t43_54 (V.bool true) t48_59)).bind fun t49_60 =>
  (M.ret t49_60).bind fun t50_61 =>
  (guardV t50_61 false (M.lift (padd 1 y4_22))).bind fun t51_62 =>
  (guardV t50_61 false (load1 t51_62)).bind fun t52_63 =>
  (guardV t50_61 false (M.lift (padd 1 t2_1))).bind fun t53_64 =>
  (guardV t50_61 false (load1 t53_64)).bind fun t54_65 =>
  (guardV t50_61 false (M.lift ((eqV (.sc .int) false t52_63 t54_65).bind fun b => some (.bool !b)))).bind fun t55_66 =>
  (M.lift (pickV t50_61 (V.bool true) t55_66)).bind fun t56_67 =>
  (M.ret t56_67).bind fun t57_68 =>
  (guardV t57_68 false (M.lift (padd 2 y4_22))).bind fun t58_69 =>
  (guardV t57_68 false (load1 t58_69)).bind fun t59_70 =>
  (guardV t57_68 false (M.lift (padd 2 t2_1))).bind fun t60_71 =>
  (guardV t57_68 false (load1 t60_71)).bind fun t61_72 =>
  (guardV t57_68 false (M.lift ((eqV (.sc .int) false t59_70 t61_72).bind fun b => some (.bool !b)))).bind fun t62_73 =>
  (M.lift (pickV t57_68 (V.bool true) t62_73)).bind fun t63_74 =>
  (condV t63_74
   ((M.ret (V.bool false)).bind fun t4_75 =>
  M.ret (Ex.ret, [t4_75]))
   ((loadN 10 y4_22).bind fun t64_76 =>
  (loadN 3 t7_13).bind fun t65_77 =>
  (callV (cfg G) call 24 [t64_76, t65_77]).bind fun t66_78 =>
  (newV (.agg [(V.int .i64 0), (V.int .i64 0), (V.int .i64 0), V.nils, V.nils, V.nils, V.nils, V.nils, V.nils, V.nils])).bind fun t9_79 =>
  (storeN 10 t9_79 t66_78).bind fun _ =>
  (getN.bind fun n_80 =>
  (loadN 10 t9_79).bind fun y0_81 =>
  getN.bind fun n_82 =>
  (qrun (visB n_80 [(n_80, n_82, true)]) (callV (cfg G) call 22 [y0_81])).bind fun y1_83 =>
  getN.bind fun n_84 =>
  (loadN 3 t5_7).bind fun y2_85 =>
  getN.bind fun n_86 =>
  (qrun (visB n_80 [(n_84, n_86, true), (n_82, n_84, true), (n_80, n_82, true)]) (callV (cfg G) call 25 [y1_83, y2_85])).bind fun y3_87 =>
  getN.bind fun n_88 =>
  (M.lift (unV .not y3_87)).bind fun y4_89 =>
  getN.bind fun n_90 =>
  (M.ret y4_89).bind fun y5_91 =>
  getN.bind fun n_92 =>
  (guardV y5_91 false (M.lift (padd 6 y4_22))).bind fun y6_93 =>
  getN.bind fun n_94 =>
  (guardV y5_91 false (load1 y6_93)).bind fun y7_95 =>
  getN.bind fun n_96 =>
  (guardV y5_91 false (M.lift (lenV y7_95))).bind fun y8_97 =>
  getN.bind fun n_98 =>
  (guardV y5_91 false (M.lift (padd 6 t2_1))).bind fun y9_99 =>
  getN.bind fun n_100 =>
  (guardV y5_91 false (load1 y9_99)).bind fun y10_101 =>
  getN.bind fun n_102 =>
  (guardV y5_91 false (M.lift (lenV y10_101))).bind fun y11_103 =>
  getN.bind fun n_104 =>
  (guardV y5_91 false (M.lift ((eqV (.sc .int) false y8_97 y11_103).bind fun b => some (.bool !b)))).bind fun y12_105 =>
  getN.bind fun n_106 =>
  (M.lift (pickV y5_91 (V.bool true) y12_105)).bind fun y13_107 =>
  getN.bind fun n_108 =>
  (M.ret y13_107).bind fun y14_109 =>
  getN.bind fun n_110 =>
  (guardV y14_109 false (M.lift (padd 8 y4_22))).bind fun y15_111 =>
  getN.bind fun n_112 =>
  (guardV y14_109 false (load1 y15_111)).bind fun y16_113 =>
  getN.bind fun n_114 =>
  (guardV y14_109 false (M.lift (lenV y16_113))).bind fun y17_115 =>
  getN.bind fun n_116 =>
  (guardV y14_109 false (M.lift (padd 8 t2_1))).bind fun y18_117 =>
  getN.bind fun n_118 =>
  (guardV y14_109 false (load1 y18_117)).bind fun y19_119 =>
  getN.bind fun n_120 =>
  (guardV y14_109 false (M.lift (lenV y19_119))).bind fun y20_121 =>
  getN.bind fun n_122 =>
  (guardV y14_109 false (M.lift ((eqV (.sc .int) false y17_115 y20_121).bind fun b => some (.bool !b)))).bind fun y21_123 =>
  getN.bind fun n_124 =>
  (M.lift (pickV y14_109 (V.bool true) y21_123)).bind fun y22_125 =>
  getN.bind fun n_126 =>
  (M.ret y22_125).bind fun y23_127 =>
  getN.bind fun n_128 =>
  (guardV y23_127 false (M.lift (padd 9 y4_22))).bind fun y24_129 =>
  getN.bind fun n_130 =>
  (guardV y23_127 false (load1 y24_129)).bind fun y25_131 =>
  getN.bind fun n_132 =>
  (guardV y23_127 false (M.lift (lenV y25_131))).bind fun y26_133 =>
  getN.bind fun n_134 =>
  (guardV y23_127 false (M.lift (padd 9 t2_1))).bind fun y27_135 =>
  getN.bind fun n_136 =>
  (guardV y23_127 false (load1 y27_135)).bind fun y28_137 =>
  getN.bind fun n_138 =>
  (guardV y23_127 false (M.lift (lenV y28_137))).bind fun y29_139 =>
  getN.bind fun n_140 =>
  (guardV y23_127 false (M.lift ((eqV (.sc .int) false y26_133 y29_139).bind fun b => some (.bool !b)))).bind fun y30_141 =>
  getN.bind fun n_142 =>
  (M.lift (pickV y23_127 (V.bool true) y30_141)).bind fun y31_143 =>
  getN.bind fun n_144 =>
  (M.ret y31_143).bind fun y32_145 =>
  getN.bind fun n_146 =>
  (guardV y32_145 false (M.lift (padd 7 y4_22))).bind fun y33_147 =>
  getN.bind fun n_148 =>
  (guardV y32_145 false (load1 y33_147)).bind fun y34_149 =>
  getN.bind fun n_150 =>
  (guardV y32_145 false (M.lift (padd 7 t2_1))).bind fun y35_151 =>
  getN.bind fun n_152 =>
  (guardV y32_145 false (load1 y35_151)).bind fun y36_153 =>
  getN.bind fun n_154 =>
  (qrun (visB n_80 [(n_152, n_154, true), (n_150, n_152, true), (n_148, n_150, true), (n_146, n_148, true), (n_144, n_146, true), (n_142, n_144, true), (n_140, n_142, true), (n_138, n_140, true), (n_136, n_138, true), (n_134, n_136, true), (n_132, n_134, true), (n_130, n_132, true), (n_128, n_130, true), (n_126, n_128, true), (n_124, n_126, true), (n_122, n_124, true), (n_120, n_122, true), (n_118, n_120, true), (n_116, n_118, true), (n_114, n_116, true), (n_112, n_114, true), (n_110, n_112, true), (n_108, n_110, true), (n_106, n_108, true), (n_104, n_106, true), (n_102, n_104, true), (n_100, n_102, true), (n_98, n_100, true), (n_96, n_98, true), (n_94, n_96, true), (n_92, n_94, true), (n_90, n_92, true), (n_88, n_90, true), (n_86, n_88, true), (n_84, n_86, true), (n_82, n_84, true), (n_80, n_82, true)]) (guardV y32_145 false (callV (cfg G) call 27 [y34_149, y36_153]))).bind fun y37_155 =>
  (guardV y32_145 false (M.lift (unV .not y37_155))).bind fun y38_156 =>
  (M.lift (pickV y32_145 (V.bool true) y38_156)).bind fun y39_157 =>
  (condV y39_157
   ((M.ret (V.bool false)).bind fun t4_158 =>
  M.ret (Ex.ret, [t4_158]))
   ((M.ret (V.int .i64 0)).bind fun t10_159 =>
  (loopV (ferry_ferrylaw09_ReadyStates_l1 G call t2_1 y4_22) [t4_3, t10_159]).bind fun r0_181 => match r0_181.1 with
  | .normal => M.fail
  | .exit k0_182 =>
    (if k0_182 = 0 then
    (M.ret (V.int .i64 0)).bind fun t11_183 =>
    (loopV (ferry_ferrylaw09_ReadyStates_l2 G call t2_1 y4_22) [(r0_181.2.getD 0 V.undef), t11_183]).bind fun r0_205 => match r0_205.1 with
    | .normal => M.fail
    | .exit k0_206 =>
      (if k0_206 = 2 then
      (M.ret (V.int .i64 0)).bind fun t12_207 =>
      (loopV (ferry_ferrylaw09_ReadyStates_l3 G call t2_1 y4_22) [(r0_205.2.getD 0 V.undef), t12_207]).bind fun r0_287 => match r0_287.1 with
      | .normal => M.fail
      | .exit k0_288 =>
        (if k0_288 = 4 then
        (M.ret (V.bool true)).bind fun t4_289 =>
        M.ret (Ex.ret, [t4_289])
        else M.fail)
      | .ret =>
        M.ret (Ex.ret, [(r0_287.2.getD 0 V.undef)])
      else M.fail)
    | .ret =>
      M.ret (Ex.ret, [(r0_205.2.getD 0 V.undef)])
    else M.fail)
  | .ret =>
    M.ret (Ex.ret, [(r0_181.2.getD 0 V.undef)]))))))))))))

theorem ferry_ferrylaw09_ReadyStates_eq (G : Nat → Option (List V)) (n : Nat) (x0 : V) (x1 : V) : sem (cfg G) (n + 1) 5 [x0, x1] = outV (ferry_ferrylaw09_ReadyStates G (sem (cfg G) n) x0 x1) :=
  (fnV_at (C := cfg G) (n := n) (f := 5) (fn := Tryd.f5) (c := Tryd.f5.body.getD .skip) (by kernel_rfl) (by kernel_rfl) (by kernel_rfl) [x0, x1]).trans (by kernel_rfl)

end Go.Fv.Tr

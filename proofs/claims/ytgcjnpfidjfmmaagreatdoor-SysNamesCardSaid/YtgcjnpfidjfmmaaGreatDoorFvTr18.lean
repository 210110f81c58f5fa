/-
  The Go functions ferry/sys.table, ferry/sys.Name, ferry/sys.Number, ferry/sys.Args, ferry/ferryref12.words, ferry/ferryref12.Name, ferry/ferryref12.Number, ferry/ferryref12.Args, ferry/ferrylaw12.SysNames as plain terms. By an AI agent; no person has read it.
-/
import Derived.Test.YtgcjnpfidjfmmaaGreatDoorFvCf
import Derived.Test.YtgcjnpfidjfmmaaGreatDoorFvW4
set_option linter.unusedVariables false
set_option linter.unusedSimpArgs false
set_option linter.unusedSectionVars false
/-! The Go functions ferry/sys.table, ferry/sys.Name, ferry/sys.Number, ferry/sys.Args, ferry/ferryref12.words, ferry/ferryref12.Name, ferry/ferryref12.Number, ferry/ferryref12.Args, ferry/ferrylaw12.SysNames as plain terms. -/
namespace Go.Fv.Tr
open Go Go.Fv Go.Proofs
set_option linter.unusedVariables false
set_option maxRecDepth 20000

noncomputable def ferry_sys_table (G : Nat → Option (List V)) (call : FuncId → List V → M V)  : M R :=
  (M.ret V.nils).bind fun t0_1 =>
  (M.lift (buildV [(V.str ⟨#[]⟩), (V.int .i64 0), V.nilf] [(0, 1, (V.str ⟨#[121, 105, 101, 108, 100]⟩)), (1, 1, (V.int .i64 0)), (2, 1, (V.fn 12 []))])).bind fun t1_2 =>
  (M.lift (buildV [(V.str ⟨#[]⟩), (V.int .i64 0), V.nilf] [(0, 1, (V.str ⟨#[115, 116, 111, 112]⟩)), (1, 1, (V.int .i64 0)), (2, 1, (V.fn 13 []))])).bind fun t2_3 =>
  (M.lift (buildV [(V.str ⟨#[]⟩), (V.int .i64 0), V.nilf] [(0, 1, (V.str ⟨#[115, 116, 97, 114, 116]⟩)), (1, 1, (V.int .i64 1)), (2, 1, (V.fn 14 []))])).bind fun t3_4 =>
  (M.lift (buildV [(V.str ⟨#[]⟩), (V.int .i64 0), V.nilf] [(0, 1, (V.str ⟨#[115, 108, 101, 101, 112]⟩)), (1, 1, (V.int .i64 1)), (2, 1, (V.fn 15 []))])).bind fun t4_5 =>
  (M.lift (buildV [(V.str ⟨#[]⟩), (V.int .i64 0), V.nilf] [(0, 1, (V.str ⟨#[112, 114, 105, 111]⟩)), (1, 1, (V.int .i64 2)), (2, 1, (V.fn 16 []))])).bind fun t5_6 =>
  (M.lift (buildV [(V.str ⟨#[]⟩), (V.int .i64 0), V.nilf] [(0, 1, (V.str ⟨#[116, 105, 109, 101]⟩)), (1, 1, (V.int .i64 0)), (2, 1, (V.fn 17 []))])).bind fun t6_7 =>
  (M.lift (buildV [(V.str ⟨#[]⟩), (V.int .i64 0), V.nilf] [(0, 1, (V.str ⟨#[114, 97, 105, 115, 101]⟩)), (1, 1, (V.int .i64 1)), (2, 1, (V.fn 18 []))])).bind fun t7_8 =>
  (M.lift (buildV [(V.str ⟨#[]⟩), (V.int .i64 0), V.nilf] [(0, 1, (V.str ⟨#[115, 101, 116]⟩)), (1, 1, (V.int .i64 1)), (2, 1, (V.fn 19 []))])).bind fun t8_9 =>
  (M.lift (buildV [(V.str ⟨#[]⟩), (V.int .i64 0), V.nilf] [(0, 1, (V.str ⟨#[99, 108, 101, 97, 114]⟩)), (1, 1, (V.int .i64 1)), (2, 1, (V.fn 20 []))])).bind fun t9_10 =>
  (M.lift (buildV [(V.str ⟨#[]⟩), (V.int .i64 0), V.nilf] [(0, 1, (V.str ⟨#[97, 119, 97, 105, 116]⟩)), (1, 1, (V.int .i64 2)), (2, 1, (V.fn 21 []))])).bind fun t10_11 =>
  (M.lift (buildV [(V.str ⟨#[]⟩), (V.int .i64 0), V.nilf] [(0, 1, (V.str ⟨#[115, 105, 103, 110, 97, 108]⟩)), (1, 1, (V.int .i64 1)), (2, 1, (V.fn 22 []))])).bind fun t11_12 =>
  (M.lift (buildV [(V.str ⟨#[]⟩), (V.int .i64 0), V.nilf] [(0, 1, (V.str ⟨#[116, 97, 107, 101]⟩)), (1, 1, (V.int .i64 2)), (2, 1, (V.fn 23 []))])).bind fun t12_13 =>
  (M.lift (buildV [(V.str ⟨#[]⟩), (V.int .i64 0), V.nilf] [(0, 1, (V.str ⟨#[114, 101, 97, 100]⟩)), (1, 1, (V.int .i64 2)), (2, 1, (V.fn 24 []))])).bind fun t13_14 =>
  (M.lift (buildV [(V.str ⟨#[]⟩), (V.int .i64 0), V.nilf] [(0, 1, (V.str ⟨#[119, 114, 105, 116, 101]⟩)), (1, 1, (V.int .i64 3)), (2, 1, (V.fn 25 []))])).bind fun t14_15 =>
  (M.lift (buildV [(V.str ⟨#[]⟩), (V.int .i64 0), V.nilf] [(0, 1, (V.str ⟨#[112, 111, 114, 116]⟩)), (1, 1, (V.int .i64 2)), (2, 1, (V.fn 26 []))])).bind fun t15_16 =>
  (sliceV 3 15 [(V.str ⟨#[]⟩), (V.int .i64 0), V.nilf] [(0, t1_2), (1, t2_3), (2, t3_4), (3, t4_5), (4, t5_6), (5, t6_7), (6, t7_8), (7, t8_9), (8, t9_10), (9, t10_11), (10, t11_12), (11, t12_13), (12, t13_14), (13, t14_15), (14, t15_16)]).bind fun t16_17 =>
  (M.ret t16_17).bind fun t0_18 =>
  M.ret (Ex.ret, [t0_18])

theorem ferry_sys_table_eq (G : Nat → Option (List V)) (n : Nat)  : sem (cfg G) (n + 1) 10 [] = outV (ferry_sys_table G (sem (cfg G) n) ) :=
  (fnV_at (C := cfg G) (n := n) (f := 10) (fn := Tryz.f10) (c := Tryz.f10.body.getD .skip) (by kernel_rfl) (by kernel_rfl) (by kernel_rfl) []).trans (by kernel_rfl)

noncomputable def ferry_sys_Name (G : Nat → Option (List V)) (call : FuncId → List V → M V) (x0 : V) : M R :=
  (M.ret (V.str ⟨#[]⟩)).bind fun t2_1 =>
  (callV (cfg G) call 10 []).bind fun t4_2 =>
  (M.ret t4_2).bind fun t3_3 =>
  (M.ret x0).bind fun t5_4 =>
  (M.lift (arithV .geq t5_4 (V.int .i64 0))).bind fun t6_5 =>
  (M.ret t6_5).bind fun t7_6 =>
  (guardV t7_6 true (M.ret x0)).bind fun t8_7 =>
  (guardV t7_6 true (M.ret t3_3)).bind fun t9_8 =>
  (guardV t7_6 true (M.lift (lenV t9_8))).bind fun t10_9 =>
  (guardV t7_6 true (M.lift (arithV .lss t8_7 t10_9))).bind fun t11_10 =>
  (M.lift (pickV t7_6 t11_10 (V.bool false))).bind fun t12_11 =>
  (condV t12_11
   ((M.ret t3_3).bind fun t13_12 =>
  (M.ret x0).bind fun t14_13 =>
  (M.lift (idxV 3 t13_12 t14_13)).bind fun t15_14 =>
  (M.lift (padd 0 t15_14)).bind fun t16_15 =>
  (load1 t16_15).bind fun t17_16 =>
  (M.ret t17_16).bind fun t2_17 =>
  M.ret (Ex.ret, [t2_17]))
   ((M.ret (V.str ⟨#[]⟩)).bind fun t2_18 =>
  M.ret (Ex.ret, [t2_18])))

theorem ferry_sys_Name_eq (G : Nat → Option (List V)) (n : Nat) (x0 : V) : sem (cfg G) (n + 1) 4 [x0] = outV (ferry_sys_Name G (sem (cfg G) n) x0) :=
  (fnV_at (C := cfg G) (n := n) (f := 4) (fn := Tryz.f4) (c := Tryz.f4.body.getD .skip) (by kernel_rfl) (by kernel_rfl) (by kernel_rfl) [x0]).trans (by kernel_rfl)

noncomputable def ferry_sys_Number_l1 (G : Nat → Option (List V)) (call : FuncId → List V → M V) (t6_3 : V) (t5_2 : V) (x0 : V) (s0_5 : List V) : M R :=
  (M.lift (arithV .lss (s0_5.getD 1 V.undef) t6_3)).bind fun t8_6 =>
  (condV t8_6
   ((M.ret (s0_5.getD 1 V.undef)).bind fun t9_7 =>
  (M.lift (idxV 3 t5_2 (s0_5.getD 1 V.undef))).bind fun t10_8 =>
  (loadN 3 t10_8).bind fun t11_9 =>
  (newV (.agg [(V.str ⟨#[]⟩), (V.int .i64 0), V.nilf])).bind fun t4_10 =>
  (M.ret t9_7).bind fun t3_11 =>
  (storeN 3 t4_10 t11_9).bind fun _ =>
  (M.lift (padd 0 t4_10)).bind fun t12_12 =>
  (load1 t12_12).bind fun t13_13 =>
  (M.ret x0).bind fun t14_14 =>
  (M.lift ((eqV (.sc .str) false t13_13 t14_14).bind fun b => some (.bool b))).bind fun t15_15 =>
  (condV t15_15
   ((M.ret t3_11).bind fun t16_16 =>
  (M.ret t16_16).bind fun t2_17 =>
  M.ret (Ex.ret, [t2_17, (s0_5.getD 1 V.undef)]))
   ((M.lift (arithV .add (s0_5.getD 1 V.undef) (V.int .i64 1))).bind fun t17_18 =>
  (M.ret t17_18).bind fun t7_19 =>
  M.ret (Ex.normal, [(s0_5.getD 0 V.undef), t7_19]))))
   (M.ret ((Ex.exit 0), [(s0_5.getD 0 V.undef), (s0_5.getD 1 V.undef)])))

noncomputable def ferry_sys_Number (G : Nat → Option (List V)) (call : FuncId → List V → M V) (x0 : V) : M R :=
  (M.ret (V.int .i64 0)).bind fun t2_1 =>
  (callV (cfg G) call 10 []).bind fun t5_2 =>
  (M.lift (lenV t5_2)).bind fun t6_3 =>
  (M.ret (V.int .i64 0)).bind fun t7_4 =>
  (loopV (ferry_sys_Number_l1 G call t6_3 t5_2 x0) [t2_1, t7_4]).bind fun r0_20 => match r0_20.1 with
  | .normal => M.fail
  | .exit k0_21 =>
    (if k0_21 = 0 then
    (M.ret (V.int .i64 (-1))).bind fun t2_22 =>
    M.ret (Ex.ret, [t2_22])
    else M.fail)
  | .ret =>
    M.ret (Ex.ret, [(r0_20.2.getD 0 V.undef)])

theorem ferry_sys_Number_eq (G : Nat → Option (List V)) (n : Nat) (x0 : V) : sem (cfg G) (n + 1) 5 [x0] = outV (ferry_sys_Number G (sem (cfg G) n) x0) :=
  (fnV_at (C := cfg G) (n := n) (f := 5) (fn := Tryz.f5) (c := Tryz.f5.body.getD .skip) (by kernel_rfl) (by kernel_rfl) (by kernel_rfl) [x0]).trans (by kernel_rfl)

noncomputable def ferry_sys_Args (G : Nat → Option (List V)) (call : FuncId → List V → M V) (x0 : V) : M R :=
  (M.ret (V.int .i64 0)).bind fun t2_1 =>
  (callV (cfg G) call 10 []).bind fun t4_2 =>
  (M.ret t4_2).bind fun t3_3 =>
  (M.ret x0).bind fun t5_4 =>
  (M.lift (arithV .geq t5_4 (V.int .i64 0))).bind fun t6_5 =>
  (M.ret t6_5).bind fun t7_6 =>
  (guardV t7_6 true (M.ret x0)).bind fun t8_7 =>
  (guardV t7_6 true (M.ret t3_3)).bind fun t9_8 =>
  (guardV t7_6 true (M.lift (lenV t9_8))).bind fun t10_9 =>
  (guardV t7_6 true (M.lift (arithV .lss t8_7 t10_9))).bind fun t11_10 =>
  (M.lift (pickV t7_6 t11_10 (V.bool false))).bind fun t12_11 =>
  (condV t12_11
   ((M.ret t3_3).bind fun t13_12 =>
  (M.ret x0).bind fun t14_13 =>
  (M.lift (idxV 3 t13_12 t14_13)).bind fun t15_14 =>
  (M.lift (padd 1 t15_14)).bind fun t16_15 =>
  (load1 t16_15).bind fun t17_16 =>
  (M.ret t17_16).bind fun t2_17 =>
  M.ret (Ex.ret, [t2_17]))
   ((M.ret (V.int .i64 0)).bind fun t2_18 =>
  M.ret (Ex.ret, [t2_18])))

theorem ferry_sys_Args_eq (G : Nat → Option (List V)) (n : Nat) (x0 : V) : sem (cfg G) (n + 1) 6 [x0] = outV (ferry_sys_Args G (sem (cfg G) n) x0) :=
  (fnV_at (C := cfg G) (n := n) (f := 6) (fn := Tryz.f6) (c := Tryz.f6.body.getD .skip) (by kernel_rfl) (by kernel_rfl) (by kernel_rfl) [x0]).trans (by kernel_rfl)

noncomputable def ferry_ferryref12_words (G : Nat → Option (List V)) (call : FuncId → List V → M V)  : M R :=
  (M.ret V.nils).bind fun t0_1 =>
  (sliceV 1 15 [(V.str ⟨#[]⟩)] [(0, (V.str ⟨#[121, 105, 101, 108, 100]⟩)), (1, (V.str ⟨#[115, 116, 111, 112]⟩)), (2, (V.str ⟨#[115, 116, 97, 114, 116]⟩)), (3, (V.str ⟨#[115, 108, 101, 101, 112]⟩)), (4, (V.str ⟨#[112, 114, 105, 111]⟩)), (5, (V.str ⟨#[116, 105, 109, 101]⟩)), (6, (V.str ⟨#[114, 97, 105, 115, 101]⟩)), (7, (V.str ⟨#[115, 101, 116]⟩)), (8, (V.str ⟨#[99, 108, 101, 97, 114]⟩)), (9, (V.str ⟨#[97, 119, 97, 105, 116]⟩)), (10, (V.str ⟨#[115, 105, 103, 110, 97, 108]⟩)), (11, (V.str ⟨#[116, 97, 107, 101]⟩)), (12, (V.str ⟨#[114, 101, 97, 100]⟩)), (13, (V.str ⟨#[119, 114, 105, 116, 101]⟩)), (14, (V.str ⟨#[112, 111, 114, 116]⟩))]).bind fun t1_2 =>
  (M.ret t1_2).bind fun t0_3 =>
  M.ret (Ex.ret, [t0_3])

theorem ferry_ferryref12_words_eq (G : Nat → Option (List V)) (n : Nat)  : sem (cfg G) (n + 1) 11 [] = outV (ferry_ferryref12_words G (sem (cfg G) n) ) :=
  (fnV_at (C := cfg G) (n := n) (f := 11) (fn := Tryz.f11) (c := Tryz.f11.body.getD .skip) (by kernel_rfl) (by kernel_rfl) (by kernel_rfl) []).trans (by kernel_rfl)

noncomputable def ferry_ferryref12_Name (G : Nat → Option (List V)) (call : FuncId → List V → M V) (x0 : V) : M R :=
  (M.ret (V.str ⟨#[]⟩)).bind fun t2_1 =>
  (callV (cfg G) call 11 []).bind fun t4_2 =>
  (M.ret t4_2).bind fun t3_3 =>
  (M.ret x0).bind fun t5_4 =>
  (M.lift (arithV .lss t5_4 (V.int .i64 0))).bind fun t6_5 =>
  (M.ret t6_5).bind fun t7_6 =>
  (guardV t7_6 false (M.ret x0)).bind fun t8_7 =>
  (guardV t7_6 false (M.ret t3_3)).bind fun t9_8 =>
  (guardV t7_6 false (M.lift (lenV t9_8))).bind fun t10_9 =>
  (guardV t7_6 false (M.lift (arithV .geq t8_7 t10_9))).bind fun t11_10 =>
  (M.lift (pickV t7_6 (V.bool true) t11_10)).bind fun t12_11 =>
  (condV t12_11
   ((M.ret (V.str ⟨#[]⟩)).bind fun t2_12 =>
  M.ret (Ex.ret, [t2_12]))
   ((M.ret t3_3).bind fun t13_13 =>
  (M.ret x0).bind fun t14_14 =>
  (M.lift (idxV 1 t13_13 t14_14)).bind fun t15_15 =>
  (load1 t15_15).bind fun t16_16 =>
  (M.ret t16_16).bind fun t2_17 =>
  M.ret (Ex.ret, [t2_17])))

theorem ferry_ferryref12_Name_eq (G : Nat → Option (List V)) (n : Nat) (x0 : V) : sem (cfg G) (n + 1) 7 [x0] = outV (ferry_ferryref12_Name G (sem (cfg G) n) x0) :=
  (fnV_at (C := cfg G) (n := n) (f := 7) (fn := Tryz.f7) (c := Tryz.f7.body.getD .skip) (by kernel_rfl) (by kernel_rfl) (by kernel_rfl) [x0]).trans (by kernel_rfl)

noncomputable def ferry_ferryref12_Number_l1 (G : Nat → Option (List V)) (call : FuncId → List V → M V) (t3_3 : V) (x0 : V) (s0_5 : List V) : M R :=
  (M.ret (s0_5.getD 1 V.undef)).bind fun t6_6 =>
  (M.ret t3_3).bind fun t7_7 =>
  (M.lift (lenV t7_7)).bind fun t8_8 =>
  (M.lift (arithV .lss t6_6 t8_8)).bind fun t9_9 =>
  (condV t9_9
   ((M.ret t3_3).bind fun t12_10 =>
  (M.ret (s0_5.getD 1 V.undef)).bind fun t13_11 =>
  (M.lift (idxV 1 t12_10 t13_11)).bind fun t14_12 =>
  (load1 t14_12).bind fun t15_13 =>
  (M.ret x0).bind fun t16_14 =>
  (M.lift ((eqV (.sc .str) false t15_13 t16_14).bind fun b => some (.bool b))).bind fun t17_15 =>
  (condV t17_15
   ((M.ret (s0_5.getD 1 V.undef)).bind fun t18_16 =>
  (M.ret t18_16).bind fun t2_17 =>
  M.ret (Ex.ret, [t2_17, (s0_5.getD 1 V.undef)]))
   ((M.ret (s0_5.getD 1 V.undef)).bind fun t10_18 =>
  (M.lift (arithV .add t10_18 (V.int .i64 1))).bind fun t11_19 =>
  (M.ret t11_19).bind fun t4_20 =>
  M.ret (Ex.normal, [(s0_5.getD 0 V.undef), t4_20]))))
   (M.ret ((Ex.exit 0), [(s0_5.getD 0 V.undef), (s0_5.getD 1 V.undef)])))

noncomputable def ferry_ferryref12_Number (G : Nat → Option (List V)) (call : FuncId → List V → M V) (x0 : V) : M R :=
  (M.ret (V.int .i64 0)).bind fun t2_1 =>
  (callV (cfg G) call 11 []).bind fun t5_2 =>
  (M.ret t5_2).bind fun t3_3 =>
  (M.ret (V.int .i64 0)).bind fun t4_4 =>
  (loopV (ferry_ferryref12_Number_l1 G call t3_3 x0) [t2_1, t4_4]).bind fun r0_21 => match r0_21.1 with
  | .normal => M.fail
  | .exit k0_22 =>
    (if k0_22 = 0 then
    (M.ret (V.int .i64 (-1))).bind fun t2_23 =>
    M.ret (Ex.ret, [t2_23])
    else M.fail)
  | .ret =>
    M.ret (Ex.ret, [(r0_21.2.getD 0 V.undef)])

theorem ferry_ferryref12_Number_eq (G : Nat → Option (List V)) (n : Nat) (x0 : V) : sem (cfg G) (n + 1) 9 [x0] = outV (ferry_ferryref12_Number G (sem (cfg G) n) x0) :=
  (fnV_at (C := cfg G) (n := n) (f := 9) (fn := Tryz.f9) (c := Tryz.f9.body.getD .skip) (by kernel_rfl) (by kernel_rfl) (by kernel_rfl) [x0]).trans (by kernel_rfl)

noncomputable def ferry_ferryref12_Args_j1 (G : Nat → Option (List V)) (call : FuncId → List V → M V) (t3_2 : V) (j11_18 : V) : M R :=
  (condV j11_18
   ((M.ret (V.int .i64 2)).bind fun t2_19 =>
  M.ret (Ex.ret, [t2_19]))
   ((M.lift ((eqV (.sc .int) true t3_2 (V.int .i64 13)).bind fun b => some (.bool b))).bind fun t18_20 =>
  (M.ret t18_20).bind fun t17_21 =>
  (condV t17_21
   ((M.ret (V.int .i64 3)).bind fun t2_22 =>
  M.ret (Ex.ret, [t2_22]))
   ((M.ret (V.int .i64 0)).bind fun t2_23 =>
  M.ret (Ex.ret, [t2_23])))))

noncomputable def ferry_ferryref12_Args_j2 (G : Nat → Option (List V)) (call : FuncId → List V → M V) (t3_2 : V) (j4_10 : V) : M R :=
  (condV j4_10
   ((M.ret (V.int .i64 1)).bind fun t2_11 =>
  M.ret (Ex.ret, [t2_11]))
   ((M.lift ((eqV (.sc .int) true t3_2 (V.int .i64 4)).bind fun b => some (.bool b))).bind fun t12_12 =>
  (M.ret t12_12).bind fun t11_13 =>
  (condV t11_13
   (ferry_ferryref12_Args_j1 G call t3_2 t11_13)
   ((M.lift ((eqV (.sc .int) true t3_2 (V.int .i64 9)).bind fun b => some (.bool b))).bind fun t13_24 =>
  (M.ret t13_24).bind fun t11_25 =>
  (condV t11_25
   (ferry_ferryref12_Args_j1 G call t3_2 t11_25)
   ((M.lift ((eqV (.sc .int) true t3_2 (V.int .i64 11)).bind fun b => some (.bool b))).bind fun t14_30 =>
  (M.ret t14_30).bind fun t11_31 =>
  (condV t11_31
   (ferry_ferryref12_Args_j1 G call t3_2 t11_31)
   ((M.lift ((eqV (.sc .int) true t3_2 (V.int .i64 12)).bind fun b => some (.bool b))).bind fun t15_35 =>
  (M.ret t15_35).bind fun t11_36 =>
  (condV t11_36
   (ferry_ferryref12_Args_j1 G call t3_2 t11_36)
   ((M.lift ((eqV (.sc .int) true t3_2 (V.int .i64 14)).bind fun b => some (.bool b))).bind fun t16_39 =>
  (M.ret t16_39).bind fun t11_40 =>
  ferry_ferryref12_Args_j1 G call t3_2 t11_40))))))))))

noncomputable def ferry_ferryref12_Args (G : Nat → Option (List V)) (call : FuncId → List V → M V) (x0 : V) : M R :=
  (M.ret (V.int .i64 0)).bind fun t2_1 =>
  (M.ret x0).bind fun t3_2 =>
  (M.lift ((eqV (.sc .int) true t3_2 (V.int .i64 2)).bind fun b => some (.bool b))).bind fun t5_3 =>
  (M.ret t5_3).bind fun t4_4 =>
  (condV t4_4
   (ferry_ferryref12_Args_j2 G call t3_2 t4_4)
   ((M.lift ((eqV (.sc .int) true t3_2 (V.int .i64 3)).bind fun b => some (.bool b))).bind fun t6_41 =>
  (M.ret t6_41).bind fun t4_42 =>
  (condV t4_42
   (ferry_ferryref12_Args_j2 G call t3_2 t4_42)
   ((M.lift ((eqV (.sc .int) true t3_2 (V.int .i64 6)).bind fun b => some (.bool b))).bind fun t7_48 =>
  (M.ret t7_48).bind fun t4_49 =>
  (condV t4_49
   (ferry_ferryref12_Args_j2 G call t3_2 t4_49)
   ((M.lift ((eqV (.sc .int) true t3_2 (V.int .i64 7)).bind fun b => some (.bool b))).bind fun t8_54 =>
  (M.ret t8_54).bind fun t4_55 =>
  (condV t4_55
   (ferry_ferryref12_Args_j2 G call t3_2 t4_55)
   ((M.lift ((eqV (.sc .int) true t3_2 (V.int .i64 8)).bind fun b => some (.bool b))).bind fun t9_59 =>
  (M.ret t9_59).bind fun t4_60 =>
  (condV t4_60
   (ferry_ferryref12_Args_j2 G call t3_2 t4_60)
   ((M.lift ((eqV (.sc .int) true t3_2 (V.int .i64 10)).bind fun b => some (.bool b))).bind fun t10_63 =>
  (M.ret t10_63).bind fun t4_64 =>
  ferry_ferryref12_Args_j2 G call t3_2 t4_64))))))))))

theorem ferry_ferryref12_Args_eq (G : Nat → Option (List V)) (n : Nat) (x0 : V) : sem (cfg G) (n + 1) 8 [x0] = outV (ferry_ferryref12_Args G (sem (cfg G) n) x0) :=
  (fnV_at (C := cfg G) (n := n) (f := 8) (fn := Tryz.f8) (c := Tryz.f8.body.getD .skip) (by kernel_rfl) (by kernel_rfl) (by kernel_rfl) [x0]).trans (by kernel_rfl)

noncomputable def ferry_ferrylaw12_SysNames_l1 (G : Nat → Option (List V)) (call : FuncId → List V → M V)  (s0_14 : List V) : M R :=
  (M.ret (s0_14.getD 1 V.undef)).bind fun t16_15 =>
  (M.lift (arithV .lss t16_15 (V.int .i64 15))).bind fun t17_16 =>
  (condV t17_16
   ((M.ret (s0_14.getD 1 V.undef)).bind fun t20_17 =>
  (callV (cfg G) call 4 [t20_17]).bind fun t21_18 =>
  (callV (cfg G) call 5 [t21_18]).bind fun t22_19 =>
  (M.ret (s0_14.getD 1 V.undef)).bind fun t23_20 =>
  (M.lift ((eqV (.sc .int) false t22_19 t23_20).bind fun b => some (.bool !b))).bind fun t24_21 =>
  (M.ret t24_21).bind fun t25_22 =>
  (guardV t25_22 false (M.ret (s0_14.getD 1 V.undef))).bind fun t26_23 =>
  (guardV t25_22 false (callV (cfg G) call 4 [t26_23])).bind fun t27_24 =>
  (guardV t25_22 false (M.ret (s0_14.getD 1 V.undef))).bind fun t28_25 =>
  (guardV t25_22 false (callV (cfg G) call 7 [t28_25])).bind fun t29_26 =>
  (guardV t25_22 false (M.lift ((eqV (.sc .str) false t27_24 t29_26).bind fun b => some (.bool !b)))).bind fun t30_27 =>
  (M.lift (pickV t25_22 (V.bool true) t30_27)).bind fun t31_28 =>
  (M.ret t31_28).bind fun t32_29 =>
  (guardV t32_29 false (M.ret (s0_14.getD 1 V.undef))).bind fun t33_30 =>
  (guardV t32_29 false (callV (cfg G) call 6 [t33_30])).bind fun t34_31 =>
  (guardV t32_29 false (M.ret (s0_14.getD 1 V.undef))).bind fun t35_32 =>
  (guardV t32_29 false (callV (cfg G) call 8 [t35_32])).bind fun t36_33 =>
  (guardV t32_29 false (M.lift ((eqV (.sc .int) false t34_31 t36_33).bind fun b => some (.bool !b)))).bind fun t37_34 =>
  (M.lift (pickV t32_29 (V.bool true) t37_34)).bind fun t38_35 =>
  (condV t38_35
   ((M.ret (V.bool false)).bind fun t4_36 =>
  M.ret (Ex.ret, [t4_36, (s0_14.getD 1 V.undef)]))
   ((M.ret (s0_14.getD 1 V.undef)).bind fun t18_37 =>
  (M.lift (arithV .add t18_37 (V.int .i64 1))).bind fun t19_38 =>
  (M.ret t19_38).bind fun t5_39 =>
  M.ret (Ex.normal, [(s0_14.getD 0 V.undef), t5_39]))))
   (M.ret ((Ex.exit 0), [(s0_14.getD 0 V.undef), (s0_14.getD 1 V.undef)])))

noncomputable def ferry_ferrylaw12_SysNames (G : Nat → Option (List V)) (call : FuncId → List V → M V) (x0 : V) (x1 : V) : M R :=
  (M.ret (V.bool false)).bind fun t4_1 =>
  (callV (cfg G) call 4 [(V.int .i64 14)]).bind fun t6_2 =>
  (M.lift ((eqV (.sc .str) true t6_2 (V.str ⟨#[112, 111, 114, 116]⟩)).bind fun b => some (.bool !b))).bind fun t7_3 =>
  (M.ret t7_3).bind fun t8_4 =>
  (guardV t8_4 false (callV (cfg G) call 5 [(V.str ⟨#[121, 105, 101, 108, 100]⟩)])).bind fun t9_5 =>
  (guardV t8_4 false (M.lift ((eqV (.sc .int) true t9_5 (V.int .i64 0)).bind fun b => some (.bool !b)))).bind fun t10_6 =>
  (M.lift (pickV t8_4 (V.bool true) t10_6)).bind fun t11_7 =>
  (M.ret t11_7).bind fun t12_8 =>
  (guardV t12_8 false (callV (cfg G) call 6 [(V.int .i64 13)])).bind fun t13_9 =>
  (guardV t12_8 false (M.lift ((eqV (.sc .int) true t13_9 (V.int .i64 3)).bind fun b => some (.bool !b)))).bind fun t14_10 =>
  (M.lift (pickV t12_8 (V.bool true) t14_10)).bind fun t15_11 =>
  (condV t15_11
   ((M.ret (V.bool false)).bind fun t4_12 =>
  M.ret (Ex.ret, [t4_12]))
   ((M.ret (V.int .i64 0)).bind fun t5_13 =>
  (loopV (ferry_ferrylaw12_SysNames_l1 G call) [t4_1, t5_13]).bind fun r0_40 => match r0_40.1 with
  | .normal => M.fail
  | .exit k0_41 =>
    (if k0_41 = 0 then
    (M.ret x0).bind fun t39_42 =>
    (callV (cfg G) call 4 [t39_42]).bind fun t40_43 =>
    (M.ret x0).bind fun t41_44 =>
    (callV (cfg G) call 7 [t41_44]).bind fun t42_45 =>
    (M.lift ((eqV (.sc .str) false t40_43 t42_45).bind fun b => some (.bool b))).bind fun t43_46 =>
    (M.ret t43_46).bind fun t44_47 =>
    (guardV t44_47 true (M.ret x1)).bind fun t45_48 =>
    (guardV t44_47 true (callV (cfg G) call 5 [t45_48])).bind fun t46_49 =>
    (guardV t44_47 true (M.ret x1)).bind fun t47_50 =>
    (guardV t44_47 true (callV (cfg G) call 9 [t47_50])).bind fun t48_51 =>
    (guardV t44_47 true (M.lift ((eqV (.sc .int) false t46_49 t48_51).bind fun b => some (.bool b)))).bind fun t49_52 =>
    (M.lift (pickV t44_47 t49_52 (V.bool false))).bind fun t50_53 =>
    (M.ret t50_53).bind fun t51_54 =>
    (guardV t51_54 true (M.ret x0)).bind fun t52_55 =>
    (guardV t51_54 true (callV (cfg G) call 6 [t52_55])).bind fun t53_56 =>
    (guardV t51_54 true (M.ret x0)).bind fun t54_57 =>
    (guardV t51_54 true (callV (cfg G) call 8 [t54_57])).bind fun t55_58 =>
    (guardV t51_54 true (M.lift ((eqV (.sc .int) false t53_56 t55_58).bind fun b => some (.bool b)))).bind fun t56_59 =>
    (M.lift (pickV t51_54 t56_59 (V.bool false))).bind fun t57_60 =>
    (M.ret t57_60).bind fun t4_61 =>
    M.ret (Ex.ret, [t4_61])
    else M.fail)
  | .ret =>
    M.ret (Ex.ret, [(r0_40.2.getD 0 V.undef)])))

theorem ferry_ferrylaw12_SysNames_eq (G : Nat → Option (List V)) (n : Nat) (x0 : V) (x1 : V) : sem (cfg G) (n + 1) 3 [x0, x1] = outV (ferry_ferrylaw12_SysNames G (sem (cfg G) n) x0 x1) :=
  (fnV_at (C := cfg G) (n := n) (f := 3) (fn := Tryz.f3) (c := Tryz.f3.body.getD .skip) (by kernel_rfl) (by kernel_rfl) (by kernel_rfl) [x0, x1]).trans (by kernel_rfl)

end Go.Fv.Tr

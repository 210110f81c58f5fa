/-
  The Go functions ferry/ferryref25.Number, ferry/ferryref27.nth, ferry/ferryref27.Word, ferry/run.listed, ferry/run.Word, strconv.Itoa as plain terms. By an AI agent; no person has read it.
-/
import Derived.Test.YtoogammidjhfgaaDoorFvCf
import Derived.Test.YtoogammidjhfgaaDoorFvW4
set_option linter.unusedVariables false
set_option linter.unusedSimpArgs false
set_option linter.unusedSectionVars false
/-! The Go functions ferry/ferryref25.Number, ferry/ferryref27.nth, ferry/ferryref27.Word, ferry/run.listed, ferry/run.Word, strconv.Itoa as plain terms. -/
namespace Go.Fv.Tr
open Go Go.Fv Go.Proofs
set_option linter.unusedVariables false
set_option maxRecDepth 20000

noncomputable def ferry_ferryref25_Number_j1 (G : Nat → Option (List V)) (call : FuncId → List V → M V) (s0_8 : List V) (j5_18 : V) : M R :=
  (M.ret j5_18).bind fun t19_19 =>
  (M.lift (arithV .add (V.int .i64 48) t19_19)).bind fun t20_20 =>
  (M.lift (convI .u8 t20_20)).bind fun t21_21 =>
  (sliceV 1 1 [(V.int .u8 0)] [(0, t21_21)]).bind fun t22_22 =>
  (readBytes t22_22).bind fun t23_23 =>
  (M.ret (s0_8.getD 0 V.undef)).bind fun t24_24 =>
  (M.lift (arithV .add t23_23 t24_24)).bind fun t25_25 =>
  (M.ret t25_25).bind fun t3_26 =>
  (M.ret (s0_8.getD 1 V.undef)).bind fun t11_27 =>
  (M.lift (arithV .quo t11_27 (V.int .i64 10))).bind fun t12_28 =>
  (M.ret t12_28).bind fun t4_29 =>
  M.ret (Ex.normal, [t3_26, t4_29])

noncomputable def ferry_ferryref25_Number_l1 (G : Nat → Option (List V)) (call : FuncId → List V → M V)  (s0_8 : List V) : M R :=
  (M.ret (s0_8.getD 1 V.undef)).bind fun t9_9 =>
  (M.lift ((eqV (.sc .int) true t9_9 (V.int .i64 0)).bind fun b => some (.bool !b))).bind fun t10_10 =>
  (condV t10_10
   ((M.ret (s0_8.getD 1 V.undef)).bind fun t13_11 =>
  (M.lift (arithV .rem t13_11 (V.int .i64 10))).bind fun t14_12 =>
  (M.ret t14_12).bind fun t5_13 =>
  (M.ret t5_13).bind fun t15_14 =>
  (M.lift (arithV .lss t15_14 (V.int .i64 0))).bind fun t16_15 =>
  (condV t16_15
   ((M.ret t5_13).bind fun t17_30 =>
  (M.lift (unV .neg t17_30)).bind fun t18_31 =>
  (M.ret t18_31).bind fun t5_32 =>
  ferry_ferryref25_Number_j1 G call s0_8 t5_32)
   (ferry_ferryref25_Number_j1 G call s0_8 t5_13)))
   (M.ret ((Ex.exit 0), [(s0_8.getD 0 V.undef), (s0_8.getD 1 V.undef)])))

noncomputable def ferry_ferryref25_Number (G : Nat → Option (List V)) (call : FuncId → List V → M V) (x0 : V) : M R :=
  (M.ret (V.str ⟨#[]⟩)).bind fun t2_1 =>
  (M.ret x0).bind fun t6_2 =>
  (M.lift ((eqV (.sc .int) true t6_2 (V.int .i64 0)).bind fun b => some (.bool b))).bind fun t7_3 =>
  (condV t7_3
   ((M.ret (V.str ⟨#[48]⟩)).bind fun t2_4 =>
  M.ret (Ex.ret, [t2_4]))
   ((M.ret (V.str ⟨#[]⟩)).bind fun t3_5 =>
  (M.ret x0).bind fun t8_6 =>
  (M.ret t8_6).bind fun t4_7 =>
  (loopV (ferry_ferryref25_Number_l1 G call) [t3_5, t4_7]).bind fun r0_33 => match r0_33.1 with
  | .normal => M.fail
  | .exit k0_34 =>
    (if k0_34 = 0 then
    (M.ret x0).bind fun t26_35 =>
    (M.lift (arithV .lss t26_35 (V.int .i64 0))).bind fun t27_36 =>
    (condV t27_36
     ((M.ret (r0_33.2.getD 0 V.undef)).bind fun t28_37 =>
    (M.lift (arithV .add (V.str ⟨#[45]⟩) t28_37)).bind fun t29_38 =>
    (M.ret t29_38).bind fun t2_39 =>
    M.ret (Ex.ret, [t2_39]))
     ((M.ret (r0_33.2.getD 0 V.undef)).bind fun t30_40 =>
    (M.ret t30_40).bind fun t2_41 =>
    M.ret (Ex.ret, [t2_41])))
    else M.fail)
  | .ret =>
    M.ret (Ex.ret, [t2_1])))

theorem ferry_ferryref25_Number_eq (G : Nat → Option (List V)) (n : Nat) (x0 : V) : sem (cfg G) (n + 1) 74 [x0] = outV (ferry_ferryref25_Number G (sem (cfg G) n) x0) :=
  (fnV_at (C := cfg G) (n := n) (f := 74) (fn := Tryd.f74) (c := Tryd.f74.body.getD .skip) (by kernel_rfl) (by kernel_rfl) (by kernel_rfl) [x0]).trans (by kernel_rfl)

noncomputable def ferry_ferryref27_nth_j1 (G : Nat → Option (List V)) (call : FuncId → List V → M V) (s0_6 : List V) (j6_17 : V) (j5_27 : V) : M R :=
  (M.ret (s0_6.getD 2 V.undef)).bind fun t13_28 =>
  (M.lift (arithV .add t13_28 (V.int .i64 1))).bind fun t14_29 =>
  (M.ret t14_29).bind fun t7_30 =>
  M.ret (Ex.normal, [j6_17, j5_27, t7_30])

noncomputable def ferry_ferryref27_nth_l1 (G : Nat → Option (List V)) (call : FuncId → List V → M V) (x0 : V) (x1 : V) (s0_6 : List V) : M R :=
  (M.ret (s0_6.getD 2 V.undef)).bind fun t9_7 =>
  (M.ret x0).bind fun t10_8 =>
  (M.lift (lenS t10_8)).bind fun t11_9 =>
  (M.lift (arithV .lss t9_7 t11_9)).bind fun t12_10 =>
  (condV t12_10
   ((M.ret x0).bind fun t15_11 =>
  (M.ret (s0_6.getD 2 V.undef)).bind fun t16_12 =>
  (M.lift (indexS t15_11 t16_12)).bind fun t17_13 =>
  (M.lift ((eqV (.sc .int) true t17_13 (V.int .u8 32)).bind fun b => some (.bool b))).bind fun t18_14 =>
  (condV t18_14
   ((M.ret (s0_6.getD 0 V.undef)).bind fun t19_31 =>
  (M.lift (arithV .add t19_31 (V.int .i64 1))).bind fun t20_32 =>
  (M.ret t20_32).bind fun t6_33 =>
  ferry_ferryref27_nth_j1 G call s0_6 t6_33 (s0_6.getD 1 V.undef))
   ((M.ret (s0_6.getD 0 V.undef)).bind fun t21_34 =>
  (M.ret x1).bind fun t22_35 =>
  (M.lift ((eqV (.sc .int) false t21_34 t22_35).bind fun b => some (.bool b))).bind fun t23_36 =>
  (condV t23_36
   ((M.ret (s0_6.getD 1 V.undef)).bind fun t24_44 =>
  (M.ret x0).bind fun t25_45 =>
  (M.ret (s0_6.getD 2 V.undef)).bind fun t26_46 =>
  (M.lift (indexS t25_45 t26_46)).bind fun t27_47 =>
  (sliceV 1 1 [(V.int .u8 0)] [(0, t27_47)]).bind fun t28_48 =>
  (appV 1 1 t24_44 t28_48).bind fun t29_49 =>
  (M.ret t29_49).bind fun t5_50 =>
  ferry_ferryref27_nth_j1 G call s0_6 (s0_6.getD 0 V.undef) t5_50)
   (ferry_ferryref27_nth_j1 G call s0_6 (s0_6.getD 0 V.undef) (s0_6.getD 1 V.undef))))))
   (M.ret ((Ex.exit 0), [(s0_6.getD 0 V.undef), (s0_6.getD 1 V.undef), (s0_6.getD 2 V.undef)])))

noncomputable def ferry_ferryref27_nth (G : Nat → Option (List V)) (call : FuncId → List V → M V) (x0 : V) (x1 : V) : M R :=
  (M.ret (V.str ⟨#[]⟩)).bind fun t4_1 =>
  (sliceV 1 0 [(V.int .u8 0)] []).bind fun t8_2 =>
  (M.ret t8_2).bind fun t5_3 =>
  (M.ret (V.int .i64 0)).bind fun t6_4 =>
  (M.ret (V.int .i64 0)).bind fun t7_5 =>
  (loopV (ferry_ferryref27_nth_l1 G call x0 x1) [t6_4, t5_3, t7_5]).bind fun r0_51 => match r0_51.1 with
  | .normal => M.fail
  | .exit k0_52 =>
    (if k0_52 = 0 then
    (M.ret (r0_51.2.getD 1 V.undef)).bind fun t30_53 =>
    (readBytes t30_53).bind fun t31_54 =>
    (M.ret t31_54).bind fun t4_55 =>
    M.ret (Ex.ret, [t4_55])
    else M.fail)
  | .ret =>
    M.ret (Ex.ret, [t4_1])

theorem ferry_ferryref27_nth_eq (G : Nat → Option (List V)) (n : Nat) (x0 : V) (x1 : V) : sem (cfg G) (n + 1) 131 [x0, x1] = outV (ferry_ferryref27_nth G (sem (cfg G) n) x0 x1) :=
  (fnV_at (C := cfg G) (n := n) (f := 131) (fn := Tryd.f131) (c := Tryd.f131.body.getD .skip) (by kernel_rfl) (by kernel_rfl) (by kernel_rfl) [x0, x1]).trans (by kernel_rfl)

noncomputable def ferry_ferryref27_Word (G : Nat → Option (List V)) (call : FuncId → List V → M V) (x0 : V) : M R :=
  (M.ret (V.str ⟨#[]⟩)).bind fun t2_1 =>
  (M.ret (V.str ⟨#[111, 107, 32, 115, 104, 111, 114, 116, 32, 114, 101, 115, 116, 32, 116, 97, 103, 32, 114, 97, 110, 103, 101, 32, 108, 101, 110, 103, 116, 104, 32, 115, 117, 109, 32, 107, 105, 110, 100, 32, 112, 108, 97, 110, 32, 115, 116, 97, 116, 101, 32, 98, 97, 115, 101, 32, 115, 105, 122, 101, 32, 97, 114, 103, 117, 109, 101, 110, 116, 32, 101, 110, 100, 32, 98, 117, 115, 121, 32, 100, 111, 119, 110, 32, 108, 111, 115, 116, 32, 110, 111, 110, 101, 32, 116, 101, 120, 116, 32, 115, 116, 111, 112, 32, 100, 105, 118, 105, 100, 101]⟩)).bind fun t3_2 =>
  (M.ret x0).bind fun t4_3 =>
  (M.lift (arithV .lss t4_3 (V.int .i64 0))).bind fun t5_4 =>
  (M.ret t5_4).bind fun t6_5 =>
  (guardV t6_5 false (M.ret x0)).bind fun t7_6 =>
  (guardV t6_5 false (M.lift (arithV .gtr t7_6 (V.int .i64 20)))).bind fun t8_7 =>
  (M.lift (pickV t6_5 (V.bool true) t8_7)).bind fun t9_8 =>
  (condV t9_8
   ((M.ret x0).bind fun t10_9 =>
  (callV (cfg G) call 74 [t10_9]).bind fun t11_10 =>
  (M.lift (arithV .add (V.str ⟨#[101, 114, 114, 111, 114, 32]⟩) t11_10)).bind fun t12_11 =>
  (M.ret t12_11).bind fun t2_12 =>
  M.ret (Ex.ret, [t2_12]))
   ((M.ret t3_2).bind fun t13_13 =>
  (M.ret x0).bind fun t14_14 =>
  (callV (cfg G) call 131 [t13_13, t14_14]).bind fun t15_15 =>
  (M.ret t15_15).bind fun t2_16 =>
  M.ret (Ex.ret, [t2_16])))

theorem ferry_ferryref27_Word_eq (G : Nat → Option (List V)) (n : Nat) (x0 : V) : sem (cfg G) (n + 1) 73 [x0] = outV (ferry_ferryref27_Word G (sem (cfg G) n) x0) :=
  (fnV_at (C := cfg G) (n := n) (f := 73) (fn := Tryd.f73) (c := Tryd.f73.body.getD .skip) (by kernel_rfl) (by kernel_rfl) (by kernel_rfl) [x0]).trans (by kernel_rfl)

noncomputable def ferry_run_listed (G : Nat → Option (List V)) (call : FuncId → List V → M V) (x0 : V) (x1 : V) (x2 : V) : M R :=
  (M.ret (V.str ⟨#[]⟩)).bind fun t6_1 =>
  (M.ret x1).bind fun t7_2 =>
  (M.lift (arithV .geq t7_2 (V.int .i64 0))).bind fun t8_3 =>
  (M.ret t8_3).bind fun t9_4 =>
  (guardV t9_4 true (M.ret x1)).bind fun t10_5 =>
  (guardV t9_4 true (M.ret x0)).bind fun t11_6 =>
  (guardV t9_4 true (M.lift (lenV t11_6))).bind fun t12_7 =>
  (guardV t9_4 true (M.lift (arithV .lss t10_5 t12_7))).bind fun t13_8 =>
  (M.lift (pickV t9_4 t13_8 (V.bool false))).bind fun t14_9 =>
  (M.ret t14_9).bind fun t15_10 =>
  (guardV t15_10 true (M.ret x0)).bind fun t16_11 =>
  (guardV t15_10 true (M.ret x1)).bind fun t17_12 =>
  (guardV t15_10 true (M.lift (idxV 1 t16_11 t17_12))).bind fun t18_13 =>
  (guardV t15_10 true (load1 t18_13)).bind fun t19_14 =>
  (guardV t15_10 true (M.lift ((eqV (.sc .str) true t19_14 (V.str ⟨#[]⟩)).bind fun b => some (.bool !b)))).bind fun t20_15 =>
  (M.lift (pickV t15_10 t20_15 (V.bool false))).bind fun t21_16 =>
  (condV t21_16
   ((M.ret x0).bind fun t22_17 =>
  (M.ret x1).bind fun t23_18 =>
  (M.lift (idxV 1 t22_17 t23_18)).bind fun t24_19 =>
  (load1 t24_19).bind fun t25_20 =>
  (M.ret t25_20).bind fun t6_21 =>
  M.ret (Ex.ret, [t6_21]))
   ((M.ret x2).bind fun t26_22 =>
  (M.lift (arithV .add t26_22 (V.str ⟨#[32]⟩))).bind fun t27_23 =>
  (M.ret x1).bind fun t28_24 =>
  (callV (cfg G) call 127 [t28_24]).bind fun t29_25 =>
  (M.lift (arithV .add t27_23 t29_25)).bind fun t30_26 =>
  (M.ret t30_26).bind fun t6_27 =>
  M.ret (Ex.ret, [t6_27])))

theorem ferry_run_listed_eq (G : Nat → Option (List V)) (n : Nat) (x0 : V) (x1 : V) (x2 : V) : sem (cfg G) (n + 1) 128 [x0, x1, x2] = outV (ferry_run_listed G (sem (cfg G) n) x0 x1 x2) :=
  (fnV_at (C := cfg G) (n := n) (f := 128) (fn := Tryd.f128) (c := Tryd.f128.body.getD .skip) (by kernel_rfl) (by kernel_rfl) (by kernel_rfl) [x0, x1, x2]).trans (by kernel_rfl)

noncomputable def ferry_run_Word (G : Nat → Option (List V)) (call : FuncId → List V → M V) (x0 : V) : M R :=
  (M.ret (V.str ⟨#[]⟩)).bind fun t2_1 =>
  (sliceV 1 21 [(V.str ⟨#[]⟩)] [(0, (V.str ⟨#[111, 107]⟩)), (1, (V.str ⟨#[115, 104, 111, 114, 116]⟩)), (2, (V.str ⟨#[114, 101, 115, 116]⟩)), (3, (V.str ⟨#[116, 97, 103]⟩)), (4, (V.str ⟨#[114, 97, 110, 103, 101]⟩)), (5, (V.str ⟨#[108, 101, 110, 103, 116, 104]⟩)), (6, (V.str ⟨#[115, 117, 109]⟩)), (7, (V.str ⟨#[107, 105, 110, 100]⟩)), (8, (V.str ⟨#[112, 108, 97, 110]⟩)), (9, (V.str ⟨#[115, 116, 97, 116, 101]⟩)), (10, (V.str ⟨#[98, 97, 115, 101]⟩)), (11, (V.str ⟨#[115, 105, 122, 101]⟩)), (12, (V.str ⟨#[97, 114, 103, 117, 109, 101, 110, 116]⟩)), (13, (V.str ⟨#[101, 110, 100]⟩)), (14, (V.str ⟨#[98, 117, 115, 121]⟩)), (15, (V.str ⟨#[100, 111, 119, 110]⟩)), (16, (V.str ⟨#[108, 111, 115, 116]⟩)), (17, (V.str ⟨#[110, 111, 110, 101]⟩)), (18, (V.str ⟨#[116, 101, 120, 116]⟩)), (19, (V.str ⟨#[115, 116, 111, 112]⟩)), (20, (V.str ⟨#[100, 105, 118, 105, 100, 101]⟩))]).bind fun t3_2 =>
  (M.ret x0).bind fun t4_3 =>
  (callV (cfg G) call 128 [t3_2, t4_3, (V.str ⟨#[101, 114, 114, 111, 114]⟩)]).bind fun t5_4 =>
  (M.ret t5_4).bind fun t2_5 =>
  M.ret (Ex.ret, [t2_5])

theorem ferry_run_Word_eq (G : Nat → Option (List V)) (n : Nat) (x0 : V) : sem (cfg G) (n + 1) 68 [x0] = outV (ferry_run_Word G (sem (cfg G) n) x0) :=
  (fnV_at (C := cfg G) (n := n) (f := 68) (fn := Tryd.f68) (c := Tryd.f68.body.getD .skip) (by kernel_rfl) (by kernel_rfl) (by kernel_rfl) [x0]).trans (by kernel_rfl)

noncomputable def strconv_Itoa (G : Nat → Option (List V)) (call : FuncId → List V → M V) (x0 : V) : M R :=
  (M.ret (V.str ⟨#[]⟩)).bind fun t2_1 =>
  (M.ret x0).bind fun t3_2 =>
  (callV (cfg G) call 173 [t3_2]).bind fun t4_3 =>
  (M.ret t4_3).bind fun t2_4 =>
  M.ret (Ex.ret, [t2_4])

theorem strconv_Itoa_eq (G : Nat → Option (List V)) (n : Nat) (x0 : V) : sem (cfg G) (n + 1) 127 [x0] = outV (strconv_Itoa G (sem (cfg G) n) x0) :=
  (fnV_at (C := cfg G) (n := n) (f := 127) (fn := Tryd.f127) (c := Tryd.f127.body.getD .skip) (by kernel_rfl) (by kernel_rfl) (by kernel_rfl) [x0]).trans (by kernel_rfl)

end Go.Fv.Tr

/-
  The Go functions ferry/ferryref09.copied as plain terms. By an AI agent; no person has read it.
-/
import Derived.Test.YtjjiphigolegbabGreatDoorFvCf
set_option linter.unusedVariables false
set_option linter.unusedSimpArgs false
set_option linter.unusedSectionVars false
/-! The Go functions ferry/ferryref09.copied as plain terms. -/
namespace Go.Fv.Tr
open Go Go.Fv Go.Proofs
set_option linter.unusedVariables false

noncomputable def ferry_ferryref09_copied (G : Nat → Option (List V)) (call : FuncId → List V → M V) (x0 : V) : M R :=
  (newV x0).bind fun t1_1 =>
  (newV (.agg [V.nils, V.nils, V.nils])).bind fun t2_2 =>
  (getN.bind fun n_3 =>
  (sliceV 21 0 [(V.int .u32 0), (V.int .u32 0), (V.int .u32 0), (V.int .u32 0), (V.int .u32 0), (V.int .u32 0), (V.int .u32 0), (V.int .u32 0), (V.int .u32 0), (V.int .u32 0), (V.int .u32 0), (V.int .u32 0), (V.int .u32 0), (V.int .u32 0), (V.int .u32 0), (V.int .u32 0), (V.int .u32 0), (V.int .i64 0), (V.int .i64 0), (V.int .i64 0), (V.int .i64 0)] []).bind fun y0_4 =>
  getN.bind fun n_5 =>
  (M.lift (padd 0 t1_1)).bind fun y1_6 =>
  getN.bind fun n_7 =>
  (load1 y1_6).bind fun y2_8 =>
  getN.bind fun n_9 =>
  (qrun (visB n_3 [(n_7, n_9, true), (n_5, n_7, true), (n_3, n_5, true)]) (appV 21 104 y0_4 y2_8)).bind fun y3_10 =>
  getN.bind fun n_11 =>
  (sliceV 1 0 [(V.int .i64 0)] []).bind fun y4_12 =>
  getN.bind fun n_13 =>
  (M.lift (padd 1 t1_1)).bind fun y5_14 =>
  getN.bind fun n_15 =>
  (load1 y5_14).bind fun y6_16 =>
  getN.bind fun n_17 =>
  (qrun (visB n_3 [(n_15, n_17, true), (n_13, n_15, true), (n_11, n_13, true), (n_9, n_11, true), (n_7, n_9, true), (n_5, n_7, true), (n_3, n_5, true)]) (appV 1 8 y4_12 y6_16)).bind fun y7_18 =>
  getN.bind fun n_19 =>
  (sliceV 2 0 [(V.int .i64 0), (V.int .i64 0)] []).bind fun y8_20 =>
  getN.bind fun n_21 =>
  (M.lift (padd 2 t1_1)).bind fun y9_22 =>
  getN.bind fun n_23 =>
  (load1 y9_22).bind fun y10_24 =>
  getN.bind fun n_25 =>
  (trun (visB n_3 [(n_23, n_25, true), (n_21, n_23, true), (n_19, n_21, true), (n_17, n_19, true), (n_15, n_17, true), (n_13, n_15, true), (n_11, n_13, true), (n_9, n_11, true), (n_7, n_9, true), (n_5, n_7, true), (n_3, n_5, true)]) (appV 2 16 y8_20 y10_24)).bind fun y11_26 =>
  (M.lift (buildV [V.nils, V.nils, V.nils] [(0, 1, y3_10), (1, 1, y7_18), (2, 1, y11_26)])).bind fun y12_27 =>
  (storeN 3 t2_2 y12_27).bind fun _ =>
  (((loadN 3 t2_2)).bind fun v => (M.ret []).bind fun l => M.ret (v :: l)).bind fun l => M.ret (Ex.ret, tupV l))

theorem ferry_ferryref09_copied_eq (G : Nat → Option (List V)) (n : Nat) (x0 : V) : sem (cfg G) (n + 1) 30 [x0] = outV (ferry_ferryref09_copied G (sem (cfg G) n) x0) :=
  (fnV_at (C := cfg G) (n := n) (f := 30) (fn := Tryz.f30) (c := Tryz.f30.body.getD .skip) (by kernel_rfl) (by kernel_rfl) (by kernel_rfl) [x0]).trans (by kernel_rfl)

end Go.Fv.Tr

/-
  The Go functions ferry/sys.Do, (*ferry/sys.caller).yield, (*ferry/sys.caller).stop, (*ferr By an AI agent; no person has read it.
-/
import Derived.Test.YtekncgjkocgioaaGreatDoorFvP37
set_option linter.unusedVariables false
set_option linter.unusedSimpArgs false
set_option linter.unusedSectionVars false
/-! The Go functions ferry/sys.Do, (*ferry/sys.caller).yield, (*ferry/sys.caller).stop, (*ferr -/
namespace Go.Fv.Tr
open Go Go.Fv Go.Proofs
set_option maxRecDepth 20000
noncomputable def ferry_sys_Do (G : GV) (call : CV) (x0 : V) (x1 : V) (x2 : V) (x3 : V) (x4 : V) : M R :=
  (newV x0).bind fun aA =>
  (newV x1).bind fun aB =>
  (newV (.agg [(V.int .i64 0), (V.int .i64 0), (V.int .i64 0), V.nils, V.nils, V.nils, V.nils, V.nils, V.nils, V.nils, V.nils, (V.int .i64 0)])).bind fun aC =>
  (M.ret V.nili).bind fun aD =>
  (loadN 7 aA).bind fun aE =>
  (loadN 10 aB).bind fun aF =>
  (callV (cfg G) call 17 [aE, aF]).bind fun aG =>
  (M.ret aG).bind fun aH =>
  (M.ret aH).bind fun aI =>
  (M.lift ((eqV .iface true aI V.nili).bind fun b => some (.bool !b))).bind fun aJ =>
  (condV aJ
   ((M.lift (buildV [(V.int .i64 0), (V.int .i64 0), (V.int .i64 0), V.nils, V.nils, V.nils, V.nils, V.nils, V.nils, V.nils, V.nils, (V.int .i64 0)] [])).bind fun aK =>
  (M.ret aH).bind fun aL =>
  (storeN 12 aC aK).bind fun _ =>
  (M.ret aL).bind fun aM =>
  (((loadN 12 aC)).bind fun v => ((M.ret []).bind fun l => M.ret (aM :: l)).bind fun l => M.ret (v :: l)).bind fun l => M.ret (Ex.ret, tupV l))
   ((M.ret x2).bind fun aN =>
  (M.lift (arithV .lss aN (V.int .i64 0))).bind fun aO =>
  (M.ret aO).bind fun aP =>
  (guardV aP false (M.ret x2)).bind fun aQ =>
  (guardV aP false (M.lift (padd 3 aB))).bind fun aR =>
  (guardV aP false (load1 aR)).bind fun aS =>
  (guardV aP false (M.lift (lenV aS))).bind fun aT =>
  (guardV aP false (M.lift (arithV .geq aQ aT))).bind fun aU =>
  (M.lift (pickV aP (V.bool true) aU)).bind fun aV =>
  (M.ret aV).bind fun aW =>
  (guardV aW false (M.lift (padd 3 aB))).bind fun aX =>
  (guardV aW false (load1 aX)).bind fun aY =>
  (guardV aW false (M.ret x2)).bind fun aZ =>
  (guardV aW false (M.lift (idxV 21 aY aZ))).bind fun bA =>
  (guardV aW false (M.lift (padd 17 bA))).bind fun bB =>
  (guardV aW false (load1 bB)).bind fun bC =>
  (guardV aW false (M.lift ((eqV (.sc .int) true bC (V.int .i64 1)).bind fun b => some (.bool !b)))).bind fun bD =>
  (M.lift (pickV aW (V.bool true) bD)).bind fun bE =>
  (M.ret bE).bind fun bF =>
  (guardV bF false (M.ret x4)).bind fun bG =>
  (guardV bF false (M.lift (arithV .lss bG (V.int .i64 0)))).bind fun bH =>
  (M.lift (pickV bF (V.bool true) bH)).bind fun bI =>
  (M.ret bI).bind fun bJ =>
  (guardV bJ false (M.ret x4)).bind fun bK =>
  (guardV bJ false (M.lift (arithV .gtr bK (V.int .i64 10000)))).bind fun bL =>
  (M.lift (pickV bJ (V.bool true) bL)).bind fun bM =>
  (condV bM
   (((M.lift (buildV [(V.int .i64 0), (V.int .i64 0), (V.int .i64 0), V.nils, V.nils, V.nils, V.nils, V.nils, V.nils, V.nils, V.nils, (V.int .i64 0)] [])).bind fun bN =>
  (load1 (glob (cfg G) 0)).bind fun bO =>
  guardM (apartV (glob (cfg G) 0) aC && true) (
  (storeN 12 aC bN).bind fun _ =>
  (M.ret bO).bind fun bP =>
  (((loadN 12 aC)).bind fun v => ((M.ret []).bind fun l => M.ret (bP :: l)).bind fun l => M.ret (v :: l)).bind fun l => M.ret (Ex.ret, tupV l))))
   ((callV (cfg G) call 26 []).bind fun bQ =>
  (M.ret bQ).bind fun bR =>
  (M.ret x3).bind fun bS =>
  (M.lift (arithV .lss bS (V.int .i64 0))).bind fun bT =>
  (M.ret bT).bind fun bU =>
  (guardV bU false (M.ret x3)).bind fun bV =>
  (guardV bU false (M.ret bR)).bind fun bW =>
  (guardV bU false (M.lift (lenV bW))).bind fun bX =>
  (guardV bU false (M.lift (arithV .geq bV bX))).bind fun bY =>
  (M.lift (pickV bU (V.bool true) bY)).bind fun bZ =>
  (condV bZ
   ((loadN 10 aB).bind fun cA =>
  (callV (cfg G) call 27 [cA]).bind fun cB =>
  (M.lift (buildV [(V.int .i64 0), (V.int .i64 0), (V.int .i64 0), V.nils, V.nils, V.nils, V.nils, V.nils, V.nils, V.nils, V.nils, (V.int .i64 0)] [(0, 10, cB), (11, 1, (V.int .i64 8))])).bind fun cC =>
  (storeN 12 aC cC).bind fun _ =>
  (M.ret V.nili).bind fun cD =>
  (((loadN 12 aC)).bind fun v => ((M.ret []).bind fun l => M.ret (cD :: l)).bind fun l => M.ret (v :: l)).bind fun l => M.ret (Ex.ret, tupV l))
   ((getN.bind fun cE =>
  (loadN 7 aA).bind fun cF =>
  getN.bind fun cG =>
  (loadN 10 aB).bind fun cH =>
  getN.bind fun cI =>
  (qrun (visB cE [(cG,cI,true),(cE, cG, false)]) (callV (cfg G) call 27 [cH])).bind fun cJ =>
  (M.ret x2).bind fun cK =>
  (M.ret x4).bind fun cL =>
  (M.lift (buildV [(V.int .i64 0), (V.bool false), V.nils, V.nils, V.nils, (V.int .i64 0), V.nils, (V.int .i64 0), (V.int .i64 0), (V.int .i64 0), V.nils, V.nils, V.nils, V.nils, V.nils, V.nils, V.nils, (V.int .i64 0), (V.int .i64 0), V.nils, (V.int .i64 0)] [(0, 7, cF), (7, 10, cJ), (17, 1, cK), (18, 1, cL)])).bind fun cM =>
  (newV cM).bind fun cN =>
  (M.ret cN).bind fun cO =>
  (M.ret bR).bind fun cP =>
  (M.ret x3).bind fun cQ =>
  (M.lift (idxV 3 cP cQ)).bind fun cR =>
  (M.lift (padd 2 cR)).bind fun cS =>
  (load1 cS).bind fun cT =>
  (M.ret cO).bind fun cU =>
  (callFn (cfg G) call cT [cU]).bind fun cV =>
  (M.ret cO).bind fun cW =>
  (M.lift (nilCheckV cW)).bind fun cX =>
  (M.lift (padd 20 cX)).bind fun cY =>
  (load1 cY).bind fun cZ =>
  (M.lift ((eqV (.sc .int) true cZ (V.int .i64 0)).bind fun b => some (.bool !b))).bind fun dA =>
  (condV dA
   ((getN.bind fun dB =>
  (loadN 10 aB).bind fun dC =>
  getN.bind fun dD =>
  (qrun (visB dB [(dB, dD, true)]) (callV (cfg G) call 27 [dC])).bind fun dE =>
  (M.ret cO).bind fun dF =>
  (M.lift (nilCheckV dF)).bind fun dG =>
  (M.lift (padd 20 dG)).bind fun dH =>
  (load1 dH).bind fun dI =>
  (M.lift (buildV [(V.int .i64 0), (V.int .i64 0), (V.int .i64 0), V.nils, V.nils, V.nils, V.nils, V.nils, V.nils, V.nils, V.nils, (V.int .i64 0)] [(0, 10, dE), (11, 1, dI)])).bind fun dJ =>
  (storeN 12 aC dJ).bind fun _ =>
  (M.ret V.nili).bind fun dK =>
  (((loadN 12 aC)).bind fun v => ((M.ret []).bind fun l => M.ret (dK :: l)).bind fun l => M.ret (v :: l)).bind fun l => M.ret (Ex.ret, tupV l)))
   (((M.ret cO).bind fun dL =>
  (M.lift (nilCheckV dL)).bind fun dM =>
  (M.lift (padd 7 dM)).bind fun dN =>
  (loadN 10 dN).bind fun dO =>
  (M.ret cO).bind fun dP =>
  (M.lift (nilCheckV dP)).bind fun dQ =>
  (M.lift (padd 19 dQ)).bind fun dR =>
  (load1 dR).bind fun dS =>
  (M.lift (buildV [(V.int .i64 0), (V.int .i64 0), (V.int .i64 0), V.nils, V.nils, V.nils, V.nils, V.nils, V.nils, V.nils, V.nils, (V.int .i64 0)] [(0, 10, dO), (10, 1, dS)])).bind fun dT =>
  (storeN 12 aC dT).bind fun _ =>
  (M.ret V.nili).bind fun dU =>
  (((loadN 12 aC)).bind fun v => ((M.ret []).bind fun l => M.ret (dU :: l)).bind fun l => M.ret (v :: l)).bind fun l => M.ret (Ex.ret, tupV l)))))))))))
theorem ferry_sys_Do_eq (G:GV) (n:Nat) (x0:V) (x1:V) (x2:V) (x3:V) (x4:V):sem (cfg G) (n + 1) 10 [x0,x1,x2,x3,x4] = outV (ferry_sys_Do G (sem (cfg G) n) x0 x1 x2 x3 x4) :=
 (fnV_at (C:=cfg G) (n:=n) (f:=10) (fn:=Tryz.f10) (c:=Tryz.f10.body.getD .skip) (by kernel_rfl) (by kernel_rfl) (by kernel_rfl) [x0,x1,x2,x3,x4]).trans (by kernel_rfl)
noncomputable def ferry_sys_caller_set (G : GV) (call : CV) (x0 : V) : M R :=
  (M.ret x0).bind fun aA =>
  (M.ret x0).bind fun aB =>
  (M.lift (nilCheckV aB)).bind fun aC =>
  (M.lift (padd 0 aC)).bind fun aD =>
  (M.lift (padd 5 aD)).bind fun aE =>
  (load1 aE).bind fun aF =>
  (callV (cfg G) call 87 [aA, aF]).bind fun aG =>
  (M.ret aG).bind fun aH =>
  (M.lift (extractV aH 0)).bind fun aI =>
  (M.lift (extractV aH 1)).bind fun aJ =>
  (M.ret aI).bind fun aK =>
  (M.ret aJ).bind fun aL =>
  (M.ret aL).bind fun aM =>
  (M.lift (unV .not aM)).bind fun aN =>
  (condV aN
   (M.ret (Ex.ret, [V.tuple []]))
   ((M.ret x0).bind fun aO =>
  (M.lift (nilCheckV aO)).bind fun aP =>
  (M.lift (padd 7 aP)).bind fun aQ =>
  (M.lift (padd 6 aQ)).bind fun aR =>
  (load1 aR).bind fun aS =>
  (M.ret aK).bind fun aT =>
  (M.lift (idxV 1 aS aT)).bind fun aU =>
  (storeN 1 aU (V.bool true)).bind fun _ =>
  (M.ret x0).bind fun aV =>
  (M.ret x0).bind fun aW =>
  (callV (cfg G) call 85 [aW]).bind fun aX =>
  (M.ret aK).bind fun aY =>
  (callV (cfg G) call 92 [aX, (V.int .i64 2), aY, (V.int .u32 0)]).bind fun aZ =>
  (M.lift (extractV aZ 0)).bind fun bA =>
  (M.lift (extractV aZ 1)).bind fun bB =>
  (callV (cfg G) call 83 [aV, bA, bB]).bind fun bC =>
  (M.ret x0).bind fun bD =>
  (callV (cfg G) call 82 [bD, (V.int .u32 0)]).bind fun bE =>
  M.ret (Ex.ret, [V.tuple []])))
theorem ferry_sys_caller_set_eq (G:GV) (n:Nat) (x0:V):sem (cfg G) (n + 1) 46 [x0] = outV (ferry_sys_caller_set G (sem (cfg G) n) x0) :=
 (fnV_at (C:=cfg G) (n:=n) (f:=46) (fn:=Tryz.f46) (c:=Tryz.f46.body.getD .skip) (by kernel_rfl) (by kernel_rfl) (by kernel_rfl) [x0]).trans (by kernel_rfl)
noncomputable def ferry_sys_caller_await (G : GV) (call : CV) (x0 : V) : M R :=
  (M.ret x0).bind fun aA =>
  (M.ret x0).bind fun aB =>
  (M.lift (nilCheckV aB)).bind fun aC =>
  (M.lift (padd 0 aC)).bind fun aD =>
  (M.lift (padd 5 aD)).bind fun aE =>
  (load1 aE).bind fun aF =>
  (callV (cfg G) call 87 [aA, aF]).bind fun aG =>
  (M.ret aG).bind fun aH =>
  (M.lift (extractV aH 0)).bind fun aI =>
  (M.lift (extractV aH 1)).bind fun aJ =>
  (M.ret aI).bind fun aK =>
  (M.ret aJ).bind fun aL =>
  (M.ret aL).bind fun aM =>
  (M.lift (unV .not aM)).bind fun aN =>
  (M.ret aN).bind fun aO =>
  (guardV aO false (M.ret x0)).bind fun aP =>
  (guardV aO false (callV (cfg G) call 93 [aP])).bind fun aQ =>
  (guardV aO false (M.lift (unV .not aQ))).bind fun aR =>
  (M.lift (pickV aO (V.bool true) aR)).bind fun aS =>
  (condV aS
   (M.ret (Ex.ret, [V.tuple []]))
   ((M.ret x0).bind fun aT =>
  (M.lift (nilCheckV aT)).bind fun aU =>
  (M.lift (padd 7 aU)).bind fun aV =>
  (M.lift (padd 6 aV)).bind fun aW =>
  (load1 aW).bind fun aX =>
  (M.ret aK).bind fun aY =>
  (M.lift (idxV 1 aX aY)).bind fun aZ =>
  (load1 aZ).bind fun bA =>
  (condV bA
   ((M.ret x0).bind fun bB =>
  (callV (cfg G) call 82 [bB, (V.int .u32 0)]).bind fun bC =>
  M.ret (Ex.ret, [V.tuple []]))
   ((M.ret x0).bind fun bD =>
  (M.ret aK).bind fun bE =>
  (callV (cfg G) call 94 [bD, (V.int .i64 2), bE]).bind fun bF =>
  M.ret (Ex.ret, [V.tuple []])))))
theorem ferry_sys_caller_await_eq (G:GV) (n:Nat) (x0:V):sem (cfg G) (n + 1) 48 [x0] = outV (ferry_sys_caller_await G (sem (cfg G) n) x0) :=
 (fnV_at (C:=cfg G) (n:=n) (f:=48) (fn:=Tryz.f48) (c:=Tryz.f48.body.getD .skip) (by kernel_rfl) (by kernel_rfl) (by kernel_rfl) [x0]).trans (by kernel_rfl)
noncomputable def ferry_sys_caller_answer (G:GV) (call:CV) (x0:V) (x1:V):M R :=
 ((M.ret x0).bind fun aA =>
 (M.lift (nilCheckV aA)).bind fun aB =>
 (M.lift (padd 7 aB)).bind fun aC =>
 (M.lift (padd 3 aC)).bind fun aD =>
 (load1 aD).bind fun aE =>
 (M.ret x0).bind fun aF =>
 (M.lift (nilCheckV aF)).bind fun aG =>
 (M.lift (padd 17 aG)).bind fun aH =>
 (load1 aH).bind fun aI =>
 (M.ret x1).bind fun aJ =>
 (M.lift (idxV 21 aE aI)).bind fun aK =>
 (M.lift (padd 0 aK)).bind fun aL =>
 (M.lift (aidxV 16 1 aL (V.int .i64 1))).bind fun aM =>
 (storeN 1 aM aJ).bind fun _ =>
 M.ret (Ex.ret,[V.tuple []]))
theorem ferry_sys_caller_answer_eq (G:GV) (n:Nat) (x0:V) (x1:V):sem (cfg G) (n + 1) 82 [x0,x1] = outV (ferry_sys_caller_answer G (sem (cfg G) n) x0 x1) :=
 (fnV_at (C:=cfg G) (n:=n) (f:=82) (fn:=Tryz.f82) (c:=Tryz.f82.body.getD .skip) (by kernel_rfl) (by kernel_rfl) (by kernel_rfl) [x0,x1]).trans (by kernel_rfl)
noncomputable def ferry_sys_caller_change (G : GV) (call : CV) (x0 : V) (x1 : V) (x2 : V) : M R :=
  (newV x1).bind fun aA =>
  (M.ret x2).bind fun aB =>
  (M.lift ((eqV .iface true aB V.nili).bind fun b => some (.bool b))).bind fun aC =>
  (condV aC
   ((getN.bind fun aD =>
  (M.ret x0).bind fun aE =>
  getN.bind fun aF =>
  (M.ret x0).bind fun aG =>
  getN.bind fun aH =>
  (M.lift (nilCheckV aG)).bind fun aI =>
  getN.bind fun aJ =>
  (M.lift (padd 7 aI)).bind fun aK =>
  getN.bind fun aL =>
  (loadN 10 aK).bind fun aM =>
  getN.bind fun aN =>
  (loadN 3 aA).bind fun aO =>
  getN.bind fun aP =>
  (qrun (visB aD [(aN,aP,true),(aL,aN,true),(aJ,aL,true),(aH,aJ,true),(aF,aH,true),(aD, aF, false)]) (callV (cfg G) call 132 [aM, aO])).bind fun aQ =>
  (M.lift (nilCheckV aE)).bind fun aR =>
  (M.lift (padd 7 aR)).bind fun aS =>
  (storeN 10 aS aQ).bind fun _ =>
  M.ret (Ex.ret, [V.tuple []])))
   (M.ret (Ex.ret, [V.tuple []])))
theorem ferry_sys_caller_change_eq (G:GV) (n:Nat) (x0:V) (x1:V) (x2:V):sem (cfg G) (n + 1) 83 [x0,x1,x2] = outV (ferry_sys_caller_change G (sem (cfg G) n) x0 x1 x2) :=
 (fnV_at (C:=cfg G) (n:=n) (f:=83) (fn:=Tryz.f83) (c:=Tryz.f83.body.getD .skip) (by kernel_rfl) (by kernel_rfl) (by kernel_rfl) [x0,x1,x2]).trans (by kernel_rfl)
noncomputable def ferry_sys_caller_table (G:GV) (call:CV) (x0:V):M R :=
 (newV (.agg [V.nils,V.nils,V.nils])).bind fun aA =>
 (M.ret x0).bind fun aB =>
 (M.lift (nilCheckV aB)).bind fun aC =>
 (M.lift (padd 7 aC)).bind fun aD =>
 (loadN 10 aD).bind fun aE =>
 (callV (cfg G) call 135 [aE]).bind fun aF =>
 (storeN 3 aA aF).bind fun _ =>
 (((loadN 3 aA)).bind fun v => (M.ret []).bind fun l => M.ret (v :: l)).bind fun l => M.ret (Ex.ret,tupV l)
theorem ferry_sys_caller_table_eq (G:GV) (n:Nat) (x0:V):sem (cfg G) (n + 1) 85 [x0] = outV (ferry_sys_caller_table G (sem (cfg G) n) x0) :=
 (fnV_at (C:=cfg G) (n:=n) (f:=85) (fn:=Tryz.f85) (c:=Tryz.f85.body.getD .skip) (by kernel_rfl) (by kernel_rfl) (by kernel_rfl) [x0]).trans (by kernel_rfl)
noncomputable def ferry_sys_caller_index (G : GV) (call : CV) (x0 : V) (x1 : V) : M R :=
  (M.ret (V.int .i64 0)).bind fun aA =>
  (M.ret (V.bool false)).bind fun aB =>
  (M.ret x0).bind fun aC =>
  (callV (cfg G) call 89 [aC, (V.int .i64 1)]).bind fun aD =>
  (M.ret aD).bind fun aE =>
  (M.ret aE).bind fun aF =>
  (M.lift (convI .u64 aF)).bind fun aG =>
  (M.ret x1).bind fun aH =>
  (M.lift (convI .u64 aH)).bind fun aI =>
  (M.lift (arithV .lss aG aI)).bind fun aJ =>
  (condV aJ
   ((M.ret aE).bind fun aK =>
  (M.lift (convI .i64 aK)).bind fun aL =>
  (M.ret aL).bind fun aM =>
  (M.ret (V.bool true)).bind fun aN =>
  M.ret (Ex.ret, [V.tuple [aM, aN]]))
   ((M.ret x0).bind fun aO =>
  (callV (cfg G) call 82 [aO, (V.int .u32 4294967295)]).bind fun aP =>
  (M.ret (V.int .i64 0)).bind fun aQ =>
  (M.ret (V.bool false)).bind fun aR =>
  M.ret (Ex.ret, [V.tuple [aQ, aR]])))
theorem ferry_sys_caller_index_eq (G:GV) (n:Nat) (x0:V) (x1:V):sem (cfg G) (n + 1) 87 [x0,x1] = outV (ferry_sys_caller_index G (sem (cfg G) n) x0 x1) :=
 (fnV_at (C:=cfg G) (n:=n) (f:=87) (fn:=Tryz.f87) (c:=Tryz.f87.body.getD .skip) (by kernel_rfl) (by kernel_rfl) (by kernel_rfl) [x0,x1]).trans (by kernel_rfl)
noncomputable def ferry_sys_caller_reg (G:GV) (call:CV) (x0:V) (x1:V):M R :=
 (M.ret (V.int .u32 0)).bind fun aA =>
 ((M.ret x0).bind fun aB =>
 (M.lift (nilCheckV aB)).bind fun aC =>
 (M.lift (padd 7 aC)).bind fun aD =>
 (M.lift (padd 3 aD)).bind fun aE =>
 (load1 aE).bind fun aF =>
 (M.ret x0).bind fun aG =>
 (M.lift (nilCheckV aG)).bind fun aH =>
 (M.lift (padd 17 aH)).bind fun aI =>
 (load1 aI).bind fun aJ =>
 (M.ret x1).bind fun aK =>
 (M.lift (idxV 21 aF aJ)).bind fun aL =>
 (M.lift (padd 0 aL)).bind fun aM =>
 (M.lift (aidxV 16 1 aM aK)).bind fun aN =>
 (load1 aN).bind fun aO =>
 (M.ret aO).bind fun aP =>
 M.ret (Ex.ret,[aP]))
theorem ferry_sys_caller_reg_eq (G:GV) (n:Nat) (x0:V) (x1:V):sem (cfg G) (n + 1) 89 [x0,x1] = outV (ferry_sys_caller_reg G (sem (cfg G) n) x0 x1) :=
 (fnV_at (C:=cfg G) (n:=n) (f:=89) (fn:=Tryz.f89) (c:=Tryz.f89.body.getD .skip) (by kernel_rfl) (by kernel_rfl) (by kernel_rfl) [x0,x1]).trans (by kernel_rfl)
noncomputable def ferry_sys_caller_timeout (G : GV) (call : CV) (x0 : V) : M R :=
  (M.ret (V.bool false)).bind fun aA =>
  (M.ret x0).bind fun aB =>
  (callV (cfg G) call 89 [aB, (V.int .i64 2)]).bind fun aC =>
  (M.ret aC).bind fun aD =>
  (M.ret aD).bind fun aE =>
  (M.lift (arithV .gtr aE (V.int .u32 1000000))).bind fun aF =>
  (M.ret aF).bind fun aG =>
  (guardV aG true (M.ret aD)).bind fun aH =>
  (guardV aG true (M.lift ((eqV (.sc .int) true aH (V.int .u32 4294967295)).bind fun b => some (.bool !b)))).bind fun aI =>
  (M.lift (pickV aG aI (V.bool false))).bind fun aJ =>
  (condV aJ
   ((M.ret x0).bind fun aK =>
  (callV (cfg G) call 82 [aK, (V.int .u32 4294967295)]).bind fun aL =>
  (M.ret (V.bool false)).bind fun aM =>
  M.ret (Ex.ret, [aM]))
   ((M.ret (V.bool true)).bind fun aN =>
  M.ret (Ex.ret, [aN])))
theorem ferry_sys_caller_timeout_eq (G:GV) (n:Nat) (x0:V):sem (cfg G) (n + 1) 93 [x0] = outV (ferry_sys_caller_timeout G (sem (cfg G) n) x0) :=
 (fnV_at (C:=cfg G) (n:=n) (f:=93) (fn:=Tryz.f93) (c:=Tryz.f93.body.getD .skip) (by kernel_rfl) (by kernel_rfl) (by kernel_rfl) [x0]).trans (by kernel_rfl)
noncomputable def ferry_sys_caller_wait (G : GV) (call : CV) (x0 : V) (x1 : V) (x2 : V) : M R :=
  (M.ret x0).bind fun aA =>
  (callV (cfg G) call 89 [aA, (V.int .i64 2)]).bind fun aB =>
  (M.ret aB).bind fun aC =>
  (M.ret aC).bind fun aD =>
  (M.lift ((eqV (.sc .int) true aD (V.int .u32 0)).bind fun b => some (.bool b))).bind fun aE =>
  (M.ret aE).bind fun aF =>
  (condV aF
   ((M.ret x0).bind fun aG =>
  (callV (cfg G) call 82 [aG, (V.int .u32 4294967294)]).bind fun aH =>
  M.ret (Ex.ret, [V.tuple []]))
   ((M.lift ((eqV (.sc .int) true aD (V.int .u32 4294967295)).bind fun b => some (.bool b))).bind fun aI =>
  (M.ret aI).bind fun aJ =>
  (condV aJ
   ((getN.bind fun aK =>
  (M.ret x0).bind fun aL =>
  getN.bind fun aM =>
  (M.ret x0).bind fun aN =>
  getN.bind fun aO =>
  (qrun (visB aK [(aM,aO,true),(aK, aM, false)]) (callV (cfg G) call 85 [aN])).bind fun aP =>
  getN.bind fun aQ =>
  (M.ret x0).bind fun aR =>
  getN.bind fun aS =>
  (M.lift (nilCheckV aR)).bind fun aT =>
  getN.bind fun aU =>
  (M.lift (padd 17 aT)).bind fun aV =>
  getN.bind fun aW =>
  (load1 aV).bind fun aX =>
  getN.bind fun aY =>
  (M.ret x1).bind fun aZ =>
  getN.bind fun bA =>
  (M.ret x2).bind fun bB =>
  getN.bind fun bC =>
  (qrun (visB aK [(bA,bC,true),(aY,bA,true),(aW,aY,true),(aU,aW,true),(aS,aU,true),(aQ,aS,true),(aO,aQ,true),(aM,aO,true),(aK, aM, false)]) (callV (cfg G) call 90 [aP, aX, aZ, bB, (V.int .i64 (-1))])).bind fun bD =>
  getN.bind fun bE =>
  (M.lift (extractV bD 0)).bind fun bF =>
  getN.bind fun bG =>
  (M.lift (extractV bD 1)).bind fun bH =>
  getN.bind fun bI =>
  (trun (visB aK [(bG,bI,true),(bE,bG,true),(bC,bE,true),(bA,bC,true),(aY,bA,true),(aW,aY,true),(aU,aW,true),(aS,aU,true),(aQ,aS,true),(aO,aQ,true),(aM,aO,true),(aK, aM, true)]) (callV (cfg G) call 83 [aL, bF, bH])).bind fun bJ =>
  M.ret (Ex.ret, [V.tuple []])))
   ((getN.bind fun bK =>
  (M.ret x0).bind fun bL =>
  getN.bind fun bM =>
  (M.ret x0).bind fun bN =>
  getN.bind fun bO =>
  (qrun (visB bK [(bM,bO,true),(bK, bM, false)]) (callV (cfg G) call 85 [bN])).bind fun bP =>
  getN.bind fun bQ =>
  (M.ret x0).bind fun bR =>
  getN.bind fun bS =>
  (M.lift (nilCheckV bR)).bind fun bT =>
  getN.bind fun bU =>
  (M.lift (padd 17 bT)).bind fun bV =>
  getN.bind fun bW =>
  (load1 bV).bind fun bX =>
  getN.bind fun bY =>
  (M.ret x1).bind fun bZ =>
  getN.bind fun cA =>
  (M.ret x2).bind fun cB =>
  getN.bind fun cC =>
  (M.ret x0).bind fun cD =>
  getN.bind fun cE =>
  (M.lift (nilCheckV cD)).bind fun cF =>
  getN.bind fun cG =>
  (M.lift (padd 18 cF)).bind fun cH =>
  getN.bind fun cI =>
  (load1 cH).bind fun cJ =>
  getN.bind fun cK =>
  (M.ret aC).bind fun cL =>
  getN.bind fun cM =>
  (M.lift (convI .i64 cL)).bind fun cN =>
  getN.bind fun cO =>
  (M.lift (arithV .add cJ cN)).bind fun cP =>
  getN.bind fun cQ =>
  (qrun (visB bK [(cO,cQ,true),(cM,cO,true),(cK,cM,true),(cI,cK,true),(cG,cI,true),(cE,cG,true),(cC,cE,true),(cA,cC,true),(bY,cA,true),(bW,bY,true),(bU,bW,true),(bS,bU,true),(bQ,bS,true),(bO,bQ,true),(bM,bO,true),(bK, bM, false)]) (callV (cfg G) call 90 [bP, bX, bZ, cB, cP])).bind fun cR =>
  getN.bind fun cS =>
  (M.lift (extractV cR 0)).bind fun cT =>
  getN.bind fun cU =>
  (M.lift (extractV cR 1)).bind fun cV =>
  getN.bind fun cW =>
  (trun (visB bK [(cU,cW,true),(cS,cU,true),(cQ,cS,true),(cO,cQ,true),(cM,cO,true),(cK,cM,true),(cI,cK,true),(cG,cI,true),(cE,cG,true),(cC,cE,true),(cA,cC,true),(bY,cA,true),(bW,bY,true),(bU,bW,true),(bS,bU,true),(bQ,bS,true),(bO,bQ,true),(bM,bO,true),(bK, bM, true)]) (callV (cfg G) call 83 [bL, cT, cV])).bind fun cX =>
  M.ret (Ex.ret, [V.tuple []]))))))
theorem ferry_sys_caller_wait_eq (G:GV) (n:Nat) (x0:V) (x1:V) (x2:V):sem (cfg G) (n + 1) 94 [x0,x1,x2] = outV (ferry_sys_caller_wait G (sem (cfg G) n) x0 x1 x2) :=
 (fnV_at (C:=cfg G) (n:=n) (f:=94) (fn:=Tryz.f94) (c:=Tryz.f94.body.getD .skip) (by kernel_rfl) (by kernel_rfl) (by kernel_rfl) [x0,x1,x2]).trans (by kernel_rfl)
end Go.Fv.Tr
namespace Go.Fv.Tr
open Go Go.Fv Go.Fv.Pl Go.Proofs
variable {G : GV}
namespace Sy
variable {l m : List V} {s : St} {p : Pn} {x y z a b c d x' y' z' u v w g : V} {pr : List (List V)} {k : List V} {H H' K : Heap}
theorem MS.frame {P:Nat → Prop} (h:MS H l s x y z u v w g pr) (f:Frame H H' P) (hp:∀ n ∈ lv [x,y,z,u,v,w,g] ++ lr pr,¬ P n):MS H' l s x y z u v w g pr:=by
 have hl:∀ q ∈ [x,y,z,u,v,w,g],∀ n,loc q = some n → ¬ P n:=fun q hq n hn => hp n (List.mem_append_left _ (mem_lv.2 ⟨q,hq,hn⟩))
 exact ⟨h.eq,h.ps.frame f (hl _ (by simp)),h.q.frame f (hl _ (by simp)),h.ts.frame f (hl _ (by simp)),h.up.frame f (hl _ (by simp)),h.sems.frame f (hl _ (by simp)),h.ports.frame f (hl _ (by simp)),h.pages.frame f (hl _ (by simp)),
  h.row.frame f fun n hn => hp n (List.mem_append_right _ hn),h.nd⟩
theorem MS.lt (h:MS H l s x y z u v w g pr) {n:Nat} (hn:n ∈ lv [x,y,z,u,v,w,g] ++ lr pr):n < H.next:=by
 rcases List.mem_append.1 hn with hn | hn
 ·obtain ⟨q,hq,e⟩:=mem_lv.1 hn
  simp only [List.mem_cons,List.not_mem_nil,or_false] at hq
  rcases hq with rfl | rfl | rfl | rfl | rfl | rfl | rfl
  ·exact h.ps.loc_lt e
  ·exact h.q.loc_lt e
  ·exact h.ts.loc_lt e
  ·exact h.up.loc_lt e
  ·exact h.sems.loc_lt e
  ·exact h.ports.loc_lt e
  ·exact h.pages.loc_lt e
 ·exact h.row.lt hn
theorem MS.thaw_in (h:MS H l s x y z u v w g pr) (hb:StB s) (hK:∀ n,n < H.next → K.blk n = H.blk n):∃ l' x' y' z' u' v' w' g' pr',thawV true K (.agg l) = some (.agg l') ∧ StS l' s x' y' z' u' v' w' g' pr':=by
 have f:Frame H ⟨K.blk,H.next,H.floor⟩ (fun _ => False):=⟨Nat.le_refl _,rfl,fun n hn _ => hK n hn⟩
 obtain ⟨l',x',y',z',u',v',w',g',pr',e,hs⟩:=(h.frame f fun _ _ => id).thaw hb
 refine ⟨l',x',y',z',u',v',w',g',pr',?_,hs⟩
 have:(Fv.thaw true K:V → Option V) = Fv.thaw true ⟨K.blk,H.next,H.floor⟩:=funext fun q => mapM_eq (fun _ => rfl) q
 simp only [thawV,this] at e ⊢
 exact e
def setR (s : St) (pc : Int) (k : Nat) (n : Int) : St := { s with t := { s.t with ps := setP s.t.ps pc (fun q => { q with regs := q.regs.set k n }) } }
def regAt (s : St) (pc : Int) (k : Nat) : Int := ((at? s.t.ps pc).bind fun q => q.regs[k]?).getD 0
structure ClX (H:Heap) (i:Nat) (p:Pn) (s:St) (pc tk:Int) (rep:V) (ft:Int) (a b c d x y z u v w g:V) (pr:List (List V)):Prop where
 blk:H.blk i = some ⟨21,[[i64 p.id,.bool p.mob,a,b,c,i64 p.ev,d,i64 s.id,i64 s.fr,i64 s.ep,x,y,z,u,v,w,g,i64 pc,i64 tk,rep,i64 ft]]⟩
 lt:i < H.next
 pn:∃ l,PnS l p a b c d
 ms:∃ l,MS H l s x y z u v w g pr
 no:i ∉ lv [x,y,z,u,v,w,g] ++ lr pr
 pc:0 ≤ pc ∧ pc < s.t.ps.length
 sb:StB s
def fp (i : Nat) (x y z u v w g : V) (pr : List (List V)) : List Nat := i :: (lv [x, y, z, u, v, w, g] ++ lr pr)
def Cl (H:Heap) (i:Nat) (p:Pn) (s:St) (pc tk:Int) (rep:V) (ft:Int) (F:List Nat) (H':Heap):Prop :=
 ∃ a b c d x y z u v w g pr,ClX H' i p s pc tk rep ft a b c d x y z u v w g pr ∧ (∀ n ∈ fp i x y z u v w g pr,n ∈ F ∨ H.next ≤ n) ∧ Frame H H' (fun n => n ∈ F)
variable {i : Nat} {pc tk ft : Int} {rep : V}
theorem ClX.frame {P:Nat → Prop} (h:ClX H i p s pc tk rep ft a b c d x y z u v w g pr) (f:Frame H H' P) (hp:∀ n ∈ fp i x y z u v w g pr,¬ P n):ClX H' i p s pc tk rep ft a b c d x y z u v w g pr:=by
 obtain ⟨l,ms⟩:=h.ms
 exact ⟨(f.old i h.lt (hp i (List.mem_cons_self ..))).trans h.blk,Nat.lt_of_lt_of_le h.lt f.next,h.pn,⟨l,ms.frame f fun n hn => hp n (List.mem_cons_of_mem _ hn)⟩,h.no,h.pc,h.sb⟩
theorem ClX.refl (h : ClX H i p s pc tk rep ft a b c d x y z u v w g pr) : Cl H i p s pc tk rep ft (fp i x y z u v w g pr) H := ⟨a, b, c, d, x, y, z, u, v, w, g, pr, h, fun n hn => .inl hn, Frame.refl _ _⟩
theorem Cl.trans {F F':List Nat} {s' s'':St} {H'':Heap} {rep' rep'':V} {ft' ft'':Int} (h:Cl H i p s' pc tk rep' ft' F H') (hF:∀ n ∈ F,n < H.next)
  (h2:∀ {a b c d x y z u v w g pr},ClX H' i p s' pc tk rep' ft' a b c d x y z u v w g pr → Cl H' i p s'' pc tk rep'' ft'' (fp i x y z u v w g pr) H''):Cl H i p s'' pc tk rep'' ft'' F H'':=by
 obtain ⟨a,b,c,d,x,y,z,u,v,w,g,pr,hx,hf,f⟩:=h
 obtain ⟨a2,b2,c2,d2,x2,y2,z2,u2,v2,w2,g2,pr2,hx2,hf2,f2⟩:=h2 hx
 have hn:=f.next
 refine ⟨a2,b2,c2,d2,x2,y2,z2,u2,v2,w2,g2,pr2,hx2,fun n hn' => ?_,⟨Nat.le_trans f.next f2.next,f2.floor.trans f.floor,fun n hn' hne => ?_⟩⟩
 ·rcases hf2 n hn' with h | h
  ·exact hf n h
  ·exact .inr (by omega)
 ·refine (f2.old n (by omega) fun g => ?_).trans (f.old n hn' hne)
  rcases hf n g with h | h
  ·exact hne h
  ·omega
theorem ClX.proc (h:ClX H i p s pc tk rep ft a b c d x y z u v w g pr):∃ lx bk q,loc x = some lx ∧ idxV 21 x (.int .i64 pc) = some (.ptr lx pc.toNat 0) ∧ H.blk lx = some bk ∧ bk.rows[pc.toNat]? = some (prRow q) ∧ pc.toNat < bk.rows.length ∧ at? s.t.ps pc = some q ∧ Wp q ∧ H.floor ≤ lx ∧ lx ≠ i ∧ lx ∈ fp i x y z u v w g pr:=by
 obtain ⟨l,ms⟩:=h.ms
 have hpc:=h.pc
 have hlt:pc.toNat < (s.t.ps.map prRow).length:=by rw [List.length_map]; omega
 obtain ⟨lx,bk,h1,h2,h3,h4,h5⟩:=ms.ps.idx (k:=.i64) hlt
 rw [Int.toNat_of_nonneg hpc.1] at h2
 rw [List.getElem_map] at h4
 have hmem:lx ∈ lv [x,y,z,u,v,w,g] ++ lr pr:=List.mem_append_left _ (mem_lv.2 ⟨x,by simp,h1⟩)
 exact ⟨lx,bk,_,h1,h2,h3,h4,(List.getElem?_eq_some_iff.1 h4).1,by unfold at?; rw [if_pos hpc.1,List.getElem?_eq_getElem (by omega)],h.sb.wp _ (List.getElem_mem _),h5,fun e => h.no (e ▸ hmem),List.mem_cons_of_mem _ hmem⟩
theorem prRow_reg {q:Pr} (hq:Wp q) {n:Nat} (hn:n < 16):(prRow q)[n]? = some (.int .u32 ((q.regs[n]?).getD 0)):=by
 have:n < q.regs.length:=by rw [show q.regs.length = 16 from hq]; exact hn
 unfold prRow
 rw [List.getElem?_append_left (by simpa using this),List.getElem?_map,List.getElem?_eq_getElem this]
 rfl
theorem aidx16 {lx i:Nat} {n:Nat} (hn:n < 16):aidxV 16 1 (.ptr lx i 0) (.int .i64 (n:Nat)) = some (.ptr lx i n):=by
 have h1:(0:Int) ≤ (n:Int) ∧ (n:Int) < ((16:Nat):Int):=by omega
 simp only [aidxV,if_pos h1,padd,Int.toNat_natCast,Nat.mul_one,Nat.zero_add]
set_option maxRecDepth 20000 in
theorem reg_run (nn:Nat) (h:ClX H i p s pc tk rep ft a b c d x y z u v w g pr) {n:Nat} (hn:n < 16) {Q:V → Heap → Prop} (q:Q (.int .u32 (regAt s pc n)) H) :
  Run (callV (cfg G) (sem (cfg G) (nn + 1)) 89 [.ptr i 0 0,.int .i64 (n:Nat)]) H Q:=by
 obtain ⟨lx,bk,qq,h1,h2,h3,h4,h5,h6,h7,h8,h9⟩:=h.proc
 have hb:=h.blk
 rw [callV_inl rfl,ferry_sys_caller_reg_eq]
 simp only [ferry_sys_caller_reg]
 have hr:=prRow_reg h7 hn
 (repeat' (first | (simp only [wp,extractV,w0,reduceIte,Nat.reduceAdd,Nat.reduceLT,Nat.reduceLeDiff,Nat.reduceEqDiff,hb,nil_ptr,h2,aidx16 hn,h3,h4,hr]) | (with_reducible ((first | refine Run.gC ?_ ?_ | refine Run.gG ?_ ?_ | refine Run.gQ ?_ ?_) <;> intro hb <;> try simp only [hb]))))
 have e:regAt s pc n = (qq.regs[n]?).getD 0:=by
  unfold regAt
  rw [h6]
  rfl
 rw [← e]
 exact q
theorem setP_len (ps : List Pr) (n : Int) (f : Pr → Pr) : (setP ps n f).length = ps.length := by unfold setP; simp
theorem setP_rows {ps:List Pr} {n:Nat} {f:Pr → Pr} (h:n < ps.length):(setP ps (n:Int) f).map prRow = (ps.map prRow).set n (prRow (f ps[n])):=by
 unfold setP
 rw [Int.toNat_natCast]
 refine List.ext_getElem? fun j => ?_
 rw [List.getElem?_map,List.getElem?_modify,List.getElem?_set]
 by_cases hj:n = j
 ·subst hj
  simp [h]
 ·simp [hj]
theorem StB.setR {s:St} (h:StB s) (pc:Int) (k:Nat) (n:Int):StB (setR s pc k n):=by
 refine ⟨fun q hq => ?_,?_,h.up,h.sems,h.ports,h.pages,h.msgs,h.data⟩
 ·unfold Sy.setR setP at hq
  simp only [] at hq
  obtain ⟨j,hj,rfl⟩:=List.mem_iff_getElem.1 hq
  rw [List.getElem_modify]
  have:=h.wp _ (List.getElem_mem (show j < s.t.ps.length by simpa using hj))
  split
  ·unfold Wp at this ⊢
   simpa using this
  ·exact this
 ·unfold Sy.setR
  simp only [setP_len]
  exact h.t
theorem prRow_set {q:Pr} (hq:Wp q) {k:Nat} (hk:k < 16) (n:Int):(prRow q).take k ++ [.int .u32 n] ++ (prRow q).drop (k + 1) = prRow { q with regs:=q.regs.set k n }:=by
 have hl:k < q.regs.length:=by rw [show q.regs.length = 16 from hq]; exact hk
 unfold prRow
 simp only [List.map_set]
 rw [List.take_append_of_le_length (by rw [List.length_map]; omega),List.drop_append_of_le_length (by rw [List.length_map]; omega),List.append_assoc,← List.append_assoc [_],← List.append_assoc (List.take _ _)]
 congr 1
 rw [List.set_eq_take_append_cons_drop]
 simp [hl]
theorem lv_app (A B : List V) : lv (A ++ B) = lv A ++ lv B := List.filterMap_append
theorem nd_ne {A B:List V} {q:V} {n:Nat} {P:List Nat} (h:(lv (A ++ q :: B) ++ P).Nodup) (hq:loc q = some n):(∀ r ∈ A ++ B,∀ k,loc r = some k → k ≠ n) ∧ ∀ k ∈ P,k ≠ n:=by
 rw [lv_app,lv_cons,hq] at h
 simp only [Option.toList_some,List.singleton_append,List.append_assoc,List.nodup_append,List.cons_append,List.nodup_cons,List.mem_append,List.mem_cons,not_or] at h
 obtain ⟨_,⟨⟨n1,n2⟩,_⟩,h2⟩:=h
 refine ⟨fun r hr k hk e => ?_,fun k hk e => n2.2 (e ▸ hk)⟩
 subst e
 rcases List.mem_append.1 hr with hr | hr
 ·exact h2 k (mem_lv.2 ⟨r,hr,hk⟩) k (.inl rfl) rfl
 ·exact n2.1 (mem_lv.2 ⟨r,hr,hk⟩)
set_option maxRecDepth 20000 in
theorem ClX.store (h:ClX H i p s pc tk rep ft a b c d x y z u v w g pr) (hf:H.floor = 0) {k:Nat} (hk:k < 16) (n:Int):∃ lx bk row,idxV 21 x (.int .i64 pc) = some (.ptr lx pc.toNat 0) ∧ H.blk lx = some bk ∧ bk.rows[pc.toNat]? = some row ∧ H.floor ≤ lx ∧ lx ≠ i ∧ k + 1 ≤ row.length ∧
  Cl H i p (setR s pc k n) pc tk rep ft (fp i x y z u v w g pr) (H.set lx ⟨bk.sz,bk.rows.set pc.toNat (row.take k ++ [.int .u32 n] ++ row.drop (k + 1))⟩):=by
 obtain ⟨lx,bk,q,h1,h2,h3,h4,h5,h6,h7,h8,h9,h10⟩:=h.proc
 refine ⟨lx,bk,prRow q,h2,h3,h4,h8,h9,by rw [pr_len h7]; omega,a,b,c,d,x,y,z,u,v,w,g,pr,⟨?_,h.lt,h.pn,?_,h.no,?_,h.sb.setR _ _ _⟩,fun n hn => .inl hn,Frame.set _ _ h10⟩
 ·rw [Heap.set_blk,if_neg (Ne.symm h9)]
  exact h.blk
 ·obtain ⟨l,ms⟩:=h.ms
  have hpc:=h.pc
  have hlt:pc.toNat < s.t.ps.length:=by omega
  have eq:s.t.ps[pc.toNat] = q:=by
   unfold at? at h6
   rw [if_pos hpc.1,List.getElem?_eq_getElem hlt] at h6
   exact Option.some.inj h6
  have er:(setR s pc k n).t.ps.map prRow = (s.t.ps.map prRow).set pc.toNat ((prRow q).take k ++ [.int .u32 n] ++ (prRow q).drop (k + 1)):=by
   rw [prRow_set h7 hk,← eq]
   have:=setP_rows (f:=fun q => { q with regs:=q.regs.set k n }) hlt
   rw [Int.toNat_of_nonneg hpc.1] at this
   exact this
  obtain ⟨d1,d2⟩:=nd_ne (A:=[]) (B:=[y,z,u,v,w,g]) ms.nd h1
  have f:Frame H (H.set lx ⟨bk.sz,bk.rows.set pc.toNat ((prRow q).take k ++ [.int .u32 n] ++ (prRow q).drop (k + 1))⟩) (fun m => m = lx):=Frame.set _ _ rfl
  refine ⟨_,rfl,?_,ms.q.frame f (d1 _ (by simp)),ms.ts.frame f (d1 _ (by simp)),ms.up.frame f (d1 _ (by simp)),ms.sems.frame f (d1 _ (by simp)),ms.ports.frame f (d1 _ (by simp)),ms.pages.frame f (d1 _ (by simp)),ms.row.frame f d2,ms.nd⟩
  rw [er]
  exact ms.ps.put h1 h3 _
 ·unfold Sy.setR
  simp only [setP_len]
  exact h.pc
set_option maxRecDepth 20000 in
theorem answer_run (nn:Nat) (h:ClX H i p s pc tk rep ft a b c d x y z u v w g pr) (hf:H.floor = 0) (n:Int) :
  Run (callV (cfg G) (sem (cfg G) (nn + 1)) 82 [.ptr i 0 0,.int .u32 n]) H fun r H' => r = .tuple [] ∧ Cl H i p (setR s pc 1 n) pc tk rep ft (fp i x y z u v w g pr) H':=by
 obtain ⟨lx,bk,row,h1,h2,h3,h4,h5,h6,h7⟩:=h.store hf (k:=1) (by decide) n
 have hb:=h.blk
 have ha:aidxV 16 1 (.ptr lx pc.toNat 0) (.int .i64 1) = some (.ptr lx pc.toNat 1):=aidx16 (n:=1) (by decide)
 rw [callV_inl rfl,ferry_sys_caller_answer_eq]
 simp only [ferry_sys_caller_answer]
 have h6':2 ≤ row.length:=h6
 (repeat' (first | (simp only [wp,extractV,w0,reduceIte,Nat.reduceAdd,Nat.reduceLT,Nat.reduceLeDiff,Nat.reduceEqDiff,hb,nil_ptr,h1,ha,h2,h3,h4,h6']) | (with_reducible ((first | refine Run.gC ?_ ?_ | refine Run.gG ?_ ?_ | refine Run.gQ ?_ ?_) <;> intro hb <;> try simp only [hb]))))
 exact h7
theorem conv_u64 {n:Int} (h0:0 ≤ n) (h:n < 18446744073709551616) {k:IntKind}:convI .u64 (.int k n) = some (.int .u64 n):=by
 have:IntKind.u64.wrap n = n:=Go.IntWalk.u64_in _ ⟨h0,by omega⟩
 simp [convI,this]
theorem conv_i64 {n:Int} (h0:-9223372036854775808 ≤ n) (h:n ≤ 9223372036854775807) {k:IntKind}:convI .i64 (.int k n) = some (.int .i64 n):=by
 have:IntKind.i64.wrap n = n:=Go.IntWalk.i64_in _ ⟨h0,h⟩
 simp [convI,this]
def RegOk (n : Int) : Prop := 0 ≤ n ∧ n < 4294967296
set_option maxRecDepth 20000 in
theorem index_run (nn:Nat) (h:ClX H i p s pc tk rep ft a b c d x y z u v w g pr) (hf:H.floor = 0) (hr:RegOk (regAt s pc 1)) {N:Int} (hN:0 ≤ N ∧ N ≤ 9223372036854775807) {Q:V → Heap → Prop}
  (q1:regAt s pc 1 < N → Q (.tuple [i64 (regAt s pc 1),.bool true]) H) (q2:N ≤ regAt s pc 1 → ∀ H',Cl H i p (setR s pc 1 4294967295) pc tk rep ft (fp i x y z u v w g pr) H' → Q (.tuple [i64 0,.bool false]) H') :
  Run (callV (cfg G) (sem (cfg G) (nn + 2)) 87 [.ptr i 0 0,i64 N]) H Q:=by
 rw [callV_inl rfl,ferry_sys_caller_index_eq]
 simp only [ferry_sys_caller_index]
 obtain ⟨r0,r1⟩:=hr
 (repeat' (first | (simp only [wp,extractV,w0,reduceIte,Nat.reduceAdd,Nat.reduceLT,Nat.reduceLeDiff,Nat.reduceEqDiff]) | (with_reducible ((first | refine Run.gC ?_ ?_ | refine Run.gG ?_ ?_ | refine Run.gQ ?_ ?_) <;> intro hb <;> try simp only [hb]))))
 refine reg_run (nn) h (n:=1) (by decide) ?_
 by_cases hc:regAt s pc 1 < N
 ·(repeat' (first | (simp only [wp,extractV,w0,reduceIte,Nat.reduceAdd,Nat.reduceLT,Nat.reduceLeDiff,Nat.reduceEqDiff,conv_u64 r0 (show regAt s pc 1 < 18446744073709551616 by omega),conv_u64 hN.1 (show N < 18446744073709551616 by omega),conv_i64 (show -9223372036854775808 ≤ regAt s pc 1 by omega) (show regAt s pc 1 ≤ 9223372036854775807 by omega),decide_eq_true hc]) | (with_reducible ((first | refine Run.gC ?_ ?_ | refine Run.gG ?_ ?_ | refine Run.gQ ?_ ?_) <;> intro hb <;> try simp only [hb]))))
  exact q1 hc
 ·(repeat' (first | (simp only [wp,extractV,w0,reduceIte,Nat.reduceAdd,Nat.reduceLT,Nat.reduceLeDiff,Nat.reduceEqDiff,conv_u64 r0 (show regAt s pc 1 < 18446744073709551616 by omega),conv_u64 hN.1 (show N < 18446744073709551616 by omega),decide_eq_false hc]) | (with_reducible ((first | refine Run.gC ?_ ?_ | refine Run.gG ?_ ?_ | refine Run.gQ ?_ ?_) <;> intro hb <;> try simp only [hb]))))
  refine (answer_run nn h hf _).mono fun r H' e => ?_
  (repeat' (first | (simp only [wp,extractV,w0,reduceIte,Nat.reduceAdd,Nat.reduceLT,Nat.reduceLeDiff,Nat.reduceEqDiff]) | (with_reducible ((first | refine Run.gC ?_ ?_ | refine Run.gG ?_ ?_ | refine Run.gQ ?_ ?_) <;> intro hb <;> try simp only [hb]))))
  exact q2 (by omega) H' e.2
def timeOk (n : Int) : Prop := n ≤ 1000000 ∨ n = 4294967295
instance (n : Int) : Decidable (timeOk n) := inferInstanceAs (Decidable (_ ∨ _))
set_option maxRecDepth 20000 in
theorem timeout_run (nn:Nat) (h:ClX H i p s pc tk rep ft a b c d x y z u v w g pr) (hf:H.floor = 0) {Q:V → Heap → Prop}
  (q1:timeOk (regAt s pc 2) → Q (.bool true) H) (q2:¬ timeOk (regAt s pc 2) → ∀ H',Cl H i p (setR s pc 1 4294967295) pc tk rep ft (fp i x y z u v w g pr) H' → Q (.bool false) H') :
  Run (callV (cfg G) (sem (cfg G) (nn + 2)) 93 [.ptr i 0 0]) H Q:=by
 rw [callV_inl rfl,ferry_sys_caller_timeout_eq]
 simp only [ferry_sys_caller_timeout]
 (repeat' (first | (simp only [wp,extractV,w0,reduceIte,Nat.reduceAdd,Nat.reduceLT,Nat.reduceLeDiff,Nat.reduceEqDiff]) | (with_reducible ((first | refine Run.gC ?_ ?_ | refine Run.gG ?_ ?_ | refine Run.gQ ?_ ?_) <;> intro hb <;> try simp only [hb]))))
 refine reg_run (nn) h (n:=2) (by decide) ?_
 by_cases h1:1000000 < regAt s pc 2
 ·by_cases h2:regAt s pc 2 = 4294967295
  ·have e:(regAt s pc 2 == 4294967295) = true:=by simpa using h2
   (repeat' (first | (simp only [wp,extractV,w0,reduceIte,Nat.reduceAdd,Nat.reduceLT,Nat.reduceLeDiff,Nat.reduceEqDiff,decide_eq_true h1,e]) | (with_reducible ((first | refine Run.gC ?_ ?_ | refine Run.gG ?_ ?_ | refine Run.gQ ?_ ?_) <;> intro hb <;> try simp only [hb]))))
   exact q1 (.inr h2)
  ·have e:(regAt s pc 2 == 4294967295) = false:=by simpa using h2
   (repeat' (first | (simp only [wp,extractV,w0,reduceIte,Nat.reduceAdd,Nat.reduceLT,Nat.reduceLeDiff,Nat.reduceEqDiff,decide_eq_true h1,e]) | (with_reducible ((first | refine Run.gC ?_ ?_ | refine Run.gG ?_ ?_ | refine Run.gQ ?_ ?_) <;> intro hb <;> try simp only [hb]))))
   refine (answer_run nn h hf _).mono fun r H' e => ?_
   (repeat' (first | (simp only [wp,extractV,w0,reduceIte,Nat.reduceAdd,Nat.reduceLT,Nat.reduceLeDiff,Nat.reduceEqDiff]) | (with_reducible ((first | refine Run.gC ?_ ?_ | refine Run.gG ?_ ?_ | refine Run.gQ ?_ ?_) <;> intro hb <;> try simp only [hb]))))
   exact q2 (by unfold timeOk; omega) H' e.2
 ·(repeat' (first | (simp only [wp,extractV,w0,reduceIte,Nat.reduceAdd,Nat.reduceLT,Nat.reduceLeDiff,Nat.reduceEqDiff,decide_eq_false h1]) | (with_reducible ((first | refine Run.gC ?_ ?_ | refine Run.gG ?_ ?_ | refine Run.gQ ?_ ?_) <;> intro hb <;> try simp only [hb]))))
  exact q1 (.inl (by omega))
end Sy
end Go.Fv.Tr

/-
  The Go functions ferry/page.In, ferry/page.Out, ferry/page.Alike, ferry/page.span, ferry/p By an AI agent; no person has read it.
-/
import Derived.Test.YtekncgjkocgioaaGreatDoorFvP01
set_option linter.unusedVariables false
set_option linter.unusedSimpArgs false
set_option linter.unusedSectionVars false
/-! The Go functions ferry/page.In, ferry/page.Out, ferry/page.Alike, ferry/page.span, ferry/p -/
namespace Go.Fv.Tr
open Go Go.Fv Go.Proofs
set_option maxRecDepth 20000
noncomputable def ferry_page_In_l1 (G:GV) (call:CV) (aA:V) (aB:List V):M R :=
 (M.ret (aB.getD 0 V.undef)).bind fun aC =>
 (M.lift ((eqV (.sc .str) true aC (V.str ⟨#[]⟩)).bind fun b => some (.bool !b))).bind fun aD =>
 (condV aD
 ((M.ret aA).bind fun aE =>
 (M.ret (aB.getD 1 V.undef)).bind fun aF =>
 (M.lift (arithV .quo aF (V.int .i64 64))).bind fun aG =>
 (M.lift (idxV 66 aE aG)).bind fun aH =>
 (M.ret aH).bind fun aI =>
 (M.ret aI).bind fun aJ =>
 (M.lift (nilCheckV aJ)).bind fun aK =>
 (M.lift (padd 2 aK)).bind fun aL =>
 (M.ret (aB.getD 1 V.undef)).bind fun aM =>
 (M.lift (arithV .rem aM (V.int .i64 64))).bind fun aN =>
 (M.lift (aslV 64 aL (some aN) none)).bind fun aO =>
 (M.ret (aB.getD 0 V.undef)).bind fun aP =>
 (copyV 1 aO aP).bind fun aQ =>
 (M.ret aQ).bind fun aR =>
 (M.ret aI).bind fun aS =>
 (M.lift (nilCheckV aS)).bind fun aT =>
 (M.lift (padd 1 aT)).bind fun aU =>
 (storeN 1 aU (V.bool true)).bind fun _ =>
 (M.ret (aB.getD 0 V.undef)).bind fun aV =>
 (M.ret aR).bind fun aW =>
 (M.lift (slS aV (some aW) none)).bind fun aX =>
 (M.ret aX).bind fun aY =>
 (M.ret (aB.getD 1 V.undef)).bind fun aZ =>
 (M.ret aR).bind fun bA =>
 (M.lift (arithV .add aZ bA)).bind fun bB =>
 (M.ret bB).bind fun bC =>
 M.ret (Ex.normal,[aY,bC]))
 (M.ret ((Ex.exit 0),[(aB.getD 0 V.undef),(aB.getD 1 V.undef)])))
noncomputable def ferry_page_In (G:GV) (call:CV) (x0:V) (x1:V) (x2:V):M R :=
 (M.ret V.nils).bind fun aA =>
 (M.ret (V.int .i64 0)).bind fun aB =>
 (M.ret x0).bind fun aC =>
 (M.ret x1).bind fun aD =>
 (M.ret x2).bind fun aE =>
 (M.lift (lenS aE)).bind fun aF =>
 (callV (cfg G) call 28 [aC,aD,aF,(V.int .i64 2),(V.int .i64 5)]).bind fun aG =>
 (M.ret aG).bind fun aH =>
 (M.ret aH).bind fun aI =>
 (M.lift ((eqV (.sc .int) true aI (V.int .i64 0)).bind fun b => some (.bool !b))).bind fun aJ =>
 (condV aJ
 ((M.ret aH).bind fun aK =>
 (M.ret V.nils).bind fun aL =>
 (M.ret aK).bind fun aM =>
 M.ret (Ex.ret,[V.tuple [aL,aM]]))
 ((M.ret x0).bind fun aN =>
 (callV (cfg G) call 29 [aN]).bind fun aO =>
 (M.ret aO).bind fun aP =>
 (M.ret x1).bind fun aQ =>
 (M.lift (convI .i64 aQ)).bind fun aR =>
 (M.ret aR).bind fun aS =>
 (loopV (ferry_page_In_l1 G call aP) [x2,aS]).bind fun aT => match aT.1 with
 | .normal => M.fail
 | .exit k0_49 =>
 (if k0_49 = 0 then
 (M.ret aP).bind fun aU =>
 (M.ret aU).bind fun aV =>
 (M.ret (V.int .i64 0)).bind fun aW =>
 M.ret (Ex.ret,[V.tuple [aV,aW]])
 else M.fail)
 | .ret =>
 M.ret (Ex.ret,[V.tuple [aA,aB]])))
theorem ferry_page_In_eq (G:GV) (n:Nat) (x0:V) (x1:V) (x2:V):sem (cfg G) (n + 1) 12 [x0,x1,x2] = outV (ferry_page_In G (sem (cfg G) n) x0 x1 x2) :=
 (fnV_at (C:=cfg G) (n:=n) (f:=12) (fn:=Tryz.f12) (c:=Tryz.f12.body.getD .skip) (by kernel_rfl) (by kernel_rfl) (by kernel_rfl) [x0,x1,x2]).trans (by kernel_rfl)
noncomputable def ferry_page_Out_l1 (G:GV) (call:CV) (x0:V) (aA:List V):M R :=
 (M.ret (aA.getD 2 V.undef)).bind fun aB =>
 (M.lift (arithV .gtr aB (V.int .i64 0))).bind fun aC =>
 (condV aC
 ((M.ret x0).bind fun aD =>
 (M.ret (aA.getD 1 V.undef)).bind fun aE =>
 (M.lift (arithV .quo aE (V.int .i64 64))).bind fun aF =>
 (M.lift (idxV 66 aD aF)).bind fun aG =>
 (M.lift (padd 2 aG)).bind fun aH =>
 (M.ret aH).bind fun aI =>
 (M.ret aI).bind fun aJ =>
 (M.lift (nilCheckV aJ)).bind fun aK =>
 (M.ret (aA.getD 1 V.undef)).bind fun aL =>
 (M.lift (arithV .rem aL (V.int .i64 64))).bind fun aM =>
 (M.lift (aslV 64 aK (some aM) none)).bind fun aN =>
 (M.ret aN).bind fun aO =>
 (M.ret aO).bind fun aP =>
 (M.ret (aA.getD 2 V.undef)).bind fun aQ =>
 (M.ret aO).bind fun aR =>
 (M.lift (lenV aR)).bind fun aS =>
 (M.lift (minV aQ aS)).bind fun aT =>
 (M.lift (slV 1 aP none (some aT) none)).bind fun aU =>
 (M.ret aU).bind fun aV =>
 (M.ret (aA.getD 0 V.undef)).bind fun aW =>
 (M.ret aV).bind fun aX =>
 (appV 1 1 aW aX).bind fun aY =>
 (M.ret aY).bind fun aZ =>
 (M.ret (aA.getD 1 V.undef)).bind fun bA =>
 (M.ret aV).bind fun bB =>
 (M.lift (lenV bB)).bind fun bC =>
 (M.lift (arithV .add bA bC)).bind fun bD =>
 (M.ret bD).bind fun bE =>
 (M.ret (aA.getD 2 V.undef)).bind fun bF =>
 (M.ret aV).bind fun bG =>
 (M.lift (lenV bG)).bind fun bH =>
 (M.lift (arithV .sub bF bH)).bind fun bI =>
 (M.ret bI).bind fun bJ =>
 M.ret (Ex.normal,[aZ,bE,bJ]))
 (M.ret ((Ex.exit 0),[(aA.getD 0 V.undef),(aA.getD 1 V.undef),(aA.getD 2 V.undef)])))
noncomputable def ferry_page_Out (G:GV) (call:CV) (x0:V) (x1:V) (x2:V):M R :=
 (M.ret (V.str ⟨#[]⟩)).bind fun aA =>
 (M.ret (V.int .i64 0)).bind fun aB =>
 (M.ret V.nili).bind fun aC =>
 (M.ret x2).bind fun aD =>
 (M.lift (arithV .lss aD (V.int .i64 0))).bind fun aE =>
 (condV aE
 (((load1 (glob (cfg G) 0)).bind fun aF =>
 (M.ret (V.str ⟨#[]⟩)).bind fun aG =>
 (M.ret (V.int .i64 0)).bind fun aH =>
 (M.ret aF).bind fun aI =>
 M.ret (Ex.ret,[V.tuple [aG,aH,aI]])))
 ((M.ret x0).bind fun aJ =>
 (M.ret x1).bind fun aK =>
 (M.ret x2).bind fun aL =>
 (callV (cfg G) call 28 [aJ,aK,aL,(V.int .i64 1),(V.int .i64 4)]).bind fun aM =>
 (M.ret aM).bind fun aN =>
 (M.ret aN).bind fun aO =>
 (M.lift ((eqV (.sc .int) true aO (V.int .i64 0)).bind fun b => some (.bool !b))).bind fun aP =>
 (condV aP
 ((M.ret aN).bind fun aQ =>
 (M.ret (V.str ⟨#[]⟩)).bind fun aR =>
 (M.ret aQ).bind fun aS =>
 (M.ret V.nili).bind fun aT =>
 M.ret (Ex.ret,[V.tuple [aR,aS,aT]]))
 ((M.ret x2).bind fun aU =>
 (makeV 1 1 [(V.int .u8 0)] (V.int .i64 0) aU).bind fun aV =>
 (M.ret aV).bind fun aW =>
 (M.ret x1).bind fun aX =>
 (M.lift (convI .i64 aX)).bind fun aY =>
 (M.ret aY).bind fun aZ =>
 (loopV (ferry_page_Out_l1 G call x0) [aW,aZ,x2]).bind fun bA => match bA.1 with
 | .normal => M.fail
 | .exit k0_64 =>
 (if k0_64 = 0 then
 (M.ret (bA.2.getD 0 V.undef)).bind fun bB =>
 (readBytes bB).bind fun bC =>
 (M.ret bC).bind fun bD =>
 (M.ret (V.int .i64 0)).bind fun bE =>
 (M.ret V.nili).bind fun bF =>
 M.ret (Ex.ret,[V.tuple [bD,bE,bF]])
 else M.fail)
 | .ret =>
 M.ret (Ex.ret,[V.tuple [aA,aB,aC]])))))
theorem ferry_page_Out_eq (G:GV) (n:Nat) (x0:V) (x1:V) (x2:V):sem (cfg G) (n + 1) 13 [x0,x1,x2] = outV (ferry_page_Out G (sem (cfg G) n) x0 x1 x2) :=
 (fnV_at (C:=cfg G) (n:=n) (f:=13) (fn:=Tryz.f13) (c:=Tryz.f13.body.getD .skip) (by kernel_rfl) (by kernel_rfl) (by kernel_rfl) [x0,x1,x2]).trans (by kernel_rfl)
noncomputable def ferry_page_span_l1 (G:GV) (call:CV) (aA:V) (x0:V) (x3:V) (x4:V) (aB:List V):M R :=
 (M.ret (aB.getD 1 V.undef)).bind fun aC =>
 (M.ret aA).bind fun aD =>
 (M.lift (arithV .lss aC aD)).bind fun aE =>
 (condV aE
 ((M.ret x0).bind fun aF =>
 (M.ret (aB.getD 1 V.undef)).bind fun aG =>
 (M.ret x3).bind fun aH =>
 (M.ret x4).bind fun aI =>
 (callV (cfg G) call 61 [aF,aG,aH,aI]).bind fun aJ =>
 (M.ret aJ).bind fun aK =>
 (M.ret aK).bind fun aL =>
 (M.lift ((eqV (.sc .int) true aL (V.int .i64 0)).bind fun b => some (.bool !b))).bind fun aM =>
 (condV aM
 ((M.ret aK).bind fun aN =>
 (M.ret aN).bind fun aO =>
 M.ret (Ex.ret,[aO,(aB.getD 1 V.undef)]))
 ((M.ret (aB.getD 1 V.undef)).bind fun aP =>
 (M.lift (arithV .quo aP (V.int .u64 64))).bind fun aQ =>
 (M.lift (arithV .add aQ (V.int .u64 1))).bind fun aR =>
 (M.lift (arithV .mul aR (V.int .u64 64))).bind fun aS =>
 (M.ret aS).bind fun aT =>
 M.ret (Ex.normal,[(aB.getD 0 V.undef),aT]))))
 (M.ret ((Ex.exit 0),[(aB.getD 0 V.undef),(aB.getD 1 V.undef)])))
noncomputable def ferry_page_span (G:GV) (call:CV) (x0:V) (x1:V) (x2:V) (x3:V) (x4:V):M R :=
 (M.ret (V.int .i64 0)).bind fun aA =>
 (M.ret x1).bind fun aB =>
 (M.lift (convI .u64 aB)).bind fun aC =>
 (M.ret aC).bind fun aD =>
 (M.ret aD).bind fun aE =>
 (M.ret x2).bind fun aF =>
 (M.lift (convI .u64 aF)).bind fun aG =>
 (M.lift (arithV .add aE aG)).bind fun aH =>
 (M.ret aH).bind fun aI =>
 (loopV (ferry_page_span_l1 G call aI x0 x3 x4) [aA,aD]).bind fun aJ => match aJ.1 with
 | .normal => M.fail
 | .exit k0_30 =>
 (if k0_30 = 0 then
 (M.ret (V.int .i64 0)).bind fun aK =>
 M.ret (Ex.ret,[aK])
 else M.fail)
 | .ret =>
 M.ret (Ex.ret,[(aJ.2.getD 0 V.undef)])
theorem ferry_page_span_eq (G:GV) (n:Nat) (x0:V) (x1:V) (x2:V) (x3:V) (x4:V):sem (cfg G) (n + 1) 28 [x0,x1,x2,x3,x4] = outV (ferry_page_span G (sem (cfg G) n) x0 x1 x2 x3 x4) :=
 (fnV_at (C:=cfg G) (n:=n) (f:=28) (fn:=Tryz.f28) (c:=Tryz.f28.body.getD .skip) (by kernel_rfl) (by kernel_rfl) (by kernel_rfl) [x0,x1,x2,x3,x4]).trans (by kernel_rfl)
noncomputable def ferry_page_Copy (G:GV) (call:CV) (x0:V):M R :=
 (M.ret V.nils).bind fun aA =>
 (M.ret x0).bind fun aB =>
 (callV (cfg G) call 59 [aB]).bind fun aC =>
 (M.ret aC).bind fun aD =>
 M.ret (Ex.ret,[aD])
theorem ferry_page_Copy_eq (G:GV) (n:Nat) (x0:V):sem (cfg G) (n + 1) 29 [x0] = outV (ferry_page_Copy G (sem (cfg G) n) x0) :=
 (fnV_at (C:=cfg G) (n:=n) (f:=29) (fn:=Tryz.f29) (c:=Tryz.f29.body.getD .skip) (by kernel_rfl) (by kernel_rfl) (by kernel_rfl) [x0]).trans (by kernel_rfl)
noncomputable def ferry_page_fault (G:GV) (call:CV) (x0:V) (x1:V) (x2:V) (x3:V):M R :=
 (M.ret (V.int .i64 0)).bind fun aA =>
 (M.ret x1).bind fun aB =>
 (M.lift (arithV .quo aB (V.int .u64 64))).bind fun aC =>
 (M.ret aC).bind fun aD =>
 (M.ret aD).bind fun aE =>
 (M.ret x0).bind fun aF =>
 (M.lift (lenV aF)).bind fun aG =>
 (M.lift (convI .u64 aG)).bind fun aH =>
 (M.lift (arithV .geq aE aH)).bind fun aI =>
 (condV aI
 ((M.ret (V.int .i64 3)).bind fun aJ =>
 M.ret (Ex.ret,[aJ]))
 ((M.ret x0).bind fun aK =>
 (M.ret aD).bind fun aL =>
 (M.lift (idxV 66 aK aL)).bind fun aM =>
 (M.lift (padd 0 aM)).bind fun aN =>
 (load1 aN).bind fun aO =>
 (M.ret x2).bind fun aP =>
 (M.lift (arithV .and aO aP)).bind fun aQ =>
 (M.lift ((eqV (.sc .int) true aQ (V.int .i64 0)).bind fun b => some (.bool b))).bind fun aR =>
 (condV aR
 ((M.ret x3).bind fun aS =>
 (M.ret aS).bind fun aT =>
 M.ret (Ex.ret,[aT]))
 ((M.ret (V.int .i64 0)).bind fun aU =>
 M.ret (Ex.ret,[aU])))))
theorem ferry_page_fault_eq (G:GV) (n:Nat) (x0:V) (x1:V) (x2:V) (x3:V):sem (cfg G) (n + 1) 61 [x0,x1,x2,x3] = outV (ferry_page_fault G (sem (cfg G) n) x0 x1 x2 x3) :=
 (fnV_at (C:=cfg G) (n:=n) (f:=61) (fn:=Tryz.f61) (c:=Tryz.f61.body.getD .skip) (by kernel_rfl) (by kernel_rfl) (by kernel_rfl) [x0,x1,x2,x3]).trans (by kernel_rfl)
noncomputable def ferry_port_Get (G:GV) (call:CV) (x0:V) (x1:V):M R :=
 (newV x0).bind fun aA =>
 (newV x1).bind fun aB =>
 (newV (.agg [V.nils,(V.int .i64 0)])).bind fun aC =>
 (M.ret (V.str ⟨#[]⟩)).bind fun aD =>
 (M.ret (V.bool false)).bind fun aE =>
 (M.ret V.nili).bind fun aF =>
 (loadN 4 aA).bind fun aG =>
 (loadN 2 aB).bind fun aH =>
 (callV (cfg G) call 141 [aG,aH]).bind fun aI =>
 (M.ret aI).bind fun aJ =>
 (M.ret aJ).bind fun aK =>
 (M.lift ((eqV .iface true aK V.nili).bind fun b => some (.bool !b))).bind fun aL =>
 (condV aL
 ((M.lift (buildV [V.nils,(V.int .i64 0)] [])).bind fun aM =>
 (M.ret aJ).bind fun aN =>
 (storeN 2 aC aM).bind fun _ =>
 (M.ret (V.str ⟨#[]⟩)).bind fun aO =>
 (M.ret (V.bool false)).bind fun aP =>
 (M.ret aN).bind fun aQ =>
 (((loadN 2 aC)).bind fun v => ((((M.ret []).bind fun l => M.ret (aQ :: l)).bind fun l => M.ret (aP :: l)).bind fun l => M.ret (aO :: l)).bind fun l => M.ret (v :: l)).bind fun l => M.ret (Ex.ret,tupV l))
 ((loadN 4 aA).bind fun aR =>
 (callV (cfg G) call 142 [aR]).bind fun aS =>
 (M.lift (unV .not aS)).bind fun aT =>
 (M.ret aT).bind fun aU =>
 (condV aU
 ((getN.bind fun aV =>
 (M.lift (buildV [V.nils,(V.int .i64 0)] [])).bind fun aW =>
 getN.bind fun aX =>
 (load1 (glob (cfg G) 9)).bind fun aY =>
 getN.bind fun aZ =>
 guardM (apartV (glob (cfg G) 9) aC && true) (
 (storeN 2 aC aW).bind fun _ =>
 getN.bind fun bA =>
 (M.ret (V.str ⟨#[]⟩)).bind fun bB =>
 getN.bind fun bC =>
 (M.ret (V.bool false)).bind fun bD =>
 getN.bind fun bE =>
 (M.ret aY).bind fun bF =>
 getN.bind fun bG =>
 (((loadN 2 aC)).bind fun v => ((((M.ret []).bind fun l => M.ret (bF :: l)).bind fun l => M.ret (bD :: l)).bind fun l => M.ret (bB :: l)).bind fun l => M.ret (v :: l)).bind fun l => M.ret (Ex.ret,tupV l))))
 ((M.lift (padd 0 aB)).bind fun bH =>
 (load1 bH).bind fun bI =>
 (M.lift (lenV bI)).bind fun bJ =>
 (M.lift ((eqV (.sc .int) true bJ (V.int .i64 0)).bind fun b => some (.bool b))).bind fun bK =>
 (M.ret bK).bind fun bL =>
 (condV bL
 ((getN.bind fun bM =>
 (M.lift (buildV [V.nils,(V.int .i64 0)] [])).bind fun bN =>
 getN.bind fun bO =>
 (load1 (glob (cfg G) 16)).bind fun bP =>
 getN.bind fun bQ =>
 guardM (apartV (glob (cfg G) 16) aC && true) (
 (storeN 2 aC bN).bind fun _ =>
 getN.bind fun bR =>
 (M.ret (V.str ⟨#[]⟩)).bind fun bS =>
 getN.bind fun bT =>
 (M.ret (V.bool false)).bind fun bU =>
 getN.bind fun bV =>
 (M.ret bP).bind fun bW =>
 getN.bind fun bX =>
 (((loadN 2 aC)).bind fun v => ((((M.ret []).bind fun l => M.ret (bW :: l)).bind fun l => M.ret (bU :: l)).bind fun l => M.ret (bS :: l)).bind fun l => M.ret (v :: l)).bind fun l => M.ret (Ex.ret,tupV l))))
 ((loadN 4 aA).bind fun bY =>
 (callV (cfg G) call 143 [bY]).bind fun bZ =>
 (M.ret bZ).bind fun cA =>
 (condV cA
 ((getN.bind fun cB =>
 (M.lift (padd 0 aB)).bind fun cC =>
 getN.bind fun cD =>
 (load1 cC).bind fun cE =>
 getN.bind fun cF =>
 (M.lift (slV 1 cE (some (V.int .i64 1)) none none)).bind fun cG =>
 getN.bind fun cH =>
 (qrun (visB cB [(cF,cH,true),(cD,cF,true),(cB,cD,true)]) (callV (cfg G) call 60 [cG])).bind fun cI =>
 getN.bind fun cJ =>
 (M.lift (buildV [V.nils,(V.int .i64 0)] [(0,1,cI)])).bind fun cK =>
 getN.bind fun cL =>
 (M.lift (padd 0 aB)).bind fun cM =>
 getN.bind fun cN =>
 (load1 cM).bind fun cO =>
 getN.bind fun cP =>
 (M.lift (idxV 1 cO (V.int .i64 0))).bind fun cQ =>
 getN.bind fun cR =>
 (load1 cQ).bind fun cS =>
 getN.bind fun cT =>
 guardM (apartV cM aC && (apartV cQ aC && true)) (
 (storeN 2 aC cK).bind fun _ =>
 getN.bind fun cU =>
 (M.ret cS).bind fun cV =>
 getN.bind fun cW =>
 (M.ret (V.bool true)).bind fun cX =>
 getN.bind fun cY =>
 (M.ret V.nili).bind fun cZ =>
 getN.bind fun dA =>
 (((loadN 2 aC)).bind fun v => ((((M.ret []).bind fun l => M.ret (cZ :: l)).bind fun l => M.ret (cX :: l)).bind fun l => M.ret (cV :: l)).bind fun l => M.ret (v :: l)).bind fun l => M.ret (Ex.ret,tupV l))))
 ((getN.bind fun dB =>
 (loadN 2 aB).bind fun dC =>
 getN.bind fun dD =>
 (qrun (visB dB [(dB,dD,true)]) (callV (cfg G) call 144 [dC])).bind fun dE =>
 getN.bind fun dF =>
 (M.lift (padd 0 aB)).bind fun dG =>
 getN.bind fun dH =>
 (load1 dG).bind fun dI =>
 getN.bind fun dJ =>
 (M.lift (idxV 1 dI (V.int .i64 0))).bind fun dK =>
 getN.bind fun dL =>
 (load1 dK).bind fun dM =>
 getN.bind fun dN =>
 (M.lift (padd 1 aB)).bind fun dO =>
 getN.bind fun dP =>
 (load1 dO).bind fun dQ =>
 getN.bind fun dR =>
 (M.lift (padd 3 aA)).bind fun dS =>
 getN.bind fun dT =>
 (load1 dS).bind fun dU =>
 getN.bind fun dV =>
 (M.lift (arithV .lss dQ dU)).bind fun dW =>
 getN.bind fun dX =>
 guardM (apartV dG aC && (apartV dK aC && (apartV dO aC && (apartV dS aC && true)))) (
 (storeN 2 aC dE).bind fun _ =>
 getN.bind fun dY =>
 (M.ret dM).bind fun dZ =>
 getN.bind fun eA =>
 (M.ret dW).bind fun eB =>
 getN.bind fun eC =>
 (M.ret V.nili).bind fun eD =>
 getN.bind fun eE =>
 (((loadN 2 aC)).bind fun v => ((((M.ret []).bind fun l => M.ret (eD :: l)).bind fun l => M.ret (eB :: l)).bind fun l => M.ret (dZ :: l)).bind fun l => M.ret (v :: l)).bind fun l => M.ret (Ex.ret,tupV l)))))))))))
theorem ferry_port_Get_eq (G:GV) (n:Nat) (x0:V) (x1:V):sem (cfg G) (n + 1) 98 [x0,x1] = outV (ferry_port_Get G (sem (cfg G) n) x0 x1) :=
 (fnV_atM (C:=cfg G) (n:=n) (f:=98) (fn:=Tryz.f98) (c:=Tryz.f98.body.getD .skip) (by kernel_rfl) (by kernel_rfl) (by kernel_rfl) [x0,x1]).trans (by kernel_rfl)
noncomputable def ferry_port_Write (G:GV) (call:CV) (x0:V) (x1:V) (x2:V):M R :=
 (newV x0).bind fun aA =>
 (newV x1).bind fun aB =>
 (newV (.agg [V.nils,(V.int .i64 0)])).bind fun aC =>
 (M.ret V.nili).bind fun aD =>
 (getN.bind fun n5 =>
 (loadN 4 aA).bind fun aE =>
 getN.bind fun n7 =>
 (loadN 2 aB).bind fun aF =>
 getN.bind fun n9 =>
 (M.ret x2).bind fun aG =>
 getN.bind fun aH =>
 (loadN 4 aA).bind fun aI =>
 getN.bind fun aJ =>
 (qrun (visB n5 [(aH,aJ,true),(n9,aH,false),(n7,n9,false),(n5,n7,false)]) (callV (cfg G) call 146 [aI])).bind fun aK =>
 getN.bind fun aL =>
 (qrun (visB n5 [(aJ,aL,true),(aH,aJ,true),(n9,aH,true),(n7,n9,true),(n5,n7,true)]) (callV (cfg G) call 145 [aE,aF,aG,aK])).bind fun aM =>
 (M.lift (extractV aM 0)).bind fun aN =>
 (M.lift (extractV aM 1)).bind fun aO =>
 (storeN 2 aC aN).bind fun _ =>
 (M.ret aO).bind fun aP =>
 (((loadN 2 aC)).bind fun v => ((M.ret []).bind fun l => M.ret (aP :: l)).bind fun l => M.ret (v :: l)).bind fun l => M.ret (Ex.ret,tupV l))
theorem ferry_port_Write_eq (G:GV) (n:Nat) (x0:V) (x1:V) (x2:V):sem (cfg G) (n + 1) 99 [x0,x1,x2] = outV (ferry_port_Write G (sem (cfg G) n) x0 x1 x2) :=
 (fnV_at (C:=cfg G) (n:=n) (f:=99) (fn:=Tryz.f99) (c:=Tryz.f99.body.getD .skip) (by kernel_rfl) (by kernel_rfl) (by kernel_rfl) [x0,x1,x2]).trans (by kernel_rfl)
noncomputable def ferry_port_Check (G:GV) (call:CV) (x0:V) (x1:V):M R :=
 (newV x0).bind fun aA =>
 (newV x1).bind fun aB =>
 (M.ret V.nili).bind fun aC =>
 (loadN 4 aA).bind fun aD =>
 (callV (cfg G) call 208 [aD]).bind fun aE =>
 (M.lift ((eqV .iface true aE V.nili).bind fun b => some (.bool !b))).bind fun aF =>
 (condV aF
 ((load1 (glob (cfg G) 1)).bind fun aG =>
 (M.ret aG).bind fun aH =>
 M.ret (Ex.ret,[aH]))
 ((loadN 4 aA).bind fun aI =>
 (loadN 2 aB).bind fun aJ =>
 (callV (cfg G) call 209 [aI,aJ]).bind fun aK =>
 (M.lift (unV .not aK)).bind fun aL =>
 (condV aL
 ((load1 (glob (cfg G) 2)).bind fun aM =>
 (M.ret aM).bind fun aN =>
 M.ret (Ex.ret,[aN]))
 ((M.ret V.nili).bind fun aO =>
 M.ret (Ex.ret,[aO])))))
theorem ferry_port_Check_eq (G:GV) (n:Nat) (x0:V) (x1:V):sem (cfg G) (n + 1) 141 [x0,x1] = outV (ferry_port_Check G (sem (cfg G) n) x0 x1) :=
 (fnV_at (C:=cfg G) (n:=n) (f:=141) (fn:=Tryz.f141) (c:=Tryz.f141.body.getD .skip) (by kernel_rfl) (by kernel_rfl) (by kernel_rfl) [x0,x1]).trans (by kernel_rfl)
noncomputable def ferry_port_isIn (G:GV) (call:CV) (x0:V):M R :=
 (newV x0).bind fun aA =>
 (M.ret (V.bool false)).bind fun aB =>
 (M.lift (padd 0 aA)).bind fun aC =>
 (load1 aC).bind fun aD =>
 (M.lift ((eqV (.sc .int) true aD (V.int .i64 1)).bind fun b => some (.bool b))).bind fun aE =>
 (M.ret aE).bind fun aF =>
 (guardV aF false (M.lift (padd 0 aA))).bind fun aG =>
 (guardV aF false (load1 aG)).bind fun aH =>
 (guardV aF false (M.lift ((eqV (.sc .int) true aH (V.int .i64 3)).bind fun b => some (.bool b)))).bind fun aI =>
 (M.lift (pickV aF (V.bool true) aI)).bind fun aJ =>
 (M.ret aJ).bind fun aK =>
 M.ret (Ex.ret,[aK])
theorem ferry_port_isIn_eq (G:GV) (n:Nat) (x0:V):sem (cfg G) (n + 1) 142 [x0] = outV (ferry_port_isIn G (sem (cfg G) n) x0) :=
 (fnV_at (C:=cfg G) (n:=n) (f:=142) (fn:=Tryz.f142) (c:=Tryz.f142.body.getD .skip) (by kernel_rfl) (by kernel_rfl) (by kernel_rfl) [x0]).trans (by kernel_rfl)
noncomputable def ferry_port_isQueue (G:GV) (call:CV) (x0:V):M R :=
 (newV x0).bind fun aA =>
 (M.ret (V.bool false)).bind fun aB =>
 (M.lift (padd 0 aA)).bind fun aC =>
 (load1 aC).bind fun aD =>
 (M.lift ((eqV (.sc .int) true aD (V.int .i64 3)).bind fun b => some (.bool b))).bind fun aE =>
 (M.ret aE).bind fun aF =>
 (guardV aF false (M.lift (padd 0 aA))).bind fun aG =>
 (guardV aF false (load1 aG)).bind fun aH =>
 (guardV aF false (M.lift ((eqV (.sc .int) true aH (V.int .i64 4)).bind fun b => some (.bool b)))).bind fun aI =>
 (M.lift (pickV aF (V.bool true) aI)).bind fun aJ =>
 (M.ret aJ).bind fun aK =>
 M.ret (Ex.ret,[aK])
theorem ferry_port_isQueue_eq (G:GV) (n:Nat) (x0:V):sem (cfg G) (n + 1) 143 [x0] = outV (ferry_port_isQueue G (sem (cfg G) n) x0) :=
 (fnV_at (C:=cfg G) (n:=n) (f:=143) (fn:=Tryz.f143) (c:=Tryz.f143.body.getD .skip) (by kernel_rfl) (by kernel_rfl) (by kernel_rfl) [x0]).trans (by kernel_rfl)
noncomputable def ferry_port_add (G:GV) (call:CV) (x0:V) (x1:V) (x2:V) (x3:V):M R :=
 (newV x0).bind fun aA =>
 (newV x1).bind fun aB =>
 (newV (.agg [V.nils,(V.int .i64 0)])).bind fun aC =>
 (M.ret V.nili).bind fun aD =>
 (loadN 4 aA).bind fun aE =>
 (loadN 2 aB).bind fun aF =>
 (callV (cfg G) call 141 [aE,aF]).bind fun aG =>
 (M.ret aG).bind fun aH =>
 (M.ret aH).bind fun aI =>
 (M.lift ((eqV .iface true aI V.nili).bind fun b => some (.bool !b))).bind fun aJ =>
 (condV aJ
 ((M.lift (buildV [V.nils,(V.int .i64 0)] [])).bind fun aK =>
 (M.ret aH).bind fun aL =>
 (storeN 2 aC aK).bind fun _ =>
 (M.ret aL).bind fun aM =>
 (((loadN 2 aC)).bind fun v => ((M.ret []).bind fun l => M.ret (aM :: l)).bind fun l => M.ret (v :: l)).bind fun l => M.ret (Ex.ret,tupV l))
 ((M.ret x3).bind fun aN =>
 (M.lift (unV .not aN)).bind fun aO =>
 (M.ret aO).bind fun aP =>
 (condV aP
 (((M.lift (buildV [V.nils,(V.int .i64 0)] [])).bind fun aQ =>
 (load1 (glob (cfg G) 9)).bind fun aR =>
 guardM (apartV (glob (cfg G) 9) aC && true) (
 (storeN 2 aC aQ).bind fun _ =>
 (M.ret aR).bind fun aS =>
 (((loadN 2 aC)).bind fun v => ((M.ret []).bind fun l => M.ret (aS :: l)).bind fun l => M.ret (v :: l)).bind fun l => M.ret (Ex.ret,tupV l))))
 ((M.ret x2).bind fun aT =>
 (M.lift (lenS aT)).bind fun aU =>
 (M.lift (padd 1 aA)).bind fun aV =>
 (load1 aV).bind fun aW =>
 (M.lift (arithV .gtr aU aW)).bind fun aX =>
 (M.ret aX).bind fun aY =>
 (condV aY
 (((M.lift (buildV [V.nils,(V.int .i64 0)] [])).bind fun aZ =>
 (load1 (glob (cfg G) 11)).bind fun bA =>
 guardM (apartV (glob (cfg G) 11) aC && true) (
 (storeN 2 aC aZ).bind fun _ =>
 (M.ret bA).bind fun bB =>
 (((loadN 2 aC)).bind fun v => ((M.ret []).bind fun l => M.ret (bB :: l)).bind fun l => M.ret (v :: l)).bind fun l => M.ret (Ex.ret,tupV l))))
 ((loadN 4 aA).bind fun bC =>
 (callV (cfg G) call 143 [bC]).bind fun bD =>
 (M.lift (unV .not bD)).bind fun bE =>
 (M.ret bE).bind fun bF =>
 (condV bF
 ((M.ret x2).bind fun bG =>
 (sliceV 1 1 [(V.str ⟨#[]⟩)] [(0,bG)]).bind fun bH =>
 (M.lift (buildV [V.nils,(V.int .i64 0)] [(0,1,bH)])).bind fun bI =>
 (storeN 2 aC bI).bind fun _ =>
 (M.ret V.nili).bind fun bJ =>
 (((loadN 2 aC)).bind fun v => ((M.ret []).bind fun l => M.ret (bJ :: l)).bind fun l => M.ret (v :: l)).bind fun l => M.ret (Ex.ret,tupV l))
 ((M.lift (padd 0 aB)).bind fun bK =>
 (load1 bK).bind fun bL =>
 (M.lift (lenV bL)).bind fun bM =>
 (M.lift (padd 2 aA)).bind fun bN =>
 (load1 bN).bind fun bO =>
 (M.lift ((eqV (.sc .int) false bM bO).bind fun b => some (.bool b))).bind fun bP =>
 (M.ret bP).bind fun bQ =>
 (condV bQ
 (((M.lift (buildV [V.nils,(V.int .i64 0)] [])).bind fun bR =>
 (load1 (glob (cfg G) 13)).bind fun bS =>
 guardM (apartV (glob (cfg G) 13) aC && true) (
 (storeN 2 aC bR).bind fun _ =>
 (M.ret bS).bind fun bT =>
 (((loadN 2 aC)).bind fun v => ((M.ret []).bind fun l => M.ret (bT :: l)).bind fun l => M.ret (v :: l)).bind fun l => M.ret (Ex.ret,tupV l))))
 ((M.lift (padd 0 aB)).bind fun bU =>
 (load1 bU).bind fun bV =>
 (callV (cfg G) call 60 [bV]).bind fun bW =>
 (callV (cfg G) call 210 [bW]).bind fun bX =>
 (M.ret x2).bind fun bY =>
 (sliceV 1 1 [(V.str ⟨#[]⟩)] [(0,bY)]).bind fun bZ =>
 (appV 1 16 bX bZ).bind fun cA =>
 (M.lift (buildV [V.nils,(V.int .i64 0)] [(0,1,cA)])).bind fun cB =>
 (storeN 2 aC cB).bind fun _ =>
 (M.ret V.nili).bind fun cC =>
 (((loadN 2 aC)).bind fun v => ((M.ret []).bind fun l => M.ret (cC :: l)).bind fun l => M.ret (v :: l)).bind fun l => M.ret (Ex.ret,tupV l)))))))))))
theorem ferry_port_add_eq (G:GV) (n:Nat) (x0:V) (x1:V) (x2:V) (x3:V):sem (cfg G) (n + 1) 145 [x0,x1,x2,x3] = outV (ferry_port_add G (sem (cfg G) n) x0 x1 x2 x3) :=
 (fnV_at (C:=cfg G) (n:=n) (f:=145) (fn:=Tryz.f145) (c:=Tryz.f145.body.getD .skip) (by kernel_rfl) (by kernel_rfl) (by kernel_rfl) [x0,x1,x2,x3]).trans (by kernel_rfl)
noncomputable def ferry_port_isOut (G:GV) (call:CV) (x0:V):M R :=
 (newV x0).bind fun aA =>
 (M.ret (V.bool false)).bind fun aB =>
 (M.lift (padd 0 aA)).bind fun aC =>
 (load1 aC).bind fun aD =>
 (M.lift ((eqV (.sc .int) true aD (V.int .i64 2)).bind fun b => some (.bool b))).bind fun aE =>
 (M.ret aE).bind fun aF =>
 (guardV aF false (M.lift (padd 0 aA))).bind fun aG =>
 (guardV aF false (load1 aG)).bind fun aH =>
 (guardV aF false (M.lift ((eqV (.sc .int) true aH (V.int .i64 4)).bind fun b => some (.bool b)))).bind fun aI =>
 (M.lift (pickV aF (V.bool true) aI)).bind fun aJ =>
 (M.ret aJ).bind fun aK =>
 M.ret (Ex.ret,[aK])
theorem ferry_port_isOut_eq (G:GV) (n:Nat) (x0:V):sem (cfg G) (n + 1) 146 [x0] = outV (ferry_port_isOut G (sem (cfg G) n) x0) :=
 (fnV_at (C:=cfg G) (n:=n) (f:=146) (fn:=Tryz.f146) (c:=Tryz.f146.body.getD .skip) (by kernel_rfl) (by kernel_rfl) (by kernel_rfl) [x0]).trans (by kernel_rfl)
noncomputable def slices_ContainsFunc_int_int (G:GV) (call:CV) (x0:V) (x1:V):M R :=
 (M.ret (V.bool false)).bind fun aA =>
 (M.ret x0).bind fun aB =>
 (M.ret x1).bind fun aC =>
 (callV (cfg G) call 228 [aB,aC]).bind fun aD =>
 (M.lift (arithV .geq aD (V.int .i64 0))).bind fun aE =>
 (M.ret aE).bind fun aF =>
 M.ret (Ex.ret,[aF])
theorem slices_ContainsFunc_int_int_eq (G:GV) (n:Nat) (x0:V) (x1:V):sem (cfg G) (n + 1) 166 [x0,x1] = outV (slices_ContainsFunc_int_int G (sem (cfg G) n) x0 x1) :=
 (fnV_at (C:=cfg G) (n:=n) (f:=166) (fn:=Tryz.f166) (c:=Tryz.f166.body.getD .skip) (by kernel_rfl) (by kernel_rfl) (by kernel_rfl) [x0,x1]).trans (by kernel_rfl)
noncomputable def slices_ContainsFunc_string_string (G:GV) (call:CV) (x0:V) (x1:V):M R :=
 (M.ret (V.bool false)).bind fun aA =>
 (M.ret x0).bind fun aB =>
 (M.ret x1).bind fun aC =>
 (callV (cfg G) call 229 [aB,aC]).bind fun aD =>
 (M.lift (arithV .geq aD (V.int .i64 0))).bind fun aE =>
 (M.ret aE).bind fun aF =>
 M.ret (Ex.ret,[aF])
theorem slices_ContainsFunc_string_string_eq (G:GV) (n:Nat) (x0:V) (x1:V):sem (cfg G) (n + 1) 170 [x0,x1] = outV (slices_ContainsFunc_string_string G (sem (cfg G) n) x0 x1) :=
 (fnV_at (C:=cfg G) (n:=n) (f:=170) (fn:=Tryz.f170) (c:=Tryz.f170.body.getD .skip) (by kernel_rfl) (by kernel_rfl) (by kernel_rfl) [x0,x1]).trans (by kernel_rfl)
noncomputable def ferry_port_CheckPlan_j1 (G:GV) (call:CV) (aA:V) (aB:V) (aC:V):M R :=
 (loadN 4 aA).bind fun aD =>
 (callV (cfg G) call 142 [aD]).bind fun aE =>
 (M.lift (unV .not aE)).bind fun aF =>
 (M.ret aF).bind fun aG =>
 (guardV aG true (loadN 4 aA)).bind fun aH =>
 (guardV aG true (callV (cfg G) call 146 [aH])).bind fun aI =>
 (guardV aG true (M.lift (unV .not aI))).bind fun aJ =>
 (M.lift (pickV aG aJ (V.bool false))).bind fun aK =>
 (M.ret aK).bind fun aL =>
 (condV aL
 ((load1 (glob (cfg G) 9)).bind fun aM =>
 (M.ret aM).bind fun aN =>
 M.ret (Ex.ret,[aN]))
 ((M.lift (padd 1 aA)).bind fun aO =>
 (load1 aO).bind fun aP =>
 (M.lift (arithV .lss aP (V.int .i64 1))).bind fun aQ =>
 (M.ret aQ).bind fun aR =>
 (guardV aR false (M.lift (padd 1 aA))).bind fun aS =>
 (guardV aR false (load1 aS)).bind fun aT =>
 (guardV aR false (M.lift (arithV .gtr aT (V.int .i64 32)))).bind fun aU =>
 (M.lift (pickV aR (V.bool true) aU)).bind fun aV =>
 (M.ret aV).bind fun aW =>
 (condV aW
 ((load1 (glob (cfg G) 11)).bind fun aX =>
 (M.ret aX).bind fun aY =>
 M.ret (Ex.ret,[aY]))
 ((M.lift (padd 2 aA)).bind fun aZ =>
 (load1 aZ).bind fun bA =>
 (M.lift (arithV .lss bA (V.int .i64 1))).bind fun bB =>
 (M.ret bB).bind fun bC =>
 (guardV bC false (M.lift (padd 2 aA))).bind fun bD =>
 (guardV bC false (load1 bD)).bind fun bE =>
 (guardV bC false (M.ret aB)).bind fun bF =>
 (guardV bC false (M.lift (arithV .gtr bE bF))).bind fun bG =>
 (M.lift (pickV bC (V.bool true) bG)).bind fun bH =>
 (M.ret bH).bind fun bI =>
 (guardV bI false (M.lift (padd 3 aA))).bind fun bJ =>
 (guardV bI false (load1 bJ)).bind fun bK =>
 (guardV bI false (M.lift (arithV .lss bK (V.int .i64 0)))).bind fun bL =>
 (M.lift (pickV bI (V.bool true) bL)).bind fun bM =>
 (M.ret bM).bind fun bN =>
 (guardV bN false (M.lift (padd 3 aA))).bind fun bO =>
 (guardV bN false (load1 bO)).bind fun bP =>
 (guardV bN false (M.ret aC)).bind fun bQ =>
 (guardV bN false (M.lift (arithV .gtr bP bQ))).bind fun bR =>
 (M.lift (pickV bN (V.bool true) bR)).bind fun bS =>
 (M.ret bS).bind fun bT =>
 (condV bT
 ((load1 (glob (cfg G) 6)).bind fun bU =>
 (M.ret bU).bind fun bV =>
 M.ret (Ex.ret,[bV]))
 ((M.ret V.nili).bind fun bW =>
 M.ret (Ex.ret,[bW])))))))
noncomputable def ferry_port_CheckPlan_j2 (G:GV) (call:CV) (aA:V) (aB:V) (aC:V):M R :=
 (M.lift (padd 0 aA)).bind fun aD =>
 (load1 aD).bind fun aE =>
 (M.lift ((eqV (.sc .int) true aE (V.int .i64 1)).bind fun b => some (.bool b))).bind fun aF =>
 (condV aF
 ((M.ret (V.int .i64 255)).bind fun aG =>
 ferry_port_CheckPlan_j1 G call aA aC aG)
 (ferry_port_CheckPlan_j1 G call aA aC aB))
noncomputable def ferry_port_CheckPlan (G:GV) (call:CV) (x0:V):M R :=
 (newV x0).bind fun aA =>
 (M.ret V.nili).bind fun aB =>
 (M.ret (V.int .i64 1)).bind fun aC =>
 (M.ret (V.int .i64 0)).bind fun aD =>
 (loadN 4 aA).bind fun aE =>
 (callV (cfg G) call 143 [aE]).bind fun aF =>
 (condV aF
 ((M.ret (V.int .i64 8)).bind fun aG =>
 ferry_port_CheckPlan_j2 G call aA aD aG)
 (ferry_port_CheckPlan_j2 G call aA aD aC))
theorem ferry_port_CheckPlan_eq (G:GV) (n:Nat) (x0:V):sem (cfg G) (n + 1) 208 [x0] = outV (ferry_port_CheckPlan G (sem (cfg G) n) x0) :=
 (fnV_at (C:=cfg G) (n:=n) (f:=208) (fn:=Tryz.f208) (c:=Tryz.f208.body.getD .skip) (by kernel_rfl) (by kernel_rfl) (by kernel_rfl) [x0]).trans (by kernel_rfl)
noncomputable def ferry_port_fits (G:GV) (call:CV) (x0:V) (x1:V):M R :=
 (newV x0).bind fun aA =>
 (newV x1).bind fun aB =>
 (M.ret (V.bool false)).bind fun aC =>
 (M.lift (padd 0 aB)).bind fun aD =>
 (load1 aD).bind fun aE =>
 (M.lift (lenV aE)).bind fun aF =>
 (M.lift (padd 2 aA)).bind fun aG =>
 (load1 aG).bind fun aH =>
 (M.lift (arithV .gtr aF aH)).bind fun aI =>
 (M.ret aI).bind fun aJ =>
 (guardV aJ false (M.lift (padd 1 aB))).bind fun aK =>
 (guardV aJ false (load1 aK)).bind fun aL =>
 (guardV aJ false (M.lift (arithV .lss aL (V.int .i64 0)))).bind fun aM =>
 (M.lift (pickV aJ (V.bool true) aM)).bind fun aN =>
 (M.ret aN).bind fun aO =>
 (guardV aO false (M.lift (padd 1 aB))).bind fun aP =>
 (guardV aO false (load1 aP)).bind fun aQ =>
 (guardV aO false (M.lift (arithV .gtr aQ (V.int .i64 255)))).bind fun aR =>
 (M.lift (pickV aO (V.bool true) aR)).bind fun aS =>
 (condV aS
 ((M.ret (V.bool false)).bind fun aT =>
 M.ret (Ex.ret,[aT]))
 ((M.lift (padd 1 aB)).bind fun aU =>
 (load1 aU).bind fun aV =>
 (M.lift ((eqV (.sc .int) true aV (V.int .i64 0)).bind fun b => some (.bool !b))).bind fun aW =>
 (M.ret aW).bind fun aX =>
 (guardV aX true (M.lift (padd 0 aA))).bind fun aY =>
 (guardV aX true (load1 aY)).bind fun aZ =>
 (guardV aX true (M.lift ((eqV (.sc .int) true aZ (V.int .i64 1)).bind fun b => some (.bool !b)))).bind fun bA =>
 (guardV aX true (M.ret bA)).bind fun bB =>
 (guardV bB false (M.lift (padd 0 aB))).bind fun bC =>
 (guardV bB false (load1 bC)).bind fun bD =>
 (guardV bB false (M.lift (lenV bD))).bind fun bE =>
 (guardV bB false (M.lift ((eqV (.sc .int) true bE (V.int .i64 0)).bind fun b => some (.bool b)))).bind fun bF =>
 (guardV aX true (M.lift (pickV bB (V.bool true) bF))).bind fun bG =>
 (M.lift (pickV aX bG (V.bool false))).bind fun bH =>
 (condV bH
 ((M.ret (V.bool false)).bind fun bI =>
 M.ret (Ex.ret,[bI]))
 ((M.lift (padd 0 aB)).bind fun bJ =>
 (load1 bJ).bind fun bK =>
 (M.ret (V.fn 242 [aA])).bind fun bL =>
 (callV (cfg G) call 170 [bK,bL]).bind fun bM =>
 (M.lift (unV .not bM)).bind fun bN =>
 (M.ret bN).bind fun bO =>
 M.ret (Ex.ret,[bO])))))
theorem ferry_port_fits_eq (G:GV) (n:Nat) (x0:V) (x1:V):sem (cfg G) (n + 1) 209 [x0,x1] = outV (ferry_port_fits G (sem (cfg G) n) x0 x1) :=
 (fnV_at (C:=cfg G) (n:=n) (f:=209) (fn:=Tryz.f209) (c:=Tryz.f209.body.getD .skip) (by kernel_rfl) (by kernel_rfl) (by kernel_rfl) [x0,x1]).trans (by kernel_rfl)
noncomputable def slices_Clip_string_string (G:GV) (call:CV) (x0:V):M R :=
 (M.ret V.nils).bind fun aA =>
 (M.ret x0).bind fun aB =>
 (M.ret x0).bind fun aC =>
 (M.lift (lenV aC)).bind fun aD =>
 (M.ret x0).bind fun aE =>
 (M.lift (lenV aE)).bind fun aF =>
 (M.lift (slV 1 aB none (some aD) (some aF))).bind fun aG =>
 (M.ret aG).bind fun aH =>
 M.ret (Ex.ret,[aH])
theorem slices_Clip_string_string_eq (G:GV) (n:Nat) (x0:V):sem (cfg G) (n + 1) 210 [x0] = outV (slices_Clip_string_string G (sem (cfg G) n) x0) :=
 (fnV_at (C:=cfg G) (n:=n) (f:=210) (fn:=Tryz.f210) (c:=Tryz.f210.body.getD .skip) (by kernel_rfl) (by kernel_rfl) (by kernel_rfl) [x0]).trans (by kernel_rfl)
noncomputable def slices_IndexFunc_string_string_l1 (G:GV) (call:CV) (aA:V) (x1:V) (x0:V) (aB:List V):M R :=
 (M.lift (arithV .lss (aB.getD 1 V.undef) aA)).bind fun aC =>
 (condV aC
 ((M.ret (aB.getD 1 V.undef)).bind fun aD =>
 (M.ret aD).bind fun aE =>
 (M.ret x1).bind fun aF =>
 (M.ret x0).bind fun aG =>
 (M.ret aE).bind fun aH =>
 (M.lift (idxV 1 aG aH)).bind fun aI =>
 (load1 aI).bind fun aJ =>
 (callFn (cfg G) call aF [aJ]).bind fun aK =>
 (condV aK
 ((M.ret aE).bind fun aL =>
 (M.ret aL).bind fun aM =>
 M.ret (Ex.ret,[aM,(aB.getD 1 V.undef)]))
 ((M.lift (arithV .add (aB.getD 1 V.undef) (V.int .i64 1))).bind fun aN =>
 (M.ret aN).bind fun aO =>
 M.ret (Ex.normal,[(aB.getD 0 V.undef),aO]))))
 (M.ret ((Ex.exit 0),[(aB.getD 0 V.undef),(aB.getD 1 V.undef)])))
noncomputable def slices_IndexFunc_string_string (G:GV) (call:CV) (x0:V) (x1:V):M R :=
 (M.ret (V.int .i64 0)).bind fun aA =>
 (M.ret x0).bind fun aB =>
 (M.lift (lenV aB)).bind fun aC =>
 (M.ret (V.int .i64 0)).bind fun aD =>
 (loopV (slices_IndexFunc_string_string_l1 G call aC x1 x0) [aA,aD]).bind fun aE => match aE.1 with
 | .normal => M.fail
 | .exit k0_20 =>
 (if k0_20 = 0 then
 (M.ret (V.int .i64 (-1))).bind fun aF =>
 M.ret (Ex.ret,[aF])
 else M.fail)
 | .ret =>
 M.ret (Ex.ret,[(aE.2.getD 0 V.undef)])
theorem slices_IndexFunc_string_string_eq (G:GV) (n:Nat) (x0:V) (x1:V):sem (cfg G) (n + 1) 229 [x0,x1] = outV (slices_IndexFunc_string_string G (sem (cfg G) n) x0 x1) :=
 (fnV_at (C:=cfg G) (n:=n) (f:=229) (fn:=Tryz.f229) (c:=Tryz.f229.body.getD .skip) (by kernel_rfl) (by kernel_rfl) (by kernel_rfl) [x0,x1]).trans (by kernel_rfl)
noncomputable def ferry_port_fits_1 (G:GV) (call:CV) (x0:V) (x1:V):M R :=
 (M.ret (V.bool false)).bind fun aA =>
 (M.ret x0).bind fun aB =>
 (M.lift (lenS aB)).bind fun aC =>
 (M.lift (padd 1 x1)).bind fun aD =>
 (load1 aD).bind fun aE =>
 (M.lift (arithV .gtr aC aE)).bind fun aF =>
 (M.ret aF).bind fun aG =>
 M.ret (Ex.ret,[aG])
theorem ferry_port_fits_1_eq (G:GV) (n:Nat) (x0:V) (x1:V):sem (cfg G) (n + 1) 242 [x0,x1] = outV (ferry_port_fits_1 G (sem (cfg G) n) x0 x1) :=
 (fnV_at (C:=cfg G) (n:=n) (f:=242) (fn:=Tryz.f242) (c:=Tryz.f242.body.getD .skip) (by kernel_rfl) (by kernel_rfl) (by kernel_rfl) [x0,x1]).trans (by kernel_rfl)
noncomputable def ferry_port_Most (G:GV) (call:CV) (x0:V):M R :=
 (newV x0).bind fun aA =>
 (M.ret (V.int .i64 0)).bind fun aB =>
 (M.ret V.nili).bind fun aC =>
 (loadN 4 aA).bind fun aD =>
 (callV (cfg G) call 208 [aD]).bind fun aE =>
 (M.lift ((eqV .iface true aE V.nili).bind fun b => some (.bool !b))).bind fun aF =>
 (condV aF
 (((load1 (glob (cfg G) 1)).bind fun aG =>
 (M.ret (V.int .i64 0)).bind fun aH =>
 (M.ret aG).bind fun aI =>
 M.ret (Ex.ret,[V.tuple [aH,aI]])))
 ((loadN 4 aA).bind fun aJ =>
 (callV (cfg G) call 146 [aJ]).bind fun aK =>
 (condV aK
 ((M.ret (V.int .i64 2)).bind fun aL =>
 (M.ret V.nili).bind fun aM =>
 M.ret (Ex.ret,[V.tuple [aL,aM]]))
 ((M.lift (padd 2 aA)).bind fun aN =>
 (load1 aN).bind fun aO =>
 (M.lift (padd 1 aA)).bind fun aP =>
 (load1 aP).bind fun aQ =>
 (M.lift (arithV .add (V.int .i64 1) aQ)).bind fun aR =>
 (M.lift (arithV .mul aO aR)).bind fun aS =>
 (M.lift (arithV .add (V.int .i64 2) aS)).bind fun aT =>
 (M.ret aT).bind fun aU =>
 (M.ret V.nili).bind fun aV =>
 M.ret (Ex.ret,[V.tuple [aU,aV]])))))
theorem ferry_port_Most_eq (G:GV) (n:Nat) (x0:V):sem (cfg G) (n + 1) 246 [x0] = outV (ferry_port_Most G (sem (cfg G) n) x0) :=
 (fnV_at (C:=cfg G) (n:=n) (f:=246) (fn:=Tryz.f246) (c:=Tryz.f246.body.getD .skip) (by kernel_rfl) (by kernel_rfl) (by kernel_rfl) [x0]).trans (by kernel_rfl)
end Go.Fv.Tr

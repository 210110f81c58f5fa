/-
  The Go functions ferry/sys.Do, (*ferry/sys.caller).yield, (*ferry/sys.caller).stop, (*ferr By an AI agent; no person has read it.
-/
import Derived.Test.YtekncgjkocgioaaGreatDoorFvP01
set_option linter.unusedVariables false
set_option linter.unusedSimpArgs false
set_option linter.unusedSectionVars false
/-! The Go functions ferry/sys.Do, (*ferry/sys.caller).yield, (*ferry/sys.caller).stop, (*ferr -/
namespace Go.Fv.Tr
open Go Go.Fv Go.Proofs
set_option maxRecDepth 20000
noncomputable def ferry_sys_Do (G:GV) (call:CV) (x0:V) (x1:V) (x2:V) (x3:V) (x4:V):M R :=
 (newV x0).bind fun aA =>
 (newV x1).bind fun aB =>
 (newV (.agg [(V.int .i64 0),(V.int .i64 0),(V.int .i64 0),V.nils,V.nils,V.nils,V.nils,V.nils,V.nils,V.nils,V.nils,(V.int .i64 0)])).bind fun aC =>
 (M.ret V.nili).bind fun aD =>
 (loadN 7 aA).bind fun aE =>
 (loadN 10 aB).bind fun aF =>
 (callV (cfg G) call 17 [aE,aF]).bind fun aG =>
 (M.ret aG).bind fun aH =>
 (M.ret aH).bind fun aI =>
 (M.lift ((eqV .iface true aI V.nili).bind fun b => some (.bool !b))).bind fun aJ =>
 (condV aJ
 ((M.lift (buildV [(V.int .i64 0),(V.int .i64 0),(V.int .i64 0),V.nils,V.nils,V.nils,V.nils,V.nils,V.nils,V.nils,V.nils,(V.int .i64 0)] [])).bind fun aK =>
 (M.ret aH).bind fun aL =>
 (storeN 12 aC aK).bind fun _ =>
 (M.ret aL).bind fun aM =>
 (((loadN 12 aC)).bind fun v => ((M.ret []).bind fun l => M.ret (aM :: l)).bind fun l => M.ret (v :: l)).bind fun l => M.ret (Ex.ret,tupV l))
 ((M.ret x2).bind fun aN =>
 (M.lift (arithV .lss aN (V.int .i64 0))).bind fun aO =>
 (M.ret aO).bind fun aP =>
 (guardV aP false (M.ret x2)).bind fun aQ =>
 (guardV aP false (M.lift (padd 3 aB))).bind fun aR =>
 (guardV aP false (load1 aR)).bind fun aS =>
 (guardV aP false (M.lift (lenV aS))).bind fun aT =>
 (guardV aP false (M.lift (arithV .geq aQ aT))).bind fun aU =>
 (M.lift (pickV aP (V.bool true) aU)).bind fun aV =>
 (M.ret aV).bind fun aW =>
 (guardV aW false (M.lift (padd 3 aB))).bind fun aX =>
 (guardV aW false (load1 aX)).bind fun aY =>
 (guardV aW false (M.ret x2)).bind fun aZ =>
 (guardV aW false (M.lift (idxV 21 aY aZ))).bind fun bA =>
 (guardV aW false (M.lift (padd 17 bA))).bind fun bB =>
 (guardV aW false (load1 bB)).bind fun bC =>
 (guardV aW false (M.lift ((eqV (.sc .int) true bC (V.int .i64 1)).bind fun b => some (.bool !b)))).bind fun bD =>
 (M.lift (pickV aW (V.bool true) bD)).bind fun bE =>
 (M.ret bE).bind fun bF =>
 (guardV bF false (M.ret x4)).bind fun bG =>
 (guardV bF false (M.lift (arithV .lss bG (V.int .i64 0)))).bind fun bH =>
 (M.lift (pickV bF (V.bool true) bH)).bind fun bI =>
 (M.ret bI).bind fun bJ =>
 (guardV bJ false (M.ret x4)).bind fun bK =>
 (guardV bJ false (M.lift (arithV .gtr bK (V.int .i64 10000)))).bind fun bL =>
 (M.lift (pickV bJ (V.bool true) bL)).bind fun bM =>
 (condV bM
 (((M.lift (buildV [(V.int .i64 0),(V.int .i64 0),(V.int .i64 0),V.nils,V.nils,V.nils,V.nils,V.nils,V.nils,V.nils,V.nils,(V.int .i64 0)] [])).bind fun bN =>
 (load1 (glob (cfg G) 0)).bind fun bO =>
 guardM (apartV (glob (cfg G) 0) aC && true) (
 (storeN 12 aC bN).bind fun _ =>
 (M.ret bO).bind fun bP =>
 (((loadN 12 aC)).bind fun v => ((M.ret []).bind fun l => M.ret (bP :: l)).bind fun l => M.ret (v :: l)).bind fun l => M.ret (Ex.ret,tupV l))))
 ((callV (cfg G) call 26 []).bind fun bQ =>
 (M.ret bQ).bind fun bR =>
 (M.ret x3).bind fun bS =>
 (M.lift (arithV .lss bS (V.int .i64 0))).bind fun bT =>
 (M.ret bT).bind fun bU =>
 (guardV bU false (M.ret x3)).bind fun bV =>
 (guardV bU false (M.ret bR)).bind fun bW =>
 (guardV bU false (M.lift (lenV bW))).bind fun bX =>
 (guardV bU false (M.lift (arithV .geq bV bX))).bind fun bY =>
 (M.lift (pickV bU (V.bool true) bY)).bind fun bZ =>
 (condV bZ
 ((loadN 10 aB).bind fun cA =>
 (callV (cfg G) call 27 [cA]).bind fun cB =>
 (M.lift (buildV [(V.int .i64 0),(V.int .i64 0),(V.int .i64 0),V.nils,V.nils,V.nils,V.nils,V.nils,V.nils,V.nils,V.nils,(V.int .i64 0)] [(0,10,cB),(11,1,(V.int .i64 8))])).bind fun cC =>
 (storeN 12 aC cC).bind fun _ =>
 (M.ret V.nili).bind fun cD =>
 (((loadN 12 aC)).bind fun v => ((M.ret []).bind fun l => M.ret (cD :: l)).bind fun l => M.ret (v :: l)).bind fun l => M.ret (Ex.ret,tupV l))
 ((getN.bind fun cE =>
 (loadN 7 aA).bind fun cF =>
 getN.bind fun cG =>
 (loadN 10 aB).bind fun cH =>
 getN.bind fun cI =>
 (qrun (visB cE [(cG,cI,true),(cE,cG,false)]) (callV (cfg G) call 27 [cH])).bind fun cJ =>
 (M.ret x2).bind fun cK =>
 (M.ret x4).bind fun cL =>
 (M.lift (buildV [(V.int .i64 0),(V.bool false),V.nils,V.nils,V.nils,(V.int .i64 0),V.nils,(V.int .i64 0),(V.int .i64 0),(V.int .i64 0),V.nils,V.nils,V.nils,V.nils,V.nils,V.nils,V.nils,(V.int .i64 0),(V.int .i64 0),V.nils,(V.int .i64 0)] [(0,7,cF),(7,10,cJ),(17,1,cK),(18,1,cL)])).bind fun cM =>
 (newV cM).bind fun cN =>
 (M.ret cN).bind fun cO =>
 (M.ret bR).bind fun cP =>
 (M.ret x3).bind fun cQ =>
 (M.lift (idxV 3 cP cQ)).bind fun cR =>
 (M.lift (padd 2 cR)).bind fun cS =>
 (load1 cS).bind fun cT =>
 (M.ret cO).bind fun cU =>
 (callFn (cfg G) call cT [cU]).bind fun cV =>
 (M.ret cO).bind fun cW =>
 (M.lift (nilCheckV cW)).bind fun cX =>
 (M.lift (padd 20 cX)).bind fun cY =>
 (load1 cY).bind fun cZ =>
 (M.lift ((eqV (.sc .int) true cZ (V.int .i64 0)).bind fun b => some (.bool !b))).bind fun dA =>
 (condV dA
 ((getN.bind fun dB =>
 (loadN 10 aB).bind fun dC =>
 getN.bind fun dD =>
 (qrun (visB dB [(dB,dD,true)]) (callV (cfg G) call 27 [dC])).bind fun dE =>
 (M.ret cO).bind fun dF =>
 (M.lift (nilCheckV dF)).bind fun dG =>
 (M.lift (padd 20 dG)).bind fun dH =>
 (load1 dH).bind fun dI =>
 (M.lift (buildV [(V.int .i64 0),(V.int .i64 0),(V.int .i64 0),V.nils,V.nils,V.nils,V.nils,V.nils,V.nils,V.nils,V.nils,(V.int .i64 0)] [(0,10,dE),(11,1,dI)])).bind fun dJ =>
 (storeN 12 aC dJ).bind fun _ =>
 (M.ret V.nili).bind fun dK =>
 (((loadN 12 aC)).bind fun v => ((M.ret []).bind fun l => M.ret (dK :: l)).bind fun l => M.ret (v :: l)).bind fun l => M.ret (Ex.ret,tupV l)))
 (((M.ret cO).bind fun dL =>
 (M.lift (nilCheckV dL)).bind fun dM =>
 (M.lift (padd 7 dM)).bind fun dN =>
 (loadN 10 dN).bind fun dO =>
 (M.ret cO).bind fun dP =>
 (M.lift (nilCheckV dP)).bind fun dQ =>
 (M.lift (padd 19 dQ)).bind fun dR =>
 (load1 dR).bind fun dS =>
 (M.lift (buildV [(V.int .i64 0),(V.int .i64 0),(V.int .i64 0),V.nils,V.nils,V.nils,V.nils,V.nils,V.nils,V.nils,V.nils,(V.int .i64 0)] [(0,10,dO),(10,1,dS)])).bind fun dT =>
 (storeN 12 aC dT).bind fun _ =>
 (M.ret V.nili).bind fun dU =>
 (((loadN 12 aC)).bind fun v => ((M.ret []).bind fun l => M.ret (dU :: l)).bind fun l => M.ret (v :: l)).bind fun l => M.ret (Ex.ret,tupV l)))))))))))
theorem ferry_sys_Do_eq (G:GV) (n:Nat) (x0:V) (x1:V) (x2:V) (x3:V) (x4:V):sem (cfg G) (n + 1) 10 [x0,x1,x2,x3,x4] = outV (ferry_sys_Do G (sem (cfg G) n) x0 x1 x2 x3 x4) :=
 (fnV_at (C:=cfg G) (n:=n) (f:=10) (fn:=Tryz.f10) (c:=Tryz.f10.body.getD .skip) (by kernel_rfl) (by kernel_rfl) (by kernel_rfl) [x0,x1,x2,x3,x4]).trans (by kernel_rfl)
noncomputable def ferry_sys_caller_read (G:GV) (call:CV) (x0:V):M R :=
 (M.ret x0).bind fun aA =>
 (M.ret x0).bind fun aB =>
 (M.lift (nilCheckV aB)).bind fun aC =>
 (M.lift (padd 0 aC)).bind fun aD =>
 (M.lift (padd 4 aD)).bind fun aE =>
 (load1 aE).bind fun aF =>
 (M.lift (lenV aF)).bind fun aG =>
 (callV (cfg G) call 87 [aA,aG]).bind fun aH =>
 (M.ret aH).bind fun aI =>
 (M.lift (extractV aI 0)).bind fun aJ =>
 (M.lift (extractV aI 1)).bind fun aK =>
 (M.ret aJ).bind fun aL =>
 (M.ret aK).bind fun aM =>
 (M.ret aM).bind fun aN =>
 (M.lift (unV .not aN)).bind fun aO =>
 (M.ret aO).bind fun aP =>
 (guardV aP false (M.ret x0)).bind fun aQ =>
 (guardV aP false (M.ret aL)).bind fun aR =>
 (guardV aP false (callV (cfg G) call 97 [aQ,aR,(V.int .i64 1),(V.int .i64 3)])).bind fun aS =>
 (guardV aP false (M.lift (unV .not aS))).bind fun aT =>
 (M.lift (pickV aP (V.bool true) aT)).bind fun aU =>
 (condV aU
 (M.ret (Ex.ret,[V.tuple []]))
 ((getN.bind fun aV =>
 (M.ret x0).bind fun aW =>
 getN.bind fun aX =>
 (M.lift (nilCheckV aW)).bind fun aY =>
 getN.bind fun aZ =>
 (M.lift (padd 0 aY)).bind fun bA =>
 getN.bind fun bB =>
 (M.lift (padd 4 bA)).bind fun bC =>
 getN.bind fun bD =>
 (load1 bC).bind fun bE =>
 getN.bind fun bF =>
 (M.ret aL).bind fun bG =>
 getN.bind fun bH =>
 (M.lift (idxV 4 bE bG)).bind fun bI =>
 getN.bind fun bJ =>
 (loadN 4 bI).bind fun bK =>
 getN.bind fun bL =>
 (M.ret x0).bind fun bM =>
 getN.bind fun bN =>
 (M.lift (nilCheckV bM)).bind fun bO =>
 getN.bind fun bP =>
 (M.lift (padd 7 bO)).bind fun bQ =>
 getN.bind fun bR =>
 (M.lift (padd 8 bQ)).bind fun bS =>
 getN.bind fun bT =>
 (load1 bS).bind fun bU =>
 getN.bind fun bV =>
 (M.ret aL).bind fun bW =>
 getN.bind fun bX =>
 (M.lift (idxV 2 bU bW)).bind fun bY =>
 getN.bind fun bZ =>
 (loadN 2 bY).bind fun cA =>
 getN.bind fun cB =>
 (qrun (visB aV [(bZ,cB,true),(bX,bZ,true),(bV,bX,true),(bT,bV,true),(bR,bT,true),(bP,bR,true),(bN,bP,true),(bL,bN,true),(bJ,bL,true),(bH,bJ,true),(bF,bH,true),(bD,bF,true),(bB,bD,true),(aZ,bB,true),(aX,aZ,true),(aV,aX,true)]) (callV (cfg G) call 98 [bK,cA])).bind fun cC =>
 getN.bind fun cD =>
 (M.ret cC).bind fun cE =>
 getN.bind fun cF =>
 (M.lift (extractV cE 0)).bind fun cG =>
 getN.bind fun cH =>
 (M.lift (extractV cE 1)).bind fun cI =>
 getN.bind fun cJ =>
 (M.lift (extractV cE 2)).bind fun cK =>
 getN.bind fun cL =>
 (M.lift (extractV cE 3)).bind fun cM =>
 getN.bind fun cN =>
 (newV (.agg [V.nils,(V.int .i64 0)])).bind fun cO =>
 getN.bind fun cP =>
 (storeN 2 cO cG).bind fun _ =>
 getN.bind fun cQ =>
 (M.ret cI).bind fun cR =>
 getN.bind fun cS =>
 (M.ret cK).bind fun cT =>
 getN.bind fun cU =>
 (M.ret cM).bind fun cV =>
 getN.bind fun cW =>
 (M.ret cV).bind fun cX =>
 (M.lift ((eqV .iface true cX V.nili).bind fun b => some (.bool !b))).bind fun cY =>
 (condV cY
 ((M.ret x0).bind fun cZ =>
 (callV (cfg G) call 82 [cZ,(V.int .u32 4294967292)]).bind fun dA =>
 M.ret (Ex.ret,[V.tuple []]))
 ((getN.bind fun dB =>
 (M.ret x0).bind fun dC =>
 getN.bind fun dD =>
 (M.lift (nilCheckV dC)).bind fun dE =>
 getN.bind fun dF =>
 (M.lift (padd 7 dE)).bind fun dG =>
 getN.bind fun dH =>
 (M.lift (padd 9 dG)).bind fun dI =>
 getN.bind fun dJ =>
 (load1 dI).bind fun dK =>
 getN.bind fun dL =>
 (M.ret x0).bind fun dM =>
 getN.bind fun dN =>
 (qrun (visB dB [(dL,dN,true),(dJ,dL,false),(dH,dJ,false),(dF,dH,false),(dD,dF,false),(dB,dD,false)]) (callV (cfg G) call 89 [dM,(V.int .i64 2)])).bind fun dO =>
 getN.bind fun dP =>
 (M.ret cR).bind fun dQ =>
 getN.bind fun dR =>
 (qrun (visB dB [(dP,dR,true),(dN,dP,true),(dL,dN,true),(dJ,dL,true),(dH,dJ,true),(dF,dH,true),(dD,dF,true),(dB,dD,true)]) (callV (cfg G) call 12 [dK,dO,dQ])).bind fun dS =>
 getN.bind fun dT =>
 (M.ret dS).bind fun dU =>
 getN.bind fun dV =>
 (M.lift (extractV dU 0)).bind fun dW =>
 getN.bind fun dX =>
 (M.lift (extractV dU 1)).bind fun dY =>
 getN.bind fun dZ =>
 (M.ret dW).bind fun eA =>
 getN.bind fun eB =>
 (M.ret dY).bind fun eC =>
 getN.bind fun eD =>
 (M.ret eC).bind fun eE =>
 (M.lift ((eqV (.sc .int) true eE (V.int .i64 0)).bind fun b => some (.bool !b))).bind fun eF =>
 (condV eF
 ((M.ret x0).bind fun eG =>
 (M.ret eC).bind fun eH =>
 (M.lift (nilCheckV eG)).bind fun eI =>
 (M.lift (padd 20 eI)).bind fun eJ =>
 (storeN 1 eJ eH).bind fun _ =>
 M.ret (Ex.ret,[V.tuple []]))
 ((M.ret x0).bind fun eK =>
 (M.ret eA).bind fun eL =>
 (callV (cfg G) call 29 [eL]).bind fun eM =>
 (M.lift (nilCheckV eK)).bind fun eN =>
 (M.lift (padd 7 eN)).bind fun eO =>
 (M.lift (padd 9 eO)).bind fun eP =>
 (storeN 1 eP eM).bind fun _ =>
 (getN.bind fun eQ =>
 (M.ret x0).bind fun eR =>
 getN.bind fun eS =>
 (M.lift (nilCheckV eR)).bind fun eT =>
 getN.bind fun eU =>
 (M.lift (padd 7 eT)).bind fun eV =>
 getN.bind fun eW =>
 (M.lift (padd 8 eV)).bind fun eX =>
 getN.bind fun eY =>
 (load1 eX).bind fun eZ =>
 getN.bind fun fA =>
 (M.ret aL).bind fun fB =>
 getN.bind fun fC =>
 (loadN 2 cO).bind fun fD =>
 getN.bind fun fE =>
 (M.lift (idxV 2 eZ fB)).bind fun fF =>
 getN.bind fun fG =>
 (storeN 2 fF fD).bind fun _ =>
 getN.bind fun fH =>
 (M.ret x0).bind fun fI =>
 (M.ret cR).bind fun fJ =>
 (M.lift (lenS fJ)).bind fun fK =>
 (M.lift (convI .u32 fK)).bind fun fL =>
 (callV (cfg G) call 82 [fI,fL]).bind fun fM =>
 (getN.bind fun fN =>
 (M.ret x0).bind fun fO =>
 getN.bind fun fP =>
 (M.lift (nilCheckV fO)).bind fun fQ =>
 getN.bind fun fR =>
 (M.lift (padd 7 fQ)).bind fun fS =>
 getN.bind fun fT =>
 (M.lift (padd 3 fS)).bind fun fU =>
 getN.bind fun fV =>
 (load1 fU).bind fun fW =>
 getN.bind fun fX =>
 (M.ret x0).bind fun fY =>
 getN.bind fun fZ =>
 (M.lift (nilCheckV fY)).bind fun gA =>
 getN.bind fun gB =>
 (M.lift (padd 17 gA)).bind fun gC =>
 getN.bind fun gD =>
 (load1 gC).bind fun gE =>
 getN.bind fun gF =>
 (M.lift (idxV 21 fW gE)).bind fun gG =>
 getN.bind fun gH =>
 (M.lift (padd 0 gG)).bind fun gI =>
 getN.bind fun gJ =>
 (M.lift (aidxV 16 1 gI (V.int .i64 2))).bind fun gK =>
 getN.bind fun gL =>
 (storeN 1 gK (V.int .u32 0)).bind fun _ =>
 getN.bind fun gM =>
 (M.ret cT).bind fun gN =>
 (condV gN
 ((getN.bind fun gO =>
 (M.ret x0).bind fun gP =>
 getN.bind fun gQ =>
 (M.lift (nilCheckV gP)).bind fun gR =>
 getN.bind fun gS =>
 (M.lift (padd 7 gR)).bind fun gT =>
 getN.bind fun gU =>
 (M.lift (padd 3 gT)).bind fun gV =>
 getN.bind fun gW =>
 (load1 gV).bind fun gX =>
 getN.bind fun gY =>
 (M.ret x0).bind fun gZ =>
 getN.bind fun hA =>
 (M.lift (nilCheckV gZ)).bind fun hB =>
 getN.bind fun hC =>
 (M.lift (padd 17 hB)).bind fun hD =>
 getN.bind fun hE =>
 (load1 hD).bind fun hF =>
 getN.bind fun hG =>
 (M.lift (idxV 21 gX hF)).bind fun hH =>
 getN.bind fun hI =>
 (M.lift (padd 0 hH)).bind fun hJ =>
 getN.bind fun hK =>
 (M.lift (aidxV 16 1 hJ (V.int .i64 2))).bind fun hL =>
 getN.bind fun hM =>
 (storeN 1 hL (V.int .u32 1)).bind fun _ =>
 getN.bind fun hN =>
 M.ret (Ex.ret,[V.tuple []])))
 (M.ret (Ex.ret,[V.tuple []])))))))))))))
theorem ferry_sys_caller_read_eq (G:GV) (n:Nat) (x0:V):sem (cfg G) (n + 1) 51 [x0] = outV (ferry_sys_caller_read G (sem (cfg G) n) x0) :=
 (fnV_atM (C:=cfg G) (n:=n) (f:=51) (fn:=Tryz.f51) (c:=Tryz.f51.body.getD .skip) (by kernel_rfl) (by kernel_rfl) (by kernel_rfl) [x0]).trans (by kernel_rfl)
noncomputable def ferry_sys_caller_write (G:GV) (call:CV) (x0:V):M R :=
 (M.ret x0).bind fun aA =>
 (M.ret x0).bind fun aB =>
 (M.lift (nilCheckV aB)).bind fun aC =>
 (M.lift (padd 0 aC)).bind fun aD =>
 (M.lift (padd 4 aD)).bind fun aE =>
 (load1 aE).bind fun aF =>
 (M.lift (lenV aF)).bind fun aG =>
 (callV (cfg G) call 87 [aA,aG]).bind fun aH =>
 (M.ret aH).bind fun aI =>
 (M.lift (extractV aI 0)).bind fun aJ =>
 (M.lift (extractV aI 1)).bind fun aK =>
 (M.ret aJ).bind fun aL =>
 (M.ret aK).bind fun aM =>
 (M.ret aM).bind fun aN =>
 (M.lift (unV .not aN)).bind fun aO =>
 (M.ret aO).bind fun aP =>
 (guardV aP false (M.ret x0)).bind fun aQ =>
 (guardV aP false (M.ret aL)).bind fun aR =>
 (guardV aP false (callV (cfg G) call 97 [aQ,aR,(V.int .i64 2),(V.int .i64 4)])).bind fun aS =>
 (guardV aP false (M.lift (unV .not aS))).bind fun aT =>
 (M.lift (pickV aP (V.bool true) aT)).bind fun aU =>
 (condV aU
 (M.ret (Ex.ret,[V.tuple []]))
 ((M.ret x0).bind fun aV =>
 (M.lift (nilCheckV aV)).bind fun aW =>
 (M.lift (padd 0 aW)).bind fun aX =>
 (M.lift (padd 4 aX)).bind fun aY =>
 (load1 aY).bind fun aZ =>
 (M.ret aL).bind fun bA =>
 (M.lift (idxV 4 aZ bA)).bind fun bB =>
 (loadN 4 bB).bind fun bC =>
 (newV (.agg [(V.int .i64 0),(V.int .i64 0),(V.int .i64 0),(V.int .i64 0)])).bind fun bD =>
 (storeN 4 bD bC).bind fun _ =>
 (getN.bind fun bE =>
 (M.ret x0).bind fun bF =>
 getN.bind fun bG =>
 (qrun (visB bE [(bE,bG,true)]) (callV (cfg G) call 89 [bF,(V.int .i64 3)])).bind fun bH =>
 getN.bind fun bI =>
 (M.lift (padd 1 bD)).bind fun bJ =>
 getN.bind fun bK =>
 (load1 bJ).bind fun bL =>
 getN.bind fun bM =>
 (M.lift (convI .u32 bL)).bind fun bN =>
 getN.bind fun bO =>
 (M.lift (arithV .gtr bH bN)).bind fun bP =>
 getN.bind fun bQ =>
 (condV bP
 ((M.ret x0).bind fun bR =>
 (callV (cfg G) call 82 [bR,(V.int .u32 4294967295)]).bind fun bS =>
 M.ret (Ex.ret,[V.tuple []]))
 ((getN.bind fun bT =>
 (M.lift (padd 0 bD)).bind fun bU =>
 getN.bind fun bV =>
 (load1 bU).bind fun bW =>
 getN.bind fun bX =>
 (M.lift ((eqV (.sc .int) true bW (V.int .i64 4)).bind fun b => some (.bool b))).bind fun bY =>
 getN.bind fun bZ =>
 (M.ret bY).bind fun cA =>
 getN.bind fun cB =>
 (guardV cA true (M.ret x0)).bind fun cC =>
 getN.bind fun cD =>
 (guardV cA true (M.lift (nilCheckV cC))).bind fun cE =>
 getN.bind fun cF =>
 (guardV cA true (M.lift (padd 7 cE))).bind fun cG =>
 getN.bind fun cH =>
 (guardV cA true (M.lift (padd 8 cG))).bind fun cI =>
 getN.bind fun cJ =>
 (guardV cA true (load1 cI)).bind fun cK =>
 getN.bind fun cL =>
 (guardV cA true (M.ret aL)).bind fun cM =>
 getN.bind fun cN =>
 (guardV cA true (M.lift (idxV 2 cK cM))).bind fun cO =>
 getN.bind fun cP =>
 (guardV cA true (M.lift (padd 0 cO))).bind fun cQ =>
 getN.bind fun cR =>
 (guardV cA true (load1 cQ)).bind fun cS =>
 getN.bind fun cT =>
 (guardV cA true (M.lift (lenV cS))).bind fun cU =>
 getN.bind fun cV =>
 (guardV cA true (M.lift (padd 2 bD))).bind fun cW =>
 getN.bind fun cX =>
 (guardV cA true (load1 cW)).bind fun cY =>
 getN.bind fun cZ =>
 (guardV cA true (M.lift (arithV .geq cU cY))).bind fun dA =>
 getN.bind fun dB =>
 (M.lift (pickV cA dA (V.bool false))).bind fun dC =>
 getN.bind fun dD =>
 (condV dC
 ((M.ret x0).bind fun dE =>
 (callV (cfg G) call 82 [dE,(V.int .u32 4294967293)]).bind fun dF =>
 M.ret (Ex.ret,[V.tuple []]))
 ((getN.bind fun dG =>
 (M.ret x0).bind fun dH =>
 getN.bind fun dI =>
 (M.lift (nilCheckV dH)).bind fun dJ =>
 getN.bind fun dK =>
 (M.lift (padd 7 dJ)).bind fun dL =>
 getN.bind fun dM =>
 (M.lift (padd 9 dL)).bind fun dN =>
 getN.bind fun dO =>
 (load1 dN).bind fun dP =>
 getN.bind fun dQ =>
 (M.ret x0).bind fun dR =>
 getN.bind fun dS =>
 (qrun (visB dG [(dQ,dS,true),(dO,dQ,false),(dM,dO,false),(dK,dM,false),(dI,dK,false),(dG,dI,false)]) (callV (cfg G) call 89 [dR,(V.int .i64 2)])).bind fun dT =>
 getN.bind fun dU =>
 (M.ret x0).bind fun dV =>
 getN.bind fun dW =>
 (qrun (visB dG [(dU,dW,true),(dS,dU,true),(dQ,dS,true),(dO,dQ,false),(dM,dO,false),(dK,dM,false),(dI,dK,false),(dG,dI,false)]) (callV (cfg G) call 89 [dV,(V.int .i64 3)])).bind fun dX =>
 getN.bind fun dY =>
 (M.lift (convI .i64 dX)).bind fun dZ =>
 getN.bind fun eA =>
 (qrun (visB dG [(dY,eA,true),(dW,dY,true),(dU,dW,true),(dS,dU,true),(dQ,dS,true),(dO,dQ,true),(dM,dO,true),(dK,dM,true),(dI,dK,true),(dG,dI,true)]) (callV (cfg G) call 13 [dP,dT,dZ])).bind fun eB =>
 getN.bind fun eC =>
 (M.ret eB).bind fun eD =>
 getN.bind fun eE =>
 (M.lift (extractV eD 0)).bind fun eF =>
 getN.bind fun eG =>
 (M.lift (extractV eD 1)).bind fun eH =>
 getN.bind fun eI =>
 (M.lift (extractV eD 2)).bind fun eJ =>
 getN.bind fun eK =>
 (M.ret eF).bind fun eL =>
 getN.bind fun eM =>
 (M.ret eH).bind fun eN =>
 getN.bind fun eO =>
 (M.ret eJ).bind fun eP =>
 getN.bind fun eQ =>
 (M.ret eN).bind fun eR =>
 (M.lift ((eqV (.sc .int) true eR (V.int .i64 0)).bind fun b => some (.bool !b))).bind fun eS =>
 (condV eS
 ((M.ret x0).bind fun eT =>
 (M.ret eN).bind fun eU =>
 (M.lift (nilCheckV eT)).bind fun eV =>
 (M.lift (padd 20 eV)).bind fun eW =>
 (storeN 1 eW eU).bind fun _ =>
 M.ret (Ex.ret,[V.tuple []]))
 ((getN.bind fun eX =>
 (loadN 4 bD).bind fun eY =>
 getN.bind fun eZ =>
 (M.ret x0).bind fun fA =>
 getN.bind fun fB =>
 (M.lift (nilCheckV fA)).bind fun fC =>
 getN.bind fun fD =>
 (M.lift (padd 7 fC)).bind fun fE =>
 getN.bind fun fF =>
 (M.lift (padd 8 fE)).bind fun fG =>
 getN.bind fun fH =>
 (load1 fG).bind fun fI =>
 getN.bind fun fJ =>
 (M.ret aL).bind fun fK =>
 getN.bind fun fL =>
 (M.lift (idxV 2 fI fK)).bind fun fM =>
 getN.bind fun fN =>
 (loadN 2 fM).bind fun fO =>
 getN.bind fun fP =>
 (M.ret eL).bind fun fQ =>
 getN.bind fun fR =>
 (qrun (visB eX [(fP,fR,true),(fN,fP,true),(fL,fN,true),(fJ,fL,true),(fH,fJ,true),(fF,fH,true),(fD,fF,true),(fB,fD,true),(eZ,fB,true),(eX,eZ,true)]) (callV (cfg G) call 99 [eY,fO,fQ])).bind fun fS =>
 getN.bind fun fT =>
 (M.ret fS).bind fun fU =>
 getN.bind fun fV =>
 (M.lift (extractV fU 0)).bind fun fW =>
 getN.bind fun fX =>
 (M.lift (extractV fU 1)).bind fun fY =>
 getN.bind fun fZ =>
 (newV (.agg [V.nils,(V.int .i64 0)])).bind fun gA =>
 getN.bind fun gB =>
 (storeN 2 gA fW).bind fun _ =>
 getN.bind fun gC =>
 (M.ret fY).bind fun gD =>
 getN.bind fun gE =>
 (M.ret gD).bind fun gF =>
 (M.lift ((eqV .iface true gF V.nili).bind fun b => some (.bool b))).bind fun gG =>
 (condV gG
 ((getN.bind fun gH =>
 (M.ret x0).bind fun gI =>
 getN.bind fun gJ =>
 (M.lift (nilCheckV gI)).bind fun gK =>
 getN.bind fun gL =>
 (M.lift (padd 7 gK)).bind fun gM =>
 getN.bind fun gN =>
 (M.lift (padd 8 gM)).bind fun gO =>
 getN.bind fun gP =>
 (load1 gO).bind fun gQ =>
 getN.bind fun gR =>
 (M.ret aL).bind fun gS =>
 getN.bind fun gT =>
 (loadN 2 gA).bind fun gU =>
 getN.bind fun gV =>
 (M.lift (idxV 2 gQ gS)).bind fun gW =>
 getN.bind fun gX =>
 (storeN 2 gW gU).bind fun _ =>
 getN.bind fun gY =>
 (M.ret x0).bind fun gZ =>
 (callV (cfg G) call 82 [gZ,(V.int .u32 0)]).bind fun hA =>
 M.ret (Ex.ret,[V.tuple []])))
 ((M.ret x0).bind fun hB =>
 (callV (cfg G) call 82 [hB,(V.int .u32 0)]).bind fun hC =>
 M.ret (Ex.ret,[V.tuple []])))))))))))))))
theorem ferry_sys_caller_write_eq (G:GV) (n:Nat) (x0:V):sem (cfg G) (n + 1) 52 [x0] = outV (ferry_sys_caller_write G (sem (cfg G) n) x0) :=
 (fnV_atM (C:=cfg G) (n:=n) (f:=52) (fn:=Tryz.f52) (c:=Tryz.f52.body.getD .skip) (by kernel_rfl) (by kernel_rfl) (by kernel_rfl) [x0]).trans (by kernel_rfl)
noncomputable def ferry_sys_caller_answer (G:GV) (call:CV) (x0:V) (x1:V):M R :=
 ((M.ret x0).bind fun aA =>
 (M.lift (nilCheckV aA)).bind fun aB =>
 (M.lift (padd 7 aB)).bind fun aC =>
 (M.lift (padd 3 aC)).bind fun aD =>
 (load1 aD).bind fun aE =>
 (M.ret x0).bind fun aF =>
 (M.lift (nilCheckV aF)).bind fun aG =>
 (M.lift (padd 17 aG)).bind fun aH =>
 (load1 aH).bind fun aI =>
 (M.ret x1).bind fun aJ =>
 (M.lift (idxV 21 aE aI)).bind fun aK =>
 (M.lift (padd 0 aK)).bind fun aL =>
 (M.lift (aidxV 16 1 aL (V.int .i64 1))).bind fun aM =>
 (storeN 1 aM aJ).bind fun _ =>
 M.ret (Ex.ret,[V.tuple []]))
theorem ferry_sys_caller_answer_eq (G:GV) (n:Nat) (x0:V) (x1:V):sem (cfg G) (n + 1) 82 [x0,x1] = outV (ferry_sys_caller_answer G (sem (cfg G) n) x0 x1) :=
 (fnV_at (C:=cfg G) (n:=n) (f:=82) (fn:=Tryz.f82) (c:=Tryz.f82.body.getD .skip) (by kernel_rfl) (by kernel_rfl) (by kernel_rfl) [x0,x1]).trans (by kernel_rfl)
noncomputable def ferry_sys_caller_table (G:GV) (call:CV) (x0:V):M R :=
 (newV (.agg [V.nils,V.nils,V.nils])).bind fun aA =>
 (M.ret x0).bind fun aB =>
 (M.lift (nilCheckV aB)).bind fun aC =>
 (M.lift (padd 7 aC)).bind fun aD =>
 (loadN 10 aD).bind fun aE =>
 (callV (cfg G) call 135 [aE]).bind fun aF =>
 (storeN 3 aA aF).bind fun _ =>
 (((loadN 3 aA)).bind fun v => (M.ret []).bind fun l => M.ret (v :: l)).bind fun l => M.ret (Ex.ret,tupV l)
theorem ferry_sys_caller_table_eq (G:GV) (n:Nat) (x0:V):sem (cfg G) (n + 1) 85 [x0] = outV (ferry_sys_caller_table G (sem (cfg G) n) x0) :=
 (fnV_at (C:=cfg G) (n:=n) (f:=85) (fn:=Tryz.f85) (c:=Tryz.f85.body.getD .skip) (by kernel_rfl) (by kernel_rfl) (by kernel_rfl) [x0]).trans (by kernel_rfl)
noncomputable def ferry_sys_caller_index (G:GV) (call:CV) (x0:V) (x1:V):M R :=
 (M.ret (V.int .i64 0)).bind fun aA =>
 (M.ret (V.bool false)).bind fun aB =>
 (M.ret x0).bind fun aC =>
 (callV (cfg G) call 89 [aC,(V.int .i64 1)]).bind fun aD =>
 (M.ret aD).bind fun aE =>
 (M.ret aE).bind fun aF =>
 (M.lift (convI .u64 aF)).bind fun aG =>
 (M.ret x1).bind fun aH =>
 (M.lift (convI .u64 aH)).bind fun aI =>
 (M.lift (arithV .lss aG aI)).bind fun aJ =>
 (condV aJ
 ((M.ret aE).bind fun aK =>
 (M.lift (convI .i64 aK)).bind fun aL =>
 (M.ret aL).bind fun aM =>
 (M.ret (V.bool true)).bind fun aN =>
 M.ret (Ex.ret,[V.tuple [aM,aN]]))
 ((M.ret x0).bind fun aO =>
 (callV (cfg G) call 82 [aO,(V.int .u32 4294967295)]).bind fun aP =>
 (M.ret (V.int .i64 0)).bind fun aQ =>
 (M.ret (V.bool false)).bind fun aR =>
 M.ret (Ex.ret,[V.tuple [aQ,aR]])))
theorem ferry_sys_caller_index_eq (G:GV) (n:Nat) (x0:V) (x1:V):sem (cfg G) (n + 1) 87 [x0,x1] = outV (ferry_sys_caller_index G (sem (cfg G) n) x0 x1) :=
 (fnV_at (C:=cfg G) (n:=n) (f:=87) (fn:=Tryz.f87) (c:=Tryz.f87.body.getD .skip) (by kernel_rfl) (by kernel_rfl) (by kernel_rfl) [x0,x1]).trans (by kernel_rfl)
noncomputable def ferry_sys_caller_reg (G:GV) (call:CV) (x0:V) (x1:V):M R :=
 (M.ret (V.int .u32 0)).bind fun aA =>
 ((M.ret x0).bind fun aB =>
 (M.lift (nilCheckV aB)).bind fun aC =>
 (M.lift (padd 7 aC)).bind fun aD =>
 (M.lift (padd 3 aD)).bind fun aE =>
 (load1 aE).bind fun aF =>
 (M.ret x0).bind fun aG =>
 (M.lift (nilCheckV aG)).bind fun aH =>
 (M.lift (padd 17 aH)).bind fun aI =>
 (load1 aI).bind fun aJ =>
 (M.ret x1).bind fun aK =>
 (M.lift (idxV 21 aF aJ)).bind fun aL =>
 (M.lift (padd 0 aL)).bind fun aM =>
 (M.lift (aidxV 16 1 aM aK)).bind fun aN =>
 (load1 aN).bind fun aO =>
 (M.ret aO).bind fun aP =>
 M.ret (Ex.ret,[aP]))
theorem ferry_sys_caller_reg_eq (G:GV) (n:Nat) (x0:V) (x1:V):sem (cfg G) (n + 1) 89 [x0,x1] = outV (ferry_sys_caller_reg G (sem (cfg G) n) x0 x1) :=
 (fnV_at (C:=cfg G) (n:=n) (f:=89) (fn:=Tryz.f89) (c:=Tryz.f89.body.getD .skip) (by kernel_rfl) (by kernel_rfl) (by kernel_rfl) [x0,x1]).trans (by kernel_rfl)
noncomputable def ferry_sys_caller_isOne (G:GV) (call:CV) (x0:V) (x1:V) (x2:V) (x3:V):M R :=
 (M.ret (V.bool false)).bind fun aA =>
 (M.ret x0).bind fun aB =>
 (M.lift (nilCheckV aB)).bind fun aC =>
 (M.lift (padd 0 aC)).bind fun aD =>
 (M.lift (padd 4 aD)).bind fun aE =>
 (load1 aE).bind fun aF =>
 (M.ret x1).bind fun aG =>
 (M.lift (idxV 4 aF aG)).bind fun aH =>
 (M.lift (padd 0 aH)).bind fun aI =>
 (load1 aI).bind fun aJ =>
 (M.ret aJ).bind fun aK =>
 (M.ret aK).bind fun aL =>
 (M.ret x2).bind fun aM =>
 (M.lift ((eqV (.sc .int) false aL aM).bind fun b => some (.bool !b))).bind fun aN =>
 (M.ret aN).bind fun aO =>
 (guardV aO true (M.ret aK)).bind fun aP =>
 (guardV aO true (M.ret x3)).bind fun aQ =>
 (guardV aO true (M.lift ((eqV (.sc .int) false aP aQ).bind fun b => some (.bool !b)))).bind fun aR =>
 (M.lift (pickV aO aR (V.bool false))).bind fun aS =>
 (condV aS
 ((M.ret x0).bind fun aT =>
 (callV (cfg G) call 82 [aT,(V.int .u32 4294967295)]).bind fun aU =>
 (M.ret (V.bool false)).bind fun aV =>
 M.ret (Ex.ret,[aV]))
 ((M.ret (V.bool true)).bind fun aW =>
 M.ret (Ex.ret,[aW])))
theorem ferry_sys_caller_isOne_eq (G:GV) (n:Nat) (x0:V) (x1:V) (x2:V) (x3:V):sem (cfg G) (n + 1) 97 [x0,x1,x2,x3] = outV (ferry_sys_caller_isOne G (sem (cfg G) n) x0 x1 x2 x3) :=
 (fnV_at (C:=cfg G) (n:=n) (f:=97) (fn:=Tryz.f97) (c:=Tryz.f97.body.getD .skip) (by kernel_rfl) (by kernel_rfl) (by kernel_rfl) [x0,x1,x2,x3]).trans (by kernel_rfl)
end Go.Fv.Tr

/-
  The Go functions ferry/ferrylaw12.SysShares, ferry/ferrylaw12.SysMessages, ferry/ferrylaw1 By an AI agent; no person has read it.
-/
import Derived.Test.YtekncgjkocgioaaGreatDoorFvP41
set_option linter.unusedVariables false
set_option linter.unusedSimpArgs false
set_option linter.unusedSectionVars false
/-! The Go functions ferry/ferrylaw12.SysShares, ferry/ferrylaw12.SysMessages, ferry/ferrylaw1 -/
namespace Go.Fv.Tr
open Go Go.Fv Go.Proofs
set_option maxRecDepth 20000
noncomputable def ferry_ferrylaw12_SysMessages_l2 (G:GV) (call:CV) (aA:V) (aB:V) (aC:V) (aD:List V):M R :=
 (M.lift (padd 8 aA)).bind fun aE =>
 (load1 aE).bind fun aF =>
 (M.lift (idxV 2 aF (V.int .i64 0))).bind fun aG =>
 (M.lift (padd 0 aG)).bind fun aH =>
 (load1 aH).bind fun aI =>
 (M.lift (lenV aI)).bind fun aJ =>
 (M.lift (arithV .gtr aJ (V.int .i64 0))).bind fun aK =>
 (condV aK
 ((M.lift (padd 8 aA)).bind fun aL =>
 (load1 aL).bind fun aM =>
 (M.lift (idxV 2 aM (V.int .i64 0))).bind fun aN =>
 (M.lift (padd 0 aN)).bind fun aO =>
 (load1 aO).bind fun aP =>
 (M.lift (idxV 1 aP (V.int .i64 0))).bind fun aQ =>
 (load1 aQ).bind fun aR =>
 (M.ret aR).bind fun aS =>
 ((M.lift (padd 3 aA)).bind fun aT =>
 (load1 aT).bind fun aU =>
 (M.lift (padd 3 aA)).bind fun aV =>
 (load1 aV).bind fun aW =>
 (M.lift (idxV 21 aU (V.int .i64 1))).bind fun aX =>
 (M.lift (padd 0 aX)).bind fun aY =>
 (M.lift (aidxV 16 1 aY (V.int .i64 1))).bind fun aZ =>
 guardM (apartV aV aZ && true) (
 (storeN 1 aZ (V.int .u32 0)).bind fun _ =>
 (M.lift (idxV 21 aW (V.int .i64 1))).bind fun bA =>
 (M.lift (padd 0 bA)).bind fun bB =>
 (M.lift (aidxV 16 1 bB (V.int .i64 2))).bind fun bC =>
 (storeN 1 bC (V.int .u32 40)).bind fun _ =>
 (M.lift (padd 8 aA)).bind fun bD =>
 (load1 bD).bind fun bE =>
 (M.lift (idxV 2 bE (V.int .i64 0))).bind fun bF =>
 (M.lift (padd 0 bF)).bind fun bG =>
 (load1 bG).bind fun bH =>
 (M.lift (lenV bH)).bind fun bI =>
 (M.lift (arithV .sub bI (V.int .i64 1))).bind fun bJ =>
 (M.ret bJ).bind fun bK =>
 (loadN 7 aB).bind fun bL =>
 (loadN 10 aA).bind fun bM =>
 (callV (cfg G) call 10 [bL,bM,(V.int .i64 1),(V.int .i64 12),(V.int .i64 0)]).bind fun bN =>
 (M.ret bN).bind fun bO =>
 (M.lift (extractV bO 0)).bind fun bP =>
 (M.lift (extractV bO 1)).bind fun bQ =>
 (storeN 12 aC bP).bind fun _ =>
 (M.ret bQ).bind fun bR =>
 (M.ret bR).bind fun bS =>
 (M.lift ((eqV .iface true bS V.nili).bind fun b => some (.bool !b))).bind fun bT =>
 (M.ret bT).bind fun bU =>
 (guardV bU false (M.lift (padd 11 aC))).bind fun bV =>
 (guardV bU false (load1 bV)).bind fun bW =>
 (guardV bU false (M.lift ((eqV (.sc .int) true bW (V.int .i64 0)).bind fun b => some (.bool !b)))).bind fun bX =>
 (M.lift (pickV bU (V.bool true) bX)).bind fun bY =>
 (M.ret bY).bind fun bZ =>
 (guardV bZ false (M.lift (padd 0 aC))).bind fun cA =>
 (guardV bZ false (M.lift (padd 8 cA))).bind fun cB =>
 (guardV bZ false (load1 cB)).bind fun cC =>
 (guardV bZ false (M.lift (lenV cC))).bind fun cD =>
 (guardV bZ false (M.lift ((eqV (.sc .int) true cD (V.int .i64 2)).bind fun b => some (.bool !b)))).bind fun cE =>
 (M.lift (pickV bZ (V.bool true) cE)).bind fun cF =>
 (M.ret cF).bind fun cG =>
 (guardV cG false (M.lift (padd 0 aC))).bind fun cH =>
 (guardV cG false (M.lift (padd 3 cH))).bind fun cI =>
 (guardV cG false (load1 cI)).bind fun cJ =>
 (guardV cG false (M.lift (lenV cJ))).bind fun cK =>
 (guardV cG false (M.lift ((eqV (.sc .int) true cK (V.int .i64 2)).bind fun b => some (.bool !b)))).bind fun cL =>
 (M.lift (pickV cG (V.bool true) cL)).bind fun cM =>
 (M.ret cM).bind fun cN =>
 (guardV cN false (M.lift (padd 0 aC))).bind fun cO =>
 (guardV cN false (M.lift (padd 8 cO))).bind fun cP =>
 (guardV cN false (load1 cP)).bind fun cQ =>
 (guardV cN false (M.lift (idxV 2 cQ (V.int .i64 0)))).bind fun cR =>
 (guardV cN false (M.lift (padd 0 cR))).bind fun cS =>
 (guardV cN false (load1 cS)).bind fun cT =>
 (guardV cN false (M.lift (lenV cT))).bind fun cU =>
 (guardV cN false (M.ret bK)).bind fun cV =>
 (guardV cN false (M.lift ((eqV (.sc .int) false cU cV).bind fun b => some (.bool !b)))).bind fun cW =>
 (M.lift (pickV cN (V.bool true) cW)).bind fun cX =>
 (condV cX
 ((M.ret (V.bool false)).bind fun cY =>
 M.ret (Ex.ret,[bR,cY]))
 ((M.lift (padd 0 aC)).bind fun cZ =>
 (loadN 10 cZ).bind fun dA =>
 (storeN 10 aA dA).bind fun _ =>
 (M.lift (padd 9 aA)).bind fun dB =>
 (load1 dB).bind fun dC =>
 (M.ret aS).bind fun dD =>
 (M.lift (lenS dD)).bind fun dE =>
 (callV (cfg G) call 13 [dC,(V.int .u32 40),dE]).bind fun dF =>
 (M.ret dF).bind fun dG =>
 (M.lift (extractV dG 0)).bind fun dH =>
 (M.lift (extractV dG 1)).bind fun dI =>
 (M.lift (extractV dG 2)).bind fun dJ =>
 (M.ret dH).bind fun dK =>
 (M.ret dI).bind fun dL =>
 (M.ret dJ).bind fun dM =>
 (M.ret dM).bind fun dN =>
 (M.lift ((eqV .iface true dN V.nili).bind fun b => some (.bool !b))).bind fun dO =>
 (M.ret dO).bind fun dP =>
 (guardV dP false (M.ret dL)).bind fun dQ =>
 (guardV dP false (M.lift ((eqV (.sc .int) true dQ (V.int .i64 0)).bind fun b => some (.bool !b)))).bind fun dR =>
 (M.lift (pickV dP (V.bool true) dR)).bind fun dS =>
 (M.ret dS).bind fun dT =>
 (guardV dT false (M.ret dK)).bind fun dU =>
 (guardV dT false (M.ret aS)).bind fun dV =>
 (guardV dT false (M.lift ((eqV (.sc .str) false dU dV).bind fun b => some (.bool !b)))).bind fun dW =>
 (M.lift (pickV dT (V.bool true) dW)).bind fun dX =>
 (M.ret dX).bind fun dY =>
 (guardV dY false (M.lift (padd 3 aA))).bind fun dZ =>
 (guardV dY false (load1 dZ)).bind fun eA =>
 (guardV dY false (M.lift (idxV 21 eA (V.int .i64 1)))).bind fun eB =>
 (guardV dY false (M.lift (padd 0 eB))).bind fun eC =>
 (guardV dY false (M.lift (aidxV 16 1 eC (V.int .i64 1)))).bind fun eD =>
 (guardV dY false (load1 eD)).bind fun eE =>
 (guardV dY false (M.ret aS)).bind fun eF =>
 (guardV dY false (M.lift (lenS eF))).bind fun eG =>
 (guardV dY false (M.lift (convI .u32 eG))).bind fun eH =>
 (guardV dY false (M.lift ((eqV (.sc .int) false eE eH).bind fun b => some (.bool !b)))).bind fun eI =>
 (M.lift (pickV dY (V.bool true) eI)).bind fun eJ =>
 (M.ret eJ).bind fun eK =>
 (guardV eK false (M.lift (padd 3 aA))).bind fun eL =>
 (guardV eK false (load1 eL)).bind fun eM =>
 (guardV eK false (M.lift (idxV 21 eM (V.int .i64 1)))).bind fun eN =>
 (guardV eK false (M.lift (padd 0 eN))).bind fun eO =>
 (guardV eK false (M.lift (aidxV 16 1 eO (V.int .i64 2)))).bind fun eP =>
 (guardV eK false (load1 eP)).bind fun eQ =>
 (guardV eK false (M.lift ((eqV (.sc .int) true eQ (V.int .u32 1)).bind fun b => some (.bool !b)))).bind fun eR =>
 (M.lift (pickV eK (V.bool true) eR)).bind fun eS =>
 (condV eS
 ((M.ret (V.bool false)).bind fun eT =>
 M.ret (Ex.ret,[bR,eT]))
 (M.ret (Ex.normal,[bR,(aD.getD 1 V.undef)]))))))))
 (M.ret ((Ex.exit 2),[(aD.getD 0 V.undef),(aD.getD 1 V.undef)])))
noncomputable def ferry_ferrylaw12_SysMessages_j1 (G:GV) (call:CV) (aA:V) (aB:V) (aC:V) (aD:V) (aE:List V):M R :=
 (loopV (ferry_ferrylaw12_SysMessages_l2 G call aA aB aC) [aD,(aE.getD 0 V.undef)]).bind fun aF => match aF.1 with
 | .normal => M.fail
 | .exit k0_286 =>
 (if k0_286 = 2 then
 (M.lift (padd 3 aA)).bind fun aG =>
 (load1 aG).bind fun aH =>
 (M.lift (idxV 21 aH (V.int .i64 1))).bind fun aI =>
 (M.lift (padd 0 aI)).bind fun aJ =>
 (M.lift (aidxV 16 1 aJ (V.int .i64 1))).bind fun aK =>
 (storeN 1 aK (V.int .u32 0)).bind fun _ =>
 (loadN 7 aB).bind fun aL =>
 (loadN 10 aA).bind fun aM =>
 (callV (cfg G) call 10 [aL,aM,(V.int .i64 1),(V.int .i64 12),(V.int .i64 0)]).bind fun aN =>
 (M.ret aN).bind fun aO =>
 (M.lift (extractV aO 0)).bind fun aP =>
 (M.lift (extractV aO 1)).bind fun aQ =>
 (storeN 12 aC aP).bind fun _ =>
 (M.ret aQ).bind fun aR =>
 (M.ret aR).bind fun aS =>
 (M.lift ((eqV .iface true aS V.nili).bind fun b => some (.bool !b))).bind fun aT =>
 (M.ret aT).bind fun aU =>
 (guardV aU false (M.lift (padd 11 aC))).bind fun aV =>
 (guardV aU false (load1 aV)).bind fun aW =>
 (guardV aU false (M.lift ((eqV (.sc .int) true aW (V.int .i64 0)).bind fun b => some (.bool !b)))).bind fun aX =>
 (M.lift (pickV aU (V.bool true) aX)).bind fun aY =>
 (M.ret aY).bind fun aZ =>
 (guardV aZ false (M.lift (padd 0 aC))).bind fun bA =>
 (guardV aZ false (M.lift (padd 3 bA))).bind fun bB =>
 (guardV aZ false (load1 bB)).bind fun bC =>
 (guardV aZ false (M.lift (lenV bC))).bind fun bD =>
 (guardV aZ false (M.lift ((eqV (.sc .int) true bD (V.int .i64 2)).bind fun b => some (.bool !b)))).bind fun bE =>
 (M.lift (pickV aZ (V.bool true) bE)).bind fun bF =>
 (M.ret bF).bind fun bG =>
 (guardV bG false (M.lift (padd 0 aC))).bind fun bH =>
 (guardV bG false (M.lift (padd 3 bH))).bind fun bI =>
 (guardV bG false (load1 bI)).bind fun bJ =>
 (guardV bG false (M.lift (idxV 21 bJ (V.int .i64 1)))).bind fun bK =>
 (guardV bG false (M.lift (padd 0 bK))).bind fun bL =>
 (guardV bG false (M.lift (aidxV 16 1 bL (V.int .i64 1)))).bind fun bM =>
 (guardV bG false (load1 bM)).bind fun bN =>
 (guardV bG false (M.lift ((eqV (.sc .int) true bN (V.int .u32 4294967292)).bind fun b => some (.bool !b)))).bind fun bO =>
 (M.lift (pickV bG (V.bool true) bO)).bind fun bP =>
 (condV bP
 ((M.ret (V.bool false)).bind fun bQ =>
 M.ret (Ex.ret,[bQ,(aE.getD 1 V.undef)]))
 ((M.ret (aE.getD 1 V.undef)).bind fun bR =>
 (M.lift (arithV .add bR (V.int .i64 1))).bind fun bS =>
 (M.ret bS).bind fun bT =>
 M.ret (Ex.normal,[(aF.2.getD 1 V.undef),bT])))
 else (if k0_286 = 1 then
 (M.ret (aE.getD 1 V.undef)).bind fun bU =>
 (M.lift (arithV .add bU (V.int .i64 1))).bind fun bV =>
 (M.ret bV).bind fun bW =>
 M.ret (Ex.normal,[(aF.2.getD 1 V.undef),bW])
 else M.ret ((Ex.exit k0_286),[(aF.2.getD 1 V.undef),(aE.getD 1 V.undef)])))
 | .ret =>
 M.ret (Ex.ret,[(aF.2.getD 1 V.undef),(aE.getD 1 V.undef)])
noncomputable def ferry_ferrylaw12_SysMessages_j2 (G:GV) (call:CV) (aA:V) (x1:V) (aB:List V) (aC:V) (aD:V):M R :=
 (M.lift (padd 9 aA)).bind fun aE =>
 (load1 aE).bind fun aF =>
 (M.ret x1).bind fun aG =>
 (M.lift (convI .u32 aG)).bind fun aH =>
 (M.lift (arithV .and aH (V.int .u32 31))).bind fun aI =>
 (M.ret aD).bind fun aJ =>
 (callV (cfg G) call 12 [aF,aI,aJ]).bind fun aK =>
 (M.ret aK).bind fun aL =>
 (M.lift (extractV aL 0)).bind fun aM =>
 (M.lift (extractV aL 1)).bind fun aN =>
 (M.ret aM).bind fun aO =>
 (M.ret aN).bind fun aP =>
 (M.ret aP).bind fun aQ =>
 (M.lift ((eqV (.sc .int) true aQ (V.int .i64 0)).bind fun b => some (.bool !b))).bind fun aR =>
 (condV aR
 ((M.ret (V.bool false)).bind fun aS =>
 M.ret (Ex.ret,[aS,(aB.getD 1 V.undef)]))
 ((M.ret aO).bind fun aT =>
 (M.lift (padd 9 aA)).bind fun aU =>
 (storeN 1 aU aT).bind fun _ =>
 ((M.lift (padd 3 aA)).bind fun aV =>
 (load1 aV).bind fun aW =>
 (M.lift (padd 3 aA)).bind fun aX =>
 (load1 aX).bind fun aY =>
 (M.lift (padd 3 aA)).bind fun aZ =>
 (load1 aZ).bind fun bA =>
 (M.ret x1).bind fun bB =>
 (M.lift (convI .u32 bB)).bind fun bC =>
 (M.lift (arithV .and bC (V.int .u32 31))).bind fun bD =>
 (M.ret aD).bind fun bE =>
 (M.lift (lenS bE)).bind fun bF =>
 (M.lift (convI .u32 bF)).bind fun bG =>
 (M.lift (idxV 21 aW (V.int .i64 0))).bind fun bH =>
 (M.lift (padd 0 bH)).bind fun bI =>
 (M.lift (aidxV 16 1 bI (V.int .i64 1))).bind fun bJ =>
 guardM (apartV aX bJ && (apartV aZ bJ && true)) (
 (storeN 1 bJ (V.int .u32 1)).bind fun _ =>
 (M.lift (idxV 21 aY (V.int .i64 0))).bind fun bK =>
 (M.lift (padd 0 bK)).bind fun bL =>
 (M.lift (aidxV 16 1 bL (V.int .i64 2))).bind fun bM =>
 guardM (apartV aZ bM && true) (
 (storeN 1 bM bD).bind fun _ =>
 (M.lift (idxV 21 bA (V.int .i64 0))).bind fun bN =>
 (M.lift (padd 0 bN)).bind fun bO =>
 (M.lift (aidxV 16 1 bO (V.int .i64 3))).bind fun bP =>
 (storeN 1 bP bG).bind fun _ =>
 (M.lift (padd 8 aA)).bind fun bQ =>
 (load1 bQ).bind fun bR =>
 (M.lift (idxV 2 bR (V.int .i64 1))).bind fun bS =>
 (M.lift (padd 0 bS)).bind fun bT =>
 (load1 bT).bind fun bU =>
 (M.lift (lenV bU)).bind fun bV =>
 (M.ret bV).bind fun bW =>
 (loadN 7 aC).bind fun bX =>
 (loadN 10 aA).bind fun bY =>
 (callV (cfg G) call 10 [bX,bY,(V.int .i64 0),(V.int .i64 13),(V.int .i64 0)]).bind fun bZ =>
 (M.ret bZ).bind fun cA =>
 (M.lift (extractV cA 0)).bind fun cB =>
 (M.lift (extractV cA 1)).bind fun cC =>
 (newV (.agg [(V.int .i64 0),(V.int .i64 0),(V.int .i64 0),V.nils,V.nils,V.nils,V.nils,V.nils,V.nils,V.nils,V.nils,(V.int .i64 0)])).bind fun cD =>
 (storeN 12 cD cB).bind fun _ =>
 (M.ret cC).bind fun cE =>
 (M.ret cE).bind fun cF =>
 (M.lift ((eqV .iface true cF V.nili).bind fun b => some (.bool !b))).bind fun cG =>
 (M.ret cG).bind fun cH =>
 (guardV cH false (M.lift (padd 11 cD))).bind fun cI =>
 (guardV cH false (load1 cI)).bind fun cJ =>
 (guardV cH false (M.lift ((eqV (.sc .int) true cJ (V.int .i64 0)).bind fun b => some (.bool !b)))).bind fun cK =>
 (M.lift (pickV cH (V.bool true) cK)).bind fun cL =>
 (M.ret cL).bind fun cM =>
 (guardV cM false (M.lift (padd 0 cD))).bind fun cN =>
 (guardV cM false (M.lift (padd 8 cN))).bind fun cO =>
 (guardV cM false (load1 cO)).bind fun cP =>
 (guardV cM false (M.lift (lenV cP))).bind fun cQ =>
 (guardV cM false (M.lift ((eqV (.sc .int) true cQ (V.int .i64 2)).bind fun b => some (.bool !b)))).bind fun cR =>
 (M.lift (pickV cM (V.bool true) cR)).bind fun cS =>
 (M.ret cS).bind fun cT =>
 (guardV cT false (M.lift (padd 0 cD))).bind fun cU =>
 (guardV cT false (M.lift (padd 3 cU))).bind fun cV =>
 (guardV cT false (load1 cV)).bind fun cW =>
 (guardV cT false (M.lift (lenV cW))).bind fun cX =>
 (guardV cT false (M.lift ((eqV (.sc .int) true cX (V.int .i64 2)).bind fun b => some (.bool !b)))).bind fun cY =>
 (M.lift (pickV cT (V.bool true) cY)).bind fun cZ =>
 (condV cZ
 ((M.ret (V.bool false)).bind fun dA =>
 M.ret (Ex.ret,[dA,(aB.getD 1 V.undef)]))
 ((M.lift (padd 0 cD)).bind fun dB =>
 (loadN 10 dB).bind fun dC =>
 (storeN 10 aA dC).bind fun _ =>
 ((M.lift (padd 3 aA)).bind fun dD =>
 (load1 dD).bind fun dE =>
 (M.lift (idxV 21 dE (V.int .i64 0))).bind fun dF =>
 (M.lift (padd 0 dF)).bind fun dG =>
 (M.lift (aidxV 16 1 dG (V.int .i64 1))).bind fun dH =>
 (load1 dH).bind fun dI =>
 (M.lift (padd 8 aA)).bind fun dJ =>
 (load1 dJ).bind fun dK =>
 (M.lift (idxV 2 dK (V.int .i64 1))).bind fun dL =>
 (M.lift (padd 0 dL)).bind fun dM =>
 (load1 dM).bind fun dN =>
 (M.ret dI).bind fun dO =>
 (M.ret dN).bind fun dP =>
 (M.ret bW).bind fun dQ =>
 (M.lift ((eqV (.sc .int) true dQ (V.int .i64 2)).bind fun b => some (.bool b))).bind fun dR =>
 (M.ret dR).bind fun dS =>
 (guardV dS true (M.ret dO)).bind fun dT =>
 (guardV dS true (M.lift ((eqV (.sc .int) true dT (V.int .u32 4294967293)).bind fun b => some (.bool !b)))).bind fun dU =>
 (guardV dS true (M.ret dU)).bind fun dV =>
 (guardV dV false (M.ret dP)).bind fun dW =>
 (guardV dV false (M.lift (lenV dW))).bind fun dX =>
 (guardV dV false (M.lift ((eqV (.sc .int) true dX (V.int .i64 2)).bind fun b => some (.bool !b)))).bind fun dY =>
 (guardV dS true (M.lift (pickV dV (V.bool true) dY))).bind fun dZ =>
 (M.lift (pickV dS dZ (V.bool false))).bind fun eA =>
 (M.ret eA).bind fun eB =>
 (guardV eB false (M.ret bW)).bind fun eC =>
 (guardV eB false (M.lift (arithV .lss eC (V.int .i64 2)))).bind fun eD =>
 (guardV eB false (M.ret eD)).bind fun eE =>
 (guardV eE true (M.ret dO)).bind fun eF =>
 (guardV eE true (M.lift ((eqV (.sc .int) true eF (V.int .u32 0)).bind fun b => some (.bool !b)))).bind fun eG =>
 (guardV eE true (M.ret eG)).bind fun eH =>
 (guardV eH false (M.ret dP)).bind fun eI =>
 (guardV eH false (M.lift (lenV eI))).bind fun eJ =>
 (guardV eH false (M.ret bW)).bind fun eK =>
 (guardV eH false (M.lift (arithV .add eK (V.int .i64 1)))).bind fun eL =>
 (guardV eH false (M.lift ((eqV (.sc .int) false eJ eL).bind fun b => some (.bool !b)))).bind fun eM =>
 (guardV eE true (M.lift (pickV eH (V.bool true) eM))).bind fun eN =>
 (guardV eE true (M.ret eN)).bind fun eO =>
 (guardV eO false (M.ret dP)).bind fun eP =>
 (guardV eO false (M.ret bW)).bind fun eQ =>
 (guardV eO false (M.lift (idxV 1 eP eQ))).bind fun eR =>
 (guardV eO false (load1 eR)).bind fun eS =>
 (guardV eO false (M.ret aD)).bind fun eT =>
 (guardV eO false (M.lift ((eqV (.sc .str) false eS eT).bind fun b => some (.bool !b)))).bind fun eU =>
 (guardV eE true (M.lift (pickV eO (V.bool true) eU))).bind fun eV =>
 (guardV eB false (M.lift (pickV eE eV (V.bool false)))).bind fun eW =>
 (M.lift (pickV eB (V.bool true) eW)).bind fun eX =>
 (condV eX
 ((M.ret (V.bool false)).bind fun eY =>
 M.ret (Ex.ret,[eY,(aB.getD 1 V.undef)]))
 ((M.ret bW).bind fun eZ =>
 (M.lift ((eqV (.sc .int) true eZ (V.int .i64 2)).bind fun b => some (.bool b))).bind fun fA =>
 (condV fA
 ((M.lift (padd 8 aA)).bind fun fB =>
 (load1 fB).bind fun fC =>
 (M.ret dP).bind fun fD =>
 (M.lift (idxV 2 fC (V.int .i64 0))).bind fun fE =>
 (M.lift (padd 0 fE)).bind fun fF =>
 (storeN 1 fF fD).bind fun _ =>
 (M.lift (padd 8 aA)).bind fun fG =>
 (load1 fG).bind fun fH =>
 (M.lift (idxV 2 fH (V.int .i64 1))).bind fun fI =>
 (M.lift (padd 0 fI)).bind fun fJ =>
 (storeN 1 fJ V.nils).bind fun _ =>
 ferry_ferrylaw12_SysMessages_j1 G call aA aC cD cE aB)
 (ferry_ferrylaw12_SysMessages_j1 G call aA aC cD cE aB))))))))))))
noncomputable def ferry_ferrylaw12_SysMessages_l1 (G:GV) (call:CV) (x0:V) (aA:V) (x1:V) (aB:V) (aC:List V):M R :=
 (M.ret (aC.getD 1 V.undef)).bind fun aD =>
 (M.ret x0).bind fun aE =>
 (M.lift (lenV aE)).bind fun aF =>
 (M.lift (arithV .lss aD aF)).bind fun aG =>
 (condV aG
 ((M.ret x0).bind fun aH =>
 (M.ret (aC.getD 1 V.undef)).bind fun aI =>
 (M.lift (idxV 1 aH aI)).bind fun aJ =>
 (load1 aJ).bind fun aK =>
 (M.ret aK).bind fun aL =>
 (M.ret aL).bind fun aM =>
 (M.lift (lenS aM)).bind fun aN =>
 (M.lift (arithV .gtr aN (V.int .i64 4))).bind fun aO =>
 (condV aO
 ((M.ret aL).bind fun aP =>
 (M.lift (slS aP none (some (V.int .i64 4)))).bind fun aQ =>
 (M.ret aQ).bind fun aR =>
 ferry_ferrylaw12_SysMessages_j2 G call aA x1 aC aB aR)
 (ferry_ferrylaw12_SysMessages_j2 G call aA x1 aC aB aL)))
 (M.ret ((Ex.exit 0),[(aC.getD 0 V.undef),(aC.getD 1 V.undef)])))
noncomputable def ferry_ferrylaw12_SysMessages (G:GV) (call:CV) (x0:V) (x1:V):M R :=
 (M.ret (V.bool false)).bind fun aA =>
 (callV (cfg G) call 8 []).bind fun aB =>
 (M.lift (unV .not aB)).bind fun aC =>
 (condV aC
 ((M.ret (V.bool false)).bind fun aD =>
 M.ret (Ex.ret,[aD]))
 ((callV (cfg G) call 11 []).bind fun aE =>
 (M.ret aE).bind fun aF =>
 (M.lift (extractV aF 0)).bind fun aG =>
 (M.lift (extractV aF 1)).bind fun aH =>
 (newV (.agg [(V.int .i64 0),(V.bool false),V.nils,V.nils,V.nils,(V.int .i64 0),V.nils])).bind fun aI =>
 (newV (.agg [(V.int .i64 0),(V.int .i64 0),(V.int .i64 0),V.nils,V.nils,V.nils,V.nils,V.nils,V.nils,V.nils])).bind fun aJ =>
 (storeN 7 aI aG).bind fun _ =>
 (storeN 10 aJ aH).bind fun _ =>
 (M.ret (V.int .i64 0)).bind fun aK =>
 (loopV (ferry_ferrylaw12_SysMessages_l1 G call x0 aJ x1 aI) [aA,aK]).bind fun aL => match aL.1 with
 | .normal => M.fail
 | .exit k0_343 =>
 (if k0_343 = 0 then
 (M.ret (V.bool true)).bind fun aM =>
 M.ret (Ex.ret,[aM])
 else M.fail)
 | .ret =>
 M.ret (Ex.ret,[(aL.2.getD 0 V.undef)])))
theorem ferry_ferrylaw12_SysMessages_eq (G:GV) (n:Nat) (x0:V) (x1:V):sem (cfg G) (n + 1) 4 [x0,x1] = outV (ferry_ferrylaw12_SysMessages G (sem (cfg G) n) x0 x1) :=
 (fnV_at (C:=cfg G) (n:=n) (f:=4) (fn:=Tryz.f4) (c:=Tryz.f4.body.getD .skip) (by kernel_rfl) (by kernel_rfl) (by kernel_rfl) [x0,x1]).trans (by kernel_rfl)
end Go.Fv.Tr
namespace Go.Fv.Tr
open Go Go.Fv Go.Fv.Pl Go.Proofs
variable {G:GV}
namespace Sy
variable {l m:List V} {s:St} {p:Pn} {x y z a b c d u v w g:V} {pr:List (List V)} {H H' K:Heap} {L0 L1:Nat}
theorem Run.gen {α:Type} {mm:M α} {Q:α → Heap → Prop} {P:Heap → Prop} (hP:P K) (h:∀ K,P K → Run mm K Q):Run mm K Q:=h K hP
structure Lc (H:Heap) (L0 L1:Nat) (p:Pn) (s:St) (a b c d x y z u v w g:V) (pr:List (List V)):Prop where
 fl:H.floor = 0
 b0:H.blk L0 = some ⟨7,[[i64 p.id,.bool p.mob,a,b,c,i64 p.ev,d]]⟩
 b1:H.blk L1 = some ⟨10,[[i64 s.id,i64 s.fr,i64 s.ep,x,y,z,u,v,w,g]]⟩
 lt:L0 < H.next ∧ L1 < H.next ∧ L0 ≠ L1
 mp:MP H [i64 p.id,.bool p.mob,a,b,c,i64 p.ev,d] p a b c d
 ms:MS H [i64 s.id,i64 s.fr,i64 s.ep,x,y,z,u,v,w,g] s x y z u v w g pr
 m0:∀ n ∈ lv [a,b,c,d],n ≠ L0 ∧ n ≠ L1 ∧ n < H.next
 m1:∀ n ∈ lv [x,y,z,u,v,w,g] ++ lr pr,n ≠ L0 ∧ n ≠ L1 ∧ n ∉ lv [a,b,c,d]
theorem Lc.at {q:Int} {p0:Pr} (h:Lc H L0 L1 p s a b c d x y z u v w g pr) (hq:at? s.t.ps q = some p0) :
  ∃ lx bk,loc x = some lx ∧ idxV 21 x (.int .i64 q) = some (.ptr lx q.toNat 0) ∧ H.blk lx = some bk ∧ bk.rows[q.toNat]? = some (prRow p0) ∧ H.floor ≤ lx ∧ lx ≠ L0 ∧ lx ≠ L1 ∧ lx < H.next:=by
 obtain ⟨h1,h2⟩:=at?_some.1 hq
 obtain ⟨hj,e⟩:=List.getElem?_eq_some_iff.1 h2
 have hlt:q.toNat < (s.t.ps.map prRow).length:=by rw [List.length_map]; exact hj
 obtain ⟨lx,bk,e1,e2,e3,e4,e5⟩:=h.ms.ps.idx (k:=.i64) hlt
 rw [Int.toNat_of_nonneg h1] at e2
 rw [List.getElem_map,e] at e4
 have hm:lx ∈ lv [x,y,z,u,v,w,g] ++ lr pr:=List.mem_append_left _ (mem_lv.2 ⟨x,by simp,e1⟩)
 exact ⟨lx,bk,e1,e2,e3,e4,e5,(h.m1 lx hm).1,(h.m1 lx hm).2.1,h.ms.lt hm⟩
theorem Lc.regs {q:Int} {p0:Pr} (h:Lc H L0 L1 p s a b c d x y z u v w g pr) (hb:StB s) (hq:at? s.t.ps q = some p0) {i j:Nat} (hi:i < 16) (hj:j < 16) (m k:Int) :
  ∃ lx bk,idxV 21 x (.int .i64 q) = some (.ptr lx q.toNat 0) ∧ H.blk lx = some bk ∧ bk.rows[q.toNat]? = some (prRow p0) ∧ (prRow p0).length = 21 ∧ q.toNat < bk.rows.length ∧ H.floor ≤ lx ∧ lx ≠ L0 ∧ lx ≠ L1 ∧
   (prRow p0).take i ++ [.int .u32 m] ++ (prRow p0).drop (i + 1) = prRow { p0 with regs:=p0.regs.set i m } ∧
   (prRow { p0 with regs:=p0.regs.set i m }).take j ++ [.int .u32 k] ++ (prRow { p0 with regs:=p0.regs.set i m }).drop (j + 1) = prRow { p0 with regs:=(p0.regs.set i m).set j k } ∧
   Lc (H.set lx ⟨bk.sz,bk.rows.set q.toNat (prRow { p0 with regs:=(p0.regs.set i m).set j k })⟩) L0 L1 p (setR (setR s q i m) q j k) a b c d x y z u v w g pr:=by
 obtain ⟨lx,bk,h1,h2,h3,h4,h5,h6,h7,h8⟩:=h.at hq
 have hpc:=at?_lt hq
 have hw:Wp p0:=hb.wp p0 (at_mem hq)
 have hw1:Wp { p0 with regs:=p0.regs.set i m }:=by unfold Wp at hw ⊢; simpa using hw
 obtain ⟨ly,bl,row,e0,e1,e2,e3,e4,e5,e6,e7⟩:=ms_store h.ms hb hpc hi m
 have ex:ly = lx:=Option.some.inj (e0.symm.trans h1)
 subst ex
 have eb:bl = bk:=Option.some.inj (e2.symm.trans h3)
 subst eb
 have er:row = prRow p0:=Option.some.inj (e3.symm.trans h4)
 subst er
 have r1:=prRow_set hw hi m
 rw [r1] at e7
 have hlt:q.toNat < bl.rows.length:=(List.getElem?_eq_some_iff.1 h4).1
 have hpc1:0 ≤ q ∧ q < (setR s q i m).t.ps.length:=by
  show 0 ≤ q ∧ q < ((setP s.t.ps q _).length:Int)
  rw [setP_len]
  exact hpc
 obtain ⟨lz,bz,row2,f0,f1,f2,f3,f4,f5,f6,f7⟩:=ms_store e7 (hb.setR q i m) hpc1 hj k
 have ex:lz = ly:=Option.some.inj (f0.symm.trans h1)
 subst ex
 rw [Heap.set_blk,if_pos rfl] at f2
 have eb:=Option.some.inj f2
 subst eb
 have er2:row2 = prRow { p0 with regs:=p0.regs.set i m }:=by
  have:(bl.rows.set q.toNat (prRow { p0 with regs:=p0.regs.set i m }))[q.toNat]? = some row2:=f3
  rw [List.getElem?_set_self hlt] at this
  exact (Option.some.inj this).symm
 subst er2
 have r2:=prRow_set hw1 hj k
 rw [r2] at f7
 have hm:lz ∈ lv [x,y,z,u,v,w,g] ++ lr pr:=List.mem_append_left _ (mem_lv.2 ⟨x,by simp,h1⟩)
 have eh:(H.set lz ⟨bl.sz,bl.rows.set q.toNat (prRow { p0 with regs:=p0.regs.set i m })⟩).set lz ⟨bl.sz,(bl.rows.set q.toNat (prRow { p0 with regs:=p0.regs.set i m })).set q.toNat (prRow { p0 with regs:=(p0.regs.set i m).set j k })⟩ = H.set lz ⟨bl.sz,bl.rows.set q.toNat (prRow { p0 with regs:=(p0.regs.set i m).set j k })⟩:=by
  unfold Heap.set
  simp only [List.set_set,Heap.mk.injEq,and_true]
  funext n
  split <;> rfl
 have f7':=eh ▸ f7
 refine ⟨lz,bl,h2,h3,h4,pr_len hw,hlt,h5,h6,h7,r1,r2,h.fl,?_,?_,h.lt,h.mp.frame (Frame.set (p:=fun m => m = lz) _ _ rfl) fun n hn e => (h.m1 lz hm).2.2 (e ▸ hn),f7',h.m0,h.m1⟩
 ·rw [Heap.set_blk,if_neg (Ne.symm h6)]
  exact h.b0
 ·rw [Heap.set_blk,if_neg (Ne.symm h7)]
  exact h.b1
end Sy
end Go.Fv.Tr
namespace Go.Fv.Tr
open Go Go.Fv Go.Fv.Pl Go.Proofs
variable {G:GV}
namespace Sy
variable {l m:List V} {s:St} {p:Pn} {x y z a b c d u v w g:V} {pr:List (List V)} {H H' K:Heap} {L0 L1:Nat}
structure Tn where
 proc:Int
 take:Bool
 late:Int
theorem set_set (H:Heap) (l:Nat) (b b':Blk):(H.set l b).set l b' = H.set l b':=by
 unfold Heap.set
 simp only [Heap.mk.injEq,and_true]
 funext n
 split <;> rfl
theorem Lc.next {K2 K3:Heap} {s':St} {x2 y2 z2 u2 v2 w2 g2:V} {pr2:List (List V)} (h:Lc K L0 L1 p s a b c d x y z u v w g pr) (f:Frame K K2 (fun _ => False))
  (ms:MS K2 [i64 s'.id,i64 s'.fr,i64 s'.ep,x2,y2,z2,u2,v2,w2,g2] s' x2 y2 z2 u2 v2 w2 g2 pr2) (hge:∀ n ∈ lv [x2,y2,z2,u2,v2,w2,g2] ++ lr pr2,K.next ≤ n)
  (hf:K3.floor = K2.floor) (hn:K2.next ≤ K3.next) (hb:K3.blk L1 = some ⟨10,[[i64 s'.id,i64 s'.fr,i64 s'.ep,x2,y2,z2,u2,v2,w2,g2]]⟩) (ho:∀ q,q < K2.next → q ≠ L1 → K3.blk q = K2.blk q) :
  Lc K3 L0 L1 p s' a b c d x2 y2 z2 u2 v2 w2 g2 pr2:=by
 have lt:=h.lt
 have nx:=f.next
 have f3:Frame K2 K3 (fun q => q = L1):=⟨hn,hf,fun q h1 h2 => ho q h1 h2⟩
 refine ⟨hf.trans (f.floor.trans h.fl),?_,hb,⟨by omega,by omega,lt.2.2⟩,(h.mp.frame f fun _ _ => id).frame f3 fun n hn e => (h.m0 n hn).2.1 e,ms.frame f3 fun n hn e => ?_,fun n hn => ?_,fun n hn => ?_⟩
 ·exact (ho L0 (by omega) lt.2.2).trans ((f.old L0 lt.1 id).trans h.b0)
 ·have:=hge n hn
  omega
 ·have:=h.m0 n hn
  exact ⟨this.1,this.2.1,by omega⟩
 ·have h1:=hge n hn
  exact ⟨by omega,by omega,fun hm => by have:=(h.m0 n hm).2.2; omega⟩
def Inv (G:GV) (L0 L1 n:Nat) (cc:Int) (i:Nat) (r:List V) (H:Heap):Prop :=
 ∃ gave took t k a b c d x y z u v w g pr,r = [i64 gave,i64 took,.bool false,i64 (i:Nat)] ∧ Lc H L0 L1 (crP n cc) (crS t k) a b c d x y z u v w g pr ∧ Cr n t k ∧ cc + gave = k + took ∧ 0 ≤ gave ∧ gave ≤ i ∧ 0 ≤ took
end Sy
end Go.Fv.Tr
namespace Go.Fv.Tr
open Go Go.Fv Go.Fv.Pl Go.Proofs
variable {G:GV}
namespace Sy
theorem lc_first {p:Pn} {s:St} {x y z a b c d u v w g:V} {pr:List (List V)} {H K:Heap} {M:Nat} (mp:MP H [i64 p.id,.bool p.mob,a,b,c,i64 p.ev,d] p a b c d) (ms:MS H [i64 s.id,i64 s.fr,i64 s.ep,x,y,z,u,v,w,g] s x y z u v w g pr) (fl:H.floor = 0)
  (hlp:∀ n ∈ lv [a,b,c,d],0 ≤ n ∧ n < M) (hls:∀ n ∈ lv [x,y,z,u,v,w,g] ++ lr pr,M ≤ n) (hf:K.floor = H.floor) (hn:K.next = H.next + 1 + 1)
  (hb0:K.blk H.next = some ⟨7,[[i64 p.id,.bool p.mob,a,b,c,i64 p.ev,d]]⟩) (hb1:K.blk (H.next + 1) = some ⟨10,[[i64 s.id,i64 s.fr,i64 s.ep,x,y,z,u,v,w,g]]⟩) (ho:∀ q,q < H.next → K.blk q = H.blk q) :
  Lc K H.next (H.next + 1) p s a b c d x y z u v w g pr:=by
 have f2:Frame H K (fun _ => False):=⟨by omega,hf,fun q h1 _ => ho q h1⟩
 refine ⟨f2.floor.trans fl,hb0,hb1,⟨by omega,by omega,by omega⟩,mp.frame f2 fun _ _ => id,ms.frame f2 fun _ _ => id,fun m hm => ?_,fun m hm => ?_⟩
 ·have h1:=hlp m hm
  have h2:m < H.next:=by
   obtain ⟨q,hq,hl⟩:=mem_lv.1 hm
   simp only [List.mem_cons,List.not_mem_nil,or_false] at hq
   rcases hq with rfl | rfl | rfl | rfl
   ·exact mp.pages.loc_lt hl
   ·exact mp.procs.loc_lt hl
   ·exact mp.ports.loc_lt hl
   ·exact mp.sems.loc_lt hl
  exact ⟨by omega,by omega,by omega⟩
 ·have h1:=ms.lt hm
  have h2:=hls m hm
  exact ⟨by omega,by omega,fun g => by have:=(hlp m g).2; omega⟩
end Sy
end Go.Fv.Tr
namespace Go.Fv.Tr
open Go Go.Fv Go.Fv.Pl Go.Proofs
variable {G:GV}
namespace Sy
variable {r0 r1:List Int} {i o:List ByteArray} {pgs:List Pa} {x y z a b c d u v w g:V} {pr:List (List V)} {H K:Heap} {L0 L1:Nat}
theorem pS_bM:pS.pages.length ≤ big ∧ pS.procs.length ≤ big ∧ pS.ports.length ≤ big ∧ pS.sems.length ≤ big:=by decide
def wroteM (r0 r1:List Int) (i o:List ByteArray) (pgs:List Pa) (m n:Nat):St :=
 if o.length < 2 then sM (r0.set 1 0) r1 i (o ++ [bs (outP pgs m n)]) pgs else sM (r0.set 1 4294967293) r1 i o pgs
theorem do_writeM (hA:BErrs G) (nn:Nat) {lp ls:List V} (mp:MP K lp pS a b c d) (ms:MS K ls (sM r0 r1 i o pgs) x y z u v w g pr) (h0:Rg r0) (h1:Rg r1) (hi:MsOk i) (ho:MsOk o) (hp:PgOk pgs) {m n:Nat} (e1:r0[1]? = some 1) (e2:r0[2]? = some ((m:Nat):Int)) (e3:r0[3]? = some ((n:Nat):Int)) (hn:n ≤ 4) (hm:m + n ≤ 64) (hK:K.floor ≤ K.next) :
  Run (callV (cfg G) (sem (cfg G) (nn + 11)) 10 [.agg lp,.agg ls,i64 0,i64 13,i64 0]) K (NewRes K (wroteM r0 r1 i o pgs m n)):=by
 have hok:=sM_ok h0 h1 hi ho hp
 have hb:=sM_b h0 h1 hi ho hp
 have hc:=(sM_can h0 h1 hi ho hp).1
 have g1:regAt (sM r0 r1 i o pgs) 0 1 = ((1:Nat):Int):=by show (r0[1]?).getD 0 = _; rw [e1]; rfl
 have g2:regAt (sM r0 r1 i o pgs) 0 2 = ((m:Nat):Int):=by show (r0[2]?).getD 0 = _; rw [e2]; rfl
 have g3:regAt (sM r0 r1 i o pgs) 0 3 = ((n:Nat):Int):=by show (r0[3]?).getD 0 = _; rw [e3]; rfl
 have hh:holdOk ⟨4,4,2,0⟩ ⟨o,0⟩:=(hok.2 10 (by decide)) ((⟨4,4,2,0⟩:Tp),(⟨o,0⟩:Po)) (by simp [pS,sM])
 have hag:ageOk ⟨4,4,2,0⟩ ⟨o,0⟩:=(hok.2 11 (by decide)) ((⟨4,4,2,0⟩:Tp),(⟨o,0⟩:Po)) (by simp [pS,sM])
 have hT:TpOk ⟨4,4,2,0⟩:=by decide
 have e:doWrite (sM r0 r1 i o pgs) 0 1 ⟨4,4,2,0⟩ ⟨o,0⟩ = wroteM r0 r1 i o pgs m n:=by
  unfold doWrite wroteM
  rw [g2,g3,Int.toNat_natCast,Int.toNat_natCast]
  by_cases h:o.length < 2
  ·rw [if_pos h,if_pos (show ((o.length:Nat):Int) < 2 by omega)]
   rfl
  ·rw [if_neg h,if_neg (show ¬ ((o.length:Nat):Int) < 2 by omega)]
   rfl
 rw [← e]
 exact do_mem hA nn mp pS_bM ms hb hok (pc:=0) ⟨by decide,of_decide_eq_true rfl⟩ rfl (by decide) (call:=13) (by decide) (fun h hf => write_run hA nn h hf hc (n:=1) g1 (q:=⟨4,4,2,0⟩) (r:=⟨o,0⟩) rfl rfl rfl hT hh hag (by rw [g3]; show ((n:Nat):Int) ≤ 4; omega) hp.by_
  (by rw [g2,g3,Int.toNat_natCast,Int.toNat_natCast]; exact (span0 hp hm).2)) hK
def readM (r0 r1:List Int) (i o:List ByteArray) (pgs:List Pa) (m:Nat):St:=match i with
 | [] => sM r0 (r1.set 1 4294967292) [] o pgs
 | m0 :: ms => sM r0 ((r1.set 1 (m0.size:Nat)).set 2 1) ms o (inP pgs m m0.data.toList)
theorem do_readM (hA : BErrs G) (nn : Nat) {lp ls : List V} (mp : MP K lp pS a b c d) (ms : MS K ls (sM r0 r1 i o pgs) x y z u v w g pr) (h0 : Rg r0) (h1 : Rg r1) (hi : MsOk i) (ho : MsOk o) (hp : PgOk pgs) {m : Nat} (e1 : r1[1]? = some 0) (e2 : r1[2]? = some ((m : Nat) : Int)) (hm : i ≠ [] → m ≤ 60) (hK : K.floor ≤ K.next) :
    Run (callV (cfg G) (sem (cfg G) (nn + 11)) 10 [.agg lp,.agg ls,i64 1,i64 12,i64 0]) K (NewRes K (readM r0 r1 i o pgs m)):=by
  have hok:=sM_ok h0 h1 hi ho hp
  have hb:=sM_b h0 h1 hi ho hp
  have hc:=(sM_can h0 h1 hi ho hp).2
  have g1:regAt (sM r0 r1 i o pgs) 1 1 = ((0:Nat):Int):=by show (r1[1]?).getD 0 = _; rw [e1]; rfl
  have g2:regAt (sM r0 r1 i o pgs) 1 2 = ((m:Nat):Int):=by show (r1[2]?).getD 0 = _; rw [e2]; rfl
  have hh:holdOk ⟨3,4,2,0⟩ ⟨i,0⟩:=(hok.2 10 (by decide)) ((⟨3,4,2,0⟩:Tp),(⟨i,0⟩:Po)) (by simp [pS,sM])
  have hag:ageOk ⟨3,4,2,0⟩ ⟨i,0⟩:=(hok.2 11 (by decide)) ((⟨3,4,2,0⟩:Tp),(⟨i,0⟩:Po)) (by simp [pS,sM])
  have hT:TpOk ⟨3,4,2,0⟩:=by decide
  have e : doRead (sM r0 r1 i o pgs) 1 0 ⟨i, 0⟩ = readM r0 r1 i o pgs m := by
    unfold doRead readM
    cases i with
    | nil => rfl
    | cons m0 ms =>
      dsimp only
      unfold gotten
      rw [g2,Int.toNat_natCast]
      rfl
  rw [← e]
  refine do_mem hA nn mp pS_bM ms hb hok (pc:=1) ⟨by decide,of_decide_eq_true rfl⟩ rfl (by decide) (call:=12) (by decide) (fun h hf => read_run hA nn h hf hc (n:=0) g1 (q:=⟨3,4,2,0⟩) (r:=⟨i,0⟩) rfl rfl rfl hT hh hag fun m0 l hl => ?_) hK
  rw [g2,Int.toNat_natCast]
  have hl:i = m0 :: l:=hl
  have:=hi.sz m0 (by rw [hl]; exact List.mem_cons_self ..)
  have:=hm (by rw [hl]; simp)
  exact (span0 hp (by omega)).1
end Sy
end Go.Fv.Tr
namespace Go.Fv.Tr
open Go Go.Fv Go.Fv.Pl Go.Proofs
variable {G:GV}
namespace Sy
variable {r0 r1:List Int} {i o:List ByteArray} {pgs:List Pa} {p:Pn} {s:St} {x y z a b c d u v w g:V} {pr:List (List V)} {H H' K:Heap} {L0 L1 Lr:Nat}
theorem Lc.frame {P:Nat → Prop} (h:Lc H L0 L1 p s a b c d x y z u v w g pr) (f:Frame H H' P) (h0:¬ P L0) (h1:¬ P L1) (h2:∀ n ∈ lv [a,b,c,d],¬ P n) (h3:∀ n ∈ lv [x,y,z,u,v,w,g] ++ lr pr,¬ P n):Lc H' L0 L1 p s a b c d x y z u v w g pr:=by
 have lt:=h.lt
 have nx:=f.next
 refine ⟨f.floor.trans h.fl,(f.old L0 lt.1 h0).trans h.b0,(f.old L1 lt.2.1 h1).trans h.b1,⟨by omega,by omega,lt.2.2⟩,h.mp.frame f h2,h.ms.frame f h3,fun n hn => ?_,h.m1⟩
 have:=h.m0 n hn
 exact ⟨this.1,this.2.1,by omega⟩
theorem Lc.pages (h:Lc H L0 L1 p s a b c d x y z u v w g pr) {ps:List Pa} {g':V} (ho:Own H g' 66 (ps.map paR)) (hf:∀ t,loc g' = some t → t ≠ L0 ∧ t ≠ L1 ∧ t ∉ lv [a,b,c,d] ∧ t ∉ lv [x,y,z,u,v,w,g] ++ lr pr) :
  Lc (H.set L1 ⟨10,[[i64 s.id,i64 s.fr,i64 s.ep,x,y,z,u,v,w,g']]⟩) L0 L1 p { s with pages:=ps } a b c d x y z u v w g' pr:=by
 have f:Frame H (H.set L1 ⟨10,[[i64 s.id,i64 s.fr,i64 s.ep,x,y,z,u,v,w,g']]⟩) (fun q => q = L1):=Frame.set _ _ rfl
 have lt:=h.lt
 have ms:=h.ms
 have hno:∀ t ∈ lv [x,y,z,u,v,w,g] ++ lr pr,¬ t = L1:=fun t ht => (h.m1 t ht).2.1
 have hlv:∀ q ∈ [x,y,z,u,v,w,g],∀ t,loc q = some t → ¬ t = L1:=fun q hq t ht => hno t (List.mem_append_left _ (mem_lv.2 ⟨q,hq,ht⟩))
 have sub:∀ t,t ∈ lv [x,y,z,u,v,w,g'] → t ∈ lv [x,y,z,u,v,w,g] ∨ loc g' = some t:=fun t ht => by
  rcases (lv_last (A:=[x,y,z,u,v,w])).1 ht with ht | ht
  ·exact .inl ((lv_last (A:=[x,y,z,u,v,w])).2 (.inl ht))
  ·exact .inr ht
 refine ⟨h.fl,(f.old L0 lt.1 lt.2.2).trans h.b0,by rw [Heap.set_blk,if_pos rfl],lt,h.mp.frame f fun t ht => (h.m0 t ht).2.1,⟨rfl,ms.ps.frame f (hlv _ (by simp)),ms.q.frame f (hlv _ (by simp)),ms.ts.frame f (hlv _ (by simp)),ms.up.frame f (hlv _ (by simp)),ms.sems.frame f (hlv _ (by simp)),ms.ports.frame f (hlv _ (by simp)),ho.frame f fun t ht => (hf t ht).2.1,ms.row.frame f fun t ht => hno t (List.mem_append_right _ ht),?_⟩,h.m0,fun t ht => ?_⟩
 ·have nd:=ms.nd
  rw [List.nodup_append] at nd ⊢
  refine ⟨?_,nd.2.1,fun t ht r hr e => ?_⟩
  ·have e6:lv [x,y,z,u,v,w,g'] = lv [x,y,z,u,v,w] ++ (loc g').toList:=by
    show lv ([x,y,z,u,v,w] ++ [g']) = _
    rw [lv_app]
    have:lv [g'] = (loc g').toList:=by rw [lv_cons]; exact List.append_nil _
    rw [this]
   have n6:(lv [x,y,z,u,v,w]).Nodup:=by
    have:lv [x,y,z,u,v,w,g] = lv [x,y,z,u,v,w] ++ lv [g]:=lv_app [x,y,z,u,v,w] [g]
    have n1:=nd.1
    rw [this,List.nodup_append] at n1
    exact n1.1
   rw [e6,List.nodup_append]
   refine ⟨n6,by cases loc g' <;> simp,fun a ha b hb e => ?_⟩
   have hb':loc g' = some b:=by cases e2:loc g' with | none => rw [e2] at hb; cases hb | some t => rw [e2] at hb; simp at hb; rw [hb]
   exact (hf b hb').2.2.2 (List.mem_append_left _ (e ▸ (lv_last (A:=[x,y,z,u,v,w])).2 (.inl ha)))
  ·rcases sub t ht with ht | ht
   ·exact nd.2.2 t ht r hr e
   ·exact (hf t ht).2.2.2 (List.mem_append_right _ (e ▸ hr))
 ·rcases List.mem_append.1 ht with ht | ht
  ·rcases sub t ht with ht | ht
   ·exact h.m1 t (List.mem_append_left _ ht)
   ·exact ⟨(hf t ht).1,(hf t ht).2.1,(hf t ht).2.2.1⟩
  ·exact h.m1 t (List.mem_append_right _ ht)
theorem Lc.regs3 {q:Int} {p0:Pr} (h:Lc H L0 L1 p s a b c d x y z u v w g pr) (hb:StB s) (hq:at? s.t.ps q = some p0) {i j k:Nat} (hi:i < 16) (hj:j < 16) (hk:k < 16) (m1 m2 m3:Int) :
  ∃ lx bk q1 q2 q3,idxV 21 x (.int .i64 q) = some (.ptr lx q.toNat 0) ∧ H.blk lx = some bk ∧ bk.rows[q.toNat]? = some (prRow p0) ∧ (prRow p0).length = 21 ∧ q.toNat < bk.rows.length ∧ H.floor ≤ lx ∧ lx ≠ L0 ∧ lx ≠ L1 ∧ lx ∈ lv [x,y,z,u,v,w,g] ++ lr pr ∧ q1.length = 21 ∧ q2.length = 21 ∧ 
   (prRow p0).take i ++ [.int .u32 m1] ++ (prRow p0).drop (i + 1) = q1 ∧ q1.take j ++ [.int .u32 m2] ++ q1.drop (j + 1) = q2 ∧ q2.take k ++ [.int .u32 m3] ++ q2.drop (k + 1) = q3 ∧
   Lc (H.set lx ⟨bk.sz,bk.rows.set q.toNat q3⟩) L0 L1 p (setR (setR (setR s q i m1) q j m2) q k m3) a b c d x y z u v w g pr:=by
 obtain ⟨lx,bk,g1,g2,g3,g4,g5,g6,g7,g8,e1,e2,lc⟩:=h.regs hb hq hi hj m1 m2
 have hpc:=at?_lt hq
 have hw:Wp p0:=hb.wp p0 (at_mem hq)
 have hw1:Wp { p0 with regs:=p0.regs.set i m1 }:=by unfold Wp at hw ⊢; simpa using hw
 have hw2:Wp { p0 with regs:=(p0.regs.set i m1).set j m2 }:=by unfold Wp at hw ⊢; simpa using hw
 obtain ⟨lx',bk',h1,h2,h3,h4,h5,h6,h7,h8⟩:=h.at hq
 have ex:lx' = lx:=by
  have:=h2.symm.trans g1
  simp only [Option.some.injEq,V.ptr.injEq] at this
  exact this.1
 subst ex
 have hm:lx' ∈ lv [x,y,z,u,v,w,g] ++ lr pr:=List.mem_append_left _ (mem_lv.2 ⟨x,by simp,h1⟩)
 have hb2:StB (setR (setR s q i m1) q j m2):=(hb.setR q i m1).setR q j m2
 have hpc2:0 ≤ q ∧ q < (setR (setR s q i m1) q j m2).t.ps.length:=by
  show 0 ≤ q ∧ q < ((setP (setP s.t.ps q _) q _).length:Int)
  rw [setP_len,setP_len]
  exact hpc
 obtain ⟨lz,bz,row,f0,f1,f2,f3,f4,f5,f6,f7⟩:=ms_store lc.ms hb2 hpc2 hk m3
 have ex:lz = lx':=Option.some.inj (f0.symm.trans h1)
 subst ex
 rw [Heap.set_blk,if_pos rfl] at f2
 have eb:=Option.some.inj f2
 subst eb
 have er:row = prRow { p0 with regs:=(p0.regs.set i m1).set j m2 }:=by
  have:(bk.rows.set q.toNat (prRow { p0 with regs:=(p0.regs.set i m1).set j m2 }))[q.toNat]? = some row:=f3
  rw [List.getElem?_set_self g5] at this
  exact (Option.some.inj this).symm
 subst er
 rw [set_set,List.set_set] at f7
 refine ⟨lz,bk,_,_,_,g1,g2,g3,g4,g5,g6,g7,g8,hm,pr_len hw1,pr_len hw2,e1,e2,rfl,h.fl,?_,?_,h.lt,h.mp.frame (Frame.set (p:=fun m => m = lz) _ _ rfl) fun n hn e => (h.m1 lz hm).2.2 (e ▸ hn),f7,h.m0,h.m1⟩
 ·rw [Heap.set_blk,if_neg (Ne.symm g7)]
  exact h.b0
 ·rw [Heap.set_blk,if_neg (Ne.symm g8)]
  exact h.b1
theorem and31 (a0:Int):∃ m:Nat,m ≤ 31 ∧ ∃ w,convI .u32 (i64 a0) = some (.int .u32 w) ∧ arithV .and (.int .u32 w) (.int .u32 31) = some (.int .u32 ((m:Nat):Int)):=by
 refine ⟨(BitVec.ofInt 32 (IntKind.u32.wrap a0) &&& BitVec.ofInt 32 31).toNat,?_,_,rfl,?_⟩
 ·rw [BitVec.toNat_and]
  exact Nat.le_trans Nat.and_le_right (by decide)
 ·have h:(BitVec.ofInt 32 (IntKind.u32.wrap a0) &&& BitVec.ofInt 32 31).toNat ≤ 31:=by
   rw [BitVec.toNat_and]
   exact Nat.le_trans Nat.and_le_right (by decide)
  have w:IntKind.u32.wrap (((BitVec.ofInt 32 (IntKind.u32.wrap a0) &&& BitVec.ofInt 32 31).toNat:Nat):Int) = (((BitVec.ofInt 32 (IntKind.u32.wrap a0) &&& BitVec.ofInt 32 31).toNat:Nat):Int):=Go.IntWalk.u32_in _ ⟨by omega,by omega⟩
  show some (V.int .u32 (IntKind.u32.wrap (((BitVec.ofInt 32 (IntKind.u32.wrap a0) &&& BitVec.ofInt 32 31).toNat:Nat):Int))) = _
  rw [w]
end Sy
end Go.Fv.Tr

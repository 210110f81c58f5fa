/-
  The Go functions ferry/ferrylaw12.SysShares, ferry/ferrylaw12.SysMessages, ferry/ferrylaw1 By an AI agent; no person has read it.
-/
import Derived.Test.YtekncgjkocgioaaGreatDoorFvP42
set_option linter.unusedVariables false
set_option linter.unusedSimpArgs false
set_option linter.unusedSectionVars false
/-! The Go functions ferry/ferrylaw12.SysShares, ferry/ferrylaw12.SysMessages, ferry/ferrylaw1 -/
namespace Go.Fv.Tr
open Go Go.Fv Go.Proofs
set_option maxRecDepth 20000
noncomputable def ferry_ferrylaw12_SysShares_j1 (G:GV) (call:CV) (aA:List V) (aB:V):M R :=
 (M.ret (aA.getD 1 V.undef)).bind fun aC =>
 (M.lift (arithV .add aC (V.int .i64 1))).bind fun aD =>
 (M.ret aD).bind fun aE =>
 M.ret (Ex.normal,[aB,aE])
noncomputable def ferry_ferrylaw12_SysShares_l2 (G:GV) (call:CV) (aA:V) (aB:V) (aC:List V):M R :=
 (M.ret (aC.getD 1 V.undef)).bind fun aD =>
 (M.ret aA).bind fun aE =>
 (M.lift (arithV .lss aD aE)).bind fun aF =>
 (condV aF
 ((M.lift (padd 3 aB)).bind fun aG =>
 (load1 aG).bind fun aH =>
 (M.ret (aC.getD 1 V.undef)).bind fun aI =>
 (M.lift (idxV 21 aH aI)).bind fun aJ =>
 (M.lift (padd 17 aJ)).bind fun aK =>
 (load1 aK).bind fun aL =>
 (M.lift ((eqV (.sc .int) true aL (V.int .i64 2)).bind fun b => some (.bool b))).bind fun aM =>
 (condV aM
 ((M.ret (aC.getD 0 V.undef)).bind fun aN =>
 (M.lift (arithV .add aN (V.int .i64 1))).bind fun aO =>
 (M.ret aO).bind fun aP =>
 ferry_ferrylaw12_SysShares_j1 G call aC aP)
 (ferry_ferrylaw12_SysShares_j1 G call aC (aC.getD 0 V.undef))))
 (M.ret ((Ex.exit 2),[(aC.getD 0 V.undef),(aC.getD 1 V.undef)])))
noncomputable def ferry_ferrylaw12_SysShares_j2 (G:GV) (call:CV) (aA:List V) (aB:V):M R :=
 (M.ret (aA.getD 1 V.undef)).bind fun aC =>
 (M.lift (arithV .add aC (V.int .i64 1))).bind fun aD =>
 (M.ret aD).bind fun aE =>
 M.ret (Ex.normal,[aB,aE])
noncomputable def ferry_ferrylaw12_SysShares_l3 (G:GV) (call:CV) (aA:V) (aB:V) (aC:List V):M R :=
 (M.ret (aC.getD 1 V.undef)).bind fun aD =>
 (M.ret aA).bind fun aE =>
 (M.lift (arithV .lss aD aE)).bind fun aF =>
 (condV aF
 ((M.lift (padd 3 aB)).bind fun aG =>
 (load1 aG).bind fun aH =>
 (M.ret (aC.getD 1 V.undef)).bind fun aI =>
 (M.lift (idxV 21 aH aI)).bind fun aJ =>
 (M.lift (padd 17 aJ)).bind fun aK =>
 (load1 aK).bind fun aL =>
 (M.lift ((eqV (.sc .int) true aL (V.int .i64 2)).bind fun b => some (.bool b))).bind fun aM =>
 (condV aM
 ((M.ret (aC.getD 0 V.undef)).bind fun aN =>
 (M.lift (arithV .add aN (V.int .i64 1))).bind fun aO =>
 (M.ret aO).bind fun aP =>
 ferry_ferrylaw12_SysShares_j2 G call aC aP)
 (ferry_ferrylaw12_SysShares_j2 G call aC (aC.getD 0 V.undef))))
 (M.ret ((Ex.exit 4),[(aC.getD 0 V.undef),(aC.getD 1 V.undef)])))
noncomputable def ferry_ferrylaw12_SysShares_j3 (G:GV) (call:CV) (aA:V) (aB:V) (aC:R) (aD:List V) (aE:V) (aF:V) (aG:V):M R :=
 (M.ret aA).bind fun aH =>
 (M.ret aE).bind fun aI =>
 (M.lift (arithV .add aH aI)).bind fun aJ =>
 (M.lift (padd 7 aB)).bind fun aK =>
 (load1 aK).bind fun aL =>
 (M.lift (idxV 1 aL (V.int .i64 0))).bind fun aM =>
 (load1 aM).bind fun aN =>
 (M.ret aF).bind fun aO =>
 (M.lift (arithV .add aN aO)).bind fun aP =>
 (M.lift ((eqV (.sc .int) false aJ aP).bind fun b => some (.bool !b))).bind fun aQ =>
 (M.ret aQ).bind fun aR =>
 (guardV aR false (M.lift (padd 7 aB))).bind fun aS =>
 (guardV aR false (load1 aS)).bind fun aT =>
 (guardV aR false (M.lift (idxV 1 aT (V.int .i64 0)))).bind fun aU =>
 (guardV aR false (load1 aU)).bind fun aV =>
 (guardV aR false (M.lift (arithV .gtr aV (V.int .i64 0)))).bind fun aW =>
 (guardV aR false (M.ret aW)).bind fun aX =>
 (guardV aX true (M.ret (aC.2.getD 0 V.undef))).bind fun aY =>
 (guardV aX true (M.lift (arithV .gtr aY (V.int .i64 0)))).bind fun aZ =>
 (guardV aR false (M.lift (pickV aX aZ (V.bool false)))).bind fun bA =>
 (M.lift (pickV aR (V.bool true) bA)).bind fun bB =>
 (condV bB
 ((M.ret (V.bool false)).bind fun bC =>
 M.ret (Ex.ret,[aE,aF,bC,(aD.getD 3 V.undef)]))
 ((M.ret (aD.getD 3 V.undef)).bind fun bD =>
 (M.lift (arithV .add bD (V.int .i64 1))).bind fun bE =>
 (M.ret bE).bind fun bF =>
 M.ret (Ex.normal,[aE,aF,aG,bF])))
noncomputable def ferry_ferrylaw12_SysShares_j4 (G:GV) (call:CV) (aA:V) (aB:V) (aC:V) (aD:V) (aE:List V) (x0:V) (aF:R) (aG:V) (aH:V):M R :=
 (loadN 7 aA).bind fun aI =>
 (loadN 10 aB).bind fun aJ =>
 (M.ret aC).bind fun aK =>
 (M.ret aH).bind fun aL =>
 (callV (cfg G) call 10 [aI,aJ,aK,aL,(V.int .i64 5)]).bind fun aM =>
 (M.ret aM).bind fun aN =>
 (M.lift (extractV aN 0)).bind fun aO =>
 (M.lift (extractV aN 1)).bind fun aP =>
 (newV (.agg [(V.int .i64 0),(V.int .i64 0),(V.int .i64 0),V.nils,V.nils,V.nils,V.nils,V.nils,V.nils,V.nils,V.nils,(V.int .i64 0)])).bind fun aQ =>
 (storeN 12 aQ aO).bind fun _ =>
 (M.ret aP).bind fun aR =>
 (M.ret aR).bind fun aS =>
 (M.lift ((eqV .iface true aS V.nili).bind fun b => some (.bool !b))).bind fun aT =>
 (M.ret aT).bind fun aU =>
 (guardV aU false (M.lift (padd 11 aQ))).bind fun aV =>
 (guardV aU false (load1 aV)).bind fun aW =>
 (guardV aU false (M.lift ((eqV (.sc .int) true aW (V.int .i64 0)).bind fun b => some (.bool !b)))).bind fun aX =>
 (M.lift (pickV aU (V.bool true) aX)).bind fun aY =>
 (M.ret aY).bind fun aZ =>
 (guardV aZ false (M.lift (padd 0 aQ))).bind fun bA =>
 (guardV aZ false (M.lift (padd 3 bA))).bind fun bB =>
 (guardV aZ false (load1 bB)).bind fun bC =>
 (guardV aZ false (M.lift (lenV bC))).bind fun bD =>
 (guardV aZ false (M.ret aD)).bind fun bE =>
 (guardV aZ false (M.lift ((eqV (.sc .int) false bD bE).bind fun b => some (.bool !b)))).bind fun bF =>
 (M.lift (pickV aZ (V.bool true) bF)).bind fun bG =>
 (M.ret bG).bind fun bH =>
 (guardV bH false (M.lift (padd 0 aQ))).bind fun bI =>
 (guardV bH false (M.lift (padd 7 bI))).bind fun bJ =>
 (guardV bH false (load1 bJ)).bind fun bK =>
 (guardV bH false (M.lift (lenV bK))).bind fun bL =>
 (guardV bH false (M.lift ((eqV (.sc .int) true bL (V.int .i64 1)).bind fun b => some (.bool !b)))).bind fun bM =>
 (M.lift (pickV bH (V.bool true) bM)).bind fun bN =>
 (condV bN
 ((M.ret (V.bool false)).bind fun bO =>
 M.ret (Ex.ret,[(aE.getD 0 V.undef),(aE.getD 1 V.undef),bO,(aE.getD 3 V.undef)]))
 ((M.lift (padd 7 aB)).bind fun bP =>
 (load1 bP).bind fun bQ =>
 (M.lift (idxV 1 bQ (V.int .i64 0))).bind fun bR =>
 (load1 bR).bind fun bS =>
 (M.ret bS).bind fun bT =>
 (M.lift (padd 0 aQ)).bind fun bU =>
 (loadN 10 bU).bind fun bV =>
 (storeN 10 aB bV).bind fun _ =>
 (M.ret (V.int .i64 0)).bind fun bW =>
 (M.ret (V.int .i64 0)).bind fun bX =>
 (loopV (ferry_ferrylaw12_SysShares_l3 G call aD aB) [bW,bX]).bind fun bY => match bY.1 with
 | .normal => M.fail
 | .exit k0_164 =>
 (if k0_164 = 4 then
 (M.lift (padd 3 aB)).bind fun bZ =>
 (load1 bZ).bind fun cA =>
 (M.ret aC).bind fun cB =>
 (M.lift (idxV 21 cA cB)).bind fun cC =>
 (M.lift (padd 0 cC)).bind fun cD =>
 (M.lift (aidxV 16 1 cD (V.int .i64 1))).bind fun cE =>
 (load1 cE).bind fun cF =>
 (M.ret cF).bind fun cG =>
 (M.ret x0).bind fun cH =>
 (M.ret (aE.getD 3 V.undef)).bind fun cI =>
 (M.lift (idxV 3 cH cI)).bind fun cJ =>
 (M.lift (padd 1 cJ)).bind fun cK =>
 (load1 cK).bind fun cL =>
 (M.lift (unV .not cL)).bind fun cM =>
 (M.ret cM).bind fun cN =>
 (guardV cN true (M.ret cG)).bind fun cO =>
 (guardV cN true (M.lift ((eqV (.sc .int) true cO (V.int .u32 0)).bind fun b => some (.bool b)))).bind fun cP =>
 (M.lift (pickV cN cP (V.bool false))).bind fun cQ =>
 (M.ret cQ).bind fun cR =>
 (condV cR
 ((M.ret (aE.getD 0 V.undef)).bind fun cS =>
 (M.lift (arithV .add cS (V.int .i64 1))).bind fun cT =>
 (M.ret cT).bind fun cU =>
 (M.ret (aE.getD 1 V.undef)).bind fun cV =>
 (M.ret (aF.2.getD 0 V.undef)).bind fun cW =>
 (M.lift (arithV .add cV cW)).bind fun cX =>
 (M.ret (bY.2.getD 0 V.undef)).bind fun cY =>
 (M.lift (arithV .sub cX cY)).bind fun cZ =>
 (M.ret cZ).bind fun dA =>
 (M.ret (aF.2.getD 0 V.undef)).bind fun dB =>
 (M.ret (bY.2.getD 0 V.undef)).bind fun dC =>
 (M.lift (arithV .sub dB dC)).bind fun dD =>
 (M.lift (arithV .gtr dD (V.int .i64 1))).bind fun dE =>
 (M.ret dE).bind fun dF =>
 (guardV dF false (M.ret (aF.2.getD 0 V.undef))).bind fun dG =>
 (guardV dF false (M.lift (arithV .gtr dG (V.int .i64 0)))).bind fun dH =>
 (guardV dF false (M.ret dH)).bind fun dI =>
 (guardV dI true (M.ret (aF.2.getD 0 V.undef))).bind fun dJ =>
 (guardV dI true (M.ret (bY.2.getD 0 V.undef))).bind fun dK =>
 (guardV dI true (M.lift ((eqV (.sc .int) false dJ dK).bind fun b => some (.bool b)))).bind fun dL =>
 (guardV dF false (M.lift (pickV dI dL (V.bool false)))).bind fun dM =>
 (M.lift (pickV dF (V.bool true) dM)).bind fun dN =>
 (condV dN
 ((M.ret (V.bool false)).bind fun dO =>
 M.ret (Ex.ret,[cU,dA,dO,(aE.getD 3 V.undef)]))
 (ferry_ferrylaw12_SysShares_j3 G call aG aB bY aE cU dA (aE.getD 2 V.undef))))
 ((M.ret x0).bind fun dP =>
 (M.ret (aE.getD 3 V.undef)).bind fun dQ =>
 (M.lift (idxV 3 dP dQ)).bind fun dR =>
 (M.lift (padd 1 dR)).bind fun dS =>
 (load1 dS).bind fun dT =>
 (M.lift (unV .not dT)).bind fun dU =>
 (M.ret dU).bind fun dV =>
 (condV dV
 ((M.ret cG).bind fun dW =>
 (M.lift ((eqV (.sc .int) true dW (V.int .u32 4294967293)).bind fun b => some (.bool !b))).bind fun dX =>
 (M.ret dX).bind fun dY =>
 (guardV dY false (M.ret bT)).bind fun dZ =>
 (guardV dY false (M.lift ((eqV (.sc .int) true dZ (V.int .i64 255)).bind fun b => some (.bool !b)))).bind fun eA =>
 (M.lift (pickV dY (V.bool true) eA)).bind fun eB =>
 (M.ret eB).bind fun eC =>
 (guardV eC false (M.ret (aF.2.getD 0 V.undef))).bind fun eD =>
 (guardV eC false (M.lift (arithV .gtr eD (V.int .i64 0)))).bind fun eE =>
 (M.lift (pickV eC (V.bool true) eE)).bind fun eF =>
 (condV eF
 ((M.ret (V.bool false)).bind fun eG =>
 M.ret (Ex.ret,[(aE.getD 0 V.undef),(aE.getD 1 V.undef),eG,(aE.getD 3 V.undef)]))
 (ferry_ferrylaw12_SysShares_j3 G call aG aB bY aE (aE.getD 0 V.undef) (aE.getD 1 V.undef) (aE.getD 2 V.undef))))
 ((M.lift (padd 3 aB)).bind fun eH =>
 (load1 eH).bind fun eI =>
 (M.ret aC).bind fun eJ =>
 (M.lift (idxV 21 eI eJ)).bind fun eK =>
 (M.lift (padd 17 eK)).bind fun eL =>
 (load1 eL).bind fun eM =>
 (M.lift ((eqV (.sc .int) true eM (V.int .i64 1)).bind fun b => some (.bool b))).bind fun eN =>
 (M.ret eN).bind fun eO =>
 (guardV eO true (M.ret cG)).bind fun eP =>
 (guardV eO true (M.lift ((eqV (.sc .int) true eP (V.int .u32 0)).bind fun b => some (.bool b)))).bind fun eQ =>
 (M.lift (pickV eO eQ (V.bool false))).bind fun eR =>
 (M.ret eR).bind fun eS =>
 (condV eS
 ((M.ret (aE.getD 1 V.undef)).bind fun eT =>
 (M.lift (arithV .add eT (V.int .i64 1))).bind fun eU =>
 (M.ret eU).bind fun eV =>
 ferry_ferrylaw12_SysShares_j3 G call aG aB bY aE (aE.getD 0 V.undef) eV (aE.getD 2 V.undef))
 ((M.lift (padd 3 aB)).bind fun eW =>
 (load1 eW).bind fun eX =>
 (M.ret aC).bind fun eY =>
 (M.lift (idxV 21 eX eY)).bind fun eZ =>
 (M.lift (padd 17 eZ)).bind fun fA =>
 (load1 fA).bind fun fB =>
 (M.lift ((eqV (.sc .int) true fB (V.int .i64 1)).bind fun b => some (.bool b))).bind fun fC =>
 (M.ret fC).bind fun fD =>
 (condV fD
 ((M.ret cG).bind fun fE =>
 (M.lift ((eqV (.sc .int) true fE (V.int .u32 4294967294)).bind fun b => some (.bool !b))).bind fun fF =>
 (M.ret fF).bind fun fG =>
 (guardV fG true (M.ret cG)).bind fun fH =>
 (guardV fG true (M.lift ((eqV (.sc .int) true fH (V.int .u32 4294967295)).bind fun b => some (.bool !b)))).bind fun fI =>
 (M.lift (pickV fG fI (V.bool false))).bind fun fJ =>
 (condV fJ
 ((M.ret (V.bool false)).bind fun fK =>
 M.ret (Ex.ret,[(aE.getD 0 V.undef),(aE.getD 1 V.undef),fK,(aE.getD 3 V.undef)]))
 (ferry_ferrylaw12_SysShares_j3 G call aG aB bY aE (aE.getD 0 V.undef) (aE.getD 1 V.undef) (aE.getD 2 V.undef))))
 (ferry_ferrylaw12_SysShares_j3 G call aG aB bY aE (aE.getD 0 V.undef) (aE.getD 1 V.undef) (aE.getD 2 V.undef)))))))))
 else (if k0_164 = 1 then
 (M.ret (aE.getD 3 V.undef)).bind fun fL =>
 (M.lift (arithV .add fL (V.int .i64 1))).bind fun fM =>
 (M.ret fM).bind fun fN =>
 M.ret (Ex.normal,[(aE.getD 0 V.undef),(aE.getD 1 V.undef),(aE.getD 2 V.undef),fN])
 else M.ret ((Ex.exit k0_164),[(aE.getD 0 V.undef),(aE.getD 1 V.undef),(aE.getD 2 V.undef),(aE.getD 3 V.undef)])))
 | .ret =>
 M.ret (Ex.ret,[(aE.getD 0 V.undef),(aE.getD 1 V.undef),(aE.getD 2 V.undef),(aE.getD 3 V.undef)])))
noncomputable def ferry_ferrylaw12_SysShares_l1 (G:GV) (call:CV) (x0:V) (aA:V) (aB:V) (aC:V) (aD:V) (aE:List V):M R :=
 (M.ret (aE.getD 3 V.undef)).bind fun aF =>
 (M.ret x0).bind fun aG =>
 (M.lift (lenV aG)).bind fun aH =>
 (M.lift (arithV .lss aF aH)).bind fun aI =>
 (condV aI
 ((M.ret x0).bind fun aJ =>
 (M.ret (aE.getD 3 V.undef)).bind fun aK =>
 (M.lift (idxV 3 aJ aK)).bind fun aL =>
 (M.lift (padd 0 aL)).bind fun aM =>
 (load1 aM).bind fun aN =>
 (M.lift (convI .u64 aN)).bind fun aO =>
 (M.ret aA).bind fun aP =>
 (M.lift (convI .u64 aP)).bind fun aQ =>
 (M.lift (arithV .rem aO aQ)).bind fun aR =>
 (M.lift (convI .i64 aR)).bind fun aS =>
 (M.ret aS).bind fun aT =>
 (M.lift (padd 3 aB)).bind fun aU =>
 (load1 aU).bind fun aV =>
 (M.ret aT).bind fun aW =>
 (M.lift (idxV 21 aV aW)).bind fun aX =>
 (M.lift (padd 17 aX)).bind fun aY =>
 (load1 aY).bind fun aZ =>
 (M.lift ((eqV (.sc .int) true aZ (V.int .i64 1)).bind fun b => some (.bool !b))).bind fun bA =>
 (condV bA
 ((M.ret (aE.getD 3 V.undef)).bind fun bB =>
 (M.lift (arithV .add bB (V.int .i64 1))).bind fun bC =>
 (M.ret bC).bind fun bD =>
 M.ret (Ex.normal,[(aE.getD 0 V.undef),(aE.getD 1 V.undef),(aE.getD 2 V.undef),bD]))
 (((M.lift (padd 3 aB)).bind fun bE =>
 (load1 bE).bind fun bF =>
 (M.ret aT).bind fun bG =>
 (M.lift (padd 3 aB)).bind fun bH =>
 (load1 bH).bind fun bI =>
 (M.ret aT).bind fun bJ =>
 (M.ret x0).bind fun bK =>
 (M.ret (aE.getD 3 V.undef)).bind fun bL =>
 (M.lift (idxV 3 bK bL)).bind fun bM =>
 (M.lift (padd 2 bM)).bind fun bN =>
 (load1 bN).bind fun bO =>
 (M.lift (idxV 21 bF bG)).bind fun bP =>
 (M.lift (padd 0 bP)).bind fun bQ =>
 (M.lift (aidxV 16 1 bQ (V.int .i64 1))).bind fun bR =>
 guardM (apartV bH bR && true) (
 (storeN 1 bR (V.int .u32 0)).bind fun _ =>
 (M.lift (idxV 21 bI bJ)).bind fun bS =>
 (M.lift (padd 0 bS)).bind fun bT =>
 (M.lift (aidxV 16 1 bT (V.int .i64 2))).bind fun bU =>
 (storeN 1 bU bO).bind fun _ =>
 (M.ret (V.int .i64 0)).bind fun bV =>
 (M.ret (V.int .i64 0)).bind fun bW =>
 (loopV (ferry_ferrylaw12_SysShares_l2 G call aA aB) [bV,bW]).bind fun bX => match bX.1 with
 | .normal => M.fail
 | .exit k0_93 =>
 (if k0_93 = 2 then
 (M.ret (V.int .i64 10)).bind fun bY =>
 (M.ret x0).bind fun bZ =>
 (M.ret (aE.getD 3 V.undef)).bind fun cA =>
 (M.lift (idxV 3 bZ cA)).bind fun cB =>
 (M.lift (padd 1 cB)).bind fun cC =>
 (load1 cC).bind fun cD =>
 (condV cD
 ((M.ret (V.int .i64 11)).bind fun cE =>
 ferry_ferrylaw12_SysShares_j4 G call aC aB aT aA aE x0 bX aD cE)
 (ferry_ferrylaw12_SysShares_j4 G call aC aB aT aA aE x0 bX aD bY))
 else (if k0_93 = 1 then
 (M.ret (aE.getD 3 V.undef)).bind fun cF =>
 (M.lift (arithV .add cF (V.int .i64 1))).bind fun cG =>
 (M.ret cG).bind fun cH =>
 M.ret (Ex.normal,[(aE.getD 0 V.undef),(aE.getD 1 V.undef),(aE.getD 2 V.undef),cH])
 else M.ret ((Ex.exit k0_93),[(aE.getD 0 V.undef),(aE.getD 1 V.undef),(aE.getD 2 V.undef),(aE.getD 3 V.undef)])))
 | .ret =>
 M.ret (Ex.ret,[(aE.getD 0 V.undef),(aE.getD 1 V.undef),(aE.getD 2 V.undef),(aE.getD 3 V.undef)]))))))
 (M.ret ((Ex.exit 0),[(aE.getD 0 V.undef),(aE.getD 1 V.undef),(aE.getD 2 V.undef),(aE.getD 3 V.undef)])))
noncomputable def ferry_ferrylaw12_SysShares (G:GV) (call:CV) (x0:V) (x1:V) (x2:V):M R :=
 (M.ret (V.bool false)).bind fun aA =>
 (callV (cfg G) call 8 []).bind fun aB =>
 (M.lift (unV .not aB)).bind fun aC =>
 (condV aC
 ((M.ret (V.bool false)).bind fun aD =>
 M.ret (Ex.ret,[aD]))
 ((M.ret x1).bind fun aE =>
 (M.lift (convI .u64 aE)).bind fun aF =>
 (M.lift (arithV .rem aF (V.int .u64 8))).bind fun aG =>
 (M.lift (convI .i64 aG)).bind fun aH =>
 (M.lift (arithV .add (V.int .i64 1) aH)).bind fun aI =>
 (M.ret aI).bind fun aJ =>
 (M.ret x2).bind fun aK =>
 (M.lift (convI .u64 aK)).bind fun aL =>
 (M.lift (arithV .rem aL (V.int .u64 256))).bind fun aM =>
 (M.lift (convI .i64 aM)).bind fun aN =>
 (M.ret aN).bind fun aO =>
 (M.ret aJ).bind fun aP =>
 (M.ret aO).bind fun aQ =>
 (callV (cfg G) call 9 [aP,aQ]).bind fun aR =>
 (M.ret aR).bind fun aS =>
 (M.lift (extractV aS 0)).bind fun aT =>
 (M.lift (extractV aS 1)).bind fun aU =>
 (newV (.agg [(V.int .i64 0),(V.bool false),V.nils,V.nils,V.nils,(V.int .i64 0),V.nils])).bind fun aV =>
 (newV (.agg [(V.int .i64 0),(V.int .i64 0),(V.int .i64 0),V.nils,V.nils,V.nils,V.nils,V.nils,V.nils,V.nils])).bind fun aW =>
 (storeN 7 aV aT).bind fun _ =>
 (storeN 10 aW aU).bind fun _ =>
 (M.ret (V.int .i64 0)).bind fun aX =>
 (M.ret (V.int .i64 0)).bind fun aY =>
 (M.ret (V.int .i64 0)).bind fun aZ =>
 (loopV (ferry_ferrylaw12_SysShares_l1 G call x0 aJ aW aV aO) [aX,aY,aA,aZ]).bind fun bA => match bA.1 with
 | .normal => M.fail
 | .exit k0_421 =>
 (if k0_421 = 0 then
 (M.ret (V.bool true)).bind fun bB =>
 M.ret (Ex.ret,[bB])
 else M.fail)
 | .ret =>
 M.ret (Ex.ret,[(bA.2.getD 2 V.undef)])))
theorem ferry_ferrylaw12_SysShares_eq (G:GV) (n:Nat) (x0:V) (x1:V) (x2:V):sem (cfg G) (n + 1) 3 [x0,x1,x2] = outV (ferry_ferrylaw12_SysShares G (sem (cfg G) n) x0 x1 x2) :=
 (fnV_at (C:=cfg G) (n:=n) (f:=3) (fn:=Tryz.f3) (c:=Tryz.f3.body.getD .skip) (by kernel_rfl) (by kernel_rfl) (by kernel_rfl) [x0,x1,x2]).trans (by kernel_rfl)
end Go.Fv.Tr
namespace Go.Fv.Tr
open Go Go.Fv Go.Fv.Pl Go.Proofs
variable {G:GV}
namespace Sy
variable {l m:List V} {s:St} {p:Pn} {x y z a b c d u v w g:V} {pr:List (List V)} {H H' K:Heap} {L0 L1:Nat}
theorem Run.gen {α:Type} {mm:M α} {Q:α → Heap → Prop} {P:Heap → Prop} (hP:P K) (h:∀ K,P K → Run mm K Q):Run mm K Q:=h K hP
structure Lc (H:Heap) (L0 L1:Nat) (p:Pn) (s:St) (a b c d x y z u v w g:V) (pr:List (List V)):Prop where
 fl:H.floor = 0
 b0:H.blk L0 = some ⟨7,[[i64 p.id,.bool p.mob,a,b,c,i64 p.ev,d]]⟩
 b1:H.blk L1 = some ⟨10,[[i64 s.id,i64 s.fr,i64 s.ep,x,y,z,u,v,w,g]]⟩
 lt:L0 < H.next ∧ L1 < H.next ∧ L0 ≠ L1
 mp:MP H [i64 p.id,.bool p.mob,a,b,c,i64 p.ev,d] p a b c d
 ms:MS H [i64 s.id,i64 s.fr,i64 s.ep,x,y,z,u,v,w,g] s x y z u v w g pr
 m0:∀ n ∈ lv [a,b,c,d],n ≠ L0 ∧ n ≠ L1 ∧ n < H.next
 m1:∀ n ∈ lv [x,y,z,u,v,w,g] ++ lr pr,n ≠ L0 ∧ n ≠ L1 ∧ n ∉ lv [a,b,c,d]
theorem Lc.at {q:Int} {p0:Pr} (h:Lc H L0 L1 p s a b c d x y z u v w g pr) (hq:at? s.t.ps q = some p0) :
  ∃ lx bk,loc x = some lx ∧ idxV 21 x (.int .i64 q) = some (.ptr lx q.toNat 0) ∧ H.blk lx = some bk ∧ bk.rows[q.toNat]? = some (prRow p0) ∧ H.floor ≤ lx ∧ lx ≠ L0 ∧ lx ≠ L1 ∧ lx < H.next:=by
 obtain ⟨h1,h2⟩:=at?_some.1 hq
 obtain ⟨hj,e⟩:=List.getElem?_eq_some_iff.1 h2
 have hlt:q.toNat < (s.t.ps.map prRow).length:=by rw [List.length_map]; exact hj
 obtain ⟨lx,bk,e1,e2,e3,e4,e5⟩:=h.ms.ps.idx (k:=.i64) hlt
 rw [Int.toNat_of_nonneg h1] at e2
 rw [List.getElem_map,e] at e4
 have hm:lx ∈ lv [x,y,z,u,v,w,g] ++ lr pr:=List.mem_append_left _ (mem_lv.2 ⟨x,by simp,e1⟩)
 exact ⟨lx,bk,e1,e2,e3,e4,e5,(h.m1 lx hm).1,(h.m1 lx hm).2.1,h.ms.lt hm⟩
theorem Lc.regs {q:Int} {p0:Pr} (h:Lc H L0 L1 p s a b c d x y z u v w g pr) (hb:StB s) (hq:at? s.t.ps q = some p0) {i j:Nat} (hi:i < 16) (hj:j < 16) (m k:Int) :
  ∃ lx bk,idxV 21 x (.int .i64 q) = some (.ptr lx q.toNat 0) ∧ H.blk lx = some bk ∧ bk.rows[q.toNat]? = some (prRow p0) ∧ (prRow p0).length = 21 ∧ q.toNat < bk.rows.length ∧ H.floor ≤ lx ∧ lx ≠ L0 ∧ lx ≠ L1 ∧
   (prRow p0).take i ++ [.int .u32 m] ++ (prRow p0).drop (i + 1) = prRow { p0 with regs:=p0.regs.set i m } ∧
   (prRow { p0 with regs:=p0.regs.set i m }).take j ++ [.int .u32 k] ++ (prRow { p0 with regs:=p0.regs.set i m }).drop (j + 1) = prRow { p0 with regs:=(p0.regs.set i m).set j k } ∧
   Lc (H.set lx ⟨bk.sz,bk.rows.set q.toNat (prRow { p0 with regs:=(p0.regs.set i m).set j k })⟩) L0 L1 p (setR (setR s q i m) q j k) a b c d x y z u v w g pr:=by
 obtain ⟨lx,bk,h1,h2,h3,h4,h5,h6,h7,h8⟩:=h.at hq
 have hpc:=at?_lt hq
 have hw:Wp p0:=hb.wp p0 (at_mem hq)
 have hw1:Wp { p0 with regs:=p0.regs.set i m }:=by unfold Wp at hw ⊢; simpa using hw
 obtain ⟨ly,bl,row,e0,e1,e2,e3,e4,e5,e6,e7⟩:=ms_store h.ms hb hpc hi m
 have ex:ly = lx:=Option.some.inj (e0.symm.trans h1)
 subst ex
 have eb:bl = bk:=Option.some.inj (e2.symm.trans h3)
 subst eb
 have er:row = prRow p0:=Option.some.inj (e3.symm.trans h4)
 subst er
 have r1:=prRow_set hw hi m
 rw [r1] at e7
 have hlt:q.toNat < bl.rows.length:=(List.getElem?_eq_some_iff.1 h4).1
 have hpc1:0 ≤ q ∧ q < (setR s q i m).t.ps.length:=by
  show 0 ≤ q ∧ q < ((setP s.t.ps q _).length:Int)
  rw [setP_len]
  exact hpc
 obtain ⟨lz,bz,row2,f0,f1,f2,f3,f4,f5,f6,f7⟩:=ms_store e7 (hb.setR q i m) hpc1 hj k
 have ex:lz = ly:=Option.some.inj (f0.symm.trans h1)
 subst ex
 rw [Heap.set_blk,if_pos rfl] at f2
 have eb:=Option.some.inj f2
 subst eb
 have er2:row2 = prRow { p0 with regs:=p0.regs.set i m }:=by
  have:(bl.rows.set q.toNat (prRow { p0 with regs:=p0.regs.set i m }))[q.toNat]? = some row2:=f3
  rw [List.getElem?_set_self hlt] at this
  exact (Option.some.inj this).symm
 subst er2
 have r2:=prRow_set hw1 hj k
 rw [r2] at f7
 have hm:lz ∈ lv [x,y,z,u,v,w,g] ++ lr pr:=List.mem_append_left _ (mem_lv.2 ⟨x,by simp,h1⟩)
 have eh:(H.set lz ⟨bl.sz,bl.rows.set q.toNat (prRow { p0 with regs:=p0.regs.set i m })⟩).set lz ⟨bl.sz,(bl.rows.set q.toNat (prRow { p0 with regs:=p0.regs.set i m })).set q.toNat (prRow { p0 with regs:=(p0.regs.set i m).set j k })⟩ = H.set lz ⟨bl.sz,bl.rows.set q.toNat (prRow { p0 with regs:=(p0.regs.set i m).set j k })⟩:=by
  unfold Heap.set
  simp only [List.set_set,Heap.mk.injEq,and_true]
  funext n
  split <;> rfl
 have f7':=eh ▸ f7
 refine ⟨lz,bl,h2,h3,h4,pr_len hw,hlt,h5,h6,h7,r1,r2,h.fl,?_,?_,h.lt,h.mp.frame (Frame.set (p:=fun m => m = lz) _ _ rfl) fun n hn e => (h.m1 lz hm).2.2 (e ▸ hn),f7',h.m0,h.m1⟩
 ·rw [Heap.set_blk,if_neg (Ne.symm h6)]
  exact h.b0
 ·rw [Heap.set_blk,if_neg (Ne.symm h7)]
  exact h.b1
theorem wn_take {ps:List Pr} {i:Nat} (h:i < ps.length):wn (ps.take (i + 1)) = wn (ps.take i) + (if ps[i].state = 2 then 1 else 0):=by
 unfold wn
 rw [take_snoc h,List.countP_append,List.countP_singleton]
 simp
set_option maxRecDepth 20000 in
theorem wn_loop2 {call:FuncId → List V → M V} {n:Nat} (h:Lc H L0 L1 p s a b c d x y z u v w g pr) (hb:StB s) (hlen:s.t.ps.length = n) (hn:n ≤ 8) {Q:R → Heap → Prop}
  (q:Q (.exit 2,[i64 (wn s.t.ps:Nat),i64 (n:Nat)]) H):Run (loopV (ferry_ferrylaw12_SysShares_l2 G call (i64 (n:Nat)) (.ptr L1 0 0)) [i64 0,i64 0]) H Q:=by
 refine Run.loop (N:=n) (fun i r H' => r = [i64 (wn (s.t.ps.take i):Nat),i64 (i:Nat)] ∧ H' = H) ⟨rfl,rfl⟩ ?_
 rintro i r H' hi ⟨rfl,rfl⟩
 have hb1:=h.b1
 by_cases hlt:i < n
 ·have l1:decide (((i:Nat):Int) < ((n:Nat):Int)) = true:=by rw [decide_eq_true_eq]; omega
  have hip:i < s.t.ps.length:=by omega
  have hat:at? s.t.ps ((i:Nat):Int) = some s.t.ps[i]:=by rw [at?_nat]; exact List.getElem?_eq_getElem hip
  obtain ⟨lx,bk,g1,g2,g3,g4,g5,g6,g7,g8⟩:=h.at hat
  rw [Int.toNat_natCast] at g2 g4
  have hw:Wp s.t.ps[i]:=hb.wp _ (List.getElem_mem hip)
  have ad:=addN hlt (show n ≤ big by unfold big; omega)
  have hle:wn (s.t.ps.take i) ≤ i:=by
   have:wn (s.t.ps.take i) ≤ (s.t.ps.take i).length:=List.countP_le_length
   rw [List.length_take] at this
   omega
  have ad2:arithV .add (i64 (wn (s.t.ps.take i):Nat)) (i64 1) = some (i64 ((wn (s.t.ps.take i) + 1:Nat):Int)):=by
   have:=addN (i:=wn (s.t.ps.take i)) (N:=n) (by omega) (show n ≤ big by unfold big; omega)
   exact this
  have ht:=wn_take hip
  simp only [ferry_ferrylaw12_SysShares_l2,ferry_ferrylaw12_SysShares_j1]
  by_cases hs:(s.t.ps[i]).state = 2
  ·have e2:((s.t.ps[i]).state == 2) = true:=by simpa using hs
   rw [if_pos hs] at ht
   (repeat' (first | (simp only [wp,extractV,w0,reduceIte,Nat.reduceAdd,Nat.reduceLT,Nat.reduceLeDiff,Nat.reduceEqDiff,l1,hb1,nil_ptr,g2,g3,g4,pr_state hw,e2,ad,ad2]) | (with_reducible ((first | apply xC | apply xG | apply xQ) <;> intro hb <;> try simp only [hb]))))
   exact ⟨hlt,by rw [ht] <;> rfl⟩
  ·have e2:((s.t.ps[i]).state == 2) = false:=by simpa using hs
   rw [if_neg hs] at ht
   (repeat' (first | (simp only [wp,extractV,w0,reduceIte,Nat.reduceAdd,Nat.reduceLT,Nat.reduceLeDiff,Nat.reduceEqDiff,l1,hb1,nil_ptr,g2,g3,g4,pr_state hw,e2,ad,ad2]) | (with_reducible ((first | apply xC | apply xG | apply xQ) <;> intro hb <;> try simp only [hb]))))
   exact ⟨hlt,by rw [ht] <;> rfl⟩
 ·have l1:decide (((i:Nat):Int) < ((n:Nat):Int)) = false:=by rw [decide_eq_false_iff_not]; omega
  have e:i = n:=by omega
  subst e
  simp only [ferry_ferrylaw12_SysShares_l2,ferry_ferrylaw12_SysShares_j1]
  (repeat' (first | (simp only [wp,extractV,w0,reduceIte,Nat.reduceAdd,Nat.reduceLT,Nat.reduceLeDiff,Nat.reduceEqDiff,l1]) | (with_reducible ((first | apply xC | apply xG | apply xQ) <;> intro hb <;> try simp only [hb]))))
  rw [show s.t.ps.take i = s.t.ps from List.take_of_length_le (by omega)]
  exact q
set_option maxRecDepth 20000 in
theorem wn_loop3 {call:FuncId → List V → M V} {n:Nat} (h:Lc H L0 L1 p s a b c d x y z u v w g pr) (hb:StB s) (hlen:s.t.ps.length = n) (hn:n ≤ 8) {Q:R → Heap → Prop}
  (q:Q (.exit 4,[i64 (wn s.t.ps:Nat),i64 (n:Nat)]) H):Run (loopV (ferry_ferrylaw12_SysShares_l3 G call (i64 (n:Nat)) (.ptr L1 0 0)) [i64 0,i64 0]) H Q:=by
 refine Run.loop (N:=n) (fun i r H' => r = [i64 (wn (s.t.ps.take i):Nat),i64 (i:Nat)] ∧ H' = H) ⟨rfl,rfl⟩ ?_
 rintro i r H' hi ⟨rfl,rfl⟩
 have hb1:=h.b1
 by_cases hlt:i < n
 ·have l1:decide (((i:Nat):Int) < ((n:Nat):Int)) = true:=by rw [decide_eq_true_eq]; omega
  have hip:i < s.t.ps.length:=by omega
  have hat:at? s.t.ps ((i:Nat):Int) = some s.t.ps[i]:=by rw [at?_nat]; exact List.getElem?_eq_getElem hip
  obtain ⟨lx,bk,g1,g2,g3,g4,g5,g6,g7,g8⟩:=h.at hat
  rw [Int.toNat_natCast] at g2 g4
  have hw:Wp s.t.ps[i]:=hb.wp _ (List.getElem_mem hip)
  have ad:=addN hlt (show n ≤ big by unfold big; omega)
  have hle:wn (s.t.ps.take i) ≤ i:=by
   have:wn (s.t.ps.take i) ≤ (s.t.ps.take i).length:=List.countP_le_length
   rw [List.length_take] at this
   omega
  have ad2:arithV .add (i64 (wn (s.t.ps.take i):Nat)) (i64 1) = some (i64 ((wn (s.t.ps.take i) + 1:Nat):Int)):=by
   have:=addN (i:=wn (s.t.ps.take i)) (N:=n) (by omega) (show n ≤ big by unfold big; omega)
   exact this
  have ht:=wn_take hip
  simp only [ferry_ferrylaw12_SysShares_l3,ferry_ferrylaw12_SysShares_j2]
  by_cases hs:(s.t.ps[i]).state = 2
  ·have e2:((s.t.ps[i]).state == 2) = true:=by simpa using hs
   rw [if_pos hs] at ht
   (repeat' (first | (simp only [wp,extractV,w0,reduceIte,Nat.reduceAdd,Nat.reduceLT,Nat.reduceLeDiff,Nat.reduceEqDiff,l1,hb1,nil_ptr,g2,g3,g4,pr_state hw,e2,ad,ad2]) | (with_reducible ((first | apply xC | apply xG | apply xQ) <;> intro hb <;> try simp only [hb]))))
   exact ⟨hlt,by rw [ht] <;> rfl⟩
  ·have e2:((s.t.ps[i]).state == 2) = false:=by simpa using hs
   rw [if_neg hs] at ht
   (repeat' (first | (simp only [wp,extractV,w0,reduceIte,Nat.reduceAdd,Nat.reduceLT,Nat.reduceLeDiff,Nat.reduceEqDiff,l1,hb1,nil_ptr,g2,g3,g4,pr_state hw,e2,ad,ad2]) | (with_reducible ((first | apply xC | apply xG | apply xQ) <;> intro hb <;> try simp only [hb]))))
   exact ⟨hlt,by rw [ht] <;> rfl⟩
 ·have l1:decide (((i:Nat):Int) < ((n:Nat):Int)) = false:=by rw [decide_eq_false_iff_not]; omega
  have e:i = n:=by omega
  subst e
  simp only [ferry_ferrylaw12_SysShares_l3,ferry_ferrylaw12_SysShares_j2]
  (repeat' (first | (simp only [wp,extractV,w0,reduceIte,Nat.reduceAdd,Nat.reduceLT,Nat.reduceLeDiff,Nat.reduceEqDiff,l1]) | (with_reducible ((first | apply xC | apply xG | apply xQ) <;> intro hb <;> try simp only [hb]))))
  rw [show s.t.ps.take i = s.t.ps from List.take_of_length_le (by omega)]
  exact q
end Sy
end Go.Fv.Tr

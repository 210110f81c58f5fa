/-
  The Go functions ferry/valid.Check, ferry/valid.Copy, ferry/valid.upTo, ferry/valid.Faults By an AI agent; no person has read it.
-/
import Derived.Test.YtekncgjkocgioaaGreatDoorFvP01
set_option linter.unusedVariables false
set_option linter.unusedSimpArgs false
set_option linter.unusedSectionVars false
/-! The Go functions ferry/valid.Check, ferry/valid.Copy, ferry/valid.upTo, ferry/valid.Faults -/
namespace Go.Fv.Tr
open Go Go.Fv Go.Proofs
set_option maxRecDepth 20000
noncomputable def ferry_valid_Check (G:GV) (call:CV) (x0:V) (x1:V):M R :=
 (newV x0).bind fun aA =>
 (newV x1).bind fun aB =>
 (M.ret V.nili).bind fun aC =>
 (loadN 7 aA).bind fun aD =>
 (loadN 10 aB).bind fun aE =>
 (callV (cfg G) call 31 [aD,aE,(V.int .i64 16)]).bind fun aF =>
 (M.ret aF).bind fun aG =>
 M.ret (Ex.ret,[aG])
theorem ferry_valid_Check_eq (G:GV) (n:Nat) (x0:V) (x1:V):sem (cfg G) (n + 1) 17 [x0,x1] = outV (ferry_valid_Check G (sem (cfg G) n) x0 x1) :=
 (fnV_at (C:=cfg G) (n:=n) (f:=17) (fn:=Tryz.f17) (c:=Tryz.f17.body.getD .skip) (by kernel_rfl) (by kernel_rfl) (by kernel_rfl) [x0,x1]).trans (by kernel_rfl)
noncomputable def ferry_valid_Copy_l1 (G:GV) (call:CV) (aA:V) (aB:V) (aC:List V):M R :=
 (M.lift (arithV .lss (aC.getD 0 V.undef) aA)).bind fun aD =>
 (condV aD
 ((M.ret (aC.getD 0 V.undef)).bind fun aE =>
 (M.ret aE).bind fun aF =>
 (getN.bind fun aG =>
 (M.lift (padd 8 aB)).bind fun aH =>
 getN.bind fun aI =>
 (load1 aH).bind fun aJ =>
 getN.bind fun aK =>
 (M.ret aF).bind fun aL =>
 getN.bind fun aM =>
 (M.lift (padd 8 aB)).bind fun aN =>
 getN.bind fun aO =>
 (load1 aN).bind fun aP =>
 getN.bind fun aQ =>
 (M.ret aF).bind fun aR =>
 getN.bind fun aS =>
 (M.lift (idxV 2 aP aR)).bind fun aT =>
 getN.bind fun aU =>
 (M.lift (padd 0 aT)).bind fun aV =>
 getN.bind fun aW =>
 (load1 aV).bind fun aX =>
 getN.bind fun aY =>
 (qrun (visB aG [(aW,aY,true),(aU,aW,true),(aS,aU,true),(aQ,aS,true),(aO,aQ,true),(aM,aO,true),(aK,aM,false),(aI,aK,false),(aG,aI,false)]) (callV (cfg G) call 60 [aX])).bind fun aZ =>
 (M.lift (idxV 2 aJ aL)).bind fun bA =>
 (M.lift (padd 0 bA)).bind fun bB =>
 (storeN 1 bB aZ).bind fun _ =>
 (M.lift (arithV .add (aC.getD 0 V.undef) (V.int .i64 1))).bind fun bC =>
 (M.ret bC).bind fun bD =>
 M.ret (Ex.normal,[bD])))
 (M.ret ((Ex.exit 0),[(aC.getD 0 V.undef)])))
noncomputable def ferry_valid_Copy (G:GV) (call:CV) (x0:V):M R :=
 (newV x0).bind fun aA =>
 (newV (.agg [(V.int .i64 0),(V.int .i64 0),(V.int .i64 0),V.nils,V.nils,V.nils,V.nils,V.nils,V.nils,V.nils])).bind fun aB =>
 (getN.bind fun n3 =>
 (M.lift (padd 3 aA)).bind fun aC =>
 getN.bind fun n5 =>
 (load1 aC).bind fun aD =>
 getN.bind fun n7 =>
 (qrun (visB n3 [(n5,n7,true),(n3,n5,true)]) (callV (cfg G) call 54 [aD])).bind fun aE =>
 getN.bind fun n9 =>
 (M.lift (padd 4 aA)).bind fun aF =>
 getN.bind fun aG =>
 (load1 aF).bind fun aH =>
 getN.bind fun aI =>
 (qrun (visB n3 [(aG,aI,true),(n9,aG,true),(n7,n9,true),(n5,n7,true),(n3,n5,true)]) (callV (cfg G) call 55 [aH])).bind fun aJ =>
 getN.bind fun aK =>
 (M.lift (padd 5 aA)).bind fun aL =>
 getN.bind fun aM =>
 (load1 aL).bind fun aN =>
 getN.bind fun aO =>
 (qrun (visB n3 [(aM,aO,true),(aK,aM,true),(aI,aK,true),(aG,aI,true),(n9,aG,true),(n7,n9,true),(n5,n7,true),(n3,n5,true)]) (callV (cfg G) call 56 [aN])).bind fun aP =>
 (M.lift (padd 3 aA)).bind fun aQ =>
 (storeN 1 aQ aE).bind fun _ =>
 (M.lift (padd 4 aA)).bind fun aR =>
 (storeN 1 aR aJ).bind fun _ =>
 (M.lift (padd 5 aA)).bind fun aS =>
 (storeN 1 aS aP).bind fun _ =>
 (getN.bind fun aT =>
 (M.lift (padd 6 aA)).bind fun aU =>
 getN.bind fun aV =>
 (load1 aU).bind fun aW =>
 getN.bind fun aX =>
 (qrun (visB aT [(aV,aX,true),(aT,aV,true)]) (callV (cfg G) call 57 [aW])).bind fun aY =>
 getN.bind fun aZ =>
 (M.lift (padd 7 aA)).bind fun bA =>
 getN.bind fun bB =>
 (load1 bA).bind fun bC =>
 getN.bind fun bD =>
 (qrun (visB aT [(bB,bD,true),(aZ,bB,true),(aX,aZ,true),(aV,aX,true),(aT,aV,true)]) (callV (cfg G) call 55 [bC])).bind fun bE =>
 getN.bind fun bF =>
 (M.lift (padd 8 aA)).bind fun bG =>
 getN.bind fun bH =>
 (load1 bG).bind fun bI =>
 getN.bind fun bJ =>
 (qrun (visB aT [(bH,bJ,true),(bF,bH,true),(bD,bF,true),(bB,bD,true),(aZ,bB,true),(aX,aZ,true),(aV,aX,true),(aT,aV,true)]) (callV (cfg G) call 58 [bI])).bind fun bK =>
 getN.bind fun bL =>
 (M.lift (padd 9 aA)).bind fun bM =>
 getN.bind fun bN =>
 (load1 bM).bind fun bO =>
 getN.bind fun bP =>
 (qrun (visB aT [(bN,bP,true),(bL,bN,true),(bJ,bL,true),(bH,bJ,true),(bF,bH,true),(bD,bF,true),(bB,bD,true),(aZ,bB,true),(aX,aZ,true),(aV,aX,true),(aT,aV,true)]) (callV (cfg G) call 59 [bO])).bind fun bQ =>
 (M.lift (padd 6 aA)).bind fun bR =>
 (storeN 1 bR aY).bind fun _ =>
 (M.lift (padd 7 aA)).bind fun bS =>
 (storeN 1 bS bE).bind fun _ =>
 (M.lift (padd 8 aA)).bind fun bT =>
 (storeN 1 bT bK).bind fun _ =>
 (M.lift (padd 9 aA)).bind fun bU =>
 (storeN 1 bU bQ).bind fun _ =>
 (M.lift (padd 8 aA)).bind fun bV =>
 (load1 bV).bind fun bW =>
 (M.lift (lenV bW)).bind fun bX =>
 (M.ret (V.int .i64 0)).bind fun bY =>
 (loopV (ferry_valid_Copy_l1 G call bX aA) [bY]).bind fun bZ => match bZ.1 with
 | .normal => M.fail
 | .exit k0_85 =>
 (if k0_85 = 0 then
 (loadN 10 aA).bind fun cA =>
 (storeN 10 aB cA).bind fun _ =>
 (((loadN 10 aB)).bind fun v => (M.ret []).bind fun l => M.ret (v :: l)).bind fun l => M.ret (Ex.ret,tupV l)
 else M.fail)
 | .ret =>
 (((loadN 10 aB)).bind fun v => (M.ret []).bind fun l => M.ret (v :: l)).bind fun l => M.ret (Ex.ret,tupV l)))
theorem ferry_valid_Copy_eq (G:GV) (n:Nat) (x0:V):sem (cfg G) (n + 1) 27 [x0] = outV (ferry_valid_Copy G (sem (cfg G) n) x0) :=
 (fnV_at (C:=cfg G) (n:=n) (f:=27) (fn:=Tryz.f27) (c:=Tryz.f27.body.getD .skip) (by kernel_rfl) (by kernel_rfl) (by kernel_rfl) [x0]).trans (by kernel_rfl)
noncomputable def ferry_valid_upTo (G:GV) (call:CV) (x0:V) (x1:V) (x2:V):M R :=
 (newV x0).bind fun aA =>
 (newV x1).bind fun aB =>
 (M.ret V.nili).bind fun aC =>
 (loadN 7 aA).bind fun aD =>
 (loadN 10 aB).bind fun aE =>
 (callV (cfg G) call 63 [aD,aE]).bind fun aF =>
 (M.ret aF).bind fun aG =>
 (M.ret aG).bind fun aH =>
 (M.lift (lenV aH)).bind fun aI =>
 (M.lift ((eqV (.sc .int) true aI (V.int .i64 0)).bind fun b => some (.bool b))).bind fun aJ =>
 (M.ret aJ).bind fun aK =>
 (guardV aK false (M.ret aG)).bind fun aL =>
 (guardV aK false (M.lift (idxV 1 aL (V.int .i64 0)))).bind fun aM =>
 (guardV aK false (load1 aM)).bind fun aN =>
 (guardV aK false (M.ret x2)).bind fun aO =>
 (guardV aK false (M.lift (arithV .gtr aN aO))).bind fun aP =>
 (M.lift (pickV aK (V.bool true) aP)).bind fun aQ =>
 (M.ret aQ).bind fun aR =>
 (condV aR
 ((M.ret V.nili).bind fun aS =>
 M.ret (Ex.ret,[aS]))
 ((M.ret aG).bind fun aT =>
 (M.lift (idxV 1 aT (V.int .i64 0))).bind fun aU =>
 (load1 aU).bind fun aV =>
 (M.lift ((eqV (.sc .int) true aV (V.int .i64 0)).bind fun b => some (.bool b))).bind fun aW =>
 (M.ret aW).bind fun aX =>
 (condV aX
 ((load1 (glob (cfg G) 1)).bind fun aY =>
 (M.ret aY).bind fun aZ =>
 M.ret (Ex.ret,[aZ]))
 (((M.ret aG).bind fun bA =>
 (M.lift (idxV 1 bA (V.int .i64 0))).bind fun bB =>
 (load1 bB).bind fun bC =>
 (load1 (glob (cfg G) 2)).bind fun bD =>
 (M.lift (buildV [(V.int .i64 0),V.nili] [(0,1,bC),(1,1,bD)])).bind fun bE =>
 (newV bE).bind fun bF =>
 (M.lift (ifaceV 127 bF)).bind fun bG =>
 (M.ret bG).bind fun bH =>
 M.ret (Ex.ret,[bH]))))))
theorem ferry_valid_upTo_eq (G:GV) (n:Nat) (x0:V) (x1:V) (x2:V):sem (cfg G) (n + 1) 31 [x0,x1,x2] = outV (ferry_valid_upTo G (sem (cfg G) n) x0 x1 x2) :=
 (fnV_at (C:=cfg G) (n:=n) (f:=31) (fn:=Tryz.f31) (c:=Tryz.f31.body.getD .skip) (by kernel_rfl) (by kernel_rfl) (by kernel_rfl) [x0,x1,x2]).trans (by kernel_rfl)
noncomputable def ferry_valid_Faults_l1 (G:GV) (call:CV) (aA:V) (aB:List V):M R :=
 (M.lift (arithV .lss (aB.getD 1 V.undef) (V.int .i64 17))).bind fun aC =>
 (condV aC
 ((M.ret (aB.getD 1 V.undef)).bind fun aD =>
 (M.lift (indexA 17 1 false aA (aB.getD 1 V.undef))).bind fun aE =>
 (M.ret aD).bind fun aF =>
 (M.ret aE).bind fun aG =>
 (M.ret aG).bind fun aH =>
 (M.lift (unV .not aH)).bind fun aI =>
 (condV aI
 ((M.ret (aB.getD 0 V.undef)).bind fun aJ =>
 (M.ret aF).bind fun aK =>
 (M.lift (arithV .add aK (V.int .i64 1))).bind fun aL =>
 (sliceV 1 1 [(V.int .i64 0)] [(0,aL)]).bind fun aM =>
 (appV 1 8 aJ aM).bind fun aN =>
 (M.ret aN).bind fun aO =>
 (M.lift (arithV .add (aB.getD 1 V.undef) (V.int .i64 1))).bind fun aP =>
 (M.ret aP).bind fun aQ =>
 M.ret (Ex.normal,[aO,aQ]))
 ((M.lift (arithV .add (aB.getD 1 V.undef) (V.int .i64 1))).bind fun aR =>
 (M.ret aR).bind fun aS =>
 M.ret (Ex.normal,[(aB.getD 0 V.undef),aS]))))
 (M.ret ((Ex.exit 0),[(aB.getD 0 V.undef),(aB.getD 1 V.undef)])))
noncomputable def ferry_valid_Faults (G:GV) (call:CV) (x0:V) (x1:V):M R :=
 (newV x0).bind fun aA =>
 (newV x1).bind fun aB =>
 (M.ret V.nils).bind fun aC =>
 (loadN 7 aA).bind fun aD =>
 (callV (cfg G) call 103 [aD]).bind fun aE =>
 (M.lift ((eqV .iface true aE V.nili).bind fun b => some (.bool !b))).bind fun aF =>
 (condV aF
 ((sliceV 1 1 [(V.int .i64 0)] [(0,(V.int .i64 0))]).bind fun aG =>
 (M.ret aG).bind fun aH =>
 M.ret (Ex.ret,[aH]))
 ((M.ret V.nils).bind fun aI =>
 (loadN 7 aA).bind fun aJ =>
 (loadN 10 aB).bind fun aK =>
 (M.lift (buildV [(V.int .i64 0),(V.bool false),V.nils,V.nils,V.nils,(V.int .i64 0),V.nils,(V.int .i64 0),(V.int .i64 0),(V.int .i64 0),V.nils,V.nils,V.nils,V.nils,V.nils,V.nils,V.nils] [(0,7,aJ),(7,10,aK)])).bind fun aL =>
 (callV (cfg G) call 104 [aL]).bind fun aM =>
 (M.ret (V.int .i64 0)).bind fun aN =>
 (loopV (ferry_valid_Faults_l1 G call aM) [aI,aN]).bind fun aO => match aO.1 with
 | .normal => M.fail
 | .exit k0_42 =>
 (if k0_42 = 0 then
 (M.ret (aO.2.getD 0 V.undef)).bind fun aP =>
 (M.ret aP).bind fun aQ =>
 M.ret (Ex.ret,[aQ])
 else M.fail)
 | .ret =>
 M.ret (Ex.ret,[aC])))
theorem ferry_valid_Faults_eq (G:GV) (n:Nat) (x0:V) (x1:V):sem (cfg G) (n + 1) 63 [x0,x1] = outV (ferry_valid_Faults G (sem (cfg G) n) x0 x1) :=
 (fnV_at (C:=cfg G) (n:=n) (f:=63) (fn:=Tryz.f63) (c:=Tryz.f63.body.getD .skip) (by kernel_rfl) (by kernel_rfl) (by kernel_rfl) [x0,x1]).trans (by kernel_rfl)
noncomputable def ferry_plan_Check_l1 (G:GV) (call:CV) (aA:V) (aB:V) (aC:V) (aD:List V):M R :=
 (M.lift (arithV .lss (aD.getD 1 V.undef) aA)).bind fun aE =>
 (condV aE
 ((M.lift (idxV 1 aB (aD.getD 1 V.undef))).bind fun aF =>
 (load1 aF).bind fun aG =>
 (M.ret aG).bind fun aH =>
 (M.ret aH).bind fun aI =>
 (loadN 7 aC).bind fun aJ =>
 (callFn (cfg G) call aI [aJ]).bind fun aK =>
 (M.ret aK).bind fun aL =>
 (M.ret aL).bind fun aM =>
 (M.lift ((eqV .iface true aM V.nili).bind fun b => some (.bool !b))).bind fun aN =>
 (condV aN
 ((M.ret aL).bind fun aO =>
 (M.ret aO).bind fun aP =>
 M.ret (Ex.ret,[aP,(aD.getD 1 V.undef)]))
 ((M.lift (arithV .add (aD.getD 1 V.undef) (V.int .i64 1))).bind fun aQ =>
 (M.ret aQ).bind fun aR =>
 M.ret (Ex.normal,[(aD.getD 0 V.undef),aR]))))
 (M.ret ((Ex.exit 0),[(aD.getD 0 V.undef),(aD.getD 1 V.undef)])))
noncomputable def ferry_plan_Check (G:GV) (call:CV) (x0:V):M R :=
 (newV x0).bind fun aA =>
 (M.ret V.nili).bind fun aB =>
 (M.lift (padd 0 aA)).bind fun aC =>
 (load1 aC).bind fun aD =>
 (M.lift (arithV .lss aD (V.int .i64 0))).bind fun aE =>
 (M.ret aE).bind fun aF =>
 (guardV aF false (M.lift (padd 0 aA))).bind fun aG =>
 (guardV aF false (load1 aG)).bind fun aH =>
 (guardV aF false (M.lift (arithV .gtr aH (V.int .i64 2147483647)))).bind fun aI =>
 (M.lift (pickV aF (V.bool true) aI)).bind fun aJ =>
 (condV aJ
 ((load1 (glob (cfg G) 6)).bind fun aK =>
 (M.ret aK).bind fun aL =>
 M.ret (Ex.ret,[aL]))
 ((sliceV 1 3 [V.nilf] [(0,(V.fn 155 [])),(1,(V.fn 156 [])),(2,(V.fn 157 []))]).bind fun aM =>
 (M.lift (lenV aM)).bind fun aN =>
 (M.ret (V.int .i64 0)).bind fun aO =>
 (loopV (ferry_plan_Check_l1 G call aN aM aA) [aB,aO]).bind fun aP => match aP.1 with
 | .normal => M.fail
 | .exit k0_32 =>
 (if k0_32 = 0 then
 (M.ret V.nili).bind fun aQ =>
 M.ret (Ex.ret,[aQ])
 else M.fail)
 | .ret =>
 M.ret (Ex.ret,[(aP.2.getD 0 V.undef)])))
theorem ferry_plan_Check_eq (G:GV) (n:Nat) (x0:V):sem (cfg G) (n + 1) 103 [x0] = outV (ferry_plan_Check G (sem (cfg G) n) x0) :=
 (fnV_at (C:=cfg G) (n:=n) (f:=103) (fn:=Tryz.f103) (c:=Tryz.f103.body.getD .skip) (by kernel_rfl) (by kernel_rfl) (by kernel_rfl) [x0]).trans (by kernel_rfl)
noncomputable def rulesTail (G:GV) (call:CV) (aA:V) (aB:V) (aC:V) (aD:V) (n9:Nat) (aE:Nat) (aF:Nat) (aG:Nat) (aH:Nat) (aI:V) (aJ:Nat) (aK:Nat) (aL:Nat) (aM:Nat) (aN:Nat) (aO:Nat) (aP:Nat) (aQ:Nat) (aR:V) (aS:Nat) (aT:Nat) (aU:Nat) (aV:Nat) (aW:Nat) (aX:Nat) (aY:Nat) (aZ:Nat) (bA:Nat) (bB:Nat) (bC:Nat) (bD:Nat) (bE:Nat) (bF:Nat) (bG:Nat) (bH:Nat) (bI:Nat) (bJ:Nat) (bK:Nat) (bL:Nat) (bM:Nat) (bN:Nat) (bO:Nat) (bP:Nat) (bQ:Nat) (bR:Nat) (bS:Nat) (bT:Nat) (bU:Nat) (bV:Nat) (bW:Nat) (bX:Nat) (bY:Nat) (bZ:Nat) (cA:Nat) (cB:Nat) (cC:Nat) (cD:Nat) (cE:Nat) (cF:Nat) (cG:Nat) (cH:Nat) (cI:V) (cJ:Nat):M R :=
 (loadN 17 aA).bind fun cK =>
 getN.bind fun cL =>
 (qrun (visB n9 [(cJ,cL,true),(cH,cJ,false),(cG,cH,false),(cF,cG,false),(cE,cF,false),(cD,cE,false),(cC,cD,false),(cB,cC,false),(cA,cB,false),(bZ,cA,true),(bY,bZ,true),(bX,bY,true),(bW,bX,true),(bV,bW,true),(bU,bV,true),(bT,bU,true),(bS,bT,true),(bR,bS,true),(bQ,bR,true),(bP,bQ,true),(bO,bP,true),(bN,bO,true),(bM,bN,true),(bL,bM,true),(bK,bL,true),(bJ,bK,true),(bI,bJ,true),(bH,bI,true),(bG,bH,true),(bF,bG,true),(bE,bF,true),(bD,bE,true),(bC,bD,true),(bB,bC,true),(bA,bB,true),(aZ,bA,true),(aY,aZ,true),(aX,aY,true),(aW,aX,true),(aV,aW,true),(aU,aV,true),(aT,aU,true),(aS,aT,true),(aQ,aS,false),(aP,aQ,true),(aO,aP,true),(aN,aO,true),(aM,aN,true),(aL,aM,true),(aK,aL,true),(aJ,aK,true),(aH,aJ,false),(aG,aH,false),(aF,aG,false),(aE,aF,false),(n9,aE,false)]) (callV (cfg G) call 159 [cK,(V.fn 160 [])])).bind fun cM =>
 getN.bind fun cN =>
 (loadN 17 aA).bind fun cO =>
 getN.bind fun cP =>
 (qrun (visB n9 [(cN,cP,true),(cL,cN,true),(cJ,cL,true),(cH,cJ,false),(cG,cH,false),(cF,cG,false),(cE,cF,false),(cD,cE,false),(cC,cD,false),(cB,cC,false),(cA,cB,false),(bZ,cA,true),(bY,bZ,true),(bX,bY,true),(bW,bX,true),(bV,bW,true),(bU,bV,true),(bT,bU,true),(bS,bT,true),(bR,bS,true),(bQ,bR,true),(bP,bQ,true),(bO,bP,true),(bN,bO,true),(bM,bN,true),(bL,bM,true),(bK,bL,true),(bJ,bK,true),(bI,bJ,true),(bH,bI,true),(bG,bH,true),(bF,bG,true),(bE,bF,true),(bD,bE,true),(bC,bD,true),(bB,bC,true),(bA,bB,true),(aZ,bA,true),(aY,aZ,true),(aX,aY,true),(aW,aX,true),(aV,aW,true),(aU,aV,true),(aT,aU,true),(aS,aT,true),(aQ,aS,false),(aP,aQ,true),(aO,aP,true),(aN,aO,true),(aM,aN,true),(aL,aM,true),(aK,aL,true),(aJ,aK,true),(aH,aJ,false),(aG,aH,false),(aF,aG,false),(aE,aF,false),(n9,aE,false)]) (callV (cfg G) call 159 [cO,(V.fn 161 [])])).bind fun cQ =>
 getN.bind fun cR =>
 (loadN 17 aA).bind fun cS =>
 getN.bind fun cT =>
 (loadN 17 aA).bind fun cU =>
 getN.bind fun cV =>
 (M.ret (V.bfn 162 [cU])).bind fun cW =>
 getN.bind fun cX =>
 (qrun (visB n9 [(cV,cX,true),(cT,cV,true),(cR,cT,true),(cP,cR,true),(cN,cP,true),(cL,cN,true),(cJ,cL,true),(cH,cJ,false),(cG,cH,false),(cF,cG,false),(cE,cF,false),(cD,cE,false),(cC,cD,false),(cB,cC,false),(cA,cB,false),(bZ,cA,true),(bY,bZ,true),(bX,bY,true),(bW,bX,true),(bV,bW,true),(bU,bV,true),(bT,bU,true),(bS,bT,true),(bR,bS,true),(bQ,bR,true),(bP,bQ,true),(bO,bP,true),(bN,bO,true),(bM,bN,true),(bL,bM,true),(bK,bL,true),(bJ,bK,true),(bI,bJ,true),(bH,bI,true),(bG,bH,true),(bF,bG,true),(bE,bF,true),(bD,bE,true),(bC,bD,true),(bB,bC,true),(bA,bB,true),(aZ,bA,true),(aY,aZ,true),(aX,aY,true),(aW,aX,true),(aV,aW,true),(aU,aV,true),(aT,aU,true),(aS,aT,true),(aQ,aS,false),(aP,aQ,true),(aO,aP,true),(aN,aO,true),(aM,aN,true),(aL,aM,true),(aK,aL,true),(aJ,aK,true),(aH,aJ,false),(aG,aH,false),(aF,aG,false),(aE,aF,false),(n9,aE,false)]) (callV (cfg G) call 159 [cS,cW])).bind fun cY =>
 getN.bind fun cZ =>
 (loadN 17 aA).bind fun dA =>
 getN.bind fun dB =>
 (qrun (visB n9 [(cZ,dB,true),(cX,cZ,true),(cV,cX,true),(cT,cV,true),(cR,cT,true),(cP,cR,true),(cN,cP,true),(cL,cN,true),(cJ,cL,true),(cH,cJ,false),(cG,cH,false),(cF,cG,false),(cE,cF,false),(cD,cE,false),(cC,cD,false),(cB,cC,false),(cA,cB,false),(bZ,cA,true),(bY,bZ,true),(bX,bY,true),(bW,bX,true),(bV,bW,true),(bU,bV,true),(bT,bU,true),(bS,bT,true),(bR,bS,true),(bQ,bR,true),(bP,bQ,true),(bO,bP,true),(bN,bO,true),(bM,bN,true),(bL,bM,true),(bK,bL,true),(bJ,bK,true),(bI,bJ,true),(bH,bI,true),(bG,bH,true),(bF,bG,true),(bE,bF,true),(bD,bE,true),(bC,bD,true),(bB,bC,true),(bA,bB,true),(aZ,bA,true),(aY,aZ,true),(aX,aY,true),(aW,aX,true),(aV,aW,true),(aU,aV,true),(aT,aU,true),(aS,aT,true),(aQ,aS,false),(aP,aQ,true),(aO,aP,true),(aN,aO,true),(aM,aN,true),(aL,aM,true),(aK,aL,true),(aJ,aK,true),(aH,aJ,false),(aG,aH,false),(aF,aG,false),(aE,aF,false),(n9,aE,false)]) (callV (cfg G) call 163 [dA])).bind fun dC =>
 getN.bind fun dD =>
 (loadN 17 aA).bind fun dE =>
 getN.bind fun dF =>
 (qrun (visB n9 [(dD,dF,true),(dB,dD,true),(cZ,dB,true),(cX,cZ,true),(cV,cX,true),(cT,cV,true),(cR,cT,true),(cP,cR,true),(cN,cP,true),(cL,cN,true),(cJ,cL,true),(cH,cJ,false),(cG,cH,false),(cF,cG,false),(cE,cF,false),(cD,cE,false),(cC,cD,false),(cB,cC,false),(cA,cB,false),(bZ,cA,true),(bY,bZ,true),(bX,bY,true),(bW,bX,true),(bV,bW,true),(bU,bV,true),(bT,bU,true),(bS,bT,true),(bR,bS,true),(bQ,bR,true),(bP,bQ,true),(bO,bP,true),(bN,bO,true),(bM,bN,true),(bL,bM,true),(bK,bL,true),(bJ,bK,true),(bI,bJ,true),(bH,bI,true),(bG,bH,true),(bF,bG,true),(bE,bF,true),(bD,bE,true),(bC,bD,true),(bB,bC,true),(bA,bB,true),(aZ,bA,true),(aY,aZ,true),(aX,aY,true),(aW,aX,true),(aV,aW,true),(aU,aV,true),(aT,aU,true),(aS,aT,true),(aQ,aS,false),(aP,aQ,true),(aO,aP,true),(aN,aO,true),(aM,aN,true),(aL,aM,true),(aK,aL,true),(aJ,aK,true),(aH,aJ,false),(aG,aH,false),(aF,aG,false),(aE,aF,false),(n9,aE,false)]) (callV (cfg G) call 164 [dE])).bind fun dG =>
 getN.bind fun dH =>
 (loadN 17 aA).bind fun dI =>
 getN.bind fun dJ =>
 (qrun (visB n9 [(dH,dJ,true),(dF,dH,true),(dD,dF,true),(dB,dD,true),(cZ,dB,true),(cX,cZ,true),(cV,cX,true),(cT,cV,true),(cR,cT,true),(cP,cR,true),(cN,cP,true),(cL,cN,true),(cJ,cL,true),(cH,cJ,false),(cG,cH,false),(cF,cG,false),(cE,cF,false),(cD,cE,false),(cC,cD,false),(cB,cC,false),(cA,cB,false),(bZ,cA,true),(bY,bZ,true),(bX,bY,true),(bW,bX,true),(bV,bW,true),(bU,bV,true),(bT,bU,true),(bS,bT,true),(bR,bS,true),(bQ,bR,true),(bP,bQ,true),(bO,bP,true),(bN,bO,true),(bM,bN,true),(bL,bM,true),(bK,bL,true),(bJ,bK,true),(bI,bJ,true),(bH,bI,true),(bG,bH,true),(bF,bG,true),(bE,bF,true),(bD,bE,true),(bC,bD,true),(bB,bC,true),(bA,bB,true),(aZ,bA,true),(aY,aZ,true),(aX,aY,true),(aW,aX,true),(aV,aW,true),(aU,aV,true),(aT,aU,true),(aS,aT,true),(aQ,aS,false),(aP,aQ,true),(aO,aP,true),(aN,aO,true),(aM,aN,true),(aL,aM,true),(aK,aL,true),(aJ,aK,true),(aH,aJ,false),(aG,aH,false),(aF,aG,false),(aE,aF,false),(n9,aE,false)]) (callV (cfg G) call 165 [dI])).bind fun dK =>
 getN.bind fun dL =>
 (M.lift (padd 7 aD)).bind fun dM =>
 getN.bind fun dN =>
 (load1 dM).bind fun dO =>
 getN.bind fun dP =>
 (qrun (visB n9 [(dN,dP,true),(dL,dN,true),(dJ,dL,true),(dH,dJ,true),(dF,dH,true),(dD,dF,true),(dB,dD,true),(cZ,dB,true),(cX,cZ,true),(cV,cX,true),(cT,cV,true),(cR,cT,true),(cP,cR,true),(cN,cP,true),(cL,cN,true),(cJ,cL,true),(cH,cJ,false),(cG,cH,false),(cF,cG,false),(cE,cF,false),(cD,cE,false),(cC,cD,false),(cB,cC,false),(cA,cB,false),(bZ,cA,true),(bY,bZ,true),(bX,bY,true),(bW,bX,true),(bV,bW,true),(bU,bV,true),(bT,bU,true),(bS,bT,true),(bR,bS,true),(bQ,bR,true),(bP,bQ,true),(bO,bP,true),(bN,bO,true),(bM,bN,true),(bL,bM,true),(bK,bL,true),(bJ,bK,true),(bI,bJ,true),(bH,bI,true),(bG,bH,true),(bF,bG,true),(bE,bF,true),(bD,bE,true),(bC,bD,true),(bB,bC,true),(bA,bB,true),(aZ,bA,true),(aY,aZ,true),(aX,aY,true),(aW,aX,true),(aV,aW,true),(aU,aV,true),(aT,aU,true),(aS,aT,true),(aQ,aS,false),(aP,aQ,true),(aO,aP,true),(aN,aO,true),(aM,aN,true),(aL,aM,true),(aK,aL,true),(aJ,aK,true),(aH,aJ,false),(aG,aH,false),(aF,aG,false),(aE,aF,false),(n9,aE,false)]) (callV (cfg G) call 166 [dO,(V.fn 167 [])])).bind fun dQ =>
 getN.bind fun dR =>
 (M.lift (unV .not dQ)).bind fun dS =>
 getN.bind fun dT =>
 (loadN 17 aA).bind fun dU =>
 getN.bind fun dV =>
 (qrun (visB n9 [(dT,dV,true),(dR,dT,false),(dP,dR,true),(dN,dP,true),(dL,dN,true),(dJ,dL,true),(dH,dJ,true),(dF,dH,true),(dD,dF,true),(dB,dD,true),(cZ,dB,true),(cX,cZ,true),(cV,cX,true),(cT,cV,true),(cR,cT,true),(cP,cR,true),(cN,cP,true),(cL,cN,true),(cJ,cL,true),(cH,cJ,false),(cG,cH,false),(cF,cG,false),(cE,cF,false),(cD,cE,false),(cC,cD,false),(cB,cC,false),(cA,cB,false),(bZ,cA,true),(bY,bZ,true),(bX,bY,true),(bW,bX,true),(bV,bW,true),(bU,bV,true),(bT,bU,true),(bS,bT,true),(bR,bS,true),(bQ,bR,true),(bP,bQ,true),(bO,bP,true),(bN,bO,true),(bM,bN,true),(bL,bM,true),(bK,bL,true),(bJ,bK,true),(bI,bJ,true),(bH,bI,true),(bG,bH,true),(bF,bG,true),(bE,bF,true),(bD,bE,true),(bC,bD,true),(bB,bC,true),(bA,bB,true),(aZ,bA,true),(aY,aZ,true),(aX,aY,true),(aW,aX,true),(aV,aW,true),(aU,aV,true),(aT,aU,true),(aS,aT,true),(aQ,aS,false),(aP,aQ,true),(aO,aP,true),(aN,aO,true),(aM,aN,true),(aL,aM,true),(aK,aL,true),(aJ,aK,true),(aH,aJ,false),(aG,aH,false),(aF,aG,false),(aE,aF,false),(n9,aE,false)]) (callV (cfg G) call 168 [dU,(V.fn 169 [])])).bind fun dW =>
 getN.bind fun dX =>
 (loadN 17 aA).bind fun dY =>
 getN.bind fun dZ =>
 (qrun (visB n9 [(dX,dZ,true),(dV,dX,true),(dT,dV,true),(dR,dT,false),(dP,dR,true),(dN,dP,true),(dL,dN,true),(dJ,dL,true),(dH,dJ,true),(dF,dH,true),(dD,dF,true),(dB,dD,true),(cZ,dB,true),(cX,cZ,true),(cV,cX,true),(cT,cV,true),(cR,cT,true),(cP,cR,true),(cN,cP,true),(cL,cN,true),(cJ,cL,true),(cH,cJ,false),(cG,cH,false),(cF,cG,false),(cE,cF,false),(cD,cE,false),(cC,cD,false),(cB,cC,false),(cA,cB,false),(bZ,cA,true),(bY,bZ,true),(bX,bY,true),(bW,bX,true),(bV,bW,true),(bU,bV,true),(bT,bU,true),(bS,bT,true),(bR,bS,true),(bQ,bR,true),(bP,bQ,true),(bO,bP,true),(bN,bO,true),(bM,bN,true),(bL,bM,true),(bK,bL,true),(bJ,bK,true),(bI,bJ,true),(bH,bI,true),(bG,bH,true),(bF,bG,true),(bE,bF,true),(bD,bE,true),(bC,bD,true),(bB,bC,true),(bA,bB,true),(aZ,bA,true),(aY,aZ,true),(aX,aY,true),(aW,aX,true),(aV,aW,true),(aU,aV,true),(aT,aU,true),(aS,aT,true),(aQ,aS,false),(aP,aQ,true),(aO,aP,true),(aN,aO,true),(aM,aN,true),(aL,aM,true),(aK,aL,true),(aJ,aK,true),(aH,aJ,false),(aG,aH,false),(aF,aG,false),(aE,aF,false),(n9,aE,false)]) (callV (cfg G) call 168 [dY,(V.fn 172 [])])).bind fun eA =>
 getN.bind fun eB =>
 (loadN 17 aA).bind fun eC =>
 getN.bind fun eD =>
 (qrun (visB n9 [(eB,eD,true),(dZ,eB,true),(dX,dZ,true),(dV,dX,true),(dT,dV,true),(dR,dT,false),(dP,dR,true),(dN,dP,true),(dL,dN,true),(dJ,dL,true),(dH,dJ,true),(dF,dH,true),(dD,dF,true),(dB,dD,true),(cZ,dB,true),(cX,cZ,true),(cV,cX,true),(cT,cV,true),(cR,cT,true),(cP,cR,true),(cN,cP,true),(cL,cN,true),(cJ,cL,true),(cH,cJ,false),(cG,cH,false),(cF,cG,false),(cE,cF,false),(cD,cE,false),(cC,cD,false),(cB,cC,false),(cA,cB,false),(bZ,cA,true),(bY,bZ,true),(bX,bY,true),(bW,bX,true),(bV,bW,true),(bU,bV,true),(bT,bU,true),(bS,bT,true),(bR,bS,true),(bQ,bR,true),(bP,bQ,true),(bO,bP,true),(bN,bO,true),(bM,bN,true),(bL,bM,true),(bK,bL,true),(bJ,bK,true),(bI,bJ,true),(bH,bI,true),(bG,bH,true),(bF,bG,true),(bE,bF,true),(bD,bE,true),(bC,bD,true),(bB,bC,true),(bA,bB,true),(aZ,bA,true),(aY,aZ,true),(aX,aY,true),(aW,aX,true),(aV,aW,true),(aU,aV,true),(aT,aU,true),(aS,aT,true),(aQ,aS,false),(aP,aQ,true),(aO,aP,true),(aN,aO,true),(aM,aN,true),(aL,aM,true),(aK,aL,true),(aJ,aK,true),(aH,aJ,false),(aG,aH,false),(aF,aG,false),(aE,aF,false),(n9,aE,false)]) (callV (cfg G) call 173 [eC])).bind fun eE =>
 getN.bind fun eF =>
 (loadN 17 aA).bind fun eG =>
 getN.bind fun eH =>
 (M.ret (V.fn 174 [aD,aC])).bind fun eI =>
 getN.bind fun eJ =>
 (qrun (visB n9 [(eH,eJ,true),(eF,eH,true),(eD,eF,true),(eB,eD,true),(dZ,eB,true),(dX,dZ,true),(dV,dX,true),(dT,dV,true),(dR,dT,false),(dP,dR,true),(dN,dP,true),(dL,dN,true),(dJ,dL,true),(dH,dJ,true),(dF,dH,true),(dD,dF,true),(dB,dD,true),(cZ,dB,true),(cX,cZ,true),(cV,cX,true),(cT,cV,true),(cR,cT,true),(cP,cR,true),(cN,cP,true),(cL,cN,true),(cJ,cL,true),(cH,cJ,false),(cG,cH,false),(cF,cG,false),(cE,cF,false),(cD,cE,false),(cC,cD,false),(cB,cC,false),(cA,cB,false),(bZ,cA,true),(bY,bZ,true),(bX,bY,true),(bW,bX,true),(bV,bW,true),(bU,bV,true),(bT,bU,true),(bS,bT,true),(bR,bS,true),(bQ,bR,true),(bP,bQ,true),(bO,bP,true),(bN,bO,true),(bM,bN,true),(bL,bM,true),(bK,bL,true),(bJ,bK,true),(bI,bJ,true),(bH,bI,true),(bG,bH,true),(bF,bG,true),(bE,bF,true),(bD,bE,true),(bC,bD,true),(bB,bC,true),(bA,bB,true),(aZ,bA,true),(aY,aZ,true),(aX,aY,true),(aW,aX,true),(aV,aW,true),(aU,aV,true),(aT,aU,true),(aS,aT,true),(aQ,aS,false),(aP,aQ,true),(aO,aP,true),(aN,aO,true),(aM,aN,true),(aL,aM,true),(aK,aL,true),(aJ,aK,true),(aH,aJ,false),(aG,aH,false),(aF,aG,false),(aE,aF,false),(n9,aE,false)]) (callV (cfg G) call 159 [eG,eI])).bind fun eK =>
 getN.bind fun eL =>
 (loadN 17 aA).bind fun eM =>
 getN.bind fun eN =>
 (M.ret (V.fn 176 [aD,aC])).bind fun eO =>
 getN.bind fun eP =>
 (qrun (visB n9 [(eN,eP,true),(eL,eN,true),(eJ,eL,true),(eH,eJ,true),(eF,eH,true),(eD,eF,true),(eB,eD,true),(dZ,eB,true),(dX,dZ,true),(dV,dX,true),(dT,dV,true),(dR,dT,false),(dP,dR,true),(dN,dP,true),(dL,dN,true),(dJ,dL,true),(dH,dJ,true),(dF,dH,true),(dD,dF,true),(dB,dD,true),(cZ,dB,true),(cX,cZ,true),(cV,cX,true),(cT,cV,true),(cR,cT,true),(cP,cR,true),(cN,cP,true),(cL,cN,true),(cJ,cL,true),(cH,cJ,false),(cG,cH,false),(cF,cG,false),(cE,cF,false),(cD,cE,false),(cC,cD,false),(cB,cC,false),(cA,cB,false),(bZ,cA,true),(bY,bZ,true),(bX,bY,true),(bW,bX,true),(bV,bW,true),(bU,bV,true),(bT,bU,true),(bS,bT,true),(bR,bS,true),(bQ,bR,true),(bP,bQ,true),(bO,bP,true),(bN,bO,true),(bM,bN,true),(bL,bM,true),(bK,bL,true),(bJ,bK,true),(bI,bJ,true),(bH,bI,true),(bG,bH,true),(bF,bG,true),(bE,bF,true),(bD,bE,true),(bC,bD,true),(bB,bC,true),(bA,bB,true),(aZ,bA,true),(aY,aZ,true),(aX,aY,true),(aW,aX,true),(aV,aW,true),(aU,aV,true),(aT,aU,true),(aS,aT,true),(aQ,aS,false),(aP,aQ,true),(aO,aP,true),(aN,aO,true),(aM,aN,true),(aL,aM,true),(aK,aL,true),(aJ,aK,true),(aH,aJ,false),(aG,aH,false),(aF,aG,false),(aE,aF,false),(n9,aE,false)]) (callV (cfg G) call 159 [eM,eO])).bind fun eQ =>
 getN.bind fun eR =>
 (loadN 17 aA).bind fun eS =>
 getN.bind fun eT =>
 (loadN 17 aA).bind fun eU =>
 getN.bind fun eV =>
 (M.ret (V.bfn 177 [eU])).bind fun eW =>
 getN.bind fun eX =>
 (qrun (visB n9 [(eV,eX,true),(eT,eV,true),(eR,eT,true),(eP,eR,true),(eN,eP,true),(eL,eN,true),(eJ,eL,true),(eH,eJ,true),(eF,eH,true),(eD,eF,true),(eB,eD,true),(dZ,eB,true),(dX,dZ,true),(dV,dX,true),(dT,dV,true),(dR,dT,false),(dP,dR,true),(dN,dP,true),(dL,dN,true),(dJ,dL,true),(dH,dJ,true),(dF,dH,true),(dD,dF,true),(dB,dD,true),(cZ,dB,true),(cX,cZ,true),(cV,cX,true),(cT,cV,true),(cR,cT,true),(cP,cR,true),(cN,cP,true),(cL,cN,true),(cJ,cL,true),(cH,cJ,false),(cG,cH,false),(cF,cG,false),(cE,cF,false),(cD,cE,false),(cC,cD,false),(cB,cC,false),(cA,cB,false),(bZ,cA,true),(bY,bZ,true),(bX,bY,true),(bW,bX,true),(bV,bW,true),(bU,bV,true),(bT,bU,true),(bS,bT,true),(bR,bS,true),(bQ,bR,true),(bP,bQ,true),(bO,bP,true),(bN,bO,true),(bM,bN,true),(bL,bM,true),(bK,bL,true),(bJ,bK,true),(bI,bJ,true),(bH,bI,true),(bG,bH,true),(bF,bG,true),(bE,bF,true),(bD,bE,true),(bC,bD,true),(bB,bC,true),(bA,bB,true),(aZ,bA,true),(aY,aZ,true),(aX,aY,true),(aW,aX,true),(aV,aW,true),(aU,aV,true),(aT,aU,true),(aS,aT,true),(aQ,aS,false),(aP,aQ,true),(aO,aP,true),(aN,aO,true),(aM,aN,true),(aL,aM,true),(aK,aL,true),(aJ,aK,true),(aH,aJ,false),(aG,aH,false),(aF,aG,false),(aE,aF,false),(n9,aE,false)]) (callV (cfg G) call 159 [eS,eW])).bind fun eY =>
 getN.bind fun eZ =>
 (loadN 17 aA).bind fun fA =>
 getN.bind fun fB =>
 (qrun (visB n9 [(eZ,fB,true),(eX,eZ,true),(eV,eX,true),(eT,eV,true),(eR,eT,true),(eP,eR,true),(eN,eP,true),(eL,eN,true),(eJ,eL,true),(eH,eJ,true),(eF,eH,true),(eD,eF,true),(eB,eD,true),(dZ,eB,true),(dX,dZ,true),(dV,dX,true),(dT,dV,true),(dR,dT,false),(dP,dR,true),(dN,dP,true),(dL,dN,true),(dJ,dL,true),(dH,dJ,true),(dF,dH,true),(dD,dF,true),(dB,dD,true),(cZ,dB,true),(cX,cZ,true),(cV,cX,true),(cT,cV,true),(cR,cT,true),(cP,cR,true),(cN,cP,true),(cL,cN,true),(cJ,cL,true),(cH,cJ,false),(cG,cH,false),(cF,cG,false),(cE,cF,false),(cD,cE,false),(cC,cD,false),(cB,cC,false),(cA,cB,false),(bZ,cA,true),(bY,bZ,true),(bX,bY,true),(bW,bX,true),(bV,bW,true),(bU,bV,true),(bT,bU,true),(bS,bT,true),(bR,bS,true),(bQ,bR,true),(bP,bQ,true),(bO,bP,true),(bN,bO,true),(bM,bN,true),(bL,bM,true),(bK,bL,true),(bJ,bK,true),(bI,bJ,true),(bH,bI,true),(bG,bH,true),(bF,bG,true),(bE,bF,true),(bD,bE,true),(bC,bD,true),(bB,bC,true),(bA,bB,true),(aZ,bA,true),(aY,aZ,true),(aX,aY,true),(aW,aX,true),(aV,aW,true),(aU,aV,true),(aT,aU,true),(aS,aT,true),(aQ,aS,false),(aP,aQ,true),(aO,aP,true),(aN,aO,true),(aM,aN,true),(aL,aM,true),(aK,aL,true),(aJ,aK,true),(aH,aJ,false),(aG,aH,false),(aF,aG,false),(aE,aF,false),(n9,aE,false)]) (callV (cfg G) call 168 [fA,(V.fn 178 [])])).bind fun fC =>
 (M.lift (buildV [(V.bool false),(V.bool false),(V.bool false),(V.bool false),(V.bool false),(V.bool false),(V.bool false),(V.bool false),(V.bool false),(V.bool false),(V.bool false),(V.bool false),(V.bool false),(V.bool false),(V.bool false),(V.bool false),(V.bool false)] [(0,1,aI),(1,1,aR),(2,1,cI),(3,1,cM),(4,1,cQ),(5,1,cY),(6,1,dC),(7,1,dG),(8,1,dK),(9,1,dS),(10,1,dW),(11,1,eA),(12,1,eE),(13,1,eK),(14,1,eQ),(15,1,eY),(16,1,fC)])).bind fun fD =>
 (storeN 17 aB fD).bind fun _ =>
 (((loadN 17 aB)).bind fun v => (M.ret []).bind fun l => M.ret (v :: l)).bind fun l => M.ret (Ex.ret,tupV l)
noncomputable def rulesHead (G:GV) (call:CV) (x0:V):M R :=
 (newV x0).bind fun aA =>
 (newV (.agg [(V.bool false),(V.bool false),(V.bool false),(V.bool false),(V.bool false),(V.bool false),(V.bool false),(V.bool false),(V.bool false),(V.bool false),(V.bool false),(V.bool false),(V.bool false),(V.bool false),(V.bool false),(V.bool false),(V.bool false)])).bind fun aB =>
 ((M.lift (padd 0 aA)).bind fun aC =>
 (loadN 7 aC).bind fun aD =>
 (M.lift (padd 7 aA)).bind fun aE =>
 (loadN 10 aE).bind fun aF =>
 (newV (.agg [(V.int .i64 0),(V.bool false),V.nils,V.nils,V.nils,(V.int .i64 0),V.nils])).bind fun aG =>
 (newV (.agg [(V.int .i64 0),(V.int .i64 0),(V.int .i64 0),V.nils,V.nils,V.nils,V.nils,V.nils,V.nils,V.nils])).bind fun aH =>
 guardM (apartV aE aG && true) (
 (storeN 7 aG aD).bind fun _ =>
 (storeN 10 aH aF).bind fun _ =>
 (getN.bind fun n9 =>
 (M.lift (padd 0 aH)).bind fun aI =>
 getN.bind fun aJ =>
 (load1 aI).bind fun aK =>
 getN.bind fun aL =>
 (M.lift (padd 0 aG)).bind fun aM =>
 getN.bind fun aN =>
 (load1 aM).bind fun aO =>
 getN.bind fun aP =>
 (M.lift ((eqV (.sc .int) false aK aO).bind fun b => some (.bool b))).bind fun aQ =>
 getN.bind fun aR =>
 (M.lift (padd 1 aH)).bind fun aS =>
 getN.bind fun aT =>
 (load1 aS).bind fun aU =>
 getN.bind fun aV =>
 (qrun (visB n9 [(aT,aV,true),(aR,aT,true),(aP,aR,false),(aN,aP,false),(aL,aN,false),(aJ,aL,false),(n9,aJ,false)]) (callV (cfg G) call 158 [aU,(V.int .i64 0),(V.int .i64 2147483647)])).bind fun aW =>
 getN.bind fun aX =>
 (M.ret aW).bind fun aY =>
 getN.bind fun aZ =>
 (guardV aY true (M.lift (padd 2 aH))).bind fun bA =>
 getN.bind fun bB =>
 (guardV aY true (load1 bA)).bind fun bC =>
 getN.bind fun bD =>
 (qrun (visB n9 [(bB,bD,true),(aZ,bB,true),(aX,aZ,true),(aV,aX,true),(aT,aV,true),(aR,aT,true),(aP,aR,false),(aN,aP,false),(aL,aN,false),(aJ,aL,false),(n9,aJ,false)]) (guardV aY true (callV (cfg G) call 158 [bC,(V.int .i64 0),(V.int .i64 2147483647)]))).bind fun bE =>
 getN.bind fun bF =>
 (M.lift (pickV aY bE (V.bool false))).bind fun bG =>
 getN.bind fun bH =>
 (M.lift (padd 3 aH)).bind fun bI =>
 getN.bind fun bJ =>
 (load1 bI).bind fun bK =>
 getN.bind fun bL =>
 (M.lift (lenV bK)).bind fun bM =>
 getN.bind fun bN =>
 (M.lift (padd 3 aG)).bind fun bO =>
 getN.bind fun bP =>
 (load1 bO).bind fun bQ =>
 getN.bind fun bR =>
 (M.lift (lenV bQ)).bind fun bS =>
 getN.bind fun bT =>
 (M.lift ((eqV (.sc .int) false bM bS).bind fun b => some (.bool b))).bind fun bU =>
 getN.bind fun bV =>
 (M.ret bU).bind fun bW =>
 getN.bind fun bX =>
 (guardV bW true (M.lift (padd 8 aH))).bind fun bY =>
 getN.bind fun bZ =>
 (guardV bW true (load1 bY)).bind fun cA =>
 getN.bind fun cB =>
 (guardV bW true (M.lift (lenV cA))).bind fun cC =>
 getN.bind fun cD =>
 (guardV bW true (M.lift (padd 4 aG))).bind fun cE =>
 getN.bind fun cF =>
 (guardV bW true (load1 cE)).bind fun cG =>
 getN.bind fun cH =>
 (guardV bW true (M.lift (lenV cG))).bind fun cI =>
 getN.bind fun cJ =>
 (guardV bW true (M.lift ((eqV (.sc .int) false cC cI).bind fun b => some (.bool b)))).bind fun cK =>
 getN.bind fun cL =>
 (M.lift (pickV bW cK (V.bool false))).bind fun cM =>
 getN.bind fun cN =>
 (M.ret cM).bind fun cO =>
 getN.bind fun cP =>
 (guardV cO true (M.lift (padd 9 aH))).bind fun cQ =>
 getN.bind fun cR =>
 (guardV cO true (load1 cQ)).bind fun cS =>
 getN.bind fun cT =>
 (guardV cO true (M.lift (lenV cS))).bind fun cU =>
 getN.bind fun cV =>
 (guardV cO true (M.lift (padd 2 aG))).bind fun cW =>
 getN.bind fun cX =>
 (guardV cO true (load1 cW)).bind fun cY =>
 getN.bind fun cZ =>
 (guardV cO true (M.lift (lenV cY))).bind fun dA =>
 getN.bind fun dB =>
 (guardV cO true (M.lift ((eqV (.sc .int) false cU dA).bind fun b => some (.bool b)))).bind fun dC =>
 getN.bind fun dD =>
 (M.lift (pickV cO dC (V.bool false))).bind fun dE =>
 getN.bind fun dF =>
 (M.ret dE).bind fun dG =>
 getN.bind fun dH =>
 (guardV dG true (M.lift (padd 6 aH))).bind fun dI =>
 getN.bind fun dJ =>
 (guardV dG true (load1 dI)).bind fun dK =>
 getN.bind fun dL =>
 (guardV dG true (M.lift (lenV dK))).bind fun dM =>
 getN.bind fun dN =>
 (guardV dG true (M.lift (padd 5 aG))).bind fun dO =>
 getN.bind fun dP =>
 (guardV dG true (load1 dO)).bind fun dQ =>
 getN.bind fun dR =>
 (guardV dG true (M.lift ((eqV (.sc .int) false dM dQ).bind fun b => some (.bool b)))).bind fun dS =>
 getN.bind fun dT =>
 (M.lift (pickV dG dS (V.bool false))).bind fun dU =>
 getN.bind fun dV =>
 (M.ret dU).bind fun dW =>
 getN.bind fun dX =>
 (guardV dW true (M.lift (padd 7 aH))).bind fun dY =>
 getN.bind fun dZ =>
 (guardV dW true (load1 dY)).bind fun eA =>
 getN.bind fun eB =>
 (guardV dW true (M.lift (lenV eA))).bind fun eC =>
 getN.bind fun eD =>
 (guardV dW true (M.lift (padd 6 aG))).bind fun eE =>
 getN.bind fun eF =>
 (guardV dW true (load1 eE)).bind fun eG =>
 getN.bind fun eH =>
 (guardV dW true (M.lift (lenV eG))).bind fun eI =>
 getN.bind fun eJ =>
 (guardV dW true (M.lift ((eqV (.sc .int) false eC eI).bind fun b => some (.bool b)))).bind fun eK =>
 getN.bind fun eL =>
 (M.lift (pickV dW eK (V.bool false))).bind fun eM =>
 getN.bind fun eN =>
 rulesTail G call aA aB aG aH n9 aJ aL aN aP aQ aR aT aV aX aZ bB bD bF bG bH bJ bL bN bP bR bT bV bX bZ cB cD cF cH cJ cL cN cP cR cT cV cX cZ dB dD dF dH dJ dL dN dP dR dT dV dX dZ eB eD eF eH eJ eL eM eN)))
noncomputable def ferry_valid_asked_rules (G:GV) (call:CV) (x0:V):M R:=rulesHead G call x0
theorem ferry_valid_asked_rules_eq (G:GV) (n:Nat) (x0:V):sem (cfg G) (n + 1) 104 [x0] = outV (ferry_valid_asked_rules G (sem (cfg G) n) x0) :=
 (fnV_at (C:=cfg G) (n:=n) (f:=104) (fn:=Tryz.f104) (c:=Tryz.f104.body.getD .skip) (by kernel_rfl) (by kernel_rfl) (by kernel_rfl) [x0]).trans (by kernel_rfl)
noncomputable def ferry_plan_checkPages_l1 (G:GV) (call:CV) (aA:V) (aB:V) (aC:List V):M R :=
 (M.lift (arithV .lss (aC.getD 1 V.undef) aA)).bind fun aD =>
 (condV aD
 ((M.ret (aC.getD 1 V.undef)).bind fun aE =>
 (M.lift (idxV 2 aB (aC.getD 1 V.undef))).bind fun aF =>
 (loadN 2 aF).bind fun aG =>
 (newV (.agg [(V.int .i64 0),(V.str ⟨#[]⟩)])).bind fun aH =>
 (M.ret aE).bind fun aI =>
 (storeN 2 aH aG).bind fun _ =>
 (M.lift (padd 0 aH)).bind fun aJ =>
 (load1 aJ).bind fun aK =>
 (M.lift (arithV .lss aK (V.int .i64 0))).bind fun aL =>
 (M.ret aL).bind fun aM =>
 (guardV aM false (M.lift (padd 0 aH))).bind fun aN =>
 (guardV aM false (load1 aN)).bind fun aO =>
 (guardV aM false (M.lift (arithV .gtr aO (V.int .i64 7)))).bind fun aP =>
 (M.lift (pickV aM (V.bool true) aP)).bind fun aQ =>
 (condV aQ
 ((M.ret aI).bind fun aR =>
 (load1 (glob (cfg G) 6)).bind fun aS =>
 (callV (cfg G) call 226 [aR,aS]).bind fun aT =>
 (M.ret aT).bind fun aU =>
 M.ret (Ex.ret,[aU,(aC.getD 1 V.undef)]))
 ((M.lift (padd 1 aH)).bind fun aV =>
 (load1 aV).bind fun aW =>
 (M.lift (lenS aW)).bind fun aX =>
 (M.lift (arithV .gtr aX (V.int .i64 64))).bind fun aY =>
 (condV aY
 ((M.ret aI).bind fun aZ =>
 (load1 (glob (cfg G) 7)).bind fun bA =>
 (callV (cfg G) call 226 [aZ,bA]).bind fun bB =>
 (M.ret bB).bind fun bC =>
 M.ret (Ex.ret,[bC,(aC.getD 1 V.undef)]))
 ((M.lift (arithV .add (aC.getD 1 V.undef) (V.int .i64 1))).bind fun bD =>
 (M.ret bD).bind fun bE =>
 M.ret (Ex.normal,[(aC.getD 0 V.undef),bE]))))))
 (M.ret ((Ex.exit 0),[(aC.getD 0 V.undef),(aC.getD 1 V.undef)])))
noncomputable def ferry_plan_checkPages (G:GV) (call:CV) (x0:V):M R :=
 (newV x0).bind fun aA =>
 (M.ret V.nili).bind fun aB =>
 (M.lift (padd 2 aA)).bind fun aC =>
 (load1 aC).bind fun aD =>
 (M.lift (lenV aD)).bind fun aE =>
 (M.lift (arithV .lss aE (V.int .i64 1))).bind fun aF =>
 (M.ret aF).bind fun aG =>
 (guardV aG false (M.lift (padd 2 aA))).bind fun aH =>
 (guardV aG false (load1 aH)).bind fun aI =>
 (guardV aG false (M.lift (lenV aI))).bind fun aJ =>
 (guardV aG false (M.lift (arithV .gtr aJ (V.int .i64 32)))).bind fun aK =>
 (M.lift (pickV aG (V.bool true) aK)).bind fun aL =>
 (condV aL
 ((load1 (glob (cfg G) 11)).bind fun aM =>
 (M.ret aM).bind fun aN =>
 M.ret (Ex.ret,[aN]))
 ((M.lift (padd 2 aA)).bind fun aO =>
 (load1 aO).bind fun aP =>
 (M.lift (lenV aP)).bind fun aQ =>
 (M.ret (V.int .i64 0)).bind fun aR =>
 (loopV (ferry_plan_checkPages_l1 G call aQ aP) [aB,aR]).bind fun aS => match aS.1 with
 | .normal => M.fail
 | .exit k0_49 =>
 (if k0_49 = 0 then
 (M.ret V.nili).bind fun aT =>
 M.ret (Ex.ret,[aT])
 else M.fail)
 | .ret =>
 M.ret (Ex.ret,[(aS.2.getD 0 V.undef)])))
theorem ferry_plan_checkPages_eq (G:GV) (n:Nat) (x0:V):sem (cfg G) (n + 1) 155 [x0] = outV (ferry_plan_checkPages G (sem (cfg G) n) x0) :=
 (fnV_at (C:=cfg G) (n:=n) (f:=155) (fn:=Tryz.f155) (c:=Tryz.f155.body.getD .skip) (by kernel_rfl) (by kernel_rfl) (by kernel_rfl) [x0]).trans (by kernel_rfl)
noncomputable def ferry_plan_checkProcs_l1 (G:GV) (call:CV) (aA:V) (aB:V) (aC:V) (aD:List V):M R :=
 (M.lift (arithV .lss (aD.getD 1 V.undef) aA)).bind fun aE =>
 (condV aE
 ((M.ret (aD.getD 1 V.undef)).bind fun aF =>
 (M.lift (idxV 3 aB (aD.getD 1 V.undef))).bind fun aG =>
 (loadN 3 aG).bind fun aH =>
 (newV (.agg [(V.int .i64 0),(V.int .i64 0),(V.bool false)])).bind fun aI =>
 (M.ret aF).bind fun aJ =>
 (storeN 3 aI aH).bind fun _ =>
 (M.lift (padd 0 aI)).bind fun aK =>
 (load1 aK).bind fun aL =>
 (M.lift (arithV .lss aL (V.int .i64 0))).bind fun aM =>
 (M.ret aM).bind fun aN =>
 (guardV aN false (M.lift (padd 0 aI))).bind fun aO =>
 (guardV aN false (load1 aO)).bind fun aP =>
 (guardV aN false (M.lift (padd 2 aC))).bind fun aQ =>
 (guardV aN false (load1 aQ)).bind fun aR =>
 (guardV aN false (M.lift (lenV aR))).bind fun aS =>
 (guardV aN false (M.lift (arithV .mul (V.int .i64 64) aS))).bind fun aT =>
 (guardV aN false (M.lift (arithV .geq aP aT))).bind fun aU =>
 (M.lift (pickV aN (V.bool true) aU)).bind fun aV =>
 (M.ret aV).bind fun aW =>
 (guardV aW false (M.lift (padd 0 aI))).bind fun aX =>
 (guardV aW false (load1 aX)).bind fun aY =>
 (guardV aW false (M.lift (arithV .rem aY (V.int .i64 4)))).bind fun aZ =>
 (guardV aW false (M.lift ((eqV (.sc .int) true aZ (V.int .i64 0)).bind fun b => some (.bool !b)))).bind fun bA =>
 (M.lift (pickV aW (V.bool true) bA)).bind fun bB =>
 (M.ret bB).bind fun bC =>
 (guardV bC false (M.lift (padd 1 aI))).bind fun bD =>
 (guardV bC false (load1 bD)).bind fun bE =>
 (guardV bC false (M.lift (arithV .lss bE (V.int .i64 0)))).bind fun bF =>
 (M.lift (pickV bC (V.bool true) bF)).bind fun bG =>
 (M.ret bG).bind fun bH =>
 (guardV bH false (M.lift (padd 1 aI))).bind fun bI =>
 (guardV bH false (load1 bI)).bind fun bJ =>
 (guardV bH false (M.lift (arithV .gtr bJ (V.int .i64 255)))).bind fun bK =>
 (M.lift (pickV bH (V.bool true) bK)).bind fun bL =>
 (condV bL
 ((M.ret aJ).bind fun bM =>
 (load1 (glob (cfg G) 6)).bind fun bN =>
 (callV (cfg G) call 226 [bM,bN]).bind fun bO =>
 (M.ret bO).bind fun bP =>
 M.ret (Ex.ret,[bP,(aD.getD 1 V.undef)]))
 ((M.lift (arithV .add (aD.getD 1 V.undef) (V.int .i64 1))).bind fun bQ =>
 (M.ret bQ).bind fun bR =>
 M.ret (Ex.normal,[(aD.getD 0 V.undef),bR]))))
 (M.ret ((Ex.exit 0),[(aD.getD 0 V.undef),(aD.getD 1 V.undef)])))
noncomputable def ferry_plan_checkProcs (G:GV) (call:CV) (x0:V):M R :=
 (newV x0).bind fun aA =>
 (M.ret V.nili).bind fun aB =>
 (M.lift (padd 3 aA)).bind fun aC =>
 (load1 aC).bind fun aD =>
 (M.lift (lenV aD)).bind fun aE =>
 (M.lift (arithV .lss aE (V.int .i64 1))).bind fun aF =>
 (M.ret aF).bind fun aG =>
 (guardV aG false (M.lift (padd 3 aA))).bind fun aH =>
 (guardV aG false (load1 aH)).bind fun aI =>
 (guardV aG false (M.lift (lenV aI))).bind fun aJ =>
 (guardV aG false (M.lift (arithV .gtr aJ (V.int .i64 8)))).bind fun aK =>
 (M.lift (pickV aG (V.bool true) aK)).bind fun aL =>
 (condV aL
 ((load1 (glob (cfg G) 11)).bind fun aM =>
 (M.ret aM).bind fun aN =>
 M.ret (Ex.ret,[aN]))
 ((M.lift (padd 3 aA)).bind fun aO =>
 (load1 aO).bind fun aP =>
 (M.lift (lenV aP)).bind fun aQ =>
 (M.ret (V.int .i64 0)).bind fun aR =>
 (loopV (ferry_plan_checkProcs_l1 G call aQ aP aA) [aB,aR]).bind fun aS => match aS.1 with
 | .normal => M.fail
 | .exit k0_61 =>
 (if k0_61 = 0 then
 (M.ret V.nili).bind fun aT =>
 M.ret (Ex.ret,[aT])
 else M.fail)
 | .ret =>
 M.ret (Ex.ret,[(aS.2.getD 0 V.undef)])))
theorem ferry_plan_checkProcs_eq (G:GV) (n:Nat) (x0:V):sem (cfg G) (n + 1) 156 [x0] = outV (ferry_plan_checkProcs G (sem (cfg G) n) x0) :=
 (fnV_at (C:=cfg G) (n:=n) (f:=156) (fn:=Tryz.f156) (c:=Tryz.f156.body.getD .skip) (by kernel_rfl) (by kernel_rfl) (by kernel_rfl) [x0]).trans (by kernel_rfl)
noncomputable def ferry_plan_checkRest_l1 (G:GV) (call:CV) (aA:V) (aB:V) (aC:List V):M R :=
 (M.lift (arithV .lss (aC.getD 1 V.undef) aA)).bind fun aD =>
 (condV aD
 ((M.ret (aC.getD 1 V.undef)).bind fun aE =>
 (M.lift (idxV 4 aB (aC.getD 1 V.undef))).bind fun aF =>
 (loadN 4 aF).bind fun aG =>
 (newV (.agg [(V.int .i64 0),(V.int .i64 0),(V.int .i64 0),(V.int .i64 0)])).bind fun aH =>
 (M.ret aE).bind fun aI =>
 (storeN 4 aH aG).bind fun _ =>
 (loadN 4 aH).bind fun aJ =>
 (callV (cfg G) call 208 [aJ]).bind fun aK =>
 (M.ret aK).bind fun aL =>
 (M.ret aL).bind fun aM =>
 (M.lift ((eqV .iface true aM V.nili).bind fun b => some (.bool !b))).bind fun aN =>
 (condV aN
 ((M.ret aI).bind fun aO =>
 (M.ret aL).bind fun aP =>
 (callV (cfg G) call 226 [aO,aP]).bind fun aQ =>
 (M.ret aQ).bind fun aR =>
 M.ret (Ex.ret,[aR,(aC.getD 1 V.undef)]))
 ((M.lift (arithV .add (aC.getD 1 V.undef) (V.int .i64 1))).bind fun aS =>
 (M.ret aS).bind fun aT =>
 M.ret (Ex.normal,[(aC.getD 0 V.undef),aT]))))
 (M.ret ((Ex.exit 0),[(aC.getD 0 V.undef),(aC.getD 1 V.undef)])))
noncomputable def ferry_plan_checkRest_l2 (G:GV) (call:CV) (aA:V) (aB:V) (aC:List V):M R :=
 (M.lift (arithV .lss (aC.getD 1 V.undef) aA)).bind fun aD =>
 (condV aD
 ((M.ret (aC.getD 1 V.undef)).bind fun aE =>
 (M.lift (idxV 1 aB (aC.getD 1 V.undef))).bind fun aF =>
 (load1 aF).bind fun aG =>
 (M.ret aE).bind fun aH =>
 (M.ret aG).bind fun aI =>
 (M.ret aI).bind fun aJ =>
 (M.lift (arithV .lss aJ (V.int .i64 0))).bind fun aK =>
 (M.ret aK).bind fun aL =>
 (guardV aL false (M.ret aI)).bind fun aM =>
 (guardV aL false (M.lift (arithV .gtr aM (V.int .i64 255)))).bind fun aN =>
 (M.lift (pickV aL (V.bool true) aN)).bind fun aO =>
 (condV aO
 ((M.ret aH).bind fun aP =>
 (load1 (glob (cfg G) 6)).bind fun aQ =>
 (callV (cfg G) call 226 [aP,aQ]).bind fun aR =>
 (M.ret aR).bind fun aS =>
 M.ret (Ex.ret,[aS,(aC.getD 1 V.undef)]))
 ((M.lift (arithV .add (aC.getD 1 V.undef) (V.int .i64 1))).bind fun aT =>
 (M.ret aT).bind fun aU =>
 M.ret (Ex.normal,[(aC.getD 0 V.undef),aU]))))
 (M.ret ((Ex.exit 2),[(aC.getD 0 V.undef),(aC.getD 1 V.undef)])))
noncomputable def ferry_plan_checkRest (G:GV) (call:CV) (x0:V):M R :=
 (newV x0).bind fun aA =>
 (M.ret V.nili).bind fun aB =>
 (M.lift (padd 4 aA)).bind fun aC =>
 (load1 aC).bind fun aD =>
 (M.lift (lenV aD)).bind fun aE =>
 (M.lift (arithV .gtr aE (V.int .i64 8))).bind fun aF =>
 (condV aF
 ((load1 (glob (cfg G) 11)).bind fun aG =>
 (M.ret aG).bind fun aH =>
 M.ret (Ex.ret,[aH]))
 ((M.lift (padd 4 aA)).bind fun aI =>
 (load1 aI).bind fun aJ =>
 (M.lift (lenV aJ)).bind fun aK =>
 (M.ret (V.int .i64 0)).bind fun aL =>
 (loopV (ferry_plan_checkRest_l1 G call aK aJ) [aB,aL]).bind fun aM => match aM.1 with
 | .normal => M.fail
 | .exit k0_32 =>
 (if k0_32 = 0 then
 (M.lift (padd 5 aA)).bind fun aN =>
 (load1 aN).bind fun aO =>
 (M.lift (arithV .lss aO (V.int .i64 0))).bind fun aP =>
 (M.ret aP).bind fun aQ =>
 (guardV aQ false (M.lift (padd 5 aA))).bind fun aR =>
 (guardV aQ false (load1 aR)).bind fun aS =>
 (guardV aQ false (M.lift (arithV .gtr aS (V.int .i64 8)))).bind fun aT =>
 (M.lift (pickV aQ (V.bool true) aT)).bind fun aU =>
 (condV aU
 ((load1 (glob (cfg G) 6)).bind fun aV =>
 (M.ret aV).bind fun aW =>
 M.ret (Ex.ret,[aW]))
 ((M.lift (padd 6 aA)).bind fun aX =>
 (load1 aX).bind fun aY =>
 (M.lift (lenV aY)).bind fun aZ =>
 (M.lift (arithV .gtr aZ (V.int .i64 8))).bind fun bA =>
 (condV bA
 ((load1 (glob (cfg G) 11)).bind fun bB =>
 (M.ret bB).bind fun bC =>
 M.ret (Ex.ret,[bC]))
 ((M.lift (padd 6 aA)).bind fun bD =>
 (load1 bD).bind fun bE =>
 (M.lift (lenV bE)).bind fun bF =>
 (M.ret (V.int .i64 0)).bind fun bG =>
 (loopV (ferry_plan_checkRest_l2 G call bF bE) [(aM.2.getD 0 V.undef),bG]).bind fun bH => match bH.1 with
 | .normal => M.fail
 | .exit k0_73 =>
 (if k0_73 = 2 then
 (loadN 7 aA).bind fun bI =>
 (callV (cfg G) call 227 [bI]).bind fun bJ =>
 (M.lift (arithV .gtr bJ (V.int .i64 4096))).bind fun bK =>
 (condV bK
 ((load1 (glob (cfg G) 11)).bind fun bL =>
 (M.ret bL).bind fun bM =>
 M.ret (Ex.ret,[bM]))
 ((M.ret V.nili).bind fun bN =>
 M.ret (Ex.ret,[bN])))
 else M.fail)
 | .ret =>
 M.ret (Ex.ret,[(bH.2.getD 0 V.undef)])))))
 else M.fail)
 | .ret =>
 M.ret (Ex.ret,[(aM.2.getD 0 V.undef)])))
theorem ferry_plan_checkRest_eq (G:GV) (n:Nat) (x0:V):sem (cfg G) (n + 1) 157 [x0] = outV (ferry_plan_checkRest G (sem (cfg G) n) x0) :=
 (fnV_at (C:=cfg G) (n:=n) (f:=157) (fn:=Tryz.f157) (c:=Tryz.f157.body.getD .skip) (by kernel_rfl) (by kernel_rfl) (by kernel_rfl) [x0]).trans (by kernel_rfl)
noncomputable def ferry_valid_between (G:GV) (call:CV) (x0:V) (x1:V) (x2:V):M R :=
 (M.ret (V.bool false)).bind fun aA =>
 (M.ret x1).bind fun aB =>
 (M.ret x0).bind fun aC =>
 (M.lift (arithV .leq aB aC)).bind fun aD =>
 (M.ret aD).bind fun aE =>
 (guardV aE true (M.ret x0)).bind fun aF =>
 (guardV aE true (M.ret x2)).bind fun aG =>
 (guardV aE true (M.lift (arithV .leq aF aG))).bind fun aH =>
 (M.lift (pickV aE aH (V.bool false))).bind fun aI =>
 (M.ret aI).bind fun aJ =>
 M.ret (Ex.ret,[aJ])
theorem ferry_valid_between_eq (G:GV) (n:Nat) (x0:V) (x1:V) (x2:V):sem (cfg G) (n + 1) 158 [x0,x1,x2] = outV (ferry_valid_between G (sem (cfg G) n) x0 x1 x2) :=
 (fnV_at (C:=cfg G) (n:=n) (f:=158) (fn:=Tryz.f158) (c:=Tryz.f158.body.getD .skip) (by kernel_rfl) (by kernel_rfl) (by kernel_rfl) [x0,x1,x2]).trans (by kernel_rfl)
noncomputable def ferry_valid_asked_procs_l1 (G:GV) (call:CV) (aA:V) (aB:V) (x1:V) (aC:List V):M R :=
 (M.lift (arithV .lss (aC.getD 1 V.undef) aA)).bind fun aD =>
 (condV aD
 ((M.lift (idxV 21 aB (aC.getD 1 V.undef))).bind fun aE =>
 (loadN 21 aE).bind fun aF =>
 (newV (.agg [(V.int .u32 0),(V.int .u32 0),(V.int .u32 0),(V.int .u32 0),(V.int .u32 0),(V.int .u32 0),(V.int .u32 0),(V.int .u32 0),(V.int .u32 0),(V.int .u32 0),(V.int .u32 0),(V.int .u32 0),(V.int .u32 0),(V.int .u32 0),(V.int .u32 0),(V.int .u32 0),(V.int .u32 0),(V.int .i64 0),(V.int .i64 0),(V.int .i64 0),(V.int .i64 0)])).bind fun aG =>
 (storeN 21 aG aF).bind fun _ =>
 (M.ret x1).bind fun aH =>
 (loadN 21 aG).bind fun aI =>
 (callFn (cfg G) call aH [aI]).bind fun aJ =>
 (M.lift (unV .not aJ)).bind fun aK =>
 (condV aK
 ((M.ret (V.bool false)).bind fun aL =>
 M.ret (Ex.ret,[aL,(aC.getD 1 V.undef)]))
 ((M.lift (arithV .add (aC.getD 1 V.undef) (V.int .i64 1))).bind fun aM =>
 (M.ret aM).bind fun aN =>
 M.ret (Ex.normal,[(aC.getD 0 V.undef),aN]))))
 (M.ret ((Ex.exit 0),[(aC.getD 0 V.undef),(aC.getD 1 V.undef)])))
noncomputable def ferry_valid_asked_procs (G:GV) (call:CV) (x0:V) (x1:V):M R :=
 (newV x0).bind fun aA =>
 (M.ret (V.bool false)).bind fun aB =>
 (M.lift (padd 7 aA)).bind fun aC =>
 (M.lift (padd 3 aC)).bind fun aD =>
 (load1 aD).bind fun aE =>
 (M.lift (lenV aE)).bind fun aF =>
 (M.ret (V.int .i64 0)).bind fun aG =>
 (loopV (ferry_valid_asked_procs_l1 G call aF aE x1) [aB,aG]).bind fun aH => match aH.1 with
 | .normal => M.fail
 | .exit k0_21 =>
 (if k0_21 = 0 then
 (M.ret (V.bool true)).bind fun aI =>
 M.ret (Ex.ret,[aI])
 else M.fail)
 | .ret =>
 M.ret (Ex.ret,[(aH.2.getD 0 V.undef)])
theorem ferry_valid_asked_procs_eq (G:GV) (n:Nat) (x0:V) (x1:V):sem (cfg G) (n + 1) 159 [x0,x1] = outV (ferry_valid_asked_procs G (sem (cfg G) n) x0 x1) :=
 (fnV_at (C:=cfg G) (n:=n) (f:=159) (fn:=Tryz.f159) (c:=Tryz.f159.body.getD .skip) (by kernel_rfl) (by kernel_rfl) (by kernel_rfl) [x0,x1]).trans (by kernel_rfl)
noncomputable def ferry_valid_numbers (G:GV) (call:CV) (x0:V):M R :=
 (newV x0).bind fun aA =>
 (M.ret (V.bool false)).bind fun aB =>
 (M.lift (padd 0 aA)).bind fun aC =>
 (M.lift (aidxV 16 1 aC (V.int .i64 0))).bind fun aD =>
 (load1 aD).bind fun aE =>
 (M.lift ((eqV (.sc .int) true aE (V.int .u32 0)).bind fun b => some (.bool b))).bind fun aF =>
 (M.ret aF).bind fun aG =>
 (guardV aG true (M.lift (padd 17 aA))).bind fun aH =>
 (guardV aG true (load1 aH)).bind fun aI =>
 (guardV aG true (callV (cfg G) call 158 [aI,(V.int .i64 0),(V.int .i64 3)])).bind fun aJ =>
 (M.lift (pickV aG aJ (V.bool false))).bind fun aK =>
 (M.ret aK).bind fun aL =>
 (guardV aL true (M.lift (padd 18 aA))).bind fun aM =>
 (guardV aL true (load1 aM)).bind fun aN =>
 (guardV aL true (callV (cfg G) call 158 [aN,(V.int .i64 0),(V.int .i64 255)])).bind fun aO =>
 (M.lift (pickV aL aO (V.bool false))).bind fun aP =>
 (M.ret aP).bind fun aQ =>
 (guardV aQ true (M.lift (padd 19 aA))).bind fun aR =>
 (guardV aQ true (load1 aR)).bind fun aS =>
 (guardV aQ true (callV (cfg G) call 158 [aS,(V.int .i64 0),(V.int .i64 4)])).bind fun aT =>
 (M.lift (pickV aQ aT (V.bool false))).bind fun aU =>
 (M.ret aU).bind fun aV =>
 M.ret (Ex.ret,[aV])
theorem ferry_valid_numbers_eq (G:GV) (n:Nat) (x0:V):sem (cfg G) (n + 1) 160 [x0] = outV (ferry_valid_numbers G (sem (cfg G) n) x0) :=
 (fnV_at (C:=cfg G) (n:=n) (f:=160) (fn:=Tryz.f160) (c:=Tryz.f160.body.getD .skip) (by kernel_rfl) (by kernel_rfl) (by kernel_rfl) [x0]).trans (by kernel_rfl)
noncomputable def ferry_valid_asked_rules_1 (G:GV) (call:CV) (x0:V):M R :=
 (newV x0).bind fun aA =>
 (M.ret (V.bool false)).bind fun aB =>
 (M.lift (padd 19 aA)).bind fun aC =>
 (load1 aC).bind fun aD =>
 (M.lift ((eqV (.sc .int) true aD (V.int .i64 0)).bind fun b => some (.bool !b))).bind fun aE =>
 (M.lift (padd 17 aA)).bind fun aF =>
 (load1 aF).bind fun aG =>
 (M.lift ((eqV (.sc .int) true aG (V.int .i64 2)).bind fun b => some (.bool b))).bind fun aH =>
 (M.lift ((eqV (.sc .bool) false aE aH).bind fun b => some (.bool b))).bind fun aI =>
 (M.ret aI).bind fun aJ =>
 M.ret (Ex.ret,[aJ])
theorem ferry_valid_asked_rules_1_eq (G:GV) (n:Nat) (x0:V):sem (cfg G) (n + 1) 161 [x0] = outV (ferry_valid_asked_rules_1 G (sem (cfg G) n) x0) :=
 (fnV_at (C:=cfg G) (n:=n) (f:=161) (fn:=Tryz.f161) (c:=Tryz.f161.body.getD .skip) (by kernel_rfl) (by kernel_rfl) (by kernel_rfl) [x0]).trans (by kernel_rfl)
noncomputable def ferry_valid_asked_object (G:GV) (call:CV) (x0:V) (x1:V):M R :=
 (newV x0).bind fun aA =>
 (newV x1).bind fun aB =>
 (M.ret (V.bool false)).bind fun aC =>
 (M.lift (padd 19 aB)).bind fun aD =>
 (load1 aD).bind fun aE =>
 (M.lift ((eqV (.sc .int) true aE (V.int .i64 2)).bind fun b => some (.bool b))).bind fun aF =>
 (M.ret aF).bind fun aG =>
 (condV aG
 ((M.lift (padd 20 aB)).bind fun aH =>
 (load1 aH).bind fun aI =>
 (M.lift (padd 0 aA)).bind fun aJ =>
 (M.lift (padd 5 aJ)).bind fun aK =>
 (load1 aK).bind fun aL =>
 (callV (cfg G) call 175 [aI,aL]).bind fun aM =>
 (M.ret aM).bind fun aN =>
 M.ret (Ex.ret,[aN]))
 ((M.lift ((eqV (.sc .int) true aE (V.int .i64 3)).bind fun b => some (.bool b))).bind fun aO =>
 (M.ret aO).bind fun aP =>
 (condV aP
 ((M.lift (padd 20 aB)).bind fun aQ =>
 (load1 aQ).bind fun aR =>
 (M.lift (padd 0 aA)).bind fun aS =>
 (M.lift (padd 6 aS)).bind fun aT =>
 (load1 aT).bind fun aU =>
 (M.lift (lenV aU)).bind fun aV =>
 (callV (cfg G) call 175 [aR,aV]).bind fun aW =>
 (M.ret aW).bind fun aX =>
 M.ret (Ex.ret,[aX]))
 ((M.lift ((eqV (.sc .int) true aE (V.int .i64 4)).bind fun b => some (.bool b))).bind fun aY =>
 (M.ret aY).bind fun aZ =>
 (condV aZ
 ((M.lift (padd 20 aB)).bind fun bA =>
 (load1 bA).bind fun bB =>
 (M.lift (padd 0 aA)).bind fun bC =>
 (M.lift (padd 4 bC)).bind fun bD =>
 (load1 bD).bind fun bE =>
 (M.lift (lenV bE)).bind fun bF =>
 (callV (cfg G) call 175 [bB,bF]).bind fun bG =>
 (M.ret bG).bind fun bH =>
 (guardV bH true (M.lift (padd 0 aA))).bind fun bI =>
 (guardV bH true (M.lift (padd 4 bI))).bind fun bJ =>
 (guardV bH true (load1 bJ)).bind fun bK =>
 (guardV bH true (M.lift (padd 20 aB))).bind fun bL =>
 (guardV bH true (load1 bL)).bind fun bM =>
 (guardV bH true (M.lift (idxV 4 bK bM))).bind fun bN =>
 (guardV bH true (M.lift (padd 0 bN))).bind fun bO =>
 (guardV bH true (load1 bO)).bind fun bP =>
 (guardV bH true (M.lift ((eqV (.sc .int) true bP (V.int .i64 3)).bind fun b => some (.bool b)))).bind fun bQ =>
 (guardV bH true (M.ret bQ)).bind fun bR =>
 (guardV bR false (M.lift (padd 0 aA))).bind fun bS =>
 (guardV bR false (M.lift (padd 4 bS))).bind fun bT =>
 (guardV bR false (load1 bT)).bind fun bU =>
 (guardV bR false (M.lift (padd 20 aB))).bind fun bV =>
 (guardV bR false (load1 bV)).bind fun bW =>
 (guardV bR false (M.lift (idxV 4 bU bW))).bind fun bX =>
 (guardV bR false (M.lift (padd 0 bX))).bind fun bY =>
 (guardV bR false (load1 bY)).bind fun bZ =>
 (guardV bR false (M.lift ((eqV (.sc .int) true bZ (V.int .i64 4)).bind fun b => some (.bool b)))).bind fun cA =>
 (guardV bH true (M.lift (pickV bR (V.bool true) cA))).bind fun cB =>
 (M.lift (pickV bH cB (V.bool false))).bind fun cC =>
 (M.ret cC).bind fun cD =>
 M.ret (Ex.ret,[cD]))
 ((M.lift (padd 20 aB)).bind fun cE =>
 (load1 cE).bind fun cF =>
 (M.lift ((eqV (.sc .int) true cF (V.int .i64 0)).bind fun b => some (.bool b))).bind fun cG =>
 (M.ret cG).bind fun cH =>
 M.ret (Ex.ret,[cH])))))))
theorem ferry_valid_asked_object_eq (G:GV) (n:Nat) (x0:V) (x1:V):sem (cfg G) (n + 1) 162 [x0,x1] = outV (ferry_valid_asked_object G (sem (cfg G) n) x0 x1) :=
 (fnV_at (C:=cfg G) (n:=n) (f:=162) (fn:=Tryz.f162) (c:=Tryz.f162.body.getD .skip) (by kernel_rfl) (by kernel_rfl) (by kernel_rfl) [x0,x1]).trans (by kernel_rfl)
noncomputable def ferry_valid_asked_queue_l1 (G:GV) (call:CV) (aA:V) (aB:V) (aC:V) (aD:V) (aE:List V):M R :=
 (M.lift (arithV .lss (aE.getD 1 V.undef) aA)).bind fun aF =>
 (condV aF
 ((M.lift (idxV 1 aB (aE.getD 1 V.undef))).bind fun aG =>
 (load1 aG).bind fun aH =>
 (M.ret aH).bind fun aI =>
 (M.ret aI).bind fun aJ =>
 (M.lift (padd 7 aC)).bind fun aK =>
 (M.lift (padd 3 aK)).bind fun aL =>
 (load1 aL).bind fun aM =>
 (M.lift (lenV aM)).bind fun aN =>
 (callV (cfg G) call 175 [aJ,aN]).bind fun aO =>
 (M.lift (unV .not aO)).bind fun aP =>
 (M.ret aP).bind fun aQ =>
 (guardV aQ false (M.ret aD)).bind fun aR =>
 (guardV aQ false (M.ret aI)).bind fun aS =>
 (guardV aQ false (getMz (V.bool false) false aR aS)).bind fun aT =>
 (M.lift (pickV aQ (V.bool true) aT)).bind fun aU =>
 (M.ret aU).bind fun aV =>
 (guardV aV false (M.lift (padd 7 aC))).bind fun aW =>
 (guardV aV false (M.lift (padd 3 aW))).bind fun aX =>
 (guardV aV false (load1 aX)).bind fun aY =>
 (guardV aV false (M.ret aI)).bind fun aZ =>
 (guardV aV false (M.lift (idxV 21 aY aZ))).bind fun bA =>
 (guardV aV false (M.lift (padd 17 bA))).bind fun bB =>
 (guardV aV false (load1 bB)).bind fun bC =>
 (guardV aV false (M.lift ((eqV (.sc .int) true bC (V.int .i64 1)).bind fun b => some (.bool !b)))).bind fun bD =>
 (M.lift (pickV aV (V.bool true) bD)).bind fun bE =>
 (condV bE
 ((M.ret (V.bool false)).bind fun bF =>
 M.ret (Ex.ret,[bF,(aE.getD 1 V.undef)]))
 ((M.ret aD).bind fun bG =>
 (M.ret aI).bind fun bH =>
 (setMz bG bH (V.bool true)).bind fun _ =>
 (M.lift (arithV .add (aE.getD 1 V.undef) (V.int .i64 1))).bind fun bI =>
 (M.ret bI).bind fun bJ =>
 M.ret (Ex.normal,[(aE.getD 0 V.undef),bJ]))))
 (M.ret ((Ex.exit 0),[(aE.getD 0 V.undef),(aE.getD 1 V.undef)])))
noncomputable def ferry_valid_asked_queue_l2 (G:GV) (call:CV) (aA:V) (aB:V) (aC:V) (aD:List V):M R :=
 (M.lift (arithV .lss (aD.getD 1 V.undef) aA)).bind fun aE =>
 (condV aE
 ((M.ret (aD.getD 1 V.undef)).bind fun aF =>
 (M.lift (idxV 21 aB (aD.getD 1 V.undef))).bind fun aG =>
 (loadN 21 aG).bind fun aH =>
 (newV (.agg [(V.int .u32 0),(V.int .u32 0),(V.int .u32 0),(V.int .u32 0),(V.int .u32 0),(V.int .u32 0),(V.int .u32 0),(V.int .u32 0),(V.int .u32 0),(V.int .u32 0),(V.int .u32 0),(V.int .u32 0),(V.int .u32 0),(V.int .u32 0),(V.int .u32 0),(V.int .u32 0),(V.int .u32 0),(V.int .i64 0),(V.int .i64 0),(V.int .i64 0),(V.int .i64 0)])).bind fun aI =>
 (M.ret aF).bind fun aJ =>
 (storeN 21 aI aH).bind fun _ =>
 (M.lift (padd 17 aI)).bind fun aK =>
 (load1 aK).bind fun aL =>
 (M.lift ((eqV (.sc .int) true aL (V.int .i64 1)).bind fun b => some (.bool b))).bind fun aM =>
 (M.ret aM).bind fun aN =>
 (guardV aN true (M.ret aC)).bind fun aO =>
 (guardV aN true (M.ret aJ)).bind fun aP =>
 (guardV aN true (getMz (V.bool false) false aO aP)).bind fun aQ =>
 (guardV aN true (M.lift (unV .not aQ))).bind fun aR =>
 (M.lift (pickV aN aR (V.bool false))).bind fun aS =>
 (condV aS
 ((M.ret (V.bool false)).bind fun aT =>
 M.ret (Ex.ret,[aT,(aD.getD 1 V.undef)]))
 ((M.lift (arithV .add (aD.getD 1 V.undef) (V.int .i64 1))).bind fun aU =>
 (M.ret aU).bind fun aV =>
 M.ret (Ex.normal,[(aD.getD 0 V.undef),aV]))))
 (M.ret ((Ex.exit 2),[(aD.getD 0 V.undef),(aD.getD 1 V.undef)])))
noncomputable def ferry_valid_asked_queue (G:GV) (call:CV) (x0:V):M R :=
 (newV x0).bind fun aA =>
 (M.ret (V.bool false)).bind fun aB =>
 newM.bind fun aC =>
 (M.ret aC).bind fun aD =>
 (M.lift (padd 7 aA)).bind fun aE =>
 (M.lift (padd 4 aE)).bind fun aF =>
 (load1 aF).bind fun aG =>
 (M.lift (lenV aG)).bind fun aH =>
 (M.ret (V.int .i64 0)).bind fun aI =>
 (loopV (ferry_valid_asked_queue_l1 G call aH aG aA aD) [aB,aI]).bind fun aJ => match aJ.1 with
 | .normal => M.fail
 | .exit k0_43 =>
 (if k0_43 = 0 then
 (M.lift (padd 7 aA)).bind fun aK =>
 (M.lift (padd 3 aK)).bind fun aL =>
 (load1 aL).bind fun aM =>
 (M.lift (lenV aM)).bind fun aN =>
 (M.ret (V.int .i64 0)).bind fun aO =>
 (loopV (ferry_valid_asked_queue_l2 G call aN aM aD) [(aJ.2.getD 0 V.undef),aO]).bind fun aP => match aP.1 with
 | .normal => M.fail
 | .exit k0_69 =>
 (if k0_69 = 2 then
 (M.ret (V.bool true)).bind fun aQ =>
 M.ret (Ex.ret,[aQ])
 else M.fail)
 | .ret =>
 M.ret (Ex.ret,[(aP.2.getD 0 V.undef)])
 else M.fail)
 | .ret =>
 M.ret (Ex.ret,[(aJ.2.getD 0 V.undef)])
theorem ferry_valid_asked_queue_eq (G:GV) (n:Nat) (x0:V):sem (cfg G) (n + 1) 163 [x0] = outV (ferry_valid_asked_queue G (sem (cfg G) n) x0) :=
 (fnV_at (C:=cfg G) (n:=n) (f:=163) (fn:=Tryz.f163) (c:=Tryz.f163.body.getD .skip) (by kernel_rfl) (by kernel_rfl) (by kernel_rfl) [x0]).trans (by kernel_rfl)
noncomputable def ferry_valid_asked_rise_l1 (G:GV) (call:CV) (aA:V) (aB:V) (aC:V) (aD:V) (aE:List V):M R :=
 (M.lift (arithV .lss (aE.getD 1 V.undef) aA)).bind fun aF =>
 (condV aF
 ((M.ret (aE.getD 1 V.undef)).bind fun aG =>
 (M.lift (idxV 2 aB (aE.getD 1 V.undef))).bind fun aH =>
 (loadN 2 aH).bind fun aI =>
 (newV (.agg [(V.int .i64 0),(V.int .i64 0)])).bind fun aJ =>
 (M.ret aG).bind fun aK =>
 (storeN 2 aJ aI).bind fun _ =>
 (M.lift (padd 0 aJ)).bind fun aL =>
 (load1 aL).bind fun aM =>
 (M.lift (padd 7 aC)).bind fun aN =>
 (M.lift (padd 3 aN)).bind fun aO =>
 (load1 aO).bind fun aP =>
 (M.lift (lenV aP)).bind fun aQ =>
 (callV (cfg G) call 175 [aM,aQ]).bind fun aR =>
 (M.lift (unV .not aR)).bind fun aS =>
 (M.ret aS).bind fun aT =>
 (guardV aT false (M.ret aD)).bind fun aU =>
 (guardV aT false (M.lift (padd 0 aJ))).bind fun aV =>
 (guardV aT false (load1 aV)).bind fun aW =>
 (guardV aT false (getMz (V.bool false) false aU aW)).bind fun aX =>
 (M.lift (pickV aT (V.bool true) aX)).bind fun aY =>
 (M.ret aY).bind fun aZ =>
 (guardV aZ false (M.lift (padd 1 aJ))).bind fun bA =>
 (guardV aZ false (load1 bA)).bind fun bB =>
 (guardV aZ false (callV (cfg G) call 158 [bB,(V.int .i64 0),(V.int .i64 1010000)])).bind fun bC =>
 (guardV aZ false (M.lift (unV .not bC))).bind fun bD =>
 (M.lift (pickV aZ (V.bool true) bD)).bind fun bE =>
 (condV bE
 ((M.ret (V.bool false)).bind fun bF =>
 M.ret (Ex.ret,[bF,(aE.getD 1 V.undef)]))
 ((M.ret aD).bind fun bG =>
 (M.lift (padd 0 aJ)).bind fun bH =>
 (load1 bH).bind fun bI =>
 (setMz bG bI (V.bool true)).bind fun _ =>
 (M.ret aK).bind fun bJ =>
 (M.lift (arithV .gtr bJ (V.int .i64 0))).bind fun bK =>
 (condV bK
 ((M.lift (padd 7 aC)).bind fun bL =>
 (M.lift (padd 5 bL)).bind fun bM =>
 (load1 bM).bind fun bN =>
 (M.ret aK).bind fun bO =>
 (M.lift (arithV .sub bO (V.int .i64 1))).bind fun bP =>
 (M.lift (idxV 2 bN bP)).bind fun bQ =>
 (loadN 2 bQ).bind fun bR =>
 (newV (.agg [(V.int .i64 0),(V.int .i64 0)])).bind fun bS =>
 (storeN 2 bS bR).bind fun _ =>
 (M.lift (padd 1 bS)).bind fun bT =>
 (load1 bT).bind fun bU =>
 (M.lift (padd 1 aJ)).bind fun bV =>
 (load1 bV).bind fun bW =>
 (M.lift (arithV .gtr bU bW)).bind fun bX =>
 (M.ret bX).bind fun bY =>
 (guardV bY false (M.lift (padd 1 bS))).bind fun bZ =>
 (guardV bY false (load1 bZ)).bind fun cA =>
 (guardV bY false (M.lift (padd 1 aJ))).bind fun cB =>
 (guardV bY false (load1 cB)).bind fun cC =>
 (guardV bY false (M.lift ((eqV (.sc .int) false cA cC).bind fun b => some (.bool b)))).bind fun cD =>
 (guardV bY false (M.ret cD)).bind fun cE =>
 (guardV cE true (M.lift (padd 0 bS))).bind fun cF =>
 (guardV cE true (load1 cF)).bind fun cG =>
 (guardV cE true (M.lift (padd 0 aJ))).bind fun cH =>
 (guardV cE true (load1 cH)).bind fun cI =>
 (guardV cE true (M.lift (arithV .geq cG cI))).bind fun cJ =>
 (guardV bY false (M.lift (pickV cE cJ (V.bool false)))).bind fun cK =>
 (M.lift (pickV bY (V.bool true) cK)).bind fun cL =>
 (condV cL
 ((M.ret (V.bool false)).bind fun cM =>
 M.ret (Ex.ret,[cM,(aE.getD 1 V.undef)]))
 ((M.lift (arithV .add (aE.getD 1 V.undef) (V.int .i64 1))).bind fun cN =>
 (M.ret cN).bind fun cO =>
 M.ret (Ex.normal,[(aE.getD 0 V.undef),cO]))))
 ((M.lift (arithV .add (aE.getD 1 V.undef) (V.int .i64 1))).bind fun cP =>
 (M.ret cP).bind fun cQ =>
 M.ret (Ex.normal,[(aE.getD 0 V.undef),cQ]))))))
 (M.ret ((Ex.exit 0),[(aE.getD 0 V.undef),(aE.getD 1 V.undef)])))
noncomputable def ferry_valid_asked_rise (G:GV) (call:CV) (x0:V):M R :=
 (newV x0).bind fun aA =>
 (M.ret (V.bool false)).bind fun aB =>
 newM.bind fun aC =>
 (M.ret aC).bind fun aD =>
 (M.lift (padd 7 aA)).bind fun aE =>
 (M.lift (padd 5 aE)).bind fun aF =>
 (load1 aF).bind fun aG =>
 (M.lift (lenV aG)).bind fun aH =>
 (M.ret (V.int .i64 0)).bind fun aI =>
 (loopV (ferry_valid_asked_rise_l1 G call aH aG aA aD) [aB,aI]).bind fun aJ => match aJ.1 with
 | .normal => M.fail
 | .exit k0_106 =>
 (if k0_106 = 0 then
 (M.ret (V.bool true)).bind fun aK =>
 M.ret (Ex.ret,[aK])
 else M.fail)
 | .ret =>
 M.ret (Ex.ret,[(aJ.2.getD 0 V.undef)])
theorem ferry_valid_asked_rise_eq (G:GV) (n:Nat) (x0:V):sem (cfg G) (n + 1) 164 [x0] = outV (ferry_valid_asked_rise G (sem (cfg G) n) x0) :=
 (fnV_at (C:=cfg G) (n:=n) (f:=164) (fn:=Tryz.f164) (c:=Tryz.f164.body.getD .skip) (by kernel_rfl) (by kernel_rfl) (by kernel_rfl) [x0]).trans (by kernel_rfl)
noncomputable def ferry_valid_asked_timed_l1 (G:GV) (call:CV) (aA:V) (aB:V) (aC:V) (aD:V) (aE:List V):M R :=
 (M.lift (arithV .lss (aE.getD 1 V.undef) aA)).bind fun aF =>
 (condV aF
 ((M.lift (idxV 2 aB (aE.getD 1 V.undef))).bind fun aG =>
 (loadN 2 aG).bind fun aH =>
 (newV (.agg [(V.int .i64 0),(V.int .i64 0)])).bind fun aI =>
 (storeN 2 aI aH).bind fun _ =>
 (M.lift (padd 0 aI)).bind fun aJ =>
 (load1 aJ).bind fun aK =>
 (M.lift (padd 7 aC)).bind fun aL =>
 (M.lift (padd 3 aL)).bind fun aM =>
 (load1 aM).bind fun aN =>
 (M.lift (lenV aN)).bind fun aO =>
 (callV (cfg G) call 175 [aK,aO]).bind fun aP =>
 (M.ret aP).bind fun aQ =>
 (guardV aQ true (M.lift (padd 7 aC))).bind fun aR =>
 (guardV aQ true (M.lift (padd 3 aR))).bind fun aS =>
 (guardV aQ true (load1 aS)).bind fun aT =>
 (guardV aQ true (M.lift (padd 0 aI))).bind fun aU =>
 (guardV aQ true (load1 aU)).bind fun aV =>
 (guardV aQ true (M.lift (idxV 21 aT aV))).bind fun aW =>
 (guardV aQ true (M.lift (padd 17 aW))).bind fun aX =>
 (guardV aQ true (load1 aX)).bind fun aY =>
 (guardV aQ true (M.lift ((eqV (.sc .int) true aY (V.int .i64 2)).bind fun b => some (.bool !b)))).bind fun aZ =>
 (M.lift (pickV aQ aZ (V.bool false))).bind fun bA =>
 (condV bA
 ((M.ret (V.bool false)).bind fun bB =>
 M.ret (Ex.ret,[bB,(aE.getD 1 V.undef)]))
 ((M.ret aD).bind fun bC =>
 (M.lift (padd 0 aI)).bind fun bD =>
 (load1 bD).bind fun bE =>
 (setMz bC bE (V.bool true)).bind fun _ =>
 (M.lift (arithV .add (aE.getD 1 V.undef) (V.int .i64 1))).bind fun bF =>
 (M.ret bF).bind fun bG =>
 M.ret (Ex.normal,[(aE.getD 0 V.undef),bG]))))
 (M.ret ((Ex.exit 0),[(aE.getD 0 V.undef),(aE.getD 1 V.undef)])))
noncomputable def ferry_valid_asked_timed_l2 (G:GV) (call:CV) (aA:V) (aB:V) (aC:V) (aD:List V):M R :=
 (M.lift (arithV .lss (aD.getD 1 V.undef) aA)).bind fun aE =>
 (condV aE
 ((M.ret (aD.getD 1 V.undef)).bind fun aF =>
 (M.lift (idxV 21 aB (aD.getD 1 V.undef))).bind fun aG =>
 (loadN 21 aG).bind fun aH =>
 (newV (.agg [(V.int .u32 0),(V.int .u32 0),(V.int .u32 0),(V.int .u32 0),(V.int .u32 0),(V.int .u32 0),(V.int .u32 0),(V.int .u32 0),(V.int .u32 0),(V.int .u32 0),(V.int .u32 0),(V.int .u32 0),(V.int .u32 0),(V.int .u32 0),(V.int .u32 0),(V.int .u32 0),(V.int .u32 0),(V.int .i64 0),(V.int .i64 0),(V.int .i64 0),(V.int .i64 0)])).bind fun aI =>
 (M.ret aF).bind fun aJ =>
 (storeN 21 aI aH).bind fun _ =>
 (M.lift (padd 19 aI)).bind fun aK =>
 (load1 aK).bind fun aL =>
 (M.lift ((eqV (.sc .int) true aL (V.int .i64 1)).bind fun b => some (.bool b))).bind fun aM =>
 (M.ret aM).bind fun aN =>
 (guardV aN true (M.ret aC)).bind fun aO =>
 (guardV aN true (M.ret aJ)).bind fun aP =>
 (guardV aN true (getMz (V.bool false) false aO aP)).bind fun aQ =>
 (guardV aN true (M.lift (unV .not aQ))).bind fun aR =>
 (M.lift (pickV aN aR (V.bool false))).bind fun aS =>
 (condV aS
 ((M.ret (V.bool false)).bind fun aT =>
 M.ret (Ex.ret,[aT,(aD.getD 1 V.undef)]))
 ((M.lift (arithV .add (aD.getD 1 V.undef) (V.int .i64 1))).bind fun aU =>
 (M.ret aU).bind fun aV =>
 M.ret (Ex.normal,[(aD.getD 0 V.undef),aV]))))
 (M.ret ((Ex.exit 2),[(aD.getD 0 V.undef),(aD.getD 1 V.undef)])))
noncomputable def ferry_valid_asked_timed (G:GV) (call:CV) (x0:V):M R :=
 (newV x0).bind fun aA =>
 (M.ret (V.bool false)).bind fun aB =>
 newM.bind fun aC =>
 (M.ret aC).bind fun aD =>
 (M.lift (padd 7 aA)).bind fun aE =>
 (M.lift (padd 5 aE)).bind fun aF =>
 (load1 aF).bind fun aG =>
 (M.lift (lenV aG)).bind fun aH =>
 (M.ret (V.int .i64 0)).bind fun aI =>
 (loopV (ferry_valid_asked_timed_l1 G call aH aG aA aD) [aB,aI]).bind fun aJ => match aJ.1 with
 | .normal => M.fail
 | .exit k0_40 =>
 (if k0_40 = 0 then
 (M.lift (padd 7 aA)).bind fun aK =>
 (M.lift (padd 3 aK)).bind fun aL =>
 (load1 aL).bind fun aM =>
 (M.lift (lenV aM)).bind fun aN =>
 (M.ret (V.int .i64 0)).bind fun aO =>
 (loopV (ferry_valid_asked_timed_l2 G call aN aM aD) [(aJ.2.getD 0 V.undef),aO]).bind fun aP => match aP.1 with
 | .normal => M.fail
 | .exit k0_66 =>
 (if k0_66 = 2 then
 (M.ret (V.bool true)).bind fun aQ =>
 M.ret (Ex.ret,[aQ])
 else M.fail)
 | .ret =>
 M.ret (Ex.ret,[(aP.2.getD 0 V.undef)])
 else M.fail)
 | .ret =>
 M.ret (Ex.ret,[(aJ.2.getD 0 V.undef)])
theorem ferry_valid_asked_timed_eq (G:GV) (n:Nat) (x0:V):sem (cfg G) (n + 1) 165 [x0] = outV (ferry_valid_asked_timed G (sem (cfg G) n) x0) :=
 (fnV_at (C:=cfg G) (n:=n) (f:=165) (fn:=Tryz.f165) (c:=Tryz.f165.body.getD .skip) (by kernel_rfl) (by kernel_rfl) (by kernel_rfl) [x0]).trans (by kernel_rfl)
noncomputable def ferry_valid_asked_rules_2 (G:GV) (call:CV) (x0:V):M R :=
 (M.ret (V.bool false)).bind fun aA =>
 (M.ret x0).bind fun aB =>
 (callV (cfg G) call 158 [aB,(V.int .i64 0),(V.int .i64 255)]).bind fun aC =>
 (M.lift (unV .not aC)).bind fun aD =>
 (M.ret aD).bind fun aE =>
 M.ret (Ex.ret,[aE])
theorem ferry_valid_asked_rules_2_eq (G:GV) (n:Nat) (x0:V):sem (cfg G) (n + 1) 167 [x0] = outV (ferry_valid_asked_rules_2 G (sem (cfg G) n) x0) :=
 (fnV_at (C:=cfg G) (n:=n) (f:=167) (fn:=Tryz.f167) (c:=Tryz.f167.body.getD .skip) (by kernel_rfl) (by kernel_rfl) (by kernel_rfl) [x0]).trans (by kernel_rfl)
noncomputable def ferry_valid_asked_ports_l1 (G:GV) (call:CV) (aA:V) (x1:V) (aB:V) (aC:List V):M R :=
 (M.lift (arithV .lss (aC.getD 1 V.undef) aA)).bind fun aD =>
 (condV aD
 ((M.ret (aC.getD 1 V.undef)).bind fun aE =>
 (M.ret aE).bind fun aF =>
 (getN.bind fun aG =>
 (M.ret x1).bind fun aH =>
 getN.bind fun aI =>
 (M.lift (padd 0 aB)).bind fun aJ =>
 getN.bind fun aK =>
 (M.lift (padd 4 aJ)).bind fun aL =>
 getN.bind fun aM =>
 (load1 aL).bind fun aN =>
 getN.bind fun aO =>
 (M.ret aF).bind fun aP =>
 getN.bind fun aQ =>
 (M.lift (idxV 4 aN aP)).bind fun aR =>
 getN.bind fun aS =>
 (loadN 4 aR).bind fun aT =>
 getN.bind fun aU =>
 (M.lift (padd 7 aB)).bind fun aV =>
 getN.bind fun aW =>
 (M.lift (padd 8 aV)).bind fun aX =>
 getN.bind fun aY =>
 (load1 aX).bind fun aZ =>
 getN.bind fun bA =>
 (M.ret aF).bind fun bB =>
 getN.bind fun bC =>
 (M.lift (idxV 2 aZ bB)).bind fun bD =>
 getN.bind fun bE =>
 (loadN 2 bD).bind fun bF =>
 getN.bind fun bG =>
 (qrun (visB aG [(bE,bG,true),(bC,bE,true),(bA,bC,true),(aY,bA,true),(aW,aY,true),(aU,aW,true),(aS,aU,true),(aQ,aS,true),(aO,aQ,true),(aM,aO,true),(aK,aM,true),(aI,aK,true),(aG,aI,true)]) (callFn (cfg G) call aH [aT,bF])).bind fun bH =>
 (M.lift (unV .not bH)).bind fun bI =>
 (condV bI
 ((M.ret (V.bool false)).bind fun bJ =>
 M.ret (Ex.ret,[bJ,(aC.getD 1 V.undef)]))
 ((M.lift (arithV .add (aC.getD 1 V.undef) (V.int .i64 1))).bind fun bK =>
 (M.ret bK).bind fun bL =>
 M.ret (Ex.normal,[(aC.getD 0 V.undef),bL])))))
 (M.ret ((Ex.exit 0),[(aC.getD 0 V.undef),(aC.getD 1 V.undef)])))
noncomputable def ferry_valid_asked_ports (G:GV) (call:CV) (x0:V) (x1:V):M R :=
 (newV x0).bind fun aA =>
 (M.ret (V.bool false)).bind fun aB =>
 (M.lift (padd 0 aA)).bind fun aC =>
 (M.lift (padd 4 aC)).bind fun aD =>
 (load1 aD).bind fun aE =>
 (M.lift (lenV aE)).bind fun aF =>
 (M.lift (padd 7 aA)).bind fun aG =>
 (M.lift (padd 8 aG)).bind fun aH =>
 (load1 aH).bind fun aI =>
 (M.lift (lenV aI)).bind fun aJ =>
 (M.lift (minV aF aJ)).bind fun aK =>
 (M.ret (V.int .i64 0)).bind fun aL =>
 (loopV (ferry_valid_asked_ports_l1 G call aK x1 aA) [aB,aL]).bind fun aM => match aM.1 with
 | .normal => M.fail
 | .exit k0_50 =>
 (if k0_50 = 0 then
 (M.ret (V.bool true)).bind fun aN =>
 M.ret (Ex.ret,[aN])
 else M.fail)
 | .ret =>
 M.ret (Ex.ret,[(aM.2.getD 0 V.undef)])
theorem ferry_valid_asked_ports_eq (G:GV) (n:Nat) (x0:V) (x1:V):sem (cfg G) (n + 1) 168 [x0,x1] = outV (ferry_valid_asked_ports G (sem (cfg G) n) x0 x1) :=
 (fnV_at (C:=cfg G) (n:=n) (f:=168) (fn:=Tryz.f168) (c:=Tryz.f168.body.getD .skip) (by kernel_rfl) (by kernel_rfl) (by kernel_rfl) [x0,x1]).trans (by kernel_rfl)
noncomputable def ferry_valid_asked_rules_3 (G:GV) (call:CV) (x0:V) (x1:V):M R :=
 (newV x0).bind fun aA =>
 (newV x1).bind fun aB =>
 (M.ret (V.bool false)).bind fun aC =>
 (M.lift (padd 0 aB)).bind fun aD =>
 (load1 aD).bind fun aE =>
 (M.lift (lenV aE)).bind fun aF =>
 (M.lift (padd 2 aA)).bind fun aG =>
 (load1 aG).bind fun aH =>
 (M.lift (arithV .leq aF aH)).bind fun aI =>
 (M.ret aI).bind fun aJ =>
 (guardV aJ true (M.lift (padd 0 aB))).bind fun aK =>
 (guardV aJ true (load1 aK)).bind fun aL =>
 (guardV aJ true (M.ret (V.fn 171 [aA]))).bind fun aM =>
 (guardV aJ true (callV (cfg G) call 170 [aL,aM])).bind fun aN =>
 (guardV aJ true (M.lift (unV .not aN))).bind fun aO =>
 (M.lift (pickV aJ aO (V.bool false))).bind fun aP =>
 (M.ret aP).bind fun aQ =>
 M.ret (Ex.ret,[aQ])
theorem ferry_valid_asked_rules_3_eq (G:GV) (n:Nat) (x0:V) (x1:V):sem (cfg G) (n + 1) 169 [x0,x1] = outV (ferry_valid_asked_rules_3 G (sem (cfg G) n) x0 x1) :=
 (fnV_at (C:=cfg G) (n:=n) (f:=169) (fn:=Tryz.f169) (c:=Tryz.f169.body.getD .skip) (by kernel_rfl) (by kernel_rfl) (by kernel_rfl) [x0,x1]).trans (by kernel_rfl)
noncomputable def ferry_valid_asked_rules_3_1 (G:GV) (call:CV) (x0:V) (x1:V):M R :=
 (M.ret (V.bool false)).bind fun aA =>
 (M.ret x0).bind fun aB =>
 (M.lift (lenS aB)).bind fun aC =>
 (M.lift (padd 1 x1)).bind fun aD =>
 (load1 aD).bind fun aE =>
 (M.lift (arithV .gtr aC aE)).bind fun aF =>
 (M.ret aF).bind fun aG =>
 M.ret (Ex.ret,[aG])
theorem ferry_valid_asked_rules_3_1_eq (G:GV) (n:Nat) (x0:V) (x1:V):sem (cfg G) (n + 1) 171 [x0,x1] = outV (ferry_valid_asked_rules_3_1 G (sem (cfg G) n) x0 x1) :=
 (fnV_at (C:=cfg G) (n:=n) (f:=171) (fn:=Tryz.f171) (c:=Tryz.f171.body.getD .skip) (by kernel_rfl) (by kernel_rfl) (by kernel_rfl) [x0,x1]).trans (by kernel_rfl)
noncomputable def ferry_valid_asked_rules_4 (G:GV) (call:CV) (x0:V) (x1:V):M R :=
 (newV x0).bind fun aA =>
 (newV x1).bind fun aB =>
 (M.ret (V.bool false)).bind fun aC =>
 (M.lift (padd 1 aB)).bind fun aD =>
 (load1 aD).bind fun aE =>
 (callV (cfg G) call 158 [aE,(V.int .i64 0),(V.int .i64 255)]).bind fun aF =>
 (M.ret aF).bind fun aG =>
 (guardV aG true (M.lift (padd 1 aB))).bind fun aH =>
 (guardV aG true (load1 aH)).bind fun aI =>
 (guardV aG true (M.lift ((eqV (.sc .int) true aI (V.int .i64 0)).bind fun b => some (.bool b)))).bind fun aJ =>
 (guardV aG true (M.ret aJ)).bind fun aK =>
 (guardV aK false (M.lift (padd 0 aA))).bind fun aL =>
 (guardV aK false (load1 aL)).bind fun aM =>
 (guardV aK false (M.lift ((eqV (.sc .int) true aM (V.int .i64 1)).bind fun b => some (.bool b)))).bind fun aN =>
 (guardV aK false (M.ret aN)).bind fun aO =>
 (guardV aO true (M.lift (padd 0 aB))).bind fun aP =>
 (guardV aO true (load1 aP)).bind fun aQ =>
 (guardV aO true (M.lift (lenV aQ))).bind fun aR =>
 (guardV aO true (M.lift (arithV .gtr aR (V.int .i64 0)))).bind fun aS =>
 (guardV aK false (M.lift (pickV aO aS (V.bool false)))).bind fun aT =>
 (guardV aG true (M.lift (pickV aK (V.bool true) aT))).bind fun aU =>
 (M.lift (pickV aG aU (V.bool false))).bind fun aV =>
 (M.ret aV).bind fun aW =>
 M.ret (Ex.ret,[aW])
theorem ferry_valid_asked_rules_4_eq (G:GV) (n:Nat) (x0:V) (x1:V):sem (cfg G) (n + 1) 172 [x0,x1] = outV (ferry_valid_asked_rules_4 G (sem (cfg G) n) x0 x1) :=
 (fnV_at (C:=cfg G) (n:=n) (f:=172) (fn:=Tryz.f172) (c:=Tryz.f172.body.getD .skip) (by kernel_rfl) (by kernel_rfl) (by kernel_rfl) [x0,x1]).trans (by kernel_rfl)
noncomputable def ferry_valid_asked_rights_l1 (G:GV) (call:CV) (aA:V) (aB:V) (aC:List V):M R :=
 (M.lift (arithV .lss (aC.getD 1 V.undef) aA)).bind fun aD =>
 (condV aD
 ((M.ret (aC.getD 1 V.undef)).bind fun aE =>
 (M.ret aE).bind fun aF =>
 ((M.lift (padd 0 aB)).bind fun aG =>
 (M.lift (padd 2 aG)).bind fun aH =>
 (load1 aH).bind fun aI =>
 (M.ret aF).bind fun aJ =>
 (M.lift (idxV 2 aI aJ)).bind fun aK =>
 (M.lift (padd 0 aK)).bind fun aL =>
 (load1 aL).bind fun aM =>
 (M.lift (padd 7 aB)).bind fun aN =>
 (M.lift (padd 9 aN)).bind fun aO =>
 (load1 aO).bind fun aP =>
 (M.ret aF).bind fun aQ =>
 (M.lift (idxV 66 aP aQ)).bind fun aR =>
 (M.lift (padd 0 aR)).bind fun aS =>
 (load1 aS).bind fun aT =>
 (M.lift ((eqV (.sc .int) false aM aT).bind fun b => some (.bool !b))).bind fun aU =>
 (condV aU
 ((M.ret (V.bool false)).bind fun aV =>
 M.ret (Ex.ret,[aV,(aC.getD 1 V.undef)]))
 ((M.lift (arithV .add (aC.getD 1 V.undef) (V.int .i64 1))).bind fun aW =>
 (M.ret aW).bind fun aX =>
 M.ret (Ex.normal,[(aC.getD 0 V.undef),aX])))))
 (M.ret ((Ex.exit 0),[(aC.getD 0 V.undef),(aC.getD 1 V.undef)])))
noncomputable def ferry_valid_asked_rights (G:GV) (call:CV) (x0:V):M R :=
 (newV x0).bind fun aA =>
 (M.ret (V.bool false)).bind fun aB =>
 (M.lift (padd 0 aA)).bind fun aC =>
 (M.lift (padd 2 aC)).bind fun aD =>
 (load1 aD).bind fun aE =>
 (M.lift (lenV aE)).bind fun aF =>
 (M.lift (padd 7 aA)).bind fun aG =>
 (M.lift (padd 9 aG)).bind fun aH =>
 (load1 aH).bind fun aI =>
 (M.lift (lenV aI)).bind fun aJ =>
 (M.lift (minV aF aJ)).bind fun aK =>
 (M.ret (V.int .i64 0)).bind fun aL =>
 (loopV (ferry_valid_asked_rights_l1 G call aK aA) [aB,aL]).bind fun aM => match aM.1 with
 | .normal => M.fail
 | .exit k0_36 =>
 (if k0_36 = 0 then
 (M.ret (V.bool true)).bind fun aN =>
 M.ret (Ex.ret,[aN])
 else M.fail)
 | .ret =>
 M.ret (Ex.ret,[(aM.2.getD 0 V.undef)])
theorem ferry_valid_asked_rights_eq (G:GV) (n:Nat) (x0:V):sem (cfg G) (n + 1) 173 [x0] = outV (ferry_valid_asked_rights G (sem (cfg G) n) x0) :=
 (fnV_at (C:=cfg G) (n:=n) (f:=173) (fn:=Tryz.f173) (c:=Tryz.f173.body.getD .skip) (by kernel_rfl) (by kernel_rfl) (by kernel_rfl) [x0]).trans (by kernel_rfl)
noncomputable def ferry_valid_asked_rules_5 (G:GV) (call:CV) (x0:V) (x1:V) (x2:V):M R :=
 (newV x0).bind fun aA =>
 (M.ret (V.bool false)).bind fun aB =>
 (M.lift (padd 19 aA)).bind fun aC =>
 (load1 aC).bind fun aD =>
 (M.lift ((eqV (.sc .int) true aD (V.int .i64 2)).bind fun b => some (.bool !b))).bind fun aE =>
 (M.ret aE).bind fun aF =>
 (guardV aF false (M.lift (padd 20 aA))).bind fun aG =>
 (guardV aF false (load1 aG)).bind fun aH =>
 (guardV aF false (M.lift (padd 6 x1))).bind fun aI =>
 (guardV aF false (load1 aI)).bind fun aJ =>
 (guardV aF false (M.lift (lenV aJ))).bind fun aK =>
 (guardV aF false (M.lift (padd 5 x2))).bind fun aL =>
 (guardV aF false (load1 aL)).bind fun aM =>
 (guardV aF false (M.lift (minV aK aM))).bind fun aN =>
 (guardV aF false (callV (cfg G) call 175 [aH,aN])).bind fun aO =>
 (guardV aF false (M.lift (unV .not aO))).bind fun aP =>
 (M.lift (pickV aF (V.bool true) aP)).bind fun aQ =>
 (M.ret aQ).bind fun aR =>
 (guardV aR false (M.lift (padd 6 x1))).bind fun aS =>
 (guardV aR false (load1 aS)).bind fun aT =>
 (guardV aR false (M.lift (padd 20 aA))).bind fun aU =>
 (guardV aR false (load1 aU)).bind fun aV =>
 (guardV aR false (M.lift (idxV 1 aT aV))).bind fun aW =>
 (guardV aR false (load1 aW)).bind fun aX =>
 (guardV aR false (M.lift (unV .not aX))).bind fun aY =>
 (M.lift (pickV aR (V.bool true) aY)).bind fun aZ =>
 (M.ret aZ).bind fun bA =>
 M.ret (Ex.ret,[bA])
theorem ferry_valid_asked_rules_5_eq (G:GV) (n:Nat) (x0:V) (x1:V) (x2:V):sem (cfg G) (n + 1) 174 [x0,x1,x2] = outV (ferry_valid_asked_rules_5 G (sem (cfg G) n) x0 x1 x2) :=
 (fnV_at (C:=cfg G) (n:=n) (f:=174) (fn:=Tryz.f174) (c:=Tryz.f174.body.getD .skip) (by kernel_rfl) (by kernel_rfl) (by kernel_rfl) [x0,x1,x2]).trans (by kernel_rfl)
noncomputable def ferry_valid_within (G:GV) (call:CV) (x0:V) (x1:V):M R :=
 (M.ret (V.bool false)).bind fun aA =>
 (M.ret x0).bind fun aB =>
 (M.lift (arithV .geq aB (V.int .i64 0))).bind fun aC =>
 (M.ret aC).bind fun aD =>
 (guardV aD true (M.ret x0)).bind fun aE =>
 (guardV aD true (M.ret x1)).bind fun aF =>
 (guardV aD true (M.lift (arithV .lss aE aF))).bind fun aG =>
 (M.lift (pickV aD aG (V.bool false))).bind fun aH =>
 (M.ret aH).bind fun aI =>
 M.ret (Ex.ret,[aI])
theorem ferry_valid_within_eq (G:GV) (n:Nat) (x0:V) (x1:V):sem (cfg G) (n + 1) 175 [x0,x1] = outV (ferry_valid_within G (sem (cfg G) n) x0 x1) :=
 (fnV_at (C:=cfg G) (n:=n) (f:=175) (fn:=Tryz.f175) (c:=Tryz.f175.body.getD .skip) (by kernel_rfl) (by kernel_rfl) (by kernel_rfl) [x0,x1]).trans (by kernel_rfl)
noncomputable def ferry_valid_asked_rules_6 (G:GV) (call:CV) (x0:V) (x1:V) (x2:V):M R :=
 (newV x0).bind fun aA =>
 (M.ret (V.bool false)).bind fun aB =>
 (M.lift (padd 19 aA)).bind fun aC =>
 (load1 aC).bind fun aD =>
 (M.lift ((eqV (.sc .int) true aD (V.int .i64 3)).bind fun b => some (.bool !b))).bind fun aE =>
 (M.ret aE).bind fun aF =>
 (guardV aF false (M.lift (padd 20 aA))).bind fun aG =>
 (guardV aF false (load1 aG)).bind fun aH =>
 (guardV aF false (M.lift (padd 7 x1))).bind fun aI =>
 (guardV aF false (load1 aI)).bind fun aJ =>
 (guardV aF false (M.lift (lenV aJ))).bind fun aK =>
 (guardV aF false (M.lift (padd 6 x2))).bind fun aL =>
 (guardV aF false (load1 aL)).bind fun aM =>
 (guardV aF false (M.lift (lenV aM))).bind fun aN =>
 (guardV aF false (M.lift (minV aK aN))).bind fun aO =>
 (guardV aF false (callV (cfg G) call 175 [aH,aO])).bind fun aP =>
 (guardV aF false (M.lift (unV .not aP))).bind fun aQ =>
 (M.lift (pickV aF (V.bool true) aQ)).bind fun aR =>
 (M.ret aR).bind fun aS =>
 (guardV aS false (M.lift (padd 7 x1))).bind fun aT =>
 (guardV aS false (load1 aT)).bind fun aU =>
 (guardV aS false (M.lift (padd 20 aA))).bind fun aV =>
 (guardV aS false (load1 aV)).bind fun aW =>
 (guardV aS false (M.lift (idxV 1 aU aW))).bind fun aX =>
 (guardV aS false (load1 aX)).bind fun aY =>
 (guardV aS false (M.lift ((eqV (.sc .int) true aY (V.int .i64 0)).bind fun b => some (.bool b)))).bind fun aZ =>
 (M.lift (pickV aS (V.bool true) aZ)).bind fun bA =>
 (M.ret bA).bind fun bB =>
 M.ret (Ex.ret,[bB])
theorem ferry_valid_asked_rules_6_eq (G:GV) (n:Nat) (x0:V) (x1:V) (x2:V):sem (cfg G) (n + 1) 176 [x0,x1,x2] = outV (ferry_valid_asked_rules_6 G (sem (cfg G) n) x0 x1 x2) :=
 (fnV_at (C:=cfg G) (n:=n) (f:=176) (fn:=Tryz.f176) (c:=Tryz.f176.body.getD .skip) (by kernel_rfl) (by kernel_rfl) (by kernel_rfl) [x0,x1,x2]).trans (by kernel_rfl)
noncomputable def ferry_valid_asked_queued (G:GV) (call:CV) (x0:V) (x1:V):M R :=
 (newV x0).bind fun aA =>
 (newV x1).bind fun aB =>
 (M.ret (V.bool false)).bind fun aC =>
 (M.lift (padd 19 aB)).bind fun aD =>
 (load1 aD).bind fun aE =>
 (M.lift ((eqV (.sc .int) true aE (V.int .i64 4)).bind fun b => some (.bool !b))).bind fun aF =>
 (M.ret aF).bind fun aG =>
 (guardV aG false (M.lift (padd 20 aB))).bind fun aH =>
 (guardV aG false (load1 aH)).bind fun aI =>
 (guardV aG false (M.lift (padd 0 aA))).bind fun aJ =>
 (guardV aG false (M.lift (padd 4 aJ))).bind fun aK =>
 (guardV aG false (load1 aK)).bind fun aL =>
 (guardV aG false (M.lift (lenV aL))).bind fun aM =>
 (guardV aG false (M.lift (padd 7 aA))).bind fun aN =>
 (guardV aG false (M.lift (padd 8 aN))).bind fun aO =>
 (guardV aG false (load1 aO)).bind fun aP =>
 (guardV aG false (M.lift (lenV aP))).bind fun aQ =>
 (guardV aG false (M.lift (minV aM aQ))).bind fun aR =>
 (guardV aG false (callV (cfg G) call 175 [aI,aR])).bind fun aS =>
 (guardV aG false (M.lift (unV .not aS))).bind fun aT =>
 (M.lift (pickV aG (V.bool true) aT)).bind fun aU =>
 (condV aU
 ((M.ret (V.bool true)).bind fun aV =>
 M.ret (Ex.ret,[aV]))
 (((M.lift (padd 0 aA)).bind fun aW =>
 (M.lift (padd 4 aW)).bind fun aX =>
 (load1 aX).bind fun aY =>
 (M.lift (padd 20 aB)).bind fun aZ =>
 (load1 aZ).bind fun bA =>
 (M.lift (idxV 4 aY bA)).bind fun bB =>
 (loadN 4 bB).bind fun bC =>
 (M.lift (padd 7 aA)).bind fun bD =>
 (M.lift (padd 8 bD)).bind fun bE =>
 (load1 bE).bind fun bF =>
 (M.lift (padd 20 aB)).bind fun bG =>
 (load1 bG).bind fun bH =>
 (M.lift (idxV 2 bF bH)).bind fun bI =>
 (loadN 2 bI).bind fun bJ =>
 (newV (.agg [(V.int .i64 0),(V.int .i64 0),(V.int .i64 0),(V.int .i64 0)])).bind fun bK =>
 (newV (.agg [V.nils,(V.int .i64 0)])).bind fun bL =>
 guardM (apartV bE bK && (apartV bG bK && (apartV bI bK && true))) (
 (storeN 4 bK bC).bind fun _ =>
 (storeN 2 bL bJ).bind fun _ =>
 (M.lift (padd 0 bK)).bind fun bM =>
 (load1 bM).bind fun bN =>
 (M.lift ((eqV (.sc .int) true bN (V.int .i64 3)).bind fun b => some (.bool b))).bind fun bO =>
 (M.ret bO).bind fun bP =>
 (condV bP
 ((M.lift (padd 0 bL)).bind fun bQ =>
 (load1 bQ).bind fun bR =>
 (M.lift (lenV bR)).bind fun bS =>
 (M.lift ((eqV (.sc .int) true bS (V.int .i64 0)).bind fun b => some (.bool b))).bind fun bT =>
 (M.ret bT).bind fun bU =>
 M.ret (Ex.ret,[bU]))
 ((M.lift ((eqV (.sc .int) true bN (V.int .i64 4)).bind fun b => some (.bool b))).bind fun bV =>
 (M.ret bV).bind fun bW =>
 (condV bW
 ((M.lift (padd 0 bL)).bind fun bX =>
 (load1 bX).bind fun bY =>
 (M.lift (lenV bY)).bind fun bZ =>
 (M.lift (padd 2 bK)).bind fun cA =>
 (load1 cA).bind fun cB =>
 (M.lift ((eqV (.sc .int) false bZ cB).bind fun b => some (.bool b))).bind fun cC =>
 (M.ret cC).bind fun cD =>
 M.ret (Ex.ret,[cD]))
 ((M.ret (V.bool true)).bind fun cE =>
 M.ret (Ex.ret,[cE])))))))))
theorem ferry_valid_asked_queued_eq (G:GV) (n:Nat) (x0:V) (x1:V):sem (cfg G) (n + 1) 177 [x0,x1] = outV (ferry_valid_asked_queued G (sem (cfg G) n) x0 x1) :=
 (fnV_at (C:=cfg G) (n:=n) (f:=177) (fn:=Tryz.f177) (c:=Tryz.f177.body.getD .skip) (by kernel_rfl) (by kernel_rfl) (by kernel_rfl) [x0,x1]).trans (by kernel_rfl)
noncomputable def ferry_valid_asked_rules_7 (G:GV) (call:CV) (x0:V) (x1:V):M R :=
 (newV x0).bind fun aA =>
 (newV x1).bind fun aB =>
 (M.ret (V.bool false)).bind fun aC =>
 (loadN 4 aA).bind fun aD =>
 (callV (cfg G) call 179 [aD]).bind fun aE =>
 (M.lift (unV .not aE)).bind fun aF =>
 (M.ret aF).bind fun aG =>
 (guardV aG false (M.lift (padd 0 aB))).bind fun aH =>
 (guardV aG false (load1 aH)).bind fun aI =>
 (guardV aG false (M.lift (lenV aI))).bind fun aJ =>
 (guardV aG false (M.lift ((eqV (.sc .int) true aJ (V.int .i64 0)).bind fun b => some (.bool b)))).bind fun aK =>
 (M.lift (pickV aG (V.bool true) aK)).bind fun aL =>
 (M.ret aL).bind fun aM =>
 M.ret (Ex.ret,[aM])
theorem ferry_valid_asked_rules_7_eq (G:GV) (n:Nat) (x0:V) (x1:V):sem (cfg G) (n + 1) 178 [x0,x1] = outV (ferry_valid_asked_rules_7 G (sem (cfg G) n) x0 x1) :=
 (fnV_at (C:=cfg G) (n:=n) (f:=178) (fn:=Tryz.f178) (c:=Tryz.f178.body.getD .skip) (by kernel_rfl) (by kernel_rfl) (by kernel_rfl) [x0,x1]).trans (by kernel_rfl)
noncomputable def ferry_valid_isOut (G:GV) (call:CV) (x0:V):M R :=
 (newV x0).bind fun aA =>
 (M.ret (V.bool false)).bind fun aB =>
 (M.lift (padd 0 aA)).bind fun aC =>
 (load1 aC).bind fun aD =>
 (M.lift ((eqV (.sc .int) true aD (V.int .i64 2)).bind fun b => some (.bool b))).bind fun aE =>
 (M.ret aE).bind fun aF =>
 (guardV aF false (M.lift (padd 0 aA))).bind fun aG =>
 (guardV aF false (load1 aG)).bind fun aH =>
 (guardV aF false (M.lift ((eqV (.sc .int) true aH (V.int .i64 4)).bind fun b => some (.bool b)))).bind fun aI =>
 (M.lift (pickV aF (V.bool true) aI)).bind fun aJ =>
 (M.ret aJ).bind fun aK =>
 M.ret (Ex.ret,[aK])
theorem ferry_valid_isOut_eq (G:GV) (n:Nat) (x0:V):sem (cfg G) (n + 1) 179 [x0] = outV (ferry_valid_isOut G (sem (cfg G) n) x0) :=
 (fnV_at (C:=cfg G) (n:=n) (f:=179) (fn:=Tryz.f179) (c:=Tryz.f179.body.getD .skip) (by kernel_rfl) (by kernel_rfl) (by kernel_rfl) [x0]).trans (by kernel_rfl)
noncomputable def ferry_plan_at (G:GV) (call:CV) (x0:V) (x1:V):M R :=
 (M.ret V.nili).bind fun aA =>
 (M.ret x0).bind fun aB =>
 (M.ret x1).bind fun aC =>
 (M.lift (buildV [(V.int .i64 0),V.nili] [(0,1,aB),(1,1,aC)])).bind fun aD =>
 (newV aD).bind fun aE =>
 (M.lift (ifaceV 127 aE)).bind fun aF =>
 (M.ret aF).bind fun aG =>
 M.ret (Ex.ret,[aG])
theorem ferry_plan_at_eq (G:GV) (n:Nat) (x0:V) (x1:V):sem (cfg G) (n + 1) 226 [x0,x1] = outV (ferry_plan_at G (sem (cfg G) n) x0 x1) :=
 (fnV_at (C:=cfg G) (n:=n) (f:=226) (fn:=Tryz.f226) (c:=Tryz.f226.body.getD .skip) (by kernel_rfl) (by kernel_rfl) (by kernel_rfl) [x0,x1]).trans (by kernel_rfl)
noncomputable def ferry_plan_bound_l1 (G:GV) (call:CV) (aA:V) (aB:V) (aC:List V):M R :=
 (M.lift (arithV .lss (aC.getD 1 V.undef) aA)).bind fun aD =>
 (condV aD
 ((M.lift (idxV 4 aB (aC.getD 1 V.undef))).bind fun aE =>
 (loadN 4 aE).bind fun aF =>
 (newV (.agg [(V.int .i64 0),(V.int .i64 0),(V.int .i64 0),(V.int .i64 0)])).bind fun aG =>
 (storeN 4 aG aF).bind fun _ =>
 (loadN 4 aG).bind fun aH =>
 (callV (cfg G) call 246 [aH]).bind fun aI =>
 (M.ret aI).bind fun aJ =>
 (M.lift (extractV aJ 0)).bind fun aK =>
 (M.lift (extractV aJ 1)).bind fun aL =>
 (M.ret aK).bind fun aM =>
 (M.ret aL).bind fun aN =>
 (M.ret (aC.getD 0 V.undef)).bind fun aO =>
 (M.ret aM).bind fun aP =>
 (M.lift (arithV .add (V.int .i64 3) aP)).bind fun aQ =>
 (M.lift (arithV .add aO aQ)).bind fun aR =>
 (M.ret aR).bind fun aS =>
 (M.lift (arithV .add (aC.getD 1 V.undef) (V.int .i64 1))).bind fun aT =>
 (M.ret aT).bind fun aU =>
 M.ret (Ex.normal,[aS,aU]))
 (M.ret ((Ex.exit 0),[(aC.getD 0 V.undef),(aC.getD 1 V.undef)])))
noncomputable def ferry_plan_bound (G:GV) (call:CV) (x0:V):M R :=
 (newV x0).bind fun aA =>
 (M.ret (V.int .i64 0)).bind fun aB =>
 (M.lift (padd 3 aA)).bind fun aC =>
 (load1 aC).bind fun aD =>
 (M.lift (lenV aD)).bind fun aE =>
 (M.lift (arithV .mul (V.int .i64 76) aE)).bind fun aF =>
 (M.lift (arithV .add (V.int .i64 58) aF)).bind fun aG =>
 (M.lift (padd 2 aA)).bind fun aH =>
 (load1 aH).bind fun aI =>
 (M.lift (lenV aI)).bind fun aJ =>
 (M.lift (arithV .mul (V.int .i64 68) aJ)).bind fun aK =>
 (M.lift (arithV .add aG aK)).bind fun aL =>
 (M.lift (padd 5 aA)).bind fun aM =>
 (load1 aM).bind fun aN =>
 (M.lift (arithV .add aL aN)).bind fun aO =>
 (M.lift (padd 6 aA)).bind fun aP =>
 (load1 aP).bind fun aQ =>
 (M.lift (lenV aQ)).bind fun aR =>
 (M.lift (arithV .add aO aR)).bind fun aS =>
 (M.ret aS).bind fun aT =>
 (M.lift (padd 4 aA)).bind fun aU =>
 (load1 aU).bind fun aV =>
 (M.lift (lenV aV)).bind fun aW =>
 (M.ret (V.int .i64 0)).bind fun aX =>
 (loopV (ferry_plan_bound_l1 G call aW aV) [aT,aX]).bind fun aY => match aY.1 with
 | .normal => M.fail
 | .exit k0_45 =>
 (if k0_45 = 0 then
 (M.ret (aY.2.getD 0 V.undef)).bind fun aZ =>
 (M.ret aZ).bind fun bA =>
 M.ret (Ex.ret,[bA])
 else M.fail)
 | .ret =>
 M.ret (Ex.ret,[aB])
theorem ferry_plan_bound_eq (G:GV) (n:Nat) (x0:V):sem (cfg G) (n + 1) 227 [x0] = outV (ferry_plan_bound G (sem (cfg G) n) x0) :=
 (fnV_at (C:=cfg G) (n:=n) (f:=227) (fn:=Tryz.f227) (c:=Tryz.f227.body.getD .skip) (by kernel_rfl) (by kernel_rfl) (by kernel_rfl) [x0]).trans (by kernel_rfl)
end Go.Fv.Tr

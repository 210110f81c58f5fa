/-
  From the program's functions to shallow terms. By an AI agent; no person has read it.
-/
import Derived.Test.YtekncgjkocgioaaGreatDoorFvP00
import Derived.KernelRfl
import Derived.Test.YtekncgjkocgioaaGreatDoorProg
set_option linter.unusedVariables false
set_option linter.unusedSimpArgs false
set_option linter.unusedSectionVars false
/-! From the program's functions to shallow terms. -/
namespace Go.Fv
open Go
theorem fnV_at {C : Cfg} {n : Nat} {f : FuncId} {fn : Func} {c : Code} (hf : C.P.funcs[f]? = some fn) (hb : fn.body = some c) (hn : decide (fn.name = "runtime.NumGoroutine") = false) (args : List V) :
  sem C (n + 1) f args = bodyV C (sem C n) fn c args:=by
 show fnV C (sem C n) f args = _
 unfold fnV
 rw [hf]
 simp only
 rw [hb]
 simp only
 rw [if_neg (of_decide_eq_false hn)]
section
variable {α β γ:Type}
def getN:M Nat:=fun h => some (h.next,h)
def guardM (c:Bool) (m:M α):M α:=fun h => if c = true then m h else none
theorem iter_det (F : List V → M R) : ∀ n m s h r r', iter F n s h = some r → iter F m s h = some r' → r = r'
  | 0,_,_,_,_,_,h,_ => by cases h
  | _ + 1,0,_,_,_,_,_,h => by cases h
  | n + 1, m + 1, s, h, r, r', h1, h2 => by
    simp only [iter,M.bind] at h1 h2
    cases hF:F s h with
    | none => rw [hF] at h1; cases h1
    | some x =>
      rw [hF] at h1 h2
      simp only [Option.bind_some] at h1 h2
      obtain ⟨⟨e,s'⟩,h'⟩:=x
      cases e with
      | normal => exact iter_det F n m s' h' r r' h1 h2
      | exit j => exact Option.some.inj (h1.symm.trans h2)
      | ret => exact Option.some.inj (h1.symm.trans h2)
theorem loopV_of {F:List V → M R} {n:Nat} {s:List V} {h:Heap} {r:R × Heap} (hi:iter F n s h = some r):loopV F s h = some r:=by
 unfold loopV
 have hx:∃ n r,iter F n s h = some r:=⟨n,r,hi⟩
 rw [dif_pos hx]
 exact congrArg some (iter_det F _ _ _ _ _ _ hx.choose_spec.choose_spec hi)
theorem iter_of {F:List V → M R} {s:List V} {h:Heap} {r:R × Heap} (hl:loopV F s h = some r):∃ n,iter F n s h = some r:=by
 unfold loopV at hl
 split at hl
 ·rename_i hx
  have:=hx.choose_spec.choose_spec
  injection hl with hl
  exact ⟨_,this.trans (by rw [hl])⟩
 ·cases hl
theorem loopV_next {F : List V → M R} {s s' : List V} {h h' : Heap} (hF : F s h = some ((.normal, s'), h')) : loopV F s h = loopV F s' h' := by
  have step : ∀ n, iter F (n + 1) s h = iter F n s' h' := fun n => by
    simp only [iter,M.bind,hF,Option.bind_some]
  cases hl:loopV F s' h' with
  | some r =>
    obtain ⟨n,hn⟩:=iter_of hl
    exact loopV_of ((step n).trans hn)
  | none =>
    cases hl2:loopV F s h with
    | none => rfl
    | some r =>
      obtain ⟨n,hn⟩:=iter_of hl2
      cases n with
      | zero => cases hn
      | succ n => rw [step n] at hn; rw [loopV_of hn] at hl; cases hl
theorem loopV_exit {F:List V → M R} {s s':List V} {h h':Heap} {j:Nat} (hF:F s h = some ((.exit j,s'),h')):loopV F s h = some ((.exit j,s'),h') :=
 loopV_of (n:=1) (by simp only [iter,M.bind,hF,Option.bind_some,M.ret])
theorem loopV_ret {F:List V → M R} {s s':List V} {h h':Heap} (hF:F s h = some ((.ret,s'),h')):loopV F s h = some ((.ret,s'),h') :=
 loopV_of (n:=1) (by simp only [iter,M.bind,hF,Option.bind_some,M.ret])
end
end Go.Fv
namespace Go.Fv.Tr
open Go Go.Fv Go.Proofs
def pures:List Nat:=[196,207,162,163,177,173,164,104,165,36,37,80,240,239,257,25,8,20,23,38,21,22,190,187,123,234,184,232,233,125,243,185,119,114,106,66,110,115,113,182,120,117,105,181,231,180,107,230,183,147,101,211,216,217,212,214,213,215,16,62,19,245,30,102,154,218,244,34,219,220,221,222,223,224,225,148,149,150,151,152,153,116,238,255,256,18,33,13,61,28,103,226,227,155,156,157,141,208,100,246,209,242,142,146,143,95,90,137,86,135,91,88,139,96,92,84,204,205,194,235,202,203,136,201,197,198,236,17,63,158,179,160,31,175]
def owns:List Nat:=[138,9,11,14,188,122,189,121,124,191,186,111,108,109,15,64,24,29,12,98,99,145,144,132,133,59,54,56,57,55,60,10,199,27]
def exts:List Nat:=[]
def seens:List Nat:=[79]
def efs:List Nat:=[81]
def kindOf (f:FuncId):Kind:=if exts.contains f then .ext else if seens.contains f then .exts else if efs.contains f then .extm else if pures.contains f then .pure else if owns.contains f then .own else .inl
def sentOf (G:GV) (k:Nat):Bool:=match G k with
 | some [.iface 315 (.ext j)] => j == k
 | _ => false
def sentL:List Nat:=[0,1,2,3,4,5,6,7,8,9,10,11,12,13,14,15,16,17,18,19]
def isSent (g:Nat):Bool:=sentL.contains g
def handOf (G:GV):Bool:=match G 20 with
 | some [] => true
 | _ => false
def isX (G:GV):List V → Option V
 | [.nili,.iface 315 (.ext _)] => some (.bool false)
 | [.iface 315 (.ext i),.iface 315 (.ext j)] => if i == j then some (.bool true) else if sentOf G i && sentOf G j then some (.bool false) else none
 | [.iface 127 (.iptr [_,.iface 315 (.ext i)] 0),.iface 315 (.ext j)] => if i == j then some (.bool true) else if sentOf G i && sentOf G j then some (.bool false) else none
 | _ => none
def asX (G:GV):List V → Option V
 | [.nili,.iface 143 (.ptr _ _ _)] => some (.bool false)
 | [.iface 315 (.ext _),.iface 143 (.ptr _ _ _)] => if handOf G then some (.bool false) else none
 | _ => none
def asY (G:GV):List V → M V
 | [.nili,.iface 143 (.ptr _ _ _)] => M.ret (.bool false)
 | [.iface 315 (.ext _),.iface 143 (.ptr _ _ _)] => if handOf G then M.ret (.bool false) else M.fail
 | [.iface 127 (.ptr a b c),.iface 143 (.ptr l i o)] => if handOf G then (storeN 1 (.ptr l i o) (.ptr a b c)).bind fun _ => M.ret (.bool true) else M.fail
 | [.iface 127 (.iptr r c),.iface 143 (.ptr l i o)] => if handOf G then (storeN 1 (.ptr l i o) (.iptr r c)).bind fun _ => M.ret (.bool true) else M.fail
 | _ => M.fail
def extY (G:GV) (f:FuncId) (args:List V):M V:=if f = 81 then asY G args else M.fail
def extX (G:GV) (f:FuncId) (args:List V):Option V:=if f = 79 then isX G args else if f = 81 then asX G args else none
noncomputable def cfg (G:GV):Cfg :=
 { P:=Tryz.prog,G:=G,kind:=kindOf,X:=extX G,S:=sentOf G,Z:=fun g => if g = 20 ∧ handOf G = true then some (.iface 248 (.agg #[.pointer (some ⟨21,50,none⟩)])) else none,Y:=extY G }
end Go.Fv.Tr
namespace Go.Fv
open Go
end Go.Fv
namespace Go.Fv.Tr
open Go Go.Fv Go.Proofs
set_option maxRecDepth 20000
noncomputable def ferry_ready_Good_l1 (G:GV) (call:CV) (aA:V) (aB:V) (aC:V) (aD:List V):M R :=
 (M.lift (arithV .lss (aD.getD 1 V.undef) aA)).bind fun aE =>
 (condV aE
 ((M.ret (aD.getD 1 V.undef)).bind fun aF =>
 (M.lift (idxV 21 aB (aD.getD 1 V.undef))).bind fun aG =>
 (loadN 21 aG).bind fun aH =>
 (newV (.agg [(V.int .u32 0),(V.int .u32 0),(V.int .u32 0),(V.int .u32 0),(V.int .u32 0),(V.int .u32 0),(V.int .u32 0),(V.int .u32 0),(V.int .u32 0),(V.int .u32 0),(V.int .u32 0),(V.int .u32 0),(V.int .u32 0),(V.int .u32 0),(V.int .u32 0),(V.int .u32 0),(V.int .u32 0),(V.int .i64 0),(V.int .i64 0),(V.int .i64 0),(V.int .i64 0)])).bind fun aI =>
 (M.ret aF).bind fun aJ =>
 (storeN 21 aI aH).bind fun _ =>
 (M.lift (padd 2 aC)).bind fun aK =>
 (load1 aK).bind fun aL =>
 (M.ret aJ).bind fun aM =>
 (callV (cfg G) call 203 [aL,aM]).bind fun aN =>
 (M.ret aN).bind fun aO =>
 (M.lift (extractV aO 0)).bind fun aP =>
 (M.lift (extractV aO 1)).bind fun aQ =>
 (M.ret aP).bind fun aR =>
 (M.ret aQ).bind fun aS =>
 (loadN 21 aI).bind fun aT =>
 (callV (cfg G) call 204 [aT]).bind fun aU =>
 (M.lift (unV .not aU)).bind fun aV =>
 (M.ret aV).bind fun aW =>
 (guardV aW false (M.ret aS)).bind fun aX =>
 (guardV aW false (M.ret aX)).bind fun aY =>
 (guardV aY true (M.lift (padd 17 aI))).bind fun aZ =>
 (guardV aY true (load1 aZ)).bind fun bA =>
 (guardV aY true (M.lift ((eqV (.sc .int) true bA (V.int .i64 2)).bind fun b => some (.bool !b)))).bind fun bB =>
 (guardV aW false (M.lift (pickV aY bB (V.bool false)))).bind fun bC =>
 (M.lift (pickV aW (V.bool true) bC)).bind fun bD =>
 (M.ret bD).bind fun bE =>
 (guardV bE false (M.ret aS)).bind fun bF =>
 (guardV bE false (M.lift (unV .not bF))).bind fun bG =>
 (guardV bE false (M.ret bG)).bind fun bH =>
 (guardV bH true (M.lift (padd 19 aI))).bind fun bI =>
 (guardV bH true (load1 bI)).bind fun bJ =>
 (guardV bH true (M.lift ((eqV (.sc .int) true bJ (V.int .i64 1)).bind fun b => some (.bool b)))).bind fun bK =>
 (guardV bE false (M.lift (pickV bH bK (V.bool false)))).bind fun bL =>
 (M.lift (pickV bE (V.bool true) bL)).bind fun bM =>
 (condV bM
 ((M.ret (V.bool false)).bind fun bN =>
 M.ret (Ex.ret,[bN,(aD.getD 1 V.undef)]))
 ((M.lift (arithV .add (aD.getD 1 V.undef) (V.int .i64 1))).bind fun bO =>
 (M.ret bO).bind fun bP =>
 M.ret (Ex.normal,[(aD.getD 0 V.undef),bP]))))
 (M.ret ((Ex.exit 0),[(aD.getD 0 V.undef),(aD.getD 1 V.undef)])))
noncomputable def ferry_ready_Good (G:GV) (call:CV) (x0:V):M R :=
 (newV x0).bind fun aA =>
 (M.ret (V.bool false)).bind fun aB =>
 (M.lift (padd 0 aA)).bind fun aC =>
 (load1 aC).bind fun aD =>
 (M.lift (lenV aD)).bind fun aE =>
 (M.lift (arithV .gtr aE (V.int .i64 8))).bind fun aF =>
 (M.ret aF).bind fun aG =>
 (guardV aG false (M.lift (padd 2 aA))).bind fun aH =>
 (guardV aG false (load1 aH)).bind fun aI =>
 (guardV aG false (M.lift (padd 0 aA))).bind fun aJ =>
 (guardV aG false (load1 aJ)).bind fun aK =>
 (guardV aG false (M.lift (lenV aK))).bind fun aL =>
 (guardV aG false (callV (cfg G) call 202 [aI,aL])).bind fun aM =>
 (guardV aG false (M.lift ((eqV .iface true aM V.nili).bind fun b => some (.bool !b)))).bind fun aN =>
 (M.lift (pickV aG (V.bool true) aN)).bind fun aO =>
 (condV aO
 ((M.ret (V.bool false)).bind fun aP =>
 M.ret (Ex.ret,[aP]))
 ((M.lift (padd 0 aA)).bind fun aQ =>
 (load1 aQ).bind fun aR =>
 (M.lift (lenV aR)).bind fun aS =>
 (M.ret (V.int .i64 0)).bind fun aT =>
 (loopV (ferry_ready_Good_l1 G call aS aR aA) [aB,aT]).bind fun aU => match aU.1 with
 | .normal => M.fail
 | .exit k0_61 =>
 (if k0_61 = 0 then
 (loadN 3 aA).bind fun aV =>
 (callV (cfg G) call 205 [aV]).bind fun aW =>
 (M.ret aW).bind fun aX =>
 M.ret (Ex.ret,[aX])
 else M.fail)
 | .ret =>
 M.ret (Ex.ret,[(aU.2.getD 0 V.undef)])))
theorem ferry_ready_Good_eq (G:GV) (n:Nat) (x0:V):sem (cfg G) (n + 1) 137 [x0] = outV (ferry_ready_Good G (sem (cfg G) n) x0) :=
 (fnV_at (C:=cfg G) (n:=n) (f:=137) (fn:=Tryz.f137) (c:=Tryz.f137.body.getD .skip) (by kernel_rfl) (by kernel_rfl) (by kernel_rfl) [x0]).trans (by kernel_rfl)
noncomputable def ferry_timer_Check (G:GV) (call:CV) (x0:V) (x1:V):M R :=
 (M.ret V.nili).bind fun aA =>
 (M.ret x1).bind fun aB =>
 (M.lift (arithV .lss aB (V.int .i64 0))).bind fun aC =>
 (M.ret aC).bind fun aD =>
 (guardV aD false (M.ret x1)).bind fun aE =>
 (guardV aD false (M.lift (arithV .gtr aE (V.int .i64 8)))).bind fun aF =>
 (M.lift (pickV aD (V.bool true) aF)).bind fun aG =>
 (condV aG
 ((load1 (glob (cfg G) 0)).bind fun aH =>
 (M.ret aH).bind fun aI =>
 M.ret (Ex.ret,[aI]))
 ((M.ret x0).bind fun aJ =>
 (M.ret x1).bind fun aK =>
 (callV (cfg G) call 197 [aJ,aK]).bind fun aL =>
 (M.lift (unV .not aL)).bind fun aM =>
 (condV aM
 ((load1 (glob (cfg G) 2)).bind fun aN =>
 (M.ret aN).bind fun aO =>
 M.ret (Ex.ret,[aO]))
 ((M.ret V.nili).bind fun aP =>
 M.ret (Ex.ret,[aP])))))
theorem ferry_timer_Check_eq (G:GV) (n:Nat) (x0:V) (x1:V):sem (cfg G) (n + 1) 202 [x0,x1] = outV (ferry_timer_Check G (sem (cfg G) n) x0 x1) :=
 (fnV_at (C:=cfg G) (n:=n) (f:=202) (fn:=Tryz.f202) (c:=Tryz.f202.body.getD .skip) (by kernel_rfl) (by kernel_rfl) (by kernel_rfl) [x0,x1]).trans (by kernel_rfl)
noncomputable def ferry_timer_good_l1 (G:GV) (call:CV) (aA:V) (aB:V) (x1:V) (aC:V) (x0:V) (aD:List V):M R :=
 (M.lift (arithV .lss (aD.getD 1 V.undef) aA)).bind fun aE =>
 (condV aE
 ((M.ret (aD.getD 1 V.undef)).bind fun aF =>
 (M.lift (idxV 2 aB (aD.getD 1 V.undef))).bind fun aG =>
 (loadN 2 aG).bind fun aH =>
 (newV (.agg [(V.int .i64 0),(V.int .i64 0)])).bind fun aI =>
 (M.ret aF).bind fun aJ =>
 (storeN 2 aI aH).bind fun _ =>
 (getN.bind fun aK =>
 (loadN 2 aI).bind fun aL =>
 getN.bind fun aM =>
 (M.ret x1).bind fun aN =>
 getN.bind fun aO =>
 (qrun (visB aK [(aM,aO,true),(aK,aM,true)]) (callV (cfg G) call 198 [aL,aN])).bind fun aP =>
 getN.bind fun aQ =>
 (M.lift (unV .not aP)).bind fun aR =>
 getN.bind fun aS =>
 (M.ret aR).bind fun aT =>
 getN.bind fun aU =>
 (guardV aT false (M.lift (padd 0 aI))).bind fun aV =>
 getN.bind fun aW =>
 (guardV aT false (load1 aV)).bind fun aX =>
 getN.bind fun aY =>
 (guardV aT false (M.lift (aidxV 8 1 aC aX))).bind fun aZ =>
 getN.bind fun bA =>
 (guardV aT false (load1 aZ)).bind fun bB =>
 getN.bind fun bC =>
 (M.lift (pickV aT (V.bool true) bB)).bind fun bD =>
 getN.bind fun bE =>
 (M.ret bD).bind fun bF =>
 getN.bind fun bG =>
 (guardV bF false (M.ret aJ)).bind fun bH =>
 getN.bind fun bI =>
 (guardV bF false (M.lift (arithV .gtr bH (V.int .i64 0)))).bind fun bJ =>
 getN.bind fun bK =>
 (guardV bF false (M.ret bJ)).bind fun bL =>
 getN.bind fun bM =>
 (guardV bL true (M.ret x0)).bind fun bN =>
 getN.bind fun bO =>
 (guardV bL true (M.ret aJ)).bind fun bP =>
 getN.bind fun bQ =>
 (guardV bL true (M.lift (arithV .sub bP (V.int .i64 1)))).bind fun bR =>
 getN.bind fun bS =>
 (guardV bL true (M.lift (idxV 2 bN bR))).bind fun bT =>
 getN.bind fun bU =>
 (guardV bL true (loadN 2 bT)).bind fun bV =>
 getN.bind fun bW =>
 (guardV bL true (loadN 2 aI)).bind fun bX =>
 getN.bind fun bY =>
 (qrun (visB aK [(bW,bY,true),(bU,bW,true),(bS,bU,true),(bQ,bS,true),(bO,bQ,true),(bM,bO,true),(bK,bM,true),(bI,bK,true),(bG,bI,true),(bE,bG,true),(bC,bE,true),(bA,bC,true),(aY,bA,true),(aW,aY,true),(aU,aW,true),(aS,aU,true),(aQ,aS,true),(aO,aQ,true),(aM,aO,true),(aK,aM,true)]) (guardV bL true (callV (cfg G) call 201 [bV,bX]))).bind fun bZ =>
 (guardV bL true (M.lift (arithV .geq bZ (V.int .i64 0)))).bind fun cA =>
 (guardV bF false (M.lift (pickV bL cA (V.bool false)))).bind fun cB =>
 (M.lift (pickV bF (V.bool true) cB)).bind fun cC =>
 (condV cC
 ((M.ret (V.bool false)).bind fun cD =>
 M.ret (Ex.ret,[cD,(aD.getD 1 V.undef)]))
 ((M.lift (padd 0 aI)).bind fun cE =>
 (load1 cE).bind fun cF =>
 (M.lift (aidxV 8 1 aC cF)).bind fun cG =>
 (storeN 1 cG (V.bool true)).bind fun _ =>
 (M.lift (arithV .add (aD.getD 1 V.undef) (V.int .i64 1))).bind fun cH =>
 (M.ret cH).bind fun cI =>
 M.ret (Ex.normal,[(aD.getD 0 V.undef),cI])))))
 (M.ret ((Ex.exit 0),[(aD.getD 0 V.undef),(aD.getD 1 V.undef)])))
noncomputable def ferry_timer_good (G:GV) (call:CV) (x0:V) (x1:V):M R :=
 (M.ret (V.bool false)).bind fun aA =>
 (newV (.agg [(V.bool false),(V.bool false),(V.bool false),(V.bool false),(V.bool false),(V.bool false),(V.bool false),(V.bool false)])).bind fun aB =>
 (M.ret x0).bind fun aC =>
 (M.lift (lenV aC)).bind fun aD =>
 (M.ret (V.int .i64 0)).bind fun aE =>
 (loopV (ferry_timer_good_l1 G call aD aC x1 aB x0) [aA,aE]).bind fun aF => match aF.1 with
 | .normal => M.fail
 | .exit k0_65 =>
 (if k0_65 = 0 then
 (M.ret (V.bool true)).bind fun aG =>
 M.ret (Ex.ret,[aG])
 else M.fail)
 | .ret =>
 M.ret (Ex.ret,[(aF.2.getD 0 V.undef)])
theorem ferry_timer_good_eq (G:GV) (n:Nat) (x0:V) (x1:V):sem (cfg G) (n + 1) 197 [x0,x1] = outV (ferry_timer_good G (sem (cfg G) n) x0 x1) :=
 (fnV_at (C:=cfg G) (n:=n) (f:=197) (fn:=Tryz.f197) (c:=Tryz.f197.body.getD .skip) (by kernel_rfl) (by kernel_rfl) (by kernel_rfl) [x0,x1]).trans (by kernel_rfl)
noncomputable def ferry_timer_right (G:GV) (call:CV) (x0:V) (x1:V):M R :=
 (newV x0).bind fun aA =>
 (M.ret (V.bool false)).bind fun aB =>
 (M.lift (padd 0 aA)).bind fun aC =>
 (load1 aC).bind fun aD =>
 (M.lift (arithV .geq aD (V.int .i64 0))).bind fun aE =>
 (M.ret aE).bind fun aF =>
 (guardV aF true (M.lift (padd 0 aA))).bind fun aG =>
 (guardV aF true (load1 aG)).bind fun aH =>
 (guardV aF true (M.ret x1)).bind fun aI =>
 (guardV aF true (M.lift (arithV .lss aH aI))).bind fun aJ =>
 (M.lift (pickV aF aJ (V.bool false))).bind fun aK =>
 (M.ret aK).bind fun aL =>
 (guardV aL true (M.lift (padd 1 aA))).bind fun aM =>
 (guardV aL true (load1 aM)).bind fun aN =>
 (guardV aL true (M.lift (arithV .geq aN (V.int .i64 0)))).bind fun aO =>
 (M.lift (pickV aL aO (V.bool false))).bind fun aP =>
 (M.ret aP).bind fun aQ =>
 (guardV aQ true (M.lift (padd 1 aA))).bind fun aR =>
 (guardV aQ true (load1 aR)).bind fun aS =>
 (guardV aQ true (M.lift (arithV .leq aS (V.int .i64 1010000)))).bind fun aT =>
 (M.lift (pickV aQ aT (V.bool false))).bind fun aU =>
 (M.ret aU).bind fun aV =>
 M.ret (Ex.ret,[aV])
theorem ferry_timer_right_eq (G:GV) (n:Nat) (x0:V) (x1:V):sem (cfg G) (n + 1) 198 [x0,x1] = outV (ferry_timer_right G (sem (cfg G) n) x0 x1) :=
 (fnV_at (C:=cfg G) (n:=n) (f:=198) (fn:=Tryz.f198) (c:=Tryz.f198.body.getD .skip) (by kernel_rfl) (by kernel_rfl) (by kernel_rfl) [x0,x1]).trans (by kernel_rfl)
noncomputable def ferry_timer_compare (G:GV) (call:CV) (x0:V) (x1:V):M R :=
 (newV x0).bind fun aA =>
 (newV x1).bind fun aB =>
 (M.ret (V.int .i64 0)).bind fun aC =>
 (getN.bind fun n4 =>
 (M.lift (padd 1 aA)).bind fun aD =>
 getN.bind fun n6 =>
 (load1 aD).bind fun aE =>
 getN.bind fun n8 =>
 (M.lift (padd 1 aB)).bind fun aF =>
 getN.bind fun aG =>
 (load1 aF).bind fun aH =>
 getN.bind fun aI =>
 (qrun (visB n4 [(aG,aI,true),(n8,aG,true),(n6,n8,true),(n4,n6,true)]) (callV (cfg G) call 240 [aE,aH])).bind fun aJ =>
 getN.bind fun aK =>
 (M.lift (padd 0 aA)).bind fun aL =>
 getN.bind fun aM =>
 (load1 aL).bind fun aN =>
 getN.bind fun aO =>
 (M.lift (padd 0 aB)).bind fun aP =>
 getN.bind fun aQ =>
 (load1 aP).bind fun aR =>
 getN.bind fun aS =>
 (qrun (visB n4 [(aQ,aS,true),(aO,aQ,true),(aM,aO,true),(aK,aM,true),(aI,aK,true),(aG,aI,true),(n8,aG,true),(n6,n8,true),(n4,n6,true)]) (callV (cfg G) call 240 [aN,aR])).bind fun aT =>
 getN.bind fun aU =>
 (sliceV 1 2 [(V.int .i64 0)] [(0,aJ),(1,aT)]).bind fun aV =>
 getN.bind fun aW =>
 (qrun (visB n4 [(aU,aW,true),(aS,aU,true),(aQ,aS,true),(aO,aQ,true),(aM,aO,true),(aK,aM,true),(aI,aK,true),(aG,aI,true),(n8,aG,true),(n6,n8,true),(n4,n6,true)]) (callV (cfg G) call 239 [aV])).bind fun aX =>
 (M.ret aX).bind fun aY =>
 M.ret (Ex.ret,[aY]))
theorem ferry_timer_compare_eq (G:GV) (n:Nat) (x0:V) (x1:V):sem (cfg G) (n + 1) 201 [x0,x1] = outV (ferry_timer_compare G (sem (cfg G) n) x0 x1) :=
 (fnV_at (C:=cfg G) (n:=n) (f:=201) (fn:=Tryz.f201) (c:=Tryz.f201.body.getD .skip) (by kernel_rfl) (by kernel_rfl) (by kernel_rfl) [x0,x1]).trans (by kernel_rfl)
noncomputable def cmp_Compare_int (G:GV) (call:CV) (x0:V) (x1:V):M R :=
 (M.ret (V.int .i64 0)).bind fun aA =>
 (M.ret x0).bind fun aB =>
 (callV (cfg G) call 257 [aB]).bind fun aC =>
 (M.ret aC).bind fun aD =>
 (M.ret x1).bind fun aE =>
 (callV (cfg G) call 257 [aE]).bind fun aF =>
 (M.ret aF).bind fun aG =>
 (M.ret aD).bind fun aH =>
 (condV aH
 ((M.ret aG).bind fun aI =>
 (condV aI
 ((M.ret (V.int .i64 0)).bind fun aJ =>
 M.ret (Ex.ret,[aJ]))
 ((M.ret (V.int .i64 (-1))).bind fun aK =>
 M.ret (Ex.ret,[aK]))))
 ((M.ret aG).bind fun aL =>
 (condV aL
 ((M.ret (V.int .i64 1)).bind fun aM =>
 M.ret (Ex.ret,[aM]))
 ((M.ret x0).bind fun aN =>
 (M.ret x1).bind fun aO =>
 (M.lift (arithV .lss aN aO)).bind fun aP =>
 (condV aP
 ((M.ret (V.int .i64 (-1))).bind fun aQ =>
 M.ret (Ex.ret,[aQ]))
 ((M.ret x0).bind fun aR =>
 (M.ret x1).bind fun aS =>
 (M.lift (arithV .gtr aR aS)).bind fun aT =>
 (condV aT
 ((M.ret (V.int .i64 1)).bind fun aU =>
 M.ret (Ex.ret,[aU]))
 ((M.ret (V.int .i64 0)).bind fun aV =>
 M.ret (Ex.ret,[aV])))))))))
theorem cmp_Compare_int_eq (G:GV) (n:Nat) (x0:V) (x1:V):sem (cfg G) (n + 1) 240 [x0,x1] = outV (cmp_Compare_int G (sem (cfg G) n) x0 x1) :=
 (fnV_at (C:=cfg G) (n:=n) (f:=240) (fn:=Tryz.f240) (c:=Tryz.f240.body.getD .skip) (by kernel_rfl) (by kernel_rfl) (by kernel_rfl) [x0,x1]).trans (by kernel_rfl)
noncomputable def cmp_Or_int_l1 (G:GV) (call:CV) (aA:V) (aB:V) (aC:V) (aD:List V):M R :=
 (M.lift (arithV .lss (aD.getD 1 V.undef) aA)).bind fun aE =>
 (condV aE
 ((M.lift (idxV 1 aB (aD.getD 1 V.undef))).bind fun aF =>
 (load1 aF).bind fun aG =>
 (M.ret aG).bind fun aH =>
 (M.ret aH).bind fun aI =>
 (M.ret aC).bind fun aJ =>
 (M.lift ((eqV (.sc .int) false aI aJ).bind fun b => some (.bool !b))).bind fun aK =>
 (condV aK
 ((M.ret aH).bind fun aL =>
 (M.ret aL).bind fun aM =>
 M.ret (Ex.ret,[aM,(aD.getD 1 V.undef)]))
 ((M.lift (arithV .add (aD.getD 1 V.undef) (V.int .i64 1))).bind fun aN =>
 (M.ret aN).bind fun aO =>
 M.ret (Ex.normal,[(aD.getD 0 V.undef),aO]))))
 (M.ret ((Ex.exit 0),[(aD.getD 0 V.undef),(aD.getD 1 V.undef)])))
noncomputable def cmp_Or_int (G:GV) (call:CV) (x0:V):M R :=
 (M.ret (V.int .i64 0)).bind fun aA =>
 (M.ret (V.int .i64 0)).bind fun aB =>
 (M.ret x0).bind fun aC =>
 (M.lift (lenV aC)).bind fun aD =>
 (M.ret (V.int .i64 0)).bind fun aE =>
 (loopV (cmp_Or_int_l1 G call aD aC aB) [aA,aE]).bind fun aF => match aF.1 with
 | .normal => M.fail
 | .exit k0_19 =>
 (if k0_19 = 0 then
 (M.ret aB).bind fun aG =>
 (M.ret aG).bind fun aH =>
 M.ret (Ex.ret,[aH])
 else M.fail)
 | .ret =>
 M.ret (Ex.ret,[(aF.2.getD 0 V.undef)])
theorem cmp_Or_int_eq (G:GV) (n:Nat) (x0:V):sem (cfg G) (n + 1) 239 [x0] = outV (cmp_Or_int G (sem (cfg G) n) x0) :=
 (fnV_at (C:=cfg G) (n:=n) (f:=239) (fn:=Tryz.f239) (c:=Tryz.f239.body.getD .skip) (by kernel_rfl) (by kernel_rfl) (by kernel_rfl) [x0]).trans (by kernel_rfl)
noncomputable def cmp_isNaN_int (G:GV) (call:CV) (x0:V):M R :=
 (M.ret (V.bool false)).bind fun aA =>
 (M.ret x0).bind fun aB =>
 (M.ret x0).bind fun aC =>
 (M.lift ((eqV (.sc .int) false aB aC).bind fun b => some (.bool !b))).bind fun aD =>
 (M.ret aD).bind fun aE =>
 M.ret (Ex.ret,[aE])
theorem cmp_isNaN_int_eq (G:GV) (n:Nat) (x0:V):sem (cfg G) (n + 1) 257 [x0] = outV (cmp_isNaN_int G (sem (cfg G) n) x0) :=
 (fnV_at (C:=cfg G) (n:=n) (f:=257) (fn:=Tryz.f257) (c:=Tryz.f257.body.getD .skip) (by kernel_rfl) (by kernel_rfl) (by kernel_rfl) [x0]).trans (by kernel_rfl)
noncomputable def ferry_timer_Find_l1 (G:GV) (call:CV) (aA:V) (aB:V) (x1:V) (aC:List V):M R :=
 (M.lift (arithV .lss (aC.getD 2 V.undef) aA)).bind fun aD =>
 (condV aD
 ((M.lift (idxV 2 aB (aC.getD 2 V.undef))).bind fun aE =>
 (loadN 2 aE).bind fun aF =>
 (newV (.agg [(V.int .i64 0),(V.int .i64 0)])).bind fun aG =>
 (storeN 2 aG aF).bind fun _ =>
 (M.lift (padd 0 aG)).bind fun aH =>
 (load1 aH).bind fun aI =>
 (M.ret x1).bind fun aJ =>
 (M.lift ((eqV (.sc .int) false aI aJ).bind fun b => some (.bool b))).bind fun aK =>
 (condV aK
 ((M.lift (padd 1 aG)).bind fun aL =>
 (load1 aL).bind fun aM =>
 (M.ret aM).bind fun aN =>
 (M.ret (V.bool true)).bind fun aO =>
 M.ret (Ex.ret,[aN,aO,(aC.getD 2 V.undef)]))
 ((M.lift (arithV .add (aC.getD 2 V.undef) (V.int .i64 1))).bind fun aP =>
 (M.ret aP).bind fun aQ =>
 M.ret (Ex.normal,[(aC.getD 0 V.undef),(aC.getD 1 V.undef),aQ]))))
 (M.ret ((Ex.exit 0),[(aC.getD 0 V.undef),(aC.getD 1 V.undef),(aC.getD 2 V.undef)])))
noncomputable def ferry_timer_Find (G:GV) (call:CV) (x0:V) (x1:V):M R :=
 (M.ret (V.int .i64 0)).bind fun aA =>
 (M.ret (V.bool false)).bind fun aB =>
 (M.ret x0).bind fun aC =>
 (M.lift (lenV aC)).bind fun aD =>
 (M.ret (V.int .i64 0)).bind fun aE =>
 (loopV (ferry_timer_Find_l1 G call aD aC x1) [aA,aB,aE]).bind fun aF => match aF.1 with
 | .normal => M.fail
 | .exit k0_22 =>
 (if k0_22 = 0 then
 (M.ret (V.int .i64 0)).bind fun aG =>
 (M.ret (V.bool false)).bind fun aH =>
 M.ret (Ex.ret,[V.tuple [aG,aH]])
 else M.fail)
 | .ret =>
 M.ret (Ex.ret,[V.tuple [(aF.2.getD 0 V.undef),(aF.2.getD 1 V.undef)]])
theorem ferry_timer_Find_eq (G:GV) (n:Nat) (x0:V) (x1:V):sem (cfg G) (n + 1) 203 [x0,x1] = outV (ferry_timer_Find G (sem (cfg G) n) x0 x1) :=
 (fnV_at (C:=cfg G) (n:=n) (f:=203) (fn:=Tryz.f203) (c:=Tryz.f203.body.getD .skip) (by kernel_rfl) (by kernel_rfl) (by kernel_rfl) [x0,x1]).trans (by kernel_rfl)
noncomputable def ferry_ready_goodProc (G:GV) (call:CV) (x0:V):M R :=
 (newV x0).bind fun aA =>
 (M.ret (V.bool false)).bind fun aB =>
 (M.lift (padd 0 aA)).bind fun aC =>
 (M.lift (aidxV 16 1 aC (V.int .i64 0))).bind fun aD =>
 (load1 aD).bind fun aE =>
 (M.lift ((eqV (.sc .int) true aE (V.int .u32 0)).bind fun b => some (.bool !b))).bind fun aF =>
 (M.ret aF).bind fun aG =>
 (guardV aG false (M.lift (padd 17 aA))).bind fun aH =>
 (guardV aG false (load1 aH)).bind fun aI =>
 (guardV aG false (M.lift (arithV .lss aI (V.int .i64 0)))).bind fun aJ =>
 (M.lift (pickV aG (V.bool true) aJ)).bind fun aK =>
 (M.ret aK).bind fun aL =>
 (guardV aL false (M.lift (padd 17 aA))).bind fun aM =>
 (guardV aL false (load1 aM)).bind fun aN =>
 (guardV aL false (M.lift (arithV .gtr aN (V.int .i64 3)))).bind fun aO =>
 (M.lift (pickV aL (V.bool true) aO)).bind fun aP =>
 (M.ret aP).bind fun aQ =>
 (guardV aQ false (M.lift (padd 18 aA))).bind fun aR =>
 (guardV aQ false (load1 aR)).bind fun aS =>
 (guardV aQ false (M.lift (arithV .lss aS (V.int .i64 0)))).bind fun aT =>
 (M.lift (pickV aQ (V.bool true) aT)).bind fun aU =>
 (M.ret aU).bind fun aV =>
 (guardV aV false (M.lift (padd 18 aA))).bind fun aW =>
 (guardV aV false (load1 aW)).bind fun aX =>
 (guardV aV false (M.lift (arithV .gtr aX (V.int .i64 255)))).bind fun aY =>
 (M.lift (pickV aV (V.bool true) aY)).bind fun aZ =>
 (M.ret aZ).bind fun bA =>
 (condV bA
 ((M.ret (V.bool false)).bind fun bB =>
 M.ret (Ex.ret,[bB]))
 ((M.lift (padd 19 aA)).bind fun bC =>
 (load1 bC).bind fun bD =>
 (M.lift (arithV .lss bD (V.int .i64 0))).bind fun bE =>
 (M.ret bE).bind fun bF =>
 (guardV bF false (M.lift (padd 19 aA))).bind fun bG =>
 (guardV bF false (load1 bG)).bind fun bH =>
 (guardV bF false (M.lift (arithV .gtr bH (V.int .i64 4)))).bind fun bI =>
 (M.lift (pickV bF (V.bool true) bI)).bind fun bJ =>
 (M.ret bJ).bind fun bK =>
 (guardV bK false (M.lift (padd 19 aA))).bind fun bL =>
 (guardV bK false (load1 bL)).bind fun bM =>
 (guardV bK false (M.lift ((eqV (.sc .int) true bM (V.int .i64 0)).bind fun b => some (.bool !b)))).bind fun bN =>
 (guardV bK false (M.lift (padd 17 aA))).bind fun bO =>
 (guardV bK false (load1 bO)).bind fun bP =>
 (guardV bK false (M.lift ((eqV (.sc .int) true bP (V.int .i64 2)).bind fun b => some (.bool b)))).bind fun bQ =>
 (guardV bK false (M.lift ((eqV (.sc .bool) false bN bQ).bind fun b => some (.bool !b)))).bind fun bR =>
 (M.lift (pickV bK (V.bool true) bR)).bind fun bS =>
 (M.ret bS).bind fun bT =>
 (guardV bT false (M.lift (padd 20 aA))).bind fun bU =>
 (guardV bT false (load1 bU)).bind fun bV =>
 (guardV bT false (M.lift (arithV .lss bV (V.int .i64 0)))).bind fun bW =>
 (M.lift (pickV bT (V.bool true) bW)).bind fun bX =>
 (M.ret bX).bind fun bY =>
 (condV bY
 ((M.ret (V.bool false)).bind fun bZ =>
 M.ret (Ex.ret,[bZ]))
 ((M.lift (padd 20 aA)).bind fun cA =>
 (load1 cA).bind fun cB =>
 (M.lift ((eqV (.sc .int) true cB (V.int .i64 0)).bind fun b => some (.bool b))).bind fun cC =>
 (M.ret cC).bind fun cD =>
 (guardV cD false (M.lift (padd 19 aA))).bind fun cE =>
 (guardV cD false (load1 cE)).bind fun cF =>
 (guardV cD false (M.lift ((eqV (.sc .int) true cF (V.int .i64 0)).bind fun b => some (.bool !b)))).bind fun cG =>
 (guardV cD false (M.ret cG)).bind fun cH =>
 (guardV cH true (M.lift (padd 19 aA))).bind fun cI =>
 (guardV cH true (load1 cI)).bind fun cJ =>
 (guardV cH true (M.lift ((eqV (.sc .int) true cJ (V.int .i64 1)).bind fun b => some (.bool !b)))).bind fun cK =>
 (guardV cD false (M.lift (pickV cH cK (V.bool false)))).bind fun cL =>
 (M.lift (pickV cD (V.bool true) cL)).bind fun cM =>
 (M.ret cM).bind fun cN =>
 M.ret (Ex.ret,[cN])))))
theorem ferry_ready_goodProc_eq (G:GV) (n:Nat) (x0:V):sem (cfg G) (n + 1) 204 [x0] = outV (ferry_ready_goodProc G (sem (cfg G) n) x0) :=
 (fnV_at (C:=cfg G) (n:=n) (f:=204) (fn:=Tryz.f204) (c:=Tryz.f204.body.getD .skip) (by kernel_rfl) (by kernel_rfl) (by kernel_rfl) [x0]).trans (by kernel_rfl)
noncomputable def ferry_ready_goodQueue_l1 (G:GV) (call:CV) (aA:V) (aB:V) (aC:V) (aD:V) (aE:List V):M R :=
 (M.lift (arithV .lss (aE.getD 1 V.undef) aA)).bind fun aF =>
 (condV aF
 ((M.lift (idxV 1 aB (aE.getD 1 V.undef))).bind fun aG =>
 (load1 aG).bind fun aH =>
 (M.ret aH).bind fun aI =>
 (M.ret aI).bind fun aJ =>
 (M.lift (arithV .lss aJ (V.int .i64 0))).bind fun aK =>
 (M.ret aK).bind fun aL =>
 (guardV aL false (M.ret aI)).bind fun aM =>
 (guardV aL false (M.lift (padd 0 aC))).bind fun aN =>
 (guardV aL false (load1 aN)).bind fun aO =>
 (guardV aL false (M.lift (lenV aO))).bind fun aP =>
 (guardV aL false (M.lift (arithV .geq aM aP))).bind fun aQ =>
 (M.lift (pickV aL (V.bool true) aQ)).bind fun aR =>
 (M.ret aR).bind fun aS =>
 (guardV aS false (M.ret aI)).bind fun aT =>
 (guardV aS false (M.lift (aidxV 8 1 aD aT))).bind fun aU =>
 (guardV aS false (load1 aU)).bind fun aV =>
 (M.lift (pickV aS (V.bool true) aV)).bind fun aW =>
 (M.ret aW).bind fun aX =>
 (guardV aX false (M.lift (padd 0 aC))).bind fun aY =>
 (guardV aX false (load1 aY)).bind fun aZ =>
 (guardV aX false (M.ret aI)).bind fun bA =>
 (guardV aX false (M.lift (idxV 21 aZ bA))).bind fun bB =>
 (guardV aX false (M.lift (padd 17 bB))).bind fun bC =>
 (guardV aX false (load1 bC)).bind fun bD =>
 (guardV aX false (M.lift ((eqV (.sc .int) true bD (V.int .i64 1)).bind fun b => some (.bool !b)))).bind fun bE =>
 (M.lift (pickV aX (V.bool true) bE)).bind fun bF =>
 (condV bF
 ((M.ret (V.bool false)).bind fun bG =>
 M.ret (Ex.ret,[bG,(aE.getD 1 V.undef)]))
 ((M.ret aI).bind fun bH =>
 (M.lift (aidxV 8 1 aD bH)).bind fun bI =>
 (storeN 1 bI (V.bool true)).bind fun _ =>
 (M.lift (arithV .add (aE.getD 1 V.undef) (V.int .i64 1))).bind fun bJ =>
 (M.ret bJ).bind fun bK =>
 M.ret (Ex.normal,[(aE.getD 0 V.undef),bK]))))
 (M.ret ((Ex.exit 0),[(aE.getD 0 V.undef),(aE.getD 1 V.undef)])))
noncomputable def ferry_ready_goodQueue_l2 (G:GV) (call:CV) (aA:V) (aB:V) (aC:V) (aD:List V):M R :=
 (M.lift (arithV .lss (aD.getD 1 V.undef) aA)).bind fun aE =>
 (condV aE
 ((M.ret (aD.getD 1 V.undef)).bind fun aF =>
 (M.lift (idxV 21 aB (aD.getD 1 V.undef))).bind fun aG =>
 (loadN 21 aG).bind fun aH =>
 (newV (.agg [(V.int .u32 0),(V.int .u32 0),(V.int .u32 0),(V.int .u32 0),(V.int .u32 0),(V.int .u32 0),(V.int .u32 0),(V.int .u32 0),(V.int .u32 0),(V.int .u32 0),(V.int .u32 0),(V.int .u32 0),(V.int .u32 0),(V.int .u32 0),(V.int .u32 0),(V.int .u32 0),(V.int .u32 0),(V.int .i64 0),(V.int .i64 0),(V.int .i64 0),(V.int .i64 0)])).bind fun aI =>
 (M.ret aF).bind fun aJ =>
 (storeN 21 aI aH).bind fun _ =>
 (M.lift (padd 17 aI)).bind fun aK =>
 (load1 aK).bind fun aL =>
 (M.lift ((eqV (.sc .int) true aL (V.int .i64 1)).bind fun b => some (.bool b))).bind fun aM =>
 (M.ret aM).bind fun aN =>
 (guardV aN true (M.ret aJ)).bind fun aO =>
 (guardV aN true (M.lift (aidxV 8 1 aC aO))).bind fun aP =>
 (guardV aN true (load1 aP)).bind fun aQ =>
 (guardV aN true (M.lift (unV .not aQ))).bind fun aR =>
 (M.lift (pickV aN aR (V.bool false))).bind fun aS =>
 (condV aS
 ((M.ret (V.bool false)).bind fun aT =>
 M.ret (Ex.ret,[aT,(aD.getD 1 V.undef)]))
 ((M.lift (arithV .add (aD.getD 1 V.undef) (V.int .i64 1))).bind fun aU =>
 (M.ret aU).bind fun aV =>
 M.ret (Ex.normal,[(aD.getD 0 V.undef),aV]))))
 (M.ret ((Ex.exit 2),[(aD.getD 0 V.undef),(aD.getD 1 V.undef)])))
noncomputable def ferry_ready_goodQueue (G:GV) (call:CV) (x0:V):M R :=
 (newV x0).bind fun aA =>
 (M.ret (V.bool false)).bind fun aB =>
 (newV (.agg [(V.bool false),(V.bool false),(V.bool false),(V.bool false),(V.bool false),(V.bool false),(V.bool false),(V.bool false)])).bind fun aC =>
 (M.lift (padd 1 aA)).bind fun aD =>
 (load1 aD).bind fun aE =>
 (M.lift (lenV aE)).bind fun aF =>
 (M.ret (V.int .i64 0)).bind fun aG =>
 (loopV (ferry_ready_goodQueue_l1 G call aF aE aA aC) [aB,aG]).bind fun aH => match aH.1 with
 | .normal => M.fail
 | .exit k0_42 =>
 (if k0_42 = 0 then
 (M.lift (padd 0 aA)).bind fun aI =>
 (load1 aI).bind fun aJ =>
 (M.lift (lenV aJ)).bind fun aK =>
 (M.ret (V.int .i64 0)).bind fun aL =>
 (loopV (ferry_ready_goodQueue_l2 G call aK aJ aC) [(aH.2.getD 0 V.undef),aL]).bind fun aM => match aM.1 with
 | .normal => M.fail
 | .exit k0_67 =>
 (if k0_67 = 2 then
 (M.ret (V.bool true)).bind fun aN =>
 M.ret (Ex.ret,[aN])
 else M.fail)
 | .ret =>
 M.ret (Ex.ret,[(aM.2.getD 0 V.undef)])
 else M.fail)
 | .ret =>
 M.ret (Ex.ret,[(aH.2.getD 0 V.undef)])
theorem ferry_ready_goodQueue_eq (G:GV) (n:Nat) (x0:V):sem (cfg G) (n + 1) 205 [x0] = outV (ferry_ready_goodQueue G (sem (cfg G) n) x0) :=
 (fnV_at (C:=cfg G) (n:=n) (f:=205) (fn:=Tryz.f205) (c:=Tryz.f205.body.getD .skip) (by kernel_rfl) (by kernel_rfl) (by kernel_rfl) [x0]).trans (by kernel_rfl)
end Go.Fv.Tr

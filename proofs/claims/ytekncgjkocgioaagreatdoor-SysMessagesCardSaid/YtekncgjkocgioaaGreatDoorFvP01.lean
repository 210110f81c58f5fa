/-
  From the program's functions to shallow terms. By an AI agent; no person has read it.
-/
import Derived.Test.YtekncgjkocgioaaGreatDoorFvP00
import Derived.KernelRfl
import Derived.Test.YtekncgjkocgioaaGreatDoorProg
set_option linter.unusedVariables false
set_option linter.unusedSimpArgs false
set_option linter.unusedSectionVars false
/-! From the program's functions to shallow terms. -/
namespace Go.Fv
open Go
theorem fnV_at {C : Cfg} {n : Nat} {f : FuncId} {fn : Func} {c : Code} (hf : C.P.funcs[f]? = some fn) (hb : fn.body = some c) (hn : decide (fn.name = "runtime.NumGoroutine") = false) (args : List V) :
  sem C (n + 1) f args = bodyV C (sem C n) fn c args:=by
 show fnV C (sem C n) f args = _
 unfold fnV
 rw [hf]
 simp only
 rw [hb]
 simp only
 rw [if_neg (of_decide_eq_false hn)]
section
variable {α β γ:Type}
def getN:M Nat:=fun h => some (h.next,h)
def guardM (c:Bool) (m:M α):M α:=fun h => if c = true then m h else none
theorem iter_det (F : List V → M R) : ∀ n m s h r r', iter F n s h = some r → iter F m s h = some r' → r = r'
  | 0,_,_,_,_,_,h,_ => by cases h
  | _ + 1,0,_,_,_,_,_,h => by cases h
  | n + 1, m + 1, s, h, r, r', h1, h2 => by
    simp only [iter,M.bind] at h1 h2
    cases hF:F s h with
    | none => rw [hF] at h1; cases h1
    | some x =>
      rw [hF] at h1 h2
      simp only [Option.bind_some] at h1 h2
      obtain ⟨⟨e,s'⟩,h'⟩:=x
      cases e with
      | normal => exact iter_det F n m s' h' r r' h1 h2
      | exit j => exact Option.some.inj (h1.symm.trans h2)
      | ret => exact Option.some.inj (h1.symm.trans h2)
theorem loopV_of {F:List V → M R} {n:Nat} {s:List V} {h:Heap} {r:R × Heap} (hi:iter F n s h = some r):loopV F s h = some r:=by
 unfold loopV
 have hx:∃ n r,iter F n s h = some r:=⟨n,r,hi⟩
 rw [dif_pos hx]
 exact congrArg some (iter_det F _ _ _ _ _ _ hx.choose_spec.choose_spec hi)
theorem iter_of {F:List V → M R} {s:List V} {h:Heap} {r:R × Heap} (hl:loopV F s h = some r):∃ n,iter F n s h = some r:=by
 unfold loopV at hl
 split at hl
 ·rename_i hx
  have:=hx.choose_spec.choose_spec
  injection hl with hl
  exact ⟨_,this.trans (by rw [hl])⟩
 ·cases hl
theorem loopV_next {F : List V → M R} {s s' : List V} {h h' : Heap} (hF : F s h = some ((.normal, s'), h')) : loopV F s h = loopV F s' h' := by
  have step : ∀ n, iter F (n + 1) s h = iter F n s' h' := fun n => by
    simp only [iter,M.bind,hF,Option.bind_some]
  cases hl:loopV F s' h' with
  | some r =>
    obtain ⟨n,hn⟩:=iter_of hl
    exact loopV_of ((step n).trans hn)
  | none =>
    cases hl2:loopV F s h with
    | none => rfl
    | some r =>
      obtain ⟨n,hn⟩:=iter_of hl2
      cases n with
      | zero => cases hn
      | succ n => rw [step n] at hn; rw [loopV_of hn] at hl; cases hl
theorem loopV_exit {F:List V → M R} {s s':List V} {h h':Heap} {j:Nat} (hF:F s h = some ((.exit j,s'),h')):loopV F s h = some ((.exit j,s'),h') :=
 loopV_of (n:=1) (by simp only [iter,M.bind,hF,Option.bind_some,M.ret])
theorem loopV_ret {F:List V → M R} {s s':List V} {h h':Heap} (hF:F s h = some ((.ret,s'),h')):loopV F s h = some ((.ret,s'),h') :=
 loopV_of (n:=1) (by simp only [iter,M.bind,hF,Option.bind_some,M.ret])
end
end Go.Fv
namespace Go.Fv.Tr
open Go Go.Fv Go.Proofs
def pures:List Nat:=[196,207,162,163,177,173,164,104,165,36,37,80,240,239,257,25,8,20,23,38,21,22,190,187,123,234,184,232,233,125,243,185,119,114,106,66,110,115,113,182,120,117,105,181,231,180,107,230,183,147,101,211,216,217,212,214,213,215,16,62,19,245,30,102,154,218,244,34,219,220,221,222,223,224,225,148,149,150,151,152,153,116,238,255,256,18,33,13,61,28,103,226,227,155,156,157,141,208,100,246,209,242,142,146,143,95,90,137,86,135,91,88,139,96,92,84,204,205,194,235,202,203,136,201,197,198,236,17,63,158,179,160,31,175]
def owns:List Nat:=[138,9,11,14,188,122,189,121,124,191,186,111,108,109,15,64,24,29,12,98,99,145,144,132,133,59,54,56,57,55,60,10,199,27]
def exts:List Nat:=[]
def seens:List Nat:=[79]
def efs:List Nat:=[81]
def kindOf (f:FuncId):Kind:=if exts.contains f then .ext else if seens.contains f then .exts else if efs.contains f then .extm else if pures.contains f then .pure else if owns.contains f then .own else .inl
def sentOf (G:GV) (k:Nat):Bool:=match G k with
 | some [.iface 315 (.ext j)] => j == k
 | _ => false
def sentL:List Nat:=[0,1,2,3,4,5,6,7,8,9,10,11,12,13,14,15,16,17,18,19]
def isSent (g:Nat):Bool:=sentL.contains g
def handOf (G:GV):Bool:=match G 20 with
 | some [] => true
 | _ => false
def isX (G:GV):List V → Option V
 | [.nili,.iface 315 (.ext _)] => some (.bool false)
 | [.iface 315 (.ext i),.iface 315 (.ext j)] => if i == j then some (.bool true) else if sentOf G i && sentOf G j then some (.bool false) else none
 | [.iface 127 (.iptr [_,.iface 315 (.ext i)] 0),.iface 315 (.ext j)] => if i == j then some (.bool true) else if sentOf G i && sentOf G j then some (.bool false) else none
 | _ => none
def asX (G:GV):List V → Option V
 | [.nili,.iface 143 (.ptr _ _ _)] => some (.bool false)
 | [.iface 315 (.ext _),.iface 143 (.ptr _ _ _)] => if handOf G then some (.bool false) else none
 | _ => none
def asY (G:GV):List V → M V
 | [.nili,.iface 143 (.ptr _ _ _)] => M.ret (.bool false)
 | [.iface 315 (.ext _),.iface 143 (.ptr _ _ _)] => if handOf G then M.ret (.bool false) else M.fail
 | [.iface 127 (.ptr a b c),.iface 143 (.ptr l i o)] => if handOf G then (storeN 1 (.ptr l i o) (.ptr a b c)).bind fun _ => M.ret (.bool true) else M.fail
 | [.iface 127 (.iptr r c),.iface 143 (.ptr l i o)] => if handOf G then (storeN 1 (.ptr l i o) (.iptr r c)).bind fun _ => M.ret (.bool true) else M.fail
 | _ => M.fail
def extY (G:GV) (f:FuncId) (args:List V):M V:=if f = 81 then asY G args else M.fail
def extX (G:GV) (f:FuncId) (args:List V):Option V:=if f = 79 then isX G args else if f = 81 then asX G args else none
noncomputable def cfg (G:GV):Cfg :=
 { P:=Tryz.prog,G:=G,kind:=kindOf,X:=extX G,S:=sentOf G,Z:=fun g => if g = 20 ∧ handOf G = true then some (.iface 248 (.agg #[.pointer (some ⟨21,50,none⟩)])) else none,Y:=extY G }
end Go.Fv.Tr
namespace Go.Fv
open Go
noncomputable def runDrawnM (C:Cfg) (call:CV) (ops:Array Oper) (n0:Nat) (l:List Oper):Nat → Nat → List (Nat × Nat × Nat × V) → Env → (Env → M R) → M R :=
 List.rec (motive:=fun _ => Nat → Nat → List (Nat × Nat × Nat × V) → Env → (Env → M R) → M R) (fun _ _ _ env K => K env)
  (fun o _ ih i n bs env K =>
   List.rec (motive:=fun _ => M R → M R) (fun m => m) (fun k l _ m => guardM ((k :: l).all fun k => apartV (ptrAt bs k) (ptrOf C env o.op)) m) (conf ops i)
    ((stepD C call ops n0 i bs env o).bind fun v => getN.bind fun n' => ih (i + 1) n' ((i,n,n',ptrOf C env o.op) :: bs) (put env o.dst v) K)) l
theorem runDrawnM_eq {C : Cfg} {call : FuncId → List V → M V} {ops : Array Oper} {n0 : Nat} : ∀ (l : List Oper) (i : Nat) (bs : List (Nat × Nat × Nat × V)) (env : Env) (K : Env → M R) (h : Heap),
    runDrawnM C call ops n0 l i h.next bs env K h = runDrawn C call ops n0 l i bs env K h
  | [],_,_,_,_,_ => rfl
  | o :: l, i, bs, env, K, h => by
    have e0 : ((stepD C call ops n0 i bs env o).bind fun v => getN.bind fun n' => runDrawnM C call ops n0 l (i + 1) n' ((i, h.next, n', ptrOf C env o.op) :: bs) (put env o.dst v) K) h =
        (stepD C call ops n0 i bs env o h).bind fun x => runDrawn C call ops n0 l (i + 1) ((i,h.next,x.2.next,ptrOf C env o.op) :: bs) (put env o.dst x.1) K x.2:=by
      show (stepD C call ops n0 i bs env o h).bind (fun x => runDrawnM C call ops n0 l (i + 1) x.2.next ((i,h.next,x.2.next,ptrOf C env o.op) :: bs) (put env o.dst x.1) K x.2) = _
      congr 1
      funext x
      exact runDrawnM_eq l _ _ _ _ _
    show List.rec (motive := fun _ => M R → M R) (fun m => m) (fun k l _ m => guardM ((k :: l).all fun k => apartV (ptrAt bs k) (ptrOf C env o.op)) m) (conf ops i)
        ((stepD C call ops n0 i bs env o).bind fun v => getN.bind fun n' => runDrawnM C call ops n0 l (i + 1) n' ((i,h.next,n',ptrOf C env o.op) :: bs) (put env o.dst v) K) h =
      if (conf ops i).all fun k => apartV (ptrAt bs k) (ptrOf C env o.op) then
        (stepD C call ops n0 i bs env o h).bind fun x => runDrawn C call ops n0 l (i + 1) ((i,h.next,x.2.next,ptrOf C env o.op) :: bs) (put env o.dst x.1) K x.2
      else none
    rw [← e0]
    cases conf ops i with
    | nil => rfl
    | cons k ks => rfl
noncomputable def runKM (C:Cfg) (call:CV) (T:List Nat) (c:Code):Env → (Ex → Env → M R) → M R :=
 Code.rec (motive:=fun _ => Env → (Ex → Env → M R) → M R)
  (fun env K => K .normal env)
  (fun _ ops draw env K => match draw with
   | false => runOps C call ops ops.toList env (K .normal)
   | true => if orderOk ops then getN.bind fun n => runDrawnM C call ops n ops.toList 0 n [] env (K .normal) else M.fail)
  (fun _ _ ra rb env K => ra env (onNormal (fun env' => rb env' K) K))
  (fun c _ _ ra rb env K => condV (ev C env c) (ra env K) (rb env K))
  (fun id _ rc env K => rc env (onBlock id K))
  (fun c rc env K => (loopV (fun s => rc (restore env (carried T c) (allDsts c) s) fun e env' => M.ret (e,(carried T c).map env')) ((carried T c).map env)).bind
   (onLoop K env (carried T c) (allDsts c)))
  (fun _ _ _ _ _ _ _ _ => M.fail)
  (fun id env K => K (.exit id) env)
  (fun _ _ _ _ => M.fail)
  (fun _ env K => K .normal env)
  (fun _ _ _ => M.fail)
  (fun env K => K .ret env)
  (fun _ _ _ => M.fail)
  c
theorem runKM_eq {C : Cfg} {call : FuncId → List V → M V} {T : List Nat} (c : Code) : runKM C call T c = runK C call T c := by
  induction c with
  | region id ops draw =>
    cases draw with
    | false => rfl
    | true =>
      funext env K
      show (if orderOk ops then getN.bind fun n => runDrawnM C call ops n ops.toList 0 n [] env (K .normal) else M.fail) = if orderOk ops then fun h => runDrawn C call ops h.next ops.toList 0 [] env (K .normal) h else M.fail
      have hx : (getN.bind fun n => runDrawnM C call ops n ops.toList 0 n [] env (K .normal)) = fun h => runDrawn C call ops h.next ops.toList 0 [] env (K .normal) h := by
        funext h
        exact runDrawnM_eq _ _ _ _ _ _
      exact congrArg (fun m:M R => if orderOk ops then m else M.fail) hx
  | seq a b ha hb =>
    have e:runKM C call T (.seq a b) = fun env K => runKM C call T a env (onNormal (fun env' => runKM C call T b env' K) K):=rfl
    rw [e,ha,hb]; rfl
  | cond v a b ha hb =>
    have e:runKM C call T (.cond v a b) = fun env K => condV (ev C env v) (runKM C call T a env K) (runKM C call T b env K):=rfl
    rw [e,ha,hb]; rfl
  | block id a ha =>
    have e:runKM C call T (.block id a) = fun env K => runKM C call T a env (onBlock id K):=rfl
    rw [e,ha]; rfl
  | loop a ha =>
    have e : runKM C call T (.loop a) = fun env K => (loopV (fun s => runKM C call T a (restore env (carried T a) (allDsts a) s) fun e env' => M.ret (e, (carried T a).map env')) ((carried T a).map env)).bind
      (onLoop K env (carried T a) (allDsts a)):=rfl
    rw [e,ha]; rfl
  | _ => rfl
noncomputable def bodyVM (C:Cfg) (call:CV) (fn:Func) (c:Code) (args:List V):M V :=
 if okFn fn c then (runKM C call (reads c ++ fn.results.toList.map fun | .tmp t => t | .cell a _ => a) c (fun t => args.getD t .undef) (finish C.P fn)).bind fun r => M.ret (r.2.getD 0 .undef) else M.fail
theorem fnV_atM {C : Cfg} {n : Nat} {f : FuncId} {fn : Func} {c : Code} (hf : C.P.funcs[f]? = some fn) (hb : fn.body = some c) (hn : decide (fn.name = "runtime.NumGoroutine") = false) (args : List V) :
  sem C (n + 1) f args = bodyVM C (sem C n) fn c args:=by
 rw [fnV_at hf hb hn args]
 unfold bodyVM bodyV
 rw [runKM_eq]
 rfl
end Go.Fv
namespace Go.Fv.Tr
open Go Go.Fv Go.Proofs
set_option maxRecDepth 20000
end Go.Fv.Tr

/-
  What Yield answers. By an AI agent; no person has read it.
-/
import Derived.Test.YtekncgjkocgioaaGreatDoorFvP25
set_option linter.unusedVariables false
set_option linter.unusedSimpArgs false
set_option linter.unusedSectionVars false
/-! What Yield answers. -/
namespace Go.Fv.Tr
open Go Go.Fv Go.Fv.Pl Go.Proofs
variable {G:GV}
theorem leave_spec (n:Nat) {H:Heap} {l s:Nat} {x y z:V} {t:Tab} (hb:H.blk l = some ⟨s,[[x,y,z]]⟩) (h:OwnTab H x y z t) (hl:H.floor ≤ l) (hln:l < H.next) (hlx:loc x ≠ some l) (hly:loc y ≠ some l) (hlz:loc z ≠ some l) (hq:t.q.length < big) (p:Int) :
  Run (callV (cfg G) (sem (cfg G) (n + 4)) 134 [.ptr l 0 0,.int .i64 p]) H fun _ H' => ∃ y',H'.blk l = some ⟨s,[[x,y',z]]⟩ ∧ OwnTab H' x y' z { t with q:=t.q.filter (· ≠ p) } ∧
   Frame H H' (fun k => k = l ∨ loc y = some k) ∧ ∀ k,loc y' = some k → loc y = some k:=by
 rw [callV_inl rfl,ferry_ready_Table_leave_eq]
 have n1:¬ l = H.next:=by omega
 simp only [ferry_ready_Table_leave]
 (repeat' (first | (simp only [wp,extractV,w0,reduceIte,Nat.reduceAdd,Nat.reduceLT,Nat.reduceLeDiff,Nat.reduceEqDiff,hb,n1]) | (with_reducible ((first | apply xC | apply xG | apply xQ) <;> intro hb <;> try simp only [hb]))))
 have hF:∀ m,Asks G (n + 1 + m) (.fn 196 [.ptr H.next 0 0]) H.next ⟨1,[[.int .i64 p]]⟩ (fun a => V.int .i64 a) (fun a => decide (a = p)):=fun m => by
  rw [Nat.add_right_comm]; exact leave_asks (n + m) H.next p
 have fr:Frame H (H.add ⟨1,[[.int .i64 p]]⟩) (fun _ => False):=Frame.add _ _
 refine (deleteF_int (n + 1) hF (h.q.frame fr fun _ _ h => h) (Heap.add_new _) (fun e => by have:=h.q.lt e; omega) (Nat.lt_succ_self _) hq).mono fun y' H1 ⟨o,f,ly⟩ => ?_
 have hb1:H1.blk l = some ⟨s,[[x,y,z]]⟩:=(f.old l (by rw [Heap.add_next]; omega) fun e => hly e).trans ((fr.old l hln id).trans hb)
 have e1:H1.floor ≤ l:=by rw [f.floor]; exact hl
 have nx:H.next + 1 ≤ H1.next:=f.next
 (repeat' (first | (simp only [wp,extractV,w0,reduceIte,Nat.reduceAdd,Nat.reduceLT,Nat.reduceLeDiff,Nat.reduceEqDiff,hb1,e1,o.cells]) | (with_reducible ((first | apply xC | apply xG | apply xQ) <;> intro hb <;> try simp only [hb]))))
 have ef:(t.q.filter fun a => !decide (a = p)) = t.q.filter (· ≠ p):=List.filter_congr fun a _ => by simp
 rw [ef] at o
 have ft:Frame H (H1.set l ⟨s,[[x,y',z]]⟩) (fun k => k = l ∨ loc y = some k) :=
  ((fr.mono (fun _ _ h => h.elim)).trans f (fun _ _ h => h) (fun _ _ h => .inr h)).trans (Frame.set _ _ (p:=fun k => k = l) rfl) (fun _ _ h => h) (fun _ _ h => .inl h)
 have hxx:Own (H1.set l ⟨s,[[x,y',z]]⟩) x 21 (t.ps.map prRow):=h.p.frame ft fun k hk g => by
  rcases g with rfl | g
  ·exact hlx hk
  ·exact h.pq k hk g
 have hzz:Own (H1.set l ⟨s,[[x,y',z]]⟩) z 2 (t.ts.map tmRow):=h.s.frame ft fun k hk g => by
  rcases g with rfl | g
  ·exact hlz hk
  ·exact h.qs k g hk
 have hyy:Own (H1.set l ⟨s,[[x,y',z]]⟩) y' 1 ((t.q.filter (· ≠ p)).map intRow):=o.frame (Frame.set _ _ (p:=fun k => k = l) rfl) fun k hk e => hly (by rw [← e]; exact ly k hk)
 exact ⟨y',rfl,⟨hxx,hyy,hzz,fun k h1 h2 => h.pq k h1 (ly k h2),h.ps,fun k h1 h2 => h.qs k (ly k h1) h2⟩,ft,ly⟩
theorem big_of {t:Tab} (h:TabOk t):t.ps.length ≤ big ∧ t.q.length ≤ big ∧ t.ts.length ≤ big:=by
 have:=((ROk_iff t).2 h).few
 unfold big
 omega
theorem thaw_bad (H:Heap) (g:Nat):thawV true H (.tuple [.agg [.nils,.nils,.nils],errV g]) = some (badV g):=rfl
theorem OwnTab.frame {H H':Heap} {x y z:V} {t:Tab} {p:Nat → Prop} (h:OwnTab H x y z t) (f:Frame H H' p) (hp:∀ l,loc x = some l ∨ loc y = some l ∨ loc z = some l → ¬ p l):OwnTab H' x y z t :=
 ⟨h.p.frame f fun l g => hp l (.inl g),h.q.frame f fun l g => hp l (.inr (.inl g)),h.s.frame f fun l g => hp l (.inr (.inr g)),h.pq,h.ps,h.qs⟩
theorem OwnTab.lt {H:Heap} {x y z:V} {t:Tab} (h:OwnTab H x y z t) {l:Nat} (hl:loc x = some l ∨ loc y = some l ∨ loc z = some l):l < H.next:=by
 rcases hl with g | g | g
 ·exact h.p.lt g
 ·exact h.q.lt g
 ·exact h.s.lt g
def Ans (t:Tab) (ok:Prop) (u:Tab) (r:V):Prop :=
 (TabOk t ∧ ok ∧ ∃ a b c,r = .tuple [.agg [a,b,c],.nili] ∧ IsTab a b c u) ∨ (¬ TabOk t ∧ r = badV 2) ∨ (TabOk t ∧ ¬ ok ∧ r = badV 0)
end Go.Fv.Tr
namespace Go.Fv.Tr
open Go Go.Fv Go.Proofs
set_option maxRecDepth 20000
end Go.Fv.Tr
namespace Go.Fv.Tr
open Go Go.Fv Go.Fv.Pl Go.Proofs
variable {G:GV}
instance (t:Tab):Decidable (ROk t):=decidable_of_iff _ (ROk_iff t).symm
end Go.Fv.Tr
namespace Go.Fv.Tr
open Go Go.Fv Go.Fv.Pl Go.Proofs
variable {G:GV}
end Go.Fv.Tr
namespace Go.Fv.Tr
open Go Go.Fv Go.Proofs
set_option maxRecDepth 20000
end Go.Fv.Tr
namespace Go.Fv.Tr
open Go Go.Fv Go.Fv.Pl Go.Proofs
variable {G:GV}
structure AErrs (G:GV):Prop where
 at_:∀ g,isSent g = true → G g = some [errV g]
 hand:G 20 = some []
theorem AErrs.errs (h:AErrs G):Errs G:=⟨h.at_ 2 rfl,h.at_ 16 rfl,h.at_ 0 rfl⟩
theorem iface_ptr {t:TypeId} {l i o:Nat}:ifaceV t (.ptr l i o) = some (.iface t (.ptr l i o)):=rfl
def Num (e:V) (c:Int):Prop:=(e = .nili ∧ c = 0) ∨ (e = errV 2 ∧ c = 9) ∨ (e = errV 16 ∧ c = 17) ∨ (e = errV 0 ∧ c = 12) ∨ (e = errV 6 ∧ c = 4)
theorem Num.closed {e:V} {c:Int} (h:Num e c):e.closedV = true:=by
 rcases h with ⟨rfl,_⟩ | ⟨rfl,_⟩ | ⟨rfl,_⟩ | ⟨rfl,_⟩ | ⟨rfl,_⟩ <;> rfl
end Go.Fv.Tr
namespace Go.Fv.Tr
open Go Go.Fv Go.Fv.Pl Go.Proofs
variable {G:GV}
end Go.Fv.Tr
namespace Go.Fv.Tr
open Go Go.Fv Go.Proofs
set_option maxRecDepth 20000
noncomputable def slices_insertionSortCmpFunc_ferry_api_Timer_l2 (G:GV) (call:CV) (x1:V) (x3:V) (x0:V) (aA:List V):M R :=
 (getN.bind fun aB =>
 (M.ret (aA.getD 0 V.undef)).bind fun aC =>
 getN.bind fun aD =>
 (M.ret x1).bind fun aE =>
 getN.bind fun aF =>
 (M.lift (arithV .gtr aC aE)).bind fun aG =>
 getN.bind fun aH =>
 (M.ret aG).bind fun aI =>
 getN.bind fun aJ =>
 (guardV aI true (M.ret x3)).bind fun aK =>
 getN.bind fun aL =>
 (guardV aI true (M.ret x0)).bind fun aM =>
 getN.bind fun aN =>
 (guardV aI true (M.ret (aA.getD 0 V.undef))).bind fun aO =>
 getN.bind fun aP =>
 (guardV aI true (M.lift (idxV 2 aM aO))).bind fun aQ =>
 getN.bind fun aR =>
 (guardV aI true (loadN 2 aQ)).bind fun aS =>
 getN.bind fun aT =>
 (guardV aI true (M.ret x0)).bind fun aU =>
 getN.bind fun aV =>
 (guardV aI true (M.ret (aA.getD 0 V.undef))).bind fun aW =>
 getN.bind fun aX =>
 (guardV aI true (M.lift (arithV .sub aW (V.int .i64 1)))).bind fun aY =>
 getN.bind fun aZ =>
 (guardV aI true (M.lift (idxV 2 aU aY))).bind fun bA =>
 getN.bind fun bB =>
 (guardV aI true (loadN 2 bA)).bind fun bC =>
 getN.bind fun bD =>
 (qrun (visB aB [(bB,bD,true),(aZ,bB,true),(aX,aZ,true),(aV,aX,true),(aT,aV,true),(aR,aT,true),(aP,aR,true),(aN,aP,true),(aL,aN,true),(aJ,aL,true),(aH,aJ,true),(aF,aH,true),(aD,aF,true),(aB,aD,true)]) (guardV aI true (callFn (cfg G) call aK [aS,bC]))).bind fun bE =>
 (guardV aI true (M.lift (arithV .lss bE (V.int .i64 0)))).bind fun bF =>
 (M.lift (pickV aI bF (V.bool false))).bind fun bG =>
 (condV bG
 (((M.ret x0).bind fun bH =>
 (M.ret (aA.getD 0 V.undef)).bind fun bI =>
 (M.ret x0).bind fun bJ =>
 (M.ret (aA.getD 0 V.undef)).bind fun bK =>
 (M.lift (arithV .sub bK (V.int .i64 1))).bind fun bL =>
 (M.ret x0).bind fun bM =>
 (M.ret (aA.getD 0 V.undef)).bind fun bN =>
 (M.lift (arithV .sub bN (V.int .i64 1))).bind fun bO =>
 (M.lift (idxV 2 bM bO)).bind fun bP =>
 (loadN 2 bP).bind fun bQ =>
 (M.ret x0).bind fun bR =>
 (M.ret (aA.getD 0 V.undef)).bind fun bS =>
 (M.lift (idxV 2 bR bS)).bind fun bT =>
 (loadN 2 bT).bind fun bU =>
 (M.lift (idxV 2 bH bI)).bind fun bV =>
 (storeN 2 bV bQ).bind fun _ =>
 (M.lift (idxV 2 bJ bL)).bind fun bW =>
 (storeN 2 bW bU).bind fun _ =>
 (M.ret (aA.getD 0 V.undef)).bind fun bX =>
 (M.lift (arithV .sub bX (V.int .i64 1))).bind fun bY =>
 (M.ret bY).bind fun bZ =>
 M.ret (Ex.normal,[bZ])))
 (M.ret ((Ex.exit 2),[(aA.getD 0 V.undef)]))))
noncomputable def slices_insertionSortCmpFunc_ferry_api_Timer_l1 (G:GV) (call:CV) (x2:V) (x1:V) (x3:V) (x0:V) (aA:List V):M R :=
 (M.ret (aA.getD 0 V.undef)).bind fun aB =>
 (M.ret x2).bind fun aC =>
 (M.lift (arithV .lss aB aC)).bind fun aD =>
 (condV aD
 ((M.ret (aA.getD 0 V.undef)).bind fun aE =>
 (M.ret aE).bind fun aF =>
 (loopV (slices_insertionSortCmpFunc_ferry_api_Timer_l2 G call x1 x3 x0) [aF]).bind fun aG => match aG.1 with
 | .normal => M.fail
 | .exit k0_63 =>
 (if k0_63 = 2 then
 (M.ret (aA.getD 0 V.undef)).bind fun aH =>
 (M.lift (arithV .add aH (V.int .i64 1))).bind fun aI =>
 (M.ret aI).bind fun aJ =>
 M.ret (Ex.normal,[aJ])
 else (if k0_63 = 1 then
 (M.ret (aA.getD 0 V.undef)).bind fun aK =>
 (M.lift (arithV .add aK (V.int .i64 1))).bind fun aL =>
 (M.ret aL).bind fun aM =>
 M.ret (Ex.normal,[aM])
 else M.ret ((Ex.exit k0_63),[(aA.getD 0 V.undef)])))
 | .ret =>
 M.ret (Ex.ret,[(aA.getD 0 V.undef)]))
 (M.ret ((Ex.exit 0),[(aA.getD 0 V.undef)])))
noncomputable def slices_insertionSortCmpFunc_ferry_api_Timer (G:GV) (call:CV) (x0:V) (x1:V) (x2:V) (x3:V):M R :=
 (M.ret x1).bind fun aA =>
 (M.lift (arithV .add aA (V.int .i64 1))).bind fun aB =>
 (M.ret aB).bind fun aC =>
 (loopV (slices_insertionSortCmpFunc_ferry_api_Timer_l1 G call x2 x1 x3 x0) [aC]).bind fun aD => match aD.1 with
 | .normal => M.fail
 | .exit k0_71 =>
 (if k0_71 = 0 then
 M.ret (Ex.ret,[V.tuple []])
 else M.fail)
 | .ret =>
 M.ret (Ex.ret,[V.tuple []])
theorem slices_insertionSortCmpFunc_ferry_api_Timer_eq (G:GV) (n:Nat) (x0:V) (x1:V) (x2:V) (x3:V):sem (cfg G) (n + 1) 247 [x0,x1,x2,x3] = outV (slices_insertionSortCmpFunc_ferry_api_Timer G (sem (cfg G) n) x0 x1 x2 x3) :=
 (fnV_at (C:=cfg G) (n:=n) (f:=247) (fn:=Tryz.f247) (c:=Tryz.f247.body.getD .skip) (by kernel_rfl) (by kernel_rfl) (by kernel_rfl) [x0,x1,x2,x3]).trans (by kernel_rfl)
noncomputable def slices_pdqsortCmpFunc_ferry_api_Timer_j1 (G:GV) (call:CV) (aA:List V) (x4:V) (x0:V) (aB:V) (aC:V) (aD:V):M R :=
 (getN.bind fun aE =>
 (M.ret (aA.getD 2 V.undef)).bind fun aF =>
 getN.bind fun aG =>
 (M.lift (arithV .gtr aF (V.int .i64 0))).bind fun aH =>
 getN.bind fun aI =>
 (M.ret aH).bind fun aJ =>
 getN.bind fun aK =>
 (guardV aJ true (M.ret x4)).bind fun aL =>
 getN.bind fun aM =>
 (guardV aJ true (M.ret x0)).bind fun aN =>
 getN.bind fun aO =>
 (guardV aJ true (M.ret (aA.getD 2 V.undef))).bind fun aP =>
 getN.bind fun aQ =>
 (guardV aJ true (M.lift (arithV .sub aP (V.int .i64 1)))).bind fun aR =>
 getN.bind fun aS =>
 (guardV aJ true (M.lift (idxV 2 aN aR))).bind fun aT =>
 getN.bind fun aU =>
 (guardV aJ true (loadN 2 aT)).bind fun aV =>
 getN.bind fun aW =>
 (guardV aJ true (M.ret x0)).bind fun aX =>
 getN.bind fun aY =>
 (guardV aJ true (M.ret aB)).bind fun aZ =>
 getN.bind fun bA =>
 (guardV aJ true (M.lift (idxV 2 aX aZ))).bind fun bB =>
 getN.bind fun bC =>
 (guardV aJ true (loadN 2 bB)).bind fun bD =>
 getN.bind fun bE =>
 (qrun (visB aE [(bC,bE,true),(bA,bC,true),(aY,bA,true),(aW,aY,true),(aU,aW,true),(aS,aU,true),(aQ,aS,true),(aO,aQ,true),(aM,aO,true),(aK,aM,true),(aI,aK,true),(aG,aI,true),(aE,aG,true)]) (guardV aJ true (callFn (cfg G) call aL [aV,bD]))).bind fun bF =>
 (guardV aJ true (M.lift (arithV .lss bF (V.int .i64 0)))).bind fun bG =>
 (guardV aJ true (M.lift (unV .not bG))).bind fun bH =>
 (M.lift (pickV aJ bH (V.bool false))).bind fun bI =>
 (condV bI
 ((M.ret x0).bind fun bJ =>
 (M.ret (aA.getD 2 V.undef)).bind fun bK =>
 (M.ret (aA.getD 4 V.undef)).bind fun bL =>
 (M.ret aB).bind fun bM =>
 (M.ret x4).bind fun bN =>
 (callV (cfg G) call 253 [bJ,bK,bL,bM,bN]).bind fun bO =>
 (M.ret bO).bind fun bP =>
 (M.ret bP).bind fun bQ =>
 (M.ret bQ).bind fun bR =>
 M.ret (Ex.normal,[aC,(aA.getD 1 V.undef),bR,(aA.getD 3 V.undef),(aA.getD 4 V.undef)]))
 ((M.ret x0).bind fun bS =>
 (M.ret (aA.getD 2 V.undef)).bind fun bT =>
 (M.ret (aA.getD 4 V.undef)).bind fun bU =>
 (M.ret aB).bind fun bV =>
 (M.ret x4).bind fun bW =>
 (callV (cfg G) call 254 [bS,bT,bU,bV,bW]).bind fun bX =>
 (M.ret bX).bind fun bY =>
 (M.lift (extractV bY 0)).bind fun bZ =>
 (M.lift (extractV bY 1)).bind fun cA =>
 (M.ret bZ).bind fun cB =>
 (M.ret cA).bind fun cC =>
 (M.ret cC).bind fun cD =>
 (M.ret cD).bind fun cE =>
 (M.ret cB).bind fun cF =>
 (M.ret (aA.getD 2 V.undef)).bind fun cG =>
 (M.lift (arithV .sub cF cG)).bind fun cH =>
 (M.ret (aA.getD 4 V.undef)).bind fun cI =>
 (M.ret cB).bind fun cJ =>
 (M.lift (arithV .sub cI cJ)).bind fun cK =>
 (M.ret cH).bind fun cL =>
 (M.ret cK).bind fun cM =>
 (M.ret aD).bind fun cN =>
 (M.lift (arithV .quo cN (V.int .i64 8))).bind fun cO =>
 (M.ret cO).bind fun cP =>
 (M.ret cL).bind fun cQ =>
 (M.ret cM).bind fun cR =>
 (M.lift (arithV .lss cQ cR)).bind fun cS =>
 (condV cS
 ((M.ret cL).bind fun cT =>
 (M.ret cP).bind fun cU =>
 (M.lift (arithV .geq cT cU)).bind fun cV =>
 (M.ret cV).bind fun cW =>
 (M.ret x0).bind fun cX =>
 (M.ret (aA.getD 2 V.undef)).bind fun cY =>
 (M.ret cB).bind fun cZ =>
 (M.ret aC).bind fun dA =>
 (M.ret x4).bind fun dB =>
 (callV (cfg G) call 237 [cX,cY,cZ,dA,dB]).bind fun dC =>
 (M.ret cB).bind fun dD =>
 (M.lift (arithV .add dD (V.int .i64 1))).bind fun dE =>
 (M.ret dE).bind fun dF =>
 M.ret (Ex.normal,[aC,cE,dF,cW,(aA.getD 4 V.undef)]))
 ((M.ret cM).bind fun dG =>
 (M.ret cP).bind fun dH =>
 (M.lift (arithV .geq dG dH)).bind fun dI =>
 (M.ret dI).bind fun dJ =>
 (M.ret x0).bind fun dK =>
 (M.ret cB).bind fun dL =>
 (M.lift (arithV .add dL (V.int .i64 1))).bind fun dM =>
 (M.ret (aA.getD 4 V.undef)).bind fun dN =>
 (M.ret aC).bind fun dO =>
 (M.ret x4).bind fun dP =>
 (callV (cfg G) call 237 [dK,dM,dN,dO,dP]).bind fun dQ =>
 (M.ret cB).bind fun dR =>
 (M.ret dR).bind fun dS =>
 M.ret (Ex.normal,[aC,cE,(aA.getD 2 V.undef),dJ,dS]))))))
noncomputable def slices_pdqsortCmpFunc_ferry_api_Timer_j2 (G:GV) (call:CV) (aA:List V) (x0:V) (x4:V) (aB:V) (aC:V) (aD:V) (aE:V):M R :=
 (M.ret (aA.getD 3 V.undef)).bind fun aF =>
 (M.ret aF).bind fun aG =>
 (guardV aG true (M.ret (aA.getD 1 V.undef))).bind fun aH =>
 (M.lift (pickV aG aH (V.bool false))).bind fun aI =>
 (M.ret aI).bind fun aJ =>
 (guardV aJ true (M.ret aE)).bind fun aK =>
 (guardV aJ true (M.lift ((eqV (.sc .int) true aK (V.int .i64 1)).bind fun b => some (.bool b)))).bind fun aL =>
 (M.lift (pickV aJ aL (V.bool false))).bind fun aM =>
 (condV aM
 ((M.ret x0).bind fun aN =>
 (M.ret (aA.getD 2 V.undef)).bind fun aO =>
 (M.ret (aA.getD 4 V.undef)).bind fun aP =>
 (M.ret x4).bind fun aQ =>
 (callV (cfg G) call 252 [aN,aO,aP,aQ]).bind fun aR =>
 (condV aR
 (M.ret (Ex.ret,[aB,(aA.getD 1 V.undef),(aA.getD 2 V.undef),(aA.getD 3 V.undef),(aA.getD 4 V.undef)]))
 (slices_pdqsortCmpFunc_ferry_api_Timer_j1 G call aA x4 x0 aD aB aC)))
 (slices_pdqsortCmpFunc_ferry_api_Timer_j1 G call aA x4 x0 aD aB aC))
noncomputable def slices_pdqsortCmpFunc_ferry_api_Timer_j3 (G:GV) (call:CV) (x0:V) (aA:List V) (x4:V) (aB:V) (aC:V):M R :=
 (M.ret x0).bind fun aD =>
 (M.ret (aA.getD 2 V.undef)).bind fun aE =>
 (M.ret (aA.getD 4 V.undef)).bind fun aF =>
 (M.ret x4).bind fun aG =>
 (callV (cfg G) call 250 [aD,aE,aF,aG]).bind fun aH =>
 (M.ret aH).bind fun aI =>
 (M.lift (extractV aI 0)).bind fun aJ =>
 (M.lift (extractV aI 1)).bind fun aK =>
 (M.ret aJ).bind fun aL =>
 (M.ret aK).bind fun aM =>
 (M.ret aM).bind fun aN =>
 (M.lift ((eqV (.sc .int) true aN (V.int .i64 2)).bind fun b => some (.bool b))).bind fun aO =>
 (condV aO
 ((M.ret x0).bind fun aP =>
 (M.ret (aA.getD 2 V.undef)).bind fun aQ =>
 (M.ret (aA.getD 4 V.undef)).bind fun aR =>
 (M.ret x4).bind fun aS =>
 (callV (cfg G) call 251 [aP,aQ,aR,aS]).bind fun aT =>
 (M.ret (aA.getD 4 V.undef)).bind fun aU =>
 (M.lift (arithV .sub aU (V.int .i64 1))).bind fun aV =>
 (M.ret aL).bind fun aW =>
 (M.ret (aA.getD 2 V.undef)).bind fun aX =>
 (M.lift (arithV .sub aW aX)).bind fun aY =>
 (M.lift (arithV .sub aV aY)).bind fun aZ =>
 (M.ret aZ).bind fun bA =>
 (M.ret (V.int .i64 1)).bind fun bB =>
 slices_pdqsortCmpFunc_ferry_api_Timer_j2 G call aA x0 x4 aC aB bA bB)
 (slices_pdqsortCmpFunc_ferry_api_Timer_j2 G call aA x0 x4 aC aB aL aM))
noncomputable def slices_pdqsortCmpFunc_ferry_api_Timer_l1 (G:GV) (call:CV) (x0:V) (x4:V) (aA:List V):M R :=
 (M.ret (aA.getD 4 V.undef)).bind fun aB =>
 (M.ret (aA.getD 2 V.undef)).bind fun aC =>
 (M.lift (arithV .sub aB aC)).bind fun aD =>
 (M.ret aD).bind fun aE =>
 (M.ret aE).bind fun aF =>
 (M.lift (arithV .leq aF (V.int .i64 12))).bind fun aG =>
 (condV aG
 ((M.ret x0).bind fun aH =>
 (M.ret (aA.getD 2 V.undef)).bind fun aI =>
 (M.ret (aA.getD 4 V.undef)).bind fun aJ =>
 (M.ret x4).bind fun aK =>
 (callV (cfg G) call 247 [aH,aI,aJ,aK]).bind fun aL =>
 M.ret (Ex.ret,[(aA.getD 0 V.undef),(aA.getD 1 V.undef),(aA.getD 2 V.undef),(aA.getD 3 V.undef),(aA.getD 4 V.undef)]))
 ((M.ret (aA.getD 0 V.undef)).bind fun aM =>
 (M.lift ((eqV (.sc .int) true aM (V.int .i64 0)).bind fun b => some (.bool b))).bind fun aN =>
 (condV aN
 ((M.ret x0).bind fun aO =>
 (M.ret (aA.getD 2 V.undef)).bind fun aP =>
 (M.ret (aA.getD 4 V.undef)).bind fun aQ =>
 (M.ret x4).bind fun aR =>
 (callV (cfg G) call 248 [aO,aP,aQ,aR]).bind fun aS =>
 M.ret (Ex.ret,[(aA.getD 0 V.undef),(aA.getD 1 V.undef),(aA.getD 2 V.undef),(aA.getD 3 V.undef),(aA.getD 4 V.undef)]))
 ((M.ret (aA.getD 3 V.undef)).bind fun aT =>
 (M.lift (unV .not aT)).bind fun aU =>
 (condV aU
 ((M.ret x0).bind fun aV =>
 (M.ret (aA.getD 2 V.undef)).bind fun aW =>
 (M.ret (aA.getD 4 V.undef)).bind fun aX =>
 (M.ret x4).bind fun aY =>
 (callV (cfg G) call 249 [aV,aW,aX,aY]).bind fun aZ =>
 (M.ret (aA.getD 0 V.undef)).bind fun bA =>
 (M.lift (arithV .sub bA (V.int .i64 1))).bind fun bB =>
 (M.ret bB).bind fun bC =>
 slices_pdqsortCmpFunc_ferry_api_Timer_j3 G call x0 aA x4 aE bC)
 (slices_pdqsortCmpFunc_ferry_api_Timer_j3 G call x0 aA x4 aE (aA.getD 0 V.undef)))))))
noncomputable def slices_pdqsortCmpFunc_ferry_api_Timer (G:GV) (call:CV) (x0:V) (x1:V) (x2:V) (x3:V) (x4:V):M R :=
 (M.ret (V.bool true)).bind fun aA =>
 (M.ret (V.bool true)).bind fun aB =>
 (loopV (slices_pdqsortCmpFunc_ferry_api_Timer_l1 G call x0 x4) [x3,aB,x1,aA,x2]).bind fun aC => match aC.1 with
 | .normal => M.fail
 | .exit k0_215 =>
 (if k0_215 = 0 then
 M.ret (Ex.ret,[V.tuple []])
 else M.fail)
 | .ret =>
 M.ret (Ex.ret,[V.tuple []])
theorem slices_pdqsortCmpFunc_ferry_api_Timer_eq (G:GV) (n:Nat) (x0:V) (x1:V) (x2:V) (x3:V) (x4:V):sem (cfg G) (n + 1) 237 [x0,x1,x2,x3,x4] = outV (slices_pdqsortCmpFunc_ferry_api_Timer G (sem (cfg G) n) x0 x1 x2 x3 x4) :=
 (fnV_at (C:=cfg G) (n:=n) (f:=237) (fn:=Tryz.f237) (c:=Tryz.f237.body.getD .skip) (by kernel_rfl) (by kernel_rfl) (by kernel_rfl) [x0,x1,x2,x3,x4]).trans (by kernel_rfl)
noncomputable def math_bits_Len (G:GV) (call:CV) (x0:V):M R :=
 (M.ret (V.int .i64 0)).bind fun aA =>
 (condV (V.bool false)
 ((M.ret x0).bind fun aB =>
 (M.lift (convI .u32 aB)).bind fun aC =>
 (callV (cfg G) call 255 [aC]).bind fun aD =>
 (M.ret aD).bind fun aE =>
 M.ret (Ex.ret,[aE]))
 ((M.ret x0).bind fun aF =>
 (callV (cfg G) call 256 [aF]).bind fun aG =>
 (M.ret aG).bind fun aH =>
 M.ret (Ex.ret,[aH])))
theorem math_bits_Len_eq (G:GV) (n:Nat) (x0:V):sem (cfg G) (n + 1) 238 [x0] = outV (math_bits_Len G (sem (cfg G) n) x0) :=
 (fnV_at (C:=cfg G) (n:=n) (f:=238) (fn:=Tryz.f238) (c:=Tryz.f238.body.getD .skip) (by kernel_rfl) (by kernel_rfl) (by kernel_rfl) [x0]).trans (by kernel_rfl)
noncomputable def math_bits_Len64_j1 (G:GV) (call:CV) (aA:V) (aB:V):M R :=
 (M.ret aB).bind fun aC =>
 (M.ret aA).bind fun aD =>
 (M.lift (convI .u8 aD)).bind fun aE =>
 (M.lift (indexS (V.str ⟨#[0,1,2,2,3,3,3,3,4,4,4,4,4,4,4,4,5,5,5,5,5,5,5,5,5,5,5,5,5,5,5,5,6,6,6,6,6,6,6,6,6,6,6,6,6,6,6,6,6,6,6,6,6,6,6,6,6,6,6,6,6,6,6,6,7,7,7,7,7,7,7,7,7,7,7,7,7,7,7,7,7,7,7,7,7,7,7,7,7,7,7,7,7,7,7,7,7,7,7,7,7,7,7,7,7,7,7,7,7,7,7,7,7,7,7,7,7,7,7,7,7,7,7,7,7,7,7,7,8,8,8,8,8,8,8,8,8,8,8,8,8,8,8,8,8,8,8,8,8,8,8,8,8,8,8,8,8,8,8,8,8,8,8,8,8,8,8,8,8,8,8,8,8,8,8,8,8,8,8,8,8,8,8,8,8,8,8,8,8,8,8,8,8,8,8,8,8,8,8,8,8,8,8,8,8,8,8,8,8,8,8,8,8,8,8,8,8,8,8,8,8,8,8,8,8,8,8,8,8,8,8,8,8,8,8,8,8,8,8,8,8,8,8,8,8,8,8,8,8,8,8,8,8,8,8,8]⟩) aE)).bind fun aF =>
 (M.lift (convI .i64 aF)).bind fun aG =>
 (M.lift (arithV .add aC aG)).bind fun aH =>
 (M.ret aH).bind fun aI =>
 M.ret (Ex.ret,[aI])
noncomputable def math_bits_Len64_j2 (G:GV) (call:CV) (aA:V) (aB:V):M R :=
 (M.ret aA).bind fun aC =>
 (M.lift (arithV .geq aC (V.int .u64 256))).bind fun aD =>
 (condV aD
 ((M.ret aA).bind fun aE =>
 (M.lift (arithV .shr aE (V.int .u64 8))).bind fun aF =>
 (M.ret aF).bind fun aG =>
 (M.ret aB).bind fun aH =>
 (M.lift (arithV .add aH (V.int .i64 8))).bind fun aI =>
 (M.ret aI).bind fun aJ =>
 math_bits_Len64_j1 G call aG aJ)
 (math_bits_Len64_j1 G call aA aB))
noncomputable def math_bits_Len64_j3 (G:GV) (call:CV) (aA:V) (aB:V):M R :=
 (M.ret aA).bind fun aC =>
 (M.lift (arithV .geq aC (V.int .u64 65536))).bind fun aD =>
 (condV aD
 ((M.ret aA).bind fun aE =>
 (M.lift (arithV .shr aE (V.int .u64 16))).bind fun aF =>
 (M.ret aF).bind fun aG =>
 (M.ret aB).bind fun aH =>
 (M.lift (arithV .add aH (V.int .i64 16))).bind fun aI =>
 (M.ret aI).bind fun aJ =>
 math_bits_Len64_j2 G call aG aJ)
 (math_bits_Len64_j2 G call aA aB))
noncomputable def math_bits_Len64 (G:GV) (call:CV) (x0:V):M R :=
 (M.ret (V.int .i64 0)).bind fun aA =>
 (M.ret x0).bind fun aB =>
 (M.lift (arithV .geq aB (V.int .u64 4294967296))).bind fun aC =>
 (condV aC
 ((M.ret x0).bind fun aD =>
 (M.lift (arithV .shr aD (V.int .u64 32))).bind fun aE =>
 (M.ret aE).bind fun aF =>
 (M.ret (V.int .i64 32)).bind fun aG =>
 math_bits_Len64_j3 G call aF aG)
 (math_bits_Len64_j3 G call x0 aA))
theorem math_bits_Len64_eq (G:GV) (n:Nat) (x0:V):sem (cfg G) (n + 1) 256 [x0] = outV (math_bits_Len64 G (sem (cfg G) n) x0) :=
 (fnV_at (C:=cfg G) (n:=n) (f:=256) (fn:=Tryz.f256) (c:=Tryz.f256.body.getD .skip) (by kernel_rfl) (by kernel_rfl) (by kernel_rfl) [x0]).trans (by kernel_rfl)
noncomputable def slices_SortFunc_ferry_api_Timer_ferry_api_Timer (G:GV) (call:CV) (x0:V) (x1:V):M R :=
 (M.ret x0).bind fun aA =>
 (M.lift (lenV aA)).bind fun aB =>
 (M.ret aB).bind fun aC =>
 (M.ret x0).bind fun aD =>
 (M.ret aC).bind fun aE =>
 (M.ret aC).bind fun aF =>
 (M.lift (convI .u64 aF)).bind fun aG =>
 (callV (cfg G) call 238 [aG]).bind fun aH =>
 (M.ret x1).bind fun aI =>
 (callV (cfg G) call 237 [aD,(V.int .i64 0),aE,aH,aI]).bind fun aJ =>
 M.ret (Ex.ret,[V.tuple []])
theorem slices_SortFunc_ferry_api_Timer_ferry_api_Timer_eq (G:GV) (n:Nat) (x0:V) (x1:V):sem (cfg G) (n + 1) 200 [x0,x1] = outV (slices_SortFunc_ferry_api_Timer_ferry_api_Timer G (sem (cfg G) n) x0 x1) :=
 (fnV_at (C:=cfg G) (n:=n) (f:=200) (fn:=Tryz.f200) (c:=Tryz.f200.body.getD .skip) (by kernel_rfl) (by kernel_rfl) (by kernel_rfl) [x0,x1]).trans (by kernel_rfl)
end Go.Fv.Tr
namespace Go.Fv.Pl
def insRev (v:Tm):List Tm → List Tm → List Tm
 | [],B => v :: B
 | s :: r,B => if before v s then insRev v r (s :: B) else (s :: r).reverse ++ v :: B
def ins (P:List Tm) (v:Tm):List Tm:=insRev v P.reverse []
def isort (l:List Tm):List Tm:=l.foldl ins []
theorem isort_snoc (l:List Tm) (v:Tm):isort (l ++ [v]) = ins (isort l) v:=by
 simp [isort,List.foldl_append]
theorem insRev_perm (v : Tm) : ∀ (r B : List Tm), (insRev v r B).Perm (v :: (r.reverse ++ B))
  | [],B => .refl _
  | s :: r, B => by
    unfold insRev
    by_cases h:before v s
    · rw [if_pos h]
      refine (insRev_perm v r (s :: B)).trans (.cons _ ?_)
      simp
    · rw [if_neg h]
      exact List.perm_middle
theorem ins_perm (P:List Tm) (v:Tm):(ins P v).Perm (v :: P):=by
 have:=insRev_perm v P.reverse []
 rwa [List.reverse_reverse,List.append_nil] at this
theorem isort_perm' : ∀ (l P : List Tm), (l.foldl ins P).Perm (P ++ l)
  | [],P => by simp
  | v :: l, P => by
    refine (isort_perm' l (ins P v)).trans ?_
    refine ((ins_perm P v).append_right l).trans ?_
    rw [List.cons_append]
    exact List.perm_middle.symm
theorem isort_perm (l:List Tm):(isort l).Perm l:=by
 have:=isort_perm' l []
 rwa [List.nil_append] at this
theorem isort_len (l:List Tm):(isort l).length = l.length:=(isort_perm l).length_eq
theorem isort_mem {l:List Tm} {t:Tm}:t ∈ isort l ↔ t ∈ l:=(isort_perm l).mem_iff
theorem before_total {a b:Tm} (h:a.proc ≠ b.proc):before a b ∨ before b a:=by
 unfold before; omega
theorem insRev_sorted (v : Tm) : ∀ (r B : List Tm), (r.reverse ++ B).Pairwise before → (∀ s ∈ r, s.proc ≠ v.proc) → (∀ s ∈ B, before v s) → (insRev v r B).Pairwise before
  | [],B,h,_,hB => List.pairwise_cons.2 ⟨hB,by simpa using h⟩
  | s :: r, B, h, hr, hB => by
    unfold insRev
    by_cases hv:before v s
    · rw [if_pos hv]
      refine insRev_sorted v r (s :: B) (by simpa using h) (fun x hx => hr x (by simp [hx])) fun x hx => ?_
      rcases List.mem_cons.1 hx with rfl | hx
      · exact hv
      · exact hB x hx
    · rw [if_neg hv]
      have hsv:before s v:=(before_total (hr s (by simp))).resolve_right hv
      rw [List.pairwise_append] at h ⊢
      refine ⟨h.1,List.pairwise_cons.2 ⟨hB,h.2.1⟩,fun a ha b hb => ?_⟩
      rcases List.mem_cons.1 hb with rfl | hb
      · rw [List.reverse_cons] at ha
        rcases List.mem_append.1 ha with g | g
        · have : before a s := by
            have h1:=h.1
            rw [List.reverse_cons,List.pairwise_append] at h1
            exact h1.2.2 a g s (by simp)
          exact this.trans hsv
        · rw [List.mem_singleton] at g; subst g; exact hsv
      · exact h.2.2 a ha b hb
theorem isort_sorted : ∀ (l P : List Tm), ((P ++ l).map Tm.proc).Nodup → P.Pairwise before → (l.foldl ins P).Pairwise before
  | [],P,_,h => h
  | v :: l, P, hn, h => by
    have hp:(P ++ v :: l).Perm (ins P v ++ l):=List.perm_middle.trans ((ins_perm P v).append_right l).symm
    refine isort_sorted l (ins P v) (((hp.map Tm.proc).nodup_iff).1 hn) ?_
    refine insRev_sorted v P.reverse [] (by simpa using h) (fun s hs => ?_) (by simp)
    rw [List.mem_reverse] at hs
    rw [List.map_append,List.nodup_append] at hn
    exact hn.2.2 s.proc (List.mem_map.2 ⟨s,hs,rfl⟩) v.proc (by simp)
theorem isort_ok {n:Int} {l:List Tm} (h1:∀ t ∈ l,right n t) (h2:(l.map Tm.proc).Nodup):TsOk n (isort l) :=
 TsOk_iff.2 ⟨fun t ht => h1 t (isort_mem.1 ht),(((isort_perm l).map Tm.proc).nodup_iff).2 h2,isort_sorted l [] (by simpa using h2) .nil⟩
end Go.Fv.Pl
namespace Go.Fv.Tr
open Go Go.Fv Go.Fv.Pl Go.Proofs
variable {G:GV}
theorem cmp_call (n:Nat) (a b:Tm):callFn (cfg G) (sem (cfg G) (n + 3)) (.fn 201 []) [.agg (tmRow a),.agg (tmRow b)] = M.ret (.int .i64 (cmpT a b)):=compare_spec n a b
def Data (H:Heap) (l:Nat) (b:Blk) (data:List Tm):Prop:=∃ R,H.blk l = some ⟨b.sz,R⟩ ∧ R.length = b.rows.length ∧ R.take data.length = data.map tmRow
theorem Data.row {H:Heap} {l:Nat} {b:Blk} {data:List Tm} {R:List (List V)} (h:R.take data.length = data.map tmRow) {j:Nat} {t:Tm} (hj:data[j]? = some t):R[j]? = some (tmRow t):=by
 have hlt:=(List.getElem?_eq_some_iff.1 hj).1
 rw [← List.getElem?_take_of_lt hlt,h,List.getElem?_map,hj]
 rfl
theorem Data.frame {H H':Heap} {l:Nat} {b:Blk} {data:List Tm} {p:Nat → Prop} (h:Data H l b data) (f:Frame H H' p) (hl:l < H.next) (hp:¬ p l):Data H' l b data:=by
 obtain ⟨R,h1,h2⟩:=h
 exact ⟨R,(f.old l hl hp).trans h1,h2⟩
theorem swap_list (r:List Tm) (s v:Tm) (B:List Tm):(((s :: r).reverse ++ v :: B).set (r.length + 1) s).set r.length v = r.reverse ++ v :: s :: B:=by
 have e:(s :: r).reverse ++ v :: B = r.reverse ++ s :: v :: B:=by simp
 rw [e,List.set_append_right _ _ (by simp),List.length_reverse,Nat.add_sub_cancel_left]
 rw [List.set_append_right _ _ (by simp),List.length_reverse,Nat.sub_self]
 rfl
theorem tm_drop (t:Tm):(tmRow t).drop 2 = []:=rfl
theorem set_take_map {R:List (List V)} {data:List Tm} (h:R.take data.length = data.map tmRow) (j:Nat) (s:Tm):(R.set j (tmRow s)).take (data.set j s).length = (data.set j s).map tmRow:=by
 rw [List.length_set,List.take_set,h,List.map_set]
theorem insertion_spec (n : Nat) {H : Heap} {l c : Nat} {ex : Bool} {b : Blk} {ts : List Tm} (hb : H.blk l = some b) (hf : H.floor ≤ l) (hl : l < H.next) (hc : ts.length ≤ c) (hcb : c ≤ b.rows.length) (hrows : b.rows.take ts.length = ts.map tmRow) (h12 : ts.length ≤ 12) :
    Run (callV (cfg G) (sem (cfg G) (n + 4)) 247 [.ref l 2 0 ts.length c ex,.int .i64 0,.int .i64 (ts.length:Nat),.fn 201 []]) H fun _ H' => Data H' l b (isort ts) ∧ Frame H H' (fun k => k = l):=by
  rw [callV_inl rfl,slices_insertionSortCmpFunc_ferry_api_Timer_eq]
  simp only [slices_insertionSortCmpFunc_ferry_api_Timer]
  have hone:arithV .add (.int .i64 0) (.int .i64 1) = some (.int .i64 ((1:Nat):Int)):=addN (i:=0) (N:=1) (by omega) (by decide)
  have hx:∀ j:Nat,j < ts.length → idxV 2 (.ref l 2 0 ts.length c ex) (.int .i64 (j:Int)) = some (.ptr l j 0):=fun j hj => by simp [idxV,hj]
  (repeat' (first | (simp only [wp,extractV,w0,reduceIte,Nat.reduceAdd,Nat.reduceLT,Nat.reduceLeDiff,Nat.reduceEqDiff,hone]) | (with_reducible ((first | apply xC | apply xG | apply xQ) <;> intro hb <;> try simp only [hb]))))
  refine Run.loop (N := 12) (fun r s H' => ∃ i : Nat, i = r + 1 ∧ s = [.int .i64 (i : Nat)] ∧ H'.floor = H.floor ∧ Frame H H' (fun k => k = l) ∧ Data H' l b (isort (ts.take i) ++ ts.drop i))
    ⟨1,rfl,rfl,rfl,Frame.refl _ _,?_⟩ ?_
  · have e : isort (ts.take 1) = ts.take 1 := by
      cases ts with
      | nil => rfl
      | cons a ts => rfl
    rw [e,List.take_append_drop]
    exact ⟨b.rows,hb,rfl,hrows⟩
  rintro r s H1 hr ⟨i,rfl,rfl,hf1,fr1,hd⟩
  by_cases hlt:r + 1 < ts.length
  · have hlo : ltT hlt = ltT hlt := rfl
    simp only [slices_insertionSortCmpFunc_ferry_api_Timer_l1]
    (repeat' (first | (simp only [wp,extractV,w0,reduceIte,Nat.reduceAdd,Nat.reduceLT,Nat.reduceLeDiff,Nat.reduceEqDiff,ltT hlt]) | (with_reducible ((first | apply xC | apply xG | apply xQ) <;> intro hb <;> try simp only [hb]))))
    have hi2:(isort (ts.take (r + 1))).length = r + 1:=by rw [isort_len,List.length_take]; omega
    refine Run.loop (N := r + 1) (fun k s H2 => ∃ q B, q.length + k = r + 1 ∧ s = [.int .i64 (q.length : Nat)] ∧ H2.floor = H.floor ∧ Frame H H2 (fun k => k = l) ∧ Data H2 l b (q.reverse ++ ts[r + 1] :: (B ++ ts.drop (r + 2))) ∧ insRev ts[r + 1] q B = ins (isort (ts.take (r + 1))) ts[r + 1])
      ⟨(isort (ts.take (r + 1))).reverse,[],by rw [List.length_reverse,hi2],by rw [List.length_reverse,hi2],hf1,fr1,?_,rfl⟩ ?_
    · rw [List.reverse_reverse,List.nil_append,← List.drop_eq_getElem_cons hlt]
      exact hd
    rintro k s H2 hk ⟨q,B,hq,rfl,hf2,fr2,hd2,hins⟩
    have e1:isort (ts.take (r + 1 + 1)) = ins (isort (ts.take (r + 1))) ts[r + 1]:=by rw [take_snoc hlt,isort_snoc]
    have hl2:l < H2.next:=Nat.lt_of_lt_of_le hl fr2.next
    cases q with
    | nil =>
      simp only [slices_insertionSortCmpFunc_ferry_api_Timer_l2]
      (repeat' (first | (simp only [wp,extractV,w0,reduceIte,Nat.reduceAdd,Nat.reduceLT,Nat.reduceLeDiff,Nat.reduceEqDiff,Int.natCast_zero,Int.lt_irrefl,decide_false,addN (show r + 1 < 12 by omega) (show 12 ≤ big by decide)]) | (with_reducible ((first | apply xC | apply xG | apply xQ) <;> intro hb <;> try simp only [hb]))))
      refine ⟨by omega,_,rfl,rfl,hf2,fr2.trans (Frame.q _ (fun _ => False)) (fun _ _ h => h) (fun _ _ h => h.elim),?_⟩
      rw [e1,← hins]
      exact hd2.frame (Frame.q _ (fun _ => False)) hl2 id
    | cons s q =>
      obtain ⟨R,hR,hRl,hRt⟩:=hd2
      rw [List.length_cons] at hq
      have h6:((s :: q).reverse ++ ts[r + 1] :: (B ++ ts.drop (r + 2)))[q.length + 1]? = some ts[r + 1]:=by simp
      have h7:((s :: q).reverse ++ ts[r + 1] :: (B ++ ts.drop (r + 2)))[q.length]? = some s:=by simp
      have h8:=Data.row (H:=H2) (l:=l) (b:=b) hRt h6
      have h9:=Data.row (H:=H2) (l:=l) (b:=b) hRt h7
      have h10:(R.set (q.length + 1) (tmRow s))[q.length]? = some (tmRow s):=by rw [List.getElem?_set_ne (by omega)]; exact h9
      have hgt:decide ((0:Int) < ((q.length + 1:Nat):Int)) = true:=decide_eq_true (by omega)
      have hsub : arithV .sub (.int .i64 ((q.length + 1 : Nat) : Int)) (.int .i64 1) = some (.int .i64 ((q.length : Nat) : Int)) := by
        rw [arith_sub (by omega) (by omega),show ((q.length + 1:Nat):Int) - 1 = ((q.length:Nat):Int) by omega]
      have hx1:=hx (q.length + 1) (by omega)
      have hx0:=hx q.length (by omega)
      have hfl:H2.floor ≤ l:=by rw [hf2]; exact hf
      simp only [slices_insertionSortCmpFunc_ferry_api_Timer_l2]
      (repeat' (first | (simp only [wp,extractV,w0,reduceIte,Nat.reduceAdd,Nat.reduceLT,Nat.reduceLeDiff,Nat.reduceEqDiff,hgt,hx1,hx0,hR,h8,h9,h10,hsub,cmp_call,tm_len,tm_take,tm_drop,hl2,hfl,addN (show r + 1 < 12 by omega) (show 12 ≤ big by decide)]) | (with_reducible ((first | apply xC | apply xG | apply xQ) <;> intro hb <;> try simp only [hb]))))
      · have hv : before ts[r + 1] s := cmpT_neg.1 (of_decide_eq_true hb)
        rw [insRev,if_pos hv] at hins
        refine ⟨by omega,q,s :: B,by omega,rfl,hf2,?_,⟨(R.set (q.length + 1) (tmRow s)).set q.length (tmRow ts[r + 1]),by rw [Heap.set_blk,if_pos rfl],by rw [List.length_set,List.length_set,hRl],?_⟩,hins⟩
        · exact ((fr2.trans (Frame.q _ (fun _ => False)) (fun _ _ h => h) (fun _ _ h => h.elim)).trans (Frame.set _ _ (p:=fun k => k = l) rfl) (fun _ _ h => h) (fun _ _ h => h)).trans (Frame.set _ _ (p:=fun k => k = l) rfl) (fun _ _ h => h) (fun _ _ h => h)
        · have:=set_take_map (set_take_map hRt (q.length + 1) s) q.length ts[r + 1]
          rw [swap_list] at this
          exact this
      · have hv:¬ before ts[r + 1] s:=fun h => of_decide_eq_false hb (cmpT_neg.2 h)
        rw [insRev,if_neg hv] at hins
        refine ⟨by omega,_,rfl,rfl,hf2,fr2.trans (Frame.q _ (fun _ => False)) (fun _ _ h => h) (fun _ _ h => h.elim),?_⟩
        rw [e1,← hins,List.append_assoc,List.cons_append]
        exact (Data.frame ⟨R,hR,hRl,hRt⟩ (Frame.q _ (fun _ => False)) hl2 id)
  · simp only [slices_insertionSortCmpFunc_ferry_api_Timer_l1]
    (repeat' (first | (simp only [wp,extractV,w0,reduceIte,Nat.reduceAdd,Nat.reduceLT,Nat.reduceLeDiff,Nat.reduceEqDiff,ltF hlt]) | (with_reducible ((first | apply xC | apply xG | apply xQ) <;> intro hb <;> try simp only [hb]))))
    rw [take_all (by omega),List.drop_of_length_le (by omega),List.append_nil] at hd
    exact ⟨hd,fr1⟩
def lenOf (k:Nat):Int:=([0,1,2,2,3,3,3,3,4,4,4,4,4]:List Int).getD k 0
set_option maxRecDepth 100000 in
theorem len64_spec (n:Nat) {k:Nat} (hk:k ≤ 12):callV (cfg G) (sem (cfg G) (n + 1)) 256 [.int .u64 (k:Nat)] = M.ret (.int .i64 (lenOf k)):=by
 have hc:k = 0 ∨ k = 1 ∨ k = 2 ∨ k = 3 ∨ k = 4 ∨ k = 5 ∨ k = 6 ∨ k = 7 ∨ k = 8 ∨ k = 9 ∨ k = 10 ∨ k = 11 ∨ k = 12:=by omega
 refine callV_pure0 rfl rfl rfl ?_
 rw [math_bits_Len64_eq]
 rcases hc with rfl | rfl | rfl | rfl | rfl | rfl | rfl | rfl | rfl | rfl | rfl | rfl | rfl
 all_goals exact ⟨_,_,rfl,rfl⟩
theorem len_spec (n:Nat) {k:Nat} (hk:k ≤ 12):callV (cfg G) (sem (cfg G) (n + 2)) 238 [.int .u64 (k:Nat)] = M.ret (.int .i64 (lenOf k)):=by
 refine callV_pure0 rfl rfl rfl ?_
 rw [math_bits_Len_eq]
 simp only [math_bits_Len]
 (repeat' (first | (simp only [wp,extractV,w0,reduceIte,Nat.reduceAdd,Nat.reduceLT,Nat.reduceLeDiff,Nat.reduceEqDiff,len64_spec n hk]) | (with_reducible ((first | apply xC | apply xG | apply xQ) <;> intro hb <;> try simp only [hb]))))
theorem sortFunc_spec (n:Nat) {H:Heap} {x:V} {ts:List Tm} (hx:Own H x 2 (ts.map tmRow)) (h12:ts.length ≤ 12) :
  Run (callV (cfg G) (sem (cfg G) (n + 6)) 200 [x,.fn 201 []]) H fun _ H' => Own H' x 2 ((isort ts).map tmRow) ∧ Frame H H' (fun k => loc x = some k):=by
 have hconv:convI .u64 (.int .i64 (ts.length:Nat)) = some (.int .u64 (ts.length:Nat)):=by
  have:IntKind.u64.wrap (ts.length:Nat) = (ts.length:Nat):=IntWalk.u64_in _ (by omega)
  simp [convI,this]
 rw [callV_inl rfl,slices_SortFunc_ferry_api_Timer_ferry_api_Timer_eq]
 simp only [slices_SortFunc_ferry_api_Timer_ferry_api_Timer]
 (repeat' (first | (simp only [wp,extractV,w0,reduceIte,Nat.reduceAdd,Nat.reduceLT,Nat.reduceLeDiff,Nat.reduceEqDiff,hx.len,List.length_map,hconv,len_spec _ h12]) | (with_reducible ((first | apply xC | apply xG | apply xQ) <;> intro hb <;> try simp only [hb]))))
 rw [callV_inl rfl,slices_pdqsortCmpFunc_ferry_api_Timer_eq]
 simp only [slices_pdqsortCmpFunc_ferry_api_Timer]
 (repeat' (first | (simp only [wp,extractV,w0,reduceIte,Nat.reduceAdd,Nat.reduceLT,Nat.reduceLeDiff,Nat.reduceEqDiff]) | (with_reducible ((first | apply xC | apply xG | apply xQ) <;> intro hb <;> try simp only [hb]))))
 have hsub:arithV .sub (.int .i64 (ts.length:Nat)) (.int .i64 0) = some (.int .i64 (ts.length:Nat)):=by
  rw [arith_sub (by omega) (by omega),Int.sub_zero]
 have hle:decide (((ts.length:Nat):Int) ≤ 12) = true:=decide_eq_true (by omega)
 refine Run.loop (N:=1) (fun r s H' => r = 0 ∧ s = [.int .i64 (lenOf ts.length),.bool true,.int .i64 0,.bool true,.int .i64 (ts.length:Nat)] ∧ H' = H) ⟨rfl,rfl,rfl⟩ ?_
 rintro r s H' hr ⟨rfl,rfl,rfl⟩
 simp only [slices_pdqsortCmpFunc_ferry_api_Timer_l1]
 (repeat' (first | (simp only [wp,extractV,w0,reduceIte,Nat.reduceAdd,Nat.reduceLT,Nat.reduceLeDiff,Nat.reduceEqDiff,hsub,hle]) | (with_reducible ((first | apply xC | apply xG | apply xQ) <;> intro hb <;> try simp only [hb]))))
 rcases hx with ⟨hx,hnil⟩ | ⟨l,nx,c,ex,b,rfl,hb,hf,hl,hc,hcb,hrows⟩
 ·have hts:ts = []:=List.map_eq_nil_iff.1 hnil
  subst hts
  rw [callV_inl rfl,slices_insertionSortCmpFunc_ferry_api_Timer_eq]
  simp only [slices_insertionSortCmpFunc_ferry_api_Timer]
  have hone:arithV .add (.int .i64 0) (.int .i64 1) = some (.int .i64 ((1:Nat):Int)):=addN (i:=0) (N:=1) (by omega) (by decide)
  (repeat' (first | (simp only [wp,extractV,w0,reduceIte,Nat.reduceAdd,Nat.reduceLT,Nat.reduceLeDiff,Nat.reduceEqDiff,hone]) | (with_reducible ((first | apply xC | apply xG | apply xQ) <;> intro hb <;> try simp only [hb]))))
  refine Run.loop (N:=1) (fun r s H2 => s = [.int .i64 ((1:Nat):Int)] ∧ H2 = H') ⟨rfl,rfl⟩ ?_
  rintro r s H2 hr ⟨rfl,rfl⟩
  have hlt:decide (((1:Nat):Int) < ((0:Nat):Int)) = false:=rfl
  simp only [slices_insertionSortCmpFunc_ferry_api_Timer_l1]
  (repeat' (first | (simp only [wp,extractV,w0,reduceIte,Nat.reduceAdd,Nat.reduceLT,Nat.reduceLeDiff,Nat.reduceEqDiff,hlt]) | (with_reducible ((first | apply xC | apply xG | apply xQ) <;> intro hb <;> try simp only [hb]))))
  exact ⟨.inl ⟨hx,rfl⟩,Frame.refl _ _⟩
 ·have hnx:nx = ts.length:=by
   have:=congrArg List.length hrows
   rw [List.length_take,List.length_map] at this
   omega
  subst hnx
  refine (insertion_spec _ hb hf hl hc hcb hrows h12).mono fun _ H2 ⟨⟨R,hR,hRl,hRt⟩,fr⟩ => ?_
  (repeat' (first | (simp only [wp,extractV,w0,reduceIte,Nat.reduceAdd,Nat.reduceLT,Nat.reduceLeDiff,Nat.reduceEqDiff]) | (with_reducible ((first | apply xC | apply xG | apply xQ) <;> intro hb <;> try simp only [hb]))))
  have hle2:ts.length ≤ R.length:=by omega
  refine ⟨.inr ⟨l,ts.length,c,ex,_,rfl,hR,by rw [fr.floor]; exact hf,Nat.lt_of_lt_of_le hl fr.next,hc,by rw [hRl]; exact hcb,?_⟩,fr.mono fun k _ e => by rw [e]; rfl⟩
  rw [isort_len] at hRt
  exact hRt
end Go.Fv.Tr
namespace Go.Fv.Tr
open Go Go.Fv Go.Proofs
set_option maxRecDepth 20000
noncomputable def ferry_timer_without (G:GV) (call:CV) (x0:V) (x1:V):M R :=
 (newV x1).bind fun aA =>
 (M.ret V.nils).bind fun aB =>
 (M.ret x0).bind fun aC =>
 (callV (cfg G) call 56 [aC]).bind fun aD =>
 (M.ret (V.fn 236 [aA])).bind fun aE =>
 (callV (cfg G) call 206 [aD,aE]).bind fun aF =>
 (M.ret aF).bind fun aG =>
 M.ret (Ex.ret,[aG])
theorem ferry_timer_without_eq (G:GV) (n:Nat) (x0:V) (x1:V):sem (cfg G) (n + 1) 199 [x0,x1] = outV (ferry_timer_without G (sem (cfg G) n) x0 x1) :=
 (fnV_at (C:=cfg G) (n:=n) (f:=199) (fn:=Tryz.f199) (c:=Tryz.f199.body.getD .skip) (by kernel_rfl) (by kernel_rfl) (by kernel_rfl) [x0,x1]).trans (by kernel_rfl)
noncomputable def ferry_timer_Set (G:GV) (call:CV) (x0:V) (x1:V) (x2:V):M R :=
 (M.ret V.nils).bind fun aA =>
 (M.ret V.nili).bind fun aB =>
 (M.ret x0).bind fun aC =>
 (callV (cfg G) call 197 [aC,(V.int .i64 8)]).bind fun aD =>
 (M.lift (unV .not aD)).bind fun aE =>
 (condV aE
 (((load1 (glob (cfg G) 2)).bind fun aF =>
 (M.ret V.nils).bind fun aG =>
 (M.ret aF).bind fun aH =>
 M.ret (Ex.ret,[V.tuple [aG,aH]])))
 ((M.ret x1).bind fun aI =>
 (M.ret x2).bind fun aJ =>
 (M.lift (buildV [(V.int .i64 0),(V.int .i64 0)] [(0,1,aI),(1,1,aJ)])).bind fun aK =>
 (newV (.agg [(V.int .i64 0),(V.int .i64 0)])).bind fun aL =>
 (storeN 2 aL aK).bind fun _ =>
 (loadN 2 aL).bind fun aM =>
 (callV (cfg G) call 198 [aM,(V.int .i64 8)]).bind fun aN =>
 (M.lift (unV .not aN)).bind fun aO =>
 (condV aO
 (((load1 (glob (cfg G) 0)).bind fun aP =>
 (M.ret V.nils).bind fun aQ =>
 (M.ret aP).bind fun aR =>
 M.ret (Ex.ret,[V.tuple [aQ,aR]])))
 ((getN.bind fun aS =>
 (M.ret x0).bind fun aT =>
 getN.bind fun aU =>
 (M.ret x1).bind fun aV =>
 getN.bind fun aW =>
 (qrun (visB aS [(aU,aW,true),(aS,aU,true)]) (callV (cfg G) call 199 [aT,aV])).bind fun aX =>
 getN.bind fun aY =>
 (loadN 2 aL).bind fun aZ =>
 getN.bind fun bA =>
 (sliceV 2 1 [(V.int .i64 0),(V.int .i64 0)] [(0,aZ)]).bind fun bB =>
 getN.bind fun bC =>
 (trun (visB aS [(bA,bC,true),(aY,bA,true),(aW,aY,true),(aU,aW,true),(aS,aU,true)]) (appV 2 16 aX bB)).bind fun bD =>
 (M.ret bD).bind fun bE =>
 (M.ret bE).bind fun bF =>
 (callV (cfg G) call 200 [bF,(V.fn 201 [])]).bind fun bG =>
 (M.ret bE).bind fun bH =>
 (M.ret bH).bind fun bI =>
 (M.ret V.nili).bind fun bJ =>
 M.ret (Ex.ret,[V.tuple [bI,bJ]]))))))
theorem ferry_timer_Set_eq (G:GV) (n:Nat) (x0:V) (x1:V) (x2:V):sem (cfg G) (n + 1) 136 [x0,x1,x2] = outV (ferry_timer_Set G (sem (cfg G) n) x0 x1 x2) :=
 (fnV_at (C:=cfg G) (n:=n) (f:=136) (fn:=Tryz.f136) (c:=Tryz.f136.body.getD .skip) (by kernel_rfl) (by kernel_rfl) (by kernel_rfl) [x0,x1,x2]).trans (by kernel_rfl)
end Go.Fv.Tr

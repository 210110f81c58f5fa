/-
  The Go functions slices.Clone[bool,bool], slices.Clone[ferry/api.Page,ferry/api.Page], sli By an AI agent; no person has read it.
-/
import Derived.Test.YtekncgjkocgioaaGreatDoorFvP28
import Derived.Lib.ItoaNum
set_option linter.unusedVariables false
set_option linter.unusedSimpArgs false
set_option linter.unusedSectionVars false
/-! The Go functions slices.Clone[bool,bool], slices.Clone[ferry/api.Page,ferry/api.Page], sli -/
namespace Go.Fv.Tr
open Go Go.Fv Go.Proofs
set_option maxRecDepth 20000
noncomputable def slices_Clone_bool_bool (G:GV) (call:CV) (x0:V):M R :=
 (M.ret V.nils).bind fun aA =>
 (M.ret x0).bind fun aB =>
 (M.lift ((eqV .slice true aB V.nils).bind fun b => some (.bool b))).bind fun aC =>
 (condV aC
 ((M.ret V.nils).bind fun aD =>
 M.ret (Ex.ret,[aD]))
 ((sliceV 1 0 [(V.bool false)] []).bind fun aE =>
 (M.ret x0).bind fun aF =>
 (appV 1 1 aE aF).bind fun aG =>
 (M.ret aG).bind fun aH =>
 M.ret (Ex.ret,[aH])))
theorem slices_Clone_bool_bool_eq (G:GV) (n:Nat) (x0:V):sem (cfg G) (n + 1) 57 [x0] = outV (slices_Clone_bool_bool G (sem (cfg G) n) x0) :=
 (fnV_at (C:=cfg G) (n:=n) (f:=57) (fn:=Tryz.f57) (c:=Tryz.f57.body.getD .skip) (by kernel_rfl) (by kernel_rfl) (by kernel_rfl) [x0]).trans (by kernel_rfl)
noncomputable def slices_Clone_ferry_api_Page_ferry_api_Page (G:GV) (call:CV) (x0:V):M R :=
 (M.ret V.nils).bind fun aA =>
 (M.ret x0).bind fun aB =>
 (M.lift ((eqV .slice true aB V.nils).bind fun b => some (.bool b))).bind fun aC =>
 (condV aC
 ((M.ret V.nils).bind fun aD =>
 M.ret (Ex.ret,[aD]))
 ((sliceV 66 0 [(V.int .i64 0),(V.bool false),(V.int .u8 0),(V.int .u8 0),(V.int .u8 0),(V.int .u8 0),(V.int .u8 0),(V.int .u8 0),(V.int .u8 0),(V.int .u8 0),(V.int .u8 0),(V.int .u8 0),(V.int .u8 0),(V.int .u8 0),(V.int .u8 0),(V.int .u8 0),(V.int .u8 0),(V.int .u8 0),(V.int .u8 0),(V.int .u8 0),(V.int .u8 0),(V.int .u8 0),(V.int .u8 0),(V.int .u8 0),(V.int .u8 0),(V.int .u8 0),(V.int .u8 0),(V.int .u8 0),(V.int .u8 0),(V.int .u8 0),(V.int .u8 0),(V.int .u8 0),(V.int .u8 0),(V.int .u8 0),(V.int .u8 0),(V.int .u8 0),(V.int .u8 0),(V.int .u8 0),(V.int .u8 0),(V.int .u8 0),(V.int .u8 0),(V.int .u8 0),(V.int .u8 0),(V.int .u8 0),(V.int .u8 0),(V.int .u8 0),(V.int .u8 0),(V.int .u8 0),(V.int .u8 0),(V.int .u8 0),(V.int .u8 0),(V.int .u8 0),(V.int .u8 0),(V.int .u8 0),(V.int .u8 0),(V.int .u8 0),(V.int .u8 0),(V.int .u8 0),(V.int .u8 0),(V.int .u8 0),(V.int .u8 0),(V.int .u8 0),(V.int .u8 0),(V.int .u8 0),(V.int .u8 0),(V.int .u8 0)] []).bind fun aE =>
 (M.ret x0).bind fun aF =>
 (appV 66 80 aE aF).bind fun aG =>
 (M.ret aG).bind fun aH =>
 M.ret (Ex.ret,[aH])))
theorem slices_Clone_ferry_api_Page_ferry_api_Page_eq (G:GV) (n:Nat) (x0:V):sem (cfg G) (n + 1) 59 [x0] = outV (slices_Clone_ferry_api_Page_ferry_api_Page G (sem (cfg G) n) x0) :=
 (fnV_at (C:=cfg G) (n:=n) (f:=59) (fn:=Tryz.f59) (c:=Tryz.f59.body.getD .skip) (by kernel_rfl) (by kernel_rfl) (by kernel_rfl) [x0]).trans (by kernel_rfl)
noncomputable def slices_Clone_string_string (G:GV) (call:CV) (x0:V):M R :=
 (M.ret V.nils).bind fun aA =>
 (M.ret x0).bind fun aB =>
 (M.lift ((eqV .slice true aB V.nils).bind fun b => some (.bool b))).bind fun aC =>
 (condV aC
 ((M.ret V.nils).bind fun aD =>
 M.ret (Ex.ret,[aD]))
 ((sliceV 1 0 [(V.str ⟨#[]⟩)] []).bind fun aE =>
 (M.ret x0).bind fun aF =>
 (appV 1 16 aE aF).bind fun aG =>
 (M.ret aG).bind fun aH =>
 M.ret (Ex.ret,[aH])))
theorem slices_Clone_string_string_eq (G:GV) (n:Nat) (x0:V):sem (cfg G) (n + 1) 60 [x0] = outV (slices_Clone_string_string G (sem (cfg G) n) x0) :=
 (fnV_at (C:=cfg G) (n:=n) (f:=60) (fn:=Tryz.f60) (c:=Tryz.f60.body.getD .skip) (by kernel_rfl) (by kernel_rfl) (by kernel_rfl) [x0]).trans (by kernel_rfl)
noncomputable def slices_Clone_ferry_api_Port_ferry_api_Port (G:GV) (call:CV) (x0:V):M R :=
 (M.ret V.nils).bind fun aA =>
 (M.ret x0).bind fun aB =>
 (M.lift ((eqV .slice true aB V.nils).bind fun b => some (.bool b))).bind fun aC =>
 (condV aC
 ((M.ret V.nils).bind fun aD =>
 M.ret (Ex.ret,[aD]))
 ((sliceV 2 0 [V.nils,(V.int .i64 0)] []).bind fun aE =>
 (M.ret x0).bind fun aF =>
 (appV 2 32 aE aF).bind fun aG =>
 (M.ret aG).bind fun aH =>
 M.ret (Ex.ret,[aH])))
theorem slices_Clone_ferry_api_Port_ferry_api_Port_eq (G:GV) (n:Nat) (x0:V):sem (cfg G) (n + 1) 58 [x0] = outV (slices_Clone_ferry_api_Port_ferry_api_Port G (sem (cfg G) n) x0) :=
 (fnV_at (C:=cfg G) (n:=n) (f:=58) (fn:=Tryz.f58) (c:=Tryz.f58.body.getD .skip) (by kernel_rfl) (by kernel_rfl) (by kernel_rfl) [x0]).trans (by kernel_rfl)
noncomputable def ferry_ready_Of (G:GV) (call:CV) (x0:V):M R :=
 (newV x0).bind fun aA =>
 (newV (.agg [V.nils,V.nils,V.nils])).bind fun aB =>
 (getN.bind fun n3 =>
 (M.lift (padd 3 aA)).bind fun aC =>
 getN.bind fun n5 =>
 (load1 aC).bind fun aD =>
 getN.bind fun n7 =>
 (qrun (visB n3 [(n5,n7,true),(n3,n5,true)]) (callV (cfg G) call 54 [aD])).bind fun aE =>
 getN.bind fun n9 =>
 (M.lift (padd 4 aA)).bind fun aF =>
 getN.bind fun aG =>
 (load1 aF).bind fun aH =>
 getN.bind fun aI =>
 (qrun (visB n3 [(aG,aI,true),(n9,aG,true),(n7,n9,true),(n5,n7,true),(n3,n5,true)]) (callV (cfg G) call 55 [aH])).bind fun aJ =>
 getN.bind fun aK =>
 (M.lift (padd 5 aA)).bind fun aL =>
 getN.bind fun aM =>
 (load1 aL).bind fun aN =>
 getN.bind fun aO =>
 (qrun (visB n3 [(aM,aO,true),(aK,aM,true),(aI,aK,true),(aG,aI,true),(n9,aG,true),(n7,n9,true),(n5,n7,true),(n3,n5,true)]) (callV (cfg G) call 56 [aN])).bind fun aP =>
 (M.lift (buildV [V.nils,V.nils,V.nils] [(0,1,aE),(1,1,aJ),(2,1,aP)])).bind fun aQ =>
 (storeN 3 aB aQ).bind fun _ =>
 (((loadN 3 aB)).bind fun v => (M.ret []).bind fun l => M.ret (v :: l)).bind fun l => M.ret (Ex.ret,tupV l))
theorem ferry_ready_Of_eq (G:GV) (n:Nat) (x0:V):sem (cfg G) (n + 1) 135 [x0] = outV (ferry_ready_Of G (sem (cfg G) n) x0) :=
 (fnV_at (C:=cfg G) (n:=n) (f:=135) (fn:=Tryz.f135) (c:=Tryz.f135.body.getD .skip) (by kernel_rfl) (by kernel_rfl) (by kernel_rfl) [x0]).trans (by kernel_rfl)
noncomputable def ferry_ready_Into_l1 (G:GV) (call:CV) (aA:V) (aB:V) (aC:List V):M R :=
 (M.lift (arithV .lss (aC.getD 0 V.undef) aA)).bind fun aD =>
 (condV aD
 ((M.ret (aC.getD 0 V.undef)).bind fun aE =>
 (M.ret aE).bind fun aF =>
 (getN.bind fun aG =>
 (M.lift (padd 8 aB)).bind fun aH =>
 getN.bind fun aI =>
 (load1 aH).bind fun aJ =>
 getN.bind fun aK =>
 (M.ret aF).bind fun aL =>
 getN.bind fun aM =>
 (M.lift (padd 8 aB)).bind fun aN =>
 getN.bind fun aO =>
 (load1 aN).bind fun aP =>
 getN.bind fun aQ =>
 (M.ret aF).bind fun aR =>
 getN.bind fun aS =>
 (M.lift (idxV 2 aP aR)).bind fun aT =>
 getN.bind fun aU =>
 (M.lift (padd 0 aT)).bind fun aV =>
 getN.bind fun aW =>
 (load1 aV).bind fun aX =>
 getN.bind fun aY =>
 (qrun (visB aG [(aW,aY,true),(aU,aW,true),(aS,aU,true),(aQ,aS,true),(aO,aQ,true),(aM,aO,true),(aK,aM,false),(aI,aK,false),(aG,aI,false)]) (callV (cfg G) call 60 [aX])).bind fun aZ =>
 (M.lift (idxV 2 aJ aL)).bind fun bA =>
 (M.lift (padd 0 bA)).bind fun bB =>
 (storeN 1 bB aZ).bind fun _ =>
 (M.lift (arithV .add (aC.getD 0 V.undef) (V.int .i64 1))).bind fun bC =>
 (M.ret bC).bind fun bD =>
 M.ret (Ex.normal,[bD])))
 (M.ret ((Ex.exit 0),[(aC.getD 0 V.undef)])))
noncomputable def ferry_ready_Into (G:GV) (call:CV) (x0:V) (x1:V):M R :=
 (newV x0).bind fun aA =>
 (newV x1).bind fun aB =>
 (newV (.agg [(V.int .i64 0),(V.int .i64 0),(V.int .i64 0),V.nils,V.nils,V.nils,V.nils,V.nils,V.nils,V.nils])).bind fun aC =>
 (loadN 3 aB).bind fun aD =>
 (callV (cfg G) call 138 [aD]).bind fun aE =>
 (newV (.agg [V.nils,V.nils,V.nils])).bind fun aF =>
 (storeN 3 aF aE).bind fun _ =>
 ((M.lift (padd 0 aF)).bind fun aG =>
 (load1 aG).bind fun aH =>
 (M.lift (padd 1 aF)).bind fun aI =>
 (load1 aI).bind fun aJ =>
 (M.lift (padd 2 aF)).bind fun aK =>
 (load1 aK).bind fun aL =>
 (M.lift (padd 3 aA)).bind fun aM =>
 guardM (apartV aI aM && (apartV aK aM && true)) (
 (storeN 1 aM aH).bind fun _ =>
 (M.lift (padd 4 aA)).bind fun aN =>
 guardM (apartV aK aN && true) (
 (storeN 1 aN aJ).bind fun _ =>
 (M.lift (padd 5 aA)).bind fun aO =>
 (storeN 1 aO aL).bind fun _ =>
 (M.lift (padd 6 aA)).bind fun aP =>
 (load1 aP).bind fun aQ =>
 (callV (cfg G) call 57 [aQ]).bind fun aR =>
 (M.lift (padd 6 aA)).bind fun aS =>
 (storeN 1 aS aR).bind fun _ =>
 (M.lift (padd 7 aA)).bind fun aT =>
 (load1 aT).bind fun aU =>
 (callV (cfg G) call 55 [aU]).bind fun aV =>
 (M.lift (padd 7 aA)).bind fun aW =>
 (storeN 1 aW aV).bind fun _ =>
 (M.lift (padd 9 aA)).bind fun aX =>
 (load1 aX).bind fun aY =>
 (callV (cfg G) call 59 [aY]).bind fun aZ =>
 (M.lift (padd 9 aA)).bind fun bA =>
 (storeN 1 bA aZ).bind fun _ =>
 (M.lift (padd 8 aA)).bind fun bB =>
 (load1 bB).bind fun bC =>
 (callV (cfg G) call 58 [bC]).bind fun bD =>
 (M.lift (padd 8 aA)).bind fun bE =>
 (storeN 1 bE bD).bind fun _ =>
 (M.lift (padd 8 aA)).bind fun bF =>
 (load1 bF).bind fun bG =>
 (M.lift (lenV bG)).bind fun bH =>
 (M.ret (V.int .i64 0)).bind fun bI =>
 (loopV (ferry_ready_Into_l1 G call bH aA) [bI]).bind fun bJ => match bJ.1 with
 | .normal => M.fail
 | .exit k0_65 =>
 (if k0_65 = 0 then
 (loadN 10 aA).bind fun bK =>
 (storeN 10 aC bK).bind fun _ =>
 (((loadN 10 aC)).bind fun v => (M.ret []).bind fun l => M.ret (v :: l)).bind fun l => M.ret (Ex.ret,tupV l)
 else M.fail)
 | .ret =>
 (((loadN 10 aC)).bind fun v => (M.ret []).bind fun l => M.ret (v :: l)).bind fun l => M.ret (Ex.ret,tupV l))))
theorem ferry_ready_Into_eq (G:GV) (n:Nat) (x0:V) (x1:V):sem (cfg G) (n + 1) 132 [x0,x1] = outV (ferry_ready_Into G (sem (cfg G) n) x0 x1) :=
 (fnV_at (C:=cfg G) (n:=n) (f:=132) (fn:=Tryz.f132) (c:=Tryz.f132.body.getD .skip) (by kernel_rfl) (by kernel_rfl) (by kernel_rfl) [x0,x1]).trans (by kernel_rfl)
end Go.Fv.Tr
namespace Go.Fv
open Go
def bs (l:List UInt8):ByteArray:=⟨l.toArray⟩
section
variable {H:Heap} {x:V} {l:List UInt8} {sz:Nat} {rows:List (List V)}
theorem Own.items (h:Own H x sz rows):itemsV sz x H = some rows:=by
 rcases h with ⟨rfl | rfl,rfl⟩ | ⟨l,n,c,ex,b,rfl,h1,h2,h3,h4,h5,rfl⟩
 ·rfl
 ·rfl
 ·have:n ≤ b.rows.length:=by omega
  simp [itemsV,h1,this]
end
end Go.Fv
namespace Go.Fv
open Go
theorem Own.grow {H H':Heap} {x:V} {sz:Nat} {rows:List (List V)} (h:Own H x sz rows) (f:Frame H H' (fun _ => False)):Own H' x sz rows:=by
 rcases h with h | ⟨l,n,c,ex,b,rfl,h1,h2,h3,h4⟩
 ·exact .inl h
 ·exact .inr ⟨l,n,c,ex,b,rfl,(f.old l h3 id).trans h1,by rw [f.floor]; exact h2,Nat.lt_of_lt_of_le h3 f.next,h4⟩
end Go.Fv
namespace Go.Fv
open Go
end Go.Fv
namespace Go.Fv
open Go
section
variable {H H':Heap} {x:V} {sz:Nat} {rows:List (List V)}
def Rd (H:Heap) (x:V) (sz:Nat) (rows:List (List V)):Prop :=
 Sls x sz rows ∨ ∃ l s n c ex b,x = .ref l sz s n c ex ∧ H.blk l = some b ∧ l < H.next ∧ s + n ≤ b.rows.length ∧ (b.rows.drop s).take n = rows
theorem Rd.keep (h:Rd H x sz rows) (hn:H.next ≤ H'.next) (hk:∀ l,loc x = some l → H'.blk l = H.blk l):Rd H' x sz rows:=by
 rcases h with h | ⟨l,s,n,c,ex,b,rfl,h1,h2,h3,h4⟩
 ·exact .inl h
 ·exact .inr ⟨l,s,n,c,ex,b,rfl,(hk l rfl).trans h1,Nat.lt_of_lt_of_le h2 hn,h3,h4⟩
theorem Rd.lt (h:Rd H x sz rows) {l:Nat} (hl:loc x = some l):l < H.next:=by
 rcases h with h | ⟨l',s,n,c,ex,b,rfl,h1,h2,h3,h4⟩
 ·rcases h with rfl | ⟨_,rfl | rfl⟩ <;> cases hl
 ·cases hl; exact h2
theorem Rd.frame (h:Rd H x sz rows) {p:Nat → Prop} (f:Frame H H' p) (hp:∀ l,loc x = some l → ¬ p l):Rd H' x sz rows :=
 h.keep f.next fun l hl => f.old l (h.lt hl) (hp l hl)
theorem Rd.len (h:Rd H x sz rows):lenV x = some (.int .i64 (rows.length:Int)):=by
 rcases h with h | ⟨l,s,n,c,ex,b,rfl,h1,h2,h3,rfl⟩
 ·exact h.len
 ·have:((b.rows.drop s).take n).length = n:=by rw [List.length_take,List.length_drop]; omega
  rw [this]; rfl
theorem Rd.items (h:Rd H x sz rows):itemsV sz x H = some rows:=by
 rcases h with h | ⟨l,s,n,c,ex,b,rfl,h1,h2,h3,rfl⟩
 ·exact h.items H
 ·simp [itemsV,h1,h3]
theorem Rd.cells (h:Rd H x sz rows):x.cells? = some [x]:=by
 rcases h with h | ⟨l,s,n,c,ex,b,rfl,_⟩
 ·exact h.cells
 ·rfl
theorem Rd.cell (h:Rd H x sz rows):x.isCell = true:=by
 rcases h with h | ⟨l,s,n,c,ex,b,rfl,_⟩
 ·rcases h with rfl | ⟨_,rfl | rfl⟩ <;> rfl
 ·rfl
theorem Rd.thaw (h:Rd H x sz rows) (hf:flatRows rows = true):∃ y,thaw true H x = some y ∧ thawV true H x = some y ∧ Sls y sz rows:=by
 rcases h with h | ⟨l,s,n,c,ex,b,rfl,h1,h2,h3,rfl⟩
 ·exact ⟨x,thaw_closed h.closed H,thawV_closed h.closedV H,h⟩
 ·refine ⟨.imm sz ((b.rows.drop s).take n),?_,?_,Sls.imm _ _⟩ <;> simp [Fv.thawV,Fv.thaw,h1,h3,hf]
theorem Rd.idx (h:Rd H x sz rows) {k:IntKind} {i:Nat} (hi:i < rows.length):∃ p,idxV sz x (.int k (i:Int)) = some p ∧ placeV p H = some (rows[i],0) ∧ ∀ o,∃ q,padd o p = some q ∧ placeV q H = some (rows[i],o):=by
 rcases h with h | ⟨l,s,n,c,ex,b,rfl,h1,h2,h3,rfl⟩
 ·exact ⟨_,h.idx hi,rfl,fun o => ⟨.iptr rows[i] (0 + o),rfl,by simp [placeV]⟩⟩
 ·have hn:i < n:=by rw [List.length_take] at hi; omega
  have hr:b.rows[s + i]? = some ((b.rows.drop s).take n)[i]:=by
   rw [List.getElem_take,List.getElem_drop]
   exact List.getElem?_eq_getElem _
  refine ⟨.ptr l (s + i) 0,by simp [idxV,hn],by simp only [placeV,h1,Option.bind_some,hr],fun o => ⟨.ptr l (s + i) (0 + o),rfl,by simp only [placeV,h1,Option.bind_some,hr,Nat.zero_add]⟩⟩
theorem Run.loadAt {p:V} {row:List V} {o:Nat} {v:V} {Q:V → Heap → Prop} (h:placeV p H = some (row,o)) (hv:row[o]? = some v):Run (load1 p) H Q ↔ Q v H :=
 Run.eq (by simp [load1,h,hv])
theorem callOwn_eq {C:Cfg} {call:FuncId → List V → M V} {f:FuncId} {args bs:List V} (hk:C.kind f = .own) (hm:args.mapM (thawV true H) = some bs) (hb:bs.all V.closedV = true) :
  callV C call f args H = callV C call f bs H:=by
 simp only [callV,hk,callP,hm,mapM_closedV hb,Option.bind_some,if_true]
theorem Run.callOwn {C:Cfg} {call:FuncId → List V → M V} {f:FuncId} {args bs:List V} {Q:V → Heap → Prop} (hk:C.kind f = .own) (hm:args.mapM (thawV true H) = some bs) (hb:bs.all V.closedV = true)
  (h:Run (callV C call f bs) H Q):Run (callV C call f args) H Q:=by
 obtain ⟨r,H',e,q⟩:=h
 exact ⟨r,H',(callOwn_eq hk hm hb).trans e,q⟩
end
end Go.Fv
namespace Go.Fv
open Go
section
variable {H:Heap}
theorem Run.qAll {v:Nat → Bool} {m:M V} {P Q:V → Heap → Prop} (hv:∀ l,l < H.next → v l = true)
  (h:∀ K:Heap,K.next = H.next → K.floor ≤ K.next → (∀ l,l < H.next → K.blk l = H.blk l) → Run m K fun y K' => Frame K K' (fun _ => False) ∧ P y K')
  (q:∀ y K' H',P y K' → Frame H H' (fun _ => False) → H'.blk = K'.blk → H'.next = K'.next → Q y H'):Run (qrun v m) H Q:=by
 refine Run.qrunI ((h ⟨fun l => if v l then H.blk l else none,H.next,H.next⟩ rfl (Nat.le_refl _) (fun l hl => by simp only [hv l hl,if_true])).mono fun y K' ⟨f,p⟩ => ?_)
 refine q y K' _ p ⟨f.next,rfl,fun l hl _ => if_pos hl⟩ ?_ rfl
 funext l
 show (if l < H.next then H.blk l else K'.blk l) = K'.blk l
 by_cases hl:l < H.next
 ·rw [if_pos hl,f.old l hl id]
  simp only [hv l hl,if_true]
 ·rw [if_neg hl]
theorem Rd.same {K' H':Heap} {x:V} {sz:Nat} {rows:List (List V)} (h:Rd K' x sz rows) (hb:H'.blk = K'.blk) (hn:H'.next = K'.next):Rd H' x sz rows :=
 h.keep (by omega) fun l _ => by rw [hb]
theorem Run.appX {bytes:Nat} {x:V} {sz:Nat} {rows:List (List V)} (hH:H.floor ≤ H.next) (hx:Rd H x sz rows) (hr:rows.length * bytes ≤ room) :
  Run (appV sz bytes .emp x) H fun y H' => Own H' y sz rows ∧ Frame H H' (fun _ => False) ∧ ∀ m,loc y = some m → H.next ≤ m :=
 (Run.app hH (Own.emp H sz) hx.items (by simpa using hr)).mono fun y H' ⟨o,f,l⟩ => ⟨by simpa using o,f.mono (fun m _ h => (by cases h)),fun m hm => (l m hm).resolve_left (by intro h; cases h)⟩
theorem Frame.tr {H' H'':Heap} (a:Frame H H' (fun _ => False)) (b:Frame H' H'' (fun _ => False)):Frame H H'' (fun _ => False):=a.trans b (fun _ _ h => h) (fun _ _ h => h)
theorem Frame.ad {H':Heap} (a:Frame H H' (fun _ => False)) (b:Blk):Frame H (H'.add b) (fun _ => False):=a.tr (Frame.add _ _)
theorem Frame.st {H':Heap} (a:Frame H H' (fun _ => False)) {l:Nat} (hl:H.next ≤ l) (b:Blk):Frame H (H'.set l b) (fun _ => False) :=
 ⟨a.next,a.floor,fun m hm _ => by rw [Heap.set_blk,if_neg (by omega)]; exact a.old m hm id⟩
end
end Go.Fv
namespace Go.Fv.Tr
open Go Go.Fv Go.Fv.Pl Go.Proofs
variable {G:GV}
structure TB (t:Tab):Prop where
 wp:∀ p ∈ t.ps,Wp p
 big:t.ps.length ≤ big ∧ t.q.length ≤ big ∧ t.ts.length ≤ big
 fit:Small t
structure RdTab (H:Heap) (q:Nat → Prop) (x y z:V) (t:Tab):Prop where
 rp:Rd H x 21 (t.ps.map prRow)
 rq:Rd H y 1 (t.q.map intRow)
 rs:Rd H z 2 (t.ts.map tmRow)
 lx:∀ l,loc x = some l → q l
 ly:∀ l,loc y = some l → q l
 lz:∀ l,loc z = some l → q l
theorem RdTab.frame {H H':Heap} {q r:Nat → Prop} {x y z:V} {t:Tab} (h:RdTab H q x y z t) (f:Frame H H' r) (hr:∀ l,q l → ¬ r l):RdTab H' q x y z t :=
 ⟨h.rp.frame f fun l hl => hr l (h.lx l hl),h.rq.frame f fun l hl => hr l (h.ly l hl),h.rs.frame f fun l hl => hr l (h.lz l hl),h.lx,h.ly,h.lz⟩
theorem RdTab.same {H H':Heap} {q:Nat → Prop} {x y z:V} {t:Tab} (h:RdTab H q x y z t) (hb:H'.blk = H.blk) (hn:H'.next = H.next):RdTab H' q x y z t :=
 ⟨h.rp.same hb hn,h.rq.same hb hn,h.rs.same hb hn,h.lx,h.ly,h.lz⟩
theorem RdTab.imp {H:Heap} {q q':Nat → Prop} {x y z:V} {t:Tab} (h:RdTab H q x y z t) (hq:∀ l,l < H.next → q l → q' l):RdTab H q' x y z t :=
 ⟨h.rp,h.rq,h.rs,fun l hl => hq l (h.rp.lt hl) (h.lx l hl),fun l hl => hq l (h.rq.lt hl) (h.ly l hl),fun l hl => hq l (h.rs.lt hl) (h.lz l hl)⟩
theorem RdTab.thaw {H:Heap} {q:Nat → Prop} {x y z:V} {t:Tab} (h:RdTab H q x y z t) (hb:TB t):∃ x' y' z',thawV true H (.agg [x,y,z]) = some (.agg [x',y',z']) ∧ IsTab x' y' z' t:=by
 obtain ⟨a,ha,_,sa⟩:=h.rp.thaw (flat_pr _)
 obtain ⟨b,hb',_,sb⟩:=h.rq.thaw (flat_ir _)
 obtain ⟨c,hc,_,sc⟩:=h.rs.thaw (flat_tm _)
 exact ⟨a,b,c,by simp [thawV,ha,hb',hc],sa,sb,sc,hb.wp,hb.big⟩
theorem RdTab.cells {H:Heap} {q:Nat → Prop} {x y z:V} {t:Tab} (h:RdTab H q x y z t):x.cells? = some [x] ∧ y.cells? = some [y] ∧ z.cells? = some [z]:=⟨h.rp.cells,h.rq.cells,h.rs.cells⟩
theorem New.seen {H:Heap} {n:Nat} {x:V} {sz:Nat} {rows:List (List V)} {f:FuncId} (hk:(cfg G).kind f = .own) (hx:Rd H x sz rows) (hf:flatRows rows = true)
  (h:∀ y,Sls y sz rows → Run (callV (cfg G) (sem (cfg G) n) f [y]) H (New H sz rows)):Run (callV (cfg G) (sem (cfg G) n) f [x]) H (New H sz rows):=by
 obtain ⟨y,_,e,s⟩:=hx.thaw hf
 exact Run.callOwn hk (bs:=[y]) (by simp [e]) (by simp [s.closedV]) (h y s)
theorem clone76 (n:Nat) {x:V} {rows:List (List V)} (hx:Sls x 1 rows) (hf:flatRows rows = true) (hr:rows.length * 1 ≤ room) {H:Heap} (hH:H.floor ≤ H.next) :
  Run (callV (cfg G) (sem (cfg G) (n + 1)) 57 [x]) H (New H 1 rows):=by
 refine callV_own rfl (mapM_closedV (by simp [hx.closedV]) H) ?_
 rw [slices_Clone_bool_bool_eq]
 simp only [slices_Clone_bool_bool]
 rcases hx with rfl | ⟨rfl,rfl | rfl⟩
 ·(repeat' (first | (simp only [wp,extractV,w0,reduceIte,Nat.reduceAdd,Nat.reduceLT,Nat.reduceLeDiff,Nat.reduceEqDiff,eq_slimm,Run.slice0]) | (with_reducible ((first | apply xC | apply xG | apply xQ) <;> intro hb <;> try simp only [hb]))))
  refine (Run.app (bytes:=1) (Nat.le_refl _) (Own.emp _ _) (Sls.items (Sls.imm _ _) _) (by simpa using hr)).mono fun x' H' ⟨o,_,_⟩ => ?_
  (repeat' (first | (simp only [wp,extractV,w0,reduceIte,Nat.reduceAdd,Nat.reduceLT,Nat.reduceLeDiff,Nat.reduceEqDiff]) | (with_reducible ((first | apply xC | apply xG | apply xQ) <;> intro hb <;> try simp only [hb]))))
  exact o.hand hf hH
 ·(repeat' (first | (simp only [wp,extractV,w0,reduceIte,Nat.reduceAdd,Nat.reduceLT,Nat.reduceLeDiff,Nat.reduceEqDiff,eq_slnil]) | (with_reducible ((first | apply xC | apply xG | apply xQ) <;> intro hb <;> try simp only [hb]))))
  exact (Own.nils _ _).hand hf hH
 ·(repeat' (first | (simp only [wp,extractV,w0,reduceIte,Nat.reduceAdd,Nat.reduceLT,Nat.reduceLeDiff,Nat.reduceEqDiff,eq_slemp,Run.slice0]) | (with_reducible ((first | apply xC | apply xG | apply xQ) <;> intro hb <;> try simp only [hb]))))
  refine (Run.app (bytes:=1) (Nat.le_refl _) (Own.emp _ _) (Sls.items (Sls.emp _) _) (by simp)).mono fun x' H' ⟨o,_,_⟩ => ?_
  (repeat' (first | (simp only [wp,extractV,w0,reduceIte,Nat.reduceAdd,Nat.reduceLT,Nat.reduceLeDiff,Nat.reduceEqDiff]) | (with_reducible ((first | apply xC | apply xG | apply xQ) <;> intro hb <;> try simp only [hb]))))
  exact o.hand hf hH
theorem clone77 (n:Nat) {x:V} {rows:List (List V)} (hx:Sls x 66 rows) (hf:flatRows rows = true) (hr:rows.length * 80 ≤ room) {H:Heap} (hH:H.floor ≤ H.next) :
  Run (callV (cfg G) (sem (cfg G) (n + 1)) 59 [x]) H (New H 66 rows):=by
 refine callV_own rfl (mapM_closedV (by simp [hx.closedV]) H) ?_
 rw [slices_Clone_ferry_api_Page_ferry_api_Page_eq]
 simp only [slices_Clone_ferry_api_Page_ferry_api_Page]
 rcases hx with rfl | ⟨rfl,rfl | rfl⟩
 ·(repeat' (first | (simp only [wp,extractV,w0,reduceIte,Nat.reduceAdd,Nat.reduceLT,Nat.reduceLeDiff,Nat.reduceEqDiff,eq_slimm,Run.slice0]) | (with_reducible ((first | apply xC | apply xG | apply xQ) <;> intro hb <;> try simp only [hb]))))
  refine (Run.app (bytes:=80) (Nat.le_refl _) (Own.emp _ _) (Sls.items (Sls.imm _ _) _) (by simpa using hr)).mono fun x' H' ⟨o,_,_⟩ => ?_
  (repeat' (first | (simp only [wp,extractV,w0,reduceIte,Nat.reduceAdd,Nat.reduceLT,Nat.reduceLeDiff,Nat.reduceEqDiff]) | (with_reducible ((first | apply xC | apply xG | apply xQ) <;> intro hb <;> try simp only [hb]))))
  exact o.hand hf hH
 ·(repeat' (first | (simp only [wp,extractV,w0,reduceIte,Nat.reduceAdd,Nat.reduceLT,Nat.reduceLeDiff,Nat.reduceEqDiff,eq_slnil]) | (with_reducible ((first | apply xC | apply xG | apply xQ) <;> intro hb <;> try simp only [hb]))))
  exact (Own.nils _ _).hand hf hH
 ·(repeat' (first | (simp only [wp,extractV,w0,reduceIte,Nat.reduceAdd,Nat.reduceLT,Nat.reduceLeDiff,Nat.reduceEqDiff,eq_slemp,Run.slice0]) | (with_reducible ((first | apply xC | apply xG | apply xQ) <;> intro hb <;> try simp only [hb]))))
  refine (Run.app (bytes:=80) (Nat.le_refl _) (Own.emp _ _) (Sls.items (Sls.emp _) _) (by simp)).mono fun x' H' ⟨o,_,_⟩ => ?_
  (repeat' (first | (simp only [wp,extractV,w0,reduceIte,Nat.reduceAdd,Nat.reduceLT,Nat.reduceLeDiff,Nat.reduceEqDiff]) | (with_reducible ((first | apply xC | apply xG | apply xQ) <;> intro hb <;> try simp only [hb]))))
  exact o.hand hf hH
theorem clone79 (n:Nat) {x:V} {rows:List (List V)} (hx:Sls x 1 rows) (hf:flatRows rows = true) (hr:rows.length * 16 ≤ room) {H:Heap} (hH:H.floor ≤ H.next) :
  Run (callV (cfg G) (sem (cfg G) (n + 1)) 60 [x]) H (New H 1 rows):=by
 refine callV_own rfl (mapM_closedV (by simp [hx.closedV]) H) ?_
 rw [slices_Clone_string_string_eq]
 simp only [slices_Clone_string_string]
 rcases hx with rfl | ⟨rfl,rfl | rfl⟩
 ·(repeat' (first | (simp only [wp,extractV,w0,reduceIte,Nat.reduceAdd,Nat.reduceLT,Nat.reduceLeDiff,Nat.reduceEqDiff,eq_slimm,Run.slice0]) | (with_reducible ((first | apply xC | apply xG | apply xQ) <;> intro hb <;> try simp only [hb]))))
  refine (Run.app (bytes:=16) (Nat.le_refl _) (Own.emp _ _) (Sls.items (Sls.imm _ _) _) (by simpa using hr)).mono fun x' H' ⟨o,_,_⟩ => ?_
  (repeat' (first | (simp only [wp,extractV,w0,reduceIte,Nat.reduceAdd,Nat.reduceLT,Nat.reduceLeDiff,Nat.reduceEqDiff]) | (with_reducible ((first | apply xC | apply xG | apply xQ) <;> intro hb <;> try simp only [hb]))))
  exact o.hand hf hH
 ·(repeat' (first | (simp only [wp,extractV,w0,reduceIte,Nat.reduceAdd,Nat.reduceLT,Nat.reduceLeDiff,Nat.reduceEqDiff,eq_slnil]) | (with_reducible ((first | apply xC | apply xG | apply xQ) <;> intro hb <;> try simp only [hb]))))
  exact (Own.nils _ _).hand hf hH
 ·(repeat' (first | (simp only [wp,extractV,w0,reduceIte,Nat.reduceAdd,Nat.reduceLT,Nat.reduceLeDiff,Nat.reduceEqDiff,eq_slemp,Run.slice0]) | (with_reducible ((first | apply xC | apply xG | apply xQ) <;> intro hb <;> try simp only [hb]))))
  refine (Run.app (bytes:=16) (Nat.le_refl _) (Own.emp _ _) (Sls.items (Sls.emp _) _) (by simp)).mono fun x' H' ⟨o,_,_⟩ => ?_
  (repeat' (first | (simp only [wp,extractV,w0,reduceIte,Nat.reduceAdd,Nat.reduceLT,Nat.reduceLeDiff,Nat.reduceEqDiff]) | (with_reducible ((first | apply xC | apply xG | apply xQ) <;> intro hb <;> try simp only [hb]))))
  exact o.hand hf hH
theorem eq_slref {c:Bool} {l sz s n k:Nat} {ex:Bool}:eqV .slice c (.ref l sz s n k ex) .nils = some false:=rfl
theorem clone78 (n:Nat) {H:Heap} {x:V} {rows:List (List V)} (hx:Rd H x 2 rows) (hr:rows.length * 32 ≤ room) (hH:H.floor ≤ H.next) :
  Run (callV (cfg G) (sem (cfg G) (n + 1)) 58 [x]) H (New H 2 rows):=by
 rw [callV_inl rfl,slices_Clone_ferry_api_Port_ferry_api_Port_eq]
 simp only [slices_Clone_ferry_api_Port_ferry_api_Port]
 have hx0:=hx
 rcases hx with (rfl | ⟨rfl,rfl | rfl⟩) | ⟨l,s,m,c,ex,b,rfl,h1,h2,h3,rfl⟩
 ·(repeat' (first | (simp only [wp,extractV,w0,reduceIte,Nat.reduceAdd,Nat.reduceLT,Nat.reduceLeDiff,Nat.reduceEqDiff,eq_slimm,Run.slice0]) | (with_reducible ((first | apply xC | apply xG | apply xQ) <;> intro hb <;> try simp only [hb]))))
  refine (Run.appX hH hx0 hr).mono fun y H' h => ?_
  (repeat' (first | (simp only [wp,extractV,w0,reduceIte,Nat.reduceAdd,Nat.reduceLT,Nat.reduceLeDiff,Nat.reduceEqDiff]) | (with_reducible ((first | apply xC | apply xG | apply xQ) <;> intro hb <;> try simp only [hb]))))
  exact h
 ·(repeat' (first | (simp only [wp,extractV,w0,reduceIte,Nat.reduceAdd,Nat.reduceLT,Nat.reduceLeDiff,Nat.reduceEqDiff,eq_slnil]) | (with_reducible ((first | apply xC | apply xG | apply xQ) <;> intro hb <;> try simp only [hb]))))
  exact ⟨Own.nils _ _,Frame.refl _ _,fun l hl => by cases hl⟩
 ·(repeat' (first | (simp only [wp,extractV,w0,reduceIte,Nat.reduceAdd,Nat.reduceLT,Nat.reduceLeDiff,Nat.reduceEqDiff,eq_slemp,Run.slice0]) | (with_reducible ((first | apply xC | apply xG | apply xQ) <;> intro hb <;> try simp only [hb]))))
  refine (Run.appX hH hx0 hr).mono fun y H' h => ?_
  (repeat' (first | (simp only [wp,extractV,w0,reduceIte,Nat.reduceAdd,Nat.reduceLT,Nat.reduceLeDiff,Nat.reduceEqDiff]) | (with_reducible ((first | apply xC | apply xG | apply xQ) <;> intro hb <;> try simp only [hb]))))
  exact h
 ·(repeat' (first | (simp only [wp,extractV,w0,reduceIte,Nat.reduceAdd,Nat.reduceLT,Nat.reduceLeDiff,Nat.reduceEqDiff,eq_slref,Run.slice0]) | (with_reducible ((first | apply xC | apply xG | apply xQ) <;> intro hb <;> try simp only [hb]))))
  refine (Run.appX hH hx0 hr).mono fun y H' h => ?_
  (repeat' (first | (simp only [wp,extractV,w0,reduceIte,Nat.reduceAdd,Nat.reduceLT,Nat.reduceLeDiff,Nat.reduceEqDiff]) | (with_reducible ((first | apply xC | apply xG | apply xQ) <;> intro hb <;> try simp only [hb]))))
  exact h
end Go.Fv.Tr

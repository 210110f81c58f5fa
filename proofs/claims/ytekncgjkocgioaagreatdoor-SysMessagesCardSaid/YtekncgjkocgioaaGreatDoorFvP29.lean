/-
  The Go functions slices.Clone[bool,bool], slices.Clone[ferry/api.Page,ferry/api.Page], sli By an AI agent; no person has read it.
-/
import Derived.Test.YtekncgjkocgioaaGreatDoorFvP25
import Derived.Lib.ItoaNum
set_option linter.unusedVariables false
set_option linter.unusedSimpArgs false
set_option linter.unusedSectionVars false
/-! The Go functions slices.Clone[bool,bool], slices.Clone[ferry/api.Page,ferry/api.Page], sli -/
namespace Go.Fv.Tr
open Go Go.Fv Go.Proofs
set_option maxRecDepth 20000
noncomputable def slices_Clone_bool_bool (G:GV) (call:CV) (x0:V):M R :=
 (M.ret V.nils).bind fun aA =>
 (M.ret x0).bind fun aB =>
 (M.lift ((eqV .slice true aB V.nils).bind fun b => some (.bool b))).bind fun aC =>
 (condV aC
 ((M.ret V.nils).bind fun aD =>
 M.ret (Ex.ret,[aD]))
 ((sliceV 1 0 [(V.bool false)] []).bind fun aE =>
 (M.ret x0).bind fun aF =>
 (appV 1 1 aE aF).bind fun aG =>
 (M.ret aG).bind fun aH =>
 M.ret (Ex.ret,[aH])))
theorem slices_Clone_bool_bool_eq (G:GV) (n:Nat) (x0:V):sem (cfg G) (n + 1) 57 [x0] = outV (slices_Clone_bool_bool G (sem (cfg G) n) x0) :=
 (fnV_at (C:=cfg G) (n:=n) (f:=57) (fn:=Tryz.f57) (c:=Tryz.f57.body.getD .skip) (by kernel_rfl) (by kernel_rfl) (by kernel_rfl) [x0]).trans (by kernel_rfl)
noncomputable def slices_Clone_ferry_api_Page_ferry_api_Page (G:GV) (call:CV) (x0:V):M R :=
 (M.ret V.nils).bind fun aA =>
 (M.ret x0).bind fun aB =>
 (M.lift ((eqV .slice true aB V.nils).bind fun b => some (.bool b))).bind fun aC =>
 (condV aC
 ((M.ret V.nils).bind fun aD =>
 M.ret (Ex.ret,[aD]))
 ((sliceV 66 0 [(V.int .i64 0),(V.bool false),(V.int .u8 0),(V.int .u8 0),(V.int .u8 0),(V.int .u8 0),(V.int .u8 0),(V.int .u8 0),(V.int .u8 0),(V.int .u8 0),(V.int .u8 0),(V.int .u8 0),(V.int .u8 0),(V.int .u8 0),(V.int .u8 0),(V.int .u8 0),(V.int .u8 0),(V.int .u8 0),(V.int .u8 0),(V.int .u8 0),(V.int .u8 0),(V.int .u8 0),(V.int .u8 0),(V.int .u8 0),(V.int .u8 0),(V.int .u8 0),(V.int .u8 0),(V.int .u8 0),(V.int .u8 0),(V.int .u8 0),(V.int .u8 0),(V.int .u8 0),(V.int .u8 0),(V.int .u8 0),(V.int .u8 0),(V.int .u8 0),(V.int .u8 0),(V.int .u8 0),(V.int .u8 0),(V.int .u8 0),(V.int .u8 0),(V.int .u8 0),(V.int .u8 0),(V.int .u8 0),(V.int .u8 0),(V.int .u8 0),(V.int .u8 0),(V.int .u8 0),(V.int .u8 0),(V.int .u8 0),(V.int .u8 0),(V.int .u8 0),(V.int .u8 0),(V.int .u8 0),(V.int .u8 0),(V.int .u8 0),(V.int .u8 0),(V.int .u8 0),(V.int .u8 0),(V.int .u8 0),(V.int .u8 0),(V.int .u8 0),(V.int .u8 0),(V.int .u8 0),(V.int .u8 0),(V.int .u8 0)] []).bind fun aE =>
 (M.ret x0).bind fun aF =>
 (appV 66 80 aE aF).bind fun aG =>
 (M.ret aG).bind fun aH =>
 M.ret (Ex.ret,[aH])))
theorem slices_Clone_ferry_api_Page_ferry_api_Page_eq (G:GV) (n:Nat) (x0:V):sem (cfg G) (n + 1) 59 [x0] = outV (slices_Clone_ferry_api_Page_ferry_api_Page G (sem (cfg G) n) x0) :=
 (fnV_at (C:=cfg G) (n:=n) (f:=59) (fn:=Tryz.f59) (c:=Tryz.f59.body.getD .skip) (by kernel_rfl) (by kernel_rfl) (by kernel_rfl) [x0]).trans (by kernel_rfl)
noncomputable def slices_Clone_string_string (G:GV) (call:CV) (x0:V):M R :=
 (M.ret V.nils).bind fun aA =>
 (M.ret x0).bind fun aB =>
 (M.lift ((eqV .slice true aB V.nils).bind fun b => some (.bool b))).bind fun aC =>
 (condV aC
 ((M.ret V.nils).bind fun aD =>
 M.ret (Ex.ret,[aD]))
 ((sliceV 1 0 [(V.str ⟨#[]⟩)] []).bind fun aE =>
 (M.ret x0).bind fun aF =>
 (appV 1 16 aE aF).bind fun aG =>
 (M.ret aG).bind fun aH =>
 M.ret (Ex.ret,[aH])))
theorem slices_Clone_string_string_eq (G:GV) (n:Nat) (x0:V):sem (cfg G) (n + 1) 60 [x0] = outV (slices_Clone_string_string G (sem (cfg G) n) x0) :=
 (fnV_at (C:=cfg G) (n:=n) (f:=60) (fn:=Tryz.f60) (c:=Tryz.f60.body.getD .skip) (by kernel_rfl) (by kernel_rfl) (by kernel_rfl) [x0]).trans (by kernel_rfl)
noncomputable def slices_Clone_ferry_api_Port_ferry_api_Port (G:GV) (call:CV) (x0:V):M R :=
 (M.ret V.nils).bind fun aA =>
 (M.ret x0).bind fun aB =>
 (M.lift ((eqV .slice true aB V.nils).bind fun b => some (.bool b))).bind fun aC =>
 (condV aC
 ((M.ret V.nils).bind fun aD =>
 M.ret (Ex.ret,[aD]))
 ((sliceV 2 0 [V.nils,(V.int .i64 0)] []).bind fun aE =>
 (M.ret x0).bind fun aF =>
 (appV 2 32 aE aF).bind fun aG =>
 (M.ret aG).bind fun aH =>
 M.ret (Ex.ret,[aH])))
theorem slices_Clone_ferry_api_Port_ferry_api_Port_eq (G:GV) (n:Nat) (x0:V):sem (cfg G) (n + 1) 58 [x0] = outV (slices_Clone_ferry_api_Port_ferry_api_Port G (sem (cfg G) n) x0) :=
 (fnV_at (C:=cfg G) (n:=n) (f:=58) (fn:=Tryz.f58) (c:=Tryz.f58.body.getD .skip) (by kernel_rfl) (by kernel_rfl) (by kernel_rfl) [x0]).trans (by kernel_rfl)
noncomputable def ferry_ready_Of (G:GV) (call:CV) (x0:V):M R :=
 (newV x0).bind fun aA =>
 (newV (.agg [V.nils,V.nils,V.nils])).bind fun aB =>
 (getN.bind fun n3 =>
 (M.lift (padd 3 aA)).bind fun aC =>
 getN.bind fun n5 =>
 (load1 aC).bind fun aD =>
 getN.bind fun n7 =>
 (qrun (visB n3 [(n5,n7,true),(n3,n5,true)]) (callV (cfg G) call 54 [aD])).bind fun aE =>
 getN.bind fun n9 =>
 (M.lift (padd 4 aA)).bind fun aF =>
 getN.bind fun aG =>
 (load1 aF).bind fun aH =>
 getN.bind fun aI =>
 (qrun (visB n3 [(aG,aI,true),(n9,aG,true),(n7,n9,true),(n5,n7,true),(n3,n5,true)]) (callV (cfg G) call 55 [aH])).bind fun aJ =>
 getN.bind fun aK =>
 (M.lift (padd 5 aA)).bind fun aL =>
 getN.bind fun aM =>
 (load1 aL).bind fun aN =>
 getN.bind fun aO =>
 (qrun (visB n3 [(aM,aO,true),(aK,aM,true),(aI,aK,true),(aG,aI,true),(n9,aG,true),(n7,n9,true),(n5,n7,true),(n3,n5,true)]) (callV (cfg G) call 56 [aN])).bind fun aP =>
 (M.lift (buildV [V.nils,V.nils,V.nils] [(0,1,aE),(1,1,aJ),(2,1,aP)])).bind fun aQ =>
 (storeN 3 aB aQ).bind fun _ =>
 (((loadN 3 aB)).bind fun v => (M.ret []).bind fun l => M.ret (v :: l)).bind fun l => M.ret (Ex.ret,tupV l))
theorem ferry_ready_Of_eq (G:GV) (n:Nat) (x0:V):sem (cfg G) (n + 1) 135 [x0] = outV (ferry_ready_Of G (sem (cfg G) n) x0) :=
 (fnV_at (C:=cfg G) (n:=n) (f:=135) (fn:=Tryz.f135) (c:=Tryz.f135.body.getD .skip) (by kernel_rfl) (by kernel_rfl) (by kernel_rfl) [x0]).trans (by kernel_rfl)
end Go.Fv.Tr
namespace Go.Fv
open Go
def bs (l:List UInt8):ByteArray:=⟨l.toArray⟩
theorem bs_size (l:List UInt8):(bs l).size = l.length:=rfl
theorem bs_toList (s:ByteArray):bs s.data.toList = s:=by cases s; simp [bs]
theorem bs_data (l:List UInt8):(bs l).data.toList = l:=by simp [bs]
theorem loop_eq (s : ByteArray) : ∀ (k i : Nat) (r : List UInt8), s.size - i = k → ByteArray.toList.loop s i r = r.reverse ++ s.data.toList.drop i
  | 0, i, r, h => by
    have hle : s.data.toList.length ≤ i := by have : s.size = s.data.toList.length := by simp
                                              omega
    rw [ByteArray.toList.loop,if_neg (by omega),List.drop_of_length_le hle,List.append_nil]
  | k + 1, i, r, h => by
    have hlt:i < s.size:=by omega
    have hl : i < s.data.toList.length := by have : s.size = s.data.toList.length := by simp
                                             omega
    have hg : s.get! i = s.data.toList[i] := by
      have:s.get! i = s.data[i]!:=by cases s; rfl
      rw [this,getElem!_pos s.data i hlt,Array.getElem_toList]
    rw [ByteArray.toList.loop,if_pos hlt,loop_eq s k (i + 1) _ (by omega),List.drop_eq_getElem_cons hl,hg]
    simp
theorem toList_data (s:ByteArray):s.toList = s.data.toList:=by
 unfold ByteArray.toList
 rw [loop_eq s s.size 0 [] rfl]
 simp
theorem bs_eqb (a b:List UInt8):((bs a).toList == (bs b).toList) = (a == b):=by
 have h1:(bs a).toList = a:=by rw [toList_data]; exact bs_data a
 have h2:(bs b).toList = b:=by rw [toList_data]; exact bs_data b
 rw [h1,h2]
def byR (l:List UInt8):List (List V):=l.map fun b => [V.int .u8 (b.toNat:Int)]
theorem byR_len (l:List UInt8):(byR l).length = l.length:=List.length_map _
theorem byR_rows (l:List UInt8):bytesRows (bs l) = byR l:=by simp [bytesRows,bs,byR]
theorem bytesOf_byR (l : List UInt8) : bytesOf (byR l) = some (bs l) := by
  have : (byR l).mapM byteOf = some l := by
    induction l with
    | nil => rfl
    | cons b l ih =>
      have e:byR (b :: l) = [V.int .u8 (b.toNat:Int)] :: byR l:=rfl
      rw [e,List.mapM_cons,ih]
      have:byteOf [V.int .u8 (b.toNat:Int)] = some b:=by simp [byteOf]
      rw [this]
      rfl
  simp [bytesOf,this,bs]
section
variable {H:Heap} {x:V} {l:List UInt8} {sz:Nat} {rows:List (List V)}
theorem Run.readB {Q:V → Heap → Prop} {x:V} (hi:itemsV 1 x H = some (byR l)) (hx:∀ s,x ≠ .str s):Run (readBytes x) H Q ↔ Q (.str (bs l)) H:=by
 refine Run.eq ?_
 unfold readBytes
 split
 ·rename_i s; exact absurd rfl (hx s)
 ·rw [hi,Option.bind_some,bytesOf_byR]; rfl
theorem Own.items (h:Own H x sz rows):itemsV sz x H = some rows:=by
 rcases h with ⟨rfl | rfl,rfl⟩ | ⟨l,n,c,ex,b,rfl,h1,h2,h3,h4,h5,rfl⟩
 ·rfl
 ·rfl
 ·have:n ≤ b.rows.length:=by omega
  simp [itemsV,h1,this]
theorem Own.notStr (h:Own H x sz rows):∀ s,x ≠ .str s:=by
 rcases h with ⟨rfl | rfl,_⟩ | ⟨l,n,c,ex,b,rfl,_⟩ <;> intro s e <;> cases e
theorem Run.readOwn {Q:V → Heap → Prop} (h:Own H x 1 (byR l)):Run (readBytes x) H Q ↔ Q (.str (bs l)) H:=Run.readB h.items h.notStr
end
theorem str_eq {c:Bool} {a b:List UInt8}:eqV (.sc .str) c (.str (bs a)) (.str (bs b)) = some (a == b):=by rw [eq_str,bs_eqb]
theorem str_len {a:List UInt8}:lenS (.str (bs a)) = some (.int .i64 (a.length:Int)):=rfl
theorem arith_rem {a b:Int} (h:b ≠ 0):arithV .rem (.int .i64 a) (.int .i64 b) = some (.int .i64 (a.tmod b)):=by simp [arithV,h]
theorem arith_quo {a b:Int} (h:b ≠ 0) (h1:-9223372036854775808 ≤ a.tdiv b) (h2:a.tdiv b ≤ 9223372036854775807):arithV .quo (.int .i64 a) (.int .i64 b) = some (.int .i64 (a.tdiv b)):=by
 have:IntKind.i64.wrap (a.tdiv b) = a.tdiv b:=Go.IntWalk.i64_in _ ⟨h1,h2⟩
 simp [arithV,h,this]
end Go.Fv
namespace Go.Fv
open Go
theorem Own.grow {H H':Heap} {x:V} {sz:Nat} {rows:List (List V)} (h:Own H x sz rows) (f:Frame H H' (fun _ => False)):Own H' x sz rows:=by
 rcases h with h | ⟨l,n,c,ex,b,rfl,h1,h2,h3,h4⟩
 ·exact .inl h
 ·exact .inr ⟨l,n,c,ex,b,rfl,(f.old l h3 id).trans h1,by rw [f.floor]; exact h2,Nat.lt_of_lt_of_le h3 f.next,h4⟩
end Go.Fv
namespace Go.Fv
open Go
end Go.Fv
namespace Go.Fv
open Go
section
variable {H H':Heap} {x:V} {sz:Nat} {rows:List (List V)}
def Rd (H:Heap) (x:V) (sz:Nat) (rows:List (List V)):Prop :=
 Sls x sz rows ∨ ∃ l s n c ex b,x = .ref l sz s n c ex ∧ H.blk l = some b ∧ l < H.next ∧ s + n ≤ b.rows.length ∧ (b.rows.drop s).take n = rows
theorem Rd.keep (h:Rd H x sz rows) (hn:H.next ≤ H'.next) (hk:∀ l,loc x = some l → H'.blk l = H.blk l):Rd H' x sz rows:=by
 rcases h with h | ⟨l,s,n,c,ex,b,rfl,h1,h2,h3,h4⟩
 ·exact .inl h
 ·exact .inr ⟨l,s,n,c,ex,b,rfl,(hk l rfl).trans h1,Nat.lt_of_lt_of_le h2 hn,h3,h4⟩
theorem Rd.lt (h:Rd H x sz rows) {l:Nat} (hl:loc x = some l):l < H.next:=by
 rcases h with h | ⟨l',s,n,c,ex,b,rfl,h1,h2,h3,h4⟩
 ·rcases h with rfl | ⟨_,rfl | rfl⟩ <;> cases hl
 ·cases hl; exact h2
theorem Rd.frame (h:Rd H x sz rows) {p:Nat → Prop} (f:Frame H H' p) (hp:∀ l,loc x = some l → ¬ p l):Rd H' x sz rows :=
 h.keep f.next fun l hl => f.old l (h.lt hl) (hp l hl)
theorem Rd.len (h:Rd H x sz rows):lenV x = some (.int .i64 (rows.length:Int)):=by
 rcases h with h | ⟨l,s,n,c,ex,b,rfl,h1,h2,h3,rfl⟩
 ·exact h.len
 ·have:((b.rows.drop s).take n).length = n:=by rw [List.length_take,List.length_drop]; omega
  rw [this]; rfl
theorem Rd.items (h:Rd H x sz rows):itemsV sz x H = some rows:=by
 rcases h with h | ⟨l,s,n,c,ex,b,rfl,h1,h2,h3,rfl⟩
 ·exact h.items H
 ·simp [itemsV,h1,h3]
theorem Rd.cells (h:Rd H x sz rows):x.cells? = some [x]:=by
 rcases h with h | ⟨l,s,n,c,ex,b,rfl,_⟩
 ·exact h.cells
 ·rfl
theorem Rd.cell (h:Rd H x sz rows):x.isCell = true:=by
 rcases h with h | ⟨l,s,n,c,ex,b,rfl,_⟩
 ·rcases h with rfl | ⟨_,rfl | rfl⟩ <;> rfl
 ·rfl
theorem Rd.thaw (h:Rd H x sz rows) (hf:flatRows rows = true):∃ y,thaw true H x = some y ∧ thawV true H x = some y ∧ Sls y sz rows:=by
 rcases h with h | ⟨l,s,n,c,ex,b,rfl,h1,h2,h3,rfl⟩
 ·exact ⟨x,thaw_closed h.closed H,thawV_closed h.closedV H,h⟩
 ·refine ⟨.imm sz ((b.rows.drop s).take n),?_,?_,Sls.imm _ _⟩ <;> simp [Fv.thawV,Fv.thaw,h1,h3,hf]
theorem Rd.idx (h:Rd H x sz rows) {k:IntKind} {i:Nat} (hi:i < rows.length):∃ p,idxV sz x (.int k (i:Int)) = some p ∧ placeV p H = some (rows[i],0) ∧ ∀ o,∃ q,padd o p = some q ∧ placeV q H = some (rows[i],o):=by
 rcases h with h | ⟨l,s,n,c,ex,b,rfl,h1,h2,h3,rfl⟩
 ·exact ⟨_,h.idx hi,rfl,fun o => ⟨.iptr rows[i] (0 + o),rfl,by simp [placeV]⟩⟩
 ·have hn:i < n:=by rw [List.length_take] at hi; omega
  have hr:b.rows[s + i]? = some ((b.rows.drop s).take n)[i]:=by
   rw [List.getElem_take,List.getElem_drop]
   exact List.getElem?_eq_getElem _
  refine ⟨.ptr l (s + i) 0,by simp [idxV,hn],by simp only [placeV,h1,Option.bind_some,hr],fun o => ⟨.ptr l (s + i) (0 + o),rfl,by simp only [placeV,h1,Option.bind_some,hr,Nat.zero_add]⟩⟩
theorem Run.loadAt {p:V} {row:List V} {o:Nat} {v:V} {Q:V → Heap → Prop} (h:placeV p H = some (row,o)) (hv:row[o]? = some v):Run (load1 p) H Q ↔ Q v H :=
 Run.eq (by simp [load1,h,hv])
theorem callOwn_eq {C:Cfg} {call:FuncId → List V → M V} {f:FuncId} {args bs:List V} (hk:C.kind f = .own) (hm:args.mapM (thawV true H) = some bs) (hb:bs.all V.closedV = true) :
  callV C call f args H = callV C call f bs H:=by
 simp only [callV,hk,callP,hm,mapM_closedV hb,Option.bind_some,if_true]
theorem Run.callOwn {C:Cfg} {call:FuncId → List V → M V} {f:FuncId} {args bs:List V} {Q:V → Heap → Prop} (hk:C.kind f = .own) (hm:args.mapM (thawV true H) = some bs) (hb:bs.all V.closedV = true)
  (h:Run (callV C call f bs) H Q):Run (callV C call f args) H Q:=by
 obtain ⟨r,H',e,q⟩:=h
 exact ⟨r,H',(callOwn_eq hk hm hb).trans e,q⟩
end
end Go.Fv
namespace Go.Fv
open Go
section
variable {H:Heap}
theorem Run.qAll {v:Nat → Bool} {m:M V} {P Q:V → Heap → Prop} (hv:∀ l,l < H.next → v l = true)
  (h:∀ K:Heap,K.next = H.next → K.floor ≤ K.next → (∀ l,l < H.next → K.blk l = H.blk l) → Run m K fun y K' => Frame K K' (fun _ => False) ∧ P y K')
  (q:∀ y K' H',P y K' → Frame H H' (fun _ => False) → H'.blk = K'.blk → H'.next = K'.next → Q y H'):Run (qrun v m) H Q:=by
 refine Run.qrunI ((h ⟨fun l => if v l then H.blk l else none,H.next,H.next⟩ rfl (Nat.le_refl _) (fun l hl => by simp only [hv l hl,if_true])).mono fun y K' ⟨f,p⟩ => ?_)
 refine q y K' _ p ⟨f.next,rfl,fun l hl _ => if_pos hl⟩ ?_ rfl
 funext l
 show (if l < H.next then H.blk l else K'.blk l) = K'.blk l
 by_cases hl:l < H.next
 ·rw [if_pos hl,f.old l hl id]
  simp only [hv l hl,if_true]
 ·rw [if_neg hl]
theorem Rd.same {K' H':Heap} {x:V} {sz:Nat} {rows:List (List V)} (h:Rd K' x sz rows) (hb:H'.blk = K'.blk) (hn:H'.next = K'.next):Rd H' x sz rows :=
 h.keep (by omega) fun l _ => by rw [hb]
theorem Run.appX {bytes:Nat} {x:V} {sz:Nat} {rows:List (List V)} (hH:H.floor ≤ H.next) (hx:Rd H x sz rows) (hr:rows.length * bytes ≤ room) :
  Run (appV sz bytes .emp x) H fun y H' => Own H' y sz rows ∧ Frame H H' (fun _ => False) ∧ ∀ m,loc y = some m → H.next ≤ m :=
 (Run.app hH (Own.emp H sz) hx.items (by simpa using hr)).mono fun y H' ⟨o,f,l⟩ => ⟨by simpa using o,f.mono (fun m _ h => (by cases h)),fun m hm => (l m hm).resolve_left (by intro h; cases h)⟩
theorem Frame.tr {H' H'':Heap} (a:Frame H H' (fun _ => False)) (b:Frame H' H'' (fun _ => False)):Frame H H'' (fun _ => False):=a.trans b (fun _ _ h => h) (fun _ _ h => h)
theorem Frame.ad {H':Heap} (a:Frame H H' (fun _ => False)) (b:Blk):Frame H (H'.add b) (fun _ => False):=a.tr (Frame.add _ _)
theorem Frame.st {H':Heap} (a:Frame H H' (fun _ => False)) {l:Nat} (hl:H.next ≤ l) (b:Blk):Frame H (H'.set l b) (fun _ => False) :=
 ⟨a.next,a.floor,fun m hm _ => by rw [Heap.set_blk,if_neg (by omega)]; exact a.old m hm id⟩
end
end Go.Fv
namespace Go.Fv.Tr
open Go Go.Fv Go.Fv.Pl Go.Proofs
variable {G:GV}
structure TB (t:Tab):Prop where
 wp:∀ p ∈ t.ps,Wp p
 big:t.ps.length ≤ big ∧ t.q.length ≤ big ∧ t.ts.length ≤ big
 fit:Small t
structure RdTab (H:Heap) (q:Nat → Prop) (x y z:V) (t:Tab):Prop where
 rp:Rd H x 21 (t.ps.map prRow)
 rq:Rd H y 1 (t.q.map intRow)
 rs:Rd H z 2 (t.ts.map tmRow)
 lx:∀ l,loc x = some l → q l
 ly:∀ l,loc y = some l → q l
 lz:∀ l,loc z = some l → q l
theorem RdTab.frame {H H':Heap} {q r:Nat → Prop} {x y z:V} {t:Tab} (h:RdTab H q x y z t) (f:Frame H H' r) (hr:∀ l,q l → ¬ r l):RdTab H' q x y z t :=
 ⟨h.rp.frame f fun l hl => hr l (h.lx l hl),h.rq.frame f fun l hl => hr l (h.ly l hl),h.rs.frame f fun l hl => hr l (h.lz l hl),h.lx,h.ly,h.lz⟩
theorem RdTab.same {H H':Heap} {q:Nat → Prop} {x y z:V} {t:Tab} (h:RdTab H q x y z t) (hb:H'.blk = H.blk) (hn:H'.next = H.next):RdTab H' q x y z t :=
 ⟨h.rp.same hb hn,h.rq.same hb hn,h.rs.same hb hn,h.lx,h.ly,h.lz⟩
theorem RdTab.imp {H:Heap} {q q':Nat → Prop} {x y z:V} {t:Tab} (h:RdTab H q x y z t) (hq:∀ l,l < H.next → q l → q' l):RdTab H q' x y z t :=
 ⟨h.rp,h.rq,h.rs,fun l hl => hq l (h.rp.lt hl) (h.lx l hl),fun l hl => hq l (h.rq.lt hl) (h.ly l hl),fun l hl => hq l (h.rs.lt hl) (h.lz l hl)⟩
theorem RdTab.thaw {H:Heap} {q:Nat → Prop} {x y z:V} {t:Tab} (h:RdTab H q x y z t) (hb:TB t):∃ x' y' z',thawV true H (.agg [x,y,z]) = some (.agg [x',y',z']) ∧ IsTab x' y' z' t:=by
 obtain ⟨a,ha,_,sa⟩:=h.rp.thaw (flat_pr _)
 obtain ⟨b,hb',_,sb⟩:=h.rq.thaw (flat_ir _)
 obtain ⟨c,hc,_,sc⟩:=h.rs.thaw (flat_tm _)
 exact ⟨a,b,c,by simp [thawV,ha,hb',hc],sa,sb,sc,hb.wp,hb.big⟩
theorem RdTab.cells {H:Heap} {q:Nat → Prop} {x y z:V} {t:Tab} (h:RdTab H q x y z t):x.cells? = some [x] ∧ y.cells? = some [y] ∧ z.cells? = some [z]:=⟨h.rp.cells,h.rq.cells,h.rs.cells⟩
theorem New.seen {H:Heap} {n:Nat} {x:V} {sz:Nat} {rows:List (List V)} {f:FuncId} (hk:(cfg G).kind f = .own) (hx:Rd H x sz rows) (hf:flatRows rows = true)
  (h:∀ y,Sls y sz rows → Run (callV (cfg G) (sem (cfg G) n) f [y]) H (New H sz rows)):Run (callV (cfg G) (sem (cfg G) n) f [x]) H (New H sz rows):=by
 obtain ⟨y,_,e,s⟩:=hx.thaw hf
 exact Run.callOwn hk (bs:=[y]) (by simp [e]) (by simp [s.closedV]) (h y s)
theorem clone76 (n:Nat) {x:V} {rows:List (List V)} (hx:Sls x 1 rows) (hf:flatRows rows = true) (hr:rows.length * 1 ≤ room) {H:Heap} (hH:H.floor ≤ H.next) :
  Run (callV (cfg G) (sem (cfg G) (n + 1)) 57 [x]) H (New H 1 rows):=by
 refine callV_own rfl (mapM_closedV (by simp [hx.closedV]) H) ?_
 rw [slices_Clone_bool_bool_eq]
 simp only [slices_Clone_bool_bool]
 rcases hx with rfl | ⟨rfl,rfl | rfl⟩
 ·(repeat' (first | (simp only [wp,extractV,w0,reduceIte,Nat.reduceAdd,Nat.reduceLT,Nat.reduceLeDiff,Nat.reduceEqDiff,eq_slimm,Run.slice0]) | (with_reducible ((first | apply xC | apply xG | apply xQ) <;> intro hb <;> try simp only [hb]))))
  refine (Run.app (bytes:=1) (Nat.le_refl _) (Own.emp _ _) (Sls.items (Sls.imm _ _) _) (by simpa using hr)).mono fun x' H' ⟨o,_,_⟩ => ?_
  (repeat' (first | (simp only [wp,extractV,w0,reduceIte,Nat.reduceAdd,Nat.reduceLT,Nat.reduceLeDiff,Nat.reduceEqDiff]) | (with_reducible ((first | apply xC | apply xG | apply xQ) <;> intro hb <;> try simp only [hb]))))
  exact o.hand hf hH
 ·(repeat' (first | (simp only [wp,extractV,w0,reduceIte,Nat.reduceAdd,Nat.reduceLT,Nat.reduceLeDiff,Nat.reduceEqDiff,eq_slnil]) | (with_reducible ((first | apply xC | apply xG | apply xQ) <;> intro hb <;> try simp only [hb]))))
  exact (Own.nils _ _).hand hf hH
 ·(repeat' (first | (simp only [wp,extractV,w0,reduceIte,Nat.reduceAdd,Nat.reduceLT,Nat.reduceLeDiff,Nat.reduceEqDiff,eq_slemp,Run.slice0]) | (with_reducible ((first | apply xC | apply xG | apply xQ) <;> intro hb <;> try simp only [hb]))))
  refine (Run.app (bytes:=1) (Nat.le_refl _) (Own.emp _ _) (Sls.items (Sls.emp _) _) (by simp)).mono fun x' H' ⟨o,_,_⟩ => ?_
  (repeat' (first | (simp only [wp,extractV,w0,reduceIte,Nat.reduceAdd,Nat.reduceLT,Nat.reduceLeDiff,Nat.reduceEqDiff]) | (with_reducible ((first | apply xC | apply xG | apply xQ) <;> intro hb <;> try simp only [hb]))))
  exact o.hand hf hH
theorem clone77 (n:Nat) {x:V} {rows:List (List V)} (hx:Sls x 66 rows) (hf:flatRows rows = true) (hr:rows.length * 80 ≤ room) {H:Heap} (hH:H.floor ≤ H.next) :
  Run (callV (cfg G) (sem (cfg G) (n + 1)) 59 [x]) H (New H 66 rows):=by
 refine callV_own rfl (mapM_closedV (by simp [hx.closedV]) H) ?_
 rw [slices_Clone_ferry_api_Page_ferry_api_Page_eq]
 simp only [slices_Clone_ferry_api_Page_ferry_api_Page]
 rcases hx with rfl | ⟨rfl,rfl | rfl⟩
 ·(repeat' (first | (simp only [wp,extractV,w0,reduceIte,Nat.reduceAdd,Nat.reduceLT,Nat.reduceLeDiff,Nat.reduceEqDiff,eq_slimm,Run.slice0]) | (with_reducible ((first | apply xC | apply xG | apply xQ) <;> intro hb <;> try simp only [hb]))))
  refine (Run.app (bytes:=80) (Nat.le_refl _) (Own.emp _ _) (Sls.items (Sls.imm _ _) _) (by simpa using hr)).mono fun x' H' ⟨o,_,_⟩ => ?_
  (repeat' (first | (simp only [wp,extractV,w0,reduceIte,Nat.reduceAdd,Nat.reduceLT,Nat.reduceLeDiff,Nat.reduceEqDiff]) | (with_reducible ((first | apply xC | apply xG | apply xQ) <;> intro hb <;> try simp only [hb]))))
  exact o.hand hf hH
 ·(repeat' (first | (simp only [wp,extractV,w0,reduceIte,Nat.reduceAdd,Nat.reduceLT,Nat.reduceLeDiff,Nat.reduceEqDiff,eq_slnil]) | (with_reducible ((first | apply xC | apply xG | apply xQ) <;> intro hb <;> try simp only [hb]))))
  exact (Own.nils _ _).hand hf hH
 ·(repeat' (first | (simp only [wp,extractV,w0,reduceIte,Nat.reduceAdd,Nat.reduceLT,Nat.reduceLeDiff,Nat.reduceEqDiff,eq_slemp,Run.slice0]) | (with_reducible ((first | apply xC | apply xG | apply xQ) <;> intro hb <;> try simp only [hb]))))
  refine (Run.app (bytes:=80) (Nat.le_refl _) (Own.emp _ _) (Sls.items (Sls.emp _) _) (by simp)).mono fun x' H' ⟨o,_,_⟩ => ?_
  (repeat' (first | (simp only [wp,extractV,w0,reduceIte,Nat.reduceAdd,Nat.reduceLT,Nat.reduceLeDiff,Nat.reduceEqDiff]) | (with_reducible ((first | apply xC | apply xG | apply xQ) <;> intro hb <;> try simp only [hb]))))
  exact o.hand hf hH
theorem clone79 (n:Nat) {x:V} {rows:List (List V)} (hx:Sls x 1 rows) (hf:flatRows rows = true) (hr:rows.length * 16 ≤ room) {H:Heap} (hH:H.floor ≤ H.next) :
  Run (callV (cfg G) (sem (cfg G) (n + 1)) 60 [x]) H (New H 1 rows):=by
 refine callV_own rfl (mapM_closedV (by simp [hx.closedV]) H) ?_
 rw [slices_Clone_string_string_eq]
 simp only [slices_Clone_string_string]
 rcases hx with rfl | ⟨rfl,rfl | rfl⟩
 ·(repeat' (first | (simp only [wp,extractV,w0,reduceIte,Nat.reduceAdd,Nat.reduceLT,Nat.reduceLeDiff,Nat.reduceEqDiff,eq_slimm,Run.slice0]) | (with_reducible ((first | apply xC | apply xG | apply xQ) <;> intro hb <;> try simp only [hb]))))
  refine (Run.app (bytes:=16) (Nat.le_refl _) (Own.emp _ _) (Sls.items (Sls.imm _ _) _) (by simpa using hr)).mono fun x' H' ⟨o,_,_⟩ => ?_
  (repeat' (first | (simp only [wp,extractV,w0,reduceIte,Nat.reduceAdd,Nat.reduceLT,Nat.reduceLeDiff,Nat.reduceEqDiff]) | (with_reducible ((first | apply xC | apply xG | apply xQ) <;> intro hb <;> try simp only [hb]))))
  exact o.hand hf hH
 ·(repeat' (first | (simp only [wp,extractV,w0,reduceIte,Nat.reduceAdd,Nat.reduceLT,Nat.reduceLeDiff,Nat.reduceEqDiff,eq_slnil]) | (with_reducible ((first | apply xC | apply xG | apply xQ) <;> intro hb <;> try simp only [hb]))))
  exact (Own.nils _ _).hand hf hH
 ·(repeat' (first | (simp only [wp,extractV,w0,reduceIte,Nat.reduceAdd,Nat.reduceLT,Nat.reduceLeDiff,Nat.reduceEqDiff,eq_slemp,Run.slice0]) | (with_reducible ((first | apply xC | apply xG | apply xQ) <;> intro hb <;> try simp only [hb]))))
  refine (Run.app (bytes:=16) (Nat.le_refl _) (Own.emp _ _) (Sls.items (Sls.emp _) _) (by simp)).mono fun x' H' ⟨o,_,_⟩ => ?_
  (repeat' (first | (simp only [wp,extractV,w0,reduceIte,Nat.reduceAdd,Nat.reduceLT,Nat.reduceLeDiff,Nat.reduceEqDiff]) | (with_reducible ((first | apply xC | apply xG | apply xQ) <;> intro hb <;> try simp only [hb]))))
  exact o.hand hf hH
theorem eq_slref {c:Bool} {l sz s n k:Nat} {ex:Bool}:eqV .slice c (.ref l sz s n k ex) .nils = some false:=rfl
theorem clone78 (n:Nat) {H:Heap} {x:V} {rows:List (List V)} (hx:Rd H x 2 rows) (hr:rows.length * 32 ≤ room) (hH:H.floor ≤ H.next) :
  Run (callV (cfg G) (sem (cfg G) (n + 1)) 58 [x]) H (New H 2 rows):=by
 rw [callV_inl rfl,slices_Clone_ferry_api_Port_ferry_api_Port_eq]
 simp only [slices_Clone_ferry_api_Port_ferry_api_Port]
 have hx0:=hx
 rcases hx with (rfl | ⟨rfl,rfl | rfl⟩) | ⟨l,s,m,c,ex,b,rfl,h1,h2,h3,rfl⟩
 ·(repeat' (first | (simp only [wp,extractV,w0,reduceIte,Nat.reduceAdd,Nat.reduceLT,Nat.reduceLeDiff,Nat.reduceEqDiff,eq_slimm,Run.slice0]) | (with_reducible ((first | apply xC | apply xG | apply xQ) <;> intro hb <;> try simp only [hb]))))
  refine (Run.appX hH hx0 hr).mono fun y H' h => ?_
  (repeat' (first | (simp only [wp,extractV,w0,reduceIte,Nat.reduceAdd,Nat.reduceLT,Nat.reduceLeDiff,Nat.reduceEqDiff]) | (with_reducible ((first | apply xC | apply xG | apply xQ) <;> intro hb <;> try simp only [hb]))))
  exact h
 ·(repeat' (first | (simp only [wp,extractV,w0,reduceIte,Nat.reduceAdd,Nat.reduceLT,Nat.reduceLeDiff,Nat.reduceEqDiff,eq_slnil]) | (with_reducible ((first | apply xC | apply xG | apply xQ) <;> intro hb <;> try simp only [hb]))))
  exact ⟨Own.nils _ _,Frame.refl _ _,fun l hl => by cases hl⟩
 ·(repeat' (first | (simp only [wp,extractV,w0,reduceIte,Nat.reduceAdd,Nat.reduceLT,Nat.reduceLeDiff,Nat.reduceEqDiff,eq_slemp,Run.slice0]) | (with_reducible ((first | apply xC | apply xG | apply xQ) <;> intro hb <;> try simp only [hb]))))
  refine (Run.appX hH hx0 hr).mono fun y H' h => ?_
  (repeat' (first | (simp only [wp,extractV,w0,reduceIte,Nat.reduceAdd,Nat.reduceLT,Nat.reduceLeDiff,Nat.reduceEqDiff]) | (with_reducible ((first | apply xC | apply xG | apply xQ) <;> intro hb <;> try simp only [hb]))))
  exact h
 ·(repeat' (first | (simp only [wp,extractV,w0,reduceIte,Nat.reduceAdd,Nat.reduceLT,Nat.reduceLeDiff,Nat.reduceEqDiff,eq_slref,Run.slice0]) | (with_reducible ((first | apply xC | apply xG | apply xQ) <;> intro hb <;> try simp only [hb]))))
  refine (Run.appX hH hx0 hr).mono fun y H' h => ?_
  (repeat' (first | (simp only [wp,extractV,w0,reduceIte,Nat.reduceAdd,Nat.reduceLT,Nat.reduceLeDiff,Nat.reduceEqDiff]) | (with_reducible ((first | apply xC | apply xG | apply xQ) <;> intro hb <;> try simp only [hb]))))
  exact h
end Go.Fv.Tr

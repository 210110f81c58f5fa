/-
  page.In. By an AI agent; no person has read it.
-/
import Derived.Test.YtekncgjkocgioaaGreatDoorFvP36
set_option linter.unusedVariables false
set_option linter.unusedSimpArgs false
set_option linter.unusedSectionVars false
/-! page.In. -/
namespace Go.Fv
open Go
theorem Run.copySub {H:Heap} {l i o n c:Nat} {b:Blk} {r:List V} {s:List UInt8} {Q:V → Heap → Prop} (hf:H.floor ≤ l) (hb:H.blk l = some b) (hr:b.rows[i]? = some r) (hn:o + n ≤ r.length)
  (q:Q (.int .i64 ((min s.length n:Nat):Int)) (H.set l ⟨b.sz,b.rows.set i (r.take o ++ (byR (s.take n)).flatten ++ r.drop (o + min s.length n))⟩)):Run (copyV 1 (.sub l i o n c) (.str (bs s))) H Q:=by
 have e1:itemsV 1 (.str (bs s)) H = some (byR s):=by
  simp only [itemsV,if_true]
  exact congrArg some (byR_rows s)
 have fl:∀ t:List UInt8,(byR t).flatten.length = t.length:=fun t => by
  induction t with
  | nil => rfl
  | cons a t ih => simpa [byR] using ih
 have e2:(byR s).take (min s.length n) = byR (s.take n):=by
  unfold byR
  rw [← List.map_take]
  congr 1
  by_cases h:s.length ≤ n
  ·rw [Nat.min_eq_left h,List.take_of_length_le (Nat.le_refl _),List.take_of_length_le h]
  ·rw [Nat.min_eq_right (by omega)]
 have e3:o + (byR (s.take n)).flatten.length ≤ r.length:=by rw [fl,List.length_take]; omega
 have e4:(byR (s.take n)).flatten.length = min s.length n:=by rw [fl,List.length_take,Nat.min_comm]
 refine ⟨_,_,?_,q⟩
 simp only [copyV,e1,Option.bind_some,byR_len,e2,hf,and_true,if_true,hb,hr,if_pos hn,putRow,e4]
 rw [if_pos (by omega)]
 rfl
theorem slS_drop {s:List UInt8} {k:Nat} (h:k ≤ s.length):slS (.str (bs s)) (some (.int .i64 (k:Nat))) none = some (.str (bs (s.drop k))):=by
 have h0:(0:Int) ≤ (k:Nat):=by omega
 have e:(bs s).extract k (bs s).size = bs (s.drop k):=by
  apply ByteArray.ext
  simp [bs,ByteArray.data_extract]
  exact List.take_of_length_le (by rw [List.length_drop]; exact Nat.le_refl _)
 simp only [slS,optNat,natOf,if_pos h0,Option.bind_some,Int.toNat_natCast]
 rw [if_pos ⟨by rw [bs_size]; exact h,Nat.le_refl _⟩,e]
end Go.Fv
namespace Go.Fv.Tr
open Go Go.Fv Go.Fv.Pl Go.Proofs
variable {G:GV}
namespace Sy
variable {x:V} {ps:List Pa} {rt bad:Int} {H:Heap}
theorem copyPages (n:Nat) (hx:Sls x 66 (ps.map paR)) (hr:ps.length * 80 ≤ room) (hH:H.floor ≤ H.next):Run (callV (cfg G) (sem (cfg G) (n + 2)) 29 [x]) H (New H 66 (ps.map paR)):=by
 refine callV_own rfl (mapM_closedV (by simp [hx.closedV]) H) ?_
 rw [ferry_page_Copy_eq]
 simp only [ferry_page_Copy]
 (repeat' (first | (simp only [wp,extractV,w0,reduceIte,Nat.reduceAdd,Nat.reduceLT,Nat.reduceLeDiff,Nat.reduceEqDiff]) | (with_reducible ((first | apply xC | apply xG | apply xQ) <;> intro hb <;> try simp only [hb]))))
 refine (clone77 n hx (flat_pas _) (by rw [List.length_map]; exact hr) (Nat.le_refl _)).mono fun y H' ⟨o,_,_⟩ => ?_
 (repeat' (first | (simp only [wp,extractV,w0,reduceIte,Nat.reduceAdd,Nat.reduceLT,Nat.reduceLeDiff,Nat.reduceEqDiff]) | (with_reducible ((first | apply xC | apply xG | apply xQ) <;> intro hb <;> try simp only [hb]))))
 exact o.hand (flat_pas _) hH
def putB (ps:List Pa) (a:Nat) (b:UInt8):List Pa:=ps.modify (a / 64) fun p => ⟨p.r,true,p.data.set (a % 64) (b.toNat:Int)⟩
def inP:List Pa → Nat → List UInt8 → List Pa
 | ps,_,[] => ps
 | ps,a,b :: l => inP (putB ps a b) (a + 1) l
theorem inP_append : ∀ (l m : List UInt8) (ps : List Pa) (a : Nat), inP ps a (l ++ m) = inP (inP ps a l) (a + l.length) m
  | [],m,ps,a => rfl
  | b :: l, m, ps, a => by
    rw [List.cons_append,inP,inP,inP_append l m,List.length_cons]
    congr 1
    omega
def setB:List Int → Nat → List UInt8 → List Int
 | d,_,[] => d
 | d,o,b :: l => setB (d.set o (b.toNat:Int)) (o + 1) l
theorem setB_eq : ∀ (l : List UInt8) (d : List Int) (o : Nat), o + l.length ≤ d.length → setB d o l = d.take o ++ l.map (fun b => (b.toNat : Int)) ++ d.drop (o + l.length)
  | [],d,o,_ => by simp [setB]
  | b :: l, d, o, h => by
    rw [List.length_cons] at h
    rw [setB,setB_eq l _ _ (by rw [List.length_set]; omega)]
    have ho:o < d.length:=by omega
    have e1 : (d.set o (b.toNat : Int)).take (o + 1) = d.take o ++ [(b.toNat : Int)] := by
      rw [take_snoc (by rw [List.length_set]; exact ho),List.getElem_set_self,List.take_set_of_le (Nat.le_refl _)]
    have e2 : (d.set o (b.toNat : Int)).drop (o + 1 + l.length) = d.drop (o + (l.length + 1)) := by
      rw [List.drop_set_of_lt (by omega)]
      congr 1
      omega
    rw [e1,e2]
    simp
theorem modify_modify {α:Type} (l:List α) (i:Nat) (f g:α → α):(l.modify i f).modify i g = l.modify i (fun a => g (f a)):=by
 refine List.ext_getElem? fun j => ?_
 simp only [List.getElem?_modify]
 cases l[j]? with
 | none => rfl
 | some a => by_cases h:i = j <;> simp [h]
theorem inP_piece : ∀ (l : List UInt8) (ps : List Pa) (a : Nat), l ≠ [] → a % 64 + l.length ≤ 64 → inP ps a l = ps.modify (a / 64) fun p => ⟨p.r, true, setB p.data (a % 64) l⟩
  | [],ps,a,h,_ => absurd rfl h
  | [b],ps,a,_,_ => rfl
  | b :: c :: l, ps, a, _, h => by
    rw [List.length_cons,List.length_cons] at h
    have e1:(a + 1) % 64 = a % 64 + 1:=by omega
    have e2:(a + 1) / 64 = a / 64:=by omega
    rw [inP,inP_piece (c :: l) _ (a + 1) (by simp) (by rw [List.length_cons]; omega),e1,e2,putB,modify_modify]
    rfl
theorem putB_len {ps:List Pa} {a:Nat} {b:UInt8}:(putB ps a b).length = ps.length:=by simp [putB]
theorem inP_length:∀ (l:List UInt8) (ps:List Pa) (a:Nat),(inP ps a l).length = ps.length
 | [],ps,a => rfl
 | b :: l,ps,a => by rw [inP,inP_length l,putB_len]
theorem mem_modify {α:Type} {l:List α} {i:Nat} {f:α → α} {r:α} (h:r ∈ l.modify i f):∃ r0 ∈ l,r = r0 ∨ r = f r0:=by
 obtain ⟨j,hj⟩:=List.mem_iff_getElem?.1 h
 rw [List.getElem?_modify] at hj
 obtain ⟨r0,e1,e2⟩:=Option.map_eq_some_iff.1 hj
 refine ⟨r0,List.mem_of_getElem? e1,?_⟩
 split at e2
 ·exact .inr e2.symm
 ·exact .inl e2.symm
theorem inP_data : ∀ (l : List UInt8) (ps : List Pa) (a : Nat), (∀ p ∈ ps, p.data.length = 64) → ∀ p ∈ inP ps a l, p.data.length = 64
  | [],ps,a,h => h
  | b :: l, ps, a, h => inP_data l _ _ fun p hp => by
    obtain ⟨r0,h0,rfl | rfl⟩:=mem_modify hp
    · exact h _ h0
    · simpa using h r0 h0
theorem paR_len {p:Pa} (h:p.data.length = 64):(paR p).length = 66:=by simp [paR,h]
theorem Own.hand2 {H':Heap} {sz:Nat} {rows:List (List V)} {v:V} (h:Own H' x sz rows) (hf:flatRows rows = true) (hv:v.flat = true) (hH:H.floor ≤ H.next) :
  ∃ g,giveV H' (.tuple [x,v]) = some g ∧ Run (takeV g) H fun r K => ∃ y,r = .tuple [y,v] ∧ New H sz rows y K:=by
 obtain ⟨g,h1,h2⟩:=h.give hf (ls:=[]) (fun _ _ => by simp)
 have gv:∀ ls,give2 H' v ls = some (v,ls):=fun ls => by cases v <;> simp_all [give2,give,V.flat]
 have tv:take2 v = M.ret v:=by cases v <;> first | rfl | simp [V.flat] at hv
 have gx:give2 H' x [] = some (g,(loc x).toList ++ []):=by
  rcases h with ⟨rfl | rfl,rfl⟩ | ⟨l,n,c,ex,b,rfl,_⟩ <;> exact h1
 have tg:take2 g = take1 g:=by rcases h2 with ⟨rfl | rfl,rfl⟩ | rfl <;> rfl
 refine ⟨.tuple [g,v],by simp only [giveV,gives2,gx,gv,Option.bind_some],?_⟩
 simp only [takeV,takes2,tg,tv,Run.bind,Run.ret]
 exact (h2.take hH).mono fun y K hk => ⟨y,rfl,hk⟩
def InAns (H:Heap) (ps:List Pa) (a:Nat) (l:List UInt8) (r:V) (K:Heap):Prop:=∃ y,r = .tuple [y,i64 (spanB ps 2 5 a l.length)] ∧ if spanB ps 2 5 a l.length = 0 then New H 66 ((inP ps a l).map paR) y K else y = .nils ∧ K = H
theorem fault_lt {a:Nat} (h:faultAt ps rt bad a = 0):a / 64 < ps.length:=by
 refine Classical.byContradiction fun g => ?_
 unfold faultAt at h
 rw [List.getElem?_eq_none (by omega)] at h
 cases h
theorem i64_quo {a:Nat} (h:a < 9223372036854775808):arithV .quo (.int .i64 (a:Nat)) (.int .i64 64) = some (.int .i64 ((a / 64:Nat):Int)):=by
 have e:((a:Nat):Int).tdiv 64 = ((a / 64:Nat):Int):=by rw [Int.tdiv_eq_ediv_of_nonneg (by omega)]; rfl
 rw [arith_quo (by decide) (by rw [e]; omega) (by rw [e]; omega),e]
theorem i64_rem {a:Nat}:arithV .rem (.int .i64 (a:Nat)) (.int .i64 64) = some (.int .i64 ((a % 64:Nat):Int)):=by
 have e:((a:Nat):Int).tmod 64 = ((a % 64:Nat):Int):=by rw [Int.tmod_eq_emod_of_nonneg (by omega)]; rfl
 rw [arith_rem (by decide),e]
theorem asl_sub {l i o:Nat} {k:Nat} (h:k < 64):aslV 64 (.ptr l i o) (some (.int .i64 (k:Nat))) none = some (.sub l i (o + k) (64 - k) (64 - k)):=by
 have h0:(0:Int) ≤ (k:Nat):=by omega
 have h1:k ≤ 64 ∧ 64 ≤ 64:=by omega
 have h2:¬ (64 = k):=by omega
 simp only [aslV,optNat,natOf,if_pos h0,Option.bind_some,Int.toNat_natCast,if_pos h1,if_neg h2]
theorem flat_byR2 (l:List UInt8):(byR l).flatten = l.map fun b => V.int .u8 (b.toNat:Int):=by
 induction l with
 | nil => rfl
 | cons a t ih => simpa [byR] using ih
theorem row_put {p:Pa} {o:Nat} {l:List UInt8} (h:o + l.length ≤ p.data.length):(paR p).take (2 + o) ++ (byR l).flatten ++ (paR p).drop (2 + o + l.length) = paR ⟨p.r,p.d,setB p.data o l⟩:=by
 unfold paR
 rw [setB_eq l _ _ h,flat_byR2,show 2 + o + l.length = (o + l.length) + 1 + 1 by omega,show 2 + o = o + 1 + 1 by omega]
 simp only [List.take_succ_cons,List.drop_succ_cons,List.map_append,List.map_take,List.map_drop,List.map_map,List.cons_append]
 rfl
theorem modify_rows {j:Nat} {f:Pa → Pa} {p:Pa} (h:ps[j]? = some p):(ps.modify j f).map paR = (ps.map paR).set j (paR (f p)):=by
 refine List.ext_getElem? fun i => ?_
 rw [List.getElem?_map,List.getElem?_modify,List.getElem?_set]
 by_cases hj:j = i
 ·subst hj
  obtain ⟨h1,h2⟩:=List.getElem?_eq_some_iff.1 h
  subst h2
  simp [h1]
 ·simp [hj]
theorem set_set' (H:Heap) (l:Nat) (b b':Blk):(H.set l b).set l b' = H.set l b':=by
 unfold Heap.set
 simp only [Heap.mk.injEq,and_true]
 funext n
 split <;> rfl
set_option maxRecDepth 20000 in
set_option maxHeartbeats 1000000 in
theorem in_run (n:Nat) (hx:Sls x 66 (ps.map paR)) (hr:ps.length * 80 ≤ room) (hd:∀ p ∈ ps,p.data.length = 64) {a:Nat} (ha:a < 4294967296) {l:List UInt8} (hl:l.length ≤ room) (hH:H.floor ≤ H.next) :
  Run (callV (cfg G) (sem (cfg G) (n + 3)) 12 [x,.int .u32 (a:Nat),.str (bs l)]) H (InAns H ps a l):=by
 refine callV_own rfl (mapM_closedV (by simp only [List.all_cons,hx.closedV,List.all_nil]; rfl) H) ?_
 rw [ferry_page_In_eq]
 simp only [ferry_page_In]
 have hrm:room = 140737488355328:=rfl
 have hsp:=span_spec (G:=G) n (rt:=2) (bad:=5) (a:=a) (m:=l.length) hx (by unfold big; omega) ha (by unfold big; omega)
 have c1:convI .i64 (.int .u32 (a:Nat)) = some (i64 (a:Nat)):=conv_i64 (by omega) (by omega)
 by_cases h0:spanB ps 2 5 a l.length = 0
 ·have e0:(spanB ps 2 5 a l.length == 0) = true:=by simpa using h0
  (repeat' (first | (simp only [wp,extractV,w0,reduceIte,Nat.reduceAdd,Nat.reduceLT,Nat.reduceLeDiff,Nat.reduceEqDiff,str_len,hsp,e0]) | (with_reducible ((first | apply xC | apply xG | apply xQ) <;> intro hb <;> try simp only [hb]))))
  refine (copyPages n hx hr (Nat.le_refl _)).mono fun y H1 ⟨oy,f1,_⟩ => ?_
  (repeat' (first | (simp only [wp,extractV,w0,reduceIte,Nat.reduceAdd,Nat.reduceLT,Nat.reduceLeDiff,Nat.reduceEqDiff,c1]) | (with_reducible ((first | apply xC | apply xG | apply xQ) <;> intro hb <;> try simp only [hb]))))
  have fl1:H1.floor = 0:=f1.floor
  have hz:=spanB_zero h0
  refine Run.loop (N:=l.length) (fun i r H' => ∃ k:Nat,r = [.str (bs (l.drop k)),i64 ((a + k:Nat):Int)] ∧ k ≤ l.length ∧ i ≤ k ∧ H'.floor = 0 ∧ Own H' y 66 ((inP ps a (l.take k)).map paR)) ⟨0,rfl,Nat.zero_le _,Nat.le_refl _,fl1,oy⟩ ?_
  rintro i r H' hi ⟨k,rfl,hk,hik,fl2,o⟩
  simp only [ferry_page_In_l1]
  have es:eqV (.sc .str) true (.str (bs (l.drop k))) (.str ⟨#[]⟩) = some (l.drop k == []):=str_eq (b:=[])
  by_cases hlt:k < l.length
  ·have en:(l.drop k == []) = false:=by
    rw [beq_eq_false_iff_ne]
    intro e
    have:=congrArg List.length e
    rw [List.length_drop] at this
    simp at this
    omega
   have hpg:=fault_lt (hz k hlt)
   have hlen:=inP_length (l.take k) ps a
   obtain ⟨ly,bk,y1,y2,y3,y4,y5⟩:=o.idx (k:=.i64) (i:=(a + k) / 64) (by rw [List.length_map,hlen]; exact hpg)
   rw [List.getElem_map] at y4
   have hpl:(a + k) / 64 < (inP ps a (l.take k)).length:=by rw [hlen]; exact hpg
   have hp64:=inP_data (l.take k) ps a hd _ (List.getElem_mem hpl)
   have ep:(inP ps a (l.take k))[(a + k) / 64]? = some ((inP ps a (l.take k))[(a + k) / 64]):=List.getElem?_eq_getElem hpl
   generalize (inP ps a (l.take k))[(a + k) / 64] = pg at *
   have q1:=i64_quo (a:=a + k) (by omega)
   have q2:=i64_rem (a:=a + k)
   have hm:(a + k) % 64 < 64:=Nat.mod_lt _ (by decide)
   have q3:aslV 64 (.ptr ly ((a + k) / 64) 2) (some (.int .i64 ((((a + k) % 64:Nat)):Int))) none = _:=asl_sub hm
   have hrl:bk.rows.length > (a + k) / 64:=(List.getElem?_eq_some_iff.1 y4).1
   (repeat' (first | (simp only [wp,extractV,w0,reduceIte,Nat.reduceAdd,Nat.reduceLT,Nat.reduceLeDiff,Nat.reduceEqDiff,es,en,q1,y2,nil_ptr,q2,q3]) | (with_reducible ((first | apply xC | apply xG | apply xQ) <;> intro hb <;> try simp only [hb]))))
   refine Run.copySub y5 y3 y4 (by rw [paR_len hp64]; omega) ?_
   have hlp:((l.drop k).take (64 - (a + k) % 64)).length = min (l.drop k).length (64 - (a + k) % 64):=by rw [List.length_take,Nat.min_comm]
   have hne:(l.drop k).take (64 - (a + k) % 64) ≠ []:=fun e => by
    have:=congrArg List.length e
    rw [hlp,List.length_drop,List.length_nil] at this
    omega
   have hfit:(a + k) % 64 + ((l.drop k).take (64 - (a + k) % 64)).length ≤ 64:=by rw [hlp]; omega
   rw [← hlp]
   have hdl:(l.drop k).length = l.length - k:=List.length_drop
   rw [hdl] at hlp
   have hrow:=row_put (p:=pg) (o:=(a + k) % 64) (l:=(l.drop k).take (64 - (a + k) % 64)) (by rw [hp64]; exact hfit)
   have hst:=inP_append (l.take k) ((l.drop k).take (64 - (a + k) % 64)) ps a
   rw [List.length_take,Nat.min_eq_left hk,inP_piece _ _ _ hne hfit] at hst
   have htk:l.take k ++ (l.drop k).take (64 - (a + k) % 64) = l.take (k + ((l.drop k).take (64 - (a + k) % 64)).length):=by
    rw [List.take_add]
    congr 1
    rw [hlp]
    by_cases h:l.length - k ≤ 64 - (a + k) % 64
    ·rw [Nat.min_eq_left h,List.take_of_length_le (by rw [hdl]; exact h),List.take_of_length_le (by rw [hdl]; exact Nat.le_refl _)]
    ·rw [Nat.min_eq_right (by omega)]
   have hsl:=slS_drop (s:=l.drop k) (k:=((l.drop k).take (64 - (a + k) % 64)).length) (by rw [hlp,hdl]; omega)
   rw [List.drop_drop] at hsl
   have hmr:=modify_rows (f:=fun p => ⟨p.r,true,setB p.data ((a + k) % 64) ((l.drop k).take (64 - (a + k) % 64))⟩) ep
   rw [← hst,htk] at hmr
   have hpos:0 < ((l.drop k).take (64 - (a + k) % 64)).length:=by rw [hlp]; omega
   generalize ((l.drop k).take (64 - (a + k) % 64)).length = m at *
   rw [show 2 + (a + k) % 64 + m = 2 + ((a + k) % 64) + m from rfl] at hrow
   rw [hrow]
   have r1:(bk.rows.set ((a + k) / 64) (paR ⟨pg.r,pg.d,setB pg.data ((a + k) % 64) ((l.drop k).take (64 - (a + k) % 64))⟩))[(a + k) / 64]? = some (paR ⟨pg.r,pg.d,setB pg.data ((a + k) % 64) ((l.drop k).take (64 - (a + k) % 64))⟩):=List.getElem?_set_self hrl
   have ad:arithV .add (i64 ((a + k:Nat):Int)) (i64 (m:Nat)) = some (i64 ((a + k + m:Nat):Int)):=by
    rw [arith_add (by omega) (by omega)]
    congr 3
   generalize hD:setB pg.data ((a + k) % 64) ((l.drop k).take (64 - (a + k) % 64)) = D at *
   have e2:2 ≤ (paR ⟨pg.r,pg.d,D⟩).length:=by simp [paR]
   have e3:(paR ⟨pg.r,pg.d,D⟩).take 1 ++ [.bool true] ++ (paR ⟨pg.r,pg.d,D⟩).drop 2 = paR ⟨pg.r,true,D⟩:=rfl
   (repeat' (first | (simp only [wp,extractV,w0,reduceIte,Nat.reduceAdd,Nat.reduceLT,Nat.reduceLeDiff,Nat.reduceEqDiff,nil_ptr,y5,r1,e2,e3,hsl,ad]) | (with_reducible ((first | apply xC | apply xG | apply xQ) <;> intro hb <;> try simp only [hb]))))
   rw [set_set',List.set_set]
   have hp:=o.put (i:=(a + k) / 64) y1 y3 (paR ⟨pg.r,true,D⟩)
   refine ⟨by omega,k + m,?_,by omega,by omega,fl2,?_⟩
   ·rw [Nat.add_assoc]
   ·rw [hmr]
    exact hp
  ·have e:k = l.length:=by omega
   subst e
   have en:(l.drop l.length == []) = true:=by rw [List.drop_length]; rfl
   (repeat' (first | (simp only [wp,extractV,w0,reduceIte,Nat.reduceAdd,Nat.reduceLT,Nat.reduceLeDiff,Nat.reduceEqDiff,es,en]) | (with_reducible ((first | apply xC | apply xG | apply xQ) <;> intro hb <;> try simp only [hb]))))
   rw [List.take_length] at o
   obtain ⟨g,g1,g2⟩:=Own.hand2 (v:=i64 0) o (flat_pas _) rfl hH
   refine ⟨g,g1,g2.mono fun r K ⟨y',er,hn⟩ => ⟨y',?_,?_⟩⟩
   ·rw [h0]; exact er
   ·rw [if_pos h0]; exact hn
 ·have e0:(spanB ps 2 5 a l.length == 0) = false:=by simpa using h0
  (repeat' (first | (simp only [wp,extractV,w0,reduceIte,Nat.reduceAdd,Nat.reduceLT,Nat.reduceLeDiff,Nat.reduceEqDiff,str_len,hsp,e0]) | (with_reducible ((first | apply xC | apply xG | apply xQ) <;> intro hb <;> try simp only [hb]))))
  refine ⟨_,rfl,?_⟩
  simp only [takeV,takes2,take2,take1,Run.bind,Run.ret]
  exact Run.of rfl (Run.of rfl ⟨.nils,rfl,by rw [if_neg h0]; exact ⟨rfl,rfl⟩⟩)
end Sy
end Go.Fv.Tr
namespace Go.Fv
open Go
theorem Run.make0 {H:Heap} {z:List V} {m:Nat} (hm:m ≤ room) (hf:H.floor ≤ H.next):Run (makeV 1 1 z (.int .i64 0) (.int .i64 (m:Nat))) H fun x H' => Own H' x 1 [] ∧ Frame H H' (fun _ => False):=by
 have h0:(0:Int) ≤ (m:Nat):=by omega
 have n0:natOf (.int .i64 0) = some 0:=rfl
 have n1:natOf (.int .i64 (m:Nat)) = some m:=by simp only [natOf,if_pos h0,Int.toNat_natCast]
 have hc:0 ≤ m ∧ m * 1 ≤ room ∧ m ≤ room:=⟨Nat.zero_le _,by omega,hm⟩
 cases m with
 | zero => exact ⟨_,_,by simp only [makeV,n0,n1,Option.bind_some]; rw [if_pos hc],Own.emp _ _,Frame.refl _ _⟩
 | succ m => exact ⟨.ref H.next 1 0 0 (List.replicate (m + 1) z).length true,H.add ⟨1,List.replicate (m + 1) z⟩,by simp only [makeV,n0,n1,Option.bind_some]; rw [if_pos hc]; rfl,.inr ⟨H.next,0,_,true,⟨1,List.replicate (m + 1) z⟩,rfl,Heap.add_new _,hf,Nat.lt_succ_self _,Nat.zero_le _,Nat.le_refl _,rfl⟩,Frame.add _ _⟩
end Go.Fv
namespace Go.Fv.Tr
open Go Go.Fv Go.Fv.Pl Go.Proofs
variable {G:GV}
namespace Sy
variable {x:V} {ps:List Pa} {rt bad:Int} {H:Heap}
def byteAt (ps:List Pa) (a:Nat):Int:=((ps[a / 64]?).bind fun p => p.data[a % 64]?).getD 0
def outP (ps:List Pa) (a n:Nat):List UInt8:=(List.range n).map fun j => UInt8.ofNat (byteAt ps (a + j)).toNat
def ByOk (ps:List Pa):Prop:=∀ p ∈ ps,∀ v ∈ p.data,0 ≤ v ∧ v < 256
theorem byteAt_ok (h : ByOk ps) (a : Nat) : 0 ≤ byteAt ps a ∧ byteAt ps a < 256 := by
  unfold byteAt
  cases e:ps[a / 64]? with
  | none => exact ⟨Int.le_refl 0,(by decide:(0:Int) < 256)⟩
  | some p =>
    show 0 ≤ (p.data[a % 64]?).getD 0 ∧ (p.data[a % 64]?).getD 0 < 256
    cases e2:p.data[a % 64]? with
    | none => exact ⟨Int.le_refl 0,(by decide:(0:Int) < 256)⟩
    | some v => exact h p (List.mem_of_getElem? e) v (List.mem_of_getElem? e2)
theorem outP_rows (h:ByOk ps) (a n:Nat):byR (outP ps a n) = (List.range n).map fun j => [V.int .u8 (byteAt ps (a + j))]:=by
 unfold byR outP
 rw [List.map_map]
 refine List.map_congr_left fun j _ => ?_
 obtain ⟨h0,h1⟩:=byteAt_ok h (a + j)
 show [V.int .u8 (((UInt8.ofNat (byteAt ps (a + j)).toNat).toNat:Nat):Int)] = _
 rw [UInt8.toNat_ofNat']
 have:((byteAt ps (a + j)).toNat % 256:Nat) = (byteAt ps (a + j)).toNat:=Nat.mod_eq_of_lt (by omega)
 rw [show 2 ^ 8 = 256 from rfl,this,Int.toNat_of_nonneg h0]
theorem piece_rows {p:Pa} {a m:Nat} (hp:ps[a / 64]? = some p) (hd:p.data.length = 64) (hm:a % 64 + m ≤ 64) :
  ((((paR p).drop (2 + a % 64)).take (64 - a % 64)).map fun c => [c]).take m = (List.range m).map fun j => [V.int .u8 (byteAt ps (a + j))]:=by
 refine List.ext_getElem? fun j => ?_
 rw [List.getElem?_take]
 by_cases hj:j < m
 ·rw [if_pos hj,List.getElem?_map,List.getElem?_take,if_pos (by omega),List.getElem?_drop,List.getElem?_map,List.getElem?_range hj]
  have e1:(a + j) / 64 = a / 64:=by omega
  have e2:(a + j) % 64 = a % 64 + j:=by omega
  have e3:a % 64 + j < p.data.length:=by rw [hd]; omega
  have e4:byteAt ps (a + j) = p.data[a % 64 + j]:=by
   unfold byteAt
   rw [e1,e2,hp]
   show (p.data[a % 64 + j]?).getD 0 = _
   rw [List.getElem?_eq_getElem e3]
   rfl
  have e5:(paR p)[2 + a % 64 + j]? = some (.int .u8 p.data[a % 64 + j]):=by
   unfold paR
   rw [show 2 + a % 64 + j = a % 64 + j + 1 + 1 by omega,List.getElem?_cons_succ,List.getElem?_cons_succ,List.getElem?_map,List.getElem?_eq_getElem e3]
   rfl
  rw [e5]
  show some [V.int .u8 p.data[a % 64 + j]] = some [V.int .u8 (byteAt ps (a + j))]
  rw [e4]
 ·rw [if_neg hj,List.getElem?_map,List.getElem?_eq_none (by rw [List.length_range]; omega)]
  rfl
theorem asl_imm {r:List V} {o k:Nat} (h:k < 64) (hr:o + 64 ≤ r.length):aslV 64 (.iptr r o) (some (.int .i64 (k:Nat))) none = some (.imm 1 (((r.drop (o + k)).take (64 - k)).map fun c => [c])):=by
 have h0:(0:Int) ≤ (k:Nat):=by omega
 have h1:k ≤ 64 ∧ 64 ≤ 64:=by omega
 have h2:¬ (64 = k):=by omega
 simp only [aslV,optNat,natOf,if_pos h0,Option.bind_some,Int.toNat_natCast,if_pos h1,if_pos hr,if_neg h2]
theorem sl_imm {rows:List (List V)} {m:Nat} (h:m ≤ rows.length):slV 1 (.imm 1 rows) none (some (.int .i64 (m:Nat))) none = some (.imm 1 (rows.take m)):=by
 have h0:(0:Int) ≤ (m:Nat):=by omega
 simp only [slV,optNat,natOf,if_pos h0,Option.bind_some,Int.toNat_natCast]
 rw [if_pos (by simpa using h)]
 rfl
set_option maxRecDepth 20000 in
set_option maxHeartbeats 1000000 in
theorem out_body (n:Nat) (hx:Sls x 66 (ps.map paR)) (hr:ps.length * 80 ≤ room) (hd:∀ p ∈ ps,p.data.length = 64) (hb:ByOk ps) {a:Nat} (ha:a < 4294967296) {m:Nat} (hm:m ≤ room) :
  Run (sem (cfg G) (n + 3) 13 [x,.int .u32 (a:Nat),i64 (m:Nat)]) Heap.empty fun v _ => v = .tuple [.str (bs (if spanB ps 1 4 a m = 0 then outP ps a m else [])),i64 (spanB ps 1 4 a m),.nili]:=by
 rw [ferry_page_Out_eq]
 simp only [ferry_page_Out]
 have hrm:room = 140737488355328:=rfl
 have hsp:=span_spec (G:=G) n (rt:=1) (bad:=4) (a:=a) (m:=m) hx (by unfold big; omega) ha (by unfold big; omega)
 have c1:convI .i64 (.int .u32 (a:Nat)) = some (i64 (a:Nat)):=conv_i64 (by omega) (by omega)
 have d0:decide (((m:Nat):Int) < 0) = false:=by rw [decide_eq_false_iff_not]; omega
 by_cases h0:spanB ps 1 4 a m = 0
 ·have e0:(spanB ps 1 4 a m == 0) = true:=by simpa using h0
  (repeat' (first | (simp only [wp,extractV,w0,reduceIte,Nat.reduceAdd,Nat.reduceLT,Nat.reduceLeDiff,Nat.reduceEqDiff,d0,hsp,e0]) | (with_reducible ((first | apply xC | apply xG | apply xQ) <;> intro hb <;> try simp only [hb]))))
  refine (Run.make0 hm (Nat.le_refl _)).mono fun y H1 ⟨oy,f1⟩ => ?_
  (repeat' (first | (simp only [wp,extractV,w0,reduceIte,Nat.reduceAdd,Nat.reduceLT,Nat.reduceLeDiff,Nat.reduceEqDiff,c1]) | (with_reducible ((first | apply xC | apply xG | apply xQ) <;> intro hb <;> try simp only [hb]))))
  have fl1:H1.floor = 0:=f1.floor
  have hz:=spanB_zero h0
  refine Run.loop (N:=m) (fun i r H' => ∃ (k:Nat) (y:V),r = [y,i64 ((a + k:Nat):Int),i64 ((m - k:Nat):Int)] ∧ k ≤ m ∧ i ≤ k ∧ H'.floor = 0 ∧ Own H' y 1 ((List.range k).map fun j => [V.int .u8 (byteAt ps (a + j))])) ⟨0,y,rfl,Nat.zero_le _,Nat.le_refl _,fl1,oy⟩ ?_
  rintro i r H' hi ⟨k,y,rfl,hk,hik,fl2,o⟩
  simp only [ferry_page_Out_l1]
  by_cases hlt:k < m
  ·have d1:decide ((0:Int) < ((m - k:Nat):Int)) = true:=by rw [decide_eq_true_eq]; omega
   have hpg:=fault_lt (hz k hlt)
   have hi2:=hx.idx (k:=.i64) (i:=(a + k) / 64) (by rw [List.length_map]; exact hpg)
   rw [List.getElem_map] at hi2
   have ep:ps[(a + k) / 64]? = some ps[(a + k) / 64]:=List.getElem?_eq_getElem hpg
   have hp64:=hd _ (List.getElem_mem hpg)
   generalize ps[(a + k) / 64] = pg at *
   have q1:=i64_quo (a:=a + k) (by omega)
   have q2:=i64_rem (a:=a + k)
   have hmd:(a + k) % 64 < 64:=Nat.mod_lt _ (by decide)
   have q3:aslV 64 (.iptr (paR pg) 2) (some (.int .i64 ((((a + k) % 64:Nat)):Int))) none = _:=asl_imm hmd (by rw [paR_len hp64]; exact Nat.le_refl _)
   have nc:nilCheckV (.iptr (paR pg) 2) = some (.iptr (paR pg) 2):=rfl
   have hrl:((((paR pg).drop (2 + (a + k) % 64)).take (64 - (a + k) % 64)).map fun c => [c]).length = 64 - (a + k) % 64:=by
    rw [List.length_map,List.length_take,List.length_drop,paR_len hp64]
    omega
   have q4:lenV (.imm 1 ((((paR pg).drop (2 + (a + k) % 64)).take (64 - (a + k) % 64)).map fun c => [c])) = some (i64 ((64 - (a + k) % 64:Nat):Int)):=by simp only [lenV,hrl]
   obtain ⟨t,ht,ht1⟩:∃ t:Nat,minV (i64 ((m - k:Nat):Int)) (i64 ((64 - (a + k) % 64:Nat):Int)) = some (i64 (t:Nat)) ∧ t = min (m - k) (64 - (a + k) % 64):=by
    refine ⟨_,?_,rfl⟩
    simp only [minV]
    congr 2
    split <;> omega
   have q5:=sl_imm (m:=t) (rows:=(((paR pg).drop (2 + (a + k) % 64)).take (64 - (a + k) % 64)).map fun c => [c]) (by rw [hrl]; omega)
   rw [piece_rows ep hp64 (by omega)] at q5
   have q6:lenV (.imm 1 ((List.range t).map fun j => [V.int .u8 (byteAt ps (a + k + j))])) = some (i64 (t:Nat)):=by simp only [lenV,List.length_map,List.length_range]
   (repeat' (first | (simp only [wp,extractV,w0,reduceIte,Nat.reduceAdd,Nat.reduceLT,Nat.reduceLeDiff,Nat.reduceEqDiff,d1,q1,hi2,nc,q2,q3,q4,ht,q5]) | (with_reducible ((first | apply xC | apply xG | apply xQ) <;> intro hb <;> try simp only [hb]))))
   refine (Run.app (by rw [fl2]; exact Nat.zero_le _) o (Sls.items (Sls.imm _ _) _) (by rw [List.length_map,List.length_map,List.length_range,List.length_range]; omega)).mono fun y' H2 ⟨o2,f2,_⟩ => ?_
   have ad:arithV .add (i64 ((a + k:Nat):Int)) (i64 (t:Nat)) = some (i64 ((a + k + t:Nat):Int)):=by
    rw [arith_add (by omega) (by omega)]
    congr 3
   have sb:arithV .sub (i64 ((m - k:Nat):Int)) (i64 (t:Nat)) = some (i64 ((m - (k + t):Nat):Int)):=by
    rw [arith_sub (by omega) (by omega)]
    congr 2
    omega
   (repeat' (first | (simp only [wp,extractV,w0,reduceIte,Nat.reduceAdd,Nat.reduceLT,Nat.reduceLeDiff,Nat.reduceEqDiff,q6,ad,sb]) | (with_reducible ((first | apply xC | apply xG | apply xQ) <;> intro hb <;> try simp only [hb]))))
   refine ⟨by omega,k + t,y',?_,by omega,by omega,f2.floor.trans fl2,?_⟩
   ·rw [Nat.add_assoc]
   ·rw [List.range_add,List.map_append,List.map_map]
    have:(fun j => [V.int .u8 (byteAt ps (a + j))]) ∘ (fun x => k + x) = fun j => [V.int .u8 (byteAt ps (a + k + j))]:=by
     funext j
     show [V.int .u8 (byteAt ps (a + (k + j)))] = _
     rw [Nat.add_assoc]
    rw [this]
    exact o2
  ·have d1:decide ((0:Int) < ((m - k:Nat):Int)) = false:=by rw [decide_eq_false_iff_not]; omega
   have e:k = m:=by omega
   subst e
   rw [← outP_rows hb] at o
   (repeat' (first | (simp only [wp,extractV,w0,reduceIte,Nat.reduceAdd,Nat.reduceLT,Nat.reduceLeDiff,Nat.reduceEqDiff,d1,Run.readOwn o]) | (with_reducible ((first | apply xC | apply xG | apply xQ) <;> intro hb <;> try simp only [hb]))))
   rw [if_pos h0,h0]
 ·have e0:(spanB ps 1 4 a m == 0) = false:=by simpa using h0
  (repeat' (first | (simp only [wp,extractV,w0,reduceIte,Nat.reduceAdd,Nat.reduceLT,Nat.reduceLeDiff,Nat.reduceEqDiff,d0,hsp,e0]) | (with_reducible ((first | apply xC | apply xG | apply xQ) <;> intro hb <;> try simp only [hb]))))
  rw [if_neg h0]
  rfl
theorem out_says (n:Nat) (hx:Sls x 66 (ps.map paR)) (hr:ps.length * 80 ≤ room) (hd:∀ p ∈ ps,p.data.length = 64) (hb:ByOk ps) {a:Nat} (ha:a < 4294967296) {m:Nat} (hm:m ≤ room) :
  Says (cfg G) (sem (cfg G) (n + 3)) 13 [x,.int .u32 (a:Nat),i64 (m:Nat)] fun v => v = .tuple [.str (bs (if spanB ps 1 4 a m = 0 then outP ps a m else [])),i64 (spanB ps 1 4 a m),.nili] :=
 fun ok => (out_body n hx hr hd hb ha hm).mono fun v H' e => ⟨_,by rw [e]; rfl,rfl⟩
end Sy
end Go.Fv.Tr
namespace Go.Fv.Tr
open Go Go.Fv Go.Fv.Pl Go.Proofs
variable {G:GV}
namespace Sy
variable {x:V} {H K:Heap} {q:Tp} {row:List V} {r:Po}
set_option maxRecDepth 20000 in
theorem fits1_ans (n:Nat) (q:Tp) (mm:ByteArray) {i:Nat}:AnsC [(i,⟨4,[tpR q]⟩)] (callV (cfg G) (sem (cfg G) (n + 1)) 242 [.str mm,.ptr i 0 0]) (.bool (decide (q.size < (mm.size:Int)))):=by
 intro K hC hK
 have hb:=(hC _ (List.mem_singleton.2 rfl)).2
 have hs:Says (cfg G) (sem (cfg G) (n + 1)) 242 [.str mm,.iptr (tpR q) 0] fun v => v = .bool (decide (q.size < (mm.size:Int))):=by
  intro ok
  rw [ferry_port_fits_1_eq]
  simp only [ferry_port_fits_1]
  have t1:(tpR q)[1]? = some (i64 q.size):=rfl
  (repeat' (first | (simp only [wp,extractV,w0,reduceIte,Nat.reduceAdd,Nat.reduceLT,Nat.reduceLeDiff,Nat.reduceEqDiff,lenS_str,t1]) | (with_reducible ((first | apply xC | apply xG | apply xQ) <;> intro hb <;> try simp only [hb]))))
  exact ⟨_,rfl,rfl⟩
 have hf:(tpR q).all V.flat = true:=rfl
 refine Run.ans rfl (bs:=[.str mm,.iptr (tpR q) 0]) ?_ hs fun r e => ⟨e,Frame.refl _ _⟩
 have e1:thawV true K (.str mm) = some (.str mm):=rfl
 have e2:thawV true K (.ptr i 0 0) = some (.iptr (tpR q) 0):=by
  simp only [thawV,thaw,hb,Option.bind_some,List.getElem?_cons_zero,hf,if_true]
 simp only [List.mapM_cons,List.mapM_nil,e1,e2]
 rfl
set_option maxRecDepth 20000 in
theorem fits_spec (n:Nat) (h:PoS row r) (h1:holdOk q r) (h2:ageOk q r):callV (cfg G) (sem (cfg G) (n + 4)) 209 [.agg (tpR q),.agg row] = M.ret (.bool true):=by
 obtain ⟨mv,rfl,hm,hl⟩:=h
 have hcl:(V.agg [mv,i64 r.age]).closedV = true:=by
  show ([mv,i64 r.age]:List V).all V.closed = true
  simp only [List.all_cons,List.all_nil,hm.closed]
  rfl
 have hct:(V.agg (tpR q)).closedV = true:=rfl
 refine callV_pure0 rfl (by simp only [List.all_cons,List.all_nil,hcl,hct]; rfl) rfl ?_
 rw [ferry_port_fits_eq]
 simp only [ferry_port_fits]
 have t0:(tpR q)[0]? = some (i64 q.kind):=rfl
 have t2:(tpR q)[2]? = some (i64 q.depth):=rfl
 obtain ⟨hd,hz⟩:=h1
 obtain ⟨⟨a0,a1⟩,a2⟩:=h2
 have b1:decide (q.depth < (r.msgs.length:Int)) = false:=by rw [decide_eq_false_iff_not]; omega
 have b2:decide (r.age < 0) = false:=by rw [decide_eq_false_iff_not]; omega
 have b3:decide ((255:Int) < r.age) = false:=by rw [decide_eq_false_iff_not]; omega
 have no:decide (∃ m ∈ r.msgs,q.size < (m.size:Int)) = false:=by
  rw [decide_eq_false_iff_not]
  rintro ⟨m,hm,h⟩
  exact absurd (hz m hm) (Int.not_le.2 h)
 have fin:∀ K:Heap,K.blk 0 = some ⟨4,[tpR q]⟩ → 0 < K.next → K.floor ≤ K.next → ∀ {Q:V → Heap → Prop},(∀ H',Q (.bool false) H') → Run (callV (cfg G) (sem (cfg G) (n + 3)) 170 [mv,.fn 242 [.ptr 0 0 0]]) K Q:=fun K hb hn hf Q hq => by
  refine (containsS_ans (C:=[(0,⟨4,[tpR q]⟩)]) (n + 1) hm hl (R:=fun m => q.size < (m.size:Int)) fun mm _ => ?_).run ?_ hf fun y H' e f2 => ?_
  ·rw [callFn2]
   exact fits1_ans n q mm
  ·intro x hx
   rw [List.mem_singleton] at hx
   subst hx
   exact ⟨hn,hb⟩
  ·subst e
   rw [no]
   exact hq _
 by_cases h0:r.age = 0
 ·have b4:(r.age == 0) = true:=by simpa using h0
  (repeat' (first | (simp only [wp,extractV,w0,reduceIte,Nat.reduceAdd,Nat.reduceLT,Nat.reduceLeDiff,Nat.reduceEqDiff,hm.len,List.length_map,b1,b2,b3,b4,t0,t2,tp_len]) | (with_reducible ((first | apply xC | apply xG | apply xQ) <;> intro hb <;> try simp only [hb]))))
  refine fin _ rfl (Nat.zero_lt_succ _) (Nat.zero_le _) fun H' => ?_
  (repeat' (first | (simp only [wp,extractV,w0,reduceIte,Nat.reduceAdd,Nat.reduceLT,Nat.reduceLeDiff,Nat.reduceEqDiff]) | (with_reducible ((first | apply xC | apply xG | apply xQ) <;> intro hb <;> try simp only [hb]))))
 ·have b4:(r.age == 0) = false:=by simpa using h0
  obtain ⟨k1,k2⟩:=a2.resolve_left h0
  have b5:(q.kind == 1) = true:=by simpa using k1
  have b6:((r.msgs.length:Int) == 0) = false:=by rw [beq_eq_false_iff_ne]; omega
  (repeat' (first | (simp only [wp,extractV,w0,reduceIte,Nat.reduceAdd,Nat.reduceLT,Nat.reduceLeDiff,Nat.reduceEqDiff,hm.len,List.length_map,b1,b2,b3,b4,b5,b6,t0,t2,tp_len]) | (with_reducible ((first | apply xC | apply xG | apply xQ) <;> intro hb <;> try simp only [hb]))))
  refine fin _ rfl (Nat.zero_lt_succ _) (Nat.zero_le _) fun H' => ?_
  (repeat' (first | (simp only [wp,extractV,w0,reduceIte,Nat.reduceAdd,Nat.reduceLT,Nat.reduceLeDiff,Nat.reduceEqDiff]) | (with_reducible ((first | apply xC | apply xG | apply xQ) <;> intro hb <;> try simp only [hb]))))
set_option maxRecDepth 20000 in
theorem pcheck_spec (hA:BErrs G) (n:Nat) (h:PoS row r) (hq:TpOk q) (h1:holdOk q r) (h2:ageOk q r):callV (cfg G) (sem (cfg G) (n + 5)) 141 [.agg (tpR q),.agg row] = M.ret .nili:=by
 have hf:=fits_spec (G:=G) n h h1 h2
 obtain ⟨e,he,hE⟩:=checkPlan_spec hA (n + 2) q
 have hn:e = .nili:=by
  rcases hE with ⟨_,h⟩ | ⟨h,_⟩
  ·exact h
  ·exact absurd hq h
 subst hn
 obtain ⟨mv,rfl,hm,hl⟩:=h
 have hcl:(V.agg [mv,i64 r.age]).closedV = true:=by
  show ([mv,i64 r.age]:List V).all V.closed = true
  simp only [List.all_cons,List.all_nil,hm.closed]
  rfl
 have hct:(V.agg (tpR q)).closedV = true:=rfl
 refine callV_pure0 rfl (by simp only [List.all_cons,List.all_nil,hcl,hct]; rfl) rfl ?_
 rw [ferry_port_Check_eq]
 simp only [ferry_port_Check]
 (repeat' (first | (simp only [wp,extractV,w0,reduceIte,Nat.reduceAdd,Nat.reduceLT,Nat.reduceLeDiff,Nat.reduceEqDiff,tp_len,tp_take,he,hf]) | (with_reducible ((first | apply xC | apply xG | apply xQ) <;> intro hb <;> try simp only [hb]))))
theorem gives2_flat {H : Heap} {ls : List Nat} : ∀ {vs : List V}, (∀ v ∈ vs, v.flat = true) → gives2 H vs ls = some (vs, ls)
  | [],_ => rfl
  | v :: vs, h => by
    have gv:give2 H v ls = some (v,ls):=by have:=h v (by simp); cases v <;> simp_all [give2,give,V.flat]
    simp only [gives2,gv,Option.bind_some,gives2_flat fun v hv => h v (List.mem_cons_of_mem _ hv)]
theorem takes2_flat : ∀ {vs : List V}, (∀ v ∈ vs, v.flat = true) → takes2 vs = M.ret vs
  | [],_ => rfl
  | v :: vs, h => by
    have tv:take2 v = M.ret v:=by have:=h v (by simp); cases v <;> first | rfl | simp [V.flat] at this
    simp only [takes2,tv,takes2_flat fun v hv => h v (List.mem_cons_of_mem _ hv)]
    rfl
theorem Own.handP {H':Heap} {m:V} {rows:List (List V)} {a:Int} {vs:List V} (h:Own H' m 1 rows) (hf:flatRows rows = true) (hv:∀ v ∈ vs,v.flat = true) (hH:H.floor ≤ H.next) :
  ∃ g,giveV H' (.tuple (.agg [m,i64 a] :: vs)) = some g ∧ Run (takeV g) H fun r K => ∃ m',r = .tuple (.agg [m',i64 a] :: vs) ∧ New H 1 rows m' K:=by
 obtain ⟨g,h1,h2⟩:=h.give hf (ls:=[]) (fun _ _ => by simp)
 have ga:∀ ls,give H' (i64 a) ls = some (i64 a,ls):=fun _ => rfl
 refine ⟨.tuple (.agg [g,i64 a] :: vs),?_,?_⟩
 ·simp only [giveV,gives2,give2,gives,h1,Option.bind_some,ga,gives2_flat hv]
 ·have ta:take1 (i64 a) = M.ret (i64 a):=rfl
  simp only [takeV,takes2,take2,takes,takes2_flat hv,ta,Run.bind,Run.ret]
  exact (h2.take hH).mono fun y K hk => ⟨y,rfl,hk⟩
theorem sl_tail {x:V} {a:List V} {rows:List (List V)} (h:Sls x 1 (a :: rows)):slV 1 x (some (i64 1)) none none = some (.imm 1 rows):=by
 rcases h with rfl | ⟨h,_⟩
 ·simp only [slV,optNat,natOf,Option.bind_some]
  rw [if_pos (show (0:Int) ≤ 1 by decide)]
  simp
 ·cases h
set_option maxRecDepth 20000 in
theorem get_run (hA : BErrs G) (n : Nat) (h : PoS row r) (hq : TpOk q) (h1 : holdOk q r) (h2 : ageOk q r) (hk : q.kind = 3) (hr : r.msgs.length * 16 ≤ room) (hK : K.floor ≤ K.next) :
    Run (callV (cfg G) (sem (cfg G) (n + 6)) 98 [.agg (tpR q), .agg row]) K fun v K' => (r.msgs = [] ∧ ∃ mv, v = .tuple [.agg [mv, i64 0], .str ⟨#[]⟩, .bool false, errV 16] ∧ New K 1 [] mv K') ∨
      ∃ m0 l mv,r.msgs = m0 :: l ∧ v = .tuple [.agg [mv,i64 0],.str m0,.bool true,.nili] ∧ New K 1 (l.map stR) mv K':=by
  have hck:=pcheck_spec (G:=G) hA n h hq h1 h2
  have hin:=inT_spec (G:=G) (n + 4) q
  rw [decide_eq_true (show q.kind = 1 ∨ q.kind = 3 from .inr hk)] at hin
  have hqu:=queT_spec (G:=G) (n + 4) q
  rw [decide_eq_true (show queT q from .inl hk)] at hqu
  obtain ⟨mv,rfl,hm,hl⟩:=h
  have hcl : (V.agg [mv, i64 r.age]).closedV = true := by
    show ([mv,i64 r.age]:List V).all V.closed = true
    simp only [List.all_cons,List.all_nil,hm.closed]
    rfl
  have hct:(V.agg (tpR q)).closedV = true:=rfl
  refine callV_own rfl (mapM_closedV (by simp only [List.all_cons,List.all_nil,hcl,hct]; rfl) K) ?_
  rw [ferry_port_Get_eq]
  simp only [ferry_port_Get]
  have hlen:=hm.len
  rw [List.length_map] at hlen
  cases hms:r.msgs with
  | nil =>
    rw [hms] at hlen
    have b1:(((0:Nat):Int) == 0) = true:=rfl
    (repeat' (first | (simp only [wp,extractV,w0,reduceIte,Nat.reduceAdd,Nat.reduceLT,Nat.reduceLeDiff,Nat.reduceEqDiff,tp_len,tp_take,hck,eq_nili,hin,hlen,b1,buildV,fill,putRow,glob_b hA,bs_ok,apartV,tupV]) | (with_reducible ((first | apply xC | apply xG | apply xQ) <;> intro hb <;> try simp only [hb]))))
    obtain ⟨g,g1,g2⟩:=Own.handP (H:=K) (a:=0) (vs:=[.str ⟨#[]⟩,.bool false,errV 16]) (Own.nils ((((Heap.empty.add ⟨4,[tpR q]⟩).add ⟨2,[[mv,i64 r.age]]⟩).add ⟨2,[[.nils,i64 0]]⟩).set 2 ⟨2,[[.nils,i64 0]]⟩) 1) rfl (by intro v hv; simp at hv; rcases hv with rfl | rfl | rfl <;> rfl) hK
    exact ⟨g,g1,g2.mono fun v K' ⟨m',e,hn⟩ => .inl ⟨m',e,hn⟩⟩
  | cons m0 l =>
    rw [hms] at hlen hm
    have b1:(((l.length + 1:Nat):Int) == 0) = false:=by rw [beq_eq_false_iff_ne]; omega
    have hsl:=sl_tail hm
    have hi:=hm.idx (k:=.i64) (i:=0) (by simp)
    (repeat' (first | (simp only [wp,extractV,w0,reduceIte,Nat.reduceAdd,Nat.reduceLT,Nat.reduceLeDiff,Nat.reduceEqDiff,tp_len,tp_take,hck,eq_nili,hin,hlen,b1,hqu,hsl]) | (with_reducible ((first | apply xC | apply xG | apply xQ) <;> intro hb <;> try simp only [hb]))))
    generalize hH0:(((Heap.empty.add ⟨4,[tpR q]⟩).add ⟨2,[[mv,i64 r.age]]⟩).add ⟨2,[[.nils,.int .i64 0]]⟩) = H0
    have n0:H0.next = 3:=by rw [← hH0]; rfl
    have b1:H0.blk 1 = some ⟨2,[[mv,i64 r.age]]⟩:=by rw [← hH0]; rfl
    have b2:H0.blk 2 = some ⟨2,[[.nils,.int .i64 0]]⟩:=by rw [← hH0]; rfl
    have fl0:H0.floor = 0:=by rw [← hH0]; rfl
    clear hH0
    refine New_q (by omega) (fun K' hK' => clone79 (n + 4) (Sls.imm _ _) (flat_strs _) (by rw [List.length_map]; rw [hms,List.length_cons] at hr; omega) hK') fun y H1 o1 f1 l1 => ?_
    have b1:=(f1.old 1 (by omega) id).trans b1
    have b2:=(f1.old 2 (by omega) id).trans b2
    have fl1:H1.floor ≤ 2:=by have:=f1.floor; omega
    have a12:decide ((1:Nat) ≠ 2) = true:=rfl
    have hi':idxV 1 mv (.int .i64 0) = some (.iptr (stR m0) 0):=hi
    (repeat' (first | (simp only [wp,extractV,w0,reduceIte,Nat.reduceAdd,Nat.reduceLT,Nat.reduceLeDiff,Nat.reduceEqDiff,buildV,fill,putRow,o1.cells,b1,b2,fl1,hi',apartV,a12,stR,tupV]) | (with_reducible ((first | apply xC | apply xG | apply xQ) <;> intro hb <;> try simp only [hb]))))
    obtain ⟨g,g1,g2⟩:=Own.handP (H:=K) (a:=0) (vs:=[.str m0,.bool true,.nili]) (o1.frame (Frame.set (H:=H1) ⟨2,[[y,i64 0]]⟩ 2 (p:=fun q => q = 2) rfl) fun k hk e => by have:=l1 k hk; omega) (flat_strs _) (by intro v hv; simp at hv; rcases hv with rfl | rfl | rfl <;> rfl) hK
    exact ⟨g,g1,g2.mono fun v K' ⟨m',e,hn⟩ => .inr ⟨m0,l,m',rfl,e,hn⟩⟩
end Sy
end Go.Fv.Tr

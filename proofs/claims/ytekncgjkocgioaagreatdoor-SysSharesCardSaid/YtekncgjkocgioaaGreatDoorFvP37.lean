/-
  States handed over and taken. By an AI agent; no person has read it.
-/
import Derived.Test.YtekncgjkocgioaaGreatDoorFvP36
set_option linter.unusedVariables false
set_option linter.unusedSimpArgs false
set_option linter.unusedSectionVars false
/-! States handed over and taken. -/
namespace Go.Fv.Tr
open Go Go.Fv Go.Fv.Pl Go.Proofs
variable {G:GV}
namespace Sy
variable {l m:List V} {s:St} {p:Pn} {x y z a b c d x' y' z' u v w g:V} {pr:List (List V)} {k:List V} {H H' K:Heap}
theorem lr_none {r:List V} {rows:List (List V)} (h:hd r = none):lr (r :: rows) = lr rows:=by simp [lr,h]
theorem takeD_flat {d:Nat} {v:V} (h:v.flat = true):takeD d v = M.ret v:=by
 cases d with
 | zero => rfl
 | succ d => cases v <;> first | rfl | simp [V.flat] at h
theorem takesRows_flat {d : Nat} : ∀ {rows : List (List V)}, flatRows rows = true → takesRows (takeD d) rows = M.ret rows
  | [],_ => rfl
  | r :: rows, h => by
    have h' : r.all V.flat = true ∧ flatRows rows = true := by
      unfold flatRows at h ⊢
      simpa using h
    have one : takesD (takeD d) r = M.ret r := by
      have:=h'.1
      clear h h'
      induction r with
      | nil => rfl
      | cons a r ih =>
        simp only [List.all_cons,Bool.and_eq_true] at this
        simp only [takesD,takeD_flat this.1,ih this.2]
        rfl
    simp only [takesRows,one,takesRows_flat h'.2]
    rfl
theorem takePs {d : Nat} {rows : List (List V)} {ps : List Po} (h : PsG rows ps) : ∀ {K : Heap}, K.floor ≤ K.next → Run (takesRows (takeD (d + 1)) rows) K fun pr' K' => PsM K' pr' ps ∧ Frame K K' (fun _ => False) ∧ (lr pr').Nodup ∧ ∀ l ∈ lr pr', K.next ≤ l ∧ l < K'.next := by
  induction h with
  | nil => exact fun {K} _ => Run.ret.2 ⟨.nil,Frame.refl _ _,List.nodup_nil,fun l h => by cases h⟩
  | @cons r q rows ps h t ih =>
    intro K hK
    obtain ⟨m,rfl,hm,hl⟩:=h
    have ha:takeD (d + 1) (i64 q.age) = M.ret (i64 q.age):=rfl
    rcases hm with ⟨hm,he⟩ | rfl
    · have hf:m.flat = true:=by rcases hm with rfl | rfl <;> rfl
      simp only [takesRows,takesD,takeD_flat hf,ha,Run.bind,Run.ret]
      refine (ih hK).mono fun pr' K' ⟨h1,h2,h3,h4⟩ => ?_
      have elr:lr ([m,i64 q.age] :: pr') = lr pr':=lr_none (by rcases hm with rfl | rfl <;> rfl)
      rw [elr]
      refine ⟨h1.cons ⟨m,rfl,?_,hl⟩,h2,h3,h4⟩
      rw [he]
      rcases hm with rfl | rfl
      · exact Own.nils _ _
      · exact Own.emp _ _
    · have hn : takeD (d + 1) (.deep 1 (q.msgs.map stR)) = newRows 1 (q.msgs.map stR) false := by
        simp only [takeD,takesRows_flat (flat_strs _)]
        rfl
      simp only [takesRows,takesD,hn,ha,Run.bind,Run.ret]
      refine Run.eq rfl |>.2 ?_
      have f0:Frame K (K.add ⟨1,q.msgs.map stR⟩) (fun _ => False):=Frame.add _ _
      have hK':(K.add ⟨1,q.msgs.map stR⟩).floor ≤ (K.add ⟨1,q.msgs.map stR⟩).next:=by show K.floor ≤ K.next + 1; omega
      refine (ih hK').mono fun pr' K' ⟨h1,h2,h3,h4⟩ => ?_
      have o0:Own (K.add ⟨1,q.msgs.map stR⟩) (.ref K.next 1 0 (q.msgs.map stR).length (q.msgs.map stR).length false) 1 (q.msgs.map stR):=Own.new hK _ _
      have elr:lr ([.ref K.next 1 0 (q.msgs.map stR).length (q.msgs.map stR).length false,i64 q.age] :: pr') = K.next :: lr pr':=by simp [lr,hd,loc]
      rw [elr]
      refine ⟨h1.cons ⟨_,rfl,o0.frame h2 fun _ _ => id,hl⟩,f0.tr h2,List.nodup_cons.2 ⟨fun g => ?_,h3⟩,fun l hl => ?_⟩
      · have:=(h4 _ g).1
        have e:(K.add ⟨1,q.msgs.map stR⟩).next = K.next + 1:=rfl
        omega
      · have e : (K.add ⟨1, q.msgs.map stR⟩).next = K.next + 1 := rfl
        rcases List.mem_cons.1 hl with rfl | hl
        · exact ⟨Nat.le_refl _,by have:=h2.next; omega⟩
        · have:=h4 l hl
          exact ⟨by omega,this.2⟩
theorem psG_take {rows : List (List V)} {ps : List Po} (h : PsG rows ps) (hf : flatRows rows = true) (K : Heap) : PsM K rows ps ∧ lr rows = [] := by
  induction h with
  | nil => exact ⟨.nil,rfl⟩
  | @cons r q rows ps h t ih =>
    have hf' : r.all V.flat = true ∧ flatRows rows = true := by
      unfold flatRows at hf ⊢
      simpa using hf
    obtain ⟨h1,h2⟩:=ih hf'.2
    obtain ⟨m,rfl,hm,hl⟩:=h
    rcases hm with ⟨hm,he⟩ | rfl
    · refine ⟨h1.cons ⟨m, rfl, ?_, hl⟩, ?_⟩
      · rw [he]
        rcases hm with rfl | rfl
        · exact Own.nils _ _
        · exact Own.emp _ _
      · rw [lr_none (by rcases hm with rfl | rfl <;> rfl)]
        exact h2
    · have:=hf'.1
      simp [V.flat] at this
theorem WG.take {ps:List Po} (h:WG g ps) (hK:K.floor ≤ K.next):Run (take1 g) K fun w' K' => ∃ pr',Own K' w' 2 pr' ∧ PsM K' pr' ps ∧ Frame K K' (fun _ => False) ∧ (lr pr').Nodup ∧ (∀ l ∈ lr pr',K.next ≤ l ∧ l < K'.next) ∧ ∀ l,loc w' = some l → K.next ≤ l ∧ l ∉ lr pr':=by
 rcases h with ⟨rfl | rfl,rfl⟩ | ⟨rows,rfl | rfl,hP,hf⟩
 ·exact Run.of rfl ⟨[],Own.nils _ _,.nil,Frame.refl _ _,List.nodup_nil,(fun l h => by cases h),fun l h => by cases h⟩
 ·exact Run.of rfl ⟨[],Own.emp _ _,.nil,Frame.refl _ _,List.nodup_nil,(fun l h => by cases h),fun l h => by cases h⟩
 ·obtain ⟨h1,h2⟩:=psG_take hP (hf rfl) (K.add ⟨2,rows⟩)
  exact Run.of rfl ⟨rows,Own.new hK _ _,h1,Frame.add _ _,by rw [h2]; exact List.nodup_nil,(fun l h => by rw [h2] at h; cases h),fun l h => by cases h; exact ⟨Nat.le_refl _,by rw [h2]; exact List.not_mem_nil⟩⟩
 ·have e:take1 (.deep 2 rows) = (takesRows (takeD (2 + 1)) rows).bind fun rows' => newRows 2 rows' false:=rfl
  rw [e,Run.bind]
  refine (takePs hP hK).mono fun pr' K' ⟨h1,h2,h3,h4⟩ => ?_
  have f0:Frame K' (K'.add ⟨2,pr'⟩) (fun _ => False):=Frame.add _ _
  have hK':K'.floor ≤ K'.next:=by rw [h2.floor]; exact Nat.le_trans hK h2.next
  refine Run.of rfl ⟨pr',Own.new hK' _ _,h1.frame f0 fun _ _ => id,h2.tr f0,h3,fun l hl => ⟨(h4 l hl).1,Nat.lt_succ_of_lt (h4 l hl).2⟩,fun l h => ?_⟩
  cases h
  exact ⟨h2.next,fun g => Nat.lt_irrefl _ (h4 _ g).2⟩
theorem lv_cons (a:V) (l:List V):lv (a :: l) = (loc a).toList ++ lv l:=by
 unfold lv
 rw [List.filterMap_cons]
 cases loc a <;> rfl
theorem mem_lv {l:List V} {n:Nat}:n ∈ lv l ↔ ∃ v ∈ l,loc v = some n:=List.mem_filterMap
theorem giveOne {xx:V} {sz:Nat} {rows:List (List V)} {ls:List Nat} (h:Own H xx sz rows) (hf:flatRows rows = true) (hls:∀ l,loc xx = some l → l ∉ ls) :
  ∃ gg,give H xx ls = some (gg,(loc xx).toList ++ ls) ∧ Gv gg sz rows:=h.give hf hls
theorem takes_ms {x1 y1 z1 u1 v1 w1 p1:V} (g1:Gv x1 21 (s.t.ps.map prRow)) (g2:Gv y1 1 (s.t.q.map intRow)) (g3:Gv z1 2 (s.t.ts.map tmRow)) (g4:Gv u1 1 (s.up.map boR)) (g5:Gv v1 1 (s.sems.map intRow)) (g6:WG w1 s.ports) (g7:Gv p1 66 (s.pages.map paR))
  (hK:K.floor ≤ K.next):Run (takes [i64 s.id,i64 s.fr,i64 s.ep,x1,y1,z1,u1,v1,w1,p1]) K fun l' K' => ∃ x' y' z' u' v' w' g' pr',MS K' l' s x' y' z' u' v' w' g' pr' ∧ Frame K K' (fun _ => False) ∧ ∀ n ∈ lv [x',y',z',u',v',w',g'] ++ lr pr',K.next ≤ n:=by
 have ti:∀ n:Int,take1 (i64 n) = M.ret (i64 n):=fun _ => rfl
 simp only [takes,ti,Run.bind,Run.ret]
 refine (g1.take hK).mono fun xx K1 ⟨ox,fx,lx⟩ => ?_
 have k1:K1.floor ≤ K1.next:=by rw [fx.floor]; exact Nat.le_trans hK fx.next
 refine (g2.take k1).mono fun yy K2 ⟨oy,fy,ly⟩ => ?_
 have k2:K2.floor ≤ K2.next:=by rw [fy.floor]; exact Nat.le_trans k1 fy.next
 refine (g3.take k2).mono fun zz K3 ⟨oz,fz,lz⟩ => ?_
 have k3:K3.floor ≤ K3.next:=by rw [fz.floor]; exact Nat.le_trans k2 fz.next
 refine (g4.take k3).mono fun uu K4 ⟨ou,fu,lu⟩ => ?_
 have k4:K4.floor ≤ K4.next:=by rw [fu.floor]; exact Nat.le_trans k3 fu.next
 refine (g5.take k4).mono fun vv K5 ⟨ov,fv,lv'⟩ => ?_
 have k5:K5.floor ≤ K5.next:=by rw [fv.floor]; exact Nat.le_trans k4 fv.next
 refine (g6.take k5).mono fun ww K6 ⟨pr',ow,opr,fw,nP',lP,lw⟩ => ?_
 have k6:K6.floor ≤ K6.next:=by rw [fw.floor]; exact Nat.le_trans k5 fw.next
 refine (g7.take k6).mono fun gg K7 ⟨og,fg,lg⟩ => ?_
 have id':∀ (l:Nat),False → False:=fun _ => id
 have bx:∀ l,loc xx = some l → K.next ≤ l ∧ l < K1.next:=fun l hl => ⟨lx l hl,ox.loc_lt hl⟩
 have bY:∀ l,loc yy = some l → K1.next ≤ l ∧ l < K2.next:=fun l hl => ⟨ly l hl,oy.loc_lt hl⟩
 have bz:∀ l,loc zz = some l → K2.next ≤ l ∧ l < K3.next:=fun l hl => ⟨lz l hl,oz.loc_lt hl⟩
 have bu:∀ l,loc uu = some l → K3.next ≤ l ∧ l < K4.next:=fun l hl => ⟨lu l hl,ou.loc_lt hl⟩
 have bv:∀ l,loc vv = some l → K4.next ≤ l ∧ l < K5.next:=fun l hl => ⟨lv' l hl,ov.loc_lt hl⟩
 have bw:∀ l,loc ww = some l → K5.next ≤ l ∧ l < K6.next:=fun l hl => ⟨(lw l hl).1,ow.loc_lt hl⟩
 have bg:∀ l,loc gg = some l → K6.next ≤ l:=lg
 have n1:=fx.next
 have n2:=fy.next
 have n3:=fz.next
 have n4:=fu.next
 have n5:=fv.next
 have n6:=fw.next
 refine ⟨xx,yy,zz,uu,vv,ww,gg,pr',⟨rfl,?_,?_,?_,?_,?_,ow.frame fg fun _ _ => id,og,opr.frame fg fun _ _ => id,?_⟩,((((((fx.tr fy).tr fz).tr fu).tr fv).tr fw).tr fg),?_⟩
 ·exact (((((ox.frame fy fun _ _ => id).frame fz fun _ _ => id).frame fu fun _ _ => id).frame fv fun _ _ => id).frame fw fun _ _ => id).frame fg fun _ _ => id
 ·exact ((((oy.frame fz fun _ _ => id).frame fu fun _ _ => id).frame fv fun _ _ => id).frame fw fun _ _ => id).frame fg fun _ _ => id
 ·exact (((oz.frame fu fun _ _ => id).frame fv fun _ _ => id).frame fw fun _ _ => id).frame fg fun _ _ => id
 ·exact ((ou.frame fv fun _ _ => id).frame fw fun _ _ => id).frame fg fun _ _ => id
 ·exact (ov.frame fw fun _ _ => id).frame fg fun _ _ => id
 ·simp only [lv_cons,show lv [] = [] from rfl,List.append_nil,List.append_assoc,List.nodup_append]
  simp only [List.mem_append,Option.mem_toList,Option.mem_def]
  have nt:∀ q:V,(loc q).toList.Nodup:=fun q => by cases loc q <;> simp
  refine ⟨nt _,⟨nt _,⟨nt _,⟨nt _,⟨nt _,⟨nt _,⟨nt _,nP',?_⟩,?_⟩,?_⟩,?_⟩,?_⟩,?_⟩,?_⟩
  ·intro i hi j hj e
   have:=bg i hi
   have:=lP j hj
   omega
  ·intro i hi j hj e
   rcases hj with hj | hj
   ·have:=bw i hi
    have:=bg j hj
    omega
   ·exact (lw i hi).2 (e ▸ hj)
  ·intro i hi j hj e
   subst e
   have:=bv i hi
   repeat' (rcases hj with hj | hj)
   all_goals first
    | (have:=bw i hj; omega)
    | (have:=bg i hj; omega)
    | (have:=lP i hj; omega)
  ·intro i hi j hj e
   subst e
   have:=bu i hi
   repeat' (rcases hj with hj | hj)
   all_goals first
    | (have:=bv i hj; omega)
    | (have:=bw i hj; omega)
    | (have:=bg i hj; omega)
    | (have:=lP i hj; omega)
  ·intro i hi j hj e
   subst e
   have:=bz i hi
   repeat' (rcases hj with hj | hj)
   all_goals first
    | (have:=bu i hj; omega)
    | (have:=bv i hj; omega)
    | (have:=bw i hj; omega)
    | (have:=bg i hj; omega)
    | (have:=lP i hj; omega)
  ·intro i hi j hj e
   subst e
   have:=bY i hi
   repeat' (rcases hj with hj | hj)
   all_goals first
    | (have:=bz i hj; omega)
    | (have:=bu i hj; omega)
    | (have:=bv i hj; omega)
    | (have:=bw i hj; omega)
    | (have:=bg i hj; omega)
    | (have:=lP i hj; omega)
  ·intro i hi j hj e
   subst e
   have:=bx i hi
   repeat' (rcases hj with hj | hj)
   all_goals first
    | (have:=bY i hj; omega)
    | (have:=bz i hj; omega)
    | (have:=bu i hj; omega)
    | (have:=bv i hj; omega)
    | (have:=bw i hj; omega)
    | (have:=bg i hj; omega)
    | (have:=lP i hj; omega)
 ·intro i hi
  simp only [lv_cons,show lv [] = [] from rfl,List.append_nil,List.mem_append,Option.mem_toList,Option.mem_def] at hi
  repeat' (rcases hi with hi | hi)
  all_goals first
   | (have:=bx i hi; omega)
   | (have:=bY i hi; omega)
   | (have:=bz i hi; omega)
   | (have:=bu i hi; omega)
   | (have:=bv i hi; omega)
   | (have:=bw i hi; omega)
   | (have:=bg i hi; omega)
   | (have:=lP i hi; omega)
theorem MS.gives (h:MS H l s x y z u v w g pr):∃ r ls,gives H l [] = some (r,ls) ∧ ∀ K:Heap,K.floor ≤ K.next → Run (takes r) K fun l' K' => ∃ x' y' z' u' v' w' g' pr',MS K' l' s x' y' z' u' v' w' g' pr' ∧ Frame K K' (fun _ => False) ∧ ∀ n ∈ lv [x',y',z',u',v',w',g'] ++ lr pr',K.next ≤ n:=by
 have nd:=h.nd
 simp only [lv_cons,show lv [] = [] from rfl,List.append_nil,List.append_assoc,List.nodup_append] at nd
 obtain ⟨-,⟨-,⟨-,⟨-,⟨-,⟨-,⟨-,nP,dG⟩,dW⟩,dV⟩,dU⟩,dZ⟩,dY⟩,dX⟩:=nd
 simp only [List.mem_append,Option.mem_toList,Option.mem_def] at dX dY dZ dU dV dW dG
 obtain ⟨x1,e1,g1⟩:=giveOne (ls:=[]) h.ps (flat_prs _) fun l _ => List.not_mem_nil
 obtain ⟨y1,e2,g2⟩:=giveOne (ls:=(loc x).toList ++ []) h.q (flat_ints _) fun l hl g => by
  simp only [List.mem_append,Option.mem_toList,Option.mem_def,List.not_mem_nil,or_false] at g
  exact dX l g l (.inl hl) rfl
 obtain ⟨z1,e3,g3⟩:=giveOne (ls:=(loc y).toList ++ ((loc x).toList ++ [])) h.ts (flat_tms _) fun l hl g => by
  simp only [List.mem_append,Option.mem_toList,Option.mem_def,List.not_mem_nil,or_false] at g
  rcases g with g | g
  ·exact dY l g l (.inl hl) rfl
  ·exact dX l g l (.inr (.inl hl)) rfl
 obtain ⟨u1,e4,g4⟩:=giveOne (ls:=(loc z).toList ++ ((loc y).toList ++ ((loc x).toList ++ []))) h.up (flat_bos _) fun l hl g => by
  simp only [List.mem_append,Option.mem_toList,Option.mem_def,List.not_mem_nil,or_false] at g
  rcases g with g | g | g
  ·exact dZ l g l (.inl hl) rfl
  ·exact dY l g l (.inr (.inl hl)) rfl
  ·exact dX l g l (.inr (.inr (.inl hl))) rfl
 obtain ⟨v1,e5,g5⟩:=giveOne (ls:=(loc u).toList ++ ((loc z).toList ++ ((loc y).toList ++ ((loc x).toList ++ [])))) h.sems (flat_ints _) fun l hl g => by
  simp only [List.mem_append,Option.mem_toList,Option.mem_def,List.not_mem_nil,or_false] at g
  rcases g with g | g | g | g
  ·exact dU l g l (.inl hl) rfl
  ·exact dZ l g l (.inr (.inl hl)) rfl
  ·exact dY l g l (.inr (.inr (.inl hl))) rfl
  ·exact dX l g l (.inr (.inr (.inr (.inl hl)))) rfl
 obtain ⟨w1,ls',e6,g6,m6⟩:=Own.givePorts (ls:=(loc v).toList ++ ((loc u).toList ++ ((loc z).toList ++ ((loc y).toList ++ ((loc x).toList ++ []))))) h.ports h.row nP (fun l hl g => by
  simp only [List.mem_append,Option.mem_toList,Option.mem_def,List.not_mem_nil,or_false] at g
  rcases g with g | g | g | g | g
  ·exact dV l g l (.inr (.inr hl)) rfl
  ·exact dU l g l (.inr (.inr (.inr hl))) rfl
  ·exact dZ l g l (.inr (.inr (.inr (.inr hl)))) rfl
  ·exact dY l g l (.inr (.inr (.inr (.inr (.inr hl))))) rfl
  ·exact dX l g l (.inr (.inr (.inr (.inr (.inr (.inr hl)))))) rfl) fun l hl => ⟨fun g => by
   simp only [List.mem_append,Option.mem_toList,Option.mem_def,List.not_mem_nil,or_false] at g
   rcases g with g | g | g | g | g
   ·exact dV l g l (.inl hl) rfl
   ·exact dU l g l (.inr (.inl hl)) rfl
   ·exact dZ l g l (.inr (.inr (.inl hl))) rfl
   ·exact dY l g l (.inr (.inr (.inr (.inl hl)))) rfl
   ·exact dX l g l (.inr (.inr (.inr (.inr (.inl hl))))) rfl,fun g => dW l hl l (.inr g) rfl⟩
 obtain ⟨p1,e7,g7⟩:=giveOne (ls:=ls') h.pages (flat_pas _) fun l hl g => by
  rcases m6 l g with g | g | g
  ·simp only [List.mem_append,Option.mem_toList,Option.mem_def,List.not_mem_nil,or_false] at g
   rcases g with g | g | g | g | g
   ·exact dV l g l (.inr (.inl hl)) rfl
   ·exact dU l g l (.inr (.inr (.inl hl))) rfl
   ·exact dZ l g l (.inr (.inr (.inr (.inl hl)))) rfl
   ·exact dY l g l (.inr (.inr (.inr (.inr (.inl hl))))) rfl
   ·exact dX l g l (.inr (.inr (.inr (.inr (.inr (.inl hl)))))) rfl
  ·exact dG l hl l g rfl
  ·exact dW l g l (.inl hl) rfl
 have hi:∀ (n:Int) (ls:List Nat),give H (i64 n) ls = some (i64 n,ls):=fun _ _ => rfl
 refine ⟨[i64 s.id,i64 s.fr,i64 s.ep,x1,y1,z1,u1,v1,w1,p1],(loc g).toList ++ ls',?_,fun K hK => ?_⟩
 ·rw [h.eq]
  simp only [Fv.gives,hi,e1,e2,e3,e4,e5,e6,e7,Option.bind_some]
 ·exact takes_ms g1 g2 g3 g4 g5 g6 g7 hK
theorem MS.hand (h:MS H l s x y z u v w g pr):∃ r,giveV H (.agg l) = some r ∧ ∀ K:Heap,K.floor ≤ K.next → Run (takeV r) K fun vv K' => ∃ l' x' y' z' u' v' w' g' pr',vv = .agg l' ∧ MS K' l' s x' y' z' u' v' w' g' pr' ∧ Frame K K' (fun _ => False) ∧ ∀ n ∈ lv [x',y',z',u',v',w',g'] ++ lr pr',K.next ≤ n:=by
 obtain ⟨r,ls,h1,h2⟩:=h.gives
 refine ⟨.agg r,by simp only [giveV,give2,h1,Option.bind_some],fun K hK => ?_⟩
 simp only [takeV,take2,Run.bind,Run.ret]
 exact (h2 K hK).mono fun l' K' ⟨x',y',z',u',v',w',g',pr',h3,h4,h5⟩ => ⟨l',x',y',z',u',v',w',g',pr',rfl,h3,h4,h5⟩
theorem gives_app {H : Heap} : ∀ {l1 l2 r1 r2 : List V} {ls ls1 ls2 : List Nat}, gives H l1 ls = some (r1, ls1) → gives H l2 ls1 = some (r2, ls2) → gives H (l1 ++ l2) ls = some (r1 ++ r2, ls2)
  | [], l2, r1, r2, ls, ls1, ls2, h1, h2 => by
    simp only [Fv.gives,Option.some.injEq,Prod.mk.injEq] at h1
    obtain ⟨rfl,rfl⟩:=h1
    exact h2
  | a :: l1, l2, r1, r2, ls, ls1, ls2, h1, h2 => by
    simp only [Fv.gives,List.cons_append] at h1 ⊢
    cases ha:give H a ls with
    | none => rw [ha] at h1; cases h1
    | some q =>
      rw [ha] at h1
      simp only [Option.bind_some] at h1 ⊢
      cases hb:gives H l1 q.2 with
      | none => rw [hb] at h1; cases h1
      | some q' =>
        rw [hb] at h1
        simp only [Option.bind_some,Option.some.injEq,Prod.mk.injEq] at h1
        obtain ⟨rfl,rfl⟩:=h1
        rw [gives_app hb h2]
        rfl
theorem takes_app {K : Heap} : ∀ {l1 l2 : List V} {Q : List V → Heap → Prop}, Run (takes l1) K (fun r1 K1 => Run (takes l2) K1 fun r2 K2 => Q (r1 ++ r2) K2) → Run (takes (l1 ++ l2)) K Q
  | [], l2, Q, h => by
    simp only [takes,Run.ret,List.nil_append] at h ⊢
    exact h
  | a :: l1, l2, Q, h => by
    simp only [takes,Run.bind,Run.ret,List.cons_append] at h ⊢
    refine h.mono fun v K1 h => ?_
    exact takes_app h
end Sy
end Go.Fv.Tr
namespace Go.Fv
open Go
theorem New_q {v:Nat → Bool} {m:M V} {sz:Nat} {rows:List (List V)} {H:Heap} {Q:V → Heap → Prop} (hf:H.floor ≤ H.next)
  (h:∀ K:Heap,K.floor ≤ K.next → Run m K fun y K' => Own K' y sz rows ∧ Frame K K' (fun _ => False) ∧ ∀ l,loc y = some l → K.next ≤ l)
  (q:∀ y H',Own H' y sz rows → Frame H H' (fun _ => False) → (∀ l,loc y = some l → H.next ≤ l ∧ l < H'.next) → Q y H'):Run (qrun v m) H Q:=by
 refine Run.qrunI ((h ⟨fun l => if v l then H.blk l else none,H.next,H.next⟩ (Nat.le_refl _)).mono fun y K' ⟨o,f,l⟩ => ?_)
 have o':=Own.merge (H:=H) o f rfl l hf
 exact q y _ o' ⟨f.next,rfl,fun l hl _ => if_pos hl⟩ fun n hn => ⟨l n hn,o'.loc_lt hn⟩
end Go.Fv
namespace Go.Fv.Tr
open Go Go.Fv Go.Fv.Pl Go.Proofs
variable {G:GV}
namespace Sy
variable {l m:List V} {s:St} {p:Pn} {x y z a b c d x' y' z' u v w g:V} {pr:List (List V)} {k:List V} {H H' K:Heap}
structure Cw (H:Heap) (row:List V):Prop where
 fl:H.floor = 0
 nx:2 ≤ H.next
 b0:H.blk 0 = some ⟨10,[row]⟩
 b1:∃ z,H.blk 1 = some ⟨10,[z]⟩ ∧ z.length = 10
theorem Cw.keep {row:List V} (h:Cw H row) {P:Nat → Prop} (f:Frame H H' P) (hp:∀ m,P m → 2 ≤ m):Cw H' row:=by
 have:=h.nx
 obtain ⟨z,h1,h2⟩:=h.b1
 exact ⟨f.floor.trans h.fl,Nat.le_trans h.nx f.next,(f.old 0 (by omega) fun g => by have:=hp _ g; omega).trans h.b0,z,(f.old 1 (by omega) fun g => by have:=hp _ g; omega).trans h1,h2⟩
theorem Cw.put {row:List V} (h:Cw H row) (row':List V):Cw (H.set 0 ⟨10,[row']⟩) row':=by
 obtain ⟨z,h1,h2⟩:=h.b1
 exact ⟨h.fl,h.nx,by rw [Heap.set_blk,if_pos rfl],z,by rw [Heap.set_blk,if_neg (by decide)]; exact h1,h2⟩
structure Bd (H:Heap) (x:V) (sz:Nat) (rows:List (List V)) (lo hi:Nat):Prop where
 own:Own H x sz rows
 b:∀ l,loc x = some l → lo ≤ l ∧ l < hi
theorem Bd.keep {sz lo hi:Nat} {rows:List (List V)} (h:Bd H x sz rows lo hi) {P:Nat → Prop} (f:Frame H H' P) (hp:∀ m,P m → m < lo ∨ hi ≤ m):Bd H' x sz rows lo hi :=
 ⟨h.own.frame f fun l hl g => by have:=hp l g; have:=h.b l hl; omega,h.b⟩
theorem Bd.fr {sz lo hi:Nat} {rows:List (List V)} (h:Bd H x sz rows lo hi) (f:Frame H H' (fun _ => False)):Bd H' x sz rows lo hi:=h.keep f fun _ g => g.elim
theorem Bd.st {sz lo hi:Nat} {rows:List (List V)} (h:Bd H x sz rows lo hi) {n:Nat} (hn:n < lo) (bk:Blk):Bd (H.set n bk) x sz rows lo hi :=
 h.keep (P:=fun m => m = n) (Frame.set _ _ rfl) fun m e => .inl (by omega)
theorem nd_of {n0 n1 n2 n3 n4 n5 n6 n7:Nat} (bx:∀ l,loc x = some l → n0 ≤ l ∧ l < n1) (bY:∀ l,loc y = some l → n1 ≤ l ∧ l < n2) (bz:∀ l,loc z = some l → n2 ≤ l ∧ l < n3) (bu:∀ l,loc u = some l → n3 ≤ l ∧ l < n4)
  (bv:∀ l,loc v = some l → n4 ≤ l ∧ l < n5) (bw:∀ l,loc w = some l → n5 ≤ l ∧ l < n6) (bg:∀ l,loc g = some l → n6 ≤ l ∧ l < n7) (bp:∀ l ∈ lr pr,n7 ≤ l) (hp:(lr pr).Nodup)
  (hn:n0 ≤ n1 ∧ n1 ≤ n2 ∧ n2 ≤ n3 ∧ n3 ≤ n4 ∧ n4 ≤ n5 ∧ n5 ≤ n6 ∧ n6 ≤ n7):(lv [x,y,z,u,v,w,g] ++ lr pr).Nodup:=by
 simp only [lv_cons,show lv [] = [] from rfl,List.append_nil,List.append_assoc,List.nodup_append]
 simp only [List.mem_append,Option.mem_toList,Option.mem_def]
 have nt:∀ q:V,(loc q).toList.Nodup:=fun q => by cases loc q <;> simp
 refine ⟨nt _,⟨nt _,⟨nt _,⟨nt _,⟨nt _,⟨nt _,⟨nt _,hp,?_⟩,?_⟩,?_⟩,?_⟩,?_⟩,?_⟩,?_⟩
 ·intro i hi j hj e
  subst e
  have:=bg i hi
  have:=bp i hj
  omega
 ·intro i hi j hj e
  subst e
  have:=bw i hi
  repeat' (rcases hj with hj | hj)
  all_goals first
   | (have:=bg i hj; omega)
   | (have:=bp i hj; omega)
 ·intro i hi j hj e
  subst e
  have:=bv i hi
  repeat' (rcases hj with hj | hj)
  all_goals first
   | (have:=bw i hj; omega)
   | (have:=bg i hj; omega)
   | (have:=bp i hj; omega)
 ·intro i hi j hj e
  subst e
  have:=bu i hi
  repeat' (rcases hj with hj | hj)
  all_goals first
   | (have:=bv i hj; omega)
   | (have:=bw i hj; omega)
   | (have:=bg i hj; omega)
   | (have:=bp i hj; omega)
 ·intro i hi j hj e
  subst e
  have:=bz i hi
  repeat' (rcases hj with hj | hj)
  all_goals first
   | (have:=bu i hj; omega)
   | (have:=bv i hj; omega)
   | (have:=bw i hj; omega)
   | (have:=bg i hj; omega)
   | (have:=bp i hj; omega)
 ·intro i hi j hj e
  subst e
  have:=bY i hi
  repeat' (rcases hj with hj | hj)
  all_goals first
   | (have:=bz i hj; omega)
   | (have:=bu i hj; omega)
   | (have:=bv i hj; omega)
   | (have:=bw i hj; omega)
   | (have:=bg i hj; omega)
   | (have:=bp i hj; omega)
 ·intro i hi j hj e
  subst e
  have:=bx i hi
  repeat' (rcases hj with hj | hj)
  all_goals first
   | (have:=bY i hj; omega)
   | (have:=bz i hj; omega)
   | (have:=bu i hj; omega)
   | (have:=bv i hj; omega)
   | (have:=bw i hj; omega)
   | (have:=bg i hj; omega)
   | (have:=bp i hj; omega)
def NewSt (H:Heap) (s:St) (r:V) (H':Heap):Prop:=∃ l x y z u v w g pr,r = .agg l ∧ MS H' l s x y z u v w g pr ∧ Frame H H' (fun _ => False) ∧ ∀ n ∈ lv [x,y,z,u,v,w,g] ++ lr pr,H.next ≤ n
structure Lp (H:Heap) (ports:List Po) (pr rk:List (List V)) (k lo:Nat):Prop where
 len:rk.length = ports.length
 done:∀ (j:Nat) (hj:j < rk.length),j < k → PoM H rk[j] (ports[j]'(by omega))
 rest:∀ (j:Nat) (hj:j < rk.length) (hp:j < pr.length),k ≤ j → rk[j] = pr[j]
 nd:(lr (rk.take k)).Nodup
 ge:∀ l ∈ lr (rk.take k),lo ≤ l ∧ l < H.next
theorem Lp.start {ports:List Po} (hl:pr.length = ports.length) (lo:Nat):Lp H ports pr pr 0 lo :=
 ⟨hl,fun j hj h => absurd h (Nat.not_lt_zero _),fun j hj hp _ => rfl,by simp [lr],fun l h => by simp [lr] at h⟩
theorem lr_snoc {rk:List (List V)} {k:Nat} (h:k < rk.length):lr (rk.take (k + 1)) = lr (rk.take k) ++ (hd rk[k]).toList:=by
 rw [take_snoc h]
 unfold lr
 rw [List.filterMap_append]
 congr 1
theorem Lp.next {ports:List Po} {rk:List (List V)} {k lo lP:Nat} {mv:V} (h:Lp H ports pr rk k lo) (hk:k < rk.length) (f:Frame H H' (fun l => l = lP)) (hP:lP < lo) (hlo:lo ≤ H.next)
  (o:Own H' mv 1 ((ports[k]'(by rw [← h.len]; exact hk)).msgs.map stR)) (hb:(ports[k]'(by rw [← h.len]; exact hk)).msgs.length ≤ big) (hm:∀ l,loc mv = some l → H.next ≤ l ∧ l < H'.next) :
  Lp H' ports pr (rk.set k [mv,i64 (ports[k]'(by rw [← h.len]; exact hk)).age]) (k + 1) lo:=by
 have e1:(rk.set k [mv,i64 (ports[k]'(by rw [← h.len]; exact hk)).age]).take k = rk.take k:=by rw [List.take_set,List.set_eq_of_length_le (by simp; omega)]
 have e2:lr ((rk.set k [mv,i64 (ports[k]'(by rw [← h.len]; exact hk)).age]).take (k + 1)) = lr (rk.take k) ++ (loc mv).toList:=by
  rw [lr_snoc (by simpa using hk),e1,List.getElem_set_self]; rfl
 refine ⟨by simp [h.len],fun j hj hjk => ?_,fun j hj hp hjk => ?_,?_,?_⟩
 ·by_cases hjk':j = k
  ·subst hjk'
   rw [List.getElem_set_self]
   exact ⟨mv,rfl,o,hb⟩
  ·rw [List.getElem_set_ne (by omega)]
   refine (h.done j (by simpa using hj) (by omega)).frame f fun l hl e => ?_
   have:=h.ge l (List.mem_filterMap.2 ⟨_,List.mem_take_iff_getElem.2 ⟨j,by simp at hj; omega,rfl⟩,hl⟩)
   omega
 ·rw [List.getElem_set_ne (by omega)]
  exact h.rest j (by simpa using hj) hp (by omega)
 ·rw [e2,List.nodup_append]
  refine ⟨h.nd,by cases loc mv <;> simp,fun i hi j hj e => ?_⟩
  rw [Option.mem_toList] at hj
  have:=h.ge i hi
  have:=hm j hj
  omega
 ·intro l hl
  rw [e2,List.mem_append,Option.mem_toList] at hl
  rcases hl with hl | hl
  ·have:=h.ge l hl
   exact ⟨this.1,Nat.lt_of_lt_of_le this.2 f.next⟩
  ·have:=hm l hl
   exact ⟨by omega,this.2⟩
theorem Lp.keep {ports:List Po} {rk:List (List V)} {k lo:Nat} (h:Lp H ports pr rk k lo) (f:Frame H H' (fun _ => False)):Lp H' ports pr rk k lo :=
 ⟨h.len,fun j hj hjk => (h.done j hj hjk).frame f fun _ _ => id,h.rest,h.nd,fun l hl => ⟨(h.ge l hl).1,Nat.lt_of_lt_of_le (h.ge l hl).2 f.next⟩⟩
theorem Lp.all {ports:List Po} {rk:List (List V)} {k lo:Nat} (h:Lp H ports pr rk k lo) (hk:ports.length ≤ k):PsM H rk ports ∧ (lr rk).Nodup ∧ ∀ l ∈ lr rk,lo ≤ l ∧ l < H.next:=by
 have e:rk.take k = rk:=take_all (by rw [h.len]; exact hk)
 refine ⟨⟨h.len,fun j hj => h.done j hj (by have:=h.len; omega)⟩,?_,?_⟩
 ·have:=h.nd; rwa [e] at this
 ·have:=h.ge; rwa [e] at this
set_option maxRecDepth 20000 in
set_option maxHeartbeats 1000000 in
theorem copy_new (n:Nat) (hs:StS l s x y z u v w g pr) (hb:StB s) (hK:K.floor ≤ K.next):Run (callV (cfg G) (sem (cfg G) (n + 3)) 27 [.agg l]) K (NewSt K s):=by
 refine callV_own rfl (mapM_closedV (by simp [hs.closedV]) K) ?_
 have hpl:=hs.plen
 have hprow:∀ (j:Nat) (hj:j < pr.length) (hp:j < s.ports.length),PoS pr[j] s.ports[j]:=fun j hj _ => hs.prow j hj
 have hrb:=room_big
 obtain ⟨rfl,ht,hup,hsm,hpo,hpg,-,-,-,-⟩:=hs
 rw [ferry_valid_Copy_eq]
 simp only [ferry_valid_Copy]
 (repeat' (first | (simp only [wp,extractV,w0,reduceIte,Nat.reduceAdd,Nat.reduceLT,Nat.reduceLeDiff,Nat.reduceEqDiff]) | (with_reducible ((first | apply xC | apply xG | apply xQ) <;> intro hb <;> try simp only [hb]))))
 have c0:Cw ((Heap.empty.add ⟨10,[[i64 s.id,i64 s.fr,i64 s.ep,x,y,z,u,v,w,g]]⟩).add ⟨10,[[.int .i64 0,.int .i64 0,.int .i64 0,.nils,.nils,.nils,.nils,.nils,.nils,.nils]]⟩) [i64 s.id,i64 s.fr,i64 s.ep,x,y,z,u,v,w,g] :=
  ⟨rfl,Nat.le_refl _,rfl,_,rfl,rfl⟩
 generalize ((Heap.empty.add ⟨10,[[i64 s.id,i64 s.fr,i64 s.ep,x,y,z,u,v,w,g]]⟩).add ⟨10,[[.int .i64 0,.int .i64 0,.int .i64 0,.nils,.nils,.nils,.nils,.nils,.nils,.nils]]⟩) = H0 at *
 have zf:∀ {K:Heap} {row:List V},Cw K row → K.floor ≤ K.next:=fun h => by rw [h.fl]; exact Nat.zero_le _
 have no2:∀ m:Nat,False → 2 ≤ m:=fun _ h => h.elim
 refine New_q (zf c0) (fun K' hK' => clone72 (n + 1) ht.p (flat_prs _) (by simpa using hb.t.1) hK') fun x1 H1 o1 f1 b1 => ?_
 have c1:=c0.keep f1 no2
 have B1:Bd H1 x1 21 _ H0.next H1.next:=⟨o1,b1⟩
 (repeat' (first | (simp only [wp,extractV,w0,reduceIte,Nat.reduceAdd,Nat.reduceLT,Nat.reduceLeDiff,Nat.reduceEqDiff,c1.b0]) | (with_reducible ((first | apply xC | apply xG | apply xQ) <;> intro hb <;> try simp only [hb]))))
 refine New_q (zf c1) (fun K' hK' => clone73 (n + 1) ht.q (flat_ints _) (by simpa using hb.t.2.1) hK') fun y1 H2 o2 f2 b2 => ?_
 have c2:=c1.keep f2 no2
 have B2:Bd H2 y1 1 _ H1.next H2.next:=⟨o2,b2⟩
 have B1:=B1.fr f2
 (repeat' (first | (simp only [wp,extractV,w0,reduceIte,Nat.reduceAdd,Nat.reduceLT,Nat.reduceLeDiff,Nat.reduceEqDiff,c2.b0]) | (with_reducible ((first | apply xC | apply xG | apply xQ) <;> intro hb <;> try simp only [hb]))))
 refine New_q (zf c2) (fun K' hK' => clone74 (n + 1) ht.s (flat_tms _) (by simpa using hb.t.2.2) hK') fun z1 H3 o3 f3 b3 => ?_
 have c3:=c2.keep f3 no2
 have B3:Bd H3 z1 2 _ H2.next H3.next:=⟨o3,b3⟩
 have B1:=B1.fr f3
 have B2:=B2.fr f3
 have n0:=c0.nx
 have n1:=f1.next
 have n2:=f2.next
 have n3:=f3.next
 (repeat' (first | (simp only [wp,extractV,w0,reduceIte,Nat.reduceAdd,Nat.reduceLT,Nat.reduceLeDiff,Nat.reduceEqDiff,c3.b0,c3.fl,o1.cells,o2.cells,o3.cells,Heap.set_set]) | (with_reducible ((first | apply xC | apply xG | apply xQ) <;> intro hb <;> try simp only [hb]))))
 have c4:=c3.put [i64 s.id,i64 s.fr,i64 s.ep,x1,y1,z1,u,v,w,g]
 have B1:=B1.st (n:=0) (by omega) ⟨10,[[i64 s.id,i64 s.fr,i64 s.ep,x1,y1,z1,u,v,w,g]]⟩
 have B2:=B2.st (n:=0) (by omega) ⟨10,[[i64 s.id,i64 s.fr,i64 s.ep,x1,y1,z1,u,v,w,g]]⟩
 have B3:=B3.st (n:=0) (by omega) ⟨10,[[i64 s.id,i64 s.fr,i64 s.ep,x1,y1,z1,u,v,w,g]]⟩
 have e4:(H3.set 0 ⟨10,[[i64 s.id,i64 s.fr,i64 s.ep,x1,y1,z1,u,v,w,g]]⟩).next = H3.next:=rfl
 generalize H3.set 0 ⟨10,[[i64 s.id,i64 s.fr,i64 s.ep,x1,y1,z1,u,v,w,g]]⟩ = H4 at *
 refine New_q (zf c4) (fun K' hK' => clone76 (n + 1) hup (flat_bos _) (by simpa using hb.up) hK') fun u1 H5 o5 f5 b5 => ?_
 have c5:=c4.keep f5 no2
 have B5:Bd H5 u1 1 _ H4.next H5.next:=⟨o5,b5⟩
 have B1:=B1.fr f5
 have B2:=B2.fr f5
 have B3:=B3.fr f5
 (repeat' (first | (simp only [wp,extractV,w0,reduceIte,Nat.reduceAdd,Nat.reduceLT,Nat.reduceLeDiff,Nat.reduceEqDiff,c5.b0]) | (with_reducible ((first | apply xC | apply xG | apply xQ) <;> intro hb <;> try simp only [hb]))))
 refine New_q (zf c5) (fun K' hK' => clone73 (n + 1) hsm (flat_ints _) (by simpa using hb.sems) hK') fun v1 H6 o6 f6 b6 => ?_
 have c6:=c5.keep f6 no2
 have B6:Bd H6 v1 1 _ H5.next H6.next:=⟨o6,b6⟩
 have B1:=B1.fr f6
 have B2:=B2.fr f6
 have B3:=B3.fr f6
 have B5:=B5.fr f6
 (repeat' (first | (simp only [wp,extractV,w0,reduceIte,Nat.reduceAdd,Nat.reduceLT,Nat.reduceLeDiff,Nat.reduceEqDiff,c6.b0]) | (with_reducible ((first | apply xC | apply xG | apply xQ) <;> intro hb <;> try simp only [hb]))))
 refine New_q (zf c6) (fun K' hK' => clone78 (n + 1) (.inl hpo) (by rw [hpl]; exact hb.ports) hK') fun w1 H7 o7 f7 b7 => ?_
 have c7:=c6.keep f7 no2
 have B7:Bd H7 w1 2 _ H6.next H7.next:=⟨o7,b7⟩
 have B1:=B1.fr f7
 have B2:=B2.fr f7
 have B3:=B3.fr f7
 have B5:=B5.fr f7
 have B6:=B6.fr f7
 (repeat' (first | (simp only [wp,extractV,w0,reduceIte,Nat.reduceAdd,Nat.reduceLT,Nat.reduceLeDiff,Nat.reduceEqDiff,c7.b0]) | (with_reducible ((first | apply xC | apply xG | apply xQ) <;> intro hb <;> try simp only [hb]))))
 refine New_q (zf c7) (fun K' hK' => clone77 (n + 1) hpg (flat_pas _) (by simpa using hb.pages) hK') fun g1 H8 o8 f8 b8 => ?_
 have c8:=c7.keep f8 no2
 have B8:Bd H8 g1 66 _ H7.next H8.next:=⟨o8,b8⟩
 have B1:=B1.fr f8
 have B2:=B2.fr f8
 have B3:=B3.fr f8
 have B5:=B5.fr f8
 have B6:=B6.fr f8
 have B7:=B7.fr f8
 have n5:=f5.next
 have n6:=f6.next
 have n7:=f7.next
 have n8:=f8.next
 have lw:lenV w1 = some (.int .i64 (s.ports.length:Nat)):=by rw [← hpl]; exact o7.len
 (repeat' (first | (simp only [wp,extractV,w0,reduceIte,Nat.reduceAdd,Nat.reduceLT,Nat.reduceLeDiff,Nat.reduceEqDiff,c8.b0,c8.fl,o5.cells,o6.cells,o7.cells,o8.cells,Heap.set_set,lw]) | (with_reducible ((first | apply xC | apply xG | apply xQ) <;> intro hb <;> try simp only [hb]))))
 have c9:=c8.put [i64 s.id,i64 s.fr,i64 s.ep,x1,y1,z1,u1,v1,w1,g1]
 have B1:=B1.st (n:=0) (by omega) ⟨10,[[i64 s.id,i64 s.fr,i64 s.ep,x1,y1,z1,u1,v1,w1,g1]]⟩
 have B2:=B2.st (n:=0) (by omega) ⟨10,[[i64 s.id,i64 s.fr,i64 s.ep,x1,y1,z1,u1,v1,w1,g1]]⟩
 have B3:=B3.st (n:=0) (by omega) ⟨10,[[i64 s.id,i64 s.fr,i64 s.ep,x1,y1,z1,u1,v1,w1,g1]]⟩
 have B5:=B5.st (n:=0) (by omega) ⟨10,[[i64 s.id,i64 s.fr,i64 s.ep,x1,y1,z1,u1,v1,w1,g1]]⟩
 have B6:=B6.st (n:=0) (by omega) ⟨10,[[i64 s.id,i64 s.fr,i64 s.ep,x1,y1,z1,u1,v1,w1,g1]]⟩
 have B7:=B7.st (n:=0) (by omega) ⟨10,[[i64 s.id,i64 s.fr,i64 s.ep,x1,y1,z1,u1,v1,w1,g1]]⟩
 have B8:=B8.st (n:=0) (by omega) ⟨10,[[i64 s.id,i64 s.fr,i64 s.ep,x1,y1,z1,u1,v1,w1,g1]]⟩
 have e9:(H8.set 0 ⟨10,[[i64 s.id,i64 s.fr,i64 s.ep,x1,y1,z1,u1,v1,w1,g1]]⟩).next = H8.next:=rfl
 generalize H8.set 0 ⟨10,[[i64 s.id,i64 s.fr,i64 s.ep,x1,y1,z1,u1,v1,w1,g1]]⟩ = H9 at *
 refine Run.loop (N:=s.ports.length) (fun k st Hk => st = [i64 k] ∧ ∃ rk,Cw Hk [i64 s.id,i64 s.fr,i64 s.ep,x1,y1,z1,u1,v1,w1,g1] ∧ Bd Hk w1 2 rk H6.next H7.next ∧ Lp Hk s.ports pr rk k H8.next ∧ H8.next ≤ Hk.next ∧
   Bd Hk x1 21 (s.t.ps.map prRow) H0.next H1.next ∧ Bd Hk y1 1 (s.t.q.map intRow) H1.next H2.next ∧ Bd Hk z1 2 (s.t.ts.map tmRow) H2.next H3.next ∧ Bd Hk u1 1 (s.up.map boR) H4.next H5.next ∧ Bd Hk v1 1 (s.sems.map intRow) H5.next H6.next ∧ Bd Hk g1 66 (s.pages.map paR) H7.next H8.next)
  ⟨rfl,pr,c9,B7,Lp.start hpl _,by omega,B1,B2,B3,B5,B6,B8⟩ ?_
 rintro k st Hk hk ⟨rfl,rk,ck,BW,lp,hnk,A1,A2,A3,A5,A6,A8⟩
 simp only [ferry_valid_Copy_l1]
 by_cases hlt:k < s.ports.length
 ·have hkr:k < rk.length:=by rw [lp.len]; exact hlt
  have hkp:k < pr.length:=by omega
  obtain ⟨mm,em,hm,hmb⟩:=hprow k hkp hlt
  have erk:rk[k] = [mm,i64 s.ports[k].age]:=(lp.rest k hkr hkp (Nat.le_refl _)).trans em
  obtain ⟨lP,bP,hlP,hidx,hblk,hrow,hflo⟩:=BW.own.idx (k:=.i64) hkr
  rw [erk] at hrow
  have hPb:=BW.b _ hlP
  have hms:=hb.msgs _ (List.getElem_mem hlt)
  (repeat' (first | (simp only [wp,extractV,w0,reduceIte,Nat.reduceAdd,Nat.reduceLT,Nat.reduceLeDiff,Nat.reduceEqDiff,ltT hlt,ck.fl,ck.b0,hidx,hblk,hrow]) | (with_reducible ((first | apply xC | apply xG | apply xQ) <;> intro hb <;> try simp only [hb]))))
  refine New_q (zf ck) (fun K' hK' => clone79 (n + 1) hm (flat_strs _) (by simpa using hms) hK') fun mv Hn om fm bm => ?_
  have cn:=ck.keep fm no2
  have hblk1:Hn.blk lP = some bP:=(fm.old _ (by omega) id).trans hblk
  have fl0:Hn.floor ≤ lP:=by rw [cn.fl]; exact Nat.zero_le _
  (repeat' (first | (simp only [wp,extractV,w0,reduceIte,Nat.reduceAdd,Nat.reduceLT,Nat.reduceLeDiff,Nat.reduceEqDiff,fl0,om.cells,hblk1,hrow,addN hlt (show s.ports.length ≤ big by have:=hb.ports; omega)]) | (with_reducible ((first | apply xC | apply xG | apply xQ) <;> intro hb <;> try simp only [hb]))))
  have hset:Frame Hn (Hn.set lP ⟨bP.sz,bP.rows.set k [mv,i64 s.ports[k].age]⟩) (fun m => m = lP):=Frame.set _ _ rfl
  have fb:Frame Hk (Hn.set lP ⟨bP.sz,bP.rows.set k [mv,i64 s.ports[k].age]⟩) (fun m => m = lP):=⟨fm.next,fm.floor,fun q hq hne => (hset.old q (Nat.lt_of_lt_of_le hq fm.next) hne).trans (fm.old q hq id)⟩
  have nm:=fm.next
  refine ⟨hlt,rk.set k [mv,i64 s.ports[k].age],cn.keep hset fun q e => by omega,⟨((BW.fr fm).own).put hlP hblk1 _,BW.b⟩,lp.next hkr fb (by omega) (by omega) (om.frame hset fun q h1 h2 => by have:=bm q h1; omega) hmb fun q h1 => bm q h1,by show H8.next ≤ Hn.next; omega,
   A1.keep fb fun q e => by omega,A2.keep fb fun q e => by omega,A3.keep fb fun q e => by omega,A5.keep fb fun q e => by omega,A6.keep fb fun q e => by omega,A8.keep fb fun q e => by omega⟩
 ·obtain ⟨r1,hr1,hl1⟩:=ck.b1
  have z10:10 ≤ r1.length:=by omega
  have dp:r1.drop 10 = []:=List.drop_of_length_le (by omega)
  have n10:¬ (1:Nat) = 0:=by decide
  (repeat' (first | (simp only [wp,extractV,w0,reduceIte,Nat.reduceAdd,Nat.reduceLT,Nat.reduceLeDiff,Nat.reduceEqDiff,ltF hlt,ck.b0,ck.fl,hr1,z10,dp,tupV]) | (with_reducible ((first | apply xC | apply xG | apply xQ) <;> intro hb <;> try simp only [hb]))))
  obtain ⟨P1,P2,P3⟩:=lp.all (by omega)
  have fz:Frame Hk (Hk.set 1 ⟨10,[[i64 s.id,i64 s.fr,i64 s.ep,x1,y1,z1,u1,v1,w1,g1]]⟩) (fun m => m = 1):=Frame.set _ _ rfl
  have ms:MS (Hk.set 1 ⟨10,[[i64 s.id,i64 s.fr,i64 s.ep,x1,y1,z1,u1,v1,w1,g1]]⟩) [i64 s.id,i64 s.fr,i64 s.ep,x1,y1,z1,u1,v1,w1,g1] s x1 y1 z1 u1 v1 w1 g1 rk :=
   ⟨rfl,(A1.keep fz fun q e => by omega).own,(A2.keep fz fun q e => by omega).own,(A3.keep fz fun q e => by omega).own,(A5.keep fz fun q e => by omega).own,(A6.keep fz fun q e => by omega).own,(BW.keep fz fun q e => by omega).own,(A8.keep fz fun q e => by omega).own,
    P1.frame fz fun q h1 h2 => by have:=P3 q h1; omega,nd_of A1.b A2.b A3.b (e4 ▸ A5.b) A6.b BW.b A8.b (fun q hq => (P3 q hq).1) P2 (by omega)⟩
  obtain ⟨r,h1,h2⟩:=ms.hand
  refine ⟨r,h1,(h2 K hK).mono fun vv K' ⟨l',x',y',z',u',v',w',g',pr',e,h3,h4,h5⟩ => ?_⟩
  exact ⟨l',x',y',z',u',v',w',g',pr',e,h3,h4,h5⟩
end Sy
end Go.Fv.Tr

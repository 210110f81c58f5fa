/-
  States in memory of one's own: shown, handed over, taken. By an AI agent; no person has read it.
-/
import Derived.Test.YtekncgjkocgioaaGreatDoorFvP31
import Derived.Test.YtekncgjkocgioaaGreatDoorFvP32
set_option linter.unusedVariables false
set_option linter.unusedSimpArgs false
set_option linter.unusedSectionVars false
/-! States in memory of one's own: shown, handed over, taken. -/
namespace Go.Fv
open Go
def lv (l:List V):List Nat:=l.filterMap loc
def hd (r:List V):Option Nat:=(r.head?).bind loc
def lr (rows:List (List V)):List Nat:=rows.filterMap hd
theorem Own.loc_lt {H:Heap} {x:V} {sz:Nat} {rows:List (List V)} (h:Own H x sz rows) {l:Nat} (hl:loc x = some l):l < H.next:=by
 rcases h with ⟨rfl | rfl,_⟩ | ⟨l',n,c,ex,b,rfl,h1,h2,h3,h4⟩
 ·cases hl
 ·cases hl
 ·cases hl; exact h3
end Go.Fv
namespace Go.Fv.Tr
open Go Go.Fv Go.Fv.Pl Go.Proofs
variable {G:GV}
namespace Sy
variable {l m:List V} {s:St} {p:Pn} {x y z a b c d x' y' z' u v w g:V} {pr:List (List V)} {k:List V} {H H':Heap}
def PoM (H:Heap) (row:List V) (p:Po):Prop:=∃ m,row = [m,i64 p.age] ∧ Own H m 1 (p.msgs.map stR) ∧ p.msgs.length ≤ big
structure PsM (H:Heap) (pr:List (List V)) (ps:List Po):Prop where
 len:pr.length = ps.length
 row:∀ (j:Nat) (hj:j < pr.length),PoM H pr[j] (ps[j]'(by rw [← len]; exact hj))
theorem PsM.nil:PsM H [] []:=⟨rfl,fun j hj => absurd hj (by simp)⟩
theorem PsM.cons {r:List V} {q:Po} {ps:List Po} (h:PoM H r q) (t:PsM H pr ps):PsM H (r :: pr) (q :: ps) :=
 ⟨by simp [t.len],fun j hj => by
  cases j with
  | zero => exact h
  | succ j => exact t.row j (by simpa using hj)⟩
theorem PsM.head {r:List V} {q:Po} {ps:List Po} (t:PsM H (r :: pr) (q :: ps)):PoM H r q:=t.row 0 (by simp)
theorem PsM.tail {r:List V} {q:Po} {ps:List Po} (t:PsM H (r :: pr) (q :: ps)):PsM H pr ps :=
 ⟨by have:=t.len; simpa using this,fun j hj => t.row (j + 1) (by simpa using hj)⟩
theorem PoM.frame {row:List V} {q:Po} {P:Nat → Prop} (h:PoM H row q) (f:Frame H H' P) (hp:∀ l,hd row = some l → ¬ P l):PoM H' row q:=by
 obtain ⟨m,rfl,ho,hl⟩:=h
 exact ⟨m,rfl,ho.frame f fun l hl => hp l hl,hl⟩
theorem PsM.frame {ps:List Po} {P:Nat → Prop} (h:PsM H pr ps) (f:Frame H H' P) (hp:∀ l ∈ lr pr,¬ P l):PsM H' pr ps :=
 ⟨h.len,fun j hj => (h.row j hj).frame f fun l hl => hp l (List.mem_filterMap.2 ⟨_,List.getElem_mem hj,hl⟩)⟩
theorem PsM.lt {ps:List Po} (h:PsM H pr ps) {l:Nat} (hl:l ∈ lr pr):l < H.next:=by
 obtain ⟨r,hr,e⟩:=List.mem_filterMap.1 hl
 obtain ⟨j,hj,rfl⟩:=List.mem_iff_getElem.1 hr
 obtain ⟨m,er,ho,_⟩:=h.row j hj
 rw [er] at e
 exact ho.loc_lt e
theorem PsM.put {ps : List Po} (h : PsM H pr ps) {j : Nat} {r : List V} {q : Po} (hr : PoM H r q) : PsM H (pr.set j r) (ps.set j q) :=
  ⟨by simp [h.len], fun i hi => by
    rw [List.getElem_set]
    have e:(ps.set j q)[i]'(by simpa [← h.len] using hi) = if j = i then q else ps[i]'(by simpa [← h.len] using hi):=List.getElem_set _
    by_cases hij:j = i
    · subst hij
      simp only [if_true]
      rw [List.getElem_set_self]
      exact hr
    · simp only [if_neg hij]
      rw [List.getElem_set_ne hij]
      exact h.row i _⟩
theorem thawD_flat {d:Nat} {ok:Bool} {v:V} (h:v.flat = true):thawD d ok H v = some v:=by
 cases d with
 | zero => simp [thawD,h]
 | succ d => cases v <;> simp_all [thawD,V.flat]
theorem mapRows_flat {d : Nat} {ok : Bool} : ∀ {rows : List (List V)}, flatRows rows = true → mapRows (thawD d ok H) rows = some rows
  | [],_ => rfl
  | r :: rows, h => by
    have h' : r.all V.flat = true ∧ flatRows rows = true := by
      unfold flatRows at h ⊢
      simpa using h
    have one : r.mapM (thawD d ok H) = some r := by
      have:=h'.1
      clear h h'
      induction r with
      | nil => rfl
      | cons a r ih =>
        simp only [List.all_cons,Bool.and_eq_true] at this
        rw [List.mapM_cons,thawD_flat this.1,ih this.2]
        rfl
    have ih:=mapRows_flat (d:=d) (ok:=ok) h'.2
    unfold mapRows at ih ⊢
    rw [List.mapM_cons,one,ih]
    rfl
theorem Own.thawD {x:V} {sz:Nat} {rows:List (List V)} (h:Own H x sz rows) (hf:flatRows rows = true) (d:Nat) (ok:Bool):∃ y,Fv.thawD (d + 1) ok H x = some y ∧ Sls y sz rows:=by
 rcases h with ⟨rfl | rfl,rfl⟩ | ⟨l,n,c,ex,b,rfl,h1,h2,h3,h4,h5,rfl⟩
 ·exact ⟨.nils,rfl,Sls.nils _⟩
 ·exact ⟨.emp,rfl,Sls.emp _⟩
 ·refine ⟨.imm sz (b.rows.take n),?_,Sls.imm _ _⟩
  have:n ≤ b.rows.length:=by omega
  simp only [Fv.thawD,h1,Option.bind_some,List.drop_zero,Nat.zero_add,if_pos this,mapRows_flat hf]
theorem flat_strs (l:List ByteArray):flatRows (l.map stR) = true:=by simp [flatRows,stR,V.flat]
theorem thawPs {d : Nat} {ok : Bool} : ∀ {pr : List (List V)} {ps : List Po}, PsM H pr ps → ∃ pr', mapRows (Fv.thawD (d + 1) ok H) pr = some pr' ∧ ∃ e : pr'.length = ps.length, ∀ (j : Nat) (hj : j < pr'.length), PoS pr'[j] (ps[j]'(by rw [← e]; exact hj))
  | [],[],h => ⟨[],rfl,rfl,fun j hj => absurd hj (by simp)⟩
  | [],q :: ps,h => by have:=h.len; simp at this
  | r :: pr,[],h => by have:=h.len; simp at this
  | r :: pr, q :: ps, h => by
    obtain ⟨pr',h1,e,h2⟩:=thawPs (d:=d) (ok:=ok) h.tail
    obtain ⟨m,rfl,ho,hl⟩:=h.head
    obtain ⟨m',t1,t2⟩:=Own.thawD ho (flat_strs _) d ok
    refine ⟨[m',i64 q.age] :: pr',?_,by simp [e],fun j hj => ?_⟩
    · unfold mapRows at h1 ⊢
      rw [List.mapM_cons,h1]
      have : [m, i64 q.age].mapM (Fv.thawD (d + 1) ok H) = some [m', i64 q.age] := by
        rw [List.mapM_cons,t1,List.mapM_cons,thawD_flat (show (i64 q.age).flat = true from rfl)]
        rfl
      rw [this]
      rfl
    · cases j with
      | zero => exact ⟨m',rfl,t2,hl⟩
      | succ j => exact h2 j (by simpa using hj)
theorem flatPs:∀ {pr:List (List V)} {ps:List Po},PsM H pr ps → flatRows pr = true → ∃ e:pr.length = ps.length,∀ (j:Nat) (hj:j < pr.length),PoS pr[j] (ps[j]'(by rw [← e]; exact hj)):=fun {pr ps} h hf => ⟨h.len,fun j hj => by
  obtain ⟨m,er,ho,hl⟩:=h.row j hj
  have:(pr[j]).all V.flat = true:=List.all_eq_true.1 hf _ (List.getElem_mem hj)
  rw [er] at this ⊢
  rcases ho with ⟨h1,h2⟩ | ⟨l',n,c,ex,b,rfl,_⟩
  ·exact ⟨m,rfl,.inr ⟨h2,h1⟩,hl⟩
  ·simp [V.flat] at this⟩
theorem thawD_refS {d l' sz n c:Nat} {ok ex:Bool} {b:Blk} {pr':List (List V)} (h1:H.blk l' = some b) (hn:n ≤ b.rows.length) (q1:mapRows (Fv.thawD d ok H) (b.rows.take n) = some pr'):Fv.thawD (d + 1) ok H (.ref l' sz 0 n c ex) = some (.imm sz pr'):=by
 simp only [Fv.thawD,h1,Option.bind_some,List.drop_zero,Nat.zero_add,if_pos hn,q1]
theorem Own.thawPorts {ps:List Po} (h:Own H w 2 pr) (hp:PsM H pr ps):∃ w' pr',Fv.thaw true H w = some w' ∧ Sls w' 2 pr' ∧ ∃ e:pr'.length = ps.length,∀ (j:Nat) (hj:j < pr'.length),PoS pr'[j] (ps[j]'(by rw [← e]; exact hj)):=by
 rcases h with ⟨rfl | rfl,rfl⟩ | ⟨l',n,c,ex,b,rfl,h1,h2,h3,h4,h5,rfl⟩
 ·obtain ⟨e,q⟩:=flatPs hp rfl
  exact ⟨.nils,[],rfl,Sls.nils _,e,q⟩
 ·obtain ⟨e,q⟩:=flatPs hp rfl
  exact ⟨.emp,[],rfl,Sls.emp _,e,q⟩
 ·have hn:n ≤ b.rows.length:=by omega
  by_cases hf:flatRows (b.rows.take n) = true
  ·obtain ⟨e,q⟩:=flatPs hp hf
   refine ⟨.imm 2 (b.rows.take n),b.rows.take n,?_,Sls.imm _ _,e,q⟩
   simp [Fv.thaw,h1,hn,hf]
  ·obtain ⟨pr',q1,e,q2⟩:=thawPs (d:=2) (ok:=true) hp
   refine ⟨.imm 2 pr',pr',?_,Sls.imm _ _,e,q2⟩
   have q3:=thawD_refS (sz:=2) (c:=c) (ex:=ex) h1 hn q1
   simp only [Fv.thaw,h1,Option.bind_some,List.drop_zero,Nat.zero_add,hf,and_false,if_false,Bool.false_eq_true]
   exact q3
structure MS (H:Heap) (l:List V) (s:St) (x y z u v w g:V) (pr:List (List V)):Prop where
 eq:l = [i64 s.id,i64 s.fr,i64 s.ep,x,y,z,u,v,w,g]
 ps:Own H x 21 (s.t.ps.map prRow)
 q:Own H y 1 (s.t.q.map intRow)
 ts:Own H z 2 (s.t.ts.map tmRow)
 up:Own H u 1 (s.up.map boR)
 sems:Own H v 1 (s.sems.map intRow)
 ports:Own H w 2 pr
 pages:Own H g 66 (s.pages.map paR)
 row:PsM H pr s.ports
 nd:(lv [x,y,z,u,v,w,g] ++ lr pr).Nodup
structure StB (s:St):Prop where
 wp:∀ p ∈ s.t.ps,Wp p
 t:s.t.ps.length * 104 ≤ room ∧ s.t.q.length * 8 ≤ room ∧ s.t.ts.length * 16 ≤ room
 up:s.up.length ≤ room
 sems:s.sems.length * 8 ≤ room
 ports:s.ports.length * 32 ≤ room
 pages:s.pages.length * 80 ≤ room
 msgs:∀ p ∈ s.ports,p.msgs.length * 16 ≤ room
 data:∀ p ∈ s.pages,p.data.length = 64
theorem room_big:room ≤ big:=by decide
theorem flat_prs (l:List Pr):flatRows (l.map prRow) = true:=by
 unfold flatRows
 rw [List.all_eq_true]
 intro r hr
 obtain ⟨p,_,rfl⟩:=List.mem_map.1 hr
 simp [prRow,V.flat]
theorem flat_tms (l:List Tm):flatRows (l.map tmRow) = true:=by simp [flatRows,tmRow,V.flat]
theorem flat_bos (l:List Bool):flatRows (l.map boR) = true:=by simp [flatRows,boR,V.flat]
theorem flat_pas (l:List Pa):flatRows (l.map paR) = true:=by simp [flatRows,paR,V.flat]
theorem MS.thaw (h:MS H l s x y z u v w g pr) (hb:StB s):∃ l' x' y' z' u' v' w' g' pr',thawV true H (.agg l) = some (.agg l') ∧ StS l' s x' y' z' u' v' w' g' pr':=by
 obtain ⟨x',e1,s1⟩:=h.ps.thaw (flat_prs _) true
 obtain ⟨y',e2,s2⟩:=h.q.thaw (flat_ints _) true
 obtain ⟨z',e3,s3⟩:=h.ts.thaw (flat_tms _) true
 obtain ⟨u',e4,s4⟩:=h.up.thaw (flat_bos _) true
 obtain ⟨v',e5,s5⟩:=h.sems.thaw (flat_ints _) true
 obtain ⟨w',pr',e6,s6,el,s7⟩:=Own.thawPorts h.ports h.row
 obtain ⟨g',e7,s8⟩:=h.pages.thaw (flat_pas _) true
 have hr:=room_big
 refine ⟨_,x',y',z',u',v',w',g',pr',?_,rfl,⟨s1,s2,s3,hb.wp,by have:=hb.t.1; omega,by have:=hb.t.2.1; omega,by have:=hb.t.2.2; omega⟩,s4,s5,s6,s8,el,s7,⟨by have:=hb.up; omega,by have:=hb.sems; omega,by have:=hb.ports; omega,by have:=hb.pages; omega⟩,hb.data⟩
 rw [h.eq]
 have i:∀ k:Int,Fv.thaw true H (i64 k) = some (i64 k):=fun k => rfl
 simp only [thawV,List.mapM_cons,List.mapM_nil,i,e1,e2,e3,e4,e5,e6,e7]
 rfl
def PoG (row:List V) (p:Po):Prop:=∃ m,row = [m,i64 p.age] ∧ ((m = .nils ∨ m = .emp) ∧ p.msgs = [] ∨ m = .deep 1 (p.msgs.map stR)) ∧ p.msgs.length ≤ big
inductive PsG:List (List V) → List Po → Prop where
 | nil:PsG [] []
 | cons {r:List V} {q:Po} {rows:List (List V)} {ps:List Po} (h:PoG r q) (t:PsG rows ps):PsG (r :: rows) (q :: ps)
theorem giveD_flat {d:Nat} {v:V} {ls:List Nat} (h:v.flat = true):giveD d H v ls = some (v,ls):=by
 cases d with
 | zero => simp [giveD,h]
 | succ d => cases v <;> simp_all [giveD,V.flat]
theorem givesRows_flat {d : Nat} {ls : List Nat} : ∀ {rows : List (List V)}, flatRows rows = true → givesRows (giveD d H) rows ls = some (rows, ls)
  | [],_ => rfl
  | r :: rows, h => by
    have h' : r.all V.flat = true ∧ flatRows rows = true := by
      unfold flatRows at h ⊢
      simpa using h
    have one : givesD (giveD d H) r ls = some (r, ls) := by
      have:=h'.1
      clear h h'
      induction r with
      | nil => rfl
      | cons a r ih =>
        simp only [List.all_cons,Bool.and_eq_true] at this
        simp only [givesD,giveD_flat this.1,Option.bind_some,ih this.2]
    simp only [givesRows,one,Option.bind_some,givesRows_flat h'.2]
theorem nil_of_map {α β:Type} {f:α → β} {l:List α} (h:l.map f = []):l = []:=by cases l <;> simp_all
theorem givePs {d : Nat} : ∀ {pr : List (List V)} {ps : List Po} {ls : List Nat}, PsM H pr ps → (lr pr).Nodup → (∀ l ∈ lr pr, l ∉ ls) →
    ∃ rows ls',givesRows (giveD (d + 1) H) pr ls = some (rows,ls') ∧ PsG rows ps ∧ ∀ l,l ∈ ls' → l ∈ ls ∨ l ∈ lr pr
  | [],[],ls,h,_,_ => ⟨[],ls,rfl,.nil,fun l h => .inl h⟩
  | [],q :: ps,ls,h,_,_ => by have:=h.len; simp at this
  | r :: pr,[],ls,h,_,_ => by have:=h.len; simp at this
  | r :: pr, q :: ps, ls, h, hnd, hd' => by
    obtain ⟨m,rfl,ho,hl⟩:=h.head
    rcases ho with ⟨h1,h2⟩ | ⟨l',n,c,ex,b,rfl,h1,h2,h3,h4,h5,h6⟩
    · have hm:hd [m,i64 q.age] = none:=by rcases h1 with rfl | rfl <;> rfl
      have elr:lr ([m,i64 q.age] :: pr) = lr pr:=by simp [lr,hm]
      rw [elr] at hnd hd'
      obtain ⟨rows,ls',e1,e2,e3⟩:=givePs (d:=d) h.tail hnd hd'
      have hf:m.flat = true:=by rcases h1 with rfl | rfl <;> rfl
      refine ⟨[m,i64 q.age] :: rows,ls',?_,.cons ⟨m,rfl,.inl ⟨h1,nil_of_map h2⟩,hl⟩ e2,fun l h => by rw [elr]; exact e3 l h⟩
      simp only [givesRows,givesD,giveD_flat hf,giveD_flat (show (i64 q.age).flat = true from rfl),Option.bind_some,e1]
    · have elr : lr ([.ref l' 1 0 n c ex, i64 q.age] :: pr) = l' :: lr pr := by simp [lr, hd, loc]
      rw [elr] at hnd hd'
      rw [List.nodup_cons] at hnd
      obtain ⟨rows, ls', e1, e2, e3⟩ := givePs (d := d) (ls := l' :: ls) h.tail hnd.2 fun l hl h => by
        rcases List.mem_cons.1 h with rfl | h
        · exact hnd.1 hl
        · exact hd' l (List.mem_cons_of_mem _ hl) h
      refine ⟨[.deep 1 (q.msgs.map stR), i64 q.age] :: rows, ls', ?_, .cons ⟨_, rfl, .inr rfl, hl⟩ e2, fun l h => by
        rw [elr]
        rcases e3 l h with h | h
        · rcases List.mem_cons.1 h with rfl | h
          · exact .inr (List.mem_cons_self ..)
          · exact .inl h
        · exact .inr (List.mem_cons_of_mem _ h)⟩
      have hn:n ≤ b.rows.length:=by omega
      have g1 : giveD (d + 1) H (.ref l' 1 0 n c ex) ls = some (.deep 1 (q.msgs.map stR), l' :: ls) := by
        have:=givesRows_flat (H:=H) (d:=d) (ls:=ls) (flat_strs q.msgs)
        simp only [giveD,h1,Option.bind_some,List.drop_zero,Nat.zero_add,if_pos hn,h6,this,if_pos (hd' l' (List.mem_cons_self ..))]
      simp only [givesRows,givesD,g1,giveD_flat (show (i64 q.age).flat = true from rfl),Option.bind_some,e1]
def WG (g:V) (ps:List Po):Prop:=((g = .nils ∨ g = .emp) ∧ ps = []) ∨ ∃ rows,(g = .own 2 rows ∨ g = .deep 2 rows) ∧ PsG rows ps ∧ (g = .own 2 rows → flatRows rows = true)
theorem psG_flat : ∀ {pr : List (List V)} {ps : List Po}, PsM H pr ps → flatRows pr = true → PsG pr ps
  | [],[],_,_ => .nil
  | [],q :: ps,h,_ => by have:=h.len; simp at this
  | r :: pr,[],h,_ => by have:=h.len; simp at this
  | r :: pr, q :: ps, h, hf => by
    have hf' : r.all V.flat = true ∧ flatRows pr = true := by
      unfold flatRows at hf ⊢
      simpa using hf
    obtain ⟨m,rfl,ho,hl⟩:=h.head
    refine .cons ⟨m,rfl,.inl ?_,hl⟩ (psG_flat h.tail hf'.2)
    rcases ho with ⟨h1,h2⟩ | ⟨l',n,c,ex,b,rfl,_⟩
    · exact ⟨h1,nil_of_map h2⟩
    · have:=hf'.1
      simp [V.flat] at this
theorem Own.givePorts {ps:List Po} {ls:List Nat} (h:Own H w 2 pr) (hp:PsM H pr ps) (hnd:(lr pr).Nodup) (hd':∀ l ∈ lr pr,l ∉ ls) (hw:∀ l,loc w = some l → l ∉ ls ∧ l ∉ lr pr) :
  ∃ g' ls',give H w ls = some (g',ls') ∧ WG g' ps ∧ ∀ l,l ∈ ls' → l ∈ ls ∨ l ∈ lr pr ∨ loc w = some l:=by
 rcases h with ⟨rfl | rfl,rfl⟩ | ⟨l',n,c,ex,b,rfl,h1,h2,h3,h4,h5,rfl⟩
 ·have:ps = []:=by have:=hp.len; cases ps <;> simp_all
  exact ⟨.nils,ls,rfl,.inl ⟨.inl rfl,this⟩,fun l h => .inl h⟩
 ·have:ps = []:=by have:=hp.len; cases ps <;> simp_all
  exact ⟨.emp,ls,rfl,.inl ⟨.inr rfl,this⟩,fun l h => .inl h⟩
 ·have hn:n ≤ b.rows.length:=by omega
  have hl:=hw l' rfl
  by_cases hf:flatRows (b.rows.take n) = true
  ·refine ⟨.own 2 (b.rows.take n),l' :: ls,?_,.inr ⟨_,.inl rfl,psG_flat hp hf,fun _ => hf⟩,fun l h => ?_⟩
   ·simp only [give,h1,Option.bind_some,List.drop_zero,Nat.zero_add]
    rw [if_pos ⟨hn,hf,hl.1⟩]
   ·rcases List.mem_cons.1 h with rfl | h
    ·exact .inr (.inr rfl)
    ·exact .inl h
  ·obtain ⟨rows,ls',e1,e2,e3⟩:=givePs (d:=2) (ls:=ls) hp hnd hd'
   have hl':l' ∉ ls':=fun h => by
    rcases e3 l' h with h | h
    ·exact hl.1 h
    ·exact hl.2 h
   refine ⟨.deep 2 rows,l' :: ls',?_,.inr ⟨_,.inr rfl,e2,fun h => by cases h⟩,fun l h => ?_⟩
   ·have q3:giveD (3 + 1) H (.ref l' 2 0 n c ex) ls = some (.deep 2 rows,l' :: ls'):=by
     have e1':givesRows (giveD 3 H) (b.rows.take n) ls = some (rows,ls'):=e1
     generalize 3 = d3 at e1' ⊢
     simp only [giveD,h1,Option.bind_some,List.drop_zero,Nat.zero_add,if_pos hn,e1',if_pos hl']
    simp only [give,h1,Option.bind_some,List.drop_zero,Nat.zero_add]
    rw [if_neg (fun g => hf g.2.1)]
    exact q3
   ·rcases List.mem_cons.1 h with rfl | h
    ·exact .inr (.inr rfl)
    ·rcases e3 l h with h | h
     ·exact .inl h
     ·exact .inr (.inl h)
end Sy
end Go.Fv.Tr
namespace Go.Fv.Tr
open Go Go.Fv Go.Fv.Pl Go.Proofs
variable {G:GV}
namespace Sy
variable {l m:List V} {s:St} {p:Pn} {x y z a b c d x' y' z' u v w g:V} {pr:List (List V)} {k:List V} {H H' K:Heap}
theorem lr_none {r:List V} {rows:List (List V)} (h:hd r = none):lr (r :: rows) = lr rows:=by simp [lr,h]
theorem lr_some {r:List V} {rows:List (List V)} {l:Nat} (h:hd r = some l):lr (r :: rows) = l :: lr rows:=by simp [lr,h]
theorem takeD_flat {d:Nat} {v:V} (h:v.flat = true):takeD d v = M.ret v:=by
 cases d with
 | zero => rfl
 | succ d => cases v <;> first | rfl | simp [V.flat] at h
theorem takesRows_flat {d : Nat} : ∀ {rows : List (List V)}, flatRows rows = true → takesRows (takeD d) rows = M.ret rows
  | [],_ => rfl
  | r :: rows, h => by
    have h' : r.all V.flat = true ∧ flatRows rows = true := by
      unfold flatRows at h ⊢
      simpa using h
    have one : takesD (takeD d) r = M.ret r := by
      have:=h'.1
      clear h h'
      induction r with
      | nil => rfl
      | cons a r ih =>
        simp only [List.all_cons,Bool.and_eq_true] at this
        simp only [takesD,takeD_flat this.1,ih this.2]
        rfl
    simp only [takesRows,one,takesRows_flat h'.2]
    rfl
theorem takePs {d : Nat} {rows : List (List V)} {ps : List Po} (h : PsG rows ps) : ∀ {K : Heap}, K.floor ≤ K.next → Run (takesRows (takeD (d + 1)) rows) K fun pr' K' => PsM K' pr' ps ∧ Frame K K' (fun _ => False) ∧ (lr pr').Nodup ∧ ∀ l ∈ lr pr', K.next ≤ l ∧ l < K'.next := by
  induction h with
  | nil => exact fun {K} _ => Run.ret.2 ⟨.nil,Frame.refl _ _,List.nodup_nil,fun l h => by cases h⟩
  | @cons r q rows ps h t ih =>
    intro K hK
    obtain ⟨m,rfl,hm,hl⟩:=h
    have ha:takeD (d + 1) (i64 q.age) = M.ret (i64 q.age):=rfl
    rcases hm with ⟨hm,he⟩ | rfl
    · have hf:m.flat = true:=by rcases hm with rfl | rfl <;> rfl
      simp only [takesRows,takesD,takeD_flat hf,ha,Run.bind,Run.ret]
      refine (ih hK).mono fun pr' K' ⟨h1,h2,h3,h4⟩ => ?_
      have elr:lr ([m,i64 q.age] :: pr') = lr pr':=lr_none (by rcases hm with rfl | rfl <;> rfl)
      rw [elr]
      refine ⟨h1.cons ⟨m,rfl,?_,hl⟩,h2,h3,h4⟩
      rw [he]
      rcases hm with rfl | rfl
      · exact Own.nils _ _
      · exact Own.emp _ _
    · have hn : takeD (d + 1) (.deep 1 (q.msgs.map stR)) = newRows 1 (q.msgs.map stR) false := by
        simp only [takeD,takesRows_flat (flat_strs _)]
        rfl
      simp only [takesRows,takesD,hn,ha,Run.bind,Run.ret]
      refine Run.eq rfl |>.2 ?_
      have f0:Frame K (K.add ⟨1,q.msgs.map stR⟩) (fun _ => False):=Frame.add _ _
      have hK':(K.add ⟨1,q.msgs.map stR⟩).floor ≤ (K.add ⟨1,q.msgs.map stR⟩).next:=by show K.floor ≤ K.next + 1; omega
      refine (ih hK').mono fun pr' K' ⟨h1,h2,h3,h4⟩ => ?_
      have o0:Own (K.add ⟨1,q.msgs.map stR⟩) (.ref K.next 1 0 (q.msgs.map stR).length (q.msgs.map stR).length false) 1 (q.msgs.map stR):=Own.new hK _ _
      have elr:lr ([.ref K.next 1 0 (q.msgs.map stR).length (q.msgs.map stR).length false,i64 q.age] :: pr') = K.next :: lr pr':=by simp [lr,hd,loc]
      rw [elr]
      refine ⟨h1.cons ⟨_,rfl,o0.frame h2 fun _ _ => id,hl⟩,f0.tr h2,List.nodup_cons.2 ⟨fun g => ?_,h3⟩,fun l hl => ?_⟩
      · have:=(h4 _ g).1
        have e:(K.add ⟨1,q.msgs.map stR⟩).next = K.next + 1:=rfl
        omega
      · have e : (K.add ⟨1, q.msgs.map stR⟩).next = K.next + 1 := rfl
        rcases List.mem_cons.1 hl with rfl | hl
        · exact ⟨Nat.le_refl _,by have:=h2.next; omega⟩
        · have:=h4 l hl
          exact ⟨by omega,this.2⟩
theorem psG_take {rows : List (List V)} {ps : List Po} (h : PsG rows ps) (hf : flatRows rows = true) (K : Heap) : PsM K rows ps ∧ lr rows = [] := by
  induction h with
  | nil => exact ⟨.nil,rfl⟩
  | @cons r q rows ps h t ih =>
    have hf' : r.all V.flat = true ∧ flatRows rows = true := by
      unfold flatRows at hf ⊢
      simpa using hf
    obtain ⟨h1,h2⟩:=ih hf'.2
    obtain ⟨m,rfl,hm,hl⟩:=h
    rcases hm with ⟨hm,he⟩ | rfl
    · refine ⟨h1.cons ⟨m, rfl, ?_, hl⟩, ?_⟩
      · rw [he]
        rcases hm with rfl | rfl
        · exact Own.nils _ _
        · exact Own.emp _ _
      · rw [lr_none (by rcases hm with rfl | rfl <;> rfl)]
        exact h2
    · have:=hf'.1
      simp [V.flat] at this
theorem WG.take {ps:List Po} (h:WG g ps) (hK:K.floor ≤ K.next):Run (take1 g) K fun w' K' => ∃ pr',Own K' w' 2 pr' ∧ PsM K' pr' ps ∧ Frame K K' (fun _ => False) ∧ (lr pr').Nodup ∧ (∀ l ∈ lr pr',K.next ≤ l ∧ l < K'.next) ∧ ∀ l,loc w' = some l → K.next ≤ l ∧ l ∉ lr pr':=by
 rcases h with ⟨rfl | rfl,rfl⟩ | ⟨rows,rfl | rfl,hP,hf⟩
 ·exact Run.of rfl ⟨[],Own.nils _ _,.nil,Frame.refl _ _,List.nodup_nil,(fun l h => by cases h),fun l h => by cases h⟩
 ·exact Run.of rfl ⟨[],Own.emp _ _,.nil,Frame.refl _ _,List.nodup_nil,(fun l h => by cases h),fun l h => by cases h⟩
 ·obtain ⟨h1,h2⟩:=psG_take hP (hf rfl) (K.add ⟨2,rows⟩)
  exact Run.of rfl ⟨rows,Own.new hK _ _,h1,Frame.add _ _,by rw [h2]; exact List.nodup_nil,(fun l h => by rw [h2] at h; cases h),fun l h => by cases h; exact ⟨Nat.le_refl _,by rw [h2]; exact List.not_mem_nil⟩⟩
 ·have e:take1 (.deep 2 rows) = (takesRows (takeD (2 + 1)) rows).bind fun rows' => newRows 2 rows' false:=rfl
  rw [e,Run.bind]
  refine (takePs hP hK).mono fun pr' K' ⟨h1,h2,h3,h4⟩ => ?_
  have f0:Frame K' (K'.add ⟨2,pr'⟩) (fun _ => False):=Frame.add _ _
  have hK':K'.floor ≤ K'.next:=by rw [h2.floor]; exact Nat.le_trans hK h2.next
  refine Run.of rfl ⟨pr',Own.new hK' _ _,h1.frame f0 fun _ _ => id,h2.tr f0,h3,fun l hl => ⟨(h4 l hl).1,Nat.lt_succ_of_lt (h4 l hl).2⟩,fun l h => ?_⟩
  cases h
  exact ⟨h2.next,fun g => Nat.lt_irrefl _ (h4 _ g).2⟩
theorem lv_cons (a:V) (l:List V):lv (a :: l) = (loc a).toList ++ lv l:=by
 unfold lv
 rw [List.filterMap_cons]
 cases loc a <;> rfl
theorem mem_lv {l:List V} {n:Nat}:n ∈ lv l ↔ ∃ v ∈ l,loc v = some n:=List.mem_filterMap
theorem giveOne {xx:V} {sz:Nat} {rows:List (List V)} {ls:List Nat} (h:Own H xx sz rows) (hf:flatRows rows = true) (hls:∀ l,loc xx = some l → l ∉ ls) :
  ∃ gg,give H xx ls = some (gg,(loc xx).toList ++ ls) ∧ Gv gg sz rows:=h.give hf hls
theorem takes_ms {x1 y1 z1 u1 v1 w1 p1:V} (g1:Gv x1 21 (s.t.ps.map prRow)) (g2:Gv y1 1 (s.t.q.map intRow)) (g3:Gv z1 2 (s.t.ts.map tmRow)) (g4:Gv u1 1 (s.up.map boR)) (g5:Gv v1 1 (s.sems.map intRow)) (g6:WG w1 s.ports) (g7:Gv p1 66 (s.pages.map paR))
  (hK:K.floor ≤ K.next):Run (takes [i64 s.id,i64 s.fr,i64 s.ep,x1,y1,z1,u1,v1,w1,p1]) K fun l' K' => ∃ x' y' z' u' v' w' g' pr',MS K' l' s x' y' z' u' v' w' g' pr' ∧ Frame K K' (fun _ => False) ∧ ∀ n ∈ lv [x',y',z',u',v',w',g'] ++ lr pr',K.next ≤ n:=by
 have ti:∀ n:Int,take1 (i64 n) = M.ret (i64 n):=fun _ => rfl
 simp only [takes,ti,Run.bind,Run.ret]
 refine (g1.take hK).mono fun xx K1 ⟨ox,fx,lx⟩ => ?_
 have k1:K1.floor ≤ K1.next:=by rw [fx.floor]; exact Nat.le_trans hK fx.next
 refine (g2.take k1).mono fun yy K2 ⟨oy,fy,ly⟩ => ?_
 have k2:K2.floor ≤ K2.next:=by rw [fy.floor]; exact Nat.le_trans k1 fy.next
 refine (g3.take k2).mono fun zz K3 ⟨oz,fz,lz⟩ => ?_
 have k3:K3.floor ≤ K3.next:=by rw [fz.floor]; exact Nat.le_trans k2 fz.next
 refine (g4.take k3).mono fun uu K4 ⟨ou,fu,lu⟩ => ?_
 have k4:K4.floor ≤ K4.next:=by rw [fu.floor]; exact Nat.le_trans k3 fu.next
 refine (g5.take k4).mono fun vv K5 ⟨ov,fv,lv'⟩ => ?_
 have k5:K5.floor ≤ K5.next:=by rw [fv.floor]; exact Nat.le_trans k4 fv.next
 refine (g6.take k5).mono fun ww K6 ⟨pr',ow,opr,fw,nP',lP,lw⟩ => ?_
 have k6:K6.floor ≤ K6.next:=by rw [fw.floor]; exact Nat.le_trans k5 fw.next
 refine (g7.take k6).mono fun gg K7 ⟨og,fg,lg⟩ => ?_
 have id':∀ (l:Nat),False → False:=fun _ => id
 have bx:∀ l,loc xx = some l → K.next ≤ l ∧ l < K1.next:=fun l hl => ⟨lx l hl,ox.loc_lt hl⟩
 have bY:∀ l,loc yy = some l → K1.next ≤ l ∧ l < K2.next:=fun l hl => ⟨ly l hl,oy.loc_lt hl⟩
 have bz:∀ l,loc zz = some l → K2.next ≤ l ∧ l < K3.next:=fun l hl => ⟨lz l hl,oz.loc_lt hl⟩
 have bu:∀ l,loc uu = some l → K3.next ≤ l ∧ l < K4.next:=fun l hl => ⟨lu l hl,ou.loc_lt hl⟩
 have bv:∀ l,loc vv = some l → K4.next ≤ l ∧ l < K5.next:=fun l hl => ⟨lv' l hl,ov.loc_lt hl⟩
 have bw:∀ l,loc ww = some l → K5.next ≤ l ∧ l < K6.next:=fun l hl => ⟨(lw l hl).1,ow.loc_lt hl⟩
 have bg:∀ l,loc gg = some l → K6.next ≤ l:=lg
 have n1:=fx.next
 have n2:=fy.next
 have n3:=fz.next
 have n4:=fu.next
 have n5:=fv.next
 have n6:=fw.next
 refine ⟨xx,yy,zz,uu,vv,ww,gg,pr',⟨rfl,?_,?_,?_,?_,?_,ow.frame fg fun _ _ => id,og,opr.frame fg fun _ _ => id,?_⟩,((((((fx.tr fy).tr fz).tr fu).tr fv).tr fw).tr fg),?_⟩
 ·exact (((((ox.frame fy fun _ _ => id).frame fz fun _ _ => id).frame fu fun _ _ => id).frame fv fun _ _ => id).frame fw fun _ _ => id).frame fg fun _ _ => id
 ·exact ((((oy.frame fz fun _ _ => id).frame fu fun _ _ => id).frame fv fun _ _ => id).frame fw fun _ _ => id).frame fg fun _ _ => id
 ·exact (((oz.frame fu fun _ _ => id).frame fv fun _ _ => id).frame fw fun _ _ => id).frame fg fun _ _ => id
 ·exact ((ou.frame fv fun _ _ => id).frame fw fun _ _ => id).frame fg fun _ _ => id
 ·exact (ov.frame fw fun _ _ => id).frame fg fun _ _ => id
 ·simp only [lv_cons,show lv [] = [] from rfl,List.append_nil,List.append_assoc,List.nodup_append]
  simp only [List.mem_append,Option.mem_toList,Option.mem_def]
  have nt:∀ q:V,(loc q).toList.Nodup:=fun q => by cases loc q <;> simp
  refine ⟨nt _,⟨nt _,⟨nt _,⟨nt _,⟨nt _,⟨nt _,⟨nt _,nP',?_⟩,?_⟩,?_⟩,?_⟩,?_⟩,?_⟩,?_⟩
  ·intro i hi j hj e
   have:=bg i hi
   have:=lP j hj
   omega
  ·intro i hi j hj e
   rcases hj with hj | hj
   ·have:=bw i hi
    have:=bg j hj
    omega
   ·exact (lw i hi).2 (e ▸ hj)
  ·intro i hi j hj e
   subst e
   have:=bv i hi
   repeat' (rcases hj with hj | hj)
   all_goals first
    | (have:=bw i hj; omega)
    | (have:=bg i hj; omega)
    | (have:=lP i hj; omega)
  ·intro i hi j hj e
   subst e
   have:=bu i hi
   repeat' (rcases hj with hj | hj)
   all_goals first
    | (have:=bv i hj; omega)
    | (have:=bw i hj; omega)
    | (have:=bg i hj; omega)
    | (have:=lP i hj; omega)
  ·intro i hi j hj e
   subst e
   have:=bz i hi
   repeat' (rcases hj with hj | hj)
   all_goals first
    | (have:=bu i hj; omega)
    | (have:=bv i hj; omega)
    | (have:=bw i hj; omega)
    | (have:=bg i hj; omega)
    | (have:=lP i hj; omega)
  ·intro i hi j hj e
   subst e
   have:=bY i hi
   repeat' (rcases hj with hj | hj)
   all_goals first
    | (have:=bz i hj; omega)
    | (have:=bu i hj; omega)
    | (have:=bv i hj; omega)
    | (have:=bw i hj; omega)
    | (have:=bg i hj; omega)
    | (have:=lP i hj; omega)
  ·intro i hi j hj e
   subst e
   have:=bx i hi
   repeat' (rcases hj with hj | hj)
   all_goals first
    | (have:=bY i hj; omega)
    | (have:=bz i hj; omega)
    | (have:=bu i hj; omega)
    | (have:=bv i hj; omega)
    | (have:=bw i hj; omega)
    | (have:=bg i hj; omega)
    | (have:=lP i hj; omega)
 ·intro i hi
  simp only [lv_cons,show lv [] = [] from rfl,List.append_nil,List.mem_append,Option.mem_toList,Option.mem_def] at hi
  repeat' (rcases hi with hi | hi)
  all_goals first
   | (have:=bx i hi; omega)
   | (have:=bY i hi; omega)
   | (have:=bz i hi; omega)
   | (have:=bu i hi; omega)
   | (have:=bv i hi; omega)
   | (have:=bw i hi; omega)
   | (have:=bg i hi; omega)
   | (have:=lP i hi; omega)
theorem MS.gives (h:MS H l s x y z u v w g pr):∃ r ls,gives H l [] = some (r,ls) ∧ ∀ K:Heap,K.floor ≤ K.next → Run (takes r) K fun l' K' => ∃ x' y' z' u' v' w' g' pr',MS K' l' s x' y' z' u' v' w' g' pr' ∧ Frame K K' (fun _ => False) ∧ ∀ n ∈ lv [x',y',z',u',v',w',g'] ++ lr pr',K.next ≤ n:=by
 have nd:=h.nd
 simp only [lv_cons,show lv [] = [] from rfl,List.append_nil,List.append_assoc,List.nodup_append] at nd
 obtain ⟨-,⟨-,⟨-,⟨-,⟨-,⟨-,⟨-,nP,dG⟩,dW⟩,dV⟩,dU⟩,dZ⟩,dY⟩,dX⟩:=nd
 simp only [List.mem_append,Option.mem_toList,Option.mem_def] at dX dY dZ dU dV dW dG
 obtain ⟨x1,e1,g1⟩:=giveOne (ls:=[]) h.ps (flat_prs _) fun l _ => List.not_mem_nil
 obtain ⟨y1,e2,g2⟩:=giveOne (ls:=(loc x).toList ++ []) h.q (flat_ints _) fun l hl g => by
  simp only [List.mem_append,Option.mem_toList,Option.mem_def,List.not_mem_nil,or_false] at g
  exact dX l g l (.inl hl) rfl
 obtain ⟨z1,e3,g3⟩:=giveOne (ls:=(loc y).toList ++ ((loc x).toList ++ [])) h.ts (flat_tms _) fun l hl g => by
  simp only [List.mem_append,Option.mem_toList,Option.mem_def,List.not_mem_nil,or_false] at g
  rcases g with g | g
  ·exact dY l g l (.inl hl) rfl
  ·exact dX l g l (.inr (.inl hl)) rfl
 obtain ⟨u1,e4,g4⟩:=giveOne (ls:=(loc z).toList ++ ((loc y).toList ++ ((loc x).toList ++ []))) h.up (flat_bos _) fun l hl g => by
  simp only [List.mem_append,Option.mem_toList,Option.mem_def,List.not_mem_nil,or_false] at g
  rcases g with g | g | g
  ·exact dZ l g l (.inl hl) rfl
  ·exact dY l g l (.inr (.inl hl)) rfl
  ·exact dX l g l (.inr (.inr (.inl hl))) rfl
 obtain ⟨v1,e5,g5⟩:=giveOne (ls:=(loc u).toList ++ ((loc z).toList ++ ((loc y).toList ++ ((loc x).toList ++ [])))) h.sems (flat_ints _) fun l hl g => by
  simp only [List.mem_append,Option.mem_toList,Option.mem_def,List.not_mem_nil,or_false] at g
  rcases g with g | g | g | g
  ·exact dU l g l (.inl hl) rfl
  ·exact dZ l g l (.inr (.inl hl)) rfl
  ·exact dY l g l (.inr (.inr (.inl hl))) rfl
  ·exact dX l g l (.inr (.inr (.inr (.inl hl)))) rfl
 obtain ⟨w1,ls',e6,g6,m6⟩:=Own.givePorts (ls:=(loc v).toList ++ ((loc u).toList ++ ((loc z).toList ++ ((loc y).toList ++ ((loc x).toList ++ []))))) h.ports h.row nP (fun l hl g => by
  simp only [List.mem_append,Option.mem_toList,Option.mem_def,List.not_mem_nil,or_false] at g
  rcases g with g | g | g | g | g
  ·exact dV l g l (.inr (.inr hl)) rfl
  ·exact dU l g l (.inr (.inr (.inr hl))) rfl
  ·exact dZ l g l (.inr (.inr (.inr (.inr hl)))) rfl
  ·exact dY l g l (.inr (.inr (.inr (.inr (.inr hl))))) rfl
  ·exact dX l g l (.inr (.inr (.inr (.inr (.inr (.inr hl)))))) rfl) fun l hl => ⟨fun g => by
   simp only [List.mem_append,Option.mem_toList,Option.mem_def,List.not_mem_nil,or_false] at g
   rcases g with g | g | g | g | g
   ·exact dV l g l (.inl hl) rfl
   ·exact dU l g l (.inr (.inl hl)) rfl
   ·exact dZ l g l (.inr (.inr (.inl hl))) rfl
   ·exact dY l g l (.inr (.inr (.inr (.inl hl)))) rfl
   ·exact dX l g l (.inr (.inr (.inr (.inr (.inl hl))))) rfl,fun g => dW l hl l (.inr g) rfl⟩
 obtain ⟨p1,e7,g7⟩:=giveOne (ls:=ls') h.pages (flat_pas _) fun l hl g => by
  rcases m6 l g with g | g | g
  ·simp only [List.mem_append,Option.mem_toList,Option.mem_def,List.not_mem_nil,or_false] at g
   rcases g with g | g | g | g | g
   ·exact dV l g l (.inr (.inl hl)) rfl
   ·exact dU l g l (.inr (.inr (.inl hl))) rfl
   ·exact dZ l g l (.inr (.inr (.inr (.inl hl)))) rfl
   ·exact dY l g l (.inr (.inr (.inr (.inr (.inl hl))))) rfl
   ·exact dX l g l (.inr (.inr (.inr (.inr (.inr (.inl hl)))))) rfl
  ·exact dG l hl l g rfl
  ·exact dW l g l (.inl hl) rfl
 have hi:∀ (n:Int) (ls:List Nat),give H (i64 n) ls = some (i64 n,ls):=fun _ _ => rfl
 refine ⟨[i64 s.id,i64 s.fr,i64 s.ep,x1,y1,z1,u1,v1,w1,p1],(loc g).toList ++ ls',?_,fun K hK => ?_⟩
 ·rw [h.eq]
  simp only [Fv.gives,hi,e1,e2,e3,e4,e5,e6,e7,Option.bind_some]
 ·exact takes_ms g1 g2 g3 g4 g5 g6 g7 hK
theorem MS.hand (h:MS H l s x y z u v w g pr):∃ r,giveV H (.agg l) = some r ∧ ∀ K:Heap,K.floor ≤ K.next → Run (takeV r) K fun vv K' => ∃ l' x' y' z' u' v' w' g' pr',vv = .agg l' ∧ MS K' l' s x' y' z' u' v' w' g' pr' ∧ Frame K K' (fun _ => False) ∧ ∀ n ∈ lv [x',y',z',u',v',w',g'] ++ lr pr',K.next ≤ n:=by
 obtain ⟨r,ls,h1,h2⟩:=h.gives
 refine ⟨.agg r,by simp only [giveV,give2,h1,Option.bind_some],fun K hK => ?_⟩
 simp only [takeV,take2,Run.bind,Run.ret]
 exact (h2 K hK).mono fun l' K' ⟨x',y',z',u',v',w',g',pr',h3,h4,h5⟩ => ⟨l',x',y',z',u',v',w',g',pr',rfl,h3,h4,h5⟩
theorem gives_app {H : Heap} : ∀ {l1 l2 r1 r2 : List V} {ls ls1 ls2 : List Nat}, gives H l1 ls = some (r1, ls1) → gives H l2 ls1 = some (r2, ls2) → gives H (l1 ++ l2) ls = some (r1 ++ r2, ls2)
  | [], l2, r1, r2, ls, ls1, ls2, h1, h2 => by
    simp only [Fv.gives,Option.some.injEq,Prod.mk.injEq] at h1
    obtain ⟨rfl,rfl⟩:=h1
    exact h2
  | a :: l1, l2, r1, r2, ls, ls1, ls2, h1, h2 => by
    simp only [Fv.gives,List.cons_append] at h1 ⊢
    cases ha:give H a ls with
    | none => rw [ha] at h1; cases h1
    | some q =>
      rw [ha] at h1
      simp only [Option.bind_some] at h1 ⊢
      cases hb:gives H l1 q.2 with
      | none => rw [hb] at h1; cases h1
      | some q' =>
        rw [hb] at h1
        simp only [Option.bind_some,Option.some.injEq,Prod.mk.injEq] at h1
        obtain ⟨rfl,rfl⟩:=h1
        rw [gives_app hb h2]
        rfl
theorem takes_app {K : Heap} : ∀ {l1 l2 : List V} {Q : List V → Heap → Prop}, Run (takes l1) K (fun r1 K1 => Run (takes l2) K1 fun r2 K2 => Q (r1 ++ r2) K2) → Run (takes (l1 ++ l2)) K Q
  | [], l2, Q, h => by
    simp only [takes,Run.ret,List.nil_append] at h ⊢
    exact h
  | a :: l1, l2, Q, h => by
    simp only [takes,Run.bind,Run.ret,List.cons_append] at h ⊢
    refine h.mono fun v K1 h => ?_
    exact takes_app h
end Sy
end Go.Fv.Tr

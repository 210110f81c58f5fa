/-
  errors.Is and errors.As, over an *api.At too, stand for their plain meaning. By an AI agent; no person has read it.
-/
import Derived.Test.YtekncgjkocgioaaGreatDoorFvP12
import Derived.Test.YtekncgjkocgioaaGreatDoorFvP20
import Derived.LaidLaws
import Derived.Test.YtekncgjkocgioaaGreatDoorRows
import Derived.Test.YtekncgjkocgioaaGreatDoorTie
import Derived.Test.YtekncgjkocgioaaGreatDoorCards
import Derived.JoinedOf
import Derived.LaidHandle
import Derived.Stop.Joined
import Derived.SevenTiedAt
set_option linter.unusedVariables false
set_option linter.unusedSimpArgs false
set_option linter.unusedSectionVars false
/-! errors.Is and errors.As, over an *api.At too, stand for their plain meaning. -/
namespace Go.Proofs.YtekncgjkocgioaaGreatDoor
open Go Go.Fv Go.Fv.Tr
theorem _root_.Go.Fv.Lies.thawed {w:World} {b:Nat} {cs:Array Value} {e:TypeId} (h:Lies w b cs e) {o:Nat} (ho:o < cs.size):w.frozen? ⟨b,o,none⟩ = false:=by
 obtain ⟨f,hf,hor⟩:=h
 rcases hor with rfl | hor
 ·simp [World.frozen?,hf]
 ·simp [World.frozen?,hf]
  omega
theorem is_soundA {G : GV} {σ : Nat → Addr} (hσ : Apart G σ) : SoundF (cfg G) σ 79 fun args => M.lift (extX G 79 args) := by
  intro K H w vs xs v H' inv gl ar h
  refine ⟨callable Tryz.func79 (by kernel_rfl) (by kernel_rfl),?_⟩
  have h0:extX G 79 vs = isX G vs:=if_pos rfl
  have hx : isX G vs = some v ∧ H' = H := by
    rw [← h0]
    cases e:extX G 79 vs with
    | none => simp only [M.lift,e] at h; cases h
    | some u => simp only [M.lift,e,Option.bind_some] at h; cases h; exact ⟨rfl,rfl⟩
  obtain ⟨hx,rfl⟩:=hx
  have same : ∀ b, v = .bool b → ∀ (e : Ending) w', (e = .returned (.bool b) ∧ w' = w) → ∃ x, e = .returned x ∧ Leads (cfg G) σ K H' w v H' x w' := by
    rintro b rfl e w' ⟨rfl,rfl⟩
    exact ⟨_,rfl,leads_same inv (.bool b)⟩
  unfold isX at hx
  split at hx
  · rename_i j
    cases hx
    obtain ⟨x,y,rfl,r1,r2⟩:=args2 ar
    cases r1
    cases r2 with
    | iface t u y hc hr =>
      cases hr
      exact (is_nil (σ j) w).mono (same false rfl)
  · rename_i i j
    obtain ⟨x,y,rfl,r1,r2⟩:=args2 ar
    cases r1 with
    | iface t u x' hc1 hr1 =>
      cases hr1
      cases r2 with
      | iface t2 u2 y' hc2 hr2 =>
        cases hr2
        split at hx
        · rename_i e
          have e:i = j:=by simpa using e
          subst e
          cases hx
          exact (is_same (σ i) w).mono (same true rfl)
        · rename_i hne
          split at hx
          · rename_i hs
            rw [Bool.and_eq_true] at hs
            cases hx
            obtain ⟨_,c1,t1,h1⟩:=gl.s i hs.1
            obtain ⟨_,c2,t2,h2⟩:=gl.s j hs.2
            exact (is_other (σ i) (σ j) c1 c2 t1 t2 w (hσ i j hs.1 hs.2 (by simpa using hne)) h1 h2).mono (same false rfl)
          · cases hx
  · rename_i pl i j
    obtain ⟨x,y,rfl,r1,r2⟩:=args2 ar
    cases r1 with
    | iface t u x' hc1 hr1 =>
      cases hr1 with
      | iptr row o b off val hI hc hw hr =>
        have h1:=hw 1 (.iface 315 (.ext i)) rfl
        have h2:=hr 1 (.iface 315 (.ext i)) rfl
        generalize val 1 = y1 at h1 h2
        cases h2 with
        | iface t3 u3 z hc3 hr3 =>
        cases hr3
        have hadd:(⟨b,off + 0,none⟩:Addr).add 1 = ⟨b,off + 1,none⟩:=rfl
        cases r2 with
        | iface t2 u2 y' hc2 hr2 =>
          cases hr2
          split at hx
          · rename_i e
            have e:i = j:=by simpa using e
            subst e
            cases hx
            exact (is_at_same b (off + 0) (σ i) w h1).mono (same true rfl)
          · rename_i hne
            split at hx
            · rename_i hs
              rw [Bool.and_eq_true] at hs
              cases hx
              obtain ⟨_,c1,t1,g1⟩:=gl.s i hs.1
              obtain ⟨_,c2,t2,g2⟩:=gl.s j hs.2
              exact (is_at_other b (off + 0) (σ i) (σ j) c1 c2 t1 t2 w h1 (hσ i j hs.1 hs.2 (by simpa using hne)) g1 g2).mono (same false rfl)
            · cases hx
  · cases hx
theorem cellsAtP:Tryz.prog.cellsOf 127 = 1:=by kernel_rfl
theorem infoAtP:∃ i,Tryz.prog.info? 127 = some i:=info_of_cells (C:=⟨Tryz.prog,fun _ => none,fun _ => .inl,fun _ _ => none,fun _ => false,fun _ => none,fun _ => none,fun _ _ => M.fail⟩) (t:=127) (by rw [cellsAtP]; decide)
theorem place_of {σ:Nat → Addr} {K:Ctx} {H:Heap} {w:World} (inv:Inv σ K H w) {l i o b off sz:Nat} {B:Blk} {row:List V} (hρ:K.ρ l = (b,off,sz)) (hm:¬ (off = 1 ∧ sz = 0)) (hB:H.blk l = some B) (hrow:B.rows[i]? = some row) (ho:o < row.length) :
  ∃ old,w.cell? ⟨b,off + i * sz + o,none⟩ = some old ∧ w.frozen? ⟨b,off + i * sz + o,none⟩ = false:=by
 have hBB:=inv.blk l B hB
 obtain ⟨cc,ee,g1,g2,g3⟩:=hBB.at' (tag_not hρ hm)
 have hz:=hBB.sz
 rw [hρ] at g1 g2 g3 hz
 simp only at g1 g2 g3 hz
 subst hz
 obtain ⟨q1,old,q2,q3⟩:=g3 i row o row[o] hrow (List.getElem?_eq_getElem ho)
 exact ⟨old,(g1.cell _).trans q2,g1.thawed (Array.getElem?_eq_some_iff.1 q2).1⟩
theorem as_soundA {G : GV} {σ : Nat → Addr} : SoundF (cfg G) σ 81 ((cfg G).Y 81) := by
  intro K H w vs xs v H' inv gl ar h
  refine ⟨callable Tryz.func81 (by kernel_rfl) (by kernel_rfl),?_⟩
  have h0 : asY G vs H = some (v, H') := by
    have h1:extY G 81 vs H = some (v,H'):=h
    unfold extY at h1
    rw [if_pos rfl] at h1
    exact h1
  clear h
  have hz:handOf G = true → w.cell? ⟨20,0,none⟩ = some (.iface 248 (.agg #[.pointer (some ⟨21,50,none⟩)])):=fun hh => (gl.z 20 _ (by show (if 20 = 20 ∧ handOf G = true then _ else _) = _; rw [if_pos ⟨rfl,hh⟩])).2
  have hit : ∀ (p : V) (l i o : Nat), (∀ x', Rel σ K w p x' → ∃ e, x' = .pointer (some e)) → handOf G = true → vs = [.iface 127 p, .iface 143 (.ptr l i o)] → (M.bind (storeN 1 (.ptr l i o) p) fun _ => M.ret (.bool true)) H = some (v, H') →
      Calls (cfg G).P 81 xs w fun e w' => ∃ x,e = .returned x ∧ Leads (cfg G) σ K H w v H' x w':=by
    rintro p l i o hp hh rfl hb
    obtain ⟨u,H1,hs,hr⟩:=bind_eq hb
    simp only [M.ret,Option.some.injEq,Prod.mk.injEq] at hr
    obtain ⟨rfl,rfl⟩:=hr
    obtain ⟨x,y,rfl,r1,r2⟩:=args2 ar
    cases r1 with
    | iface t1 u1 x' hc1 hr1 =>
    cases r2 with
    | iface t2 u2 y' hc2 hr2 =>
    obtain ⟨e,rfl⟩:=hp x' hr1
    have hr2':=hr2
    cases hr2 with
    | ptr _ _ _ b off sz hl hρ hmt =>
    obtain ⟨hf,cs,hc,hcl,B,hB,row,hrow,hle,_⟩:=(Run.storeN (Q:=fun _ _ => True)).1 ⟨u,H1,hs,trivial⟩
    obtain ⟨old,ht0,hf0⟩:=place_of inv hρ hmt hB hrow (show o < row.length by omega)
    refine (as_hit e ⟨b,off + i * sz + o,none⟩ old w (hz hh) ht0 hf0).mono ?_
    rintro ev w' ⟨rfl,o1,o2,o3,o4,rfl⟩
    obtain ⟨i1,e1⟩:=inv.junk o1
    obtain ⟨i2,e2⟩:=i1.junk o2
    obtain ⟨i3,e3⟩:=i2.junk o3
    obtain ⟨i4,e4⟩:=i3.junk o4
    have ev4:=Evo.trans inv i3 (Evo.trans inv i2 (Evo.trans inv i1 e1 e2) e3) e4
    have mv:=inv.moves ev4
    obtain ⟨inf,hinf⟩:=infoAtP
    obtain ⟨w5,s1,_,s3,s4⟩:=ok_store (C:=cfg G) (t:=127) i4 (hr2'.mono mv) (hr1.mono mv) (i:=inf) hinf (by have:(cfg G).P.cellsOf 127 = 1:=cellsAtP; rw [this]; exact hs)
    obtain ⟨old4,ht4,hf4⟩:=place_of i4 hρ hmt hB hrow (show o < row.length by omega)
    have s2 : (Instr.storeAt 127 (.pointer (some ⟨b, off + i * sz + o, none⟩)) (.pointer (some e))).run Tryz.prog ((((w.alloc o1).alloc o2).alloc o3).alloc o4) = .ok () (((((w.alloc o1).alloc o2).alloc o3).alloc o4).setCell ⟨b, off + i * sz + o, none⟩ (.pointer (some e))) := by
      simp [Instr.storeAt,Instr.sureAddr,storeVar,Fv.run_sizeOf hinf,cellsAtP,Value.cells,storeCells,Addr.add]
      rw [run_store Tryz.prog _ ⟨b,off + i * sz + o,none⟩ _ _ (by rfl)]
      simp [ht4,hf4]
    have s1':=s2.symm.trans s1
    cases s1'
    exact ⟨_,rfl,K,.bool true,s3,Evo.trans inv i4 ev4 s4⟩
  unfold asY at h0
  split at h0
  · simp only [M.ret,Option.some.injEq,Prod.mk.injEq] at h0
    obtain ⟨rfl,rfl⟩:=h0
    obtain ⟨x,y,rfl,r1,r2⟩:=args2 ar
    cases r1
    refine (as_nil y w).mono fun e w' ⟨h1,h2⟩ => ?_
    subst h1; subst h2
    exact ⟨_,rfl,leads_same inv (.bool false)⟩
  · split at h0
    · rename_i hh
      simp only [M.ret,Option.some.injEq,Prod.mk.injEq] at h0
      obtain ⟨rfl,rfl⟩:=h0
      obtain ⟨x,y,rfl,r1,r2⟩:=args2 ar
      cases r1 with
      | iface t u x' hc1 hr1 =>
        cases hr1
        cases r2 with
        | iface t2 u2 y' hc2 hr2 =>
          cases hr2
          refine (as_miss _ _ w (hz hh)).mono fun e w' ⟨h1,o1,o2,o3,h2⟩ => ?_
          subst h1; subst h2
          obtain ⟨i1,e1⟩:=inv.junk o1
          obtain ⟨i2,e2⟩:=i1.junk o2
          obtain ⟨i3,e3⟩:=i2.junk o3
          exact ⟨_,rfl,K,.bool false,i3,Evo.trans inv i2 (Evo.trans inv i1 e1 e2) e3⟩
    · cases h0
  · split at h0
    · rename_i a b c l i o hh
      refine hit (.ptr a b c) l i o (fun x' hr => ?_) hh rfl h0
      cases hr
      exact ⟨_,rfl⟩
    · cases h0
  · split at h0
    · rename_i r c l i o hh
      refine hit (.iptr r c) l i o (fun x' hr => ?_) hh rfl h0
      cases hr
      exact ⟨_,rfl⟩
    · cases h0
  · cases h0
theorem goodA {G:GV} {σ:Nat → Addr} (hσ:Apart G σ) (h0:exts = [] ∧ efs = [81]) (hs:∀ f,seens.contains f = true → f ≠ 79 → SoundF (cfg G) σ f fun args => M.lift (extX G f args)):Fv.Good (cfg G) σ:=goodG
 (fun f hf => by rw [h0.1] at hf; cases hf)
 (fun f hf => by
  by_cases e:f = 79
  ·subst e; exact is_soundA hσ
  ·exact hs f hf e)
 (fun f hf => by
  rw [h0.2] at hf
  have:f = 81:=by simpa using hf
  subst this
  exact as_soundA)
end Go.Proofs.YtekncgjkocgioaaGreatDoor
namespace Go.Fv
open Go
section
variable {P:Program} {W:World}
theorem laid_mem : ∀ {laid : List (String × DataW Unit)} {ps : List MemPlace}, DataW.LaidVars P W laid ps → ∀ x ∈ laid,
    ∃ g t cs fuel p,P.globalNamed x.1 = some g ∧ (P.globals[g]?).map (·.type) = some t ∧ W.var? P x.1 = some cs ∧ DataW.trod (fun _ => ()) P W 0 (fun _ => true) false fuel t cs.toList = some (x.2,p) ∧ (∀ y ∈ MemPlace.row ⟨g,0,none⟩ cs.size,y ∈ ps) ∧ ∀ y ∈ p,y ∈ ps
  | (n, d) :: r, ps, h, x, hx => by
    obtain ⟨g,t,cs,fuel,p,q,h1,h2,h3,h4,h5,h6⟩:=h
    rcases List.mem_cons.1 hx with rfl | hx
    · exact ⟨g,t,cs,fuel,p,h1,h2,h3,h4,fun y hy => by rw [h6]; exact List.mem_append_left _ (List.mem_append_left _ hy),fun y hy => by rw [h6]; exact List.mem_append_left _ (List.mem_append_right _ hy)⟩
    · obtain ⟨g',t',cs',f',p',q1,q2,q3,q4,q5,q6⟩:=laid_mem h5 x hx
      exact ⟨g',t',cs',f',p',q1,q2,q3,q4,fun y hy => by rw [h6]; exact List.mem_append_right _ (q5 y hy),fun y hy => by rw [h6]; exact List.mem_append_right _ (q6 y hy)⟩
theorem sentinel_cell {laid : List (String × DataW Unit)} (hm : laidMet P laid W) {name : String} {text : List UInt8} (hx : (name, DataW.iface "*errors.errorString" (.ptr (.agg [.lit (.string text)]))) ∈ laid)
  {g:Nat} {ti tp te ts:TypeId} {ms:Array (String × TypeId)} {f:Field} (hg:P.globalNamed name = some g) (ht:(P.globals[g]?).map (·.type) = some ti)
  (hi : P.underlying ti = some (.interface ms)) (hrow : ∀ u, P.typeName? 3 u = some "*errors.errorString" → u = tp)
  (hp:P.underlying tp = some (.pointer te)) (he:P.underlying te = some (.struct #[f])) (hft:f.type = ts) (hfo:f.offset = 0) (hs:P.underlying ts = some .string) (hc:P.cellsOf te = 1) (hcs:P.cellsOf ts = 1) :
  ∃ a,W.cell? ⟨g,0,none⟩ = some (.iface tp (.pointer (some a))) ∧ (∃ s:ByteArray,W.cell? a = some (.string s) ∧ s.data.toList = text) ∧ ∃ cs t,W.heap[a.block]? = some (Obj.cells cs t (0,0)):=by
 obtain ⟨ps,hl,_,hps⟩:=hm
 obtain ⟨g',t',cs,fuel,p,q1,q2,q3,q4,q5,q6⟩:=laid_mem hl _ hx
 rw [hg] at q1; injection q1 with q1; subst q1
 rw [ht] at q2; injection q2 with q2; subst q2
 have hcell:∀ i,W.cell? ⟨g,i,none⟩ = cs[i]?:=fun i => by simpa using World.var?_cell hg q3 i
 obtain ⟨a,s,e1,e2,e3,_,e5⟩:=errorString_of_trod hi hrow hp he hft hfo hs hc hcs q4 (fun u v hcs' => by
  have hsz:cs.size = 1:=by rw [← Array.length_toList,hcs']; rfl
  have hmem:MemPlace.cell g 0 ∈ ps:=q5 _ (by rw [hsz]; simp [MemPlace.row])
  refine (hps g 0 hmem).2 u v ?_
  rw [hcell 0,← Array.getElem?_toList,hcs']; rfl)
 refine ⟨a,by rw [hcell 0,← Array.getElem?_toList,e1]; rfl,⟨s,e2,e3⟩,?_⟩
 have hm:MemPlace.cell a.block a.off ∈ ps:=q6 _ (by rw [e5]; simp [MemPlace.row])
 exact (hps _ _ hm).1
end
end Go.Fv
namespace Go.Fv
open Go
section
variable {P:Program} {n:Nat} {t e:TypeId} {vs:List V}
theorem sh_int {k:IntKind} (hu:P.underlying t = some (.int k)) (h:Sh P (n + 1) t vs):∃ m,(Lit.int k m).wf = true ∧ vs = [.int k m]:=by
 simp only [Sh,hu] at h; exact h
theorem sh_str (hu:P.underlying t = some .string) (h:Sh P (n + 1) t vs):∃ s:ByteArray,s.size ≤ reachBytes ∧ vs = [.str s]:=by
 simp only [Sh,hu] at h; exact h
theorem sh_slice (hu:P.underlying t = some (.slice e)) (h:Sh P (n + 1) t vs):∃ x rows,vs = [x] ∧ Sls x (P.cellsOf e) rows ∧ rows.length ≤ maxLen ∧ rows.length * P.bytesOf e ≤ reachBytes ∧ ∀ r ∈ rows,Sh P n e r:=by
 simp only [Sh,hu] at h
 rcases h with rfl | ⟨rows,rfl,h1,h2⟩
 ·exact ⟨.nils,[],rfl,Sls.nils _,by simp,by simp,by simp⟩
 ·exact ⟨_,rows,rfl,Sls.imm _ _,h1.1,h1.2,h2⟩
theorem choose_map {α β : Type} {f : α → β} {W : α → Prop} : ∀ {l : List β}, (∀ r ∈ l, ∃ p, r = f p ∧ W p) → ∃ ps : List α, l = ps.map f ∧ ∀ p ∈ ps, W p
  | [],_ => ⟨[],rfl,by simp⟩
  | r :: l, h => by
    obtain ⟨p,rfl,hp⟩:=h r (by simp)
    obtain ⟨ps,rfl,hps⟩:=choose_map (l:=l) fun r hr => h r (by simp [hr])
    exact ⟨p :: ps,rfl,by simpa using ⟨hp,hps⟩⟩
end
end Go.Fv
namespace Go.Proofs.YtekncgjkocgioaaGreatDoor
open Go Go.Fv Go.Fv.Tr Go.ChangeShapes Go.WideShapes Go.RowKit
theorem seen_all {G:GV} {σ:Nat → Addr}:∀ f,seens.contains f = true → f ≠ 79 → SoundF (cfg G) σ f fun args => M.lift (extX G f args):=fun f hf hn => by
 have:f = 79:=by simpa [seens] using hf
 exact absurd this hn
theorem goodX {σ:Nat → Addr} (hσ:Apart GX σ):Fv.Good (cfg GX) σ:=goodA hσ ⟨rfl,rfl⟩ seen_all
theorem own:ownKnob Tryz.prog.godebug = none:=by kernel_rfl
theorem kids:Kids Tryz.prog (· < Tryz.prog.types.size):=kids_rows (by kernel_rfl) (by kernel_rfl)
theorem full:∀ t e,t < Tryz.prog.types.size → Tryz.prog.underlying t = some (.slice e) → 0 < Tryz.prog.cellsOf e:=slices_full_of Tryz.prog (by kernel_rfl)
theorem star : "*" ++ "errors.errorString" = "*errors.errorString" := by decide
theorem row251 (u : TypeId) (h : Tryz.prog.typeName? 3 u = some "*errors.errorString") : u = 315 :=
 typeName_ptr_named (nm := "errors.errorString") (by rw [star]; kernel_rfl) (by kernel_rfl) (by decide) u (by rw [star]; exact h)
theorem cells270:Tryz.prog.cellsOf 335 = 1:=by kernel_rfl
theorem cells9:Tryz.prog.cellsOf 9 = 1:=by kernel_rfl
abbrev lx : List (String × DataW Unit) := [("ferry/api.ErrRange", Rows.laid_ferry_api_ErrRange), ("ferry/api.ErrLength", Rows.laid_ferry_api_ErrLength), ("ferry/api.ErrKind", Rows.laid_ferry_api_ErrKind), ("ferry/api.ErrPlan", Rows.laid_ferry_api_ErrPlan), ("ferry/api.ErrState", Rows.laid_ferry_api_ErrState), ("ferry/api.ErrSize", Rows.laid_ferry_api_ErrSize), ("ferry/api.ErrArg", Rows.laid_ferry_api_ErrArg), ("ferry/api.ErrBusy", Rows.laid_ferry_api_ErrBusy), ("ferry/api.ErrNone", Rows.laid_ferry_api_ErrNone)]
abbrev laidX : List (String × DataW Unit) := [("ferry/api.ErrRange", Rows.laid_ferry_api_ErrRange), ("ferry/api.ErrLength", Rows.laid_ferry_api_ErrLength), ("ferry/api.ErrKind", Rows.laid_ferry_api_ErrKind), ("ferry/api.ErrPlan", Rows.laid_ferry_api_ErrPlan), ("ferry/api.ErrState", Rows.laid_ferry_api_ErrState), ("ferry/api.ErrSize", Rows.laid_ferry_api_ErrSize), ("ferry/api.ErrArg", Rows.laid_ferry_api_ErrArg), ("ferry/api.ErrBusy", Rows.laid_ferry_api_ErrBusy), ("ferry/api.ErrNone", Rows.laid_ferry_api_ErrNone)]
theorem sent {W : World} (hm : laidMet Tryz.prog lx W) {name : String} {text : List UInt8} (hx : (name, DataW.iface "*errors.errorString" (.ptr (.agg [.lit (.string text)]))) ∈ lx)
  {g:Nat} (hg:Tryz.prog.globalNamed name = some g) (ht:(Tryz.prog.globals[g]?).map (·.type) = some 50):∃ a,W.cell? ⟨g,0,none⟩ = some (.iface 315 (.pointer (some a))) ∧ (∃ s:ByteArray,W.cell? a = some (.string s) ∧ s.data.toList = text) ∧ ∃ cs t,W.heap[a.block]? = some (Obj.cells cs t (0,0)) :=
 sentinel_cell hm hx hg ht Tryz.underlying50 row251 Tryz.underlying315 Tryz.underlying335 rfl rfl Tryz.underlying9 cells270 cells9
theorem block_lt {W:World} {g:Nat} {v:Value} (h:W.cell? ⟨g,0,none⟩ = some v):g < W.heap.size:=World.block_lt_of_cell? W _ h
theorem sent_rel {σ:Nat → Addr} {W:World} {g:Nat} (h:W.cell? ⟨g,0,none⟩ = some (.iface 315 (.pointer (some (σ g))))):Rel σ (K0 W) W (.iptr [errV g] 0) (.pointer (some ⟨g,0,none⟩)):=by
 have hx:Rel σ (K0 W) W (errV g) (.iface 315 (.pointer (some (σ g)))):=.iface 315 (.ext g) _ rfl (.ext g)
 refine .iptr [errV g] 0 g 0 (fun _ => .iface 315 (.pointer (some (σ g)))) (block_lt h) (fun c hc => ?_) (fun j c hj => ?_) (fun j c hj => ?_)
 ·rw [List.mem_singleton] at hc; subst hc; rfl
 ·cases j with
  | zero => exact h
  | succ j => simp at hj
 ·cases j with
  | zero => simp at hj; subst hj; exact hx
  | succ j => simp at hj
def txt (g:Nat):List UInt8:=if g = 0 then [97,32,119,114,111,110,103,32,97,114,103,117,109,101,110,116] else if g = 1 then [110,111,116,32,111,102,32,116,104,105,115,32,112,108,97,110] else if g = 2 then [116,104,101,32,115,116,97,116,101,32,98,114,101,97,107,115,32,97,32,114,117,108,101] else if g = 6 then [97,32,110,117,109,98,101,114,32,111,117,116,32,111,102,32,105,116,115,32,114,97,110,103,101] else if g = 7 then [97,32,108,101,110,103,116,104,32,116,104,97,116,32,105,115,110,39,116,32,116,104,101,32,116,104,105,110,103,39,115] else if g = 9 then [110,111,32,115,117,99,104,32,107,105,110,100] else if g = 11 then [116,111,111,32,108,97,114,103,101] else if g = 13 then [115,111,109,101,116,104,105,110,103,32,105,115,32,117,110,100,101,114,32,119,97,121] else if g = 16 then [116,104,101,114,101,32,105,115,32,110,111,110,101] else []
theorem sent_mem {g:Nat} (h:laidL.contains g = true):g ∈ laidL:=List.contains_iff_mem.1 h
theorem gn0 : Tryz.prog.globalNamed "ferry/api.ErrArg" = some 0 := by kernel_rfl
theorem gt0:(Tryz.prog.globals[0]?).map (·.type) = some 50:=by kernel_rfl
theorem gn1 : Tryz.prog.globalNamed "ferry/api.ErrPlan" = some 1 := by kernel_rfl
theorem gt1:(Tryz.prog.globals[1]?).map (·.type) = some 50:=by kernel_rfl
theorem gn2 : Tryz.prog.globalNamed "ferry/api.ErrState" = some 2 := by kernel_rfl
theorem gt2:(Tryz.prog.globals[2]?).map (·.type) = some 50:=by kernel_rfl
theorem gn6 : Tryz.prog.globalNamed "ferry/api.ErrRange" = some 6 := by kernel_rfl
theorem gt6:(Tryz.prog.globals[6]?).map (·.type) = some 50:=by kernel_rfl
theorem gn7 : Tryz.prog.globalNamed "ferry/api.ErrLength" = some 7 := by kernel_rfl
theorem gt7:(Tryz.prog.globals[7]?).map (·.type) = some 50:=by kernel_rfl
theorem gn9 : Tryz.prog.globalNamed "ferry/api.ErrKind" = some 9 := by kernel_rfl
theorem gt9:(Tryz.prog.globals[9]?).map (·.type) = some 50:=by kernel_rfl
theorem gn11 : Tryz.prog.globalNamed "ferry/api.ErrSize" = some 11 := by kernel_rfl
theorem gt11:(Tryz.prog.globals[11]?).map (·.type) = some 50:=by kernel_rfl
theorem gn13 : Tryz.prog.globalNamed "ferry/api.ErrBusy" = some 13 := by kernel_rfl
theorem gt13:(Tryz.prog.globals[13]?).map (·.type) = some 50:=by kernel_rfl
theorem gn16 : Tryz.prog.globalNamed "ferry/api.ErrNone" = some 16 := by kernel_rfl
theorem gt16:(Tryz.prog.globals[16]?).map (·.type) = some 50:=by kernel_rfl
theorem each {W:World} (hm:laidMet Tryz.prog lx W):∀ g,laidL.contains g = true → ∃ a,W.cell? ⟨g,0,none⟩ = some (.iface 315 (.pointer (some a))) ∧ (∃ s:ByteArray,W.cell? a = some (.string s) ∧ s.data.toList = txt g) ∧ ∃ cs t,W.heap[a.block]? = some (Obj.cells cs t (0,0)):=by
 intro g hg
 have hc:g = 0 ∨ g = 1 ∨ g = 2 ∨ g = 6 ∨ g = 7 ∨ g = 9 ∨ g = 11 ∨ g = 13 ∨ g = 16:=by simpa [laidL] using sent_mem hg
 rcases hc with rfl | rfl | rfl | rfl | rfl | rfl | rfl | rfl | rfl
 ·exact sent hm (text:=txt 0) (List.mem_of_getElem? (i:=6) rfl) gn0 gt0
 ·exact sent hm (text:=txt 1) (List.mem_of_getElem? (i:=3) rfl) gn1 gt1
 ·exact sent hm (text:=txt 2) (List.mem_of_getElem? (i:=4) rfl) gn2 gt2
 ·exact sent hm (text:=txt 6) (List.mem_of_getElem? (i:=0) rfl) gn6 gt6
 ·exact sent hm (text:=txt 7) (List.mem_of_getElem? (i:=1) rfl) gn7 gt7
 ·exact sent hm (text:=txt 9) (List.mem_of_getElem? (i:=2) rfl) gn9 gt9
 ·exact sent hm (text:=txt 11) (List.mem_of_getElem? (i:=5) rfl) gn11 gt11
 ·exact sent hm (text:=txt 13) (List.mem_of_getElem? (i:=7) rfl) gn13 gt13
 ·exact sent hm (text:=txt 16) (List.mem_of_getElem? (i:=8) rfl) gn16 gt16
theorem txt_inj':∀ i,i ∈ laidL → ∀ j,j ∈ laidL → txt i = txt j → i = j:=by decide
theorem txt_inj (i:Nat) (hi:laidL.contains i = true) (j:Nat) (hj:laidL.contains j = true):txt i = txt j → i = j:=txt_inj' i (sent_mem hi) j (sent_mem hj)
theorem sent_of {k:Nat} (h:sentOf GX k = true):laidL.contains k = true:=by
 by_cases g:laidL.contains k = true
 ·exact g
 ·exfalso
  unfold sentOf GX at h
  rw [if_neg g] at h
  simp at h
open Classical in
theorem globX {W:World} (h:laidMetH Tryz.prog laidX W):∃ σ,Apart GX σ ∧ GlobOk (cfg GX) σ (K0 W) W:=by
 have h':laidMet Tryz.prog lx W:=h
 have he:=each h'
 refine ⟨fun k => if hk:laidL.contains k = true then (he k hk).choose else ⟨0,0,none⟩,fun i j hi hj hne heq => ?_,⟨fun g row hg => ?_,fun k hk => ?_,fun g v hg => ?_,fun g cs hg => ?_⟩⟩
 ·have hi:=sent_of hi
  have hj:=sent_of hj
  simp only [dif_pos hi,dif_pos hj] at heq
  obtain ⟨_,⟨s1,c1,t1⟩,_⟩:=(he i hi).choose_spec
  obtain ⟨_,⟨s2,c2,t2⟩,_⟩:=(he j hj).choose_spec
  rw [heq,c2] at c1
  cases c1
  exact hne (txt_inj i hi j hj (t1.symm.trans t2))
 ·have hg:GX g = some row:=hg
  unfold GX at hg
  split at hg
  ·rename_i hlt
   cases hg
   refine sent_rel ?_
   simp only [dif_pos hlt]
   exact (he g hlt).choose_spec.1
  ·cases hg
 ·have hk:=sent_of hk
  simp only [dif_pos hk]
  obtain ⟨cs,t,hh⟩:=(he k hk).choose_spec.2.2
  exact ⟨(Array.getElem?_eq_some_iff.1 hh).1,cs,t,hh⟩
 ·have hn:handOf GX = false:=by unfold handOf GX; rfl
  have hg:(if g = 20 ∧ handOf GX = true then some (Value.iface 248 (.agg #[.pointer (some ⟨21,50,none⟩)])) else none) = some v:=hg
  rw [hn] at hg
  simp at hg
 ·cases hg
noncomputable def lowX:Nat:=(World.holding Tryz.prog default ⟨#[],#[],[]⟩).heap.size
def posX (i:Nat):Option Nat:=if i = 0 then some 0 else if i = 1 then some 1 else if i = 2 then some 2 else if i = 6 then some 3 else if i = 7 then some 4 else if i = 9 then some 5 else if i = 11 then some 6 else if i = 13 then some 7 else if i = 16 then some 8 else none
noncomputable def laidWorldX (os:Os):World :=
 let w0:=World.holding Tryz.prog os ⟨(([0,1,2,6,7,9,11,13,16]:List Nat).map fun g => Obj.cells #[.string ⟨(txt g).toArray⟩] 335 (0,0)).toArray,#[],[]⟩
 { w0 with heap:=((List.range w0.heap.size).map fun i => match w0.heap.getD i default with
   | .cells cs t frozen => (match posX i with | some k => .cells #[.iface 315 (.pointer (some ⟨lowX + k,0,none⟩))] t frozen | none => .cells cs t frozen)
   | o => o).toArray }
set_option maxRecDepth 100000 in
theorem laid_metX (os:Os) (args:Array Value):laidMetH Tryz.prog laidX ((laidWorldX os).forCall (fun _ _ => 0) ⟨#[],args,[]⟩).memory :=
 show laidMet Tryz.prog lx _ from laidMet_of_run' 8 (by kernel_rfl) (by kernel_rfl)
end Go.Proofs.YtekncgjkocgioaaGreatDoor

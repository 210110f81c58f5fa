/-
  One operation, with the calls. By an AI agent; no person has read it.
-/
import Derived.Test.YtekncgjkocgioaaGreatDoorFvP14
import Derived.LoopN
set_option linter.unusedVariables false
set_option linter.unusedSimpArgs false
set_option linter.unusedSectionVars false
/-! One operation, with the calls. -/
namespace Go.Fv
open Go
section
variable {C:Cfg} {σ:Nat → Addr} {K:Ctx} {H H':Heap} {w:World} {v:V} {call:FuncId → List V → M V}
structure Good (C:Cfg) (σ:Nat → Addr):Prop where
 mixed:C.P.follows .mixedOrders = true
 ext:∀ f,C.kind f = .ext → SoundF C σ f fun args => M.lift (C.X f args)
 exts:∀ f,C.kind f = .exts → SoundF C σ f fun args => M.lift (C.X f args)
 extm:∀ f,C.kind f = .extm → SoundF C σ f (C.Y f)
theorem ok_callV (good:Good C σ) (SF:∀ f,SoundF C σ f (call f)) (f:FuncId):SoundF C σ f (callV C call f):=by
 unfold callV
 cases hk:C.kind f with
 | inl => exact SF f
 | pure => exact ok_callP (SF f)
 | own => exact ok_callOwn (SF f)
 | ext => exact good.ext f hk
 | exts => exact ok_callP (good.exts f hk)
 | extm => exact good.extm f hk
theorem args_rel {e:Operand → V} {ρ:Operand → Value} (E:∀ x,Rel σ K w (e x) (ρ x)) (args:Array Operand):ArgsRel σ K w (args.toList.map e) (args.map ρ):=by
 refine ⟨by simp,fun i a b ha hb => ?_⟩
 rw [List.getElem?_map] at ha
 rw [Array.getElem?_map] at hb
 rw [Array.getElem?_toList] at ha
 cases hx:args[i]? with
 | none => rw [hx] at ha; simp at ha
 | some x => rw [hx] at ha hb; simp at ha hb; subst ha; subst hb; exact E x
theorem ArgsRel.append {vs us:List V} {xs ys:Array Value} (h1:ArgsRel σ K w vs xs) (h2:ArgsRel σ K w us ys):ArgsRel σ K w (vs ++ us) (xs ++ ys):=by
 refine ⟨by simp [h1.1,h2.1],fun i a b ha hb => ?_⟩
 rcases Nat.lt_or_ge i vs.length with g | g
 ·rw [List.getElem?_append_left g] at ha
  rw [Array.getElem?_append_left (by rw [← h1.1]; exact g)] at hb
  exact h1.2 i a b ha hb
 ·rw [List.getElem?_append_right g] at ha
  rw [Array.getElem?_append_right (by rw [← h1.1]; exact g),← h1.1] at hb
  exact h2.2 _ a b ha hb
theorem callFn_eq {f:V} {x:Value} {args:List V} (hf:Rel σ K w f x) (h:callFn C call f args H = some (v,H')) :
  ∃ g fs fx caps cs,x = .func (.func g) fx cs ∧ ArgsRel σ K w fs fx ∧ ArgsRel σ K w caps cs ∧ callV C call g (fs ++ args ++ caps) H = some (v,H'):=by
 cases hf with
 | fn g caps cs hl hr => exact ⟨g,[],#[],caps,cs,rfl,⟨rfl,fun i a b h => by simp at h⟩,⟨hl,hr⟩,h⟩
 | bfn g fs fx hl hr => exact ⟨g,fs,fx,[],#[],rfl,⟨hl,hr⟩,⟨rfl,fun i a b h => by simp at h⟩,by rw [List.append_nil]; exact h⟩
 | _ => cases h
theorem ok_step (good : Good C σ) (SF : ∀ f, SoundF C σ f (call f)) (inv : Inv σ K H w) (gl : GlobOk C σ K w) {e : Operand → V} {a : Act} (E : ∀ x, Rel σ K w (e x) (a.eval x)) (o : Oper)
    (h:stepV C call e o.op H = some (v,H')) {next:Act → World → Prop} {Q:Exit → Act → World → Prop} (k:∀ x w',Leads C σ K H w v H' x w' → next (a.put o.dst x) w') :
    o.wp C.P a w next Q:=by
  have plain : opV C e o.op H = some (v, H') → o.wp C.P a w next Q := fun h => by
    obtain ⟨x,w',hr,hl⟩:=ok_op inv E o h
    unfold Oper.wp
    rcases hr with hr | ⟨hr,rfl⟩
    · rw [hr,Oper.upon_value]; exact k _ _ hl
    · rw [hr,Oper.upon_skip]; exact k _ _ hl
  obtain ⟨dst,op,type,pos,after,guard⟩:=o
  cases op
  case call c =>
    obtain ⟨callee,args,ats⟩:=c
    cases callee with
    | invoke r n => cases h
    | builtin b =>
      have he : ∃ consts, (execOp a.eval ⟨dst, .call ⟨.builtin b, args, ats⟩, type, pos, after, guard⟩).run C.P w = (builtin b ats type consts (args.map a.eval)).run C.P w :=
        ⟨_,by simp only [execOp,resolve,invoke,Sem.run_bind,Sem.run_pure,Result.andThen_ok]; rfl⟩
      obtain ⟨consts,he⟩:=he
      obtain ⟨x,w',hr,hl⟩:=ok_builtin (type:=type) (consts:=consts) inv (args_rel E args).1 (args_rel E args).2 h
      unfold Oper.wp
      rw [he]
      rcases hr with hr | ⟨hr,rfl⟩
      · rw [hr,Oper.upon_value]; exact k _ _ hl
      · rw [hr,Oper.upon_skip]; exact k _ _ hl
    | value f =>
      obtain ⟨g,fs,fx,caps,cs,h2,h1,h3,h4⟩:=callFn_eq (E f) h
      obtain ⟨⟨fn,c1,c2,c3⟩,c4⟩:=ok_callV good SF g K H w _ _ v H' inv gl ((h1.append (args_rel E args)).append h3) h4
      unfold Oper.wp
      have he : (execOp a.eval ⟨dst, .call ⟨.value f, args, ats⟩, type, pos, after, guard⟩).run C.P w = .ok (.enter g (fx ++ args.map a.eval ++ cs)) w := by
        have h5:a.eval f = .func (.func g) fx cs:=h2
        obtain ⟨cc,hb⟩:=Option.isSome_iff_exists.1 c2
        simp [execOp,resolve,invoke,Deferred.ofValue,h5,callFunc,c1,hb,c3]
      rw [he,Oper.upon_enter]
      exact c4.mono fun e' w'' he' => by
        obtain ⟨x,rfl,hl⟩:=he'
        exact k _ _ hl
  all_goals exact plain h
end
end Go.Fv
namespace Go.Fv
open Go
section
variable {C:Cfg} {σ:Nat → Addr} {call:FuncId → List V → M V} {ops:Array Oper} {N:Nat}
def exOf:Ex → Exit
 | .normal => .normal
 | .exit i => .exit i
 | .ret => .ret
def Post (C:Cfg) (σ:Nat → Addr) (N:Nat) (K:Ctx) (H:Heap) (w:World) (ds:List Nat) (env:Env) (Kc:Ex → Env → M R) (r:R × Heap) (e:Exit) (a':Act) (w':World):Prop :=
 ∃ ex env' K' H',e = exOf ex ∧ Inv σ K' H' w' ∧ GlobOk C σ K' w' ∧ EnvRel σ K' w' N env' a' ∧ Evo K H w K' H' w' ∧ (∀ t,t ∉ ds → env' t = env t) ∧ Kc ex env' H' = some r
theorem yielded_of {a:Act} {j d:Nat} {b:Bool} (hd:(ops[j]?).bind (·.dst) = some d) (h:a.tmps.getD d Go.undef = .bool b):yielded ops a.tmps j = some b:=by
 unfold yielded
 rw [hd]
 simp only [Option.bind_some]
 rw [Array.getD_eq_getD_getElem?] at h
 cases hq:a.tmps[d]? with
 | none => rw [hq] at h; simp [Go.undef] at h
 | some x => rw [hq] at h; simp at h; subst h; rfl
theorem yielded_not {a:Act} {j d:Nat} (hd:(ops[j]?).bind (·.dst) = some d) (h:∃ cs,a.tmps.getD d Go.undef = .tuple cs):yielded ops a.tmps j = none:=by
 obtain ⟨cs,h⟩:=h
 unfold yielded
 rw [hd]
 simp only [Option.bind_some]
 rw [Array.getD_eq_getD_getElem?] at h
 cases hq:a.tmps[d]? with
 | none => rfl
 | some x => rw [hq] at h; simp at h; subst h; rfl
theorem ok_guarded (good : Good C σ) (SF : ∀ f, SoundF C σ f (call f)) {K : Ctx} {H H' : Heap} {w : World} {v : V} (inv : Inv σ K H w) (gl : GlobOk C σ K w) {env : Env} {a : Act}
    (T:∀ t,Rel σ K w (env t) (a.tmps.getD t Go.undef)) {i:Nat} {o:Oper} (ho:ops[i]? = some o) (h:guarded C call ops env o H = some (v,H'))
    {next:Act → World → Prop} {Q:Exit → Act → World → Prop} (k:∀ x w',Leads C σ K H w v H' x w' → next (a.put o.dst x) w'):wpOp C.P ops Q i next a w:=by
  have E : ∀ x, Rel σ K w (ev C env x) (a.eval x) := fun x => by
    cases x with
    | tmp t => exact T t
    | const v => exact rel_cstV v
    | global g =>
      show Rel σ K w (match C.G g with | some row => .iptr row 0 | none => .undef) _
      cases hk:C.G g with
      | none => exact .undef _
      | some row => exact gl.g g row hk
    | func f => exact .fn f [] #[] rfl (fun i a b h => by simp at h)
  unfold wpOp
  rw [ho]
  simp only
  unfold guarded at h
  cases hg:o.guard with
  | none =>
    rw [hg] at h
    simp only at h
    have hw:Region.wanted o (yielded ops a.tmps) = true:=by unfold Region.wanted; rw [hg]
    rw [if_pos hw]
    exact .inl (ok_step good SF inv gl E o h k)
  | some g =>
    obtain ⟨j,want⟩:=g
    rw [hg] at h
    simp only at h
    cases hd:(ops[j]?).bind (·.dst) with
    | none => rw [hd] at h; cases h
    | some d =>
      rw [hd] at h
      simp only at h
      have hr:=T d
      generalize env d = p at h hr
      cases p with
      | bool b =>
        simp only [guardV] at h
        have hb : a.tmps.getD d Go.undef = .bool b := by
          generalize a.tmps.getD d Go.undef = y at hr
          cases hr; rfl
        have hy:=yielded_of hd hb
        by_cases e:b = want
        · rw [if_pos e] at h
          have hw:Region.wanted o (yielded ops a.tmps) = true:=by unfold Region.wanted; rw [hg]; simp [hy,e]
          rw [if_pos hw]
          exact .inl (ok_step good SF inv gl E o h k)
        · rw [if_neg e] at h
          have hw:Region.wanted o (yielded ops a.tmps) ≠ true:=by unfold Region.wanted; rw [hg]; simp [hy,e]
          rw [if_neg hw]
          simp only [M.ret,Option.some.injEq,Prod.mk.injEq] at h
          obtain ⟨rfl,rfl⟩:=h
          exact k _ _ ⟨K,.tuple [] #[] rfl (fun i a b h => by simp at h),inv,.refl _ _ _⟩
      | tuple l0 =>
        simp only [guardV] at h
        have hb : ∃ cs, a.tmps.getD d Go.undef = .tuple cs := by
          generalize a.tmps.getD d Go.undef = y at hr
          cases hr; exact ⟨_,rfl⟩
        have hy:=yielded_not hd hb
        have hw:Region.wanted o (yielded ops a.tmps) ≠ true:=by unfold Region.wanted; rw [hg]; simp [hy]
        rw [if_neg hw]
        simp only [M.ret,Option.some.injEq,Prod.mk.injEq] at h
        obtain ⟨rfl,rfl⟩:=h
        exact k _ _ ⟨K,.tuple [] #[] rfl (fun i a b h => by simp at h),inv,.refl _ _ _⟩
      | _ => cases h
theorem runOps_cons (o:Oper) (l:List Oper) (env:Env) (Kc:Env → M R):runOps C call ops (o :: l) env Kc = (guarded C call ops env o).bind fun v => runOps C call ops l (put env o.dst v) Kc:=rfl
theorem ok_runOps (good : Good C σ) (SF : ∀ f, SoundF C σ f (call f)) {Kc : Ex → Env → M R} {r : R × Heap} {K0 : Ctx} {H0 : Heap} {w0 : World} {env0 : Env} (inv0 : Inv σ K0 H0 w0) {ds : List Nat} :
    ∀ (l : List Oper) (i : Nat), l = ops.toList.drop i → (∀ o ∈ l, ∀ d, o.dst = some d → d < N ∧ d ∈ ds) → ∀ K H w env a, Inv σ K H w → GlobOk C σ K w → EnvRel σ K w N env a → Evo K0 H0 w0 K H w →
      (∀ t,t ∉ ds → env t = env0 t) → runOps C call ops l env (Kc .normal) H = some r → wpOps C.P ops (Post C σ N K0 H0 w0 ds env0 Kc r) (List.range' i l.length) a w
  | [],i,hl,hN,K,H,w,env,a,inv,gl,er,evo,he,h => ⟨.normal,env,K,H,rfl,inv,gl,er,evo,he,h⟩
  | o :: l, i, hl, hN, K, H, w, env, a, inv, gl, er, evo, he, h => by
    have ho : ops[i]? = some o := by
      rw [← Array.getElem?_toList,← Nat.add_zero i,← List.getElem?_drop,← hl]; rfl
    have hl' : l = ops.toList.drop (i + 1) := by
      rw [← List.drop_drop,← hl]; rfl
    rw [List.length_cons,List.range'_succ,wpOps_cons]
    rw [runOps_cons] at h
    obtain ⟨v,H1,h1,h2⟩:=bind_eq h
    refine ok_guarded good SF inv gl er.tmp ho h1 fun x w' hx => ?_
    obtain ⟨K',r1,r2,r3⟩:=hx
    have mv:=inv.moves r3
    refine ok_runOps good SF inv0 l (i + 1) hl' (fun o' ho' => hN o' (List.mem_cons_of_mem _ ho')) K' H1 w' _ _ r2 (gl.mono mv) ((er.mono mv).put (fun t ht => (hN o (List.mem_cons_self ..) t ht).1) r1) (Evo.trans inv0 inv evo r3) (fun t ht => ?_) h2
    cases hd:o.dst with
    | none => exact he t ht
    | some d =>
      show (if t = d then v else env t) = _
      rw [if_neg (fun (e:t = d) => ht (by rw [e]; exact (hN o (List.mem_cons_self ..) d hd).2))]
      exact he t ht
theorem mem_dsts {o:Oper} {d:Nat} (ho:o ∈ ops.toList) (hd:o.dst = some d):d ∈ dsts ops:=by
 unfold dsts
 rw [List.mem_filterMap]
 exact ⟨o,ho,hd⟩
theorem ok_region (good:Good C σ) (SF:∀ f,SoundF C σ f (call f)) {Kc:Ex → Env → M R} {r:R × Heap} {K:Ctx} {H:Heap} {w:World} {env:Env} {a:Act} {id:Nat} (inv:Inv σ K H w) (gl:GlobOk C σ K w)
  (er:EnvRel σ K w N env a) (hN:∀ d ∈ dsts ops,d < N) (h:runOps C call ops ops.toList env (Kc .normal) H = some r):(Code.region id ops false).wp C.P (Post C σ N K H w (dsts ops) env Kc r) a w:=by
 refine wp_region ?_
 have:=ok_runOps (N:=N) (ds:=dsts ops) good SF inv ops.toList 0 (by simp) (fun o ho d hd => ⟨hN d (mem_dsts ho hd),mem_dsts ho hd⟩) K H w env a inv gl er (.refl _ _ _) (fun _ _ => rfl) h
 rw [List.range_eq_range']
 simpa using this

theorem mem_dedup : ∀ (l : List Nat) (t : Nat), t ∈ dedup l ↔ t ∈ l
  | [],t => Iff.rfl
  | d :: ds, t => by
    unfold dedup
    split
    · rename_i hc
      rw [mem_dedup ds t,List.mem_cons]
      constructor
      · exact .inr
      · rintro (rfl | h)
        · simpa using hc
        · exact h
    · rw [List.mem_cons,List.mem_cons,mem_dedup ds t]
theorem carried_sub (T:List Nat) (c:Code) (t:Nat) (h:t ∈ carried T c):t ∈ allDsts c:=by
 unfold carried at h
 rw [List.mem_filter] at h
 exact (mem_dedup _ t).1 h.1
theorem findIdx_some {t : Nat} : ∀ {l : List Nat} {k m : Nat}, findIdx t l k = some m → k ≤ m ∧ l[m - k]? = some t
  | [],k,m,h => by cases h
  | d :: ds, k, m, h => by
    unfold findIdx at h
    split at h
    · rename_i e
      injection h with h
      subst h; subst e
      exact ⟨Nat.le_refl _,by simp⟩
    · obtain ⟨h1,h2⟩:=findIdx_some h
      refine ⟨by omega,?_⟩
      rw [show m - k = (m - (k + 1)) + 1 by omega,List.getElem?_cons_succ]
      exact h2
theorem findIdx_none {t : Nat} : ∀ {l : List Nat} {k : Nat}, findIdx t l k = none → t ∉ l
  | [],k,h => by simp
  | d :: ds, k, h => by
    unfold findIdx at h
    split at h
    · cases h
    · rename_i e
      rw [List.mem_cons]
      rintro (rfl | hm)
      · exact e rfl
      · exact findIdx_none h hm
theorem restore_map (env env' : Env) (ds as : List Nat) (t : Nat) : restore env ds as (ds.map env') t = env' t ∨ (t ∉ ds ∧ t ∈ as ∧ restore env ds as (ds.map env') t = .undef) ∨ (t ∉ ds ∧ t ∉ as ∧ restore env ds as (ds.map env') t = env t) := by
  unfold restore
  cases h:findIdx t ds 0 with
  | some k =>
    refine .inl ?_
    obtain ⟨_,h2⟩:=findIdx_some h
    simp only
    rw [List.getD_eq_getElem?_getD,List.getElem?_map]
    simp at h2
    rw [h2]
    rfl
  | none =>
    simp only
    have hn:=findIdx_none h
    by_cases hm:t ∈ as
    · exact .inr (.inl ⟨hn,hm,by rw [if_pos (by simpa using hm)]⟩)
    · exact .inr (.inr ⟨hn,hm,by rw [if_neg (by simpa using hm)]⟩)
theorem restore_out (env : Env) (ds as : List Nat) (hsub : ∀ t ∈ ds, t ∈ as) (s : List V) {t : Nat} (h : t ∉ as) : restore env ds as s t = env t := by
  unfold restore
  cases hf:findIdx t ds 0 with
  | some k =>
    obtain ⟨_,h2⟩:=findIdx_some hf
    exact absurd (hsub t (List.mem_of_getElem? h2)) h
  | none => simp only; rw [if_neg (by simpa using h)]
theorem EnvRel.restore {K:Ctx} {w:World} {env env':Env} {a:Act} {ds as:List Nat} (hsub:∀ t ∈ ds,t ∈ as) (er:EnvRel σ K w N env' a) (hout:∀ t,t ∉ as → env' t = env t) :
  EnvRel σ K w N (Fv.restore env ds as (ds.map env')) a:=by
 refine ⟨er.size,er.defers,fun t => ?_⟩
 rcases restore_map env env' ds as t with h | ⟨_,_,h⟩ | ⟨_,h2,h⟩
 ·rw [h]; exact er.tmp t
 ·rw [h]; exact .undef _
 ·rw [h,← hout t h2]; exact er.tmp t
def DrawnOk (C:Cfg) (σ:Nat → Addr) (call:CV):Prop :=
 ∀ {ops:Array Oper} {N:Nat} {Kc:Ex → Env → M R} {r:R × Heap} {K:Ctx} {H:Heap} {w:World} {env:Env} {a:Act} {id:Nat},Inv σ K H w → GlobOk C σ K w → EnvRel σ K w N env a → (∀ d ∈ dsts ops,d < N) →
  orderOk ops = true → runDrawn C call ops H.next ops.toList 0 [] env (Kc .normal) H = some r → (Code.region id ops true).wp C.P (Post C σ N K H w (dsts ops) env Kc r) a w
theorem Post.weak {K:Ctx} {H:Heap} {w:World} {ds ds':List Nat} {env:Env} {Kc:Ex → Env → M R} {r:R × Heap} {e:Exit} {a':Act} {w':World} (h:Post C σ N K H w ds env Kc r e a' w') (hs:∀ t ∈ ds,t ∈ ds'):Post C σ N K H w ds' env Kc r e a' w':=by
 obtain ⟨ex,env',K',H',h1,h2,h3,h4,h5,h6,h7⟩:=h
 exact ⟨ex,env',K',H',h1,h2,h3,h4,h5,fun t ht => h6 t (fun hm => ht (hs t hm)),h7⟩
theorem Post.trans {K K1:Ctx} {H H1:Heap} {w w1:World} {ds:List Nat} {env env1:Env} {Kc:Ex → Env → M R} {r:R × Heap} {e:Exit} {a':Act} {w':World} (inv:Inv σ K H w) (inv1:Inv σ K1 H1 w1) (evo:Evo K H w K1 H1 w1) (he:∀ t,t ∉ ds → env1 t = env t)
  (h:Post C σ N K1 H1 w1 ds env1 Kc r e a' w'):Post C σ N K H w ds env Kc r e a' w':=by
 obtain ⟨ex,env',K',H',h1,h2,h3,h4,h5,h6,h7⟩:=h
 exact ⟨ex,env',K',H',h1,h2,h3,h4,Evo.trans inv inv1 evo h5,fun t ht => (h6 t ht).trans (he t ht),h7⟩
theorem ok_code (good : Good C σ) (SF : ∀ f, SoundF C σ f (call f)) (dr : DrawnOk C σ call) (T : List Nat) : ∀ (c : Code) (env : Env) (Kc : Ex → Env → M R) (r : R × Heap) (K : Ctx) (H : Heap) (w : World) (a : Act),
    Inv σ K H w → GlobOk C σ K w → EnvRel σ K w N env a → (∀ d ∈ allDsts c,d < N) → runK C call T c env Kc H = some r → c.wp C.P (Post C σ N K H w (allDsts c) env Kc r) a w:=by
  intro c
  induction c with
  | skip =>
    intro env Kc r K H w a inv gl er hN h
    exact wp_skip ⟨.normal,env,K,H,rfl,inv,gl,er,.refl _ _ _,fun _ _ => rfl,h⟩
  | label l =>
    intro env Kc r K H w a inv gl er hN h
    exact wp_label ⟨.normal,env,K,H,rfl,inv,gl,er,.refl _ _ _,fun _ _ => rfl,h⟩
  | exit id =>
    intro env Kc r K H w a inv gl er hN h
    exact wp_exit ⟨.exit id,env,K,H,rfl,inv,gl,er,.refl _ _ _,fun _ _ => rfl,h⟩
  | ret =>
    intro env Kc r K H w a inv gl er hN h
    exact wp_ret ⟨.ret,env,K,H,rfl,inv,gl,er,.refl _ _ _,fun _ _ => rfl,h⟩
  | region id ops draw =>
    intro env Kc r K H w a inv gl er hN h
    cases draw with
    | false => exact ok_region good SF inv gl er hN h
    | true =>
      have h':(if orderOk ops then fun h => runDrawn C call ops h.next ops.toList 0 [] env (Kc .normal) h else M.fail) H = some r:=h
      by_cases ho:orderOk ops = true
      · exact dr inv gl er hN ho (by rw [show (if orderOk ops then fun h => runDrawn C call ops h.next ops.toList 0 [] env (Kc .normal) h else M.fail) = (fun h => runDrawn C call ops h.next ops.toList 0 [] env (Kc .normal) h) from if_pos ho] at h'; exact h')
      · rw [show (if orderOk ops then fun h => runDrawn C call ops h.next ops.toList 0 [] env (Kc .normal) h else M.fail) = M.fail from if_neg ho] at h'
        cases h'
  | seq x y ihx ihy =>
    intro env Kc r K H w a inv gl er hN h
    have hx:=ihx env (onNormal (fun env' => runK C call T y env' Kc) Kc) r K H w a inv gl er (fun d hd => hN d (List.mem_append_left _ hd)) h
    refine wp_seq (wp_mono hx fun e a1 w1 hp => ?_)
    obtain ⟨ex,env1,K1,H1,rfl,i1,g1,e1,v1,o1,k1⟩:=hp
    cases ex with
    | normal =>
      have hy:=ihy env1 Kc r K1 H1 w1 a1 i1 g1 e1 (fun d hd => hN d (List.mem_append_right _ hd)) k1
      exact wp_mono hy fun e a2 w2 hp => (Post.weak hp (fun t ht => List.mem_append_right _ ht)).trans inv i1 v1 (fun t ht => o1 t (fun hm => ht (List.mem_append_left _ hm)))
    | exit id => exact ⟨.exit id,env1,K1,H1,rfl,i1,g1,e1,v1,fun t ht => o1 t (fun hm => ht (List.mem_append_left _ hm)),k1⟩
    | ret => exact ⟨.ret,env1,K1,H1,rfl,i1,g1,e1,v1,fun t ht => o1 t (fun hm => ht (List.mem_append_left _ hm)),k1⟩
  | cond o x y ihx ihy =>
    intro env Kc r K H w a inv gl er hN h
    have h':condV (ev C env o) (runK C call T x env Kc) (runK C call T y env Kc) H = some r:=h
    have ho:=er.ev gl o
    generalize ev C env o = p at h' ho
    cases p with
    | bool b =>
      have hb : a.eval o = .bool b := by
        generalize a.eval o = y at ho
        cases ho; rfl
      refine wp_cond hb ?_
      cases b with
      | true => exact wp_mono (ihx env Kc r K H w a inv gl er (fun d hd => hN d (List.mem_append_left _ hd)) h') fun e a2 w2 hp => hp.weak fun t ht => List.mem_append_left _ ht
      | false => exact wp_mono (ihy env Kc r K H w a inv gl er (fun d hd => hN d (List.mem_append_right _ hd)) h') fun e a2 w2 hp => hp.weak fun t ht => List.mem_append_right _ ht
    | _ => cases h'
  | block id c ih =>
    intro env Kc r K H w a inv gl er hN h
    have hc:=ih env (onBlock id Kc) r K H w a inv gl er hN h
    refine wp_block (wp_mono hc fun e a1 w1 hp => ?_)
    obtain ⟨ex,env1,K1,H1,rfl,i1,g1,e1,v1,o1,k1⟩:=hp
    cases ex with
    | normal => exact ⟨.normal,env1,K1,H1,rfl,i1,g1,e1,v1,o1,k1⟩
    | ret => exact ⟨.ret,env1,K1,H1,rfl,i1,g1,e1,v1,o1,k1⟩
    | exit j =>
      show if j = id then _ else _
      have k2:(if j = id then Kc .normal env1 else Kc (.exit j) env1) H1 = some r:=k1
      by_cases e:j = id
      · rw [if_pos e] at k2 ⊢
        exact ⟨.normal,env1,K1,H1,rfl,i1,g1,e1,v1,o1,k2⟩
      · rw [if_neg e] at k2 ⊢
        exact ⟨.exit j,env1,K1,H1,rfl,i1,g1,e1,v1,o1,k2⟩
  | loop c ih =>
    intro env Kc r K H w a inv gl er hN h
    have hsub:∀ t ∈ carried T c,t ∈ allDsts c:=fun t ht => carried_sub T c t ht
    have h':M.bind (loopV (fun s => runK C call T c (restore env (carried T c) (allDsts c) s) fun e env' => M.ret (e,(carried T c).map env')) ((carried T c).map env)) (onLoop Kc env (carried T c) (allDsts c)) H = some r:=h
    obtain ⟨r1,H1,hl,hk⟩:=bind_eq h'
    generalize hF:(fun s => runK C call T c (restore env (carried T c) (allDsts c) s) fun e env' => M.ret (e,(carried T c).map env')) = F at hl
    have hit : ∃ n, iter F n ((carried T c).map env) H = some (r1, H1) := by
      unfold loopV at hl
      split at hl
      · rename_i hx
        have:=hx.choose_spec.choose_spec
        injection hl with hl
        exact ⟨_,this.trans (by rw [hl])⟩
      · cases hl
    obtain ⟨n,hit⟩:=hit
    refine wp_loop_rounds n ?_
    have key : ∀ n s K1 H2 w1 a1, iter F n s H2 = some (r1, H1) → Inv σ K1 H2 w1 → GlobOk C σ K1 w1 → EnvRel σ K1 w1 N (restore env (carried T c) (allDsts c) s) a1 → Evo K H w K1 H2 w1 →
        Code.rounds C.P c (Post C σ N K H w (allDsts c) env Kc r) n a1 w1:=by
      intro n
      induction n with
      | zero => intro s K1 H2 w1 a1 h; cases h
      | succ n ihn =>
        intro s K1 H2 w1 a1 hi i1 g1 e1 v1
        obtain ⟨r2,H3,f1,f2⟩:=bind_eq (m:=F s) (f:=fun r => match r.1 with | .normal => iter F n r.2 | _ => M.ret r) hi
        rw [← hF] at f1
        have hc:=ih (restore env (carried T c) (allDsts c) s) _ (r2,H3) K1 H2 w1 a1 i1 g1 e1 hN f1
        rw [rounds_succ]
        refine wp_mono hc fun e a2 w2 hp => ?_
        obtain ⟨ex,env2,K2,H4,rfl,i2,g2,e2,v2,o2,k2⟩:=hp
        simp only [M.ret,Option.some.injEq,Prod.mk.injEq] at k2
        obtain ⟨rfl,rfl⟩:=k2
        have hout:∀ t,t ∉ allDsts c → env2 t = env t:=fun t ht => (o2 t ht).trans (restore_out env _ _ hsub s ht)
        have er2:=EnvRel.restore (ds:=carried T c) hsub e2 hout
        have evo2:=Evo.trans inv i1 v1 v2
        have hout2:∀ t,t ∉ allDsts c → restore env (carried T c) (allDsts c) ((carried T c).map env2) t = env t:=fun t ht => restore_out env _ _ hsub _ ht
        cases ex with
        | normal => exact ihn _ K2 H4 w2 a2 f2 i2 g2 er2 evo2
        | exit id =>
          simp only [M.ret,Option.some.injEq,Prod.mk.injEq] at f2
          obtain ⟨rfl,rfl⟩:=f2
          exact ⟨.exit id,_,K2,H4,rfl,i2,g2,er2,evo2,hout2,hk⟩
        | ret =>
          simp only [M.ret,Option.some.injEq,Prod.mk.injEq] at f2
          obtain ⟨rfl,rfl⟩:=f2
          exact ⟨.ret,_,K2,H4,rfl,i2,g2,er2,evo2,hout2,hk⟩
    exact key n _ K H w a hit inv gl (EnvRel.restore hsub er (fun _ _ => rfl)) (.refl _ _ _)
  | _ => intro env Kc r K H w a inv gl er hN h; cases h

def resS (tmps:Array Value):ResultVar → Sem Value
 | .tmp t => pure (tmps.getD t Go.undef)
 | .cell p t => do loadVar t (← asAddr (tmps.getD p Go.undef))
theorem loadAt_as {t : TypeId} {y x : Value} {w w' : World} (h : (Instr.loadAt t y).run C.P w = .ok x w') : (do loadVar t (← asAddr y) : Sem Value).run C.P w = .ok x w' := by
  unfold Instr.loadAt at h
  cases y with
  | pointer o => cases o with
    | none => simp [Instr.sureAddr,stuck] at h
    | some a => exact h
  | _ => simp [Instr.sureAddr,stuck] at h
def tupX:List Value → Value
 | [x] => x
 | xs => .tuple xs.toArray
theorem resV_ok {K : Ctx} {H : Heap} {w : World} {env : Env} {a : Act} (inv : Inv σ K H w) (er : EnvRel σ K w N env a) : ∀ (rs : List ResultVar) (l : List V) (H' : Heap), resV C.P env rs H = some (l, H') →
    ∃ xs:List Value,l.length = rs.length ∧ xs.length = rs.length ∧ (∀ (i:Nat) q x,rs[i]? = some q → xs[i]? = some x → (resS a.tmps q).run C.P w = .ok x w) ∧ (∀ (i:Nat) p x,l[i]? = some p → xs[i]? = some x → Rel σ K w p x) ∧ H' = H:=by
  intro rs
  induction rs with
  | nil =>
    intro l H' h
    simp only [resV,M.ret,Option.some.injEq,Prod.mk.injEq] at h
    obtain ⟨rfl,rfl⟩:=h
    exact ⟨[],rfl,rfl,fun i p x h => by simp at h,fun i p x h => by simp at h,rfl⟩
  | cons q rs ih =>
    intro l H' h
    have fin : ∀ (v : V) (x : Value) l1, Rel σ K w v x → (resS a.tmps q).run C.P w = .ok x w → resV C.P env rs H = some (l1, H') → l = v :: l1 →
        ∃ xs:List Value,l.length = (q :: rs).length ∧ xs.length = (q :: rs).length ∧ (∀ (i:Nat) q' x,(q :: rs)[i]? = some q' → xs[i]? = some x → (resS a.tmps q').run C.P w = .ok x w) ∧ (∀ (i:Nat) p x,l[i]? = some p → xs[i]? = some x → Rel σ K w p x) ∧ H' = H:=by
      intro v x l1 hr hx h1 hl
      obtain ⟨xs,g0,g1,g2,g3,g4⟩:=ih l1 H' h1
      subst hl
      refine ⟨x :: xs,by simp [g0],by simp [g1],fun i q' y hq hy => ?_,fun i p y hp hy => ?_,g4⟩
      · cases i with
        | zero => simp at hq hy; subst hq; subst hy; exact hx
        | succ i => simp at hq hy; exact g2 i q' y hq hy
      · cases i with
        | zero => simp at hp hy; subst hp; subst hy; exact hr
        | succ i => simp at hp hy; exact g3 i p y hp hy
    cases q with
    | tmp t =>
      simp only [resV] at h
      obtain ⟨l1,H1,h1,h2⟩:=bind_eq h
      simp only [M.ret,Option.some.injEq,Prod.mk.injEq] at h2
      obtain ⟨rfl,rfl⟩:=h2
      exact fin _ _ l1 (er.tmp t) rfl h1 rfl
    | cell p t =>
      simp only [resV] at h
      obtain ⟨v,H1,h1,h2⟩:=bind_eq h
      obtain ⟨l1,H2,h3,h4⟩:=bind_eq h2
      simp only [M.ret,Option.some.injEq,Prod.mk.injEq] at h4
      obtain ⟨rfl,rfl⟩:=h4
      obtain ⟨y,q1,q2,rfl⟩:=ok_load inv (er.tmp p) h1
      exact fin v y l1 q2 (loadAt_as q1) h3 rfl
theorem resS_inv {tmps : Array Value} {q : ResultVar} {x : Value} {w : World} (h : (resS tmps q).run C.P w = .ok x w) :
    (∃ t,q = .tmp t ∧ tmps.getD t Go.undef = x) ∨ ∃ p t a,q = .cell p t ∧ tmps.getD p Go.undef = .pointer (some a) ∧ (loadVar t a).run C.P w = .ok x w:=by
  cases q with
  | tmp t => simp only [resS,Sem.run_pure,Result.ok.injEq] at h; exact .inl ⟨t,rfl,h.1⟩
  | cell p t =>
    simp only [resS] at h
    cases hq:tmps.getD p Go.undef with
    | pointer o => cases o with
      | none => rw [hq] at h; simp [asAddr,runtimePanic] at h
      | some a => rw [hq] at h; exact .inr ⟨p,t,a,rfl,hq,h⟩
    | _ => rw [hq] at h; simp [asAddr,stuck] at h
theorem results_run {fn : Func} {tmps : Array Value} {w : World} (hs : fn.results.size ≤ 4) (xs : List Value) (hl : xs.length = fn.results.toList.length)
    (h:∀ (i:Nat) q x,fn.results.toList[i]? = some q → xs[i]? = some x → (resS tmps q).run C.P w = .ok x w) :
    (results fn tmps).run C.P w = .ok (tupX xs) w:=by
  unfold results
  obtain ⟨l,hl0⟩:∃ l,fn.results = l.toArray:=⟨fn.results.toList,by simp⟩
  rw [hl0] at hs hl h ⊢
  simp only [List.size_toArray] at hs hl h
  match l,xs,hl with
  | [],[],_ => simp [tupX]
  | [q], [x], _ =>
    rcases resS_inv (h 0 q x rfl rfl) with ⟨t,rfl,h0⟩ | ⟨p,t,a,rfl,h0,g0⟩ <;> simp at h0 <;> simp [tupX,asAddr, *]
  | [q, q'], [x, x'], _ =>
    rcases resS_inv (h 0 q x rfl rfl) with ⟨t,rfl,h0⟩ | ⟨p,t,a,rfl,h0,g0⟩ <;> rcases resS_inv (h 1 q' x' rfl rfl) with ⟨t',rfl,h1⟩ | ⟨p',t',a',rfl,h1,g1⟩ <;> simp at h0 h1 <;> simp [tupX,asAddr, *]
  | [q, q', q''], [x, x', x''], _ =>
    rcases resS_inv (h 0 q x rfl rfl) with ⟨t,rfl,h0⟩ | ⟨p,t,a,rfl,h0,g0⟩ <;> rcases resS_inv (h 1 q' x' rfl rfl) with ⟨t',rfl,h1⟩ | ⟨p',t',a',rfl,h1,g1⟩ <;> rcases resS_inv (h 2 q'' x'' rfl rfl) with ⟨t'',rfl,h2⟩ | ⟨p'',t'',a'',rfl,h2,g2⟩ <;> simp at h0 h1 h2 <;> simp [tupX,asAddr, *]
  | [q, q', q'', q3], [x, x', x'', x3], _ =>
    rcases resS_inv (h 0 q x rfl rfl) with ⟨t, rfl, h0⟩ | ⟨p, t, a, rfl, h0, g0⟩ <;> rcases resS_inv (h 1 q' x' rfl rfl) with ⟨t', rfl, h1⟩ | ⟨p', t', a', rfl, h1, g1⟩ <;> rcases resS_inv (h 2 q'' x'' rfl rfl) with ⟨t'', rfl, h2⟩ | ⟨p'', t'', a'', rfl, h2, g2⟩ <;>
      rcases resS_inv (h 3 q3 x3 rfl rfl) with ⟨t3,rfl,h3⟩ | ⟨p3,t3,a3,rfl,h3,g3⟩ <;> simp at h0 h1 h2 h3 <;> simp [tupX,asAddr, *]
  | _ :: _ :: _ :: _ :: _ :: _,_,_ => simp at hs
theorem ok_fnV (good : Good C σ) (SF : ∀ f, SoundF C σ f (call f)) (dr : DrawnOk C σ call) (f : FuncId) : SoundF C σ f (fnV C call f) := by
  intro K H w vs xs v H' inv gl ar h
  unfold fnV at h
  cases hf:C.P.funcs[f]? with
  | none => rw [hf] at h; cases h
  | some fn =>
  rw [hf] at h
  simp only at h
  cases hb:fn.body with
  | none => rw [hb] at h; cases h
  | some c =>
  rw [hb] at h
  simp only at h
  by_cases hn : fn.name = "runtime.NumGoroutine"
  · rw [if_pos hn] at h; cases h
  rw [if_neg hn] at h
  unfold bodyV at h
  by_cases hok:okFn fn c = true
  case neg => rw [if_neg hok] at h; cases h
  rw [if_pos hok] at h
  refine ⟨⟨fn,hf,by rw [hb]; rfl,hn⟩,calls_of_wp hf hb ?_⟩
  obtain ⟨r,H1,h1,h2⟩:=bind_eq h
  simp only [M.ret,Option.some.injEq,Prod.mk.injEq] at h2
  obtain ⟨rfl,rfl⟩:=h2
  unfold okFn at hok
  rw [Bool.and_eq_true,decide_eq_true_eq,List.all_eq_true] at hok
  have er : EnvRel σ K w fn.ntmps (fun t => vs.getD t .undef) { tmps := xs ++ Array.replicate (fn.ntmps - xs.size) Go.undef, defers := [] } := by
    refine ⟨by simp; omega,rfl,fun t => ?_⟩
    show Rel σ K w (vs.getD t .undef) ((xs ++ Array.replicate (fn.ntmps - xs.size) Go.undef).getD t Go.undef)
    rw [List.getD_eq_getElem?_getD,Array.getD_eq_getD_getElem?]
    cases hv:vs[t]? with
    | none => exact .undef _
    | some p =>
      have hlt:t < xs.size:=by rw [← ar.1]; exact (List.getElem?_eq_some_iff.1 hv).1
      rw [Array.getElem?_append_left hlt]
      have hx:xs[t]? = some xs[t]:=Array.getElem?_eq_getElem hlt
      rw [hx]
      exact ar.2 t p xs[t] hv hx
  have key:=ok_code (N:=fn.ntmps) good SF dr _ c (fun t => vs.getD t .undef) (finish C.P fn) (r,H1) K H w _ inv gl er (fun d hd => of_decide_eq_true (hok.2 d hd)) h1
  refine wp_mono key fun e a' w' hp => ?_
  obtain ⟨ex,env',K',H2,rfl,i2,g2,e2,v2,_,k2⟩:=hp
  have fin : (resV C.P env' fn.results.toList).bind (fun l => M.ret (Ex.ret, tupV l)) H2 = some (r, H1) →
      a'.defers = [] ∧ ∃ x,(results fn a'.tmps).run C.P w' = .ok x w' ∧ ∃ y,Ending.returned x = Ending.returned y ∧ Leads C σ K H w (r.2.getD 0 .undef) H1 y w':=fun k2 => by
    obtain ⟨l,H3,k3,k4⟩:=bind_eq k2
    simp only [M.ret,Option.some.injEq,Prod.mk.injEq] at k4
    obtain ⟨rfl,rfl⟩:=k4
    obtain ⟨ys,q0,q1,q2,q3,rfl⟩:=resV_ok (N:=fn.ntmps) i2 e2 _ l H3 k3
    refine ⟨e2.defers,_,results_run hok.1 ys q1 q2,_,rfl,K',?_,i2,v2⟩
    have hlen:l.length = ys.length:=by rw [q0,q1]
    have tup:Rel σ K' w' (.tuple l) (.tuple ys.toArray):=.tuple l _ (by simpa using hlen) (fun i p x hp hx => q3 i p x hp (by simpa using hx))
    match l,ys,hlen with
    | [],[],_ => exact tup
    | [p],[y],_ => exact q3 0 p y rfl rfl
    | _ :: _ :: _,_ :: _ :: _,_ => exact tup
  cases ex with
  | exit id => cases k2
  | normal => exact fin k2
  | ret => exact fin k2
theorem ok_sem (good:Good C σ) (dr:∀ call,(∀ f,SoundF C σ f (call f)) → DrawnOk C σ call):∀ n f,SoundF C σ f (sem C n f)
 | 0,f => by intro K H w vs xs v H' inv gl ar h; cases h
 | n + 1,f => ok_fnV good (ok_sem good dr n) (dr _ (ok_sem good dr n)) f
end
end Go.Fv

/-
  SysMessages: for every row of texts and every place the law returns true By an AI agent; no person has read it.
-/
import Derived.Test.YtekncgjkocgioaaGreatDoorFvP44
set_option linter.unusedVariables false
set_option linter.unusedSimpArgs false
set_option linter.unusedSectionVars false
/-! SysMessages: for every row of texts and every place the law returns true -/
namespace Go.Proofs.YtekncgjkocgioaaGreatDoor
open Go Go.Fv Go.Fv.Tr Go.ChangeShapes Go.WideShapes Go.RowKit
set_option maxRecDepth 100000 in
theorem sysMessages_lifted (os:Os) (started:os.Started) (H:Type) (enc:TypeId × Value → H) :
  ReturnsInHanded {} Tryz.checked os 4 .any (fun w args => (Rows.sysMessagesSpec.pre enc Tryz.prog Tryz.f4 [] false w args ∧ laidMetH Tryz.prog laidX w) ∧ sizedMet enc Tryz.prog Tryz.f4 (OpenSpec.ofChange Rows.sysMessagesSpec) false w args)
   (Rows.sysMessagesSpec.post enc Tryz.prog Tryz.f4 false true false false):=by
 refine returnsInHanded_of_change_and (C:=Tryz.checked) (X:=fun w _ => laidMetH Tryz.prog laidX w) (fun _ _ _ hh h => h.of_heap hh) own started (by kernel_rfl) Tryz.func4
  (ChangeSpec.witness_at (enc:=enc) (C:=Tryz.checked) (os:=os) (X:=fun w _ => laidMetH Tryz.prog laidX w) false (laidWorldX os) #[.slice none 0 0,.int .i64 0] 8 rfl (by kernel_rfl) (by kernel_rfl) (by kernel_rfl) (by kernel_rfl) (by kernel_rfl) (laid_metX os _)) ?_
 intro W base args ds gs before hval hW _ hsz hL _
 obtain ⟨σ,hap,gl⟩:=globX hL
 have hW0:=hW
 obtain ⟨p,q,hA,_⟩:=hW0
 have hA':DataW.TrodAll enc Tryz.prog W 0 (fun _ => true) true Tryz.f4.params.toList args.toList ds p:=hA
 rw [Tryz.params4] at hA'
 obtain ⟨v0,v1,d0,d1,_,_,_,hd,_⟩:=trodAll_two hA'
 refine law_contract (C:=cfg GX) (n:=6) (tb:=4) (goodX hap) kids full (by rw [Tryz.params4]; intro t ht; simp at ht; exact (ht.elim (fun e => by subst e; exact of_decide_eq_true (by kernel_rfl)) (fun q => (by subst q; exact of_decide_eq_true (by kernel_rfl))))) (by rw [Tryz.params4]; intro t ht; simp at ht; exact (ht.elim (fun e => by subst e; exact inSs) (fun q => (by subst q; exact inI)))) rfl (by rw [hd]; rfl) (by kernel_rfl) Tryz.underlying4 hval hW hsz gl ?_
 intro xs hxs _
 rw [Tryz.params4] at hxs
 obtain ⟨x,y,rfl,⟨l,hl,rfl⟩,⟨k,hk,rfl⟩⟩:=shs2 (P:=Tryz.prog) (n:=6) hxs
 obtain ⟨x,sc,rfl,hX,hsc,hsz⟩:=sl_s (n:=3) hl
 obtain ⟨a0,rfl,_⟩:=sh_i (n:=5) hk
 rw [argVSs,argVI]
 obtain ⟨v,H',e,rfl⟩:=Sy.messages_run berrsX known_run hX hsc hsz a0
 exact ⟨_,H',e⟩
theorem sysMessages_holds:Rows.SysMessagesSaid :=
 OpenClaim.holds_of_wide 4 Tryz.f4 rfl rfl rfl rfl rfl rfl rfl ⟨rfl,rfl,rfl,rfl,rfl⟩ rfl rfl rfl rfl rfl (by kernel_rfl) Tryz.func4 (by kernel_rfl)
  (of_decide_eq_true (by kernel_rfl)) (by unfold Func.isWrapper; rw [if_neg (of_decide_eq_false (by kernel_rfl))]; exact ⟨rfl,rfl⟩)
  (fun os started H enc _ => sysMessages_lifted os started H enc)
theorem sysMessages_card:Rows.SysMessagesCardSaid :=
 Claim7.holds_tied_plain_at .later [] [.sentinel, .sentinel, .sentinel, .sentinel, .sentinel, .sentinel, .sentinel, .sentinel, .sentinel] true (true, "7dac41888f8c97669d668be93d647f31f39e32e70352c550932d4bbb09e7a92d") true
  sysMessages_holds (fun _ h => by cases h) (by kernel_rfl) (fun _ h => by cases h) sysMessages_row_tie rfl ⟨rfl,rfl⟩ (by kernel_rfl) rfl
  (fun f fn hf hfn => by
   obtain rfl : f = 4 := Option.some.inj ((show Tryz.prog.funcNamed "ferry/ferrylaw12.SysMessages" = some 4 by kernel_rfl).symm.trans hf) |>.symm
   obtain rfl:fn = Tryz.f4:=(Option.some.inj (Tryz.func4.symm.trans hfn)).symm
   exact ⟨by kernel_rfl,fun j t ht => by
    rw [Tryz.params4] at ht
    have hm:t ∈ [54,3]:=by
     exact Array.mem_toList_iff.2 (Array.mem_of_getElem? ht)
    simp at hm
    exact (hm.elim (fun e => by subst e; exact (show Tryz.prog.wantsStandIn 54 = false by kernel_rfl)) (fun q => (by subst q; exact (show Tryz.prog.wantsStandIn 3 = false by kernel_rfl))))⟩)
  (by kernel_rfl)
#print axioms sysMessages_card
end Go.Proofs.YtekncgjkocgioaaGreatDoor

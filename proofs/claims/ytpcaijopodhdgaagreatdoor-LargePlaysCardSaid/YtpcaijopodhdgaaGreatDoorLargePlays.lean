/- LargePlays: publishers and readers, interleaved in any way, with blocks that are given back, go on step by step as P17.1 and P17.2 say. No condition. -/
import Derived.Test.YtpcaijopodhdgaaGreatDoorRtE
import Derived.Test.YtpcaijopodhdgaaGreatDoorCards
import Derived.Test.YtpcaijopodhdgaaGreatDoorTie
namespace Go.Proofs.YtpcaijopodhdgaaGreatDoor
open Go.Sx Go.ChangeShapes Go.WideShapes Go.ChangeAt Go.RowKit
theorem tri_of{cs:Array Value}(h:FitsAll [.int .i64,.int .i64,.int .i64] cs.toList): ∃x y z,cs = #[.int .i64 x,.int .i64 y,.int .i64 z]:=by
  obtain⟨l⟩:=cs
  have hl:=h.len
  match l,hl with
  | [_,_,_],_=>
    obtain⟨h0,h1,h2,_⟩:=h
    obtain⟨x,rfl,_⟩:=h0
    obtain⟨y,rfl,_⟩:=h1
    obtain⟨z,rfl,_⟩:=h2
    exact⟨x,y,z,rfl⟩
theorem lact_of(row:List Value)(h:FitsAll [.int .i64,.int .i64] row): ∃x:LAct,row=encLAct x∧True:=by
  have hl:=h.len
  match row,hl with
  | [_,_],_=>
    obtain⟨h0,h1,_⟩:=h
    obtain⟨a,rfl,_⟩:=h0
    obtain⟨b,rfl,_⟩:=h1
    exact⟨⟨a,b⟩,rfl,trivial⟩

set_option maxRecDepth 100000 in
theorem liftedLargePlays(os:Os)(started:os.Started)(H:Type)(enc:TypeId×Value→H):
    ReturnsInHanded {} Tryz.checked os 8 .any (fun w args=>(Rows.largePlaysSpec.pre enc Tryz.prog Tryz.f8 [] false w args∧laidMetH Tryz.prog [("errors.errorType",Rows.laid_errors_errorType)] w)∧sizedMet enc Tryz.prog Tryz.f8 (OpenSpec.ofChange Rows.largePlaysSpec) false w args) (Rows.largePlaysSpec.post enc Tryz.prog Tryz.f8 false true false false):=by
  refine returnsInHanded_of_change_and (C:=Tryz.checked) (X:=fun w _=>laidMetH Tryz.prog [("errors.errorType",Rows.laid_errors_errorType)] w) (fun _ _ _ hh h=>h.of_heap hh) Tryz.own started (by kernel_rfl) Tryz.func8
    (ChangeSpec.witness_at (enc:=enc) (C:=Tryz.checked) (os:=os) (X:=fun w _=>laidMetH Tryz.prog [("errors.errorType",Rows.laid_errors_errorType)] w) false (laidWorld os) #[.agg #[.int .i64 0,.int .i64 0,.int .i64 0],.slice none 0 0] 8 rfl (by kernel_rfl) (by kernel_rfl) (by kernel_rfl) (by kernel_rfl) (by kernel_rfl) (laidWorld_met os _)) ?_
  intro W base args ds gs before hval0 hW _ _ hL _
  obtain⟨o_,ho,hO⟩:=handle_of_laid hL
  have hval:∀(j:Nat) t v,Tryz.f8.params[j]? = some t→args[j]? = some v→Value.okWide Tryz.prog W .any base t v:=hval0
  have hW':=hW
  obtain⟨p,q,hA0,hV,rfl,hfz,hnd⟩:=hW
  have hA:DataW.TrodAll enc Tryz.prog W 0 (fun _=>true) true Tryz.f8.params.toList args.toList ds p:=hA0
  have hA2:=hA
  rw [Tryz.params8] at hA hval
  obtain⟨v0,v1,d0,d1,p0,p1,rfl,rfl,rfl,h0,h1⟩:=trodAll_two hA
  obtain⟨rfl,rfl⟩:=trodVars_none hV
  obtain⟨cs0,rfl,hcs0⟩:=open_flat 5 (ks:=[.int .i64,.int .i64,.int .i64]) (by kernel_rfl) (by kernel_rfl) (hval 0 22 v0 rfl rfl) h0
  obtain⟨q0,q1,q2,rfl⟩:=tri_of hcs0
  obtain⟨a1,c1,xs1,bt1,r1,foot1,rfl,hl1,hd1,hfit1,hne1,hpin1⟩:=open_rd2 sized_encLAct (d:=5) (d0:=dLAct) (sz:=2) (ks:=[.int .i64,.int .i64]) Tryz.underlying47 (by kernel_rfl) (by kernel_rfl) (by decide) lact_of (hval 1 47 v1 rfl rfl) h1
  clear hA0 hval0
  simp only [List.append_nil] at hW' hA2
  refine(law_calls (law_lplays o_ q0 q1 q2 a1 c1 xs1 bt1 r1 ho) (foot:=(0,o_) :: foot1) (dens_hr hd1) (foot_hr hO hfit1 (apart_h ho hO hd1 hfit1 hne1 (by decide))) (pin_hr hpin1)).mono fun e W' ⟨he,hb⟩ => ?_
  subst he
  exact⟨_,rfl,law_post hW' (fun _ _ _=>trodAll_mk1 (shut_bool Tryz.underlying4 _)) (fun sp hs=>stays_list Tryz.laidOutP hb (by kernel_rfl) hA2 (fun x hx=>hW'.lt x hx) hs) (fun _=>rfl) hb (ok_one (by kernel_rfl) rfl (okWide_bool_mk Tryz.underlying4 _))⟩
theorem LargePlays_row: Rows.LargePlaysSaid:=
  OpenClaim.holds_of_wide 8 Tryz.f8 rfl rfl rfl rfl rfl rfl rfl ⟨rfl,rfl,rfl,rfl,rfl⟩ rfl rfl rfl rfl rfl (by kernel_rfl) Tryz.func8 (by kernel_rfl)
    (of_decide_eq_true (by kernel_rfl)) (by unfold Func.isWrapper; first | (rw [if_pos (by decide +kernel)]; kernel_rfl) | (rw [if_neg (by decide +kernel)]; exact⟨rfl,rfl⟩))
    (fun os started H enc _=>liftedLargePlays os started H enc)
theorem LargePlays_holds: Rows.LargePlaysCardSaid:=
  Claim7.holds_tied_plain_at .later [] [.handle] true (true, "2ad09f47c0227872460db4db1deeda4920d901420758bec9e4ecd7fda6f56044") true
    LargePlays_row (fun _ h=>by cases h) (by kernel_rfl) (fun _ h=>by cases h) largePlays_row_tie rfl ⟨rfl,rfl⟩ (by kernel_rfl) rfl
    (fun f fn hf hfn=>by
      obtain rfl:f=8:=Option.some.inj ((show Tryz.prog.funcNamed "intaglio/intagliolaw17.LargePlays" = some 8 by kernel_rfl).symm.trans hf) |>.symm
      obtain rfl:fn=Tryz.f8:=(Option.some.inj (Tryz.func8.symm.trans hfn)).symm
      exact⟨by kernel_rfl,fun j t ht=>by
        rw [Tryz.params8] at ht
        have hm:t∈[22,47]:=by have h:=Array.mem_of_getElem? ht; simp only [List.mem_toArray,List.mem_cons,List.not_mem_nil,or_false] at h ⊢; first | omega | (rcases h with h | h <;> exact h) | (rcases h with h | h | h <;> subst h <;> simp) | (subst h; rfl)
        have hall:([22,47].all fun u => !Tryz.prog.wantsStandIn u)=true:=by kernel_rfl
        exact(show Tryz.prog.wantsStandIn t=false by simpa using List.all_eq_true.1 hall t hm)⟩)
    (by kernel_rfl)
#print axioms LargePlays_holds
end Go.Proofs.YtpcaijopodhdgaaGreatDoor

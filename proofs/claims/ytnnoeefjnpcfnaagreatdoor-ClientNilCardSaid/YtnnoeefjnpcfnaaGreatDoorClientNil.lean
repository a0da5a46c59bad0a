/- ClientNil: of no client nothing comes; of what may not be there is none: for every input, no condition. -/
import Derived.Test.YtnnoeefjnpcfnaaGreatDoorRtC
import Derived.Test.YtnnoeefjnpcfnaaGreatDoorRows
import Derived.Test.YtnnoeefjnpcfnaaGreatDoorCards
import Derived.Test.YtnnoeefjnpcfnaaGreatDoorTie
import Derived.ChangeSame
import Derived.ChangeVars
import Derived.JoinedOf
import Derived.RowKit
import Derived.RowKitTokens
import Derived.LaidLaws
import Derived.LaidHandle
import Derived.Stop.Joined
namespace Go.Proofs.YtnnoeefjnpcfnaaGreatDoor
open Go.Sx Go.ChangeShapes Go.WideShapes Go.ChangeAt Go.RowKit
theorem Tryz.own: ownKnob Tryz.prog.godebug=none:=by kernel_rfl
theorem Tryz.laidOutP: laidOutB Tryz.prog=true:=by kernel_rfl
noncomputable def laidWorld(os:Os): World:=
  let w0:=World.holding Tryz.prog os ⟨#[],#[],[]⟩
  {w0 with heap:=w0.heap.modify 0 fun
      | .cells _ t frozen=>.cells #[.iface 267 (.agg #[.pointer (some ⟨1,89,none⟩)])] t frozen
      | o=>o}
theorem laidWorld_met(os:Os)(args:Array Value): laidMetH Tryz.prog [("errors.errorType",Rows.laid_errors_errorType)] ((laidWorld os).forCall (fun _ _=>0) ⟨#[],args,[]⟩).memory:=
  laidMetH_of_parts (laidMet_nil _ _) (by kernel_rfl)
theorem Tryz.et: Tryz.prog.globalNamed "errors.errorType" = some 0:=by kernel_rfl
theorem Tryz.rt: (Tryz.prog.cutTypes.find? (·.1 == "internal/reflectlite.rtype")).map (·.2)=some 267:=by kernel_rfl
theorem Tryz.oneRow: ((List.range 416).filter fun t=>Tryz.prog.rowNamed t [101,114,114,111,114])=[89]:=by kernel_rfl
theorem Tryz.sizeT: Tryz.prog.types.size=416:=by kernel_rfl
theorem handle_of_laid{W:World}(h:laidMetH Tryz.prog [("errors.errorType",Rows.laid_errors_errorType)] W):HF (allF W):=by
  have h':laidMet Tryz.prog [] W∧handlesMet Tryz.prog [("errors.errorType",Rows.laid_errors_errorType)] W:=h
  obtain⟨name,u,ty,e1,e2,e3,e4,e5⟩:=h'.2 _ (List.mem_singleton.2 rfl)
  have en:name=[101,114,114,111,114]:=(Option.some.inj e1).symm
  subst en
  obtain rfl:=Option.some.inj (Tryz.rt.symm.trans e2)
  have hm:ty∈(List.range 416).filter fun t=>Tryz.prog.rowNamed t [101,114,114,111,114]:=List.mem_filter.2 ⟨List.mem_range.2 (by rw [←Tryz.sizeT]; exact e3),e4⟩
  rw [Tryz.oneRow] at hm
  obtain rfl:=List.mem_singleton.1 hm
  have hh:typeHandle Tryz.prog 89 = .pointer (some ⟨1,89,none⟩):=by kernel_rfl
  rw [hh] at e5
  simp only [World.var?,Tryz.et,Option.bind_some] at e5
  split at e5
  · rename_i cs t f hc
    have e6:=Option.some.inj e5
    rw [e6] at hc
    exact⟨t,f,mem_others.2 ⟨(Array.getElem?_eq_some_iff.1 hc).1,by simp,hc⟩⟩
  · cases e5
set_option maxRecDepth 100000 in
theorem liftedClientNil(os:Os)(started:os.Started)(H:Type)(enc:TypeId×Value→H):
    ReturnsInHanded {} Tryz.checked os 8 .any (fun w args=>(Rows.clientNilSpec.pre enc Tryz.prog Tryz.f8 [] false w args∧laidMetH Tryz.prog [("errors.errorType",Rows.laid_errors_errorType)] w)∧sizedMet enc Tryz.prog Tryz.f8 (OpenSpec.ofChange Rows.clientNilSpec) false w args) (Rows.clientNilSpec.post enc Tryz.prog Tryz.f8 false true false false):=by
  refine returnsInHanded_of_change_and (C:=Tryz.checked) (X:=fun w _=>laidMetH Tryz.prog [("errors.errorType",Rows.laid_errors_errorType)] w) (fun _ _ _ hh h=>h.of_heap hh) Tryz.own started (by kernel_rfl) Tryz.func8
    (ChangeSpec.witness_at (enc:=enc) (C:=Tryz.checked) (os:=os) (X:=fun w _=>laidMetH Tryz.prog [("errors.errorType",Rows.laid_errors_errorType)] w) false (laidWorld os) #[.int .i64 0,.int .i64 0] 8 rfl (by kernel_rfl) (by kernel_rfl) (by kernel_rfl) (by kernel_rfl) (by kernel_rfl) (laidWorld_met os _)) ?_
  intro W base args ds gs before hval0 hW _ _ hL _
  have hval:∀(j:Nat) t v,Tryz.f8.params[j]? = some t→args[j]? = some v→Value.okWide Tryz.prog W .any base t v:=hval0
  have hW':=hW
  obtain⟨p,q,hA0,hV,rfl,hfz,hnd⟩:=hW
  have hA:DataW.TrodAll enc Tryz.prog W 0 (fun _=>true) true Tryz.f8.params.toList args.toList ds p:=hA0
  have hA2:=hA
  rw [Tryz.params8] at hA hval
  obtain⟨v0,v1,d0,d1,p0,p1,rfl,rfl,rfl,h0,h1⟩:=trodAll_two hA
  obtain⟨rfl,rfl⟩:=trodVars_none hV
  obtain⟨x,rfl,rfl,rfl,w0⟩:=open_int Tryz.underlying3 (hval 0 3 v0 rfl rfl) h0
  obtain⟨y,rfl,rfl,rfl,w1⟩:=open_int Tryz.underlying3 (hval 1 3 v1 rfl rfl) h1
  clear hA0 hval0
  simp only [List.append_nil] at hW' hA2
  have hlaw:CtF Tryz.prog (allF W) 8 (⟨[.s (.i .i64 x),.s (.i .i64 y)],[],0,fun x=>x=true,fun x=>[.s (.bo x)],fun _=>[]⟩:Sp Bool):=by
    by_cases hy:0≤y∧y<3
    · exact law_a x y hy (allF W) (handle_of_laid hL)
    · exact law_b x y (by omega) (allF W) (handle_of_laid hL)
  refine(law_callsF (v:=.bool true) fun w hw=>(hlaw rf0 w hw).mono ?_).mono fun e W' ⟨he,hb⟩ => ?_
  · rintro e w' ⟨v,L',rfl,⟨x,ν,hx,rfl,rfl⟩,hin⟩
    have hx:x=true:=hx
    subst hx
    exact⟨rfl,_,hin⟩
  subst he
  exact⟨_,rfl,law_post hW' (fun _ _ _=>trodAll_mk1 (shut_bool Tryz.underlying4 _)) (fun sp hs=>stays_list Tryz.laidOutP hb (by kernel_rfl) hA2 (fun x hx=>hW'.lt x hx) hs) (fun _=>rfl) hb (ok_one (by kernel_rfl) rfl (okWide_bool_mk Tryz.underlying4 _))⟩
theorem and2{a b:Bool}(ha:a=true)(hb:b=true): (a&&b)=true:=by rw [ha,hb]; rfl
set_option maxRecDepth 100000 in
set_option maxHeartbeats 0 in
theorem closedNil: joinedFacts Tryz.prog 8 Tryz.f8 Rows.clientNilSpec Rows.clientNilRow=true:=by
  unfold joinedFacts
  repeat' with_reducible refine and2 ?_ ?_
  all_goals (as_aux_lemma=>kernel_rfl)
theorem ClientNil_row: Rows.ClientNilSaid:=
  OpenClaim.holds_of_wide 8 Tryz.f8 rfl rfl rfl rfl rfl rfl rfl ⟨rfl,rfl,rfl,rfl,rfl⟩ rfl rfl rfl rfl rfl (by as_aux_lemma=>kernel_rfl) Tryz.func8 closedNil
    (of_decide_eq_true (by as_aux_lemma=>kernel_rfl)) (by unfold Func.isWrapper; first | (rw [if_pos (by decide +kernel)]; kernel_rfl) | (rw [if_neg (by decide +kernel)]; exact⟨rfl,rfl⟩))
    (fun os started H enc _=>liftedClientNil os started H enc)
theorem ClientNil_holds: Rows.ClientNilCardSaid:=
  Claim7.holds_tied_plain_at .later [] [.handle] true (true, "d979a83d6dd5d2faa8ca2e2275cc46e12689529f224f72f46d93a660fdeaae28") true
    ClientNil_row (fun _ h=>by cases h) (by as_aux_lemma=>kernel_rfl) (fun _ h=>by cases h) clientNil_row_tie rfl ⟨rfl,rfl⟩ (by as_aux_lemma=>kernel_rfl) rfl
    (fun f fn hf hfn=>by
      obtain rfl:f=8:=Option.some.inj ((show Tryz.prog.funcNamed "intaglio/intagliolaw21.ClientNil" = some 8 by kernel_rfl).symm.trans hf) |>.symm
      obtain rfl:fn=Tryz.f8:=(Option.some.inj (Tryz.func8.symm.trans hfn)).symm
      exact⟨by as_aux_lemma=>kernel_rfl,fun j t ht=>by
        rw [Tryz.params8] at ht
        have hm:t∈[3]:=by have h:=Array.mem_of_getElem? ht; simp only [List.mem_toArray,List.mem_cons,List.not_mem_nil,or_false] at h ⊢; simpa using h
        have hall:([3].all fun u => !Tryz.prog.wantsStandIn u)=true:=by kernel_rfl
        exact(show Tryz.prog.wantsStandIn t=false by simpa using List.all_eq_true.1 hall t hm)⟩)
    (by as_aux_lemma=>kernel_rfl)
#print axioms ClientNil_holds
end Go.Proofs.YtnnoeefjnpcfnaaGreatDoor

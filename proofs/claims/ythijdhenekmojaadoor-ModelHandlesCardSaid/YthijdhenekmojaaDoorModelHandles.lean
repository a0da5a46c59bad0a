/- what a handle tells is of the message that was there when it was pinned, whatever is published, or removed, behind it; of a handle that there is not anything may be told: for every input, no condition -/
import Derived.Test.YthijdhenekmojaaDoorRtA
import Derived.Test.YthijdhenekmojaaDoorRows
import Derived.Test.YthijdhenekmojaaDoorCards
import Derived.Test.YthijdhenekmojaaDoorTie
import Derived.ChangeSame
import Derived.ChangeVars
import Derived.JoinedOf
import Derived.RowKit
import Derived.RowKitTokens
import Derived.LaidLaws
import Derived.LaidHandle
import Derived.Stop.Joined
namespace Go.Proofs.YthijdhenekmojaaDoor
open Go.Sx Go.ChangeShapes Go.WideShapes Go.ChangeAt Go.RowKit
theorem Tryd.own: ownKnob Tryd.prog.godebug=none:=by kernel_rfl
theorem Tryd.laidOutP: laidOutB Tryd.prog=true:=by kernel_rfl
noncomputable def laidWorld(os:Os): World:=
  let w0:=World.holding Tryd.prog os ⟨#[],#[],[]⟩
  {w0 with heap:=w0.heap.modify 0 fun
      | .cells _ t frozen=>.cells #[.iface 131 (.agg #[.pointer (some ⟨1,47,none⟩)])] t frozen
      | o=>o}
theorem laidWorld_met(os:Os)(args:Array Value): laidMetH Tryd.prog [("errors.errorType",Rows.laid_errors_errorType)] ((laidWorld os).forCall (fun _ _=>0) ⟨#[],args,[]⟩).memory:=
  laidMetH_of_parts (laidMet_nil _ _) (by kernel_rfl)
theorem Tryd.et: Tryd.prog.globalNamed "errors.errorType" = some 0:=by kernel_rfl
theorem Tryd.rt: (Tryd.prog.cutTypes.find? (·.1 == "internal/reflectlite.rtype")).map (·.2)=some 131:=by kernel_rfl
theorem Tryd.oneRow: ((List.range 190).filter fun t=>Tryd.prog.rowNamed t [101,114,114,111,114])=[47]:=by kernel_rfl
theorem Tryd.sizeT: Tryd.prog.types.size=190:=by kernel_rfl
theorem handle_of_laid{W:World}(h:laidMetH Tryd.prog [("errors.errorType",Rows.laid_errors_errorType)] W):HF (allF W):=by
  have h':laidMet Tryd.prog [] W∧handlesMet Tryd.prog [("errors.errorType",Rows.laid_errors_errorType)] W:=h
  obtain⟨name,u,ty,e1,e2,e3,e4,e5⟩:=h'.2 _ (List.mem_singleton.2 rfl)
  have en:name=[101,114,114,111,114]:=(Option.some.inj e1).symm
  subst en
  obtain rfl:=Option.some.inj (Tryd.rt.symm.trans e2)
  have hm:ty∈(List.range 190).filter fun t=>Tryd.prog.rowNamed t [101,114,114,111,114]:=List.mem_filter.2 ⟨List.mem_range.2 (by rw [←Tryd.sizeT]; exact e3),e4⟩
  rw [Tryd.oneRow] at hm
  obtain rfl:=List.mem_singleton.1 hm
  have hh:typeHandle Tryd.prog 47 = .pointer (some ⟨1,47,none⟩):=by kernel_rfl
  rw [hh] at e5
  simp only [World.var?,Tryd.et,Option.bind_some] at e5
  split at e5
  · rename_i cs t f hc
    have e6:=Option.some.inj e5
    rw [e6] at hc
    exact⟨t,f,mem_others.2 ⟨(Array.getElem?_eq_some_iff.1 hc).1,by simp,hc⟩⟩
  · cases e5
theorem rng_u{n:Int}(h:(Lit.int .u64 n).wf=true): 0≤n∧n≤18446744073709551615:=by
  simp [Lit.wf,IntKind.min,IntKind.max,IntKind.signed,IntKind.bits] at h
  omega
theorem rng_i{n:Int}(h:(Lit.int .i64 n).wf=true): InK .i64 n:=by
  simp [Lit.wf,IntKind.min,IntKind.max,IntKind.signed,IntKind.bits] at h
  simp only [InK]
  omega
set_option maxRecDepth 100000 in
theorem liftedModelHandles(os:Os)(started:os.Started)(H:Type)(enc:TypeId×Value→H):
    ReturnsInHanded {} Tryd.checked os 3 .any (fun w args=>(Rows.modelHandlesSpec.pre enc Tryd.prog Tryd.f3 [] false w args∧laidMetH Tryd.prog [("errors.errorType",Rows.laid_errors_errorType)] w)∧sizedMet enc Tryd.prog Tryd.f3 (OpenSpec.ofChange Rows.modelHandlesSpec) false w args) (Rows.modelHandlesSpec.post enc Tryd.prog Tryd.f3 false true false false):=by
  refine returnsInHanded_of_change_and (C:=Tryd.checked) (X:=fun w _=>laidMetH Tryd.prog [("errors.errorType",Rows.laid_errors_errorType)] w) (fun _ _ _ hh h=>h.of_heap hh) Tryd.own started (by kernel_rfl) Tryd.func3
    (ChangeSpec.witness_at (enc:=enc) (C:=Tryd.checked) (os:=os) (X:=fun w _=>laidMetH Tryd.prog [("errors.errorType",Rows.laid_errors_errorType)] w) false (laidWorld os) #[.int .u64 0,.int .u64 0,.int .i64 0] 8 rfl (by kernel_rfl) (by kernel_rfl) (by kernel_rfl) (by kernel_rfl) (by kernel_rfl) (laidWorld_met os _)) ?_
  intro W base args ds gs before hval0 hW _ _ hL _
  have hval:∀(j:Nat) t v,Tryd.f3.params[j]? = some t→args[j]? = some v→Value.okWide Tryd.prog W .any base t v:=hval0
  have hW':=hW
  obtain⟨p,q,hA0,hV,rfl,hfz,hnd⟩:=hW
  have hA:DataW.TrodAll enc Tryd.prog W 0 (fun _=>true) true Tryd.f3.params.toList args.toList ds p:=hA0
  have hA2:=hA
  rw [Tryd.params3] at hA hval
  obtain⟨v0,v1,v2,d0,d1,d2,p0,p1,p2,rfl,rfl,rfl,h0,h1,h2⟩:=trodAll_three hA
  obtain⟨rfl,rfl⟩:=trodVars_none hV
  obtain⟨x,rfl,rfl,rfl,w0⟩:=open_int Tryd.underlying22 (hval 0 22 v0 rfl rfl) h0
  obtain⟨y,rfl,rfl,rfl,w1⟩:=open_int Tryd.underlying22 (hval 1 22 v1 rfl rfl) h1
  obtain⟨who,rfl,rfl,rfl,w2⟩:=open_int Tryd.underlying3 (hval 2 3 v2 rfl rfl) h2
  clear hA0 hval0
  simp only [List.append_nil] at hW' hA2
  refine(law_callsF (v:=.bool true) fun w hw=>(t_handles x y who (rng_u w0) (rng_u w1) (rng_i w2) (allF W) (handle_of_laid hL) rf0 w hw).mono ?_).mono fun e W' ⟨he,hb⟩ => ?_
  · rintro e w' ⟨v,L',rfl,⟨x,ν,hx,rfl,rfl⟩,hin⟩
    have hx:x=true:=hx
    subst hx
    exact⟨rfl,_,hin⟩
  subst he
  exact⟨_,rfl,law_post hW' (fun _ _ _=>trodAll_mk1 (shut_bool Tryd.underlying4 _)) (fun sp hs=>stays_list Tryd.laidOutP hb (by kernel_rfl) hA2 (fun x hx=>hW'.lt x hx) hs) (fun _=>rfl) hb (ok_one (by kernel_rfl) rfl (okWide_bool_mk Tryd.underlying4 _))⟩
theorem ModelHandles_row: Rows.ModelHandlesSaid:=
  OpenClaim.holds_of_wide 3 Tryd.f3 rfl rfl rfl rfl rfl rfl rfl ⟨rfl,rfl,rfl,rfl,rfl⟩ rfl rfl rfl rfl rfl (by kernel_rfl) Tryd.func3 (by kernel_rfl)
    (of_decide_eq_true (by kernel_rfl)) (by unfold Func.isWrapper; first | (rw [if_pos (by decide +kernel)]; kernel_rfl) | (rw [if_neg (by decide +kernel)]; exact⟨rfl,rfl⟩))
    (fun os started H enc _=>liftedModelHandles os started H enc)
theorem ModelHandles_holds: Rows.ModelHandlesCardSaid:=
  Claim7.holds_tied_plain_at .later [] [.handle] true (true, "fa3f5592a8a62ca7e378ea3031aa58c53774075dbd483e81ec0714d21c008938") true
    ModelHandles_row (fun _ h=>by cases h) (by kernel_rfl) (fun _ h=>by cases h) modelHandles_row_tie rfl ⟨rfl,rfl⟩ (by kernel_rfl) rfl
    (fun f fn hf hfn=>by
      obtain rfl:f=3:=Option.some.inj ((show Tryd.prog.funcNamed "intaglio/intagliolaw22.ModelHandles" = some 3 by kernel_rfl).symm.trans hf) |>.symm
      obtain rfl:fn=Tryd.f3:=(Option.some.inj (Tryd.func3.symm.trans hfn)).symm
      exact⟨by kernel_rfl,fun j t ht=>by
        rw [Tryd.params3] at ht
        have hm:t∈[22,3]:=by have h:=Array.mem_of_getElem? ht; simp only [List.mem_toArray,List.mem_cons,List.not_mem_nil,or_false] at h ⊢; first | omega | (rcases h with h | h | h <;> subst h <;> simp)
        have hall:([22,3].all fun u => !Tryd.prog.wantsStandIn u)=true:=by kernel_rfl
        exact(show Tryd.prog.wantsStandIn t=false by simpa using List.all_eq_true.1 hall t hm)⟩)
    (by kernel_rfl)
#print axioms ModelHandles_holds
end Go.Proofs.YthijdhenekmojaaDoor

/- ModelOne: one after the other, all is right: a row of ops that a model itself tells right is linear, and with one that is told to be there, and is not, it is not: for every input, no condition. -/
import Derived.Test.YthijdhenekmojaaGreatDoorRtA
import Derived.Test.YthijdhenekmojaaGreatDoorRows
import Derived.Test.YthijdhenekmojaaGreatDoorCards
import Derived.Test.YthijdhenekmojaaGreatDoorTie
import Derived.ChangeSame
import Derived.ChangeVars
import Derived.JoinedOf
import Derived.RowKit
import Derived.RowKitTokens
import Derived.LaidLaws
import Derived.LaidHandle
import Derived.Stop.Joined
namespace Go.Proofs.YthijdhenekmojaaGreatDoor
open Go.Sx Go.ChangeShapes Go.WideShapes Go.ChangeAt Go.RowKit
theorem Tryz.own: ownKnob Tryz.prog.godebug=none:=by kernel_rfl
theorem Tryz.laidOutP: laidOutB Tryz.prog=true:=by kernel_rfl
noncomputable def laidWorld(os:Os): World:=
  let w0:=World.holding Tryz.prog os ⟨#[],#[],[]⟩
  {w0 with heap:=w0.heap.modify 0 fun
      | .cells _ t frozen=>.cells #[.iface 184 (.agg #[.pointer (some ⟨1,75,none⟩)])] t frozen
      | o=>o}
theorem laidWorld_met(os:Os)(args:Array Value): laidMetH Tryz.prog [("errors.errorType",Rows.laid_errors_errorType)] ((laidWorld os).forCall (fun _ _=>0) ⟨#[],args,[]⟩).memory:=
  laidMetH_of_parts (laidMet_nil _ _) (by kernel_rfl)
section
variable {H:Type} {enc:TypeId×Value→H} {w:World} {base:Nat} {held:Bool}
set_option maxRecDepth 100000 in
theorem cell_row{f:Nat}{c:Value}{x:DataW H×List MemPlace}(h:DataW.trod enc Tryz.prog w base (fun _=>true) held f 38 [c]=some x): ∃(a:Option Addr) (cp:Nat) (xs:List Int),c = .slice a xs.length cp∧xs.length≤maxLen∧RowW w a .i64 xs:=
  open_rowW Tryz.underlying38 (by kernel_rfl) (by kernel_rfl) h
theorem cells_row{P:Program}{t e:TypeId}(ht:P.underlying t=some (.slice e)){v:Value}{b0:Nat}(hv:Value.okWide P w .any b0 t v): v.cells.toList=[v]:=by
  unfold Value.okWide at hv
  rw [ht] at hv
  cases v with
  | agg cs=>
    exfalso
    simp only at hv
    simp [Cell.okWide,Cell.ok,ht] at hv
  | _=>rfl
end
set_option maxRecDepth 100000 in
theorem liftedModelOne(os:Os)(started:os.Started)(H:Type)(enc:TypeId×Value→H):
    ReturnsInHanded {} Tryz.checked os 6 .any (fun w args=>(Rows.modelOneSpec.pre enc Tryz.prog Tryz.f6 [] false w args∧laidMetH Tryz.prog [("errors.errorType",Rows.laid_errors_errorType)] w)∧sizedMet enc Tryz.prog Tryz.f6 (OpenSpec.ofChange Rows.modelOneSpec) false w args) (Rows.modelOneSpec.post enc Tryz.prog Tryz.f6 false true false false):=by
  refine returnsInHanded_of_change_and (C:=Tryz.checked) (X:=fun w _=>laidMetH Tryz.prog [("errors.errorType",Rows.laid_errors_errorType)] w) (fun _ _ _ hh h=>h.of_heap hh) Tryz.own started (by kernel_rfl) Tryz.func6
    (ChangeSpec.witness_at (enc:=enc) (C:=Tryz.checked) (os:=os) (X:=fun w _=>laidMetH Tryz.prog [("errors.errorType",Rows.laid_errors_errorType)] w) false (laidWorld os) #[.int .i64 0,.slice none 0 0] 8 rfl (by kernel_rfl) (by kernel_rfl) (by kernel_rfl) (by kernel_rfl) (by kernel_rfl) (laidWorld_met os _)) ?_
  intro W base args ds gs before hval0 hW _ _ hL _
  have hval:∀(j:Nat) t v,Tryz.f6.params[j]? = some t→args[j]? = some v→Value.okWide Tryz.prog W .any base t v:=hval0
  have hW':=hW
  obtain⟨p,q,hA0,hV,rfl,hfz,hnd⟩:=hW
  have hA:DataW.TrodAll enc Tryz.prog W 0 (fun _=>true) true Tryz.f6.params.toList args.toList ds p:=hA0
  have hA2:=hA
  rw [Tryz.params6] at hA hval
  obtain⟨v0,v1,d0,d1,p0,p1,rfl,rfl,rfl,h0,h1⟩:=trodAll_two hA
  obtain⟨rfl,rfl⟩:=trodVars_none hV
  obtain⟨n,rfl,rfl,rfl,w0⟩:=open_int Tryz.underlying3 (hval 0 3 v0 rfl rfl) h0
  obtain⟨f1,h1⟩:=h1
  rw [cells_row Tryz.underlying38 (hval 1 38 v1 rfl rfl)] at h1
  obtain⟨a0,c0,ks,rfl,hq,hs⟩:=cell_row h1
  clear hA0 hval0
  simp only [List.append_nil] at hW' hA2
  refine(law_callsF (v:=.bool true) fun w hw=>(t_one n ks a0 c0 hq (allF W) hs.frame rf0 w hw).mono ?_).mono fun e W' ⟨he,hb⟩ => ?_
  · rintro e w' ⟨v,L',rfl,⟨x,ν,hx,rfl,rfl⟩,hin⟩
    have hx:x=true:=hx
    subst hx
    exact⟨rfl,_,hin⟩
  subst he
  exact⟨_,rfl,law_post hW' (fun _ _ _=>trodAll_mk1 (shut_bool Tryz.underlying4 _)) (fun sp hs=>stays_list Tryz.laidOutP hb (by kernel_rfl) hA2 (fun x hx=>hW'.lt x hx) hs) (fun _=>rfl) hb (ok_one (by kernel_rfl) rfl (okWide_bool_mk Tryz.underlying4 _))⟩
theorem ModelOne_row: Rows.ModelOneSaid:=
  OpenClaim.holds_of_wide 6 Tryz.f6 rfl rfl rfl rfl rfl rfl rfl ⟨rfl,rfl,rfl,rfl,rfl⟩ rfl rfl rfl rfl rfl (by kernel_rfl) Tryz.func6 (by kernel_rfl)
    (of_decide_eq_true (by kernel_rfl)) (by unfold Func.isWrapper; first | (rw [if_pos (by decide +kernel)]; kernel_rfl) | (rw [if_neg (by decide +kernel)]; exact⟨rfl,rfl⟩))
    (fun os started H enc _=>liftedModelOne os started H enc)
theorem ModelOne_holds: Rows.ModelOneCardSaid:=
  Claim7.holds_tied_plain_at .later [] [.handle] true (true, "8d347664f1f96eb7c02f65409699b57d6190431c9c45f6d4d149e3e95ba42267") true
    ModelOne_row (fun _ h=>by cases h) (by kernel_rfl) (fun _ h=>by cases h) modelOne_row_tie rfl ⟨rfl,rfl⟩ (by kernel_rfl) rfl
    (fun f fn hf hfn=>by
      obtain rfl:f=6:=Option.some.inj ((show Tryz.prog.funcNamed "intaglio/intagliolaw22.ModelOne" = some 6 by kernel_rfl).symm.trans hf) |>.symm
      obtain rfl:fn=Tryz.f6:=(Option.some.inj (Tryz.func6.symm.trans hfn)).symm
      exact⟨by kernel_rfl,fun j t ht=>by
        rw [Tryz.params6] at ht
        have hm:t∈[3,38]:=by have h:=Array.mem_of_getElem? ht; simp only [List.mem_toArray,List.mem_cons,List.not_mem_nil,or_false] at h ⊢; first | omega | (rcases h with h | h <;> subst h <;> simp)
        have hall:([3,38].all fun u => !Tryz.prog.wantsStandIn u)=true:=by kernel_rfl
        exact(show Tryz.prog.wantsStandIn t=false by simpa using List.all_eq_true.1 hall t hm)⟩)
    (by kernel_rfl)
#print axioms ModelOne_holds
end Go.Proofs.YthijdhenekmojaaGreatDoor

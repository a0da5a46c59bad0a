/- ModelNil: of no model nothing comes; of what is not right there is none: for every input, no condition. -/
import Derived.Test.YthijdhenekmojaaGreatDoorRtA
import Derived.Test.YthijdhenekmojaaGreatDoorRows
import Derived.Test.YthijdhenekmojaaGreatDoorCards
import Derived.Test.YthijdhenekmojaaGreatDoorTie
import Derived.ChangeSame
import Derived.ChangeVars
import Derived.JoinedOf
import Derived.RowKit
import Derived.RowKitTokens
import Derived.LaidLaws
import Derived.LaidHandle
import Derived.Stop.Joined
namespace Go.Proofs.YthijdhenekmojaaGreatDoor
open Go.Sx Go.ChangeShapes Go.WideShapes Go.ChangeAt Go.RowKit
theorem Tryz.own: ownKnob Tryz.prog.godebug=none:=by kernel_rfl
theorem Tryz.laidOutP: laidOutB Tryz.prog=true:=by kernel_rfl
noncomputable def laidWorld(os:Os): World:=
  let w0:=World.holding Tryz.prog os ⟨#[],#[],[]⟩
  {w0 with heap:=w0.heap.modify 0 fun
      | .cells _ t frozen=>.cells #[.iface 184 (.agg #[.pointer (some ⟨1,75,none⟩)])] t frozen
      | o=>o}
theorem laidWorld_met(os:Os)(args:Array Value): laidMetH Tryz.prog [("errors.errorType",Rows.laid_errors_errorType)] ((laidWorld os).forCall (fun _ _=>0) ⟨#[],args,[]⟩).memory:=
  laidMetH_of_parts (laidMet_nil _ _) (by kernel_rfl)
section
variable {H:Type} {enc:TypeId×Value→H} {w:World} {base:Nat} {held:Bool}
theorem cell_int{f:Nat}{c:Value}{x:DataW H×List MemPlace}(h:DataW.trod enc Tryz.prog w base (fun _=>true) held f 3 [c]=some x): ∃n,c = .int .i64 n:=by
  obtain⟨n,hn,_⟩:=DataW.trod_int Tryz.underlying3 h
  simp only [List.cons.injEq,and_true] at hn
  exact⟨n,hn⟩
theorem cell_bool{f:Nat}{c:Value}{x:DataW H×List MemPlace}(h:DataW.trod enc Tryz.prog w base (fun _=>true) held f 4 [c]=some x): ∃b,c = .bool b:=by
  obtain⟨n,hn,_⟩:=DataW.trod_bool Tryz.underlying4 h
  simp only [List.cons.injEq,and_true] at hn
  exact⟨n,hn⟩
set_option maxRecDepth 100000 in
theorem cell_row{f:Nat}{c:Value}{x:DataW H×List MemPlace}(h:DataW.trod enc Tryz.prog w base (fun _=>true) held f 38 [c]=some x): ∃(a:Option Addr) (cp:Nat) (xs:List Int),c = .slice a xs.length cp∧xs.length≤maxLen∧RowW w a .i64 xs:=
  open_rowW Tryz.underlying38 (by kernel_rfl) (by kernel_rfl) h
set_option maxRecDepth 100000 in
/-- such an argument -/
theorem open_op{v:Value}{y:DataW H}{ps:List MemPlace}{b0:Nat}(hv:Value.okWide Tryz.prog w .any b0 48 v)(h:DataW.Trod enc Tryz.prog w base (fun _=>true) held 48 v y ps):
    ∃(ki ke co n cl cm bf af:Int) (ws ks:List Int) (a0 a1:Option Addr) (c0 c1:Nat) (la ty fa fi:Bool),v = .agg #[.int .i64 ki,.int .i64 ke,.int .i64 co,.int .i64 n,.int .i64 cl,.int .i64 cm,.int .i64 bf,.int .i64 af,.slice a0 ws.length c0,.slice a1 ks.length c1,.bool la,.bool ty,.bool fa,.bool fi]∧
      (ws.length≤maxLen∧ks.length≤maxLen)∧RowW w a0 .i64 ws∧RowW w a1 .i64 ks:=by
  have hcs:∃cs,v = .agg cs:=by
    unfold Value.okWide at hv
    rw [Tryz.underlying48] at hv
    obtain⟨cs,h1,_⟩:=hv
    exact⟨cs,h1⟩
  obtain⟨cs,rfl⟩:=hcs
  obtain⟨fuel,hx⟩:=h
  obtain⟨xs,n,_,_,hlen,hxl,hf⟩:=DataW.trod_struct Tryz.underlying48 hx
  obtain⟨l⟩:=cs
  have hl:l.length=14:=hlen
  match l,hl with
  | [v0,v1,v2,v3,v4,v5,v6,v7,v8,v9,v10,v11,v12,v13],_=>
    have hx:∀i,i<14→∃x,xs[i]? = some x:=fun i hi=>⟨xs[i]'(by rw [hxl]; exact hi),List.getElem?_eq_getElem _⟩
    obtain⟨_,e0⟩:=hx 0 (by decide)
    obtain⟨_,e1⟩:=hx 1 (by decide)
    obtain⟨_,e2⟩:=hx 2 (by decide)
    obtain⟨_,e3⟩:=hx 3 (by decide)
    obtain⟨_,e4⟩:=hx 4 (by decide)
    obtain⟨_,e5⟩:=hx 5 (by decide)
    obtain⟨_,e6⟩:=hx 6 (by decide)
    obtain⟨_,e7⟩:=hx 7 (by decide)
    obtain⟨_,e8⟩:=hx 8 (by decide)
    obtain⟨_,e9⟩:=hx 9 (by decide)
    obtain⟨_,e10⟩:=hx 10 (by decide)
    obtain⟨_,e11⟩:=hx 11 (by decide)
    obtain⟨_,e12⟩:=hx 12 (by decide)
    obtain⟨_,e13⟩:=hx 13 (by decide)
    obtain⟨_,rfl⟩:=cell_int ((hf 0 _ rfl).trans e0)
    obtain⟨_,rfl⟩:=cell_int ((hf 1 _ rfl).trans e1)
    obtain⟨_,rfl⟩:=cell_int ((hf 2 _ rfl).trans e2)
    obtain⟨_,rfl⟩:=cell_int ((hf 3 _ rfl).trans e3)
    obtain⟨_,rfl⟩:=cell_int ((hf 4 _ rfl).trans e4)
    obtain⟨_,rfl⟩:=cell_int ((hf 5 _ rfl).trans e5)
    obtain⟨_,rfl⟩:=cell_int ((hf 6 _ rfl).trans e6)
    obtain⟨_,rfl⟩:=cell_int ((hf 7 _ rfl).trans e7)
    obtain⟨a0,c0,ws,rfl,hw,hr0⟩:=cell_row ((hf 8 _ rfl).trans e8)
    obtain⟨a1,c1,ks,rfl,hk,hr1⟩:=cell_row ((hf 9 _ rfl).trans e9)
    obtain⟨_,rfl⟩:=cell_bool ((hf 10 _ rfl).trans e10)
    obtain⟨_,rfl⟩:=cell_bool ((hf 11 _ rfl).trans e11)
    obtain⟨_,rfl⟩:=cell_bool ((hf 12 _ rfl).trans e12)
    obtain⟨_,rfl⟩:=cell_bool ((hf 13 _ rfl).trans e13)
    exact⟨_,_,_,_,_,_,_,_,ws,ks,a0,a1,c0,c1,_,_,_,_,rfl,⟨hw,hk⟩,hr0,hr1⟩
end
set_option maxRecDepth 100000 in
theorem liftedModelNil(os:Os)(started:os.Started)(H:Type)(enc:TypeId×Value→H):
    ReturnsInHanded {} Tryz.checked os 5 .any (fun w args=>(Rows.modelNilSpec.pre enc Tryz.prog Tryz.f5 [] false w args∧laidMetH Tryz.prog [("errors.errorType",Rows.laid_errors_errorType)] w)∧sizedMet enc Tryz.prog Tryz.f5 (OpenSpec.ofChange Rows.modelNilSpec) false w args) (Rows.modelNilSpec.post enc Tryz.prog Tryz.f5 false true false false):=by
  refine returnsInHanded_of_change_and (C:=Tryz.checked) (X:=fun w _=>laidMetH Tryz.prog [("errors.errorType",Rows.laid_errors_errorType)] w) (fun _ _ _ hh h=>h.of_heap hh) Tryz.own started (by kernel_rfl) Tryz.func5
    (ChangeSpec.witness_at (enc:=enc) (C:=Tryz.checked) (os:=os) (X:=fun w _=>laidMetH Tryz.prog [("errors.errorType",Rows.laid_errors_errorType)] w) false (laidWorld os) #[.agg #[.int .i64 0,.int .i64 0,.int .i64 0,.int .i64 0,.int .i64 0,.int .i64 0,.int .i64 0,.int .i64 0,.slice none 0 0,.slice none 0 0,.bool false,.bool false,.bool false,.bool false]] 8 rfl (by kernel_rfl) (by kernel_rfl) (by kernel_rfl) (by kernel_rfl) (by kernel_rfl) (laidWorld_met os _)) ?_
  intro W base args ds gs before hval0 hW _ _ hL _
  have hval:∀(j:Nat) t v,Tryz.f5.params[j]? = some t→args[j]? = some v→Value.okWide Tryz.prog W .any base t v:=hval0
  have hW':=hW
  obtain⟨p,q,hA0,hV,rfl,hfz,hnd⟩:=hW
  have hA:DataW.TrodAll enc Tryz.prog W 0 (fun _=>true) true Tryz.f5.params.toList args.toList ds p:=hA0
  have hA2:=hA
  rw [Tryz.params5] at hA hval
  obtain⟨v0,d0,rfl,rfl,h0⟩:=trodAll_one hA
  obtain⟨rfl,rfl⟩:=trodVars_none hV
  obtain⟨ki,ke,co,n,cl,cm,bf,af,ws,ks,a0,a1,c0,c1,la,ty,fa,fi,rfl,hl,hr0,hr1⟩:=open_op (hval 0 48 v0 rfl rfl) h0
  clear hA0 hval0
  simp only [List.append_nil] at hW' hA2
  refine(law_callsF (v:=.bool true) fun w hw=>(t_law ki ke co n cl cm bf af ws ks a0 a1 c0 c1 la ty fa fi hl.1 hl.2 (allF W) hr0.frame hr1.frame rf0 w hw).mono ?_).mono fun e W' ⟨he,hb⟩ => ?_
  · rintro e w' ⟨v,L',rfl,⟨x,ν,hx,rfl,rfl⟩,hin⟩
    have hx:x=true:=hx
    subst hx
    exact⟨rfl,_,hin⟩
  subst he
  exact⟨_,rfl,law_post hW' (fun _ _ _=>trodAll_mk1 (shut_bool Tryz.underlying4 _)) (fun sp hs=>stays_list Tryz.laidOutP hb (by kernel_rfl) hA2 (fun x hx=>hW'.lt x hx) hs) (fun _=>rfl) hb (ok_one (by kernel_rfl) rfl (okWide_bool_mk Tryz.underlying4 _))⟩
theorem ModelNil_row: Rows.ModelNilSaid:=
  OpenClaim.holds_of_wide 5 Tryz.f5 rfl rfl rfl rfl rfl rfl rfl ⟨rfl,rfl,rfl,rfl,rfl⟩ rfl rfl rfl rfl rfl (by kernel_rfl) Tryz.func5 (by kernel_rfl)
    (of_decide_eq_true (by kernel_rfl)) (by unfold Func.isWrapper; first | (rw [if_pos (by decide +kernel)]; kernel_rfl) | (rw [if_neg (by decide +kernel)]; exact⟨rfl,rfl⟩))
    (fun os started H enc _=>liftedModelNil os started H enc)
theorem ModelNil_holds: Rows.ModelNilCardSaid:=
  Claim7.holds_tied_plain_at .later [] [.handle] true (true, "8d347664f1f96eb7c02f65409699b57d6190431c9c45f6d4d149e3e95ba42267") true
    ModelNil_row (fun _ h=>by cases h) (by kernel_rfl) (fun _ h=>by cases h) modelNil_row_tie rfl ⟨rfl,rfl⟩ (by kernel_rfl) rfl
    (fun f fn hf hfn=>by
      obtain rfl:f=5:=Option.some.inj ((show Tryz.prog.funcNamed "intaglio/intagliolaw22.ModelNil" = some 5 by kernel_rfl).symm.trans hf) |>.symm
      obtain rfl:fn=Tryz.f5:=(Option.some.inj (Tryz.func5.symm.trans hfn)).symm
      exact⟨by kernel_rfl,fun j t ht=>by
        rw [Tryz.params5] at ht
        have hm:t∈[48]:=by have h:=Array.mem_of_getElem? ht; simp only [List.mem_toArray,List.mem_cons,List.not_mem_nil,or_false] at h ⊢; first | omega | (subst h; rfl)
        have hall:([48].all fun u => !Tryz.prog.wantsStandIn u)=true:=by kernel_rfl
        exact(show Tryz.prog.wantsStandIn t=false by simpa using List.all_eq_true.1 hall t hm)⟩)
    (by kernel_rfl)
#print axioms ModelNil_holds
end Go.Proofs.YthijdhenekmojaaGreatDoor

/- Walks: what functions of the program and of the document compute, part 2 of those on which LargePlays rests. -/
import Derived.Test.YtpcaijopodhdgaaGreatDoorRtA
import Derived.Test.YtpcaijopodhdgaaGreatDoorRows
import Derived.ChangeSame
import Derived.ChangeVars
import Derived.JoinedOf
import Derived.RowKit
import Derived.RowKitTokens
import Derived.LaidLaws
import Derived.LaidHandle
import Derived.Stop.Joined

set_option linter.unusedVariables false
set_option linter.unusedSimpArgs false
namespace Go.Proofs.YtpcaijopodhdgaaGreatDoor
open Go.Proofs.Tryz
open Go.Sx
abbrev Eu(x0:Nat)(x1:Int)(x2:Int)(x3:Int)(x4:Bool)(x5:Bool): Ent:=.pts x0 [.int .i64 x1,.int .i64 x2,.int .i64 x3,.bool x4,.bool x5] 78
abbrev qt: List Nat:=[0,1,0,0,1,1,0,0,1,0,1,1,1,1]
abbrev qas: List Nat:=[1,1,0,0,1,1,0,0,1,0,1,1,1,1]
abbrev qat: List Nat:=[1,1,1,0,0,1,0,1,1,1,1]
abbrev qau: List Nat:=[0,1,0,1,1,1,1]
def errV(k:Int): Value:=if k=0 then .nilIface else .iface 42 (.int .i64 k)
theorem errV_ne{k:Int}(h:k≠0): errV k = .iface 42 (.int .i64 k):=if_neg h
def IsH(o:Obj): Prop := ∃t f,o = .cells #[handleV] t f
theorem ctl_parts0:
  Ctr prog 195 #[.agg #[vI 0,vI 0,vI 0,.bool false,.bool false]] [] (Ret (.tuple #[.agg #[vI 0,vI 0,vI 0,vI 0,vI 0],.agg #[vI 16,vI 31,vI 1,vI 1,vI 15]]) []):=by
 exact cb 19 func195 fun F=>gX [.e 0,.e 0,.e 0,.e 1,.e 0,.e 0,.e 1,.e 1,.e 2,.e 1,.e 2] (gN fun b_1=>gN fun b_2=>gN fun b_3=>gQ b_1 (gQ b_1 (gQ b_1 (gQ b_2 (gQ b_1 (gQ b_1 (gQ b_2 (gQ b_2 (gQ b_3 (gQ b_2 (gQ b_3 (gR (.tuple #[.agg #[vI 0,vI 0,vI 0,vI 0,vI 0],.agg #[vI 16,vI 31,vI 1,vI 1,vI 15]]) [] ⟨rfl,rfl⟩))))))))))))
theorem ctl_Unpack(w_:Int)(hw:U64 w_):
  Ctr prog 181 #[vU w_] [] (Ret (.agg #[vI (ctlEpoch w_),vI (ctlGen w_),vI (ctlBlock w_),.bool (ctlLive w_),.bool (ctlBusy w_)]) []):=by
 refine cb 44 func181 fun F=>gX [.z [0,1] 1 [0,2,9]] (gN fun b_1=>gW (ks:=[.o [0,1] 1,.c [1,1]]) [(0,vU w_),(2,vP b_1),(9,.agg #[vI 0,vI 0,vI 0,.bool false,.bool false])] [Eu b_1 0 0 0 false false] (gC (some 10) [] call195 (ctl_parts0) (gX [.e 1,.e 2,.u,.w,.e 2,.z qt 6 [0,2,4,5,6,7,13,16,17,18,21]] (gN fun b_2=>gN fun b_3=>gQ b_2 (gQ b_3 (gN fun b_4=>gQ b_3 (gS [.o qt 6,.c qas,.b 1,.c qat,.r qau,.b 0,.c [1,1,1,1,1]] (gC (some 22) [] call172 (bits_Get w_ 0 16 oa) (gX [.n,.w,.e 3,.w,.e 2,.w,.w,.u,.w,.e 2,.z qt 6 [0,2,4,5,6,7,13,16,17,18,21]] (gO (InK .i64 (bAnd .u64 (bShr .u64 w_ 0) (bShr .u64 18446744073709551615 (64-16)))) (by have hr:=ctl_rng hw; first | (rw [un_block hw]; simp only [InK]; omega) | (rw [un_gen hw]; simp only [InK]; omega) | (rw [un_busy hw]; simp only [InK]; omega) | (rw [un_live hw]; simp only [InK]; omega) | (rw [un_epoch hw]; simp only [InK]; omega) | (simp only [InK]; omega)) (gQ b_4 (gQ b_3 (gQ b_3 (gS [.o qt 6,.c qas,.b 1,.c qat,.r qau,.b 0,.c [1,1,1,1,1]] (gC (some 22) [] call172 (bits_Get w_ 16 31 oa) (gX [.n,.w,.e 3,.w,.e 2,.w,.w,.u,.w,.e 2,.z qt 6 [0,2,4,5,6,7,13,16,17,18,21]] (gO (InK .i64 (bAnd .u64 (bShr .u64 w_ 16) (bShr .u64 18446744073709551615 (64-31)))) (by have hr:=ctl_rng hw; first | (rw [un_block hw]; simp only [InK]; omega) | (rw [un_gen hw]; simp only [InK]; omega) | (rw [un_busy hw]; simp only [InK]; omega) | (rw [un_live hw]; simp only [InK]; omega) | (rw [un_epoch hw]; simp only [InK]; omega) | (simp only [InK]; omega)) (gQ b_4 (gQ b_3 (gQ b_3 (gS [.o qt 6,.c qas,.b 1,.c qat,.r qau,.b 0,.c [1,1,1,1,1]] (gC (some 22) [] call172 (bits_Get w_ 47 1 oa) (gX [.n,.w,.e 3,.w,.e 2,.w,.w,.u,.w,.e 2,.z qt 6 [0,2,4,5,6,7,13,16,17,18,21]] (gO (InK .i64 (bAnd .u64 (bShr .u64 w_ 47) (bShr .u64 18446744073709551615 (64-1)))) (by have hr:=ctl_rng hw; first | (rw [un_block hw]; simp only [InK]; omega) | (rw [un_gen hw]; simp only [InK]; omega) | (rw [un_busy hw]; simp only [InK]; omega) | (rw [un_live hw]; simp only [InK]; omega) | (rw [un_epoch hw]; simp only [InK]; omega) | (simp only [InK]; omega)) (gQ b_4 (gQ b_3 (gQ b_3 (gS [.o qt 6,.c qas,.b 1,.c qat,.r qau,.b 0,.c [1,1,1,1,1]] ?_))))))))))))))))))))))))))))
 exact gC (some 22) [] call172 (bits_Get w_ 48 1 oa) (gX [.n,.w,.e 3,.w,.e 2,.w,.w,.u,.w,.e 2,.z qt 6 [0,2,4,5,6,7,13,16,17,18,21]] (gO (InK .i64 (bAnd .u64 (bShr .u64 w_ 48) (bShr .u64 18446744073709551615 (64-1)))) (by have hr:=ctl_rng hw; first | (rw [un_block hw]; simp only [InK]; omega) | (rw [un_gen hw]; simp only [InK]; omega) | (rw [un_busy hw]; simp only [InK]; omega) | (rw [un_live hw]; simp only [InK]; omega) | (rw [un_epoch hw]; simp only [InK]; omega) | (simp only [InK]; omega)) (gQ b_4 (gQ b_3 (gQ b_3 (gS [.o qt 6,.c qas,.b 1,.c qat,.r qau,.b 0,.c [1,1,1,1,1]] (gC (some 22) [] call172 (bits_Get w_ 49 15 oa) (gX [.n,.w,.e 3,.w,.e 2,.w,.w,.u,.w,.e 3,.w,.e 3,.w,.e 3,.w,.e 3,.w,.e 3,.e 0,.e 0] (gO (InK .i64 (bAnd .u64 (bShr .u64 w_ 49) (bShr .u64 18446744073709551615 (64-15)))) (by have hr:=ctl_rng hw; first | (rw [un_block hw]; simp only [InK]; omega) | (rw [un_gen hw]; simp only [InK]; omega) | (rw [un_busy hw]; simp only [InK]; omega) | (rw [un_live hw]; simp only [InK]; omega) | (rw [un_epoch hw]; simp only [InK]; omega) | (simp only [InK]; omega)) (gQ b_4 (gQ b_3 (gQ b_4 (gQ b_4 (gQ b_4 (gQ b_4 (gQ b_4 (gQ b_1 (gQ b_1 (gI (.agg #[vI (bAnd .u64 (bShr .u64 w_ 49) (bShr .u64 18446744073709551615 (64-15))),vI (bAnd .u64 (bShr .u64 w_ 16) (bShr .u64 18446744073709551615 (64-31))),vI (bAnd .u64 (bShr .u64 w_ 0) (bShr .u64 18446744073709551615 (64-16))),.bool ((bAnd .u64 (bShr .u64 w_ 48) (bShr .u64 18446744073709551615 (64-1)))==1),.bool ((bAnd .u64 (bShr .u64 w_ 47) (bShr .u64 18446744073709551615 (64-1)))==1)]) [] ⟨(by rw [un_block hw,un_gen hw,un_busy hw,un_live hw,un_epoch hw]; rfl),rfl⟩)))))))))))))))))))
theorem r13_Unpack(w_:Int)(hw:U64 w_):
  Ctr prog 34 #[vU w_] [] (Ret (.agg #[vI (ctlEpoch w_),vI (ctlGen w_),vI (ctlBlock w_),.bool (ctlLive w_),.bool (ctlBusy w_)]) []):=by
 exact cb 22 func34 fun F=>gX [.n,.n,.n,.n,.n,.n,.n,.e 0,.e 0] (gN fun b_1=>gO (InK .i64 (bAnd .u64 w_ 65535)) (by have hr:=ctl_rng hw; first | (rw [ru_block hw]; simp only [InK]; omega) | (rw [ru_gen hw]; simp only [InK]; omega) | (rw [ru_epoch hw]; simp only [InK]; omega) | (simp only [InK]; omega)) (gO ((0:Int)≤16) oW (gO (InK .i64 (bAnd .u64 (bShr .u64 w_ 16) 2147483647)) (by have hr:=ctl_rng hw; first | (rw [ru_block hw]; simp only [InK]; omega) | (rw [ru_gen hw]; simp only [InK]; omega) | (rw [ru_epoch hw]; simp only [InK]; omega) | (simp only [InK]; omega)) (gO ((0:Int)≤47) oW (gO ((0:Int)≤48) oW (gO ((0:Int)≤49) oW (gO (InK .i64 (bShr .u64 w_ 49)) (by have hr:=ctl_rng hw; first | (rw [ru_block hw]; simp only [InK]; omega) | (rw [ru_gen hw]; simp only [InK]; omega) | (rw [ru_epoch hw]; simp only [InK]; omega) | (simp only [InK]; omega)) (gQ b_1 (gQ b_1 (gI (.agg #[vI (bShr .u64 w_ 49),vI (bAnd .u64 (bShr .u64 w_ 16) 2147483647),vI (bAnd .u64 w_ 65535),.bool ((bAnd .u64 (bShr .u64 w_ 48) 1)==1),.bool ((bAnd .u64 (bShr .u64 w_ 47) 1)==1)]) [] ⟨(by rw [ru_block hw,ru_gen hw,ru_busy hw,ru_live hw,ru_epoch hw]; rfl),rfl⟩))))))))))
theorem r13_flagT:
  Ctr prog 171 #[.bool true] [] (Ret (vU 1) []):=by
 exact cb 4 func171 fun F=>gX [] (gR (vU 1) [] ⟨rfl,rfl⟩)
theorem r13_flagF:
  Ctr prog 171 #[.bool false] [] (Ret (vU 0) []):=by
 exact cb 4 func171 fun F=>gX [] (gR (vU 0) [] ⟨rfl,rfl⟩)
theorem r13_flag(b_:Bool):
  Ctr prog 171 #[.bool b_] [] (Ret (vU (flagI b_)) []):=by
 cases b_
 ·exact r13_flagF
 ·exact r13_flagT
theorem r13_Pack(e_ g_ k_:Int)(l_ b_:Bool)(he:0≤e_∧e_≤32767)(hg:0≤g_∧g_≤2147483647)(hk:0≤k_∧k_≤65535):
  Ctr prog 132 #[.agg #[vI e_,vI g_,vI k_,.bool l_,.bool b_]] [] (Ret (vU (packW3 e_ (flagI l_) (flagI b_) g_ k_)) []):=by
 exact cb 31 func132 fun F=>gX [.e 0,.w,.w,.e 0,.z [0,1,1] 4 [1,8,10]] (gN fun b_1=>gQ b_1 (gQ b_1 (gS [.o [0,1,1] 4,.c [1,1,1]] (gC (some 11) [] call171 (r13_flag l_) (gX [.w,.w,.e 0,.z [0,1,1,1] 4 [1,14,16]] (gQ b_1 (gS [.o [0,1,1,1] 4,.c [1,1,1,1]] (gC (some 17) [] call171 (r13_flag b_) (gX [.w,.n,.e 0,.w,.w,.n,.e 0,.w,.w] (gO ((0:Int)≤31) oW (gQ b_1 (gO ((0:Int)≤16) oW (gQ b_1 (gI (vU (IntKind.u64.wrap ((bShl .u64 (IntKind.u64.wrap ((bShl .u64 (IntKind.u64.wrap ((IntKind.u64.wrap ((IntKind.u64.wrap ((IntKind.u64.wrap ((IntKind.u64.wrap e_)*2))+(flagI l_)))*2))+(flagI b_))) 31)+(IntKind.u64.wrap g_))) 16)+(IntKind.u64.wrap k_)))) [] ⟨(congrArg (Value.int .u64) (by have h1:=flagI_rng l_; have h2:=flagI_rng b_; unfold packW3; simp only [shl31,shl16,wrapU64]; omega)),rfl⟩))))))))))))))
theorem slots_Mark(cl bk:Int)(hcl:0≤cl+1∧cl+1≤4294967295)(hb:0≤bk∧bk≤4294967295):
  Ctr prog 199 #[vI cl,vI bk] [] (Ret (vU (markW cl bk)) []):=by
 exact cb 14 func199 fun F=>gX [.n,.w,.w,.n,.w,.w] (gO (InK .i64 (cl+1)) oh (gO ((0:Int)≤32) oW (gR (vU (bOr .u64 (bShl .u64 (IntKind.u64.wrap (IntKind.u32.wrap (cl+1))) 32) (IntKind.u64.wrap (IntKind.u32.wrap bk)))) [] ⟨(congrArg (Value.int .u64) (mark_or hcl hb)),rfl⟩)))
theorem cause_New0:
  Ctr prog 46 #[vI 0] [] (Ret (.nilIface) []):=by
 exact cb 7 func46 fun F=>gX [] (gR (.nilIface) [] ⟨rfl,rfl⟩)
theorem cause_NewE(k_:Int)(hk:k_≠0):
  Ctr prog 46 #[vI k_] [] (Ret (.iface 42 (vI k_)) []):=by
 exact cb 7 func46 fun F=>gX [.sp [4] [.dead] []] (gF (k_==0) (beq_eq_false_iff_ne.2 hk) (gR (.iface 42 (vI k_)) [] ⟨rfl,rfl⟩))
theorem as_hitH(o_:Obj)(b:Nat)(old k_:Int)(ho:IsH o_):
  Ctr prog 62 #[.iface 42 (vI k_),.iface 125 (vP b)] [.raw 0 o_,.pts b [vI old] 42] (Ret (.bool true) [.raw 0 o_,.pts b [vI k_] 42]):=by
 obtain⟨t,f,rfl⟩:=ho
 exact as_hitC t f b old k_
theorem cause_Top0(o_:Obj):
  Ctr prog 17 #[.nilIface] [.raw 0 o_] (Ret (vI 0) [.raw 0 o_]):=by
 exact cb 8 func17 fun F=>gX [.z [0,0,1,1] 2 [3,4,5]] (gN fun b_1=>gW (ks:=[.o [0,0,1,1] 2,.c [1,0,1,1],.c [1,1,1]]) [(3,vP b_1),(4,.nilIface),(5,.iface 125 (vP b_1))] [.raw 0 o_,.pts b_1 [vI 0] 42] (gC (some 6) [] call62 (as_nilC (.iface 125 (vP b_1))) (gX [] (gJ [0] ⟨rfl,rfl⟩))))
theorem cause_TopE(o_:Obj)(k_:Int)(ho:IsH o_):
  Ctr prog 17 #[.iface 42 (vI k_)] [.raw 0 o_] (Ret (vI k_) [.raw 0 o_]):=by
 exact cb 8 func17 fun F=>gX [.z [0,0,1,1] 2 [3,4,5]] (gN fun b_1=>gW (ks:=[.o [0,0,1,1] 2,.c [1,0,1,1],.c [1,1,1]]) [(3,vP b_1),(4,.iface 42 (vI k_)),(5,.iface 125 (vP b_1))] [.raw 0 o_,.pts b_1 [vI 0] 42] (gC (some 6) [0,1] call62 (as_hitH o_ b_1 0 k_ oM) (gX [.e 1] (gQ b_1 (gJ [0] ⟨rfl,rfl⟩)))))
theorem cause_Top(o_:Obj)(k_:Int)(ho:IsH o_):
  Ctr prog 17 #[(errV k_)] [.raw 0 o_] (Ret (vI k_) [.raw 0 o_]):=by
 by_cases hk:k_ = 0
 ·subst hk; exact cause_Top0 o_
 ·rw [errV_ne hk]; exact cause_TopE o_ k_ ho
end Go.Proofs.YtpcaijopodhdgaaGreatDoor
namespace Go.Proofs.YtpcaijopodhdgaaGreatDoor
open Go.Proofs.Tryz
open Go.Sx Go.ChangeShapes Go.WideShapes Go.ChangeAt Go.RowKit
theorem Tryz.own: ownKnob prog.godebug=none:=by kernel_rfl
theorem Tryz.laidOutP: laidOutB prog=true:=by kernel_rfl
theorem Tryz.et: prog.globalNamed "errors.errorType" = some 0:=by kernel_rfl
theorem Tryz.rt: (prog.cutTypes.find? (·.1 == "internal/reflectlite.rtype")).map (·.2)=some 229:=by kernel_rfl
theorem Tryz.oneRow: ((List.range 298).filter fun t=>prog.rowNamed t [101,114,114,111,114])=[32]:=by kernel_rfl
theorem Tryz.sizeT: prog.types.size=298:=by kernel_rfl
theorem handle_of_laid{W:World}(h:laidMetH prog [("errors.errorType",Rows.laid_errors_errorType)] W):∃o,IsH o∧W.heap[0]? = some o:=by
 have h':laidMet prog [] W∧handlesMet prog [("errors.errorType",Rows.laid_errors_errorType)] W:=h
 obtain⟨name,u,ty,e1,e2,e3,e4,e5⟩:=h'.2 _ (List.mem_singleton.2 rfl)
 have en:name=[101,114,114,111,114]:=(Option.some.inj e1).symm
 subst en
 obtain rfl:=Option.some.inj (Tryz.rt.symm.trans e2)
 have hm:ty∈(List.range 298).filter fun t=>prog.rowNamed t [101,114,114,111,114]:=List.mem_filter.2 ⟨List.mem_range.2 (by rw [←Tryz.sizeT]; exact e3),e4⟩
 rw [Tryz.oneRow] at hm
 obtain rfl:=List.mem_singleton.1 hm
 have hh:typeHandle prog 32 = .pointer (some ⟨1,32,none⟩):=by kernel_rfl
 rw [hh] at e5
 simp only [World.var?,Tryz.et,Option.bind_some] at e5
 split at e5
 ·rename_i cs t f hc
  exact⟨_,⟨t,f,by have:=Option.some.inj e5; rw [this]; rfl⟩,hc⟩
 ·cases e5
noncomputable def laidWorld(os:Os): World:=
 let w0:=World.holding prog os ⟨#[],#[],[]⟩
 {w0 with heap:=w0.heap.modify 0 fun
   | .cells _ t frozen=>.cells #[.iface 229 (.agg #[.pointer (some ⟨1,32,none⟩)])] t frozen
   | o=>o}
theorem laidWorld_met(os:Os)(args:Array Value): laidMetH prog [("errors.errorType",Rows.laid_errors_errorType)] ((laidWorld os).forCall (fun _ _=>0) ⟨#[],args,[]⟩).memory:=
 laidMetH_of_parts (laidMet_nil _ _) (by kernel_rfl)
theorem open_rd2{P:Program}{w:World}{H:Type}{enc:TypeId×Value→H}{base:Nat}{held:Bool}{α : Type}{en : α→List Value}{d0 : α}{sz:Nat}(hz:Sized en sz){d:Nat}{t e:TypeId}{ks:List Kd}{v:Value}{y:DataW H}{ps:List MemPlace}(ht:P.underlying t=some (.slice e))(hf:flat P d e=some ks)(hs:P.cellsOf e=sz)(h0:0<sz)
  {Q : α→Prop} (hen:∀row,FitsAll ks row→∃x,row=en x∧Q x) {b0:Nat} (hv:Value.okWide P w .any b0 t v) (h:DataW.Trod enc P w base (fun _=>true) held t v y ps) :
  ∃(a:Option Addr) (c:Nat) (xs:List α) (bt:TypeId) (r:Sx.Rest) (foot:Ft),v = .slice a xs.length c∧(xs.length≤c∧∀x∈xs,Q x)∧(Ent.rd a c en d0 sz xs bt r).den foot∧Fits foot w∧(foot=[]∨xs≠[])∧∀g,(Ent.rd a c en d0 sz xs bt r).den g→∀p∈foot,p∈g:=by
 obtain⟨a,c,xs,bt,r,foot,h1,h2,h3,h4,h5,h6,h7⟩:=open_rd hz ht hf hs h0 hen hv h
 by_cases hx:xs=[]
 ·refine⟨a,c,xs,bt,r,[],h1,h2,⟨hz,.inl ⟨hx,rfl, ?_⟩⟩,⟨by simp,by simp⟩,.inl rfl,by simp⟩
  rcases h4.2 with ⟨_,_,q⟩ | ⟨b,off,q,_⟩
  ·exact q
  ·intro hn; rw [hn] at q; cases q
 ·exact⟨a,c,xs,bt,r,foot,h1,h2,h4,h5,.inr hx,h7⟩
theorem apart_h{o:Obj}{W:World}(ho:IsH o)(hO:W.heap[0]? = some o){α : Type}{a:Option Addr}{c:Nat}{en : α→List Value}{d : α}{sz:Nat}{xs:List α}{t:TypeId}{r:Sx.Rest}{foot:Ft}(hd:(Ent.rd a c en d sz xs t r).den foot)(hfit:Fits foot W)(hne:foot=[]∨xs≠[])(h2:2≤sz): 0∉foot.map (·.1):=by
 intro hm
 rcases hne with hf | hx
 ·rw [hf] at hm; simp at hm
 ·rcases hd.2 with ⟨q,_⟩ | ⟨b,off,_,_,_,q⟩
  ·exact hx q
  ·rw [q] at hm hfit
   simp only [List.map_cons,List.map_nil,List.mem_singleton] at hm
   subst hm
   have h1:=hfit.2 _ (List.mem_singleton.2 rfl)
   simp only at h1
   rw [hO] at h1
   obtain⟨t' ,f',rfl⟩:=ho
   have h3:=Option.some.inj h1
   injection h3 with h4 h5 h6
   have h7:=congrArg Array.size h4
   cases xs with
   | nil=>exact hx rfl
   | cons x l=>
    have hs:=hd.1 x
    simp [cellsOf] at h7
    omega
theorem dens_hr{o:Obj}{e:Ent}{foot:Ft}(h:e.den foot): dens [.raw 0 o,e] ((0,o) :: foot):=⟨[(0,o)],foot,rfl,rfl,foot,[],by simp,h,rfl⟩
theorem foot_hr{o:Obj}{W:World}{foot:Ft}(hO:W.heap[0]? = some o)(hfit:Fits foot W)(h0:0∉foot.map (·.1)): Fits ((0,o) :: foot) W:=
 ⟨by rw [List.map_cons,List.nodup_cons]; exact⟨h0,hfit.1⟩,fun p hp=>by
  rcases List.mem_cons.1 hp with rfl | hp
  ·exact hO
  ·exact hfit.2 p hp⟩
theorem pin_hr{o:Obj}{e:Ent}{foot:Ft}(h:∀g,e.den g→∀p∈foot,p∈g): ∀g,dens [.raw 0 o,e] g→∀p∈(0,o) :: foot,p∈g:=by
 rintro g ⟨f1,f2,rfl,h1,f3,f4,rfl,h3,_⟩ p hp
 have h1:f1=[(0,o)]:=h1
 subst h1
 rcases List.mem_cons.1 hp with rfl | hp
 ·simp
 ·simp [h f3 h3 p hp]
end Go.Proofs.YtpcaijopodhdgaaGreatDoor
namespace Go.Proofs.YtpcaijopodhdgaaGreatDoor
open Go.Proofs.Tryz
open Go.Sx
abbrev Ej(x0:Nat)(c1:Cfg)(x2:Int)(x3:Int)(x4:Int)(x5:Int)(x6:Value)(x7:Int)(x8:Int)(x9:Int)(x10:Int)(x11:Value): Ent:=.pts x0 [.int .i64 c1.topics,.int .i64 c1.small,.int .i64 c1.slots,.int .i64 c1.clients,.int .i64 c1.s0,.int .i64 c1.n0,.int .i64 c1.s1,.int .i64 c1.n1,.int .i64 c1.retry,.int .i64 x2,.int .i64 x3,.int .i64 x4,.int .i64 x5,x6,.int .u64 x7,.int .i64 x8,.int .i64 x9,.int .i64 x10,x11] 180
abbrev Ead(x0:Nat)(c1:Cfg)(x2:Int)(x3:Int)(x4:Int)(x5:Int)(x6:Value)(x7:Int)(x8:Int)(x9:Int)(x10:Int): Ent:=.pts x0 [.int .i64 c1.topics,.int .i64 c1.small,.int .i64 c1.slots,.int .i64 c1.clients,.int .i64 c1.s0,.int .i64 c1.n0,.int .i64 c1.s1,.int .i64 c1.n1,.int .i64 c1.retry,.int .i64 x2,.int .i64 x3,.int .i64 x4,.int .i64 x5,x6,.int .u64 x7,.int .i64 x8,.int .i64 x9,.int .i64 x10,.nilIface] 180
abbrev qcm: List Nat:=[0,1,1,1,0,1,1]
abbrev qcn: List Nat:=[0,0,1,0,1,1,1]
noncomputable def nxG(g:Nat): Nat→Value
 | 1=>.func (.func 112) #[vP g] #[]
 | 2=>.func (.func 188) #[vP g] #[]
 | 3=>.func (.func 200) #[vP g] #[]
 | _=>.nilFunc
theorem gEnd0(c:Cfg)(g:Nat)(cl ep sl wd sn bk fl cm:Int)(nx er:Value):
  Ctr prog 189 #[vP g,vI 0] [Ej g c cl ep sl wd nx sn bk fl cm er] (Ret (undef) [Ead g c cl ep sl wd (.nilFunc) sn bk fl cm]):=by
 exact cb 20 func189 fun F=>gX [.e 0,.z [0,1] 2 [0,7,8]] (gQ g (gS [.o [0,1] 2,.c [1,1]] (gC (some 9) [] call46 (cause_New0) (gX [.e 0,.e 0] (gQ g (gQ g (gJ [0] ⟨rfl,rfl⟩)))))))
theorem gEndE(c:Cfg)(g:Nat)(cl ep sl wd sn bk fl cm:Int)(nx er:Value)(k_:Int)(hk:k_≠0):
  Ctr prog 189 #[vP g,vI k_] [Ej g c cl ep sl wd nx sn bk fl cm er] (Ret (undef) [Ej g c cl ep sl wd (.nilFunc) sn 0 fl cm (.iface 42 (vI k_))]):=by
 exact cb 20 func189 fun F=>gX [.e 0,.z [0,1] 2 [0,7,8]] (gQ g (gS [.o [0,1] 2,.c [1,1]] (gC (some 9) [] call46 (cause_NewE k_ oM) (gX [.e 0,.e 0,.e 0] (gQ g (gQ g (gQ g (gJ [0] ⟨rfl,rfl⟩))))))))
theorem gLookD(c:Cfg)(g:Nat)(cl ep sl wd sn bk fl cm:Int)(nx er:Value)(w_:Int)(hw:U64 w_)(hl:ctlLive w_ = false):
  Ctr prog 160 #[vP g,vU w_] [Ej g c cl ep sl wd nx sn bk fl cm er] (Ret (undef) [Ej g c cl ep sl wd (.nilFunc) w_ 0 fl cm (.iface 42 (vI 22))]):=by
 refine cb 42 func160 fun F=>gX [.z [0] 1 [0,1,5]] (gS [.o [0] 1,.c [1]] (gC (some 6) [] call181 (ctl_Unpack w_ oM) (gX [.e 1,.z [0,1] 0 [0,1,4]] (gN fun b_2=>gQ b_2 (gS [.c [0,1],.c [1,1]] (zG (zN [0,1,2,3,4,5,6,7,8,9] (kV 0 [.w,.w,.w,.w,.w,.e 1,.w,.w,.w,.w]) [0,1,4,7,8,9,10,11,12,13,14,15,16] [10] (.e b_2 .n) ⟨?_,trivial⟩)))))))
 refine zX (.e 0) (sQ g (sK ?_))
 refine zN [11,12] [(1,.w),(2,.w),(4,.w),(5,.e 1),(6,.w),(7,.w),(11,.w),(12,.w)] [0,4,8,9,11,12,13,14,17,18] [13] (.e b_2 .n) ⟨?_,trivial⟩
 refine zX (.e 0) (sQ g (sK ?_))
 refine zN [14,15] [(2,.w),(6,.w),(7,.w),(14,.w),(15,.w)] [0,4,9,13,14,19,20] [16] .n ⟨?_,trivial⟩
 refine zX (.e 0) (sQ g (sK ?_))
 exact zE [] [] [0,4] .n (gX [.z [0,0,1,1] 0 [0,4]] (gS [.c [0,0,1,1],.c [1,0,1,1],.b 0] (qG (kV 0 [.ww,.e 1,.t true,.ww,.ww,.ww,.ww,.ww,.ww,.ww,.ww,.ww,.ww]) [0,4,21] (.e b_2 (.p ((!(ctlLive w_))=true) (by simp [hl]) .n)) .n (gX [.z [0,1,0,1,1] 1 [34]] (gS [.o [0,1,0,1,1] 1,.b 0] (gC (some 35) [0] call189 (gEndE c g cl ep sl wd w_ (ctlBlock w_) fl cm (.func (.func 188) #[vP g] #[]) er 22 oc) (gX [] (gJ [1] ⟨rfl,rfl⟩))))))))
theorem gLookP(c:Cfg)(g:Nat)(cl ep sl wd sn bk fl cm:Int)(nx er:Value)(w_:Int)(hw:U64 w_)(hl:ctlLive w_ = true)(he:ctlEpoch w_≠ep):
  Ctr prog 160 #[vP g,vU w_] [Ej g c cl ep sl wd nx sn bk fl cm er] (Ret (undef) [Ej g c cl ep sl wd (.nilFunc) w_ 0 fl cm (.iface 42 (vI 22))]):=by
 refine cb 42 func160 fun F=>gX [.z [0] 1 [0,1,5]] (gS [.o [0] 1,.c [1]] (gC (some 6) [] call181 (ctl_Unpack w_ oM) (gX [.e 1,.z [0,1] 0 [0,1,4]] (gN fun b_2=>gQ b_2 (gS [.c [0,1],.c [1,1]] (zG (zN [0,1,2,3,4,5,6,7,8,9] (kV 0 [.w,.w,.w,.w,.w,.e 1,.w,.w,.w,.w]) [0,1,4,7,8,9,10,11,12,13,14,15,16] [10] (.e b_2 .n) ⟨?_,trivial⟩)))))))
 refine zX (.e 0) (sQ g (sK ?_))
 refine zN [11,12] [(1,.w),(2,.w),(4,.w),(5,.e 1),(6,.w),(7,.w),(11,.w),(12,.w)] [0,4,8,9,11,12,13,14,17,18] [13] (.e b_2 .n) ⟨?_,trivial⟩
 refine zX (.e 0) (sQ g (sK ?_))
 refine zN [14,15] [(2,.w),(6,.w),(7,.w),(14,.w),(15,.w)] [0,4,9,13,14,19,20] [16] .n ⟨?_,trivial⟩
 refine zX (.e 0) (sQ g (sK ?_))
 exact zE [] [] [0,4] .n (gX [.z [0,0,1,1] 0 [0,4]] (gS [.c [0,0,1,1],.c [1,0,1,1],.b 0] (qG (kV 0 [.ww,.e 1,.t false,.ww,.ww,.e 1,.ww,.ww,.ww,.e 0,.t true,.ww,.ww]) [0,4,21] (.e b_2 (.p ((!(ctlLive w_))=false) (by simp [hl]) (.e b_2 (.e g (.p (((ctlEpoch w_) != ep)=true) (bne_iff_ne.2 he) .n))))) .n (gX [.z [0,1,0,1,1] 1 [34]] (gS [.o [0,1,0,1,1] 1,.b 0] (gC (some 35) [0] call189 (gEndE c g cl ep sl wd w_ (ctlBlock w_) fl cm (.func (.func 188) #[vP g] #[]) er 22 oc) (gX [] (gJ [1] ⟨rfl,rfl⟩))))))))
theorem gLookE(c:Cfg)(g:Nat)(cl ep sl wd sn bk fl cm:Int)(nx er:Value)(w_:Int)(hw:U64 w_)(hl:ctlLive w_ = true)(he:ctlEpoch w_ = ep)(hb:ctlBlock w_ = 0):
  Ctr prog 160 #[vP g,vU w_] [Ej g c cl ep sl wd nx sn bk fl cm er] (Ret (undef) [Ej g c cl ep sl wd (.nilFunc) w_ 0 fl cm (.iface 42 (vI 20))]):=by
 refine cb 42 func160 fun F=>gX [.z [0] 1 [0,1,5]] (gS [.o [0] 1,.c [1]] (gC (some 6) [] call181 (ctl_Unpack w_ oM) (gX [.e 1,.z [0,1] 0 [0,1,4]] (gN fun b_2=>gQ b_2 (gS [.c [0,1],.c [1,1]] (zG (zN [0,1,2,3,4,5,6,7,8,9] (kV 0 [.w,.w,.w,.w,.w,.e 1,.w,.w,.w,.w]) [0,1,4,7,8,9,10,11,12,13,14,15,16] [10] (.e b_2 .n) ⟨?_,trivial⟩)))))))
 refine zX (.e 0) (sQ g (sK ?_))
 refine zN [11,12] [(1,.w),(2,.w),(4,.w),(5,.e 1),(6,.w),(7,.w),(11,.w),(12,.w)] [0,4,8,9,11,12,13,14,17,18] [13] (.e b_2 .n) ⟨?_,trivial⟩
 refine zX (.e 0) (sQ g (sK ?_))
 refine zN [14,15] [(2,.w),(6,.w),(7,.w),(14,.w),(15,.w)] [0,4,9,13,14,19,20] [16] .n ⟨?_,trivial⟩
 refine zX (.e 0) (sQ g (sK ?_))
 exact zE [] [] [0,4] .n (gX [.z [0,0,1,1] 0 [0,4]] (gS [.c [0,0,1,1],.c [1,0,1,1],.b 0] (qG (kV 0 [.ww,.e 1,.t false,.ww,.ww,.e 1,.ww,.ww,.ww,.e 0,.t false,.ww,.ww]) [0,4,21] (.e b_2 (.p ((!(ctlLive w_))=false) (by simp [hl]) (.e b_2 (.e g (.p (((ctlEpoch w_) != ep)=false) (bne_eq_false_iff_eq.2 he) .n))))) .n (gX [.e 1,.sp [36,39] [.z qcm 1 [40]] [.dead]] (gQ b_2 (gQ ((ctlBlock w_)==0) (gT ((ctlBlock w_)==0) (beq_iff_eq.2 hb) (gS [.o qcm 1,.b 0] (gC (some 41) [0] call189 (gEndE c g cl ep sl wd w_ (ctlBlock w_) fl cm (.func (.func 188) #[vP g] #[]) er 20 oc) (gX [] (gJ [1] ⟨rfl,rfl⟩)))))))))))
theorem gLookN(c:Cfg)(g:Nat)(cl ep sl wd sn bk fl cm:Int)(nx er:Value)(w_:Int)(hw:U64 w_)(hl:ctlLive w_ = true)(he:ctlEpoch w_ = ep)(hb:ctlBlock w_≠0):
  Ctr prog 160 #[vP g,vU w_] [Ej g c cl ep sl wd nx sn bk fl cm er] (Ret (undef) [Ej g c cl ep sl wd (.func (.func 188) #[vP g] #[]) w_ (ctlBlock w_) fl cm er]):=by
 refine cb 42 func160 fun F=>gX [.z [0] 1 [0,1,5]] (gS [.o [0] 1,.c [1]] (gC (some 6) [] call181 (ctl_Unpack w_ oM) (gX [.e 1,.z [0,1] 0 [0,1,4]] (gN fun b_2=>gQ b_2 (gS [.c [0,1],.c [1,1]] (zG (zN [0,1,2,3,4,5,6,7,8,9] (kV 0 [.w,.w,.w,.w,.w,.e 1,.w,.w,.w,.w]) [0,1,4,7,8,9,10,11,12,13,14,15,16] [10] (.e b_2 .n) ⟨?_,trivial⟩)))))))
 refine zX (.e 0) (sQ g (sK ?_))
 refine zN [11,12] [(1,.w),(2,.w),(4,.w),(5,.e 1),(6,.w),(7,.w),(11,.w),(12,.w)] [0,4,8,9,11,12,13,14,17,18] [13] (.e b_2 .n) ⟨?_,trivial⟩
 refine zX (.e 0) (sQ g (sK ?_))
 refine zN [14,15] [(2,.w),(6,.w),(7,.w),(14,.w),(15,.w)] [0,4,9,13,14,19,20] [16] .n ⟨?_,trivial⟩
 refine zX (.e 0) (sQ g (sK ?_))
 exact zE [] [] [0,4] .n (gX [.z [0,0,1,1] 0 [0,4]] (gS [.c [0,0,1,1],.c [1,0,1,1],.b 0] (qG (kV 0 [.ww,.e 1,.t false,.ww,.ww,.e 1,.ww,.ww,.ww,.e 0,.t false,.ww,.ww]) [0,4,21] (.e b_2 (.p ((!(ctlLive w_))=false) (by simp [hl]) (.e b_2 (.e g (.p (((ctlEpoch w_) != ep)=false) (bne_eq_false_iff_eq.2 he) .n))))) .n (gX [.e 1,.sp [36,39] [.dead] []] (gQ b_2 (gQ ((ctlBlock w_)==0) (gF ((ctlBlock w_)==0) (beq_eq_false_iff_ne.2 hb) (gJ [0] ⟨rfl,rfl⟩))))))))
theorem gLoad(c:Cfg)(g ba:Nat)(cl ep sl wd sn bk fl cm:Int)(nx er:Value)(A:Ar)(hn:A.ws.length=A.n)(hs:0≤A.steps∧A.steps≤1000000000)(hwd:0≤wd∧wd<A.n):
  Ctr prog 161 #[vP g,vP ba] [Ej g c cl ep sl wd nx sn bk fl cm er,Eb ba A,Ea A] (Ret (vU (A.ws.getD wd.toNat 0)) [Ej g c cl ep sl wd nx sn bk fl ((A.load wd).steps) er,Eb ba (A.load wd),Ea (A.load wd)]):=by
 exact cb 18 func161 fun F=>gX [.e 0,.z [0,1] 5 [0,1,6,10]] (gQ g (gS [.o [0,1] 5,.c [1,1]] (gC (some 11) [1,2] call116 (arena_Load ba A wd oM hwd oM) (gX [.z [0,1,1] 2 [5,12,13]] (gS [.o [0,1,1] 2,.c [1,1,1]] (gC (some 14) [1,2] call39 (arena_Steps ba (A.load wd)) (gX [.e 0] (gQ g (gJ [0,1,2] ⟨rfl,rfl⟩)))))))))
theorem gFirstD(c:Cfg)(g ba:Nat)(cl ep sl wd sn bk fl cm:Int)(nx er:Value)(A:Ar)(hn:A.ws.length=A.n)(hs:0≤A.steps∧A.steps≤1000000000)(hwd:0≤wd∧wd<A.n)(hw:U64 (A.ws.getD wd.toNat 0))(hl:ctlLive (A.ws.getD wd.toNat 0)=false):
  Ctr prog 112 #[vP g,vP ba] [Ej g c cl ep sl wd nx sn bk fl cm er,Eb ba A,Ea A] (Ret (undef) [Ej g c cl ep sl wd (.nilFunc) (A.ws.getD wd.toNat 0) 0 fl ((A.load wd).steps) (.iface 42 (vI 22)),Eb ba (A.load wd),Ea (A.load wd)]):=by
 exact cb 9 func112 fun F=>gX [.z [] 3 [4,5,6]] (gS [.o [] 3] (gC (some 7) [0,1,2] call161 (gLoad c g ba cl ep sl wd sn bk fl cm nx er A oM oM oM) (gC (some 8) [0] call160 (gLookD c g cl ep sl wd sn bk fl ((A.load wd).steps) nx er (A.ws.getD wd.toNat 0) oM oM) (gX [] (gJ [2,0,1] ⟨rfl,rfl⟩)))))
theorem gFirstP(c:Cfg)(g ba:Nat)(cl ep sl wd sn bk fl cm:Int)(nx er:Value)(A:Ar)(hn:A.ws.length=A.n)(hs:0≤A.steps∧A.steps≤1000000000)(hwd:0≤wd∧wd<A.n)(hw:U64 (A.ws.getD wd.toNat 0))(hl:ctlLive (A.ws.getD wd.toNat 0)=true)(he:ctlEpoch (A.ws.getD wd.toNat 0)≠ep):
  Ctr prog 112 #[vP g,vP ba] [Ej g c cl ep sl wd nx sn bk fl cm er,Eb ba A,Ea A] (Ret (undef) [Ej g c cl ep sl wd (.nilFunc) (A.ws.getD wd.toNat 0) 0 fl ((A.load wd).steps) (.iface 42 (vI 22)),Eb ba (A.load wd),Ea (A.load wd)]):=by
 exact cb 9 func112 fun F=>gX [.z [] 3 [4,5,6]] (gS [.o [] 3] (gC (some 7) [0,1,2] call161 (gLoad c g ba cl ep sl wd sn bk fl cm nx er A oM oM oM) (gC (some 8) [0] call160 (gLookP c g cl ep sl wd sn bk fl ((A.load wd).steps) nx er (A.ws.getD wd.toNat 0) oM oM oM) (gX [] (gJ [2,0,1] ⟨rfl,rfl⟩)))))
theorem gFirstE(c:Cfg)(g ba:Nat)(cl ep sl wd sn bk fl cm:Int)(nx er:Value)(A:Ar)(hn:A.ws.length=A.n)(hs:0≤A.steps∧A.steps≤1000000000)(hwd:0≤wd∧wd<A.n)(hw:U64 (A.ws.getD wd.toNat 0))(hl:ctlLive (A.ws.getD wd.toNat 0)=true)(he:ctlEpoch (A.ws.getD wd.toNat 0)=ep)(hb:ctlBlock (A.ws.getD wd.toNat 0)=0):
  Ctr prog 112 #[vP g,vP ba] [Ej g c cl ep sl wd nx sn bk fl cm er,Eb ba A,Ea A] (Ret (undef) [Ej g c cl ep sl wd (.nilFunc) (A.ws.getD wd.toNat 0) 0 fl ((A.load wd).steps) (.iface 42 (vI 20)),Eb ba (A.load wd),Ea (A.load wd)]):=by
 exact cb 9 func112 fun F=>gX [.z [] 3 [4,5,6]] (gS [.o [] 3] (gC (some 7) [0,1,2] call161 (gLoad c g ba cl ep sl wd sn bk fl cm nx er A oM oM oM) (gC (some 8) [0] call160 (gLookE c g cl ep sl wd sn bk fl ((A.load wd).steps) nx er (A.ws.getD wd.toNat 0) oM oM oM oM) (gX [] (gJ [2,0,1] ⟨rfl,rfl⟩)))))
theorem gFirstN(c:Cfg)(g ba:Nat)(cl ep sl wd sn bk fl cm:Int)(nx er:Value)(A:Ar)(hn:A.ws.length=A.n)(hs:0≤A.steps∧A.steps≤1000000000)(hwd:0≤wd∧wd<A.n)(hw:U64 (A.ws.getD wd.toNat 0))(hl:ctlLive (A.ws.getD wd.toNat 0)=true)(he:ctlEpoch (A.ws.getD wd.toNat 0)=ep)(hb:ctlBlock (A.ws.getD wd.toNat 0)≠0):
  Ctr prog 112 #[vP g,vP ba] [Ej g c cl ep sl wd nx sn bk fl cm er,Eb ba A,Ea A] (Ret (undef) [Ej g c cl ep sl wd (.func (.func 188) #[vP g] #[]) (A.ws.getD wd.toNat 0) (ctlBlock (A.ws.getD wd.toNat 0)) fl ((A.load wd).steps) er,Eb ba (A.load wd),Ea (A.load wd)]):=by
 exact cb 9 func112 fun F=>gX [.z [] 3 [4,5,6]] (gS [.o [] 3] (gC (some 7) [0,1,2] call161 (gLoad c g ba cl ep sl wd sn bk fl cm nx er A oM oM oM) (gC (some 8) [0] call160 (gLookN c g cl ep sl wd sn bk fl ((A.load wd).steps) nx er (A.ws.getD wd.toNat 0) oM oM oM oM) (gX [] (gJ [2,0,1] ⟨rfl,rfl⟩)))))
theorem gSecond(c:Cfg)(g ba:Nat)(cl ep sl wd sn bk fl cm:Int)(nx er:Value)(A:Ar)(hn:A.ws.length=A.n)(hs:0≤A.steps∧A.steps≤1000000000)(hsl:0≤sl∧sl<A.n)(hcl:0≤cl∧cl≤1000)(hbk:0≤bk∧bk≤65535):
  Ctr prog 188 #[vP g,vP ba] [Ej g c cl ep sl wd nx sn bk fl cm er,Eb ba A,Ea A] (Ret (undef) [Ej g c cl ep sl wd (.func (.func 200) #[vP g] #[]) sn bk fl cm er,Eb ba (A.store sl (markW cl bk)),Ea (A.store sl (markW cl bk))]):=by
 refine cb 24 func188 fun F=>gX [.z [0] 0 [0,1]] (gS [.c [0],.c [1]] ?_)
 refine tC (some 18) (kV 0 [.ww,.ww,.ww,.ww,.e 0,.ww,.ww,.ww,.e 0,.ww,.ww,.ww,.e 0,.q (vU (markW cl bk))]) 14 [] [1,2] [0] call107 (arena_Store ba A sl (markW cl bk) oM hsl oM) (.e g (.e g (.e g .n))) (.c call199 (qR [] (slots_Mark cl bk oa oa)) .n) ?_
 rintro v post ⟨rfl,rfl⟩
 refine tN .n ?_
 exact gX [.e 0] (gQ g (gJ [0,1,2] ⟨rfl,rfl⟩))
theorem gThirdK(c:Cfg)(g ba:Nat)(cl ep sl wd sn bk fl cm:Int)(nx er:Value)(A:Ar)(hn:A.ws.length=A.n)(hs:0≤A.steps∧A.steps≤1000000000)(hwd:0≤wd∧wd<A.n)(hw:U64 (A.ws.getD wd.toNat 0))(hf0:0≤fl∧fl≤1000)(hq:(A.ws.getD wd.toNat 0)=sn):
  Ctr prog 200 #[vP g,vP ba] [Ej g c cl ep sl wd nx sn bk fl cm er,Eb ba A,Ea A] (Ret (undef) [Ead g c cl ep sl wd (.nilFunc) sn bk fl ((A.load wd).steps),Eb ba (A.load wd),Ea (A.load wd)]):=by
 exact cb 38 func200 fun F=>gX [.z [0] 2 [0,5,6]] (gS [.o [0] 2,.c [1]] (gC (some 7) [0,1,2] call161 (gLoad c g ba cl ep sl wd sn bk fl cm nx er A oM oM oM) (gX [.e 0,.sp [13] [.z [0,0,1,0,1] 1 [14]] [.dead]] (gQ g (gT ((A.ws.getD wd.toNat 0)==sn) (beq_iff_eq.2 hq) (gS [.o [0,0,1,0,1] 1,.c [1,0,1,0,1],.c [1,1]] (gC (some 15) [0] call189 (gEnd0 c g cl ep sl wd sn bk fl ((A.load wd).steps) nx er) (gX [] (gJ [2,0,1] ⟨rfl,rfl⟩)))))))))
theorem gThirdR(c:Cfg)(g ba:Nat)(cl ep sl wd sn bk fl cm:Int)(nx er:Value)(A:Ar)(hn:A.ws.length=A.n)(hs:0≤A.steps∧A.steps≤1000000000)(hwd:0≤wd∧wd<A.n)(hw:U64 (A.ws.getD wd.toNat 0))(hf0:0≤fl∧fl≤1000)(hq:(A.ws.getD wd.toNat 0)≠sn)(hr:fl+1=c.retry):
  Ctr prog 200 #[vP g,vP ba] [Ej g c cl ep sl wd nx sn bk fl cm er,Eb ba A,Ea A] (Ret (undef) [Ej g c cl ep sl wd (.nilFunc) sn 0 (fl+1) ((A.load wd).steps) (.iface 42 (vI 17)),Eb ba (A.load wd),Ea (A.load wd)]):=by
 exact cb 38 func200 fun F=>gX [.z [0] 2 [0,5,6]] (gS [.o [0] 2,.c [1]] (gC (some 7) [0,1,2] call161 (gLoad c g ba cl ep sl wd sn bk fl cm nx er A oM oM oM) (gX [.e 0,.sp [13] [.dead] [.e 0,.n,.e 0,.z [0,0,1,1,1] 0 [0,4]]] (gQ g (gF ((A.ws.getD wd.toNat 0)==sn) (beq_eq_false_iff_ne.2 hq) (gQ g (gO (InK .i64 (fl+1)) oh (gQ g (gS [.c [0,0,1,1,1],.c [1,0,1,1,1],.c [1,1,1,1]] (qG (kV 0 [.ww,.ww,.ww,.e 0,.ww,.ww,.ww,.ww,.e 0,.t true]) [0,4,32] (.e g (.e g (.p (((fl+1)==c.retry)=true) (beq_iff_eq.2 hr) .n))) .n (gX [.z qcn 1 [33]] (gS [.o qcn 1,.c [1,0,1,0,1,1,1],.c [1,1,1,1]] (gC (some 34) [0] call189 (gEndE c g cl ep sl wd sn bk (fl+1) ((A.load wd).steps) nx er 17 oc) (gX [] (gJ [2,0,1] ⟨rfl,rfl⟩)))))))))))))))
theorem gThirdD(c:Cfg)(g ba:Nat)(cl ep sl wd sn bk fl cm:Int)(nx er:Value)(A:Ar)(hn:A.ws.length=A.n)(hs:0≤A.steps∧A.steps≤1000000000)(hwd:0≤wd∧wd<A.n)(hw:U64 (A.ws.getD wd.toNat 0))(hf0:0≤fl∧fl≤1000)(hq:(A.ws.getD wd.toNat 0)≠sn)(hr:fl+1≠c.retry)(hl:ctlLive (A.ws.getD wd.toNat 0)=false):
  Ctr prog 200 #[vP g,vP ba] [Ej g c cl ep sl wd nx sn bk fl cm er,Eb ba A,Ea A] (Ret (undef) [Ej g c cl ep sl wd (.nilFunc) (A.ws.getD wd.toNat 0) 0 (fl+1) ((A.load wd).steps) (.iface 42 (vI 22)),Eb ba (A.load wd),Ea (A.load wd)]):=by
 exact cb 38 func200 fun F=>gX [.z [0] 2 [0,5,6]] (gS [.o [0] 2,.c [1]] (gC (some 7) [0,1,2] call161 (gLoad c g ba cl ep sl wd sn bk fl cm nx er A oM oM oM) (gX [.e 0,.sp [13] [.dead] [.e 0,.n,.e 0,.z [0,0,1,1,1] 0 [0,4]]] (gQ g (gF ((A.ws.getD wd.toNat 0)==sn) (beq_eq_false_iff_ne.2 hq) (gQ g (gO (InK .i64 (fl+1)) oh (gQ g (gS [.c [0,0,1,1,1],.c [1,0,1,1,1],.c [1,1,1,1]] (qG (kV 0 [.ww,.ww,.ww,.e 0,.ww,.ww,.ww,.ww,.e 0,.t false]) [0,4,32] (.e g (.e g (.p (((fl+1)==c.retry)=false) (beq_eq_false_iff_ne.2 hr) .n))) .n (gX [.z [1,1,1,1] 2 [35,36]] (gS [.o [1,1,1,1] 2] (gC (some 37) [0] call160 (gLookD c g cl ep sl wd sn bk (fl+1) ((A.load wd).steps) nx er (A.ws.getD wd.toNat 0) oM oM) (gX [] (gJ [2,0,1] ⟨rfl,rfl⟩)))))))))))))))
theorem gThirdP(c:Cfg)(g ba:Nat)(cl ep sl wd sn bk fl cm:Int)(nx er:Value)(A:Ar)(hn:A.ws.length=A.n)(hs:0≤A.steps∧A.steps≤1000000000)(hwd:0≤wd∧wd<A.n)(hw:U64 (A.ws.getD wd.toNat 0))(hf0:0≤fl∧fl≤1000)(hq:(A.ws.getD wd.toNat 0)≠sn)(hr:fl+1≠c.retry)(hl:ctlLive (A.ws.getD wd.toNat 0)=true)(he:ctlEpoch (A.ws.getD wd.toNat 0)≠ep):
  Ctr prog 200 #[vP g,vP ba] [Ej g c cl ep sl wd nx sn bk fl cm er,Eb ba A,Ea A] (Ret (undef) [Ej g c cl ep sl wd (.nilFunc) (A.ws.getD wd.toNat 0) 0 (fl+1) ((A.load wd).steps) (.iface 42 (vI 22)),Eb ba (A.load wd),Ea (A.load wd)]):=by
 exact cb 38 func200 fun F=>gX [.z [0] 2 [0,5,6]] (gS [.o [0] 2,.c [1]] (gC (some 7) [0,1,2] call161 (gLoad c g ba cl ep sl wd sn bk fl cm nx er A oM oM oM) (gX [.e 0,.sp [13] [.dead] [.e 0,.n,.e 0,.z [0,0,1,1,1] 0 [0,4]]] (gQ g (gF ((A.ws.getD wd.toNat 0)==sn) (beq_eq_false_iff_ne.2 hq) (gQ g (gO (InK .i64 (fl+1)) oh (gQ g (gS [.c [0,0,1,1,1],.c [1,0,1,1,1],.c [1,1,1,1]] (qG (kV 0 [.ww,.ww,.ww,.e 0,.ww,.ww,.ww,.ww,.e 0,.t false]) [0,4,32] (.e g (.e g (.p (((fl+1)==c.retry)=false) (beq_eq_false_iff_ne.2 hr) .n))) .n (gX [.z [1,1,1,1] 2 [35,36]] (gS [.o [1,1,1,1] 2] (gC (some 37) [0] call160 (gLookP c g cl ep sl wd sn bk (fl+1) ((A.load wd).steps) nx er (A.ws.getD wd.toNat 0) oM oM oM) (gX [] (gJ [2,0,1] ⟨rfl,rfl⟩)))))))))))))))
theorem gThirdE(c:Cfg)(g ba:Nat)(cl ep sl wd sn bk fl cm:Int)(nx er:Value)(A:Ar)(hn:A.ws.length=A.n)(hs:0≤A.steps∧A.steps≤1000000000)(hwd:0≤wd∧wd<A.n)(hw:U64 (A.ws.getD wd.toNat 0))(hf0:0≤fl∧fl≤1000)(hq:(A.ws.getD wd.toNat 0)≠sn)(hr:fl+1≠c.retry)(hl:ctlLive (A.ws.getD wd.toNat 0)=true)(he:ctlEpoch (A.ws.getD wd.toNat 0)=ep)(hb:ctlBlock (A.ws.getD wd.toNat 0)=0):
  Ctr prog 200 #[vP g,vP ba] [Ej g c cl ep sl wd nx sn bk fl cm er,Eb ba A,Ea A] (Ret (undef) [Ej g c cl ep sl wd (.nilFunc) (A.ws.getD wd.toNat 0) 0 (fl+1) ((A.load wd).steps) (.iface 42 (vI 20)),Eb ba (A.load wd),Ea (A.load wd)]):=by
 exact cb 38 func200 fun F=>gX [.z [0] 2 [0,5,6]] (gS [.o [0] 2,.c [1]] (gC (some 7) [0,1,2] call161 (gLoad c g ba cl ep sl wd sn bk fl cm nx er A oM oM oM) (gX [.e 0,.sp [13] [.dead] [.e 0,.n,.e 0,.z [0,0,1,1,1] 0 [0,4]]] (gQ g (gF ((A.ws.getD wd.toNat 0)==sn) (beq_eq_false_iff_ne.2 hq) (gQ g (gO (InK .i64 (fl+1)) oh (gQ g (gS [.c [0,0,1,1,1],.c [1,0,1,1,1],.c [1,1,1,1]] (qG (kV 0 [.ww,.ww,.ww,.e 0,.ww,.ww,.ww,.ww,.e 0,.t false]) [0,4,32] (.e g (.e g (.p (((fl+1)==c.retry)=false) (beq_eq_false_iff_ne.2 hr) .n))) .n (gX [.z [1,1,1,1] 2 [35,36]] (gS [.o [1,1,1,1] 2] (gC (some 37) [0] call160 (gLookE c g cl ep sl wd sn bk (fl+1) ((A.load wd).steps) nx er (A.ws.getD wd.toNat 0) oM oM oM oM) (gX [] (gJ [2,0,1] ⟨rfl,rfl⟩)))))))))))))))
theorem gThirdN(c:Cfg)(g ba:Nat)(cl ep sl wd sn bk fl cm:Int)(nx er:Value)(A:Ar)(hn:A.ws.length=A.n)(hs:0≤A.steps∧A.steps≤1000000000)(hwd:0≤wd∧wd<A.n)(hw:U64 (A.ws.getD wd.toNat 0))(hf0:0≤fl∧fl≤1000)(hq:(A.ws.getD wd.toNat 0)≠sn)(hr:fl+1≠c.retry)(hl:ctlLive (A.ws.getD wd.toNat 0)=true)(he:ctlEpoch (A.ws.getD wd.toNat 0)=ep)(hb:ctlBlock (A.ws.getD wd.toNat 0)≠0):
  Ctr prog 200 #[vP g,vP ba] [Ej g c cl ep sl wd nx sn bk fl cm er,Eb ba A,Ea A] (Ret (undef) [Ej g c cl ep sl wd (.func (.func 188) #[vP g] #[]) (A.ws.getD wd.toNat 0) (ctlBlock (A.ws.getD wd.toNat 0)) (fl+1) ((A.load wd).steps) er,Eb ba (A.load wd),Ea (A.load wd)]):=by
 exact cb 38 func200 fun F=>gX [.z [0] 2 [0,5,6]] (gS [.o [0] 2,.c [1]] (gC (some 7) [0,1,2] call161 (gLoad c g ba cl ep sl wd sn bk fl cm nx er A oM oM oM) (gX [.e 0,.sp [13] [.dead] [.e 0,.n,.e 0,.z [0,0,1,1,1] 0 [0,4]]] (gQ g (gF ((A.ws.getD wd.toNat 0)==sn) (beq_eq_false_iff_ne.2 hq) (gQ g (gO (InK .i64 (fl+1)) oh (gQ g (gS [.c [0,0,1,1,1],.c [1,0,1,1,1],.c [1,1,1,1]] (qG (kV 0 [.ww,.ww,.ww,.e 0,.ww,.ww,.ww,.ww,.e 0,.t false]) [0,4,32] (.e g (.e g (.p (((fl+1)==c.retry)=false) (beq_eq_false_iff_ne.2 hr) .n))) .n (gX [.z [1,1,1,1] 2 [35,36]] (gS [.o [1,1,1,1] 2] (gC (some 37) [0] call160 (gLookN c g cl ep sl wd sn bk (fl+1) ((A.load wd).steps) nx er (A.ws.getD wd.toNat 0) oM oM oM oM) (gX [] (gJ [2,0,1] ⟨rfl,rfl⟩)))))))))))))))
theorem gDone0(c:Cfg)(g:Nat)(cl ep sl wd sn bk fl cm:Int)(er:Value):
  Ctr prog 126 #[vP g] [Ej g c cl ep sl wd (.nilFunc) sn bk fl cm er] (Ret (.bool true) [Ej g c cl ep sl wd (.nilFunc) sn bk fl cm er]):=by
 exact cb 12 func126 fun F=>gX [.e 0] (gQ g (gJ [0] ⟨rfl,rfl⟩))
theorem gDone1(c:Cfg)(g:Nat)(cl ep sl wd sn bk fl cm:Int)(er:Value):
  Ctr prog 126 #[vP g] [Ej g c cl ep sl wd (.func (.func 112) #[vP g] #[]) sn bk fl cm er] (Ret (.bool false) [Ej g c cl ep sl wd (.func (.func 112) #[vP g] #[]) sn bk fl cm er]):=by
 exact cb 12 func126 fun F=>gX [.e 0] (gQ g (gJ [0] ⟨rfl,rfl⟩))
theorem gDone2(c:Cfg)(g:Nat)(cl ep sl wd sn bk fl cm:Int)(er:Value):
  Ctr prog 126 #[vP g] [Ej g c cl ep sl wd (.func (.func 188) #[vP g] #[]) sn bk fl cm er] (Ret (.bool false) [Ej g c cl ep sl wd (.func (.func 188) #[vP g] #[]) sn bk fl cm er]):=by
 exact cb 12 func126 fun F=>gX [.e 0] (gQ g (gJ [0] ⟨rfl,rfl⟩))
theorem gDone3(c:Cfg)(g:Nat)(cl ep sl wd sn bk fl cm:Int)(er:Value):
  Ctr prog 126 #[vP g] [Ej g c cl ep sl wd (.func (.func 200) #[vP g] #[]) sn bk fl cm er] (Ret (.bool false) [Ej g c cl ep sl wd (.func (.func 200) #[vP g] #[]) sn bk fl cm er]):=by
 exact cb 12 func126 fun F=>gX [.e 0] (gQ g (gJ [0] ⟨rfl,rfl⟩))
theorem gStep0(c:Cfg)(g ba:Nat)(cl ep sl wd sn bk fl cm:Int)(er:Value)(A:Ar):
  Ctr prog 227 #[vP g,vP ba] [Ej g c cl ep sl wd (.nilFunc) sn bk fl cm er,Eb ba A,Ea A] (Ret (.bool true) [Ej g c cl ep sl wd (.nilFunc) sn bk fl cm er,Eb ba A,Ea A]):=by
 exact cb 16 func227 fun F=>gX [.z [0,0,1] 1 [0,1,5]] (gS [.o [0,0,1] 1,.c [1,0,1],.c [1,1]] (gC (some 6) [0] call126 (gDone0 c g cl ep sl wd sn bk fl cm er) (gX [.z [0,1,1] 1 [14]] (gS [.o [0,1,1] 1,.c [1,1,1]] (gC (some 15) [2] call126 (gDone0 c g cl ep sl wd sn bk fl cm er) (gX [] (gJ [2,0,1] ⟨rfl,rfl⟩)))))))
theorem gStep1D(c:Cfg)(g ba:Nat)(cl ep sl wd sn bk fl cm:Int)(er:Value)(A:Ar)(hn:A.ws.length=A.n)(hs:0≤A.steps∧A.steps≤1000000000)(hwd:0≤wd∧wd<A.n)(hw:U64 (A.ws.getD wd.toNat 0))(hl:ctlLive (A.ws.getD wd.toNat 0)=false):
  Ctr prog 227 #[vP g,vP ba] [Ej g c cl ep sl wd (.func (.func 112) #[vP g] #[]) sn bk fl cm er,Eb ba A,Ea A] (Ret (.bool true) [Ej g c cl ep sl wd (.nilFunc) (A.ws.getD wd.toNat 0) 0 fl ((A.load wd).steps) (.iface 42 (vI 22)),Eb ba (A.load wd),Ea (A.load wd)]):=by
 exact cb 16 func227 fun F=>gX [.z [0,0,1] 1 [0,1,5]] (gS [.o [0,0,1] 1,.c [1,0,1],.c [1,1]] (gC (some 6) [0] call126 (gDone1 c g cl ep sl wd sn bk fl cm er) (gX [.e 2,.z [0,1,0,1] 5 [0,11,12]] (gQ g (gS [.o [0,1,0,1] 5,.c [1,1]] (gC (some 13) [2,0,1] call112 (gFirstD c g ba cl ep sl wd sn bk fl cm (.func (.func 112) #[vP g] #[]) er A oM oM oM oM oM) (gX [.z [0,1,1] 1 [14]] (gS [.o [0,1,1] 1,.c [1,1,1]] (gC (some 15) [0] call126 (gDone0 c g cl ep sl wd (A.ws.getD wd.toNat 0) 0 fl ((A.load wd).steps) (.iface 42 (vI 22))) (gX [] (gJ [2,0,1] ⟨rfl,rfl⟩)))))))))))
theorem gStep1P(c:Cfg)(g ba:Nat)(cl ep sl wd sn bk fl cm:Int)(er:Value)(A:Ar)(hn:A.ws.length=A.n)(hs:0≤A.steps∧A.steps≤1000000000)(hwd:0≤wd∧wd<A.n)(hw:U64 (A.ws.getD wd.toNat 0))(hl:ctlLive (A.ws.getD wd.toNat 0)=true)(he:ctlEpoch (A.ws.getD wd.toNat 0)≠ep):
  Ctr prog 227 #[vP g,vP ba] [Ej g c cl ep sl wd (.func (.func 112) #[vP g] #[]) sn bk fl cm er,Eb ba A,Ea A] (Ret (.bool true) [Ej g c cl ep sl wd (.nilFunc) (A.ws.getD wd.toNat 0) 0 fl ((A.load wd).steps) (.iface 42 (vI 22)),Eb ba (A.load wd),Ea (A.load wd)]):=by
 exact cb 16 func227 fun F=>gX [.z [0,0,1] 1 [0,1,5]] (gS [.o [0,0,1] 1,.c [1,0,1],.c [1,1]] (gC (some 6) [0] call126 (gDone1 c g cl ep sl wd sn bk fl cm er) (gX [.e 2,.z [0,1,0,1] 5 [0,11,12]] (gQ g (gS [.o [0,1,0,1] 5,.c [1,1]] (gC (some 13) [2,0,1] call112 (gFirstP c g ba cl ep sl wd sn bk fl cm (.func (.func 112) #[vP g] #[]) er A oM oM oM oM oM oM) (gX [.z [0,1,1] 1 [14]] (gS [.o [0,1,1] 1,.c [1,1,1]] (gC (some 15) [0] call126 (gDone0 c g cl ep sl wd (A.ws.getD wd.toNat 0) 0 fl ((A.load wd).steps) (.iface 42 (vI 22))) (gX [] (gJ [2,0,1] ⟨rfl,rfl⟩)))))))))))
theorem gStep1E(c:Cfg)(g ba:Nat)(cl ep sl wd sn bk fl cm:Int)(er:Value)(A:Ar)(hn:A.ws.length=A.n)(hs:0≤A.steps∧A.steps≤1000000000)(hwd:0≤wd∧wd<A.n)(hw:U64 (A.ws.getD wd.toNat 0))(hl:ctlLive (A.ws.getD wd.toNat 0)=true)(he:ctlEpoch (A.ws.getD wd.toNat 0)=ep)(hb:ctlBlock (A.ws.getD wd.toNat 0)=0):
  Ctr prog 227 #[vP g,vP ba] [Ej g c cl ep sl wd (.func (.func 112) #[vP g] #[]) sn bk fl cm er,Eb ba A,Ea A] (Ret (.bool true) [Ej g c cl ep sl wd (.nilFunc) (A.ws.getD wd.toNat 0) 0 fl ((A.load wd).steps) (.iface 42 (vI 20)),Eb ba (A.load wd),Ea (A.load wd)]):=by
 exact cb 16 func227 fun F=>gX [.z [0,0,1] 1 [0,1,5]] (gS [.o [0,0,1] 1,.c [1,0,1],.c [1,1]] (gC (some 6) [0] call126 (gDone1 c g cl ep sl wd sn bk fl cm er) (gX [.e 2,.z [0,1,0,1] 5 [0,11,12]] (gQ g (gS [.o [0,1,0,1] 5,.c [1,1]] (gC (some 13) [2,0,1] call112 (gFirstE c g ba cl ep sl wd sn bk fl cm (.func (.func 112) #[vP g] #[]) er A oM oM oM oM oM oM oM) (gX [.z [0,1,1] 1 [14]] (gS [.o [0,1,1] 1,.c [1,1,1]] (gC (some 15) [0] call126 (gDone0 c g cl ep sl wd (A.ws.getD wd.toNat 0) 0 fl ((A.load wd).steps) (.iface 42 (vI 20))) (gX [] (gJ [2,0,1] ⟨rfl,rfl⟩)))))))))))
theorem gStep1N(c:Cfg)(g ba:Nat)(cl ep sl wd sn bk fl cm:Int)(er:Value)(A:Ar)(hn:A.ws.length=A.n)(hs:0≤A.steps∧A.steps≤1000000000)(hwd:0≤wd∧wd<A.n)(hw:U64 (A.ws.getD wd.toNat 0))(hl:ctlLive (A.ws.getD wd.toNat 0)=true)(he:ctlEpoch (A.ws.getD wd.toNat 0)=ep)(hb:ctlBlock (A.ws.getD wd.toNat 0)≠0):
  Ctr prog 227 #[vP g,vP ba] [Ej g c cl ep sl wd (.func (.func 112) #[vP g] #[]) sn bk fl cm er,Eb ba A,Ea A] (Ret (.bool false) [Ej g c cl ep sl wd (.func (.func 188) #[vP g] #[]) (A.ws.getD wd.toNat 0) (ctlBlock (A.ws.getD wd.toNat 0)) fl ((A.load wd).steps) er,Eb ba (A.load wd),Ea (A.load wd)]):=by
 exact cb 16 func227 fun F=>gX [.z [0,0,1] 1 [0,1,5]] (gS [.o [0,0,1] 1,.c [1,0,1],.c [1,1]] (gC (some 6) [0] call126 (gDone1 c g cl ep sl wd sn bk fl cm er) (gX [.e 2,.z [0,1,0,1] 5 [0,11,12]] (gQ g (gS [.o [0,1,0,1] 5,.c [1,1]] (gC (some 13) [2,0,1] call112 (gFirstN c g ba cl ep sl wd sn bk fl cm (.func (.func 112) #[vP g] #[]) er A oM oM oM oM oM oM oM) (gX [.z [0,1,1] 1 [14]] (gS [.o [0,1,1] 1,.c [1,1,1]] (gC (some 15) [0] call126 (gDone2 c g cl ep sl wd (A.ws.getD wd.toNat 0) (ctlBlock (A.ws.getD wd.toNat 0)) fl ((A.load wd).steps) er) (gX [] (gJ [2,0,1] ⟨rfl,rfl⟩)))))))))))
theorem gStep2(c:Cfg)(g ba:Nat)(cl ep sl wd sn bk fl cm:Int)(er:Value)(A:Ar)(hn:A.ws.length=A.n)(hs:0≤A.steps∧A.steps≤1000000000)(hsl:0≤sl∧sl<A.n)(hcl:0≤cl∧cl≤1000)(hbk:0≤bk∧bk≤65535):
  Ctr prog 227 #[vP g,vP ba] [Ej g c cl ep sl wd (.func (.func 188) #[vP g] #[]) sn bk fl cm er,Eb ba A,Ea A] (Ret (.bool false) [Ej g c cl ep sl wd (.func (.func 200) #[vP g] #[]) sn bk fl cm er,Eb ba (A.store sl (markW cl bk)),Ea (A.store sl (markW cl bk))]):=by
 exact cb 16 func227 fun F=>gX [.z [0,0,1] 1 [0,1,5]] (gS [.o [0,0,1] 1,.c [1,0,1],.c [1,1]] (gC (some 6) [0] call126 (gDone2 c g cl ep sl wd sn bk fl cm er) (gX [.e 2,.z [0,1,0,1] 5 [0,11,12]] (gQ g (gS [.o [0,1,0,1] 5,.c [1,1]] (gC (some 13) [2,0,1] call188 (gSecond c g ba cl ep sl wd sn bk fl cm (.func (.func 188) #[vP g] #[]) er A oM oM oM oM oM) (gX [.z [0,1,1] 1 [14]] (gS [.o [0,1,1] 1,.c [1,1,1]] (gC (some 15) [0] call126 (gDone3 c g cl ep sl wd sn bk fl cm er) (gX [] (gJ [2,0,1] ⟨rfl,rfl⟩)))))))))))
theorem gStep3K(c:Cfg)(g ba:Nat)(cl ep sl wd sn bk fl cm:Int)(er:Value)(A:Ar)(hn:A.ws.length=A.n)(hs:0≤A.steps∧A.steps≤1000000000)(hwd:0≤wd∧wd<A.n)(hw:U64 (A.ws.getD wd.toNat 0))(hf0:0≤fl∧fl≤1000)(hq:(A.ws.getD wd.toNat 0)=sn):
  Ctr prog 227 #[vP g,vP ba] [Ej g c cl ep sl wd (.func (.func 200) #[vP g] #[]) sn bk fl cm er,Eb ba A,Ea A] (Ret (.bool true) [Ead g c cl ep sl wd (.nilFunc) sn bk fl ((A.load wd).steps),Eb ba (A.load wd),Ea (A.load wd)]):=by
 exact cb 16 func227 fun F=>gX [.z [0,0,1] 1 [0,1,5]] (gS [.o [0,0,1] 1,.c [1,0,1],.c [1,1]] (gC (some 6) [0] call126 (gDone3 c g cl ep sl wd sn bk fl cm er) (gX [.e 2,.z [0,1,0,1] 5 [0,11,12]] (gQ g (gS [.o [0,1,0,1] 5,.c [1,1]] (gC (some 13) [2,0,1] call200 (gThirdK c g ba cl ep sl wd sn bk fl cm (.func (.func 200) #[vP g] #[]) er A oM oM oM oM oM oM) (gX [.z [0,1,1] 1 [14]] (gS [.o [0,1,1] 1,.c [1,1,1]] (gC (some 15) [0] call126 (gDone0 c g cl ep sl wd sn bk fl ((A.load wd).steps) (.nilIface)) (gX [] (gJ [2,0,1] ⟨rfl,rfl⟩)))))))))))
theorem gStep3R(c:Cfg)(g ba:Nat)(cl ep sl wd sn bk fl cm:Int)(er:Value)(A:Ar)(hn:A.ws.length=A.n)(hs:0≤A.steps∧A.steps≤1000000000)(hwd:0≤wd∧wd<A.n)(hw:U64 (A.ws.getD wd.toNat 0))(hf0:0≤fl∧fl≤1000)(hq:(A.ws.getD wd.toNat 0)≠sn)(hr:fl+1=c.retry):
  Ctr prog 227 #[vP g,vP ba] [Ej g c cl ep sl wd (.func (.func 200) #[vP g] #[]) sn bk fl cm er,Eb ba A,Ea A] (Ret (.bool true) [Ej g c cl ep sl wd (.nilFunc) sn 0 (fl+1) ((A.load wd).steps) (.iface 42 (vI 17)),Eb ba (A.load wd),Ea (A.load wd)]):=by
 exact cb 16 func227 fun F=>gX [.z [0,0,1] 1 [0,1,5]] (gS [.o [0,0,1] 1,.c [1,0,1],.c [1,1]] (gC (some 6) [0] call126 (gDone3 c g cl ep sl wd sn bk fl cm er) (gX [.e 2,.z [0,1,0,1] 5 [0,11,12]] (gQ g (gS [.o [0,1,0,1] 5,.c [1,1]] (gC (some 13) [2,0,1] call200 (gThirdR c g ba cl ep sl wd sn bk fl cm (.func (.func 200) #[vP g] #[]) er A oM oM oM oM oM oM oM) (gX [.z [0,1,1] 1 [14]] (gS [.o [0,1,1] 1,.c [1,1,1]] (gC (some 15) [0] call126 (gDone0 c g cl ep sl wd sn 0 (fl+1) ((A.load wd).steps) (.iface 42 (vI 17))) (gX [] (gJ [2,0,1] ⟨rfl,rfl⟩)))))))))))
theorem gStep3D(c:Cfg)(g ba:Nat)(cl ep sl wd sn bk fl cm:Int)(er:Value)(A:Ar)(hn:A.ws.length=A.n)(hs:0≤A.steps∧A.steps≤1000000000)(hwd:0≤wd∧wd<A.n)(hw:U64 (A.ws.getD wd.toNat 0))(hf0:0≤fl∧fl≤1000)(hq:(A.ws.getD wd.toNat 0)≠sn)(hr:fl+1≠c.retry)(hl:ctlLive (A.ws.getD wd.toNat 0)=false):
  Ctr prog 227 #[vP g,vP ba] [Ej g c cl ep sl wd (.func (.func 200) #[vP g] #[]) sn bk fl cm er,Eb ba A,Ea A] (Ret (.bool true) [Ej g c cl ep sl wd (.nilFunc) (A.ws.getD wd.toNat 0) 0 (fl+1) ((A.load wd).steps) (.iface 42 (vI 22)),Eb ba (A.load wd),Ea (A.load wd)]):=by
 exact cb 16 func227 fun F=>gX [.z [0,0,1] 1 [0,1,5]] (gS [.o [0,0,1] 1,.c [1,0,1],.c [1,1]] (gC (some 6) [0] call126 (gDone3 c g cl ep sl wd sn bk fl cm er) (gX [.e 2,.z [0,1,0,1] 5 [0,11,12]] (gQ g (gS [.o [0,1,0,1] 5,.c [1,1]] (gC (some 13) [2,0,1] call200 (gThirdD c g ba cl ep sl wd sn bk fl cm (.func (.func 200) #[vP g] #[]) er A oM oM oM oM oM oM oM oM) (gX [.z [0,1,1] 1 [14]] (gS [.o [0,1,1] 1,.c [1,1,1]] (gC (some 15) [0] call126 (gDone0 c g cl ep sl wd (A.ws.getD wd.toNat 0) 0 (fl+1) ((A.load wd).steps) (.iface 42 (vI 22))) (gX [] (gJ [2,0,1] ⟨rfl,rfl⟩)))))))))))
theorem gStep3P(c:Cfg)(g ba:Nat)(cl ep sl wd sn bk fl cm:Int)(er:Value)(A:Ar)(hn:A.ws.length=A.n)(hs:0≤A.steps∧A.steps≤1000000000)(hwd:0≤wd∧wd<A.n)(hw:U64 (A.ws.getD wd.toNat 0))(hf0:0≤fl∧fl≤1000)(hq:(A.ws.getD wd.toNat 0)≠sn)(hr:fl+1≠c.retry)(hl:ctlLive (A.ws.getD wd.toNat 0)=true)(he:ctlEpoch (A.ws.getD wd.toNat 0)≠ep):
  Ctr prog 227 #[vP g,vP ba] [Ej g c cl ep sl wd (.func (.func 200) #[vP g] #[]) sn bk fl cm er,Eb ba A,Ea A] (Ret (.bool true) [Ej g c cl ep sl wd (.nilFunc) (A.ws.getD wd.toNat 0) 0 (fl+1) ((A.load wd).steps) (.iface 42 (vI 22)),Eb ba (A.load wd),Ea (A.load wd)]):=by
 exact cb 16 func227 fun F=>gX [.z [0,0,1] 1 [0,1,5]] (gS [.o [0,0,1] 1,.c [1,0,1],.c [1,1]] (gC (some 6) [0] call126 (gDone3 c g cl ep sl wd sn bk fl cm er) (gX [.e 2,.z [0,1,0,1] 5 [0,11,12]] (gQ g (gS [.o [0,1,0,1] 5,.c [1,1]] (gC (some 13) [2,0,1] call200 (gThirdP c g ba cl ep sl wd sn bk fl cm (.func (.func 200) #[vP g] #[]) er A oM oM oM oM oM oM oM oM oM) (gX [.z [0,1,1] 1 [14]] (gS [.o [0,1,1] 1,.c [1,1,1]] (gC (some 15) [0] call126 (gDone0 c g cl ep sl wd (A.ws.getD wd.toNat 0) 0 (fl+1) ((A.load wd).steps) (.iface 42 (vI 22))) (gX [] (gJ [2,0,1] ⟨rfl,rfl⟩)))))))))))
theorem gStep3E(c:Cfg)(g ba:Nat)(cl ep sl wd sn bk fl cm:Int)(er:Value)(A:Ar)(hn:A.ws.length=A.n)(hs:0≤A.steps∧A.steps≤1000000000)(hwd:0≤wd∧wd<A.n)(hw:U64 (A.ws.getD wd.toNat 0))(hf0:0≤fl∧fl≤1000)(hq:(A.ws.getD wd.toNat 0)≠sn)(hr:fl+1≠c.retry)(hl:ctlLive (A.ws.getD wd.toNat 0)=true)(he:ctlEpoch (A.ws.getD wd.toNat 0)=ep)(hb:ctlBlock (A.ws.getD wd.toNat 0)=0):
  Ctr prog 227 #[vP g,vP ba] [Ej g c cl ep sl wd (.func (.func 200) #[vP g] #[]) sn bk fl cm er,Eb ba A,Ea A] (Ret (.bool true) [Ej g c cl ep sl wd (.nilFunc) (A.ws.getD wd.toNat 0) 0 (fl+1) ((A.load wd).steps) (.iface 42 (vI 20)),Eb ba (A.load wd),Ea (A.load wd)]):=by
 exact cb 16 func227 fun F=>gX [.z [0,0,1] 1 [0,1,5]] (gS [.o [0,0,1] 1,.c [1,0,1],.c [1,1]] (gC (some 6) [0] call126 (gDone3 c g cl ep sl wd sn bk fl cm er) (gX [.e 2,.z [0,1,0,1] 5 [0,11,12]] (gQ g (gS [.o [0,1,0,1] 5,.c [1,1]] (gC (some 13) [2,0,1] call200 (gThirdE c g ba cl ep sl wd sn bk fl cm (.func (.func 200) #[vP g] #[]) er A oM oM oM oM oM oM oM oM oM oM) (gX [.z [0,1,1] 1 [14]] (gS [.o [0,1,1] 1,.c [1,1,1]] (gC (some 15) [0] call126 (gDone0 c g cl ep sl wd (A.ws.getD wd.toNat 0) 0 (fl+1) ((A.load wd).steps) (.iface 42 (vI 20))) (gX [] (gJ [2,0,1] ⟨rfl,rfl⟩)))))))))))
theorem gStep3N(c:Cfg)(g ba:Nat)(cl ep sl wd sn bk fl cm:Int)(er:Value)(A:Ar)(hn:A.ws.length=A.n)(hs:0≤A.steps∧A.steps≤1000000000)(hwd:0≤wd∧wd<A.n)(hw:U64 (A.ws.getD wd.toNat 0))(hf0:0≤fl∧fl≤1000)(hq:(A.ws.getD wd.toNat 0)≠sn)(hr:fl+1≠c.retry)(hl:ctlLive (A.ws.getD wd.toNat 0)=true)(he:ctlEpoch (A.ws.getD wd.toNat 0)=ep)(hb:ctlBlock (A.ws.getD wd.toNat 0)≠0):
  Ctr prog 227 #[vP g,vP ba] [Ej g c cl ep sl wd (.func (.func 200) #[vP g] #[]) sn bk fl cm er,Eb ba A,Ea A] (Ret (.bool false) [Ej g c cl ep sl wd (.func (.func 188) #[vP g] #[]) (A.ws.getD wd.toNat 0) (ctlBlock (A.ws.getD wd.toNat 0)) (fl+1) ((A.load wd).steps) er,Eb ba (A.load wd),Ea (A.load wd)]):=by
 exact cb 16 func227 fun F=>gX [.z [0,0,1] 1 [0,1,5]] (gS [.o [0,0,1] 1,.c [1,0,1],.c [1,1]] (gC (some 6) [0] call126 (gDone3 c g cl ep sl wd sn bk fl cm er) (gX [.e 2,.z [0,1,0,1] 5 [0,11,12]] (gQ g (gS [.o [0,1,0,1] 5,.c [1,1]] (gC (some 13) [2,0,1] call200 (gThirdN c g ba cl ep sl wd sn bk fl cm (.func (.func 200) #[vP g] #[]) er A oM oM oM oM oM oM oM oM oM oM) (gX [.z [0,1,1] 1 [14]] (gS [.o [0,1,1] 1,.c [1,1,1]] (gC (some 15) [0] call126 (gDone2 c g cl ep sl wd (A.ws.getD wd.toNat 0) (ctlBlock (A.ws.getD wd.toNat 0)) (fl+1) ((A.load wd).steps) er) (gX [] (gJ [2,0,1] ⟨rfl,rfl⟩)))))))))))
end Go.Proofs.YtpcaijopodhdgaaGreatDoor
namespace Go.Proofs.YtpcaijopodhdgaaGreatDoor
open Go.Proofs.Tryz
open Go.Sx
noncomputable abbrev Em(x0:Nat)(c1:Cfg)(g2:Gu)(x3:Nat): Ent:=.pts x0 [.int .i64 c1.topics,.int .i64 c1.small,.int .i64 c1.slots,.int .i64 c1.clients,.int .i64 c1.s0,.int .i64 c1.n0,.int .i64 c1.s1,.int .i64 c1.n1,.int .i64 c1.retry,.int .i64 g2.client,.int .i64 g2.epoch,.int .i64 g2.slot,.int .i64 g2.word,(nxG x3 g2.ph),.int .u64 g2.seen,.int .i64 g2.block,.int .i64 g2.failed,.int .i64 g2.commit,(errV g2.code)] 180
abbrev qaj: List Nat:=[0,0,1,1,1,0,0,1]
abbrev qbG: List Nat:=[1,0,1,1,1,0,0,1]
theorem guard_Step(c:Cfg)(g ba:Nat)(G:Gu)(A:Ar)(hc:c.Ok)(hn:A.ws.length=A.n)(hs:0≤A.steps∧A.steps≤1000000000)(hR:RngW A.ws)(hG:Gu.Ok c A.n G):
  Ctr prog 227 #[vP g,vP ba] [Em g c G g,Eb ba A,Ea A] (Ret (.bool ((G.step c.retry A).1.ph==0)) [Em g c ((G.step c.retry A).1) g,Eb ba ((G.step c.retry A).2),Ea ((G.step c.retry A).2)]):=by
 obtain⟨cl,ep,sl,wd,sn,bk,fl,cm,cd,ph⟩:=G
 obtain⟨hph,hsl,hwd,hcl,hbk,hf0,_⟩:=hG
 simp only at hph hsl hwd hcl hbk hf0
 have hc':=hc
 simp only [Cfg.Ok] at hc'
 have hw:U64 (A.ws.getD wd.toNat 0):=hR _
 match ph,hph with
 | 0,_=>exact gStep0 c g ba cl ep sl wd sn bk fl cm (errV cd) A
 | 1,_=>
  by_cases hl:ctlLive (A.ws.getD wd.toNat 0)=true
  ·by_cases he:ctlEpoch (A.ws.getD wd.toNat 0)=ep
   ·by_cases hb:ctlBlock (A.ws.getD wd.toNat 0)=0
    ·have e:Gu.step c.retry (⟨cl,ep,sl,wd,sn,bk,fl,cm,cd,1⟩:Gu) A=((⟨cl,ep,sl,wd,(A.ws.getD wd.toNat 0),0,fl,(A.load wd).steps,20,0⟩:Gu),A.load wd):=by
      show(Gu.look _ _,_) = _
      rw [Gu.look_E _ hl he hb]
     rw [e]; exact gStep1E c g ba cl ep sl wd sn bk fl cm (errV cd) A hn hs hwd hw hl he hb
    ·have e:Gu.step c.retry (⟨cl,ep,sl,wd,sn,bk,fl,cm,cd,1⟩:Gu) A=((⟨cl,ep,sl,wd,(A.ws.getD wd.toNat 0),(ctlBlock (A.ws.getD wd.toNat 0)),fl,(A.load wd).steps,cd,2⟩:Gu),A.load wd):=by
      show(Gu.look _ _,_) = _
      rw [Gu.look_N _ hl he hb]
     rw [e]; exact gStep1N c g ba cl ep sl wd sn bk fl cm (errV cd) A hn hs hwd hw hl he hb
   ·have e:Gu.step c.retry (⟨cl,ep,sl,wd,sn,bk,fl,cm,cd,1⟩:Gu) A=((⟨cl,ep,sl,wd,(A.ws.getD wd.toNat 0),0,fl,(A.load wd).steps,22,0⟩:Gu),A.load wd):=by
     show(Gu.look _ _,_) = _
     rw [Gu.look_P _ he]
    rw [e]; exact gStep1P c g ba cl ep sl wd sn bk fl cm (errV cd) A hn hs hwd hw hl he
  ·have hl:=(Bool.not_eq_true _).mp hl
   have e:Gu.step c.retry (⟨cl,ep,sl,wd,sn,bk,fl,cm,cd,1⟩:Gu) A=((⟨cl,ep,sl,wd,(A.ws.getD wd.toNat 0),0,fl,(A.load wd).steps,22,0⟩:Gu),A.load wd):=by
    show(Gu.look _ _,_) = _
    rw [Gu.look_D _ hl]
   rw [e]; exact gStep1D c g ba cl ep sl wd sn bk fl cm (errV cd) A hn hs hwd hw hl
 | 2,_=>exact gStep2 c g ba cl ep sl wd sn bk fl cm (errV cd) A hn hs hsl oa hbk
 | 3,_=>
  by_cases hq:(A.ws.getD wd.toNat 0)=sn
  ·have e:Gu.step c.retry (⟨cl,ep,sl,wd,sn,bk,fl,cm,cd,3⟩:Gu) A=((⟨cl,ep,sl,wd,sn,bk,fl,(A.load wd).steps,0,0⟩:Gu),A.load wd):=by
    show(if _ then _ else _) = _
    rw [if_pos hq]
   rw [e]; exact gStep3K c g ba cl ep sl wd sn bk fl cm (errV cd) A hn hs hwd hw hf0 hq
  ·by_cases hr:fl+1=c.retry
   ·have e:Gu.step c.retry (⟨cl,ep,sl,wd,sn,bk,fl,cm,cd,3⟩:Gu) A=((⟨cl,ep,sl,wd,sn,0,(fl+1),(A.load wd).steps,17,0⟩:Gu),A.load wd):=by
     show(if _ then _ else _) = _
     rw [if_neg hq,if_pos hr]
    rw [e]; exact gStep3R c g ba cl ep sl wd sn bk fl cm (errV cd) A hn hs hwd hw hf0 hq hr
   ·by_cases hl:ctlLive (A.ws.getD wd.toNat 0)=true
    ·by_cases he:ctlEpoch (A.ws.getD wd.toNat 0)=ep
     ·by_cases hb:ctlBlock (A.ws.getD wd.toNat 0)=0
      ·have e:Gu.step c.retry (⟨cl,ep,sl,wd,sn,bk,fl,cm,cd,3⟩:Gu) A=((⟨cl,ep,sl,wd,(A.ws.getD wd.toNat 0),0,(fl+1),(A.load wd).steps,20,0⟩:Gu),A.load wd):=by
        show(if _ then _ else _) = _
        rw [if_neg hq,if_neg hr,Gu.look_E _ hl he hb]
       rw [e]; exact gStep3E c g ba cl ep sl wd sn bk fl cm (errV cd) A hn hs hwd hw hf0 hq hr hl he hb
      ·have e:Gu.step c.retry (⟨cl,ep,sl,wd,sn,bk,fl,cm,cd,3⟩:Gu) A=((⟨cl,ep,sl,wd,(A.ws.getD wd.toNat 0),(ctlBlock (A.ws.getD wd.toNat 0)),(fl+1),(A.load wd).steps,cd,2⟩:Gu),A.load wd):=by
        show(if _ then _ else _) = _
        rw [if_neg hq,if_neg hr,Gu.look_N _ hl he hb]
       rw [e]; exact gStep3N c g ba cl ep sl wd sn bk fl cm (errV cd) A hn hs hwd hw hf0 hq hr hl he hb
     ·have e:Gu.step c.retry (⟨cl,ep,sl,wd,sn,bk,fl,cm,cd,3⟩:Gu) A=((⟨cl,ep,sl,wd,(A.ws.getD wd.toNat 0),0,(fl+1),(A.load wd).steps,22,0⟩:Gu),A.load wd):=by
       show(if _ then _ else _) = _
       rw [if_neg hq,if_neg hr,Gu.look_P _ he]
      rw [e]; exact gStep3P c g ba cl ep sl wd sn bk fl cm (errV cd) A hn hs hwd hw hf0 hq hr hl he
    ·have hl:=(Bool.not_eq_true _).mp hl
     have e:Gu.step c.retry (⟨cl,ep,sl,wd,sn,bk,fl,cm,cd,3⟩:Gu) A=((⟨cl,ep,sl,wd,(A.ws.getD wd.toNat 0),0,(fl+1),(A.load wd).steps,22,0⟩:Gu),A.load wd):=by
      show(if _ then _ else _) = _
      rw [if_neg hq,if_neg hr,Gu.look_D _ hl]
     rw [e]; exact gStep3D c g ba cl ep sl wd sn bk fl cm (errV cd) A hn hs hwd hw hf0 hq hr hl
 | n+4,h=>omega
theorem guard_Done(c:Cfg)(g:Nat)(G:Gu)(hph:G.ph≤3):
  Ctr prog 126 #[vP g] [Em g c G g] (Ret (.bool (G.ph==0)) [Em g c G g]):=by
 obtain⟨cl,ep,sl,wd,sn,bk,fl,cm,cd,ph⟩:=G
 simp only at hph
 match ph,hph with
 | 0,_=>exact gDone0 c g cl ep sl wd sn bk fl cm (errV cd)
 | 1,_=>exact gDone1 c g cl ep sl wd sn bk fl cm (errV cd)
 | 2,_=>exact gDone2 c g cl ep sl wd sn bk fl cm (errV cd)
 | 3,_=>exact gDone3 c g cl ep sl wd sn bk fl cm (errV cd)
 | n+4,h=>omega
theorem gTold0(c:Cfg)(g:Nat)(cl ep sl wd sn bk fl cm:Int)(er:Value):
  Ctr prog 113 #[vP g] [Ej g c cl ep sl wd (.nilFunc) sn bk fl cm er] (Ret (.tuple #[vI bk,er]) [Ej g c cl ep sl wd (.nilFunc) sn bk fl cm er]):=by
 exact cb 21 func113 fun F=>gX [.z [0,1,1,0,0,1] 1 [0,9]] (gS [.o [0,1,1,0,0,1] 1,.c [1,1,1,0,0,1],.b 0,.c [1,1]] (gC (some 10) [0] call126 (gDone0 c g cl ep sl wd sn bk fl cm er) (gX [.z [0,1,1] 0 [0]] (gS [.c [0,1,1],.c [1,1,1]] (qG (kV 0 [.ww,.ww,.ww,.e 0,.ww,.ww,.ww,.e 0,.ww,.ww]) [2,3] (.e g (.e g .n)) .n (gX [] (gJ [0] ⟨rfl,rfl⟩)))))))
theorem gTold1(c:Cfg)(g:Nat)(cl ep sl wd sn bk fl cm:Int)(er:Value):
  Ctr prog 113 #[vP g] [Ej g c cl ep sl wd (.func (.func 112) #[vP g] #[]) sn bk fl cm er] (Ret (.tuple #[vI 0,.iface 42 (vI 13)]) [Ej g c cl ep sl wd (.func (.func 112) #[vP g] #[]) sn bk fl cm er]):=by
 exact cb 21 func113 fun F=>gX [.z [0,1,1,0,0,1] 1 [0,9]] (gS [.o [0,1,1,0,0,1] 1,.c [1,1,1,0,0,1],.b 0,.c [1,1]] (gC (some 10) [0] call126 (gDone1 c g cl ep sl wd sn bk fl cm er) (gX [.z qaj 0 []] (gS [.o qaj 0,.c qbG,.b 0,.c [1,1]] (gC (some 12) [] call46 (cause_NewE 13 oc) (gX [] (gJ [0] ⟨rfl,rfl⟩)))))))
theorem gTold2(c:Cfg)(g:Nat)(cl ep sl wd sn bk fl cm:Int)(er:Value):
  Ctr prog 113 #[vP g] [Ej g c cl ep sl wd (.func (.func 188) #[vP g] #[]) sn bk fl cm er] (Ret (.tuple #[vI 0,.iface 42 (vI 13)]) [Ej g c cl ep sl wd (.func (.func 188) #[vP g] #[]) sn bk fl cm er]):=by
 exact cb 21 func113 fun F=>gX [.z [0,1,1,0,0,1] 1 [0,9]] (gS [.o [0,1,1,0,0,1] 1,.c [1,1,1,0,0,1],.b 0,.c [1,1]] (gC (some 10) [0] call126 (gDone2 c g cl ep sl wd sn bk fl cm er) (gX [.z qaj 0 []] (gS [.o qaj 0,.c qbG,.b 0,.c [1,1]] (gC (some 12) [] call46 (cause_NewE 13 oc) (gX [] (gJ [0] ⟨rfl,rfl⟩)))))))
theorem gTold3(c:Cfg)(g:Nat)(cl ep sl wd sn bk fl cm:Int)(er:Value):
  Ctr prog 113 #[vP g] [Ej g c cl ep sl wd (.func (.func 200) #[vP g] #[]) sn bk fl cm er] (Ret (.tuple #[vI 0,.iface 42 (vI 13)]) [Ej g c cl ep sl wd (.func (.func 200) #[vP g] #[]) sn bk fl cm er]):=by
 exact cb 21 func113 fun F=>gX [.z [0,1,1,0,0,1] 1 [0,9]] (gS [.o [0,1,1,0,0,1] 1,.c [1,1,1,0,0,1],.b 0,.c [1,1]] (gC (some 10) [0] call126 (gDone3 c g cl ep sl wd sn bk fl cm er) (gX [.z qaj 0 []] (gS [.o qaj 0,.c qbG,.b 0,.c [1,1]] (gC (some 12) [] call46 (cause_NewE 13 oc) (gX [] (gJ [0] ⟨rfl,rfl⟩)))))))
theorem guard_Told(c:Cfg)(g:Nat)(G:Gu)(hph:G.ph≤3):
  Ctr prog 113 #[vP g] [Em g c G g] (Ret (.tuple #[vI ((Gu.told G).1),(errV (Gu.told G).2)]) [Em g c G g]):=by
 obtain⟨cl,ep,sl,wd,sn,bk,fl,cm,cd,ph⟩:=G
 simp only at hph
 match ph,hph with
 | 0,_=>exact gTold0 c g cl ep sl wd sn bk fl cm (errV cd)
 | 1,_=>exact gTold1 c g cl ep sl wd sn bk fl cm (errV cd)
 | 2,_=>exact gTold2 c g cl ep sl wd sn bk fl cm (errV cd)
 | 3,_=>exact gTold3 c g cl ep sl wd sn bk fl cm (errV cd)
 | n+4,h=>omega
theorem gCommit0(c:Cfg)(g:Nat)(cl ep sl wd sn bk fl cm:Int)(er:Value):
  Ctr prog 63 #[vP g] [Ej g c cl ep sl wd (.nilFunc) sn bk fl cm er] (Ret (vI cm) [Ej g c cl ep sl wd (.nilFunc) sn bk fl cm er]):=by
 exact cb 14 func63 fun F=>gX [.z [0,0,1] 4 [0,5,6]] (gS [.o [0,0,1] 4,.c [1,0,1],.c [1,1]] (gC (some 7) [0] call126 (gDone0 c g cl ep sl wd sn bk fl cm er) (gX [.e 0] (gQ g (gJ [0] ⟨rfl,rfl⟩)))))
theorem gCommit1(c:Cfg)(g:Nat)(cl ep sl wd sn bk fl cm:Int)(er:Value):
  Ctr prog 63 #[vP g] [Ej g c cl ep sl wd (.func (.func 112) #[vP g] #[]) sn bk fl cm er] (Ret (vI 0) [Ej g c cl ep sl wd (.func (.func 112) #[vP g] #[]) sn bk fl cm er]):=by
 exact cb 14 func63 fun F=>gX [.z [0,0,1] 4 [0,5,6]] (gS [.o [0,0,1] 4,.c [1,0,1],.c [1,1]] (gC (some 7) [0] call126 (gDone1 c g cl ep sl wd sn bk fl cm er) (gX [] (gJ [0] ⟨rfl,rfl⟩))))
theorem gCommit2(c:Cfg)(g:Nat)(cl ep sl wd sn bk fl cm:Int)(er:Value):
  Ctr prog 63 #[vP g] [Ej g c cl ep sl wd (.func (.func 188) #[vP g] #[]) sn bk fl cm er] (Ret (vI 0) [Ej g c cl ep sl wd (.func (.func 188) #[vP g] #[]) sn bk fl cm er]):=by
 exact cb 14 func63 fun F=>gX [.z [0,0,1] 4 [0,5,6]] (gS [.o [0,0,1] 4,.c [1,0,1],.c [1,1]] (gC (some 7) [0] call126 (gDone2 c g cl ep sl wd sn bk fl cm er) (gX [] (gJ [0] ⟨rfl,rfl⟩))))
theorem gCommit3(c:Cfg)(g:Nat)(cl ep sl wd sn bk fl cm:Int)(er:Value):
  Ctr prog 63 #[vP g] [Ej g c cl ep sl wd (.func (.func 200) #[vP g] #[]) sn bk fl cm er] (Ret (vI 0) [Ej g c cl ep sl wd (.func (.func 200) #[vP g] #[]) sn bk fl cm er]):=by
 exact cb 14 func63 fun F=>gX [.z [0,0,1] 4 [0,5,6]] (gS [.o [0,0,1] 4,.c [1,0,1],.c [1,1]] (gC (some 7) [0] call126 (gDone3 c g cl ep sl wd sn bk fl cm er) (gX [] (gJ [0] ⟨rfl,rfl⟩))))
theorem gCommit_nil:
  Ctr prog 63 #[.pointer none] [] (Ret (vI 0) []):=by
 exact cb 14 func63 fun F=>gX [] (gR (vI 0) [] ⟨rfl,rfl⟩)
theorem guard_Commit(c:Cfg)(g:Nat)(G:Gu)(hph:G.ph≤3):
  Ctr prog 63 #[vP g] [Em g c G g] (Ret (vI (Gu.comm G)) [Em g c G g]):=by
 obtain⟨cl,ep,sl,wd,sn,bk,fl,cm,cd,ph⟩:=G
 simp only at hph
 match ph,hph with
 | 0,_=>exact gCommit0 c g cl ep sl wd sn bk fl cm (errV cd)
 | 1,_=>exact gCommit1 c g cl ep sl wd sn bk fl cm (errV cd)
 | 2,_=>exact gCommit2 c g cl ep sl wd sn bk fl cm (errV cd)
 | 3,_=>exact gCommit3 c g cl ep sl wd sn bk fl cm (errV cd)
 | n+4,h=>omega
theorem guard_New(c:Cfg)(cl sl tp ep:Int)(hc:c.Ok)(hcl:0≤cl∧cl<c.clients)(hsl:0≤sl∧sl<c.slots)(htp:0≤tp∧tp<c.topics):
  Ctr prog 58 #[cfgV c,vI cl,vI sl,vI tp,vI ep] [] (fun v L => ∃(g:Nat),v=vP g∧L=[Em g c (newGu c cl sl tp ep) g]):=by
 refine cb 46 func58 fun F=>gX [.z [0,1] 0 [1,2,3,4,5]] (gN fun b_1=>gW (ks:=[.c [0,1],.c [1,1]]) [(1,vI cl),(2,vI sl),(3,vI tp),(4,vI ep),(5,vP b_1)] [Ef b_1 c] ?_)
 refine tO (kV 0 [.e 0,.ww,.ww,.e 0,.ww,.q (vI (slotAt c sl)),.e 0,.ww,.q (vI (ctlAt c tp)),.ww]) 10 (kV 11 [.ww]) .w [1,5,11] (.e b_1 (.e b_1 (.e b_1 .n))) (.c call111 (qR [] (plan_Slot c sl oM)) (.c call48 (qR [] (plan_Control c tp oM)) .n)) (sN fun b_2=>(sV ?_))
 refine tN .n ?_
 exact gX [.z [0,0,1,1] 0 [1,5,11]] (gS [.c [0,0,1,1],.c [1,0,1,1],.c [1,1,1]] (qG (kV 0 [.ww,.ww,.ww,.e 1,.ww,.ww,.ww,.e 1,.ww,.ww,.t false,.ww,.ww,.ww,.e 0,.t false,.ww]) [11,39] (.e b_2 (.e b_2 (.p ((decide ((bMin (bMin (slotAt c sl) (ctlAt c tp)) cl)<0))=false) (decide_eq_false (by have h1:=ctlAt_pos hc htp; have h2:=slotAt_ok hc hsl; unfold bMin; (repeat' split) <;> omega)) (.e b_1 (.p ((decide (cl≥c.clients))=false) (decide_eq_false oa) .n))))) .n (gX [.e 1] (gQ b_2 (gJ [1] ⟨b_2,rfl,rfl⟩)))))
end Go.Proofs.YtpcaijopodhdgaaGreatDoor
namespace Go.Proofs.YtpcaijopodhdgaaGreatDoor
open Go.Proofs.Tryz
open Go.Sx
abbrev Ep(x0:Nat)(c1:Cfg)(x2:Int)(x3:Int)(x4:Int)(x5:Int)(x6:Int)(x7:Int)(x8:Int)(x9:Int)(x10:Int)(x11:Int): Ent:=.pts x0 [.int .i64 c1.topics,.int .i64 c1.small,.int .i64 c1.slots,.int .i64 c1.clients,.int .i64 c1.s0,.int .i64 c1.n0,.int .i64 c1.s1,.int .i64 c1.n1,.int .i64 c1.retry,.int .i64 x2,.int .i64 x3,.int .i64 x4,.int .i64 x5,.int .i64 x6,.int .i64 x7,.int .i64 x8,.int .i64 x9,.int .u64 x10,.int .i64 x11] 162
abbrev Es(x0:Nat)(c1:Cfg)(g2:Gu)(x3:Int)(x4:Int): Ent:=.pts x0 [.int .i64 c1.topics,.int .i64 c1.small,.int .i64 c1.slots,.int .i64 c1.clients,.int .i64 c1.s0,.int .i64 c1.n0,.int .i64 c1.s1,.int .i64 c1.n1,.int .i64 c1.retry,.int .i64 g2.client,.int .i64 x3,.int .i64 x4,.int .i64 g2.epoch,.int .i64 (g2.ph:Int),.int .i64 g2.failed,.int .i64 g2.block,.int .i64 g2.commit,.int .u64 g2.seen,.int .i64 g2.code] 162
abbrev qco: List Nat:=[0,1,1,1,1,1,1,1]
abbrev qM: List Nat:=[0,0,1,0,1,0,1]
abbrev qaU: List Nat:=[1,0,1,0,1,0,1]
abbrev qN: List Nat:=[1,1,0,1,0,1,0,1]
abbrev qcp: List Nat:=[0,0,1,1,1,0,1,0,1]
abbrev qp: List Nat:=[0,0,1,1,1,1,1,0,1,0,1]
abbrev qak: List Nat:=[1,0,1,1,1,1,1,0,1,0,1]
abbrev qcq: List Nat:=[0,0,1,0,1,1,0,1,1,1,1,1,0,1,0,1]
abbrev qu: List Nat:=[0,1,1,1,1,0,1,1,1,1,1,0,1,0,1]
abbrev qav: List Nat:=[1,1,1,1,1,0,1,1,1,1,1,0,1,0,1]
abbrev qcr: List Nat:=[0,1,1,1,1,1,0,1,1,1,1,1,0,1,0,1]
abbrev qO: List Nat:=[1,1,1,1,1,1,0,1,1,1,1,1,0,1,0,1]
abbrev qaV: List Nat:=[0,1,0,1,1,1,1,1]
abbrev qP: List Nat:=[0,1,0,1,1,1,1,1,1]
abbrev qf: List Nat:=[1,1,1,1,1,1,1]
abbrev qQ: List Nat:=[0,0,0,0,1,0,1,1,1,1,1,1]
abbrev qaW: List Nat:=[1,0,0,0,1,0,1,1,1,1,1,1]
abbrev qaX: List Nat:=[1,0,0,1,0,1,1,1,1,1,1]
abbrev qS: List Nat:=[0,0,0,1,0,0,1,0,1,1,1,1,1,1]
abbrev qU: List Nat:=[0,1,0,1,1,1,1,1,1,1]
abbrev qaY: List Nat:=[1,0,0,1,0,0,1,0,1,1,1,1,1,1]
abbrev qV: List Nat:=[1,1,0,0,1,0,1,1,1,1,1,1]
abbrev qW: List Nat:=[0,1,0,0,1,0,0,1,0,1,1,1,1,1,1]
abbrev qq: List Nat:=[1,1,1,1,1,1,1,1]
theorem ref_Control(c:Cfg)(i:Int)(hc:c.Ok)(hi:0≤i∧i<c.topics):
  Ctr prog 79 #[cfgV c,vI i] [] (Ret (vI (ctlAt c i)) []):=by
 exact cb 26 func79 fun F=>gX [.sp [7,6] [.dead] [.e 0,.sp [12,11] [.dead] [.e 0,.n,.e 0,.n,.e 0,.n,.n,.n,.n]]] (gN fun b_1=>gQ (decide (i<0)) (gF (decide (i<0)) ol (gQ b_1 (gQ (decide (i≥c.topics)) (gF (decide (i≥c.topics)) ol (gQ b_1 (gO (InK .i64 (5+c.slots)) (by have hnl:=ctl_nl hc hi; simp only [Cfg.Ok,InK] at *; omega) (gQ b_1 (gO (InK .i64 ((5+c.slots)+c.topics)) (by have hnl:=ctl_nl hc hi; simp only [Cfg.Ok,InK] at *; omega) (gQ b_1 (gO (InK .i64 (2*c.small)) (by have hnl:=ctl_nl hc hi; simp only [Cfg.Ok,InK] at *; omega) (gO (InK .i64 (1+(2*c.small))) (by have hnl:=ctl_nl hc hi; simp only [Cfg.Ok,InK] at *; omega) (gO (InK .i64 (i*(1+(2*c.small)))) (by have hnl:=ctl_nl hc hi; simp only [Cfg.Ok,InK] at *; omega) (gO (InK .i64 (((5+c.slots)+c.topics)+(i*(1+(2*c.small))))) (by have hnl:=ctl_nl hc hi; simp only [Cfg.Ok,InK] at *; omega) (gI (vI (((5+c.slots)+c.topics)+(i*(1+(2*c.small))))) [] ⟨(congrArg (Value.int .i64) (by unfold ctlAt; rw [if_pos hi])),rfl⟩)))))))))))))))
theorem r14End0(c:Cfg)(g:Nat)(cl ep sl tp sn bk fl cm cd:Int)(at_:Int):
  Ctr prog 149 #[vP g,vI 0] [Ep g c cl sl tp ep at_ fl bk cm sn cd] (Ret (undef) [Ep g c cl sl tp ep 0 fl bk cm sn 0]):=by
 exact cb 16 func149 fun F=>gX [.e 0,.e 0] (gQ g (gQ g (gJ [0] ⟨rfl,rfl⟩)))
theorem r14EndE(c:Cfg)(g:Nat)(cl ep sl tp sn bk fl cm cd:Int)(at_ k_:Int)(hk:k_≠0):
  Ctr prog 149 #[vP g,vI k_] [Ep g c cl sl tp ep at_ fl bk cm sn cd] (Ret (undef) [Ep g c cl sl tp ep 0 fl 0 cm sn k_]):=by
 exact cb 16 func149 fun F=>gX [.e 0,.e 0,.sp [12] [.e 0] [.dead]] (gQ g (gQ g (gT (k_ != 0) (bne_iff_ne.2 hk) (gQ g (gJ [0] ⟨rfl,rfl⟩)))))
theorem r14LookD(c:Cfg)(g:Nat)(cl ep sl tp sn bk fl cm cd:Int)(at_ w_:Int)(hw:U64 w_)(hl:ctlLive w_ = false):
  Ctr prog 148 #[vP g,vU w_] [Ep g c cl sl tp ep at_ fl bk cm sn cd] (Ret (undef) [Ep g c cl sl tp ep 0 fl 0 cm w_ 22]):=by
 exact cb 38 func148 fun F=>gX [.z [0] 1 [0,1,5]] (gS [.o [0] 1,.c [1]] (gC (some 6) [] call34 (r13_Unpack w_ oM) (gX [.e 1,.e 0,.e 1,.e 0,.e 0,.z [0,1,1,1,1] 0 [0,4]] (gN fun b_2=>gQ b_2 (gQ g (gQ b_2 (gQ g (gQ g (gS [.c [0,1,1,1,1],.c [1,1,1,1,1]] (qG (kV 0 [.ww,.e 1,.t true,.ww,.ww,.ww,.ww,.ww,.ww,.ww,.ww,.ww]) [0,4,30] (.e b_2 (.p ((!(ctlLive w_))=true) (by simp [hl]) .n)) .n (gX [.z [0,1,1,1,1,1] 1 [31]] (gS [.o [0,1,1,1,1,1] 1] (gC (some 32) [0] call149 (r14EndE c g cl ep sl tp w_ (ctlBlock w_) fl cm cd 2 22 oc) (gX [] (gJ [1] ⟨rfl,rfl⟩)))))))))))))))
theorem r14LookP(c:Cfg)(g:Nat)(cl ep sl tp sn bk fl cm cd:Int)(at_ w_:Int)(hw:U64 w_)(hl:ctlLive w_ = true)(he:ctlEpoch w_≠ep):
  Ctr prog 148 #[vP g,vU w_] [Ep g c cl sl tp ep at_ fl bk cm sn cd] (Ret (undef) [Ep g c cl sl tp ep 0 fl 0 cm w_ 22]):=by
 exact cb 38 func148 fun F=>gX [.z [0] 1 [0,1,5]] (gS [.o [0] 1,.c [1]] (gC (some 6) [] call34 (r13_Unpack w_ oM) (gX [.e 1,.e 0,.e 1,.e 0,.e 0,.z [0,1,1,1,1] 0 [0,4]] (gN fun b_2=>gQ b_2 (gQ g (gQ b_2 (gQ g (gQ g (gS [.c [0,1,1,1,1],.c [1,1,1,1,1]] (qG (kV 0 [.ww,.e 1,.t false,.ww,.ww,.e 1,.ww,.ww,.ww,.e 0,.t true,.ww]) [0,4,30] (.e b_2 (.p ((!(ctlLive w_))=false) (by simp [hl]) (.e b_2 (.e g (.p (((ctlEpoch w_) != ep)=true) (bne_iff_ne.2 he) .n))))) .n (gX [.z [0,1,1,1,1,1] 1 [31]] (gS [.o [0,1,1,1,1,1] 1] (gC (some 32) [0] call149 (r14EndE c g cl ep sl tp w_ (ctlBlock w_) fl cm cd 2 22 oc) (gX [] (gJ [1] ⟨rfl,rfl⟩)))))))))))))))
theorem r14LookE(c:Cfg)(g:Nat)(cl ep sl tp sn bk fl cm cd:Int)(at_ w_:Int)(hw:U64 w_)(hl:ctlLive w_ = true)(he:ctlEpoch w_ = ep)(hb:ctlBlock w_ = 0):
  Ctr prog 148 #[vP g,vU w_] [Ep g c cl sl tp ep at_ fl bk cm sn cd] (Ret (undef) [Ep g c cl sl tp ep 0 fl 0 cm w_ 20]):=by
 exact cb 38 func148 fun F=>gX [.z [0] 1 [0,1,5]] (gS [.o [0] 1,.c [1]] (gC (some 6) [] call34 (r13_Unpack w_ oM) (gX [.e 1,.e 0,.e 1,.e 0,.e 0,.z [0,1,1,1,1] 0 [0,4]] (gN fun b_2=>gQ b_2 (gQ g (gQ b_2 (gQ g (gQ g (gS [.c [0,1,1,1,1],.c [1,1,1,1,1]] (qG (kV 0 [.ww,.e 1,.t false,.ww,.ww,.e 1,.ww,.ww,.ww,.e 0,.t false,.ww]) [0,4,30] (.e b_2 (.p ((!(ctlLive w_))=false) (by simp [hl]) (.e b_2 (.e g (.p (((ctlEpoch w_) != ep)=false) (bne_eq_false_iff_eq.2 he) .n))))) .n (gX [.e 1,.sp [35] [.z qco 1 [36]] [.dead]] (gQ b_2 (gT ((ctlBlock w_)==0) (beq_iff_eq.2 hb) (gS [.o qco 1] (gC (some 37) [0] call149 (r14EndE c g cl ep sl tp w_ (ctlBlock w_) fl cm cd 2 20 oc) (gX [] (gJ [1] ⟨rfl,rfl⟩)))))))))))))))))
theorem r14LookN(c:Cfg)(g:Nat)(cl ep sl tp sn bk fl cm cd:Int)(at_ w_:Int)(hw:U64 w_)(hl:ctlLive w_ = true)(he:ctlEpoch w_ = ep)(hb:ctlBlock w_≠0):
  Ctr prog 148 #[vP g,vU w_] [Ep g c cl sl tp ep at_ fl bk cm sn cd] (Ret (undef) [Ep g c cl sl tp ep 2 fl (ctlBlock w_) cm w_ cd]):=by
 exact cb 38 func148 fun F=>gX [.z [0] 1 [0,1,5]] (gS [.o [0] 1,.c [1]] (gC (some 6) [] call34 (r13_Unpack w_ oM) (gX [.e 1,.e 0,.e 1,.e 0,.e 0,.z [0,1,1,1,1] 0 [0,4]] (gN fun b_2=>gQ b_2 (gQ g (gQ b_2 (gQ g (gQ g (gS [.c [0,1,1,1,1],.c [1,1,1,1,1]] (qG (kV 0 [.ww,.e 1,.t false,.ww,.ww,.e 1,.ww,.ww,.ww,.e 0,.t false,.ww]) [0,4,30] (.e b_2 (.p ((!(ctlLive w_))=false) (by simp [hl]) (.e b_2 (.e g (.p (((ctlEpoch w_) != ep)=false) (bne_eq_false_iff_eq.2 he) .n))))) .n (gX [.e 1,.sp [35] [.dead] []] (gQ b_2 (gF ((ctlBlock w_)==0) (beq_eq_false_iff_ne.2 hb) (gJ [0] ⟨rfl,rfl⟩))))))))))))))
theorem r14Step0(c:Cfg)(g ra:Nat)(cl ep sl tp sn bk fl cm cd:Int)(A:Ar):
  Ctr prog 97 #[vP g,vP ra] [Ep g c cl sl tp ep 0 fl bk cm sn cd,Ed ra A false 0,Ea A] (Ret (.bool true) [Ep g c cl sl tp ep 0 fl bk cm sn cd,Ed ra A false 0,Ea A]):=by
 exact cb 114 func97 fun F=>gX [.e 0,.sp [11,12] [.dead] [.sp [34,35] [.dead] [.sp [59,60] [.dead] [.e 0]]]] (gQ g (gQ (0==1) (gF (0==1) oc (gQ (0==2) (gF (0==2) oc (gQ (0==3) (gF (0==3) oc (gQ g (gI (.bool (0==0)) [0,1,2] ⟨(congrArg Value.bool (by first | rfl | (simp; done) | (simp; omega))),rfl⟩)))))))))
theorem r14Step1D(c:Cfg)(g ra:Nat)(cl ep sl tp sn bk fl cm cd:Int)(A:Ar)(hc:c.Ok)(hn:A.ws.length=A.n)(hs:0≤A.steps∧A.steps≤1000000000)(htp:0≤tp∧tp<c.topics)(hwd:0≤ctlAt c tp∧ctlAt c tp<A.n)(hw:U64 (A.ws.getD (ctlAt c tp).toNat 0))(hl:ctlLive (A.ws.getD (ctlAt c tp).toNat 0)=false):
  Ctr prog 97 #[vP g,vP ra] [Ep g c cl sl tp ep 1 fl bk cm sn cd,Ed ra A false 0,Ea A] (Ret (.bool true) [Ep g c cl sl tp ep 0 fl 0 ((A.load (ctlAt c tp)).steps) (A.ws.getD (ctlAt c tp).toNat 0) 22,Ed ra (A.load (ctlAt c tp)) false 0,Ea (A.load (ctlAt c tp))]):=by
 refine cb 114 func97 fun F=>gX [.e 0,.sp [11,12] [.z qM 0 [0,1]] [.dead]] (gQ g (gQ (1==1) (gT (1==1) oc (gS [.c qM,.c qaU,.b 0,.c [1,1]] ?_))))
 refine tC (some 23) (kV 0 [.ww,.ww,.ww,.ww,.e 0,.ww,.ww,.ww,.e 0,.q (vI (ctlAt c tp))]) 10 (kV 11 [.ww]) [1,2] [0,1,5] call86 (ref_Load ra A (ctlAt c tp) oM hwd oM) (.e g (.e g .n)) (.c call79 (qR [] (ref_Control c tp oM oM)) .n) ?_
 rintro v post ⟨rfl,rfl⟩
 refine tN .n ?_
 exact gX [.e 1,.e 0,.z qN 2 [0,31,32]] (gQ ra (gQ g (gS [.o qN 2,.b 0,.c [1,1]] (gC (some 33) [0] call148 (r14LookD c g cl ep sl tp sn bk fl ((A.load (ctlAt c tp)).steps) cd 1 (A.ws.getD (ctlAt c tp).toNat 0) oM oM) (gX [.e 2] (gQ g (gJ [2,0,1] ⟨rfl,rfl⟩)))))))
theorem r14Step1P(c:Cfg)(g ra:Nat)(cl ep sl tp sn bk fl cm cd:Int)(A:Ar)(hc:c.Ok)(hn:A.ws.length=A.n)(hs:0≤A.steps∧A.steps≤1000000000)(htp:0≤tp∧tp<c.topics)(hwd:0≤ctlAt c tp∧ctlAt c tp<A.n)(hw:U64 (A.ws.getD (ctlAt c tp).toNat 0))(hl:ctlLive (A.ws.getD (ctlAt c tp).toNat 0)=true)(he:ctlEpoch (A.ws.getD (ctlAt c tp).toNat 0)≠ep):
  Ctr prog 97 #[vP g,vP ra] [Ep g c cl sl tp ep 1 fl bk cm sn cd,Ed ra A false 0,Ea A] (Ret (.bool true) [Ep g c cl sl tp ep 0 fl 0 ((A.load (ctlAt c tp)).steps) (A.ws.getD (ctlAt c tp).toNat 0) 22,Ed ra (A.load (ctlAt c tp)) false 0,Ea (A.load (ctlAt c tp))]):=by
 refine cb 114 func97 fun F=>gX [.e 0,.sp [11,12] [.z qM 0 [0,1]] [.dead]] (gQ g (gQ (1==1) (gT (1==1) oc (gS [.c qM,.c qaU,.b 0,.c [1,1]] ?_))))
 refine tC (some 23) (kV 0 [.ww,.ww,.ww,.ww,.e 0,.ww,.ww,.ww,.e 0,.q (vI (ctlAt c tp))]) 10 (kV 11 [.ww]) [1,2] [0,1,5] call86 (ref_Load ra A (ctlAt c tp) oM hwd oM) (.e g (.e g .n)) (.c call79 (qR [] (ref_Control c tp oM oM)) .n) ?_
 rintro v post ⟨rfl,rfl⟩
 refine tN .n ?_
 exact gX [.e 1,.e 0,.z qN 2 [0,31,32]] (gQ ra (gQ g (gS [.o qN 2,.b 0,.c [1,1]] (gC (some 33) [0] call148 (r14LookP c g cl ep sl tp sn bk fl ((A.load (ctlAt c tp)).steps) cd 1 (A.ws.getD (ctlAt c tp).toNat 0) oM oM oM) (gX [.e 2] (gQ g (gJ [2,0,1] ⟨rfl,rfl⟩)))))))
theorem r14Step1E(c:Cfg)(g ra:Nat)(cl ep sl tp sn bk fl cm cd:Int)(A:Ar)(hc:c.Ok)(hn:A.ws.length=A.n)(hs:0≤A.steps∧A.steps≤1000000000)(htp:0≤tp∧tp<c.topics)(hwd:0≤ctlAt c tp∧ctlAt c tp<A.n)(hw:U64 (A.ws.getD (ctlAt c tp).toNat 0))(hl:ctlLive (A.ws.getD (ctlAt c tp).toNat 0)=true)(he:ctlEpoch (A.ws.getD (ctlAt c tp).toNat 0)=ep)(hb:ctlBlock (A.ws.getD (ctlAt c tp).toNat 0)=0):
  Ctr prog 97 #[vP g,vP ra] [Ep g c cl sl tp ep 1 fl bk cm sn cd,Ed ra A false 0,Ea A] (Ret (.bool true) [Ep g c cl sl tp ep 0 fl 0 ((A.load (ctlAt c tp)).steps) (A.ws.getD (ctlAt c tp).toNat 0) 20,Ed ra (A.load (ctlAt c tp)) false 0,Ea (A.load (ctlAt c tp))]):=by
 refine cb 114 func97 fun F=>gX [.e 0,.sp [11,12] [.z qM 0 [0,1]] [.dead]] (gQ g (gQ (1==1) (gT (1==1) oc (gS [.c qM,.c qaU,.b 0,.c [1,1]] ?_))))
 refine tC (some 23) (kV 0 [.ww,.ww,.ww,.ww,.e 0,.ww,.ww,.ww,.e 0,.q (vI (ctlAt c tp))]) 10 (kV 11 [.ww]) [1,2] [0,1,5] call86 (ref_Load ra A (ctlAt c tp) oM hwd oM) (.e g (.e g .n)) (.c call79 (qR [] (ref_Control c tp oM oM)) .n) ?_
 rintro v post ⟨rfl,rfl⟩
 refine tN .n ?_
 exact gX [.e 1,.e 0,.z qN 2 [0,31,32]] (gQ ra (gQ g (gS [.o qN 2,.b 0,.c [1,1]] (gC (some 33) [0] call148 (r14LookE c g cl ep sl tp sn bk fl ((A.load (ctlAt c tp)).steps) cd 1 (A.ws.getD (ctlAt c tp).toNat 0) oM oM oM oM) (gX [.e 2] (gQ g (gJ [2,0,1] ⟨rfl,rfl⟩)))))))
theorem r14Step1N(c:Cfg)(g ra:Nat)(cl ep sl tp sn bk fl cm cd:Int)(A:Ar)(hc:c.Ok)(hn:A.ws.length=A.n)(hs:0≤A.steps∧A.steps≤1000000000)(htp:0≤tp∧tp<c.topics)(hwd:0≤ctlAt c tp∧ctlAt c tp<A.n)(hw:U64 (A.ws.getD (ctlAt c tp).toNat 0))(hl:ctlLive (A.ws.getD (ctlAt c tp).toNat 0)=true)(he:ctlEpoch (A.ws.getD (ctlAt c tp).toNat 0)=ep)(hb:ctlBlock (A.ws.getD (ctlAt c tp).toNat 0)≠0):
  Ctr prog 97 #[vP g,vP ra] [Ep g c cl sl tp ep 1 fl bk cm sn cd,Ed ra A false 0,Ea A] (Ret (.bool false) [Ep g c cl sl tp ep 2 fl (ctlBlock (A.ws.getD (ctlAt c tp).toNat 0)) ((A.load (ctlAt c tp)).steps) (A.ws.getD (ctlAt c tp).toNat 0) cd,Ed ra (A.load (ctlAt c tp)) false 0,Ea (A.load (ctlAt c tp))]):=by
 refine cb 114 func97 fun F=>gX [.e 0,.sp [11,12] [.z qM 0 [0,1]] [.dead]] (gQ g (gQ (1==1) (gT (1==1) oc (gS [.c qM,.c qaU,.b 0,.c [1,1]] ?_))))
 refine tC (some 23) (kV 0 [.ww,.ww,.ww,.ww,.e 0,.ww,.ww,.ww,.e 0,.q (vI (ctlAt c tp))]) 10 (kV 11 [.ww]) [1,2] [0,1,5] call86 (ref_Load ra A (ctlAt c tp) oM hwd oM) (.e g (.e g .n)) (.c call79 (qR [] (ref_Control c tp oM oM)) .n) ?_
 rintro v post ⟨rfl,rfl⟩
 refine tN .n ?_
 exact gX [.e 1,.e 0,.z qN 2 [0,31,32]] (gQ ra (gQ g (gS [.o qN 2,.b 0,.c [1,1]] (gC (some 33) [0] call148 (r14LookN c g cl ep sl tp sn bk fl ((A.load (ctlAt c tp)).steps) cd 1 (A.ws.getD (ctlAt c tp).toNat 0) oM oM oM oM) (gX [.e 2] (gQ g (gJ [2,0,1] ⟨rfl,rfl⟩)))))))
theorem r14Step2(c:Cfg)(g ra:Nat)(cl ep sl tp sn bk fl cm cd:Int)(A:Ar)(hc:c.Ok)(hn:A.ws.length=A.n)(hs:0≤A.steps∧A.steps≤1000000000)(hsl:0≤slotAt c sl∧slotAt c sl<A.n)(hsk:InK .i64 sl)(hcl:0≤cl∧cl≤1000)(hbk:0≤bk∧bk≤65535):
  Ctr prog 97 #[vP g,vP ra] [Ep g c cl sl tp ep 2 fl bk cm sn cd,Ed ra A false 0,Ea A] (Ret (.bool false) [Ep g c cl sl tp ep 3 fl bk cm sn cd,Ed ra (A.store (slotAt c sl) (markW cl bk)) false 0,Ea (A.store (slotAt c sl) (markW cl bk))]):=by
 refine cb 114 func97 fun F=>gX [.e 0,.sp [11,12] [.dead] [.sp [34,35] [.z qcp 0 [0,1]] [.dead]]] (gQ g (gQ (2==1) (gF (2==1) oc (gQ (2==2) (gT (2==2) oc (gS [.c qcp,.c [1,0,1,1,1,0,1,0,1],.b 0,.c [1,1]] ?_))))))
 refine tC (some 55) (kV 0 [.ww,.ww,.ww,.ww,.e 0,.ww,.ww,.ww,.e 0,.q (vI (slotAt c sl)),.ww,.ww,.ww,.e 0,.ww,.ww,.ww,.e 0,.q (vU (markW cl bk))]) 19 [] [1,2] [0] call84 (ref_Store ra A (slotAt c sl) (markW cl bk) oM hsl oM) (.e g (.e g (.e g (.e g .n)))) (.c call91 (qR [] (ref_Slot c sl oM hsk)) (.c call147 (qR [] (ref_Mark cl bk oa oa)) .n)) ?_
 rintro v post ⟨rfl,rfl⟩
 refine tN .n ?_
 exact gX [.e 0,.e 0] (gQ g (gQ g (gJ [0,1,2] ⟨rfl,rfl⟩)))
theorem r14Step3K(c:Cfg)(g ra:Nat)(cl ep sl tp sn bk fl cm cd:Int)(A:Ar)(hc:c.Ok)(hn:A.ws.length=A.n)(hs:0≤A.steps∧A.steps≤1000000000)(htp:0≤tp∧tp<c.topics)(hwd:0≤ctlAt c tp∧ctlAt c tp<A.n)(hw:U64 (A.ws.getD (ctlAt c tp).toNat 0))(hf0:0≤fl∧fl≤1000)(hq:(A.ws.getD (ctlAt c tp).toNat 0)=sn):
  Ctr prog 97 #[vP g,vP ra] [Ep g c cl sl tp ep 3 fl bk cm sn cd,Ed ra A false 0,Ea A] (Ret (.bool true) [Ep g c cl sl tp ep 0 fl bk ((A.load (ctlAt c tp)).steps) sn 0,Ed ra (A.load (ctlAt c tp)) false 0,Ea (A.load (ctlAt c tp))]):=by
 refine cb 114 func97 fun F=>gX [.e 0,.sp [11,12] [.dead] [.sp [34,35] [.dead] [.sp [59,60] [.z qp 0 [0,1]] [.dead]]]] (gQ g (gQ (3==1) (gF (3==1) oc (gQ (3==2) (gF (3==2) oc (gQ (3==3) (gT (3==3) oc (gS [.c qp,.c qak,.b 0,.c [1,1]] ?_))))))))
 refine tC (some 71) (kV 0 [.ww,.ww,.ww,.ww,.e 0,.ww,.ww,.ww,.e 0,.q (vI (ctlAt c tp))]) 10 (kV 11 [.ww]) [1,2] [0,1,6] call86 (ref_Load ra A (ctlAt c tp) oM hwd oM) (.e g (.e g .n)) (.c call79 (qR [] (ref_Control c tp oM oM)) .n) ?_
 rintro v post ⟨rfl,rfl⟩
 refine tN .n ?_
 exact gX [.e 1,.e 0,.e 0,.sp [84] [.z qcq 1 [0,85]] [.dead]] (gQ ra (gQ g (gQ g (gT ((A.ws.getD (ctlAt c tp).toNat 0)==sn) (beq_iff_eq.2 hq) (gS [.o qcq 1,.c [1,0,1,0,1,1,0,1,1,1,1,1,0,1,0,1],.c [1,1,1,0,1,1,1,1,1,0,1,0,1],.b 0,.c [1,1]] (gC (some 86) [0] call149 (r14End0 c g cl ep sl tp sn bk fl ((A.load (ctlAt c tp)).steps) cd 3) (gX [.e 2] (gQ g (gJ [2,0,1] ⟨rfl,rfl⟩)))))))))
theorem r14Step3R(c:Cfg)(g ra:Nat)(cl ep sl tp sn bk fl cm cd:Int)(A:Ar)(hc:c.Ok)(hn:A.ws.length=A.n)(hs:0≤A.steps∧A.steps≤1000000000)(htp:0≤tp∧tp<c.topics)(hwd:0≤ctlAt c tp∧ctlAt c tp<A.n)(hw:U64 (A.ws.getD (ctlAt c tp).toNat 0))(hf0:0≤fl∧fl≤1000)(hq:(A.ws.getD (ctlAt c tp).toNat 0)≠sn)(hr:fl+1=c.retry):
  Ctr prog 97 #[vP g,vP ra] [Ep g c cl sl tp ep 3 fl bk cm sn cd,Ed ra A false 0,Ea A] (Ret (.bool true) [Ep g c cl sl tp ep 0 (fl+1) 0 ((A.load (ctlAt c tp)).steps) sn 17,Ed ra (A.load (ctlAt c tp)) false 0,Ea (A.load (ctlAt c tp))]):=by
 refine cb 114 func97 fun F=>gX [.e 0,.sp [11,12] [.dead] [.sp [34,35] [.dead] [.sp [59,60] [.z qp 0 [0,1]] [.dead]]]] (gQ g (gQ (3==1) (gF (3==1) oc (gQ (3==2) (gF (3==2) oc (gQ (3==3) (gT (3==3) oc (gS [.c qp,.c qak,.b 0,.c [1,1]] ?_))))))))
 refine tC (some 71) (kV 0 [.ww,.ww,.ww,.ww,.e 0,.ww,.ww,.ww,.e 0,.q (vI (ctlAt c tp))]) 10 (kV 11 [.ww]) [1,2] [0,1,6] call86 (ref_Load ra A (ctlAt c tp) oM hwd oM) (.e g (.e g .n)) (.c call79 (qR [] (ref_Control c tp oM oM)) .n) ?_
 rintro v post ⟨rfl,rfl⟩
 refine tN .n ?_
 exact gX [.e 1,.e 0,.e 0,.sp [84] [.dead] [.e 0,.n,.e 0,.z qu 0 [0,6]]] (gQ ra (gQ g (gQ g (gF ((A.ws.getD (ctlAt c tp).toNat 0)==sn) (beq_eq_false_iff_ne.2 hq) (gQ g (gO (InK .i64 (fl+1)) oh (gQ g (gS [.c qu,.c qav,.b 0,.c [1,1]] (qG (kV 0 [.ww,.ww,.ww,.e 0,.ww,.ww,.ww,.ww,.e 0,.t true]) [0,6,103] (.e g (.e g (.p (((fl+1)==c.retry)=true) (beq_iff_eq.2 hr) .n))) .n (gX [.z qcr 1 [0,104]] (gS [.o qcr 1,.b 0,.c [1,1]] (gC (some 105) [0] call149 (r14EndE c g cl ep sl tp sn bk (fl+1) ((A.load (ctlAt c tp)).steps) cd 3 17 oc) (gX [.e 2] (gQ g (gJ [2,0,1] ⟨rfl,rfl⟩)))))))))))))))
theorem r14Step3D(c:Cfg)(g ra:Nat)(cl ep sl tp sn bk fl cm cd:Int)(A:Ar)(hc:c.Ok)(hn:A.ws.length=A.n)(hs:0≤A.steps∧A.steps≤1000000000)(htp:0≤tp∧tp<c.topics)(hwd:0≤ctlAt c tp∧ctlAt c tp<A.n)(hw:U64 (A.ws.getD (ctlAt c tp).toNat 0))(hf0:0≤fl∧fl≤1000)(hq:(A.ws.getD (ctlAt c tp).toNat 0)≠sn)(hr:fl+1≠c.retry)(hl:ctlLive (A.ws.getD (ctlAt c tp).toNat 0)=false):
  Ctr prog 97 #[vP g,vP ra] [Ep g c cl sl tp ep 3 fl bk cm sn cd,Ed ra A false 0,Ea A] (Ret (.bool true) [Ep g c cl sl tp ep 0 (fl+1) 0 ((A.load (ctlAt c tp)).steps) (A.ws.getD (ctlAt c tp).toNat 0) 22,Ed ra (A.load (ctlAt c tp)) false 0,Ea (A.load (ctlAt c tp))]):=by
 refine cb 114 func97 fun F=>gX [.e 0,.sp [11,12] [.dead] [.sp [34,35] [.dead] [.sp [59,60] [.z qp 0 [0,1]] [.dead]]]] (gQ g (gQ (3==1) (gF (3==1) oc (gQ (3==2) (gF (3==2) oc (gQ (3==3) (gT (3==3) oc (gS [.c qp,.c qak,.b 0,.c [1,1]] ?_))))))))
 refine tC (some 71) (kV 0 [.ww,.ww,.ww,.ww,.e 0,.ww,.ww,.ww,.e 0,.q (vI (ctlAt c tp))]) 10 (kV 11 [.ww]) [1,2] [0,1,6] call86 (ref_Load ra A (ctlAt c tp) oM hwd oM) (.e g (.e g .n)) (.c call79 (qR [] (ref_Control c tp oM oM)) .n) ?_
 rintro v post ⟨rfl,rfl⟩
 refine tN .n ?_
 exact gX [.e 1,.e 0,.e 0,.sp [84] [.dead] [.e 0,.n,.e 0,.z qu 0 [0,6]]] (gQ ra (gQ g (gQ g (gF ((A.ws.getD (ctlAt c tp).toNat 0)==sn) (beq_eq_false_iff_ne.2 hq) (gQ g (gO (InK .i64 (fl+1)) oh (gQ g (gS [.c qu,.c qav,.b 0,.c [1,1]] (qG (kV 0 [.ww,.ww,.ww,.e 0,.ww,.ww,.ww,.ww,.e 0,.t false]) [0,6,103] (.e g (.e g (.p (((fl+1)==c.retry)=false) (beq_eq_false_iff_ne.2 hr) .n))) .n (gX [.z qO 2 [0,106,107]] (gS [.o qO 2,.b 0,.c [1,1]] (gC (some 108) [0] call148 (r14LookD c g cl ep sl tp sn bk (fl+1) ((A.load (ctlAt c tp)).steps) cd 3 (A.ws.getD (ctlAt c tp).toNat 0) oM oM) (gX [.e 2] (gQ g (gJ [2,0,1] ⟨rfl,rfl⟩)))))))))))))))
theorem r14Step3P(c:Cfg)(g ra:Nat)(cl ep sl tp sn bk fl cm cd:Int)(A:Ar)(hc:c.Ok)(hn:A.ws.length=A.n)(hs:0≤A.steps∧A.steps≤1000000000)(htp:0≤tp∧tp<c.topics)(hwd:0≤ctlAt c tp∧ctlAt c tp<A.n)(hw:U64 (A.ws.getD (ctlAt c tp).toNat 0))(hf0:0≤fl∧fl≤1000)(hq:(A.ws.getD (ctlAt c tp).toNat 0)≠sn)(hr:fl+1≠c.retry)(hl:ctlLive (A.ws.getD (ctlAt c tp).toNat 0)=true)(he:ctlEpoch (A.ws.getD (ctlAt c tp).toNat 0)≠ep):
  Ctr prog 97 #[vP g,vP ra] [Ep g c cl sl tp ep 3 fl bk cm sn cd,Ed ra A false 0,Ea A] (Ret (.bool true) [Ep g c cl sl tp ep 0 (fl+1) 0 ((A.load (ctlAt c tp)).steps) (A.ws.getD (ctlAt c tp).toNat 0) 22,Ed ra (A.load (ctlAt c tp)) false 0,Ea (A.load (ctlAt c tp))]):=by
 refine cb 114 func97 fun F=>gX [.e 0,.sp [11,12] [.dead] [.sp [34,35] [.dead] [.sp [59,60] [.z qp 0 [0,1]] [.dead]]]] (gQ g (gQ (3==1) (gF (3==1) oc (gQ (3==2) (gF (3==2) oc (gQ (3==3) (gT (3==3) oc (gS [.c qp,.c qak,.b 0,.c [1,1]] ?_))))))))
 refine tC (some 71) (kV 0 [.ww,.ww,.ww,.ww,.e 0,.ww,.ww,.ww,.e 0,.q (vI (ctlAt c tp))]) 10 (kV 11 [.ww]) [1,2] [0,1,6] call86 (ref_Load ra A (ctlAt c tp) oM hwd oM) (.e g (.e g .n)) (.c call79 (qR [] (ref_Control c tp oM oM)) .n) ?_
 rintro v post ⟨rfl,rfl⟩
 refine tN .n ?_
 exact gX [.e 1,.e 0,.e 0,.sp [84] [.dead] [.e 0,.n,.e 0,.z qu 0 [0,6]]] (gQ ra (gQ g (gQ g (gF ((A.ws.getD (ctlAt c tp).toNat 0)==sn) (beq_eq_false_iff_ne.2 hq) (gQ g (gO (InK .i64 (fl+1)) oh (gQ g (gS [.c qu,.c qav,.b 0,.c [1,1]] (qG (kV 0 [.ww,.ww,.ww,.e 0,.ww,.ww,.ww,.ww,.e 0,.t false]) [0,6,103] (.e g (.e g (.p (((fl+1)==c.retry)=false) (beq_eq_false_iff_ne.2 hr) .n))) .n (gX [.z qO 2 [0,106,107]] (gS [.o qO 2,.b 0,.c [1,1]] (gC (some 108) [0] call148 (r14LookP c g cl ep sl tp sn bk (fl+1) ((A.load (ctlAt c tp)).steps) cd 3 (A.ws.getD (ctlAt c tp).toNat 0) oM oM oM) (gX [.e 2] (gQ g (gJ [2,0,1] ⟨rfl,rfl⟩)))))))))))))))
theorem r14Step3E(c:Cfg)(g ra:Nat)(cl ep sl tp sn bk fl cm cd:Int)(A:Ar)(hc:c.Ok)(hn:A.ws.length=A.n)(hs:0≤A.steps∧A.steps≤1000000000)(htp:0≤tp∧tp<c.topics)(hwd:0≤ctlAt c tp∧ctlAt c tp<A.n)(hw:U64 (A.ws.getD (ctlAt c tp).toNat 0))(hf0:0≤fl∧fl≤1000)(hq:(A.ws.getD (ctlAt c tp).toNat 0)≠sn)(hr:fl+1≠c.retry)(hl:ctlLive (A.ws.getD (ctlAt c tp).toNat 0)=true)(he:ctlEpoch (A.ws.getD (ctlAt c tp).toNat 0)=ep)(hb:ctlBlock (A.ws.getD (ctlAt c tp).toNat 0)=0):
  Ctr prog 97 #[vP g,vP ra] [Ep g c cl sl tp ep 3 fl bk cm sn cd,Ed ra A false 0,Ea A] (Ret (.bool true) [Ep g c cl sl tp ep 0 (fl+1) 0 ((A.load (ctlAt c tp)).steps) (A.ws.getD (ctlAt c tp).toNat 0) 20,Ed ra (A.load (ctlAt c tp)) false 0,Ea (A.load (ctlAt c tp))]):=by
 refine cb 114 func97 fun F=>gX [.e 0,.sp [11,12] [.dead] [.sp [34,35] [.dead] [.sp [59,60] [.z qp 0 [0,1]] [.dead]]]] (gQ g (gQ (3==1) (gF (3==1) oc (gQ (3==2) (gF (3==2) oc (gQ (3==3) (gT (3==3) oc (gS [.c qp,.c qak,.b 0,.c [1,1]] ?_))))))))
 refine tC (some 71) (kV 0 [.ww,.ww,.ww,.ww,.e 0,.ww,.ww,.ww,.e 0,.q (vI (ctlAt c tp))]) 10 (kV 11 [.ww]) [1,2] [0,1,6] call86 (ref_Load ra A (ctlAt c tp) oM hwd oM) (.e g (.e g .n)) (.c call79 (qR [] (ref_Control c tp oM oM)) .n) ?_
 rintro v post ⟨rfl,rfl⟩
 refine tN .n ?_
 exact gX [.e 1,.e 0,.e 0,.sp [84] [.dead] [.e 0,.n,.e 0,.z qu 0 [0,6]]] (gQ ra (gQ g (gQ g (gF ((A.ws.getD (ctlAt c tp).toNat 0)==sn) (beq_eq_false_iff_ne.2 hq) (gQ g (gO (InK .i64 (fl+1)) oh (gQ g (gS [.c qu,.c qav,.b 0,.c [1,1]] (qG (kV 0 [.ww,.ww,.ww,.e 0,.ww,.ww,.ww,.ww,.e 0,.t false]) [0,6,103] (.e g (.e g (.p (((fl+1)==c.retry)=false) (beq_eq_false_iff_ne.2 hr) .n))) .n (gX [.z qO 2 [0,106,107]] (gS [.o qO 2,.b 0,.c [1,1]] (gC (some 108) [0] call148 (r14LookE c g cl ep sl tp sn bk (fl+1) ((A.load (ctlAt c tp)).steps) cd 3 (A.ws.getD (ctlAt c tp).toNat 0) oM oM oM oM) (gX [.e 2] (gQ g (gJ [2,0,1] ⟨rfl,rfl⟩)))))))))))))))
theorem r14Step3N(c:Cfg)(g ra:Nat)(cl ep sl tp sn bk fl cm cd:Int)(A:Ar)(hc:c.Ok)(hn:A.ws.length=A.n)(hs:0≤A.steps∧A.steps≤1000000000)(htp:0≤tp∧tp<c.topics)(hwd:0≤ctlAt c tp∧ctlAt c tp<A.n)(hw:U64 (A.ws.getD (ctlAt c tp).toNat 0))(hf0:0≤fl∧fl≤1000)(hq:(A.ws.getD (ctlAt c tp).toNat 0)≠sn)(hr:fl+1≠c.retry)(hl:ctlLive (A.ws.getD (ctlAt c tp).toNat 0)=true)(he:ctlEpoch (A.ws.getD (ctlAt c tp).toNat 0)=ep)(hb:ctlBlock (A.ws.getD (ctlAt c tp).toNat 0)≠0):
  Ctr prog 97 #[vP g,vP ra] [Ep g c cl sl tp ep 3 fl bk cm sn cd,Ed ra A false 0,Ea A] (Ret (.bool false) [Ep g c cl sl tp ep 2 (fl+1) (ctlBlock (A.ws.getD (ctlAt c tp).toNat 0)) ((A.load (ctlAt c tp)).steps) (A.ws.getD (ctlAt c tp).toNat 0) cd,Ed ra (A.load (ctlAt c tp)) false 0,Ea (A.load (ctlAt c tp))]):=by
 refine cb 114 func97 fun F=>gX [.e 0,.sp [11,12] [.dead] [.sp [34,35] [.dead] [.sp [59,60] [.z qp 0 [0,1]] [.dead]]]] (gQ g (gQ (3==1) (gF (3==1) oc (gQ (3==2) (gF (3==2) oc (gQ (3==3) (gT (3==3) oc (gS [.c qp,.c qak,.b 0,.c [1,1]] ?_))))))))
 refine tC (some 71) (kV 0 [.ww,.ww,.ww,.ww,.e 0,.ww,.ww,.ww,.e 0,.q (vI (ctlAt c tp))]) 10 (kV 11 [.ww]) [1,2] [0,1,6] call86 (ref_Load ra A (ctlAt c tp) oM hwd oM) (.e g (.e g .n)) (.c call79 (qR [] (ref_Control c tp oM oM)) .n) ?_
 rintro v post ⟨rfl,rfl⟩
 refine tN .n ?_
 exact gX [.e 1,.e 0,.e 0,.sp [84] [.dead] [.e 0,.n,.e 0,.z qu 0 [0,6]]] (gQ ra (gQ g (gQ g (gF ((A.ws.getD (ctlAt c tp).toNat 0)==sn) (beq_eq_false_iff_ne.2 hq) (gQ g (gO (InK .i64 (fl+1)) oh (gQ g (gS [.c qu,.c qav,.b 0,.c [1,1]] (qG (kV 0 [.ww,.ww,.ww,.e 0,.ww,.ww,.ww,.ww,.e 0,.t false]) [0,6,103] (.e g (.e g (.p (((fl+1)==c.retry)=false) (beq_eq_false_iff_ne.2 hr) .n))) .n (gX [.z qO 2 [0,106,107]] (gS [.o qO 2,.b 0,.c [1,1]] (gC (some 108) [0] call148 (r14LookN c g cl ep sl tp sn bk (fl+1) ((A.load (ctlAt c tp)).steps) cd 3 (A.ws.getD (ctlAt c tp).toNat 0) oM oM oM oM) (gX [.e 2] (gQ g (gJ [2,0,1] ⟨rfl,rfl⟩)))))))))))))))
theorem ref14_Step(c:Cfg)(g ra:Nat)(sl tp:Int)(G:Gu)(A:Ar)(hc:c.Ok)(hn:A.ws.length=A.n)(hs:0≤A.steps∧A.steps≤1000000000)(hR:RngW A.ws)(hG:Gu.Ok c A.n G)(htp:0≤tp∧tp<c.topics)(hsk:InK .i64 sl)(hwq:G.word=ctlAt c tp)(hsq:G.slot=slotAt c sl):
  Ctr prog 97 #[vP g,vP ra] [Es g c G sl tp,Ed ra A false 0,Ea A] (Ret (.bool ((G.step c.retry A).1.ph==0)) [Es g c ((G.step c.retry A).1) sl tp,Ed ra ((G.step c.retry A).2) false 0,Ea ((G.step c.retry A).2)]):=by
 obtain⟨cl,ep,sl',wd',sn,bk,fl,cm,cd,ph⟩:=G
 obtain⟨hph,hsl,hwd,hcl,hbk,hf0,_⟩:=hG
 simp only at hph hsl hwd hcl hbk hf0 hwq hsq
 subst hwq; subst hsq
 have hc':=hc
 simp only [Cfg.Ok] at hc'
 have hw:U64 (A.ws.getD (ctlAt c tp).toNat 0):=hR _
 match ph,hph with
 | 0,_=>exact r14Step0 c g ra cl ep sl tp sn bk fl cm cd A
 | 1,_=>
  by_cases hl:ctlLive (A.ws.getD (ctlAt c tp).toNat 0)=true
  ·by_cases he:ctlEpoch (A.ws.getD (ctlAt c tp).toNat 0)=ep
   ·by_cases hb:ctlBlock (A.ws.getD (ctlAt c tp).toNat 0)=0
    ·have e:Gu.step c.retry (⟨cl,ep,slotAt c sl,ctlAt c tp,sn,bk,fl,cm,cd,1⟩:Gu) A=((⟨cl,ep,slotAt c sl,ctlAt c tp,(A.ws.getD (ctlAt c tp).toNat 0),0,fl,(A.load (ctlAt c tp)).steps,20,0⟩:Gu),A.load (ctlAt c tp)):=by
      show(Gu.look _ _,_) = _
      rw [Gu.look_E _ hl he hb]
     rw [e]; exact r14Step1E c g ra cl ep sl tp sn bk fl cm cd A hc hn hs htp hwd hw hl he hb
    ·have e:Gu.step c.retry (⟨cl,ep,slotAt c sl,ctlAt c tp,sn,bk,fl,cm,cd,1⟩:Gu) A=((⟨cl,ep,slotAt c sl,ctlAt c tp,(A.ws.getD (ctlAt c tp).toNat 0),(ctlBlock (A.ws.getD (ctlAt c tp).toNat 0)),fl,(A.load (ctlAt c tp)).steps,cd,2⟩:Gu),A.load (ctlAt c tp)):=by
      show(Gu.look _ _,_) = _
      rw [Gu.look_N _ hl he hb]
     rw [e]; exact r14Step1N c g ra cl ep sl tp sn bk fl cm cd A hc hn hs htp hwd hw hl he hb
   ·have e:Gu.step c.retry (⟨cl,ep,slotAt c sl,ctlAt c tp,sn,bk,fl,cm,cd,1⟩:Gu) A=((⟨cl,ep,slotAt c sl,ctlAt c tp,(A.ws.getD (ctlAt c tp).toNat 0),0,fl,(A.load (ctlAt c tp)).steps,22,0⟩:Gu),A.load (ctlAt c tp)):=by
     show(Gu.look _ _,_) = _
     rw [Gu.look_P _ he]
    rw [e]; exact r14Step1P c g ra cl ep sl tp sn bk fl cm cd A hc hn hs htp hwd hw hl he
  ·have hl:=(Bool.not_eq_true _).mp hl
   have e:Gu.step c.retry (⟨cl,ep,slotAt c sl,ctlAt c tp,sn,bk,fl,cm,cd,1⟩:Gu) A=((⟨cl,ep,slotAt c sl,ctlAt c tp,(A.ws.getD (ctlAt c tp).toNat 0),0,fl,(A.load (ctlAt c tp)).steps,22,0⟩:Gu),A.load (ctlAt c tp)):=by
    show(Gu.look _ _,_) = _
    rw [Gu.look_D _ hl]
   rw [e]; exact r14Step1D c g ra cl ep sl tp sn bk fl cm cd A hc hn hs htp hwd hw hl
 | 2,_=>exact r14Step2 c g ra cl ep sl tp sn bk fl cm cd A hc hn hs hsl hsk oa hbk
 | 3,_=>
  by_cases hq:(A.ws.getD (ctlAt c tp).toNat 0)=sn
  ·have e:Gu.step c.retry (⟨cl,ep,slotAt c sl,ctlAt c tp,sn,bk,fl,cm,cd,3⟩:Gu) A=((⟨cl,ep,slotAt c sl,ctlAt c tp,sn,bk,fl,(A.load (ctlAt c tp)).steps,0,0⟩:Gu),A.load (ctlAt c tp)):=by
    show(if _ then _ else _) = _
    rw [if_pos hq]
   rw [e]; exact r14Step3K c g ra cl ep sl tp sn bk fl cm cd A hc hn hs htp hwd hw hf0 hq
  ·by_cases hr:fl+1=c.retry
   ·have e:Gu.step c.retry (⟨cl,ep,slotAt c sl,ctlAt c tp,sn,bk,fl,cm,cd,3⟩:Gu) A=((⟨cl,ep,slotAt c sl,ctlAt c tp,sn,0,(fl+1),(A.load (ctlAt c tp)).steps,17,0⟩:Gu),A.load (ctlAt c tp)):=by
     show(if _ then _ else _) = _
     rw [if_neg hq,if_pos hr]
    rw [e]; exact r14Step3R c g ra cl ep sl tp sn bk fl cm cd A hc hn hs htp hwd hw hf0 hq hr
   ·by_cases hl:ctlLive (A.ws.getD (ctlAt c tp).toNat 0)=true
    ·by_cases he:ctlEpoch (A.ws.getD (ctlAt c tp).toNat 0)=ep
     ·by_cases hb:ctlBlock (A.ws.getD (ctlAt c tp).toNat 0)=0
      ·have e:Gu.step c.retry (⟨cl,ep,slotAt c sl,ctlAt c tp,sn,bk,fl,cm,cd,3⟩:Gu) A=((⟨cl,ep,slotAt c sl,ctlAt c tp,(A.ws.getD (ctlAt c tp).toNat 0),0,(fl+1),(A.load (ctlAt c tp)).steps,20,0⟩:Gu),A.load (ctlAt c tp)):=by
        show(if _ then _ else _) = _
        rw [if_neg hq,if_neg hr,Gu.look_E _ hl he hb]
       rw [e]; exact r14Step3E c g ra cl ep sl tp sn bk fl cm cd A hc hn hs htp hwd hw hf0 hq hr hl he hb
      ·have e:Gu.step c.retry (⟨cl,ep,slotAt c sl,ctlAt c tp,sn,bk,fl,cm,cd,3⟩:Gu) A=((⟨cl,ep,slotAt c sl,ctlAt c tp,(A.ws.getD (ctlAt c tp).toNat 0),(ctlBlock (A.ws.getD (ctlAt c tp).toNat 0)),(fl+1),(A.load (ctlAt c tp)).steps,cd,2⟩:Gu),A.load (ctlAt c tp)):=by
        show(if _ then _ else _) = _
        rw [if_neg hq,if_neg hr,Gu.look_N _ hl he hb]
       rw [e]; exact r14Step3N c g ra cl ep sl tp sn bk fl cm cd A hc hn hs htp hwd hw hf0 hq hr hl he hb
     ·have e:Gu.step c.retry (⟨cl,ep,slotAt c sl,ctlAt c tp,sn,bk,fl,cm,cd,3⟩:Gu) A=((⟨cl,ep,slotAt c sl,ctlAt c tp,(A.ws.getD (ctlAt c tp).toNat 0),0,(fl+1),(A.load (ctlAt c tp)).steps,22,0⟩:Gu),A.load (ctlAt c tp)):=by
       show(if _ then _ else _) = _
       rw [if_neg hq,if_neg hr,Gu.look_P _ he]
      rw [e]; exact r14Step3P c g ra cl ep sl tp sn bk fl cm cd A hc hn hs htp hwd hw hf0 hq hr hl he
    ·have hl:=(Bool.not_eq_true _).mp hl
     have e:Gu.step c.retry (⟨cl,ep,slotAt c sl,ctlAt c tp,sn,bk,fl,cm,cd,3⟩:Gu) A=((⟨cl,ep,slotAt c sl,ctlAt c tp,(A.ws.getD (ctlAt c tp).toNat 0),0,(fl+1),(A.load (ctlAt c tp)).steps,22,0⟩:Gu),A.load (ctlAt c tp)):=by
      show(if _ then _ else _) = _
      rw [if_neg hq,if_neg hr,Gu.look_D _ hl]
     rw [e]; exact r14Step3D c g ra cl ep sl tp sn bk fl cm cd A hc hn hs htp hwd hw hf0 hq hr hl
 | n+4,h=>omega
theorem ref14_New(c:Cfg)(cl sl tp ep:Int)(hc:c.Ok)(hcl:0≤cl∧cl<c.clients)(hsl:0≤sl∧sl<c.slots)(htp:0≤tp∧tp<c.topics):
  Ctr prog 95 #[cfgV c,vI cl,vI sl,vI tp,vI ep] [] (fun v L => ∃(g:Nat),v=vP g∧L=[Es g c (newGu c cl sl tp ep) sl tp]):=by
 exact cb 53 func95 fun F=>gX [.e 0,.z [0,1] 1 [1,2,3,4,5,12]] (gN fun b_1=>gQ b_1 (gS [.o [0,1] 1,.c [1,1]] (gC (some 13) [] call67 (ref_right c oM) (gX [.sp [20,18,19] [.dead] [.e 0,.sp [26,24,25] [.dead] [.sp [30,28,29] [.dead] [.e 0,.sp [36,34,35] [.dead] [.sp [40,38,39] [.dead] [.e 0,.sp [45,44] [.dead] [.e 0]]]]]]] (gQ (decide (cl<0)) (gQ (decide (cl<0)) (gF (decide (cl<0)) ol (gQ b_1 (gQ (decide (cl≥c.clients)) (gQ (decide (cl≥c.clients)) (gF (decide (cl≥c.clients)) ol (gQ (decide (sl<0)) (gQ (decide (sl<0)) (gF (decide (sl<0)) ol (gQ b_1 (gQ (decide (sl≥c.slots)) (gQ (decide (sl≥c.slots)) (gF (decide (sl≥c.slots)) ol (gQ (decide (tp<0)) (gQ (decide (tp<0)) (gF (decide (tp<0)) ol (gQ b_1 (gQ (decide (tp≥c.topics)) (gF (decide (tp≥c.topics)) ol (gQ b_1 (gN fun b_2=>gJ [1] ⟨b_2,rfl,rfl⟩))))))))))))))))))))))))))
theorem ref_PackX(c:Cfg)(hc:c.Ok):
  Ctr prog 131 #[cfgV c] [] (Ret (vU (rpackW c)) []):=by
 refine cb 26 func131 fun F=>gX [.e 0,.z [0,1] 1 [1,7]] (gN fun b_1=>gQ b_1 (gS [.o [0,1] 1,.c [1,1]] (gC (some 8) [] call67 (ref_right c oM) (gX [.e 0,.z [0,1,1,1] 1 [11]] (gQ b_1 (gS [.o [0,1,1,1] 1,.c [1,1,1,1]] ?_))))))
 refine go_call (some 12) [] call170 (ref_Parts c) kR ?_
 rintro v post ⟨b_2,rfl,rfl⟩
 exact gX [.u,.w,.w,.e 1,.n,.n,.w,.u,.n,.w,.e 1,.n,.n,.w,.u,.n,.w,.e 1,.n,.n,.w,.u,.n,.w,.e 1,.n,.n,.w,.u,.n,.w,.e 1,.n,.n,.w,.u,.n,.w,.e 1,.n,.n,.w,.u,.n,.w,.e 1,.n,.n,.w,.u,.n,.w,.e 1,.n,.n,.w,.u,.n,.w,.e 1,.n,.n,.w,.u] (gQ b_2 (gO (InK .u64 c.n1) og (gO (InK .u64 (0+c.n1)) og (gO (InK .u64 ((0+c.n1)*128)) og (gQ b_2 (gO (InK .u64 c.s1) og (gO (InK .u64 (((0+c.n1)*128)+c.s1)) og (gO (InK .u64 ((((0+c.n1)*128)+c.s1)*128)) og (gQ b_2 (gO (InK .u64 c.n0) og (gO (InK .u64 (((((0+c.n1)*128)+c.s1)*128)+c.n0)) og (gO (InK .u64 ((((((0+c.n1)*128)+c.s1)*128)+c.n0)*128)) og (gQ b_2 (gO (InK .u64 c.s0) og (gO (InK .u64 (((((((0+c.n1)*128)+c.s1)*128)+c.n0)*128)+c.s0)) og (gO (InK .u64 ((((((((0+c.n1)*128)+c.s1)*128)+c.n0)*128)+c.s0)*128)) og (gQ b_2 (gO (InK .u64 c.retry) og (gO (InK .u64 (((((((((0+c.n1)*128)+c.s1)*128)+c.n0)*128)+c.s0)*128)+c.retry)) og (gO (InK .u64 ((((((((((0+c.n1)*128)+c.s1)*128)+c.n0)*128)+c.s0)*128)+c.retry)*128)) og (gQ b_2 (gO (InK .u64 c.clients) og (gO (InK .u64 (((((((((((0+c.n1)*128)+c.s1)*128)+c.n0)*128)+c.s0)*128)+c.retry)*128)+c.clients)) og (gO (InK .u64 ((((((((((((0+c.n1)*128)+c.s1)*128)+c.n0)*128)+c.s0)*128)+c.retry)*128)+c.clients)*128)) og (gQ b_2 (gO (InK .u64 c.slots) og (gO (InK .u64 (((((((((((((0+c.n1)*128)+c.s1)*128)+c.n0)*128)+c.s0)*128)+c.retry)*128)+c.clients)*128)+c.slots)) og (gO (InK .u64 ((((((((((((((0+c.n1)*128)+c.s1)*128)+c.n0)*128)+c.s0)*128)+c.retry)*128)+c.clients)*128)+c.slots)*128)) og (gQ b_2 (gO (InK .u64 c.small) og (gO (InK .u64 (((((((((((((((0+c.n1)*128)+c.s1)*128)+c.n0)*128)+c.s0)*128)+c.retry)*128)+c.clients)*128)+c.slots)*128)+c.small)) og (gO (InK .u64 ((((((((((((((((0+c.n1)*128)+c.s1)*128)+c.n0)*128)+c.s0)*128)+c.retry)*128)+c.clients)*128)+c.slots)*128)+c.small)*128)) og (gQ b_2 (gO (InK .u64 c.topics) og (gO (InK .u64 (((((((((((((((((0+c.n1)*128)+c.s1)*128)+c.n0)*128)+c.s0)*128)+c.retry)*128)+c.clients)*128)+c.slots)*128)+c.small)*128)+c.topics)) og (gR (vU (((((((((((((((((0+c.n1)*128)+c.s1)*128)+c.n0)*128)+c.s0)*128)+c.retry)*128)+c.clients)*128)+c.slots)*128)+c.small)*128)+c.topics)) [] ⟨rfl,rfl⟩))))))))))))))))))))))))))))))))))))
theorem ref_MakeX(c:Cfg)(hc:c.Ok):
  Ctr prog 68 #[cfgV c] [] (fun v L => ∃(ra:Nat) (aw:Option Addr) (cw:Nat),v=vP ra∧L=[Ed ra (rmAr c (rpackW c) aw cw) false 0,Ea (rmAr c (rpackW c) aw cw)]):=by
 refine cb 109 func68 fun F=>gX [.e 0,.z [0,1] 1 [1,6]] (gN fun b_1=>gQ b_1 (gS [.o [0,1] 1,.c [1,1]] (gC (some 7) [] call130 (ref_Size c oM) ?_)))
 refine go_call (some 8) [] call129 (ref_New (sizeOfC c) (by have:=sizeOfC_ok hc; omega)) kR ?_
 rintro v post ⟨ra_2,aw_3,cw_4,rfl,rfl⟩
 refine go_exec (rs:=[.tmp 2]) kR 4000 [.e 1,.s 2,.j 2 0,.z [0,1,1,1] 0 [1,3]] (o:=.obl (ra_2=ra_2) (.obl (aw_3=aw_3∧(List.replicate (sizeOfC c).toNat (0:Int)).length=(List.replicate (sizeOfC c).toNat (0:Int)).length) (.obl ((0:Int)≤0∧0<(((List.replicate (sizeOfC c).toNat (0:Int)).length:Nat):Int)) (.obl (slAt aw_3 0 1=slAt aw_3 0 1) (.obl (0<(List.replicate (sizeOfC c).toNat (0:Int)).length) (.ex fun x_5:Int=>.obl ([vU 7597137583116413295]=(encI .u64) x_5) (.stop [.c [0,1,1,1],.c [1,1,1,1]] [(1,vP b_1),(3,vP ra_2)] [Ef b_1 c,Ex ra_2 aw_3 ((List.replicate (sizeOfC c).toNat (0:Int)).length) cw_4 0 0 0 0 false false 0,Ee aw_3 cw_4 ((List.replicate (sizeOfC c).toNat (0:Int)).set 0 x_5)]))))))) kR ?_
 refine ok_obl rfl ?_
 refine ok_obl ⟨rfl,oe⟩ ?_
 refine ok_obl (by have:=sizeOfC_ok hc; first | omega | (simp; omega) | (have hq:=blockAt_ok hc (clsOf_pos (c:=c) (b:=i1.1) oa); first | omega | (simp; omega))) ?_
 refine ok_obl rfl ?_
 refine ok_obl (by have:=sizeOfC_ok hc; first | omega | (simp; omega) | (have hq:=blockAt_ok hc (clsOf_pos (c:=c) (b:=i1.1) oa); first | omega | (simp; omega))) ?_
 refine ok_ex (7597137583116413295:Int) ?_
 refine ok_obl rfl ?_
 refine ok_stop ?_
 refine go_tail_op (so:=.obl (slAt aw_3 1 1=slAt aw_3 1 1) (.obl (1<((List.replicate (sizeOfC c).toNat (0:Int)).set 0 7597137583116413295).length) (.ex fun x_6:Int=>.obl ([vU (rpackW c)]=(encI .u64) x_6) (.ok .skip [Ef b_1 c,Ex ra_2 aw_3 ((List.replicate (sizeOfC c).toNat (0:Int)).length) cw_4 0 0 0 0 false false 0,Ee aw_3 cw_4 (((List.replicate (sizeOfC c).toNat (0:Int)).set 0 7597137583116413295).set 1 x_6)])))) (dst:=none) (ps:=[ra_2=ra_2,b_1=b_1,aw_3=aw_3∧(List.replicate (sizeOfC c).toNat (0:Int)).length=((List.replicate (sizeOfC c).toNat (0:Int)).set 0 7597137583116413295).length,(0:Int)≤1∧1<((((List.replicate (sizeOfC c).toNat (0:Int)).set 0 7597137583116413295).length:Nat):Int)]) (cs:=[(131,#[cfgV c],vU (rpackW c))]) [(0,.h .w),(1,.h .w),(2,.h .w),(3,.h (.e 1)),(4,.h (.e 0)),(5,.q (vU (rpackW c))),(6,.h (.s 2))] 7 [] (.j 2 1) [1,3] kR kR ⟨rfl,rfl,⟨rfl,oe⟩,(by have:=sizeOfC_ok hc; first | omega | (simp; omega) | (have hq:=blockAt_ok hc (clsOf_pos (c:=c) (b:=i1.1) oa); first | omega | (simp; omega))),trivial⟩ ⟨⟨call131,quiet_of [] (ref_PackX c oM) kR (by rintro v post ⟨rfl,rfl⟩; exact⟨rfl,rfl⟩)⟩,trivial⟩ ?_
 refine sat_obl rfl ?_
 refine sat_obl (by have:=sizeOfC_ok hc; first | omega | (simp; omega) | (have hq:=blockAt_ok hc (clsOf_pos (c:=c) (b:=i1.1) oa); first | omega | (simp; omega))) ?_
 refine sat_ex ((rpackW c):Int) ?_
 refine sat_obl rfl ?_
 refine sat_skip ?_
 refine tail_next (tm':=[(1,vP b_1),(3,vP ra_2)]) (ps2:=[]) kR trivial ?_
 refine gE [(1,vP b_1),(3,vP ra_2)] [Ef b_1 c,Ex ra_2 aw_3 ((List.replicate (sizeOfC c).toNat (0:Int)).length) cw_4 0 0 0 0 false false 0,Ee aw_3 cw_4 (((List.replicate (sizeOfC c).toNat (0:Int)).set 0 7597137583116413295).set 1 (rpackW c))] ?_
 refine go_exec (rs:=[.tmp 2]) kR 4000 [.w,.e 0,.sp [25] [.e 1,.s 2,.j 2 3,.w,.e 0,.sp [35] [.z qaV 0 [1,3]] [.z qP 0 [1,3,4]]] [.w,.e 0,.sp [35] [.z qaV 0 [1,3]] [.z qP 0 [1,3,4]]]] (o:=.obl (b_1=b_1) (.br (decide (c.n0>0)) (.obl (ra_2=ra_2) (.obl (aw_3=aw_3∧(List.replicate (sizeOfC c).toNat (0:Int)).length=(((List.replicate (sizeOfC c).toNat (0:Int)).set 0 7597137583116413295).set 1 (rpackW c)).length) (.obl ((0:Int)≤3∧3<(((((List.replicate (sizeOfC c).toNat (0:Int)).set 0 7597137583116413295).set 1 (rpackW c)).length:Nat):Int)) (.obl (slAt aw_3 3 1=slAt aw_3 3 1) (.obl (3<(((List.replicate (sizeOfC c).toNat (0:Int)).set 0 7597137583116413295).set 1 (rpackW c)).length) (.ex fun x_7:Int=>.obl ([vU 1]=(encI .u64) x_7) (.obl (b_1=b_1) (.br (decide (c.n1>0)) (.stop [.c qaV,.c [1,1,1,1,1,1]] [(1,vP b_1),(3,vP ra_2)] [Ef b_1 c,Ex ra_2 aw_3 ((List.replicate (sizeOfC c).toNat (0:Int)).length) cw_4 0 0 0 0 false false 0,Ee aw_3 cw_4 ((((List.replicate (sizeOfC c).toNat (0:Int)).set 0 7597137583116413295).set 1 (rpackW c)).set 3 x_7)]) (.stop [.c qP,.b 0,.c qf] [(1,vP b_1),(3,vP ra_2),(4,vI 1)] [Ef b_1 c,Ex ra_2 aw_3 ((List.replicate (sizeOfC c).toNat (0:Int)).length) cw_4 0 0 0 0 false false 0,Ee aw_3 cw_4 ((((List.replicate (sizeOfC c).toNat (0:Int)).set 0 7597137583116413295).set 1 (rpackW c)).set 3 x_7)]))))))))) (.obl (b_1=b_1) (.br (decide (c.n1>0)) (.stop [.c qaV,.c [1,1,1,1,1,1]] [(1,vP b_1),(3,vP ra_2)] [Ef b_1 c,Ex ra_2 aw_3 ((List.replicate (sizeOfC c).toNat (0:Int)).length) cw_4 0 0 0 0 false false 0,Ee aw_3 cw_4 (((List.replicate (sizeOfC c).toNat (0:Int)).set 0 7597137583116413295).set 1 (rpackW c))]) (.stop [.c qP,.b 0,.c qf] [(1,vP b_1),(3,vP ra_2),(4,vI 1)] [Ef b_1 c,Ex ra_2 aw_3 ((List.replicate (sizeOfC c).toNat (0:Int)).length) cw_4 0 0 0 0 false false 0,Ee aw_3 cw_4 (((List.replicate (sizeOfC c).toNat (0:Int)).set 0 7597137583116413295).set 1 (rpackW c))]))))) kR ?_
 refine ok_obl rfl ?_
 refine ok_br (fun h_8 => ?_) (fun h_8 => ?_)
 ·replace h_8:=decT h_8
  refine ok_obl rfl ?_
  refine ok_obl ⟨rfl,oe⟩ ?_
  refine ok_obl (by have:=sizeOfC_ok hc; first | omega | (simp; omega) | (have hq:=blockAt_ok hc (clsOf_pos (c:=c) (b:=i1.1) oa); first | omega | (simp; omega))) ?_
  refine ok_obl rfl ?_
  refine ok_obl (by have:=sizeOfC_ok hc; first | omega | (simp; omega) | (have hq:=blockAt_ok hc (clsOf_pos (c:=c) (b:=i1.1) oa); first | omega | (simp; omega))) ?_
  refine ok_ex (1:Int) ?_
  refine ok_obl rfl ?_
  refine ok_obl rfl ?_
  refine ok_br (fun h_9 => ?_) (fun h_9 => ?_)
  ·replace h_9:=decT h_9
   refine ok_stop ?_
   refine go_tail_op (so:=.obl (slAt aw_3 4 1=slAt aw_3 4 1) (.obl (4<((((List.replicate (sizeOfC c).toNat (0:Int)).set 0 7597137583116413295).set 1 (rpackW c)).set 3 1).length) (.ex fun x_10:Int=>.obl ([vU (c.n0+1)]=(encI .u64) x_10) (.ok .skip [Ef b_1 c,Ex ra_2 aw_3 ((List.replicate (sizeOfC c).toNat (0:Int)).length) cw_4 0 0 0 0 false false 0,Ee aw_3 cw_4 (((((List.replicate (sizeOfC c).toNat (0:Int)).set 0 7597137583116413295).set 1 (rpackW c)).set 3 1).set 4 x_10)])))) (dst:=none) (ps:=[ra_2=ra_2,b_1=b_1,InK .i64 (c.n0+1),InK .u64 (c.n0+1),aw_3=aw_3∧(List.replicate (sizeOfC c).toNat (0:Int)).length=((((List.replicate (sizeOfC c).toNat (0:Int)).set 0 7597137583116413295).set 1 (rpackW c)).set 3 1).length,(0:Int)≤4∧4<((((((List.replicate (sizeOfC c).toNat (0:Int)).set 0 7597137583116413295).set 1 (rpackW c)).set 3 1).length:Nat):Int)]) (cs:=[]) [(0,.h .w),(1,.h .w),(2,.h .w),(3,.h (.e 1)),(4,.h .w),(5,.h (.w)),(6,.h .w),(7,.h (.e 0)),(8,.h (.n)),(9,.h (.n)),(10,.h (.s 2))] 11 [] (.j 2 4) [1,3] kR kR ⟨rfl,rfl,(by have hsz:=sizeOfC_ok hc; simp only [Cfg.Ok,InK] at *; first | done | omega),(by have hsz:=sizeOfC_ok hc; simp only [Cfg.Ok,InK] at *; first | done | omega),⟨rfl,oe⟩,(by have:=sizeOfC_ok hc; first | omega | (simp; omega) | (have hq:=blockAt_ok hc (clsOf_pos (c:=c) (b:=i1.1) oa); first | omega | (simp; omega))),trivial⟩ trivial ?_
   refine sat_obl rfl ?_
   refine sat_obl (by have:=sizeOfC_ok hc; first | omega | (simp; omega) | (have hq:=blockAt_ok hc (clsOf_pos (c:=c) (b:=i1.1) oa); first | omega | (simp; omega))) ?_
   refine sat_ex ((c.n0+1):Int) ?_
   refine sat_obl rfl ?_
   refine sat_skip ?_
   refine tail_next (tm':=[(1,vP b_1),(3,vP ra_2)]) (ps2:=[]) kR trivial ?_
   refine gX [.z qP 0 [1,3,4]] (gS [.c qP,.b 0,.c qf] ?_)
   refine go_loop (ι := Int×List Int) (fun i1=>[(1,vP b_1),(3,vP ra_2),(4,vI i1.1)]) (fun i1=>[Ef b_1 c,Ex ra_2 aw_3 ((List.replicate (sizeOfC c).toNat (0:Int)).length) cw_4 0 0 0 0 false false 0,Ee aw_3 cw_4 i1.2]) (fun i1=>rmLink c (c.n0+c.n1-i1.1).toNat i1.1 i1.2=rmLink c (c.n0+c.n1-1).toNat 1 (rmHead c (rpackW c))∧1≤i1.1∧i1.2.length=(List.replicate (sizeOfC c).toNat (0:Int)).length) (fun i1=>(c.n0+c.n1-i1.1).toNat) (1,((((List.replicate (sizeOfC c).toNat (0:Int)).set 0 7597137583116413295).set 1 (rpackW c)).set 3 1).set 4 (c.n0+1)) [1,3,4] [0,1,2] kR kR kR kR ⟨(by dsimp only; congr 1; unfold rmHead; dsimp only; (repeat' split) <;> first | rfl | (exfalso; omega)),oi,(by simp)⟩ ?_
   intro i1 J_11 hIJ_11 hJ_11
   have hx1:=hIJ_11
   have hlen1:=hx1.2.2
   have hN1:(((List.replicate (sizeOfC c).toNat (0:Int)).length:Nat):Int)=sizeOfC c:=by have:=sizeOfC_ok hc; rw [List.length_replicate]; omega
   refine gX [.e 0,.z qQ 2 [1,3,4,47,48]] (gQ b_1 (gS [.o qQ 2,.c qaW,.c qaX,.j J_11,.b 0,.c qf] (gC (some 49) [] call37 (ref_Blocks c oM) (gX [.sp [50] [.z qS 0 [1,3,4]] [.z qU 0 [3,5]]] (gB (decide (i1.1<(c.n0+c.n1))) (fun h_12 => ?_) (fun h_12 => ?_))))))
   ·replace h_12:=decT h_12
    refine gS [.c qS,.c qaY,.b 1,.c qV,.j J_11,.b 0,.c qf] (qG (kV 0 [.e 0,.ww,.q (vI (clsOf c i1.1)),.e 0,.ww,.h (.n),.q (vI (clsOf c (i1.1+1))),.ww]) [1,3,4,60] (.e b_1 (.e b_1 (.p (InK .i64 (i1.1+1)) (by have hsz:=sizeOfC_ok hc; simp only [Cfg.Ok,InK] at *; first | done | omega) .n))) (.c call98 (qR [] (ref_Class c i1.1 oM)) (.c call98 (qR [] (ref_Class c (i1.1+1) oM)) .n)) (gX [.sp [60] [.z qW 0 [1,3,4]] [.n,.z [] 0 [1,3,4]]] (gB ((clsOf c i1.1)==(clsOf c (i1.1+1))) (fun h_13 => ?_) (fun h_13 => ?_))))
    ·replace h_13:=beqT h_13
     refine gW (ks:=[.c qW,.b 1,.c qV,.j J_11,.b 0,.c qf]) [(1,vP b_1),(3,vP ra_2),(4,vI i1.1)] [Ef b_1 c,Ex ra_2 aw_3 ((List.replicate (sizeOfC c).toNat (0:Int)).length) cw_4 0 0 0 0 false false 0,Ee aw_3 cw_4 i1.2] ?_
     refine go_tail_op (so:=.obl (slAt aw_3 ((blockAt c i1.1).toNat) 1=slAt aw_3 ((blockAt c i1.1).toNat) 1) (.obl ((blockAt c i1.1).toNat<i1.2.length) (.ex fun x_14:Int=>.obl ([vU (i1.1+1)]=(encI .u64) x_14) (.ok .skip [Ef b_1 c,Ex ra_2 aw_3 ((List.replicate (sizeOfC c).toNat (0:Int)).length) cw_4 0 0 0 0 false false 0,Ee aw_3 cw_4 (i1.2.set ((blockAt c i1.1).toNat) x_14)])))) (dst:=none) (ps:=[ra_2=ra_2,b_1=b_1,InK .i64 (i1.1+1),InK .u64 (i1.1+1),aw_3=aw_3∧(List.replicate (sizeOfC c).toNat (0:Int)).length=i1.2.length,(0:Int)≤(blockAt c i1.1)∧(blockAt c i1.1)<((i1.2.length:Nat):Int)]) (cs:=[(85,#[cfgV c,vI i1.1],vI (blockAt c i1.1))]) [(0,.h .w),(1,.h .w),(2,.h .w),(3,.h (.e 1)),(4,.h (.e 0)),(5,.h .w),(6,.q (vI (blockAt c i1.1))),(7,.h .w),(8,.h (.n)),(9,.h (.n)),(10,.h (.s 2))] 11 [] (.j 2 ((blockAt c i1.1).toNat)) [1,3,4] kR kR ⟨rfl,rfl,(by have hsz:=sizeOfC_ok hc; simp only [Cfg.Ok,InK] at *; first | done | omega),(by have hsz:=sizeOfC_ok hc; simp only [Cfg.Ok,InK] at *; first | done | omega),⟨rfl,oe⟩,(by have:=sizeOfC_ok hc; first | omega | (simp; omega) | (have hq:=blockAt_ok hc (clsOf_pos (c:=c) (b:=i1.1) oa); first | omega | (simp; omega))),trivial⟩ ⟨⟨call85,quiet_of [] (ref_Block c i1.1 oM oa) kR (by rintro v post ⟨rfl,rfl⟩; exact⟨rfl,rfl⟩)⟩,trivial⟩ ?_
     refine sat_obl rfl ?_
     refine sat_obl (by have:=sizeOfC_ok hc; first | omega | (simp; omega) | (have hq:=blockAt_ok hc (clsOf_pos (c:=c) (b:=i1.1) oa); first | omega | (simp; omega))) ?_
     refine sat_ex ((i1.1+1):Int) ?_
     refine sat_obl rfl ?_
     refine sat_skip ?_
     refine tail_next (tm':=[(1,vP b_1),(3,vP ra_2),(4,vI i1.1)]) (ps2:=[]) kR trivial ?_
     refine gX [.n,.z [] 0 [1,3,4]] (gO (InK .i64 (i1.1+1)) (by have hsz:=sizeOfC_ok hc; simp only [Cfg.Ok,InK] at *; first | done | omega) (gS [.j J_11,.b 0,.c qf] ?_))
     exact go_back hJ_11 ((i1.1+1),i1.2.set ((blockAt c i1.1).toNat) (i1.1+1)) [0,1,2] kR kR kR ⟨(by dsimp only; rw [←hx1.1,rmLink_next (c:=c) (b:=i1.1) (W:=i1.2) oa,if_pos (by assumption)]),oi,(by dsimp only; first | exact hx1.2.2 | (rw [List.length_set]; exact hx1.2.2))⟩ oi
    ·replace h_13:=beqF h_13
     refine gO (InK .i64 (i1.1+1)) (by have hsz:=sizeOfC_ok hc; simp only [Cfg.Ok,InK] at *; first | done | omega) (gS [.j J_11,.b 0,.c qf] ?_)
     exact go_back hJ_11 ((i1.1+1),i1.2) [0,1,2] kR kR kR ⟨(by dsimp only; rw [←hx1.1,rmLink_next (c:=c) (b:=i1.1) (W:=i1.2) oa,if_neg (by assumption)]),oi,(by dsimp only; first | exact hx1.2.2 | (rw [List.length_set]; exact hx1.2.2))⟩ oi
   ·replace h_12:=decF h_12
    refine gS [.c qU,.b 2,.c qq] ?_
    refine go_loop (ι := Int×Ar) (fun i2=>[(3,vP ra_2),(5,vI i2.1)]) (fun i2=>[Ed ra_2 i2.2 false 0,Ea i2.2]) (fun i2=>rmCnt (sizeOfC c-i2.1).toNat i2.1 i2.2=rmAr c (rpackW c) aw_3 cw_4∧(0≤i2.1∧i2.1≤sizeOfC c)∧i2.2.ws.length=i2.2.n∧(i2.2.n:Int)=sizeOfC c∧(0≤i2.2.steps∧i2.2.steps≤i2.1)) (fun i2=>(sizeOfC c-i2.1).toNat) (0,(⟨aw_3,cw_4,(List.replicate (sizeOfC c).toNat (0:Int)).length,i1.2,0,0,0,0,false⟩:Ar)) [3,5] [1,2] kR kR kR kR ⟨(by dsimp only; unfold rmAr; rw [←hx1.1,rmLink_end (c:=c) (b:=i1.1) (W:=i1.2) oa,Int.sub_zero]),(by have:=sizeOfC_ok hc; dsimp only; omega),hlen1,hN1,oi⟩ ?_
    intro i2 J_15 hIJ_15 hJ_15
    have hx2:=hIJ_15
    have hn2:=hx2.2.2.1
    have hz2:=hx2.2.2.2.1
    have hs2:=hx2.2.2.2.2
    refine gX [.e 0,.sp [78] [.e 0,.s 1,.j 1 i2.1.toNat,.sp [88] [.e 0,.n,.e 0,.e 0,.s 1,.j 1 i2.1.toNat,.e 0,.n,.z [] 0 [3,5]] [.n,.z [] 0 [3,5]]] []] (gQ ra_2 (gB (decide (i2.1<((i2.2.n:Nat):Int))) (fun h_16 => ?_) (fun h_16 => ?_)))
    ·replace h_16:=decT h_16
     refine gQ ra_2 (gO (i2.2.aw=i2.2.aw∧i2.2.n=i2.2.ws.length) ⟨rfl,oe⟩ (gO ((0:Int)≤i2.1∧i2.1<((i2.2.ws.length:Nat):Int)) (by have:=sizeOfC_ok hc; first | omega | (simp; omega) | (have hq:=blockAt_ok hc (clsOf_pos (c:=c) (b:=i1.1) oa); first | omega | (simp; omega))) (gQ (slAt i2.2.aw i2.1.toNat 1) (gO (i2.1.toNat<i2.2.ws.length) (by have:=sizeOfC_ok hc; first | omega | (simp; omega) | (have hq:=blockAt_ok hc (clsOf_pos (c:=c) (b:=i1.1) oa); first | omega | (simp; omega))) (gB ((i2.2.ws.getD i2.1.toNat 0) != 0) (fun h_17 => ?_) (fun h_17 => ?_))))))
     ·replace h_17:=bneT h_17
      refine gQ ra_2 (gO (InK .i64 (i2.2.steps+1)) (by have hsz:=sizeOfC_ok hc; simp only [Cfg.Ok,InK] at *; first | done | omega) (gQ ra_2 (gQ ra_2 (gO (i2.2.aw=i2.2.aw∧i2.2.n=i2.2.ws.length) ⟨rfl,oe⟩ (gO ((0:Int)≤i2.1∧i2.1<((i2.2.ws.length:Nat):Int)) (by have:=sizeOfC_ok hc; first | omega | (simp; omega) | (have hq:=blockAt_ok hc (clsOf_pos (c:=c) (b:=i1.1) oa); first | omega | (simp; omega))) (gQ (slAt i2.2.aw i2.1.toNat 1) (gO (i2.1.toNat<i2.2.ws.length) (by have:=sizeOfC_ok hc; first | omega | (simp; omega) | (have hq:=blockAt_ok hc (clsOf_pos (c:=c) (b:=i1.1) oa); first | omega | (simp; omega))) (gQ ra_2 (gO (InK .i64 (i2.1+1)) (by have hsz:=sizeOfC_ok hc; simp only [Cfg.Ok,InK] at *; first | done | omega) (gS [.j J_15,.b 2,.c qq] ?_))))))))))
      exact go_back hJ_15 ((i2.1+1),(⟨i2.2.aw,i2.2.cw,i2.2.n,i2.2.ws,(i2.2.steps+1),2,i2.1,(i2.2.ws.getD i2.1.toNat 0),true⟩:Ar)) [0,1] kR kR kR ⟨(by dsimp only; rw [←hx2.1,rmCnt_next (n:=sizeOfC c) (i:=i2.1) (A:=i2.2) oa,if_pos (by assumption)]),oi,hx2.2.2.1,hx2.2.2.2.1,oi⟩ oi
     ·replace h_17:=bneF h_17
      refine gO (InK .i64 (i2.1+1)) (by have hsz:=sizeOfC_ok hc; simp only [Cfg.Ok,InK] at *; first | done | omega) (gS [.j J_15,.b 2,.c qq] ?_)
      exact go_back hJ_15 ((i2.1+1),(⟨i2.2.aw,i2.2.cw,i2.2.n,i2.2.ws,i2.2.steps,i2.2.lk,i2.2.lw,i2.2.lv,i2.2.lc⟩:Ar)) [0,1] kR kR kR ⟨(by dsimp only; rw [←hx2.1,rmCnt_next (n:=sizeOfC c) (i:=i2.1) (A:=i2.2) oa,if_neg (fun h=>h (by assumption))]),oi,hx2.2.2.1,hx2.2.2.2.1,oi⟩ oi
    ·replace h_16:=decF h_16
     refine gW0 (vP ra_2) [Ed ra_2 i2.2 false 0,Ea i2.2] ?_
     exact ret_ok (post:=[Ed ra_2 i2.2 false 0,Ea i2.2]) [0,1] kR ⟨ra_2,aw_3,cw_4,rfl,(by rw [←hx2.1,rmCnt_end (n:=sizeOfC c) (i:=i2.1) (A:=i2.2) oa])⟩
  ·replace h_9:=decF h_9
   refine ok_stop ?_
   refine go_loop (ι := Int×List Int) (fun i1=>[(1,vP b_1),(3,vP ra_2),(4,vI i1.1)]) (fun i1=>[Ef b_1 c,Ex ra_2 aw_3 ((List.replicate (sizeOfC c).toNat (0:Int)).length) cw_4 0 0 0 0 false false 0,Ee aw_3 cw_4 i1.2]) (fun i1=>rmLink c (c.n0+c.n1-i1.1).toNat i1.1 i1.2=rmLink c (c.n0+c.n1-1).toNat 1 (rmHead c (rpackW c))∧1≤i1.1∧i1.2.length=(List.replicate (sizeOfC c).toNat (0:Int)).length) (fun i1=>(c.n0+c.n1-i1.1).toNat) (1,(((List.replicate (sizeOfC c).toNat (0:Int)).set 0 7597137583116413295).set 1 (rpackW c)).set 3 1) [1,3,4] [0,1,2] kR kR kR kR ⟨(by dsimp only; congr 1; unfold rmHead; dsimp only; (repeat' split) <;> first | rfl | (exfalso; omega)),oi,(by simp)⟩ ?_
   intro i1 J_18 hIJ_18 hJ_18
   have hx1:=hIJ_18
   have hlen1:=hx1.2.2
   have hN1:(((List.replicate (sizeOfC c).toNat (0:Int)).length:Nat):Int)=sizeOfC c:=by have:=sizeOfC_ok hc; rw [List.length_replicate]; omega
   refine gX [.e 0,.z qQ 2 [1,3,4,47,48]] (gQ b_1 (gS [.o qQ 2,.c qaW,.c qaX,.j J_18,.b 0,.c qf] (gC (some 49) [] call37 (ref_Blocks c oM) (gX [.sp [50] [.z qS 0 [1,3,4]] [.z qU 0 [3,5]]] (gB (decide (i1.1<(c.n0+c.n1))) (fun h_19 => ?_) (fun h_19 => ?_))))))
   ·replace h_19:=decT h_19
    refine gS [.c qS,.c qaY,.b 1,.c qV,.j J_18,.b 0,.c qf] (qG (kV 0 [.e 0,.ww,.q (vI (clsOf c i1.1)),.e 0,.ww,.h (.n),.q (vI (clsOf c (i1.1+1))),.ww]) [1,3,4,60] (.e b_1 (.e b_1 (.p (InK .i64 (i1.1+1)) (by have hsz:=sizeOfC_ok hc; simp only [Cfg.Ok,InK] at *; first | done | omega) .n))) (.c call98 (qR [] (ref_Class c i1.1 oM)) (.c call98 (qR [] (ref_Class c (i1.1+1) oM)) .n)) (gX [.sp [60] [.z qW 0 [1,3,4]] [.n,.z [] 0 [1,3,4]]] (gB ((clsOf c i1.1)==(clsOf c (i1.1+1))) (fun h_20 => ?_) (fun h_20 => ?_))))
    ·replace h_20:=beqT h_20
     refine gW (ks:=[.c qW,.b 1,.c qV,.j J_18,.b 0,.c qf]) [(1,vP b_1),(3,vP ra_2),(4,vI i1.1)] [Ef b_1 c,Ex ra_2 aw_3 ((List.replicate (sizeOfC c).toNat (0:Int)).length) cw_4 0 0 0 0 false false 0,Ee aw_3 cw_4 i1.2] ?_
     refine go_tail_op (so:=.obl (slAt aw_3 ((blockAt c i1.1).toNat) 1=slAt aw_3 ((blockAt c i1.1).toNat) 1) (.obl ((blockAt c i1.1).toNat<i1.2.length) (.ex fun x_21:Int=>.obl ([vU (i1.1+1)]=(encI .u64) x_21) (.ok .skip [Ef b_1 c,Ex ra_2 aw_3 ((List.replicate (sizeOfC c).toNat (0:Int)).length) cw_4 0 0 0 0 false false 0,Ee aw_3 cw_4 (i1.2.set ((blockAt c i1.1).toNat) x_21)])))) (dst:=none) (ps:=[ra_2=ra_2,b_1=b_1,InK .i64 (i1.1+1),InK .u64 (i1.1+1),aw_3=aw_3∧(List.replicate (sizeOfC c).toNat (0:Int)).length=i1.2.length,(0:Int)≤(blockAt c i1.1)∧(blockAt c i1.1)<((i1.2.length:Nat):Int)]) (cs:=[(85,#[cfgV c,vI i1.1],vI (blockAt c i1.1))]) [(0,.h .w),(1,.h .w),(2,.h .w),(3,.h (.e 1)),(4,.h (.e 0)),(5,.h .w),(6,.q (vI (blockAt c i1.1))),(7,.h .w),(8,.h (.n)),(9,.h (.n)),(10,.h (.s 2))] 11 [] (.j 2 ((blockAt c i1.1).toNat)) [1,3,4] kR kR ⟨rfl,rfl,(by have hsz:=sizeOfC_ok hc; simp only [Cfg.Ok,InK] at *; first | done | omega),(by have hsz:=sizeOfC_ok hc; simp only [Cfg.Ok,InK] at *; first | done | omega),⟨rfl,oe⟩,(by have:=sizeOfC_ok hc; first | omega | (simp; omega) | (have hq:=blockAt_ok hc (clsOf_pos (c:=c) (b:=i1.1) oa); first | omega | (simp; omega))),trivial⟩ ⟨⟨call85,quiet_of [] (ref_Block c i1.1 oM oa) kR (by rintro v post ⟨rfl,rfl⟩; exact⟨rfl,rfl⟩)⟩,trivial⟩ ?_
     refine sat_obl rfl ?_
     refine sat_obl (by have:=sizeOfC_ok hc; first | omega | (simp; omega) | (have hq:=blockAt_ok hc (clsOf_pos (c:=c) (b:=i1.1) oa); first | omega | (simp; omega))) ?_
     refine sat_ex ((i1.1+1):Int) ?_
     refine sat_obl rfl ?_
     refine sat_skip ?_
     refine tail_next (tm':=[(1,vP b_1),(3,vP ra_2),(4,vI i1.1)]) (ps2:=[]) kR trivial ?_
     refine gX [.n,.z [] 0 [1,3,4]] (gO (InK .i64 (i1.1+1)) (by have hsz:=sizeOfC_ok hc; simp only [Cfg.Ok,InK] at *; first | done | omega) (gS [.j J_18,.b 0,.c qf] ?_))
     exact go_back hJ_18 ((i1.1+1),i1.2.set ((blockAt c i1.1).toNat) (i1.1+1)) [0,1,2] kR kR kR ⟨(by dsimp only; rw [←hx1.1,rmLink_next (c:=c) (b:=i1.1) (W:=i1.2) oa,if_pos (by assumption)]),oi,(by dsimp only; first | exact hx1.2.2 | (rw [List.length_set]; exact hx1.2.2))⟩ oi
    ·replace h_20:=beqF h_20
     refine gO (InK .i64 (i1.1+1)) (by have hsz:=sizeOfC_ok hc; simp only [Cfg.Ok,InK] at *; first | done | omega) (gS [.j J_18,.b 0,.c qf] ?_)
     exact go_back hJ_18 ((i1.1+1),i1.2) [0,1,2] kR kR kR ⟨(by dsimp only; rw [←hx1.1,rmLink_next (c:=c) (b:=i1.1) (W:=i1.2) oa,if_neg (by assumption)]),oi,(by dsimp only; first | exact hx1.2.2 | (rw [List.length_set]; exact hx1.2.2))⟩ oi
   ·replace h_19:=decF h_19
    refine gS [.c qU,.b 2,.c qq] ?_
    refine go_loop (ι := Int×Ar) (fun i2=>[(3,vP ra_2),(5,vI i2.1)]) (fun i2=>[Ed ra_2 i2.2 false 0,Ea i2.2]) (fun i2=>rmCnt (sizeOfC c-i2.1).toNat i2.1 i2.2=rmAr c (rpackW c) aw_3 cw_4∧(0≤i2.1∧i2.1≤sizeOfC c)∧i2.2.ws.length=i2.2.n∧(i2.2.n:Int)=sizeOfC c∧(0≤i2.2.steps∧i2.2.steps≤i2.1)) (fun i2=>(sizeOfC c-i2.1).toNat) (0,(⟨aw_3,cw_4,(List.replicate (sizeOfC c).toNat (0:Int)).length,i1.2,0,0,0,0,false⟩:Ar)) [3,5] [1,2] kR kR kR kR ⟨(by dsimp only; unfold rmAr; rw [←hx1.1,rmLink_end (c:=c) (b:=i1.1) (W:=i1.2) oa,Int.sub_zero]),(by have:=sizeOfC_ok hc; dsimp only; omega),hlen1,hN1,oi⟩ ?_
    intro i2 J_22 hIJ_22 hJ_22
    have hx2:=hIJ_22
    have hn2:=hx2.2.2.1
    have hz2:=hx2.2.2.2.1
    have hs2:=hx2.2.2.2.2
    refine gX [.e 0,.sp [78] [.e 0,.s 1,.j 1 i2.1.toNat,.sp [88] [.e 0,.n,.e 0,.e 0,.s 1,.j 1 i2.1.toNat,.e 0,.n,.z [] 0 [3,5]] [.n,.z [] 0 [3,5]]] []] (gQ ra_2 (gB (decide (i2.1<((i2.2.n:Nat):Int))) (fun h_23 => ?_) (fun h_23 => ?_)))
    ·replace h_23:=decT h_23
     refine gQ ra_2 (gO (i2.2.aw=i2.2.aw∧i2.2.n=i2.2.ws.length) ⟨rfl,oe⟩ (gO ((0:Int)≤i2.1∧i2.1<((i2.2.ws.length:Nat):Int)) (by have:=sizeOfC_ok hc; first | omega | (simp; omega) | (have hq:=blockAt_ok hc (clsOf_pos (c:=c) (b:=i1.1) oa); first | omega | (simp; omega))) (gQ (slAt i2.2.aw i2.1.toNat 1) (gO (i2.1.toNat<i2.2.ws.length) (by have:=sizeOfC_ok hc; first | omega | (simp; omega) | (have hq:=blockAt_ok hc (clsOf_pos (c:=c) (b:=i1.1) oa); first | omega | (simp; omega))) (gB ((i2.2.ws.getD i2.1.toNat 0) != 0) (fun h_24 => ?_) (fun h_24 => ?_))))))
     ·replace h_24:=bneT h_24
      refine gQ ra_2 (gO (InK .i64 (i2.2.steps+1)) (by have hsz:=sizeOfC_ok hc; simp only [Cfg.Ok,InK] at *; first | done | omega) (gQ ra_2 (gQ ra_2 (gO (i2.2.aw=i2.2.aw∧i2.2.n=i2.2.ws.length) ⟨rfl,oe⟩ (gO ((0:Int)≤i2.1∧i2.1<((i2.2.ws.length:Nat):Int)) (by have:=sizeOfC_ok hc; first | omega | (simp; omega) | (have hq:=blockAt_ok hc (clsOf_pos (c:=c) (b:=i1.1) oa); first | omega | (simp; omega))) (gQ (slAt i2.2.aw i2.1.toNat 1) (gO (i2.1.toNat<i2.2.ws.length) (by have:=sizeOfC_ok hc; first | omega | (simp; omega) | (have hq:=blockAt_ok hc (clsOf_pos (c:=c) (b:=i1.1) oa); first | omega | (simp; omega))) (gQ ra_2 (gO (InK .i64 (i2.1+1)) (by have hsz:=sizeOfC_ok hc; simp only [Cfg.Ok,InK] at *; first | done | omega) (gS [.j J_22,.b 2,.c qq] ?_))))))))))
      exact go_back hJ_22 ((i2.1+1),(⟨i2.2.aw,i2.2.cw,i2.2.n,i2.2.ws,(i2.2.steps+1),2,i2.1,(i2.2.ws.getD i2.1.toNat 0),true⟩:Ar)) [0,1] kR kR kR ⟨(by dsimp only; rw [←hx2.1,rmCnt_next (n:=sizeOfC c) (i:=i2.1) (A:=i2.2) oa,if_pos (by assumption)]),oi,hx2.2.2.1,hx2.2.2.2.1,oi⟩ oi
     ·replace h_24:=bneF h_24
      refine gO (InK .i64 (i2.1+1)) (by have hsz:=sizeOfC_ok hc; simp only [Cfg.Ok,InK] at *; first | done | omega) (gS [.j J_22,.b 2,.c qq] ?_)
      exact go_back hJ_22 ((i2.1+1),(⟨i2.2.aw,i2.2.cw,i2.2.n,i2.2.ws,i2.2.steps,i2.2.lk,i2.2.lw,i2.2.lv,i2.2.lc⟩:Ar)) [0,1] kR kR kR ⟨(by dsimp only; rw [←hx2.1,rmCnt_next (n:=sizeOfC c) (i:=i2.1) (A:=i2.2) oa,if_neg (fun h=>h (by assumption))]),oi,hx2.2.2.1,hx2.2.2.2.1,oi⟩ oi
    ·replace h_23:=decF h_23
     refine gW0 (vP ra_2) [Ed ra_2 i2.2 false 0,Ea i2.2] ?_
     exact ret_ok (post:=[Ed ra_2 i2.2 false 0,Ea i2.2]) [0,1] kR ⟨ra_2,aw_3,cw_4,rfl,(by rw [←hx2.1,rmCnt_end (n:=sizeOfC c) (i:=i2.1) (A:=i2.2) oa])⟩
 ·replace h_8:=decF h_8
  refine ok_obl rfl ?_
  refine ok_br (fun h_25 => ?_) (fun h_25 => ?_)
  ·replace h_25:=decT h_25
   refine ok_stop ?_
   refine go_tail_op (so:=.obl (slAt aw_3 4 1=slAt aw_3 4 1) (.obl (4<(((List.replicate (sizeOfC c).toNat (0:Int)).set 0 7597137583116413295).set 1 (rpackW c)).length) (.ex fun x_26:Int=>.obl ([vU (c.n0+1)]=(encI .u64) x_26) (.ok .skip [Ef b_1 c,Ex ra_2 aw_3 ((List.replicate (sizeOfC c).toNat (0:Int)).length) cw_4 0 0 0 0 false false 0,Ee aw_3 cw_4 ((((List.replicate (sizeOfC c).toNat (0:Int)).set 0 7597137583116413295).set 1 (rpackW c)).set 4 x_26)])))) (dst:=none) (ps:=[ra_2=ra_2,b_1=b_1,InK .i64 (c.n0+1),InK .u64 (c.n0+1),aw_3=aw_3∧(List.replicate (sizeOfC c).toNat (0:Int)).length=(((List.replicate (sizeOfC c).toNat (0:Int)).set 0 7597137583116413295).set 1 (rpackW c)).length,(0:Int)≤4∧4<(((((List.replicate (sizeOfC c).toNat (0:Int)).set 0 7597137583116413295).set 1 (rpackW c)).length:Nat):Int)]) (cs:=[]) [(0,.h .w),(1,.h .w),(2,.h .w),(3,.h (.e 1)),(4,.h .w),(5,.h (.w)),(6,.h .w),(7,.h (.e 0)),(8,.h (.n)),(9,.h (.n)),(10,.h (.s 2))] 11 [] (.j 2 4) [1,3] kR kR ⟨rfl,rfl,(by have hsz:=sizeOfC_ok hc; simp only [Cfg.Ok,InK] at *; first | done | omega),(by have hsz:=sizeOfC_ok hc; simp only [Cfg.Ok,InK] at *; first | done | omega),⟨rfl,oe⟩,(by have:=sizeOfC_ok hc; first | omega | (simp; omega) | (have hq:=blockAt_ok hc (clsOf_pos (c:=c) (b:=i1.1) oa); first | omega | (simp; omega))),trivial⟩ trivial ?_
   refine sat_obl rfl ?_
   refine sat_obl (by have:=sizeOfC_ok hc; first | omega | (simp; omega) | (have hq:=blockAt_ok hc (clsOf_pos (c:=c) (b:=i1.1) oa); first | omega | (simp; omega))) ?_
   refine sat_ex ((c.n0+1):Int) ?_
   refine sat_obl rfl ?_
   refine sat_skip ?_
   refine tail_next (tm':=[(1,vP b_1),(3,vP ra_2)]) (ps2:=[]) kR trivial ?_
   refine gX [.z qP 0 [1,3,4]] (gS [.c qP,.b 0,.c qf] ?_)
   refine go_loop (ι := Int×List Int) (fun i1=>[(1,vP b_1),(3,vP ra_2),(4,vI i1.1)]) (fun i1=>[Ef b_1 c,Ex ra_2 aw_3 ((List.replicate (sizeOfC c).toNat (0:Int)).length) cw_4 0 0 0 0 false false 0,Ee aw_3 cw_4 i1.2]) (fun i1=>rmLink c (c.n0+c.n1-i1.1).toNat i1.1 i1.2=rmLink c (c.n0+c.n1-1).toNat 1 (rmHead c (rpackW c))∧1≤i1.1∧i1.2.length=(List.replicate (sizeOfC c).toNat (0:Int)).length) (fun i1=>(c.n0+c.n1-i1.1).toNat) (1,(((List.replicate (sizeOfC c).toNat (0:Int)).set 0 7597137583116413295).set 1 (rpackW c)).set 4 (c.n0+1)) [1,3,4] [0,1,2] kR kR kR kR ⟨(by dsimp only; congr 1; unfold rmHead; dsimp only; (repeat' split) <;> first | rfl | (exfalso; omega)),oi,(by simp)⟩ ?_
   intro i1 J_27 hIJ_27 hJ_27
   have hx1:=hIJ_27
   have hlen1:=hx1.2.2
   have hN1:(((List.replicate (sizeOfC c).toNat (0:Int)).length:Nat):Int)=sizeOfC c:=by have:=sizeOfC_ok hc; rw [List.length_replicate]; omega
   refine gX [.e 0,.z qQ 2 [1,3,4,47,48]] (gQ b_1 (gS [.o qQ 2,.c qaW,.c qaX,.j J_27,.b 0,.c qf] (gC (some 49) [] call37 (ref_Blocks c oM) (gX [.sp [50] [.z qS 0 [1,3,4]] [.z qU 0 [3,5]]] (gB (decide (i1.1<(c.n0+c.n1))) (fun h_28 => ?_) (fun h_28 => ?_))))))
   ·replace h_28:=decT h_28
    refine gS [.c qS,.c qaY,.b 1,.c qV,.j J_27,.b 0,.c qf] (qG (kV 0 [.e 0,.ww,.q (vI (clsOf c i1.1)),.e 0,.ww,.h (.n),.q (vI (clsOf c (i1.1+1))),.ww]) [1,3,4,60] (.e b_1 (.e b_1 (.p (InK .i64 (i1.1+1)) (by have hsz:=sizeOfC_ok hc; simp only [Cfg.Ok,InK] at *; first | done | omega) .n))) (.c call98 (qR [] (ref_Class c i1.1 oM)) (.c call98 (qR [] (ref_Class c (i1.1+1) oM)) .n)) (gX [.sp [60] [.z qW 0 [1,3,4]] [.n,.z [] 0 [1,3,4]]] (gB ((clsOf c i1.1)==(clsOf c (i1.1+1))) (fun h_29 => ?_) (fun h_29 => ?_))))
    ·replace h_29:=beqT h_29
     refine gW (ks:=[.c qW,.b 1,.c qV,.j J_27,.b 0,.c qf]) [(1,vP b_1),(3,vP ra_2),(4,vI i1.1)] [Ef b_1 c,Ex ra_2 aw_3 ((List.replicate (sizeOfC c).toNat (0:Int)).length) cw_4 0 0 0 0 false false 0,Ee aw_3 cw_4 i1.2] ?_
     refine go_tail_op (so:=.obl (slAt aw_3 ((blockAt c i1.1).toNat) 1=slAt aw_3 ((blockAt c i1.1).toNat) 1) (.obl ((blockAt c i1.1).toNat<i1.2.length) (.ex fun x_30:Int=>.obl ([vU (i1.1+1)]=(encI .u64) x_30) (.ok .skip [Ef b_1 c,Ex ra_2 aw_3 ((List.replicate (sizeOfC c).toNat (0:Int)).length) cw_4 0 0 0 0 false false 0,Ee aw_3 cw_4 (i1.2.set ((blockAt c i1.1).toNat) x_30)])))) (dst:=none) (ps:=[ra_2=ra_2,b_1=b_1,InK .i64 (i1.1+1),InK .u64 (i1.1+1),aw_3=aw_3∧(List.replicate (sizeOfC c).toNat (0:Int)).length=i1.2.length,(0:Int)≤(blockAt c i1.1)∧(blockAt c i1.1)<((i1.2.length:Nat):Int)]) (cs:=[(85,#[cfgV c,vI i1.1],vI (blockAt c i1.1))]) [(0,.h .w),(1,.h .w),(2,.h .w),(3,.h (.e 1)),(4,.h (.e 0)),(5,.h .w),(6,.q (vI (blockAt c i1.1))),(7,.h .w),(8,.h (.n)),(9,.h (.n)),(10,.h (.s 2))] 11 [] (.j 2 ((blockAt c i1.1).toNat)) [1,3,4] kR kR ⟨rfl,rfl,(by have hsz:=sizeOfC_ok hc; simp only [Cfg.Ok,InK] at *; first | done | omega),(by have hsz:=sizeOfC_ok hc; simp only [Cfg.Ok,InK] at *; first | done | omega),⟨rfl,oe⟩,(by have:=sizeOfC_ok hc; first | omega | (simp; omega) | (have hq:=blockAt_ok hc (clsOf_pos (c:=c) (b:=i1.1) oa); first | omega | (simp; omega))),trivial⟩ ⟨⟨call85,quiet_of [] (ref_Block c i1.1 oM oa) kR (by rintro v post ⟨rfl,rfl⟩; exact⟨rfl,rfl⟩)⟩,trivial⟩ ?_
     refine sat_obl rfl ?_
     refine sat_obl (by have:=sizeOfC_ok hc; first | omega | (simp; omega) | (have hq:=blockAt_ok hc (clsOf_pos (c:=c) (b:=i1.1) oa); first | omega | (simp; omega))) ?_
     refine sat_ex ((i1.1+1):Int) ?_
     refine sat_obl rfl ?_
     refine sat_skip ?_
     refine tail_next (tm':=[(1,vP b_1),(3,vP ra_2),(4,vI i1.1)]) (ps2:=[]) kR trivial ?_
     refine gX [.n,.z [] 0 [1,3,4]] (gO (InK .i64 (i1.1+1)) (by have hsz:=sizeOfC_ok hc; simp only [Cfg.Ok,InK] at *; first | done | omega) (gS [.j J_27,.b 0,.c qf] ?_))
     exact go_back hJ_27 ((i1.1+1),i1.2.set ((blockAt c i1.1).toNat) (i1.1+1)) [0,1,2] kR kR kR ⟨(by dsimp only; rw [←hx1.1,rmLink_next (c:=c) (b:=i1.1) (W:=i1.2) oa,if_pos (by assumption)]),oi,(by dsimp only; first | exact hx1.2.2 | (rw [List.length_set]; exact hx1.2.2))⟩ oi
    ·replace h_29:=beqF h_29
     refine gO (InK .i64 (i1.1+1)) (by have hsz:=sizeOfC_ok hc; simp only [Cfg.Ok,InK] at *; first | done | omega) (gS [.j J_27,.b 0,.c qf] ?_)
     exact go_back hJ_27 ((i1.1+1),i1.2) [0,1,2] kR kR kR ⟨(by dsimp only; rw [←hx1.1,rmLink_next (c:=c) (b:=i1.1) (W:=i1.2) oa,if_neg (by assumption)]),oi,(by dsimp only; first | exact hx1.2.2 | (rw [List.length_set]; exact hx1.2.2))⟩ oi
   ·replace h_28:=decF h_28
    refine gS [.c qU,.b 2,.c qq] ?_
    refine go_loop (ι := Int×Ar) (fun i2=>[(3,vP ra_2),(5,vI i2.1)]) (fun i2=>[Ed ra_2 i2.2 false 0,Ea i2.2]) (fun i2=>rmCnt (sizeOfC c-i2.1).toNat i2.1 i2.2=rmAr c (rpackW c) aw_3 cw_4∧(0≤i2.1∧i2.1≤sizeOfC c)∧i2.2.ws.length=i2.2.n∧(i2.2.n:Int)=sizeOfC c∧(0≤i2.2.steps∧i2.2.steps≤i2.1)) (fun i2=>(sizeOfC c-i2.1).toNat) (0,(⟨aw_3,cw_4,(List.replicate (sizeOfC c).toNat (0:Int)).length,i1.2,0,0,0,0,false⟩:Ar)) [3,5] [1,2] kR kR kR kR ⟨(by dsimp only; unfold rmAr; rw [←hx1.1,rmLink_end (c:=c) (b:=i1.1) (W:=i1.2) oa,Int.sub_zero]),(by have:=sizeOfC_ok hc; dsimp only; omega),hlen1,hN1,oi⟩ ?_
    intro i2 J_31 hIJ_31 hJ_31
    have hx2:=hIJ_31
    have hn2:=hx2.2.2.1
    have hz2:=hx2.2.2.2.1
    have hs2:=hx2.2.2.2.2
    refine gX [.e 0,.sp [78] [.e 0,.s 1,.j 1 i2.1.toNat,.sp [88] [.e 0,.n,.e 0,.e 0,.s 1,.j 1 i2.1.toNat,.e 0,.n,.z [] 0 [3,5]] [.n,.z [] 0 [3,5]]] []] (gQ ra_2 (gB (decide (i2.1<((i2.2.n:Nat):Int))) (fun h_32 => ?_) (fun h_32 => ?_)))
    ·replace h_32:=decT h_32
     refine gQ ra_2 (gO (i2.2.aw=i2.2.aw∧i2.2.n=i2.2.ws.length) ⟨rfl,oe⟩ (gO ((0:Int)≤i2.1∧i2.1<((i2.2.ws.length:Nat):Int)) (by have:=sizeOfC_ok hc; first | omega | (simp; omega) | (have hq:=blockAt_ok hc (clsOf_pos (c:=c) (b:=i1.1) oa); first | omega | (simp; omega))) (gQ (slAt i2.2.aw i2.1.toNat 1) (gO (i2.1.toNat<i2.2.ws.length) (by have:=sizeOfC_ok hc; first | omega | (simp; omega) | (have hq:=blockAt_ok hc (clsOf_pos (c:=c) (b:=i1.1) oa); first | omega | (simp; omega))) (gB ((i2.2.ws.getD i2.1.toNat 0) != 0) (fun h_33 => ?_) (fun h_33 => ?_))))))
     ·replace h_33:=bneT h_33
      refine gQ ra_2 (gO (InK .i64 (i2.2.steps+1)) (by have hsz:=sizeOfC_ok hc; simp only [Cfg.Ok,InK] at *; first | done | omega) (gQ ra_2 (gQ ra_2 (gO (i2.2.aw=i2.2.aw∧i2.2.n=i2.2.ws.length) ⟨rfl,oe⟩ (gO ((0:Int)≤i2.1∧i2.1<((i2.2.ws.length:Nat):Int)) (by have:=sizeOfC_ok hc; first | omega | (simp; omega) | (have hq:=blockAt_ok hc (clsOf_pos (c:=c) (b:=i1.1) oa); first | omega | (simp; omega))) (gQ (slAt i2.2.aw i2.1.toNat 1) (gO (i2.1.toNat<i2.2.ws.length) (by have:=sizeOfC_ok hc; first | omega | (simp; omega) | (have hq:=blockAt_ok hc (clsOf_pos (c:=c) (b:=i1.1) oa); first | omega | (simp; omega))) (gQ ra_2 (gO (InK .i64 (i2.1+1)) (by have hsz:=sizeOfC_ok hc; simp only [Cfg.Ok,InK] at *; first | done | omega) (gS [.j J_31,.b 2,.c qq] ?_))))))))))
      exact go_back hJ_31 ((i2.1+1),(⟨i2.2.aw,i2.2.cw,i2.2.n,i2.2.ws,(i2.2.steps+1),2,i2.1,(i2.2.ws.getD i2.1.toNat 0),true⟩:Ar)) [0,1] kR kR kR ⟨(by dsimp only; rw [←hx2.1,rmCnt_next (n:=sizeOfC c) (i:=i2.1) (A:=i2.2) oa,if_pos (by assumption)]),oi,hx2.2.2.1,hx2.2.2.2.1,oi⟩ oi
     ·replace h_33:=bneF h_33
      refine gO (InK .i64 (i2.1+1)) (by have hsz:=sizeOfC_ok hc; simp only [Cfg.Ok,InK] at *; first | done | omega) (gS [.j J_31,.b 2,.c qq] ?_)
      exact go_back hJ_31 ((i2.1+1),(⟨i2.2.aw,i2.2.cw,i2.2.n,i2.2.ws,i2.2.steps,i2.2.lk,i2.2.lw,i2.2.lv,i2.2.lc⟩:Ar)) [0,1] kR kR kR ⟨(by dsimp only; rw [←hx2.1,rmCnt_next (n:=sizeOfC c) (i:=i2.1) (A:=i2.2) oa,if_neg (fun h=>h (by assumption))]),oi,hx2.2.2.1,hx2.2.2.2.1,oi⟩ oi
    ·replace h_32:=decF h_32
     refine gW0 (vP ra_2) [Ed ra_2 i2.2 false 0,Ea i2.2] ?_
     exact ret_ok (post:=[Ed ra_2 i2.2 false 0,Ea i2.2]) [0,1] kR ⟨ra_2,aw_3,cw_4,rfl,(by rw [←hx2.1,rmCnt_end (n:=sizeOfC c) (i:=i2.1) (A:=i2.2) oa])⟩
  ·replace h_25:=decF h_25
   refine ok_stop ?_
   refine go_loop (ι := Int×List Int) (fun i1=>[(1,vP b_1),(3,vP ra_2),(4,vI i1.1)]) (fun i1=>[Ef b_1 c,Ex ra_2 aw_3 ((List.replicate (sizeOfC c).toNat (0:Int)).length) cw_4 0 0 0 0 false false 0,Ee aw_3 cw_4 i1.2]) (fun i1=>rmLink c (c.n0+c.n1-i1.1).toNat i1.1 i1.2=rmLink c (c.n0+c.n1-1).toNat 1 (rmHead c (rpackW c))∧1≤i1.1∧i1.2.length=(List.replicate (sizeOfC c).toNat (0:Int)).length) (fun i1=>(c.n0+c.n1-i1.1).toNat) (1,((List.replicate (sizeOfC c).toNat (0:Int)).set 0 7597137583116413295).set 1 (rpackW c)) [1,3,4] [0,1,2] kR kR kR kR ⟨(by dsimp only; congr 1; unfold rmHead; dsimp only; (repeat' split) <;> first | rfl | (exfalso; omega)),oi,(by simp)⟩ ?_
   intro i1 J_34 hIJ_34 hJ_34
   have hx1:=hIJ_34
   have hlen1:=hx1.2.2
   have hN1:(((List.replicate (sizeOfC c).toNat (0:Int)).length:Nat):Int)=sizeOfC c:=by have:=sizeOfC_ok hc; rw [List.length_replicate]; omega
   refine gX [.e 0,.z qQ 2 [1,3,4,47,48]] (gQ b_1 (gS [.o qQ 2,.c qaW,.c qaX,.j J_34,.b 0,.c qf] (gC (some 49) [] call37 (ref_Blocks c oM) (gX [.sp [50] [.z qS 0 [1,3,4]] [.z qU 0 [3,5]]] (gB (decide (i1.1<(c.n0+c.n1))) (fun h_35 => ?_) (fun h_35 => ?_))))))
   ·replace h_35:=decT h_35
    refine gS [.c qS,.c qaY,.b 1,.c qV,.j J_34,.b 0,.c qf] (qG (kV 0 [.e 0,.ww,.q (vI (clsOf c i1.1)),.e 0,.ww,.h (.n),.q (vI (clsOf c (i1.1+1))),.ww]) [1,3,4,60] (.e b_1 (.e b_1 (.p (InK .i64 (i1.1+1)) (by have hsz:=sizeOfC_ok hc; simp only [Cfg.Ok,InK] at *; first | done | omega) .n))) (.c call98 (qR [] (ref_Class c i1.1 oM)) (.c call98 (qR [] (ref_Class c (i1.1+1) oM)) .n)) (gX [.sp [60] [.z qW 0 [1,3,4]] [.n,.z [] 0 [1,3,4]]] (gB ((clsOf c i1.1)==(clsOf c (i1.1+1))) (fun h_36 => ?_) (fun h_36 => ?_))))
    ·replace h_36:=beqT h_36
     refine gW (ks:=[.c qW,.b 1,.c qV,.j J_34,.b 0,.c qf]) [(1,vP b_1),(3,vP ra_2),(4,vI i1.1)] [Ef b_1 c,Ex ra_2 aw_3 ((List.replicate (sizeOfC c).toNat (0:Int)).length) cw_4 0 0 0 0 false false 0,Ee aw_3 cw_4 i1.2] ?_
     refine go_tail_op (so:=.obl (slAt aw_3 ((blockAt c i1.1).toNat) 1=slAt aw_3 ((blockAt c i1.1).toNat) 1) (.obl ((blockAt c i1.1).toNat<i1.2.length) (.ex fun x_37:Int=>.obl ([vU (i1.1+1)]=(encI .u64) x_37) (.ok .skip [Ef b_1 c,Ex ra_2 aw_3 ((List.replicate (sizeOfC c).toNat (0:Int)).length) cw_4 0 0 0 0 false false 0,Ee aw_3 cw_4 (i1.2.set ((blockAt c i1.1).toNat) x_37)])))) (dst:=none) (ps:=[ra_2=ra_2,b_1=b_1,InK .i64 (i1.1+1),InK .u64 (i1.1+1),aw_3=aw_3∧(List.replicate (sizeOfC c).toNat (0:Int)).length=i1.2.length,(0:Int)≤(blockAt c i1.1)∧(blockAt c i1.1)<((i1.2.length:Nat):Int)]) (cs:=[(85,#[cfgV c,vI i1.1],vI (blockAt c i1.1))]) [(0,.h .w),(1,.h .w),(2,.h .w),(3,.h (.e 1)),(4,.h (.e 0)),(5,.h .w),(6,.q (vI (blockAt c i1.1))),(7,.h .w),(8,.h (.n)),(9,.h (.n)),(10,.h (.s 2))] 11 [] (.j 2 ((blockAt c i1.1).toNat)) [1,3,4] kR kR ⟨rfl,rfl,(by have hsz:=sizeOfC_ok hc; simp only [Cfg.Ok,InK] at *; first | done | omega),(by have hsz:=sizeOfC_ok hc; simp only [Cfg.Ok,InK] at *; first | done | omega),⟨rfl,oe⟩,(by have:=sizeOfC_ok hc; first | omega | (simp; omega) | (have hq:=blockAt_ok hc (clsOf_pos (c:=c) (b:=i1.1) oa); first | omega | (simp; omega))),trivial⟩ ⟨⟨call85,quiet_of [] (ref_Block c i1.1 oM oa) kR (by rintro v post ⟨rfl,rfl⟩; exact⟨rfl,rfl⟩)⟩,trivial⟩ ?_
     refine sat_obl rfl ?_
     refine sat_obl (by have:=sizeOfC_ok hc; first | omega | (simp; omega) | (have hq:=blockAt_ok hc (clsOf_pos (c:=c) (b:=i1.1) oa); first | omega | (simp; omega))) ?_
     refine sat_ex ((i1.1+1):Int) ?_
     refine sat_obl rfl ?_
     refine sat_skip ?_
     refine tail_next (tm':=[(1,vP b_1),(3,vP ra_2),(4,vI i1.1)]) (ps2:=[]) kR trivial ?_
     refine gX [.n,.z [] 0 [1,3,4]] (gO (InK .i64 (i1.1+1)) (by have hsz:=sizeOfC_ok hc; simp only [Cfg.Ok,InK] at *; first | done | omega) (gS [.j J_34,.b 0,.c qf] ?_))
     exact go_back hJ_34 ((i1.1+1),i1.2.set ((blockAt c i1.1).toNat) (i1.1+1)) [0,1,2] kR kR kR ⟨(by dsimp only; rw [←hx1.1,rmLink_next (c:=c) (b:=i1.1) (W:=i1.2) oa,if_pos (by assumption)]),oi,(by dsimp only; first | exact hx1.2.2 | (rw [List.length_set]; exact hx1.2.2))⟩ oi
    ·replace h_36:=beqF h_36
     refine gO (InK .i64 (i1.1+1)) (by have hsz:=sizeOfC_ok hc; simp only [Cfg.Ok,InK] at *; first | done | omega) (gS [.j J_34,.b 0,.c qf] ?_)
     exact go_back hJ_34 ((i1.1+1),i1.2) [0,1,2] kR kR kR ⟨(by dsimp only; rw [←hx1.1,rmLink_next (c:=c) (b:=i1.1) (W:=i1.2) oa,if_neg (by assumption)]),oi,(by dsimp only; first | exact hx1.2.2 | (rw [List.length_set]; exact hx1.2.2))⟩ oi
   ·replace h_35:=decF h_35
    refine gS [.c qU,.b 2,.c qq] ?_
    refine go_loop (ι := Int×Ar) (fun i2=>[(3,vP ra_2),(5,vI i2.1)]) (fun i2=>[Ed ra_2 i2.2 false 0,Ea i2.2]) (fun i2=>rmCnt (sizeOfC c-i2.1).toNat i2.1 i2.2=rmAr c (rpackW c) aw_3 cw_4∧(0≤i2.1∧i2.1≤sizeOfC c)∧i2.2.ws.length=i2.2.n∧(i2.2.n:Int)=sizeOfC c∧(0≤i2.2.steps∧i2.2.steps≤i2.1)) (fun i2=>(sizeOfC c-i2.1).toNat) (0,(⟨aw_3,cw_4,(List.replicate (sizeOfC c).toNat (0:Int)).length,i1.2,0,0,0,0,false⟩:Ar)) [3,5] [1,2] kR kR kR kR ⟨(by dsimp only; unfold rmAr; rw [←hx1.1,rmLink_end (c:=c) (b:=i1.1) (W:=i1.2) oa,Int.sub_zero]),(by have:=sizeOfC_ok hc; dsimp only; omega),hlen1,hN1,oi⟩ ?_
    intro i2 J_38 hIJ_38 hJ_38
    have hx2:=hIJ_38
    have hn2:=hx2.2.2.1
    have hz2:=hx2.2.2.2.1
    have hs2:=hx2.2.2.2.2
    refine gX [.e 0,.sp [78] [.e 0,.s 1,.j 1 i2.1.toNat,.sp [88] [.e 0,.n,.e 0,.e 0,.s 1,.j 1 i2.1.toNat,.e 0,.n,.z [] 0 [3,5]] [.n,.z [] 0 [3,5]]] []] (gQ ra_2 (gB (decide (i2.1<((i2.2.n:Nat):Int))) (fun h_39 => ?_) (fun h_39 => ?_)))
    ·replace h_39:=decT h_39
     refine gQ ra_2 (gO (i2.2.aw=i2.2.aw∧i2.2.n=i2.2.ws.length) ⟨rfl,oe⟩ (gO ((0:Int)≤i2.1∧i2.1<((i2.2.ws.length:Nat):Int)) (by have:=sizeOfC_ok hc; first | omega | (simp; omega) | (have hq:=blockAt_ok hc (clsOf_pos (c:=c) (b:=i1.1) oa); first | omega | (simp; omega))) (gQ (slAt i2.2.aw i2.1.toNat 1) (gO (i2.1.toNat<i2.2.ws.length) (by have:=sizeOfC_ok hc; first | omega | (simp; omega) | (have hq:=blockAt_ok hc (clsOf_pos (c:=c) (b:=i1.1) oa); first | omega | (simp; omega))) (gB ((i2.2.ws.getD i2.1.toNat 0) != 0) (fun h_40 => ?_) (fun h_40 => ?_))))))
     ·replace h_40:=bneT h_40
      refine gQ ra_2 (gO (InK .i64 (i2.2.steps+1)) (by have hsz:=sizeOfC_ok hc; simp only [Cfg.Ok,InK] at *; first | done | omega) (gQ ra_2 (gQ ra_2 (gO (i2.2.aw=i2.2.aw∧i2.2.n=i2.2.ws.length) ⟨rfl,oe⟩ (gO ((0:Int)≤i2.1∧i2.1<((i2.2.ws.length:Nat):Int)) (by have:=sizeOfC_ok hc; first | omega | (simp; omega) | (have hq:=blockAt_ok hc (clsOf_pos (c:=c) (b:=i1.1) oa); first | omega | (simp; omega))) (gQ (slAt i2.2.aw i2.1.toNat 1) (gO (i2.1.toNat<i2.2.ws.length) (by have:=sizeOfC_ok hc; first | omega | (simp; omega) | (have hq:=blockAt_ok hc (clsOf_pos (c:=c) (b:=i1.1) oa); first | omega | (simp; omega))) (gQ ra_2 (gO (InK .i64 (i2.1+1)) (by have hsz:=sizeOfC_ok hc; simp only [Cfg.Ok,InK] at *; first | done | omega) (gS [.j J_38,.b 2,.c qq] ?_))))))))))
      exact go_back hJ_38 ((i2.1+1),(⟨i2.2.aw,i2.2.cw,i2.2.n,i2.2.ws,(i2.2.steps+1),2,i2.1,(i2.2.ws.getD i2.1.toNat 0),true⟩:Ar)) [0,1] kR kR kR ⟨(by dsimp only; rw [←hx2.1,rmCnt_next (n:=sizeOfC c) (i:=i2.1) (A:=i2.2) oa,if_pos (by assumption)]),oi,hx2.2.2.1,hx2.2.2.2.1,oi⟩ oi
     ·replace h_40:=bneF h_40
      refine gO (InK .i64 (i2.1+1)) (by have hsz:=sizeOfC_ok hc; simp only [Cfg.Ok,InK] at *; first | done | omega) (gS [.j J_38,.b 2,.c qq] ?_)
      exact go_back hJ_38 ((i2.1+1),(⟨i2.2.aw,i2.2.cw,i2.2.n,i2.2.ws,i2.2.steps,i2.2.lk,i2.2.lw,i2.2.lv,i2.2.lc⟩:Ar)) [0,1] kR kR kR ⟨(by dsimp only; rw [←hx2.1,rmCnt_next (n:=sizeOfC c) (i:=i2.1) (A:=i2.2) oa,if_neg (fun h=>h (by assumption))]),oi,hx2.2.2.1,hx2.2.2.2.1,oi⟩ oi
    ·replace h_39:=decF h_39
     refine gW0 (vP ra_2) [Ed ra_2 i2.2 false 0,Ea i2.2] ?_
     exact ret_ok (post:=[Ed ra_2 i2.2 false 0,Ea i2.2]) [0,1] kR ⟨ra_2,aw_3,cw_4,rfl,(by rw [←hx2.1,rmCnt_end (n:=sizeOfC c) (i:=i2.1) (A:=i2.2) oa])⟩
end Go.Proofs.YtpcaijopodhdgaaGreatDoor
namespace Go.Proofs.YtpcaijopodhdgaaGreatDoor
open Go.Proofs.Tryz
open Go.Sx
abbrev EO(x0:Nat)(c1:Cfg)(x2:Int)(x3:Int)(x4:Int): Ent:=.pts x0 [.int .i64 c1.topics,.int .i64 c1.small,.int .i64 c1.slots,.int .i64 c1.clients,.int .i64 c1.s0,.int .i64 c1.n0,.int .i64 c1.s1,.int .i64 c1.n1,.int .i64 c1.retry,.int .i64 x2,.int .i64 x3,.int .i64 x4] 178
abbrev Ev(x0:Nat)(c1:Cfg)(c2:Cl): Ent:=.pts x0 [.int .i64 c1.topics,.int .i64 c1.small,.int .i64 c1.slots,.int .i64 c1.clients,.int .i64 c1.s0,.int .i64 c1.n0,.int .i64 c1.s1,.int .i64 c1.n1,.int .i64 c1.retry,.int .i64 c2.client,.int .i64 c2.at_,.int .i64 c2.slot] 178
abbrev qal: List Nat:=[0,0,0,1,1,1,1]
abbrev qbH: List Nat:=[1,0,0,1,1,1,1]
abbrev qaZ: List Nat:=[0,1,1,0,0,1,1,1,1]
abbrev qcs: List Nat:=[1,1,1,0,0,1,1,1,1]
theorem claim_Done(c:Cfg)(k:Nat)(cl at_ sl:Int):
  Ctr prog 110 #[vP k] [EO k c cl at_ sl] (Ret (.bool (at_ == -1)) [EO k c cl at_ sl]):=by
 exact cb 12 func110 fun F=>gX [.e 0] (gQ k (gI (.bool (at_==(-1))) [0] ⟨(congrArg Value.bool (by first | rfl | (simp; done) | (simp; omega))),rfl⟩))
theorem claim_Slot(c:Cfg)(k:Nat)(K:Cl)(hd:K.at_ = -1):
  Ctr prog 56 #[vP k] [Ev k c K] (Ret (vI K.slot) [Ev k c K]):=by
 exact cb 14 func56 fun F=>gX [.z [0,0,1] 4 [0,5,6]] (gS [.o [0,0,1] 4,.c [1,0,1],.c [1,1]] (gC (some 7) [0] call110 (claim_Done c k K.client K.at_ K.slot) (gX [.sp [9,8] [.dead] [.e 0]] (gQ (!(K.at_ == -1)) (gF (!(K.at_ == -1)) (by simp [hd]) (gQ k (gJ [0] ⟨rfl,rfl⟩)))))))
theorem kStepD(c:Cfg)(k ba:Nat)(cl at_ sl:Int)(A:Ar)(hc:c.Ok)(hn:A.ws.length=A.n)(hs:0≤A.steps∧A.steps≤1000000000)(hcl:0≤cl∧cl≤1000)(ha:at_ = -1):
  Ctr prog 229 #[vP k,vP ba] [EO k c cl at_ sl,Eb ba A,Ea A] (Ret (.bool true) [EO k c cl at_ sl,Eb ba A,Ea A]):=by
 exact cb 56 func229 fun F=>gX [.z [0,0,1] 1 [0,1,6]] (gS [.o [0,0,1] 1,.c [1,0,1],.c [1,1]] (gC (some 7) [0] call110 (claim_Done c k cl at_ sl) (gX [.sp [7] [] [.dead]] (gT (at_ == -1) (by simp [ha]) (gJ [2,0,1] ⟨rfl,rfl⟩)))))
theorem kStepT(c:Cfg)(k ba:Nat)(cl at_ sl:Int)(A:Ar)(hc:c.Ok)(hn:A.ws.length=A.n)(hs:0≤A.steps∧A.steps≤1000000000)(hcl:0≤cl∧cl≤1000)(ha:0≤at_∧at_<c.slots)(hi:0≤slotAt c at_∧slotAt c at_<A.n)(hw:(A.ws.getD (slotAt c at_).toNat 0)=0):
  Ctr prog 229 #[vP k,vP ba] [EO k c cl at_ sl,Eb ba A,Ea A] (Ret (.bool true) [EO k c cl (-1) at_,Eb ba (A.swapT (slotAt c at_) (markW cl 0)),Ea (A.swapT (slotAt c at_) (markW cl 0))]):=by
 refine cb 56 func229 fun F=>gX [.z [0,0,1] 1 [0,1,6]] (gS [.o [0,0,1] 1,.c [1,0,1],.c [1,1]] (gC (some 7) [0] call110 (claim_Done c k cl at_ sl) (gX [.sp [7] [.dead] [.e 2,.e 2,.n,.e 2,.z qal 0 [0,1,5]]] (gF (at_ == -1) om (gQ k (gQ k (gO (InK .i64 (at_+1)) og (gQ k (gS [.c qal,.c qbH,.b 0,.c [1,1,1,1,1]] ?_)))))))))
 refine tC (some 32) (kV 0 [.ww,.ww,.ww,.ww,.e 2,.ww,.q (vI (slotAt c at_)),.ww,.ww,.ww,.e 2,.q (vU (markW cl 0))]) 12 (kV 13 [.ww]) [0,1] [0,5,19] call185 (arena_SwapT ba A (slotAt c at_) 0 (markW cl 0) oM hi oM hw) (.e k (.e k .n)) (.c call111 (qR [] (plan_Slot c at_ hc)) (.c call199 (qR [] (slots_Mark cl 0 oa oc)) .n)) ?_
 rintro v post ⟨rfl,rfl⟩
 refine tN .n ?_
 exact gX [.e 0,.e 0,.z [0,1,1,1,1,1] 1 [54]] (gQ k (gQ k (gS [.o [0,1,1,1,1,1] 1,.c [1,1,1,1,1,1]] (gC (some 55) [0] call110 (claim_Done c k cl (-1) at_) (gX [] (gI (.bool ((-1) == -1)) [2,0,1] ⟨(congrArg Value.bool (by first | rfl | (simp; done) | (simp; omega))),rfl⟩))))))
theorem kStepL(c:Cfg)(k ba:Nat)(cl at_ sl:Int)(A:Ar)(hc:c.Ok)(hn:A.ws.length=A.n)(hs:0≤A.steps∧A.steps≤1000000000)(hcl:0≤cl∧cl≤1000)(ha:0≤at_∧at_<c.slots)(hi:0≤slotAt c at_∧slotAt c at_<A.n)(hw:(A.ws.getD (slotAt c at_).toNat 0)≠0)(hl:at_+1=c.slots):
  Ctr prog 229 #[vP k,vP ba] [EO k c cl at_ sl,Eb ba A,Ea A] (Ret (.bool true) [EO k c cl (-1) sl,Eb ba (A.swapF (slotAt c at_)),Ea (A.swapF (slotAt c at_))]):=by
 refine cb 56 func229 fun F=>gX [.z [0,0,1] 1 [0,1,6]] (gS [.o [0,0,1] 1,.c [1,0,1],.c [1,1]] (gC (some 7) [0] call110 (claim_Done c k cl at_ sl) (gX [.sp [7] [.dead] [.e 2,.e 2,.n,.e 2,.z qal 0 [0,1,5]]] (gF (at_ == -1) om (gQ k (gQ k (gO (InK .i64 (at_+1)) og (gQ k (gS [.c qal,.c qbH,.b 0,.c [1,1,1,1,1]] ?_)))))))))
 refine tC (some 32) (kV 0 [.ww,.ww,.ww,.ww,.e 2,.ww,.q (vI (slotAt c at_)),.ww,.ww,.ww,.e 2,.q (vU (markW cl 0))]) 12 (kV 13 [.ww]) [0,1] [0,5,19] call185 (arena_SwapF ba A (slotAt c at_) 0 (markW cl 0) oM hi oM hw) (.e k (.e k .n)) (.c call111 (qR [] (plan_Slot c at_ hc)) (.c call199 (qR [] (slots_Mark cl 0 oa oc)) .n)) ?_
 rintro v post ⟨rfl,rfl⟩
 refine tN .n ?_
 exact gX [.z qaZ 0 [0]] (gS [.c qaZ,.c qcs,.b 0,.c [1,1,1,1,1]] (qG (kV 0 [.ww,.ww,.ww,.e 0,.ww,.ww,.ww,.ww,.e 0,.t true,.ww]) [0,40] (.e k (.e k (.p (((at_+1)==c.slots)=true) (beq_iff_eq.2 hl) .n))) .n (gX [.e 0,.z [0,1,1,1,1,1] 1 [54]] (gQ k (gS [.o [0,1,1,1,1,1] 1,.c [1,1,1,1,1,1]] (gC (some 55) [0] call110 (claim_Done c k cl (-1) sl) (gX [] (gI (.bool ((-1) == -1)) [2,0,1] ⟨(congrArg Value.bool (by first | rfl | (simp; done) | (simp; omega))),rfl⟩))))))))
theorem kStepN(c:Cfg)(k ba:Nat)(cl at_ sl:Int)(A:Ar)(hc:c.Ok)(hn:A.ws.length=A.n)(hs:0≤A.steps∧A.steps≤1000000000)(hcl:0≤cl∧cl≤1000)(ha:0≤at_∧at_<c.slots)(hi:0≤slotAt c at_∧slotAt c at_<A.n)(hw:(A.ws.getD (slotAt c at_).toNat 0)≠0)(hl:at_+1≠c.slots):
  Ctr prog 229 #[vP k,vP ba] [EO k c cl at_ sl,Eb ba A,Ea A] (Ret (.bool false) [EO k c cl (at_+1) sl,Eb ba (A.swapF (slotAt c at_)),Ea (A.swapF (slotAt c at_))]):=by
 refine cb 56 func229 fun F=>gX [.z [0,0,1] 1 [0,1,6]] (gS [.o [0,0,1] 1,.c [1,0,1],.c [1,1]] (gC (some 7) [0] call110 (claim_Done c k cl at_ sl) (gX [.sp [7] [.dead] [.e 2,.e 2,.n,.e 2,.z qal 0 [0,1,5]]] (gF (at_ == -1) om (gQ k (gQ k (gO (InK .i64 (at_+1)) og (gQ k (gS [.c qal,.c qbH,.b 0,.c [1,1,1,1,1]] ?_)))))))))
 refine tC (some 32) (kV 0 [.ww,.ww,.ww,.ww,.e 2,.ww,.q (vI (slotAt c at_)),.ww,.ww,.ww,.e 2,.q (vU (markW cl 0))]) 12 (kV 13 [.ww]) [0,1] [0,5,19] call185 (arena_SwapF ba A (slotAt c at_) 0 (markW cl 0) oM hi oM hw) (.e k (.e k .n)) (.c call111 (qR [] (plan_Slot c at_ hc)) (.c call199 (qR [] (slots_Mark cl 0 oa oc)) .n)) ?_
 rintro v post ⟨rfl,rfl⟩
 refine tN .n ?_
 exact gX [.z qaZ 0 [0]] (gS [.c qaZ,.c qcs,.b 0,.c [1,1,1,1,1]] (qG (kV 0 [.ww,.ww,.ww,.e 0,.ww,.ww,.ww,.ww,.e 0,.t false,.ww]) [0,40] (.e k (.e k (.p (((at_+1)==c.slots)=false) (beq_eq_false_iff_ne.2 hl) .n))) .n (gX [.z [0,1,1,1,1,1] 1 [54]] (gS [.o [0,1,1,1,1,1] 1,.c [1,1,1,1,1,1]] (gC (some 55) [0] call110 (claim_Done c k cl (at_+1) sl) (gX [] (gI (.bool ((at_+1) == -1)) [2,0,1] ⟨(congrArg Value.bool (by first | rfl | (simp; done) | (simp; omega))),rfl⟩)))))))
theorem claim_Step(c:Cfg)(k ba:Nat)(K:Cl)(A:Ar)(hc:c.Ok)(hn:A.ws.length=A.n)(hs:0≤A.steps∧A.steps≤1000000000)(hz:(A.n:Int)=sizeOfC c)(hK:Cl.Ok c K):
  Ctr prog 229 #[vP k,vP ba] [Ev k c K,Eb ba A,Ea A] (Ret (.bool ((K.step c A).1.at_ == -1)) [Ev k c ((K.step c A).1),Eb ba ((K.step c A).2),Ea ((K.step c A).2)]):=by
 obtain⟨cl,at_,sl⟩:=K
 obtain⟨h1,h2,h3,h4⟩:=hK
 simp only at h1 h2 h3 h4
 have hc':=hc
 simp only [Cfg.Ok] at hc'
 by_cases ha:at_ = -1
 ·have e:Cl.step c ⟨cl,at_,sl⟩ A=(⟨cl,at_,sl⟩,A):=by show(if _ then _ else _) = _; rw [if_pos ha]
  rw [e,show(at_ == -1)=true from beq_iff_eq.2 ha]
  exact kStepD c k ba cl at_ sl A hc hn hs oa ha
 ·have hat:=h2.resolve_left ha
  have hso:=slotAt_ok hc hat
  by_cases hw:A.ws.getD (slotAt c at_).toNat 0=0
  ·have e:Cl.step c ⟨cl,at_,sl⟩ A=(⟨cl,-1,at_⟩,A.swapT (slotAt c at_) (markW cl 0)):=by show(if _ then _ else _) = _; rw [if_neg ha,if_pos hw]
   rw [e]; exact kStepT c k ba cl at_ sl A hc hn hs oa hat oa hw
  ·by_cases hl:at_+1=c.slots
   ·have e:Cl.step c ⟨cl,at_,sl⟩ A=(⟨cl,-1,sl⟩,A.swapF (slotAt c at_)):=by show(if _ then _ else _) = _; rw [if_neg ha,if_neg hw,if_pos hl]
    rw [e]; exact kStepL c k ba cl at_ sl A hc hn hs oa hat oa hw hl
   ·have e:Cl.step c ⟨cl,at_,sl⟩ A=(⟨cl,at_+1,sl⟩,A.swapF (slotAt c at_)):=by show(if _ then _ else _) = _; rw [if_neg ha,if_neg hw,if_neg hl]
    rw [e,show(at_+1 == -1)=false from beq_eq_false_iff_ne.2 oa]
    exact kStepN c k ba cl at_ sl A hc hn hs oa hat oa hw hl
theorem new_Claim(c:Cfg)(cl:Int)(hc:c.Ok)(hcl:0≤cl∧cl<c.clients):
  Ctr prog 54 #[cfgV c,vI cl] [] (fun v L => ∃(k:Nat),v=vP k∧L=[EO k c cl 0 (-1)]):=by
 exact cb 22 func54 fun F=>gX [.e 0,.z [0,0,1] 1 [1,2,5]] (gN fun b_1=>gQ b_1 (gS [.o [0,0,1] 1,.c [1,0,1],.c [1,1]] (gC (some 6) [] call64 (plan_Check c oM) (gX [.sp [12,10,11] [.dead] [.e 0,.sp [17,16] [.dead] [.e 0]]] (gQ (decide (cl<0)) (gQ (decide (cl<0)) (gF (decide (cl<0)) ol (gQ b_1 (gQ (decide (cl≥c.clients)) (gF (decide (cl≥c.clients)) ol (gQ b_1 (gN fun b_2=>gJ [1] ⟨b_2,rfl,rfl⟩))))))))))))
theorem new_Release(c:Cfg)(sl:Int)(hc:c.Ok)(hsl:0≤sl∧sl<c.slots):
  Ctr prog 162 #[cfgV c,vI sl] [] (fun v L => ∃(r:Nat),v=vP r∧L=[.pts r [vI (slotAt c sl),.bool false] 259]):=by
 exact cb 14 func162 fun F=>gX [.e 0,.z [0,1] 2 [6,7]] (gN fun b_1=>gQ b_1 (gS [.o [0,1] 2,.c [1,1]] (gC (some 8) [] call111 (plan_Slot c sl oM) (gX [.sp [10] [.dead] []] (gF ((slotAt c sl)==(-1)) (beq_eq_false_iff_ne.2 (by have:=slotAt_ok hc hsl; omega)) (gN fun b_2=>gJ [1] ⟨b_2,rfl,rfl⟩))))))
theorem release_DoneF(r:Nat)(a:Int):
  Ctr prog 235 #[vP r] [.pts r [vI a,.bool false] 259] (Ret (.bool false) [.pts r [vI a,.bool false] 259]):=by
 exact cb 11 func235 fun F=>gX [.e 0] (gQ r (gJ [0] ⟨rfl,rfl⟩))
theorem release_Step(r ba:Nat)(a:Int)(A:Ar)(hn:A.ws.length=A.n)(hi:0≤a∧a<A.n)(hs:0≤A.steps∧A.steps≤1000000000):
  Ctr prog 236 #[vP r,vP ba] [.pts r [vI a,.bool false] 259,Eb ba A,Ea A] (Ret (.bool true) [.pts r [vI a,.bool true] 259,Eb ba (A.store a 0),Ea (A.store a 0)]):=by
 exact cb 17 func236 fun F=>gX [.z [0,0,1] 1 [0,1,5]] (gS [.o [0,0,1] 1,.c [1,0,1],.c [1,1]] (gC (some 6) [0] call235 (release_DoneF r a) (gX [.e 2,.z [0,0,1,0,1] 5 [0,8,12]] (gQ r (gS [.o [0,0,1,0,1] 5,.c [1,0,1,0,1],.c [1,1]] (gC (some 13) [0,1] call107 (arena_Store ba A a 0 oM hi oM) (gX [.e 0] (gQ r (gJ [0,1,2] ⟨rfl,rfl⟩)))))))))
end Go.Proofs.YtpcaijopodhdgaaGreatDoor
namespace Go.Proofs.YtpcaijopodhdgaaGreatDoor
open Go.Proofs.Tryz
open Go.Sx
abbrev EL(x0:Nat)(c1:Cfg)(c2:Cl): Ent:=.pts x0 [.int .i64 c1.topics,.int .i64 c1.small,.int .i64 c1.slots,.int .i64 c1.clients,.int .i64 c1.s0,.int .i64 c1.n0,.int .i64 c1.s1,.int .i64 c1.n1,.int .i64 c1.retry,.int .i64 c2.client,.int .i64 c2.at_,.int .i64 c2.slot] 214
abbrev EP(x0:Nat)(c1:Cfg)(x2:Int)(x3:Int)(x4:Int): Ent:=.pts x0 [.int .i64 c1.topics,.int .i64 c1.small,.int .i64 c1.slots,.int .i64 c1.clients,.int .i64 c1.s0,.int .i64 c1.n0,.int .i64 c1.s1,.int .i64 c1.n1,.int .i64 c1.retry,.int .i64 x2,.int .i64 x3,.int .i64 x4] 214
abbrev EF(x0:Nat)(c1:Cfg)(x2:Int)(x3:Bool): Ent:=.pts x0 [.int .i64 c1.topics,.int .i64 c1.small,.int .i64 c1.slots,.int .i64 c1.clients,.int .i64 c1.s0,.int .i64 c1.n0,.int .i64 c1.s1,.int .i64 c1.n1,.int .i64 c1.retry,.int .i64 x2,.bool x3] 217
noncomputable def nxT(g:Nat): Nat→Value
 | 1=>.func (.func 104) #[vP g] #[]
 | 2=>.func (.func 152) #[vP g] #[]
 | 3=>.func (.func 178) #[vP g] #[]
 | _=>.nilFunc
theorem rclaim_Slot(c:Cfg)(k:Nat)(K:Cl)(hd:K.at_ = -1):
  Ctr prog 94 #[vP k] [EL k c K] (Ret (vI K.slot) [EL k c K]):=by
 exact cb 12 func94 fun F=>gX [.e 0,.sp [7] [.dead] [.e 0]] (gQ k (gF (decide (K.at_≥0)) (by simp [hd]) (gQ k (gJ [0] ⟨rfl,rfl⟩))))
theorem rkStepD(c:Cfg)(k ba:Nat)(cl at_ sl:Int)(A:Ar)(hc:c.Ok)(hn:A.ws.length=A.n)(hs:0≤A.steps∧A.steps≤1000000000)(hcl:0≤cl∧cl≤1000)(ha:at_ = -1):
  Ctr prog 93 #[vP k,vP ba] [EP k c cl at_ sl,Ed ba A false 0,Ea A] (Ret (.bool true) [EP k c cl at_ sl,Ed ba A false 0,Ea A]):=by
 exact cb 62 func93 fun F=>gX [.e 0,.sp [11] [] [.dead]] (gQ k (gT (decide (at_<0)) (by simp [ha]) (gJ [0,1,2] ⟨rfl,rfl⟩)))
theorem rkStepTL(c:Cfg)(k ba:Nat)(cl at_ sl:Int)(A:Ar)(hc:c.Ok)(hn:A.ws.length=A.n)(hs:0≤A.steps∧A.steps≤1000000000)(hcl:0≤cl∧cl≤1000)(ha:0≤at_∧at_<c.slots)(hi:0≤slotAt c at_∧slotAt c at_<A.n)(hw:(A.ws.getD (slotAt c at_).toNat 0)=0)(hl:at_+1=c.slots):
  Ctr prog 93 #[vP k,vP ba] [EP k c cl at_ sl,Ed ba A false 0,Ea A] (Ret (.bool true) [EP k c cl (-1) at_,Ed ba (A.swapT (slotAt c at_) (markW cl 0)) false 0,Ea (A.swapT (slotAt c at_) (markW cl 0))]):=by
 refine cb 62 func93 fun F=>gX [.e 0,.sp [11] [.dead] [.e 0,.e 0,.n,.e 0,.z [0,0,1,1,1,1] 0 [0,1,5]]] (gQ k (gF (decide (at_<0)) om (gQ k (gQ k (gO (InK .i64 (at_+1)) og (gQ k (gS [.c [0,0,1,1,1,1],.c [1,0,1,1,1,1],.c [1,1,1,1,1]] (qG (kV 0 [.ww,.ww,.ww,.e 0,.ww,.ww,.ww,.ww,.e 0,.t true]) [0,1,5,32] (.e k (.e k (.p (((at_+1)==c.slots)=true) (beq_iff_eq.2 hl) .n))) .n (gX [.e 0,.z [0,1,1,1,1,1] 0 [0,1,5]] (gQ k (gS [.c [0,1,1,1,1,1],.c [1,1,1,1,1,1]] ?_)))))))))))
 refine tC (some 48) (kV 0 [.ww,.ww,.ww,.ww,.e 0,.ww,.q (vI (slotAt c at_)),.ww,.ww,.ww,.e 0,.q (vU (markW cl 0))]) 12 (kV 13 [.ww]) [1,2] [0,5,6] call89 (ref_SwapT ba A (slotAt c at_) 0 (markW cl 0) oM hi oM hw) (.e k (.e k .n)) (.c call91 (qR [] (ref_Slot c at_ hc og)) (.c call147 (qR [] (ref_Mark cl 0 oa oc)) .n)) ?_
 rintro v post ⟨rfl,rfl⟩
 refine tN .n ?_
 exact gX [.e 0,.e 0,.e 0] (gQ k (gQ k (gQ k (gJ [0,1,2] ⟨rfl,rfl⟩))))
theorem rkStepTN(c:Cfg)(k ba:Nat)(cl at_ sl:Int)(A:Ar)(hc:c.Ok)(hn:A.ws.length=A.n)(hs:0≤A.steps∧A.steps≤1000000000)(hcl:0≤cl∧cl≤1000)(ha:0≤at_∧at_<c.slots)(hi:0≤slotAt c at_∧slotAt c at_<A.n)(hw:(A.ws.getD (slotAt c at_).toNat 0)=0)(hl:at_+1≠c.slots):
  Ctr prog 93 #[vP k,vP ba] [EP k c cl at_ sl,Ed ba A false 0,Ea A] (Ret (.bool true) [EP k c cl (-1) at_,Ed ba (A.swapT (slotAt c at_) (markW cl 0)) false 0,Ea (A.swapT (slotAt c at_) (markW cl 0))]):=by
 refine cb 62 func93 fun F=>gX [.e 0,.sp [11] [.dead] [.e 0,.e 0,.n,.e 0,.z [0,0,1,1,1,1] 0 [0,1,5]]] (gQ k (gF (decide (at_<0)) om (gQ k (gQ k (gO (InK .i64 (at_+1)) og (gQ k (gS [.c [0,0,1,1,1,1],.c [1,0,1,1,1,1],.c [1,1,1,1,1]] (qG (kV 0 [.ww,.ww,.ww,.e 0,.ww,.ww,.ww,.ww,.e 0,.t false]) [0,1,5,32] (.e k (.e k (.p (((at_+1)==c.slots)=false) (beq_eq_false_iff_ne.2 hl) .n))) .n (gX [.z [0,1,1,1,1,1] 0 [0,1,5]] (gS [.c [0,1,1,1,1,1],.c [1,1,1,1,1,1]] ?_))))))))))
 refine tC (some 48) (kV 0 [.ww,.ww,.ww,.ww,.e 0,.ww,.q (vI (slotAt c at_)),.ww,.ww,.ww,.e 0,.q (vU (markW cl 0))]) 12 (kV 13 [.ww]) [1,2] [0,5,6] call89 (ref_SwapT ba A (slotAt c at_) 0 (markW cl 0) oM hi oM hw) (.e k (.e k .n)) (.c call91 (qR [] (ref_Slot c at_ hc og)) (.c call147 (qR [] (ref_Mark cl 0 oa oc)) .n)) ?_
 rintro v post ⟨rfl,rfl⟩
 refine tN .n ?_
 exact gX [.e 0,.e 0,.e 0] (gQ k (gQ k (gQ k (gJ [0,1,2] ⟨rfl,rfl⟩))))
theorem rkStepFL(c:Cfg)(k ba:Nat)(cl at_ sl:Int)(A:Ar)(hc:c.Ok)(hn:A.ws.length=A.n)(hs:0≤A.steps∧A.steps≤1000000000)(hcl:0≤cl∧cl≤1000)(ha:0≤at_∧at_<c.slots)(hi:0≤slotAt c at_∧slotAt c at_<A.n)(hw:(A.ws.getD (slotAt c at_).toNat 0)≠0)(hl:at_+1=c.slots):
  Ctr prog 93 #[vP k,vP ba] [EP k c cl at_ sl,Ed ba A false 0,Ea A] (Ret (.bool true) [EP k c cl (-1) sl,Ed ba (A.swapF (slotAt c at_)) false 0,Ea (A.swapF (slotAt c at_))]):=by
 refine cb 62 func93 fun F=>gX [.e 0,.sp [11] [.dead] [.e 0,.e 0,.n,.e 0,.z [0,0,1,1,1,1] 0 [0,1,5]]] (gQ k (gF (decide (at_<0)) om (gQ k (gQ k (gO (InK .i64 (at_+1)) og (gQ k (gS [.c [0,0,1,1,1,1],.c [1,0,1,1,1,1],.c [1,1,1,1,1]] (qG (kV 0 [.ww,.ww,.ww,.e 0,.ww,.ww,.ww,.ww,.e 0,.t true]) [0,1,5,32] (.e k (.e k (.p (((at_+1)==c.slots)=true) (beq_iff_eq.2 hl) .n))) .n (gX [.e 0,.z [0,1,1,1,1,1] 0 [0,1,5]] (gQ k (gS [.c [0,1,1,1,1,1],.c [1,1,1,1,1,1]] ?_)))))))))))
 refine tC (some 48) (kV 0 [.ww,.ww,.ww,.ww,.e 0,.ww,.q (vI (slotAt c at_)),.ww,.ww,.ww,.e 0,.q (vU (markW cl 0))]) 12 (kV 13 [.ww]) [1,2] [0,5,6] call89 (ref_SwapF ba A (slotAt c at_) 0 (markW cl 0) oM hi oM hw) (.e k (.e k .n)) (.c call91 (qR [] (ref_Slot c at_ hc og)) (.c call147 (qR [] (ref_Mark cl 0 oa oc)) .n)) ?_
 rintro v post ⟨rfl,rfl⟩
 refine tN .n ?_
 exact gX [.e 0] (gQ k (gJ [0,1,2] ⟨rfl,rfl⟩))
theorem rkStepFN(c:Cfg)(k ba:Nat)(cl at_ sl:Int)(A:Ar)(hc:c.Ok)(hn:A.ws.length=A.n)(hs:0≤A.steps∧A.steps≤1000000000)(hcl:0≤cl∧cl≤1000)(ha:0≤at_∧at_<c.slots)(hi:0≤slotAt c at_∧slotAt c at_<A.n)(hw:(A.ws.getD (slotAt c at_).toNat 0)≠0)(hl:at_+1≠c.slots):
  Ctr prog 93 #[vP k,vP ba] [EP k c cl at_ sl,Ed ba A false 0,Ea A] (Ret (.bool false) [EP k c cl (at_+1) sl,Ed ba (A.swapF (slotAt c at_)) false 0,Ea (A.swapF (slotAt c at_))]):=by
 refine cb 62 func93 fun F=>gX [.e 0,.sp [11] [.dead] [.e 0,.e 0,.n,.e 0,.z [0,0,1,1,1,1] 0 [0,1,5]]] (gQ k (gF (decide (at_<0)) om (gQ k (gQ k (gO (InK .i64 (at_+1)) og (gQ k (gS [.c [0,0,1,1,1,1],.c [1,0,1,1,1,1],.c [1,1,1,1,1]] (qG (kV 0 [.ww,.ww,.ww,.e 0,.ww,.ww,.ww,.ww,.e 0,.t false]) [0,1,5,32] (.e k (.e k (.p (((at_+1)==c.slots)=false) (beq_eq_false_iff_ne.2 hl) .n))) .n (gX [.z [0,1,1,1,1,1] 0 [0,1,5]] (gS [.c [0,1,1,1,1,1],.c [1,1,1,1,1,1]] ?_))))))))))
 refine tC (some 48) (kV 0 [.ww,.ww,.ww,.ww,.e 0,.ww,.q (vI (slotAt c at_)),.ww,.ww,.ww,.e 0,.q (vU (markW cl 0))]) 12 (kV 13 [.ww]) [1,2] [0,5,6] call89 (ref_SwapF ba A (slotAt c at_) 0 (markW cl 0) oM hi oM hw) (.e k (.e k .n)) (.c call91 (qR [] (ref_Slot c at_ hc og)) (.c call147 (qR [] (ref_Mark cl 0 oa oc)) .n)) ?_
 rintro v post ⟨rfl,rfl⟩
 refine tN .n ?_
 exact gX [.e 0] (gQ k (gI (.bool (decide ((at_+1)<0))) [0,1,2] ⟨(congrArg Value.bool (by first | rfl | (simp; done) | (simp; omega))),rfl⟩))
theorem rclaim_Step(c:Cfg)(k ba:Nat)(K:Cl)(A:Ar)(hc:c.Ok)(hn:A.ws.length=A.n)(hs:0≤A.steps∧A.steps≤1000000000)(hz:(A.n:Int)=sizeOfC c)(hK:Cl.Ok c K):
  Ctr prog 93 #[vP k,vP ba] [EL k c K,Ed ba A false 0,Ea A] (Ret (.bool ((K.step c A).1.at_ == -1)) [EL k c ((K.step c A).1),Ed ba ((K.step c A).2) false 0,Ea ((K.step c A).2)]):=by
 obtain⟨cl,at_,sl⟩:=K
 obtain⟨h1,h2,h3,h4⟩:=hK
 simp only at h1 h2 h3 h4
 have hc':=hc
 simp only [Cfg.Ok] at hc'
 by_cases ha:at_ = -1
 ·have e:Cl.step c ⟨cl,at_,sl⟩ A=(⟨cl,at_,sl⟩,A):=by show(if _ then _ else _) = _; rw [if_pos ha]
  rw [e,show(at_ == -1)=true from beq_iff_eq.2 ha]
  exact rkStepD c k ba cl at_ sl A hc hn hs oa ha
 ·have hat:=h2.resolve_left ha
  have hso:=slotAt_ok hc hat
  by_cases hw:A.ws.getD (slotAt c at_).toNat 0=0
  ·have e:Cl.step c ⟨cl,at_,sl⟩ A=(⟨cl,-1,at_⟩,A.swapT (slotAt c at_) (markW cl 0)):=by show(if _ then _ else _) = _; rw [if_neg ha,if_pos hw]
   rw [e]
   by_cases hl:at_+1=c.slots
   ·exact rkStepTL c k ba cl at_ sl A hc hn hs oa hat oa hw hl
   ·exact rkStepTN c k ba cl at_ sl A hc hn hs oa hat oa hw hl
  ·by_cases hl:at_+1=c.slots
   ·have e:Cl.step c ⟨cl,at_,sl⟩ A=(⟨cl,-1,sl⟩,A.swapF (slotAt c at_)):=by show(if _ then _ else _) = _; rw [if_neg ha,if_neg hw,if_pos hl]
    rw [e]; exact rkStepFL c k ba cl at_ sl A hc hn hs oa hat oa hw hl
   ·have e:Cl.step c ⟨cl,at_,sl⟩ A=(⟨cl,at_+1,sl⟩,A.swapF (slotAt c at_)):=by show(if _ then _ else _) = _; rw [if_neg ha,if_neg hw,if_neg hl]
    rw [e,show(at_+1 == -1)=false from beq_eq_false_iff_ne.2 oa]
    exact rkStepFN c k ba cl at_ sl A hc hn hs oa hat oa hw hl
theorem rnew_Claim(c:Cfg)(cl:Int)(hc:c.Ok)(hcl:0≤cl∧cl<c.clients):
  Ctr prog 133 #[cfgV c,vI cl] [] (fun v L => ∃(k:Nat),v=vP k∧L=[EP k c cl 0 (-1)]):=by
 exact cb 24 func133 fun F=>gX [.e 0,.z [0,1] 1 [1,2,6]] (gN fun b_1=>gQ b_1 (gS [.o [0,1] 1,.c [1,1]] (gC (some 7) [] call67 (ref_right c oM) (gX [.sp [14,12,13] [.dead] [.e 0,.sp [19,18] [.dead] [.e 0]]] (gQ (decide (cl<0)) (gQ (decide (cl<0)) (gF (decide (cl<0)) ol (gQ b_1 (gQ (decide (cl≥c.clients)) (gF (decide (cl≥c.clients)) ol (gQ b_1 (gN fun b_2=>gJ [1] ⟨b_2,rfl,rfl⟩))))))))))))
theorem rnew_Release(c:Cfg)(sl:Int)(hc:c.Ok)(hsl:0≤sl∧sl<c.slots):
  Ctr prog 96 #[cfgV c,vI sl] [] (fun v L => ∃(r:Nat),v=vP r∧L=[EF r c sl false]):=by
 exact cb 24 func96 fun F=>gX [.e 0,.z [0,1] 1 [1,2,6]] (gN fun b_1=>gQ b_1 (gS [.o [0,1] 1,.c [1,1]] (gC (some 7) [] call67 (ref_right c oM) (gX [.sp [14,12,13] [.dead] [.e 0,.sp [19,18] [.dead] [.e 0]]] (gQ (decide (sl<0)) (gQ (decide (sl<0)) (gF (decide (sl<0)) ol (gQ b_1 (gQ (decide (sl≥c.slots)) (gF (decide (sl≥c.slots)) ol (gQ b_1 (gN fun b_2=>gJ [1] ⟨b_2,rfl,rfl⟩))))))))))))
theorem rrelease_Step(c:Cfg)(r ba:Nat)(sl:Int)(A:Ar)(hc:c.Ok)(hn:A.ws.length=A.n)(hsl:0≤sl∧sl<c.slots)(hi:0≤slotAt c sl∧slotAt c sl<A.n)(hs:0≤A.steps∧A.steps≤1000000000):
  Ctr prog 99 #[vP r,vP ba] [EF r c sl false,Ed ba A false 0,Ea A] (Ret (.bool true) [EF r c sl true,Ed ba (A.store (slotAt c sl) 0) false 0,Ea (A.store (slotAt c sl) 0)]):=by
 refine cb 24 func99 fun F=>gX [.e 0,.z [0,1,0,1] 0 [0,1]] (gQ r (gS [.c [0,1,0,1],.c [1,1]] ?_))
 refine tC (some 20) (kV 0 [.ww,.ww,.ww,.ww,.e 0,.ww,.ww,.ww,.e 0,.q (vI (slotAt c sl))]) 10 [] [1,2] [0] call84 (ref_Store ba A (slotAt c sl) 0 oM hi oM) (.e r (.e r .n)) (.c call91 (qR [] (ref_Slot c sl oM og)) .n) ?_
 rintro v post ⟨rfl,rfl⟩
 refine tN .n ?_
 exact gX [.e 0] (gQ r (gJ [0,1,2] ⟨rfl,rfl⟩))
end Go.Proofs.YtpcaijopodhdgaaGreatDoor
namespace Go.Proofs.YtpcaijopodhdgaaGreatDoor
open Go.Proofs.Tryz
open Go.Sx
abbrev Eo(x0:Nat)(c1:Cfg)(x2:Int)(x3:Int)(x4:Value)(x5:Int)(x6:Int)(x7:Int): Ent:=.pts x0 [.int .i64 c1.topics,.int .i64 c1.small,.int .i64 c1.slots,.int .i64 c1.clients,.int .i64 c1.s0,.int .i64 c1.n0,.int .i64 c1.s1,.int .i64 c1.n1,.int .i64 c1.retry,.int .i64 x2,.int .u64 x3,x4,.int .i64 x5,.int .i64 x6,.int .i64 x7] 171
noncomputable abbrev Ez(x0:Nat)(c1:Cfg)(t2:Tk)(x3:Nat): Ent:=.pts x0 [.int .i64 c1.topics,.int .i64 c1.small,.int .i64 c1.slots,.int .i64 c1.clients,.int .i64 c1.s0,.int .i64 c1.n0,.int .i64 c1.s1,.int .i64 c1.n1,.int .i64 c1.retry,.int .i64 t2.head,.int .u64 t2.seen,(nxT x3 t2.ph),.int .i64 t2.cls,.int .i64 t2.block,.int .i64 t2.after] 171
noncomputable abbrev EW(x0:Nat)(c1:Cfg)(t2:Tk)(x3:Nat)(x4:Nat): Ent:=.pts x0 [.int .i64 c1.topics,.int .i64 c1.small,.int .i64 c1.slots,.int .i64 c1.clients,.int .i64 c1.s0,.int .i64 c1.n0,.int .i64 c1.s1,.int .i64 c1.n1,.int .i64 c1.retry,.int .i64 t2.head,.int .u64 t2.seen,(nxT x3 x4),.int .i64 t2.cls,.int .i64 t2.block,.int .i64 t2.after] 171
abbrev qv: List Nat:=[0,1,0,0,1,1,0,0,1,0,1]
abbrev qaw: List Nat:=[1,1,0,0,1,1,0,0,1,0,1]
abbrev qax: List Nat:=[1,1,1,0,0,1,0,1]
theorem clo_Fits(b:Nat)(s_ m_ n_:Int):
  Ctr prog 66 #[.agg #[vI s_,vI m_],vP b] [.pts b [vI n_] 3] (Ret (.bool (decide (s_≥n_))) [.pts b [vI n_] 3]):=by
 exact cb 8 func66 fun F=>gX [.e 1,.e 0] (gN fun b_1=>gQ b_1 (gQ b (gJ [0] ⟨rfl,rfl⟩)))
theorem index_Fits0(c:Cfg)(b b2:Nat)(n_:Int)(h0:n_≤c.s0):
  Ctr prog 65 #[.slice (some ⟨b,4,none⟩) 2 2,.func (.func 66) #[] #[vP b2]] [Ef b c,.pts b2 [vI n_] 3] (Ret (vI 0) [Ef b c,.pts b2 [vI n_] 3]):=by
 exact cb 19 func65 fun F=>gX [.u,.w,.e 0,.z qv 5 [0,1,5,7,8,11,15]] (gQ b (gS [.o qv 5,.c qaw,.b 1,.c qax,.r [0,1,0,1],.b 0,.c [1,1]] (gC (some 16) [1] call66 (clo_Fits b2 c.s0 c.n0 n_) (gX [.sp [16] [] [.dead]] (gT (decide (c.s0≥n_)) om (gJ [0,1] ⟨rfl,rfl⟩))))))
theorem index_Fits1(c:Cfg)(b b2:Nat)(n_:Int)(h0:¬n_≤c.s0)(h1:n_≤c.s1):
  Ctr prog 65 #[.slice (some ⟨b,4,none⟩) 2 2,.func (.func 66) #[] #[vP b2]] [Ef b c,.pts b2 [vI n_] 3] (Ret (vI 1) [Ef b c,.pts b2 [vI n_] 3]):=by
 exact cb 19 func65 fun F=>gX [.u,.w,.e 0,.z qv 5 [0,1,5,7,8,11,15]] (gQ b (gS [.o qv 5,.c qaw,.b 1,.c qax,.r [0,1,0,1],.b 0,.c [1,1]] (gC (some 16) [1] call66 (clo_Fits b2 c.s0 c.n0 n_) (gX [.sp [16] [.dead] [.w,.u,.w,.e 0,.z qv 5 [0,1,5,7,8,11,15]]] (gF (decide (c.s0≥n_)) om (gQ b (gS [.o qv 5,.c qaw,.b 1,.c qax,.r [0,1,0,1],.b 0,.c [1,1]] (gC (some 16) [1] call66 (clo_Fits b2 c.s1 c.n1 n_) (gX [.sp [16] [] [.dead]] (gT (decide (c.s1≥n_)) om (gJ [0,1] ⟨rfl,rfl⟩)))))))))))
theorem index_Fits2(c:Cfg)(b b2:Nat)(n_:Int)(h0:¬n_≤c.s0)(h1:¬n_≤c.s1):
  Ctr prog 65 #[.slice (some ⟨b,4,none⟩) 2 2,.func (.func 66) #[] #[vP b2]] [Ef b c,.pts b2 [vI n_] 3] (Ret (vI (-1)) [Ef b c,.pts b2 [vI n_] 3]):=by
 exact cb 19 func65 fun F=>gX [.u,.w,.e 0,.z qv 5 [0,1,5,7,8,11,15]] (gQ b (gS [.o qv 5,.c qaw,.b 1,.c qax,.r [0,1,0,1],.b 0,.c [1,1]] (gC (some 16) [1] call66 (clo_Fits b2 c.s0 c.n0 n_) (gX [.sp [16] [.dead] [.w,.u,.w,.e 0,.z qv 5 [0,1,5,7,8,11,15]]] (gF (decide (c.s0≥n_)) om (gQ b (gS [.o qv 5,.c qaw,.b 1,.c qax,.r [0,1,0,1],.b 0,.c [1,1]] (gC (some 16) [1] call66 (clo_Fits b2 c.s1 c.n1 n_) (gX [.sp [16] [.dead] [.w,.u]] (gF (decide (c.s1≥n_)) om (gJ [0,1] ⟨rfl,rfl⟩)))))))))))
theorem fitsL(c:Cfg)(n_:Int)(hc:c.Ok)(hn:n_<1):
  Ctr prog 24 #[cfgV c,vI n_] [] (Ret (vI (-1)) []):=by
 exact cb 16 func24 fun F=>gX [.e 0,.z [0,0,1] 1 [2,3,5]] (gN fun b_1=>gN fun b_2=>gQ b_1 (gS [.o [0,0,1] 1,.c [1,0,1],.c [1,1]] (gC (some 6) [] call64 (plan_Check c oM) (gX [.e 1,.sp [11,10] [] [.dead]] (gQ b_2 (gQ (decide (n_<1)) (gT (decide (n_<1)) (decide_eq_true hn) (gR (vI (-1)) [] ⟨rfl,rfl⟩))))))))
theorem fits0(c:Cfg)(n_:Int)(hc:c.Ok)(hn:¬n_<1)(h0:n_≤c.s0):
  Ctr prog 24 #[cfgV c,vI n_] [] (Ret (vI 0) []):=by
 exact cb 16 func24 fun F=>gX [.e 0,.z [0,0,1] 1 [2,3,5]] (gN fun b_1=>gN fun b_2=>gQ b_1 (gS [.o [0,0,1] 1,.c [1,0,1],.c [1,1]] (gC (some 6) [] call64 (plan_Check c oM) (gX [.e 1,.sp [11,10] [.dead] [.z [0,1,1] 3 [13,14]]] (gQ b_2 (gQ (decide (n_<1)) (gF (decide (n_<1)) (decide_eq_false hn) (gS [.o [0,1,1] 3,.c [1,1,1]] (gC (some 15) [0,1] call65 (index_Fits0 c b_1 b_2 n_ oM) (gX [] (gR (vI 0) [] ⟨rfl,rfl⟩)))))))))))
theorem fits1(c:Cfg)(n_:Int)(hc:c.Ok)(hn:¬n_<1)(h0:¬n_≤c.s0)(h1:n_≤c.s1):
  Ctr prog 24 #[cfgV c,vI n_] [] (Ret (vI 1) []):=by
 exact cb 16 func24 fun F=>gX [.e 0,.z [0,0,1] 1 [2,3,5]] (gN fun b_1=>gN fun b_2=>gQ b_1 (gS [.o [0,0,1] 1,.c [1,0,1],.c [1,1]] (gC (some 6) [] call64 (plan_Check c oM) (gX [.e 1,.sp [11,10] [.dead] [.z [0,1,1] 3 [13,14]]] (gQ b_2 (gQ (decide (n_<1)) (gF (decide (n_<1)) (decide_eq_false hn) (gS [.o [0,1,1] 3,.c [1,1,1]] (gC (some 15) [0,1] call65 (index_Fits1 c b_1 b_2 n_ oM oM) (gX [] (gR (vI 1) [] ⟨rfl,rfl⟩)))))))))))
theorem fits2(c:Cfg)(n_:Int)(hc:c.Ok)(hn:¬n_<1)(h0:¬n_≤c.s0)(h1:¬n_≤c.s1):
  Ctr prog 24 #[cfgV c,vI n_] [] (Ret (vI (-1)) []):=by
 exact cb 16 func24 fun F=>gX [.e 0,.z [0,0,1] 1 [2,3,5]] (gN fun b_1=>gN fun b_2=>gQ b_1 (gS [.o [0,0,1] 1,.c [1,0,1],.c [1,1]] (gC (some 6) [] call64 (plan_Check c oM) (gX [.e 1,.sp [11,10] [.dead] [.z [0,1,1] 3 [13,14]]] (gQ b_2 (gQ (decide (n_<1)) (gF (decide (n_<1)) (decide_eq_false hn) (gS [.o [0,1,1] 3,.c [1,1,1]] (gC (some 15) [0,1] call65 (index_Fits2 c b_1 b_2 n_ oM oM) (gX [] (gR (vI (-1)) [] ⟨rfl,rfl⟩)))))))))))
theorem large_Fits(c:Cfg)(n_:Int)(hc:c.Ok):
  Ctr prog 24 #[cfgV c,vI n_] [] (Ret (vI (fitK c n_)) []):=by
 unfold fitK
 by_cases hn:n_<1
 ·rw [if_pos hn]; exact fitsL c n_ hc hn
 ·rw [if_neg hn]
  by_cases h0:n_≤c.s0
  ·rw [if_pos h0]; exact fits0 c n_ hc hn h0
  ·rw [if_neg h0]
   by_cases h1:n_≤c.s1
   ·rw [if_pos h1]; exact fits1 c n_ hc hn h0 h1
   ·rw [if_neg h1]; exact fits2 c n_ hc hn h0 h1
theorem new_Take(c:Cfg)(cl:Int)(hc:c.Ok)(hcl:0≤cl∧cl≤1):
  Ctr prog 49 #[cfgV c,vI cl] [] (fun v L => ∃(k:Nat),v=vP k∧L=[Eo k c (3+cl) 0 (.func (.func 104) #[vP k] #[]) cl 0 0]):=by
 refine cb 28 func49 fun F=>gX [.e 0,.z [0,0,1] 1 [1,2,6]] (gN fun b_1=>gQ b_1 (gS [.o [0,0,1] 1,.c [1,0,1],.c [1,1]] (gC (some 7) [] call64 (plan_Check c oM) (gX [.z [0,0,1] 5 [1,2,9,10]] (gS [.o [0,0,1] 5,.c [1,0,1],.c [1,1]] (gC (some 11) [] call103 (plan_Head cl hcl) (gX [.sp [13,12] [.dead] [.z [0,1,1] 0 [1,2]]] (gQ (decide ((3+cl)<0)) (gF (decide ((3+cl)<0)) ol (gS [.c [0,1,1],.c [1,1,1]] ?_))))))))))
 refine tO (kV 0 [.e 0,.ww,.q (vI (3+cl)),.ww,.ww,.ww]) 6 (kV 7 [.ww]) .w [5] (.e b_1 .n) (.c call103 (qR [] (plan_Head cl hcl)) .n) (sN fun b_2=>(sV ?_))
 refine tN .n ?_
 exact gX [.e 1] (gQ b_2 (gJ [1] ⟨b_2,rfl,rfl⟩))
theorem tkrun_Done0(c:Cfg)(k:Nat)(hd sn cl bk af:Int):
  Ctr prog 158 #[vP k] [Eo k c hd sn (.nilFunc) cl bk af] (Ret (.bool true) [Eo k c hd sn (.nilFunc) cl bk af]):=by
 exact cb 12 func158 fun F=>gX [.e 0] (gQ k (gJ [0] ⟨rfl,rfl⟩))
theorem tkrun_Done1(c:Cfg)(k:Nat)(hd sn cl bk af:Int):
  Ctr prog 158 #[vP k] [Eo k c hd sn (.func (.func 104) #[vP k] #[]) cl bk af] (Ret (.bool false) [Eo k c hd sn (.func (.func 104) #[vP k] #[]) cl bk af]):=by
 exact cb 12 func158 fun F=>gX [.e 0] (gQ k (gJ [0] ⟨rfl,rfl⟩))
theorem tkrun_Done2(c:Cfg)(k:Nat)(hd sn cl bk af:Int):
  Ctr prog 158 #[vP k] [Eo k c hd sn (.func (.func 152) #[vP k] #[]) cl bk af] (Ret (.bool false) [Eo k c hd sn (.func (.func 152) #[vP k] #[]) cl bk af]):=by
 exact cb 12 func158 fun F=>gX [.e 0] (gQ k (gJ [0] ⟨rfl,rfl⟩))
theorem tkrun_Done3(c:Cfg)(k:Nat)(hd sn cl bk af:Int):
  Ctr prog 158 #[vP k] [Eo k c hd sn (.func (.func 178) #[vP k] #[]) cl bk af] (Ret (.bool false) [Eo k c hd sn (.func (.func 178) #[vP k] #[]) cl bk af]):=by
 exact cb 12 func158 fun F=>gX [.e 0] (gQ k (gJ [0] ⟨rfl,rfl⟩))
theorem tkDone0(c:Cfg)(k:Nat)(hd sn cl bk af:Int):
  Ctr prog 109 #[vP k] [Eo k c hd sn (.nilFunc) cl bk af] (Ret (.bool true) [Eo k c hd sn (.nilFunc) cl bk af]):=by
 exact cb 11 func109 fun F=>gX [.z [0,1] 6 [5,8]] (gS [.o [0,1] 6,.c [1,1]] (gC (some 9) [0] call158 (tkrun_Done0 c k hd sn cl bk af) (gX [] (gJ [0] ⟨rfl,rfl⟩))))
theorem tkBlock0(c:Cfg)(k:Nat)(hd sn cl bk af:Int):
  Ctr prog 53 #[vP k] [Eo k c hd sn (.nilFunc) cl bk af] (Ret (vI bk) [Eo k c hd sn (.nilFunc) cl bk af]):=by
 exact cb 14 func53 fun F=>gX [.z [0,0,1] 4 [0,5,6]] (gS [.o [0,0,1] 4,.c [1,0,1],.c [1,1]] (gC (some 7) [0] call109 (tkDone0 c k hd sn cl bk af) (gX [.e 0] (gQ k (gJ [0] ⟨rfl,rfl⟩)))))
theorem tkrun_load(c:Cfg)(k ba:Nat)(hd sn cl bk af:Int)(A:Ar)(nx:Value)(hn:A.ws.length=A.n)(hs:0≤A.steps∧A.steps≤1000000000)(hh:0≤hd∧hd<A.n):
  Ctr prog 150 #[vP k,vP ba] [Eo k c hd sn nx cl bk af,Eb ba A,Ea A] (Ret (undef) [Eo k c hd (A.ws.getD hd.toNat 0) nx cl bk af,Eb ba (A.load hd),Ea (A.load hd)]):=by
 exact cb 13 func150 fun F=>gX [.e 0,.z [] 6 [4,5,9]] (gQ k (gS [.o [] 6] (gC (some 10) [1,2] call116 (arena_Load ba A hd oM oM oM) (gX [.e 0] (gQ k (gJ [0,1,2] ⟨rfl,rfl⟩))))))
theorem tkFirstY(c:Cfg)(k ba:Nat)(hd sn cl bk af:Int)(A:Ar)(nx:Value)(hn:A.ws.length=A.n)(hs:0≤A.steps∧A.steps≤1000000000)(hh:0≤hd∧hd<A.n)(hc:c.Ok)(hR:U64 (A.ws.getD hd.toNat 0))(hq:clsOf c (lo32 (A.ws.getD hd.toNat 0))=cl):
  Ctr prog 104 #[vP k,vP ba] [Eo k c hd sn nx cl bk af,Eb ba A,Ea A] (Ret (undef) [Eo k c hd (A.ws.getD hd.toNat 0) (.func (.func 152) #[vP k] #[]) cl (lo32 (A.ws.getD hd.toNat 0)) af,Eb ba (A.load hd),Ea (A.load hd)]):=by
 exact cb 46 func104 fun F=>gX [.z [0] 4 [0,6,7]] (gS [.o [0] 4,.c [1]] (gC (some 8) [0,1,2] call150 (tkrun_load c k ba hd sn cl bk af A nx oM oM oM) (gX [.e 0,.z [0,1] 6 [0,9,14]] (gQ k (gS [.o [0,1] 6,.c [1,1]] (gC (some 15) [] call151 (heads_Block (A.ws.getD hd.toNat 0) hR) (gX [.e 0,.e 0,.z [0,1,1,1] 0 [0]] (gQ k (gQ k (gS [.c [0,1,1,1],.c [1,1,1,1]] (qG (kV 0 [.ww,.ww,.ww,.ww,.e 0,.ww,.ww,.ww,.e 0,.q (vI (clsOf c (lo32 (A.ws.getD hd.toNat 0)))),.ww,.ww,.ww,.e 0,.t false]) [0,38] (.e k (.e k (.e k (.p (((clsOf c (lo32 (A.ws.getD hd.toNat 0))) != cl)=false) (by rw [hq]; simp) .n)))) (.c call78 (qR [] (plan_Class_all c (lo32 (A.ws.getD hd.toNat 0)) oM (by have:=lo32_in (A.ws.getD hd.toNat 0); simp only [InK]; omega))) .n) (gX [] (gJ [0,1,2] ⟨rfl,rfl⟩)))))))))))))
theorem tkFirstN(c:Cfg)(k ba:Nat)(hd sn cl bk af:Int)(A:Ar)(nx:Value)(hn:A.ws.length=A.n)(hs:0≤A.steps∧A.steps≤1000000000)(hh:0≤hd∧hd<A.n)(hc:c.Ok)(hR:U64 (A.ws.getD hd.toNat 0))(hq:clsOf c (lo32 (A.ws.getD hd.toNat 0))≠cl):
  Ctr prog 104 #[vP k,vP ba] [Eo k c hd sn nx cl bk af,Eb ba A,Ea A] (Ret (undef) [Eo k c hd (A.ws.getD hd.toNat 0) (.nilFunc) cl 0 af,Eb ba (A.load hd),Ea (A.load hd)]):=by
 exact cb 46 func104 fun F=>gX [.z [0] 4 [0,6,7]] (gS [.o [0] 4,.c [1]] (gC (some 8) [0,1,2] call150 (tkrun_load c k ba hd sn cl bk af A nx oM oM oM) (gX [.e 0,.z [0,1] 6 [0,9,14]] (gQ k (gS [.o [0,1] 6,.c [1,1]] (gC (some 15) [] call151 (heads_Block (A.ws.getD hd.toNat 0) hR) (gX [.e 0,.e 0,.z [0,1,1,1] 0 [0]] (gQ k (gQ k (gS [.c [0,1,1,1],.c [1,1,1,1]] (qG (kV 0 [.ww,.ww,.ww,.ww,.e 0,.ww,.ww,.ww,.e 0,.q (vI (clsOf c (lo32 (A.ws.getD hd.toNat 0)))),.ww,.ww,.ww,.e 0,.t true]) [0,38] (.e k (.e k (.e k (.p (((clsOf c (lo32 (A.ws.getD hd.toNat 0))) != cl)=true) (bne_iff_ne.2 hq) .n)))) (.c call78 (qR [] (plan_Class_all c (lo32 (A.ws.getD hd.toNat 0)) oM (by have:=lo32_in (A.ws.getD hd.toNat 0); simp only [InK]; omega))) .n) (gX [.e 0,.e 0] (gQ k (gQ k (gJ [0,1,2] ⟨rfl,rfl⟩)))))))))))))))
theorem tkSecond(c:Cfg)(k ba:Nat)(hd sn cl bk af:Int)(A:Ar)(nx:Value)(hn:A.ws.length=A.n)(hs:0≤A.steps∧A.steps≤1000000000)(hc:c.Ok)(hk:0≤bk∧bk≤4294967295)(hb:0≤blockAt c bk∧blockAt c bk<A.n)(hR:U64 (A.ws.getD (blockAt c bk).toNat 0)):
  Ctr prog 152 #[vP k,vP ba] [Eo k c hd sn nx cl bk af,Eb ba A,Ea A] (Ret (undef) [Eo k c hd sn (.func (.func 178) #[vP k] #[]) cl bk (lo32 (A.ws.getD (blockAt c bk).toNat 0)),Eb ba (A.load (blockAt c bk)),Ea (A.load (blockAt c bk))]):=by
 refine cb 26 func152 fun F=>gX [.z [0] 0 [0,1]] (gS [.c [0],.c [1]] (zG (zN [0,1,2,3,4,5,6,7,8,9,10,11] (kV 0 [.w,.w,.w,.w,.w,.w,.e 0,.w,.w,.w,.e 0,.q (vI (blockAt c bk))]) [0,1,4,5,6,7,8,9,10,11,12,13,14,15] [12] (.e k (.e k (.q (lQ [] call105 (plan_Block c bk oM oh)) .n))) ⟨?_,trivial⟩)))
 refine zC (some 16) [1,2] call116 (arena_Load ba A (blockAt c bk) oM hb oM) ?_
 rintro v post ⟨rfl,rfl⟩
 refine zN [13,14,15] [(0,.w),(13,.q (vI (lo32 (A.ws.getD (blockAt c bk).toNat 0)))),(14,.w),(15,.w)] [16,0,4,17,18,19] [16] (.q (lQ [] call151 (heads_Block (A.ws.getD (blockAt c bk).toNat 0) hR)) .n) ⟨?_,trivial⟩
 refine zX (.e 0) (sQ k (sK ?_))
 exact zE [] [] [0] .n (gX [.e 0] (gQ k (gJ [0,1,2] ⟨rfl,rfl⟩)))
theorem tkrun_turnT(c:Cfg)(k ba:Nat)(hd sn cl bk af:Int)(A:Ar)(nx:Value)(hn:A.ws.length=A.n)(hs:0≤A.steps∧A.steps≤1000000000)(hh:0≤hd∧hd<A.n)(ha:0≤af∧af≤4294967295)(hw:0≤sn∧sn≤18446744073709551615)(hq:(A.ws.getD hd.toNat 0)=sn):
  Ctr prog 193 #[vP k,vP ba,vI af] [Eo k c hd sn nx cl bk af,Eb ba A,Ea A] (Ret (.bool true) [Eo k c hd sn nx cl bk af,Eb ba (A.swapT hd (turnW sn af)),Ea (A.swapT hd (turnW sn af))]):=by
 refine cb 23 func193 fun F=>gX [.z [0,1] 0 [0,1,2]] (gS [.c [0,1],.c [1,1]] ?_)
 refine tC (some 22) (kV 0 [.ww,.ww,.ww,.ww,.e 0,.ww,.ww,.ww,.e 0,.ww,.ww,.ww,.e 0,.ww,.q (vU (turnW sn af))]) 15 (kV 16 [.ww]) [1,2] [6] call185 (arena_SwapT ba A hd sn (turnW sn af) oM hh oM oM) (.e k (.e k (.e k .n))) (.c call202 (qR [] (heads_Turn sn af oM ha)) .n) ?_
 rintro v post ⟨rfl,rfl⟩
 refine tN .n ?_
 exact gX [] (gJ [0,1,2] ⟨rfl,rfl⟩)
theorem tkThirdT(c:Cfg)(k ba:Nat)(hd sn cl bk af:Int)(A:Ar)(nx:Value)(hn:A.ws.length=A.n)(hs:0≤A.steps∧A.steps≤1000000000)(hh:0≤hd∧hd<A.n)(ha:0≤af∧af≤4294967295)(hw:0≤sn∧sn≤18446744073709551615)(hq:(A.ws.getD hd.toNat 0)=sn):
  Ctr prog 178 #[vP k,vP ba] [Eo k c hd sn nx cl bk af,Eb ba A,Ea A] (Ret (undef) [Eo k c hd sn (.nilFunc) cl bk af,Eb ba (A.swapT hd (turnW sn af)),Ea (A.swapT hd (turnW sn af))]):=by
 refine cb 23 func178 fun F=>gX [.e 0,.z [0,1] 0 [0,1]] (gQ k (gS [.c [0,1],.c [1,1]] ?_))
 refine tC (some 18) (kV 0 [.ww,.ww,.ww,.ww,.ww,.ww,.ww,.e 0]) 8 [] [0,1,2] [0,18] call193 (tkrun_turnT c k ba hd sn cl bk af A (.func (.func 104) #[vP k] #[]) oM oM oM oM oM oM) (.e k .n) .n ?_
 rintro v post ⟨rfl,rfl⟩
 refine tN .n ?_
 exact gX [.e 0] (gQ k (gJ [0,1,2] ⟨rfl,rfl⟩))
theorem tkrun_turnF(c:Cfg)(k ba:Nat)(hd sn cl bk af:Int)(A:Ar)(nx:Value)(hn:A.ws.length=A.n)(hs:0≤A.steps∧A.steps≤1000000000)(hh:0≤hd∧hd<A.n)(ha:0≤af∧af≤4294967295)(hw:0≤sn∧sn≤18446744073709551615)(hq:(A.ws.getD hd.toNat 0)≠sn):
  Ctr prog 193 #[vP k,vP ba,vI af] [Eo k c hd sn nx cl bk af,Eb ba A,Ea A] (Ret (.bool false) [Eo k c hd sn nx cl bk af,Eb ba (A.swapF hd),Ea (A.swapF hd)]):=by
 refine cb 23 func193 fun F=>gX [.z [0,1] 0 [0,1,2]] (gS [.c [0,1],.c [1,1]] ?_)
 refine tC (some 22) (kV 0 [.ww,.ww,.ww,.ww,.e 0,.ww,.ww,.ww,.e 0,.ww,.ww,.ww,.e 0,.ww,.q (vU (turnW sn af))]) 15 (kV 16 [.ww]) [1,2] [6] call185 (arena_SwapF ba A hd sn (turnW sn af) oM hh oM oM) (.e k (.e k (.e k .n))) (.c call202 (qR [] (heads_Turn sn af oM ha)) .n) ?_
 rintro v post ⟨rfl,rfl⟩
 refine tN .n ?_
 exact gX [] (gJ [0,1,2] ⟨rfl,rfl⟩)
theorem tkThirdF(c:Cfg)(k ba:Nat)(hd sn cl bk af:Int)(A:Ar)(nx:Value)(hn:A.ws.length=A.n)(hs:0≤A.steps∧A.steps≤1000000000)(hh:0≤hd∧hd<A.n)(ha:0≤af∧af≤4294967295)(hw:0≤sn∧sn≤18446744073709551615)(hq:(A.ws.getD hd.toNat 0)≠sn):
  Ctr prog 178 #[vP k,vP ba] [Eo k c hd sn nx cl bk af,Eb ba A,Ea A] (Ret (undef) [Eo k c hd sn (.func (.func 104) #[vP k] #[]) cl bk af,Eb ba (A.swapF hd),Ea (A.swapF hd)]):=by
 refine cb 23 func178 fun F=>gX [.e 0,.z [0,1] 0 [0,1]] (gQ k (gS [.c [0,1],.c [1,1]] ?_))
 refine tC (some 18) (kV 0 [.ww,.ww,.ww,.ww,.ww,.ww,.ww,.e 0]) 8 [] [0,1,2] [0,18] call193 (tkrun_turnF c k ba hd sn cl bk af A (.func (.func 104) #[vP k] #[]) oM oM oM oM oM oM) (.e k .n) .n ?_
 rintro v post ⟨rfl,rfl⟩
 refine tN .n ?_
 exact gX [] (gJ [0,1,2] ⟨rfl,rfl⟩)
theorem tkrun_Step0(c:Cfg)(k ba:Nat)(hd sn cl bk af:Int)(A:Ar)(hn:A.ws.length=A.n)(hs:0≤A.steps∧A.steps≤1000000000)(hh:0≤hd∧hd<A.n)(hc:c.Ok)(hk:0≤bk∧bk≤4294967295)(hw:0≤sn∧sn≤18446744073709551615)(ha:0≤af∧af≤4294967295):
  Ctr prog 174 #[vP k,vP ba] [Eo k c hd sn (.nilFunc) cl bk af,Eb ba A,Ea A] (Ret (.bool true) [Eo k c hd sn (.nilFunc) cl bk af,Eb ba A,Ea A]):=by
 exact cb 16 func174 fun F=>gX [.z [0,0,1] 1 [0,1,5]] (gS [.o [0,0,1] 1,.c [1,0,1],.c [1,1]] (gC (some 6) [0] call158 (tkrun_Done0 c k hd sn cl bk af) (gX [.z [0,1,1] 1 [14]] (gS [.o [0,1,1] 1,.c [1,1,1]] (gC (some 15) [2] call158 (tkrun_Done0 c k hd sn cl bk af) (gX [] (gJ [2,0,1] ⟨rfl,rfl⟩)))))))
theorem tkrun_Step1Y(c:Cfg)(k ba:Nat)(hd sn cl bk af:Int)(A:Ar)(hn:A.ws.length=A.n)(hs:0≤A.steps∧A.steps≤1000000000)(hh:0≤hd∧hd<A.n)(hc:c.Ok)(hk:0≤bk∧bk≤4294967295)(hw:0≤sn∧sn≤18446744073709551615)(ha:0≤af∧af≤4294967295)(hR:U64 (A.ws.getD hd.toNat 0))(hq:clsOf c (lo32 (A.ws.getD hd.toNat 0))=cl):
  Ctr prog 174 #[vP k,vP ba] [Eo k c hd sn (.func (.func 104) #[vP k] #[]) cl bk af,Eb ba A,Ea A] (Ret (.bool false) [Eo k c hd (A.ws.getD hd.toNat 0) (.func (.func 152) #[vP k] #[]) cl (lo32 (A.ws.getD hd.toNat 0)) af,Eb ba (A.load hd),Ea (A.load hd)]):=by
 exact cb 16 func174 fun F=>gX [.z [0,0,1] 1 [0,1,5]] (gS [.o [0,0,1] 1,.c [1,0,1],.c [1,1]] (gC (some 6) [0] call158 (tkrun_Done1 c k hd sn cl bk af) (gX [.e 2,.z [0,1,0,1] 5 [0,11,12]] (gQ k (gS [.o [0,1,0,1] 5,.c [1,1]] (gC (some 13) [2,0,1] call104 (tkFirstY c k ba hd sn cl bk af A (.func (.func 104) #[vP k] #[]) oM oM oM oM oM oM) (gX [.z [0,1,1] 1 [14]] (gS [.o [0,1,1] 1,.c [1,1,1]] (gC (some 15) [0] call158 (tkrun_Done2 c k hd (A.ws.getD hd.toNat 0) cl (lo32 (A.ws.getD hd.toNat 0)) af) (gX [] (gJ [2,0,1] ⟨rfl,rfl⟩)))))))))))
theorem tkrun_Step1N(c:Cfg)(k ba:Nat)(hd sn cl bk af:Int)(A:Ar)(hn:A.ws.length=A.n)(hs:0≤A.steps∧A.steps≤1000000000)(hh:0≤hd∧hd<A.n)(hc:c.Ok)(hk:0≤bk∧bk≤4294967295)(hw:0≤sn∧sn≤18446744073709551615)(ha:0≤af∧af≤4294967295)(hR:U64 (A.ws.getD hd.toNat 0))(hq:clsOf c (lo32 (A.ws.getD hd.toNat 0))≠cl):
  Ctr prog 174 #[vP k,vP ba] [Eo k c hd sn (.func (.func 104) #[vP k] #[]) cl bk af,Eb ba A,Ea A] (Ret (.bool true) [Eo k c hd (A.ws.getD hd.toNat 0) (.nilFunc) cl 0 af,Eb ba (A.load hd),Ea (A.load hd)]):=by
 exact cb 16 func174 fun F=>gX [.z [0,0,1] 1 [0,1,5]] (gS [.o [0,0,1] 1,.c [1,0,1],.c [1,1]] (gC (some 6) [0] call158 (tkrun_Done1 c k hd sn cl bk af) (gX [.e 2,.z [0,1,0,1] 5 [0,11,12]] (gQ k (gS [.o [0,1,0,1] 5,.c [1,1]] (gC (some 13) [2,0,1] call104 (tkFirstN c k ba hd sn cl bk af A (.func (.func 104) #[vP k] #[]) oM oM oM oM oM oM) (gX [.z [0,1,1] 1 [14]] (gS [.o [0,1,1] 1,.c [1,1,1]] (gC (some 15) [0] call158 (tkrun_Done0 c k hd (A.ws.getD hd.toNat 0) cl 0 af) (gX [] (gJ [2,0,1] ⟨rfl,rfl⟩)))))))))))
theorem tkrun_Step2(c:Cfg)(k ba:Nat)(hd sn cl bk af:Int)(A:Ar)(hn:A.ws.length=A.n)(hs:0≤A.steps∧A.steps≤1000000000)(hh:0≤hd∧hd<A.n)(hc:c.Ok)(hk:0≤bk∧bk≤4294967295)(hw:0≤sn∧sn≤18446744073709551615)(ha:0≤af∧af≤4294967295)(hb:0≤blockAt c bk∧blockAt c bk<A.n)(hR:U64 (A.ws.getD (blockAt c bk).toNat 0)):
  Ctr prog 174 #[vP k,vP ba] [Eo k c hd sn (.func (.func 152) #[vP k] #[]) cl bk af,Eb ba A,Ea A] (Ret (.bool false) [Eo k c hd sn (.func (.func 178) #[vP k] #[]) cl bk (lo32 (A.ws.getD (blockAt c bk).toNat 0)),Eb ba (A.load (blockAt c bk)),Ea (A.load (blockAt c bk))]):=by
 exact cb 16 func174 fun F=>gX [.z [0,0,1] 1 [0,1,5]] (gS [.o [0,0,1] 1,.c [1,0,1],.c [1,1]] (gC (some 6) [0] call158 (tkrun_Done2 c k hd sn cl bk af) (gX [.e 2,.z [0,1,0,1] 5 [0,11,12]] (gQ k (gS [.o [0,1,0,1] 5,.c [1,1]] (gC (some 13) [2,0,1] call152 (tkSecond c k ba hd sn cl bk af A (.func (.func 152) #[vP k] #[]) oM oM oM oM oM oM) (gX [.z [0,1,1] 1 [14]] (gS [.o [0,1,1] 1,.c [1,1,1]] (gC (some 15) [0] call158 (tkrun_Done3 c k hd sn cl bk (lo32 (A.ws.getD (blockAt c bk).toNat 0))) (gX [] (gJ [2,0,1] ⟨rfl,rfl⟩)))))))))))
theorem tkrun_Step3T(c:Cfg)(k ba:Nat)(hd sn cl bk af:Int)(A:Ar)(hn:A.ws.length=A.n)(hs:0≤A.steps∧A.steps≤1000000000)(hh:0≤hd∧hd<A.n)(hc:c.Ok)(hk:0≤bk∧bk≤4294967295)(hw:0≤sn∧sn≤18446744073709551615)(ha:0≤af∧af≤4294967295)(hq:(A.ws.getD hd.toNat 0)=sn):
  Ctr prog 174 #[vP k,vP ba] [Eo k c hd sn (.func (.func 178) #[vP k] #[]) cl bk af,Eb ba A,Ea A] (Ret (.bool true) [Eo k c hd sn (.nilFunc) cl bk af,Eb ba (A.swapT hd (turnW sn af)),Ea (A.swapT hd (turnW sn af))]):=by
 exact cb 16 func174 fun F=>gX [.z [0,0,1] 1 [0,1,5]] (gS [.o [0,0,1] 1,.c [1,0,1],.c [1,1]] (gC (some 6) [0] call158 (tkrun_Done3 c k hd sn cl bk af) (gX [.e 2,.z [0,1,0,1] 5 [0,11,12]] (gQ k (gS [.o [0,1,0,1] 5,.c [1,1]] (gC (some 13) [2,0,1] call178 (tkThirdT c k ba hd sn cl bk af A (.func (.func 178) #[vP k] #[]) oM oM oM oM oM oM) (gX [.z [0,1,1] 1 [14]] (gS [.o [0,1,1] 1,.c [1,1,1]] (gC (some 15) [0] call158 (tkrun_Done0 c k hd sn cl bk af) (gX [] (gJ [2,0,1] ⟨rfl,rfl⟩)))))))))))
theorem tkrun_Step3F(c:Cfg)(k ba:Nat)(hd sn cl bk af:Int)(A:Ar)(hn:A.ws.length=A.n)(hs:0≤A.steps∧A.steps≤1000000000)(hh:0≤hd∧hd<A.n)(hc:c.Ok)(hk:0≤bk∧bk≤4294967295)(hw:0≤sn∧sn≤18446744073709551615)(ha:0≤af∧af≤4294967295)(hq:(A.ws.getD hd.toNat 0)≠sn):
  Ctr prog 174 #[vP k,vP ba] [Eo k c hd sn (.func (.func 178) #[vP k] #[]) cl bk af,Eb ba A,Ea A] (Ret (.bool false) [Eo k c hd sn (.func (.func 104) #[vP k] #[]) cl bk af,Eb ba (A.swapF hd),Ea (A.swapF hd)]):=by
 exact cb 16 func174 fun F=>gX [.z [0,0,1] 1 [0,1,5]] (gS [.o [0,0,1] 1,.c [1,0,1],.c [1,1]] (gC (some 6) [0] call158 (tkrun_Done3 c k hd sn cl bk af) (gX [.e 2,.z [0,1,0,1] 5 [0,11,12]] (gQ k (gS [.o [0,1,0,1] 5,.c [1,1]] (gC (some 13) [2,0,1] call178 (tkThirdF c k ba hd sn cl bk af A (.func (.func 178) #[vP k] #[]) oM oM oM oM oM oM) (gX [.z [0,1,1] 1 [14]] (gS [.o [0,1,1] 1,.c [1,1,1]] (gC (some 15) [0] call158 (tkrun_Done1 c k hd sn cl bk af) (gX [] (gJ [2,0,1] ⟨rfl,rfl⟩)))))))))))
theorem tkStep0(c:Cfg)(k ba:Nat)(hd sn cl bk af:Int)(A:Ar)(hn:A.ws.length=A.n)(hs:0≤A.steps∧A.steps≤1000000000)(hh:0≤hd∧hd<A.n)(hc:c.Ok)(hk:0≤bk∧bk≤4294967295)(hw:0≤sn∧sn≤18446744073709551615)(ha:0≤af∧af≤4294967295):
  Ctr prog 228 #[vP k,vP ba] [Eo k c hd sn (.nilFunc) cl bk af,Eb ba A,Ea A] (Ret (.bool true) [Eo k c hd sn (.nilFunc) cl bk af,Eb ba A,Ea A]):=by
 exact cb 14 func228 fun F=>gX [.z [0,1] 7 [7,10,11]] (gS [.o [0,1] 7,.c [1,1]] (gC (some 12) [0,1,2] call174 (tkrun_Step0 c k ba hd sn cl bk af A oM oM oM oM oM oM oM) (gX [] (gJ [0,1,2] ⟨rfl,rfl⟩))))
theorem tkStep1Y(c:Cfg)(k ba:Nat)(hd sn cl bk af:Int)(A:Ar)(hn:A.ws.length=A.n)(hs:0≤A.steps∧A.steps≤1000000000)(hh:0≤hd∧hd<A.n)(hc:c.Ok)(hk:0≤bk∧bk≤4294967295)(hw:0≤sn∧sn≤18446744073709551615)(ha:0≤af∧af≤4294967295)(hR:U64 (A.ws.getD hd.toNat 0))(hq:clsOf c (lo32 (A.ws.getD hd.toNat 0))=cl):
  Ctr prog 228 #[vP k,vP ba] [Eo k c hd sn (.func (.func 104) #[vP k] #[]) cl bk af,Eb ba A,Ea A] (Ret (.bool false) [Eo k c hd (A.ws.getD hd.toNat 0) (.func (.func 152) #[vP k] #[]) cl (lo32 (A.ws.getD hd.toNat 0)) af,Eb ba (A.load hd),Ea (A.load hd)]):=by
 exact cb 14 func228 fun F=>gX [.z [0,1] 7 [7,10,11]] (gS [.o [0,1] 7,.c [1,1]] (gC (some 12) [0,1,2] call174 (tkrun_Step1Y c k ba hd sn cl bk af A oM oM oM oM oM oM oM oM oM) (gX [] (gJ [0,1,2] ⟨rfl,rfl⟩))))
theorem tkStep1N(c:Cfg)(k ba:Nat)(hd sn cl bk af:Int)(A:Ar)(hn:A.ws.length=A.n)(hs:0≤A.steps∧A.steps≤1000000000)(hh:0≤hd∧hd<A.n)(hc:c.Ok)(hk:0≤bk∧bk≤4294967295)(hw:0≤sn∧sn≤18446744073709551615)(ha:0≤af∧af≤4294967295)(hR:U64 (A.ws.getD hd.toNat 0))(hq:clsOf c (lo32 (A.ws.getD hd.toNat 0))≠cl):
  Ctr prog 228 #[vP k,vP ba] [Eo k c hd sn (.func (.func 104) #[vP k] #[]) cl bk af,Eb ba A,Ea A] (Ret (.bool true) [Eo k c hd (A.ws.getD hd.toNat 0) (.nilFunc) cl 0 af,Eb ba (A.load hd),Ea (A.load hd)]):=by
 exact cb 14 func228 fun F=>gX [.z [0,1] 7 [7,10,11]] (gS [.o [0,1] 7,.c [1,1]] (gC (some 12) [0,1,2] call174 (tkrun_Step1N c k ba hd sn cl bk af A oM oM oM oM oM oM oM oM oM) (gX [] (gJ [0,1,2] ⟨rfl,rfl⟩))))
theorem tkStep2(c:Cfg)(k ba:Nat)(hd sn cl bk af:Int)(A:Ar)(hn:A.ws.length=A.n)(hs:0≤A.steps∧A.steps≤1000000000)(hh:0≤hd∧hd<A.n)(hc:c.Ok)(hk:0≤bk∧bk≤4294967295)(hw:0≤sn∧sn≤18446744073709551615)(ha:0≤af∧af≤4294967295)(hb:0≤blockAt c bk∧blockAt c bk<A.n)(hR:U64 (A.ws.getD (blockAt c bk).toNat 0)):
  Ctr prog 228 #[vP k,vP ba] [Eo k c hd sn (.func (.func 152) #[vP k] #[]) cl bk af,Eb ba A,Ea A] (Ret (.bool false) [Eo k c hd sn (.func (.func 178) #[vP k] #[]) cl bk (lo32 (A.ws.getD (blockAt c bk).toNat 0)),Eb ba (A.load (blockAt c bk)),Ea (A.load (blockAt c bk))]):=by
 exact cb 14 func228 fun F=>gX [.z [0,1] 7 [7,10,11]] (gS [.o [0,1] 7,.c [1,1]] (gC (some 12) [0,1,2] call174 (tkrun_Step2 c k ba hd sn cl bk af A oM oM oM oM oM oM oM oM oM) (gX [] (gJ [0,1,2] ⟨rfl,rfl⟩))))
theorem tkStep3T(c:Cfg)(k ba:Nat)(hd sn cl bk af:Int)(A:Ar)(hn:A.ws.length=A.n)(hs:0≤A.steps∧A.steps≤1000000000)(hh:0≤hd∧hd<A.n)(hc:c.Ok)(hk:0≤bk∧bk≤4294967295)(hw:0≤sn∧sn≤18446744073709551615)(ha:0≤af∧af≤4294967295)(hq:(A.ws.getD hd.toNat 0)=sn):
  Ctr prog 228 #[vP k,vP ba] [Eo k c hd sn (.func (.func 178) #[vP k] #[]) cl bk af,Eb ba A,Ea A] (Ret (.bool true) [Eo k c hd sn (.nilFunc) cl bk af,Eb ba (A.swapT hd (turnW sn af)),Ea (A.swapT hd (turnW sn af))]):=by
 exact cb 14 func228 fun F=>gX [.z [0,1] 7 [7,10,11]] (gS [.o [0,1] 7,.c [1,1]] (gC (some 12) [0,1,2] call174 (tkrun_Step3T c k ba hd sn cl bk af A oM oM oM oM oM oM oM oM) (gX [] (gJ [0,1,2] ⟨rfl,rfl⟩))))
theorem tkStep3F(c:Cfg)(k ba:Nat)(hd sn cl bk af:Int)(A:Ar)(hn:A.ws.length=A.n)(hs:0≤A.steps∧A.steps≤1000000000)(hh:0≤hd∧hd<A.n)(hc:c.Ok)(hk:0≤bk∧bk≤4294967295)(hw:0≤sn∧sn≤18446744073709551615)(ha:0≤af∧af≤4294967295)(hq:(A.ws.getD hd.toNat 0)≠sn):
  Ctr prog 228 #[vP k,vP ba] [Eo k c hd sn (.func (.func 178) #[vP k] #[]) cl bk af,Eb ba A,Ea A] (Ret (.bool false) [Eo k c hd sn (.func (.func 104) #[vP k] #[]) cl bk af,Eb ba (A.swapF hd),Ea (A.swapF hd)]):=by
 exact cb 14 func228 fun F=>gX [.z [0,1] 7 [7,10,11]] (gS [.o [0,1] 7,.c [1,1]] (gC (some 12) [0,1,2] call174 (tkrun_Step3F c k ba hd sn cl bk af A oM oM oM oM oM oM oM oM) (gX [] (gJ [0,1,2] ⟨rfl,rfl⟩))))
theorem take_Step(c:Cfg)(k ba:Nat)(T:Tk)(A:Ar)(hn:A.ws.length=A.n)(hs:0≤A.steps∧A.steps≤1000000000)(hc:c.Ok)(hz:(A.n:Int)=sizeOfC c)(hR:RngW A.ws)(hT:T.Ok c):
  Ctr prog 228 #[vP k,vP ba] [Ez k c T k,Eb ba A,Ea A] (Ret (.bool ((T.step c A).1.ph==0)) [EW k c ((T.step c A).1) k (((T.step c A).1).ph),Eb ba ((T.step c A).2),Ea ((T.step c A).2)]):=by
 obtain⟨hd,cl,sn,bk,af,ph⟩:=T
 obtain⟨h1,h2,h3,h4,h5,h6,h7,hbk⟩:=hT
 simp only at h1 h2 h3 h4 h5 h6 h7 hbk
 have hz5:=sizeOfC_ok hc
 have hh:0≤hd∧hd<A.n:=by omega
 match ph,h1 with
 | 0,_=>exact tkStep0 c k ba hd sn cl bk af A hn hs hh hc hbk h4 h5
 | 1,_=>
  by_cases hq:clsOf c (lo32 (A.ws.getD hd.toNat 0))=cl
  ·have e:Tk.step c ⟨hd,cl,sn,bk,af,1⟩ A=(⟨hd,cl,A.ws.getD hd.toNat 0,lo32 (A.ws.getD hd.toNat 0),af,2⟩,A.load hd):=by show(if _ then _ else _) = _; rw [if_pos hq]
   rw [e]; exact tkStep1Y c k ba hd sn cl bk af A hn hs hh hc hbk h4 h5 (hR _) hq
  ·have e:Tk.step c ⟨hd,cl,sn,bk,af,1⟩ A=(⟨hd,cl,A.ws.getD hd.toNat 0,0,af,0⟩,A.load hd):=by show(if _ then _ else _) = _; rw [if_neg hq]
   rw [e]; exact tkStep1N c k ba hd sn cl bk af A hn hs hh hc hbk h4 h5 (hR _) hq
 | 2,_=>
  have hb:=blockAt_ok hc (b:=bk) (by have:=h6 (.inl rfl); omega)
  exact tkStep2 c k ba hd sn cl bk af A hn hs hh hc hbk h4 h5 oa (hR _)
 | 3,_=>
  by_cases hq:A.ws.getD hd.toNat 0=sn
  ·have e:Tk.step c ⟨hd,cl,sn,bk,af,3⟩ A=(⟨hd,cl,sn,bk,af,0⟩,A.swapT hd (turnW sn af)):=by show(if _ then _ else _) = _; rw [if_pos hq]
   rw [e]; exact tkStep3T c k ba hd sn cl bk af A hn hs hh hc hbk h4 h5 hq
  ·have e:Tk.step c ⟨hd,cl,sn,bk,af,3⟩ A=(⟨hd,cl,sn,bk,af,1⟩,A.swapF hd):=by show(if _ then _ else _) = _; rw [if_neg hq]
   rw [e]; exact tkStep3F c k ba hd sn cl bk af A hn hs hh hc hbk h4 h5 hq
 | n+4,h=>omega
theorem new_TakeC(c:Cfg)(cl:Int)(hc:c.Ok)(hcl:0≤cl∧cl≤1):
  Ctr prog 49 #[cfgV c,vI cl] [] (fun v L => ∃(k:Nat),v=vP k∧L=[Ez k c (newTk cl) k]):=new_Take c cl hc hcl
theorem take_Block(c:Cfg)(k:Nat)(T:Tk)(hd:T.ph=0):
  Ctr prog 53 #[vP k] [Ez k c T k] (Ret (vI T.block) [Ez k c T k]):=by
 obtain⟨hd',cl,sn,bk,af,ph⟩:=T
 simp only at hd
 subst hd
 exact tkBlock0 c k hd' sn cl bk af
end Go.Proofs.YtpcaijopodhdgaaGreatDoor
namespace Go.Proofs.YtpcaijopodhdgaaGreatDoor
open Go.Proofs.Tryz
open Go.Sx
abbrev Eh(x0:Nat)(x1:Value)(x2:Value)(x3:Int)(x4:Bool)(c5:Cfg)(x6:Int)(x7:Int)(x8:Value)(x9:Int)(x10:Int)(x11:Int)(x12:Int)(x13:Int): Ent:=.pts x0 [x1,x2,.int .i64 x3,.bool x4,.int .i64 c5.topics,.int .i64 c5.small,.int .i64 c5.slots,.int .i64 c5.clients,.int .i64 c5.s0,.int .i64 c5.n0,.int .i64 c5.s1,.int .i64 c5.n1,.int .i64 c5.retry,.int .i64 x6,.int .i64 x7,x8,.int .i64 x9,.int .i64 x10,.int .u64 x11,.int .i64 x12,.int .i64 x13] 109
abbrev En(x0:Nat)(x1:Value)(x2:Value)(x3:Int)(x4:Bool)(c5:Cfg)(x6:Int)(x7:Int)(x8:Option Addr)(x9:Nat)(x10:Nat)(x11:Int)(x12:Int)(x13:Int)(x14:Int)(x15:Int): Ent:=.pts x0 [x1,x2,.int .i64 x3,.bool x4,.int .i64 c5.topics,.int .i64 c5.small,.int .i64 c5.slots,.int .i64 c5.clients,.int .i64 c5.s0,.int .i64 c5.n0,.int .i64 c5.s1,.int .i64 c5.n1,.int .i64 c5.retry,.int .i64 x6,.int .i64 x7,.slice x8 x9 x10,.int .i64 x11,.int .i64 x12,.int .u64 x13,.int .i64 x14,.int .i64 x15] 109
abbrev Eae(x0:Nat)(x1:Value)(x2:Int)(x3:Bool)(c4:Cfg)(x5:Int)(x6:Int)(x7:Option Addr)(x8:Nat)(x9:Nat)(x10:Int)(x11:Int)(x12:Int)(x13:Int)(x14:Int): Ent:=.pts x0 [.nilIface,x1,.int .i64 x2,.bool x3,.int .i64 c4.topics,.int .i64 c4.small,.int .i64 c4.slots,.int .i64 c4.clients,.int .i64 c4.s0,.int .i64 c4.n0,.int .i64 c4.s1,.int .i64 c4.n1,.int .i64 c4.retry,.int .i64 x5,.int .i64 x6,.slice x7 x8 x9,.int .i64 x10,.int .i64 x11,.int .u64 x12,.int .i64 x13,.int .i64 x14] 109
theorem pub_follow(c:Cfg)(p:Nat)(wd ep bk od sn fl tm cd:Int)(ov:Bool)(wsl:Value)(r_ th_:Value)(T_:TypeId)(x_:Nat)(f_:Fn)(a_ c_:Array Value):
  Ctr prog 50 #[vP p,.iface T_ (vP x_),.func f_ a_ c_] [Eh p r_ th_ cd ov c wd ep wsl bk od sn fl tm] (Ret (undef) [Eh p (.iface T_ (vP x_)) (.func f_ a_ c_) cd ov c wd ep wsl bk od sn fl tm]):=by
 exact cb 12 func50 fun F=>gX [.e 0] (gQ p (gJ [0] ⟨rfl,rfl⟩))
theorem pub_end(c:Cfg)(p:Nat)(wd ep bk od sn fl tm cd:Int)(ov:Bool)(wsl:Value)(r_ th_:Value)(k_:Int):
  Ctr prog 57 #[vP p,vI k_] [Eh p r_ th_ cd ov c wd ep wsl bk od sn fl tm] (Ret (undef) [Eh p r_ th_ k_ true c wd ep wsl bk od sn fl tm]):=by
 exact cb 11 func57 fun F=>gX [.e 0,.e 0] (gQ p (gQ p (gJ [0] ⟨rfl,rfl⟩)))
theorem pub_taken0(c:Cfg)(p:Nat)(wd ep bk od sn fl tm cd:Int)(ov:Bool)(wsl:Value)(r_ th_:Value)(b_:Int)(h0:b_ = 0):
  Ctr prog 52 #[vP p,vI b_] [Eh p r_ th_ cd ov c wd ep wsl bk od sn fl tm] (Ret (undef) [Eh p r_ th_ 18 true c wd ep wsl bk od sn fl tm]):=by
 exact cb 37 func52 fun F=>gX [.sp [6] [.e 1,.z [0,0,1,0,1] 3 [9]] [.dead]] (gN fun b_1=>gT (b_==0) (by simp [h0]) (gQ b_1 (gS [.o [0,0,1,0,1] 3,.c [1,0,1,0,1],.c [1,1]] (gC (some 10) [0] call57 (pub_end c p wd ep bk od sn fl tm cd ov wsl r_ th_ 18) (gX [] (gJ [1] ⟨rfl,rfl⟩))))))
theorem pub_taken1(c:Cfg)(p:Nat)(wd ep bk od sn fl tm cd:Int)(wa:Option Addr)(wn wc:Nat)(r_ th_:Value)(b_:Int)(hc:c.Ok)(hb0:b_≠0)(hb:0≤clsOf c b_):
  Ctr prog 52 #[vP p,vI b_] [En p r_ th_ cd false c wd ep wa wn wc bk od sn fl tm] (fun v L => ∃(eb:Nat) (bf:Nat) (bp:Nat),v=undef∧L=[En p (.iface 173 (vP eb)) (.func (.func 108) #[vP p] #[]) cd false c wd ep wa wn wc b_ od sn fl tm,.pts eb [vI 0,vI ((wn:Nat):Int),.func (.func 106) #[] #[vP bf,vP bp]] 176,.pts bf [vI (blockAt c b_+1)] 3,.pts bp [vP p] 23]):=by
 refine cb 37 func52 fun F=>gX [.sp [6] [.dead] [.e 1,.e 0,.e 1,.e 0,.z [0,1,1,1] 5 [2,18,19]]] (gN fun b_1=>gF (b_==0) (by simp [hb0]) (gQ b_1 (gQ p (gQ b_1 (gQ p (gS [.o [0,1,1,1] 5,.c [1,1,1,1]] (gC (some 20) [] call105 (plan_Block c b_ oM (by have:=clsOf_ok hb; simp only [Cfg.Ok,InK] at *; omega)) (gX [.n,.e 2,.z [1,1,1,1] 0 [2,4]] (gO (InK .i64 ((blockAt c b_)+1)) (by have h7:=blockAt_ok hc hb; have h8:=sizeOfC_ok hc; simp only [InK]; omega) (gN fun b_2=>gQ b_2 (gS [.c [1,1,1,1]] (zG (zN [0,1,2,3,4,5,6,7,8,9,12,13] (kV 0 [.e 1,.w,.w,.e 1,.w,.w,.e 0,.w,.w,.w]++kV 12 [.e 1,.w]) [2,4,22,23,24,25,26,27,28,29,30,31,34,35] [10] (.e b_1 (.e b_1 (.e p (.e b_1 .n)))) ⟨?_,trivial⟩)))))))))))))
 refine zX .w (sN fun b_10_1=>(sV ?_))
 refine zN [11] (kV 0 [.e 1,.w,.w]++kV 11 [.w,.e 1,.w]) [32,2,22,23,24,33,34,35] [14] (.e b_1 (.e b_1 .n)) ⟨?_,trivial⟩
 refine zC (some 36) [0] call50 (pub_follow c p wd ep b_ od sn fl tm cd false (.slice wa wn wc) r_ th_ 173 b_10_1 (.func 108) (#[vP p]) (#[])) ?_
 rintro v post ⟨rfl,rfl⟩
 exact zE [] [] [] .n (gX [] (gJ [3,2,1,0] ⟨b_10_1,b_2,b_1,rfl,rfl⟩))
theorem pub_then1_0(c:Cfg)(p bp bt k:Nat)(wd ep bk od sn fl tm cd:Int)(wa:Option Addr)(wn wc:Nat)(r_ th_:Value)(T:Tk)(hd:T.ph=0)(h0:T.block=0):
  Ctr prog 51 #[vP bp,vP bt] [.pts bp [vP p] 23,.pts bt [vP k] 114,Ez k c T k,En p r_ th_ cd false c wd ep wa wn wc bk od sn fl tm] (Ret (undef) [.pts bp [vP p] 23,.pts bt [vP k] 114,Ez k c T k,En p r_ th_ 18 true c wd ep wa wn wc bk od sn fl tm]):=by
 refine cb 6 func51 fun F => ?_
 refine tC (some 5) (kV 0 [.e 0,.e 1,.q (vI T.block)]) 3 [] [3] [] call52 (pub_taken0 c p wd ep bk od sn fl tm cd false (.slice wa wn wc) r_ th_ T.block oM) (.e bp (.e bt .n)) (.c call53 (qR [2] (take_Block c k T hd)) .n) ?_
 rintro v post ⟨rfl,rfl⟩
 refine tN .n ?_
 exact gX [] (gJ [0,1,2,3] ⟨rfl,rfl⟩)
theorem pub_then1_1(c:Cfg)(p bp bt k:Nat)(wd ep bk od sn fl tm cd:Int)(wa:Option Addr)(wn wc:Nat)(r_ th_:Value)(T:Tk)(hd:T.ph=0)(hc:c.Ok)(h0:T.block≠0)(hb:0≤clsOf c T.block):
  Ctr prog 51 #[vP bp,vP bt] [.pts bp [vP p] 23,.pts bt [vP k] 114,Ez k c T k,En p r_ th_ cd false c wd ep wa wn wc bk od sn fl tm] (fun v L => ∃(eb:Nat) (bf:Nat) (bq:Nat),v=undef∧L=[.pts bp [vP p] 23,.pts bt [vP k] 114,Ez k c T k,En p (.iface 173 (vP eb)) (.func (.func 108) #[vP p] #[]) cd false c wd ep wa wn wc T.block od sn fl tm,.pts eb [vI 0,vI ((wn:Nat):Int),.func (.func 106) #[] #[vP bf,vP bq]] 176,.pts bf [vI (blockAt c T.block+1)] 3,.pts bq [vP p] 23]):=by
 refine cb 6 func51 fun F => ?_
 refine tC (some 5) (kV 0 [.e 0,.e 1,.q (vI T.block)]) 3 [] [3] [] call52 (pub_taken1 c p wd ep bk od sn fl tm cd wa wn wc r_ th_ T.block oM h0 hb) (.e bp (.e bt .n)) (.c call53 (qR [2] (take_Block c k T hd)) .n) ?_
 rintro v post ⟨eb_1,bf_2,bp_3,rfl,rfl⟩
 refine tN .n ?_
 exact gX [] (gJ [0,1,2,3,4,5,6] ⟨eb_1,bf_2,bp_3,rfl,rfl⟩)
theorem pstep1W(c:Cfg)(p ba k bp bt:Nat)(wd ep bk od sn fl tm cd:Int)(wa:Option Addr)(wn wc:Nat)(T:Tk)(A:Ar)(hn:A.ws.length=A.n)(hs:0≤A.steps∧A.steps≤1000000000)(hc:c.Ok)(hz:(A.n:Int)=sizeOfC c)(hR:RngW A.ws)(hT:T.Ok c)(hd:(T.step c A).1.ph≠0):
  Ctr prog 61 #[vP p,vP ba] [En p (.iface 114 (vP k)) (.func (.func 51) #[] #[vP bp,vP bt]) cd false c wd ep wa wn wc bk od sn fl tm,.pts bp [vP p] 23,.pts bt [vP k] 114,Ez k c T k,Eb ba A,Ea A] (Ret (.bool false) [En p (.iface 114 (vP k)) (.func (.func 51) #[] #[vP bp,vP bt]) cd false c wd ep wa wn wc bk od sn fl tm,.pts bp [vP p] 23,.pts bt [vP k] 114,EW k c ((T.step c A).1) k (((T.step c A).1).ph),Eb ba ((T.step c A).2),Ea ((T.step c A).2)]):=by
 refine cb 29 func61 fun F=>gX [.e 0,.e 0,.z [0,0,1] 12 [0,10,15,16]] (gQ p (gQ p (gS [.o [0,0,1] 12,.c [1,0,1],.c [1,1]] ?_)))
 refine go_invoke (some 17) [3,4,5] (T:=114) (rv:=vP k) (name:= "Step") (fun w=>by kernel_rfl) call228 (take_Step c k ba T A oM oM oM hz hR hT) kR ?_
 rintro v post ⟨rfl,rfl⟩
 exact gX [.sp [18,17] [.dead] [.e 0]] (gQ ((T.step c A).1.ph==0) (gF ((T.step c A).1.ph==0) (beq_eq_false_iff_ne.2 hd) (gQ p (gJ [0,1,2,3,4,5] ⟨rfl,rfl⟩))))
theorem pstep1N(c:Cfg)(p ba k bp bt:Nat)(wd ep bk od sn fl tm cd:Int)(wa:Option Addr)(wn wc:Nat)(T:Tk)(A:Ar)(hn:A.ws.length=A.n)(hs:0≤A.steps∧A.steps≤1000000000)(hc:c.Ok)(hz:(A.n:Int)=sizeOfC c)(hR:RngW A.ws)(hT:T.Ok c)(hd:(T.step c A).1.ph=0)(h0:(T.step c A).1.block=0):
  Ctr prog 61 #[vP p,vP ba] [En p (.iface 114 (vP k)) (.func (.func 51) #[] #[vP bp,vP bt]) cd false c wd ep wa wn wc bk od sn fl tm,.pts bp [vP p] 23,.pts bt [vP k] 114,Ez k c T k,Eb ba A,Ea A] (Ret (.bool true) [En p (.iface 114 (vP k)) (.func (.func 51) #[] #[vP bp,vP bt]) 18 true c wd ep wa wn wc bk od sn fl tm,.pts bp [vP p] 23,.pts bt [vP k] 114,EW k c ((T.step c A).1) k (((T.step c A).1).ph),Eb ba ((T.step c A).2),Ea ((T.step c A).2)]):=by
 refine cb 29 func61 fun F=>gX [.e 0,.e 0,.z [0,0,1] 12 [0,10,15,16]] (gQ p (gQ p (gS [.o [0,0,1] 12,.c [1,0,1],.c [1,1]] ?_)))
 refine go_invoke (some 17) [3,4,5] (T:=114) (rv:=vP k) (name:= "Step") (fun w=>by kernel_rfl) call228 (take_Step c k ba T A oM oM oM hz hR hT) kR ?_
 rintro v post ⟨rfl,rfl⟩
 exact gX [.sp [18,17] [.e 0,.z [0,1,0,1] 5 [0,23]] [.dead]] (gQ ((T.step c A).1.ph==0) (gT ((T.step c A).1.ph==0) (beq_iff_eq.2 hd) (gQ p (gS [.o [0,1,0,1] 5,.c [1,1]] (gC (some 24) [1,2,3,0] call51 (pub_then1_0 c p bp bt k wd ep bk od sn fl tm cd wa wn wc (.iface 114 (vP k)) (.func (.func 51) #[] #[vP bp,vP bt]) ((T.step c A).1) hd h0) (gX [.e 5] (gQ p (gJ [5,2,3,4,0,1] ⟨rfl,rfl⟩))))))))
theorem pstep1Y(c:Cfg)(p ba k bp bt:Nat)(wd ep bk od sn fl tm cd:Int)(wa:Option Addr)(wn wc:Nat)(T:Tk)(A:Ar)(hn:A.ws.length=A.n)(hs:0≤A.steps∧A.steps≤1000000000)(hc:c.Ok)(hz:(A.n:Int)=sizeOfC c)(hR:RngW A.ws)(hT:T.Ok c)(hd:(T.step c A).1.ph=0)(h0:(T.step c A).1.block≠0)(hb:0≤clsOf c (T.step c A).1.block):
  Ctr prog 61 #[vP p,vP ba] [En p (.iface 114 (vP k)) (.func (.func 51) #[] #[vP bp,vP bt]) cd false c wd ep wa wn wc bk od sn fl tm,.pts bp [vP p] 23,.pts bt [vP k] 114,Ez k c T k,Eb ba A,Ea A] (fun v L => ∃(eb:Nat) (bf:Nat) (bq:Nat),v = .bool false∧L=[En p (.iface 173 (vP eb)) (.func (.func 108) #[vP p] #[]) cd false c wd ep wa wn wc ((T.step c A).1.block) od sn fl tm,.pts bp [vP p] 23,.pts bt [vP k] 114,EW k c ((T.step c A).1) k (((T.step c A).1).ph),Eb ba ((T.step c A).2),Ea ((T.step c A).2),.pts eb [vI 0,vI ((wn:Nat):Int),.func (.func 106) #[] #[vP bf,vP bq]] 176,.pts bf [vI (blockAt c (T.step c A).1.block+1)] 3,.pts bq [vP p] 23]):=by
 refine cb 29 func61 fun F=>gX [.e 0,.e 0,.z [0,0,1] 12 [0,10,15,16]] (gQ p (gQ p (gS [.o [0,0,1] 12,.c [1,0,1],.c [1,1]] ?_)))
 refine go_invoke (some 17) [3,4,5] (T:=114) (rv:=vP k) (name:= "Step") (fun w=>by kernel_rfl) call228 (take_Step c k ba T A oM oM oM hz hR hT) kR ?_
 rintro v post ⟨rfl,rfl⟩
 refine gX [.sp [18,17] [.e 0,.z [0,1,0,1] 5 [0,23]] [.dead]] (gQ ((T.step c A).1.ph==0) (gT ((T.step c A).1.ph==0) (beq_iff_eq.2 hd) (gQ p (gS [.o [0,1,0,1] 5,.c [1,1]] ?_))))
 refine go_call (some 24) [1,2,3,0] call51 (pub_then1_1 c p bp bt k wd ep bk od sn fl tm cd wa wn wc (.iface 114 (vP k)) (.func (.func 51) #[] #[vP bp,vP bt]) ((T.step c A).1) hd oM h0 hb) kR ?_
 rintro v post ⟨eb_1,bf_2,bq_3,rfl,rfl⟩
 exact gX [.e 5] (gQ p (gJ [5,2,3,4,0,1,6,7,8] ⟨eb_1,bf_2,bq_3,rfl,rfl⟩))
theorem pub_Step1W(c:Cfg)(p ba k bp bt:Nat)(wd ep bk od sn fl tm cd:Int)(wa:Option Addr)(wn wc:Nat)(T:Tk)(A:Ar)(hn:A.ws.length=A.n)(hs:0≤A.steps∧A.steps≤1000000000)(hc:c.Ok)(hz:(A.n:Int)=sizeOfC c)(hR:RngW A.ws)(hT:T.Ok c)(hd:(T.step c A).1.ph≠0):
  Ctr prog 15 #[vP p,vP ba] [En p (.iface 114 (vP k)) (.func (.func 51) #[] #[vP bp,vP bt]) cd false c wd ep wa wn wc bk od sn fl tm,.pts bp [vP p] 23,.pts bt [vP k] 114,Ez k c T k,Eb ba A,Ea A] (Ret (.bool false) [En p (.iface 114 (vP k)) (.func (.func 51) #[] #[vP bp,vP bt]) cd false c wd ep wa wn wc bk od sn fl tm,.pts bp [vP p] 23,.pts bt [vP k] 114,EW k c ((T.step c A).1) k (((T.step c A).1).ph),Eb ba ((T.step c A).2),Ea ((T.step c A).2)]):=by
 exact cb 14 func15 fun F=>gX [.z [0,1] 7 [7,10,11]] (gS [.o [0,1] 7,.c [1,1]] (gC (some 12) [0,1,2,3,4,5] call61 (pstep1W c p ba k bp bt wd ep bk od sn fl tm cd wa wn wc T A oM oM oM oM oM hT hd) (gX [] (gJ [0,1,2,3,4,5] ⟨rfl,rfl⟩))))
theorem pub_Step1N(c:Cfg)(p ba k bp bt:Nat)(wd ep bk od sn fl tm cd:Int)(wa:Option Addr)(wn wc:Nat)(T:Tk)(A:Ar)(hn:A.ws.length=A.n)(hs:0≤A.steps∧A.steps≤1000000000)(hc:c.Ok)(hz:(A.n:Int)=sizeOfC c)(hR:RngW A.ws)(hT:T.Ok c)(hd:(T.step c A).1.ph=0)(h0:(T.step c A).1.block=0):
  Ctr prog 15 #[vP p,vP ba] [En p (.iface 114 (vP k)) (.func (.func 51) #[] #[vP bp,vP bt]) cd false c wd ep wa wn wc bk od sn fl tm,.pts bp [vP p] 23,.pts bt [vP k] 114,Ez k c T k,Eb ba A,Ea A] (Ret (.bool true) [En p (.iface 114 (vP k)) (.func (.func 51) #[] #[vP bp,vP bt]) 18 true c wd ep wa wn wc bk od sn fl tm,.pts bp [vP p] 23,.pts bt [vP k] 114,EW k c ((T.step c A).1) k (((T.step c A).1).ph),Eb ba ((T.step c A).2),Ea ((T.step c A).2)]):=by
 exact cb 14 func15 fun F=>gX [.z [0,1] 7 [7,10,11]] (gS [.o [0,1] 7,.c [1,1]] (gC (some 12) [0,1,2,3,4,5] call61 (pstep1N c p ba k bp bt wd ep bk od sn fl tm cd wa wn wc T A oM oM oM oM oM hT hd h0) (gX [] (gJ [0,1,2,3,4,5] ⟨rfl,rfl⟩))))
theorem pub_Step1Y(c:Cfg)(p ba k bp bt:Nat)(wd ep bk od sn fl tm cd:Int)(wa:Option Addr)(wn wc:Nat)(T:Tk)(A:Ar)(hn:A.ws.length=A.n)(hs:0≤A.steps∧A.steps≤1000000000)(hc:c.Ok)(hz:(A.n:Int)=sizeOfC c)(hR:RngW A.ws)(hT:T.Ok c)(hd:(T.step c A).1.ph=0)(h0:(T.step c A).1.block≠0)(hb:0≤clsOf c (T.step c A).1.block):
  Ctr prog 15 #[vP p,vP ba] [En p (.iface 114 (vP k)) (.func (.func 51) #[] #[vP bp,vP bt]) cd false c wd ep wa wn wc bk od sn fl tm,.pts bp [vP p] 23,.pts bt [vP k] 114,Ez k c T k,Eb ba A,Ea A] (fun v L => ∃(eb:Nat) (bf:Nat) (bq:Nat),v = .bool false∧L=[En p (.iface 173 (vP eb)) (.func (.func 108) #[vP p] #[]) cd false c wd ep wa wn wc ((T.step c A).1.block) od sn fl tm,.pts bp [vP p] 23,.pts bt [vP k] 114,EW k c ((T.step c A).1) k (((T.step c A).1).ph),Eb ba ((T.step c A).2),Ea ((T.step c A).2),.pts eb [vI 0,vI ((wn:Nat):Int),.func (.func 106) #[] #[vP bf,vP bq]] 176,.pts bf [vI (blockAt c (T.step c A).1.block+1)] 3,.pts bq [vP p] 23]):=by
 refine cb 14 func15 fun F=>gX [.z [0,1] 7 [7,10,11]] (gS [.o [0,1] 7,.c [1,1]] ?_)
 refine go_call (some 12) [0,1,2,3,4,5] call61 (pstep1Y c p ba k bp bt wd ep bk od sn fl tm cd wa wn wc T A oM oM oM oM oM hT hd h0 hb) kR ?_
 rintro v post ⟨eb_1,bf_2,bq_3,rfl,rfl⟩
 exact gX [] (gJ [0,1,2,3,4,5,6,7,8] ⟨eb_1,bf_2,bq_3,rfl,rfl⟩)
abbrev Hc: List (Nat×Hn):=[]
abbrev Ynew_Pub(c:Cfg)(tp:Int)(ep:Int)(a:Option Addr)(cw:Nat)(ws:List Int): Value→List Ent→Prop:=(fun v L => ∃(p:Nat) (k:Nat) (bp:Nat) (bt:Nat) (wa:Option Addr) (wc:Nat),v=vP p∧L=[Ee a cw ws,En p (.iface 114 (vP k)) (.func (.func 51) #[] #[vP bp,vP bt]) 0 false c (ctlAt c tp) ep wa ws.length wc 0 0 0 0 0,.pts bp [vP p] 23,.pts bt [vP k] 114,Ez k c (newTk (fitK c (ws.length:Int))) k,Ee wa wc ws])
theorem new_Pub(c:Cfg)(tp ep:Int)(a:Option Addr)(cw:Nat)(ws:List Int)(hc:c.Ok)(hl:ws.length≤1000000)(hf:(fitK c (ws.length:Int))≠-1)(ht:ctlAt c tp≠-1):
  Ctr prog 12 #[cfgV c,vI tp,vI ep,.slice a ws.length cw] [Ee a cw ws] (Ynew_Pub c tp ep a cw ws):=by
 refine cb 45 func12 fun F=>gX [.e 1,.z [0,1] 3 [1,2,3,4,12,14]] (gN fun b_1=>gQ b_1 (gS [.o [0,1] 3,.c [1,1]] (gC (some 15) [] call24 (large_Fits c (ws.length:Int) oM) (gX [.z [0,1,1] 0 [1,2,3,4,9]] (gW (ks:=[.c [0,1,1],.c [1,1,1]]) [(1,vI tp),(2,vI ep),(3,.slice a ws.length cw),(4,vP b_1),(9,vI (fitK c (ws.length:Int)))] [Ee a cw ws,Ef b_1 c] ?_)))))
 have aS7_1:∀(a2_6_1:Option Addr) (c2_6_1:Nat) (b_8_1:Nat) (b_9_1:Nat),Any prog f12 (bd f12) 45 F (RetR F (Ynew_Pub c tp ep a cw ws)) (regOps (bd f12) [0,1,1]) [.c [1,1,1]] #[true,true,true,true,true,true,true,true,true,true,true] [(4,vP b_1),(9,vI (fitK c (ws.length:Int))),(10,vP b_9_1)] [Ef b_1 c,Ee a cw ws,Ee a2_6_1 c2_6_1 ws,Eae b_8_1 (.nilFunc) 0 false c (ctlAt c tp) ep a2_6_1 ws.length c2_6_1 0 0 0 0 0,.pts b_9_1 [vP b_8_1] 23]:=by
  intro a2_6_1 c2_6_1 b_8_1 b_9_1
  refine any_done kR ?_
  refine gX [.sp [27,26] [.dead] [.e 4,.e 3,.sp [33,32] [.dead] [.e 0,.z [0,1,1,1,1] 2 [10,34,35]]]] (gQ ((fitK c (ws.length:Int))==(-1)) (gF ((fitK c (ws.length:Int))==(-1)) (beq_eq_false_iff_ne.2 hf) (gQ b_9_1 (gQ b_8_1 (gQ ((ctlAt c tp)==(-1)) (gF ((ctlAt c tp)==(-1)) (beq_eq_false_iff_ne.2 ht) (gQ b_1 (gS [.o [0,1,1,1,1] 2,.c [1,1,1,1,1]] ?_))))))))
  refine go_call (some 36) [] call49 (new_TakeC c (fitK c (ws.length:Int)) oM (by have:=fitK_rng c (ws.length:Int); omega)) kR ?_
  rintro v post ⟨k_2,rfl,rfl⟩
  refine gX [.e 6,.z [0,1,1,1,1,1] 0 [10,11]] (gN fun b_4=>gQ b_4 (gS [.c [0,1,1,1,1,1],.c [1,1,1,1,1,1]] ?_))
  refine tC (some 43) (kV 0 [.e 4,.ww,.ww,.e 6,.ww,.ww]) 6 [] [3] [10] call50 (pub_follow c b_8_1 (ctlAt c tp) ep 0 0 0 0 0 0 false (.slice a2_6_1 ws.length c2_6_1) (.nilIface) (.nilFunc) 114 k_2 (.func 51) (#[]) (#[vP b_9_1,vP b_4])) (.e b_9_1 (.e b_4 .n)) .n ?_
  rintro v post ⟨rfl,rfl⟩
  refine tN .n ?_
  exact gX [.e 3] (gQ b_9_1 (gJ [1,6,3,5,4,2] ⟨b_8_1,k_2,b_9_1,b_4,a2_6_1,c2_6_1,rfl,rfl⟩))
 have aS6_1:∀(a2_6_1:Option Addr) (c2_6_1:Nat) (b_8_1:Nat) (b_9_1:Nat),Any prog f12 (bd f12) 45 F (RetR F (Ynew_Pub c tp ep a cw ws)) (regOps (bd f12) [0,1,1]) [.c [1,1,1]] #[true,true,true,true,true,true,true,true,true,true,false] [(4,vP b_1),(9,vI (fitK c (ws.length:Int))),(24,vP b_8_1),(10,vP b_9_1)] [Ef b_1 c,Ee a cw ws,Ee a2_6_1 c2_6_1 ws,Eae b_8_1 (.nilFunc) 0 false c (ctlAt c tp) ep a2_6_1 ws.length c2_6_1 0 0 0 0 0,.pts b_9_1 [.pointer none] 23]:=by
  intro a2_6_1 c2_6_1 b_8_1 b_9_1
  refine any_step [10] kR rfl ⟨?_,trivial⟩
  ·refine aX (.e 4) (sQ b_9_1 (sK ?_))
   refine aP Hc [4,9,10] .n ?_
   exact aW [4,9,10] [0,1,2,3,4] (aS7_1 a2_6_1 c2_6_1 b_8_1 b_9_1)
 have aS5_1:∀(a2_6_1:Option Addr) (c2_6_1:Nat) (b_8_1:Nat),Any prog f12 (bd f12) 45 F (RetR F (Ynew_Pub c tp ep a cw ws)) (regOps (bd f12) [0,1,1]) [.c [1,1,1]] #[true,true,true,true,true,true,true,true,true,false,false] [(4,vP b_1),(9,vI (fitK c (ws.length:Int))),(24,vP b_8_1)] [Ef b_1 c,Ee a cw ws,Ee a2_6_1 c2_6_1 ws,Eae b_8_1 (.nilFunc) 0 false c (ctlAt c tp) ep a2_6_1 ws.length c2_6_1 0 0 0 0 0]:=by
  intro a2_6_1 c2_6_1 b_8_1
  refine any_step [9] kR rfl ⟨?_,trivial⟩
  ·refine aX .w (sN fun b_9_1=>(sV ?_))
   refine aP Hc [4,9,24,10] .n ?_
   exact aW [4,9,24,10] [0,1,2,3,4] (aS6_1 a2_6_1 c2_6_1 b_8_1 b_9_1)
 have aS8_4:∀(a2_6_1:Option Addr) (c2_6_1:Nat) (b_9_1:Nat),Any prog f12 (bd f12) 45 F (RetR F (Ynew_Pub c tp ep a cw ws)) (regOps (bd f12) [0,1,1]) [.c [1,1,1]] #[true,true,true,true,true,true,true,true,false,true,false] [(4,vP b_1),(9,vI (fitK c (ws.length:Int))),(23,.agg #[.nilIface,.nilFunc,vI 0,.bool false,vI c.topics,vI c.small,vI c.slots,vI c.clients,vI c.s0,vI c.n0,vI c.s1,vI c.n1,vI c.retry,vI (ctlAt c tp),vI ep,.slice a2_6_1 ws.length c2_6_1,vI 0,vI 0,vU 0,vI 0,vI 0]),(10,vP b_9_1)] [Ef b_1 c,Ee a cw ws,Ee a2_6_1 c2_6_1 ws,.pts b_9_1 [.pointer none] 23]:=by
  intro a2_6_1 c2_6_1 b_9_1
  refine any_step [8] kR rfl ⟨?_,trivial⟩
  ·refine aX .w (sN fun b_8_1=>(sV ?_))
   refine aP Hc [4,9,24,10] .n ?_
   exact aW [4,9,24,10] [0,1,2,4,3] (aS6_1 a2_6_1 c2_6_1 b_8_1 b_9_1)
 have aS4_1:∀(a2_6_1:Option Addr) (c2_6_1:Nat),Any prog f12 (bd f12) 45 F (RetR F (Ynew_Pub c tp ep a cw ws)) (regOps (bd f12) [0,1,1]) [.c [1,1,1]] #[true,true,true,true,true,true,true,true,false,false,false] [(4,vP b_1),(9,vI (fitK c (ws.length:Int))),(23,.agg #[.nilIface,.nilFunc,vI 0,.bool false,vI c.topics,vI c.small,vI c.slots,vI c.clients,vI c.s0,vI c.n0,vI c.s1,vI c.n1,vI c.retry,vI (ctlAt c tp),vI ep,.slice a2_6_1 ws.length c2_6_1,vI 0,vI 0,vU 0,vI 0,vI 0])] [Ef b_1 c,Ee a cw ws,Ee a2_6_1 c2_6_1 ws]:=by
  intro a2_6_1 c2_6_1
  refine any_step [8,9] kR rfl ⟨?_, ?_,trivial⟩
  ·refine aX .w (sN fun b_8_1=>(sV ?_))
   refine aP Hc [4,9,24] .n ?_
   exact aW [4,9,24] [0,1,2,3] (aS5_1 a2_6_1 c2_6_1 b_8_1)
  ·refine aX .w (sN fun b_9_1=>(sV ?_))
   refine aP Hc [4,9,23,10] .n ?_
   exact aW [4,9,23,10] [0,1,2,3] (aS8_4 a2_6_1 c2_6_1 b_9_1)
 have aS9_4:∀(b_9_1:Nat),Any prog f12 (bd f12) 45 F (RetR F (Ynew_Pub c tp ep a cw ws)) (regOps (bd f12) [0,1,1]) [.c [1,1,1]] #[true,true,true,true,true,true,false,false,false,true,false] [(4,vP b_1),(9,vI (fitK c (ws.length:Int))),(20,vI ep),(21,.slice a ws.length cw),(16,cfgV c),(19,vI (ctlAt c tp)),(10,vP b_9_1)] [Ee a cw ws,Ef b_1 c,.pts b_9_1 [.pointer none] 23]:=by
  intro b_9_1
  refine any_step [6] kR rfl ⟨?_,trivial⟩
  ·refine any_call (some 22) [0] call47 (clone_n a cw ws.length ws oM oM) kR ?_
   rintro v post ⟨a2_6_1,c2_6_1,rfl,rfl⟩
   refine aP Hc [4,9,23,10] .n ?_
   exact aW [4,9,23,10] [0,2,3,1] (aS8_4 a2_6_1 c2_6_1 b_9_1)
 have aS3_1:Any prog f12 (bd f12) 45 F (RetR F (Ynew_Pub c tp ep a cw ws)) (regOps (bd f12) [0,1,1]) [.c [1,1,1]] #[true,true,true,true,true,true,false,false,false,false,false] [(4,vP b_1),(9,vI (fitK c (ws.length:Int))),(20,vI ep),(21,.slice a ws.length cw),(16,cfgV c),(19,vI (ctlAt c tp))] [Ee a cw ws,Ef b_1 c]:=by
  refine any_step [6,9] kR rfl ⟨?_, ?_,trivial⟩
  ·refine any_call (some 22) [0] call47 (clone_n a cw ws.length ws oM oM) kR ?_
   rintro v post ⟨a2_6_1,c2_6_1,rfl,rfl⟩
   refine aP Hc [4,9,23] .n ?_
   exact aW [4,9,23] [0,1,2] (aS4_1 a2_6_1 c2_6_1)
  ·refine aX .w (sN fun b_9_1=>(sV ?_))
   refine aP Hc [4,9,20,21,16,19,10] .n ?_
   exact aW [4,9,20,21,16,19,10] [0,1,2] (aS9_4 b_9_1)
 have aS10_4:∀(b_9_1:Nat),Any prog f12 (bd f12) 45 F (RetR F (Ynew_Pub c tp ep a cw ws)) (regOps (bd f12) [0,1,1]) [.c [1,1,1]] #[true,true,true,false,true,true,false,false,false,true,false] [(4,vP b_1),(9,vI (fitK c (ws.length:Int))),(18,vI tp),(20,vI ep),(21,.slice a ws.length cw),(16,cfgV c),(17,cfgV c),(10,vP b_9_1)] [Ee a cw ws,Ef b_1 c,.pts b_9_1 [.pointer none] 23]:=by
  intro b_9_1
  refine any_step [3] kR rfl ⟨?_,trivial⟩
  ·refine any_call (some 19) [] call48 (plan_Control c tp oM) kR ?_
   rintro v post ⟨rfl,rfl⟩
   refine aP Hc [4,9,20,21,16,19,10] .n ?_
   exact aW [4,9,20,21,16,19,10] [0,1,2] (aS9_4 b_9_1)
 have aS2_1:Any prog f12 (bd f12) 45 F (RetR F (Ynew_Pub c tp ep a cw ws)) (regOps (bd f12) [0,1,1]) [.c [1,1,1]] #[true,true,true,false,true,true,false,false,false,false,false] [(4,vP b_1),(9,vI (fitK c (ws.length:Int))),(18,vI tp),(20,vI ep),(21,.slice a ws.length cw),(16,cfgV c),(17,cfgV c)] [Ee a cw ws,Ef b_1 c]:=by
  refine any_step [3,9] kR rfl ⟨?_, ?_,trivial⟩
  ·refine any_call (some 19) [] call48 (plan_Control c tp oM) kR ?_
   rintro v post ⟨rfl,rfl⟩
   refine aP Hc [4,9,20,21,16,19] .n ?_
   exact aW [4,9,20,21,16,19] [0,1] aS3_1
  ·refine aX .w (sN fun b_9_1=>(sV ?_))
   refine aP Hc [4,9,18,20,21,16,17,10] .n ?_
   exact aW [4,9,18,20,21,16,17,10] [0,1,2] (aS10_4 b_9_1)
 have aS11_4:∀(b_9_1:Nat),Any prog f12 (bd f12) 45 F (RetR F (Ynew_Pub c tp ep a cw ws)) (regOps (bd f12) [0,1,1]) [.c [1,1,1]] #[true,false,true,false,true,true,false,false,false,true,false] [(4,vP b_1),(9,vI (fitK c (ws.length:Int))),(18,vI tp),(20,vI ep),(21,.slice a ws.length cw),(16,cfgV c),(10,vP b_9_1)] [Ee a cw ws,Ef b_1 c,.pts b_9_1 [.pointer none] 23]:=by
  intro b_9_1
  refine any_step [1] kR rfl ⟨?_,trivial⟩
  ·refine aX (.e 1) (sQ b_1 (sV ?_))
   refine aP Hc [4,9,18,20,21,16,17,10] .n ?_
   exact aW [4,9,18,20,21,16,17,10] [0,1,2] (aS10_4 b_9_1)
 have aS1_1:Any prog f12 (bd f12) 45 F (RetR F (Ynew_Pub c tp ep a cw ws)) (regOps (bd f12) [0,1,1]) [.c [1,1,1]] #[true,false,true,false,true,true,false,false,false,false,false] [(4,vP b_1),(9,vI (fitK c (ws.length:Int))),(18,vI tp),(20,vI ep),(21,.slice a ws.length cw),(16,cfgV c)] [Ee a cw ws,Ef b_1 c]:=by
  refine any_step [1,9] kR rfl ⟨?_, ?_,trivial⟩
  ·refine aX (.e 1) (sQ b_1 (sV ?_))
   refine aP Hc [4,9,18,20,21,16,17] .n ?_
   exact aW [4,9,18,20,21,16,17] [0,1] aS2_1
  ·refine aX .w (sN fun b_9_1=>(sV ?_))
   refine aP Hc [4,9,18,20,21,16,10] .n ?_
   exact aW [4,9,18,20,21,16,10] [0,1,2] (aS11_4 b_9_1)
 have aS15_4:∀(a2_6_1:Option Addr) (c2_6_1:Nat) (b_9_1:Nat),Any prog f12 (bd f12) 45 F (RetR F (Ynew_Pub c tp ep a cw ws)) (regOps (bd f12) [0,1,1]) [.c [1,1,1]] #[false,true,true,true,true,true,true,false,false,true,false] [(4,vP b_1),(9,vI (fitK c (ws.length:Int))),(20,vI ep),(19,vI (ctlAt c tp)),(22,.slice a2_6_1 ws.length c2_6_1),(10,vP b_9_1)] [Ef b_1 c,Ee a cw ws,Ee a2_6_1 c2_6_1 ws,.pts b_9_1 [.pointer none] 23]:=by
  intro a2_6_1 c2_6_1 b_9_1
  refine any_step [0] kR rfl ⟨?_,trivial⟩
  ·refine aX (.e 0) (sQ b_1 (sV ?_))
   refine aP Hc [4,9,23,10] .n ?_
   exact aW [4,9,23,10] [0,1,2,3] (aS8_4 a2_6_1 c2_6_1 b_9_1)
 have aS14_4:∀(a2_6_1:Option Addr) (c2_6_1:Nat),Any prog f12 (bd f12) 45 F (RetR F (Ynew_Pub c tp ep a cw ws)) (regOps (bd f12) [0,1,1]) [.c [1,1,1]] #[false,true,true,true,true,true,true,false,false,false,false] [(4,vP b_1),(9,vI (fitK c (ws.length:Int))),(20,vI ep),(19,vI (ctlAt c tp)),(22,.slice a2_6_1 ws.length c2_6_1)] [Ef b_1 c,Ee a cw ws,Ee a2_6_1 c2_6_1 ws]:=by
  intro a2_6_1 c2_6_1
  refine any_step [0,9] kR rfl ⟨?_, ?_,trivial⟩
  ·refine aX (.e 0) (sQ b_1 (sV ?_))
   refine aP Hc [4,9,23] .n ?_
   exact aW [4,9,23] [0,1,2] (aS4_1 a2_6_1 c2_6_1)
  ·refine aX .w (sN fun b_9_1=>(sV ?_))
   refine aP Hc [4,9,20,19,22,10] .n ?_
   exact aW [4,9,20,19,22,10] [0,1,2,3] (aS15_4 a2_6_1 c2_6_1 b_9_1)
 have aS16_4:∀(b_9_1:Nat),Any prog f12 (bd f12) 45 F (RetR F (Ynew_Pub c tp ep a cw ws)) (regOps (bd f12) [0,1,1]) [.c [1,1,1]] #[false,true,true,true,true,true,false,false,false,true,false] [(4,vP b_1),(9,vI (fitK c (ws.length:Int))),(20,vI ep),(21,.slice a ws.length cw),(19,vI (ctlAt c tp)),(10,vP b_9_1)] [Ee a cw ws,Ef b_1 c,.pts b_9_1 [.pointer none] 23]:=by
  intro b_9_1
  refine any_step [0,6] kR rfl ⟨?_, ?_,trivial⟩
  ·refine aX (.e 1) (sQ b_1 (sV ?_))
   refine aP Hc [4,9,20,21,16,19,10] .n ?_
   exact aW [4,9,20,21,16,19,10] [0,1,2] (aS9_4 b_9_1)
  ·refine any_call (some 22) [0] call47 (clone_n a cw ws.length ws oM oM) kR ?_
   rintro v post ⟨a2_6_1,c2_6_1,rfl,rfl⟩
   refine aP Hc [4,9,20,19,22,10] .n ?_
   exact aW [4,9,20,19,22,10] [0,2,3,1] (aS15_4 a2_6_1 c2_6_1 b_9_1)
 have aS13_4:Any prog f12 (bd f12) 45 F (RetR F (Ynew_Pub c tp ep a cw ws)) (regOps (bd f12) [0,1,1]) [.c [1,1,1]] #[false,true,true,true,true,true,false,false,false,false,false] [(4,vP b_1),(9,vI (fitK c (ws.length:Int))),(20,vI ep),(21,.slice a ws.length cw),(19,vI (ctlAt c tp))] [Ee a cw ws,Ef b_1 c]:=by
  refine any_step [0,6,9] kR rfl ⟨?_, ?_, ?_,trivial⟩
  ·refine aX (.e 1) (sQ b_1 (sV ?_))
   refine aP Hc [4,9,20,21,16,19] .n ?_
   exact aW [4,9,20,21,16,19] [0,1] aS3_1
  ·refine any_call (some 22) [0] call47 (clone_n a cw ws.length ws oM oM) kR ?_
   rintro v post ⟨a2_6_1,c2_6_1,rfl,rfl⟩
   refine aP Hc [4,9,20,19,22] .n ?_
   exact aW [4,9,20,19,22] [0,1,2] (aS14_4 a2_6_1 c2_6_1)
  ·refine aX .w (sN fun b_9_1=>(sV ?_))
   refine aP Hc [4,9,20,21,19,10] .n ?_
   exact aW [4,9,20,21,19,10] [0,1,2] (aS16_4 b_9_1)
 have aS17_4:∀(b_9_1:Nat),Any prog f12 (bd f12) 45 F (RetR F (Ynew_Pub c tp ep a cw ws)) (regOps (bd f12) [0,1,1]) [.c [1,1,1]] #[false,true,true,false,true,true,false,false,false,true,false] [(4,vP b_1),(9,vI (fitK c (ws.length:Int))),(18,vI tp),(20,vI ep),(21,.slice a ws.length cw),(17,cfgV c),(10,vP b_9_1)] [Ee a cw ws,Ef b_1 c,.pts b_9_1 [.pointer none] 23]:=by
  intro b_9_1
  refine any_step [0,3] kR rfl ⟨?_, ?_,trivial⟩
  ·refine aX (.e 1) (sQ b_1 (sV ?_))
   refine aP Hc [4,9,18,20,21,16,17,10] .n ?_
   exact aW [4,9,18,20,21,16,17,10] [0,1,2] (aS10_4 b_9_1)
  ·refine any_call (some 19) [] call48 (plan_Control c tp oM) kR ?_
   rintro v post ⟨rfl,rfl⟩
   refine aP Hc [4,9,20,21,19,10] .n ?_
   exact aW [4,9,20,21,19,10] [0,1,2] (aS16_4 b_9_1)
 have aS12_4:Any prog f12 (bd f12) 45 F (RetR F (Ynew_Pub c tp ep a cw ws)) (regOps (bd f12) [0,1,1]) [.c [1,1,1]] #[false,true,true,false,true,true,false,false,false,false,false] [(4,vP b_1),(9,vI (fitK c (ws.length:Int))),(18,vI tp),(20,vI ep),(21,.slice a ws.length cw),(17,cfgV c)] [Ee a cw ws,Ef b_1 c]:=by
  refine any_step [0,3,9] kR rfl ⟨?_, ?_, ?_,trivial⟩
  ·refine aX (.e 1) (sQ b_1 (sV ?_))
   refine aP Hc [4,9,18,20,21,16,17] .n ?_
   exact aW [4,9,18,20,21,16,17] [0,1] aS2_1
  ·refine any_call (some 19) [] call48 (plan_Control c tp oM) kR ?_
   rintro v post ⟨rfl,rfl⟩
   refine aP Hc [4,9,20,21,19] .n ?_
   exact aW [4,9,20,21,19] [0,1] aS13_4
  ·refine aX .w (sN fun b_9_1=>(sV ?_))
   refine aP Hc [4,9,18,20,21,17,10] .n ?_
   exact aW [4,9,18,20,21,17,10] [0,1,2] (aS17_4 b_9_1)
 have aS18_4:∀(b_9_1:Nat),Any prog f12 (bd f12) 45 F (RetR F (Ynew_Pub c tp ep a cw ws)) (regOps (bd f12) [0,1,1]) [.c [1,1,1]] #[false,false,true,false,true,true,false,false,false,true,false] [(4,vP b_1),(9,vI (fitK c (ws.length:Int))),(18,vI tp),(20,vI ep),(21,.slice a ws.length cw),(10,vP b_9_1)] [Ee a cw ws,Ef b_1 c,.pts b_9_1 [.pointer none] 23]:=by
  intro b_9_1
  refine any_step [0,1] kR rfl ⟨?_, ?_,trivial⟩
  ·refine aX (.e 1) (sQ b_1 (sV ?_))
   refine aP Hc [4,9,18,20,21,16,10] .n ?_
   exact aW [4,9,18,20,21,16,10] [0,1,2] (aS11_4 b_9_1)
  ·refine aX (.e 1) (sQ b_1 (sV ?_))
   refine aP Hc [4,9,18,20,21,17,10] .n ?_
   exact aW [4,9,18,20,21,17,10] [0,1,2] (aS17_4 b_9_1)
 have aS0_1:Any prog f12 (bd f12) 45 F (RetR F (Ynew_Pub c tp ep a cw ws)) (regOps (bd f12) [0,1,1]) [.c [1,1,1]] #[false,false,true,false,true,true,false,false,false,false,false] [(4,vP b_1),(9,vI (fitK c (ws.length:Int))),(18,vI tp),(20,vI ep),(21,.slice a ws.length cw)] [Ee a cw ws,Ef b_1 c]:=by
  refine any_step [0,1,9] kR rfl ⟨?_, ?_, ?_,trivial⟩
  ·refine aX (.e 1) (sQ b_1 (sV ?_))
   refine aP Hc [4,9,18,20,21,16] .n ?_
   exact aW [4,9,18,20,21,16] [0,1] aS1_1
  ·refine aX (.e 1) (sQ b_1 (sV ?_))
   refine aP Hc [4,9,18,20,21,17] .n ?_
   exact aW [4,9,18,20,21,17] [0,1] aS12_4
  ·refine aX .w (sN fun b_9_1=>(sV ?_))
   refine aP Hc [4,9,18,20,21,10] .n ?_
   exact aW [4,9,18,20,21,10] [0,1,2] (aS18_4 b_9_1)
 refine go_any kR kR ?_
 refine aP Hc [4,9,18,20,21] .n ?_
 exact aW [4,9,18,20,21] [0,1] aS0_1
end Go.Proofs.YtpcaijopodhdgaaGreatDoor
namespace Go.Proofs.YtpcaijopodhdgaaGreatDoor
open Go.Proofs.Tryz
open Go.Sx
abbrev El(x0:Nat)(x1:Value)(x2:Value)(x3:Int)(x4:Bool)(c5:Cfg)(x6:Value)(x7:Int)(x8:Value): Ent:=.pts x0 [x1,x2,.int .i64 x3,.bool x4,.int .i64 c5.topics,.int .i64 c5.small,.int .i64 c5.slots,.int .i64 c5.clients,.int .i64 c5.s0,.int .i64 c5.n0,.int .i64 c5.s1,.int .i64 c5.n1,.int .i64 c5.retry,x6,.int .i64 x7,x8] 112
abbrev Eak(x0:Nat)(x1:Value)(x2:Value)(x3:Int)(x4:Bool)(c5:Cfg)(x6:Int): Ent:=.pts x0 [x1,x2,.int .i64 x3,.bool x4,.int .i64 c5.topics,.int .i64 c5.small,.int .i64 c5.slots,.int .i64 c5.clients,.int .i64 c5.s0,.int .i64 c5.n0,.int .i64 c5.s1,.int .i64 c5.n1,.int .i64 c5.retry,.pointer none,.int .i64 x6,.slice none 0 0] 112
theorem rd_follow(c:Cfg)(p:Nat)(sl cd:Int)(ov:Bool)(gp wsl:Value)(r_ th_:Value)(T_:TypeId)(x_:Nat)(f_:Fn)(a_ c_:Array Value):
  Ctr prog 50 #[vP p,.iface T_ (vP x_),.func f_ a_ c_] [El p r_ th_ cd ov c gp sl wsl] (Ret (undef) [El p (.iface T_ (vP x_)) (.func f_ a_ c_) cd ov c gp sl wsl]):=by
 exact cb 12 func50 fun F=>gX [.e 0] (gQ p (gJ [0] ⟨rfl,rfl⟩))
theorem rd_end(c:Cfg)(p:Nat)(sl cd:Int)(ov:Bool)(gp wsl:Value)(r_ th_:Value)(k_:Int):
  Ctr prog 57 #[vP p,vI k_] [El p r_ th_ cd ov c gp sl wsl] (Ret (undef) [El p r_ th_ k_ true c gp sl wsl]):=by
 exact cb 11 func57 fun F=>gX [.e 0,.e 0] (gQ p (gQ p (gJ [0] ⟨rfl,rfl⟩)))
theorem new_Rd(c:Cfg)(cl tp ep:Int)(hc:c.Ok)(hcl:0≤cl∧cl<c.clients)(ht:ctlAt c tp≠-1):
  Ctr prog 13 #[cfgV c,vI cl,vI tp,vI ep] [] (fun v L => ∃(p:Nat) (k:Nat) (b1:Nat) (b2:Nat) (b3:Nat) (b4:Nat) (b5:Nat) (b6:Nat),v=vP p∧L=[Eak p (.iface 118 (vP k)) (.func (.func 55) #[] #[vP b1,vP b2,vP b3,vP b4,vP b5,vP b6]) 0 false c (-1),EO k c cl 0 (-1),.pts b1 [vP k] 118,.pts b2 [vP p] 24,Ef b3 c,.pts b4 [vI cl] 3,.pts b5 [vI tp] 3,.pts b6 [vI ep] 3]):=by
 refine cb 33 func13 fun F=>gX [.e 0,.e 1,.z [0,1] 2 [4,5,6,7,11,12]] (gN fun b_1=>gN fun b_2=>gN fun b_3=>gN fun b_4=>gQ b_1 (gQ b_2 (gS [.o [0,1] 2,.c [1,1]] ?_)))
 refine go_call (some 13) [] call54 (new_Claim c cl oM oM) kR ?_
 rintro v post ⟨k_5,rfl,rfl⟩
 refine gX [.e 5,.e 5,.e 0,.e 2,.z [0,0,1,1] 5 [4,5,6,7,9,16,17,18]] (gN fun b_7=>gQ b_7 (gQ b_7 (gQ b_1 (gQ b_3 (gS [.o [0,0,1,1] 5,.c [1,0,1,1],.c [1,1,1]] (gC (some 19) [] call48 (plan_Control c tp oM) (gX [.sp [21,20] [.dead] [.e 0,.e 7,.z [0,1,1,1,1] 0 [4,5,6,7,9,10]]] (gQ ((ctlAt c tp)==(-1)) (gF ((ctlAt c tp)==(-1)) (beq_eq_false_iff_ne.2 ht) (gQ b_1 (gN fun b_8=>gN fun b_9=>gQ b_9 (gS [.c [0,1,1,1,1],.c [1,1,1,1,1]] ?_))))))))))))
 refine tC (some 31) (kV 0 [.e 7,.ww,.ww,.e 5,.ww,.ww]) 6 [] [6] [10] call50 (rd_follow c b_8 (-1) 0 false (.pointer none) (.slice none 0 0) (.nilIface) (.nilFunc) 118 k_5 (.func 55) (#[]) (#[vP b_7,vP b_9,vP b_1,vP b_2,vP b_3,vP b_4])) (.e b_9 (.e b_7 .n)) .n ?_
 rintro v post ⟨rfl,rfl⟩
 refine tN .n ?_
 exact gX [.e 6] (gQ b_9 (gJ [7,4,5,6,0,1,2,3] ⟨b_8,k_5,b_7,b_9,b_1,b_2,b_3,b_4,rfl,rfl⟩))
end Go.Proofs.YtpcaijopodhdgaaGreatDoor
namespace Go.Proofs.YtpcaijopodhdgaaGreatDoor
open Go.Proofs.Tryz
open Go.Sx
abbrev qct: List Nat:=[0,0,1,1,1,0,0,1]
abbrev qcu: List Nat:=[0,1,1,1,1,1,1]
theorem pubTold_K(c:Cfg)(p:Nat)(wd ep bk od sn fl tm:Int)(wa:Option Addr)(wn wc:Nat)(r_ th_:Value):
  Ctr prog 10 #[vP p] [En p r_ th_ 0 true c wd ep wa wn wc bk od sn fl tm] (Ret (.tuple #[vI od,.nilIface]) [En p r_ th_ 0 true c wd ep wa wn wc bk od sn fl tm]):=by
 exact cb 26 func10 fun F=>gX [.e 0,.z [0,1,1] 0 [0]] (gQ p (gS [.c [0,1,1],.c [1,1,1]] (qG (kV 0 [.ww,.ww,.ww,.e 0,.ww,.ww,.ww,.ww,.e 0,.q (.nilIface),.ww,.ww]) [2,3] (.e p (.e p .n)) (.c call46 (qR [] (cause_New0)) .n) (gX [] (gJ [0] ⟨rfl,rfl⟩)))))
theorem pubTold_E(c:Cfg)(p:Nat)(wd ep bk od sn fl tm cd:Int)(wa:Option Addr)(wn wc:Nat)(r_ th_:Value)(hcd:cd≠0):
  Ctr prog 10 #[vP p] [En p r_ th_ cd true c wd ep wa wn wc bk od sn fl tm] (Ret (.tuple #[vI od,.iface 42 (vI cd)]) [En p r_ th_ cd true c wd ep wa wn wc bk od sn fl tm]):=by
 exact cb 26 func10 fun F=>gX [.e 0,.z [0,1,1] 0 [0]] (gQ p (gS [.c [0,1,1],.c [1,1,1]] (qG (kV 0 [.ww,.ww,.ww,.e 0,.ww,.ww,.ww,.ww,.e 0,.q (.iface 42 (vI cd)),.ww,.ww]) [2,3] (.e p (.e p .n)) (.c call46 (qR [] (cause_NewE cd hcd)) .n) (gX [] (gJ [0] ⟨rfl,rfl⟩)))))
theorem pubTold_W(c:Cfg)(p:Nat)(wd ep bk od sn fl tm cd:Int)(wa:Option Addr)(wn wc:Nat)(r_ th_:Value):
  Ctr prog 10 #[vP p] [En p r_ th_ cd false c wd ep wa wn wc bk od sn fl tm] (Ret (.tuple #[vI 0,.iface 42 (vI 13)]) [En p r_ th_ cd false c wd ep wa wn wc bk od sn fl tm]):=by
 exact cb 26 func10 fun F=>gX [.e 0,.z qct 0 []] (gQ p (gS [.o qct 0,.c [1,0,1,1,1,0,0,1],.b 0,.c [1,1]] (gC (some 15) [] call46 (cause_NewE 13 oc) (gX [] (gJ [0] ⟨rfl,rfl⟩)))))
theorem rfitsL(c:Cfg)(n_:Int)(hc:c.Ok)(hn:n_<1):
  Ctr prog 25 #[cfgV c,vI n_] [] (Ret (vI (-1)) []):=by
 exact cb 27 func25 fun F=>gX [.e 0,.z [0,1] 1 [1,2,7]] (gN fun b_1=>gQ b_1 (gS [.o [0,1] 1,.c [1,1]] (gC (some 8) [] call67 (ref_right c oM) (gX [.sp [14,13] [] [.dead]] (gQ (decide (n_<1)) (gT (decide (n_<1)) (decide_eq_true hn) (gR (vI (-1)) [] ⟨rfl,rfl⟩)))))))
theorem rfits0(c:Cfg)(n_:Int)(hc:c.Ok)(hn:¬n_<1)(h0:n_≤c.s0):
  Ctr prog 25 #[cfgV c,vI n_] [] (Ret (vI 0) []):=by
 exact cb 27 func25 fun F=>gX [.e 0,.z [0,1] 1 [1,2,7]] (gN fun b_1=>gQ b_1 (gS [.o [0,1] 1,.c [1,1]] (gC (some 8) [] call67 (ref_right c oM) (gX [.sp [14,13] [.dead] [.u,.w,.e 0,.sp [25] [] [.dead]]] (gQ (decide (n_<1)) (gF (decide (n_<1)) (decide_eq_false hn) (gQ b_1 (gT (decide (n_≤c.s0)) (decide_eq_true h0) (gR (vI 0) [] ⟨rfl,rfl⟩)))))))))
theorem rfits1(c:Cfg)(n_:Int)(hc:c.Ok)(hn:¬n_<1)(h0:¬n_≤c.s0)(h1:n_≤c.s1):
  Ctr prog 25 #[cfgV c,vI n_] [] (Ret (vI 1) []):=by
 exact cb 27 func25 fun F=>gX [.e 0,.z [0,1] 1 [1,2,7]] (gN fun b_1=>gQ b_1 (gS [.o [0,1] 1,.c [1,1]] (gC (some 8) [] call67 (ref_right c oM) (gX [.sp [14,13] [.dead] [.u,.w,.e 0,.sp [25] [.dead] [.w,.u,.w,.e 0,.sp [25] [] [.dead]]]] (gQ (decide (n_<1)) (gF (decide (n_<1)) (decide_eq_false hn) (gQ b_1 (gF (decide (n_≤c.s0)) (decide_eq_false h0) (gQ b_1 (gT (decide (n_≤c.s1)) (decide_eq_true h1) (gR (vI 1) [] ⟨rfl,rfl⟩)))))))))))
theorem rfits2(c:Cfg)(n_:Int)(hc:c.Ok)(hn:¬n_<1)(h0:¬n_≤c.s0)(h1:¬n_≤c.s1):
  Ctr prog 25 #[cfgV c,vI n_] [] (Ret (vI (-1)) []):=by
 exact cb 27 func25 fun F=>gX [.e 0,.z [0,1] 1 [1,2,7]] (gN fun b_1=>gQ b_1 (gS [.o [0,1] 1,.c [1,1]] (gC (some 8) [] call67 (ref_right c oM) (gX [.sp [14,13] [.dead] [.u,.w,.e 0,.sp [25] [.dead] [.w,.u,.w,.e 0,.sp [25] [.dead] [.w,.u]]]] (gQ (decide (n_<1)) (gF (decide (n_<1)) (decide_eq_false hn) (gQ b_1 (gF (decide (n_≤c.s0)) (decide_eq_false h0) (gQ b_1 (gF (decide (n_≤c.s1)) (decide_eq_false h1) (gR (vI (-1)) [] ⟨rfl,rfl⟩)))))))))))
theorem ref_Fits(c:Cfg)(n_:Int)(hc:c.Ok):
  Ctr prog 25 #[cfgV c,vI n_] [] (Ret (vI (fitK c n_)) []):=by
 unfold fitK
 by_cases hn:n_<1
 ·rw [if_pos hn]; exact rfitsL c n_ hc hn
 ·rw [if_neg hn]
  by_cases h0:n_≤c.s0
  ·rw [if_pos h0]; exact rfits0 c n_ hc hn h0
  ·rw [if_neg h0]
   by_cases h1:n_≤c.s1
   ·rw [if_pos h1]; exact rfits1 c n_ hc hn h0 h1
   ·rw [if_neg h1]; exact rfits2 c n_ hc hn h0 h1
theorem law17_config(q0 q1 q2:Int):
  Ctr prog 9 #[.agg #[vI q0,vI q1,vI q2]] [] (Ret (cfgV (cfgL q0 q1 q2)) []):=by
 exact cb 22 func9 fun F=>gX [.w,.e 0,.n,.w,.e 0,.n,.w,.e 0,.n,.w,.e 0,.n,.n,.z [0,1] 18 [2,20]] (gN fun b_1=>gN fun b_2=>gQ b_1 (gO (InK .i64 (1+(bAnd .i64 q0 3))) (by have:=and3 q0; have:=and3 q1; have:=and3 q2; have:=and3 (bShr .i64 q2 2); simp only [InK]; omega) (gQ b_1 (gO (InK .i64 (1+(bAnd .i64 q1 3))) (by have:=and3 q0; have:=and3 q1; have:=and3 q2; have:=and3 (bShr .i64 q2 2); simp only [InK]; omega) (gQ b_1 (gO (InK .i64 (1+(bAnd .i64 q2 3))) (by have:=and3 q0; have:=and3 q1; have:=and3 q2; have:=and3 (bShr .i64 q2 2); simp only [InK]; omega) (gQ b_1 (gO ((0:Int)≤2) oc (gO (InK .i64 (1+(bAnd .i64 (bShr .i64 q2 2) 3))) (by have:=and3 q0; have:=and3 q1; have:=and3 q2; have:=and3 (bShr .i64 q2 2); simp only [InK]; omega) (gN fun b_3=>gW (ks:=[.o [0,1] 18,.c [1,1]]) [(2,vP b_2),(20,.slice (some ⟨b_3,0,none⟩) 9 9)] [.pts b_1 [vI q0,vI q1,vI q2] 22,Eab b_2 0 0 0 0 0 0 0 0 0,EV b_3 1 4 (1+(bAnd .i64 q0 3)) 4 (1+(bAnd .i64 q1 3)) 4 (1+(bAnd .i64 q2 3)) 6 (1+(bAnd .i64 (bShr .i64 q2 2) 3))] (gC (some 21) [2] call45 (ref_Of b_3 1 4 (1+(bAnd .i64 q0 3)) 4 (1+(bAnd .i64 q1 3)) 4 (1+(bAnd .i64 q2 3)) 6 (1+(bAnd .i64 (bShr .i64 q2 2) 3))) (gX [.e 1,.e 1] (gQ b_2 (gQ b_2 (gR (.agg #[vI 1,vI 4,vI (1+(bAnd .i64 q0 3)),vI 4,vI 4,vI (1+(bAnd .i64 q2 3)),vI 6,vI (1+(bAnd .i64 (bShr .i64 q2 2) 3)),vI (1+(bAnd .i64 q1 3))]) [] ⟨rfl,rfl⟩)))))))))))))))
set_option maxHeartbeats 4000000 in
theorem law17_awake(o_:Obj)(ho:IsH o_):
  Ctr prog 14 #[] [.raw 0 o_] (Ret (.bool true) [.raw 0 o_]):=by
 refine cb 33 func14 fun F=>gX [.z [0,1] 1 [7]] (gN fun b_1=>gW (ks:=[.o [0,1] 1,.c [1,1]]) [(7,.slice (some ⟨b_1,0,none⟩) 9 9)] [.raw 0 o_,EV b_1 1 4 1 1 1 4 0 6 0] (gC (some 8) [1] call45 (ref_Of b_1 1 4 1 1 1 4 0 6 0) (gX [.e 2,.e 2,.z [0,1,1] 1 [1,10]] (gN fun b_3=>gQ b_3 (gQ b_3 (gS [.o [0,1,1] 1,.c [1,1,1]] ?_))))))
 refine go_call (some 11) [] call60 (plan_Make (⟨1,4,1,1,4,0,6,0,1⟩:Cfg) cfgW_ok) kR ?_
 rintro v post ⟨ba_4,aw_5,cw_6,rfl,rfl⟩
 refine gX [.z [0,1,1,1] 0 [1,2]] (gW (ks:=[.o [0,1,1,1] 0,.c [1,1,1,1]]) [(1,vP b_3),(2,vP ba_4)] [.raw 0 o_,EV b_1 1 4 1 1 1 4 0 6 0,Eab b_3 1 4 1 1 4 0 6 0 1,Eb ba_4 (mkAr (⟨1,4,1,1,4,0,6,0,1⟩:Cfg) aw_5 cw_6),Ea (mkAr (⟨1,4,1,1,4,0,6,0,1⟩:Cfg) aw_5 cw_6)] ?_)
 have hA0:ArW cfgW (mkAr (⟨1,4,1,1,4,0,6,0,1⟩:Cfg) aw_5 cw_6) _:=mkAr_ok cfgW_ok aw_5 cw_6
 have hz7:((mkAr (⟨1,4,1,1,4,0,6,0,1⟩:Cfg) aw_5 cw_6).n:Int)=sizeOfC cfgW:=hA0.2.1
 have hz8:=hA0.2.2.2
 have hf7:fitK cfgW ((([5]:List Int).length:Nat):Int)=0:=by decide
 have hp7:(Tk.step cfgW (newTk (fitK cfgW ((([5]:List Int).length:Nat):Int))) (mkAr (⟨1,4,1,1,4,0,6,0,1⟩:Cfg) aw_5 cw_6)).1.ph=0:=by kernel_rfl
 have hb7:(Tk.step cfgW (newTk (fitK cfgW ((([5]:List Int).length:Nat):Int))) (mkAr (⟨1,4,1,1,4,0,6,0,1⟩:Cfg) aw_5 cw_6)).1.block=0:=by kernel_rfl
 refine gX [.e 2,.z [0,1,1,1] 2 [2,14,15]] (gQ b_3 (gN fun b_7=>gW (ks:=[.o [0,1,1,1] 2,.c [1,1,1,1]]) [(2,vP ba_4),(14,.agg #[vI 1,vI 4,vI 1,vI 1,vI 4,vI 0,vI 6,vI 0,vI 1]),(15,.slice (some ⟨b_7,0,none⟩) 1 1)] [.raw 0 o_,EV b_1 1 4 1 1 1 4 0 6 0,Eab b_3 1 4 1 1 4 0 6 0 1,Eb ba_4 (mkAr (⟨1,4,1,1,4,0,6,0,1⟩:Cfg) aw_5 cw_6),Ea (mkAr (⟨1,4,1,1,4,0,6,0,1⟩:Cfg) aw_5 cw_6),.pts b_7 [vU 5] 60] ?_))
 refine go_view (view_row 5 (b:=b_7) (encI .u64) 0 1 ([5]:List Int) 60 (sizedI _) (by simp [maxLen]) kR) ?_
 refine go_call (some 16) [5] call12 (new_Pub (⟨1,4,1,1,4,0,6,0,1⟩:Cfg) 0 0 (some ⟨b_7,0,none⟩) 1 ([5]:List Int) cfgW_ok oc oc oc) kR ?_
 rintro v post ⟨p_8,k_9,bp_10,bt_11,wa_12,wc_13,rfl,rfl⟩
 exact gX [.z [0,0,1,1,1,1] 5 [4,19,20,21]] (gS [.o [0,0,1,1,1,1] 5,.c [1,0,1,1,1,1],.c [1,1,1,1,1]] (gC (some 22) [6,7,8,9,3,4] call15 (pub_Step1N (⟨1,4,1,1,4,0,6,0,1⟩:Cfg) p_8 ba_4 k_9 bp_10 bt_11 (ctlAt (⟨1,4,1,1,4,0,6,0,1⟩:Cfg) 0) 0 0 0 0 0 0 0 wa_12 (([5]:List Int).length) wc_13 (newTk (fitK (⟨1,4,1,1,4,0,6,0,1⟩:Cfg) (((([5]:List Int).length):Nat):Int))) (mkAr (⟨1,4,1,1,4,0,6,0,1⟩:Cfg) aw_5 cw_6) hA0.1 oa cfgW_ok hA0.2.1 hA0.2.2.1 (newTk_ok cfgW (.inl hf7)) hp7 hb7) (gX [.z [0,1,1,1,1,1] 1 [26]] (gS [.o [0,1,1,1,1,1] 1,.c [1,1,1,1,1,1]] (gC (some 27) [5] call10 (pubTold_E (⟨1,4,1,1,4,0,6,0,1⟩:Cfg) p_8 (ctlAt (⟨1,4,1,1,4,0,6,0,1⟩:Cfg) 0) 0 0 0 0 0 0 18 wa_12 (([5]:List Int).length) wc_13 (.iface 114 (vP k_9)) (.func (.func 51) #[] #[vP bp_10,vP bt_11]) oc) (gX [.z qcu 1 [30]] (gS [.o qcu 1,.c [1,1,1,1,1,1,1]] (gC (some 31) [0] call17 (cause_TopE o_ 18 ho) (gX [] (gJ [10] ⟨rfl,rfl⟩))))))))))
end Go.Proofs.YtpcaijopodhdgaaGreatDoor

/- Walks: what functions of the program and of the document compute, part 2 of those on which LargeLast rests. -/
import Derived.Test.YtpcaijopodhdgaaGreatDoorRtA

set_option linter.unusedVariables false
set_option linter.unusedSimpArgs false
namespace Go.Proofs.YtpcaijopodhdgaaGreatDoor
open Go.Sx
abbrev Edbf2d(x0:Nat)(c1:Cfg)(x2:Int)(x3:Int)(x4:Int)(x5:Int)(x6:Value)(x7:Int)(x8:Int)(x9:Int)(x10:Int)(x11:Value): Ent:=.pts x0 [.int .i64 c1.topics,.int .i64 c1.small,.int .i64 c1.slots,.int .i64 c1.clients,.int .i64 c1.s0,.int .i64 c1.n0,.int .i64 c1.s1,.int .i64 c1.n1,.int .i64 c1.retry,.int .i64 x2,.int .i64 x3,.int .i64 x4,.int .i64 x5,x6,.int .u64 x7,.int .i64 x8,.int .i64 x9,.int .i64 x10,x11] 180
abbrev E087d5(x0:Nat)(c1:Cfg)(x2:Int)(x3:Int)(x4:Int)(x5:Int)(x6:Value)(x7:Int)(x8:Int)(x9:Int)(x10:Int): Ent:=.pts x0 [.int .i64 c1.topics,.int .i64 c1.small,.int .i64 c1.slots,.int .i64 c1.clients,.int .i64 c1.s0,.int .i64 c1.n0,.int .i64 c1.s1,.int .i64 c1.n1,.int .i64 c1.retry,.int .i64 x2,.int .i64 x3,.int .i64 x4,.int .i64 x5,x6,.int .u64 x7,.int .i64 x8,.int .i64 x9,.int .i64 x10,.nilIface] 180
abbrev q31_0: List Nat:=[0,1,1,1,0,1,1]
abbrev q31_1: List Nat:=[0,0,1,0,1,1,1]
/-- the step that is next -/
noncomputable def nxG(g:Nat): Nat→Value
 | 1=>.func (.func 112) #[vP g] #[]
 | 2=>.func (.func 188) #[vP g] #[]
 | 3=>.func (.func 200) #[vP g] #[]
 | _=>.nilFunc
noncomputable def B189: Code:=(Tryz.f189.body).getD .skip
theorem gEnd0(c:Cfg)(g:Nat)(cl ep sl wd sn bk fl cm:Int)(nx er:Value):
  Ctr Tryz.prog 189 #[vP g,vI 0] [Edbf2d g c cl ep sl wd nx sn bk fl cm er] (Ret (undef) [E087d5 g c cl ep sl wd (.nilFunc) sn bk fl cm]):=by
 refine cB B189 20 Tryz.func189 ?_
 intro F
 refine gX [.e 0,.z [0,1] 2 [0,7,8]] (gQ g (gS [.o [0,1] 2,.c [1,1]] ?_))
 refine gC (some 9) [] Tryz.call46 (cause_New0) ?_
 exact gX [.e 0,.e 0] (gQ g (gQ g (gJ [0] ⟨rfl,rfl⟩)))
theorem gEndE(c:Cfg)(g:Nat)(cl ep sl wd sn bk fl cm:Int)(nx er:Value)(k_:Int)(hk:k_≠0):
  Ctr Tryz.prog 189 #[vP g,vI k_] [Edbf2d g c cl ep sl wd nx sn bk fl cm er] (Ret (undef) [Edbf2d g c cl ep sl wd (.nilFunc) sn 0 fl cm (.iface 42 (vI k_))]):=by
 refine cB B189 20 Tryz.func189 ?_
 intro F
 refine gX [.e 0,.z [0,1] 2 [0,7,8]] (gQ g (gS [.o [0,1] 2,.c [1,1]] ?_))
 refine gC (some 9) [] Tryz.call46 (cause_NewE k_ oM) ?_
 exact gX [.e 0,.e 0,.e 0] (gQ g (gQ g (gQ g (gJ [0] ⟨rfl,rfl⟩))))
noncomputable def B160: Code:=(Tryz.f160.body).getD .skip
theorem gLookD(c:Cfg)(g:Nat)(cl ep sl wd sn bk fl cm:Int)(nx er:Value)(w_:Int)(hw:U64 w_)(hl:ctlLive w_ = false):
  Ctr Tryz.prog 160 #[vP g,vU w_] [Edbf2d g c cl ep sl wd nx sn bk fl cm er] (Ret (undef) [Edbf2d g c cl ep sl wd (.nilFunc) w_ 0 fl cm (.iface 42 (vI 22))]):=by
 refine cB B160 42 Tryz.func160 ?_
 intro F
 refine gX [.z [0] 1 [0,1,5]] (gS [.o [0] 1,.c [1]] ?_)
 refine gC (some 6) [] Tryz.call181 (ctl_Unpack w_ oM) ?_
 refine gX [.e 1,.z [0,1] 0 [0,1,4]] (gN fun b_2=>gQ b_2 (gS [.c [0,1],.c [1,1]] ?_))
 refine zG ?_
 refine zN [0,1,2,3,4,5,6,7,8,9] (kV 0 [.w,.w,.w,.w,.w,.e 1,.w,.w,.w,.w]) [0,1,4,7,8,9,10,11,12,13,14,15,16] [10] (.e b_2 .n) ⟨?_,trivial⟩
 refine zX (.e 0) (sQ g (sK ?_))
 refine zN [11,12] [(1,.w),(2,.w),(4,.w),(5,.e 1),(6,.w),(7,.w),(11,.w),(12,.w)] [0,4,8,9,11,12,13,14,17,18] [13] (.e b_2 .n) ⟨?_,trivial⟩
 refine zX (.e 0) (sQ g (sK ?_))
 refine zN [14,15] [(2,.w),(6,.w),(7,.w),(14,.w),(15,.w)] [0,4,9,13,14,19,20] [16] .n ⟨?_,trivial⟩
 refine zX (.e 0) (sQ g (sK ?_))
 refine zE [] [] [0,4] .n ?_
 refine gX [.z [0,0,1,1] 0 [0,4]] (gS [.c [0,0,1,1],.c [1,0,1,1],.b 0] ?_)
 refine qG (kV 0 [.ww,.e 1,.t true,.ww,.ww,.ww,.ww,.ww,.ww,.ww,.ww,.ww,.ww]) [0,4,21] (.e b_2 (.p ((!(ctlLive w_))=true) (by simp [hl]) .n)) .n ?_
 refine gX [.z [0,1,0,1,1] 1 [34]] (gS [.o [0,1,0,1,1] 1,.b 0] ?_)
 refine gC (some 35) [0] Tryz.call189 (gEndE c g cl ep sl wd w_ (ctlBlock w_) fl cm (.func (.func 188) #[vP g] #[]) er 22 (by decide)) ?_
 exact gX [] (gJ [1] ⟨rfl,rfl⟩)
theorem gLookP(c:Cfg)(g:Nat)(cl ep sl wd sn bk fl cm:Int)(nx er:Value)(w_:Int)(hw:U64 w_)(hl:ctlLive w_ = true)(he:ctlEpoch w_≠ep):
  Ctr Tryz.prog 160 #[vP g,vU w_] [Edbf2d g c cl ep sl wd nx sn bk fl cm er] (Ret (undef) [Edbf2d g c cl ep sl wd (.nilFunc) w_ 0 fl cm (.iface 42 (vI 22))]):=by
 refine cB B160 42 Tryz.func160 ?_
 intro F
 refine gX [.z [0] 1 [0,1,5]] (gS [.o [0] 1,.c [1]] ?_)
 refine gC (some 6) [] Tryz.call181 (ctl_Unpack w_ oM) ?_
 refine gX [.e 1,.z [0,1] 0 [0,1,4]] (gN fun b_2=>gQ b_2 (gS [.c [0,1],.c [1,1]] ?_))
 refine zG ?_
 refine zN [0,1,2,3,4,5,6,7,8,9] (kV 0 [.w,.w,.w,.w,.w,.e 1,.w,.w,.w,.w]) [0,1,4,7,8,9,10,11,12,13,14,15,16] [10] (.e b_2 .n) ⟨?_,trivial⟩
 refine zX (.e 0) (sQ g (sK ?_))
 refine zN [11,12] [(1,.w),(2,.w),(4,.w),(5,.e 1),(6,.w),(7,.w),(11,.w),(12,.w)] [0,4,8,9,11,12,13,14,17,18] [13] (.e b_2 .n) ⟨?_,trivial⟩
 refine zX (.e 0) (sQ g (sK ?_))
 refine zN [14,15] [(2,.w),(6,.w),(7,.w),(14,.w),(15,.w)] [0,4,9,13,14,19,20] [16] .n ⟨?_,trivial⟩
 refine zX (.e 0) (sQ g (sK ?_))
 refine zE [] [] [0,4] .n ?_
 refine gX [.z [0,0,1,1] 0 [0,4]] (gS [.c [0,0,1,1],.c [1,0,1,1],.b 0] ?_)
 refine qG (kV 0 [.ww,.e 1,.t false,.ww,.ww,.e 1,.ww,.ww,.ww,.e 0,.t true,.ww,.ww]) [0,4,21] (.e b_2 (.p ((!(ctlLive w_))=false) (by simp [hl]) (.e b_2 (.e g (.p (((ctlEpoch w_) != ep)=true) (bne_iff_ne.2 he) .n))))) .n ?_
 refine gX [.z [0,1,0,1,1] 1 [34]] (gS [.o [0,1,0,1,1] 1,.b 0] ?_)
 refine gC (some 35) [0] Tryz.call189 (gEndE c g cl ep sl wd w_ (ctlBlock w_) fl cm (.func (.func 188) #[vP g] #[]) er 22 (by decide)) ?_
 exact gX [] (gJ [1] ⟨rfl,rfl⟩)
theorem gLookE(c:Cfg)(g:Nat)(cl ep sl wd sn bk fl cm:Int)(nx er:Value)(w_:Int)(hw:U64 w_)(hl:ctlLive w_ = true)(he:ctlEpoch w_ = ep)(hb:ctlBlock w_ = 0):
  Ctr Tryz.prog 160 #[vP g,vU w_] [Edbf2d g c cl ep sl wd nx sn bk fl cm er] (Ret (undef) [Edbf2d g c cl ep sl wd (.nilFunc) w_ 0 fl cm (.iface 42 (vI 20))]):=by
 refine cB B160 42 Tryz.func160 ?_
 intro F
 refine gX [.z [0] 1 [0,1,5]] (gS [.o [0] 1,.c [1]] ?_)
 refine gC (some 6) [] Tryz.call181 (ctl_Unpack w_ oM) ?_
 refine gX [.e 1,.z [0,1] 0 [0,1,4]] (gN fun b_2=>gQ b_2 (gS [.c [0,1],.c [1,1]] ?_))
 refine zG ?_
 refine zN [0,1,2,3,4,5,6,7,8,9] (kV 0 [.w,.w,.w,.w,.w,.e 1,.w,.w,.w,.w]) [0,1,4,7,8,9,10,11,12,13,14,15,16] [10] (.e b_2 .n) ⟨?_,trivial⟩
 refine zX (.e 0) (sQ g (sK ?_))
 refine zN [11,12] [(1,.w),(2,.w),(4,.w),(5,.e 1),(6,.w),(7,.w),(11,.w),(12,.w)] [0,4,8,9,11,12,13,14,17,18] [13] (.e b_2 .n) ⟨?_,trivial⟩
 refine zX (.e 0) (sQ g (sK ?_))
 refine zN [14,15] [(2,.w),(6,.w),(7,.w),(14,.w),(15,.w)] [0,4,9,13,14,19,20] [16] .n ⟨?_,trivial⟩
 refine zX (.e 0) (sQ g (sK ?_))
 refine zE [] [] [0,4] .n ?_
 refine gX [.z [0,0,1,1] 0 [0,4]] (gS [.c [0,0,1,1],.c [1,0,1,1],.b 0] ?_)
 refine qG (kV 0 [.ww,.e 1,.t false,.ww,.ww,.e 1,.ww,.ww,.ww,.e 0,.t false,.ww,.ww]) [0,4,21] (.e b_2 (.p ((!(ctlLive w_))=false) (by simp [hl]) (.e b_2 (.e g (.p (((ctlEpoch w_) != ep)=false) (bne_eq_false_iff_eq.2 he) .n))))) .n ?_
 refine gX [.e 1,.sp [36,39] [.z q31_0 1 [40]] [.dead]] (gQ b_2 (gQ ((ctlBlock w_)==0) (gT ((ctlBlock w_)==0) (beq_iff_eq.2 hb) (gS [.o q31_0 1,.b 0] ?_))))
 refine gC (some 41) [0] Tryz.call189 (gEndE c g cl ep sl wd w_ (ctlBlock w_) fl cm (.func (.func 188) #[vP g] #[]) er 20 (by decide)) ?_
 exact gX [] (gJ [1] ⟨rfl,rfl⟩)
theorem gLookN(c:Cfg)(g:Nat)(cl ep sl wd sn bk fl cm:Int)(nx er:Value)(w_:Int)(hw:U64 w_)(hl:ctlLive w_ = true)(he:ctlEpoch w_ = ep)(hb:ctlBlock w_≠0):
  Ctr Tryz.prog 160 #[vP g,vU w_] [Edbf2d g c cl ep sl wd nx sn bk fl cm er] (Ret (undef) [Edbf2d g c cl ep sl wd (.func (.func 188) #[vP g] #[]) w_ (ctlBlock w_) fl cm er]):=by
 refine cB B160 42 Tryz.func160 ?_
 intro F
 refine gX [.z [0] 1 [0,1,5]] (gS [.o [0] 1,.c [1]] ?_)
 refine gC (some 6) [] Tryz.call181 (ctl_Unpack w_ oM) ?_
 refine gX [.e 1,.z [0,1] 0 [0,1,4]] (gN fun b_2=>gQ b_2 (gS [.c [0,1],.c [1,1]] ?_))
 refine zG ?_
 refine zN [0,1,2,3,4,5,6,7,8,9] (kV 0 [.w,.w,.w,.w,.w,.e 1,.w,.w,.w,.w]) [0,1,4,7,8,9,10,11,12,13,14,15,16] [10] (.e b_2 .n) ⟨?_,trivial⟩
 refine zX (.e 0) (sQ g (sK ?_))
 refine zN [11,12] [(1,.w),(2,.w),(4,.w),(5,.e 1),(6,.w),(7,.w),(11,.w),(12,.w)] [0,4,8,9,11,12,13,14,17,18] [13] (.e b_2 .n) ⟨?_,trivial⟩
 refine zX (.e 0) (sQ g (sK ?_))
 refine zN [14,15] [(2,.w),(6,.w),(7,.w),(14,.w),(15,.w)] [0,4,9,13,14,19,20] [16] .n ⟨?_,trivial⟩
 refine zX (.e 0) (sQ g (sK ?_))
 refine zE [] [] [0,4] .n ?_
 refine gX [.z [0,0,1,1] 0 [0,4]] (gS [.c [0,0,1,1],.c [1,0,1,1],.b 0] ?_)
 refine qG (kV 0 [.ww,.e 1,.t false,.ww,.ww,.e 1,.ww,.ww,.ww,.e 0,.t false,.ww,.ww]) [0,4,21] (.e b_2 (.p ((!(ctlLive w_))=false) (by simp [hl]) (.e b_2 (.e g (.p (((ctlEpoch w_) != ep)=false) (bne_eq_false_iff_eq.2 he) .n))))) .n ?_
 exact gX [.e 1,.sp [36,39] [.dead] []] (gQ b_2 (gQ ((ctlBlock w_)==0) (gF ((ctlBlock w_)==0) (beq_eq_false_iff_ne.2 hb) (gJ [0] ⟨rfl,rfl⟩))))
noncomputable def B161: Code:=(Tryz.f161.body).getD .skip
theorem gLoad(c:Cfg)(g ba:Nat)(cl ep sl wd sn bk fl cm:Int)(nx er:Value)(A:Ar)(hn:A.ws.length=A.n)(hs:0≤A.steps∧A.steps≤1000000000)(hwd:0≤wd∧wd<A.n):
  Ctr Tryz.prog 161 #[vP g,vP ba] [Edbf2d g c cl ep sl wd nx sn bk fl cm er,E3504b ba A,E35fb1 A] (Ret (vU (A.ws.getD wd.toNat 0)) [Edbf2d g c cl ep sl wd nx sn bk fl ((A.load wd).steps) er,E3504b ba (A.load wd),E35fb1 (A.load wd)]):=by
 refine cB B161 18 Tryz.func161 ?_
 intro F
 refine gX [.e 0,.z [0,1] 5 [0,1,6,10]] (gQ g (gS [.o [0,1] 5,.c [1,1]] ?_))
 refine gC (some 11) [1,2] Tryz.call116 (arena_Load ba A wd oM hwd oM) ?_
 refine gX [.z [0,1,1] 2 [5,12,13]] (gS [.o [0,1,1] 2,.c [1,1,1]] ?_)
 refine gC (some 14) [1,2] Tryz.call39 (arena_Steps ba (A.load wd)) ?_
 exact gX [.e 0] (gQ g (gJ [0,1,2] ⟨rfl,rfl⟩))
noncomputable def B112: Code:=(Tryz.f112.body).getD .skip
theorem gFirstD(c:Cfg)(g ba:Nat)(cl ep sl wd sn bk fl cm:Int)(nx er:Value)(A:Ar)(hn:A.ws.length=A.n)(hs:0≤A.steps∧A.steps≤1000000000)(hwd:0≤wd∧wd<A.n)(hw:U64 (A.ws.getD wd.toNat 0))(hl:ctlLive (A.ws.getD wd.toNat 0)=false):
  Ctr Tryz.prog 112 #[vP g,vP ba] [Edbf2d g c cl ep sl wd nx sn bk fl cm er,E3504b ba A,E35fb1 A] (Ret (undef) [Edbf2d g c cl ep sl wd (.nilFunc) (A.ws.getD wd.toNat 0) 0 fl ((A.load wd).steps) (.iface 42 (vI 22)),E3504b ba (A.load wd),E35fb1 (A.load wd)]):=by
 refine cB B112 9 Tryz.func112 ?_
 intro F
 refine gX [.z [] 3 [4,5,6]] (gS [.o [] 3] ?_)
 refine gC (some 7) [0,1,2] Tryz.call161 (gLoad c g ba cl ep sl wd sn bk fl cm nx er A oM oM oM) ?_
 refine gC (some 8) [0] Tryz.call160 (gLookD c g cl ep sl wd sn bk fl ((A.load wd).steps) nx er (A.ws.getD wd.toNat 0) oM oM) ?_
 exact gX [] (gJ [2,0,1] ⟨rfl,rfl⟩)
theorem gFirstP(c:Cfg)(g ba:Nat)(cl ep sl wd sn bk fl cm:Int)(nx er:Value)(A:Ar)(hn:A.ws.length=A.n)(hs:0≤A.steps∧A.steps≤1000000000)(hwd:0≤wd∧wd<A.n)(hw:U64 (A.ws.getD wd.toNat 0))(hl:ctlLive (A.ws.getD wd.toNat 0)=true)(he:ctlEpoch (A.ws.getD wd.toNat 0)≠ep):
  Ctr Tryz.prog 112 #[vP g,vP ba] [Edbf2d g c cl ep sl wd nx sn bk fl cm er,E3504b ba A,E35fb1 A] (Ret (undef) [Edbf2d g c cl ep sl wd (.nilFunc) (A.ws.getD wd.toNat 0) 0 fl ((A.load wd).steps) (.iface 42 (vI 22)),E3504b ba (A.load wd),E35fb1 (A.load wd)]):=by
 refine cB B112 9 Tryz.func112 ?_
 intro F
 refine gX [.z [] 3 [4,5,6]] (gS [.o [] 3] ?_)
 refine gC (some 7) [0,1,2] Tryz.call161 (gLoad c g ba cl ep sl wd sn bk fl cm nx er A oM oM oM) ?_
 refine gC (some 8) [0] Tryz.call160 (gLookP c g cl ep sl wd sn bk fl ((A.load wd).steps) nx er (A.ws.getD wd.toNat 0) oM oM oM) ?_
 exact gX [] (gJ [2,0,1] ⟨rfl,rfl⟩)
theorem gFirstE(c:Cfg)(g ba:Nat)(cl ep sl wd sn bk fl cm:Int)(nx er:Value)(A:Ar)(hn:A.ws.length=A.n)(hs:0≤A.steps∧A.steps≤1000000000)(hwd:0≤wd∧wd<A.n)(hw:U64 (A.ws.getD wd.toNat 0))(hl:ctlLive (A.ws.getD wd.toNat 0)=true)(he:ctlEpoch (A.ws.getD wd.toNat 0)=ep)(hb:ctlBlock (A.ws.getD wd.toNat 0)=0):
  Ctr Tryz.prog 112 #[vP g,vP ba] [Edbf2d g c cl ep sl wd nx sn bk fl cm er,E3504b ba A,E35fb1 A] (Ret (undef) [Edbf2d g c cl ep sl wd (.nilFunc) (A.ws.getD wd.toNat 0) 0 fl ((A.load wd).steps) (.iface 42 (vI 20)),E3504b ba (A.load wd),E35fb1 (A.load wd)]):=by
 refine cB B112 9 Tryz.func112 ?_
 intro F
 refine gX [.z [] 3 [4,5,6]] (gS [.o [] 3] ?_)
 refine gC (some 7) [0,1,2] Tryz.call161 (gLoad c g ba cl ep sl wd sn bk fl cm nx er A oM oM oM) ?_
 refine gC (some 8) [0] Tryz.call160 (gLookE c g cl ep sl wd sn bk fl ((A.load wd).steps) nx er (A.ws.getD wd.toNat 0) oM oM oM oM) ?_
 exact gX [] (gJ [2,0,1] ⟨rfl,rfl⟩)
theorem gFirstN(c:Cfg)(g ba:Nat)(cl ep sl wd sn bk fl cm:Int)(nx er:Value)(A:Ar)(hn:A.ws.length=A.n)(hs:0≤A.steps∧A.steps≤1000000000)(hwd:0≤wd∧wd<A.n)(hw:U64 (A.ws.getD wd.toNat 0))(hl:ctlLive (A.ws.getD wd.toNat 0)=true)(he:ctlEpoch (A.ws.getD wd.toNat 0)=ep)(hb:ctlBlock (A.ws.getD wd.toNat 0)≠0):
  Ctr Tryz.prog 112 #[vP g,vP ba] [Edbf2d g c cl ep sl wd nx sn bk fl cm er,E3504b ba A,E35fb1 A] (Ret (undef) [Edbf2d g c cl ep sl wd (.func (.func 188) #[vP g] #[]) (A.ws.getD wd.toNat 0) (ctlBlock (A.ws.getD wd.toNat 0)) fl ((A.load wd).steps) er,E3504b ba (A.load wd),E35fb1 (A.load wd)]):=by
 refine cB B112 9 Tryz.func112 ?_
 intro F
 refine gX [.z [] 3 [4,5,6]] (gS [.o [] 3] ?_)
 refine gC (some 7) [0,1,2] Tryz.call161 (gLoad c g ba cl ep sl wd sn bk fl cm nx er A oM oM oM) ?_
 refine gC (some 8) [0] Tryz.call160 (gLookN c g cl ep sl wd sn bk fl ((A.load wd).steps) nx er (A.ws.getD wd.toNat 0) oM oM oM oM) ?_
 exact gX [] (gJ [2,0,1] ⟨rfl,rfl⟩)
noncomputable def B188: Code:=(Tryz.f188.body).getD .skip
theorem gSecond(c:Cfg)(g ba:Nat)(cl ep sl wd sn bk fl cm:Int)(nx er:Value)(A:Ar)(hn:A.ws.length=A.n)(hs:0≤A.steps∧A.steps≤1000000000)(hsl:0≤sl∧sl<A.n)(hcl:0≤cl∧cl≤1000)(hbk:0≤bk∧bk≤65535):
  Ctr Tryz.prog 188 #[vP g,vP ba] [Edbf2d g c cl ep sl wd nx sn bk fl cm er,E3504b ba A,E35fb1 A] (Ret (undef) [Edbf2d g c cl ep sl wd (.func (.func 200) #[vP g] #[]) sn bk fl cm er,E3504b ba (A.store sl (markW cl bk)),E35fb1 (A.store sl (markW cl bk))]):=by
 refine cB B188 24 Tryz.func188 ?_
 intro F
 refine gX [.z [0] 0 [0,1]] (gS [.c [0],.c [1]] ?_)
 refine tC (some 18) (kV 0 [.ww,.ww,.ww,.ww,.e 0,.ww,.ww,.ww,.e 0,.ww,.ww,.ww,.e 0,.q (vU (markW cl bk))]) 14 [] [1,2] [0] Tryz.call107 (arena_Store ba A sl (markW cl bk) oM hsl oM) (.e g (.e g (.e g .n))) (.c Tryz.call199 (qR [] (slots_Mark cl bk (by omega) (by omega))) .n) ?_
 rintro v post ⟨rfl,rfl⟩
 refine tN .n ?_
 exact gX [.e 0] (gQ g (gJ [0,1,2] ⟨rfl,rfl⟩))
noncomputable def B200: Code:=(Tryz.f200.body).getD .skip
theorem gThirdK(c:Cfg)(g ba:Nat)(cl ep sl wd sn bk fl cm:Int)(nx er:Value)(A:Ar)(hn:A.ws.length=A.n)(hs:0≤A.steps∧A.steps≤1000000000)(hwd:0≤wd∧wd<A.n)(hw:U64 (A.ws.getD wd.toNat 0))(hf0:0≤fl∧fl≤1000)(hq:(A.ws.getD wd.toNat 0)=sn):
  Ctr Tryz.prog 200 #[vP g,vP ba] [Edbf2d g c cl ep sl wd nx sn bk fl cm er,E3504b ba A,E35fb1 A] (Ret (undef) [E087d5 g c cl ep sl wd (.nilFunc) sn bk fl ((A.load wd).steps),E3504b ba (A.load wd),E35fb1 (A.load wd)]):=by
 refine cB B200 38 Tryz.func200 ?_
 intro F
 refine gX [.z [0] 2 [0,5,6]] (gS [.o [0] 2,.c [1]] ?_)
 refine gC (some 7) [0,1,2] Tryz.call161 (gLoad c g ba cl ep sl wd sn bk fl cm nx er A oM oM oM) ?_
 refine gX [.e 0,.sp [13] [.z [0,0,1,0,1] 1 [14]] [.dead]] (gQ g (gT ((A.ws.getD wd.toNat 0)==sn) (beq_iff_eq.2 hq) (gS [.o [0,0,1,0,1] 1,.c [1,0,1,0,1],.c [1,1]] ?_)))
 refine gC (some 15) [0] Tryz.call189 (gEnd0 c g cl ep sl wd sn bk fl ((A.load wd).steps) nx er) ?_
 exact gX [] (gJ [2,0,1] ⟨rfl,rfl⟩)
theorem gThirdR(c:Cfg)(g ba:Nat)(cl ep sl wd sn bk fl cm:Int)(nx er:Value)(A:Ar)(hn:A.ws.length=A.n)(hs:0≤A.steps∧A.steps≤1000000000)(hwd:0≤wd∧wd<A.n)(hw:U64 (A.ws.getD wd.toNat 0))(hf0:0≤fl∧fl≤1000)(hq:(A.ws.getD wd.toNat 0)≠sn)(hr:fl+1=c.retry):
  Ctr Tryz.prog 200 #[vP g,vP ba] [Edbf2d g c cl ep sl wd nx sn bk fl cm er,E3504b ba A,E35fb1 A] (Ret (undef) [Edbf2d g c cl ep sl wd (.nilFunc) sn 0 (fl+1) ((A.load wd).steps) (.iface 42 (vI 17)),E3504b ba (A.load wd),E35fb1 (A.load wd)]):=by
 refine cB B200 38 Tryz.func200 ?_
 intro F
 refine gX [.z [0] 2 [0,5,6]] (gS [.o [0] 2,.c [1]] ?_)
 refine gC (some 7) [0,1,2] Tryz.call161 (gLoad c g ba cl ep sl wd sn bk fl cm nx er A oM oM oM) ?_
 refine gX [.e 0,.sp [13] [.dead] [.e 0,.n,.e 0,.z [0,0,1,1,1] 0 [0,4]]] (gQ g (gF ((A.ws.getD wd.toNat 0)==sn) (beq_eq_false_iff_ne.2 hq) (gQ g (gO (InK .i64 (fl+1)) (by simp only [InK]; omega) (gQ g (gS [.c [0,0,1,1,1],.c [1,0,1,1,1],.c [1,1,1,1]] ?_))))))
 refine qG (kV 0 [.ww,.ww,.ww,.e 0,.ww,.ww,.ww,.ww,.e 0,.t true]) [0,4,32] (.e g (.e g (.p (((fl+1)==c.retry)=true) (beq_iff_eq.2 hr) .n))) .n ?_
 refine gX [.z q31_1 1 [33]] (gS [.o q31_1 1,.c [1,0,1,0,1,1,1],.c [1,1,1,1]] ?_)
 refine gC (some 34) [0] Tryz.call189 (gEndE c g cl ep sl wd sn bk (fl+1) ((A.load wd).steps) nx er 17 (by decide)) ?_
 exact gX [] (gJ [2,0,1] ⟨rfl,rfl⟩)
theorem gThirdD(c:Cfg)(g ba:Nat)(cl ep sl wd sn bk fl cm:Int)(nx er:Value)(A:Ar)(hn:A.ws.length=A.n)(hs:0≤A.steps∧A.steps≤1000000000)(hwd:0≤wd∧wd<A.n)(hw:U64 (A.ws.getD wd.toNat 0))(hf0:0≤fl∧fl≤1000)(hq:(A.ws.getD wd.toNat 0)≠sn)(hr:fl+1≠c.retry)(hl:ctlLive (A.ws.getD wd.toNat 0)=false):
  Ctr Tryz.prog 200 #[vP g,vP ba] [Edbf2d g c cl ep sl wd nx sn bk fl cm er,E3504b ba A,E35fb1 A] (Ret (undef) [Edbf2d g c cl ep sl wd (.nilFunc) (A.ws.getD wd.toNat 0) 0 (fl+1) ((A.load wd).steps) (.iface 42 (vI 22)),E3504b ba (A.load wd),E35fb1 (A.load wd)]):=by
 refine cB B200 38 Tryz.func200 ?_
 intro F
 refine gX [.z [0] 2 [0,5,6]] (gS [.o [0] 2,.c [1]] ?_)
 refine gC (some 7) [0,1,2] Tryz.call161 (gLoad c g ba cl ep sl wd sn bk fl cm nx er A oM oM oM) ?_
 refine gX [.e 0,.sp [13] [.dead] [.e 0,.n,.e 0,.z [0,0,1,1,1] 0 [0,4]]] (gQ g (gF ((A.ws.getD wd.toNat 0)==sn) (beq_eq_false_iff_ne.2 hq) (gQ g (gO (InK .i64 (fl+1)) (by simp only [InK]; omega) (gQ g (gS [.c [0,0,1,1,1],.c [1,0,1,1,1],.c [1,1,1,1]] ?_))))))
 refine qG (kV 0 [.ww,.ww,.ww,.e 0,.ww,.ww,.ww,.ww,.e 0,.t false]) [0,4,32] (.e g (.e g (.p (((fl+1)==c.retry)=false) (beq_eq_false_iff_ne.2 hr) .n))) .n ?_
 refine gX [.z [1,1,1,1] 2 [35,36]] (gS [.o [1,1,1,1] 2] ?_)
 refine gC (some 37) [0] Tryz.call160 (gLookD c g cl ep sl wd sn bk (fl+1) ((A.load wd).steps) nx er (A.ws.getD wd.toNat 0) oM oM) ?_
 exact gX [] (gJ [2,0,1] ⟨rfl,rfl⟩)
theorem gThirdP(c:Cfg)(g ba:Nat)(cl ep sl wd sn bk fl cm:Int)(nx er:Value)(A:Ar)(hn:A.ws.length=A.n)(hs:0≤A.steps∧A.steps≤1000000000)(hwd:0≤wd∧wd<A.n)(hw:U64 (A.ws.getD wd.toNat 0))(hf0:0≤fl∧fl≤1000)(hq:(A.ws.getD wd.toNat 0)≠sn)(hr:fl+1≠c.retry)(hl:ctlLive (A.ws.getD wd.toNat 0)=true)(he:ctlEpoch (A.ws.getD wd.toNat 0)≠ep):
  Ctr Tryz.prog 200 #[vP g,vP ba] [Edbf2d g c cl ep sl wd nx sn bk fl cm er,E3504b ba A,E35fb1 A] (Ret (undef) [Edbf2d g c cl ep sl wd (.nilFunc) (A.ws.getD wd.toNat 0) 0 (fl+1) ((A.load wd).steps) (.iface 42 (vI 22)),E3504b ba (A.load wd),E35fb1 (A.load wd)]):=by
 refine cB B200 38 Tryz.func200 ?_
 intro F
 refine gX [.z [0] 2 [0,5,6]] (gS [.o [0] 2,.c [1]] ?_)
 refine gC (some 7) [0,1,2] Tryz.call161 (gLoad c g ba cl ep sl wd sn bk fl cm nx er A oM oM oM) ?_
 refine gX [.e 0,.sp [13] [.dead] [.e 0,.n,.e 0,.z [0,0,1,1,1] 0 [0,4]]] (gQ g (gF ((A.ws.getD wd.toNat 0)==sn) (beq_eq_false_iff_ne.2 hq) (gQ g (gO (InK .i64 (fl+1)) (by simp only [InK]; omega) (gQ g (gS [.c [0,0,1,1,1],.c [1,0,1,1,1],.c [1,1,1,1]] ?_))))))
 refine qG (kV 0 [.ww,.ww,.ww,.e 0,.ww,.ww,.ww,.ww,.e 0,.t false]) [0,4,32] (.e g (.e g (.p (((fl+1)==c.retry)=false) (beq_eq_false_iff_ne.2 hr) .n))) .n ?_
 refine gX [.z [1,1,1,1] 2 [35,36]] (gS [.o [1,1,1,1] 2] ?_)
 refine gC (some 37) [0] Tryz.call160 (gLookP c g cl ep sl wd sn bk (fl+1) ((A.load wd).steps) nx er (A.ws.getD wd.toNat 0) oM oM oM) ?_
 exact gX [] (gJ [2,0,1] ⟨rfl,rfl⟩)
theorem gThirdE(c:Cfg)(g ba:Nat)(cl ep sl wd sn bk fl cm:Int)(nx er:Value)(A:Ar)(hn:A.ws.length=A.n)(hs:0≤A.steps∧A.steps≤1000000000)(hwd:0≤wd∧wd<A.n)(hw:U64 (A.ws.getD wd.toNat 0))(hf0:0≤fl∧fl≤1000)(hq:(A.ws.getD wd.toNat 0)≠sn)(hr:fl+1≠c.retry)(hl:ctlLive (A.ws.getD wd.toNat 0)=true)(he:ctlEpoch (A.ws.getD wd.toNat 0)=ep)(hb:ctlBlock (A.ws.getD wd.toNat 0)=0):
  Ctr Tryz.prog 200 #[vP g,vP ba] [Edbf2d g c cl ep sl wd nx sn bk fl cm er,E3504b ba A,E35fb1 A] (Ret (undef) [Edbf2d g c cl ep sl wd (.nilFunc) (A.ws.getD wd.toNat 0) 0 (fl+1) ((A.load wd).steps) (.iface 42 (vI 20)),E3504b ba (A.load wd),E35fb1 (A.load wd)]):=by
 refine cB B200 38 Tryz.func200 ?_
 intro F
 refine gX [.z [0] 2 [0,5,6]] (gS [.o [0] 2,.c [1]] ?_)
 refine gC (some 7) [0,1,2] Tryz.call161 (gLoad c g ba cl ep sl wd sn bk fl cm nx er A oM oM oM) ?_
 refine gX [.e 0,.sp [13] [.dead] [.e 0,.n,.e 0,.z [0,0,1,1,1] 0 [0,4]]] (gQ g (gF ((A.ws.getD wd.toNat 0)==sn) (beq_eq_false_iff_ne.2 hq) (gQ g (gO (InK .i64 (fl+1)) (by simp only [InK]; omega) (gQ g (gS [.c [0,0,1,1,1],.c [1,0,1,1,1],.c [1,1,1,1]] ?_))))))
 refine qG (kV 0 [.ww,.ww,.ww,.e 0,.ww,.ww,.ww,.ww,.e 0,.t false]) [0,4,32] (.e g (.e g (.p (((fl+1)==c.retry)=false) (beq_eq_false_iff_ne.2 hr) .n))) .n ?_
 refine gX [.z [1,1,1,1] 2 [35,36]] (gS [.o [1,1,1,1] 2] ?_)
 refine gC (some 37) [0] Tryz.call160 (gLookE c g cl ep sl wd sn bk (fl+1) ((A.load wd).steps) nx er (A.ws.getD wd.toNat 0) oM oM oM oM) ?_
 exact gX [] (gJ [2,0,1] ⟨rfl,rfl⟩)
theorem gThirdN(c:Cfg)(g ba:Nat)(cl ep sl wd sn bk fl cm:Int)(nx er:Value)(A:Ar)(hn:A.ws.length=A.n)(hs:0≤A.steps∧A.steps≤1000000000)(hwd:0≤wd∧wd<A.n)(hw:U64 (A.ws.getD wd.toNat 0))(hf0:0≤fl∧fl≤1000)(hq:(A.ws.getD wd.toNat 0)≠sn)(hr:fl+1≠c.retry)(hl:ctlLive (A.ws.getD wd.toNat 0)=true)(he:ctlEpoch (A.ws.getD wd.toNat 0)=ep)(hb:ctlBlock (A.ws.getD wd.toNat 0)≠0):
  Ctr Tryz.prog 200 #[vP g,vP ba] [Edbf2d g c cl ep sl wd nx sn bk fl cm er,E3504b ba A,E35fb1 A] (Ret (undef) [Edbf2d g c cl ep sl wd (.func (.func 188) #[vP g] #[]) (A.ws.getD wd.toNat 0) (ctlBlock (A.ws.getD wd.toNat 0)) (fl+1) ((A.load wd).steps) er,E3504b ba (A.load wd),E35fb1 (A.load wd)]):=by
 refine cB B200 38 Tryz.func200 ?_
 intro F
 refine gX [.z [0] 2 [0,5,6]] (gS [.o [0] 2,.c [1]] ?_)
 refine gC (some 7) [0,1,2] Tryz.call161 (gLoad c g ba cl ep sl wd sn bk fl cm nx er A oM oM oM) ?_
 refine gX [.e 0,.sp [13] [.dead] [.e 0,.n,.e 0,.z [0,0,1,1,1] 0 [0,4]]] (gQ g (gF ((A.ws.getD wd.toNat 0)==sn) (beq_eq_false_iff_ne.2 hq) (gQ g (gO (InK .i64 (fl+1)) (by simp only [InK]; omega) (gQ g (gS [.c [0,0,1,1,1],.c [1,0,1,1,1],.c [1,1,1,1]] ?_))))))
 refine qG (kV 0 [.ww,.ww,.ww,.e 0,.ww,.ww,.ww,.ww,.e 0,.t false]) [0,4,32] (.e g (.e g (.p (((fl+1)==c.retry)=false) (beq_eq_false_iff_ne.2 hr) .n))) .n ?_
 refine gX [.z [1,1,1,1] 2 [35,36]] (gS [.o [1,1,1,1] 2] ?_)
 refine gC (some 37) [0] Tryz.call160 (gLookN c g cl ep sl wd sn bk (fl+1) ((A.load wd).steps) nx er (A.ws.getD wd.toNat 0) oM oM oM oM) ?_
 exact gX [] (gJ [2,0,1] ⟨rfl,rfl⟩)
noncomputable def B126: Code:=(Tryz.f126.body).getD .skip
theorem gDone0(c:Cfg)(g:Nat)(cl ep sl wd sn bk fl cm:Int)(er:Value):
  Ctr Tryz.prog 126 #[vP g] [Edbf2d g c cl ep sl wd (.nilFunc) sn bk fl cm er] (Ret (.bool true) [Edbf2d g c cl ep sl wd (.nilFunc) sn bk fl cm er]):=by
 refine cB B126 12 Tryz.func126 ?_
 intro F
 exact gX [.e 0] (gQ g (gJ [0] ⟨rfl,rfl⟩))
theorem gDone1(c:Cfg)(g:Nat)(cl ep sl wd sn bk fl cm:Int)(er:Value):
  Ctr Tryz.prog 126 #[vP g] [Edbf2d g c cl ep sl wd (.func (.func 112) #[vP g] #[]) sn bk fl cm er] (Ret (.bool false) [Edbf2d g c cl ep sl wd (.func (.func 112) #[vP g] #[]) sn bk fl cm er]):=by
 refine cB B126 12 Tryz.func126 ?_
 intro F
 exact gX [.e 0] (gQ g (gJ [0] ⟨rfl,rfl⟩))
theorem gDone2(c:Cfg)(g:Nat)(cl ep sl wd sn bk fl cm:Int)(er:Value):
  Ctr Tryz.prog 126 #[vP g] [Edbf2d g c cl ep sl wd (.func (.func 188) #[vP g] #[]) sn bk fl cm er] (Ret (.bool false) [Edbf2d g c cl ep sl wd (.func (.func 188) #[vP g] #[]) sn bk fl cm er]):=by
 refine cB B126 12 Tryz.func126 ?_
 intro F
 exact gX [.e 0] (gQ g (gJ [0] ⟨rfl,rfl⟩))
theorem gDone3(c:Cfg)(g:Nat)(cl ep sl wd sn bk fl cm:Int)(er:Value):
  Ctr Tryz.prog 126 #[vP g] [Edbf2d g c cl ep sl wd (.func (.func 200) #[vP g] #[]) sn bk fl cm er] (Ret (.bool false) [Edbf2d g c cl ep sl wd (.func (.func 200) #[vP g] #[]) sn bk fl cm er]):=by
 refine cB B126 12 Tryz.func126 ?_
 intro F
 exact gX [.e 0] (gQ g (gJ [0] ⟨rfl,rfl⟩))
noncomputable def B227: Code:=(Tryz.f227.body).getD .skip
theorem gStep0(c:Cfg)(g ba:Nat)(cl ep sl wd sn bk fl cm:Int)(er:Value)(A:Ar):
  Ctr Tryz.prog 227 #[vP g,vP ba] [Edbf2d g c cl ep sl wd (.nilFunc) sn bk fl cm er,E3504b ba A,E35fb1 A] (Ret (.bool true) [Edbf2d g c cl ep sl wd (.nilFunc) sn bk fl cm er,E3504b ba A,E35fb1 A]):=by
 refine cB B227 16 Tryz.func227 ?_
 intro F
 refine gX [.z [0,0,1] 1 [0,1,5]] (gS [.o [0,0,1] 1,.c [1,0,1],.c [1,1]] ?_)
 refine gC (some 6) [0] Tryz.call126 (gDone0 c g cl ep sl wd sn bk fl cm er) ?_
 refine gX [.z [0,1,1] 1 [14]] (gS [.o [0,1,1] 1,.c [1,1,1]] ?_)
 refine gC (some 15) [2] Tryz.call126 (gDone0 c g cl ep sl wd sn bk fl cm er) ?_
 exact gX [] (gJ [2,0,1] ⟨rfl,rfl⟩)
theorem gStep1D(c:Cfg)(g ba:Nat)(cl ep sl wd sn bk fl cm:Int)(er:Value)(A:Ar)(hn:A.ws.length=A.n)(hs:0≤A.steps∧A.steps≤1000000000)(hwd:0≤wd∧wd<A.n)(hw:U64 (A.ws.getD wd.toNat 0))(hl:ctlLive (A.ws.getD wd.toNat 0)=false):
  Ctr Tryz.prog 227 #[vP g,vP ba] [Edbf2d g c cl ep sl wd (.func (.func 112) #[vP g] #[]) sn bk fl cm er,E3504b ba A,E35fb1 A] (Ret (.bool true) [Edbf2d g c cl ep sl wd (.nilFunc) (A.ws.getD wd.toNat 0) 0 fl ((A.load wd).steps) (.iface 42 (vI 22)),E3504b ba (A.load wd),E35fb1 (A.load wd)]):=by
 refine cB B227 16 Tryz.func227 ?_
 intro F
 refine gX [.z [0,0,1] 1 [0,1,5]] (gS [.o [0,0,1] 1,.c [1,0,1],.c [1,1]] ?_)
 refine gC (some 6) [0] Tryz.call126 (gDone1 c g cl ep sl wd sn bk fl cm er) ?_
 refine gX [.e 2,.z [0,1,0,1] 5 [0,11,12]] (gQ g (gS [.o [0,1,0,1] 5,.c [1,1]] ?_))
 refine gC (some 13) [2,0,1] Tryz.call112 (gFirstD c g ba cl ep sl wd sn bk fl cm (.func (.func 112) #[vP g] #[]) er A oM oM oM oM oM) ?_
 refine gX [.z [0,1,1] 1 [14]] (gS [.o [0,1,1] 1,.c [1,1,1]] ?_)
 refine gC (some 15) [0] Tryz.call126 (gDone0 c g cl ep sl wd (A.ws.getD wd.toNat 0) 0 fl ((A.load wd).steps) (.iface 42 (vI 22))) ?_
 exact gX [] (gJ [2,0,1] ⟨rfl,rfl⟩)
theorem gStep1P(c:Cfg)(g ba:Nat)(cl ep sl wd sn bk fl cm:Int)(er:Value)(A:Ar)(hn:A.ws.length=A.n)(hs:0≤A.steps∧A.steps≤1000000000)(hwd:0≤wd∧wd<A.n)(hw:U64 (A.ws.getD wd.toNat 0))(hl:ctlLive (A.ws.getD wd.toNat 0)=true)(he:ctlEpoch (A.ws.getD wd.toNat 0)≠ep):
  Ctr Tryz.prog 227 #[vP g,vP ba] [Edbf2d g c cl ep sl wd (.func (.func 112) #[vP g] #[]) sn bk fl cm er,E3504b ba A,E35fb1 A] (Ret (.bool true) [Edbf2d g c cl ep sl wd (.nilFunc) (A.ws.getD wd.toNat 0) 0 fl ((A.load wd).steps) (.iface 42 (vI 22)),E3504b ba (A.load wd),E35fb1 (A.load wd)]):=by
 refine cB B227 16 Tryz.func227 ?_
 intro F
 refine gX [.z [0,0,1] 1 [0,1,5]] (gS [.o [0,0,1] 1,.c [1,0,1],.c [1,1]] ?_)
 refine gC (some 6) [0] Tryz.call126 (gDone1 c g cl ep sl wd sn bk fl cm er) ?_
 refine gX [.e 2,.z [0,1,0,1] 5 [0,11,12]] (gQ g (gS [.o [0,1,0,1] 5,.c [1,1]] ?_))
 refine gC (some 13) [2,0,1] Tryz.call112 (gFirstP c g ba cl ep sl wd sn bk fl cm (.func (.func 112) #[vP g] #[]) er A oM oM oM oM oM oM) ?_
 refine gX [.z [0,1,1] 1 [14]] (gS [.o [0,1,1] 1,.c [1,1,1]] ?_)
 refine gC (some 15) [0] Tryz.call126 (gDone0 c g cl ep sl wd (A.ws.getD wd.toNat 0) 0 fl ((A.load wd).steps) (.iface 42 (vI 22))) ?_
 exact gX [] (gJ [2,0,1] ⟨rfl,rfl⟩)
theorem gStep1E(c:Cfg)(g ba:Nat)(cl ep sl wd sn bk fl cm:Int)(er:Value)(A:Ar)(hn:A.ws.length=A.n)(hs:0≤A.steps∧A.steps≤1000000000)(hwd:0≤wd∧wd<A.n)(hw:U64 (A.ws.getD wd.toNat 0))(hl:ctlLive (A.ws.getD wd.toNat 0)=true)(he:ctlEpoch (A.ws.getD wd.toNat 0)=ep)(hb:ctlBlock (A.ws.getD wd.toNat 0)=0):
  Ctr Tryz.prog 227 #[vP g,vP ba] [Edbf2d g c cl ep sl wd (.func (.func 112) #[vP g] #[]) sn bk fl cm er,E3504b ba A,E35fb1 A] (Ret (.bool true) [Edbf2d g c cl ep sl wd (.nilFunc) (A.ws.getD wd.toNat 0) 0 fl ((A.load wd).steps) (.iface 42 (vI 20)),E3504b ba (A.load wd),E35fb1 (A.load wd)]):=by
 refine cB B227 16 Tryz.func227 ?_
 intro F
 refine gX [.z [0,0,1] 1 [0,1,5]] (gS [.o [0,0,1] 1,.c [1,0,1],.c [1,1]] ?_)
 refine gC (some 6) [0] Tryz.call126 (gDone1 c g cl ep sl wd sn bk fl cm er) ?_
 refine gX [.e 2,.z [0,1,0,1] 5 [0,11,12]] (gQ g (gS [.o [0,1,0,1] 5,.c [1,1]] ?_))
 refine gC (some 13) [2,0,1] Tryz.call112 (gFirstE c g ba cl ep sl wd sn bk fl cm (.func (.func 112) #[vP g] #[]) er A oM oM oM oM oM oM oM) ?_
 refine gX [.z [0,1,1] 1 [14]] (gS [.o [0,1,1] 1,.c [1,1,1]] ?_)
 refine gC (some 15) [0] Tryz.call126 (gDone0 c g cl ep sl wd (A.ws.getD wd.toNat 0) 0 fl ((A.load wd).steps) (.iface 42 (vI 20))) ?_
 exact gX [] (gJ [2,0,1] ⟨rfl,rfl⟩)
theorem gStep1N(c:Cfg)(g ba:Nat)(cl ep sl wd sn bk fl cm:Int)(er:Value)(A:Ar)(hn:A.ws.length=A.n)(hs:0≤A.steps∧A.steps≤1000000000)(hwd:0≤wd∧wd<A.n)(hw:U64 (A.ws.getD wd.toNat 0))(hl:ctlLive (A.ws.getD wd.toNat 0)=true)(he:ctlEpoch (A.ws.getD wd.toNat 0)=ep)(hb:ctlBlock (A.ws.getD wd.toNat 0)≠0):
  Ctr Tryz.prog 227 #[vP g,vP ba] [Edbf2d g c cl ep sl wd (.func (.func 112) #[vP g] #[]) sn bk fl cm er,E3504b ba A,E35fb1 A] (Ret (.bool false) [Edbf2d g c cl ep sl wd (.func (.func 188) #[vP g] #[]) (A.ws.getD wd.toNat 0) (ctlBlock (A.ws.getD wd.toNat 0)) fl ((A.load wd).steps) er,E3504b ba (A.load wd),E35fb1 (A.load wd)]):=by
 refine cB B227 16 Tryz.func227 ?_
 intro F
 refine gX [.z [0,0,1] 1 [0,1,5]] (gS [.o [0,0,1] 1,.c [1,0,1],.c [1,1]] ?_)
 refine gC (some 6) [0] Tryz.call126 (gDone1 c g cl ep sl wd sn bk fl cm er) ?_
 refine gX [.e 2,.z [0,1,0,1] 5 [0,11,12]] (gQ g (gS [.o [0,1,0,1] 5,.c [1,1]] ?_))
 refine gC (some 13) [2,0,1] Tryz.call112 (gFirstN c g ba cl ep sl wd sn bk fl cm (.func (.func 112) #[vP g] #[]) er A oM oM oM oM oM oM oM) ?_
 refine gX [.z [0,1,1] 1 [14]] (gS [.o [0,1,1] 1,.c [1,1,1]] ?_)
 refine gC (some 15) [0] Tryz.call126 (gDone2 c g cl ep sl wd (A.ws.getD wd.toNat 0) (ctlBlock (A.ws.getD wd.toNat 0)) fl ((A.load wd).steps) er) ?_
 exact gX [] (gJ [2,0,1] ⟨rfl,rfl⟩)
theorem gStep2(c:Cfg)(g ba:Nat)(cl ep sl wd sn bk fl cm:Int)(er:Value)(A:Ar)(hn:A.ws.length=A.n)(hs:0≤A.steps∧A.steps≤1000000000)(hsl:0≤sl∧sl<A.n)(hcl:0≤cl∧cl≤1000)(hbk:0≤bk∧bk≤65535):
  Ctr Tryz.prog 227 #[vP g,vP ba] [Edbf2d g c cl ep sl wd (.func (.func 188) #[vP g] #[]) sn bk fl cm er,E3504b ba A,E35fb1 A] (Ret (.bool false) [Edbf2d g c cl ep sl wd (.func (.func 200) #[vP g] #[]) sn bk fl cm er,E3504b ba (A.store sl (markW cl bk)),E35fb1 (A.store sl (markW cl bk))]):=by
 refine cB B227 16 Tryz.func227 ?_
 intro F
 refine gX [.z [0,0,1] 1 [0,1,5]] (gS [.o [0,0,1] 1,.c [1,0,1],.c [1,1]] ?_)
 refine gC (some 6) [0] Tryz.call126 (gDone2 c g cl ep sl wd sn bk fl cm er) ?_
 refine gX [.e 2,.z [0,1,0,1] 5 [0,11,12]] (gQ g (gS [.o [0,1,0,1] 5,.c [1,1]] ?_))
 refine gC (some 13) [2,0,1] Tryz.call188 (gSecond c g ba cl ep sl wd sn bk fl cm (.func (.func 188) #[vP g] #[]) er A oM oM oM oM oM) ?_
 refine gX [.z [0,1,1] 1 [14]] (gS [.o [0,1,1] 1,.c [1,1,1]] ?_)
 refine gC (some 15) [0] Tryz.call126 (gDone3 c g cl ep sl wd sn bk fl cm er) ?_
 exact gX [] (gJ [2,0,1] ⟨rfl,rfl⟩)
theorem gStep3K(c:Cfg)(g ba:Nat)(cl ep sl wd sn bk fl cm:Int)(er:Value)(A:Ar)(hn:A.ws.length=A.n)(hs:0≤A.steps∧A.steps≤1000000000)(hwd:0≤wd∧wd<A.n)(hw:U64 (A.ws.getD wd.toNat 0))(hf0:0≤fl∧fl≤1000)(hq:(A.ws.getD wd.toNat 0)=sn):
  Ctr Tryz.prog 227 #[vP g,vP ba] [Edbf2d g c cl ep sl wd (.func (.func 200) #[vP g] #[]) sn bk fl cm er,E3504b ba A,E35fb1 A] (Ret (.bool true) [E087d5 g c cl ep sl wd (.nilFunc) sn bk fl ((A.load wd).steps),E3504b ba (A.load wd),E35fb1 (A.load wd)]):=by
 refine cB B227 16 Tryz.func227 ?_
 intro F
 refine gX [.z [0,0,1] 1 [0,1,5]] (gS [.o [0,0,1] 1,.c [1,0,1],.c [1,1]] ?_)
 refine gC (some 6) [0] Tryz.call126 (gDone3 c g cl ep sl wd sn bk fl cm er) ?_
 refine gX [.e 2,.z [0,1,0,1] 5 [0,11,12]] (gQ g (gS [.o [0,1,0,1] 5,.c [1,1]] ?_))
 refine gC (some 13) [2,0,1] Tryz.call200 (gThirdK c g ba cl ep sl wd sn bk fl cm (.func (.func 200) #[vP g] #[]) er A oM oM oM oM oM oM) ?_
 refine gX [.z [0,1,1] 1 [14]] (gS [.o [0,1,1] 1,.c [1,1,1]] ?_)
 refine gC (some 15) [0] Tryz.call126 (gDone0 c g cl ep sl wd sn bk fl ((A.load wd).steps) (.nilIface)) ?_
 exact gX [] (gJ [2,0,1] ⟨rfl,rfl⟩)
theorem gStep3R(c:Cfg)(g ba:Nat)(cl ep sl wd sn bk fl cm:Int)(er:Value)(A:Ar)(hn:A.ws.length=A.n)(hs:0≤A.steps∧A.steps≤1000000000)(hwd:0≤wd∧wd<A.n)(hw:U64 (A.ws.getD wd.toNat 0))(hf0:0≤fl∧fl≤1000)(hq:(A.ws.getD wd.toNat 0)≠sn)(hr:fl+1=c.retry):
  Ctr Tryz.prog 227 #[vP g,vP ba] [Edbf2d g c cl ep sl wd (.func (.func 200) #[vP g] #[]) sn bk fl cm er,E3504b ba A,E35fb1 A] (Ret (.bool true) [Edbf2d g c cl ep sl wd (.nilFunc) sn 0 (fl+1) ((A.load wd).steps) (.iface 42 (vI 17)),E3504b ba (A.load wd),E35fb1 (A.load wd)]):=by
 refine cB B227 16 Tryz.func227 ?_
 intro F
 refine gX [.z [0,0,1] 1 [0,1,5]] (gS [.o [0,0,1] 1,.c [1,0,1],.c [1,1]] ?_)
 refine gC (some 6) [0] Tryz.call126 (gDone3 c g cl ep sl wd sn bk fl cm er) ?_
 refine gX [.e 2,.z [0,1,0,1] 5 [0,11,12]] (gQ g (gS [.o [0,1,0,1] 5,.c [1,1]] ?_))
 refine gC (some 13) [2,0,1] Tryz.call200 (gThirdR c g ba cl ep sl wd sn bk fl cm (.func (.func 200) #[vP g] #[]) er A oM oM oM oM oM oM oM) ?_
 refine gX [.z [0,1,1] 1 [14]] (gS [.o [0,1,1] 1,.c [1,1,1]] ?_)
 refine gC (some 15) [0] Tryz.call126 (gDone0 c g cl ep sl wd sn 0 (fl+1) ((A.load wd).steps) (.iface 42 (vI 17))) ?_
 exact gX [] (gJ [2,0,1] ⟨rfl,rfl⟩)
theorem gStep3D(c:Cfg)(g ba:Nat)(cl ep sl wd sn bk fl cm:Int)(er:Value)(A:Ar)(hn:A.ws.length=A.n)(hs:0≤A.steps∧A.steps≤1000000000)(hwd:0≤wd∧wd<A.n)(hw:U64 (A.ws.getD wd.toNat 0))(hf0:0≤fl∧fl≤1000)(hq:(A.ws.getD wd.toNat 0)≠sn)(hr:fl+1≠c.retry)(hl:ctlLive (A.ws.getD wd.toNat 0)=false):
  Ctr Tryz.prog 227 #[vP g,vP ba] [Edbf2d g c cl ep sl wd (.func (.func 200) #[vP g] #[]) sn bk fl cm er,E3504b ba A,E35fb1 A] (Ret (.bool true) [Edbf2d g c cl ep sl wd (.nilFunc) (A.ws.getD wd.toNat 0) 0 (fl+1) ((A.load wd).steps) (.iface 42 (vI 22)),E3504b ba (A.load wd),E35fb1 (A.load wd)]):=by
 refine cB B227 16 Tryz.func227 ?_
 intro F
 refine gX [.z [0,0,1] 1 [0,1,5]] (gS [.o [0,0,1] 1,.c [1,0,1],.c [1,1]] ?_)
 refine gC (some 6) [0] Tryz.call126 (gDone3 c g cl ep sl wd sn bk fl cm er) ?_
 refine gX [.e 2,.z [0,1,0,1] 5 [0,11,12]] (gQ g (gS [.o [0,1,0,1] 5,.c [1,1]] ?_))
 refine gC (some 13) [2,0,1] Tryz.call200 (gThirdD c g ba cl ep sl wd sn bk fl cm (.func (.func 200) #[vP g] #[]) er A oM oM oM oM oM oM oM oM) ?_
 refine gX [.z [0,1,1] 1 [14]] (gS [.o [0,1,1] 1,.c [1,1,1]] ?_)
 refine gC (some 15) [0] Tryz.call126 (gDone0 c g cl ep sl wd (A.ws.getD wd.toNat 0) 0 (fl+1) ((A.load wd).steps) (.iface 42 (vI 22))) ?_
 exact gX [] (gJ [2,0,1] ⟨rfl,rfl⟩)
theorem gStep3P(c:Cfg)(g ba:Nat)(cl ep sl wd sn bk fl cm:Int)(er:Value)(A:Ar)(hn:A.ws.length=A.n)(hs:0≤A.steps∧A.steps≤1000000000)(hwd:0≤wd∧wd<A.n)(hw:U64 (A.ws.getD wd.toNat 0))(hf0:0≤fl∧fl≤1000)(hq:(A.ws.getD wd.toNat 0)≠sn)(hr:fl+1≠c.retry)(hl:ctlLive (A.ws.getD wd.toNat 0)=true)(he:ctlEpoch (A.ws.getD wd.toNat 0)≠ep):
  Ctr Tryz.prog 227 #[vP g,vP ba] [Edbf2d g c cl ep sl wd (.func (.func 200) #[vP g] #[]) sn bk fl cm er,E3504b ba A,E35fb1 A] (Ret (.bool true) [Edbf2d g c cl ep sl wd (.nilFunc) (A.ws.getD wd.toNat 0) 0 (fl+1) ((A.load wd).steps) (.iface 42 (vI 22)),E3504b ba (A.load wd),E35fb1 (A.load wd)]):=by
 refine cB B227 16 Tryz.func227 ?_
 intro F
 refine gX [.z [0,0,1] 1 [0,1,5]] (gS [.o [0,0,1] 1,.c [1,0,1],.c [1,1]] ?_)
 refine gC (some 6) [0] Tryz.call126 (gDone3 c g cl ep sl wd sn bk fl cm er) ?_
 refine gX [.e 2,.z [0,1,0,1] 5 [0,11,12]] (gQ g (gS [.o [0,1,0,1] 5,.c [1,1]] ?_))
 refine gC (some 13) [2,0,1] Tryz.call200 (gThirdP c g ba cl ep sl wd sn bk fl cm (.func (.func 200) #[vP g] #[]) er A oM oM oM oM oM oM oM oM oM) ?_
 refine gX [.z [0,1,1] 1 [14]] (gS [.o [0,1,1] 1,.c [1,1,1]] ?_)
 refine gC (some 15) [0] Tryz.call126 (gDone0 c g cl ep sl wd (A.ws.getD wd.toNat 0) 0 (fl+1) ((A.load wd).steps) (.iface 42 (vI 22))) ?_
 exact gX [] (gJ [2,0,1] ⟨rfl,rfl⟩)
theorem gStep3E(c:Cfg)(g ba:Nat)(cl ep sl wd sn bk fl cm:Int)(er:Value)(A:Ar)(hn:A.ws.length=A.n)(hs:0≤A.steps∧A.steps≤1000000000)(hwd:0≤wd∧wd<A.n)(hw:U64 (A.ws.getD wd.toNat 0))(hf0:0≤fl∧fl≤1000)(hq:(A.ws.getD wd.toNat 0)≠sn)(hr:fl+1≠c.retry)(hl:ctlLive (A.ws.getD wd.toNat 0)=true)(he:ctlEpoch (A.ws.getD wd.toNat 0)=ep)(hb:ctlBlock (A.ws.getD wd.toNat 0)=0):
  Ctr Tryz.prog 227 #[vP g,vP ba] [Edbf2d g c cl ep sl wd (.func (.func 200) #[vP g] #[]) sn bk fl cm er,E3504b ba A,E35fb1 A] (Ret (.bool true) [Edbf2d g c cl ep sl wd (.nilFunc) (A.ws.getD wd.toNat 0) 0 (fl+1) ((A.load wd).steps) (.iface 42 (vI 20)),E3504b ba (A.load wd),E35fb1 (A.load wd)]):=by
 refine cB B227 16 Tryz.func227 ?_
 intro F
 refine gX [.z [0,0,1] 1 [0,1,5]] (gS [.o [0,0,1] 1,.c [1,0,1],.c [1,1]] ?_)
 refine gC (some 6) [0] Tryz.call126 (gDone3 c g cl ep sl wd sn bk fl cm er) ?_
 refine gX [.e 2,.z [0,1,0,1] 5 [0,11,12]] (gQ g (gS [.o [0,1,0,1] 5,.c [1,1]] ?_))
 refine gC (some 13) [2,0,1] Tryz.call200 (gThirdE c g ba cl ep sl wd sn bk fl cm (.func (.func 200) #[vP g] #[]) er A oM oM oM oM oM oM oM oM oM oM) ?_
 refine gX [.z [0,1,1] 1 [14]] (gS [.o [0,1,1] 1,.c [1,1,1]] ?_)
 refine gC (some 15) [0] Tryz.call126 (gDone0 c g cl ep sl wd (A.ws.getD wd.toNat 0) 0 (fl+1) ((A.load wd).steps) (.iface 42 (vI 20))) ?_
 exact gX [] (gJ [2,0,1] ⟨rfl,rfl⟩)
theorem gStep3N(c:Cfg)(g ba:Nat)(cl ep sl wd sn bk fl cm:Int)(er:Value)(A:Ar)(hn:A.ws.length=A.n)(hs:0≤A.steps∧A.steps≤1000000000)(hwd:0≤wd∧wd<A.n)(hw:U64 (A.ws.getD wd.toNat 0))(hf0:0≤fl∧fl≤1000)(hq:(A.ws.getD wd.toNat 0)≠sn)(hr:fl+1≠c.retry)(hl:ctlLive (A.ws.getD wd.toNat 0)=true)(he:ctlEpoch (A.ws.getD wd.toNat 0)=ep)(hb:ctlBlock (A.ws.getD wd.toNat 0)≠0):
  Ctr Tryz.prog 227 #[vP g,vP ba] [Edbf2d g c cl ep sl wd (.func (.func 200) #[vP g] #[]) sn bk fl cm er,E3504b ba A,E35fb1 A] (Ret (.bool false) [Edbf2d g c cl ep sl wd (.func (.func 188) #[vP g] #[]) (A.ws.getD wd.toNat 0) (ctlBlock (A.ws.getD wd.toNat 0)) (fl+1) ((A.load wd).steps) er,E3504b ba (A.load wd),E35fb1 (A.load wd)]):=by
 refine cB B227 16 Tryz.func227 ?_
 intro F
 refine gX [.z [0,0,1] 1 [0,1,5]] (gS [.o [0,0,1] 1,.c [1,0,1],.c [1,1]] ?_)
 refine gC (some 6) [0] Tryz.call126 (gDone3 c g cl ep sl wd sn bk fl cm er) ?_
 refine gX [.e 2,.z [0,1,0,1] 5 [0,11,12]] (gQ g (gS [.o [0,1,0,1] 5,.c [1,1]] ?_))
 refine gC (some 13) [2,0,1] Tryz.call200 (gThirdN c g ba cl ep sl wd sn bk fl cm (.func (.func 200) #[vP g] #[]) er A oM oM oM oM oM oM oM oM oM oM) ?_
 refine gX [.z [0,1,1] 1 [14]] (gS [.o [0,1,1] 1,.c [1,1,1]] ?_)
 refine gC (some 15) [0] Tryz.call126 (gDone2 c g cl ep sl wd (A.ws.getD wd.toNat 0) (ctlBlock (A.ws.getD wd.toNat 0)) (fl+1) ((A.load wd).steps) er) ?_
 exact gX [] (gJ [2,0,1] ⟨rfl,rfl⟩)
end Go.Proofs.YtpcaijopodhdgaaGreatDoor
namespace Go.Proofs.YtpcaijopodhdgaaGreatDoor
open Go.Sx
noncomputable abbrev Ea7eb0(x0:Nat)(c1:Cfg)(g2:Gu)(x3:Nat): Ent:=.pts x0 [.int .i64 c1.topics,.int .i64 c1.small,.int .i64 c1.slots,.int .i64 c1.clients,.int .i64 c1.s0,.int .i64 c1.n0,.int .i64 c1.s1,.int .i64 c1.n1,.int .i64 c1.retry,.int .i64 g2.client,.int .i64 g2.epoch,.int .i64 g2.slot,.int .i64 g2.word,(nxG x3 g2.ph),.int .u64 g2.seen,.int .i64 g2.block,.int .i64 g2.failed,.int .i64 g2.commit,(errV g2.code)] 180
abbrev q32_0: List Nat:=[0,0,1,1,1,0,0,1]
abbrev q32_1: List Nat:=[1,0,1,1,1,0,0,1]
theorem guard_Step(c:Cfg)(g ba:Nat)(G:Gu)(A:Ar)(hc:c.Ok)(hn:A.ws.length=A.n)(hs:0≤A.steps∧A.steps≤1000000000)(hR:RngW A.ws)(hG:Gu.Ok c A.n G):
  Ctr Tryz.prog 227 #[vP g,vP ba] [Ea7eb0 g c G g,E3504b ba A,E35fb1 A] (Ret (.bool ((G.step c.retry A).1.ph==0)) [Ea7eb0 g c ((G.step c.retry A).1) g,E3504b ba ((G.step c.retry A).2),E35fb1 ((G.step c.retry A).2)]):=by
 obtain⟨cl,ep,sl,wd,sn,bk,fl,cm,cd,ph⟩:=G
 obtain⟨hph,hsl,hwd,hcl,hbk,hf0,_⟩:=hG
 simp only at hph hsl hwd hcl hbk hf0
 have hc':=hc
 simp only [Cfg.Ok] at hc'
 have hw:U64 (A.ws.getD wd.toNat 0):=hR _
 match ph,hph with
 | 0,_=>exact gStep0 c g ba cl ep sl wd sn bk fl cm (errV cd) A
 | 1,_=>
  by_cases hl:ctlLive (A.ws.getD wd.toNat 0)=true
  ·by_cases he:ctlEpoch (A.ws.getD wd.toNat 0)=ep
   ·by_cases hb:ctlBlock (A.ws.getD wd.toNat 0)=0
    ·have e:Gu.step c.retry (⟨cl,ep,sl,wd,sn,bk,fl,cm,cd,1⟩:Gu) A=((⟨cl,ep,sl,wd,(A.ws.getD wd.toNat 0),0,fl,(A.load wd).steps,20,0⟩:Gu),A.load wd):=by
      show(Gu.look _ _,_) = _
      rw [Gu.look_E _ hl he hb]
     rw [e]; exact gStep1E c g ba cl ep sl wd sn bk fl cm (errV cd) A hn hs hwd hw hl he hb
    ·have e:Gu.step c.retry (⟨cl,ep,sl,wd,sn,bk,fl,cm,cd,1⟩:Gu) A=((⟨cl,ep,sl,wd,(A.ws.getD wd.toNat 0),(ctlBlock (A.ws.getD wd.toNat 0)),fl,(A.load wd).steps,cd,2⟩:Gu),A.load wd):=by
      show(Gu.look _ _,_) = _
      rw [Gu.look_N _ hl he hb]
     rw [e]; exact gStep1N c g ba cl ep sl wd sn bk fl cm (errV cd) A hn hs hwd hw hl he hb
   ·have e:Gu.step c.retry (⟨cl,ep,sl,wd,sn,bk,fl,cm,cd,1⟩:Gu) A=((⟨cl,ep,sl,wd,(A.ws.getD wd.toNat 0),0,fl,(A.load wd).steps,22,0⟩:Gu),A.load wd):=by
     show(Gu.look _ _,_) = _
     rw [Gu.look_P _ he]
    rw [e]; exact gStep1P c g ba cl ep sl wd sn bk fl cm (errV cd) A hn hs hwd hw hl he
  ·have hl:=(Bool.not_eq_true _).mp hl
   have e:Gu.step c.retry (⟨cl,ep,sl,wd,sn,bk,fl,cm,cd,1⟩:Gu) A=((⟨cl,ep,sl,wd,(A.ws.getD wd.toNat 0),0,fl,(A.load wd).steps,22,0⟩:Gu),A.load wd):=by
    show(Gu.look _ _,_) = _
    rw [Gu.look_D _ hl]
   rw [e]; exact gStep1D c g ba cl ep sl wd sn bk fl cm (errV cd) A hn hs hwd hw hl
 | 2,_=>exact gStep2 c g ba cl ep sl wd sn bk fl cm (errV cd) A hn hs hsl (by omega) hbk
 | 3,_=>
  by_cases hq:(A.ws.getD wd.toNat 0)=sn
  ·have e:Gu.step c.retry (⟨cl,ep,sl,wd,sn,bk,fl,cm,cd,3⟩:Gu) A=((⟨cl,ep,sl,wd,sn,bk,fl,(A.load wd).steps,0,0⟩:Gu),A.load wd):=by
    show(if _ then _ else _) = _
    rw [if_pos hq]
   rw [e]; exact gStep3K c g ba cl ep sl wd sn bk fl cm (errV cd) A hn hs hwd hw hf0 hq
  ·by_cases hr:fl+1=c.retry
   ·have e:Gu.step c.retry (⟨cl,ep,sl,wd,sn,bk,fl,cm,cd,3⟩:Gu) A=((⟨cl,ep,sl,wd,sn,0,(fl+1),(A.load wd).steps,17,0⟩:Gu),A.load wd):=by
     show(if _ then _ else _) = _
     rw [if_neg hq,if_pos hr]
    rw [e]; exact gStep3R c g ba cl ep sl wd sn bk fl cm (errV cd) A hn hs hwd hw hf0 hq hr
   ·by_cases hl:ctlLive (A.ws.getD wd.toNat 0)=true
    ·by_cases he:ctlEpoch (A.ws.getD wd.toNat 0)=ep
     ·by_cases hb:ctlBlock (A.ws.getD wd.toNat 0)=0
      ·have e:Gu.step c.retry (⟨cl,ep,sl,wd,sn,bk,fl,cm,cd,3⟩:Gu) A=((⟨cl,ep,sl,wd,(A.ws.getD wd.toNat 0),0,(fl+1),(A.load wd).steps,20,0⟩:Gu),A.load wd):=by
        show(if _ then _ else _) = _
        rw [if_neg hq,if_neg hr,Gu.look_E _ hl he hb]
       rw [e]; exact gStep3E c g ba cl ep sl wd sn bk fl cm (errV cd) A hn hs hwd hw hf0 hq hr hl he hb
      ·have e:Gu.step c.retry (⟨cl,ep,sl,wd,sn,bk,fl,cm,cd,3⟩:Gu) A=((⟨cl,ep,sl,wd,(A.ws.getD wd.toNat 0),(ctlBlock (A.ws.getD wd.toNat 0)),(fl+1),(A.load wd).steps,cd,2⟩:Gu),A.load wd):=by
        show(if _ then _ else _) = _
        rw [if_neg hq,if_neg hr,Gu.look_N _ hl he hb]
       rw [e]; exact gStep3N c g ba cl ep sl wd sn bk fl cm (errV cd) A hn hs hwd hw hf0 hq hr hl he hb
     ·have e:Gu.step c.retry (⟨cl,ep,sl,wd,sn,bk,fl,cm,cd,3⟩:Gu) A=((⟨cl,ep,sl,wd,(A.ws.getD wd.toNat 0),0,(fl+1),(A.load wd).steps,22,0⟩:Gu),A.load wd):=by
       show(if _ then _ else _) = _
       rw [if_neg hq,if_neg hr,Gu.look_P _ he]
      rw [e]; exact gStep3P c g ba cl ep sl wd sn bk fl cm (errV cd) A hn hs hwd hw hf0 hq hr hl he
    ·have hl:=(Bool.not_eq_true _).mp hl
     have e:Gu.step c.retry (⟨cl,ep,sl,wd,sn,bk,fl,cm,cd,3⟩:Gu) A=((⟨cl,ep,sl,wd,(A.ws.getD wd.toNat 0),0,(fl+1),(A.load wd).steps,22,0⟩:Gu),A.load wd):=by
      show(if _ then _ else _) = _
      rw [if_neg hq,if_neg hr,Gu.look_D _ hl]
     rw [e]; exact gStep3D c g ba cl ep sl wd sn bk fl cm (errV cd) A hn hs hwd hw hf0 hq hr hl
 | n+4,h=>omega
theorem guard_Done(c:Cfg)(g:Nat)(G:Gu)(hph:G.ph≤3):
  Ctr Tryz.prog 126 #[vP g] [Ea7eb0 g c G g] (Ret (.bool (G.ph==0)) [Ea7eb0 g c G g]):=by
 obtain⟨cl,ep,sl,wd,sn,bk,fl,cm,cd,ph⟩:=G
 simp only at hph
 match ph,hph with
 | 0,_=>exact gDone0 c g cl ep sl wd sn bk fl cm (errV cd)
 | 1,_=>exact gDone1 c g cl ep sl wd sn bk fl cm (errV cd)
 | 2,_=>exact gDone2 c g cl ep sl wd sn bk fl cm (errV cd)
 | 3,_=>exact gDone3 c g cl ep sl wd sn bk fl cm (errV cd)
 | n+4,h=>omega
noncomputable def B113: Code:=(Tryz.f113.body).getD .skip
theorem gTold0(c:Cfg)(g:Nat)(cl ep sl wd sn bk fl cm:Int)(er:Value):
  Ctr Tryz.prog 113 #[vP g] [Edbf2d g c cl ep sl wd (.nilFunc) sn bk fl cm er] (Ret (.tuple #[vI bk,er]) [Edbf2d g c cl ep sl wd (.nilFunc) sn bk fl cm er]):=by
 refine cB B113 21 Tryz.func113 ?_
 intro F
 refine gX [.z [0,1,1,0,0,1] 1 [0,9]] (gS [.o [0,1,1,0,0,1] 1,.c [1,1,1,0,0,1],.b 0,.c [1,1]] ?_)
 refine gC (some 10) [0] Tryz.call126 (gDone0 c g cl ep sl wd sn bk fl cm er) ?_
 refine gX [.z [0,1,1] 0 [0]] (gS [.c [0,1,1],.c [1,1,1]] ?_)
 refine qG (kV 0 [.ww,.ww,.ww,.e 0,.ww,.ww,.ww,.e 0,.ww,.ww]) [2,3] (.e g (.e g .n)) .n ?_
 exact gX [] (gJ [0] ⟨rfl,rfl⟩)
theorem gTold1(c:Cfg)(g:Nat)(cl ep sl wd sn bk fl cm:Int)(er:Value):
  Ctr Tryz.prog 113 #[vP g] [Edbf2d g c cl ep sl wd (.func (.func 112) #[vP g] #[]) sn bk fl cm er] (Ret (.tuple #[vI 0,.iface 42 (vI 13)]) [Edbf2d g c cl ep sl wd (.func (.func 112) #[vP g] #[]) sn bk fl cm er]):=by
 refine cB B113 21 Tryz.func113 ?_
 intro F
 refine gX [.z [0,1,1,0,0,1] 1 [0,9]] (gS [.o [0,1,1,0,0,1] 1,.c [1,1,1,0,0,1],.b 0,.c [1,1]] ?_)
 refine gC (some 10) [0] Tryz.call126 (gDone1 c g cl ep sl wd sn bk fl cm er) ?_
 refine gX [.z q32_0 0 []] (gS [.o q32_0 0,.c q32_1,.b 0,.c [1,1]] ?_)
 refine gC (some 12) [] Tryz.call46 (cause_NewE 13 (by decide)) ?_
 exact gX [] (gJ [0] ⟨rfl,rfl⟩)
theorem gTold2(c:Cfg)(g:Nat)(cl ep sl wd sn bk fl cm:Int)(er:Value):
  Ctr Tryz.prog 113 #[vP g] [Edbf2d g c cl ep sl wd (.func (.func 188) #[vP g] #[]) sn bk fl cm er] (Ret (.tuple #[vI 0,.iface 42 (vI 13)]) [Edbf2d g c cl ep sl wd (.func (.func 188) #[vP g] #[]) sn bk fl cm er]):=by
 refine cB B113 21 Tryz.func113 ?_
 intro F
 refine gX [.z [0,1,1,0,0,1] 1 [0,9]] (gS [.o [0,1,1,0,0,1] 1,.c [1,1,1,0,0,1],.b 0,.c [1,1]] ?_)
 refine gC (some 10) [0] Tryz.call126 (gDone2 c g cl ep sl wd sn bk fl cm er) ?_
 refine gX [.z q32_0 0 []] (gS [.o q32_0 0,.c q32_1,.b 0,.c [1,1]] ?_)
 refine gC (some 12) [] Tryz.call46 (cause_NewE 13 (by decide)) ?_
 exact gX [] (gJ [0] ⟨rfl,rfl⟩)
theorem gTold3(c:Cfg)(g:Nat)(cl ep sl wd sn bk fl cm:Int)(er:Value):
  Ctr Tryz.prog 113 #[vP g] [Edbf2d g c cl ep sl wd (.func (.func 200) #[vP g] #[]) sn bk fl cm er] (Ret (.tuple #[vI 0,.iface 42 (vI 13)]) [Edbf2d g c cl ep sl wd (.func (.func 200) #[vP g] #[]) sn bk fl cm er]):=by
 refine cB B113 21 Tryz.func113 ?_
 intro F
 refine gX [.z [0,1,1,0,0,1] 1 [0,9]] (gS [.o [0,1,1,0,0,1] 1,.c [1,1,1,0,0,1],.b 0,.c [1,1]] ?_)
 refine gC (some 10) [0] Tryz.call126 (gDone3 c g cl ep sl wd sn bk fl cm er) ?_
 refine gX [.z q32_0 0 []] (gS [.o q32_0 0,.c q32_1,.b 0,.c [1,1]] ?_)
 refine gC (some 12) [] Tryz.call46 (cause_NewE 13 (by decide)) ?_
 exact gX [] (gJ [0] ⟨rfl,rfl⟩)
theorem guard_Told(c:Cfg)(g:Nat)(G:Gu)(hph:G.ph≤3):
  Ctr Tryz.prog 113 #[vP g] [Ea7eb0 g c G g] (Ret (.tuple #[vI ((Gu.told G).1),(errV (Gu.told G).2)]) [Ea7eb0 g c G g]):=by
 obtain⟨cl,ep,sl,wd,sn,bk,fl,cm,cd,ph⟩:=G
 simp only at hph
 match ph,hph with
 | 0,_=>exact gTold0 c g cl ep sl wd sn bk fl cm (errV cd)
 | 1,_=>exact gTold1 c g cl ep sl wd sn bk fl cm (errV cd)
 | 2,_=>exact gTold2 c g cl ep sl wd sn bk fl cm (errV cd)
 | 3,_=>exact gTold3 c g cl ep sl wd sn bk fl cm (errV cd)
 | n+4,h=>omega
noncomputable def B58: Code:=(Tryz.f58.body).getD .skip
theorem guard_New(c:Cfg)(cl sl tp ep:Int)(hc:c.Ok)(hcl:0≤cl∧cl<c.clients)(hsl:0≤sl∧sl<c.slots)(htp:0≤tp∧tp<c.topics):
  Ctr Tryz.prog 58 #[cfgV c,vI cl,vI sl,vI tp,vI ep] [] (fun v L => ∃(g:Nat),v=vP g∧L=[Ea7eb0 g c (newGu c cl sl tp ep) g]):=by
 refine cB B58 46 Tryz.func58 ?_
 intro F
 refine gX [.z [0,1] 0 [1,2,3,4,5]] (gN fun b_1=>gW (ks:=[.c [0,1],.c [1,1]]) [(1,vI cl),(2,vI sl),(3,vI tp),(4,vI ep),(5,vP b_1)] [Efdc04 b_1 c] ?_)
 refine tO (kV 0 [.e 0,.ww,.ww,.e 0,.ww,.q (vI (slotAt c sl)),.e 0,.ww,.q (vI (ctlAt c tp)),.ww]) 10 (kV 11 [.ww]) .w [1,5,11] (.e b_1 (.e b_1 (.e b_1 .n))) (.c Tryz.call111 (qR [] (plan_Slot c sl oM)) (.c Tryz.call48 (qR [] (plan_Control c tp oM)) .n)) (sN fun b_2=>(sV ?_))
 refine tN .n ?_
 refine gX [.z [0,0,1,1] 0 [1,5,11]] (gS [.c [0,0,1,1],.c [1,0,1,1],.c [1,1,1]] ?_)
 refine qG (kV 0 [.ww,.ww,.ww,.e 1,.ww,.ww,.ww,.e 1,.ww,.ww,.t false,.ww,.ww,.ww,.e 0,.t false,.ww]) [11,39] (.e b_2 (.e b_2 (.p ((decide ((bMin (bMin (slotAt c sl) (ctlAt c tp)) cl)<0))=false) (decide_eq_false (by have h1:=ctlAt_pos hc htp; have h2:=slotAt_ok hc hsl; unfold bMin; (repeat' split) <;> omega)) (.e b_1 (.p ((decide (cl≥c.clients))=false) (decide_eq_false (by omega)) .n))))) .n ?_
 exact gX [.e 1] (gQ b_2 (gJ [1] ⟨b_2,rfl,rfl⟩))
end Go.Proofs.YtpcaijopodhdgaaGreatDoor
namespace Go.Proofs.YtpcaijopodhdgaaGreatDoor
open Go.Sx
abbrev q36_12: List Nat:=[0,1,0,1,1,1,1,1]
abbrev q36_13: List Nat:=[0,1,0,1,1,1,1,1,1]
abbrev q36_14: List Nat:=[1,1,1,1,1,1,1]
abbrev q36_15: List Nat:=[0,0,0,0,1,0,1,1,1,1,1,1]
abbrev q36_16: List Nat:=[1,0,0,0,1,0,1,1,1,1,1,1]
abbrev q36_17: List Nat:=[1,0,0,1,0,1,1,1,1,1,1]
abbrev q36_18: List Nat:=[0,0,0,1,0,0,1,0,1,1,1,1,1,1]
abbrev q36_19: List Nat:=[0,1,0,1,1,1,1,1,1,1]
abbrev q36_20: List Nat:=[1,0,0,1,0,0,1,0,1,1,1,1,1,1]
abbrev q36_21: List Nat:=[1,1,0,0,1,0,1,1,1,1,1,1]
abbrev q36_22: List Nat:=[0,1,0,0,1,0,0,1,0,1,1,1,1,1,1]
abbrev q36_23: List Nat:=[1,1,1,1,1,1,1,1]
noncomputable def B79: Code:=(Tryz.f79.body).getD .skip
theorem ref_Control(c:Cfg)(i:Int)(hc:c.Ok)(hi:0≤i∧i<c.topics):
  Ctr Tryz.prog 79 #[cfgV c,vI i] [] (Ret (vI (ctlAt c i)) []):=by
 refine cB B79 26 Tryz.func79 ?_
 intro F
 exact gX [.sp [7,6] [.dead] [.e 0,.sp [12,11] [.dead] [.e 0,.n,.e 0,.n,.e 0,.n,.n,.n,.n]]] (gN fun b_1=>gQ (decide (i<0)) (gF (decide (i<0)) (by first | (simp; done) | (simp; omega)) (gQ b_1 (gQ (decide (i≥c.topics)) (gF (decide (i≥c.topics)) (by first | (simp; done) | (simp; omega)) (gQ b_1 (gO (InK .i64 (5+c.slots)) (by have hnl:=ctl_nl hc hi; simp only [Cfg.Ok,InK] at *; omega) (gQ b_1 (gO (InK .i64 ((5+c.slots)+c.topics)) (by have hnl:=ctl_nl hc hi; simp only [Cfg.Ok,InK] at *; omega) (gQ b_1 (gO (InK .i64 (2*c.small)) (by have hnl:=ctl_nl hc hi; simp only [Cfg.Ok,InK] at *; omega) (gO (InK .i64 (1+(2*c.small))) (by have hnl:=ctl_nl hc hi; simp only [Cfg.Ok,InK] at *; omega) (gO (InK .i64 (i*(1+(2*c.small)))) (by have hnl:=ctl_nl hc hi; simp only [Cfg.Ok,InK] at *; omega) (gO (InK .i64 (((5+c.slots)+c.topics)+(i*(1+(2*c.small))))) (by have hnl:=ctl_nl hc hi; simp only [Cfg.Ok,InK] at *; omega) (gI (vI (((5+c.slots)+c.topics)+(i*(1+(2*c.small))))) [] ⟨(congrArg (Value.int .i64) (by unfold ctlAt; rw [if_pos hi])),rfl⟩)))))))))))))))
theorem ref_PackX(c:Cfg)(hc:c.Ok):
  Ctr Tryz.prog 131 #[cfgV c] [] (Ret (vU (rpackW c)) []):=by
 refine cB B131 26 Tryz.func131 ?_
 intro F
 refine gX [.e 0,.z [0,1] 1 [1,7]] (gN fun b_1=>gQ b_1 (gS [.o [0,1] 1,.c [1,1]] ?_))
 refine gC (some 8) [] Tryz.call67 (ref_right c oM) ?_
 refine gX [.e 0,.z [0,1,1,1] 1 [11]] (gQ b_1 (gS [.o [0,1,1,1] 1,.c [1,1,1,1]] ?_))
 refine go_call (some 12) [] Tryz.call170 (ref_Parts c) kR ?_
 rintro v post ⟨b_2,rfl,rfl⟩
 exact gX [.u,.w,.w,.e 1,.n,.n,.w,.u,.n,.w,.e 1,.n,.n,.w,.u,.n,.w,.e 1,.n,.n,.w,.u,.n,.w,.e 1,.n,.n,.w,.u,.n,.w,.e 1,.n,.n,.w,.u,.n,.w,.e 1,.n,.n,.w,.u,.n,.w,.e 1,.n,.n,.w,.u,.n,.w,.e 1,.n,.n,.w,.u,.n,.w,.e 1,.n,.n,.w,.u] (gQ b_2 (gO (InK .u64 c.n1) (by simp only [Cfg.Ok,InK] at *; omega) (gO (InK .u64 (0+c.n1)) (by simp only [Cfg.Ok,InK] at *; omega) (gO (InK .u64 ((0+c.n1)*128)) (by simp only [Cfg.Ok,InK] at *; omega) (gQ b_2 (gO (InK .u64 c.s1) (by simp only [Cfg.Ok,InK] at *; omega) (gO (InK .u64 (((0+c.n1)*128)+c.s1)) (by simp only [Cfg.Ok,InK] at *; omega) (gO (InK .u64 ((((0+c.n1)*128)+c.s1)*128)) (by simp only [Cfg.Ok,InK] at *; omega) (gQ b_2 (gO (InK .u64 c.n0) (by simp only [Cfg.Ok,InK] at *; omega) (gO (InK .u64 (((((0+c.n1)*128)+c.s1)*128)+c.n0)) (by simp only [Cfg.Ok,InK] at *; omega) (gO (InK .u64 ((((((0+c.n1)*128)+c.s1)*128)+c.n0)*128)) (by simp only [Cfg.Ok,InK] at *; omega) (gQ b_2 (gO (InK .u64 c.s0) (by simp only [Cfg.Ok,InK] at *; omega) (gO (InK .u64 (((((((0+c.n1)*128)+c.s1)*128)+c.n0)*128)+c.s0)) (by simp only [Cfg.Ok,InK] at *; omega) (gO (InK .u64 ((((((((0+c.n1)*128)+c.s1)*128)+c.n0)*128)+c.s0)*128)) (by simp only [Cfg.Ok,InK] at *; omega) (gQ b_2 (gO (InK .u64 c.retry) (by simp only [Cfg.Ok,InK] at *; omega) (gO (InK .u64 (((((((((0+c.n1)*128)+c.s1)*128)+c.n0)*128)+c.s0)*128)+c.retry)) (by simp only [Cfg.Ok,InK] at *; omega) (gO (InK .u64 ((((((((((0+c.n1)*128)+c.s1)*128)+c.n0)*128)+c.s0)*128)+c.retry)*128)) (by simp only [Cfg.Ok,InK] at *; omega) (gQ b_2 (gO (InK .u64 c.clients) (by simp only [Cfg.Ok,InK] at *; omega) (gO (InK .u64 (((((((((((0+c.n1)*128)+c.s1)*128)+c.n0)*128)+c.s0)*128)+c.retry)*128)+c.clients)) (by simp only [Cfg.Ok,InK] at *; omega) (gO (InK .u64 ((((((((((((0+c.n1)*128)+c.s1)*128)+c.n0)*128)+c.s0)*128)+c.retry)*128)+c.clients)*128)) (by simp only [Cfg.Ok,InK] at *; omega) (gQ b_2 (gO (InK .u64 c.slots) (by simp only [Cfg.Ok,InK] at *; omega) (gO (InK .u64 (((((((((((((0+c.n1)*128)+c.s1)*128)+c.n0)*128)+c.s0)*128)+c.retry)*128)+c.clients)*128)+c.slots)) (by simp only [Cfg.Ok,InK] at *; omega) (gO (InK .u64 ((((((((((((((0+c.n1)*128)+c.s1)*128)+c.n0)*128)+c.s0)*128)+c.retry)*128)+c.clients)*128)+c.slots)*128)) (by simp only [Cfg.Ok,InK] at *; omega) (gQ b_2 (gO (InK .u64 c.small) (by simp only [Cfg.Ok,InK] at *; omega) (gO (InK .u64 (((((((((((((((0+c.n1)*128)+c.s1)*128)+c.n0)*128)+c.s0)*128)+c.retry)*128)+c.clients)*128)+c.slots)*128)+c.small)) (by simp only [Cfg.Ok,InK] at *; omega) (gO (InK .u64 ((((((((((((((((0+c.n1)*128)+c.s1)*128)+c.n0)*128)+c.s0)*128)+c.retry)*128)+c.clients)*128)+c.slots)*128)+c.small)*128)) (by simp only [Cfg.Ok,InK] at *; omega) (gQ b_2 (gO (InK .u64 c.topics) (by simp only [Cfg.Ok,InK] at *; omega) (gO (InK .u64 (((((((((((((((((0+c.n1)*128)+c.s1)*128)+c.n0)*128)+c.s0)*128)+c.retry)*128)+c.clients)*128)+c.slots)*128)+c.small)*128)+c.topics)) (by simp only [Cfg.Ok,InK] at *; omega) (gR (vU (((((((((((((((((0+c.n1)*128)+c.s1)*128)+c.n0)*128)+c.s0)*128)+c.retry)*128)+c.clients)*128)+c.slots)*128)+c.small)*128)+c.topics)) [] ⟨rfl,rfl⟩))))))))))))))))))))))))))))))))))))
noncomputable def B68: Code:=(Tryz.f68.body).getD .skip
theorem ref_MakeX(c:Cfg)(hc:c.Ok):
  Ctr Tryz.prog 68 #[cfgV c] [] (fun v L => ∃(ra:Nat) (aw:Option Addr) (cw:Nat),v=vP ra∧L=[E99bbc ra (rmAr c (rpackW c) aw cw) false 0,E35fb1 (rmAr c (rpackW c) aw cw)]):=by
 refine cB B68 109 Tryz.func68 ?_
 intro F
 refine gX [.e 0,.z [0,1] 1 [1,6]] (gN fun b_1=>gQ b_1 (gS [.o [0,1] 1,.c [1,1]] ?_))
 refine gC (some 7) [] Tryz.call130 (ref_Size c oM) ?_
 refine go_call (some 8) [] Tryz.call129 (ref_New (sizeOfC c) (by have:=sizeOfC_ok hc; omega)) kR ?_
 rintro v post ⟨ra_2,aw_3,cw_4,rfl,rfl⟩
 refine go_exec (rs:=[.tmp 2]) kR 4000 [.e 1,.s 2,.j 2 0,.z [0,1,1,1] 0 [1,3]] (o:=.obl (ra_2=ra_2) (.obl (aw_3=aw_3∧(List.replicate (sizeOfC c).toNat (0:Int)).length=(List.replicate (sizeOfC c).toNat (0:Int)).length) (.obl ((0:Int)≤0∧0<(((List.replicate (sizeOfC c).toNat (0:Int)).length:Nat):Int)) (.obl (slAt aw_3 0 1=slAt aw_3 0 1) (.obl (0<(List.replicate (sizeOfC c).toNat (0:Int)).length) (.ex fun x_5:Int=>.obl ([vU 7597137583116413295]=(encI .u64) x_5) (.stop [.c [0,1,1,1],.c [1,1,1,1]] [(1,vP b_1),(3,vP ra_2)] [Efdc04 b_1 c,E4d1fc ra_2 aw_3 ((List.replicate (sizeOfC c).toNat (0:Int)).length) cw_4 0 0 0 0 false false 0,E54ea0 aw_3 cw_4 ((List.replicate (sizeOfC c).toNat (0:Int)).set 0 x_5)]))))))) kR ?_
 refine ok_obl rfl ?_
 refine ok_obl ⟨rfl,(by first | rfl | omega | (simp; done) | (simp; omega))⟩ ?_
 refine ok_obl (by have:=sizeOfC_ok hc; first | omega | (simp; omega) | (have hq:=blockAt_ok hc (clsOf_pos (c:=c) (b:=i1.1) (by omega)); first | omega | (simp; omega))) ?_
 refine ok_obl rfl ?_
 refine ok_obl (by have:=sizeOfC_ok hc; first | omega | (simp; omega) | (have hq:=blockAt_ok hc (clsOf_pos (c:=c) (b:=i1.1) (by omega)); first | omega | (simp; omega))) ?_
 refine ok_ex (7597137583116413295:Int) ?_
 refine ok_obl rfl ?_
 refine ok_stop ?_
 refine go_tail_op (so:=.obl (slAt aw_3 1 1=slAt aw_3 1 1) (.obl (1<((List.replicate (sizeOfC c).toNat (0:Int)).set 0 7597137583116413295).length) (.ex fun x_6:Int=>.obl ([vU (rpackW c)]=(encI .u64) x_6) (.ok .skip [Efdc04 b_1 c,E4d1fc ra_2 aw_3 ((List.replicate (sizeOfC c).toNat (0:Int)).length) cw_4 0 0 0 0 false false 0,E54ea0 aw_3 cw_4 (((List.replicate (sizeOfC c).toNat (0:Int)).set 0 7597137583116413295).set 1 x_6)])))) (dst:=none) (ps:=[ra_2=ra_2,b_1=b_1,aw_3=aw_3∧(List.replicate (sizeOfC c).toNat (0:Int)).length=((List.replicate (sizeOfC c).toNat (0:Int)).set 0 7597137583116413295).length,(0:Int)≤1∧1<((((List.replicate (sizeOfC c).toNat (0:Int)).set 0 7597137583116413295).length:Nat):Int)]) (cs:=[(131,#[cfgV c],vU (rpackW c))]) [(0,.h .w),(1,.h .w),(2,.h .w),(3,.h (.e 1)),(4,.h (.e 0)),(5,.q (vU (rpackW c))),(6,.h (.s 2))] 7 [] (.j 2 1) [1,3] kR kR ⟨rfl,rfl,⟨rfl,(by first | rfl | omega | (simp; done) | (simp; omega))⟩,(by have:=sizeOfC_ok hc; first | omega | (simp; omega) | (have hq:=blockAt_ok hc (clsOf_pos (c:=c) (b:=i1.1) (by omega)); first | omega | (simp; omega))),trivial⟩ ⟨⟨Tryz.call131,quiet_of [] (ref_PackX c oM) kR (by rintro v post ⟨rfl,rfl⟩; exact⟨rfl,rfl⟩)⟩,trivial⟩ ?_
 refine sat_obl rfl ?_
 refine sat_obl (by have:=sizeOfC_ok hc; first | omega | (simp; omega) | (have hq:=blockAt_ok hc (clsOf_pos (c:=c) (b:=i1.1) (by omega)); first | omega | (simp; omega))) ?_
 refine sat_ex ((rpackW c):Int) ?_
 refine sat_obl rfl ?_
 refine sat_skip ?_
 refine tail_next (tm':=[(1,vP b_1),(3,vP ra_2)]) (ps2:=[]) kR trivial ?_
 refine gE [(1,vP b_1),(3,vP ra_2)] [Efdc04 b_1 c,E4d1fc ra_2 aw_3 ((List.replicate (sizeOfC c).toNat (0:Int)).length) cw_4 0 0 0 0 false false 0,E54ea0 aw_3 cw_4 (((List.replicate (sizeOfC c).toNat (0:Int)).set 0 7597137583116413295).set 1 (rpackW c))] ?_
 refine go_exec (rs:=[.tmp 2]) kR 4000 [.w,.e 0,.sp [25] [.e 1,.s 2,.j 2 3,.w,.e 0,.sp [35] [.z q36_12 0 [1,3]] [.z q36_13 0 [1,3,4]]] [.w,.e 0,.sp [35] [.z q36_12 0 [1,3]] [.z q36_13 0 [1,3,4]]]] (o:=.obl (b_1=b_1) (.br (decide (c.n0>0)) (.obl (ra_2=ra_2) (.obl (aw_3=aw_3∧(List.replicate (sizeOfC c).toNat (0:Int)).length=(((List.replicate (sizeOfC c).toNat (0:Int)).set 0 7597137583116413295).set 1 (rpackW c)).length) (.obl ((0:Int)≤3∧3<(((((List.replicate (sizeOfC c).toNat (0:Int)).set 0 7597137583116413295).set 1 (rpackW c)).length:Nat):Int)) (.obl (slAt aw_3 3 1=slAt aw_3 3 1) (.obl (3<(((List.replicate (sizeOfC c).toNat (0:Int)).set 0 7597137583116413295).set 1 (rpackW c)).length) (.ex fun x_7:Int=>.obl ([vU 1]=(encI .u64) x_7) (.obl (b_1=b_1) (.br (decide (c.n1>0)) (.stop [.c q36_12,.c [1,1,1,1,1,1]] [(1,vP b_1),(3,vP ra_2)] [Efdc04 b_1 c,E4d1fc ra_2 aw_3 ((List.replicate (sizeOfC c).toNat (0:Int)).length) cw_4 0 0 0 0 false false 0,E54ea0 aw_3 cw_4 ((((List.replicate (sizeOfC c).toNat (0:Int)).set 0 7597137583116413295).set 1 (rpackW c)).set 3 x_7)]) (.stop [.c q36_13,.b 0,.c q36_14] [(1,vP b_1),(3,vP ra_2),(4,vI 1)] [Efdc04 b_1 c,E4d1fc ra_2 aw_3 ((List.replicate (sizeOfC c).toNat (0:Int)).length) cw_4 0 0 0 0 false false 0,E54ea0 aw_3 cw_4 ((((List.replicate (sizeOfC c).toNat (0:Int)).set 0 7597137583116413295).set 1 (rpackW c)).set 3 x_7)]))))))))) (.obl (b_1=b_1) (.br (decide (c.n1>0)) (.stop [.c q36_12,.c [1,1,1,1,1,1]] [(1,vP b_1),(3,vP ra_2)] [Efdc04 b_1 c,E4d1fc ra_2 aw_3 ((List.replicate (sizeOfC c).toNat (0:Int)).length) cw_4 0 0 0 0 false false 0,E54ea0 aw_3 cw_4 (((List.replicate (sizeOfC c).toNat (0:Int)).set 0 7597137583116413295).set 1 (rpackW c))]) (.stop [.c q36_13,.b 0,.c q36_14] [(1,vP b_1),(3,vP ra_2),(4,vI 1)] [Efdc04 b_1 c,E4d1fc ra_2 aw_3 ((List.replicate (sizeOfC c).toNat (0:Int)).length) cw_4 0 0 0 0 false false 0,E54ea0 aw_3 cw_4 (((List.replicate (sizeOfC c).toNat (0:Int)).set 0 7597137583116413295).set 1 (rpackW c))]))))) kR ?_
 refine ok_obl rfl ?_
 refine ok_br (fun h_8 => ?_) (fun h_8 => ?_)
 ·replace h_8:=decT h_8
  refine ok_obl rfl ?_
  refine ok_obl ⟨rfl,(by first | rfl | omega | (simp; done) | (simp; omega))⟩ ?_
  refine ok_obl (by have:=sizeOfC_ok hc; first | omega | (simp; omega) | (have hq:=blockAt_ok hc (clsOf_pos (c:=c) (b:=i1.1) (by omega)); first | omega | (simp; omega))) ?_
  refine ok_obl rfl ?_
  refine ok_obl (by have:=sizeOfC_ok hc; first | omega | (simp; omega) | (have hq:=blockAt_ok hc (clsOf_pos (c:=c) (b:=i1.1) (by omega)); first | omega | (simp; omega))) ?_
  refine ok_ex (1:Int) ?_
  refine ok_obl rfl ?_
  refine ok_obl rfl ?_
  refine ok_br (fun h_9 => ?_) (fun h_9 => ?_)
  ·replace h_9:=decT h_9
   refine ok_stop ?_
   refine go_tail_op (so:=.obl (slAt aw_3 4 1=slAt aw_3 4 1) (.obl (4<((((List.replicate (sizeOfC c).toNat (0:Int)).set 0 7597137583116413295).set 1 (rpackW c)).set 3 1).length) (.ex fun x_10:Int=>.obl ([vU (c.n0+1)]=(encI .u64) x_10) (.ok .skip [Efdc04 b_1 c,E4d1fc ra_2 aw_3 ((List.replicate (sizeOfC c).toNat (0:Int)).length) cw_4 0 0 0 0 false false 0,E54ea0 aw_3 cw_4 (((((List.replicate (sizeOfC c).toNat (0:Int)).set 0 7597137583116413295).set 1 (rpackW c)).set 3 1).set 4 x_10)])))) (dst:=none) (ps:=[ra_2=ra_2,b_1=b_1,InK .i64 (c.n0+1),InK .u64 (c.n0+1),aw_3=aw_3∧(List.replicate (sizeOfC c).toNat (0:Int)).length=((((List.replicate (sizeOfC c).toNat (0:Int)).set 0 7597137583116413295).set 1 (rpackW c)).set 3 1).length,(0:Int)≤4∧4<((((((List.replicate (sizeOfC c).toNat (0:Int)).set 0 7597137583116413295).set 1 (rpackW c)).set 3 1).length:Nat):Int)]) (cs:=[]) [(0,.h .w),(1,.h .w),(2,.h .w),(3,.h (.e 1)),(4,.h .w),(5,.h (.w)),(6,.h .w),(7,.h (.e 0)),(8,.h (.n)),(9,.h (.n)),(10,.h (.s 2))] 11 [] (.j 2 4) [1,3] kR kR ⟨rfl,rfl,(by have hsz:=sizeOfC_ok hc; simp only [Cfg.Ok,InK] at *; first | done | omega),(by have hsz:=sizeOfC_ok hc; simp only [Cfg.Ok,InK] at *; first | done | omega),⟨rfl,(by first | rfl | omega | (simp; done) | (simp; omega))⟩,(by have:=sizeOfC_ok hc; first | omega | (simp; omega) | (have hq:=blockAt_ok hc (clsOf_pos (c:=c) (b:=i1.1) (by omega)); first | omega | (simp; omega))),trivial⟩ trivial ?_
   refine sat_obl rfl ?_
   refine sat_obl (by have:=sizeOfC_ok hc; first | omega | (simp; omega) | (have hq:=blockAt_ok hc (clsOf_pos (c:=c) (b:=i1.1) (by omega)); first | omega | (simp; omega))) ?_
   refine sat_ex ((c.n0+1):Int) ?_
   refine sat_obl rfl ?_
   refine sat_skip ?_
   refine tail_next (tm':=[(1,vP b_1),(3,vP ra_2)]) (ps2:=[]) kR trivial ?_
   refine gX [.z q36_13 0 [1,3,4]] (gS [.c q36_13,.b 0,.c q36_14] ?_)
   refine go_loop (ι := Int×List Int) (fun i1=>[(1,vP b_1),(3,vP ra_2),(4,vI i1.1)]) (fun i1=>[Efdc04 b_1 c,E4d1fc ra_2 aw_3 ((List.replicate (sizeOfC c).toNat (0:Int)).length) cw_4 0 0 0 0 false false 0,E54ea0 aw_3 cw_4 i1.2]) (fun i1=>rmLink c (c.n0+c.n1-i1.1).toNat i1.1 i1.2=rmLink c (c.n0+c.n1-1).toNat 1 (rmHead c (rpackW c))∧1≤i1.1∧i1.2.length=(List.replicate (sizeOfC c).toNat (0:Int)).length) (fun i1=>(c.n0+c.n1-i1.1).toNat) (1,((((List.replicate (sizeOfC c).toNat (0:Int)).set 0 7597137583116413295).set 1 (rpackW c)).set 3 1).set 4 (c.n0+1)) [1,3,4] [0,1,2] kR kR kR kR ⟨(by dsimp only; congr 1; unfold rmHead; dsimp only; (repeat' split) <;> first | rfl | (exfalso; omega)),(by dsimp only; omega),(by simp)⟩ ?_
   intro i1 J_11 hIJ_11 hJ_11
   have hx1:=hIJ_11
   have hlen1:=hx1.2.2
   have hN1:(((List.replicate (sizeOfC c).toNat (0:Int)).length:Nat):Int)=sizeOfC c:=by have:=sizeOfC_ok hc; rw [List.length_replicate]; omega
   refine gX [.e 0,.z q36_15 2 [1,3,4,47,48]] (gQ b_1 (gS [.o q36_15 2,.c q36_16,.c q36_17,.j J_11,.b 0,.c q36_14] ?_))
   refine gC (some 49) [] Tryz.call37 (ref_Blocks c oM) ?_
   refine gX [.sp [50] [.z q36_18 0 [1,3,4]] [.z q36_19 0 [3,5]]] (gB (decide (i1.1<(c.n0+c.n1))) (fun h_12 => ?_) (fun h_12 => ?_))
   ·replace h_12:=decT h_12
    refine gS [.c q36_18,.c q36_20,.b 1,.c q36_21,.j J_11,.b 0,.c q36_14] ?_
    refine qG (kV 0 [.e 0,.ww,.q (vI (clsOf c i1.1)),.e 0,.ww,.h (.n),.q (vI (clsOf c (i1.1+1))),.ww]) [1,3,4,60] (.e b_1 (.e b_1 (.p (InK .i64 (i1.1+1)) (by have hsz:=sizeOfC_ok hc; simp only [Cfg.Ok,InK] at *; first | done | omega) .n))) (.c Tryz.call98 (qR [] (ref_Class c i1.1 oM)) (.c Tryz.call98 (qR [] (ref_Class c (i1.1+1) oM)) .n)) ?_
    refine gX [.sp [60] [.z q36_22 0 [1,3,4]] [.n,.z [] 0 [1,3,4]]] (gB ((clsOf c i1.1)==(clsOf c (i1.1+1))) (fun h_13 => ?_) (fun h_13 => ?_))
    ·replace h_13:=beqT h_13
     refine gW (ks:=[.c q36_22,.b 1,.c q36_21,.j J_11,.b 0,.c q36_14]) [(1,vP b_1),(3,vP ra_2),(4,vI i1.1)] [Efdc04 b_1 c,E4d1fc ra_2 aw_3 ((List.replicate (sizeOfC c).toNat (0:Int)).length) cw_4 0 0 0 0 false false 0,E54ea0 aw_3 cw_4 i1.2] ?_
     refine go_tail_op (so:=.obl (slAt aw_3 ((blockAt c i1.1).toNat) 1=slAt aw_3 ((blockAt c i1.1).toNat) 1) (.obl ((blockAt c i1.1).toNat<i1.2.length) (.ex fun x_14:Int=>.obl ([vU (i1.1+1)]=(encI .u64) x_14) (.ok .skip [Efdc04 b_1 c,E4d1fc ra_2 aw_3 ((List.replicate (sizeOfC c).toNat (0:Int)).length) cw_4 0 0 0 0 false false 0,E54ea0 aw_3 cw_4 (i1.2.set ((blockAt c i1.1).toNat) x_14)])))) (dst:=none) (ps:=[ra_2=ra_2,b_1=b_1,InK .i64 (i1.1+1),InK .u64 (i1.1+1),aw_3=aw_3∧(List.replicate (sizeOfC c).toNat (0:Int)).length=i1.2.length,(0:Int)≤(blockAt c i1.1)∧(blockAt c i1.1)<((i1.2.length:Nat):Int)]) (cs:=[(85,#[cfgV c,vI i1.1],vI (blockAt c i1.1))]) [(0,.h .w),(1,.h .w),(2,.h .w),(3,.h (.e 1)),(4,.h (.e 0)),(5,.h .w),(6,.q (vI (blockAt c i1.1))),(7,.h .w),(8,.h (.n)),(9,.h (.n)),(10,.h (.s 2))] 11 [] (.j 2 ((blockAt c i1.1).toNat)) [1,3,4] kR kR ⟨rfl,rfl,(by have hsz:=sizeOfC_ok hc; simp only [Cfg.Ok,InK] at *; first | done | omega),(by have hsz:=sizeOfC_ok hc; simp only [Cfg.Ok,InK] at *; first | done | omega),⟨rfl,(by first | rfl | omega | (simp; done) | (simp; omega))⟩,(by have:=sizeOfC_ok hc; first | omega | (simp; omega) | (have hq:=blockAt_ok hc (clsOf_pos (c:=c) (b:=i1.1) (by omega)); first | omega | (simp; omega))),trivial⟩ ⟨⟨Tryz.call85,quiet_of [] (ref_Block c i1.1 oM (by omega)) kR (by rintro v post ⟨rfl,rfl⟩; exact⟨rfl,rfl⟩)⟩,trivial⟩ ?_
     refine sat_obl rfl ?_
     refine sat_obl (by have:=sizeOfC_ok hc; first | omega | (simp; omega) | (have hq:=blockAt_ok hc (clsOf_pos (c:=c) (b:=i1.1) (by omega)); first | omega | (simp; omega))) ?_
     refine sat_ex ((i1.1+1):Int) ?_
     refine sat_obl rfl ?_
     refine sat_skip ?_
     refine tail_next (tm':=[(1,vP b_1),(3,vP ra_2),(4,vI i1.1)]) (ps2:=[]) kR trivial ?_
     refine gX [.n,.z [] 0 [1,3,4]] (gO (InK .i64 (i1.1+1)) (by have hsz:=sizeOfC_ok hc; simp only [Cfg.Ok,InK] at *; first | done | omega) (gS [.j J_11,.b 0,.c q36_14] ?_))
     exact go_back hJ_11 ((i1.1+1),i1.2.set ((blockAt c i1.1).toNat) (i1.1+1)) [0,1,2] kR kR kR ⟨(by dsimp only; rw [←hx1.1,rmLink_next (c:=c) (b:=i1.1) (W:=i1.2) (by omega),if_pos (by assumption)]),(by dsimp only; omega),(by dsimp only; first | exact hx1.2.2 | (rw [List.length_set]; exact hx1.2.2))⟩ (by dsimp only; omega)
    ·replace h_13:=beqF h_13
     refine gO (InK .i64 (i1.1+1)) (by have hsz:=sizeOfC_ok hc; simp only [Cfg.Ok,InK] at *; first | done | omega) (gS [.j J_11,.b 0,.c q36_14] ?_)
     exact go_back hJ_11 ((i1.1+1),i1.2) [0,1,2] kR kR kR ⟨(by dsimp only; rw [←hx1.1,rmLink_next (c:=c) (b:=i1.1) (W:=i1.2) (by omega),if_neg (by assumption)]),(by dsimp only; omega),(by dsimp only; first | exact hx1.2.2 | (rw [List.length_set]; exact hx1.2.2))⟩ (by dsimp only; omega)
   ·replace h_12:=decF h_12
    refine gS [.c q36_19,.b 2,.c q36_23] ?_
    refine go_loop (ι := Int×Ar) (fun i2=>[(3,vP ra_2),(5,vI i2.1)]) (fun i2=>[E99bbc ra_2 i2.2 false 0,E35fb1 i2.2]) (fun i2=>rmCnt (sizeOfC c-i2.1).toNat i2.1 i2.2=rmAr c (rpackW c) aw_3 cw_4∧(0≤i2.1∧i2.1≤sizeOfC c)∧i2.2.ws.length=i2.2.n∧(i2.2.n:Int)=sizeOfC c∧(0≤i2.2.steps∧i2.2.steps≤i2.1)) (fun i2=>(sizeOfC c-i2.1).toNat) (0,(⟨aw_3,cw_4,(List.replicate (sizeOfC c).toNat (0:Int)).length,i1.2,0,0,0,0,false⟩:Ar)) [3,5] [1,2] kR kR kR kR ⟨(by dsimp only; unfold rmAr; rw [←hx1.1,rmLink_end (c:=c) (b:=i1.1) (W:=i1.2) (by omega),Int.sub_zero]),(by have:=sizeOfC_ok hc; dsimp only; omega),hlen1,hN1,(by dsimp only; omega)⟩ ?_
    intro i2 J_15 hIJ_15 hJ_15
    have hx2:=hIJ_15
    have hn2:=hx2.2.2.1
    have hz2:=hx2.2.2.2.1
    have hs2:=hx2.2.2.2.2
    refine gX [.e 0,.sp [78] [.e 0,.s 1,.j 1 i2.1.toNat,.sp [88] [.e 0,.n,.e 0,.e 0,.s 1,.j 1 i2.1.toNat,.e 0,.n,.z [] 0 [3,5]] [.n,.z [] 0 [3,5]]] []] (gQ ra_2 (gB (decide (i2.1<((i2.2.n:Nat):Int))) (fun h_16 => ?_) (fun h_16 => ?_)))
    ·replace h_16:=decT h_16
     refine gQ ra_2 (gO (i2.2.aw=i2.2.aw∧i2.2.n=i2.2.ws.length) ⟨rfl,(by first | rfl | omega | (simp; done) | (simp; omega))⟩ (gO ((0:Int)≤i2.1∧i2.1<((i2.2.ws.length:Nat):Int)) (by have:=sizeOfC_ok hc; first | omega | (simp; omega) | (have hq:=blockAt_ok hc (clsOf_pos (c:=c) (b:=i1.1) (by omega)); first | omega | (simp; omega))) (gQ (slAt i2.2.aw i2.1.toNat 1) (gO (i2.1.toNat<i2.2.ws.length) (by have:=sizeOfC_ok hc; first | omega | (simp; omega) | (have hq:=blockAt_ok hc (clsOf_pos (c:=c) (b:=i1.1) (by omega)); first | omega | (simp; omega))) (gB ((i2.2.ws.getD i2.1.toNat 0) != 0) (fun h_17 => ?_) (fun h_17 => ?_))))))
     ·replace h_17:=bneT h_17
      refine gQ ra_2 (gO (InK .i64 (i2.2.steps+1)) (by have hsz:=sizeOfC_ok hc; simp only [Cfg.Ok,InK] at *; first | done | omega) (gQ ra_2 (gQ ra_2 (gO (i2.2.aw=i2.2.aw∧i2.2.n=i2.2.ws.length) ⟨rfl,(by first | rfl | omega | (simp; done) | (simp; omega))⟩ (gO ((0:Int)≤i2.1∧i2.1<((i2.2.ws.length:Nat):Int)) (by have:=sizeOfC_ok hc; first | omega | (simp; omega) | (have hq:=blockAt_ok hc (clsOf_pos (c:=c) (b:=i1.1) (by omega)); first | omega | (simp; omega))) (gQ (slAt i2.2.aw i2.1.toNat 1) (gO (i2.1.toNat<i2.2.ws.length) (by have:=sizeOfC_ok hc; first | omega | (simp; omega) | (have hq:=blockAt_ok hc (clsOf_pos (c:=c) (b:=i1.1) (by omega)); first | omega | (simp; omega))) (gQ ra_2 (gO (InK .i64 (i2.1+1)) (by have hsz:=sizeOfC_ok hc; simp only [Cfg.Ok,InK] at *; first | done | omega) (gS [.j J_15,.b 2,.c q36_23] ?_))))))))))
      exact go_back hJ_15 ((i2.1+1),(⟨i2.2.aw,i2.2.cw,i2.2.n,i2.2.ws,(i2.2.steps+1),2,i2.1,(i2.2.ws.getD i2.1.toNat 0),true⟩:Ar)) [0,1] kR kR kR ⟨(by dsimp only; rw [←hx2.1,rmCnt_next (n:=sizeOfC c) (i:=i2.1) (A:=i2.2) (by omega),if_pos (by assumption)]),(by dsimp only; omega),hx2.2.2.1,hx2.2.2.2.1,(by dsimp only; omega)⟩ (by dsimp only; omega)
     ·replace h_17:=bneF h_17
      refine gO (InK .i64 (i2.1+1)) (by have hsz:=sizeOfC_ok hc; simp only [Cfg.Ok,InK] at *; first | done | omega) (gS [.j J_15,.b 2,.c q36_23] ?_)
      exact go_back hJ_15 ((i2.1+1),(⟨i2.2.aw,i2.2.cw,i2.2.n,i2.2.ws,i2.2.steps,i2.2.lk,i2.2.lw,i2.2.lv,i2.2.lc⟩:Ar)) [0,1] kR kR kR ⟨(by dsimp only; rw [←hx2.1,rmCnt_next (n:=sizeOfC c) (i:=i2.1) (A:=i2.2) (by omega),if_neg (fun h=>h (by assumption))]),(by dsimp only; omega),hx2.2.2.1,hx2.2.2.2.1,(by dsimp only; omega)⟩ (by dsimp only; omega)
    ·replace h_16:=decF h_16
     refine gW0 (vP ra_2) [E99bbc ra_2 i2.2 false 0,E35fb1 i2.2] ?_
     exact ret_ok (post:=[E99bbc ra_2 i2.2 false 0,E35fb1 i2.2]) [0,1] kR ⟨ra_2,aw_3,cw_4,rfl,(by rw [←hx2.1,rmCnt_end (n:=sizeOfC c) (i:=i2.1) (A:=i2.2) (by omega)])⟩
  ·replace h_9:=decF h_9
   refine ok_stop ?_
   refine go_loop (ι := Int×List Int) (fun i1=>[(1,vP b_1),(3,vP ra_2),(4,vI i1.1)]) (fun i1=>[Efdc04 b_1 c,E4d1fc ra_2 aw_3 ((List.replicate (sizeOfC c).toNat (0:Int)).length) cw_4 0 0 0 0 false false 0,E54ea0 aw_3 cw_4 i1.2]) (fun i1=>rmLink c (c.n0+c.n1-i1.1).toNat i1.1 i1.2=rmLink c (c.n0+c.n1-1).toNat 1 (rmHead c (rpackW c))∧1≤i1.1∧i1.2.length=(List.replicate (sizeOfC c).toNat (0:Int)).length) (fun i1=>(c.n0+c.n1-i1.1).toNat) (1,(((List.replicate (sizeOfC c).toNat (0:Int)).set 0 7597137583116413295).set 1 (rpackW c)).set 3 1) [1,3,4] [0,1,2] kR kR kR kR ⟨(by dsimp only; congr 1; unfold rmHead; dsimp only; (repeat' split) <;> first | rfl | (exfalso; omega)),(by dsimp only; omega),(by simp)⟩ ?_
   intro i1 J_18 hIJ_18 hJ_18
   have hx1:=hIJ_18
   have hlen1:=hx1.2.2
   have hN1:(((List.replicate (sizeOfC c).toNat (0:Int)).length:Nat):Int)=sizeOfC c:=by have:=sizeOfC_ok hc; rw [List.length_replicate]; omega
   refine gX [.e 0,.z q36_15 2 [1,3,4,47,48]] (gQ b_1 (gS [.o q36_15 2,.c q36_16,.c q36_17,.j J_18,.b 0,.c q36_14] ?_))
   refine gC (some 49) [] Tryz.call37 (ref_Blocks c oM) ?_
   refine gX [.sp [50] [.z q36_18 0 [1,3,4]] [.z q36_19 0 [3,5]]] (gB (decide (i1.1<(c.n0+c.n1))) (fun h_19 => ?_) (fun h_19 => ?_))
   ·replace h_19:=decT h_19
    refine gS [.c q36_18,.c q36_20,.b 1,.c q36_21,.j J_18,.b 0,.c q36_14] ?_
    refine qG (kV 0 [.e 0,.ww,.q (vI (clsOf c i1.1)),.e 0,.ww,.h (.n),.q (vI (clsOf c (i1.1+1))),.ww]) [1,3,4,60] (.e b_1 (.e b_1 (.p (InK .i64 (i1.1+1)) (by have hsz:=sizeOfC_ok hc; simp only [Cfg.Ok,InK] at *; first | done | omega) .n))) (.c Tryz.call98 (qR [] (ref_Class c i1.1 oM)) (.c Tryz.call98 (qR [] (ref_Class c (i1.1+1) oM)) .n)) ?_
    refine gX [.sp [60] [.z q36_22 0 [1,3,4]] [.n,.z [] 0 [1,3,4]]] (gB ((clsOf c i1.1)==(clsOf c (i1.1+1))) (fun h_20 => ?_) (fun h_20 => ?_))
    ·replace h_20:=beqT h_20
     refine gW (ks:=[.c q36_22,.b 1,.c q36_21,.j J_18,.b 0,.c q36_14]) [(1,vP b_1),(3,vP ra_2),(4,vI i1.1)] [Efdc04 b_1 c,E4d1fc ra_2 aw_3 ((List.replicate (sizeOfC c).toNat (0:Int)).length) cw_4 0 0 0 0 false false 0,E54ea0 aw_3 cw_4 i1.2] ?_
     refine go_tail_op (so:=.obl (slAt aw_3 ((blockAt c i1.1).toNat) 1=slAt aw_3 ((blockAt c i1.1).toNat) 1) (.obl ((blockAt c i1.1).toNat<i1.2.length) (.ex fun x_21:Int=>.obl ([vU (i1.1+1)]=(encI .u64) x_21) (.ok .skip [Efdc04 b_1 c,E4d1fc ra_2 aw_3 ((List.replicate (sizeOfC c).toNat (0:Int)).length) cw_4 0 0 0 0 false false 0,E54ea0 aw_3 cw_4 (i1.2.set ((blockAt c i1.1).toNat) x_21)])))) (dst:=none) (ps:=[ra_2=ra_2,b_1=b_1,InK .i64 (i1.1+1),InK .u64 (i1.1+1),aw_3=aw_3∧(List.replicate (sizeOfC c).toNat (0:Int)).length=i1.2.length,(0:Int)≤(blockAt c i1.1)∧(blockAt c i1.1)<((i1.2.length:Nat):Int)]) (cs:=[(85,#[cfgV c,vI i1.1],vI (blockAt c i1.1))]) [(0,.h .w),(1,.h .w),(2,.h .w),(3,.h (.e 1)),(4,.h (.e 0)),(5,.h .w),(6,.q (vI (blockAt c i1.1))),(7,.h .w),(8,.h (.n)),(9,.h (.n)),(10,.h (.s 2))] 11 [] (.j 2 ((blockAt c i1.1).toNat)) [1,3,4] kR kR ⟨rfl,rfl,(by have hsz:=sizeOfC_ok hc; simp only [Cfg.Ok,InK] at *; first | done | omega),(by have hsz:=sizeOfC_ok hc; simp only [Cfg.Ok,InK] at *; first | done | omega),⟨rfl,(by first | rfl | omega | (simp; done) | (simp; omega))⟩,(by have:=sizeOfC_ok hc; first | omega | (simp; omega) | (have hq:=blockAt_ok hc (clsOf_pos (c:=c) (b:=i1.1) (by omega)); first | omega | (simp; omega))),trivial⟩ ⟨⟨Tryz.call85,quiet_of [] (ref_Block c i1.1 oM (by omega)) kR (by rintro v post ⟨rfl,rfl⟩; exact⟨rfl,rfl⟩)⟩,trivial⟩ ?_
     refine sat_obl rfl ?_
     refine sat_obl (by have:=sizeOfC_ok hc; first | omega | (simp; omega) | (have hq:=blockAt_ok hc (clsOf_pos (c:=c) (b:=i1.1) (by omega)); first | omega | (simp; omega))) ?_
     refine sat_ex ((i1.1+1):Int) ?_
     refine sat_obl rfl ?_
     refine sat_skip ?_
     refine tail_next (tm':=[(1,vP b_1),(3,vP ra_2),(4,vI i1.1)]) (ps2:=[]) kR trivial ?_
     refine gX [.n,.z [] 0 [1,3,4]] (gO (InK .i64 (i1.1+1)) (by have hsz:=sizeOfC_ok hc; simp only [Cfg.Ok,InK] at *; first | done | omega) (gS [.j J_18,.b 0,.c q36_14] ?_))
     exact go_back hJ_18 ((i1.1+1),i1.2.set ((blockAt c i1.1).toNat) (i1.1+1)) [0,1,2] kR kR kR ⟨(by dsimp only; rw [←hx1.1,rmLink_next (c:=c) (b:=i1.1) (W:=i1.2) (by omega),if_pos (by assumption)]),(by dsimp only; omega),(by dsimp only; first | exact hx1.2.2 | (rw [List.length_set]; exact hx1.2.2))⟩ (by dsimp only; omega)
    ·replace h_20:=beqF h_20
     refine gO (InK .i64 (i1.1+1)) (by have hsz:=sizeOfC_ok hc; simp only [Cfg.Ok,InK] at *; first | done | omega) (gS [.j J_18,.b 0,.c q36_14] ?_)
     exact go_back hJ_18 ((i1.1+1),i1.2) [0,1,2] kR kR kR ⟨(by dsimp only; rw [←hx1.1,rmLink_next (c:=c) (b:=i1.1) (W:=i1.2) (by omega),if_neg (by assumption)]),(by dsimp only; omega),(by dsimp only; first | exact hx1.2.2 | (rw [List.length_set]; exact hx1.2.2))⟩ (by dsimp only; omega)
   ·replace h_19:=decF h_19
    refine gS [.c q36_19,.b 2,.c q36_23] ?_
    refine go_loop (ι := Int×Ar) (fun i2=>[(3,vP ra_2),(5,vI i2.1)]) (fun i2=>[E99bbc ra_2 i2.2 false 0,E35fb1 i2.2]) (fun i2=>rmCnt (sizeOfC c-i2.1).toNat i2.1 i2.2=rmAr c (rpackW c) aw_3 cw_4∧(0≤i2.1∧i2.1≤sizeOfC c)∧i2.2.ws.length=i2.2.n∧(i2.2.n:Int)=sizeOfC c∧(0≤i2.2.steps∧i2.2.steps≤i2.1)) (fun i2=>(sizeOfC c-i2.1).toNat) (0,(⟨aw_3,cw_4,(List.replicate (sizeOfC c).toNat (0:Int)).length,i1.2,0,0,0,0,false⟩:Ar)) [3,5] [1,2] kR kR kR kR ⟨(by dsimp only; unfold rmAr; rw [←hx1.1,rmLink_end (c:=c) (b:=i1.1) (W:=i1.2) (by omega),Int.sub_zero]),(by have:=sizeOfC_ok hc; dsimp only; omega),hlen1,hN1,(by dsimp only; omega)⟩ ?_
    intro i2 J_22 hIJ_22 hJ_22
    have hx2:=hIJ_22
    have hn2:=hx2.2.2.1
    have hz2:=hx2.2.2.2.1
    have hs2:=hx2.2.2.2.2
    refine gX [.e 0,.sp [78] [.e 0,.s 1,.j 1 i2.1.toNat,.sp [88] [.e 0,.n,.e 0,.e 0,.s 1,.j 1 i2.1.toNat,.e 0,.n,.z [] 0 [3,5]] [.n,.z [] 0 [3,5]]] []] (gQ ra_2 (gB (decide (i2.1<((i2.2.n:Nat):Int))) (fun h_23 => ?_) (fun h_23 => ?_)))
    ·replace h_23:=decT h_23
     refine gQ ra_2 (gO (i2.2.aw=i2.2.aw∧i2.2.n=i2.2.ws.length) ⟨rfl,(by first | rfl | omega | (simp; done) | (simp; omega))⟩ (gO ((0:Int)≤i2.1∧i2.1<((i2.2.ws.length:Nat):Int)) (by have:=sizeOfC_ok hc; first | omega | (simp; omega) | (have hq:=blockAt_ok hc (clsOf_pos (c:=c) (b:=i1.1) (by omega)); first | omega | (simp; omega))) (gQ (slAt i2.2.aw i2.1.toNat 1) (gO (i2.1.toNat<i2.2.ws.length) (by have:=sizeOfC_ok hc; first | omega | (simp; omega) | (have hq:=blockAt_ok hc (clsOf_pos (c:=c) (b:=i1.1) (by omega)); first | omega | (simp; omega))) (gB ((i2.2.ws.getD i2.1.toNat 0) != 0) (fun h_24 => ?_) (fun h_24 => ?_))))))
     ·replace h_24:=bneT h_24
      refine gQ ra_2 (gO (InK .i64 (i2.2.steps+1)) (by have hsz:=sizeOfC_ok hc; simp only [Cfg.Ok,InK] at *; first | done | omega) (gQ ra_2 (gQ ra_2 (gO (i2.2.aw=i2.2.aw∧i2.2.n=i2.2.ws.length) ⟨rfl,(by first | rfl | omega | (simp; done) | (simp; omega))⟩ (gO ((0:Int)≤i2.1∧i2.1<((i2.2.ws.length:Nat):Int)) (by have:=sizeOfC_ok hc; first | omega | (simp; omega) | (have hq:=blockAt_ok hc (clsOf_pos (c:=c) (b:=i1.1) (by omega)); first | omega | (simp; omega))) (gQ (slAt i2.2.aw i2.1.toNat 1) (gO (i2.1.toNat<i2.2.ws.length) (by have:=sizeOfC_ok hc; first | omega | (simp; omega) | (have hq:=blockAt_ok hc (clsOf_pos (c:=c) (b:=i1.1) (by omega)); first | omega | (simp; omega))) (gQ ra_2 (gO (InK .i64 (i2.1+1)) (by have hsz:=sizeOfC_ok hc; simp only [Cfg.Ok,InK] at *; first | done | omega) (gS [.j J_22,.b 2,.c q36_23] ?_))))))))))
      exact go_back hJ_22 ((i2.1+1),(⟨i2.2.aw,i2.2.cw,i2.2.n,i2.2.ws,(i2.2.steps+1),2,i2.1,(i2.2.ws.getD i2.1.toNat 0),true⟩:Ar)) [0,1] kR kR kR ⟨(by dsimp only; rw [←hx2.1,rmCnt_next (n:=sizeOfC c) (i:=i2.1) (A:=i2.2) (by omega),if_pos (by assumption)]),(by dsimp only; omega),hx2.2.2.1,hx2.2.2.2.1,(by dsimp only; omega)⟩ (by dsimp only; omega)
     ·replace h_24:=bneF h_24
      refine gO (InK .i64 (i2.1+1)) (by have hsz:=sizeOfC_ok hc; simp only [Cfg.Ok,InK] at *; first | done | omega) (gS [.j J_22,.b 2,.c q36_23] ?_)
      exact go_back hJ_22 ((i2.1+1),(⟨i2.2.aw,i2.2.cw,i2.2.n,i2.2.ws,i2.2.steps,i2.2.lk,i2.2.lw,i2.2.lv,i2.2.lc⟩:Ar)) [0,1] kR kR kR ⟨(by dsimp only; rw [←hx2.1,rmCnt_next (n:=sizeOfC c) (i:=i2.1) (A:=i2.2) (by omega),if_neg (fun h=>h (by assumption))]),(by dsimp only; omega),hx2.2.2.1,hx2.2.2.2.1,(by dsimp only; omega)⟩ (by dsimp only; omega)
    ·replace h_23:=decF h_23
     refine gW0 (vP ra_2) [E99bbc ra_2 i2.2 false 0,E35fb1 i2.2] ?_
     exact ret_ok (post:=[E99bbc ra_2 i2.2 false 0,E35fb1 i2.2]) [0,1] kR ⟨ra_2,aw_3,cw_4,rfl,(by rw [←hx2.1,rmCnt_end (n:=sizeOfC c) (i:=i2.1) (A:=i2.2) (by omega)])⟩
 ·replace h_8:=decF h_8
  refine ok_obl rfl ?_
  refine ok_br (fun h_25 => ?_) (fun h_25 => ?_)
  ·replace h_25:=decT h_25
   refine ok_stop ?_
   refine go_tail_op (so:=.obl (slAt aw_3 4 1=slAt aw_3 4 1) (.obl (4<(((List.replicate (sizeOfC c).toNat (0:Int)).set 0 7597137583116413295).set 1 (rpackW c)).length) (.ex fun x_26:Int=>.obl ([vU (c.n0+1)]=(encI .u64) x_26) (.ok .skip [Efdc04 b_1 c,E4d1fc ra_2 aw_3 ((List.replicate (sizeOfC c).toNat (0:Int)).length) cw_4 0 0 0 0 false false 0,E54ea0 aw_3 cw_4 ((((List.replicate (sizeOfC c).toNat (0:Int)).set 0 7597137583116413295).set 1 (rpackW c)).set 4 x_26)])))) (dst:=none) (ps:=[ra_2=ra_2,b_1=b_1,InK .i64 (c.n0+1),InK .u64 (c.n0+1),aw_3=aw_3∧(List.replicate (sizeOfC c).toNat (0:Int)).length=(((List.replicate (sizeOfC c).toNat (0:Int)).set 0 7597137583116413295).set 1 (rpackW c)).length,(0:Int)≤4∧4<(((((List.replicate (sizeOfC c).toNat (0:Int)).set 0 7597137583116413295).set 1 (rpackW c)).length:Nat):Int)]) (cs:=[]) [(0,.h .w),(1,.h .w),(2,.h .w),(3,.h (.e 1)),(4,.h .w),(5,.h (.w)),(6,.h .w),(7,.h (.e 0)),(8,.h (.n)),(9,.h (.n)),(10,.h (.s 2))] 11 [] (.j 2 4) [1,3] kR kR ⟨rfl,rfl,(by have hsz:=sizeOfC_ok hc; simp only [Cfg.Ok,InK] at *; first | done | omega),(by have hsz:=sizeOfC_ok hc; simp only [Cfg.Ok,InK] at *; first | done | omega),⟨rfl,(by first | rfl | omega | (simp; done) | (simp; omega))⟩,(by have:=sizeOfC_ok hc; first | omega | (simp; omega) | (have hq:=blockAt_ok hc (clsOf_pos (c:=c) (b:=i1.1) (by omega)); first | omega | (simp; omega))),trivial⟩ trivial ?_
   refine sat_obl rfl ?_
   refine sat_obl (by have:=sizeOfC_ok hc; first | omega | (simp; omega) | (have hq:=blockAt_ok hc (clsOf_pos (c:=c) (b:=i1.1) (by omega)); first | omega | (simp; omega))) ?_
   refine sat_ex ((c.n0+1):Int) ?_
   refine sat_obl rfl ?_
   refine sat_skip ?_
   refine tail_next (tm':=[(1,vP b_1),(3,vP ra_2)]) (ps2:=[]) kR trivial ?_
   refine gX [.z q36_13 0 [1,3,4]] (gS [.c q36_13,.b 0,.c q36_14] ?_)
   refine go_loop (ι := Int×List Int) (fun i1=>[(1,vP b_1),(3,vP ra_2),(4,vI i1.1)]) (fun i1=>[Efdc04 b_1 c,E4d1fc ra_2 aw_3 ((List.replicate (sizeOfC c).toNat (0:Int)).length) cw_4 0 0 0 0 false false 0,E54ea0 aw_3 cw_4 i1.2]) (fun i1=>rmLink c (c.n0+c.n1-i1.1).toNat i1.1 i1.2=rmLink c (c.n0+c.n1-1).toNat 1 (rmHead c (rpackW c))∧1≤i1.1∧i1.2.length=(List.replicate (sizeOfC c).toNat (0:Int)).length) (fun i1=>(c.n0+c.n1-i1.1).toNat) (1,(((List.replicate (sizeOfC c).toNat (0:Int)).set 0 7597137583116413295).set 1 (rpackW c)).set 4 (c.n0+1)) [1,3,4] [0,1,2] kR kR kR kR ⟨(by dsimp only; congr 1; unfold rmHead; dsimp only; (repeat' split) <;> first | rfl | (exfalso; omega)),(by dsimp only; omega),(by simp)⟩ ?_
   intro i1 J_27 hIJ_27 hJ_27
   have hx1:=hIJ_27
   have hlen1:=hx1.2.2
   have hN1:(((List.replicate (sizeOfC c).toNat (0:Int)).length:Nat):Int)=sizeOfC c:=by have:=sizeOfC_ok hc; rw [List.length_replicate]; omega
   refine gX [.e 0,.z q36_15 2 [1,3,4,47,48]] (gQ b_1 (gS [.o q36_15 2,.c q36_16,.c q36_17,.j J_27,.b 0,.c q36_14] ?_))
   refine gC (some 49) [] Tryz.call37 (ref_Blocks c oM) ?_
   refine gX [.sp [50] [.z q36_18 0 [1,3,4]] [.z q36_19 0 [3,5]]] (gB (decide (i1.1<(c.n0+c.n1))) (fun h_28 => ?_) (fun h_28 => ?_))
   ·replace h_28:=decT h_28
    refine gS [.c q36_18,.c q36_20,.b 1,.c q36_21,.j J_27,.b 0,.c q36_14] ?_
    refine qG (kV 0 [.e 0,.ww,.q (vI (clsOf c i1.1)),.e 0,.ww,.h (.n),.q (vI (clsOf c (i1.1+1))),.ww]) [1,3,4,60] (.e b_1 (.e b_1 (.p (InK .i64 (i1.1+1)) (by have hsz:=sizeOfC_ok hc; simp only [Cfg.Ok,InK] at *; first | done | omega) .n))) (.c Tryz.call98 (qR [] (ref_Class c i1.1 oM)) (.c Tryz.call98 (qR [] (ref_Class c (i1.1+1) oM)) .n)) ?_
    refine gX [.sp [60] [.z q36_22 0 [1,3,4]] [.n,.z [] 0 [1,3,4]]] (gB ((clsOf c i1.1)==(clsOf c (i1.1+1))) (fun h_29 => ?_) (fun h_29 => ?_))
    ·replace h_29:=beqT h_29
     refine gW (ks:=[.c q36_22,.b 1,.c q36_21,.j J_27,.b 0,.c q36_14]) [(1,vP b_1),(3,vP ra_2),(4,vI i1.1)] [Efdc04 b_1 c,E4d1fc ra_2 aw_3 ((List.replicate (sizeOfC c).toNat (0:Int)).length) cw_4 0 0 0 0 false false 0,E54ea0 aw_3 cw_4 i1.2] ?_
     refine go_tail_op (so:=.obl (slAt aw_3 ((blockAt c i1.1).toNat) 1=slAt aw_3 ((blockAt c i1.1).toNat) 1) (.obl ((blockAt c i1.1).toNat<i1.2.length) (.ex fun x_30:Int=>.obl ([vU (i1.1+1)]=(encI .u64) x_30) (.ok .skip [Efdc04 b_1 c,E4d1fc ra_2 aw_3 ((List.replicate (sizeOfC c).toNat (0:Int)).length) cw_4 0 0 0 0 false false 0,E54ea0 aw_3 cw_4 (i1.2.set ((blockAt c i1.1).toNat) x_30)])))) (dst:=none) (ps:=[ra_2=ra_2,b_1=b_1,InK .i64 (i1.1+1),InK .u64 (i1.1+1),aw_3=aw_3∧(List.replicate (sizeOfC c).toNat (0:Int)).length=i1.2.length,(0:Int)≤(blockAt c i1.1)∧(blockAt c i1.1)<((i1.2.length:Nat):Int)]) (cs:=[(85,#[cfgV c,vI i1.1],vI (blockAt c i1.1))]) [(0,.h .w),(1,.h .w),(2,.h .w),(3,.h (.e 1)),(4,.h (.e 0)),(5,.h .w),(6,.q (vI (blockAt c i1.1))),(7,.h .w),(8,.h (.n)),(9,.h (.n)),(10,.h (.s 2))] 11 [] (.j 2 ((blockAt c i1.1).toNat)) [1,3,4] kR kR ⟨rfl,rfl,(by have hsz:=sizeOfC_ok hc; simp only [Cfg.Ok,InK] at *; first | done | omega),(by have hsz:=sizeOfC_ok hc; simp only [Cfg.Ok,InK] at *; first | done | omega),⟨rfl,(by first | rfl | omega | (simp; done) | (simp; omega))⟩,(by have:=sizeOfC_ok hc; first | omega | (simp; omega) | (have hq:=blockAt_ok hc (clsOf_pos (c:=c) (b:=i1.1) (by omega)); first | omega | (simp; omega))),trivial⟩ ⟨⟨Tryz.call85,quiet_of [] (ref_Block c i1.1 oM (by omega)) kR (by rintro v post ⟨rfl,rfl⟩; exact⟨rfl,rfl⟩)⟩,trivial⟩ ?_
     refine sat_obl rfl ?_
     refine sat_obl (by have:=sizeOfC_ok hc; first | omega | (simp; omega) | (have hq:=blockAt_ok hc (clsOf_pos (c:=c) (b:=i1.1) (by omega)); first | omega | (simp; omega))) ?_
     refine sat_ex ((i1.1+1):Int) ?_
     refine sat_obl rfl ?_
     refine sat_skip ?_
     refine tail_next (tm':=[(1,vP b_1),(3,vP ra_2),(4,vI i1.1)]) (ps2:=[]) kR trivial ?_
     refine gX [.n,.z [] 0 [1,3,4]] (gO (InK .i64 (i1.1+1)) (by have hsz:=sizeOfC_ok hc; simp only [Cfg.Ok,InK] at *; first | done | omega) (gS [.j J_27,.b 0,.c q36_14] ?_))
     exact go_back hJ_27 ((i1.1+1),i1.2.set ((blockAt c i1.1).toNat) (i1.1+1)) [0,1,2] kR kR kR ⟨(by dsimp only; rw [←hx1.1,rmLink_next (c:=c) (b:=i1.1) (W:=i1.2) (by omega),if_pos (by assumption)]),(by dsimp only; omega),(by dsimp only; first | exact hx1.2.2 | (rw [List.length_set]; exact hx1.2.2))⟩ (by dsimp only; omega)
    ·replace h_29:=beqF h_29
     refine gO (InK .i64 (i1.1+1)) (by have hsz:=sizeOfC_ok hc; simp only [Cfg.Ok,InK] at *; first | done | omega) (gS [.j J_27,.b 0,.c q36_14] ?_)
     exact go_back hJ_27 ((i1.1+1),i1.2) [0,1,2] kR kR kR ⟨(by dsimp only; rw [←hx1.1,rmLink_next (c:=c) (b:=i1.1) (W:=i1.2) (by omega),if_neg (by assumption)]),(by dsimp only; omega),(by dsimp only; first | exact hx1.2.2 | (rw [List.length_set]; exact hx1.2.2))⟩ (by dsimp only; omega)
   ·replace h_28:=decF h_28
    refine gS [.c q36_19,.b 2,.c q36_23] ?_
    refine go_loop (ι := Int×Ar) (fun i2=>[(3,vP ra_2),(5,vI i2.1)]) (fun i2=>[E99bbc ra_2 i2.2 false 0,E35fb1 i2.2]) (fun i2=>rmCnt (sizeOfC c-i2.1).toNat i2.1 i2.2=rmAr c (rpackW c) aw_3 cw_4∧(0≤i2.1∧i2.1≤sizeOfC c)∧i2.2.ws.length=i2.2.n∧(i2.2.n:Int)=sizeOfC c∧(0≤i2.2.steps∧i2.2.steps≤i2.1)) (fun i2=>(sizeOfC c-i2.1).toNat) (0,(⟨aw_3,cw_4,(List.replicate (sizeOfC c).toNat (0:Int)).length,i1.2,0,0,0,0,false⟩:Ar)) [3,5] [1,2] kR kR kR kR ⟨(by dsimp only; unfold rmAr; rw [←hx1.1,rmLink_end (c:=c) (b:=i1.1) (W:=i1.2) (by omega),Int.sub_zero]),(by have:=sizeOfC_ok hc; dsimp only; omega),hlen1,hN1,(by dsimp only; omega)⟩ ?_
    intro i2 J_31 hIJ_31 hJ_31
    have hx2:=hIJ_31
    have hn2:=hx2.2.2.1
    have hz2:=hx2.2.2.2.1
    have hs2:=hx2.2.2.2.2
    refine gX [.e 0,.sp [78] [.e 0,.s 1,.j 1 i2.1.toNat,.sp [88] [.e 0,.n,.e 0,.e 0,.s 1,.j 1 i2.1.toNat,.e 0,.n,.z [] 0 [3,5]] [.n,.z [] 0 [3,5]]] []] (gQ ra_2 (gB (decide (i2.1<((i2.2.n:Nat):Int))) (fun h_32 => ?_) (fun h_32 => ?_)))
    ·replace h_32:=decT h_32
     refine gQ ra_2 (gO (i2.2.aw=i2.2.aw∧i2.2.n=i2.2.ws.length) ⟨rfl,(by first | rfl | omega | (simp; done) | (simp; omega))⟩ (gO ((0:Int)≤i2.1∧i2.1<((i2.2.ws.length:Nat):Int)) (by have:=sizeOfC_ok hc; first | omega | (simp; omega) | (have hq:=blockAt_ok hc (clsOf_pos (c:=c) (b:=i1.1) (by omega)); first | omega | (simp; omega))) (gQ (slAt i2.2.aw i2.1.toNat 1) (gO (i2.1.toNat<i2.2.ws.length) (by have:=sizeOfC_ok hc; first | omega | (simp; omega) | (have hq:=blockAt_ok hc (clsOf_pos (c:=c) (b:=i1.1) (by omega)); first | omega | (simp; omega))) (gB ((i2.2.ws.getD i2.1.toNat 0) != 0) (fun h_33 => ?_) (fun h_33 => ?_))))))
     ·replace h_33:=bneT h_33
      refine gQ ra_2 (gO (InK .i64 (i2.2.steps+1)) (by have hsz:=sizeOfC_ok hc; simp only [Cfg.Ok,InK] at *; first | done | omega) (gQ ra_2 (gQ ra_2 (gO (i2.2.aw=i2.2.aw∧i2.2.n=i2.2.ws.length) ⟨rfl,(by first | rfl | omega | (simp; done) | (simp; omega))⟩ (gO ((0:Int)≤i2.1∧i2.1<((i2.2.ws.length:Nat):Int)) (by have:=sizeOfC_ok hc; first | omega | (simp; omega) | (have hq:=blockAt_ok hc (clsOf_pos (c:=c) (b:=i1.1) (by omega)); first | omega | (simp; omega))) (gQ (slAt i2.2.aw i2.1.toNat 1) (gO (i2.1.toNat<i2.2.ws.length) (by have:=sizeOfC_ok hc; first | omega | (simp; omega) | (have hq:=blockAt_ok hc (clsOf_pos (c:=c) (b:=i1.1) (by omega)); first | omega | (simp; omega))) (gQ ra_2 (gO (InK .i64 (i2.1+1)) (by have hsz:=sizeOfC_ok hc; simp only [Cfg.Ok,InK] at *; first | done | omega) (gS [.j J_31,.b 2,.c q36_23] ?_))))))))))
      exact go_back hJ_31 ((i2.1+1),(⟨i2.2.aw,i2.2.cw,i2.2.n,i2.2.ws,(i2.2.steps+1),2,i2.1,(i2.2.ws.getD i2.1.toNat 0),true⟩:Ar)) [0,1] kR kR kR ⟨(by dsimp only; rw [←hx2.1,rmCnt_next (n:=sizeOfC c) (i:=i2.1) (A:=i2.2) (by omega),if_pos (by assumption)]),(by dsimp only; omega),hx2.2.2.1,hx2.2.2.2.1,(by dsimp only; omega)⟩ (by dsimp only; omega)
     ·replace h_33:=bneF h_33
      refine gO (InK .i64 (i2.1+1)) (by have hsz:=sizeOfC_ok hc; simp only [Cfg.Ok,InK] at *; first | done | omega) (gS [.j J_31,.b 2,.c q36_23] ?_)
      exact go_back hJ_31 ((i2.1+1),(⟨i2.2.aw,i2.2.cw,i2.2.n,i2.2.ws,i2.2.steps,i2.2.lk,i2.2.lw,i2.2.lv,i2.2.lc⟩:Ar)) [0,1] kR kR kR ⟨(by dsimp only; rw [←hx2.1,rmCnt_next (n:=sizeOfC c) (i:=i2.1) (A:=i2.2) (by omega),if_neg (fun h=>h (by assumption))]),(by dsimp only; omega),hx2.2.2.1,hx2.2.2.2.1,(by dsimp only; omega)⟩ (by dsimp only; omega)
    ·replace h_32:=decF h_32
     refine gW0 (vP ra_2) [E99bbc ra_2 i2.2 false 0,E35fb1 i2.2] ?_
     exact ret_ok (post:=[E99bbc ra_2 i2.2 false 0,E35fb1 i2.2]) [0,1] kR ⟨ra_2,aw_3,cw_4,rfl,(by rw [←hx2.1,rmCnt_end (n:=sizeOfC c) (i:=i2.1) (A:=i2.2) (by omega)])⟩
  ·replace h_25:=decF h_25
   refine ok_stop ?_
   refine go_loop (ι := Int×List Int) (fun i1=>[(1,vP b_1),(3,vP ra_2),(4,vI i1.1)]) (fun i1=>[Efdc04 b_1 c,E4d1fc ra_2 aw_3 ((List.replicate (sizeOfC c).toNat (0:Int)).length) cw_4 0 0 0 0 false false 0,E54ea0 aw_3 cw_4 i1.2]) (fun i1=>rmLink c (c.n0+c.n1-i1.1).toNat i1.1 i1.2=rmLink c (c.n0+c.n1-1).toNat 1 (rmHead c (rpackW c))∧1≤i1.1∧i1.2.length=(List.replicate (sizeOfC c).toNat (0:Int)).length) (fun i1=>(c.n0+c.n1-i1.1).toNat) (1,((List.replicate (sizeOfC c).toNat (0:Int)).set 0 7597137583116413295).set 1 (rpackW c)) [1,3,4] [0,1,2] kR kR kR kR ⟨(by dsimp only; congr 1; unfold rmHead; dsimp only; (repeat' split) <;> first | rfl | (exfalso; omega)),(by dsimp only; omega),(by simp)⟩ ?_
   intro i1 J_34 hIJ_34 hJ_34
   have hx1:=hIJ_34
   have hlen1:=hx1.2.2
   have hN1:(((List.replicate (sizeOfC c).toNat (0:Int)).length:Nat):Int)=sizeOfC c:=by have:=sizeOfC_ok hc; rw [List.length_replicate]; omega
   refine gX [.e 0,.z q36_15 2 [1,3,4,47,48]] (gQ b_1 (gS [.o q36_15 2,.c q36_16,.c q36_17,.j J_34,.b 0,.c q36_14] ?_))
   refine gC (some 49) [] Tryz.call37 (ref_Blocks c oM) ?_
   refine gX [.sp [50] [.z q36_18 0 [1,3,4]] [.z q36_19 0 [3,5]]] (gB (decide (i1.1<(c.n0+c.n1))) (fun h_35 => ?_) (fun h_35 => ?_))
   ·replace h_35:=decT h_35
    refine gS [.c q36_18,.c q36_20,.b 1,.c q36_21,.j J_34,.b 0,.c q36_14] ?_
    refine qG (kV 0 [.e 0,.ww,.q (vI (clsOf c i1.1)),.e 0,.ww,.h (.n),.q (vI (clsOf c (i1.1+1))),.ww]) [1,3,4,60] (.e b_1 (.e b_1 (.p (InK .i64 (i1.1+1)) (by have hsz:=sizeOfC_ok hc; simp only [Cfg.Ok,InK] at *; first | done | omega) .n))) (.c Tryz.call98 (qR [] (ref_Class c i1.1 oM)) (.c Tryz.call98 (qR [] (ref_Class c (i1.1+1) oM)) .n)) ?_
    refine gX [.sp [60] [.z q36_22 0 [1,3,4]] [.n,.z [] 0 [1,3,4]]] (gB ((clsOf c i1.1)==(clsOf c (i1.1+1))) (fun h_36 => ?_) (fun h_36 => ?_))
    ·replace h_36:=beqT h_36
     refine gW (ks:=[.c q36_22,.b 1,.c q36_21,.j J_34,.b 0,.c q36_14]) [(1,vP b_1),(3,vP ra_2),(4,vI i1.1)] [Efdc04 b_1 c,E4d1fc ra_2 aw_3 ((List.replicate (sizeOfC c).toNat (0:Int)).length) cw_4 0 0 0 0 false false 0,E54ea0 aw_3 cw_4 i1.2] ?_
     refine go_tail_op (so:=.obl (slAt aw_3 ((blockAt c i1.1).toNat) 1=slAt aw_3 ((blockAt c i1.1).toNat) 1) (.obl ((blockAt c i1.1).toNat<i1.2.length) (.ex fun x_37:Int=>.obl ([vU (i1.1+1)]=(encI .u64) x_37) (.ok .skip [Efdc04 b_1 c,E4d1fc ra_2 aw_3 ((List.replicate (sizeOfC c).toNat (0:Int)).length) cw_4 0 0 0 0 false false 0,E54ea0 aw_3 cw_4 (i1.2.set ((blockAt c i1.1).toNat) x_37)])))) (dst:=none) (ps:=[ra_2=ra_2,b_1=b_1,InK .i64 (i1.1+1),InK .u64 (i1.1+1),aw_3=aw_3∧(List.replicate (sizeOfC c).toNat (0:Int)).length=i1.2.length,(0:Int)≤(blockAt c i1.1)∧(blockAt c i1.1)<((i1.2.length:Nat):Int)]) (cs:=[(85,#[cfgV c,vI i1.1],vI (blockAt c i1.1))]) [(0,.h .w),(1,.h .w),(2,.h .w),(3,.h (.e 1)),(4,.h (.e 0)),(5,.h .w),(6,.q (vI (blockAt c i1.1))),(7,.h .w),(8,.h (.n)),(9,.h (.n)),(10,.h (.s 2))] 11 [] (.j 2 ((blockAt c i1.1).toNat)) [1,3,4] kR kR ⟨rfl,rfl,(by have hsz:=sizeOfC_ok hc; simp only [Cfg.Ok,InK] at *; first | done | omega),(by have hsz:=sizeOfC_ok hc; simp only [Cfg.Ok,InK] at *; first | done | omega),⟨rfl,(by first | rfl | omega | (simp; done) | (simp; omega))⟩,(by have:=sizeOfC_ok hc; first | omega | (simp; omega) | (have hq:=blockAt_ok hc (clsOf_pos (c:=c) (b:=i1.1) (by omega)); first | omega | (simp; omega))),trivial⟩ ⟨⟨Tryz.call85,quiet_of [] (ref_Block c i1.1 oM (by omega)) kR (by rintro v post ⟨rfl,rfl⟩; exact⟨rfl,rfl⟩)⟩,trivial⟩ ?_
     refine sat_obl rfl ?_
     refine sat_obl (by have:=sizeOfC_ok hc; first | omega | (simp; omega) | (have hq:=blockAt_ok hc (clsOf_pos (c:=c) (b:=i1.1) (by omega)); first | omega | (simp; omega))) ?_
     refine sat_ex ((i1.1+1):Int) ?_
     refine sat_obl rfl ?_
     refine sat_skip ?_
     refine tail_next (tm':=[(1,vP b_1),(3,vP ra_2),(4,vI i1.1)]) (ps2:=[]) kR trivial ?_
     refine gX [.n,.z [] 0 [1,3,4]] (gO (InK .i64 (i1.1+1)) (by have hsz:=sizeOfC_ok hc; simp only [Cfg.Ok,InK] at *; first | done | omega) (gS [.j J_34,.b 0,.c q36_14] ?_))
     exact go_back hJ_34 ((i1.1+1),i1.2.set ((blockAt c i1.1).toNat) (i1.1+1)) [0,1,2] kR kR kR ⟨(by dsimp only; rw [←hx1.1,rmLink_next (c:=c) (b:=i1.1) (W:=i1.2) (by omega),if_pos (by assumption)]),(by dsimp only; omega),(by dsimp only; first | exact hx1.2.2 | (rw [List.length_set]; exact hx1.2.2))⟩ (by dsimp only; omega)
    ·replace h_36:=beqF h_36
     refine gO (InK .i64 (i1.1+1)) (by have hsz:=sizeOfC_ok hc; simp only [Cfg.Ok,InK] at *; first | done | omega) (gS [.j J_34,.b 0,.c q36_14] ?_)
     exact go_back hJ_34 ((i1.1+1),i1.2) [0,1,2] kR kR kR ⟨(by dsimp only; rw [←hx1.1,rmLink_next (c:=c) (b:=i1.1) (W:=i1.2) (by omega),if_neg (by assumption)]),(by dsimp only; omega),(by dsimp only; first | exact hx1.2.2 | (rw [List.length_set]; exact hx1.2.2))⟩ (by dsimp only; omega)
   ·replace h_35:=decF h_35
    refine gS [.c q36_19,.b 2,.c q36_23] ?_
    refine go_loop (ι := Int×Ar) (fun i2=>[(3,vP ra_2),(5,vI i2.1)]) (fun i2=>[E99bbc ra_2 i2.2 false 0,E35fb1 i2.2]) (fun i2=>rmCnt (sizeOfC c-i2.1).toNat i2.1 i2.2=rmAr c (rpackW c) aw_3 cw_4∧(0≤i2.1∧i2.1≤sizeOfC c)∧i2.2.ws.length=i2.2.n∧(i2.2.n:Int)=sizeOfC c∧(0≤i2.2.steps∧i2.2.steps≤i2.1)) (fun i2=>(sizeOfC c-i2.1).toNat) (0,(⟨aw_3,cw_4,(List.replicate (sizeOfC c).toNat (0:Int)).length,i1.2,0,0,0,0,false⟩:Ar)) [3,5] [1,2] kR kR kR kR ⟨(by dsimp only; unfold rmAr; rw [←hx1.1,rmLink_end (c:=c) (b:=i1.1) (W:=i1.2) (by omega),Int.sub_zero]),(by have:=sizeOfC_ok hc; dsimp only; omega),hlen1,hN1,(by dsimp only; omega)⟩ ?_
    intro i2 J_38 hIJ_38 hJ_38
    have hx2:=hIJ_38
    have hn2:=hx2.2.2.1
    have hz2:=hx2.2.2.2.1
    have hs2:=hx2.2.2.2.2
    refine gX [.e 0,.sp [78] [.e 0,.s 1,.j 1 i2.1.toNat,.sp [88] [.e 0,.n,.e 0,.e 0,.s 1,.j 1 i2.1.toNat,.e 0,.n,.z [] 0 [3,5]] [.n,.z [] 0 [3,5]]] []] (gQ ra_2 (gB (decide (i2.1<((i2.2.n:Nat):Int))) (fun h_39 => ?_) (fun h_39 => ?_)))
    ·replace h_39:=decT h_39
     refine gQ ra_2 (gO (i2.2.aw=i2.2.aw∧i2.2.n=i2.2.ws.length) ⟨rfl,(by first | rfl | omega | (simp; done) | (simp; omega))⟩ (gO ((0:Int)≤i2.1∧i2.1<((i2.2.ws.length:Nat):Int)) (by have:=sizeOfC_ok hc; first | omega | (simp; omega) | (have hq:=blockAt_ok hc (clsOf_pos (c:=c) (b:=i1.1) (by omega)); first | omega | (simp; omega))) (gQ (slAt i2.2.aw i2.1.toNat 1) (gO (i2.1.toNat<i2.2.ws.length) (by have:=sizeOfC_ok hc; first | omega | (simp; omega) | (have hq:=blockAt_ok hc (clsOf_pos (c:=c) (b:=i1.1) (by omega)); first | omega | (simp; omega))) (gB ((i2.2.ws.getD i2.1.toNat 0) != 0) (fun h_40 => ?_) (fun h_40 => ?_))))))
     ·replace h_40:=bneT h_40
      refine gQ ra_2 (gO (InK .i64 (i2.2.steps+1)) (by have hsz:=sizeOfC_ok hc; simp only [Cfg.Ok,InK] at *; first | done | omega) (gQ ra_2 (gQ ra_2 (gO (i2.2.aw=i2.2.aw∧i2.2.n=i2.2.ws.length) ⟨rfl,(by first | rfl | omega | (simp; done) | (simp; omega))⟩ (gO ((0:Int)≤i2.1∧i2.1<((i2.2.ws.length:Nat):Int)) (by have:=sizeOfC_ok hc; first | omega | (simp; omega) | (have hq:=blockAt_ok hc (clsOf_pos (c:=c) (b:=i1.1) (by omega)); first | omega | (simp; omega))) (gQ (slAt i2.2.aw i2.1.toNat 1) (gO (i2.1.toNat<i2.2.ws.length) (by have:=sizeOfC_ok hc; first | omega | (simp; omega) | (have hq:=blockAt_ok hc (clsOf_pos (c:=c) (b:=i1.1) (by omega)); first | omega | (simp; omega))) (gQ ra_2 (gO (InK .i64 (i2.1+1)) (by have hsz:=sizeOfC_ok hc; simp only [Cfg.Ok,InK] at *; first | done | omega) (gS [.j J_38,.b 2,.c q36_23] ?_))))))))))
      exact go_back hJ_38 ((i2.1+1),(⟨i2.2.aw,i2.2.cw,i2.2.n,i2.2.ws,(i2.2.steps+1),2,i2.1,(i2.2.ws.getD i2.1.toNat 0),true⟩:Ar)) [0,1] kR kR kR ⟨(by dsimp only; rw [←hx2.1,rmCnt_next (n:=sizeOfC c) (i:=i2.1) (A:=i2.2) (by omega),if_pos (by assumption)]),(by dsimp only; omega),hx2.2.2.1,hx2.2.2.2.1,(by dsimp only; omega)⟩ (by dsimp only; omega)
     ·replace h_40:=bneF h_40
      refine gO (InK .i64 (i2.1+1)) (by have hsz:=sizeOfC_ok hc; simp only [Cfg.Ok,InK] at *; first | done | omega) (gS [.j J_38,.b 2,.c q36_23] ?_)
      exact go_back hJ_38 ((i2.1+1),(⟨i2.2.aw,i2.2.cw,i2.2.n,i2.2.ws,i2.2.steps,i2.2.lk,i2.2.lw,i2.2.lv,i2.2.lc⟩:Ar)) [0,1] kR kR kR ⟨(by dsimp only; rw [←hx2.1,rmCnt_next (n:=sizeOfC c) (i:=i2.1) (A:=i2.2) (by omega),if_neg (fun h=>h (by assumption))]),(by dsimp only; omega),hx2.2.2.1,hx2.2.2.2.1,(by dsimp only; omega)⟩ (by dsimp only; omega)
    ·replace h_39:=decF h_39
     refine gW0 (vP ra_2) [E99bbc ra_2 i2.2 false 0,E35fb1 i2.2] ?_
     exact ret_ok (post:=[E99bbc ra_2 i2.2 false 0,E35fb1 i2.2]) [0,1] kR ⟨ra_2,aw_3,cw_4,rfl,(by rw [←hx2.1,rmCnt_end (n:=sizeOfC c) (i:=i2.1) (A:=i2.2) (by omega)])⟩
end Go.Proofs.YtpcaijopodhdgaaGreatDoor
namespace Go.Proofs.YtpcaijopodhdgaaGreatDoor
open Go.Sx
abbrev E03c2e(x0:Nat)(c1:Cfg)(x2:Int)(x3:Int)(x4:Int): Ent:=.pts x0 [.int .i64 c1.topics,.int .i64 c1.small,.int .i64 c1.slots,.int .i64 c1.clients,.int .i64 c1.s0,.int .i64 c1.n0,.int .i64 c1.s1,.int .i64 c1.n1,.int .i64 c1.retry,.int .i64 x2,.int .i64 x3,.int .i64 x4] 178
abbrev E699bc(x0:Nat)(c1:Cfg)(c2:Cl): Ent:=.pts x0 [.int .i64 c1.topics,.int .i64 c1.small,.int .i64 c1.slots,.int .i64 c1.clients,.int .i64 c1.s0,.int .i64 c1.n0,.int .i64 c1.s1,.int .i64 c1.n1,.int .i64 c1.retry,.int .i64 c2.client,.int .i64 c2.at_,.int .i64 c2.slot] 178
abbrev q50_0: List Nat:=[0,0,0,1,1,1,1]
abbrev q50_1: List Nat:=[1,0,0,1,1,1,1]
abbrev q50_2: List Nat:=[0,1,1,0,0,1,1,1,1]
abbrev q50_3: List Nat:=[1,1,1,0,0,1,1,1,1]
noncomputable def B110: Code:=(Tryz.f110.body).getD .skip
theorem claim_Done(c:Cfg)(k:Nat)(cl at_ sl:Int):
  Ctr Tryz.prog 110 #[vP k] [E03c2e k c cl at_ sl] (Ret (.bool (at_ == -1)) [E03c2e k c cl at_ sl]):=by
 refine cB B110 12 Tryz.func110 ?_
 intro F
 exact gX [.e 0] (gQ k (gI (.bool (at_==(-1))) [0] ⟨(congrArg Value.bool (by first | rfl | (simp; done) | (simp; omega))),rfl⟩))
noncomputable def B56: Code:=(Tryz.f56.body).getD .skip
theorem claim_Slot(c:Cfg)(k:Nat)(K:Cl)(hd:K.at_ = -1):
  Ctr Tryz.prog 56 #[vP k] [E699bc k c K] (Ret (vI K.slot) [E699bc k c K]):=by
 refine cB B56 14 Tryz.func56 ?_
 intro F
 refine gX [.z [0,0,1] 4 [0,5,6]] (gS [.o [0,0,1] 4,.c [1,0,1],.c [1,1]] ?_)
 refine gC (some 7) [0] Tryz.call110 (claim_Done c k K.client K.at_ K.slot) ?_
 exact gX [.sp [9,8] [.dead] [.e 0]] (gQ (!(K.at_ == -1)) (gF (!(K.at_ == -1)) (by simp [hd]) (gQ k (gJ [0] ⟨rfl,rfl⟩))))
noncomputable def B229: Code:=(Tryz.f229.body).getD .skip
theorem kStepD(c:Cfg)(k ba:Nat)(cl at_ sl:Int)(A:Ar)(hc:c.Ok)(hn:A.ws.length=A.n)(hs:0≤A.steps∧A.steps≤1000000000)(hcl:0≤cl∧cl≤1000)(ha:at_ = -1):
  Ctr Tryz.prog 229 #[vP k,vP ba] [E03c2e k c cl at_ sl,E3504b ba A,E35fb1 A] (Ret (.bool true) [E03c2e k c cl at_ sl,E3504b ba A,E35fb1 A]):=by
 refine cB B229 56 Tryz.func229 ?_
 intro F
 refine gX [.z [0,0,1] 1 [0,1,6]] (gS [.o [0,0,1] 1,.c [1,0,1],.c [1,1]] ?_)
 refine gC (some 7) [0] Tryz.call110 (claim_Done c k cl at_ sl) ?_
 exact gX [.sp [7] [] [.dead]] (gT (at_ == -1) (by simp [ha]) (gJ [2,0,1] ⟨rfl,rfl⟩))
theorem kStepT(c:Cfg)(k ba:Nat)(cl at_ sl:Int)(A:Ar)(hc:c.Ok)(hn:A.ws.length=A.n)(hs:0≤A.steps∧A.steps≤1000000000)(hcl:0≤cl∧cl≤1000)(ha:0≤at_∧at_<c.slots)(hi:0≤slotAt c at_∧slotAt c at_<A.n)(hw:(A.ws.getD (slotAt c at_).toNat 0)=0):
  Ctr Tryz.prog 229 #[vP k,vP ba] [E03c2e k c cl at_ sl,E3504b ba A,E35fb1 A] (Ret (.bool true) [E03c2e k c cl (-1) at_,E3504b ba (A.swapT (slotAt c at_) (markW cl 0)),E35fb1 (A.swapT (slotAt c at_) (markW cl 0))]):=by
 refine cB B229 56 Tryz.func229 ?_
 intro F
 refine gX [.z [0,0,1] 1 [0,1,6]] (gS [.o [0,0,1] 1,.c [1,0,1],.c [1,1]] ?_)
 refine gC (some 7) [0] Tryz.call110 (claim_Done c k cl at_ sl) ?_
 refine gX [.sp [7] [.dead] [.e 2,.e 2,.n,.e 2,.z q50_0 0 [0,1,5]]] (gF (at_ == -1) (by simp; omega) (gQ k (gQ k (gO (InK .i64 (at_+1)) (by simp only [Cfg.Ok,InK] at *; omega) (gQ k (gS [.c q50_0,.c q50_1,.b 0,.c [1,1,1,1,1]] ?_))))))
 refine tC (some 32) (kV 0 [.ww,.ww,.ww,.ww,.e 2,.ww,.q (vI (slotAt c at_)),.ww,.ww,.ww,.e 2,.q (vU (markW cl 0))]) 12 (kV 13 [.ww]) [0,1] [0,5,19] Tryz.call185 (arena_SwapT ba A (slotAt c at_) 0 (markW cl 0) oM hi oM hw) (.e k (.e k .n)) (.c Tryz.call111 (qR [] (plan_Slot c at_ hc)) (.c Tryz.call199 (qR [] (slots_Mark cl 0 (by omega) (by decide))) .n)) ?_
 rintro v post ⟨rfl,rfl⟩
 refine tN .n ?_
 refine gX [.e 0,.e 0,.z [0,1,1,1,1,1] 1 [54]] (gQ k (gQ k (gS [.o [0,1,1,1,1,1] 1,.c [1,1,1,1,1,1]] ?_)))
 refine gC (some 55) [0] Tryz.call110 (claim_Done c k cl (-1) at_) ?_
 exact gX [] (gI (.bool ((-1) == -1)) [2,0,1] ⟨(congrArg Value.bool (by first | rfl | (simp; done) | (simp; omega))),rfl⟩)
theorem kStepL(c:Cfg)(k ba:Nat)(cl at_ sl:Int)(A:Ar)(hc:c.Ok)(hn:A.ws.length=A.n)(hs:0≤A.steps∧A.steps≤1000000000)(hcl:0≤cl∧cl≤1000)(ha:0≤at_∧at_<c.slots)(hi:0≤slotAt c at_∧slotAt c at_<A.n)(hw:(A.ws.getD (slotAt c at_).toNat 0)≠0)(hl:at_+1=c.slots):
  Ctr Tryz.prog 229 #[vP k,vP ba] [E03c2e k c cl at_ sl,E3504b ba A,E35fb1 A] (Ret (.bool true) [E03c2e k c cl (-1) sl,E3504b ba (A.swapF (slotAt c at_)),E35fb1 (A.swapF (slotAt c at_))]):=by
 refine cB B229 56 Tryz.func229 ?_
 intro F
 refine gX [.z [0,0,1] 1 [0,1,6]] (gS [.o [0,0,1] 1,.c [1,0,1],.c [1,1]] ?_)
 refine gC (some 7) [0] Tryz.call110 (claim_Done c k cl at_ sl) ?_
 refine gX [.sp [7] [.dead] [.e 2,.e 2,.n,.e 2,.z q50_0 0 [0,1,5]]] (gF (at_ == -1) (by simp; omega) (gQ k (gQ k (gO (InK .i64 (at_+1)) (by simp only [Cfg.Ok,InK] at *; omega) (gQ k (gS [.c q50_0,.c q50_1,.b 0,.c [1,1,1,1,1]] ?_))))))
 refine tC (some 32) (kV 0 [.ww,.ww,.ww,.ww,.e 2,.ww,.q (vI (slotAt c at_)),.ww,.ww,.ww,.e 2,.q (vU (markW cl 0))]) 12 (kV 13 [.ww]) [0,1] [0,5,19] Tryz.call185 (arena_SwapF ba A (slotAt c at_) 0 (markW cl 0) oM hi oM hw) (.e k (.e k .n)) (.c Tryz.call111 (qR [] (plan_Slot c at_ hc)) (.c Tryz.call199 (qR [] (slots_Mark cl 0 (by omega) (by decide))) .n)) ?_
 rintro v post ⟨rfl,rfl⟩
 refine tN .n ?_
 refine gX [.z q50_2 0 [0]] (gS [.c q50_2,.c q50_3,.b 0,.c [1,1,1,1,1]] ?_)
 refine qG (kV 0 [.ww,.ww,.ww,.e 0,.ww,.ww,.ww,.ww,.e 0,.t true,.ww]) [0,40] (.e k (.e k (.p (((at_+1)==c.slots)=true) (beq_iff_eq.2 hl) .n))) .n ?_
 refine gX [.e 0,.z [0,1,1,1,1,1] 1 [54]] (gQ k (gS [.o [0,1,1,1,1,1] 1,.c [1,1,1,1,1,1]] ?_))
 refine gC (some 55) [0] Tryz.call110 (claim_Done c k cl (-1) sl) ?_
 exact gX [] (gI (.bool ((-1) == -1)) [2,0,1] ⟨(congrArg Value.bool (by first | rfl | (simp; done) | (simp; omega))),rfl⟩)
theorem kStepN(c:Cfg)(k ba:Nat)(cl at_ sl:Int)(A:Ar)(hc:c.Ok)(hn:A.ws.length=A.n)(hs:0≤A.steps∧A.steps≤1000000000)(hcl:0≤cl∧cl≤1000)(ha:0≤at_∧at_<c.slots)(hi:0≤slotAt c at_∧slotAt c at_<A.n)(hw:(A.ws.getD (slotAt c at_).toNat 0)≠0)(hl:at_+1≠c.slots):
  Ctr Tryz.prog 229 #[vP k,vP ba] [E03c2e k c cl at_ sl,E3504b ba A,E35fb1 A] (Ret (.bool false) [E03c2e k c cl (at_+1) sl,E3504b ba (A.swapF (slotAt c at_)),E35fb1 (A.swapF (slotAt c at_))]):=by
 refine cB B229 56 Tryz.func229 ?_
 intro F
 refine gX [.z [0,0,1] 1 [0,1,6]] (gS [.o [0,0,1] 1,.c [1,0,1],.c [1,1]] ?_)
 refine gC (some 7) [0] Tryz.call110 (claim_Done c k cl at_ sl) ?_
 refine gX [.sp [7] [.dead] [.e 2,.e 2,.n,.e 2,.z q50_0 0 [0,1,5]]] (gF (at_ == -1) (by simp; omega) (gQ k (gQ k (gO (InK .i64 (at_+1)) (by simp only [Cfg.Ok,InK] at *; omega) (gQ k (gS [.c q50_0,.c q50_1,.b 0,.c [1,1,1,1,1]] ?_))))))
 refine tC (some 32) (kV 0 [.ww,.ww,.ww,.ww,.e 2,.ww,.q (vI (slotAt c at_)),.ww,.ww,.ww,.e 2,.q (vU (markW cl 0))]) 12 (kV 13 [.ww]) [0,1] [0,5,19] Tryz.call185 (arena_SwapF ba A (slotAt c at_) 0 (markW cl 0) oM hi oM hw) (.e k (.e k .n)) (.c Tryz.call111 (qR [] (plan_Slot c at_ hc)) (.c Tryz.call199 (qR [] (slots_Mark cl 0 (by omega) (by decide))) .n)) ?_
 rintro v post ⟨rfl,rfl⟩
 refine tN .n ?_
 refine gX [.z q50_2 0 [0]] (gS [.c q50_2,.c q50_3,.b 0,.c [1,1,1,1,1]] ?_)
 refine qG (kV 0 [.ww,.ww,.ww,.e 0,.ww,.ww,.ww,.ww,.e 0,.t false,.ww]) [0,40] (.e k (.e k (.p (((at_+1)==c.slots)=false) (beq_eq_false_iff_ne.2 hl) .n))) .n ?_
 refine gX [.z [0,1,1,1,1,1] 1 [54]] (gS [.o [0,1,1,1,1,1] 1,.c [1,1,1,1,1,1]] ?_)
 refine gC (some 55) [0] Tryz.call110 (claim_Done c k cl (at_+1) sl) ?_
 exact gX [] (gI (.bool ((at_+1) == -1)) [2,0,1] ⟨(congrArg Value.bool (by first | rfl | (simp; done) | (simp; omega))),rfl⟩)
theorem claim_Step(c:Cfg)(k ba:Nat)(K:Cl)(A:Ar)(hc:c.Ok)(hn:A.ws.length=A.n)(hs:0≤A.steps∧A.steps≤1000000000)(hz:(A.n:Int)=sizeOfC c)(hK:Cl.Ok c K):
  Ctr Tryz.prog 229 #[vP k,vP ba] [E699bc k c K,E3504b ba A,E35fb1 A] (Ret (.bool ((K.step c A).1.at_ == -1)) [E699bc k c ((K.step c A).1),E3504b ba ((K.step c A).2),E35fb1 ((K.step c A).2)]):=by
 obtain⟨cl,at_,sl⟩:=K
 obtain⟨h1,h2,h3,h4⟩:=hK
 simp only at h1 h2 h3 h4
 have hc':=hc
 simp only [Cfg.Ok] at hc'
 by_cases ha:at_ = -1
 ·have e:Cl.step c ⟨cl,at_,sl⟩ A=(⟨cl,at_,sl⟩,A):=by show(if _ then _ else _) = _; rw [if_pos ha]
  rw [e,show(at_ == -1)=true from beq_iff_eq.2 ha]
  exact kStepD c k ba cl at_ sl A hc hn hs (by omega) ha
 ·have hat:=h2.resolve_left ha
  have hso:=slotAt_ok hc hat
  by_cases hw:A.ws.getD (slotAt c at_).toNat 0=0
  ·have e:Cl.step c ⟨cl,at_,sl⟩ A=(⟨cl,-1,at_⟩,A.swapT (slotAt c at_) (markW cl 0)):=by show(if _ then _ else _) = _; rw [if_neg ha,if_pos hw]
   rw [e]; exact kStepT c k ba cl at_ sl A hc hn hs (by omega) hat (by omega) hw
  ·by_cases hl:at_+1=c.slots
   ·have e:Cl.step c ⟨cl,at_,sl⟩ A=(⟨cl,-1,sl⟩,A.swapF (slotAt c at_)):=by show(if _ then _ else _) = _; rw [if_neg ha,if_neg hw,if_pos hl]
    rw [e]; exact kStepL c k ba cl at_ sl A hc hn hs (by omega) hat (by omega) hw hl
   ·have e:Cl.step c ⟨cl,at_,sl⟩ A=(⟨cl,at_+1,sl⟩,A.swapF (slotAt c at_)):=by show(if _ then _ else _) = _; rw [if_neg ha,if_neg hw,if_neg hl]
    rw [e,show(at_+1 == -1)=false from beq_eq_false_iff_ne.2 (by omega)]
    exact kStepN c k ba cl at_ sl A hc hn hs (by omega) hat (by omega) hw hl
noncomputable def B54: Code:=(Tryz.f54.body).getD .skip
theorem new_Claim(c:Cfg)(cl:Int)(hc:c.Ok)(hcl:0≤cl∧cl<c.clients):
  Ctr Tryz.prog 54 #[cfgV c,vI cl] [] (fun v L => ∃(k:Nat),v=vP k∧L=[E03c2e k c cl 0 (-1)]):=by
 refine cB B54 22 Tryz.func54 ?_
 intro F
 refine gX [.e 0,.z [0,0,1] 1 [1,2,5]] (gN fun b_1=>gQ b_1 (gS [.o [0,0,1] 1,.c [1,0,1],.c [1,1]] ?_))
 refine gC (some 6) [] Tryz.call64 (plan_Check c oM) ?_
 exact gX [.sp [12,10,11] [.dead] [.e 0,.sp [17,16] [.dead] [.e 0]]] (gQ (decide (cl<0)) (gQ (decide (cl<0)) (gF (decide (cl<0)) (by first | (simp; done) | (simp; omega)) (gQ b_1 (gQ (decide (cl≥c.clients)) (gF (decide (cl≥c.clients)) (by first | (simp; done) | (simp; omega)) (gQ b_1 (gN fun b_2=>gJ [1] ⟨b_2,rfl,rfl⟩))))))))
noncomputable def B162: Code:=(Tryz.f162.body).getD .skip
theorem new_Release(c:Cfg)(sl:Int)(hc:c.Ok)(hsl:0≤sl∧sl<c.slots):
  Ctr Tryz.prog 162 #[cfgV c,vI sl] [] (fun v L => ∃(r:Nat),v=vP r∧L=[.pts r [vI (slotAt c sl),.bool false] 259]):=by
 refine cB B162 14 Tryz.func162 ?_
 intro F
 refine gX [.e 0,.z [0,1] 2 [6,7]] (gN fun b_1=>gQ b_1 (gS [.o [0,1] 2,.c [1,1]] ?_))
 refine gC (some 8) [] Tryz.call111 (plan_Slot c sl oM) ?_
 exact gX [.sp [10] [.dead] []] (gF ((slotAt c sl)==(-1)) (beq_eq_false_iff_ne.2 (by have:=slotAt_ok hc hsl; omega)) (gN fun b_2=>gJ [1] ⟨b_2,rfl,rfl⟩))
noncomputable def B235: Code:=(Tryz.f235.body).getD .skip
theorem release_DoneF(r:Nat)(a:Int):
  Ctr Tryz.prog 235 #[vP r] [.pts r [vI a,.bool false] 259] (Ret (.bool false) [.pts r [vI a,.bool false] 259]):=by
 refine cB B235 11 Tryz.func235 ?_
 intro F
 exact gX [.e 0] (gQ r (gJ [0] ⟨rfl,rfl⟩))
noncomputable def B236: Code:=(Tryz.f236.body).getD .skip
theorem release_Step(r ba:Nat)(a:Int)(A:Ar)(hn:A.ws.length=A.n)(hi:0≤a∧a<A.n)(hs:0≤A.steps∧A.steps≤1000000000):
  Ctr Tryz.prog 236 #[vP r,vP ba] [.pts r [vI a,.bool false] 259,E3504b ba A,E35fb1 A] (Ret (.bool true) [.pts r [vI a,.bool true] 259,E3504b ba (A.store a 0),E35fb1 (A.store a 0)]):=by
 refine cB B236 17 Tryz.func236 ?_
 intro F
 refine gX [.z [0,0,1] 1 [0,1,5]] (gS [.o [0,0,1] 1,.c [1,0,1],.c [1,1]] ?_)
 refine gC (some 6) [0] Tryz.call235 (release_DoneF r a) ?_
 refine gX [.e 2,.z [0,0,1,0,1] 5 [0,8,12]] (gQ r (gS [.o [0,0,1,0,1] 5,.c [1,0,1,0,1],.c [1,1]] ?_))
 refine gC (some 13) [0,1] Tryz.call107 (arena_Store ba A a 0 oM hi oM) ?_
 exact gX [.e 0] (gQ r (gJ [0,1,2] ⟨rfl,rfl⟩))
end Go.Proofs.YtpcaijopodhdgaaGreatDoor
namespace Go.Proofs.YtpcaijopodhdgaaGreatDoor
open Go.Sx
abbrev Ee6e88(x0:Nat)(c1:Cfg)(x2:Int)(x3:Int)(x4:Int): Ent:=.pts x0 [.int .i64 c1.topics,.int .i64 c1.small,.int .i64 c1.slots,.int .i64 c1.clients,.int .i64 c1.s0,.int .i64 c1.n0,.int .i64 c1.s1,.int .i64 c1.n1,.int .i64 c1.retry,.int .i64 x2,.int .i64 x3,.int .i64 x4] 214
noncomputable def nxT(g:Nat): Nat→Value
 | 1=>.func (.func 104) #[vP g] #[]
 | 2=>.func (.func 152) #[vP g] #[]
 | 3=>.func (.func 178) #[vP g] #[]
 | _=>.nilFunc
noncomputable def B133: Code:=(Tryz.f133.body).getD .skip
theorem rnew_Claim(c:Cfg)(cl:Int)(hc:c.Ok)(hcl:0≤cl∧cl<c.clients):
  Ctr Tryz.prog 133 #[cfgV c,vI cl] [] (fun v L => ∃(k:Nat),v=vP k∧L=[Ee6e88 k c cl 0 (-1)]):=by
 refine cB B133 24 Tryz.func133 ?_
 intro F
 refine gX [.e 0,.z [0,1] 1 [1,2,6]] (gN fun b_1=>gQ b_1 (gS [.o [0,1] 1,.c [1,1]] ?_))
 refine gC (some 7) [] Tryz.call67 (ref_right c oM) ?_
 exact gX [.sp [14,12,13] [.dead] [.e 0,.sp [19,18] [.dead] [.e 0]]] (gQ (decide (cl<0)) (gQ (decide (cl<0)) (gF (decide (cl<0)) (by first | (simp; done) | (simp; omega)) (gQ b_1 (gQ (decide (cl≥c.clients)) (gF (decide (cl≥c.clients)) (by first | (simp; done) | (simp; omega)) (gQ b_1 (gN fun b_2=>gJ [1] ⟨b_2,rfl,rfl⟩))))))))
end Go.Proofs.YtpcaijopodhdgaaGreatDoor
namespace Go.Proofs.YtpcaijopodhdgaaGreatDoor
open Go.Sx
abbrev E0bba3(x0:Nat)(c1:Cfg)(x2:Int)(x3:Int)(x4:Value)(x5:Int)(x6:Int)(x7:Int): Ent:=.pts x0 [.int .i64 c1.topics,.int .i64 c1.small,.int .i64 c1.slots,.int .i64 c1.clients,.int .i64 c1.s0,.int .i64 c1.n0,.int .i64 c1.s1,.int .i64 c1.n1,.int .i64 c1.retry,.int .i64 x2,.int .u64 x3,x4,.int .i64 x5,.int .i64 x6,.int .i64 x7] 171
noncomputable abbrev E65ea3(x0:Nat)(c1:Cfg)(t2:Tk)(x3:Nat): Ent:=.pts x0 [.int .i64 c1.topics,.int .i64 c1.small,.int .i64 c1.slots,.int .i64 c1.clients,.int .i64 c1.s0,.int .i64 c1.n0,.int .i64 c1.s1,.int .i64 c1.n1,.int .i64 c1.retry,.int .i64 t2.head,.int .u64 t2.seen,(nxT x3 t2.ph),.int .i64 t2.cls,.int .i64 t2.block,.int .i64 t2.after] 171
noncomputable abbrev Ef47d3(x0:Nat)(c1:Cfg)(t2:Tk)(x3:Nat)(x4:Nat): Ent:=.pts x0 [.int .i64 c1.topics,.int .i64 c1.small,.int .i64 c1.slots,.int .i64 c1.clients,.int .i64 c1.s0,.int .i64 c1.n0,.int .i64 c1.s1,.int .i64 c1.n1,.int .i64 c1.retry,.int .i64 t2.head,.int .u64 t2.seen,(nxT x3 x4),.int .i64 t2.cls,.int .i64 t2.block,.int .i64 t2.after] 171
abbrev q70_0: List Nat:=[0,1,0,0,1,1,0,0,1,0,1]
abbrev q70_1: List Nat:=[1,1,0,0,1,1,0,0,1,0,1]
abbrev q70_2: List Nat:=[1,1,1,0,0,1,0,1]
noncomputable def B66: Code:=(Tryz.f66.body).getD .skip
theorem clo_Fits(b:Nat)(s_ m_ n_:Int):
  Ctr Tryz.prog 66 #[.agg #[vI s_,vI m_],vP b] [.pts b [vI n_] 3] (Ret (.bool (decide (s_≥n_))) [.pts b [vI n_] 3]):=by
 refine cB B66 8 Tryz.func66 ?_
 intro F
 exact gX [.e 1,.e 0] (gN fun b_1=>gQ b_1 (gQ b (gJ [0] ⟨rfl,rfl⟩)))
noncomputable def B65: Code:=(Tryz.f65.body).getD .skip
theorem index_Fits0(c:Cfg)(b b2:Nat)(n_:Int)(h0:n_≤c.s0):
  Ctr Tryz.prog 65 #[.slice (some ⟨b,4,none⟩) 2 2,.func (.func 66) #[] #[vP b2]] [Efdc04 b c,.pts b2 [vI n_] 3] (Ret (vI 0) [Efdc04 b c,.pts b2 [vI n_] 3]):=by
 refine cB B65 19 Tryz.func65 ?_
 intro F
 refine gX [.u,.w,.e 0,.z q70_0 5 [0,1,5,7,8,11,15]] (gQ b (gS [.o q70_0 5,.c q70_1,.b 1,.c q70_2,.r [0,1,0,1],.b 0,.c [1,1]] ?_))
 refine gC (some 16) [1] Tryz.call66 (clo_Fits b2 c.s0 c.n0 n_) ?_
 exact gX [.sp [16] [] [.dead]] (gT (decide (c.s0≥n_)) (by simp; omega) (gJ [0,1] ⟨rfl,rfl⟩))
theorem index_Fits1(c:Cfg)(b b2:Nat)(n_:Int)(h0:¬n_≤c.s0)(h1:n_≤c.s1):
  Ctr Tryz.prog 65 #[.slice (some ⟨b,4,none⟩) 2 2,.func (.func 66) #[] #[vP b2]] [Efdc04 b c,.pts b2 [vI n_] 3] (Ret (vI 1) [Efdc04 b c,.pts b2 [vI n_] 3]):=by
 refine cB B65 19 Tryz.func65 ?_
 intro F
 refine gX [.u,.w,.e 0,.z q70_0 5 [0,1,5,7,8,11,15]] (gQ b (gS [.o q70_0 5,.c q70_1,.b 1,.c q70_2,.r [0,1,0,1],.b 0,.c [1,1]] ?_))
 refine gC (some 16) [1] Tryz.call66 (clo_Fits b2 c.s0 c.n0 n_) ?_
 refine gX [.sp [16] [.dead] [.w,.u,.w,.e 0,.z q70_0 5 [0,1,5,7,8,11,15]]] (gF (decide (c.s0≥n_)) (by simp; omega) (gQ b (gS [.o q70_0 5,.c q70_1,.b 1,.c q70_2,.r [0,1,0,1],.b 0,.c [1,1]] ?_)))
 refine gC (some 16) [1] Tryz.call66 (clo_Fits b2 c.s1 c.n1 n_) ?_
 exact gX [.sp [16] [] [.dead]] (gT (decide (c.s1≥n_)) (by simp; omega) (gJ [0,1] ⟨rfl,rfl⟩))
theorem index_Fits2(c:Cfg)(b b2:Nat)(n_:Int)(h0:¬n_≤c.s0)(h1:¬n_≤c.s1):
  Ctr Tryz.prog 65 #[.slice (some ⟨b,4,none⟩) 2 2,.func (.func 66) #[] #[vP b2]] [Efdc04 b c,.pts b2 [vI n_] 3] (Ret (vI (-1)) [Efdc04 b c,.pts b2 [vI n_] 3]):=by
 refine cB B65 19 Tryz.func65 ?_
 intro F
 refine gX [.u,.w,.e 0,.z q70_0 5 [0,1,5,7,8,11,15]] (gQ b (gS [.o q70_0 5,.c q70_1,.b 1,.c q70_2,.r [0,1,0,1],.b 0,.c [1,1]] ?_))
 refine gC (some 16) [1] Tryz.call66 (clo_Fits b2 c.s0 c.n0 n_) ?_
 refine gX [.sp [16] [.dead] [.w,.u,.w,.e 0,.z q70_0 5 [0,1,5,7,8,11,15]]] (gF (decide (c.s0≥n_)) (by simp; omega) (gQ b (gS [.o q70_0 5,.c q70_1,.b 1,.c q70_2,.r [0,1,0,1],.b 0,.c [1,1]] ?_)))
 refine gC (some 16) [1] Tryz.call66 (clo_Fits b2 c.s1 c.n1 n_) ?_
 exact gX [.sp [16] [.dead] [.w,.u]] (gF (decide (c.s1≥n_)) (by simp; omega) (gJ [0,1] ⟨rfl,rfl⟩))
noncomputable def B24: Code:=(Tryz.f24.body).getD .skip
theorem fitsL(c:Cfg)(n_:Int)(hc:c.Ok)(hn:n_<1):
  Ctr Tryz.prog 24 #[cfgV c,vI n_] [] (Ret (vI (-1)) []):=by
 refine cB B24 16 Tryz.func24 ?_
 intro F
 refine gX [.e 0,.z [0,0,1] 1 [2,3,5]] (gN fun b_1=>gN fun b_2=>gQ b_1 (gS [.o [0,0,1] 1,.c [1,0,1],.c [1,1]] ?_))
 refine gC (some 6) [] Tryz.call64 (plan_Check c oM) ?_
 exact gX [.e 1,.sp [11,10] [] [.dead]] (gQ b_2 (gQ (decide (n_<1)) (gT (decide (n_<1)) (decide_eq_true hn) (gR (vI (-1)) [] ⟨rfl,rfl⟩))))
theorem fits0(c:Cfg)(n_:Int)(hc:c.Ok)(hn:¬n_<1)(h0:n_≤c.s0):
  Ctr Tryz.prog 24 #[cfgV c,vI n_] [] (Ret (vI 0) []):=by
 refine cB B24 16 Tryz.func24 ?_
 intro F
 refine gX [.e 0,.z [0,0,1] 1 [2,3,5]] (gN fun b_1=>gN fun b_2=>gQ b_1 (gS [.o [0,0,1] 1,.c [1,0,1],.c [1,1]] ?_))
 refine gC (some 6) [] Tryz.call64 (plan_Check c oM) ?_
 refine gX [.e 1,.sp [11,10] [.dead] [.z [0,1,1] 3 [13,14]]] (gQ b_2 (gQ (decide (n_<1)) (gF (decide (n_<1)) (decide_eq_false hn) (gS [.o [0,1,1] 3,.c [1,1,1]] ?_))))
 refine gC (some 15) [0,1] Tryz.call65 (index_Fits0 c b_1 b_2 n_ oM) ?_
 exact gX [] (gR (vI 0) [] ⟨rfl,rfl⟩)
theorem fits1(c:Cfg)(n_:Int)(hc:c.Ok)(hn:¬n_<1)(h0:¬n_≤c.s0)(h1:n_≤c.s1):
  Ctr Tryz.prog 24 #[cfgV c,vI n_] [] (Ret (vI 1) []):=by
 refine cB B24 16 Tryz.func24 ?_
 intro F
 refine gX [.e 0,.z [0,0,1] 1 [2,3,5]] (gN fun b_1=>gN fun b_2=>gQ b_1 (gS [.o [0,0,1] 1,.c [1,0,1],.c [1,1]] ?_))
 refine gC (some 6) [] Tryz.call64 (plan_Check c oM) ?_
 refine gX [.e 1,.sp [11,10] [.dead] [.z [0,1,1] 3 [13,14]]] (gQ b_2 (gQ (decide (n_<1)) (gF (decide (n_<1)) (decide_eq_false hn) (gS [.o [0,1,1] 3,.c [1,1,1]] ?_))))
 refine gC (some 15) [0,1] Tryz.call65 (index_Fits1 c b_1 b_2 n_ oM oM) ?_
 exact gX [] (gR (vI 1) [] ⟨rfl,rfl⟩)
theorem fits2(c:Cfg)(n_:Int)(hc:c.Ok)(hn:¬n_<1)(h0:¬n_≤c.s0)(h1:¬n_≤c.s1):
  Ctr Tryz.prog 24 #[cfgV c,vI n_] [] (Ret (vI (-1)) []):=by
 refine cB B24 16 Tryz.func24 ?_
 intro F
 refine gX [.e 0,.z [0,0,1] 1 [2,3,5]] (gN fun b_1=>gN fun b_2=>gQ b_1 (gS [.o [0,0,1] 1,.c [1,0,1],.c [1,1]] ?_))
 refine gC (some 6) [] Tryz.call64 (plan_Check c oM) ?_
 refine gX [.e 1,.sp [11,10] [.dead] [.z [0,1,1] 3 [13,14]]] (gQ b_2 (gQ (decide (n_<1)) (gF (decide (n_<1)) (decide_eq_false hn) (gS [.o [0,1,1] 3,.c [1,1,1]] ?_))))
 refine gC (some 15) [0,1] Tryz.call65 (index_Fits2 c b_1 b_2 n_ oM oM) ?_
 exact gX [] (gR (vI (-1)) [] ⟨rfl,rfl⟩)
theorem large_Fits(c:Cfg)(n_:Int)(hc:c.Ok):
  Ctr Tryz.prog 24 #[cfgV c,vI n_] [] (Ret (vI (fitK c n_)) []):=by
 unfold fitK
 by_cases hn:n_<1
 ·rw [if_pos hn]; exact fitsL c n_ hc hn
 ·rw [if_neg hn]
  by_cases h0:n_≤c.s0
  ·rw [if_pos h0]; exact fits0 c n_ hc hn h0
  ·rw [if_neg h0]
   by_cases h1:n_≤c.s1
   ·rw [if_pos h1]; exact fits1 c n_ hc hn h0 h1
   ·rw [if_neg h1]; exact fits2 c n_ hc hn h0 h1
noncomputable def B49: Code:=(Tryz.f49.body).getD .skip
theorem new_Take(c:Cfg)(cl:Int)(hc:c.Ok)(hcl:0≤cl∧cl≤1):
  Ctr Tryz.prog 49 #[cfgV c,vI cl] [] (fun v L => ∃(k:Nat),v=vP k∧L=[E0bba3 k c (3+cl) 0 (.func (.func 104) #[vP k] #[]) cl 0 0]):=by
 refine cB B49 28 Tryz.func49 ?_
 intro F
 refine gX [.e 0,.z [0,0,1] 1 [1,2,6]] (gN fun b_1=>gQ b_1 (gS [.o [0,0,1] 1,.c [1,0,1],.c [1,1]] ?_))
 refine gC (some 7) [] Tryz.call64 (plan_Check c oM) ?_
 refine gX [.z [0,0,1] 5 [1,2,9,10]] (gS [.o [0,0,1] 5,.c [1,0,1],.c [1,1]] ?_)
 refine gC (some 11) [] Tryz.call103 (plan_Head cl hcl) ?_
 refine gX [.sp [13,12] [.dead] [.z [0,1,1] 0 [1,2]]] (gQ (decide ((3+cl)<0)) (gF (decide ((3+cl)<0)) (by first | (simp; done) | (simp; omega)) (gS [.c [0,1,1],.c [1,1,1]] ?_)))
 refine tO (kV 0 [.e 0,.ww,.q (vI (3+cl)),.ww,.ww,.ww]) 6 (kV 7 [.ww]) .w [5] (.e b_1 .n) (.c Tryz.call103 (qR [] (plan_Head cl hcl)) .n) (sN fun b_2=>(sV ?_))
 refine tN .n ?_
 exact gX [.e 1] (gQ b_2 (gJ [1] ⟨b_2,rfl,rfl⟩))
theorem tkrun_Done0(c:Cfg)(k:Nat)(hd sn cl bk af:Int):
  Ctr Tryz.prog 158 #[vP k] [E0bba3 k c hd sn (.nilFunc) cl bk af] (Ret (.bool true) [E0bba3 k c hd sn (.nilFunc) cl bk af]):=by
 refine cB B158 12 Tryz.func158 ?_
 intro F
 exact gX [.e 0] (gQ k (gJ [0] ⟨rfl,rfl⟩))
theorem tkrun_Done1(c:Cfg)(k:Nat)(hd sn cl bk af:Int):
  Ctr Tryz.prog 158 #[vP k] [E0bba3 k c hd sn (.func (.func 104) #[vP k] #[]) cl bk af] (Ret (.bool false) [E0bba3 k c hd sn (.func (.func 104) #[vP k] #[]) cl bk af]):=by
 refine cB B158 12 Tryz.func158 ?_
 intro F
 exact gX [.e 0] (gQ k (gJ [0] ⟨rfl,rfl⟩))
theorem tkrun_Done2(c:Cfg)(k:Nat)(hd sn cl bk af:Int):
  Ctr Tryz.prog 158 #[vP k] [E0bba3 k c hd sn (.func (.func 152) #[vP k] #[]) cl bk af] (Ret (.bool false) [E0bba3 k c hd sn (.func (.func 152) #[vP k] #[]) cl bk af]):=by
 refine cB B158 12 Tryz.func158 ?_
 intro F
 exact gX [.e 0] (gQ k (gJ [0] ⟨rfl,rfl⟩))
theorem tkrun_Done3(c:Cfg)(k:Nat)(hd sn cl bk af:Int):
  Ctr Tryz.prog 158 #[vP k] [E0bba3 k c hd sn (.func (.func 178) #[vP k] #[]) cl bk af] (Ret (.bool false) [E0bba3 k c hd sn (.func (.func 178) #[vP k] #[]) cl bk af]):=by
 refine cB B158 12 Tryz.func158 ?_
 intro F
 exact gX [.e 0] (gQ k (gJ [0] ⟨rfl,rfl⟩))
noncomputable def B109: Code:=(Tryz.f109.body).getD .skip
theorem tkDone0(c:Cfg)(k:Nat)(hd sn cl bk af:Int):
  Ctr Tryz.prog 109 #[vP k] [E0bba3 k c hd sn (.nilFunc) cl bk af] (Ret (.bool true) [E0bba3 k c hd sn (.nilFunc) cl bk af]):=by
 refine cB B109 11 Tryz.func109 ?_
 intro F
 refine gX [.z [0,1] 6 [5,8]] (gS [.o [0,1] 6,.c [1,1]] ?_)
 refine gC (some 9) [0] Tryz.call158 (tkrun_Done0 c k hd sn cl bk af) ?_
 exact gX [] (gJ [0] ⟨rfl,rfl⟩)
noncomputable def B53: Code:=(Tryz.f53.body).getD .skip
theorem tkBlock0(c:Cfg)(k:Nat)(hd sn cl bk af:Int):
  Ctr Tryz.prog 53 #[vP k] [E0bba3 k c hd sn (.nilFunc) cl bk af] (Ret (vI bk) [E0bba3 k c hd sn (.nilFunc) cl bk af]):=by
 refine cB B53 14 Tryz.func53 ?_
 intro F
 refine gX [.z [0,0,1] 4 [0,5,6]] (gS [.o [0,0,1] 4,.c [1,0,1],.c [1,1]] ?_)
 refine gC (some 7) [0] Tryz.call109 (tkDone0 c k hd sn cl bk af) ?_
 exact gX [.e 0] (gQ k (gJ [0] ⟨rfl,rfl⟩))
theorem tkrun_load(c:Cfg)(k ba:Nat)(hd sn cl bk af:Int)(A:Ar)(nx:Value)(hn:A.ws.length=A.n)(hs:0≤A.steps∧A.steps≤1000000000)(hh:0≤hd∧hd<A.n):
  Ctr Tryz.prog 150 #[vP k,vP ba] [E0bba3 k c hd sn nx cl bk af,E3504b ba A,E35fb1 A] (Ret (undef) [E0bba3 k c hd (A.ws.getD hd.toNat 0) nx cl bk af,E3504b ba (A.load hd),E35fb1 (A.load hd)]):=by
 refine cB B150 13 Tryz.func150 ?_
 intro F
 refine gX [.e 0,.z [] 6 [4,5,9]] (gQ k (gS [.o [] 6] ?_))
 refine gC (some 10) [1,2] Tryz.call116 (arena_Load ba A hd oM oM oM) ?_
 exact gX [.e 0] (gQ k (gJ [0,1,2] ⟨rfl,rfl⟩))
noncomputable def B104: Code:=(Tryz.f104.body).getD .skip
theorem tkFirstY(c:Cfg)(k ba:Nat)(hd sn cl bk af:Int)(A:Ar)(nx:Value)(hn:A.ws.length=A.n)(hs:0≤A.steps∧A.steps≤1000000000)(hh:0≤hd∧hd<A.n)(hc:c.Ok)(hR:U64 (A.ws.getD hd.toNat 0))(hq:clsOf c (lo32 (A.ws.getD hd.toNat 0))=cl):
  Ctr Tryz.prog 104 #[vP k,vP ba] [E0bba3 k c hd sn nx cl bk af,E3504b ba A,E35fb1 A] (Ret (undef) [E0bba3 k c hd (A.ws.getD hd.toNat 0) (.func (.func 152) #[vP k] #[]) cl (lo32 (A.ws.getD hd.toNat 0)) af,E3504b ba (A.load hd),E35fb1 (A.load hd)]):=by
 refine cB B104 46 Tryz.func104 ?_
 intro F
 refine gX [.z [0] 4 [0,6,7]] (gS [.o [0] 4,.c [1]] ?_)
 refine gC (some 8) [0,1,2] Tryz.call150 (tkrun_load c k ba hd sn cl bk af A nx oM oM oM) ?_
 refine gX [.e 0,.z [0,1] 6 [0,9,14]] (gQ k (gS [.o [0,1] 6,.c [1,1]] ?_))
 refine gC (some 15) [] Tryz.call151 (heads_Block (A.ws.getD hd.toNat 0) hR) ?_
 refine gX [.e 0,.e 0,.z [0,1,1,1] 0 [0]] (gQ k (gQ k (gS [.c [0,1,1,1],.c [1,1,1,1]] ?_)))
 refine qG (kV 0 [.ww,.ww,.ww,.ww,.e 0,.ww,.ww,.ww,.e 0,.q (vI (clsOf c (lo32 (A.ws.getD hd.toNat 0)))),.ww,.ww,.ww,.e 0,.t false]) [0,38] (.e k (.e k (.e k (.p (((clsOf c (lo32 (A.ws.getD hd.toNat 0))) != cl)=false) (by rw [hq]; simp) .n)))) (.c Tryz.call78 (qR [] (plan_Class_all c (lo32 (A.ws.getD hd.toNat 0)) oM (by have:=lo32_in (A.ws.getD hd.toNat 0); simp only [InK]; omega))) .n) ?_
 exact gX [] (gJ [0,1,2] ⟨rfl,rfl⟩)
theorem tkFirstN(c:Cfg)(k ba:Nat)(hd sn cl bk af:Int)(A:Ar)(nx:Value)(hn:A.ws.length=A.n)(hs:0≤A.steps∧A.steps≤1000000000)(hh:0≤hd∧hd<A.n)(hc:c.Ok)(hR:U64 (A.ws.getD hd.toNat 0))(hq:clsOf c (lo32 (A.ws.getD hd.toNat 0))≠cl):
  Ctr Tryz.prog 104 #[vP k,vP ba] [E0bba3 k c hd sn nx cl bk af,E3504b ba A,E35fb1 A] (Ret (undef) [E0bba3 k c hd (A.ws.getD hd.toNat 0) (.nilFunc) cl 0 af,E3504b ba (A.load hd),E35fb1 (A.load hd)]):=by
 refine cB B104 46 Tryz.func104 ?_
 intro F
 refine gX [.z [0] 4 [0,6,7]] (gS [.o [0] 4,.c [1]] ?_)
 refine gC (some 8) [0,1,2] Tryz.call150 (tkrun_load c k ba hd sn cl bk af A nx oM oM oM) ?_
 refine gX [.e 0,.z [0,1] 6 [0,9,14]] (gQ k (gS [.o [0,1] 6,.c [1,1]] ?_))
 refine gC (some 15) [] Tryz.call151 (heads_Block (A.ws.getD hd.toNat 0) hR) ?_
 refine gX [.e 0,.e 0,.z [0,1,1,1] 0 [0]] (gQ k (gQ k (gS [.c [0,1,1,1],.c [1,1,1,1]] ?_)))
 refine qG (kV 0 [.ww,.ww,.ww,.ww,.e 0,.ww,.ww,.ww,.e 0,.q (vI (clsOf c (lo32 (A.ws.getD hd.toNat 0)))),.ww,.ww,.ww,.e 0,.t true]) [0,38] (.e k (.e k (.e k (.p (((clsOf c (lo32 (A.ws.getD hd.toNat 0))) != cl)=true) (bne_iff_ne.2 hq) .n)))) (.c Tryz.call78 (qR [] (plan_Class_all c (lo32 (A.ws.getD hd.toNat 0)) oM (by have:=lo32_in (A.ws.getD hd.toNat 0); simp only [InK]; omega))) .n) ?_
 exact gX [.e 0,.e 0] (gQ k (gQ k (gJ [0,1,2] ⟨rfl,rfl⟩)))
noncomputable def B152: Code:=(Tryz.f152.body).getD .skip
theorem tkSecond(c:Cfg)(k ba:Nat)(hd sn cl bk af:Int)(A:Ar)(nx:Value)(hn:A.ws.length=A.n)(hs:0≤A.steps∧A.steps≤1000000000)(hc:c.Ok)(hk:0≤bk∧bk≤4294967295)(hb:0≤blockAt c bk∧blockAt c bk<A.n)(hR:U64 (A.ws.getD (blockAt c bk).toNat 0)):
  Ctr Tryz.prog 152 #[vP k,vP ba] [E0bba3 k c hd sn nx cl bk af,E3504b ba A,E35fb1 A] (Ret (undef) [E0bba3 k c hd sn (.func (.func 178) #[vP k] #[]) cl bk (lo32 (A.ws.getD (blockAt c bk).toNat 0)),E3504b ba (A.load (blockAt c bk)),E35fb1 (A.load (blockAt c bk))]):=by
 refine cB B152 26 Tryz.func152 ?_
 intro F
 refine gX [.z [0] 0 [0,1]] (gS [.c [0],.c [1]] ?_)
 refine zG ?_
 refine zN [0,1,2,3,4,5,6,7,8,9,10,11] (kV 0 [.w,.w,.w,.w,.w,.w,.e 0,.w,.w,.w,.e 0,.q (vI (blockAt c bk))]) [0,1,4,5,6,7,8,9,10,11,12,13,14,15] [12] (.e k (.e k (.q (lQ [] Tryz.call105 (plan_Block c bk oM (by simp only [InK]; omega))) .n))) ⟨?_,trivial⟩
 refine zC (some 16) [1,2] Tryz.call116 (arena_Load ba A (blockAt c bk) oM hb oM) ?_
 rintro v post ⟨rfl,rfl⟩
 refine zN [13,14,15] [(0,.w),(13,.q (vI (lo32 (A.ws.getD (blockAt c bk).toNat 0)))),(14,.w),(15,.w)] [16,0,4,17,18,19] [16] (.q (lQ [] Tryz.call151 (heads_Block (A.ws.getD (blockAt c bk).toNat 0) hR)) .n) ⟨?_,trivial⟩
 refine zX (.e 0) (sQ k (sK ?_))
 refine zE [] [] [0] .n ?_
 exact gX [.e 0] (gQ k (gJ [0,1,2] ⟨rfl,rfl⟩))
theorem tkrun_turnT(c:Cfg)(k ba:Nat)(hd sn cl bk af:Int)(A:Ar)(nx:Value)(hn:A.ws.length=A.n)(hs:0≤A.steps∧A.steps≤1000000000)(hh:0≤hd∧hd<A.n)(ha:0≤af∧af≤4294967295)(hw:0≤sn∧sn≤18446744073709551615)(hq:(A.ws.getD hd.toNat 0)=sn):
  Ctr Tryz.prog 193 #[vP k,vP ba,vI af] [E0bba3 k c hd sn nx cl bk af,E3504b ba A,E35fb1 A] (Ret (.bool true) [E0bba3 k c hd sn nx cl bk af,E3504b ba (A.swapT hd (turnW sn af)),E35fb1 (A.swapT hd (turnW sn af))]):=by
 refine cB B193 23 Tryz.func193 ?_
 intro F
 refine gX [.z [0,1] 0 [0,1,2]] (gS [.c [0,1],.c [1,1]] ?_)
 refine tC (some 22) (kV 0 [.ww,.ww,.ww,.ww,.e 0,.ww,.ww,.ww,.e 0,.ww,.ww,.ww,.e 0,.ww,.q (vU (turnW sn af))]) 15 (kV 16 [.ww]) [1,2] [6] Tryz.call185 (arena_SwapT ba A hd sn (turnW sn af) oM hh oM oM) (.e k (.e k (.e k .n))) (.c Tryz.call202 (qR [] (heads_Turn sn af oM ha)) .n) ?_
 rintro v post ⟨rfl,rfl⟩
 refine tN .n ?_
 exact gX [] (gJ [0,1,2] ⟨rfl,rfl⟩)
noncomputable def B178: Code:=(Tryz.f178.body).getD .skip
theorem tkThirdT(c:Cfg)(k ba:Nat)(hd sn cl bk af:Int)(A:Ar)(nx:Value)(hn:A.ws.length=A.n)(hs:0≤A.steps∧A.steps≤1000000000)(hh:0≤hd∧hd<A.n)(ha:0≤af∧af≤4294967295)(hw:0≤sn∧sn≤18446744073709551615)(hq:(A.ws.getD hd.toNat 0)=sn):
  Ctr Tryz.prog 178 #[vP k,vP ba] [E0bba3 k c hd sn nx cl bk af,E3504b ba A,E35fb1 A] (Ret (undef) [E0bba3 k c hd sn (.nilFunc) cl bk af,E3504b ba (A.swapT hd (turnW sn af)),E35fb1 (A.swapT hd (turnW sn af))]):=by
 refine cB B178 23 Tryz.func178 ?_
 intro F
 refine gX [.e 0,.z [0,1] 0 [0,1]] (gQ k (gS [.c [0,1],.c [1,1]] ?_))
 refine tC (some 18) (kV 0 [.ww,.ww,.ww,.ww,.ww,.ww,.ww,.e 0]) 8 [] [0,1,2] [0,18] Tryz.call193 (tkrun_turnT c k ba hd sn cl bk af A (.func (.func 104) #[vP k] #[]) oM oM oM oM oM oM) (.e k .n) .n ?_
 rintro v post ⟨rfl,rfl⟩
 refine tN .n ?_
 exact gX [.e 0] (gQ k (gJ [0,1,2] ⟨rfl,rfl⟩))
theorem tkrun_turnF(c:Cfg)(k ba:Nat)(hd sn cl bk af:Int)(A:Ar)(nx:Value)(hn:A.ws.length=A.n)(hs:0≤A.steps∧A.steps≤1000000000)(hh:0≤hd∧hd<A.n)(ha:0≤af∧af≤4294967295)(hw:0≤sn∧sn≤18446744073709551615)(hq:(A.ws.getD hd.toNat 0)≠sn):
  Ctr Tryz.prog 193 #[vP k,vP ba,vI af] [E0bba3 k c hd sn nx cl bk af,E3504b ba A,E35fb1 A] (Ret (.bool false) [E0bba3 k c hd sn nx cl bk af,E3504b ba (A.swapF hd),E35fb1 (A.swapF hd)]):=by
 refine cB B193 23 Tryz.func193 ?_
 intro F
 refine gX [.z [0,1] 0 [0,1,2]] (gS [.c [0,1],.c [1,1]] ?_)
 refine tC (some 22) (kV 0 [.ww,.ww,.ww,.ww,.e 0,.ww,.ww,.ww,.e 0,.ww,.ww,.ww,.e 0,.ww,.q (vU (turnW sn af))]) 15 (kV 16 [.ww]) [1,2] [6] Tryz.call185 (arena_SwapF ba A hd sn (turnW sn af) oM hh oM oM) (.e k (.e k (.e k .n))) (.c Tryz.call202 (qR [] (heads_Turn sn af oM ha)) .n) ?_
 rintro v post ⟨rfl,rfl⟩
 refine tN .n ?_
 exact gX [] (gJ [0,1,2] ⟨rfl,rfl⟩)
theorem tkThirdF(c:Cfg)(k ba:Nat)(hd sn cl bk af:Int)(A:Ar)(nx:Value)(hn:A.ws.length=A.n)(hs:0≤A.steps∧A.steps≤1000000000)(hh:0≤hd∧hd<A.n)(ha:0≤af∧af≤4294967295)(hw:0≤sn∧sn≤18446744073709551615)(hq:(A.ws.getD hd.toNat 0)≠sn):
  Ctr Tryz.prog 178 #[vP k,vP ba] [E0bba3 k c hd sn nx cl bk af,E3504b ba A,E35fb1 A] (Ret (undef) [E0bba3 k c hd sn (.func (.func 104) #[vP k] #[]) cl bk af,E3504b ba (A.swapF hd),E35fb1 (A.swapF hd)]):=by
 refine cB B178 23 Tryz.func178 ?_
 intro F
 refine gX [.e 0,.z [0,1] 0 [0,1]] (gQ k (gS [.c [0,1],.c [1,1]] ?_))
 refine tC (some 18) (kV 0 [.ww,.ww,.ww,.ww,.ww,.ww,.ww,.e 0]) 8 [] [0,1,2] [0,18] Tryz.call193 (tkrun_turnF c k ba hd sn cl bk af A (.func (.func 104) #[vP k] #[]) oM oM oM oM oM oM) (.e k .n) .n ?_
 rintro v post ⟨rfl,rfl⟩
 refine tN .n ?_
 exact gX [] (gJ [0,1,2] ⟨rfl,rfl⟩)
theorem tkrun_Step0(c:Cfg)(k ba:Nat)(hd sn cl bk af:Int)(A:Ar)(hn:A.ws.length=A.n)(hs:0≤A.steps∧A.steps≤1000000000)(hh:0≤hd∧hd<A.n)(hc:c.Ok)(hk:0≤bk∧bk≤4294967295)(hw:0≤sn∧sn≤18446744073709551615)(ha:0≤af∧af≤4294967295):
  Ctr Tryz.prog 174 #[vP k,vP ba] [E0bba3 k c hd sn (.nilFunc) cl bk af,E3504b ba A,E35fb1 A] (Ret (.bool true) [E0bba3 k c hd sn (.nilFunc) cl bk af,E3504b ba A,E35fb1 A]):=by
 refine cB B174 16 Tryz.func174 ?_
 intro F
 refine gX [.z [0,0,1] 1 [0,1,5]] (gS [.o [0,0,1] 1,.c [1,0,1],.c [1,1]] ?_)
 refine gC (some 6) [0] Tryz.call158 (tkrun_Done0 c k hd sn cl bk af) ?_
 refine gX [.z [0,1,1] 1 [14]] (gS [.o [0,1,1] 1,.c [1,1,1]] ?_)
 refine gC (some 15) [2] Tryz.call158 (tkrun_Done0 c k hd sn cl bk af) ?_
 exact gX [] (gJ [2,0,1] ⟨rfl,rfl⟩)
theorem tkrun_Step1Y(c:Cfg)(k ba:Nat)(hd sn cl bk af:Int)(A:Ar)(hn:A.ws.length=A.n)(hs:0≤A.steps∧A.steps≤1000000000)(hh:0≤hd∧hd<A.n)(hc:c.Ok)(hk:0≤bk∧bk≤4294967295)(hw:0≤sn∧sn≤18446744073709551615)(ha:0≤af∧af≤4294967295)(hR:U64 (A.ws.getD hd.toNat 0))(hq:clsOf c (lo32 (A.ws.getD hd.toNat 0))=cl):
  Ctr Tryz.prog 174 #[vP k,vP ba] [E0bba3 k c hd sn (.func (.func 104) #[vP k] #[]) cl bk af,E3504b ba A,E35fb1 A] (Ret (.bool false) [E0bba3 k c hd (A.ws.getD hd.toNat 0) (.func (.func 152) #[vP k] #[]) cl (lo32 (A.ws.getD hd.toNat 0)) af,E3504b ba (A.load hd),E35fb1 (A.load hd)]):=by
 refine cB B174 16 Tryz.func174 ?_
 intro F
 refine gX [.z [0,0,1] 1 [0,1,5]] (gS [.o [0,0,1] 1,.c [1,0,1],.c [1,1]] ?_)
 refine gC (some 6) [0] Tryz.call158 (tkrun_Done1 c k hd sn cl bk af) ?_
 refine gX [.e 2,.z [0,1,0,1] 5 [0,11,12]] (gQ k (gS [.o [0,1,0,1] 5,.c [1,1]] ?_))
 refine gC (some 13) [2,0,1] Tryz.call104 (tkFirstY c k ba hd sn cl bk af A (.func (.func 104) #[vP k] #[]) oM oM oM oM oM oM) ?_
 refine gX [.z [0,1,1] 1 [14]] (gS [.o [0,1,1] 1,.c [1,1,1]] ?_)
 refine gC (some 15) [0] Tryz.call158 (tkrun_Done2 c k hd (A.ws.getD hd.toNat 0) cl (lo32 (A.ws.getD hd.toNat 0)) af) ?_
 exact gX [] (gJ [2,0,1] ⟨rfl,rfl⟩)
theorem tkrun_Step1N(c:Cfg)(k ba:Nat)(hd sn cl bk af:Int)(A:Ar)(hn:A.ws.length=A.n)(hs:0≤A.steps∧A.steps≤1000000000)(hh:0≤hd∧hd<A.n)(hc:c.Ok)(hk:0≤bk∧bk≤4294967295)(hw:0≤sn∧sn≤18446744073709551615)(ha:0≤af∧af≤4294967295)(hR:U64 (A.ws.getD hd.toNat 0))(hq:clsOf c (lo32 (A.ws.getD hd.toNat 0))≠cl):
  Ctr Tryz.prog 174 #[vP k,vP ba] [E0bba3 k c hd sn (.func (.func 104) #[vP k] #[]) cl bk af,E3504b ba A,E35fb1 A] (Ret (.bool true) [E0bba3 k c hd (A.ws.getD hd.toNat 0) (.nilFunc) cl 0 af,E3504b ba (A.load hd),E35fb1 (A.load hd)]):=by
 refine cB B174 16 Tryz.func174 ?_
 intro F
 refine gX [.z [0,0,1] 1 [0,1,5]] (gS [.o [0,0,1] 1,.c [1,0,1],.c [1,1]] ?_)
 refine gC (some 6) [0] Tryz.call158 (tkrun_Done1 c k hd sn cl bk af) ?_
 refine gX [.e 2,.z [0,1,0,1] 5 [0,11,12]] (gQ k (gS [.o [0,1,0,1] 5,.c [1,1]] ?_))
 refine gC (some 13) [2,0,1] Tryz.call104 (tkFirstN c k ba hd sn cl bk af A (.func (.func 104) #[vP k] #[]) oM oM oM oM oM oM) ?_
 refine gX [.z [0,1,1] 1 [14]] (gS [.o [0,1,1] 1,.c [1,1,1]] ?_)
 refine gC (some 15) [0] Tryz.call158 (tkrun_Done0 c k hd (A.ws.getD hd.toNat 0) cl 0 af) ?_
 exact gX [] (gJ [2,0,1] ⟨rfl,rfl⟩)
theorem tkrun_Step2(c:Cfg)(k ba:Nat)(hd sn cl bk af:Int)(A:Ar)(hn:A.ws.length=A.n)(hs:0≤A.steps∧A.steps≤1000000000)(hh:0≤hd∧hd<A.n)(hc:c.Ok)(hk:0≤bk∧bk≤4294967295)(hw:0≤sn∧sn≤18446744073709551615)(ha:0≤af∧af≤4294967295)(hb:0≤blockAt c bk∧blockAt c bk<A.n)(hR:U64 (A.ws.getD (blockAt c bk).toNat 0)):
  Ctr Tryz.prog 174 #[vP k,vP ba] [E0bba3 k c hd sn (.func (.func 152) #[vP k] #[]) cl bk af,E3504b ba A,E35fb1 A] (Ret (.bool false) [E0bba3 k c hd sn (.func (.func 178) #[vP k] #[]) cl bk (lo32 (A.ws.getD (blockAt c bk).toNat 0)),E3504b ba (A.load (blockAt c bk)),E35fb1 (A.load (blockAt c bk))]):=by
 refine cB B174 16 Tryz.func174 ?_
 intro F
 refine gX [.z [0,0,1] 1 [0,1,5]] (gS [.o [0,0,1] 1,.c [1,0,1],.c [1,1]] ?_)
 refine gC (some 6) [0] Tryz.call158 (tkrun_Done2 c k hd sn cl bk af) ?_
 refine gX [.e 2,.z [0,1,0,1] 5 [0,11,12]] (gQ k (gS [.o [0,1,0,1] 5,.c [1,1]] ?_))
 refine gC (some 13) [2,0,1] Tryz.call152 (tkSecond c k ba hd sn cl bk af A (.func (.func 152) #[vP k] #[]) oM oM oM oM oM oM) ?_
 refine gX [.z [0,1,1] 1 [14]] (gS [.o [0,1,1] 1,.c [1,1,1]] ?_)
 refine gC (some 15) [0] Tryz.call158 (tkrun_Done3 c k hd sn cl bk (lo32 (A.ws.getD (blockAt c bk).toNat 0))) ?_
 exact gX [] (gJ [2,0,1] ⟨rfl,rfl⟩)
theorem tkrun_Step3T(c:Cfg)(k ba:Nat)(hd sn cl bk af:Int)(A:Ar)(hn:A.ws.length=A.n)(hs:0≤A.steps∧A.steps≤1000000000)(hh:0≤hd∧hd<A.n)(hc:c.Ok)(hk:0≤bk∧bk≤4294967295)(hw:0≤sn∧sn≤18446744073709551615)(ha:0≤af∧af≤4294967295)(hq:(A.ws.getD hd.toNat 0)=sn):
  Ctr Tryz.prog 174 #[vP k,vP ba] [E0bba3 k c hd sn (.func (.func 178) #[vP k] #[]) cl bk af,E3504b ba A,E35fb1 A] (Ret (.bool true) [E0bba3 k c hd sn (.nilFunc) cl bk af,E3504b ba (A.swapT hd (turnW sn af)),E35fb1 (A.swapT hd (turnW sn af))]):=by
 refine cB B174 16 Tryz.func174 ?_
 intro F
 refine gX [.z [0,0,1] 1 [0,1,5]] (gS [.o [0,0,1] 1,.c [1,0,1],.c [1,1]] ?_)
 refine gC (some 6) [0] Tryz.call158 (tkrun_Done3 c k hd sn cl bk af) ?_
 refine gX [.e 2,.z [0,1,0,1] 5 [0,11,12]] (gQ k (gS [.o [0,1,0,1] 5,.c [1,1]] ?_))
 refine gC (some 13) [2,0,1] Tryz.call178 (tkThirdT c k ba hd sn cl bk af A (.func (.func 178) #[vP k] #[]) oM oM oM oM oM oM) ?_
 refine gX [.z [0,1,1] 1 [14]] (gS [.o [0,1,1] 1,.c [1,1,1]] ?_)
 refine gC (some 15) [0] Tryz.call158 (tkrun_Done0 c k hd sn cl bk af) ?_
 exact gX [] (gJ [2,0,1] ⟨rfl,rfl⟩)
theorem tkrun_Step3F(c:Cfg)(k ba:Nat)(hd sn cl bk af:Int)(A:Ar)(hn:A.ws.length=A.n)(hs:0≤A.steps∧A.steps≤1000000000)(hh:0≤hd∧hd<A.n)(hc:c.Ok)(hk:0≤bk∧bk≤4294967295)(hw:0≤sn∧sn≤18446744073709551615)(ha:0≤af∧af≤4294967295)(hq:(A.ws.getD hd.toNat 0)≠sn):
  Ctr Tryz.prog 174 #[vP k,vP ba] [E0bba3 k c hd sn (.func (.func 178) #[vP k] #[]) cl bk af,E3504b ba A,E35fb1 A] (Ret (.bool false) [E0bba3 k c hd sn (.func (.func 104) #[vP k] #[]) cl bk af,E3504b ba (A.swapF hd),E35fb1 (A.swapF hd)]):=by
 refine cB B174 16 Tryz.func174 ?_
 intro F
 refine gX [.z [0,0,1] 1 [0,1,5]] (gS [.o [0,0,1] 1,.c [1,0,1],.c [1,1]] ?_)
 refine gC (some 6) [0] Tryz.call158 (tkrun_Done3 c k hd sn cl bk af) ?_
 refine gX [.e 2,.z [0,1,0,1] 5 [0,11,12]] (gQ k (gS [.o [0,1,0,1] 5,.c [1,1]] ?_))
 refine gC (some 13) [2,0,1] Tryz.call178 (tkThirdF c k ba hd sn cl bk af A (.func (.func 178) #[vP k] #[]) oM oM oM oM oM oM) ?_
 refine gX [.z [0,1,1] 1 [14]] (gS [.o [0,1,1] 1,.c [1,1,1]] ?_)
 refine gC (some 15) [0] Tryz.call158 (tkrun_Done1 c k hd sn cl bk af) ?_
 exact gX [] (gJ [2,0,1] ⟨rfl,rfl⟩)
noncomputable def B228: Code:=(Tryz.f228.body).getD .skip
theorem tkStep0(c:Cfg)(k ba:Nat)(hd sn cl bk af:Int)(A:Ar)(hn:A.ws.length=A.n)(hs:0≤A.steps∧A.steps≤1000000000)(hh:0≤hd∧hd<A.n)(hc:c.Ok)(hk:0≤bk∧bk≤4294967295)(hw:0≤sn∧sn≤18446744073709551615)(ha:0≤af∧af≤4294967295):
  Ctr Tryz.prog 228 #[vP k,vP ba] [E0bba3 k c hd sn (.nilFunc) cl bk af,E3504b ba A,E35fb1 A] (Ret (.bool true) [E0bba3 k c hd sn (.nilFunc) cl bk af,E3504b ba A,E35fb1 A]):=by
 refine cB B228 14 Tryz.func228 ?_
 intro F
 refine gX [.z [0,1] 7 [7,10,11]] (gS [.o [0,1] 7,.c [1,1]] ?_)
 refine gC (some 12) [0,1,2] Tryz.call174 (tkrun_Step0 c k ba hd sn cl bk af A oM oM oM oM oM oM oM) ?_
 exact gX [] (gJ [0,1,2] ⟨rfl,rfl⟩)
theorem tkStep1Y(c:Cfg)(k ba:Nat)(hd sn cl bk af:Int)(A:Ar)(hn:A.ws.length=A.n)(hs:0≤A.steps∧A.steps≤1000000000)(hh:0≤hd∧hd<A.n)(hc:c.Ok)(hk:0≤bk∧bk≤4294967295)(hw:0≤sn∧sn≤18446744073709551615)(ha:0≤af∧af≤4294967295)(hR:U64 (A.ws.getD hd.toNat 0))(hq:clsOf c (lo32 (A.ws.getD hd.toNat 0))=cl):
  Ctr Tryz.prog 228 #[vP k,vP ba] [E0bba3 k c hd sn (.func (.func 104) #[vP k] #[]) cl bk af,E3504b ba A,E35fb1 A] (Ret (.bool false) [E0bba3 k c hd (A.ws.getD hd.toNat 0) (.func (.func 152) #[vP k] #[]) cl (lo32 (A.ws.getD hd.toNat 0)) af,E3504b ba (A.load hd),E35fb1 (A.load hd)]):=by
 refine cB B228 14 Tryz.func228 ?_
 intro F
 refine gX [.z [0,1] 7 [7,10,11]] (gS [.o [0,1] 7,.c [1,1]] ?_)
 refine gC (some 12) [0,1,2] Tryz.call174 (tkrun_Step1Y c k ba hd sn cl bk af A oM oM oM oM oM oM oM oM oM) ?_
 exact gX [] (gJ [0,1,2] ⟨rfl,rfl⟩)
theorem tkStep1N(c:Cfg)(k ba:Nat)(hd sn cl bk af:Int)(A:Ar)(hn:A.ws.length=A.n)(hs:0≤A.steps∧A.steps≤1000000000)(hh:0≤hd∧hd<A.n)(hc:c.Ok)(hk:0≤bk∧bk≤4294967295)(hw:0≤sn∧sn≤18446744073709551615)(ha:0≤af∧af≤4294967295)(hR:U64 (A.ws.getD hd.toNat 0))(hq:clsOf c (lo32 (A.ws.getD hd.toNat 0))≠cl):
  Ctr Tryz.prog 228 #[vP k,vP ba] [E0bba3 k c hd sn (.func (.func 104) #[vP k] #[]) cl bk af,E3504b ba A,E35fb1 A] (Ret (.bool true) [E0bba3 k c hd (A.ws.getD hd.toNat 0) (.nilFunc) cl 0 af,E3504b ba (A.load hd),E35fb1 (A.load hd)]):=by
 refine cB B228 14 Tryz.func228 ?_
 intro F
 refine gX [.z [0,1] 7 [7,10,11]] (gS [.o [0,1] 7,.c [1,1]] ?_)
 refine gC (some 12) [0,1,2] Tryz.call174 (tkrun_Step1N c k ba hd sn cl bk af A oM oM oM oM oM oM oM oM oM) ?_
 exact gX [] (gJ [0,1,2] ⟨rfl,rfl⟩)
theorem tkStep2(c:Cfg)(k ba:Nat)(hd sn cl bk af:Int)(A:Ar)(hn:A.ws.length=A.n)(hs:0≤A.steps∧A.steps≤1000000000)(hh:0≤hd∧hd<A.n)(hc:c.Ok)(hk:0≤bk∧bk≤4294967295)(hw:0≤sn∧sn≤18446744073709551615)(ha:0≤af∧af≤4294967295)(hb:0≤blockAt c bk∧blockAt c bk<A.n)(hR:U64 (A.ws.getD (blockAt c bk).toNat 0)):
  Ctr Tryz.prog 228 #[vP k,vP ba] [E0bba3 k c hd sn (.func (.func 152) #[vP k] #[]) cl bk af,E3504b ba A,E35fb1 A] (Ret (.bool false) [E0bba3 k c hd sn (.func (.func 178) #[vP k] #[]) cl bk (lo32 (A.ws.getD (blockAt c bk).toNat 0)),E3504b ba (A.load (blockAt c bk)),E35fb1 (A.load (blockAt c bk))]):=by
 refine cB B228 14 Tryz.func228 ?_
 intro F
 refine gX [.z [0,1] 7 [7,10,11]] (gS [.o [0,1] 7,.c [1,1]] ?_)
 refine gC (some 12) [0,1,2] Tryz.call174 (tkrun_Step2 c k ba hd sn cl bk af A oM oM oM oM oM oM oM oM oM) ?_
 exact gX [] (gJ [0,1,2] ⟨rfl,rfl⟩)
theorem tkStep3T(c:Cfg)(k ba:Nat)(hd sn cl bk af:Int)(A:Ar)(hn:A.ws.length=A.n)(hs:0≤A.steps∧A.steps≤1000000000)(hh:0≤hd∧hd<A.n)(hc:c.Ok)(hk:0≤bk∧bk≤4294967295)(hw:0≤sn∧sn≤18446744073709551615)(ha:0≤af∧af≤4294967295)(hq:(A.ws.getD hd.toNat 0)=sn):
  Ctr Tryz.prog 228 #[vP k,vP ba] [E0bba3 k c hd sn (.func (.func 178) #[vP k] #[]) cl bk af,E3504b ba A,E35fb1 A] (Ret (.bool true) [E0bba3 k c hd sn (.nilFunc) cl bk af,E3504b ba (A.swapT hd (turnW sn af)),E35fb1 (A.swapT hd (turnW sn af))]):=by
 refine cB B228 14 Tryz.func228 ?_
 intro F
 refine gX [.z [0,1] 7 [7,10,11]] (gS [.o [0,1] 7,.c [1,1]] ?_)
 refine gC (some 12) [0,1,2] Tryz.call174 (tkrun_Step3T c k ba hd sn cl bk af A oM oM oM oM oM oM oM oM) ?_
 exact gX [] (gJ [0,1,2] ⟨rfl,rfl⟩)
theorem tkStep3F(c:Cfg)(k ba:Nat)(hd sn cl bk af:Int)(A:Ar)(hn:A.ws.length=A.n)(hs:0≤A.steps∧A.steps≤1000000000)(hh:0≤hd∧hd<A.n)(hc:c.Ok)(hk:0≤bk∧bk≤4294967295)(hw:0≤sn∧sn≤18446744073709551615)(ha:0≤af∧af≤4294967295)(hq:(A.ws.getD hd.toNat 0)≠sn):
  Ctr Tryz.prog 228 #[vP k,vP ba] [E0bba3 k c hd sn (.func (.func 178) #[vP k] #[]) cl bk af,E3504b ba A,E35fb1 A] (Ret (.bool false) [E0bba3 k c hd sn (.func (.func 104) #[vP k] #[]) cl bk af,E3504b ba (A.swapF hd),E35fb1 (A.swapF hd)]):=by
 refine cB B228 14 Tryz.func228 ?_
 intro F
 refine gX [.z [0,1] 7 [7,10,11]] (gS [.o [0,1] 7,.c [1,1]] ?_)
 refine gC (some 12) [0,1,2] Tryz.call174 (tkrun_Step3F c k ba hd sn cl bk af A oM oM oM oM oM oM oM oM) ?_
 exact gX [] (gJ [0,1,2] ⟨rfl,rfl⟩)
theorem take_Step(c:Cfg)(k ba:Nat)(T:Tk)(A:Ar)(hn:A.ws.length=A.n)(hs:0≤A.steps∧A.steps≤1000000000)(hc:c.Ok)(hz:(A.n:Int)=sizeOfC c)(hR:RngW A.ws)(hT:T.Ok c):
  Ctr Tryz.prog 228 #[vP k,vP ba] [E65ea3 k c T k,E3504b ba A,E35fb1 A] (Ret (.bool ((T.step c A).1.ph==0)) [Ef47d3 k c ((T.step c A).1) k (((T.step c A).1).ph),E3504b ba ((T.step c A).2),E35fb1 ((T.step c A).2)]):=by
 obtain⟨hd,cl,sn,bk,af,ph⟩:=T
 obtain⟨h1,h2,h3,h4,h5,h6,h7,hbk⟩:=hT
 simp only at h1 h2 h3 h4 h5 h6 h7 hbk
 have hz5:=sizeOfC_ok hc
 have hh:0≤hd∧hd<A.n:=by omega
 match ph,h1 with
 | 0,_=>exact tkStep0 c k ba hd sn cl bk af A hn hs hh hc hbk h4 h5
 | 1,_=>
  by_cases hq:clsOf c (lo32 (A.ws.getD hd.toNat 0))=cl
  ·have e:Tk.step c ⟨hd,cl,sn,bk,af,1⟩ A=(⟨hd,cl,A.ws.getD hd.toNat 0,lo32 (A.ws.getD hd.toNat 0),af,2⟩,A.load hd):=by show(if _ then _ else _) = _; rw [if_pos hq]
   rw [e]; exact tkStep1Y c k ba hd sn cl bk af A hn hs hh hc hbk h4 h5 (hR _) hq
  ·have e:Tk.step c ⟨hd,cl,sn,bk,af,1⟩ A=(⟨hd,cl,A.ws.getD hd.toNat 0,0,af,0⟩,A.load hd):=by show(if _ then _ else _) = _; rw [if_neg hq]
   rw [e]; exact tkStep1N c k ba hd sn cl bk af A hn hs hh hc hbk h4 h5 (hR _) hq
 | 2,_=>
  have hb:=blockAt_ok hc (b:=bk) (by have:=h6 (.inl rfl); omega)
  exact tkStep2 c k ba hd sn cl bk af A hn hs hh hc hbk h4 h5 (by omega) (hR _)
 | 3,_=>
  by_cases hq:A.ws.getD hd.toNat 0=sn
  ·have e:Tk.step c ⟨hd,cl,sn,bk,af,3⟩ A=(⟨hd,cl,sn,bk,af,0⟩,A.swapT hd (turnW sn af)):=by show(if _ then _ else _) = _; rw [if_pos hq]
   rw [e]; exact tkStep3T c k ba hd sn cl bk af A hn hs hh hc hbk h4 h5 hq
  ·have e:Tk.step c ⟨hd,cl,sn,bk,af,3⟩ A=(⟨hd,cl,sn,bk,af,1⟩,A.swapF hd):=by show(if _ then _ else _) = _; rw [if_neg hq]
   rw [e]; exact tkStep3F c k ba hd sn cl bk af A hn hs hh hc hbk h4 h5 hq
 | n+4,h=>omega
theorem new_TakeC(c:Cfg)(cl:Int)(hc:c.Ok)(hcl:0≤cl∧cl≤1):
  Ctr Tryz.prog 49 #[cfgV c,vI cl] [] (fun v L => ∃(k:Nat),v=vP k∧L=[E65ea3 k c (newTk cl) k]):=new_Take c cl hc hcl
theorem take_Block(c:Cfg)(k:Nat)(T:Tk)(hd:T.ph=0):
  Ctr Tryz.prog 53 #[vP k] [E65ea3 k c T k] (Ret (vI T.block) [E65ea3 k c T k]):=by
 obtain⟨hd',cl,sn,bk,af,ph⟩:=T
 simp only at hd
 subst hd
 exact tkBlock0 c k hd' sn cl bk af
end Go.Proofs.YtpcaijopodhdgaaGreatDoor
namespace Go.Proofs.YtpcaijopodhdgaaGreatDoor
open Go.Sx
abbrev E30dd4(x0:Nat)(x1:Value)(x2:Value)(x3:Int)(x4:Bool)(c5:Cfg)(x6:Int)(x7:Int)(x8:Value)(x9:Int)(x10:Int)(x11:Int)(x12:Int)(x13:Int): Ent:=.pts x0 [x1,x2,.int .i64 x3,.bool x4,.int .i64 c5.topics,.int .i64 c5.small,.int .i64 c5.slots,.int .i64 c5.clients,.int .i64 c5.s0,.int .i64 c5.n0,.int .i64 c5.s1,.int .i64 c5.n1,.int .i64 c5.retry,.int .i64 x6,.int .i64 x7,x8,.int .i64 x9,.int .i64 x10,.int .u64 x11,.int .i64 x12,.int .i64 x13] 109
abbrev Ef60d6(x0:Nat)(x1:Value)(x2:Value)(x3:Int)(x4:Bool)(c5:Cfg)(x6:Int)(x7:Int)(x8:Option Addr)(x9:Nat)(x10:Nat)(x11:Int)(x12:Int)(x13:Int)(x14:Int)(x15:Int): Ent:=.pts x0 [x1,x2,.int .i64 x3,.bool x4,.int .i64 c5.topics,.int .i64 c5.small,.int .i64 c5.slots,.int .i64 c5.clients,.int .i64 c5.s0,.int .i64 c5.n0,.int .i64 c5.s1,.int .i64 c5.n1,.int .i64 c5.retry,.int .i64 x6,.int .i64 x7,.slice x8 x9 x10,.int .i64 x11,.int .i64 x12,.int .u64 x13,.int .i64 x14,.int .i64 x15] 109
abbrev Eb76a9(x0:Nat)(x1:Value)(x2:Int)(x3:Bool)(c4:Cfg)(x5:Int)(x6:Int)(x7:Option Addr)(x8:Nat)(x9:Nat)(x10:Int)(x11:Int)(x12:Int)(x13:Int)(x14:Int): Ent:=.pts x0 [.nilIface,x1,.int .i64 x2,.bool x3,.int .i64 c4.topics,.int .i64 c4.small,.int .i64 c4.slots,.int .i64 c4.clients,.int .i64 c4.s0,.int .i64 c4.n0,.int .i64 c4.s1,.int .i64 c4.n1,.int .i64 c4.retry,.int .i64 x5,.int .i64 x6,.slice x7 x8 x9,.int .i64 x10,.int .i64 x11,.int .u64 x12,.int .i64 x13,.int .i64 x14] 109
noncomputable def B50: Code:=(Tryz.f50.body).getD .skip
theorem pub_follow(c:Cfg)(p:Nat)(wd ep bk od sn fl tm cd:Int)(ov:Bool)(wsl:Value)(r_ th_:Value)(T_:TypeId)(x_:Nat)(f_:Fn)(a_ c_:Array Value):
  Ctr Tryz.prog 50 #[vP p,.iface T_ (vP x_),.func f_ a_ c_] [E30dd4 p r_ th_ cd ov c wd ep wsl bk od sn fl tm] (Ret (undef) [E30dd4 p (.iface T_ (vP x_)) (.func f_ a_ c_) cd ov c wd ep wsl bk od sn fl tm]):=by
 refine cB B50 12 Tryz.func50 ?_
 intro F
 exact gX [.e 0] (gQ p (gJ [0] ⟨rfl,rfl⟩))
noncomputable def B57: Code:=(Tryz.f57.body).getD .skip
theorem pub_end(c:Cfg)(p:Nat)(wd ep bk od sn fl tm cd:Int)(ov:Bool)(wsl:Value)(r_ th_:Value)(k_:Int):
  Ctr Tryz.prog 57 #[vP p,vI k_] [E30dd4 p r_ th_ cd ov c wd ep wsl bk od sn fl tm] (Ret (undef) [E30dd4 p r_ th_ k_ true c wd ep wsl bk od sn fl tm]):=by
 refine cB B57 11 Tryz.func57 ?_
 intro F
 exact gX [.e 0,.e 0] (gQ p (gQ p (gJ [0] ⟨rfl,rfl⟩)))
noncomputable def B52: Code:=(Tryz.f52.body).getD .skip
theorem pub_taken0(c:Cfg)(p:Nat)(wd ep bk od sn fl tm cd:Int)(ov:Bool)(wsl:Value)(r_ th_:Value)(b_:Int)(h0:b_ = 0):
  Ctr Tryz.prog 52 #[vP p,vI b_] [E30dd4 p r_ th_ cd ov c wd ep wsl bk od sn fl tm] (Ret (undef) [E30dd4 p r_ th_ 18 true c wd ep wsl bk od sn fl tm]):=by
 refine cB B52 37 Tryz.func52 ?_
 intro F
 refine gX [.sp [6] [.e 1,.z [0,0,1,0,1] 3 [9]] [.dead]] (gN fun b_1=>gT (b_==0) (by simp [h0]) (gQ b_1 (gS [.o [0,0,1,0,1] 3,.c [1,0,1,0,1],.c [1,1]] ?_)))
 refine gC (some 10) [0] Tryz.call57 (pub_end c p wd ep bk od sn fl tm cd ov wsl r_ th_ 18) ?_
 exact gX [] (gJ [1] ⟨rfl,rfl⟩)
theorem pub_taken1(c:Cfg)(p:Nat)(wd ep bk od sn fl tm cd:Int)(wa:Option Addr)(wn wc:Nat)(r_ th_:Value)(b_:Int)(hc:c.Ok)(hb0:b_≠0)(hb:0≤clsOf c b_):
  Ctr Tryz.prog 52 #[vP p,vI b_] [Ef60d6 p r_ th_ cd false c wd ep wa wn wc bk od sn fl tm] (fun v L => ∃(eb:Nat) (bf:Nat) (bp:Nat),v=undef∧L=[Ef60d6 p (.iface 173 (vP eb)) (.func (.func 108) #[vP p] #[]) cd false c wd ep wa wn wc b_ od sn fl tm,.pts eb [vI 0,vI ((wn:Nat):Int),.func (.func 106) #[] #[vP bf,vP bp]] 176,.pts bf [vI (blockAt c b_+1)] 3,.pts bp [vP p] 23]):=by
 refine cB B52 37 Tryz.func52 ?_
 intro F
 refine gX [.sp [6] [.dead] [.e 1,.e 0,.e 1,.e 0,.z [0,1,1,1] 5 [2,18,19]]] (gN fun b_1=>gF (b_==0) (by simp [hb0]) (gQ b_1 (gQ p (gQ b_1 (gQ p (gS [.o [0,1,1,1] 5,.c [1,1,1,1]] ?_))))))
 refine gC (some 20) [] Tryz.call105 (plan_Block c b_ oM (by have:=clsOf_ok hb; simp only [Cfg.Ok,InK] at *; omega)) ?_
 refine gX [.n,.e 2,.z [1,1,1,1] 0 [2,4]] (gO (InK .i64 ((blockAt c b_)+1)) (by have h7:=blockAt_ok hc hb; have h8:=sizeOfC_ok hc; simp only [InK]; omega) (gN fun b_2=>gQ b_2 (gS [.c [1,1,1,1]] ?_)))
 refine zG ?_
 refine zN [0,1,2,3,4,5,6,7,8,9,12,13] (kV 0 [.e 1,.w,.w,.e 1,.w,.w,.e 0,.w,.w,.w]++kV 12 [.e 1,.w]) [2,4,22,23,24,25,26,27,28,29,30,31,34,35] [10] (.e b_1 (.e b_1 (.e p (.e b_1 .n)))) ⟨?_,trivial⟩
 refine zX .w (sN fun b_10_1=>(sV ?_))
 refine zN [11] (kV 0 [.e 1,.w,.w]++kV 11 [.w,.e 1,.w]) [32,2,22,23,24,33,34,35] [14] (.e b_1 (.e b_1 .n)) ⟨?_,trivial⟩
 refine zC (some 36) [0] Tryz.call50 (pub_follow c p wd ep b_ od sn fl tm cd false (.slice wa wn wc) r_ th_ 173 b_10_1 (.func 108) (#[vP p]) (#[])) ?_
 rintro v post ⟨rfl,rfl⟩
 refine zE [] [] [] .n ?_
 exact gX [] (gJ [3,2,1,0] ⟨b_10_1,b_2,b_1,rfl,rfl⟩)
noncomputable def B51: Code:=(Tryz.f51.body).getD .skip
theorem pub_then1_0(c:Cfg)(p bp bt k:Nat)(wd ep bk od sn fl tm cd:Int)(wa:Option Addr)(wn wc:Nat)(r_ th_:Value)(T:Tk)(hd:T.ph=0)(h0:T.block=0):
  Ctr Tryz.prog 51 #[vP bp,vP bt] [.pts bp [vP p] 23,.pts bt [vP k] 114,E65ea3 k c T k,Ef60d6 p r_ th_ cd false c wd ep wa wn wc bk od sn fl tm] (Ret (undef) [.pts bp [vP p] 23,.pts bt [vP k] 114,E65ea3 k c T k,Ef60d6 p r_ th_ 18 true c wd ep wa wn wc bk od sn fl tm]):=by
 refine cB B51 6 Tryz.func51 ?_
 intro F
 refine tC (some 5) (kV 0 [.e 0,.e 1,.q (vI T.block)]) 3 [] [3] [] Tryz.call52 (pub_taken0 c p wd ep bk od sn fl tm cd false (.slice wa wn wc) r_ th_ T.block oM) (.e bp (.e bt .n)) (.c Tryz.call53 (qR [2] (take_Block c k T hd)) .n) ?_
 rintro v post ⟨rfl,rfl⟩
 refine tN .n ?_
 exact gX [] (gJ [0,1,2,3] ⟨rfl,rfl⟩)
theorem pub_then1_1(c:Cfg)(p bp bt k:Nat)(wd ep bk od sn fl tm cd:Int)(wa:Option Addr)(wn wc:Nat)(r_ th_:Value)(T:Tk)(hd:T.ph=0)(hc:c.Ok)(h0:T.block≠0)(hb:0≤clsOf c T.block):
  Ctr Tryz.prog 51 #[vP bp,vP bt] [.pts bp [vP p] 23,.pts bt [vP k] 114,E65ea3 k c T k,Ef60d6 p r_ th_ cd false c wd ep wa wn wc bk od sn fl tm] (fun v L => ∃(eb:Nat) (bf:Nat) (bq:Nat),v=undef∧L=[.pts bp [vP p] 23,.pts bt [vP k] 114,E65ea3 k c T k,Ef60d6 p (.iface 173 (vP eb)) (.func (.func 108) #[vP p] #[]) cd false c wd ep wa wn wc T.block od sn fl tm,.pts eb [vI 0,vI ((wn:Nat):Int),.func (.func 106) #[] #[vP bf,vP bq]] 176,.pts bf [vI (blockAt c T.block+1)] 3,.pts bq [vP p] 23]):=by
 refine cB B51 6 Tryz.func51 ?_
 intro F
 refine tC (some 5) (kV 0 [.e 0,.e 1,.q (vI T.block)]) 3 [] [3] [] Tryz.call52 (pub_taken1 c p wd ep bk od sn fl tm cd wa wn wc r_ th_ T.block oM h0 hb) (.e bp (.e bt .n)) (.c Tryz.call53 (qR [2] (take_Block c k T hd)) .n) ?_
 rintro v post ⟨eb_1,bf_2,bp_3,rfl,rfl⟩
 refine tN .n ?_
 exact gX [] (gJ [0,1,2,3,4,5,6] ⟨eb_1,bf_2,bp_3,rfl,rfl⟩)
noncomputable def B61: Code:=(Tryz.f61.body).getD .skip
theorem pstep1W(c:Cfg)(p ba k bp bt:Nat)(wd ep bk od sn fl tm cd:Int)(wa:Option Addr)(wn wc:Nat)(T:Tk)(A:Ar)(hn:A.ws.length=A.n)(hs:0≤A.steps∧A.steps≤1000000000)(hc:c.Ok)(hz:(A.n:Int)=sizeOfC c)(hR:RngW A.ws)(hT:T.Ok c)(hd:(T.step c A).1.ph≠0):
  Ctr Tryz.prog 61 #[vP p,vP ba] [Ef60d6 p (.iface 114 (vP k)) (.func (.func 51) #[] #[vP bp,vP bt]) cd false c wd ep wa wn wc bk od sn fl tm,.pts bp [vP p] 23,.pts bt [vP k] 114,E65ea3 k c T k,E3504b ba A,E35fb1 A] (Ret (.bool false) [Ef60d6 p (.iface 114 (vP k)) (.func (.func 51) #[] #[vP bp,vP bt]) cd false c wd ep wa wn wc bk od sn fl tm,.pts bp [vP p] 23,.pts bt [vP k] 114,Ef47d3 k c ((T.step c A).1) k (((T.step c A).1).ph),E3504b ba ((T.step c A).2),E35fb1 ((T.step c A).2)]):=by
 refine cB B61 29 Tryz.func61 ?_
 intro F
 refine gX [.e 0,.e 0,.z [0,0,1] 12 [0,10,15,16]] (gQ p (gQ p (gS [.o [0,0,1] 12,.c [1,0,1],.c [1,1]] ?_)))
 refine go_invoke (some 17) [3,4,5] (T:=114) (rv:=vP k) (name:= "Step") (fun w=>by kernel_rfl) Tryz.call228 (take_Step c k ba T A oM oM oM hz hR hT) kR ?_
 rintro v post ⟨rfl,rfl⟩
 exact gX [.sp [18,17] [.dead] [.e 0]] (gQ ((T.step c A).1.ph==0) (gF ((T.step c A).1.ph==0) (beq_eq_false_iff_ne.2 hd) (gQ p (gJ [0,1,2,3,4,5] ⟨rfl,rfl⟩))))
theorem pstep1N(c:Cfg)(p ba k bp bt:Nat)(wd ep bk od sn fl tm cd:Int)(wa:Option Addr)(wn wc:Nat)(T:Tk)(A:Ar)(hn:A.ws.length=A.n)(hs:0≤A.steps∧A.steps≤1000000000)(hc:c.Ok)(hz:(A.n:Int)=sizeOfC c)(hR:RngW A.ws)(hT:T.Ok c)(hd:(T.step c A).1.ph=0)(h0:(T.step c A).1.block=0):
  Ctr Tryz.prog 61 #[vP p,vP ba] [Ef60d6 p (.iface 114 (vP k)) (.func (.func 51) #[] #[vP bp,vP bt]) cd false c wd ep wa wn wc bk od sn fl tm,.pts bp [vP p] 23,.pts bt [vP k] 114,E65ea3 k c T k,E3504b ba A,E35fb1 A] (Ret (.bool true) [Ef60d6 p (.iface 114 (vP k)) (.func (.func 51) #[] #[vP bp,vP bt]) 18 true c wd ep wa wn wc bk od sn fl tm,.pts bp [vP p] 23,.pts bt [vP k] 114,Ef47d3 k c ((T.step c A).1) k (((T.step c A).1).ph),E3504b ba ((T.step c A).2),E35fb1 ((T.step c A).2)]):=by
 refine cB B61 29 Tryz.func61 ?_
 intro F
 refine gX [.e 0,.e 0,.z [0,0,1] 12 [0,10,15,16]] (gQ p (gQ p (gS [.o [0,0,1] 12,.c [1,0,1],.c [1,1]] ?_)))
 refine go_invoke (some 17) [3,4,5] (T:=114) (rv:=vP k) (name:= "Step") (fun w=>by kernel_rfl) Tryz.call228 (take_Step c k ba T A oM oM oM hz hR hT) kR ?_
 rintro v post ⟨rfl,rfl⟩
 refine gX [.sp [18,17] [.e 0,.z [0,1,0,1] 5 [0,23]] [.dead]] (gQ ((T.step c A).1.ph==0) (gT ((T.step c A).1.ph==0) (beq_iff_eq.2 hd) (gQ p (gS [.o [0,1,0,1] 5,.c [1,1]] ?_))))
 refine gC (some 24) [1,2,3,0] Tryz.call51 (pub_then1_0 c p bp bt k wd ep bk od sn fl tm cd wa wn wc (.iface 114 (vP k)) (.func (.func 51) #[] #[vP bp,vP bt]) ((T.step c A).1) hd h0) ?_
 exact gX [.e 5] (gQ p (gJ [5,2,3,4,0,1] ⟨rfl,rfl⟩))
theorem pstep1Y(c:Cfg)(p ba k bp bt:Nat)(wd ep bk od sn fl tm cd:Int)(wa:Option Addr)(wn wc:Nat)(T:Tk)(A:Ar)(hn:A.ws.length=A.n)(hs:0≤A.steps∧A.steps≤1000000000)(hc:c.Ok)(hz:(A.n:Int)=sizeOfC c)(hR:RngW A.ws)(hT:T.Ok c)(hd:(T.step c A).1.ph=0)(h0:(T.step c A).1.block≠0)(hb:0≤clsOf c (T.step c A).1.block):
  Ctr Tryz.prog 61 #[vP p,vP ba] [Ef60d6 p (.iface 114 (vP k)) (.func (.func 51) #[] #[vP bp,vP bt]) cd false c wd ep wa wn wc bk od sn fl tm,.pts bp [vP p] 23,.pts bt [vP k] 114,E65ea3 k c T k,E3504b ba A,E35fb1 A] (fun v L => ∃(eb:Nat) (bf:Nat) (bq:Nat),v = .bool false∧L=[Ef60d6 p (.iface 173 (vP eb)) (.func (.func 108) #[vP p] #[]) cd false c wd ep wa wn wc ((T.step c A).1.block) od sn fl tm,.pts bp [vP p] 23,.pts bt [vP k] 114,Ef47d3 k c ((T.step c A).1) k (((T.step c A).1).ph),E3504b ba ((T.step c A).2),E35fb1 ((T.step c A).2),.pts eb [vI 0,vI ((wn:Nat):Int),.func (.func 106) #[] #[vP bf,vP bq]] 176,.pts bf [vI (blockAt c (T.step c A).1.block+1)] 3,.pts bq [vP p] 23]):=by
 refine cB B61 29 Tryz.func61 ?_
 intro F
 refine gX [.e 0,.e 0,.z [0,0,1] 12 [0,10,15,16]] (gQ p (gQ p (gS [.o [0,0,1] 12,.c [1,0,1],.c [1,1]] ?_)))
 refine go_invoke (some 17) [3,4,5] (T:=114) (rv:=vP k) (name:= "Step") (fun w=>by kernel_rfl) Tryz.call228 (take_Step c k ba T A oM oM oM hz hR hT) kR ?_
 rintro v post ⟨rfl,rfl⟩
 refine gX [.sp [18,17] [.e 0,.z [0,1,0,1] 5 [0,23]] [.dead]] (gQ ((T.step c A).1.ph==0) (gT ((T.step c A).1.ph==0) (beq_iff_eq.2 hd) (gQ p (gS [.o [0,1,0,1] 5,.c [1,1]] ?_))))
 refine go_call (some 24) [1,2,3,0] Tryz.call51 (pub_then1_1 c p bp bt k wd ep bk od sn fl tm cd wa wn wc (.iface 114 (vP k)) (.func (.func 51) #[] #[vP bp,vP bt]) ((T.step c A).1) hd oM h0 hb) kR ?_
 rintro v post ⟨eb_1,bf_2,bq_3,rfl,rfl⟩
 exact gX [.e 5] (gQ p (gJ [5,2,3,4,0,1,6,7,8] ⟨eb_1,bf_2,bq_3,rfl,rfl⟩))
noncomputable def B15: Code:=(Tryz.f15.body).getD .skip
theorem pub_Step1W(c:Cfg)(p ba k bp bt:Nat)(wd ep bk od sn fl tm cd:Int)(wa:Option Addr)(wn wc:Nat)(T:Tk)(A:Ar)(hn:A.ws.length=A.n)(hs:0≤A.steps∧A.steps≤1000000000)(hc:c.Ok)(hz:(A.n:Int)=sizeOfC c)(hR:RngW A.ws)(hT:T.Ok c)(hd:(T.step c A).1.ph≠0):
  Ctr Tryz.prog 15 #[vP p,vP ba] [Ef60d6 p (.iface 114 (vP k)) (.func (.func 51) #[] #[vP bp,vP bt]) cd false c wd ep wa wn wc bk od sn fl tm,.pts bp [vP p] 23,.pts bt [vP k] 114,E65ea3 k c T k,E3504b ba A,E35fb1 A] (Ret (.bool false) [Ef60d6 p (.iface 114 (vP k)) (.func (.func 51) #[] #[vP bp,vP bt]) cd false c wd ep wa wn wc bk od sn fl tm,.pts bp [vP p] 23,.pts bt [vP k] 114,Ef47d3 k c ((T.step c A).1) k (((T.step c A).1).ph),E3504b ba ((T.step c A).2),E35fb1 ((T.step c A).2)]):=by
 refine cB B15 14 Tryz.func15 ?_
 intro F
 refine gX [.z [0,1] 7 [7,10,11]] (gS [.o [0,1] 7,.c [1,1]] ?_)
 refine gC (some 12) [0,1,2,3,4,5] Tryz.call61 (pstep1W c p ba k bp bt wd ep bk od sn fl tm cd wa wn wc T A oM oM oM oM oM hT hd) ?_
 exact gX [] (gJ [0,1,2,3,4,5] ⟨rfl,rfl⟩)
theorem pub_Step1N(c:Cfg)(p ba k bp bt:Nat)(wd ep bk od sn fl tm cd:Int)(wa:Option Addr)(wn wc:Nat)(T:Tk)(A:Ar)(hn:A.ws.length=A.n)(hs:0≤A.steps∧A.steps≤1000000000)(hc:c.Ok)(hz:(A.n:Int)=sizeOfC c)(hR:RngW A.ws)(hT:T.Ok c)(hd:(T.step c A).1.ph=0)(h0:(T.step c A).1.block=0):
  Ctr Tryz.prog 15 #[vP p,vP ba] [Ef60d6 p (.iface 114 (vP k)) (.func (.func 51) #[] #[vP bp,vP bt]) cd false c wd ep wa wn wc bk od sn fl tm,.pts bp [vP p] 23,.pts bt [vP k] 114,E65ea3 k c T k,E3504b ba A,E35fb1 A] (Ret (.bool true) [Ef60d6 p (.iface 114 (vP k)) (.func (.func 51) #[] #[vP bp,vP bt]) 18 true c wd ep wa wn wc bk od sn fl tm,.pts bp [vP p] 23,.pts bt [vP k] 114,Ef47d3 k c ((T.step c A).1) k (((T.step c A).1).ph),E3504b ba ((T.step c A).2),E35fb1 ((T.step c A).2)]):=by
 refine cB B15 14 Tryz.func15 ?_
 intro F
 refine gX [.z [0,1] 7 [7,10,11]] (gS [.o [0,1] 7,.c [1,1]] ?_)
 refine gC (some 12) [0,1,2,3,4,5] Tryz.call61 (pstep1N c p ba k bp bt wd ep bk od sn fl tm cd wa wn wc T A oM oM oM oM oM hT hd h0) ?_
 exact gX [] (gJ [0,1,2,3,4,5] ⟨rfl,rfl⟩)
theorem pub_Step1Y(c:Cfg)(p ba k bp bt:Nat)(wd ep bk od sn fl tm cd:Int)(wa:Option Addr)(wn wc:Nat)(T:Tk)(A:Ar)(hn:A.ws.length=A.n)(hs:0≤A.steps∧A.steps≤1000000000)(hc:c.Ok)(hz:(A.n:Int)=sizeOfC c)(hR:RngW A.ws)(hT:T.Ok c)(hd:(T.step c A).1.ph=0)(h0:(T.step c A).1.block≠0)(hb:0≤clsOf c (T.step c A).1.block):
  Ctr Tryz.prog 15 #[vP p,vP ba] [Ef60d6 p (.iface 114 (vP k)) (.func (.func 51) #[] #[vP bp,vP bt]) cd false c wd ep wa wn wc bk od sn fl tm,.pts bp [vP p] 23,.pts bt [vP k] 114,E65ea3 k c T k,E3504b ba A,E35fb1 A] (fun v L => ∃(eb:Nat) (bf:Nat) (bq:Nat),v = .bool false∧L=[Ef60d6 p (.iface 173 (vP eb)) (.func (.func 108) #[vP p] #[]) cd false c wd ep wa wn wc ((T.step c A).1.block) od sn fl tm,.pts bp [vP p] 23,.pts bt [vP k] 114,Ef47d3 k c ((T.step c A).1) k (((T.step c A).1).ph),E3504b ba ((T.step c A).2),E35fb1 ((T.step c A).2),.pts eb [vI 0,vI ((wn:Nat):Int),.func (.func 106) #[] #[vP bf,vP bq]] 176,.pts bf [vI (blockAt c (T.step c A).1.block+1)] 3,.pts bq [vP p] 23]):=by
 refine cB B15 14 Tryz.func15 ?_
 intro F
 refine gX [.z [0,1] 7 [7,10,11]] (gS [.o [0,1] 7,.c [1,1]] ?_)
 refine go_call (some 12) [0,1,2,3,4,5] Tryz.call61 (pstep1Y c p ba k bp bt wd ep bk od sn fl tm cd wa wn wc T A oM oM oM oM oM hT hd h0 hb) kR ?_
 rintro v post ⟨eb_1,bf_2,bq_3,rfl,rfl⟩
 exact gX [] (gJ [0,1,2,3,4,5,6,7,8] ⟨eb_1,bf_2,bq_3,rfl,rfl⟩)
noncomputable def B12: Code:=(Tryz.f12.body).getD .skip
abbrev Hnew_Pub1: List (Nat×Hn):=[]
abbrev Ynew_Pub(c:Cfg)(tp:Int)(ep:Int)(a:Option Addr)(cw:Nat)(ws:List Int): Value→List Ent→Prop:=(fun v L => ∃(p:Nat) (k:Nat) (bp:Nat) (bt:Nat) (wa:Option Addr) (wc:Nat),v=vP p∧L=[E54ea0 a cw ws,Ef60d6 p (.iface 114 (vP k)) (.func (.func 51) #[] #[vP bp,vP bt]) 0 false c (ctlAt c tp) ep wa ws.length wc 0 0 0 0 0,.pts bp [vP p] 23,.pts bt [vP k] 114,E65ea3 k c (newTk (fitK c ((ws.length:Nat):Int))) k,E54ea0 wa wc ws])
theorem new_Pub(c:Cfg)(tp ep:Int)(a:Option Addr)(cw:Nat)(ws:List Int)(hc:c.Ok)(hl:ws.length≤1000000)(hf:(fitK c ((ws.length:Nat):Int))≠-1)(ht:ctlAt c tp≠-1):
  Ctr Tryz.prog 12 #[cfgV c,vI tp,vI ep,.slice a ws.length cw] [E54ea0 a cw ws] (Ynew_Pub c tp ep a cw ws):=by
 refine cB B12 45 Tryz.func12 ?_
 intro F
 refine gX [.e 1,.z [0,1] 3 [1,2,3,4,12,14]] (gN fun b_1=>gQ b_1 (gS [.o [0,1] 3,.c [1,1]] ?_))
 refine gC (some 15) [] Tryz.call24 (large_Fits c ((ws.length:Nat):Int) oM) ?_
 refine gX [.z [0,1,1] 0 [1,2,3,4,9]] (gW (ks:=[.c [0,1,1],.c [1,1,1]]) [(1,vI tp),(2,vI ep),(3,.slice a ws.length cw),(4,vP b_1),(9,vI (fitK c ((ws.length:Nat):Int)))] [E54ea0 a cw ws,Efdc04 b_1 c] ?_)
 have aS7_1:∀(a2_6_1:Option Addr) (c2_6_1:Nat) (b_8_1:Nat) (b_9_1:Nat),Any Tryz.prog Tryz.f12 B12 45 F (RetR F (Ynew_Pub c tp ep a cw ws)) (regOps B12 [0,1,1]) [.c [1,1,1]] #[true,true,true,true,true,true,true,true,true,true,true] [(4,vP b_1),(9,vI (fitK c ((ws.length:Nat):Int))),(10,vP b_9_1)] [Efdc04 b_1 c,E54ea0 a cw ws,E54ea0 a2_6_1 c2_6_1 ws,Eb76a9 b_8_1 (.nilFunc) 0 false c (ctlAt c tp) ep a2_6_1 ws.length c2_6_1 0 0 0 0 0,.pts b_9_1 [vP b_8_1] 23]:=by
  intro a2_6_1 c2_6_1 b_8_1 b_9_1
  refine any_done kR ?_
  refine gX [.sp [27,26] [.dead] [.e 4,.e 3,.sp [33,32] [.dead] [.e 0,.z [0,1,1,1,1] 2 [10,34,35]]]] (gQ ((fitK c ((ws.length:Nat):Int))==(-1)) (gF ((fitK c ((ws.length:Nat):Int))==(-1)) (beq_eq_false_iff_ne.2 hf) (gQ b_9_1 (gQ b_8_1 (gQ ((ctlAt c tp)==(-1)) (gF ((ctlAt c tp)==(-1)) (beq_eq_false_iff_ne.2 ht) (gQ b_1 (gS [.o [0,1,1,1,1] 2,.c [1,1,1,1,1]] ?_))))))))
  refine go_call (some 36) [] Tryz.call49 (new_TakeC c (fitK c ((ws.length:Nat):Int)) oM (by have:=fitK_rng c ((ws.length:Nat):Int); omega)) kR ?_
  rintro v post ⟨k_2,rfl,rfl⟩
  refine gX [.e 6,.z [0,1,1,1,1,1] 0 [10,11]] (gN fun b_4=>gQ b_4 (gS [.c [0,1,1,1,1,1],.c [1,1,1,1,1,1]] ?_))
  refine tC (some 43) (kV 0 [.e 4,.ww,.ww,.e 6,.ww,.ww]) 6 [] [3] [10] Tryz.call50 (pub_follow c b_8_1 (ctlAt c tp) ep 0 0 0 0 0 0 false (.slice a2_6_1 ws.length c2_6_1) (.nilIface) (.nilFunc) 114 k_2 (.func 51) (#[]) (#[vP b_9_1,vP b_4])) (.e b_9_1 (.e b_4 .n)) .n ?_
  rintro v post ⟨rfl,rfl⟩
  refine tN .n ?_
  exact gX [.e 3] (gQ b_9_1 (gJ [1,6,3,5,4,2] ⟨b_8_1,k_2,b_9_1,b_4,a2_6_1,c2_6_1,rfl,rfl⟩))
 have aS6_1:∀(a2_6_1:Option Addr) (c2_6_1:Nat) (b_8_1:Nat) (b_9_1:Nat),Any Tryz.prog Tryz.f12 B12 45 F (RetR F (Ynew_Pub c tp ep a cw ws)) (regOps B12 [0,1,1]) [.c [1,1,1]] #[true,true,true,true,true,true,true,true,true,true,false] [(4,vP b_1),(9,vI (fitK c ((ws.length:Nat):Int))),(24,vP b_8_1),(10,vP b_9_1)] [Efdc04 b_1 c,E54ea0 a cw ws,E54ea0 a2_6_1 c2_6_1 ws,Eb76a9 b_8_1 (.nilFunc) 0 false c (ctlAt c tp) ep a2_6_1 ws.length c2_6_1 0 0 0 0 0,.pts b_9_1 [.pointer none] 23]:=by
  intro a2_6_1 c2_6_1 b_8_1 b_9_1
  refine any_step [10] kR rfl ⟨?_,trivial⟩
  ·refine aX (.e 4) (sQ b_9_1 (sK ?_))
   refine aP Hnew_Pub1 [4,9,10] .n ?_
   exact aW [4,9,10] [0,1,2,3,4] (aS7_1 a2_6_1 c2_6_1 b_8_1 b_9_1)
 have aS5_1:∀(a2_6_1:Option Addr) (c2_6_1:Nat) (b_8_1:Nat),Any Tryz.prog Tryz.f12 B12 45 F (RetR F (Ynew_Pub c tp ep a cw ws)) (regOps B12 [0,1,1]) [.c [1,1,1]] #[true,true,true,true,true,true,true,true,true,false,false] [(4,vP b_1),(9,vI (fitK c ((ws.length:Nat):Int))),(24,vP b_8_1)] [Efdc04 b_1 c,E54ea0 a cw ws,E54ea0 a2_6_1 c2_6_1 ws,Eb76a9 b_8_1 (.nilFunc) 0 false c (ctlAt c tp) ep a2_6_1 ws.length c2_6_1 0 0 0 0 0]:=by
  intro a2_6_1 c2_6_1 b_8_1
  refine any_step [9] kR rfl ⟨?_,trivial⟩
  ·refine aX .w (sN fun b_9_1=>(sV ?_))
   refine aP Hnew_Pub1 [4,9,24,10] .n ?_
   exact aW [4,9,24,10] [0,1,2,3,4] (aS6_1 a2_6_1 c2_6_1 b_8_1 b_9_1)
 have aS8_4:∀(a2_6_1:Option Addr) (c2_6_1:Nat) (b_9_1:Nat),Any Tryz.prog Tryz.f12 B12 45 F (RetR F (Ynew_Pub c tp ep a cw ws)) (regOps B12 [0,1,1]) [.c [1,1,1]] #[true,true,true,true,true,true,true,true,false,true,false] [(4,vP b_1),(9,vI (fitK c ((ws.length:Nat):Int))),(23,.agg #[.nilIface,.nilFunc,vI 0,.bool false,vI c.topics,vI c.small,vI c.slots,vI c.clients,vI c.s0,vI c.n0,vI c.s1,vI c.n1,vI c.retry,vI (ctlAt c tp),vI ep,.slice a2_6_1 ws.length c2_6_1,vI 0,vI 0,vU 0,vI 0,vI 0]),(10,vP b_9_1)] [Efdc04 b_1 c,E54ea0 a cw ws,E54ea0 a2_6_1 c2_6_1 ws,.pts b_9_1 [.pointer none] 23]:=by
  intro a2_6_1 c2_6_1 b_9_1
  refine any_step [8] kR rfl ⟨?_,trivial⟩
  ·refine aX .w (sN fun b_8_1=>(sV ?_))
   refine aP Hnew_Pub1 [4,9,24,10] .n ?_
   exact aW [4,9,24,10] [0,1,2,4,3] (aS6_1 a2_6_1 c2_6_1 b_8_1 b_9_1)
 have aS4_1:∀(a2_6_1:Option Addr) (c2_6_1:Nat),Any Tryz.prog Tryz.f12 B12 45 F (RetR F (Ynew_Pub c tp ep a cw ws)) (regOps B12 [0,1,1]) [.c [1,1,1]] #[true,true,true,true,true,true,true,true,false,false,false] [(4,vP b_1),(9,vI (fitK c ((ws.length:Nat):Int))),(23,.agg #[.nilIface,.nilFunc,vI 0,.bool false,vI c.topics,vI c.small,vI c.slots,vI c.clients,vI c.s0,vI c.n0,vI c.s1,vI c.n1,vI c.retry,vI (ctlAt c tp),vI ep,.slice a2_6_1 ws.length c2_6_1,vI 0,vI 0,vU 0,vI 0,vI 0])] [Efdc04 b_1 c,E54ea0 a cw ws,E54ea0 a2_6_1 c2_6_1 ws]:=by
  intro a2_6_1 c2_6_1
  refine any_step [8,9] kR rfl ⟨?_, ?_,trivial⟩
  ·refine aX .w (sN fun b_8_1=>(sV ?_))
   refine aP Hnew_Pub1 [4,9,24] .n ?_
   exact aW [4,9,24] [0,1,2,3] (aS5_1 a2_6_1 c2_6_1 b_8_1)
  ·refine aX .w (sN fun b_9_1=>(sV ?_))
   refine aP Hnew_Pub1 [4,9,23,10] .n ?_
   exact aW [4,9,23,10] [0,1,2,3] (aS8_4 a2_6_1 c2_6_1 b_9_1)
 have aS9_4:∀(b_9_1:Nat),Any Tryz.prog Tryz.f12 B12 45 F (RetR F (Ynew_Pub c tp ep a cw ws)) (regOps B12 [0,1,1]) [.c [1,1,1]] #[true,true,true,true,true,true,false,false,false,true,false] [(4,vP b_1),(9,vI (fitK c ((ws.length:Nat):Int))),(20,vI ep),(21,.slice a ws.length cw),(16,cfgV c),(19,vI (ctlAt c tp)),(10,vP b_9_1)] [E54ea0 a cw ws,Efdc04 b_1 c,.pts b_9_1 [.pointer none] 23]:=by
  intro b_9_1
  refine any_step [6] kR rfl ⟨?_,trivial⟩
  ·refine any_call (some 22) [0] Tryz.call47 (clone_n a cw ws.length ws oM oM) kR ?_
   rintro v post ⟨a2_6_1,c2_6_1,rfl,rfl⟩
   refine aP Hnew_Pub1 [4,9,23,10] .n ?_
   exact aW [4,9,23,10] [0,2,3,1] (aS8_4 a2_6_1 c2_6_1 b_9_1)
 have aS3_1:Any Tryz.prog Tryz.f12 B12 45 F (RetR F (Ynew_Pub c tp ep a cw ws)) (regOps B12 [0,1,1]) [.c [1,1,1]] #[true,true,true,true,true,true,false,false,false,false,false] [(4,vP b_1),(9,vI (fitK c ((ws.length:Nat):Int))),(20,vI ep),(21,.slice a ws.length cw),(16,cfgV c),(19,vI (ctlAt c tp))] [E54ea0 a cw ws,Efdc04 b_1 c]:=by
  refine any_step [6,9] kR rfl ⟨?_, ?_,trivial⟩
  ·refine any_call (some 22) [0] Tryz.call47 (clone_n a cw ws.length ws oM oM) kR ?_
   rintro v post ⟨a2_6_1,c2_6_1,rfl,rfl⟩
   refine aP Hnew_Pub1 [4,9,23] .n ?_
   exact aW [4,9,23] [0,1,2] (aS4_1 a2_6_1 c2_6_1)
  ·refine aX .w (sN fun b_9_1=>(sV ?_))
   refine aP Hnew_Pub1 [4,9,20,21,16,19,10] .n ?_
   exact aW [4,9,20,21,16,19,10] [0,1,2] (aS9_4 b_9_1)
 have aS10_4:∀(b_9_1:Nat),Any Tryz.prog Tryz.f12 B12 45 F (RetR F (Ynew_Pub c tp ep a cw ws)) (regOps B12 [0,1,1]) [.c [1,1,1]] #[true,true,true,false,true,true,false,false,false,true,false] [(4,vP b_1),(9,vI (fitK c ((ws.length:Nat):Int))),(18,vI tp),(20,vI ep),(21,.slice a ws.length cw),(16,cfgV c),(17,cfgV c),(10,vP b_9_1)] [E54ea0 a cw ws,Efdc04 b_1 c,.pts b_9_1 [.pointer none] 23]:=by
  intro b_9_1
  refine any_step [3] kR rfl ⟨?_,trivial⟩
  ·refine any_call (some 19) [] Tryz.call48 (plan_Control c tp oM) kR ?_
   rintro v post ⟨rfl,rfl⟩
   refine aP Hnew_Pub1 [4,9,20,21,16,19,10] .n ?_
   exact aW [4,9,20,21,16,19,10] [0,1,2] (aS9_4 b_9_1)
 have aS2_1:Any Tryz.prog Tryz.f12 B12 45 F (RetR F (Ynew_Pub c tp ep a cw ws)) (regOps B12 [0,1,1]) [.c [1,1,1]] #[true,true,true,false,true,true,false,false,false,false,false] [(4,vP b_1),(9,vI (fitK c ((ws.length:Nat):Int))),(18,vI tp),(20,vI ep),(21,.slice a ws.length cw),(16,cfgV c),(17,cfgV c)] [E54ea0 a cw ws,Efdc04 b_1 c]:=by
  refine any_step [3,9] kR rfl ⟨?_, ?_,trivial⟩
  ·refine any_call (some 19) [] Tryz.call48 (plan_Control c tp oM) kR ?_
   rintro v post ⟨rfl,rfl⟩
   refine aP Hnew_Pub1 [4,9,20,21,16,19] .n ?_
   exact aW [4,9,20,21,16,19] [0,1] aS3_1
  ·refine aX .w (sN fun b_9_1=>(sV ?_))
   refine aP Hnew_Pub1 [4,9,18,20,21,16,17,10] .n ?_
   exact aW [4,9,18,20,21,16,17,10] [0,1,2] (aS10_4 b_9_1)
 have aS11_4:∀(b_9_1:Nat),Any Tryz.prog Tryz.f12 B12 45 F (RetR F (Ynew_Pub c tp ep a cw ws)) (regOps B12 [0,1,1]) [.c [1,1,1]] #[true,false,true,false,true,true,false,false,false,true,false] [(4,vP b_1),(9,vI (fitK c ((ws.length:Nat):Int))),(18,vI tp),(20,vI ep),(21,.slice a ws.length cw),(16,cfgV c),(10,vP b_9_1)] [E54ea0 a cw ws,Efdc04 b_1 c,.pts b_9_1 [.pointer none] 23]:=by
  intro b_9_1
  refine any_step [1] kR rfl ⟨?_,trivial⟩
  ·refine aX (.e 1) (sQ b_1 (sV ?_))
   refine aP Hnew_Pub1 [4,9,18,20,21,16,17,10] .n ?_
   exact aW [4,9,18,20,21,16,17,10] [0,1,2] (aS10_4 b_9_1)
 have aS1_1:Any Tryz.prog Tryz.f12 B12 45 F (RetR F (Ynew_Pub c tp ep a cw ws)) (regOps B12 [0,1,1]) [.c [1,1,1]] #[true,false,true,false,true,true,false,false,false,false,false] [(4,vP b_1),(9,vI (fitK c ((ws.length:Nat):Int))),(18,vI tp),(20,vI ep),(21,.slice a ws.length cw),(16,cfgV c)] [E54ea0 a cw ws,Efdc04 b_1 c]:=by
  refine any_step [1,9] kR rfl ⟨?_, ?_,trivial⟩
  ·refine aX (.e 1) (sQ b_1 (sV ?_))
   refine aP Hnew_Pub1 [4,9,18,20,21,16,17] .n ?_
   exact aW [4,9,18,20,21,16,17] [0,1] aS2_1
  ·refine aX .w (sN fun b_9_1=>(sV ?_))
   refine aP Hnew_Pub1 [4,9,18,20,21,16,10] .n ?_
   exact aW [4,9,18,20,21,16,10] [0,1,2] (aS11_4 b_9_1)
 have aS15_4:∀(a2_6_1:Option Addr) (c2_6_1:Nat) (b_9_1:Nat),Any Tryz.prog Tryz.f12 B12 45 F (RetR F (Ynew_Pub c tp ep a cw ws)) (regOps B12 [0,1,1]) [.c [1,1,1]] #[false,true,true,true,true,true,true,false,false,true,false] [(4,vP b_1),(9,vI (fitK c ((ws.length:Nat):Int))),(20,vI ep),(19,vI (ctlAt c tp)),(22,.slice a2_6_1 ws.length c2_6_1),(10,vP b_9_1)] [Efdc04 b_1 c,E54ea0 a cw ws,E54ea0 a2_6_1 c2_6_1 ws,.pts b_9_1 [.pointer none] 23]:=by
  intro a2_6_1 c2_6_1 b_9_1
  refine any_step [0] kR rfl ⟨?_,trivial⟩
  ·refine aX (.e 0) (sQ b_1 (sV ?_))
   refine aP Hnew_Pub1 [4,9,23,10] .n ?_
   exact aW [4,9,23,10] [0,1,2,3] (aS8_4 a2_6_1 c2_6_1 b_9_1)
 have aS14_4:∀(a2_6_1:Option Addr) (c2_6_1:Nat),Any Tryz.prog Tryz.f12 B12 45 F (RetR F (Ynew_Pub c tp ep a cw ws)) (regOps B12 [0,1,1]) [.c [1,1,1]] #[false,true,true,true,true,true,true,false,false,false,false] [(4,vP b_1),(9,vI (fitK c ((ws.length:Nat):Int))),(20,vI ep),(19,vI (ctlAt c tp)),(22,.slice a2_6_1 ws.length c2_6_1)] [Efdc04 b_1 c,E54ea0 a cw ws,E54ea0 a2_6_1 c2_6_1 ws]:=by
  intro a2_6_1 c2_6_1
  refine any_step [0,9] kR rfl ⟨?_, ?_,trivial⟩
  ·refine aX (.e 0) (sQ b_1 (sV ?_))
   refine aP Hnew_Pub1 [4,9,23] .n ?_
   exact aW [4,9,23] [0,1,2] (aS4_1 a2_6_1 c2_6_1)
  ·refine aX .w (sN fun b_9_1=>(sV ?_))
   refine aP Hnew_Pub1 [4,9,20,19,22,10] .n ?_
   exact aW [4,9,20,19,22,10] [0,1,2,3] (aS15_4 a2_6_1 c2_6_1 b_9_1)
 have aS16_4:∀(b_9_1:Nat),Any Tryz.prog Tryz.f12 B12 45 F (RetR F (Ynew_Pub c tp ep a cw ws)) (regOps B12 [0,1,1]) [.c [1,1,1]] #[false,true,true,true,true,true,false,false,false,true,false] [(4,vP b_1),(9,vI (fitK c ((ws.length:Nat):Int))),(20,vI ep),(21,.slice a ws.length cw),(19,vI (ctlAt c tp)),(10,vP b_9_1)] [E54ea0 a cw ws,Efdc04 b_1 c,.pts b_9_1 [.pointer none] 23]:=by
  intro b_9_1
  refine any_step [0,6] kR rfl ⟨?_, ?_,trivial⟩
  ·refine aX (.e 1) (sQ b_1 (sV ?_))
   refine aP Hnew_Pub1 [4,9,20,21,16,19,10] .n ?_
   exact aW [4,9,20,21,16,19,10] [0,1,2] (aS9_4 b_9_1)
  ·refine any_call (some 22) [0] Tryz.call47 (clone_n a cw ws.length ws oM oM) kR ?_
   rintro v post ⟨a2_6_1,c2_6_1,rfl,rfl⟩
   refine aP Hnew_Pub1 [4,9,20,19,22,10] .n ?_
   exact aW [4,9,20,19,22,10] [0,2,3,1] (aS15_4 a2_6_1 c2_6_1 b_9_1)
 have aS13_4:Any Tryz.prog Tryz.f12 B12 45 F (RetR F (Ynew_Pub c tp ep a cw ws)) (regOps B12 [0,1,1]) [.c [1,1,1]] #[false,true,true,true,true,true,false,false,false,false,false] [(4,vP b_1),(9,vI (fitK c ((ws.length:Nat):Int))),(20,vI ep),(21,.slice a ws.length cw),(19,vI (ctlAt c tp))] [E54ea0 a cw ws,Efdc04 b_1 c]:=by
  refine any_step [0,6,9] kR rfl ⟨?_, ?_, ?_,trivial⟩
  ·refine aX (.e 1) (sQ b_1 (sV ?_))
   refine aP Hnew_Pub1 [4,9,20,21,16,19] .n ?_
   exact aW [4,9,20,21,16,19] [0,1] aS3_1
  ·refine any_call (some 22) [0] Tryz.call47 (clone_n a cw ws.length ws oM oM) kR ?_
   rintro v post ⟨a2_6_1,c2_6_1,rfl,rfl⟩
   refine aP Hnew_Pub1 [4,9,20,19,22] .n ?_
   exact aW [4,9,20,19,22] [0,1,2] (aS14_4 a2_6_1 c2_6_1)
  ·refine aX .w (sN fun b_9_1=>(sV ?_))
   refine aP Hnew_Pub1 [4,9,20,21,19,10] .n ?_
   exact aW [4,9,20,21,19,10] [0,1,2] (aS16_4 b_9_1)
 have aS17_4:∀(b_9_1:Nat),Any Tryz.prog Tryz.f12 B12 45 F (RetR F (Ynew_Pub c tp ep a cw ws)) (regOps B12 [0,1,1]) [.c [1,1,1]] #[false,true,true,false,true,true,false,false,false,true,false] [(4,vP b_1),(9,vI (fitK c ((ws.length:Nat):Int))),(18,vI tp),(20,vI ep),(21,.slice a ws.length cw),(17,cfgV c),(10,vP b_9_1)] [E54ea0 a cw ws,Efdc04 b_1 c,.pts b_9_1 [.pointer none] 23]:=by
  intro b_9_1
  refine any_step [0,3] kR rfl ⟨?_, ?_,trivial⟩
  ·refine aX (.e 1) (sQ b_1 (sV ?_))
   refine aP Hnew_Pub1 [4,9,18,20,21,16,17,10] .n ?_
   exact aW [4,9,18,20,21,16,17,10] [0,1,2] (aS10_4 b_9_1)
  ·refine any_call (some 19) [] Tryz.call48 (plan_Control c tp oM) kR ?_
   rintro v post ⟨rfl,rfl⟩
   refine aP Hnew_Pub1 [4,9,20,21,19,10] .n ?_
   exact aW [4,9,20,21,19,10] [0,1,2] (aS16_4 b_9_1)
 have aS12_4:Any Tryz.prog Tryz.f12 B12 45 F (RetR F (Ynew_Pub c tp ep a cw ws)) (regOps B12 [0,1,1]) [.c [1,1,1]] #[false,true,true,false,true,true,false,false,false,false,false] [(4,vP b_1),(9,vI (fitK c ((ws.length:Nat):Int))),(18,vI tp),(20,vI ep),(21,.slice a ws.length cw),(17,cfgV c)] [E54ea0 a cw ws,Efdc04 b_1 c]:=by
  refine any_step [0,3,9] kR rfl ⟨?_, ?_, ?_,trivial⟩
  ·refine aX (.e 1) (sQ b_1 (sV ?_))
   refine aP Hnew_Pub1 [4,9,18,20,21,16,17] .n ?_
   exact aW [4,9,18,20,21,16,17] [0,1] aS2_1
  ·refine any_call (some 19) [] Tryz.call48 (plan_Control c tp oM) kR ?_
   rintro v post ⟨rfl,rfl⟩
   refine aP Hnew_Pub1 [4,9,20,21,19] .n ?_
   exact aW [4,9,20,21,19] [0,1] aS13_4
  ·refine aX .w (sN fun b_9_1=>(sV ?_))
   refine aP Hnew_Pub1 [4,9,18,20,21,17,10] .n ?_
   exact aW [4,9,18,20,21,17,10] [0,1,2] (aS17_4 b_9_1)
 have aS18_4:∀(b_9_1:Nat),Any Tryz.prog Tryz.f12 B12 45 F (RetR F (Ynew_Pub c tp ep a cw ws)) (regOps B12 [0,1,1]) [.c [1,1,1]] #[false,false,true,false,true,true,false,false,false,true,false] [(4,vP b_1),(9,vI (fitK c ((ws.length:Nat):Int))),(18,vI tp),(20,vI ep),(21,.slice a ws.length cw),(10,vP b_9_1)] [E54ea0 a cw ws,Efdc04 b_1 c,.pts b_9_1 [.pointer none] 23]:=by
  intro b_9_1
  refine any_step [0,1] kR rfl ⟨?_, ?_,trivial⟩
  ·refine aX (.e 1) (sQ b_1 (sV ?_))
   refine aP Hnew_Pub1 [4,9,18,20,21,16,10] .n ?_
   exact aW [4,9,18,20,21,16,10] [0,1,2] (aS11_4 b_9_1)
  ·refine aX (.e 1) (sQ b_1 (sV ?_))
   refine aP Hnew_Pub1 [4,9,18,20,21,17,10] .n ?_
   exact aW [4,9,18,20,21,17,10] [0,1,2] (aS17_4 b_9_1)
 have aS0_1:Any Tryz.prog Tryz.f12 B12 45 F (RetR F (Ynew_Pub c tp ep a cw ws)) (regOps B12 [0,1,1]) [.c [1,1,1]] #[false,false,true,false,true,true,false,false,false,false,false] [(4,vP b_1),(9,vI (fitK c ((ws.length:Nat):Int))),(18,vI tp),(20,vI ep),(21,.slice a ws.length cw)] [E54ea0 a cw ws,Efdc04 b_1 c]:=by
  refine any_step [0,1,9] kR rfl ⟨?_, ?_, ?_,trivial⟩
  ·refine aX (.e 1) (sQ b_1 (sV ?_))
   refine aP Hnew_Pub1 [4,9,18,20,21,16] .n ?_
   exact aW [4,9,18,20,21,16] [0,1] aS1_1
  ·refine aX (.e 1) (sQ b_1 (sV ?_))
   refine aP Hnew_Pub1 [4,9,18,20,21,17] .n ?_
   exact aW [4,9,18,20,21,17] [0,1] aS12_4
  ·refine aX .w (sN fun b_9_1=>(sV ?_))
   refine aP Hnew_Pub1 [4,9,18,20,21,10] .n ?_
   exact aW [4,9,18,20,21,10] [0,1,2] (aS18_4 b_9_1)
 refine go_any kR kR ?_
 refine aP Hnew_Pub1 [4,9,18,20,21] .n ?_
 exact aW [4,9,18,20,21] [0,1] aS0_1
end Go.Proofs.YtpcaijopodhdgaaGreatDoor
namespace Go.Proofs.YtpcaijopodhdgaaGreatDoor
open Go.Sx
abbrev Ecc945(x0:Nat)(x1:Value)(x2:Value)(x3:Int)(x4:Bool)(c5:Cfg)(x6:Value)(x7:Int)(x8:Value): Ent:=.pts x0 [x1,x2,.int .i64 x3,.bool x4,.int .i64 c5.topics,.int .i64 c5.small,.int .i64 c5.slots,.int .i64 c5.clients,.int .i64 c5.s0,.int .i64 c5.n0,.int .i64 c5.s1,.int .i64 c5.n1,.int .i64 c5.retry,x6,.int .i64 x7,x8] 112
abbrev E3c71c(x0:Nat)(x1:Value)(x2:Value)(x3:Int)(x4:Bool)(c5:Cfg)(x6:Int): Ent:=.pts x0 [x1,x2,.int .i64 x3,.bool x4,.int .i64 c5.topics,.int .i64 c5.small,.int .i64 c5.slots,.int .i64 c5.clients,.int .i64 c5.s0,.int .i64 c5.n0,.int .i64 c5.s1,.int .i64 c5.n1,.int .i64 c5.retry,.pointer none,.int .i64 x6,.slice none 0 0] 112
theorem rd_follow(c:Cfg)(p:Nat)(sl cd:Int)(ov:Bool)(gp wsl:Value)(r_ th_:Value)(T_:TypeId)(x_:Nat)(f_:Fn)(a_ c_:Array Value):
  Ctr Tryz.prog 50 #[vP p,.iface T_ (vP x_),.func f_ a_ c_] [Ecc945 p r_ th_ cd ov c gp sl wsl] (Ret (undef) [Ecc945 p (.iface T_ (vP x_)) (.func f_ a_ c_) cd ov c gp sl wsl]):=by
 refine cB B50 12 Tryz.func50 ?_
 intro F
 exact gX [.e 0] (gQ p (gJ [0] ⟨rfl,rfl⟩))
theorem rd_end(c:Cfg)(p:Nat)(sl cd:Int)(ov:Bool)(gp wsl:Value)(r_ th_:Value)(k_:Int):
  Ctr Tryz.prog 57 #[vP p,vI k_] [Ecc945 p r_ th_ cd ov c gp sl wsl] (Ret (undef) [Ecc945 p r_ th_ k_ true c gp sl wsl]):=by
 refine cB B57 11 Tryz.func57 ?_
 intro F
 exact gX [.e 0,.e 0] (gQ p (gQ p (gJ [0] ⟨rfl,rfl⟩)))
noncomputable def B13: Code:=(Tryz.f13.body).getD .skip
theorem new_Rd(c:Cfg)(cl tp ep:Int)(hc:c.Ok)(hcl:0≤cl∧cl<c.clients)(ht:ctlAt c tp≠-1):
  Ctr Tryz.prog 13 #[cfgV c,vI cl,vI tp,vI ep] [] (fun v L => ∃(p:Nat) (k:Nat) (b1:Nat) (b2:Nat) (b3:Nat) (b4:Nat) (b5:Nat) (b6:Nat),v=vP p∧L=[E3c71c p (.iface 118 (vP k)) (.func (.func 55) #[] #[vP b1,vP b2,vP b3,vP b4,vP b5,vP b6]) 0 false c (-1),E03c2e k c cl 0 (-1),.pts b1 [vP k] 118,.pts b2 [vP p] 24,Efdc04 b3 c,.pts b4 [vI cl] 3,.pts b5 [vI tp] 3,.pts b6 [vI ep] 3]):=by
 refine cB B13 33 Tryz.func13 ?_
 intro F
 refine gX [.e 0,.e 1,.z [0,1] 2 [4,5,6,7,11,12]] (gN fun b_1=>gN fun b_2=>gN fun b_3=>gN fun b_4=>gQ b_1 (gQ b_2 (gS [.o [0,1] 2,.c [1,1]] ?_)))
 refine go_call (some 13) [] Tryz.call54 (new_Claim c cl oM oM) kR ?_
 rintro v post ⟨k_5,rfl,rfl⟩
 refine gX [.e 5,.e 5,.e 0,.e 2,.z [0,0,1,1] 5 [4,5,6,7,9,16,17,18]] (gN fun b_7=>gQ b_7 (gQ b_7 (gQ b_1 (gQ b_3 (gS [.o [0,0,1,1] 5,.c [1,0,1,1],.c [1,1,1]] ?_)))))
 refine gC (some 19) [] Tryz.call48 (plan_Control c tp oM) ?_
 refine gX [.sp [21,20] [.dead] [.e 0,.e 7,.z [0,1,1,1,1] 0 [4,5,6,7,9,10]]] (gQ ((ctlAt c tp)==(-1)) (gF ((ctlAt c tp)==(-1)) (beq_eq_false_iff_ne.2 ht) (gQ b_1 (gN fun b_8=>gN fun b_9=>gQ b_9 (gS [.c [0,1,1,1,1],.c [1,1,1,1,1]] ?_)))))
 refine tC (some 31) (kV 0 [.e 7,.ww,.ww,.e 5,.ww,.ww]) 6 [] [6] [10] Tryz.call50 (rd_follow c b_8 (-1) 0 false (.pointer none) (.slice none 0 0) (.nilIface) (.nilFunc) 118 k_5 (.func 55) (#[]) (#[vP b_7,vP b_9,vP b_1,vP b_2,vP b_3,vP b_4])) (.e b_9 (.e b_7 .n)) .n ?_
 rintro v post ⟨rfl,rfl⟩
 refine tN .n ?_
 exact gX [.e 6] (gQ b_9 (gJ [7,4,5,6,0,1,2,3] ⟨b_8,k_5,b_7,b_9,b_1,b_2,b_3,b_4,rfl,rfl⟩))
end Go.Proofs.YtpcaijopodhdgaaGreatDoor
namespace Go.Proofs.YtpcaijopodhdgaaGreatDoor
open Go.Sx
abbrev q73_0: List Nat:=[0,0,1,1,1,0,0,1]
abbrev q73_1: List Nat:=[0,1,1,1,1,1,1]
noncomputable def B10: Code:=(Tryz.f10.body).getD .skip
noncomputable def B16: Code:=(Tryz.f16.body).getD .skip
noncomputable def B11: Code:=(Tryz.f11.body).getD .skip
noncomputable def B20: Code:=(Tryz.f20.body).getD .skip
noncomputable def B21: Code:=(Tryz.f21.body).getD .skip
theorem pubTold_K(c:Cfg)(p:Nat)(wd ep bk od sn fl tm:Int)(wa:Option Addr)(wn wc:Nat)(r_ th_:Value):
  Ctr Tryz.prog 10 #[vP p] [Ef60d6 p r_ th_ 0 true c wd ep wa wn wc bk od sn fl tm] (Ret (.tuple #[vI od,.nilIface]) [Ef60d6 p r_ th_ 0 true c wd ep wa wn wc bk od sn fl tm]):=by
 refine cB B10 26 Tryz.func10 ?_
 intro F
 refine gX [.e 0,.z [0,1,1] 0 [0]] (gQ p (gS [.c [0,1,1],.c [1,1,1]] ?_))
 refine qG (kV 0 [.ww,.ww,.ww,.e 0,.ww,.ww,.ww,.ww,.e 0,.q (.nilIface),.ww,.ww]) [2,3] (.e p (.e p .n)) (.c Tryz.call46 (qR [] (cause_New0)) .n) ?_
 exact gX [] (gJ [0] ⟨rfl,rfl⟩)
theorem pubTold_E(c:Cfg)(p:Nat)(wd ep bk od sn fl tm cd:Int)(wa:Option Addr)(wn wc:Nat)(r_ th_:Value)(hcd:cd≠0):
  Ctr Tryz.prog 10 #[vP p] [Ef60d6 p r_ th_ cd true c wd ep wa wn wc bk od sn fl tm] (Ret (.tuple #[vI od,.iface 42 (vI cd)]) [Ef60d6 p r_ th_ cd true c wd ep wa wn wc bk od sn fl tm]):=by
 refine cB B10 26 Tryz.func10 ?_
 intro F
 refine gX [.e 0,.z [0,1,1] 0 [0]] (gQ p (gS [.c [0,1,1],.c [1,1,1]] ?_))
 refine qG (kV 0 [.ww,.ww,.ww,.e 0,.ww,.ww,.ww,.ww,.e 0,.q (.iface 42 (vI cd)),.ww,.ww]) [2,3] (.e p (.e p .n)) (.c Tryz.call46 (qR [] (cause_NewE cd hcd)) .n) ?_
 exact gX [] (gJ [0] ⟨rfl,rfl⟩)
theorem pubTold_W(c:Cfg)(p:Nat)(wd ep bk od sn fl tm cd:Int)(wa:Option Addr)(wn wc:Nat)(r_ th_:Value):
  Ctr Tryz.prog 10 #[vP p] [Ef60d6 p r_ th_ cd false c wd ep wa wn wc bk od sn fl tm] (Ret (.tuple #[vI 0,.iface 42 (vI 13)]) [Ef60d6 p r_ th_ cd false c wd ep wa wn wc bk od sn fl tm]):=by
 refine cB B10 26 Tryz.func10 ?_
 intro F
 refine gX [.e 0,.z q73_0 0 []] (gQ p (gS [.o q73_0 0,.c [1,0,1,1,1,0,0,1],.b 0,.c [1,1]] ?_))
 refine gC (some 15) [] Tryz.call46 (cause_NewE 13 (by decide)) ?_
 exact gX [] (gJ [0] ⟨rfl,rfl⟩)
noncomputable def B25: Code:=(Tryz.f25.body).getD .skip
theorem rfitsL(c:Cfg)(n_:Int)(hc:c.Ok)(hn:n_<1):
  Ctr Tryz.prog 25 #[cfgV c,vI n_] [] (Ret (vI (-1)) []):=by
 refine cB B25 27 Tryz.func25 ?_
 intro F
 refine gX [.e 0,.z [0,1] 1 [1,2,7]] (gN fun b_1=>gQ b_1 (gS [.o [0,1] 1,.c [1,1]] ?_))
 refine gC (some 8) [] Tryz.call67 (ref_right c oM) ?_
 exact gX [.sp [14,13] [] [.dead]] (gQ (decide (n_<1)) (gT (decide (n_<1)) (decide_eq_true hn) (gR (vI (-1)) [] ⟨rfl,rfl⟩)))
theorem rfits0(c:Cfg)(n_:Int)(hc:c.Ok)(hn:¬n_<1)(h0:n_≤c.s0):
  Ctr Tryz.prog 25 #[cfgV c,vI n_] [] (Ret (vI 0) []):=by
 refine cB B25 27 Tryz.func25 ?_
 intro F
 refine gX [.e 0,.z [0,1] 1 [1,2,7]] (gN fun b_1=>gQ b_1 (gS [.o [0,1] 1,.c [1,1]] ?_))
 refine gC (some 8) [] Tryz.call67 (ref_right c oM) ?_
 exact gX [.sp [14,13] [.dead] [.u,.w,.e 0,.sp [25] [] [.dead]]] (gQ (decide (n_<1)) (gF (decide (n_<1)) (decide_eq_false hn) (gQ b_1 (gT (decide (n_≤c.s0)) (decide_eq_true h0) (gR (vI 0) [] ⟨rfl,rfl⟩)))))
theorem rfits1(c:Cfg)(n_:Int)(hc:c.Ok)(hn:¬n_<1)(h0:¬n_≤c.s0)(h1:n_≤c.s1):
  Ctr Tryz.prog 25 #[cfgV c,vI n_] [] (Ret (vI 1) []):=by
 refine cB B25 27 Tryz.func25 ?_
 intro F
 refine gX [.e 0,.z [0,1] 1 [1,2,7]] (gN fun b_1=>gQ b_1 (gS [.o [0,1] 1,.c [1,1]] ?_))
 refine gC (some 8) [] Tryz.call67 (ref_right c oM) ?_
 exact gX [.sp [14,13] [.dead] [.u,.w,.e 0,.sp [25] [.dead] [.w,.u,.w,.e 0,.sp [25] [] [.dead]]]] (gQ (decide (n_<1)) (gF (decide (n_<1)) (decide_eq_false hn) (gQ b_1 (gF (decide (n_≤c.s0)) (decide_eq_false h0) (gQ b_1 (gT (decide (n_≤c.s1)) (decide_eq_true h1) (gR (vI 1) [] ⟨rfl,rfl⟩)))))))
theorem rfits2(c:Cfg)(n_:Int)(hc:c.Ok)(hn:¬n_<1)(h0:¬n_≤c.s0)(h1:¬n_≤c.s1):
  Ctr Tryz.prog 25 #[cfgV c,vI n_] [] (Ret (vI (-1)) []):=by
 refine cB B25 27 Tryz.func25 ?_
 intro F
 refine gX [.e 0,.z [0,1] 1 [1,2,7]] (gN fun b_1=>gQ b_1 (gS [.o [0,1] 1,.c [1,1]] ?_))
 refine gC (some 8) [] Tryz.call67 (ref_right c oM) ?_
 exact gX [.sp [14,13] [.dead] [.u,.w,.e 0,.sp [25] [.dead] [.w,.u,.w,.e 0,.sp [25] [.dead] [.w,.u]]]] (gQ (decide (n_<1)) (gF (decide (n_<1)) (decide_eq_false hn) (gQ b_1 (gF (decide (n_≤c.s0)) (decide_eq_false h0) (gQ b_1 (gF (decide (n_≤c.s1)) (decide_eq_false h1) (gR (vI (-1)) [] ⟨rfl,rfl⟩)))))))
theorem ref_Fits(c:Cfg)(n_:Int)(hc:c.Ok):
  Ctr Tryz.prog 25 #[cfgV c,vI n_] [] (Ret (vI (fitK c n_)) []):=by
 unfold fitK
 by_cases hn:n_<1
 ·rw [if_pos hn]; exact rfitsL c n_ hc hn
 ·rw [if_neg hn]
  by_cases h0:n_≤c.s0
  ·rw [if_pos h0]; exact rfits0 c n_ hc hn h0
  ·rw [if_neg h0]
   by_cases h1:n_≤c.s1
   ·rw [if_pos h1]; exact rfits1 c n_ hc hn h0 h1
   ·rw [if_neg h1]; exact rfits2 c n_ hc hn h0 h1
noncomputable def B9: Code:=(Tryz.f9.body).getD .skip
theorem law17_config(q0 q1 q2:Int):
  Ctr Tryz.prog 9 #[.agg #[vI q0,vI q1,vI q2]] [] (Ret (cfgV (cfgL q0 q1 q2)) []):=by
 refine cB B9 22 Tryz.func9 ?_
 intro F
 refine gX [.w,.e 0,.n,.w,.e 0,.n,.w,.e 0,.n,.w,.e 0,.n,.n,.z [0,1] 18 [2,20]] (gN fun b_1=>gN fun b_2=>gQ b_1 (gO (InK .i64 (1+(bAnd .i64 q0 3))) (by have:=and3 q0; have:=and3 q1; have:=and3 q2; have:=and3 (bShr .i64 q2 2); simp only [InK]; omega) (gQ b_1 (gO (InK .i64 (1+(bAnd .i64 q1 3))) (by have:=and3 q0; have:=and3 q1; have:=and3 q2; have:=and3 (bShr .i64 q2 2); simp only [InK]; omega) (gQ b_1 (gO (InK .i64 (1+(bAnd .i64 q2 3))) (by have:=and3 q0; have:=and3 q1; have:=and3 q2; have:=and3 (bShr .i64 q2 2); simp only [InK]; omega) (gQ b_1 (gO ((0:Int)≤2) (by decide) (gO (InK .i64 (1+(bAnd .i64 (bShr .i64 q2 2) 3))) (by have:=and3 q0; have:=and3 q1; have:=and3 q2; have:=and3 (bShr .i64 q2 2); simp only [InK]; omega) (gN fun b_3=>gW (ks:=[.o [0,1] 18,.c [1,1]]) [(2,vP b_2),(20,.slice (some ⟨b_3,0,none⟩) 9 9)] [.pts b_1 [vI q0,vI q1,vI q2] 22,Ed975e b_2 0 0 0 0 0 0 0 0 0,Ed155d b_3 1 4 (1+(bAnd .i64 q0 3)) 4 (1+(bAnd .i64 q1 3)) 4 (1+(bAnd .i64 q2 3)) 6 (1+(bAnd .i64 (bShr .i64 q2 2) 3))] ?_))))))))))
 refine gC (some 21) [2] Tryz.call45 (ref_Of b_3 1 4 (1+(bAnd .i64 q0 3)) 4 (1+(bAnd .i64 q1 3)) 4 (1+(bAnd .i64 q2 3)) 6 (1+(bAnd .i64 (bShr .i64 q2 2) 3))) ?_
 exact gX [.e 1,.e 1] (gQ b_2 (gQ b_2 (gR (.agg #[vI 1,vI 4,vI (1+(bAnd .i64 q0 3)),vI 4,vI 4,vI (1+(bAnd .i64 q2 3)),vI 6,vI (1+(bAnd .i64 (bShr .i64 q2 2) 3)),vI (1+(bAnd .i64 q1 3))]) [] ⟨rfl,rfl⟩)))
noncomputable def B14: Code:=(Tryz.f14.body).getD .skip
set_option maxHeartbeats 4000000 in
theorem law17_awake(o_:Obj)(ho:IsH o_):
  Ctr Tryz.prog 14 #[] [.raw 0 o_] (Ret (.bool true) [.raw 0 o_]):=by
 refine cB B14 33 Tryz.func14 ?_
 intro F
 refine gX [.z [0,1] 1 [7]] (gN fun b_1=>gW (ks:=[.o [0,1] 1,.c [1,1]]) [(7,.slice (some ⟨b_1,0,none⟩) 9 9)] [.raw 0 o_,Ed155d b_1 1 4 1 1 1 4 0 6 0] ?_)
 refine gC (some 8) [1] Tryz.call45 (ref_Of b_1 1 4 1 1 1 4 0 6 0) ?_
 refine gX [.e 2,.e 2,.z [0,1,1] 1 [1,10]] (gN fun b_3=>gQ b_3 (gQ b_3 (gS [.o [0,1,1] 1,.c [1,1,1]] ?_)))
 refine go_call (some 11) [] Tryz.call60 (plan_Make (⟨1,4,1,1,4,0,6,0,1⟩:Cfg) cfgW_ok) kR ?_
 rintro v post ⟨ba_4,aw_5,cw_6,rfl,rfl⟩
 refine gX [.z [0,1,1,1] 0 [1,2]] (gW (ks:=[.o [0,1,1,1] 0,.c [1,1,1,1]]) [(1,vP b_3),(2,vP ba_4)] [.raw 0 o_,Ed155d b_1 1 4 1 1 1 4 0 6 0,Ed975e b_3 1 4 1 1 4 0 6 0 1,E3504b ba_4 (mkAr (⟨1,4,1,1,4,0,6,0,1⟩:Cfg) aw_5 cw_6),E35fb1 (mkAr (⟨1,4,1,1,4,0,6,0,1⟩:Cfg) aw_5 cw_6)] ?_)
 have hA0:ArW cfgW (mkAr (⟨1,4,1,1,4,0,6,0,1⟩:Cfg) aw_5 cw_6) _:=mkAr_ok cfgW_ok aw_5 cw_6
 have hz7:((mkAr (⟨1,4,1,1,4,0,6,0,1⟩:Cfg) aw_5 cw_6).n:Int)=sizeOfC cfgW:=hA0.2.1
 have hz8:=hA0.2.2.2
 have hf7:fitK cfgW ((([5]:List Int).length:Nat):Int)=0:=by decide
 have hp7:(Tk.step cfgW (newTk (fitK cfgW ((([5]:List Int).length:Nat):Int))) (mkAr (⟨1,4,1,1,4,0,6,0,1⟩:Cfg) aw_5 cw_6)).1.ph=0:=by kernel_rfl
 have hb7:(Tk.step cfgW (newTk (fitK cfgW ((([5]:List Int).length:Nat):Int))) (mkAr (⟨1,4,1,1,4,0,6,0,1⟩:Cfg) aw_5 cw_6)).1.block=0:=by kernel_rfl
 refine gX [.e 2,.z [0,1,1,1] 2 [2,14,15]] (gQ b_3 (gN fun b_7=>gW (ks:=[.o [0,1,1,1] 2,.c [1,1,1,1]]) [(2,vP ba_4),(14,.agg #[vI 1,vI 4,vI 1,vI 1,vI 4,vI 0,vI 6,vI 0,vI 1]),(15,.slice (some ⟨b_7,0,none⟩) 1 1)] [.raw 0 o_,Ed155d b_1 1 4 1 1 1 4 0 6 0,Ed975e b_3 1 4 1 1 4 0 6 0 1,E3504b ba_4 (mkAr (⟨1,4,1,1,4,0,6,0,1⟩:Cfg) aw_5 cw_6),E35fb1 (mkAr (⟨1,4,1,1,4,0,6,0,1⟩:Cfg) aw_5 cw_6),.pts b_7 [vU 5] 60] ?_))
 refine go_view (view_row 5 (b:=b_7) (encI .u64) 0 1 ([5]:List Int) 60 (sizedI _) (by simp [maxLen]) kR) ?_
 refine go_call (some 16) [5] Tryz.call12 (new_Pub (⟨1,4,1,1,4,0,6,0,1⟩:Cfg) 0 0 (some ⟨b_7,0,none⟩) 1 ([5]:List Int) cfgW_ok (by decide) (by decide) (by decide)) kR ?_
 rintro v post ⟨p_8,k_9,bp_10,bt_11,wa_12,wc_13,rfl,rfl⟩
 refine gX [.z [0,0,1,1,1,1] 5 [4,19,20,21]] (gS [.o [0,0,1,1,1,1] 5,.c [1,0,1,1,1,1],.c [1,1,1,1,1]] ?_)
 refine gC (some 22) [6,7,8,9,3,4] Tryz.call15 (pub_Step1N (⟨1,4,1,1,4,0,6,0,1⟩:Cfg) p_8 ba_4 k_9 bp_10 bt_11 (ctlAt (⟨1,4,1,1,4,0,6,0,1⟩:Cfg) 0) 0 0 0 0 0 0 0 wa_12 (([5]:List Int).length) wc_13 (newTk (fitK (⟨1,4,1,1,4,0,6,0,1⟩:Cfg) (((([5]:List Int).length):Nat):Int))) (mkAr (⟨1,4,1,1,4,0,6,0,1⟩:Cfg) aw_5 cw_6) hA0.1 (by omega) cfgW_ok hA0.2.1 hA0.2.2.1 (newTk_ok cfgW (.inl hf7)) hp7 hb7) ?_
 refine gX [.z [0,1,1,1,1,1] 1 [26]] (gS [.o [0,1,1,1,1,1] 1,.c [1,1,1,1,1,1]] ?_)
 refine gC (some 27) [5] Tryz.call10 (pubTold_E (⟨1,4,1,1,4,0,6,0,1⟩:Cfg) p_8 (ctlAt (⟨1,4,1,1,4,0,6,0,1⟩:Cfg) 0) 0 0 0 0 0 0 18 wa_12 (([5]:List Int).length) wc_13 (.iface 114 (vP k_9)) (.func (.func 51) #[] #[vP bp_10,vP bt_11]) (by decide)) ?_
 refine gX [.z q73_1 1 [30]] (gS [.o q73_1 1,.c [1,1,1,1,1,1,1]] ?_)
 refine gC (some 31) [0] Tryz.call17 (cause_TopE o_ 18 ho) ?_
 exact gX [] (gJ [10] ⟨rfl,rfl⟩)
end Go.Proofs.YtpcaijopodhdgaaGreatDoor
namespace Go.Proofs.YtpcaijopodhdgaaGreatDoor
open Go.Sx
abbrev q75_0: List Nat:=[1,0,0,1,1,0,0,1,0,1,1,1,1]
abbrev q75_1: List Nat:=[1,1,1,0,0,1,0,1,1,1,1]
abbrev q75_2: List Nat:=[0,1,0,1,1,1,1]
abbrev q75_3: List Nat:=[0,0,1,0,1,1,1,1,1]
abbrev q75_4: List Nat:=[0,0,1,0,1,1,1]
abbrev q75_5: List Nat:=[0,0,1,0,0,1,1]
abbrev q75_6: List Nat:=[1,0,1,0,0,1,1]
theorem bits_Set0(w_ v_:Int)(hw:0≤w_∧w_<1)(hv:0≤v_∧v_<65536):
  Ctr Tryz.prog 166 #[vU w_,vI 0,vI 16,vU v_] [] (Ret (.tuple #[vU (w_+v_*1),.bool true]) []):=by
 refine cB B166 32 Tryz.func166 ?_
 intro F
 refine gX [.z [0,0,1] 2 [0,1,2,3,10,11]] (gS [.o [0,0,1] 2,.c [1,0,1],.c [1,1]] ?_)
 refine gC (some 12) [] Tryz.call190 (bits_may 0 16 (by decide)) ?_
 refine gX [.z [0,0,1] 7 [0,1,2,3,14,15,16]] (gS [.o [0,0,1] 7,.c [1,0,1],.c [1,1]] ?_)
 refine gC (some 17) [] Tryz.call191 (bits_all 16 (by decide)) ?_
 refine gX [.sp [20,19] [.dead] [.z [0,1,1] 0 [0,1,2,3]]] (gQ ((bAndNot .u64 v_ (bShr .u64 18446744073709551615 (64-16))) != 0) (gF ((bAndNot .u64 v_ (bShr .u64 18446744073709551615 (64-16))) != 0) (bne_eq_false_iff_eq.2 (set_fits 16 65535 (by decide) (by decide) hv)) (gS [.c [0,1,1],.c [1,1,1]] ?_)))
 refine qG (kV 0 [.ww,.ww,.q (vU (bShr .u64 18446744073709551615 (64-16))),.ww,.h (.n),.ww,.ww,.ww,.h (.n),.ww,.ww,.ww]) [8,9] (.p ((0:Int)≤0) (by decide) (.p ((0:Int)≤0) (by decide) .n)) (.c Tryz.call191 (qR [] (bits_all 16 (by decide))) .n) ?_
 exact gX [] (gI (.tuple #[vU (bOr .u64 (bAndNot .u64 w_ (bShl .u64 (bShr .u64 18446744073709551615 (64-16)) 0)) (bShl .u64 v_ 0)),.bool true]) [] ⟨(congrArg (fun x:Int=>Value.tuple #[.int .u64 x,.bool true]) (set_eq 0 16 65535 (by decide) (by decide) (by decide) (by omega) (by omega))),rfl⟩)
noncomputable def B207: Code:=(Tryz.f207.body).getD .skip
theorem pack_put0(b1 b2 b3:Nat)(w_ v_:Int)(hw:0≤w_∧w_<1)(hv:0≤v_∧v_<65536):
  Ctr Tryz.prog 207 #[vI v_,vI 16,vP b1,vP b2,vP b3] [.pts b1 [vU w_] 60,.pts b2 [vI 0] 3,.pts b3 [.bool true] 4] (Ret (undef) [.pts b1 [vU (w_+v_*1)] 60,.pts b2 [vI 16] 3,.pts b3 [.bool true] 4]):=by
 refine cB B207 26 Tryz.func207 ?_
 intro F
 refine gX [.e 0,.e 1,.n,.z [0] 5 [1,2,3,4,10,11,12,14]] (gQ b1 (gQ b2 (gO (InK .u64 v_) (by simp only [InK]; omega) (gS [.o [0] 5,.c [1]] ?_))))
 refine gC (some 15) [] Tryz.call166 (bits_Set0 w_ v_ oM oM) ?_
 refine gX [.z [1] 0 [1,2,3,4,7,8]] (gS [.c [1]] ?_)
 refine zG ?_
 refine zN [0,1,2,3,4,5,6,7] (kV 0 [.w,.e 2,.w,.w,.w,.e 1,.w,.w]) [1,2,3,4,7,8,18,19,20,21,22,23,24,25] [8] (.e b3 (.e b2 .n)) ⟨?_,trivial⟩
 refine zX (.e 0) (sQ b1 (sK ?_))
 refine zN [] (kV 3 [.w,.w,.e 1,.w,.w]) [1,3,4,8,20,21,22,23,24,25] [9] (.e b2 .n) ⟨?_,trivial⟩
 refine zX (.e 2) (sQ b3 (sK ?_))
 refine zN [] (kV 5 [.e 1,.w,.w]) [1,3,23,24,25] [10] (.e b2 .n) ⟨?_,trivial⟩
 refine zX (.e 1) (sQ b2 (sK ?_))
 refine zE [] [] [] .n ?_
 exact gX [] (gJ [0,1,2] ⟨rfl,rfl⟩)
theorem bits_Set1(w_ v_:Int)(hw:0≤w_∧w_<65536)(hv:0≤v_∧v_<2147483648):
  Ctr Tryz.prog 166 #[vU w_,vI 16,vI 31,vU v_] [] (Ret (.tuple #[vU (w_+v_*65536),.bool true]) []):=by
 refine cB B166 32 Tryz.func166 ?_
 intro F
 refine gX [.z [0,0,1] 2 [0,1,2,3,10,11]] (gS [.o [0,0,1] 2,.c [1,0,1],.c [1,1]] ?_)
 refine gC (some 12) [] Tryz.call190 (bits_may 16 31 (by decide)) ?_
 refine gX [.z [0,0,1] 7 [0,1,2,3,14,15,16]] (gS [.o [0,0,1] 7,.c [1,0,1],.c [1,1]] ?_)
 refine gC (some 17) [] Tryz.call191 (bits_all 31 (by decide)) ?_
 refine gX [.sp [20,19] [.dead] [.z [0,1,1] 0 [0,1,2,3]]] (gQ ((bAndNot .u64 v_ (bShr .u64 18446744073709551615 (64-31))) != 0) (gF ((bAndNot .u64 v_ (bShr .u64 18446744073709551615 (64-31))) != 0) (bne_eq_false_iff_eq.2 (set_fits 31 2147483647 (by decide) (by decide) hv)) (gS [.c [0,1,1],.c [1,1,1]] ?_)))
 refine qG (kV 0 [.ww,.ww,.q (vU (bShr .u64 18446744073709551615 (64-31))),.ww,.h (.n),.ww,.ww,.ww,.h (.n),.ww,.ww,.ww]) [8,9] (.p ((0:Int)≤16) (by decide) (.p ((0:Int)≤16) (by decide) .n)) (.c Tryz.call191 (qR [] (bits_all 31 (by decide))) .n) ?_
 exact gX [] (gI (.tuple #[vU (bOr .u64 (bAndNot .u64 w_ (bShl .u64 (bShr .u64 18446744073709551615 (64-31)) 16)) (bShl .u64 v_ 16)),.bool true]) [] ⟨(congrArg (fun x:Int=>Value.tuple #[.int .u64 x,.bool true]) (set_eq 16 31 140737488289792 (by decide) (by decide) (by decide) (by omega) (by omega))),rfl⟩)
theorem pack_put1(b1 b2 b3:Nat)(w_ v_:Int)(hw:0≤w_∧w_<65536)(hv:0≤v_∧v_<2147483648):
  Ctr Tryz.prog 207 #[vI v_,vI 31,vP b1,vP b2,vP b3] [.pts b1 [vU w_] 60,.pts b2 [vI 16] 3,.pts b3 [.bool true] 4] (Ret (undef) [.pts b1 [vU (w_+v_*65536)] 60,.pts b2 [vI 47] 3,.pts b3 [.bool true] 4]):=by
 refine cB B207 26 Tryz.func207 ?_
 intro F
 refine gX [.e 0,.e 1,.n,.z [0] 5 [1,2,3,4,10,11,12,14]] (gQ b1 (gQ b2 (gO (InK .u64 v_) (by simp only [InK]; omega) (gS [.o [0] 5,.c [1]] ?_))))
 refine gC (some 15) [] Tryz.call166 (bits_Set1 w_ v_ oM oM) ?_
 refine gX [.z [1] 0 [1,2,3,4,7,8]] (gS [.c [1]] ?_)
 refine zG ?_
 refine zN [0,1,2,3,4,5,6,7] (kV 0 [.w,.e 2,.w,.w,.w,.e 1,.w,.w]) [1,2,3,4,7,8,18,19,20,21,22,23,24,25] [8] (.e b3 (.e b2 .n)) ⟨?_,trivial⟩
 refine zX (.e 0) (sQ b1 (sK ?_))
 refine zN [] (kV 3 [.w,.w,.e 1,.w,.w]) [1,3,4,8,20,21,22,23,24,25] [9] (.e b2 .n) ⟨?_,trivial⟩
 refine zX (.e 2) (sQ b3 (sK ?_))
 refine zN [] (kV 5 [.e 1,.w,.w]) [1,3,23,24,25] [10] (.e b2 .n) ⟨?_,trivial⟩
 refine zX (.e 1) (sQ b2 (sK ?_))
 refine zE [] [] [] .n ?_
 exact gX [] (gJ [0,1,2] ⟨rfl,rfl⟩)
theorem bits_Set2(w_ v_:Int)(hw:0≤w_∧w_<140737488355328)(hv:0≤v_∧v_<2):
  Ctr Tryz.prog 166 #[vU w_,vI 47,vI 1,vU v_] [] (Ret (.tuple #[vU (w_+v_*140737488355328),.bool true]) []):=by
 refine cB B166 32 Tryz.func166 ?_
 intro F
 refine gX [.z [0,0,1] 2 [0,1,2,3,10,11]] (gS [.o [0,0,1] 2,.c [1,0,1],.c [1,1]] ?_)
 refine gC (some 12) [] Tryz.call190 (bits_may 47 1 (by decide)) ?_
 refine gX [.z [0,0,1] 7 [0,1,2,3,14,15,16]] (gS [.o [0,0,1] 7,.c [1,0,1],.c [1,1]] ?_)
 refine gC (some 17) [] Tryz.call191 (bits_all 1 (by decide)) ?_
 refine gX [.sp [20,19] [.dead] [.z [0,1,1] 0 [0,1,2,3]]] (gQ ((bAndNot .u64 v_ (bShr .u64 18446744073709551615 (64-1))) != 0) (gF ((bAndNot .u64 v_ (bShr .u64 18446744073709551615 (64-1))) != 0) (bne_eq_false_iff_eq.2 (set_fits 1 1 (by decide) (by decide) hv)) (gS [.c [0,1,1],.c [1,1,1]] ?_)))
 refine qG (kV 0 [.ww,.ww,.q (vU (bShr .u64 18446744073709551615 (64-1))),.ww,.h (.n),.ww,.ww,.ww,.h (.n),.ww,.ww,.ww]) [8,9] (.p ((0:Int)≤47) (by decide) (.p ((0:Int)≤47) (by decide) .n)) (.c Tryz.call191 (qR [] (bits_all 1 (by decide))) .n) ?_
 exact gX [] (gI (.tuple #[vU (bOr .u64 (bAndNot .u64 w_ (bShl .u64 (bShr .u64 18446744073709551615 (64-1)) 47)) (bShl .u64 v_ 47)),.bool true]) [] ⟨(congrArg (fun x:Int=>Value.tuple #[.int .u64 x,.bool true]) (set_eq 47 1 140737488355328 (by decide) (by decide) (by decide) (by omega) (by omega))),rfl⟩)
theorem pack_put2(b1 b2 b3:Nat)(w_ v_:Int)(hw:0≤w_∧w_<140737488355328)(hv:0≤v_∧v_<2):
  Ctr Tryz.prog 207 #[vI v_,vI 1,vP b1,vP b2,vP b3] [.pts b1 [vU w_] 60,.pts b2 [vI 47] 3,.pts b3 [.bool true] 4] (Ret (undef) [.pts b1 [vU (w_+v_*140737488355328)] 60,.pts b2 [vI 48] 3,.pts b3 [.bool true] 4]):=by
 refine cB B207 26 Tryz.func207 ?_
 intro F
 refine gX [.e 0,.e 1,.n,.z [0] 5 [1,2,3,4,10,11,12,14]] (gQ b1 (gQ b2 (gO (InK .u64 v_) (by simp only [InK]; omega) (gS [.o [0] 5,.c [1]] ?_))))
 refine gC (some 15) [] Tryz.call166 (bits_Set2 w_ v_ oM oM) ?_
 refine gX [.z [1] 0 [1,2,3,4,7,8]] (gS [.c [1]] ?_)
 refine zG ?_
 refine zN [0,1,2,3,4,5,6,7] (kV 0 [.w,.e 2,.w,.w,.w,.e 1,.w,.w]) [1,2,3,4,7,8,18,19,20,21,22,23,24,25] [8] (.e b3 (.e b2 .n)) ⟨?_,trivial⟩
 refine zX (.e 0) (sQ b1 (sK ?_))
 refine zN [] (kV 3 [.w,.w,.e 1,.w,.w]) [1,3,4,8,20,21,22,23,24,25] [9] (.e b2 .n) ⟨?_,trivial⟩
 refine zX (.e 2) (sQ b3 (sK ?_))
 refine zN [] (kV 5 [.e 1,.w,.w]) [1,3,23,24,25] [10] (.e b2 .n) ⟨?_,trivial⟩
 refine zX (.e 1) (sQ b2 (sK ?_))
 refine zE [] [] [] .n ?_
 exact gX [] (gJ [0,1,2] ⟨rfl,rfl⟩)
theorem pack_put2F(b1 b2 b3:Nat)(w_ v_:Int)(hw:0≤w_∧w_<140737488355328)(hv:0≤v_∧v_<2):
  Ctr Tryz.prog 207 #[vI v_,vI 1,vP b1,vP b2,vP b3] [.pts b1 [vU w_] 60,.pts b2 [vI 47] 3,.pts b3 [.bool false] 4] (Ret (undef) [.pts b1 [vU (w_+v_*140737488355328)] 60,.pts b2 [vI 48] 3,.pts b3 [.bool false] 4]):=by
 refine cB B207 26 Tryz.func207 ?_
 intro F
 refine gX [.e 0,.e 1,.n,.z [0] 5 [1,2,3,4,10,11,12,14]] (gQ b1 (gQ b2 (gO (InK .u64 v_) (by simp only [InK]; omega) (gS [.o [0] 5,.c [1]] ?_))))
 refine gC (some 15) [] Tryz.call166 (bits_Set2 w_ v_ oM oM) ?_
 refine gX [.z [1] 0 [1,2,3,4,7,8]] (gS [.c [1]] ?_)
 refine zG ?_
 refine zN [0,1,2,3,4,5,6,7] (kV 0 [.w,.e 2,.w,.w,.w,.e 1,.w,.w]) [1,2,3,4,7,8,18,19,20,21,22,23,24,25] [8] (.e b3 (.e b2 .n)) ⟨?_,trivial⟩
 refine zX (.e 0) (sQ b1 (sK ?_))
 refine zN [] (kV 3 [.w,.w,.e 1,.w,.w]) [1,3,4,8,20,21,22,23,24,25] [9] (.e b2 .n) ⟨?_,trivial⟩
 refine zX (.e 2) (sQ b3 (sK ?_))
 refine zN [] (kV 5 [.e 1,.w,.w]) [1,3,23,24,25] [10] (.e b2 .n) ⟨?_,trivial⟩
 refine zX (.e 1) (sQ b2 (sK ?_))
 refine zE [] [] [] .n ?_
 exact gX [] (gJ [0,1,2] ⟨rfl,rfl⟩)
theorem bits_Set3(w_ v_:Int)(hw:0≤w_∧w_<281474976710656)(hv:0≤v_∧v_<2):
  Ctr Tryz.prog 166 #[vU w_,vI 48,vI 1,vU v_] [] (Ret (.tuple #[vU (w_+v_*281474976710656),.bool true]) []):=by
 refine cB B166 32 Tryz.func166 ?_
 intro F
 refine gX [.z [0,0,1] 2 [0,1,2,3,10,11]] (gS [.o [0,0,1] 2,.c [1,0,1],.c [1,1]] ?_)
 refine gC (some 12) [] Tryz.call190 (bits_may 48 1 (by decide)) ?_
 refine gX [.z [0,0,1] 7 [0,1,2,3,14,15,16]] (gS [.o [0,0,1] 7,.c [1,0,1],.c [1,1]] ?_)
 refine gC (some 17) [] Tryz.call191 (bits_all 1 (by decide)) ?_
 refine gX [.sp [20,19] [.dead] [.z [0,1,1] 0 [0,1,2,3]]] (gQ ((bAndNot .u64 v_ (bShr .u64 18446744073709551615 (64-1))) != 0) (gF ((bAndNot .u64 v_ (bShr .u64 18446744073709551615 (64-1))) != 0) (bne_eq_false_iff_eq.2 (set_fits 1 1 (by decide) (by decide) hv)) (gS [.c [0,1,1],.c [1,1,1]] ?_)))
 refine qG (kV 0 [.ww,.ww,.q (vU (bShr .u64 18446744073709551615 (64-1))),.ww,.h (.n),.ww,.ww,.ww,.h (.n),.ww,.ww,.ww]) [8,9] (.p ((0:Int)≤48) (by decide) (.p ((0:Int)≤48) (by decide) .n)) (.c Tryz.call191 (qR [] (bits_all 1 (by decide))) .n) ?_
 exact gX [] (gI (.tuple #[vU (bOr .u64 (bAndNot .u64 w_ (bShl .u64 (bShr .u64 18446744073709551615 (64-1)) 48)) (bShl .u64 v_ 48)),.bool true]) [] ⟨(congrArg (fun x:Int=>Value.tuple #[.int .u64 x,.bool true]) (set_eq 48 1 281474976710656 (by decide) (by decide) (by decide) (by omega) (by omega))),rfl⟩)
theorem pack_put3(b1 b2 b3:Nat)(w_ v_:Int)(hw:0≤w_∧w_<281474976710656)(hv:0≤v_∧v_<2):
  Ctr Tryz.prog 207 #[vI v_,vI 1,vP b1,vP b2,vP b3] [.pts b1 [vU w_] 60,.pts b2 [vI 48] 3,.pts b3 [.bool true] 4] (Ret (undef) [.pts b1 [vU (w_+v_*281474976710656)] 60,.pts b2 [vI 49] 3,.pts b3 [.bool true] 4]):=by
 refine cB B207 26 Tryz.func207 ?_
 intro F
 refine gX [.e 0,.e 1,.n,.z [0] 5 [1,2,3,4,10,11,12,14]] (gQ b1 (gQ b2 (gO (InK .u64 v_) (by simp only [InK]; omega) (gS [.o [0] 5,.c [1]] ?_))))
 refine gC (some 15) [] Tryz.call166 (bits_Set3 w_ v_ oM oM) ?_
 refine gX [.z [1] 0 [1,2,3,4,7,8]] (gS [.c [1]] ?_)
 refine zG ?_
 refine zN [0,1,2,3,4,5,6,7] (kV 0 [.w,.e 2,.w,.w,.w,.e 1,.w,.w]) [1,2,3,4,7,8,18,19,20,21,22,23,24,25] [8] (.e b3 (.e b2 .n)) ⟨?_,trivial⟩
 refine zX (.e 0) (sQ b1 (sK ?_))
 refine zN [] (kV 3 [.w,.w,.e 1,.w,.w]) [1,3,4,8,20,21,22,23,24,25] [9] (.e b2 .n) ⟨?_,trivial⟩
 refine zX (.e 2) (sQ b3 (sK ?_))
 refine zN [] (kV 5 [.e 1,.w,.w]) [1,3,23,24,25] [10] (.e b2 .n) ⟨?_,trivial⟩
 refine zX (.e 1) (sQ b2 (sK ?_))
 refine zE [] [] [] .n ?_
 exact gX [] (gJ [0,1,2] ⟨rfl,rfl⟩)
theorem pack_put3F(b1 b2 b3:Nat)(w_ v_:Int)(hw:0≤w_∧w_<281474976710656)(hv:0≤v_∧v_<2):
  Ctr Tryz.prog 207 #[vI v_,vI 1,vP b1,vP b2,vP b3] [.pts b1 [vU w_] 60,.pts b2 [vI 48] 3,.pts b3 [.bool false] 4] (Ret (undef) [.pts b1 [vU (w_+v_*281474976710656)] 60,.pts b2 [vI 49] 3,.pts b3 [.bool false] 4]):=by
 refine cB B207 26 Tryz.func207 ?_
 intro F
 refine gX [.e 0,.e 1,.n,.z [0] 5 [1,2,3,4,10,11,12,14]] (gQ b1 (gQ b2 (gO (InK .u64 v_) (by simp only [InK]; omega) (gS [.o [0] 5,.c [1]] ?_))))
 refine gC (some 15) [] Tryz.call166 (bits_Set3 w_ v_ oM oM) ?_
 refine gX [.z [1] 0 [1,2,3,4,7,8]] (gS [.c [1]] ?_)
 refine zG ?_
 refine zN [0,1,2,3,4,5,6,7] (kV 0 [.w,.e 2,.w,.w,.w,.e 1,.w,.w]) [1,2,3,4,7,8,18,19,20,21,22,23,24,25] [8] (.e b3 (.e b2 .n)) ⟨?_,trivial⟩
 refine zX (.e 0) (sQ b1 (sK ?_))
 refine zN [] (kV 3 [.w,.w,.e 1,.w,.w]) [1,3,4,8,20,21,22,23,24,25] [9] (.e b2 .n) ⟨?_,trivial⟩
 refine zX (.e 2) (sQ b3 (sK ?_))
 refine zN [] (kV 5 [.e 1,.w,.w]) [1,3,23,24,25] [10] (.e b2 .n) ⟨?_,trivial⟩
 refine zX (.e 1) (sQ b2 (sK ?_))
 refine zE [] [] [] .n ?_
 exact gX [] (gJ [0,1,2] ⟨rfl,rfl⟩)
theorem bits_Set4(w_ v_:Int)(hw:0≤w_∧w_<562949953421312)(hv:0≤v_∧v_<32768):
  Ctr Tryz.prog 166 #[vU w_,vI 49,vI 15,vU v_] [] (Ret (.tuple #[vU (w_+v_*562949953421312),.bool true]) []):=by
 refine cB B166 32 Tryz.func166 ?_
 intro F
 refine gX [.z [0,0,1] 2 [0,1,2,3,10,11]] (gS [.o [0,0,1] 2,.c [1,0,1],.c [1,1]] ?_)
 refine gC (some 12) [] Tryz.call190 (bits_may 49 15 (by decide)) ?_
 refine gX [.z [0,0,1] 7 [0,1,2,3,14,15,16]] (gS [.o [0,0,1] 7,.c [1,0,1],.c [1,1]] ?_)
 refine gC (some 17) [] Tryz.call191 (bits_all 15 (by decide)) ?_
 refine gX [.sp [20,19] [.dead] [.z [0,1,1] 0 [0,1,2,3]]] (gQ ((bAndNot .u64 v_ (bShr .u64 18446744073709551615 (64-15))) != 0) (gF ((bAndNot .u64 v_ (bShr .u64 18446744073709551615 (64-15))) != 0) (bne_eq_false_iff_eq.2 (set_fits 15 32767 (by decide) (by decide) hv)) (gS [.c [0,1,1],.c [1,1,1]] ?_)))
 refine qG (kV 0 [.ww,.ww,.q (vU (bShr .u64 18446744073709551615 (64-15))),.ww,.h (.n),.ww,.ww,.ww,.h (.n),.ww,.ww,.ww]) [8,9] (.p ((0:Int)≤49) (by decide) (.p ((0:Int)≤49) (by decide) .n)) (.c Tryz.call191 (qR [] (bits_all 15 (by decide))) .n) ?_
 exact gX [] (gI (.tuple #[vU (bOr .u64 (bAndNot .u64 w_ (bShl .u64 (bShr .u64 18446744073709551615 (64-15)) 49)) (bShl .u64 v_ 49)),.bool true]) [] ⟨(congrArg (fun x:Int=>Value.tuple #[.int .u64 x,.bool true]) (set_eq 49 15 18446181123756130304 (by decide) (by decide) (by decide) (by omega) (by omega))),rfl⟩)
theorem pack_put4(b1 b2 b3:Nat)(w_ v_:Int)(hw:0≤w_∧w_<562949953421312)(hv:0≤v_∧v_<32768):
  Ctr Tryz.prog 207 #[vI v_,vI 15,vP b1,vP b2,vP b3] [.pts b1 [vU w_] 60,.pts b2 [vI 49] 3,.pts b3 [.bool true] 4] (Ret (undef) [.pts b1 [vU (w_+v_*562949953421312)] 60,.pts b2 [vI 64] 3,.pts b3 [.bool true] 4]):=by
 refine cB B207 26 Tryz.func207 ?_
 intro F
 refine gX [.e 0,.e 1,.n,.z [0] 5 [1,2,3,4,10,11,12,14]] (gQ b1 (gQ b2 (gO (InK .u64 v_) (by simp only [InK]; omega) (gS [.o [0] 5,.c [1]] ?_))))
 refine gC (some 15) [] Tryz.call166 (bits_Set4 w_ v_ oM oM) ?_
 refine gX [.z [1] 0 [1,2,3,4,7,8]] (gS [.c [1]] ?_)
 refine zG ?_
 refine zN [0,1,2,3,4,5,6,7] (kV 0 [.w,.e 2,.w,.w,.w,.e 1,.w,.w]) [1,2,3,4,7,8,18,19,20,21,22,23,24,25] [8] (.e b3 (.e b2 .n)) ⟨?_,trivial⟩
 refine zX (.e 0) (sQ b1 (sK ?_))
 refine zN [] (kV 3 [.w,.w,.e 1,.w,.w]) [1,3,4,8,20,21,22,23,24,25] [9] (.e b2 .n) ⟨?_,trivial⟩
 refine zX (.e 2) (sQ b3 (sK ?_))
 refine zN [] (kV 5 [.e 1,.w,.w]) [1,3,23,24,25] [10] (.e b2 .n) ⟨?_,trivial⟩
 refine zX (.e 1) (sQ b2 (sK ?_))
 refine zE [] [] [] .n ?_
 exact gX [] (gJ [0,1,2] ⟨rfl,rfl⟩)
theorem pack_put4F(b1 b2 b3:Nat)(w_ v_:Int)(hw:0≤w_∧w_<562949953421312)(hv:0≤v_∧v_<32768):
  Ctr Tryz.prog 207 #[vI v_,vI 15,vP b1,vP b2,vP b3] [.pts b1 [vU w_] 60,.pts b2 [vI 49] 3,.pts b3 [.bool false] 4] (Ret (undef) [.pts b1 [vU (w_+v_*562949953421312)] 60,.pts b2 [vI 64] 3,.pts b3 [.bool false] 4]):=by
 refine cB B207 26 Tryz.func207 ?_
 intro F
 refine gX [.e 0,.e 1,.n,.z [0] 5 [1,2,3,4,10,11,12,14]] (gQ b1 (gQ b2 (gO (InK .u64 v_) (by simp only [InK]; omega) (gS [.o [0] 5,.c [1]] ?_))))
 refine gC (some 15) [] Tryz.call166 (bits_Set4 w_ v_ oM oM) ?_
 refine gX [.z [1] 0 [1,2,3,4,7,8]] (gS [.c [1]] ?_)
 refine zG ?_
 refine zN [0,1,2,3,4,5,6,7] (kV 0 [.w,.e 2,.w,.w,.w,.e 1,.w,.w]) [1,2,3,4,7,8,18,19,20,21,22,23,24,25] [8] (.e b3 (.e b2 .n)) ⟨?_,trivial⟩
 refine zX (.e 0) (sQ b1 (sK ?_))
 refine zN [] (kV 3 [.w,.w,.e 1,.w,.w]) [1,3,4,8,20,21,22,23,24,25] [9] (.e b2 .n) ⟨?_,trivial⟩
 refine zX (.e 2) (sQ b3 (sK ?_))
 refine zN [] (kV 5 [.e 1,.w,.w]) [1,3,23,24,25] [10] (.e b2 .n) ⟨?_,trivial⟩
 refine zX (.e 1) (sQ b2 (sK ?_))
 refine zE [] [] [] .n ?_
 exact gX [] (gJ [0,1,2] ⟨rfl,rfl⟩)
theorem ctl_partsV(e_ g_ k_:Int)(l_ b_:Bool)(hl:l_ = true)(hb:b_ = false):
  Ctr Tryz.prog 195 #[.agg #[vI e_,vI g_,vI k_,.bool l_,.bool b_]] [] (Ret (.tuple #[.agg #[vI k_,vI g_,vI 0,vI 1,vI e_],.agg #[vI 16,vI 31,vI 1,vI 1,vI 15]]) []):=by
 refine cB B195 19 Tryz.func195 ?_
 intro F
 exact gX [.e 0,.e 0,.e 0,.e 1,.e 0,.sp [12] [.dead] [.e 0,.sp [15] [.w,.e 1,.e 1,.e 1,.e 2,.e 1,.e 2] [.dead]]] (gN fun b_1=>gN fun b_2=>gN fun b_3=>gQ b_1 (gQ b_1 (gQ b_1 (gQ b_2 (gQ b_1 (gF b_ hb (gQ b_1 (gT l_ hl (gQ b_2 (gQ b_2 (gQ b_2 (gQ b_3 (gQ b_2 (gQ b_3 (gR (.tuple #[.agg #[vI k_,vI g_,vI 0,vI 1,vI e_],.agg #[vI 16,vI 31,vI 1,vI 1,vI 15]]) [] ⟨rfl,rfl⟩)))))))))))))))
noncomputable def B203: Code:=(Tryz.f203.body).getD .skip
theorem ctl_Pack(e_ g_ k_:Int)(l_ b_:Bool)(hl:l_ = true)(hb:b_ = false)(he:0≤e_∧e_≤32767)(hg:0≤g_∧g_≤2147483647)(hk:0≤k_∧k_≤65535):
  Ctr Tryz.prog 203 #[.agg #[vI e_,vI g_,vI k_,.bool l_,.bool b_]] [] (Ret (.tuple #[vU (packW3 e_ 1 0 g_ k_),.nilIface]) []):=by
 refine cB B203 33 Tryz.func203 ?_
 intro F
 refine gX [.e 0,.z [0,1] 1 [12]] (gN fun b_1=>gQ b_1 (gS [.o [0,1] 1,.c [1,1]] ?_))
 refine gC (some 13) [] Tryz.call195 (ctl_partsV e_ g_ k_ l_ b_ hl hb) ?_
 refine gX [.e 1,.e 2,.e 3,.e 4,.e 5,.u,.z q75_0 0 [4,5,6,8,9,10,17]] (gN fun b_2=>gN fun b_3=>gQ b_2 (gQ b_3 (gN fun b_4=>gN fun b_5=>gN fun b_6=>gQ b_4 (gQ b_5 (gQ b_6 (gS [.c q75_0,.b 1,.c q75_1,.r q75_2,.b 0,.c [1,1,1,1,1]] ?_))))))
 refine tC (some 27) (kV 0 [.ww,.ww,.ww,.e 1,.ww,.ww,.e 2]) 7 [] [3,4,5] [4,5,6,8,9,17] Tryz.call207 (pack_put0 b_4 b_5 b_6 0 k_ (by omega) (by omega)) (.e b_2 (.e b_3 .n)) .n ?_
 rintro v post ⟨rfl,rfl⟩
 refine tN .n ?_
 refine gX [.w,.u,.z q75_0 0 [4,5,6,8,9,10,17]] (gS [.c q75_0,.b 1,.c q75_1,.r q75_2,.b 0,.c [1,1,1,1,1]] ?_)
 refine tC (some 27) (kV 0 [.ww,.ww,.ww,.e 1,.ww,.ww,.e 2]) 7 [] [3,4,5] [4,5,6,8,9,17] Tryz.call207 (pack_put1 b_4 b_5 b_6 (0+k_*1) g_ (by omega) (by omega)) (.e b_2 (.e b_3 .n)) .n ?_
 rintro v post ⟨rfl,rfl⟩
 refine tN .n ?_
 refine gX [.w,.u,.z q75_0 0 [4,5,6,8,9,10,17]] (gS [.c q75_0,.b 1,.c q75_1,.r q75_2,.b 0,.c [1,1,1,1,1]] ?_)
 refine tC (some 27) (kV 0 [.ww,.ww,.ww,.e 1,.ww,.ww,.e 2]) 7 [] [3,4,5] [4,5,6,8,9,17] Tryz.call207 (pack_put2 b_4 b_5 b_6 ((0+k_*1)+g_*65536) 0 (by omega) (by omega)) (.e b_2 (.e b_3 .n)) .n ?_
 rintro v post ⟨rfl,rfl⟩
 refine tN .n ?_
 refine gX [.w,.u,.z q75_0 0 [4,5,6,8,9,10,17]] (gS [.c q75_0,.b 1,.c q75_1,.r q75_2,.b 0,.c [1,1,1,1,1]] ?_)
 refine tC (some 27) (kV 0 [.ww,.ww,.ww,.e 1,.ww,.ww,.e 2]) 7 [] [3,4,5] [4,5,6,8,9,17] Tryz.call207 (pack_put3 b_4 b_5 b_6 (((0+k_*1)+g_*65536)+0*140737488355328) 1 (by omega) (by omega)) (.e b_2 (.e b_3 .n)) .n ?_
 rintro v post ⟨rfl,rfl⟩
 refine tN .n ?_
 refine gX [.w,.u,.z q75_0 0 [4,5,6,8,9,10,17]] (gS [.c q75_0,.b 1,.c q75_1,.r q75_2,.b 0,.c [1,1,1,1,1]] ?_)
 refine tC (some 27) (kV 0 [.ww,.ww,.ww,.e 1,.ww,.ww,.e 2]) 7 [] [3,4,5] [4,5,6,8,9,17] Tryz.call207 (pack_put4 b_4 b_5 b_6 ((((0+k_*1)+g_*65536)+0*140737488355328)+1*281474976710656) e_ (by omega) (by omega)) (.e b_2 (.e b_3 .n)) .n ?_
 rintro v post ⟨rfl,rfl⟩
 refine tN .n ?_
 exact gX [.w,.u,.e 5,.e 3] (gQ b_6 (gQ b_4 (gI (.tuple #[vU (((((0+k_*1)+g_*65536)+0*140737488355328)+1*281474976710656)+e_*562949953421312),.nilIface]) [] ⟨(congrArg (fun x:Int=>Value.tuple #[.int .u64 x,.nilIface]) (by unfold packW3; omega)),rfl⟩)))
theorem bits_SetX(w_ v_:Int)(hv:v_ = 2147483648):
  Ctr Tryz.prog 166 #[vU w_,vI 16,vI 31,vU v_] [] (Ret (.tuple #[vU w_,.bool false]) []):=by
 refine cB B166 32 Tryz.func166 ?_
 intro F
 refine gX [.z [0,0,1] 2 [0,1,2,3,10,11]] (gS [.o [0,0,1] 2,.c [1,0,1],.c [1,1]] ?_)
 refine gC (some 12) [] Tryz.call190 (bits_may 16 31 (by decide)) ?_
 refine gX [.z [0,0,1] 7 [0,1,2,3,14,15,16]] (gS [.o [0,0,1] 7,.c [1,0,1],.c [1,1]] ?_)
 refine gC (some 17) [] Tryz.call191 (bits_all 31 (by decide)) ?_
 exact gX [.sp [20,19] [] [.dead]] (gQ ((bAndNot .u64 v_ (bShr .u64 18446744073709551615 (64-31))) != 0) (gT ((bAndNot .u64 v_ (bShr .u64 18446744073709551615 (64-31))) != 0) (by subst hv; decide) (gR (.tuple #[vU w_,.bool false]) [] ⟨rfl,rfl⟩)))
theorem pack_putX(b1 b2 b3:Nat)(w_ v_:Int)(hv:v_ = 2147483648):
  Ctr Tryz.prog 207 #[vI v_,vI 31,vP b1,vP b2,vP b3] [.pts b1 [vU w_] 60,.pts b2 [vI 16] 3,.pts b3 [.bool true] 4] (Ret (undef) [.pts b1 [vU w_] 60,.pts b2 [vI 47] 3,.pts b3 [.bool false] 4]):=by
 refine cB B207 26 Tryz.func207 ?_
 intro F
 refine gX [.e 0,.e 1,.n,.z [0] 5 [1,2,3,4,10,11,12,14]] (gQ b1 (gQ b2 (gO (InK .u64 v_) (by simp only [InK]; omega) (gS [.o [0] 5,.c [1]] ?_))))
 refine gC (some 15) [] Tryz.call166 (bits_SetX w_ v_ oM) ?_
 refine gX [.z [1] 0 [1,2,3,4,7,8]] (gS [.c [1]] ?_)
 refine zG ?_
 refine zN [0,1,2,3,4,5,6,7] (kV 0 [.w,.e 2,.w,.w,.w,.e 1,.w,.w]) [1,2,3,4,7,8,18,19,20,21,22,23,24,25] [8] (.e b3 (.e b2 .n)) ⟨?_,trivial⟩
 refine zX (.e 0) (sQ b1 (sK ?_))
 refine zN [] (kV 3 [.w,.w,.e 1,.w,.w]) [1,3,4,8,20,21,22,23,24,25] [9] (.e b2 .n) ⟨?_,trivial⟩
 refine zX (.e 2) (sQ b3 (sK ?_))
 refine zN [] (kV 5 [.e 1,.w,.w]) [1,3,23,24,25] [10] (.e b2 .n) ⟨?_,trivial⟩
 refine zX (.e 1) (sQ b2 (sK ?_))
 refine zE [] [] [] .n ?_
 exact gX [] (gJ [0,1,2] ⟨rfl,rfl⟩)
theorem ctl_PackO(e_ g_ k_:Int)(l_ b_:Bool)(hl:l_ = true)(hb:b_ = false)(he:0≤e_∧e_≤32767)(hg:g_ = 2147483648)(hk:0≤k_∧k_≤65535):
  Ctr Tryz.prog 203 #[.agg #[vI e_,vI g_,vI k_,.bool l_,.bool b_]] [] (Ret (.tuple #[vU 0,.iface 42 (vI 1)]) []):=by
 refine cB B203 33 Tryz.func203 ?_
 intro F
 refine gX [.e 0,.z [0,1] 1 [12]] (gN fun b_1=>gQ b_1 (gS [.o [0,1] 1,.c [1,1]] ?_))
 refine gC (some 13) [] Tryz.call195 (ctl_partsV e_ g_ k_ l_ b_ hl hb) ?_
 refine gX [.e 1,.e 2,.e 3,.e 4,.e 5,.u,.z q75_0 0 [4,5,6,8,9,10,17]] (gN fun b_2=>gN fun b_3=>gQ b_2 (gQ b_3 (gN fun b_4=>gN fun b_5=>gN fun b_6=>gQ b_4 (gQ b_5 (gQ b_6 (gS [.c q75_0,.b 1,.c q75_1,.r q75_2,.b 0,.c [1,1,1,1,1]] ?_))))))
 refine tC (some 27) (kV 0 [.ww,.ww,.ww,.e 1,.ww,.ww,.e 2]) 7 [] [3,4,5] [4,5,6,8,9,17] Tryz.call207 (pack_put0 b_4 b_5 b_6 0 k_ (by omega) (by omega)) (.e b_2 (.e b_3 .n)) .n ?_
 rintro v post ⟨rfl,rfl⟩
 refine tN .n ?_
 refine gX [.w,.u,.z q75_0 0 [4,5,6,8,9,10,17]] (gS [.c q75_0,.b 1,.c q75_1,.r q75_2,.b 0,.c [1,1,1,1,1]] ?_)
 refine tC (some 27) (kV 0 [.ww,.ww,.ww,.e 1,.ww,.ww,.e 2]) 7 [] [3,4,5] [4,5,6,8,9,17] Tryz.call207 (pack_putX b_4 b_5 b_6 (0+k_*1) g_ hg) (.e b_2 (.e b_3 .n)) .n ?_
 rintro v post ⟨rfl,rfl⟩
 refine tN .n ?_
 refine gX [.w,.u,.z q75_0 0 [4,5,6,8,9,10,17]] (gS [.c q75_0,.b 1,.c q75_1,.r q75_2,.b 0,.c [1,1,1,1,1]] ?_)
 refine tC (some 27) (kV 0 [.ww,.ww,.ww,.e 1,.ww,.ww,.e 2]) 7 [] [3,4,5] [4,5,6,8,9,17] Tryz.call207 (pack_put2F b_4 b_5 b_6 (0+k_*1) 0 (by omega) (by omega)) (.e b_2 (.e b_3 .n)) .n ?_
 rintro v post ⟨rfl,rfl⟩
 refine tN .n ?_
 refine gX [.w,.u,.z q75_0 0 [4,5,6,8,9,10,17]] (gS [.c q75_0,.b 1,.c q75_1,.r q75_2,.b 0,.c [1,1,1,1,1]] ?_)
 refine tC (some 27) (kV 0 [.ww,.ww,.ww,.e 1,.ww,.ww,.e 2]) 7 [] [3,4,5] [4,5,6,8,9,17] Tryz.call207 (pack_put3F b_4 b_5 b_6 ((0+k_*1)+0*140737488355328) 1 (by omega) (by omega)) (.e b_2 (.e b_3 .n)) .n ?_
 rintro v post ⟨rfl,rfl⟩
 refine tN .n ?_
 refine gX [.w,.u,.z q75_0 0 [4,5,6,8,9,10,17]] (gS [.c q75_0,.b 1,.c q75_1,.r q75_2,.b 0,.c [1,1,1,1,1]] ?_)
 refine tC (some 27) (kV 0 [.ww,.ww,.ww,.e 1,.ww,.ww,.e 2]) 7 [] [3,4,5] [4,5,6,8,9,17] Tryz.call207 (pack_put4F b_4 b_5 b_6 (((0+k_*1)+0*140737488355328)+1*281474976710656) e_ (by omega) (by omega)) (.e b_2 (.e b_3 .n)) .n ?_
 rintro v post ⟨rfl,rfl⟩
 refine tN .n ?_
 refine gX [.w,.u,.e 5,.z q75_3 0 []] (gQ b_6 (gS [.o q75_3 0,.c [1,0,1,0,1,1,1,1,1],.c [1,1,1,1,1,1]] ?_))
 refine gC (some 31) [] Tryz.call46 (cause_NewE 1 (by decide)) ?_
 exact gX [] (gR (.tuple #[vU 0,.iface 42 (vI 1)]) [] ⟨rfl,rfl⟩)
noncomputable def B196: Code:=(Tryz.f196.body).getD .skip
theorem ctl_next(e_ g_ k_:Int)(l_ b_:Bool)(hl:l_ = true)(hb:b_ = false)(he:0≤e_∧e_≤32767)(hg:0≤g_∧g_+1≤2147483647)(hk:0≤k_∧k_≤65535):
  Ctr Tryz.prog 196 #[.agg #[vI e_,vI g_,vI k_,.bool l_,.bool b_]] [] (Ret (.tuple #[vU (packW3 e_ 1 0 (g_+1) k_),.nilIface]) []):=by
 refine cB B196 19 Tryz.func196 ?_
 intro F
 refine gX [.e 0,.n,.e 0,.e 0,.z [0,1,1] 1 [11]] (gN fun b_1=>gQ b_1 (gO (InK .i64 (g_+1)) (by simp only [InK]; omega) (gQ b_1 (gQ b_1 (gS [.o [0,1,1] 1,.c [1,1,1]] ?_)))))
 refine gC (some 12) [] Tryz.call203 (ctl_Pack e_ (g_+1) k_ l_ b_ hl hb oM (by omega) oM) ?_
 exact gX [] (gR (.tuple #[vU (packW3 e_ 1 0 (g_+1) k_),.nilIface]) [] ⟨rfl,rfl⟩)
theorem ctl_nextO(e_ g_ k_:Int)(l_ b_:Bool)(hl:l_ = true)(hb:b_ = false)(he:0≤e_∧e_≤32767)(hg:g_ = 2147483647)(hk:0≤k_∧k_≤65535):
  Ctr Tryz.prog 196 #[.agg #[vI e_,vI g_,vI k_,.bool l_,.bool b_]] [] (Ret (.tuple #[vU 0,.iface 42 (vI 16)]) []):=by
 refine cB B196 19 Tryz.func196 ?_
 intro F
 refine gX [.e 0,.n,.e 0,.e 0,.z [0,1,1] 1 [11]] (gN fun b_1=>gQ b_1 (gO (InK .i64 (g_+1)) (by simp only [InK]; omega) (gQ b_1 (gQ b_1 (gS [.o [0,1,1] 1,.c [1,1,1]] ?_)))))
 refine gC (some 12) [] Tryz.call203 (ctl_PackO e_ (g_+1) k_ l_ b_ hl hb oM (by omega) oM) ?_
 refine gX [.z q75_4 0 []] (gS [.o q75_4 0,.c [1,0,1,0,1,1,1],.c [1,1,1,1]] ?_)
 refine gC (some 17) [] Tryz.call46 (cause_NewE 16 (by decide)) ?_
 exact gX [] (gR (.tuple #[vU 0,.iface 42 (vI 16)]) [] ⟨rfl,rfl⟩)
noncomputable def B182: Code:=(Tryz.f182.body).getD .skip
theorem ctl_Published(w_ k_:Int)(hw:U64 w_)(hl:ctlLive w_ = true)(hb:ctlBusy w_ = false)(hk:1≤k_∧k_≤65535)(hg:ctlGen w_≠2147483647):
  Ctr Tryz.prog 182 #[vU w_,vI k_] [] (Ret (.tuple #[vU (pubW w_ k_),.nilIface]) []):=by
 refine cB B182 32 Tryz.func182 ?_
 intro F
 refine gX [.z [0,1] 1 [1,7]] (gS [.o [0,1] 1,.c [1,1]] ?_)
 refine gC (some 8) [] Tryz.call181 (ctl_Unpack w_ hw) ?_
 refine gX [.e 0,.e 0,.sp [13,12] [.dead] [.e 0,.sp [9,15,16] [.dead] [.sp [21,20] [.dead] [.sp [18,23,24] [.dead] [.e 0,.e 0,.z [0,1,1,1,1] 1 [28]]]]]] (gN fun b_2=>gQ b_2 (gQ b_2 (gQ (!(ctlLive w_)) (gF (!(ctlLive w_)) (by rw [hl]; rfl) (gQ b_2 (gQ (ctlBusy w_) (gQ (ctlBusy w_) (gF (ctlBusy w_) hb (gQ (decide (k_<1)) (gF (decide (k_<1)) (decide_eq_false (by omega)) (gQ (decide (k_≥65536)) (gQ (decide (k_≥65536)) (gF (decide (k_≥65536)) (decide_eq_false (by omega)) (gQ b_2 (gQ b_2 (gS [.o [0,1,1,1,1] 1,.c [1,1,1,1,1]] ?_))))))))))))))))
 refine gC (some 29) [] Tryz.call196 (ctl_next (ctlEpoch w_) (ctlGen w_) k_ (ctlLive w_) (ctlBusy w_) hl hb (by have:=ctl_rng hw; omega) (by have:=ctl_rng hw; omega) (by omega)) ?_
 exact gX [] (gR (.tuple #[vU (packW3 (ctlEpoch w_) 1 0 ((ctlGen w_)+1) k_),.nilIface]) [] ⟨rfl,rfl⟩)
theorem ctl_PublishedO(w_ k_:Int)(hw:U64 w_)(hl:ctlLive w_ = true)(hb:ctlBusy w_ = false)(hk:1≤k_∧k_≤65535)(hg:ctlGen w_ = 2147483647):
  Ctr Tryz.prog 182 #[vU w_,vI k_] [] (Ret (.tuple #[vU 0,.iface 42 (vI 16)]) []):=by
 refine cB B182 32 Tryz.func182 ?_
 intro F
 refine gX [.z [0,1] 1 [1,7]] (gS [.o [0,1] 1,.c [1,1]] ?_)
 refine gC (some 8) [] Tryz.call181 (ctl_Unpack w_ hw) ?_
 refine gX [.e 0,.e 0,.sp [13,12] [.dead] [.e 0,.sp [9,15,16] [.dead] [.sp [21,20] [.dead] [.sp [18,23,24] [.dead] [.e 0,.e 0,.z [0,1,1,1,1] 1 [28]]]]]] (gN fun b_2=>gQ b_2 (gQ b_2 (gQ (!(ctlLive w_)) (gF (!(ctlLive w_)) (by rw [hl]; rfl) (gQ b_2 (gQ (ctlBusy w_) (gQ (ctlBusy w_) (gF (ctlBusy w_) hb (gQ (decide (k_<1)) (gF (decide (k_<1)) (decide_eq_false (by omega)) (gQ (decide (k_≥65536)) (gQ (decide (k_≥65536)) (gF (decide (k_≥65536)) (decide_eq_false (by omega)) (gQ b_2 (gQ b_2 (gS [.o [0,1,1,1,1] 1,.c [1,1,1,1,1]] ?_))))))))))))))))
 refine gC (some 29) [] Tryz.call196 (ctl_nextO (ctlEpoch w_) (ctlGen w_) k_ (ctlLive w_) (ctlBusy w_) hl hb (by have:=ctl_rng hw; omega) hg (by omega)) ?_
 exact gX [] (gR (.tuple #[vU 0,.iface 42 (vI 16)]) [] ⟨rfl,rfl⟩)
theorem ctl_PublishedD(w_ k_:Int)(hw:U64 w_)(hl:ctlLive w_ = false):
  Ctr Tryz.prog 182 #[vU w_,vI k_] [] (Ret (.tuple #[vU 0,.iface 42 (vI 13)]) []):=by
 refine cB B182 32 Tryz.func182 ?_
 intro F
 refine gX [.z [0,1] 1 [1,7]] (gS [.o [0,1] 1,.c [1,1]] ?_)
 refine gC (some 8) [] Tryz.call181 (ctl_Unpack w_ oM) ?_
 refine gX [.e 0,.e 0,.sp [13,12] [.z q75_5 0 []] [.dead]] (gN fun b_2=>gQ b_2 (gQ b_2 (gQ (!(ctlLive w_)) (gT (!(ctlLive w_)) (by rw [hl]; rfl) (gS [.o q75_5 0,.c q75_6,.b 0,.c [1,1,1]] ?_)))))
 refine gC (some 17) [] Tryz.call46 (cause_NewE 13 (by decide)) ?_
 exact gX [] (gR (.tuple #[vU 0,.iface 42 (vI 13)]) [] ⟨rfl,rfl⟩)
theorem ctl_PublishedB(w_ k_:Int)(hw:U64 w_)(hl:ctlLive w_ = true)(hb:ctlBusy w_ = true):
  Ctr Tryz.prog 182 #[vU w_,vI k_] [] (Ret (.tuple #[vU 0,.iface 42 (vI 13)]) []):=by
 refine cB B182 32 Tryz.func182 ?_
 intro F
 refine gX [.z [0,1] 1 [1,7]] (gS [.o [0,1] 1,.c [1,1]] ?_)
 refine gC (some 8) [] Tryz.call181 (ctl_Unpack w_ oM) ?_
 refine gX [.e 0,.e 0,.sp [13,12] [.dead] [.e 0,.sp [9,15,16] [.z q75_5 0 []] [.dead]]] (gN fun b_2=>gQ b_2 (gQ b_2 (gQ (!(ctlLive w_)) (gF (!(ctlLive w_)) (by rw [hl]; rfl) (gQ b_2 (gQ (ctlBusy w_) (gQ (ctlBusy w_) (gT (ctlBusy w_) hb (gS [.o q75_5 0,.c q75_6,.b 0,.c [1,1,1]] ?_)))))))))
 refine gC (some 17) [] Tryz.call46 (cause_NewE 13 (by decide)) ?_
 exact gX [] (gR (.tuple #[vU 0,.iface 42 (vI 13)]) [] ⟨rfl,rfl⟩)
end Go.Proofs.YtpcaijopodhdgaaGreatDoor
namespace Go.Proofs.YtpcaijopodhdgaaGreatDoor
open Go.Sx
abbrev q76_0: List Nat:=[0,0,1,0,0,1,1,1]
abbrev q76_1: List Nat:=[1,0,1,0,0,1,1,1]
abbrev q76_2: List Nat:=[0,0,1,1,1,0,0,1,1,1]
noncomputable def B106: Code:=(Tryz.f106.body).getD .skip
theorem clo_fill(c:Cfg)(p ba bf bp:Nat)(wd ep bk od sn fl tm cd:Int)(wa:Option Addr)(wc:Nat)(ws:List Int)(r_ th_:Value)(i fr:Int)(A:Ar)(hi0:0≤i∧i<((ws.length:Nat):Int))(hx:0≤fr+i∧fr+i<A.n)(hfr:0≤fr∧fr≤1000000)(hn:A.ws.length=A.n)(hs:0≤A.steps∧A.steps≤1000000000)(hl:ws.length≤1000000):
  Ctr Tryz.prog 106 #[vP ba,vI i,vP bf,vP bp] [.pts bf [vI fr] 3,.pts bp [vP p] 23,Ef60d6 p r_ th_ cd false c wd ep wa ws.length wc bk od sn fl tm,E54ea0 wa wc ws,E3504b ba A,E35fb1 A] (Ret (undef) [.pts bf [vI fr] 3,.pts bp [vP p] 23,Ef60d6 p r_ th_ cd false c wd ep wa ws.length wc bk od sn fl tm,E54ea0 wa wc ws,E3504b ba (A.store (fr+i) (ws.getD i.toNat 0)),E35fb1 (A.store (fr+i) (ws.getD i.toNat 0))]):=by
 refine cB B106 18 Tryz.func106 ?_
 intro F
 refine tC (some 17) (kV 0 [.ww,.e 0,.ww,.h (.n),.e 1,.ww,.ww,.e 2,.ww,.h (.s 3),.h (.j 3 i.toNat)]) 11 [] [4,5] [] Tryz.call107 (arena_Store ba A (fr+i) (ws.getD i.toNat 0) oM hx oM) (.e bf (.p (InK .i64 (fr+i)) (by simp only [InK]; omega) (.e bp (.e p (.p (wa=wa∧ws.length=ws.length) ⟨rfl,(by first | rfl | omega | (simp; done) | (simp; omega))⟩ (.p ((0:Int)≤i∧i<((ws.length:Nat):Int)) oW (.e (slAt wa i.toNat 1) (.p (i.toNat<ws.length) oW .n)))))))) .n ?_
 rintro v post ⟨rfl,rfl⟩
 refine tN .n ?_
 exact gX [] (gJ [0,1,2,3,4,5] ⟨rfl,rfl⟩)
noncomputable def B231: Code:=(Tryz.f231.body).getD .skip
theorem each_fill(c:Cfg)(p ba bf bp eb:Nat)(wd ep bk od sn fl tm cd:Int)(wa:Option Addr)(wc:Nat)(ws:List Int)(r_ th_:Value)(i fr:Int)(A:Ar)(hi0:0≤i∧i<((ws.length:Nat):Int))(hx:0≤fr+i∧fr+i<A.n)(hfr:0≤fr∧fr≤1000000)(hn:A.ws.length=A.n)(hs:0≤A.steps∧A.steps≤1000000000)(hl:ws.length≤1000000):
  Ctr Tryz.prog 231 #[vP eb,vP ba] [.pts eb [vI i,vI ((ws.length:Nat):Int),.func (.func 106) #[] #[vP bf,vP bp]] 176,.pts bf [vI fr] 3,.pts bp [vP p] 23,Ef60d6 p r_ th_ cd false c wd ep wa ws.length wc bk od sn fl tm,E54ea0 wa wc ws,E3504b ba A,E35fb1 A] (Ret (.bool ((i+1)==((ws.length:Nat):Int))) [.pts eb [vI (i+1),vI ((ws.length:Nat):Int),.func (.func 106) #[] #[vP bf,vP bp]] 176,.pts bf [vI fr] 3,.pts bp [vP p] 23,Ef60d6 p r_ th_ cd false c wd ep wa ws.length wc bk od sn fl tm,E54ea0 wa wc ws,E3504b ba (A.store (fr+i) (ws.getD i.toNat 0)),E35fb1 (A.store (fr+i) (ws.getD i.toNat 0))]):=by
 refine cB B231 31 Tryz.func231 ?_
 intro F
 refine gX [.z [0,1] 0 [0,1]] (gS [.c [0,1],.c [1,1]] ?_)
 refine tC (some 14) (kV 0 [.ww,.ww,.ww,.e 0,.ww,.ww,.ww,.ww,.e 0]) 9 [] [1,2,3,4,5,6] [0] Tryz.call106 (clo_fill c p ba bf bp wd ep bk od sn fl tm cd wa wc ws r_ th_ i fr A hi0 hx hfr oM oM oM) (.e eb (.e eb .n)) .n ?_
 rintro v post ⟨rfl,rfl⟩
 refine tN .n ?_
 refine gX [.e 0,.n,.e 0,.z [0,1,1,1] 0 [0]] (gQ eb (gO (InK .i64 (i+1)) (by simp only [InK]; omega) (gQ eb (gS [.c [0,1,1,1],.c [1,1,1,1]] ?_))))
 refine qG (kV 0 [.ww,.ww,.ww,.e 0,.ww,.ww,.ww,.e 0,.ww,.ww]) [4] (.e eb (.e eb .n)) .n ?_
 exact gX [] (gJ [0,1,2,3,4,5,6] ⟨rfl,rfl⟩)
noncomputable def B108: Code:=(Tryz.f108.body).getD .skip
theorem pub_filled(c:Cfg)(p:Nat)(wd ep bk od sn fl tm cd:Int)(ov:Bool)(wsl:Value)(r_ th_:Value):
  Ctr Tryz.prog 108 #[vP p] [E30dd4 p r_ th_ cd ov c wd ep wsl bk od sn fl tm] (fun v L => ∃(eb:Nat) (bp:Nat),v=undef∧L=[E30dd4 p (.iface 173 (vP eb)) (.func (.func 157) #[vP p] #[]) cd ov c wd ep wsl bk od sn fl tm,.pts eb [vI 0,vI 1,.func (.func 156) #[] #[vP bp]] 176,.pts bp [vP p] 23]):=by
 refine cB B108 12 Tryz.func108 ?_
 intro F
 refine gX [.z [1] 0 [1]] (gN fun b_1=>gW (ks:=[.c [1]]) [(1,vP b_1)] [E30dd4 p r_ th_ cd ov c wd ep wsl bk od sn fl tm,.pts b_1 [vP p] 23] ?_)
 refine zG ?_
 refine zN [0,1,2,3,4,7,8] (kV 0 [.e 1,.w,.w,.w,.w]++kV 7 [.e 1,.w]) [1,2,3,4,5,6,9,10] [5] (.e b_1 (.e b_1 .n)) ⟨?_,trivial⟩
 refine zX .w (sN fun b_5_1=>(sV ?_))
 refine zN [6] (kV 0 [.e 1,.w,.w]++kV 6 [.w,.e 1,.w]) [7,1,2,3,4,8,9,10] [9] (.e b_1 (.e b_1 .n)) ⟨?_,trivial⟩
 refine zC (some 11) [0] Tryz.call50 (pub_follow c p wd ep bk od sn fl tm cd ov wsl r_ th_ 173 b_5_1 (.func 157) (#[vP p]) (#[])) ?_
 rintro v post ⟨rfl,rfl⟩
 refine zE [] [] [] .n ?_
 exact gX [] (gJ [2,1,0] ⟨b_5_1,b_1,rfl,rfl⟩)
noncomputable def B156: Code:=(Tryz.f156.body).getD .skip
theorem clo_look(c:Cfg)(p ba bp:Nat)(wd ep bk od sn fl tm cd:Int)(ov:Bool)(wsl:Value)(r_ th_:Value)(A:Ar)(hn:A.ws.length=A.n)(hs:0≤A.steps∧A.steps≤1000000000)(hi:0≤wd∧wd<A.n):
  Ctr Tryz.prog 156 #[vP ba,vI 0,vP bp] [.pts bp [vP p] 23,E30dd4 p r_ th_ cd ov c wd ep wsl bk od sn fl tm,E3504b ba A,E35fb1 A] (Ret (undef) [.pts bp [vP p] 23,E30dd4 p r_ th_ cd ov c wd ep wsl bk od (A.ws.getD wd.toNat 0) fl tm,E3504b ba (A.load wd),E35fb1 (A.load wd)]):=by
 refine cB B156 14 Tryz.func156 ?_
 intro F
 refine zG ?_
 refine zN [0,1,2,3,4,5] (kV 0 [.e 0,.w,.e 0,.w,.w,.e 1]) [0,2,5,6,7,8,9,10] [6] (.e bp (.e bp (.e p .n))) ⟨?_,trivial⟩
 refine zC (some 11) [2,3] Tryz.call116 (arena_Load ba A wd oM hi oM) ?_
 rintro v post ⟨rfl,rfl⟩
 refine zN [7,8] [(0,.e 0),(7,.w),(8,.w)] [11,2,5,12,13] [9] (.e bp .n) ⟨?_,trivial⟩
 refine zX (.e 1) (sQ p (sK ?_))
 refine zE [] [] [] .n ?_
 exact gX [] (gJ [0,1,2,3] ⟨rfl,rfl⟩)
theorem each_look(c:Cfg)(p ba bp eb:Nat)(wd ep bk od sn fl tm cd:Int)(ov:Bool)(wsl:Value)(r_ th_:Value)(A:Ar)(hn:A.ws.length=A.n)(hs:0≤A.steps∧A.steps≤1000000000)(hi:0≤wd∧wd<A.n):
  Ctr Tryz.prog 231 #[vP eb,vP ba] [.pts eb [vI 0,vI 1,.func (.func 156) #[] #[vP bp]] 176,.pts bp [vP p] 23,E30dd4 p r_ th_ cd ov c wd ep wsl bk od sn fl tm,E3504b ba A,E35fb1 A] (Ret (.bool true) [.pts eb [vI 1,vI 1,.func (.func 156) #[] #[vP bp]] 176,.pts bp [vP p] 23,E30dd4 p r_ th_ cd ov c wd ep wsl bk od (A.ws.getD wd.toNat 0) fl tm,E3504b ba (A.load wd),E35fb1 (A.load wd)]):=by
 refine cB B231 31 Tryz.func231 ?_
 intro F
 refine gX [.z [0,1] 0 [0,1]] (gS [.c [0,1],.c [1,1]] ?_)
 refine tC (some 14) (kV 0 [.ww,.ww,.ww,.e 0,.ww,.ww,.ww,.ww,.e 0]) 9 [] [1,2,3,4] [0] Tryz.call156 (clo_look c p ba bp wd ep bk od sn fl tm cd ov wsl r_ th_ A oM oM hi) (.e eb (.e eb .n)) .n ?_
 rintro v post ⟨rfl,rfl⟩
 refine tN .n ?_
 refine gX [.e 0,.w,.e 0,.z [0,1,1,1] 0 [0]] (gQ eb (gQ eb (gS [.c [0,1,1,1],.c [1,1,1,1]] ?_)))
 refine qG (kV 0 [.ww,.ww,.ww,.e 0,.ww,.ww,.ww,.e 0,.ww,.ww]) [4] (.e eb (.e eb .n)) .n ?_
 exact gX [] (gJ [0,1,2,3,4] ⟨rfl,rfl⟩)
noncomputable def B183: Code:=(Tryz.f183.body).getD .skip
theorem pub_fail(c:Cfg)(p:Nat)(wd ep bk od sn fl tm cd:Int)(ov:Bool)(wsl:Value)(r_ th_:Value)(k_:Int)(hc:c.Ok)(hb:0≤clsOf c bk):
  Ctr Tryz.prog 183 #[vP p,vI k_] [E30dd4 p r_ th_ cd ov c wd ep wsl bk od sn fl tm] (fun v L => ∃(gv:Nat) (bq:Nat) (bc:Nat),v=undef∧L=[E30dd4 p (.iface 147 (vP gv)) (.func (.func 197) #[] #[vP bq,vP bc]) cd ov c wd ep wsl bk od sn fl tm,E31d76 gv c (3+clsOf c bk) 0 (.func (.func 192) #[vP gv] #[]) bk,.pts bq [vP p] 23,.pts bc [vI k_] 42]):=by
 refine cB B183 19 Tryz.func183 ?_
 intro F
 refine gX [.z [1] 0 [2,3]] (gN fun b_1=>gN fun b_2=>gW (ks:=[.c [1]]) [(2,vP b_1),(3,vP b_2)] [E30dd4 p r_ th_ cd ov c wd ep wsl bk od sn fl tm,.pts b_1 [vP p] 23,.pts b_2 [vI k_] 42] ?_)
 refine zG ?_
 refine zN [0,1,2,3,4,5,6,7,8,9,10,13] (kV 0 [.e 1,.w,.w,.e 1,.w,.w,.e 0,.e 1,.w,.w,.e 0]++kV 13 [.w]) [2,3,4,5,6,7,8,9,10,11,12,13,14,17] [11] (.e b_1 (.e b_1 (.e p (.e b_1 (.e p .n))))) ⟨?_,trivial⟩
 refine zC (some 15) [] Tryz.call173 (new_Give c bk oM hb) ?_
 rintro v post ⟨gv_11_1,rfl,rfl⟩
 refine zN [12] [(0,.e 1),(1,.w),(2,.w),(12,.w),(13,.w)] [15,2,3,4,5,6,16,17] [14] (.e b_1 .n) ⟨?_,trivial⟩
 refine zC (some 18) [0] Tryz.call50 (pub_follow c p wd ep bk od sn fl tm cd ov wsl r_ th_ 147 gv_11_1 (.func 197) (#[]) (#[vP b_1,vP b_2])) ?_
 rintro v post ⟨rfl,rfl⟩
 refine zE [] [] [] .n ?_
 exact gX [] (gJ [3,2,0,1] ⟨gv_11_1,b_1,b_2,rfl,rfl⟩)
noncomputable def B197: Code:=(Tryz.f197.body).getD .skip
theorem pub_then5(c:Cfg)(p bq bc:Nat)(wd ep bk od sn fl tm cd:Int)(ov:Bool)(wsl:Value)(r_ th_:Value)(k_:Int):
  Ctr Tryz.prog 197 #[vP bq,vP bc] [.pts bq [vP p] 23,.pts bc [vI k_] 42,E30dd4 p r_ th_ cd ov c wd ep wsl bk od sn fl tm] (Ret (undef) [.pts bq [vP p] 23,.pts bc [vI k_] 42,E30dd4 p r_ th_ k_ true c wd ep wsl 0 od sn fl tm]):=by
 refine cB B197 10 Tryz.func197 ?_
 intro F
 refine gX [.e 0,.e 2,.z [1] 0 [0,1]] (gQ bq (gQ p (gS [.c [1]] ?_)))
 refine tC (some 9) (kV 0 [.e 0,.ww,.ww,.e 1]) 4 [] [2] [] Tryz.call57 (pub_end c p wd ep 0 od sn fl tm cd ov wsl r_ th_ k_) (.e bq (.e bc .n)) .n ?_
 rintro v post ⟨rfl,rfl⟩
 refine tN .n ?_
 exact gX [] (gJ [0,1,2] ⟨rfl,rfl⟩)
noncomputable def B157: Code:=(Tryz.f157.body).getD .skip
theorem pub_lookedD(c:Cfg)(p:Nat)(wd ep bk od sn fl tm cd:Int)(ov:Bool)(wsl:Value)(r_ th_:Value)(hw:U64 sn)(hk:1≤bk∧bk≤65535)(hc:c.Ok)(hcl:0≤clsOf c bk)(hl:ctlLive sn=false):
  Ctr Tryz.prog 157 #[vP p] [E30dd4 p r_ th_ cd ov c wd ep wsl bk od sn fl tm] (fun v L => ∃(gv:Nat) (bq:Nat) (bc:Nat),v=undef∧L=[E30dd4 p (.iface 147 (vP gv)) (.func (.func 197) #[] #[vP bq,vP bc]) cd ov c wd ep wsl bk od sn fl tm,E31d76 gv c (3+clsOf c bk) 0 (.func (.func 192) #[vP gv] #[]) bk,.pts bq [vP p] 23,.pts bc [vI 22] 42]):=by
 refine cB B157 56 Tryz.func157 ?_
 intro F
 refine gX [.e 1,.e 0,.z [0,1] 4 [1,9]] (gN fun b_1=>gQ b_1 (gQ p (gS [.o [0,1] 4,.c [1,1]] ?_)))
 refine gC (some 10) [] Tryz.call181 (ctl_Unpack sn hw) ?_
 refine gX [.e 2,.z [0,1,1] 0 [1,2]] (gN fun b_3=>gQ b_3 (gS [.c [0,1,1],.c [1,1,1]] ?_))
 refine zG ?_
 refine zN [0,1,2,3,4,5,6,7,8,9,10,11] (kV 0 [.e 1,.w,.w,.e 0,.e 1,.w,.w,.e 0,.q (.tuple #[vU 0,.iface 42 (vI 13)]),.w,.w,.w]) [1,2,12,13,14,15,16,17,18,19,20,11,21,22] [12] (.e b_1 (.e p (.e b_1 (.e p (.q (lQ [] Tryz.call182 (ctl_PublishedD sn bk hw hl)) .n))))) ⟨?_,trivial⟩
 refine zX .w (sN fun b_12_1=>(sV ?_))
 refine zN [] (kV 0 [.e 1,.w,.w,.e 0,.e 1,.w,.w,.e 0,.q (.tuple #[vU 0,.iface 42 (vI 13)]),.w,.w,.w]) [3,1,2,12,13,14,15,16,17,18,19,20,11,21,22] [13] (.e b_1 (.e p (.e b_1 (.e p (.q (lQ [] Tryz.call182 (ctl_PublishedD sn bk hw hl)) .n))))) ⟨?_,trivial⟩
 refine zX (.e 3) (sQ b_12_1 (sK ?_))
 refine zE [14] [(11,.w),(14,.w)] [3,1,2,4] .n ?_
 refine gX [.z [0,0,0,1,1,1] 0 [1,2,3,4]] (gS [.c [0,0,0,1,1,1],.c [1,0,0,1,1,1],.b 0,.c [1,1,1,1]] ?_)
 refine qG (kV 0 [.ww,.e 2,.t true,.ww,.ww,.ww,.ww,.ww,.ww,.ww,.ww,.ww,.ww,.ww,.ww,.ww,.ww]) [1,2,3,4,23] (.e b_3 (.p ((!(ctlLive sn))=true) (by rw [hl]; rfl) .n)) .n ?_
 refine gX [.e 1,.z q76_0 1 [40]] (gQ b_1 (gS [.o q76_0 1,.c q76_1,.b 0,.c [1,1,1,1]] ?_))
 refine go_call (some 41) [0] Tryz.call183 (pub_fail c p wd ep bk od sn fl tm cd ov wsl r_ th_ 22 hc hcl) kR ?_
 rintro v post ⟨gv_4,bq_5,bc_6,rfl,rfl⟩
 exact gX [] (gJ [3,4,5,6] ⟨gv_4,bq_5,bc_6,rfl,rfl⟩)
theorem pub_lookedB(c:Cfg)(p:Nat)(wd ep bk od sn fl tm cd:Int)(ov:Bool)(wsl:Value)(r_ th_:Value)(hw:U64 sn)(hk:1≤bk∧bk≤65535)(hc:c.Ok)(hcl:0≤clsOf c bk)(hl:ctlLive sn=true)(he:ctlEpoch sn=ep)(hb:ctlBusy sn=true):
  Ctr Tryz.prog 157 #[vP p] [E30dd4 p r_ th_ cd ov c wd ep wsl bk od sn fl tm] (fun v L => ∃(gv:Nat) (bq:Nat) (bc:Nat),v=undef∧L=[E30dd4 p (.iface 147 (vP gv)) (.func (.func 197) #[] #[vP bq,vP bc]) cd ov c wd ep wsl bk od sn fl tm,E31d76 gv c (3+clsOf c bk) 0 (.func (.func 192) #[vP gv] #[]) bk,.pts bq [vP p] 23,.pts bc [vI 22] 42]):=by
 refine cB B157 56 Tryz.func157 ?_
 intro F
 refine gX [.e 1,.e 0,.z [0,1] 4 [1,9]] (gN fun b_1=>gQ b_1 (gQ p (gS [.o [0,1] 4,.c [1,1]] ?_)))
 refine gC (some 10) [] Tryz.call181 (ctl_Unpack sn hw) ?_
 refine gX [.e 2,.z [0,1,1] 0 [1,2]] (gN fun b_3=>gQ b_3 (gS [.c [0,1,1],.c [1,1,1]] ?_))
 refine zG ?_
 refine zN [0,1,2,3,4,5,6,7,8,9,10,11] (kV 0 [.e 1,.w,.w,.e 0,.e 1,.w,.w,.e 0,.q (.tuple #[vU 0,.iface 42 (vI 13)]),.w,.w,.w]) [1,2,12,13,14,15,16,17,18,19,20,11,21,22] [12] (.e b_1 (.e p (.e b_1 (.e p (.q (lQ [] Tryz.call182 (ctl_PublishedB sn bk hw hl hb)) .n))))) ⟨?_,trivial⟩
 refine zX .w (sN fun b_12_1=>(sV ?_))
 refine zN [] (kV 0 [.e 1,.w,.w,.e 0,.e 1,.w,.w,.e 0,.q (.tuple #[vU 0,.iface 42 (vI 13)]),.w,.w,.w]) [3,1,2,12,13,14,15,16,17,18,19,20,11,21,22] [13] (.e b_1 (.e p (.e b_1 (.e p (.q (lQ [] Tryz.call182 (ctl_PublishedB sn bk hw hl hb)) .n))))) ⟨?_,trivial⟩
 refine zX (.e 3) (sQ b_12_1 (sK ?_))
 refine zE [14] [(11,.w),(14,.w)] [3,1,2,4] .n ?_
 refine gX [.z [0,0,0,1,1,1] 0 [1,2,3,4]] (gS [.c [0,0,0,1,1,1],.c [1,0,0,1,1,1],.b 0,.c [1,1,1,1]] ?_)
 refine qG (kV 0 [.ww,.e 2,.t false,.ww,.ww,.e 2,.e 1,.ww,.ww,.e 0,.t false,.ww,.ww,.ww,.e 2,.t true,.ww]) [1,2,3,4,23] (.e b_3 (.p ((!(ctlLive sn))=false) (by rw [hl]; rfl) (.e b_3 (.e b_1 (.e p (.p (((ctlEpoch sn) != ep)=false) (bne_eq_false_iff_eq.2 he) (.e b_3 (.p ((ctlBusy sn)=true) hb .n)))))))) .n ?_
 refine gX [.e 1,.z q76_0 1 [40]] (gQ b_1 (gS [.o q76_0 1,.c q76_1,.b 0,.c [1,1,1,1]] ?_))
 refine go_call (some 41) [0] Tryz.call183 (pub_fail c p wd ep bk od sn fl tm cd ov wsl r_ th_ 22 hc hcl) kR ?_
 rintro v post ⟨gv_4,bq_5,bc_6,rfl,rfl⟩
 exact gX [] (gJ [3,4,5,6] ⟨gv_4,bq_5,bc_6,rfl,rfl⟩)
theorem pub_lookedO(c:Cfg)(p:Nat)(wd ep bk od sn fl tm cd:Int)(ov:Bool)(wsl:Value)(r_ th_:Value)(hw:U64 sn)(hk:1≤bk∧bk≤65535)(hc:c.Ok)(hcl:0≤clsOf c bk)(hl:ctlLive sn=true)(he:ctlEpoch sn=ep)(hb:ctlBusy sn=false)(hg:ctlGen sn=2147483647):
  Ctr Tryz.prog 157 #[vP p] [E30dd4 p r_ th_ cd ov c wd ep wsl bk od sn fl tm] (fun v L => ∃(gv:Nat) (bq:Nat) (bc:Nat),v=undef∧L=[E30dd4 p (.iface 147 (vP gv)) (.func (.func 197) #[] #[vP bq,vP bc]) cd ov c wd ep wsl bk od sn fl tm,E31d76 gv c (3+clsOf c bk) 0 (.func (.func 192) #[vP gv] #[]) bk,.pts bq [vP p] 23,.pts bc [vI 16] 42]):=by
 refine cB B157 56 Tryz.func157 ?_
 intro F
 refine gX [.e 1,.e 0,.z [0,1] 4 [1,9]] (gN fun b_1=>gQ b_1 (gQ p (gS [.o [0,1] 4,.c [1,1]] ?_)))
 refine gC (some 10) [] Tryz.call181 (ctl_Unpack sn hw) ?_
 refine gX [.e 2,.z [0,1,1] 0 [1,2]] (gN fun b_3=>gQ b_3 (gS [.c [0,1,1],.c [1,1,1]] ?_))
 refine zG ?_
 refine zN [0,1,2,3,4,5,6,7,8,9,10,11] (kV 0 [.e 1,.w,.w,.e 0,.e 1,.w,.w,.e 0,.q (.tuple #[vU 0,.iface 42 (vI 16)]),.w,.w,.w]) [1,2,12,13,14,15,16,17,18,19,20,11,21,22] [12] (.e b_1 (.e p (.e b_1 (.e p (.q (lQ [] Tryz.call182 (ctl_PublishedO sn bk hw hl hb hk hg)) .n))))) ⟨?_,trivial⟩
 refine zX .w (sN fun b_12_1=>(sV ?_))
 refine zN [] (kV 0 [.e 1,.w,.w,.e 0,.e 1,.w,.w,.e 0,.q (.tuple #[vU 0,.iface 42 (vI 16)]),.w,.w,.w]) [3,1,2,12,13,14,15,16,17,18,19,20,11,21,22] [13] (.e b_1 (.e p (.e b_1 (.e p (.q (lQ [] Tryz.call182 (ctl_PublishedO sn bk hw hl hb hk hg)) .n))))) ⟨?_,trivial⟩
 refine zX (.e 3) (sQ b_12_1 (sK ?_))
 refine zE [14] [(11,.w),(14,.w)] [3,1,2,4] .n ?_
 refine gX [.z [0,0,0,1,1,1] 0 [1,2,3,4]] (gS [.c [0,0,0,1,1,1],.c [1,0,0,1,1,1],.b 0,.c [1,1,1,1]] ?_)
 refine qG (kV 0 [.ww,.e 2,.t false,.ww,.ww,.e 2,.e 1,.ww,.ww,.e 0,.t false,.ww,.ww,.ww,.e 2,.t false,.ww]) [1,2,3,4,23] (.e b_3 (.p ((!(ctlLive sn))=false) (by rw [hl]; rfl) (.e b_3 (.e b_1 (.e p (.p (((ctlEpoch sn) != ep)=false) (bne_eq_false_iff_eq.2 he) (.e b_3 (.p ((ctlBusy sn)=false) hb .n)))))))) .n ?_
 refine gX [.e 1,.z q76_2 1 [45]] (gQ b_1 (gS [.o q76_2 1,.c [1,0,1,1,1,0,0,1,1,1],.b 0,.c [1,1,1,1]] ?_))
 refine go_call (some 46) [0] Tryz.call183 (pub_fail c p wd ep bk od sn fl tm cd ov wsl r_ th_ 16 hc hcl) kR ?_
 rintro v post ⟨gv_4,bq_5,bc_6,rfl,rfl⟩
 exact gX [] (gJ [3,4,5,6] ⟨gv_4,bq_5,bc_6,rfl,rfl⟩)
theorem pub_lookedK(c:Cfg)(p:Nat)(wd ep bk od sn fl tm cd:Int)(ov:Bool)(wsl:Value)(r_ th_:Value)(hw:U64 sn)(hk:1≤bk∧bk≤65535)(hc:c.Ok)(hcl:0≤clsOf c bk)(hl:ctlLive sn=true)(he:ctlEpoch sn=ep)(hb:ctlBusy sn=false)(hg:ctlGen sn≠2147483647):
  Ctr Tryz.prog 157 #[vP p] [E30dd4 p r_ th_ cd ov c wd ep wsl bk od sn fl tm] (fun v L => ∃(eb:Nat) (bp:Nat) (b3:Nat) (b5:Nat) (b2:Nat),v=undef∧L=[E30dd4 p (.iface 173 (vP eb)) (.func (.func 186) #[] #[vP bp,vP b5,vP b2]) cd ov c wd ep wsl bk od sn fl tm,.pts eb [vI 0,vI 1,.func (.func 184) #[] #[vP bp,vP b3,vP b5]] 176,.pts bp [vP p] 23,.pts b3 [vU (pubW sn bk)] 60,.pts b5 [.bool false] 4,E15a58 b2 (ctlEpoch sn) (ctlGen sn) (ctlBlock sn) (ctlLive sn) (ctlBusy sn)]):=by
 refine cB B157 56 Tryz.func157 ?_
 intro F
 refine gX [.e 1,.e 0,.z [0,1] 4 [1,9]] (gN fun b_1=>gQ b_1 (gQ p (gS [.o [0,1] 4,.c [1,1]] ?_)))
 refine gC (some 10) [] Tryz.call181 (ctl_Unpack sn hw) ?_
 refine gX [.e 2,.z [0,1,1] 0 [1,2]] (gN fun b_3=>gQ b_3 (gS [.c [0,1,1],.c [1,1,1]] ?_))
 refine zG ?_
 refine zN [0,1,2,3,4,5,6,7,8,9,10,11] (kV 0 [.e 1,.w,.w,.e 0,.e 1,.w,.w,.e 0,.q (.tuple #[vU (pubW sn bk),.nilIface]),.w,.w,.w]) [1,2,12,13,14,15,16,17,18,19,20,11,21,22] [12] (.e b_1 (.e p (.e b_1 (.e p (.q (lQ [] Tryz.call182 (ctl_Published sn bk hw hl hb hk hg)) .n))))) ⟨?_,trivial⟩
 refine zX .w (sN fun b_12_1=>(sV ?_))
 refine zN [] (kV 0 [.e 1,.w,.w,.e 0,.e 1,.w,.w,.e 0,.q (.tuple #[vU (pubW sn bk),.nilIface]),.w,.w,.w]) [3,1,2,12,13,14,15,16,17,18,19,20,11,21,22] [13] (.e b_1 (.e p (.e b_1 (.e p (.q (lQ [] Tryz.call182 (ctl_Published sn bk hw hl hb hk hg)) .n))))) ⟨?_,trivial⟩
 refine zX (.e 3) (sQ b_12_1 (sK ?_))
 refine zE [14] [(11,.w),(14,.w)] [3,1,2,4] .n ?_
 refine gX [.z [0,0,0,1,1,1] 0 [1,2,3,4]] (gS [.c [0,0,0,1,1,1],.c [1,0,0,1,1,1],.b 0,.c [1,1,1,1]] ?_)
 refine qG (kV 0 [.ww,.e 2,.t false,.ww,.ww,.e 2,.e 1,.ww,.ww,.e 0,.t false,.ww,.ww,.ww,.e 2,.t false,.ww]) [1,2,3,4,23] (.e b_3 (.p ((!(ctlLive sn))=false) (by rw [hl]; rfl) (.e b_3 (.e b_1 (.e p (.p (((ctlEpoch sn) != ep)=false) (bne_eq_false_iff_eq.2 he) (.e b_3 (.p ((ctlBusy sn)=false) hb .n)))))))) .n ?_
 refine gX [.e 4,.e 1,.z [1,1,1,1,1] 8 [49,53,54]] (gN fun b_4=>gQ b_4 (gQ b_1 (gN fun b_5=>gW (ks:=[.o [1,1,1,1,1] 8]) [(49,vP p),(53,.iface 173 (vP b_5)),(54,.func (.func 186) #[] #[vP b_1,vP b_4,vP b_3])] [E30dd4 p r_ th_ cd ov c wd ep wsl bk od sn fl tm,.pts b_1 [vP p] 23,E15a58 b_3 (ctlEpoch sn) (ctlGen sn) (ctlBlock sn) (ctlLive sn) (ctlBusy sn),.pts b_12_1 [vU (pubW sn bk)] 60,.pts b_4 [.bool false] 4,.pts b_5 [vI 0,vI 1,.func (.func 184) #[] #[vP b_1,vP b_12_1,vP b_4]] 176] ?_)))
 refine gC (some 55) [0] Tryz.call50 (pub_follow c p wd ep bk od sn fl tm cd ov wsl r_ th_ 173 b_5 (.func 186) (#[]) (#[vP b_1,vP b_4,vP b_3])) ?_
 exact gX [] (gJ [5,4,0,2,3,1] ⟨b_5,b_1,b_12_1,b_4,b_3,rfl,rfl⟩)
theorem pub_lookedE1(c:Cfg)(p:Nat)(wd ep bk od sn fl tm cd:Int)(ov:Bool)(wsl:Value)(r_ th_:Value)(hw:U64 sn)(hk:1≤bk∧bk≤65535)(hc:c.Ok)(hcl:0≤clsOf c bk)(hl:ctlLive sn=true)(he:ctlEpoch sn≠ep)(hb:ctlBusy sn=true):
  Ctr Tryz.prog 157 #[vP p] [E30dd4 p r_ th_ cd ov c wd ep wsl bk od sn fl tm] (fun v L => ∃(gv:Nat) (bq:Nat) (bc:Nat),v=undef∧L=[E30dd4 p (.iface 147 (vP gv)) (.func (.func 197) #[] #[vP bq,vP bc]) cd ov c wd ep wsl bk od sn fl tm,E31d76 gv c (3+clsOf c bk) 0 (.func (.func 192) #[vP gv] #[]) bk,.pts bq [vP p] 23,.pts bc [vI 22] 42]):=by
 refine cB B157 56 Tryz.func157 ?_
 intro F
 refine gX [.e 1,.e 0,.z [0,1] 4 [1,9]] (gN fun b_1=>gQ b_1 (gQ p (gS [.o [0,1] 4,.c [1,1]] ?_)))
 refine gC (some 10) [] Tryz.call181 (ctl_Unpack sn hw) ?_
 refine gX [.e 2,.z [0,1,1] 0 [1,2]] (gN fun b_3=>gQ b_3 (gS [.c [0,1,1],.c [1,1,1]] ?_))
 refine zG ?_
 refine zN [0,1,2,3,4,5,6,7,8,9,10,11] (kV 0 [.e 1,.w,.w,.e 0,.e 1,.w,.w,.e 0,.q (.tuple #[vU 0,.iface 42 (vI 13)]),.w,.w,.w]) [1,2,12,13,14,15,16,17,18,19,20,11,21,22] [12] (.e b_1 (.e p (.e b_1 (.e p (.q (lQ [] Tryz.call182 (ctl_PublishedB sn bk hw hl hb)) .n))))) ⟨?_,trivial⟩
 refine zX .w (sN fun b_12_1=>(sV ?_))
 refine zN [] (kV 0 [.e 1,.w,.w,.e 0,.e 1,.w,.w,.e 0,.q (.tuple #[vU 0,.iface 42 (vI 13)]),.w,.w,.w]) [3,1,2,12,13,14,15,16,17,18,19,20,11,21,22] [13] (.e b_1 (.e p (.e b_1 (.e p (.q (lQ [] Tryz.call182 (ctl_PublishedB sn bk hw hl hb)) .n))))) ⟨?_,trivial⟩
 refine zX (.e 3) (sQ b_12_1 (sK ?_))
 refine zE [14] [(11,.w),(14,.w)] [3,1,2,4] .n ?_
 refine gX [.z [0,0,0,1,1,1] 0 [1,2,3,4]] (gS [.c [0,0,0,1,1,1],.c [1,0,0,1,1,1],.b 0,.c [1,1,1,1]] ?_)
 refine qG (kV 0 [.ww,.e 2,.t false,.ww,.ww,.e 2,.e 1,.ww,.ww,.e 0,.t true,.ww,.ww,.ww,.ww,.ww,.ww]) [1,2,3,4,23] (.e b_3 (.p ((!(ctlLive sn))=false) (by rw [hl]; rfl) (.e b_3 (.e b_1 (.e p (.p (((ctlEpoch sn) != ep)=true) (bne_iff_ne.2 he) .n)))))) .n ?_
 refine gX [.e 1,.z q76_0 1 [40]] (gQ b_1 (gS [.o q76_0 1,.c q76_1,.b 0,.c [1,1,1,1]] ?_))
 refine go_call (some 41) [0] Tryz.call183 (pub_fail c p wd ep bk od sn fl tm cd ov wsl r_ th_ 22 hc hcl) kR ?_
 rintro v post ⟨gv_4,bq_5,bc_6,rfl,rfl⟩
 exact gX [] (gJ [3,4,5,6] ⟨gv_4,bq_5,bc_6,rfl,rfl⟩)
theorem pub_lookedE2(c:Cfg)(p:Nat)(wd ep bk od sn fl tm cd:Int)(ov:Bool)(wsl:Value)(r_ th_:Value)(hw:U64 sn)(hk:1≤bk∧bk≤65535)(hc:c.Ok)(hcl:0≤clsOf c bk)(hl:ctlLive sn=true)(he:ctlEpoch sn≠ep)(hb:ctlBusy sn=false)(hg:ctlGen sn=2147483647):
  Ctr Tryz.prog 157 #[vP p] [E30dd4 p r_ th_ cd ov c wd ep wsl bk od sn fl tm] (fun v L => ∃(gv:Nat) (bq:Nat) (bc:Nat),v=undef∧L=[E30dd4 p (.iface 147 (vP gv)) (.func (.func 197) #[] #[vP bq,vP bc]) cd ov c wd ep wsl bk od sn fl tm,E31d76 gv c (3+clsOf c bk) 0 (.func (.func 192) #[vP gv] #[]) bk,.pts bq [vP p] 23,.pts bc [vI 22] 42]):=by
 refine cB B157 56 Tryz.func157 ?_
 intro F
 refine gX [.e 1,.e 0,.z [0,1] 4 [1,9]] (gN fun b_1=>gQ b_1 (gQ p (gS [.o [0,1] 4,.c [1,1]] ?_)))
 refine gC (some 10) [] Tryz.call181 (ctl_Unpack sn hw) ?_
 refine gX [.e 2,.z [0,1,1] 0 [1,2]] (gN fun b_3=>gQ b_3 (gS [.c [0,1,1],.c [1,1,1]] ?_))
 refine zG ?_
 refine zN [0,1,2,3,4,5,6,7,8,9,10,11] (kV 0 [.e 1,.w,.w,.e 0,.e 1,.w,.w,.e 0,.q (.tuple #[vU 0,.iface 42 (vI 16)]),.w,.w,.w]) [1,2,12,13,14,15,16,17,18,19,20,11,21,22] [12] (.e b_1 (.e p (.e b_1 (.e p (.q (lQ [] Tryz.call182 (ctl_PublishedO sn bk hw hl hb hk hg)) .n))))) ⟨?_,trivial⟩
 refine zX .w (sN fun b_12_1=>(sV ?_))
 refine zN [] (kV 0 [.e 1,.w,.w,.e 0,.e 1,.w,.w,.e 0,.q (.tuple #[vU 0,.iface 42 (vI 16)]),.w,.w,.w]) [3,1,2,12,13,14,15,16,17,18,19,20,11,21,22] [13] (.e b_1 (.e p (.e b_1 (.e p (.q (lQ [] Tryz.call182 (ctl_PublishedO sn bk hw hl hb hk hg)) .n))))) ⟨?_,trivial⟩
 refine zX (.e 3) (sQ b_12_1 (sK ?_))
 refine zE [14] [(11,.w),(14,.w)] [3,1,2,4] .n ?_
 refine gX [.z [0,0,0,1,1,1] 0 [1,2,3,4]] (gS [.c [0,0,0,1,1,1],.c [1,0,0,1,1,1],.b 0,.c [1,1,1,1]] ?_)
 refine qG (kV 0 [.ww,.e 2,.t false,.ww,.ww,.e 2,.e 1,.ww,.ww,.e 0,.t true,.ww,.ww,.ww,.ww,.ww,.ww]) [1,2,3,4,23] (.e b_3 (.p ((!(ctlLive sn))=false) (by rw [hl]; rfl) (.e b_3 (.e b_1 (.e p (.p (((ctlEpoch sn) != ep)=true) (bne_iff_ne.2 he) .n)))))) .n ?_
 refine gX [.e 1,.z q76_0 1 [40]] (gQ b_1 (gS [.o q76_0 1,.c q76_1,.b 0,.c [1,1,1,1]] ?_))
 refine go_call (some 41) [0] Tryz.call183 (pub_fail c p wd ep bk od sn fl tm cd ov wsl r_ th_ 22 hc hcl) kR ?_
 rintro v post ⟨gv_4,bq_5,bc_6,rfl,rfl⟩
 exact gX [] (gJ [3,4,5,6] ⟨gv_4,bq_5,bc_6,rfl,rfl⟩)
theorem pub_lookedE3(c:Cfg)(p:Nat)(wd ep bk od sn fl tm cd:Int)(ov:Bool)(wsl:Value)(r_ th_:Value)(hw:U64 sn)(hk:1≤bk∧bk≤65535)(hc:c.Ok)(hcl:0≤clsOf c bk)(hl:ctlLive sn=true)(he:ctlEpoch sn≠ep)(hb:ctlBusy sn=false)(hg:ctlGen sn≠2147483647):
  Ctr Tryz.prog 157 #[vP p] [E30dd4 p r_ th_ cd ov c wd ep wsl bk od sn fl tm] (fun v L => ∃(gv:Nat) (bq:Nat) (bc:Nat),v=undef∧L=[E30dd4 p (.iface 147 (vP gv)) (.func (.func 197) #[] #[vP bq,vP bc]) cd ov c wd ep wsl bk od sn fl tm,E31d76 gv c (3+clsOf c bk) 0 (.func (.func 192) #[vP gv] #[]) bk,.pts bq [vP p] 23,.pts bc [vI 22] 42]):=by
 refine cB B157 56 Tryz.func157 ?_
 intro F
 refine gX [.e 1,.e 0,.z [0,1] 4 [1,9]] (gN fun b_1=>gQ b_1 (gQ p (gS [.o [0,1] 4,.c [1,1]] ?_)))
 refine gC (some 10) [] Tryz.call181 (ctl_Unpack sn hw) ?_
 refine gX [.e 2,.z [0,1,1] 0 [1,2]] (gN fun b_3=>gQ b_3 (gS [.c [0,1,1],.c [1,1,1]] ?_))
 refine zG ?_
 refine zN [0,1,2,3,4,5,6,7,8,9,10,11] (kV 0 [.e 1,.w,.w,.e 0,.e 1,.w,.w,.e 0,.q (.tuple #[vU (pubW sn bk),.nilIface]),.w,.w,.w]) [1,2,12,13,14,15,16,17,18,19,20,11,21,22] [12] (.e b_1 (.e p (.e b_1 (.e p (.q (lQ [] Tryz.call182 (ctl_Published sn bk hw hl hb hk hg)) .n))))) ⟨?_,trivial⟩
 refine zX .w (sN fun b_12_1=>(sV ?_))
 refine zN [] (kV 0 [.e 1,.w,.w,.e 0,.e 1,.w,.w,.e 0,.q (.tuple #[vU (pubW sn bk),.nilIface]),.w,.w,.w]) [3,1,2,12,13,14,15,16,17,18,19,20,11,21,22] [13] (.e b_1 (.e p (.e b_1 (.e p (.q (lQ [] Tryz.call182 (ctl_Published sn bk hw hl hb hk hg)) .n))))) ⟨?_,trivial⟩
 refine zX (.e 3) (sQ b_12_1 (sK ?_))
 refine zE [14] [(11,.w),(14,.w)] [3,1,2,4] .n ?_
 refine gX [.z [0,0,0,1,1,1] 0 [1,2,3,4]] (gS [.c [0,0,0,1,1,1],.c [1,0,0,1,1,1],.b 0,.c [1,1,1,1]] ?_)
 refine qG (kV 0 [.ww,.e 2,.t false,.ww,.ww,.e 2,.e 1,.ww,.ww,.e 0,.t true,.ww,.ww,.ww,.ww,.ww,.ww]) [1,2,3,4,23] (.e b_3 (.p ((!(ctlLive sn))=false) (by rw [hl]; rfl) (.e b_3 (.e b_1 (.e p (.p (((ctlEpoch sn) != ep)=true) (bne_iff_ne.2 he) .n)))))) .n ?_
 refine gX [.e 1,.z q76_0 1 [40]] (gQ b_1 (gS [.o q76_0 1,.c q76_1,.b 0,.c [1,1,1,1]] ?_))
 refine go_call (some 41) [0] Tryz.call183 (pub_fail c p wd ep bk od sn fl tm cd ov wsl r_ th_ 22 hc hcl) kR ?_
 rintro v post ⟨gv_4,bq_5,bc_6,rfl,rfl⟩
 exact gX [] (gJ [3,4,5,6] ⟨gv_4,bq_5,bc_6,rfl,rfl⟩)
theorem pub_lookedE(c:Cfg)(p:Nat)(wd ep bk od sn fl tm cd:Int)(ov:Bool)(wsl:Value)(r_ th_:Value)(hw:U64 sn)(hk:1≤bk∧bk≤65535)(hc:c.Ok)(hcl:0≤clsOf c bk)(hl:ctlLive sn=true)(he:ctlEpoch sn≠ep):
  Ctr Tryz.prog 157 #[vP p] [E30dd4 p r_ th_ cd ov c wd ep wsl bk od sn fl tm] (fun v L => ∃(gv:Nat) (bq:Nat) (bc:Nat),v=undef∧L=[E30dd4 p (.iface 147 (vP gv)) (.func (.func 197) #[] #[vP bq,vP bc]) cd ov c wd ep wsl bk od sn fl tm,E31d76 gv c (3+clsOf c bk) 0 (.func (.func 192) #[vP gv] #[]) bk,.pts bq [vP p] 23,.pts bc [vI 22] 42]):=by
 by_cases hb:ctlBusy sn=true
 ·exact pub_lookedE1 c p wd ep bk od sn fl tm cd ov wsl r_ th_ hw hk hc hcl hl he hb
 ·by_cases hg:ctlGen sn=2147483647
  ·exact pub_lookedE2 c p wd ep bk od sn fl tm cd ov wsl r_ th_ hw hk hc hcl hl he (by simpa using hb) hg
  ·exact pub_lookedE3 c p wd ep bk od sn fl tm cd ov wsl r_ th_ hw hk hc hcl hl he (by simpa using hb) hg
noncomputable def B184: Code:=(Tryz.f184.body).getD .skip
theorem clo_swapT(c:Cfg)(p ba bp b3 b5:Nat)(wd ep bk od sn fl tm cd:Int)(ov:Bool)(wsl:Value)(r_ th_:Value)(nw:Int)(A:Ar)(hn:A.ws.length=A.n)(hs:0≤A.steps∧A.steps≤1000000000)(hi:0≤wd∧wd<A.n)(hw:U64 sn)(hv:U64 nw)(hq:(A.ws.getD wd.toNat 0)=sn):
  Ctr Tryz.prog 184 #[vP ba,vI 0,vP bp,vP b3,vP b5] [.pts bp [vP p] 23,.pts b3 [vU nw] 60,.pts b5 [.bool false] 4,E30dd4 p r_ th_ cd ov c wd ep wsl bk od sn fl tm,E3504b ba A,E35fb1 A] (Ret (undef) [.pts bp [vP p] 23,.pts b3 [vU nw] 60,.pts b5 [.bool true] 4,E30dd4 p r_ th_ cd ov c wd ep wsl bk od sn fl (A.steps+1),E3504b ba (A.swapT wd nw),E35fb1 (A.swapT wd nw)]):=by
 refine cB B184 24 Tryz.func184 ?_
 intro F
 refine gX [.z [0] 0 [0,2,3,4]] (gS [.c [0],.c [1]] ?_)
 refine zG ?_
 refine zN [0,1,2,3,4,5,6,7,8,9] (kV 0 [.w,.e 0,.w,.w,.e 3,.e 0,.w,.w,.e 3,.e 1]) [0,2,3,4,7,8,9,10,11,12,13,14,15,16] [10] (.e bp (.e p (.e bp (.e p (.e b3 .n))))) ⟨?_,trivial⟩
 refine zC (some 17) [4,5] Tryz.call185 (arena_SwapT ba A wd sn nw oM hi oM hq) ?_
 rintro v post ⟨rfl,rfl⟩
 refine zN [] [] [17,0,2,4] [11] .n ⟨?_,trivial⟩
 refine zX (.e 2) (sQ b5 (sK ?_))
 refine zE [] [] [0,2,4] .n ?_
 refine gX [.e 2,.z [0,1,1] 0 [0,2]] (gQ b5 (gS [.c [0,1,1]] ?_))
 refine tO (kV 0 [.e 0,.ww,.q (vI ((A.swapT wd nw).steps)),.ww,.ww]) 5 [] (.e 3) [] (.e bp .n) (.c Tryz.call39 (qR [4,5] (arena_Steps ba (A.swapT wd nw))) .n) (sQ p (sK ?_))
 refine tN .n ?_
 exact gX [] (gJ [0,1,2,3,4,5] ⟨rfl,rfl⟩)
theorem each_swapT(c:Cfg)(p ba bp b3 b5 eb:Nat)(wd ep bk od sn fl tm cd:Int)(ov:Bool)(wsl:Value)(r_ th_:Value)(nw:Int)(A:Ar)(hn:A.ws.length=A.n)(hs:0≤A.steps∧A.steps≤1000000000)(hi:0≤wd∧wd<A.n)(hw:U64 sn)(hv:U64 nw)(hq:(A.ws.getD wd.toNat 0)=sn):
  Ctr Tryz.prog 231 #[vP eb,vP ba] [.pts eb [vI 0,vI 1,.func (.func 184) #[] #[vP bp,vP b3,vP b5]] 176,.pts bp [vP p] 23,.pts b3 [vU nw] 60,.pts b5 [.bool false] 4,E30dd4 p r_ th_ cd ov c wd ep wsl bk od sn fl tm,E3504b ba A,E35fb1 A] (Ret (.bool true) [.pts eb [vI 1,vI 1,.func (.func 184) #[] #[vP bp,vP b3,vP b5]] 176,.pts bp [vP p] 23,.pts b3 [vU nw] 60,.pts b5 [.bool true] 4,E30dd4 p r_ th_ cd ov c wd ep wsl bk od sn fl (A.steps+1),E3504b ba (A.swapT wd nw),E35fb1 (A.swapT wd nw)]):=by
 refine cB B231 31 Tryz.func231 ?_
 intro F
 refine gX [.z [0,1] 0 [0,1]] (gS [.c [0,1],.c [1,1]] ?_)
 refine tC (some 14) (kV 0 [.ww,.ww,.ww,.e 0,.ww,.ww,.ww,.ww,.e 0]) 9 [] [1,2,3,4,5,6] [0] Tryz.call184 (clo_swapT c p ba bp b3 b5 wd ep bk od sn fl tm cd ov wsl r_ th_ nw A oM oM oM hw hv hq) (.e eb (.e eb .n)) .n ?_
 rintro v post ⟨rfl,rfl⟩
 refine tN .n ?_
 refine gX [.e 0,.w,.e 0,.z [0,1,1,1] 0 [0]] (gQ eb (gQ eb (gS [.c [0,1,1,1],.c [1,1,1,1]] ?_)))
 refine qG (kV 0 [.ww,.ww,.ww,.e 0,.ww,.ww,.ww,.e 0,.ww,.ww]) [4] (.e eb (.e eb .n)) .n ?_
 exact gX [] (gJ [0,1,2,3,4,5,6] ⟨rfl,rfl⟩)
theorem clo_swapF(c:Cfg)(p ba bp b3 b5:Nat)(wd ep bk od sn fl tm cd:Int)(ov:Bool)(wsl:Value)(r_ th_:Value)(nw:Int)(A:Ar)(hn:A.ws.length=A.n)(hs:0≤A.steps∧A.steps≤1000000000)(hi:0≤wd∧wd<A.n)(hw:U64 sn)(hv:U64 nw)(hq:(A.ws.getD wd.toNat 0)≠sn):
  Ctr Tryz.prog 184 #[vP ba,vI 0,vP bp,vP b3,vP b5] [.pts bp [vP p] 23,.pts b3 [vU nw] 60,.pts b5 [.bool false] 4,E30dd4 p r_ th_ cd ov c wd ep wsl bk od sn fl tm,E3504b ba A,E35fb1 A] (Ret (undef) [.pts bp [vP p] 23,.pts b3 [vU nw] 60,.pts b5 [.bool false] 4,E30dd4 p r_ th_ cd ov c wd ep wsl bk od sn fl tm,E3504b ba (A.swapF wd),E35fb1 (A.swapF wd)]):=by
 refine cB B184 24 Tryz.func184 ?_
 intro F
 refine gX [.z [0] 0 [0,2,3,4]] (gS [.c [0],.c [1]] ?_)
 refine zG ?_
 refine zN [0,1,2,3,4,5,6,7,8,9] (kV 0 [.w,.e 0,.w,.w,.e 3,.e 0,.w,.w,.e 3,.e 1]) [0,2,3,4,7,8,9,10,11,12,13,14,15,16] [10] (.e bp (.e p (.e bp (.e p (.e b3 .n))))) ⟨?_,trivial⟩
 refine zC (some 17) [4,5] Tryz.call185 (arena_SwapF ba A wd sn nw oM hi oM hq) ?_
 rintro v post ⟨rfl,rfl⟩
 refine zN [] [] [17,0,2,4] [11] .n ⟨?_,trivial⟩
 refine zX (.e 2) (sQ b5 (sK ?_))
 refine zE [] [] [0,2,4] .n ?_
 exact gX [.e 2] (gQ b5 (gJ [0,1,2,3,4,5] ⟨rfl,rfl⟩))
theorem each_swapF(c:Cfg)(p ba bp b3 b5 eb:Nat)(wd ep bk od sn fl tm cd:Int)(ov:Bool)(wsl:Value)(r_ th_:Value)(nw:Int)(A:Ar)(hn:A.ws.length=A.n)(hs:0≤A.steps∧A.steps≤1000000000)(hi:0≤wd∧wd<A.n)(hw:U64 sn)(hv:U64 nw)(hq:(A.ws.getD wd.toNat 0)≠sn):
  Ctr Tryz.prog 231 #[vP eb,vP ba] [.pts eb [vI 0,vI 1,.func (.func 184) #[] #[vP bp,vP b3,vP b5]] 176,.pts bp [vP p] 23,.pts b3 [vU nw] 60,.pts b5 [.bool false] 4,E30dd4 p r_ th_ cd ov c wd ep wsl bk od sn fl tm,E3504b ba A,E35fb1 A] (Ret (.bool true) [.pts eb [vI 1,vI 1,.func (.func 184) #[] #[vP bp,vP b3,vP b5]] 176,.pts bp [vP p] 23,.pts b3 [vU nw] 60,.pts b5 [.bool false] 4,E30dd4 p r_ th_ cd ov c wd ep wsl bk od sn fl tm,E3504b ba (A.swapF wd),E35fb1 (A.swapF wd)]):=by
 refine cB B231 31 Tryz.func231 ?_
 intro F
 refine gX [.z [0,1] 0 [0,1]] (gS [.c [0,1],.c [1,1]] ?_)
 refine tC (some 14) (kV 0 [.ww,.ww,.ww,.e 0,.ww,.ww,.ww,.ww,.e 0]) 9 [] [1,2,3,4,5,6] [0] Tryz.call184 (clo_swapF c p ba bp b3 b5 wd ep bk od sn fl tm cd ov wsl r_ th_ nw A oM oM oM hw hv hq) (.e eb (.e eb .n)) .n ?_
 rintro v post ⟨rfl,rfl⟩
 refine tN .n ?_
 refine gX [.e 0,.w,.e 0,.z [0,1,1,1] 0 [0]] (gQ eb (gQ eb (gS [.c [0,1,1,1],.c [1,1,1,1]] ?_)))
 refine qG (kV 0 [.ww,.ww,.ww,.e 0,.ww,.ww,.ww,.e 0,.ww,.ww]) [4] (.e eb (.e eb .n)) .n ?_
 exact gX [] (gJ [0,1,2,3,4,5,6] ⟨rfl,rfl⟩)
noncomputable def B187: Code:=(Tryz.f187.body).getD .skip
theorem pub_swappedT(c:Cfg)(p:Nat)(wd ep bk od sn fl tm cd:Int)(ov:Bool)(wsl:Value)(r_ th_:Value)(o_:Int):
  Ctr Tryz.prog 187 #[vP p,.bool true,vI o_] [E30dd4 p r_ th_ cd ov c wd ep wsl bk od sn fl tm] (Ret (undef) [E30dd4 p r_ th_ 0 true c wd ep wsl 0 o_ sn fl tm]):=by
 refine cB B187 39 Tryz.func187 ?_
 intro F
 refine gX [.e 0,.e 0,.z [0,1,0,1,0] 3 [16]] (gQ p (gQ p (gS [.o [0,1,0,1,0] 3,.c [1,1,0,1,0],.c [1]] ?_)))
 refine gC (some 17) [0] Tryz.call57 (pub_end c p wd ep 0 o_ sn fl tm cd ov wsl r_ th_ 0) ?_
 exact gX [] (gJ [0] ⟨rfl,rfl⟩)
theorem pub_swappedR(c:Cfg)(p:Nat)(wd ep bk od sn fl tm cd:Int)(ov:Bool)(wsl:Value)(r_ th_:Value)(o_:Int)(hf:0≤fl∧fl≤1000)(hc:c.Ok)(hb:0≤clsOf c bk)(hr:fl+1=c.retry):
  Ctr Tryz.prog 187 #[vP p,.bool false,vI o_] [E30dd4 p r_ th_ cd ov c wd ep wsl bk od sn fl tm] (fun v L => ∃(gv:Nat) (bq:Nat) (bc:Nat),v=undef∧L=[E30dd4 p (.iface 147 (vP gv)) (.func (.func 197) #[] #[vP bq,vP bc]) cd ov c wd ep wsl bk od sn (fl+1) tm,E31d76 gv c (3+clsOf c bk) 0 (.func (.func 192) #[vP gv] #[]) bk,.pts bq [vP p] 23,.pts bc [vI 17] 42]):=by
 refine cB B187 39 Tryz.func187 ?_
 intro F
 refine gX [.e 0,.n,.e 0,.z [0,0,1,1] 0 [0]] (gQ p (gO (InK .i64 (fl+1)) (by simp only [InK]; omega) (gQ p (gS [.c [0,0,1,1],.c [1,0,1,1],.c [1,1,1]] ?_))))
 refine qG (kV 0 [.ww,.ww,.ww,.e 0,.ww,.ww,.ww,.ww,.e 0,.t true]) [0,34] (.e p (.e p (.p (((fl+1)==c.retry)=true) (beq_iff_eq.2 hr) .n))) .n ?_
 refine gX [.z [0,0,1,0,1,1] 1 [35]] (gS [.o [0,0,1,0,1,1] 1,.c [1,0,1,0,1,1],.c [1,1,1]] ?_)
 refine go_call (some 36) [0] Tryz.call183 (pub_fail c p wd ep bk od sn (fl+1) tm cd ov wsl r_ th_ 17 oM hb) kR ?_
 rintro v post ⟨gv_1,bq_2,bc_3,rfl,rfl⟩
 exact gX [] (gJ [0,1,2,3] ⟨gv_1,bq_2,bc_3,rfl,rfl⟩)
theorem pub_swappedN(c:Cfg)(p:Nat)(wd ep bk od sn fl tm cd:Int)(ov:Bool)(wsl:Value)(r_ th_:Value)(o_:Int)(hf:0≤fl∧fl≤1000)(hr:fl+1≠c.retry):
  Ctr Tryz.prog 187 #[vP p,.bool false,vI o_] [E30dd4 p r_ th_ cd ov c wd ep wsl bk od sn fl tm] (fun v L => ∃(eb:Nat) (bp:Nat),v=undef∧L=[E30dd4 p (.iface 173 (vP eb)) (.func (.func 157) #[vP p] #[]) cd ov c wd ep wsl bk od sn (fl+1) tm,.pts eb [vI 0,vI 1,.func (.func 156) #[] #[vP bp]] 176,.pts bp [vP p] 23]):=by
 refine cB B187 39 Tryz.func187 ?_
 intro F
 refine gX [.e 0,.n,.e 0,.z [0,0,1,1] 0 [0]] (gQ p (gO (InK .i64 (fl+1)) (by simp only [InK]; omega) (gQ p (gS [.c [0,0,1,1],.c [1,0,1,1],.c [1,1,1]] ?_))))
 refine qG (kV 0 [.ww,.ww,.ww,.e 0,.ww,.ww,.ww,.ww,.e 0,.t false]) [0,34] (.e p (.e p (.p (((fl+1)==c.retry)=false) (beq_eq_false_iff_ne.2 hr) .n))) .n ?_
 refine gX [.z [1,1,1] 1 [37]] (gS [.o [1,1,1] 1] ?_)
 refine go_call (some 38) [0] Tryz.call108 (pub_filled c p wd ep bk od sn (fl+1) tm cd ov wsl r_ th_) kR ?_
 rintro v post ⟨eb_1,bp_2,rfl,rfl⟩
 exact gX [] (gJ [0,1,2] ⟨eb_1,bp_2,rfl,rfl⟩)
end Go.Proofs.YtpcaijopodhdgaaGreatDoor

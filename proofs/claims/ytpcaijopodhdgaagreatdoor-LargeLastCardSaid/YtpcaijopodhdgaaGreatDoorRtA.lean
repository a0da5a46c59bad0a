/- Walks: what functions of the program and of the document compute, part 1 of those on which LargeLast rests. -/
import Derived.Test.YtpcaijopodhdgaaGreatDoorMdB
import Derived.Test.YtpcaijopodhdgaaGreatDoorChecked
import Derived.WalkKit
import Derived.LaidEql
import Derived.Stop.Asserts
import Derived.RowKitTokens
import Derived.Test.YtpcaijopodhdgaaGreatDoorRows
import Derived.ChangeSame
import Derived.ChangeVars
import Derived.JoinedOf
import Derived.RowKit
import Derived.LaidLaws
import Derived.LaidHandle
import Derived.Stop.Joined

set_option linter.unusedVariables false
set_option linter.unusedSimpArgs false
namespace Go.Proofs.YtpcaijopodhdgaaGreatDoor
open Go.Sx
abbrev Efdc04(x0:Nat)(c1:Cfg): Ent:=.pts x0 [.int .i64 c1.topics,.int .i64 c1.small,.int .i64 c1.slots,.int .i64 c1.clients,.int .i64 c1.s0,.int .i64 c1.n0,.int .i64 c1.s1,.int .i64 c1.n1,.int .i64 c1.retry] 29
abbrev E54ea0(x0:Option Addr)(x1:Nat)(x2:List Int): Ent:=.sl x0 x1 (encI .u64) 0 1 x2 60
abbrev Ef0385(x0:Nat)(x1:Option Addr)(x2:Nat)(x3:Nat)(x4:Int)(x5:Int)(x6:Int)(x7:Int)(x8:Bool): Ent:=.pts x0 [.slice x1 x2 x3,.int .i64 x4,.int .i64 x5,.int .i64 x6,.int .u64 x7,.bool x8,.nilIface] 144
abbrev E3504b(x0:Nat)(a1:Ar): Ent:=.pts x0 [.slice a1.aw a1.n a1.cw,.int .i64 a1.steps,.int .i64 a1.lk,.int .i64 a1.lw,.int .u64 a1.lv,.bool a1.lc,.nilIface] 144
abbrev E35fb1(a0:Ar): Ent:=.sl a0.aw a0.cw (encI .u64) 0 1 a0.ws 60
abbrev Ed975e(x0:Nat)(x1:Int)(x2:Int)(x3:Int)(x4:Int)(x5:Int)(x6:Int)(x7:Int)(x8:Int)(x9:Int): Ent:=.pts x0 [.int .i64 x1,.int .i64 x2,.int .i64 x3,.int .i64 x4,.int .i64 x5,.int .i64 x6,.int .i64 x7,.int .i64 x8,.int .i64 x9] 29
abbrev cfgV(c:Cfg): Value:=.agg #[.int .i64 c.topics,.int .i64 c.small,.int .i64 c.slots,.int .i64 c.clients,.int .i64 c.s0,.int .i64 c.n0,.int .i64 c.s1,.int .i64 c.n1,.int .i64 c.retry]
noncomputable def B190: Code:=(Tryz.f190.body).getD .skip
theorem bits_may(at_ n:Int)(h:1≤n∧n≤64∧0≤at_∧at_+n≤64):
  Ctr Tryz.prog 190 #[vI at_,vI n] [] (Ret (.bool true) []):=by
 refine cB B190 21 Tryz.func190 ?_
 intro F
 exact gX [.sp [7,6] [.sp [11,9,10] [.sp [15,13,14] [.n] [.dead]] [.dead]] [.dead]] (gQ (decide (n≥1)) (gT (decide (n≥1)) (by simp; omega) (gQ (decide (n≤64)) (gQ (decide (n≤64)) (gT (decide (n≤64)) (by simp; omega) (gQ (decide (at_≥0)) (gQ (decide (at_≥0)) (gT (decide (at_≥0)) (by simp; omega) (gO (InK .i64 (64-n)) (by simp only [InK] at *; omega) (gI (.bool (decide (at_≤(64-n)))) [] ⟨(congrArg Value.bool (by first | rfl | (simp; done) | (simp; omega))),rfl⟩))))))))))
noncomputable def B191: Code:=(Tryz.f191.body).getD .skip
theorem bits_all(n:Int)(h:1≤n∧n≤64):
  Ctr Tryz.prog 191 #[vI n] [] (Ret (vU (bShr .u64 18446744073709551615 (64-n))) []):=by
 refine cB B191 6 Tryz.func191 ?_
 intro F
 exact gX [.n,.n] (gO (InK .i64 (64-n)) (by simp only [InK]; omega) (gO ((0:Int)≤(64-n)) (by omega) (gR (vU (bShr .u64 18446744073709551615 (64-n))) [] ⟨rfl,rfl⟩)))
noncomputable def B172: Code:=(Tryz.f172.body).getD .skip
theorem bits_Get(w_ at_ n:Int)(h:1≤n∧n≤64∧0≤at_∧at_+n≤64):
  Ctr Tryz.prog 172 #[vU w_,vI at_,vI n] [] (Ret (vU (bAnd .u64 (bShr .u64 w_ at_) (bShr .u64 18446744073709551615 (64-n)))) []):=by
 refine cB B172 17 Tryz.func172 ?_
 intro F
 refine gX [.z [0,0,1] 2 [0,1,2,7,8]] (gS [.o [0,0,1] 2,.c [1,0,1],.c [1,1]] ?_)
 refine gC (some 9) [] Tryz.call190 (bits_may at_ n oM) ?_
 refine gX [.z [0,1,1] 0 [0,1,2]] (gS [.c [0,1,1],.c [1,1,1]] ?_)
 refine qG (kV 0 [.ww,.ww,.h (.n),.ww,.q (vU (bShr .u64 18446744073709551615 (64-n))),.ww,.ww]) [6] (.p ((0:Int)≤at_) oW .n) (.c Tryz.call191 (qR [] (bits_all n oM)) .n) ?_
 exact gX [] (gR (vU (bAnd .u64 (bShr .u64 w_ at_) (bShr .u64 18446744073709551615 (64-n)))) [] ⟨rfl,rfl⟩)
noncomputable def B102: Code:=(Tryz.f102.body).getD .skip
theorem plan_cells(c:Cfg)(hc:c.Ok):
  Ctr Tryz.prog 102 #[cfgV c] [] (Ret (.tuple #[vI (5+c.slots+c.topics),vI (1+2*c.small)]) []):=by
 refine cB B102 14 Tryz.func102 ?_
 intro F
 refine gX [.z [0,1] 0 [1]] (gN fun b_1=>gW (ks:=[.c [0,1],.c [1,1]]) [(1,vP b_1)] [Efdc04 b_1 c] ?_)
 refine qG (kV 0 [.ww,.e 0,.h (.n),.ww,.e 0,.h (.n),.ww,.e 0,.h (.n),.h (.n),.ww,.ww]) [2,3] (.e b_1 (.p (InK .i64 (5+c.slots)) (by simp only [Cfg.Ok,InK] at *; omega) (.e b_1 (.p (InK .i64 ((5+c.slots)+c.topics)) (by simp only [Cfg.Ok,InK] at *; omega) (.e b_1 (.p (InK .i64 (2*c.small)) (by simp only [Cfg.Ok,InK] at *; omega) (.p (InK .i64 (1+(2*c.small))) (by simp only [Cfg.Ok,InK] at *; omega) .n))))))) .n ?_
 exact gX [] (gR (.tuple #[vI ((5+c.slots)+c.topics),vI (1+(2*c.small))]) [] ⟨rfl,rfl⟩)
noncomputable def B165: Code:=(Tryz.f165.body).getD .skip
theorem plan_parts(c:Cfg):
  Ctr Tryz.prog 165 #[cfgV c] [] (Ret (.agg #[vI c.topics,vI c.small,vI c.slots,vI c.clients,vI c.retry,vI c.s0,vI c.n0,vI c.s1,vI c.n1]) []):=by
 refine cB B165 30 Tryz.func165 ?_
 intro F
 exact gX [.e 0,.e 0,.e 0,.e 0,.e 0,.w,.e 0,.w,.e 0,.w,.e 0,.w,.e 0,.e 1,.e 1] (gN fun b_1=>gN fun b_2=>gQ b_1 (gQ b_1 (gQ b_1 (gQ b_1 (gQ b_1 (gQ b_1 (gQ b_1 (gQ b_1 (gQ b_1 (gQ b_2 (gQ b_2 (gR (.agg #[vI c.topics,vI c.small,vI c.slots,vI c.clients,vI c.retry,vI c.s0,vI c.n0,vI c.s1,vI c.n1]) [] ⟨rfl,rfl⟩))))))))))))
noncomputable def B127: Code:=(Tryz.f127.body).getD .skip
theorem plan_right(c:Cfg)(hc:c.Ok):
  Ctr Tryz.prog 127 #[cfgV c] [] (Ret (.bool true) []):=by
 refine cB B127 37 Tryz.func127 ?_
 intro F
 refine gX [.e 1,.e 2,.e 0,.z [0,0,1,1,1] 1 [1,3,4,9]] (gN fun b_1=>gN fun b_2=>gQ b_2 (gN fun b_3=>gQ b_3 (gQ b_1 (gS [.o [0,0,1,1,1] 1,.c [1,0,1,1,1],.c [1,1,1,1]] ?_))))
 refine gC (some 10) [] Tryz.call165 (plan_parts c) ?_
 exact gX [.u,.w,.e 1,.sp [20,19] [.dead] [.w,.e 2,.sp [26,25] [.dead] [.w,.u,.w,.e 1,.sp [20,19] [.dead] [.w,.e 2,.sp [26,25] [.dead] [.w,.u,.w,.e 1,.sp [20,19] [.dead] [.w,.e 2,.sp [26,25] [.dead] [.w,.u,.w,.e 1,.sp [20,19] [.dead] [.w,.e 2,.sp [26,25] [.dead] [.w,.u,.w,.e 1,.sp [20,19] [.dead] [.w,.e 2,.sp [26,25] [.dead] [.w,.u,.w,.e 1,.sp [20,19] [.dead] [.w,.e 2,.sp [26,25] [.dead] [.w,.u,.w,.e 1,.sp [20,19] [.dead] [.w,.e 2,.sp [26,25] [.dead] [.w,.u,.w,.e 1,.sp [20,19] [.dead] [.w,.e 2,.sp [26,25] [.dead] [.w,.u,.w,.e 1,.sp [20,19] [.dead] [.w,.e 2,.sp [26,25] [.dead] [.w,.u,.w,.e 0,.w,.e 0]]]]]]]]]]]]]]]]]]] (gQ b_2 (gQ (decide (c.topics<1)) (gF (decide (c.topics<1)) (by simp only [Cfg.Ok] at hc; simp; omega) (gQ b_3 (gQ (decide (c.topics>8)) (gF (decide (c.topics>8)) (by simp only [Cfg.Ok] at hc; simp; omega) (gQ b_2 (gQ (decide (c.small<4)) (gF (decide (c.small<4)) (by simp only [Cfg.Ok] at hc; simp; omega) (gQ b_3 (gQ (decide (c.small>32)) (gF (decide (c.small>32)) (by simp only [Cfg.Ok] at hc; simp; omega) (gQ b_2 (gQ (decide (c.slots<1)) (gF (decide (c.slots<1)) (by simp only [Cfg.Ok] at hc; simp; omega) (gQ b_3 (gQ (decide (c.slots>8)) (gF (decide (c.slots>8)) (by simp only [Cfg.Ok] at hc; simp; omega) (gQ b_2 (gQ (decide (c.clients<1)) (gF (decide (c.clients<1)) (by simp only [Cfg.Ok] at hc; simp; omega) (gQ b_3 (gQ (decide (c.clients>8)) (gF (decide (c.clients>8)) (by simp only [Cfg.Ok] at hc; simp; omega) (gQ b_2 (gQ (decide (c.retry<1)) (gF (decide (c.retry<1)) (by simp only [Cfg.Ok] at hc; simp; omega) (gQ b_3 (gQ (decide (c.retry>8)) (gF (decide (c.retry>8)) (by simp only [Cfg.Ok] at hc; simp; omega) (gQ b_2 (gQ (decide (c.s0<4)) (gF (decide (c.s0<4)) (by simp only [Cfg.Ok] at hc; simp; omega) (gQ b_3 (gQ (decide (c.s0>96)) (gF (decide (c.s0>96)) (by simp only [Cfg.Ok] at hc; simp; omega) (gQ b_2 (gQ (decide (c.n0<0)) (gF (decide (c.n0<0)) (by simp only [Cfg.Ok] at hc; simp; omega) (gQ b_3 (gQ (decide (c.n0>12)) (gF (decide (c.n0>12)) (by simp only [Cfg.Ok] at hc; simp; omega) (gQ b_2 (gQ (decide (c.s1<4)) (gF (decide (c.s1<4)) (by simp only [Cfg.Ok] at hc; simp; omega) (gQ b_3 (gQ (decide (c.s1>96)) (gF (decide (c.s1>96)) (by simp only [Cfg.Ok] at hc; simp; omega) (gQ b_2 (gQ (decide (c.n1<0)) (gF (decide (c.n1<0)) (by simp only [Cfg.Ok] at hc; simp; omega) (gQ b_3 (gQ (decide (c.n1>12)) (gF (decide (c.n1>12)) (by simp only [Cfg.Ok] at hc; simp; omega) (gQ b_1 (gQ b_1 (gI (.bool (decide (c.s1>c.s0))) [] ⟨(congrArg Value.bool (by simp only [Cfg.Ok] at hc; simp; omega)),rfl⟩)))))))))))))))))))))))))))))))))))))))))))))))))))))))))
noncomputable def B64: Code:=(Tryz.f64.body).getD .skip
theorem plan_Check(c:Cfg)(hc:c.Ok):
  Ctr Tryz.prog 64 #[cfgV c] [] (Ret (.nilIface) []):=by
 refine cB B64 7 Tryz.func64 ?_
 intro F
 refine gX [.e 0,.z [0,0,1] 1 [3]] (gN fun b_1=>gQ b_1 (gS [.o [0,0,1] 1,.c [1,0,1],.c [1,1]] ?_))
 refine gC (some 4) [] Tryz.call127 (plan_right c oM) ?_
 exact gX [] (gR (.nilIface) [] ⟨rfl,rfl⟩)
noncomputable def B46: Code:=(Tryz.f46.body).getD .skip
noncomputable def B121: Code:=(Tryz.f121.body).getD .skip
theorem plan_Blocks(c:Cfg)(hc:c.Ok):
  Ctr Tryz.prog 121 #[cfgV c] [] (Ret (vI (c.n0+c.n1)) []):=by
 refine cB B121 15 Tryz.func121 ?_
 intro F
 refine gX [.e 0,.z [0,0,1] 1 [1,3]] (gN fun b_1=>gQ b_1 (gS [.o [0,0,1] 1,.c [1,0,1],.c [1,1]] ?_))
 refine gC (some 4) [] Tryz.call127 (plan_right c oM) ?_
 exact gX [.w,.e 0,.w,.e 0,.n] (gQ b_1 (gQ b_1 (gO (InK .i64 (c.n0+c.n1)) (by simp only [Cfg.Ok,InK] at *; omega) (gR (vI (c.n0+c.n1)) [] ⟨rfl,rfl⟩))))
noncomputable def B103: Code:=(Tryz.f103.body).getD .skip
theorem plan_Head(k:Int)(h:0≤k∧k≤1):
  Ctr Tryz.prog 103 #[vI k] [] (Ret (vI (3+k)) []):=by
 refine cB B103 11 Tryz.func103 ?_
 intro F
 exact gX [.sp [5,4] [.dead] [.sp [8,7] [.dead] [.n]]] (gQ (decide (k<0)) (gF (decide (k<0)) (by simp; omega) (gQ (decide (k>1)) (gF (decide (k>1)) (by simp; omega) (gO (InK .i64 (3+k)) (by simp only [InK] at *; omega) (gR (vI (3+k)) [] ⟨rfl,rfl⟩))))))
noncomputable def B159: Code:=(Tryz.f159.body).getD .skip
theorem clo_Slot(b:Nat)(i:Int)(hr:0≤i∧i≤100):
  Ctr Tryz.prog 159 #[vP b] [.pts b [vI i] 3] (Ret (vI (5+i)) [.pts b [vI i] 3]):=by
 refine cB B159 4 Tryz.func159 ?_
 intro F
 exact gX [.e 0,.n] (gQ b (gO (InK .i64 (5+i)) (by simp only [InK] at *; omega) (gJ [0] ⟨rfl,rfl⟩)))
noncomputable def B100: Code:=(Tryz.f100.body).getD .skip
theorem place_Slot(c:Cfg)(i many:Int)(b:Nat)(hc:c.Ok)(hm:many≤100):
  Ctr Tryz.prog 100 #[cfgV c,vI i,vI many,.func (.func 159) #[] #[vP b]] [.pts b [vI i] 3] (Ret (vI (if (0:Int)≤i∧i<many then(5+i) else -1)) [.pts b [vI i] 3]):=by
 refine cB B100 23 Tryz.func100 ?_
 intro F
 refine gX [.e 1,.z [0,0,1] 1 [1,2,3,9]] (gN fun b_1=>gQ b_1 (gS [.o [0,0,1] 1,.c [1,0,1],.c [1,1]] ?_))
 refine gC (some 10) [] Tryz.call127 (plan_right c oM) ?_
 refine gX [.sp [16,14,15] [] [.sp [20,19] [] [.z [0,1,1] 1 [21]]]] (gQ (decide (i<0)) (gQ (decide (i<0)) (gB (decide (i<0)) (fun h_2 => ?_) (fun h_2 => ?_))))
 ·replace h_2:=decT h_2
  exact gI (vI (-1)) [0] ⟨(congrArg (Value.int .i64) (by(repeat' split) <;> omega)),rfl⟩
 ·replace h_2:=decF h_2
  refine gQ (decide (i≥many)) (gB (decide (i≥many)) (fun h_3 => ?_) (fun h_3 => ?_))
  ·replace h_3:=decT h_3
   exact gI (vI (-1)) [0] ⟨(congrArg (Value.int .i64) (by(repeat' split) <;> omega)),rfl⟩
  ·replace h_3:=decF h_3
   refine gS [.o [0,1,1] 1,.c [1,1,1]] ?_
   refine gC (some 22) [0] Tryz.call159 (clo_Slot b i (by simp only [Cfg.Ok] at hc; omega)) ?_
   exact gX [] (gI (vI (5+i)) [1] ⟨(congrArg (Value.int .i64) (by(repeat' split) <;> omega)),rfl⟩)
noncomputable def B111: Code:=(Tryz.f111.body).getD .skip
theorem plan_Slot(c:Cfg)(i:Int)(hc:c.Ok):
  Ctr Tryz.prog 111 #[cfgV c,vI i] [] (Ret (vI (slotAt c i)) []):=by
 refine cB B111 11 Tryz.func111 ?_
 intro F
 refine gX [.e 0,.e 1,.e 0,.z [0,1] 5 [5,6,8,9]] (gN fun b_1=>gN fun b_2=>gQ b_1 (gQ b_2 (gQ b_1 (gS [.o [0,1] 5,.c [1,1]] ?_))))
 refine gC (some 10) [1] Tryz.call100 (place_Slot c i c.slots b_2 oM (by simp only [Cfg.Ok] at hc; omega)) ?_
 exact gX [] (gR (vI (if (0:Int)≤i∧i<c.slots then(5+i) else -1)) [] ⟨rfl,rfl⟩)
noncomputable def B101: Code:=(Tryz.f101.body).getD .skip
theorem clo_Ctl(c:Cfg)(b b2:Nat)(i:Int)(hc:c.Ok)(hr:0≤i∧i<c.topics):
  Ctr Tryz.prog 101 #[vP b,vP b2] [Efdc04 b c,.pts b2 [vI i] 3] (Ret (vI ((5+c.slots+c.topics)+i*(1+2*c.small))) [Efdc04 b c,.pts b2 [vI i] 3]):=by
 refine cB B101 15 Tryz.func101 ?_
 intro F
 refine gX [.e 0,.z [0,1] 1 [1,6]] (gQ b (gS [.o [0,1] 1,.c [1,1]] ?_))
 refine gC (some 7) [] Tryz.call102 (plan_cells c oM) ?_
 exact gX [.e 1,.n,.n] (gQ b2 (gO (InK .i64 (i*(1+2*c.small))) (by have hnl:=ctl_nl hc ‹_›; simp only [Cfg.Ok,InK] at *; omega) (gO (InK .i64 ((5+c.slots+c.topics)+(i*(1+2*c.small)))) (by have hnl:=ctl_nl hc ‹_›; simp only [Cfg.Ok,InK] at *; omega) (gJ [0,1] ⟨rfl,rfl⟩))))
theorem place_Ctl(c:Cfg)(i many:Int)(b b2:Nat)(hc:c.Ok)(hm:many=c.topics):
  Ctr Tryz.prog 100 #[cfgV c,vI i,vI many,.func (.func 101) #[] #[vP b,vP b2]] [Efdc04 b c,.pts b2 [vI i] 3] (Ret (vI (if (0:Int)≤i∧i<many then((5+c.slots+c.topics)+i*(1+2*c.small)) else -1)) [Efdc04 b c,.pts b2 [vI i] 3]):=by
 refine cB B100 23 Tryz.func100 ?_
 intro F
 refine gX [.e 2,.z [0,0,1] 1 [1,2,3,9]] (gN fun b_1=>gQ b_1 (gS [.o [0,0,1] 1,.c [1,0,1],.c [1,1]] ?_))
 refine gC (some 10) [] Tryz.call127 (plan_right c oM) ?_
 refine gX [.sp [16,14,15] [] [.sp [20,19] [] [.z [0,1,1] 1 [21]]]] (gQ (decide (i<0)) (gQ (decide (i<0)) (gB (decide (i<0)) (fun h_2 => ?_) (fun h_2 => ?_))))
 ·replace h_2:=decT h_2
  exact gI (vI (-1)) [0,1] ⟨(congrArg (Value.int .i64) (by(repeat' split) <;> omega)),rfl⟩
 ·replace h_2:=decF h_2
  refine gQ (decide (i≥many)) (gB (decide (i≥many)) (fun h_3 => ?_) (fun h_3 => ?_))
  ·replace h_3:=decT h_3
   exact gI (vI (-1)) [0,1] ⟨(congrArg (Value.int .i64) (by(repeat' split) <;> omega)),rfl⟩
  ·replace h_3:=decF h_3
   refine gS [.o [0,1,1] 1,.c [1,1,1]] ?_
   refine gC (some 22) [0,1] Tryz.call101 (clo_Ctl c b b2 i oM (by simp only [Cfg.Ok] at hc; omega)) ?_
   exact gX [] (gI (vI ((5+c.slots+c.topics)+i*(1+2*c.small))) [1,2] ⟨(congrArg (Value.int .i64) (by(repeat' split) <;> omega)),rfl⟩)
noncomputable def B48: Code:=(Tryz.f48.body).getD .skip
theorem plan_Control(c:Cfg)(i:Int)(hc:c.Ok):
  Ctr Tryz.prog 48 #[cfgV c,vI i] [] (Ret (vI (ctlAt c i)) []):=by
 refine cB B48 11 Tryz.func48 ?_
 intro F
 refine gX [.e 0,.e 1,.e 0,.z [0,1] 5 [5,6,8,9]] (gN fun b_1=>gN fun b_2=>gQ b_1 (gQ b_2 (gQ b_1 (gS [.o [0,1] 5,.c [1,1]] ?_))))
 refine gC (some 10) [0,1] Tryz.call100 (place_Ctl c i c.topics b_1 b_2 oM rfl) ?_
 exact gX [] (gR (vI (if (0:Int)≤i∧i<c.topics then((5+c.slots+c.topics)+i*(1+2*c.small)) else -1)) [] ⟨rfl,rfl⟩)
noncomputable def B141: Code:=(Tryz.f141.body).getD .skip
theorem clo_Class(c:Cfg)(b b2:Nat)(k:Int):
  Ctr Tryz.prog 141 #[vP b,vP b2] [.pts b [vI k] 3,Efdc04 b2 c] (Ret (vI (if k≤c.n0 then 0 else 1)) [.pts b [vI k] 3,Efdc04 b2 c]):=by
 refine cB B141 9 Tryz.func141 ?_
 intro F
 refine gX [.e 0,.w,.e 1,.sp [8] [] []] (gQ b (gQ b2 (gB (decide (k≤c.n0)) (fun h_1 => ?_) (fun h_1 => ?_))))
 ·replace h_1:=decT h_1
  exact gI (vI 0) [0,1] ⟨(congrArg (Value.int .i64) (by(repeat' split) <;> omega)),rfl⟩
 ·replace h_1:=decF h_1
  exact gI (vI 1) [0,1] ⟨(congrArg (Value.int .i64) (by(repeat' split) <;> omega)),rfl⟩
theorem place_Class(c:Cfg)(i many:Int)(b b2:Nat)(k:Int)(hc:c.Ok):
  Ctr Tryz.prog 100 #[cfgV c,vI i,vI many,.func (.func 141) #[] #[vP b,vP b2]] [.pts b [vI k] 3,Efdc04 b2 c] (Ret (vI (if (0:Int)≤i∧i<many then(if k≤c.n0 then 0 else 1) else -1)) [.pts b [vI k] 3,Efdc04 b2 c]):=by
 refine cB B100 23 Tryz.func100 ?_
 intro F
 refine gX [.e 2,.z [0,0,1] 1 [1,2,3,9]] (gN fun b_1=>gQ b_1 (gS [.o [0,0,1] 1,.c [1,0,1],.c [1,1]] ?_))
 refine gC (some 10) [] Tryz.call127 (plan_right c oM) ?_
 refine gX [.sp [16,14,15] [] [.sp [20,19] [] [.z [0,1,1] 1 [21]]]] (gQ (decide (i<0)) (gQ (decide (i<0)) (gB (decide (i<0)) (fun h_2 => ?_) (fun h_2 => ?_))))
 ·replace h_2:=decT h_2
  exact gI (vI (-1)) [0,1] ⟨(congrArg (Value.int .i64) (by(repeat' split) <;> omega)),rfl⟩
 ·replace h_2:=decF h_2
  refine gQ (decide (i≥many)) (gB (decide (i≥many)) (fun h_3 => ?_) (fun h_3 => ?_))
  ·replace h_3:=decT h_3
   exact gI (vI (-1)) [0,1] ⟨(congrArg (Value.int .i64) (by(repeat' split) <;> omega)),rfl⟩
  ·replace h_3:=decF h_3
   refine gS [.o [0,1,1] 1,.c [1,1,1]] ?_
   refine gC (some 22) [0,1] Tryz.call141 (clo_Class c b b2 k) ?_
   exact gX [] (gI (vI (if k≤c.n0 then 0 else 1)) [1,2] ⟨(congrArg (Value.int .i64) (by(repeat' split) <;> omega)),rfl⟩)
noncomputable def B78: Code:=(Tryz.f78.body).getD .skip
theorem plan_Class(c:Cfg)(k:Int)(hc:c.Ok)(hk:InK .i64 (k-1)):
  Ctr Tryz.prog 78 #[cfgV c,vI k] [] (Ret (vI (clsOf c k)) []):=by
 refine cB B78 12 Tryz.func78 ?_
 intro F
 refine gX [.z [0,1] 0 [2,3]] (gN fun b_1=>gN fun b_2=>gW (ks:=[.c [0,1],.c [1,1]]) [(2,vP b_1),(3,vP b_2)] [Efdc04 b_1 c,.pts b_2 [vI k] 3] ?_)
 refine qG (kV 0 [.e 0,.e 1,.h (.n),.e 0,.q (vI (c.n0+c.n1)),.ww,.q (vI (if (0:Int)≤(k-1)∧(k-1)<(c.n0+c.n1) then(if k≤c.n0 then 0 else 1) else -1)),.ww]) [4] (.e b_1 (.e b_2 (.p (InK .i64 (k-1)) (by simp only [InK] at *; omega) (.e b_1 .n)))) (.c Tryz.call121 (qR [] (plan_Blocks c oM)) (.c Tryz.call100 (qR [1,0] (place_Class c (k-1) (c.n0+c.n1) b_2 b_1 k oM)) .n)) ?_
 exact gX [] (gR (vI (if (0:Int)≤(k-1)∧(k-1)<(c.n0+c.n1) then(if k≤c.n0 then 0 else 1) else -1)) [] ⟨rfl,rfl⟩)
noncomputable def B153: Code:=(Tryz.f153.body).getD .skip
theorem clo_Block(c:Cfg)(b b2:Nat)(k:Int)(hc:c.Ok)(hr:0≤k-1∧k-1<c.n0+c.n1):
  Ctr Tryz.prog 153 #[vP b,vP b2] [Efdc04 b c,.pts b2 [vI k] 3] (Ret (vI (5+c.slots+c.topics+c.topics*(1+2*c.small)+bMin (k-1) c.n0*(1+c.s0)+(k-1-bMin (k-1) c.n0)*(1+c.s1))) [Efdc04 b c,.pts b2 [vI k] 3]):=by
 refine cB B153 44 Tryz.func153 ?_
 intro F
 refine gX [.e 0,.z [0,1] 1 [0,1,7]] (gQ b (gS [.o [0,1] 1,.c [1,1]] ?_))
 refine gC (some 8) [] Tryz.call102 (plan_cells c oM) ?_
 exact gX [.e 0,.n,.n,.e 1,.n,.w,.e 0,.w,.e 0,.n,.n,.n,.e 1,.n,.n,.w,.e 0,.n,.n,.n] (gQ b (gO (InK .i64 (c.topics*(1+2*c.small))) (by have hnl:=blk_nl hc hr; simp only [Cfg.Ok,InK] at *; omega) (gO (InK .i64 ((5+c.slots+c.topics)+(c.topics*(1+2*c.small)))) (by have hnl:=blk_nl hc hr; simp only [Cfg.Ok,InK] at *; omega) (gQ b2 (gO (InK .i64 (k-1)) (by have hnl:=blk_nl hc hr; simp only [Cfg.Ok,InK] at *; omega) (gQ b (gQ b (gO (InK .i64 (1+c.s0)) (by have hnl:=blk_nl hc hr; simp only [Cfg.Ok,InK] at *; omega) (gO (InK .i64 ((bMin (k-1) c.n0)*(1+c.s0))) (by have hnl:=blk_nl hc hr; simp only [Cfg.Ok,InK] at *; omega) (gO (InK .i64 (((5+c.slots+c.topics)+(c.topics*(1+2*c.small)))+((bMin (k-1) c.n0)*(1+c.s0)))) (by have hnl:=blk_nl hc hr; simp only [Cfg.Ok,InK] at *; omega) (gQ b2 (gO (InK .i64 (k-1)) (by have hnl:=blk_nl hc hr; simp only [Cfg.Ok,InK] at *; omega) (gO (InK .i64 ((k-1)-(bMin (k-1) c.n0))) (by have hnl:=blk_nl hc hr; simp only [Cfg.Ok,InK] at *; omega) (gQ b (gO (InK .i64 (1+c.s1)) (by have hnl:=blk_nl hc hr; simp only [Cfg.Ok,InK] at *; omega) (gO (InK .i64 (((k-1)-(bMin (k-1) c.n0))*(1+c.s1))) (by have hnl:=blk_nl hc hr; simp only [Cfg.Ok,InK] at *; omega) (gO (InK .i64 ((((5+c.slots+c.topics)+(c.topics*(1+2*c.small)))+((bMin (k-1) c.n0)*(1+c.s0)))+(((k-1)-(bMin (k-1) c.n0))*(1+c.s1)))) (by have hnl:=blk_nl hc hr; simp only [Cfg.Ok,InK] at *; omega) (gJ [0,1] ⟨rfl,rfl⟩))))))))))))))))))
theorem place_Block(c:Cfg)(i many:Int)(b b2:Nat)(k:Int)(hc:c.Ok)(hm:many=c.n0+c.n1)(hi:i=k-1):
  Ctr Tryz.prog 100 #[cfgV c,vI i,vI many,.func (.func 153) #[] #[vP b,vP b2]] [Efdc04 b c,.pts b2 [vI k] 3] (Ret (vI (if (0:Int)≤i∧i<many then(5+c.slots+c.topics+c.topics*(1+2*c.small)+bMin (k-1) c.n0*(1+c.s0)+(k-1-bMin (k-1) c.n0)*(1+c.s1)) else -1)) [Efdc04 b c,.pts b2 [vI k] 3]):=by
 refine cB B100 23 Tryz.func100 ?_
 intro F
 refine gX [.e 2,.z [0,0,1] 1 [1,2,3,9]] (gN fun b_1=>gQ b_1 (gS [.o [0,0,1] 1,.c [1,0,1],.c [1,1]] ?_))
 refine gC (some 10) [] Tryz.call127 (plan_right c oM) ?_
 refine gX [.sp [16,14,15] [] [.sp [20,19] [] [.z [0,1,1] 1 [21]]]] (gQ (decide (i<0)) (gQ (decide (i<0)) (gB (decide (i<0)) (fun h_2 => ?_) (fun h_2 => ?_))))
 ·replace h_2:=decT h_2
  exact gI (vI (-1)) [0,1] ⟨(congrArg (Value.int .i64) (by(repeat' split) <;> omega)),rfl⟩
 ·replace h_2:=decF h_2
  refine gQ (decide (i≥many)) (gB (decide (i≥many)) (fun h_3 => ?_) (fun h_3 => ?_))
  ·replace h_3:=decT h_3
   exact gI (vI (-1)) [0,1] ⟨(congrArg (Value.int .i64) (by(repeat' split) <;> omega)),rfl⟩
  ·replace h_3:=decF h_3
   refine gS [.o [0,1,1] 1,.c [1,1,1]] ?_
   refine gC (some 22) [0,1] Tryz.call153 (clo_Block c b b2 k oM (by simp only [Cfg.Ok] at hc; omega)) ?_
   exact gX [] (gI (vI (5+c.slots+c.topics+c.topics*(1+2*c.small)+bMin (k-1) c.n0*(1+c.s0)+(k-1-bMin (k-1) c.n0)*(1+c.s1))) [1,2] ⟨(congrArg (Value.int .i64) (by(repeat' split) <;> omega)),rfl⟩)
noncomputable def B105: Code:=(Tryz.f105.body).getD .skip
theorem plan_Block(c:Cfg)(k:Int)(hc:c.Ok)(hk:InK .i64 (k-1)):
  Ctr Tryz.prog 105 #[cfgV c,vI k] [] (Ret (vI (blockAt c k)) []):=by
 refine cB B105 12 Tryz.func105 ?_
 intro F
 refine gX [.z [0,1] 0 [2,3]] (gN fun b_1=>gN fun b_2=>gW (ks:=[.c [0,1],.c [1,1]]) [(2,vP b_1),(3,vP b_2)] [Efdc04 b_1 c,.pts b_2 [vI k] 3] ?_)
 refine qG (kV 0 [.e 0,.e 1,.h (.n),.e 0,.q (vI (c.n0+c.n1)),.ww,.q (vI (if (0:Int)≤(k-1)∧(k-1)<(c.n0+c.n1) then(5+c.slots+c.topics+c.topics*(1+2*c.small)+bMin (k-1) c.n0*(1+c.s0)+(k-1-bMin (k-1) c.n0)*(1+c.s1)) else -1)),.ww]) [4] (.e b_1 (.e b_2 (.p (InK .i64 (k-1)) (by simp only [InK] at *; omega) (.e b_1 .n)))) (.c Tryz.call121 (qR [] (plan_Blocks c oM)) (.c Tryz.call100 (qR [0,1] (place_Block c (k-1) (c.n0+c.n1) b_1 b_2 k oM rfl rfl)) .n)) ?_
 exact gX [] (gR (vI (if (0:Int)≤(k-1)∧(k-1)<(c.n0+c.n1) then(5+c.slots+c.topics+c.topics*(1+2*c.small)+bMin (k-1) c.n0*(1+c.s0)+(k-1-bMin (k-1) c.n0)*(1+c.s1)) else -1)) [] ⟨rfl,rfl⟩)
noncomputable def B164: Code:=(Tryz.f164.body).getD .skip
theorem clo_Load(aw:Option Addr)(cw:Nat)(ws:List Int)(j b:Nat)(v0:Int)(hj:j<ws.length):
  Ctr Tryz.prog 164 #[slAt aw j 1,vP b] [E54ea0 aw cw ws,.pts b [vU v0] 60] (Ret (.bool false) [E54ea0 aw cw ws,.pts b [vU (ws.getD j 0)] 60]):=by
 refine cB B164 7 Tryz.func164 ?_
 intro F
 exact gX [.j 0 j,.e 1] (gQ (slAt aw j 1) (gO (j<ws.length) oW (gQ b (gJ [0,1] ⟨rfl,rfl⟩))))
noncomputable def B155: Code:=(Tryz.f155.body).getD .skip
theorem clo_Store(aw:Option Addr)(cw:Nat)(ws:List Int)(j b:Nat)(v0:Int)(hj:j<ws.length):
  Ctr Tryz.prog 155 #[slAt aw j 1,vP b] [E54ea0 aw cw ws,.pts b [vU v0] 60] (Ret (.bool true) [E54ea0 aw cw (ws.set j v0),.pts b [vU v0] 60]):=by
 refine cB B155 7 Tryz.func155 ?_
 intro F
 refine go_exec (rs:=[.tmp 3]) kR 4000 [.e 1,.j 0 j] (o:=.obl (b=b) (.obl (slAt aw j 1=slAt aw j 1) (.obl (j<ws.length) (.ex fun x_1:Int=>.obl ([vU v0]=(encI .u64) x_1) (.ret (.bool true) [E54ea0 aw cw (ws.set j x_1),.pts b [vU v0] 60]))))) kR ?_
 refine ok_obl rfl ?_
 refine ok_obl rfl ?_
 refine ok_obl oW ?_
 refine ok_ex (v0:Int) ?_
 refine ok_obl rfl ?_
 exact rK [0,1] ⟨rfl,rfl⟩
noncomputable def B179: Code:=(Tryz.f179.body).getD .skip
theorem atomic_Add(ba:Nat)(sa:Option Addr)(sn sc:Nat)(s k1 k2 k3:Int)(k4:Bool)(d:Int)(h:InK .i64 (s+d)):
  Ctr Tryz.prog 179 #[.pointer (some ⟨ba,1,none⟩),vI d] [Ef0385 ba sa sn sc s k1 k2 k3 k4] (Ret (vI (s+d)) [Ef0385 ba sa sn sc (s+d) k1 k2 k3 k4]):=by
 refine cB B179 10 Tryz.func179 ?_
 intro F
 refine gX [.z [0,1] 4 [7,8]] (gW (ks:=[.o [0,1] 4,.c [1,1]]) [(7,.pointer (some ⟨ba,1,none⟩)),(8,vI d)] [Ef0385 ba sa sn sc s k1 k2 k3 k4] ?_)
 refine go_extern (some 9) (f:=194) (args := #[.pointer (some ⟨ba,1,none⟩),vI d]) kR (ext_add Tryz.func194 kR kR kR .i64 kR  (L:=[Ef0385 ba sa sn sc s k1 k2 k3 k4]) (i:=0) (b:=ba) (off:=1) (cs:=[.slice sa sn sc,vI s,vI k1,vI k2,vU k3,.bool k4,.nilIface]) (t:=144) (x:=s) (y:=d) kR kR (by simp only [InK] at *; omega)) ?_
 rintro v L2 ⟨rfl,rfl⟩
 exact gX [] (gJ [0] ⟨rfl,rfl⟩)
noncomputable def B81: Code:=(Tryz.f81.body).getD .skip
theorem atomic_Load(ba:Nat)(sa:Option Addr)(sn sc:Nat)(s k1 k2 k3:Int)(k4:Bool):
  Ctr Tryz.prog 81 #[.pointer (some ⟨ba,1,none⟩)] [Ef0385 ba sa sn sc s k1 k2 k3 k4] (Ret (vI s) [Ef0385 ba sa sn sc s k1 k2 k3 k4]):=by
 refine cB B81 7 Tryz.func81 ?_
 intro F
 refine gX [.z [0,1] 3 [5]] (gW (ks:=[.o [0,1] 3,.c [1,1]]) [(5,.pointer (some ⟨ba,1,none⟩))] [Ef0385 ba sa sn sc s k1 k2 k3 k4] ?_)
 refine go_extern (some 6) (f:=142) (args := #[.pointer (some ⟨ba,1,none⟩)]) kR (ext_load Tryz.func142 kR kR kR .i64 kR  (L:=[Ef0385 ba sa sn sc s k1 k2 k3 k4]) (i:=0) (b:=ba) (off:=1) (cs:=[.slice sa sn sc,vI s,vI k1,vI k2,vU k3,.bool k4,.nilIface]) (t:=144) (x:=s) kR kR) ?_
 rintro v L2 ⟨rfl,rfl⟩
 exact gX [] (gJ [0] ⟨rfl,rfl⟩)
noncomputable def B154: Code:=(Tryz.f154.body).getD .skip
theorem step_Load(ba:Nat)(A:Ar)(i:Int)(b:Nat)(v0:Int)(hn:A.ws.length=A.n)(hi:0≤i∧i<A.n)(hs:0≤A.steps∧A.steps≤1000000000):
  Ctr Tryz.prog 154 #[vP ba,vI 1,vI i,.func (.func 164) #[] #[vP b]] [E3504b ba A,E35fb1 A,.pts b [vU v0] 60] (Ret (.bool false) [E3504b ba (A.load i),E35fb1 (A.load i),.pts b [vU (A.ws.getD i.toNat 0)] 60]):=by
 refine cB B154 71 Tryz.func154 ?_
 intro F
 refine gX [.z [0,1,1] 3 [0,1,2,3,13]] (gS [.o [0,1,1] 3,.c [1,1,1]] ?_)
 refine gC (some 14) [0] Tryz.call179 (atomic_Add ba A.aw A.n A.cw A.steps A.lk A.lw A.lv A.lc 1 oM) ?_
 refine gX [.e 2,.sp [23,22] [.dead] [.e 2,.sp [31,30] [.dead] [.e 2,.s 0,.z [0,1,1,1,1,1] 8 [0,2,43,44,50]]]] (gQ ba (gQ (decide (i<0)) (gF (decide (i<0)) (by simp; omega) (gQ ba (gQ (decide (i≥((A.n:Nat):Int))) (gF (decide (i≥((A.n:Nat):Int))) (by simp; omega) (gQ ba (gO (A.aw=A.aw∧A.n=A.ws.length) ⟨rfl,(by first | rfl | omega | (simp; done) | (simp; omega))⟩ (gO ((0:Int)≤i∧i<((A.ws.length:Nat):Int)) (by first | omega | (simp; omega)) (gS [.o [0,1,1,1,1,1] 8,.c [1,1,1,1,1,1]] ?_))))))))))
 refine gC (some 51) [0,1] Tryz.call164 (clo_Load A.aw A.cw A.ws i.toNat b v0 oM) ?_
 exact gX [.e 0,.e 0,.s 1,.j 1 i.toNat,.e 0,.e 0] (gQ ba (gQ ba (gO (A.aw=A.aw∧A.n=A.ws.length) ⟨rfl,(by first | rfl | omega | (simp; done) | (simp; omega))⟩ (gO ((0:Int)≤i∧i<((A.ws.length:Nat):Int)) (by first | omega | (simp; omega)) (gQ (slAt A.aw i.toNat 1) (gO (i.toNat<A.ws.length) (by first | omega | (simp; omega)) (gQ ba (gQ ba (gJ [0,1,2] ⟨rfl,rfl⟩)))))))))
theorem step_Store(ba:Nat)(A:Ar)(i:Int)(b:Nat)(v0:Int)(hn:A.ws.length=A.n)(hi:0≤i∧i<A.n)(hs:0≤A.steps∧A.steps≤1000000000):
  Ctr Tryz.prog 154 #[vP ba,vI 2,vI i,.func (.func 155) #[] #[vP b]] [E3504b ba A,E35fb1 A,.pts b [vU v0] 60] (Ret (.bool true) [E3504b ba (A.store i v0),E35fb1 (A.store i v0),.pts b [vU v0] 60]):=by
 refine cB B154 71 Tryz.func154 ?_
 intro F
 refine gX [.z [0,1,1] 3 [0,1,2,3,13]] (gS [.o [0,1,1] 3,.c [1,1,1]] ?_)
 refine gC (some 14) [0] Tryz.call179 (atomic_Add ba A.aw A.n A.cw A.steps A.lk A.lw A.lv A.lc 1 oM) ?_
 refine gX [.e 2,.sp [23,22] [.dead] [.e 2,.sp [31,30] [.dead] [.e 2,.s 0,.z [0,1,1,1,1,1] 8 [0,2,43,44,50]]]] (gQ ba (gQ (decide (i<0)) (gF (decide (i<0)) (by simp; omega) (gQ ba (gQ (decide (i≥((A.n:Nat):Int))) (gF (decide (i≥((A.n:Nat):Int))) (by simp; omega) (gQ ba (gO (A.aw=A.aw∧A.n=A.ws.length) ⟨rfl,(by first | rfl | omega | (simp; done) | (simp; omega))⟩ (gO ((0:Int)≤i∧i<((A.ws.length:Nat):Int)) (by first | omega | (simp; omega)) (gS [.o [0,1,1,1,1,1] 8,.c [1,1,1,1,1,1]] ?_))))))))))
 refine gC (some 51) [0,1] Tryz.call155 (clo_Store A.aw A.cw A.ws i.toNat b v0 oM) ?_
 exact gX [.e 0,.e 0,.s 1,.j 1 i.toNat,.e 0,.e 0] (gQ ba (gQ ba (gO (A.aw=A.aw∧A.n=(A.ws.set i.toNat v0).length) ⟨rfl,(by first | rfl | omega | (simp; done) | (simp; omega))⟩ (gO ((0:Int)≤i∧i<(((A.ws.set i.toNat v0).length:Nat):Int)) (by first | omega | (simp; omega)) (gQ (slAt A.aw i.toNat 1) (gO (i.toNat<(A.ws.set i.toNat v0).length) (by first | omega | (simp; omega)) (gQ ba (gQ ba (gJ [0,1,2] ⟨rfl,rfl⟩)))))))))
noncomputable def B116: Code:=(Tryz.f116.body).getD .skip
theorem arena_Load(ba:Nat)(A:Ar)(i:Int)(hn:A.ws.length=A.n)(hi:0≤i∧i<A.n)(hs:0≤A.steps∧A.steps≤1000000000):
  Ctr Tryz.prog 116 #[vP ba,vI i] [E3504b ba A,E35fb1 A] (Ret (vU (A.ws.getD i.toNat 0)) [E3504b ba (A.load i),E35fb1 (A.load i)]):=by
 refine cB B116 10 Tryz.func116 ?_
 intro F
 refine gX [.z [0,1] 3 [4,5,6,7]] (gN fun b_1=>gW (ks:=[.o [0,1] 3,.c [1,1]]) [(4,vP b_1),(5,vP ba),(6,vI i),(7,.func (.func 164) #[] #[vP b_1])] [E3504b ba A,E35fb1 A,.pts b_1 [vU 0] 60] ?_)
 refine gC (some 8) [0,1,2] Tryz.call154 (step_Load ba A i b_1 0 oM oM oM) ?_
 exact gX [.e 2,.e 2,.e 2] (gQ b_1 (gQ b_1 (gQ b_1 (gJ [0,1] ⟨rfl,rfl⟩))))
noncomputable def B107: Code:=(Tryz.f107.body).getD .skip
theorem arena_Store(ba:Nat)(A:Ar)(i v:Int)(hn:A.ws.length=A.n)(hi:0≤i∧i<A.n)(hs:0≤A.steps∧A.steps≤1000000000):
  Ctr Tryz.prog 107 #[vP ba,vI i,vU v] [E3504b ba A,E35fb1 A] (Ret (undef) [E3504b ba (A.store i v),E35fb1 (A.store i v)]):=by
 refine cB B107 10 Tryz.func107 ?_
 intro F
 refine gX [.z [1] 3 [6,7,8]] (gN fun b_1=>gW (ks:=[.o [1] 3]) [(6,vP ba),(7,vI i),(8,.func (.func 155) #[] #[vP b_1])] [E3504b ba A,E35fb1 A,.pts b_1 [vU v] 60] ?_)
 refine gC (some 9) [0,1,2] Tryz.call154 (step_Store ba A i b_1 v oM oM oM) ?_
 exact gX [] (gJ [0,1] ⟨rfl,rfl⟩)
noncomputable def B198: Code:=(Tryz.f198.body).getD .skip
theorem clo_SwapT(aw:Option Addr)(cw:Nat)(ws:List Int)(j b b2:Nat)(old new:Int)(hj:j<ws.length)(hw:ws.getD j 0=old):
  Ctr Tryz.prog 198 #[slAt aw j 1,vP b,vP b2] [E54ea0 aw cw ws,.pts b [vU old] 60,.pts b2 [vU new] 60] (Ret (.bool true) [E54ea0 aw cw (ws.set j new),.pts b [vU old] 60,.pts b2 [vU new] 60]):=by
 refine cB B198 13 Tryz.func198 ?_
 intro F
 refine gX [.z [0,0,1] 0 [0,1,2]] (gS [.c [0,0,1],.c [1,0,1],.c [1,1]] ?_)
 refine qG (kV 0 [.ww,.ww,.h (.j 0 j),.e 1,.t false]) [0,2,9] (.e (slAt aw j 1) (.p (j<ws.length) oW (.e b (.p (((ws.getD j 0) != old)=false) (by rw [hw]; simp) .n)))) .n ?_
 refine gE [(0,slAt aw j 1),(2,vP b2),(9,.bool false)] [E54ea0 aw cw ws,.pts b [vU old] 60,.pts b2 [vU new] 60] ?_
 refine go_exec (rs:=[.tmp 4]) kR 4000 [.e 2,.j 0 j] (o:=.obl (b2=b2) (.obl (slAt aw j 1=slAt aw j 1) (.obl (j<ws.length) (.ex fun x_1:Int=>.obl ([vU new]=(encI .u64) x_1) (.ret (.bool true) [E54ea0 aw cw (ws.set j x_1),.pts b [vU old] 60,.pts b2 [vU new] 60]))))) kR ?_
 refine ok_obl rfl ?_
 refine ok_obl rfl ?_
 refine ok_obl oW ?_
 refine ok_ex (new:Int) ?_
 refine ok_obl rfl ?_
 exact rK [0,1,2] ⟨rfl,rfl⟩
theorem step_SwapT(ba:Nat)(A:Ar)(i:Int)(b b2:Nat)(old new:Int)(hn:A.ws.length=A.n)(hi:0≤i∧i<A.n)(hs:0≤A.steps∧A.steps≤1000000000)(hw:A.ws.getD i.toNat 0=old):
  Ctr Tryz.prog 154 #[vP ba,vI 3,vI i,.func (.func 198) #[] #[vP b,vP b2]] [E3504b ba A,E35fb1 A,.pts b [vU old] 60,.pts b2 [vU new] 60] (Ret (.bool true) [E3504b ba (A.swapT i new),E35fb1 (A.swapT i new),.pts b [vU old] 60,.pts b2 [vU new] 60]):=by
 refine cB B154 71 Tryz.func154 ?_
 intro F
 refine gX [.z [0,1,1] 3 [0,1,2,3,13]] (gS [.o [0,1,1] 3,.c [1,1,1]] ?_)
 refine gC (some 14) [0] Tryz.call179 (atomic_Add ba A.aw A.n A.cw A.steps A.lk A.lw A.lv A.lc 1 oM) ?_
 refine gX [.e 3,.sp [23,22] [.dead] [.e 3,.sp [31,30] [.dead] [.e 3,.s 0,.z [0,1,1,1,1,1] 8 [0,2,43,44,50]]]] (gQ ba (gQ (decide (i<0)) (gF (decide (i<0)) (by simp; omega) (gQ ba (gQ (decide (i≥((A.n:Nat):Int))) (gF (decide (i≥((A.n:Nat):Int))) (by simp; omega) (gQ ba (gO (A.aw=A.aw∧A.n=A.ws.length) ⟨rfl,(by first | rfl | omega | (simp; done) | (simp; omega))⟩ (gO ((0:Int)≤i∧i<((A.ws.length:Nat):Int)) (by first | omega | (simp; omega)) (gS [.o [0,1,1,1,1,1] 8,.c [1,1,1,1,1,1]] ?_))))))))))
 refine gC (some 51) [0,1,2] Tryz.call198 (clo_SwapT A.aw A.cw A.ws i.toNat b b2 old new oM oM) ?_
 exact gX [.e 0,.e 0,.s 1,.j 1 i.toNat,.e 0,.e 0] (gQ ba (gQ ba (gO (A.aw=A.aw∧A.n=(A.ws.set i.toNat new).length) ⟨rfl,(by first | rfl | omega | (simp; done) | (simp; omega))⟩ (gO ((0:Int)≤i∧i<(((A.ws.set i.toNat new).length:Nat):Int)) (by first | omega | (simp; omega)) (gQ (slAt A.aw i.toNat 1) (gO (i.toNat<(A.ws.set i.toNat new).length) (by first | omega | (simp; omega)) (gQ ba (gQ ba (gJ [0,1,2,3] ⟨rfl,rfl⟩)))))))))
noncomputable def B185: Code:=(Tryz.f185.body).getD .skip
theorem arena_SwapT(ba:Nat)(A:Ar)(i old new:Int)(hn:A.ws.length=A.n)(hi:0≤i∧i<A.n)(hs:0≤A.steps∧A.steps≤1000000000)(hw:A.ws.getD i.toNat 0=old):
  Ctr Tryz.prog 185 #[vP ba,vI i,vU old,vU new] [E3504b ba A,E35fb1 A] (Ret (.bool true) [E3504b ba (A.swapT i new),E35fb1 (A.swapT i new)]):=by
 refine cB B185 13 Tryz.func185 ?_
 intro F
 refine gX [.z [0,1] 3 [9,10,11]] (gN fun b_1=>gN fun b_2=>gW (ks:=[.o [0,1] 3,.c [1,1]]) [(9,vP ba),(10,vI i),(11,.func (.func 198) #[] #[vP b_1,vP b_2])] [E3504b ba A,E35fb1 A,.pts b_1 [vU old] 60,.pts b_2 [vU new] 60] ?_)
 refine gC (some 12) [0,1,2,3] Tryz.call154 (step_SwapT ba A i b_1 b_2 old new oM oM oM oM) ?_
 exact gX [] (gJ [0,1] ⟨rfl,rfl⟩)
theorem clo_SwapF(aw:Option Addr)(cw:Nat)(ws:List Int)(j b b2:Nat)(old new:Int)(hj:j<ws.length)(hw:ws.getD j 0≠old):
  Ctr Tryz.prog 198 #[slAt aw j 1,vP b,vP b2] [E54ea0 aw cw ws,.pts b [vU old] 60,.pts b2 [vU new] 60] (Ret (.bool false) [E54ea0 aw cw ws,.pts b [vU old] 60,.pts b2 [vU new] 60]):=by
 refine cB B198 13 Tryz.func198 ?_
 intro F
 refine gX [.z [0,0,1] 0 [0,1,2]] (gS [.c [0,0,1],.c [1,0,1],.c [1,1]] ?_)
 refine qG (kV 0 [.ww,.ww,.h (.j 0 j),.e 1,.t true]) [0,2,9] (.e (slAt aw j 1) (.p (j<ws.length) oW (.e b (.p (((ws.getD j 0) != old)=true) (bne_iff_ne.2 hw) .n)))) .n ?_
 exact gX [] (gJ [0,1,2] ⟨rfl,rfl⟩)
theorem step_SwapF(ba:Nat)(A:Ar)(i:Int)(b b2:Nat)(old new:Int)(hn:A.ws.length=A.n)(hi:0≤i∧i<A.n)(hs:0≤A.steps∧A.steps≤1000000000)(hw:A.ws.getD i.toNat 0≠old):
  Ctr Tryz.prog 154 #[vP ba,vI 3,vI i,.func (.func 198) #[] #[vP b,vP b2]] [E3504b ba A,E35fb1 A,.pts b [vU old] 60,.pts b2 [vU new] 60] (Ret (.bool false) [E3504b ba (A.swapF i),E35fb1 (A.swapF i),.pts b [vU old] 60,.pts b2 [vU new] 60]):=by
 refine cB B154 71 Tryz.func154 ?_
 intro F
 refine gX [.z [0,1,1] 3 [0,1,2,3,13]] (gS [.o [0,1,1] 3,.c [1,1,1]] ?_)
 refine gC (some 14) [0] Tryz.call179 (atomic_Add ba A.aw A.n A.cw A.steps A.lk A.lw A.lv A.lc 1 oM) ?_
 refine gX [.e 3,.sp [23,22] [.dead] [.e 3,.sp [31,30] [.dead] [.e 3,.s 0,.z [0,1,1,1,1,1] 8 [0,2,43,44,50]]]] (gQ ba (gQ (decide (i<0)) (gF (decide (i<0)) (by simp; omega) (gQ ba (gQ (decide (i≥((A.n:Nat):Int))) (gF (decide (i≥((A.n:Nat):Int))) (by simp; omega) (gQ ba (gO (A.aw=A.aw∧A.n=A.ws.length) ⟨rfl,(by first | rfl | omega | (simp; done) | (simp; omega))⟩ (gO ((0:Int)≤i∧i<((A.ws.length:Nat):Int)) (by first | omega | (simp; omega)) (gS [.o [0,1,1,1,1,1] 8,.c [1,1,1,1,1,1]] ?_))))))))))
 refine gC (some 51) [0,1,2] Tryz.call198 (clo_SwapF A.aw A.cw A.ws i.toNat b b2 old new oM oM) ?_
 exact gX [.e 0,.e 0,.s 1,.j 1 i.toNat,.e 0,.e 0] (gQ ba (gQ ba (gO (A.aw=A.aw∧A.n=A.ws.length) ⟨rfl,(by first | rfl | omega | (simp; done) | (simp; omega))⟩ (gO ((0:Int)≤i∧i<((A.ws.length:Nat):Int)) (by first | omega | (simp; omega)) (gQ (slAt A.aw i.toNat 1) (gO (i.toNat<A.ws.length) (by first | omega | (simp; omega)) (gQ ba (gQ ba (gJ [0,1,2,3] ⟨rfl,rfl⟩)))))))))
theorem arena_SwapF(ba:Nat)(A:Ar)(i old new:Int)(hn:A.ws.length=A.n)(hi:0≤i∧i<A.n)(hs:0≤A.steps∧A.steps≤1000000000)(hw:A.ws.getD i.toNat 0≠old):
  Ctr Tryz.prog 185 #[vP ba,vI i,vU old,vU new] [E3504b ba A,E35fb1 A] (Ret (.bool false) [E3504b ba (A.swapF i),E35fb1 (A.swapF i)]):=by
 refine cB B185 13 Tryz.func185 ?_
 intro F
 refine gX [.z [0,1] 3 [9,10,11]] (gN fun b_1=>gN fun b_2=>gW (ks:=[.o [0,1] 3,.c [1,1]]) [(9,vP ba),(10,vI i),(11,.func (.func 198) #[] #[vP b_1,vP b_2])] [E3504b ba A,E35fb1 A,.pts b_1 [vU old] 60,.pts b_2 [vU new] 60] ?_)
 refine gC (some 12) [0,1,2,3] Tryz.call154 (step_SwapF ba A i b_1 b_2 old new oM oM oM oM) ?_
 exact gX [] (gJ [0,1] ⟨rfl,rfl⟩)
noncomputable def B39: Code:=(Tryz.f39.body).getD .skip
theorem arena_Steps(ba:Nat)(A:Ar):
  Ctr Tryz.prog 39 #[vP ba] [E3504b ba A,E35fb1 A] (Ret (vI A.steps) [E3504b ba A,E35fb1 A]):=by
 refine cB B39 9 Tryz.func39 ?_
 intro F
 refine gX [.z [0,1,1] 3 [7]] (gS [.o [0,1,1] 3,.c [1,1,1]] ?_)
 refine gC (some 8) [0] Tryz.call81 (atomic_Load ba A.aw A.n A.cw A.steps A.lk A.lw A.lv A.lc) ?_
 exact gX [] (gJ [1,0] ⟨rfl,rfl⟩)
noncomputable def B151: Code:=(Tryz.f151.body).getD .skip
theorem heads_Block(w_:Int)(hw:0≤w_∧w_≤18446744073709551615):
  Ctr Tryz.prog 151 #[vU w_] [] (Ret (vI (lo32 w_)) []):=by
 refine cB B151 6 Tryz.func151 ?_
 intro F
 refine gX [.z [0,1] 1 [3]] (gS [.o [0,1] 1,.c [1,1]] ?_)
 refine gC (some 4) [] Tryz.call172 (bits_Get w_ 0 32 oM) ?_
 exact gX [.n] (gO (InK .i64 (bAnd .u64 (bShr .u64 w_ 0) (bShr .u64 18446744073709551615 (64-32)))) (by rw [get_lo hw]; simp only [InK]; have:=lo32_lt w_; omega) (gR (vI (bAnd .u64 (bShr .u64 w_ 0) (bShr .u64 18446744073709551615 (64-32)))) [] ⟨(congrArg (Value.int .i64) (get_lo hw)),rfl⟩))
noncomputable def B206: Code:=(Tryz.f206.body).getD .skip
theorem heads_Tag(w_:Int)(hw:0≤w_∧w_≤18446744073709551615):
  Ctr Tryz.prog 206 #[vU w_] [] (Ret (.int .u32 (hi32 w_)) []):=by
 refine cB B206 6 Tryz.func206 ?_
 intro F
 refine gX [.z [0,1] 1 [3]] (gS [.o [0,1] 1,.c [1,1]] ?_)
 refine gC (some 4) [] Tryz.call172 (bits_Get w_ 32 32 oM) ?_
 exact gX [.w] (gR (.int .u32 (IntKind.u32.wrap (bAnd .u64 (bShr .u64 w_ 32) (bShr .u64 18446744073709551615 (64-32))))) [] ⟨(congrArg (Value.int .u32) (get_hi hw)),rfl⟩)
noncomputable def B205: Code:=(Tryz.f205.body).getD .skip
theorem heads_Make(t_ b_:Int)(ht:0≤t_∧t_≤4294967295)(hb:0≤b_∧b_≤4294967295):
  Ctr Tryz.prog 205 #[.int .u32 t_,vI b_] [] (Ret (vU (t_*4294967296+b_)) []):=by
 refine cB B205 12 Tryz.func205 ?_
 intro F
 exact gX [.w,.n,.w,.w] (gO ((0:Int)≤32) oW (gR (vU (bOr .u64 (bShl .u64 (IntKind.u64.wrap t_) 32) (IntKind.u64.wrap (IntKind.u32.wrap b_)))) [] ⟨(congrArg (Value.int .u64) (make_eq ht hb)),rfl⟩))
noncomputable def B202: Code:=(Tryz.f202.body).getD .skip
theorem heads_Turn(w_ b_:Int)(hw:0≤w_∧w_≤18446744073709551615)(hb:0≤b_∧b_≤4294967295):
  Ctr Tryz.prog 202 #[vU w_,vI b_] [] (Ret (vU (turnW w_ b_)) []):=by
 refine cB B202 10 Tryz.func202 ?_
 intro F
 refine gX [.z [0,1] 1 [1,5]] (gS [.o [0,1] 1,.c [1,1]] ?_)
 refine gC (some 6) [] Tryz.call206 (heads_Tag w_ oM) ?_
 refine gX [.w,.z [0,1] 4 [7,8]] (gS [.o [0,1] 4,.c [1,1]] ?_)
 refine gC (some 9) [] Tryz.call205 (heads_Make (IntKind.u32.wrap ((hi32 w_)+1)) b_ (by have:=wrap32_rng (hi32 w_+1); omega) oM) ?_
 exact gX [] (gR (vU ((IntKind.u32.wrap ((hi32 w_)+1))*4294967296+b_)) [] ⟨(congrArg (Value.int .u64) (turn_eq w_ b_)),rfl⟩)
noncomputable def B136: Code:=(Tryz.f136.body).getD .skip
theorem slots_Client(w_:Int)(hw:0≤w_∧w_≤18446744073709551615):
  Ctr Tryz.prog 136 #[vU w_] [] (Ret (vI (hi32 w_-1)) []):=by
 refine cB B136 7 Tryz.func136 ?_
 intro F
 refine gX [.z [0,1] 1 [3]] (gS [.o [0,1] 1,.c [1,1]] ?_)
 refine gC (some 4) [] Tryz.call172 (bits_Get w_ 32 32 oM) ?_
 exact gX [.n,.n] (gO (InK .i64 (bAnd .u64 (bShr .u64 w_ 32) (bShr .u64 18446744073709551615 (64-32)))) (by rw [get_hi64 hw]; simp only [InK]; have:=hi32_lt hw; omega) (gO (InK .i64 ((bAnd .u64 (bShr .u64 w_ 32) (bShr .u64 18446744073709551615 (64-32)))-1)) (by rw [get_hi64 hw]; simp only [InK]; have:=hi32_lt hw; omega) (gI (vI ((bAnd .u64 (bShr .u64 w_ 32) (bShr .u64 18446744073709551615 (64-32)))-1)) [] ⟨(congrArg (Value.int .i64) (by rw [get_hi64 hw])),rfl⟩)))
noncomputable def B137: Code:=(Tryz.f137.body).getD .skip
theorem slots_Block(w_:Int)(hw:0≤w_∧w_≤18446744073709551615):
  Ctr Tryz.prog 137 #[vU w_] [] (Ret (vI (lo32 w_)) []):=by
 refine cB B137 6 Tryz.func137 ?_
 intro F
 refine gX [.z [0,1] 1 [3]] (gS [.o [0,1] 1,.c [1,1]] ?_)
 refine gC (some 4) [] Tryz.call172 (bits_Get w_ 0 32 oM) ?_
 exact gX [.n] (gO (InK .i64 (bAnd .u64 (bShr .u64 w_ 0) (bShr .u64 18446744073709551615 (64-32)))) (by rw [get_lo hw]; simp only [InK]; have:=lo32_lt w_; omega) (gR (vI (bAnd .u64 (bShr .u64 w_ 0) (bShr .u64 18446744073709551615 (64-32)))) [] ⟨(congrArg (Value.int .i64) (get_lo hw)),rfl⟩))
end Go.Proofs.YtpcaijopodhdgaaGreatDoor
namespace Go.Proofs.YtpcaijopodhdgaaGreatDoor
open Go.Sx
abbrev E31d76(x0:Nat)(c1:Cfg)(x2:Int)(x3:Int)(x4:Value)(x5:Int): Ent:=.pts x0 [.int .i64 c1.topics,.int .i64 c1.small,.int .i64 c1.slots,.int .i64 c1.clients,.int .i64 c1.s0,.int .i64 c1.n0,.int .i64 c1.s1,.int .i64 c1.n1,.int .i64 c1.retry,.int .i64 x2,.int .u64 x3,x4,.int .i64 x5] 247
abbrev E00526(x0:Nat)(c1:Cfg)(g2:Gv)(x3:Value): Ent:=.pts x0 [.int .i64 c1.topics,.int .i64 c1.small,.int .i64 c1.slots,.int .i64 c1.clients,.int .i64 c1.s0,.int .i64 c1.n0,.int .i64 c1.s1,.int .i64 c1.n1,.int .i64 c1.retry,.int .i64 g2.head,.int .u64 g2.seen,x3,.int .i64 g2.block] 247
/-- the step that is next -/
noncomputable def nxV(g:Nat): Nat→Value
 | 1=>.func (.func 192) #[vP g] #[]
 | 2=>.func (.func 201) #[vP g] #[]
 | 3=>.func (.func 204) #[vP g] #[]
 | _=>.nilFunc
noncomputable def B158: Code:=(Tryz.f158.body).getD .skip
theorem run_Done0(c:Cfg)(gv:Nat)(hd sn bk:Int):
  Ctr Tryz.prog 158 #[vP gv] [E31d76 gv c hd sn (.nilFunc) bk] (Ret (.bool true) [E31d76 gv c hd sn (.nilFunc) bk]):=by
 refine cB B158 12 Tryz.func158 ?_
 intro F
 exact gX [.e 0] (gQ gv (gJ [0] ⟨rfl,rfl⟩))
theorem run_Done1(c:Cfg)(gv:Nat)(hd sn bk:Int):
  Ctr Tryz.prog 158 #[vP gv] [E31d76 gv c hd sn (.func (.func 192) #[vP gv] #[]) bk] (Ret (.bool false) [E31d76 gv c hd sn (.func (.func 192) #[vP gv] #[]) bk]):=by
 refine cB B158 12 Tryz.func158 ?_
 intro F
 exact gX [.e 0] (gQ gv (gJ [0] ⟨rfl,rfl⟩))
theorem run_Done2(c:Cfg)(gv:Nat)(hd sn bk:Int):
  Ctr Tryz.prog 158 #[vP gv] [E31d76 gv c hd sn (.func (.func 201) #[vP gv] #[]) bk] (Ret (.bool false) [E31d76 gv c hd sn (.func (.func 201) #[vP gv] #[]) bk]):=by
 refine cB B158 12 Tryz.func158 ?_
 intro F
 exact gX [.e 0] (gQ gv (gJ [0] ⟨rfl,rfl⟩))
theorem run_Done3(c:Cfg)(gv:Nat)(hd sn bk:Int):
  Ctr Tryz.prog 158 #[vP gv] [E31d76 gv c hd sn (.func (.func 204) #[vP gv] #[]) bk] (Ret (.bool false) [E31d76 gv c hd sn (.func (.func 204) #[vP gv] #[]) bk]):=by
 refine cB B158 12 Tryz.func158 ?_
 intro F
 exact gX [.e 0] (gQ gv (gJ [0] ⟨rfl,rfl⟩))
noncomputable def B150: Code:=(Tryz.f150.body).getD .skip
theorem run_load(c:Cfg)(gv ba:Nat)(hd sn bk:Int)(A:Ar)(nx:Value)(hn:A.ws.length=A.n)(hs:0≤A.steps∧A.steps≤1000000000)(hh:0≤hd∧hd<A.n):
  Ctr Tryz.prog 150 #[vP gv,vP ba] [E31d76 gv c hd sn nx bk,E3504b ba A,E35fb1 A] (Ret (undef) [E31d76 gv c hd (A.ws.getD hd.toNat 0) nx bk,E3504b ba (A.load hd),E35fb1 (A.load hd)]):=by
 refine cB B150 13 Tryz.func150 ?_
 intro F
 refine gX [.e 0,.z [] 6 [4,5,9]] (gQ gv (gS [.o [] 6] ?_))
 refine gC (some 10) [1,2] Tryz.call116 (arena_Load ba A hd oM oM oM) ?_
 exact gX [.e 0] (gQ gv (gJ [0,1,2] ⟨rfl,rfl⟩))
noncomputable def B192: Code:=(Tryz.f192.body).getD .skip
theorem give_first(c:Cfg)(gv ba:Nat)(hd sn bk:Int)(A:Ar)(nx:Value)(hn:A.ws.length=A.n)(hs:0≤A.steps∧A.steps≤1000000000)(hh:0≤hd∧hd<A.n):
  Ctr Tryz.prog 192 #[vP gv,vP ba] [E31d76 gv c hd sn nx bk,E3504b ba A,E35fb1 A] (Ret (undef) [E31d76 gv c hd (A.ws.getD hd.toNat 0) (.func (.func 201) #[vP gv] #[]) bk,E3504b ba (A.load hd),E35fb1 (A.load hd)]):=by
 refine cB B192 15 Tryz.func192 ?_
 intro F
 refine gX [.z [0] 4 [0,6,7]] (gS [.o [0] 4,.c [1]] ?_)
 refine gC (some 8) [0,1,2] Tryz.call150 (run_load c gv ba hd sn bk A nx oM oM oM) ?_
 exact gX [.e 0] (gQ gv (gJ [0,1,2] ⟨rfl,rfl⟩))
noncomputable def B201: Code:=(Tryz.f201.body).getD .skip
theorem give_second(c:Cfg)(gv ba:Nat)(hd sn bk:Int)(A:Ar)(nx:Value)(hn:A.ws.length=A.n)(hs:0≤A.steps∧A.steps≤1000000000)(hc:c.Ok)(hk:0≤bk∧bk≤4294967295)(hb:0≤blockAt c bk∧blockAt c bk<A.n)(hw:0≤sn∧sn≤18446744073709551615):
  Ctr Tryz.prog 201 #[vP gv,vP ba] [E31d76 gv c hd sn nx bk,E3504b ba A,E35fb1 A] (Ret (undef) [E31d76 gv c hd sn (.func (.func 204) #[vP gv] #[]) bk,E3504b ba (A.store (blockAt c bk) (lo32 sn)),E35fb1 (A.store (blockAt c bk) (lo32 sn))]):=by
 refine cB B201 29 Tryz.func201 ?_
 intro F
 refine gX [.z [0] 0 [0,1]] (gS [.c [0],.c [1]] ?_)
 refine tC (some 22) (kV 0 [.ww,.ww,.ww,.ww,.ww,.e 0,.ww,.ww,.ww,.e 0,.q (vI (blockAt c bk)),.ww,.ww,.ww,.ww,.e 0,.q (vI (lo32 sn)),.h (.n)]) 18 [] [1,2] [0] Tryz.call107 (arena_Store ba A (blockAt c bk) (lo32 sn) oM hb oM) (.e gv (.e gv (.e gv (.p (InK .u64 (lo32 sn)) (by simp only [InK]; have:=lo32_lt sn; omega) .n)))) (.c Tryz.call105 (qR [] (plan_Block c bk oM (by simp only [InK]; omega))) (.c Tryz.call151 (qR [] (heads_Block sn oM)) .n)) ?_
 rintro v post ⟨rfl,rfl⟩
 refine tN .n ?_
 exact gX [.e 0] (gQ gv (gJ [0,1,2] ⟨rfl,rfl⟩))
noncomputable def B193: Code:=(Tryz.f193.body).getD .skip
theorem run_turnT(c:Cfg)(gv ba:Nat)(hd sn bk:Int)(A:Ar)(nx:Value)(hn:A.ws.length=A.n)(hs:0≤A.steps∧A.steps≤1000000000)(hh:0≤hd∧hd<A.n)(hc:c.Ok)(hk:0≤bk∧bk≤4294967295)(hb:0≤blockAt c bk∧blockAt c bk<A.n)(hw:0≤sn∧sn≤18446744073709551615)(hq:(A.ws.getD hd.toNat 0)=sn):
  Ctr Tryz.prog 193 #[vP gv,vP ba,vI bk] [E31d76 gv c hd sn nx bk,E3504b ba A,E35fb1 A] (Ret (.bool true) [E31d76 gv c hd sn nx bk,E3504b ba (A.swapT hd (turnW sn bk)),E35fb1 (A.swapT hd (turnW sn bk))]):=by
 refine cB B193 23 Tryz.func193 ?_
 intro F
 refine gX [.z [0,1] 0 [0,1,2]] (gS [.c [0,1],.c [1,1]] ?_)
 refine tC (some 22) (kV 0 [.ww,.ww,.ww,.ww,.e 0,.ww,.ww,.ww,.e 0,.ww,.ww,.ww,.e 0,.ww,.q (vU (turnW sn bk))]) 15 (kV 16 [.ww]) [1,2] [6] Tryz.call185 (arena_SwapT ba A hd sn (turnW sn bk) oM hh oM oM) (.e gv (.e gv (.e gv .n))) (.c Tryz.call202 (qR [] (heads_Turn sn bk oM hk)) .n) ?_
 rintro v post ⟨rfl,rfl⟩
 refine tN .n ?_
 exact gX [] (gJ [0,1,2] ⟨rfl,rfl⟩)
noncomputable def B204: Code:=(Tryz.f204.body).getD .skip
theorem give_thirdT(c:Cfg)(gv ba:Nat)(hd sn bk:Int)(A:Ar)(nx:Value)(hn:A.ws.length=A.n)(hs:0≤A.steps∧A.steps≤1000000000)(hh:0≤hd∧hd<A.n)(hc:c.Ok)(hk:0≤bk∧bk≤4294967295)(hb:0≤blockAt c bk∧blockAt c bk<A.n)(hw:0≤sn∧sn≤18446744073709551615)(hq:(A.ws.getD hd.toNat 0)=sn):
  Ctr Tryz.prog 204 #[vP gv,vP ba] [E31d76 gv c hd sn nx bk,E3504b ba A,E35fb1 A] (Ret (undef) [E31d76 gv c hd sn (.nilFunc) bk,E3504b ba (A.swapT hd (turnW sn bk)),E35fb1 (A.swapT hd (turnW sn bk))]):=by
 refine cB B204 23 Tryz.func204 ?_
 intro F
 refine gX [.e 0,.z [0,1] 0 [0,1]] (gQ gv (gS [.c [0,1],.c [1,1]] ?_))
 refine tC (some 18) (kV 0 [.ww,.ww,.ww,.ww,.ww,.ww,.ww,.e 0]) 8 [] [0,1,2] [0,18] Tryz.call193 (run_turnT c gv ba hd sn bk A (.func (.func 192) #[vP gv] #[]) oM oM oM oM oM oM oM oM) (.e gv .n) .n ?_
 rintro v post ⟨rfl,rfl⟩
 refine tN .n ?_
 exact gX [.e 0] (gQ gv (gJ [0,1,2] ⟨rfl,rfl⟩))
theorem run_turnF(c:Cfg)(gv ba:Nat)(hd sn bk:Int)(A:Ar)(nx:Value)(hn:A.ws.length=A.n)(hs:0≤A.steps∧A.steps≤1000000000)(hh:0≤hd∧hd<A.n)(hc:c.Ok)(hk:0≤bk∧bk≤4294967295)(hb:0≤blockAt c bk∧blockAt c bk<A.n)(hw:0≤sn∧sn≤18446744073709551615)(hq:(A.ws.getD hd.toNat 0)≠sn):
  Ctr Tryz.prog 193 #[vP gv,vP ba,vI bk] [E31d76 gv c hd sn nx bk,E3504b ba A,E35fb1 A] (Ret (.bool false) [E31d76 gv c hd sn nx bk,E3504b ba (A.swapF hd),E35fb1 (A.swapF hd)]):=by
 refine cB B193 23 Tryz.func193 ?_
 intro F
 refine gX [.z [0,1] 0 [0,1,2]] (gS [.c [0,1],.c [1,1]] ?_)
 refine tC (some 22) (kV 0 [.ww,.ww,.ww,.ww,.e 0,.ww,.ww,.ww,.e 0,.ww,.ww,.ww,.e 0,.ww,.q (vU (turnW sn bk))]) 15 (kV 16 [.ww]) [1,2] [6] Tryz.call185 (arena_SwapF ba A hd sn (turnW sn bk) oM hh oM oM) (.e gv (.e gv (.e gv .n))) (.c Tryz.call202 (qR [] (heads_Turn sn bk oM hk)) .n) ?_
 rintro v post ⟨rfl,rfl⟩
 refine tN .n ?_
 exact gX [] (gJ [0,1,2] ⟨rfl,rfl⟩)
theorem give_thirdF(c:Cfg)(gv ba:Nat)(hd sn bk:Int)(A:Ar)(nx:Value)(hn:A.ws.length=A.n)(hs:0≤A.steps∧A.steps≤1000000000)(hh:0≤hd∧hd<A.n)(hc:c.Ok)(hk:0≤bk∧bk≤4294967295)(hb:0≤blockAt c bk∧blockAt c bk<A.n)(hw:0≤sn∧sn≤18446744073709551615)(hq:(A.ws.getD hd.toNat 0)≠sn):
  Ctr Tryz.prog 204 #[vP gv,vP ba] [E31d76 gv c hd sn nx bk,E3504b ba A,E35fb1 A] (Ret (undef) [E31d76 gv c hd sn (.func (.func 192) #[vP gv] #[]) bk,E3504b ba (A.swapF hd),E35fb1 (A.swapF hd)]):=by
 refine cB B204 23 Tryz.func204 ?_
 intro F
 refine gX [.e 0,.z [0,1] 0 [0,1]] (gQ gv (gS [.c [0,1],.c [1,1]] ?_))
 refine tC (some 18) (kV 0 [.ww,.ww,.ww,.ww,.ww,.ww,.ww,.e 0]) 8 [] [0,1,2] [0,18] Tryz.call193 (run_turnF c gv ba hd sn bk A (.func (.func 192) #[vP gv] #[]) oM oM oM oM oM oM oM oM) (.e gv .n) .n ?_
 rintro v post ⟨rfl,rfl⟩
 refine tN .n ?_
 exact gX [] (gJ [0,1,2] ⟨rfl,rfl⟩)
noncomputable def B174: Code:=(Tryz.f174.body).getD .skip
theorem run_Step0(c:Cfg)(gv ba:Nat)(hd sn bk:Int)(A:Ar)(hn:A.ws.length=A.n)(hs:0≤A.steps∧A.steps≤1000000000)(hh:0≤hd∧hd<A.n)(hc:c.Ok)(hk:0≤bk∧bk≤4294967295)(hb:0≤blockAt c bk∧blockAt c bk<A.n)(hw:0≤sn∧sn≤18446744073709551615):
  Ctr Tryz.prog 174 #[vP gv,vP ba] [E31d76 gv c hd sn (.nilFunc) bk,E3504b ba A,E35fb1 A] (Ret (.bool true) [E31d76 gv c hd sn (.nilFunc) bk,E3504b ba A,E35fb1 A]):=by
 refine cB B174 16 Tryz.func174 ?_
 intro F
 refine gX [.z [0,0,1] 1 [0,1,5]] (gS [.o [0,0,1] 1,.c [1,0,1],.c [1,1]] ?_)
 refine gC (some 6) [0] Tryz.call158 (run_Done0 c gv hd sn bk) ?_
 refine gX [.z [0,1,1] 1 [14]] (gS [.o [0,1,1] 1,.c [1,1,1]] ?_)
 refine gC (some 15) [2] Tryz.call158 (run_Done0 c gv hd sn bk) ?_
 exact gX [] (gJ [2,0,1] ⟨rfl,rfl⟩)
theorem run_Step1(c:Cfg)(gv ba:Nat)(hd sn bk:Int)(A:Ar)(hn:A.ws.length=A.n)(hs:0≤A.steps∧A.steps≤1000000000)(hh:0≤hd∧hd<A.n)(hc:c.Ok)(hk:0≤bk∧bk≤4294967295)(hb:0≤blockAt c bk∧blockAt c bk<A.n)(hw:0≤sn∧sn≤18446744073709551615):
  Ctr Tryz.prog 174 #[vP gv,vP ba] [E31d76 gv c hd sn (.func (.func 192) #[vP gv] #[]) bk,E3504b ba A,E35fb1 A] (Ret (.bool false) [E31d76 gv c hd (A.ws.getD hd.toNat 0) (.func (.func 201) #[vP gv] #[]) bk,E3504b ba (A.load hd),E35fb1 (A.load hd)]):=by
 refine cB B174 16 Tryz.func174 ?_
 intro F
 refine gX [.z [0,0,1] 1 [0,1,5]] (gS [.o [0,0,1] 1,.c [1,0,1],.c [1,1]] ?_)
 refine gC (some 6) [0] Tryz.call158 (run_Done1 c gv hd sn bk) ?_
 refine gX [.e 2,.z [0,1,0,1] 5 [0,11,12]] (gQ gv (gS [.o [0,1,0,1] 5,.c [1,1]] ?_))
 refine gC (some 13) [2,0,1] Tryz.call192 (give_first c gv ba hd sn bk A (.func (.func 192) #[vP gv] #[]) oM oM oM) ?_
 refine gX [.z [0,1,1] 1 [14]] (gS [.o [0,1,1] 1,.c [1,1,1]] ?_)
 refine gC (some 15) [0] Tryz.call158 (run_Done2 c gv hd (A.ws.getD hd.toNat 0) bk) ?_
 exact gX [] (gJ [2,0,1] ⟨rfl,rfl⟩)
theorem run_Step2(c:Cfg)(gv ba:Nat)(hd sn bk:Int)(A:Ar)(hn:A.ws.length=A.n)(hs:0≤A.steps∧A.steps≤1000000000)(hh:0≤hd∧hd<A.n)(hc:c.Ok)(hk:0≤bk∧bk≤4294967295)(hb:0≤blockAt c bk∧blockAt c bk<A.n)(hw:0≤sn∧sn≤18446744073709551615):
  Ctr Tryz.prog 174 #[vP gv,vP ba] [E31d76 gv c hd sn (.func (.func 201) #[vP gv] #[]) bk,E3504b ba A,E35fb1 A] (Ret (.bool false) [E31d76 gv c hd sn (.func (.func 204) #[vP gv] #[]) bk,E3504b ba (A.store (blockAt c bk) (lo32 sn)),E35fb1 (A.store (blockAt c bk) (lo32 sn))]):=by
 refine cB B174 16 Tryz.func174 ?_
 intro F
 refine gX [.z [0,0,1] 1 [0,1,5]] (gS [.o [0,0,1] 1,.c [1,0,1],.c [1,1]] ?_)
 refine gC (some 6) [0] Tryz.call158 (run_Done2 c gv hd sn bk) ?_
 refine gX [.e 2,.z [0,1,0,1] 5 [0,11,12]] (gQ gv (gS [.o [0,1,0,1] 5,.c [1,1]] ?_))
 refine gC (some 13) [2,0,1] Tryz.call201 (give_second c gv ba hd sn bk A (.func (.func 201) #[vP gv] #[]) oM oM oM oM oM oM) ?_
 refine gX [.z [0,1,1] 1 [14]] (gS [.o [0,1,1] 1,.c [1,1,1]] ?_)
 refine gC (some 15) [0] Tryz.call158 (run_Done3 c gv hd sn bk) ?_
 exact gX [] (gJ [2,0,1] ⟨rfl,rfl⟩)
theorem run_Step3T(c:Cfg)(gv ba:Nat)(hd sn bk:Int)(A:Ar)(hn:A.ws.length=A.n)(hs:0≤A.steps∧A.steps≤1000000000)(hh:0≤hd∧hd<A.n)(hc:c.Ok)(hk:0≤bk∧bk≤4294967295)(hb:0≤blockAt c bk∧blockAt c bk<A.n)(hw:0≤sn∧sn≤18446744073709551615)(hq:(A.ws.getD hd.toNat 0)=sn):
  Ctr Tryz.prog 174 #[vP gv,vP ba] [E31d76 gv c hd sn (.func (.func 204) #[vP gv] #[]) bk,E3504b ba A,E35fb1 A] (Ret (.bool true) [E31d76 gv c hd sn (.nilFunc) bk,E3504b ba (A.swapT hd (turnW sn bk)),E35fb1 (A.swapT hd (turnW sn bk))]):=by
 refine cB B174 16 Tryz.func174 ?_
 intro F
 refine gX [.z [0,0,1] 1 [0,1,5]] (gS [.o [0,0,1] 1,.c [1,0,1],.c [1,1]] ?_)
 refine gC (some 6) [0] Tryz.call158 (run_Done3 c gv hd sn bk) ?_
 refine gX [.e 2,.z [0,1,0,1] 5 [0,11,12]] (gQ gv (gS [.o [0,1,0,1] 5,.c [1,1]] ?_))
 refine gC (some 13) [2,0,1] Tryz.call204 (give_thirdT c gv ba hd sn bk A (.func (.func 204) #[vP gv] #[]) oM oM oM oM oM oM oM oM) ?_
 refine gX [.z [0,1,1] 1 [14]] (gS [.o [0,1,1] 1,.c [1,1,1]] ?_)
 refine gC (some 15) [0] Tryz.call158 (run_Done0 c gv hd sn bk) ?_
 exact gX [] (gJ [2,0,1] ⟨rfl,rfl⟩)
theorem run_Step3F(c:Cfg)(gv ba:Nat)(hd sn bk:Int)(A:Ar)(hn:A.ws.length=A.n)(hs:0≤A.steps∧A.steps≤1000000000)(hh:0≤hd∧hd<A.n)(hc:c.Ok)(hk:0≤bk∧bk≤4294967295)(hb:0≤blockAt c bk∧blockAt c bk<A.n)(hw:0≤sn∧sn≤18446744073709551615)(hq:(A.ws.getD hd.toNat 0)≠sn):
  Ctr Tryz.prog 174 #[vP gv,vP ba] [E31d76 gv c hd sn (.func (.func 204) #[vP gv] #[]) bk,E3504b ba A,E35fb1 A] (Ret (.bool false) [E31d76 gv c hd sn (.func (.func 192) #[vP gv] #[]) bk,E3504b ba (A.swapF hd),E35fb1 (A.swapF hd)]):=by
 refine cB B174 16 Tryz.func174 ?_
 intro F
 refine gX [.z [0,0,1] 1 [0,1,5]] (gS [.o [0,0,1] 1,.c [1,0,1],.c [1,1]] ?_)
 refine gC (some 6) [0] Tryz.call158 (run_Done3 c gv hd sn bk) ?_
 refine gX [.e 2,.z [0,1,0,1] 5 [0,11,12]] (gQ gv (gS [.o [0,1,0,1] 5,.c [1,1]] ?_))
 refine gC (some 13) [2,0,1] Tryz.call204 (give_thirdF c gv ba hd sn bk A (.func (.func 204) #[vP gv] #[]) oM oM oM oM oM oM oM oM) ?_
 refine gX [.z [0,1,1] 1 [14]] (gS [.o [0,1,1] 1,.c [1,1,1]] ?_)
 refine gC (some 15) [0] Tryz.call158 (run_Done1 c gv hd sn bk) ?_
 exact gX [] (gJ [2,0,1] ⟨rfl,rfl⟩)
noncomputable def B139: Code:=(Tryz.f139.body).getD .skip
theorem gstep0(c:Cfg)(gv ba:Nat)(hd sn bk:Int)(A:Ar)(hn:A.ws.length=A.n)(hs:0≤A.steps∧A.steps≤1000000000)(hh:0≤hd∧hd<A.n)(hc:c.Ok)(hk:0≤bk∧bk≤4294967295)(hb:0≤blockAt c bk∧blockAt c bk<A.n)(hw:0≤sn∧sn≤18446744073709551615):
  Ctr Tryz.prog 139 #[vP gv,vP ba] [E31d76 gv c hd sn (.nilFunc) bk,E3504b ba A,E35fb1 A] (Ret (.bool true) [E31d76 gv c hd sn (.nilFunc) bk,E3504b ba A,E35fb1 A]):=by
 refine cB B139 14 Tryz.func139 ?_
 intro F
 refine gX [.z [0,1] 7 [7,10,11]] (gS [.o [0,1] 7,.c [1,1]] ?_)
 refine gC (some 12) [0,1,2] Tryz.call174 (run_Step0 c gv ba hd sn bk A oM oM oM oM oM oM oM) ?_
 exact gX [] (gJ [0,1,2] ⟨rfl,rfl⟩)
theorem gstep1(c:Cfg)(gv ba:Nat)(hd sn bk:Int)(A:Ar)(hn:A.ws.length=A.n)(hs:0≤A.steps∧A.steps≤1000000000)(hh:0≤hd∧hd<A.n)(hc:c.Ok)(hk:0≤bk∧bk≤4294967295)(hb:0≤blockAt c bk∧blockAt c bk<A.n)(hw:0≤sn∧sn≤18446744073709551615):
  Ctr Tryz.prog 139 #[vP gv,vP ba] [E31d76 gv c hd sn (.func (.func 192) #[vP gv] #[]) bk,E3504b ba A,E35fb1 A] (Ret (.bool false) [E31d76 gv c hd (A.ws.getD hd.toNat 0) (.func (.func 201) #[vP gv] #[]) bk,E3504b ba (A.load hd),E35fb1 (A.load hd)]):=by
 refine cB B139 14 Tryz.func139 ?_
 intro F
 refine gX [.z [0,1] 7 [7,10,11]] (gS [.o [0,1] 7,.c [1,1]] ?_)
 refine gC (some 12) [0,1,2] Tryz.call174 (run_Step1 c gv ba hd sn bk A oM oM oM oM oM oM oM) ?_
 exact gX [] (gJ [0,1,2] ⟨rfl,rfl⟩)
theorem gstep2(c:Cfg)(gv ba:Nat)(hd sn bk:Int)(A:Ar)(hn:A.ws.length=A.n)(hs:0≤A.steps∧A.steps≤1000000000)(hh:0≤hd∧hd<A.n)(hc:c.Ok)(hk:0≤bk∧bk≤4294967295)(hb:0≤blockAt c bk∧blockAt c bk<A.n)(hw:0≤sn∧sn≤18446744073709551615):
  Ctr Tryz.prog 139 #[vP gv,vP ba] [E31d76 gv c hd sn (.func (.func 201) #[vP gv] #[]) bk,E3504b ba A,E35fb1 A] (Ret (.bool false) [E31d76 gv c hd sn (.func (.func 204) #[vP gv] #[]) bk,E3504b ba (A.store (blockAt c bk) (lo32 sn)),E35fb1 (A.store (blockAt c bk) (lo32 sn))]):=by
 refine cB B139 14 Tryz.func139 ?_
 intro F
 refine gX [.z [0,1] 7 [7,10,11]] (gS [.o [0,1] 7,.c [1,1]] ?_)
 refine gC (some 12) [0,1,2] Tryz.call174 (run_Step2 c gv ba hd sn bk A oM oM oM oM oM oM oM) ?_
 exact gX [] (gJ [0,1,2] ⟨rfl,rfl⟩)
theorem gstep3T(c:Cfg)(gv ba:Nat)(hd sn bk:Int)(A:Ar)(hn:A.ws.length=A.n)(hs:0≤A.steps∧A.steps≤1000000000)(hh:0≤hd∧hd<A.n)(hc:c.Ok)(hk:0≤bk∧bk≤4294967295)(hb:0≤blockAt c bk∧blockAt c bk<A.n)(hw:0≤sn∧sn≤18446744073709551615)(hq:(A.ws.getD hd.toNat 0)=sn):
  Ctr Tryz.prog 139 #[vP gv,vP ba] [E31d76 gv c hd sn (.func (.func 204) #[vP gv] #[]) bk,E3504b ba A,E35fb1 A] (Ret (.bool true) [E31d76 gv c hd sn (.nilFunc) bk,E3504b ba (A.swapT hd (turnW sn bk)),E35fb1 (A.swapT hd (turnW sn bk))]):=by
 refine cB B139 14 Tryz.func139 ?_
 intro F
 refine gX [.z [0,1] 7 [7,10,11]] (gS [.o [0,1] 7,.c [1,1]] ?_)
 refine gC (some 12) [0,1,2] Tryz.call174 (run_Step3T c gv ba hd sn bk A oM oM oM oM oM oM oM oM) ?_
 exact gX [] (gJ [0,1,2] ⟨rfl,rfl⟩)
theorem gstep3F(c:Cfg)(gv ba:Nat)(hd sn bk:Int)(A:Ar)(hn:A.ws.length=A.n)(hs:0≤A.steps∧A.steps≤1000000000)(hh:0≤hd∧hd<A.n)(hc:c.Ok)(hk:0≤bk∧bk≤4294967295)(hb:0≤blockAt c bk∧blockAt c bk<A.n)(hw:0≤sn∧sn≤18446744073709551615)(hq:(A.ws.getD hd.toNat 0)≠sn):
  Ctr Tryz.prog 139 #[vP gv,vP ba] [E31d76 gv c hd sn (.func (.func 204) #[vP gv] #[]) bk,E3504b ba A,E35fb1 A] (Ret (.bool false) [E31d76 gv c hd sn (.func (.func 192) #[vP gv] #[]) bk,E3504b ba (A.swapF hd),E35fb1 (A.swapF hd)]):=by
 refine cB B139 14 Tryz.func139 ?_
 intro F
 refine gX [.z [0,1] 7 [7,10,11]] (gS [.o [0,1] 7,.c [1,1]] ?_)
 refine gC (some 12) [0,1,2] Tryz.call174 (run_Step3F c gv ba hd sn bk A oM oM oM oM oM oM oM oM) ?_
 exact gX [] (gJ [0,1,2] ⟨rfl,rfl⟩)
theorem give_Step(c:Cfg)(gv ba:Nat)(G:Gv)(A:Ar)(hn:A.ws.length=A.n)(hs:0≤A.steps∧A.steps≤1000000000)(hc:c.Ok)(hg:Gv.Ok c A.n G):
  Ctr Tryz.prog 139 #[vP gv,vP ba] [E00526 gv c G (nxV gv G.ph),E3504b ba A,E35fb1 A] (Ret (.bool ((G.step c A).1.ph==0)) [E00526 gv c ((G.step c A).1) (nxV gv ((G.step c A).1).ph),E3504b ba ((G.step c A).2),E35fb1 ((G.step c A).2)]):=by
 obtain⟨hd,sn,bk,ph⟩:=G
 obtain⟨hph,hh,hw,hk,hb⟩:=hg
 simp only at hph hh hw hk hb
 match ph,hph with
 | 0,_=>exact gstep0 c gv ba hd sn bk A hn hs hh hc hk hb hw
 | 1,_=>exact gstep1 c gv ba hd sn bk A hn hs hh hc hk hb hw
 | 2,_=>exact gstep2 c gv ba hd sn bk A hn hs hh hc hk hb hw
 | 3,_=>
  by_cases hq:A.ws.getD hd.toNat 0=sn
  ·have e:Gv.step c ⟨hd,sn,bk,3⟩ A=(⟨hd,sn,bk,0⟩,A.swapT hd (turnW sn bk)):=by simp only [Gv.step,if_pos hq]
   rw [e]; exact gstep3T c gv ba hd sn bk A hn hs hh hc hk hb hw hq
  ·have e:Gv.step c ⟨hd,sn,bk,3⟩ A=(⟨hd,sn,bk,1⟩,A.swapF hd):=by simp only [Gv.step,if_neg hq]
   rw [e]; exact gstep3F c gv ba hd sn bk A hn hs hh hc hk hb hw hq
 | n+4,h=>omega
end Go.Proofs.YtpcaijopodhdgaaGreatDoor
namespace Go.Proofs.YtpcaijopodhdgaaGreatDoor
open Go.Sx
abbrev Ee1326(x0:Option Addr)(x1:Nat)(x2:List Int): Ent:=.sl x0 x1 (encI .i64) 0 1 x2 3
abbrev q3_0: List Nat:=[1,0,0,1,1,0,0,1,0,1,1,1,1]
abbrev q3_1: List Nat:=[1,1,1,0,0,1,0,1,1,1,1]
abbrev q3_2: List Nat:=[0,1,0,1,1,1,1]
noncomputable def B77: Code:=(Tryz.f77.body).getD .skip
theorem clone_some_i64(ad:Addr)(c:Nat)(xs:List Int)(hl:xs.length≤1000000):
  Ctr Tryz.prog 77 #[.slice (some ad) xs.length c] [Ee1326 (some ad) c xs] (fun v L => ∃(a2:Option Addr) (c2:Nat),v = .slice a2 xs.length c2∧L=[Ee1326 (some ad) c xs,Ee1326 a2 c2 xs]):=by
 refine cB B77 8 Tryz.func77 ?_
 intro F
 refine gX [.z [0,1,1] 2 [5,6]] (gN fun b_1=>gW (ks:=[.o [0,1,1] 2,.c [1,1,1]]) [(5,.slice (some ⟨b_1,0,none⟩) 0 0),(6,.slice (some ad) xs.length c)] [Ee1326 (some ad) c xs,.pts b_1 [] 3] ?_)
 refine go_view (view_empty 1 (b:=b_1) (encI .i64) 0 1 3 (sizedI _) kR) ?_
 refine go_by (some 7) (appO Tryz.prog _) (some (.slice (some ⟨b_1,0,none⟩) ([]).length 0,.slice (some ad) xs.length c,(3,1,8))) (R_append 1 (a:=(some ⟨b_1,0,none⟩)) (c:=0) (enc:=encI .i64) (d:=0) (sz:=1) (xs:=[]) (te:=3) kR (.slice (some ad) xs.length c) xs (src_sl (i:=0) (d:=0) (sz:=1) (t:=3) kR) (oneI _) 8 oW oW) kR ?_
 rintro v L2 ⟨a_2,c_3,rfl,rfl⟩
 exact gX [] (gJ [0,1] ⟨a_2,c_3,rfl,rfl⟩)
theorem clone_nil_i64:
  Ctr Tryz.prog 77 #[.slice none 0 0] [] (Ret (.slice none 0 0) []):=by
 refine cB B77 8 Tryz.func77 ?_
 intro F
 exact gX [] (gR (.slice none 0 0) [] ⟨rfl,rfl⟩)
theorem clone_i64(a:Option Addr)(c:Nat)(xs:List Int)(hl:xs.length≤1000000):
  Ctr Tryz.prog 77 #[.slice a xs.length c] [Ee1326 a c xs] (fun v L => ∃(a2:Option Addr) (c2:Nat),v = .slice a2 xs.length c2∧L=[Ee1326 a c xs,Ee1326 a2 c2 xs]):=by
 cases a with
 | some ad=>exact clone_some_i64 ad c xs hl
 | none=>
  refine ctr_sl_nil (i:=0) rfl ?_
  rintro rfl rfl
  exact ctr_post (ctr_pre [] kR clone_nil_i64) fun v L h=>⟨_,(view_nil2 _ _ _ _ (sizedI _) _ _ _ _ (sizedI _) h.2),none,0,h.1,rfl⟩
noncomputable def B47: Code:=(Tryz.f47.body).getD .skip
theorem clone_some_u64(ad:Addr)(c:Nat)(xs:List Int)(hl:xs.length≤1000000):
  Ctr Tryz.prog 47 #[.slice (some ad) xs.length c] [E54ea0 (some ad) c xs] (fun v L => ∃(a2:Option Addr) (c2:Nat),v = .slice a2 xs.length c2∧L=[E54ea0 (some ad) c xs,E54ea0 a2 c2 xs]):=by
 refine cB B47 8 Tryz.func47 ?_
 intro F
 refine gX [.z [0,1,1] 2 [5,6]] (gN fun b_1=>gW (ks:=[.o [0,1,1] 2,.c [1,1,1]]) [(5,.slice (some ⟨b_1,0,none⟩) 0 0),(6,.slice (some ad) xs.length c)] [E54ea0 (some ad) c xs,.pts b_1 [] 60] ?_)
 refine go_view (view_empty 1 (b:=b_1) (encI .u64) 0 1 60 (sizedI _) kR) ?_
 refine go_by (some 7) (appO Tryz.prog _) (some (.slice (some ⟨b_1,0,none⟩) ([]).length 0,.slice (some ad) xs.length c,(60,1,8))) (R_append 1 (a:=(some ⟨b_1,0,none⟩)) (c:=0) (enc:=encI .u64) (d:=0) (sz:=1) (xs:=[]) (te:=60) kR (.slice (some ad) xs.length c) xs (src_sl (i:=0) (d:=0) (sz:=1) (t:=60) kR) (oneI _) 8 oW oW) kR ?_
 rintro v L2 ⟨a_2,c_3,rfl,rfl⟩
 exact gX [] (gJ [0,1] ⟨a_2,c_3,rfl,rfl⟩)
theorem clone_nil_u64:
  Ctr Tryz.prog 47 #[.slice none 0 0] [] (Ret (.slice none 0 0) []):=by
 refine cB B47 8 Tryz.func47 ?_
 intro F
 exact gX [] (gR (.slice none 0 0) [] ⟨rfl,rfl⟩)
theorem clone_u64(a:Option Addr)(c:Nat)(xs:List Int)(hl:xs.length≤1000000):
  Ctr Tryz.prog 47 #[.slice a xs.length c] [E54ea0 a c xs] (fun v L => ∃(a2:Option Addr) (c2:Nat),v = .slice a2 xs.length c2∧L=[E54ea0 a c xs,E54ea0 a2 c2 xs]):=by
 cases a with
 | some ad=>exact clone_some_u64 ad c xs hl
 | none=>
  refine ctr_sl_nil (i:=0) rfl ?_
  rintro rfl rfl
  exact ctr_post (ctr_pre [] kR clone_nil_u64) fun v L h=>⟨_,(view_nil2 _ _ _ _ (sizedI _) _ _ _ _ (sizedI _) h.2),none,0,h.1,rfl⟩
theorem clone_n(a:Option Addr)(c n:Nat)(xs:List Int)(hn:xs.length=n)(hl:xs.length≤1000000):
  Ctr Tryz.prog 47 #[.slice a n c] [E54ea0 a c xs] (fun v L => ∃(a2:Option Addr) (c2:Nat),v = .slice a2 xs.length c2∧L=[E54ea0 a c xs,E54ea0 a2 c2 xs]):=by
 subst hn; exact clone_u64 a c xs hl
noncomputable def B175: Code:=(Tryz.f175.body).getD .skip
theorem grow(n:Int)(hn:0≤n∧n≤1000000):
  Ctr Tryz.prog 175 #[.slice none 0 0,vI n] [] (fun v L => ∃(a2:Option Addr) (c2:Nat),v = .slice a2 0 c2∧L=[Ee1326 a2 c2 []]):=by
 refine cB B175 27 Tryz.func175 ?_
 intro F
 refine gX [.sp [6] [.dead] [.w,.n,.sp [16] [.z [0,1,1,0,1,1] 5 [0,20,21]] []]] (gF (decide (n<0)) (by simp; omega) (gO (InK .i64 (n-0)) (by simp only [InK] at *; omega) (gB (decide ((n-0)>0)) (fun h_1 => ?_) (fun h_1 => ?_))))
 ·replace h_1:=decT h_1
  refine gS [.o [0,1,1,0,1,1] 5,.c [1,1,1]] ?_
  refine go_by (some 22) (appZ Tryz.prog _) (some (.slice none 0 0,vI (n-0),(3,1,8),some ((encI .i64) (0:Int)))) (R_appZ (encI .i64) 0 (0:Int) (sizedI _) (n-0) 8 (by omega) (by omega) (by omega)) kR ?_
  rintro v L2 ⟨a_2,c_3,rfl,rfl⟩
  refine gX [.z [0,1,1,0,1,1] 8 [22,24]] (gS [.o [0,1,1,0,1,1] 8,.c [1,1,1]] ?_)
  refine go_by (some 25) (cutO Tryz.prog _) (some (.slice a_2 ((List.replicate (n-0).toNat (0:Int))).length c_3,none,(some (vI 0)),1)) (R_cut 0 (a:=a_2) (c:=c_3) (enc:=encI .i64) (d:=0) (sz:=1) (xs:=(List.replicate (n-0).toNat (0:Int))) (te:=3) kR none (some (vI 0)) ⟨oW,oW⟩ trivial) kR ?_
  rintro v L2 ⟨a_4,c_5,rfl,rfl⟩
  exact gX [] (gJ [0] ⟨a_4,c_5,rfl,rfl⟩)
 ·replace h_1:=decF h_1
  refine gW0 (.slice none 0 0) [] ?_
  refine ret_view (view_nil (encI .i64) 0 1 3 (sizedI _)) ?_
  exact rK [0] ⟨none,0,rfl,rfl⟩
noncomputable def B140: Code:=(Tryz.f140.body).getD .skip
theorem concat(b:Nat)(a1 a3:Option Addr)(c1 c3:Nat)(xs ys:List Int)(h1:xs.length≤1000)(h2:ys.length≤1000):
  Ctr Tryz.prog 140 #[.slice (some ⟨b,0,none⟩) 2 2] [.pts b [.slice a1 xs.length c1,.slice a3 ys.length c3] 59,Ee1326 a1 c1 xs,Ee1326 a3 c3 ys] (fun v L => ∃(a2:Option Addr) (c2:Nat),v = .slice a2 ((xs++ys).length) c2∧L=[Ee1326 a1 c1 xs,Ee1326 a3 c3 ys,Ee1326 a2 c2 (xs++ys)]):=by
 refine cB B140 36 Tryz.func140 ?_
 intro F
 refine gX [.u,.w,.e 0,.n,.sp [20] [.dead] [.w,.u,.w,.e 0,.n,.sp [20] [.dead] [.w,.u,.z [0,1,1,1] 1 [0,23]]]] (gQ b (gO (InK .i64 (0+((xs.length:Nat):Int))) (by simp only [InK] at *; omega) (gF (decide ((0+((xs.length:Nat):Int))<0)) (by first | (simp; done) | (simp; omega)) (gQ b (gO (InK .i64 ((0+((xs.length:Nat):Int))+((ys.length:Nat):Int))) (by simp only [InK] at *; omega) (gF (decide (((0+((xs.length:Nat):Int))+((ys.length:Nat):Int))<0)) (by first | (simp; done) | (simp; omega)) (gS [.o [0,1,1,1] 1,.c [1,1,1,1]] ?_)))))))
 refine go_call (some 24) [] Tryz.call175 (grow ((0+((xs.length:Nat):Int))+((ys.length:Nat):Int)) oM) kR ?_
 rintro v post ⟨a2_1,c2_2,rfl,rfl⟩
 refine gX [.u,.w,.e 0,.z q3_0 2 [25,26,27,31,32]] (gQ b (gS [.o q3_0 2,.b 3,.c q3_1,.r q3_2,.b 2,.c [1,1,1,1,1]] ?_))
 refine go_by (some 33) (appO Tryz.prog _) (some (.slice a2_1 ([]).length c2_2,.slice a1 xs.length c1,(3,1,8))) (R_append 3 (a:=a2_1) (c:=c2_2) (enc:=encI .i64) (d:=0) (sz:=1) (xs:=[]) (te:=3) kR (.slice a1 xs.length c1) xs (src_sl (i:=1) (d:=0) (sz:=1) (t:=3) kR) (oneI _) 8 oW oW) kR ?_
 rintro v L2 ⟨a_3,c_4,rfl,rfl⟩
 refine gX [.w,.u,.w,.e 0,.z q3_0 2 [25,26,27,31,32]] (gQ b (gS [.o q3_0 2,.b 3,.c q3_1,.r q3_2,.b 2,.c [1,1,1,1,1]] ?_))
 refine go_by (some 33) (appO Tryz.prog _) (some (.slice a_3 (([]++xs)).length c_4,.slice a3 ys.length c3,(3,1,8))) (R_append 3 (a:=a_3) (c:=c_4) (enc:=encI .i64) (d:=0) (sz:=1) (xs:=([]++xs)) (te:=3) kR (.slice a3 ys.length c3) ys (src_sl (i:=2) (d:=0) (sz:=1) (t:=3) kR) (oneI _) 8 oW oW) kR ?_
 rintro v L2 ⟨a_5,c_6,rfl,rfl⟩
 exact gX [.w,.u] (gJ [1,2,3] ⟨a_5,c_6,rfl,rfl⟩)
end Go.Proofs.YtpcaijopodhdgaaGreatDoor
namespace Go.Proofs.YtpcaijopodhdgaaGreatDoor
open Go.Sx
abbrev E3dfcb(x0:Nat)(c1:Cfg)(x2:Int)(x3:Nat)(x4:Option Addr)(x5:Nat)(x6:Nat)(x7:Option Addr)(x8:Nat)(x9:Nat)(x10:Option Addr)(x11:Nat)(x12:Nat)(x13:Value): Ent:=.pts x0 [.int .i64 c1.topics,.int .i64 c1.small,.int .i64 c1.slots,.int .i64 c1.clients,.int .i64 c1.s0,.int .i64 c1.n0,.int .i64 c1.s1,.int .i64 c1.n1,.int .i64 c1.retry,.int .i64 x2,.map (some x3),.slice x4 x5 x6,.slice x7 x8 x9,.slice x10 x11 x12,x13] 149
abbrev E178c5(x0:Nat)(c1:Cfg)(x2:Int)(x3:Nat)(x4:Option Addr)(x5:Nat)(x6:Nat)(x7:Option Addr)(x8:Nat)(x9:Nat)(x10:Option Addr)(x11:Nat)(x12:Nat): Ent:=.pts x0 [.int .i64 c1.topics,.int .i64 c1.small,.int .i64 c1.slots,.int .i64 c1.clients,.int .i64 c1.s0,.int .i64 c1.n0,.int .i64 c1.s1,.int .i64 c1.n1,.int .i64 c1.retry,.int .i64 x2,.map (some x3),.slice x4 x5 x6,.slice x7 x8 x9,.slice x10 x11 x12,.pointer none] 149
abbrev q4_0: List Nat:=[0,0,1,0,1,0,0,1]
abbrev q4_1: List Nat:=[1,1,0,1,0,0,1]
abbrev q4_2: List Nat:=[0,0,1,0,1,0,1,0,0,1]
/-- where a scan's rows lie -/
structure ScH where
 m:Nat
 al:Option Addr
 ak:Option Addr
 ag:Option Addr
 cl:Nat
 ck:Nat
 cg:Nat
 gp:Nat
noncomputable def gpV(gp:Nat): Option Gv→Value
 | none=>.pointer none
 | some _=>.pointer (some ⟨gp,0,none⟩)
noncomputable def givL(c:Cfg)(gp:Nat): Option Gv→List Ent
 | none=>[]
 | some G=>[E00526 gp c G (nxV gp G.ph)]
noncomputable def scanL(s:Nat)(c:Cfg)(S:Sc)(h:ScH): List Ent:=
 [E3dfcb s c S.slot h.m h.al S.left.length h.cl h.ak S.kept.length h.ck h.ag S.given.length h.cg (gpV h.gp S.give),.res (IMap h.m .i64 (Value.int .i64) S.named),Ee1326 h.al h.cl S.left,Ee1326 h.ak h.ck S.kept,Ee1326 h.ag h.cg S.given]++givL c h.gp S.give
noncomputable def ScanR(s:Nat)(c:Cfg)(S:Sc): Res:=Box (fun _:ScH=>True) (scanL s c S)
structure NxI where
 kept:List Int
 left:List Int
 ak:Option Addr
 al:Option Addr
 ck:Nat
 cl:Nat
noncomputable def B173: Code:=(Tryz.f173.body).getD .skip
theorem new_Give(c:Cfg)(bk:Int)(hc:c.Ok)(h0:0≤clsOf c bk):
  Ctr Tryz.prog 173 #[cfgV c,vI bk] [] (fun v L => ∃(gv:Nat),v=vP gv∧L=[E31d76 gv c (3+clsOf c bk) 0 (.func (.func 192) #[vP gv] #[]) bk]):=by
 refine cB B173 26 Tryz.func173 ?_
 intro F
 refine gX [.e 0,.z [0,1] 2 [1,2,7,8]] (gN fun b_1=>gQ b_1 (gS [.o [0,1] 2,.c [1,1]] ?_))
 refine gC (some 9) [] Tryz.call78 (plan_Class c bk oM (by have:=clsOf_ok h0; simp only [Cfg.Ok,InK] at *; omega)) ?_
 refine gX [.sp [11] [.dead] [.z [0,1,1,1] 0 [1,2,5]]] (gF (decide ((clsOf c bk)<0)) (by simp; omega) (gS [.c [0,1,1,1],.c [1,1,1,1]] ?_))
 refine tO (kV 0 [.e 0,.ww,.q (vI (3+(clsOf c bk))),.ww,.ww,.ww]) 6 (kV 7 [.ww]) .w [6] (.e b_1 .n) (.c Tryz.call103 (qR [] (plan_Head (clsOf c bk) ⟨h0,clsOf_le c bk⟩)) .n) (sN fun b_2=>(sV ?_))
 refine tN .n ?_
 exact gX [.e 1] (gQ b_2 (gJ [1] ⟨b_2,rfl,rfl⟩))
noncomputable def B138: Code:=(Tryz.f138.body).getD .skip
theorem scan_next(c:Cfg)(s m:Nat)(sl:Int)(named:Int→Option Int)(left kept given:List Int)(al ak ag:Option Addr)(cl ck cg:Nat)(gp:Value)(hc:c.Ok)(hl:kept.length+left.length≤100)(hb:∀b∈left,0≤clsOf c b):
  Ctr Tryz.prog 138 #[vP s] [E3dfcb s c sl m al left.length cl ak kept.length ck ag given.length cg gp,.res (IMap m .i64 (Value.int .i64) named),Ee1326 al cl left,Ee1326 ak ck kept,Ee1326 ag cg given] (Ret (undef) [.res (ScanR s c (Sc.next c (⟨sl,named,left,kept,given,none⟩:Sc)))]):=by
 refine cB B138 59 Tryz.func138 ?_
 intro F
 refine gX [.e 0,.z [0,1] 0 [0]] (gQ s (gS [.c [0,1],.b 0] ?_))
 refine go_loop (ι := NxI) (fun i=>[(0,vP s)]) (fun i=>[E178c5 s c sl m i.al i.left.length i.cl i.ak i.kept.length i.ck ag given.length cg,.res (IMap m .i64 (Value.int .i64) named),Ee1326 i.al i.cl i.left,Ee1326 i.ak i.ck i.kept,Ee1326 ag cg given]) (fun i=>nextL named i.kept i.left=nextL named kept left∧i.kept.length+i.left.length≤100∧∀b∈i.left,0≤clsOf c b) (fun i=>i.left.length) ⟨kept,left,ak,al,ck,cl⟩ [0] [0,1,2,3,4] kR kR kR kR ⟨rfl,hl,hb⟩ ?_
 intro i J_1 hIJ_1 hJ_1
 have hx:=hIJ_1
 refine gX [.e 0,.sp [12,11] [.e 0,.e 0,.s 2,.j 2 0,.e 0,.z q4_0 5 [0,2,28,29]] []] (gQ s (gQ (decide (((i.left.length:Nat):Int)>0)) (gB (decide (((i.left.length:Nat):Int)>0)) (fun h_2 => ?_) (fun h_2 => ?_))))
 ·replace h_2:=decT h_2
  refine gQ s (gQ s (gO (i.al=i.al∧i.left.length=i.left.length) ⟨rfl,(by first | rfl | omega | (simp; done) | (simp; omega))⟩ (gO ((0:Int)≤0∧0<((i.left.length:Nat):Int)) oW (gQ (slAt i.al 0 1) (gO (0<i.left.length) oW (gQ s (gS [.o q4_0 5,.c [1,0,1,0,1,0,0,1],.c q4_1,.b 1,.j J_1,.b 0] ?_)))))))
  refine go_by (some 30) (getO Tryz.prog _) (some (.map (some m),vI (i.left.getD 0 0),false,.i64,some (Value.int .i64 0))) (R_get 1 (enc:=Value.int .i64) (m:=named) kR (i.left.getD 0 0) false 0) kR ?_
  rintro v L2 ⟨rfl,rfl⟩
  refine gX [.sp [31] [.e 0,.z q4_2 6 [32,36,37]] [.z q4_1 0 [0,2]]] (gB (((named (i.left.getD 0 0)).getD 0)==0) (fun h_3 => ?_) (fun h_3 => ?_))
  ·replace h_3:=beqT h_3
   refine gQ s (gS [.o q4_2 6,.c [1,0,1,0,1,0,1,0,0,1],.c q4_1,.b 1,.j J_1,.b 0] ?_)
   refine go_call (some 38) [] Tryz.call173 (new_Give c (i.left.getD 0 0) oM (hx.2.2 _ (by rw [List.getD_eq_getElem?_getD,List.getElem?_eq_getElem (by omega)]; exact List.getElem_mem _))) kR ?_
   rintro v post ⟨gv_4,rfl,rfl⟩
   refine gX [.e 0] (gQ s (gW0 (undef) [E3dfcb s c sl m i.al i.left.length i.cl i.ak i.kept.length i.ck ag given.length cg (vP gv_4),.res (IMap m .i64 (Value.int .i64) named),Ee1326 i.al i.cl i.left,Ee1326 i.ak i.ck i.kept,Ee1326 ag cg given,E31d76 gv_4 c (3+clsOf c (i.left.getD 0 0)) 0 (.func (.func 192) #[vP gv_4] #[]) (i.left.getD 0 0)] ?_))
   refine ret_view (L':=[.res (ScanR s c (⟨sl,named,i.left,i.kept,given,(some (newGv c (i.left.getD 0 0)))⟩:Sc))]) (vK (fun _:ScH=>True) (scanL s c (⟨sl,named,i.left,i.kept,given,(some (newGv c (i.left.getD 0 0)))⟩:Sc)) (⟨m,i.al,i.ak,ag,i.cl,i.ck,cg,gv_4⟩:ScH) [0,1,2,3,4,5] trivial) ?_
   exact ret_ok (post:=[.res (ScanR s c (⟨sl,named,i.left,i.kept,given,(some (newGv c (i.left.getD 0 0)))⟩:Sc))]) [0] kR ⟨rfl,(by rw [nextL_some hx.1 (by omega) (by assumption) sl given none c])⟩
  ·replace h_3:=beqF h_3
   refine gS [.c q4_1,.b 1,.j J_1,.b 0] ?_
   refine zG ?_
   refine zN [0,1,2,3,4,5,6,9,10,11,12,13] (kV 0 [.w,.w,.w,.w,.w,.e 0,.w]++kV 9 [.w,.w,.w,.e 0,.cut (.slice (cutA i.al i.cl 1 1) ((i.left.drop 1).length) (i.cl-1))]) [0,2,41,42,43,44,45,46,47,50,51,52,53,54] [7] (.e s (.e s (.p (LawQ Tryz.prog F [E178c5 s c sl m i.al i.left.length i.cl i.ak i.kept.length i.ck ag given.length cg,.res (IMap m .i64 (Value.int .i64) named),Ee1326 i.al i.cl i.left,Ee1326 i.ak i.ck i.kept,Ee1326 ag cg given] (.slice (cutA i.al i.cl 1 1) ((i.left.drop 1).length) (i.cl-1)) cutO (.slice i.al (i.left).length i.cl,some (vI 1),none,1)) (fun _=>(R_cutV 2 (a:=i.al) (c:=i.cl) (enc:=encI .i64) (d:=0) (sz:=1) (xs:=i.left) (te:=3) kR .i64 1 ⟨oW,oW⟩)) .n))) ⟨?_,trivial⟩
   refine zX .w (sN fun b_7_1=>(sV ?_))
   refine zN [] (kV 0 [.w,.w,.w,.w,.w,.e 0]++kV 9 [.w,.w,.w,.e 0,.cut (.slice (cutA i.al i.cl 1 1) ((i.left.drop 1).length) (i.cl-1))]) [48,0,41,42,43,44,45,46,50,51,52,53,54] [8] (.e s (.e s (.p (LawQ Tryz.prog F [E178c5 s c sl m i.al i.left.length i.cl i.ak i.kept.length i.ck ag given.length cg,.res (IMap m .i64 (Value.int .i64) named),Ee1326 i.al i.cl i.left,Ee1326 i.ak i.ck i.kept,Ee1326 ag cg given,.pts b_7_1 [vI (i.left.getD 0 0)] 3] (.slice (cutA i.al i.cl 1 1) ((i.left.drop 1).length) (i.cl-1)) cutO (.slice i.al (i.left).length i.cl,some (vI 1),none,1)) (fun _=>(R_cutV 2 (a:=i.al) (c:=i.cl) (enc:=encI .i64) (d:=0) (sz:=1) (xs:=i.left) (te:=3) kR .i64 1 ⟨oW,oW⟩)) .n))) ⟨?_,trivial⟩
   refine zB (some 49) (appO Tryz.prog _) (some (.slice i.ak (i.kept).length i.ck,.slice (some ⟨b_7_1,0,none⟩) 1 1,(3,1,8))) (R_append 3 (a:=i.ak) (c:=i.ck) (enc:=encI .i64) (d:=0) (sz:=1) (xs:=i.kept) (te:=3) kR (.slice (some ⟨b_7_1,0,none⟩) 1 1) [(i.left.getD 0 0)] (src_pts (i:=5) (t:=3) kR) (oneI _) 8 oW oW) ?_
   rintro v L2 ⟨a_8_1,c_8_1,rfl,rfl⟩
   refine zN [14,15] (kV 0 [.w,.w]++kV 9 [.w,.w,.w,.e 0,.cut (.slice (cutA i.al i.cl 1 1) ((i.left.drop 1).length) (i.cl-1)),.w,.w]) [49,0,41,42,50,51,52,53,54,55,56] [16] (.e s (.p (LawQ Tryz.prog F [E178c5 s c sl m i.al i.left.length i.cl i.ak i.kept.length i.ck ag given.length cg,.res (IMap m .i64 (Value.int .i64) named),Ee1326 i.al i.cl i.left,Ee1326 a_8_1 c_8_1 (i.kept++[(i.left.getD 0 0)]),Ee1326 ag cg given,.pts b_7_1 [vI (i.left.getD 0 0)] 3] (.slice (cutA i.al i.cl 1 1) ((i.left.drop 1).length) (i.cl-1)) cutO (.slice i.al (i.left).length i.cl,some (vI 1),none,1)) (fun _=>(R_cutV 2 (a:=i.al) (c:=i.cl) (enc:=encI .i64) (d:=0) (sz:=1) (xs:=i.left) (te:=3) kR .i64 1 ⟨oW,oW⟩)) .n)) ⟨?_,trivial⟩
   refine zX (.e 0) (sQ s (sK ?_))
   refine zN [17,18] [(1,.w),(13,.cut (.slice (cutA i.al i.cl 1 1) ((i.left.drop 1).length) (i.cl-1))),(17,.w),(18,.w)] [0,53,42,54,57,58] [19] (.p (LawQ Tryz.prog F [E178c5 s c sl m i.al i.left.length i.cl a_8_1 ((i.kept++[(i.left.getD 0 0)]).length) c_8_1 ag given.length cg,.res (IMap m .i64 (Value.int .i64) named),Ee1326 i.al i.cl i.left,Ee1326 a_8_1 c_8_1 (i.kept++[(i.left.getD 0 0)]),Ee1326 ag cg given,.pts b_7_1 [vI (i.left.getD 0 0)] 3] (.slice (cutA i.al i.cl 1 1) ((i.left.drop 1).length) (i.cl-1)) cutO (.slice i.al (i.left).length i.cl,some (vI 1),none,1)) (fun _=>(R_cutV 2 (a:=i.al) (c:=i.cl) (enc:=encI .i64) (d:=0) (sz:=1) (xs:=i.left) (te:=3) kR .i64 1 ⟨oW,oW⟩)) .n) ⟨?_,trivial⟩
   refine zX (.e 0) (sQ s (sK ?_))
   refine zE [] [] [0] .n ?_
   refine go_view (view_cut 2 (a:=i.al) (c:=i.cl) (enc:=encI .i64) (d:=0) (sz:=1) (xs:=i.left) (te:=3) kR 1 oW) ?_
   refine gX [.z [] 0 [0]] (gW (ks:=[.j J_1,.b 0]) [(0,vP s)] [E178c5 s c sl m (cutA i.al i.cl 1 1) ((i.left.drop 1).length) (i.cl-1) a_8_1 ((i.kept++[(i.left.getD 0 0)]).length) c_8_1 ag given.length cg,.res (IMap m .i64 (Value.int .i64) named),Ee1326 (cutA i.al i.cl 1 1) (i.cl-1) (i.left.drop 1),Ee1326 a_8_1 c_8_1 (i.kept++[(i.left.getD 0 0)]),Ee1326 ag cg given,.pts b_7_1 [vI (i.left.getD 0 0)] 3] ?_)
   exact go_back hJ_1 (⟨(i.kept++[(i.left.getD 0 0)]),(i.left.drop 1),a_8_1,(cutA i.al i.cl 1 1),c_8_1,(i.cl-1)⟩:NxI) [0,1,2,3,4] kR rfl kR ⟨(nextL_on (by omega) (by assumption)).trans hx.1,(by simp; omega),fun b hb=>hx.2.2 b (List.mem_of_mem_drop hb)⟩ (by simp; omega)
 ·replace h_2:=decF h_2
  refine gW0 (undef) [E178c5 s c sl m i.al i.left.length i.cl i.ak i.kept.length i.ck ag given.length cg,.res (IMap m .i64 (Value.int .i64) named),Ee1326 i.al i.cl i.left,Ee1326 i.ak i.ck i.kept,Ee1326 ag cg given] ?_
  refine ret_view (L':=[.res (ScanR s c (⟨sl,named,i.left,i.kept,given,none⟩:Sc))]) (vK (fun _:ScH=>True) (scanL s c (⟨sl,named,i.left,i.kept,given,none⟩:Sc)) (⟨m,i.al,i.ak,ag,i.cl,i.ck,cg,0⟩:ScH) [0,1,2,3,4] trivial) ?_
  exact ret_ok (post:=[.res (ScanR s c (⟨sl,named,i.left,i.kept,given,none⟩:Sc))]) [0] kR ⟨rfl,(by rw [nextL_none hx.1 (List.eq_nil_of_length_eq_zero (by omega)) sl given none c])⟩
noncomputable def B135: Code:=(Tryz.f135.body).getD .skip
theorem scan_DoneT(c:Cfg)(s m:Nat)(sl:Int)(al ak ag:Option Addr)(nl nk ng cl ck cg:Nat)(hd:sl=c.slots):
  Ctr Tryz.prog 135 #[vP s] [E178c5 s c sl m al nl cl ak nk ck ag ng cg] (Ret (.bool true) [E178c5 s c sl m al nl cl ak nk ck ag ng cg]):=by
 refine cB B135 24 Tryz.func135 ?_
 intro F
 refine gX [.z [0,1] 0 [0]] (gS [.c [0,1],.c [1,1]] ?_)
 refine qG (kV 0 [.ww,.ww,.ww,.ww,.ww,.ww,.e 0,.ww,.ww,.ww,.ww,.e 0,.t true,.ww,.ww,.ww,.ww,.e 0,.ww,.ww,.ww,.ww]) [2] (.e s (.e s (.p ((sl==c.slots)=true) (by first | (simp; done) | (simp; omega)) (.e s .n)))) .n ?_
 exact gX [] (gJ [0] ⟨rfl,rfl⟩)
theorem scan_DoneF(c:Cfg)(s m:Nat)(sl:Int)(al ak ag:Option Addr)(nl nk ng cl ck cg:Nat)(hd:sl≠c.slots):
  Ctr Tryz.prog 135 #[vP s] [E178c5 s c sl m al nl cl ak nk ck ag ng cg] (Ret (.bool false) [E178c5 s c sl m al nl cl ak nk ck ag ng cg]):=by
 refine cB B135 24 Tryz.func135 ?_
 intro F
 refine gX [.z [0,1] 0 [0]] (gS [.c [0,1],.c [1,1]] ?_)
 refine qG (kV 0 [.ww,.ww,.ww,.ww,.ww,.ww,.e 0,.ww,.ww,.ww,.ww,.e 0,.t false,.ww,.ww,.ww,.ww,.ww,.ww,.ww,.ww,.ww]) [2] (.e s (.e s (.p ((sl==c.slots)=false) (by first | (simp; done) | (simp; omega)) .n))) .n ?_
 exact gX [] (gJ [0] ⟨rfl,rfl⟩)
theorem scan_DoneG(c:Cfg)(s m:Nat)(sl:Int)(al ak ag:Option Addr)(nl nk ng cl ck cg gv:Nat)(hd:sl=c.slots):
  Ctr Tryz.prog 135 #[vP s] [E3dfcb s c sl m al nl cl ak nk ck ag ng cg (vP gv)] (Ret (.bool false) [E3dfcb s c sl m al nl cl ak nk ck ag ng cg (vP gv)]):=by
 refine cB B135 24 Tryz.func135 ?_
 intro F
 refine gX [.z [0,1] 0 [0]] (gS [.c [0,1],.c [1,1]] ?_)
 refine qG (kV 0 [.ww,.ww,.ww,.ww,.ww,.ww,.e 0,.ww,.ww,.ww,.ww,.e 0,.t true,.ww,.ww,.ww,.ww,.e 0,.ww,.ww,.ww,.ww]) [2] (.e s (.e s (.p ((sl==c.slots)=true) (by first | (simp; done) | (simp; omega)) (.e s .n)))) .n ?_
 exact gX [] (gJ [0] ⟨rfl,rfl⟩)
theorem scan_Done(c:Cfg)(s:Nat)(S:Sc)(hg:S.give≠none→S.slot=c.slots):
  Ctr Tryz.prog 135 #[vP s] [.res (ScanR s c S)] (Ret (.bool (Sc.done c S)) [.res (ScanR s c S)]):=by
 refine oC (I:=fun _:ScH=>True) (LL:=scanL s c S) 0 ?_
 rintro h -
 obtain⟨sl,named,left,kept,given,give⟩:=S
 cases give with
 | none=>
  by_cases hd:sl=c.slots
  ·refine cP [0] (scan_DoneT c s h.m sl h.al h.ak h.ag left.length kept.length given.length h.cl h.ck h.cg hd) ?_
   rintro v post ⟨rfl,rfl⟩
   exact⟨_,view_pack (fun _:ScH=>True) (scanL s c ⟨sl,named,left,kept,given,none⟩) h (M:=[]) [4,0,1,2,3] kR trivial,by simp [Sc.done,hd],rfl⟩
  ·refine cP [0] (scan_DoneF c s h.m sl h.al h.ak h.ag left.length kept.length given.length h.cl h.ck h.cg hd) ?_
   rintro v post ⟨rfl,rfl⟩
   exact⟨_,view_pack (fun _:ScH=>True) (scanL s c ⟨sl,named,left,kept,given,none⟩) h (M:=[]) [4,0,1,2,3] kR trivial,by simp [Sc.done,hd],rfl⟩
 | some G=>
  have hd:=hg (by simp)
  refine cP [0] (scan_DoneG c s h.m sl h.al h.ak h.ag left.length kept.length given.length h.cl h.ck h.cg h.gp hd) ?_
  rintro v post ⟨rfl,rfl⟩
  exact⟨_,view_pack (fun _:ScH=>True) (scanL s c ⟨sl,named,left,kept,given,some G⟩) h (M:=[]) [5,0,1,2,3,4] kR trivial,by simp [Sc.done],rfl⟩
end Go.Proofs.YtpcaijopodhdgaaGreatDoor
namespace Go.Proofs.YtpcaijopodhdgaaGreatDoor
open Go.Sx
abbrev q5_0: List Nat:=[0,0,1,1,1,0,0,1]
abbrev q5_1: List Nat:=[0,0,1,1,0,1,1,1,0,0,1]
abbrev q5_2: List Nat:=[1,1,1,0,1,1,1,0,0,1]
abbrev q5_3: List Nat:=[0,1,0,1,1,0,1,1,1,0,0,1]
abbrev q5_4: List Nat:=[0,1,1,1,0,1,1,1,0,0,1]
abbrev q5_5: List Nat:=[1,1,1,1,0,1,1,1,0,0,1]
abbrev q5_6: List Nat:=[0,1,1,1,1,0,1,1,1,0,0,1]
abbrev q5_7: List Nat:=[0,1,1,1,1,0,0,1]
abbrev q5_8: List Nat:=[0,0,1,1,1,1,1,0,0,1]
abbrev q5_9: List Nat:=[1,0,1,1,1,1,1,0,0,1]
noncomputable def B75: Code:=(Tryz.f75.body).getD .skip
theorem scan_StepA(c:Cfg)(s ba m:Nat)(sl:Int)(named:Int→Option Int)(left kept given:List Int)(al ak ag:Option Addr)(cl ck cg:Nat)(A:Ar)(hc:c.Ok)(hd:sl=c.slots):
  Ctr Tryz.prog 75 #[vP s,vP ba] [E178c5 s c sl m al left.length cl ak kept.length ck ag given.length cg,.res (IMap m .i64 (Value.int .i64) named),Ee1326 al cl left,Ee1326 ak ck kept,Ee1326 ag cg given,E3504b ba A,E35fb1 A] (Ret (.bool (Sc.done c (Sc.step c (⟨sl,named,left,kept,given,none⟩:Sc) A).1)) [.res (ScanR s c ((Sc.step c (⟨sl,named,left,kept,given,none⟩:Sc) A).1)),E3504b ba ((Sc.step c (⟨sl,named,left,kept,given,none⟩:Sc) A).2),E35fb1 ((Sc.step c (⟨sl,named,left,kept,given,none⟩:Sc) A).2)]):=by
 refine cB B75 95 Tryz.func75 ?_
 intro F
 refine gX [.z [0,0,0,1] 1 [0,1,7]] (gS [.o [0,0,0,1] 1,.c [1,0,0,1],.b 0,.c [1,1]] ?_)
 refine gC (some 8) [0] Tryz.call135 (scan_DoneT c s m sl al ak ag left.length kept.length given.length cl ck cg oM) ?_
 refine gX [.z [0,1,1] 1 [93]] (gS [.o [0,1,1] 1,.c [1,1,1]] ?_)
 refine gC (some 94) [6] Tryz.call135 (scan_DoneT c s m sl al ak ag left.length kept.length given.length cl ck cg oM) ?_
 refine gX [] (gW0 (.bool true) [.res (IMap m .i64 (Value.int .i64) named),Ee1326 al cl left,Ee1326 ak ck kept,Ee1326 ag cg given,E3504b ba A,E35fb1 A,E178c5 s c sl m al left.length cl ak kept.length ck ag given.length cg] ?_)
 refine ret_view (L':=[E3504b ba A,E35fb1 A,.res (ScanR s c (⟨sl,named,left,kept,given,none⟩:Sc))]) (vK (fun _:ScH=>True) (scanL s c (⟨sl,named,left,kept,given,none⟩:Sc)) (⟨m,al,ak,ag,cl,ck,cg,0⟩:ScH) [6,0,1,2,3] trivial) ?_
 have e:Sc.step c (⟨sl,named,left,kept,given,none⟩:Sc) A=((⟨sl,named,left,kept,given,none⟩:Sc),A):=by
  unfold Sc.step; (try unfold Sc.look); dsimp only; (repeat' (first | rw [if_pos (by first | omega | assumption)] | rw [if_neg (by first | omega | assumption)])) <;> rfl
 exact ret_ok (post:=[.res (ScanR s c (⟨sl,named,left,kept,given,none⟩:Sc)),E3504b ba A,E35fb1 A]) [2,0,1] kR ⟨(by first | (rw [e]; done) | (rw [e]; rfl) | (rw [e]; simp [Sc.done]; done) | (rw [e]; simp [Sc.done]; omega)),(by first | (rw [e]; done) | (rw [e]; kernel_rfl))⟩
theorem scan_StepB(c:Cfg)(s ba m:Nat)(sl:Int)(named:Int→Option Int)(left kept given:List Int)(al ak ag:Option Addr)(cl ck cg:Nat)(A:Ar)(hc:c.Ok)(hn:A.ws.length=A.n)(hs:0≤A.steps∧A.steps≤1000000000)(hd:0≤sl∧sl<c.slots)(hsz:(A.n:Int)=sizeOfC c)(hws:∀i,0≤A.ws.getD i 0∧A.ws.getD i 0≤18446744073709551615)(hnm:∀k,0≤(named k).getD 0∧(named k).getD 0≤100)(hl:kept.length+left.length≤100∧given.length≤100)(hb:∀b∈left,0≤clsOf c b):
  Ctr Tryz.prog 75 #[vP s,vP ba] [E178c5 s c sl m al left.length cl ak kept.length ck ag given.length cg,.res (IMap m .i64 (Value.int .i64) named),Ee1326 al cl left,Ee1326 ak ck kept,Ee1326 ag cg given,E3504b ba A,E35fb1 A] (Ret (.bool (Sc.done c (Sc.step c (⟨sl,named,left,kept,given,none⟩:Sc) A).1)) [.res (ScanR s c ((Sc.step c (⟨sl,named,left,kept,given,none⟩:Sc) A).1)),E3504b ba ((Sc.step c (⟨sl,named,left,kept,given,none⟩:Sc) A).2),E35fb1 ((Sc.step c (⟨sl,named,left,kept,given,none⟩:Sc) A).2)]):=by
 refine cB B75 95 Tryz.func75 ?_
 intro F
 refine gX [.z [0,0,0,1] 1 [0,1,7]] (gS [.o [0,0,0,1] 1,.c [1,0,0,1],.b 0,.c [1,1]] ?_)
 refine gC (some 8) [0] Tryz.call135 (scan_DoneF c s m sl al ak ag left.length kept.length given.length cl ck cg oM) ?_
 refine gX [.z [0,1,1,0,0,1] 0 [0,1]] (gS [.c [0,1,1,0,0,1],.c [1,1,1,0,0,1],.b 0,.c [1,1]] ?_)
 refine qG (kV 0 [.ww,.ww,.ww,.e 6,.ww,.ww,.ww,.ww,.e 6,.t true,.ww]) [0,1,9] (.e s (.e s (.p ((decide (sl<c.slots))=true) (by first | (simp; done) | (simp; omega)) .n))) .n ?_
 refine gX [.z q5_0 0 [0,1]] (gS [.c q5_0,.c [1,0,1,1,1,0,0,1],.b 0,.c [1,1]] ?_)
 refine tC (some 30) (kV 0 [.ww,.ww,.ww,.ww,.e 6,.ww,.ww,.ww,.e 6,.q (vI (slotAt c sl))]) 10 (kV 11 [.ww]) [4,5] [0,5] Tryz.call116 (arena_Load ba A (slotAt c sl) oM (by have:=slotAt_ok hc hd; rw [hsz]; omega) oM) (.e s (.e s .n)) (.c Tryz.call111 (qR [] (plan_Slot c sl oM)) .n) ?_
 rintro v post ⟨rfl,rfl⟩
 refine tN .n ?_
 refine gX [.e 4,.n,.e 4,.z q5_1 1 [0,5,38]] (gQ s (gO (InK .i64 (sl+1)) (by simp only [Cfg.Ok,InK] at *; omega) (gQ s (gS [.o q5_1 1,.c [1,0,1,1,0,1,1,1,0,0,1],.c q5_2,.b 0,.c [1,1]] ?_))))
 refine gC (some 39) [] Tryz.call136 (slots_Client (A.ws.getD (slotAt c sl).toNat 0) (hws _)) ?_
 refine gX [.sp [40] [.z q5_3 0 [0,5]] [.z q5_4 0 [0]]] (gB (decide ((hi32 (A.ws.getD (slotAt c sl).toNat 0)-1)≥0)) (fun h_1 => ?_) (fun h_1 => ?_))
 ·replace h_1:=decT h_1
  refine gS [.c q5_3,.c q5_2,.b 0,.c [1,1]] ?_
  refine zG ?_
  refine zN [0,1,2,3,4,5,6,7] (kV 0 [.w,.w,.w,.e 4,.w,.q (vI (lo32 (A.ws.getD (slotAt c sl).toNat 0))),.get (vI ((named (lo32 (A.ws.getD (slotAt c sl).toNat 0))).getD 0)),.h (.n)]) [0,5,41,42,43,44,45,46,47,48] [8] (.e s (.q (lQ [] Tryz.call137 (slots_Block (A.ws.getD (slotAt c sl).toNat 0) (hws _))) (.p (LawQ Tryz.prog F [.res (IMap m .i64 (Value.int .i64) named),Ee1326 al cl left,Ee1326 ak ck kept,Ee1326 ag cg given,E178c5 s c (sl+1) m al left.length cl ak kept.length ck ag given.length cg,E3504b ba (A.load (slotAt c sl)),E35fb1 (A.load (slotAt c sl))] (vI ((named (lo32 (A.ws.getD (slotAt c sl).toNat 0))).getD 0)) getO (.map (some m),vI (lo32 (A.ws.getD (slotAt c sl).toNat 0)),false,.i64,some (Value.int .i64 0))) (fun _=>(R_get 0 (enc:=Value.int .i64) (m:=named) kR (lo32 (A.ws.getD (slotAt c sl).toNat 0)) false 0)) (.p (InK .i64 (((named (lo32 (A.ws.getD (slotAt c sl).toNat 0))).getD 0)+1)) (by have h1:=hnm (lo32 (A.ws.getD (slotAt c sl).toNat 0)); simp only [InK]; omega) .n)))) ⟨?_,trivial⟩
  refine zB none (setO Tryz.prog _) (some (.map (some m),vI (lo32 (A.ws.getD (slotAt c sl).toNat 0)),vI (((named (lo32 (A.ws.getD (slotAt c sl).toNat 0))).getD 0)+1),.i64)) (R_set 0 (enc:=Value.int .i64) (m:=named) kR (lo32 (A.ws.getD (slotAt c sl).toNat 0)) (((named (lo32 (A.ws.getD (slotAt c sl).toNat 0))).getD 0)+1)) ?_
  rintro v L2 ⟨rfl,rfl⟩
  refine zE [] [] [0] .n ?_
  refine gX [.z q5_4 0 [0]] (gS [.c q5_4,.c q5_5,.b 0,.c [1,1]] ?_)
  refine qG (kV 0 [.ww,.ww,.ww,.e 4,.ww,.ww,.ww,.ww,.e 4,.ww]) [0,58] (.e s (.e s .n)) .n ?_
  refine gX [.sp [58] [.z q5_6 1 [0,59]] [.z [0,1,1] 1 [93]]] (gB ((sl+1)==c.slots) (fun h_2 => ?_) (fun h_2 => ?_))
  ·replace h_2:=beqT h_2
   refine gS [.o q5_6 1,.b 0,.c [1,1]] ?_
   refine gC (some 60) [4,0,1,2,3] Tryz.call138 (scan_next c s m (sl+1) (updM named (lo32 (A.ws.getD (slotAt c sl).toNat 0)) (((named (lo32 (A.ws.getD (slotAt c sl).toNat 0))).getD 0)+1)) left kept given al ak ag cl ck cg (.pointer none) oM hl.1 oM) ?_
   refine gX [.z [0,1,1] 1 [93]] (gS [.o [0,1,1] 1,.c [1,1,1]] ?_)
   refine gC (some 94) [2] Tryz.call135 (scan_Done c s (Sc.next c (⟨(sl+1),(updM named (lo32 (A.ws.getD (slotAt c sl).toNat 0)) (((named (lo32 (A.ws.getD (slotAt c sl).toNat 0))).getD 0)+1)),left,kept,given,none⟩:Sc)) (fun _=>(by show sl+1=c.slots; omega))) ?_
   refine gX [] (gW0 (.bool (Sc.done c (Sc.next c (⟨(sl+1),(updM named (lo32 (A.ws.getD (slotAt c sl).toNat 0)) (((named (lo32 (A.ws.getD (slotAt c sl).toNat 0))).getD 0)+1)),left,kept,given,none⟩:Sc)))) [E3504b ba (A.load (slotAt c sl)),E35fb1 (A.load (slotAt c sl)),.res (ScanR s c (Sc.next c (⟨(sl+1),(updM named (lo32 (A.ws.getD (slotAt c sl).toNat 0)) (((named (lo32 (A.ws.getD (slotAt c sl).toNat 0))).getD 0)+1)),left,kept,given,none⟩:Sc)))] ?_)
   have e:Sc.step c (⟨sl,named,left,kept,given,none⟩:Sc) A=((Sc.next c (⟨(sl+1),(updM named (lo32 (A.ws.getD (slotAt c sl).toNat 0)) (((named (lo32 (A.ws.getD (slotAt c sl).toNat 0))).getD 0)+1)),left,kept,given,none⟩:Sc)),(A.load (slotAt c sl))):=by
    unfold Sc.step; (try unfold Sc.look); dsimp only; (repeat' (first | rw [if_pos (by first | omega | assumption)] | rw [if_neg (by first | omega | assumption)])) <;> rfl
   exact ret_ok (post:=[.res (ScanR s c (Sc.next c (⟨(sl+1),(updM named (lo32 (A.ws.getD (slotAt c sl).toNat 0)) (((named (lo32 (A.ws.getD (slotAt c sl).toNat 0))).getD 0)+1)),left,kept,given,none⟩:Sc))),E3504b ba (A.load (slotAt c sl)),E35fb1 (A.load (slotAt c sl))]) [2,0,1] kR ⟨(by first | (rw [e]; done) | (rw [e]; rfl) | (rw [e]; simp [Sc.done]; done) | (rw [e]; simp [Sc.done]; omega)),(by first | (rw [e]; done) | (rw [e]; kernel_rfl))⟩
  ·replace h_2:=beqF h_2
   refine gS [.o [0,1,1] 1,.c [1,1,1]] ?_
   refine gC (some 94) [4] Tryz.call135 (scan_DoneF c s m (sl+1) al ak ag left.length kept.length given.length cl ck cg oM) ?_
   refine gX [] (gW0 (.bool false) [.res (IMap m .i64 (Value.int .i64) (updM named (lo32 (A.ws.getD (slotAt c sl).toNat 0)) (((named (lo32 (A.ws.getD (slotAt c sl).toNat 0))).getD 0)+1))),Ee1326 al cl left,Ee1326 ak ck kept,Ee1326 ag cg given,E3504b ba (A.load (slotAt c sl)),E35fb1 (A.load (slotAt c sl)),E178c5 s c (sl+1) m al left.length cl ak kept.length ck ag given.length cg] ?_)
   refine ret_view (L':=[E3504b ba (A.load (slotAt c sl)),E35fb1 (A.load (slotAt c sl)),.res (ScanR s c (⟨(sl+1),(updM named (lo32 (A.ws.getD (slotAt c sl).toNat 0)) (((named (lo32 (A.ws.getD (slotAt c sl).toNat 0))).getD 0)+1)),left,kept,given,none⟩:Sc))]) (vK (fun _:ScH=>True) (scanL s c (⟨(sl+1),(updM named (lo32 (A.ws.getD (slotAt c sl).toNat 0)) (((named (lo32 (A.ws.getD (slotAt c sl).toNat 0))).getD 0)+1)),left,kept,given,none⟩:Sc)) (⟨m,al,ak,ag,cl,ck,cg,0⟩:ScH) [6,0,1,2,3] trivial) ?_
   have e:Sc.step c (⟨sl,named,left,kept,given,none⟩:Sc) A=((⟨(sl+1),(updM named (lo32 (A.ws.getD (slotAt c sl).toNat 0)) (((named (lo32 (A.ws.getD (slotAt c sl).toNat 0))).getD 0)+1)),left,kept,given,none⟩:Sc),(A.load (slotAt c sl))):=by
    unfold Sc.step; (try unfold Sc.look); dsimp only; (repeat' (first | rw [if_pos (by first | omega | assumption)] | rw [if_neg (by first | omega | assumption)])) <;> rfl
   exact ret_ok (post:=[.res (ScanR s c (⟨(sl+1),(updM named (lo32 (A.ws.getD (slotAt c sl).toNat 0)) (((named (lo32 (A.ws.getD (slotAt c sl).toNat 0))).getD 0)+1)),left,kept,given,none⟩:Sc)),E3504b ba (A.load (slotAt c sl)),E35fb1 (A.load (slotAt c sl))]) [2,0,1] kR ⟨(by first | (rw [e]; done) | (rw [e]; rfl) | (rw [e]; simp [Sc.done]; done) | (rw [e]; simp [Sc.done]; omega)),(by first | (rw [e]; done) | (rw [e]; kernel_rfl))⟩
 ·replace h_1:=decF h_1
  refine gS [.c q5_4,.c q5_5,.b 0,.c [1,1]] ?_
  refine qG (kV 0 [.ww,.ww,.ww,.e 4,.ww,.ww,.ww,.ww,.e 4,.ww]) [0,58] (.e s (.e s .n)) .n ?_
  refine gX [.sp [58] [.z q5_6 1 [0,59]] [.z [0,1,1] 1 [93]]] (gB ((sl+1)==c.slots) (fun h_3 => ?_) (fun h_3 => ?_))
  ·replace h_3:=beqT h_3
   refine gS [.o q5_6 1,.b 0,.c [1,1]] ?_
   refine gC (some 60) [4,0,1,2,3] Tryz.call138 (scan_next c s m (sl+1) named left kept given al ak ag cl ck cg (.pointer none) oM hl.1 oM) ?_
   refine gX [.z [0,1,1] 1 [93]] (gS [.o [0,1,1] 1,.c [1,1,1]] ?_)
   refine gC (some 94) [2] Tryz.call135 (scan_Done c s (Sc.next c (⟨(sl+1),named,left,kept,given,none⟩:Sc)) (fun _=>(by show sl+1=c.slots; omega))) ?_
   refine gX [] (gW0 (.bool (Sc.done c (Sc.next c (⟨(sl+1),named,left,kept,given,none⟩:Sc)))) [E3504b ba (A.load (slotAt c sl)),E35fb1 (A.load (slotAt c sl)),.res (ScanR s c (Sc.next c (⟨(sl+1),named,left,kept,given,none⟩:Sc)))] ?_)
   have e:Sc.step c (⟨sl,named,left,kept,given,none⟩:Sc) A=((Sc.next c (⟨(sl+1),named,left,kept,given,none⟩:Sc)),(A.load (slotAt c sl))):=by
    unfold Sc.step; (try unfold Sc.look); dsimp only; (repeat' (first | rw [if_pos (by first | omega | assumption)] | rw [if_neg (by first | omega | assumption)])) <;> rfl
   exact ret_ok (post:=[.res (ScanR s c (Sc.next c (⟨(sl+1),named,left,kept,given,none⟩:Sc))),E3504b ba (A.load (slotAt c sl)),E35fb1 (A.load (slotAt c sl))]) [2,0,1] kR ⟨(by first | (rw [e]; done) | (rw [e]; rfl) | (rw [e]; simp [Sc.done]; done) | (rw [e]; simp [Sc.done]; omega)),(by first | (rw [e]; done) | (rw [e]; kernel_rfl))⟩
  ·replace h_3:=beqF h_3
   refine gS [.o [0,1,1] 1,.c [1,1,1]] ?_
   refine gC (some 94) [4] Tryz.call135 (scan_DoneF c s m (sl+1) al ak ag left.length kept.length given.length cl ck cg oM) ?_
   refine gX [] (gW0 (.bool false) [.res (IMap m .i64 (Value.int .i64) named),Ee1326 al cl left,Ee1326 ak ck kept,Ee1326 ag cg given,E3504b ba (A.load (slotAt c sl)),E35fb1 (A.load (slotAt c sl)),E178c5 s c (sl+1) m al left.length cl ak kept.length ck ag given.length cg] ?_)
   refine ret_view (L':=[E3504b ba (A.load (slotAt c sl)),E35fb1 (A.load (slotAt c sl)),.res (ScanR s c (⟨(sl+1),named,left,kept,given,none⟩:Sc))]) (vK (fun _:ScH=>True) (scanL s c (⟨(sl+1),named,left,kept,given,none⟩:Sc)) (⟨m,al,ak,ag,cl,ck,cg,0⟩:ScH) [6,0,1,2,3] trivial) ?_
   have e:Sc.step c (⟨sl,named,left,kept,given,none⟩:Sc) A=((⟨(sl+1),named,left,kept,given,none⟩:Sc),(A.load (slotAt c sl))):=by
    unfold Sc.step; (try unfold Sc.look); dsimp only; (repeat' (first | rw [if_pos (by first | omega | assumption)] | rw [if_neg (by first | omega | assumption)])) <;> rfl
   exact ret_ok (post:=[.res (ScanR s c (⟨(sl+1),named,left,kept,given,none⟩:Sc)),E3504b ba (A.load (slotAt c sl)),E35fb1 (A.load (slotAt c sl))]) [2,0,1] kR ⟨(by first | (rw [e]; done) | (rw [e]; rfl) | (rw [e]; simp [Sc.done]; done) | (rw [e]; simp [Sc.done]; omega)),(by first | (rw [e]; done) | (rw [e]; kernel_rfl))⟩
theorem scan_StepC(c:Cfg)(s ba m:Nat)(sl:Int)(named:Int→Option Int)(left kept given:List Int)(al ak ag:Option Addr)(cl ck cg:Nat)(A:Ar)(gv:Nat)(G:Gv)(hc:c.Ok)(hn:A.ws.length=A.n)(hs:0≤A.steps∧A.steps≤1000000000)(hd:sl=c.slots)(hG:Gv.Ok c A.n G)(hll:0<left.length)(hl:kept.length+left.length≤100∧given.length≤100)(hb:∀b∈left,0≤clsOf c b):
  Ctr Tryz.prog 75 #[vP s,vP ba] [E3dfcb s c sl m al left.length cl ak kept.length ck ag given.length cg (vP gv),.res (IMap m .i64 (Value.int .i64) named),Ee1326 al cl left,Ee1326 ak ck kept,Ee1326 ag cg given,E00526 gv c G (nxV gv G.ph),E3504b ba A,E35fb1 A] (Ret (.bool (Sc.done c (Sc.step c (⟨sl,named,left,kept,given,some G⟩:Sc) A).1)) [.res (ScanR s c ((Sc.step c (⟨sl,named,left,kept,given,some G⟩:Sc) A).1)),E3504b ba ((Sc.step c (⟨sl,named,left,kept,given,some G⟩:Sc) A).2),E35fb1 ((Sc.step c (⟨sl,named,left,kept,given,some G⟩:Sc) A).2)]):=by
 refine cB B75 95 Tryz.func75 ?_
 intro F
 refine gX [.z [0,0,0,1] 1 [0,1,7]] (gS [.o [0,0,0,1] 1,.c [1,0,0,1],.b 0,.c [1,1]] ?_)
 refine gC (some 8) [0] Tryz.call135 (scan_DoneG c s m sl al ak ag left.length kept.length given.length cl ck cg gv oM) ?_
 refine gX [.z [0,1,1,0,0,1] 0 [0,1]] (gS [.c [0,1,1,0,0,1],.c [1,1,1,0,0,1],.b 0,.c [1,1]] ?_)
 refine qG (kV 0 [.ww,.ww,.ww,.e 7,.ww,.ww,.ww,.ww,.e 7,.t false,.ww]) [0,1,9] (.e s (.e s (.p ((decide (sl<c.slots))=false) (by first | (simp; done) | (simp; omega)) .n))) .n ?_
 refine gX [.e 7,.z q5_7 5 [0,65,66]] (gQ s (gS [.o q5_7 5,.c [1,1,1,1,1,0,0,1],.b 0,.c [1,1]] ?_))
 refine gC (some 67) [4,5,6] Tryz.call139 (give_Step c gv ba G A oM oM oM hG) ?_
 refine gX [.sp [61,67] [.z q5_8 0 [0]] [.z [0,1,1] 1 [93]]] (gQ ((G.step c A).1.ph==0) (gB ((G.step c A).1.ph==0) (fun h_1 => ?_) (fun h_1 => ?_)))
 ·replace h_1:=beqT h_1
  refine gS [.c q5_8,.c q5_9,.b 0,.c [1,1]] ?_
  refine zG ?_
  refine zN [0,1,2,3,4,5,6,7,8,9,10,11,14,15,16,17,18] (kV 0 [.w,.w,.w,.w,.w,.e 4,.w,.w,.w,.e 4,.h (.s 1),.h (.j 1 0)]++kV 14 [.w,.w,.w,.e 4,.cut (.slice (cutA al cl 1 1) ((left.drop 1).length) (cl-1))]) [0,68,69,70,71,72,73,74,75,76,77,78,79,82,83,84,85,86] [12] (.e s (.e s (.p (al=al∧left.length=left.length) ⟨rfl,(by first | rfl | omega | (simp; done) | (simp; omega))⟩ (.p ((0:Int)≤0∧0<((left.length:Nat):Int)) oW (.e (slAt al 0 1) (.p (0<left.length) oW (.e s (.p (LawQ Tryz.prog F [.res (IMap m .i64 (Value.int .i64) named),Ee1326 al cl left,Ee1326 ak ck kept,Ee1326 ag cg given,E3dfcb s c sl m al left.length cl ak kept.length ck ag given.length cg (vP gv),E00526 gv c ((G.step c A).1) (nxV gv ((G.step c A).1).ph),E3504b ba ((G.step c A).2),E35fb1 ((G.step c A).2)] (.slice (cutA al cl 1 1) ((left.drop 1).length) (cl-1)) cutO (.slice al (left).length cl,some (vI 1),none,1)) (fun _=>(R_cutV 1 (a:=al) (c:=cl) (enc:=encI .i64) (d:=0) (sz:=1) (xs:=left) (te:=3) kR .i64 1 ⟨oW,oW⟩)) .n)))))))) ⟨?_,trivial⟩
  refine zX .w (sN fun b_12_1=>(sV ?_))
  refine zN [] (kV 0 [.w,.w,.w,.w,.w,.e 4]++kV 14 [.w,.w,.w,.e 4,.cut (.slice (cutA al cl 1 1) ((left.drop 1).length) (cl-1))]) [80,0,68,69,70,71,72,73,82,83,84,85,86] [13] (.e s (.e s (.p (LawQ Tryz.prog F [.res (IMap m .i64 (Value.int .i64) named),Ee1326 al cl left,Ee1326 ak ck kept,Ee1326 ag cg given,E3dfcb s c sl m al left.length cl ak kept.length ck ag given.length cg (vP gv),E00526 gv c ((G.step c A).1) (nxV gv ((G.step c A).1).ph),E3504b ba ((G.step c A).2),E35fb1 ((G.step c A).2),.pts b_12_1 [vI (left.getD 0 0)] 3] (.slice (cutA al cl 1 1) ((left.drop 1).length) (cl-1)) cutO (.slice al (left).length cl,some (vI 1),none,1)) (fun _=>(R_cutV 1 (a:=al) (c:=cl) (enc:=encI .i64) (d:=0) (sz:=1) (xs:=left) (te:=3) kR .i64 1 ⟨oW,oW⟩)) .n))) ⟨?_,trivial⟩
  refine zB (some 81) (appO Tryz.prog _) (some (.slice ag (given).length cg,.slice (some ⟨b_12_1,0,none⟩) 1 1,(3,1,8))) (R_append 3 (a:=ag) (c:=cg) (enc:=encI .i64) (d:=0) (sz:=1) (xs:=given) (te:=3) kR (.slice (some ⟨b_12_1,0,none⟩) 1 1) [(left.getD 0 0)] (src_pts (i:=8) (t:=3) kR) (oneI _) 8 oW oW) ?_
  rintro v L2 ⟨a_13_1,c_13_1,rfl,rfl⟩
  refine zN [19,20] (kV 0 [.w,.w]++kV 14 [.w,.w,.w,.e 4,.cut (.slice (cutA al cl 1 1) ((left.drop 1).length) (cl-1)),.w,.w]) [81,0,68,69,82,83,84,85,86,87,88] [21] (.e s (.p (LawQ Tryz.prog F [.res (IMap m .i64 (Value.int .i64) named),Ee1326 al cl left,Ee1326 ak ck kept,Ee1326 a_13_1 c_13_1 (given++[(left.getD 0 0)]),E3dfcb s c sl m al left.length cl ak kept.length ck ag given.length cg (vP gv),E00526 gv c ((G.step c A).1) (nxV gv ((G.step c A).1).ph),E3504b ba ((G.step c A).2),E35fb1 ((G.step c A).2),.pts b_12_1 [vI (left.getD 0 0)] 3] (.slice (cutA al cl 1 1) ((left.drop 1).length) (cl-1)) cutO (.slice al (left).length cl,some (vI 1),none,1)) (fun _=>(R_cutV 1 (a:=al) (c:=cl) (enc:=encI .i64) (d:=0) (sz:=1) (xs:=left) (te:=3) kR .i64 1 ⟨oW,oW⟩)) .n)) ⟨?_,trivial⟩
  refine zX (.e 4) (sQ s (sK ?_))
  refine zN [22,23] [(1,.w),(18,.cut (.slice (cutA al cl 1 1) ((left.drop 1).length) (cl-1))),(22,.w),(23,.w)] [0,85,69,86,89,90] [24] (.p (LawQ Tryz.prog F [.res (IMap m .i64 (Value.int .i64) named),Ee1326 al cl left,Ee1326 ak ck kept,Ee1326 a_13_1 c_13_1 (given++[(left.getD 0 0)]),E3dfcb s c sl m al left.length cl ak kept.length ck a_13_1 ((given++[(left.getD 0 0)]).length) c_13_1 (vP gv),E00526 gv c ((G.step c A).1) (nxV gv ((G.step c A).1).ph),E3504b ba ((G.step c A).2),E35fb1 ((G.step c A).2),.pts b_12_1 [vI (left.getD 0 0)] 3] (.slice (cutA al cl 1 1) ((left.drop 1).length) (cl-1)) cutO (.slice al (left).length cl,some (vI 1),none,1)) (fun _=>(R_cutV 1 (a:=al) (c:=cl) (enc:=encI .i64) (d:=0) (sz:=1) (xs:=left) (te:=3) kR .i64 1 ⟨oW,oW⟩)) .n) ⟨?_,trivial⟩
  refine zX (.e 4) (sQ s (sK ?_))
  refine zE [] [] [0] .n ?_
  refine go_view (view_cut 1 (a:=al) (c:=cl) (enc:=encI .i64) (d:=0) (sz:=1) (xs:=left) (te:=3) kR 1 oW) ?_
  refine gX [.z q5_9 1 [0,91]] (gS [.o q5_9 1,.b 0,.c [1,1]] ?_)
  refine gC (some 92) [4,0,1,2,3] Tryz.call138 (scan_next c s m sl named (left.drop 1) kept (given++[(left.getD 0 0)]) (cutA al cl 1 1) ak a_13_1 (cl-1) ck c_13_1 (vP gv) oM (by simp; omega) (fun b h=>hb b (List.mem_of_mem_drop h))) ?_
  refine gX [.z [0,1,1] 1 [93]] (gS [.o [0,1,1] 1,.c [1,1,1]] ?_)
  refine gC (some 94) [4] Tryz.call135 (scan_Done c s (Sc.next c (⟨sl,named,(left.drop 1),kept,(given++[(left.getD 0 0)]),none⟩:Sc)) (fun _=>(by show sl=c.slots; omega))) ?_
  refine gX [] (gW0 (.bool (Sc.done c (Sc.next c (⟨sl,named,(left.drop 1),kept,(given++[(left.getD 0 0)]),none⟩:Sc)))) [E00526 gv c ((G.step c A).1) (nxV gv ((G.step c A).1).ph),E3504b ba ((G.step c A).2),E35fb1 ((G.step c A).2),.pts b_12_1 [vI (left.getD 0 0)] 3,.res (ScanR s c (Sc.next c (⟨sl,named,(left.drop 1),kept,(given++[(left.getD 0 0)]),none⟩:Sc)))] ?_)
  have e:Sc.step c (⟨sl,named,left,kept,given,some G⟩:Sc) A=((Sc.next c (⟨sl,named,(left.drop 1),kept,(given++[(left.getD 0 0)]),none⟩:Sc)),(G.step c A).2):=by
   unfold Sc.step; (try unfold Sc.look); dsimp only; (repeat' (first | rw [if_pos (by first | omega | assumption)] | rw [if_neg (by first | omega | assumption)])) <;> rfl
  exact ret_ok (post:=[.res (ScanR s c (Sc.next c (⟨sl,named,(left.drop 1),kept,(given++[(left.getD 0 0)]),none⟩:Sc))),E3504b ba ((G.step c A).2),E35fb1 ((G.step c A).2)]) [4,1,2] kR ⟨(by first | (rw [e]; done) | (rw [e]; rfl) | (rw [e]; simp [Sc.done]; done) | (rw [e]; simp [Sc.done]; omega)),(by first | (rw [e]; done) | (rw [e]; kernel_rfl))⟩
 ·replace h_1:=beqF h_1
  refine gS [.o [0,1,1] 1,.c [1,1,1]] ?_
  refine gC (some 94) [4] Tryz.call135 (scan_DoneG c s m sl al ak ag left.length kept.length given.length cl ck cg gv oM) ?_
  refine gX [] (gW0 (.bool false) [.res (IMap m .i64 (Value.int .i64) named),Ee1326 al cl left,Ee1326 ak ck kept,Ee1326 ag cg given,E00526 gv c ((G.step c A).1) (nxV gv ((G.step c A).1).ph),E3504b ba ((G.step c A).2),E35fb1 ((G.step c A).2),E3dfcb s c sl m al left.length cl ak kept.length ck ag given.length cg (vP gv)] ?_)
  refine ret_view (L':=[E3504b ba ((G.step c A).2),E35fb1 ((G.step c A).2),.res (ScanR s c (⟨sl,named,left,kept,given,(some (G.step c A).1)⟩:Sc))]) (vK (fun _:ScH=>True) (scanL s c (⟨sl,named,left,kept,given,(some (G.step c A).1)⟩:Sc)) (⟨m,al,ak,ag,cl,ck,cg,gv⟩:ScH) [7,0,1,2,3,4] trivial) ?_
  have e:Sc.step c (⟨sl,named,left,kept,given,some G⟩:Sc) A=((⟨sl,named,left,kept,given,(some (G.step c A).1)⟩:Sc),(G.step c A).2):=by
   unfold Sc.step; (try unfold Sc.look); dsimp only; (repeat' (first | rw [if_pos (by first | omega | assumption)] | rw [if_neg (by first | omega | assumption)])) <;> rfl
  exact ret_ok (post:=[.res (ScanR s c (⟨sl,named,left,kept,given,(some (G.step c A).1)⟩:Sc)),E3504b ba ((G.step c A).2),E35fb1 ((G.step c A).2)]) [2,0,1] kR ⟨(by first | (rw [e]; done) | (rw [e]; rfl) | (rw [e]; simp [Sc.done]; done) | (rw [e]; simp [Sc.done]; omega)),(by first | (rw [e]; done) | (rw [e]; kernel_rfl))⟩
end Go.Proofs.YtpcaijopodhdgaaGreatDoor
namespace Go.Proofs.YtpcaijopodhdgaaGreatDoor
open Go.Sx
theorem scan_Step(c:Cfg)(s ba:Nat)(S:Sc)(A:Ar)(hc:c.Ok)(hS:S.Ok c A.n)(hA:A.Ok c):
  Ctr Tryz.prog 75 #[vP s,vP ba] [.res (ScanR s c S),E3504b ba A,E35fb1 A] (Ret (.bool (Sc.done c (S.step c A).1)) [.res (ScanR s c ((S.step c A).1)),E3504b ba ((S.step c A).2),E35fb1 ((S.step c A).2)]):=by
 obtain⟨sl,named,left,kept,given,give⟩:=S
 obtain⟨h1,h2,h3,h4,h5,h6⟩:=hS
 obtain⟨g1,g2,g3,g4⟩:=hA
 simp only at h1 h2 h3 h4 h5 h6
 have hc':=hc
 simp only [Cfg.Ok] at hc'
 refine oC (I:=fun _:ScH=>True) (LL:=scanL s c ⟨sl,named,left,kept,given,give⟩) 0 ?_
 rintro h -
 cases give with
 | none=>
  by_cases hd:sl=c.slots
  ·exact ctr_pre [2,3,4,5,6,0,1] kR (scan_StepA c s ba h.m sl named left kept given h.al h.ak h.ag h.cl h.ck h.cg A hc hd)
  ·exact ctr_pre [2,3,4,5,6,0,1] kR (scan_StepB c s ba h.m sl named left kept given h.al h.ak h.ag h.cl h.ck h.cg A hc g1 g4 (by omega) g2 g3 (fun k=>by have:=h5 k; omega) h3 h4)
 | some G=>
  obtain⟨q1,q2⟩:=h6 G rfl
  exact ctr_pre [2,3,4,5,6,7,0,1] kR (scan_StepC c s ba h.m sl named left kept given h.al h.ak h.ag h.cl h.ck h.cg A h.gp G hc g1 g4 (h2 (by simp)) q1 q2 h3 h4)
end Go.Proofs.YtpcaijopodhdgaaGreatDoor
namespace Go.Proofs.YtpcaijopodhdgaaGreatDoor
open Go.Sx
abbrev q7_0: List Nat:=[1,0,0,1,1,0,0,1,0,1,1,1]
abbrev q7_1: List Nat:=[1,1,1,0,0,1,0,1,1,1]
abbrev q7_2: List Nat:=[0,1,0,1,0,0,1,1,0,0,1,0,1,1,1,1,1,1,1]
abbrev q7_3: List Nat:=[0,1,0,1,1,1,1,1,1,1,1]
abbrev q7_4: List Nat:=[1,1,0,0,1,1,0,0,1,0,1,1,1,1,1,1,1]
abbrev q7_5: List Nat:=[1,1,1,0,0,1,0,1,1,1,1,1,1,1]
abbrev q7_6: List Nat:=[0,1,0,1,1,1,1,1,1,1]
abbrev q7_7: List Nat:=[1,1,1,1,1,1,1,1]
abbrev q7_8: List Nat:=[1,1,1,1,1,1,1,1,1]
abbrev q7_9: List Nat:=[0,0,0,0,1,0,1,1,1,1,1,1,1,1]
abbrev q7_10: List Nat:=[1,0,0,0,1,0,1,1,1,1,1,1,1,1]
abbrev q7_11: List Nat:=[1,0,0,1,0,1,1,1,1,1,1,1,1]
abbrev q7_12: List Nat:=[0,0,0,1,0,0,1,0,1,1,1,1,1,1,1,1]
abbrev q7_13: List Nat:=[1,0,0,1,0,0,1,0,1,1,1,1,1,1,1,1]
abbrev q7_14: List Nat:=[1,1,0,0,1,0,1,1,1,1,1,1,1,1]
abbrev q7_15: List Nat:=[0,1,0,0,1,0,0,1,0,1,1,1,1,1,1,1,1]
noncomputable def B166: Code:=(Tryz.f166.body).getD .skip
theorem bits_Set(w_ at_ n v_:Int)(h:1≤n∧n≤64∧0≤at_∧at_+n≤64)(hv:bAndNot .u64 v_ (bShr .u64 18446744073709551615 (64-n))=0):
  Ctr Tryz.prog 166 #[vU w_,vI at_,vI n,vU v_] [] (Ret (.tuple #[vU (setW w_ at_ n v_),.bool true]) []):=by
 refine cB B166 32 Tryz.func166 ?_
 intro F
 refine gX [.z [0,0,1] 2 [0,1,2,3,10,11]] (gS [.o [0,0,1] 2,.c [1,0,1],.c [1,1]] ?_)
 refine gC (some 12) [] Tryz.call190 (bits_may at_ n oM) ?_
 refine gX [.z [0,0,1] 7 [0,1,2,3,14,15,16]] (gS [.o [0,0,1] 7,.c [1,0,1],.c [1,1]] ?_)
 refine gC (some 17) [] Tryz.call191 (bits_all n (by omega)) ?_
 refine gX [.sp [20,19] [.dead] [.z [0,1,1] 0 [0,1,2,3]]] (gQ ((bAndNot .u64 v_ (bShr .u64 18446744073709551615 (64-n))) != 0) (gF ((bAndNot .u64 v_ (bShr .u64 18446744073709551615 (64-n))) != 0) (by rw [hv]; rfl) (gS [.c [0,1,1],.c [1,1,1]] ?_)))
 refine qG (kV 0 [.ww,.ww,.q (vU (bShr .u64 18446744073709551615 (64-n))),.ww,.h (.n),.ww,.ww,.ww,.h (.n),.ww,.ww,.ww]) [8,9] (.p ((0:Int)≤at_) oW (.p ((0:Int)≤at_) oW .n)) (.c Tryz.call191 (qR [] (bits_all n (by omega))) .n) ?_
 exact gX [] (gR (.tuple #[vU (bOr .u64 (bAndNot .u64 w_ (bShl .u64 (bShr .u64 18446744073709551615 (64-n)) at_)) (bShl .u64 v_ at_)),.bool true]) [] ⟨rfl,rfl⟩)
noncomputable def B120: Code:=(Tryz.f120.body).getD .skip
theorem plan_Pack(c:Cfg)(hc:c.Ok):
  Ctr Tryz.prog 120 #[cfgV c] [] (Ret (vU (packW c)) []):=by
 refine cB B120 27 Tryz.func120 ?_
 intro F
 refine gX [.e 0,.z [0,0,1,1] 1 [1,3,6]] (gN fun b_1=>gQ b_1 (gS [.o [0,0,1,1] 1,.c [1,0,1,1],.c [1,1,1]] ?_))
 refine gC (some 7) [] Tryz.call127 (plan_right c oM) ?_
 refine gX [.e 0,.z [0,0,1,1,1] 1 [3,10]] (gQ b_1 (gS [.o [0,0,1,1,1] 1,.c [1,0,1,1,1],.c [1,1,1,1]] ?_))
 refine gC (some 11) [] Tryz.call165 (plan_parts c) ?_
 refine gX [.u,.w,.w,.z q7_0 5 [11,12,17,19,21]] (gS [.o q7_0 5,.b 1,.c q7_1,.r [0,1,0,1,1,1],.b 0,.c [1,1,1,1]] ?_)
 refine gC (some 22) [] Tryz.call166 (bits_Set 0 0 7 (IntKind.u64.wrap c.topics) (by omega) (part_fits (by simp only [Cfg.Ok] at hc; omega))) ?_
 refine gX [.w,.u,.w,.w,.z q7_0 5 [11,12,17,19,21]] (gS [.o q7_0 5,.b 1,.c q7_1,.r [0,1,0,1,1,1],.b 0,.c [1,1,1,1]] ?_)
 refine gC (some 22) [] Tryz.call166 (bits_Set (setW 0 0 7 (IntKind.u64.wrap c.topics)) 7 7 (IntKind.u64.wrap c.small) (by omega) (part_fits (by simp only [Cfg.Ok] at hc; omega))) ?_
 refine gX [.w,.u,.w,.w,.z q7_0 5 [11,12,17,19,21]] (gS [.o q7_0 5,.b 1,.c q7_1,.r [0,1,0,1,1,1],.b 0,.c [1,1,1,1]] ?_)
 refine gC (some 22) [] Tryz.call166 (bits_Set (setW (setW 0 0 7 (IntKind.u64.wrap c.topics)) 7 7 (IntKind.u64.wrap c.small)) 14 7 (IntKind.u64.wrap c.slots) (by omega) (part_fits (by simp only [Cfg.Ok] at hc; omega))) ?_
 refine gX [.w,.u,.w,.w,.z q7_0 5 [11,12,17,19,21]] (gS [.o q7_0 5,.b 1,.c q7_1,.r [0,1,0,1,1,1],.b 0,.c [1,1,1,1]] ?_)
 refine gC (some 22) [] Tryz.call166 (bits_Set (setW (setW (setW 0 0 7 (IntKind.u64.wrap c.topics)) 7 7 (IntKind.u64.wrap c.small)) 14 7 (IntKind.u64.wrap c.slots)) 21 7 (IntKind.u64.wrap c.clients) (by omega) (part_fits (by simp only [Cfg.Ok] at hc; omega))) ?_
 refine gX [.w,.u,.w,.w,.z q7_0 5 [11,12,17,19,21]] (gS [.o q7_0 5,.b 1,.c q7_1,.r [0,1,0,1,1,1],.b 0,.c [1,1,1,1]] ?_)
 refine gC (some 22) [] Tryz.call166 (bits_Set (setW (setW (setW (setW 0 0 7 (IntKind.u64.wrap c.topics)) 7 7 (IntKind.u64.wrap c.small)) 14 7 (IntKind.u64.wrap c.slots)) 21 7 (IntKind.u64.wrap c.clients)) 28 7 (IntKind.u64.wrap c.retry) (by omega) (part_fits (by simp only [Cfg.Ok] at hc; omega))) ?_
 refine gX [.w,.u,.w,.w,.z q7_0 5 [11,12,17,19,21]] (gS [.o q7_0 5,.b 1,.c q7_1,.r [0,1,0,1,1,1],.b 0,.c [1,1,1,1]] ?_)
 refine gC (some 22) [] Tryz.call166 (bits_Set (setW (setW (setW (setW (setW 0 0 7 (IntKind.u64.wrap c.topics)) 7 7 (IntKind.u64.wrap c.small)) 14 7 (IntKind.u64.wrap c.slots)) 21 7 (IntKind.u64.wrap c.clients)) 28 7 (IntKind.u64.wrap c.retry)) 35 7 (IntKind.u64.wrap c.s0) (by omega) (part_fits (by simp only [Cfg.Ok] at hc; omega))) ?_
 refine gX [.w,.u,.w,.w,.z q7_0 5 [11,12,17,19,21]] (gS [.o q7_0 5,.b 1,.c q7_1,.r [0,1,0,1,1,1],.b 0,.c [1,1,1,1]] ?_)
 refine gC (some 22) [] Tryz.call166 (bits_Set (setW (setW (setW (setW (setW (setW 0 0 7 (IntKind.u64.wrap c.topics)) 7 7 (IntKind.u64.wrap c.small)) 14 7 (IntKind.u64.wrap c.slots)) 21 7 (IntKind.u64.wrap c.clients)) 28 7 (IntKind.u64.wrap c.retry)) 35 7 (IntKind.u64.wrap c.s0)) 42 7 (IntKind.u64.wrap c.n0) (by omega) (part_fits (by simp only [Cfg.Ok] at hc; omega))) ?_
 refine gX [.w,.u,.w,.w,.z q7_0 5 [11,12,17,19,21]] (gS [.o q7_0 5,.b 1,.c q7_1,.r [0,1,0,1,1,1],.b 0,.c [1,1,1,1]] ?_)
 refine gC (some 22) [] Tryz.call166 (bits_Set (setW (setW (setW (setW (setW (setW (setW 0 0 7 (IntKind.u64.wrap c.topics)) 7 7 (IntKind.u64.wrap c.small)) 14 7 (IntKind.u64.wrap c.slots)) 21 7 (IntKind.u64.wrap c.clients)) 28 7 (IntKind.u64.wrap c.retry)) 35 7 (IntKind.u64.wrap c.s0)) 42 7 (IntKind.u64.wrap c.n0)) 49 7 (IntKind.u64.wrap c.s1) (by omega) (part_fits (by simp only [Cfg.Ok] at hc; omega))) ?_
 refine gX [.w,.u,.w,.w,.z q7_0 5 [11,12,17,19,21]] (gS [.o q7_0 5,.b 1,.c q7_1,.r [0,1,0,1,1,1],.b 0,.c [1,1,1,1]] ?_)
 refine gC (some 22) [] Tryz.call166 (bits_Set (setW (setW (setW (setW (setW (setW (setW (setW 0 0 7 (IntKind.u64.wrap c.topics)) 7 7 (IntKind.u64.wrap c.small)) 14 7 (IntKind.u64.wrap c.slots)) 21 7 (IntKind.u64.wrap c.clients)) 28 7 (IntKind.u64.wrap c.retry)) 35 7 (IntKind.u64.wrap c.s0)) 42 7 (IntKind.u64.wrap c.n0)) 49 7 (IntKind.u64.wrap c.s1)) 56 7 (IntKind.u64.wrap c.n1) (by omega) (part_fits (by simp only [Cfg.Ok] at hc; omega))) ?_
 exact gX [.w,.u] (gR (vU (setW (setW (setW (setW (setW (setW (setW (setW (setW 0 0 7 (IntKind.u64.wrap c.topics)) 7 7 (IntKind.u64.wrap c.small)) 14 7 (IntKind.u64.wrap c.slots)) 21 7 (IntKind.u64.wrap c.clients)) 28 7 (IntKind.u64.wrap c.retry)) 35 7 (IntKind.u64.wrap c.s0)) 42 7 (IntKind.u64.wrap c.n0)) 49 7 (IntKind.u64.wrap c.s1)) 56 7 (IntKind.u64.wrap c.n1))) [] ⟨rfl,rfl⟩)
noncomputable def B119: Code:=(Tryz.f119.body).getD .skip
theorem plan_Size(c:Cfg)(hc:c.Ok):
  Ctr Tryz.prog 119 #[cfgV c] [] (Ret (vI (sizeOfC c)) []):=by
 refine cB B119 36 Tryz.func119 ?_
 intro F
 refine gX [.e 0,.z [0,0,1] 1 [1,7]] (gN fun b_1=>gQ b_1 (gS [.o [0,0,1] 1,.c [1,0,1],.c [1,1]] ?_))
 refine gC (some 8) [] Tryz.call127 (plan_right c oM) ?_
 refine gX [.e 0,.z [0,1,1] 1 [1,11]] (gQ b_1 (gS [.o [0,1,1] 1,.c [1,1,1]] ?_))
 refine gC (some 12) [] Tryz.call102 (plan_cells c oM) ?_
 exact gX [.e 0,.n,.n,.e 0,.u,.e 1,.e 1,.e 1,.n,.n,.n,.w,.u,.e 2,.e 2,.e 2,.n,.n,.n,.w,.u] (gQ b_1 (gO (InK .i64 (c.topics*(1+2*c.small))) (by have hb:=size_nl hc; simp only [Cfg.Ok,InK] at *; omega) (gO (InK .i64 ((5+c.slots+c.topics)+(c.topics*(1+2*c.small)))) (by have hb:=size_nl hc; simp only [Cfg.Ok,InK] at *; omega) (gQ b_1 (gN fun b_2=>gQ b_2 (gQ b_2 (gQ b_2 (gO (InK .i64 (1+c.s0)) (by have hb:=size_nl hc; simp only [Cfg.Ok,InK] at *; omega) (gO (InK .i64 (c.n0*(1+c.s0))) (by have hb:=size_nl hc; simp only [Cfg.Ok,InK] at *; omega) (gO (InK .i64 (((5+c.slots+c.topics)+(c.topics*(1+2*c.small)))+(c.n0*(1+c.s0)))) (by have hb:=size_nl hc; simp only [Cfg.Ok,InK] at *; omega) (gN fun b_3=>gQ b_3 (gQ b_3 (gQ b_3 (gO (InK .i64 (1+c.s1)) (by have hb:=size_nl hc; simp only [Cfg.Ok,InK] at *; omega) (gO (InK .i64 (c.n1*(1+c.s1))) (by have hb:=size_nl hc; simp only [Cfg.Ok,InK] at *; omega) (gO (InK .i64 ((((5+c.slots+c.topics)+(c.topics*(1+2*c.small)))+(c.n0*(1+c.s0)))+(c.n1*(1+c.s1)))) (by have hb:=size_nl hc; simp only [Cfg.Ok,InK] at *; omega) (gR (vI ((((5+c.slots+c.topics)+(c.topics*(1+2*c.small)))+(c.n0*(1+c.s0)))+(c.n1*(1+c.s1)))) [] ⟨rfl,rfl⟩)))))))))))))))))
noncomputable def B118: Code:=(Tryz.f118.body).getD .skip
theorem arena_New(n:Int)(h:1≤n∧n≤4096):
  Ctr Tryz.prog 118 #[vI n] [] (fun v L => ∃(ba:Nat) (aw:Option Addr) (cw:Nat),v=vP ba∧L=[Ef0385 ba aw ((List.replicate n.toNat (0:Int)).length) cw 0 0 0 0 false,E54ea0 aw cw (List.replicate n.toNat (0:Int))]):=by
 refine cB B118 13 Tryz.func118 ?_
 intro F
 refine gX [.sp [5,4] [.dead] [.sp [8,7] [.dead] [.z [0,1,1] 1 [9]]]] (gQ (decide (n<1)) (gF (decide (n<1)) (by first | (simp; done) | (simp; omega)) (gQ (decide (n>4096)) (gF (decide (n>4096)) (by first | (simp; done) | (simp; omega)) (gW (ks:=[.o [0,1,1] 1,.c [1,1,1]]) [(9,vI n)] [] ?_)))))
 refine go_make (kl:=.i64) (kc:=.i64) (encI .u64) 0 (0:Int) 1 (sizedI _) 60 8 (some 10) n n kR (by omega) (by omega) (by omega) (by omega) ?_
 intro a_1 c_2
 exact gX [] (gN fun b_3=>gJ [1,0] ⟨b_3,a_1,c_2,rfl,rfl⟩)
noncomputable def B60: Code:=(Tryz.f60.body).getD .skip
theorem plan_Make(c:Cfg)(hc:c.Ok):
  Ctr Tryz.prog 60 #[cfgV c] [] (fun v L => ∃(ba:Nat) (aw:Option Addr) (cw:Nat),v = .tuple #[vP ba,.nilIface]∧L=[E3504b ba (mkAr c aw cw),E35fb1 (mkAr c aw cw)]):=by
 refine cB B60 67 Tryz.func60 ?_
 intro F
 refine gX [.e 0,.z [0,1] 1 [1,10]] (gN fun b_1=>gQ b_1 (gS [.o [0,1] 1,.c [1,1]] ?_))
 refine gC (some 11) [] Tryz.call64 (plan_Check c oM) ?_
 refine gX [.e 0,.z [0,1,1,1] 1 [1,15]] (gQ b_1 (gS [.o [0,1,1,1] 1,.c [1,1,1,1]] ?_))
 refine gC (some 16) [] Tryz.call119 (plan_Size c oM) ?_
 refine go_call (some 17) [] Tryz.call118 (arena_New (sizeOfC c) (by have:=sizeOfC_ok hc; omega)) kR ?_
 rintro v post ⟨ba_2,aw_3,cw_4,rfl,rfl⟩
 refine gX [.z [0,1,1,1,1] 1 [1,5,18]] (gS [.o [0,1,1,1,1] 1,.c [1,1,1,1,1]] ?_)
 refine gC (some 19) [1,2] Tryz.call107 (arena_Store ba_2 (⟨aw_3,cw_4,(List.replicate (sizeOfC c).toNat (0:Int)).length,(List.replicate (sizeOfC c).toNat (0:Int)),0,0,0,0,false⟩:Ar) 0 7597137583116413295 (by first | exact hx.2.1 | (simp [Ar.store]; done)) (by have:=sizeOfC_ok hc; first | omega | (simp [Ar.store]; omega) | (have hq:=blockAt_ok hc (clsOf_pos (c:=c) (b:=i.1) (by omega)); have:=hx.2.2.1; omega)) (by simp only [Cfg.Ok] at hc; first | omega | (simp [Ar.store]; done) | (simp [Ar.store]; omega))) ?_
 refine gX [.e 0,.z [0,1,1,1,1,1] 2 [1,5,20,21]] (gQ b_1 (gS [.o [0,1,1,1,1,1] 2,.c [1,1,1,1,1,1]] ?_))
 refine gC (some 22) [] Tryz.call120 (plan_Pack c oM) ?_
 refine gC (some 23) [1,2] Tryz.call107 (arena_Store ba_2 ((⟨aw_3,cw_4,(List.replicate (sizeOfC c).toNat (0:Int)).length,(List.replicate (sizeOfC c).toNat (0:Int)),0,0,0,0,false⟩:Ar).store 0 7597137583116413295) 1 (packW c) (by first | exact hx.2.1 | (simp [Ar.store]; done)) (by have:=sizeOfC_ok hc; first | omega | (simp [Ar.store]; omega) | (have hq:=blockAt_ok hc (clsOf_pos (c:=c) (b:=i.1) (by omega)); have:=hx.2.2.1; omega)) (by simp only [Cfg.Ok] at hc; first | omega | (simp [Ar.store]; done) | (simp [Ar.store]; omega))) ?_
 refine gX [.e 0,.u,.e 3,.e 3,.sp [32] [.z q7_2 2 [1,5,6,8,25,26,33,34]] [.e 3,.n,.w,.u,.e 4,.e 4,.sp [32] [.z q7_2 2 [1,5,6,8,25,26,33,34]] [.e 4,.n,.w,.u,.z q7_3 0 [1,5,9]]]] (gQ b_1 (gN fun b_5=>gQ b_5 (gQ b_5 (gB (decide (c.n0>0)) (fun h_7 => ?_) (fun h_7 => ?_)))))
 ·replace h_7:=decT h_7
  refine gS [.o q7_2 2,.c q7_4,.b 1,.c q7_5,.r q7_6,.b 0,.c q7_7] ?_
  refine gC (some 35) [] Tryz.call103 (plan_Head 0 oM) ?_
  refine gX [.w,.z q7_2 5 [1,5,6,8,25,26,33,35,37]] (gS [.o q7_2 5,.c q7_4,.b 1,.c q7_5,.r q7_6,.b 0,.c q7_7] ?_)
  refine gC (some 38) [1,2] Tryz.call107 (arena_Store ba_2 (((⟨aw_3,cw_4,(List.replicate (sizeOfC c).toNat (0:Int)).length,(List.replicate (sizeOfC c).toNat (0:Int)),0,0,0,0,false⟩:Ar).store 0 7597137583116413295).store 1 (packW c)) (3+0) 1 (by first | exact hx.2.1 | (simp [Ar.store]; done)) (by have:=sizeOfC_ok hc; first | omega | (simp [Ar.store]; omega) | (have hq:=blockAt_ok hc (clsOf_pos (c:=c) (b:=i.1) (by omega)); have:=hx.2.2.1; omega)) (by simp only [Cfg.Ok] at hc; first | omega | (simp [Ar.store]; done) | (simp [Ar.store]; omega))) ?_
  refine gX [.e 1,.n,.w,.u,.e 4,.e 4,.sp [32] [.z q7_2 2 [1,5,6,8,25,26,33,34]] [.e 4,.n,.w,.u,.z q7_3 0 [1,5,9]]] (gQ b_5 (gO (InK .i64 (1+c.n0)) (by simp only [Cfg.Ok,InK] at *; omega) (gN fun b_8=>gQ b_8 (gQ b_8 (gB (decide (c.n1>0)) (fun h_9 => ?_) (fun h_9 => ?_))))))
  ·replace h_9:=decT h_9
   refine gS [.o q7_2 2,.c q7_4,.b 1,.c q7_5,.r q7_6,.b 0,.c q7_7] ?_
   refine gC (some 35) [] Tryz.call103 (plan_Head 1 oM) ?_
   refine gX [.n,.z q7_2 5 [1,5,6,8,25,26,33,35,37]] (gO (InK .u64 (1+c.n0)) (by simp only [Cfg.Ok,InK] at *; omega) (gS [.o q7_2 5,.c q7_4,.b 1,.c q7_5,.r q7_6,.b 0,.c q7_7] ?_))
   refine gC (some 38) [2,3] Tryz.call107 (arena_Store ba_2 ((((⟨aw_3,cw_4,(List.replicate (sizeOfC c).toNat (0:Int)).length,(List.replicate (sizeOfC c).toNat (0:Int)),0,0,0,0,false⟩:Ar).store 0 7597137583116413295).store 1 (packW c)).store (3+0) 1) (3+1) (1+c.n0) (by first | exact hx.2.1 | (simp [Ar.store]; done)) (by have:=sizeOfC_ok hc; first | omega | (simp [Ar.store]; omega) | (have hq:=blockAt_ok hc (clsOf_pos (c:=c) (b:=i.1) (by omega)); have:=hx.2.2.1; omega)) (by simp only [Cfg.Ok] at hc; first | omega | (simp [Ar.store]; done) | (simp [Ar.store]; omega))) ?_
   refine gX [.e 2,.n,.w,.u,.z q7_3 0 [1,5,9]] (gQ b_8 (gO (InK .i64 ((1+c.n0)+c.n1)) (by simp only [Cfg.Ok,InK] at *; omega) (gW (ks:=[.c q7_3,.b 2,.c q7_8]) [(1,vP b_1),(5,vP ba_2),(9,vI 1)] [Efdc04 b_1 c,.pts b_5 [vI c.s0,vI c.n0] 26,.pts b_8 [vI c.s1,vI c.n1] 26,E3504b ba_2 (((((⟨aw_3,cw_4,(List.replicate (sizeOfC c).toNat (0:Int)).length,(List.replicate (sizeOfC c).toNat (0:Int)),0,0,0,0,false⟩:Ar).store 0 7597137583116413295).store 1 (packW c)).store (3+0) 1).store (3+1) (1+c.n0)),E35fb1 (((((⟨aw_3,cw_4,(List.replicate (sizeOfC c).toNat (0:Int)).length,(List.replicate (sizeOfC c).toNat (0:Int)),0,0,0,0,false⟩:Ar).store 0 7597137583116413295).store 1 (packW c)).store (3+0) 1).store (3+1) (1+c.n0))] ?_)))
   have hA0:(((((⟨aw_3,cw_4,(List.replicate (sizeOfC c).toNat (0:Int)).length,(List.replicate (sizeOfC c).toNat (0:Int)),0,0,0,0,false⟩:Ar).store 0 7597137583116413295).store 1 (packW c)).store (3+0) 1).store (3+1) (1+c.n0)).ws.length=(((((⟨aw_3,cw_4,(List.replicate (sizeOfC c).toNat (0:Int)).length,(List.replicate (sizeOfC c).toNat (0:Int)),0,0,0,0,false⟩:Ar).store 0 7597137583116413295).store 1 (packW c)).store (3+0) 1).store (3+1) (1+c.n0)).n∧((((((⟨aw_3,cw_4,(List.replicate (sizeOfC c).toNat (0:Int)).length,(List.replicate (sizeOfC c).toNat (0:Int)),0,0,0,0,false⟩:Ar).store 0 7597137583116413295).store 1 (packW c)).store (3+0) 1).store (3+1) (1+c.n0)).n:Int)=sizeOfC c∧0≤(((((⟨aw_3,cw_4,(List.replicate (sizeOfC c).toNat (0:Int)).length,(List.replicate (sizeOfC c).toNat (0:Int)),0,0,0,0,false⟩:Ar).store 0 7597137583116413295).store 1 (packW c)).store (3+0) 1).store (3+1) (1+c.n0)).steps∧(((((⟨aw_3,cw_4,(List.replicate (sizeOfC c).toNat (0:Int)).length,(List.replicate (sizeOfC c).toNat (0:Int)),0,0,0,0,false⟩:Ar).store 0 7597137583116413295).store 1 (packW c)).store (3+0) 1).store (3+1) (1+c.n0)).steps≤4:=by have:=sizeOfC_ok hc; simp [Ar.store]; omega
   refine go_loop (ι := Int×Ar) (fun i=>[(1,vP b_1),(5,vP ba_2),(9,vI i.1)]) (fun i=>[Efdc04 b_1 c,E3504b ba_2 i.2,E35fb1 i.2]) (fun i=>mkLink c (c.n0+c.n1-i.1).toNat i.1 i.2=mkAr c aw_3 cw_4∧i.2.ws.length=i.2.n∧(i.2.n:Int)=sizeOfC c∧(0≤i.2.steps∧i.2.steps≤4+i.1)∧1≤i.1) (fun i=>(c.n0+c.n1-i.1).toNat) (1,(((((⟨aw_3,cw_4,(List.replicate (sizeOfC c).toNat (0:Int)).length,(List.replicate (sizeOfC c).toNat (0:Int)),0,0,0,0,false⟩:Ar).store 0 7597137583116413295).store 1 (packW c)).store (3+0) 1).store (3+1) (1+c.n0))) [1,5,9] [0,3,4] kR kR kR kR ⟨(by unfold mkAr mkHead; (repeat' (first | rw [if_pos (show 0<c.n1 by omega)] | rw [if_pos (show 0<c.n0 by omega)] | rw [if_neg (show ¬ 0<c.n1 by omega)] | rw [if_neg (show ¬ 0<c.n0 by omega)])); first | done | kernel_rfl),hA0.1,hA0.2.1,(by dsimp only; omega),(by dsimp only; omega)⟩ ?_
   intro i J_10 hIJ_10 hJ_10
   have hx:=hIJ_10
   refine gX [.e 0,.z q7_9 2 [1,5,9,44,45]] (gQ b_1 (gS [.o q7_9 2,.c q7_10,.c q7_11,.j J_10,.b 2,.c q7_8] ?_))
   refine gC (some 46) [] Tryz.call121 (plan_Blocks c oM) ?_
   refine gX [.sp [47] [.z q7_12 0 [1,5,9]] []] (gB (decide (i.1<(c.n0+c.n1))) (fun h_11 => ?_) (fun h_11 => ?_))
   ·replace h_11:=decT h_11
    refine gS [.c q7_12,.c q7_13,.b 3,.c q7_14,.j J_10,.b 2,.c q7_8] ?_
    refine qG (kV 0 [.e 0,.ww,.q (vI (clsOf c i.1)),.e 0,.ww,.h (.n),.q (vI (clsOf c (i.1+1))),.ww]) [1,5,9,57] (.e b_1 (.e b_1 (.p (InK .i64 (i.1+1)) (by simp only [Cfg.Ok,InK] at *; omega) .n))) (.c Tryz.call78 (qR [] (plan_Class c i.1 oM (by simp only [Cfg.Ok,InK] at *; omega))) (.c Tryz.call78 (qR [] (plan_Class c (i.1+1) oM (by simp only [Cfg.Ok,InK] at *; omega))) .n)) ?_
    refine gX [.sp [57] [.e 0,.z q7_15 3 [1,5,9,58,59,60]] [.n,.z [] 0 [1,5,9]]] (gB ((clsOf c i.1)==(clsOf c (i.1+1))) (fun h_12 => ?_) (fun h_12 => ?_))
    ·replace h_12:=beqT h_12
     refine gQ b_1 (gS [.o q7_15 3,.b 3,.c q7_14,.j J_10,.b 2,.c q7_8] ?_)
     refine gC (some 61) [] Tryz.call105 (plan_Block c i.1 oM (by simp only [Cfg.Ok,InK] at *; omega)) ?_
     refine gX [.n,.n,.z q7_15 7 [1,5,9,58,61,64]] (gO (InK .i64 (i.1+1)) (by simp only [Cfg.Ok,InK] at *; omega) (gO (InK .u64 (i.1+1)) (by simp only [Cfg.Ok,InK] at *; omega) (gS [.o q7_15 7,.b 3,.c q7_14,.j J_10,.b 2,.c q7_8] ?_)))
     refine gC (some 65) [1,2] Tryz.call107 (arena_Store ba_2 i.2 (blockAt c i.1) (i.1+1) (by first | exact hx.2.1 | (simp [Ar.store]; done)) (by have:=sizeOfC_ok hc; first | omega | (simp [Ar.store]; omega) | (have hq:=blockAt_ok hc (clsOf_pos (c:=c) (b:=i.1) (by omega)); have:=hx.2.2.1; omega)) (by simp only [Cfg.Ok] at hc; first | omega | (simp [Ar.store]; done) | (simp [Ar.store]; omega))) ?_
     refine gX [.n,.z [] 0 [1,5,9]] (gO (InK .i64 (i.1+1)) (by simp only [Cfg.Ok,InK] at *; omega) (gS [.j J_10,.b 2,.c q7_8] ?_))
     exact go_back hJ_10 ((i.1+1),(i.2.store (blockAt c i.1) (i.1+1))) [0,1,2] kR kR kR ⟨(by rw [←hx.1,mkLink_next (c:=c) (b:=i.1) (A:=i.2) (by omega),if_pos (by assumption)]),(by first | exact hx.2.1 | (simp only [Ar.store,List.length_set]; exact hx.2.1)),hx.2.2.1,(by simp only [Ar.store] at *; omega),(by omega)⟩ (by simp; omega)
    ·replace h_12:=beqF h_12
     refine gO (InK .i64 (i.1+1)) (by simp only [Cfg.Ok,InK] at *; omega) (gS [.j J_10,.b 2,.c q7_8] ?_)
     exact go_back hJ_10 ((i.1+1),i.2) [0,1,2] kR kR kR ⟨(by rw [←hx.1,mkLink_next (c:=c) (b:=i.1) (A:=i.2) (by omega),if_neg (by assumption)]),(by first | exact hx.2.1 | (simp only [Ar.store,List.length_set]; exact hx.2.1)),hx.2.2.1,(by simp only [Ar.store] at *; omega),(by omega)⟩ (by simp; omega)
   ·replace h_11:=decF h_11
    refine gW0 (.tuple #[vP ba_2,.nilIface]) [Efdc04 b_1 c,E3504b ba_2 i.2,E35fb1 i.2] ?_
    exact ret_ok (post:=[E3504b ba_2 i.2,E35fb1 i.2]) [1,2] kR ⟨ba_2,aw_3,cw_4,rfl,(by rw [←hx.1,mkLink_end (c:=c) (b:=i.1) (A:=i.2) (by omega)])⟩
  ·replace h_9:=decF h_9
   refine gQ b_8 (gO (InK .i64 ((1+c.n0)+c.n1)) (by simp only [Cfg.Ok,InK] at *; omega) (gW (ks:=[.c q7_3,.b 2,.c q7_8]) [(1,vP b_1),(5,vP ba_2),(9,vI 1)] [Efdc04 b_1 c,.pts b_5 [vI c.s0,vI c.n0] 26,E3504b ba_2 ((((⟨aw_3,cw_4,(List.replicate (sizeOfC c).toNat (0:Int)).length,(List.replicate (sizeOfC c).toNat (0:Int)),0,0,0,0,false⟩:Ar).store 0 7597137583116413295).store 1 (packW c)).store (3+0) 1),E35fb1 ((((⟨aw_3,cw_4,(List.replicate (sizeOfC c).toNat (0:Int)).length,(List.replicate (sizeOfC c).toNat (0:Int)),0,0,0,0,false⟩:Ar).store 0 7597137583116413295).store 1 (packW c)).store (3+0) 1),.pts b_8 [vI c.s1,vI c.n1] 26] ?_))
   have hA0:((((⟨aw_3,cw_4,(List.replicate (sizeOfC c).toNat (0:Int)).length,(List.replicate (sizeOfC c).toNat (0:Int)),0,0,0,0,false⟩:Ar).store 0 7597137583116413295).store 1 (packW c)).store (3+0) 1).ws.length=((((⟨aw_3,cw_4,(List.replicate (sizeOfC c).toNat (0:Int)).length,(List.replicate (sizeOfC c).toNat (0:Int)),0,0,0,0,false⟩:Ar).store 0 7597137583116413295).store 1 (packW c)).store (3+0) 1).n∧(((((⟨aw_3,cw_4,(List.replicate (sizeOfC c).toNat (0:Int)).length,(List.replicate (sizeOfC c).toNat (0:Int)),0,0,0,0,false⟩:Ar).store 0 7597137583116413295).store 1 (packW c)).store (3+0) 1).n:Int)=sizeOfC c∧0≤((((⟨aw_3,cw_4,(List.replicate (sizeOfC c).toNat (0:Int)).length,(List.replicate (sizeOfC c).toNat (0:Int)),0,0,0,0,false⟩:Ar).store 0 7597137583116413295).store 1 (packW c)).store (3+0) 1).steps∧((((⟨aw_3,cw_4,(List.replicate (sizeOfC c).toNat (0:Int)).length,(List.replicate (sizeOfC c).toNat (0:Int)),0,0,0,0,false⟩:Ar).store 0 7597137583116413295).store 1 (packW c)).store (3+0) 1).steps≤4:=by have:=sizeOfC_ok hc; simp [Ar.store]; omega
   refine go_loop (ι := Int×Ar) (fun i=>[(1,vP b_1),(5,vP ba_2),(9,vI i.1)]) (fun i=>[Efdc04 b_1 c,E3504b ba_2 i.2,E35fb1 i.2]) (fun i=>mkLink c (c.n0+c.n1-i.1).toNat i.1 i.2=mkAr c aw_3 cw_4∧i.2.ws.length=i.2.n∧(i.2.n:Int)=sizeOfC c∧(0≤i.2.steps∧i.2.steps≤4+i.1)∧1≤i.1) (fun i=>(c.n0+c.n1-i.1).toNat) (1,((((⟨aw_3,cw_4,(List.replicate (sizeOfC c).toNat (0:Int)).length,(List.replicate (sizeOfC c).toNat (0:Int)),0,0,0,0,false⟩:Ar).store 0 7597137583116413295).store 1 (packW c)).store (3+0) 1)) [1,5,9] [0,2,3] kR kR kR kR ⟨(by unfold mkAr mkHead; (repeat' (first | rw [if_pos (show 0<c.n1 by omega)] | rw [if_pos (show 0<c.n0 by omega)] | rw [if_neg (show ¬ 0<c.n1 by omega)] | rw [if_neg (show ¬ 0<c.n0 by omega)])); first | done | kernel_rfl),hA0.1,hA0.2.1,(by dsimp only; omega),(by dsimp only; omega)⟩ ?_
   intro i J_13 hIJ_13 hJ_13
   have hx:=hIJ_13
   refine gX [.e 0,.z q7_9 2 [1,5,9,44,45]] (gQ b_1 (gS [.o q7_9 2,.c q7_10,.c q7_11,.j J_13,.b 2,.c q7_8] ?_))
   refine gC (some 46) [] Tryz.call121 (plan_Blocks c oM) ?_
   refine gX [.sp [47] [.z q7_12 0 [1,5,9]] []] (gB (decide (i.1<(c.n0+c.n1))) (fun h_14 => ?_) (fun h_14 => ?_))
   ·replace h_14:=decT h_14
    refine gS [.c q7_12,.c q7_13,.b 3,.c q7_14,.j J_13,.b 2,.c q7_8] ?_
    refine qG (kV 0 [.e 0,.ww,.q (vI (clsOf c i.1)),.e 0,.ww,.h (.n),.q (vI (clsOf c (i.1+1))),.ww]) [1,5,9,57] (.e b_1 (.e b_1 (.p (InK .i64 (i.1+1)) (by simp only [Cfg.Ok,InK] at *; omega) .n))) (.c Tryz.call78 (qR [] (plan_Class c i.1 oM (by simp only [Cfg.Ok,InK] at *; omega))) (.c Tryz.call78 (qR [] (plan_Class c (i.1+1) oM (by simp only [Cfg.Ok,InK] at *; omega))) .n)) ?_
    refine gX [.sp [57] [.e 0,.z q7_15 3 [1,5,9,58,59,60]] [.n,.z [] 0 [1,5,9]]] (gB ((clsOf c i.1)==(clsOf c (i.1+1))) (fun h_15 => ?_) (fun h_15 => ?_))
    ·replace h_15:=beqT h_15
     refine gQ b_1 (gS [.o q7_15 3,.b 3,.c q7_14,.j J_13,.b 2,.c q7_8] ?_)
     refine gC (some 61) [] Tryz.call105 (plan_Block c i.1 oM (by simp only [Cfg.Ok,InK] at *; omega)) ?_
     refine gX [.n,.n,.z q7_15 7 [1,5,9,58,61,64]] (gO (InK .i64 (i.1+1)) (by simp only [Cfg.Ok,InK] at *; omega) (gO (InK .u64 (i.1+1)) (by simp only [Cfg.Ok,InK] at *; omega) (gS [.o q7_15 7,.b 3,.c q7_14,.j J_13,.b 2,.c q7_8] ?_)))
     refine gC (some 65) [1,2] Tryz.call107 (arena_Store ba_2 i.2 (blockAt c i.1) (i.1+1) (by first | exact hx.2.1 | (simp [Ar.store]; done)) (by have:=sizeOfC_ok hc; first | omega | (simp [Ar.store]; omega) | (have hq:=blockAt_ok hc (clsOf_pos (c:=c) (b:=i.1) (by omega)); have:=hx.2.2.1; omega)) (by simp only [Cfg.Ok] at hc; first | omega | (simp [Ar.store]; done) | (simp [Ar.store]; omega))) ?_
     refine gX [.n,.z [] 0 [1,5,9]] (gO (InK .i64 (i.1+1)) (by simp only [Cfg.Ok,InK] at *; omega) (gS [.j J_13,.b 2,.c q7_8] ?_))
     exact go_back hJ_13 ((i.1+1),(i.2.store (blockAt c i.1) (i.1+1))) [0,1,2] kR kR kR ⟨(by rw [←hx.1,mkLink_next (c:=c) (b:=i.1) (A:=i.2) (by omega),if_pos (by assumption)]),(by first | exact hx.2.1 | (simp only [Ar.store,List.length_set]; exact hx.2.1)),hx.2.2.1,(by simp only [Ar.store] at *; omega),(by omega)⟩ (by simp; omega)
    ·replace h_15:=beqF h_15
     refine gO (InK .i64 (i.1+1)) (by simp only [Cfg.Ok,InK] at *; omega) (gS [.j J_13,.b 2,.c q7_8] ?_)
     exact go_back hJ_13 ((i.1+1),i.2) [0,1,2] kR kR kR ⟨(by rw [←hx.1,mkLink_next (c:=c) (b:=i.1) (A:=i.2) (by omega),if_neg (by assumption)]),(by first | exact hx.2.1 | (simp only [Ar.store,List.length_set]; exact hx.2.1)),hx.2.2.1,(by simp only [Ar.store] at *; omega),(by omega)⟩ (by simp; omega)
   ·replace h_14:=decF h_14
    refine gW0 (.tuple #[vP ba_2,.nilIface]) [Efdc04 b_1 c,E3504b ba_2 i.2,E35fb1 i.2] ?_
    exact ret_ok (post:=[E3504b ba_2 i.2,E35fb1 i.2]) [1,2] kR ⟨ba_2,aw_3,cw_4,rfl,(by rw [←hx.1,mkLink_end (c:=c) (b:=i.1) (A:=i.2) (by omega)])⟩
 ·replace h_7:=decF h_7
  refine gQ b_5 (gO (InK .i64 (1+c.n0)) (by simp only [Cfg.Ok,InK] at *; omega) (gN fun b_6=>gQ b_6 (gQ b_6 (gB (decide (c.n1>0)) (fun h_16 => ?_) (fun h_16 => ?_)))))
  ·replace h_16:=decT h_16
   refine gS [.o q7_2 2,.c q7_4,.b 1,.c q7_5,.r q7_6,.b 0,.c q7_7] ?_
   refine gC (some 35) [] Tryz.call103 (plan_Head 1 oM) ?_
   refine gX [.n,.z q7_2 5 [1,5,6,8,25,26,33,35,37]] (gO (InK .u64 (1+c.n0)) (by simp only [Cfg.Ok,InK] at *; omega) (gS [.o q7_2 5,.c q7_4,.b 1,.c q7_5,.r q7_6,.b 0,.c q7_7] ?_))
   refine gC (some 38) [1,2] Tryz.call107 (arena_Store ba_2 (((⟨aw_3,cw_4,(List.replicate (sizeOfC c).toNat (0:Int)).length,(List.replicate (sizeOfC c).toNat (0:Int)),0,0,0,0,false⟩:Ar).store 0 7597137583116413295).store 1 (packW c)) (3+1) (1+c.n0) (by first | exact hx.2.1 | (simp [Ar.store]; done)) (by have:=sizeOfC_ok hc; first | omega | (simp [Ar.store]; omega) | (have hq:=blockAt_ok hc (clsOf_pos (c:=c) (b:=i.1) (by omega)); have:=hx.2.2.1; omega)) (by simp only [Cfg.Ok] at hc; first | omega | (simp [Ar.store]; done) | (simp [Ar.store]; omega))) ?_
   refine gX [.e 2,.n,.w,.u,.z q7_3 0 [1,5,9]] (gQ b_6 (gO (InK .i64 ((1+c.n0)+c.n1)) (by simp only [Cfg.Ok,InK] at *; omega) (gW (ks:=[.c q7_3,.b 2,.c q7_8]) [(1,vP b_1),(5,vP ba_2),(9,vI 1)] [Efdc04 b_1 c,.pts b_5 [vI c.s0,vI c.n0] 26,.pts b_6 [vI c.s1,vI c.n1] 26,E3504b ba_2 ((((⟨aw_3,cw_4,(List.replicate (sizeOfC c).toNat (0:Int)).length,(List.replicate (sizeOfC c).toNat (0:Int)),0,0,0,0,false⟩:Ar).store 0 7597137583116413295).store 1 (packW c)).store (3+1) (1+c.n0)),E35fb1 ((((⟨aw_3,cw_4,(List.replicate (sizeOfC c).toNat (0:Int)).length,(List.replicate (sizeOfC c).toNat (0:Int)),0,0,0,0,false⟩:Ar).store 0 7597137583116413295).store 1 (packW c)).store (3+1) (1+c.n0))] ?_)))
   have hA0:((((⟨aw_3,cw_4,(List.replicate (sizeOfC c).toNat (0:Int)).length,(List.replicate (sizeOfC c).toNat (0:Int)),0,0,0,0,false⟩:Ar).store 0 7597137583116413295).store 1 (packW c)).store (3+1) (1+c.n0)).ws.length=((((⟨aw_3,cw_4,(List.replicate (sizeOfC c).toNat (0:Int)).length,(List.replicate (sizeOfC c).toNat (0:Int)),0,0,0,0,false⟩:Ar).store 0 7597137583116413295).store 1 (packW c)).store (3+1) (1+c.n0)).n∧(((((⟨aw_3,cw_4,(List.replicate (sizeOfC c).toNat (0:Int)).length,(List.replicate (sizeOfC c).toNat (0:Int)),0,0,0,0,false⟩:Ar).store 0 7597137583116413295).store 1 (packW c)).store (3+1) (1+c.n0)).n:Int)=sizeOfC c∧0≤((((⟨aw_3,cw_4,(List.replicate (sizeOfC c).toNat (0:Int)).length,(List.replicate (sizeOfC c).toNat (0:Int)),0,0,0,0,false⟩:Ar).store 0 7597137583116413295).store 1 (packW c)).store (3+1) (1+c.n0)).steps∧((((⟨aw_3,cw_4,(List.replicate (sizeOfC c).toNat (0:Int)).length,(List.replicate (sizeOfC c).toNat (0:Int)),0,0,0,0,false⟩:Ar).store 0 7597137583116413295).store 1 (packW c)).store (3+1) (1+c.n0)).steps≤4:=by have:=sizeOfC_ok hc; simp [Ar.store]; omega
   refine go_loop (ι := Int×Ar) (fun i=>[(1,vP b_1),(5,vP ba_2),(9,vI i.1)]) (fun i=>[Efdc04 b_1 c,E3504b ba_2 i.2,E35fb1 i.2]) (fun i=>mkLink c (c.n0+c.n1-i.1).toNat i.1 i.2=mkAr c aw_3 cw_4∧i.2.ws.length=i.2.n∧(i.2.n:Int)=sizeOfC c∧(0≤i.2.steps∧i.2.steps≤4+i.1)∧1≤i.1) (fun i=>(c.n0+c.n1-i.1).toNat) (1,((((⟨aw_3,cw_4,(List.replicate (sizeOfC c).toNat (0:Int)).length,(List.replicate (sizeOfC c).toNat (0:Int)),0,0,0,0,false⟩:Ar).store 0 7597137583116413295).store 1 (packW c)).store (3+1) (1+c.n0))) [1,5,9] [0,3,4] kR kR kR kR ⟨(by unfold mkAr mkHead; (repeat' (first | rw [if_pos (show 0<c.n1 by omega)] | rw [if_pos (show 0<c.n0 by omega)] | rw [if_neg (show ¬ 0<c.n1 by omega)] | rw [if_neg (show ¬ 0<c.n0 by omega)])); first | done | kernel_rfl),hA0.1,hA0.2.1,(by dsimp only; omega),(by dsimp only; omega)⟩ ?_
   intro i J_17 hIJ_17 hJ_17
   have hx:=hIJ_17
   refine gX [.e 0,.z q7_9 2 [1,5,9,44,45]] (gQ b_1 (gS [.o q7_9 2,.c q7_10,.c q7_11,.j J_17,.b 2,.c q7_8] ?_))
   refine gC (some 46) [] Tryz.call121 (plan_Blocks c oM) ?_
   refine gX [.sp [47] [.z q7_12 0 [1,5,9]] []] (gB (decide (i.1<(c.n0+c.n1))) (fun h_18 => ?_) (fun h_18 => ?_))
   ·replace h_18:=decT h_18
    refine gS [.c q7_12,.c q7_13,.b 3,.c q7_14,.j J_17,.b 2,.c q7_8] ?_
    refine qG (kV 0 [.e 0,.ww,.q (vI (clsOf c i.1)),.e 0,.ww,.h (.n),.q (vI (clsOf c (i.1+1))),.ww]) [1,5,9,57] (.e b_1 (.e b_1 (.p (InK .i64 (i.1+1)) (by simp only [Cfg.Ok,InK] at *; omega) .n))) (.c Tryz.call78 (qR [] (plan_Class c i.1 oM (by simp only [Cfg.Ok,InK] at *; omega))) (.c Tryz.call78 (qR [] (plan_Class c (i.1+1) oM (by simp only [Cfg.Ok,InK] at *; omega))) .n)) ?_
    refine gX [.sp [57] [.e 0,.z q7_15 3 [1,5,9,58,59,60]] [.n,.z [] 0 [1,5,9]]] (gB ((clsOf c i.1)==(clsOf c (i.1+1))) (fun h_19 => ?_) (fun h_19 => ?_))
    ·replace h_19:=beqT h_19
     refine gQ b_1 (gS [.o q7_15 3,.b 3,.c q7_14,.j J_17,.b 2,.c q7_8] ?_)
     refine gC (some 61) [] Tryz.call105 (plan_Block c i.1 oM (by simp only [Cfg.Ok,InK] at *; omega)) ?_
     refine gX [.n,.n,.z q7_15 7 [1,5,9,58,61,64]] (gO (InK .i64 (i.1+1)) (by simp only [Cfg.Ok,InK] at *; omega) (gO (InK .u64 (i.1+1)) (by simp only [Cfg.Ok,InK] at *; omega) (gS [.o q7_15 7,.b 3,.c q7_14,.j J_17,.b 2,.c q7_8] ?_)))
     refine gC (some 65) [1,2] Tryz.call107 (arena_Store ba_2 i.2 (blockAt c i.1) (i.1+1) (by first | exact hx.2.1 | (simp [Ar.store]; done)) (by have:=sizeOfC_ok hc; first | omega | (simp [Ar.store]; omega) | (have hq:=blockAt_ok hc (clsOf_pos (c:=c) (b:=i.1) (by omega)); have:=hx.2.2.1; omega)) (by simp only [Cfg.Ok] at hc; first | omega | (simp [Ar.store]; done) | (simp [Ar.store]; omega))) ?_
     refine gX [.n,.z [] 0 [1,5,9]] (gO (InK .i64 (i.1+1)) (by simp only [Cfg.Ok,InK] at *; omega) (gS [.j J_17,.b 2,.c q7_8] ?_))
     exact go_back hJ_17 ((i.1+1),(i.2.store (blockAt c i.1) (i.1+1))) [0,1,2] kR kR kR ⟨(by rw [←hx.1,mkLink_next (c:=c) (b:=i.1) (A:=i.2) (by omega),if_pos (by assumption)]),(by first | exact hx.2.1 | (simp only [Ar.store,List.length_set]; exact hx.2.1)),hx.2.2.1,(by simp only [Ar.store] at *; omega),(by omega)⟩ (by simp; omega)
    ·replace h_19:=beqF h_19
     refine gO (InK .i64 (i.1+1)) (by simp only [Cfg.Ok,InK] at *; omega) (gS [.j J_17,.b 2,.c q7_8] ?_)
     exact go_back hJ_17 ((i.1+1),i.2) [0,1,2] kR kR kR ⟨(by rw [←hx.1,mkLink_next (c:=c) (b:=i.1) (A:=i.2) (by omega),if_neg (by assumption)]),(by first | exact hx.2.1 | (simp only [Ar.store,List.length_set]; exact hx.2.1)),hx.2.2.1,(by simp only [Ar.store] at *; omega),(by omega)⟩ (by simp; omega)
   ·replace h_18:=decF h_18
    refine gW0 (.tuple #[vP ba_2,.nilIface]) [Efdc04 b_1 c,E3504b ba_2 i.2,E35fb1 i.2] ?_
    exact ret_ok (post:=[E3504b ba_2 i.2,E35fb1 i.2]) [1,2] kR ⟨ba_2,aw_3,cw_4,rfl,(by rw [←hx.1,mkLink_end (c:=c) (b:=i.1) (A:=i.2) (by omega)])⟩
  ·replace h_16:=decF h_16
   refine gQ b_6 (gO (InK .i64 ((1+c.n0)+c.n1)) (by simp only [Cfg.Ok,InK] at *; omega) (gW (ks:=[.c q7_3,.b 2,.c q7_8]) [(1,vP b_1),(5,vP ba_2),(9,vI 1)] [Efdc04 b_1 c,E3504b ba_2 (((⟨aw_3,cw_4,(List.replicate (sizeOfC c).toNat (0:Int)).length,(List.replicate (sizeOfC c).toNat (0:Int)),0,0,0,0,false⟩:Ar).store 0 7597137583116413295).store 1 (packW c)),E35fb1 (((⟨aw_3,cw_4,(List.replicate (sizeOfC c).toNat (0:Int)).length,(List.replicate (sizeOfC c).toNat (0:Int)),0,0,0,0,false⟩:Ar).store 0 7597137583116413295).store 1 (packW c)),.pts b_5 [vI c.s0,vI c.n0] 26,.pts b_6 [vI c.s1,vI c.n1] 26] ?_))
   have hA0:(((⟨aw_3,cw_4,(List.replicate (sizeOfC c).toNat (0:Int)).length,(List.replicate (sizeOfC c).toNat (0:Int)),0,0,0,0,false⟩:Ar).store 0 7597137583116413295).store 1 (packW c)).ws.length=(((⟨aw_3,cw_4,(List.replicate (sizeOfC c).toNat (0:Int)).length,(List.replicate (sizeOfC c).toNat (0:Int)),0,0,0,0,false⟩:Ar).store 0 7597137583116413295).store 1 (packW c)).n∧((((⟨aw_3,cw_4,(List.replicate (sizeOfC c).toNat (0:Int)).length,(List.replicate (sizeOfC c).toNat (0:Int)),0,0,0,0,false⟩:Ar).store 0 7597137583116413295).store 1 (packW c)).n:Int)=sizeOfC c∧0≤(((⟨aw_3,cw_4,(List.replicate (sizeOfC c).toNat (0:Int)).length,(List.replicate (sizeOfC c).toNat (0:Int)),0,0,0,0,false⟩:Ar).store 0 7597137583116413295).store 1 (packW c)).steps∧(((⟨aw_3,cw_4,(List.replicate (sizeOfC c).toNat (0:Int)).length,(List.replicate (sizeOfC c).toNat (0:Int)),0,0,0,0,false⟩:Ar).store 0 7597137583116413295).store 1 (packW c)).steps≤4:=by have:=sizeOfC_ok hc; simp [Ar.store]; omega
   refine go_loop (ι := Int×Ar) (fun i=>[(1,vP b_1),(5,vP ba_2),(9,vI i.1)]) (fun i=>[Efdc04 b_1 c,E3504b ba_2 i.2,E35fb1 i.2]) (fun i=>mkLink c (c.n0+c.n1-i.1).toNat i.1 i.2=mkAr c aw_3 cw_4∧i.2.ws.length=i.2.n∧(i.2.n:Int)=sizeOfC c∧(0≤i.2.steps∧i.2.steps≤4+i.1)∧1≤i.1) (fun i=>(c.n0+c.n1-i.1).toNat) (1,(((⟨aw_3,cw_4,(List.replicate (sizeOfC c).toNat (0:Int)).length,(List.replicate (sizeOfC c).toNat (0:Int)),0,0,0,0,false⟩:Ar).store 0 7597137583116413295).store 1 (packW c))) [1,5,9] [0,1,2] kR kR kR kR ⟨(by unfold mkAr mkHead; (repeat' (first | rw [if_pos (show 0<c.n1 by omega)] | rw [if_pos (show 0<c.n0 by omega)] | rw [if_neg (show ¬ 0<c.n1 by omega)] | rw [if_neg (show ¬ 0<c.n0 by omega)])); first | done | kernel_rfl),hA0.1,hA0.2.1,(by dsimp only; omega),(by dsimp only; omega)⟩ ?_
   intro i J_20 hIJ_20 hJ_20
   have hx:=hIJ_20
   refine gX [.e 0,.z q7_9 2 [1,5,9,44,45]] (gQ b_1 (gS [.o q7_9 2,.c q7_10,.c q7_11,.j J_20,.b 2,.c q7_8] ?_))
   refine gC (some 46) [] Tryz.call121 (plan_Blocks c oM) ?_
   refine gX [.sp [47] [.z q7_12 0 [1,5,9]] []] (gB (decide (i.1<(c.n0+c.n1))) (fun h_21 => ?_) (fun h_21 => ?_))
   ·replace h_21:=decT h_21
    refine gS [.c q7_12,.c q7_13,.b 3,.c q7_14,.j J_20,.b 2,.c q7_8] ?_
    refine qG (kV 0 [.e 0,.ww,.q (vI (clsOf c i.1)),.e 0,.ww,.h (.n),.q (vI (clsOf c (i.1+1))),.ww]) [1,5,9,57] (.e b_1 (.e b_1 (.p (InK .i64 (i.1+1)) (by simp only [Cfg.Ok,InK] at *; omega) .n))) (.c Tryz.call78 (qR [] (plan_Class c i.1 oM (by simp only [Cfg.Ok,InK] at *; omega))) (.c Tryz.call78 (qR [] (plan_Class c (i.1+1) oM (by simp only [Cfg.Ok,InK] at *; omega))) .n)) ?_
    refine gX [.sp [57] [.e 0,.z q7_15 3 [1,5,9,58,59,60]] [.n,.z [] 0 [1,5,9]]] (gB ((clsOf c i.1)==(clsOf c (i.1+1))) (fun h_22 => ?_) (fun h_22 => ?_))
    ·replace h_22:=beqT h_22
     refine gQ b_1 (gS [.o q7_15 3,.b 3,.c q7_14,.j J_20,.b 2,.c q7_8] ?_)
     refine gC (some 61) [] Tryz.call105 (plan_Block c i.1 oM (by simp only [Cfg.Ok,InK] at *; omega)) ?_
     refine gX [.n,.n,.z q7_15 7 [1,5,9,58,61,64]] (gO (InK .i64 (i.1+1)) (by simp only [Cfg.Ok,InK] at *; omega) (gO (InK .u64 (i.1+1)) (by simp only [Cfg.Ok,InK] at *; omega) (gS [.o q7_15 7,.b 3,.c q7_14,.j J_20,.b 2,.c q7_8] ?_)))
     refine gC (some 65) [1,2] Tryz.call107 (arena_Store ba_2 i.2 (blockAt c i.1) (i.1+1) (by first | exact hx.2.1 | (simp [Ar.store]; done)) (by have:=sizeOfC_ok hc; first | omega | (simp [Ar.store]; omega) | (have hq:=blockAt_ok hc (clsOf_pos (c:=c) (b:=i.1) (by omega)); have:=hx.2.2.1; omega)) (by simp only [Cfg.Ok] at hc; first | omega | (simp [Ar.store]; done) | (simp [Ar.store]; omega))) ?_
     refine gX [.n,.z [] 0 [1,5,9]] (gO (InK .i64 (i.1+1)) (by simp only [Cfg.Ok,InK] at *; omega) (gS [.j J_20,.b 2,.c q7_8] ?_))
     exact go_back hJ_20 ((i.1+1),(i.2.store (blockAt c i.1) (i.1+1))) [0,1,2] kR kR kR ⟨(by rw [←hx.1,mkLink_next (c:=c) (b:=i.1) (A:=i.2) (by omega),if_pos (by assumption)]),(by first | exact hx.2.1 | (simp only [Ar.store,List.length_set]; exact hx.2.1)),hx.2.2.1,(by simp only [Ar.store] at *; omega),(by omega)⟩ (by simp; omega)
    ·replace h_22:=beqF h_22
     refine gO (InK .i64 (i.1+1)) (by simp only [Cfg.Ok,InK] at *; omega) (gS [.j J_20,.b 2,.c q7_8] ?_)
     exact go_back hJ_20 ((i.1+1),i.2) [0,1,2] kR kR kR ⟨(by rw [←hx.1,mkLink_next (c:=c) (b:=i.1) (A:=i.2) (by omega),if_neg (by assumption)]),(by first | exact hx.2.1 | (simp only [Ar.store,List.length_set]; exact hx.2.1)),hx.2.2.1,(by simp only [Ar.store] at *; omega),(by omega)⟩ (by simp; omega)
   ·replace h_21:=decF h_21
    refine gW0 (.tuple #[vP ba_2,.nilIface]) [Efdc04 b_1 c,E3504b ba_2 i.2,E35fb1 i.2] ?_
    exact ret_ok (post:=[E3504b ba_2 i.2,E35fb1 i.2]) [1,2] kR ⟨ba_2,aw_3,cw_4,rfl,(by rw [←hx.1,mkLink_end (c:=c) (b:=i.1) (A:=i.2) (by omega)])⟩
end Go.Proofs.YtpcaijopodhdgaaGreatDoor
namespace Go.Proofs.YtpcaijopodhdgaaGreatDoor
open Go.Sx
abbrev Ece86a(x0:Nat)(c1:Cfg)(x2:Int)(x3:Nat)(x4:Option Addr)(x5:Nat)(x6:Nat): Ent:=.pts x0 [.int .i64 c1.topics,.int .i64 c1.small,.int .i64 c1.slots,.int .i64 c1.clients,.int .i64 c1.s0,.int .i64 c1.n0,.int .i64 c1.s1,.int .i64 c1.n1,.int .i64 c1.retry,.int .i64 x2,.map (some x3),.slice x4 x5 x6,.slice none 0 0,.slice none 0 0,.pointer none] 149
abbrev q8_0: List Nat:=[0,1,0,0,1,1,0,0,1,0,1,1,1]
abbrev q8_1: List Nat:=[1,1,0,0,1,1,0,0,1,0,1,1,1]
abbrev q8_2: List Nat:=[1,1,1,0,0,1,0,1,1,1]
abbrev q8_3: List Nat:=[0,1,1,0,0,1,1,0,0,1,0,1,1,1]
abbrev q8_4: List Nat:=[1,1,1,0,0,1,1,0,0,1,0,1,1,1]
structure NwI where
 k:Int
 m:Int→Option Int
theorem plan_Class_min(c:Cfg)(hc:c.Ok):
  Ctr Tryz.prog 78 #[cfgV c,vI (-9223372036854775808)] [] (Ret (vI (clsOf c (-9223372036854775808))) []):=by
 refine cB B78 12 Tryz.func78 ?_
 intro F
 refine gX [.z [0,1] 0 [2,3]] (gN fun b_1=>gN fun b_2=>gW (ks:=[.c [0,1],.c [1,1]]) [(2,vP b_1),(3,vP b_2)] [Efdc04 b_1 c,.pts b_2 [vI (-9223372036854775808)] 3] ?_)
 refine qG (kV 0 [.e 0,.e 1,.ww,.e 0,.q (vI (c.n0+c.n1)),.ww,.q (vI (if (0:Int)≤9223372036854775807∧9223372036854775807<(c.n0+c.n1) then(if (-9223372036854775808)≤c.n0 then 0 else 1) else -1)),.ww]) [4] (.e b_1 (.e b_2 (.e b_1 .n))) (.c Tryz.call121 (qR [] (plan_Blocks c oM)) (.c Tryz.call100 (qR [1,0] (place_Class c 9223372036854775807 (c.n0+c.n1) b_2 b_1 (-9223372036854775808) oM)) .n)) ?_
 exact gX [] (gI (vI (if (0:Int)≤9223372036854775807∧9223372036854775807<(c.n0+c.n1) then(if (-9223372036854775808)≤c.n0 then 0 else 1) else -1)) [] ⟨(congrArg (Value.int .i64) (by simp only [Cfg.Ok] at hc; unfold clsOf; (repeat' split) <;> omega)),rfl⟩)
theorem plan_Class_all(c:Cfg)(k:Int)(hc:c.Ok)(hk:InK .i64 k):
  Ctr Tryz.prog 78 #[cfgV c,vI k] [] (Ret (vI (clsOf c k)) []):=by
 by_cases h:k = -9223372036854775808
 ·subst h; exact plan_Class_min c hc
 ·exact plan_Class c k hc (by simp only [InK] at *; omega)
noncomputable def B30: Code:=(Tryz.f30.body).getD .skip
theorem arena_Words(ba:Nat)(A:Ar)(hn:A.ws.length=A.n)(hl:A.ws.length≤10000):
  Ctr Tryz.prog 30 #[vP ba] [E3504b ba A,E35fb1 A] (fun v L => ∃(a2:Option Addr) (c2:Nat),v = .slice a2 A.ws.length c2∧L=[E3504b ba A,E35fb1 A,E54ea0 a2 c2 A.ws]):=by
 refine cB B30 10 Tryz.func30 ?_
 intro F
 refine gX [.e 0,.z [0,1,1] 4 [8]] (gQ ba (gS [.o [0,1,1] 4,.c [1,1,1]] ?_))
 refine go_call (some 9) [1] Tryz.call47 (clone_n A.aw A.cw A.n A.ws oM oM) kR ?_
 rintro v post ⟨a2_1,c2_2,rfl,rfl⟩
 exact gX [] (gJ [0,1,2] ⟨a2_1,c2_2,rfl,rfl⟩)
noncomputable def B33: Code:=(Tryz.f33.body).getD .skip
theorem retire_New_ok(c:Cfg)(a:Option Addr)(c0:Nat)(xs:List Int)(hc:c.Ok)(hl:xs.length≤100)(hin:∀j,InK .i64 (xs.getD j 0))(ho:newOk c (fun _=>none) xs=true):
  Ctr Tryz.prog 33 #[cfgV c,.slice a xs.length c0] [Ee1326 a c0 xs] (fun v L => ∃(s:Nat),v=vP s∧L=[Ee1326 a c0 xs,.res (ScanR s c (newSc xs))]):=by
 refine cB B33 49 Tryz.func33 ?_
 intro F
 refine gX [.e 1,.z [0,0,1] 1 [1,2,8]] (gN fun b_1=>gQ b_1 (gS [.o [0,0,1] 1,.c [1,0,1],.c [1,1]] ?_))
 refine gC (some 9) [] Tryz.call64 (plan_Check c oM) ?_
 refine gX [.z [0,1,1] 0 [1,2]] (gS [.c [0,1,1],.c [1,1,1]] ?_)
 refine zG ?_
 have aS_6:∀(m_1_1:Nat) (a2_3_1:Option Addr) (c2_3_1:Nat) (b_5_1:Nat),Lz Tryz.prog Tryz.f33 B33 49 F (RetR F (fun v L => ∃(s:Nat),v=vP s∧L=[Ee1326 a c0 xs,.res (ScanR s c (newSc xs))])) (regOps B33 [0,1,1]) [.c [1,1,1]] (mk 7 [0,1,2,3,4,5]) [] [(16,vP b_5_1),(1,.slice a xs.length c0),(2,vP b_1)] [Efdc04 b_1 c,.raw m_1_1 (.map #[] 0),Ee1326 a c0 xs,Ee1326 a2_3_1 c2_3_1 xs,Ece86a b_5_1 c 0 m_1_1 a2_3_1 xs.length c2_3_1]:=by
  intro m_1_1 a2_3_1 c2_3_1 b_5_1
  refine zE [6] (kV 6 [.w]) [1,2,5] .n ?_
  refine gX [.z [0,1,0,1,1,1] 0 [2,5,17,18,19]] (gS [.c [0,1,0,1,1,1],.b 0,.c [1,1,1,1]] ?_)
  refine go_view (view_map 1 m_1_1 .i64 (Value.int .i64) kR) ?_
  refine go_loop (ι := NwI) (fun i=>[(2,vP b_1),(5,vP b_5_1),(17,.slice a xs.length c0),(18,vI ((xs.length:Nat):Int)),(19,vI i.k)]) (fun i=>[Efdc04 b_1 c,Ece86a b_5_1 c 0 m_1_1 a2_3_1 xs.length c2_3_1,.res (IMap m_1_1 .i64 (Value.int .i64) i.m),Ee1326 a c0 xs,Ee1326 a2_3_1 c2_3_1 xs]) (fun i=>newOk c i.m (xs.drop i.k.toNat)=newOk c (fun _=>none) xs∧(0≤i.k∧i.k≤(xs.length:Int))∧∀j,0≤(i.m j).getD 0∧(i.m j).getD 0≤1) (fun i=>((xs.length:Int)-i.k).toNat) ⟨0,fun _=>none⟩ [2,5,17,18,19] [0,4,1,2,3] kR kR kR kR ⟨rfl,(by dsimp only; omega),fun j=>(by simp)⟩ ?_
  intro i J_10 hIJ_10 hJ_10
  have hx:=hIJ_10
  refine gX [.sp [20] [.s 3,.j 3 i.k.toNat,.e 1,.z q8_0 5 [2,5,7,17,18,19,26,27]] [.e 1,.z [0,1,1,1,1] 4 [5,47]]] (gB (decide (i.k<((xs.length:Nat):Int))) (fun h_11 => ?_) (fun h_11 => ?_))
  ·replace h_11:=decT h_11
   refine gO (a=a∧xs.length=xs.length) ⟨rfl,(by first | rfl | omega | (simp; done) | (simp; omega))⟩ (gO ((0:Int)≤i.k∧i.k<((xs.length:Nat):Int)) oW (gQ (slAt a i.k.toNat 1) (gO (i.k.toNat<xs.length) oW (gQ b_5_1 (gS [.o q8_0 5,.c q8_1,.b 1,.c q8_2,.j J_10,.b 0,.c [1,1,1,1]] ?_)))))
   refine go_by (some 28) (getO Tryz.prog _) (some (.map (some m_1_1),vI (xs.getD i.k.toNat 0),false,.i64,some (Value.int .i64 0))) (R_get 2 (enc:=Value.int .i64) (m:=i.m) kR (xs.getD i.k.toNat 0) false 0) kR ?_
   rintro v L2 ⟨rfl,rfl⟩
   refine gX [.n,.z q8_0 7 [2,5,7,17,18,19,26,27,29]] (gO (InK .i64 (((i.m (xs.getD i.k.toNat 0)).getD 0)+1)) (by have:=hx.2.2 (xs.getD i.k.toNat 0); simp only [InK]; omega) (gS [.o q8_0 7,.c q8_1,.b 1,.c q8_2,.j J_10,.b 0,.c [1,1,1,1]] ?_))
   refine go_by none (setO Tryz.prog _) (some (.map (some m_1_1),vI (xs.getD i.k.toNat 0),vI (((i.m (xs.getD i.k.toNat 0)).getD 0)+1),.i64)) (R_set 2 (enc:=Value.int .i64) (m:=i.m) kR (xs.getD i.k.toNat 0) (((i.m (xs.getD i.k.toNat 0)).getD 0)+1)) kR ?_
   rintro v L2 ⟨rfl,rfl⟩
   refine gX [.e 0,.z q8_3 2 [2,5,7,17,18,19,30,31]] (gQ b_1 (gS [.o q8_3 2,.c q8_4,.b 1,.c q8_2,.j J_10,.b 0,.c [1,1,1,1]] ?_))
   refine gC (some 32) [] Tryz.call78 (plan_Class_all c (xs.getD i.k.toNat 0) oM (hin _)) ?_
   refine gX [.sp [34,33] [.dead] [.e 1,.z q8_3 10 [2,5,17,18,19,34,38,39]]] (gQ (decide ((clsOf c (xs.getD i.k.toNat 0))<0)) (gF (decide ((clsOf c (xs.getD i.k.toNat 0))<0)) (by have:=(newOk_yes (by omega) (hx.1.trans ho)).1; simpa using this) (gQ b_5_1 (gS [.o q8_3 10,.c q8_4,.b 1,.c q8_2,.j J_10,.b 0,.c [1,1,1,1]] ?_))))
   refine go_by (some 40) (getO Tryz.prog _) (some (.map (some m_1_1),vI (xs.getD i.k.toNat 0),false,.i64,some (Value.int .i64 0))) (R_get 2 (enc:=Value.int .i64) (m:=(updM i.m (xs.getD i.k.toNat 0) (((i.m (xs.getD i.k.toNat 0)).getD 0)+1))) kR (xs.getD i.k.toNat 0) false 0) kR ?_
   rintro v L2 ⟨rfl,rfl⟩
   refine gX [.sp [42,41] [.dead] [.n,.z [] 0 [2,5,17,18,19]]] (gQ (decide ((((updM i.m (xs.getD i.k.toNat 0) (((i.m (xs.getD i.k.toNat 0)).getD 0)+1)) (xs.getD i.k.toNat 0)).getD 0)>1)) (gF (decide ((((updM i.m (xs.getD i.k.toNat 0) (((i.m (xs.getD i.k.toNat 0)).getD 0)+1)) (xs.getD i.k.toNat 0)).getD 0)>1)) (by have:=(newOk_yes (by omega) (hx.1.trans ho)).2; simpa using this) (gO (InK .i64 (i.k+1)) (by simp only [InK]; omega) (gS [.j J_10,.b 0,.c [1,1,1,1]] ?_))))
   exact go_back hJ_10 (⟨(i.k+1),(updM i.m (xs.getD i.k.toNat 0) (((i.m (xs.getD i.k.toNat 0)).getD 0)+1))⟩:NwI) [0,1,2,3,4] kR kR kR ⟨(newOk_next (by omega) (by first | assumption | exact(newOk_yes (by omega) (hx.1.trans ho)).1) (by first | assumption | exact(newOk_yes (by omega) (hx.1.trans ho)).2)).symm.trans hx.1,(by dsimp only; omega),updM_rng hx.2.2 (by first | assumption | exact(newOk_yes (by omega) (hx.1.trans ho)).2)⟩ (by dsimp only; omega)
  ·replace h_11:=decF h_11
   refine gQ b_5_1 (gS [.o [0,1,1,1,1] 4,.c [1,1,1,1,1]] ?_)
   refine go_by none (clearO Tryz.prog _) (some (.map (some m_1_1),true)) (R_clear 2 (kk:=.i64) (enc:=Value.int .i64) (m:=i.m) kR) kR ?_
   rintro v L2 ⟨rfl,rfl⟩
   refine gX [] (gW0 (vP b_5_1) [Efdc04 b_1 c,Ece86a b_5_1 c 0 m_1_1 a2_3_1 xs.length c2_3_1,.res (IMap m_1_1 .i64 (Value.int .i64) (fun _=>none)),Ee1326 a c0 xs,Ee1326 a2_3_1 c2_3_1 xs] ?_)
   refine ret_view (L':=[Efdc04 b_1 c,Ece86a b_5_1 c 0 m_1_1 a2_3_1 xs.length c2_3_1,.res (IMap m_1_1 .i64 (Value.int .i64) (fun _=>none)),Ee1326 a c0 xs,Ee1326 a2_3_1 c2_3_1 xs,Ee1326 none 0 []]) (view_nil (encI .i64) 0 1 3 (sizedI _)) ?_
   refine ret_view (L':=[Efdc04 b_1 c,Ece86a b_5_1 c 0 m_1_1 a2_3_1 xs.length c2_3_1,.res (IMap m_1_1 .i64 (Value.int .i64) (fun _=>none)),Ee1326 a c0 xs,Ee1326 a2_3_1 c2_3_1 xs,Ee1326 none 0 [],Ee1326 none 0 []]) (view_nil (encI .i64) 0 1 3 (sizedI _)) ?_
   refine ret_view (L':=[Efdc04 b_1 c,Ee1326 a c0 xs,.res (ScanR b_5_1 c (newSc xs))]) (vK (fun _:ScH=>True) (scanL b_5_1 c (newSc xs)) (⟨m_1_1,a2_3_1,none,none,c2_3_1,0,0,0⟩:ScH) [1,2,4,5,6] trivial) ?_
   exact ret_ok (post:=[Ee1326 a c0 xs,.res (ScanR b_5_1 c (newSc xs))]) [1,2] kR ⟨b_5_1,rfl,rfl⟩
 have aS_7:∀(m_1_1:Nat) (a2_3_1:Option Addr) (c2_3_1:Nat),Lz Tryz.prog Tryz.f33 B33 49 F (RetR F (fun v L => ∃(s:Nat),v=vP s∧L=[Ee1326 a c0 xs,.res (ScanR s c (newSc xs))])) (regOps B33 [0,1,1]) [.c [1,1,1]] (mk 7 [0,1,2,3]) [0] [(14,.slice a2_3_1 xs.length c2_3_1),(12,.map (some m_1_1)),(1,.slice a xs.length c0),(2,vP b_1),(11,cfgV c)] [Efdc04 b_1 c,.raw m_1_1 (.map #[] 0),Ee1326 a c0 xs,Ee1326 a2_3_1 c2_3_1 xs]:=by
  intro m_1_1 a2_3_1 c2_3_1
  refine zN [4] [(0,.e 0),(4,.w)] [14,12,1,2,11,15] [5] (.e b_1 .n) ⟨?_,trivial⟩
  refine zX .w (sN fun b_5_1=>(sV ?_))
  exact zW [16,1,2] [0,1,2,3,4] (aS_6 m_1_1 a2_3_1 c2_3_1 b_5_1)
 have aS_8:∀(m_1_1:Nat),Lz Tryz.prog Tryz.f33 B33 49 F (RetR F (fun v L => ∃(s:Nat),v=vP s∧L=[Ee1326 a c0 xs,.res (ScanR s c (newSc xs))])) (regOps B33 [0,1,1]) [.c [1,1,1]] (mk 7 [0,1,2]) [0,2] [(12,.map (some m_1_1)),(1,.slice a xs.length c0),(2,vP b_1),(11,cfgV c),(13,.slice a xs.length c0)] [Ee1326 a c0 xs,Efdc04 b_1 c,.raw m_1_1 (.map #[] 0)]:=by
  intro m_1_1
  refine zN [] [(0,.e 1),(2,.w)] [12,1,2,11,13] [3] (.e b_1 .n) ⟨?_,trivial⟩
  refine zC (some 14) [0] Tryz.call77 (clone_i64 a c0 xs (by omega)) ?_
  rintro v post ⟨a2_3_1,c2_3_1,rfl,rfl⟩
  exact zW [14,12,1,2,11] [0,1,2,3] (aS_7 m_1_1 a2_3_1 c2_3_1)
 have aS_9:∀(a2_3_1:Option Addr) (c2_3_1:Nat),Lz Tryz.prog Tryz.f33 B33 49 F (RetR F (fun v L => ∃(s:Nat),v=vP s∧L=[Ee1326 a c0 xs,.res (ScanR s c (newSc xs))])) (regOps B33 [0,1,1]) [.c [1,1,1]] (mk 7 [0,2,3]) [0] [(14,.slice a2_3_1 xs.length c2_3_1),(1,.slice a xs.length c0),(2,vP b_1),(11,cfgV c)] [Efdc04 b_1 c,Ee1326 a c0 xs,Ee1326 a2_3_1 c2_3_1 xs]:=by
  intro a2_3_1 c2_3_1
  refine zN [] (kV 0 [.e 0]) [14,1,2,11] [1] (.e b_1 .n) ⟨?_,trivial⟩
  refine zX .w (sN fun m_1_1=>(sV ?_))
  exact zW [14,12,1,2,11] [0,3,1,2] (aS_7 m_1_1 a2_3_1 c2_3_1)
 refine zN [0,2] [(0,.e 1),(2,.w)] [1,2,11,13] [1,3] (.e b_1 .n) ⟨?_, ?_,trivial⟩
 ·refine zX .w (sN fun m_1_1=>(sV ?_))
  exact zW [12,1,2,11,13] [0,1,2] (aS_8 m_1_1)
 ·refine zC (some 14) [0] Tryz.call77 (clone_i64 a c0 xs (by omega)) ?_
  rintro v post ⟨a2_3_1,c2_3_1,rfl,rfl⟩
  exact zW [14,1,2,11] [0,1,2] (aS_9 a2_3_1 c2_3_1)
end Go.Proofs.YtpcaijopodhdgaaGreatDoor
namespace Go.Proofs.YtpcaijopodhdgaaGreatDoor
open Go.Sx
abbrev q9_0: List Nat:=[0,0,1,0,0,1,0,1,1]
abbrev q9_1: List Nat:=[1,1,0,0,1,0,1,1]
abbrev q9_2: List Nat:=[0,0,1,0,0,1,0,1,1,1]
noncomputable def B128: Code:=(Tryz.f128.body).getD .skip
theorem ref_inT(n a b:Int)(h:a≤n∧n≤b):
  Ctr Tryz.prog 128 #[vI n,vI a,vI b] [] (Ret (.bool true) []):=by
 refine cB B128 15 Tryz.func128 ?_
 intro F
 exact gX [.sp [10,9] [] [.dead]] (gQ (decide (n≥a)) (gT (decide (n≥a)) (by first | (simp; done) | (simp; omega)) (gI (.bool (decide (n≤b))) [] ⟨(congrArg Value.bool (by first | rfl | (simp; done) | (simp; omega))),rfl⟩)))
noncomputable def B67: Code:=(Tryz.f67.body).getD .skip
theorem ref_right(c:Cfg)(hc:c.Ok):
  Ctr Tryz.prog 67 #[cfgV c] [] (Ret (.bool true) []):=by
 refine cB B67 57 Tryz.func67 ?_
 intro F
 refine gX [.w,.e 0,.e 1,.w,.e 0,.e 2,.e 0,.z [0,1,1,1] 2 [1,3,4,12]] (gN fun b_1=>gQ b_1 (gN fun b_2=>gQ b_2 (gQ b_1 (gN fun b_3=>gQ b_3 (gQ b_1 (gS [.o [0,1,1,1] 2,.c [1,1,1,1]] ?_))))))
 refine gC (some 13) [] Tryz.call128 (ref_inT c.topics 1 8 (by simp only [Cfg.Ok] at hc; omega)) ?_
 refine gX [.e 0,.z [0,1,1,1] 6 [1,3,4,14,16]] (gQ b_1 (gS [.o [0,1,1,1] 6,.c [1,1,1,1]] ?_))
 refine gC (some 17) [] Tryz.call128 (ref_inT c.small 4 32 (by simp only [Cfg.Ok] at hc; omega)) ?_
 refine gX [.e 0,.z [0,1,1,1] 11 [1,3,4,19,21]] (gQ b_1 (gS [.o [0,1,1,1] 11,.c [1,1,1,1]] ?_))
 refine gC (some 22) [] Tryz.call128 (ref_inT c.slots 1 8 (by simp only [Cfg.Ok] at hc; omega)) ?_
 refine gX [.e 0,.z [0,1,1,1] 16 [1,3,4,24,26]] (gQ b_1 (gS [.o [0,1,1,1] 16,.c [1,1,1,1]] ?_))
 refine gC (some 27) [] Tryz.call128 (ref_inT c.clients 1 8 (by simp only [Cfg.Ok] at hc; omega)) ?_
 refine gX [.e 0,.z [0,1,1,1] 21 [3,4,29,31]] (gQ b_1 (gS [.o [0,1,1,1] 21,.c [1,1,1,1]] ?_))
 refine gC (some 32) [] Tryz.call128 (ref_inT c.retry 1 8 (by simp only [Cfg.Ok] at hc; omega)) ?_
 refine gX [.e 1,.z [0,1,1,1] 26 [3,4,34,36]] (gQ b_2 (gS [.o [0,1,1,1] 26,.c [1,1,1,1]] ?_))
 refine gC (some 37) [] Tryz.call128 (ref_inT c.s0 4 96 (by simp only [Cfg.Ok] at hc; omega)) ?_
 refine gX [.e 2,.e 1,.n,.z [0,1,1,1] 34 [3,4,39,41,44]] (gQ b_3 (gQ b_2 (gO (InK .i64 (c.s0+1)) (by simp only [Cfg.Ok,InK] at *; omega) (gS [.o [0,1,1,1] 34,.c [1,1,1,1]] ?_))))
 refine gC (some 45) [] Tryz.call128 (ref_inT c.s1 (c.s0+1) 96 (by simp only [Cfg.Ok] at hc; omega)) ?_
 refine gX [.e 1,.z [0,1,1,1] 39 [4,47,49]] (gQ b_2 (gS [.o [0,1,1,1] 39,.c [1,1,1,1]] ?_))
 refine gC (some 50) [] Tryz.call128 (ref_inT c.n0 0 12 (by simp only [Cfg.Ok] at hc; omega)) ?_
 refine gX [.e 2,.z [0,1,1,1] 44 [52,54]] (gQ b_3 (gS [.o [0,1,1,1] 44,.c [1,1,1,1]] ?_))
 refine gC (some 55) [] Tryz.call128 (ref_inT c.n1 0 12 (by simp only [Cfg.Ok] at hc; omega)) ?_
 exact gX [] (gR (.bool true) [] ⟨rfl,rfl⟩)
noncomputable def B37: Code:=(Tryz.f37.body).getD .skip
theorem ref_Blocks(c:Cfg)(hc:c.Ok):
  Ctr Tryz.prog 37 #[cfgV c] [] (Ret (vI (c.n0+c.n1)) []):=by
 refine cB B37 12 Tryz.func37 ?_
 intro F
 exact gX [.w,.e 0,.w,.e 0,.n] (gN fun b_1=>gQ b_1 (gQ b_1 (gO (InK .i64 (c.n0+c.n1)) (by simp only [Cfg.Ok,InK] at *; omega) (gR (vI (c.n0+c.n1)) [] ⟨rfl,rfl⟩))))
noncomputable def B98: Code:=(Tryz.f98.body).getD .skip
theorem ref_Class(c:Cfg)(k:Int)(hc:c.Ok):
  Ctr Tryz.prog 98 #[cfgV c,vI k] [] (Ret (vI (clsOf c k)) []):=by
 refine cB B98 19 Tryz.func98 ?_
 intro F
 refine gX [.sp [7,6] [] [.e 0,.z [0,0,1] 5 [1,2,7,8,9]]] (gN fun b_1=>gQ (decide (k<1)) (gB (decide (k<1)) (fun h_2 => ?_) (fun h_2 => ?_)))
 ·replace h_2:=decT h_2
  exact gI (vI (-1)) [] ⟨(congrArg (Value.int .i64) (by unfold clsOf; (repeat' split) <;> omega)),rfl⟩
 ·replace h_2:=decF h_2
  refine gQ b_1 (gS [.o [0,0,1] 5,.c [1,0,1],.c [1,1]] ?_)
  refine gC (some 10) [] Tryz.call37 (ref_Blocks c oM) ?_
  refine gX [.sp [12,11] [] [.w,.e 0,.sp [18] [] []]] (gQ (decide (k>(c.n0+c.n1))) (gB (decide (k>(c.n0+c.n1))) (fun h_3 => ?_) (fun h_3 => ?_)))
  ·replace h_3:=decT h_3
   exact gI (vI (-1)) [] ⟨(congrArg (Value.int .i64) (by unfold clsOf; (repeat' split) <;> omega)),rfl⟩
  ·replace h_3:=decF h_3
   refine gQ b_1 (gB (decide (k≤c.n0)) (fun h_4 => ?_) (fun h_4 => ?_))
   ·replace h_4:=decT h_4
    exact gI (vI 0) [] ⟨(congrArg (Value.int .i64) (by unfold clsOf; (repeat' split) <;> omega)),rfl⟩
   ·replace h_4:=decF h_4
    exact gI (vI 1) [] ⟨(congrArg (Value.int .i64) (by unfold clsOf; (repeat' split) <;> omega)),rfl⟩
theorem ref_Class0(c:Cfg)(k:Int)(hc:c.Ok)(h:1≤k∧k≤c.n0):
  Ctr Tryz.prog 98 #[cfgV c,vI k] [] (Ret (vI 0) []):=by
 refine cB B98 19 Tryz.func98 ?_
 intro F
 refine gX [.sp [7,6] [.dead] [.e 0,.z [0,0,1] 5 [1,2,7,8,9]]] (gN fun b_1=>gQ (decide (k<1)) (gF (decide (k<1)) (by simp only [Cfg.Ok] at hc; simp; omega) (gQ b_1 (gS [.o [0,0,1] 5,.c [1,0,1],.c [1,1]] ?_))))
 refine gC (some 10) [] Tryz.call37 (ref_Blocks c oM) ?_
 exact gX [.sp [12,11] [.dead] [.w,.e 0,.sp [18] [] [.dead]]] (gQ (decide (k>(c.n0+c.n1))) (gF (decide (k>(c.n0+c.n1))) (by simp only [Cfg.Ok] at hc; simp; omega) (gQ b_1 (gT (decide (k≤c.n0)) (by simp only [Cfg.Ok] at hc; simp; omega) (gR (vI 0) [] ⟨rfl,rfl⟩)))))
theorem ref_Class1(c:Cfg)(k:Int)(hc:c.Ok)(h:c.n0<k∧k≤c.n0+c.n1):
  Ctr Tryz.prog 98 #[cfgV c,vI k] [] (Ret (vI 1) []):=by
 refine cB B98 19 Tryz.func98 ?_
 intro F
 refine gX [.sp [7,6] [.dead] [.e 0,.z [0,0,1] 5 [1,2,7,8,9]]] (gN fun b_1=>gQ (decide (k<1)) (gF (decide (k<1)) (by simp only [Cfg.Ok] at hc; simp; omega) (gQ b_1 (gS [.o [0,0,1] 5,.c [1,0,1],.c [1,1]] ?_))))
 refine gC (some 10) [] Tryz.call37 (ref_Blocks c oM) ?_
 exact gX [.sp [12,11] [.dead] [.w,.e 0,.sp [18] [.dead] []]] (gQ (decide (k>(c.n0+c.n1))) (gF (decide (k>(c.n0+c.n1))) (by simp only [Cfg.Ok] at hc; simp; omega) (gQ b_1 (gF (decide (k≤c.n0)) (by simp only [Cfg.Ok] at hc; simp; omega) (gR (vI 1) [] ⟨rfl,rfl⟩)))))
noncomputable def B130: Code:=(Tryz.f130.body).getD .skip
abbrev Href_Size1: List (Nat×Hn):=[(11,.n),(12,.n),(13,.n)]
abbrev Href_Size2: List (Nat×Hn):=[(11,.n),(12,.n),(13,.n)]
theorem ref_Size(c:Cfg)(hc:c.Ok):
  Ctr Tryz.prog 130 #[cfgV c] [] (Ret (vI (sizeOfC c)) []):=by
 refine cB B130 38 Tryz.func130 ?_
 intro F
 refine gX [.e 0,.n,.e 0,.n,.e 0,.e 0,.n,.n,.n,.n,.u,.z q9_0 0 [1,3,4]] (gN fun b_1=>gQ b_1 (gO (InK .i64 (5+c.slots)) (by have hb:=size_nl hc; simp only [Cfg.Ok,InK] at *; omega) (gQ b_1 (gO (InK .i64 ((5+c.slots)+c.topics)) (by have hb:=size_nl hc; simp only [Cfg.Ok,InK] at *; omega) (gQ b_1 (gQ b_1 (gO (InK .i64 (2*c.small)) (by have hb:=size_nl hc; simp only [Cfg.Ok,InK] at *; omega) (gO (InK .i64 (1+(2*c.small))) (by have hb:=size_nl hc; simp only [Cfg.Ok,InK] at *; omega) (gO (InK .i64 (c.topics*(1+(2*c.small)))) (by have hb:=size_nl hc; simp only [Cfg.Ok,InK] at *; omega) (gO (InK .i64 (((5+c.slots)+c.topics)+(c.topics*(1+(2*c.small))))) (by have hb:=size_nl hc; simp only [Cfg.Ok,InK] at *; omega) (gW (ks:=[.c q9_0,.b 1,.c q9_1,.r [0,1,0,1,1],.b 0,.c [1,1,1]]) [(1,vP b_1),(3,vI (((5+c.slots)+c.topics)+(c.topics*(1+(2*c.small))))),(4,vI 0)] [Efdc04 b_1 c] ?_)))))))))))
 have aS2_1:Any Tryz.prog Tryz.f130 B130 38 F (RetR F (Ret (vI (sizeOfC c)) [])) (regOps B130 q9_0) [.b 1,.c q9_1,.r [0,1,0,1,1],.b 0,.c [1,1,1]] #[true,true,true,true,true,true,true,true,true,true,true,true,true,true,true] [(1,vP b_1),(3,vI ((((5+c.slots)+c.topics)+(c.topics*(1+(2*c.small))))+(c.n0*(1+c.s0)))),(4,vI 0)] [Efdc04 b_1 c]:=by
  refine any_done kR ?_
  refine gX [.w,.u,.z q9_0 0 [1,3,4]] (gW (ks:=[.c q9_0,.b 1,.c q9_1,.r [0,1,0,1,1],.b 0,.c [1,1,1]]) [(1,vP b_1),(3,vI ((((5+c.slots)+c.topics)+(c.topics*(1+(2*c.small))))+(c.n0*(1+c.s0)))),(4,vI 1)] [Efdc04 b_1 c] ?_)
  have aS2_1:Any Tryz.prog Tryz.f130 B130 38 F (RetR F (Ret (vI (sizeOfC c)) [])) (regOps B130 q9_0) [.b 1,.c q9_1,.r [0,1,0,1,1],.b 0,.c [1,1,1]] #[true,true,true,true,true,true,true,true,true,true,true,true,true,true,true] [(1,vP b_1),(3,vI (((((5+c.slots)+c.topics)+(c.topics*(1+(2*c.small))))+(c.n0*(1+c.s0)))+(c.n1*(1+c.s1)))),(4,vI 1)] [Efdc04 b_1 c]:=by
   refine any_done kR ?_
   exact gX [.w,.u] (gR (vI (((((5+c.slots)+c.topics)+(c.topics*(1+(2*c.small))))+(c.n0*(1+c.s0)))+(c.n1*(1+c.s1)))) [] ⟨rfl,rfl⟩)
  have aS1_1:Any Tryz.prog Tryz.f130 B130 38 F (RetR F (Ret (vI (sizeOfC c)) [])) (regOps B130 q9_0) [.b 1,.c q9_1,.r [0,1,0,1,1],.b 0,.c [1,1,1]] #[true,true,true,true,true,true,true,true,true,true,false,false,false,false,false] [(1,vP b_1),(3,vI ((((5+c.slots)+c.topics)+(c.topics*(1+(2*c.small))))+(c.n0*(1+c.s0)))),(4,vI 1),(23,vI ((((5+c.slots)+c.topics)+(c.topics*(1+(2*c.small))))+(c.n0*(1+c.s0)))),(32,.pointer (some ⟨b_1,6,none⟩)),(28,vI c.n1)] [Efdc04 b_1 c]:=by
   refine any_step [10] kR rfl ⟨?_,trivial⟩
   ·refine aX (.e 0) (sQ b_1 (sV ?_))
    refine aP Href_Size2 [1,3,4] (.p (InK .i64 (1+c.s1)) (by have hb:=size_nl hc; simp only [Cfg.Ok,InK] at *; omega) (.p (InK .i64 (c.n1*(1+c.s1))) (by have hb:=size_nl hc; simp only [Cfg.Ok,InK] at *; omega) (.p (InK .i64 (((((5+c.slots)+c.topics)+(c.topics*(1+(2*c.small))))+(c.n0*(1+c.s0)))+(c.n1*(1+c.s1)))) (by have hb:=size_nl hc; simp only [Cfg.Ok,InK] at *; omega) .n))) ?_
    exact aW [1,3,4] [0] aS2_1
  have aS3_1:Any Tryz.prog Tryz.f130 B130 38 F (RetR F (Ret (vI (sizeOfC c)) [])) (regOps B130 q9_0) [.b 1,.c q9_1,.r [0,1,0,1,1],.b 0,.c [1,1,1]] #[true,true,true,true,true,false,true,true,true,true,true,true,false,false,false] [(1,vP b_1),(3,vI ((((5+c.slots)+c.topics)+(c.topics*(1+(2*c.small))))+(c.n0*(1+c.s0)))),(4,vI 1),(23,vI ((((5+c.slots)+c.topics)+(c.topics*(1+(2*c.small))))+(c.n0*(1+c.s0)))),(27,.pointer (some ⟨b_1,7,none⟩)),(34,vI (1+c.s1))] [Efdc04 b_1 c]:=by
   refine any_step [5] kR rfl ⟨?_,trivial⟩
   ·refine aX (.e 0) (sQ b_1 (sV ?_))
    refine aP Href_Size2 [1,3,4] (.p (InK .i64 (c.n1*(1+c.s1))) (by have hb:=size_nl hc; simp only [Cfg.Ok,InK] at *; omega) (.p (InK .i64 (((((5+c.slots)+c.topics)+(c.topics*(1+(2*c.small))))+(c.n0*(1+c.s0)))+(c.n1*(1+c.s1)))) (by have hb:=size_nl hc; simp only [Cfg.Ok,InK] at *; omega) .n)) ?_
    exact aW [1,3,4] [0] aS2_1
  have aS0_1:Any Tryz.prog Tryz.f130 B130 38 F (RetR F (Ret (vI (sizeOfC c)) [])) (regOps B130 q9_0) [.b 1,.c q9_1,.r [0,1,0,1,1],.b 0,.c [1,1,1]] #[true,true,true,true,true,false,true,true,true,true,false,false,false,false,false] [(1,vP b_1),(3,vI ((((5+c.slots)+c.topics)+(c.topics*(1+(2*c.small))))+(c.n0*(1+c.s0)))),(4,vI 1),(23,vI ((((5+c.slots)+c.topics)+(c.topics*(1+(2*c.small))))+(c.n0*(1+c.s0)))),(27,.pointer (some ⟨b_1,7,none⟩)),(32,.pointer (some ⟨b_1,6,none⟩))] [Efdc04 b_1 c]:=by
   refine any_step [5,10] kR rfl ⟨?_, ?_,trivial⟩
   ·refine aX (.e 0) (sQ b_1 (sV ?_))
    refine aP Href_Size2 [1,3,4,23,32,28] .n ?_
    exact aW [1,3,4,23,32,28] [0] aS1_1
   ·refine aX (.e 0) (sQ b_1 (sV ?_))
    refine aP Href_Size2 [1,3,4,23,27,34] (.p (InK .i64 (1+c.s1)) (by have hb:=size_nl hc; simp only [Cfg.Ok,InK] at *; omega) .n) ?_
    exact aW [1,3,4,23,27,34] [0] aS3_1
  refine go_any kR kR ?_
  refine aP Href_Size2 [1,3,4,23,27,32] .n ?_
  exact aW [1,3,4,23,27,32] [0] aS0_1
 have aS1_1:Any Tryz.prog Tryz.f130 B130 38 F (RetR F (Ret (vI (sizeOfC c)) [])) (regOps B130 q9_0) [.b 1,.c q9_1,.r [0,1,0,1,1],.b 0,.c [1,1,1]] #[true,true,true,true,true,true,true,true,true,true,false,false,false,false,false] [(1,vP b_1),(3,vI (((5+c.slots)+c.topics)+(c.topics*(1+(2*c.small))))),(4,vI 0),(23,vI (((5+c.slots)+c.topics)+(c.topics*(1+(2*c.small))))),(32,.pointer (some ⟨b_1,4,none⟩)),(28,vI c.n0)] [Efdc04 b_1 c]:=by
  refine any_step [10] kR rfl ⟨?_,trivial⟩
  ·refine aX (.e 0) (sQ b_1 (sV ?_))
   refine aP Href_Size1 [1,3,4] (.p (InK .i64 (1+c.s0)) (by have hb:=size_nl hc; simp only [Cfg.Ok,InK] at *; omega) (.p (InK .i64 (c.n0*(1+c.s0))) (by have hb:=size_nl hc; simp only [Cfg.Ok,InK] at *; omega) (.p (InK .i64 ((((5+c.slots)+c.topics)+(c.topics*(1+(2*c.small))))+(c.n0*(1+c.s0)))) (by have hb:=size_nl hc; simp only [Cfg.Ok,InK] at *; omega) .n))) ?_
   exact aW [1,3,4] [0] aS2_1
 have aS3_1:Any Tryz.prog Tryz.f130 B130 38 F (RetR F (Ret (vI (sizeOfC c)) [])) (regOps B130 q9_0) [.b 1,.c q9_1,.r [0,1,0,1,1],.b 0,.c [1,1,1]] #[true,true,true,true,true,false,true,true,true,true,true,true,false,false,false] [(1,vP b_1),(3,vI (((5+c.slots)+c.topics)+(c.topics*(1+(2*c.small))))),(4,vI 0),(23,vI (((5+c.slots)+c.topics)+(c.topics*(1+(2*c.small))))),(27,.pointer (some ⟨b_1,5,none⟩)),(34,vI (1+c.s0))] [Efdc04 b_1 c]:=by
  refine any_step [5] kR rfl ⟨?_,trivial⟩
  ·refine aX (.e 0) (sQ b_1 (sV ?_))
   refine aP Href_Size1 [1,3,4] (.p (InK .i64 (c.n0*(1+c.s0))) (by have hb:=size_nl hc; simp only [Cfg.Ok,InK] at *; omega) (.p (InK .i64 ((((5+c.slots)+c.topics)+(c.topics*(1+(2*c.small))))+(c.n0*(1+c.s0)))) (by have hb:=size_nl hc; simp only [Cfg.Ok,InK] at *; omega) .n)) ?_
   exact aW [1,3,4] [0] aS2_1
 have aS0_1:Any Tryz.prog Tryz.f130 B130 38 F (RetR F (Ret (vI (sizeOfC c)) [])) (regOps B130 q9_0) [.b 1,.c q9_1,.r [0,1,0,1,1],.b 0,.c [1,1,1]] #[true,true,true,true,true,false,true,true,true,true,false,false,false,false,false] [(1,vP b_1),(3,vI (((5+c.slots)+c.topics)+(c.topics*(1+(2*c.small))))),(4,vI 0),(23,vI (((5+c.slots)+c.topics)+(c.topics*(1+(2*c.small))))),(27,.pointer (some ⟨b_1,5,none⟩)),(32,.pointer (some ⟨b_1,4,none⟩))] [Efdc04 b_1 c]:=by
  refine any_step [5,10] kR rfl ⟨?_, ?_,trivial⟩
  ·refine aX (.e 0) (sQ b_1 (sV ?_))
   refine aP Href_Size1 [1,3,4,23,32,28] .n ?_
   exact aW [1,3,4,23,32,28] [0] aS1_1
  ·refine aX (.e 0) (sQ b_1 (sV ?_))
   refine aP Href_Size1 [1,3,4,23,27,34] (.p (InK .i64 (1+c.s0)) (by have hb:=size_nl hc; simp only [Cfg.Ok,InK] at *; omega) .n) ?_
   exact aW [1,3,4,23,27,34] [0] aS3_1
 refine go_any kR kR ?_
 refine aP Href_Size1 [1,3,4,23,27,32] .n ?_
 exact aW [1,3,4,23,27,32] [0] aS0_1
noncomputable def B85: Code:=(Tryz.f85.body).getD .skip
theorem ref_Block(c:Cfg)(k:Int)(hc:c.Ok)(h:1≤k∧k≤c.n0+c.n1):
  Ctr Tryz.prog 85 #[cfgV c,vI k] [] (Ret (vI (blockAt c k)) []):=by
 refine cB B85 45 Tryz.func85 ?_
 intro F
 refine gX [.sp [9,8] [.dead] [.e 0,.z [0,0,1] 5 [1,2,9,10,11]]] (gN fun b_1=>gQ (decide (k<1)) (gF (decide (k<1)) (by first | (simp; done) | (simp; omega)) (gQ b_1 (gS [.o [0,0,1] 5,.c [1,0,1],.c [1,1]] ?_))))
 refine gC (some 12) [] Tryz.call37 (ref_Blocks c oM) ?_
 refine gX [.sp [14,13] [.dead] [.e 0,.n,.e 0,.n,.e 0,.e 0,.n,.n,.n,.n,.z [0,1,0,1,1,1] 0 [1,2,5,6]]] (gQ (decide (k>(c.n0+c.n1))) (gF (decide (k>(c.n0+c.n1))) (by first | (simp; done) | (simp; omega)) (gQ b_1 (gO (InK .i64 (5+c.slots)) (by have hb:=size_nl hc; simp only [Cfg.Ok,InK] at *; omega) (gQ b_1 (gO (InK .i64 ((5+c.slots)+c.topics)) (by have hb:=size_nl hc; simp only [Cfg.Ok,InK] at *; omega) (gQ b_1 (gQ b_1 (gO (InK .i64 (2*c.small)) (by have hb:=size_nl hc; simp only [Cfg.Ok,InK] at *; omega) (gO (InK .i64 (1+(2*c.small))) (by have hb:=size_nl hc; simp only [Cfg.Ok,InK] at *; omega) (gO (InK .i64 (c.topics*(1+(2*c.small)))) (by have hb:=size_nl hc; simp only [Cfg.Ok,InK] at *; omega) (gO (InK .i64 (((5+c.slots)+c.topics)+(c.topics*(1+(2*c.small))))) (by have hb:=size_nl hc; simp only [Cfg.Ok,InK] at *; omega) (gW (ks:=[.c [0,1,0,1,1,1],.b 0,.c [1,1,1,1]]) [(1,vI k),(2,vP b_1),(5,vI (((5+c.slots)+c.topics)+(c.topics*(1+(2*c.small))))),(6,vI 1)] [Efdc04 b_1 c] ?_)))))))))))))
 refine go_loop (ι := Int) (fun i=>[(1,vI k),(2,vP b_1),(5,vI (blockAt c i)),(6,vI i)]) (fun i=>[Efdc04 b_1 c]) (fun i=>1≤i∧i≤k) (fun i=>(k-i).toNat) 1 [1,2,5,6] [0] kR (by first | rfl | (rw [blk_one hc (by omega)]; rfl)) kR kR ⟨by omega,by omega⟩ ?_
 intro i J_2 hIJ_2 hJ_2
 have hx:=hIJ_2
 refine gX [.sp [31] [.n,.e 0,.z q9_2 4 [1,2,6,35,36,37]] []] (gB (decide (i<k)) (fun h_3 => ?_) (fun h_3 => ?_))
 ·replace h_3:=decT h_3
  refine gO (InK .i64 ((blockAt c i)+1)) (by have hb:=size_nl hc; have hq:=blockAt_ok hc (clsOf_pos (c:=c) (b:=i) (by omega)); have hz:=sizeOfC_ok hc; simp only [Cfg.Ok,InK] at *; omega) (gQ b_1 (gW (ks:=[.o q9_2 4,.b 1,.c [1,1,0,0,1,0,1,1,1],.j J_2,.b 0,.c [1,1,1,1]]) [(1,vI k),(2,vP b_1),(6,vI i),(35,vI ((blockAt c i)+1)),(36,cfgV c),(37,vI i)] [Efdc04 b_1 c] ?_))
  by_cases hcl:i≤c.n0
  ·refine gC (some 38) [] Tryz.call98 (ref_Class0 c i oM (by omega)) ?_
   refine gX [.w,.e 0,.n,.n,.z [] 0 [1,2,5,6]] (gQ b_1 (gO (InK .i64 (((blockAt c i)+1)+c.s0)) (by have hb:=size_nl hc; have hq:=blockAt_ok hc (clsOf_pos (c:=c) (b:=i) (by omega)); have hz:=sizeOfC_ok hc; simp only [Cfg.Ok,InK] at *; omega) (gO (InK .i64 (i+1)) (by have hb:=size_nl hc; have hq:=blockAt_ok hc (clsOf_pos (c:=c) (b:=i) (by omega)); have hz:=sizeOfC_ok hc; simp only [Cfg.Ok,InK] at *; omega) (gW (ks:=[.j J_2,.b 0,.c [1,1,1,1]]) [(1,vI k),(2,vP b_1),(5,vI (((blockAt c i)+1)+c.s0)),(6,vI (i+1))] [Efdc04 b_1 c] ?_))))
   exact go_back hJ_2 (i+1) [0] kR (by first | rfl | (rw [ref_block hc (by omega)]; first | rw [if_pos hcl] | rw [if_neg hcl])) rfl (by omega) (by omega)
  ·refine gC (some 38) [] Tryz.call98 (ref_Class1 c i oM (by omega)) ?_
   refine gX [.w,.e 0,.n,.n,.z [] 0 [1,2,5,6]] (gQ b_1 (gO (InK .i64 (((blockAt c i)+1)+c.s1)) (by have hb:=size_nl hc; have hq:=blockAt_ok hc (clsOf_pos (c:=c) (b:=i) (by omega)); have hz:=sizeOfC_ok hc; simp only [Cfg.Ok,InK] at *; omega) (gO (InK .i64 (i+1)) (by have hb:=size_nl hc; have hq:=blockAt_ok hc (clsOf_pos (c:=c) (b:=i) (by omega)); have hz:=sizeOfC_ok hc; simp only [Cfg.Ok,InK] at *; omega) (gW (ks:=[.j J_2,.b 0,.c [1,1,1,1]]) [(1,vI k),(2,vP b_1),(5,vI (((blockAt c i)+1)+c.s1)),(6,vI (i+1))] [Efdc04 b_1 c] ?_))))
   exact go_back hJ_2 (i+1) [0] kR (by first | rfl | (rw [ref_block hc (by omega)]; first | rw [if_pos hcl] | rw [if_neg hcl])) rfl (by omega) (by omega)
 ·replace h_3:=decF h_3
  exact gI (vI (blockAt c i)) [] ⟨(congrArg (Value.int .i64) (by congr 1; omega)),rfl⟩
end Go.Proofs.YtpcaijopodhdgaaGreatDoor
namespace Go.Proofs.YtpcaijopodhdgaaGreatDoor
open Go.Sx
abbrev E99bbc(x0:Nat)(a1:Ar)(x2:Bool)(x3:Int): Ent:=.pts x0 [.slice a1.aw a1.n a1.cw,.int .i64 a1.steps,.int .i64 a1.lk,.int .i64 a1.lw,.int .u64 a1.lv,.bool a1.lc,.bool x2,.int .i64 x3] 67
abbrev E1ce01(x0:Nat)(a1:Ar)(x2:Int)(x3:Int)(x4:Int)(x5:Int)(x6:Bool)(x7:Bool)(x8:Int): Ent:=.pts x0 [.slice a1.aw a1.n a1.cw,.int .i64 x2,.int .i64 x3,.int .i64 x4,.int .u64 x5,.bool x6,.bool x7,.int .i64 x8] 67
abbrev Ed155d(x0:Nat)(x1:Int)(x2:Int)(x3:Int)(x4:Int)(x5:Int)(x6:Int)(x7:Int)(x8:Int)(x9:Int): Ent:=.pts x0 [.int .i64 x1,.int .i64 x2,.int .i64 x3,.int .i64 x4,.int .i64 x5,.int .i64 x6,.int .i64 x7,.int .i64 x8,.int .i64 x9] 3
abbrev E20910(a0:Ar)(x1:List Int): Ent:=.sl a0.aw a0.cw (encI .u64) 0 1 x1 60
abbrev E4d1fc(x0:Nat)(x1:Option Addr)(x2:Nat)(x3:Nat)(x4:Int)(x5:Int)(x6:Int)(x7:Int)(x8:Bool)(x9:Bool)(x10:Int): Ent:=.pts x0 [.slice x1 x2 x3,.int .i64 x4,.int .i64 x5,.int .i64 x6,.int .u64 x7,.bool x8,.bool x9,.int .i64 x10] 67
noncomputable def B144: Code:=(Tryz.f144.body).getD .skip
theorem ref_step(ra:Nat)(A:Ar)(i kd:Int)(hn:A.ws.length=A.n)(hi:0≤i∧i<A.n)(hs : -1000000000≤A.steps∧A.steps≤1000000000):
  Ctr Tryz.prog 144 #[vP ra,vI kd,vI i] [E99bbc ra A false 0] (Ret (.bool true) [E1ce01 ra A (A.steps+1) kd i 0 false false 0]):=by
 refine cB B144 43 Tryz.func144 ?_
 intro F
 exact gX [.e 0,.n,.e 0,.e 0,.sp [22,21] [.e 0,.sp [30,29] [] [.dead]] [.dead]] (gQ ra (gO (InK .i64 (A.steps+1)) (by simp only [InK]; omega) (gQ ra (gQ ra (gQ (decide (i≥0)) (gT (decide (i≥0)) (by first | (simp; done) | (simp; omega)) (gQ ra (gQ (decide (i<((A.n:Nat):Int))) (gT (decide (i<((A.n:Nat):Int))) (by first | (simp; done) | (simp; omega)) (gJ [0] ⟨rfl,rfl⟩))))))))))
noncomputable def B86: Code:=(Tryz.f86.body).getD .skip
theorem ref_Load(ra:Nat)(A:Ar)(i:Int)(hn:A.ws.length=A.n)(hi:0≤i∧i<A.n)(hs : -1000000000≤A.steps∧A.steps≤1000000000):
  Ctr Tryz.prog 86 #[vP ra,vI i] [E99bbc ra A false 0,E35fb1 A] (Ret (vU (A.ws.getD i.toNat 0)) [E99bbc ra (A.load i) false 0,E35fb1 (A.load i)]):=by
 refine cB B86 29 Tryz.func86 ?_
 intro F
 refine gX [.z [0,1] 2 [0,1,6,7]] (gS [.o [0,1] 2,.c [1,1]] ?_)
 refine gC (some 8) [0] Tryz.call144 (ref_step ra A i 1 oM oM oM) ?_
 exact gX [.e 1,.s 0,.j 0 i.toNat,.e 1,.e 1,.s 0,.j 0 i.toNat] (gQ ra (gO (A.aw=A.aw∧A.n=A.ws.length) ⟨rfl,(by first | rfl | omega | (simp; done) | (simp; omega))⟩ (gO ((0:Int)≤i∧i<((A.ws.length:Nat):Int)) oW (gQ (slAt A.aw i.toNat 1) (gO (i.toNat<A.ws.length) oW (gQ ra (gQ ra (gO (A.aw=A.aw∧A.n=A.ws.length) ⟨rfl,(by first | rfl | omega | (simp; done) | (simp; omega))⟩ (gO ((0:Int)≤i∧i<((A.ws.length:Nat):Int)) oW (gQ (slAt A.aw i.toNat 1) (gO (i.toNat<A.ws.length) oW (gJ [1,0] ⟨rfl,rfl⟩))))))))))))
noncomputable def B84: Code:=(Tryz.f84.body).getD .skip
theorem ref_Store0(ra:Nat)(A:Ar)(i v_:Int)(hn:A.ws.length=A.n)(hi:0≤i∧i<A.n)(hs : -1000000000≤A.steps∧A.steps≤1000000000):
  Ctr Tryz.prog 84 #[vP ra,vI i,vU v_] [E99bbc ra A false 0,E35fb1 A] (Ret (undef) [E99bbc ra (A.rstore i v_) false 0,E35fb1 (A.rstore i v_)]):=by
 refine cB B84 27 Tryz.func84 ?_
 intro F
 refine gX [.z [0] 2 [0,1,2,7,8]] (gS [.o [0] 2,.c [1]] ?_)
 refine gC (some 9) [0] Tryz.call144 (ref_step ra A i 2 oM oM oM) ?_
 refine go_exec (rs:=[]) kR 4000 [.e 1,.s 0,.j 0 i.toNat,.e 1,.e 1] (o:=.obl (ra=ra) (.obl (A.aw=A.aw∧A.n=A.ws.length) (.obl ((0:Int)≤i∧i<((A.ws.length:Nat):Int)) (.obl (slAt A.aw i.toNat 1=slAt A.aw i.toNat 1) (.obl (i.toNat<A.ws.length) (.ex fun x_1:Int=>.obl ([vU v_]=(encI .u64) x_1) (.obl (ra=ra) (.obl (ra=ra) (.ret (undef) [E20910 A (A.ws.set i.toNat x_1),E1ce01 ra A (A.steps+1) 2 i v_ true false 0]))))))))) kR ?_
 refine ok_obl rfl ?_
 refine ok_obl ⟨rfl,(by first | rfl | omega | (simp; done) | (simp; omega))⟩ ?_
 refine ok_obl oW ?_
 refine ok_obl rfl ?_
 refine ok_obl oW ?_
 refine ok_ex (v_:Int) ?_
 refine ok_obl rfl ?_
 refine ok_obl rfl ?_
 refine ok_obl rfl ?_
 exact rK [1,0] ⟨rfl,rfl⟩
theorem ref_Store(ra:Nat)(A:Ar)(i v_:Int)(hn:A.ws.length=A.n)(hi:0≤i∧i<A.n)(hs : -1000000000≤A.steps∧A.steps≤1000000000):
  Ctr Tryz.prog 84 #[vP ra,vI i,vU v_] [E99bbc ra A false 0,E35fb1 A] (Ret (undef) [E99bbc ra (A.store i v_) false 0,E35fb1 (A.store i v_)]):=by
 have h:=ref_Store0 ra A i v_ hn hi hs
 rw [rstore_eq (by omega)] at h
 exact h
noncomputable def B129: Code:=(Tryz.f129.body).getD .skip
theorem ref_New(n:Int)(h:1≤n∧n≤4096):
  Ctr Tryz.prog 129 #[vI n] [] (fun v L => ∃(ra:Nat) (aw:Option Addr) (cw:Nat),v=vP ra∧L=[E4d1fc ra aw ((List.replicate n.toNat (0:Int)).length) cw 0 0 0 0 false false 0,E54ea0 aw cw (List.replicate n.toNat (0:Int))]):=by
 refine cB B129 7 Tryz.func129 ?_
 intro F
 refine gX [.z [0,1] 1 [3]] (gW (ks:=[.o [0,1] 1,.c [1,1]]) [(3,vI n)] [] ?_)
 refine go_make (kl:=.i64) (kc:=.i64) (encI .u64) 0 (0:Int) 1 (sizedI _) 60 8 (some 4) n n kR (by omega) (by omega) (by omega) (by omega) ?_
 intro a_1 c_2
 exact gX [] (gN fun b_3=>gJ [1,0] ⟨b_3,a_1,c_2,rfl,rfl⟩)
noncomputable def B45: Code:=(Tryz.f45.body).getD .skip
set_option maxHeartbeats 4000000 in
theorem ref_Of(b:Nat)(x0 x1 x2 x3 x4 x5 x6 x7 x8:Int):
  Ctr Tryz.prog 45 #[.slice (some ⟨b,0,none⟩) 9 9] [Ed155d b x0 x1 x2 x3 x4 x5 x6 x7 x8] (Ret (.agg #[vI x0,vI x1,vI x2,vI x3,vI x5,vI x6,vI x7,vI x8,vI x4]) [Ed155d b x0 x1 x2 x3 x4 x5 x6 x7 x8]):=by
 refine cB B45 39 Tryz.func45 ?_
 intro F
 refine gX [.z [0,1] 0 [0,2]] (gN fun b_1=>gW (ks:=[.c [0,1],.c [1,1]]) [(0,.slice (some ⟨b,0,none⟩) 9 9),(2,vP b_1)] [Ed155d b x0 x1 x2 x3 x4 x5 x6 x7 x8,Ed975e b_1 0 0 0 0 0 0 0 0 0] ?_)
 refine zG ?_
 refine zN [0,1,2,3,4,5,6,7,8,9,10,11,12,13,14,15] (kV 0 [.w,.w,.e 0,.w,.w,.e 0,.w,.w,.e 0,.w,.w,.e 0,.w,.w,.e 0,.w]) [0,2,4,5,6,7,8,9,10,11,12,13,14,15,16,17,18,19] [16] (.e b (.e b (.e b (.e b (.e b .n))))) ⟨?_,trivial⟩
 refine zX .w (sN fun b_16_1=>(sV ?_))
 refine zN [] (kV 0 [.w,.w,.e 0,.w,.w,.e 0,.w,.w,.e 0,.w,.w,.e 0,.w,.w,.e 0,.w]) [3,0,2,4,5,6,7,8,9,10,11,12,13,14,15,16,17,18,19] [17] (.e b (.e b (.e b (.e b (.e b .n))))) ⟨?_,trivial⟩
 refine zX (.e 2) (sQ b_16_1 (sK ?_))
 refine zE [] [] [3,0,2] .n ?_
 refine gX [.z [0,1,1] 0 [0,2,3]] (gS [.c [0,1,1],.c [1,1,1]] ?_)
 refine tO (kV 0 [.ww,.ww,.e 0,.ww,.ww,.e 0,.ww,.ww,.ww]) 9 [] (.e 2) [0,2,3] (.e b (.e b .n)) .n (sQ b_16_1 (sK ?_))
 refine tN .n ?_
 refine gX [.z [0,1,1,1] 0 [0,2,3]] (gS [.c [0,1,1,1],.c [1,1,1,1]] ?_)
 refine tO (kV 0 [.ww,.ww,.e 0,.ww,.ww,.e 0,.ww,.ww,.ww]) 9 [] (.e 2) [2,3] (.e b (.e b .n)) .n (sQ b_16_1 (sK ?_))
 refine tN .n ?_
 exact gX [.e 2,.e 1,.e 1] (gQ b_16_1 (gQ b_1 (gQ b_1 (gJ [0] ⟨rfl,rfl⟩))))
end Go.Proofs.YtpcaijopodhdgaaGreatDoor
namespace Go.Proofs.YtpcaijopodhdgaaGreatDoor
open Go.Sx
abbrev E854a5(x0:Nat)(c1:Cfg): Ent:=.pts x0 [.int .i64 c1.topics,.int .i64 c1.small,.int .i64 c1.slots,.int .i64 c1.clients,.int .i64 c1.retry,.int .i64 c1.s0,.int .i64 c1.n0,.int .i64 c1.s1,.int .i64 c1.n1] 3
noncomputable def B170: Code:=(Tryz.f170.body).getD .skip
theorem ref_Parts(c:Cfg):
  Ctr Tryz.prog 170 #[cfgV c] [] (fun v L => ∃(b:Nat),v = .slice (some ⟨b,0,none⟩) 9 9∧L=[E854a5 b c]):=by
 refine cB B170 30 Tryz.func170 ?_
 intro F
 exact gX [.e 0,.e 0,.e 0,.e 0,.e 0,.w,.e 0,.w,.e 0,.w,.e 0,.w,.e 0] (gN fun b_1=>gQ b_1 (gQ b_1 (gQ b_1 (gQ b_1 (gQ b_1 (gQ b_1 (gQ b_1 (gQ b_1 (gQ b_1 (gN fun b_2=>gJ [1] ⟨b_2,rfl,rfl⟩))))))))))
noncomputable def B131: Code:=(Tryz.f131.body).getD .skip
end Go.Proofs.YtpcaijopodhdgaaGreatDoor
namespace Go.Proofs.YtpcaijopodhdgaaGreatDoor
open Go.Sx
abbrev q13_0: List Nat:=[0,0,0,1,0,0,1,0,1]
noncomputable def B38: Code:=(Tryz.f38.body).getD .skip
theorem ref_Has(a:Option Addr)(c c0 n:Nat)(xs:List Int)(v_:Int)(hn:n≤xs.length)(hl:n≤1000000):
  Ctr Tryz.prog 38 #[.slice a n c,vI v_] [Ee1326 a c0 xs] (Ret (.bool (hasN xs n v_)) [Ee1326 a c0 xs]):=by
 refine cB B38 18 Tryz.func38 ?_
 intro F
 refine gX [.z [0,1,0,1] 0 [0,1,5]] (gS [.c [0,1,0,1],.b 0,.c [1,1]] ?_)
 refine go_loop (ι := Int) (fun i=>[(0,.slice a n c),(1,vI v_),(5,vI i)]) (fun i=>[Ee1326 a c0 xs]) (fun i=>(0≤i∧i≤(n:Int))∧∀j:Nat,(j:Int)<i→xs.getD j 0≠v_) (fun i=>((n:Int)-i).toNat) 0 [0,1,5] [0] kR kR kR kR ⟨(by omega),fun j h=>(by omega)⟩ ?_
 intro i J_1 hIJ_1 hJ_1
 have hx:=hIJ_1
 refine gX [.sp [9] [.z q13_0 2 [0,1,5,12,13]] []] (gB (decide (i<((n:Nat):Int))) (fun h_2 => ?_) (fun h_2 => ?_))
 ·replace h_2:=decT h_2
  refine gS [.o q13_0 2,.c [1,0,0,1,0,0,1,0,1],.b 1,.c [1,1,0,0,1,0,1],.j J_1,.b 0,.c [1,1]] ?_
  refine go_by (some 14) (ipO Tryz.prog _) (some (.slice a n c,vI i,1)) (R_ixP 0 (a:=a) (c:=c0) (enc:=encI .i64) (d:=0) (sz:=1) (xs:=xs) (te:=3)  kR n c .i64 i (by omega) (by omega)) kR ?_
  rintro v L2 ⟨rfl,rfl⟩
  refine gX [.j 0 i.toNat,.sp [17] [] [.n,.z [] 0 [0,1,5]]] (gQ (slAt a i.toNat 1) (gO (i.toNat<xs.length) oW (gB ((xs.getD i.toNat 0)==v_) (fun h_3 => ?_) (fun h_3 => ?_))))
  ·replace h_3:=beqT h_3
   exact gI (.bool true) [0] ⟨(congrArg Value.bool (hasN_yes (i:=i) (by omega) hn (by assumption)).symm),rfl⟩
  ·replace h_3:=beqF h_3
   refine gO (InK .i64 (i+1)) (by simp only [InK]; omega) (gS [.j J_1,.b 0,.c [1,1]] ?_)
   exact go_back hJ_1 (i+1) [0] kR kR kR ⟨(by omega),has_step hx.2 hx.1.1 (by assumption)⟩ (by omega)
 ·replace h_2:=decF h_2
  exact gI (.bool false) [0] ⟨(congrArg Value.bool (hasN_no hx.2 (by omega)).symm),rfl⟩
end Go.Proofs.YtpcaijopodhdgaaGreatDoor
namespace Go.Proofs.YtpcaijopodhdgaaGreatDoor
open Go.Sx
abbrev E313d0(x0:Nat)(c1:Cfg)(g2:Gv): Ent:=.pts x0 [.int .i64 c1.topics,.int .i64 c1.small,.int .i64 c1.slots,.int .i64 c1.clients,.int .i64 c1.s0,.int .i64 c1.n0,.int .i64 c1.s1,.int .i64 c1.n1,.int .i64 c1.retry,.int .i64 g2.block,.int .i64 ((g2.ph:Nat):Int),.int .u64 g2.seen] 212
end Go.Proofs.YtpcaijopodhdgaaGreatDoor
namespace Go.Proofs.YtpcaijopodhdgaaGreatDoor
open Go.Sx
abbrev Ef501a(x0:Nat)(c1:Cfg)(x2:Int)(x3:Bool)(x4:Option Addr)(x5:Nat)(x6:Nat)(x7:Option Addr)(x8:Nat)(x9:Nat)(x10:Option Addr)(x11:Nat)(x12:Nat)(x13:Option Addr)(x14:Nat)(x15:Nat)(x16:Value): Ent:=.pts x0 [.int .i64 c1.topics,.int .i64 c1.small,.int .i64 c1.slots,.int .i64 c1.clients,.int .i64 c1.s0,.int .i64 c1.n0,.int .i64 c1.s1,.int .i64 c1.n1,.int .i64 c1.retry,.int .i64 x2,.bool x3,.slice x4 x5 x6,.slice x7 x8 x9,.slice x10 x11 x12,.slice x13 x14 x15,x16] 158
/-- where the rows of a scan of the document lie -/
structure RsH where
 al:Option Addr
 an:Option Addr
 ak:Option Addr
 ag:Option Addr
 cl:Nat
 cn:Nat
 ck:Nat
 cg:Nat
 gp:Nat
 gv:Value
noncomputable def rgivL(c:Cfg)(gp:Nat): Option Gv→List Ent
 | none=>[]
 | some G=>[E313d0 gp c G]
noncomputable def rsL(rs:Nat)(c:Cfg)(S:Rs)(h:RsH): List Ent:=[Ef501a rs c S.slot S.over h.al S.left.length h.cl h.an S.named.length h.cn h.ak S.kept.length h.ck h.ag S.given.length h.cg h.gv,Ee1326 h.al h.cl S.left,Ee1326 h.an h.cn S.named,Ee1326 h.ak h.ck S.kept,Ee1326 h.ag h.cg S.given,.res (dens (rgivL c h.gp S.give))]
def rsI(S:Rs)(h:RsH): Prop := ∀G,S.give=some G→h.gv = .pointer (some ⟨h.gp,0,none⟩)
noncomputable def RsR(rs:Nat)(c:Cfg)(S:Rs): Res:=Box (rsI S) (rsL rs c S)
end Go.Proofs.YtpcaijopodhdgaaGreatDoor
namespace Go.Proofs.YtpcaijopodhdgaaGreatDoor
open Go.Sx
end Go.Proofs.YtpcaijopodhdgaaGreatDoor
namespace Go.Proofs.YtpcaijopodhdgaaGreatDoor
open Go.Sx
noncomputable def B76: Code:=(Tryz.f76.body).getD .skip
theorem scan_Kept0(c:Cfg)(s m:Nat)(sl:Int)(left kept:List Int)(al ak ag:Option Addr)(cl ck cg ng:Nat)(gp:Value)(hl:kept.length+left.length≤100):
  Ctr Tryz.prog 76 #[vP s] [E3dfcb s c sl m al left.length cl ak kept.length ck ag ng cg gp,Ee1326 al cl left,Ee1326 ak ck kept] (fun v L => ∃(a2:Option Addr) (c2:Nat),v = .slice a2 ((kept++left).length) c2∧L=[E3dfcb s c sl m al left.length cl ak kept.length ck ag ng cg gp,Ee1326 al cl left,Ee1326 ak ck kept,Ee1326 a2 c2 (kept++left)]):=by
 refine cB B76 15 Tryz.func76 ?_
 intro F
 refine gX [.z [0,1,1] 0 [0]] (gS [.c [0,1,1],.c [1,1,1]] ?_)
 refine zG ?_
 refine zN [0,1,2,3,4,5,6,7] (kV 0 [.w,.w,.w,.e 0,.w,.w,.w,.e 0]) [0,5,6,7,8,9,10,11,12] [8] (.e s (.e s .n)) ⟨?_,trivial⟩
 refine zX .w (sN fun b_8_1=>(sV ?_))
 refine zN [] [] [13] [9] .n ⟨?_,trivial⟩
 refine zC (some 14) [3,2,1] Tryz.call140 (concat b_8_1 ak al ck cl kept left oM oM) ?_
 rintro v post ⟨a2_9_1,c2_9_1,rfl,rfl⟩
 refine zE [10] (kV 10 [.w]) [2] .n ?_
 exact gX [] (gJ [0,2,1,3] ⟨a2_9_1,c2_9_1,rfl,rfl⟩)
theorem scan_Kept(c:Cfg)(s:Nat)(S:Sc)(hl:S.kept.length+S.left.length≤100):
  Ctr Tryz.prog 76 #[vP s] [.res (ScanR s c S)] (fun v L => ∃(a2:Option Addr) (c2:Nat),v = .slice a2 ((S.kept++S.left).length) c2∧L=[.res (ScanR s c S),Ee1326 a2 c2 (S.kept++S.left)]):=by
 refine oC (I:=fun _:ScH=>True) (LL:=scanL s c S) 0 ?_
 rintro h -
 obtain⟨sl,named,left,kept,given,give⟩:=S
 cases give with
 | none=>
  refine cP [0,2,3] (scan_Kept0 c s h.m sl left kept h.al h.ak h.ag h.cl h.ck h.cg given.length (gpV h.gp none) hl) ?_
  rintro v post ⟨a2,c2,rfl,rfl⟩
  exact⟨_,(vK (fun _:ScH=>True) (scanL s c ⟨sl,named,left,kept,given,none⟩) h [2,0,3,4,1] trivial).trans (vQ [1,0]),a2,c2,rfl,rfl⟩
 | some G=>
  refine cP [0,2,3] (scan_Kept0 c s h.m sl left kept h.al h.ak h.ag h.cl h.ck h.cg given.length (gpV h.gp (some G)) hl) ?_
  rintro v post ⟨a2,c2,rfl,rfl⟩
  exact⟨_,(vK (fun _:ScH=>True) (scanL s c ⟨sl,named,left,kept,given,some G⟩) h [3,0,4,5,1,2] trivial).trans (vQ [1,0]),a2,c2,rfl,rfl⟩
end Go.Proofs.YtpcaijopodhdgaaGreatDoor
namespace Go.Proofs.YtpcaijopodhdgaaGreatDoor
open Go.Sx
abbrev E790b0(x0:Nat)(c1:Cfg)(x2:Int)(x3:Bool)(x4:Option Addr)(x5:Nat)(x6:Nat): Ent:=.pts x0 [.int .i64 c1.topics,.int .i64 c1.small,.int .i64 c1.slots,.int .i64 c1.clients,.int .i64 c1.s0,.int .i64 c1.n0,.int .i64 c1.s1,.int .i64 c1.n1,.int .i64 c1.retry,.int .i64 x2,.bool x3,.slice x4 x5 x6,.slice none 0 0,.slice none 0 0,.slice none 0 0,.pointer none] 158
abbrev q18_0: List Nat:=[0,0,0,1,0,0,1,0,1,1,1]
abbrev q18_1: List Nat:=[1,0,0,1,0,0,1,0,1,1,1]
abbrev q18_2: List Nat:=[1,1,0,0,1,0,1,1,1]
noncomputable def B73: Code:=(Tryz.f73.body).getD .skip
theorem ref15_New_ok(c:Cfg)(a:Option Addr)(c0:Nat)(xs:List Int)(hc:c.Ok)(hl:xs.length≤100)(hg:goodRow c xs):
  Ctr Tryz.prog 73 #[cfgV c,.slice a xs.length c0] [Ee1326 a c0 xs] (fun v L => ∃(rs:Nat),v=vP rs∧L=[Ee1326 a c0 xs,.res (RsR rs c (newRs xs))]):=by
 refine cB B73 40 Tryz.func73 ?_
 intro F
 refine gX [.e 1,.z [0,1] 1 [1,2,7]] (gN fun b_1=>gQ b_1 (gS [.o [0,1] 1,.c [1,1]] ?_))
 refine gC (some 8) [] Tryz.call67 (ref_right c oM) ?_
 refine gX [.z [0,1,0,1,1,1] 0 [1,2,6]] (gS [.c [0,1,0,1,1,1],.b 0,.c [1,1,1,1]] ?_)
 refine go_loop (ι := Int) (fun i=>[(1,.slice a xs.length c0),(2,vP b_1),(6,vI i)]) (fun i=>[Efdc04 b_1 c,Ee1326 a c0 xs]) (fun i=>(0≤i∧i≤(xs.length:Int))∧∀j:Nat,(j:Int)<i→goodAt c xs j) (fun i=>((xs.length:Int)-i).toNat) 0 [1,2,6] [1,0] kR kR kR kR ⟨(by omega),fun j h=>(by omega)⟩ ?_
 intro i J_2 hIJ_2 hJ_2
 have hx:=hIJ_2
 refine gX [.sp [14] [.z q18_0 0 [1,2,6]] [.z [0,1,1,1,1] 0 [1,2]]] (gB (decide (i<((xs.length:Nat):Int))) (fun h_3 => ?_) (fun h_3 => ?_))
 ·replace h_3:=decT h_3
  refine gS [.c q18_0,.c q18_1,.b 1,.c q18_2,.j J_2,.b 0,.c [1,1,1,1]] ?_
  refine zG ?_
  refine zE [0,1,2,3,4,5,6,7,8,9,10,11,12,13,14,15,16] (kV 0 [.e 0,.w,.w,.h (.s 1),.h (.j 1 i.toNat),.q (vI (clsOf c (xs.getD i.toNat 0))),.t false,.w,.w,.w,.cut (.slice a i.toNat c0),.w,.w,.h (.s 1),.h (.j 1 i.toNat),.q (.bool (hasN xs i.toNat (xs.getD i.toNat 0))),.t false]) [1,2,6,33] (.e b_1 (.p (a=a∧xs.length=xs.length) ⟨rfl,(by first | rfl | omega | (simp; done) | (simp; omega))⟩ (.p ((0:Int)≤i∧i<((xs.length:Nat):Int)) oW (.e (slAt a i.toNat 1) (.p (i.toNat<xs.length) oW (.q (lQ [] Tryz.call98 (ref_Class c (xs.getD i.toNat 0) oM)) (.p ((decide ((clsOf c (xs.getD i.toNat 0))<0))=false) (decide_eq_false (by have:=(hg i.toNat (by omega)).1; omega)) (.p (LawQ Tryz.prog F [Efdc04 b_1 c,Ee1326 a c0 xs] (.slice a i.toNat c0) cutO (.slice a (xs).length c0,none,some (vI i),1)) (fun _=>(R_cutH 1 (a:=a) (c:=c0) (enc:=encI .i64) (d:=0) (sz:=1) (xs:=xs) (te:=3) kR .i64 i ⟨oW,oW⟩)) (.p (a=a∧xs.length=xs.length) ⟨rfl,(by first | rfl | omega | (simp; done) | (simp; omega))⟩ (.p ((0:Int)≤i∧i<((xs.length:Nat):Int)) oW (.e (slAt a i.toNat 1) (.p (i.toNat<xs.length) oW (.q (lQ [1] Tryz.call38 (ref_Has a c0 c0 i.toNat xs (xs.getD i.toNat 0) (by omega) (by omega))) (.p ((hasN xs i.toNat (xs.getD i.toNat 0))=false) (by exact(hg i.toNat (by omega)).2) .n)))))))))))))) ?_
  refine gX [.n,.z [] 0 [1,2,6]] (gO (InK .i64 (i+1)) (by simp only [InK]; omega) (gS [.j J_2,.b 0,.c [1,1,1,1]] ?_))
  exact go_back hJ_2 (i+1) [0,1] kR kR kR ⟨(by omega),goodAt_step hx.1.1 hx.2 (by first | omega | exact(hg _ (by omega)).1) (by first | assumption | exact(hg _ (by omega)).2)⟩ (by omega)
 ·replace h_3:=decF h_3
  refine gS [.c [0,1,1,1,1],.c [1,1,1,1,1]] ?_
  refine zG ?_
  refine zN [0,2] [(0,.e 0),(2,.w)] [1,2,34,36] [1] (.e b_1 .n) ⟨?_,trivial⟩
  refine zX .w (sN fun b_1_1=>(sV ?_))
  refine zN [] [(0,.e 0),(2,.w)] [35,1,2,34,36] [3] (.e b_1 .n) ⟨?_,trivial⟩
  refine lE [Efdc04 b_1 c,Ee1326 a c0 xs,.pts b_1_1 [] 3] ?_
  refine lzOp_view (view_empty 2 (b:=b_1_1) (encI .i64) 0 1 3 (sizedI _) kR) ?_
  refine zB (some 37) (appO Tryz.prog _) (some (.slice (some ⟨b_1_1,0,none⟩) ([]).length 0,.slice a xs.length c0,(3,1,8))) (R_append 2 (a:=(some ⟨b_1_1,0,none⟩)) (c:=0) (enc:=encI .i64) (d:=0) (sz:=1) (xs:=[]) (te:=3) kR (.slice a xs.length c0) xs (src_sl (i:=1) (d:=0) (sz:=1) (t:=3) kR) (oneI _) 8 oW oW) ?_
  rintro v L2 ⟨a_3_1,c_3_1,rfl,rfl⟩
  refine zN [4] [(0,.e 0),(4,.w)] [37,2,34,38] [5] (.e b_1 .n) ⟨?_,trivial⟩
  refine zX .w (sN fun b_5_1=>(sV ?_))
  refine zE [6] (kV 6 [.w]) [4] .n ?_
  refine gX [] (gW0 (vP b_5_1) [Efdc04 b_1 c,Ee1326 a c0 xs,Ee1326 a_3_1 c_3_1 ([]++xs),E790b0 b_5_1 c 0 false a_3_1 (([]++xs).length) c_3_1] ?_)
  refine ret_view (L':=[Efdc04 b_1 c,Ee1326 a c0 xs,Ee1326 a_3_1 c_3_1 ([]++xs),E790b0 b_5_1 c 0 false a_3_1 (([]++xs).length) c_3_1,Ee1326 none 0 []]) (view_nil (encI .i64) 0 1 3 (sizedI _)) ?_
  refine ret_view (L':=[Efdc04 b_1 c,Ee1326 a c0 xs,Ee1326 a_3_1 c_3_1 ([]++xs),E790b0 b_5_1 c 0 false a_3_1 (([]++xs).length) c_3_1,Ee1326 none 0 [],Ee1326 none 0 []]) (view_nil (encI .i64) 0 1 3 (sizedI _)) ?_
  refine ret_view (L':=[Efdc04 b_1 c,Ee1326 a c0 xs,Ee1326 a_3_1 c_3_1 ([]++xs),E790b0 b_5_1 c 0 false a_3_1 (([]++xs).length) c_3_1,Ee1326 none 0 [],Ee1326 none 0 [],Ee1326 none 0 []]) (view_nil (encI .i64) 0 1 3 (sizedI _)) ?_
  refine ret_view (L':=[Efdc04 b_1 c,Ee1326 a c0 xs,Ee1326 a_3_1 c_3_1 ([]++xs),E790b0 b_5_1 c 0 false a_3_1 (([]++xs).length) c_3_1,Ee1326 none 0 [],Ee1326 none 0 [],Ee1326 none 0 [],.res (dens [])]) view_unit ?_
  refine ret_view (L':=[Efdc04 b_1 c,Ee1326 a c0 xs,.res (RsR b_5_1 c (newRs xs))]) (vK (rsI (newRs xs)) (rsL b_5_1 c (newRs xs)) (⟨a_3_1,none,none,none,c_3_1,0,0,0,0,.pointer none⟩:RsH) [3,2,4,5,6,7] (fun G hG=>by cases hG)) ?_
  exact ret_ok (post:=[Ee1326 a c0 xs,.res (RsR b_5_1 c (newRs xs))]) [1,2] kR ⟨b_5_1,rfl,rfl⟩
end Go.Proofs.YtpcaijopodhdgaaGreatDoor
namespace Go.Proofs.YtpcaijopodhdgaaGreatDoor
open Go.Sx
abbrev E4fdb9(x0:Nat)(x1:Int)(x2:Int)(x3:Bool): Ent:=.pts x0 [.slice none 0 0,.int .i64 x1,.int .i64 x2,.bool x3] 82
abbrev E228b6(x0:Nat)(x1:Option Addr)(x2:Nat)(x3:Nat)(x4:Int)(x5:Int)(x6:Bool): Ent:=.pts x0 [.slice x1 x2 x3,.int .i64 x4,.int .i64 x5,.bool x6] 82
abbrev q24_0: List Nat:=[0,0,1,1,1,1,1,1]
abbrev q24_1: List Nat:=[1,1,1,1,1,1,1]
abbrev q24_2: List Nat:=[0,0,1,0,1,0,0,0,1,1,1,1,1,1]
abbrev q24_3: List Nat:=[1,0,1,0,1,0,0,0,1,1,1,1,1,1]
abbrev q24_4: List Nat:=[1,1,0,1,0,0,0,1,1,1,1,1,1]
abbrev q24_5: List Nat:=[0,1,1,1,0,1,0,0,0,1,1,1,1,1,1]
abbrev q24_6: List Nat:=[1,1,1,1,0,1,0,0,0,1,1,1,1,1,1]
abbrev q24_7: List Nat:=[0,1,0,1,1,1,1,1,1]
abbrev q24_8: List Nat:=[0,0,0,0,1,0,1,1,1,1,1,1]
abbrev q24_9: List Nat:=[0,0,0,1,0,0,1,0,1,1,1,1,1,1]
abbrev q24_10: List Nat:=[1,0,0,1,0,0,1,0,1,1,1,1,1,1]
abbrev q24_11: List Nat:=[1,1,0,0,1,0,1,1,1,1,1,1]
abbrev q24_12: List Nat:=[0,1,0,0,1,0,0,1,0,1,1,1,1,1,1]
structure ChI where
 at_:Int
 out:List Int
 oa:Option Addr
 oc:Nat
 rest:List Int
structure FrI where
 i:Int
 out:List Int
 oa:Option Addr
 oc:Nat
noncomputable def B80: Code:=(Tryz.f80.body).getD .skip
theorem ref_List0(c:Cfg)(a:Option Addr)(c0:Nat)(W l:List Int)(hc:c.Ok)(hlen0:(W.length:Int)=sizeOfC c)(hr:RngW W)(hch:Chain c 0 W (3+0) l)(hl:(l.length:Int)≤c.n0):
  Ctr Tryz.prog 80 #[cfgV c,.slice a W.length c0,vI 0] [E54ea0 a c0 W] (fun v L => ∃(oa:Option Addr) (oc:Nat),v = .agg #[.slice oa l.length oc,vI 0,vI 0,.bool false]∧L=[E54ea0 a c0 W,Ee1326 oa oc l]):=by
 refine cB B80 70 Tryz.func80 ?_
 intro F
 refine gX [.e 1,.z [0,1] 1 [1,2,3,6,11]] (gN fun b_1=>gN fun b_2=>gQ b_1 (gS [.o [0,1] 1,.c [1,1]] ?_))
 refine gC (some 12) [] Tryz.call67 (ref_right c oM) ?_
 refine gX [.e 1,.z [0,0,1,1,1] 3 [1,2,3,6,25,26]] (gQ b_1 (gS [.o [0,0,1,1,1] 3,.c [1,0,1,1,1],.c [1,1,1,1]] ?_))
 refine gC (some 27) [] Tryz.call130 (ref_Size c oM) ?_
 refine gX [.sp [28] [.dead] [.w,.z q24_0 0 [1,2,3,6,8,9]]] (gF (((W.length:Nat):Int) != (sizeOfC c)) (bne_eq_false_iff_eq.2 hlen0) (gS [.c q24_0,.b 0,.c q24_1] ?_))
 refine go_view (view_nil (encI .i64) 0 1 3 (sizedI _)) ?_
 refine go_loop (ι := ChI) (fun i=>[(1,.slice a W.length c0),(2,vI 0),(3,vP b_1),(6,vP b_2),(8,.slice i.oa i.out.length i.oc),(9,vI i.at_)]) (fun i=>[Efdc04 b_1 c,E4fdb9 b_2 0 0 false,E54ea0 a c0 W,Ee1326 i.oa i.oc i.out]) (fun i=>i.out++i.rest=l∧Chain c 0 W i.at_ i.rest∧(0≤i.at_∧i.at_<(W.length:Int))) (fun i=>i.rest.length) ⟨3+0,[],none,0,l⟩ [1,2,3,6,8,9] [1,2,0,3] kR kR kR kR ⟨rfl,hch,(by have:=sizeOfC_ok hc; dsimp only; omega)⟩ ?_
 intro i J_3 hIJ_3 hJ_3
 have hx:=hIJ_3
 have hwb:=wb_rng hr i.at_
 refine gX [.s 2,.j 2 i.at_.toNat,.sp [37] [.s 2,.j 2 i.at_.toNat,.n,.e 0,.z q24_2 2 [1,2,3,6,8,9,10,44,45]] [.e 1,.e 1]] (gO (a=a∧W.length=W.length) ⟨rfl,(by first | rfl | omega | (simp; done) | (simp; omega))⟩ (gO ((0:Int)≤i.at_∧i.at_<((W.length:Nat):Int)) oW (gQ (slAt a i.at_.toNat 1) (gO (i.at_.toNat<W.length) oW (gB ((bAnd .u64 (W.getD i.at_.toNat 0) 4294967295) != 0) (fun h_4 => ?_) (fun h_4 => ?_))))))
 ·replace h_4:=bneT h_4
  have hon:=chain_on hr hx.2.1 (show wb W i.at_≠0 from h_4)
  have hlen:i.out.length+i.rest.length=l.length:=by rw [←hx.1,List.length_append]
  have hpos:0<i.rest.length:=by rw [hon.1]; simp
  have hcb:0≤clsOf c (wb W i.at_):=by rw [hon.2.1]; omega
  have hcb2:=clsOf_ok hcb
  have hbb:=blockAt_ok hc hcb
  refine gO (a=a∧W.length=W.length) ⟨rfl,(by first | rfl | omega | (simp; done) | (simp; omega))⟩ (gO ((0:Int)≤i.at_∧i.at_<((W.length:Nat):Int)) oW (gQ (slAt a i.at_.toNat 1) (gO (i.at_.toNat<W.length) oW (gO (InK .i64 (bAnd .u64 (W.getD i.at_.toNat 0) 4294967295)) (by show InK .i64 (wb W i.at_); simp only [InK]; omega) (gQ b_1 (gS [.o q24_2 2,.c q24_3,.c q24_4,.b 1,.j J_3,.b 0,.c q24_1] ?_))))))
  refine gC (some 46) [] Tryz.call98 (ref_Class c (bAnd .u64 (W.getD i.at_.toNat 0) 4294967295) oM) ?_
  refine gX [.sp [48] [.dead] [.w,.e 0,.sp [58] [.dead] [.z q24_5 3 [1,2,3,6,10,61,63]]]] (gF ((clsOf c (bAnd .u64 (W.getD i.at_.toNat 0) 4294967295)) != 0) (bne_eq_false_iff_eq.2 hon.2.1) (gQ b_1 (gF (((i.out.length:Nat):Int)==c.n0) (beq_eq_false_iff_ne.2 (by omega)) (gN fun b_5=>gW (ks:=[.o q24_5 3,.c q24_6,.b 1,.j J_3,.b 0,.c q24_1]) [(1,.slice a W.length c0),(2,vI 0),(3,vP b_1),(6,vP b_2),(10,vI (bAnd .u64 (W.getD i.at_.toNat 0) 4294967295)),(61,.slice i.oa i.out.length i.oc),(63,.slice (some ⟨b_5,0,none⟩) 1 1)] [Efdc04 b_1 c,E4fdb9 b_2 0 0 false,E54ea0 a c0 W,Ee1326 i.oa i.oc i.out,.pts b_5 [vI (bAnd .u64 (W.getD i.at_.toNat 0) 4294967295)] 3] ?_))))
  refine go_by (some 64) (appO Tryz.prog _) (some (.slice i.oa (i.out).length i.oc,.slice (some ⟨b_5,0,none⟩) 1 1,(3,1,8))) (R_append 3 (a:=i.oa) (c:=i.oc) (enc:=encI .i64) (d:=0) (sz:=1) (xs:=i.out) (te:=3) kR (.slice (some ⟨b_5,0,none⟩) 1 1) [(bAnd .u64 (W.getD i.at_.toNat 0) 4294967295)] (src_pts (i:=4) (t:=3) kR) (oneI _) 8 (by simp only [Cfg.Ok] at hc; simp; omega) (by simp only [Cfg.Ok] at hc; simp; omega)) kR ?_
  rintro v L2 ⟨a_6,c_7,rfl,rfl⟩
  refine gX [.e 0,.z q24_6 2 [1,2,3,6,8,65,66]] (gQ b_1 (gS [.o q24_6 2,.b 1,.j J_3,.b 0,.c q24_1] ?_))
  refine gC (some 67) [] Tryz.call85 (ref_Block c (bAnd .u64 (W.getD i.at_.toNat 0) 4294967295) oM hcb2) ?_
  refine gX [.z [] 0 [1,2,3,6,8,9]] (gS [.j J_3,.b 0,.c q24_1] ?_)
  exact go_back hJ_3 (⟨blockAt c (bAnd .u64 (W.getD i.at_.toNat 0) 4294967295),(i.out++[(bAnd .u64 (W.getD i.at_.toNat 0) 4294967295)]),a_6,c_7,i.rest.drop 1⟩:ChI) [0,1,2,3] kR kR kR ⟨(by dsimp only; rw [List.append_assoc]; show i.out++(wb W i.at_ :: i.rest.drop 1)=l; rw [←hon.1]; exact hx.1),hon.2.2,⟨(by show 0≤blockAt c (wb W i.at_); omega),(by show blockAt c (wb W i.at_) < _; omega)⟩⟩ (by dsimp only; rw [hon.1]; simp)
 ·replace h_4:=bneF h_4
  have hoff:=chain_off hr hx.2.1 (by omega) (show wb W i.at_ = 0 from h_4)
  have hout:i.out=l:=by have h1:=hx.1; rw [hoff,List.append_nil] at h1; exact h1
  refine gQ b_2 (gQ b_2 (gW0 (.agg #[.slice i.oa i.out.length i.oc,vI 0,vI 0,.bool false]) [Efdc04 b_1 c,E228b6 b_2 i.oa i.out.length i.oc 0 0 false,E54ea0 a c0 W,Ee1326 i.oa i.oc i.out] ?_))
  exact ret_ok (post:=[E54ea0 a c0 W,Ee1326 i.oa i.oc i.out]) [2,3] kR ⟨i.oa,i.oc,(by rw [←hout]),(by rw [←hout])⟩
theorem ref_List1(c:Cfg)(a:Option Addr)(c0:Nat)(W l:List Int)(hc:c.Ok)(hlen0:(W.length:Int)=sizeOfC c)(hr:RngW W)(hch:Chain c 1 W (3+1) l)(hl:(l.length:Int)≤c.n1):
  Ctr Tryz.prog 80 #[cfgV c,.slice a W.length c0,vI 1] [E54ea0 a c0 W] (fun v L => ∃(oa:Option Addr) (oc:Nat),v = .agg #[.slice oa l.length oc,vI 0,vI 0,.bool false]∧L=[E54ea0 a c0 W,Ee1326 oa oc l]):=by
 refine cB B80 70 Tryz.func80 ?_
 intro F
 refine gX [.e 1,.z [0,1] 1 [1,2,3,6,11]] (gN fun b_1=>gN fun b_2=>gQ b_1 (gS [.o [0,1] 1,.c [1,1]] ?_))
 refine gC (some 12) [] Tryz.call67 (ref_right c oM) ?_
 refine gX [.e 1,.z [0,0,1,1,1] 3 [1,2,3,6,25,26]] (gQ b_1 (gS [.o [0,0,1,1,1] 3,.c [1,0,1,1,1],.c [1,1,1,1]] ?_))
 refine gC (some 27) [] Tryz.call130 (ref_Size c oM) ?_
 refine gX [.sp [28] [.dead] [.w,.z q24_0 0 [1,2,3,6,8,9]]] (gF (((W.length:Nat):Int) != (sizeOfC c)) (bne_eq_false_iff_eq.2 hlen0) (gS [.c q24_0,.b 0,.c q24_1] ?_))
 refine go_view (view_nil (encI .i64) 0 1 3 (sizedI _)) ?_
 refine go_loop (ι := ChI) (fun i=>[(1,.slice a W.length c0),(2,vI 1),(3,vP b_1),(6,vP b_2),(8,.slice i.oa i.out.length i.oc),(9,vI i.at_)]) (fun i=>[Efdc04 b_1 c,E4fdb9 b_2 0 0 false,E54ea0 a c0 W,Ee1326 i.oa i.oc i.out]) (fun i=>i.out++i.rest=l∧Chain c 1 W i.at_ i.rest∧(0≤i.at_∧i.at_<(W.length:Int))) (fun i=>i.rest.length) ⟨3+1,[],none,0,l⟩ [1,2,3,6,8,9] [1,2,0,3] kR kR kR kR ⟨rfl,hch,(by have:=sizeOfC_ok hc; dsimp only; omega)⟩ ?_
 intro i J_3 hIJ_3 hJ_3
 have hx:=hIJ_3
 have hwb:=wb_rng hr i.at_
 refine gX [.s 2,.j 2 i.at_.toNat,.sp [37] [.s 2,.j 2 i.at_.toNat,.n,.e 0,.z q24_2 2 [1,2,3,6,8,9,10,44,45]] [.e 1,.e 1]] (gO (a=a∧W.length=W.length) ⟨rfl,(by first | rfl | omega | (simp; done) | (simp; omega))⟩ (gO ((0:Int)≤i.at_∧i.at_<((W.length:Nat):Int)) oW (gQ (slAt a i.at_.toNat 1) (gO (i.at_.toNat<W.length) oW (gB ((bAnd .u64 (W.getD i.at_.toNat 0) 4294967295) != 0) (fun h_4 => ?_) (fun h_4 => ?_))))))
 ·replace h_4:=bneT h_4
  have hon:=chain_on hr hx.2.1 (show wb W i.at_≠0 from h_4)
  have hlen:i.out.length+i.rest.length=l.length:=by rw [←hx.1,List.length_append]
  have hpos:0<i.rest.length:=by rw [hon.1]; simp
  have hcb:0≤clsOf c (wb W i.at_):=by rw [hon.2.1]; omega
  have hcb2:=clsOf_ok hcb
  have hbb:=blockAt_ok hc hcb
  refine gO (a=a∧W.length=W.length) ⟨rfl,(by first | rfl | omega | (simp; done) | (simp; omega))⟩ (gO ((0:Int)≤i.at_∧i.at_<((W.length:Nat):Int)) oW (gQ (slAt a i.at_.toNat 1) (gO (i.at_.toNat<W.length) oW (gO (InK .i64 (bAnd .u64 (W.getD i.at_.toNat 0) 4294967295)) (by show InK .i64 (wb W i.at_); simp only [InK]; omega) (gQ b_1 (gS [.o q24_2 2,.c q24_3,.c q24_4,.b 1,.j J_3,.b 0,.c q24_1] ?_))))))
  refine gC (some 46) [] Tryz.call98 (ref_Class c (bAnd .u64 (W.getD i.at_.toNat 0) 4294967295) oM) ?_
  refine gX [.sp [48] [.dead] [.w,.e 0,.sp [58] [.dead] [.z q24_5 3 [1,2,3,6,10,61,63]]]] (gF ((clsOf c (bAnd .u64 (W.getD i.at_.toNat 0) 4294967295)) != 1) (bne_eq_false_iff_eq.2 hon.2.1) (gQ b_1 (gF (((i.out.length:Nat):Int)==c.n1) (beq_eq_false_iff_ne.2 (by omega)) (gN fun b_5=>gW (ks:=[.o q24_5 3,.c q24_6,.b 1,.j J_3,.b 0,.c q24_1]) [(1,.slice a W.length c0),(2,vI 1),(3,vP b_1),(6,vP b_2),(10,vI (bAnd .u64 (W.getD i.at_.toNat 0) 4294967295)),(61,.slice i.oa i.out.length i.oc),(63,.slice (some ⟨b_5,0,none⟩) 1 1)] [Efdc04 b_1 c,E4fdb9 b_2 0 0 false,E54ea0 a c0 W,Ee1326 i.oa i.oc i.out,.pts b_5 [vI (bAnd .u64 (W.getD i.at_.toNat 0) 4294967295)] 3] ?_))))
  refine go_by (some 64) (appO Tryz.prog _) (some (.slice i.oa (i.out).length i.oc,.slice (some ⟨b_5,0,none⟩) 1 1,(3,1,8))) (R_append 3 (a:=i.oa) (c:=i.oc) (enc:=encI .i64) (d:=0) (sz:=1) (xs:=i.out) (te:=3) kR (.slice (some ⟨b_5,0,none⟩) 1 1) [(bAnd .u64 (W.getD i.at_.toNat 0) 4294967295)] (src_pts (i:=4) (t:=3) kR) (oneI _) 8 (by simp only [Cfg.Ok] at hc; simp; omega) (by simp only [Cfg.Ok] at hc; simp; omega)) kR ?_
  rintro v L2 ⟨a_6,c_7,rfl,rfl⟩
  refine gX [.e 0,.z q24_6 2 [1,2,3,6,8,65,66]] (gQ b_1 (gS [.o q24_6 2,.b 1,.j J_3,.b 0,.c q24_1] ?_))
  refine gC (some 67) [] Tryz.call85 (ref_Block c (bAnd .u64 (W.getD i.at_.toNat 0) 4294967295) oM hcb2) ?_
  refine gX [.z [] 0 [1,2,3,6,8,9]] (gS [.j J_3,.b 0,.c q24_1] ?_)
  exact go_back hJ_3 (⟨blockAt c (bAnd .u64 (W.getD i.at_.toNat 0) 4294967295),(i.out++[(bAnd .u64 (W.getD i.at_.toNat 0) 4294967295)]),a_6,c_7,i.rest.drop 1⟩:ChI) [0,1,2,3] kR kR kR ⟨(by dsimp only; rw [List.append_assoc]; show i.out++(wb W i.at_ :: i.rest.drop 1)=l; rw [←hon.1]; exact hx.1),hon.2.2,⟨(by show 0≤blockAt c (wb W i.at_); omega),(by show blockAt c (wb W i.at_) < _; omega)⟩⟩ (by dsimp only; rw [hon.1]; simp)
 ·replace h_4:=bneF h_4
  have hoff:=chain_off hr hx.2.1 (by omega) (show wb W i.at_ = 0 from h_4)
  have hout:i.out=l:=by have h1:=hx.1; rw [hoff,List.append_nil] at h1; exact h1
  refine gQ b_2 (gQ b_2 (gW0 (.agg #[.slice i.oa i.out.length i.oc,vI 0,vI 0,.bool false]) [Efdc04 b_1 c,E228b6 b_2 i.oa i.out.length i.oc 0 0 false,E54ea0 a c0 W,Ee1326 i.oa i.oc i.out] ?_))
  exact ret_ok (post:=[E54ea0 a c0 W,Ee1326 i.oa i.oc i.out]) [2,3] kR ⟨i.oa,i.oc,(by rw [←hout]),(by rw [←hout])⟩
noncomputable def B36: Code:=(Tryz.f36.body).getD .skip
theorem ref_Free(c:Cfg)(a:Option Addr)(c0:Nat)(W l0 l1:List Int)(hc:c.Ok)(hlen0:(W.length:Int)=sizeOfC c)(hr:RngW W)(h0:Chain c 0 W 3 l0)(h1:Chain c 1 W 4 l1)(hl0:(l0.length:Int)≤c.n0)(hl1:(l1.length:Int)≤c.n1):
  Ctr Tryz.prog 36 #[cfgV c,.slice a W.length c0] [E54ea0 a c0 W] (fun v L => ∃(oa:Option Addr) (oc:Nat),v = .agg #[.slice oa ((freeL l0 l1 (c.n0+c.n1).toNat).length) oc,vI 0,vI 0,.bool false]∧L=[E54ea0 a c0 W,Ee1326 oa oc (freeL l0 l1 (c.n0+c.n1).toNat)]):=by
 refine cB B36 45 Tryz.func36 ?_
 intro F
 refine gX [.e 1,.z [0,1] 2 [1,2,4,9,10]] (gN fun b_1=>gN fun b_2=>gQ b_1 (gS [.o [0,1] 2,.c [1,1]] ?_))
 refine go_call (some 11) [0] Tryz.call80 (ref_List0 c a c0 W l0 oM oM oM h0 hl0) kR ?_
 rintro v post ⟨oa_3,oc_4,rfl,rfl⟩
 refine gX [.e 4,.e 4,.e 0,.z [0,1,1,1] 2 [2,4,5,16,17]] (gN fun b_6=>gQ b_6 (gQ b_6 (gQ b_1 (gS [.o [0,1,1,1] 2,.c [1,1,1,1]] ?_))))
 refine go_call (some 18) [2] Tryz.call80 (ref_List1 c a c0 W l1 oM oM oM h1 hl1) kR ?_
 rintro v post ⟨oa_7,oc_8,rfl,rfl⟩
 refine gX [.e 6,.e 6,.z q24_7 0 [2,4,5,6,7,8]] (gN fun b_10=>gQ b_10 (gQ b_10 (gS [.c q24_7,.b 0,.c q24_1] ?_)))
 refine go_view (view_nil (encI .i64) 0 1 3 (sizedI _)) ?_
 refine go_loop (ι := FrI) (fun i=>[(2,vP b_1),(4,vP b_2),(5,vP b_6),(6,vP b_10),(7,.slice i.oa i.out.length i.oc),(8,vI i.i)]) (fun i=>[Efdc04 b_1 c,E4fdb9 b_2 0 0 false,Ee1326 oa_3 oc_4 l0,E228b6 b_6 oa_3 l0.length oc_4 0 0 false,E54ea0 a c0 W,Ee1326 oa_7 oc_8 l1,E228b6 b_10 oa_7 l1.length oc_8 0 0 false,Ee1326 i.oa i.oc i.out]) (fun i=>i.out=freeL l0 l1 (i.i-1).toNat∧(1≤i.i∧i.i≤c.n0+c.n1+1)∧(i.out.length:Int)≤i.i-1) (fun i=>(c.n0+c.n1+1-i.i).toNat) ⟨1,[],none,0⟩ [2,4,5,6,7,8] [0,1,2,3,4,5,6,7] kR kR kR kR ⟨rfl,(by simp only [Cfg.Ok] at hc; dsimp only; omega),(by simp)⟩ ?_
 intro i J_11 hIJ_11 hJ_11
 have hx:=hIJ_11
 have hx2:=hx.2.1
 have hx3:=hx.2.2
 have hcn:c.n0≤12∧c.n1≤12:=by simp only [Cfg.Ok] at hc; omega
 refine gX [.e 0,.z q24_8 2 [2,4,5,6,7,8,23,24]] (gQ b_1 (gS [.o q24_8 2,.c [1,0,0,0,1,0,1,1,1,1,1,1],.c [1,0,0,1,0,1,1,1,1,1,1],.j J_11,.b 0,.c q24_1] ?_))
 refine gC (some 25) [] Tryz.call37 (ref_Blocks c oM) ?_
 refine gX [.sp [26] [.e 3,.z q24_9 3 [2,4,5,6,7,8,30,31]] [.e 1,.e 1]] (gB (decide (i.i≤(c.n0+c.n1))) (fun h_12 => ?_) (fun h_12 => ?_))
 ·replace h_12:=decT h_12
  refine gQ b_6 (gS [.o q24_9 3,.c q24_10,.b 1,.c q24_11,.j J_11,.b 0,.c q24_1] ?_)
  refine gC (some 32) [2] Tryz.call38 (ref_Has oa_3 oc_4 oc_4 l0.length l0 i.i (Nat.le_refl _) (by simp only [Cfg.Ok] at hc; omega)) ?_
  refine gX [.sp [33,32] [.z q24_12 3 [2,4,5,6,8,39,41]] [.e 5,.z q24_9 8 [2,4,5,6,7,8,33,35,36]]] (gQ (hasN l0 l0.length i.i) (gB (hasN l0 l0.length i.i) (fun h_14 => ?_) (fun h_14 => ?_)))
  ·skip
   refine gN fun b_13=>gW (ks:=[.o q24_12 3,.b 1,.c q24_11,.j J_11,.b 0,.c q24_1]) [(2,vP b_1),(4,vP b_2),(5,vP b_6),(6,vP b_10),(8,vI i.i),(39,.slice i.oa i.out.length i.oc),(41,.slice (some ⟨b_13,0,none⟩) 1 1)] [Efdc04 b_1 c,E4fdb9 b_2 0 0 false,E228b6 b_6 oa_3 l0.length oc_4 0 0 false,E54ea0 a c0 W,Ee1326 oa_7 oc_8 l1,E228b6 b_10 oa_7 l1.length oc_8 0 0 false,Ee1326 i.oa i.oc i.out,Ee1326 oa_3 oc_4 l0,.pts b_13 [vI i.i] 3] ?_
   refine go_by (some 42) (appO Tryz.prog _) (some (.slice i.oa (i.out).length i.oc,.slice (some ⟨b_13,0,none⟩) 1 1,(3,1,8))) (R_append 6 (a:=i.oa) (c:=i.oc) (enc:=encI .i64) (d:=0) (sz:=1) (xs:=i.out) (te:=3) kR (.slice (some ⟨b_13,0,none⟩) 1 1) [i.i] (src_pts (i:=8) (t:=3) kR) (oneI _) 8 (by simp; omega) (by simp; omega)) kR ?_
   rintro v L2 ⟨a_15,c_16,rfl,rfl⟩
   refine gX [.n,.z [] 0 [2,4,5,6,7,8]] (gO (InK .i64 (i.i+1)) (by simp only [InK]; omega) (gS [.j J_11,.b 0,.c q24_1] ?_))
   exact go_back hJ_11 (⟨(i.i+1),(i.out++[i.i]),a_15,c_16⟩:FrI) [0,1,7,2,3,4,5,6] kR kR kR ⟨(by dsimp only; rw [hx.1]; first | exact(freeL_yes hx.2.1.1 (by unfold inL; simp [*])).symm | exact(freeL_no hx.2.1.1 (by unfold inL; simp [*])).symm),(by dsimp only; omega),(by dsimp only; first | omega | (simp; omega))⟩ (by dsimp only; omega)
  ·skip
   refine gQ b_10 (gS [.o q24_9 8,.c q24_10,.b 1,.c q24_11,.j J_11,.b 0,.c q24_1] ?_)
   refine gC (some 37) [4] Tryz.call38 (ref_Has oa_7 oc_8 oc_8 l1.length l1 i.i (Nat.le_refl _) (by simp only [Cfg.Ok] at hc; omega)) ?_
   refine gX [.sp [38,37] [.z q24_12 3 [2,4,5,6,8,39,41]] [.n,.z [] 0 [2,4,5,6,7,8]]] (gQ (hasN l1 l1.length i.i) (gB (hasN l1 l1.length i.i) (fun h_18 => ?_) (fun h_18 => ?_)))
   ·skip
    refine gN fun b_17=>gW (ks:=[.o q24_12 3,.b 1,.c q24_11,.j J_11,.b 0,.c q24_1]) [(2,vP b_1),(4,vP b_2),(5,vP b_6),(6,vP b_10),(8,vI i.i),(39,.slice i.oa i.out.length i.oc),(41,.slice (some ⟨b_17,0,none⟩) 1 1)] [Efdc04 b_1 c,E4fdb9 b_2 0 0 false,E228b6 b_6 oa_3 l0.length oc_4 0 0 false,E54ea0 a c0 W,E228b6 b_10 oa_7 l1.length oc_8 0 0 false,Ee1326 i.oa i.oc i.out,Ee1326 oa_3 oc_4 l0,Ee1326 oa_7 oc_8 l1,.pts b_17 [vI i.i] 3] ?_
    refine go_by (some 42) (appO Tryz.prog _) (some (.slice i.oa (i.out).length i.oc,.slice (some ⟨b_17,0,none⟩) 1 1,(3,1,8))) (R_append 5 (a:=i.oa) (c:=i.oc) (enc:=encI .i64) (d:=0) (sz:=1) (xs:=i.out) (te:=3) kR (.slice (some ⟨b_17,0,none⟩) 1 1) [i.i] (src_pts (i:=8) (t:=3) kR) (oneI _) 8 (by simp; omega) (by simp; omega)) kR ?_
    rintro v L2 ⟨a_19,c_20,rfl,rfl⟩
    refine gX [.n,.z [] 0 [2,4,5,6,7,8]] (gO (InK .i64 (i.i+1)) (by simp only [InK]; omega) (gS [.j J_11,.b 0,.c q24_1] ?_))
    exact go_back hJ_11 (⟨(i.i+1),(i.out++[i.i]),a_19,c_20⟩:FrI) [0,1,6,2,3,7,4,5] kR kR kR ⟨(by dsimp only; rw [hx.1]; first | exact(freeL_yes hx.2.1.1 (by unfold inL; simp [*])).symm | exact(freeL_no hx.2.1.1 (by unfold inL; simp [*])).symm),(by dsimp only; omega),(by dsimp only; first | omega | (simp; omega))⟩ (by dsimp only; omega)
   ·skip
    refine gO (InK .i64 (i.i+1)) (by simp only [InK]; omega) (gS [.j J_11,.b 0,.c q24_1] ?_)
    exact go_back hJ_11 (⟨(i.i+1),i.out,i.oa,i.oc⟩:FrI) [0,1,6,2,3,7,4,5] kR kR kR ⟨(by dsimp only; rw [hx.1]; first | exact(freeL_yes hx.2.1.1 (by unfold inL; simp [*])).symm | exact(freeL_no hx.2.1.1 (by unfold inL; simp [*])).symm),(by dsimp only; omega),(by dsimp only; first | omega | (simp; omega))⟩ (by dsimp only; omega)
 ·replace h_12:=decF h_12
  refine gQ b_2 (gQ b_2 (gW0 (.agg #[.slice i.oa i.out.length i.oc,vI 0,vI 0,.bool false]) [Efdc04 b_1 c,E228b6 b_2 i.oa i.out.length i.oc 0 0 false,Ee1326 oa_3 oc_4 l0,E228b6 b_6 oa_3 l0.length oc_4 0 0 false,E54ea0 a c0 W,Ee1326 oa_7 oc_8 l1,E228b6 b_10 oa_7 l1.length oc_8 0 0 false,Ee1326 i.oa i.oc i.out] ?_))
  have hout:i.out=freeL l0 l1 (c.n0+c.n1).toNat:=by rw [hx.1]; congr 1; omega
  exact ret_ok (post:=[E54ea0 a c0 W,Ee1326 i.oa i.oc i.out]) [4,7] kR ⟨i.oa,i.oc,(by rw [←hout]),(by rw [←hout])⟩
end Go.Proofs.YtpcaijopodhdgaaGreatDoor
namespace Go.Proofs.YtpcaijopodhdgaaGreatDoor
open Go.RowKit Go.Extern.Stop Go.Stop Go.Extern
theorem as_nil(t:Value)(w:World):
  Calls Tryz.prog 62 #[.nilIface,t] w fun e w'=>e = .returned (.bool false)∧w'=w:=by
 go_enter Tryz.func62,Tryz.ntmps62
 go_wp2
 go_ret
 exact⟨rfl,rfl⟩
theorem Tryz.valueOfP(t:Addr)(w:World): (ReflectliteValue.unpack (.iface 125 (.pointer (some t)))).run Tryz.prog w
  = .ok (.agg #[.pointer (some ⟨1,125,none⟩),.pointer (some ⟨w.heap.size,0,none⟩),.int .u64 150]) (w.alloc (.cells #[.pointer (some t)] 125)):=by kernel_rfl
theorem Tryz.typeP(a:Addr)(w:World): (ReflectliteValue.methodAny (ReflectliteValue.valueError "reflectlite.Value.Type" 0) (fun t _ _ _=>ReflectliteType.toType t) #[.agg #[.pointer (some ⟨1,125,none⟩),.pointer (some a),.int .u64 150]]).run Tryz.prog w
  = .ok (.iface 229 (.agg #[.pointer (some ⟨1,125,none⟩)])) w:=by kernel_rfl
theorem Tryz.methodKind(h:Value)(w:World): (Go.method 398 229 (.agg #[h]) "Kind").run Tryz.prog w = .ok (222,h) w:=by kernel_rfl
theorem Tryz.kindP(w:World): ((ReflectliteType.abiMethod fun t=>Functor.map (fun a:Nat=>Value.int IntKind.u8 (a:Int)) (Rtype.kind t)) #[.pointer (some ⟨1,125,none⟩)]).run Tryz.prog w = .ok (.int .u8 22) w:=by kernel_rfl
theorem Tryz.kindE(w:World): ((ReflectliteType.abiMethod fun t=>Functor.map (fun a:Nat=>Value.int IntKind.u8 (a:Int)) (Rtype.kind t)) #[.pointer (some ⟨1,42,none⟩)]).run Tryz.prog w = .ok (.int .u8 2) w:=by kernel_rfl
theorem rlm(z:Sem Value)(f:TypeId→Addr→Nat→Nat→Sem Value)(v:Value):
  ReflectliteValue.method z f #[v]=(do match ←ReflectliteValue.parts v with | none=>z | some (t,a,fl)=>f t a fl (fl % 32)):=rfl
theorem Tryz.partsP(a:Addr)(w:World): (ReflectliteValue.parts (.agg #[.pointer (some ⟨1,125,none⟩),.pointer (some a),.int .u64 150])).run Tryz.prog w = .ok (some (125,a,150)) w:=by kernel_rfl
theorem Tryz.isNilP(a p:Addr)(W:World)(ha:W.cell? a=some (.pointer (some p))):
  (ReflectliteValue.method (ReflectliteValue.valueError "reflectlite.Value.IsNil" 0) ReflectliteValue.isNil #[.agg #[.pointer (some ⟨1,125,none⟩),.pointer (some a),.int .u64 150]]).run Tryz.prog W = .ok (.bool false) W:=by
 rw [rlm]
 simp only [Sem.run_bind,Tryz.partsP,Result.andThen]
 simp [ReflectliteValue.isNil,loadVar,isAgg,underlying,Tryz.underlying125,ha,Result.andThen]
theorem Tryz.methodElem(h:Value)(w:World): (Go.method 398 229 (.agg #[h]) "Elem").run Tryz.prog w = .ok (240,.agg #[h]) w:=by kernel_rfl
theorem Tryz.methodImplements(h:Value)(w:World): (Go.method 398 229 (.agg #[h]) "Implements").run Tryz.prog w = .ok (241,.agg #[h]) w:=by kernel_rfl
theorem Tryz.methodAssignableTo(h:Value)(w:World): (Go.method 398 229 (.agg #[h]) "AssignableTo").run Tryz.prog w = .ok (238,.agg #[h]) w:=by kernel_rfl
theorem Tryz.elemP(w:World): (ReflectliteType.method ReflectliteType.elem #[.agg #[.pointer (some ⟨1,125,none⟩)]]).run Tryz.prog w = .ok (.iface 229 (.agg #[.pointer (some ⟨1,42,none⟩)])) w:=by kernel_rfl
theorem Tryz.implementsE(w:World): (ReflectliteType.relation "Implements" ReflectliteType.implements_ #[.agg #[.pointer (some ⟨1,42,none⟩)],.iface 229 (.agg #[.pointer (some ⟨1,32,none⟩)])]).run Tryz.prog w = .ok (.bool true) w:=by kernel_rfl
theorem Tryz.typeOfE(v:Value)(w:World): (ReflectliteType.typeOf #[.iface 42 v]).run Tryz.prog w = .ok (.iface 229 (.agg #[.pointer (some ⟨1,42,none⟩)])) w:=by kernel_rfl
theorem Tryz.assignableE(w:World): (ReflectliteType.relation "AssignableTo" ReflectliteType.assignableTo #[.agg #[.pointer (some ⟨1,42,none⟩)],.iface 229 (.agg #[.pointer (some ⟨1,42,none⟩)])]).run Tryz.prog w = .ok (.bool true) w:=by kernel_rfl
theorem Tryz.valueOfE(e:Int)(w:World): (ReflectliteValue.unpack (.iface 42 (.int .i64 e))).run Tryz.prog w
  = .ok (.agg #[.pointer (some ⟨1,42,none⟩),.pointer (some ⟨w.heap.size,0,none⟩),.int .u64 130]) (w.alloc (.cells #[.int .i64 e] 42)):=by kernel_rfl
theorem Tryz.elemOfP(w:World): (Rtype.elem? 125).run Tryz.prog w = .ok (some 42) w:=by kernel_rfl
theorem Tryz.mkE(p:Addr)(w:World): (ReflectliteValue.mk 42 p ReflectliteValue.flagAddr).run Tryz.prog w = .ok (.agg #[.pointer (some ⟨1,42,none⟩),.pointer (some p),.int .u64 386]) w:=by kernel_rfl
theorem Tryz.elemVP(a p:Addr)(W:World)(ha:W.cell? a=some (.pointer (some p))):
  (ReflectliteValue.method (ReflectliteValue.valueError "reflectlite.Value.Elem" 0) ReflectliteValue.elem #[.agg #[.pointer (some ⟨1,125,none⟩),.pointer (some a),.int .u64 150]]).run Tryz.prog W
   = .ok (.agg #[.pointer (some ⟨1,42,none⟩),.pointer (some p),.int .u64 386]) W:=by
 rw [rlm]
 simp only [Sem.run_bind,Tryz.partsP,Result.andThen]
 simp [ReflectliteValue.elem,loadVar,isAgg,underlying,Tryz.underlying125,ha,Result.andThen,Tryz.elemOfP,Tryz.mkE]
theorem rls: ∃s1 s2 s3:String,∀v x:Value,ReflectliteValue.set #[v,x]=(do
  let (some (dst,a,fl),some (src,b,_)):=(←ReflectliteValue.parts v,←ReflectliteValue.parts x)
   | unsupported (.noEntry s1)
  if fl / ReflectliteValue.flagAddr % 2==0 then unsupported (.noEntry s2)
  let val ←loadVar src b
  if ←Rtype.directlyAssignable dst src then storeVar dst a val
  else if ←Rtype.implements dst src then
   if (←Rtype.kind src)==20 then
    match val with
    | .nilIface=>unsupported (.noEntry s3)
    | _=>storeVar dst a val
   else storeVar dst a (.iface src val)
  else panicString ("reflectlite.Set: value of type " ++ (←Rtype.spelt src) ++ " is not assignable to type " ++ (←Rtype.spelt dst))
  pure (.tuple #[])):=⟨_,_,_,fun _ _=>rfl⟩
theorem Tryz.partsEa(a:Addr)(w:World): (ReflectliteValue.parts (.agg #[.pointer (some ⟨1,42,none⟩),.pointer (some a),.int .u64 386])).run Tryz.prog w = .ok (some (42,a,386)) w:=by kernel_rfl
theorem Tryz.partsE(a:Addr)(w:World): (ReflectliteValue.parts (.agg #[.pointer (some ⟨1,42,none⟩),.pointer (some a),.int .u64 130])).run Tryz.prog w = .ok (some (42,a,130)) w:=by kernel_rfl
theorem Tryz.directE(w:World): (Rtype.directlyAssignable 42 42).run Tryz.prog w = .ok true w:=by kernel_rfl
theorem Tryz.setE(ta b:Addr)(e:Int)(old:Value)(W:World)(hb:W.cell? b=some (.int .i64 e))(ht:W.cell? ta=some old)(hf:W.frozen? ta=false):
  (ReflectliteValue.set #[.agg #[.pointer (some ⟨1,42,none⟩),.pointer (some ta),.int .u64 386],.agg #[.pointer (some ⟨1,42,none⟩),.pointer (some b),.int .u64 130]]).run Tryz.prog W
   = .ok (.tuple #[]) (W.setCell ta (.int .i64 e)):=by
 obtain⟨s1,s2,s3,hrls⟩:=rls
 rw [hrls]
 simp only [Sem.run_bind,Tryz.partsEa,Tryz.partsE,Result.andThen]
 simp [ReflectliteValue.flagAddr,loadVar,isAgg,underlying,Tryz.underlying42,hb,Result.andThen,Tryz.directE,storeVar,Value.cells,storeCells,Addr.add]
 rw [run_store Tryz.prog W ta _ _ (by rfl)]
 simp [ht,hf]
set_option maxHeartbeats 4000000 in
theorem as_hit(e:Int)(t:Addr)(old:Value)(w:World)(hg:w.cell? ⟨0,0,none⟩=some (.iface 229 (.agg #[.pointer (some ⟨1,32,none⟩)])))(ht0:w.cell? t=some old)(hf0:w.frozen? t=false):
  Calls Tryz.prog 62 #[.iface 42 (.int .i64 e),.iface 125 (.pointer (some t))] w fun ev w'=>ev = .returned (.bool true)∧w'=((((w.alloc (.cells #[.pointer (some t)] 125)).alloc (.cells #[.pointer (some ⟨1,125,none⟩),.pointer (some ⟨w.heap.size,0,none⟩),.int .u64 150] 186)).alloc (.cells #[.pointer (some ⟨1,125,none⟩),.pointer (some ⟨w.heap.size,0,none⟩),.int .u64 150] 186)).alloc (.cells #[.int .i64 e] 42)).setCell t (.int .i64 e):=by
 have h6 := @run_callFunc_extern Tryz.prog 122 _ (fun args=>ReflectliteValue.unpack (args.getD 0 (.tuple #[]))) Tryz.func122 (by kernel_rfl) (by kernel_rfl) (by kernel_rfl) (by kernel_rfl)
 have h7 := @run_callFunc_extern Tryz.prog 123 _ (ReflectliteValue.methodAny (ReflectliteValue.valueError "reflectlite.Value.Type" 0) (fun t _ _ _=>ReflectliteType.toType t)) Tryz.func123 (by kernel_rfl) (by kernel_rfl) (by kernel_rfl) (by kernel_rfl)
 have h8 := @run_callFunc_extern Tryz.prog 124 _ (ReflectliteValue.method (ReflectliteValue.valueError "reflectlite.Value.IsNil" 0) ReflectliteValue.isNil) Tryz.func124 (by kernel_rfl) (by kernel_rfl) (by kernel_rfl) (by kernel_rfl)
 have h27 := @run_callFunc_extern Tryz.prog 222 _ (ReflectliteType.abiMethod fun t=>do pure (.int .u8 (←Rtype.kind t))) Tryz.func222 (by kernel_rfl) (by kernel_rfl) (by kernel_rfl) (by kernel_rfl)
 have h37 := @run_callFunc_extern Tryz.prog 240 _ (ReflectliteType.method ReflectliteType.elem) Tryz.func240 (by kernel_rfl) (by kernel_rfl) (by kernel_rfl) (by kernel_rfl)
 have h38 := @run_callFunc_extern Tryz.prog 241 _ (ReflectliteType.relation "Implements" ReflectliteType.implements_) Tryz.func241 (by kernel_rfl) (by kernel_rfl) (by kernel_rfl) (by kernel_rfl)
 have h10 := @run_callFunc_extern Tryz.prog 167 _ (ReflectliteType.typeOf) Tryz.func167 (by kernel_rfl) (by kernel_rfl) (by kernel_rfl) (by kernel_rfl)
 have h35 := @run_callFunc_extern Tryz.prog 238 _ (ReflectliteType.relation "AssignableTo" ReflectliteType.assignableTo) Tryz.func238 (by kernel_rfl) (by kernel_rfl) (by kernel_rfl) (by kernel_rfl)
 have h11 := @run_callFunc_extern Tryz.prog 168 _ (ReflectliteValue.method (ReflectliteValue.valueError "reflectlite.Value.Elem" 0) ReflectliteValue.elem) Tryz.func168 (by kernel_rfl) (by kernel_rfl) (by kernel_rfl) (by kernel_rfl)
 have h12 := @run_callFunc_extern Tryz.prog 169 _ (ReflectliteValue.set) Tryz.func169 (by kernel_rfl) (by kernel_rfl) (by kernel_rfl) (by kernel_rfl)
 have xtypeOfE:=Tryz.typeOfE
 have xmethodAssignableTo:=Tryz.methodAssignableTo
 have xassignableE:=Tryz.assignableE
 have xvalueOfE:=Tryz.valueOfE
 have xvalueOfP:=Tryz.valueOfP
 have xtypeP:=Tryz.typeP
 have xmethodKind:=Tryz.methodKind
 have xmethodElem:=Tryz.methodElem
 have xmethodImplements:=Tryz.methodImplements
 have xkindP:=Tryz.kindP
 have xkindE:=Tryz.kindE
 have xelemP:=Tryz.elemP
 have ximplementsE:=Tryz.implementsE
 have n8:=Tryz.isNilP ⟨w.heap.size,0,none⟩ t ((w.alloc (.cells #[.pointer (some t)] 125)).alloc (.cells #[.pointer (some ⟨1,125,none⟩),.pointer (some ⟨w.heap.size,0,none⟩),.int .u64 150] 186)) (by simp)
 have hlt:0<w.heap.size:=by
  rcases Nat.eq_zero_or_pos w.heap.size with h0 | h
  ·simp [World.cell?,h0] at hg
  ·exact h
 have hg2:((w.alloc (.cells #[.pointer (some t)] 125)).alloc (.cells #[.pointer (some ⟨1,125,none⟩),.pointer (some ⟨w.heap.size,0,none⟩),.int .u64 150] 186)).cell? ⟨0,0,none⟩=some (.iface 229 (.agg #[.pointer (some ⟨1,32,none⟩)])):=by
  rw [World.cell?_alloc_lt _ _ ⟨0,0,none⟩ (by simp),World.cell?_alloc_lt _ _ ⟨0,0,none⟩ hlt]; exact hg
 have htl:t.block<w.heap.size:=by
  rcases Nat.lt_or_ge t.block w.heap.size with h | h
  ·exact h
  ·simp [World.cell?,Array.getElem?_eq_none h] at ht0
 have el:=Tryz.elemVP ⟨w.heap.size,0,none⟩ t (((w.alloc (.cells #[.pointer (some t)] 125)).alloc (.cells #[.pointer (some ⟨1,125,none⟩),.pointer (some ⟨w.heap.size,0,none⟩),.int .u64 150] 186)).alloc (.cells #[.pointer (some ⟨1,125,none⟩),.pointer (some ⟨w.heap.size,0,none⟩),.int .u64 150] 186)) (by rw [World.cell?_alloc_lt _ _ ⟨w.heap.size,0,none⟩ (by simp; omega)]; simp)
 have st:=Tryz.setE t ⟨w.heap.size+1+1+1,0,none⟩ e old ((((w.alloc (.cells #[.pointer (some t)] 125)).alloc (.cells #[.pointer (some ⟨1,125,none⟩),.pointer (some ⟨w.heap.size,0,none⟩),.int .u64 150] 186)).alloc (.cells #[.pointer (some ⟨1,125,none⟩),.pointer (some ⟨w.heap.size,0,none⟩),.int .u64 150] 186)).alloc (.cells #[.int .i64 e] 42))
  (by rw [World.cell?_alloc_at _ _ _ _ (by simp)]; rfl)
  (by rw [World.cell?_alloc_lt _ _ t (by simp; omega),World.cell?_alloc_lt _ _ t (by simp; omega),World.cell?_alloc_lt _ _ t (by simp; omega),World.cell?_alloc_lt _ _ t htl]; exact ht0)
  (by rw [World.frozen?_alloc_old _ _ t (by simp; omega),World.frozen?_alloc_old _ _ t (by simp; omega),World.frozen?_alloc_old _ _ t (by simp; omega),World.frozen?_alloc_old _ _ t (Nat.ne_of_lt htl)]; exact hf0)
 go_enter Tryz.func62,Tryz.ntmps62
 go_wp2
 refine wp_loop_rounds 1 ?_
 rw [rounds_succ]
 go_wp2
 go_ret
 exact⟨rfl,rfl⟩
end Go.Proofs.YtpcaijopodhdgaaGreatDoor
namespace Go.Proofs.YtpcaijopodhdgaaGreatDoor
open Go.Sx
/-- the cell of the variable errors.errorType -/
def handleV: Value:=.iface 229 (.agg #[.pointer (some ⟨1,32,none⟩)])
theorem as_nilC(t:Value): Ctr Tryz.prog 62 #[.nilIface,t] [] (Ret (.bool false) []):=by
 intro F w hi
 refine(as_nil t w).mono ?_
 rintro e w' ⟨rfl,rfl⟩
 exact⟨_,_,rfl,⟨rfl,rfl⟩,hi⟩
theorem as_hitC(gt:Nat)(gf:Nat×Nat)(b:Nat)(old k:Int): Ctr Tryz.prog 62 #[.iface 42 (.int .i64 k),.iface 125 (.pointer (some ⟨b,0,none⟩))] [.raw 0 (.cells #[handleV] gt gf),.pts b [.int .i64 old] 42]
  (Ret (.bool true) [.raw 0 (.cells #[handleV] gt gf),.pts b [.int .i64 k] 42]):=by
 intro F w hi
 have h0:=(hi.one (i:=0) rfl (b:=0) (o:=.cells #[handleV] gt gf) (fun g hg=>hg)).1
 have hb:=(hi.one (i:=1) rfl (b:=b) (o:=.cells #[.int .i64 old] 42 (0,0)) (fun g hg=>hg)).1
 refine(as_hit k ⟨b,0,none⟩ (.int .i64 old) w (by simp [World.cell?,h0,handleV]) (by simp [World.cell?,hb]) (by simp [World.frozen?,hb])).mono ?_
 rintro e w' ⟨rfl,rfl⟩
 refine⟨_,_,rfl,⟨rfl,rfl⟩, ?_⟩
 have h4:In _ F (((((w.alloc (.cells #[.pointer (some ⟨b,0,none⟩)] 125)).alloc (.cells #[.pointer (some ⟨1,125,none⟩),.pointer (some ⟨w.heap.size,0,none⟩),.int .u64 150] 186)).alloc (.cells #[.pointer (some ⟨1,125,none⟩),.pointer (some ⟨w.heap.size,0,none⟩),.int .u64 150] 186)).alloc (.cells #[.int .i64 k] 42))):=(((hi.alloc (.cells #[.pointer (some ⟨b,0,none⟩)] 125)).alloc (.cells #[.pointer (some ⟨1,125,none⟩),.pointer (some ⟨w.heap.size,0,none⟩),.int .u64 150] 186)).alloc (.cells #[.pointer (some ⟨1,125,none⟩),.pointer (some ⟨w.heap.size,0,none⟩),.int .u64 150] 186)).alloc (.cells #[.int .i64 k] 42)
 obtain⟨h5,h6⟩:=h4.one (i:=1) rfl (b:=b) (o:=.cells #[.int .i64 old] 42 (0,0)) (fun g hg=>hg)
 have h7:=h6 (.cells #[.int .i64 k] 42 (0,0)) (.pts b [.int .i64 k] 42) (((((w.alloc (.cells #[.pointer (some ⟨b,0,none⟩)] 125)).alloc (.cells #[.pointer (some ⟨1,125,none⟩),.pointer (some ⟨w.heap.size,0,none⟩),.int .u64 150] 186)).alloc (.cells #[.pointer (some ⟨1,125,none⟩),.pointer (some ⟨w.heap.size,0,none⟩),.int .u64 150] 186)).alloc (.cells #[.int .i64 k] 42)).setCell ⟨b,0,none⟩ (.int .i64 k)) rfl
  (by simp only [World.setCell]; rw [Array.getElem?_modify,if_pos rfl]; exact congrArg _ h5)
  (fun j hj=>by simp only [World.setCell]; rw [Array.getElem?_modify,if_neg (fun h=>hj h.symm)]) rfl rfl rfl
 exact In.left (L:=[.raw 0 (.cells #[handleV] gt gf),.pts b [.int .i64 k] 42]) (M:=[_,_,_,_]) h7
end Go.Proofs.YtpcaijopodhdgaaGreatDoor
namespace Go.Proofs.YtpcaijopodhdgaaGreatDoor
open Go.Sx
abbrev E15a58(x0:Nat)(x1:Int)(x2:Int)(x3:Int)(x4:Bool)(x5:Bool): Ent:=.pts x0 [.int .i64 x1,.int .i64 x2,.int .i64 x3,.bool x4,.bool x5] 78
abbrev q30_0: List Nat:=[0,1,0,0,1,1,0,0,1,0,1,1,1,1]
abbrev q30_1: List Nat:=[1,1,0,0,1,1,0,0,1,0,1,1,1,1]
abbrev q30_2: List Nat:=[1,1,1,0,0,1,0,1,1,1,1]
abbrev q30_3: List Nat:=[0,1,0,1,1,1,1]
def errV(k:Int): Value:=if k=0 then .nilIface else .iface 42 (.int .i64 k)
theorem errV_ne{k:Int}(h:k≠0): errV k = .iface 42 (.int .i64 k):=if_neg h
def IsH(o:Obj): Prop := ∃t f,o = .cells #[handleV] t f
noncomputable def B195: Code:=(Tryz.f195.body).getD .skip
theorem ctl_parts0:
  Ctr Tryz.prog 195 #[.agg #[vI 0,vI 0,vI 0,.bool false,.bool false]] [] (Ret (.tuple #[.agg #[vI 0,vI 0,vI 0,vI 0,vI 0],.agg #[vI 16,vI 31,vI 1,vI 1,vI 15]]) []):=by
 refine cB B195 19 Tryz.func195 ?_
 intro F
 exact gX [.e 0,.e 0,.e 0,.e 1,.e 0,.e 0,.e 1,.e 1,.e 2,.e 1,.e 2] (gN fun b_1=>gN fun b_2=>gN fun b_3=>gQ b_1 (gQ b_1 (gQ b_1 (gQ b_2 (gQ b_1 (gQ b_1 (gQ b_2 (gQ b_2 (gQ b_3 (gQ b_2 (gQ b_3 (gR (.tuple #[.agg #[vI 0,vI 0,vI 0,vI 0,vI 0],.agg #[vI 16,vI 31,vI 1,vI 1,vI 15]]) [] ⟨rfl,rfl⟩))))))))))))
noncomputable def B181: Code:=(Tryz.f181.body).getD .skip
theorem ctl_Unpack(w_:Int)(hw:U64 w_):
  Ctr Tryz.prog 181 #[vU w_] [] (Ret (.agg #[vI (ctlEpoch w_),vI (ctlGen w_),vI (ctlBlock w_),.bool (ctlLive w_),.bool (ctlBusy w_)]) []):=by
 refine cB B181 44 Tryz.func181 ?_
 intro F
 refine gX [.z [0,1] 1 [0,2,9]] (gN fun b_1=>gW (ks:=[.o [0,1] 1,.c [1,1]]) [(0,vU w_),(2,vP b_1),(9,.agg #[vI 0,vI 0,vI 0,.bool false,.bool false])] [E15a58 b_1 0 0 0 false false] ?_)
 refine gC (some 10) [] Tryz.call195 (ctl_parts0) ?_
 refine gX [.e 1,.e 2,.u,.w,.e 2,.z q30_0 6 [0,2,4,5,6,7,13,16,17,18,21]] (gN fun b_2=>gN fun b_3=>gQ b_2 (gQ b_3 (gN fun b_4=>gQ b_3 (gS [.o q30_0 6,.c q30_1,.b 1,.c q30_2,.r q30_3,.b 0,.c [1,1,1,1,1]] ?_))))
 refine gC (some 22) [] Tryz.call172 (bits_Get w_ 0 16 (by omega)) ?_
 refine gX [.n,.w,.e 3,.w,.e 2,.w,.w,.u,.w,.e 2,.z q30_0 6 [0,2,4,5,6,7,13,16,17,18,21]] (gO (InK .i64 (bAnd .u64 (bShr .u64 w_ 0) (bShr .u64 18446744073709551615 (64-16)))) (by have hr:=ctl_rng hw; first | (rw [un_block hw]; simp only [InK]; omega) | (rw [un_gen hw]; simp only [InK]; omega) | (rw [un_busy hw]; simp only [InK]; omega) | (rw [un_live hw]; simp only [InK]; omega) | (rw [un_epoch hw]; simp only [InK]; omega) | (simp only [InK]; omega)) (gQ b_4 (gQ b_3 (gQ b_3 (gS [.o q30_0 6,.c q30_1,.b 1,.c q30_2,.r q30_3,.b 0,.c [1,1,1,1,1]] ?_)))))
 refine gC (some 22) [] Tryz.call172 (bits_Get w_ 16 31 (by omega)) ?_
 refine gX [.n,.w,.e 3,.w,.e 2,.w,.w,.u,.w,.e 2,.z q30_0 6 [0,2,4,5,6,7,13,16,17,18,21]] (gO (InK .i64 (bAnd .u64 (bShr .u64 w_ 16) (bShr .u64 18446744073709551615 (64-31)))) (by have hr:=ctl_rng hw; first | (rw [un_block hw]; simp only [InK]; omega) | (rw [un_gen hw]; simp only [InK]; omega) | (rw [un_busy hw]; simp only [InK]; omega) | (rw [un_live hw]; simp only [InK]; omega) | (rw [un_epoch hw]; simp only [InK]; omega) | (simp only [InK]; omega)) (gQ b_4 (gQ b_3 (gQ b_3 (gS [.o q30_0 6,.c q30_1,.b 1,.c q30_2,.r q30_3,.b 0,.c [1,1,1,1,1]] ?_)))))
 refine gC (some 22) [] Tryz.call172 (bits_Get w_ 47 1 (by omega)) ?_
 refine gX [.n,.w,.e 3,.w,.e 2,.w,.w,.u,.w,.e 2,.z q30_0 6 [0,2,4,5,6,7,13,16,17,18,21]] (gO (InK .i64 (bAnd .u64 (bShr .u64 w_ 47) (bShr .u64 18446744073709551615 (64-1)))) (by have hr:=ctl_rng hw; first | (rw [un_block hw]; simp only [InK]; omega) | (rw [un_gen hw]; simp only [InK]; omega) | (rw [un_busy hw]; simp only [InK]; omega) | (rw [un_live hw]; simp only [InK]; omega) | (rw [un_epoch hw]; simp only [InK]; omega) | (simp only [InK]; omega)) (gQ b_4 (gQ b_3 (gQ b_3 (gS [.o q30_0 6,.c q30_1,.b 1,.c q30_2,.r q30_3,.b 0,.c [1,1,1,1,1]] ?_)))))
 refine gC (some 22) [] Tryz.call172 (bits_Get w_ 48 1 (by omega)) ?_
 refine gX [.n,.w,.e 3,.w,.e 2,.w,.w,.u,.w,.e 2,.z q30_0 6 [0,2,4,5,6,7,13,16,17,18,21]] (gO (InK .i64 (bAnd .u64 (bShr .u64 w_ 48) (bShr .u64 18446744073709551615 (64-1)))) (by have hr:=ctl_rng hw; first | (rw [un_block hw]; simp only [InK]; omega) | (rw [un_gen hw]; simp only [InK]; omega) | (rw [un_busy hw]; simp only [InK]; omega) | (rw [un_live hw]; simp only [InK]; omega) | (rw [un_epoch hw]; simp only [InK]; omega) | (simp only [InK]; omega)) (gQ b_4 (gQ b_3 (gQ b_3 (gS [.o q30_0 6,.c q30_1,.b 1,.c q30_2,.r q30_3,.b 0,.c [1,1,1,1,1]] ?_)))))
 refine gC (some 22) [] Tryz.call172 (bits_Get w_ 49 15 (by omega)) ?_
 exact gX [.n,.w,.e 3,.w,.e 2,.w,.w,.u,.w,.e 3,.w,.e 3,.w,.e 3,.w,.e 3,.w,.e 3,.e 0,.e 0] (gO (InK .i64 (bAnd .u64 (bShr .u64 w_ 49) (bShr .u64 18446744073709551615 (64-15)))) (by have hr:=ctl_rng hw; first | (rw [un_block hw]; simp only [InK]; omega) | (rw [un_gen hw]; simp only [InK]; omega) | (rw [un_busy hw]; simp only [InK]; omega) | (rw [un_live hw]; simp only [InK]; omega) | (rw [un_epoch hw]; simp only [InK]; omega) | (simp only [InK]; omega)) (gQ b_4 (gQ b_3 (gQ b_4 (gQ b_4 (gQ b_4 (gQ b_4 (gQ b_4 (gQ b_1 (gQ b_1 (gI (.agg #[vI (bAnd .u64 (bShr .u64 w_ 49) (bShr .u64 18446744073709551615 (64-15))),vI (bAnd .u64 (bShr .u64 w_ 16) (bShr .u64 18446744073709551615 (64-31))),vI (bAnd .u64 (bShr .u64 w_ 0) (bShr .u64 18446744073709551615 (64-16))),.bool ((bAnd .u64 (bShr .u64 w_ 48) (bShr .u64 18446744073709551615 (64-1)))==1),.bool ((bAnd .u64 (bShr .u64 w_ 47) (bShr .u64 18446744073709551615 (64-1)))==1)]) [] ⟨(by rw [un_block hw,un_gen hw,un_busy hw,un_live hw,un_epoch hw]; rfl),rfl⟩)))))))))))
noncomputable def B34: Code:=(Tryz.f34.body).getD .skip
theorem r13_Unpack(w_:Int)(hw:U64 w_):
  Ctr Tryz.prog 34 #[vU w_] [] (Ret (.agg #[vI (ctlEpoch w_),vI (ctlGen w_),vI (ctlBlock w_),.bool (ctlLive w_),.bool (ctlBusy w_)]) []):=by
 refine cB B34 22 Tryz.func34 ?_
 intro F
 exact gX [.n,.n,.n,.n,.n,.n,.n,.e 0,.e 0] (gN fun b_1=>gO (InK .i64 (bAnd .u64 w_ 65535)) (by have hr:=ctl_rng hw; first | (rw [ru_block hw]; simp only [InK]; omega) | (rw [ru_gen hw]; simp only [InK]; omega) | (rw [ru_epoch hw]; simp only [InK]; omega) | (simp only [InK]; omega)) (gO ((0:Int)≤16) oW (gO (InK .i64 (bAnd .u64 (bShr .u64 w_ 16) 2147483647)) (by have hr:=ctl_rng hw; first | (rw [ru_block hw]; simp only [InK]; omega) | (rw [ru_gen hw]; simp only [InK]; omega) | (rw [ru_epoch hw]; simp only [InK]; omega) | (simp only [InK]; omega)) (gO ((0:Int)≤47) oW (gO ((0:Int)≤48) oW (gO ((0:Int)≤49) oW (gO (InK .i64 (bShr .u64 w_ 49)) (by have hr:=ctl_rng hw; first | (rw [ru_block hw]; simp only [InK]; omega) | (rw [ru_gen hw]; simp only [InK]; omega) | (rw [ru_epoch hw]; simp only [InK]; omega) | (simp only [InK]; omega)) (gQ b_1 (gQ b_1 (gI (.agg #[vI (bShr .u64 w_ 49),vI (bAnd .u64 (bShr .u64 w_ 16) 2147483647),vI (bAnd .u64 w_ 65535),.bool ((bAnd .u64 (bShr .u64 w_ 48) 1)==1),.bool ((bAnd .u64 (bShr .u64 w_ 47) 1)==1)]) [] ⟨(by rw [ru_block hw,ru_gen hw,ru_busy hw,ru_live hw,ru_epoch hw]; rfl),rfl⟩))))))))))
noncomputable def B171: Code:=(Tryz.f171.body).getD .skip
theorem r13_flagT:
  Ctr Tryz.prog 171 #[.bool true] [] (Ret (vU 1) []):=by
 refine cB B171 4 Tryz.func171 ?_
 intro F
 exact gX [] (gR (vU 1) [] ⟨rfl,rfl⟩)
theorem r13_flagF:
  Ctr Tryz.prog 171 #[.bool false] [] (Ret (vU 0) []):=by
 refine cB B171 4 Tryz.func171 ?_
 intro F
 exact gX [] (gR (vU 0) [] ⟨rfl,rfl⟩)
theorem r13_flag(b_:Bool):
  Ctr Tryz.prog 171 #[.bool b_] [] (Ret (vU (flagI b_)) []):=by
 cases b_
 ·exact r13_flagF
 ·exact r13_flagT
noncomputable def B132: Code:=(Tryz.f132.body).getD .skip
theorem r13_Pack(e_ g_ k_:Int)(l_ b_:Bool)(he:0≤e_∧e_≤32767)(hg:0≤g_∧g_≤2147483647)(hk:0≤k_∧k_≤65535):
  Ctr Tryz.prog 132 #[.agg #[vI e_,vI g_,vI k_,.bool l_,.bool b_]] [] (Ret (vU (packW3 e_ (flagI l_) (flagI b_) g_ k_)) []):=by
 refine cB B132 31 Tryz.func132 ?_
 intro F
 refine gX [.e 0,.w,.w,.e 0,.z [0,1,1] 4 [1,8,10]] (gN fun b_1=>gQ b_1 (gQ b_1 (gS [.o [0,1,1] 4,.c [1,1,1]] ?_)))
 refine gC (some 11) [] Tryz.call171 (r13_flag l_) ?_
 refine gX [.w,.w,.e 0,.z [0,1,1,1] 4 [1,14,16]] (gQ b_1 (gS [.o [0,1,1,1] 4,.c [1,1,1,1]] ?_))
 refine gC (some 17) [] Tryz.call171 (r13_flag b_) ?_
 exact gX [.w,.n,.e 0,.w,.w,.n,.e 0,.w,.w] (gO ((0:Int)≤31) oW (gQ b_1 (gO ((0:Int)≤16) oW (gQ b_1 (gI (vU (IntKind.u64.wrap ((bShl .u64 (IntKind.u64.wrap ((bShl .u64 (IntKind.u64.wrap ((IntKind.u64.wrap ((IntKind.u64.wrap ((IntKind.u64.wrap ((IntKind.u64.wrap e_)*2))+(flagI l_)))*2))+(flagI b_))) 31)+(IntKind.u64.wrap g_))) 16)+(IntKind.u64.wrap k_)))) [] ⟨(congrArg (Value.int .u64) (by have h1:=flagI_rng l_; have h2:=flagI_rng b_; unfold packW3; simp only [shl31,shl16,wrapU64]; omega)),rfl⟩)))))
noncomputable def B70: Code:=(Tryz.f70.body).getD .skip
noncomputable def B199: Code:=(Tryz.f199.body).getD .skip
theorem slots_Mark(cl bk:Int)(hcl:0≤cl+1∧cl+1≤4294967295)(hb:0≤bk∧bk≤4294967295):
  Ctr Tryz.prog 199 #[vI cl,vI bk] [] (Ret (vU (markW cl bk)) []):=by
 refine cB B199 14 Tryz.func199 ?_
 intro F
 exact gX [.n,.w,.w,.n,.w,.w] (gO (InK .i64 (cl+1)) (by simp only [InK]; omega) (gO ((0:Int)≤32) oW (gR (vU (bOr .u64 (bShl .u64 (IntKind.u64.wrap (IntKind.u32.wrap (cl+1))) 32) (IntKind.u64.wrap (IntKind.u32.wrap bk)))) [] ⟨(congrArg (Value.int .u64) (mark_or hcl hb)),rfl⟩)))
theorem cause_New0:
  Ctr Tryz.prog 46 #[vI 0] [] (Ret (.nilIface) []):=by
 refine cB B46 7 Tryz.func46 ?_
 intro F
 exact gX [] (gR (.nilIface) [] ⟨rfl,rfl⟩)
theorem cause_NewE(k_:Int)(hk:k_≠0):
  Ctr Tryz.prog 46 #[vI k_] [] (Ret (.iface 42 (vI k_)) []):=by
 refine cB B46 7 Tryz.func46 ?_
 intro F
 exact gX [.sp [4] [.dead] []] (gF (k_==0) (beq_eq_false_iff_ne.2 hk) (gR (.iface 42 (vI k_)) [] ⟨rfl,rfl⟩))
theorem as_hitH(o_:Obj)(b:Nat)(old k_:Int)(ho:IsH o_):
  Ctr Tryz.prog 62 #[.iface 42 (vI k_),.iface 125 (vP b)] [.raw 0 o_,.pts b [vI old] 42] (Ret (.bool true) [.raw 0 o_,.pts b [vI k_] 42]):=by
 obtain⟨t,f,rfl⟩:=ho
 exact as_hitC t f b old k_
noncomputable def B17: Code:=(Tryz.f17.body).getD .skip
theorem cause_Top0(o_:Obj):
  Ctr Tryz.prog 17 #[.nilIface] [.raw 0 o_] (Ret (vI 0) [.raw 0 o_]):=by
 refine cB B17 8 Tryz.func17 ?_
 intro F
 refine gX [.z [0,0,1,1] 2 [3,4,5]] (gN fun b_1=>gW (ks:=[.o [0,0,1,1] 2,.c [1,0,1,1],.c [1,1,1]]) [(3,vP b_1),(4,.nilIface),(5,.iface 125 (vP b_1))] [.raw 0 o_,.pts b_1 [vI 0] 42] ?_)
 refine gC (some 6) [] Tryz.call62 (as_nilC (.iface 125 (vP b_1))) ?_
 exact gX [] (gJ [0] ⟨rfl,rfl⟩)
theorem cause_TopE(o_:Obj)(k_:Int)(ho:IsH o_):
  Ctr Tryz.prog 17 #[.iface 42 (vI k_)] [.raw 0 o_] (Ret (vI k_) [.raw 0 o_]):=by
 refine cB B17 8 Tryz.func17 ?_
 intro F
 refine gX [.z [0,0,1,1] 2 [3,4,5]] (gN fun b_1=>gW (ks:=[.o [0,0,1,1] 2,.c [1,0,1,1],.c [1,1,1]]) [(3,vP b_1),(4,.iface 42 (vI k_)),(5,.iface 125 (vP b_1))] [.raw 0 o_,.pts b_1 [vI 0] 42] ?_)
 refine gC (some 6) [0,1] Tryz.call62 (as_hitH o_ b_1 0 k_ oM) ?_
 exact gX [.e 1] (gQ b_1 (gJ [0] ⟨rfl,rfl⟩))
theorem cause_Top(o_:Obj)(k_:Int)(ho:IsH o_):
  Ctr Tryz.prog 17 #[(errV k_)] [.raw 0 o_] (Ret (vI k_) [.raw 0 o_]):=by
 by_cases hk:k_ = 0
 ·subst hk; exact cause_Top0 o_
 ·rw [errV_ne hk]; exact cause_TopE o_ k_ ho
end Go.Proofs.YtpcaijopodhdgaaGreatDoor
/- What the listed variable gives a walk. -/
namespace Go.Proofs.YtpcaijopodhdgaaGreatDoor
open Go.Sx Go.ChangeShapes Go.WideShapes Go.ChangeAt Go.RowKit
theorem Tryz.own: ownKnob Tryz.prog.godebug=none:=by kernel_rfl
theorem Tryz.laidOutP: laidOutB Tryz.prog=true:=by kernel_rfl
theorem Tryz.et: Tryz.prog.globalNamed "errors.errorType" = some 0:=by kernel_rfl
theorem Tryz.rt: (Tryz.prog.cutTypes.find? (·.1 == "internal/reflectlite.rtype")).map (·.2)=some 229:=by kernel_rfl
theorem Tryz.oneRow: ((List.range 298).filter fun t=>Tryz.prog.rowNamed t [101,114,114,111,114])=[32]:=by kernel_rfl
theorem Tryz.sizeT: Tryz.prog.types.size=298:=by kernel_rfl
theorem handle_of_laid{W:World}(h:laidMetH Tryz.prog [("errors.errorType",Rows.laid_errors_errorType)] W):∃o,IsH o∧W.heap[0]? = some o:=by
 have h':laidMet Tryz.prog [] W∧handlesMet Tryz.prog [("errors.errorType",Rows.laid_errors_errorType)] W:=h
 obtain⟨name,u,ty,e1,e2,e3,e4,e5⟩:=h'.2 _ (List.mem_singleton.2 rfl)
 have en:name=[101,114,114,111,114]:=(Option.some.inj e1).symm
 subst en
 obtain rfl:=Option.some.inj (Tryz.rt.symm.trans e2)
 have hm:ty∈(List.range 298).filter fun t=>Tryz.prog.rowNamed t [101,114,114,111,114]:=List.mem_filter.2 ⟨List.mem_range.2 (by rw [←Tryz.sizeT]; exact e3),e4⟩
 rw [Tryz.oneRow] at hm
 obtain rfl:=List.mem_singleton.1 hm
 have hh:typeHandle Tryz.prog 32 = .pointer (some ⟨1,32,none⟩):=by kernel_rfl
 rw [hh] at e5
 simp only [World.var?,Tryz.et,Option.bind_some] at e5
 split at e5
 ·rename_i cs t f hc
  exact⟨_,⟨t,f,by have:=Option.some.inj e5; rw [this]; rfl⟩,hc⟩
 ·cases e5
noncomputable def laidWorld(os:Os): World:=
 let w0:=World.holding Tryz.prog os ⟨#[],#[],[]⟩
 {w0 with heap:=w0.heap.modify 0 fun
   | .cells _ t frozen=>.cells #[.iface 229 (.agg #[.pointer (some ⟨1,32,none⟩)])] t frozen
   | o=>o}
theorem laidWorld_met(os:Os)(args:Array Value): laidMetH Tryz.prog [("errors.errorType",Rows.laid_errors_errorType)] ((laidWorld os).forCall (fun _ _=>0) ⟨#[],args,[]⟩).memory:=
 laidMetH_of_parts (laidMet_nil _ _) (by kernel_rfl)
theorem open_rd2{P:Program}{w:World}{H:Type}{enc:TypeId×Value→H}{base:Nat}{held:Bool}{α : Type}{en : α→List Value}{d0 : α}{sz:Nat}(hz:Sized en sz){d:Nat}{t e:TypeId}{ks:List Kd}{v:Value}{y:DataW H}{ps:List MemPlace}(ht:P.underlying t=some (.slice e))(hf:flat P d e=some ks)(hs:P.cellsOf e=sz)(h0:0<sz)
  {Q : α→Prop} (hen:∀row,FitsAll ks row→∃x,row=en x∧Q x) {b0:Nat} (hv:Value.okWide P w .any b0 t v) (h:DataW.Trod enc P w base (fun _=>true) held t v y ps) :
  ∃(a:Option Addr) (c:Nat) (xs:List α) (bt:TypeId) (r:Sx.Rest) (foot:Ft),v = .slice a xs.length c∧(xs.length≤c∧∀x∈xs,Q x)∧(Ent.rd a c en d0 sz xs bt r).den foot∧Fits foot w∧(foot=[]∨xs≠[])∧∀g,(Ent.rd a c en d0 sz xs bt r).den g→∀p∈foot,p∈g:=by
 obtain⟨a,c,xs,bt,r,foot,h1,h2,h3,h4,h5,h6,h7⟩:=open_rd hz ht hf hs h0 hen hv h
 by_cases hx:xs=[]
 ·refine⟨a,c,xs,bt,r,[],h1,h2,⟨hz,.inl ⟨hx,rfl, ?_⟩⟩,⟨by simp,by simp⟩,.inl rfl,by simp⟩
  rcases h4.2 with ⟨_,_,q⟩ | ⟨b,off,q,_⟩
  ·exact q
  ·intro hn; rw [hn] at q; cases q
 ·exact⟨a,c,xs,bt,r,foot,h1,h2,h4,h5,.inr hx,h7⟩
theorem apart_h{o:Obj}{W:World}(ho:IsH o)(hO:W.heap[0]? = some o){α : Type}{a:Option Addr}{c:Nat}{en : α→List Value}{d : α}{sz:Nat}{xs:List α}{t:TypeId}{r:Sx.Rest}{foot:Ft}(hd:(Ent.rd a c en d sz xs t r).den foot)(hfit:Fits foot W)(hne:foot=[]∨xs≠[])(h2:2≤sz): 0∉foot.map (·.1):=by
 intro hm
 rcases hne with hf | hx
 ·rw [hf] at hm; simp at hm
 ·rcases hd.2 with ⟨q,_⟩ | ⟨b,off,_,_,_,q⟩
  ·exact hx q
  ·rw [q] at hm hfit
   simp only [List.map_cons,List.map_nil,List.mem_singleton] at hm
   subst hm
   have h1:=hfit.2 _ (List.mem_singleton.2 rfl)
   simp only at h1
   rw [hO] at h1
   obtain⟨t' ,f',rfl⟩:=ho
   have h3:=Option.some.inj h1
   injection h3 with h4 h5 h6
   have h7:=congrArg Array.size h4
   cases xs with
   | nil=>exact hx rfl
   | cons x l=>
    have hs:=hd.1 x
    simp [cellsOf] at h7
    omega
theorem dens_hr{o:Obj}{e:Ent}{foot:Ft}(h:e.den foot): dens [.raw 0 o,e] ((0,o) :: foot):=⟨[(0,o)],foot,rfl,rfl,foot,[],by simp,h,rfl⟩
theorem foot_hr{o:Obj}{W:World}{foot:Ft}(hO:W.heap[0]? = some o)(hfit:Fits foot W)(h0:0∉foot.map (·.1)): Fits ((0,o) :: foot) W:=
 ⟨by rw [List.map_cons,List.nodup_cons]; exact⟨h0,hfit.1⟩,fun p hp=>by
  rcases List.mem_cons.1 hp with rfl | hp
  ·exact hO
  ·exact hfit.2 p hp⟩
theorem pin_hr{o:Obj}{e:Ent}{foot:Ft}(h:∀g,e.den g→∀p∈foot,p∈g): ∀g,dens [.raw 0 o,e] g→∀p∈(0,o) :: foot,p∈g:=by
 rintro g ⟨f1,f2,rfl,h1,f3,f4,rfl,h3,_⟩ p hp
 have h1:f1=[(0,o)]:=h1
 subst h1
 rcases List.mem_cons.1 hp with rfl | hp
 ·simp
 ·simp [h f3 h3 p hp]
end Go.Proofs.YtpcaijopodhdgaaGreatDoor

/- Walks: what functions of the program and of the document compute, part 1 of those on which LargePlays rests. -/
import Derived.Test.YtpcaijopodhdgaaGreatDoorMdA
import Derived.Test.YtpcaijopodhdgaaGreatDoorChecked
import Derived.WalkKit
import Derived.LaidEql
import Derived.Stop.Asserts
import Derived.RowKitTokens

set_option linter.unusedVariables false
set_option linter.unusedSimpArgs false
namespace Go.Proofs.YtpcaijopodhdgaaGreatDoor
open Go.Proofs.Tryz
open Go.Sx
noncomputable abbrev bd(f:Func): Code:=f.body.getD .skip
theorem cb{P:Program}{fn:Func}{f:FuncId}{args:List Value}{pre:List Ent}{Ψ : Value→List Ent→Prop}(nt:Nat)(hf:P.funcs[f]? = some fn)(h:∀F,Go P fn (bd fn) nt F (RetR F Ψ) [.c []] (argTM 0 args) pre)(hb:fn.body=some (bd fn):=by kernel_rfl)(hnt:args.length+(fn.ntmps-args.length)=nt:=by kernel_rfl): Ctr P f args.toArray pre Ψ := ctr_of hf hb hnt h
theorem oa{p:Prop}(h:p:=by omega): p:=h
theorem oc{p:Prop}(h:p:=by decide): p:=h
theorem oe{p:Prop}(h:p:=by first | rfl | omega | (simp; done) | (simp; omega)): p:=h
theorem og{p:Prop}(h:p:=by simp only [Cfg.Ok,InK] at *; omega): p:=h
theorem oh{p:Prop}(h:p:=by simp only [InK]; omega): p:=h
theorem oi{p:Prop}(h:p:=by dsimp only; omega): p:=h
theorem ol{p:Prop}(h:p:=by first | (simp; done) | (simp; omega)): p:=h
theorem om{p:Prop}(h:p:=by simp; omega): p:=h
abbrev Ef(x0:Nat)(c1:Cfg): Ent:=.pts x0 [.int .i64 c1.topics,.int .i64 c1.small,.int .i64 c1.slots,.int .i64 c1.clients,.int .i64 c1.s0,.int .i64 c1.n0,.int .i64 c1.s1,.int .i64 c1.n1,.int .i64 c1.retry] 29
abbrev Ee(x0:Option Addr)(x1:Nat)(x2:List Int): Ent:=.sl x0 x1 (encI .u64) 0 1 x2 60
abbrev ET(x0:Nat)(x1:Option Addr)(x2:Nat)(x3:Nat)(x4:Int)(x5:Int)(x6:Int)(x7:Int)(x8:Bool): Ent:=.pts x0 [.slice x1 x2 x3,.int .i64 x4,.int .i64 x5,.int .i64 x6,.int .u64 x7,.bool x8,.nilIface] 144
abbrev Eb(x0:Nat)(a1:Ar): Ent:=.pts x0 [.slice a1.aw a1.n a1.cw,.int .i64 a1.steps,.int .i64 a1.lk,.int .i64 a1.lw,.int .u64 a1.lv,.bool a1.lc,.nilIface] 144
abbrev Ea(a0:Ar): Ent:=.sl a0.aw a0.cw (encI .u64) 0 1 a0.ws 60
abbrev Eab(x0:Nat)(x1:Int)(x2:Int)(x3:Int)(x4:Int)(x5:Int)(x6:Int)(x7:Int)(x8:Int)(x9:Int): Ent:=.pts x0 [.int .i64 x1,.int .i64 x2,.int .i64 x3,.int .i64 x4,.int .i64 x5,.int .i64 x6,.int .i64 x7,.int .i64 x8,.int .i64 x9] 29
abbrev cfgV(c:Cfg): Value:=.agg #[.int .i64 c.topics,.int .i64 c.small,.int .i64 c.slots,.int .i64 c.clients,.int .i64 c.s0,.int .i64 c.n0,.int .i64 c.s1,.int .i64 c.n1,.int .i64 c.retry]
theorem bits_may(at_ n:Int)(h:1≤n∧n≤64∧0≤at_∧at_+n≤64):
  Ctr prog 190 #[vI at_,vI n] [] (Ret (.bool true) []):=by
 exact cb 21 func190 fun F=>gX [.sp [7,6] [.sp [11,9,10] [.sp [15,13,14] [.n] [.dead]] [.dead]] [.dead]] (gQ (decide (n≥1)) (gT (decide (n≥1)) om (gQ (decide (n≤64)) (gQ (decide (n≤64)) (gT (decide (n≤64)) om (gQ (decide (at_≥0)) (gQ (decide (at_≥0)) (gT (decide (at_≥0)) om (gO (InK .i64 (64-n)) (by simp only [InK] at *; omega) (gI (.bool (decide (at_≤(64-n)))) [] ⟨(congrArg Value.bool (by first | rfl | (simp; done) | (simp; omega))),rfl⟩))))))))))
theorem bits_all(n:Int)(h:1≤n∧n≤64):
  Ctr prog 191 #[vI n] [] (Ret (vU (bShr .u64 18446744073709551615 (64-n))) []):=by
 exact cb 6 func191 fun F=>gX [.n,.n] (gO (InK .i64 (64-n)) oh (gO ((0:Int)≤(64-n)) oa (gR (vU (bShr .u64 18446744073709551615 (64-n))) [] ⟨rfl,rfl⟩)))
theorem bits_Get(w_ at_ n:Int)(h:1≤n∧n≤64∧0≤at_∧at_+n≤64):
  Ctr prog 172 #[vU w_,vI at_,vI n] [] (Ret (vU (bAnd .u64 (bShr .u64 w_ at_) (bShr .u64 18446744073709551615 (64-n)))) []):=by
 exact cb 17 func172 fun F=>gX [.z [0,0,1] 2 [0,1,2,7,8]] (gS [.o [0,0,1] 2,.c [1,0,1],.c [1,1]] (gC (some 9) [] call190 (bits_may at_ n oM) (gX [.z [0,1,1] 0 [0,1,2]] (gS [.c [0,1,1],.c [1,1,1]] (qG (kV 0 [.ww,.ww,.h (.n),.ww,.q (vU (bShr .u64 18446744073709551615 (64-n))),.ww,.ww]) [6] (.p ((0:Int)≤at_) oW .n) (.c call191 (qR [] (bits_all n oM)) .n) (gX [] (gR (vU (bAnd .u64 (bShr .u64 w_ at_) (bShr .u64 18446744073709551615 (64-n)))) [] ⟨rfl,rfl⟩)))))))
theorem plan_cells(c:Cfg)(hc:c.Ok):
  Ctr prog 102 #[cfgV c] [] (Ret (.tuple #[vI (5+c.slots+c.topics),vI (1+2*c.small)]) []):=by
 exact cb 14 func102 fun F=>gX [.z [0,1] 0 [1]] (gN fun b_1=>gW (ks:=[.c [0,1],.c [1,1]]) [(1,vP b_1)] [Ef b_1 c] (qG (kV 0 [.ww,.e 0,.h (.n),.ww,.e 0,.h (.n),.ww,.e 0,.h (.n),.h (.n),.ww,.ww]) [2,3] (.e b_1 (.p (InK .i64 (5+c.slots)) og (.e b_1 (.p (InK .i64 ((5+c.slots)+c.topics)) og (.e b_1 (.p (InK .i64 (2*c.small)) og (.p (InK .i64 (1+(2*c.small))) og .n))))))) .n (gX [] (gR (.tuple #[vI ((5+c.slots)+c.topics),vI (1+(2*c.small))]) [] ⟨rfl,rfl⟩))))
theorem plan_parts(c:Cfg):
  Ctr prog 165 #[cfgV c] [] (Ret (.agg #[vI c.topics,vI c.small,vI c.slots,vI c.clients,vI c.retry,vI c.s0,vI c.n0,vI c.s1,vI c.n1]) []):=by
 exact cb 30 func165 fun F=>gX [.e 0,.e 0,.e 0,.e 0,.e 0,.w,.e 0,.w,.e 0,.w,.e 0,.w,.e 0,.e 1,.e 1] (gN fun b_1=>gN fun b_2=>gQ b_1 (gQ b_1 (gQ b_1 (gQ b_1 (gQ b_1 (gQ b_1 (gQ b_1 (gQ b_1 (gQ b_1 (gQ b_2 (gQ b_2 (gR (.agg #[vI c.topics,vI c.small,vI c.slots,vI c.clients,vI c.retry,vI c.s0,vI c.n0,vI c.s1,vI c.n1]) [] ⟨rfl,rfl⟩))))))))))))
theorem plan_right(c:Cfg)(hc:c.Ok):
  Ctr prog 127 #[cfgV c] [] (Ret (.bool true) []):=by
 exact cb 37 func127 fun F=>gX [.e 1,.e 2,.e 0,.z [0,0,1,1,1] 1 [1,3,4,9]] (gN fun b_1=>gN fun b_2=>gQ b_2 (gN fun b_3=>gQ b_3 (gQ b_1 (gS [.o [0,0,1,1,1] 1,.c [1,0,1,1,1],.c [1,1,1,1]] (gC (some 10) [] call165 (plan_parts c) (gX [.u,.w,.e 1,.sp [20,19] [.dead] [.w,.e 2,.sp [26,25] [.dead] [.w,.u,.w,.e 1,.sp [20,19] [.dead] [.w,.e 2,.sp [26,25] [.dead] [.w,.u,.w,.e 1,.sp [20,19] [.dead] [.w,.e 2,.sp [26,25] [.dead] [.w,.u,.w,.e 1,.sp [20,19] [.dead] [.w,.e 2,.sp [26,25] [.dead] [.w,.u,.w,.e 1,.sp [20,19] [.dead] [.w,.e 2,.sp [26,25] [.dead] [.w,.u,.w,.e 1,.sp [20,19] [.dead] [.w,.e 2,.sp [26,25] [.dead] [.w,.u,.w,.e 1,.sp [20,19] [.dead] [.w,.e 2,.sp [26,25] [.dead] [.w,.u,.w,.e 1,.sp [20,19] [.dead] [.w,.e 2,.sp [26,25] [.dead] [.w,.u,.w,.e 1,.sp [20,19] [.dead] [.w,.e 2,.sp [26,25] [.dead] [.w,.u,.w,.e 0,.w,.e 0]]]]]]]]]]]]]]]]]]] (gQ b_2 (gQ (decide (c.topics<1)) (gF (decide (c.topics<1)) (by simp only [Cfg.Ok] at hc; simp; omega) (gQ b_3 (gQ (decide (c.topics>8)) (gF (decide (c.topics>8)) (by simp only [Cfg.Ok] at hc; simp; omega) (gQ b_2 (gQ (decide (c.small<4)) (gF (decide (c.small<4)) (by simp only [Cfg.Ok] at hc; simp; omega) (gQ b_3 (gQ (decide (c.small>32)) (gF (decide (c.small>32)) (by simp only [Cfg.Ok] at hc; simp; omega) (gQ b_2 (gQ (decide (c.slots<1)) (gF (decide (c.slots<1)) (by simp only [Cfg.Ok] at hc; simp; omega) (gQ b_3 (gQ (decide (c.slots>8)) (gF (decide (c.slots>8)) (by simp only [Cfg.Ok] at hc; simp; omega) (gQ b_2 (gQ (decide (c.clients<1)) (gF (decide (c.clients<1)) (by simp only [Cfg.Ok] at hc; simp; omega) (gQ b_3 (gQ (decide (c.clients>8)) (gF (decide (c.clients>8)) (by simp only [Cfg.Ok] at hc; simp; omega) (gQ b_2 (gQ (decide (c.retry<1)) (gF (decide (c.retry<1)) (by simp only [Cfg.Ok] at hc; simp; omega) (gQ b_3 (gQ (decide (c.retry>8)) (gF (decide (c.retry>8)) (by simp only [Cfg.Ok] at hc; simp; omega) (gQ b_2 (gQ (decide (c.s0<4)) (gF (decide (c.s0<4)) (by simp only [Cfg.Ok] at hc; simp; omega) (gQ b_3 (gQ (decide (c.s0>96)) (gF (decide (c.s0>96)) (by simp only [Cfg.Ok] at hc; simp; omega) (gQ b_2 (gQ (decide (c.n0<0)) (gF (decide (c.n0<0)) (by simp only [Cfg.Ok] at hc; simp; omega) (gQ b_3 (gQ (decide (c.n0>12)) (gF (decide (c.n0>12)) (by simp only [Cfg.Ok] at hc; simp; omega) (gQ b_2 (gQ (decide (c.s1<4)) (gF (decide (c.s1<4)) (by simp only [Cfg.Ok] at hc; simp; omega) (gQ b_3 (gQ (decide (c.s1>96)) (gF (decide (c.s1>96)) (by simp only [Cfg.Ok] at hc; simp; omega) (gQ b_2 (gQ (decide (c.n1<0)) (gF (decide (c.n1<0)) (by simp only [Cfg.Ok] at hc; simp; omega) (gQ b_3 (gQ (decide (c.n1>12)) (gF (decide (c.n1>12)) (by simp only [Cfg.Ok] at hc; simp; omega) (gQ b_1 (gQ b_1 (gI (.bool (decide (c.s1>c.s0))) [] ⟨(congrArg Value.bool (by simp only [Cfg.Ok] at hc; simp; omega)),rfl⟩)))))))))))))))))))))))))))))))))))))))))))))))))))))))))))))))
theorem plan_Check(c:Cfg)(hc:c.Ok):
  Ctr prog 64 #[cfgV c] [] (Ret (.nilIface) []):=by
 exact cb 7 func64 fun F=>gX [.e 0,.z [0,0,1] 1 [3]] (gN fun b_1=>gQ b_1 (gS [.o [0,0,1] 1,.c [1,0,1],.c [1,1]] (gC (some 4) [] call127 (plan_right c oM) (gX [] (gR (.nilIface) [] ⟨rfl,rfl⟩)))))
theorem plan_Blocks(c:Cfg)(hc:c.Ok):
  Ctr prog 121 #[cfgV c] [] (Ret (vI (c.n0+c.n1)) []):=by
 exact cb 15 func121 fun F=>gX [.e 0,.z [0,0,1] 1 [1,3]] (gN fun b_1=>gQ b_1 (gS [.o [0,0,1] 1,.c [1,0,1],.c [1,1]] (gC (some 4) [] call127 (plan_right c oM) (gX [.w,.e 0,.w,.e 0,.n] (gQ b_1 (gQ b_1 (gO (InK .i64 (c.n0+c.n1)) og (gR (vI (c.n0+c.n1)) [] ⟨rfl,rfl⟩))))))))
theorem plan_Head(k:Int)(h:0≤k∧k≤1):
  Ctr prog 103 #[vI k] [] (Ret (vI (3+k)) []):=by
 exact cb 11 func103 fun F=>gX [.sp [5,4] [.dead] [.sp [8,7] [.dead] [.n]]] (gQ (decide (k<0)) (gF (decide (k<0)) om (gQ (decide (k>1)) (gF (decide (k>1)) om (gO (InK .i64 (3+k)) (by simp only [InK] at *; omega) (gR (vI (3+k)) [] ⟨rfl,rfl⟩))))))
theorem clo_Slot(b:Nat)(i:Int)(hr:0≤i∧i≤100):
  Ctr prog 159 #[vP b] [.pts b [vI i] 3] (Ret (vI (5+i)) [.pts b [vI i] 3]):=by
 exact cb 4 func159 fun F=>gX [.e 0,.n] (gQ b (gO (InK .i64 (5+i)) (by simp only [InK] at *; omega) (gJ [0] ⟨rfl,rfl⟩)))
theorem place_Slot(c:Cfg)(i many:Int)(b:Nat)(hc:c.Ok)(hm:many≤100):
  Ctr prog 100 #[cfgV c,vI i,vI many,.func (.func 159) #[] #[vP b]] [.pts b [vI i] 3] (Ret (vI (if (0:Int)≤i∧i<many then(5+i) else -1)) [.pts b [vI i] 3]):=by
 refine cb 23 func100 fun F=>gX [.e 1,.z [0,0,1] 1 [1,2,3,9]] (gN fun b_1=>gQ b_1 (gS [.o [0,0,1] 1,.c [1,0,1],.c [1,1]] (gC (some 10) [] call127 (plan_right c oM) (gX [.sp [16,14,15] [] [.sp [20,19] [] [.z [0,1,1] 1 [21]]]] (gQ (decide (i<0)) (gQ (decide (i<0)) (gB (decide (i<0)) (fun h_2 => ?_) (fun h_2 => ?_))))))))
 ·replace h_2:=decT h_2
  exact gI (vI (-1)) [0] ⟨(congrArg (Value.int .i64) (by(repeat' split) <;> omega)),rfl⟩
 ·replace h_2:=decF h_2
  refine gQ (decide (i≥many)) (gB (decide (i≥many)) (fun h_3 => ?_) (fun h_3 => ?_))
  ·replace h_3:=decT h_3
   exact gI (vI (-1)) [0] ⟨(congrArg (Value.int .i64) (by(repeat' split) <;> omega)),rfl⟩
  ·replace h_3:=decF h_3
   exact gS [.o [0,1,1] 1,.c [1,1,1]] (gC (some 22) [0] call159 (clo_Slot b i (by simp only [Cfg.Ok] at hc; omega)) (gX [] (gI (vI (5+i)) [1] ⟨(congrArg (Value.int .i64) (by(repeat' split) <;> omega)),rfl⟩)))
theorem plan_Slot(c:Cfg)(i:Int)(hc:c.Ok):
  Ctr prog 111 #[cfgV c,vI i] [] (Ret (vI (slotAt c i)) []):=by
 exact cb 11 func111 fun F=>gX [.e 0,.e 1,.e 0,.z [0,1] 5 [5,6,8,9]] (gN fun b_1=>gN fun b_2=>gQ b_1 (gQ b_2 (gQ b_1 (gS [.o [0,1] 5,.c [1,1]] (gC (some 10) [1] call100 (place_Slot c i c.slots b_2 oM (by simp only [Cfg.Ok] at hc; omega)) (gX [] (gR (vI (if (0:Int)≤i∧i<c.slots then(5+i) else -1)) [] ⟨rfl,rfl⟩)))))))
theorem clo_Ctl(c:Cfg)(b b2:Nat)(i:Int)(hc:c.Ok)(hr:0≤i∧i<c.topics):
  Ctr prog 101 #[vP b,vP b2] [Ef b c,.pts b2 [vI i] 3] (Ret (vI ((5+c.slots+c.topics)+i*(1+2*c.small))) [Ef b c,.pts b2 [vI i] 3]):=by
 exact cb 15 func101 fun F=>gX [.e 0,.z [0,1] 1 [1,6]] (gQ b (gS [.o [0,1] 1,.c [1,1]] (gC (some 7) [] call102 (plan_cells c oM) (gX [.e 1,.n,.n] (gQ b2 (gO (InK .i64 (i*(1+2*c.small))) (by have hnl:=ctl_nl hc ‹_›; simp only [Cfg.Ok,InK] at *; omega) (gO (InK .i64 ((5+c.slots+c.topics)+(i*(1+2*c.small)))) (by have hnl:=ctl_nl hc ‹_›; simp only [Cfg.Ok,InK] at *; omega) (gJ [0,1] ⟨rfl,rfl⟩))))))))
theorem place_Ctl(c:Cfg)(i many:Int)(b b2:Nat)(hc:c.Ok)(hm:many=c.topics):
  Ctr prog 100 #[cfgV c,vI i,vI many,.func (.func 101) #[] #[vP b,vP b2]] [Ef b c,.pts b2 [vI i] 3] (Ret (vI (if (0:Int)≤i∧i<many then((5+c.slots+c.topics)+i*(1+2*c.small)) else -1)) [Ef b c,.pts b2 [vI i] 3]):=by
 refine cb 23 func100 fun F=>gX [.e 2,.z [0,0,1] 1 [1,2,3,9]] (gN fun b_1=>gQ b_1 (gS [.o [0,0,1] 1,.c [1,0,1],.c [1,1]] (gC (some 10) [] call127 (plan_right c oM) (gX [.sp [16,14,15] [] [.sp [20,19] [] [.z [0,1,1] 1 [21]]]] (gQ (decide (i<0)) (gQ (decide (i<0)) (gB (decide (i<0)) (fun h_2 => ?_) (fun h_2 => ?_))))))))
 ·replace h_2:=decT h_2
  exact gI (vI (-1)) [0,1] ⟨(congrArg (Value.int .i64) (by(repeat' split) <;> omega)),rfl⟩
 ·replace h_2:=decF h_2
  refine gQ (decide (i≥many)) (gB (decide (i≥many)) (fun h_3 => ?_) (fun h_3 => ?_))
  ·replace h_3:=decT h_3
   exact gI (vI (-1)) [0,1] ⟨(congrArg (Value.int .i64) (by(repeat' split) <;> omega)),rfl⟩
  ·replace h_3:=decF h_3
   exact gS [.o [0,1,1] 1,.c [1,1,1]] (gC (some 22) [0,1] call101 (clo_Ctl c b b2 i oM (by simp only [Cfg.Ok] at hc; omega)) (gX [] (gI (vI ((5+c.slots+c.topics)+i*(1+2*c.small))) [1,2] ⟨(congrArg (Value.int .i64) (by(repeat' split) <;> omega)),rfl⟩)))
theorem plan_Control(c:Cfg)(i:Int)(hc:c.Ok):
  Ctr prog 48 #[cfgV c,vI i] [] (Ret (vI (ctlAt c i)) []):=by
 exact cb 11 func48 fun F=>gX [.e 0,.e 1,.e 0,.z [0,1] 5 [5,6,8,9]] (gN fun b_1=>gN fun b_2=>gQ b_1 (gQ b_2 (gQ b_1 (gS [.o [0,1] 5,.c [1,1]] (gC (some 10) [0,1] call100 (place_Ctl c i c.topics b_1 b_2 oM rfl) (gX [] (gR (vI (if (0:Int)≤i∧i<c.topics then((5+c.slots+c.topics)+i*(1+2*c.small)) else -1)) [] ⟨rfl,rfl⟩)))))))
theorem clo_Class(c:Cfg)(b b2:Nat)(k:Int):
  Ctr prog 141 #[vP b,vP b2] [.pts b [vI k] 3,Ef b2 c] (Ret (vI (if k≤c.n0 then 0 else 1)) [.pts b [vI k] 3,Ef b2 c]):=by
 refine cb 9 func141 fun F=>gX [.e 0,.w,.e 1,.sp [8] [] []] (gQ b (gQ b2 (gB (decide (k≤c.n0)) (fun h_1 => ?_) (fun h_1 => ?_))))
 ·replace h_1:=decT h_1
  exact gI (vI 0) [0,1] ⟨(congrArg (Value.int .i64) (by(repeat' split) <;> omega)),rfl⟩
 ·replace h_1:=decF h_1
  exact gI (vI 1) [0,1] ⟨(congrArg (Value.int .i64) (by(repeat' split) <;> omega)),rfl⟩
theorem place_Class(c:Cfg)(i many:Int)(b b2:Nat)(k:Int)(hc:c.Ok):
  Ctr prog 100 #[cfgV c,vI i,vI many,.func (.func 141) #[] #[vP b,vP b2]] [.pts b [vI k] 3,Ef b2 c] (Ret (vI (if (0:Int)≤i∧i<many then(if k≤c.n0 then 0 else 1) else -1)) [.pts b [vI k] 3,Ef b2 c]):=by
 refine cb 23 func100 fun F=>gX [.e 2,.z [0,0,1] 1 [1,2,3,9]] (gN fun b_1=>gQ b_1 (gS [.o [0,0,1] 1,.c [1,0,1],.c [1,1]] (gC (some 10) [] call127 (plan_right c oM) (gX [.sp [16,14,15] [] [.sp [20,19] [] [.z [0,1,1] 1 [21]]]] (gQ (decide (i<0)) (gQ (decide (i<0)) (gB (decide (i<0)) (fun h_2 => ?_) (fun h_2 => ?_))))))))
 ·replace h_2:=decT h_2
  exact gI (vI (-1)) [0,1] ⟨(congrArg (Value.int .i64) (by(repeat' split) <;> omega)),rfl⟩
 ·replace h_2:=decF h_2
  refine gQ (decide (i≥many)) (gB (decide (i≥many)) (fun h_3 => ?_) (fun h_3 => ?_))
  ·replace h_3:=decT h_3
   exact gI (vI (-1)) [0,1] ⟨(congrArg (Value.int .i64) (by(repeat' split) <;> omega)),rfl⟩
  ·replace h_3:=decF h_3
   exact gS [.o [0,1,1] 1,.c [1,1,1]] (gC (some 22) [0,1] call141 (clo_Class c b b2 k) (gX [] (gI (vI (if k≤c.n0 then 0 else 1)) [1,2] ⟨(congrArg (Value.int .i64) (by(repeat' split) <;> omega)),rfl⟩)))
theorem plan_Class(c:Cfg)(k:Int)(hc:c.Ok)(hk:InK .i64 (k-1)):
  Ctr prog 78 #[cfgV c,vI k] [] (Ret (vI (clsOf c k)) []):=by
 exact cb 12 func78 fun F=>gX [.z [0,1] 0 [2,3]] (gN fun b_1=>gN fun b_2=>gW (ks:=[.c [0,1],.c [1,1]]) [(2,vP b_1),(3,vP b_2)] [Ef b_1 c,.pts b_2 [vI k] 3] (qG (kV 0 [.e 0,.e 1,.h (.n),.e 0,.q (vI (c.n0+c.n1)),.ww,.q (vI (if (0:Int)≤(k-1)∧(k-1)<(c.n0+c.n1) then(if k≤c.n0 then 0 else 1) else -1)),.ww]) [4] (.e b_1 (.e b_2 (.p (InK .i64 (k-1)) (by simp only [InK] at *; omega) (.e b_1 .n)))) (.c call121 (qR [] (plan_Blocks c oM)) (.c call100 (qR [1,0] (place_Class c (k-1) (c.n0+c.n1) b_2 b_1 k oM)) .n)) (gX [] (gR (vI (if (0:Int)≤(k-1)∧(k-1)<(c.n0+c.n1) then(if k≤c.n0 then 0 else 1) else -1)) [] ⟨rfl,rfl⟩))))
theorem clo_Block(c:Cfg)(b b2:Nat)(k:Int)(hc:c.Ok)(hr:0≤k-1∧k-1<c.n0+c.n1):
  Ctr prog 153 #[vP b,vP b2] [Ef b c,.pts b2 [vI k] 3] (Ret (vI (5+c.slots+c.topics+c.topics*(1+2*c.small)+bMin (k-1) c.n0*(1+c.s0)+(k-1-bMin (k-1) c.n0)*(1+c.s1))) [Ef b c,.pts b2 [vI k] 3]):=by
 exact cb 44 func153 fun F=>gX [.e 0,.z [0,1] 1 [0,1,7]] (gQ b (gS [.o [0,1] 1,.c [1,1]] (gC (some 8) [] call102 (plan_cells c oM) (gX [.e 0,.n,.n,.e 1,.n,.w,.e 0,.w,.e 0,.n,.n,.n,.e 1,.n,.n,.w,.e 0,.n,.n,.n] (gQ b (gO (InK .i64 (c.topics*(1+2*c.small))) (by have hnl:=blk_nl hc hr; simp only [Cfg.Ok,InK] at *; omega) (gO (InK .i64 ((5+c.slots+c.topics)+(c.topics*(1+2*c.small)))) (by have hnl:=blk_nl hc hr; simp only [Cfg.Ok,InK] at *; omega) (gQ b2 (gO (InK .i64 (k-1)) (by have hnl:=blk_nl hc hr; simp only [Cfg.Ok,InK] at *; omega) (gQ b (gQ b (gO (InK .i64 (1+c.s0)) (by have hnl:=blk_nl hc hr; simp only [Cfg.Ok,InK] at *; omega) (gO (InK .i64 ((bMin (k-1) c.n0)*(1+c.s0))) (by have hnl:=blk_nl hc hr; simp only [Cfg.Ok,InK] at *; omega) (gO (InK .i64 (((5+c.slots+c.topics)+(c.topics*(1+2*c.small)))+((bMin (k-1) c.n0)*(1+c.s0)))) (by have hnl:=blk_nl hc hr; simp only [Cfg.Ok,InK] at *; omega) (gQ b2 (gO (InK .i64 (k-1)) (by have hnl:=blk_nl hc hr; simp only [Cfg.Ok,InK] at *; omega) (gO (InK .i64 ((k-1)-(bMin (k-1) c.n0))) (by have hnl:=blk_nl hc hr; simp only [Cfg.Ok,InK] at *; omega) (gQ b (gO (InK .i64 (1+c.s1)) (by have hnl:=blk_nl hc hr; simp only [Cfg.Ok,InK] at *; omega) (gO (InK .i64 (((k-1)-(bMin (k-1) c.n0))*(1+c.s1))) (by have hnl:=blk_nl hc hr; simp only [Cfg.Ok,InK] at *; omega) (gO (InK .i64 ((((5+c.slots+c.topics)+(c.topics*(1+2*c.small)))+((bMin (k-1) c.n0)*(1+c.s0)))+(((k-1)-(bMin (k-1) c.n0))*(1+c.s1)))) (by have hnl:=blk_nl hc hr; simp only [Cfg.Ok,InK] at *; omega) (gJ [0,1] ⟨rfl,rfl⟩))))))))))))))))))))))
theorem place_Block(c:Cfg)(i many:Int)(b b2:Nat)(k:Int)(hc:c.Ok)(hm:many=c.n0+c.n1)(hi:i=k-1):
  Ctr prog 100 #[cfgV c,vI i,vI many,.func (.func 153) #[] #[vP b,vP b2]] [Ef b c,.pts b2 [vI k] 3] (Ret (vI (if (0:Int)≤i∧i<many then(5+c.slots+c.topics+c.topics*(1+2*c.small)+bMin (k-1) c.n0*(1+c.s0)+(k-1-bMin (k-1) c.n0)*(1+c.s1)) else -1)) [Ef b c,.pts b2 [vI k] 3]):=by
 refine cb 23 func100 fun F=>gX [.e 2,.z [0,0,1] 1 [1,2,3,9]] (gN fun b_1=>gQ b_1 (gS [.o [0,0,1] 1,.c [1,0,1],.c [1,1]] (gC (some 10) [] call127 (plan_right c oM) (gX [.sp [16,14,15] [] [.sp [20,19] [] [.z [0,1,1] 1 [21]]]] (gQ (decide (i<0)) (gQ (decide (i<0)) (gB (decide (i<0)) (fun h_2 => ?_) (fun h_2 => ?_))))))))
 ·replace h_2:=decT h_2
  exact gI (vI (-1)) [0,1] ⟨(congrArg (Value.int .i64) (by(repeat' split) <;> omega)),rfl⟩
 ·replace h_2:=decF h_2
  refine gQ (decide (i≥many)) (gB (decide (i≥many)) (fun h_3 => ?_) (fun h_3 => ?_))
  ·replace h_3:=decT h_3
   exact gI (vI (-1)) [0,1] ⟨(congrArg (Value.int .i64) (by(repeat' split) <;> omega)),rfl⟩
  ·replace h_3:=decF h_3
   exact gS [.o [0,1,1] 1,.c [1,1,1]] (gC (some 22) [0,1] call153 (clo_Block c b b2 k oM (by simp only [Cfg.Ok] at hc; omega)) (gX [] (gI (vI (5+c.slots+c.topics+c.topics*(1+2*c.small)+bMin (k-1) c.n0*(1+c.s0)+(k-1-bMin (k-1) c.n0)*(1+c.s1))) [1,2] ⟨(congrArg (Value.int .i64) (by(repeat' split) <;> omega)),rfl⟩)))
theorem plan_Block(c:Cfg)(k:Int)(hc:c.Ok)(hk:InK .i64 (k-1)):
  Ctr prog 105 #[cfgV c,vI k] [] (Ret (vI (blockAt c k)) []):=by
 exact cb 12 func105 fun F=>gX [.z [0,1] 0 [2,3]] (gN fun b_1=>gN fun b_2=>gW (ks:=[.c [0,1],.c [1,1]]) [(2,vP b_1),(3,vP b_2)] [Ef b_1 c,.pts b_2 [vI k] 3] (qG (kV 0 [.e 0,.e 1,.h (.n),.e 0,.q (vI (c.n0+c.n1)),.ww,.q (vI (if (0:Int)≤(k-1)∧(k-1)<(c.n0+c.n1) then(5+c.slots+c.topics+c.topics*(1+2*c.small)+bMin (k-1) c.n0*(1+c.s0)+(k-1-bMin (k-1) c.n0)*(1+c.s1)) else -1)),.ww]) [4] (.e b_1 (.e b_2 (.p (InK .i64 (k-1)) (by simp only [InK] at *; omega) (.e b_1 .n)))) (.c call121 (qR [] (plan_Blocks c oM)) (.c call100 (qR [0,1] (place_Block c (k-1) (c.n0+c.n1) b_1 b_2 k oM rfl rfl)) .n)) (gX [] (gR (vI (if (0:Int)≤(k-1)∧(k-1)<(c.n0+c.n1) then(5+c.slots+c.topics+c.topics*(1+2*c.small)+bMin (k-1) c.n0*(1+c.s0)+(k-1-bMin (k-1) c.n0)*(1+c.s1)) else -1)) [] ⟨rfl,rfl⟩))))
theorem clo_Load(aw:Option Addr)(cw:Nat)(ws:List Int)(j b:Nat)(v0:Int)(hj:j<ws.length):
  Ctr prog 164 #[slAt aw j 1,vP b] [Ee aw cw ws,.pts b [vU v0] 60] (Ret (.bool false) [Ee aw cw ws,.pts b [vU (ws.getD j 0)] 60]):=by
 exact cb 7 func164 fun F=>gX [.j 0 j,.e 1] (gQ (slAt aw j 1) (gO (j<ws.length) oW (gQ b (gJ [0,1] ⟨rfl,rfl⟩))))
theorem clo_Store(aw:Option Addr)(cw:Nat)(ws:List Int)(j b:Nat)(v0:Int)(hj:j<ws.length):
  Ctr prog 155 #[slAt aw j 1,vP b] [Ee aw cw ws,.pts b [vU v0] 60] (Ret (.bool true) [Ee aw cw (ws.set j v0),.pts b [vU v0] 60]):=by
 refine cb 7 func155 fun F => ?_
 refine go_exec (rs:=[.tmp 3]) kR 4000 [.e 1,.j 0 j] (o:=.obl (b=b) (.obl (slAt aw j 1=slAt aw j 1) (.obl (j<ws.length) (.ex fun x_1:Int=>.obl ([vU v0]=(encI .u64) x_1) (.ret (.bool true) [Ee aw cw (ws.set j x_1),.pts b [vU v0] 60]))))) kR ?_
 refine ok_obl rfl ?_
 refine ok_obl rfl ?_
 refine ok_obl oW ?_
 refine ok_ex (v0:Int) ?_
 refine ok_obl rfl ?_
 exact rK [0,1] ⟨rfl,rfl⟩
theorem atomic_Add(ba:Nat)(sa:Option Addr)(sn sc:Nat)(s k1 k2 k3:Int)(k4:Bool)(d:Int)(h:InK .i64 (s+d)):
  Ctr prog 179 #[.pointer (some ⟨ba,1,none⟩),vI d] [ET ba sa sn sc s k1 k2 k3 k4] (Ret (vI (s+d)) [ET ba sa sn sc (s+d) k1 k2 k3 k4]):=by
 refine cb 10 func179 fun F=>gX [.z [0,1] 4 [7,8]] (gW (ks:=[.o [0,1] 4,.c [1,1]]) [(7,.pointer (some ⟨ba,1,none⟩)),(8,vI d)] [ET ba sa sn sc s k1 k2 k3 k4] ?_)
 refine go_extern (some 9) (f:=194) (args := #[.pointer (some ⟨ba,1,none⟩),vI d]) kR (ext_add func194 kR kR kR .i64 kR  (L:=[ET ba sa sn sc s k1 k2 k3 k4]) (i:=0) (b:=ba) (off:=1) (cs:=[.slice sa sn sc,vI s,vI k1,vI k2,vU k3,.bool k4,.nilIface]) (t:=144) (x:=s) (y:=d) kR kR (by simp only [InK] at *; omega)) ?_
 rintro v L2 ⟨rfl,rfl⟩
 exact gX [] (gJ [0] ⟨rfl,rfl⟩)
theorem atomic_Load(ba:Nat)(sa:Option Addr)(sn sc:Nat)(s k1 k2 k3:Int)(k4:Bool):
  Ctr prog 81 #[.pointer (some ⟨ba,1,none⟩)] [ET ba sa sn sc s k1 k2 k3 k4] (Ret (vI s) [ET ba sa sn sc s k1 k2 k3 k4]):=by
 refine cb 7 func81 fun F=>gX [.z [0,1] 3 [5]] (gW (ks:=[.o [0,1] 3,.c [1,1]]) [(5,.pointer (some ⟨ba,1,none⟩))] [ET ba sa sn sc s k1 k2 k3 k4] ?_)
 refine go_extern (some 6) (f:=142) (args := #[.pointer (some ⟨ba,1,none⟩)]) kR (ext_load func142 kR kR kR .i64 kR  (L:=[ET ba sa sn sc s k1 k2 k3 k4]) (i:=0) (b:=ba) (off:=1) (cs:=[.slice sa sn sc,vI s,vI k1,vI k2,vU k3,.bool k4,.nilIface]) (t:=144) (x:=s) kR kR) ?_
 rintro v L2 ⟨rfl,rfl⟩
 exact gX [] (gJ [0] ⟨rfl,rfl⟩)
theorem step_Load(ba:Nat)(A:Ar)(i:Int)(b:Nat)(v0:Int)(hn:A.ws.length=A.n)(hi:0≤i∧i<A.n)(hs:0≤A.steps∧A.steps≤1000000000):
  Ctr prog 154 #[vP ba,vI 1,vI i,.func (.func 164) #[] #[vP b]] [Eb ba A,Ea A,.pts b [vU v0] 60] (Ret (.bool false) [Eb ba (A.load i),Ea (A.load i),.pts b [vU (A.ws.getD i.toNat 0)] 60]):=by
 exact cb 71 func154 fun F=>gX [.z [0,1,1] 3 [0,1,2,3,13]] (gS [.o [0,1,1] 3,.c [1,1,1]] (gC (some 14) [0] call179 (atomic_Add ba A.aw A.n A.cw A.steps A.lk A.lw A.lv A.lc 1 oM) (gX [.e 2,.sp [23,22] [.dead] [.e 2,.sp [31,30] [.dead] [.e 2,.s 0,.z [0,1,1,1,1,1] 8 [0,2,43,44,50]]]] (gQ ba (gQ (decide (i<0)) (gF (decide (i<0)) om (gQ ba (gQ (decide (i≥(A.n:Int))) (gF (decide (i≥(A.n:Int))) om (gQ ba (gO (A.aw=A.aw∧A.n=A.ws.length) ⟨rfl,oe⟩ (gO ((0:Int)≤i∧i<(A.ws.length:Int)) (by first | omega | (simp; omega)) (gS [.o [0,1,1,1,1,1] 8,.c [1,1,1,1,1,1]] (gC (some 51) [0,1] call164 (clo_Load A.aw A.cw A.ws i.toNat b v0 oM) (gX [.e 0,.e 0,.s 1,.j 1 i.toNat,.e 0,.e 0] (gQ ba (gQ ba (gO (A.aw=A.aw∧A.n=A.ws.length) ⟨rfl,oe⟩ (gO ((0:Int)≤i∧i<(A.ws.length:Int)) (by first | omega | (simp; omega)) (gQ (slAt A.aw i.toNat 1) (gO (i.toNat<A.ws.length) (by first | omega | (simp; omega)) (gQ ba (gQ ba (gJ [0,1,2] ⟨rfl,rfl⟩))))))))))))))))))))))))
theorem step_Store(ba:Nat)(A:Ar)(i:Int)(b:Nat)(v0:Int)(hn:A.ws.length=A.n)(hi:0≤i∧i<A.n)(hs:0≤A.steps∧A.steps≤1000000000):
  Ctr prog 154 #[vP ba,vI 2,vI i,.func (.func 155) #[] #[vP b]] [Eb ba A,Ea A,.pts b [vU v0] 60] (Ret (.bool true) [Eb ba (A.store i v0),Ea (A.store i v0),.pts b [vU v0] 60]):=by
 exact cb 71 func154 fun F=>gX [.z [0,1,1] 3 [0,1,2,3,13]] (gS [.o [0,1,1] 3,.c [1,1,1]] (gC (some 14) [0] call179 (atomic_Add ba A.aw A.n A.cw A.steps A.lk A.lw A.lv A.lc 1 oM) (gX [.e 2,.sp [23,22] [.dead] [.e 2,.sp [31,30] [.dead] [.e 2,.s 0,.z [0,1,1,1,1,1] 8 [0,2,43,44,50]]]] (gQ ba (gQ (decide (i<0)) (gF (decide (i<0)) om (gQ ba (gQ (decide (i≥(A.n:Int))) (gF (decide (i≥(A.n:Int))) om (gQ ba (gO (A.aw=A.aw∧A.n=A.ws.length) ⟨rfl,oe⟩ (gO ((0:Int)≤i∧i<(A.ws.length:Int)) (by first | omega | (simp; omega)) (gS [.o [0,1,1,1,1,1] 8,.c [1,1,1,1,1,1]] (gC (some 51) [0,1] call155 (clo_Store A.aw A.cw A.ws i.toNat b v0 oM) (gX [.e 0,.e 0,.s 1,.j 1 i.toNat,.e 0,.e 0] (gQ ba (gQ ba (gO (A.aw=A.aw∧A.n=(A.ws.set i.toNat v0).length) ⟨rfl,oe⟩ (gO ((0:Int)≤i∧i<(((A.ws.set i.toNat v0).length:Nat):Int)) (by first | omega | (simp; omega)) (gQ (slAt A.aw i.toNat 1) (gO (i.toNat<(A.ws.set i.toNat v0).length) (by first | omega | (simp; omega)) (gQ ba (gQ ba (gJ [0,1,2] ⟨rfl,rfl⟩))))))))))))))))))))))))
theorem arena_Load(ba:Nat)(A:Ar)(i:Int)(hn:A.ws.length=A.n)(hi:0≤i∧i<A.n)(hs:0≤A.steps∧A.steps≤1000000000):
  Ctr prog 116 #[vP ba,vI i] [Eb ba A,Ea A] (Ret (vU (A.ws.getD i.toNat 0)) [Eb ba (A.load i),Ea (A.load i)]):=by
 exact cb 10 func116 fun F=>gX [.z [0,1] 3 [4,5,6,7]] (gN fun b_1=>gW (ks:=[.o [0,1] 3,.c [1,1]]) [(4,vP b_1),(5,vP ba),(6,vI i),(7,.func (.func 164) #[] #[vP b_1])] [Eb ba A,Ea A,.pts b_1 [vU 0] 60] (gC (some 8) [0,1,2] call154 (step_Load ba A i b_1 0 oM oM oM) (gX [.e 2,.e 2,.e 2] (gQ b_1 (gQ b_1 (gQ b_1 (gJ [0,1] ⟨rfl,rfl⟩)))))))
theorem arena_Store(ba:Nat)(A:Ar)(i v:Int)(hn:A.ws.length=A.n)(hi:0≤i∧i<A.n)(hs:0≤A.steps∧A.steps≤1000000000):
  Ctr prog 107 #[vP ba,vI i,vU v] [Eb ba A,Ea A] (Ret (undef) [Eb ba (A.store i v),Ea (A.store i v)]):=by
 exact cb 10 func107 fun F=>gX [.z [1] 3 [6,7,8]] (gN fun b_1=>gW (ks:=[.o [1] 3]) [(6,vP ba),(7,vI i),(8,.func (.func 155) #[] #[vP b_1])] [Eb ba A,Ea A,.pts b_1 [vU v] 60] (gC (some 9) [0,1,2] call154 (step_Store ba A i b_1 v oM oM oM) (gX [] (gJ [0,1] ⟨rfl,rfl⟩))))
theorem clo_SwapT(aw:Option Addr)(cw:Nat)(ws:List Int)(j b b2:Nat)(old new:Int)(hj:j<ws.length)(hw:ws.getD j 0=old):
  Ctr prog 198 #[slAt aw j 1,vP b,vP b2] [Ee aw cw ws,.pts b [vU old] 60,.pts b2 [vU new] 60] (Ret (.bool true) [Ee aw cw (ws.set j new),.pts b [vU old] 60,.pts b2 [vU new] 60]):=by
 refine cb 13 func198 fun F=>gX [.z [0,0,1] 0 [0,1,2]] (gS [.c [0,0,1],.c [1,0,1],.c [1,1]] (qG (kV 0 [.ww,.ww,.h (.j 0 j),.e 1,.t false]) [0,2,9] (.e (slAt aw j 1) (.p (j<ws.length) oW (.e b (.p (((ws.getD j 0) != old)=false) (by rw [hw]; simp) .n)))) .n (gE [(0,slAt aw j 1),(2,vP b2),(9,.bool false)] [Ee aw cw ws,.pts b [vU old] 60,.pts b2 [vU new] 60] ?_)))
 refine go_exec (rs:=[.tmp 4]) kR 4000 [.e 2,.j 0 j] (o:=.obl (b2=b2) (.obl (slAt aw j 1=slAt aw j 1) (.obl (j<ws.length) (.ex fun x_1:Int=>.obl ([vU new]=(encI .u64) x_1) (.ret (.bool true) [Ee aw cw (ws.set j x_1),.pts b [vU old] 60,.pts b2 [vU new] 60]))))) kR ?_
 refine ok_obl rfl ?_
 refine ok_obl rfl ?_
 refine ok_obl oW ?_
 refine ok_ex (new:Int) ?_
 refine ok_obl rfl ?_
 exact rK [0,1,2] ⟨rfl,rfl⟩
theorem step_SwapT(ba:Nat)(A:Ar)(i:Int)(b b2:Nat)(old new:Int)(hn:A.ws.length=A.n)(hi:0≤i∧i<A.n)(hs:0≤A.steps∧A.steps≤1000000000)(hw:A.ws.getD i.toNat 0=old):
  Ctr prog 154 #[vP ba,vI 3,vI i,.func (.func 198) #[] #[vP b,vP b2]] [Eb ba A,Ea A,.pts b [vU old] 60,.pts b2 [vU new] 60] (Ret (.bool true) [Eb ba (A.swapT i new),Ea (A.swapT i new),.pts b [vU old] 60,.pts b2 [vU new] 60]):=by
 exact cb 71 func154 fun F=>gX [.z [0,1,1] 3 [0,1,2,3,13]] (gS [.o [0,1,1] 3,.c [1,1,1]] (gC (some 14) [0] call179 (atomic_Add ba A.aw A.n A.cw A.steps A.lk A.lw A.lv A.lc 1 oM) (gX [.e 3,.sp [23,22] [.dead] [.e 3,.sp [31,30] [.dead] [.e 3,.s 0,.z [0,1,1,1,1,1] 8 [0,2,43,44,50]]]] (gQ ba (gQ (decide (i<0)) (gF (decide (i<0)) om (gQ ba (gQ (decide (i≥(A.n:Int))) (gF (decide (i≥(A.n:Int))) om (gQ ba (gO (A.aw=A.aw∧A.n=A.ws.length) ⟨rfl,oe⟩ (gO ((0:Int)≤i∧i<(A.ws.length:Int)) (by first | omega | (simp; omega)) (gS [.o [0,1,1,1,1,1] 8,.c [1,1,1,1,1,1]] (gC (some 51) [0,1,2] call198 (clo_SwapT A.aw A.cw A.ws i.toNat b b2 old new oM oM) (gX [.e 0,.e 0,.s 1,.j 1 i.toNat,.e 0,.e 0] (gQ ba (gQ ba (gO (A.aw=A.aw∧A.n=(A.ws.set i.toNat new).length) ⟨rfl,oe⟩ (gO ((0:Int)≤i∧i<(((A.ws.set i.toNat new).length:Nat):Int)) (by first | omega | (simp; omega)) (gQ (slAt A.aw i.toNat 1) (gO (i.toNat<(A.ws.set i.toNat new).length) (by first | omega | (simp; omega)) (gQ ba (gQ ba (gJ [0,1,2,3] ⟨rfl,rfl⟩))))))))))))))))))))))))
theorem arena_SwapT(ba:Nat)(A:Ar)(i old new:Int)(hn:A.ws.length=A.n)(hi:0≤i∧i<A.n)(hs:0≤A.steps∧A.steps≤1000000000)(hw:A.ws.getD i.toNat 0=old):
  Ctr prog 185 #[vP ba,vI i,vU old,vU new] [Eb ba A,Ea A] (Ret (.bool true) [Eb ba (A.swapT i new),Ea (A.swapT i new)]):=by
 exact cb 13 func185 fun F=>gX [.z [0,1] 3 [9,10,11]] (gN fun b_1=>gN fun b_2=>gW (ks:=[.o [0,1] 3,.c [1,1]]) [(9,vP ba),(10,vI i),(11,.func (.func 198) #[] #[vP b_1,vP b_2])] [Eb ba A,Ea A,.pts b_1 [vU old] 60,.pts b_2 [vU new] 60] (gC (some 12) [0,1,2,3] call154 (step_SwapT ba A i b_1 b_2 old new oM oM oM oM) (gX [] (gJ [0,1] ⟨rfl,rfl⟩))))
theorem clo_SwapF(aw:Option Addr)(cw:Nat)(ws:List Int)(j b b2:Nat)(old new:Int)(hj:j<ws.length)(hw:ws.getD j 0≠old):
  Ctr prog 198 #[slAt aw j 1,vP b,vP b2] [Ee aw cw ws,.pts b [vU old] 60,.pts b2 [vU new] 60] (Ret (.bool false) [Ee aw cw ws,.pts b [vU old] 60,.pts b2 [vU new] 60]):=by
 exact cb 13 func198 fun F=>gX [.z [0,0,1] 0 [0,1,2]] (gS [.c [0,0,1],.c [1,0,1],.c [1,1]] (qG (kV 0 [.ww,.ww,.h (.j 0 j),.e 1,.t true]) [0,2,9] (.e (slAt aw j 1) (.p (j<ws.length) oW (.e b (.p (((ws.getD j 0) != old)=true) (bne_iff_ne.2 hw) .n)))) .n (gX [] (gJ [0,1,2] ⟨rfl,rfl⟩))))
theorem step_SwapF(ba:Nat)(A:Ar)(i:Int)(b b2:Nat)(old new:Int)(hn:A.ws.length=A.n)(hi:0≤i∧i<A.n)(hs:0≤A.steps∧A.steps≤1000000000)(hw:A.ws.getD i.toNat 0≠old):
  Ctr prog 154 #[vP ba,vI 3,vI i,.func (.func 198) #[] #[vP b,vP b2]] [Eb ba A,Ea A,.pts b [vU old] 60,.pts b2 [vU new] 60] (Ret (.bool false) [Eb ba (A.swapF i),Ea (A.swapF i),.pts b [vU old] 60,.pts b2 [vU new] 60]):=by
 exact cb 71 func154 fun F=>gX [.z [0,1,1] 3 [0,1,2,3,13]] (gS [.o [0,1,1] 3,.c [1,1,1]] (gC (some 14) [0] call179 (atomic_Add ba A.aw A.n A.cw A.steps A.lk A.lw A.lv A.lc 1 oM) (gX [.e 3,.sp [23,22] [.dead] [.e 3,.sp [31,30] [.dead] [.e 3,.s 0,.z [0,1,1,1,1,1] 8 [0,2,43,44,50]]]] (gQ ba (gQ (decide (i<0)) (gF (decide (i<0)) om (gQ ba (gQ (decide (i≥(A.n:Int))) (gF (decide (i≥(A.n:Int))) om (gQ ba (gO (A.aw=A.aw∧A.n=A.ws.length) ⟨rfl,oe⟩ (gO ((0:Int)≤i∧i<(A.ws.length:Int)) (by first | omega | (simp; omega)) (gS [.o [0,1,1,1,1,1] 8,.c [1,1,1,1,1,1]] (gC (some 51) [0,1,2] call198 (clo_SwapF A.aw A.cw A.ws i.toNat b b2 old new oM oM) (gX [.e 0,.e 0,.s 1,.j 1 i.toNat,.e 0,.e 0] (gQ ba (gQ ba (gO (A.aw=A.aw∧A.n=A.ws.length) ⟨rfl,oe⟩ (gO ((0:Int)≤i∧i<(A.ws.length:Int)) (by first | omega | (simp; omega)) (gQ (slAt A.aw i.toNat 1) (gO (i.toNat<A.ws.length) (by first | omega | (simp; omega)) (gQ ba (gQ ba (gJ [0,1,2,3] ⟨rfl,rfl⟩))))))))))))))))))))))))
theorem arena_SwapF(ba:Nat)(A:Ar)(i old new:Int)(hn:A.ws.length=A.n)(hi:0≤i∧i<A.n)(hs:0≤A.steps∧A.steps≤1000000000)(hw:A.ws.getD i.toNat 0≠old):
  Ctr prog 185 #[vP ba,vI i,vU old,vU new] [Eb ba A,Ea A] (Ret (.bool false) [Eb ba (A.swapF i),Ea (A.swapF i)]):=by
 exact cb 13 func185 fun F=>gX [.z [0,1] 3 [9,10,11]] (gN fun b_1=>gN fun b_2=>gW (ks:=[.o [0,1] 3,.c [1,1]]) [(9,vP ba),(10,vI i),(11,.func (.func 198) #[] #[vP b_1,vP b_2])] [Eb ba A,Ea A,.pts b_1 [vU old] 60,.pts b_2 [vU new] 60] (gC (some 12) [0,1,2,3] call154 (step_SwapF ba A i b_1 b_2 old new oM oM oM oM) (gX [] (gJ [0,1] ⟨rfl,rfl⟩))))
theorem arena_Steps(ba:Nat)(A:Ar):
  Ctr prog 39 #[vP ba] [Eb ba A,Ea A] (Ret (vI A.steps) [Eb ba A,Ea A]):=by
 exact cb 9 func39 fun F=>gX [.z [0,1,1] 3 [7]] (gS [.o [0,1,1] 3,.c [1,1,1]] (gC (some 8) [0] call81 (atomic_Load ba A.aw A.n A.cw A.steps A.lk A.lw A.lv A.lc) (gX [] (gJ [1,0] ⟨rfl,rfl⟩))))
theorem arena_Last(ba:Nat)(A:Ar):
  Ctr prog 44 #[vP ba] [Eb ba A,Ea A] (Ret (.agg #[vI A.lk,vI A.lw,vU A.lv,.bool A.lc]) [Eb ba A,Ea A]):=by
 exact cb 10 func44 fun F=>gX [.e 0,.e 2,.e 2] (gN fun b_1=>gQ ba (gQ b_1 (gQ b_1 (gJ [0,1] ⟨rfl,rfl⟩))))
theorem heads_Block(w_:Int)(hw:0≤w_∧w_≤18446744073709551615):
  Ctr prog 151 #[vU w_] [] (Ret (vI (lo32 w_)) []):=by
 exact cb 6 func151 fun F=>gX [.z [0,1] 1 [3]] (gS [.o [0,1] 1,.c [1,1]] (gC (some 4) [] call172 (bits_Get w_ 0 32 oM) (gX [.n] (gO (InK .i64 (bAnd .u64 (bShr .u64 w_ 0) (bShr .u64 18446744073709551615 (64-32)))) (by rw [get_lo hw]; simp only [InK]; have:=lo32_lt w_; omega) (gR (vI (bAnd .u64 (bShr .u64 w_ 0) (bShr .u64 18446744073709551615 (64-32)))) [] ⟨(congrArg (Value.int .i64) (get_lo hw)),rfl⟩)))))
theorem heads_Tag(w_:Int)(hw:0≤w_∧w_≤18446744073709551615):
  Ctr prog 206 #[vU w_] [] (Ret (.int .u32 (hi32 w_)) []):=by
 exact cb 6 func206 fun F=>gX [.z [0,1] 1 [3]] (gS [.o [0,1] 1,.c [1,1]] (gC (some 4) [] call172 (bits_Get w_ 32 32 oM) (gX [.w] (gR (.int .u32 (IntKind.u32.wrap (bAnd .u64 (bShr .u64 w_ 32) (bShr .u64 18446744073709551615 (64-32))))) [] ⟨(congrArg (Value.int .u32) (get_hi hw)),rfl⟩))))
theorem heads_Make(t_ b_:Int)(ht:0≤t_∧t_≤4294967295)(hb:0≤b_∧b_≤4294967295):
  Ctr prog 205 #[.int .u32 t_,vI b_] [] (Ret (vU (t_*4294967296+b_)) []):=by
 exact cb 12 func205 fun F=>gX [.w,.n,.w,.w] (gO ((0:Int)≤32) oW (gR (vU (bOr .u64 (bShl .u64 (IntKind.u64.wrap t_) 32) (IntKind.u64.wrap (IntKind.u32.wrap b_)))) [] ⟨(congrArg (Value.int .u64) (make_eq ht hb)),rfl⟩))
theorem heads_Turn(w_ b_:Int)(hw:0≤w_∧w_≤18446744073709551615)(hb:0≤b_∧b_≤4294967295):
  Ctr prog 202 #[vU w_,vI b_] [] (Ret (vU (turnW w_ b_)) []):=by
 exact cb 10 func202 fun F=>gX [.z [0,1] 1 [1,5]] (gS [.o [0,1] 1,.c [1,1]] (gC (some 6) [] call206 (heads_Tag w_ oM) (gX [.w,.z [0,1] 4 [7,8]] (gS [.o [0,1] 4,.c [1,1]] (gC (some 9) [] call205 (heads_Make (IntKind.u32.wrap ((hi32 w_)+1)) b_ (by have:=wrap32_rng (hi32 w_+1); omega) oM) (gX [] (gR (vU ((IntKind.u32.wrap ((hi32 w_)+1))*4294967296+b_)) [] ⟨(congrArg (Value.int .u64) (turn_eq w_ b_)),rfl⟩)))))))
theorem slots_Client(w_:Int)(hw:0≤w_∧w_≤18446744073709551615):
  Ctr prog 136 #[vU w_] [] (Ret (vI (hi32 w_-1)) []):=by
 exact cb 7 func136 fun F=>gX [.z [0,1] 1 [3]] (gS [.o [0,1] 1,.c [1,1]] (gC (some 4) [] call172 (bits_Get w_ 32 32 oM) (gX [.n,.n] (gO (InK .i64 (bAnd .u64 (bShr .u64 w_ 32) (bShr .u64 18446744073709551615 (64-32)))) (by rw [get_hi64 hw]; simp only [InK]; have:=hi32_lt hw; omega) (gO (InK .i64 ((bAnd .u64 (bShr .u64 w_ 32) (bShr .u64 18446744073709551615 (64-32)))-1)) (by rw [get_hi64 hw]; simp only [InK]; have:=hi32_lt hw; omega) (gI (vI ((bAnd .u64 (bShr .u64 w_ 32) (bShr .u64 18446744073709551615 (64-32)))-1)) [] ⟨(congrArg (Value.int .i64) (by rw [get_hi64 hw])),rfl⟩))))))
theorem slots_Block(w_:Int)(hw:0≤w_∧w_≤18446744073709551615):
  Ctr prog 137 #[vU w_] [] (Ret (vI (lo32 w_)) []):=by
 exact cb 6 func137 fun F=>gX [.z [0,1] 1 [3]] (gS [.o [0,1] 1,.c [1,1]] (gC (some 4) [] call172 (bits_Get w_ 0 32 oM) (gX [.n] (gO (InK .i64 (bAnd .u64 (bShr .u64 w_ 0) (bShr .u64 18446744073709551615 (64-32)))) (by rw [get_lo hw]; simp only [InK]; have:=lo32_lt w_; omega) (gR (vI (bAnd .u64 (bShr .u64 w_ 0) (bShr .u64 18446744073709551615 (64-32)))) [] ⟨(congrArg (Value.int .i64) (get_lo hw)),rfl⟩)))))
end Go.Proofs.YtpcaijopodhdgaaGreatDoor
namespace Go.Proofs.YtpcaijopodhdgaaGreatDoor
open Go.Proofs.Tryz
open Go.Sx
abbrev Ek(x0:Nat)(c1:Cfg)(x2:Int)(x3:Int)(x4:Value)(x5:Int): Ent:=.pts x0 [.int .i64 c1.topics,.int .i64 c1.small,.int .i64 c1.slots,.int .i64 c1.clients,.int .i64 c1.s0,.int .i64 c1.n0,.int .i64 c1.s1,.int .i64 c1.n1,.int .i64 c1.retry,.int .i64 x2,.int .u64 x3,x4,.int .i64 x5] 247
abbrev Ey(x0:Nat)(c1:Cfg)(g2:Gv)(x3:Value): Ent:=.pts x0 [.int .i64 c1.topics,.int .i64 c1.small,.int .i64 c1.slots,.int .i64 c1.clients,.int .i64 c1.s0,.int .i64 c1.n0,.int .i64 c1.s1,.int .i64 c1.n1,.int .i64 c1.retry,.int .i64 g2.head,.int .u64 g2.seen,x3,.int .i64 g2.block] 247
noncomputable def nxV(g:Nat): Nat→Value
 | 1=>.func (.func 192) #[vP g] #[]
 | 2=>.func (.func 201) #[vP g] #[]
 | 3=>.func (.func 204) #[vP g] #[]
 | _=>.nilFunc
theorem run_Done0(c:Cfg)(gv:Nat)(hd sn bk:Int):
  Ctr prog 158 #[vP gv] [Ek gv c hd sn (.nilFunc) bk] (Ret (.bool true) [Ek gv c hd sn (.nilFunc) bk]):=by
 exact cb 12 func158 fun F=>gX [.e 0] (gQ gv (gJ [0] ⟨rfl,rfl⟩))
theorem run_Done1(c:Cfg)(gv:Nat)(hd sn bk:Int):
  Ctr prog 158 #[vP gv] [Ek gv c hd sn (.func (.func 192) #[vP gv] #[]) bk] (Ret (.bool false) [Ek gv c hd sn (.func (.func 192) #[vP gv] #[]) bk]):=by
 exact cb 12 func158 fun F=>gX [.e 0] (gQ gv (gJ [0] ⟨rfl,rfl⟩))
theorem run_Done2(c:Cfg)(gv:Nat)(hd sn bk:Int):
  Ctr prog 158 #[vP gv] [Ek gv c hd sn (.func (.func 201) #[vP gv] #[]) bk] (Ret (.bool false) [Ek gv c hd sn (.func (.func 201) #[vP gv] #[]) bk]):=by
 exact cb 12 func158 fun F=>gX [.e 0] (gQ gv (gJ [0] ⟨rfl,rfl⟩))
theorem run_Done3(c:Cfg)(gv:Nat)(hd sn bk:Int):
  Ctr prog 158 #[vP gv] [Ek gv c hd sn (.func (.func 204) #[vP gv] #[]) bk] (Ret (.bool false) [Ek gv c hd sn (.func (.func 204) #[vP gv] #[]) bk]):=by
 exact cb 12 func158 fun F=>gX [.e 0] (gQ gv (gJ [0] ⟨rfl,rfl⟩))
theorem run_load(c:Cfg)(gv ba:Nat)(hd sn bk:Int)(A:Ar)(nx:Value)(hn:A.ws.length=A.n)(hs:0≤A.steps∧A.steps≤1000000000)(hh:0≤hd∧hd<A.n):
  Ctr prog 150 #[vP gv,vP ba] [Ek gv c hd sn nx bk,Eb ba A,Ea A] (Ret (undef) [Ek gv c hd (A.ws.getD hd.toNat 0) nx bk,Eb ba (A.load hd),Ea (A.load hd)]):=by
 exact cb 13 func150 fun F=>gX [.e 0,.z [] 6 [4,5,9]] (gQ gv (gS [.o [] 6] (gC (some 10) [1,2] call116 (arena_Load ba A hd oM oM oM) (gX [.e 0] (gQ gv (gJ [0,1,2] ⟨rfl,rfl⟩))))))
theorem give_first(c:Cfg)(gv ba:Nat)(hd sn bk:Int)(A:Ar)(nx:Value)(hn:A.ws.length=A.n)(hs:0≤A.steps∧A.steps≤1000000000)(hh:0≤hd∧hd<A.n):
  Ctr prog 192 #[vP gv,vP ba] [Ek gv c hd sn nx bk,Eb ba A,Ea A] (Ret (undef) [Ek gv c hd (A.ws.getD hd.toNat 0) (.func (.func 201) #[vP gv] #[]) bk,Eb ba (A.load hd),Ea (A.load hd)]):=by
 exact cb 15 func192 fun F=>gX [.z [0] 4 [0,6,7]] (gS [.o [0] 4,.c [1]] (gC (some 8) [0,1,2] call150 (run_load c gv ba hd sn bk A nx oM oM oM) (gX [.e 0] (gQ gv (gJ [0,1,2] ⟨rfl,rfl⟩)))))
theorem give_second(c:Cfg)(gv ba:Nat)(hd sn bk:Int)(A:Ar)(nx:Value)(hn:A.ws.length=A.n)(hs:0≤A.steps∧A.steps≤1000000000)(hc:c.Ok)(hk:0≤bk∧bk≤4294967295)(hb:0≤blockAt c bk∧blockAt c bk<A.n)(hw:0≤sn∧sn≤18446744073709551615):
  Ctr prog 201 #[vP gv,vP ba] [Ek gv c hd sn nx bk,Eb ba A,Ea A] (Ret (undef) [Ek gv c hd sn (.func (.func 204) #[vP gv] #[]) bk,Eb ba (A.store (blockAt c bk) (lo32 sn)),Ea (A.store (blockAt c bk) (lo32 sn))]):=by
 refine cb 29 func201 fun F=>gX [.z [0] 0 [0,1]] (gS [.c [0],.c [1]] ?_)
 refine tC (some 22) (kV 0 [.ww,.ww,.ww,.ww,.ww,.e 0,.ww,.ww,.ww,.e 0,.q (vI (blockAt c bk)),.ww,.ww,.ww,.ww,.e 0,.q (vI (lo32 sn)),.h (.n)]) 18 [] [1,2] [0] call107 (arena_Store ba A (blockAt c bk) (lo32 sn) oM hb oM) (.e gv (.e gv (.e gv (.p (InK .u64 (lo32 sn)) (by simp only [InK]; have:=lo32_lt sn; omega) .n)))) (.c call105 (qR [] (plan_Block c bk oM oh)) (.c call151 (qR [] (heads_Block sn oM)) .n)) ?_
 rintro v post ⟨rfl,rfl⟩
 refine tN .n ?_
 exact gX [.e 0] (gQ gv (gJ [0,1,2] ⟨rfl,rfl⟩))
theorem run_turnT(c:Cfg)(gv ba:Nat)(hd sn bk:Int)(A:Ar)(nx:Value)(hn:A.ws.length=A.n)(hs:0≤A.steps∧A.steps≤1000000000)(hh:0≤hd∧hd<A.n)(hc:c.Ok)(hk:0≤bk∧bk≤4294967295)(hb:0≤blockAt c bk∧blockAt c bk<A.n)(hw:0≤sn∧sn≤18446744073709551615)(hq:(A.ws.getD hd.toNat 0)=sn):
  Ctr prog 193 #[vP gv,vP ba,vI bk] [Ek gv c hd sn nx bk,Eb ba A,Ea A] (Ret (.bool true) [Ek gv c hd sn nx bk,Eb ba (A.swapT hd (turnW sn bk)),Ea (A.swapT hd (turnW sn bk))]):=by
 refine cb 23 func193 fun F=>gX [.z [0,1] 0 [0,1,2]] (gS [.c [0,1],.c [1,1]] ?_)
 refine tC (some 22) (kV 0 [.ww,.ww,.ww,.ww,.e 0,.ww,.ww,.ww,.e 0,.ww,.ww,.ww,.e 0,.ww,.q (vU (turnW sn bk))]) 15 (kV 16 [.ww]) [1,2] [6] call185 (arena_SwapT ba A hd sn (turnW sn bk) oM hh oM oM) (.e gv (.e gv (.e gv .n))) (.c call202 (qR [] (heads_Turn sn bk oM hk)) .n) ?_
 rintro v post ⟨rfl,rfl⟩
 refine tN .n ?_
 exact gX [] (gJ [0,1,2] ⟨rfl,rfl⟩)
theorem give_thirdT(c:Cfg)(gv ba:Nat)(hd sn bk:Int)(A:Ar)(nx:Value)(hn:A.ws.length=A.n)(hs:0≤A.steps∧A.steps≤1000000000)(hh:0≤hd∧hd<A.n)(hc:c.Ok)(hk:0≤bk∧bk≤4294967295)(hb:0≤blockAt c bk∧blockAt c bk<A.n)(hw:0≤sn∧sn≤18446744073709551615)(hq:(A.ws.getD hd.toNat 0)=sn):
  Ctr prog 204 #[vP gv,vP ba] [Ek gv c hd sn nx bk,Eb ba A,Ea A] (Ret (undef) [Ek gv c hd sn (.nilFunc) bk,Eb ba (A.swapT hd (turnW sn bk)),Ea (A.swapT hd (turnW sn bk))]):=by
 refine cb 23 func204 fun F=>gX [.e 0,.z [0,1] 0 [0,1]] (gQ gv (gS [.c [0,1],.c [1,1]] ?_))
 refine tC (some 18) (kV 0 [.ww,.ww,.ww,.ww,.ww,.ww,.ww,.e 0]) 8 [] [0,1,2] [0,18] call193 (run_turnT c gv ba hd sn bk A (.func (.func 192) #[vP gv] #[]) oM oM oM oM oM oM oM oM) (.e gv .n) .n ?_
 rintro v post ⟨rfl,rfl⟩
 refine tN .n ?_
 exact gX [.e 0] (gQ gv (gJ [0,1,2] ⟨rfl,rfl⟩))
theorem run_turnF(c:Cfg)(gv ba:Nat)(hd sn bk:Int)(A:Ar)(nx:Value)(hn:A.ws.length=A.n)(hs:0≤A.steps∧A.steps≤1000000000)(hh:0≤hd∧hd<A.n)(hc:c.Ok)(hk:0≤bk∧bk≤4294967295)(hb:0≤blockAt c bk∧blockAt c bk<A.n)(hw:0≤sn∧sn≤18446744073709551615)(hq:(A.ws.getD hd.toNat 0)≠sn):
  Ctr prog 193 #[vP gv,vP ba,vI bk] [Ek gv c hd sn nx bk,Eb ba A,Ea A] (Ret (.bool false) [Ek gv c hd sn nx bk,Eb ba (A.swapF hd),Ea (A.swapF hd)]):=by
 refine cb 23 func193 fun F=>gX [.z [0,1] 0 [0,1,2]] (gS [.c [0,1],.c [1,1]] ?_)
 refine tC (some 22) (kV 0 [.ww,.ww,.ww,.ww,.e 0,.ww,.ww,.ww,.e 0,.ww,.ww,.ww,.e 0,.ww,.q (vU (turnW sn bk))]) 15 (kV 16 [.ww]) [1,2] [6] call185 (arena_SwapF ba A hd sn (turnW sn bk) oM hh oM oM) (.e gv (.e gv (.e gv .n))) (.c call202 (qR [] (heads_Turn sn bk oM hk)) .n) ?_
 rintro v post ⟨rfl,rfl⟩
 refine tN .n ?_
 exact gX [] (gJ [0,1,2] ⟨rfl,rfl⟩)
theorem give_thirdF(c:Cfg)(gv ba:Nat)(hd sn bk:Int)(A:Ar)(nx:Value)(hn:A.ws.length=A.n)(hs:0≤A.steps∧A.steps≤1000000000)(hh:0≤hd∧hd<A.n)(hc:c.Ok)(hk:0≤bk∧bk≤4294967295)(hb:0≤blockAt c bk∧blockAt c bk<A.n)(hw:0≤sn∧sn≤18446744073709551615)(hq:(A.ws.getD hd.toNat 0)≠sn):
  Ctr prog 204 #[vP gv,vP ba] [Ek gv c hd sn nx bk,Eb ba A,Ea A] (Ret (undef) [Ek gv c hd sn (.func (.func 192) #[vP gv] #[]) bk,Eb ba (A.swapF hd),Ea (A.swapF hd)]):=by
 refine cb 23 func204 fun F=>gX [.e 0,.z [0,1] 0 [0,1]] (gQ gv (gS [.c [0,1],.c [1,1]] ?_))
 refine tC (some 18) (kV 0 [.ww,.ww,.ww,.ww,.ww,.ww,.ww,.e 0]) 8 [] [0,1,2] [0,18] call193 (run_turnF c gv ba hd sn bk A (.func (.func 192) #[vP gv] #[]) oM oM oM oM oM oM oM oM) (.e gv .n) .n ?_
 rintro v post ⟨rfl,rfl⟩
 refine tN .n ?_
 exact gX [] (gJ [0,1,2] ⟨rfl,rfl⟩)
theorem run_Step0(c:Cfg)(gv ba:Nat)(hd sn bk:Int)(A:Ar)(hn:A.ws.length=A.n)(hs:0≤A.steps∧A.steps≤1000000000)(hh:0≤hd∧hd<A.n)(hc:c.Ok)(hk:0≤bk∧bk≤4294967295)(hb:0≤blockAt c bk∧blockAt c bk<A.n)(hw:0≤sn∧sn≤18446744073709551615):
  Ctr prog 174 #[vP gv,vP ba] [Ek gv c hd sn (.nilFunc) bk,Eb ba A,Ea A] (Ret (.bool true) [Ek gv c hd sn (.nilFunc) bk,Eb ba A,Ea A]):=by
 exact cb 16 func174 fun F=>gX [.z [0,0,1] 1 [0,1,5]] (gS [.o [0,0,1] 1,.c [1,0,1],.c [1,1]] (gC (some 6) [0] call158 (run_Done0 c gv hd sn bk) (gX [.z [0,1,1] 1 [14]] (gS [.o [0,1,1] 1,.c [1,1,1]] (gC (some 15) [2] call158 (run_Done0 c gv hd sn bk) (gX [] (gJ [2,0,1] ⟨rfl,rfl⟩)))))))
theorem run_Step1(c:Cfg)(gv ba:Nat)(hd sn bk:Int)(A:Ar)(hn:A.ws.length=A.n)(hs:0≤A.steps∧A.steps≤1000000000)(hh:0≤hd∧hd<A.n)(hc:c.Ok)(hk:0≤bk∧bk≤4294967295)(hb:0≤blockAt c bk∧blockAt c bk<A.n)(hw:0≤sn∧sn≤18446744073709551615):
  Ctr prog 174 #[vP gv,vP ba] [Ek gv c hd sn (.func (.func 192) #[vP gv] #[]) bk,Eb ba A,Ea A] (Ret (.bool false) [Ek gv c hd (A.ws.getD hd.toNat 0) (.func (.func 201) #[vP gv] #[]) bk,Eb ba (A.load hd),Ea (A.load hd)]):=by
 exact cb 16 func174 fun F=>gX [.z [0,0,1] 1 [0,1,5]] (gS [.o [0,0,1] 1,.c [1,0,1],.c [1,1]] (gC (some 6) [0] call158 (run_Done1 c gv hd sn bk) (gX [.e 2,.z [0,1,0,1] 5 [0,11,12]] (gQ gv (gS [.o [0,1,0,1] 5,.c [1,1]] (gC (some 13) [2,0,1] call192 (give_first c gv ba hd sn bk A (.func (.func 192) #[vP gv] #[]) oM oM oM) (gX [.z [0,1,1] 1 [14]] (gS [.o [0,1,1] 1,.c [1,1,1]] (gC (some 15) [0] call158 (run_Done2 c gv hd (A.ws.getD hd.toNat 0) bk) (gX [] (gJ [2,0,1] ⟨rfl,rfl⟩)))))))))))
theorem run_Step2(c:Cfg)(gv ba:Nat)(hd sn bk:Int)(A:Ar)(hn:A.ws.length=A.n)(hs:0≤A.steps∧A.steps≤1000000000)(hh:0≤hd∧hd<A.n)(hc:c.Ok)(hk:0≤bk∧bk≤4294967295)(hb:0≤blockAt c bk∧blockAt c bk<A.n)(hw:0≤sn∧sn≤18446744073709551615):
  Ctr prog 174 #[vP gv,vP ba] [Ek gv c hd sn (.func (.func 201) #[vP gv] #[]) bk,Eb ba A,Ea A] (Ret (.bool false) [Ek gv c hd sn (.func (.func 204) #[vP gv] #[]) bk,Eb ba (A.store (blockAt c bk) (lo32 sn)),Ea (A.store (blockAt c bk) (lo32 sn))]):=by
 exact cb 16 func174 fun F=>gX [.z [0,0,1] 1 [0,1,5]] (gS [.o [0,0,1] 1,.c [1,0,1],.c [1,1]] (gC (some 6) [0] call158 (run_Done2 c gv hd sn bk) (gX [.e 2,.z [0,1,0,1] 5 [0,11,12]] (gQ gv (gS [.o [0,1,0,1] 5,.c [1,1]] (gC (some 13) [2,0,1] call201 (give_second c gv ba hd sn bk A (.func (.func 201) #[vP gv] #[]) oM oM oM oM oM oM) (gX [.z [0,1,1] 1 [14]] (gS [.o [0,1,1] 1,.c [1,1,1]] (gC (some 15) [0] call158 (run_Done3 c gv hd sn bk) (gX [] (gJ [2,0,1] ⟨rfl,rfl⟩)))))))))))
theorem run_Step3T(c:Cfg)(gv ba:Nat)(hd sn bk:Int)(A:Ar)(hn:A.ws.length=A.n)(hs:0≤A.steps∧A.steps≤1000000000)(hh:0≤hd∧hd<A.n)(hc:c.Ok)(hk:0≤bk∧bk≤4294967295)(hb:0≤blockAt c bk∧blockAt c bk<A.n)(hw:0≤sn∧sn≤18446744073709551615)(hq:(A.ws.getD hd.toNat 0)=sn):
  Ctr prog 174 #[vP gv,vP ba] [Ek gv c hd sn (.func (.func 204) #[vP gv] #[]) bk,Eb ba A,Ea A] (Ret (.bool true) [Ek gv c hd sn (.nilFunc) bk,Eb ba (A.swapT hd (turnW sn bk)),Ea (A.swapT hd (turnW sn bk))]):=by
 exact cb 16 func174 fun F=>gX [.z [0,0,1] 1 [0,1,5]] (gS [.o [0,0,1] 1,.c [1,0,1],.c [1,1]] (gC (some 6) [0] call158 (run_Done3 c gv hd sn bk) (gX [.e 2,.z [0,1,0,1] 5 [0,11,12]] (gQ gv (gS [.o [0,1,0,1] 5,.c [1,1]] (gC (some 13) [2,0,1] call204 (give_thirdT c gv ba hd sn bk A (.func (.func 204) #[vP gv] #[]) oM oM oM oM oM oM oM oM) (gX [.z [0,1,1] 1 [14]] (gS [.o [0,1,1] 1,.c [1,1,1]] (gC (some 15) [0] call158 (run_Done0 c gv hd sn bk) (gX [] (gJ [2,0,1] ⟨rfl,rfl⟩)))))))))))
theorem run_Step3F(c:Cfg)(gv ba:Nat)(hd sn bk:Int)(A:Ar)(hn:A.ws.length=A.n)(hs:0≤A.steps∧A.steps≤1000000000)(hh:0≤hd∧hd<A.n)(hc:c.Ok)(hk:0≤bk∧bk≤4294967295)(hb:0≤blockAt c bk∧blockAt c bk<A.n)(hw:0≤sn∧sn≤18446744073709551615)(hq:(A.ws.getD hd.toNat 0)≠sn):
  Ctr prog 174 #[vP gv,vP ba] [Ek gv c hd sn (.func (.func 204) #[vP gv] #[]) bk,Eb ba A,Ea A] (Ret (.bool false) [Ek gv c hd sn (.func (.func 192) #[vP gv] #[]) bk,Eb ba (A.swapF hd),Ea (A.swapF hd)]):=by
 exact cb 16 func174 fun F=>gX [.z [0,0,1] 1 [0,1,5]] (gS [.o [0,0,1] 1,.c [1,0,1],.c [1,1]] (gC (some 6) [0] call158 (run_Done3 c gv hd sn bk) (gX [.e 2,.z [0,1,0,1] 5 [0,11,12]] (gQ gv (gS [.o [0,1,0,1] 5,.c [1,1]] (gC (some 13) [2,0,1] call204 (give_thirdF c gv ba hd sn bk A (.func (.func 204) #[vP gv] #[]) oM oM oM oM oM oM oM oM) (gX [.z [0,1,1] 1 [14]] (gS [.o [0,1,1] 1,.c [1,1,1]] (gC (some 15) [0] call158 (run_Done1 c gv hd sn bk) (gX [] (gJ [2,0,1] ⟨rfl,rfl⟩)))))))))))
theorem gstep0(c:Cfg)(gv ba:Nat)(hd sn bk:Int)(A:Ar)(hn:A.ws.length=A.n)(hs:0≤A.steps∧A.steps≤1000000000)(hh:0≤hd∧hd<A.n)(hc:c.Ok)(hk:0≤bk∧bk≤4294967295)(hb:0≤blockAt c bk∧blockAt c bk<A.n)(hw:0≤sn∧sn≤18446744073709551615):
  Ctr prog 139 #[vP gv,vP ba] [Ek gv c hd sn (.nilFunc) bk,Eb ba A,Ea A] (Ret (.bool true) [Ek gv c hd sn (.nilFunc) bk,Eb ba A,Ea A]):=by
 exact cb 14 func139 fun F=>gX [.z [0,1] 7 [7,10,11]] (gS [.o [0,1] 7,.c [1,1]] (gC (some 12) [0,1,2] call174 (run_Step0 c gv ba hd sn bk A oM oM oM oM oM oM oM) (gX [] (gJ [0,1,2] ⟨rfl,rfl⟩))))
theorem gstep1(c:Cfg)(gv ba:Nat)(hd sn bk:Int)(A:Ar)(hn:A.ws.length=A.n)(hs:0≤A.steps∧A.steps≤1000000000)(hh:0≤hd∧hd<A.n)(hc:c.Ok)(hk:0≤bk∧bk≤4294967295)(hb:0≤blockAt c bk∧blockAt c bk<A.n)(hw:0≤sn∧sn≤18446744073709551615):
  Ctr prog 139 #[vP gv,vP ba] [Ek gv c hd sn (.func (.func 192) #[vP gv] #[]) bk,Eb ba A,Ea A] (Ret (.bool false) [Ek gv c hd (A.ws.getD hd.toNat 0) (.func (.func 201) #[vP gv] #[]) bk,Eb ba (A.load hd),Ea (A.load hd)]):=by
 exact cb 14 func139 fun F=>gX [.z [0,1] 7 [7,10,11]] (gS [.o [0,1] 7,.c [1,1]] (gC (some 12) [0,1,2] call174 (run_Step1 c gv ba hd sn bk A oM oM oM oM oM oM oM) (gX [] (gJ [0,1,2] ⟨rfl,rfl⟩))))
theorem gstep2(c:Cfg)(gv ba:Nat)(hd sn bk:Int)(A:Ar)(hn:A.ws.length=A.n)(hs:0≤A.steps∧A.steps≤1000000000)(hh:0≤hd∧hd<A.n)(hc:c.Ok)(hk:0≤bk∧bk≤4294967295)(hb:0≤blockAt c bk∧blockAt c bk<A.n)(hw:0≤sn∧sn≤18446744073709551615):
  Ctr prog 139 #[vP gv,vP ba] [Ek gv c hd sn (.func (.func 201) #[vP gv] #[]) bk,Eb ba A,Ea A] (Ret (.bool false) [Ek gv c hd sn (.func (.func 204) #[vP gv] #[]) bk,Eb ba (A.store (blockAt c bk) (lo32 sn)),Ea (A.store (blockAt c bk) (lo32 sn))]):=by
 exact cb 14 func139 fun F=>gX [.z [0,1] 7 [7,10,11]] (gS [.o [0,1] 7,.c [1,1]] (gC (some 12) [0,1,2] call174 (run_Step2 c gv ba hd sn bk A oM oM oM oM oM oM oM) (gX [] (gJ [0,1,2] ⟨rfl,rfl⟩))))
theorem gstep3T(c:Cfg)(gv ba:Nat)(hd sn bk:Int)(A:Ar)(hn:A.ws.length=A.n)(hs:0≤A.steps∧A.steps≤1000000000)(hh:0≤hd∧hd<A.n)(hc:c.Ok)(hk:0≤bk∧bk≤4294967295)(hb:0≤blockAt c bk∧blockAt c bk<A.n)(hw:0≤sn∧sn≤18446744073709551615)(hq:(A.ws.getD hd.toNat 0)=sn):
  Ctr prog 139 #[vP gv,vP ba] [Ek gv c hd sn (.func (.func 204) #[vP gv] #[]) bk,Eb ba A,Ea A] (Ret (.bool true) [Ek gv c hd sn (.nilFunc) bk,Eb ba (A.swapT hd (turnW sn bk)),Ea (A.swapT hd (turnW sn bk))]):=by
 exact cb 14 func139 fun F=>gX [.z [0,1] 7 [7,10,11]] (gS [.o [0,1] 7,.c [1,1]] (gC (some 12) [0,1,2] call174 (run_Step3T c gv ba hd sn bk A oM oM oM oM oM oM oM oM) (gX [] (gJ [0,1,2] ⟨rfl,rfl⟩))))
theorem gstep3F(c:Cfg)(gv ba:Nat)(hd sn bk:Int)(A:Ar)(hn:A.ws.length=A.n)(hs:0≤A.steps∧A.steps≤1000000000)(hh:0≤hd∧hd<A.n)(hc:c.Ok)(hk:0≤bk∧bk≤4294967295)(hb:0≤blockAt c bk∧blockAt c bk<A.n)(hw:0≤sn∧sn≤18446744073709551615)(hq:(A.ws.getD hd.toNat 0)≠sn):
  Ctr prog 139 #[vP gv,vP ba] [Ek gv c hd sn (.func (.func 204) #[vP gv] #[]) bk,Eb ba A,Ea A] (Ret (.bool false) [Ek gv c hd sn (.func (.func 192) #[vP gv] #[]) bk,Eb ba (A.swapF hd),Ea (A.swapF hd)]):=by
 exact cb 14 func139 fun F=>gX [.z [0,1] 7 [7,10,11]] (gS [.o [0,1] 7,.c [1,1]] (gC (some 12) [0,1,2] call174 (run_Step3F c gv ba hd sn bk A oM oM oM oM oM oM oM oM) (gX [] (gJ [0,1,2] ⟨rfl,rfl⟩))))
theorem give_Step(c:Cfg)(gv ba:Nat)(G:Gv)(A:Ar)(hn:A.ws.length=A.n)(hs:0≤A.steps∧A.steps≤1000000000)(hc:c.Ok)(hg:Gv.Ok c A.n G):
  Ctr prog 139 #[vP gv,vP ba] [Ey gv c G (nxV gv G.ph),Eb ba A,Ea A] (Ret (.bool ((G.step c A).1.ph==0)) [Ey gv c ((G.step c A).1) (nxV gv ((G.step c A).1).ph),Eb ba ((G.step c A).2),Ea ((G.step c A).2)]):=by
 obtain⟨hd,sn,bk,ph⟩:=G
 obtain⟨hph,hh,hw,hk,hb⟩:=hg
 simp only at hph hh hw hk hb
 match ph,hph with
 | 0,_=>exact gstep0 c gv ba hd sn bk A hn hs hh hc hk hb hw
 | 1,_=>exact gstep1 c gv ba hd sn bk A hn hs hh hc hk hb hw
 | 2,_=>exact gstep2 c gv ba hd sn bk A hn hs hh hc hk hb hw
 | 3,_=>
  by_cases hq:A.ws.getD hd.toNat 0=sn
  ·have e:Gv.step c ⟨hd,sn,bk,3⟩ A=(⟨hd,sn,bk,0⟩,A.swapT hd (turnW sn bk)):=by simp only [Gv.step,if_pos hq]
   rw [e]; exact gstep3T c gv ba hd sn bk A hn hs hh hc hk hb hw hq
  ·have e:Gv.step c ⟨hd,sn,bk,3⟩ A=(⟨hd,sn,bk,1⟩,A.swapF hd):=by simp only [Gv.step,if_neg hq]
   rw [e]; exact gstep3F c gv ba hd sn bk A hn hs hh hc hk hb hw hq
 | n+4,h=>omega
end Go.Proofs.YtpcaijopodhdgaaGreatDoor
namespace Go.Proofs.YtpcaijopodhdgaaGreatDoor
open Go.Proofs.Tryz
open Go.Sx
abbrev Ec(x0:Option Addr)(x1:Nat)(x2:List Int): Ent:=.sl x0 x1 (encI .i64) 0 1 x2 3
abbrev qaF: List Nat:=[1,0,0,1,1,0,0,1,0,1,1,1,1]
abbrev qbN: List Nat:=[1,1,1,0,0,1,0,1,1,1,1]
abbrev qbO: List Nat:=[0,1,0,1,1,1,1]
theorem clone_some_i64(ad:Addr)(c:Nat)(xs:List Int)(hl:xs.length≤1000000):
  Ctr prog 77 #[.slice (some ad) xs.length c] [Ec (some ad) c xs] (fun v L => ∃(a2:Option Addr) (c2:Nat),v = .slice a2 xs.length c2∧L=[Ec (some ad) c xs,Ec a2 c2 xs]):=by
 refine cb 8 func77 fun F=>gX [.z [0,1,1] 2 [5,6]] (gN fun b_1=>gW (ks:=[.o [0,1,1] 2,.c [1,1,1]]) [(5,.slice (some ⟨b_1,0,none⟩) 0 0),(6,.slice (some ad) xs.length c)] [Ec (some ad) c xs,.pts b_1 [] 3] ?_)
 refine go_view (view_empty 1 (b:=b_1) (encI .i64) 0 1 3 (sizedI _) kR) ?_
 refine go_by (some 7) (appO prog _) (some (.slice (some ⟨b_1,0,none⟩) ([]).length 0,.slice (some ad) xs.length c,(3,1,8))) (R_append 1 (a:=(some ⟨b_1,0,none⟩)) (c:=0) (enc:=encI .i64) (d:=0) (sz:=1) (xs:=[]) (te:=3) kR (.slice (some ad) xs.length c) xs (src_sl (i:=0) (d:=0) (sz:=1) (t:=3) kR) (oneI _) 8 oW oW) kR ?_
 rintro v L2 ⟨a_2,c_3,rfl,rfl⟩
 exact gX [] (gJ [0,1] ⟨a_2,c_3,rfl,rfl⟩)
theorem clone_nil_i64:
  Ctr prog 77 #[.slice none 0 0] [] (Ret (.slice none 0 0) []):=by
 exact cb 8 func77 fun F=>gX [] (gR (.slice none 0 0) [] ⟨rfl,rfl⟩)
theorem clone_i64(a:Option Addr)(c:Nat)(xs:List Int)(hl:xs.length≤1000000):
  Ctr prog 77 #[.slice a xs.length c] [Ec a c xs] (fun v L => ∃(a2:Option Addr) (c2:Nat),v = .slice a2 xs.length c2∧L=[Ec a c xs,Ec a2 c2 xs]):=by
 cases a with
 | some ad=>exact clone_some_i64 ad c xs hl
 | none=>
  refine ctr_sl_nil (i:=0) rfl ?_
  rintro rfl rfl
  exact ctr_post (ctr_pre [] kR clone_nil_i64) fun v L h=>⟨_,(view_nil2 _ _ _ _ (sizedI _) _ _ _ _ (sizedI _) h.2),none,0,h.1,rfl⟩
theorem clone_some_u64(ad:Addr)(c:Nat)(xs:List Int)(hl:xs.length≤1000000):
  Ctr prog 47 #[.slice (some ad) xs.length c] [Ee (some ad) c xs] (fun v L => ∃(a2:Option Addr) (c2:Nat),v = .slice a2 xs.length c2∧L=[Ee (some ad) c xs,Ee a2 c2 xs]):=by
 refine cb 8 func47 fun F=>gX [.z [0,1,1] 2 [5,6]] (gN fun b_1=>gW (ks:=[.o [0,1,1] 2,.c [1,1,1]]) [(5,.slice (some ⟨b_1,0,none⟩) 0 0),(6,.slice (some ad) xs.length c)] [Ee (some ad) c xs,.pts b_1 [] 60] ?_)
 refine go_view (view_empty 1 (b:=b_1) (encI .u64) 0 1 60 (sizedI _) kR) ?_
 refine go_by (some 7) (appO prog _) (some (.slice (some ⟨b_1,0,none⟩) ([]).length 0,.slice (some ad) xs.length c,(60,1,8))) (R_append 1 (a:=(some ⟨b_1,0,none⟩)) (c:=0) (enc:=encI .u64) (d:=0) (sz:=1) (xs:=[]) (te:=60) kR (.slice (some ad) xs.length c) xs (src_sl (i:=0) (d:=0) (sz:=1) (t:=60) kR) (oneI _) 8 oW oW) kR ?_
 rintro v L2 ⟨a_2,c_3,rfl,rfl⟩
 exact gX [] (gJ [0,1] ⟨a_2,c_3,rfl,rfl⟩)
theorem clone_nil_u64:
  Ctr prog 47 #[.slice none 0 0] [] (Ret (.slice none 0 0) []):=by
 exact cb 8 func47 fun F=>gX [] (gR (.slice none 0 0) [] ⟨rfl,rfl⟩)
theorem clone_u64(a:Option Addr)(c:Nat)(xs:List Int)(hl:xs.length≤1000000):
  Ctr prog 47 #[.slice a xs.length c] [Ee a c xs] (fun v L => ∃(a2:Option Addr) (c2:Nat),v = .slice a2 xs.length c2∧L=[Ee a c xs,Ee a2 c2 xs]):=by
 cases a with
 | some ad=>exact clone_some_u64 ad c xs hl
 | none=>
  refine ctr_sl_nil (i:=0) rfl ?_
  rintro rfl rfl
  exact ctr_post (ctr_pre [] kR clone_nil_u64) fun v L h=>⟨_,(view_nil2 _ _ _ _ (sizedI _) _ _ _ _ (sizedI _) h.2),none,0,h.1,rfl⟩
theorem clone_n(a:Option Addr)(c n:Nat)(xs:List Int)(hn:xs.length=n)(hl:xs.length≤1000000):
  Ctr prog 47 #[.slice a n c] [Ee a c xs] (fun v L => ∃(a2:Option Addr) (c2:Nat),v = .slice a2 xs.length c2∧L=[Ee a c xs,Ee a2 c2 xs]):=by
 subst hn; exact clone_u64 a c xs hl
theorem grow(n:Int)(hn:0≤n∧n≤1000000):
  Ctr prog 175 #[.slice none 0 0,vI n] [] (fun v L => ∃(a2:Option Addr) (c2:Nat),v = .slice a2 0 c2∧L=[Ec a2 c2 []]):=by
 refine cb 27 func175 fun F=>gX [.sp [6] [.dead] [.w,.n,.sp [16] [.z [0,1,1,0,1,1] 5 [0,20,21]] []]] (gF (decide (n<0)) om (gO (InK .i64 (n-0)) (by simp only [InK] at *; omega) (gB (decide ((n-0)>0)) (fun h_1 => ?_) (fun h_1 => ?_))))
 ·replace h_1:=decT h_1
  refine gS [.o [0,1,1,0,1,1] 5,.c [1,1,1]] ?_
  refine go_by (some 22) (appZ prog _) (some (.slice none 0 0,vI (n-0),(3,1,8),some ((encI .i64) (0:Int)))) (R_appZ (encI .i64) 0 (0:Int) (sizedI _) (n-0) 8 oa oa oa) kR ?_
  rintro v L2 ⟨a_2,c_3,rfl,rfl⟩
  refine gX [.z [0,1,1,0,1,1] 8 [22,24]] (gS [.o [0,1,1,0,1,1] 8,.c [1,1,1]] ?_)
  refine go_by (some 25) (cutO prog _) (some (.slice a_2 ((List.replicate (n-0).toNat (0:Int))).length c_3,none,(some (vI 0)),1)) (R_cut 0 (a:=a_2) (c:=c_3) (enc:=encI .i64) (d:=0) (sz:=1) (xs:=(List.replicate (n-0).toNat (0:Int))) (te:=3) kR none (some (vI 0)) ⟨oW,oW⟩ trivial) kR ?_
  rintro v L2 ⟨a_4,c_5,rfl,rfl⟩
  exact gX [] (gJ [0] ⟨a_4,c_5,rfl,rfl⟩)
 ·replace h_1:=decF h_1
  refine gW0 (.slice none 0 0) [] ?_
  refine ret_view (view_nil (encI .i64) 0 1 3 (sizedI _)) ?_
  exact rK [0] ⟨none,0,rfl,rfl⟩
theorem concat(b:Nat)(a1 a3:Option Addr)(c1 c3:Nat)(xs ys:List Int)(h1:xs.length≤1000)(h2:ys.length≤1000):
  Ctr prog 140 #[.slice (some ⟨b,0,none⟩) 2 2] [.pts b [.slice a1 xs.length c1,.slice a3 ys.length c3] 59,Ec a1 c1 xs,Ec a3 c3 ys] (fun v L => ∃(a2:Option Addr) (c2:Nat),v = .slice a2 ((xs++ys).length) c2∧L=[Ec a1 c1 xs,Ec a3 c3 ys,Ec a2 c2 (xs++ys)]):=by
 refine cb 36 func140 fun F=>gX [.u,.w,.e 0,.n,.sp [20] [.dead] [.w,.u,.w,.e 0,.n,.sp [20] [.dead] [.w,.u,.z [0,1,1,1] 1 [0,23]]]] (gQ b (gO (InK .i64 (0+(xs.length:Int))) (by simp only [InK] at *; omega) (gF (decide ((0+(xs.length:Int))<0)) ol (gQ b (gO (InK .i64 ((0+(xs.length:Int))+(ys.length:Int))) (by simp only [InK] at *; omega) (gF (decide (((0+(xs.length:Int))+(ys.length:Int))<0)) ol (gS [.o [0,1,1,1] 1,.c [1,1,1,1]] ?_)))))))
 refine go_call (some 24) [] call175 (grow ((0+(xs.length:Int))+(ys.length:Int)) oM) kR ?_
 rintro v post ⟨a2_1,c2_2,rfl,rfl⟩
 refine gX [.u,.w,.e 0,.z qaF 2 [25,26,27,31,32]] (gQ b (gS [.o qaF 2,.b 3,.c qbN,.r qbO,.b 2,.c [1,1,1,1,1]] ?_))
 refine go_by (some 33) (appO prog _) (some (.slice a2_1 ([]).length c2_2,.slice a1 xs.length c1,(3,1,8))) (R_append 3 (a:=a2_1) (c:=c2_2) (enc:=encI .i64) (d:=0) (sz:=1) (xs:=[]) (te:=3) kR (.slice a1 xs.length c1) xs (src_sl (i:=1) (d:=0) (sz:=1) (t:=3) kR) (oneI _) 8 oW oW) kR ?_
 rintro v L2 ⟨a_3,c_4,rfl,rfl⟩
 refine gX [.w,.u,.w,.e 0,.z qaF 2 [25,26,27,31,32]] (gQ b (gS [.o qaF 2,.b 3,.c qbN,.r qbO,.b 2,.c [1,1,1,1,1]] ?_))
 refine go_by (some 33) (appO prog _) (some (.slice a_3 (([]++xs)).length c_4,.slice a3 ys.length c3,(3,1,8))) (R_append 3 (a:=a_3) (c:=c_4) (enc:=encI .i64) (d:=0) (sz:=1) (xs:=([]++xs)) (te:=3) kR (.slice a3 ys.length c3) ys (src_sl (i:=2) (d:=0) (sz:=1) (t:=3) kR) (oneI _) 8 oW oW) kR ?_
 rintro v L2 ⟨a_5,c_6,rfl,rfl⟩
 exact gX [.w,.u] (gJ [1,2,3] ⟨a_5,c_6,rfl,rfl⟩)
end Go.Proofs.YtpcaijopodhdgaaGreatDoor
namespace Go.Proofs.YtpcaijopodhdgaaGreatDoor
open Go.Proofs.Tryz
open Go.Sx
abbrev EN(x0:Nat)(c1:Cfg)(x2:Int)(x3:Nat)(x4:Option Addr)(x5:Nat)(x6:Nat)(x7:Option Addr)(x8:Nat)(x9:Nat)(x10:Option Addr)(x11:Nat)(x12:Nat)(x13:Value): Ent:=.pts x0 [.int .i64 c1.topics,.int .i64 c1.small,.int .i64 c1.slots,.int .i64 c1.clients,.int .i64 c1.s0,.int .i64 c1.n0,.int .i64 c1.s1,.int .i64 c1.n1,.int .i64 c1.retry,.int .i64 x2,.map (some x3),.slice x4 x5 x6,.slice x7 x8 x9,.slice x10 x11 x12,x13] 149
abbrev EE(x0:Nat)(c1:Cfg)(x2:Int)(x3:Nat)(x4:Option Addr)(x5:Nat)(x6:Nat)(x7:Option Addr)(x8:Nat)(x9:Nat)(x10:Option Addr)(x11:Nat)(x12:Nat): Ent:=.pts x0 [.int .i64 c1.topics,.int .i64 c1.small,.int .i64 c1.slots,.int .i64 c1.clients,.int .i64 c1.s0,.int .i64 c1.n0,.int .i64 c1.s1,.int .i64 c1.n1,.int .i64 c1.retry,.int .i64 x2,.map (some x3),.slice x4 x5 x6,.slice x7 x8 x9,.slice x10 x11 x12,.pointer none] 149
abbrev qbP: List Nat:=[0,0,1,0,1,0,0,1]
abbrev qaG: List Nat:=[1,1,0,1,0,0,1]
abbrev qbQ: List Nat:=[0,0,1,0,1,0,1,0,0,1]
structure ScH where
 m:Nat
 al:Option Addr
 ak:Option Addr
 ag:Option Addr
 cl:Nat
 ck:Nat
 cg:Nat
 gp:Nat
noncomputable def gpV(gp:Nat): Option Gv→Value
 | none=>.pointer none
 | some _=>.pointer (some ⟨gp,0,none⟩)
noncomputable def givL(c:Cfg)(gp:Nat): Option Gv→List Ent
 | none=>[]
 | some G=>[Ey gp c G (nxV gp G.ph)]
noncomputable def scanL(s:Nat)(c:Cfg)(S:Sc)(h:ScH): List Ent:=
 [EN s c S.slot h.m h.al S.left.length h.cl h.ak S.kept.length h.ck h.ag S.given.length h.cg (gpV h.gp S.give),.res (IMap h.m .i64 (Value.int .i64) S.named),Ec h.al h.cl S.left,Ec h.ak h.ck S.kept,Ec h.ag h.cg S.given]++givL c h.gp S.give
noncomputable def ScanR(s:Nat)(c:Cfg)(S:Sc): Res:=Box (fun _:ScH=>True) (scanL s c S)
structure NxI where
 kept:List Int
 left:List Int
 ak:Option Addr
 al:Option Addr
 ck:Nat
 cl:Nat
theorem new_Give(c:Cfg)(bk:Int)(hc:c.Ok)(h0:0≤clsOf c bk):
  Ctr prog 173 #[cfgV c,vI bk] [] (fun v L => ∃(gv:Nat),v=vP gv∧L=[Ek gv c (3+clsOf c bk) 0 (.func (.func 192) #[vP gv] #[]) bk]):=by
 refine cb 26 func173 fun F=>gX [.e 0,.z [0,1] 2 [1,2,7,8]] (gN fun b_1=>gQ b_1 (gS [.o [0,1] 2,.c [1,1]] (gC (some 9) [] call78 (plan_Class c bk oM (by have:=clsOf_ok h0; simp only [Cfg.Ok,InK] at *; omega)) (gX [.sp [11] [.dead] [.z [0,1,1,1] 0 [1,2,5]]] (gF (decide ((clsOf c bk)<0)) om (gS [.c [0,1,1,1],.c [1,1,1,1]] ?_))))))
 refine tO (kV 0 [.e 0,.ww,.q (vI (3+(clsOf c bk))),.ww,.ww,.ww]) 6 (kV 7 [.ww]) .w [6] (.e b_1 .n) (.c call103 (qR [] (plan_Head (clsOf c bk) ⟨h0,clsOf_le c bk⟩)) .n) (sN fun b_2=>(sV ?_))
 refine tN .n ?_
 exact gX [.e 1] (gQ b_2 (gJ [1] ⟨b_2,rfl,rfl⟩))
theorem scan_next(c:Cfg)(s m:Nat)(sl:Int)(named:Int→Option Int)(left kept given:List Int)(al ak ag:Option Addr)(cl ck cg:Nat)(gp:Value)(hc:c.Ok)(hl:kept.length+left.length≤100)(hb:∀b∈left,0≤clsOf c b):
  Ctr prog 138 #[vP s] [EN s c sl m al left.length cl ak kept.length ck ag given.length cg gp,.res (IMap m .i64 (Value.int .i64) named),Ec al cl left,Ec ak ck kept,Ec ag cg given] (Ret (undef) [.res (ScanR s c (Sc.next c (⟨sl,named,left,kept,given,none⟩:Sc)))]):=by
 refine cb 59 func138 fun F=>gX [.e 0,.z [0,1] 0 [0]] (gQ s (gS [.c [0,1],.b 0] ?_))
 refine go_loop (ι := NxI) (fun i=>[(0,vP s)]) (fun i=>[EE s c sl m i.al i.left.length i.cl i.ak i.kept.length i.ck ag given.length cg,.res (IMap m .i64 (Value.int .i64) named),Ec i.al i.cl i.left,Ec i.ak i.ck i.kept,Ec ag cg given]) (fun i=>nextL named i.kept i.left=nextL named kept left∧i.kept.length+i.left.length≤100∧∀b∈i.left,0≤clsOf c b) (fun i=>i.left.length) ⟨kept,left,ak,al,ck,cl⟩ [0] [0,1,2,3,4] kR kR kR kR ⟨rfl,hl,hb⟩ ?_
 intro i J_1 hIJ_1 hJ_1
 have hx:=hIJ_1
 refine gX [.e 0,.sp [12,11] [.e 0,.e 0,.s 2,.j 2 0,.e 0,.z qbP 5 [0,2,28,29]] []] (gQ s (gQ (decide ((i.left.length:Int)>0)) (gB (decide ((i.left.length:Int)>0)) (fun h_2 => ?_) (fun h_2 => ?_))))
 ·replace h_2:=decT h_2
  refine gQ s (gQ s (gO (i.al=i.al∧i.left.length=i.left.length) ⟨rfl,oe⟩ (gO ((0:Int)≤0∧0<(i.left.length:Int)) oW (gQ (slAt i.al 0 1) (gO (0<i.left.length) oW (gQ s (gS [.o qbP 5,.c [1,0,1,0,1,0,0,1],.c qaG,.b 1,.j J_1,.b 0] ?_)))))))
  refine go_by (some 30) (getO prog _) (some (.map (some m),vI (i.left.getD 0 0),false,.i64,some (Value.int .i64 0))) (R_get 1 (enc:=Value.int .i64) (m:=named) kR (i.left.getD 0 0) false 0) kR ?_
  rintro v L2 ⟨rfl,rfl⟩
  refine gX [.sp [31] [.e 0,.z qbQ 6 [32,36,37]] [.z qaG 0 [0,2]]] (gB (((named (i.left.getD 0 0)).getD 0)==0) (fun h_3 => ?_) (fun h_3 => ?_))
  ·replace h_3:=beqT h_3
   refine gQ s (gS [.o qbQ 6,.c [1,0,1,0,1,0,1,0,0,1],.c qaG,.b 1,.j J_1,.b 0] ?_)
   refine go_call (some 38) [] call173 (new_Give c (i.left.getD 0 0) oM (hx.2.2 _ (by rw [List.getD_eq_getElem?_getD,List.getElem?_eq_getElem oa]; exact List.getElem_mem _))) kR ?_
   rintro v post ⟨gv_4,rfl,rfl⟩
   refine gX [.e 0] (gQ s (gW0 (undef) [EN s c sl m i.al i.left.length i.cl i.ak i.kept.length i.ck ag given.length cg (vP gv_4),.res (IMap m .i64 (Value.int .i64) named),Ec i.al i.cl i.left,Ec i.ak i.ck i.kept,Ec ag cg given,Ek gv_4 c (3+clsOf c (i.left.getD 0 0)) 0 (.func (.func 192) #[vP gv_4] #[]) (i.left.getD 0 0)] ?_))
   refine ret_view (L':=[.res (ScanR s c (⟨sl,named,i.left,i.kept,given,(some (newGv c (i.left.getD 0 0)))⟩:Sc))]) (vK (fun _:ScH=>True) (scanL s c (⟨sl,named,i.left,i.kept,given,(some (newGv c (i.left.getD 0 0)))⟩:Sc)) (⟨m,i.al,i.ak,ag,i.cl,i.ck,cg,gv_4⟩:ScH) [0,1,2,3,4,5] trivial) ?_
   exact ret_ok (post:=[.res (ScanR s c (⟨sl,named,i.left,i.kept,given,(some (newGv c (i.left.getD 0 0)))⟩:Sc))]) [0] kR ⟨rfl,(by rw [nextL_some hx.1 oa (by assumption) sl given none c])⟩
  ·replace h_3:=beqF h_3
   refine gS [.c qaG,.b 1,.j J_1,.b 0] (zG (zN [0,1,2,3,4,5,6,9,10,11,12,13] (kV 0 [.w,.w,.w,.w,.w,.e 0,.w]++kV 9 [.w,.w,.w,.e 0,.cut (.slice (cutA i.al i.cl 1 1) ((i.left.drop 1).length) (i.cl-1))]) [0,2,41,42,43,44,45,46,47,50,51,52,53,54] [7] (.e s (.e s (.p (LawQ prog F [EE s c sl m i.al i.left.length i.cl i.ak i.kept.length i.ck ag given.length cg,.res (IMap m .i64 (Value.int .i64) named),Ec i.al i.cl i.left,Ec i.ak i.ck i.kept,Ec ag cg given] (.slice (cutA i.al i.cl 1 1) ((i.left.drop 1).length) (i.cl-1)) cutO (.slice i.al (i.left).length i.cl,some (vI 1),none,1)) (fun _=>(R_cutV 2 (a:=i.al) (c:=i.cl) (enc:=encI .i64) (d:=0) (sz:=1) (xs:=i.left) (te:=3) kR .i64 1 ⟨oW,oW⟩)) .n))) ⟨?_,trivial⟩))
   refine zX .w (sN fun b_7_1=>(sV ?_))
   refine zN [] (kV 0 [.w,.w,.w,.w,.w,.e 0]++kV 9 [.w,.w,.w,.e 0,.cut (.slice (cutA i.al i.cl 1 1) ((i.left.drop 1).length) (i.cl-1))]) [48,0,41,42,43,44,45,46,50,51,52,53,54] [8] (.e s (.e s (.p (LawQ prog F [EE s c sl m i.al i.left.length i.cl i.ak i.kept.length i.ck ag given.length cg,.res (IMap m .i64 (Value.int .i64) named),Ec i.al i.cl i.left,Ec i.ak i.ck i.kept,Ec ag cg given,.pts b_7_1 [vI (i.left.getD 0 0)] 3] (.slice (cutA i.al i.cl 1 1) ((i.left.drop 1).length) (i.cl-1)) cutO (.slice i.al (i.left).length i.cl,some (vI 1),none,1)) (fun _=>(R_cutV 2 (a:=i.al) (c:=i.cl) (enc:=encI .i64) (d:=0) (sz:=1) (xs:=i.left) (te:=3) kR .i64 1 ⟨oW,oW⟩)) .n))) ⟨?_,trivial⟩
   refine zB (some 49) (appO prog _) (some (.slice i.ak (i.kept).length i.ck,.slice (some ⟨b_7_1,0,none⟩) 1 1,(3,1,8))) (R_append 3 (a:=i.ak) (c:=i.ck) (enc:=encI .i64) (d:=0) (sz:=1) (xs:=i.kept) (te:=3) kR (.slice (some ⟨b_7_1,0,none⟩) 1 1) [(i.left.getD 0 0)] (src_pts (i:=5) (t:=3) kR) (oneI _) 8 oW oW) ?_
   rintro v L2 ⟨a_8_1,c_8_1,rfl,rfl⟩
   refine zN [14,15] (kV 0 [.w,.w]++kV 9 [.w,.w,.w,.e 0,.cut (.slice (cutA i.al i.cl 1 1) ((i.left.drop 1).length) (i.cl-1)),.w,.w]) [49,0,41,42,50,51,52,53,54,55,56] [16] (.e s (.p (LawQ prog F [EE s c sl m i.al i.left.length i.cl i.ak i.kept.length i.ck ag given.length cg,.res (IMap m .i64 (Value.int .i64) named),Ec i.al i.cl i.left,Ec a_8_1 c_8_1 (i.kept++[(i.left.getD 0 0)]),Ec ag cg given,.pts b_7_1 [vI (i.left.getD 0 0)] 3] (.slice (cutA i.al i.cl 1 1) ((i.left.drop 1).length) (i.cl-1)) cutO (.slice i.al (i.left).length i.cl,some (vI 1),none,1)) (fun _=>(R_cutV 2 (a:=i.al) (c:=i.cl) (enc:=encI .i64) (d:=0) (sz:=1) (xs:=i.left) (te:=3) kR .i64 1 ⟨oW,oW⟩)) .n)) ⟨?_,trivial⟩
   refine zX (.e 0) (sQ s (sK ?_))
   refine zN [17,18] [(1,.w),(13,.cut (.slice (cutA i.al i.cl 1 1) ((i.left.drop 1).length) (i.cl-1))),(17,.w),(18,.w)] [0,53,42,54,57,58] [19] (.p (LawQ prog F [EE s c sl m i.al i.left.length i.cl a_8_1 ((i.kept++[(i.left.getD 0 0)]).length) c_8_1 ag given.length cg,.res (IMap m .i64 (Value.int .i64) named),Ec i.al i.cl i.left,Ec a_8_1 c_8_1 (i.kept++[(i.left.getD 0 0)]),Ec ag cg given,.pts b_7_1 [vI (i.left.getD 0 0)] 3] (.slice (cutA i.al i.cl 1 1) ((i.left.drop 1).length) (i.cl-1)) cutO (.slice i.al (i.left).length i.cl,some (vI 1),none,1)) (fun _=>(R_cutV 2 (a:=i.al) (c:=i.cl) (enc:=encI .i64) (d:=0) (sz:=1) (xs:=i.left) (te:=3) kR .i64 1 ⟨oW,oW⟩)) .n) ⟨?_,trivial⟩
   refine zX (.e 0) (sQ s (sK ?_))
   refine zE [] [] [0] .n ?_
   refine go_view (view_cut 2 (a:=i.al) (c:=i.cl) (enc:=encI .i64) (d:=0) (sz:=1) (xs:=i.left) (te:=3) kR 1 oW) ?_
   refine gX [.z [] 0 [0]] (gW (ks:=[.j J_1,.b 0]) [(0,vP s)] [EE s c sl m (cutA i.al i.cl 1 1) ((i.left.drop 1).length) (i.cl-1) a_8_1 ((i.kept++[(i.left.getD 0 0)]).length) c_8_1 ag given.length cg,.res (IMap m .i64 (Value.int .i64) named),Ec (cutA i.al i.cl 1 1) (i.cl-1) (i.left.drop 1),Ec a_8_1 c_8_1 (i.kept++[(i.left.getD 0 0)]),Ec ag cg given,.pts b_7_1 [vI (i.left.getD 0 0)] 3] ?_)
   exact go_back hJ_1 (⟨(i.kept++[(i.left.getD 0 0)]),(i.left.drop 1),a_8_1,(cutA i.al i.cl 1 1),c_8_1,(i.cl-1)⟩:NxI) [0,1,2,3,4] kR rfl kR ⟨(nextL_on oa (by assumption)).trans hx.1,om,fun b hb=>hx.2.2 b (List.mem_of_mem_drop hb)⟩ om
 ·replace h_2:=decF h_2
  refine gW0 (undef) [EE s c sl m i.al i.left.length i.cl i.ak i.kept.length i.ck ag given.length cg,.res (IMap m .i64 (Value.int .i64) named),Ec i.al i.cl i.left,Ec i.ak i.ck i.kept,Ec ag cg given] ?_
  refine ret_view (L':=[.res (ScanR s c (⟨sl,named,i.left,i.kept,given,none⟩:Sc))]) (vK (fun _:ScH=>True) (scanL s c (⟨sl,named,i.left,i.kept,given,none⟩:Sc)) (⟨m,i.al,i.ak,ag,i.cl,i.ck,cg,0⟩:ScH) [0,1,2,3,4] trivial) ?_
  exact ret_ok (post:=[.res (ScanR s c (⟨sl,named,i.left,i.kept,given,none⟩:Sc))]) [0] kR ⟨rfl,(by rw [nextL_none hx.1 (List.eq_nil_of_length_eq_zero oa) sl given none c])⟩
theorem scan_DoneT(c:Cfg)(s m:Nat)(sl:Int)(al ak ag:Option Addr)(nl nk ng cl ck cg:Nat)(hd:sl=c.slots):
  Ctr prog 135 #[vP s] [EE s c sl m al nl cl ak nk ck ag ng cg] (Ret (.bool true) [EE s c sl m al nl cl ak nk ck ag ng cg]):=by
 exact cb 24 func135 fun F=>gX [.z [0,1] 0 [0]] (gS [.c [0,1],.c [1,1]] (qG (kV 0 [.ww,.ww,.ww,.ww,.ww,.ww,.e 0,.ww,.ww,.ww,.ww,.e 0,.t true,.ww,.ww,.ww,.ww,.e 0,.ww,.ww,.ww,.ww]) [2] (.e s (.e s (.p ((sl==c.slots)=true) ol (.e s .n)))) .n (gX [] (gJ [0] ⟨rfl,rfl⟩))))
theorem scan_DoneF(c:Cfg)(s m:Nat)(sl:Int)(al ak ag:Option Addr)(nl nk ng cl ck cg:Nat)(hd:sl≠c.slots):
  Ctr prog 135 #[vP s] [EE s c sl m al nl cl ak nk ck ag ng cg] (Ret (.bool false) [EE s c sl m al nl cl ak nk ck ag ng cg]):=by
 exact cb 24 func135 fun F=>gX [.z [0,1] 0 [0]] (gS [.c [0,1],.c [1,1]] (qG (kV 0 [.ww,.ww,.ww,.ww,.ww,.ww,.e 0,.ww,.ww,.ww,.ww,.e 0,.t false,.ww,.ww,.ww,.ww,.ww,.ww,.ww,.ww,.ww]) [2] (.e s (.e s (.p ((sl==c.slots)=false) ol .n))) .n (gX [] (gJ [0] ⟨rfl,rfl⟩))))
theorem scan_DoneG(c:Cfg)(s m:Nat)(sl:Int)(al ak ag:Option Addr)(nl nk ng cl ck cg gv:Nat)(hd:sl=c.slots):
  Ctr prog 135 #[vP s] [EN s c sl m al nl cl ak nk ck ag ng cg (vP gv)] (Ret (.bool false) [EN s c sl m al nl cl ak nk ck ag ng cg (vP gv)]):=by
 exact cb 24 func135 fun F=>gX [.z [0,1] 0 [0]] (gS [.c [0,1],.c [1,1]] (qG (kV 0 [.ww,.ww,.ww,.ww,.ww,.ww,.e 0,.ww,.ww,.ww,.ww,.e 0,.t true,.ww,.ww,.ww,.ww,.e 0,.ww,.ww,.ww,.ww]) [2] (.e s (.e s (.p ((sl==c.slots)=true) ol (.e s .n)))) .n (gX [] (gJ [0] ⟨rfl,rfl⟩))))
theorem scan_Done(c:Cfg)(s:Nat)(S:Sc)(hg:S.give≠none→S.slot=c.slots):
  Ctr prog 135 #[vP s] [.res (ScanR s c S)] (Ret (.bool (Sc.done c S)) [.res (ScanR s c S)]):=by
 refine oC (I:=fun _:ScH=>True) (LL:=scanL s c S) 0 ?_
 rintro h -
 obtain⟨sl,named,left,kept,given,give⟩:=S
 cases give with
 | none=>
  by_cases hd:sl=c.slots
  ·refine cP [0] (scan_DoneT c s h.m sl h.al h.ak h.ag left.length kept.length given.length h.cl h.ck h.cg hd) ?_
   rintro v post ⟨rfl,rfl⟩
   exact⟨_,view_pack (fun _:ScH=>True) (scanL s c ⟨sl,named,left,kept,given,none⟩) h (M:=[]) [4,0,1,2,3] kR trivial,by simp [Sc.done,hd],rfl⟩
  ·refine cP [0] (scan_DoneF c s h.m sl h.al h.ak h.ag left.length kept.length given.length h.cl h.ck h.cg hd) ?_
   rintro v post ⟨rfl,rfl⟩
   exact⟨_,view_pack (fun _:ScH=>True) (scanL s c ⟨sl,named,left,kept,given,none⟩) h (M:=[]) [4,0,1,2,3] kR trivial,by simp [Sc.done,hd],rfl⟩
 | some G=>
  have hd:=hg (by simp)
  refine cP [0] (scan_DoneG c s h.m sl h.al h.ak h.ag left.length kept.length given.length h.cl h.ck h.cg h.gp hd) ?_
  rintro v post ⟨rfl,rfl⟩
  exact⟨_,view_pack (fun _:ScH=>True) (scanL s c ⟨sl,named,left,kept,given,some G⟩) h (M:=[]) [5,0,1,2,3,4] kR trivial,by simp [Sc.done],rfl⟩
end Go.Proofs.YtpcaijopodhdgaaGreatDoor
namespace Go.Proofs.YtpcaijopodhdgaaGreatDoor
open Go.Proofs.Tryz
open Go.Sx
abbrev qbR: List Nat:=[0,0,1,1,1,0,0,1]
abbrev qbS: List Nat:=[0,0,1,1,0,1,1,1,0,0,1]
abbrev qbT: List Nat:=[1,1,1,0,1,1,1,0,0,1]
abbrev qbU: List Nat:=[0,1,0,1,1,0,1,1,1,0,0,1]
abbrev qaH: List Nat:=[0,1,1,1,0,1,1,1,0,0,1]
abbrev qbV: List Nat:=[1,1,1,1,0,1,1,1,0,0,1]
abbrev qaI: List Nat:=[0,1,1,1,1,0,1,1,1,0,0,1]
abbrev qbW: List Nat:=[0,1,1,1,1,0,0,1]
abbrev qbX: List Nat:=[0,0,1,1,1,1,1,0,0,1]
abbrev qbE: List Nat:=[1,0,1,1,1,1,1,0,0,1]
theorem scan_StepA(c:Cfg)(s ba m:Nat)(sl:Int)(named:Int→Option Int)(left kept given:List Int)(al ak ag:Option Addr)(cl ck cg:Nat)(A:Ar)(hc:c.Ok)(hd:sl=c.slots):
  Ctr prog 75 #[vP s,vP ba] [EE s c sl m al left.length cl ak kept.length ck ag given.length cg,.res (IMap m .i64 (Value.int .i64) named),Ec al cl left,Ec ak ck kept,Ec ag cg given,Eb ba A,Ea A] (Ret (.bool (Sc.done c (Sc.step c (⟨sl,named,left,kept,given,none⟩:Sc) A).1)) [.res (ScanR s c ((Sc.step c (⟨sl,named,left,kept,given,none⟩:Sc) A).1)),Eb ba ((Sc.step c (⟨sl,named,left,kept,given,none⟩:Sc) A).2),Ea ((Sc.step c (⟨sl,named,left,kept,given,none⟩:Sc) A).2)]):=by
 refine cb 95 func75 fun F=>gX [.z [0,0,0,1] 1 [0,1,7]] (gS [.o [0,0,0,1] 1,.c [1,0,0,1],.b 0,.c [1,1]] (gC (some 8) [0] call135 (scan_DoneT c s m sl al ak ag left.length kept.length given.length cl ck cg oM) (gX [.z [0,1,1] 1 [93]] (gS [.o [0,1,1] 1,.c [1,1,1]] (gC (some 94) [6] call135 (scan_DoneT c s m sl al ak ag left.length kept.length given.length cl ck cg oM) (gX [] (gW0 (.bool true) [.res (IMap m .i64 (Value.int .i64) named),Ec al cl left,Ec ak ck kept,Ec ag cg given,Eb ba A,Ea A,EE s c sl m al left.length cl ak kept.length ck ag given.length cg] ?_)))))))
 refine ret_view (L':=[Eb ba A,Ea A,.res (ScanR s c (⟨sl,named,left,kept,given,none⟩:Sc))]) (vK (fun _:ScH=>True) (scanL s c (⟨sl,named,left,kept,given,none⟩:Sc)) (⟨m,al,ak,ag,cl,ck,cg,0⟩:ScH) [6,0,1,2,3] trivial) ?_
 have e:Sc.step c (⟨sl,named,left,kept,given,none⟩:Sc) A=((⟨sl,named,left,kept,given,none⟩:Sc),A):=by
  unfold Sc.step; (try unfold Sc.look); dsimp only; (repeat' (first | rw [if_pos (by first | omega | assumption)] | rw [if_neg (by first | omega | assumption)])) <;> rfl
 exact ret_ok (post:=[.res (ScanR s c (⟨sl,named,left,kept,given,none⟩:Sc)),Eb ba A,Ea A]) [2,0,1] kR ⟨(by first | (rw [e]; done) | (rw [e]; rfl) | (rw [e]; simp [Sc.done]; done) | (rw [e]; simp [Sc.done]; omega)),(by first | (rw [e]; done) | (rw [e]; kernel_rfl))⟩
theorem scan_StepB(c:Cfg)(s ba m:Nat)(sl:Int)(named:Int→Option Int)(left kept given:List Int)(al ak ag:Option Addr)(cl ck cg:Nat)(A:Ar)(hc:c.Ok)(hn:A.ws.length=A.n)(hs:0≤A.steps∧A.steps≤1000000000)(hd:0≤sl∧sl<c.slots)(hsz:(A.n:Int)=sizeOfC c)(hws:∀i,0≤A.ws.getD i 0∧A.ws.getD i 0≤18446744073709551615)(hnm:∀k,0≤(named k).getD 0∧(named k).getD 0≤100)(hl:kept.length+left.length≤100∧given.length≤100)(hb:∀b∈left,0≤clsOf c b):
  Ctr prog 75 #[vP s,vP ba] [EE s c sl m al left.length cl ak kept.length ck ag given.length cg,.res (IMap m .i64 (Value.int .i64) named),Ec al cl left,Ec ak ck kept,Ec ag cg given,Eb ba A,Ea A] (Ret (.bool (Sc.done c (Sc.step c (⟨sl,named,left,kept,given,none⟩:Sc) A).1)) [.res (ScanR s c ((Sc.step c (⟨sl,named,left,kept,given,none⟩:Sc) A).1)),Eb ba ((Sc.step c (⟨sl,named,left,kept,given,none⟩:Sc) A).2),Ea ((Sc.step c (⟨sl,named,left,kept,given,none⟩:Sc) A).2)]):=by
 refine cb 95 func75 fun F=>gX [.z [0,0,0,1] 1 [0,1,7]] (gS [.o [0,0,0,1] 1,.c [1,0,0,1],.b 0,.c [1,1]] (gC (some 8) [0] call135 (scan_DoneF c s m sl al ak ag left.length kept.length given.length cl ck cg oM) (gX [.z [0,1,1,0,0,1] 0 [0,1]] (gS [.c [0,1,1,0,0,1],.c [1,1,1,0,0,1],.b 0,.c [1,1]] (qG (kV 0 [.ww,.ww,.ww,.e 6,.ww,.ww,.ww,.ww,.e 6,.t true,.ww]) [0,1,9] (.e s (.e s (.p ((decide (sl<c.slots))=true) ol .n))) .n (gX [.z qbR 0 [0,1]] (gS [.c qbR,.c [1,0,1,1,1,0,0,1],.b 0,.c [1,1]] ?_)))))))
 refine tC (some 30) (kV 0 [.ww,.ww,.ww,.ww,.e 6,.ww,.ww,.ww,.e 6,.q (vI (slotAt c sl))]) 10 (kV 11 [.ww]) [4,5] [0,5] call116 (arena_Load ba A (slotAt c sl) oM (by have:=slotAt_ok hc hd; rw [hsz]; omega) oM) (.e s (.e s .n)) (.c call111 (qR [] (plan_Slot c sl oM)) .n) ?_
 rintro v post ⟨rfl,rfl⟩
 refine tN .n ?_
 refine gX [.e 4,.n,.e 4,.z qbS 1 [0,5,38]] (gQ s (gO (InK .i64 (sl+1)) og (gQ s (gS [.o qbS 1,.c [1,0,1,1,0,1,1,1,0,0,1],.c qbT,.b 0,.c [1,1]] (gC (some 39) [] call136 (slots_Client (A.ws.getD (slotAt c sl).toNat 0) (hws _)) (gX [.sp [40] [.z qbU 0 [0,5]] [.z qaH 0 [0]]] (gB (decide ((hi32 (A.ws.getD (slotAt c sl).toNat 0)-1)≥0)) (fun h_1 => ?_) (fun h_1 => ?_))))))))
 ·replace h_1:=decT h_1
  refine gS [.c qbU,.c qbT,.b 0,.c [1,1]] (zG (zN [0,1,2,3,4,5,6,7] (kV 0 [.w,.w,.w,.e 4,.w,.q (vI (lo32 (A.ws.getD (slotAt c sl).toNat 0))),.get (vI ((named (lo32 (A.ws.getD (slotAt c sl).toNat 0))).getD 0)),.h (.n)]) [0,5,41,42,43,44,45,46,47,48] [8] (.e s (.q (lQ [] call137 (slots_Block (A.ws.getD (slotAt c sl).toNat 0) (hws _))) (.p (LawQ prog F [.res (IMap m .i64 (Value.int .i64) named),Ec al cl left,Ec ak ck kept,Ec ag cg given,EE s c (sl+1) m al left.length cl ak kept.length ck ag given.length cg,Eb ba (A.load (slotAt c sl)),Ea (A.load (slotAt c sl))] (vI ((named (lo32 (A.ws.getD (slotAt c sl).toNat 0))).getD 0)) getO (.map (some m),vI (lo32 (A.ws.getD (slotAt c sl).toNat 0)),false,.i64,some (Value.int .i64 0))) (fun _=>(R_get 0 (enc:=Value.int .i64) (m:=named) kR (lo32 (A.ws.getD (slotAt c sl).toNat 0)) false 0)) (.p (InK .i64 (((named (lo32 (A.ws.getD (slotAt c sl).toNat 0))).getD 0)+1)) (by have h1:=hnm (lo32 (A.ws.getD (slotAt c sl).toNat 0)); simp only [InK]; omega) .n)))) ⟨?_,trivial⟩))
  refine zB none (setO prog _) (some (.map (some m),vI (lo32 (A.ws.getD (slotAt c sl).toNat 0)),vI (((named (lo32 (A.ws.getD (slotAt c sl).toNat 0))).getD 0)+1),.i64)) (R_set 0 (enc:=Value.int .i64) (m:=named) kR (lo32 (A.ws.getD (slotAt c sl).toNat 0)) (((named (lo32 (A.ws.getD (slotAt c sl).toNat 0))).getD 0)+1)) ?_
  rintro v L2 ⟨rfl,rfl⟩
  refine zE [] [] [0] .n (gX [.z qaH 0 [0]] (gS [.c qaH,.c qbV,.b 0,.c [1,1]] (qG (kV 0 [.ww,.ww,.ww,.e 4,.ww,.ww,.ww,.ww,.e 4,.ww]) [0,58] (.e s (.e s .n)) .n (gX [.sp [58] [.z qaI 1 [0,59]] [.z [0,1,1] 1 [93]]] (gB ((sl+1)==c.slots) (fun h_2 => ?_) (fun h_2 => ?_))))))
  ·replace h_2:=beqT h_2
   refine gS [.o qaI 1,.b 0,.c [1,1]] (gC (some 60) [4,0,1,2,3] call138 (scan_next c s m (sl+1) (updM named (lo32 (A.ws.getD (slotAt c sl).toNat 0)) (((named (lo32 (A.ws.getD (slotAt c sl).toNat 0))).getD 0)+1)) left kept given al ak ag cl ck cg (.pointer none) oM hl.1 oM) (gX [.z [0,1,1] 1 [93]] (gS [.o [0,1,1] 1,.c [1,1,1]] (gC (some 94) [2] call135 (scan_Done c s (Sc.next c (⟨(sl+1),(updM named (lo32 (A.ws.getD (slotAt c sl).toNat 0)) (((named (lo32 (A.ws.getD (slotAt c sl).toNat 0))).getD 0)+1)),left,kept,given,none⟩:Sc)) (fun _=>(by show sl+1=c.slots; omega))) (gX [] (gW0 (.bool (Sc.done c (Sc.next c (⟨(sl+1),(updM named (lo32 (A.ws.getD (slotAt c sl).toNat 0)) (((named (lo32 (A.ws.getD (slotAt c sl).toNat 0))).getD 0)+1)),left,kept,given,none⟩:Sc)))) [Eb ba (A.load (slotAt c sl)),Ea (A.load (slotAt c sl)),.res (ScanR s c (Sc.next c (⟨(sl+1),(updM named (lo32 (A.ws.getD (slotAt c sl).toNat 0)) (((named (lo32 (A.ws.getD (slotAt c sl).toNat 0))).getD 0)+1)),left,kept,given,none⟩:Sc)))] ?_))))))
   have e:Sc.step c (⟨sl,named,left,kept,given,none⟩:Sc) A=((Sc.next c (⟨(sl+1),(updM named (lo32 (A.ws.getD (slotAt c sl).toNat 0)) (((named (lo32 (A.ws.getD (slotAt c sl).toNat 0))).getD 0)+1)),left,kept,given,none⟩:Sc)),(A.load (slotAt c sl))):=by
    unfold Sc.step; (try unfold Sc.look); dsimp only; (repeat' (first | rw [if_pos (by first | omega | assumption)] | rw [if_neg (by first | omega | assumption)])) <;> rfl
   exact ret_ok (post:=[.res (ScanR s c (Sc.next c (⟨(sl+1),(updM named (lo32 (A.ws.getD (slotAt c sl).toNat 0)) (((named (lo32 (A.ws.getD (slotAt c sl).toNat 0))).getD 0)+1)),left,kept,given,none⟩:Sc))),Eb ba (A.load (slotAt c sl)),Ea (A.load (slotAt c sl))]) [2,0,1] kR ⟨(by first | (rw [e]; done) | (rw [e]; rfl) | (rw [e]; simp [Sc.done]; done) | (rw [e]; simp [Sc.done]; omega)),(by first | (rw [e]; done) | (rw [e]; kernel_rfl))⟩
  ·replace h_2:=beqF h_2
   refine gS [.o [0,1,1] 1,.c [1,1,1]] (gC (some 94) [4] call135 (scan_DoneF c s m (sl+1) al ak ag left.length kept.length given.length cl ck cg oM) (gX [] (gW0 (.bool false) [.res (IMap m .i64 (Value.int .i64) (updM named (lo32 (A.ws.getD (slotAt c sl).toNat 0)) (((named (lo32 (A.ws.getD (slotAt c sl).toNat 0))).getD 0)+1))),Ec al cl left,Ec ak ck kept,Ec ag cg given,Eb ba (A.load (slotAt c sl)),Ea (A.load (slotAt c sl)),EE s c (sl+1) m al left.length cl ak kept.length ck ag given.length cg] ?_)))
   refine ret_view (L':=[Eb ba (A.load (slotAt c sl)),Ea (A.load (slotAt c sl)),.res (ScanR s c (⟨(sl+1),(updM named (lo32 (A.ws.getD (slotAt c sl).toNat 0)) (((named (lo32 (A.ws.getD (slotAt c sl).toNat 0))).getD 0)+1)),left,kept,given,none⟩:Sc))]) (vK (fun _:ScH=>True) (scanL s c (⟨(sl+1),(updM named (lo32 (A.ws.getD (slotAt c sl).toNat 0)) (((named (lo32 (A.ws.getD (slotAt c sl).toNat 0))).getD 0)+1)),left,kept,given,none⟩:Sc)) (⟨m,al,ak,ag,cl,ck,cg,0⟩:ScH) [6,0,1,2,3] trivial) ?_
   have e:Sc.step c (⟨sl,named,left,kept,given,none⟩:Sc) A=((⟨(sl+1),(updM named (lo32 (A.ws.getD (slotAt c sl).toNat 0)) (((named (lo32 (A.ws.getD (slotAt c sl).toNat 0))).getD 0)+1)),left,kept,given,none⟩:Sc),(A.load (slotAt c sl))):=by
    unfold Sc.step; (try unfold Sc.look); dsimp only; (repeat' (first | rw [if_pos (by first | omega | assumption)] | rw [if_neg (by first | omega | assumption)])) <;> rfl
   exact ret_ok (post:=[.res (ScanR s c (⟨(sl+1),(updM named (lo32 (A.ws.getD (slotAt c sl).toNat 0)) (((named (lo32 (A.ws.getD (slotAt c sl).toNat 0))).getD 0)+1)),left,kept,given,none⟩:Sc)),Eb ba (A.load (slotAt c sl)),Ea (A.load (slotAt c sl))]) [2,0,1] kR ⟨(by first | (rw [e]; done) | (rw [e]; rfl) | (rw [e]; simp [Sc.done]; done) | (rw [e]; simp [Sc.done]; omega)),(by first | (rw [e]; done) | (rw [e]; kernel_rfl))⟩
 ·replace h_1:=decF h_1
  refine gS [.c qaH,.c qbV,.b 0,.c [1,1]] (qG (kV 0 [.ww,.ww,.ww,.e 4,.ww,.ww,.ww,.ww,.e 4,.ww]) [0,58] (.e s (.e s .n)) .n (gX [.sp [58] [.z qaI 1 [0,59]] [.z [0,1,1] 1 [93]]] (gB ((sl+1)==c.slots) (fun h_3 => ?_) (fun h_3 => ?_))))
  ·replace h_3:=beqT h_3
   refine gS [.o qaI 1,.b 0,.c [1,1]] (gC (some 60) [4,0,1,2,3] call138 (scan_next c s m (sl+1) named left kept given al ak ag cl ck cg (.pointer none) oM hl.1 oM) (gX [.z [0,1,1] 1 [93]] (gS [.o [0,1,1] 1,.c [1,1,1]] (gC (some 94) [2] call135 (scan_Done c s (Sc.next c (⟨(sl+1),named,left,kept,given,none⟩:Sc)) (fun _=>(by show sl+1=c.slots; omega))) (gX [] (gW0 (.bool (Sc.done c (Sc.next c (⟨(sl+1),named,left,kept,given,none⟩:Sc)))) [Eb ba (A.load (slotAt c sl)),Ea (A.load (slotAt c sl)),.res (ScanR s c (Sc.next c (⟨(sl+1),named,left,kept,given,none⟩:Sc)))] ?_))))))
   have e:Sc.step c (⟨sl,named,left,kept,given,none⟩:Sc) A=((Sc.next c (⟨(sl+1),named,left,kept,given,none⟩:Sc)),(A.load (slotAt c sl))):=by
    unfold Sc.step; (try unfold Sc.look); dsimp only; (repeat' (first | rw [if_pos (by first | omega | assumption)] | rw [if_neg (by first | omega | assumption)])) <;> rfl
   exact ret_ok (post:=[.res (ScanR s c (Sc.next c (⟨(sl+1),named,left,kept,given,none⟩:Sc))),Eb ba (A.load (slotAt c sl)),Ea (A.load (slotAt c sl))]) [2,0,1] kR ⟨(by first | (rw [e]; done) | (rw [e]; rfl) | (rw [e]; simp [Sc.done]; done) | (rw [e]; simp [Sc.done]; omega)),(by first | (rw [e]; done) | (rw [e]; kernel_rfl))⟩
  ·replace h_3:=beqF h_3
   refine gS [.o [0,1,1] 1,.c [1,1,1]] (gC (some 94) [4] call135 (scan_DoneF c s m (sl+1) al ak ag left.length kept.length given.length cl ck cg oM) (gX [] (gW0 (.bool false) [.res (IMap m .i64 (Value.int .i64) named),Ec al cl left,Ec ak ck kept,Ec ag cg given,Eb ba (A.load (slotAt c sl)),Ea (A.load (slotAt c sl)),EE s c (sl+1) m al left.length cl ak kept.length ck ag given.length cg] ?_)))
   refine ret_view (L':=[Eb ba (A.load (slotAt c sl)),Ea (A.load (slotAt c sl)),.res (ScanR s c (⟨(sl+1),named,left,kept,given,none⟩:Sc))]) (vK (fun _:ScH=>True) (scanL s c (⟨(sl+1),named,left,kept,given,none⟩:Sc)) (⟨m,al,ak,ag,cl,ck,cg,0⟩:ScH) [6,0,1,2,3] trivial) ?_
   have e:Sc.step c (⟨sl,named,left,kept,given,none⟩:Sc) A=((⟨(sl+1),named,left,kept,given,none⟩:Sc),(A.load (slotAt c sl))):=by
    unfold Sc.step; (try unfold Sc.look); dsimp only; (repeat' (first | rw [if_pos (by first | omega | assumption)] | rw [if_neg (by first | omega | assumption)])) <;> rfl
   exact ret_ok (post:=[.res (ScanR s c (⟨(sl+1),named,left,kept,given,none⟩:Sc)),Eb ba (A.load (slotAt c sl)),Ea (A.load (slotAt c sl))]) [2,0,1] kR ⟨(by first | (rw [e]; done) | (rw [e]; rfl) | (rw [e]; simp [Sc.done]; done) | (rw [e]; simp [Sc.done]; omega)),(by first | (rw [e]; done) | (rw [e]; kernel_rfl))⟩
theorem scan_StepC(c:Cfg)(s ba m:Nat)(sl:Int)(named:Int→Option Int)(left kept given:List Int)(al ak ag:Option Addr)(cl ck cg:Nat)(A:Ar)(gv:Nat)(G:Gv)(hc:c.Ok)(hn:A.ws.length=A.n)(hs:0≤A.steps∧A.steps≤1000000000)(hd:sl=c.slots)(hG:Gv.Ok c A.n G)(hll:0<left.length)(hl:kept.length+left.length≤100∧given.length≤100)(hb:∀b∈left,0≤clsOf c b):
  Ctr prog 75 #[vP s,vP ba] [EN s c sl m al left.length cl ak kept.length ck ag given.length cg (vP gv),.res (IMap m .i64 (Value.int .i64) named),Ec al cl left,Ec ak ck kept,Ec ag cg given,Ey gv c G (nxV gv G.ph),Eb ba A,Ea A] (Ret (.bool (Sc.done c (Sc.step c (⟨sl,named,left,kept,given,some G⟩:Sc) A).1)) [.res (ScanR s c ((Sc.step c (⟨sl,named,left,kept,given,some G⟩:Sc) A).1)),Eb ba ((Sc.step c (⟨sl,named,left,kept,given,some G⟩:Sc) A).2),Ea ((Sc.step c (⟨sl,named,left,kept,given,some G⟩:Sc) A).2)]):=by
 refine cb 95 func75 fun F=>gX [.z [0,0,0,1] 1 [0,1,7]] (gS [.o [0,0,0,1] 1,.c [1,0,0,1],.b 0,.c [1,1]] (gC (some 8) [0] call135 (scan_DoneG c s m sl al ak ag left.length kept.length given.length cl ck cg gv oM) (gX [.z [0,1,1,0,0,1] 0 [0,1]] (gS [.c [0,1,1,0,0,1],.c [1,1,1,0,0,1],.b 0,.c [1,1]] (qG (kV 0 [.ww,.ww,.ww,.e 7,.ww,.ww,.ww,.ww,.e 7,.t false,.ww]) [0,1,9] (.e s (.e s (.p ((decide (sl<c.slots))=false) ol .n))) .n (gX [.e 7,.z qbW 5 [0,65,66]] (gQ s (gS [.o qbW 5,.c [1,1,1,1,1,0,0,1],.b 0,.c [1,1]] (gC (some 67) [4,5,6] call139 (give_Step c gv ba G A oM oM oM hG) (gX [.sp [61,67] [.z qbX 0 [0]] [.z [0,1,1] 1 [93]]] (gQ ((G.step c A).1.ph==0) (gB ((G.step c A).1.ph==0) (fun h_1 => ?_) (fun h_1 => ?_)))))))))))))
 ·replace h_1:=beqT h_1
  refine gS [.c qbX,.c qbE,.b 0,.c [1,1]] (zG (zN [0,1,2,3,4,5,6,7,8,9,10,11,14,15,16,17,18] (kV 0 [.w,.w,.w,.w,.w,.e 4,.w,.w,.w,.e 4,.h (.s 1),.h (.j 1 0)]++kV 14 [.w,.w,.w,.e 4,.cut (.slice (cutA al cl 1 1) ((left.drop 1).length) (cl-1))]) [0,68,69,70,71,72,73,74,75,76,77,78,79,82,83,84,85,86] [12] (.e s (.e s (.p (al=al∧left.length=left.length) ⟨rfl,oe⟩ (.p ((0:Int)≤0∧0<(left.length:Int)) oW (.e (slAt al 0 1) (.p (0<left.length) oW (.e s (.p (LawQ prog F [.res (IMap m .i64 (Value.int .i64) named),Ec al cl left,Ec ak ck kept,Ec ag cg given,EN s c sl m al left.length cl ak kept.length ck ag given.length cg (vP gv),Ey gv c ((G.step c A).1) (nxV gv ((G.step c A).1).ph),Eb ba ((G.step c A).2),Ea ((G.step c A).2)] (.slice (cutA al cl 1 1) ((left.drop 1).length) (cl-1)) cutO (.slice al (left).length cl,some (vI 1),none,1)) (fun _=>(R_cutV 1 (a:=al) (c:=cl) (enc:=encI .i64) (d:=0) (sz:=1) (xs:=left) (te:=3) kR .i64 1 ⟨oW,oW⟩)) .n)))))))) ⟨?_,trivial⟩))
  refine zX .w (sN fun b_12_1=>(sV ?_))
  refine zN [] (kV 0 [.w,.w,.w,.w,.w,.e 4]++kV 14 [.w,.w,.w,.e 4,.cut (.slice (cutA al cl 1 1) ((left.drop 1).length) (cl-1))]) [80,0,68,69,70,71,72,73,82,83,84,85,86] [13] (.e s (.e s (.p (LawQ prog F [.res (IMap m .i64 (Value.int .i64) named),Ec al cl left,Ec ak ck kept,Ec ag cg given,EN s c sl m al left.length cl ak kept.length ck ag given.length cg (vP gv),Ey gv c ((G.step c A).1) (nxV gv ((G.step c A).1).ph),Eb ba ((G.step c A).2),Ea ((G.step c A).2),.pts b_12_1 [vI (left.getD 0 0)] 3] (.slice (cutA al cl 1 1) ((left.drop 1).length) (cl-1)) cutO (.slice al (left).length cl,some (vI 1),none,1)) (fun _=>(R_cutV 1 (a:=al) (c:=cl) (enc:=encI .i64) (d:=0) (sz:=1) (xs:=left) (te:=3) kR .i64 1 ⟨oW,oW⟩)) .n))) ⟨?_,trivial⟩
  refine zB (some 81) (appO prog _) (some (.slice ag (given).length cg,.slice (some ⟨b_12_1,0,none⟩) 1 1,(3,1,8))) (R_append 3 (a:=ag) (c:=cg) (enc:=encI .i64) (d:=0) (sz:=1) (xs:=given) (te:=3) kR (.slice (some ⟨b_12_1,0,none⟩) 1 1) [(left.getD 0 0)] (src_pts (i:=8) (t:=3) kR) (oneI _) 8 oW oW) ?_
  rintro v L2 ⟨a_13_1,c_13_1,rfl,rfl⟩
  refine zN [19,20] (kV 0 [.w,.w]++kV 14 [.w,.w,.w,.e 4,.cut (.slice (cutA al cl 1 1) ((left.drop 1).length) (cl-1)),.w,.w]) [81,0,68,69,82,83,84,85,86,87,88] [21] (.e s (.p (LawQ prog F [.res (IMap m .i64 (Value.int .i64) named),Ec al cl left,Ec ak ck kept,Ec a_13_1 c_13_1 (given++[(left.getD 0 0)]),EN s c sl m al left.length cl ak kept.length ck ag given.length cg (vP gv),Ey gv c ((G.step c A).1) (nxV gv ((G.step c A).1).ph),Eb ba ((G.step c A).2),Ea ((G.step c A).2),.pts b_12_1 [vI (left.getD 0 0)] 3] (.slice (cutA al cl 1 1) ((left.drop 1).length) (cl-1)) cutO (.slice al (left).length cl,some (vI 1),none,1)) (fun _=>(R_cutV 1 (a:=al) (c:=cl) (enc:=encI .i64) (d:=0) (sz:=1) (xs:=left) (te:=3) kR .i64 1 ⟨oW,oW⟩)) .n)) ⟨?_,trivial⟩
  refine zX (.e 4) (sQ s (sK ?_))
  refine zN [22,23] [(1,.w),(18,.cut (.slice (cutA al cl 1 1) ((left.drop 1).length) (cl-1))),(22,.w),(23,.w)] [0,85,69,86,89,90] [24] (.p (LawQ prog F [.res (IMap m .i64 (Value.int .i64) named),Ec al cl left,Ec ak ck kept,Ec a_13_1 c_13_1 (given++[(left.getD 0 0)]),EN s c sl m al left.length cl ak kept.length ck a_13_1 ((given++[(left.getD 0 0)]).length) c_13_1 (vP gv),Ey gv c ((G.step c A).1) (nxV gv ((G.step c A).1).ph),Eb ba ((G.step c A).2),Ea ((G.step c A).2),.pts b_12_1 [vI (left.getD 0 0)] 3] (.slice (cutA al cl 1 1) ((left.drop 1).length) (cl-1)) cutO (.slice al (left).length cl,some (vI 1),none,1)) (fun _=>(R_cutV 1 (a:=al) (c:=cl) (enc:=encI .i64) (d:=0) (sz:=1) (xs:=left) (te:=3) kR .i64 1 ⟨oW,oW⟩)) .n) ⟨?_,trivial⟩
  refine zX (.e 4) (sQ s (sK ?_))
  refine zE [] [] [0] .n ?_
  refine go_view (view_cut 1 (a:=al) (c:=cl) (enc:=encI .i64) (d:=0) (sz:=1) (xs:=left) (te:=3) kR 1 oW) ?_
  refine gX [.z qbE 1 [0,91]] (gS [.o qbE 1,.b 0,.c [1,1]] (gC (some 92) [4,0,1,2,3] call138 (scan_next c s m sl named (left.drop 1) kept (given++[(left.getD 0 0)]) (cutA al cl 1 1) ak a_13_1 (cl-1) ck c_13_1 (vP gv) oM om (fun b h=>hb b (List.mem_of_mem_drop h))) (gX [.z [0,1,1] 1 [93]] (gS [.o [0,1,1] 1,.c [1,1,1]] (gC (some 94) [4] call135 (scan_Done c s (Sc.next c (⟨sl,named,(left.drop 1),kept,(given++[(left.getD 0 0)]),none⟩:Sc)) (fun _=>(by show sl=c.slots; omega))) (gX [] (gW0 (.bool (Sc.done c (Sc.next c (⟨sl,named,(left.drop 1),kept,(given++[(left.getD 0 0)]),none⟩:Sc)))) [Ey gv c ((G.step c A).1) (nxV gv ((G.step c A).1).ph),Eb ba ((G.step c A).2),Ea ((G.step c A).2),.pts b_12_1 [vI (left.getD 0 0)] 3,.res (ScanR s c (Sc.next c (⟨sl,named,(left.drop 1),kept,(given++[(left.getD 0 0)]),none⟩:Sc)))] ?_)))))))
  have e:Sc.step c (⟨sl,named,left,kept,given,some G⟩:Sc) A=((Sc.next c (⟨sl,named,(left.drop 1),kept,(given++[(left.getD 0 0)]),none⟩:Sc)),(G.step c A).2):=by
   unfold Sc.step; (try unfold Sc.look); dsimp only; (repeat' (first | rw [if_pos (by first | omega | assumption)] | rw [if_neg (by first | omega | assumption)])) <;> rfl
  exact ret_ok (post:=[.res (ScanR s c (Sc.next c (⟨sl,named,(left.drop 1),kept,(given++[(left.getD 0 0)]),none⟩:Sc))),Eb ba ((G.step c A).2),Ea ((G.step c A).2)]) [4,1,2] kR ⟨(by first | (rw [e]; done) | (rw [e]; rfl) | (rw [e]; simp [Sc.done]; done) | (rw [e]; simp [Sc.done]; omega)),(by first | (rw [e]; done) | (rw [e]; kernel_rfl))⟩
 ·replace h_1:=beqF h_1
  refine gS [.o [0,1,1] 1,.c [1,1,1]] (gC (some 94) [4] call135 (scan_DoneG c s m sl al ak ag left.length kept.length given.length cl ck cg gv oM) (gX [] (gW0 (.bool false) [.res (IMap m .i64 (Value.int .i64) named),Ec al cl left,Ec ak ck kept,Ec ag cg given,Ey gv c ((G.step c A).1) (nxV gv ((G.step c A).1).ph),Eb ba ((G.step c A).2),Ea ((G.step c A).2),EN s c sl m al left.length cl ak kept.length ck ag given.length cg (vP gv)] ?_)))
  refine ret_view (L':=[Eb ba ((G.step c A).2),Ea ((G.step c A).2),.res (ScanR s c (⟨sl,named,left,kept,given,(some (G.step c A).1)⟩:Sc))]) (vK (fun _:ScH=>True) (scanL s c (⟨sl,named,left,kept,given,(some (G.step c A).1)⟩:Sc)) (⟨m,al,ak,ag,cl,ck,cg,gv⟩:ScH) [7,0,1,2,3,4] trivial) ?_
  have e:Sc.step c (⟨sl,named,left,kept,given,some G⟩:Sc) A=((⟨sl,named,left,kept,given,(some (G.step c A).1)⟩:Sc),(G.step c A).2):=by
   unfold Sc.step; (try unfold Sc.look); dsimp only; (repeat' (first | rw [if_pos (by first | omega | assumption)] | rw [if_neg (by first | omega | assumption)])) <;> rfl
  exact ret_ok (post:=[.res (ScanR s c (⟨sl,named,left,kept,given,(some (G.step c A).1)⟩:Sc)),Eb ba ((G.step c A).2),Ea ((G.step c A).2)]) [2,0,1] kR ⟨(by first | (rw [e]; done) | (rw [e]; rfl) | (rw [e]; simp [Sc.done]; done) | (rw [e]; simp [Sc.done]; omega)),(by first | (rw [e]; done) | (rw [e]; kernel_rfl))⟩
end Go.Proofs.YtpcaijopodhdgaaGreatDoor
namespace Go.Proofs.YtpcaijopodhdgaaGreatDoor
open Go.Proofs.Tryz
open Go.Sx
theorem scan_Step(c:Cfg)(s ba:Nat)(S:Sc)(A:Ar)(hc:c.Ok)(hS:S.Ok c A.n)(hA:A.Ok c):
  Ctr prog 75 #[vP s,vP ba] [.res (ScanR s c S),Eb ba A,Ea A] (Ret (.bool (Sc.done c (S.step c A).1)) [.res (ScanR s c ((S.step c A).1)),Eb ba ((S.step c A).2),Ea ((S.step c A).2)]):=by
 obtain⟨sl,named,left,kept,given,give⟩:=S
 obtain⟨h1,h2,h3,h4,h5,h6⟩:=hS
 obtain⟨g1,g2,g3,g4⟩:=hA
 simp only at h1 h2 h3 h4 h5 h6
 have hc':=hc
 simp only [Cfg.Ok] at hc'
 refine oC (I:=fun _:ScH=>True) (LL:=scanL s c ⟨sl,named,left,kept,given,give⟩) 0 ?_
 rintro h -
 cases give with
 | none=>
  by_cases hd:sl=c.slots
  ·exact ctr_pre [2,3,4,5,6,0,1] kR (scan_StepA c s ba h.m sl named left kept given h.al h.ak h.ag h.cl h.ck h.cg A hc hd)
  ·exact ctr_pre [2,3,4,5,6,0,1] kR (scan_StepB c s ba h.m sl named left kept given h.al h.ak h.ag h.cl h.ck h.cg A hc g1 g4 oa g2 g3 (fun k=>by have:=h5 k; omega) h3 h4)
 | some G=>
  obtain⟨q1,q2⟩:=h6 G rfl
  exact ctr_pre [2,3,4,5,6,7,0,1] kR (scan_StepC c s ba h.m sl named left kept given h.al h.ak h.ag h.cl h.ck h.cg A h.gp G hc g1 g4 (h2 (by simp)) q1 q2 h3 h4)
end Go.Proofs.YtpcaijopodhdgaaGreatDoor
namespace Go.Proofs.YtpcaijopodhdgaaGreatDoor
open Go.Proofs.Tryz
open Go.Sx
abbrev qi: List Nat:=[1,0,0,1,1,0,0,1,0,1,1,1]
abbrev qF: List Nat:=[1,1,1,0,0,1,0,1,1,1]
abbrev qm: List Nat:=[0,1,0,1,0,0,1,1,0,0,1,0,1,1,1,1,1,1,1]
abbrev qJ: List Nat:=[0,1,0,1,1,1,1,1,1,1,1]
abbrev qaf: List Nat:=[1,1,0,0,1,1,0,0,1,0,1,1,1,1,1,1,1]
abbrev qag: List Nat:=[1,1,1,0,0,1,0,1,1,1,1,1,1,1]
abbrev qah: List Nat:=[0,1,0,1,1,1,1,1,1,1]
abbrev qai: List Nat:=[1,1,1,1,1,1,1,1]
abbrev qe: List Nat:=[1,1,1,1,1,1,1,1,1]
abbrev qK: List Nat:=[0,0,0,0,1,0,1,1,1,1,1,1,1,1]
abbrev qaJ: List Nat:=[1,0,0,0,1,0,1,1,1,1,1,1,1,1]
abbrev qaK: List Nat:=[1,0,0,1,0,1,1,1,1,1,1,1,1]
abbrev qL: List Nat:=[0,0,0,1,0,0,1,0,1,1,1,1,1,1,1,1]
abbrev qaL: List Nat:=[1,0,0,1,0,0,1,0,1,1,1,1,1,1,1,1]
abbrev qn: List Nat:=[1,1,0,0,1,0,1,1,1,1,1,1,1,1]
abbrev ql: List Nat:=[0,1,0,0,1,0,0,1,0,1,1,1,1,1,1,1,1]
theorem bits_Set(w_ at_ n v_:Int)(h:1≤n∧n≤64∧0≤at_∧at_+n≤64)(hv:bAndNot .u64 v_ (bShr .u64 18446744073709551615 (64-n))=0):
  Ctr prog 166 #[vU w_,vI at_,vI n,vU v_] [] (Ret (.tuple #[vU (setW w_ at_ n v_),.bool true]) []):=by
 exact cb 32 func166 fun F=>gX [.z [0,0,1] 2 [0,1,2,3,10,11]] (gS [.o [0,0,1] 2,.c [1,0,1],.c [1,1]] (gC (some 12) [] call190 (bits_may at_ n oM) (gX [.z [0,0,1] 7 [0,1,2,3,14,15,16]] (gS [.o [0,0,1] 7,.c [1,0,1],.c [1,1]] (gC (some 17) [] call191 (bits_all n oa) (gX [.sp [20,19] [.dead] [.z [0,1,1] 0 [0,1,2,3]]] (gQ ((bAndNot .u64 v_ (bShr .u64 18446744073709551615 (64-n))) != 0) (gF ((bAndNot .u64 v_ (bShr .u64 18446744073709551615 (64-n))) != 0) (by rw [hv]; rfl) (gS [.c [0,1,1],.c [1,1,1]] (qG (kV 0 [.ww,.ww,.q (vU (bShr .u64 18446744073709551615 (64-n))),.ww,.h (.n),.ww,.ww,.ww,.h (.n),.ww,.ww,.ww]) [8,9] (.p ((0:Int)≤at_) oW (.p ((0:Int)≤at_) oW .n)) (.c call191 (qR [] (bits_all n oa)) .n) (gX [] (gR (.tuple #[vU (bOr .u64 (bAndNot .u64 w_ (bShl .u64 (bShr .u64 18446744073709551615 (64-n)) at_)) (bShl .u64 v_ at_)),.bool true]) [] ⟨rfl,rfl⟩))))))))))))
theorem plan_Pack(c:Cfg)(hc:c.Ok):
  Ctr prog 120 #[cfgV c] [] (Ret (vU (packW c)) []):=by
 refine cb 27 func120 fun F=>gX [.e 0,.z [0,0,1,1] 1 [1,3,6]] (gN fun b_1=>gQ b_1 (gS [.o [0,0,1,1] 1,.c [1,0,1,1],.c [1,1,1]] (gC (some 7) [] call127 (plan_right c oM) (gX [.e 0,.z [0,0,1,1,1] 1 [3,10]] (gQ b_1 (gS [.o [0,0,1,1,1] 1,.c [1,0,1,1,1],.c [1,1,1,1]] (gC (some 11) [] call165 (plan_parts c) (gX [.u,.w,.w,.z qi 5 [11,12,17,19,21]] (gS [.o qi 5,.b 1,.c qF,.r [0,1,0,1,1,1],.b 0,.c [1,1,1,1]] (gC (some 22) [] call166 (bits_Set 0 0 7 (IntKind.u64.wrap c.topics) oa (part_fits (by simp only [Cfg.Ok] at hc; omega))) (gX [.w,.u,.w,.w,.z qi 5 [11,12,17,19,21]] (gS [.o qi 5,.b 1,.c qF,.r [0,1,0,1,1,1],.b 0,.c [1,1,1,1]] (gC (some 22) [] call166 (bits_Set (setW 0 0 7 (IntKind.u64.wrap c.topics)) 7 7 (IntKind.u64.wrap c.small) oa (part_fits (by simp only [Cfg.Ok] at hc; omega))) (gX [.w,.u,.w,.w,.z qi 5 [11,12,17,19,21]] (gS [.o qi 5,.b 1,.c qF,.r [0,1,0,1,1,1],.b 0,.c [1,1,1,1]] ?_)))))))))))))))
 refine gC (some 22) [] call166 (bits_Set (setW (setW 0 0 7 (IntKind.u64.wrap c.topics)) 7 7 (IntKind.u64.wrap c.small)) 14 7 (IntKind.u64.wrap c.slots) oa (part_fits (by simp only [Cfg.Ok] at hc; omega))) (gX [.w,.u,.w,.w,.z qi 5 [11,12,17,19,21]] (gS [.o qi 5,.b 1,.c qF,.r [0,1,0,1,1,1],.b 0,.c [1,1,1,1]] (gC (some 22) [] call166 (bits_Set (setW (setW (setW 0 0 7 (IntKind.u64.wrap c.topics)) 7 7 (IntKind.u64.wrap c.small)) 14 7 (IntKind.u64.wrap c.slots)) 21 7 (IntKind.u64.wrap c.clients) oa (part_fits (by simp only [Cfg.Ok] at hc; omega))) (gX [.w,.u,.w,.w,.z qi 5 [11,12,17,19,21]] (gS [.o qi 5,.b 1,.c qF,.r [0,1,0,1,1,1],.b 0,.c [1,1,1,1]] (gC (some 22) [] call166 (bits_Set (setW (setW (setW (setW 0 0 7 (IntKind.u64.wrap c.topics)) 7 7 (IntKind.u64.wrap c.small)) 14 7 (IntKind.u64.wrap c.slots)) 21 7 (IntKind.u64.wrap c.clients)) 28 7 (IntKind.u64.wrap c.retry) oa (part_fits (by simp only [Cfg.Ok] at hc; omega))) (gX [.w,.u,.w,.w,.z qi 5 [11,12,17,19,21]] (gS [.o qi 5,.b 1,.c qF,.r [0,1,0,1,1,1],.b 0,.c [1,1,1,1]] (gC (some 22) [] call166 (bits_Set (setW (setW (setW (setW (setW 0 0 7 (IntKind.u64.wrap c.topics)) 7 7 (IntKind.u64.wrap c.small)) 14 7 (IntKind.u64.wrap c.slots)) 21 7 (IntKind.u64.wrap c.clients)) 28 7 (IntKind.u64.wrap c.retry)) 35 7 (IntKind.u64.wrap c.s0) oa (part_fits (by simp only [Cfg.Ok] at hc; omega))) (gX [.w,.u,.w,.w,.z qi 5 [11,12,17,19,21]] (gS [.o qi 5,.b 1,.c qF,.r [0,1,0,1,1,1],.b 0,.c [1,1,1,1]] (gC (some 22) [] call166 (bits_Set (setW (setW (setW (setW (setW (setW 0 0 7 (IntKind.u64.wrap c.topics)) 7 7 (IntKind.u64.wrap c.small)) 14 7 (IntKind.u64.wrap c.slots)) 21 7 (IntKind.u64.wrap c.clients)) 28 7 (IntKind.u64.wrap c.retry)) 35 7 (IntKind.u64.wrap c.s0)) 42 7 (IntKind.u64.wrap c.n0) oa (part_fits (by simp only [Cfg.Ok] at hc; omega))) ?_))))))))))))
 exact gX [.w,.u,.w,.w,.z qi 5 [11,12,17,19,21]] (gS [.o qi 5,.b 1,.c qF,.r [0,1,0,1,1,1],.b 0,.c [1,1,1,1]] (gC (some 22) [] call166 (bits_Set (setW (setW (setW (setW (setW (setW (setW 0 0 7 (IntKind.u64.wrap c.topics)) 7 7 (IntKind.u64.wrap c.small)) 14 7 (IntKind.u64.wrap c.slots)) 21 7 (IntKind.u64.wrap c.clients)) 28 7 (IntKind.u64.wrap c.retry)) 35 7 (IntKind.u64.wrap c.s0)) 42 7 (IntKind.u64.wrap c.n0)) 49 7 (IntKind.u64.wrap c.s1) oa (part_fits (by simp only [Cfg.Ok] at hc; omega))) (gX [.w,.u,.w,.w,.z qi 5 [11,12,17,19,21]] (gS [.o qi 5,.b 1,.c qF,.r [0,1,0,1,1,1],.b 0,.c [1,1,1,1]] (gC (some 22) [] call166 (bits_Set (setW (setW (setW (setW (setW (setW (setW (setW 0 0 7 (IntKind.u64.wrap c.topics)) 7 7 (IntKind.u64.wrap c.small)) 14 7 (IntKind.u64.wrap c.slots)) 21 7 (IntKind.u64.wrap c.clients)) 28 7 (IntKind.u64.wrap c.retry)) 35 7 (IntKind.u64.wrap c.s0)) 42 7 (IntKind.u64.wrap c.n0)) 49 7 (IntKind.u64.wrap c.s1)) 56 7 (IntKind.u64.wrap c.n1) oa (part_fits (by simp only [Cfg.Ok] at hc; omega))) (gX [.w,.u] (gR (vU (setW (setW (setW (setW (setW (setW (setW (setW (setW 0 0 7 (IntKind.u64.wrap c.topics)) 7 7 (IntKind.u64.wrap c.small)) 14 7 (IntKind.u64.wrap c.slots)) 21 7 (IntKind.u64.wrap c.clients)) 28 7 (IntKind.u64.wrap c.retry)) 35 7 (IntKind.u64.wrap c.s0)) 42 7 (IntKind.u64.wrap c.n0)) 49 7 (IntKind.u64.wrap c.s1)) 56 7 (IntKind.u64.wrap c.n1))) [] ⟨rfl,rfl⟩)))))))
theorem plan_Size(c:Cfg)(hc:c.Ok):
  Ctr prog 119 #[cfgV c] [] (Ret (vI (sizeOfC c)) []):=by
 exact cb 36 func119 fun F=>gX [.e 0,.z [0,0,1] 1 [1,7]] (gN fun b_1=>gQ b_1 (gS [.o [0,0,1] 1,.c [1,0,1],.c [1,1]] (gC (some 8) [] call127 (plan_right c oM) (gX [.e 0,.z [0,1,1] 1 [1,11]] (gQ b_1 (gS [.o [0,1,1] 1,.c [1,1,1]] (gC (some 12) [] call102 (plan_cells c oM) (gX [.e 0,.n,.n,.e 0,.u,.e 1,.e 1,.e 1,.n,.n,.n,.w,.u,.e 2,.e 2,.e 2,.n,.n,.n,.w,.u] (gQ b_1 (gO (InK .i64 (c.topics*(1+2*c.small))) (by have hb:=size_nl hc; simp only [Cfg.Ok,InK] at *; omega) (gO (InK .i64 ((5+c.slots+c.topics)+(c.topics*(1+2*c.small)))) (by have hb:=size_nl hc; simp only [Cfg.Ok,InK] at *; omega) (gQ b_1 (gN fun b_2=>gQ b_2 (gQ b_2 (gQ b_2 (gO (InK .i64 (1+c.s0)) (by have hb:=size_nl hc; simp only [Cfg.Ok,InK] at *; omega) (gO (InK .i64 (c.n0*(1+c.s0))) (by have hb:=size_nl hc; simp only [Cfg.Ok,InK] at *; omega) (gO (InK .i64 (((5+c.slots+c.topics)+(c.topics*(1+2*c.small)))+(c.n0*(1+c.s0)))) (by have hb:=size_nl hc; simp only [Cfg.Ok,InK] at *; omega) (gN fun b_3=>gQ b_3 (gQ b_3 (gQ b_3 (gO (InK .i64 (1+c.s1)) (by have hb:=size_nl hc; simp only [Cfg.Ok,InK] at *; omega) (gO (InK .i64 (c.n1*(1+c.s1))) (by have hb:=size_nl hc; simp only [Cfg.Ok,InK] at *; omega) (gO (InK .i64 ((((5+c.slots+c.topics)+(c.topics*(1+2*c.small)))+(c.n0*(1+c.s0)))+(c.n1*(1+c.s1)))) (by have hb:=size_nl hc; simp only [Cfg.Ok,InK] at *; omega) (gR (vI ((((5+c.slots+c.topics)+(c.topics*(1+2*c.small)))+(c.n0*(1+c.s0)))+(c.n1*(1+c.s1)))) [] ⟨rfl,rfl⟩)))))))))))))))))))))))))
theorem arena_New(n:Int)(h:1≤n∧n≤4096):
  Ctr prog 118 #[vI n] [] (fun v L => ∃(ba:Nat) (aw:Option Addr) (cw:Nat),v=vP ba∧L=[ET ba aw ((List.replicate n.toNat (0:Int)).length) cw 0 0 0 0 false,Ee aw cw (List.replicate n.toNat (0:Int))]):=by
 refine cb 13 func118 fun F=>gX [.sp [5,4] [.dead] [.sp [8,7] [.dead] [.z [0,1,1] 1 [9]]]] (gQ (decide (n<1)) (gF (decide (n<1)) ol (gQ (decide (n>4096)) (gF (decide (n>4096)) ol (gW (ks:=[.o [0,1,1] 1,.c [1,1,1]]) [(9,vI n)] [] ?_)))))
 refine go_make (kl:=.i64) (kc:=.i64) (encI .u64) 0 (0:Int) 1 (sizedI _) 60 8 (some 10) n n kR oa oa oa oa ?_
 intro a_1 c_2
 exact gX [] (gN fun b_3=>gJ [1,0] ⟨b_3,a_1,c_2,rfl,rfl⟩)
theorem plan_Make(c:Cfg)(hc:c.Ok):
  Ctr prog 60 #[cfgV c] [] (fun v L => ∃(ba:Nat) (aw:Option Addr) (cw:Nat),v = .tuple #[vP ba,.nilIface]∧L=[Eb ba (mkAr c aw cw),Ea (mkAr c aw cw)]):=by
 refine cb 67 func60 fun F=>gX [.e 0,.z [0,1] 1 [1,10]] (gN fun b_1=>gQ b_1 (gS [.o [0,1] 1,.c [1,1]] (gC (some 11) [] call64 (plan_Check c oM) (gX [.e 0,.z [0,1,1,1] 1 [1,15]] (gQ b_1 (gS [.o [0,1,1,1] 1,.c [1,1,1,1]] (gC (some 16) [] call119 (plan_Size c oM) ?_)))))))
 refine go_call (some 17) [] call118 (arena_New (sizeOfC c) (by have:=sizeOfC_ok hc; omega)) kR ?_
 rintro v post ⟨ba_2,aw_3,cw_4,rfl,rfl⟩
 refine gX [.z [0,1,1,1,1] 1 [1,5,18]] (gS [.o [0,1,1,1,1] 1,.c [1,1,1,1,1]] (gC (some 19) [1,2] call107 (arena_Store ba_2 (⟨aw_3,cw_4,(List.replicate (sizeOfC c).toNat (0:Int)).length,(List.replicate (sizeOfC c).toNat (0:Int)),0,0,0,0,false⟩:Ar) 0 7597137583116413295 (by first | exact hx.2.1 | (simp [Ar.store]; done)) (by have:=sizeOfC_ok hc; first | omega | (simp [Ar.store]; omega) | (have hq:=blockAt_ok hc (clsOf_pos (c:=c) (b:=i.1) oa); have:=hx.2.2.1; omega)) (by simp only [Cfg.Ok] at hc; first | omega | (simp [Ar.store]; done) | (simp [Ar.store]; omega))) (gX [.e 0,.z [0,1,1,1,1,1] 2 [1,5,20,21]] (gQ b_1 (gS [.o [0,1,1,1,1,1] 2,.c [1,1,1,1,1,1]] (gC (some 22) [] call120 (plan_Pack c oM) (gC (some 23) [1,2] call107 (arena_Store ba_2 ((⟨aw_3,cw_4,(List.replicate (sizeOfC c).toNat (0:Int)).length,(List.replicate (sizeOfC c).toNat (0:Int)),0,0,0,0,false⟩:Ar).store 0 7597137583116413295) 1 (packW c) (by first | exact hx.2.1 | (simp [Ar.store]; done)) (by have:=sizeOfC_ok hc; first | omega | (simp [Ar.store]; omega) | (have hq:=blockAt_ok hc (clsOf_pos (c:=c) (b:=i.1) oa); have:=hx.2.2.1; omega)) (by simp only [Cfg.Ok] at hc; first | omega | (simp [Ar.store]; done) | (simp [Ar.store]; omega))) (gX [.e 0,.u,.e 3,.e 3,.sp [32] [.z qm 2 [1,5,6,8,25,26,33,34]] [.e 3,.n,.w,.u,.e 4,.e 4,.sp [32] [.z qm 2 [1,5,6,8,25,26,33,34]] [.e 4,.n,.w,.u,.z qJ 0 [1,5,9]]]] (gQ b_1 (gN fun b_5=>gQ b_5 (gQ b_5 (gB (decide (c.n0>0)) (fun h_7 => ?_) (fun h_7 => ?_)))))))))))))
 ·replace h_7:=decT h_7
  refine gS [.o qm 2,.c qaf,.b 1,.c qag,.r qah,.b 0,.c qai] (gC (some 35) [] call103 (plan_Head 0 oM) (gX [.w,.z qm 5 [1,5,6,8,25,26,33,35,37]] (gS [.o qm 5,.c qaf,.b 1,.c qag,.r qah,.b 0,.c qai] (gC (some 38) [1,2] call107 (arena_Store ba_2 (((⟨aw_3,cw_4,(List.replicate (sizeOfC c).toNat (0:Int)).length,(List.replicate (sizeOfC c).toNat (0:Int)),0,0,0,0,false⟩:Ar).store 0 7597137583116413295).store 1 (packW c)) (3+0) 1 (by first | exact hx.2.1 | (simp [Ar.store]; done)) (by have:=sizeOfC_ok hc; first | omega | (simp [Ar.store]; omega) | (have hq:=blockAt_ok hc (clsOf_pos (c:=c) (b:=i.1) oa); have:=hx.2.2.1; omega)) (by simp only [Cfg.Ok] at hc; first | omega | (simp [Ar.store]; done) | (simp [Ar.store]; omega))) (gX [.e 1,.n,.w,.u,.e 4,.e 4,.sp [32] [.z qm 2 [1,5,6,8,25,26,33,34]] [.e 4,.n,.w,.u,.z qJ 0 [1,5,9]]] (gQ b_5 (gO (InK .i64 (1+c.n0)) og (gN fun b_8=>gQ b_8 (gQ b_8 (gB (decide (c.n1>0)) (fun h_9 => ?_) (fun h_9 => ?_)))))))))))
  ·replace h_9:=decT h_9
   refine gS [.o qm 2,.c qaf,.b 1,.c qag,.r qah,.b 0,.c qai] (gC (some 35) [] call103 (plan_Head 1 oM) (gX [.n,.z qm 5 [1,5,6,8,25,26,33,35,37]] (gO (InK .u64 (1+c.n0)) og (gS [.o qm 5,.c qaf,.b 1,.c qag,.r qah,.b 0,.c qai] (gC (some 38) [2,3] call107 (arena_Store ba_2 ((((⟨aw_3,cw_4,(List.replicate (sizeOfC c).toNat (0:Int)).length,(List.replicate (sizeOfC c).toNat (0:Int)),0,0,0,0,false⟩:Ar).store 0 7597137583116413295).store 1 (packW c)).store (3+0) 1) (3+1) (1+c.n0) (by first | exact hx.2.1 | (simp [Ar.store]; done)) (by have:=sizeOfC_ok hc; first | omega | (simp [Ar.store]; omega) | (have hq:=blockAt_ok hc (clsOf_pos (c:=c) (b:=i.1) oa); have:=hx.2.2.1; omega)) (by simp only [Cfg.Ok] at hc; first | omega | (simp [Ar.store]; done) | (simp [Ar.store]; omega))) (gX [.e 2,.n,.w,.u,.z qJ 0 [1,5,9]] (gQ b_8 (gO (InK .i64 ((1+c.n0)+c.n1)) og (gW (ks:=[.c qJ,.b 2,.c qe]) [(1,vP b_1),(5,vP ba_2),(9,vI 1)] [Ef b_1 c,.pts b_5 [vI c.s0,vI c.n0] 26,.pts b_8 [vI c.s1,vI c.n1] 26,Eb ba_2 (((((⟨aw_3,cw_4,(List.replicate (sizeOfC c).toNat (0:Int)).length,(List.replicate (sizeOfC c).toNat (0:Int)),0,0,0,0,false⟩:Ar).store 0 7597137583116413295).store 1 (packW c)).store (3+0) 1).store (3+1) (1+c.n0)),Ea (((((⟨aw_3,cw_4,(List.replicate (sizeOfC c).toNat (0:Int)).length,(List.replicate (sizeOfC c).toNat (0:Int)),0,0,0,0,false⟩:Ar).store 0 7597137583116413295).store 1 (packW c)).store (3+0) 1).store (3+1) (1+c.n0))] ?_)))))))))
   have hA0:(((((⟨aw_3,cw_4,(List.replicate (sizeOfC c).toNat (0:Int)).length,(List.replicate (sizeOfC c).toNat (0:Int)),0,0,0,0,false⟩:Ar).store 0 7597137583116413295).store 1 (packW c)).store (3+0) 1).store (3+1) (1+c.n0)).ws.length=(((((⟨aw_3,cw_4,(List.replicate (sizeOfC c).toNat (0:Int)).length,(List.replicate (sizeOfC c).toNat (0:Int)),0,0,0,0,false⟩:Ar).store 0 7597137583116413295).store 1 (packW c)).store (3+0) 1).store (3+1) (1+c.n0)).n∧((((((⟨aw_3,cw_4,(List.replicate (sizeOfC c).toNat (0:Int)).length,(List.replicate (sizeOfC c).toNat (0:Int)),0,0,0,0,false⟩:Ar).store 0 7597137583116413295).store 1 (packW c)).store (3+0) 1).store (3+1) (1+c.n0)).n:Int)=sizeOfC c∧0≤(((((⟨aw_3,cw_4,(List.replicate (sizeOfC c).toNat (0:Int)).length,(List.replicate (sizeOfC c).toNat (0:Int)),0,0,0,0,false⟩:Ar).store 0 7597137583116413295).store 1 (packW c)).store (3+0) 1).store (3+1) (1+c.n0)).steps∧(((((⟨aw_3,cw_4,(List.replicate (sizeOfC c).toNat (0:Int)).length,(List.replicate (sizeOfC c).toNat (0:Int)),0,0,0,0,false⟩:Ar).store 0 7597137583116413295).store 1 (packW c)).store (3+0) 1).store (3+1) (1+c.n0)).steps≤4:=by have:=sizeOfC_ok hc; simp [Ar.store]; omega
   refine go_loop (ι := Int×Ar) (fun i=>[(1,vP b_1),(5,vP ba_2),(9,vI i.1)]) (fun i=>[Ef b_1 c,Eb ba_2 i.2,Ea i.2]) (fun i=>mkLink c (c.n0+c.n1-i.1).toNat i.1 i.2=mkAr c aw_3 cw_4∧i.2.ws.length=i.2.n∧(i.2.n:Int)=sizeOfC c∧(0≤i.2.steps∧i.2.steps≤4+i.1)∧1≤i.1) (fun i=>(c.n0+c.n1-i.1).toNat) (1,(((((⟨aw_3,cw_4,(List.replicate (sizeOfC c).toNat (0:Int)).length,(List.replicate (sizeOfC c).toNat (0:Int)),0,0,0,0,false⟩:Ar).store 0 7597137583116413295).store 1 (packW c)).store (3+0) 1).store (3+1) (1+c.n0))) [1,5,9] [0,3,4] kR kR kR kR ⟨(by unfold mkAr mkHead; (repeat' (first | rw [if_pos (show 0<c.n1 by omega)] | rw [if_pos (show 0<c.n0 by omega)] | rw [if_neg (show ¬ 0<c.n1 by omega)] | rw [if_neg (show ¬ 0<c.n0 by omega)])); first | done | kernel_rfl),hA0.1,hA0.2.1,oi,oi⟩ ?_
   intro i J_10 hIJ_10 hJ_10
   have hx:=hIJ_10
   refine gX [.e 0,.z qK 2 [1,5,9,44,45]] (gQ b_1 (gS [.o qK 2,.c qaJ,.c qaK,.j J_10,.b 2,.c qe] (gC (some 46) [] call121 (plan_Blocks c oM) (gX [.sp [47] [.z qL 0 [1,5,9]] []] (gB (decide (i.1<(c.n0+c.n1))) (fun h_11 => ?_) (fun h_11 => ?_))))))
   ·replace h_11:=decT h_11
    refine gS [.c qL,.c qaL,.b 3,.c qn,.j J_10,.b 2,.c qe] (qG (kV 0 [.e 0,.ww,.q (vI (clsOf c i.1)),.e 0,.ww,.h (.n),.q (vI (clsOf c (i.1+1))),.ww]) [1,5,9,57] (.e b_1 (.e b_1 (.p (InK .i64 (i.1+1)) og .n))) (.c call78 (qR [] (plan_Class c i.1 oM og)) (.c call78 (qR [] (plan_Class c (i.1+1) oM og)) .n)) (gX [.sp [57] [.e 0,.z ql 3 [1,5,9,58,59,60]] [.n,.z [] 0 [1,5,9]]] (gB ((clsOf c i.1)==(clsOf c (i.1+1))) (fun h_12 => ?_) (fun h_12 => ?_))))
    ·replace h_12:=beqT h_12
     refine gQ b_1 (gS [.o ql 3,.b 3,.c qn,.j J_10,.b 2,.c qe] (gC (some 61) [] call105 (plan_Block c i.1 oM og) (gX [.n,.n,.z ql 7 [1,5,9,58,61,64]] (gO (InK .i64 (i.1+1)) og (gO (InK .u64 (i.1+1)) og (gS [.o ql 7,.b 3,.c qn,.j J_10,.b 2,.c qe] (gC (some 65) [1,2] call107 (arena_Store ba_2 i.2 (blockAt c i.1) (i.1+1) (by first | exact hx.2.1 | (simp [Ar.store]; done)) (by have:=sizeOfC_ok hc; first | omega | (simp [Ar.store]; omega) | (have hq:=blockAt_ok hc (clsOf_pos (c:=c) (b:=i.1) oa); have:=hx.2.2.1; omega)) (by simp only [Cfg.Ok] at hc; first | omega | (simp [Ar.store]; done) | (simp [Ar.store]; omega))) (gX [.n,.z [] 0 [1,5,9]] (gO (InK .i64 (i.1+1)) og (gS [.j J_10,.b 2,.c qe] ?_))))))))))
     exact go_back hJ_10 ((i.1+1),(i.2.store (blockAt c i.1) (i.1+1))) [0,1,2] kR kR kR ⟨(by rw [←hx.1,mkLink_next (c:=c) (b:=i.1) (A:=i.2) oa,if_pos (by assumption)]),(by first | exact hx.2.1 | (simp only [Ar.store,List.length_set]; exact hx.2.1)),hx.2.2.1,(by simp only [Ar.store] at *; omega),oa⟩ om
    ·replace h_12:=beqF h_12
     refine gO (InK .i64 (i.1+1)) og (gS [.j J_10,.b 2,.c qe] ?_)
     exact go_back hJ_10 ((i.1+1),i.2) [0,1,2] kR kR kR ⟨(by rw [←hx.1,mkLink_next (c:=c) (b:=i.1) (A:=i.2) oa,if_neg (by assumption)]),(by first | exact hx.2.1 | (simp only [Ar.store,List.length_set]; exact hx.2.1)),hx.2.2.1,(by simp only [Ar.store] at *; omega),oa⟩ om
   ·replace h_11:=decF h_11
    refine gW0 (.tuple #[vP ba_2,.nilIface]) [Ef b_1 c,Eb ba_2 i.2,Ea i.2] ?_
    exact ret_ok (post:=[Eb ba_2 i.2,Ea i.2]) [1,2] kR ⟨ba_2,aw_3,cw_4,rfl,(by rw [←hx.1,mkLink_end (c:=c) (b:=i.1) (A:=i.2) oa])⟩
  ·replace h_9:=decF h_9
   refine gQ b_8 (gO (InK .i64 ((1+c.n0)+c.n1)) og (gW (ks:=[.c qJ,.b 2,.c qe]) [(1,vP b_1),(5,vP ba_2),(9,vI 1)] [Ef b_1 c,.pts b_5 [vI c.s0,vI c.n0] 26,Eb ba_2 ((((⟨aw_3,cw_4,(List.replicate (sizeOfC c).toNat (0:Int)).length,(List.replicate (sizeOfC c).toNat (0:Int)),0,0,0,0,false⟩:Ar).store 0 7597137583116413295).store 1 (packW c)).store (3+0) 1),Ea ((((⟨aw_3,cw_4,(List.replicate (sizeOfC c).toNat (0:Int)).length,(List.replicate (sizeOfC c).toNat (0:Int)),0,0,0,0,false⟩:Ar).store 0 7597137583116413295).store 1 (packW c)).store (3+0) 1),.pts b_8 [vI c.s1,vI c.n1] 26] ?_))
   have hA0:((((⟨aw_3,cw_4,(List.replicate (sizeOfC c).toNat (0:Int)).length,(List.replicate (sizeOfC c).toNat (0:Int)),0,0,0,0,false⟩:Ar).store 0 7597137583116413295).store 1 (packW c)).store (3+0) 1).ws.length=((((⟨aw_3,cw_4,(List.replicate (sizeOfC c).toNat (0:Int)).length,(List.replicate (sizeOfC c).toNat (0:Int)),0,0,0,0,false⟩:Ar).store 0 7597137583116413295).store 1 (packW c)).store (3+0) 1).n∧(((((⟨aw_3,cw_4,(List.replicate (sizeOfC c).toNat (0:Int)).length,(List.replicate (sizeOfC c).toNat (0:Int)),0,0,0,0,false⟩:Ar).store 0 7597137583116413295).store 1 (packW c)).store (3+0) 1).n:Int)=sizeOfC c∧0≤((((⟨aw_3,cw_4,(List.replicate (sizeOfC c).toNat (0:Int)).length,(List.replicate (sizeOfC c).toNat (0:Int)),0,0,0,0,false⟩:Ar).store 0 7597137583116413295).store 1 (packW c)).store (3+0) 1).steps∧((((⟨aw_3,cw_4,(List.replicate (sizeOfC c).toNat (0:Int)).length,(List.replicate (sizeOfC c).toNat (0:Int)),0,0,0,0,false⟩:Ar).store 0 7597137583116413295).store 1 (packW c)).store (3+0) 1).steps≤4:=by have:=sizeOfC_ok hc; simp [Ar.store]; omega
   refine go_loop (ι := Int×Ar) (fun i=>[(1,vP b_1),(5,vP ba_2),(9,vI i.1)]) (fun i=>[Ef b_1 c,Eb ba_2 i.2,Ea i.2]) (fun i=>mkLink c (c.n0+c.n1-i.1).toNat i.1 i.2=mkAr c aw_3 cw_4∧i.2.ws.length=i.2.n∧(i.2.n:Int)=sizeOfC c∧(0≤i.2.steps∧i.2.steps≤4+i.1)∧1≤i.1) (fun i=>(c.n0+c.n1-i.1).toNat) (1,((((⟨aw_3,cw_4,(List.replicate (sizeOfC c).toNat (0:Int)).length,(List.replicate (sizeOfC c).toNat (0:Int)),0,0,0,0,false⟩:Ar).store 0 7597137583116413295).store 1 (packW c)).store (3+0) 1)) [1,5,9] [0,2,3] kR kR kR kR ⟨(by unfold mkAr mkHead; (repeat' (first | rw [if_pos (show 0<c.n1 by omega)] | rw [if_pos (show 0<c.n0 by omega)] | rw [if_neg (show ¬ 0<c.n1 by omega)] | rw [if_neg (show ¬ 0<c.n0 by omega)])); first | done | kernel_rfl),hA0.1,hA0.2.1,oi,oi⟩ ?_
   intro i J_13 hIJ_13 hJ_13
   have hx:=hIJ_13
   refine gX [.e 0,.z qK 2 [1,5,9,44,45]] (gQ b_1 (gS [.o qK 2,.c qaJ,.c qaK,.j J_13,.b 2,.c qe] (gC (some 46) [] call121 (plan_Blocks c oM) (gX [.sp [47] [.z qL 0 [1,5,9]] []] (gB (decide (i.1<(c.n0+c.n1))) (fun h_14 => ?_) (fun h_14 => ?_))))))
   ·replace h_14:=decT h_14
    refine gS [.c qL,.c qaL,.b 3,.c qn,.j J_13,.b 2,.c qe] (qG (kV 0 [.e 0,.ww,.q (vI (clsOf c i.1)),.e 0,.ww,.h (.n),.q (vI (clsOf c (i.1+1))),.ww]) [1,5,9,57] (.e b_1 (.e b_1 (.p (InK .i64 (i.1+1)) og .n))) (.c call78 (qR [] (plan_Class c i.1 oM og)) (.c call78 (qR [] (plan_Class c (i.1+1) oM og)) .n)) (gX [.sp [57] [.e 0,.z ql 3 [1,5,9,58,59,60]] [.n,.z [] 0 [1,5,9]]] (gB ((clsOf c i.1)==(clsOf c (i.1+1))) (fun h_15 => ?_) (fun h_15 => ?_))))
    ·replace h_15:=beqT h_15
     refine gQ b_1 (gS [.o ql 3,.b 3,.c qn,.j J_13,.b 2,.c qe] (gC (some 61) [] call105 (plan_Block c i.1 oM og) (gX [.n,.n,.z ql 7 [1,5,9,58,61,64]] (gO (InK .i64 (i.1+1)) og (gO (InK .u64 (i.1+1)) og (gS [.o ql 7,.b 3,.c qn,.j J_13,.b 2,.c qe] (gC (some 65) [1,2] call107 (arena_Store ba_2 i.2 (blockAt c i.1) (i.1+1) (by first | exact hx.2.1 | (simp [Ar.store]; done)) (by have:=sizeOfC_ok hc; first | omega | (simp [Ar.store]; omega) | (have hq:=blockAt_ok hc (clsOf_pos (c:=c) (b:=i.1) oa); have:=hx.2.2.1; omega)) (by simp only [Cfg.Ok] at hc; first | omega | (simp [Ar.store]; done) | (simp [Ar.store]; omega))) (gX [.n,.z [] 0 [1,5,9]] (gO (InK .i64 (i.1+1)) og (gS [.j J_13,.b 2,.c qe] ?_))))))))))
     exact go_back hJ_13 ((i.1+1),(i.2.store (blockAt c i.1) (i.1+1))) [0,1,2] kR kR kR ⟨(by rw [←hx.1,mkLink_next (c:=c) (b:=i.1) (A:=i.2) oa,if_pos (by assumption)]),(by first | exact hx.2.1 | (simp only [Ar.store,List.length_set]; exact hx.2.1)),hx.2.2.1,(by simp only [Ar.store] at *; omega),oa⟩ om
    ·replace h_15:=beqF h_15
     refine gO (InK .i64 (i.1+1)) og (gS [.j J_13,.b 2,.c qe] ?_)
     exact go_back hJ_13 ((i.1+1),i.2) [0,1,2] kR kR kR ⟨(by rw [←hx.1,mkLink_next (c:=c) (b:=i.1) (A:=i.2) oa,if_neg (by assumption)]),(by first | exact hx.2.1 | (simp only [Ar.store,List.length_set]; exact hx.2.1)),hx.2.2.1,(by simp only [Ar.store] at *; omega),oa⟩ om
   ·replace h_14:=decF h_14
    refine gW0 (.tuple #[vP ba_2,.nilIface]) [Ef b_1 c,Eb ba_2 i.2,Ea i.2] ?_
    exact ret_ok (post:=[Eb ba_2 i.2,Ea i.2]) [1,2] kR ⟨ba_2,aw_3,cw_4,rfl,(by rw [←hx.1,mkLink_end (c:=c) (b:=i.1) (A:=i.2) oa])⟩
 ·replace h_7:=decF h_7
  refine gQ b_5 (gO (InK .i64 (1+c.n0)) og (gN fun b_6=>gQ b_6 (gQ b_6 (gB (decide (c.n1>0)) (fun h_16 => ?_) (fun h_16 => ?_)))))
  ·replace h_16:=decT h_16
   refine gS [.o qm 2,.c qaf,.b 1,.c qag,.r qah,.b 0,.c qai] (gC (some 35) [] call103 (plan_Head 1 oM) (gX [.n,.z qm 5 [1,5,6,8,25,26,33,35,37]] (gO (InK .u64 (1+c.n0)) og (gS [.o qm 5,.c qaf,.b 1,.c qag,.r qah,.b 0,.c qai] (gC (some 38) [1,2] call107 (arena_Store ba_2 (((⟨aw_3,cw_4,(List.replicate (sizeOfC c).toNat (0:Int)).length,(List.replicate (sizeOfC c).toNat (0:Int)),0,0,0,0,false⟩:Ar).store 0 7597137583116413295).store 1 (packW c)) (3+1) (1+c.n0) (by first | exact hx.2.1 | (simp [Ar.store]; done)) (by have:=sizeOfC_ok hc; first | omega | (simp [Ar.store]; omega) | (have hq:=blockAt_ok hc (clsOf_pos (c:=c) (b:=i.1) oa); have:=hx.2.2.1; omega)) (by simp only [Cfg.Ok] at hc; first | omega | (simp [Ar.store]; done) | (simp [Ar.store]; omega))) (gX [.e 2,.n,.w,.u,.z qJ 0 [1,5,9]] (gQ b_6 (gO (InK .i64 ((1+c.n0)+c.n1)) og (gW (ks:=[.c qJ,.b 2,.c qe]) [(1,vP b_1),(5,vP ba_2),(9,vI 1)] [Ef b_1 c,.pts b_5 [vI c.s0,vI c.n0] 26,.pts b_6 [vI c.s1,vI c.n1] 26,Eb ba_2 ((((⟨aw_3,cw_4,(List.replicate (sizeOfC c).toNat (0:Int)).length,(List.replicate (sizeOfC c).toNat (0:Int)),0,0,0,0,false⟩:Ar).store 0 7597137583116413295).store 1 (packW c)).store (3+1) (1+c.n0)),Ea ((((⟨aw_3,cw_4,(List.replicate (sizeOfC c).toNat (0:Int)).length,(List.replicate (sizeOfC c).toNat (0:Int)),0,0,0,0,false⟩:Ar).store 0 7597137583116413295).store 1 (packW c)).store (3+1) (1+c.n0))] ?_)))))))))
   have hA0:((((⟨aw_3,cw_4,(List.replicate (sizeOfC c).toNat (0:Int)).length,(List.replicate (sizeOfC c).toNat (0:Int)),0,0,0,0,false⟩:Ar).store 0 7597137583116413295).store 1 (packW c)).store (3+1) (1+c.n0)).ws.length=((((⟨aw_3,cw_4,(List.replicate (sizeOfC c).toNat (0:Int)).length,(List.replicate (sizeOfC c).toNat (0:Int)),0,0,0,0,false⟩:Ar).store 0 7597137583116413295).store 1 (packW c)).store (3+1) (1+c.n0)).n∧(((((⟨aw_3,cw_4,(List.replicate (sizeOfC c).toNat (0:Int)).length,(List.replicate (sizeOfC c).toNat (0:Int)),0,0,0,0,false⟩:Ar).store 0 7597137583116413295).store 1 (packW c)).store (3+1) (1+c.n0)).n:Int)=sizeOfC c∧0≤((((⟨aw_3,cw_4,(List.replicate (sizeOfC c).toNat (0:Int)).length,(List.replicate (sizeOfC c).toNat (0:Int)),0,0,0,0,false⟩:Ar).store 0 7597137583116413295).store 1 (packW c)).store (3+1) (1+c.n0)).steps∧((((⟨aw_3,cw_4,(List.replicate (sizeOfC c).toNat (0:Int)).length,(List.replicate (sizeOfC c).toNat (0:Int)),0,0,0,0,false⟩:Ar).store 0 7597137583116413295).store 1 (packW c)).store (3+1) (1+c.n0)).steps≤4:=by have:=sizeOfC_ok hc; simp [Ar.store]; omega
   refine go_loop (ι := Int×Ar) (fun i=>[(1,vP b_1),(5,vP ba_2),(9,vI i.1)]) (fun i=>[Ef b_1 c,Eb ba_2 i.2,Ea i.2]) (fun i=>mkLink c (c.n0+c.n1-i.1).toNat i.1 i.2=mkAr c aw_3 cw_4∧i.2.ws.length=i.2.n∧(i.2.n:Int)=sizeOfC c∧(0≤i.2.steps∧i.2.steps≤4+i.1)∧1≤i.1) (fun i=>(c.n0+c.n1-i.1).toNat) (1,((((⟨aw_3,cw_4,(List.replicate (sizeOfC c).toNat (0:Int)).length,(List.replicate (sizeOfC c).toNat (0:Int)),0,0,0,0,false⟩:Ar).store 0 7597137583116413295).store 1 (packW c)).store (3+1) (1+c.n0))) [1,5,9] [0,3,4] kR kR kR kR ⟨(by unfold mkAr mkHead; (repeat' (first | rw [if_pos (show 0<c.n1 by omega)] | rw [if_pos (show 0<c.n0 by omega)] | rw [if_neg (show ¬ 0<c.n1 by omega)] | rw [if_neg (show ¬ 0<c.n0 by omega)])); first | done | kernel_rfl),hA0.1,hA0.2.1,oi,oi⟩ ?_
   intro i J_17 hIJ_17 hJ_17
   have hx:=hIJ_17
   refine gX [.e 0,.z qK 2 [1,5,9,44,45]] (gQ b_1 (gS [.o qK 2,.c qaJ,.c qaK,.j J_17,.b 2,.c qe] (gC (some 46) [] call121 (plan_Blocks c oM) (gX [.sp [47] [.z qL 0 [1,5,9]] []] (gB (decide (i.1<(c.n0+c.n1))) (fun h_18 => ?_) (fun h_18 => ?_))))))
   ·replace h_18:=decT h_18
    refine gS [.c qL,.c qaL,.b 3,.c qn,.j J_17,.b 2,.c qe] (qG (kV 0 [.e 0,.ww,.q (vI (clsOf c i.1)),.e 0,.ww,.h (.n),.q (vI (clsOf c (i.1+1))),.ww]) [1,5,9,57] (.e b_1 (.e b_1 (.p (InK .i64 (i.1+1)) og .n))) (.c call78 (qR [] (plan_Class c i.1 oM og)) (.c call78 (qR [] (plan_Class c (i.1+1) oM og)) .n)) (gX [.sp [57] [.e 0,.z ql 3 [1,5,9,58,59,60]] [.n,.z [] 0 [1,5,9]]] (gB ((clsOf c i.1)==(clsOf c (i.1+1))) (fun h_19 => ?_) (fun h_19 => ?_))))
    ·replace h_19:=beqT h_19
     refine gQ b_1 (gS [.o ql 3,.b 3,.c qn,.j J_17,.b 2,.c qe] (gC (some 61) [] call105 (plan_Block c i.1 oM og) (gX [.n,.n,.z ql 7 [1,5,9,58,61,64]] (gO (InK .i64 (i.1+1)) og (gO (InK .u64 (i.1+1)) og (gS [.o ql 7,.b 3,.c qn,.j J_17,.b 2,.c qe] (gC (some 65) [1,2] call107 (arena_Store ba_2 i.2 (blockAt c i.1) (i.1+1) (by first | exact hx.2.1 | (simp [Ar.store]; done)) (by have:=sizeOfC_ok hc; first | omega | (simp [Ar.store]; omega) | (have hq:=blockAt_ok hc (clsOf_pos (c:=c) (b:=i.1) oa); have:=hx.2.2.1; omega)) (by simp only [Cfg.Ok] at hc; first | omega | (simp [Ar.store]; done) | (simp [Ar.store]; omega))) (gX [.n,.z [] 0 [1,5,9]] (gO (InK .i64 (i.1+1)) og (gS [.j J_17,.b 2,.c qe] ?_))))))))))
     exact go_back hJ_17 ((i.1+1),(i.2.store (blockAt c i.1) (i.1+1))) [0,1,2] kR kR kR ⟨(by rw [←hx.1,mkLink_next (c:=c) (b:=i.1) (A:=i.2) oa,if_pos (by assumption)]),(by first | exact hx.2.1 | (simp only [Ar.store,List.length_set]; exact hx.2.1)),hx.2.2.1,(by simp only [Ar.store] at *; omega),oa⟩ om
    ·replace h_19:=beqF h_19
     refine gO (InK .i64 (i.1+1)) og (gS [.j J_17,.b 2,.c qe] ?_)
     exact go_back hJ_17 ((i.1+1),i.2) [0,1,2] kR kR kR ⟨(by rw [←hx.1,mkLink_next (c:=c) (b:=i.1) (A:=i.2) oa,if_neg (by assumption)]),(by first | exact hx.2.1 | (simp only [Ar.store,List.length_set]; exact hx.2.1)),hx.2.2.1,(by simp only [Ar.store] at *; omega),oa⟩ om
   ·replace h_18:=decF h_18
    refine gW0 (.tuple #[vP ba_2,.nilIface]) [Ef b_1 c,Eb ba_2 i.2,Ea i.2] ?_
    exact ret_ok (post:=[Eb ba_2 i.2,Ea i.2]) [1,2] kR ⟨ba_2,aw_3,cw_4,rfl,(by rw [←hx.1,mkLink_end (c:=c) (b:=i.1) (A:=i.2) oa])⟩
  ·replace h_16:=decF h_16
   refine gQ b_6 (gO (InK .i64 ((1+c.n0)+c.n1)) og (gW (ks:=[.c qJ,.b 2,.c qe]) [(1,vP b_1),(5,vP ba_2),(9,vI 1)] [Ef b_1 c,Eb ba_2 (((⟨aw_3,cw_4,(List.replicate (sizeOfC c).toNat (0:Int)).length,(List.replicate (sizeOfC c).toNat (0:Int)),0,0,0,0,false⟩:Ar).store 0 7597137583116413295).store 1 (packW c)),Ea (((⟨aw_3,cw_4,(List.replicate (sizeOfC c).toNat (0:Int)).length,(List.replicate (sizeOfC c).toNat (0:Int)),0,0,0,0,false⟩:Ar).store 0 7597137583116413295).store 1 (packW c)),.pts b_5 [vI c.s0,vI c.n0] 26,.pts b_6 [vI c.s1,vI c.n1] 26] ?_))
   have hA0:(((⟨aw_3,cw_4,(List.replicate (sizeOfC c).toNat (0:Int)).length,(List.replicate (sizeOfC c).toNat (0:Int)),0,0,0,0,false⟩:Ar).store 0 7597137583116413295).store 1 (packW c)).ws.length=(((⟨aw_3,cw_4,(List.replicate (sizeOfC c).toNat (0:Int)).length,(List.replicate (sizeOfC c).toNat (0:Int)),0,0,0,0,false⟩:Ar).store 0 7597137583116413295).store 1 (packW c)).n∧((((⟨aw_3,cw_4,(List.replicate (sizeOfC c).toNat (0:Int)).length,(List.replicate (sizeOfC c).toNat (0:Int)),0,0,0,0,false⟩:Ar).store 0 7597137583116413295).store 1 (packW c)).n:Int)=sizeOfC c∧0≤(((⟨aw_3,cw_4,(List.replicate (sizeOfC c).toNat (0:Int)).length,(List.replicate (sizeOfC c).toNat (0:Int)),0,0,0,0,false⟩:Ar).store 0 7597137583116413295).store 1 (packW c)).steps∧(((⟨aw_3,cw_4,(List.replicate (sizeOfC c).toNat (0:Int)).length,(List.replicate (sizeOfC c).toNat (0:Int)),0,0,0,0,false⟩:Ar).store 0 7597137583116413295).store 1 (packW c)).steps≤4:=by have:=sizeOfC_ok hc; simp [Ar.store]; omega
   refine go_loop (ι := Int×Ar) (fun i=>[(1,vP b_1),(5,vP ba_2),(9,vI i.1)]) (fun i=>[Ef b_1 c,Eb ba_2 i.2,Ea i.2]) (fun i=>mkLink c (c.n0+c.n1-i.1).toNat i.1 i.2=mkAr c aw_3 cw_4∧i.2.ws.length=i.2.n∧(i.2.n:Int)=sizeOfC c∧(0≤i.2.steps∧i.2.steps≤4+i.1)∧1≤i.1) (fun i=>(c.n0+c.n1-i.1).toNat) (1,(((⟨aw_3,cw_4,(List.replicate (sizeOfC c).toNat (0:Int)).length,(List.replicate (sizeOfC c).toNat (0:Int)),0,0,0,0,false⟩:Ar).store 0 7597137583116413295).store 1 (packW c))) [1,5,9] [0,1,2] kR kR kR kR ⟨(by unfold mkAr mkHead; (repeat' (first | rw [if_pos (show 0<c.n1 by omega)] | rw [if_pos (show 0<c.n0 by omega)] | rw [if_neg (show ¬ 0<c.n1 by omega)] | rw [if_neg (show ¬ 0<c.n0 by omega)])); first | done | kernel_rfl),hA0.1,hA0.2.1,oi,oi⟩ ?_
   intro i J_20 hIJ_20 hJ_20
   have hx:=hIJ_20
   refine gX [.e 0,.z qK 2 [1,5,9,44,45]] (gQ b_1 (gS [.o qK 2,.c qaJ,.c qaK,.j J_20,.b 2,.c qe] (gC (some 46) [] call121 (plan_Blocks c oM) (gX [.sp [47] [.z qL 0 [1,5,9]] []] (gB (decide (i.1<(c.n0+c.n1))) (fun h_21 => ?_) (fun h_21 => ?_))))))
   ·replace h_21:=decT h_21
    refine gS [.c qL,.c qaL,.b 3,.c qn,.j J_20,.b 2,.c qe] (qG (kV 0 [.e 0,.ww,.q (vI (clsOf c i.1)),.e 0,.ww,.h (.n),.q (vI (clsOf c (i.1+1))),.ww]) [1,5,9,57] (.e b_1 (.e b_1 (.p (InK .i64 (i.1+1)) og .n))) (.c call78 (qR [] (plan_Class c i.1 oM og)) (.c call78 (qR [] (plan_Class c (i.1+1) oM og)) .n)) (gX [.sp [57] [.e 0,.z ql 3 [1,5,9,58,59,60]] [.n,.z [] 0 [1,5,9]]] (gB ((clsOf c i.1)==(clsOf c (i.1+1))) (fun h_22 => ?_) (fun h_22 => ?_))))
    ·replace h_22:=beqT h_22
     refine gQ b_1 (gS [.o ql 3,.b 3,.c qn,.j J_20,.b 2,.c qe] (gC (some 61) [] call105 (plan_Block c i.1 oM og) (gX [.n,.n,.z ql 7 [1,5,9,58,61,64]] (gO (InK .i64 (i.1+1)) og (gO (InK .u64 (i.1+1)) og (gS [.o ql 7,.b 3,.c qn,.j J_20,.b 2,.c qe] (gC (some 65) [1,2] call107 (arena_Store ba_2 i.2 (blockAt c i.1) (i.1+1) (by first | exact hx.2.1 | (simp [Ar.store]; done)) (by have:=sizeOfC_ok hc; first | omega | (simp [Ar.store]; omega) | (have hq:=blockAt_ok hc (clsOf_pos (c:=c) (b:=i.1) oa); have:=hx.2.2.1; omega)) (by simp only [Cfg.Ok] at hc; first | omega | (simp [Ar.store]; done) | (simp [Ar.store]; omega))) (gX [.n,.z [] 0 [1,5,9]] (gO (InK .i64 (i.1+1)) og (gS [.j J_20,.b 2,.c qe] ?_))))))))))
     exact go_back hJ_20 ((i.1+1),(i.2.store (blockAt c i.1) (i.1+1))) [0,1,2] kR kR kR ⟨(by rw [←hx.1,mkLink_next (c:=c) (b:=i.1) (A:=i.2) oa,if_pos (by assumption)]),(by first | exact hx.2.1 | (simp only [Ar.store,List.length_set]; exact hx.2.1)),hx.2.2.1,(by simp only [Ar.store] at *; omega),oa⟩ om
    ·replace h_22:=beqF h_22
     refine gO (InK .i64 (i.1+1)) og (gS [.j J_20,.b 2,.c qe] ?_)
     exact go_back hJ_20 ((i.1+1),i.2) [0,1,2] kR kR kR ⟨(by rw [←hx.1,mkLink_next (c:=c) (b:=i.1) (A:=i.2) oa,if_neg (by assumption)]),(by first | exact hx.2.1 | (simp only [Ar.store,List.length_set]; exact hx.2.1)),hx.2.2.1,(by simp only [Ar.store] at *; omega),oa⟩ om
   ·replace h_21:=decF h_21
    refine gW0 (.tuple #[vP ba_2,.nilIface]) [Ef b_1 c,Eb ba_2 i.2,Ea i.2] ?_
    exact ret_ok (post:=[Eb ba_2 i.2,Ea i.2]) [1,2] kR ⟨ba_2,aw_3,cw_4,rfl,(by rw [←hx.1,mkLink_end (c:=c) (b:=i.1) (A:=i.2) oa])⟩
end Go.Proofs.YtpcaijopodhdgaaGreatDoor
namespace Go.Proofs.YtpcaijopodhdgaaGreatDoor
open Go.Proofs.Tryz
open Go.Sx
abbrev EY(x0:Nat)(c1:Cfg)(x2:Int)(x3:Nat)(x4:Option Addr)(x5:Nat)(x6:Nat): Ent:=.pts x0 [.int .i64 c1.topics,.int .i64 c1.small,.int .i64 c1.slots,.int .i64 c1.clients,.int .i64 c1.s0,.int .i64 c1.n0,.int .i64 c1.s1,.int .i64 c1.n1,.int .i64 c1.retry,.int .i64 x2,.map (some x3),.slice x4 x5 x6,.slice none 0 0,.slice none 0 0,.pointer none] 149
abbrev qaM: List Nat:=[0,1,0,0,1,1,0,0,1,0,1,1,1]
abbrev qbY: List Nat:=[1,1,0,0,1,1,0,0,1,0,1,1,1]
abbrev qaN: List Nat:=[1,1,1,0,0,1,0,1,1,1]
abbrev qaO: List Nat:=[0,1,1,0,0,1,1,0,0,1,0,1,1,1]
abbrev qbZ: List Nat:=[1,1,1,0,0,1,1,0,0,1,0,1,1,1]
structure NwI where
 k:Int
 m:Int→Option Int
theorem plan_Class_min(c:Cfg)(hc:c.Ok):
  Ctr prog 78 #[cfgV c,vI (-9223372036854775808)] [] (Ret (vI (clsOf c (-9223372036854775808))) []):=by
 exact cb 12 func78 fun F=>gX [.z [0,1] 0 [2,3]] (gN fun b_1=>gN fun b_2=>gW (ks:=[.c [0,1],.c [1,1]]) [(2,vP b_1),(3,vP b_2)] [Ef b_1 c,.pts b_2 [vI (-9223372036854775808)] 3] (qG (kV 0 [.e 0,.e 1,.ww,.e 0,.q (vI (c.n0+c.n1)),.ww,.q (vI (if (0:Int)≤9223372036854775807∧9223372036854775807<(c.n0+c.n1) then(if (-9223372036854775808)≤c.n0 then 0 else 1) else -1)),.ww]) [4] (.e b_1 (.e b_2 (.e b_1 .n))) (.c call121 (qR [] (plan_Blocks c oM)) (.c call100 (qR [1,0] (place_Class c 9223372036854775807 (c.n0+c.n1) b_2 b_1 (-9223372036854775808) oM)) .n)) (gX [] (gI (vI (if (0:Int)≤9223372036854775807∧9223372036854775807<(c.n0+c.n1) then(if (-9223372036854775808)≤c.n0 then 0 else 1) else -1)) [] ⟨(congrArg (Value.int .i64) (by simp only [Cfg.Ok] at hc; unfold clsOf; (repeat' split) <;> omega)),rfl⟩))))
theorem plan_Class_all(c:Cfg)(k:Int)(hc:c.Ok)(hk:InK .i64 k):
  Ctr prog 78 #[cfgV c,vI k] [] (Ret (vI (clsOf c k)) []):=by
 by_cases h:k = -9223372036854775808
 ·subst h; exact plan_Class_min c hc
 ·exact plan_Class c k hc (by simp only [InK] at *; omega)
theorem arena_Words(ba:Nat)(A:Ar)(hn:A.ws.length=A.n)(hl:A.ws.length≤10000):
  Ctr prog 30 #[vP ba] [Eb ba A,Ea A] (fun v L => ∃(a2:Option Addr) (c2:Nat),v = .slice a2 A.ws.length c2∧L=[Eb ba A,Ea A,Ee a2 c2 A.ws]):=by
 refine cb 10 func30 fun F=>gX [.e 0,.z [0,1,1] 4 [8]] (gQ ba (gS [.o [0,1,1] 4,.c [1,1,1]] ?_))
 refine go_call (some 9) [1] call47 (clone_n A.aw A.cw A.n A.ws oM oM) kR ?_
 rintro v post ⟨a2_1,c2_2,rfl,rfl⟩
 exact gX [] (gJ [0,1,2] ⟨a2_1,c2_2,rfl,rfl⟩)
theorem retire_New_ok(c:Cfg)(a:Option Addr)(c0:Nat)(xs:List Int)(hc:c.Ok)(hl:xs.length≤100)(hin:∀j,InK .i64 (xs.getD j 0))(ho:newOk c (fun _=>none) xs=true):
  Ctr prog 33 #[cfgV c,.slice a xs.length c0] [Ec a c0 xs] (fun v L => ∃(s:Nat),v=vP s∧L=[Ec a c0 xs,.res (ScanR s c (newSc xs))]):=by
 refine cb 49 func33 fun F=>gX [.e 1,.z [0,0,1] 1 [1,2,8]] (gN fun b_1=>gQ b_1 (gS [.o [0,0,1] 1,.c [1,0,1],.c [1,1]] (gC (some 9) [] call64 (plan_Check c oM) (gX [.z [0,1,1] 0 [1,2]] (gS [.c [0,1,1],.c [1,1,1]] (zG ?_))))))
 have aS_6:∀(m_1_1:Nat) (a2_3_1:Option Addr) (c2_3_1:Nat) (b_5_1:Nat),Lz prog f33 (bd f33) 49 F (RetR F (fun v L => ∃(s:Nat),v=vP s∧L=[Ec a c0 xs,.res (ScanR s c (newSc xs))])) (regOps (bd f33) [0,1,1]) [.c [1,1,1]] (mk 7 [0,1,2,3,4,5]) [] [(16,vP b_5_1),(1,.slice a xs.length c0),(2,vP b_1)] [Ef b_1 c,.raw m_1_1 (.map #[] 0),Ec a c0 xs,Ec a2_3_1 c2_3_1 xs,EY b_5_1 c 0 m_1_1 a2_3_1 xs.length c2_3_1]:=by
  intro m_1_1 a2_3_1 c2_3_1 b_5_1
  refine zE [6] (kV 6 [.w]) [1,2,5] .n (gX [.z [0,1,0,1,1,1] 0 [2,5,17,18,19]] (gS [.c [0,1,0,1,1,1],.b 0,.c [1,1,1,1]] ?_))
  refine go_view (view_map 1 m_1_1 .i64 (Value.int .i64) kR) ?_
  refine go_loop (ι := NwI) (fun i=>[(2,vP b_1),(5,vP b_5_1),(17,.slice a xs.length c0),(18,vI (xs.length:Int)),(19,vI i.k)]) (fun i=>[Ef b_1 c,EY b_5_1 c 0 m_1_1 a2_3_1 xs.length c2_3_1,.res (IMap m_1_1 .i64 (Value.int .i64) i.m),Ec a c0 xs,Ec a2_3_1 c2_3_1 xs]) (fun i=>newOk c i.m (xs.drop i.k.toNat)=newOk c (fun _=>none) xs∧(0≤i.k∧i.k≤(xs.length:Int))∧∀j,0≤(i.m j).getD 0∧(i.m j).getD 0≤1) (fun i=>((xs.length:Int)-i.k).toNat) ⟨0,fun _=>none⟩ [2,5,17,18,19] [0,4,1,2,3] kR kR kR kR ⟨rfl,oi,fun j=>(by simp)⟩ ?_
  intro i J_10 hIJ_10 hJ_10
  have hx:=hIJ_10
  refine gX [.sp [20] [.s 3,.j 3 i.k.toNat,.e 1,.z qaM 5 [2,5,7,17,18,19,26,27]] [.e 1,.z [0,1,1,1,1] 4 [5,47]]] (gB (decide (i.k<(xs.length:Int))) (fun h_11 => ?_) (fun h_11 => ?_))
  ·replace h_11:=decT h_11
   refine gO (a=a∧xs.length=xs.length) ⟨rfl,oe⟩ (gO ((0:Int)≤i.k∧i.k<(xs.length:Int)) oW (gQ (slAt a i.k.toNat 1) (gO (i.k.toNat<xs.length) oW (gQ b_5_1 (gS [.o qaM 5,.c qbY,.b 1,.c qaN,.j J_10,.b 0,.c [1,1,1,1]] ?_)))))
   refine go_by (some 28) (getO prog _) (some (.map (some m_1_1),vI (xs.getD i.k.toNat 0),false,.i64,some (Value.int .i64 0))) (R_get 2 (enc:=Value.int .i64) (m:=i.m) kR (xs.getD i.k.toNat 0) false 0) kR ?_
   rintro v L2 ⟨rfl,rfl⟩
   refine gX [.n,.z qaM 7 [2,5,7,17,18,19,26,27,29]] (gO (InK .i64 (((i.m (xs.getD i.k.toNat 0)).getD 0)+1)) (by have:=hx.2.2 (xs.getD i.k.toNat 0); simp only [InK]; omega) (gS [.o qaM 7,.c qbY,.b 1,.c qaN,.j J_10,.b 0,.c [1,1,1,1]] ?_))
   refine go_by none (setO prog _) (some (.map (some m_1_1),vI (xs.getD i.k.toNat 0),vI (((i.m (xs.getD i.k.toNat 0)).getD 0)+1),.i64)) (R_set 2 (enc:=Value.int .i64) (m:=i.m) kR (xs.getD i.k.toNat 0) (((i.m (xs.getD i.k.toNat 0)).getD 0)+1)) kR ?_
   rintro v L2 ⟨rfl,rfl⟩
   refine gX [.e 0,.z qaO 2 [2,5,7,17,18,19,30,31]] (gQ b_1 (gS [.o qaO 2,.c qbZ,.b 1,.c qaN,.j J_10,.b 0,.c [1,1,1,1]] (gC (some 32) [] call78 (plan_Class_all c (xs.getD i.k.toNat 0) oM (hin _)) (gX [.sp [34,33] [.dead] [.e 1,.z qaO 10 [2,5,17,18,19,34,38,39]]] (gQ (decide ((clsOf c (xs.getD i.k.toNat 0))<0)) (gF (decide ((clsOf c (xs.getD i.k.toNat 0))<0)) (by have:=(newOk_yes oa (hx.1.trans ho)).1; simpa using this) (gQ b_5_1 (gS [.o qaO 10,.c qbZ,.b 1,.c qaN,.j J_10,.b 0,.c [1,1,1,1]] ?_))))))))
   refine go_by (some 40) (getO prog _) (some (.map (some m_1_1),vI (xs.getD i.k.toNat 0),false,.i64,some (Value.int .i64 0))) (R_get 2 (enc:=Value.int .i64) (m:=(updM i.m (xs.getD i.k.toNat 0) (((i.m (xs.getD i.k.toNat 0)).getD 0)+1))) kR (xs.getD i.k.toNat 0) false 0) kR ?_
   rintro v L2 ⟨rfl,rfl⟩
   refine gX [.sp [42,41] [.dead] [.n,.z [] 0 [2,5,17,18,19]]] (gQ (decide ((((updM i.m (xs.getD i.k.toNat 0) (((i.m (xs.getD i.k.toNat 0)).getD 0)+1)) (xs.getD i.k.toNat 0)).getD 0)>1)) (gF (decide ((((updM i.m (xs.getD i.k.toNat 0) (((i.m (xs.getD i.k.toNat 0)).getD 0)+1)) (xs.getD i.k.toNat 0)).getD 0)>1)) (by have:=(newOk_yes oa (hx.1.trans ho)).2; simpa using this) (gO (InK .i64 (i.k+1)) oh (gS [.j J_10,.b 0,.c [1,1,1,1]] ?_))))
   exact go_back hJ_10 (⟨(i.k+1),(updM i.m (xs.getD i.k.toNat 0) (((i.m (xs.getD i.k.toNat 0)).getD 0)+1))⟩:NwI) [0,1,2,3,4] kR kR kR ⟨(newOk_next oa (by first | assumption | exact(newOk_yes oa (hx.1.trans ho)).1) (by first | assumption | exact(newOk_yes oa (hx.1.trans ho)).2)).symm.trans hx.1,oi,updM_rng hx.2.2 (by first | assumption | exact(newOk_yes oa (hx.1.trans ho)).2)⟩ oi
  ·replace h_11:=decF h_11
   refine gQ b_5_1 (gS [.o [0,1,1,1,1] 4,.c [1,1,1,1,1]] ?_)
   refine go_by none (clearO prog _) (some (.map (some m_1_1),true)) (R_clear 2 (kk:=.i64) (enc:=Value.int .i64) (m:=i.m) kR) kR ?_
   rintro v L2 ⟨rfl,rfl⟩
   refine gX [] (gW0 (vP b_5_1) [Ef b_1 c,EY b_5_1 c 0 m_1_1 a2_3_1 xs.length c2_3_1,.res (IMap m_1_1 .i64 (Value.int .i64) (fun _=>none)),Ec a c0 xs,Ec a2_3_1 c2_3_1 xs] ?_)
   refine ret_view (L':=[Ef b_1 c,EY b_5_1 c 0 m_1_1 a2_3_1 xs.length c2_3_1,.res (IMap m_1_1 .i64 (Value.int .i64) (fun _=>none)),Ec a c0 xs,Ec a2_3_1 c2_3_1 xs,Ec none 0 []]) (view_nil (encI .i64) 0 1 3 (sizedI _)) ?_
   refine ret_view (L':=[Ef b_1 c,EY b_5_1 c 0 m_1_1 a2_3_1 xs.length c2_3_1,.res (IMap m_1_1 .i64 (Value.int .i64) (fun _=>none)),Ec a c0 xs,Ec a2_3_1 c2_3_1 xs,Ec none 0 [],Ec none 0 []]) (view_nil (encI .i64) 0 1 3 (sizedI _)) ?_
   refine ret_view (L':=[Ef b_1 c,Ec a c0 xs,.res (ScanR b_5_1 c (newSc xs))]) (vK (fun _:ScH=>True) (scanL b_5_1 c (newSc xs)) (⟨m_1_1,a2_3_1,none,none,c2_3_1,0,0,0⟩:ScH) [1,2,4,5,6] trivial) ?_
   exact ret_ok (post:=[Ec a c0 xs,.res (ScanR b_5_1 c (newSc xs))]) [1,2] kR ⟨b_5_1,rfl,rfl⟩
 have aS_7:∀(m_1_1:Nat) (a2_3_1:Option Addr) (c2_3_1:Nat),Lz prog f33 (bd f33) 49 F (RetR F (fun v L => ∃(s:Nat),v=vP s∧L=[Ec a c0 xs,.res (ScanR s c (newSc xs))])) (regOps (bd f33) [0,1,1]) [.c [1,1,1]] (mk 7 [0,1,2,3]) [0] [(14,.slice a2_3_1 xs.length c2_3_1),(12,.map (some m_1_1)),(1,.slice a xs.length c0),(2,vP b_1),(11,cfgV c)] [Ef b_1 c,.raw m_1_1 (.map #[] 0),Ec a c0 xs,Ec a2_3_1 c2_3_1 xs]:=by
  intro m_1_1 a2_3_1 c2_3_1
  refine zN [4] [(0,.e 0),(4,.w)] [14,12,1,2,11,15] [5] (.e b_1 .n) ⟨?_,trivial⟩
  refine zX .w (sN fun b_5_1=>(sV ?_))
  exact zW [16,1,2] [0,1,2,3,4] (aS_6 m_1_1 a2_3_1 c2_3_1 b_5_1)
 have aS_8:∀(m_1_1:Nat),Lz prog f33 (bd f33) 49 F (RetR F (fun v L => ∃(s:Nat),v=vP s∧L=[Ec a c0 xs,.res (ScanR s c (newSc xs))])) (regOps (bd f33) [0,1,1]) [.c [1,1,1]] (mk 7 [0,1,2]) [0,2] [(12,.map (some m_1_1)),(1,.slice a xs.length c0),(2,vP b_1),(11,cfgV c),(13,.slice a xs.length c0)] [Ec a c0 xs,Ef b_1 c,.raw m_1_1 (.map #[] 0)]:=by
  intro m_1_1
  refine zN [] [(0,.e 1),(2,.w)] [12,1,2,11,13] [3] (.e b_1 .n) ⟨?_,trivial⟩
  refine zC (some 14) [0] call77 (clone_i64 a c0 xs oa) ?_
  rintro v post ⟨a2_3_1,c2_3_1,rfl,rfl⟩
  exact zW [14,12,1,2,11] [0,1,2,3] (aS_7 m_1_1 a2_3_1 c2_3_1)
 have aS_9:∀(a2_3_1:Option Addr) (c2_3_1:Nat),Lz prog f33 (bd f33) 49 F (RetR F (fun v L => ∃(s:Nat),v=vP s∧L=[Ec a c0 xs,.res (ScanR s c (newSc xs))])) (regOps (bd f33) [0,1,1]) [.c [1,1,1]] (mk 7 [0,2,3]) [0] [(14,.slice a2_3_1 xs.length c2_3_1),(1,.slice a xs.length c0),(2,vP b_1),(11,cfgV c)] [Ef b_1 c,Ec a c0 xs,Ec a2_3_1 c2_3_1 xs]:=by
  intro a2_3_1 c2_3_1
  refine zN [] (kV 0 [.e 0]) [14,1,2,11] [1] (.e b_1 .n) ⟨?_,trivial⟩
  refine zX .w (sN fun m_1_1=>(sV ?_))
  exact zW [14,12,1,2,11] [0,3,1,2] (aS_7 m_1_1 a2_3_1 c2_3_1)
 refine zN [0,2] [(0,.e 1),(2,.w)] [1,2,11,13] [1,3] (.e b_1 .n) ⟨?_, ?_,trivial⟩
 ·refine zX .w (sN fun m_1_1=>(sV ?_))
  exact zW [12,1,2,11,13] [0,1,2] (aS_8 m_1_1)
 ·refine zC (some 14) [0] call77 (clone_i64 a c0 xs oa) ?_
  rintro v post ⟨a2_3_1,c2_3_1,rfl,rfl⟩
  exact zW [14,1,2,11] [0,1,2] (aS_9 a2_3_1 c2_3_1)
end Go.Proofs.YtpcaijopodhdgaaGreatDoor
namespace Go.Proofs.YtpcaijopodhdgaaGreatDoor
open Go.Proofs.Tryz
open Go.Sx
abbrev qo: List Nat:=[0,0,1,0,0,1,0,1,1]
abbrev qr: List Nat:=[1,1,0,0,1,0,1,1]
abbrev qca: List Nat:=[0,0,1,0,0,1,0,1,1,1]
theorem ref_inT(n a b:Int)(h:a≤n∧n≤b):
  Ctr prog 128 #[vI n,vI a,vI b] [] (Ret (.bool true) []):=by
 exact cb 15 func128 fun F=>gX [.sp [10,9] [] [.dead]] (gQ (decide (n≥a)) (gT (decide (n≥a)) ol (gI (.bool (decide (n≤b))) [] ⟨(congrArg Value.bool (by first | rfl | (simp; done) | (simp; omega))),rfl⟩)))
theorem ref_right(c:Cfg)(hc:c.Ok):
  Ctr prog 67 #[cfgV c] [] (Ret (.bool true) []):=by
 refine cb 57 func67 fun F=>gX [.w,.e 0,.e 1,.w,.e 0,.e 2,.e 0,.z [0,1,1,1] 2 [1,3,4,12]] (gN fun b_1=>gQ b_1 (gN fun b_2=>gQ b_2 (gQ b_1 (gN fun b_3=>gQ b_3 (gQ b_1 (gS [.o [0,1,1,1] 2,.c [1,1,1,1]] (gC (some 13) [] call128 (ref_inT c.topics 1 8 (by simp only [Cfg.Ok] at hc; omega)) (gX [.e 0,.z [0,1,1,1] 6 [1,3,4,14,16]] (gQ b_1 (gS [.o [0,1,1,1] 6,.c [1,1,1,1]] (gC (some 17) [] call128 (ref_inT c.small 4 32 (by simp only [Cfg.Ok] at hc; omega)) (gX [.e 0,.z [0,1,1,1] 11 [1,3,4,19,21]] (gQ b_1 (gS [.o [0,1,1,1] 11,.c [1,1,1,1]] (gC (some 22) [] call128 (ref_inT c.slots 1 8 (by simp only [Cfg.Ok] at hc; omega)) (gX [.e 0,.z [0,1,1,1] 16 [1,3,4,24,26]] (gQ b_1 (gS [.o [0,1,1,1] 16,.c [1,1,1,1]] (gC (some 27) [] call128 (ref_inT c.clients 1 8 (by simp only [Cfg.Ok] at hc; omega)) (gX [.e 0,.z [0,1,1,1] 21 [3,4,29,31]] (gQ b_1 (gS [.o [0,1,1,1] 21,.c [1,1,1,1]] ?_))))))))))))))))))))))
 refine gC (some 32) [] call128 (ref_inT c.retry 1 8 (by simp only [Cfg.Ok] at hc; omega)) (gX [.e 1,.z [0,1,1,1] 26 [3,4,34,36]] (gQ b_2 (gS [.o [0,1,1,1] 26,.c [1,1,1,1]] (gC (some 37) [] call128 (ref_inT c.s0 4 96 (by simp only [Cfg.Ok] at hc; omega)) (gX [.e 2,.e 1,.n,.z [0,1,1,1] 34 [3,4,39,41,44]] (gQ b_3 (gQ b_2 (gO (InK .i64 (c.s0+1)) og (gS [.o [0,1,1,1] 34,.c [1,1,1,1]] (gC (some 45) [] call128 (ref_inT c.s1 (c.s0+1) 96 (by simp only [Cfg.Ok] at hc; omega)) (gX [.e 1,.z [0,1,1,1] 39 [4,47,49]] (gQ b_2 (gS [.o [0,1,1,1] 39,.c [1,1,1,1]] (gC (some 50) [] call128 (ref_inT c.n0 0 12 (by simp only [Cfg.Ok] at hc; omega)) (gX [.e 2,.z [0,1,1,1] 44 [52,54]] (gQ b_3 (gS [.o [0,1,1,1] 44,.c [1,1,1,1]] (gC (some 55) [] call128 (ref_inT c.n1 0 12 (by simp only [Cfg.Ok] at hc; omega)) ?_))))))))))))))))))
 exact gX [] (gR (.bool true) [] ⟨rfl,rfl⟩)
theorem ref_Blocks(c:Cfg)(hc:c.Ok):
  Ctr prog 37 #[cfgV c] [] (Ret (vI (c.n0+c.n1)) []):=by
 exact cb 12 func37 fun F=>gX [.w,.e 0,.w,.e 0,.n] (gN fun b_1=>gQ b_1 (gQ b_1 (gO (InK .i64 (c.n0+c.n1)) og (gR (vI (c.n0+c.n1)) [] ⟨rfl,rfl⟩))))
theorem ref_Class(c:Cfg)(k:Int)(hc:c.Ok):
  Ctr prog 98 #[cfgV c,vI k] [] (Ret (vI (clsOf c k)) []):=by
 refine cb 19 func98 fun F=>gX [.sp [7,6] [] [.e 0,.z [0,0,1] 5 [1,2,7,8,9]]] (gN fun b_1=>gQ (decide (k<1)) (gB (decide (k<1)) (fun h_2 => ?_) (fun h_2 => ?_)))
 ·replace h_2:=decT h_2
  exact gI (vI (-1)) [] ⟨(congrArg (Value.int .i64) (by unfold clsOf; (repeat' split) <;> omega)),rfl⟩
 ·replace h_2:=decF h_2
  refine gQ b_1 (gS [.o [0,0,1] 5,.c [1,0,1],.c [1,1]] (gC (some 10) [] call37 (ref_Blocks c oM) (gX [.sp [12,11] [] [.w,.e 0,.sp [18] [] []]] (gQ (decide (k>(c.n0+c.n1))) (gB (decide (k>(c.n0+c.n1))) (fun h_3 => ?_) (fun h_3 => ?_))))))
  ·replace h_3:=decT h_3
   exact gI (vI (-1)) [] ⟨(congrArg (Value.int .i64) (by unfold clsOf; (repeat' split) <;> omega)),rfl⟩
  ·replace h_3:=decF h_3
   refine gQ b_1 (gB (decide (k≤c.n0)) (fun h_4 => ?_) (fun h_4 => ?_))
   ·replace h_4:=decT h_4
    exact gI (vI 0) [] ⟨(congrArg (Value.int .i64) (by unfold clsOf; (repeat' split) <;> omega)),rfl⟩
   ·replace h_4:=decF h_4
    exact gI (vI 1) [] ⟨(congrArg (Value.int .i64) (by unfold clsOf; (repeat' split) <;> omega)),rfl⟩
theorem ref_Class0(c:Cfg)(k:Int)(hc:c.Ok)(h:1≤k∧k≤c.n0):
  Ctr prog 98 #[cfgV c,vI k] [] (Ret (vI 0) []):=by
 exact cb 19 func98 fun F=>gX [.sp [7,6] [.dead] [.e 0,.z [0,0,1] 5 [1,2,7,8,9]]] (gN fun b_1=>gQ (decide (k<1)) (gF (decide (k<1)) (by simp only [Cfg.Ok] at hc; simp; omega) (gQ b_1 (gS [.o [0,0,1] 5,.c [1,0,1],.c [1,1]] (gC (some 10) [] call37 (ref_Blocks c oM) (gX [.sp [12,11] [.dead] [.w,.e 0,.sp [18] [] [.dead]]] (gQ (decide (k>(c.n0+c.n1))) (gF (decide (k>(c.n0+c.n1))) (by simp only [Cfg.Ok] at hc; simp; omega) (gQ b_1 (gT (decide (k≤c.n0)) (by simp only [Cfg.Ok] at hc; simp; omega) (gR (vI 0) [] ⟨rfl,rfl⟩)))))))))))
theorem ref_Class1(c:Cfg)(k:Int)(hc:c.Ok)(h:c.n0<k∧k≤c.n0+c.n1):
  Ctr prog 98 #[cfgV c,vI k] [] (Ret (vI 1) []):=by
 exact cb 19 func98 fun F=>gX [.sp [7,6] [.dead] [.e 0,.z [0,0,1] 5 [1,2,7,8,9]]] (gN fun b_1=>gQ (decide (k<1)) (gF (decide (k<1)) (by simp only [Cfg.Ok] at hc; simp; omega) (gQ b_1 (gS [.o [0,0,1] 5,.c [1,0,1],.c [1,1]] (gC (some 10) [] call37 (ref_Blocks c oM) (gX [.sp [12,11] [.dead] [.w,.e 0,.sp [18] [.dead] []]] (gQ (decide (k>(c.n0+c.n1))) (gF (decide (k>(c.n0+c.n1))) (by simp only [Cfg.Ok] at hc; simp; omega) (gQ b_1 (gF (decide (k≤c.n0)) (by simp only [Cfg.Ok] at hc; simp; omega) (gR (vI 1) [] ⟨rfl,rfl⟩)))))))))))
theorem ref_Slot(c:Cfg)(i:Int)(hc:c.Ok)(hi:InK .i64 i):
  Ctr prog 91 #[cfgV c,vI i] [] (Ret (vI (slotAt c i)) []):=by
 refine cb 15 func91 fun F=>gX [.sp [7,6] [] [.e 0,.sp [12,11] [] [.n]]] (gN fun b_1=>gQ (decide (i<0)) (gB (decide (i<0)) (fun h_2 => ?_) (fun h_2 => ?_)))
 ·replace h_2:=decT h_2
  exact gI (vI (-1)) [] ⟨(congrArg (Value.int .i64) (by unfold slotAt; (repeat' split) <;> omega)),rfl⟩
 ·replace h_2:=decF h_2
  refine gQ b_1 (gQ (decide (i≥c.slots)) (gB (decide (i≥c.slots)) (fun h_3 => ?_) (fun h_3 => ?_)))
  ·replace h_3:=decT h_3
   exact gI (vI (-1)) [] ⟨(congrArg (Value.int .i64) (by unfold slotAt; (repeat' split) <;> omega)),rfl⟩
  ·replace h_3:=decF h_3
   exact gO (InK .i64 (5+i)) og (gI (vI (5+i)) [] ⟨(congrArg (Value.int .i64) (by unfold slotAt; (repeat' split) <;> omega)),rfl⟩)
abbrev Ha: List (Nat×Hn):=[(11,.n),(12,.n),(13,.n)]
abbrev Hb: List (Nat×Hn):=[(11,.n),(12,.n),(13,.n)]
theorem ref_Size(c:Cfg)(hc:c.Ok):
  Ctr prog 130 #[cfgV c] [] (Ret (vI (sizeOfC c)) []):=by
 refine cb 38 func130 fun F=>gX [.e 0,.n,.e 0,.n,.e 0,.e 0,.n,.n,.n,.n,.u,.z qo 0 [1,3,4]] (gN fun b_1=>gQ b_1 (gO (InK .i64 (5+c.slots)) (by have hb:=size_nl hc; simp only [Cfg.Ok,InK] at *; omega) (gQ b_1 (gO (InK .i64 ((5+c.slots)+c.topics)) (by have hb:=size_nl hc; simp only [Cfg.Ok,InK] at *; omega) (gQ b_1 (gQ b_1 (gO (InK .i64 (2*c.small)) (by have hb:=size_nl hc; simp only [Cfg.Ok,InK] at *; omega) (gO (InK .i64 (1+(2*c.small))) (by have hb:=size_nl hc; simp only [Cfg.Ok,InK] at *; omega) (gO (InK .i64 (c.topics*(1+(2*c.small)))) (by have hb:=size_nl hc; simp only [Cfg.Ok,InK] at *; omega) (gO (InK .i64 (((5+c.slots)+c.topics)+(c.topics*(1+(2*c.small))))) (by have hb:=size_nl hc; simp only [Cfg.Ok,InK] at *; omega) (gW (ks:=[.c qo,.b 1,.c qr,.r [0,1,0,1,1],.b 0,.c [1,1,1]]) [(1,vP b_1),(3,vI (((5+c.slots)+c.topics)+(c.topics*(1+(2*c.small))))),(4,vI 0)] [Ef b_1 c] ?_)))))))))))
 have aS2_1:Any prog f130 (bd f130) 38 F (RetR F (Ret (vI (sizeOfC c)) [])) (regOps (bd f130) qo) [.b 1,.c qr,.r [0,1,0,1,1],.b 0,.c [1,1,1]] #[true,true,true,true,true,true,true,true,true,true,true,true,true,true,true] [(1,vP b_1),(3,vI ((((5+c.slots)+c.topics)+(c.topics*(1+(2*c.small))))+(c.n0*(1+c.s0)))),(4,vI 0)] [Ef b_1 c]:=by
  refine any_done kR ?_
  refine gX [.w,.u,.z qo 0 [1,3,4]] (gW (ks:=[.c qo,.b 1,.c qr,.r [0,1,0,1,1],.b 0,.c [1,1,1]]) [(1,vP b_1),(3,vI ((((5+c.slots)+c.topics)+(c.topics*(1+(2*c.small))))+(c.n0*(1+c.s0)))),(4,vI 1)] [Ef b_1 c] ?_)
  have aS2_1:Any prog f130 (bd f130) 38 F (RetR F (Ret (vI (sizeOfC c)) [])) (regOps (bd f130) qo) [.b 1,.c qr,.r [0,1,0,1,1],.b 0,.c [1,1,1]] #[true,true,true,true,true,true,true,true,true,true,true,true,true,true,true] [(1,vP b_1),(3,vI (((((5+c.slots)+c.topics)+(c.topics*(1+(2*c.small))))+(c.n0*(1+c.s0)))+(c.n1*(1+c.s1)))),(4,vI 1)] [Ef b_1 c]:=by
   refine any_done kR ?_
   exact gX [.w,.u] (gR (vI (((((5+c.slots)+c.topics)+(c.topics*(1+(2*c.small))))+(c.n0*(1+c.s0)))+(c.n1*(1+c.s1)))) [] ⟨rfl,rfl⟩)
  have aS1_1:Any prog f130 (bd f130) 38 F (RetR F (Ret (vI (sizeOfC c)) [])) (regOps (bd f130) qo) [.b 1,.c qr,.r [0,1,0,1,1],.b 0,.c [1,1,1]] #[true,true,true,true,true,true,true,true,true,true,false,false,false,false,false] [(1,vP b_1),(3,vI ((((5+c.slots)+c.topics)+(c.topics*(1+(2*c.small))))+(c.n0*(1+c.s0)))),(4,vI 1),(23,vI ((((5+c.slots)+c.topics)+(c.topics*(1+(2*c.small))))+(c.n0*(1+c.s0)))),(32,.pointer (some ⟨b_1,6,none⟩)),(28,vI c.n1)] [Ef b_1 c]:=by
   refine any_step [10] kR rfl ⟨?_,trivial⟩
   ·refine aX (.e 0) (sQ b_1 (sV ?_))
    refine aP Hb [1,3,4] (.p (InK .i64 (1+c.s1)) (by have hb:=size_nl hc; simp only [Cfg.Ok,InK] at *; omega) (.p (InK .i64 (c.n1*(1+c.s1))) (by have hb:=size_nl hc; simp only [Cfg.Ok,InK] at *; omega) (.p (InK .i64 (((((5+c.slots)+c.topics)+(c.topics*(1+(2*c.small))))+(c.n0*(1+c.s0)))+(c.n1*(1+c.s1)))) (by have hb:=size_nl hc; simp only [Cfg.Ok,InK] at *; omega) .n))) ?_
    exact aW [1,3,4] [0] aS2_1
  have aS3_1:Any prog f130 (bd f130) 38 F (RetR F (Ret (vI (sizeOfC c)) [])) (regOps (bd f130) qo) [.b 1,.c qr,.r [0,1,0,1,1],.b 0,.c [1,1,1]] #[true,true,true,true,true,false,true,true,true,true,true,true,false,false,false] [(1,vP b_1),(3,vI ((((5+c.slots)+c.topics)+(c.topics*(1+(2*c.small))))+(c.n0*(1+c.s0)))),(4,vI 1),(23,vI ((((5+c.slots)+c.topics)+(c.topics*(1+(2*c.small))))+(c.n0*(1+c.s0)))),(27,.pointer (some ⟨b_1,7,none⟩)),(34,vI (1+c.s1))] [Ef b_1 c]:=by
   refine any_step [5] kR rfl ⟨?_,trivial⟩
   ·refine aX (.e 0) (sQ b_1 (sV ?_))
    refine aP Hb [1,3,4] (.p (InK .i64 (c.n1*(1+c.s1))) (by have hb:=size_nl hc; simp only [Cfg.Ok,InK] at *; omega) (.p (InK .i64 (((((5+c.slots)+c.topics)+(c.topics*(1+(2*c.small))))+(c.n0*(1+c.s0)))+(c.n1*(1+c.s1)))) (by have hb:=size_nl hc; simp only [Cfg.Ok,InK] at *; omega) .n)) ?_
    exact aW [1,3,4] [0] aS2_1
  have aS0_1:Any prog f130 (bd f130) 38 F (RetR F (Ret (vI (sizeOfC c)) [])) (regOps (bd f130) qo) [.b 1,.c qr,.r [0,1,0,1,1],.b 0,.c [1,1,1]] #[true,true,true,true,true,false,true,true,true,true,false,false,false,false,false] [(1,vP b_1),(3,vI ((((5+c.slots)+c.topics)+(c.topics*(1+(2*c.small))))+(c.n0*(1+c.s0)))),(4,vI 1),(23,vI ((((5+c.slots)+c.topics)+(c.topics*(1+(2*c.small))))+(c.n0*(1+c.s0)))),(27,.pointer (some ⟨b_1,7,none⟩)),(32,.pointer (some ⟨b_1,6,none⟩))] [Ef b_1 c]:=by
   refine any_step [5,10] kR rfl ⟨?_, ?_,trivial⟩
   ·refine aX (.e 0) (sQ b_1 (sV ?_))
    refine aP Hb [1,3,4,23,32,28] .n ?_
    exact aW [1,3,4,23,32,28] [0] aS1_1
   ·refine aX (.e 0) (sQ b_1 (sV ?_))
    refine aP Hb [1,3,4,23,27,34] (.p (InK .i64 (1+c.s1)) (by have hb:=size_nl hc; simp only [Cfg.Ok,InK] at *; omega) .n) ?_
    exact aW [1,3,4,23,27,34] [0] aS3_1
  refine go_any kR kR ?_
  refine aP Hb [1,3,4,23,27,32] .n ?_
  exact aW [1,3,4,23,27,32] [0] aS0_1
 have aS1_1:Any prog f130 (bd f130) 38 F (RetR F (Ret (vI (sizeOfC c)) [])) (regOps (bd f130) qo) [.b 1,.c qr,.r [0,1,0,1,1],.b 0,.c [1,1,1]] #[true,true,true,true,true,true,true,true,true,true,false,false,false,false,false] [(1,vP b_1),(3,vI (((5+c.slots)+c.topics)+(c.topics*(1+(2*c.small))))),(4,vI 0),(23,vI (((5+c.slots)+c.topics)+(c.topics*(1+(2*c.small))))),(32,.pointer (some ⟨b_1,4,none⟩)),(28,vI c.n0)] [Ef b_1 c]:=by
  refine any_step [10] kR rfl ⟨?_,trivial⟩
  ·refine aX (.e 0) (sQ b_1 (sV ?_))
   refine aP Ha [1,3,4] (.p (InK .i64 (1+c.s0)) (by have hb:=size_nl hc; simp only [Cfg.Ok,InK] at *; omega) (.p (InK .i64 (c.n0*(1+c.s0))) (by have hb:=size_nl hc; simp only [Cfg.Ok,InK] at *; omega) (.p (InK .i64 ((((5+c.slots)+c.topics)+(c.topics*(1+(2*c.small))))+(c.n0*(1+c.s0)))) (by have hb:=size_nl hc; simp only [Cfg.Ok,InK] at *; omega) .n))) ?_
   exact aW [1,3,4] [0] aS2_1
 have aS3_1:Any prog f130 (bd f130) 38 F (RetR F (Ret (vI (sizeOfC c)) [])) (regOps (bd f130) qo) [.b 1,.c qr,.r [0,1,0,1,1],.b 0,.c [1,1,1]] #[true,true,true,true,true,false,true,true,true,true,true,true,false,false,false] [(1,vP b_1),(3,vI (((5+c.slots)+c.topics)+(c.topics*(1+(2*c.small))))),(4,vI 0),(23,vI (((5+c.slots)+c.topics)+(c.topics*(1+(2*c.small))))),(27,.pointer (some ⟨b_1,5,none⟩)),(34,vI (1+c.s0))] [Ef b_1 c]:=by
  refine any_step [5] kR rfl ⟨?_,trivial⟩
  ·refine aX (.e 0) (sQ b_1 (sV ?_))
   refine aP Ha [1,3,4] (.p (InK .i64 (c.n0*(1+c.s0))) (by have hb:=size_nl hc; simp only [Cfg.Ok,InK] at *; omega) (.p (InK .i64 ((((5+c.slots)+c.topics)+(c.topics*(1+(2*c.small))))+(c.n0*(1+c.s0)))) (by have hb:=size_nl hc; simp only [Cfg.Ok,InK] at *; omega) .n)) ?_
   exact aW [1,3,4] [0] aS2_1
 have aS0_1:Any prog f130 (bd f130) 38 F (RetR F (Ret (vI (sizeOfC c)) [])) (regOps (bd f130) qo) [.b 1,.c qr,.r [0,1,0,1,1],.b 0,.c [1,1,1]] #[true,true,true,true,true,false,true,true,true,true,false,false,false,false,false] [(1,vP b_1),(3,vI (((5+c.slots)+c.topics)+(c.topics*(1+(2*c.small))))),(4,vI 0),(23,vI (((5+c.slots)+c.topics)+(c.topics*(1+(2*c.small))))),(27,.pointer (some ⟨b_1,5,none⟩)),(32,.pointer (some ⟨b_1,4,none⟩))] [Ef b_1 c]:=by
  refine any_step [5,10] kR rfl ⟨?_, ?_,trivial⟩
  ·refine aX (.e 0) (sQ b_1 (sV ?_))
   refine aP Ha [1,3,4,23,32,28] .n ?_
   exact aW [1,3,4,23,32,28] [0] aS1_1
  ·refine aX (.e 0) (sQ b_1 (sV ?_))
   refine aP Ha [1,3,4,23,27,34] (.p (InK .i64 (1+c.s0)) (by have hb:=size_nl hc; simp only [Cfg.Ok,InK] at *; omega) .n) ?_
   exact aW [1,3,4,23,27,34] [0] aS3_1
 refine go_any kR kR ?_
 refine aP Ha [1,3,4,23,27,32] .n ?_
 exact aW [1,3,4,23,27,32] [0] aS0_1
theorem ref_Block(c:Cfg)(k:Int)(hc:c.Ok)(h:1≤k∧k≤c.n0+c.n1):
  Ctr prog 85 #[cfgV c,vI k] [] (Ret (vI (blockAt c k)) []):=by
 refine cb 45 func85 fun F=>gX [.sp [9,8] [.dead] [.e 0,.z [0,0,1] 5 [1,2,9,10,11]]] (gN fun b_1=>gQ (decide (k<1)) (gF (decide (k<1)) ol (gQ b_1 (gS [.o [0,0,1] 5,.c [1,0,1],.c [1,1]] (gC (some 12) [] call37 (ref_Blocks c oM) (gX [.sp [14,13] [.dead] [.e 0,.n,.e 0,.n,.e 0,.e 0,.n,.n,.n,.n,.z [0,1,0,1,1,1] 0 [1,2,5,6]]] (gQ (decide (k>(c.n0+c.n1))) (gF (decide (k>(c.n0+c.n1))) ol (gQ b_1 (gO (InK .i64 (5+c.slots)) (by have hb:=size_nl hc; simp only [Cfg.Ok,InK] at *; omega) (gQ b_1 (gO (InK .i64 ((5+c.slots)+c.topics)) (by have hb:=size_nl hc; simp only [Cfg.Ok,InK] at *; omega) (gQ b_1 (gQ b_1 (gO (InK .i64 (2*c.small)) (by have hb:=size_nl hc; simp only [Cfg.Ok,InK] at *; omega) (gO (InK .i64 (1+(2*c.small))) (by have hb:=size_nl hc; simp only [Cfg.Ok,InK] at *; omega) (gO (InK .i64 (c.topics*(1+(2*c.small)))) (by have hb:=size_nl hc; simp only [Cfg.Ok,InK] at *; omega) (gO (InK .i64 (((5+c.slots)+c.topics)+(c.topics*(1+(2*c.small))))) (by have hb:=size_nl hc; simp only [Cfg.Ok,InK] at *; omega) (gW (ks:=[.c [0,1,0,1,1,1],.b 0,.c [1,1,1,1]]) [(1,vI k),(2,vP b_1),(5,vI (((5+c.slots)+c.topics)+(c.topics*(1+(2*c.small))))),(6,vI 1)] [Ef b_1 c] ?_)))))))))))))))))))
 refine go_loop (ι := Int) (fun i=>[(1,vI k),(2,vP b_1),(5,vI (blockAt c i)),(6,vI i)]) (fun i=>[Ef b_1 c]) (fun i=>1≤i∧i≤k) (fun i=>(k-i).toNat) 1 [1,2,5,6] [0] kR (by first | rfl | (rw [blk_one hc oa]; rfl)) kR kR ⟨by omega,by omega⟩ ?_
 intro i J_2 hIJ_2 hJ_2
 have hx:=hIJ_2
 refine gX [.sp [31] [.n,.e 0,.z qca 4 [1,2,6,35,36,37]] []] (gB (decide (i<k)) (fun h_3 => ?_) (fun h_3 => ?_))
 ·replace h_3:=decT h_3
  refine gO (InK .i64 ((blockAt c i)+1)) (by have hb:=size_nl hc; have hq:=blockAt_ok hc (clsOf_pos (c:=c) (b:=i) oa); have hz:=sizeOfC_ok hc; simp only [Cfg.Ok,InK] at *; omega) (gQ b_1 (gW (ks:=[.o qca 4,.b 1,.c [1,1,0,0,1,0,1,1,1],.j J_2,.b 0,.c [1,1,1,1]]) [(1,vI k),(2,vP b_1),(6,vI i),(35,vI ((blockAt c i)+1)),(36,cfgV c),(37,vI i)] [Ef b_1 c] ?_))
  by_cases hcl:i≤c.n0
  ·refine gC (some 38) [] call98 (ref_Class0 c i oM oa) ?_
   refine gX [.w,.e 0,.n,.n,.z [] 0 [1,2,5,6]] (gQ b_1 (gO (InK .i64 (((blockAt c i)+1)+c.s0)) (by have hb:=size_nl hc; have hq:=blockAt_ok hc (clsOf_pos (c:=c) (b:=i) oa); have hz:=sizeOfC_ok hc; simp only [Cfg.Ok,InK] at *; omega) (gO (InK .i64 (i+1)) (by have hb:=size_nl hc; have hq:=blockAt_ok hc (clsOf_pos (c:=c) (b:=i) oa); have hz:=sizeOfC_ok hc; simp only [Cfg.Ok,InK] at *; omega) (gW (ks:=[.j J_2,.b 0,.c [1,1,1,1]]) [(1,vI k),(2,vP b_1),(5,vI (((blockAt c i)+1)+c.s0)),(6,vI (i+1))] [Ef b_1 c] ?_))))
   exact go_back hJ_2 (i+1) [0] kR (by first | rfl | (rw [ref_block hc oa]; first | rw [if_pos hcl] | rw [if_neg hcl])) rfl oa oa
  ·refine gC (some 38) [] call98 (ref_Class1 c i oM oa) ?_
   refine gX [.w,.e 0,.n,.n,.z [] 0 [1,2,5,6]] (gQ b_1 (gO (InK .i64 (((blockAt c i)+1)+c.s1)) (by have hb:=size_nl hc; have hq:=blockAt_ok hc (clsOf_pos (c:=c) (b:=i) oa); have hz:=sizeOfC_ok hc; simp only [Cfg.Ok,InK] at *; omega) (gO (InK .i64 (i+1)) (by have hb:=size_nl hc; have hq:=blockAt_ok hc (clsOf_pos (c:=c) (b:=i) oa); have hz:=sizeOfC_ok hc; simp only [Cfg.Ok,InK] at *; omega) (gW (ks:=[.j J_2,.b 0,.c [1,1,1,1]]) [(1,vI k),(2,vP b_1),(5,vI (((blockAt c i)+1)+c.s1)),(6,vI (i+1))] [Ef b_1 c] ?_))))
   exact go_back hJ_2 (i+1) [0] kR (by first | rfl | (rw [ref_block hc oa]; first | rw [if_pos hcl] | rw [if_neg hcl])) rfl oa oa
 ·replace h_3:=decF h_3
  exact gI (vI (blockAt c i)) [] ⟨(congrArg (Value.int .i64) (by congr 1; omega)),rfl⟩
end Go.Proofs.YtpcaijopodhdgaaGreatDoor
namespace Go.Proofs.YtpcaijopodhdgaaGreatDoor
open Go.Proofs.Tryz
open Go.Sx
abbrev Ed(x0:Nat)(a1:Ar)(x2:Bool)(x3:Int): Ent:=.pts x0 [.slice a1.aw a1.n a1.cw,.int .i64 a1.steps,.int .i64 a1.lk,.int .i64 a1.lw,.int .u64 a1.lv,.bool a1.lc,.bool x2,.int .i64 x3] 67
abbrev Eac(x0:Nat)(a1:Ar)(x2:Int)(x3:Int)(x4:Int)(x5:Int)(x6:Bool)(x7:Bool)(x8:Int): Ent:=.pts x0 [.slice a1.aw a1.n a1.cw,.int .i64 x2,.int .i64 x3,.int .i64 x4,.int .u64 x5,.bool x6,.bool x7,.int .i64 x8] 67
abbrev EV(x0:Nat)(x1:Int)(x2:Int)(x3:Int)(x4:Int)(x5:Int)(x6:Int)(x7:Int)(x8:Int)(x9:Int): Ent:=.pts x0 [.int .i64 x1,.int .i64 x2,.int .i64 x3,.int .i64 x4,.int .i64 x5,.int .i64 x6,.int .i64 x7,.int .i64 x8,.int .i64 x9] 3
abbrev Eaj(a0:Ar)(x1:List Int): Ent:=.sl a0.aw a0.cw (encI .u64) 0 1 x1 60
abbrev Ex(x0:Nat)(x1:Option Addr)(x2:Nat)(x3:Nat)(x4:Int)(x5:Int)(x6:Int)(x7:Int)(x8:Bool)(x9:Bool)(x10:Int): Ent:=.pts x0 [.slice x1 x2 x3,.int .i64 x4,.int .i64 x5,.int .i64 x6,.int .u64 x7,.bool x8,.bool x9,.int .i64 x10] 67
theorem ref_step(ra:Nat)(A:Ar)(i kd:Int)(hn:A.ws.length=A.n)(hi:0≤i∧i<A.n)(hs : -1000000000≤A.steps∧A.steps≤1000000000):
  Ctr prog 144 #[vP ra,vI kd,vI i] [Ed ra A false 0] (Ret (.bool true) [Eac ra A (A.steps+1) kd i 0 false false 0]):=by
 exact cb 43 func144 fun F=>gX [.e 0,.n,.e 0,.e 0,.sp [22,21] [.e 0,.sp [30,29] [] [.dead]] [.dead]] (gQ ra (gO (InK .i64 (A.steps+1)) oh (gQ ra (gQ ra (gQ (decide (i≥0)) (gT (decide (i≥0)) ol (gQ ra (gQ (decide (i<(A.n:Int))) (gT (decide (i<(A.n:Int))) ol (gJ [0] ⟨rfl,rfl⟩))))))))))
theorem ref_Load(ra:Nat)(A:Ar)(i:Int)(hn:A.ws.length=A.n)(hi:0≤i∧i<A.n)(hs : -1000000000≤A.steps∧A.steps≤1000000000):
  Ctr prog 86 #[vP ra,vI i] [Ed ra A false 0,Ea A] (Ret (vU (A.ws.getD i.toNat 0)) [Ed ra (A.load i) false 0,Ea (A.load i)]):=by
 exact cb 29 func86 fun F=>gX [.z [0,1] 2 [0,1,6,7]] (gS [.o [0,1] 2,.c [1,1]] (gC (some 8) [0] call144 (ref_step ra A i 1 oM oM oM) (gX [.e 1,.s 0,.j 0 i.toNat,.e 1,.e 1,.s 0,.j 0 i.toNat] (gQ ra (gO (A.aw=A.aw∧A.n=A.ws.length) ⟨rfl,oe⟩ (gO ((0:Int)≤i∧i<(A.ws.length:Int)) oW (gQ (slAt A.aw i.toNat 1) (gO (i.toNat<A.ws.length) oW (gQ ra (gQ ra (gO (A.aw=A.aw∧A.n=A.ws.length) ⟨rfl,oe⟩ (gO ((0:Int)≤i∧i<(A.ws.length:Int)) oW (gQ (slAt A.aw i.toNat 1) (gO (i.toNat<A.ws.length) oW (gJ [1,0] ⟨rfl,rfl⟩)))))))))))))))
theorem ref_Store0(ra:Nat)(A:Ar)(i v_:Int)(hn:A.ws.length=A.n)(hi:0≤i∧i<A.n)(hs : -1000000000≤A.steps∧A.steps≤1000000000):
  Ctr prog 84 #[vP ra,vI i,vU v_] [Ed ra A false 0,Ea A] (Ret (undef) [Ed ra (A.rstore i v_) false 0,Ea (A.rstore i v_)]):=by
 refine cb 27 func84 fun F=>gX [.z [0] 2 [0,1,2,7,8]] (gS [.o [0] 2,.c [1]] (gC (some 9) [0] call144 (ref_step ra A i 2 oM oM oM) ?_))
 refine go_exec (rs:=[]) kR 4000 [.e 1,.s 0,.j 0 i.toNat,.e 1,.e 1] (o:=.obl (ra=ra) (.obl (A.aw=A.aw∧A.n=A.ws.length) (.obl ((0:Int)≤i∧i<(A.ws.length:Int)) (.obl (slAt A.aw i.toNat 1=slAt A.aw i.toNat 1) (.obl (i.toNat<A.ws.length) (.ex fun x_1:Int=>.obl ([vU v_]=(encI .u64) x_1) (.obl (ra=ra) (.obl (ra=ra) (.ret (undef) [Eaj A (A.ws.set i.toNat x_1),Eac ra A (A.steps+1) 2 i v_ true false 0]))))))))) kR ?_
 refine ok_obl rfl ?_
 refine ok_obl ⟨rfl,oe⟩ ?_
 refine ok_obl oW ?_
 refine ok_obl rfl ?_
 refine ok_obl oW ?_
 refine ok_ex (v_:Int) ?_
 refine ok_obl rfl ?_
 refine ok_obl rfl ?_
 refine ok_obl rfl ?_
 exact rK [1,0] ⟨rfl,rfl⟩
theorem ref_Store(ra:Nat)(A:Ar)(i v_:Int)(hn:A.ws.length=A.n)(hi:0≤i∧i<A.n)(hs : -1000000000≤A.steps∧A.steps≤1000000000):
  Ctr prog 84 #[vP ra,vI i,vU v_] [Ed ra A false 0,Ea A] (Ret (undef) [Ed ra (A.store i v_) false 0,Ea (A.store i v_)]):=by
 have h:=ref_Store0 ra A i v_ hn hi hs
 rw [rstore_eq oa] at h
 exact h
theorem ref_SwapT(ra:Nat)(A:Ar)(i old new:Int)(hn:A.ws.length=A.n)(hi:0≤i∧i<A.n)(hs : -1000000000≤A.steps∧A.steps≤1000000000)(hw:A.ws.getD i.toNat 0=old):
  Ctr prog 89 #[vP ra,vI i,vU old,vU new] [Ed ra A false 0,Ea A] (Ret (.bool true) [Ed ra (A.swapT i new) false 0,Ea (A.swapT i new)]):=by
 refine cb 51 func89 fun F=>gX [.z [0,1] 2 [0,1,2,3,10,11]] (gS [.o [0,1] 2,.c [1,1]] (gC (some 12) [0] call144 (ref_step ra A i 3 oM oM oM) ?_))
 refine go_exec (rs:=[.tmp 8]) kR 4000 [.e 1,.s 0,.j 0 i.toNat,.sp [23] [.e 1,.s 0,.j 0 i.toNat,.e 1,.e 1,.s 0,.j 0 i.toNat,.e 1,.e 1] [.dead]] (o:=.obl (ra=ra) (.obl (A.aw=A.aw∧A.n=A.ws.length) (.obl ((0:Int)≤i∧i<(A.ws.length:Int)) (.obl (slAt A.aw i.toNat 1=slAt A.aw i.toNat 1) (.obl (i.toNat<A.ws.length) (.br ((A.ws.getD i.toNat 0)==old) (.obl (ra=ra) (.obl (A.aw=A.aw∧A.n=A.ws.length) (.obl ((0:Int)≤i∧i<(A.ws.length:Int)) (.obl (slAt A.aw i.toNat 1=slAt A.aw i.toNat 1) (.obl (i.toNat<A.ws.length) (.ex fun x_1:Int=>.obl ([vU new]=(encI .u64) x_1) (.obl (ra=ra) (.obl (ra=ra) (.obl (A.aw=A.aw∧A.n=(A.ws.set i.toNat x_1).length) (.obl ((0:Int)≤i∧i<(((A.ws.set i.toNat x_1).length:Nat):Int)) (.obl (slAt A.aw i.toNat 1=slAt A.aw i.toNat 1) (.obl (i.toNat<(A.ws.set i.toNat x_1).length) (.obl (ra=ra) (.obl (ra=ra) (.ret (.bool true) [Eaj A (A.ws.set i.toNat x_1),Eac ra A (A.steps+1) 3 i ((A.ws.set i.toNat x_1).getD i.toNat 0) true false 0]))))))))))))))) (.bad))))))) kR ?_
 refine ok_obl rfl ?_
 refine ok_obl ⟨rfl,oe⟩ ?_
 refine ok_obl oW ?_
 refine ok_obl rfl ?_
 refine ok_obl oW ?_
 refine ok_br (fun _ => ?_) (fun h=>absurd (show((A.ws.getD i.toNat 0)==old)=true from(by rw [hw]; simp)) (by rw [h]; simp))
 refine ok_obl rfl ?_
 refine ok_obl ⟨rfl,oe⟩ ?_
 refine ok_obl oW ?_
 refine ok_obl rfl ?_
 refine ok_obl oW ?_
 refine ok_ex (new:Int) ?_
 refine ok_obl rfl ?_
 refine ok_obl rfl ?_
 refine ok_obl rfl ?_
 refine ok_obl ⟨rfl,oe⟩ ?_
 refine ok_obl oW ?_
 refine ok_obl rfl ?_
 refine ok_obl oW ?_
 refine ok_obl rfl ?_
 refine ok_obl rfl ?_
 exact rK [1,0] ⟨rfl,rfl⟩
theorem ref_SwapF(ra:Nat)(A:Ar)(i old new:Int)(hn:A.ws.length=A.n)(hi:0≤i∧i<A.n)(hs : -1000000000≤A.steps∧A.steps≤1000000000)(hw:A.ws.getD i.toNat 0≠old):
  Ctr prog 89 #[vP ra,vI i,vU old,vU new] [Ed ra A false 0,Ea A] (Ret (.bool false) [Ed ra (A.swapF i) false 0,Ea (A.swapF i)]):=by
 exact cb 51 func89 fun F=>gX [.z [0,1] 2 [0,1,2,3,10,11]] (gS [.o [0,1] 2,.c [1,1]] (gC (some 12) [0] call144 (ref_step ra A i 3 oM oM oM) (gX [.e 1,.s 0,.j 0 i.toNat,.sp [23] [.dead] [.e 1,.s 0,.j 0 i.toNat,.e 1,.e 1]] (gQ ra (gO (A.aw=A.aw∧A.n=A.ws.length) ⟨rfl,oe⟩ (gO ((0:Int)≤i∧i<(A.ws.length:Int)) oW (gQ (slAt A.aw i.toNat 1) (gO (i.toNat<A.ws.length) oW (gF ((A.ws.getD i.toNat 0)==old) (beq_eq_false_iff_ne.2 hw) (gQ ra (gO (A.aw=A.aw∧A.n=A.ws.length) ⟨rfl,oe⟩ (gO ((0:Int)≤i∧i<(A.ws.length:Int)) oW (gQ (slAt A.aw i.toNat 1) (gO (i.toNat<A.ws.length) oW (gQ ra (gQ ra (gJ [1,0] ⟨rfl,rfl⟩)))))))))))))))))
theorem ref_New(n:Int)(h:1≤n∧n≤4096):
  Ctr prog 129 #[vI n] [] (fun v L => ∃(ra:Nat) (aw:Option Addr) (cw:Nat),v=vP ra∧L=[Ex ra aw ((List.replicate n.toNat (0:Int)).length) cw 0 0 0 0 false false 0,Ee aw cw (List.replicate n.toNat (0:Int))]):=by
 refine cb 7 func129 fun F=>gX [.z [0,1] 1 [3]] (gW (ks:=[.o [0,1] 1,.c [1,1]]) [(3,vI n)] [] ?_)
 refine go_make (kl:=.i64) (kc:=.i64) (encI .u64) 0 (0:Int) 1 (sizedI _) 60 8 (some 4) n n kR oa oa oa oa ?_
 intro a_1 c_2
 exact gX [] (gN fun b_3=>gJ [1,0] ⟨b_3,a_1,c_2,rfl,rfl⟩)
theorem ref_Mark(cl bk:Int)(hcl:0≤cl+1∧cl+1≤4294967295)(hb:0≤bk∧bk≤4294967295):
  Ctr prog 147 #[vI cl,vI bk] [] (Ret (vU (markW cl bk)) []):=by
 exact cb 14 func147 fun F=>gX [.n,.w,.w,.n,.w,.w,.w] (gO (InK .i64 (cl+1)) oh (gO ((0:Int)≤32) oW (gR (vU (IntKind.u64.wrap ((bShl .u64 (IntKind.u64.wrap (IntKind.u32.wrap (cl+1))) 32)+(IntKind.u64.wrap (IntKind.u32.wrap bk))))) [] ⟨(congrArg (Value.int .u64) (mark_eq hcl hb)),rfl⟩)))
theorem ref10_Make(t_ bk:Int)(ht:0≤t_∧t_≤4294967295)(hb:0≤bk∧bk≤4294967295):
  Ctr prog 176 #[.int .u32 t_,vI bk] [] (Ret (vU (t_*4294967296+bk)) []):=by
 exact cb 12 func176 fun F=>gX [.w,.n,.w,.w,.w] (gO ((0:Int)≤32) oW (gR (vU (IntKind.u64.wrap ((bShl .u64 (IntKind.u64.wrap t_) 32)+(IntKind.u64.wrap (IntKind.u32.wrap bk))))) [] ⟨(congrArg (Value.int .u64) (make10_eq ht hb)),rfl⟩))
theorem ref10_Turn(w_ bk:Int)(hw:0≤w_∧w_≤18446744073709551615)(hb:0≤bk∧bk≤4294967295):
  Ctr prog 143 #[vU w_,vI bk] [] (Ret (vU (turnW w_ bk)) []):=by
 exact cb 11 func143 fun F=>gX [.n,.w,.w,.z [0,1] 5 [8,9]] (gO ((0:Int)≤32) oW (gS [.o [0,1] 5,.c [1,1]] (gC (some 10) [] call176 (ref10_Make (IntKind.u32.wrap ((IntKind.u32.wrap (bShr .u64 w_ 32))+1)) bk (wrap32_rng _) oM) (gX [] (gR (vU ((IntKind.u32.wrap ((IntKind.u32.wrap (bShr .u64 w_ 32))+1))*4294967296+bk)) [] ⟨(congrArg (Value.int .u64) (turn10_eq hw)),rfl⟩)))))
set_option maxHeartbeats 4000000 in
theorem ref_Of(b:Nat)(x0 x1 x2 x3 x4 x5 x6 x7 x8:Int):
  Ctr prog 45 #[.slice (some ⟨b,0,none⟩) 9 9] [EV b x0 x1 x2 x3 x4 x5 x6 x7 x8] (Ret (.agg #[vI x0,vI x1,vI x2,vI x3,vI x5,vI x6,vI x7,vI x8,vI x4]) [EV b x0 x1 x2 x3 x4 x5 x6 x7 x8]):=by
 refine cb 39 func45 fun F=>gX [.z [0,1] 0 [0,2]] (gN fun b_1=>gW (ks:=[.c [0,1],.c [1,1]]) [(0,.slice (some ⟨b,0,none⟩) 9 9),(2,vP b_1)] [EV b x0 x1 x2 x3 x4 x5 x6 x7 x8,Eab b_1 0 0 0 0 0 0 0 0 0] (zG (zN [0,1,2,3,4,5,6,7,8,9,10,11,12,13,14,15] (kV 0 [.w,.w,.e 0,.w,.w,.e 0,.w,.w,.e 0,.w,.w,.e 0,.w,.w,.e 0,.w]) [0,2,4,5,6,7,8,9,10,11,12,13,14,15,16,17,18,19] [16] (.e b (.e b (.e b (.e b (.e b .n))))) ⟨?_,trivial⟩)))
 refine zX .w (sN fun b_16_1=>(sV ?_))
 refine zN [] (kV 0 [.w,.w,.e 0,.w,.w,.e 0,.w,.w,.e 0,.w,.w,.e 0,.w,.w,.e 0,.w]) [3,0,2,4,5,6,7,8,9,10,11,12,13,14,15,16,17,18,19] [17] (.e b (.e b (.e b (.e b (.e b .n))))) ⟨?_,trivial⟩
 refine zX (.e 2) (sQ b_16_1 (sK ?_))
 refine zE [] [] [3,0,2] .n (gX [.z [0,1,1] 0 [0,2,3]] (gS [.c [0,1,1],.c [1,1,1]] ?_))
 refine tO (kV 0 [.ww,.ww,.e 0,.ww,.ww,.e 0,.ww,.ww,.ww]) 9 [] (.e 2) [0,2,3] (.e b (.e b .n)) .n (sQ b_16_1 (sK ?_))
 refine tN .n ?_
 refine gX [.z [0,1,1,1] 0 [0,2,3]] (gS [.c [0,1,1,1],.c [1,1,1,1]] ?_)
 refine tO (kV 0 [.ww,.ww,.e 0,.ww,.ww,.e 0,.ww,.ww,.ww]) 9 [] (.e 2) [2,3] (.e b (.e b .n)) .n (sQ b_16_1 (sK ?_))
 refine tN .n ?_
 exact gX [.e 2,.e 1,.e 1] (gQ b_16_1 (gQ b_1 (gQ b_1 (gJ [0] ⟨rfl,rfl⟩))))
end Go.Proofs.YtpcaijopodhdgaaGreatDoor
namespace Go.Proofs.YtpcaijopodhdgaaGreatDoor
open Go.Proofs.Tryz
open Go.Sx
abbrev Eao(x0:Nat)(c1:Cfg): Ent:=.pts x0 [.int .i64 c1.topics,.int .i64 c1.small,.int .i64 c1.slots,.int .i64 c1.clients,.int .i64 c1.retry,.int .i64 c1.s0,.int .i64 c1.n0,.int .i64 c1.s1,.int .i64 c1.n1] 3
theorem ref_Parts(c:Cfg):
  Ctr prog 170 #[cfgV c] [] (fun v L => ∃(b:Nat),v = .slice (some ⟨b,0,none⟩) 9 9∧L=[Eao b c]):=by
 exact cb 30 func170 fun F=>gX [.e 0,.e 0,.e 0,.e 0,.e 0,.w,.e 0,.w,.e 0,.w,.e 0,.w,.e 0] (gN fun b_1=>gQ b_1 (gQ b_1 (gQ b_1 (gQ b_1 (gQ b_1 (gQ b_1 (gQ b_1 (gQ b_1 (gQ b_1 (gN fun b_2=>gJ [1] ⟨b_2,rfl,rfl⟩))))))))))
end Go.Proofs.YtpcaijopodhdgaaGreatDoor
namespace Go.Proofs.YtpcaijopodhdgaaGreatDoor
open Go.Proofs.Tryz
open Go.Sx
abbrev qcb: List Nat:=[0,0,0,1,0,0,1,0,1]
abbrev qcc: List Nat:=[0,0,0,1,0,0,1,0,1,1]
theorem ref_Has(a:Option Addr)(c c0 n:Nat)(xs:List Int)(v_:Int)(hn:n≤xs.length)(hl:n≤1000000):
  Ctr prog 38 #[.slice a n c,vI v_] [Ec a c0 xs] (Ret (.bool (hasN xs n v_)) [Ec a c0 xs]):=by
 refine cb 18 func38 fun F=>gX [.z [0,1,0,1] 0 [0,1,5]] (gS [.c [0,1,0,1],.b 0,.c [1,1]] ?_)
 refine go_loop (ι := Int) (fun i=>[(0,.slice a n c),(1,vI v_),(5,vI i)]) (fun i=>[Ec a c0 xs]) (fun i=>(0≤i∧i≤(n:Int))∧∀j:Nat,(j:Int)<i→xs.getD j 0≠v_) (fun i=>((n:Int)-i).toNat) 0 [0,1,5] [0] kR kR kR kR ⟨oa,fun j h=>oa⟩ ?_
 intro i J_1 hIJ_1 hJ_1
 have hx:=hIJ_1
 refine gX [.sp [9] [.z qcb 2 [0,1,5,12,13]] []] (gB (decide (i<((n:Nat):Int))) (fun h_2 => ?_) (fun h_2 => ?_))
 ·replace h_2:=decT h_2
  refine gS [.o qcb 2,.c [1,0,0,1,0,0,1,0,1],.b 1,.c [1,1,0,0,1,0,1],.j J_1,.b 0,.c [1,1]] ?_
  refine go_by (some 14) (ipO prog _) (some (.slice a n c,vI i,1)) (R_ixP 0 (a:=a) (c:=c0) (enc:=encI .i64) (d:=0) (sz:=1) (xs:=xs) (te:=3)  kR n c .i64 i oa oa) kR ?_
  rintro v L2 ⟨rfl,rfl⟩
  refine gX [.j 0 i.toNat,.sp [17] [] [.n,.z [] 0 [0,1,5]]] (gQ (slAt a i.toNat 1) (gO (i.toNat<xs.length) oW (gB ((xs.getD i.toNat 0)==v_) (fun h_3 => ?_) (fun h_3 => ?_))))
  ·replace h_3:=beqT h_3
   exact gI (.bool true) [0] ⟨(congrArg Value.bool (hasN_yes (i:=i) oa hn (by assumption)).symm),rfl⟩
  ·replace h_3:=beqF h_3
   refine gO (InK .i64 (i+1)) oh (gS [.j J_1,.b 0,.c [1,1]] ?_)
   exact go_back hJ_1 (i+1) [0] kR kR kR ⟨oa,has_step hx.2 hx.1.1 (by assumption)⟩ oa
 ·replace h_2:=decF h_2
  exact gI (.bool false) [0] ⟨(congrArg Value.bool (hasN_no hx.2 oa).symm),rfl⟩
theorem same_u64(a b:Option Addr)(c d:Nat)(xs ys:List Int)(hl:xs.length≤1000000):
  Ctr prog 43 #[.slice a xs.length c,.slice b ys.length d] [Ee a c xs,Ee b d ys] (Ret (.bool (xs==ys)) [Ee a c xs,Ee b d ys]):=by
 refine cb 26 func43 fun F=>gX [.sp [10] [] [.z [0,1,0,1,1] 0 [0,1,5]]] (gB ((xs.length:Int) != (ys.length:Int)) (fun h_1 => ?_) (fun h_1 => ?_))
 ·replace h_1:=bneT h_1
  exact gI (.bool false) [0,1] ⟨(congrArg Value.bool (by first | exact(same_len (by assumption)).symm | exact(same_no (by assumption)).symm)),rfl⟩
 ·replace h_1:=bneF h_1
  refine gS [.c [0,1,0,1,1],.b 0,.c [1,1,1]] ?_
  refine go_loop (ι := Int) (fun i=>[(0,.slice a xs.length c),(1,.slice b ys.length d),(5,vI i)]) (fun i=>[Ee a c xs,Ee b d ys]) (fun i=>(0≤i∧i≤(xs.length:Int))∧∀j:Nat,(j:Int)<i→xs.getD j 0=ys.getD j 0) (fun i=>((xs.length:Int)-i).toNat) 0 [0,1,5] [0,1] kR kR kR kR ⟨oa,fun j h=>oa⟩ ?_
  intro i J_2 hIJ_2 hJ_2
  have hx:=hIJ_2
  refine gX [.sp [14] [.z qcc 0 [0,1,5]] []] (gB (decide (i<(xs.length:Int))) (fun h_3 => ?_) (fun h_3 => ?_))
  ·replace h_3:=decT h_3
   refine gS [.c qcc,.c [1,0,0,1,0,0,1,0,1,1],.b 1,.c [1,1,0,0,1,0,1,1],.j J_2,.b 0,.c [1,1,1]] (qG (kV 0 [.ww,.ww,.h (.s 0),.h (.j 0 i.toNat),.ww,.ww,.h (.s 1),.h (.j 1 i.toNat),.ww]) [0,1,5,25] (.p (a=a∧xs.length=xs.length) ⟨rfl,oe⟩ (.p ((0:Int)≤i∧i<(xs.length:Int)) oW (.e (slAt a i.toNat 1) (.p (i.toNat<xs.length) oW (.p (b=b∧ys.length=ys.length) ⟨rfl,oe⟩ (.p ((0:Int)≤i∧i<(ys.length:Int)) oW (.e (slAt b i.toNat 1) (.p (i.toNat<ys.length) oW .n)))))))) .n (gX [.sp [25] [] [.n,.z [] 0 [0,1,5]]] (gB ((xs.getD i.toNat 0) != (ys.getD i.toNat 0)) (fun h_4 => ?_) (fun h_4 => ?_))))
   ·replace h_4:=bneT h_4
    exact gI (.bool false) [0,1] ⟨(congrArg Value.bool (by first | exact(same_len (by assumption)).symm | exact(same_no (by assumption)).symm)),rfl⟩
   ·replace h_4:=bneF h_4
    refine gO (InK .i64 (i+1)) oh (gS [.j J_2,.b 0,.c [1,1,1]] ?_)
    exact go_back hJ_2 (i+1) [0,1] kR kR kR ⟨oa,same_step hx.2 hx.1.1 (by assumption)⟩ oa
  ·replace h_3:=decF h_3
   exact gI (.bool true) [0,1] ⟨(congrArg Value.bool (same_yes hx.2 oa oa).symm),rfl⟩
theorem same_un(a b:Option Addr)(c d n:Nat)(xs ys:List Int)(hl:xs.length≤1000000)(hn:ys.length=n):
  Ctr prog 43 #[.slice a xs.length c,.slice b n d] [Ee a c xs,Ee b d ys] (Ret (.bool (xs==ys)) [Ee a c xs,Ee b d ys]):=by
 subst hn; exact same_u64 a b c d xs ys hl
end Go.Proofs.YtpcaijopodhdgaaGreatDoor
namespace Go.Proofs.YtpcaijopodhdgaaGreatDoor
open Go.Proofs.Tryz
open Go.Sx
abbrev EC(x0:Nat)(c1:Cfg)(x2:Int)(x3:Int)(x4:Int): Ent:=.pts x0 [.int .i64 c1.topics,.int .i64 c1.small,.int .i64 c1.slots,.int .i64 c1.clients,.int .i64 c1.s0,.int .i64 c1.n0,.int .i64 c1.s1,.int .i64 c1.n1,.int .i64 c1.retry,.int .i64 x2,.int .i64 x3,.int .u64 x4] 212
abbrev EG(x0:Nat)(c1:Cfg)(g2:Gv): Ent:=.pts x0 [.int .i64 c1.topics,.int .i64 c1.small,.int .i64 c1.slots,.int .i64 c1.clients,.int .i64 c1.s0,.int .i64 c1.n0,.int .i64 c1.s1,.int .i64 c1.n1,.int .i64 c1.retry,.int .i64 g2.block,.int .i64 (g2.ph:Int),.int .u64 g2.seen] 212
abbrev qcd: List Nat:=[0,0,1,0,1,0,1,1]
abbrev qce: List Nat:=[0,0,1,1,1,0,1,0,1,1]
abbrev qaP: List Nat:=[0,0,1,1,1,1,1,0,1,0,1,1]
abbrev qcf: List Nat:=[1,0,1,1,1,1,1,0,1,0,1,1]
theorem ref_NewGive(c:Cfg)(bk:Int)(hc:c.Ok)(h0:0≤clsOf c bk):
  Ctr prog 145 #[cfgV c,vI bk] [] (fun v L => ∃(gv:Nat),v=vP gv∧L=[EC gv c bk 1 0]):=by
 exact cb 18 func145 fun F=>gX [.e 0,.z [0,1] 1 [1,2,6]] (gN fun b_1=>gQ b_1 (gS [.o [0,1] 1,.c [1,1]] (gC (some 7) [] call67 (ref_right c oM) (gX [.e 0,.z [0,0,1,1,1] 2 [1,2,10,11]] (gQ b_1 (gS [.o [0,0,1,1,1] 2,.c [1,0,1,1,1],.c [1,1,1,1]] (gC (some 12) [] call98 (ref_Class c bk oM) (gX [.sp [13] [.dead] [.e 0]] (gF (decide ((clsOf c bk)<0)) ol (gQ b_1 (gN fun b_2=>gJ [1] ⟨b_2,rfl,rfl⟩)))))))))))
theorem rgstep1(c:Cfg)(rg ra:Nat)(bk sn:Int)(A:Ar)(hc:c.Ok)(hn:A.ws.length=A.n)(hs : -1000000000≤A.steps∧A.steps≤1000000000)(hsz:(A.n:Int)=sizeOfC c)(hk:0≤clsOf c bk)(hw:0≤sn∧sn≤18446744073709551615):
  Ctr prog 90 #[vP rg,vP ra] [EC rg c bk 1 sn,Ed ra A false 0,Ea A] (Ret (.bool false) [EC rg c bk 2 (A.ws.getD (3+clsOf c bk).toNat 0),Ed ra (A.load (3+clsOf c bk)) false 0,Ea (A.load (3+clsOf c bk))]):=by
 exact cb 83 func90 fun F=>gX [.z [0,1] 0 [0,1]] (gS [.c [0,1],.c [1,1]] (qG (kV 0 [.ww,.ww,.ww,.e 0,.ww,.ww,.ww,.e 0,.q (vI (clsOf c bk)),.h (.n),.ww]) [0,1,5] (.e rg (.e rg (.p (InK .i64 (3+(clsOf c bk))) (by have:=clsOf_le c bk; simp only [InK]; omega) .n))) (.c call98 (qR [] (ref_Class c bk oM)) .n) (gX [.e 0,.z qcd 3 [0,23,24,25]] (gQ rg (gS [.o qcd 3,.c [1,0,1,0,1,0,1,1],.b 0,.c [1,1,1]] (gC (some 26) [1,2] call86 (ref_Load ra A (3+(clsOf c bk)) oM (by have:=clsOf_le c bk; have:=sizeOfC_ok hc; omega) oM) (gX [.e 0,.e 0,.e 0] (gQ rg (gQ rg (gQ rg (gJ [0,1,2] ⟨rfl,rfl⟩)))))))))))
theorem rgstep2(c:Cfg)(rg ra:Nat)(bk sn:Int)(A:Ar)(hc:c.Ok)(hn:A.ws.length=A.n)(hs : -1000000000≤A.steps∧A.steps≤1000000000)(hsz:(A.n:Int)=sizeOfC c)(hk:0≤clsOf c bk)(hw:0≤sn∧sn≤18446744073709551615):
  Ctr prog 90 #[vP rg,vP ra] [EC rg c bk 2 sn,Ed ra A false 0,Ea A] (Ret (.bool false) [EC rg c bk 3 sn,Ed ra (A.store (blockAt c bk) (bAnd .u64 sn 4294967295)) false 0,Ea (A.store (blockAt c bk) (bAnd .u64 sn 4294967295))]):=by
 refine cb 83 func90 fun F=>gX [.z [0,1] 0 [0,1]] (gS [.c [0,1],.c [1,1]] (qG (kV 0 [.ww,.ww,.ww,.e 0,.ww,.ww,.ww,.e 0,.q (vI (clsOf c bk)),.h (.n),.ww]) [0,1,5] (.e rg (.e rg (.p (InK .i64 (3+(clsOf c bk))) (by have:=clsOf_le c bk; simp only [InK]; omega) .n))) (.c call98 (qR [] (ref_Class c bk oM)) .n) (gX [.e 0,.z qce 0 [0,1]] (gQ rg (gS [.c qce,.c [1,0,1,1,1,0,1,0,1,1],.b 0,.c [1,1,1]] ?_)))))
 refine tC (some 49) (kV 0 [.ww,.ww,.ww,.ww,.e 0,.ww,.ww,.ww,.e 0,.q (vI (blockAt c bk)),.ww,.ww,.ww,.e 0,.ww]) 15 [] [1,2] [0] call84 (ref_Store ra A (blockAt c bk) (bAnd .u64 sn 4294967295) oM (by have:=blockAt_ok hc hk; omega) oM) (.e rg (.e rg (.e rg .n))) (.c call85 (qR [] (ref_Block c bk oM (clsOf_ok hk))) .n) ?_
 rintro v post ⟨rfl,rfl⟩
 refine tN .n ?_
 exact gX [.e 0,.e 0] (gQ rg (gQ rg (gJ [0,1,2] ⟨rfl,rfl⟩)))
theorem rgstep3T(c:Cfg)(rg ra:Nat)(bk sn:Int)(A:Ar)(hc:c.Ok)(hn:A.ws.length=A.n)(hs : -1000000000≤A.steps∧A.steps≤1000000000)(hsz:(A.n:Int)=sizeOfC c)(hk:0≤clsOf c bk)(hw:0≤sn∧sn≤18446744073709551615)(hq:(A.ws.getD (3+clsOf c bk).toNat 0)=sn):
  Ctr prog 90 #[vP rg,vP ra] [EC rg c bk 3 sn,Ed ra A false 0,Ea A] (Ret (.bool true) [EC rg c bk 0 sn,Ed ra (A.swapT (3+clsOf c bk) (turnW sn bk)) false 0,Ea (A.swapT (3+clsOf c bk) (turnW sn bk))]):=by
 refine cb 83 func90 fun F=>gX [.z [0,1] 0 [0,1]] (gS [.c [0,1],.c [1,1]] (qG (kV 0 [.ww,.ww,.ww,.e 0,.ww,.ww,.ww,.e 0,.q (vI (clsOf c bk)),.h (.n),.ww]) [0,1,5] (.e rg (.e rg (.p (InK .i64 (3+(clsOf c bk))) (by have:=clsOf_le c bk; simp only [InK]; omega) .n))) (.c call98 (qR [] (ref_Class c bk oM)) .n) (gX [.e 0,.z qaP 0 [0,1,5]] (gQ rg (gS [.c qaP,.c qcf,.b 0,.c [1,1,1]] ?_)))))
 refine tC (some 70) (kV 0 [.ww,.ww,.ww,.ww,.ww,.e 0,.ww,.ww,.ww,.e 0,.ww,.ww,.ww,.e 0,.q (vU (turnW sn bk))]) 15 (kV 16 [.ww]) [1,2] [0,6] call89 (ref_SwapT ra A (3+(clsOf c bk)) sn (turnW sn bk) oM (by have:=clsOf_le c bk; have:=sizeOfC_ok hc; omega) oM oM) (.e rg (.e rg (.e rg .n))) (.c call143 (qR [] (ref10_Turn sn bk oM (by have:=clsOf_ok hk; simp only [Cfg.Ok] at hc; omega))) .n) ?_
 rintro v post ⟨rfl,rfl⟩
 refine tN .n ?_
 exact gX [.e 0,.e 0,.e 0] (gQ rg (gQ rg (gQ rg (gJ [0,1,2] ⟨rfl,rfl⟩))))
theorem rgstep3F(c:Cfg)(rg ra:Nat)(bk sn:Int)(A:Ar)(hc:c.Ok)(hn:A.ws.length=A.n)(hs : -1000000000≤A.steps∧A.steps≤1000000000)(hsz:(A.n:Int)=sizeOfC c)(hk:0≤clsOf c bk)(hw:0≤sn∧sn≤18446744073709551615)(hq:(A.ws.getD (3+clsOf c bk).toNat 0)≠sn):
  Ctr prog 90 #[vP rg,vP ra] [EC rg c bk 3 sn,Ed ra A false 0,Ea A] (Ret (.bool false) [EC rg c bk 1 sn,Ed ra (A.swapF (3+clsOf c bk)) false 0,Ea (A.swapF (3+clsOf c bk))]):=by
 refine cb 83 func90 fun F=>gX [.z [0,1] 0 [0,1]] (gS [.c [0,1],.c [1,1]] (qG (kV 0 [.ww,.ww,.ww,.e 0,.ww,.ww,.ww,.e 0,.q (vI (clsOf c bk)),.h (.n),.ww]) [0,1,5] (.e rg (.e rg (.p (InK .i64 (3+(clsOf c bk))) (by have:=clsOf_le c bk; simp only [InK]; omega) .n))) (.c call98 (qR [] (ref_Class c bk oM)) .n) (gX [.e 0,.z qaP 0 [0,1,5]] (gQ rg (gS [.c qaP,.c qcf,.b 0,.c [1,1,1]] ?_)))))
 refine tC (some 70) (kV 0 [.ww,.ww,.ww,.ww,.ww,.e 0,.ww,.ww,.ww,.e 0,.ww,.ww,.ww,.e 0,.q (vU (turnW sn bk))]) 15 (kV 16 [.ww]) [1,2] [0,6] call89 (ref_SwapF ra A (3+(clsOf c bk)) sn (turnW sn bk) oM (by have:=clsOf_le c bk; have:=sizeOfC_ok hc; omega) oM oM) (.e rg (.e rg (.e rg .n))) (.c call143 (qR [] (ref10_Turn sn bk oM (by have:=clsOf_ok hk; simp only [Cfg.Ok] at hc; omega))) .n) ?_
 rintro v post ⟨rfl,rfl⟩
 refine tN .n ?_
 exact gX [.e 0,.e 0] (gQ rg (gQ rg (gJ [0,1,2] ⟨rfl,rfl⟩)))
theorem ref_give_Step(c:Cfg)(rg ra:Nat)(G:Gv)(A:Ar)(hc:c.Ok)(hn:A.ws.length=A.n)(hs : -1000000000≤A.steps∧A.steps≤1000000000)(hsz:(A.n:Int)=sizeOfC c)(hG:GvR c G):
  Ctr prog 90 #[vP rg,vP ra] [EG rg c G,Ed ra A false 0,Ea A] (Ret (.bool ((G.step c A).1.ph==0)) [EG rg c ((G.step c A).1),Ed ra ((G.step c A).2) false 0,Ea ((G.step c A).2)]):=by
 obtain⟨hd,sn,bk,ph⟩:=G
 obtain⟨h1,h2,h3,h4⟩:=hG
 simp only at h1 h2 h3 h4
 subst h2
 match ph,h1 with
 | 1,_=>exact rgstep1 c rg ra bk sn A hc hn hs hsz h3 h4
 | 2,_=>
  have e:Gv.step c ⟨3+clsOf c bk,sn,bk,2⟩ A=(⟨3+clsOf c bk,sn,bk,3⟩,A.store (blockAt c bk) (bAnd .u64 sn 4294967295)):=by
   rw [show bAnd .u64 sn 4294967295=lo32 sn from and_mask sn 32 oc h4]; rfl
  rw [e]; exact rgstep2 c rg ra bk sn A hc hn hs hsz h3 h4
 | 3,_=>
  by_cases hq:A.ws.getD (3+clsOf c bk).toNat 0=sn
  ·have e:Gv.step c ⟨3+clsOf c bk,sn,bk,3⟩ A=(⟨3+clsOf c bk,sn,bk,0⟩,A.swapT (3+clsOf c bk) (turnW sn bk)):=by simp only [Gv.step,if_pos hq]
   rw [e]; exact rgstep3T c rg ra bk sn A hc hn hs hsz h3 h4 hq
  ·have e:Gv.step c ⟨3+clsOf c bk,sn,bk,3⟩ A=(⟨3+clsOf c bk,sn,bk,1⟩,A.swapF (3+clsOf c bk)):=by simp only [Gv.step,if_neg hq]
   rw [e]; exact rgstep3F c rg ra bk sn A hc hn hs hsz h3 h4 hq
 | 0,h=>omega
 | n+4,h=>omega
end Go.Proofs.YtpcaijopodhdgaaGreatDoor
namespace Go.Proofs.YtpcaijopodhdgaaGreatDoor
open Go.Proofs.Tryz
open Go.Sx
abbrev EA(x0:Nat)(c1:Cfg)(x2:Int)(x3:Bool)(x4:Option Addr)(x5:Nat)(x6:Nat)(x7:Option Addr)(x8:Nat)(x9:Nat)(x10:Option Addr)(x11:Nat)(x12:Nat)(x13:Option Addr)(x14:Nat)(x15:Nat)(x16:Value): Ent:=.pts x0 [.int .i64 c1.topics,.int .i64 c1.small,.int .i64 c1.slots,.int .i64 c1.clients,.int .i64 c1.s0,.int .i64 c1.n0,.int .i64 c1.s1,.int .i64 c1.n1,.int .i64 c1.retry,.int .i64 x2,.bool x3,.slice x4 x5 x6,.slice x7 x8 x9,.slice x10 x11 x12,.slice x13 x14 x15,x16] 158
structure RsH where
 al:Option Addr
 an:Option Addr
 ak:Option Addr
 ag:Option Addr
 cl:Nat
 cn:Nat
 ck:Nat
 cg:Nat
 gp:Nat
 gv:Value
noncomputable def rgivL(c:Cfg)(gp:Nat): Option Gv→List Ent
 | none=>[]
 | some G=>[EG gp c G]
noncomputable def rsL(rs:Nat)(c:Cfg)(S:Rs)(h:RsH): List Ent:=[EA rs c S.slot S.over h.al S.left.length h.cl h.an S.named.length h.cn h.ak S.kept.length h.ck h.ag S.given.length h.cg h.gv,Ec h.al h.cl S.left,Ec h.an h.cn S.named,Ec h.ak h.ck S.kept,Ec h.ag h.cg S.given,.res (dens (rgivL c h.gp S.give))]
def rsI(S:Rs)(h:RsH): Prop := ∀G,S.give=some G→h.gv = .pointer (some ⟨h.gp,0,none⟩)
noncomputable def RsR(rs:Nat)(c:Cfg)(S:Rs): Res:=Box (rsI S) (rsL rs c S)
structure RnI where
 kept:List Int
 left:List Int
 ak:Option Addr
 al:Option Addr
 ck:Nat
 cl:Nat
theorem rs_next(c:Cfg)(rs:Nat)(sl:Int)(left named kept given:List Int)(al an ak ag:Option Addr)(cl cn ck cg:Nat)(gp:Value)(hc:c.Ok)(hl:kept.length+left.length≤100)(hb:∀b∈left,0≤clsOf c b)(hnl:named.length≤100):
  Ctr prog 92 #[vP rs] [EA rs c sl false al left.length cl an named.length cn ak kept.length ck ag given.length cg gp,Ec al cl left,Ec an cn named,Ec ak ck kept,Ec ag cg given] (Ret (undef) [.res (RsR rs c (Rs.next c (⟨sl,false,left,named,kept,given,none⟩:Rs)))]):=by
 refine cb 67 func92 fun F=>gX [.z [0,0] 0 [0]] (gS [.c [0,0],.b 0,.c [1]] ?_)
 refine go_loop (ι := RnI) (fun i=>[(0,vP rs)]) (fun i=>[EA rs c sl false i.al i.left.length i.cl an named.length cn i.ak i.kept.length i.ck ag given.length cg gp,Ec i.al i.cl i.left,Ec an cn named,Ec i.ak i.ck i.kept,Ec ag cg given]) (fun i=>nextR named i.kept i.left=nextR named kept left∧i.kept.length+i.left.length≤100∧∀b∈i.left,0≤clsOf c b) (fun i=>i.left.length) ⟨kept,left,ak,al,ck,cl⟩ [0] [0,1,2,3,4] kR kR kR kR ⟨rfl,hl,hb⟩ ?_
 intro i J_1 hIJ_1 hJ_1
 have hx:=hIJ_1
 have hq2:=hx.2.1
 refine gX [.z [0,0,0,0,0] 0 [0]] (gW (ks:=[.c [0,0,0,0,0],.c [1,0,0,0,0],.c [1,0,0,0],.j J_1,.b 0,.c [1]]) [(0,vP rs)] [EA rs c sl false i.al i.left.length i.cl an named.length cn i.ak i.kept.length i.ck ag given.length cg gp,Ec i.al i.cl i.left,Ec an cn named,Ec i.ak i.ck i.kept,Ec ag cg given] ?_)
 by_cases hl0:0<i.left.length
 ·skip
  refine qG (kV 0 [.ww,.ww,.ww,.e 0,.ww,.t true,.ww,.ww,.ww,.ww,.e 0,.ww,.ww,.ww,.e 0,.h (.s 1),.h (.j 1 0),.q (.bool (hasN named named.length (i.left.getD 0 0))),.ww]) [0,20] (.e rs (.p ((decide ((i.left.length:Int)>0))=true) (by simp only [decide_eq_true_eq,decide_eq_false_iff_not]; omega) (.e rs (.e rs (.p (i.al=i.al∧i.left.length=i.left.length) ⟨rfl,oe⟩ (.p ((0:Int)≤0∧0<(i.left.length:Int)) oW (.e (slAt i.al 0 1) (.p (0<i.left.length) oW .n)))))))) (.c call38 (qR [2] (ref_Has an cn cn named.length named (i.left.getD 0 0) (Nat.le_refl _) oa)) .n) (gX [.sp [20] [.z [0,0,1,0,0,0] 0 [0]] [.e 0,.sp [49] [.dead] [.z [1,1] 0 [0]]]] (gB (hasN named named.length (i.left.getD 0 0)) (fun h_2 => ?_) (fun h_2 => ?_)))
  ·skip
   refine gS [.c [0,0,1,0,0,0],.c [1,0,1,0,0,0],.b 1,.j J_1,.b 0,.c [1]] (zG (zN [0,1,2,3,4,5,6,7,8,9,10] (kV 0 [.w,.w,.w,.w,.e 0,.w,.w,.w,.e 0,.h (.s 1),.h (.j 1 0)]) [0,21,22,23,24,25,26,27,28,29,30,31] [11] (.e rs (.e rs (.p (i.al=i.al∧i.left.length=i.left.length) ⟨rfl,oe⟩ (.p ((0:Int)≤0∧0<(i.left.length:Int)) oW (.e (slAt i.al 0 1) (.p (0<i.left.length) oW .n)))))) ⟨?_,trivial⟩))
   refine zX .w (sN fun b_11_1=>(sV ?_))
   refine zN [] (kV 0 [.w,.w,.w,.w,.e 0]) [32,0,21,22,23,24,25] [12] (.e rs .n) ⟨?_,trivial⟩
   refine zB (some 33) (appO prog _) (some (.slice i.ak (i.kept).length i.ck,.slice (some ⟨b_11_1,0,none⟩) 1 1,(3,1,8))) (R_append 3 (a:=i.ak) (c:=i.ck) (enc:=encI .i64) (d:=0) (sz:=1) (xs:=i.kept) (te:=3) kR (.slice (some ⟨b_11_1,0,none⟩) 1 1) [(i.left.getD 0 0)] (src_pts (i:=5) (t:=3) kR) (oneI _) 8 oW oW) ?_
   rintro v L2 ⟨a_12_1,c_12_1,rfl,rfl⟩
   refine zN [13,14] [(0,.w),(13,.w),(14,.w)] [33,0,21,34,35] [15] .n ⟨?_,trivial⟩
   refine zX (.e 0) (sQ rs (sK ?_))
   refine zE [] [] [0] .n (gX [.e 0,.z [1,0,1,0,0,0] 5 [0,36,40]] (gQ rs (gS [.o [1,0,1,0,0,0] 5,.b 1,.j J_1,.b 0,.c [1]] ?_)))
   refine go_by (some 41) (cutO prog _) (some (.slice i.al (i.left).length i.cl,some (vI 1),none,1)) (R_cutL 1 (a:=i.al) (c:=i.cl) (enc:=encI .i64) (d:=0) (sz:=1) (xs:=i.left) (te:=3) kR .i64 1 ⟨oW,oW⟩) kR ?_
   rintro v L2 ⟨a_3,c_4,rfl,rfl⟩
   refine gX [.e 0,.z [] 0 [0]] (gQ rs (gS [.j J_1,.b 0,.c [1]] ?_))
   exact go_back hJ_1 (⟨(i.kept++[(i.left.getD 0 0)]),(i.left.drop 1),a_12_1,a_3,c_12_1,c_4⟩:RnI) [0,1,2,3,4] kR kR kR ⟨(nextR_on oa (by assumption)).trans hx.1,om,fun b hb=>hx.2.2 b (List.mem_of_mem_drop hb)⟩ om
  ·skip
   refine gQ rs (gF ((i.left.length:Int)==0) (by simp only [beq_iff_eq,beq_eq_false_iff_ne,ne_eq]; omega) (gS [.c [1,1]] (zG (zN [0,1,2,3,4,5,6,7,8,9,10] (kV 0 [.w,.w,.w,.w,.e 0,.w,.w,.w,.e 0,.h (.s 1),.h (.j 1 0)]) [0,53,54,55,56,57,58,59,60,61,62,63] [11] (.e rs (.e rs (.p (i.al=i.al∧i.left.length=i.left.length) ⟨rfl,oe⟩ (.p ((0:Int)≤0∧0<(i.left.length:Int)) oW (.e (slAt i.al 0 1) (.p (0<i.left.length) oW .n)))))) ⟨?_,trivial⟩))))
   refine zC (some 64) [] call145 (ref_NewGive c (i.left.getD 0 0) oM (hx.2.2 _ (by rw [List.getD_eq_getElem?_getD,List.getElem?_eq_getElem oa]; exact List.getElem_mem _))) ?_
   rintro v post ⟨gv_11_1r1,rfl,rfl⟩
   refine zN [12,13] [(0,.w),(12,.w),(13,.w)] [64,0,53,65,66] [14] .n ⟨?_,trivial⟩
   refine zX (.e 0) (sQ rs (sK ?_))
   refine zE [] [] [] .n (gX [] (gW0 (undef) [EA rs c sl false i.al i.left.length i.cl an named.length cn i.ak i.kept.length i.ck ag given.length cg (vP gv_11_1r1),Ec i.al i.cl i.left,Ec an cn named,Ec i.ak i.ck i.kept,Ec ag cg given,EC gv_11_1r1 c (i.left.getD 0 0) 1 0] ?_))
   refine ret_view (L':=[EA rs c sl false i.al i.left.length i.cl an named.length cn i.ak i.kept.length i.ck ag given.length cg (vP gv_11_1r1),Ec i.al i.cl i.left,Ec an cn named,Ec i.ak i.ck i.kept,Ec ag cg given,.res (dens [EC gv_11_1r1 c (i.left.getD 0 0) 1 0])]) (view_fold 5 (e:=EC gv_11_1r1 c (i.left.getD 0 0) 1 0) kR) ?_
   refine ret_view (L':=[.res (RsR rs c (⟨sl,false,i.left,named,i.kept,given,(some (newGv c (i.left.getD 0 0)))⟩:Rs))]) (vK (rsI (⟨sl,false,i.left,named,i.kept,given,(some (newGv c (i.left.getD 0 0)))⟩:Rs)) (rsL rs c (⟨sl,false,i.left,named,i.kept,given,(some (newGv c (i.left.getD 0 0)))⟩:Rs)) (⟨i.al,an,i.ak,ag,i.cl,cn,i.ck,cg,gv_11_1r1,vP gv_11_1r1⟩:RsH) [0,1,2,3,4,5] (fun G hG=>rfl)) ?_
   exact ret_ok (post:=[.res (RsR rs c (⟨sl,false,i.left,named,i.kept,given,(some (newGv c (i.left.getD 0 0)))⟩:Rs))]) [0] kR ⟨rfl,(by rw [nextR_some hx.1 oa (by first | assumption | (simp at *; assumption)) sl false given none c])⟩
 ·skip
  refine qG (kV 0 [.ww,.ww,.ww,.e 0,.ww,.t false,.ww,.ww,.ww,.ww,.ww,.ww,.ww,.ww,.ww,.ww,.ww,.ww,.ww]) [0,20] (.e rs (.p ((decide ((i.left.length:Int)>0))=false) (by simp only [decide_eq_true_eq,decide_eq_false_iff_not]; omega) .n)) .n (gX [.e 0,.sp [49] [.e 0] [.dead]] (gQ rs (gT ((i.left.length:Int)==0) (by simp only [beq_iff_eq,beq_eq_false_iff_ne,ne_eq]; omega) (gQ rs (gW0 (undef) [EA rs c sl true i.al i.left.length i.cl an named.length cn i.ak i.kept.length i.ck ag given.length cg gp,Ec i.al i.cl i.left,Ec an cn named,Ec i.ak i.ck i.kept,Ec ag cg given] ?_)))))
  refine ret_view (L':=[EA rs c sl true i.al i.left.length i.cl an named.length cn i.ak i.kept.length i.ck ag given.length cg gp,Ec i.al i.cl i.left,Ec an cn named,Ec i.ak i.ck i.kept,Ec ag cg given,.res (dens [])]) view_unit ?_
  refine ret_view (L':=[.res (RsR rs c (⟨sl,true,i.left,named,i.kept,given,none⟩:Rs))]) (vK (rsI (⟨sl,true,i.left,named,i.kept,given,none⟩:Rs)) (rsL rs c (⟨sl,true,i.left,named,i.kept,given,none⟩:Rs)) (⟨i.al,an,i.ak,ag,i.cl,cn,i.ck,cg,0,gp⟩:RsH) [0,1,2,3,4,5] (fun G hG=>by cases hG)) ?_
  exact ret_ok (post:=[.res (RsR rs c (⟨sl,true,i.left,named,i.kept,given,none⟩:Rs))]) [0] kR ⟨rfl,(by rw [nextR_none hx.1 (List.eq_nil_of_length_eq_zero oa) sl false given none c])⟩
end Go.Proofs.YtpcaijopodhdgaaGreatDoor
namespace Go.Proofs.YtpcaijopodhdgaaGreatDoor
open Go.Proofs.Tryz
open Go.Sx
abbrev qcg: List Nat:=[0,1,0,1,0,1,0,1,1]
abbrev qaQ: List Nat:=[0,0,1,1,1,0,1,0,1,1]
abbrev qch: List Nat:=[1,0,1,1,1,0,1,0,1,1]
abbrev qaR: List Nat:=[1,1,1,1,0,1,0,1,1]
abbrev qaS: List Nat:=[0,1,0,1,1,1,0,1,0,1,1]
abbrev qaT: List Nat:=[0,1,1,1,1,0,1,0,1,1]
abbrev qci: List Nat:=[1,1,1,1,1,0,1,0,1,1]
abbrev qcj: List Nat:=[0,0,1,0,1,1,1,1]
abbrev qck: List Nat:=[0,1,0,1,0,1,1,1,1]
abbrev qbF: List Nat:=[1,1,0,1,0,1,1,1,1]
theorem rs_StepA(c:Cfg)(rs ra:Nat)(sl:Int)(al an ak ag:Option Addr)(nl nn nk ng cl cn ck cg:Nat)(gp:Value):
  Ctr prog 41 #[vP rs,vP ra] [EA rs c sl true al nl cl an nn cn ak nk ck ag ng cg gp] (Ret (.bool true) [EA rs c sl true al nl cl an nn cn ak nk ck ag ng cg gp]):=by
 exact cb 106 func41 fun F=>gX [.e 0] (gQ rs (gJ [0] ⟨rfl,rfl⟩))
theorem rs_StepB(c:Cfg)(rs ra:Nat)(sl:Int)(left named kept given:List Int)(al an ak ag:Option Addr)(cl cn ck cg:Nat)(A:Ar)(gp:Value)(hc:c.Ok)(hn:A.ws.length=A.n)(hs : -1000000000≤A.steps∧A.steps≤1000000000)(hsz:(A.n:Int)=sizeOfC c)(hd:0≤sl∧sl<c.slots)(hws:∀i,0≤A.ws.getD i 0∧A.ws.getD i 0≤18446744073709551615)(hl:kept.length+left.length≤100∧given.length≤100∧named.length≤90)(hb:∀b∈left,0≤clsOf c b):
  Ctr prog 41 #[vP rs,vP ra] [EA rs c sl false al left.length cl an named.length cn ak kept.length ck ag given.length cg gp,Ec al cl left,Ec an cn named,Ec ak ck kept,Ec ag cg given,Ed ra A false 0,Ea A] (Ret (.bool ((Rs.step c (⟨sl,false,left,named,kept,given,none⟩:Rs) A).1.over)) [.res (RsR rs c ((Rs.step c (⟨sl,false,left,named,kept,given,none⟩:Rs) A).1)),Ed ra ((Rs.step c (⟨sl,false,left,named,kept,given,none⟩:Rs) A).2) false 0,Ea ((Rs.step c (⟨sl,false,left,named,kept,given,none⟩:Rs) A).2)]):=by
 refine cb 106 func41 fun F=>gX [.e 0,.z [0,0,1,1] 0 [0,1]] (gQ rs (gS [.c [0,0,1,1],.c [1,0,1,1],.c [1,1,1]] (qG (kV 0 [.ww,.ww,.ww,.e 0,.ww,.ww,.ww,.ww,.e 0,.t true]) [0,1,20] (.e rs (.e rs (.p ((decide (sl<c.slots))=true) ol .n))) .n (gX [.z [0,0,1,0,1,1] 0 [0,1]] (gS [.c [0,0,1,0,1,1],.c [1,0,1,0,1,1],.c [1,1,1]] ?_)))))
 refine tC (some 31) (kV 0 [.ww,.ww,.ww,.ww,.e 0,.ww,.ww,.ww,.e 0,.q (vI (slotAt c sl))]) 10 (kV 11 [.ww]) [5,6] [0,5] call86 (ref_Load ra A (slotAt c sl) oM (by have:=slotAt_ok hc hd; rw [hsz]; omega) oM) (.e rs (.e rs .n)) (.c call91 (qR [] (ref_Slot c sl oM og)) .n) ?_
 rintro v post ⟨rfl,rfl⟩
 refine tN .n ?_
 refine gX [.n,.sp [34] [.e 0,.n,.z qcg 9 [0,35,39,43]] [.e 0,.n,.e 0,.z qaQ 0 [0]]] (gO ((0:Int)≤32) oW (gB ((bShr .u64 (A.ws.getD (slotAt c sl).toNat 0) 32) != 0) (fun h_2 => ?_) (fun h_2 => ?_)))
 ·replace h_2:=bneT h_2
  refine gQ rs (gO (InK .i64 (bAnd .u64 (A.ws.getD (slotAt c sl).toNat 0) 4294967295)) (by have h1:=hws (slotAt c sl).toNat; have h2:=and_mask (A.ws.getD (slotAt c sl).toNat 0) 32 oc h1; have h3:=lo32_lt (A.ws.getD (slotAt c sl).toNat 0); have h4:bAnd .u64 (A.ws.getD (slotAt c sl).toNat 0) 4294967295=lo32 (A.ws.getD (slotAt c sl).toNat 0):=h2; rw [h4]; simp only [InK]; omega) (gN fun b_1=>gW (ks:=[.o qcg 9,.c [1,1,0,1,0,1,1],.c [1,1,1]]) [(0,vP rs),(35,vP rs),(39,.slice an named.length cn),(43,.slice (some ⟨b_1,0,none⟩) 1 1)] [EA rs c sl false al left.length cl an named.length cn ak kept.length ck ag given.length cg gp,Ec al cl left,Ec an cn named,Ec ak ck kept,Ec ag cg given,Ed ra (A.load (slotAt c sl)) false 0,Ea (A.load (slotAt c sl)),.pts b_1 [vI (bAnd .u64 (A.ws.getD (slotAt c sl).toNat 0) 4294967295)] 3] ?_))
  refine go_by (some 44) (appO prog _) (some (.slice an (named).length cn,.slice (some ⟨b_1,0,none⟩) 1 1,(3,1,8))) (R_append 2 (a:=an) (c:=cn) (enc:=encI .i64) (d:=0) (sz:=1) (xs:=named) (te:=3) kR (.slice (some ⟨b_1,0,none⟩) 1 1) [(bAnd .u64 (A.ws.getD (slotAt c sl).toNat 0) 4294967295)] (src_pts (i:=7) (t:=3) kR) (oneI _) 8 oW oW) kR ?_
  rintro v L2 ⟨a_3,c_4,rfl,rfl⟩
  refine gX [.e 0,.e 0,.n,.e 0,.z qaQ 0 [0]] (gQ rs (gQ rs (gO (InK .i64 (sl+1)) og (gQ rs (gS [.c qaQ,.c qch,.c qaR,.c [1,1,1]] (qG (kV 0 [.ww,.ww,.ww,.e 0,.ww,.ww,.ww,.ww,.e 0,.ww]) [0,63] (.e rs (.e rs .n)) .n (gX [.sp [63] [.z qaS 1 [0,64]] [.e 0]] (gB ((sl+1)==c.slots) (fun h_5 => ?_) (fun h_5 => ?_)))))))))
  ·replace h_5:=beqT h_5
   refine gS [.o qaS 1,.c qaR,.c [1,1,1]] (gC (some 65) [0,1,2,3,4] call92 (rs_next c rs (sl+1) left (named++[(bAnd .u64 (A.ws.getD (slotAt c sl).toNat 0) 4294967295)]) kept given al a_3 ak ag cl c_4 ck cg gp oM hl.1 oM (by first | omega | (simp; omega))) (gX [.z qaT 3 [68]] (gS [.o qaT 3,.c qci,.c [1,1,1]] ?_)))
   refine go_by (some 69) (ldO prog _) (some (.pointer (some ⟨rs,10,none⟩),false,1)) (R_peek 3 (R:=RsR rs c (Rs.next c (⟨(sl+1),false,left,(named++[(bAnd .u64 (A.ws.getD (slotAt c sl).toNat 0) 4294967295)]),kept,given,none⟩:Rs))) kR rs 10 (.bool ((Rs.next c (⟨(sl+1),false,left,(named++[(bAnd .u64 (A.ws.getD (slotAt c sl).toNat 0) 4294967295)]),kept,given,none⟩:Rs)).over)) (peek_box (fun h=>⟨_,_,_,rfl,rfl⟩))) kR ?_
   rintro v L2 ⟨rfl,rfl⟩
   refine gX [] (gW0 (.bool ((Rs.next c (⟨(sl+1),false,left,(named++[(bAnd .u64 (A.ws.getD (slotAt c sl).toNat 0) 4294967295)]),kept,given,none⟩:Rs)).over)) [Ed ra (A.load (slotAt c sl)) false 0,Ea (A.load (slotAt c sl)),.pts b_1 [vI (bAnd .u64 (A.ws.getD (slotAt c sl).toNat 0) 4294967295)] 3,.res (RsR rs c (Rs.next c (⟨(sl+1),false,left,(named++[(bAnd .u64 (A.ws.getD (slotAt c sl).toNat 0) 4294967295)]),kept,given,none⟩:Rs)))] ?_)
   have e:Rs.step c (⟨sl,false,left,named,kept,given,none⟩:Rs) A=((Rs.next c (⟨(sl+1),false,left,(named++[(bAnd .u64 (A.ws.getD (slotAt c sl).toNat 0) 4294967295)]),kept,given,none⟩:Rs)),(A.load (slotAt c sl))):=by
    have k1:=shr_hi (hws (slotAt c sl).toNat)
    have k2:bAnd .u64 (A.ws.getD (slotAt c sl).toNat 0) 4294967295=lo32 (A.ws.getD (slotAt c sl).toNat 0):=and_mask _ 32 oc (hws _)
    unfold Rs.step; (try unfold Rs.look); dsimp only; (try rw [←k1]); (try rw [k2]); (repeat' (first | rw [if_pos (by first | omega | assumption)] | rw [if_neg (by first | omega | assumption | simp)])) <;> rfl
   exact ret_ok (post:=[.res (RsR rs c (Rs.next c (⟨(sl+1),false,left,(named++[(bAnd .u64 (A.ws.getD (slotAt c sl).toNat 0) 4294967295)]),kept,given,none⟩:Rs))),Ed ra (A.load (slotAt c sl)) false 0,Ea (A.load (slotAt c sl))]) [3,0,1] kR ⟨(by first | (rw [e]; done) | (rw [e]; rfl)),(by first | (rw [e]; done) | (rw [e]; kernel_rfl))⟩
  ·replace h_5:=beqF h_5
   refine gQ rs (gW0 (.bool false) [EA rs c (sl+1) false al left.length cl a_3 ((named++[(bAnd .u64 (A.ws.getD (slotAt c sl).toNat 0) 4294967295)]).length) c_4 ak kept.length ck ag given.length cg gp,Ec al cl left,Ec a_3 c_4 (named++[(bAnd .u64 (A.ws.getD (slotAt c sl).toNat 0) 4294967295)]),Ec ak ck kept,Ec ag cg given,Ed ra (A.load (slotAt c sl)) false 0,Ea (A.load (slotAt c sl)),.pts b_1 [vI (bAnd .u64 (A.ws.getD (slotAt c sl).toNat 0) 4294967295)] 3] ?_)
   refine ret_view (L':=[EA rs c (sl+1) false al left.length cl a_3 ((named++[(bAnd .u64 (A.ws.getD (slotAt c sl).toNat 0) 4294967295)]).length) c_4 ak kept.length ck ag given.length cg gp,Ec al cl left,Ec a_3 c_4 (named++[(bAnd .u64 (A.ws.getD (slotAt c sl).toNat 0) 4294967295)]),Ec ak ck kept,Ec ag cg given,Ed ra (A.load (slotAt c sl)) false 0,Ea (A.load (slotAt c sl)),.pts b_1 [vI (bAnd .u64 (A.ws.getD (slotAt c sl).toNat 0) 4294967295)] 3,.res (dens [])]) view_unit ?_
   refine ret_view (L':=[Ed ra (A.load (slotAt c sl)) false 0,Ea (A.load (slotAt c sl)),.pts b_1 [vI (bAnd .u64 (A.ws.getD (slotAt c sl).toNat 0) 4294967295)] 3,.res (RsR rs c (⟨(sl+1),false,left,(named++[(bAnd .u64 (A.ws.getD (slotAt c sl).toNat 0) 4294967295)]),kept,given,none⟩:Rs))]) (vK (rsI (⟨(sl+1),false,left,(named++[(bAnd .u64 (A.ws.getD (slotAt c sl).toNat 0) 4294967295)]),kept,given,none⟩:Rs)) (rsL rs c (⟨(sl+1),false,left,(named++[(bAnd .u64 (A.ws.getD (slotAt c sl).toNat 0) 4294967295)]),kept,given,none⟩:Rs)) (⟨al,a_3,ak,ag,cl,c_4,ck,cg,0,gp⟩:RsH) [0,1,2,3,4,8] (fun G hG=>by cases hG)) ?_
   have e:Rs.step c (⟨sl,false,left,named,kept,given,none⟩:Rs) A=((⟨(sl+1),false,left,(named++[(bAnd .u64 (A.ws.getD (slotAt c sl).toNat 0) 4294967295)]),kept,given,none⟩:Rs),(A.load (slotAt c sl))):=by
    have k1:=shr_hi (hws (slotAt c sl).toNat)
    have k2:bAnd .u64 (A.ws.getD (slotAt c sl).toNat 0) 4294967295=lo32 (A.ws.getD (slotAt c sl).toNat 0):=and_mask _ 32 oc (hws _)
    unfold Rs.step; (try unfold Rs.look); dsimp only; (try rw [←k1]); (try rw [k2]); (repeat' (first | rw [if_pos (by first | omega | assumption)] | rw [if_neg (by first | omega | assumption | simp)])) <;> rfl
   exact ret_ok (post:=[.res (RsR rs c (⟨(sl+1),false,left,(named++[(bAnd .u64 (A.ws.getD (slotAt c sl).toNat 0) 4294967295)]),kept,given,none⟩:Rs)),Ed ra (A.load (slotAt c sl)) false 0,Ea (A.load (slotAt c sl))]) [3,0,1] kR ⟨(by first | (rw [e]; done) | (rw [e]; rfl)),(by first | (rw [e]; done) | (rw [e]; kernel_rfl))⟩
 ·replace h_2:=bneF h_2
  refine gQ rs (gO (InK .i64 (sl+1)) og (gQ rs (gS [.c qaQ,.c qch,.c qaR,.c [1,1,1]] (qG (kV 0 [.ww,.ww,.ww,.e 0,.ww,.ww,.ww,.ww,.e 0,.ww]) [0,63] (.e rs (.e rs .n)) .n (gX [.sp [63] [.z qaS 1 [0,64]] [.e 0]] (gB ((sl+1)==c.slots) (fun h_6 => ?_) (fun h_6 => ?_)))))))
  ·replace h_6:=beqT h_6
   refine gS [.o qaS 1,.c qaR,.c [1,1,1]] (gC (some 65) [0,1,2,3,4] call92 (rs_next c rs (sl+1) left named kept given al an ak ag cl cn ck cg gp oM hl.1 oM (by first | omega | (simp; omega))) (gX [.z qaT 3 [68]] (gS [.o qaT 3,.c qci,.c [1,1,1]] ?_)))
   refine go_by (some 69) (ldO prog _) (some (.pointer (some ⟨rs,10,none⟩),false,1)) (R_peek 2 (R:=RsR rs c (Rs.next c (⟨(sl+1),false,left,named,kept,given,none⟩:Rs))) kR rs 10 (.bool ((Rs.next c (⟨(sl+1),false,left,named,kept,given,none⟩:Rs)).over)) (peek_box (fun h=>⟨_,_,_,rfl,rfl⟩))) kR ?_
   rintro v L2 ⟨rfl,rfl⟩
   refine gX [] (gW0 (.bool ((Rs.next c (⟨(sl+1),false,left,named,kept,given,none⟩:Rs)).over)) [Ed ra (A.load (slotAt c sl)) false 0,Ea (A.load (slotAt c sl)),.res (RsR rs c (Rs.next c (⟨(sl+1),false,left,named,kept,given,none⟩:Rs)))] ?_)
   have e:Rs.step c (⟨sl,false,left,named,kept,given,none⟩:Rs) A=((Rs.next c (⟨(sl+1),false,left,named,kept,given,none⟩:Rs)),(A.load (slotAt c sl))):=by
    have k1:=shr_hi (hws (slotAt c sl).toNat)
    have k2:bAnd .u64 (A.ws.getD (slotAt c sl).toNat 0) 4294967295=lo32 (A.ws.getD (slotAt c sl).toNat 0):=and_mask _ 32 oc (hws _)
    unfold Rs.step; (try unfold Rs.look); dsimp only; (try rw [←k1]); (try rw [k2]); (repeat' (first | rw [if_pos (by first | omega | assumption)] | rw [if_neg (by first | omega | assumption | simp)])) <;> rfl
   exact ret_ok (post:=[.res (RsR rs c (Rs.next c (⟨(sl+1),false,left,named,kept,given,none⟩:Rs))),Ed ra (A.load (slotAt c sl)) false 0,Ea (A.load (slotAt c sl))]) [2,0,1] kR ⟨(by first | (rw [e]; done) | (rw [e]; rfl)),(by first | (rw [e]; done) | (rw [e]; kernel_rfl))⟩
  ·replace h_6:=beqF h_6
   refine gQ rs (gW0 (.bool false) [EA rs c (sl+1) false al left.length cl an named.length cn ak kept.length ck ag given.length cg gp,Ec al cl left,Ec an cn named,Ec ak ck kept,Ec ag cg given,Ed ra (A.load (slotAt c sl)) false 0,Ea (A.load (slotAt c sl))] ?_)
   refine ret_view (L':=[EA rs c (sl+1) false al left.length cl an named.length cn ak kept.length ck ag given.length cg gp,Ec al cl left,Ec an cn named,Ec ak ck kept,Ec ag cg given,Ed ra (A.load (slotAt c sl)) false 0,Ea (A.load (slotAt c sl)),.res (dens [])]) view_unit ?_
   refine ret_view (L':=[Ed ra (A.load (slotAt c sl)) false 0,Ea (A.load (slotAt c sl)),.res (RsR rs c (⟨(sl+1),false,left,named,kept,given,none⟩:Rs))]) (vK (rsI (⟨(sl+1),false,left,named,kept,given,none⟩:Rs)) (rsL rs c (⟨(sl+1),false,left,named,kept,given,none⟩:Rs)) (⟨al,an,ak,ag,cl,cn,ck,cg,0,gp⟩:RsH) [0,1,2,3,4,7] (fun G hG=>by cases hG)) ?_
   have e:Rs.step c (⟨sl,false,left,named,kept,given,none⟩:Rs) A=((⟨(sl+1),false,left,named,kept,given,none⟩:Rs),(A.load (slotAt c sl))):=by
    have k1:=shr_hi (hws (slotAt c sl).toNat)
    have k2:bAnd .u64 (A.ws.getD (slotAt c sl).toNat 0) 4294967295=lo32 (A.ws.getD (slotAt c sl).toNat 0):=and_mask _ 32 oc (hws _)
    unfold Rs.step; (try unfold Rs.look); dsimp only; (try rw [←k1]); (try rw [k2]); (repeat' (first | rw [if_pos (by first | omega | assumption)] | rw [if_neg (by first | omega | assumption | simp)])) <;> rfl
   exact ret_ok (post:=[.res (RsR rs c (⟨(sl+1),false,left,named,kept,given,none⟩:Rs)),Ed ra (A.load (slotAt c sl)) false 0,Ea (A.load (slotAt c sl))]) [2,0,1] kR ⟨(by first | (rw [e]; done) | (rw [e]; rfl)),(by first | (rw [e]; done) | (rw [e]; kernel_rfl))⟩
theorem rs_StepC(c:Cfg)(rs ra:Nat)(sl:Int)(left named kept given:List Int)(al an ak ag:Option Addr)(cl cn ck cg:Nat)(A:Ar)(gv:Nat)(G:Gv)(hc:c.Ok)(hn:A.ws.length=A.n)(hs : -1000000000≤A.steps∧A.steps≤1000000000)(hsz:(A.n:Int)=sizeOfC c)(hd:sl=c.slots)(hG:GvR c G)(hll:0<left.length)(hl:kept.length+left.length≤100∧given.length≤100∧named.length≤90)(hb:∀b∈left,0≤clsOf c b):
  Ctr prog 41 #[vP rs,vP ra] [EA rs c sl false al left.length cl an named.length cn ak kept.length ck ag given.length cg (vP gv),Ec al cl left,Ec an cn named,Ec ak ck kept,Ec ag cg given,EG gv c G,Ed ra A false 0,Ea A] (Ret (.bool ((Rs.step c (⟨sl,false,left,named,kept,given,some G⟩:Rs) A).1.over)) [.res (RsR rs c ((Rs.step c (⟨sl,false,left,named,kept,given,some G⟩:Rs) A).1)),Ed ra ((Rs.step c (⟨sl,false,left,named,kept,given,some G⟩:Rs) A).2) false 0,Ea ((Rs.step c (⟨sl,false,left,named,kept,given,some G⟩:Rs) A).2)]):=by
 refine cb 106 func41 fun F=>gX [.e 0,.z [0,0,1,1] 0 [0,1]] (gQ rs (gS [.c [0,0,1,1],.c [1,0,1,1],.c [1,1,1]] (qG (kV 0 [.ww,.ww,.ww,.e 0,.ww,.ww,.ww,.ww,.e 0,.t false]) [0,1,20] (.e rs (.e rs (.p ((decide (sl<c.slots))=false) ol .n))) .n (gX [.e 0,.z [0,1,1,1] 5 [0,73,74]] (gQ rs (gS [.o [0,1,1,1] 5,.c [1,1,1,1]] (gC (some 75) [5,6,7] call90 (ref_give_Step c gv ra G A oM oM oM oM hG) (gX [.sp [76,75,6] [.z qcj 0 [0]] [.e 0]] (gQ ((G.step c A).1.ph==0) (gQ ((G.step c A).1.ph==0) (gB ((G.step c A).1.ph==0) (fun h_1 => ?_) (fun h_1 => ?_))))))))))))
 ·replace h_1:=beqT h_1
  refine gS [.c qcj,.c [1,0,1,0,1,1,1,1],.c [1,1,1,1,1]] (zG (zN [0,1,2,3,4,5,6,7,8,9,10] (kV 0 [.w,.w,.w,.w,.e 0,.w,.w,.w,.e 0,.h (.s 1),.h (.j 1 0)]) [0,77,78,79,80,81,82,83,84,85,86,87] [11] (.e rs (.e rs (.p (al=al∧left.length=left.length) ⟨rfl,oe⟩ (.p ((0:Int)≤0∧0<(left.length:Int)) oW (.e (slAt al 0 1) (.p (0<left.length) oW .n)))))) ⟨?_,trivial⟩))
  refine zX .w (sN fun b_11_1=>(sV ?_))
  refine zN [] (kV 0 [.w,.w,.w,.w,.e 0]) [88,0,77,78,79,80,81] [12] (.e rs .n) ⟨?_,trivial⟩
  refine zB (some 89) (appO prog _) (some (.slice ag (given).length cg,.slice (some ⟨b_11_1,0,none⟩) 1 1,(3,1,8))) (R_append 4 (a:=ag) (c:=cg) (enc:=encI .i64) (d:=0) (sz:=1) (xs:=given) (te:=3) kR (.slice (some ⟨b_11_1,0,none⟩) 1 1) [(left.getD 0 0)] (src_pts (i:=8) (t:=3) kR) (oneI _) 8 oW oW) ?_
  rintro v L2 ⟨a_12_1,c_12_1,rfl,rfl⟩
  refine zN [13,14] [(0,.w),(13,.w),(14,.w)] [89,0,77,90,91] [15] .n ⟨?_,trivial⟩
  refine zX (.e 0) (sQ rs (sK ?_))
  refine zE [] [] [0] .n (gX [.e 0,.z qck 5 [0,92,96]] (gQ rs (gS [.o qck 5,.c qbF,.c [1,1,1,1,1]] ?_)))
  refine go_by (some 97) (cutO prog _) (some (.slice al (left).length cl,some (vI 1),none,1)) (R_cutL 1 (a:=al) (c:=cl) (enc:=encI .i64) (d:=0) (sz:=1) (xs:=left) (te:=3) kR .i64 1 ⟨oW,oW⟩) kR ?_
  rintro v L2 ⟨a_2,c_3,rfl,rfl⟩
  refine gX [.e 0,.z qbF 1 [0,100]] (gQ rs (gS [.o qbF 1,.c [1,1,1,1,1]] (gC (some 101) [0,1,2,3,4] call92 (rs_next c rs sl (left.drop 1) named kept (given++[(left.getD 0 0)]) a_2 an ak a_12_1 c_3 cn ck c_12_1 (vP gv) oM om (fun b h=>hb b (List.mem_of_mem_drop h)) oa) (gX [.z [0,1,1,1,1,1] 3 [104]] (gS [.o [0,1,1,1,1,1] 3,.c [1,1,1,1,1,1]] ?_)))))
  refine go_by (some 105) (ldO prog _) (some (.pointer (some ⟨rs,10,none⟩),false,1)) (R_peek 4 (R:=RsR rs c (Rs.next c (⟨sl,false,(left.drop 1),named,kept,(given++[(left.getD 0 0)]),none⟩:Rs))) kR rs 10 (.bool ((Rs.next c (⟨sl,false,(left.drop 1),named,kept,(given++[(left.getD 0 0)]),none⟩:Rs)).over)) (peek_box (fun h=>⟨_,_,_,rfl,rfl⟩))) kR ?_
  rintro v L2 ⟨rfl,rfl⟩
  refine gX [] (gW0 (.bool ((Rs.next c (⟨sl,false,(left.drop 1),named,kept,(given++[(left.getD 0 0)]),none⟩:Rs)).over)) [EG gv c ((G.step c A).1),Ed ra ((G.step c A).2) false 0,Ea ((G.step c A).2),.pts b_11_1 [vI (left.getD 0 0)] 3,.res (RsR rs c (Rs.next c (⟨sl,false,(left.drop 1),named,kept,(given++[(left.getD 0 0)]),none⟩:Rs)))] ?_)
  have e:Rs.step c (⟨sl,false,left,named,kept,given,some G⟩:Rs) A=((Rs.next c (⟨sl,false,(left.drop 1),named,kept,(given++[(left.getD 0 0)]),none⟩:Rs)),(G.step c A).2):=by
   unfold Rs.step; (try unfold Rs.look); dsimp only; (repeat' (first | rw [if_pos (by first | omega | assumption)] | rw [if_neg (by first | omega | assumption | simp)])) <;> rfl
  exact ret_ok (post:=[.res (RsR rs c (Rs.next c (⟨sl,false,(left.drop 1),named,kept,(given++[(left.getD 0 0)]),none⟩:Rs))),Ed ra ((G.step c A).2) false 0,Ea ((G.step c A).2)]) [4,1,2] kR ⟨(by first | (rw [e]; done) | (rw [e]; rfl)),(by first | (rw [e]; done) | (rw [e]; kernel_rfl))⟩
 ·replace h_1:=beqF h_1
  refine gQ rs (gW0 (.bool false) [EA rs c sl false al left.length cl an named.length cn ak kept.length ck ag given.length cg (vP gv),Ec al cl left,Ec an cn named,Ec ak ck kept,Ec ag cg given,EG gv c ((G.step c A).1),Ed ra ((G.step c A).2) false 0,Ea ((G.step c A).2)] ?_)
  refine ret_view (L':=[EA rs c sl false al left.length cl an named.length cn ak kept.length ck ag given.length cg (vP gv),Ec al cl left,Ec an cn named,Ec ak ck kept,Ec ag cg given,.res (dens [EG gv c ((G.step c A).1)]),Ed ra ((G.step c A).2) false 0,Ea ((G.step c A).2)]) (view_fold 5 (e:=EG gv c ((G.step c A).1)) kR) ?_
  refine ret_view (L':=[Ed ra ((G.step c A).2) false 0,Ea ((G.step c A).2),.res (RsR rs c (⟨sl,false,left,named,kept,given,(some (G.step c A).1)⟩:Rs))]) (vK (rsI (⟨sl,false,left,named,kept,given,(some (G.step c A).1)⟩:Rs)) (rsL rs c (⟨sl,false,left,named,kept,given,(some (G.step c A).1)⟩:Rs)) (⟨al,an,ak,ag,cl,cn,ck,cg,gv,vP gv⟩:RsH) [0,1,2,3,4,5] (fun G hG=>rfl)) ?_
  have e:Rs.step c (⟨sl,false,left,named,kept,given,some G⟩:Rs) A=((⟨sl,false,left,named,kept,given,(some (G.step c A).1)⟩:Rs),(G.step c A).2):=by
   unfold Rs.step; (try unfold Rs.look); dsimp only; (repeat' (first | rw [if_pos (by first | omega | assumption)] | rw [if_neg (by first | omega | assumption | simp)])) <;> rfl
  exact ret_ok (post:=[.res (RsR rs c (⟨sl,false,left,named,kept,given,(some (G.step c A).1)⟩:Rs)),Ed ra ((G.step c A).2) false 0,Ea ((G.step c A).2)]) [2,0,1] kR ⟨(by first | (rw [e]; done) | (rw [e]; rfl)),(by first | (rw [e]; done) | (rw [e]; kernel_rfl))⟩
theorem rs_Step(c:Cfg)(rs ra:Nat)(S:Rs)(A:Ar)(hc:c.Ok)(hn:A.ws.length=A.n)(hs : -1000000000≤A.steps∧A.steps≤1000000000)(hsz:(A.n:Int)=sizeOfC c)(hws:RngW A.ws)(hS:S.Ok c):
  Ctr prog 41 #[vP rs,vP ra] [.res (RsR rs c S),Ed ra A false 0,Ea A] (Ret (.bool ((S.step c A).1.over)) [.res (RsR rs c ((S.step c A).1)),Ed ra ((S.step c A).2) false 0,Ea ((S.step c A).2)]):=by
 obtain⟨sl,over,left,named,kept,given,give⟩:=S
 obtain⟨h1,h2,h3,h4,h5⟩:=hS
 simp only at h1 h2 h3 h4 h5
 refine oC (I:=rsI ⟨sl,over,left,named,kept,given,give⟩) (LL:=rsL rs c ⟨sl,over,left,named,kept,given,give⟩) 0 ?_
 rintro⟨al,an,ak,ag,cl,cn,ck,cg,gp,gv⟩ hI
 cases over with
 | true=>
  have e:Rs.step c ⟨sl,true,left,named,kept,given,give⟩ A=(⟨sl,true,left,named,kept,given,give⟩,A):=by simp [Rs.step]
  refine cP [2] (rs_StepA c rs ra sl al an ak ag left.length named.length kept.length given.length cl cn ck cg gv) ?_
  rintro v post ⟨rfl,rfl⟩
  rw [e]
  exact⟨_,(vK (rsI ⟨sl,true,left,named,kept,given,give⟩) (rsL rs c ⟨sl,true,left,named,kept,given,give⟩) ⟨al,an,ak,ag,cl,cn,ck,cg,gp,gv⟩ [7,2,3,4,5,6] hI).trans (vQ [2,0,1]),rfl,rfl⟩
 | false=>
  by_cases hd:sl<c.slots
  ·have hg:=h5 rfl hd
   subst hg
   exact ctr_pre [2,3,4,5,6,0,1] kR (rs_StepB c rs ra sl left named kept given al an ak ag cl cn ck cg A gv hc hn hs hsz ⟨h1.1,hd⟩ hws h2 h3)
  ·obtain⟨G,hg,hG,hl⟩:=h4 rfl oa
   subst hg
   have hv:=hI G rfl
   simp only at hv
   subst hv
   exact ctr_view (view_unfold 7 (e:=EG gp c G) kR) (ctr_pre [2,3,4,5,6,7,0,1] kR (rs_StepC c rs ra sl left named kept given al an ak ag cl cn ck cg A gp G hc hn hs hsz oa hG hl h2 h3))
end Go.Proofs.YtpcaijopodhdgaaGreatDoor
namespace Go.Proofs.YtpcaijopodhdgaaGreatDoor
open Go.Proofs.Tryz
open Go.Sx
theorem scan_Kept0(c:Cfg)(s m:Nat)(sl:Int)(left kept:List Int)(al ak ag:Option Addr)(cl ck cg ng:Nat)(gp:Value)(hl:kept.length+left.length≤100):
  Ctr prog 76 #[vP s] [EN s c sl m al left.length cl ak kept.length ck ag ng cg gp,Ec al cl left,Ec ak ck kept] (fun v L => ∃(a2:Option Addr) (c2:Nat),v = .slice a2 ((kept++left).length) c2∧L=[EN s c sl m al left.length cl ak kept.length ck ag ng cg gp,Ec al cl left,Ec ak ck kept,Ec a2 c2 (kept++left)]):=by
 refine cb 15 func76 fun F=>gX [.z [0,1,1] 0 [0]] (gS [.c [0,1,1],.c [1,1,1]] (zG (zN [0,1,2,3,4,5,6,7] (kV 0 [.w,.w,.w,.e 0,.w,.w,.w,.e 0]) [0,5,6,7,8,9,10,11,12] [8] (.e s (.e s .n)) ⟨?_,trivial⟩)))
 refine zX .w (sN fun b_8_1=>(sV ?_))
 refine zN [] [] [13] [9] .n ⟨?_,trivial⟩
 refine zC (some 14) [3,2,1] call140 (concat b_8_1 ak al ck cl kept left oM oM) ?_
 rintro v post ⟨a2_9_1,c2_9_1,rfl,rfl⟩
 exact zE [10] (kV 10 [.w]) [2] .n (gX [] (gJ [0,2,1,3] ⟨a2_9_1,c2_9_1,rfl,rfl⟩))
theorem scan_Kept(c:Cfg)(s:Nat)(S:Sc)(hl:S.kept.length+S.left.length≤100):
  Ctr prog 76 #[vP s] [.res (ScanR s c S)] (fun v L => ∃(a2:Option Addr) (c2:Nat),v = .slice a2 ((S.kept++S.left).length) c2∧L=[.res (ScanR s c S),Ec a2 c2 (S.kept++S.left)]):=by
 refine oC (I:=fun _:ScH=>True) (LL:=scanL s c S) 0 ?_
 rintro h -
 obtain⟨sl,named,left,kept,given,give⟩:=S
 cases give with
 | none=>
  refine cP [0,2,3] (scan_Kept0 c s h.m sl left kept h.al h.ak h.ag h.cl h.ck h.cg given.length (gpV h.gp none) hl) ?_
  rintro v post ⟨a2,c2,rfl,rfl⟩
  exact⟨_,(vK (fun _:ScH=>True) (scanL s c ⟨sl,named,left,kept,given,none⟩) h [2,0,3,4,1] trivial).trans (vQ [1,0]),a2,c2,rfl,rfl⟩
 | some G=>
  refine cP [0,2,3] (scan_Kept0 c s h.m sl left kept h.al h.ak h.ag h.cl h.ck h.cg given.length (gpV h.gp (some G)) hl) ?_
  rintro v post ⟨a2,c2,rfl,rfl⟩
  exact⟨_,(vK (fun _:ScH=>True) (scanL s c ⟨sl,named,left,kept,given,some G⟩) h [3,0,4,5,1,2] trivial).trans (vQ [1,0]),a2,c2,rfl,rfl⟩
end Go.Proofs.YtpcaijopodhdgaaGreatDoor
namespace Go.Proofs.YtpcaijopodhdgaaGreatDoor
open Go.Proofs.Tryz
open Go.Sx
abbrev EZ(x0:Nat)(c1:Cfg)(x2:Int)(x3:Bool)(x4:Option Addr)(x5:Nat)(x6:Nat): Ent:=.pts x0 [.int .i64 c1.topics,.int .i64 c1.small,.int .i64 c1.slots,.int .i64 c1.clients,.int .i64 c1.s0,.int .i64 c1.n0,.int .i64 c1.s1,.int .i64 c1.n1,.int .i64 c1.retry,.int .i64 x2,.bool x3,.slice x4 x5 x6,.slice none 0 0,.slice none 0 0,.slice none 0 0,.pointer none] 158
abbrev qcl: List Nat:=[0,0,0,1,0,0,1,0,1,1,1]
abbrev qds: List Nat:=[1,0,0,1,0,0,1,0,1,1,1]
abbrev qdt: List Nat:=[1,1,0,0,1,0,1,1,1]
theorem ref15_New_ok(c:Cfg)(a:Option Addr)(c0:Nat)(xs:List Int)(hc:c.Ok)(hl:xs.length≤100)(hg:goodRow c xs):
  Ctr prog 73 #[cfgV c,.slice a xs.length c0] [Ec a c0 xs] (fun v L => ∃(rs:Nat),v=vP rs∧L=[Ec a c0 xs,.res (RsR rs c (newRs xs))]):=by
 refine cb 40 func73 fun F=>gX [.e 1,.z [0,1] 1 [1,2,7]] (gN fun b_1=>gQ b_1 (gS [.o [0,1] 1,.c [1,1]] (gC (some 8) [] call67 (ref_right c oM) (gX [.z [0,1,0,1,1,1] 0 [1,2,6]] (gS [.c [0,1,0,1,1,1],.b 0,.c [1,1,1,1]] ?_)))))
 refine go_loop (ι := Int) (fun i=>[(1,.slice a xs.length c0),(2,vP b_1),(6,vI i)]) (fun i=>[Ef b_1 c,Ec a c0 xs]) (fun i=>(0≤i∧i≤(xs.length:Int))∧∀j:Nat,(j:Int)<i→goodAt c xs j) (fun i=>((xs.length:Int)-i).toNat) 0 [1,2,6] [1,0] kR kR kR kR ⟨oa,fun j h=>oa⟩ ?_
 intro i J_2 hIJ_2 hJ_2
 have hx:=hIJ_2
 refine gX [.sp [14] [.z qcl 0 [1,2,6]] [.z [0,1,1,1,1] 0 [1,2]]] (gB (decide (i<(xs.length:Int))) (fun h_3 => ?_) (fun h_3 => ?_))
 ·replace h_3:=decT h_3
  refine gS [.c qcl,.c qds,.b 1,.c qdt,.j J_2,.b 0,.c [1,1,1,1]] (zG (zE [0,1,2,3,4,5,6,7,8,9,10,11,12,13,14,15,16] (kV 0 [.e 0,.w,.w,.h (.s 1),.h (.j 1 i.toNat),.q (vI (clsOf c (xs.getD i.toNat 0))),.t false,.w,.w,.w,.cut (.slice a i.toNat c0),.w,.w,.h (.s 1),.h (.j 1 i.toNat),.q (.bool (hasN xs i.toNat (xs.getD i.toNat 0))),.t false]) [1,2,6,33] (.e b_1 (.p (a=a∧xs.length=xs.length) ⟨rfl,oe⟩ (.p ((0:Int)≤i∧i<(xs.length:Int)) oW (.e (slAt a i.toNat 1) (.p (i.toNat<xs.length) oW (.q (lQ [] call98 (ref_Class c (xs.getD i.toNat 0) oM)) (.p ((decide ((clsOf c (xs.getD i.toNat 0))<0))=false) (decide_eq_false (by have:=(hg i.toNat oa).1; omega)) (.p (LawQ prog F [Ef b_1 c,Ec a c0 xs] (.slice a i.toNat c0) cutO (.slice a (xs).length c0,none,some (vI i),1)) (fun _=>(R_cutH 1 (a:=a) (c:=c0) (enc:=encI .i64) (d:=0) (sz:=1) (xs:=xs) (te:=3) kR .i64 i ⟨oW,oW⟩)) (.p (a=a∧xs.length=xs.length) ⟨rfl,oe⟩ (.p ((0:Int)≤i∧i<(xs.length:Int)) oW (.e (slAt a i.toNat 1) (.p (i.toNat<xs.length) oW (.q (lQ [1] call38 (ref_Has a c0 c0 i.toNat xs (xs.getD i.toNat 0) oa oa)) (.p ((hasN xs i.toNat (xs.getD i.toNat 0))=false) (by exact(hg i.toNat oa).2) .n)))))))))))))) (gX [.n,.z [] 0 [1,2,6]] (gO (InK .i64 (i+1)) oh (gS [.j J_2,.b 0,.c [1,1,1,1]] ?_)))))
  exact go_back hJ_2 (i+1) [0,1] kR kR kR ⟨oa,goodAt_step hx.1.1 hx.2 (by first | omega | exact(hg _ oa).1) (by first | assumption | exact(hg _ oa).2)⟩ oa
 ·replace h_3:=decF h_3
  refine gS [.c [0,1,1,1,1],.c [1,1,1,1,1]] (zG (zN [0,2] [(0,.e 0),(2,.w)] [1,2,34,36] [1] (.e b_1 .n) ⟨?_,trivial⟩))
  refine zX .w (sN fun b_1_1=>(sV ?_))
  refine zN [] [(0,.e 0),(2,.w)] [35,1,2,34,36] [3] (.e b_1 .n) ⟨?_,trivial⟩
  refine lE [Ef b_1 c,Ec a c0 xs,.pts b_1_1 [] 3] ?_
  refine lzOp_view (view_empty 2 (b:=b_1_1) (encI .i64) 0 1 3 (sizedI _) kR) ?_
  refine zB (some 37) (appO prog _) (some (.slice (some ⟨b_1_1,0,none⟩) ([]).length 0,.slice a xs.length c0,(3,1,8))) (R_append 2 (a:=(some ⟨b_1_1,0,none⟩)) (c:=0) (enc:=encI .i64) (d:=0) (sz:=1) (xs:=[]) (te:=3) kR (.slice a xs.length c0) xs (src_sl (i:=1) (d:=0) (sz:=1) (t:=3) kR) (oneI _) 8 oW oW) ?_
  rintro v L2 ⟨a_3_1,c_3_1,rfl,rfl⟩
  refine zN [4] [(0,.e 0),(4,.w)] [37,2,34,38] [5] (.e b_1 .n) ⟨?_,trivial⟩
  refine zX .w (sN fun b_5_1=>(sV ?_))
  refine zE [6] (kV 6 [.w]) [4] .n (gX [] (gW0 (vP b_5_1) [Ef b_1 c,Ec a c0 xs,Ec a_3_1 c_3_1 ([]++xs),EZ b_5_1 c 0 false a_3_1 (([]++xs).length) c_3_1] ?_))
  refine ret_view (L':=[Ef b_1 c,Ec a c0 xs,Ec a_3_1 c_3_1 ([]++xs),EZ b_5_1 c 0 false a_3_1 (([]++xs).length) c_3_1,Ec none 0 []]) (view_nil (encI .i64) 0 1 3 (sizedI _)) ?_
  refine ret_view (L':=[Ef b_1 c,Ec a c0 xs,Ec a_3_1 c_3_1 ([]++xs),EZ b_5_1 c 0 false a_3_1 (([]++xs).length) c_3_1,Ec none 0 [],Ec none 0 []]) (view_nil (encI .i64) 0 1 3 (sizedI _)) ?_
  refine ret_view (L':=[Ef b_1 c,Ec a c0 xs,Ec a_3_1 c_3_1 ([]++xs),EZ b_5_1 c 0 false a_3_1 (([]++xs).length) c_3_1,Ec none 0 [],Ec none 0 [],Ec none 0 []]) (view_nil (encI .i64) 0 1 3 (sizedI _)) ?_
  refine ret_view (L':=[Ef b_1 c,Ec a c0 xs,Ec a_3_1 c_3_1 ([]++xs),EZ b_5_1 c 0 false a_3_1 (([]++xs).length) c_3_1,Ec none 0 [],Ec none 0 [],Ec none 0 [],.res (dens [])]) view_unit ?_
  refine ret_view (L':=[Ef b_1 c,Ec a c0 xs,.res (RsR b_5_1 c (newRs xs))]) (vK (rsI (newRs xs)) (rsL b_5_1 c (newRs xs)) (⟨a_3_1,none,none,none,c_3_1,0,0,0,0,.pointer none⟩:RsH) [3,2,4,5,6,7] (fun G hG=>by cases hG)) ?_
  exact ret_ok (post:=[Ec a c0 xs,.res (RsR b_5_1 c (newRs xs))]) [1,2] kR ⟨b_5_1,rfl,rfl⟩
end Go.Proofs.YtpcaijopodhdgaaGreatDoor
namespace Go.Proofs.YtpcaijopodhdgaaGreatDoor
open Go.Proofs.Tryz
open Go.Sx
end Go.Proofs.YtpcaijopodhdgaaGreatDoor
namespace Go.Proofs.YtpcaijopodhdgaaGreatDoor
open Go.Proofs.Tryz
open Go.RowKit Go.Extern.Stop Go.Stop Go.Extern
theorem as_nil(t:Value)(w:World):
  Calls prog 62 #[.nilIface,t] w fun e w'=>e = .returned (.bool false)∧w'=w:=by
 go_enter func62,ntmps62
 go_wp2
 go_ret
 exact⟨rfl,rfl⟩
theorem Tryz.valueOfP(t:Addr)(w:World): (ReflectliteValue.unpack (.iface 125 (.pointer (some t)))).run prog w
  = .ok (.agg #[.pointer (some ⟨1,125,none⟩),.pointer (some ⟨w.heap.size,0,none⟩),.int .u64 150]) (w.alloc (.cells #[.pointer (some t)] 125)):=by kernel_rfl
theorem Tryz.typeP(a:Addr)(w:World): (ReflectliteValue.methodAny (ReflectliteValue.valueError "reflectlite.Value.Type" 0) (fun t _ _ _=>ReflectliteType.toType t) #[.agg #[.pointer (some ⟨1,125,none⟩),.pointer (some a),.int .u64 150]]).run prog w
  = .ok (.iface 229 (.agg #[.pointer (some ⟨1,125,none⟩)])) w:=by kernel_rfl
theorem Tryz.methodKind(h:Value)(w:World): (Go.method 398 229 (.agg #[h]) "Kind").run prog w = .ok (222,h) w:=by kernel_rfl
theorem Tryz.kindP(w:World): ((ReflectliteType.abiMethod fun t=>Functor.map (fun a:Nat=>Value.int IntKind.u8 (a:Int)) (Rtype.kind t)) #[.pointer (some ⟨1,125,none⟩)]).run prog w = .ok (.int .u8 22) w:=by kernel_rfl
theorem Tryz.kindE(w:World): ((ReflectliteType.abiMethod fun t=>Functor.map (fun a:Nat=>Value.int IntKind.u8 (a:Int)) (Rtype.kind t)) #[.pointer (some ⟨1,42,none⟩)]).run prog w = .ok (.int .u8 2) w:=by kernel_rfl
theorem rlm(z:Sem Value)(f:TypeId→Addr→Nat→Nat→Sem Value)(v:Value):
  ReflectliteValue.method z f #[v]=(do match ←ReflectliteValue.parts v with | none=>z | some (t,a,fl)=>f t a fl (fl % 32)):=rfl
theorem Tryz.partsP(a:Addr)(w:World): (ReflectliteValue.parts (.agg #[.pointer (some ⟨1,125,none⟩),.pointer (some a),.int .u64 150])).run prog w = .ok (some (125,a,150)) w:=by kernel_rfl
theorem Tryz.isNilP(a p:Addr)(W:World)(ha:W.cell? a=some (.pointer (some p))):
  (ReflectliteValue.method (ReflectliteValue.valueError "reflectlite.Value.IsNil" 0) ReflectliteValue.isNil #[.agg #[.pointer (some ⟨1,125,none⟩),.pointer (some a),.int .u64 150]]).run prog W = .ok (.bool false) W:=by
 rw [rlm]
 simp only [Sem.run_bind,Tryz.partsP,Result.andThen]
 simp [ReflectliteValue.isNil,loadVar,isAgg,underlying,underlying125,ha,Result.andThen]
theorem Tryz.methodElem(h:Value)(w:World): (Go.method 398 229 (.agg #[h]) "Elem").run prog w = .ok (240,.agg #[h]) w:=by kernel_rfl
theorem Tryz.methodImplements(h:Value)(w:World): (Go.method 398 229 (.agg #[h]) "Implements").run prog w = .ok (241,.agg #[h]) w:=by kernel_rfl
theorem Tryz.methodAssignableTo(h:Value)(w:World): (Go.method 398 229 (.agg #[h]) "AssignableTo").run prog w = .ok (238,.agg #[h]) w:=by kernel_rfl
theorem Tryz.elemP(w:World): (ReflectliteType.method ReflectliteType.elem #[.agg #[.pointer (some ⟨1,125,none⟩)]]).run prog w = .ok (.iface 229 (.agg #[.pointer (some ⟨1,42,none⟩)])) w:=by kernel_rfl
theorem Tryz.implementsE(w:World): (ReflectliteType.relation "Implements" ReflectliteType.implements_ #[.agg #[.pointer (some ⟨1,42,none⟩)],.iface 229 (.agg #[.pointer (some ⟨1,32,none⟩)])]).run prog w = .ok (.bool true) w:=by kernel_rfl
theorem Tryz.typeOfE(v:Value)(w:World): (ReflectliteType.typeOf #[.iface 42 v]).run prog w = .ok (.iface 229 (.agg #[.pointer (some ⟨1,42,none⟩)])) w:=by kernel_rfl
theorem Tryz.assignableE(w:World): (ReflectliteType.relation "AssignableTo" ReflectliteType.assignableTo #[.agg #[.pointer (some ⟨1,42,none⟩)],.iface 229 (.agg #[.pointer (some ⟨1,42,none⟩)])]).run prog w = .ok (.bool true) w:=by kernel_rfl
theorem Tryz.valueOfE(e:Int)(w:World): (ReflectliteValue.unpack (.iface 42 (.int .i64 e))).run prog w
  = .ok (.agg #[.pointer (some ⟨1,42,none⟩),.pointer (some ⟨w.heap.size,0,none⟩),.int .u64 130]) (w.alloc (.cells #[.int .i64 e] 42)):=by kernel_rfl
theorem Tryz.elemOfP(w:World): (Rtype.elem? 125).run prog w = .ok (some 42) w:=by kernel_rfl
theorem Tryz.mkE(p:Addr)(w:World): (ReflectliteValue.mk 42 p ReflectliteValue.flagAddr).run prog w = .ok (.agg #[.pointer (some ⟨1,42,none⟩),.pointer (some p),.int .u64 386]) w:=by kernel_rfl
theorem Tryz.elemVP(a p:Addr)(W:World)(ha:W.cell? a=some (.pointer (some p))):
  (ReflectliteValue.method (ReflectliteValue.valueError "reflectlite.Value.Elem" 0) ReflectliteValue.elem #[.agg #[.pointer (some ⟨1,125,none⟩),.pointer (some a),.int .u64 150]]).run prog W
   = .ok (.agg #[.pointer (some ⟨1,42,none⟩),.pointer (some p),.int .u64 386]) W:=by
 rw [rlm]
 simp only [Sem.run_bind,Tryz.partsP,Result.andThen]
 simp [ReflectliteValue.elem,loadVar,isAgg,underlying,underlying125,ha,Result.andThen,Tryz.elemOfP,Tryz.mkE]
theorem rls: ∃s1 s2 s3:String,∀v x:Value,ReflectliteValue.set #[v,x]=(do
  let (some (dst,a,fl),some (src,b,_)):=(←ReflectliteValue.parts v,←ReflectliteValue.parts x)
   | unsupported (.noEntry s1)
  if fl / ReflectliteValue.flagAddr % 2==0 then unsupported (.noEntry s2)
  let val ←loadVar src b
  if ←Rtype.directlyAssignable dst src then storeVar dst a val
  else if ←Rtype.implements dst src then
   if (←Rtype.kind src)==20 then
    match val with
    | .nilIface=>unsupported (.noEntry s3)
    | _=>storeVar dst a val
   else storeVar dst a (.iface src val)
  else panicString ("reflectlite.Set: value of type " ++ (←Rtype.spelt src) ++ " is not assignable to type " ++ (←Rtype.spelt dst))
  pure (.tuple #[])):=⟨_,_,_,fun _ _=>rfl⟩
theorem Tryz.partsEa(a:Addr)(w:World): (ReflectliteValue.parts (.agg #[.pointer (some ⟨1,42,none⟩),.pointer (some a),.int .u64 386])).run prog w = .ok (some (42,a,386)) w:=by kernel_rfl
theorem Tryz.partsE(a:Addr)(w:World): (ReflectliteValue.parts (.agg #[.pointer (some ⟨1,42,none⟩),.pointer (some a),.int .u64 130])).run prog w = .ok (some (42,a,130)) w:=by kernel_rfl
theorem Tryz.directE(w:World): (Rtype.directlyAssignable 42 42).run prog w = .ok true w:=by kernel_rfl
theorem Tryz.setE(ta b:Addr)(e:Int)(old:Value)(W:World)(hb:W.cell? b=some (.int .i64 e))(ht:W.cell? ta=some old)(hf:W.frozen? ta=false):
  (ReflectliteValue.set #[.agg #[.pointer (some ⟨1,42,none⟩),.pointer (some ta),.int .u64 386],.agg #[.pointer (some ⟨1,42,none⟩),.pointer (some b),.int .u64 130]]).run prog W
   = .ok (.tuple #[]) (W.setCell ta (.int .i64 e)):=by
 obtain⟨s1,s2,s3,hrls⟩:=rls
 rw [hrls]
 simp only [Sem.run_bind,Tryz.partsEa,Tryz.partsE,Result.andThen]
 simp [ReflectliteValue.flagAddr,loadVar,isAgg,underlying,underlying42,hb,Result.andThen,Tryz.directE,storeVar,Value.cells,storeCells,Addr.add]
 rw [run_store prog W ta _ _ (by rfl)]
 simp [ht,hf]
set_option maxHeartbeats 4000000 in
theorem as_hit(e:Int)(t:Addr)(old:Value)(w:World)(hg:w.cell? ⟨0,0,none⟩=some (.iface 229 (.agg #[.pointer (some ⟨1,32,none⟩)])))(ht0:w.cell? t=some old)(hf0:w.frozen? t=false):
  Calls prog 62 #[.iface 42 (.int .i64 e),.iface 125 (.pointer (some t))] w fun ev w'=>ev = .returned (.bool true)∧w'=((((w.alloc (.cells #[.pointer (some t)] 125)).alloc (.cells #[.pointer (some ⟨1,125,none⟩),.pointer (some ⟨w.heap.size,0,none⟩),.int .u64 150] 186)).alloc (.cells #[.pointer (some ⟨1,125,none⟩),.pointer (some ⟨w.heap.size,0,none⟩),.int .u64 150] 186)).alloc (.cells #[.int .i64 e] 42)).setCell t (.int .i64 e):=by
 have h6 := @run_callFunc_extern prog 122 _ (fun args=>ReflectliteValue.unpack (args.getD 0 (.tuple #[]))) func122 (by kernel_rfl) (by kernel_rfl) (by kernel_rfl) (by kernel_rfl)
 have h7 := @run_callFunc_extern prog 123 _ (ReflectliteValue.methodAny (ReflectliteValue.valueError "reflectlite.Value.Type" 0) (fun t _ _ _=>ReflectliteType.toType t)) func123 (by kernel_rfl) (by kernel_rfl) (by kernel_rfl) (by kernel_rfl)
 have h8 := @run_callFunc_extern prog 124 _ (ReflectliteValue.method (ReflectliteValue.valueError "reflectlite.Value.IsNil" 0) ReflectliteValue.isNil) func124 (by kernel_rfl) (by kernel_rfl) (by kernel_rfl) (by kernel_rfl)
 have h27 := @run_callFunc_extern prog 222 _ (ReflectliteType.abiMethod fun t=>do pure (.int .u8 (←Rtype.kind t))) func222 (by kernel_rfl) (by kernel_rfl) (by kernel_rfl) (by kernel_rfl)
 have h37 := @run_callFunc_extern prog 240 _ (ReflectliteType.method ReflectliteType.elem) func240 (by kernel_rfl) (by kernel_rfl) (by kernel_rfl) (by kernel_rfl)
 have h38 := @run_callFunc_extern prog 241 _ (ReflectliteType.relation "Implements" ReflectliteType.implements_) func241 (by kernel_rfl) (by kernel_rfl) (by kernel_rfl) (by kernel_rfl)
 have h10 := @run_callFunc_extern prog 167 _ (ReflectliteType.typeOf) func167 (by kernel_rfl) (by kernel_rfl) (by kernel_rfl) (by kernel_rfl)
 have h35 := @run_callFunc_extern prog 238 _ (ReflectliteType.relation "AssignableTo" ReflectliteType.assignableTo) func238 (by kernel_rfl) (by kernel_rfl) (by kernel_rfl) (by kernel_rfl)
 have h11 := @run_callFunc_extern prog 168 _ (ReflectliteValue.method (ReflectliteValue.valueError "reflectlite.Value.Elem" 0) ReflectliteValue.elem) func168 (by kernel_rfl) (by kernel_rfl) (by kernel_rfl) (by kernel_rfl)
 have h12 := @run_callFunc_extern prog 169 _ (ReflectliteValue.set) func169 (by kernel_rfl) (by kernel_rfl) (by kernel_rfl) (by kernel_rfl)
 have xtypeOfE:=Tryz.typeOfE
 have xmethodAssignableTo:=Tryz.methodAssignableTo
 have xassignableE:=Tryz.assignableE
 have xvalueOfE:=Tryz.valueOfE
 have xvalueOfP:=Tryz.valueOfP
 have xtypeP:=Tryz.typeP
 have xmethodKind:=Tryz.methodKind
 have xmethodElem:=Tryz.methodElem
 have xmethodImplements:=Tryz.methodImplements
 have xkindP:=Tryz.kindP
 have xkindE:=Tryz.kindE
 have xelemP:=Tryz.elemP
 have ximplementsE:=Tryz.implementsE
 have n8:=Tryz.isNilP ⟨w.heap.size,0,none⟩ t ((w.alloc (.cells #[.pointer (some t)] 125)).alloc (.cells #[.pointer (some ⟨1,125,none⟩),.pointer (some ⟨w.heap.size,0,none⟩),.int .u64 150] 186)) (by simp)
 have hlt:0<w.heap.size:=by
  rcases Nat.eq_zero_or_pos w.heap.size with h0 | h
  ·simp [World.cell?,h0] at hg
  ·exact h
 have hg2:((w.alloc (.cells #[.pointer (some t)] 125)).alloc (.cells #[.pointer (some ⟨1,125,none⟩),.pointer (some ⟨w.heap.size,0,none⟩),.int .u64 150] 186)).cell? ⟨0,0,none⟩=some (.iface 229 (.agg #[.pointer (some ⟨1,32,none⟩)])):=by
  rw [World.cell?_alloc_lt _ _ ⟨0,0,none⟩ (by simp),World.cell?_alloc_lt _ _ ⟨0,0,none⟩ hlt]; exact hg
 have htl:t.block<w.heap.size:=by
  rcases Nat.lt_or_ge t.block w.heap.size with h | h
  ·exact h
  ·simp [World.cell?,Array.getElem?_eq_none h] at ht0
 have el:=Tryz.elemVP ⟨w.heap.size,0,none⟩ t (((w.alloc (.cells #[.pointer (some t)] 125)).alloc (.cells #[.pointer (some ⟨1,125,none⟩),.pointer (some ⟨w.heap.size,0,none⟩),.int .u64 150] 186)).alloc (.cells #[.pointer (some ⟨1,125,none⟩),.pointer (some ⟨w.heap.size,0,none⟩),.int .u64 150] 186)) (by rw [World.cell?_alloc_lt _ _ ⟨w.heap.size,0,none⟩ om]; simp)
 have st:=Tryz.setE t ⟨w.heap.size+1+1+1,0,none⟩ e old ((((w.alloc (.cells #[.pointer (some t)] 125)).alloc (.cells #[.pointer (some ⟨1,125,none⟩),.pointer (some ⟨w.heap.size,0,none⟩),.int .u64 150] 186)).alloc (.cells #[.pointer (some ⟨1,125,none⟩),.pointer (some ⟨w.heap.size,0,none⟩),.int .u64 150] 186)).alloc (.cells #[.int .i64 e] 42))
  (by rw [World.cell?_alloc_at _ _ _ _ (by simp)]; rfl)
  (by rw [World.cell?_alloc_lt _ _ t om,World.cell?_alloc_lt _ _ t om,World.cell?_alloc_lt _ _ t om,World.cell?_alloc_lt _ _ t htl]; exact ht0)
  (by rw [World.frozen?_alloc_old _ _ t om,World.frozen?_alloc_old _ _ t om,World.frozen?_alloc_old _ _ t om,World.frozen?_alloc_old _ _ t (Nat.ne_of_lt htl)]; exact hf0)
 go_enter func62,ntmps62
 go_wp2
 refine wp_loop_rounds 1 ?_
 rw [rounds_succ]
 go_wp2
 go_ret
 exact⟨rfl,rfl⟩
end Go.Proofs.YtpcaijopodhdgaaGreatDoor
namespace Go.Proofs.YtpcaijopodhdgaaGreatDoor
open Go.Proofs.Tryz
open Go.Sx
def handleV: Value:=.iface 229 (.agg #[.pointer (some ⟨1,32,none⟩)])
theorem as_nilC(t:Value): Ctr prog 62 #[.nilIface,t] [] (Ret (.bool false) []):=by
 intro F w hi
 refine(as_nil t w).mono ?_
 rintro e w' ⟨rfl,rfl⟩
 exact⟨_,_,rfl,⟨rfl,rfl⟩,hi⟩
theorem as_hitC(gt:Nat)(gf:Nat×Nat)(b:Nat)(old k:Int): Ctr prog 62 #[.iface 42 (.int .i64 k),.iface 125 (.pointer (some ⟨b,0,none⟩))] [.raw 0 (.cells #[handleV] gt gf),.pts b [.int .i64 old] 42]
  (Ret (.bool true) [.raw 0 (.cells #[handleV] gt gf),.pts b [.int .i64 k] 42]):=by
 intro F w hi
 have h0:=(hi.one (i:=0) rfl (b:=0) (o:=.cells #[handleV] gt gf) (fun g hg=>hg)).1
 have hb:=(hi.one (i:=1) rfl (b:=b) (o:=.cells #[.int .i64 old] 42 (0,0)) (fun g hg=>hg)).1
 refine(as_hit k ⟨b,0,none⟩ (.int .i64 old) w (by simp [World.cell?,h0,handleV]) (by simp [World.cell?,hb]) (by simp [World.frozen?,hb])).mono ?_
 rintro e w' ⟨rfl,rfl⟩
 refine⟨_,_,rfl,⟨rfl,rfl⟩, ?_⟩
 have h4:In _ F (((((w.alloc (.cells #[.pointer (some ⟨b,0,none⟩)] 125)).alloc (.cells #[.pointer (some ⟨1,125,none⟩),.pointer (some ⟨w.heap.size,0,none⟩),.int .u64 150] 186)).alloc (.cells #[.pointer (some ⟨1,125,none⟩),.pointer (some ⟨w.heap.size,0,none⟩),.int .u64 150] 186)).alloc (.cells #[.int .i64 k] 42))):=(((hi.alloc (.cells #[.pointer (some ⟨b,0,none⟩)] 125)).alloc (.cells #[.pointer (some ⟨1,125,none⟩),.pointer (some ⟨w.heap.size,0,none⟩),.int .u64 150] 186)).alloc (.cells #[.pointer (some ⟨1,125,none⟩),.pointer (some ⟨w.heap.size,0,none⟩),.int .u64 150] 186)).alloc (.cells #[.int .i64 k] 42)
 obtain⟨h5,h6⟩:=h4.one (i:=1) rfl (b:=b) (o:=.cells #[.int .i64 old] 42 (0,0)) (fun g hg=>hg)
 have h7:=h6 (.cells #[.int .i64 k] 42 (0,0)) (.pts b [.int .i64 k] 42) (((((w.alloc (.cells #[.pointer (some ⟨b,0,none⟩)] 125)).alloc (.cells #[.pointer (some ⟨1,125,none⟩),.pointer (some ⟨w.heap.size,0,none⟩),.int .u64 150] 186)).alloc (.cells #[.pointer (some ⟨1,125,none⟩),.pointer (some ⟨w.heap.size,0,none⟩),.int .u64 150] 186)).alloc (.cells #[.int .i64 k] 42)).setCell ⟨b,0,none⟩ (.int .i64 k)) rfl
  (by simp only [World.setCell]; rw [Array.getElem?_modify,if_pos rfl]; exact congrArg _ h5)
  (fun j hj=>by simp only [World.setCell]; rw [Array.getElem?_modify,if_neg (fun h=>hj h.symm)]) rfl rfl rfl
 exact In.left (L:=[.raw 0 (.cells #[handleV] gt gf),.pts b [.int .i64 k] 42]) (M:=[_,_,_,_]) h7
end Go.Proofs.YtpcaijopodhdgaaGreatDoor
